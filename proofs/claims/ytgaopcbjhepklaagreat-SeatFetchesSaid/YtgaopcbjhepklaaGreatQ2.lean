/- Lemmas for the proof, joined from several texts: no statement of its own; their conditions stand in them. -/
import Derived.Test.YtgaopcbjhepklaaGreatQ1
import Derived.Test.YtgaopcbjhepklaaGreatPlB
/- A seat that seeks: in plain terms. -/
namespace Go.Proofs.YtgaopcbjhepklaaGreat
set_option linter.unusedVariables false
theorem w64_id {x : Int} (h : -9000000000000000000 ≤ x ∧ x < 9000000000000000000) : w64 x = x := wrapI (by omega)
section
variable {n k i : Nat}
theorem seekP_0 {n me w : Int} : seekP n me w 0 = ⟨9, me, 0, 0⟩ := by simp [seekP]
theorem seekP_lt (hn : 1 ≤ n ∧ n ≤ 8) (hk : k < n) (h0 : 0 < i) (hi : i < n) : seekP (n : Int) (k : Int) (k : Int) (i : Int) = ⟨10, (((k + i) % n : Nat) : Int), 0, 0⟩ := by
  have e1 : w64 ((n : Int) - 1) = (n : Int) - 1 := w64_id (by omega)
  have e2 : w64 ((k : Int) + i) = ((k + i : Nat) : Int) := (w64_id (by omega)).trans (by omega)
  unfold seekP
  rw [if_neg (by omega), e1, if_pos (by omega), e2]
  rfl
theorem seekP_ge (hn : 1 ≤ n ∧ n ≤ 8) (hk : k < n) (h0 : n ≤ i) (hi : i + 2 ≤ 2 * n) : seekP (n : Int) (k : Int) (k : Int) (i : Int) = ⟨16, 0, (((k + i + 1 - n) % n : Nat) : Int), (k : Int)⟩ := by
  have e1 : w64 ((n : Int) - 1) = (n : Int) - 1 := w64_id (by omega)
  have e2 : w64 ((k : Int) + i) = (k : Int) + i := w64_id (by omega)
  have e3 : w64 ((k : Int) + i - n) = (k : Int) + i - n := w64_id (by omega)
  have e4 : w64 ((k : Int) + i - n + 1) = ((k + i + 1 - n : Nat) : Int) := (w64_id (by omega)).trans (by omega)
  have e5 : w64 (2 * (n : Int)) = 2 * n := w64_id (by omega)
  have e6 : w64 (2 * (n : Int) - 2) = 2 * n - 2 := w64_id (by omega)
  unfold seekP
  rw [if_neg (by omega), e1, if_neg (by omega), e2, e3, e4, e5, e6, if_pos (by omega)]
  rfl
def nextAt (n i : Nat) : Nat := if i + 2 = 2 * n ∨ n = 0 then 0 else i + 1
theorem nextAt_eq (hn : 1 ≤ n ∧ n ≤ 8) (hi : i + 2 ≤ 2 * n) : atP (n : Int) (soughtA (n : Int) (i : Int)) = ((nextAt n i : Nat) : Int) := by
  have e5 : w64 (2 * (n : Int)) = 2 * n := w64_id (by omega)
  have e6 : w64 (2 * (n : Int) - 2) = 2 * n - 2 := w64_id (by omega)
  have e7 : w64 (2 * (n : Int) - 1) = 2 * n - 1 := w64_id (by omega)
  have e8 : w64 ((i : Int) + 1) = (i : Int) + 1 := w64_id (by omega)
  unfold atP soughtA nextAt
  rw [e5, e6, e7, e8]
  split <;> split <;> split <;> omega
def stepSk (n k i : Nat) (st : List Int × List Int) : List Int × List Int :=
  if i = 0 then st else if i < n then (st.1.set ((k + i) % n) (w64 (st.1.getD ((k + i) % n) 0 + 1)), st.2) else (st.1, st.2.set ((k + i + 1 - n) % n) (w64 (st.2.getD ((k + i + 1 - n) % n) 0 + 1)))
def cntSk (n k : Nat) : Nat → List Int × List Int
  | 0 => (List.replicate n 0, List.replicate n 0)
  | i + 1 => stepSk n k i (cntSk n k i)
def wantSk (n k : Nat) : List Int := (List.range n).map fun j => if j = k then 0 else 1
theorem cnt_len : ∀ (i : Nat), (cntSk n k i).1.length = n ∧ (cntSk n k i).2.length = n
  | 0 => by simp [cntSk]
  | i + 1 => by
    have h := cnt_len i
    simp only [cntSk, stepSk]
    repeat' split
    · exact h
    · exact ⟨by rw [List.length_set]; exact h.1, h.2⟩
    · exact ⟨h.1, by rw [List.length_set]; exact h.2⟩
set_option maxRecDepth 100000 in
theorem cnt_all : (List.range 9).all (fun n => (List.range n).all fun k => decide ((cntSk n k (2 * n - 1)).1 = wantSk n k) && decide ((cntSk n k (2 * n - 1)).2 = wantSk n k)) = true := by decide +kernel
theorem cnt_end (hn : n ≤ 8) (hk : k < n) : cntSk n k (2 * n - 1) = (wantSk n k, wantSk n k) := by
  have h := List.all_eq_true.1 cnt_all n (List.mem_range.2 (by omega))
  have h2 := List.all_eq_true.1 h k (List.mem_range.2 hk)
  simp only [Bool.and_eq_true, decide_eq_true_eq] at h2
  exact Prod.ext h2.1 h2.2
end
end Go.Proofs.YtgaopcbjhepklaaGreat
/- alive: its code, its frame; small steps. -/
namespace Go.Proofs.YtgaopcbjhepklaaGreat
open Go.RowKit
set_option linter.unusedSimpArgs false
set_option linter.unusedVariables false
set_option maxRecDepth 100000
def codeA (b26 b28 b29 : Nat) : CodeP := ⟨some ⟨b28, 0, none⟩, 1, 1, some ⟨b29, 0, none⟩, 1, 1, 0, 0, 0, 0, [⟨0, 0, some ⟨b26, 0, none⟩, 4, 4, [⟨1, 4, 0, 0⟩, ⟨5, 0, 0, 0⟩, ⟨1, 9, 0, 0⟩, ⟨17, 0, 0, 0⟩]⟩]⟩
def rowsC (b26 b28 b29 : Nat) (M : EL) : EL := (.slice (some ⟨b29, 0, none⟩) 1 1, .row 3 1 [.int .i64 0]) :: (.slice (some ⟨b28, 0, none⟩) 1 1, .row 63 3 [.int .i64 0, .int .i64 0, .slice (some ⟨b26, 0, none⟩) 4 4]) :: (.slice (some ⟨b26, 0, none⟩) 4 4, .row 65 4 (insL [⟨1, 4, 0, 0⟩, ⟨5, 0, 0, 0⟩, ⟨1, 9, 0, 0⟩, ⟨17, 0, 0, 0⟩])) :: M
def sA : SeP := ⟨0, 0, 1, 0, 0, 0, 0, 0, 0, 0, none, 0, 0, 0, 0, 0, 0, none, 0, 0, none, 0, 0, none, 0, 0, 0⟩
def fA : FrP := ⟨1, none, 0, 0, [], 0, 0, none, 0, 0, [], none, 0, 0, [], none, 0, 0, [], 0, 0, false⟩
def uA : OuP := ⟨0, true, 0, 0, none, 0, 0⟩
def laA : LaP := ⟨2, 4, 1, 1, 8, 1, 0, 0, 0, 0, 1, 2, 3, 4, 6, 8, 14, 20, 44, 76, 77, 77, 77, 77, 109⟩
theorem fA_ok (w : World) : FrOk w fA := ⟨⟨.inl rfl, rfl, Nat.le_refl _, by decide⟩, ⟨.inl rfl, rfl, Nat.le_refl _, by decide⟩, ⟨.inl rfl, rfl, Nat.le_refl _, by decide⟩, ⟨.inl rfl, rfl, Nat.le_refl _, by decide⟩⟩
section
variable {b26 b28 b29 : Nat}
theorem codeA_ok {wB E : World} {M0 M : EL} (hE : InE wB M E) (hs : ∀ e ∈ rowsC b26 b28 b29 [], e ∈ M) : CodeOk E (codeA b26 b28 b29) := by
  have h1 := hE.row (some ⟨b28, 0, none⟩) 1 1 63 3 [.int .i64 0, .int .i64 0, .slice (some ⟨b26, 0, none⟩) 4 4] (hs _ (.tail _ (.head _)))
  have h2 := hE.row (some ⟨b26, 0, none⟩) 4 4 65 4 (insL [⟨1, 4, 0, 0⟩, ⟨5, 0, 0, 0⟩, ⟨1, 9, 0, 0⟩, ⟨17, 0, 0, 0⟩]) (hs _ (.tail _ (.tail _ (.head _))))
  refine ⟨rfl, by show (1 : Nat) ≤ 1000000; decide, by show (1 : Nat) ≤ 1000000; decide, fun i hi => ?_, fun i hi => ?_⟩
  · have hi' : i < 1 := hi
    obtain rfl : i = 0 := by omega
    refine ⟨b28, 0, rfl, fun q v hv => ?_⟩
    obtain ⟨b, off, hA, _, hc⟩ := h1.1.at_ hv
    injection hA with hA
    injection hA with e1 e2
    subst e1 e2
    simpa using hc
  · have hi' : i < 1 := hi
    obtain rfl : i = 0 := by omega
    exact ⟨h2.1, rfl, by show (4 : Nat) ≤ 1000000; decide⟩
theorem nextA1 : nextP (codeA b26 b28 b29) fA = .ok ⟨2, 2, false, [], []⟩ { kind := 2, a := 0, b := 4 } := rfl
theorem rightA1 : rightB (codeA b26 b28 b29) fA = true := rfl
theorem nextA2 {g : FrP} (h0 : g.fn = 0) (h1 : g.pc = 2) (h2 : g.spent = 2) (h3 : g.fail = false) (h4 : g.loc = []) (h5 : g.stk = []) (h6 : g.nk = 0) (h7 : g.kids = []) : nextP (codeA b26 b28 b29) g = .ok ⟨4, 4, false, [], []⟩ { kind := 6, a := 9 } := by
  unfold nextP kOf
  rw [h0, h1, h2, h3, h4, h5, h6, h7]
  rfl
theorem rightA2 {g : FrP} (ht : g.task = 1) (h0 : g.fn = 0) (h1 : g.pc = 2) (h2 : g.spent = 2) (h4 : g.loc = []) (h5 : g.stk = []) (h6 : g.nl = 0) (h8 : g.ns = 0) (h7 : g.kids = []) (h9 : g.many = 0) : rightB (codeA b26 b28 b29) g = true := by
  unfold rightB
  rw [ht, h0, h1, h2, h4, h5, h6, h7, h8, h9]
  rfl
/-- what the frame of alive is behind its first way -/
structure GA (g : FrP) (q : QV) : Prop where
  task : g.task = 1
  fn : g.fn = 0
  pc : g.pc = 2
  spent : g.spent = 2
  fail : g.fail = false
  loc : g.loc = []
  stk : g.stk = []
  kids : g.kids = []
  many : g.many = 0
  kind : q.kind = 2
  a : q.a = 0
  b : q.b = 4
theorem GA.of {M' : EL} {g : FrP} {q : QV} (h : Gone0 M' (codeA b26 b28 b29) fA g q) : GA g q := by
  have e := h.nx
  rw [nextA1] at e
  injection e with e1 e2
  injection e1 with a1 a2 a3 a4 a5
  injection e2 with c1 c2 c3
  exact ⟨h.task_, h.fn, a1.symm, a2.symm, a3.symm, a4.symm, a5.symm, h.kids, h.many, c1.symm, c2.symm, c3.symm⟩
theorem GA.op {g : FrP} {q : QV} (h : GA g q) {ph o0 o1 o2 o3 : Int} (ho : goOp sA q fA.task = ⟨ph, o0, o1, o2, o3⟩) : ph = 1 ∧ o0 = 18 ∧ o1 = 0 ∧ o2 = 0 ∧ o3 = 4 := by
  have e : goOp sA q fA.task = ⟨1, 18, 0, 0, 4⟩ := by
    unfold goOp
    rw [h.kind, h.a, h.b]
    rfl
  rw [e] at ho
  injection ho with h1 h2 h3 h4 h5
  exact ⟨h1.symm, h2.symm, h3.symm, h4.symm, h5.symm⟩
section
variable {wA w0 : World} {X : Nat → Prop} {M : EL} {K : Value → Ctx → Prop} {Z : PanK}
theorem turnA1 {g : FrP} {q : QV} {b : Nat} (hc : CodeOk wA (codeA b26 b28 b29)) (hga : GA g q) (hgk : FrOk wA g) (hfs : FsOk wA (some ⟨b, 0, none⟩) 1 1 [g])
    (hk : ∀ s' Af nf cf M', s'.phase = 5 → s'.o0 = 14 → s'.o1 = 0 → s'.o2 = 1 → s'.o3 = 9 → K (.agg (tdL s' Af nf cf 0 false 0 0).toArray) (CtxA wA w0 X (M' ++ M))) :
    CallVC Tryz.prog (CtxA wA w0 X M) 17 #[.agg (codeA b26 b28 b29).l.toArray, .agg laA.l.toArray, .agg (goS sA q ⟨1, 18, 0, 0, 4⟩).l.toArray, .slice (some ⟨b, 0, none⟩) 1 1, .int .i64 0, .int .i64 0, .agg uA.l.toArray] K Z := by
  have hnk : g.nk = 0 := by have := hgk.kids.len; rw [hga.kids] at this; exact this
  have hns : g.ns = 0 := by have := hgk.stk.len; rw [hga.stk] at this; exact this
  have key : ∀ g0 : FrP, Told1 g q.kind q.b [] g0 → nextP (codeA b26 b28 b29) g0 = .ok ⟨4, 4, false, [], []⟩ { kind := 6, a := 9 } ∧ rightB (codeA b26 b28 b29) g0 = true := fun g0 hT => by
    have e := hT.eq
    have e2 : toldP g q.kind q.b [] = some ⟨[], [], [], 0⟩ := by
      unfold toldP
      rw [hga.kind, hga.stk, hga.loc, hga.kids, hga.many]
      rfl
    rw [e2] at e
    injection e with e
    injection e with e3 e4 e5 e6
    obtain ⟨l1, l2, l3, l4⟩ := hT.lens
    rw [← e4] at l2
    rw [← e3] at l3
    rw [← e5] at l4
    have p1 := hT.pc.trans hga.pc
    have p2 := hT.spent.trans hga.spent
    have p3 := hT.fail.trans hga.fail
    have p4 := hT.fn.trans hga.fn
    have p5 := hT.task.trans hga.task
    exact ⟨nextA2 p4 p1 p2 p3 e4.symm e3.symm l4 e5.symm, rightA2 p5 p4 p1 p2 e4.symm e3.symm l2 l3 e5.symm e6.symm⟩
  refine turn1_vc (la := laA) (s := goS sA q ⟨1, 18, 0, 0, 4⟩) (u := uA) (.inl rfl) (Nat.le_refl _) rfl (meth1W (i := 0) (fs := [g]) (Nat.zero_lt_one) hc hfs (by show g.nk ≤ _ ∧ g.ns ≤ _; omega) rfl (by decide) rfl) ?_ ?_
  · rintro t' M' ⟨g0, g', q', ph, o0, o1, o2, o3, b', n', hT, hG, ho, rfl⟩
    have hT' : Told1 g q.kind q.b [] g0 := hT
    obtain ⟨h1, h2⟩ := key g0 hT'
    have h3 := hG.nx
    have h3' : nextP (codeA b26 b28 b29) g0 = .ok ⟨g'.pc, g'.spent, g'.fail, g'.loc, g'.stk⟩ (qp q') := h3
    rw [h1] at h3'
    injection h3' with _ e2
    injection e2 with c1 c2 c3
    have ho2 : goOp (turn0 (codeA b26 b28 b29) laA (goS sA q ⟨1, 18, 0, 0, 4⟩) (some ⟨b, 0, none⟩) 1 1 0 0 uA).s q' g0.task = ⟨5, 14, 0, 1, 9⟩ := by
      unfold goOp
      rw [← c1, ← c2, hT'.task.trans hga.task]
      rfl
    rw [ho2] at ho
    injection ho with a1 a2 a3 a4 a5
    subst a1 a2 a3 a4 a5
    exact hk _ _ _ _ M' rfl rfl rfl rfl rfl
  · rintro e v M' ⟨hA, rfl⟩
    exfalso
    rcases hA with ⟨hn, _⟩ | ⟨g0, hT, hh⟩
    · have hn' : toldP g q.kind q.b [] = none := hn
      unfold toldP at hn'
      rw [hga.kind] at hn'
      cases hn'
    · have hT' : Told1 g q.kind q.b [] g0 := hT
      obtain ⟨h1, h2⟩ := key g0 hT'
      have hh' : rightB (codeA b26 b28 b29) g0 = false ∧ e = 1 ∨ rightB (codeA b26 b28 b29) g0 = true ∧ nextP (codeA b26 b28 b29) g0 = .err e := hh
      rcases hh' with ⟨h3, _⟩ | ⟨_, h3⟩
      · rw [h2] at h3; cases h3
      · rw [h1] at h3; cases h3
set_option maxHeartbeats 4000000 in
theorem laid2_vc (hk : K (.agg laA.l.toArray) (CtxA wA w0 X M)) : CallVC Tryz.prog (CtxA wA w0 X M) 15 #[.int .i64 2] K Z := by
  refine it15 (args := [.int .i64 2]) (by rfl) ?_
  intro w2 X2
  conv => whnf
  repeat' (first
    | (refine JoinVC.go ?_; conv => whnf)
    | (refine RetA.go ?_; conv => whnf)
    | (refine LoopVC.unroll ?_; conv => whnf)
    | (refine And.intro ?_ ?_ <;> conv => whnf)
    | (refine ia31 (by rfl) ?_; intro w1 X1; conv => whnf)
    | (refine ia62 (by rfl) ?_; intro w1 X1; conv => whnf)
    | (refine ia51 (by rfl) ?_; intro w1 X1; conv => whnf)
    | (refine ia63 (by rfl) ?_; intro w1 X1; conv => whnf)
    | (refine ia64 (by rfl) ?_; intro w1 X1; conv => whnf))
  exact RetT.drop (K := K) M (List.Sublist.refl _) hk
end
end
end Go.Proofs.YtgaopcbjhepklaaGreat
/- alive. -/
namespace Go.Proofs.YtgaopcbjhepklaaGreat
open Go.RowKit
set_option linter.unusedSimpArgs false
set_option linter.unusedVariables false
set_option maxRecDepth 100000
theorem rowsC_mem {b26 b28 b29 : Nat} {M : EL} : ∀ e ∈ rowsC b26 b28 b29 [], e ∈ rowsC b26 b28 b29 M := fun e he => by
  simp only [rowsC, List.mem_cons, List.not_mem_nil, or_false] at he ⊢
  rcases he with h | h | h
  · exact .inl h
  · exact .inr (.inl h)
  · exact .inr (.inr (.inl h))
theorem fsOne {wB E : World} {M : EL} (hE : InE wB M E) {b : Nat} {g : FrP} (hm : (Value.slice (some ⟨b, 0, none⟩) 1 1, DA.row 36 10 g.l) ∈ M) (hg : FrOk E g) : FsOk E (some ⟨b, 0, none⟩) 1 1 [g] := by
  obtain ⟨h1, _⟩ := hE.row _ _ _ _ _ _ hm
  exact ⟨by simpa using h1, rfl, Nat.le_refl _, by decide, fun f hf => by rw [List.mem_singleton] at hf; subst hf; exact hg⟩
def sK : SeP := ⟨0, 0, 0, 0, 0, 0, 0, 0, 0, 0, none, 0, 0, 9, 1, 0, 0, none, 0, 0, none, 0, 0, none, 0, 0, 0⟩
theorem rowsC_sub {b26 b28 b29 : Nat} {M : EL} : List.Sublist M (rowsC b26 b28 b29 M) := .cons _ (.cons _ (.cons _ (.refl _)))
section
variable {wA w0 : World} {X : Nat → Prop} {M : EL} {K : Value → Ctx → Prop} {Z : PanK}
set_option maxHeartbeats 8000000 in
theorem alive_vc (hk : K (.bool true) (CtxA wA w0 X M)) : CallVC Tryz.prog (CtxA wA w0 X M) 9 #[] K Z := by
  refine it9 (args := []) (by rfl) ?_
  intro w2 X2
  conv => whnf
  refine laid2_vc ?_
  conv => whnf
  refine bsA el61 (by rfl) ?_
  conv => whnf
  refine ⟨by rfl, fun b26 => ?_⟩
  conv => whnf
  refine bsA el22 (by rfl) ?_
  conv => whnf
  refine ⟨by rfl, fun b28 => ?_⟩
  conv => whnf
  refine bsA el23 (by rfl) ?_
  conv => whnf
  refine ⟨by rfl, fun b29 => ?_⟩
  conv => whnf
  refine CallVC.anchor [] (rowsC b26 b28 b29 M) en10 rfl (fun E w Y hE => go2_vc (c := codeA b26 b28 b29) (s := sA) (f := fA) (codeA_ok (M0 := M) hE rowsC_mem) (fA_ok E) (fun e he => by rcases he with ⟨h, _⟩ | ⟨_, h⟩ <;> cases h) (fun g q ph o0 o1 o2 o3 M' hG ho => RetN.to (M' ++ rowsC b26 b28 b29 M) (by rw [List.append_nil]) ?_))
  have hga := GA.of hG
  have hpc := hga.pc
  obtain ⟨rfl, rfl, rfl, rfl, rfl⟩ := hga.op ho
  conv => whnf
  refine bsA el39 (by rfl) ?_
  conv => whnf
  refine ⟨by rfl, fun b43 => ?_⟩
  conv => whnf
  refine CallVC.anchor [] ((.slice (some ⟨b43, 0, none⟩) 1 1, .row 36 10 g.l) :: (M' ++ rowsC b26 b28 b29 M)) en17 rfl (fun E w Y hE => turnA1 (g := g) (q := q) (codeA_ok (M0 := M) hE fun e he => .tail _ (List.mem_append_right _ (rowsC_mem e he))) hga ((hG.ok _ E (hE.less fun e he => .tail _ (List.mem_append_left _ he))).1) (fsOne hE (.head _) ((hG.ok _ E (hE.less fun e he => .tail _ (List.mem_append_left _ he))).1)) (fun s1 Af1 nf1 cf1 M1 p1 p2 p3 p4 p5 => RetN.to (M1 ++ ((.slice (some ⟨b43, 0, none⟩) 1 1, .row 36 10 g.l) :: (M' ++ rowsC b26 b28 b29 M))) (by rw [List.append_nil]) ?_))
  obtain ⟨phase1, at1, task1, qk1, qa1, qb1, p01, p11, p21, p31, Aq1, nq1, cq1, o01, o11, o21, o31, Al1, nl1, cl1, As1, ns1, cs1, Ag1, ng1, cg1, hold1⟩ := s1
  dsimp only at p1 p2 p3 p4 p5
  subst p1 p2 p3 p4 p5
  conv => whnf
  refine turn5_vc (c := codeA b26 b28 b29) (la := laA) (u := uA) (s := ⟨5, at1, task1, qk1, qa1, qb1, p01, p11, p21, p31, Aq1, nq1, cq1, 14, 0, 1, 9, Al1, nl1, cl1, As1, ns1, cs1, Ag1, ng1, cg1, hold1⟩) (.inl rfl) (Nat.le_refl _) rfl (meth5 rfl) (fun _ _ h => h.elim) (fun e v M2 he => ?_)
  obtain ⟨rfl, rfl⟩ := he
  conv => whnf
  refine seek_vc (a := laA) ⟨by decide, by decide⟩ (fun o0 o1 o2 o3 ho => ?_)
  have ho2 : seekP laA.seats 1 1 0 = ⟨9, 1, 0, 0⟩ := by rfl
  rw [ho2] at ho
  injection ho with a1 a2 a3 a4
  subst a1 a2 a3 a4
  conv => whnf
  refine turn0_vc (c := codeA b26 b28 b29) (la := laA) (u := ⟨5, true, 0, 0, none, 0, 0⟩) (s := sK) (.inl rfl) (Nat.le_refl _) rfl (meth0 ⟨(by decide : (1 : Int) ≤ 2), (by decide : (2 : Int) ≤ 8)⟩) (fun t' M3 hR => ?_) (fun _ _ _ h => h.elim)
  obtain ⟨rfl, hR⟩ := hR
  rcases hR with ⟨h, _⟩ | ⟨_, h, _⟩ | ⟨_, _, rfl⟩
  · cases h
  · cases h
  conv => whnf
  refine turn0_vc (c := codeA b26 b28 b29) (la := laA) (u := ⟨0, false, 0, 0, none, 0, 0⟩) (s := sK) (.inl rfl) (Nat.le_refl _) rfl (meth0 ⟨(by decide : (1 : Int) ≤ 2), (by decide : (2 : Int) ≤ 8)⟩) (fun t' M3 hR => ?_) (fun _ _ _ h => h.elim)
  obtain ⟨rfl, hR⟩ := hR
  rcases hR with ⟨_, a', o0, o1, o2, o3, ha, ho, rfl⟩ | ⟨h, _⟩ | ⟨h, _⟩
  rotate_left
  · cases h
  · cases h
  have ha2 : a' = 1 := ha.trans (by rfl)
  subst ha2
  have ho2 : seekP laA.seats 1 1 1 = ⟨10, 0, 0, 0⟩ := by rfl
  have ho3 : seekP laA.seats 1 1 1 = ⟨o0, o1, o2, o3⟩ := ho
  rw [ho2] at ho3
  injection ho3 with a1 a2 a3 a4
  subst a1 a2 a3 a4
  conv => whnf
  repeat' (first
    | (refine idxBN 0 rfl (by decide) ?_; conv => whnf)
    | (refine idxBN 1 rfl (by decide) ?_; conv => whnf)
    | (refine ldR (by repeat (first | exact List.Mem.head _ | refine List.Mem.tail _ ?_)) (tab_ok _ _ (by rfl)) (by rfl) (by rfl) ?_; conv => whnf)
    | (refine bsA el30 (by rfl) ?_; (conv => whnf); refine ⟨by rfl, fun b79 => ?_⟩; conv => whnf)
    | (refine ia22 (by rfl) ?_; intro w1 X1; conv => whnf)
    | (refine ia47 (by rfl) ?_; intro w1 X1; conv => whnf)
    | (refine ia48 (by rfl) ?_; intro w1 X1; conv => whnf)
    | (refine ia49 (by rfl) ?_; intro w1 X1; conv => whnf)
    | (refine ia85 (by rfl) ?_; intro w1 X1; conv => whnf)
    | (refine ia86 (by rfl) ?_; intro w1 X1; conv => whnf)
    | (refine ia87 (by rfl) ?_; intro w1 X1; conv => whnf)
    | (refine ia133 (by rfl) ?_; intro w1 X1; conv => whnf)
    | (refine ia23 (by rfl) ?_; intro w1 X1; conv => whnf)
    | (refine ia50 (by rfl) ?_; intro w1 X1; conv => whnf)
    | (refine opMkI (by rfl) (tab_ok _ _ (by rfl)) (by rfl) ?_; conv => whnf)
    | (refine opPan (by rfl) (by rfl) ?_; conv => whnf)
    | (refine JoinVC.go ?_; conv => whnf)
    | (refine RetA.go ?_; conv => whnf)
    | (refine PanA.go ?_; conv => whnf)
    | (refine And.intro ?_ ?_ <;> conv => whnf)
    | (refine ldA (by repeat (first | exact List.Mem.head _ | refine List.Mem.tail _ ?_)) (tab_ok _ _ (by rfl)) (by rfl) (by rfl) ?_; conv => whnf)
    | (refine ldsA (by repeat (first | exact List.Mem.head _ | refine List.Mem.tail _ ?_)) (tab_ok _ _ (by rfl)) (by rfl) ?_; conv => whnf)
    | (refine stA (tab_ok _ _ (by rfl)) (by repeat (first | exact AtE.here | apply AtE.there)) ?_; conv => whnf)
    | (refine splitB.dec (fun hb => ?_) (fun hb => ?_) <;> first | (exfalso; omega) | (conv => whnf))
    | (refine splitB.ndec (fun hb => ?_) (fun hb => ?_) <;> first | (exfalso; omega) | (conv => whnf))
    | (refine splitB.eqI (fun hb => ?_) (fun hb => ?_) <;> first | (exfalso; omega) | (conv => whnf))
    | (refine splitB.neI (fun hb => ?_) (fun hb => ?_) <;> first | (exfalso; omega) | (conv => whnf))
    | (intro r bx; conv => whnf))
  refine bsA el39 (by rfl) ?_
  conv => whnf
  refine ⟨by rfl, fun b95 => ?_⟩
  conv => whnf
  refine turnErr_vc (c := codeA b26 b28 b29) (la := laA) (u := ⟨0, false, 8, 0, none, 0, 0⟩) (s := goS sA q ⟨1, 18, 0, 0, 4⟩) rfl rfl ?_
  conv => whnf
  repeat' (first
    | (exact RetT.imp (K := K) M (Imp.sub (by repeat (first | exact List.Sublist.refl _ | exact rowsC_sub | refine List.Sublist.cons _ ?_ | refine (List.Sublist.trans ?_ (List.sublist_append_right _ _))))) hk)
    | (refine ia23 (by rfl) ?_; intro w1 X1; conv => whnf)
    | (refine ia50 (by rfl) ?_; intro w1 X1; conv => whnf)
    | (refine ia51 (by rfl) ?_; intro w1 X1; conv => whnf)
    | (refine opMkI (by rfl) (tab_ok _ _ (by rfl)) (by rfl) ?_; conv => whnf)
    | (refine opPan (by rfl) (by rfl) ?_; conv => whnf)
    | (refine JoinVC.go ?_; conv => whnf)
    | (refine RetA.go ?_; conv => whnf)
    | (refine PanA.go ?_; conv => whnf)
    | (refine And.intro ?_ ?_ <;> conv => whnf)
    | (refine ldA (by repeat (first | exact List.Mem.head _ | refine List.Mem.tail _ ?_)) (tab_ok _ _ (by rfl)) (by rfl) (by rfl) ?_; conv => whnf)
    | (refine ldsA (by repeat (first | exact List.Mem.head _ | refine List.Mem.tail _ ?_)) (tab_ok _ _ (by rfl)) (by rfl) ?_; conv => whnf)
    | (refine stA (tab_ok _ _ (by rfl)) (by repeat (first | exact AtE.here | apply AtE.there)) ?_; conv => whnf)
    | (refine splitB.dec (fun hb => ?_) (fun hb => ?_) <;> first | (exfalso; omega) | (conv => whnf))
    | (refine splitB.ndec (fun hb => ?_) (fun hb => ?_) <;> first | (exfalso; omega) | (conv => whnf))
    | (refine splitB.eqI (fun hb => ?_) (fun hb => ?_) <;> first | (exfalso; omega) | (conv => whnf))
    | (refine splitB.neI (fun hb => ?_) (fun hb => ?_) <;> first | (exfalso; omega) | (conv => whnf))
    | (intro r bx; conv => whnf))
end
end Go.Proofs.YtgaopcbjhepklaaGreat
/- Rows of pairs that are the same; what a layout has. -/
namespace Go.Proofs.YtgaopcbjhepklaaGreat
open Go.RowKit
set_option linter.unusedSimpArgs false
set_option linter.unusedVariables false
set_option maxRecDepth 100000
def pairL (p : Int × Int) : List Value := [.int .i64 p.1, .int .i64 p.2]
theorem pairL_len (p : Int × Int) : (pairL p).length = 2 := rfl
/-- a row of pairs that was there -/
structure OldP (wA : World) (A : Option Addr) (n : Nat) (xs : List (Int × Int)) : Prop where
  rd : Rd wA wA.heap.size A (xs.flatMap pairL)
  len : n = xs.length
  sm : n ≤ 1000000
theorem InE.oldP {wA : World} {M : EL} {E : World} (h : InE wA M E) {A : Option Addr} {n : Nat} {xs : List (Int × Int)} (ho : OldP wA A n xs) : OldP E A n xs := ⟨h.rd ho.rd, ho.len, ho.sm⟩
theorem run_part3 {w : World} {cs : Array Value} {off : Nat} {v : Value} (h : cs[off]? = some v) : (part 3 cs off).run Tryz.prog w = .ok v w := by
  have h1 : ∀ w, (isAgg 3).run Tryz.prog w = .ok false w := fun w => (tab_ok 3 _ (by rfl)).run_isAgg
  simp [part, h1, h]
theorem run_eq2 {w : World} {d : Nat} {a b c e : Int} : (Op.equalIn (d + 2) 88 (.agg #[.int .i64 a, .int .i64 b]) (.agg #[.int .i64 c, .int .i64 e])).run Tryz.prog w = .ok (a == c && b == e) w := by
  have hu : Tryz.prog.underlying 88 = some (.array 2 3) := by kernel_rfl
  have hi : Tryz.prog.underlying 3 = some (.int .i64) := by kernel_rfl
  have hs : ∀ w, (sizeOf 3).run Tryz.prog w = .ok 1 w := fun w => (tab_ok 3 _ (by rfl)).run_size
  have p0 : ∀ (x y : Int) w, (part 3 #[.int .i64 x, .int .i64 y] 0).run Tryz.prog w = .ok (.int .i64 x) w := fun x y w => run_part3 rfl
  have p1 : ∀ (x y : Int) w, (part 3 #[.int .i64 x, .int .i64 y] 1).run Tryz.prog w = .ok (.int .i64 y) w := fun x y w => run_part3 rfl
  have e1 : ∀ (x y : Int) w, (Op.equalIn (d + 1) 3 (.int .i64 x) (.int .i64 y)).run Tryz.prog w = .ok (x == y) w := fun x y w => by simp [Op.equalIn, run_underlying hi]
  rw [Op.equalIn]
  simp only [Sem.run_bind, run_underlying hu, Result.andThen_ok, hs, Std.Legacy.Range.forIn_eq_forIn_range', Std.Legacy.Range.size, List.range', List.forIn_cons, List.forIn_nil, p0, p1, e1, Nat.mul_one]
  cases h1 : (a == c) <;> cases h2 : (b == e) <;> simp [h1, h2, p0, p1, e1, List.range']
theorem semNe2 {x y : Operand} {a b : Int} {C : Ctx} {K : Value → Ctx → Prop} (h : K (.bool false) C) : SemVC Tryz.prog C (do eqGuard .neq 88 x y (.agg #[.int .i64 a, .int .i64 b]) (.agg #[.int .i64 a, .int .i64 b]); binOp .neq 88 (.agg #[.int .i64 a, .int .i64 b]) (.agg #[.int .i64 a, .int .i64 b])) K := by
  have hm : Tryz.prog.eqGuardType Tryz.prog.depth 88 = false := by kernel_rfl
  refine semA (fun w => ?_) h
  have h2 : ∀ w, (Op.equalIn 10000 88 (.agg #[.int .i64 a, .int .i64 b]) (.agg #[.int .i64 a, .int .i64 b])).run Tryz.prog w = .ok (a == a && b == b) w := fun w => run_eq2 (d := 9998)
  simp [run_eqGuard_agg, hm, run_neq_struct, h2]
section
variable {wA w0 : World} {X : Nat → Prop} {M : EL} {K : Value → Ctx → Prop} {Z : PanK}
set_option maxHeartbeats 4000000 in
theorem gsame_vc {A : Option Addr} {n c1 c2 : Nat} {xs : List (Int × Int)} (h : OldP wA A n xs) (hk : K (.bool true) (CtxA wA w0 X M)) : CallVC Tryz.prog (CtxA wA w0 X M) 14 #[.slice A n c1, .slice A n c2] K Z := by
  have hl := h.len
  have hs := h.sm
  refine it14 (args := [.slice A n c1, .slice A n c2]) (by rfl) ?_
  intro w2 X2
  conv => whnf
  refine splitB.neI (fun hb => absurd rfl hb) (fun hb => ?_)
  conv => whnf
  refine LoopVC.on (X := Nat) (fun i => [(0, .v (.slice A n c1)), (1, .v (.slice A n c2)), (4, .v (.bool false)), (5, .v (.int .i64 (i : Int)))]) (fun _ => []) (fun _ => CtxA wA w2 X2 M) (fun i => i ≤ n) (fun i => n - i) 0 (Nat.zero_le _) ⟨rfl, rfl, rfl, rfl, trivial⟩ trivial ?_
  intro i r hi
  replace hi : i ≤ n := hi
  conv => whnf
  repeat' (first
    | (refine idxOG pairL 2 pairL_len (by omega) h.rd hl i rfl (by omega) (fun b' o' hA hcl => ?_); conv => whnf)
    | (refine ldsO (pairL _) (by assumption) (tab_ok _ _ (by rfl)) (by rfl) (by rfl) ?_; conv => whnf)
    | (refine semNe2 ?_; conv => whnf)
    | (exact rnd (X := Nat) (i + 1) (by show n - (i + 1) < n - i; omega) (by show i + 1 ≤ n; omega) ⟨rfl, rfl, rfl, ixw (by omega), trivial⟩ trivial)
    | (exact RetT.drop (K := K) M (List.Sublist.refl _) hk)
    | (refine opMkI (by rfl) (tab_ok _ _ (by rfl)) (by rfl) ?_; conv => whnf)
    | (refine opPan (by rfl) (by rfl) ?_; conv => whnf)
    | (refine JoinVC.go ?_; conv => whnf)
    | (refine RetA.go ?_; conv => whnf)
    | (refine PanA.go ?_; conv => whnf)
    | (refine And.intro ?_ ?_ <;> conv => whnf)
    | (refine ldA (by repeat (first | exact List.Mem.head _ | refine List.Mem.tail _ ?_)) (tab_ok _ _ (by rfl)) (by rfl) (by rfl) ?_; conv => whnf)
    | (refine ldsA (by repeat (first | exact List.Mem.head _ | refine List.Mem.tail _ ?_)) (tab_ok _ _ (by rfl)) (by rfl) ?_; conv => whnf)
    | (refine stA (tab_ok _ _ (by rfl)) (by repeat (first | exact AtE.here | apply AtE.there)) ?_; conv => whnf)
    | (refine splitB.dec (fun hb => ?_) (fun hb => ?_) <;> first | (exfalso; omega) | (conv => whnf))
    | (refine splitB.ndec (fun hb => ?_) (fun hb => ?_) <;> first | (exfalso; omega) | (conv => whnf))
    | (refine splitB.eqI (fun hb => ?_) (fun hb => ?_) <;> first | (exfalso; omega) | (conv => whnf))
    | (refine splitB.neI (fun hb => ?_) (fun hb => ?_) <;> first | (exfalso; omega) | (conv => whnf))
    | (intro r bx; conv => whnf))
set_option maxHeartbeats 4000000 in
theorem laid_n1 (hk : ∀ la : LaP, la.seats = 1 → K (.agg la.l.toArray) (CtxA wA w0 X M)) : CallVC Tryz.prog (CtxA wA w0 X M) 15 #[.int .i64 1] K Z := by
  refine it15 (args := [.int .i64 1]) (by rfl) ?_
  intro w2 X2
  conv => whnf
  repeat' (first
    | (refine JoinVC.go ?_; conv => whnf)
    | (refine RetA.go ?_; conv => whnf)
    | (refine LoopVC.unroll ?_; conv => whnf)
    | (refine And.intro ?_ ?_ <;> conv => whnf)
    | (refine ia31 (by rfl) ?_; intro w1 X1; conv => whnf)
    | (refine ia62 (by rfl) ?_; intro w1 X1; conv => whnf)
    | (refine ia51 (by rfl) ?_; intro w1 X1; conv => whnf)
    | (refine ia63 (by rfl) ?_; intro w1 X1; conv => whnf)
    | (refine ia64 (by rfl) ?_; intro w1 X1; conv => whnf))
  exact RetT.drop (K := K) M (List.Sublist.refl _) (hk ⟨_, _, _, _, _, _, _, _, _, _, _, _, _, _, _, _, _, _, _, _, _, _, _, _, _⟩ rfl)
set_option maxHeartbeats 4000000 in
theorem laid_n2 (hk : ∀ la : LaP, la.seats = 2 → K (.agg la.l.toArray) (CtxA wA w0 X M)) : CallVC Tryz.prog (CtxA wA w0 X M) 15 #[.int .i64 2] K Z := by
  refine it15 (args := [.int .i64 2]) (by rfl) ?_
  intro w2 X2
  conv => whnf
  repeat' (first
    | (refine JoinVC.go ?_; conv => whnf)
    | (refine RetA.go ?_; conv => whnf)
    | (refine LoopVC.unroll ?_; conv => whnf)
    | (refine And.intro ?_ ?_ <;> conv => whnf)
    | (refine ia31 (by rfl) ?_; intro w1 X1; conv => whnf)
    | (refine ia62 (by rfl) ?_; intro w1 X1; conv => whnf)
    | (refine ia51 (by rfl) ?_; intro w1 X1; conv => whnf)
    | (refine ia63 (by rfl) ?_; intro w1 X1; conv => whnf)
    | (refine ia64 (by rfl) ?_; intro w1 X1; conv => whnf))
  exact RetT.drop (K := K) M (List.Sublist.refl _) (hk ⟨_, _, _, _, _, _, _, _, _, _, _, _, _, _, _, _, _, _, _, _, _, _, _, _, _⟩ rfl)
set_option maxHeartbeats 4000000 in
theorem laid_n3 (hk : ∀ la : LaP, la.seats = 3 → K (.agg la.l.toArray) (CtxA wA w0 X M)) : CallVC Tryz.prog (CtxA wA w0 X M) 15 #[.int .i64 3] K Z := by
  refine it15 (args := [.int .i64 3]) (by rfl) ?_
  intro w2 X2
  conv => whnf
  repeat' (first
    | (refine JoinVC.go ?_; conv => whnf)
    | (refine RetA.go ?_; conv => whnf)
    | (refine LoopVC.unroll ?_; conv => whnf)
    | (refine And.intro ?_ ?_ <;> conv => whnf)
    | (refine ia31 (by rfl) ?_; intro w1 X1; conv => whnf)
    | (refine ia62 (by rfl) ?_; intro w1 X1; conv => whnf)
    | (refine ia51 (by rfl) ?_; intro w1 X1; conv => whnf)
    | (refine ia63 (by rfl) ?_; intro w1 X1; conv => whnf)
    | (refine ia64 (by rfl) ?_; intro w1 X1; conv => whnf))
  exact RetT.drop (K := K) M (List.Sublist.refl _) (hk ⟨_, _, _, _, _, _, _, _, _, _, _, _, _, _, _, _, _, _, _, _, _, _, _, _, _⟩ rfl)
set_option maxHeartbeats 4000000 in
theorem laid_n4 (hk : ∀ la : LaP, la.seats = 4 → K (.agg la.l.toArray) (CtxA wA w0 X M)) : CallVC Tryz.prog (CtxA wA w0 X M) 15 #[.int .i64 4] K Z := by
  refine it15 (args := [.int .i64 4]) (by rfl) ?_
  intro w2 X2
  conv => whnf
  repeat' (first
    | (refine JoinVC.go ?_; conv => whnf)
    | (refine RetA.go ?_; conv => whnf)
    | (refine LoopVC.unroll ?_; conv => whnf)
    | (refine And.intro ?_ ?_ <;> conv => whnf)
    | (refine ia31 (by rfl) ?_; intro w1 X1; conv => whnf)
    | (refine ia62 (by rfl) ?_; intro w1 X1; conv => whnf)
    | (refine ia51 (by rfl) ?_; intro w1 X1; conv => whnf)
    | (refine ia63 (by rfl) ?_; intro w1 X1; conv => whnf)
    | (refine ia64 (by rfl) ?_; intro w1 X1; conv => whnf))
  exact RetT.drop (K := K) M (List.Sublist.refl _) (hk ⟨_, _, _, _, _, _, _, _, _, _, _, _, _, _, _, _, _, _, _, _, _, _, _, _, _⟩ rfl)
set_option maxHeartbeats 4000000 in
theorem laid_n5 (hk : ∀ la : LaP, la.seats = 5 → K (.agg la.l.toArray) (CtxA wA w0 X M)) : CallVC Tryz.prog (CtxA wA w0 X M) 15 #[.int .i64 5] K Z := by
  refine it15 (args := [.int .i64 5]) (by rfl) ?_
  intro w2 X2
  conv => whnf
  repeat' (first
    | (refine JoinVC.go ?_; conv => whnf)
    | (refine RetA.go ?_; conv => whnf)
    | (refine LoopVC.unroll ?_; conv => whnf)
    | (refine And.intro ?_ ?_ <;> conv => whnf)
    | (refine ia31 (by rfl) ?_; intro w1 X1; conv => whnf)
    | (refine ia62 (by rfl) ?_; intro w1 X1; conv => whnf)
    | (refine ia51 (by rfl) ?_; intro w1 X1; conv => whnf)
    | (refine ia63 (by rfl) ?_; intro w1 X1; conv => whnf)
    | (refine ia64 (by rfl) ?_; intro w1 X1; conv => whnf))
  exact RetT.drop (K := K) M (List.Sublist.refl _) (hk ⟨_, _, _, _, _, _, _, _, _, _, _, _, _, _, _, _, _, _, _, _, _, _, _, _, _⟩ rfl)
set_option maxHeartbeats 4000000 in
theorem laid_n6 (hk : ∀ la : LaP, la.seats = 6 → K (.agg la.l.toArray) (CtxA wA w0 X M)) : CallVC Tryz.prog (CtxA wA w0 X M) 15 #[.int .i64 6] K Z := by
  refine it15 (args := [.int .i64 6]) (by rfl) ?_
  intro w2 X2
  conv => whnf
  repeat' (first
    | (refine JoinVC.go ?_; conv => whnf)
    | (refine RetA.go ?_; conv => whnf)
    | (refine LoopVC.unroll ?_; conv => whnf)
    | (refine And.intro ?_ ?_ <;> conv => whnf)
    | (refine ia31 (by rfl) ?_; intro w1 X1; conv => whnf)
    | (refine ia62 (by rfl) ?_; intro w1 X1; conv => whnf)
    | (refine ia51 (by rfl) ?_; intro w1 X1; conv => whnf)
    | (refine ia63 (by rfl) ?_; intro w1 X1; conv => whnf)
    | (refine ia64 (by rfl) ?_; intro w1 X1; conv => whnf))
  exact RetT.drop (K := K) M (List.Sublist.refl _) (hk ⟨_, _, _, _, _, _, _, _, _, _, _, _, _, _, _, _, _, _, _, _, _, _, _, _, _⟩ rfl)
set_option maxHeartbeats 4000000 in
theorem laid_n7 (hk : ∀ la : LaP, la.seats = 7 → K (.agg la.l.toArray) (CtxA wA w0 X M)) : CallVC Tryz.prog (CtxA wA w0 X M) 15 #[.int .i64 7] K Z := by
  refine it15 (args := [.int .i64 7]) (by rfl) ?_
  intro w2 X2
  conv => whnf
  repeat' (first
    | (refine JoinVC.go ?_; conv => whnf)
    | (refine RetA.go ?_; conv => whnf)
    | (refine LoopVC.unroll ?_; conv => whnf)
    | (refine And.intro ?_ ?_ <;> conv => whnf)
    | (refine ia31 (by rfl) ?_; intro w1 X1; conv => whnf)
    | (refine ia62 (by rfl) ?_; intro w1 X1; conv => whnf)
    | (refine ia51 (by rfl) ?_; intro w1 X1; conv => whnf)
    | (refine ia63 (by rfl) ?_; intro w1 X1; conv => whnf)
    | (refine ia64 (by rfl) ?_; intro w1 X1; conv => whnf))
  exact RetT.drop (K := K) M (List.Sublist.refl _) (hk ⟨_, _, _, _, _, _, _, _, _, _, _, _, _, _, _, _, _, _, _, _, _, _, _, _, _⟩ rfl)
set_option maxHeartbeats 4000000 in
theorem laid_n8 (hk : ∀ la : LaP, la.seats = 8 → K (.agg la.l.toArray) (CtxA wA w0 X M)) : CallVC Tryz.prog (CtxA wA w0 X M) 15 #[.int .i64 8] K Z := by
  refine it15 (args := [.int .i64 8]) (by rfl) ?_
  intro w2 X2
  conv => whnf
  repeat' (first
    | (refine JoinVC.go ?_; conv => whnf)
    | (refine RetA.go ?_; conv => whnf)
    | (refine LoopVC.unroll ?_; conv => whnf)
    | (refine And.intro ?_ ?_ <;> conv => whnf)
    | (refine ia31 (by rfl) ?_; intro w1 X1; conv => whnf)
    | (refine ia62 (by rfl) ?_; intro w1 X1; conv => whnf)
    | (refine ia51 (by rfl) ?_; intro w1 X1; conv => whnf)
    | (refine ia63 (by rfl) ?_; intro w1 X1; conv => whnf)
    | (refine ia64 (by rfl) ?_; intro w1 X1; conv => whnf))
  exact RetT.drop (K := K) M (List.Sublist.refl _) (hk ⟨_, _, _, _, _, _, _, _, _, _, _, _, _, _, _, _, _, _, _, _, _, _, _, _, _⟩ rfl)
theorem laidN_vc {n : Nat} (hn : 1 ≤ n ∧ n ≤ 8) (hk : ∀ la : LaP, la.seats = (n : Int) → K (.agg la.l.toArray) (CtxA wA w0 X M)) : CallVC Tryz.prog (CtxA wA w0 X M) 15 #[.int .i64 (n : Int)] K Z := by
  have h : n = 1 ∨ n = 2 ∨ n = 3 ∨ n = 4 ∨ n = 5 ∨ n = 6 ∨ n = 7 ∨ n = 8 := by omega
  rcases h with rfl | rfl | rfl | rfl | rfl | rfl | rfl | rfl
  · exact laid_n1 hk
  · exact laid_n2 hk
  · exact laid_n3 hk
  · exact laid_n4 hk
  · exact laid_n5 hk
  · exact laid_n6 hk
  · exact laid_n7 hk
  · exact laid_n8 hk
end
end Go.Proofs.YtgaopcbjhepklaaGreat
