/- Lemmas for the proof, joined from several texts: no statement of its own; their conditions stand in them. -/
import Derived.Test.YtgaopcbjhepklaaGreatQ7
import Derived.Test.YtgaopcbjhepklaaGreatQ1
import Derived.Test.YtgaopcbjhepklaaGreatQ2
import Derived.Test.YtgaopcbjhepklaaGreatMem
import Derived.ProofKit
import Derived.OpenShut
import Derived.Deep.Slices
import Derived.Deep.Fields
import Derived.ChangeSame
import Derived.Test.YtgaopcbjhepklaaGreatYa
import Derived.Test.YtgaopcbjhepklaaGreatTab
import Derived.Below
/- The document's frames: one step. -/
namespace Go.Proofs.YtgaopcbjhepklaaGreat
open Go.RowKit
set_option linter.unusedSimpArgs false
set_option linter.unusedVariables false
set_option maxRecDepth 100000
theorem vals_getD {xs : List Int} (h : valsB xs = true) (i : Nat) : 0 ≤ xs.getD i 0 ∧ xs.getD i 0 < 4294967296 := by
  by_cases hi : i < xs.length
  · exact vals_at h hi
  · simp [List.getD, List.getElem?_eq_none (Nat.le_of_not_lt hi)]
theorem vals_drop {xs : List Int} (h : valsB xs = true) (n : Nat) : valsB (xs.drop n) = true := List.all_eq_true.2 fun x hx => List.all_eq_true.1 h x (List.mem_of_mem_drop hx)
theorem vals_take {xs : List Int} (h : valsB xs = true) (n : Nat) : valsB (xs.take n) = true := List.all_eq_true.2 fun x hx => List.all_eq_true.1 h x (List.mem_of_mem_take hx)
theorem vals_snoc {xs : List Int} {x : Int} (h : valsB xs = true) (hx : 0 ≤ x ∧ x < 4294967296) : valsB (xs ++ [x]) = true := by
  unfold valsB at h ⊢
  rw [List.all_append, h]
  simp [valB_t hx]
theorem vals_setI {xs : List Int} {i : Nat} {x : Int} (h : valsB xs = true) (hx : 0 ≤ x ∧ x < 4294967296) : valsB (xs.set i x) = true := List.all_eq_true.2 fun y hy => by
  rcases List.mem_or_eq_of_mem_set hy with hy | rfl
  · exact List.all_eq_true.1 h y hy
  · exact valB_t hx
structure PFG (ni s : Int) (f : PF) : Prop where
  ln : f.stk.length ≤ 100
  stk : valsB f.stk = true
  loc : valsB f.loc = true
  pc : 0 ≤ f.pc ∧ f.pc ≤ ni
  spent : f.spent = s
def SR.inv (ni s : Int) : SR → Prop
  | .go f => PFG ni s f
  | .ask f q => (∃ s', PFG ni s' f) ∧ q.got.length ≤ 100
  | .err _ => True
theorem inv_ite {ni s : Int} {c : Prop} [Decidable c] {a b : SR} (h1 : c → a.inv ni s) (h2 : ¬ c → b.inv ni s) : (if c then a else b).inv ni s := by
  split
  · exact h1 (by assumption)
  · exact h2 (by assumption)
theorem emod32 (x : Int) : 0 ≤ x % 4294967296 ∧ x % 4294967296 < 4294967296 := by omega
theorem avg32 {x y : Int} (hx : 0 ≤ x ∧ x < 4294967296) (hy : 0 ≤ y ∧ y < 4294967296) : 0 ≤ IntKind.i64.wrap ((IntKind.i64.wrap (x + y)).tdiv 2) ∧ IntKind.i64.wrap ((IntKind.i64.wrap (x + y)).tdiv 2) < 4294967296 := by
  rw [wrapI (show -9223372036854775808 ≤ x + y ∧ x + y ≤ 9223372036854775807 by omega)]
  have : (x + y).tdiv 2 = (x + y) / 2 := Int.tdiv_eq_ediv_of_nonneg (by omega)
  rw [this, wrapI (by omega)]
  omega
theorem instrP_inv {k : MK} {fa : Int → Int} {f : PF} {i : InsP} (h : PFG k.ni f.spent f) (hp : f.pc < k.ni) : (instrP k fa f i).inv k.ni (f.spent + 1) := by
  obtain ⟨h1, h2, h3, h4, _⟩ := h
  have hat : ∀ m j, 0 ≤ f.at_ m j ∧ f.at_ m j < 4294967296 := fun m j => vals_getD (vals_drop h2 _) _
  have htwo : ∀ r : Int, (0 ≤ r ∧ r < 4294967296) → (f.two r).inv k.ni (f.spent + 1) := fun r hr => by
    unfold PF.two
    refine inv_ite (fun hh => ?_) (fun _ => trivial)
    exact ⟨by show (f.stk.take (f.stk.length - 2) ++ [r]).length ≤ 100; simp; omega, vals_snoc (vals_take h2 _) hr, h3, by show 0 ≤ f.pc + 1 ∧ f.pc + 1 ≤ k.ni; omega, rfl⟩
  have hpop : ∀ m, PFG k.ni (f.spent + 1) (f.pop m).nx := fun m => ⟨by show (f.stk.take (f.stk.length - m)).length ≤ 100; simp; omega, vals_take h2 _, h3, by show 0 ≤ f.pc + 1 ∧ f.pc + 1 ≤ k.ni; omega, rfl⟩
  have hnx : PFG k.ni (f.spent + 1) f.nx := ⟨h1, h2, h3, by show 0 ≤ f.pc + 1 ∧ f.pc + 1 ≤ k.ni; omega, rfl⟩
  have hask : (SR.ask f { kind := 5 }).inv k.ni (f.spent + 1) := ⟨⟨f.spent, h1, h2, h3, h4, rfl⟩, by decide⟩
  have hcall : ∀ objs takes key kind b c, (callP f objs takes key kind b c).inv k.ni (f.spent + 1) := fun objs takes key kind b c => by
    unfold callP
    exact inv_ite (fun hh => ⟨⟨_, hpop _⟩, by show ([] : List Int).length ≤ 100; decide⟩) (fun _ => trivial)
  unfold instrP
  repeat' (first
    | exact trivial
    | exact hask
    | exact hcall _ _ _ _ _ _
    | exact hpop _
    | exact hnx
    | exact ⟨⟨_, hpop _⟩, by show ([] : List Int).length ≤ 100; decide⟩
    | exact ⟨⟨_, hnx⟩, by show ([] : List Int).length ≤ 100; decide⟩
    | exact ⟨⟨_, hpop _⟩, by show (f.stk.drop _).length ≤ 100; simp; omega⟩
    | exact htwo _ (emod32 _)
    | exact htwo _ (avg32 (hat 2 0) (hat 2 1))
    | exact htwo _ (by split <;> omega)
    | (refine inv_ite (fun hh => ?_) (fun hh => ?_))
    | exact ⟨by show (f.stk ++ [_]).length ≤ 100; simp; omega, vals_snoc h2 (vals_getD h3 _), h3, by show 0 ≤ f.pc + 1 ∧ f.pc + 1 ≤ k.ni; omega, rfl⟩
    | exact ⟨by show (f.stk ++ [_]).length ≤ 100; simp; omega, vals_snoc h2 (by omega), h3, by show 0 ≤ f.pc + 1 ∧ f.pc + 1 ≤ k.ni; omega, rfl⟩
    | exact ⟨(hpop 1).ln, (hpop 1).stk, vals_setI h3 (hat 1 0), (hpop 1).pc, rfl⟩
    | exact ⟨(hpop 1).ln, (hpop 1).stk, h3, by show 0 ≤ i.a ∧ i.a ≤ k.ni; omega, rfl⟩
    | exact ⟨h1, h2, h3, by show 0 ≤ i.a ∧ i.a ≤ k.ni; omega, rfl⟩
    | exact ⟨(hpop 1).ln, (hpop 1).stk, (hpop 1).loc, (hpop 1).pc, rfl⟩)
theorem stepP_inv {k : MK} {fa : Int → Int} {b : BodyP} {f : PF} (h : PFG k.ni f.spent f) (hb : b.ni = k.ni) : (stepP k fa b f).inv k.ni (f.spent + 1) := by
  unfold stepP
  refine inv_ite (fun _ => trivial) (fun h1 => inv_ite (fun _ => trivial) (fun h2 => inv_ite (fun _ => trivial) (fun h3 => ?_)))
  exact instrP_inv h (by omega)
/-- what a frame that steps, or may not, is -/
structure StepA (wA : World) (c : CodeP) (f : FrP) : Prop where
  code : CodeOk wA c
  fr : FrOk wA f
  f0 : 0 ≤ f.fn
  f1 : f.fn < c.nf
  p0 : 0 ≤ f.pc
  p1 : f.pc ≤ (bodyAt c f.fn).ni
  ns : f.ns ≤ 100
  stk : valsB f.stk = true
  spent : 0 ≤ f.spent ∧ f.spent ≤ 2000
section
variable {wA w0 : World} {X : Nat → Prop} {M : EL} {K : Value → Ctx → Prop} {Z : PanK}
theorem step08_vc {c : CodeP} {f : FrP} (hs : StepA wA c f)
    (he : ∀ e, stp c f = .err e → K (.tuple #[.agg f.l.toArray, .agg (q0Q 0 0 0 0 0 0 0).l.toArray, .int .i64 e]) (CtxA wA w0 X M))
    (hg : ∀ f' M', stp c f = .go (pfF f') → Keep M' f f' → K (.tuple #[.agg f'.l.toArray, .agg (q0Q 0 0 0 0 0 0 0).l.toArray, .int .i64 0]) (CtxA wA w0 X (M' ++ M)))
    (ha : ∀ f' q M', stp c f = .ask (pfF f') (qp q) → q.kind ≠ 0 → Keep M' f f' → QKeep M' q → K (.tuple #[.agg f'.l.toArray, .agg q.l.toArray, .int .i64 0]) (CtxA wA w0 X (M' ++ M))) :
    CallVC Tryz.prog (CtxA wA w0 X M) 59 #[.agg c.l.toArray, .agg f.l.toArray] K Z := by
  by_cases h1 : f.spent = 2000
  · exact step08_eA hs.code hs.f0 hs.f1 h1 (he 11 (by unfold stp stepP; exact if_pos h1))
  have hsp := hs.spent
  by_cases h2 : f.pc = (bodyAt c f.fn).ni
  · exact step08_eB hs.code hs.f0 hs.f1 (by omega) h2 (he 1 (by unfold stp stepP; exact (if_neg h1).trans (if_pos (by show ¬ (0 ≤ f.pc ∧ f.pc < _); omega))))
  have hp0 := hs.p0
  have hp1 := hs.p1
  have hs' : StepOk wA c f := ⟨hs.code, hs.fr, hs.f0, hs.f1, hs.p0, by omega, hs.ns, hs.stk, by omega⟩
  by_cases h3 : (insAt (bodyAt c f.fn) f.pc).op < 1 ∨ 19 < (insAt (bodyAt c f.fn) f.pc).op
  · exact step08_eC hs' h3 (he 1 (by unfold stp stepP; exact (if_neg h1).trans ((if_neg (by show ¬ ¬ (0 ≤ f.pc ∧ f.pc < _); omega)).trans (if_pos (by show ¬ (1 ≤ (insAt (bodyAt c f.fn) f.pc).op ∧ (insAt (bodyAt c f.fn) f.pc).op < 20); omega)))))
  have h4 : (insAt (bodyAt c f.fn) f.pc).op = 1 ∨ (insAt (bodyAt c f.fn) f.pc).op = 2 ∨ (insAt (bodyAt c f.fn) f.pc).op = 3 ∨ (insAt (bodyAt c f.fn) f.pc).op = 4 ∨ (insAt (bodyAt c f.fn) f.pc).op = 5 ∨ (insAt (bodyAt c f.fn) f.pc).op = 6 ∨ (insAt (bodyAt c f.fn) f.pc).op = 7 ∨ (insAt (bodyAt c f.fn) f.pc).op = 8 ∨ (insAt (bodyAt c f.fn) f.pc).op = 9 ∨ (insAt (bodyAt c f.fn) f.pc).op = 10 ∨ (insAt (bodyAt c f.fn) f.pc).op = 11 ∨ (insAt (bodyAt c f.fn) f.pc).op = 12 ∨ (insAt (bodyAt c f.fn) f.pc).op = 13 ∨ (insAt (bodyAt c f.fn) f.pc).op = 14 ∨ (insAt (bodyAt c f.fn) f.pc).op = 15 ∨ (insAt (bodyAt c f.fn) f.pc).op = 16 ∨ (insAt (bodyAt c f.fn) f.pc).op = 17 ∨ (insAt (bodyAt c f.fn) f.pc).op = 18 ∨ (insAt (bodyAt c f.fn) f.pc).op = 19 := by omega
  rcases h4 with h | h | h | h | h | h | h | h | h | h | h | h | h | h | h | h | h | h | h
  · exact step08_1 hs' h (he 1) hg ha
  · exact step08_2 hs' h (he 1) hg ha
  · exact step08_3 hs' h (he 1) hg ha
  · exact step08_4 hs' h (he 1) hg ha
  · exact step08_5 hs' h (he 1) hg ha
  · exact step08_6 hs' h (he 1) hg ha
  · exact step08_7 hs' h (he 1) hg ha
  · exact step08_8 hs' h (he 1) hg ha
  · exact step08_9 hs' h (he 1) hg ha
  · exact step08_10 hs' h (he 1) hg ha
  · exact step08_11 hs' h (he 1) hg ha
  · exact step08_12 hs' h (he 1) hg ha
  · exact step08_13 hs' h (he 1) hg ha
  · exact step08_14 hs' h (he 1) hg ha
  · exact step08_15 hs' h (he 1) hg ha
  · exact step08_16 hs' h (he 1) hg ha
  · exact step08_17 hs' h (he 1) hg ha
  · exact step08_18 hs' h (he 1) hg ha
  · exact step08_19 hs' h (he 1) hg ha
end
end Go.Proofs.YtgaopcbjhepklaaGreat
/- The document's frames: a frame that goes on. -/
namespace Go.Proofs.YtgaopcbjhepklaaGreat
open Go.RowKit
set_option linter.unusedSimpArgs false
set_option linter.unusedVariables false
set_option maxRecDepth 100000
theorem Keep.trans {Ma Mb : EL} {f g h : FrP} (k1 : Keep Ma f g) (k2 : Keep Mb g h) : Keep (Mb ++ Ma) f h := by
  refine ⟨k2.task.trans k1.task, ⟨k2.path.1.trans k1.path.1, k2.path.2.1.trans k1.path.2.1, k2.path.2.2.1.trans k1.path.2.2.1, k2.path.2.2.2.trans k1.path.2.2.2⟩, k2.fn.trans k1.fn, ⟨k2.kids.1.trans k1.kids.1, k2.kids.2.1.trans k1.kids.2.1, k2.kids.2.2.1.trans k1.kids.2.2.1, k2.kids.2.2.2.trans k1.kids.2.2.2⟩, k2.many.trans k1.many, ?_, ?_⟩
  · rcases k2.loc with ⟨a1, a2, a3, a4⟩ | ⟨a1, a2⟩
    · rcases k1.loc with ⟨b1, b2, b3, b4⟩ | ⟨b1, b2⟩
      · exact .inl ⟨a1.trans b1, a2.trans b2, a3.trans b3, a4.trans b4⟩
      · refine .inr ⟨?_, a2.trans b2⟩
        rw [a1, a2, a3, a4]
        exact List.mem_append_right _ b1
    · refine .inr ⟨List.mem_append_left _ a1, ?_⟩
      rcases k1.loc with ⟨b1, b2, b3, b4⟩ | ⟨b1, b2⟩ <;> exact a2.trans b2
  · rcases k2.stk with ⟨a1, a2, a3, a4⟩ | a1
    · rcases k1.stk with ⟨b1, b2, b3, b4⟩ | b1
      · exact .inl ⟨a1.trans b1, a2.trans b2, a3.trans b3, a4.trans b4⟩
      · refine .inr ?_
        rw [a1, a2, a3, a4]
        exact List.mem_append_right _ b1
    · exact .inr (List.mem_append_left _ a1)
theorem Keep.fr {wA : World} {M' : EL} {f g : FrP} (h : Keep M' f g) (hf : FrOk wA f) (hE : ∀ A n c t sz l, (Value.slice A n c, DA.row t sz l) ∈ M' → Rd wA wA.heap.size A l ∧ l.length = n * sz ∧ n ≤ c ∧ c ≤ maxLen) (hs : g.stk.length ≤ 1000000) : FrOk wA g := by
  obtain ⟨h1, h2, h3, h4⟩ := hf
  obtain ⟨p1, p2, p3, p4⟩ := h.path
  obtain ⟨q1, q2, q3, q4⟩ := h.kids
  refine ⟨by rw [p1, p2, p3, p4]; exact h1, ?_, ?_, by rw [q1, q2, q3, q4]; exact h4⟩
  · rcases h.loc with ⟨a1, a2, a3, a4⟩ | ⟨a1, a2⟩
    · rw [a1, a2, a3, a4]; exact h2
    · obtain ⟨b1, b2, b3, _⟩ := hE _ _ _ _ _ _ a1
      exact ⟨b1, by simpa using b2.symm, b3, by rw [a2]; exact h2.sm⟩
  · rcases h.stk with ⟨a1, a2, a3, a4⟩ | a1
    · rw [a1, a2, a3, a4]; exact h3
    · obtain ⟨b1, b2, b3, _⟩ := hE _ _ _ _ _ _ a1
      have hl : g.ns = g.stk.length := by simpa using b2.symm
      exact ⟨b1, hl, b3, by omega⟩
theorem Keep.k {M' : EL} {c : CodeP} {f g : FrP} (h : Keep M' f g) : kOf c g none 0 none 0 = kOf c f none 0 none 0 := by
  obtain ⟨p1, p2, p3, p4⟩ := h.path
  obtain ⟨q1, q2, q3, q4⟩ := h.kids
  simp only [kOf, h.task, p2, p4, h.fn, q2, q4, h.many]
/-- what holds at the head of the loop -/
structure LN (wA : World) (M : EL) (c : CodeP) (f : FrP) (i : Nat) (x : FrP) (Mx : EL) : Prop where
  keep : Keep Mx f x
  fr : ∀ E, InE wA (Mx ++ M) E → FrOk E x
  g : PFG (bodyAt c f.fn).ni x.spent (pfF x)
  i : (i : Int) ≤ x.spent
  sp : x.spent ≤ 2000
  run : nextP c f = runP (kOf c f none 0 none 0) (fun a => (bodyAt c a).args) (bodyAt c f.fn) (2001 - x.spent.toNat) (pfF x)
section
variable {wA w0 : World} {X : Nat → Prop} {M : EL} {K : Value → Ctx → Prop} {Z : PanK}
theorem LN.stp {c : CodeP} {f : FrP} {i : Nat} {x : FrP} {Mx : EL} (L : LN wA M c f i x Mx) : stp c x = stepP (kOf c f none 0 none 0) (fun a => (bodyAt c a).args) (bodyAt c f.fn) (pfF x) := by
  unfold Proofs.YtgaopcbjhepklaaGreat.stp
  rw [L.keep.k, L.keep.fn]
theorem LN.runS {c : CodeP} {f : FrP} {i : Nat} {x : FrP} {Mx : EL} (L : LN wA M c f i x Mx) : nextP c f = runP (kOf c f none 0 none 0) (fun a => (bodyAt c a).args) (bodyAt c f.fn) ((2000 - x.spent.toNat) + 1) (pfF x) := by
  rw [L.run]
  have : 2001 - x.spent.toNat = (2000 - x.spent.toNat) + 1 := by have := L.sp; omega
  rw [this]
theorem LN.ok {c : CodeP} {f : FrP} {i : Nat} {x : FrP} {Mx : EL} {E : World} (L : LN wA M c f i x Mx) (hc : CodeOk wA c) (f0 : 0 ≤ f.fn) (f1 : f.fn < c.nf) (hE : InE wA (Mx ++ M) E) : StepA E c x := by
  have hfr := L.fr E hE
  have hn := hfr.stk.len
  have := L.g.ln
  have hpc := L.g.pc
  have hi := L.i
  exact ⟨hE.code hc, hfr, by rw [L.keep.fn]; exact f0, by rw [L.keep.fn]; exact f1, hpc.1, by rw [L.keep.fn]; exact hpc.2, by rw [hn]; exact this, L.g.stk, by omega, L.sp⟩
theorem LN.go {c : CodeP} {f : FrP} {i : Nat} {x : FrP} {Mx : EL} (L : LN wA M c f i x Mx) {x' : FrP} {M' : EL} (h : Proofs.YtgaopcbjhepklaaGreat.stp c x = .go (pfF x')) (k : Keep M' x x') : LN wA M c f (i + 1) x' (M' ++ Mx) ∧ x'.spent = x.spent + 1 ∧ x.spent < 2000 := by
  have hst := L.stp ▸ h
  have hin := stepP_inv (k := kOf c f none 0 none 0) (fa := fun a => (bodyAt c a).args) (b := bodyAt c f.fn) (f := pfF x) L.g rfl
  rw [hst] at hin
  obtain ⟨g1, g2, g3, g4, g5⟩ := hin
  have g5' : x'.spent = x.spent + 1 := g5
  have hlt : x.spent < 2000 := by
    have := L.sp
    rcases Int.lt_or_eq_of_le this with h | h
    · exact h
    · have : stepP (kOf c f none 0 none 0) (fun a => (bodyAt c a).args) (bodyAt c f.fn) (pfF x) = .err 11 := by unfold stepP; exact if_pos h
      rw [this] at hst
      cases hst
  have hi := L.i
  refine ⟨⟨L.keep.trans k, fun E hE => ?_, ⟨g1, g2, g3, g4, rfl⟩, by omega, by omega, ?_⟩, g5', hlt⟩
  · have g1' : x'.stk.length ≤ 100 := g1
    refine k.fr (L.fr E (hE.less fun e he => ?_)) (fun A n c t sz l hm => hE.row A n c t sz l (List.mem_append_left _ (List.mem_append_left _ hm))) (by omega)
    rcases List.mem_append.1 he with he | he
    · exact List.mem_append_left _ (List.mem_append_right _ he)
    · exact List.mem_append_right _ he
  · rw [L.runS, runP_go hst]
    have : 2000 - x.spent.toNat = 2001 - x'.spent.toNat := by omega
    rw [this]
set_option maxHeartbeats 8000000 in
theorem next08_vc {c : CodeP} {f : FrP} (hc : CodeOk wA c) (hf : FrOk wA f)
    (h0 : rightB c f = false → K (.tuple #[.agg f.l.toArray, .agg (q0Q 0 0 0 0 0 0 0).l.toArray, .int .i64 1]) (CtxA wA w0 X M))
    (h1 : rightB c f = true → ∀ e, nextP c f = .err e → K (.tuple #[.agg f.l.toArray, .agg (q0Q 0 0 0 0 0 0 0).l.toArray, .int .i64 e]) (CtxA wA w0 X M))
    (h2 : rightB c f = true → ∀ x q M', Keep M' f x → QKeep M' q → (∀ E, InE wA (M' ++ M) E → FrOk E x) → q.kind ≠ 0 → nextP c f = .ok (pfF x) (qp q) → K (.tuple #[.agg x.l.toArray, .agg q.l.toArray, .int .i64 0]) (CtxA wA w0 X (M' ++ M))) :
    CallVC Tryz.prog (CtxA wA w0 X M) 25 #[.agg c.l.toArray, .agg f.l.toArray] K Z := by
  refine it25 (args := [.agg c.l.toArray, .agg f.l.toArray]) (by rfl) ?_
  intro w2 X2
  conv => whnf
  repeat' (first
    | (refine JoinVC.go ?_; conv => whnf)
    | (refine RetA.go ?_; conv => whnf)
    | (refine right08_vc hc hf (fun hr => ?_) (fun hr => ?_) <;> conv => whnf)
    | (exact RetT.drop (K := K) M (by repeat (first | exact List.Sublist.refl _ | refine List.Sublist.cons_cons _ ?_ | refine List.Sublist.cons _ ?_)) (h0 hr))
    | (refine RetA.go ?_; conv => whnf)
    | (refine And.intro ?_ ?_ <;> conv => whnf)
    | (refine splitB.dec (fun hb => ?_) (fun hb => ?_) <;> first | (exfalso; omega) | (conv => whnf))
    | (refine splitB.ndec (fun hb => ?_) (fun hb => ?_) <;> first | (exfalso; omega) | (conv => whnf))
    | (refine splitB.eqI (fun hb => ?_) (fun hb => ?_) <;> first | (exfalso; omega) | (conv => whnf))
    | (refine splitB.neI (fun hb => ?_) (fun hb => ?_) <;> first | (exfalso; omega) | (conv => whnf)))
  have R := rightB_spec hr
  have hns := hf.stk.len
  have L0 : LN wA M c f 0 f [] := ⟨Keep.refl _ _, fun E hE => hE.fr hf, ⟨by have := R.ns; show f.stk.length ≤ 100; omega, R.stk, R.loc, R.pc, rfl⟩, by have := R.spent; omega, by have := R.spent; omega, rfl⟩
  refine LoopVC.on (X := Nat × FrP × EL) (fun p => [(2, .p 2 0), (3, .p 3 0), (4, .p 4 0), (5, .p 5 0), (6, .v (.int .i64 0)), (8, .p 8 0), (9, .v (.int .i64 (p.1 : Int)))]) (fun p => [(2, 25, c.l), (3, 36, f.l), (4, 36, zeroF.l), (5, 29, (q0Q 0 0 0 0 0 0 0).l), (8, 36, p.2.1.l)]) (fun p => CtxA wA w2 X2 (p.2.2 ++ M)) (fun p => LN wA M c f p.1 p.2.1 p.2.2) (fun p => 2001 - p.2.1.spent.toNat) (0, f, []) L0 ⟨rfl, rfl, rfl, rfl, rfl, rfl, rfl, trivial⟩ ⟨rfl, rfl, rfl, rfl, rfl, trivial⟩ ?_
  intro p r L
  obtain ⟨i, x, Mx⟩ := p
  replace L : LN wA M c f i x Mx := L
  have Li := L.i
  have Ls := L.sp
  dsimp only
  conv => whnf
  repeat' (first
    | (refine JoinVC.go ?_; conv => whnf)
    | (refine RetA.go ?_; conv => whnf)
    | (refine CallVC.anchor [] _ en59 rfl (fun E w Y hE => step08_vc (L.ok hc R.f0 R.f1 hE) (fun e he => RetN.to (Mx ++ M) rfl ?_) (fun x' M' hst hk => RetN.to ((M' ++ Mx) ++ M) (by simp) ?_) (fun x' q M' hst hq hk hqk => RetN.to ((M' ++ Mx) ++ M) (by simp) ?_)) <;> conv => whnf)
    | (refine RetA.go ?_; conv => whnf)
    | (refine And.intro ?_ ?_ <;> conv => whnf)
    | (refine splitB.dec (fun hb => ?_) (fun hb => ?_) <;> first | (exfalso; omega) | (conv => whnf))
    | (refine splitB.ndec (fun hb => ?_) (fun hb => ?_) <;> first | (exfalso; omega) | (conv => whnf))
    | (refine splitB.eqI (fun hb => ?_) (fun hb => ?_) <;> first | (exfalso; omega) | (conv => whnf))
    | (refine splitB.neI (fun hb => ?_) (fun hb => ?_) <;> first | (exfalso; omega) | (conv => whnf)))
  · exact RetT.drop (K := K) M (List.sublist_append_right Mx M) (h1 hr e (by rw [L.runS]; exact runP_err (L.stp ▸ he)))
  · rcases stepP_err he with h | h <;> omega
  · obtain ⟨L', hsp, hlt⟩ := L.go hst hk
    exact rnd (X := Nat × FrP × EL) (i + 1, x', M' ++ Mx) (by show 2001 - x'.spent.toNat < 2001 - x.spent.toNat; omega) L' ⟨rfl, rfl, rfl, rfl, rfl, rfl, ixw (by omega), trivial⟩ ⟨rfl, rfl, rfl, rfl, rfl, trivial⟩
  · refine RetT.drop (K := K) ((M' ++ Mx) ++ M) (List.Sublist.refl _) (h2 hr x' q (M' ++ Mx) (L.keep.trans hk) ?_ (fun E hE => ?_) hq (by rw [L.runS]; exact runP_ask (L.stp ▸ hst)))
    · rcases hqk with h | h
      · exact .inl h
      · exact .inr (List.mem_append_left _ h)
    · have hin := stepP_inv (k := kOf c f none 0 none 0) (fa := fun a => (bodyAt c a).args) (b := bodyAt c f.fn) (f := pfF x) L.g rfl
      rw [← L.stp, hst] at hin
      obtain ⟨⟨s', hg⟩, _⟩ := hin
      have hl : x'.stk.length ≤ 100 := hg.ln
      refine hk.fr (L.fr E (hE.less fun e he => ?_)) (fun A n c t sz l hm => hE.row A n c t sz l (List.mem_append_left _ (List.mem_append_left _ hm))) (by omega)
      rcases List.mem_append.1 he with he | he
      · exact List.mem_append_left _ (List.mem_append_right _ he)
      · exact List.mem_append_right _ he
end
end Go.Proofs.YtgaopcbjhepklaaGreat
/- The document's seat: a frame that goes on. -/
namespace Go.Proofs.YtgaopcbjhepklaaGreat
open Go.RowKit
set_option linter.unusedSimpArgs false
set_option linter.unusedVariables false
set_option maxRecDepth 100000
def SR.kd : SR → Prop
  | .ask _ q => 1 ≤ q.kind ∧ q.kind ≤ 6
  | _ => True
theorem kd_ite {c : Prop} [Decidable c] {a b : SR} (h1 : a.kd) (h2 : b.kd) : (if c then a else b).kd := by
  split
  · exact h1
  · exact h2
theorem instrP_kd {k : MK} {fa : Int → Int} {f : PF} {i : InsP} : (instrP k fa f i).kd := by
  unfold instrP callP PF.two
  repeat' (first | exact trivial | apply kd_ite | exact ⟨by show (1 : Int) ≤ 1; decide, by show (1 : Int) ≤ 6; decide⟩ | exact ⟨by show (1 : Int) ≤ 2; decide, by show (2 : Int) ≤ 6; decide⟩ | exact ⟨by show (1 : Int) ≤ 3; decide, by show (3 : Int) ≤ 6; decide⟩ | exact ⟨by show (1 : Int) ≤ 4; decide, by show (4 : Int) ≤ 6; decide⟩ | exact ⟨by show (1 : Int) ≤ 5; decide, by show (5 : Int) ≤ 6; decide⟩ | exact ⟨by show (1 : Int) ≤ 6; decide, by show (6 : Int) ≤ 6; decide⟩)
theorem runP_kd {k : MK} {fa : Int → Int} {b : BodyP} : ∀ (n : Nat) (f : PF) {f' : PF} {q : QP}, runP k fa b n f = .ok f' q → 1 ≤ q.kind ∧ q.kind ≤ 6
  | 0, f, f', q, h => by simp only [runP] at h; cases h
  | n + 1, f, f', q, h => by
    have hst : (stepP k fa b f).kd := by
      unfold stepP
      exact kd_ite trivial (kd_ite trivial (kd_ite trivial instrP_kd))
    simp only [runP] at h
    split at h
    · exact runP_kd n _ h
    · rename_i f1 q1 h1
      rw [h1] at hst
      injection h with h2 h3
      subst h3
      exact hst
    · cases h
section
variable {wA w0 : World} {X : Nat → Prop} {M : EL} {K : Value → Ctx → Prop} {Z : PanK}
set_option maxHeartbeats 8000000 in
theorem go30_vc {c : CodeP} {s : SeP} {f : FrP} (hc : CodeOk wA c) (hf : FrOk wA f)
    (h0 : rightB c f = false → K (.tuple #[.agg s.l.toArray, .agg f.l.toArray, .int .i64 1]) (CtxA wA w0 X M))
    (h1 : rightB c f = true → ∀ e, nextP c f = .err e → K (.tuple #[.agg s.l.toArray, .agg f.l.toArray, .int .i64 e]) (CtxA wA w0 X M))
    (h2 : rightB c f = true → ∀ x q M', Keep M' f x → QKeep M' q → (∀ E, InE wA (M' ++ M) E → FrOk E x) → q.kind ≠ 0 → nextP c f = .ok (pfF x) (qp q) → ∀ ph o0 o1 o2 o3, goOp s q f.task = ⟨ph, o0, o1, o2, o3⟩ → K (.tuple #[.agg (goS s q ⟨ph, o0, o1, o2, o3⟩).l.toArray, .agg x.l.toArray, .int .i64 0]) (CtxA wA w0 X (M' ++ M))) :
    CallVC Tryz.prog (CtxA wA w0 X M) 11 #[.agg c.l.toArray, .agg s.l.toArray, .agg f.l.toArray] K Z := by
  refine it11 (args := [.agg c.l.toArray, .agg s.l.toArray, .agg f.l.toArray]) (by rfl) ?_
  intro w2 X2
  conv => whnf
  repeat' (first
    | (refine ia26 (by rfl) ?_; intro w4 X4; conv => whnf)
    | (refine JoinVC.go ?_; conv => whnf)
    | (refine RetA.go ?_; conv => whnf)
    | (refine next08_vc hc hf (fun hr => ?_) (fun hr e he => ?_) (fun hr x q M' hk hqk hfx hq he => ?_) <;> conv => whnf)
    | (refine RetA.go ?_; conv => whnf)
    | (refine And.intro ?_ ?_ <;> conv => whnf)
    | (refine splitB.dec (fun hb => ?_) (fun hb => ?_) <;> first | (exfalso; omega) | (conv => whnf))
    | (refine splitB.ndec (fun hb => ?_) (fun hb => ?_) <;> first | (exfalso; omega) | (conv => whnf))
    | (refine splitB.eqI (fun hb => ?_) (fun hb => ?_) <;> first | (exfalso; omega) | (conv => whnf))
    | (refine splitB.neI (fun hb => ?_) (fun hb => ?_) <;> first | (exfalso; omega) | (conv => whnf)))
  · exact RetT.drop (K := K) M (by repeat (first | exact List.Sublist.refl _ | refine List.Sublist.cons_cons _ ?_ | refine List.Sublist.cons _ ?_)) (h0 hr)
  · exact RetT.drop (K := K) M (by repeat (first | exact List.Sublist.refl _ | refine List.Sublist.cons_cons _ ?_ | refine List.Sublist.cons _ ?_)) (h1 hr e he)
  · exact (nextP_err he ‹_›).elim
  all_goals
    have hq6 := runP_kd _ _ he
    have hq1 : 1 ≤ q.kind ∧ q.kind ≤ 6 := hq6
    exact RetT.drop (K := K) (M' ++ M) (by repeat (first | exact List.Sublist.refl _ | refine List.Sublist.cons_cons _ ?_ | refine List.Sublist.cons _ ?_)) (h2 hr x q M' hk hqk hfx hq he _ _ _ _ _ (by simp only [goOp]; repeat (first | rfl | refine (if_pos (by first | assumption | omega)).trans ?_ | refine (if_neg (by assumption)).trans ?_)))
end
end Go.Proofs.YtgaopcbjhepklaaGreat
/- Arguments of a size that is looked at. -/
namespace Go.Proofs.YtgaopcbjhepklaaGreat
open Go.RowKit
set_option linter.unusedSimpArgs false
set_option linter.unusedVariables false
set_option maxRecDepth 100000
/-- a row of numbers of any size -/
structure RdI (wA : World) (A : Option Addr) (n c : Nat) (xs : List Int) : Prop where
  rd : Rd wA wA.heap.size A (is xs)
  len : n = xs.length
  cap : n ≤ c
  mx : n ≤ 9223372036854775807
structure RdK (wA : World) (A : Option Addr) (n c : Nat) (xs : List KidP) : Prop where
  rd : Rd wA wA.heap.size A (kidL xs)
  len : n = xs.length
  cap : n ≤ c
  mx : n ≤ 9223372036854775807
/-- a frame of any size -/
structure FrRd (wA : World) (f : FrP) : Prop where
  path : RdI wA f.Ap f.np f.cp f.path
  loc : RdI wA f.Al f.nl f.cl f.loc
  stk : RdI wA f.As f.ns f.cs f.stk
  kids : RdK wA f.Ak f.nk f.ck f.kids
/-- sizes -/
structure SizeOk (c : CodeP) (f : FrP) : Prop where
  nf : c.nf ≤ 20
  nc : c.nc ≤ 40
  nl : f.nl ≤ 100
  ns : f.ns ≤ 120
  nk : f.nk ≤ 60
  np : f.np ≤ 60
  ni : ∀ i (h : i < c.funs.length), c.funs[i].ni ≤ 500
theorem FrRd.ok {wA : World} {c : CodeP} {f : FrP} (h : FrRd wA f) (s : SizeOk c f) : FrOk wA f := by
  obtain ⟨a1, a2, a3, a4, a5, a6, _⟩ := s
  exact ⟨⟨h.path.rd, h.path.len, h.path.cap, by omega⟩, ⟨h.loc.rd, h.loc.len, h.loc.cap, by omega⟩, ⟨h.stk.rd, h.stk.len, h.stk.cap, by omega⟩, ⟨h.kids.rd, h.kids.len, h.kids.cap, by omega⟩⟩
theorem funs_at : ∀ (l : List BodyP) (i : Nat) (h : i < l.length) (q : Nat) (v : Value), l[i].l[q]? = some v → (l.flatMap BodyP.l)[i * 3 + q]? = some v
  | x :: l, 0, h, q, v, hv => by
    rw [List.flatMap_cons, List.getElem?_append_left (by have := (List.getElem?_eq_some_iff.1 hv).1; simpa using this)]
    simpa using hv
  | x :: l, i + 1, h, q, v, hv => by
    rw [List.flatMap_cons, List.getElem?_append_right (by rw [BodyP.l_len]; omega), BodyP.l_len]
    have : (i + 1) * 3 + q - 3 = i * 3 + q := by omega
    rw [this]
    exact funs_at l i (by simpa using h) q v (by simpa using hv)
theorem CodeRd.ok {wA : World} {c : CodeP} {cs : List Int} {f : FrP} (h : CodeRd wA c cs) (s : SizeOk c f) : CodeOk wA c := by
  obtain ⟨a1, a2, a3, a4, a5, a6, a7⟩ := s
  refine ⟨h.nf, by omega, by omega, fun i hi => ?_, fun i hi => ?_⟩
  · obtain ⟨b, o, hA, _, hc0⟩ := h.funs.at_ (funs_at c.funs i hi 0 _ rfl)
    refine ⟨b, o, hA, fun q v hv => ?_⟩
    obtain ⟨b', o', hA', _, hc⟩ := h.funs.at_ (funs_at c.funs i hi q v hv)
    rw [hA] at hA'
    injection hA' with hA'
    injection hA' with e1 e2
    subst e1 e2
    rw [Nat.add_assoc]
    exact hc
  · obtain ⟨b1, b2, b3⟩ := h.ins i hi
    rw [insL_flat]
    exact ⟨b1, b2, by have := a7 i hi; omega⟩
section
variable {wA w0 : World} {X : Nat → Prop} {M : EL} {K : Value → Ctx → Prop} {Z : PanK}
set_option maxHeartbeats 8000000 in
theorem small08_vc {c : CodeP} {cs : List Int} {f : FrP} (hc : CodeRd wA c cs) (h1 : SizeOk c f → K (.bool true) (CtxA wA w0 X M)) (h2 : K (.bool false) (CtxA wA w0 X M)) : CallVC Tryz.prog (CtxA wA w0 X M) 21 #[.agg c.l.toArray, .agg f.l.toArray] K Z := by
  have hf := hc.nf
  have mf := hc.mf
  refine it21 (args := [.agg c.l.toArray, .agg f.l.toArray]) (by rfl) ?_
  intro w2 X2
  conv => whnf
  repeat' (first
    | (exact RetT.drop (K := K) M (List.Sublist.refl _) h2)
    | (refine JoinVC.go ?_; conv => whnf)
    | (refine RetA.go ?_; conv => whnf)
    | (refine And.intro ?_ ?_ <;> conv => whnf)
    | (refine splitB.dec (fun hb => ?_) (fun hb => ?_) <;> first | (exfalso; omega) | (conv => whnf))
    | (refine splitB.ndec (fun hb => ?_) (fun hb => ?_) <;> first | (exfalso; omega) | (conv => whnf))
    | (refine splitB.eqI (fun hb => ?_) (fun hb => ?_) <;> first | (exfalso; omega) | (conv => whnf))
    | (refine splitB.neI (fun hb => ?_) (fun hb => ?_) <;> first | (exfalso; omega) | (conv => whnf))
    | (intro r bx; conv => whnf))
  refine LoopVC.on (X := Nat) (fun i => [(2, .p 2 0), (3, .p 3 0), (4, .v (.bool false)), (5, .v (.int .i64 (i : Int)))]) (fun i => [(2, 25, c.l), (3, 36, f.l)]) (fun _ => CtxA wA w2 X2 M) (fun i => i ≤ c.nf ∧ ∀ j (h : j < c.funs.length), j < i → c.funs[j].ni ≤ 500) (fun i => c.nf - i) 0 ⟨Nat.zero_le _, fun j _ h => absurd h (Nat.not_lt_zero _)⟩ ⟨rfl, rfl, rfl, rfl, trivial⟩ ⟨rfl, rfl, trivial⟩ ?_
  intro i r hi
  obtain ⟨hi, hj⟩ := hi
  replace hi : i ≤ c.nf := hi
  conv => whnf
  repeat' (first
    | (refine JoinVC.go ?_; conv => whnf)
    | (refine RetA.go ?_; conv => whnf)
    | (refine idxOG BodyP.l 3 BodyP.l_len (by omega) hc.funs hf i rfl (by omega) (fun b' o' hA hcl => ?_); conv => whnf)
    | (refine ldO (hcl 2 _ rfl) (tab_ok _ _ (by rfl)) (by rfl) ?_; conv => whnf)
    | (refine ldO (hcl 1 _ rfl) (tab_ok _ _ (by rfl)) (by rfl) ?_; conv => whnf)
    | (refine RetA.go ?_; conv => whnf)
    | (refine And.intro ?_ ?_ <;> conv => whnf)
    | (refine splitB.dec (fun hb => ?_) (fun hb => ?_) <;> first | (exfalso; omega) | (conv => whnf))
    | (refine splitB.ndec (fun hb => ?_) (fun hb => ?_) <;> first | (exfalso; omega) | (conv => whnf))
    | (refine splitB.eqI (fun hb => ?_) (fun hb => ?_) <;> first | (exfalso; omega) | (conv => whnf))
    | (refine splitB.neI (fun hb => ?_) (fun hb => ?_) <;> first | (exfalso; omega) | (conv => whnf)))
  all_goals first
    | exact RetT.drop (K := K) M (List.Sublist.refl _) h2
    | exact rnd (X := Nat) (i + 1) (by show c.nf - (i + 1) < c.nf - i; omega) ⟨by show i + 1 ≤ c.nf; omega, fun j hj1 hj2 => by rcases Nat.lt_succ_iff_lt_or_eq.1 (show j < i + 1 from hj2) with h | h; exact hj j hj1 h; (subst h; omega)⟩ ⟨rfl, rfl, rfl, ixw2 (by omega), trivial⟩ ⟨rfl, rfl, trivial⟩
    | exact RetT.drop (K := K) M (List.Sublist.refl _) (h1 ⟨by omega, by omega, by omega, by omega, by omega, by omega, fun j hj1 => hj j hj1 (by omega)⟩)
set_option maxHeartbeats 8000000 in
theorem small30_vc {c : CodeP} {cs : List Int} {s : SeP} {f : FrP} {b : Nat} (hc : CodeRd wA c cs) (hm : (Value.slice (some ⟨b, 0, none⟩) 1 1, DA.row 36 10 f.l) ∈ M) (h1 : SizeOk c f → s.nl ≤ 400 → s.nq ≤ 20 → s.ng ≤ 60 → K (.bool true) (CtxA wA w0 X M)) (h2 : K (.bool false) (CtxA wA w0 X M)) : CallVC Tryz.prog (CtxA wA w0 X M) 8 #[.agg c.l.toArray, .agg s.l.toArray, .slice (some ⟨b, 0, none⟩) 1 1] K Z := by
  refine it8 (args := [.agg c.l.toArray, .agg s.l.toArray, _]) (by rfl) ?_
  intro w2 X2
  conv => whnf
  repeat' (first
    | (refine JoinVC.go ?_; conv => whnf)
    | (refine RetA.go ?_; conv => whnf)
    | (exact RetT.drop (K := K) M (List.Sublist.refl _) h2)
    | (refine LoopVC.unroll ?_; conv => whnf)
    | (refine idxO b 0 rfl (by decide) (by decide) ?_; conv => whnf)
    | (refine small08_vc hc (fun hsz => ?_) ?_ <;> conv => whnf)
    | (refine ldsR f.l hm (tab_ok _ _ (by rfl)) (by rfl) (by rfl) (by rfl) ?_; conv => whnf)
    | (refine RetA.go ?_; conv => whnf)
    | (refine And.intro ?_ ?_ <;> conv => whnf)
    | (refine splitB.dec (fun hb => ?_) (fun hb => ?_) <;> first | (exfalso; omega) | (conv => whnf))
    | (refine splitB.ndec (fun hb => ?_) (fun hb => ?_) <;> first | (exfalso; omega) | (conv => whnf))
    | (refine splitB.eqI (fun hb => ?_) (fun hb => ?_) <;> first | (exfalso; omega) | (conv => whnf))
    | (refine splitB.neI (fun hb => ?_) (fun hb => ?_) <;> first | (exfalso; omega) | (conv => whnf)))
  by_cases hg : (s.ng : Int) ≤ 60
  · exact RetT.drop (K := K) M (List.Sublist.refl _) (castB (decide_eq_true hg) (h1 hsz (by omega) (by omega) (by omega)))
  · exact RetT.drop (K := K) M (List.Sublist.refl _) (castB (decide_eq_false hg) h2)
set_option maxHeartbeats 8000000 in
theorem frames1_vc {g1 g2 : FrP} {b1 b2 : Nat} (m1 : (Value.slice (some ⟨b1, 0, none⟩) 1 1, DA.row 36 10 g1.l) ∈ M) (m2 : (Value.slice (some ⟨b2, 0, none⟩) 1 1, DA.row 36 10 g2.l) ∈ M) (h1 : ∀ E, InE wA M E → FrOk E g1) (h2 : ∀ E, InE wA M E → FrOk E g2) (e1 : g1.task = g2.task) (e2 : g1.path = g2.path) (e3 : g1.fn = g2.fn) (e4 : g1.pc = g2.pc) (e5 : g1.loc = g2.loc) (e6 : g1.stk = g2.stk) (e7 : g1.kids = g2.kids) (e8 : g1.many = g2.many) (e9 : g1.spent = g2.spent) (e10 : g1.fail = g2.fail) (hk : K (.bool true) (CtxA wA w0 X M)) : CallVC Tryz.prog (CtxA wA w0 X M) 13 #[.slice (some ⟨b1, 0, none⟩) 1 1, .slice (some ⟨b2, 0, none⟩) 1 1] K Z := by
  refine it13 (args := [_, _]) (by rfl) ?_
  intro w2 X2
  conv => whnf
  repeat' (first
    | (refine JoinVC.go ?_; conv => whnf)
    | (refine RetA.go ?_; conv => whnf)
    | (exact RetT.drop (K := K) M (List.Sublist.refl _) hk)
    | (refine LoopVC.unroll ?_; conv => whnf)
    | (refine idxO b1 0 rfl (by decide) (by decide) ?_; conv => whnf)
    | (refine idxO b2 0 rfl (by decide) (by decide) ?_; conv => whnf)
    | (refine CallVC.anchor [] _ en30 rfl (fun E w Y hE => same08_vc (h1 E hE) (h2 E hE) e1 e2 e3 e4 e5 e6 e7 e8 e9 e10 (RetN.to M rfl ?_)); conv => whnf)
    | (refine ldsR g1.l m1 (tab_ok _ _ (by rfl)) (by rfl) (by rfl) (by rfl) ?_; conv => whnf)
    | (refine ldsR g2.l m2 (tab_ok _ _ (by rfl)) (by rfl) (by rfl) (by rfl) ?_; conv => whnf)
    | (refine RetA.go ?_; conv => whnf)
    | (refine And.intro ?_ ?_ <;> conv => whnf)
    | (refine splitB.dec (fun hb => ?_) (fun hb => ?_) <;> first | (exfalso; omega) | (conv => whnf))
    | (refine splitB.ndec (fun hb => ?_) (fun hb => ?_) <;> first | (exfalso; omega) | (conv => whnf))
    | (refine splitB.eqI (fun hb => ?_) (fun hb => ?_) <;> first | (exfalso; omega) | (conv => whnf))
    | (refine splitB.neI (fun hb => ?_) (fun hb => ?_) <;> first | (exfalso; omega) | (conv => whnf)))
end
end Go.Proofs.YtgaopcbjhepklaaGreat
/- Comparisons of seats, of any size. -/
namespace Go.Proofs.YtgaopcbjhepklaaGreat
open Go.RowKit
set_option linter.unusedSimpArgs false
set_option linter.unusedVariables false
set_option maxRecDepth 100000
structure OldS (wA : World) (A : Option Addr) (n : Nat) (xs : List Int) : Prop where
  rd : Rd wA wA.heap.size A (is xs)
  len : n = xs.length
  mx : n ≤ 9223372036854775807
theorem InE.oldS {wA : World} {M : EL} {E : World} (h : InE wA M E) {A : Option Addr} {n : Nat} {xs : List Int} (ho : OldS wA A n xs) : OldS E A n xs := ⟨h.rd ho.rd, ho.len, ho.mx⟩
theorem InE.oldR {wA : World} {M : EL} {E : World} (h : InE wA M E) {A : Option Addr} {n : Nat} {xs : List (Int × Bool)} (ho : OldR wA A n xs) : OldR E A n xs := ⟨h.rd ho.rd, ho.len, ho.sm⟩
theorem nilS (w : World) : OldS w none 0 [] := ⟨.inl rfl, rfl, Nat.zero_le _⟩
theorem nilR (w : World) : OldR w none 0 [] := ⟨.inl rfl, rfl, Nat.zero_le _⟩
section
variable {wA w0 : World} {X : Nat → Prop} {M : EL} {K : Value → Ctx → Prop} {Z : PanK}
theorem idxOS {A : Option Addr} {n : Nat} {xs : List Int} (h : OldS wA A n xs) {i : Int} (j : Nat) (hj : i = j) (h1 : j < n) {K : Value → Prop} (hk : ∀ b off, A = some ⟨b, off, none⟩ → wA.cell? ⟨b, off + j, none⟩ = some (.int .i64 (xs.getD j 0)) → K (.pointer (some ⟨b, off + j, none⟩))) : IdxVC A n i 1 K := by
  subst hj
  have hx : (is xs)[j]? = some (.int .i64 (xs.getD j 0)) := isAt j (by have := h.len; omega)
  obtain ⟨b, off, hA, _, hc⟩ := h.rd.at_ hx
  refine ⟨_, hA, by omega, by omega, ?_⟩
  rw [Addr.add_lit]
  simpa using hk b off hA hc
set_option maxHeartbeats 4000000 in
theorem ints30S_vc {A1 A2 : Option Addr} {n1 n2 c1 c2 : Nat} {xs : List Int} (h1 : OldS wA A1 n1 xs) (h2 : OldS wA A2 n2 xs) (hk : K (.bool true) (CtxA wA w0 X M)) : CallVC Tryz.prog (CtxA wA w0 X M) 29 #[.slice A1 n1 c1, .slice A2 n2 c2] K Z := by
  have hl := h1.len
  have hl2 := h2.len
  have hs := h1.mx
  refine it29 (args := [.slice A1 n1 c1, .slice A2 n2 c2]) (by rfl) ?_
  intro w2 X2
  conv => whnf
  repeat' (first
    | (exact RetT.drop (K := K) M (List.Sublist.refl _) hk)
    | (refine JoinVC.go ?_; conv => whnf)
    | (refine RetA.go ?_; conv => whnf)
    | (refine And.intro ?_ ?_ <;> conv => whnf)
    | (refine splitB.dec (fun hb => ?_) (fun hb => ?_) <;> first | (exfalso; omega) | (conv => whnf))
    | (refine splitB.ndec (fun hb => ?_) (fun hb => ?_) <;> first | (exfalso; omega) | (conv => whnf))
    | (refine splitB.eqI (fun hb => ?_) (fun hb => ?_) <;> first | (exfalso; omega) | (conv => whnf))
    | (refine splitB.neI (fun hb => ?_) (fun hb => ?_) <;> first | (exfalso; omega) | (conv => whnf))
    | (intro r bx; conv => whnf))
  refine LoopVC.on (X := Nat) (fun i => [(0, .v (.slice A1 n1 c1)), (1, .v (.slice A2 n2 c2)), (4, .v (.bool false)), (5, .v (.int .i64 (i : Int)))]) (fun _ => []) (fun _ => CtxA wA w2 X2 M) (fun i => i ≤ n1) (fun i => n1 - i) 0 (Nat.zero_le _) ⟨rfl, rfl, rfl, rfl, trivial⟩ trivial ?_
  intro i r hi
  replace hi : i ≤ n1 := hi
  conv => whnf
  repeat' (first
    | (refine idxOS h1 i rfl (by omega) (fun b1' o1' hA1 hcl1 => ?_); conv => whnf)
    | (refine idxOS h2 i rfl (by omega) (fun b2' o2' hA2 hcl2 => ?_); conv => whnf)
    | (refine ldO (by assumption) (tab_ok _ _ (by rfl)) (by rfl) ?_; conv => whnf)
    | (refine splitB.isFj ?_ ?_; (focus (simp only [eqCells, beq_self_eq_true, Bool.and_self, Bool.not_true, bne_self_eq_false]; done)); conv => whnf)
    | (refine splitB.isTj ?_ ?_; (focus (simp only [eqCells, beq_self_eq_true, Bool.and_self]; done)); conv => whnf)
    | (exact rnd (X := Nat) (i + 1) (by show n1 - (i + 1) < n1 - i; omega) (by show i + 1 ≤ n1; omega) ⟨rfl, rfl, rfl, ixw2 (by omega), trivial⟩ trivial)
    | (exact RetT.drop (K := K) M (List.Sublist.refl _) hk)
    | (refine JoinVC.go ?_; conv => whnf)
    | (refine RetA.go ?_; conv => whnf)
    | (refine And.intro ?_ ?_ <;> conv => whnf)
    | (refine splitB.dec (fun hb => ?_) (fun hb => ?_) <;> first | (exfalso; omega) | (conv => whnf))
    | (refine splitB.ndec (fun hb => ?_) (fun hb => ?_) <;> first | (exfalso; omega) | (conv => whnf))
    | (refine splitB.eqI (fun hb => ?_) (fun hb => ?_) <;> first | (exfalso; omega) | (conv => whnf))
    | (refine splitB.neI (fun hb => ?_) (fun hb => ?_) <;> first | (exfalso; omega) | (conv => whnf))
    | (intro r bx; conv => whnf))
set_option maxHeartbeats 4000000 in
theorem same30S_vc {s : SeP} {A2 : Option Addr} {n2 c2 : Nat} {xs ys : List Int} {rs : List (Int × Bool)} {gs : List (Int × Int)} (h1 : OldI wA s.Aq s.nq s.cq xs) (h2 : OldI wA A2 n2 c2 xs) (h3 : OldR wA s.Al s.nl rs) (h4 : OldS wA s.As s.ns ys) (h5 : OldP wA s.Ag s.ng gs) (hk : K (.bool true) (CtxA wA w0 X M)) : CallVC Tryz.prog (CtxA wA w0 X M) 12 #[.agg s.l.toArray, .agg ({ s with Aq := A2, nq := n2, cq := c2 } : SeP).l.toArray] K Z := by
  obtain ⟨phase, at_, task, qk, qa, qb, p0, p1, p2, p3, Aq, nq, cq, o0, o1, o2, o3, Al, nl, cl, As, ns, cs, Ag, ng, cg, hold⟩ := s
  dsimp only at h1 h3 h4 h5
  dsimp only [SeP.l]
  refine it12 (args := [_, _]) (by rfl) ?_
  intro w2 X2
  conv => whnf
  repeat' (first
    | (refine asks_vc h1 h2 ?_; conv => whnf)
    | (refine results30_vc h3 h3 ?_; conv => whnf)
    | (refine ints30S_vc h4 h4 ?_; conv => whnf)
    | (refine gsame_vc h5 ?_; conv => whnf)
    | (refine splitB.isFj ?_ ?_; (focus (simp only [eqCells, beq_self_eq_true, Bool.and_self, Bool.not_true, bne_self_eq_false]; done)); conv => whnf)
    | (refine splitB.isTj ?_ ?_; (focus (simp only [eqCells, beq_self_eq_true, Bool.and_self]; done)); conv => whnf)
    | (exact RetT.drop (K := K) M (List.Sublist.refl _) hk)
    | (refine JoinVC.go ?_; conv => whnf)
    | (refine RetA.go ?_; conv => whnf)
    | (refine And.intro ?_ ?_ <;> conv => whnf)
    | (refine splitB.dec (fun hb => ?_) (fun hb => ?_) <;> first | (exfalso; omega) | (conv => whnf))
    | (refine splitB.ndec (fun hb => ?_) (fun hb => ?_) <;> first | (exfalso; omega) | (conv => whnf))
    | (refine splitB.eqI (fun hb => ?_) (fun hb => ?_) <;> first | (exfalso; omega) | (conv => whnf))
    | (refine splitB.neI (fun hb => ?_) (fun hb => ?_) <;> first | (exfalso; omega) | (conv => whnf))
    | (intro r bx; conv => whnf))
  all_goals exact RetT.drop (K := K) M (List.Sublist.refl _) (castB (by simp) hk)
end
end Go.Proofs.YtgaopcbjhepklaaGreat
/- The document's seat beside the program's. -/
namespace Go.Proofs.YtgaopcbjhepklaaGreat
open Go.RowKit
set_option linter.unusedSimpArgs false
set_option linter.unusedVariables false
set_option maxRecDepth 100000
section
variable {wA w0 : World} {X : Nat → Prop} {M : EL} {K : Value → Ctx → Prop} {Z : PanK}
def ErrsP (c : CodeP) (f : FrP) (e : Int) : Prop := rightB c f = false ∧ e = 1 ∨ rightB c f = true ∧ nextP c f = .err e
theorem ErrsP.ne {c : CodeP} {f : FrP} {e : Int} (h : ErrsP c f e) : e ≠ 0 := by
  rcases h with ⟨_, h⟩ | ⟨_, h⟩
  · omega
  · exact nextP_err h
theorem go30err_vc {c : CodeP} {s : SeP} {f : FrP} {e : Int} (hc : CodeOk wA c) (hf : FrOk wA f) (he : ErrsP c f e)
    (hk : K (.tuple #[.agg s.l.toArray, .agg f.l.toArray, .int .i64 e]) (CtxA wA w0 X M)) :
    CallVC Tryz.prog (CtxA wA w0 X M) 11 #[.agg c.l.toArray, .agg s.l.toArray, .agg f.l.toArray] K Z := by
  refine go30_vc hc hf (fun hr => ?_) (fun hr e' h' => ?_) (fun hr x q M' _ _ _ _ h' => ?_)
  · rcases he with ⟨_, rfl⟩ | ⟨h, _⟩
    · exact hk
    · exact Bool.noConfusion (h.symm.trans hr)
  · rcases he with ⟨h, _⟩ | ⟨_, h⟩
    · exact Bool.noConfusion (h.symm.trans hr)
    · rw [h] at h'
      injection h' with h'
      subst h'
      exact hk
  · rcases he with ⟨h, _⟩ | ⟨_, h⟩
    · exact Bool.noConfusion (h.symm.trans hr)
    · rw [h] at h'
      cases h'
/-- what is known of the document's frame -/
structure GoneD (wA : World) (Ms : EL) (f g x : FrP) (q : QV) (Aa : Option Addr) (na ca : Nat) : Prop where
  task_ : x.task = f.task
  path : x.path = f.path
  fn : x.fn = f.fn
  kids : x.kids = f.kids
  many : x.many = f.many
  pc : x.pc = g.pc
  spent : x.spent = g.spent
  fail : x.fail = g.fail
  loc : x.loc = g.loc
  stk : x.stk = g.stk
  ok : ∀ E, InE wA Ms E → FrOk E x ∧ OldI E Aa na ca q.got
theorem go30ok_vc {Mg : EL} {c : CodeP} {s : SeP} {f g : FrP} {q : QV} (hc : CodeOk wA c) (hf : FrOk wA f) (hg : Gone0 Mg c f g q) {ph o0 o1 o2 o3 : Int} (ho : goOp s q f.task = ⟨ph, o0, o1, o2, o3⟩)
    (hk : ∀ x Aa na ca M', GoneD wA (M' ++ M) f g x q Aa na ca → K (.tuple #[.agg ({ goS s q ⟨ph, o0, o1, o2, o3⟩ with Aq := Aa, nq := na, cq := ca } : SeP).l.toArray, .agg x.l.toArray, .int .i64 0]) (CtxA wA w0 X (M' ++ M))) :
    CallVC Tryz.prog (CtxA wA w0 X M) 11 #[.agg c.l.toArray, .agg s.l.toArray, .agg f.l.toArray] K Z := by
  have hR := rightB_spec hg.right
  refine go30_vc hc hf (fun hr => ?_) (fun hr e' h' => ?_) (fun hr x q2 M' hkp hqk hfx hq2 h' ph' o0' o1' o2' o3' ho' => ?_)
  · exact Bool.noConfusion (hg.right.symm.trans hr)
  · rw [hg.nx] at h'
    cases h'
  · have hsm := nextP_sm (by have := hf.stk.len; have := hR.ns; omega) h'
    rw [hg.nx] at h'
    injection h' with e1 e2
    obtain ⟨k2, a2, b2, p0, p1, p2, p3, Aa, na, ca, got⟩ := q2
    obtain ⟨k1, a1, b1, r0, r1, r2, r3, Aa1, na1, ca1, got1⟩ := q
    injection e2 with f1 f2 f3 f4 f5 f6 f7 f8
    dsimp only at f1 f2 f3 f4 f5 f6 f7 f8
    subst f1 f2 f3 f4 f5 f6 f7 f8
    injection e1 with g1 g2 g3 g4 g5
    have hp : (⟨ph, o0, o1, o2, o3⟩ : PhO) = ⟨ph', o0', o1', o2', o3'⟩ := ho.symm.trans ho'
    injection hp with h1 h2 h3 h4 h5
    subst h1 h2 h3 h4 h5
    refine hk x Aa na ca M' ⟨hkp.task, hkp.path.2.2.2, hkp.fn, hkp.kids.2.2.2, hkp.many, g1.symm, g2.symm, g3.symm, g4.symm, g5.symm, fun E hE => ⟨hfx E hE, ?_⟩⟩
    rcases hqk with ⟨q1, q2, q3, q4⟩ | h
    · dsimp only at q1 q2 q3 q4
      subst q1 q2 q3 q4
      exact ⟨.inl rfl, rfl, Nat.le_refl _, by decide⟩
    · obtain ⟨_, hlen, _⟩ := hE.row _ _ _ _ _ _ (List.mem_append_left _ h)
      have hl2 : got1.length ≤ 100 := hsm.2
      have hl3 : na = got1.length := by simpa using hlen.symm
      exact hE.ownI (List.mem_append_left _ h) (by omega)
end
end Go.Proofs.YtgaopcbjhepklaaGreat
/- SeatGoes: the walk. -/
namespace Go.Proofs.YtgaopcbjhepklaaGreat
open Go.RowKit
set_option linter.unusedSimpArgs false
set_option linter.unusedVariables false
set_option maxRecDepth 100000
/-- a seat of any size -/
structure SeRd (wA : World) (s : SeP) (qs ys : List Int) (rs : List (Int × Bool)) (gs : List (Int × Int)) : Prop where
  q : RdI wA s.Aq s.nq s.cq qs
  log : Rd wA wA.heap.size s.Al (rs.flatMap resL)
  nl : s.nl = rs.length
  steps : OldS wA s.As s.ns ys
  gone : Rd wA wA.heap.size s.Ag (gs.flatMap pairL)
  ng : s.ng = gs.length
abbrev kindsL : List Int := [0, 17, 18, 0, 11, 13, 14]
theorem goOp_kinds {s : SeP} {q : QV} {t ph o0 o1 o2 o3 : Int} (h : goOp s q t = ⟨ph, o0, o1, o2, o3⟩) (h6 : 1 ≤ q.kind ∧ q.kind ≤ 6) : (q.kind = 3 → o0 = q.o0 ∧ o1 = q.o1 ∧ o2 = q.o2 ∧ o3 = q.o3) ∧ (q.kind ≠ 3 → o0 = kindsL.getD q.kind.toNat 0) := by
  have h7 : q.kind = 1 ∨ q.kind = 2 ∨ q.kind = 3 ∨ q.kind = 4 ∨ q.kind = 5 ∨ q.kind = 6 := by omega
  unfold goOp at h
  rcases h7 with e | e | e | e | e | e <;> rw [e] at h ⊢ <;> simp at h <;> obtain ⟨h1, h2, h3, h4, h5⟩ := h <;> subst h1 h2 h3 h4 h5 <;> simp
section
variable {wA w0 : World} {X : Nat → Prop} {M : EL} {K : Value → Ctx → Prop} {Z : PanK}
set_option maxHeartbeats 8000000 in
theorem goes_vc {c : CodeP} {cs : List Int} {s : SeP} {f : FrP} {qs ys : List Int} {rs : List (Int × Bool)} {gs : List (Int × Int)} (hc : CodeRd wA c cs) (hf : FrRd wA f) (hs : SeRd wA s qs ys rs gs) (hk : K (.bool true) (CtxA wA w0 X M)) :
    CallVC Tryz.prog (CtxA wA w0 X M) 3 #[.agg c.l.toArray, .agg s.l.toArray, .agg f.l.toArray] K Z := by
  refine it3 (args := [.agg c.l.toArray, .agg s.l.toArray, .agg f.l.toArray]) (by rfl) ?_
  intro w2 X2
  conv => whnf
  have hGone : SizeOk c f → s.ng ≤ 60 → OldP wA s.Ag s.ng gs := fun _ h => ⟨hs.gone, hs.ng, by omega⟩
  repeat' (first
    | (refine JoinVC.go ?_; conv => whnf)
    | (refine few_vc hc (fun b => ?_); cases b <;> conv => whnf)
    | (refine right07_vc hc (fun b => ?_); cases b <;> conv => whnf)
    | (refine alive_vc ?_; conv => whnf)
    | (exact RetT.drop (K := K) M (by repeat (first | exact List.Sublist.refl _ | refine List.Sublist.cons_cons _ ?_ | refine List.Sublist.cons _ ?_)) hk)
    | (refine small30_vc (f := f) (s := s) (c := c) hc (List.Mem.head _) (fun hsz hln hqn hgn => ?_) ?_ <;> conv => whnf)
    | (refine bsA el39 (by rfl) ?_; (conv => whnf); refine ⟨by rfl, fun bl => ?_⟩; conv => whnf)
    | (refine RetA.go ?_; conv => whnf)
    | (refine RetA.go ?_; conv => whnf)
    | (refine And.intro ?_ ?_ <;> conv => whnf)
    | (refine splitB.dec (fun hb => ?_) (fun hb => ?_) <;> first | (exfalso; omega) | (conv => whnf))
    | (refine splitB.ndec (fun hb => ?_) (fun hb => ?_) <;> first | (exfalso; omega) | (conv => whnf))
    | (refine splitB.eqI (fun hb => ?_) (fun hb => ?_) <;> first | (exfalso; omega) | (conv => whnf))
    | (refine splitB.neI (fun hb => ?_) (fun hb => ?_) <;> first | (exfalso; omega) | (conv => whnf)))
  have hG := hGone hsz hgn
  have hQ : OldI wA s.Aq s.nq s.cq qs := ⟨hs.q.rd, hs.q.len, hs.q.cap, by omega⟩
  have hL : OldR wA s.Al s.nl rs := ⟨hs.log, hs.nl, by omega⟩
  refine go2_vc (c := c) (s := s) (f := f) (hc.ok hsz) (hf.ok hsz) (fun e he => ?_) (fun g q ph o0 o1 o2 o3 M' hg ho => ?_)
  · have hne : e ≠ 0 := ErrsP.ne he
    conv => whnf
    repeat' (first
      | (refine JoinVC.go ?_; conv => whnf)
      | (refine go30err_vc (c := c) (s := s) (f := f) (hc.ok hsz) (hf.ok hsz) he ?_; conv => whnf)
      | (refine same30S_vc (s := s) hQ hQ hL hs.steps hG ?_; conv => whnf)
      | (refine bsA el39 (by rfl) ?_; (conv => whnf); refine ⟨by rfl, fun bl => ?_⟩; conv => whnf)
      | (refine frames1_vc (g1 := f) (g2 := f) (by repeat (first | exact List.Mem.head _ | refine List.Mem.tail _ ?_)) (by repeat (first | exact List.Mem.head _ | refine List.Mem.tail _ ?_)) (fun E hE => hE.fr (hf.ok hsz)) (fun E hE => hE.fr (hf.ok hsz)) rfl rfl rfl rfl rfl rfl rfl rfl rfl rfl ?_; conv => whnf)
      | (refine alive_vc ?_; conv => whnf)
      | (exact RetT.drop (K := K) M (by repeat (first | exact List.Sublist.refl _ | refine List.Sublist.cons_cons _ ?_ | refine List.Sublist.cons _ ?_)) hk)
      | (refine RetA.go ?_; conv => whnf)
      | (refine RetA.go ?_; conv => whnf)
      | (refine And.intro ?_ ?_ <;> conv => whnf)
      | (refine splitB.dec (fun hb => ?_) (fun hb => ?_) <;> first | (exfalso; omega) | (conv => whnf))
      | (refine splitB.ndec (fun hb => ?_) (fun hb => ?_) <;> first | (exfalso; omega) | (conv => whnf))
      | (refine splitB.eqI (fun hb => ?_) (fun hb => ?_) <;> first | (exfalso; omega) | (conv => whnf))
      | (refine splitB.neI (fun hb => ?_) (fun hb => ?_) <;> first | (exfalso; omega) | (conv => whnf)))
  · have hq6 : 1 ≤ q.kind ∧ q.kind ≤ 6 := runP_kd _ _ hg.nx
    have hop := goOp_kinds ho hq6
    dsimp only [goS, SeP.l]
    conv => whnf
    repeat' (first
      | (refine JoinVC.go ?_; conv => whnf)
      | (refine go30ok_vc (c := c) (s := s) (f := f) (hc.ok hsz) (hf.ok hsz) hg ho (fun x Aa na ca M2 hx => ?_); dsimp only [goS, SeP.l]; conv => whnf)
      | (refine CallVC.anchor [] _ en12 rfl (fun E w Y hE => same30S_vc (s := goS s q ⟨ph, o0, o1, o2, o3⟩) (hg.ok wA E (hE.less (fun e he => List.mem_append_right _ (List.mem_append_left _ he)))).2 (hx.ok E hE).2 (nilR E) (nilS E) (hE.oldP hG) (RetN.to _ (List.nil_append _) ?_)); conv => whnf)
      | (refine bsA el39 (by rfl) ?_; (conv => whnf); refine ⟨by rfl, fun bl => ?_⟩; conv => whnf)
      | (refine frames1_vc (g1 := g) (g2 := x) (by repeat (first | exact List.Mem.head _ | refine List.Mem.tail _ ?_)) (by repeat (first | exact List.Mem.head _ | refine List.Mem.tail _ ?_)) (fun E hE => (hg.ok wA E (hE.less (fun e he => .tail _ (.tail _ (List.mem_append_right _ (List.mem_append_left _ he)))))).1) (fun E hE => (hx.ok E (hE.less (fun e he => .tail _ (.tail _ he)))).1) (hg.task_.trans hx.task_.symm) (hg.path.trans hx.path.symm) (hg.fn.trans hx.fn.symm) hx.pc.symm hx.loc.symm hx.stk.symm (hg.kids.trans hx.kids.symm) (hg.many.trans hx.many.symm) hx.spent.symm hx.fail.symm ?_; conv => whnf)
      | (refine bsA el23 (by rfl) ?_; (conv => whnf); refine ⟨by rfl, fun bk => ?_⟩; conv => whnf)
      | (refine gsame_vc hG ?_; conv => whnf)
      | (refine alive_vc ?_; conv => whnf)
      | (refine RetA.go ?_; conv => whnf)
      | (refine RetA.go ?_; conv => whnf)
      | (refine And.intro ?_ ?_ <;> conv => whnf)
      | (refine splitB.dec (fun hb => ?_) (fun hb => ?_) <;> first | (exfalso; omega) | (conv => whnf))
      | (refine splitB.ndec (fun hb => ?_) (fun hb => ?_) <;> first | (exfalso; omega) | (conv => whnf))
      | (refine splitB.eqI (fun hb => ?_) (fun hb => ?_) <;> first | (exfalso; omega) | (conv => whnf))
      | (refine splitB.neI (fun hb => ?_) (fun hb => ?_) <;> first | (exfalso; omega) | (conv => whnf)))
    · have he : eqCells #[Value.int IntKind.i64 o0, Value.int IntKind.i64 o1, Value.int IntKind.i64 o2, Value.int IntKind.i64 o3].toList #[Value.int IntKind.i64 q.o0, Value.int IntKind.i64 q.o1, Value.int IntKind.i64 q.o2, Value.int IntKind.i64 q.o3].toList = true := by
        obtain ⟨h1, h2, h3, h4⟩ := hop.1 hb
        subst h1 h2 h3 h4
        simp [eqCells]
      rw [he]
      conv => whnf
      repeat' (first
        | (refine JoinVC.go ?_; conv => whnf)
        | (refine RetA.go ?_; conv => whnf)
        | (exact RetT.drop (K := K) M (by repeat (first | exact List.Sublist.refl _ | exact List.sublist_append_right _ _ | refine List.Sublist.cons _ ?_ | refine List.Sublist.trans ?_ (List.sublist_append_right _ _))) hk)
        | (refine RetA.go ?_; conv => whnf)
        | (refine And.intro ?_ ?_ <;> conv => whnf)
        | (refine splitB.dec (fun hb => ?_) (fun hb => ?_) <;> first | (exfalso; omega) | (conv => whnf))
        | (refine splitB.ndec (fun hb => ?_) (fun hb => ?_) <;> first | (exfalso; omega) | (conv => whnf))
        | (refine splitB.eqI (fun hb => ?_) (fun hb => ?_) <;> first | (exfalso; omega) | (conv => whnf))
        | (refine splitB.neI (fun hb => ?_) (fun hb => ?_) <;> first | (exfalso; omega) | (conv => whnf)))
    · have hgd := hop.2 hb
      repeat' (first
        | (refine JoinVC.go ?_; conv => whnf)
        | (refine RetA.go ?_; conv => whnf)
        | (refine idxO bk 0 rfl (by omega) (by omega) ?_; conv => whnf)
        | (refine ldRI (xs := kindsL) q.kind.toNat rfl (by repeat (first | exact List.Mem.head _ | refine List.Mem.tail _ ?_)) (by omega) (by show q.kind.toNat < 7; omega) ?_; conv => whnf)
        | (refine RetA.go ?_; conv => whnf)
        | (refine And.intro ?_ ?_ <;> conv => whnf)
        | (refine splitB.dec (fun hb => ?_) (fun hb => ?_) <;> first | (exfalso; omega) | (conv => whnf))
        | (refine splitB.ndec (fun hb => ?_) (fun hb => ?_) <;> first | (exfalso; omega) | (conv => whnf))
        | (refine splitB.eqI (fun hb => ?_) (fun hb => ?_) <;> first | (exfalso; omega) | (conv => whnf))
        | (refine splitB.neI (fun hb => ?_) (fun hb => ?_) <;> first | (exfalso; omega) | (conv => whnf)))
      exact RetT.drop (K := K) M (by repeat (first | exact List.Sublist.refl _ | exact List.sublist_append_right _ _ | refine List.Sublist.cons _ ?_ | refine List.Sublist.trans ?_ (List.sublist_append_right _ _))) (castB (by rw [hgd]; exact beq_self_eq_true _) hk)
end
end Go.Proofs.YtgaopcbjhepklaaGreat
/- arguments that are slices of structs of numbers: opened to one list of numbers -/
namespace Go.Proofs.YtgaopcbjhepklaaGreat
open Go.ChangeShapes Go.WideShapes Go.RowKit Go.Deep
set_option linter.unusedSimpArgs false
set_option linter.unusedVariables false

/-- each cell is a number that fits -/
def Nums (cs : List Value) : Prop := ∀ c ∈ cs, ∃ z, c = .int .i64 z ∧ (Lit.int .i64 z).wf = true
/-- whatever is read at a type is numbers -/
def Flat (P : Program) (t : TypeId) : Prop :=
  ∀ ⦃H : Type⦄ ⦃enc : TypeId × Value → H⦄ ⦃w : World⦄ ⦃base : Nat⦄ ⦃spare : Nat → Bool⦄ ⦃held : Bool⦄ ⦃fuel : Nat⦄ ⦃cs : List Value⦄ ⦃x : DataW H × List MemPlace⦄, DataW.trod enc P w base spare held fuel t cs = some x → Nums cs
theorem flat_int {P : Program} {t : TypeId} (ht : P.underlying t = some (.int .i64)) : Flat P t := by
  intro H enc w base spare held fuel cs x h
  obtain ⟨n, rfl, _, hw⟩ := DataW.trod_int ht h
  intro c hc
  rw [List.mem_singleton.1 hc]
  exact ⟨n, rfl, hw⟩
/-- the fields lie over all cells -/
def covers (P : Program) (fs : Array Field) (n : Nat) : Bool := (List.range n).all fun i => fs.toList.any fun f => decide (f.offset ≤ i) && decide (i < f.offset + P.cellsOf f.type)
theorem flat_struct {P : Program} {t : TypeId} {fs : Array Field} (ht : P.underlying t = some (.struct fs)) (hc : covers P fs (P.cellsOf t) = true) (hf : ∀ f ∈ fs.toList, Flat P f.type) : Flat P t := by
  intro H enc w base spare held fuel cs x h
  obtain ⟨ys, n, _, _, hlen, hyl, hg⟩ := DataW.trod_struct ht h
  intro c hcm
  obtain ⟨i, hi, rfl⟩ := List.getElem_of_mem hcm
  have h1 := List.all_eq_true.1 hc i (List.mem_range.2 (by omega))
  obtain ⟨f, hfm, h2⟩ := List.any_eq_true.1 h1
  simp only [Bool.and_eq_true, decide_eq_true_eq] at h2
  obtain ⟨j, hj, hfj⟩ := List.getElem_of_mem hfm
  have hj' : j < fs.size := by simpa using hj
  have hfj' : fs[j]? = some f := by rw [Array.getElem?_eq_getElem hj']; simpa using hfj
  have h3 := hg j f hfj'
  obtain ⟨y, hy⟩ : ∃ y, ys[j]? = some y := ⟨_, List.getElem?_eq_getElem (by omega)⟩
  rw [hy] at h3
  refine hf f hfm h3 _ ?_
  refine List.mem_of_getElem? (i := i - f.offset) ?_
  rw [List.getElem?_take_of_lt (by omega), List.getElem?_drop, Nat.add_sub_cancel' h2.1, List.getElem?_eq_getElem]

theorem nums_is {cs : List Value} (h : Nums cs) : ∃ zs : List Int, cs = is zs ∧ ∀ z ∈ zs, (Lit.int .i64 z).wf = true := by
  induction cs with
  | nil => exact ⟨[], rfl, fun _ h => by simp at h⟩
  | cons c cs ih =>
    obtain ⟨zs, rfl, hz⟩ := ih (fun x hx => h x (by simp [hx]))
    obtain ⟨z, rfl, hw⟩ := h c (by simp)
    exact ⟨z :: zs, rfl, fun x hx => by rcases List.mem_cons.1 hx with rfl | hx; exact hw; exact hz x hx⟩
theorem wf_i64 {z : Int} (h : (Lit.int .i64 z).wf = true) : -9223372036854775808 ≤ z ∧ z ≤ 9223372036854775807 := by
  simp [Lit.wf, IntKind.min, IntKind.max, IntKind.bits, IntKind.signed] at h
  omega
theorem wf_u8 {z : Int} (h : (Lit.int .u8 z).wf = true) : 0 ≤ z ∧ z ≤ 255 := by
  simp [Lit.wf, IntKind.min, IntKind.max, IntKind.bits, IntKind.signed] at h
  omega

/-- what a slice of structs of k numbers each is read as -/
def IsFlat (k : Nat) (w : World) (A : Option Addr) (len cap : Nat) (zs : List Int) : Prop :=
  zs.length = len * k ∧ Rd w w.heap.size A (is zs) ∧ (∀ z ∈ zs, -9223372036854775808 ≤ z ∧ z ≤ 9223372036854775807) ∧ len ≤ cap ∧ cap ≤ 9223372036854775807

section
variable {H : Type} {enc : TypeId × Value → H} {P : Program} {w : World} {base : Nat} {spare : Nat → Bool} {held : Bool}
theorem nums_upto {a : Addr} {k : Nat} : ∀ (len : Nat), (∀ i, i < len → ∃ cs, (w.cells? base (a.add (i * k)) k = some cs) ∧ Nums cs) →
    ∃ zs : List Int, zs.length = len * k ∧ (∀ z ∈ zs, (Lit.int .i64 z).wf = true) ∧ ∀ j u, (is zs)[j]? = some u → w.cell? (a.add j) = some u := by
  intro len
  induction len with
  | zero => intro _; exact ⟨[], by simp, fun _ h => by simp at h, fun j u h => by simp [is] at h⟩
  | succ len ih =>
    intro h
    obtain ⟨zs, hl, hw, hc⟩ := ih (fun i hi => h i (by omega))
    obtain ⟨cs, hcs, hn⟩ := h len (by omega)
    obtain ⟨_, hcl, hat⟩ := World.cells?_some hcs
    obtain ⟨ys, rfl, hy⟩ := nums_is hn
    refine ⟨zs ++ ys, ?_, ?_, ?_⟩
    · rw [List.length_append, hl, Nat.add_mul, Nat.one_mul]; congr 1; simpa using hcl
    · intro z hz; rcases List.mem_append.1 hz with hz | hz; exact hw z hz; exact hy z hz
    · intro j u hu
      rw [is_append] at hu
      by_cases hj : j < (is zs).length
      · rw [List.getElem?_append_left hj] at hu; exact hc j u hu
      · rw [List.getElem?_append_right (by omega)] at hu
        have hjk : j - (is zs).length < k := by
          have := (List.getElem?_eq_some_iff.1 hu).1
          rw [hcl] at this; exact this
        have := hat _ hjk
        rw [Go.Deep.add_add] at this
        rw [is_length, hl] at this hu hj
        rw [show len * k + (j - len * k) = j by omega] at this
        rw [this, hu]
theorem open_flat {t e : TypeId} {k : Nat} {fuel : Nat} {A : Option Addr} {len cap : Nat} {x : DataW H × List MemPlace} (ht : P.underlying t = some (.slice e)) (hF : Flat P e) (hC : P.cellsOf e = k) (hk : 0 < k)
    (h : DataW.trod enc P w base (fun _ => true) held fuel t (Value.slice A len cap).cells.toList = some x) : ∃ zs, IsFlat k w A len cap zs := by
  rcases open_slice ht h with ⟨hcs, _⟩ | ⟨a, l, c, m, n, D, Pl, hcs, hb, hl, hm, hmm, hx, hi⟩
  · simp [Value.cells] at hcs
    obtain ⟨rfl, rfl, rfl⟩ := hcs
    exact ⟨[], by simp, .inl rfl, fun _ h => by simp at h, Nat.le_refl _, by omega⟩
  · simp [Value.cells] at hcs
    obtain ⟨rfl, rfl, rfl⟩ := hcs
    simp only [if_true] at hmm
    subst hmm
    rw [hC] at hi
    obtain ⟨zs, hzl, hzw, hzc⟩ := nums_upto (w := w) (base := base) (a := a) (k := k) len (fun i hil => by
      obtain ⟨cs', h1, h2⟩ := hi i (by omega)
      exact ⟨cs', h1, hF h2⟩)
    refine ⟨zs, hzl, ?_, fun z hz => wf_i64 (hzw z hz), hl, hm⟩
    refine Rd.top (B := a.block + 1) ?_
    rcases Nat.eq_zero_or_pos len with h0 | hp
    · left
      subst h0
      have : zs = [] := List.eq_nil_of_length_eq_zero (by simpa using hzl)
      rw [this]; rfl
    · have hpos : 0 < zs.length := by rw [hzl]; exact Nat.mul_pos hp hk
      have hsp : a.spot = none := by
        have := World.cell?_spot (hzc 0 _ (is_at zs 0 hpos))
        simpa [Addr.add] using this
      obtain ⟨b, off, sp⟩ := a
      simp only at hsp
      subst hsp
      refine .inr ⟨b, off, rfl, by simp, fun j u hu => ?_⟩
      have := hzc j u hu
      rw [Addr.add_lit] at this
      exact this
end
end Go.Proofs.YtgaopcbjhepklaaGreat
/- From a walk to a law; arguments that are rows of pairs. -/
namespace Go.Proofs.YtgaopcbjhepklaaGreat
open Go.ChangeShapes Go.WideShapes Go.RowKit Go.Deep
set_option linter.unusedSimpArgs false
set_option linter.unusedVariables false
abbrev C0 (w : World) : Ctx := CtxA w w (fun _ => False) []
theorem calls_law {P : Program} {f : FuncId} {args : Array Value} {w : World} (h : ∀ (K : Value → Ctx → Prop) (Z : PanK), K (.bool true) (C0 w) → CallVC P (C0 w) f args K Z) : Calls P f args w fun e w' => e = .returned (.bool true) ∧ Below w.heap.size w w' := by
  have h1 := h (fun v C => v = .bool true ∧ C = C0 w) (fun _ _ => False) ⟨rfl, rfl⟩
  have h0 : InA w w (fun _ => False) [] w := ⟨rfl, rfl, rfl, Nat.le_refl _, fun _ _ _ => rfl, Nat.le_refl _, fun _ _ => rfl, fun e he => (by cases he), fun e he => (by cases he), List.nodup_nil⟩
  refine (h1.out.2 w h0).mono fun e w' hh => ?_
  rcases hh with ⟨v, C', rfl, _, h3, rfl, rfl⟩ | ⟨_, _, _, _, _, hz⟩
  · have h4 : InA w w (fun _ => False) [] w' := h3
    exact ⟨rfl, h4.os, h4.tape, h4.output, h4.size, fun k hk => h4.old k hk (fun h => h)⟩
  · exact hz.elim
theorem flat_array {P : Program} {t e : TypeId} {n : Nat} (ht : P.underlying t = some (.array n e)) (hct : P.cellsOf t = n) (hce : P.cellsOf e = 1) (hF : Flat P e) : Flat P t := by
  intro H enc w base spare held fuel cs x h c hc
  obtain ⟨ys, m, _, _, hlen, hl, hel⟩ := DataW.trod_array ht h
  obtain ⟨i, hi, rfl⟩ := List.getElem_of_mem hc
  have h3 := hel i (by omega)
  obtain ⟨y, hy⟩ : ∃ y, ys[i]? = some y := ⟨_, List.getElem?_eq_getElem (by omega)⟩
  rw [hy, hce, Nat.mul_one] at h3
  refine hF h3 _ ?_
  refine List.mem_of_getElem? (i := 0) ?_
  rw [List.getElem?_take_of_lt (by omega), List.getElem?_drop, Nat.add_zero, List.getElem?_eq_getElem hi]
def pairs : List Int → List (Int × Int)
  | a :: b :: l => (a, b) :: pairs l
  | _ => []
theorem pairs_is : ∀ (n : Nat) (zs : List Int), zs.length = n * 2 → ∃ gs : List (Int × Int), gs.length = n ∧ is zs = gs.flatMap fun p => [.int .i64 p.1, .int .i64 p.2]
  | 0, zs, h => by
    have : zs = [] := List.eq_nil_of_length_eq_zero (by omega)
    subst this; exact ⟨[], rfl, rfl⟩
  | n + 1, zs, h => by
    match zs, h with
    | a :: b :: l, h =>
      obtain ⟨gs, h1, h2⟩ := pairs_is n l (by simp at h; omega)
      refine ⟨(a, b) :: gs, by simp [h1], ?_⟩
      simp only [List.flatMap_cons]
      rw [← h2]
      rfl
    | [a], h => simp at h; omega
    | [], h => simp at h
theorem flat_pair : Flat Tryz.prog 88 := flat_array Tryz.underlying88 (by kernel_rfl) (by kernel_rfl) (flat_int Tryz.underlying3)
end Go.Proofs.YtgaopcbjhepklaaGreat
/- Arguments by value, opened: a code, a seat, a frame. -/
namespace Go.Proofs.YtgaopcbjhepklaaGreat
open Go.ChangeShapes Go.WideShapes Go.RowKit Go.Deep
set_option linter.unusedSimpArgs false
set_option linter.unusedVariables false
set_option maxRecDepth 100000
def intL1 (x : Int) : List Value := [.int .i64 x]
theorem intL1_is : ∀ (l : List Int), l.flatMap intL1 = is l
  | [] => rfl
  | x :: l => by rw [List.flatMap_cons, intL1_is l]; rfl
def kidL1 (k : KidP) : List Value := [.int .i64 k.task, .int .i64 k.dst]
theorem kidL1_is : ∀ (l : List KidP), l.flatMap kidL1 = kidL l
  | [] => rfl
  | x :: l => by rw [List.flatMap_cons, kidL1_is l]; rfl
section
variable {H : Type} {enc : TypeId × Value → H} {P : Program} {w : World} {base : Nat} {spare : Nat → Bool} {held : Bool} {fuel : Nat}
theorem slice_cell {t e : TypeId} {c : Value} {x : DataW H × List MemPlace} (ht : P.underlying t = some (.slice e)) (h : DataW.trod enc P w base spare held fuel t [c] = some x) : ∃ a len cap, c = .slice a len cap ∧ len ≤ cap ∧ cap ≤ 9223372036854775807 := by
  rcases open_slice ht h with ⟨hcs, _⟩ | ⟨a, l, cc, m, n, D, Pl, hcs, hb, hl, hm, hmm, hx, hi⟩
  · injection hcs with hcs _
    exact ⟨none, 0, 0, hcs, Nat.le_refl _, by omega⟩
  · injection hcs with hcs _
    exact ⟨some a, l, cc, hcs, hl, hm⟩
theorem rows_upto {α : Type} (el : α → List Value) (k : Nat) (good : α → Prop) {a : Addr} : ∀ (len : Nat), (∀ i, i < len → ∃ cs y, w.cells? base (a.add (i * k)) k = some cs ∧ cs = el y ∧ good y) →
    ∃ xs : List α, xs.length = len ∧ (∀ y ∈ xs, good y) ∧ (xs.flatMap el).length = len * k ∧ ∀ j u, (xs.flatMap el)[j]? = some u → w.cell? (a.add j) = some u := by
  intro len
  induction len with
  | zero => intro _; exact ⟨[], rfl, fun _ h => by simp at h, by simp, fun j u h => by simp at h⟩
  | succ len ih =>
    intro h
    obtain ⟨xs, hl, hw, hk, hc⟩ := ih (fun i hi => h i (by omega))
    obtain ⟨cs, y, hcs, rfl, hy⟩ := h len (by omega)
    obtain ⟨_, hcl, hat⟩ := World.cells?_some hcs
    refine ⟨xs ++ [y], by simp [hl], ?_, ?_, ?_⟩
    · intro z hz
      rcases List.mem_append.1 hz with hz | hz
      · exact hw z hz
      · rw [List.mem_singleton.1 hz]; exact hy
    · rw [List.flatMap_append, List.length_append, hk, Nat.add_mul, Nat.one_mul]
      simp [hcl]
    · intro j u hu
      rw [List.flatMap_append, List.flatMap_cons, List.flatMap_nil, List.append_nil] at hu
      by_cases hj : j < (xs.flatMap el).length
      · rw [List.getElem?_append_left hj] at hu; exact hc j u hu
      · rw [List.getElem?_append_right (by omega)] at hu
        have hjk : j - (xs.flatMap el).length < k := by
          have := (List.getElem?_eq_some_iff.1 hu).1
          rw [hcl] at this; exact this
        have := hat _ hjk
        rw [Go.Deep.add_add] at this
        rw [hk] at this hu hj
        rw [show len * k + (j - len * k) = j by omega] at this
        rw [this, hu]
theorem open_rows {α : Type} (el : α → List Value) (k : Nat) (hk : 0 < k) (good : α → Prop) {t e : TypeId} {A : Option Addr} {len cap : Nat} {x : DataW H × List MemPlace} (ht : P.underlying t = some (.slice e)) (hC : P.cellsOf e = k)
    (hE : ∀ f cs (x : DataW H × List MemPlace), DataW.trod enc P w base (fun _ => true) held f e cs = some x → ∃ y, cs = el y ∧ good y)
    (h : DataW.trod enc P w base (fun _ => true) held fuel t [Value.slice A len cap] = some x) : ∃ xs : List α, len = xs.length ∧ (∀ y ∈ xs, good y) ∧ Rd w w.heap.size A (xs.flatMap el) ∧ len ≤ cap ∧ cap ≤ 9223372036854775807 := by
  rcases open_slice ht h with ⟨hcs, _⟩ | ⟨a, l, c, m, n, D, Pl, hcs, hb, hl, hm, hmm, hx, hi⟩
  · simp at hcs
    obtain ⟨rfl, rfl, rfl⟩ := hcs
    exact ⟨[], rfl, fun _ h => by simp at h, .inl rfl, Nat.le_refl _, by omega⟩
  · simp at hcs
    obtain ⟨rfl, rfl, rfl⟩ := hcs
    simp only [if_true] at hmm
    subst hmm
    rw [hC] at hi
    obtain ⟨xs, hzl, hzw, hzk, hzc⟩ := rows_upto (w := w) (base := base) (a := a) el k good len (fun i hil => by
      obtain ⟨cs', h1, h2⟩ := hi i (by omega)
      obtain ⟨y, h3, h4⟩ := hE _ _ _ h2
      exact ⟨cs', y, h1, h3, h4⟩)
    refine ⟨xs, hzl.symm, hzw, ?_, hl, hm⟩
    rcases Nat.eq_zero_or_pos len with h0 | hp
    · left
      subst h0
      have : xs = [] := List.eq_nil_of_length_eq_zero hzl
      rw [this]; rfl
    · have hpos : 0 < (xs.flatMap el).length := by rw [hzk]; exact Nat.mul_pos hp hk
      have hsp : a.spot = none := by
        have := World.cell?_spot (hzc 0 _ (List.getElem?_eq_getElem hpos))
        simpa [Addr.add] using this
      obtain ⟨b, off, sp⟩ := a
      simp only at hsp
      subst hsp
      have hcc : ∀ j u, (xs.flatMap el)[j]? = some u → w.cell? ⟨b, off + j, none⟩ = some u := fun j u hu => by
        have := hzc j u hu
        rw [Addr.add_lit] at this
        exact this
      exact .inr ⟨b, off, rfl, World.block_lt_of_cell? w _ (hcc 0 _ (List.getElem?_eq_getElem hpos)), hcc⟩
theorem list2 {cs : List Value} (h : cs.length = 2) : ∃ c0 c1, cs = [c0, c1] := by
  match cs, h with
  | [c0, c1], _ => exact ⟨c0, c1, rfl⟩
theorem list3 {cs : List Value} (h : cs.length = 3) : ∃ c0 c1 c2, cs = [c0, c1, c2] := by
  match cs, h with
  | [c0, c1, c2], _ => exact ⟨c0, c1, c2, rfl⟩
theorem list4 {cs : List Value} (h : cs.length = 4) : ∃ c0 c1 c2 c3, cs = [c0, c1, c2, c3] := by
  match cs, h with
  | [c0, c1, c2, c3], _ => exact ⟨c0, c1, c2, c3, rfl⟩
theorem list6 {cs : List Value} (h : cs.length = 6) : ∃ c0 c1 c2 c3 c4 c5, cs = [c0, c1, c2, c3, c4, c5] := by
  match cs, h with
  | [c0, c1, c2, c3, c4, c5], _ => exact ⟨c0, c1, c2, c3, c4, c5, rfl⟩
theorem list8 {cs : List Value} (h : cs.length = 8) : ∃ c0 c1 c2 c3 c4 c5 c6 c7, cs = [c0, c1, c2, c3, c4, c5, c6, c7] := by
  match cs, h with
  | [c0, c1, c2, c3, c4, c5, c6, c7], _ => exact ⟨c0, c1, c2, c3, c4, c5, c6, c7, rfl⟩
theorem list10 {cs : List Value} (h : cs.length = 10) : ∃ c0 c1 c2 c3 c4 c5 c6 c7 c8 c9, cs = [c0, c1, c2, c3, c4, c5, c6, c7, c8, c9] := by
  match cs, h with
  | [c0, c1, c2, c3, c4, c5, c6, c7, c8, c9], _ => exact ⟨c0, c1, c2, c3, c4, c5, c6, c7, c8, c9, rfl⟩
theorem list19 {cs : List Value} (h : cs.length = 19) : ∃ c0 c1 c2 c3 c4 c5 c6 c7 c8 c9 c10 c11 c12 c13 c14 c15 c16 c17 c18, cs = [c0, c1, c2, c3, c4, c5, c6, c7, c8, c9, c10, c11, c12, c13, c14, c15, c16, c17, c18] := by
  match cs, h with
  | [c0, c1, c2, c3, c4, c5, c6, c7, c8, c9, c10, c11, c12, c13, c14, c15, c16, c17, c18], _ => exact ⟨c0, c1, c2, c3, c4, c5, c6, c7, c8, c9, c10, c11, c12, c13, c14, c15, c16, c17, c18, rfl⟩
theorem open_int1 {cs : List Value} {x : DataW H × List MemPlace} (h : DataW.trod enc Tryz.prog w base (fun _ => true) held fuel 3 cs = some x) : ∃ y, cs = intL1 y ∧ True := by
  obtain ⟨e, q, _, _⟩ := DataW.trod_int Tryz.underlying3 h
  exact ⟨e, q, trivial⟩
theorem open_ins {cs : List Value} {x : DataW H × List MemPlace} (h : DataW.trod enc Tryz.prog w base (fun _ => true) held fuel 65 cs = some x) : ∃ y, cs = InsP.l y ∧ True := by
  obtain ⟨ys, n, _, _, hlen, hyl, hg⟩ := DataW.trod_struct Tryz.underlying65 h
  have hC : Tryz.prog.cellsOf 65 = 4 := by kernel_rfl
  obtain ⟨c0, c1, c2, c3, rfl⟩ := list4 (hlen.trans hC)
  have hy : ∀ j, j < 4 → ∃ y, ys[j]? = some y := fun j hj => ⟨_, List.getElem?_eq_getElem (by rw [hyl]; exact hj)⟩
  obtain ⟨u0, v0⟩ := hy 0 (by omega)
  have k0 : Tryz.prog.cellsOf 3 = 1 := by kernel_rfl
  have h0 : DataW.trod enc Tryz.prog w base (fun _ => true) held n 3 (List.take (Tryz.prog.cellsOf 3) (List.drop 0 [c0, c1, c2, c3])) = some u0 := (hg 0 _ rfl).trans v0
  rw [k0] at h0
  simp only [List.drop_succ_cons, List.drop_zero, List.take_succ_cons, List.take_zero] at h0
  obtain ⟨u1, v1⟩ := hy 1 (by omega)
  have k1 : Tryz.prog.cellsOf 3 = 1 := by kernel_rfl
  have h1 : DataW.trod enc Tryz.prog w base (fun _ => true) held n 3 (List.take (Tryz.prog.cellsOf 3) (List.drop 1 [c0, c1, c2, c3])) = some u1 := (hg 1 _ rfl).trans v1
  rw [k1] at h1
  simp only [List.drop_succ_cons, List.drop_zero, List.take_succ_cons, List.take_zero] at h1
  obtain ⟨u2, v2⟩ := hy 2 (by omega)
  have k2 : Tryz.prog.cellsOf 3 = 1 := by kernel_rfl
  have h2 : DataW.trod enc Tryz.prog w base (fun _ => true) held n 3 (List.take (Tryz.prog.cellsOf 3) (List.drop 2 [c0, c1, c2, c3])) = some u2 := (hg 2 _ rfl).trans v2
  rw [k2] at h2
  simp only [List.drop_succ_cons, List.drop_zero, List.take_succ_cons, List.take_zero] at h2
  obtain ⟨u3, v3⟩ := hy 3 (by omega)
  have k3 : Tryz.prog.cellsOf 3 = 1 := by kernel_rfl
  have h3 : DataW.trod enc Tryz.prog w base (fun _ => true) held n 3 (List.take (Tryz.prog.cellsOf 3) (List.drop 3 [c0, c1, c2, c3])) = some u3 := (hg 3 _ rfl).trans v3
  rw [k3] at h3
  simp only [List.drop_succ_cons, List.drop_zero, List.take_succ_cons, List.take_zero] at h3
  obtain ⟨e0, q0, _, _⟩ := DataW.trod_int Tryz.underlying3 h0
  injection q0 with q0 _
  subst q0
  obtain ⟨e1, q1, _, _⟩ := DataW.trod_int Tryz.underlying3 h1
  injection q1 with q1 _
  subst q1
  obtain ⟨e2, q2, _, _⟩ := DataW.trod_int Tryz.underlying3 h2
  injection q2 with q2 _
  subst q2
  obtain ⟨e3, q3, _, _⟩ := DataW.trod_int Tryz.underlying3 h3
  injection q3 with q3 _
  subst q3
  exact ⟨⟨e0, e1, e2, e3⟩, rfl, trivial⟩
theorem open_kid {cs : List Value} {x : DataW H × List MemPlace} (h : DataW.trod enc Tryz.prog w base (fun _ => true) held fuel 67 cs = some x) : ∃ y, cs = kidL1 y ∧ True := by
  obtain ⟨ys, n, _, _, hlen, hyl, hg⟩ := DataW.trod_struct Tryz.underlying67 h
  have hC : Tryz.prog.cellsOf 67 = 2 := by kernel_rfl
  obtain ⟨c0, c1, rfl⟩ := list2 (hlen.trans hC)
  have hy : ∀ j, j < 2 → ∃ y, ys[j]? = some y := fun j hj => ⟨_, List.getElem?_eq_getElem (by rw [hyl]; exact hj)⟩
  obtain ⟨u0, v0⟩ := hy 0 (by omega)
  have k0 : Tryz.prog.cellsOf 3 = 1 := by kernel_rfl
  have h0 : DataW.trod enc Tryz.prog w base (fun _ => true) held n 3 (List.take (Tryz.prog.cellsOf 3) (List.drop 0 [c0, c1])) = some u0 := (hg 0 _ rfl).trans v0
  rw [k0] at h0
  simp only [List.drop_succ_cons, List.drop_zero, List.take_succ_cons, List.take_zero] at h0
  obtain ⟨u1, v1⟩ := hy 1 (by omega)
  have k1 : Tryz.prog.cellsOf 3 = 1 := by kernel_rfl
  have h1 : DataW.trod enc Tryz.prog w base (fun _ => true) held n 3 (List.take (Tryz.prog.cellsOf 3) (List.drop 1 [c0, c1])) = some u1 := (hg 1 _ rfl).trans v1
  rw [k1] at h1
  simp only [List.drop_succ_cons, List.drop_zero, List.take_succ_cons, List.take_zero] at h1
  obtain ⟨e0, q0, _, _⟩ := DataW.trod_int Tryz.underlying3 h0
  injection q0 with q0 _
  subst q0
  obtain ⟨e1, q1, _, _⟩ := DataW.trod_int Tryz.underlying3 h1
  injection q1 with q1 _
  subst q1
  exact ⟨⟨e0, e1⟩, rfl, trivial⟩
theorem open_res {cs : List Value} {x : DataW H × List MemPlace} (h : DataW.trod enc Tryz.prog w base (fun _ => true) held fuel 79 cs = some x) : ∃ y, cs = resL y ∧ True := by
  obtain ⟨ys, n, _, _, hlen, hyl, hg⟩ := DataW.trod_struct Tryz.underlying79 h
  have hC : Tryz.prog.cellsOf 79 = 2 := by kernel_rfl
  obtain ⟨c0, c1, rfl⟩ := list2 (hlen.trans hC)
  have hy : ∀ j, j < 2 → ∃ y, ys[j]? = some y := fun j hj => ⟨_, List.getElem?_eq_getElem (by rw [hyl]; exact hj)⟩
  obtain ⟨u0, v0⟩ := hy 0 (by omega)
  have k0 : Tryz.prog.cellsOf 3 = 1 := by kernel_rfl
  have h0 : DataW.trod enc Tryz.prog w base (fun _ => true) held n 3 (List.take (Tryz.prog.cellsOf 3) (List.drop 0 [c0, c1])) = some u0 := (hg 0 _ rfl).trans v0
  rw [k0] at h0
  simp only [List.drop_succ_cons, List.drop_zero, List.take_succ_cons, List.take_zero] at h0
  obtain ⟨u1, v1⟩ := hy 1 (by omega)
  have k1 : Tryz.prog.cellsOf 4 = 1 := by kernel_rfl
  have h1 : DataW.trod enc Tryz.prog w base (fun _ => true) held n 4 (List.take (Tryz.prog.cellsOf 4) (List.drop 1 [c0, c1])) = some u1 := (hg 1 _ rfl).trans v1
  rw [k1] at h1
  simp only [List.drop_succ_cons, List.drop_zero, List.take_succ_cons, List.take_zero] at h1
  obtain ⟨e0, q0, _, _⟩ := DataW.trod_int Tryz.underlying3 h0
  injection q0 with q0 _
  subst q0
  obtain ⟨e1, q1, _⟩ := DataW.trod_bool Tryz.underlying4 h1
  injection q1 with q1 _
  subst q1
  exact ⟨(e0, e1), rfl, trivial⟩
theorem open_pair {cs : List Value} {x : DataW H × List MemPlace} (h : DataW.trod enc Tryz.prog w base (fun _ => true) held fuel 88 cs = some x) : ∃ y, cs = pairL y ∧ True := by
  have hl : cs.length = 2 := by
    obtain ⟨ys, m, _, _, hlen, hl, hel⟩ := DataW.trod_array Tryz.underlying88 h
    exact hlen.trans (by kernel_rfl)
  obtain ⟨c0, c1, rfl⟩ := list2 hl
  have hn := flat_pair h
  obtain ⟨e0, q0, _⟩ := hn c0 (by simp)
  obtain ⟨e1, q1, _⟩ := hn c1 (by simp)
  subst q0 q1
  exact ⟨(e0, e1), rfl, trivial⟩
theorem open_body {cs : List Value} {x : DataW H × List MemPlace} (h : DataW.trod enc Tryz.prog w base (fun _ => true) held fuel 63 cs = some x) : ∃ y : BodyP, cs = y.l ∧ (Rd w w.heap.size y.Ai (y.ins.flatMap InsP.l) ∧ y.ni = y.ins.length ∧ y.ni ≤ 9223372036854775807) := by
  obtain ⟨ys, n, _, _, hlen, hyl, hg⟩ := DataW.trod_struct Tryz.underlying63 h
  have hC : Tryz.prog.cellsOf 63 = 3 := by kernel_rfl
  obtain ⟨c0, c1, c2, rfl⟩ := list3 (hlen.trans hC)
  have hy : ∀ j, j < 3 → ∃ y, ys[j]? = some y := fun j hj => ⟨_, List.getElem?_eq_getElem (by rw [hyl]; exact hj)⟩
  obtain ⟨u0, v0⟩ := hy 0 (by omega)
  have k0 : Tryz.prog.cellsOf 3 = 1 := by kernel_rfl
  have h0 : DataW.trod enc Tryz.prog w base (fun _ => true) held n 3 (List.take (Tryz.prog.cellsOf 3) (List.drop 0 [c0, c1, c2])) = some u0 := (hg 0 _ rfl).trans v0
  rw [k0] at h0
  simp only [List.drop_succ_cons, List.drop_zero, List.take_succ_cons, List.take_zero] at h0
  obtain ⟨u1, v1⟩ := hy 1 (by omega)
  have k1 : Tryz.prog.cellsOf 3 = 1 := by kernel_rfl
  have h1 : DataW.trod enc Tryz.prog w base (fun _ => true) held n 3 (List.take (Tryz.prog.cellsOf 3) (List.drop 1 [c0, c1, c2])) = some u1 := (hg 1 _ rfl).trans v1
  rw [k1] at h1
  simp only [List.drop_succ_cons, List.drop_zero, List.take_succ_cons, List.take_zero] at h1
  obtain ⟨u2, v2⟩ := hy 2 (by omega)
  have k2 : Tryz.prog.cellsOf 61 = 1 := by kernel_rfl
  have h2 : DataW.trod enc Tryz.prog w base (fun _ => true) held n 61 (List.take (Tryz.prog.cellsOf 61) (List.drop 2 [c0, c1, c2])) = some u2 := (hg 2 _ rfl).trans v2
  rw [k2] at h2
  simp only [List.drop_succ_cons, List.drop_zero, List.take_succ_cons, List.take_zero] at h2
  obtain ⟨e0, q0, _, _⟩ := DataW.trod_int Tryz.underlying3 h0
  injection q0 with q0 _
  subst q0
  obtain ⟨e1, q1, _, _⟩ := DataW.trod_int Tryz.underlying3 h1
  injection q1 with q1 _
  subst q1
  obtain ⟨A2, n2, p2, q2, _, _⟩ := slice_cell Tryz.underlying61 h2
  subst q2
  obtain ⟨xs2, lx2, gx2, rx2, cx2, mx2⟩ := open_rows (α := InsP) InsP.l 4 (by omega) (fun _ => True) Tryz.underlying61 (by kernel_rfl) (fun f cs x hx => open_ins hx) h2
  exact ⟨⟨e0, e1, A2, n2, p2, xs2⟩, rfl, rx2, lx2, Nat.le_trans cx2 mx2⟩
theorem open_codeR {cs : List Value} {x : DataW H × List MemPlace} (h : DataW.trod enc Tryz.prog w base (fun _ => true) held fuel 25 cs = some x) : ∃ (c : CodeP) (zs : List Int), cs = c.l ∧ CodeRd w c zs := by
  obtain ⟨ys, n, _, _, hlen, hyl, hg⟩ := DataW.trod_struct Tryz.underlying25 h
  have hC : Tryz.prog.cellsOf 25 = 6 := by kernel_rfl
  obtain ⟨c0, c1, c2, c3, c4, c5, rfl⟩ := list6 (hlen.trans hC)
  have hy : ∀ j, j < 6 → ∃ y, ys[j]? = some y := fun j hj => ⟨_, List.getElem?_eq_getElem (by rw [hyl]; exact hj)⟩
  obtain ⟨u0, v0⟩ := hy 0 (by omega)
  have k0 : Tryz.prog.cellsOf 22 = 1 := by kernel_rfl
  have h0 : DataW.trod enc Tryz.prog w base (fun _ => true) held n 22 (List.take (Tryz.prog.cellsOf 22) (List.drop 0 [c0, c1, c2, c3, c4, c5])) = some u0 := (hg 0 _ rfl).trans v0
  rw [k0] at h0
  simp only [List.drop_succ_cons, List.drop_zero, List.take_succ_cons, List.take_zero] at h0
  obtain ⟨u1, v1⟩ := hy 1 (by omega)
  have k1 : Tryz.prog.cellsOf 23 = 1 := by kernel_rfl
  have h1 : DataW.trod enc Tryz.prog w base (fun _ => true) held n 23 (List.take (Tryz.prog.cellsOf 23) (List.drop 1 [c0, c1, c2, c3, c4, c5])) = some u1 := (hg 1 _ rfl).trans v1
  rw [k1] at h1
  simp only [List.drop_succ_cons, List.drop_zero, List.take_succ_cons, List.take_zero] at h1
  obtain ⟨u2, v2⟩ := hy 2 (by omega)
  have k2 : Tryz.prog.cellsOf 3 = 1 := by kernel_rfl
  have h2 : DataW.trod enc Tryz.prog w base (fun _ => true) held n 3 (List.take (Tryz.prog.cellsOf 3) (List.drop 2 [c0, c1, c2, c3, c4, c5])) = some u2 := (hg 2 _ rfl).trans v2
  rw [k2] at h2
  simp only [List.drop_succ_cons, List.drop_zero, List.take_succ_cons, List.take_zero] at h2
  obtain ⟨u3, v3⟩ := hy 3 (by omega)
  have k3 : Tryz.prog.cellsOf 3 = 1 := by kernel_rfl
  have h3 : DataW.trod enc Tryz.prog w base (fun _ => true) held n 3 (List.take (Tryz.prog.cellsOf 3) (List.drop 3 [c0, c1, c2, c3, c4, c5])) = some u3 := (hg 3 _ rfl).trans v3
  rw [k3] at h3
  simp only [List.drop_succ_cons, List.drop_zero, List.take_succ_cons, List.take_zero] at h3
  obtain ⟨u4, v4⟩ := hy 4 (by omega)
  have k4 : Tryz.prog.cellsOf 3 = 1 := by kernel_rfl
  have h4 : DataW.trod enc Tryz.prog w base (fun _ => true) held n 3 (List.take (Tryz.prog.cellsOf 3) (List.drop 4 [c0, c1, c2, c3, c4, c5])) = some u4 := (hg 4 _ rfl).trans v4
  rw [k4] at h4
  simp only [List.drop_succ_cons, List.drop_zero, List.take_succ_cons, List.take_zero] at h4
  obtain ⟨u5, v5⟩ := hy 5 (by omega)
  have k5 : Tryz.prog.cellsOf 3 = 1 := by kernel_rfl
  have h5 : DataW.trod enc Tryz.prog w base (fun _ => true) held n 3 (List.take (Tryz.prog.cellsOf 3) (List.drop 5 [c0, c1, c2, c3, c4, c5])) = some u5 := (hg 5 _ rfl).trans v5
  rw [k5] at h5
  simp only [List.drop_succ_cons, List.drop_zero, List.take_succ_cons, List.take_zero] at h5
  obtain ⟨A0, n0, p0, q0, _, _⟩ := slice_cell Tryz.underlying22 h0
  subst q0
  obtain ⟨xs0, lx0, gx0, rx0, cx0, mx0⟩ := open_rows (α := BodyP) BodyP.l 3 (by omega) (fun y : BodyP => Rd w w.heap.size y.Ai (y.ins.flatMap InsP.l) ∧ y.ni = y.ins.length ∧ y.ni ≤ 9223372036854775807) Tryz.underlying22 (by kernel_rfl) (fun f cs x hx => open_body hx) h0
  obtain ⟨A1, n1, p1, q1, _, _⟩ := slice_cell Tryz.underlying23 h1
  subst q1
  obtain ⟨xs1, lx1, gx1, rx1, cx1, mx1⟩ := open_rows (α := Int) intL1 1 (by omega) (fun _ => True) Tryz.underlying23 (by kernel_rfl) (fun f cs x hx => open_int1 hx) h1
  obtain ⟨e2, q2, _, _⟩ := DataW.trod_int Tryz.underlying3 h2
  injection q2 with q2 _
  subst q2
  obtain ⟨e3, q3, _, _⟩ := DataW.trod_int Tryz.underlying3 h3
  injection q3 with q3 _
  subst q3
  obtain ⟨e4, q4, _, _⟩ := DataW.trod_int Tryz.underlying3 h4
  injection q4 with q4 _
  subst q4
  obtain ⟨e5, q5, _, _⟩ := DataW.trod_int Tryz.underlying3 h5
  injection q5 with q5 _
  subst q5
  rw [intL1_is] at rx1
  exact ⟨⟨A0, n0, p0, A1, n1, p1, e2, e3, e4, e5, xs0⟩, xs1, rfl, lx0, Nat.le_trans cx0 mx0, lx1, Nat.le_trans cx1 mx1, rx1, rx0, fun i hi => gx0 _ (List.getElem_mem hi)⟩
theorem open_frame {cs : List Value} {x : DataW H × List MemPlace} (h : DataW.trod enc Tryz.prog w base (fun _ => true) held fuel 36 cs = some x) : ∃ f : FrP, cs = f.l ∧ FrRd w f := by
  obtain ⟨ys, n, _, _, hlen, hyl, hg⟩ := DataW.trod_struct Tryz.underlying36 h
  have hC : Tryz.prog.cellsOf 36 = 10 := by kernel_rfl
  obtain ⟨c0, c1, c2, c3, c4, c5, c6, c7, c8, c9, rfl⟩ := list10 (hlen.trans hC)
  have hy : ∀ j, j < 10 → ∃ y, ys[j]? = some y := fun j hj => ⟨_, List.getElem?_eq_getElem (by rw [hyl]; exact hj)⟩
  obtain ⟨u0, v0⟩ := hy 0 (by omega)
  have k0 : Tryz.prog.cellsOf 3 = 1 := by kernel_rfl
  have h0 : DataW.trod enc Tryz.prog w base (fun _ => true) held n 3 (List.take (Tryz.prog.cellsOf 3) (List.drop 0 [c0, c1, c2, c3, c4, c5, c6, c7, c8, c9])) = some u0 := (hg 0 _ rfl).trans v0
  rw [k0] at h0
  simp only [List.drop_succ_cons, List.drop_zero, List.take_succ_cons, List.take_zero] at h0
  obtain ⟨u1, v1⟩ := hy 1 (by omega)
  have k1 : Tryz.prog.cellsOf 23 = 1 := by kernel_rfl
  have h1 : DataW.trod enc Tryz.prog w base (fun _ => true) held n 23 (List.take (Tryz.prog.cellsOf 23) (List.drop 1 [c0, c1, c2, c3, c4, c5, c6, c7, c8, c9])) = some u1 := (hg 1 _ rfl).trans v1
  rw [k1] at h1
  simp only [List.drop_succ_cons, List.drop_zero, List.take_succ_cons, List.take_zero] at h1
  obtain ⟨u2, v2⟩ := hy 2 (by omega)
  have k2 : Tryz.prog.cellsOf 3 = 1 := by kernel_rfl
  have h2 : DataW.trod enc Tryz.prog w base (fun _ => true) held n 3 (List.take (Tryz.prog.cellsOf 3) (List.drop 2 [c0, c1, c2, c3, c4, c5, c6, c7, c8, c9])) = some u2 := (hg 2 _ rfl).trans v2
  rw [k2] at h2
  simp only [List.drop_succ_cons, List.drop_zero, List.take_succ_cons, List.take_zero] at h2
  obtain ⟨u3, v3⟩ := hy 3 (by omega)
  have k3 : Tryz.prog.cellsOf 3 = 1 := by kernel_rfl
  have h3 : DataW.trod enc Tryz.prog w base (fun _ => true) held n 3 (List.take (Tryz.prog.cellsOf 3) (List.drop 3 [c0, c1, c2, c3, c4, c5, c6, c7, c8, c9])) = some u3 := (hg 3 _ rfl).trans v3
  rw [k3] at h3
  simp only [List.drop_succ_cons, List.drop_zero, List.take_succ_cons, List.take_zero] at h3
  obtain ⟨u4, v4⟩ := hy 4 (by omega)
  have k4 : Tryz.prog.cellsOf 23 = 1 := by kernel_rfl
  have h4 : DataW.trod enc Tryz.prog w base (fun _ => true) held n 23 (List.take (Tryz.prog.cellsOf 23) (List.drop 4 [c0, c1, c2, c3, c4, c5, c6, c7, c8, c9])) = some u4 := (hg 4 _ rfl).trans v4
  rw [k4] at h4
  simp only [List.drop_succ_cons, List.drop_zero, List.take_succ_cons, List.take_zero] at h4
  obtain ⟨u5, v5⟩ := hy 5 (by omega)
  have k5 : Tryz.prog.cellsOf 23 = 1 := by kernel_rfl
  have h5 : DataW.trod enc Tryz.prog w base (fun _ => true) held n 23 (List.take (Tryz.prog.cellsOf 23) (List.drop 5 [c0, c1, c2, c3, c4, c5, c6, c7, c8, c9])) = some u5 := (hg 5 _ rfl).trans v5
  rw [k5] at h5
  simp only [List.drop_succ_cons, List.drop_zero, List.take_succ_cons, List.take_zero] at h5
  obtain ⟨u6, v6⟩ := hy 6 (by omega)
  have k6 : Tryz.prog.cellsOf 34 = 1 := by kernel_rfl
  have h6 : DataW.trod enc Tryz.prog w base (fun _ => true) held n 34 (List.take (Tryz.prog.cellsOf 34) (List.drop 6 [c0, c1, c2, c3, c4, c5, c6, c7, c8, c9])) = some u6 := (hg 6 _ rfl).trans v6
  rw [k6] at h6
  simp only [List.drop_succ_cons, List.drop_zero, List.take_succ_cons, List.take_zero] at h6
  obtain ⟨u7, v7⟩ := hy 7 (by omega)
  have k7 : Tryz.prog.cellsOf 3 = 1 := by kernel_rfl
  have h7 : DataW.trod enc Tryz.prog w base (fun _ => true) held n 3 (List.take (Tryz.prog.cellsOf 3) (List.drop 7 [c0, c1, c2, c3, c4, c5, c6, c7, c8, c9])) = some u7 := (hg 7 _ rfl).trans v7
  rw [k7] at h7
  simp only [List.drop_succ_cons, List.drop_zero, List.take_succ_cons, List.take_zero] at h7
  obtain ⟨u8, v8⟩ := hy 8 (by omega)
  have k8 : Tryz.prog.cellsOf 3 = 1 := by kernel_rfl
  have h8 : DataW.trod enc Tryz.prog w base (fun _ => true) held n 3 (List.take (Tryz.prog.cellsOf 3) (List.drop 8 [c0, c1, c2, c3, c4, c5, c6, c7, c8, c9])) = some u8 := (hg 8 _ rfl).trans v8
  rw [k8] at h8
  simp only [List.drop_succ_cons, List.drop_zero, List.take_succ_cons, List.take_zero] at h8
  obtain ⟨u9, v9⟩ := hy 9 (by omega)
  have k9 : Tryz.prog.cellsOf 4 = 1 := by kernel_rfl
  have h9 : DataW.trod enc Tryz.prog w base (fun _ => true) held n 4 (List.take (Tryz.prog.cellsOf 4) (List.drop 9 [c0, c1, c2, c3, c4, c5, c6, c7, c8, c9])) = some u9 := (hg 9 _ rfl).trans v9
  rw [k9] at h9
  simp only [List.drop_succ_cons, List.drop_zero, List.take_succ_cons, List.take_zero] at h9
  obtain ⟨e0, q0, _, _⟩ := DataW.trod_int Tryz.underlying3 h0
  injection q0 with q0 _
  subst q0
  obtain ⟨A1, n1, p1, q1, _, _⟩ := slice_cell Tryz.underlying23 h1
  subst q1
  obtain ⟨xs1, lx1, gx1, rx1, cx1, mx1⟩ := open_rows (α := Int) intL1 1 (by omega) (fun _ => True) Tryz.underlying23 (by kernel_rfl) (fun f cs x hx => open_int1 hx) h1
  obtain ⟨e2, q2, _, _⟩ := DataW.trod_int Tryz.underlying3 h2
  injection q2 with q2 _
  subst q2
  obtain ⟨e3, q3, _, _⟩ := DataW.trod_int Tryz.underlying3 h3
  injection q3 with q3 _
  subst q3
  obtain ⟨A4, n4, p4, q4, _, _⟩ := slice_cell Tryz.underlying23 h4
  subst q4
  obtain ⟨xs4, lx4, gx4, rx4, cx4, mx4⟩ := open_rows (α := Int) intL1 1 (by omega) (fun _ => True) Tryz.underlying23 (by kernel_rfl) (fun f cs x hx => open_int1 hx) h4
  obtain ⟨A5, n5, p5, q5, _, _⟩ := slice_cell Tryz.underlying23 h5
  subst q5
  obtain ⟨xs5, lx5, gx5, rx5, cx5, mx5⟩ := open_rows (α := Int) intL1 1 (by omega) (fun _ => True) Tryz.underlying23 (by kernel_rfl) (fun f cs x hx => open_int1 hx) h5
  obtain ⟨A6, n6, p6, q6, _, _⟩ := slice_cell Tryz.underlying34 h6
  subst q6
  obtain ⟨xs6, lx6, gx6, rx6, cx6, mx6⟩ := open_rows (α := KidP) kidL1 2 (by omega) (fun _ => True) Tryz.underlying34 (by kernel_rfl) (fun f cs x hx => open_kid hx) h6
  obtain ⟨e7, q7, _, _⟩ := DataW.trod_int Tryz.underlying3 h7
  injection q7 with q7 _
  subst q7
  obtain ⟨e8, q8, _, _⟩ := DataW.trod_int Tryz.underlying3 h8
  injection q8 with q8 _
  subst q8
  obtain ⟨e9, q9, _⟩ := DataW.trod_bool Tryz.underlying4 h9
  injection q9 with q9 _
  subst q9
  rw [intL1_is] at rx1 rx4 rx5
  rw [kidL1_is] at rx6
  exact ⟨⟨e0, A1, n1, p1, xs1, e2, e3, A4, n4, p4, xs4, A5, n5, p5, xs5, A6, n6, p6, xs6, e7, e8, e9⟩, rfl, ⟨rx1, lx1, cx1, Nat.le_trans cx1 mx1⟩, ⟨rx4, lx4, cx4, Nat.le_trans cx4 mx4⟩, ⟨rx5, lx5, cx5, Nat.le_trans cx5 mx5⟩, ⟨rx6, lx6, cx6, Nat.le_trans cx6 mx6⟩⟩
theorem open_op {cs : List Value} {x : DataW H × List MemPlace} (h : DataW.trod enc Tryz.prog w base (fun _ => true) held fuel 27 cs = some x) : ∃ a b c d, cs = [Value.int .i64 a, .int .i64 b, .int .i64 c, .int .i64 d] := by
  obtain ⟨ys, n, _, _, hlen, hyl, hg⟩ := DataW.trod_struct Tryz.underlying27 h
  have hC : Tryz.prog.cellsOf 27 = 4 := by kernel_rfl
  obtain ⟨c0, c1, c2, c3, rfl⟩ := list4 (hlen.trans hC)
  have hy : ∀ j, j < 4 → ∃ y, ys[j]? = some y := fun j hj => ⟨_, List.getElem?_eq_getElem (by rw [hyl]; exact hj)⟩
  obtain ⟨u0, v0⟩ := hy 0 (by omega)
  have k0 : Tryz.prog.cellsOf 3 = 1 := by kernel_rfl
  have h0 : DataW.trod enc Tryz.prog w base (fun _ => true) held n 3 (List.take (Tryz.prog.cellsOf 3) (List.drop 0 [c0, c1, c2, c3])) = some u0 := (hg 0 _ rfl).trans v0
  rw [k0] at h0
  simp only [List.drop_succ_cons, List.drop_zero, List.take_succ_cons, List.take_zero] at h0
  obtain ⟨u1, v1⟩ := hy 1 (by omega)
  have k1 : Tryz.prog.cellsOf 3 = 1 := by kernel_rfl
  have h1 : DataW.trod enc Tryz.prog w base (fun _ => true) held n 3 (List.take (Tryz.prog.cellsOf 3) (List.drop 1 [c0, c1, c2, c3])) = some u1 := (hg 1 _ rfl).trans v1
  rw [k1] at h1
  simp only [List.drop_succ_cons, List.drop_zero, List.take_succ_cons, List.take_zero] at h1
  obtain ⟨u2, v2⟩ := hy 2 (by omega)
  have k2 : Tryz.prog.cellsOf 3 = 1 := by kernel_rfl
  have h2 : DataW.trod enc Tryz.prog w base (fun _ => true) held n 3 (List.take (Tryz.prog.cellsOf 3) (List.drop 2 [c0, c1, c2, c3])) = some u2 := (hg 2 _ rfl).trans v2
  rw [k2] at h2
  simp only [List.drop_succ_cons, List.drop_zero, List.take_succ_cons, List.take_zero] at h2
  obtain ⟨u3, v3⟩ := hy 3 (by omega)
  have k3 : Tryz.prog.cellsOf 3 = 1 := by kernel_rfl
  have h3 : DataW.trod enc Tryz.prog w base (fun _ => true) held n 3 (List.take (Tryz.prog.cellsOf 3) (List.drop 3 [c0, c1, c2, c3])) = some u3 := (hg 3 _ rfl).trans v3
  rw [k3] at h3
  simp only [List.drop_succ_cons, List.drop_zero, List.take_succ_cons, List.take_zero] at h3
  obtain ⟨e0, q0, _, _⟩ := DataW.trod_int Tryz.underlying3 h0
  injection q0 with q0 _
  subst q0
  obtain ⟨e1, q1, _, _⟩ := DataW.trod_int Tryz.underlying3 h1
  injection q1 with q1 _
  subst q1
  obtain ⟨e2, q2, _, _⟩ := DataW.trod_int Tryz.underlying3 h2
  injection q2 with q2 _
  subst q2
  obtain ⟨e3, q3, _, _⟩ := DataW.trod_int Tryz.underlying3 h3
  injection q3 with q3 _
  subst q3
  exact ⟨e0, e1, e2, e3, rfl⟩
theorem open_ask {cs : List Value} {x : DataW H × List MemPlace} (h : DataW.trod enc Tryz.prog w base (fun _ => true) held fuel 29 cs = some x) : ∃ k a b o0 o1 o2 o3 A n c, ∃ xs : List Int, cs = [Value.int .i64 k, .int .i64 a, .int .i64 b, .int .i64 o0, .int .i64 o1, .int .i64 o2, .int .i64 o3, .slice A n c] ∧ RdI w A n c xs := by
  obtain ⟨ys, n, _, _, hlen, hyl, hg⟩ := DataW.trod_struct Tryz.underlying29 h
  have hC : Tryz.prog.cellsOf 29 = 8 := by kernel_rfl
  obtain ⟨c0, c1, c2, c3, c4, c5, c6, c7, rfl⟩ := list8 (hlen.trans hC)
  have hy : ∀ j, j < 5 → ∃ y, ys[j]? = some y := fun j hj => ⟨_, List.getElem?_eq_getElem (by rw [hyl]; exact hj)⟩
  obtain ⟨u0, v0⟩ := hy 0 (by omega)
  have k0 : Tryz.prog.cellsOf 3 = 1 := by kernel_rfl
  have h0 : DataW.trod enc Tryz.prog w base (fun _ => true) held n 3 (List.take (Tryz.prog.cellsOf 3) (List.drop 0 [c0, c1, c2, c3, c4, c5, c6, c7])) = some u0 := (hg 0 _ rfl).trans v0
  rw [k0] at h0
  simp only [List.drop_succ_cons, List.drop_zero, List.take_succ_cons, List.take_zero] at h0
  obtain ⟨u1, v1⟩ := hy 1 (by omega)
  have k1 : Tryz.prog.cellsOf 3 = 1 := by kernel_rfl
  have h1 : DataW.trod enc Tryz.prog w base (fun _ => true) held n 3 (List.take (Tryz.prog.cellsOf 3) (List.drop 1 [c0, c1, c2, c3, c4, c5, c6, c7])) = some u1 := (hg 1 _ rfl).trans v1
  rw [k1] at h1
  simp only [List.drop_succ_cons, List.drop_zero, List.take_succ_cons, List.take_zero] at h1
  obtain ⟨u2, v2⟩ := hy 2 (by omega)
  have k2 : Tryz.prog.cellsOf 3 = 1 := by kernel_rfl
  have h2 : DataW.trod enc Tryz.prog w base (fun _ => true) held n 3 (List.take (Tryz.prog.cellsOf 3) (List.drop 2 [c0, c1, c2, c3, c4, c5, c6, c7])) = some u2 := (hg 2 _ rfl).trans v2
  rw [k2] at h2
  simp only [List.drop_succ_cons, List.drop_zero, List.take_succ_cons, List.take_zero] at h2
  obtain ⟨u3, v3⟩ := hy 3 (by omega)
  have k3 : Tryz.prog.cellsOf 27 = 4 := by kernel_rfl
  have h3 : DataW.trod enc Tryz.prog w base (fun _ => true) held n 27 (List.take (Tryz.prog.cellsOf 27) (List.drop 3 [c0, c1, c2, c3, c4, c5, c6, c7])) = some u3 := (hg 3 _ rfl).trans v3
  rw [k3] at h3
  simp only [List.drop_succ_cons, List.drop_zero, List.take_succ_cons, List.take_zero] at h3
  obtain ⟨u4, v4⟩ := hy 4 (by omega)
  have k4 : Tryz.prog.cellsOf 23 = 1 := by kernel_rfl
  have h4 : DataW.trod enc Tryz.prog w base (fun _ => true) held n 23 (List.take (Tryz.prog.cellsOf 23) (List.drop 7 [c0, c1, c2, c3, c4, c5, c6, c7])) = some u4 := (hg 4 _ rfl).trans v4
  rw [k4] at h4
  simp only [List.drop_succ_cons, List.drop_zero, List.take_succ_cons, List.take_zero] at h4
  obtain ⟨e0, q0, _, _⟩ := DataW.trod_int Tryz.underlying3 h0
  injection q0 with q0 _
  subst q0
  obtain ⟨e1, q1, _, _⟩ := DataW.trod_int Tryz.underlying3 h1
  injection q1 with q1 _
  subst q1
  obtain ⟨e2, q2, _, _⟩ := DataW.trod_int Tryz.underlying3 h2
  injection q2 with q2 _
  subst q2
  obtain ⟨o3, r3, t3, z3, q3⟩ := open_op h3
  injection q3 with g0 q3
  injection q3 with g1 q3
  injection q3 with g2 q3
  injection q3 with g3 q3
  subst g0 g1 g2 g3
  obtain ⟨A4, n4, p4, q4, _, _⟩ := slice_cell Tryz.underlying23 h4
  subst q4
  obtain ⟨xs4, lx4, gx4, rx4, cx4, mx4⟩ := open_rows (α := Int) intL1 1 (by omega) (fun _ => True) Tryz.underlying23 (by kernel_rfl) (fun f cs x hx => open_int1 hx) h4
  rw [intL1_is] at rx4
  exact ⟨e0, e1, e2, o3, r3, t3, z3, A4, n4, p4, xs4, rfl, rx4, lx4, cx4, Nat.le_trans cx4 mx4⟩
theorem open_seat {cs : List Value} {x : DataW H × List MemPlace} (h : DataW.trod enc Tryz.prog w base (fun _ => true) held fuel 33 cs = some x) : ∃ (s : SeP) (qs ys : List Int) (rs : List (Int × Bool)) (gs : List (Int × Int)), cs = s.l ∧ SeRd w s qs ys rs gs := by
  obtain ⟨ys, n, _, _, hlen, hyl, hg⟩ := DataW.trod_struct Tryz.underlying33 h
  have hC : Tryz.prog.cellsOf 33 = 19 := by kernel_rfl
  obtain ⟨c0, c1, c2, c3, c4, c5, c6, c7, c8, c9, c10, c11, c12, c13, c14, c15, c16, c17, c18, rfl⟩ := list19 (hlen.trans hC)
  have hy : ∀ j, j < 9 → ∃ y, ys[j]? = some y := fun j hj => ⟨_, List.getElem?_eq_getElem (by rw [hyl]; exact hj)⟩
  obtain ⟨u0, v0⟩ := hy 0 (by omega)
  have k0 : Tryz.prog.cellsOf 3 = 1 := by kernel_rfl
  have h0 : DataW.trod enc Tryz.prog w base (fun _ => true) held n 3 (List.take (Tryz.prog.cellsOf 3) (List.drop 0 [c0, c1, c2, c3, c4, c5, c6, c7, c8, c9, c10, c11, c12, c13, c14, c15, c16, c17, c18])) = some u0 := (hg 0 _ rfl).trans v0
  rw [k0] at h0
  simp only [List.drop_succ_cons, List.drop_zero, List.take_succ_cons, List.take_zero] at h0
  obtain ⟨u1, v1⟩ := hy 1 (by omega)
  have k1 : Tryz.prog.cellsOf 3 = 1 := by kernel_rfl
  have h1 : DataW.trod enc Tryz.prog w base (fun _ => true) held n 3 (List.take (Tryz.prog.cellsOf 3) (List.drop 1 [c0, c1, c2, c3, c4, c5, c6, c7, c8, c9, c10, c11, c12, c13, c14, c15, c16, c17, c18])) = some u1 := (hg 1 _ rfl).trans v1
  rw [k1] at h1
  simp only [List.drop_succ_cons, List.drop_zero, List.take_succ_cons, List.take_zero] at h1
  obtain ⟨u2, v2⟩ := hy 2 (by omega)
  have k2 : Tryz.prog.cellsOf 3 = 1 := by kernel_rfl
  have h2 : DataW.trod enc Tryz.prog w base (fun _ => true) held n 3 (List.take (Tryz.prog.cellsOf 3) (List.drop 2 [c0, c1, c2, c3, c4, c5, c6, c7, c8, c9, c10, c11, c12, c13, c14, c15, c16, c17, c18])) = some u2 := (hg 2 _ rfl).trans v2
  rw [k2] at h2
  simp only [List.drop_succ_cons, List.drop_zero, List.take_succ_cons, List.take_zero] at h2
  obtain ⟨u3, v3⟩ := hy 3 (by omega)
  have k3 : Tryz.prog.cellsOf 29 = 8 := by kernel_rfl
  have h3 : DataW.trod enc Tryz.prog w base (fun _ => true) held n 29 (List.take (Tryz.prog.cellsOf 29) (List.drop 3 [c0, c1, c2, c3, c4, c5, c6, c7, c8, c9, c10, c11, c12, c13, c14, c15, c16, c17, c18])) = some u3 := (hg 3 _ rfl).trans v3
  rw [k3] at h3
  simp only [List.drop_succ_cons, List.drop_zero, List.take_succ_cons, List.take_zero] at h3
  obtain ⟨u4, v4⟩ := hy 4 (by omega)
  have k4 : Tryz.prog.cellsOf 27 = 4 := by kernel_rfl
  have h4 : DataW.trod enc Tryz.prog w base (fun _ => true) held n 27 (List.take (Tryz.prog.cellsOf 27) (List.drop 11 [c0, c1, c2, c3, c4, c5, c6, c7, c8, c9, c10, c11, c12, c13, c14, c15, c16, c17, c18])) = some u4 := (hg 4 _ rfl).trans v4
  rw [k4] at h4
  simp only [List.drop_succ_cons, List.drop_zero, List.take_succ_cons, List.take_zero] at h4
  obtain ⟨u5, v5⟩ := hy 5 (by omega)
  have k5 : Tryz.prog.cellsOf 30 = 1 := by kernel_rfl
  have h5 : DataW.trod enc Tryz.prog w base (fun _ => true) held n 30 (List.take (Tryz.prog.cellsOf 30) (List.drop 15 [c0, c1, c2, c3, c4, c5, c6, c7, c8, c9, c10, c11, c12, c13, c14, c15, c16, c17, c18])) = some u5 := (hg 5 _ rfl).trans v5
  rw [k5] at h5
  simp only [List.drop_succ_cons, List.drop_zero, List.take_succ_cons, List.take_zero] at h5
  obtain ⟨u6, v6⟩ := hy 6 (by omega)
  have k6 : Tryz.prog.cellsOf 23 = 1 := by kernel_rfl
  have h6 : DataW.trod enc Tryz.prog w base (fun _ => true) held n 23 (List.take (Tryz.prog.cellsOf 23) (List.drop 16 [c0, c1, c2, c3, c4, c5, c6, c7, c8, c9, c10, c11, c12, c13, c14, c15, c16, c17, c18])) = some u6 := (hg 6 _ rfl).trans v6
  rw [k6] at h6
  simp only [List.drop_succ_cons, List.drop_zero, List.take_succ_cons, List.take_zero] at h6
  obtain ⟨u7, v7⟩ := hy 7 (by omega)
  have k7 : Tryz.prog.cellsOf 31 = 1 := by kernel_rfl
  have h7 : DataW.trod enc Tryz.prog w base (fun _ => true) held n 31 (List.take (Tryz.prog.cellsOf 31) (List.drop 17 [c0, c1, c2, c3, c4, c5, c6, c7, c8, c9, c10, c11, c12, c13, c14, c15, c16, c17, c18])) = some u7 := (hg 7 _ rfl).trans v7
  rw [k7] at h7
  simp only [List.drop_succ_cons, List.drop_zero, List.take_succ_cons, List.take_zero] at h7
  obtain ⟨u8, v8⟩ := hy 8 (by omega)
  have k8 : Tryz.prog.cellsOf 3 = 1 := by kernel_rfl
  have h8 : DataW.trod enc Tryz.prog w base (fun _ => true) held n 3 (List.take (Tryz.prog.cellsOf 3) (List.drop 18 [c0, c1, c2, c3, c4, c5, c6, c7, c8, c9, c10, c11, c12, c13, c14, c15, c16, c17, c18])) = some u8 := (hg 8 _ rfl).trans v8
  rw [k8] at h8
  simp only [List.drop_succ_cons, List.drop_zero, List.take_succ_cons, List.take_zero] at h8
  obtain ⟨e0, q0, _, _⟩ := DataW.trod_int Tryz.underlying3 h0
  injection q0 with q0 _
  subst q0
  obtain ⟨e1, q1, _, _⟩ := DataW.trod_int Tryz.underlying3 h1
  injection q1 with q1 _
  subst q1
  obtain ⟨e2, q2, _, _⟩ := DataW.trod_int Tryz.underlying3 h2
  injection q2 with q2 _
  subst q2
  obtain ⟨ak, aa, ab, ao0, ao1, ao2, ao3, aA, an, ac, axs, aq, ar⟩ := open_ask h3
  injection aq with g0 aq
  injection aq with g1 aq
  injection aq with g2 aq
  injection aq with g3 aq
  injection aq with g4 aq
  injection aq with g5 aq
  injection aq with g6 aq
  injection aq with g7 aq
  subst g0 g1 g2 g3 g4 g5 g6 g7
  obtain ⟨o4, r4, t4, z4, q4⟩ := open_op h4
  injection q4 with g0 q4
  injection q4 with g1 q4
  injection q4 with g2 q4
  injection q4 with g3 q4
  subst g0 g1 g2 g3
  obtain ⟨A5, n5, p5, q5, _, _⟩ := slice_cell Tryz.underlying30 h5
  subst q5
  obtain ⟨xs5, lx5, gx5, rx5, cx5, mx5⟩ := open_rows (α := (Int × Bool)) resL 2 (by omega) (fun _ => True) Tryz.underlying30 (by kernel_rfl) (fun f cs x hx => open_res hx) h5
  obtain ⟨A6, n6, p6, q6, _, _⟩ := slice_cell Tryz.underlying23 h6
  subst q6
  obtain ⟨xs6, lx6, gx6, rx6, cx6, mx6⟩ := open_rows (α := Int) intL1 1 (by omega) (fun _ => True) Tryz.underlying23 (by kernel_rfl) (fun f cs x hx => open_int1 hx) h6
  obtain ⟨A7, n7, p7, q7, _, _⟩ := slice_cell Tryz.underlying31 h7
  subst q7
  obtain ⟨xs7, lx7, gx7, rx7, cx7, mx7⟩ := open_rows (α := (Int × Int)) pairL 2 (by omega) (fun _ => True) Tryz.underlying31 (by kernel_rfl) (fun f cs x hx => open_pair hx) h7
  obtain ⟨e8, q8, _, _⟩ := DataW.trod_int Tryz.underlying3 h8
  injection q8 with q8 _
  subst q8
  rw [intL1_is] at rx6
  exact ⟨⟨e0, e1, e2, ak, aa, ab, ao0, ao1, ao2, ao3, aA, an, ac, o4, r4, t4, z4, A5, n5, p5, A6, n6, p6, A7, n7, p7, e8⟩, axs, xs6, xs5, xs7, rfl, ar, rx5, lx5, ⟨rx6, lx6, Nat.le_trans cx6 mx6⟩, rx7, lx7⟩
end
end Go.Proofs.YtgaopcbjhepklaaGreat
/- SeatGoes, from its arguments. -/
namespace Go.Proofs.YtgaopcbjhepklaaGreat
open Go.RowKit
set_option linter.unusedVariables false
def CodeP.val (c : CodeP) : Value := .agg c.l.toArray
def SeP.val (s : SeP) : Value := .agg s.l.toArray
def FrP.val (f : FrP) : Value := .agg f.l.toArray
def IsCode (w : World) (c : CodeP) : Prop := ∃ zs, CodeRd w c zs
def IsSeat (w : World) (s : SeP) : Prop := ∃ qs ys rs gs, SeRd w s qs ys rs gs
theorem goes_any {c : CodeP} {s : SeP} {f : FrP} {w : World} (h0 : IsCode w c) (h1 : IsSeat w s) (h2 : FrRd w f) :
    Calls Tryz.prog 3 #[c.val, s.val, f.val] w fun e w' => e = .returned (.bool true) ∧ Below w.heap.size w w' := by
  obtain ⟨zs, h0⟩ := h0
  obtain ⟨qs, ys, rs, gs, h1⟩ := h1
  exact calls_law fun K Z hk => goes_vc h0 h2 h1 hk
end Go.Proofs.YtgaopcbjhepklaaGreat
