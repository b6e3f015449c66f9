/- A frame that goes on: its copy. -/
import Derived.Test.YtgaopcbjhepklaaGreatZf
namespace Go.Proofs.YtgaopcbjhepklaaGreat
open Go.RowKit
set_option linter.unusedSimpArgs false
set_option linter.unusedVariables false
set_option maxRecDepth 100000
section
variable {wA w0 : World} {X : Nat → Prop} {M : EL} {K : Value → Ctx → Prop} {Z : PanK}
theorem kidL_one : ∀ (l : List KidP), ∀ u ∈ kidL l, u.oneCell' = true
  | [], u, h => by cases h
  | k :: l, u, h => by
    simp only [kidL, List.mem_cons] at h
    rcases h with rfl | rfl | h
    · rfl
    · rfl
    · exact kidL_one l u h
theorem OldI.nil {n c : Nat} {xs : List Int} (h : OldI wA none n c xs) : n = 0 ∧ xs = [] := by
  have : is xs = [] := by
    rcases h.rd with h | ⟨_, _, h, _⟩
    · exact h
    · cases h
  have e : xs = [] := by simpa [is] using this
  exact ⟨by have := h.len; rw [e] at this; simpa using this, e⟩
theorem OldK.nil {n c : Nat} {xs : List KidP} (h : OldK wA none n c xs) : n = 0 ∧ xs = [] := by
  have : kidL xs = [] := by
    rcases h.rd with h | ⟨_, _, h, _⟩
    · exact h
    · cases h
  have e : xs = [] := by
    cases xs with
    | nil => rfl
    | cons k l => simp [kidL] at this
  exact ⟨by have := h.len; rw [e] at this; simpa using this, e⟩
set_option maxHeartbeats 4000000 in
theorem cloneI_vc {A : Option Addr} {n c : Nat} {xs : List Int} (h : OldI wA A n c xs) (hk : ∀ A' c', n ≤ c' → (0 < c' → ∃ b, A' = some ⟨b, 0, none⟩) → K (.slice A' n c') (CtxA wA w0 X ((.slice A' n c', .row 3 1 (is xs)) :: M))) : CallVC Tryz.prog (CtxA wA w0 X M) 74 #[.slice A n c] K Z := by
  refine it74 (by rfl) ?_
  intro w2 X2
  conv => whnf
  refine semNil el23.sl ?_
  cases A with
  | none =>
    conv => whnf
    obtain ⟨rfl, rfl⟩ := h.nil
    exact RetT.imp (K := K) _ (Imp.nil M none 3 1) (hk none 0 (Nat.le_refl _) (fun h => absurd h (by omega)))
  | some a =>
    conv => whnf
    refine bsA el23 (by rfl) ?_
    conv => whnf
    refine ⟨by rfl, fun bl => ?_⟩
    conv => whnf
    refine app0I xs (SrcA.old el23 h.rd (by have := h.len; simp; omega) (is_one _)) rfl (by have := h.sm; omega) ?_
    intro A' c' hc' hA'
    conv => whnf
    exact RetT.drop (K := K) _ (List.Sublist.cons_cons _ (List.Sublist.cons _ (List.Sublist.refl _))) (hk A' c' hc' hA')
set_option maxHeartbeats 4000000 in
theorem cloneK_vc {A : Option Addr} {n c : Nat} {xs : List KidP} (h : OldK wA A n c xs) (hk : ∀ A' c', n ≤ c' → (0 < c' → ∃ b, A' = some ⟨b, 0, none⟩) → K (.slice A' n c') (CtxA wA w0 X ((.slice A' n c', .row 67 2 (kidL xs)) :: M))) : CallVC Tryz.prog (CtxA wA w0 X M) 90 #[.slice A n c] K Z := by
  refine it90 (by rfl) ?_
  intro w2 X2
  conv => whnf
  refine semNil el34.sl ?_
  cases A with
  | none =>
    conv => whnf
    obtain ⟨rfl, rfl⟩ := h.nil
    exact RetT.imp (K := K) _ (Imp.nil M none 67 2) (hk none 0 (Nat.le_refl _) (fun h => absurd h (by omega)))
  | some a =>
    conv => whnf
    refine bsA el34 (by rfl) ?_
    conv => whnf
    refine ⟨by rfl, fun bl => ?_⟩
    conv => whnf
    refine app0 el34 (SrcA.old el34 h.rd (by rw [kidL_length]; have := h.len; omega) (kidL_one _)) (by have := h.sm; omega) ?_
    intro A' c' hc' hA'
    conv => whnf
    exact RetT.drop (K := K) _ (List.Sublist.cons_cons _ (List.Sublist.cons _ (List.Sublist.refl _))) (hk A' c' hc' hA')
/-- rows of a copy -/
def rowsF (f : FrP) (Ap : Option Addr) (cp : Nat) (Al : Option Addr) (cl : Nat) (As : Option Addr) (cs : Nat) (Ak : Option Addr) (ck : Nat) (M : EL) : EL :=
  (.slice Ak f.nk ck, .row 67 2 (kidL f.kids)) :: (.slice As f.ns cs, .row 3 1 (is f.stk)) :: (.slice Al f.nl cl, .row 3 1 (is f.loc)) :: (.slice Ap f.np cp, .row 3 1 (is f.path)) :: M
structure Caps (f : FrP) (Ap : Option Addr) (cp : Nat) (Al : Option Addr) (cl : Nat) (As : Option Addr) (cs : Nat) (Ak : Option Addr) (ck : Nat) : Prop where
  hcp : f.np ≤ cp
  hAp : 0 < cp → ∃ b, Ap = some ⟨b, 0, none⟩
  hcl : f.nl ≤ cl
  hAl : 0 < cl → ∃ b, Al = some ⟨b, 0, none⟩
  hcs : f.ns ≤ cs
  hAs : 0 < cs → ∃ b, As = some ⟨b, 0, none⟩
  hck : f.nk ≤ ck
  hAk : 0 < ck → ∃ b, Ak = some ⟨b, 0, none⟩
set_option maxHeartbeats 4000000 in
theorem clone_vc {f : FrP} (hf : FrOk wA f) (hk : ∀ Ap cp Al cl As cs Ak ck, Caps f Ap cp Al cl As cs Ak ck → K (.agg { f with Ap := Ap, cp := cp, Al := Al, cl := cl, As := As, cs := cs, Ak := Ak, ck := ck : FrP }.l.toArray) (CtxA wA w0 X (rowsF f Ap cp Al cl As cs Ak ck M))) : CallVC Tryz.prog (CtxA wA w0 X M) 54 #[.agg f.l.toArray] K Z := by
  refine it54 (by rfl) ?_
  intro w2 X2
  conv => whnf
  refine cloneI_vc hf.path fun Ap cp h1 h2 => ?_
  conv => whnf
  refine cloneI_vc hf.loc fun Al cl h3 h4 => ?_
  conv => whnf
  refine cloneI_vc hf.stk fun As cs h5 h6 => ?_
  conv => whnf
  refine cloneK_vc hf.kids fun Ak ck h7 h8 => ?_
  conv => whnf
  exact RetT.drop (K := K) _ (List.Sublist.refl _) (hk Ap cp Al cl As cs Ak ck ⟨h1, h2, h3, h4, h5, h6, h7, h8⟩)
end
end Go.Proofs.YtgaopcbjhepklaaGreat
