/- walks: Of -/
import Derived.Test.YtahhihhfjimppaaSpC
import Derived.Test.YtahhihhfjimppaaSpOf
namespace Go.Proofs.Ytahhihhfjimppaa
open Go.RowKit
set_option linter.unusedSimpArgs false
set_option linter.unusedVariables false
set_option maxRecDepth 100000

/-- splits as cells -/
def fcs (l : List S.Five) : List Value := l.flatMap fun f => [Value.int .i64 f.1, Value.int .i64 f.2.1, Value.int .i64 f.2.2.1, Value.int .i64 f.2.2.2.1, Value.int .i64 f.2.2.2.2]
theorem fcs_cons (f : S.Five) (l : List S.Five) : fcs (f :: l) = Value.int .i64 f.1 :: Value.int .i64 f.2.1 :: Value.int .i64 f.2.2.1 :: Value.int .i64 f.2.2.2.1 :: Value.int .i64 f.2.2.2.2 :: fcs l := rfl
theorem fcs_length (l : List S.Five) : (fcs l).length = l.length * 5 := by
  induction l with
  | nil => rfl
  | cons f l ih => rw [fcs_cons]; simp only [List.length_cons, ih]; omega
theorem fcs_at (l : List S.Five) (k : Nat) (h : k < l.length) : (fcs l)[k * 5]? = some (.int .i64 l[k].1) ∧ (fcs l)[k * 5 + 1]? = some (.int .i64 l[k].2.1) ∧ (fcs l)[k * 5 + 2]? = some (.int .i64 l[k].2.2.1) ∧
    (fcs l)[k * 5 + 3]? = some (.int .i64 l[k].2.2.2.1) ∧ (fcs l)[k * 5 + 4]? = some (.int .i64 l[k].2.2.2.2) := by
  induction l generalizing k with
  | nil => simp at h
  | cons f l ih =>
    rw [fcs_cons]
    cases k with
    | zero => exact ⟨rfl, rfl, rfl, rfl, rfl⟩
    | succ k =>
      have := ih k (by simpa using h)
      rw [show (k + 1) * 5 = k * 5 + 1 + 1 + 1 + 1 + 1 by omega]
      simp only [List.getElem?_cons_succ, List.getElem_cons_succ]
      exact this

section
variable {C : Nat → Prop} {w w' : World} {bx g cap : Nat}
theorem Ch.fr {L : List Nat} (h : Ch w bx g cap L) (hf : Fr C w w') (h1 : ¬ C bx) (h2 : ¬ C g) : Ch w' bx g cap L := ⟨h.box.fr hf h1, h.row.fr hf h2, h.ne⟩
theorem St.fr {ts : List (Nat × Nat)} {n : Nat} (h : St w bx g cap ts n) (hf : Fr C w w') (h1 : ¬ C bx) (h2 : ¬ C g) : St w' bx g cap ts n := ⟨h.box.fr hf h1, h.row.fr hf h2, h.ne⟩
end

/-- the two chains and the state in the world -/
structure OfI (w wr : World) (b4 b5 b8 : Nat) (E H : List Nat) (ts : List (Nat × Nat)) (n gE cE gH cH gT cT : Nat) : Prop where
  e : Ch wr b4 gE cE E
  h : Ch wr b5 gH cH H
  t : St wr b8 gT cT ts n
  ne : gE ≠ gH ∧ gE ≠ gT ∧ gH ≠ gT ∧ gE ≠ b5 ∧ gE ≠ b8 ∧ gH ≠ b4 ∧ gH ≠ b8 ∧ gT ≠ b4 ∧ gT ≠ b5
  nb : b4 ≠ b5 ∧ b4 ≠ b8 ∧ b5 ≠ b8
  new : w.heap.size ≤ gE ∧ w.heap.size ≤ gH ∧ w.heap.size ≤ gT ∧ w.heap.size ≤ b4 ∧ w.heap.size ≤ b5 ∧ w.heap.size ≤ b8
  below : Below w.heap.size w wr
section
variable {w wr wr' : World} {b4 b5 b8 : Nat} {E H : List Nat} {ts : List (Nat × Nat)} {n gE cE gH cH gT cT : Nat}
theorem OfI.on (I : OfI w wr b4 b5 b8 E H ts n gE cE gH cH gT cT) (hb : Below wr.heap.size wr wr') : OfI w wr' b4 b5 b8 E H ts n gE cE gH cH gT cT := by
  have hf := Fr.of_below hb (fun _ => False)
  exact ⟨I.e.fr hf (fun h => h) (fun h => h), I.h.fr hf (fun h => h) (fun h => h), I.t.fr hf (fun h => h) (fun h => h), I.ne, I.nb, I.new, I.below.trans (hb.mono I.below.size)⟩
theorem OfI.lts (I : OfI w wr b4 b5 b8 E H ts n gE cE gH cH gT cT) : gE < wr.heap.size ∧ gH < wr.heap.size ∧ gT < wr.heap.size ∧ b4 < wr.heap.size ∧ b5 < wr.heap.size ∧ b8 < wr.heap.size :=
  ⟨I.e.row.lt, I.h.row.lt, I.t.row.lt, I.e.box.lt, I.h.box.lt, I.t.box.lt⟩
theorem ne_new {a b N : Nat} (h : N ≤ a) (hb : b < N) : a ≠ b := by omega
theorem ne_new' {a b N : Nat} (h : N ≤ a) (hb : b < N) : b ≠ a := by omega
theorem OfI.putE (I : OfI w wr b4 b5 b8 E H ts n gE cE gH cH gT cT) {E' : List Nat} {g' c' : Nat} (hc : Ch wr' b4 g' c' E') (hf : Fr (fun k => k = b4 ∨ k = gE) wr wr') (hg : g' = gE ∨ wr.heap.size ≤ g') :
    OfI w wr' b4 b5 b8 E' H ts n g' c' gH cH gT cT := by
  obtain ⟨h1, h2, h3, h4, h5, h6, h7, h8, h9⟩ := I.ne
  obtain ⟨k1, k2, k3⟩ := I.nb
  obtain ⟨n1, n2, n3, n4, n5, n6⟩ := I.new
  obtain ⟨l1, l2, l3, l4, l5, l6⟩ := I.lts
  have hs := I.below.size
  have hb := I.below.trans (hf.below hs (fun k hk => by rcases hk with rfl | rfl <;> assumption))
  have e1 := I.h.fr hf (fun h => by rcases h with h | h; exact k1 h.symm; exact h4 h.symm) (fun h => by rcases h with h | h; exact h6 h; exact h1 h.symm)
  have e2 := I.t.fr hf (fun h => by rcases h with h | h; exact k2 h.symm; exact h5 h.symm) (fun h => by rcases h with h | h; exact h8 h; exact h2 h.symm)
  rcases hg with rfl | hg
  · exact ⟨hc, e1, e2, I.ne, I.nb, I.new, hb⟩
  · exact ⟨hc, e1, e2, ⟨ne_new hg l2, ne_new hg l3, h3, ne_new hg l5, ne_new hg l6, h6, h7, h8, h9⟩, I.nb, ⟨Nat.le_trans hs hg, n2, n3, n4, n5, n6⟩, hb⟩
theorem OfI.putH (I : OfI w wr b4 b5 b8 E H ts n gE cE gH cH gT cT) {E' : List Nat} {g' c' : Nat} (hc : Ch wr' b5 g' c' E') (hf : Fr (fun k => k = b5 ∨ k = gH) wr wr') (hg : g' = gH ∨ wr.heap.size ≤ g') :
    OfI w wr' b4 b5 b8 E E' ts n gE cE g' c' gT cT := by
  obtain ⟨h1, h2, h3, h4, h5, h6, h7, h8, h9⟩ := I.ne
  obtain ⟨k1, k2, k3⟩ := I.nb
  obtain ⟨n1, n2, n3, n4, n5, n6⟩ := I.new
  obtain ⟨l1, l2, l3, l4, l5, l6⟩ := I.lts
  have hs := I.below.size
  have hb := I.below.trans (hf.below hs (fun k hk => by rcases hk with rfl | rfl <;> assumption))
  have e1 := I.e.fr hf (fun h => by rcases h with h | h; exact k1 h; exact h6 h.symm) (fun h => by rcases h with h | h; exact h4 h; exact h1 h)
  have e2 := I.t.fr hf (fun h => by rcases h with h | h; exact k3 h.symm; exact h7 h.symm) (fun h => by rcases h with h | h; exact h9 h; exact h3 h.symm)
  rcases hg with rfl | hg
  · exact ⟨e1, hc, e2, I.ne, I.nb, I.new, hb⟩
  · exact ⟨e1, hc, e2, ⟨ne_new' hg l1, h2, ne_new hg l3, h4, h5, ne_new hg l4, ne_new hg l6, h8, h9⟩, I.nb, ⟨n1, Nat.le_trans hs hg, n3, n4, n5, n6⟩, hb⟩
theorem OfI.turned (I : OfI w wr b4 b5 b8 E H ts n gE cE gH cH gT cT) {ts' : List (Nat × Nat)} {n' g' c' : Nat} (hc : St wr' b8 g' c' ts' n') (hf : Fr (fun k => k = b8 ∨ k = gT) wr wr') (hg : g' = gT ∨ wr.heap.size ≤ g') :
    OfI w wr' b4 b5 b8 E H ts' n' gE cE gH cH g' c' := by
  obtain ⟨h1, h2, h3, h4, h5, h6, h7, h8, h9⟩ := I.ne
  obtain ⟨k1, k2, k3⟩ := I.nb
  obtain ⟨n1, n2, n3, n4, n5, n6⟩ := I.new
  obtain ⟨l1, l2, l3, l4, l5, l6⟩ := I.lts
  have hs := I.below.size
  have hb := I.below.trans (hf.below hs (fun k hk => by rcases hk with rfl | rfl <;> assumption))
  have e1 := I.e.fr hf (fun h => by rcases h with h | h; exact k2 h; exact h8 h.symm) (fun h => by rcases h with h | h; exact h5 h; exact h2 h)
  have e2 := I.h.fr hf (fun h => by rcases h with h | h; exact k3 h; exact h9 h.symm) (fun h => by rcases h with h | h; exact h7 h; exact h3 h)
  rcases hg with rfl | hg
  · exact ⟨e1, e2, hc, I.ne, I.nb, I.new, hb⟩
  · exact ⟨e1, e2, hc, ⟨h1, ne_new' hg l1, ne_new' hg l2, h4, h5, h6, h7, ne_new hg l4, ne_new hg l5⟩, I.nb, ⟨n1, n2, Nat.le_trans hs hg, n4, n5, n6⟩, hb⟩
end
end Go.Proofs.Ytahhihhfjimppaa
