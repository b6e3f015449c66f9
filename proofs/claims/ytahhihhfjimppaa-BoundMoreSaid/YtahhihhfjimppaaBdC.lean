/- the document's Of: plain part -/
import Derived.Test.YtahhihhfjimppaaBdB
namespace Go.Proofs.Ytahhihhfjimppaa
open Go.RowKit
set_option linter.unusedSimpArgs false
set_option linter.unusedVariables false
set_option maxRecDepth 100000

namespace S
/-- what a round of Of leaves of a fork -/
def fe (e : List Nat) (a b c d : Nat) : List Nat := if plc (beh (beh e a b) b c) d < 0 then beh (beh (beh e a b) b c) c d else beh (beh e a b) b c
def fh (e h : List Nat) (a b c d : Nat) : List Nat := if plc (beh (beh e a b) b c) d < 0 then beh (beh (beh h a c) c b) b d else beh (beh h a c) c b
theorem plc_neg {l : List Nat} {x : Nat} : plc l x < 0 ↔ x ∉ l := by
  unfold plc
  by_cases h : x ∈ l
  · rw [if_pos h]; simp [h]
  · rw [if_neg h]; simp [h]
theorem ords_fork {s : State} {e h : List Nat} (hg : s.Good) (ho : Ords s e h) (hj : s.last.2 = 0) :
    Ords (s.turn 1) (fe e s.last.1 s.n (s.n + 1) (s.n + 2)) (fh e h s.last.1 s.n (s.n + 1) (s.n + 2)) := by
  have hA := hg.last.1
  have t : s.turn 1 = ⟨put1 (put1 (put1 s.E s.last.1 s.n) s.n (s.n + 1)) (s.n + 1) (s.n + 2), put1 (put1 (put1 s.H s.last.1 (s.n + 1)) (s.n + 1) s.n) s.n (s.n + 2), s.ts.set (s.ts.length - 1) (s.n + 1, s.n + 2) ++ [(s.n, 0)], s.n + 3⟩ := by
    unfold State.turn
    rw [if_pos rfl, if_pos hj]
    rfl
  rw [t]
  generalize s.last.1 = a at *
  generalize hn : s.n = n at *
  have ae := (ho.me a).2 (by omega)
  have ah := (ho.mh a).2 (by omega)
  have e1 : n ∉ e := by rw [ho.me]; omega
  have m1 : ∀ x, x ∈ ins e a n ↔ x < n ∨ x = n := fun x => by rw [mem_ins ae, ho.me, hn]
  have E1 := ho.ce.put ae e1
  have e2 : n + 1 ∉ ins e a n := by rw [m1]; omega
  have a2 : n ∈ ins e a n := by rw [m1]; omega
  have m2 : ∀ x, x ∈ ins (ins e a n) n (n + 1) ↔ x < n ∨ x = n ∨ x = n + 1 := fun x => by rw [mem_ins a2, m1]; omega
  have E2 := E1.put a2 e2
  have e3 : n + 2 ∉ ins (ins e a n) n (n + 1) := by rw [m2]; omega
  have a3 : n + 1 ∈ ins (ins e a n) n (n + 1) := by rw [m2]; omega
  have m3 : ∀ x, x ∈ ins (ins (ins e a n) n (n + 1)) (n + 1) (n + 2) ↔ x < n + 3 := fun x => by rw [mem_ins a3, m2]; omega
  have E3 := E2.put a3 e3
  have h1 : n + 1 ∉ h := by rw [ho.mh]; omega
  have k1 : ∀ x, x ∈ ins h a (n + 1) ↔ x < n ∨ x = n + 1 := fun x => by rw [mem_ins ah, ho.mh, hn]
  have H1 := ho.ch.put ah h1
  have h2 : n ∉ ins h a (n + 1) := by rw [k1]; omega
  have b2 : n + 1 ∈ ins h a (n + 1) := by rw [k1]; omega
  have k2 : ∀ x, x ∈ ins (ins h a (n + 1)) (n + 1) n ↔ x < n ∨ x = n ∨ x = n + 1 := fun x => by rw [mem_ins b2, k1]; omega
  have H2 := H1.put b2 h2
  have h3 : n + 2 ∉ ins (ins h a (n + 1)) (n + 1) n := by rw [k2]; omega
  have b3 : n ∈ ins (ins h a (n + 1)) (n + 1) n := by rw [k2]; omega
  have k3 : ∀ x, x ∈ ins (ins (ins h a (n + 1)) (n + 1) n) n (n + 2) ↔ x < n + 3 := fun x => by rw [mem_ins b3, k2]; omega
  have H3 := H2.put b3 h3
  have be : beh (beh e a n) n (n + 1) = ins (ins e a n) n (n + 1) := by rw [beh_ins ho.ce.nodup ae, beh_ins E1.nodup a2]
  have bh : beh (beh h a (n + 1)) (n + 1) n = ins (ins h a (n + 1)) (n + 1) n := by rw [beh_ins ho.ch.nodup ah, beh_ins H1.nodup b2]
  have c1 : plc (beh (beh e a n) n (n + 1)) (n + 2) < 0 := by rw [be]; exact plc_neg.2 e3
  unfold fe fh
  rw [if_pos c1, if_pos c1, be, bh, beh_ins E2.nodup a3, beh_ins H2.nodup b3]
  refine ⟨E3, H3, m3, k3, ?_, ?_⟩
  · rw [ins_length a3, ins_length a2, ins_length ae, ho.le]; simp; omega
  · rw [ins_length b3, ins_length b2, ins_length ah, ho.lh]; simp; omega
theorem ords_more {s : State} {e h : List Nat} (hg : s.Good) (ho : Ords s e h) (hj : s.last.2 ≠ 0) :
    Ords (s.turn 1) (fe e s.last.1 s.n (s.n + 1) s.last.2) (fh e h s.last.1 s.n (s.n + 1) s.last.2) := by
  have hA := hg.last.1
  have hD := hg.last.2
  have t : s.turn 1 = ⟨put1 (put1 s.E s.last.1 s.n) s.n (s.n + 1), put1 (put1 s.H s.last.1 (s.n + 1)) (s.n + 1) s.n, s.ts.set (s.ts.length - 1) (s.n + 1, s.last.2) ++ [(s.n, 0)], s.n + 2⟩ := by
    unfold State.turn
    rw [if_pos rfl, if_neg hj]
    rfl
  rw [t]
  generalize s.last.2 = d at *
  generalize s.last.1 = a at *
  generalize hn : s.n = n at *
  have ae := (ho.me a).2 (by omega)
  have ah := (ho.mh a).2 (by omega)
  have e1 : n ∉ e := by rw [ho.me]; omega
  have m1 : ∀ x, x ∈ ins e a n ↔ x < n ∨ x = n := fun x => by rw [mem_ins ae, ho.me, hn]
  have E1 := ho.ce.put ae e1
  have e2 : n + 1 ∉ ins e a n := by rw [m1]; omega
  have a2 : n ∈ ins e a n := by rw [m1]; omega
  have m2 : ∀ x, x ∈ ins (ins e a n) n (n + 1) ↔ x < n + 2 := fun x => by rw [mem_ins a2, m1]; omega
  have E2 := E1.put a2 e2
  have h1 : n + 1 ∉ h := by rw [ho.mh]; omega
  have k1 : ∀ x, x ∈ ins h a (n + 1) ↔ x < n ∨ x = n + 1 := fun x => by rw [mem_ins ah, ho.mh, hn]
  have H1 := ho.ch.put ah h1
  have h2 : n ∉ ins h a (n + 1) := by rw [k1]; omega
  have b2 : n + 1 ∈ ins h a (n + 1) := by rw [k1]; omega
  have k2 : ∀ x, x ∈ ins (ins h a (n + 1)) (n + 1) n ↔ x < n + 2 := fun x => by rw [mem_ins b2, k1]; omega
  have H2 := H1.put b2 h2
  have be : beh (beh e a n) n (n + 1) = ins (ins e a n) n (n + 1) := by rw [beh_ins ho.ce.nodup ae, beh_ins E1.nodup a2]
  have bh : beh (beh h a (n + 1)) (n + 1) n = ins (ins h a (n + 1)) (n + 1) n := by rw [beh_ins ho.ch.nodup ah, beh_ins H1.nodup b2]
  have c1 : ¬ plc (beh (beh e a n) n (n + 1)) d < 0 := by rw [be, plc_neg, Decidable.not_not, m2]; omega
  unfold fe fh
  rw [if_neg c1, if_neg c1, be, bh]
  refine ⟨E2, H2, m2, k2, ?_, ?_⟩
  · rw [ins_length a2, ins_length ae, ho.le]; simp; omega
  · rw [ins_length b2, ins_length ah, ho.lh]; simp; omega
/-- a fork that may come: its numbers, and the lists behind it -/
theorem fork_ords {s : State} {e h : List Nat} (hg : s.Good) (ho : Ords s e h) {f : Five} (hk : s.ok f) (h1 : f.1 = 1) :
    ∃ a b c d : Nat, f = (1, (a : Int), (b : Int), (c : Int), (d : Int)) ∧ a ≤ s.n + 2 ∧ b ≤ s.n + 2 ∧ c ≤ s.n + 2 ∧ d ≤ s.n + 2 ∧ Ords (s.turn 1) (fe e a b c d) (fh e h a b c d) := by
  have hl := hg.last
  rcases ok_inv hk with h2 | ⟨_, _, h2⟩ | ⟨_, h2⟩
  · by_cases hj : s.last.2 = 0
    · rw [if_pos hj] at h2
      exact ⟨s.last.1, s.n, s.n + 1, s.n + 2, h2, by omega, by omega, by omega, by omega, ords_fork hg ho hj⟩
    · rw [if_neg hj] at h2
      exact ⟨s.last.1, s.n, s.n + 1, s.last.2, h2, by omega, by omega, by omega, by omega, ords_more hg ho hj⟩
  · subst h2; simp at h1
  · subst h2; simp at h1
theorem beh_le3 (l : List Nat) (a b c d : Nat) : (beh (beh l a b) c d).length ≤ 4 * l.length := by
  have h1 := beh_length_le l a b
  have h2 := beh_length_le (beh l a b) c d
  omega
theorem mayN_cases (l : List Five) : (run init l = none ∧ mayN l = -1) ∨ ∃ s, run init l = some s ∧ mayN l = (s.n : Int) := by
  unfold mayN
  cases h : run init l with
  | none => exact .inl ⟨rfl, rfl⟩
  | some s => exact .inr ⟨s, rfl, rfl⟩
/-- the pairs of places -/
def prs (e h : List Nat) (n : Nat) : List (Nat × Nat) := (List.range n).map fun x => (e.idxOf x, h.idxOf x)
theorem prs_places {s : State} {e h : List Nat} (hg : s.Good) (ho : Ords s e h) : prs e h s.n = s.places := by
  refine List.ext_getElem (by rw [hg.places_length]; simp [prs]) fun i h1 h2 => ?_
  have hi : i < s.n := by rw [hg.places_length] at h2; exact h2
  have := ho.places hg hi
  rw [List.getD_eq_getElem?_getD, List.getElem?_eq_getElem h2, Option.getD_some] at this
  rw [this]
  simp [prs]
theorem prs_succ (e h : List Nat) (n : Nat) : prs e h (n + 1) = prs e h n ++ [(e.idxOf n, h.idxOf n)] := by simp [prs, List.range_succ]
theorem plc_in {l : List Nat} {x : Nat} (h : x ∈ l) : plc l x = (l.idxOf x : Int) := by unfold plc; rw [if_pos h]
end S
end Go.Proofs.Ytahhihhfjimppaa
