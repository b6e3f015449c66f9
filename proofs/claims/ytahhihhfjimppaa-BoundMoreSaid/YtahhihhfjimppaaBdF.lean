/- ranked: the plain model; a family of own rows; the map -/
import Derived.Test.YtahhihhfjimppaaBdE
import Derived.Maps.Own
import Derived.Maps.OwnOps
import Derived.Maps.Views
namespace Go.Proofs.Ytahhihhfjimppaa
open Go.RowKit
set_option linter.unusedSimpArgs false
set_option linter.unusedVariables false
set_option maxRecDepth 100000

namespace B
/-- what ranked has at a time: the strands, how many the last use of each has and itself, the uses by rank -/
structure RS where
  strands : List Nat
  most : Nat → Nat
  ranks : List (List Nat)
def init : RS := ⟨[], fun _ => 0, []⟩
def bestFrom (le : Nat → Nat → Bool) (most : Nat → Nat) (u : Nat) (l : List Nat) (r : Nat) : Nat := l.foldl (fun r s => if le s u then max r (most s) else r) r
def addAt (L : List (List Nat)) (r i : Nat) : List (List Nat) := if r = L.length then L ++ [[i]] else L.set r (L.getD r [] ++ [i])
def RS.rank (le : Nat → Nat → Bool) (st : RS) (u : Nat) : Nat := bestFrom le st.most u st.strands 0
def RS.step (le : Nat → Nat → Bool) (st : RS) (i u : Nat) : RS :=
  ⟨if st.most u = 0 then st.strands ++ [u] else st.strands, fun x => if x = u then st.rank le u + 1 else st.most x, addAt st.ranks (st.rank le u) i⟩
def stN (le : Nat → Nat → Bool) (us : List Nat) : Nat → RS
  | 0 => init
  | k + 1 => (stN le us k).step le k (us.getD k 0)
theorem bestFrom_le {le : Nat → Nat → Bool} {most : Nat → Nat} {u N : Nat} (hm : ∀ x, most x ≤ N) : ∀ (l : List Nat) (r : Nat), r ≤ N → bestFrom le most u l r ≤ N := by
  intro l
  induction l with
  | nil => intro r h; exact h
  | cons s l ih =>
    intro r h
    show bestFrom le most u l (if le s u then max r (most s) else r) ≤ N
    apply ih
    have := hm s
    split <;> omega
theorem bestFrom_take {le : Nat → Nat → Bool} {most : Nat → Nat} {u : Nat} (l : List Nat) {k : Nat} (hk : k < l.length) : bestFrom le most u (l.take (k + 1)) 0 = if le l[k] u then max (bestFrom le most u (l.take k) 0) (most l[k]) else bestFrom le most u (l.take k) 0 := by
  unfold bestFrom
  rw [List.take_succ_eq_append_getElem hk, List.foldl_append]
  rfl
theorem addAt_length {L : List (List Nat)} {r i : Nat} : (addAt L r i).length = if r = L.length then L.length + 1 else L.length := by
  unfold addAt
  split <;> simp
/-- what holds at each time -/
structure RS.Okay (st : RS) (k : Nat) : Prop where
  most : ∀ x, st.most x ≤ st.ranks.length
  len : st.ranks.length ≤ k
  str : st.strands.length ≤ k
  rows : ∀ l ∈ st.ranks, l.length ≤ k
theorem okay_init : init.Okay 0 := ⟨fun _ => Nat.zero_le _, Nat.le_refl _, Nat.le_refl _, by simp [init]⟩
theorem RS.Okay.rank {st : RS} {k : Nat} (h : st.Okay k) (le : Nat → Nat → Bool) (u : Nat) : st.rank le u ≤ st.ranks.length := bestFrom_le h.most _ _ (Nat.zero_le _)
theorem RS.Okay.step {st : RS} {k : Nat} (h : st.Okay k) (le : Nat → Nat → Bool) (u : Nat) : (st.step le k u).Okay (k + 1) := by
  have hr := h.rank le u
  have hl := h.len
  have hs := h.str
  refine ⟨fun x => ?_, ?_, ?_, ?_⟩
  · show (if x = u then st.rank le u + 1 else st.most x) ≤ (addAt st.ranks (st.rank le u) k).length
    rw [addAt_length]
    have := h.most x
    split <;> split <;> omega
  · show (addAt st.ranks (st.rank le u) k).length ≤ k + 1
    rw [addAt_length]; split <;> omega
  · show (if st.most u = 0 then st.strands ++ [u] else st.strands).length ≤ k + 1
    split
    · simp; omega
    · omega
  · intro l hm
    have hm : l ∈ addAt st.ranks (st.rank le u) k := hm
    unfold addAt at hm
    split at hm
    · rcases List.mem_append.1 hm with h1 | h1
      · have := h.rows l h1; omega
      · rw [List.mem_singleton.1 h1]; simp
    · rename_i hne
      rcases List.mem_or_eq_of_mem_set hm with h1 | h1
      · have := h.rows l h1; omega
      · subst h1
        rw [List.getD_eq_getElem?_getD, List.getElem?_eq_getElem (by omega), Option.getD_some, List.length_append]
        have := h.rows _ (List.getElem_mem (show st.rank le u < st.ranks.length by omega))
        simp; omega
theorem stN_okay (le : Nat → Nat → Bool) (us : List Nat) : ∀ k, (stN le us k).Okay k
  | 0 => okay_init
  | k + 1 => (stN_okay le us k).step le _
end B

/-- rows of which no two lie in one block -/
def Dis (l : List Value) : Prop := ∀ i j (hi : i < l.length) (hj : j < l.length), i ≠ j → ∀ g, l[i].ownBlock = some g → l[j].ownBlock ≠ some g
/-- a family of rows of numbers of the call's own -/
structure Fam (w : World) (B : Nat) (vs : List Value) (L : List (List Nat)) : Prop where
  len : vs.length = L.length
  row : ∀ r (h : r < L.length), w.ownsRow B 3 1 (vs[r]'(by omega)) (L[r].length) (ns L[r])
  dis : Dis vs
section
variable {w w' : World} {B : Nat} {vs : List Value} {L : List (List Nat)}
theorem Fam.nil (w : World) (B : Nat) : Fam w B [] [] := ⟨rfl, fun r h => by simp at h, fun i j hi => by simp at hi⟩
theorem Fam.blk (h : Fam w B vs L) {r : Nat} (hr : r < vs.length) {g : Nat} (hg : vs[r].ownBlock = some g) : B ≤ g ∧ g < w.heap.size ∧ ∃ cur, w.heap[g]? = some (.cells cur 3 (0, 0)) := by
  have h1 := h.row r (by rw [← h.len]; exact hr)
  obtain ⟨h2, h3⟩ := h1.lt g hg
  refine ⟨h2, h3, ?_⟩
  rcases h1.2 with ⟨hv, _⟩ | ⟨g', cap, cur, hv, _, hc, _⟩
  · rw [hv] at hg; simp [Value.ownBlock] at hg
  · rw [hv] at hg
    simp [Value.ownBlock] at hg
    subst hg
    exact ⟨cur, hc⟩
theorem Fam.kept (h : Fam w B vs L) {row : Option Nat} (hg : w.grownBy w' row) (hn : ∀ r (hr : r < vs.length), vs[r].ownBlock = none ∨ vs[r].ownBlock ≠ row) : Fam w' B vs L :=
  ⟨h.len, fun r hr => (h.row r hr).kept hg (hn r (by rw [h.len]; exact hr)), h.dis⟩
theorem Fam.alloc (h : Fam w B vs L) (o : Obj) : Fam (w.alloc o) B vs L := ⟨h.len, fun r hr => (h.row r hr).alloc o, h.dis⟩
theorem Fam.push (h : Fam w B vs L) : Fam w B (vs ++ [.slice none 0 0]) (L ++ [[]]) := by
  have hl := h.len
  refine ⟨by simp [hl], fun r hr => ?_, ?_⟩
  · simp only [List.length_append, List.length_singleton] at hr
    by_cases hr2 : r < L.length
    · have h1 := h.row r hr2
      have e1 : (vs ++ [Value.slice none 0 0])[r]'(by simp; omega) = vs[r]'(by omega) := List.getElem_append_left (by omega)
      have e2 : (L ++ [[]])[r]'(by simp; omega) = L[r] := List.getElem_append_left hr2
      rw [e1, e2]
      exact h1
    · obtain rfl : r = L.length := by omega
      have e1 : (vs ++ [Value.slice none 0 0])[L.length]'(by simp; omega) = .slice none 0 0 := by simp [← hl]
      have e2 : (L ++ [[]])[L.length]'(by simp) = [] := by simp
      rw [e1, e2]
      exact World.ownsRow_nil _ _ _ _
  · intro i j hi hj hij g hg
    simp only [List.length_append, List.length_singleton] at hi hj
    by_cases hi2 : i < vs.length
    · rw [List.getElem_append_left hi2] at hg
      by_cases hj2 : j < vs.length
      · rw [List.getElem_append_left hj2]
        exact h.dis i j hi2 hj2 hij g hg
      · have : (vs ++ [Value.slice none 0 0])[j]'(by simp; omega) = .slice none 0 0 := by
          obtain rfl : j = vs.length := by omega
          simp
        rw [this]; simp [Value.ownBlock]
    · have : (vs ++ [Value.slice none 0 0])[i]'(by simp; omega) = .slice none 0 0 := by
        obtain rfl : i = vs.length := by omega
        simp
      rw [this] at hg; simp [Value.ownBlock] at hg
/-- one of the rows has grown -/
theorem Fam.app (h : Fam w B vs L) {r : Nat} (hr : r < L.length) {v' : Value} {x : Nat} {o : Obj} (hg : (w.alloc o).grownBy w' (vs[r]'(by have := h.len; omega)).ownBlock)
    (ho : w'.ownsRow B 3 1 v' (L[r].length + 1) (ns L[r] ++ [.int .i64 (x : Int)])) (hat : v'.ownBlock = (vs[r]'(by have := h.len; omega)).ownBlock ∨ v'.ownBlock = some (w.heap.size + 1)) :
    Fam w' B (vs.set r v') (L.set r (L[r] ++ [x])) := by
  have hl := h.len
  refine ⟨by simp [hl], fun i hi => ?_, ?_⟩
  · rw [List.length_set] at hi
    by_cases hir : i = r
    · subst hir
      simp only [List.getElem_set_self]
      rw [List.length_append, ns_append]
      exact ho
    · rw [List.getElem_set_ne (fun e => hir e.symm), List.getElem_set_ne (fun e => hir e.symm)]
      refine ((h.row i hi).alloc o).kept hg ?_
      cases hb : (vs[i]'(by omega)).ownBlock with
      | none => exact .inl rfl
      | some g => exact .inr (fun e => h.dis i r (by omega) (by omega) hir g hb e.symm)
  · intro i j hi hj hij g hgi
    rw [List.length_set] at hi hj
    have fresh : ∀ k (hk : k < vs.length), vs[k].ownBlock ≠ some (w.heap.size + 1) := fun k hk e => by
      have := (h.blk hk e).2.1
      omega
    by_cases hir : i = r
    · subst hir
      rw [List.getElem_set_self] at hgi
      rw [List.getElem_set_ne hij]
      rcases hat with e | e
      · rw [e] at hgi
        exact h.dis i j (by omega) (by omega) hij g hgi
      · rw [e] at hgi
        injection hgi with hgi
        subst hgi
        exact fresh j (by omega)
    · rw [List.getElem_set_ne (fun e => hir e.symm)] at hgi
      by_cases hjr : j = r
      · subst hjr
        rw [List.getElem_set_self]
        rcases hat with e | e
        · rw [e]; exact h.dis i j (by omega) (by omega) hij g hgi
        · rw [e]
          intro e2
          injection e2 with e2
          subst e2
          exact fresh i (by omega) hgi
      · rw [List.getElem_set_ne (fun e => hjr e.symm)]
        exact h.dis i j (by omega) (by omega) hij g hgi
end

theorem wf_small {s : Nat} (h : s ≤ 1000) : (Lit.int .i64 (s : Int)).wf = true := by
  have h1 : (0 : Int) ≤ s := by omega
  have h2 : (s : Int) ≤ 1000 := by omega
  have e1 : IntKind.i64.min = -9223372036854775808 := by decide
  have e2 : IntKind.i64.max = 9223372036854775807 := by decide
  simp only [Lit.wf, e1, e2, Bool.and_eq_true, decide_eq_true_eq]
  omega
/-- a map of numbers of the call's own, as a function: 0 where it has nothing -/
def MapF (w : World) (b n : Nat) (f : Nat → Nat) : Prop := ∃ D : DataW Unit, w.ownsMap Try.prog 3 (plainElem Try.prog 3) b n D ∧ Go.Maps.IsMap D ∧ ∀ s : Nat, s ≤ 1000 → D.atKey (.int .i64 (s : Int)) (.lit (.int .i64 0)) = .lit (.int .i64 (f s : Int))
theorem MapF.made (w : World) : MapF (w.alloc (.map #[] 0)) w.heap.size 0 (fun _ => 0) := ⟨.map [], World.ownsMap_made w _ _ _, ⟨[], rfl⟩, fun _ _ => rfl⟩
theorem MapF.kept {w w' : World} {b n : Nat} {f : Nat → Nat} {row : Option Nat} (h : MapF w b n f) (hg : w.grownBy w' row) (hne : some b ≠ row) : MapF w' b n f := by
  obtain ⟨D, h1, h2, h3⟩ := h
  exact ⟨D, h1.kept hg hne, h2, h3⟩
theorem MapF.lt {w : World} {b n : Nat} {f : Nat → Nat} (h : MapF w b n f) : b < w.heap.size := by obtain ⟨D, h1, _⟩ := h; exact h1.lt
theorem MapF.blk {w : World} {b n : Nat} {f : Nat → Nat} (h : MapF w b n f) : ∃ es c, w.heap[b]? = some (.map es c) := by
  obtain ⟨D, ⟨es, c, h1, _⟩, _⟩ := h
  exact ⟨es, c, h1⟩
theorem zero_int (w : World) : (zeroValue 3).run Try.prog w = .ok (.int .i64 0) w := by
  have hz : Try.t3.zero = some (.int .i64 0) := by kernel_rfl
  simp [zeroValue, go_sem, hz]
theorem MapF.look {w : World} {b n : Nat} {f : Nat → Nat} (h : MapF w b n f) {s : Nat} (hs : s ≤ 1000) : (Instr.lookup 82 (.map (some b)) (.int .i64 (s : Int)) false).run Try.prog w = .ok (.int .i64 (f s : Int)) w := by
  obtain ⟨D, h1, h2, h3⟩ := h
  obtain ⟨c, hrun, hat, _⟩ := h1.lookup_int (t := 82) (e := 3) (q := .i64) (Go.Maps.int_keyed Try.underlying3) Try.underlying82 Try.underlying3 (zero_int w) (Go.Maps.keyOf_int_mk Try.underlying3 (wf_small hs))
  rw [h3 s hs] at hat
  injection hat with hat
  injection hat with _ hat
  rw [hrun, hat]
theorem MapF.upd {w : World} {b n : Nat} {f : Nat → Nat} (h : MapF w b n f) (hn : n < 1000) {s v : Nat} (hs : s ≤ 1000) (hv : v ≤ 1000) :
    ∃ w', (Instr.mapUpdate 82 (.map (some b)) (.int .i64 (s : Int)) (.int .i64 (v : Int))).run Try.prog w = .ok () w' ∧ MapF w' b (n + 1) (fun x => if x = s then v else f x) ∧ w.grownBy w' (some b) := by
  obtain ⟨D, h1, h2, h3⟩ := h
  obtain ⟨w', hrun, ho, hg⟩ := h1.update (t := 82) (e := 3) (Go.Maps.int_keyed Try.underlying3) Try.underlying82 (by simp only [maxLen]; omega) (Go.Maps.keyOf_int_mk Try.underlying3 (wf_small hs)) (plainElem_int Try.underlying3 (wf_small hv))
  refine ⟨w', hrun, ⟨_, ho, ?_, fun x hx => ?_⟩, hg⟩
  · obtain ⟨es, rfl⟩ := h2
    exact ⟨_, rfl⟩
  · by_cases e : x = s
    · subst e
      show _ = DataW.lit (Lit.int .i64 ((if x = x then v else f x : Nat) : Int))
      rw [if_pos rfl]
      exact Go.Maps.atKey_put_same h2 (by trivial) _ _
    · show _ = DataW.lit (Lit.int .i64 ((if x = s then v else f x : Nat) : Int))
      rw [if_neg e]
      rw [Go.Maps.atKey_put_other (by intro h; injection h with _ h; omega)]
      exact h3 x hx
end Go.Proofs.Ytahhihhfjimppaa
