/- Words for memory that the proofs of this seat share: a slice value that reads as a list of cells; what is kept over steps. -/
import Derived.WalkKit
import Derived.Maps.AppendAt
import Derived.Deep.AppendSrc
import Derived.Deep.Draws
import Derived.Lib.Hide
namespace Go.Proofs.YtgaopcbjhepklaaGreat
open Go.RowKit
set_option linter.unusedSimpArgs false
set_option linter.unusedVariables false

/-- the address of a slice leads, in w and below block B, to the cells xs -/
def Rd (w : World) (B : Nat) (A : Option Addr) (xs : List Value) : Prop :=
  xs = [] ∨ ∃ b off, A = some ⟨b, off, none⟩ ∧ b < B ∧ ∀ j u, xs[j]? = some u → w.cell? ⟨b, off + j, none⟩ = some u

section
variable {w w' : World} {B B' : Nat} {A : Option Addr} {xs : List Value}
theorem Rd.nil : Rd w B A [] := .inl rfl
theorem Rd.keep (h : Rd w B A xs) (hk : ∀ p : Addr, p.block < B → w'.cell? p = w.cell? p) : Rd w' B A xs := by
  rcases h with rfl | ⟨b, off, rfl, hb, hc⟩
  · exact .inl rfl
  · exact .inr ⟨b, off, rfl, hb, fun j u hu => (hk _ hb).trans (hc j u hu)⟩
theorem Rd.more (h : Rd w B A xs) (hB : B ≤ B') : Rd w B' A xs := by
  rcases h with rfl | ⟨b, off, rfl, hb, hc⟩
  · exact .inl rfl
  · exact .inr ⟨b, off, rfl, by omega, hc⟩
theorem Rd.below (h : Rd w B A xs) (hb : Below B w w') : Rd w' B A xs := h.keep fun _ hp => hb.cell hp
theorem Rd.top (h : Rd w B A xs) : Rd w w.heap.size A xs := by
  rcases h with rfl | ⟨b, off, rfl, hb, hc⟩
  · exact .inl rfl
  · rcases xs with _ | ⟨x, xs⟩
    · exact .inl rfl
    · exact .inr ⟨b, off, rfl, World.block_lt_of_cell? w _ (hc 0 x rfl), hc⟩
theorem Rd.on (h : Rd w B A xs) (hb : Below w.heap.size w w') : Rd w' w'.heap.size A xs := (h.top.below hb).top
theorem Rd.alloc (h : Rd w B A xs) (o : Obj) : Rd (w.alloc o) (w.heap.size + 1) A xs := by
  refine (h.top.keep fun p hp => World.cell?_alloc_lt w o p hp).more (by omega)
theorem Rd.drew (h : Rd w B A xs) : Rd w.drew B A xs := h
theorem Rd.drewN (h : Rd w B A xs) (n : Nat) : Rd (w.drewN n) B A xs := h
theorem Rd.at_ (h : Rd w B A xs) {k : Nat} {u : Value} (hk : xs[k]? = some u) : ∃ b off, A = some ⟨b, off, none⟩ ∧ b < B ∧ w.cell? ⟨b, off + k, none⟩ = some u := by
  rcases h with rfl | ⟨b, off, rfl, hb, hc⟩
  · simp at hk
  · exact ⟨b, off, rfl, hb, hc k u hk⟩
theorem Rd.cut (h : Rd w B A xs) {k cap : Nat} (hc : xs.length ≤ cap) : Rd w B (if cap = k then A else A.map (·.add k)) (xs.drop k) := by
  rcases h with rfl | ⟨b, off, rfl, hb, hcl⟩
  · left; simp
  · by_cases hk : cap = k
    · left; simp; omega
    · right
      refine ⟨b, off + k, by simp [hk, Addr.add_lit], hb, fun j u hu => ?_⟩
      rw [Nat.add_assoc]
      exact hcl _ u (by rw [← hu, List.getElem?_drop])
theorem Rd.take (h : Rd w B A xs) (k : Nat) : Rd w B A (xs.take k) := by
  rcases h with rfl | ⟨b, off, rfl, hb, hcl⟩
  · left; simp
  · refine .inr ⟨b, off, rfl, hb, fun j u hu => hcl j u ?_⟩
    rw [List.getElem?_take] at hu
    split at hu
    · exact hu
    · simp at hu
theorem Rd.of_own {base : Nat} {e : TypeId} {n c : Nat} (h : w.ownsRow base e 1 (.slice A n c) n xs) : Rd w w.heap.size A xs := by
  rcases h.2 with ⟨hv, hn⟩ | ⟨g, cap, cur, hv, _, hg, _⟩
  · left
    have := h.1
    exact List.eq_nil_of_length_eq_zero (by omega)
  · injection hv with hA
    subst hA
    refine .inr ⟨g, 0, rfl, (Array.getElem?_eq_some_iff.1 hg).1, fun j u hu => ?_⟩
    have := h.cells (g := g) rfl j u hu
    rw [Addr.add_lit] at this
    exact this
end

/-- what a row of the call's own reads as: the value is a slice -/
theorem own_form {w : World} {base : Nat} {e : TypeId} {v : Value} {n : Nat} {xs : List Value} (h : w.ownsRow base e 1 v n xs) : ∃ A c, v = .slice A n c ∧ n ≤ c ∧ c ≤ maxLen := by
  rcases h.2 with ⟨hv, hn⟩ | ⟨g, cap, cur, hv, _, _, h1, h2, _⟩
  · exact ⟨none, 0, by rw [hv, hn], by omega, by simp⟩
  · exact ⟨_, cap, hv, h1, h2⟩

theorem below_drewN {B : Nat} {a w : World} (h : Below B a w) (n : Nat) : Below B a (w.drewN n) := ⟨h.os, h.tape, h.output, h.size, h.block⟩

/-- a step of a row that grows: in its own block, or in one that is new since w -/
def Lies (w : World) (row : Option Nat) (v : Value) : Prop := v.ownBlock = row ∨ ∃ g, v.ownBlock = some g ∧ w.heap.size ≤ g
theorem Lies.refl (w : World) (v : Value) : Lies w v.ownBlock v := .inl rfl
theorem grown_step {w wr w' : World} {row : Option Nat} {v : Value} {o : Obj} (hg : w.grownBy wr row) (hat : Lies w row v) (h2 : (wr.alloc o).grownBy w' v.ownBlock) : w.grownBy w' row := by
  refine ⟨h2.os.trans hg.os, h2.tape.trans hg.tape, h2.output.trans hg.output, Nat.le_trans hg.size (Nat.le_trans (by simp) h2.size), fun k hk hne => ?_⟩
  have hk2 : k < wr.heap.size := Nat.lt_of_lt_of_le hk hg.size
  rw [h2.block k (by simp; omega) ?_, Below.heap_alloc wr o k hk2]
  · exact hg.block k hk hne
  · intro e
    rcases hat with h | ⟨g, h, hge⟩
    · exact hne (e.trans h)
    · rw [h] at e; injection e with e; omega
theorem grown_step0 {w wr w' : World} {row : Option Nat} {v : Value} (hg : w.grownBy wr row) (hat : Lies w row v) (h2 : wr.grownBy w' v.ownBlock) : w.grownBy w' row := by
  refine ⟨h2.os.trans hg.os, h2.tape.trans hg.tape, h2.output.trans hg.output, Nat.le_trans hg.size h2.size, fun k hk hne => ?_⟩
  have hk2 : k < wr.heap.size := Nat.lt_of_lt_of_le hk hg.size
  rw [h2.block k hk2 ?_]
  · exact hg.block k hk hne
  · intro e
    rcases hat with h | ⟨g, h, hge⟩
    · exact hne (e.trans h)
    · rw [h] at e; injection e with e; omega
theorem lies_step {w wr : World} {row : Option Nat} {v v' : Value} {k : Nat} (hg : w.grownBy wr row) (hat : Lies w row v) (h : v'.ownBlock = v.ownBlock ∨ v'.ownBlock = some (wr.heap.size + k)) : Lies w row v' := by
  rcases h with h | h
  · rcases hat with h' | ⟨g, h', hge⟩
    · exact .inl (h.trans h')
    · exact .inr ⟨g, h.trans h', hge⟩
  · exact .inr ⟨_, h, by have := hg.size; omega⟩
theorem lies_trans {w wr : World} {row : Option Nat} {v v' : Value} (hs : w.heap.size ≤ wr.heap.size) (hat : Lies w row v) (h : Lies wr v.ownBlock v') : Lies w row v' := by
  rcases h with h | ⟨g, h, hge⟩
  · rcases hat with h' | ⟨g, h', hge⟩
    · exact .inl (h.trans h')
    · exact .inr ⟨g, h.trans h', hge⟩
  · exact .inr ⟨_, h, by omega⟩
theorem below_own {w w' : World} {base : Nat} {e : TypeId} {v : Value} {n : Nat} {xs : List Value} (h : w.ownsRow base e 1 v n xs) (hb : base ≤ w.heap.size) (hg : w.grownBy w' v.ownBlock) : Below base w w' :=
  (Below.refl _ _).grown hg hb fun k hk => (h.lt k hk).1

/-- numbers as cells -/
def bs (l : List Nat) : List Value := l.map fun (b : Nat) => Value.int .u8 (b : Int)
def is (l : List Int) : List Value := l.map fun b => Value.int .i64 b
@[simp] theorem bs_length (l : List Nat) : (bs l).length = l.length := by simp [bs]
@[simp] theorem is_length (l : List Int) : (is l).length = l.length := by simp [is]
@[simp] theorem bs_append (l m : List Nat) : bs (l ++ m) = bs l ++ bs m := by simp [bs]
@[simp] theorem is_append (l m : List Int) : is (l ++ m) = is l ++ is m := by simp [is]
theorem bs_drop (l : List Nat) (k : Nat) : bs (l.drop k) = (bs l).drop k := by simp [bs]
theorem bs_take (l : List Nat) (k : Nat) : bs (l.take k) = (bs l).take k := by simp [bs]
theorem is_drop (l : List Int) (k : Nat) : is (l.drop k) = (is l).drop k := by simp [is]
theorem is_take (l : List Int) (k : Nat) : is (l.take k) = (is l).take k := by simp [is]
theorem bs_one (l : List Nat) : ∀ u ∈ bs l, u.oneCell' = true := by
  intro u hu; obtain ⟨_, _, rfl⟩ := List.mem_map.1 hu; rfl
theorem is_one (l : List Int) : ∀ u ∈ is l, u.oneCell' = true := by
  intro u hu; obtain ⟨_, _, rfl⟩ := List.mem_map.1 hu; rfl
theorem bs_at (l : List Nat) (k : Nat) (h : k < l.length) : (bs l)[k]? = some (.int .u8 ((l[k] : Nat) : Int)) := by simp [bs, h]
theorem is_at (l : List Int) (k : Nat) (h : k < l.length) : (is l)[k]? = some (.int .i64 l[k]) := by simp [is, h]
theorem bs_inj {l m : List Nat} (h : bs l = bs m) : l = m := by
  unfold bs at h
  induction l generalizing m with
  | nil => cases m <;> simp_all
  | cons a l ih => cases m with
    | nil => simp at h
    | cons b m => simp only [List.map_cons, List.cons.injEq, Value.int.injEq] at h; obtain ⟨⟨_, h1⟩, h2⟩ := h; rw [ih h2]; congr 1; omega

/-- all are bytes -/
def Byt (l : List Nat) : Prop := ∀ x ∈ l, x < 256
end Go.Proofs.YtgaopcbjhepklaaGreat
