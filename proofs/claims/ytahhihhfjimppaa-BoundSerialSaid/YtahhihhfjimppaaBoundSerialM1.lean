/- Texts for the law BoundSerial, part 1: no statement of its own, lemmas for the proof; their conditions stand in them. -/
import Derived.WalkKit
import Derived.Maps.AppendAt
import Derived.Deep.AppendSrc
import Derived.Deep.Draws
import Derived.Lib.Hide
import Derived.Deep.AppendLies
import Derived.Below
import Derived.Test.YtahhihhfjimppaaChecked
import Derived.WalkSpells
import Derived.WalkLawsBesides
import Derived.Deep.LoopGhost
import Derived.Deep.QuietTactic
import Derived.BigQuiet
import Derived.Deep.RegionHeld3
import Derived.RegionTactic
import Derived.Deep.RegionLaw
/- Words for memory that the proofs of this seat share: a slice value that reads as a list of cells; what is kept over steps. -/
namespace Go.Proofs.Ytahhihhfjimppaa
open Go.RowKit
set_option linter.unusedSimpArgs false
set_option linter.unusedVariables false

/-- the address of a slice leads, in w and below block B, to the cells xs -/
def Rd (w : World) (B : Nat) (A : Option Addr) (xs : List Value) : Prop :=
  xs = [] ∨ ∃ b off, A = some ⟨b, off, none⟩ ∧ b < B ∧ ∀ j u, xs[j]? = some u → w.cell? ⟨b, off + j, none⟩ = some u

section
variable {w w' : World} {B B' : Nat} {A : Option Addr} {xs : List Value}
theorem Rd.nil : Rd w B A [] := .inl rfl
theorem Rd.keep (h : Rd w B A xs) (hk : ∀ p : Addr, p.block < B → w'.cell? p = w.cell? p) : Rd w' B A xs := by
  rcases h with rfl | ⟨b, off, rfl, hb, hc⟩
  · exact .inl rfl
  · exact .inr ⟨b, off, rfl, hb, fun j u hu => (hk _ hb).trans (hc j u hu)⟩
theorem Rd.more (h : Rd w B A xs) (hB : B ≤ B') : Rd w B' A xs := by
  rcases h with rfl | ⟨b, off, rfl, hb, hc⟩
  · exact .inl rfl
  · exact .inr ⟨b, off, rfl, by omega, hc⟩
theorem Rd.below (h : Rd w B A xs) (hb : Below B w w') : Rd w' B A xs := h.keep fun _ hp => hb.cell hp
theorem Rd.top (h : Rd w B A xs) : Rd w w.heap.size A xs := by
  rcases h with rfl | ⟨b, off, rfl, hb, hc⟩
  · exact .inl rfl
  · rcases xs with _ | ⟨x, xs⟩
    · exact .inl rfl
    · exact .inr ⟨b, off, rfl, World.block_lt_of_cell? w _ (hc 0 x rfl), hc⟩
theorem Rd.on (h : Rd w B A xs) (hb : Below w.heap.size w w') : Rd w' w'.heap.size A xs := (h.top.below hb).top
theorem Rd.alloc (h : Rd w B A xs) (o : Obj) : Rd (w.alloc o) (w.heap.size + 1) A xs := by
  refine (h.top.keep fun p hp => World.cell?_alloc_lt w o p hp).more (by omega)
theorem Rd.drew (h : Rd w B A xs) : Rd w.drew B A xs := h
theorem Rd.drewN (h : Rd w B A xs) (n : Nat) : Rd (w.drewN n) B A xs := h
theorem Rd.at_ (h : Rd w B A xs) {k : Nat} {u : Value} (hk : xs[k]? = some u) : ∃ b off, A = some ⟨b, off, none⟩ ∧ b < B ∧ w.cell? ⟨b, off + k, none⟩ = some u := by
  rcases h with rfl | ⟨b, off, rfl, hb, hc⟩
  · simp at hk
  · exact ⟨b, off, rfl, hb, hc k u hk⟩
theorem Rd.cut (h : Rd w B A xs) {k cap : Nat} (hc : xs.length ≤ cap) : Rd w B (if cap = k then A else A.map (·.add k)) (xs.drop k) := by
  rcases h with rfl | ⟨b, off, rfl, hb, hcl⟩
  · left; simp
  · by_cases hk : cap = k
    · left; simp; omega
    · right
      refine ⟨b, off + k, by simp [hk, Addr.add_lit], hb, fun j u hu => ?_⟩
      rw [Nat.add_assoc]
      exact hcl _ u (by rw [← hu, List.getElem?_drop])
theorem Rd.take (h : Rd w B A xs) (k : Nat) : Rd w B A (xs.take k) := by
  rcases h with rfl | ⟨b, off, rfl, hb, hcl⟩
  · left; simp
  · refine .inr ⟨b, off, rfl, hb, fun j u hu => hcl j u ?_⟩
    rw [List.getElem?_take] at hu
    split at hu
    · exact hu
    · simp at hu
theorem Rd.of_own {base : Nat} {e : TypeId} {n c : Nat} (h : w.ownsRow base e 1 (.slice A n c) n xs) : Rd w w.heap.size A xs := by
  rcases h.2 with ⟨hv, hn⟩ | ⟨g, cap, cur, hv, _, hg, _⟩
  · left
    have := h.1
    exact List.eq_nil_of_length_eq_zero (by omega)
  · injection hv with hA
    subst hA
    refine .inr ⟨g, 0, rfl, (Array.getElem?_eq_some_iff.1 hg).1, fun j u hu => ?_⟩
    have := h.cells (g := g) rfl j u hu
    rw [Addr.add_lit] at this
    exact this
end

/-- what a row of the call's own reads as: the value is a slice -/
theorem own_form {w : World} {base : Nat} {e : TypeId} {v : Value} {n : Nat} {xs : List Value} (h : w.ownsRow base e 1 v n xs) : ∃ A c, v = .slice A n c ∧ n ≤ c ∧ c ≤ maxLen := by
  rcases h.2 with ⟨hv, hn⟩ | ⟨g, cap, cur, hv, _, _, h1, h2, _⟩
  · exact ⟨none, 0, by rw [hv, hn], by omega, by simp⟩
  · exact ⟨_, cap, hv, h1, h2⟩

theorem below_drewN {B : Nat} {a w : World} (h : Below B a w) (n : Nat) : Below B a (w.drewN n) := ⟨h.os, h.tape, h.output, h.size, h.block⟩

/-- a step of a row that grows: in its own block, or in one that is new since w -/
def Lies (w : World) (row : Option Nat) (v : Value) : Prop := v.ownBlock = row ∨ ∃ g, v.ownBlock = some g ∧ w.heap.size ≤ g
theorem Lies.refl (w : World) (v : Value) : Lies w v.ownBlock v := .inl rfl
theorem grown_step {w wr w' : World} {row : Option Nat} {v : Value} {o : Obj} (hg : w.grownBy wr row) (hat : Lies w row v) (h2 : (wr.alloc o).grownBy w' v.ownBlock) : w.grownBy w' row := by
  refine ⟨h2.os.trans hg.os, h2.tape.trans hg.tape, h2.output.trans hg.output, Nat.le_trans hg.size (Nat.le_trans (by simp) h2.size), fun k hk hne => ?_⟩
  have hk2 : k < wr.heap.size := Nat.lt_of_lt_of_le hk hg.size
  rw [h2.block k (by simp; omega) ?_, Below.heap_alloc wr o k hk2]
  · exact hg.block k hk hne
  · intro e
    rcases hat with h | ⟨g, h, hge⟩
    · exact hne (e.trans h)
    · rw [h] at e; injection e with e; omega
theorem grown_step0 {w wr w' : World} {row : Option Nat} {v : Value} (hg : w.grownBy wr row) (hat : Lies w row v) (h2 : wr.grownBy w' v.ownBlock) : w.grownBy w' row := by
  refine ⟨h2.os.trans hg.os, h2.tape.trans hg.tape, h2.output.trans hg.output, Nat.le_trans hg.size h2.size, fun k hk hne => ?_⟩
  have hk2 : k < wr.heap.size := Nat.lt_of_lt_of_le hk hg.size
  rw [h2.block k hk2 ?_]
  · exact hg.block k hk hne
  · intro e
    rcases hat with h | ⟨g, h, hge⟩
    · exact hne (e.trans h)
    · rw [h] at e; injection e with e; omega
theorem lies_step {w wr : World} {row : Option Nat} {v v' : Value} {k : Nat} (hg : w.grownBy wr row) (hat : Lies w row v) (h : v'.ownBlock = v.ownBlock ∨ v'.ownBlock = some (wr.heap.size + k)) : Lies w row v' := by
  rcases h with h | h
  · rcases hat with h' | ⟨g, h', hge⟩
    · exact .inl (h.trans h')
    · exact .inr ⟨g, h.trans h', hge⟩
  · exact .inr ⟨_, h, by have := hg.size; omega⟩
theorem lies_trans {w wr : World} {row : Option Nat} {v v' : Value} (hs : w.heap.size ≤ wr.heap.size) (hat : Lies w row v) (h : Lies wr v.ownBlock v') : Lies w row v' := by
  rcases h with h | ⟨g, h, hge⟩
  · rcases hat with h' | ⟨g, h', hge⟩
    · exact .inl (h.trans h')
    · exact .inr ⟨g, h.trans h', hge⟩
  · exact .inr ⟨_, h, by omega⟩
theorem below_own {w w' : World} {base : Nat} {e : TypeId} {v : Value} {n : Nat} {xs : List Value} (h : w.ownsRow base e 1 v n xs) (hb : base ≤ w.heap.size) (hg : w.grownBy w' v.ownBlock) : Below base w w' :=
  (Below.refl _ _).grown hg hb fun k hk => (h.lt k hk).1

/-- numbers as cells -/
def bs (l : List Nat) : List Value := l.map fun (b : Nat) => Value.int .u8 (b : Int)
def is (l : List Int) : List Value := l.map fun b => Value.int .i64 b
@[simp] theorem bs_length (l : List Nat) : (bs l).length = l.length := by simp [bs]
@[simp] theorem is_length (l : List Int) : (is l).length = l.length := by simp [is]
@[simp] theorem bs_append (l m : List Nat) : bs (l ++ m) = bs l ++ bs m := by simp [bs]
@[simp] theorem is_append (l m : List Int) : is (l ++ m) = is l ++ is m := by simp [is]
theorem bs_drop (l : List Nat) (k : Nat) : bs (l.drop k) = (bs l).drop k := by simp [bs]
theorem bs_take (l : List Nat) (k : Nat) : bs (l.take k) = (bs l).take k := by simp [bs]
theorem is_drop (l : List Int) (k : Nat) : is (l.drop k) = (is l).drop k := by simp [is]
theorem is_take (l : List Int) (k : Nat) : is (l.take k) = (is l).take k := by simp [is]
theorem bs_one (l : List Nat) : ∀ u ∈ bs l, u.oneCell' = true := by
  intro u hu; obtain ⟨_, _, rfl⟩ := List.mem_map.1 hu; rfl
theorem is_one (l : List Int) : ∀ u ∈ is l, u.oneCell' = true := by
  intro u hu; obtain ⟨_, _, rfl⟩ := List.mem_map.1 hu; rfl
theorem bs_at (l : List Nat) (k : Nat) (h : k < l.length) : (bs l)[k]? = some (.int .u8 ((l[k] : Nat) : Int)) := by simp [bs, h]
theorem is_at (l : List Int) (k : Nat) (h : k < l.length) : (is l)[k]? = some (.int .i64 l[k]) := by simp [is, h]
theorem bs_inj {l m : List Nat} (h : bs l = bs m) : l = m := by
  unfold bs at h
  induction l generalizing m with
  | nil => cases m <;> simp_all
  | cons a l ih => cases m with
    | nil => simp at h
    | cons b m => simp only [List.map_cons, List.cons.injEq, Value.int.injEq] at h; obtain ⟨⟨_, h1⟩, h2⟩ := h; rw [ih h2]; congr 1; omega

/-- all are bytes -/
def Byt (l : List Nat) : Prop := ∀ x ∈ l, x < 256
end Go.Proofs.Ytahhihhfjimppaa
/- frames: which blocks may have changed; boxes; rows of the call's own under their block's number -/
namespace Go.Proofs.Ytahhihhfjimppaa
open Go.RowKit
set_option linter.unusedSimpArgs false
set_option linter.unusedVariables false

/-- of the blocks that there were only those of C may have changed -/
structure Fr (C : Nat → Prop) (w w' : World) : Prop where
  os : w'.os = w.os
  tape : w'.tape = w.tape
  output : w'.output = w.output
  size : w.heap.size ≤ w'.heap.size
  block : ∀ k, k < w.heap.size → ¬ C k → w'.heap[k]? = w.heap[k]?

section
variable {C D : Nat → Prop} {w w1 w2 : World}
theorem Fr.refl (C : Nat → Prop) (w : World) : Fr C w w := ⟨rfl, rfl, rfl, Nat.le_refl _, fun _ _ _ => rfl⟩
theorem Fr.trans (h : Fr C w w1) (h2 : Fr C w1 w2) : Fr C w w2 :=
  ⟨h2.os.trans h.os, h2.tape.trans h.tape, h2.output.trans h.output, Nat.le_trans h.size h2.size, fun k hk hc => (h2.block k (Nat.lt_of_lt_of_le hk h.size) hc).trans (h.block k hk hc)⟩
/-- a second step that changes others, if these are new -/
theorem Fr.then (h : Fr C w w1) (h2 : Fr D w1 w2) (hd : ∀ k, D k → C k ∨ w.heap.size ≤ k) : Fr C w w2 :=
  ⟨h2.os.trans h.os, h2.tape.trans h.tape, h2.output.trans h.output, Nat.le_trans h.size h2.size, fun k hk hc => (h2.block k (Nat.lt_of_lt_of_le hk h.size) (fun hdk => by rcases hd k hdk with h1 | h1; exact hc h1; omega)).trans (h.block k hk hc)⟩
theorem Fr.mono (h : Fr C w w1) (hd : ∀ k, k < w.heap.size → C k → D k) : Fr D w w1 :=
  ⟨h.os, h.tape, h.output, h.size, fun k hk hc => h.block k hk (fun hck => hc (hd k hk hck))⟩
theorem Fr.drew (h : Fr C w w1) : Fr C w w1.drew := ⟨h.os, h.tape, h.output, h.size, h.block⟩
theorem Fr.drewN (h : Fr C w w1) (n : Nat) : Fr C w (w1.drewN n) := ⟨h.os, h.tape, h.output, h.size, h.block⟩
theorem Fr.alloc (h : Fr C w w1) (o : Obj) : Fr C w (w1.alloc o) :=
  ⟨h.os, h.tape, h.output, Nat.le_trans h.size (by simp), fun k hk hc => (Below.heap_alloc w1 o k (Nat.lt_of_lt_of_le hk h.size)).trans (h.block k hk hc)⟩
theorem Fr.setCell (h : Fr C w w1) {p : Addr} (hp : C p.block ∨ w.heap.size ≤ p.block) (u : Value) : Fr C w (w1.setCell p u) :=
  ⟨h.os, h.tape, h.output, by simpa [World.setCell] using h.size, fun k hk hc => (Below.heap_setCell w1 p u k (by rintro rfl; rcases hp with h1 | h1; exact hc h1; omega)).trans (h.block k hk hc)⟩
theorem Fr.grown (h : Fr C w w1) {row : Option Nat} (hg : w1.grownBy w2 row) (hr : ∀ k, row = some k → C k ∨ w.heap.size ≤ k) : Fr C w w2 :=
  h.then (D := fun k => row = some k) ⟨hg.os, hg.tape, hg.output, hg.size, fun k hk hc => hg.block k hk (fun e => hc e.symm)⟩ hr
theorem Fr.of_below (h : Below w.heap.size w w1) (C : Nat → Prop) : Fr C w w1 := ⟨h.os, h.tape, h.output, h.size, fun k hk _ => h.block k hk⟩
theorem Fr.below (h : Fr C w w1) {B : Nat} (hB : B ≤ w.heap.size) (hc : ∀ k, C k → B ≤ k) : Below B w w1 :=
  ⟨h.os, h.tape, h.output, h.size, fun k hk => h.block k (by omega) (fun h1 => by have := hc k h1; omega)⟩
theorem Fr.cell (h : Fr C w w1) {p : Addr} (hp : p.block < w.heap.size) (hc : ¬ C p.block) : w1.cell? p = w.cell? p := World.cell?_of_block (h.block _ hp hc)
theorem Fr.frozen (h : Fr C w w1) {p : Addr} (hp : p.block < w.heap.size) (hc : ¬ C p.block) : w1.frozen? p = w.frozen? p := World.frozen?_of_block (h.block _ hp hc)
end

/-- a block that is known whole -/
def Blk (w : World) (g : Nat) (t : TypeId) (cs : Array Value) : Prop := w.heap[g]? = some (.cells cs t (0, 0))
section
variable {w w' : World} {g : Nat} {t : TypeId} {cs : Array Value}
theorem Blk.lt (h : Blk w g t cs) : g < w.heap.size := (Array.getElem?_eq_some_iff.1 h).1
theorem Blk.cell (h : Blk w g t cs) (i : Nat) : w.cell? ⟨g, i, none⟩ = cs[i]? := cell_of_row w g i cs t (0, 0) h
theorem Blk.frozen (h : Blk w g t cs) (i : Nat) : w.frozen? ⟨g, i, none⟩ = false := by
  unfold Blk at h
  simp [World.frozen?, h]
theorem Blk.new (w : World) (t : TypeId) (cs : Array Value) : Blk (w.alloc (.cells cs t)) w.heap.size t cs := heap_alloc_new w _
theorem Blk.drew (h : Blk w g t cs) : Blk w.drew g t cs := h
theorem Blk.drewN (h : Blk w g t cs) (n : Nat) : Blk (w.drewN n) g t cs := h
theorem Blk.alloc (h : Blk w g t cs) (o : Obj) : Blk (w.alloc o) g t cs := (Below.heap_alloc w o g h.lt).trans h
theorem Blk.set (h : Blk w g t cs) (i : Nat) (u : Value) : Blk (w.setCell ⟨g, i, none⟩ u) g t (cs.setIfInBounds i u) := by
  unfold Blk at h ⊢
  simp [World.setCell, Array.getElem?_modify, h]
theorem Blk.far (h : Blk w g t cs) {p : Addr} (hp : g ≠ p.block) (u : Value) : Blk (w.setCell p u) g t cs := (Below.heap_setCell w p u g hp).trans h
theorem Blk.fr {C : Nat → Prop} (h : Blk w g t cs) (hf : Fr C w w') (hc : ¬ C g) : Blk w' g t cs := (hf.block g h.lt hc).trans h
theorem Blk.below {B : Nat} (h : Blk w g t cs) (hb : Below B w w') (hg : g < B) : Blk w' g t cs := (hb.block g hg).trans h
theorem Blk.inj {t' : TypeId} {cs' : Array Value} (h : Blk w g t cs) (h' : Blk w g t' cs') : cs = cs' ∧ t = t' := by
  unfold Blk at h h'
  rw [h] at h'
  injection h' with h'
  injection h' with h1 h2
  exact ⟨h1, h2⟩
end

theorem Rd.fr {C : Nat → Prop} {w w' : World} {A : Option Addr} {xs : List Value} (h : Rd w w.heap.size A xs) (hf : Fr C w w') (hc : ∀ ad, A = some ad → ¬ C ad.block) : Rd w' w'.heap.size A xs := by
  rcases h with rfl | ⟨b, off, rfl, hb, hcl⟩
  · exact .inl rfl
  · refine .inr ⟨b, off, rfl, Nat.lt_of_lt_of_le hb hf.size, fun j u hu => ?_⟩
    rw [hf.cell (p := ⟨b, off + j, none⟩) hb (hc ⟨b, off, none⟩ rfl)]
    exact hcl j u hu

/-- a row of the call's own, in block g -/
def Own (w : World) (e : TypeId) (size g n cap : Nat) (xs : List Value) : Prop := w.ownsRow 0 e size (.slice (some ⟨g, 0, none⟩) n cap) n xs
section
variable {w w' : World} {e : TypeId} {size g n cap : Nat} {xs : List Value}
theorem Own.blk (h : Own w e size g n cap xs) : ∃ cur, Blk w g e cur ∧ n ≤ cap ∧ cap ≤ 9223372036854775807 ∧ cur.size = cap * size ∧ cur.toList.take (n * size) = xs := by
  rcases h.2 with ⟨h', _⟩ | ⟨g', cap', cur, h', _, hg, h1, h2, h3, h4⟩
  · cases h'
  · injection h' with ha _ hc
    injection ha with ha
    injection ha with ha
    subst ha hc
    exact ⟨cur, hg, h1, h2, h3, h4⟩
theorem Own.lt (h : Own w e size g n cap xs) : g < w.heap.size := by obtain ⟨cur, hb, _⟩ := h.blk; exact hb.lt
theorem Own.len (h : Own w e size g n cap xs) : xs.length = n * size := h.1
theorem Own.caps (h : Own w e size g n cap xs) : n ≤ cap ∧ cap ≤ 9223372036854775807 := by obtain ⟨cur, _, h1, h2, _⟩ := h.blk; exact ⟨h1, h2⟩
theorem Own.cell (h : Own w e size g n cap xs) (j : Nat) (hj : j < n * size) : w.cell? ⟨g, j, none⟩ = xs[j]? := World.ownsRow.cellAt h j hj
theorem Own.frozen (h : Own w e size g n cap xs) (j : Nat) : w.frozen? ⟨g, j, none⟩ = false := World.ownsRow.frozenAt h j
theorem Own.set (h : Own w e size g n cap xs) (j : Nat) (u : Value) : Own (w.setCell ⟨g, j, none⟩ u) e size g n cap (xs.set j u) := (World.ownsRow.stored h j u).1
theorem Own.fr {C : Nat → Prop} (h : Own w e size g n cap xs) (hf : Fr C w w') (hc : ¬ C g) : Own w' e size g n cap xs := by
  refine ⟨h.1, ?_⟩
  rcases h.2 with ⟨h', _⟩ | ⟨g', cap', cur, h', hb, hg, h1⟩
  · cases h'
  · have hgg : g' = g := by injection h' with ha; injection ha with ha; injection ha with ha; exact ha.symm
    subst hgg
    exact .inr ⟨g', cap', cur, h', hb, (hf.block g' (Array.getElem?_eq_some_iff.1 hg).1 hc).trans hg, h1⟩
theorem Own.drewN (h : Own w e size g n cap xs) (k : Nat) : Own (w.drewN k) e size g n cap xs := h
theorem Own.alloc (h : Own w e size g n cap xs) (o : Obj) : Own (w.alloc o) e size g n cap xs := h.fr ((Fr.refl (fun _ => False) w).alloc o) (fun h => h)
theorem Own.far (h : Own w e size g n cap xs) {p : Addr} (hp : p.block ≠ g) (u : Value) : Own (w.setCell p u) e size g n cap xs :=
  h.fr ((Fr.refl (fun k => k = p.block) w).setCell (.inl rfl) u) (fun h => hp h.symm)
theorem Own.new (w : World) (e : TypeId) (size n : Nat) (cs : Array Value) (hm : n ≤ 9223372036854775807) (hs : cs.size = n * size) : Own (w.alloc (.cells cs e)) e size w.heap.size n n cs.toList :=
  World.ownsRow_lit w cs n (Nat.zero_le _) hm hs
theorem Own.rd (h : Own w e 1 g n cap xs) : Rd w w.heap.size (some ⟨g, 0, none⟩) xs := Rd.of_own h
/-- what an append law leaves, under its block's number -/
theorem own_of {v : Value} {m : Nat} (h : w.ownsRow 0 e size v m xs) (hm : 0 < m) : ∃ g cap, v = .slice (some ⟨g, 0, none⟩) m cap ∧ Own w e size g m cap xs := by
  obtain ⟨g, cap, hv, _, _⟩ := h.form hm
  subst hv
  exact ⟨g, cap, rfl, h⟩
end
end Go.Proofs.Ytahhihhfjimppaa
/- The plain side of layer 12: what the two chains, and the state, come to -/
namespace Go.Proofs.Ytahhihhfjimppaa.S
set_option linter.unusedSimpArgs false
set_option linter.unusedVariables false

/-- as many zeros behind as are wanted for a place b -/
def ext (L : List Nat) (b : Nat) : List Nat := L ++ List.replicate (b + 1 - L.length) 0
/-- b behind a -/
def put1 (L : List Nat) (a b : Nat) : List Nat := ((ext L b).set b ((ext L b).getD a 0)).set a b
def put : List Nat → Nat → List Nat → List Nat
  | L, _, [] => L
  | L, a, b :: r => put (put1 L a b) b r
theorem ext_length (L : List Nat) (b : Nat) : (ext L b).length = max L.length (b + 1) := by simp [ext]; omega
theorem put1_length (L : List Nat) (a b : Nat) : (put1 L a b).length = max L.length (b + 1) := by simp [put1, ext_length]
theorem ext_lt {L : List Nat} {N b : Nat} (h : ∀ x ∈ L, x < N) (hN : 0 < N) : ∀ x ∈ ext L b, x < N := by
  intro x hx
  rcases List.mem_append.1 hx with h1 | h1
  · exact h x h1
  · rw [(List.mem_replicate.1 h1).2]; exact hN
theorem put1_lt {L : List Nat} {N a b : Nat} (h : ∀ x ∈ L, x < N) (hb : b < N) : ∀ x ∈ put1 L a b, x < N := by
  intro x hx
  have he := ext_lt (b := b) h (by omega)
  unfold put1 at hx
  rcases List.mem_or_eq_of_mem_set hx with hx | rfl
  · rcases List.mem_or_eq_of_mem_set hx with hx | rfl
    · exact he x hx
    · rw [List.getD_eq_getElem?_getD]
      cases hg : (ext L b)[a]? with
      | none => simp; omega
      | some y => exact he y (List.mem_of_getElem? hg)
  · exact hb
/-- the places: the k-th of them from the front on has place k -/
def placesFrom (L : List Nat) : Nat → Nat → Nat → List Nat → List Nat
  | 0, _, _, P => P
  | n + 1, k, at_, P => placesFrom L n (k + 1) (L.getD at_ 0) (P.set at_ k)
def places (L : List Nat) : List Nat := placesFrom L L.length 0 0 (List.replicate L.length 0)
theorem placesFrom_length (L : List Nat) (n : Nat) : ∀ k at_ P, (placesFrom L n k at_ P).length = P.length := by
  induction n with
  | zero => intros; rfl
  | succ n ih => intro k at_ P; rw [placesFrom, ih, List.length_set]
theorem places_length (L : List Nat) : (places L).length = L.length := by unfold places; rw [placesFrom_length, List.length_replicate]

/-- a split, as numbers: its kind, A, B, C, D -/
abbrev Five := Int × Int × Int × Int × Int
/-- which split of a kind may come now; ts: the tasks, the last one on; n: the next strand's number -/
def may (ts : List (Nat × Nat)) (n : Nat) (kind : Int) : Five × Bool :=
  let t := ts.getD (ts.length - 1) (0, 0)
  if kind = 1 then ((1, (t.1 : Int), (n : Int), (n : Int) + 1, if t.2 = 0 then (n : Int) + 2 else (t.2 : Int)), true)
  else if kind = 2 then (if ts.length < 2 ∨ t.2 ≠ 0 then ((0, 0, 0, 0, 0), false) else ((2, (t.1 : Int), 0, 0, ((ts.getD (ts.length - 2) (0, 0)).2 : Int)), true))
  else if kind = 3 then ((3, (t.1 : Int), 0, 0, (t.2 : Int)), decide (t.2 ≠ 0))
  else ((0, 0, 0, 0, 0), false)
end Go.Proofs.Ytahhihhfjimppaa.S
/- walks: the chain's put and places -/
namespace Go.Proofs.Ytahhihhfjimppaa
open Go.RowKit
set_option linter.unusedSimpArgs false
set_option linter.unusedVariables false
set_option maxRecDepth 100000

theorem info_int : (Try.prog.info? 3).map (fun i => (i.zero, i.size, i.bytes)) = some (some (.int .i64 0), 1, 8) := by kernel_rfl
/-- numbers as cells -/
def ns (l : List Nat) : List Value := l.map fun (b : Nat) => Value.int .i64 (b : Int)
@[simp] theorem ns_length (l : List Nat) : (ns l).length = l.length := by simp [ns]
theorem ns_at (l : List Nat) (k : Nat) (h : k < l.length) : (ns l)[k]? = some (.int .i64 ((l[k] : Nat) : Int)) := by simp [ns, h]
theorem ns_set (l : List Nat) (k y : Nat) : (ns l).set k (.int .i64 (y : Int)) = ns (l.set k y) := by simp [ns, List.map_set]
theorem ns_append (l m : List Nat) : ns (l ++ m) = ns l ++ ns m := by simp [ns]

theorem ns_one (l : List Nat) : ∀ u ∈ ns l, u.oneCell' = true := by
  intro u hu; obtain ⟨_, _, rfl⟩ := List.mem_map.1 hu; rfl
/-- a chain in box bx: its row lies in block g -/
structure Ch (w : World) (bx g cap : Nat) (L : List Nat) : Prop where
  box : Blk w bx 71 #[.slice (some ⟨g, 0, none⟩) L.length cap]
  row : Own w 3 1 g L.length cap (ns L)
  ne : bx ≠ g

def Putted (w : World) (bx g : Nat) (L : List Nat) (e : Ending) (w' : World) : Prop :=
  e = .returned (.tuple #[]) ∧ ∃ g' cap', Ch w' bx g' cap' L ∧ Fr (fun k => k = bx ∨ k = g) w w' ∧ (g' = g ∨ w.heap.size ≤ g')

theorem put_any (bx g cap a : Nat) (L bl : List Nat) (A : Option Addr) (c : Nat) (w : World) (hch : Ch w bx g cap L) (hr : Rd w w.heap.size A (ns bl)) (ha : a < L.length) (hL : L.length ≤ 1000) (hbl : ∀ b ∈ bl, b ≤ 1000) (hl : bl.length ≤ 1000) (hAb : ∀ ad, A = some ad → ad.block ≠ bx ∧ ad.block ≠ g) :
    Calls Try.prog 28 #[.pointer (some ⟨bx, 0, none⟩), .int .i64 a, .slice A bl.length c] w (Putted w bx g (S.put L a bl)) := by
  obtain ⟨i0, hi, hz0, hz1, hz2⟩ := info_parts info_int
  go_enter Try.func28, Try.ntmps28
  go_wp2
  go_loopg [1, 10] bl.length (fun gk aa ii wr => ∃ (k a' g' cap' : Nat) (L' : List Nat), k + gk = bl.length ∧ aa = .int .i64 a' ∧ ii = .int .i64 k ∧ Ch wr bx g' cap' L' ∧ Hid (S.put L a bl = S.put L' a' (bl.drop k)) ∧ a' < L'.length ∧ L'.length ≤ 1001 ∧ Fr (fun k => k = bx ∨ k = g) w wr ∧ (g' = g ∨ w.heap.size ≤ g'))
  case atStart => exact ⟨0, a, g, cap, L, by omega, rfl, rfl, hch, rfl, ha, by omega, Fr.refl _ _, .inl rfl⟩
  case round =>
    obtain ⟨k, a', g', cap', L', hk, rfl, rfl, hch', HP, ha', hL', hfr, hg'⟩ := hrel
    clear hch
    obtain ⟨G0, rfl⟩ : ∃ G0 : Nat, G0 = gk := ⟨_, rfl⟩
    have hHK := Lib.hid hk
    by_cases hlt : k < bl.length
    · have hR := hr.fr hfr (fun ad e h => by have := hAb ad e; omega)
      obtain ⟨b1, o1, rfl, hb1, hc1⟩ := hR.at_ (ns_at bl k hlt)
      have hbb := hbl bl[k] (by simp)
      have hP2 : Hid (S.put L a bl = S.put (S.put1 L' a' bl[k]) bl[k] (bl.drop (k + 1))) := by
        rw [HP.out, List.drop_eq_getElem_cons hlt]; exact rfl
      clear HP hk
      generalize bl[k] = b at hc1 hbb hP2
      go_wp2
      go_loopg [] (b + 1) (fun gk wi => ∃ (n g2 cap2 : Nat), Ch wi bx g2 cap2 (L' ++ List.replicate n 0) ∧ L'.length + n ≤ max L'.length (b + 1) ∧ b + 1 ≤ L'.length + n + gk ∧ Fr (fun k => k = bx ∨ k = g) w wi ∧ (g2 = g ∨ w.heap.size ≤ g2))
      case atStart => exact ⟨0, g', cap', by simpa using hch', by omega, by omega, hfr, hg'⟩
      case round =>
        obtain ⟨n, g2, cap2, hch2, hn1, hn2, hfr2, hg2⟩ := hrel
        clear hch' hfr hg' hR hr
        have hlen : (L' ++ List.replicate n 0).length = L'.length + n := by simp
        have hL2 : Hid (L' ++ List.replicate n 0 = L' ++ List.replicate n 0) := Lib.hid rfl
        generalize hE : L' ++ List.replicate n 0 = L2 at hch2 hlen
        have HE := Lib.hid hE
        have HLN := Lib.hid hlen
        have hl2 : L2.length ≤ 1001 := by omega
        have c2 := hch2.box.cell 0
        simp only [List.getElem?_toArray, List.getElem?_cons_zero] at c2
        have hbxlt := hch2.box.lt
        clear hE hlen hL2
        by_cases hle : L2.length ≤ b
        · go_wp2_with (at_builtin; refine wpList_append_own_at _ rfl (.tmp 25) (.tmp 26) 23 rfl 0 3 i0 _ 1 8 Try.underlying23 hi hz0 hz1 hz2 rfl (by omega) _ _ _ rfl (hch2.row.alloc _) ⟨wr.heap.size, 0, none⟩ 1 1 [.int .i64 0] rfl rfl ?c1 ?c2 ?c3 ?c4 ?c5 ?_)
          case c1 => exact cell_one_new _ _ _
          case c2 => exact ns_one [0]
          case c3 => simp only [maxLen]; omega
          case c4 => omega
          case c5 => simp
          intro v3 w3 ho3 hg3 _ hat3
          obtain ⟨g3, cap3, hv3, own3⟩ := own_of ho3 (by omega)
          subst hv3
          have hfr3 : Fr (fun k => k = bx ∨ k = g) w w3 := (hfr2.alloc _).grown hg3 (fun k hk => by simp [Value.ownBlock] at hk; subst hk; rcases hg2 with h | h; exact .inl (.inr h); exact .inr h)
          have hne3 : bx ≠ g3 := by
            have h1 := hch2.ne
            simp [Value.ownBlock] at hat3
            omega
          have hb3 : Blk w3 bx 71 #[.slice (some ⟨g2, 0, none⟩) L2.length cap2] := (hg3.block bx (by simp; omega) (by simp [Value.ownBlock]; exact hch2.ne)).trans (hch2.box.alloc _)
          have c3 := hb3.cell 0
          simp only [List.getElem?_toArray, List.getElem?_cons_zero] at c3
          have f3 := hb3.frozen 0
          have hG3 : g3 = g ∨ w.heap.size ≤ g3 := by
            have h1 := hfr2.size
            simp [Value.ownBlock] at hat3
            omega
          clear hg3 hat3 c2 ho3 hfr2 hg2 hch2
          go_wp2_with fail
          go_roundg (gk - 1)
          case measure => have := HLN.out; omega
          case rel =>
            have hl := HLN.out
            have e1 : L' ++ List.replicate (n + 1) 0 = L2 ++ [0] := by rw [← HE.out, List.replicate_succ', List.append_assoc]
            refine ⟨n + 1, g3, cap3, ?_, by omega, by omega, hfr3.setCell (.inl (.inl rfl)) _, hG3⟩
            rw [e1]
            refine ⟨?_, ?_, hne3⟩
            · have := hb3.set 0 (.slice (some ⟨g3, 0, none⟩) (L2.length + 1) cap3)
              simpa using this
            · have := own3.far (p := ⟨bx, 0, none⟩) hne3 (.slice (some ⟨g3, 0, none⟩) (L2.length + 1) cap3)
              rw [ns_append, List.length_append]
              exact this
        · have haL : a' < L2.length := by have := HLN.out; omega
          have hbL : b < L2.length := by omega
          have haI : (a' : Int) < (L2.length : Int) := by omega
          have hbI : (b : Int) < (L2.length : Int) := by omega
          have ca := hch2.row.cell a' (by omega)
          rw [ns_at L2 a' haL] at ca
          have cb := hch2.row.cell b (by omega)
          rw [ns_at L2 b hbL] at cb
          have fb := hch2.row.frozen b
          have fa := hch2.row.frozen a'
          have q0 : decide ((L2.length : Int) ≤ (b : Int)) = false := by simp; omega
          go_wp2_with fail
          go_region
          have own5 : Own (wr.setCell ⟨g2, b, none⟩ (.int .i64 ((L2[a'] : Nat) : Int))).drew 3 1 g2 L2.length cap2 (ns (L2.set b L2[a'])) := by
            rw [← ns_set]; exact hch2.row.set b _
          have blk5 : Blk (wr.setCell ⟨g2, b, none⟩ (.int .i64 ((L2[a'] : Nat) : Int))).drew bx 71 #[.slice (some ⟨g2, 0, none⟩) L2.length cap2] := hch2.box.far (p := ⟨g2, b, none⟩) hch2.ne _
          have hfr5 : Fr (fun k => k = bx ∨ k = g) w (wr.setCell ⟨g2, b, none⟩ (.int .i64 ((L2[a'] : Nat) : Int))).drew := (hfr2.setCell (p := ⟨g2, b, none⟩) (by rcases hg2 with h | h; exact .inl (.inr h); exact .inr h) _).drew
          have hne := hch2.ne
          clear ca cb fb fa c2 hch2 hfr2
          generalize (wr.setCell ⟨g2, b, none⟩ (.int .i64 ((L2[a'] : Nat) : Int))).drew = w5 at own5 blk5 hfr5 ⊢
          have c5 := blk5.cell 0
          simp only [List.getElem?_toArray, List.getElem?_cons_zero] at c5
          have ca := own5.cell a' (by omega)
          rw [ns_at _ a' (by simpa using haL)] at ca
          have fa := own5.frozen a'
          go_wp2_with fail
          have hext : S.ext L' b = L2 := by
            have h1 := HLN.out
            rw [← HE.out]
            unfold S.ext
            congr 2
            omega
          have hp1 : S.put1 L' a' b = (L2.set b L2[a']).set a' b := by
            unfold S.put1
            rw [hext, List.getD_eq_getElem?_getD, List.getElem?_eq_getElem haL]
            rfl
          go_roundg (G0 - 1)
          case measure => have := hHK.out; omega
          case rel =>
            have h1 := hHK.out
            refine ⟨k + 1, b, g2, cap2, S.put1 L' a' b, by omega, rfl, by go_num, ?_, hP2, ?_, ?_, hfr5.setCell (p := ⟨g2, a', none⟩) (by rcases hg2 with h | h; exact .inl (.inr h); exact .inr h) _, hg2⟩
            · rw [hp1]
              refine ⟨?_, ?_, hne⟩
              · simp only [List.length_set]
                exact blk5.far (p := ⟨g2, a', none⟩) hne _
              · have := own5.set a' (.int .i64 (b : Int))
                rw [ns_set] at this
                simpa using this
            · rw [hp1]; simpa using hbL
            · rw [hp1]; simpa using hl2
    · go_wp2
      go_end0
      have e1 : bl.drop k = [] := List.drop_of_length_le (by omega)
      rw [e1] at HP
      refine ⟨rfl, g', cap', ?_, hfr, hg'⟩
      rw [HP.out]
      exact hch'

theorem made_ns (n : Nat) : (madeCells #[Value.int .i64 0] n).toList = ns (List.replicate n 0) := by
  apply List.ext_getElem?
  intro i
  unfold madeCells ns
  by_cases hi : i < n
  · simp [hi, Array.getElem?_range, Nat.mod_one]
  · simp [hi]

def Placed (w : World) (L : List Nat) (e : Ending) (w' : World) : Prop :=
  ∃ g cap, e = .returned (.slice (some ⟨g, 0, none⟩) L.length cap) ∧ Own w' 3 1 g L.length cap (ns L) ∧ Below w.heap.size w w' ∧ w.heap.size ≤ g

theorem places_any (bx g cap : Nat) (L : List Nat) (w : World) (hch : Ch w bx g cap L) (hL : L.length ≤ 1001) (hlt : ∀ x ∈ L, x < L.length) (hpos : 0 < L.length) :
    Calls Try.prog 31 #[.pointer (some ⟨bx, 0, none⟩)] w (Placed w (S.places L)) := by
  obtain ⟨i0, hi, hz0, hz1, hz2⟩ := info_parts info_int
  have c0 := hch.box.cell 0
  simp only [List.getElem?_toArray, List.getElem?_cons_zero] at c0
  have hbl := hch.box.lt
  have hgl := hch.row.lt
  go_enter Try.func31, Try.ntmps31
  go_wp2_with (at_make; refine wpList_make_full _ rfl (.tmp 10) (.tmp 10) 23 rfl 0 3 i0 _ 1 Try.underlying23 hi hz0 hz1 .i64 .i64 L.length L.length L.length rfl rfl rfl rfl ?d1 ?d2 ?d3 ?_)
  case d1 => rw [hz2]; omega
  case d2 => simp only [maxLen]; omega
  case d3 => simp
  intro w1 ho1 hg1
  rw [made_ns] at ho1
  have hfr1 : Fr (fun _ => False) w w1 := (Fr.refl _ w).grown hg1 (by simp)
  have hch1 : Ch w1 bx g cap L := ⟨hch.box.fr hfr1 (fun h => h), hch.row.fr hfr1 (fun h => h), hch.ne⟩
  have hgp : w.heap.size ≤ w.heap.size := Nat.le_refl _
  clear hg1 c0
  generalize hgP : w.heap.size = gP at ho1 hgp ⊢
  have HGP := Lib.hid hgP
  rw [hgP] at hgl hbl
  clear hgP
  go_wp2_with fail
  go_loopg [4, 14] L.length (fun gk aa kk wr => ∃ (k at_ : Nat) (P : List Nat), k + gk = L.length ∧ aa = .int .i64 at_ ∧ kk = .int .i64 k ∧ at_ < L.length ∧ P.length = L.length ∧ Own wr 3 1 gP L.length L.length (ns P) ∧ Hid (S.placesFrom L gk k at_ P = S.places L) ∧ Ch wr bx g cap L ∧ Fr (fun k => k = gP) w wr)
  case atStart => exact ⟨0, 0, List.replicate L.length 0, by omega, rfl, rfl, hpos, by simp, ho1, rfl, hch1, hfr1.mono (fun _ _ h => h.elim)⟩
  case round =>
    obtain ⟨k, at_, P, hk, rfl, rfl, hat, hP, ho, HP, hc, hfr⟩ := hrel
    have HK := Lib.hid hk
    have HPL := Lib.hid hP
    clear hch hch1 ho1 hfr1
    by_cases hkl : k < L.length
    · obtain ⟨m, rfl⟩ : ∃ m, gk = m + 1 := ⟨gk - 1, by omega⟩
      have hatP : at_ < P.length := by omega
      clear hk hP
      have hatI : (at_ : Int) < (L.length : Int) := by omega
      have ca := ho.cell at_ (by omega)
      rw [ns_at P at_ hatP] at ca
      have fa := ho.frozen at_
      have hne1 : bx ≠ gP := by omega
      have hne2 : g ≠ gP := by omega
      have ho2 : Own (wr.setCell ⟨gP, at_, none⟩ (.int .i64 (k : Int))) 3 1 gP L.length L.length (ns (P.set at_ k)) := by rw [← ns_set]; exact ho.set at_ _
      have hc2 : Ch (wr.setCell ⟨gP, at_, none⟩ (.int .i64 (k : Int))) bx g cap L := ⟨hc.box.far (p := ⟨gP, at_, none⟩) hne1 _, hc.row.far (p := ⟨gP, at_, none⟩) (Ne.symm hne2) _, hc.ne⟩
      have hfr2 := hfr.setCell (p := ⟨gP, at_, none⟩) (.inl rfl) (.int .i64 (k : Int))
      have cb := hc2.box.cell 0
      simp only [List.getElem?_toArray, List.getElem?_cons_zero] at cb
      have cn := hc2.row.cell at_ (by omega)
      rw [ns_at L at_ hat] at cn
      have hnx := hlt L[at_] (by simp)
      have HN : Hid (S.placesFrom L m (k + 1) L[at_] (P.set at_ k) = S.places L) := by
        rw [← HP.out, S.placesFrom, List.getD_eq_getElem?_getD, List.getElem?_eq_getElem hat]; exact rfl
      clear HP hc ho hfr
      go_wp2_with fail
      go_roundg m
      case measure => omega
      case rel => exact ⟨k + 1, L[at_], P.set at_ k, by have := HK.out; omega, rfl, by go_num, hnx, by rw [List.length_set]; exact HPL.out, ho2, HN, hc2, hfr2⟩
    · obtain rfl : gk = 0 := by omega
      clear hk hP
      go_wp2
      go_ret
      have hP2 : P = S.places L := HP.out
      have hlen := S.places_length L
      have hg0 := HGP.out
      refine ⟨gP, L.length, by rw [hlen]; rfl, ?_, hfr.below (Nat.le_refl _) (fun k h => by omega), by omega⟩
      rw [← hP2, HPL.out]
      exact ho
end Go.Proofs.Ytahhihhfjimppaa
/- walks: the state's may and turn -/
namespace Go.Proofs.Ytahhihhfjimppaa
open Go.RowKit
set_option linter.unusedSimpArgs false
set_option linter.unusedVariables false
set_option maxRecDepth 100000

/-- tasks as cells -/
def tcs (ts : List (Nat × Nat)) : List Value := ts.flatMap fun t => [Value.int .i64 (t.1 : Int), Value.int .i64 (t.2 : Int)]
theorem tcs_length (ts : List (Nat × Nat)) : (tcs ts).length = ts.length * 2 := by
  induction ts with
  | nil => rfl
  | cons t ts ih => simp only [tcs, List.flatMap_cons, List.length_append, List.length_cons, List.length_nil] at ih ⊢; rw [ih]; omega
theorem tcs_at (ts : List (Nat × Nat)) (k : Nat) (h : k < ts.length) : (tcs ts)[k * 2]? = some (.int .i64 ((ts[k].1 : Nat) : Int)) ∧ (tcs ts)[k * 2 + 1]? = some (.int .i64 ((ts[k].2 : Nat) : Int)) := by
  induction ts generalizing k with
  | nil => simp at h
  | cons t ts ih =>
    have e : tcs (t :: ts) = Value.int .i64 (t.1 : Int) :: Value.int .i64 (t.2 : Int) :: tcs ts := rfl
    rw [e]
    cases k with
    | zero => exact ⟨rfl, rfl⟩
    | succ k =>
      have := ih k (by simpa using h)
      rw [show (k + 1) * 2 = k * 2 + 1 + 1 by omega]
      simp only [List.getElem?_cons_succ, List.getElem_cons_succ]
      exact this

/-- a state in box bx: its tasks lie in block g -/
structure St (w : World) (bx g cap : Nat) (ts : List (Nat × Nat)) (n : Nat) : Prop where
  box : Blk w bx 77 #[.slice (some ⟨g, 0, none⟩) ts.length cap, .int .i64 (n : Int)]
  row : Own w 74 2 g ts.length cap (tcs ts)
  ne : bx ≠ g

def Mayed (w : World) (r : S.Five × Bool) (e : Ending) (w' : World) : Prop :=
  e = .returned (.tuple #[.agg #[.int .i64 r.1.1, .int .i64 r.1.2.1, .int .i64 r.1.2.2.1, .int .i64 r.1.2.2.2.1, .int .i64 r.1.2.2.2.2], .bool r.2]) ∧ Below w.heap.size w w'

theorem St.at_ {w : World} {bx g cap n : Nat} {ts : List (Nat × Nat)} (h : St w bx g cap ts n) (k : Nat) (hk : k < ts.length) :
    ∃ s j, ts.getD k (0, 0) = (s, j) ∧ w.cell? ⟨g, k * 2, none⟩ = some (.int .i64 (s : Int)) ∧ w.cell? ⟨g, k * 2 + 1, none⟩ = some (.int .i64 (j : Int)) := by
  obtain ⟨ta, tb⟩ := tcs_at ts k hk
  refine ⟨ts[k].1, ts[k].2, ?_, (h.row.cell (k * 2) (by omega)).trans ta, (h.row.cell (k * 2 + 1) (by omega)).trans tb⟩
  rw [List.getD_eq_getElem?_getD, List.getElem?_eq_getElem hk]
  rfl
theorem St.cells {w : World} {bx g cap n m : Nat} {ts : List (Nat × Nat)} (h : St w bx g cap ts n) (hm : ts.length = m) :
    w.cell? ⟨bx, 0, none⟩ = some (.slice (some ⟨g, 0, none⟩) m cap) ∧ w.cell? ⟨bx, 1, none⟩ = some (.int .i64 (n : Int)) := by
  subst hm; exact ⟨h.box.cell 0, h.box.cell 1⟩

theorem old3 {w : World} {p : Addr} {v : Value} (h : w.cell? p = some v) (a b c : Obj) : (((w.alloc a).alloc b).alloc c).cell? p = some v := by
  have hl := World.block_lt_of_cell? w p h
  rw [World.cell?_alloc_lt _ _ _ (by simp; omega), World.cell?_alloc_lt _ _ _ (by simp; omega), World.cell?_alloc_lt _ _ _ hl]
  exact h
/-- three new blocks -/
theorem three_new (w : World) (t1 t2 t3 : TypeId) (a b c : Array Value) :
    Blk (((w.alloc (.cells a t1)).alloc (.cells b t2)).alloc (.cells c t3)) w.heap.size t1 a ∧ Blk (((w.alloc (.cells a t1)).alloc (.cells b t2)).alloc (.cells c t3)) (w.heap.size + 1) t2 b ∧
    Blk (((w.alloc (.cells a t1)).alloc (.cells b t2)).alloc (.cells c t3)) (w.heap.size + 1 + 1) t3 c ∧ Below w.heap.size w (((w.alloc (.cells a t1)).alloc (.cells b t2)).alloc (.cells c t3)) := by
  refine ⟨((Blk.new w t1 a).alloc _).alloc _, ?_, ?_, (((Below.refl _ _).alloc (Nat.le_refl _) _).alloc (by simp) _).alloc (by simp; omega) _⟩
  · have := (Blk.new (w.alloc (.cells a t1)) t2 b).alloc (.cells c t3)
    simpa using this
  · have := Blk.new ((w.alloc (.cells a t1)).alloc (.cells b t2)) t3 c
    simpa using this
theorem Blk.at_ {w : World} {g : Nat} {t : TypeId} {cs : Array Value} (h : Blk w g t cs) {i : Nat} {u : Value} (hu : cs[i]? = some u) : w.cell? ⟨g, i, none⟩ = some u := (h.cell i).trans hu
/-- the three blocks of may, and what was there -/
structure M3 (w w1 : World) (bx n : Nat) (r t p : Array Value) : Prop where
  res : Blk w1 w.heap.size 59 r
  on : Blk w1 (w.heap.size + 1) 74 t
  spl : Blk w1 (w.heap.size + 1 + 1) 59 p
  below : Below w.heap.size w w1
  nx : w1.cell? ⟨bx, 1, none⟩ = some (.int .i64 (n : Int))

theorem M3.set {w w1 : World} {bx n : Nat} {r t p : Array Value} (h : M3 w w1 bx n r t p) (hbx : bx < w.heap.size) (i : Nat) (u : Value) : M3 w (w1.setCell ⟨w.heap.size + 1 + 1, i, none⟩ u) bx n r t (p.setIfInBounds i u) :=
  ⟨h.res.far (by simp only; omega) u, h.on.far (by simp only; omega) u, h.spl.set i u, h.below.setCell (by simp only; omega) u, by rw [World.cell?_setCell_other _ _ _ _ (fun e => by injection e; omega)]; exact h.nx⟩
theorem M3.rcells {w w1 : World} {bx n : Nat} {a b c d e : Value} {t p : Array Value} (h : M3 w w1 bx n #[a, b, c, d, e] t p) :
    w1.cell? ⟨w.heap.size, 0, none⟩ = some a ∧ w1.cell? ⟨w.heap.size, 1, none⟩ = some b ∧ w1.cell? ⟨w.heap.size, 2, none⟩ = some c ∧ w1.cell? ⟨w.heap.size, 3, none⟩ = some d ∧ w1.cell? ⟨w.heap.size, 4, none⟩ = some e ∧
    w1.frozen? ⟨w.heap.size, 0, none⟩ = false ∧ w1.frozen? ⟨w.heap.size, 1, none⟩ = false ∧ w1.frozen? ⟨w.heap.size, 2, none⟩ = false ∧ w1.frozen? ⟨w.heap.size, 3, none⟩ = false ∧ w1.frozen? ⟨w.heap.size, 4, none⟩ = false :=
  ⟨h.res.cell 0, h.res.cell 1, h.res.cell 2, h.res.cell 3, h.res.cell 4, h.res.frozen 0, h.res.frozen 1, h.res.frozen 2, h.res.frozen 3, h.res.frozen 4⟩
theorem M3.scells {w w1 : World} {bx n : Nat} {a b c d e : Value} {t r : Array Value} (h : M3 w w1 bx n r t #[a, b, c, d, e]) :
    w1.cell? ⟨w.heap.size + 1 + 1, 0, none⟩ = some a ∧ w1.cell? ⟨w.heap.size + 1 + 1, 1, none⟩ = some b ∧ w1.cell? ⟨w.heap.size + 1 + 1, 2, none⟩ = some c ∧ w1.cell? ⟨w.heap.size + 1 + 1, 3, none⟩ = some d ∧ w1.cell? ⟨w.heap.size + 1 + 1, 4, none⟩ = some e ∧
    w1.frozen? ⟨w.heap.size + 1 + 1, 2, none⟩ = false ∧ w1.frozen? ⟨w.heap.size + 1 + 1, 3, none⟩ = false ∧ w1.frozen? ⟨w.heap.size + 1 + 1, 4, none⟩ = false :=
  ⟨h.spl.cell 0, h.spl.cell 1, h.spl.cell 2, h.spl.cell 3, h.spl.cell 4, h.spl.frozen 2, h.spl.frozen 3, h.spl.frozen 4⟩
theorem M3.tcells {w w1 : World} {bx n : Nat} {a b : Value} {r p : Array Value} (h : M3 w w1 bx n r #[a, b] p) : w1.cell? ⟨w.heap.size + 1, 0, none⟩ = some a ∧ w1.cell? ⟨w.heap.size + 1, 1, none⟩ = some b := ⟨h.on.cell 0, h.on.cell 1⟩
theorem M3.drew {w w1 : World} {bx n : Nat} {r t p : Array Value} (h : M3 w w1 bx n r t p) : M3 w w1.drew bx n r t p := ⟨h.res, h.on, h.spl, h.below.drew, h.nx⟩

set_option maxHeartbeats 400000 in
theorem may_fork (bx g cap n m : Nat) (ts : List (Nat × Nat)) (w : World) (h : St w bx g cap ts n) (hm : ts.length = m + 1) (hl : m ≤ 1000) (hn : n ≤ 1000) :
    Calls Try.prog 29 #[.pointer (some ⟨bx, 0, none⟩), .int .i64 1] w (Mayed w (S.may ts n 1)) := by
  obtain ⟨c0, c1⟩ := h.cells hm
  have hbl := h.box.lt
  have hgl := h.row.lt
  obtain ⟨s, j, hsj, ca, cb⟩ := h.at_ m (by omega)
  have HR : Hid (S.may ts n 1 = ((1, (s : Int), (n : Int), (n : Int) + 1, if j = 0 then (n : Int) + 2 else (j : Int)), true)) := by
    refine Lib.hid ?_
    unfold S.may
    rw [hm, Nat.add_sub_cancel, hsj]
    rfl
  clear hm hsj h
  by_cases hj : j = 0
  · have q1 : ((j : Int) == 0) = true := by simp; omega
    have HJ := Lib.hid hj
    clear hj
    have wk : IntKind.i64.wrap ((n : Int) + 1) = (n : Int) + 1 := IntWalk.i64_in _ (by omega)
    go_enter Try.func29, Try.ntmps29
    go_wp2
    obtain ⟨n1, n2, n3, n4⟩ := three_new w 59 74 59 #[.int .i64 0, .int .i64 0, .int .i64 0, .int .i64 0, .int .i64 0] #[.int .i64 (s : Int), .int .i64 (j : Int)] #[.int .i64 1, .int .i64 (s : Int), .int .i64 0, .int .i64 0, .int .i64 (j : Int)]
    have M := M3.mk (bx := bx) (n := n) n1 n2 n3 n4 ((n4.cell (p := ⟨bx, 1, none⟩) hbl).trans c1)
    generalize ((w.alloc (.cells #[.int .i64 0, .int .i64 0, .int .i64 0, .int .i64 0, .int .i64 0] 59)).alloc (.cells #[.int .i64 (s : Int), .int .i64 (j : Int)] 74)).alloc (.cells #[.int .i64 1, .int .i64 (s : Int), .int .i64 0, .int .i64 0, .int .i64 (j : Int)] 59) = w1 at M ⊢
    clear n1 n2 n3 n4 c0 c1 ca cb
    have d1 := M.nx
    have d2 := M.spl.at_ (i := 2) rfl
    have d3 := M.spl.at_ (i := 3) rfl
    have f2 := M.spl.frozen 2
    have f3 := M.spl.frozen 3
    go_region
    have M2 := ((M.set hbl 2 (.int .i64 (n : Int))).set hbl 3 (.int .i64 ((n : Int) + 1))).drew
    generalize ((w1.setCell ⟨w.heap.size + 1 + 1, 2, none⟩ (.int .i64 (n : Int))).setCell ⟨w.heap.size + 1 + 1, 3, none⟩ (.int .i64 ((n : Int) + 1))).drew = w2 at M2 ⊢
    clear d1 d2 d3 f2 f3 M wk
    have M4 : M3 w w2 bx n #[.int .i64 0, .int .i64 0, .int .i64 0, .int .i64 0, .int .i64 0] #[.int .i64 (s : Int), .int .i64 (j : Int)] #[.int .i64 1, .int .i64 (s : Int), .int .i64 (n : Int), .int .i64 ((n : Int) + 1), .int .i64 (j : Int)] := by simpa using M2
    obtain ⟨x0, x1, x2, x3, x4, y0, y1, y2, y3, y4⟩ := M4.rcells
    obtain ⟨s0, s1, s2, s3, s4, z2, z3, z4⟩ := M4.scells
    obtain ⟨t0, t1⟩ := M4.tcells
    have e1 := M4.nx
    have hB := M4.below
    clear M2
    go_wp2_with fail
    refine bodyPost_ret (v := .tuple #[.agg #[.int .i64 1, .int .i64 s, .int .i64 n, .int .i64 (n + 1), .int .i64 (n + 2)], .bool true]) (by simp [results, Try.results29, go_sem, x0, x1, x2, x3, x4]) rfl ?_
    rw [HR.out, if_pos HJ.out]
    refine ⟨rfl, ?_⟩
    exact (((((hB.setCell (by simp only; omega) _).setCell (Nat.le_refl _) _).setCell (Nat.le_refl _) _).setCell (Nat.le_refl _) _).setCell (Nat.le_refl _) _).setCell (Nat.le_refl _) _
  · have q1 : ((j : Int) == 0) = false := by simp; omega
    have HJ := Lib.hid hj
    clear hj
    have wk : IntKind.i64.wrap ((n : Int) + 1) = (n : Int) + 1 := IntWalk.i64_in _ (by omega)
    go_enter Try.func29, Try.ntmps29
    go_wp2
    obtain ⟨n1, n2, n3, n4⟩ := three_new w 59 74 59 #[.int .i64 0, .int .i64 0, .int .i64 0, .int .i64 0, .int .i64 0] #[.int .i64 (s : Int), .int .i64 (j : Int)] #[.int .i64 1, .int .i64 (s : Int), .int .i64 0, .int .i64 0, .int .i64 (j : Int)]
    have M := M3.mk (bx := bx) (n := n) n1 n2 n3 n4 ((n4.cell (p := ⟨bx, 1, none⟩) hbl).trans c1)
    generalize ((w.alloc (.cells #[.int .i64 0, .int .i64 0, .int .i64 0, .int .i64 0, .int .i64 0] 59)).alloc (.cells #[.int .i64 (s : Int), .int .i64 (j : Int)] 74)).alloc (.cells #[.int .i64 1, .int .i64 (s : Int), .int .i64 0, .int .i64 0, .int .i64 (j : Int)] 59) = w1 at M ⊢
    clear n1 n2 n3 n4 c0 c1 ca cb
    have d1 := M.nx
    have d2 := M.spl.at_ (i := 2) rfl
    have d3 := M.spl.at_ (i := 3) rfl
    have f2 := M.spl.frozen 2
    have f3 := M.spl.frozen 3
    go_region
    have M2 := ((M.set hbl 2 (.int .i64 (n : Int))).set hbl 3 (.int .i64 ((n : Int) + 1))).drew
    generalize ((w1.setCell ⟨w.heap.size + 1 + 1, 2, none⟩ (.int .i64 (n : Int))).setCell ⟨w.heap.size + 1 + 1, 3, none⟩ (.int .i64 ((n : Int) + 1))).drew = w2 at M2 ⊢
    clear d1 d2 d3 f2 f3 M wk
    have M4 : M3 w w2 bx n #[.int .i64 0, .int .i64 0, .int .i64 0, .int .i64 0, .int .i64 0] #[.int .i64 (s : Int), .int .i64 (j : Int)] #[.int .i64 1, .int .i64 (s : Int), .int .i64 (n : Int), .int .i64 ((n : Int) + 1), .int .i64 (j : Int)] := by simpa using M2
    obtain ⟨x0, x1, x2, x3, x4, y0, y1, y2, y3, y4⟩ := M4.rcells
    obtain ⟨s0, s1, s2, s3, s4, z2, z3, z4⟩ := M4.scells
    obtain ⟨t0, t1⟩ := M4.tcells
    have e1 := M4.nx
    have hB := M4.below
    clear M2
    go_wp2_with fail
    refine bodyPost_ret (v := .tuple #[.agg #[.int .i64 1, .int .i64 s, .int .i64 n, .int .i64 (n + 1), .int .i64 j], .bool true]) (by simp [results, Try.results29, go_sem, x0, x1, x2, x3, x4]) rfl ?_
    rw [HR.out, if_neg HJ.out]
    refine ⟨rfl, ?_⟩
    exact ((((hB.setCell (Nat.le_refl _) _).setCell (Nat.le_refl _) _).setCell (Nat.le_refl _) _).setCell (Nat.le_refl _) _).setCell (Nat.le_refl _) _

set_option maxHeartbeats 400000 in
theorem may_none (bx g cap n m : Nat) (ts : List (Nat × Nat))  (kind : Int) (w : World) (h : St w bx g cap ts n) (hm : ts.length = m + 1) (hl : m ≤ 1000) (hn : n ≤ 1000) (k1 : kind ≠ 1) (k2 : kind ≠ 2) (k3 : kind ≠ 3) :
    Calls Try.prog 29 #[.pointer (some ⟨bx, 0, none⟩), .int .i64 kind] w (Mayed w (S.may ts n kind)) := by
  obtain ⟨c0, c1⟩ := h.cells hm
  have hbl := h.box.lt
  have hgl := h.row.lt
  obtain ⟨s, j, hsj, ca, cb⟩ := h.at_ m (by omega)
  have HR : Hid (S.may ts n kind = ((0, 0, 0, 0, 0), false)) := by
    refine Lib.hid ?_
    unfold S.may
    rw [if_neg k1, if_neg k2, if_neg k3]
  have q1 : (kind == 1) = false := by simpa using k1
  have q2 : (kind == 2) = false := by simpa using k2
  have q3 : (kind == 3) = false := by simpa using k3
  clear hm hsj h k1 k2 k3
  go_enter Try.func29, Try.ntmps29
  go_wp2
  refine bodyPost_ret (v := .tuple #[.agg #[.int .i64 0, .int .i64 0, .int .i64 0, .int .i64 0, .int .i64 0], .bool false]) (by simp [results, Try.results29, go_sem]) rfl ?_
  rw [HR.out]
  refine ⟨rfl, ?_⟩
  exact (three_new w _ _ _ _ _ _).2.2.2

set_option maxHeartbeats 400000 in
theorem may_end_no (bx g cap n m : Nat) (ts : List (Nat × Nat)) (w : World) (h : St w bx g cap ts n) (hm : ts.length = m + 1) (hl : m ≤ 1000) (hn : n ≤ 1000) (hno : m < 1 ∨ (ts.getD m (0, 0)).2 ≠ 0) :
    Calls Try.prog 29 #[.pointer (some ⟨bx, 0, none⟩), .int .i64 2] w (Mayed w (S.may ts n 2)) := by
  obtain ⟨c0, c1⟩ := h.cells hm
  have hbl := h.box.lt
  have hgl := h.row.lt
  obtain ⟨s, j, hsj, ca, cb⟩ := h.at_ m (by omega)
  have HR : Hid (S.may ts n 2 = ((0, 0, 0, 0, 0), false)) := by
    refine Lib.hid ?_
    unfold S.may
    rw [if_neg (by omega), if_pos rfl, if_pos]
    rw [hm, Nat.add_sub_cancel]
    rcases hno with h1 | h1
    · left; omega
    · exact .inr h1
  rw [hsj] at hno
  clear hm hsj h
  by_cases hm1 : m < 1
  · have q2 : decide ((m : Int) < 1) = true := by simp; omega
    go_enter Try.func29, Try.ntmps29
    go_wp2
    refine bodyPost_ret (v := .tuple #[.agg #[.int .i64 0, .int .i64 0, .int .i64 0, .int .i64 0, .int .i64 0], .bool false]) (by simp [results, Try.results29, go_sem]) rfl ?_
    rw [HR.out]
    refine ⟨rfl, ?_⟩
    exact (three_new w _ _ _ _ _ _).2.2.2
  · have q2 : decide ((m : Int) < 1) = false := by simp; omega
    have q3 : ((j : Int) != 0) = true := by simp; omega
    go_enter Try.func29, Try.ntmps29
    go_wp2
    refine bodyPost_ret (v := .tuple #[.agg #[.int .i64 0, .int .i64 0, .int .i64 0, .int .i64 0, .int .i64 0], .bool false]) (by simp [results, Try.results29, go_sem]) rfl ?_
    rw [HR.out]
    refine ⟨rfl, ?_⟩
    exact (three_new w _ _ _ _ _ _).2.2.2

set_option maxHeartbeats 400000 in
theorem may_end_yes (bx g cap n m : Nat) (ts : List (Nat × Nat)) (w : World) (h : St w bx g cap ts n) (hm : ts.length = m + 1) (hl : m ≤ 1000) (hn : n ≤ 1000) (hm1 : 1 ≤ m) (hno : (ts.getD m (0, 0)).2 = 0) :
    Calls Try.prog 29 #[.pointer (some ⟨bx, 0, none⟩), .int .i64 2] w (Mayed w (S.may ts n 2)) := by
  obtain ⟨c0, c1⟩ := h.cells hm
  have hbl := h.box.lt
  have hgl := h.row.lt
  obtain ⟨s, j, hsj, ca, cb⟩ := h.at_ m (by omega)
  obtain ⟨s2, j2, hsj2, ca2, cb2⟩ := h.at_ (m - 1) (by omega)
  rw [hsj] at hno
  have HR : Hid (S.may ts n 2 = ((2, (s : Int), 0, 0, (j2 : Int)), true)) := by
    refine Lib.hid ?_
    unfold S.may
    rw [if_neg (by omega), if_pos rfl, if_neg]
    · rw [hm, Nat.add_sub_cancel, hsj, show m + 1 - 2 = m - 1 by omega, hsj2]
    · rw [hm, Nat.add_sub_cancel, hsj]
      intro h1
      rcases h1 with h1 | h1
      · omega
      · exact h1 hno
  have q2 : decide ((m : Int) < 1) = false := by simp; omega
  have q3 : ((j : Int) != 0) = false := by simp at hno ⊢; omega
  have k0 := old3 c0
  have k2 := old3 cb2
  clear hm hsj h hsj2 hno
  go_enter Try.func29, Try.ntmps29
  go_wp2
  refine bodyPost_ret (v := .tuple #[.agg #[.int .i64 2, .int .i64 s, .int .i64 0, .int .i64 0, .int .i64 j2], .bool true]) (by simp [results, Try.results29, go_sem]) rfl ?_
  rw [HR.out]
  refine ⟨rfl, ?_⟩
  exact (three_new w _ _ _ _ _ _).2.2.2

set_option maxHeartbeats 400000 in
theorem may_join (bx g cap n m : Nat) (ts : List (Nat × Nat)) (w : World) (h : St w bx g cap ts n) (hm : ts.length = m + 1) (hl : m ≤ 1000) (hn : n ≤ 1000) :
    Calls Try.prog 29 #[.pointer (some ⟨bx, 0, none⟩), .int .i64 3] w (Mayed w (S.may ts n 3)) := by
  obtain ⟨c0, c1⟩ := h.cells hm
  have hbl := h.box.lt
  have hgl := h.row.lt
  obtain ⟨s, j, hsj, ca, cb⟩ := h.at_ m (by omega)
  have HR : Hid (S.may ts n 3 = ((3, (s : Int), 0, 0, (j : Int)), decide (j ≠ 0))) := by
    refine Lib.hid ?_
    unfold S.may
    rw [if_neg (by omega), if_neg (by omega), if_pos rfl, hm, Nat.add_sub_cancel, hsj]
  have HD : Hid (((j : Int) != 0) = decide (j ≠ 0)) := by
    refine Lib.hid ?_
    rw [Bool.eq_iff_iff]
    simp
  clear hm hsj h
  go_enter Try.func29, Try.ntmps29
  go_wp2
  obtain ⟨n1, n2, n3, n4⟩ := three_new w 59 74 59 #[.int .i64 0, .int .i64 0, .int .i64 0, .int .i64 0, .int .i64 0] #[.int .i64 (s : Int), .int .i64 (j : Int)] #[.int .i64 3, .int .i64 (s : Int), .int .i64 0, .int .i64 0, .int .i64 (j : Int)]
  have M4 := M3.mk (bx := bx) (n := n) n1 n2 n3 n4 ((n4.cell (p := ⟨bx, 1, none⟩) hbl).trans c1)
  generalize ((w.alloc (.cells #[.int .i64 0, .int .i64 0, .int .i64 0, .int .i64 0, .int .i64 0] 59)).alloc (.cells #[.int .i64 (s : Int), .int .i64 (j : Int)] 74)).alloc (.cells #[.int .i64 3, .int .i64 (s : Int), .int .i64 0, .int .i64 0, .int .i64 (j : Int)] 59) = w2 at M4 ⊢
  clear n1 n2 n3 n4 c0 c1 ca cb
  obtain ⟨x0, x1, x2, x3, x4, y0, y1, y2, y3, y4⟩ := M4.rcells
  obtain ⟨s0, s1, s2, s3, s4, z2, z3, z4⟩ := M4.scells
  obtain ⟨t0, t1⟩ := M4.tcells
  have hB := M4.below
  go_region
  all_goals
    go_wp2_with fail
    refine bodyPost_ret (v := .tuple #[.agg #[.int .i64 3, .int .i64 s, .int .i64 0, .int .i64 0, .int .i64 j], .bool ((j : Int) != 0)]) (by simp [results, Try.results29, go_sem, x0, x1, x2, x3, x4]) rfl ?_
    rw [HR.out]
    refine ⟨by rw [HD.out], ?_⟩
    exact (((((hB.setCell (Nat.le_refl _) _).setCell (Nat.le_refl _) _).setCell (Nat.le_refl _) _).setCell (Nat.le_refl _) _).setCell (Nat.le_refl _) _).drew

theorem may_any (bx g cap n : Nat) (ts : List (Nat × Nat)) (kind : Int) (w : World) (h : St w bx g cap ts n) (hm : 0 < ts.length) (hl : ts.length ≤ 1000) (hn : n ≤ 1000) :
    Calls Try.prog 29 #[.pointer (some ⟨bx, 0, none⟩), .int .i64 kind] w (Mayed w (S.may ts n kind)) := by
  obtain ⟨m, hm⟩ : ∃ m, ts.length = m + 1 := ⟨ts.length - 1, by omega⟩
  by_cases k1 : kind = 1
  · subst k1; exact may_fork bx g cap n m ts w h hm (by omega) hn
  by_cases k2 : kind = 2
  · subst k2
    by_cases hno : m < 1 ∨ (ts.getD m (0, 0)).2 ≠ 0
    · exact may_end_no bx g cap n m ts w h hm (by omega) hn hno
    · exact may_end_yes bx g cap n m ts w h hm (by omega) hn (by omega) (by omega)
  by_cases k3 : kind = 3
  · subst k3; exact may_join bx g cap n m ts w h hm (by omega) hn
  exact may_none bx g cap n m ts kind w h hm (by omega) hn k1 k2 k3
end Go.Proofs.Ytahhihhfjimppaa
/- append onto a row of the call's own, from whatever source: a slice (nil, empty or not), or a string -/
namespace Go.Proofs.Ytahhihhfjimppaa
open Go.RowKit
set_option linter.unusedSimpArgs false
set_option linter.unusedVariables false

section
variable {P : Program} (w : World)
theorem src_rd {tx e' : TypeId} (hk : P.underlying tx = some (.slice e')) {B : Nat} {A : Option Addr} {n c : Nat} {news : List Value} (hn : n = news.length) (h : Rd w B A news) (h1 : ∀ u ∈ news, u.oneCell' = true) :
    Src P 1 tx (.slice A n c) n news w := by
  subst hn
  rcases A with _ | ad
  · have : news = [] := by
      rcases h with h | ⟨b, off, h, _⟩
      · exact h
      · cases h
    subst this
    exact Src.ofNil w hk c
  · refine Src.ofSlice w hk ad _ c news (by simp) (fun j u hu => ?_) h1
    rcases h with rfl | ⟨b, off, h, hb, hc⟩
    · simp at hu
    · injection h with h
      subst h
      rw [Addr.add_lit]
      exact hc j u hu

theorem run_app (base : Nat) (t tx ty e : TypeId) (i : TypeInfo) (z : Value) (size bytes : Nat) (ht : P.underlying t = some (.slice e)) (hi : P.info? e = some i) (hz : i.zero = some z)
    (hsize : i.size = size) (hby : i.bytes = bytes) (hzs : z.cells.size = size) (hsz : 0 < size)
    (v : Value) (n : Nat) (xs : List Value) (hown : w.ownsRow base e size v n xs) (x : Value) (m : Nat) (news : List Value) (hs : Src P size tx x m news w)
    (h63 : n + m ≤ maxLen) (hbytes : (n + m) * bytes ≤ 140737488355328) (hbase : base ≤ w.heap.size) :
    ∃ v' w', (Builtin.append_ #[t, tx] ty #[v, x]).run P w = .ok v' w' ∧ w'.ownsRow base e size v' (n + m) (xs ++ news) ∧ w.grownBy w' v.ownBlock ∧
      (v'.ownBlock = v.ownBlock ∨ v'.ownBlock = some (w.heap.size + 0)) := by
  subst hsize
  subst hby
  have hl := hs.newsLen
  have hlen : (xs ++ news).length = (n + m) * i.size := by rw [List.length_append, hown.1, hl, Nat.add_mul]
  have grown : ∀ (old : Nat) (row : Option Nat),
      (w.drew.alloc (.cells ((xs ++ news).toArray ++ Builtin.zeroCells z.cells (grownCap w (n + m) old e - (n + m))) e)).ownsRow base e i.size
        (.slice (some ⟨w.heap.size, 0, none⟩) (n + m) (grownCap w (n + m) old e)) (n + m) (xs ++ news) ∧
      w.grownBy (w.drew.alloc (.cells ((xs ++ news).toArray ++ Builtin.zeroCells z.cells (grownCap w (n + m) old e - (n + m))) e)) row := by
    intro old row
    have hge := grownCap_ge w (n + m) old e
    have hcm : grownCap w (n + m) old e ≤ maxLen := grownCap_le_maxLen w (n + m) old e h63
    refine ⟨⟨hlen, .inr ⟨w.heap.size, _, _, rfl, hbase, heap_alloc_new w.drew _, hge, hcm, ?_, ?_⟩⟩, ⟨rfl, rfl, rfl, by simp, fun k hk _ => Below.heap_alloc w.drew _ k hk⟩⟩
    · rw [Array.size_append, List.size_toArray, size_zeroCells, hzs, hlen, ← Nat.add_mul]
      congr 1
      omega
    · rw [Array.toList_append, ← hlen]
      exact List.take_left
  rcases hown.2 with ⟨rfl, rfl⟩ | ⟨g, cap, cur, rfl, hbg, hg, hnc, hcm, hcs, htake⟩
  · have hx : xs = [] := List.eq_nil_of_length_eq_zero (by simpa using hown.1)
    subst hx
    by_cases hm : m = 0
    · subst hm
      have hn : news = [] := List.eq_nil_of_length_eq_zero (by simpa using hl)
      subst hn
      refine ⟨.slice none 0 0, w, ?_, World.ownsRow_nil w base e i.size, World.grownBy.refl _ _, Or.inl rfl⟩
      rcases hs.kind with ⟨e', hk⟩ | hk <;> simp [Builtin.append_, run_underlying ht, run_underlying hk, sizeOf, typeInfo, hi, hs.len, hs.cells]
    · have hr := run_append_grow_src (P := P) w t tx ty e i z ht hi hz none 0 0 [] (run_firstCells_none w.drew _ _ _ _) x m news hs (by omega) (by simp only [maxLen] at h63; omega) (growslice_fits (by omega) hbytes)
      have hgr := grown 0 (Value.ownBlock (.slice none 0 0))
      exact ⟨_, _, hr, hgr.1, hgr.2, Or.inr rfl⟩
  · by_cases hroom : n + m ≤ cap
    · have hfit : n * i.size + news.length ≤ cur.size := by rw [hl, hcs, ← Nat.add_mul]; exact Nat.mul_le_mul_right _ hroom
      have hst := run_storeCells_at P g (n * i.size) e news 0 cur w hg (by simpa using hfit) hs.one
      simp only [Nat.add_zero] at hst
      have hr : (Builtin.append_ #[t, tx] ty #[.slice (some ⟨g, 0, none⟩) n cap, x]).run P w =
          .ok (.slice (some ⟨g, 0, none⟩) (n + m) cap) (w.setRow g (cur.toList.take (n * i.size) ++ news ++ cur.toList.drop (n * i.size + news.length)).toArray) := by
        rcases hs.kind with ⟨e', hk⟩ | hk <;> simp [Builtin.append_, run_underlying ht, run_underlying hk, sizeOf, typeInfo, hi, hs.len, hroom, hs.cells, Addr.add_lit, hst]
      refine ⟨_, _, hr, ⟨hlen, .inr ⟨g, cap, _, rfl, hbg, setRow_heap w g cur _ e _ hg, hroom, hcm, ?_, ?_⟩⟩, ⟨rfl, rfl, rfl, by simp, fun k _ hk => setRow_other w g k _ (fun e => hk (by simp [Value.ownBlock, e]))⟩, Or.inl rfl⟩
      · simp only [List.size_toArray, List.length_append, List.length_take, List.length_drop, Array.length_toList]
        omega
      · rw [htake, ← hlen]
        exact List.take_left
    · have holds : (Builtin.firstCells i.size n (.slice (some ⟨g, 0, none⟩) n cap)).run P w.drew = .ok xs.toArray w.drew :=
        run_firstCells_some w.drew i.size n ⟨g, 0, none⟩ n cap xs hown.1 (by simpa using hown.cells (g := g) rfl)
      have hr := run_append_grow_src (P := P) w t tx ty e i z ht hi hz (some ⟨g, 0, none⟩) n cap xs holds x m news hs (by omega) (by simp only [maxLen] at h63; omega) (growslice_fits (by omega) hbytes)
      have hgr := grown cap (Value.ownBlock (.slice (some ⟨g, 0, none⟩) n cap))
      exact ⟨_, _, hr, hgr.1, hgr.2, Or.inr rfl⟩

theorem wp_app {o : Oper} {a : Act} {K : Act → World → Prop} {Q : Exit → Act → World → Prop} (s x : Operand) (t tx : TypeId)
    (ho : o.op = .call { callee := .builtin .append, args := #[s, x], argTypes := #[t, tx] })
    (base : Nat) (e : TypeId) (i : TypeInfo) (z : Value) (size bytes : Nat) (ht : P.underlying t = some (.slice e)) (hi : P.info? e = some i) (hz : i.zero = some z)
    (hsize : i.size = size) (hby : i.bytes = bytes) (hzs : z.cells.size = size) (hsz : 0 < size)
    (v : Value) (n : Nat) (xs : List Value) (hv : a.eval s = v) (hown : w.ownsRow base e size v n xs) (xv : Value) (m : Nat) (news : List Value) (hx : a.eval x = xv) (hs : Src P size tx xv m news w)
    (h63 : n + m ≤ maxLen) (hbytes : (n + m) * bytes ≤ 140737488355328) (hbase : base ≤ w.heap.size)
    (h : ∀ v' w', w'.ownsRow base e size v' (n + m) (xs ++ news) → w.grownBy w' v.ownBlock → (v'.ownBlock = v.ownBlock ∨ v'.ownBlock = some (w.heap.size + 0)) → K (a.put o.dst v') w') : o.wp P a w K Q := by
  obtain ⟨v', w', hrun, h2, h3, h4⟩ := run_app (P := P) w base t tx o.type e i z size bytes ht hi hz hsize hby hzs hsz v n xs hown xv m news hs h63 hbytes hbase
  unfold Oper.wp execOp
  simp only [ho, resolve, invoke, builtin, Sem.run_bind, Sem.run_pure, Result.andThen_ok, List.map_toArray, List.map_cons, List.map_nil, hv, hx, hrun]
  exact h v' w' h2 h3 h4

/-- at the operation, in a walk -/
theorem wpList_app {ops : Array Oper} {rest : List Oper} {o : Oper} {a : Act} {Q : Exit → Act → World → Prop} (hgd : o.guard = none) (s x : Operand) (t tx : TypeId)
    (ho : o.op = .call { callee := .builtin .append, args := #[s, x], argTypes := #[t, tx] })
    (base : Nat) (e : TypeId) (i : TypeInfo) (z : Value) (size bytes : Nat) (ht : P.underlying t = some (.slice e)) (hi : P.info? e = some i) (hz : i.zero = some z)
    (hsize : i.size = size) (hby : i.bytes = bytes) (hzs : z.cells.size = size) (hsz : 0 < size)
    (v : Value) (n : Nat) (xs : List Value) (hv : a.eval s = v) (hown : w.ownsRow base e size v n xs) (xv : Value) (m : Nat) (news : List Value) (hx : a.eval x = xv) (hs : Src P size tx xv m news w)
    (h63 : n + m ≤ maxLen) (hbytes : (n + m) * bytes ≤ 140737488355328) (hbase : base ≤ w.heap.size)
    (h : ∀ v' w', w'.ownsRow base e size v' (n + m) (xs ++ news) → w.grownBy w' v.ownBlock → (v'.ownBlock = v.ownBlock ∨ v'.ownBlock = some (w.heap.size + 0)) → wpList P ops Q rest (a.put o.dst v') w') : wpList P ops Q (o :: rest) a w :=
  wpList_plain hgd fun _ hK => wp_app w s x t tx ho base e i z size bytes ht hi hz hsize hby hzs hsz v n xs hv hown xv m news hx hs h63 hbytes hbase fun v' w' h2 h3 h4 => hK _ _ (h v' w' h2 h3 h4)
end
end Go.Proofs.Ytahhihhfjimppaa
/- the append law, for regions that draw their order -/
namespace Go.Proofs.Ytahhihhfjimppaa
open Go.RowKit
set_option linter.unusedSimpArgs false
set_option linter.unusedVariables false

theorem step_app {P : Program} (w : World) {ops : Array Oper} {o : Oper} {a : Act} {K : Act → World → Prop} {Q : Exit → Act → World → Prop} {E : Prop} (hgd : o.guard = none) (s x : Operand) (t tx : TypeId)
    (ho : o.op = .call { callee := .builtin .append, args := #[s, x], argTypes := #[t, tx] })
    (base : Nat) (e : TypeId) (i : TypeInfo) (z : Value) (size bytes : Nat) (ht : P.underlying t = some (.slice e)) (hi : P.info? e = some i) (hz : i.zero = some z)
    (hsize : i.size = size) (hby : i.bytes = bytes) (hzs : z.cells.size = size) (hsz : 0 < size)
    (v : Value) (n : Nat) (xs : List Value) (hv : a.eval s = v) (hown : w.ownsRow base e size v n xs) (xv : Value) (m : Nat) (news : List Value) (hx : a.eval x = xv) (hs : Src P size tx xv m news w)
    (h63 : n + m ≤ maxLen) (hbytes : (n + m) * bytes ≤ 140737488355328) (hbase : base ≤ w.heap.size)
    (h : ∀ v' w', w'.ownsRow base e size v' (n + m) (xs ++ news) → w.grownBy w' v.ownBlock → (v'.ownBlock = v.ownBlock ∨ v'.ownBlock = some (w.heap.size + 0)) → K (a.put o.dst v') w') :
    if Region.wanted o (yielded ops a.tmps) = true then Oper.wp P o a w K Q else E := by
  have hw : Region.wanted o (yielded ops a.tmps) = true := by simp [Region.wanted, hgd]
  rw [if_pos hw]
  exact wp_app w s x t tx ho base e i z size bytes ht hi hz hsize hby hzs hsz v n xs hv hown xv m news hx hs h63 hbytes hbase h

end Go.Proofs.Ytahhihhfjimppaa
/- walks: the state's turn -/
namespace Go.Proofs.Ytahhihhfjimppaa
open Go.RowKit
set_option linter.unusedSimpArgs false
set_option linter.unusedVariables false
set_option maxRecDepth 100000

theorem info_task : (Try.prog.info? 74).map (fun i => (i.zero, i.size, i.bytes)) = some (some (.agg #[.int .i64 0, .int .i64 0]), 2, 16) := by kernel_rfl
theorem tcs_set (ts : List (Nat × Nat)) (k : Nat) (s j : Nat) : ((tcs ts).set (k * 2) (.int .i64 (s : Int))).set (k * 2 + 1) (.int .i64 (j : Int)) = tcs (ts.set k (s, j)) := by
  induction ts generalizing k with
  | nil => rfl
  | cons t ts ih =>
    have e : tcs (t :: ts) = Value.int .i64 (t.1 : Int) :: Value.int .i64 (t.2 : Int) :: tcs ts := rfl
    rw [e]
    cases k with
    | zero => rfl
    | succ k =>
      rw [show (k + 1) * 2 = k * 2 + 1 + 1 by omega]
      simp only [List.set_cons_succ]
      rw [ih k]
      rfl
theorem tcs_append (a b : List (Nat × Nat)) : tcs (a ++ b) = tcs a ++ tcs b := by simp [tcs]
theorem tcs_take (ts : List (Nat × Nat)) (k : Nat) : tcs (ts.take k) = (tcs ts).take (k * 2) := by
  induction ts generalizing k with
  | nil => simp [tcs]
  | cons t ts ih =>
    have e : tcs (t :: ts) = Value.int .i64 (t.1 : Int) :: Value.int .i64 (t.2 : Int) :: tcs ts := rfl
    cases k with
    | zero => rfl
    | succ k =>
      rw [show (k + 1) * 2 = k * 2 + 1 + 1 by omega, e]
      simp only [List.take_succ_cons]
      rw [← ih k]
      rfl

theorem Own.take {w : World} {e : TypeId} {size g n cap m : Nat} {xs : List Value} (h : Own w e size g n cap xs) (hm : m ≤ n) : Own w e size g m cap (xs.take (m * size)) := by
  obtain ⟨cur, hb, h1, h2, h3, h4⟩ := h.blk
  have hle : m * size ≤ n * size := Nat.mul_le_mul_right _ hm
  refine ⟨by rw [List.length_take, h.len]; omega, .inr ⟨g, cap, cur, rfl, Nat.zero_le _, hb, by omega, h2, h3, ?_⟩⟩
  rw [← h4, List.take_take]
  congr 1
  omega
theorem St.set {w : World} {bx g cap n m : Nat} {ts : List (Nat × Nat)} (h : St w bx g cap ts n) (hm : ts.length = m + 1) (s j : Nat) :
    St ((w.setCell ⟨g, m * 2, none⟩ (.int .i64 (s : Int))).setCell ⟨g, m * 2 + 1, none⟩ (.int .i64 (j : Int))) bx g cap (ts.set m (s, j)) n := by
  refine ⟨?_, ?_, h.ne⟩
  · rw [List.length_set]
    exact (h.box.far (p := ⟨g, m * 2, none⟩) h.ne _).far (p := ⟨g, m * 2 + 1, none⟩) h.ne _
  · rw [List.length_set, ← tcs_set]
    exact (h.row.set _ _).set _ _
/-- what turn leaves -/
def Turned (w : World) (bx g : Nat) (ts : List (Nat × Nat)) (n : Nat) (e : Ending) (w' : World) : Prop :=
  e = .returned (.tuple #[]) ∧ ∃ g' cap', St w' bx g' cap' ts n ∧ Fr (fun k => k = bx ∨ k = g) w w' ∧ (g' = g ∨ w.heap.size ≤ g')

set_option maxHeartbeats 400000 in
theorem turn_end (bx g cap n m a d : Nat) (ts : List (Nat × Nat)) (w : World) (h : St w bx g cap ts n) (hm : ts.length = m + 1) (hl : m ≤ 1000) :
    Calls Try.prog 30 #[.pointer (some ⟨bx, 0, none⟩), .agg #[.int .i64 2, .int .i64 a, .int .i64 0, .int .i64 0, .int .i64 d]] w (Turned w bx g (ts.take m) n) := by
  obtain ⟨c0, c1⟩ := h.cells hm
  have hbl := h.box.lt
  have hgl := h.row.lt
  have f0 := h.box.frozen 0
  have hcap := h.row.caps
  rw [hm] at hcap
  obtain ⟨hcap1, hcap2⟩ := hcap
  go_enter Try.func30, Try.ntmps30
  go_wp2
  go_end0
  have hlt : (ts.take m).length = m := by rw [List.length_take]; omega
  refine ⟨rfl, g, cap, ⟨?_, ?_, h.ne⟩, ((Fr.refl _ w).setCell (.inl (.inl rfl)) _).alloc _, .inl rfl⟩
  · rw [hlt]
    have := (h.box.set 0 (.slice (some ⟨g, 0, none⟩) m cap)).alloc (.cells #[.int .i64 2, .int .i64 (a : Int), .int .i64 0, .int .i64 0, .int .i64 (d : Int)] 59)
    simpa using this
  · rw [hlt, tcs_take]
    exact ((h.row.take (m := m) (by omega)).far (p := ⟨bx, 0, none⟩) h.ne _).alloc _

set_option maxHeartbeats 400000 in
theorem turn_join (bx g cap n m a d : Nat) (ts : List (Nat × Nat)) (w : World) (h : St w bx g cap ts n) (hm : ts.length = m + 1) (hl : m ≤ 1000) :
    Calls Try.prog 30 #[.pointer (some ⟨bx, 0, none⟩), .agg #[.int .i64 3, .int .i64 a, .int .i64 0, .int .i64 0, .int .i64 d]] w (Turned w bx g (ts.set m (d, 0)) n) := by
  obtain ⟨c0, c1⟩ := h.cells hm
  have hbl := h.box.lt
  have hgl := h.row.lt
  obtain ⟨s, j, hsj, ca, cb⟩ := h.at_ m (by omega)
  go_enter Try.func30, Try.ntmps30
  go_wp2
  have hb1 := Blk.new w 59 #[.int .i64 3, .int .i64 (a : Int), .int .i64 0, .int .i64 0, .int .i64 (d : Int)]
  have h1 : St (w.alloc (.cells #[.int .i64 3, .int .i64 (a : Int), .int .i64 0, .int .i64 0, .int .i64 (d : Int)] 59)) bx g cap ts n := ⟨h.box.alloc _, h.row.alloc _, h.ne⟩
  have hf1 := (Fr.refl (fun k => k = bx ∨ k = g) w).alloc (.cells #[.int .i64 3, .int .i64 (a : Int), .int .i64 0, .int .i64 0, .int .i64 (d : Int)] 59)
  generalize w.alloc (.cells #[.int .i64 3, .int .i64 (a : Int), .int .i64 0, .int .i64 0, .int .i64 (d : Int)] 59) = w1 at hb1 h1 hf1 ⊢
  clear c0 c1 ca cb h
  obtain ⟨c0, c1⟩ := h1.cells hm
  obtain ⟨s, j, hsj, ca, cb⟩ := h1.at_ m (by omega)
  have fa := h1.row.frozen (m * 2)
  have fb := h1.row.frozen (m * 2 + 1)
  have x4 := hb1.at_ (i := 4) rfl
  clear hsj
  go_region
  all_goals
    go_end0
    have h2 := h1.set hm d 0
    exact ⟨rfl, g, cap, ⟨h2.box, h2.row, h2.ne⟩, ((hf1.setCell (.inl (.inr rfl)) _).setCell (.inl (.inr rfl)) _).drew, .inl rfl⟩

theorem fork_app {ops : Array Oper} {o : Oper} {a : Act} {K : Act → World → Prop} {Q : Exit → Act → World → Prop} {E : Prop} {w2 : World} {bx g cap n m b : Nat} {ts : List (Nat × Nat)} (h2 : St w2 bx g cap ts n) (hm : ts.length = m + 1) (hl : m ≤ 1000) (hgd : o.guard = none) (s x : Operand)
    (ho : o.op = .call { callee := .builtin .append, args := #[s, x], argTypes := #[75, 75] })
    (hs : a.eval s = .slice (some ⟨g, 0, none⟩) (m + 1) cap) (hx : a.eval x = .slice (some ⟨w2.heap.size, 0, none⟩) 1 1)
    (hk : ∀ g3 cap3 w3, Own w3 74 2 g3 (m + 1 + 1) cap3 (tcs (ts ++ [(b, 0)])) → Blk w3 bx 77 #[.slice (some ⟨g, 0, none⟩) (m + 1) cap, .int .i64 (n : Int)] → Fr (fun k => k = bx ∨ k = g) w2 w3 → bx ≠ g3 → (g3 = g ∨ w2.heap.size ≤ g3) → K (a.put o.dst (.slice (some ⟨g3, 0, none⟩) (m + 1 + 1) cap3)) w3) :
    if Region.wanted o (yielded ops a.tmps) = true then Oper.wp Try.prog o a (w2.drew.alloc (.cells #[.int .i64 (b : Int), .int .i64 0] 74)) K Q else E := by
  obtain ⟨i0, hi, hz0, hz1, hz2⟩ := info_parts info_task
  have b0 : bx < w2.heap.size := h2.box.lt
  have own2 : Own (w2.drew.alloc (.cells #[.int .i64 (b : Int), .int .i64 0] 74)) 74 2 g (m + 1) cap (tcs ts) := by
    have := h2.row
    rw [hm] at this
    exact (this : Own w2.drew 74 2 g (m + 1) cap (tcs ts)).alloc _
  have hf2 : Fr (fun k => k = bx ∨ k = g) w2 (w2.drew.alloc (.cells #[.int .i64 (b : Int), .int .i64 0] 74)) := ((Fr.refl _ w2).drew).alloc _
  have hb2 : Blk (w2.drew.alloc (.cells #[.int .i64 (b : Int), .int .i64 0] 74)) bx 77 #[.slice (some ⟨g, 0, none⟩) (m + 1) cap, .int .i64 (n : Int)] := by
    have := h2.box
    rw [hm] at this
    exact this.drew.alloc _
  refine step_append_lies _ hgd s x 75 ho 0 74 i0 _ 2 16 Try.underlying75 hi hz0 hz1 hz2 (by rfl) (by omega) (.slice (some ⟨g, 0, none⟩) (m + 1) cap) (m + 1) (tcs ts) hs own2 ⟨w2.heap.size, 0, none⟩ 1 1 [.int .i64 (b : Int), .int .i64 0] hx (by rfl) (World.news_of_block (cs := #[.int .i64 (b : Int), .int .i64 0]) (heap_alloc_new w2.drew _)) (by simp [Value.oneCell']) (by omega) (by simp only [maxLen]; omega) (by omega) (by simp) (w2.heap.size + 1) (by simp) ?_
  intro g3 cap3 w3 own3 hgrow hat hlt
  simp [Value.ownBlock] at hat
  have hne := h2.ne
  refine hk g3 cap3 w3 ?_ ?_ (hf2.grown hgrow (fun k hk => by simp [Value.ownBlock] at hk; subst hk; exact .inl (.inr rfl))) (by omega) (by omega)
  · rw [tcs_append]; exact own3
  · exact (hgrow.block bx (by simp; omega) (by simp [Value.ownBlock]; exact hne)).trans hb2

set_option maxHeartbeats 400000 in
theorem turn_fork (bx g cap n m a b c d : Nat) (ts : List (Nat × Nat)) (w : World) (h : St w bx g cap ts n) (hm : ts.length = m + 1) (hl : m ≤ 1000) (hc : c ≤ 1000) (hd : d ≤ 1000) :
    Calls Try.prog 30 #[.pointer (some ⟨bx, 0, none⟩), .agg #[.int .i64 1, .int .i64 a, .int .i64 b, .int .i64 c, .int .i64 d]] w (Turned w bx g (ts.set m (c, d) ++ [(b, 0)]) (max c d + 1)) := by
  obtain ⟨i0, hi, hz0, hz1, hz2⟩ := info_parts info_task
  obtain ⟨c0, c1⟩ := h.cells hm
  have hbl := h.box.lt
  have hgl := h.row.lt
  obtain ⟨s, j, hsj, ca, cb⟩ := h.at_ m (by omega)
  go_enter Try.func30, Try.ntmps30
  go_wp2
  have hb1 := Blk.new w 59 #[.int .i64 1, .int .i64 (a : Int), .int .i64 (b : Int), .int .i64 (c : Int), .int .i64 (d : Int)]
  have h1 : St (w.alloc (.cells #[.int .i64 1, .int .i64 (a : Int), .int .i64 (b : Int), .int .i64 (c : Int), .int .i64 (d : Int)] 59)) bx g cap ts n := ⟨h.box.alloc _, h.row.alloc _, h.ne⟩
  have hf1 := (Fr.refl (fun k => k = bx ∨ k = g) w).alloc (.cells #[.int .i64 1, .int .i64 (a : Int), .int .i64 (b : Int), .int .i64 (c : Int), .int .i64 (d : Int)] 59)
  generalize w.alloc (.cells #[.int .i64 1, .int .i64 (a : Int), .int .i64 (b : Int), .int .i64 (c : Int), .int .i64 (d : Int)] 59) = w1 at hb1 h1 hf1 ⊢
  clear c0 c1 ca cb h
  obtain ⟨c0, c1⟩ := h1.cells hm
  obtain ⟨s, j, hsj, ca, cb⟩ := h1.at_ m (by omega)
  have fa := h1.row.frozen (m * 2)
  have fb := h1.row.frozen (m * 2 + 1)
  have x3 := hb1.at_ (i := 3) rfl
  have x4 := hb1.at_ (i := 4) rfl
  clear hsj
  go_region
  all_goals
    have h2 : St ((w1.setCell ⟨g, m * 2, none⟩ (.int .i64 (c : Int))).setCell ⟨g, m * 2 + 1, none⟩ (.int .i64 (d : Int))).drew bx g cap (ts.set m (c, d)) n := by
      have h2 := h1.set hm c d
      exact ⟨h2.box, h2.row, h2.ne⟩
    have hb2 : Blk ((w1.setCell ⟨g, m * 2, none⟩ (.int .i64 (c : Int))).setCell ⟨g, m * 2 + 1, none⟩ (.int .i64 (d : Int))).drew _ _ _ := ((hb1.far (p := ⟨g, m * 2, none⟩) (Nat.ne_of_gt hgl) _).far (p := ⟨g, m * 2 + 1, none⟩) (Nat.ne_of_gt hgl) _).drew
    have hf2 := ((hf1.setCell (p := ⟨g, m * 2, none⟩) (.inl (.inr rfl)) (.int .i64 (c : Int))).setCell (p := ⟨g, m * 2 + 1, none⟩) (.inl (.inr rfl)) (.int .i64 (d : Int))).drew
    have hm2 : (ts.set m (c, d)).length = m + 1 := by simpa using hm
    generalize ((w1.setCell ⟨g, m * 2, none⟩ (.int .i64 (c : Int))).setCell ⟨g, m * 2 + 1, none⟩ (.int .i64 (d : Int))).drew = w2 at h2 hb2 hf2 ⊢
    clear c0 c1 ca cb fa fb x3 x4 h1 hb1 hf1
    generalize hts : ts.set m (c, d) = ts2 at h2 hm2
    have HTS := Lib.hid hts
    clear hts
    obtain ⟨c0, c1⟩ := h2.cells hm2
    have f0 := h2.box.frozen 0
    have f1 := h2.box.frozen 1
    have x2 := hb2.at_ (i := 2) rfl
    have x3 := hb2.at_ (i := 3) rfl
    have x4 := hb2.at_ (i := 4) rfl
    have b0 : bx < w2.heap.size := h2.box.lt
    go_wp2_with fail
    go_region_law ((refine fork_app h2 hm2 hl (b := b) (by rfl) (.tmp 30) (.tmp 34) (by rfl) (by rfl) (by rfl) ?_; intro g3 cap3 w3 own3 hb3 hf3 hn3 hg3; have c3 := hb3.cell 0; have c4 := hb3.cell 1; have f3 := hb3.frozen 0; have f4 := hb3.frozen 1; simp only [List.getElem?_toArray, List.getElem?_cons_zero, List.getElem?_cons_succ] at c3 c4))
    all_goals
      have h4 : St (w3.setCell ⟨bx, 0, none⟩ (.slice (some ⟨g3, 0, none⟩) (m + 1 + 1) cap3)) bx g3 cap3 (ts2 ++ [(b, 0)]) n := by
        have e1 : (ts2 ++ [(b, 0)]).length = m + 1 + 1 := by rw [List.length_append, hm2]; rfl
        refine ⟨?_, ?_, hn3⟩
        · rw [e1]
          have := hb3.set 0 (.slice (some ⟨g3, 0, none⟩) (m + 1 + 1) cap3)
          simpa using this
        · rw [e1]
          exact own3.far (p := ⟨bx, 0, none⟩) hn3 _
      have hf4 : Fr (fun k => k = bx ∨ k = g) w (w3.setCell ⟨bx, 0, none⟩ (.slice (some ⟨g3, 0, none⟩) (m + 1 + 1) cap3)) := (hf2.then hf3 (fun k hk => .inl hk)).setCell (.inl (.inl rfl)) _
      have hb4 := (hb2.fr hf3 (by omega)).far (p := ⟨bx, 0, none⟩) (Nat.ne_of_gt hbl) (.slice (some ⟨g3, 0, none⟩) (m + 1 + 1) cap3)
      have hg4 : g3 = g ∨ w.heap.size ≤ g3 := by have := hf2.size; omega
      clear c0 c1 f0 f1 x2 x3 x4 c3 c4 f3 f4 h2 hb2 hf2 hb3 own3 hf3 hg3
      generalize w3.setCell ⟨bx, 0, none⟩ (.slice (some ⟨g3, 0, none⟩) (m + 1 + 1) cap3) = w4 at h4 hf4 hb4 ⊢
      have c1 := h4.box.at_ (i := 1) rfl
      have f1 := h4.box.frozen 1
      have x3 := hb4.at_ (i := 3) rfl
      have x4 := hb4.at_ (i := 4) rfl
      go_wp2_with fail
      · rename_i hcd
        go_end0
        have e1 : max c d + 1 = d + 1 := by omega
        rw [HTS.out, e1]
        refine ⟨rfl, g3, cap3, ⟨?_, h4.row.far (p := ⟨bx, 1, none⟩) hn3 _, hn3⟩, hf4.setCell (.inl (.inl rfl)) _, hg4⟩
        have := h4.box.set 1 (.int .i64 ((d : Int) + 1))
        simpa using this
      · rename_i hcd
        go_end0
        have e1 : max c d + 1 = c + 1 := by omega
        rw [HTS.out, e1]
        refine ⟨rfl, g3, cap3, ⟨?_, h4.row.far (p := ⟨bx, 1, none⟩) hn3 _, hn3⟩, hf4.setCell (.inl (.inl rfl)) _, hg4⟩
        have := h4.box.set 1 (.int .i64 ((c : Int) + 1))
        simpa using this
end Go.Proofs.Ytahhihhfjimppaa
/- The plain side of layer 12: what splits come to -/
namespace Go.Proofs.Ytahhihhfjimppaa.S
set_option linter.unusedSimpArgs false
set_option linter.unusedVariables false

/-- the two chains, the tasks, the next strand -/
structure State where
  E : List Nat
  H : List Nat
  ts : List (Nat × Nat)
  n : Nat
def init : State := ⟨[0], [0], [(0, 0)], 1⟩
def State.last (s : State) : Nat × Nat := s.ts.getD (s.ts.length - 1) (0, 0)
def State.turn (s : State) (kind : Int) : State :=
  if kind = 1 then
    if s.last.2 = 0 then ⟨put (put s.E s.last.1 [s.n, s.n + 1]) (s.n + 1) [s.n + 2], put (put s.H s.last.1 [s.n + 1, s.n]) s.n [s.n + 2], s.ts.set (s.ts.length - 1) (s.n + 1, s.n + 2) ++ [(s.n, 0)], s.n + 3⟩
    else ⟨put s.E s.last.1 [s.n, s.n + 1], put s.H s.last.1 [s.n + 1, s.n], s.ts.set (s.ts.length - 1) (s.n + 1, s.last.2) ++ [(s.n, 0)], s.n + 2⟩
  else if kind = 2 then { s with ts := s.ts.take (s.ts.length - 1) }
  else { s with ts := s.ts.set (s.ts.length - 1) (s.last.2, 0) }
/-- a split that may come now -/
def State.ok (s : State) (f : Five) : Prop := (may s.ts s.n f.1).2 = true ∧ f = (may s.ts s.n f.1).1
instance (s : State) (f : Five) : Decidable (s.ok f) := inferInstanceAs (Decidable (_ ∧ _))
def run : State → List Five → Option State
  | s, [] => some s
  | s, f :: r => if s.ok f then run (s.turn f.1) r else none

/-- what holds of every state that comes of splits -/
structure State.Good (s : State) : Prop where
  e : s.E.length = s.n
  h : s.H.length = s.n
  elt : ∀ x ∈ s.E, x < s.n
  hlt : ∀ x ∈ s.H, x < s.n
  pos : 0 < s.ts.length
  ts : ∀ t ∈ s.ts, t.1 < s.n ∧ t.2 < s.n
theorem init_good : init.Good := by constructor <;> simp [init]
theorem State.Good.last {s : State} (h : s.Good) : s.last.1 < s.n ∧ s.last.2 < s.n := by
  have hp := h.pos
  unfold State.last
  rw [List.getD_eq_getElem?_getD, List.getElem?_eq_getElem (by omega)]
  exact h.ts _ (by simp)
theorem put_lt {N : Nat} (bl : List Nat) : ∀ (L : List Nat) (a : Nat), (∀ x ∈ L, x < N) → (∀ b ∈ bl, b < N) → ∀ x ∈ put L a bl, x < N := by
  induction bl with
  | nil => intro L a h _; exact h
  | cons b r ih => intro L a h hb; exact ih _ _ (put1_lt h (hb b (by simp))) (fun x hx => hb x (by simp [hx]))
theorem State.Good.turn {s : State} (h : s.Good) {f : Five} (hk : s.ok f) : (s.turn f.1).Good := by
  have hl := h.last
  have hp := h.pos
  have hts := h.ts
  unfold State.turn
  by_cases k1 : f.1 = 1
  · rw [if_pos k1]
    by_cases hj : s.last.2 = 0
    · rw [if_pos hj]
      constructor
      · show (put (put s.E s.last.1 [s.n, s.n + 1]) (s.n + 1) [s.n + 2]).length = s.n + 3
        simp only [put, put1_length, h.e]; omega
      · show (put (put s.H s.last.1 [s.n + 1, s.n]) s.n [s.n + 2]).length = s.n + 3
        simp only [put, put1_length, h.h]; omega
      · exact put_lt _ _ _ (put_lt _ _ _ (fun x hx => by have := h.elt x hx; simp only; omega) (by simp)) (by simp)
      · exact put_lt _ _ _ (put_lt _ _ _ (fun x hx => by have := h.hlt x hx; simp only; omega) (by simp)) (by simp)
      · simp
      · intro t ht
        show t.1 < s.n + 3 ∧ t.2 < s.n + 3
        rcases List.mem_append.1 ht with ht | ht
        · rcases List.mem_or_eq_of_mem_set ht with ht | rfl
          · have := hts t ht; omega
          · exact ⟨by simp, by simp⟩
        · rw [List.mem_singleton.1 ht]; exact ⟨by simp, by simp⟩
    · rw [if_neg hj]
      constructor
      · show (put s.E s.last.1 [s.n, s.n + 1]).length = s.n + 2
        simp only [put, put1_length, h.e]; omega
      · show (put s.H s.last.1 [s.n + 1, s.n]).length = s.n + 2
        simp only [put, put1_length, h.h]; omega
      · exact put_lt _ _ _ (fun x hx => by have := h.elt x hx; simp only; omega) (by simp)
      · exact put_lt _ _ _ (fun x hx => by have := h.hlt x hx; simp only; omega) (by simp)
      · simp
      · intro t ht
        show t.1 < s.n + 2 ∧ t.2 < s.n + 2
        rcases List.mem_append.1 ht with ht | ht
        · rcases List.mem_or_eq_of_mem_set ht with ht | rfl
          · have := hts t ht; omega
          · exact ⟨by simp, by show s.last.2 < s.n + 2; omega⟩
        · rw [List.mem_singleton.1 ht]; exact ⟨by simp, by simp⟩
  · rw [if_neg k1]
    by_cases k2 : f.1 = 2
    · rw [if_pos k2]
      refine ⟨h.e, h.h, h.elt, h.hlt, ?_, fun t ht => hts t (List.mem_of_mem_take ht)⟩
      show 0 < (s.ts.take (s.ts.length - 1)).length
      have h1 := hk.1
      unfold may at h1
      rw [if_neg k1, if_pos k2] at h1
      split at h1
      · cases h1
      · rename_i hn
        rw [List.length_take]
        omega
    · rw [if_neg k2]
      refine ⟨h.e, h.h, h.elt, h.hlt, by simpa using hp, fun t ht => ?_⟩
      rcases List.mem_or_eq_of_mem_set ht with ht | rfl
      · exact hts t ht
      · exact ⟨hl.2, by show 0 < s.n; omega⟩
theorem turn_n (s : State) (k : Int) : (s.turn k).n ≤ s.n + 3 ∧ s.n ≤ (s.turn k).n := by
  unfold State.turn
  split
  · split <;> simp
  · split <;> simp
theorem turn_ts (s : State) (k : Int) : (s.turn k).ts.length ≤ s.ts.length + 1 := by
  unfold State.turn
  split
  · split <;> simp
  · split
    · simp; omega
    · simp
theorem run_cons (s : State) (f : Five) (r : List Five) : run s (f :: r) = if s.ok f then run (s.turn f.1) r else none := rfl
theorem run_good {l : List Five} : ∀ {s t : State}, s.Good → run s l = some t → t.Good := by
  induction l with
  | nil => intro s t h hr; injection hr with hr; exact hr ▸ h
  | cons f r ih =>
    intro s t h hr
    rw [run_cons] at hr
    split at hr
    · rename_i hk
      exact ih (h.turn hk) hr
    · cases hr
theorem run_append {l m : List Five} : ∀ {s : State}, run s (l ++ m) = (run s l).bind (fun t => run t m) := by
  induction l with
  | nil => intro s; rfl
  | cons f r ih =>
    intro s
    rw [List.cons_append, run_cons, run_cons]
    split
    · exact ih
    · rfl
theorem run_n {l : List Five} : ∀ {s t : State}, run s l = some t → t.n ≤ s.n + 3 * l.length ∧ s.n ≤ t.n := by
  induction l with
  | nil => intro s t hr; injection hr with hr; subst hr; simp
  | cons f r ih =>
    intro s t hr
    rw [run_cons] at hr
    split at hr
    · have := ih hr
      have := turn_n s f.1
      simp only [List.length_cons]
      omega
    · cases hr
/-- the places in the two lists -/
def State.places (s : State) : List (Nat × Nat) := (S.places s.E).zip (S.places s.H)
theorem State.Good.places_length {s : State} (h : s.Good) : s.places.length = s.n := by
  unfold State.places
  rw [List.length_zip, S.places_length, S.places_length, h.e, h.h, Nat.min_self]
end Go.Proofs.Ytahhihhfjimppaa.S
/- walks: Of -/
namespace Go.Proofs.Ytahhihhfjimppaa
open Go.RowKit
set_option linter.unusedSimpArgs false
set_option linter.unusedVariables false
set_option maxRecDepth 100000

/-- splits as cells -/
def fcs (l : List S.Five) : List Value := l.flatMap fun f => [Value.int .i64 f.1, Value.int .i64 f.2.1, Value.int .i64 f.2.2.1, Value.int .i64 f.2.2.2.1, Value.int .i64 f.2.2.2.2]
theorem fcs_cons (f : S.Five) (l : List S.Five) : fcs (f :: l) = Value.int .i64 f.1 :: Value.int .i64 f.2.1 :: Value.int .i64 f.2.2.1 :: Value.int .i64 f.2.2.2.1 :: Value.int .i64 f.2.2.2.2 :: fcs l := rfl
theorem fcs_length (l : List S.Five) : (fcs l).length = l.length * 5 := by
  induction l with
  | nil => rfl
  | cons f l ih => rw [fcs_cons]; simp only [List.length_cons, ih]; omega
theorem fcs_at (l : List S.Five) (k : Nat) (h : k < l.length) : (fcs l)[k * 5]? = some (.int .i64 l[k].1) ∧ (fcs l)[k * 5 + 1]? = some (.int .i64 l[k].2.1) ∧ (fcs l)[k * 5 + 2]? = some (.int .i64 l[k].2.2.1) ∧
    (fcs l)[k * 5 + 3]? = some (.int .i64 l[k].2.2.2.1) ∧ (fcs l)[k * 5 + 4]? = some (.int .i64 l[k].2.2.2.2) := by
  induction l generalizing k with
  | nil => simp at h
  | cons f l ih =>
    rw [fcs_cons]
    cases k with
    | zero => exact ⟨rfl, rfl, rfl, rfl, rfl⟩
    | succ k =>
      have := ih k (by simpa using h)
      rw [show (k + 1) * 5 = k * 5 + 1 + 1 + 1 + 1 + 1 by omega]
      simp only [List.getElem?_cons_succ, List.getElem_cons_succ]
      exact this

section
variable {C : Nat → Prop} {w w' : World} {bx g cap : Nat}
theorem Ch.fr {L : List Nat} (h : Ch w bx g cap L) (hf : Fr C w w') (h1 : ¬ C bx) (h2 : ¬ C g) : Ch w' bx g cap L := ⟨h.box.fr hf h1, h.row.fr hf h2, h.ne⟩
theorem St.fr {ts : List (Nat × Nat)} {n : Nat} (h : St w bx g cap ts n) (hf : Fr C w w') (h1 : ¬ C bx) (h2 : ¬ C g) : St w' bx g cap ts n := ⟨h.box.fr hf h1, h.row.fr hf h2, h.ne⟩
end

/-- the two chains and the state in the world -/
structure OfI (w wr : World) (b4 b5 b8 : Nat) (E H : List Nat) (ts : List (Nat × Nat)) (n gE cE gH cH gT cT : Nat) : Prop where
  e : Ch wr b4 gE cE E
  h : Ch wr b5 gH cH H
  t : St wr b8 gT cT ts n
  ne : gE ≠ gH ∧ gE ≠ gT ∧ gH ≠ gT ∧ gE ≠ b5 ∧ gE ≠ b8 ∧ gH ≠ b4 ∧ gH ≠ b8 ∧ gT ≠ b4 ∧ gT ≠ b5
  nb : b4 ≠ b5 ∧ b4 ≠ b8 ∧ b5 ≠ b8
  new : w.heap.size ≤ gE ∧ w.heap.size ≤ gH ∧ w.heap.size ≤ gT ∧ w.heap.size ≤ b4 ∧ w.heap.size ≤ b5 ∧ w.heap.size ≤ b8
  below : Below w.heap.size w wr
section
variable {w wr wr' : World} {b4 b5 b8 : Nat} {E H : List Nat} {ts : List (Nat × Nat)} {n gE cE gH cH gT cT : Nat}
theorem OfI.on (I : OfI w wr b4 b5 b8 E H ts n gE cE gH cH gT cT) (hb : Below wr.heap.size wr wr') : OfI w wr' b4 b5 b8 E H ts n gE cE gH cH gT cT := by
  have hf := Fr.of_below hb (fun _ => False)
  exact ⟨I.e.fr hf (fun h => h) (fun h => h), I.h.fr hf (fun h => h) (fun h => h), I.t.fr hf (fun h => h) (fun h => h), I.ne, I.nb, I.new, I.below.trans (hb.mono I.below.size)⟩
theorem OfI.lts (I : OfI w wr b4 b5 b8 E H ts n gE cE gH cH gT cT) : gE < wr.heap.size ∧ gH < wr.heap.size ∧ gT < wr.heap.size ∧ b4 < wr.heap.size ∧ b5 < wr.heap.size ∧ b8 < wr.heap.size :=
  ⟨I.e.row.lt, I.h.row.lt, I.t.row.lt, I.e.box.lt, I.h.box.lt, I.t.box.lt⟩
theorem ne_new {a b N : Nat} (h : N ≤ a) (hb : b < N) : a ≠ b := by omega
theorem ne_new' {a b N : Nat} (h : N ≤ a) (hb : b < N) : b ≠ a := by omega
theorem OfI.putE (I : OfI w wr b4 b5 b8 E H ts n gE cE gH cH gT cT) {E' : List Nat} {g' c' : Nat} (hc : Ch wr' b4 g' c' E') (hf : Fr (fun k => k = b4 ∨ k = gE) wr wr') (hg : g' = gE ∨ wr.heap.size ≤ g') :
    OfI w wr' b4 b5 b8 E' H ts n g' c' gH cH gT cT := by
  obtain ⟨h1, h2, h3, h4, h5, h6, h7, h8, h9⟩ := I.ne
  obtain ⟨k1, k2, k3⟩ := I.nb
  obtain ⟨n1, n2, n3, n4, n5, n6⟩ := I.new
  obtain ⟨l1, l2, l3, l4, l5, l6⟩ := I.lts
  have hs := I.below.size
  have hb := I.below.trans (hf.below hs (fun k hk => by rcases hk with rfl | rfl <;> assumption))
  have e1 := I.h.fr hf (fun h => by rcases h with h | h; exact k1 h.symm; exact h4 h.symm) (fun h => by rcases h with h | h; exact h6 h; exact h1 h.symm)
  have e2 := I.t.fr hf (fun h => by rcases h with h | h; exact k2 h.symm; exact h5 h.symm) (fun h => by rcases h with h | h; exact h8 h; exact h2 h.symm)
  rcases hg with rfl | hg
  · exact ⟨hc, e1, e2, I.ne, I.nb, I.new, hb⟩
  · exact ⟨hc, e1, e2, ⟨ne_new hg l2, ne_new hg l3, h3, ne_new hg l5, ne_new hg l6, h6, h7, h8, h9⟩, I.nb, ⟨Nat.le_trans hs hg, n2, n3, n4, n5, n6⟩, hb⟩
theorem OfI.putH (I : OfI w wr b4 b5 b8 E H ts n gE cE gH cH gT cT) {E' : List Nat} {g' c' : Nat} (hc : Ch wr' b5 g' c' E') (hf : Fr (fun k => k = b5 ∨ k = gH) wr wr') (hg : g' = gH ∨ wr.heap.size ≤ g') :
    OfI w wr' b4 b5 b8 E E' ts n gE cE g' c' gT cT := by
  obtain ⟨h1, h2, h3, h4, h5, h6, h7, h8, h9⟩ := I.ne
  obtain ⟨k1, k2, k3⟩ := I.nb
  obtain ⟨n1, n2, n3, n4, n5, n6⟩ := I.new
  obtain ⟨l1, l2, l3, l4, l5, l6⟩ := I.lts
  have hs := I.below.size
  have hb := I.below.trans (hf.below hs (fun k hk => by rcases hk with rfl | rfl <;> assumption))
  have e1 := I.e.fr hf (fun h => by rcases h with h | h; exact k1 h; exact h6 h.symm) (fun h => by rcases h with h | h; exact h4 h; exact h1 h)
  have e2 := I.t.fr hf (fun h => by rcases h with h | h; exact k3 h.symm; exact h7 h.symm) (fun h => by rcases h with h | h; exact h9 h; exact h3 h.symm)
  rcases hg with rfl | hg
  · exact ⟨e1, hc, e2, I.ne, I.nb, I.new, hb⟩
  · exact ⟨e1, hc, e2, ⟨ne_new' hg l1, h2, ne_new hg l3, h4, h5, ne_new hg l4, ne_new hg l6, h8, h9⟩, I.nb, ⟨n1, Nat.le_trans hs hg, n3, n4, n5, n6⟩, hb⟩
theorem OfI.turned (I : OfI w wr b4 b5 b8 E H ts n gE cE gH cH gT cT) {ts' : List (Nat × Nat)} {n' g' c' : Nat} (hc : St wr' b8 g' c' ts' n') (hf : Fr (fun k => k = b8 ∨ k = gT) wr wr') (hg : g' = gT ∨ wr.heap.size ≤ g') :
    OfI w wr' b4 b5 b8 E H ts' n' gE cE gH cH g' c' := by
  obtain ⟨h1, h2, h3, h4, h5, h6, h7, h8, h9⟩ := I.ne
  obtain ⟨k1, k2, k3⟩ := I.nb
  obtain ⟨n1, n2, n3, n4, n5, n6⟩ := I.new
  obtain ⟨l1, l2, l3, l4, l5, l6⟩ := I.lts
  have hs := I.below.size
  have hb := I.below.trans (hf.below hs (fun k hk => by rcases hk with rfl | rfl <;> assumption))
  have e1 := I.e.fr hf (fun h => by rcases h with h | h; exact k2 h; exact h8 h.symm) (fun h => by rcases h with h | h; exact h5 h; exact h2 h)
  have e2 := I.h.fr hf (fun h => by rcases h with h | h; exact k3 h; exact h9 h.symm) (fun h => by rcases h with h | h; exact h7 h; exact h3 h)
  rcases hg with rfl | hg
  · exact ⟨e1, e2, hc, I.ne, I.nb, I.new, hb⟩
  · exact ⟨e1, e2, hc, ⟨h1, ne_new' hg l1, ne_new' hg l2, h4, h5, h6, h7, ne_new hg l4, ne_new hg l5⟩, I.nb, ⟨n1, n2, Nat.le_trans hs hg, n4, n5, n6⟩, hb⟩
end
end Go.Proofs.Ytahhihhfjimppaa
