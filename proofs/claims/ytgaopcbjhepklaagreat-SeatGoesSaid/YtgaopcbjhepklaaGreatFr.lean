/- frames: which blocks may have changed; boxes; rows of the call's own under their block's number -/
import Derived.Test.YtgaopcbjhepklaaGreatMem
import Derived.Deep.AppendLies
namespace Go.Proofs.YtgaopcbjhepklaaGreat
open Go.RowKit
set_option linter.unusedSimpArgs false
set_option linter.unusedVariables false

/-- of the blocks that there were only those of C may have changed -/
structure Fr (C : Nat → Prop) (w w' : World) : Prop where
  os : w'.os = w.os
  tape : w'.tape = w.tape
  output : w'.output = w.output
  size : w.heap.size ≤ w'.heap.size
  block : ∀ k, k < w.heap.size → ¬ C k → w'.heap[k]? = w.heap[k]?

section
variable {C D : Nat → Prop} {w w1 w2 : World}
theorem Fr.refl (C : Nat → Prop) (w : World) : Fr C w w := ⟨rfl, rfl, rfl, Nat.le_refl _, fun _ _ _ => rfl⟩
theorem Fr.trans (h : Fr C w w1) (h2 : Fr C w1 w2) : Fr C w w2 :=
  ⟨h2.os.trans h.os, h2.tape.trans h.tape, h2.output.trans h.output, Nat.le_trans h.size h2.size, fun k hk hc => (h2.block k (Nat.lt_of_lt_of_le hk h.size) hc).trans (h.block k hk hc)⟩
/-- a second step that changes others, if these are new -/
theorem Fr.then (h : Fr C w w1) (h2 : Fr D w1 w2) (hd : ∀ k, D k → C k ∨ w.heap.size ≤ k) : Fr C w w2 :=
  ⟨h2.os.trans h.os, h2.tape.trans h.tape, h2.output.trans h.output, Nat.le_trans h.size h2.size, fun k hk hc => (h2.block k (Nat.lt_of_lt_of_le hk h.size) (fun hdk => by rcases hd k hdk with h1 | h1; exact hc h1; omega)).trans (h.block k hk hc)⟩
theorem Fr.mono (h : Fr C w w1) (hd : ∀ k, k < w.heap.size → C k → D k) : Fr D w w1 :=
  ⟨h.os, h.tape, h.output, h.size, fun k hk hc => h.block k hk (fun hck => hc (hd k hk hck))⟩
theorem Fr.drew (h : Fr C w w1) : Fr C w w1.drew := ⟨h.os, h.tape, h.output, h.size, h.block⟩
theorem Fr.drewN (h : Fr C w w1) (n : Nat) : Fr C w (w1.drewN n) := ⟨h.os, h.tape, h.output, h.size, h.block⟩
theorem Fr.alloc (h : Fr C w w1) (o : Obj) : Fr C w (w1.alloc o) :=
  ⟨h.os, h.tape, h.output, Nat.le_trans h.size (by simp), fun k hk hc => (Below.heap_alloc w1 o k (Nat.lt_of_lt_of_le hk h.size)).trans (h.block k hk hc)⟩
theorem Fr.setCell (h : Fr C w w1) {p : Addr} (hp : C p.block ∨ w.heap.size ≤ p.block) (u : Value) : Fr C w (w1.setCell p u) :=
  ⟨h.os, h.tape, h.output, by simpa [World.setCell] using h.size, fun k hk hc => (Below.heap_setCell w1 p u k (by rintro rfl; rcases hp with h1 | h1; exact hc h1; omega)).trans (h.block k hk hc)⟩
theorem Fr.grown (h : Fr C w w1) {row : Option Nat} (hg : w1.grownBy w2 row) (hr : ∀ k, row = some k → C k ∨ w.heap.size ≤ k) : Fr C w w2 :=
  h.then (D := fun k => row = some k) ⟨hg.os, hg.tape, hg.output, hg.size, fun k hk hc => hg.block k hk (fun e => hc e.symm)⟩ hr
theorem Fr.of_below (h : Below w.heap.size w w1) (C : Nat → Prop) : Fr C w w1 := ⟨h.os, h.tape, h.output, h.size, fun k hk _ => h.block k hk⟩
theorem Fr.below (h : Fr C w w1) {B : Nat} (hB : B ≤ w.heap.size) (hc : ∀ k, C k → B ≤ k) : Below B w w1 :=
  ⟨h.os, h.tape, h.output, h.size, fun k hk => h.block k (by omega) (fun h1 => by have := hc k h1; omega)⟩
theorem Fr.cell (h : Fr C w w1) {p : Addr} (hp : p.block < w.heap.size) (hc : ¬ C p.block) : w1.cell? p = w.cell? p := World.cell?_of_block (h.block _ hp hc)
theorem Fr.frozen (h : Fr C w w1) {p : Addr} (hp : p.block < w.heap.size) (hc : ¬ C p.block) : w1.frozen? p = w.frozen? p := World.frozen?_of_block (h.block _ hp hc)
end

/-- a block that is known whole -/
def Blk (w : World) (g : Nat) (t : TypeId) (cs : Array Value) : Prop := w.heap[g]? = some (.cells cs t (0, 0))
section
variable {w w' : World} {g : Nat} {t : TypeId} {cs : Array Value}
theorem Blk.lt (h : Blk w g t cs) : g < w.heap.size := (Array.getElem?_eq_some_iff.1 h).1
theorem Blk.cell (h : Blk w g t cs) (i : Nat) : w.cell? ⟨g, i, none⟩ = cs[i]? := cell_of_row w g i cs t (0, 0) h
theorem Blk.frozen (h : Blk w g t cs) (i : Nat) : w.frozen? ⟨g, i, none⟩ = false := by
  unfold Blk at h
  simp [World.frozen?, h]
theorem Blk.new (w : World) (t : TypeId) (cs : Array Value) : Blk (w.alloc (.cells cs t)) w.heap.size t cs := heap_alloc_new w _
theorem Blk.drew (h : Blk w g t cs) : Blk w.drew g t cs := h
theorem Blk.drewN (h : Blk w g t cs) (n : Nat) : Blk (w.drewN n) g t cs := h
theorem Blk.alloc (h : Blk w g t cs) (o : Obj) : Blk (w.alloc o) g t cs := (Below.heap_alloc w o g h.lt).trans h
theorem Blk.set (h : Blk w g t cs) (i : Nat) (u : Value) : Blk (w.setCell ⟨g, i, none⟩ u) g t (cs.setIfInBounds i u) := by
  unfold Blk at h ⊢
  simp [World.setCell, Array.getElem?_modify, h]
theorem Blk.far (h : Blk w g t cs) {p : Addr} (hp : g ≠ p.block) (u : Value) : Blk (w.setCell p u) g t cs := (Below.heap_setCell w p u g hp).trans h
theorem Blk.fr {C : Nat → Prop} (h : Blk w g t cs) (hf : Fr C w w') (hc : ¬ C g) : Blk w' g t cs := (hf.block g h.lt hc).trans h
theorem Blk.below {B : Nat} (h : Blk w g t cs) (hb : Below B w w') (hg : g < B) : Blk w' g t cs := (hb.block g hg).trans h
theorem Blk.inj {t' : TypeId} {cs' : Array Value} (h : Blk w g t cs) (h' : Blk w g t' cs') : cs = cs' ∧ t = t' := by
  unfold Blk at h h'
  rw [h] at h'
  injection h' with h'
  injection h' with h1 h2
  exact ⟨h1, h2⟩
end

theorem Rd.fr {C : Nat → Prop} {w w' : World} {A : Option Addr} {xs : List Value} (h : Rd w w.heap.size A xs) (hf : Fr C w w') (hc : ∀ ad, A = some ad → ¬ C ad.block) : Rd w' w'.heap.size A xs := by
  rcases h with rfl | ⟨b, off, rfl, hb, hcl⟩
  · exact .inl rfl
  · refine .inr ⟨b, off, rfl, Nat.lt_of_lt_of_le hb hf.size, fun j u hu => ?_⟩
    rw [hf.cell (p := ⟨b, off + j, none⟩) hb (hc ⟨b, off, none⟩ rfl)]
    exact hcl j u hu

/-- a row of the call's own, in block g -/
def Own (w : World) (e : TypeId) (size g n cap : Nat) (xs : List Value) : Prop := w.ownsRow 0 e size (.slice (some ⟨g, 0, none⟩) n cap) n xs
section
variable {w w' : World} {e : TypeId} {size g n cap : Nat} {xs : List Value}
theorem Own.blk (h : Own w e size g n cap xs) : ∃ cur, Blk w g e cur ∧ n ≤ cap ∧ cap ≤ 9223372036854775807 ∧ cur.size = cap * size ∧ cur.toList.take (n * size) = xs := by
  rcases h.2 with ⟨h', _⟩ | ⟨g', cap', cur, h', _, hg, h1, h2, h3, h4⟩
  · cases h'
  · injection h' with ha _ hc
    injection ha with ha
    injection ha with ha
    subst ha hc
    exact ⟨cur, hg, h1, h2, h3, h4⟩
theorem Own.lt (h : Own w e size g n cap xs) : g < w.heap.size := by obtain ⟨cur, hb, _⟩ := h.blk; exact hb.lt
theorem Own.len (h : Own w e size g n cap xs) : xs.length = n * size := h.1
theorem Own.caps (h : Own w e size g n cap xs) : n ≤ cap ∧ cap ≤ 9223372036854775807 := by obtain ⟨cur, _, h1, h2, _⟩ := h.blk; exact ⟨h1, h2⟩
theorem Own.cell (h : Own w e size g n cap xs) (j : Nat) (hj : j < n * size) : w.cell? ⟨g, j, none⟩ = xs[j]? := World.ownsRow.cellAt h j hj
theorem Own.frozen (h : Own w e size g n cap xs) (j : Nat) : w.frozen? ⟨g, j, none⟩ = false := World.ownsRow.frozenAt h j
theorem Own.set (h : Own w e size g n cap xs) (j : Nat) (u : Value) : Own (w.setCell ⟨g, j, none⟩ u) e size g n cap (xs.set j u) := (World.ownsRow.stored h j u).1
theorem Own.fr {C : Nat → Prop} (h : Own w e size g n cap xs) (hf : Fr C w w') (hc : ¬ C g) : Own w' e size g n cap xs := by
  refine ⟨h.1, ?_⟩
  rcases h.2 with ⟨h', _⟩ | ⟨g', cap', cur, h', hb, hg, h1⟩
  · cases h'
  · have hgg : g' = g := by injection h' with ha; injection ha with ha; injection ha with ha; exact ha.symm
    subst hgg
    exact .inr ⟨g', cap', cur, h', hb, (hf.block g' (Array.getElem?_eq_some_iff.1 hg).1 hc).trans hg, h1⟩
theorem Own.drewN (h : Own w e size g n cap xs) (k : Nat) : Own (w.drewN k) e size g n cap xs := h
theorem Own.alloc (h : Own w e size g n cap xs) (o : Obj) : Own (w.alloc o) e size g n cap xs := h.fr ((Fr.refl (fun _ => False) w).alloc o) (fun h => h)
theorem Own.far (h : Own w e size g n cap xs) {p : Addr} (hp : p.block ≠ g) (u : Value) : Own (w.setCell p u) e size g n cap xs :=
  h.fr ((Fr.refl (fun k => k = p.block) w).setCell (.inl rfl) u) (fun h => hp h.symm)
theorem Own.new (w : World) (e : TypeId) (size n : Nat) (cs : Array Value) (hm : n ≤ 9223372036854775807) (hs : cs.size = n * size) : Own (w.alloc (.cells cs e)) e size w.heap.size n n cs.toList :=
  World.ownsRow_lit w cs n (Nat.zero_le _) hm hs
theorem Own.rd (h : Own w e 1 g n cap xs) : Rd w w.heap.size (some ⟨g, 0, none⟩) xs := Rd.of_own h
/-- what an append law leaves, under its block's number -/
theorem own_of {v : Value} {m : Nat} (h : w.ownsRow 0 e size v m xs) (hm : 0 < m) : ∃ g cap, v = .slice (some ⟨g, 0, none⟩) m cap ∧ Own w e size g m cap xs := by
  obtain ⟨g, cap, hv, _, _⟩ := h.form hm
  subst hv
  exact ⟨g, cap, rfl, h⟩
end
end Go.Proofs.YtgaopcbjhepklaaGreat
