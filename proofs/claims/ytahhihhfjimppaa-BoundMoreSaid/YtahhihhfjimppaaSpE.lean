/- walks: Of -/
import Derived.Test.YtahhihhfjimppaaSpD
namespace Go.Proofs.Ytahhihhfjimppaa
open Go.RowKit
set_option linter.unusedSimpArgs false
set_option linter.unusedVariables false
set_option maxRecDepth 100000

def Ofed (w : World) (l : List S.Five) (e : Ending) (w' : World) : Prop :=
  Below w.heap.size w w' ∧ ((S.run S.init l = none ∧ e = .returned (.tuple #[.slice none 0 0, .int .i64 1])) ∨
    ∃ s g cap, S.run S.init l = some s ∧ e = .returned (.tuple #[.slice (some ⟨g, 0, none⟩) s.n cap, .int .i64 0]) ∧ Own w' 65 2 g s.n cap (tcs s.places) ∧ w.heap.size ≤ g)

def start (w : World) : World :=
  (((((w.alloc (.cells #[.int .i64 0] 3)).alloc (.cells #[.int .i64 0] 3)).alloc (.cells #[.slice (some ⟨w.heap.size, 0, none⟩) 1 1] 71)).alloc
    (.cells #[.slice (some ⟨w.heap.size + 1, 0, none⟩) 1 1] 71)).alloc (.cells #[.int .i64 0, .int .i64 0] 74)).alloc
    (.cells #[.slice (some ⟨w.heap.size + 1 + 1 + 1 + 1, 0, none⟩) 1 1, .int .i64 1] 77)
theorem start_of (w : World) : OfI w (start w) (w.heap.size + 1 + 1) (w.heap.size + 1 + 1 + 1) (w.heap.size + 1 + 1 + 1 + 1 + 1) [0] [0] [(0, 0)] 1 w.heap.size 1 (w.heap.size + 1) 1 (w.heap.size + 1 + 1 + 1 + 1) 1 := by
  unfold start
  have s1 : (w.alloc (.cells #[.int .i64 0] 3)).heap.size = w.heap.size + 1 := by simp
  generalize h1 : w.alloc (.cells #[.int .i64 0] 3) = w1 at s1 ⊢
  have o1 : Own w1 3 1 w.heap.size 1 1 [.int .i64 0] := by rw [← h1]; exact Own.new w 3 1 1 #[.int .i64 0] (by omega) rfl
  have u1 : Below w.heap.size w w1 := by rw [← h1]; exact (Below.refl _ _).alloc (Nat.le_refl _) _
  have s2 : (w1.alloc (.cells #[.int .i64 0] 3)).heap.size = w.heap.size + 1 + 1 := by simp [s1]
  generalize h2 : w1.alloc (.cells #[.int .i64 0] 3) = w2 at s2 ⊢
  have o2 : Own w2 3 1 (w.heap.size + 1) 1 1 [.int .i64 0] := by rw [← h2, ← s1]; exact Own.new w1 3 1 1 #[.int .i64 0] (by omega) rfl
  have o1 : Own w2 3 1 w.heap.size 1 1 [.int .i64 0] := by rw [← h2]; exact o1.alloc _
  have u2 : Below w.heap.size w w2 := by rw [← h2]; exact u1.alloc (by omega) _
  have s3 : (w2.alloc (.cells #[.slice (some ⟨w.heap.size, 0, none⟩) 1 1] 71)).heap.size = w.heap.size + 1 + 1 + 1 := by simp [s2]
  generalize h3 : w2.alloc (.cells #[.slice (some ⟨w.heap.size, 0, none⟩) 1 1] 71) = w3 at s3 ⊢
  have c1 : Ch w3 (w.heap.size + 1 + 1) w.heap.size 1 [0] := by rw [← h3, ← s2]; exact ⟨Blk.new w2 _ _, o1.alloc _, by omega⟩
  have o2 : Own w3 3 1 (w.heap.size + 1) 1 1 [.int .i64 0] := by rw [← h3]; exact o2.alloc _
  have u3 : Below w.heap.size w w3 := by rw [← h3]; exact u2.alloc (by omega) _
  have s4 : (w3.alloc (.cells #[.slice (some ⟨w.heap.size + 1, 0, none⟩) 1 1] 71)).heap.size = w.heap.size + 1 + 1 + 1 + 1 := by simp [s3]
  generalize h4 : w3.alloc (.cells #[.slice (some ⟨w.heap.size + 1, 0, none⟩) 1 1] 71) = w4 at s4 ⊢
  have c2 : Ch w4 (w.heap.size + 1 + 1 + 1) (w.heap.size + 1) 1 [0] := by rw [← h4, ← s3]; exact ⟨Blk.new w3 _ _, o2.alloc _, by omega⟩
  have c1 : Ch w4 (w.heap.size + 1 + 1) w.heap.size 1 [0] := by rw [← h4]; exact ⟨c1.box.alloc _, c1.row.alloc _, c1.ne⟩
  have u4 : Below w.heap.size w w4 := by rw [← h4]; exact u3.alloc (by omega) _
  have s5 : (w4.alloc (.cells #[.int .i64 0, .int .i64 0] 74)).heap.size = w.heap.size + 1 + 1 + 1 + 1 + 1 := by simp [s4]
  generalize h5 : w4.alloc (.cells #[.int .i64 0, .int .i64 0] 74) = w5 at s5 ⊢
  have o3 : Own w5 74 2 (w.heap.size + 1 + 1 + 1 + 1) 1 1 [.int .i64 0, .int .i64 0] := by rw [← h5, ← s4]; exact Own.new w4 74 2 1 #[.int .i64 0, .int .i64 0] (by omega) rfl
  have c2 : Ch w5 (w.heap.size + 1 + 1 + 1) (w.heap.size + 1) 1 [0] := by rw [← h5]; exact ⟨c2.box.alloc _, c2.row.alloc _, c2.ne⟩
  have c1 : Ch w5 (w.heap.size + 1 + 1) w.heap.size 1 [0] := by rw [← h5]; exact ⟨c1.box.alloc _, c1.row.alloc _, c1.ne⟩
  have u5 : Below w.heap.size w w5 := by rw [← h5]; exact u4.alloc (by omega) _
  refine ⟨⟨c1.box.alloc _, c1.row.alloc _, c1.ne⟩, ⟨c2.box.alloc _, c2.row.alloc _, c2.ne⟩, ⟨?_, o3.alloc _, by omega⟩, ⟨by omega, by omega, by omega, by omega, by omega, by omega, by omega, by omega, by omega⟩, ⟨by omega, by omega, by omega⟩, by omega, u5.alloc (by omega) _⟩
  rw [← s5]
  exact Blk.new w5 _ _

theorem info_two : (Try.prog.info? 65).map (fun i => (i.zero, i.size, i.bytes)) = some (some (.agg #[.int .i64 0, .int .i64 0]), 2, 16) := by kernel_rfl
theorem made_tcs (n : Nat) : (madeCells #[Value.int .i64 0, .int .i64 0] (n * 2)).toList = tcs (List.replicate n (0, 0)) := by
  have h0 : ∀ v ∈ tcs (List.replicate n (0, 0)), v = Value.int .i64 0 := by
    intro v hv
    obtain ⟨t, ht, hv⟩ := List.mem_flatMap.1 hv
    rw [(List.mem_replicate.1 ht).2] at hv
    simpa using hv
  have h1 : ∀ v ∈ (madeCells #[Value.int .i64 0, .int .i64 0] (n * 2)).toList, v = Value.int .i64 0 := by
    intro v hv
    unfold madeCells at hv
    simp only [Array.toList_map, List.mem_map, Array.mem_toList_iff] at hv
    obtain ⟨i, _, rfl⟩ := hv
    have : i % 2 < 2 := Nat.mod_lt _ (by omega)
    rcases (by omega : i % 2 = 0 ∨ i % 2 = 1) with h | h <;> simp [h]
  rw [List.eq_replicate_of_mem h0, List.eq_replicate_of_mem h1, tcs_length]
  congr 1
  unfold madeCells
  simp
/-- the two chains, and the row of places -/
structure OfR (w wr : World) (b4 b5 : Nat) (E H : List Nat) (gE cE gH cH gP : Nat) (P : List (Nat × Nat)) : Prop where
  e : Ch wr b4 gE cE E
  h : Ch wr b5 gH cH H
  p : Own wr 65 2 gP P.length P.length (tcs P)
  ne : gP ≠ gE ∧ gP ≠ gH ∧ gP ≠ b4 ∧ gP ≠ b5
  new : w.heap.size ≤ gP
  below : Below w.heap.size w wr
section
variable {w wr wr' : World} {b4 b5 b8 : Nat} {E H : List Nat} {ts : List (Nat × Nat)} {n gE cE gH cH gT cT gP : Nat} {P : List (Nat × Nat)}
theorem OfR.mk' (I : OfI w wr b4 b5 b8 E H ts n gE cE gH cH gT cT) (ho : wr'.ownsRow 0 65 2 (.slice (some ⟨wr.heap.size, 0, none⟩) n n) n (tcs P)) (hg : wr.grownBy wr' none) (hP : P.length = n) :
    OfR w wr' b4 b5 E H gE cE gH cH wr.heap.size P := by
  have hf : Fr (fun _ => False) wr wr' := (Fr.refl _ wr).grown hg (by simp)
  obtain ⟨l1, l2, l3, l4, l5, l6⟩ := I.lts
  have hs := I.below.size
  subst hP
  exact ⟨I.e.fr hf (fun h => h) (fun h => h), I.h.fr hf (fun h => h) (fun h => h), ho, ⟨by omega, by omega, by omega, by omega⟩, hs, I.below.trans (hf.below hs (fun k hk => hk.elim))⟩
theorem OfR.on (I : OfR w wr b4 b5 E H gE cE gH cH gP P) (hb : Below wr.heap.size wr wr') : OfR w wr' b4 b5 E H gE cE gH cH gP P := by
  have hf := Fr.of_below hb (fun _ => False)
  exact ⟨I.e.fr hf (fun h => h) (fun h => h), I.h.fr hf (fun h => h) (fun h => h), I.p.fr hf (fun h => h), I.ne, I.new, I.below.trans (hb.mono I.below.size)⟩
end

theorem tcs_set1 (P : List (Nat × Nat)) (k a : Nat) : (tcs P).set (k * 2) (.int .i64 (a : Int)) = tcs (P.set k (a, (P.getD k (0, 0)).2)) := by
  induction P generalizing k with
  | nil => rfl
  | cons t ts ih =>
    have e : tcs (t :: ts) = Value.int .i64 (t.1 : Int) :: Value.int .i64 (t.2 : Int) :: tcs ts := rfl
    rw [e]
    cases k with
    | zero => rfl
    | succ k =>
      rw [show (k + 1) * 2 = k * 2 + 1 + 1 by omega]
      simp only [List.set_cons_succ]
      rw [ih k]
      rfl
theorem tcs_set2 (P : List (Nat × Nat)) (k a : Nat) : (tcs P).set (k * 2 + 1) (.int .i64 (a : Int)) = tcs (P.set k ((P.getD k (0, 0)).1, a)) := by
  induction P generalizing k with
  | nil => rfl
  | cons t ts ih =>
    have e : tcs (t :: ts) = Value.int .i64 (t.1 : Int) :: Value.int .i64 (t.2 : Int) :: tcs ts := rfl
    rw [e]
    cases k with
    | zero => rfl
    | succ k =>
      rw [show (k + 1) * 2 = k * 2 + 1 + 1 by omega]
      simp only [List.set_cons_succ]
      rw [ih k]
      rfl
theorem OfR.cells {w wr : World} {b4 b5 : Nat} {E H : List Nat} {gE cE gH cH gP : Nat} {P : List (Nat × Nat)} (I : OfR w wr b4 b5 E H gE cE gH cH gP P) (k : Nat) (hk : k < P.length) :
    wr.cell? ⟨gP, k * 2, none⟩ = some (.int .i64 ((P[k].1 : Nat) : Int)) ∧ wr.cell? ⟨gP, k * 2 + 1, none⟩ = some (.int .i64 ((P[k].2 : Nat) : Int)) := by
  obtain ⟨ta, tb⟩ := tcs_at P k hk
  exact ⟨(I.p.cell (k * 2) (by omega)).trans ta, (I.p.cell (k * 2 + 1) (by omega)).trans tb⟩
theorem OfR.setCell {w wr : World} {b4 b5 : Nat} {E H : List Nat} {gE cE gH cH gP : Nat} {P P' : List (Nat × Nat)} (I : OfR w wr b4 b5 E H gE cE gH cH gP P) {o : Nat} {v : Value} (hP : (tcs P).set o v = tcs P') (hl : P'.length = P.length) :
    OfR w (wr.setCell ⟨gP, o, none⟩ v) b4 b5 E H gE cE gH cH gP P' := by
  obtain ⟨h1, h2, h3, h4⟩ := I.ne
  refine ⟨⟨I.e.box.far (p := ⟨gP, o, none⟩) h3.symm _, I.e.row.far (p := ⟨gP, o, none⟩) h1 _, I.e.ne⟩, ⟨I.h.box.far (p := ⟨gP, o, none⟩) h4.symm _, I.h.row.far (p := ⟨gP, o, none⟩) h2 _, I.h.ne⟩, ?_, I.ne, I.new, I.below.setCell I.new _⟩
  have := I.p.set o v
  rw [hP, ← hl] at this
  exact this
theorem getD_set_pair (P : List (Nat × Nat)) (k i : Nat) (t : Nat × Nat) (hk : k < P.length) : (P.set k t).getD i (0, 0) = if i = k then t else P.getD i (0, 0) := by
  rw [List.getD_eq_getElem?_getD, List.getD_eq_getElem?_getD, List.getElem?_set]
  by_cases h : k = i
  · subst h; simp [hk]
  · rw [if_neg h, if_neg (fun e => h e.symm)]

theorem zip_of_getD (P : List (Nat × Nat)) (a b : List Nat) (n : Nat) (hP : P.length = n) (ha : a.length = n) (hb : b.length = n) (h : ∀ i, i < n → P.getD i (0, 0) = (a.getD i 0, b.getD i 0)) : P = a.zip b := by
  apply List.ext_getElem
  · rw [List.length_zip]; omega
  · intro i q1 q2
    have := h i (by omega)
    rw [List.getD_eq_getElem?_getD, List.getD_eq_getElem?_getD, List.getD_eq_getElem?_getD, List.getElem?_eq_getElem q1, List.getElem?_eq_getElem (by omega), List.getElem?_eq_getElem (by omega)] at this
    simp only [Option.getD_some] at this
    rw [this, List.getElem_zip]
theorem ne5 {a b c d e a' b' c' d' e' : Int} (h : ¬ (a, b, c, d, e) = (a', b', c', d', e')) : ¬ a = a' ∨ (a = a' ∧ ¬ b = b') ∨ (a = a' ∧ b = b' ∧ ¬ c = c') ∨ (a = a' ∧ b = b' ∧ c = c' ∧ ¬ d = d') ∨ (a = a' ∧ b = b' ∧ c = c' ∧ d = d' ∧ ¬ e = e') := by
  by_cases h1 : a = a'
  · by_cases h2 : b = b'
    · by_cases h3 : c = c'
      · by_cases h4 : d = d'
        · refine .inr (.inr (.inr (.inr ⟨h1, h2, h3, h4, fun h5 => h (by rw [h1, h2, h3, h4, h5])⟩)))
        · exact .inr (.inr (.inr (.inl ⟨h1, h2, h3, h4⟩)))
      · exact .inr (.inr (.inl ⟨h1, h2, h3⟩))
    · exact .inr (.inl ⟨h1, h2⟩)
  · exact .inl h1

/-- the same, and the box of the split -/
structure OfJ (w wr : World) (b4 b5 b8 : Nat) (E H : List Nat) (ts : List (Nat × Nat)) (n gE cE gH cH gT cT bS : Nat) (cs : Array Value) : Prop where
  I : OfI w wr b4 b5 b8 E H ts n gE cE gH cH gT cT
  B : Blk wr bS 59 cs
  ne : bS ≠ b4 ∧ bS ≠ b5 ∧ bS ≠ b8 ∧ bS ≠ gE ∧ bS ≠ gH ∧ bS ≠ gT
section
variable {w wr wr' : World} {b4 b5 b8 : Nat} {E H : List Nat} {ts : List (Nat × Nat)} {n gE cE gH cH gT cT bS : Nat} {cs : Array Value}
theorem OfJ.on (J : OfJ w wr b4 b5 b8 E H ts n gE cE gH cH gT cT bS cs) (hb : Below wr.heap.size wr wr') : OfJ w wr' b4 b5 b8 E H ts n gE cE gH cH gT cT bS cs := ⟨J.I.on hb, J.B.below hb J.B.lt, J.ne⟩
theorem OfJ.stepE (J : OfJ w wr b4 b5 b8 E H ts n gE cE gH cH gT cT bS cs) (a : Nat) (bl : List Nat) (vs : Array Value) (hv : vs.toList = ns bl) (ln : Nat) (hln : ln = bl.length) (bz : Nat) (hbz : wr.heap.size = bz) (ha : a < E.length) (hL : E.length ≤ 1000) (hbl : ∀ b ∈ bl, b ≤ 1000) (hl : bl.length ≤ 1000) :
    Calls Try.prog 28 #[.pointer (some ⟨b4, 0, none⟩), .int .i64 a, .slice (some ⟨bz, 0, none⟩) ln ln] (wr.alloc (.cells vs 3))
      (fun e w' => e = .returned (.tuple #[]) ∧ ∃ g' c', OfJ w w' b4 b5 b8 (S.put E a bl) H ts n g' c' gH cH gT cT bS cs) := by
  subst hln hbz
  have hB : Below wr.heap.size wr (wr.alloc (.cells vs 3)) := (Below.refl _ _).alloc (Nat.le_refl _) _
  have J1 := J.on hB
  obtain ⟨l1, l2, l3, l4, l5, l6⟩ := J.I.lts
  have hvs : vs.size = bl.length * 1 := by rw [← Array.length_toList, hv, ns_length]; omega
  have hr := (Own.new wr 3 1 bl.length vs (by omega) hvs).rd
  rw [hv] at hr
  refine (put_any b4 gE cE a E bl _ _ _ J1.I.e hr ha hL hbl hl (fun ad e => by injection e with e; subst e; exact ⟨Nat.ne_of_gt l4, Nat.ne_of_gt l1⟩)).mono ?_
  rintro e w' ⟨rfl, g', c', hc, hf, hg⟩
  obtain ⟨n1, n2, n3, n4, n5, n6⟩ := J.ne
  have hbs := J1.B.lt
  refine ⟨rfl, g', c', J1.I.putE hc hf hg, J1.B.fr hf (fun h => by rcases h with h | h; exact n1 h; exact n4 h), n1, n2, n3, ?_, n5, n6⟩
  rcases hg with rfl | hg
  · exact n4
  · exact ne_new' hg hbs
theorem OfJ.stepH (J : OfJ w wr b4 b5 b8 E H ts n gE cE gH cH gT cT bS cs) (a : Nat) (bl : List Nat) (vs : Array Value) (hv : vs.toList = ns bl) (ln : Nat) (hln : ln = bl.length) (bz : Nat) (hbz : wr.heap.size = bz) (ha : a < H.length) (hL : H.length ≤ 1000) (hbl : ∀ b ∈ bl, b ≤ 1000) (hl : bl.length ≤ 1000) :
    Calls Try.prog 28 #[.pointer (some ⟨b5, 0, none⟩), .int .i64 a, .slice (some ⟨bz, 0, none⟩) ln ln] (wr.alloc (.cells vs 3))
      (fun e w' => e = .returned (.tuple #[]) ∧ ∃ g' c', OfJ w w' b4 b5 b8 E (S.put H a bl) ts n gE cE g' c' gT cT bS cs) := by
  subst hln hbz
  have hB : Below wr.heap.size wr (wr.alloc (.cells vs 3)) := (Below.refl _ _).alloc (Nat.le_refl _) _
  have J1 := J.on hB
  obtain ⟨l1, l2, l3, l4, l5, l6⟩ := J.I.lts
  have hvs : vs.size = bl.length * 1 := by rw [← Array.length_toList, hv, ns_length]; omega
  have hr := (Own.new wr 3 1 bl.length vs (by omega) hvs).rd
  rw [hv] at hr
  refine (put_any b5 gH cH a H bl _ _ _ J1.I.h hr ha hL hbl hl (fun ad e => by injection e with e; subst e; exact ⟨Nat.ne_of_gt l5, Nat.ne_of_gt l2⟩)).mono ?_
  rintro e w' ⟨rfl, g', c', hc, hf, hg⟩
  obtain ⟨n1, n2, n3, n4, n5, n6⟩ := J.ne
  have hbs := J1.B.lt
  refine ⟨rfl, g', c', J1.I.putH hc hf hg, J1.B.fr hf (fun h => by rcases h with h | h; exact n2 h; exact n5 h), n1, n2, n3, n4, ?_, n6⟩
  rcases hg with rfl | hg
  · exact n5
  · exact ne_new' hg hbs
theorem OfJ.cells {a b c d e : Value} (J : OfJ w wr b4 b5 b8 E H ts n gE cE gH cH gT cT bS #[a, b, c, d, e]) :
    wr.cell? ⟨bS, 0, none⟩ = some a ∧ wr.cell? ⟨bS, 1, none⟩ = some b ∧ wr.cell? ⟨bS, 2, none⟩ = some c ∧ wr.cell? ⟨bS, 3, none⟩ = some d ∧ wr.cell? ⟨bS, 4, none⟩ = some e :=
  ⟨J.B.cell 0, J.B.cell 1, J.B.cell 2, J.B.cell 3, J.B.cell 4⟩
end
theorem turn1z {s : S.State} {m : Nat} (hm : s.ts.length = m + 1) (hj : s.last.2 = 0) : s.turn 1 = ⟨S.put (S.put s.E s.last.1 [s.n, s.n + 1]) (s.n + 1) [s.n + 2], S.put (S.put s.H s.last.1 [s.n + 1, s.n]) s.n [s.n + 2], s.ts.set m (s.n + 1, s.n + 2) ++ [(s.n, 0)], s.n + 3⟩ := by
  unfold S.State.turn; rw [if_pos rfl, if_pos hj, hm]; rfl
theorem turn1s {s : S.State} {m : Nat} (hm : s.ts.length = m + 1) (hj : ¬ s.last.2 = 0) : s.turn 1 = ⟨S.put s.E s.last.1 [s.n, s.n + 1], S.put s.H s.last.1 [s.n + 1, s.n], s.ts.set m (s.n + 1, s.last.2) ++ [(s.n, 0)], s.n + 2⟩ := by
  unfold S.State.turn; rw [if_pos rfl, if_neg hj, hm]; rfl
theorem may1 {s : S.State} {f1 f2 f3 f4 : Int} (h : S.may s.ts s.n 1 = ((1, f1, f2, f3, f4), true)) : f1 = (s.last.1 : Int) ∧ f2 = (s.n : Int) ∧ f3 = ((s.n + 1 : Nat) : Int) ∧ (s.last.2 = 0 → f4 = ((s.n + 2 : Nat) : Int)) ∧ (s.last.2 ≠ 0 → f4 = (s.last.2 : Int)) := by
  have em : S.may s.ts s.n 1 = ((1, (s.last.1 : Int), (s.n : Int), (s.n : Int) + 1, if s.last.2 = 0 then (s.n : Int) + 2 else (s.last.2 : Int)), true) := by
    unfold S.may
    rw [if_pos rfl]
    rfl
  rw [em] at h
  injection h with h _
  injection h with _ h
  injection h with e1 h
  injection h with e2 h
  injection h with e3 e4
  refine ⟨e1.symm, e2.symm, by rw [← e3]; simp, fun hj => ?_, fun hj => ?_⟩
  · rw [if_pos hj] at e4; rw [← e4]; simp
  · rw [if_neg hj] at e4; rw [← e4]
theorem may2 {s : S.State} {f1 f2 f3 f4 : Int} (h : S.may s.ts s.n 2 = ((2, f1, f2, f3, f4), true)) : ∃ a d : Nat, f1 = (a : Int) ∧ f2 = 0 ∧ f3 = 0 ∧ f4 = (d : Int) := by
  unfold S.may at h
  rw [if_neg (by decide), if_pos rfl] at h
  split at h
  · cases h
  · injection h with h _
    injection h with _ h
    injection h with e1 h
    injection h with e2 h
    injection h with e3 e4
    exact ⟨_, _, e1.symm, e2.symm, e3.symm, e4.symm⟩
theorem may3 {s : S.State} {f1 f2 f3 f4 : Int} {b : Bool} (h : S.may s.ts s.n 3 = ((3, f1, f2, f3, f4), b)) : f1 = (s.last.1 : Int) ∧ f2 = 0 ∧ f3 = 0 ∧ f4 = (s.last.2 : Int) := by
  unfold S.may at h
  rw [if_neg (by decide), if_neg (by decide), if_pos rfl] at h
  injection h with h _
  injection h with _ h
  injection h with e1 h
  injection h with e2 h
  injection h with e3 e4
  exact ⟨e1.symm, e2.symm, e3.symm, e4.symm⟩
theorem turn2 {s : S.State} {m : Nat} (hm : s.ts.length = m + 1) : s.turn 2 = { s with ts := s.ts.take m } := by unfold S.State.turn; rw [if_neg (by decide), if_pos rfl, hm]; rfl
theorem turn3 {s : S.State} {m : Nat} (hm : s.ts.length = m + 1) : s.turn 3 = { s with ts := s.ts.set m (s.last.2, 0) } := by unfold S.State.turn; rw [if_neg (by decide), if_neg (by decide), hm]; rfl

set_option maxHeartbeats 4000000 in
theorem of_any (l : List S.Five) (A : Option Addr) (c : Nat) (w : World) (hr : Rd w w.heap.size A (fcs l)) (hl : l.length ≤ 60) :
    Calls Try.prog 20 #[.slice A l.length c] w (Ofed w l) := by
  go_enter Try.func20, Try.ntmps20
  go_wp2
  obtain ⟨i2, hi, hz0, hz1, hz2⟩ := info_parts info_two
  have I0 := start_of w
  unfold start at I0
  have hB0 := I0.new
  generalize (((((w.alloc (.cells #[.int .i64 0] 3)).alloc (.cells #[.int .i64 0] 3)).alloc (.cells #[.slice (some ⟨w.heap.size, 0, none⟩) 1 1] 71)).alloc
    (.cells #[.slice (some ⟨w.heap.size + 1, 0, none⟩) 1 1] 71)).alloc (.cells #[.int .i64 0, .int .i64 0] 74)).alloc
    (.cells #[.slice (some ⟨w.heap.size + 1 + 1 + 1 + 1, 0, none⟩) 1 1, .int .i64 1] 77) = w0 at I0 ⊢
  generalize w.heap.size + 1 + 1 + 1 + 1 + 1 = b8 at I0 hB0 ⊢
  generalize w.heap.size + 1 + 1 + 1 + 1 = gT0 at I0 hB0 ⊢
  generalize w.heap.size + 1 + 1 + 1 = b5 at I0 hB0 ⊢
  generalize w.heap.size + 1 + 1 = b4 at I0 hB0 ⊢
  generalize w.heap.size + 1 = gH0 at I0 hB0 ⊢
  clear hB0
  go_loopg [29] l.length (fun gk ii wr => ∃ (k : Nat) (s : S.State) (gE cE gH cH gT cT : Nat), k + gk = l.length ∧ ii = .int .i64 k ∧ OfI w wr b4 b5 b8 s.E s.H s.ts s.n gE cE gH cH gT cT ∧ s.Good ∧ Hid (S.run S.init l = S.run s (l.drop k)) ∧ s.n ≤ 1 + 3 * k ∧ s.ts.length ≤ 1 + k)
  case atStart => exact ⟨0, S.init, _, _, _, _, _, _, by omega, rfl, I0, S.init_good, rfl, by simp [S.init], by simp [S.init]⟩
  case round =>
    obtain ⟨k, s, gE, cE, gH, cH, gT, cT, hk, rfl, I, hg, HR, hn, ht⟩ := hrel
    clear I0
    have HK := Lib.hid hk
    by_cases hlt : k < l.length
    · have hR := hr.on I.below
      obtain ⟨q0, q1, q2, q3, q4⟩ := fcs_at l k hlt
      obtain ⟨b1, o1, rfl, hb1, hc0⟩ := hR.at_ q0
      obtain ⟨_, _, eA, _, hc1⟩ := hR.at_ q1
      injection eA with eA; injection eA with e1 e2; subst e1 e2
      obtain ⟨_, _, eA, _, hc2⟩ := hR.at_ q2
      injection eA with eA; injection eA with e1 e2; subst e1 e2
      obtain ⟨_, _, eA, _, hc3⟩ := hR.at_ q3
      injection eA with eA; injection eA with e1 e2; subst e1 e2
      obtain ⟨_, _, eA, _, hc4⟩ := hR.at_ q4
      injection eA with eA; injection eA with e1 e2; subst e1 e2
      rw [← Nat.add_assoc] at hc1 hc2 hc3 hc4
      have hR1 : Hid (S.run S.init l = if s.ok l[k] then S.run (s.turn l[k].1) (l.drop (k + 1)) else none) := by
        rw [HR.out, List.drop_eq_getElem_cons hlt]; exact rfl
      clear HR q0 q1 q2 q3 q4 hk hR
      generalize l[k] = f at hc0 hc1 hc2 hc3 hc4 hR1
      obtain ⟨f0, f1, f2, f3, f4⟩ := f
      simp only at hc0 hc1 hc2 hc3 hc4 hR1
      have hI : (k : Int) < (l.length : Int) := by omega
      have I1 := I.on (wr' := wr.alloc (.cells #[.int .i64 f0, .int .i64 f1, .int .i64 f2, .int .i64 f3, .int .i64 f4] 59)) ((Below.refl _ _).alloc (Nat.le_refl _) _)
      have B1 := Blk.new wr 59 #[.int .i64 f0, .int .i64 f1, .int .i64 f2, .int .i64 f3, .int .i64 f4]
      have hpos := hg.pos
      have hbS := I.lts
      clear I
      go_wp2_with (go_at_call 29; refine (may_any b8 gT cT s.n s.ts f0 _ I1.t hpos (by omega) (by omega)).mono ?_)
      rintro e w1 ⟨rfl, hbe⟩
      have I2 := I1.on hbe
      have B2 := B1.below hbe B1.lt
      have hbs := B2.lt
      clear I1 B1 hbe hc0 hc1 hc2 hc3 hc4 hr hb1
      generalize wr.heap.size = bS at B2 hbs hbS ⊢
      generalize hm : S.may s.ts s.n f0 = mr
      obtain ⟨⟨m0, m1, m2, m3, m4⟩, ok⟩ := mr
      have HM := Lib.hid hm
      clear hm
      simp only
      have x0 := B2.at_ (i := 0) rfl
      have x1 := B2.at_ (i := 1) rfl
      have x2 := B2.at_ (i := 2) rfl
      have x3 := B2.at_ (i := 3) rfl
      have x4 := B2.at_ (i := 4) rfl
      cases ok
      · go_wp2_with fail
        refine bodyPost_ret (v := .tuple #[.slice none 0 0, .int .i64 1]) (by simp [results, Try.results20, go_sem]) rfl ?_
        refine ⟨I2.below.alloc (Nat.le_trans I2.below.size (Nat.le_refl _)) _, .inl ⟨?_, rfl⟩⟩
        rw [hR1.out, if_neg]
        intro h
        have := h.1
        rw [HM.out] at this
        cases this
      · by_cases hf : (f0, f1, f2, f3, f4) = (m0, m1, m2, m3, m4)
        · have hok : s.ok (f0, f1, f2, f3, f4) := ⟨by rw [HM.out], by rw [HM.out]; exact hf⟩
          have hR2 : Hid (S.run S.init l = S.run (s.turn f0) (l.drop (k + 1))) := by rw [hR1.out, if_pos hok]; exact rfl
          injection hf with e0 hf
          injection hf with e1 hf
          injection hf with e2 hf
          injection hf with e3 e4
          subst e0 e1 e2 e3 e4
          clear hR1
          have I3 := I2.on (wr' := w1.alloc (.cells #[.int .i64 f0, .int .i64 f1, .int .i64 f2, .int .i64 f3, .int .i64 f4] 59)) ((Below.refl _ _).alloc (Nat.le_refl _) _)
          have hG2 := hg.turn hok
          have hn2 := S.turn_n s f0
          have ht2 := S.turn_ts s f0
          simp only at hG2
          obtain ⟨t1, t2⟩ := hg.last
          have HK2 := HK.out
          -- the end of a round
          have fin : ∀ (wz : World) (gE cE gH cH gT cT : Nat), OfI w wz b4 b5 b8 (s.turn f0).E (s.turn f0).H (s.turn f0).ts (s.turn f0).n gE cE gH cH gT cT →
              ∃ (k' : Nat) (s : S.State) (gE cE gH cH gT cT : Nat), k' + (gk - 1) = l.length ∧ Value.int .i64 ((k : Int) + 1) = .int .i64 k' ∧ OfI w wz b4 b5 b8 s.E s.H s.ts s.n gE cE gH cH gT cT ∧ s.Good ∧ Hid (S.run S.init l = S.run s (l.drop k')) ∧ s.n ≤ 1 + 3 * k' ∧ s.ts.length ≤ 1 + k' :=
            fun wz gE cE gH cH gT cT h => ⟨k + 1, s.turn f0, gE, cE, gH, cH, gT, cT, by omega, by go_num, h, hG2, hR2, by omega, by omega⟩
          have hgk : 0 < gk := by omega
          clear HK2 hR2 hG2 I2 hn2 ht2
          obtain ⟨m, hm⟩ : ∃ m, s.ts.length = m + 1 := ⟨s.ts.length - 1, by omega⟩
          have hlast : s.ts.getD m (0, 0) = s.last := by unfold S.State.last; rw [hm]; rfl
          by_cases k1 : f0 = 1
          · subst k1
            have J3 : OfJ w (w1.alloc (.cells #[.int .i64 1, .int .i64 f1, .int .i64 f2, .int .i64 f3, .int .i64 f4] 59)) b4 b5 b8 s.E s.H s.ts s.n gE cE gH cH gT cT bS #[.int .i64 1, .int .i64 f1, .int .i64 f2, .int .i64 f3, .int .i64 f4] :=
              ⟨I3, B2.alloc _, by omega, by omega, by omega, by omega, by omega, by omega⟩
            obtain ⟨e1, e2, e3, e4, e5⟩ := may1 HM.out
            have HML := Lib.hid hm
            have hml : m ≤ 1000 := by omega
            have hel := hg.e
            have hhl := hg.h
            have hn3 : s.n ≤ 190 := by omega
            by_cases hj : s.last.2 = 0
            · have e4 := e4 hj
              rw [turn1z hm hj] at fin
              simp only at fin
              clear e5 I3 B2 HM hlast hm hj t2
              generalize s.last.1 = a at *
              obtain ⟨C, hC⟩ : ∃ C, C = s.n + 1 := ⟨_, rfl⟩
              obtain ⟨D, hD⟩ : ∃ D, D = s.n + 2 := ⟨_, rfl⟩
              have HC := Lib.hid hC
              have HD := Lib.hid hD
              rw [← hC] at e3 fin
              rw [← hD] at e4 fin
              have hcb : C ≤ 200 := by omega
              have hdb : D ≤ 200 := by omega
              have hcd : C < D := by omega
              clear hC hD
              subst e1 e2 e3 e4
              go_wp2_with (go_at_call 28; refine (J3.stepE a [s.n, C] #[.int .i64 (s.n : Int), .int .i64 (C : Int)] rfl 2 rfl (w1.heap.size + 1) (by simp) (by omega) (by omega) (by simp; omega) (by simp)).mono ?_)
              rintro e w4 ⟨rfl, g4, c4, J4⟩
              obtain ⟨y0, y1, y2, y3, y4⟩ := J4.cells
              have hbs4 := J4.B.lt
              clear x0 x1 x2 x3 x4 J3
              go_wp2_with (go_at_call 28; refine (J4.stepH a [C, s.n] #[.int .i64 (C : Int), .int .i64 (s.n : Int)] rfl 2 rfl w4.heap.size rfl (by omega) (by omega) (by simp; omega) (by simp)).mono ?_)
              rintro e w5 ⟨rfl, g5, c5, J5⟩
              obtain ⟨x0, x1, x2, x3, x4⟩ := J5.cells
              have hbs5 := J5.B.lt
              have hl5 : (S.put s.E a [s.n, C]).length = s.n + 2 := by simp only [S.put, S.put1_length, hel]; have := HC.out; omega
              have hl6 : (S.put s.H a [C, s.n]).length = s.n + 2 := by simp only [S.put, S.put1_length, hhl]; have := HC.out; omega
              clear y0 y1 y2 y3 y4 J4
              go_wp2_with (go_at_call 28; refine (J5.stepE C [D] #[.int .i64 (D : Int)] rfl 1 rfl w5.heap.size rfl (by have := HC.out; omega) (by omega) (by simp; omega) (by simp)).mono ?_)
              rintro e w6 ⟨rfl, g6, c6, J6⟩
              obtain ⟨y0, y1, y2, y3, y4⟩ := J6.cells
              have hbs6 := J6.B.lt
              clear x0 x1 x2 x3 x4 J5
              go_wp2_with (go_at_call 28; refine (J6.stepH s.n [D] #[.int .i64 (D : Int)] rfl 1 rfl w6.heap.size rfl (by omega) (by omega) (by simp; omega) (by simp)).mono ?_)
              rintro e w7 ⟨rfl, g7, c7, J7⟩
              obtain ⟨x0, x1, x2, x3, x4⟩ := J7.cells
              clear y0 y1 y2 y3 y4 J6
              go_wp2_with (go_at_call 30; refine (turn_fork b8 gT cT s.n m a s.n C D s.ts _ J7.I.t HML.out hml (by omega) (by omega)).mono ?_)
              rintro e w8 ⟨rfl, g8, c8, h8, hf8, hg8⟩
              have I8 := J7.I.turned h8 hf8 hg8
              have em : max C D + 1 = s.n + 3 := by have := HC.out; have := HD.out; omega
              rw [em] at I8
              clear x0 x1 x2 x3 x4 J7
              go_wp2_with fail
              go_roundg (gk - 1)
              case measure => omega
              case rel => exact fin _ _ _ _ _ _ _ I8
            · have e5 := e5 hj
              rw [turn1s hm hj] at fin
              simp only at fin
              clear e4 I3 B2 HM hlast hm hj
              generalize s.last.1 = a at *
              generalize s.last.2 = D at *
              obtain ⟨C, hC⟩ : ∃ C, C = s.n + 1 := ⟨_, rfl⟩
              have HC := Lib.hid hC
              rw [← hC] at e3 fin
              have hcb : C ≤ 200 := by omega
              have hcd : ¬ C < D := by omega
              clear hC
              subst e1 e2 e3 e5
              go_wp2_with (go_at_call 28; refine (J3.stepE a [s.n, C] #[.int .i64 (s.n : Int), .int .i64 (C : Int)] rfl 2 rfl (w1.heap.size + 1) (by simp) (by omega) (by omega) (by simp; omega) (by simp)).mono ?_)
              rintro e w4 rfl g4 c4 J4
              obtain ⟨y0, y1, y2, y3, y4⟩ := J4.cells
              have hbs4 := J4.B.lt
              clear x0 x1 x2 x3 x4 J3
              go_wp2_with (go_at_call 28; refine (J4.stepH a [C, s.n] #[.int .i64 (C : Int), .int .i64 (s.n : Int)] rfl 2 rfl w4.heap.size rfl (by omega) (by omega) (by simp; omega) (by simp)).mono ?_)
              rintro e w5 ⟨rfl, g5, c5, J5⟩
              obtain ⟨x0, x1, x2, x3, x4⟩ := J5.cells
              have hbs5 := J5.B.lt
              clear y0 y1 y2 y3 y4 J4
              go_wp2_with (go_at_call 30; refine (turn_fork b8 gT cT s.n m a s.n C D s.ts _ J5.I.t HML.out hml (by omega) (by omega)).mono ?_)
              rintro e w8 ⟨rfl, g8, c8, h8, hf8, hg8⟩
              have I8 := J5.I.turned h8 hf8 hg8
              have em : max C D + 1 = s.n + 2 := by have := HC.out; omega
              rw [em] at I8
              clear x0 x1 x2 x3 x4 J5
              go_wp2_with fail
              go_roundg (gk - 1)
              case measure => omega
              case rel => exact fin _ _ _ _ _ _ _ I8
          · by_cases k2 : f0 = 2
            · subst k2
              obtain ⟨a, d, rfl, rfl, rfl, rfl⟩ := may2 HM.out
              rw [turn2 hm] at fin
              simp only at fin
              have HML := Lib.hid hm
              have hml : m ≤ 1000 := by omega
              clear k1 hm HM hlast
              go_wp2_with (go_at_call 30; refine (turn_end b8 gT cT s.n m a d s.ts _ I3.t HML.out hml).mono ?_)
              rintro e w4 ⟨rfl, g4, c4, h4, hf4, hg4⟩
              have I4 := I3.turned h4 hf4 hg4
              go_wp2_with fail
              go_roundg (gk - 1)
              case measure => omega
              case rel => exact fin _ _ _ _ _ _ _ I4
            · by_cases k3 : f0 = 3
              · subst k3
                obtain ⟨rfl, rfl, rfl, rfl⟩ := may3 HM.out
                rw [turn3 hm] at fin
                simp only at fin
                have HML := Lib.hid hm
                have hml : m ≤ 1000 := by omega
                clear k1 k2 hm HM hlast
                generalize s.last.1 = a at *
                generalize s.last.2 = d at *
                go_wp2_with (go_at_call 30; refine (turn_join b8 gT cT s.n m a d s.ts _ I3.t HML.out hml).mono ?_)
                rintro e w4 ⟨rfl, g4, c4, h4, hf4, hg4⟩
                have I4 := I3.turned h4 hf4 hg4
                go_wp2_with fail
                go_roundg (gk - 1)
                case measure => omega
                case rel => exact fin _ _ _ _ _ _ _ I4
              · exfalso
                have := HM.out
                unfold S.may at this
                rw [if_neg k1, if_neg k2, if_neg k3] at this
                cases this
        · have hno : ¬ s.ok (f0, f1, f2, f3, f4) := fun h => hf (by have := h.2; rw [HM.out] at this; exact this)
          have hR2 : Hid (S.run S.init l = none) := by rw [hR1.out, if_neg hno]; exact rfl
          clear hR1 hno
          rcases ne5 hf with h | ⟨rfl, h⟩ | ⟨rfl, rfl, h⟩ | ⟨rfl, rfl, rfl, h⟩ | ⟨rfl, rfl, rfl, rfl, h⟩
          all_goals
            clear hf
            go_wp2_with fail
            refine bodyPost_ret (v := .tuple #[.slice none 0 0, .int .i64 1]) (by simp [results, Try.results20, go_sem]) rfl ?_
            exact ⟨I2.below.alloc (Nat.le_trans I2.below.size (Nat.le_refl _)) _, .inl ⟨hR2.out, rfl⟩⟩
    · obtain rfl : gk = 0 := by omega
      have t1 := I.t.box.at_ (i := 1) rfl
      clear hk
      have hnn := hg.last
      have hn2 : s.n ≤ 1000 := by have := HK.out; omega
      go_wp2_with (at_make; refine wpList_make_full _ rfl (.tmp 90) (.tmp 90) 34 rfl 0 65 i2 _ 2 Try.underlying34 hi hz0 hz1 .i64 .i64 s.n s.n s.n rfl rfl rfl rfl ?d1 ?d2 ?d3 ?_)
      case d1 => rw [hz2]; omega
      case d2 => simp only [maxLen]; omega
      case d3 => simp
      intro w1 ho1 hg1
      rw [made_tcs] at ho1
      have J : OfR w w1 b4 b5 s.E s.H gE cE gH cH wr.heap.size (List.replicate s.n (0, 0)) := OfR.mk' I ho1 hg1 (by simp)
      generalize wr.heap.size = gP at J ⊢
      clear ho1 hg1 t1 I hr
      go_wp2_with (go_at_call 31; refine (places_any b4 gE cE s.E _ J.e (by rw [hg.e]; omega) (fun x hx => by rw [hg.e]; exact hg.elt x hx) (by rw [hg.e]; omega)).mono ?_)
      rintro e w2 ⟨g2, c2, rfl, own2, hb2, hg2⟩
      have J2 := J.on hb2
      have hPE : (S.places s.E).length = s.n := by rw [S.places_length, hg.e]
      rw [hPE] at own2 ⊢
      have hne2 : gP ≠ g2 := by have := J.p.lt; omega
      clear J
      have HPE := Lib.hid hPE
      clear hPE
      go_wp2_with fail
      go_loopg [94] s.n (fun gk ii wi => ∃ (k : Nat) (P : List (Nat × Nat)), k + gk = s.n ∧ ii = .int .i64 k ∧ OfR w wi b4 b5 s.E s.H gE cE gH cH gP P ∧ P.length = s.n ∧ Own wi 3 1 g2 s.n c2 (ns (S.places s.E)) ∧ Hid (∀ i, i < s.n → P.getD i (0, 0) = (if i < k then (S.places s.E).getD i 0 else 0, 0)))
      case atStart => exact ⟨0, _, by omega, rfl, J2, by simp, own2, fun i hi => by simp [List.getD_eq_getElem?_getD, hi]⟩
      case round =>
        obtain ⟨k2, P, hk2, rfl, J, hP, own, HP⟩ := hrel
        have HK2 := Lib.hid hk2
        have HPL := Lib.hid hP
        clear own2 J2
        by_cases hlt2 : k2 < s.n
        · have hPk : k2 < P.length := by omega
          have hEk : k2 < (S.places s.E).length := by rw [HPE.out]; exact hlt2
          obtain ⟨x0, x1⟩ := J.cells k2 hPk
          have f0 := J.p.frozen (k2 * 2)
          have y0 := own.cell k2 (by omega)
          rw [ns_at _ k2 hEk] at y0
          have hI : (k2 : Int) < (s.n : Int) := by omega
          have J3 := J.setCell (tcs_set1 P k2 (S.places s.E)[k2]) (by simp)
          have own3 := own.far (p := ⟨gP, k2 * 2, none⟩) hne2 (.int .i64 (((S.places s.E)[k2] : Nat) : Int))
          clear hk2 hP J own
          go_wp2_with fail
          go_roundg (gk - 1)
          case measure => have := HK2.out; omega
          case rel =>
            have h1 := HK2.out
            have h2 := HPL.out
            refine ⟨k2 + 1, _, by omega, by go_num, J3, by simpa using h2, own3, fun i hi => ?_⟩
            rw [getD_set_pair _ _ _ _ hPk, HP i hi, HP k2 hlt2]
            by_cases e : i = k2
            · subst e
              simp [List.getD_eq_getElem?_getD, hEk]
            · rw [if_neg e]
              by_cases h : i < k2
              · rw [if_pos h, if_pos (by omega)]
              · rw [if_neg h, if_neg (by omega)]
        · obtain rfl : gk = 0 := by omega
          clear hk2 hP own
          go_wp2_with (go_at_call 31; refine (places_any b5 gH cH s.H _ J.h (by rw [hg.h]; omega) (fun x hx => by rw [hg.h]; exact hg.hlt x hx) (by rw [hg.h]; omega)).mono ?_)
          rintro e w3 ⟨g3, c3, rfl, own3, hb3, hg3⟩
          have J2 := J.on hb3
          have hPH : (S.places s.H).length = s.n := by rw [S.places_length, hg.h]
          rw [hPH] at own3 ⊢
          have hne3 : gP ≠ g3 := by have := J.p.lt; omega
          clear J
          have HPH := Lib.hid hPH
          clear hPH
          go_wp2_with fail
          go_loopg [107] s.n (fun gk ii wi => ∃ (k : Nat) (P : List (Nat × Nat)), k + gk = s.n ∧ ii = .int .i64 k ∧ OfR w wi b4 b5 s.E s.H gE cE gH cH gP P ∧ P.length = s.n ∧ Own wi 3 1 g3 s.n c3 (ns (S.places s.H)) ∧ Hid (∀ i, i < s.n → P.getD i (0, 0) = ((S.places s.E).getD i 0, if i < k then (S.places s.H).getD i 0 else 0)))
          case atStart =>
            have h1 := HPL.out
            have h2 := HK2.out
            exact ⟨0, P, by omega, rfl, J2, h1, own3, fun i hi => by rw [HP i hi, if_pos (by omega)]; rfl⟩
          case round =>
            clear HPL HK2 HP
            obtain ⟨k3, P', hk3, rfl, J, hP, own, HP⟩ := hrel
            have HK3 := Lib.hid hk3
            have HPL := Lib.hid hP
            clear own3 J2
            by_cases hlt3 : k3 < s.n
            · have hPk : k3 < P'.length := by omega
              have hEk : k3 < (S.places s.H).length := by rw [HPH.out]; exact hlt3
              obtain ⟨x0, x1⟩ := J.cells k3 hPk
              have f1 := J.p.frozen (k3 * 2 + 1)
              have y0 := own.cell k3 (by omega)
              rw [ns_at _ k3 hEk] at y0
              have hI : (k3 : Int) < (s.n : Int) := by omega
              have J3 := J.setCell (tcs_set2 P' k3 (S.places s.H)[k3]) (by simp)
              have own3 := own.far (p := ⟨gP, k3 * 2 + 1, none⟩) hne3 (.int .i64 (((S.places s.H)[k3] : Nat) : Int))
              clear hk3 hP J own
              go_wp2_with fail
              go_roundg (gk - 1)
              case measure => have := HK3.out; omega
              case rel =>
                have h1 := HK3.out
                have h2 := HPL.out
                refine ⟨k3 + 1, _, by omega, by go_num, J3, by simpa using h2, own3, fun i hi => ?_⟩
                rw [getD_set_pair _ _ _ _ hPk, HP i hi, HP k3 hlt3]
                by_cases e : i = k3
                · subst e
                  simp [List.getD_eq_getElem?_getD, hEk]
                · rw [if_neg e]
                  by_cases h : i < k3
                  · rw [if_pos h, if_pos (by omega)]
                  · rw [if_neg h, if_neg (by omega)]
            · obtain rfl : gk = 0 := by omega
              clear hk3 hP own
              go_wp2_with fail
              refine bodyPost_ret (v := .tuple #[.slice (some ⟨gP, 0, none⟩) s.n s.n, .int .i64 0]) (by simp [results, Try.results20, go_sem]) rfl ?_
              refine ⟨J.below, .inr ⟨s, gP, s.n, ?_, rfl, ?_, J.new⟩⟩
              · have e1 : l.drop k = [] := List.drop_of_length_le (by omega)
                rw [HR.out, e1]; rfl
              · have h1 := HPL.out
                have h2 := HK3.out
                have e2 : P' = s.places := zip_of_getD P' _ _ s.n h1 HPE.out HPH.out (fun i hi => by rw [HP i hi, if_pos (by omega)])
                rw [← e2, ← h1]
                exact J.p
end Go.Proofs.Ytahhihhfjimppaa
