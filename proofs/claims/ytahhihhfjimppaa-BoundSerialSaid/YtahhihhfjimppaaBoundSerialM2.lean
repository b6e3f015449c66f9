/- Texts for the law BoundSerial, part 2: no statement of its own, lemmas for the proof; their conditions stand in them. -/
import Derived.Test.YtahhihhfjimppaaBoundSerialM1
import Derived.BigRegion
import Derived.ChangeKeysEq
import Derived.Laws.StructEq
import Derived.ProofKit
import Derived.OpenShut
import Derived.Deep.Slices
import Derived.Deep.Fields
import Derived.ChangeSame
/- walks: Of -/
namespace Go.Proofs.Ytahhihhfjimppaa
open Go.RowKit
set_option linter.unusedSimpArgs false
set_option linter.unusedVariables false
set_option maxRecDepth 100000

def Ofed (w : World) (l : List S.Five) (e : Ending) (w' : World) : Prop :=
  Below w.heap.size w w' ∧ ((S.run S.init l = none ∧ e = .returned (.tuple #[.slice none 0 0, .int .i64 1])) ∨
    ∃ s g cap, S.run S.init l = some s ∧ e = .returned (.tuple #[.slice (some ⟨g, 0, none⟩) s.n cap, .int .i64 0]) ∧ Own w' 65 2 g s.n cap (tcs s.places) ∧ w.heap.size ≤ g)

def start (w : World) : World :=
  (((((w.alloc (.cells #[.int .i64 0] 3)).alloc (.cells #[.int .i64 0] 3)).alloc (.cells #[.slice (some ⟨w.heap.size, 0, none⟩) 1 1] 71)).alloc
    (.cells #[.slice (some ⟨w.heap.size + 1, 0, none⟩) 1 1] 71)).alloc (.cells #[.int .i64 0, .int .i64 0] 74)).alloc
    (.cells #[.slice (some ⟨w.heap.size + 1 + 1 + 1 + 1, 0, none⟩) 1 1, .int .i64 1] 77)
theorem start_of (w : World) : OfI w (start w) (w.heap.size + 1 + 1) (w.heap.size + 1 + 1 + 1) (w.heap.size + 1 + 1 + 1 + 1 + 1) [0] [0] [(0, 0)] 1 w.heap.size 1 (w.heap.size + 1) 1 (w.heap.size + 1 + 1 + 1 + 1) 1 := by
  unfold start
  have s1 : (w.alloc (.cells #[.int .i64 0] 3)).heap.size = w.heap.size + 1 := by simp
  generalize h1 : w.alloc (.cells #[.int .i64 0] 3) = w1 at s1 ⊢
  have o1 : Own w1 3 1 w.heap.size 1 1 [.int .i64 0] := by rw [← h1]; exact Own.new w 3 1 1 #[.int .i64 0] (by omega) rfl
  have u1 : Below w.heap.size w w1 := by rw [← h1]; exact (Below.refl _ _).alloc (Nat.le_refl _) _
  have s2 : (w1.alloc (.cells #[.int .i64 0] 3)).heap.size = w.heap.size + 1 + 1 := by simp [s1]
  generalize h2 : w1.alloc (.cells #[.int .i64 0] 3) = w2 at s2 ⊢
  have o2 : Own w2 3 1 (w.heap.size + 1) 1 1 [.int .i64 0] := by rw [← h2, ← s1]; exact Own.new w1 3 1 1 #[.int .i64 0] (by omega) rfl
  have o1 : Own w2 3 1 w.heap.size 1 1 [.int .i64 0] := by rw [← h2]; exact o1.alloc _
  have u2 : Below w.heap.size w w2 := by rw [← h2]; exact u1.alloc (by omega) _
  have s3 : (w2.alloc (.cells #[.slice (some ⟨w.heap.size, 0, none⟩) 1 1] 71)).heap.size = w.heap.size + 1 + 1 + 1 := by simp [s2]
  generalize h3 : w2.alloc (.cells #[.slice (some ⟨w.heap.size, 0, none⟩) 1 1] 71) = w3 at s3 ⊢
  have c1 : Ch w3 (w.heap.size + 1 + 1) w.heap.size 1 [0] := by rw [← h3, ← s2]; exact ⟨Blk.new w2 _ _, o1.alloc _, by omega⟩
  have o2 : Own w3 3 1 (w.heap.size + 1) 1 1 [.int .i64 0] := by rw [← h3]; exact o2.alloc _
  have u3 : Below w.heap.size w w3 := by rw [← h3]; exact u2.alloc (by omega) _
  have s4 : (w3.alloc (.cells #[.slice (some ⟨w.heap.size + 1, 0, none⟩) 1 1] 71)).heap.size = w.heap.size + 1 + 1 + 1 + 1 := by simp [s3]
  generalize h4 : w3.alloc (.cells #[.slice (some ⟨w.heap.size + 1, 0, none⟩) 1 1] 71) = w4 at s4 ⊢
  have c2 : Ch w4 (w.heap.size + 1 + 1 + 1) (w.heap.size + 1) 1 [0] := by rw [← h4, ← s3]; exact ⟨Blk.new w3 _ _, o2.alloc _, by omega⟩
  have c1 : Ch w4 (w.heap.size + 1 + 1) w.heap.size 1 [0] := by rw [← h4]; exact ⟨c1.box.alloc _, c1.row.alloc _, c1.ne⟩
  have u4 : Below w.heap.size w w4 := by rw [← h4]; exact u3.alloc (by omega) _
  have s5 : (w4.alloc (.cells #[.int .i64 0, .int .i64 0] 74)).heap.size = w.heap.size + 1 + 1 + 1 + 1 + 1 := by simp [s4]
  generalize h5 : w4.alloc (.cells #[.int .i64 0, .int .i64 0] 74) = w5 at s5 ⊢
  have o3 : Own w5 74 2 (w.heap.size + 1 + 1 + 1 + 1) 1 1 [.int .i64 0, .int .i64 0] := by rw [← h5, ← s4]; exact Own.new w4 74 2 1 #[.int .i64 0, .int .i64 0] (by omega) rfl
  have c2 : Ch w5 (w.heap.size + 1 + 1 + 1) (w.heap.size + 1) 1 [0] := by rw [← h5]; exact ⟨c2.box.alloc _, c2.row.alloc _, c2.ne⟩
  have c1 : Ch w5 (w.heap.size + 1 + 1) w.heap.size 1 [0] := by rw [← h5]; exact ⟨c1.box.alloc _, c1.row.alloc _, c1.ne⟩
  have u5 : Below w.heap.size w w5 := by rw [← h5]; exact u4.alloc (by omega) _
  refine ⟨⟨c1.box.alloc _, c1.row.alloc _, c1.ne⟩, ⟨c2.box.alloc _, c2.row.alloc _, c2.ne⟩, ⟨?_, o3.alloc _, by omega⟩, ⟨by omega, by omega, by omega, by omega, by omega, by omega, by omega, by omega, by omega⟩, ⟨by omega, by omega, by omega⟩, by omega, u5.alloc (by omega) _⟩
  rw [← s5]
  exact Blk.new w5 _ _

theorem info_two : (Try.prog.info? 65).map (fun i => (i.zero, i.size, i.bytes)) = some (some (.agg #[.int .i64 0, .int .i64 0]), 2, 16) := by kernel_rfl
theorem made_tcs (n : Nat) : (madeCells #[Value.int .i64 0, .int .i64 0] (n * 2)).toList = tcs (List.replicate n (0, 0)) := by
  have h0 : ∀ v ∈ tcs (List.replicate n (0, 0)), v = Value.int .i64 0 := by
    intro v hv
    obtain ⟨t, ht, hv⟩ := List.mem_flatMap.1 hv
    rw [(List.mem_replicate.1 ht).2] at hv
    simpa using hv
  have h1 : ∀ v ∈ (madeCells #[Value.int .i64 0, .int .i64 0] (n * 2)).toList, v = Value.int .i64 0 := by
    intro v hv
    unfold madeCells at hv
    simp only [Array.toList_map, List.mem_map, Array.mem_toList_iff] at hv
    obtain ⟨i, _, rfl⟩ := hv
    have : i % 2 < 2 := Nat.mod_lt _ (by omega)
    rcases (by omega : i % 2 = 0 ∨ i % 2 = 1) with h | h <;> simp [h]
  rw [List.eq_replicate_of_mem h0, List.eq_replicate_of_mem h1, tcs_length]
  congr 1
  unfold madeCells
  simp
/-- the two chains, and the row of places -/
structure OfR (w wr : World) (b4 b5 : Nat) (E H : List Nat) (gE cE gH cH gP : Nat) (P : List (Nat × Nat)) : Prop where
  e : Ch wr b4 gE cE E
  h : Ch wr b5 gH cH H
  p : Own wr 65 2 gP P.length P.length (tcs P)
  ne : gP ≠ gE ∧ gP ≠ gH ∧ gP ≠ b4 ∧ gP ≠ b5
  new : w.heap.size ≤ gP
  below : Below w.heap.size w wr
section
variable {w wr wr' : World} {b4 b5 b8 : Nat} {E H : List Nat} {ts : List (Nat × Nat)} {n gE cE gH cH gT cT gP : Nat} {P : List (Nat × Nat)}
theorem OfR.mk' (I : OfI w wr b4 b5 b8 E H ts n gE cE gH cH gT cT) (ho : wr'.ownsRow 0 65 2 (.slice (some ⟨wr.heap.size, 0, none⟩) n n) n (tcs P)) (hg : wr.grownBy wr' none) (hP : P.length = n) :
    OfR w wr' b4 b5 E H gE cE gH cH wr.heap.size P := by
  have hf : Fr (fun _ => False) wr wr' := (Fr.refl _ wr).grown hg (by simp)
  obtain ⟨l1, l2, l3, l4, l5, l6⟩ := I.lts
  have hs := I.below.size
  subst hP
  exact ⟨I.e.fr hf (fun h => h) (fun h => h), I.h.fr hf (fun h => h) (fun h => h), ho, ⟨by omega, by omega, by omega, by omega⟩, hs, I.below.trans (hf.below hs (fun k hk => hk.elim))⟩
theorem OfR.on (I : OfR w wr b4 b5 E H gE cE gH cH gP P) (hb : Below wr.heap.size wr wr') : OfR w wr' b4 b5 E H gE cE gH cH gP P := by
  have hf := Fr.of_below hb (fun _ => False)
  exact ⟨I.e.fr hf (fun h => h) (fun h => h), I.h.fr hf (fun h => h) (fun h => h), I.p.fr hf (fun h => h), I.ne, I.new, I.below.trans (hb.mono I.below.size)⟩
end

theorem tcs_set1 (P : List (Nat × Nat)) (k a : Nat) : (tcs P).set (k * 2) (.int .i64 (a : Int)) = tcs (P.set k (a, (P.getD k (0, 0)).2)) := by
  induction P generalizing k with
  | nil => rfl
  | cons t ts ih =>
    have e : tcs (t :: ts) = Value.int .i64 (t.1 : Int) :: Value.int .i64 (t.2 : Int) :: tcs ts := rfl
    rw [e]
    cases k with
    | zero => rfl
    | succ k =>
      rw [show (k + 1) * 2 = k * 2 + 1 + 1 by omega]
      simp only [List.set_cons_succ]
      rw [ih k]
      rfl
theorem tcs_set2 (P : List (Nat × Nat)) (k a : Nat) : (tcs P).set (k * 2 + 1) (.int .i64 (a : Int)) = tcs (P.set k ((P.getD k (0, 0)).1, a)) := by
  induction P generalizing k with
  | nil => rfl
  | cons t ts ih =>
    have e : tcs (t :: ts) = Value.int .i64 (t.1 : Int) :: Value.int .i64 (t.2 : Int) :: tcs ts := rfl
    rw [e]
    cases k with
    | zero => rfl
    | succ k =>
      rw [show (k + 1) * 2 = k * 2 + 1 + 1 by omega]
      simp only [List.set_cons_succ]
      rw [ih k]
      rfl
theorem OfR.cells {w wr : World} {b4 b5 : Nat} {E H : List Nat} {gE cE gH cH gP : Nat} {P : List (Nat × Nat)} (I : OfR w wr b4 b5 E H gE cE gH cH gP P) (k : Nat) (hk : k < P.length) :
    wr.cell? ⟨gP, k * 2, none⟩ = some (.int .i64 ((P[k].1 : Nat) : Int)) ∧ wr.cell? ⟨gP, k * 2 + 1, none⟩ = some (.int .i64 ((P[k].2 : Nat) : Int)) := by
  obtain ⟨ta, tb⟩ := tcs_at P k hk
  exact ⟨(I.p.cell (k * 2) (by omega)).trans ta, (I.p.cell (k * 2 + 1) (by omega)).trans tb⟩
theorem OfR.setCell {w wr : World} {b4 b5 : Nat} {E H : List Nat} {gE cE gH cH gP : Nat} {P P' : List (Nat × Nat)} (I : OfR w wr b4 b5 E H gE cE gH cH gP P) {o : Nat} {v : Value} (hP : (tcs P).set o v = tcs P') (hl : P'.length = P.length) :
    OfR w (wr.setCell ⟨gP, o, none⟩ v) b4 b5 E H gE cE gH cH gP P' := by
  obtain ⟨h1, h2, h3, h4⟩ := I.ne
  refine ⟨⟨I.e.box.far (p := ⟨gP, o, none⟩) h3.symm _, I.e.row.far (p := ⟨gP, o, none⟩) h1 _, I.e.ne⟩, ⟨I.h.box.far (p := ⟨gP, o, none⟩) h4.symm _, I.h.row.far (p := ⟨gP, o, none⟩) h2 _, I.h.ne⟩, ?_, I.ne, I.new, I.below.setCell I.new _⟩
  have := I.p.set o v
  rw [hP, ← hl] at this
  exact this
theorem getD_set_pair (P : List (Nat × Nat)) (k i : Nat) (t : Nat × Nat) (hk : k < P.length) : (P.set k t).getD i (0, 0) = if i = k then t else P.getD i (0, 0) := by
  rw [List.getD_eq_getElem?_getD, List.getD_eq_getElem?_getD, List.getElem?_set]
  by_cases h : k = i
  · subst h; simp [hk]
  · rw [if_neg h, if_neg (fun e => h e.symm)]

theorem zip_of_getD (P : List (Nat × Nat)) (a b : List Nat) (n : Nat) (hP : P.length = n) (ha : a.length = n) (hb : b.length = n) (h : ∀ i, i < n → P.getD i (0, 0) = (a.getD i 0, b.getD i 0)) : P = a.zip b := by
  apply List.ext_getElem
  · rw [List.length_zip]; omega
  · intro i q1 q2
    have := h i (by omega)
    rw [List.getD_eq_getElem?_getD, List.getD_eq_getElem?_getD, List.getD_eq_getElem?_getD, List.getElem?_eq_getElem q1, List.getElem?_eq_getElem (by omega), List.getElem?_eq_getElem (by omega)] at this
    simp only [Option.getD_some] at this
    rw [this, List.getElem_zip]
theorem ne5 {a b c d e a' b' c' d' e' : Int} (h : ¬ (a, b, c, d, e) = (a', b', c', d', e')) : ¬ a = a' ∨ (a = a' ∧ ¬ b = b') ∨ (a = a' ∧ b = b' ∧ ¬ c = c') ∨ (a = a' ∧ b = b' ∧ c = c' ∧ ¬ d = d') ∨ (a = a' ∧ b = b' ∧ c = c' ∧ d = d' ∧ ¬ e = e') := by
  by_cases h1 : a = a'
  · by_cases h2 : b = b'
    · by_cases h3 : c = c'
      · by_cases h4 : d = d'
        · refine .inr (.inr (.inr (.inr ⟨h1, h2, h3, h4, fun h5 => h (by rw [h1, h2, h3, h4, h5])⟩)))
        · exact .inr (.inr (.inr (.inl ⟨h1, h2, h3, h4⟩)))
      · exact .inr (.inr (.inl ⟨h1, h2, h3⟩))
    · exact .inr (.inl ⟨h1, h2⟩)
  · exact .inl h1

/-- the same, and the box of the split -/
structure OfJ (w wr : World) (b4 b5 b8 : Nat) (E H : List Nat) (ts : List (Nat × Nat)) (n gE cE gH cH gT cT bS : Nat) (cs : Array Value) : Prop where
  I : OfI w wr b4 b5 b8 E H ts n gE cE gH cH gT cT
  B : Blk wr bS 59 cs
  ne : bS ≠ b4 ∧ bS ≠ b5 ∧ bS ≠ b8 ∧ bS ≠ gE ∧ bS ≠ gH ∧ bS ≠ gT
section
variable {w wr wr' : World} {b4 b5 b8 : Nat} {E H : List Nat} {ts : List (Nat × Nat)} {n gE cE gH cH gT cT bS : Nat} {cs : Array Value}
theorem OfJ.on (J : OfJ w wr b4 b5 b8 E H ts n gE cE gH cH gT cT bS cs) (hb : Below wr.heap.size wr wr') : OfJ w wr' b4 b5 b8 E H ts n gE cE gH cH gT cT bS cs := ⟨J.I.on hb, J.B.below hb J.B.lt, J.ne⟩
theorem OfJ.stepE (J : OfJ w wr b4 b5 b8 E H ts n gE cE gH cH gT cT bS cs) (a : Nat) (bl : List Nat) (vs : Array Value) (hv : vs.toList = ns bl) (ln : Nat) (hln : ln = bl.length) (bz : Nat) (hbz : wr.heap.size = bz) (ha : a < E.length) (hL : E.length ≤ 1000) (hbl : ∀ b ∈ bl, b ≤ 1000) (hl : bl.length ≤ 1000) :
    Calls Try.prog 28 #[.pointer (some ⟨b4, 0, none⟩), .int .i64 a, .slice (some ⟨bz, 0, none⟩) ln ln] (wr.alloc (.cells vs 3))
      (fun e w' => e = .returned (.tuple #[]) ∧ ∃ g' c', OfJ w w' b4 b5 b8 (S.put E a bl) H ts n g' c' gH cH gT cT bS cs) := by
  subst hln hbz
  have hB : Below wr.heap.size wr (wr.alloc (.cells vs 3)) := (Below.refl _ _).alloc (Nat.le_refl _) _
  have J1 := J.on hB
  obtain ⟨l1, l2, l3, l4, l5, l6⟩ := J.I.lts
  have hvs : vs.size = bl.length * 1 := by rw [← Array.length_toList, hv, ns_length]; omega
  have hr := (Own.new wr 3 1 bl.length vs (by omega) hvs).rd
  rw [hv] at hr
  refine (put_any b4 gE cE a E bl _ _ _ J1.I.e hr ha hL hbl hl (fun ad e => by injection e with e; subst e; exact ⟨Nat.ne_of_gt l4, Nat.ne_of_gt l1⟩)).mono ?_
  rintro e w' ⟨rfl, g', c', hc, hf, hg⟩
  obtain ⟨n1, n2, n3, n4, n5, n6⟩ := J.ne
  have hbs := J1.B.lt
  refine ⟨rfl, g', c', J1.I.putE hc hf hg, J1.B.fr hf (fun h => by rcases h with h | h; exact n1 h; exact n4 h), n1, n2, n3, ?_, n5, n6⟩
  rcases hg with rfl | hg
  · exact n4
  · exact ne_new' hg hbs
theorem OfJ.stepH (J : OfJ w wr b4 b5 b8 E H ts n gE cE gH cH gT cT bS cs) (a : Nat) (bl : List Nat) (vs : Array Value) (hv : vs.toList = ns bl) (ln : Nat) (hln : ln = bl.length) (bz : Nat) (hbz : wr.heap.size = bz) (ha : a < H.length) (hL : H.length ≤ 1000) (hbl : ∀ b ∈ bl, b ≤ 1000) (hl : bl.length ≤ 1000) :
    Calls Try.prog 28 #[.pointer (some ⟨b5, 0, none⟩), .int .i64 a, .slice (some ⟨bz, 0, none⟩) ln ln] (wr.alloc (.cells vs 3))
      (fun e w' => e = .returned (.tuple #[]) ∧ ∃ g' c', OfJ w w' b4 b5 b8 E (S.put H a bl) ts n gE cE g' c' gT cT bS cs) := by
  subst hln hbz
  have hB : Below wr.heap.size wr (wr.alloc (.cells vs 3)) := (Below.refl _ _).alloc (Nat.le_refl _) _
  have J1 := J.on hB
  obtain ⟨l1, l2, l3, l4, l5, l6⟩ := J.I.lts
  have hvs : vs.size = bl.length * 1 := by rw [← Array.length_toList, hv, ns_length]; omega
  have hr := (Own.new wr 3 1 bl.length vs (by omega) hvs).rd
  rw [hv] at hr
  refine (put_any b5 gH cH a H bl _ _ _ J1.I.h hr ha hL hbl hl (fun ad e => by injection e with e; subst e; exact ⟨Nat.ne_of_gt l5, Nat.ne_of_gt l2⟩)).mono ?_
  rintro e w' ⟨rfl, g', c', hc, hf, hg⟩
  obtain ⟨n1, n2, n3, n4, n5, n6⟩ := J.ne
  have hbs := J1.B.lt
  refine ⟨rfl, g', c', J1.I.putH hc hf hg, J1.B.fr hf (fun h => by rcases h with h | h; exact n2 h; exact n5 h), n1, n2, n3, n4, ?_, n6⟩
  rcases hg with rfl | hg
  · exact n5
  · exact ne_new' hg hbs
theorem OfJ.cells {a b c d e : Value} (J : OfJ w wr b4 b5 b8 E H ts n gE cE gH cH gT cT bS #[a, b, c, d, e]) :
    wr.cell? ⟨bS, 0, none⟩ = some a ∧ wr.cell? ⟨bS, 1, none⟩ = some b ∧ wr.cell? ⟨bS, 2, none⟩ = some c ∧ wr.cell? ⟨bS, 3, none⟩ = some d ∧ wr.cell? ⟨bS, 4, none⟩ = some e :=
  ⟨J.B.cell 0, J.B.cell 1, J.B.cell 2, J.B.cell 3, J.B.cell 4⟩
end
theorem turn1z {s : S.State} {m : Nat} (hm : s.ts.length = m + 1) (hj : s.last.2 = 0) : s.turn 1 = ⟨S.put (S.put s.E s.last.1 [s.n, s.n + 1]) (s.n + 1) [s.n + 2], S.put (S.put s.H s.last.1 [s.n + 1, s.n]) s.n [s.n + 2], s.ts.set m (s.n + 1, s.n + 2) ++ [(s.n, 0)], s.n + 3⟩ := by
  unfold S.State.turn; rw [if_pos rfl, if_pos hj, hm]; rfl
theorem turn1s {s : S.State} {m : Nat} (hm : s.ts.length = m + 1) (hj : ¬ s.last.2 = 0) : s.turn 1 = ⟨S.put s.E s.last.1 [s.n, s.n + 1], S.put s.H s.last.1 [s.n + 1, s.n], s.ts.set m (s.n + 1, s.last.2) ++ [(s.n, 0)], s.n + 2⟩ := by
  unfold S.State.turn; rw [if_pos rfl, if_neg hj, hm]; rfl
theorem may1 {s : S.State} {f1 f2 f3 f4 : Int} (h : S.may s.ts s.n 1 = ((1, f1, f2, f3, f4), true)) : f1 = (s.last.1 : Int) ∧ f2 = (s.n : Int) ∧ f3 = ((s.n + 1 : Nat) : Int) ∧ (s.last.2 = 0 → f4 = ((s.n + 2 : Nat) : Int)) ∧ (s.last.2 ≠ 0 → f4 = (s.last.2 : Int)) := by
  have em : S.may s.ts s.n 1 = ((1, (s.last.1 : Int), (s.n : Int), (s.n : Int) + 1, if s.last.2 = 0 then (s.n : Int) + 2 else (s.last.2 : Int)), true) := by
    unfold S.may
    rw [if_pos rfl]
    rfl
  rw [em] at h
  injection h with h _
  injection h with _ h
  injection h with e1 h
  injection h with e2 h
  injection h with e3 e4
  refine ⟨e1.symm, e2.symm, by rw [← e3]; simp, fun hj => ?_, fun hj => ?_⟩
  · rw [if_pos hj] at e4; rw [← e4]; simp
  · rw [if_neg hj] at e4; rw [← e4]
theorem may2 {s : S.State} {f1 f2 f3 f4 : Int} (h : S.may s.ts s.n 2 = ((2, f1, f2, f3, f4), true)) : ∃ a d : Nat, f1 = (a : Int) ∧ f2 = 0 ∧ f3 = 0 ∧ f4 = (d : Int) := by
  unfold S.may at h
  rw [if_neg (by decide), if_pos rfl] at h
  split at h
  · cases h
  · injection h with h _
    injection h with _ h
    injection h with e1 h
    injection h with e2 h
    injection h with e3 e4
    exact ⟨_, _, e1.symm, e2.symm, e3.symm, e4.symm⟩
theorem may3 {s : S.State} {f1 f2 f3 f4 : Int} {b : Bool} (h : S.may s.ts s.n 3 = ((3, f1, f2, f3, f4), b)) : f1 = (s.last.1 : Int) ∧ f2 = 0 ∧ f3 = 0 ∧ f4 = (s.last.2 : Int) := by
  unfold S.may at h
  rw [if_neg (by decide), if_neg (by decide), if_pos rfl] at h
  injection h with h _
  injection h with _ h
  injection h with e1 h
  injection h with e2 h
  injection h with e3 e4
  exact ⟨e1.symm, e2.symm, e3.symm, e4.symm⟩
theorem turn2 {s : S.State} {m : Nat} (hm : s.ts.length = m + 1) : s.turn 2 = { s with ts := s.ts.take m } := by unfold S.State.turn; rw [if_neg (by decide), if_pos rfl, hm]; rfl
theorem turn3 {s : S.State} {m : Nat} (hm : s.ts.length = m + 1) : s.turn 3 = { s with ts := s.ts.set m (s.last.2, 0) } := by unfold S.State.turn; rw [if_neg (by decide), if_neg (by decide), hm]; rfl

set_option maxHeartbeats 4000000 in
theorem of_any (l : List S.Five) (A : Option Addr) (c : Nat) (w : World) (hr : Rd w w.heap.size A (fcs l)) (hl : l.length ≤ 60) :
    Calls Try.prog 20 #[.slice A l.length c] w (Ofed w l) := by
  go_enter Try.func20, Try.ntmps20
  go_wp2
  obtain ⟨i2, hi, hz0, hz1, hz2⟩ := info_parts info_two
  have I0 := start_of w
  unfold start at I0
  have hB0 := I0.new
  generalize (((((w.alloc (.cells #[.int .i64 0] 3)).alloc (.cells #[.int .i64 0] 3)).alloc (.cells #[.slice (some ⟨w.heap.size, 0, none⟩) 1 1] 71)).alloc
    (.cells #[.slice (some ⟨w.heap.size + 1, 0, none⟩) 1 1] 71)).alloc (.cells #[.int .i64 0, .int .i64 0] 74)).alloc
    (.cells #[.slice (some ⟨w.heap.size + 1 + 1 + 1 + 1, 0, none⟩) 1 1, .int .i64 1] 77) = w0 at I0 ⊢
  generalize w.heap.size + 1 + 1 + 1 + 1 + 1 = b8 at I0 hB0 ⊢
  generalize w.heap.size + 1 + 1 + 1 + 1 = gT0 at I0 hB0 ⊢
  generalize w.heap.size + 1 + 1 + 1 = b5 at I0 hB0 ⊢
  generalize w.heap.size + 1 + 1 = b4 at I0 hB0 ⊢
  generalize w.heap.size + 1 = gH0 at I0 hB0 ⊢
  clear hB0
  go_loopg [29] l.length (fun gk ii wr => ∃ (k : Nat) (s : S.State) (gE cE gH cH gT cT : Nat), k + gk = l.length ∧ ii = .int .i64 k ∧ OfI w wr b4 b5 b8 s.E s.H s.ts s.n gE cE gH cH gT cT ∧ s.Good ∧ Hid (S.run S.init l = S.run s (l.drop k)) ∧ s.n ≤ 1 + 3 * k ∧ s.ts.length ≤ 1 + k)
  case atStart => exact ⟨0, S.init, _, _, _, _, _, _, by omega, rfl, I0, S.init_good, rfl, by simp [S.init], by simp [S.init]⟩
  case round =>
    obtain ⟨k, s, gE, cE, gH, cH, gT, cT, hk, rfl, I, hg, HR, hn, ht⟩ := hrel
    clear I0
    have HK := Lib.hid hk
    by_cases hlt : k < l.length
    · have hR := hr.on I.below
      obtain ⟨q0, q1, q2, q3, q4⟩ := fcs_at l k hlt
      obtain ⟨b1, o1, rfl, hb1, hc0⟩ := hR.at_ q0
      obtain ⟨_, _, eA, _, hc1⟩ := hR.at_ q1
      injection eA with eA; injection eA with e1 e2; subst e1 e2
      obtain ⟨_, _, eA, _, hc2⟩ := hR.at_ q2
      injection eA with eA; injection eA with e1 e2; subst e1 e2
      obtain ⟨_, _, eA, _, hc3⟩ := hR.at_ q3
      injection eA with eA; injection eA with e1 e2; subst e1 e2
      obtain ⟨_, _, eA, _, hc4⟩ := hR.at_ q4
      injection eA with eA; injection eA with e1 e2; subst e1 e2
      rw [← Nat.add_assoc] at hc1 hc2 hc3 hc4
      have hR1 : Hid (S.run S.init l = if s.ok l[k] then S.run (s.turn l[k].1) (l.drop (k + 1)) else none) := by
        rw [HR.out, List.drop_eq_getElem_cons hlt]; exact rfl
      clear HR q0 q1 q2 q3 q4 hk hR
      generalize l[k] = f at hc0 hc1 hc2 hc3 hc4 hR1
      obtain ⟨f0, f1, f2, f3, f4⟩ := f
      simp only at hc0 hc1 hc2 hc3 hc4 hR1
      have hI : (k : Int) < (l.length : Int) := by omega
      have I1 := I.on (wr' := wr.alloc (.cells #[.int .i64 f0, .int .i64 f1, .int .i64 f2, .int .i64 f3, .int .i64 f4] 59)) ((Below.refl _ _).alloc (Nat.le_refl _) _)
      have B1 := Blk.new wr 59 #[.int .i64 f0, .int .i64 f1, .int .i64 f2, .int .i64 f3, .int .i64 f4]
      have hpos := hg.pos
      have hbS := I.lts
      clear I
      go_wp2_with (go_at_call 29; refine (may_any b8 gT cT s.n s.ts f0 _ I1.t hpos (by omega) (by omega)).mono ?_)
      rintro e w1 ⟨rfl, hbe⟩
      have I2 := I1.on hbe
      have B2 := B1.below hbe B1.lt
      have hbs := B2.lt
      clear I1 B1 hbe hc0 hc1 hc2 hc3 hc4 hr hb1
      generalize wr.heap.size = bS at B2 hbs hbS ⊢
      generalize hm : S.may s.ts s.n f0 = mr
      obtain ⟨⟨m0, m1, m2, m3, m4⟩, ok⟩ := mr
      have HM := Lib.hid hm
      clear hm
      simp only
      have x0 := B2.at_ (i := 0) rfl
      have x1 := B2.at_ (i := 1) rfl
      have x2 := B2.at_ (i := 2) rfl
      have x3 := B2.at_ (i := 3) rfl
      have x4 := B2.at_ (i := 4) rfl
      cases ok
      · go_wp2_with fail
        refine bodyPost_ret (v := .tuple #[.slice none 0 0, .int .i64 1]) (by simp [results, Try.results20, go_sem]) rfl ?_
        refine ⟨I2.below.alloc (Nat.le_trans I2.below.size (Nat.le_refl _)) _, .inl ⟨?_, rfl⟩⟩
        rw [hR1.out, if_neg]
        intro h
        have := h.1
        rw [HM.out] at this
        cases this
      · by_cases hf : (f0, f1, f2, f3, f4) = (m0, m1, m2, m3, m4)
        · have hok : s.ok (f0, f1, f2, f3, f4) := ⟨by rw [HM.out], by rw [HM.out]; exact hf⟩
          have hR2 : Hid (S.run S.init l = S.run (s.turn f0) (l.drop (k + 1))) := by rw [hR1.out, if_pos hok]; exact rfl
          injection hf with e0 hf
          injection hf with e1 hf
          injection hf with e2 hf
          injection hf with e3 e4
          subst e0 e1 e2 e3 e4
          clear hR1
          have I3 := I2.on (wr' := w1.alloc (.cells #[.int .i64 f0, .int .i64 f1, .int .i64 f2, .int .i64 f3, .int .i64 f4] 59)) ((Below.refl _ _).alloc (Nat.le_refl _) _)
          have hG2 := hg.turn hok
          have hn2 := S.turn_n s f0
          have ht2 := S.turn_ts s f0
          simp only at hG2
          obtain ⟨t1, t2⟩ := hg.last
          have HK2 := HK.out
          -- the end of a round
          have fin : ∀ (wz : World) (gE cE gH cH gT cT : Nat), OfI w wz b4 b5 b8 (s.turn f0).E (s.turn f0).H (s.turn f0).ts (s.turn f0).n gE cE gH cH gT cT →
              ∃ (k' : Nat) (s : S.State) (gE cE gH cH gT cT : Nat), k' + (gk - 1) = l.length ∧ Value.int .i64 ((k : Int) + 1) = .int .i64 k' ∧ OfI w wz b4 b5 b8 s.E s.H s.ts s.n gE cE gH cH gT cT ∧ s.Good ∧ Hid (S.run S.init l = S.run s (l.drop k')) ∧ s.n ≤ 1 + 3 * k' ∧ s.ts.length ≤ 1 + k' :=
            fun wz gE cE gH cH gT cT h => ⟨k + 1, s.turn f0, gE, cE, gH, cH, gT, cT, by omega, by go_num, h, hG2, hR2, by omega, by omega⟩
          have hgk : 0 < gk := by omega
          clear HK2 hR2 hG2 I2 hn2 ht2
          obtain ⟨m, hm⟩ : ∃ m, s.ts.length = m + 1 := ⟨s.ts.length - 1, by omega⟩
          have hlast : s.ts.getD m (0, 0) = s.last := by unfold S.State.last; rw [hm]; rfl
          by_cases k1 : f0 = 1
          · subst k1
            have J3 : OfJ w (w1.alloc (.cells #[.int .i64 1, .int .i64 f1, .int .i64 f2, .int .i64 f3, .int .i64 f4] 59)) b4 b5 b8 s.E s.H s.ts s.n gE cE gH cH gT cT bS #[.int .i64 1, .int .i64 f1, .int .i64 f2, .int .i64 f3, .int .i64 f4] :=
              ⟨I3, B2.alloc _, by omega, by omega, by omega, by omega, by omega, by omega⟩
            obtain ⟨e1, e2, e3, e4, e5⟩ := may1 HM.out
            have HML := Lib.hid hm
            have hml : m ≤ 1000 := by omega
            have hel := hg.e
            have hhl := hg.h
            have hn3 : s.n ≤ 190 := by omega
            by_cases hj : s.last.2 = 0
            · have e4 := e4 hj
              rw [turn1z hm hj] at fin
              simp only at fin
              clear e5 I3 B2 HM hlast hm hj t2
              generalize s.last.1 = a at *
              obtain ⟨C, hC⟩ : ∃ C, C = s.n + 1 := ⟨_, rfl⟩
              obtain ⟨D, hD⟩ : ∃ D, D = s.n + 2 := ⟨_, rfl⟩
              have HC := Lib.hid hC
              have HD := Lib.hid hD
              rw [← hC] at e3 fin
              rw [← hD] at e4 fin
              have hcb : C ≤ 200 := by omega
              have hdb : D ≤ 200 := by omega
              have hcd : C < D := by omega
              clear hC hD
              subst e1 e2 e3 e4
              go_wp2_with (go_at_call 28; refine (J3.stepE a [s.n, C] #[.int .i64 (s.n : Int), .int .i64 (C : Int)] rfl 2 rfl (w1.heap.size + 1) (by simp) (by omega) (by omega) (by simp; omega) (by simp)).mono ?_)
              rintro e w4 ⟨rfl, g4, c4, J4⟩
              obtain ⟨y0, y1, y2, y3, y4⟩ := J4.cells
              have hbs4 := J4.B.lt
              clear x0 x1 x2 x3 x4 J3
              go_wp2_with (go_at_call 28; refine (J4.stepH a [C, s.n] #[.int .i64 (C : Int), .int .i64 (s.n : Int)] rfl 2 rfl w4.heap.size rfl (by omega) (by omega) (by simp; omega) (by simp)).mono ?_)
              rintro e w5 ⟨rfl, g5, c5, J5⟩
              obtain ⟨x0, x1, x2, x3, x4⟩ := J5.cells
              have hbs5 := J5.B.lt
              have hl5 : (S.put s.E a [s.n, C]).length = s.n + 2 := by simp only [S.put, S.put1_length, hel]; have := HC.out; omega
              have hl6 : (S.put s.H a [C, s.n]).length = s.n + 2 := by simp only [S.put, S.put1_length, hhl]; have := HC.out; omega
              clear y0 y1 y2 y3 y4 J4
              go_wp2_with (go_at_call 28; refine (J5.stepE C [D] #[.int .i64 (D : Int)] rfl 1 rfl w5.heap.size rfl (by have := HC.out; omega) (by omega) (by simp; omega) (by simp)).mono ?_)
              rintro e w6 ⟨rfl, g6, c6, J6⟩
              obtain ⟨y0, y1, y2, y3, y4⟩ := J6.cells
              have hbs6 := J6.B.lt
              clear x0 x1 x2 x3 x4 J5
              go_wp2_with (go_at_call 28; refine (J6.stepH s.n [D] #[.int .i64 (D : Int)] rfl 1 rfl w6.heap.size rfl (by omega) (by omega) (by simp; omega) (by simp)).mono ?_)
              rintro e w7 ⟨rfl, g7, c7, J7⟩
              obtain ⟨x0, x1, x2, x3, x4⟩ := J7.cells
              clear y0 y1 y2 y3 y4 J6
              go_wp2_with (go_at_call 30; refine (turn_fork b8 gT cT s.n m a s.n C D s.ts _ J7.I.t HML.out hml (by omega) (by omega)).mono ?_)
              rintro e w8 ⟨rfl, g8, c8, h8, hf8, hg8⟩
              have I8 := J7.I.turned h8 hf8 hg8
              have em : max C D + 1 = s.n + 3 := by have := HC.out; have := HD.out; omega
              rw [em] at I8
              clear x0 x1 x2 x3 x4 J7
              go_wp2_with fail
              go_roundg (gk - 1)
              case measure => omega
              case rel => exact fin _ _ _ _ _ _ _ I8
            · have e5 := e5 hj
              rw [turn1s hm hj] at fin
              simp only at fin
              clear e4 I3 B2 HM hlast hm hj
              generalize s.last.1 = a at *
              generalize s.last.2 = D at *
              obtain ⟨C, hC⟩ : ∃ C, C = s.n + 1 := ⟨_, rfl⟩
              have HC := Lib.hid hC
              rw [← hC] at e3 fin
              have hcb : C ≤ 200 := by omega
              have hcd : ¬ C < D := by omega
              clear hC
              subst e1 e2 e3 e5
              go_wp2_with (go_at_call 28; refine (J3.stepE a [s.n, C] #[.int .i64 (s.n : Int), .int .i64 (C : Int)] rfl 2 rfl (w1.heap.size + 1) (by simp) (by omega) (by omega) (by simp; omega) (by simp)).mono ?_)
              rintro e w4 rfl g4 c4 J4
              obtain ⟨y0, y1, y2, y3, y4⟩ := J4.cells
              have hbs4 := J4.B.lt
              clear x0 x1 x2 x3 x4 J3
              go_wp2_with (go_at_call 28; refine (J4.stepH a [C, s.n] #[.int .i64 (C : Int), .int .i64 (s.n : Int)] rfl 2 rfl w4.heap.size rfl (by omega) (by omega) (by simp; omega) (by simp)).mono ?_)
              rintro e w5 ⟨rfl, g5, c5, J5⟩
              obtain ⟨x0, x1, x2, x3, x4⟩ := J5.cells
              have hbs5 := J5.B.lt
              clear y0 y1 y2 y3 y4 J4
              go_wp2_with (go_at_call 30; refine (turn_fork b8 gT cT s.n m a s.n C D s.ts _ J5.I.t HML.out hml (by omega) (by omega)).mono ?_)
              rintro e w8 ⟨rfl, g8, c8, h8, hf8, hg8⟩
              have I8 := J5.I.turned h8 hf8 hg8
              have em : max C D + 1 = s.n + 2 := by have := HC.out; omega
              rw [em] at I8
              clear x0 x1 x2 x3 x4 J5
              go_wp2_with fail
              go_roundg (gk - 1)
              case measure => omega
              case rel => exact fin _ _ _ _ _ _ _ I8
          · by_cases k2 : f0 = 2
            · subst k2
              obtain ⟨a, d, rfl, rfl, rfl, rfl⟩ := may2 HM.out
              rw [turn2 hm] at fin
              simp only at fin
              have HML := Lib.hid hm
              have hml : m ≤ 1000 := by omega
              clear k1 hm HM hlast
              go_wp2_with (go_at_call 30; refine (turn_end b8 gT cT s.n m a d s.ts _ I3.t HML.out hml).mono ?_)
              rintro e w4 ⟨rfl, g4, c4, h4, hf4, hg4⟩
              have I4 := I3.turned h4 hf4 hg4
              go_wp2_with fail
              go_roundg (gk - 1)
              case measure => omega
              case rel => exact fin _ _ _ _ _ _ _ I4
            · by_cases k3 : f0 = 3
              · subst k3
                obtain ⟨rfl, rfl, rfl, rfl⟩ := may3 HM.out
                rw [turn3 hm] at fin
                simp only at fin
                have HML := Lib.hid hm
                have hml : m ≤ 1000 := by omega
                clear k1 k2 hm HM hlast
                generalize s.last.1 = a at *
                generalize s.last.2 = d at *
                go_wp2_with (go_at_call 30; refine (turn_join b8 gT cT s.n m a d s.ts _ I3.t HML.out hml).mono ?_)
                rintro e w4 ⟨rfl, g4, c4, h4, hf4, hg4⟩
                have I4 := I3.turned h4 hf4 hg4
                go_wp2_with fail
                go_roundg (gk - 1)
                case measure => omega
                case rel => exact fin _ _ _ _ _ _ _ I4
              · exfalso
                have := HM.out
                unfold S.may at this
                rw [if_neg k1, if_neg k2, if_neg k3] at this
                cases this
        · have hno : ¬ s.ok (f0, f1, f2, f3, f4) := fun h => hf (by have := h.2; rw [HM.out] at this; exact this)
          have hR2 : Hid (S.run S.init l = none) := by rw [hR1.out, if_neg hno]; exact rfl
          clear hR1 hno
          rcases ne5 hf with h | ⟨rfl, h⟩ | ⟨rfl, rfl, h⟩ | ⟨rfl, rfl, rfl, h⟩ | ⟨rfl, rfl, rfl, rfl, h⟩
          all_goals
            clear hf
            go_wp2_with fail
            refine bodyPost_ret (v := .tuple #[.slice none 0 0, .int .i64 1]) (by simp [results, Try.results20, go_sem]) rfl ?_
            exact ⟨I2.below.alloc (Nat.le_trans I2.below.size (Nat.le_refl _)) _, .inl ⟨hR2.out, rfl⟩⟩
    · obtain rfl : gk = 0 := by omega
      have t1 := I.t.box.at_ (i := 1) rfl
      clear hk
      have hnn := hg.last
      have hn2 : s.n ≤ 1000 := by have := HK.out; omega
      go_wp2_with (at_make; refine wpList_make_full _ rfl (.tmp 90) (.tmp 90) 34 rfl 0 65 i2 _ 2 Try.underlying34 hi hz0 hz1 .i64 .i64 s.n s.n s.n rfl rfl rfl rfl ?d1 ?d2 ?d3 ?_)
      case d1 => rw [hz2]; omega
      case d2 => simp only [maxLen]; omega
      case d3 => simp
      intro w1 ho1 hg1
      rw [made_tcs] at ho1
      have J : OfR w w1 b4 b5 s.E s.H gE cE gH cH wr.heap.size (List.replicate s.n (0, 0)) := OfR.mk' I ho1 hg1 (by simp)
      generalize wr.heap.size = gP at J ⊢
      clear ho1 hg1 t1 I hr
      go_wp2_with (go_at_call 31; refine (places_any b4 gE cE s.E _ J.e (by rw [hg.e]; omega) (fun x hx => by rw [hg.e]; exact hg.elt x hx) (by rw [hg.e]; omega)).mono ?_)
      rintro e w2 ⟨g2, c2, rfl, own2, hb2, hg2⟩
      have J2 := J.on hb2
      have hPE : (S.places s.E).length = s.n := by rw [S.places_length, hg.e]
      rw [hPE] at own2 ⊢
      have hne2 : gP ≠ g2 := by have := J.p.lt; omega
      clear J
      have HPE := Lib.hid hPE
      clear hPE
      go_wp2_with fail
      go_loopg [94] s.n (fun gk ii wi => ∃ (k : Nat) (P : List (Nat × Nat)), k + gk = s.n ∧ ii = .int .i64 k ∧ OfR w wi b4 b5 s.E s.H gE cE gH cH gP P ∧ P.length = s.n ∧ Own wi 3 1 g2 s.n c2 (ns (S.places s.E)) ∧ Hid (∀ i, i < s.n → P.getD i (0, 0) = (if i < k then (S.places s.E).getD i 0 else 0, 0)))
      case atStart => exact ⟨0, _, by omega, rfl, J2, by simp, own2, fun i hi => by simp [List.getD_eq_getElem?_getD, hi]⟩
      case round =>
        obtain ⟨k2, P, hk2, rfl, J, hP, own, HP⟩ := hrel
        have HK2 := Lib.hid hk2
        have HPL := Lib.hid hP
        clear own2 J2
        by_cases hlt2 : k2 < s.n
        · have hPk : k2 < P.length := by omega
          have hEk : k2 < (S.places s.E).length := by rw [HPE.out]; exact hlt2
          obtain ⟨x0, x1⟩ := J.cells k2 hPk
          have f0 := J.p.frozen (k2 * 2)
          have y0 := own.cell k2 (by omega)
          rw [ns_at _ k2 hEk] at y0
          have hI : (k2 : Int) < (s.n : Int) := by omega
          have J3 := J.setCell (tcs_set1 P k2 (S.places s.E)[k2]) (by simp)
          have own3 := own.far (p := ⟨gP, k2 * 2, none⟩) hne2 (.int .i64 (((S.places s.E)[k2] : Nat) : Int))
          clear hk2 hP J own
          go_wp2_with fail
          go_roundg (gk - 1)
          case measure => have := HK2.out; omega
          case rel =>
            have h1 := HK2.out
            have h2 := HPL.out
            refine ⟨k2 + 1, _, by omega, by go_num, J3, by simpa using h2, own3, fun i hi => ?_⟩
            rw [getD_set_pair _ _ _ _ hPk, HP i hi, HP k2 hlt2]
            by_cases e : i = k2
            · subst e
              simp [List.getD_eq_getElem?_getD, hEk]
            · rw [if_neg e]
              by_cases h : i < k2
              · rw [if_pos h, if_pos (by omega)]
              · rw [if_neg h, if_neg (by omega)]
        · obtain rfl : gk = 0 := by omega
          clear hk2 hP own
          go_wp2_with (go_at_call 31; refine (places_any b5 gH cH s.H _ J.h (by rw [hg.h]; omega) (fun x hx => by rw [hg.h]; exact hg.hlt x hx) (by rw [hg.h]; omega)).mono ?_)
          rintro e w3 ⟨g3, c3, rfl, own3, hb3, hg3⟩
          have J2 := J.on hb3
          have hPH : (S.places s.H).length = s.n := by rw [S.places_length, hg.h]
          rw [hPH] at own3 ⊢
          have hne3 : gP ≠ g3 := by have := J.p.lt; omega
          clear J
          have HPH := Lib.hid hPH
          clear hPH
          go_wp2_with fail
          go_loopg [107] s.n (fun gk ii wi => ∃ (k : Nat) (P : List (Nat × Nat)), k + gk = s.n ∧ ii = .int .i64 k ∧ OfR w wi b4 b5 s.E s.H gE cE gH cH gP P ∧ P.length = s.n ∧ Own wi 3 1 g3 s.n c3 (ns (S.places s.H)) ∧ Hid (∀ i, i < s.n → P.getD i (0, 0) = ((S.places s.E).getD i 0, if i < k then (S.places s.H).getD i 0 else 0)))
          case atStart =>
            have h1 := HPL.out
            have h2 := HK2.out
            exact ⟨0, P, by omega, rfl, J2, h1, own3, fun i hi => by rw [HP i hi, if_pos (by omega)]; rfl⟩
          case round =>
            clear HPL HK2 HP
            obtain ⟨k3, P', hk3, rfl, J, hP, own, HP⟩ := hrel
            have HK3 := Lib.hid hk3
            have HPL := Lib.hid hP
            clear own3 J2
            by_cases hlt3 : k3 < s.n
            · have hPk : k3 < P'.length := by omega
              have hEk : k3 < (S.places s.H).length := by rw [HPH.out]; exact hlt3
              obtain ⟨x0, x1⟩ := J.cells k3 hPk
              have f1 := J.p.frozen (k3 * 2 + 1)
              have y0 := own.cell k3 (by omega)
              rw [ns_at _ k3 hEk] at y0
              have hI : (k3 : Int) < (s.n : Int) := by omega
              have J3 := J.setCell (tcs_set2 P' k3 (S.places s.H)[k3]) (by simp)
              have own3 := own.far (p := ⟨gP, k3 * 2 + 1, none⟩) hne3 (.int .i64 (((S.places s.H)[k3] : Nat) : Int))
              clear hk3 hP J own
              go_wp2_with fail
              go_roundg (gk - 1)
              case measure => have := HK3.out; omega
              case rel =>
                have h1 := HK3.out
                have h2 := HPL.out
                refine ⟨k3 + 1, _, by omega, by go_num, J3, by simpa using h2, own3, fun i hi => ?_⟩
                rw [getD_set_pair _ _ _ _ hPk, HP i hi, HP k3 hlt3]
                by_cases e : i = k3
                · subst e
                  simp [List.getD_eq_getElem?_getD, hEk]
                · rw [if_neg e]
                  by_cases h : i < k3
                  · rw [if_pos h, if_pos (by omega)]
                  · rw [if_neg h, if_neg (by omega)]
            · obtain rfl : gk = 0 := by omega
              clear hk3 hP own
              go_wp2_with fail
              refine bodyPost_ret (v := .tuple #[.slice (some ⟨gP, 0, none⟩) s.n s.n, .int .i64 0]) (by simp [results, Try.results20, go_sem]) rfl ?_
              refine ⟨J.below, .inr ⟨s, gP, s.n, ?_, rfl, ?_, J.new⟩⟩
              · have e1 : l.drop k = [] := List.drop_of_length_le (by omega)
                rw [HR.out, e1]; rfl
              · have h1 := HPL.out
                have h2 := HK3.out
                have e2 : P' = s.places := zip_of_getD P' _ _ s.n h1 HPE.out HPH.out (fun i hi => by rw [HP i hi, if_pos (by omega)])
                rw [← e2, ← h1]
                exact J.p
end Go.Proofs.Ytahhihhfjimppaa
/- walks: there, Ahead, Parallel, Same -/
namespace Go.Proofs.Ytahhihhfjimppaa
open Go.RowKit
set_option linter.unusedSimpArgs false
set_option linter.unusedVariables false
set_option maxRecDepth 100000

def S.there (n : Nat) (a : Int) : Bool := decide (0 ≤ a ∧ a < (n : Int))
def S.ahead (P : List (Nat × Nat)) (a b : Int) : Bool :=
  S.there P.length a && S.there P.length b && decide ((P.getD a.toNat (0, 0)).1 < (P.getD b.toNat (0, 0)).1) && decide ((P.getD a.toNat (0, 0)).2 < (P.getD b.toNat (0, 0)).2)
def S.par (P : List (Nat × Nat)) (a b : Int) : Bool := S.there P.length a && S.there P.length b && decide (a ≠ b) && !S.ahead P a b && !S.ahead P b a

theorem eq_bools (w : World) (p q : Bool) : (Op.equalIn 10000 101 (.agg #[.bool p, .bool q]) (.agg #[.bool true, .bool true])).run Try.prog w = .ok (p && q) w := by
  have hu : Try.prog.underlying 101 = some (.array 2 4) := by kernel_rfl
  have hb : Try.prog.underlying 4 = some .bool := by kernel_rfl
  obtain ⟨i, hi⟩ : ∃ i, Try.prog.info? 4 = some i := Option.isSome_iff_exists.1 (by kernel_rfl)
  rw [show (10000 : Nat) = 9999 + 1 from rfl, run_equalIn_array w 9999 _ _ hu hi]
  have hc : Try.prog.cellsOf 4 = 1 := by kernel_rfl
  rw [hc, show List.range 2 = [0, 1] from rfl]
  cases p <;> cases q <;> simp [Op.eqItems, go_sem, hb, hi]
theorem there_any (A : Option Addr) (n c : Nat) (a : Int) (w : World) :
    Calls Try.prog 38 #[.slice A n c, .int .i64 a] w (fun e w' => e = .returned (.bool (S.there n a)) ∧ w' = w) := by
  by_cases h1 : 0 ≤ a
  · by_cases h2 : a < (n : Int)
    · have HR : Hid (S.there n a = true) := Lib.hid (by simp [S.there]; omega)
      go_enter Try.func38, Try.ntmps38
      go_wp2
      go_ret
      exact ⟨by rw [HR.out]; rfl, rfl⟩
    · have HR : Hid (S.there n a = false) := Lib.hid (by simp [S.there]; omega)
      go_enter Try.func38, Try.ntmps38
      go_wp2
      go_ret
      exact ⟨by rw [HR.out]; rfl, rfl⟩
  · have HR : Hid (S.there n a = false) := Lib.hid (by simp [S.there]; omega)
    go_enter Try.func38, Try.ntmps38
    go_wp2
    go_ret
    exact ⟨by rw [HR.out]; rfl, rfl⟩

attribute [local go_sem] eq_bools in
theorem ahead_any (P : List (Nat × Nat)) (A : Option Addr) (c : Nat) (a b : Int) (w : World) (hr : Rd w w.heap.size A (tcs P)) (hP : P.length ≤ 1000) :
    Calls Try.prog 32 #[.slice A P.length c, .int .i64 a, .int .i64 b] w (fun e w' => e = .returned (.bool (S.ahead P a b)) ∧ Below w.heap.size w w') := by
  cases ha : S.there P.length a
  · have HA := Lib.hid ha
    have HR : Hid (S.ahead P a b = false) := Lib.hid (by simp [S.ahead, ha])
    clear ha
    go_enter Try.func32, Try.ntmps32
    go_wp2_with (go_at_call 38; refine (there_any _ _ _ _ _).mono ?_; rintro e w1 ⟨rfl, rfl⟩; rw [HA.out])
    go_ret
    exact ⟨by rw [HR.out]; rfl, Below.refl _ _⟩
  · cases hb : S.there P.length b
    · have HA := Lib.hid ha
      have HB := Lib.hid hb
      have HR : Hid (S.ahead P a b = false) := Lib.hid (by simp [S.ahead, hb])
      clear ha hb
      go_enter Try.func32, Try.ntmps32
      go_wp2_with (go_at_call 38; refine (there_any _ _ _ _ _).mono ?_; rintro e w1 ⟨rfl, rfl⟩; first | rw [HA.out] | rw [HB.out])
      go_ret
      exact ⟨by rw [HR.out]; rfl, Below.refl _ _⟩
    · have ha' := ha
      have hb' := hb
      simp only [S.there, decide_eq_true_eq] at ha' hb'
      obtain ⟨x, rfl⟩ : ∃ x : Nat, a = (x : Int) := ⟨a.toNat, by omega⟩
      obtain ⟨y, rfl⟩ : ∃ y : Nat, b = (y : Int) := ⟨b.toNat, by omega⟩
      have hx : x < P.length := by omega
      have hy : y < P.length := by omega
      have hxI : (x : Int) < (P.length : Int) := by omega
      have hyI : (y : Int) < (P.length : Int) := by omega
      obtain ⟨p0, p1⟩ := tcs_at P x hx
      obtain ⟨q0, q1⟩ := tcs_at P y hy
      obtain ⟨b1, o1, rfl, hb1, c0⟩ := hr.at_ p0
      obtain ⟨_, _, eA, _, c1⟩ := hr.at_ p1
      injection eA with eA; injection eA with e1 e2; subst e1 e2
      obtain ⟨_, _, eA, _, d0⟩ := hr.at_ q0
      injection eA with eA; injection eA with e1 e2; subst e1 e2
      obtain ⟨_, _, eA, _, d1⟩ := hr.at_ q1
      injection eA with eA; injection eA with e1 e2; subst e1 e2
      rw [← Nat.add_assoc] at c1 d1
      have HR : Hid (S.ahead P x y = (decide (P[x].1 < P[y].1) && decide (P[x].2 < P[y].2))) := Lib.hid (by
        simp only [S.ahead, ha, hb, Int.toNat_natCast, List.getD_eq_getElem?_getD, List.getElem?_eq_getElem hx, List.getElem?_eq_getElem hy, Option.getD_some, Bool.true_and])
      have HA := Lib.hid ha
      have HB := Lib.hid hb
      clear ha hb ha' hb' p0 p1 q0 q1
      generalize P[x].1 = x0 at *
      generalize P[x].2 = x1 at *
      generalize P[y].1 = y0 at *
      generalize P[y].2 = y1 at *
      go_enter Try.func32, Try.ntmps32
      go_wp2_with (go_at_call 38; refine (there_any _ _ _ _ _).mono ?_; rintro e w1 ⟨rfl, rfl⟩; first | rw [HA.out] | rw [HB.out])
      go_region
      all_goals
        go_wp2_with fail
        go_ret
        exact ⟨by rw [HR.out]; rfl, ((Below.refl _ _).alloc (Nat.le_refl _) _).drew⟩

end Go.Proofs.Ytahhihhfjimppaa
/- walks: plain, Same, awake -/
namespace Go.Proofs.Ytahhihhfjimppaa
open Go.RowKit
set_option linter.unusedSimpArgs false
set_option linter.unusedVariables false
set_option maxRecDepth 100000

theorem Own.rdk {w : World} {e : TypeId} {size g n cap : Nat} {xs : List Value} (h : Own w e size g n cap xs) : Rd w w.heap.size (some ⟨g, 0, none⟩) xs := by
  refine .inr ⟨g, 0, rfl, h.lt, fun j u hu => ?_⟩
  have hj : j < xs.length := (List.getElem?_eq_some_iff.1 hu).1
  rw [Nat.zero_add, h.cell j (by rw [← h.len]; exact hj), hu]

def S.plain : List S.Five := [(1, 0, 1, 2, 3), (2, 1, 0, 0, 3), (3, 2, 0, 0, 3)]
theorem neq_pairs (w : World) (a b c d : Int) : (Op.equalIn 10000 65 (.agg #[.int .i64 a, .int .i64 b]) (.agg #[.int .i64 c, .int .i64 d])).run Try.prog w = .ok (decide (a = c) && decide (b = d)) w := by
  have hu : Try.prog.underlying 65 = some (.array 2 3) := by kernel_rfl
  have hb : Try.prog.underlying 3 = some (.int .i64) := by kernel_rfl
  obtain ⟨i, hi⟩ : ∃ i, Try.prog.info? 3 = some i := Option.isSome_iff_exists.1 (by kernel_rfl)
  rw [show (10000 : Nat) = 9999 + 1 from rfl, run_equalIn_array w 9999 _ _ hu hi]
  have hc : Try.prog.cellsOf 3 = 1 := by kernel_rfl
  rw [hc, show List.range 2 = [0, 1] from rfl]
  by_cases h1 : a = c <;> by_cases h2 : b = d <;> simp [Op.eqItems, go_sem, hb, hi, h1, h2]

def S.plainP : List (Nat × Nat) := [(0, 0), (1, 2), (2, 1), (3, 3)]
def OfGood (w : World) (e : Ending) (w' : World) : Prop :=
  Below w.heap.size w w' ∧ ∃ g cap, e = .returned (.tuple #[.slice (some ⟨g, 0, none⟩) 4 cap, .int .i64 0]) ∧ Rd w' w'.heap.size (some ⟨g, 0, none⟩) (tcs S.plainP)
def OfBad (w : World) (e : Ending) (w' : World) : Prop :=
  Below w.heap.size w w' ∧ e = .returned (.tuple #[.slice none 0 0, .int .i64 1])
theorem of_plain (A : Option Addr) (c : Nat) (w : World) (hr : Rd w w.heap.size A (fcs S.plain)) : Calls Try.prog 20 #[.slice A 3 c] w (OfGood w) := by
  refine (of_any S.plain A c w hr (by decide)).mono ?_
  rintro e w' ⟨hb, ⟨h, _⟩ | ⟨s, g, cap, h, rfl, ho, _⟩⟩
  · exact absurd h (by decide)
  · have hs : S.run S.init S.plain = some ⟨[1, 2, 3, 0], [2, 3, 1, 0], [(3, 0)], 4⟩ := by rfl
    rw [hs] at h
    injection h with h
    subst h
    exact ⟨hb, g, cap, rfl, ho.rdk⟩
theorem of_unplain (A : Option Addr) (c : Nat) (w : World) (hr : Rd w w.heap.size A (fcs (S.plain.drop 1))) : Calls Try.prog 20 #[.slice A 2 c] w (OfBad w) := by
  refine (of_any (S.plain.drop 1) A c w hr (by decide)).mono ?_
  rintro e w' ⟨hb, ⟨_, rfl⟩ | ⟨s, g, cap, h, _⟩⟩
  · exact ⟨hb, rfl⟩
  · have hs : S.run S.init (S.plain.drop 1) = none := by decide
    rw [hs] at h
    cases h

end Go.Proofs.Ytahhihhfjimppaa
/- The plain side of layer 12: the chains as lists; places as places in them -/
namespace Go.Proofs.Ytahhihhfjimppaa.S
set_option linter.unusedSimpArgs false
set_option linter.unusedVariables false

/-- b behind a, in a list -/
def ins : List Nat → Nat → Nat → List Nat
  | [], _, _ => []
  | x :: r, a, b => if x = a then x :: b :: r else x :: ins r a b
theorem mem_ins {e : List Nat} {a b x : Nat} (ha : a ∈ e) : x ∈ ins e a b ↔ x ∈ e ∨ x = b := by
  induction e with
  | nil => simp at ha
  | cons y r ih =>
    unfold ins
    by_cases h : y = a
    · rw [if_pos h]; simp only [List.mem_cons]; constructor
      · rintro (h1 | h1 | h1); exact .inl (.inl h1); exact .inr h1; exact .inl (.inr h1)
      · rintro ((h1 | h1) | h1); exact .inl h1; exact .inr (.inr h1); exact .inr (.inl h1)
    · rw [if_neg h]
      have : a ∈ r := by rcases List.mem_cons.1 ha with h1 | h1; exact absurd h1.symm h; exact h1
      simp only [List.mem_cons, ih this, or_assoc]
theorem ins_head {e : List Nat} {a b : Nat} : (ins e a b).head? = e.head? := by
  cases e with
  | nil => rfl
  | cons y r => unfold ins; split <;> rfl
theorem ins_length {e : List Nat} {a b : Nat} (ha : a ∈ e) : (ins e a b).length = e.length + 1 := by
  induction e with
  | nil => simp at ha
  | cons y r ih =>
    unfold ins
    by_cases h : y = a
    · rw [if_pos h]; simp
    · rw [if_neg h]
      have : a ∈ r := by rcases List.mem_cons.1 ha with h1 | h1; exact absurd h1.symm h; exact h1
      simp [ih this]
theorem ins_nodup {e : List Nat} {a b : Nat} (ha : a ∈ e) (hb : b ∉ e) (hn : e.Nodup) : (ins e a b).Nodup := by
  induction e with
  | nil => simp at ha
  | cons y r ih =>
    unfold ins
    have hn' := List.nodup_cons.1 hn
    simp only [List.mem_cons, not_or] at hb
    by_cases h : y = a
    · rw [if_pos h]
      refine List.nodup_cons.2 ⟨?_, List.nodup_cons.2 ⟨hb.2, hn'.2⟩⟩
      simp only [List.mem_cons, not_or]
      exact ⟨fun h => hb.1 h.symm, hn'.1⟩
    · rw [if_neg h]
      have har : a ∈ r := by rcases List.mem_cons.1 ha with h1 | h1; exact absurd h1.symm h; exact h1
      refine List.nodup_cons.2 ⟨?_, ih har hb.2 hn'.2⟩
      rw [mem_ins har]
      rintro (h1 | h1)
      · exact hn'.1 h1
      · exact hb.1 h1.symm
theorem idx_lt {e : List Nat} {x : Nat} (h : x ∈ e) : e.idxOf x < e.length := List.idxOf_lt_length_iff.2 h
theorem idx_ins_old {e : List Nat} {a b x : Nat} (ha : a ∈ e) (hb : b ∉ e) (hx : x ∈ e) : (ins e a b).idxOf x = if e.idxOf x ≤ e.idxOf a then e.idxOf x else e.idxOf x + 1 := by
  induction e with
  | nil => simp at ha
  | cons y r ih =>
    simp only [List.mem_cons, not_or] at hb
    unfold ins
    by_cases h : y = a
    · subst h
      rw [if_pos rfl]
      by_cases hxy : x = y
      · subst hxy; simp [List.idxOf_cons]
      · have e1 : (y == x) = false := by simp; exact fun h => hxy h.symm
        have e2 : (b == x) = false := by simp; rintro rfl; rcases List.mem_cons.1 hx with h | h; exact hxy h; exact hb.2 h
        simp [List.idxOf_cons, e1, e2]
    · rw [if_neg h]
      have har : a ∈ r := by rcases List.mem_cons.1 ha with h1 | h1; exact absurd h1.symm h; exact h1
      have e1 : (y == a) = false := by simpa using h
      by_cases hxy : x = y
      · subst hxy; simp [List.idxOf_cons]
      · have hxr : x ∈ r := by rcases List.mem_cons.1 hx with h1 | h1; exact absurd h1 hxy; exact h1
        have e2 : (y == x) = false := by simp; exact fun h => hxy h.symm
        simp only [List.idxOf_cons, e1, e2, ih har hb.2 hxr, cond_false]
        split <;> split <;> omega
theorem idx_ins_new {e : List Nat} {a b : Nat} (ha : a ∈ e) (hb : b ∉ e) : (ins e a b).idxOf b = e.idxOf a + 1 := by
  induction e with
  | nil => simp at ha
  | cons y r ih =>
    simp only [List.mem_cons, not_or] at hb
    unfold ins
    have e3 : (y == b) = false := by simp; exact fun h => hb.1 h.symm
    by_cases h : y = a
    · subst h
      rw [if_pos rfl]
      simp [List.idxOf_cons, e3]
    · rw [if_neg h]
      have har : a ∈ r := by rcases List.mem_cons.1 ha with h1 | h1; exact absurd h1.symm h; exact h1
      have e1 : (y == a) = false := by simpa using h
      simp only [List.idxOf_cons, e1, e3, ih har hb.2, cond_false]
theorem idx_inj {e : List Nat} {x y : Nat} (hx : x ∈ e) (h : e.idxOf x = e.idxOf y) : x = y := by
  have h1 := idx_lt hx
  have a1 : e[e.idxOf x]? = some x := by rw [List.getElem?_eq_getElem h1, List.getElem_idxOf]
  have a2 : e[e.idxOf y]? = some y := by rw [List.getElem?_eq_getElem (h ▸ h1), List.getElem_idxOf]
  rw [h, a2] at a1
  injection a1 with a1
  exact a1.symm

/-- the chain runs through the list -/
def Links (L : List Nat) : List Nat → Prop
  | [] => True
  | x :: r => x < L.length ∧ (∀ y, r.head? = some y → L.getD x 0 = y) ∧ (r = [] → L.getD x 0 = 0) ∧ Links L r
theorem ext_getD {L : List Nat} {b x : Nat} (hx : x < L.length) : (ext L b).getD x 0 = L.getD x 0 := by
  simp [ext, List.getD_eq_getElem?_getD, List.getElem?_append_left hx]
theorem put1_getD {L : List Nat} {a b x : Nat} (ha : a < L.length) (hx : x < L.length ∨ x = b) (hab : a ≠ b) : (put1 L a b).getD x 0 = if x = a then b else if x = b then L.getD a 0 else L.getD x 0 := by
  unfold put1
  have hl := ext_length L b
  rw [List.getD_eq_getElem?_getD, List.getElem?_set]
  by_cases h1 : a = x
  · rw [if_pos h1, if_pos (by rw [List.length_set]; omega), if_pos h1.symm]; rfl
  · rw [if_neg h1, if_neg (Ne.symm h1), List.getElem?_set]
    by_cases h2 : b = x
    · rw [if_pos h2, if_pos (by omega), if_pos h2.symm, ext_getD ha]; rfl
    · rw [if_neg h2, if_neg (Ne.symm h2), ← List.getD_eq_getElem?_getD, ext_getD (by omega)]
theorem links_lt {L e : List Nat} (h : Links L e) : ∀ x ∈ e, x < L.length := by
  induction e with
  | nil => simp
  | cons y r ih =>
    intro x hx
    rcases List.mem_cons.1 hx with rfl | hx
    · exact h.1
    · exact ih h.2.2.2 x hx
theorem links_keep {L e : List Nat} {a b : Nat} (h : Links L e) (ha : a < L.length) (hae : a ∉ e) (hbe : b ∉ e) (hab : a ≠ b) : Links (put1 L a b) e := by
  induction e with
  | nil => trivial
  | cons y r ih =>
    simp only [List.mem_cons, not_or] at hae hbe
    have hg : (put1 L a b).getD y 0 = L.getD y 0 := by rw [put1_getD ha (.inl h.1) hab, if_neg (fun h => hae.1 h.symm), if_neg (fun h => hbe.1 h.symm)]
    have h1 := h.1
    refine ⟨by rw [put1_length]; omega, fun z hz => by rw [hg]; exact h.2.1 z hz, fun hr => by rw [hg]; exact h.2.2.1 hr, ih h.2.2.2 hae.2 hbe.2⟩
theorem links_ins {L e : List Nat} {a b : Nat} (h : Links L e) (ha : a ∈ e) (hb : b ∉ e) (hn : e.Nodup) : Links (put1 L a b) (ins e a b) := by
  have hal := links_lt h a ha
  have hab : a ≠ b := fun h => hb (h ▸ ha)
  induction e with
  | nil => trivial
  | cons y r ih =>
    have hn' := List.nodup_cons.1 hn
    simp only [List.mem_cons, not_or] at hb
    unfold ins
    by_cases hy : y = a
    · subst hy
      rw [if_pos rfl]
      have g1 : (put1 L y b).getD y 0 = b := by rw [put1_getD hal (.inl hal) hab, if_pos rfl]
      have g2 : (put1 L y b).getD b 0 = L.getD y 0 := by rw [put1_getD hal (.inr rfl) hab, if_neg (Ne.symm hab), if_pos rfl]
      refine ⟨by rw [put1_length]; omega, fun z hz => ?_, (fun hr => by cases hr), by rw [put1_length]; omega, fun z hz => ?_, fun hr => ?_, links_keep h.2.2.2 hal hn'.1 hb.2 hab⟩
      · simp only [List.head?_cons, Option.some.injEq] at hz; rw [g1, hz]
      · rw [g2]; exact h.2.1 z hz
      · rw [g2]; exact h.2.2.1 hr
    · rw [if_neg hy]
      have har : a ∈ r := by rcases List.mem_cons.1 ha with h1 | h1; exact absurd h1.symm hy; exact h1
      have hg : (put1 L a b).getD y 0 = L.getD y 0 := by rw [put1_getD hal (.inl h.1) hab, if_neg hy, if_neg (fun h => hb.1 h.symm)]
      have h1 := h.1
      refine ⟨by rw [put1_length]; omega, fun z hz => ?_, fun hr => ?_, ih h.2.2.2 har hb.2 hn'.2⟩
      · rw [ins_head] at hz; rw [hg]; exact h.2.1 z hz
      · have := ins_length (b := b) har; rw [hr] at this; simp at this

theorem placesFrom_at {L : List Nat} : ∀ (e : List Nat) (k : Nat) (at_ : Nat) (P : List Nat), Links L e → e.Nodup → e.head? = some at_ → (∀ x ∈ e, x < P.length) → ∀ x, (placesFrom L e.length k at_ P).getD x 0 = if x ∈ e then k + e.idxOf x else P.getD x 0 := by
  intro e
  induction e with
  | nil => intro k at_ P _ _ h; simp at h
  | cons y r ih =>
    intro k at_ P hl hn hh hP x
    simp only [List.head?_cons, Option.some.injEq] at hh
    subst hh
    have hn' := List.nodup_cons.1 hn
    have hyP := hP y (by simp)
    rw [List.length_cons, placesFrom]
    have hset : ∀ x, (P.set y k).getD x 0 = if x = y then k else P.getD x 0 := by
      intro x
      rw [List.getD_eq_getElem?_getD, List.getElem?_set]
      by_cases h : y = x
      · rw [if_pos h, if_pos hyP, if_pos h.symm]; rfl
      · rw [if_neg h, if_neg (Ne.symm h), List.getD_eq_getElem?_getD]
    cases r with
    | nil =>
      simp only [List.length_nil, placesFrom, hset, List.mem_singleton]
      by_cases h : x = y
      · rw [if_pos h, if_pos h]; subst h; simp
      · rw [if_neg h, if_neg h]
    | cons z r =>
      have hz := hl.2.1 z rfl
      rw [hz, ih (k + 1) z (P.set y k) hl.2.2.2 hn'.2 rfl (fun x hx => by rw [List.length_set]; exact hP x (by simp [hx])) x, hset]
      by_cases h : x = y
      · subst h
        rw [if_neg hn'.1, if_pos rfl, if_pos (by simp)]
        simp
      · have e1 : (y == x) = false := by simp; exact fun h' => h h'.symm
        by_cases hx : x ∈ z :: r
        · rw [if_pos hx, if_pos (List.mem_cons_of_mem _ hx), show List.idxOf x (y :: z :: r) = List.idxOf x (z :: r) + 1 by rw [List.idxOf_cons, e1, cond_false]]; omega
        · rw [if_neg hx, if_neg h, if_neg (by rw [List.mem_cons, not_or]; exact ⟨h, hx⟩)]

/-- the chain's list -/
structure Half (L e : List Nat) : Prop where
  links : Links L e
  nodup : e.Nodup
  head : e.head? = some 0
theorem Half.put {L e : List Nat} (h : Half L e) {a b : Nat} (ha : a ∈ e) (hb : b ∉ e) : Half (put1 L a b) (ins e a b) :=
  ⟨links_ins h.links ha hb h.nodup, ins_nodup ha hb h.nodup, ins_head.trans h.head⟩
theorem Half.place {L e : List Nat} (h : Half L e) (hl : e.length = L.length) {x : Nat} (hx : x ∈ e) : (places L).getD x 0 = e.idxOf x := by
  unfold places
  rw [← hl, placesFrom_at e 0 0 _ h.links h.nodup h.head (fun y hy => by rw [List.length_replicate, hl]; exact links_lt h.links y hy) x, if_pos hx, Nat.zero_add]

/-- the two lists of a state -/
structure Ords (s : State) (e h : List Nat) : Prop where
  ce : Half s.E e
  ch : Half s.H h
  me : ∀ x, x ∈ e ↔ x < s.n
  mh : ∀ x, x ∈ h ↔ x < s.n
  le : e.length = s.n
  lh : h.length = s.n
theorem init_ord : Ords init [0] [0] := by
  have hl : Half [0] [0] := ⟨⟨by simp, by simp, by simp, trivial⟩, by simp, rfl⟩
  exact ⟨hl, hl, by simp [init], by simp [init], rfl, rfl⟩
/-- how the places of a list turn, if k are put behind a -/
def moved (e e' : List Nat) (n a k : Nat) : Prop := ∀ x, x < n → e'.idxOf x = if e.idxOf x ≤ e.idxOf a then e.idxOf x else e.idxOf x + k

theorem ord_fork {s : State} {e h : List Nat} (hg : s.Good) (ho : Ords s e h) (hj : s.last.2 = 0) :
    ∃ e' h', Ords (s.turn 1) e' h' ∧ moved e e' s.n s.last.1 3 ∧ moved h h' s.n s.last.1 3 ∧ e'.idxOf s.n = e.idxOf s.last.1 + 1 ∧ e'.idxOf (s.n + 1) = e.idxOf s.last.1 + 2 ∧ e'.idxOf (s.n + 2) = e.idxOf s.last.1 + 3 ∧
      h'.idxOf (s.n + 1) = h.idxOf s.last.1 + 1 ∧ h'.idxOf s.n = h.idxOf s.last.1 + 2 ∧ h'.idxOf (s.n + 2) = h.idxOf s.last.1 + 3 := by
  have hA := hg.last.1
  have t : s.turn 1 = ⟨put1 (put1 (put1 s.E s.last.1 s.n) s.n (s.n + 1)) (s.n + 1) (s.n + 2), put1 (put1 (put1 s.H s.last.1 (s.n + 1)) (s.n + 1) s.n) s.n (s.n + 2), s.ts.set (s.ts.length - 1) (s.n + 1, s.n + 2) ++ [(s.n, 0)], s.n + 3⟩ := by
    unfold State.turn
    rw [if_pos rfl, if_pos hj]
    rfl
  rw [t]
  generalize s.last.1 = a at *
  generalize hn : s.n = n at *
  have ae := (ho.me a).2 (by omega)
  have ah := (ho.mh a).2 (by omega)
  -- english
  have e1 : n ∉ e := by rw [ho.me]; omega
  have m1 : ∀ x, x ∈ ins e a n ↔ x < n ∨ x = n := fun x => by rw [mem_ins ae, ho.me, hn]
  have E1 := ho.ce.put ae e1
  have e2 : n + 1 ∉ ins e a n := by rw [m1]; omega
  have a2 : n ∈ ins e a n := by rw [m1]; omega
  have m2 : ∀ x, x ∈ ins (ins e a n) n (n + 1) ↔ x < n ∨ x = n ∨ x = n + 1 := fun x => by rw [mem_ins a2, m1]; omega
  have E2 := E1.put a2 e2
  have e3 : n + 2 ∉ ins (ins e a n) n (n + 1) := by rw [m2]; omega
  have a3 : n + 1 ∈ ins (ins e a n) n (n + 1) := by rw [m2]; omega
  have m3 : ∀ x, x ∈ ins (ins (ins e a n) n (n + 1)) (n + 1) (n + 2) ↔ x < n + 3 := fun x => by rw [mem_ins a3, m2]; omega
  have E3 := E2.put a3 e3
  -- hebrew
  have h1 : n + 1 ∉ h := by rw [ho.mh]; omega
  have k1 : ∀ x, x ∈ ins h a (n + 1) ↔ x < n ∨ x = n + 1 := fun x => by rw [mem_ins ah, ho.mh, hn]
  have H1 := ho.ch.put ah h1
  have h2 : n ∉ ins h a (n + 1) := by rw [k1]; omega
  have b2 : n + 1 ∈ ins h a (n + 1) := by rw [k1]; omega
  have k2 : ∀ x, x ∈ ins (ins h a (n + 1)) (n + 1) n ↔ x < n ∨ x = n ∨ x = n + 1 := fun x => by rw [mem_ins b2, k1]; omega
  have H2 := H1.put b2 h2
  have h3 : n + 2 ∉ ins (ins h a (n + 1)) (n + 1) n := by rw [k2]; omega
  have b3 : n ∈ ins (ins h a (n + 1)) (n + 1) n := by rw [k2]; omega
  have k3 : ∀ x, x ∈ ins (ins (ins h a (n + 1)) (n + 1) n) n (n + 2) ↔ x < n + 3 := fun x => by rw [mem_ins b3, k2]; omega
  have H3 := H2.put b3 h3
  refine ⟨_, _, ⟨E3, H3, m3, k3, ?_, ?_⟩, ?_, ?_, ?_, ?_, ?_, ?_, ?_, ?_⟩
  · rw [ins_length a3, ins_length a2, ins_length ae, ho.le]; simp; omega
  · rw [ins_length b3, ins_length b2, ins_length ah, ho.lh]; simp; omega
  · intro x hx
    have p := idx_ins_new ae e1
    have p2 := idx_ins_new a2 e2
    have r1 := idx_ins_old (b := n) ae e1 ((ho.me x).2 (by omega))
    have r2 := idx_ins_old (x := x) a2 e2 (by rw [m1]; omega)
    have r3 := idx_ins_old (x := x) a3 e3 (by rw [m2]; omega)
    rw [r3, r2, r1, p2, p]
    split <;> split <;> split <;> omega
  · intro x hx
    have p := idx_ins_new ah h1
    have p2 := idx_ins_new b2 h2
    have r1 := idx_ins_old (b := n + 1) ah h1 ((ho.mh x).2 (by omega))
    have r2 := idx_ins_old (x := x) b2 h2 (by rw [k1]; omega)
    have r3 := idx_ins_old (x := x) b3 h3 (by rw [k2]; omega)
    rw [r3, r2, r1, p2, p]
    split <;> split <;> split <;> omega
  · rw [idx_ins_old a3 e3 (by rw [m2]; omega), idx_ins_old a2 e2 a2, idx_ins_new a2 e2, idx_ins_new ae e1]
    split <;> split <;> omega
  · rw [idx_ins_old a3 e3 a3, idx_ins_new a2 e2, idx_ins_new ae e1]
    split <;> omega
  · rw [idx_ins_new a3 e3, idx_ins_new a2 e2, idx_ins_new ae e1]
  · rw [idx_ins_old b3 h3 (by rw [k2]; omega), idx_ins_old b2 h2 b2, idx_ins_new b2 h2, idx_ins_new ah h1]
    split <;> split <;> omega
  · rw [idx_ins_old b3 h3 b3, idx_ins_new b2 h2, idx_ins_new ah h1]
    split <;> omega
  · rw [idx_ins_new b3 h3, idx_ins_new b2 h2, idx_ins_new ah h1]

theorem ord_more {s : State} {e h : List Nat} (hg : s.Good) (ho : Ords s e h) (hj : s.last.2 ≠ 0) :
    ∃ e' h', Ords (s.turn 1) e' h' ∧ moved e e' s.n s.last.1 2 ∧ moved h h' s.n s.last.1 2 ∧ e'.idxOf s.n = e.idxOf s.last.1 + 1 ∧ e'.idxOf (s.n + 1) = e.idxOf s.last.1 + 2 ∧
      h'.idxOf (s.n + 1) = h.idxOf s.last.1 + 1 ∧ h'.idxOf s.n = h.idxOf s.last.1 + 2 := by
  have hA := hg.last.1
  have t : s.turn 1 = ⟨put1 (put1 s.E s.last.1 s.n) s.n (s.n + 1), put1 (put1 s.H s.last.1 (s.n + 1)) (s.n + 1) s.n, s.ts.set (s.ts.length - 1) (s.n + 1, s.last.2) ++ [(s.n, 0)], s.n + 2⟩ := by
    unfold State.turn
    rw [if_pos rfl, if_neg hj]
    rfl
  rw [t]
  generalize s.last.1 = a at *
  generalize hn : s.n = n at *
  have ae := (ho.me a).2 (by omega)
  have ah := (ho.mh a).2 (by omega)
  have e1 : n ∉ e := by rw [ho.me]; omega
  have m1 : ∀ x, x ∈ ins e a n ↔ x < n ∨ x = n := fun x => by rw [mem_ins ae, ho.me, hn]
  have E1 := ho.ce.put ae e1
  have e2 : n + 1 ∉ ins e a n := by rw [m1]; omega
  have a2 : n ∈ ins e a n := by rw [m1]; omega
  have m2 : ∀ x, x ∈ ins (ins e a n) n (n + 1) ↔ x < n + 2 := fun x => by rw [mem_ins a2, m1]; omega
  have E2 := E1.put a2 e2
  have h1 : n + 1 ∉ h := by rw [ho.mh]; omega
  have k1 : ∀ x, x ∈ ins h a (n + 1) ↔ x < n ∨ x = n + 1 := fun x => by rw [mem_ins ah, ho.mh, hn]
  have H1 := ho.ch.put ah h1
  have h2 : n ∉ ins h a (n + 1) := by rw [k1]; omega
  have b2 : n + 1 ∈ ins h a (n + 1) := by rw [k1]; omega
  have k2 : ∀ x, x ∈ ins (ins h a (n + 1)) (n + 1) n ↔ x < n + 2 := fun x => by rw [mem_ins b2, k1]; omega
  have H2 := H1.put b2 h2
  refine ⟨_, _, ⟨E2, H2, m2, k2, ?_, ?_⟩, ?_, ?_, ?_, ?_, ?_, ?_⟩
  · rw [ins_length a2, ins_length ae, ho.le]; simp; omega
  · rw [ins_length b2, ins_length ah, ho.lh]; simp; omega
  · intro x hx
    rw [idx_ins_old a2 e2 (by rw [m1]; omega), idx_ins_old ae e1 ((ho.me x).2 (by omega)), idx_ins_new ae e1]
    split <;> split <;> omega
  · intro x hx
    rw [idx_ins_old b2 h2 (by rw [k1]; omega), idx_ins_old ah h1 ((ho.mh x).2 (by omega)), idx_ins_new ah h1]
    split <;> split <;> omega
  · rw [idx_ins_old a2 e2 a2, idx_ins_new ae e1]
    split <;> omega
  · rw [idx_ins_new a2 e2, idx_ins_new ae e1]
  · rw [idx_ins_old b2 h2 b2, idx_ins_new ah h1]
    split <;> omega
  · rw [idx_ins_new b2 h2, idx_ins_new ah h1]
theorem ord_else {s : State} {e h : List Nat} (ho : Ords s e h) {k : Int} (hk : k ≠ 1) : Ords (s.turn k) e h ∧ (s.turn k).n = s.n := by
  unfold State.turn
  rw [if_neg hk]
  split
  · exact ⟨⟨ho.ce, ho.ch, ho.me, ho.mh, ho.le, ho.lh⟩, rfl⟩
  · exact ⟨⟨ho.ce, ho.ch, ho.me, ho.mh, ho.le, ho.lh⟩, rfl⟩
theorem Ords.places {s : State} {e h : List Nat} (hg : s.Good) (ho : Ords s e h) {x : Nat} (hx : x < s.n) : s.places.getD x (0, 0) = (e.idxOf x, h.idxOf x) := by
  have h1 := ho.ce.place (by rw [ho.le, hg.e]) ((ho.me x).2 hx)
  have h2 := ho.ch.place (by rw [ho.lh, hg.h]) ((ho.mh x).2 hx)
  unfold State.places
  have l1 : x < (S.places s.E).length := by rw [places_length, hg.e]; exact hx
  have l2 : x < (S.places s.H).length := by rw [places_length, hg.h]; exact hx
  rw [List.getD_eq_getElem?_getD, List.getElem?_eq_getElem l1, Option.getD_some] at h1
  rw [List.getD_eq_getElem?_getD, List.getElem?_eq_getElem l2, Option.getD_some] at h2
  rw [List.getD_eq_getElem?_getD, List.getElem?_eq_getElem (by rw [List.length_zip]; omega), Option.getD_some, List.getElem_zip, h1, h2]
end Go.Proofs.Ytahhihhfjimppaa.S
/- walks: the document's behind and place -/
namespace Go.Proofs.Ytahhihhfjimppaa
open Go.RowKit
set_option linter.unusedSimpArgs false
set_option linter.unusedVariables false
set_option maxRecDepth 100000

/-- a list with a strand more, behind each x that it has -/
def S.beh (l : List Nat) (x s : Nat) : List Nat := l.flatMap fun y => if y = x then [y, s] else [y]
theorem S.beh_cons (y : Nat) (l : List Nat) (x s : Nat) : S.beh (y :: l) x s = (if y = x then [y, s] else [y]) ++ S.beh l x s := rfl
theorem S.beh_none {l : List Nat} {x s : Nat} (h : x ∉ l) : S.beh l x s = l := by
  induction l with
  | nil => rfl
  | cons y l ih =>
    simp only [List.mem_cons, not_or] at h
    rw [S.beh_cons, if_neg (fun e => h.1 e.symm), ih h.2]; rfl
theorem S.beh_ins {l : List Nat} {x s : Nat} (hn : l.Nodup) (h : x ∈ l) : S.beh l x s = S.ins l x s := by
  induction l with
  | nil => simp at h
  | cons y l ih =>
    have hn' := List.nodup_cons.1 hn
    rw [S.beh_cons, S.ins]
    by_cases hy : y = x
    · subst hy
      rw [if_pos rfl, if_pos rfl, S.beh_none hn'.1]; rfl
    · rw [if_neg hy, if_neg hy]
      have : x ∈ l := by rcases List.mem_cons.1 h with h1 | h1; exact absurd h1.symm hy; exact h1
      rw [ih hn'.2 this]; rfl
theorem S.beh_snoc (l : List Nat) (y x s : Nat) : S.beh (l ++ [y]) x s = S.beh l x s ++ (if y = x then [y, s] else [y]) := by simp [S.beh]
theorem S.beh_length_le (l : List Nat) (x s : Nat) : l.length ≤ (S.beh l x s).length ∧ (S.beh l x s).length ≤ 2 * l.length := by
  induction l with
  | nil => simp [S.beh]
  | cons y l ih =>
    rw [S.beh_cons]
    split <;> simp <;> omega
/-- a row of numbers, made by the call -/
def MadeN (w : World) (news : List Nat) (e : Ending) (w' : World) : Prop :=
  ∃ A c, e = .returned (.slice A news.length c) ∧ Rd w' w'.heap.size A (ns news) ∧ Below w.heap.size w w'

theorem behind_any (l : List Nat) (A : Option Addr) (c x s : Nat) (w : World) (hr : Rd w w.heap.size A (ns l)) (hl : l.length ≤ 1000) (hx : x ≤ 1000) (hs : s ≤ 1000) :
    Calls Try.prog 18 #[.slice A l.length c, .int .i64 x, .int .i64 s] w (MadeN w (S.beh l x s)) := by
  obtain ⟨i0, hi, hz0, hz1, hz2⟩ := info_parts info_int
  go_enter Try.func18, Try.ntmps18
  go_wp2
  go_loopg [7, 8] l.length (fun gk vv ii wr => ∃ k m : Nat, k + gk = l.length ∧ m = (S.beh (l.take k) x s).length ∧ ii = .int .i64 k ∧ wr.ownsRow w.heap.size 3 1 vv m (ns (S.beh (l.take k) x s)) ∧ Below w.heap.size w wr)
  case atStart => exact ⟨0, 0, by omega, rfl, rfl, World.ownsRow_nil _ _ _ _, Below.refl _ _⟩
  case round =>
    obtain ⟨k, m, hk, hm, rfl, ho, hb⟩ := hrel
    have HK := Lib.hid hk
    have hm9 : m ≤ 3000 := by have h1 := S.beh_length_le (l.take k) x s; rw [List.length_take] at h1; omega
    have HM := Lib.hid hm
    clear hm
    by_cases hlt : k < l.length
    · clear hk
      have hltI : (k : Int) < (l.length : Int) := by omega
      have hsz := hb.size
      obtain ⟨bA, oA, rfl, hbA, f⟩ := hr.at_ (ns_at l k hlt)
      have f0 := (hb.cell (p := ⟨bA, oA + k, none⟩) hbA).trans f
      have hbA2 : bA < wr.heap.size := by omega
      have HT : Hid (S.beh (l.take (k + 1)) x s = S.beh (l.take k) x s ++ (if l[k] = x then [l[k], s] else [l[k]])) := Lib.hid (by rw [List.take_succ_eq_append_getElem hlt, S.beh_snoc])
      generalize l[k] = y at *
      go_wp2_with (at_builtin; refine wpList_append_own_at _ rfl (.tmp 15) (.tmp 20) 23 rfl w.heap.size 3 i0 _ 1 8 Try.underlying23 hi hz0 hz1 hz2 rfl (by omega) _ _ _ rfl (ho.alloc _) ⟨wr.heap.size, 0, none⟩ 1 1 [.int .i64 (y : Int)] rfl rfl ?c1 ?c2 ?c3 ?c4 ?c5 ?_)
      case c1 => exact World.news_of_block (cs := #[.int .i64 (y : Int)]) (heap_alloc_new _ _)
      case c2 => simp [Value.oneCell']
      case c3 => simp only [maxLen]; omega
      case c4 => omega
      case c5 => first | omega | (simp; omega)
      intro v3 w3 ho3 hg3 _ _
      have hb3 : Below w.heap.size w w3 := (hb.alloc hsz _).grown hg3 (by simp; omega) fun k hk => (ho.lt k hk).1
      have f3 := (hb3.cell (p := ⟨bA, oA + k, none⟩) hbA).trans f
      have hs3 := hb3.size
      have hbA3 : bA < w3.heap.size := by omega
      clear ho hb hg3 f0
      by_cases hyx : y = x
      · subst hyx
        have e1 : ns (S.beh (l.take (k + 1)) y s) = ns (S.beh (l.take k) y s) ++ [.int .i64 (y : Int), .int .i64 (s : Int)] := by rw [HT.out, if_pos rfl, ns_append]; rfl
        have HE := Lib.hid e1
        have HLN : Hid (m + 1 + 1 = (S.beh (l.take (k + 1)) y s).length) := Lib.hid (by rw [HT.out, if_pos rfl, List.length_append, ← HM.out]; rfl)
        clear e1 HT
        go_wp2_with (at_builtin; refine wpList_append_own_at _ rfl (.tmp 28) (.tmp 30) 23 rfl w.heap.size 3 i0 _ 1 8 Try.underlying23 hi hz0 hz1 hz2 rfl (by omega) _ _ _ rfl (ho3.alloc _) ⟨w3.heap.size, 0, none⟩ 1 1 [.int .i64 (s : Int)] rfl rfl ?d1 ?d2 ?d3 ?d4 ?d5 ?_)
        case d1 => exact World.news_of_block (cs := #[.int .i64 (s : Int)]) (heap_alloc_new _ _)
        case d2 => simp [Value.oneCell']
        case d3 => simp only [maxLen]; omega
        case d4 => omega
        case d5 => first | omega | (simp; omega)
        intro v4 w4 ho4 hg4 _ _
        have hb4 : Below w.heap.size w w4 := (hb3.alloc hs3 _).grown hg4 (by simp; omega) fun k hk => (ho3.lt k hk).1
        first | rw [← HE.out] at ho4 | (rw [List.append_assoc] at ho4; rw [show [Value.int .i64 (y : Int)] ++ [Value.int .i64 (s : Int)] = [Value.int .i64 (y : Int), .int .i64 (s : Int)] from rfl, ← HE.out] at ho4)
        clear ho3 hb3 hg4 HE
        go_wp2_with fail
        go_roundg (gk - 1)
        case measure => have := HK.out; omega
        case rel => exact ⟨k + 1, m + 1 + 1, by have := HK.out; omega, HLN.out, by go_num, ho4, hb4⟩
      · have q1 : ((y : Int) == (x : Int)) = false := beq_false_of_ne (by omega)
        have e1 : ns (S.beh (l.take (k + 1)) x s) = ns (S.beh (l.take k) x s) ++ [.int .i64 (y : Int)] := by rw [HT.out, if_neg hyx, ns_append]; rfl
        have HLN : Hid (m + 1 = (S.beh (l.take (k + 1)) x s).length) := Lib.hid (by rw [HT.out, if_neg hyx, List.length_append, ← HM.out]; rfl)
        rw [← e1] at ho3
        clear e1 HT hyx
        go_wp2_with fail
        go_roundg (gk - 1)
        case measure => have := HK.out; omega
        case rel => exact ⟨k + 1, m + 1, by have := HK.out; omega, HLN.out, by go_num, ho3, hb3⟩
    · clear hk
      have e1 : l.take k = l := List.take_of_length_le (by omega)
      have hm := HM.out
      rw [e1] at ho hm
      subst hm
      obtain ⟨A', c', hv, _, _⟩ := own_form ho
      subst hv
      have r1 := Rd.of_own ho
      clear e1 HM
      go_wp2
      go_ret
      exact ⟨A', c', rfl, r1, hb⟩

theorem S.idx_first : ∀ (l : List Nat) (s k : Nat) (hk : k < l.length), k < l.idxOf s → l[k] ≠ s := by
  intro l
  induction l with
  | nil => intro s k hk; simp at hk
  | cons y l ih =>
    intro s k hk h e
    rw [List.idxOf_cons] at h
    by_cases hy : y = s
    · have : (y == s) = true := by simpa using hy
      rw [this] at h
      simp at h
    · have : (y == s) = false := by simpa using hy
      rw [this, cond_false] at h
      cases k with
      | zero => exact hy (by simpa using e)
      | succ k => exact ih s k (by simpa using hk) (by omega) (by simpa using e)
/-- where a strand stands; below 0: it does not -/
def S.plc (l : List Nat) (s : Nat) : Int := if s ∈ l then (l.idxOf s : Int) else -1
theorem place_any (l : List Nat) (A : Option Addr) (c s : Nat) (w : World) (hr : Rd w w.heap.size A (ns l)) (hl : l.length ≤ 1000) :
    Calls Try.prog 19 #[.slice A l.length c, .int .i64 s] w (fun e w' => e = .returned (.int .i64 (S.plc l s)) ∧ w = w') := by
  go_enter Try.func19, Try.ntmps19
  go_wp2
  go_loopg [5] l.length (fun gk ii wr => ∃ k : Nat, k + gk = l.length ∧ ii = .int .i64 k ∧ wr = w ∧ Hid (∀ j (hj : j < l.length), j < k → l[j] ≠ s))
  case atStart => exact ⟨0, by omega, rfl, rfl, Lib.hid (fun j hj h => by omega)⟩
  case round =>
    obtain ⟨k, hk, rfl, hw, HN⟩ := hrel
    subst hw
    have HK := Lib.hid hk
    by_cases hlt : k < l.length
    · clear hk
      have hltI : (k : Int) < (l.length : Int) := by omega
      obtain ⟨bA, oA, rfl, hbA, f⟩ := hr.at_ (ns_at l k hlt)
      by_cases hs : l[k] = s
      · have HR : Hid (S.plc l s = (k : Int)) := Lib.hid (by
          have hm : s ∈ l := hs ▸ List.getElem_mem hlt
          have hi := S.idx_lt hm
          have hx : l[l.idxOf s]'hi = s := List.getElem_idxOf hi
          unfold S.plc
          rw [if_pos hm]
          have h1 : ¬ l.idxOf s < k := fun h => HN.out _ hi h hx
          have h2 : ¬ k < l.idxOf s := fun h => S.idx_first l s k hlt h hs
          omega)
        rw [hs] at f
        go_wp2
        go_ret
        exact ⟨by rw [HR.out]; rfl, rfl⟩
      · have q1 : ((l[k] : Int) == (s : Int)) = false := beq_false_of_ne (by omega)
        have HN2 : Hid (∀ j (hj : j < l.length), j < k + 1 → l[j] ≠ s) := Lib.hid (fun j hj h => by
          by_cases e : j = k
          · subst e; exact hs
          · exact HN.out j hj (by omega))
        clear hs HN
        go_wp2
        go_roundg (gk - 1)
        case measure => have := HK.out; omega
        case rel => exact ⟨k + 1, by have := HK.out; omega, by go_num, rfl, HN2⟩
    · have HR : Hid (S.plc l s = -1) := Lib.hid (by
        unfold S.plc
        rw [if_neg]
        intro hm
        obtain ⟨j, hj, he⟩ := List.getElem_of_mem hm
        exact HN.out j hj (by omega) he)
      clear hk HN
      go_wp2
      go_ret
      exact ⟨by rw [HR.out]; rfl, rfl⟩
end Go.Proofs.Ytahhihhfjimppaa
/- arguments that are slices of structs of numbers: opened to one list of numbers -/
namespace Go.Proofs.Ytahhihhfjimppaa
open Go.ChangeShapes Go.WideShapes Go.RowKit Go.Deep
set_option linter.unusedSimpArgs false
set_option linter.unusedVariables false

/-- each cell is a number that fits -/
def Nums (cs : List Value) : Prop := ∀ c ∈ cs, ∃ z, c = .int .i64 z ∧ (Lit.int .i64 z).wf = true
/-- whatever is read at a type is numbers -/
def Flat (P : Program) (t : TypeId) : Prop :=
  ∀ ⦃H : Type⦄ ⦃enc : TypeId × Value → H⦄ ⦃w : World⦄ ⦃base : Nat⦄ ⦃spare : Nat → Bool⦄ ⦃held : Bool⦄ ⦃fuel : Nat⦄ ⦃cs : List Value⦄ ⦃x : DataW H × List MemPlace⦄, DataW.trod enc P w base spare held fuel t cs = some x → Nums cs
theorem flat_int {P : Program} {t : TypeId} (ht : P.underlying t = some (.int .i64)) : Flat P t := by
  intro H enc w base spare held fuel cs x h
  obtain ⟨n, rfl, _, hw⟩ := DataW.trod_int ht h
  intro c hc
  rw [List.mem_singleton.1 hc]
  exact ⟨n, rfl, hw⟩
/-- the fields lie over all cells -/
def covers (P : Program) (fs : Array Field) (n : Nat) : Bool := (List.range n).all fun i => fs.toList.any fun f => decide (f.offset ≤ i) && decide (i < f.offset + P.cellsOf f.type)
theorem flat_struct {P : Program} {t : TypeId} {fs : Array Field} (ht : P.underlying t = some (.struct fs)) (hc : covers P fs (P.cellsOf t) = true) (hf : ∀ f ∈ fs.toList, Flat P f.type) : Flat P t := by
  intro H enc w base spare held fuel cs x h
  obtain ⟨ys, n, _, _, hlen, hyl, hg⟩ := DataW.trod_struct ht h
  intro c hcm
  obtain ⟨i, hi, rfl⟩ := List.getElem_of_mem hcm
  have h1 := List.all_eq_true.1 hc i (List.mem_range.2 (by omega))
  obtain ⟨f, hfm, h2⟩ := List.any_eq_true.1 h1
  simp only [Bool.and_eq_true, decide_eq_true_eq] at h2
  obtain ⟨j, hj, hfj⟩ := List.getElem_of_mem hfm
  have hj' : j < fs.size := by simpa using hj
  have hfj' : fs[j]? = some f := by rw [Array.getElem?_eq_getElem hj']; simpa using hfj
  have h3 := hg j f hfj'
  obtain ⟨y, hy⟩ : ∃ y, ys[j]? = some y := ⟨_, List.getElem?_eq_getElem (by omega)⟩
  rw [hy] at h3
  refine hf f hfm h3 _ ?_
  refine List.mem_of_getElem? (i := i - f.offset) ?_
  rw [List.getElem?_take_of_lt (by omega), List.getElem?_drop, Nat.add_sub_cancel' h2.1, List.getElem?_eq_getElem]

theorem nums_is {cs : List Value} (h : Nums cs) : ∃ zs : List Int, cs = is zs ∧ ∀ z ∈ zs, (Lit.int .i64 z).wf = true := by
  induction cs with
  | nil => exact ⟨[], rfl, fun _ h => by simp at h⟩
  | cons c cs ih =>
    obtain ⟨zs, rfl, hz⟩ := ih (fun x hx => h x (by simp [hx]))
    obtain ⟨z, rfl, hw⟩ := h c (by simp)
    exact ⟨z :: zs, rfl, fun x hx => by rcases List.mem_cons.1 hx with rfl | hx; exact hw; exact hz x hx⟩
theorem wf_i64 {z : Int} (h : (Lit.int .i64 z).wf = true) : -9223372036854775808 ≤ z ∧ z ≤ 9223372036854775807 := by
  simp [Lit.wf, IntKind.min, IntKind.max, IntKind.bits, IntKind.signed] at h
  omega
theorem wf_u8 {z : Int} (h : (Lit.int .u8 z).wf = true) : 0 ≤ z ∧ z ≤ 255 := by
  simp [Lit.wf, IntKind.min, IntKind.max, IntKind.bits, IntKind.signed] at h
  omega

/-- what a slice of structs of k numbers each is read as -/
def IsFlat (k : Nat) (w : World) (A : Option Addr) (len cap : Nat) (zs : List Int) : Prop :=
  zs.length = len * k ∧ Rd w w.heap.size A (is zs) ∧ (∀ z ∈ zs, -9223372036854775808 ≤ z ∧ z ≤ 9223372036854775807) ∧ len ≤ cap ∧ cap ≤ 9223372036854775807

section
variable {H : Type} {enc : TypeId × Value → H} {P : Program} {w : World} {base : Nat} {spare : Nat → Bool} {held : Bool}
theorem nums_upto {a : Addr} {k : Nat} : ∀ (len : Nat), (∀ i, i < len → ∃ cs, (w.cells? base (a.add (i * k)) k = some cs) ∧ Nums cs) →
    ∃ zs : List Int, zs.length = len * k ∧ (∀ z ∈ zs, (Lit.int .i64 z).wf = true) ∧ ∀ j u, (is zs)[j]? = some u → w.cell? (a.add j) = some u := by
  intro len
  induction len with
  | zero => intro _; exact ⟨[], by simp, fun _ h => by simp at h, fun j u h => by simp [is] at h⟩
  | succ len ih =>
    intro h
    obtain ⟨zs, hl, hw, hc⟩ := ih (fun i hi => h i (by omega))
    obtain ⟨cs, hcs, hn⟩ := h len (by omega)
    obtain ⟨_, hcl, hat⟩ := World.cells?_some hcs
    obtain ⟨ys, rfl, hy⟩ := nums_is hn
    refine ⟨zs ++ ys, ?_, ?_, ?_⟩
    · rw [List.length_append, hl, Nat.add_mul, Nat.one_mul]; congr 1; simpa using hcl
    · intro z hz; rcases List.mem_append.1 hz with hz | hz; exact hw z hz; exact hy z hz
    · intro j u hu
      rw [is_append] at hu
      by_cases hj : j < (is zs).length
      · rw [List.getElem?_append_left hj] at hu; exact hc j u hu
      · rw [List.getElem?_append_right (by omega)] at hu
        have hjk : j - (is zs).length < k := by
          have := (List.getElem?_eq_some_iff.1 hu).1
          rw [hcl] at this; exact this
        have := hat _ hjk
        rw [Go.Deep.add_add] at this
        rw [is_length, hl] at this hu hj
        rw [show len * k + (j - len * k) = j by omega] at this
        rw [this, hu]
theorem open_flat {t e : TypeId} {k : Nat} {fuel : Nat} {A : Option Addr} {len cap : Nat} {x : DataW H × List MemPlace} (ht : P.underlying t = some (.slice e)) (hF : Flat P e) (hC : P.cellsOf e = k) (hk : 0 < k)
    (h : DataW.trod enc P w base (fun _ => true) held fuel t (Value.slice A len cap).cells.toList = some x) : ∃ zs, IsFlat k w A len cap zs := by
  rcases open_slice ht h with ⟨hcs, _⟩ | ⟨a, l, c, m, n, D, Pl, hcs, hb, hl, hm, hmm, hx, hi⟩
  · simp [Value.cells] at hcs
    obtain ⟨rfl, rfl, rfl⟩ := hcs
    exact ⟨[], by simp, .inl rfl, fun _ h => by simp at h, Nat.le_refl _, by omega⟩
  · simp [Value.cells] at hcs
    obtain ⟨rfl, rfl, rfl⟩ := hcs
    simp only [if_true] at hmm
    subst hmm
    rw [hC] at hi
    obtain ⟨zs, hzl, hzw, hzc⟩ := nums_upto (w := w) (base := base) (a := a) (k := k) len (fun i hil => by
      obtain ⟨cs', h1, h2⟩ := hi i (by omega)
      exact ⟨cs', h1, hF h2⟩)
    refine ⟨zs, hzl, ?_, fun z hz => wf_i64 (hzw z hz), hl, hm⟩
    refine Rd.top (B := a.block + 1) ?_
    rcases Nat.eq_zero_or_pos len with h0 | hp
    · left
      subst h0
      have : zs = [] := List.eq_nil_of_length_eq_zero (by simpa using hzl)
      rw [this]; rfl
    · have hpos : 0 < zs.length := by rw [hzl]; exact Nat.mul_pos hp hk
      have hsp : a.spot = none := by
        have := World.cell?_spot (hzc 0 _ (is_at zs 0 hpos))
        simpa [Addr.add] using this
      obtain ⟨b, off, sp⟩ := a
      simp only at hsp
      subst hsp
      refine .inr ⟨b, off, rfl, by simp, fun j u hu => ?_⟩
      have := hzc j u hu
      rw [Addr.add_lit] at this
      exact this
end
end Go.Proofs.Ytahhihhfjimppaa
/- what the law's arguments are; SpEither walked -/
namespace Go.Proofs.Ytahhihhfjimppaa
open Go.RowKit
set_option linter.unusedSimpArgs false
set_option linter.unusedVariables false
set_option maxRecDepth 100000

theorem flat_split : Flat Try.prog 59 := by
  have hi : Try.prog.underlying 3 = some (.int .i64) := by kernel_rfl
  refine flat_struct (fs := _) Try.underlying59 (by kernel_rfl) (fun f hf => ?_)
  simp only [List.mem_cons, List.not_mem_nil, or_false] at hf
  rcases hf with rfl | rfl | rfl | rfl | rfl <;> exact flat_int hi

theorem fives : ∀ (n : Nat) (zs : List Int), zs.length = n * 5 → ∃ l : List S.Five, l.length = n ∧ fcs l = is zs
  | 0, zs, h => by
    have h0 : zs = [] := List.eq_nil_of_length_eq_zero (by simpa using h)
    exact ⟨[], rfl, by rw [h0]; rfl⟩
  | n + 1, zs, h => by
    match zs, h with
    | a :: b :: c :: d :: e :: r, h =>
      obtain ⟨l, hl, hf⟩ := fives n r (by simp at h; omega)
      exact ⟨(a, b, c, d, e) :: l, by simp [hl], by rw [fcs_cons, hf]; rfl⟩
    | [], h => simp at h
    | [_], h => simp at h; omega
    | [_, _], h => simp at h; omega
    | [_, _, _], h => simp at h; omega
    | [_, _, _, _], h => simp at h; omega
theorem flat_fives {w : World} {A : Option Addr} {len cap : Nat} {zs : List Int} (h : IsFlat 5 w A len cap zs) : ∃ l : List S.Five, l.length = len ∧ Rd w w.heap.size A (fcs l) := by
  obtain ⟨l, hl, hf⟩ := fives len zs h.1
  exact ⟨l, hl, by rw [hf]; exact h.2.1⟩
end Go.Proofs.Ytahhihhfjimppaa
/- The plain side of layer 12: more splits turn nothing; the English list is the serial order -/
namespace Go.Proofs.Ytahhihhfjimppaa.S
set_option linter.unusedSimpArgs false
set_option linter.unusedVariables false

/-- the tasks, the one that runs first -/
def State.stk (s : State) : List (Nat × Nat) := s.ts.reverse
theorem stk_last {s : State} {t : Nat × Nat} {r : List (Nat × Nat)} (h : s.stk = t :: r) : s.last = t ∧ s.ts = r.reverse ++ [t] := by
  have e : s.ts = r.reverse ++ [t] := by
    have := congrArg List.reverse h
    simpa [State.stk] using this
  refine ⟨?_, e⟩
  unfold State.last
  rw [e]
  simp [List.getD_eq_getElem?_getD]
theorem stk_pos {s : State} (h : s.Good) : ∃ t r, s.stk = t :: r := by
  have hp := h.pos
  cases hs : s.stk with
  | nil => unfold State.stk at hs; rw [List.reverse_eq_nil_iff] at hs; rw [hs] at hp; simp at hp
  | cons t r => exact ⟨t, r, rfl⟩
theorem turn_stk {s : State} {t : Nat × Nat} {r : List (Nat × Nat)} (h : s.stk = t :: r) (k : Int) :
    (s.turn k).stk = if k = 1 then (s.n, 0) :: (s.n + 1, if t.2 = 0 then s.n + 2 else t.2) :: r else if k = 2 then r else (t.2, 0) :: r := by
  obtain ⟨hl, ht⟩ := stk_last h
  have hset : ∀ u, s.ts.set (s.ts.length - 1) u = r.reverse ++ [u] := by intro u; rw [ht]; simp
  unfold State.turn State.stk
  rw [hl]
  by_cases k1 : k = 1
  · rw [if_pos k1, if_pos k1]
    by_cases hj : t.2 = 0
    · rw [if_pos hj, if_pos hj, hset]; simp
    · rw [if_neg hj, if_neg hj, hset]; simp
  · rw [if_neg k1, if_neg k1]
    by_cases k2 : k = 2
    · rw [if_pos k2, if_pos k2]
      show (s.ts.take (s.ts.length - 1)).reverse = r
      rw [ht]; simp
    · rw [if_neg k2, if_neg k2]
      show (s.ts.set (s.ts.length - 1) (t.2, 0)).reverse = _
      rw [hset]; simp
theorem turn_n1 {s : State} {t : Nat × Nat} {r : List (Nat × Nat)} (h : s.stk = t :: r) (k : Int) : (s.turn k).n = if k = 1 then (if t.2 = 0 then s.n + 3 else s.n + 2) else s.n := by
  obtain ⟨hl, ht⟩ := stk_last h
  unfold State.turn
  rw [hl]
  by_cases k1 : k = 1
  · rw [if_pos k1, if_pos k1]; split <;> rfl
  · rw [if_neg k1, if_neg k1]; split <;> rfl
/-- which splits may come -/
theorem ok_cases {s : State} {t : Nat × Nat} {r : List (Nat × Nat)} (h : s.stk = t :: r) {f : Five} (hk : s.ok f) :
    f = (1, (t.1 : Int), (s.n : Int), (s.n : Int) + 1, if t.2 = 0 then (s.n : Int) + 2 else (t.2 : Int)) ∨
    (t.2 = 0 ∧ ∃ u r', r = u :: r' ∧ f = (2, (t.1 : Int), 0, 0, (u.2 : Int))) ∨
    (t.2 ≠ 0 ∧ f = (3, (t.1 : Int), 0, 0, (t.2 : Int))) := by
  obtain ⟨hl, ht⟩ := stk_last h
  obtain ⟨h1, h2⟩ := hk
  unfold may at h1 h2
  unfold State.last at hl
  rw [hl] at h1 h2
  dsimp only at h1 h2
  by_cases k1 : f.1 = 1
  · rw [if_pos k1] at h2
    exact .inl h2
  · rw [if_neg k1] at h1 h2
    by_cases k2 : f.1 = 2
    · rw [if_pos k2] at h1 h2
      split at h1
      · cases h1
      · rename_i hc
        rw [if_neg hc] at h2
        simp only [not_or, Nat.not_lt, Decidable.not_not] at hc
        refine .inr (.inl ⟨hc.2, ?_⟩)
        cases r with
        | nil => rw [ht] at hc; simp at hc
        | cons u r' =>
          refine ⟨u, r', rfl, ?_⟩
          have e : s.ts.getD (s.ts.length - 2) (0, 0) = u := by
            rw [ht]; simp [List.getD_eq_getElem?_getD]
          rw [e] at h2
          exact h2
    · rw [if_neg k2] at h1 h2
      by_cases k3 : f.1 = 3
      · rw [if_pos k3] at h1 h2
        exact .inr (.inr ⟨by simpa using h1, h2⟩)
      · rw [if_neg k3] at h1
        cases h1

/-- the order of those that there were is kept -/
def Kept (n : Nat) (e e' : List Nat) : Prop := ∀ x y, x < n → y < n → (e'.idxOf x < e'.idxOf y ↔ e.idxOf x < e.idxOf y)
theorem Kept.refl (n : Nat) (e : List Nat) : Kept n e e := fun _ _ _ _ => Iff.rfl
theorem Kept.trans {n m : Nat} {e e1 e2 : List Nat} (h : Kept n e e1) (h2 : Kept m e1 e2) (hnm : n ≤ m) : Kept n e e2 := fun x y hx hy => (h2 x y (by omega) (by omega)).trans (h x y hx hy)
theorem Kept.le {n : Nat} {e e' : List Nat} (h : Kept n e e') {x y : Nat} (hx : x < n) (hy : y < n) (hl : e.idxOf x ≤ e.idxOf y) : e'.idxOf x ≤ e'.idxOf y := by
  have := h y x hy hx
  omega
theorem moved_kept {e e' : List Nat} {n a k : Nat} (h : moved e e' n a k) : Kept n e e' := by
  intro x y hx hy
  rw [h x hx, h y hy]
  split <;> split <;> omega
theorem ord_step {s : State} {e h : List Nat} (hg : s.Good) (ho : Ords s e h) (k : Int) : ∃ e' h', Ords (s.turn k) e' h' ∧ Kept s.n e e' ∧ Kept s.n h h' := by
  by_cases k1 : k = 1
  · subst k1
    by_cases hj : s.last.2 = 0
    · obtain ⟨e', h', h1, h2, h3, _⟩ := ord_fork hg ho hj
      exact ⟨e', h', h1, moved_kept h2, moved_kept h3⟩
    · obtain ⟨e', h', h1, h2, h3, _⟩ := ord_more hg ho hj
      exact ⟨e', h', h1, moved_kept h2, moved_kept h3⟩
  · exact ⟨e, h, (ord_else ho k1).1, Kept.refl _ _, Kept.refl _ _⟩
theorem run_ord {l : List Five} : ∀ {s t : State} {e h : List Nat}, s.Good → Ords s e h → run s l = some t → ∃ e' h', Ords t e' h' ∧ Kept s.n e e' ∧ Kept s.n h h' := by
  induction l with
  | nil => intro s t e h hg ho hr; injection hr with hr; subst hr; exact ⟨e, h, ho, Kept.refl _ _, Kept.refl _ _⟩
  | cons f r ih =>
    intro s t e h hg ho hr
    rw [run_cons] at hr
    split at hr
    · rename_i hk
      obtain ⟨e1, h1, o1, k1, k2⟩ := ord_step hg ho f.1
      obtain ⟨e2, h2, o2, k3, k4⟩ := ih (hg.turn hk) o1 hr
      have := (turn_n s f.1).2
      exact ⟨e2, h2, o2, k1.trans k3 this, k2.trans k4 this⟩
    · cases hr

/-- the stack in the English list: a child's strands, and its join, stand ahead of what goes on beside it -/
def Stk (e : List Nat) : List (Nat × Nat) → Prop
  | [] => True
  | t :: r => (t.2 ≠ 0 → e.idxOf t.1 < e.idxOf t.2) ∧ (∀ u r', r = u :: r' → e.idxOf t.1 < e.idxOf u.1 ∧ (t.2 ≠ 0 → e.idxOf t.2 < e.idxOf u.1)) ∧ Stk e r
theorem Stk.kept {e e' : List Nat} {n : Nat} (hk : Kept n e e') : ∀ {l : List (Nat × Nat)}, (∀ t ∈ l, t.1 < n ∧ t.2 < n) → Stk e l → Stk e' l := by
  intro l
  induction l with
  | nil => intro _ _; trivial
  | cons t r ih =>
    intro hl h
    have ht := hl t (by simp)
    refine ⟨fun hj => (hk _ _ ht.1 ht.2).2 (h.1 hj), fun u r' hr => ?_, ih (fun u hu => hl u (by simp [hu])) h.2.2⟩
    have hu := hl u (by rw [hr]; simp)
    have := h.2.1 u r' hr
    exact ⟨(hk _ _ ht.1 hu.1).2 this.1, fun hj => (hk _ _ ht.2 hu.1).2 (this.2 hj)⟩

/-- which strand begins at a split -/
def nx (f : Five) : Int := if f.1 = 1 then f.2.2.1 else f.2.2.2.2
def atNext (a : Nat) (f : Five) : Nat := if f.1 = 2 then a else (nx f).toNat
def serial (a : Nat) (l : List Five) : Nat := l.foldl atNext a

structure SInv (s : State) (e h : List Nat) (a : Nat) : Prop where
  good : s.Good
  ord : Ords s e h
  lt : a < s.n
  le : e.idxOf a ≤ e.idxOf s.last.1
  stk : Stk e s.stk
theorem init_sinv : SInv init [0] [0] 0 := ⟨init_good, init_ord, by decide, by decide, by simp [init, State.stk, Stk]⟩
theorem stk_mem {s : State} (hg : s.Good) : ∀ t ∈ s.stk, t.1 < s.n ∧ t.2 < s.n := fun t ht => hg.ts t (by simpa [State.stk] using ht)
theorem sinv_step {s : State} {e h : List Nat} {a : Nat} (I : SInv s e h a) {f : Five} (hk : s.ok f) :
    ∃ e' h', SInv (s.turn f.1) e' h' (atNext a f) ∧ Kept s.n e e' ∧ Kept s.n h h' ∧ (f.1 ≠ 2 → nx f = (atNext a f : Int) ∧ e'.idxOf a < e'.idxOf (atNext a f)) := by
  obtain ⟨t, r, hs⟩ := stk_pos I.good
  have hm := stk_mem I.good
  obtain ⟨hlast, hts⟩ := stk_last hs
  have hgood := I.good.turn hk
  have hS := I.stk
  have hle := I.le
  rw [hs] at hS hm
  rw [hlast] at hle
  have ht := hm t (by simp)
  have hstk := turn_stk hs f.1
  have hn := turn_n1 hs f.1
  rcases ok_cases hs hk with hf | ⟨h0, u, r', hr, hf⟩ | ⟨h0, hf⟩
  · have k1 : f.1 = 1 := by rw [hf]
    have ea : atNext a f = s.n := by unfold atNext nx; rw [hf]; simp
    have en : nx f = (s.n : Int) := by unfold nx; rw [hf]; simp
    rw [ea]
    rw [k1, if_pos rfl] at hstk hn
    rw [k1] at hgood ⊢
    have hlast2 := (stk_last hstk).1
    by_cases hj : t.2 = 0
    · rw [if_pos hj] at hstk hn
      obtain ⟨e', h', o', m1, m2, p1, p2, p3, _⟩ := ord_fork I.good I.ord (by rw [hlast]; exact hj)
      rw [hlast] at m1 m2 p1 p2 p3
      have K1 := moved_kept m1
      refine ⟨e', h', ⟨hgood, o', by omega, by rw [hlast2]; exact Nat.le_refl _, ?_⟩, K1, moved_kept m2, fun _ => ⟨en, ?_⟩⟩
      · rw [hstk]
        refine ⟨fun h => absurd rfl h, fun u r' hr => ?_, fun _ => ?_, fun u r' hr => ?_, Stk.kept K1 (fun u hu => hm u (by simp [hu])) hS.2.2⟩
        · injection hr with hr; subst hr; exact ⟨by show e'.idxOf s.n < e'.idxOf (s.n + 1); omega, fun h => absurd rfl h⟩
        · show e'.idxOf (s.n + 1) < e'.idxOf (s.n + 2); omega
        · have hu := hm u (by rw [hr]; simp)
          have q1 := (hS.2.1 u r' hr).1
          have q2 := m1 u.1 hu.1
          rw [if_neg (by omega)] at q2
          exact ⟨by show e'.idxOf (s.n + 1) < _; omega, fun _ => by show e'.idxOf (s.n + 2) < _; omega⟩
      · rw [m1 a I.lt, if_pos hle]; omega
    · rw [if_neg hj] at hstk hn
      obtain ⟨e', h', o', m1, m2, p1, p2, _⟩ := ord_more I.good I.ord (by rw [hlast]; exact hj)
      rw [hlast] at m1 m2 p1 p2
      have K1 := moved_kept m1
      refine ⟨e', h', ⟨hgood, o', by omega, by rw [hlast2]; exact Nat.le_refl _, ?_⟩, K1, moved_kept m2, fun _ => ⟨en, ?_⟩⟩
      · rw [hstk]
        refine ⟨fun h => absurd rfl h, fun u r' hr => ?_, fun _ => ?_, fun u r' hr => ?_, Stk.kept K1 (fun u hu => hm u (by simp [hu])) hS.2.2⟩
        · injection hr with hr; subst hr; exact ⟨by show e'.idxOf s.n < e'.idxOf (s.n + 1); omega, fun h => absurd rfl h⟩
        · have q1 := hS.1 hj
          have q2 := m1 t.2 ht.2
          rw [if_neg (by omega)] at q2
          show e'.idxOf (s.n + 1) < e'.idxOf t.2; omega
        · have hu := hm u (by rw [hr]; simp)
          have q1 := (hS.2.1 u r' hr)
          have q3 := q1.2 hj
          have q2 := m1 u.1 hu.1
          rw [if_neg (by omega)] at q2
          have q4 := m1 t.2 ht.2
          refine ⟨by show e'.idxOf (s.n + 1) < _; omega, fun _ => ?_⟩
          show e'.idxOf t.2 < e'.idxOf u.1
          rw [q2, q4]
          split <;> omega
      · rw [m1 a I.lt, if_pos hle]; omega
  · have k2 : f.1 = 2 := by rw [hf]
    have ea : atNext a f = a := by unfold atNext; rw [if_pos k2]
    rw [ea]
    rw [k2] at hstk hn hgood ⊢
    rw [if_neg (by decide), if_pos rfl] at hstk
    rw [if_neg (by decide)] at hn
    obtain ⟨o', _⟩ := ord_else I.ord (k := 2) (by decide)
    rw [hr] at hstk
    have hlast2 := (stk_last hstk).1
    refine ⟨e, h, ⟨hgood, o', by rw [hn]; exact I.lt, ?_, ?_⟩, Kept.refl _ _, Kept.refl _ _, fun h => absurd rfl h⟩
    · rw [hlast2]
      have := (hS.2.1 u r' hr).1
      omega
    · rw [hstk, ← hr]; exact hS.2.2
  · have k3 : f.1 = 3 := by rw [hf]
    have ea : atNext a f = t.2 := by unfold atNext nx; rw [hf]; simp
    have en : nx f = (t.2 : Int) := by unfold nx; rw [hf]; simp
    rw [ea]
    rw [k3] at hstk hn hgood ⊢
    rw [if_neg (by decide), if_neg (by decide)] at hstk
    rw [if_neg (by decide)] at hn
    obtain ⟨o', _⟩ := ord_else I.ord (k := 3) (by decide)
    have hlast2 := (stk_last hstk).1
    have q1 := hS.1 h0
    refine ⟨e, h, ⟨hgood, o', by rw [hn]; exact ht.2, by rw [hlast2]; exact Nat.le_refl _, ?_⟩, Kept.refl _ _, Kept.refl _ _, fun _ => ⟨en, by omega⟩⟩
    rw [hstk]
    exact ⟨fun h => absurd rfl h, fun u r' hr => ⟨(hS.2.1 u r' hr).2 h0, fun h => absurd rfl h⟩, hS.2.2⟩

theorem serial_all {l : List Five} : ∀ {s t : State} {e h : List Nat} {a : Nat}, SInv s e h a → run s l = some t →
    ∃ e' h', Ords t e' h' ∧ Kept s.n e e' ∧ ∀ k (hk : k < l.length), l[k].1 ≠ 2 → nx l[k] = (atNext (serial a (l.take k)) l[k] : Int) ∧ atNext (serial a (l.take k)) l[k] < t.n ∧ serial a (l.take k) < t.n ∧
      e'.idxOf (serial a (l.take k)) < e'.idxOf (atNext (serial a (l.take k)) l[k]) := by
  induction l with
  | nil => intro s t e h a I hr; injection hr with hr; subst hr; exact ⟨e, h, I.ord, Kept.refl _ _, fun k hk => by simp at hk⟩
  | cons f r ih =>
    intro s t e h a I hr
    rw [run_cons] at hr
    split at hr
    · rename_i hk
      obtain ⟨e1, h1, I1, k1, _, q⟩ := sinv_step I hk
      obtain ⟨e2, h2, o2, k2, q2⟩ := ih I1 hr
      have hn1 := (turn_n s f.1).2
      have hn2 := (run_n hr).2
      refine ⟨e2, h2, o2, k1.trans k2 hn1, fun k hkl hne => ?_⟩
      cases k with
      | zero =>
        have hq := q hne
        have h3 := I1.lt
        have h4 := I.lt
        refine ⟨hq.1, ?_, ?_, ?_⟩
        · show atNext a f < t.n; omega
        · show a < t.n; omega
        · show e2.idxOf a < e2.idxOf (atNext a f)
          exact (k2 a _ (by omega) h3).2 hq.2
      | succ k => exact q2 k (by simpa using hkl) hne
    · cases hr
end Go.Proofs.Ytahhihhfjimppaa.S
/- SpSerial walked -/
namespace Go.Proofs.Ytahhihhfjimppaa
open Go.RowKit
set_option linter.unusedSimpArgs false
set_option linter.unusedVariables false
set_option maxRecDepth 100000

theorem serial_take {l : List S.Five} {k : Nat} (hk : k < l.length) : S.serial 0 (l.take (k + 1)) = S.atNext (S.serial 0 (l.take k)) l[k] := by
  unfold S.serial
  rw [List.take_succ_eq_append_getElem hk, List.foldl_append]
  rfl
/-- the two cells of a place -/
theorem Rd.pair {w : World} {B : Nat} {A : Option Addr} {P : List (Nat × Nat)} (h : Rd w B A (tcs P)) {k : Nat} (hk : k < P.length) : ∃ b off, A = some ⟨b, off, none⟩ ∧ b < B ∧ w.cell? ⟨b, off + k * 2, none⟩ = some (.int .i64 ((P[k].1 : Nat) : Int)) ∧ w.cell? ⟨b, off + k * 2 + 1, none⟩ = some (.int .i64 ((P[k].2 : Nat) : Int)) := by
  obtain ⟨p0, p1⟩ := tcs_at P k hk
  obtain ⟨b1, o1, rfl, hb1, c0⟩ := h.at_ p0
  obtain ⟨_, _, eA, _, c1⟩ := h.at_ p1
  injection eA with eA; injection eA with e1 e2; subst e1 e2
  rw [← Nat.add_assoc] at c1
  exact ⟨b1, o1, rfl, hb1, c0, c1⟩
theorem Rd.five {w : World} {B : Nat} {A : Option Addr} {l : List S.Five} (h : Rd w B A (fcs l)) {k : Nat} (hk : k < l.length) : ∃ b off, A = some ⟨b, off, none⟩ ∧ b < B ∧ w.cell? ⟨b, off + k * 5, none⟩ = some (.int .i64 l[k].1) ∧ w.cell? ⟨b, off + k * 5 + 1, none⟩ = some (.int .i64 l[k].2.1) ∧
    w.cell? ⟨b, off + k * 5 + 2, none⟩ = some (.int .i64 l[k].2.2.1) ∧ w.cell? ⟨b, off + k * 5 + 3, none⟩ = some (.int .i64 l[k].2.2.2.1) ∧ w.cell? ⟨b, off + k * 5 + 4, none⟩ = some (.int .i64 l[k].2.2.2.2) := by
  obtain ⟨p0, p1, p2, p3, p4⟩ := fcs_at l k hk
  obtain ⟨b1, o1, rfl, hb1, c0⟩ := h.at_ p0
  obtain ⟨_, _, eA, _, c1⟩ := h.at_ p1
  injection eA with eA; injection eA with e1 e2; subst e1 e2
  obtain ⟨_, _, eA, _, c2⟩ := h.at_ p2
  injection eA with eA; injection eA with e1 e2; subst e1 e2
  obtain ⟨_, _, eA, _, c3⟩ := h.at_ p3
  injection eA with eA; injection eA with e1 e2; subst e1 e2
  obtain ⟨_, _, eA, _, c4⟩ := h.at_ p4
  injection eA with eA; injection eA with e1 e2; subst e1 e2
  rw [← Nat.add_assoc] at c1 c2 c3 c4
  exact ⟨b1, o1, rfl, hb1, c0, c1, c2, c3, c4⟩

end Go.Proofs.Ytahhihhfjimppaa
