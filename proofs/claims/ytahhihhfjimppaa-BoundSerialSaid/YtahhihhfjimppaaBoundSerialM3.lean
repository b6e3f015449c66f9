/- Texts for the law BoundSerial, part 3: no statement of its own, lemmas for the proof; their conditions stand in them. -/
import Derived.Test.YtahhihhfjimppaaBoundSerialM2
import Derived.Deep.Cut
import Derived.BigQuiet
/- walks: the document's May -/
namespace Go.Proofs.Ytahhihhfjimppaa
open Go.RowKit
set_option linter.unusedSimpArgs false
set_option linter.unusedVariables false
set_option maxRecDepth 100000

namespace S
theorem ok_inv {s : State} {f : Five} (h : s.ok f) : f = (1, (s.last.1 : Int), (s.n : Int), (s.n : Int) + 1, if s.last.2 = 0 then (s.n : Int) + 2 else (s.last.2 : Int)) ∨
    (2 ≤ s.ts.length ∧ s.last.2 = 0 ∧ f = (2, (s.last.1 : Int), 0, 0, ((s.ts.getD (s.ts.length - 2) (0, 0)).2 : Int))) ∨ (s.last.2 ≠ 0 ∧ f = (3, (s.last.1 : Int), 0, 0, (s.last.2 : Int))) := by
  obtain ⟨h1, h2⟩ := h
  unfold may at h1 h2
  dsimp only at h1 h2
  by_cases k1 : f.1 = 1
  · rw [if_pos k1] at h2
    exact .inl h2
  · rw [if_neg k1] at h1 h2
    by_cases k2 : f.1 = 2
    · rw [if_pos k2] at h1 h2
      split at h1
      · cases h1
      · rename_i hc
        rw [if_neg hc] at h2
        simp only [not_or, Nat.not_lt, Decidable.not_not] at hc
        exact .inr (.inl ⟨hc.1, hc.2, h2⟩)
    · rw [if_neg k2] at h1 h2
      by_cases k3 : f.1 = 3
      · rw [if_pos k3] at h1 h2
        exact .inr (.inr ⟨by simpa [State.last] using h1, h2⟩)
      · rw [if_neg k3] at h1
        cases h1
theorem ok_fork {s : State} {f : Five} (h : f = (1, (s.last.1 : Int), (s.n : Int), (s.n : Int) + 1, if s.last.2 = 0 then (s.n : Int) + 2 else (s.last.2 : Int))) : s.ok f := by
  subst h
  refine ⟨?_, ?_⟩ <;> unfold may <;> dsimp only <;> rw [if_pos rfl]
  rfl
theorem ok_end {s : State} {f : Five} (h2 : 2 ≤ s.ts.length) (h0 : s.last.2 = 0) (h : f = (2, (s.last.1 : Int), 0, 0, ((s.ts.getD (s.ts.length - 2) (0, 0)).2 : Int))) : s.ok f := by
  subst h
  have hc : ¬ (s.ts.length < 2 ∨ (s.ts.getD (s.ts.length - 1) (0, 0)).2 ≠ 0) := by
    unfold State.last at h0
    omega
  refine ⟨?_, ?_⟩ <;> unfold may <;> dsimp only <;> rw [if_neg (by decide), if_pos rfl, if_neg hc]
  rfl
theorem ok_join {s : State} {f : Five} (h0 : s.last.2 ≠ 0) (h : f = (3, (s.last.1 : Int), 0, 0, (s.last.2 : Int))) : s.ok f := by
  subst h
  refine ⟨?_, ?_⟩ <;> unfold may <;> dsimp only <;> rw [if_neg (by decide), if_neg (by decide), if_pos rfl]
  · simpa [State.last] using h0
  · rfl
theorem run_drop {l : List Five} {k : Nat} (hk : k < l.length) (s : State) : run s (l.drop k) = if s.ok l[k] then run (s.turn l[k].1) (l.drop (k + 1)) else none := by
  rw [List.drop_eq_getElem_cons hk, run_cons]
end S

def S.mayN (l : List S.Five) : Int := match S.run S.init l with
  | none => -1
  | some s => (s.n : Int)
/-- the two rows of May -/
structure MayI (w wr : World) (s : S.State) (gS cS gJ cJ : Nat) : Prop where
  rs : Own wr 3 1 gS s.ts.length cS (ns (s.ts.map Prod.fst))
  rj : Own wr 3 1 gJ s.ts.length cJ (ns (s.ts.map Prod.snd))
  ne : gS ≠ gJ
  new : w.heap.size ≤ gS ∧ w.heap.size ≤ gJ
  below : Below w.heap.size w wr
section
variable {w wr : World} {s : S.State} {gS cS gJ cJ : Nat}
theorem MayI.on {w' : World} (I : MayI w wr s gS cS gJ cJ) (hb : Below wr.heap.size wr w') : MayI w w' s gS cS gJ cJ := by
  have hf := Fr.of_below hb (fun _ => False)
  exact ⟨I.rs.fr hf (fun h => h), I.rj.fr hf (fun h => h), I.ne, I.new, I.below.trans (hb.mono I.below.size)⟩
theorem last_at (hm : 0 < s.ts.length) : s.ts[s.ts.length - 1]'(by omega) = s.last := by
  unfold S.State.last
  rw [List.getD_eq_getElem?_getD, List.getElem?_eq_getElem (by omega)]; rfl
theorem MayI.top (I : MayI w wr s gS cS gJ cJ) {m : Nat} (hm : s.ts.length = m + 1) : wr.cell? ⟨gS, m, none⟩ = some (.int .i64 ((s.last.1 : Nat) : Int)) ∧ wr.cell? ⟨gJ, m, none⟩ = some (.int .i64 ((s.last.2 : Nat) : Int)) := by
  have hl := last_at (s := s) (by omega)
  have h1 := I.rs.cell m (by omega)
  have h2 := I.rj.cell m (by omega)
  rw [ns_at _ m (by simp; omega)] at h1 h2
  simp only [List.getElem_map] at h1 h2
  have e : s.ts[m]'(by omega) = s.last := by rw [← hl]; congr 1; omega
  rw [e] at h1 h2
  exact ⟨h1, h2⟩
end

theorem mayN_no {l : List S.Five} {k : Nat} {s : S.State} {f : S.Five} (h1 : S.run S.init l = S.run s (l.drop k)) (h2 : S.run s (l.drop k) = if s.ok f then S.run (s.turn f.1) (l.drop (k + 1)) else none) (hno : ¬ s.ok f) : S.mayN l = -1 := by
  unfold S.mayN
  rw [h1, h2, if_neg hno]
theorem bel_new (w : World) (o : Obj) : Below w.heap.size w (w.alloc o) := (Below.refl _ _).alloc (Nat.le_refl _) o

/-- two rows of numbers of the call's own -/
structure Two (w wr : World) (a b : List Nat) (gS cS gJ cJ : Nat) : Prop where
  rs : Own wr 3 1 gS a.length cS (ns a)
  rj : Own wr 3 1 gJ b.length cJ (ns b)
  ne : gS ≠ gJ
  new : w.heap.size ≤ gS ∧ w.heap.size ≤ gJ
  below : Below w.heap.size w wr
section
variable {w wr : World} {a b : List Nat} {gS cS gJ cJ : Nat}
theorem Two.setS (I : Two w wr a b gS cS gJ cJ) (m x : Nat) : Two w (wr.setCell ⟨gS, m, none⟩ (.int .i64 (x : Int))) (a.set m x) b gS cS gJ cJ := by
  refine ⟨?_, I.rj.far (p := ⟨gS, m, none⟩) I.ne _, I.ne, I.new, I.below.setCell (by exact I.new.1) _⟩
  rw [List.length_set, ← ns_set]
  exact I.rs.set m _
theorem Two.setJ (I : Two w wr a b gS cS gJ cJ) (m x : Nat) : Two w (wr.setCell ⟨gJ, m, none⟩ (.int .i64 (x : Int))) a (b.set m x) gS cS gJ cJ := by
  refine ⟨I.rs.far (p := ⟨gJ, m, none⟩) I.ne.symm _, ?_, I.ne, I.new, I.below.setCell (by exact I.new.2) _⟩
  rw [List.length_set, ← ns_set]
  exact I.rj.set m _
theorem Two.pushS (I : Two w wr a b gS cS gJ cJ) {x n : Nat} {v3 : Value} {w3 : World} (o : Obj) (hn : a.length = n) (ho : w3.ownsRow 0 3 1 v3 (n + 1) (ns a ++ [.int .i64 (x : Int)])) (hg : (wr.alloc o).grownBy w3 (Value.ownBlock (.slice (some ⟨gS, 0, none⟩) n cS))) (hat : v3.ownBlock = Value.ownBlock (.slice (some ⟨gS, 0, none⟩) n cS) ∨ v3.ownBlock = some (wr.heap.size + 1)) :
    ∃ g3 c3, v3 = .slice (some ⟨g3, 0, none⟩) (n + 1) c3 ∧ Two w w3 (a ++ [x]) b g3 c3 gJ cJ := by
  obtain ⟨g3, c3, rfl, own3⟩ := own_of ho (by omega)
  have hj := I.rj.lt
  have hs := I.below.size
  have hnew := I.new
  have hne := I.ne
  have hfr : Fr (fun k => k = gS) wr w3 := ((Fr.refl _ wr).alloc o).grown hg (fun k hk => by simp [Value.ownBlock] at hk; exact .inl hk.symm)
  have hb3 : Below w.heap.size w w3 := I.below.trans (hfr.below hs (fun k hk => by rw [hk]; exact hnew.1))
  have h3 : g3 = gS ∨ g3 = wr.heap.size + 1 := by simpa [Value.ownBlock] using hat
  refine ⟨g3, c3, rfl, ?_, I.rj.fr hfr (fun h => hne h.symm), by omega, by omega, hb3⟩
  rw [List.length_append, hn, ns_append]
  exact own3
theorem Two.pushJ (I : Two w wr a b gS cS gJ cJ) {x n : Nat} {v3 : Value} {w3 : World} (o : Obj) (hn : b.length = n) (ho : w3.ownsRow 0 3 1 v3 (n + 1) (ns b ++ [.int .i64 (x : Int)])) (hg : (wr.alloc o).grownBy w3 (Value.ownBlock (.slice (some ⟨gJ, 0, none⟩) n cJ))) (hat : v3.ownBlock = Value.ownBlock (.slice (some ⟨gJ, 0, none⟩) n cJ) ∨ v3.ownBlock = some (wr.heap.size + 1)) :
    ∃ g3 c3, v3 = .slice (some ⟨g3, 0, none⟩) (n + 1) c3 ∧ Two w w3 a (b ++ [x]) gS cS g3 c3 := by
  obtain ⟨g3, c3, rfl, own3⟩ := own_of ho (by omega)
  have hj := I.rs.lt
  have hs := I.below.size
  have hnew := I.new
  have hne := I.ne
  have hfr : Fr (fun k => k = gJ) wr w3 := ((Fr.refl _ wr).alloc o).grown hg (fun k hk => by simp [Value.ownBlock] at hk; exact .inl hk.symm)
  have hb3 : Below w.heap.size w w3 := I.below.trans (hfr.below hs (fun k hk => by rw [hk]; exact hnew.2))
  have h3 : g3 = gJ ∨ g3 = wr.heap.size + 1 := by simpa [Value.ownBlock] using hat
  refine ⟨g3, c3, rfl, I.rs.fr hfr hne, ?_, by omega, by omega, hb3⟩
  rw [List.length_append, hn, ns_append]
  exact own3
end
theorem Two.take {w wr : World} {a b : List Nat} {gS cS gJ cJ : Nat} (I : Two w wr a b gS cS gJ cJ) {m : Nat} (ha : m ≤ a.length) (hb : m ≤ b.length) : Two w wr (a.take m) (b.take m) gS cS gJ cJ := by
  refine ⟨?_, ?_, I.ne, I.new, I.below⟩
  · have := I.rs.take (m := m) (by omega)
    rw [Nat.mul_one] at this
    rw [List.length_take, Nat.min_eq_left ha]
    simpa [ns, List.map_take] using this
  · have := I.rj.take (m := m) (by omega)
    rw [Nat.mul_one] at this
    rw [List.length_take, Nat.min_eq_left hb]
    simpa [ns, List.map_take] using this
theorem Two.on {w wr w' : World} {a b : List Nat} {gS cS gJ cJ : Nat} (I : Two w wr a b gS cS gJ cJ) (hb : Below wr.heap.size wr w') : Two w w' a b gS cS gJ cJ := by
  have hf := Fr.of_below hb (fun _ => False)
  exact ⟨I.rs.fr hf (fun h => h), I.rj.fr hf (fun h => h), I.ne, I.new, I.below.trans (hb.mono I.below.size)⟩
theorem MayI.pen {w wr : World} {s : S.State} {gS cS gJ cJ : Nat} (I : MayI w wr s gS cS gJ cJ) {m : Nat} (hm : s.ts.length = m + 1) (h1 : 1 ≤ m) : wr.cell? ⟨gJ, m - 1, none⟩ = some (.int .i64 (((s.ts.getD (s.ts.length - 2) (0, 0)).2 : Nat) : Int)) := by
  have h2 := I.rj.cell (m - 1) (by omega)
  rw [ns_at _ (m - 1) (by simp; omega)] at h2
  simp only [List.getElem_map] at h2
  have e : s.ts.getD (s.ts.length - 2) (0, 0) = s.ts[m - 1]'(by omega) := by
    rw [List.getD_eq_getElem?_getD, List.getElem?_eq_getElem (by omega)]
    show s.ts[s.ts.length - 2]'(by omega) = _
    congr 1; omega
  rw [e]
  exact h2
theorem MayI.two {w wr : World} {s : S.State} {gS cS gJ cJ : Nat} (I : MayI w wr s gS cS gJ cJ) : Two w wr (s.ts.map Prod.fst) (s.ts.map Prod.snd) gS cS gJ cJ :=
  ⟨by rw [List.length_map]; exact I.rs, by rw [List.length_map]; exact I.rj, I.ne, I.new, I.below⟩
theorem Two.may {w wr : World} {s : S.State} {a b : List Nat} {gS cS gJ cJ : Nat} (I : Two w wr a b gS cS gJ cJ) (ha : a = s.ts.map Prod.fst) (hb : b = s.ts.map Prod.snd) : MayI w wr s gS cS gJ cJ := by
  subst ha hb
  obtain ⟨h1, h2, h3, h4, h5⟩ := I
  rw [List.length_map] at h1 h2
  exact ⟨h1, h2, h3, h4, h5⟩
theorem may_on {l : List S.Five} {k : Nat} {s : S.State} {f : S.Five} (h1 : S.run S.init l = S.run s (l.drop k)) (h2 : S.run s (l.drop k) = if s.ok f then S.run (s.turn f.1) (l.drop (k + 1)) else none) (hok : s.ok f) : S.run S.init l = S.run (s.turn f.1) (l.drop (k + 1)) := by
  rw [h1, h2, if_pos hok]
theorem turn_fork0 {s : S.State} {m : Nat} (hm : s.ts.length = m + 1) (h : s.last.2 = 0) : (s.turn 1).ts = s.ts.set m (s.n + 1, s.n + 2) ++ [(s.n, 0)] ∧ (s.turn 1).n = s.n + 3 := by
  unfold S.State.turn
  rw [if_pos rfl, if_pos h, hm]; exact ⟨rfl, rfl⟩
theorem turn_fork1 {s : S.State} {m : Nat} (hm : s.ts.length = m + 1) (h : s.last.2 ≠ 0) : (s.turn 1).ts = s.ts.set m (s.n + 1, s.last.2) ++ [(s.n, 0)] ∧ (s.turn 1).n = s.n + 2 := by
  unfold S.State.turn
  rw [if_pos rfl, if_neg h, hm]; exact ⟨rfl, rfl⟩
theorem turn_end2 {s : S.State} {m : Nat} (hm : s.ts.length = m + 1) : (s.turn 2).ts = s.ts.take m ∧ (s.turn 2).n = s.n := by
  unfold S.State.turn
  rw [if_neg (by decide), if_pos rfl, hm]; exact ⟨rfl, rfl⟩
theorem turn_join3 {s : S.State} {m : Nat} (hm : s.ts.length = m + 1) : (s.turn 3).ts = s.ts.set m (s.last.2, 0) ∧ (s.turn 3).n = s.n := by
  unfold S.State.turn
  rw [if_neg (by decide), if_neg (by decide), hm]; exact ⟨rfl, rfl⟩
theorem snd_last {s : S.State} {m : Nat} (hm : s.ts.length = m + 1) : s.ts.map Prod.snd = (s.ts.map Prod.snd).set m s.last.2 := by
  have hl := last_at (s := s) (by omega)
  have e : s.last.2 = (s.ts.map Prod.snd)[m]'(by simp; omega) := by
    rw [List.getElem_map, ← hl]
    congr 2; omega
  rw [e, List.set_getElem_self]
/-- the end of a round of May -/
theorem may_rel {w wr : World} {l : List S.Five} {k gS cS gJ cJ : Nat} {s s2 : S.State} {f : S.Five} {a b : List Nat} (hg : s.Good) (hok : s.ok f) (hs2 : s2 = s.turn f.1) (hn : s.n ≤ 1 + 3 * k) (ht : s.ts.length ≤ 1 + k) (h1 : S.run S.init l = S.run s (l.drop k)) (h2 : S.run s (l.drop k) = if s.ok f then S.run (s.turn f.1) (l.drop (k + 1)) else none)
    (I : Two w wr a b gS cS gJ cJ) (ha : a = s2.ts.map Prod.fst) (hb : b = s2.ts.map Prod.snd) :
    MayI w wr s2 gS cS gJ cJ ∧ s2.Good ∧ s2.n ≤ 1 + 3 * (k + 1) ∧ s2.ts.length ≤ 1 + (k + 1) ∧ Hid (S.run S.init l = S.run s2 (l.drop (k + 1))) := by
  have e1 := S.turn_n s f.1
  have e2 := S.turn_ts s f.1
  subst hs2
  exact ⟨I.may ha hb, hg.turn hok, by omega, by omega, Lib.hid (may_on h1 h2 hok)⟩

set_option maxHeartbeats 4000000 in
theorem rmay_any (l : List S.Five) (A : Option Addr) (c : Nat) (w : World) (hr : Rd w w.heap.size A (fcs l)) (hl : l.length ≤ 60) :
    Calls Try.prog 17 #[.slice A l.length c] w (fun e w' => e = .returned (.int .i64 (S.mayN l)) ∧ Below w.heap.size w w') := by
  obtain ⟨i0, hi, hz0, hz1, hz2⟩ := info_parts info_int
  go_enter Try.func17, Try.ntmps17
  go_wp2_with fail
  have I0 : MayI w ((w.alloc (.cells #[.int .i64 0] 3)).alloc (.cells #[.int .i64 0] 3)) S.init w.heap.size 1 (w.heap.size + 1) 1 := by
    have s1 : (w.alloc (.cells #[.int .i64 0] 3)).heap.size = w.heap.size + 1 := by simp
    have o1 : Own (w.alloc (.cells #[.int .i64 0] 3)) 3 1 w.heap.size 1 1 [.int .i64 0] := Own.new w 3 1 1 #[.int .i64 0] (by omega) rfl
    have o2 : Own ((w.alloc (.cells #[.int .i64 0] 3)).alloc (.cells #[.int .i64 0] 3)) 3 1 (w.heap.size + 1) 1 1 [.int .i64 0] := by rw [← s1]; exact Own.new _ 3 1 1 #[.int .i64 0] (by omega) rfl
    exact ⟨o1.alloc _, o2, by omega, ⟨by omega, by omega⟩, ((Below.refl _ _).alloc (Nat.le_refl _) _).alloc (by rw [s1]; omega) _⟩
  go_loopg [3, 4, 5, 6] l.length (fun gk sv jv nv ii wr => ∃ (k gS cS gJ cJ : Nat) (s : S.State), k + gk = l.length ∧ sv = .slice (some ⟨gS, 0, none⟩) s.ts.length cS ∧ jv = .slice (some ⟨gJ, 0, none⟩) s.ts.length cJ ∧ nv = .int .i64 (s.n : Int) ∧ ii = .int .i64 k ∧ MayI w wr s gS cS gJ cJ ∧ s.Good ∧ s.n ≤ 1 + 3 * k ∧ s.ts.length ≤ 1 + k ∧ Hid (S.run S.init l = S.run s (l.drop k)))
  case atStart => exact ⟨0, _, _, _, _, S.init, by omega, rfl, rfl, rfl, rfl, I0, S.init_good, by decide, by decide, Lib.hid rfl⟩
  case round =>
    obtain ⟨k, gS, cS, gJ, cJ, s, hk, rfl, rfl, rfl, rfl, I, hg, hn, ht, HR⟩ := hrel
    clear I0
    have HK := Lib.hid hk
    have hpos := hg.pos
    have HG := Lib.hid hg
    obtain ⟨m, hm⟩ : ∃ m, s.ts.length = m + 1 := ⟨s.ts.length - 1, by omega⟩
    have HM := Lib.hid hm
    rw [hm]
    by_cases hlt : k < l.length
    · clear hk
      have hltI : (k : Int) < (l.length : Int) := by omega
      have hrw := hr.below I.below
      obtain ⟨bA, oA, rfl, hbA, f0, f1, f2, f3, f4⟩ := hrw.five hlt
      have hbA2 : bA < wr.heap.size := Nat.lt_of_lt_of_le hbA I.below.size
      have HRD := Lib.hid (S.run_drop hlt s)
      clear hrw
      generalize l[k] = f at *
      obtain ⟨x0, x1, x2, x3, x4⟩ := f
      simp only at f0 f1 f2 f3 f4
      have hm9 : m ≤ 60 := by omega
      have hn9 : s.n ≤ 190 := by omega
      go_upto_region 9 with (fail)
      have I1 := I.on (bel_new wr (.cells #[.int .i64 x0, .int .i64 x1, .int .i64 x2, .int .i64 x3, .int .i64 x4] 59))
      have bk1 := Blk.new wr 59 #[.int .i64 x0, .int .i64 x1, .int .i64 x2, .int .i64 x3, .int .i64 x4]
      have hgS : gS < wr.heap.size := I.rs.lt
      have hgJ : gJ < wr.heap.size := I.rj.lt
      clear I f0 f1 f2 f3 f4
      generalize wr.alloc (.cells #[.int .i64 x0, .int .i64 x1, .int .i64 x2, .int .i64 x3, .int .i64 x4] 59) = w1 at *
      generalize wr.heap.size = gB at *
      have b0 := bk1.cell 0
      have b1 := bk1.cell 1
      have b2 := bk1.cell 2
      have b3 := bk1.cell 3
      have b4 := bk1.cell 4
      simp only [List.getElem?_toArray, List.getElem?_cons_succ, List.getElem?_cons_zero] at b0 b1 b2 b3 b4
      obtain ⟨cs, cj⟩ := I1.top hm
      have HL : Hid (s.last = s.last) := Lib.hid rfl
      have hmI : (m : Int) < (m : Int) + 1 := by omega
      clear hm
      by_cases hA : x1 = (s.last.1 : Int)
      · subst hA
        have qA : ((s.last.1 : Int) != (s.last.1 : Int)) = false := by simp
        go_region
        have I2 := I1.on (Below.refl _ _).drew
        have bk2 := bk1.drew
        clear I1 bk1 b0 b1 b2 b3 b4 cs cj qA
        generalize w1.drew = w2 at *
        have b0 := bk2.cell 0
        have b1 := bk2.cell 1
        have b2 := bk2.cell 2
        have b3 := bk2.cell 3
        have b4 := bk2.cell 4
        simp only [List.getElem?_toArray, List.getElem?_cons_succ, List.getElem?_cons_zero] at b0 b1 b2 b3 b4
        obtain ⟨cs, cj⟩ := I2.top HM.out
        by_cases k1 : x0 = 1
        · subst k1
          by_cases j0 : s.last.2 = 0
          · rw [j0] at cj
            by_cases e2 : x2 = (s.n : Int)
            · by_cases e3 : x3 = (s.n : Int) + 1
              · by_cases e4 : x4 = (s.n : Int) + 2
                · subst e2 e3 e4
                  have cap1 := I2.rs.caps
                  have cap2 := I2.rj.caps
                  have fj := I2.rj.frozen m
                  have fs := I2.rs.frozen m
                  have HOK : Hid (s.ok (1, (s.last.1 : Int), (s.n : Int), (s.n : Int) + 1, (s.n : Int) + 2)) := Lib.hid (S.ok_fork (by rw [if_pos j0]))
                  have hgne := I2.ne
                  go_upto_region 23 with (fail)
                  have T3 : Two w ((w2.setCell ⟨gJ, m, none⟩ (.int .i64 ((s.n : Int) + 2))).setCell ⟨gS, m, none⟩ (.int .i64 ((s.n : Int) + 1))) _ _ gS cS gJ cJ := (I2.two.setJ m (s.n + 2)).setS m (s.n + 1)
                  have bk3 := (bk2.far (p := ⟨gJ, m, none⟩) (Nat.ne_of_gt hgJ) (.int .i64 ((s.n : Int) + 2))).far (p := ⟨gS, m, none⟩) (Nat.ne_of_gt hgS) (.int .i64 ((s.n : Int) + 1))
                  generalize (w2.setCell ⟨gJ, m, none⟩ (.int .i64 ((s.n : Int) + 2))).setCell ⟨gS, m, none⟩ (.int .i64 ((s.n : Int) + 1)) = w3 at *
                  have HLA : Hid (((s.ts.map Prod.fst).set m (s.n + 1)).length = m + 1) := Lib.hid (by rw [List.length_set, List.length_map]; exact HM.out)
                  have HLB : Hid (((s.ts.map Prod.snd).set m (s.n + 2)).length = m + 1) := Lib.hid (by rw [List.length_set, List.length_map]; exact HM.out)
                  have HS2 : Hid ((s.ts.map Prod.fst).set m (s.n + 1) ++ [s.n] = (s.turn 1).ts.map Prod.fst ∧ (s.ts.map Prod.snd).set m (s.n + 2) ++ [0] = (s.turn 1).ts.map Prod.snd ∧ (s.turn 1).n = s.n + 3 ∧ (s.turn 1).ts.length = m + 1 + 1) := Lib.hid (by
                    obtain ⟨t1, t2⟩ := turn_fork0 HM.out j0
                    rw [t1]
                    refine ⟨?_, ?_, t2, ?_⟩
                    · simp [List.map_set]
                    · simp [List.map_set]
                    · simp [HM.out])
                  generalize (s.ts.map Prod.fst).set m (s.n + 1) = la at *
                  generalize (s.ts.map Prod.snd).set m (s.n + 2) = lb at *
                  have own3 := T3.rs
                  rw [HLA.out] at own3
                  clear I2 bk2 b0 b1 b2 b3 b4 cs cj fj fs
                  have hs3 := bk3.lt
                  have z2 := bk3.at_ (i := 2) rfl
                  have wb2 := T3.below
                  go_wp2_with (at_builtin; refine wpList_append_own_at _ rfl (.tmp 92) (.tmp 95) 23 rfl 0 3 i0 _ 1 8 Try.underlying23 hi hz0 hz1 hz2 rfl (by omega) _ _ _ rfl (own3.alloc _) ⟨w3.heap.size, 0, none⟩ 1 1 [.int .i64 (s.n : Int)] rfl rfl ?c1 ?c2 ?c3 ?c4 ?c5 ?_)
                  (first | (case c1 => exact cell_one_new _ _ _) | skip)
                  (first | (case c2 => simp [Value.oneCell']) | skip)
                  (first | (case c3 => simp only [maxLen]; omega) | skip)
                  (first | (case c4 => omega) | skip)
                  (first | (case c5 => simp) | skip)
                  intro v4 w4 ho4 hg4 _ hat4
                  obtain ⟨gS2, cS2, hv4, T4⟩ := T3.pushS _ HLA.out ho4 hg4 hat4
                  subst hv4
                  have own4 := T4.rj
                  rw [HLB.out] at own4
                  have wb4 := T4.below.size
                  clear ho4 hg4 hat4 T3 bk3 z2 hs3 own3
                  go_wp2_with (at_builtin; refine wpList_append_own_at _ rfl (.tmp 97) (.tmp 98) 23 rfl 0 3 i0 _ 1 8 Try.underlying23 hi hz0 hz1 hz2 rfl (by omega) _ _ _ rfl (own4.alloc _) ⟨w4.heap.size, 0, none⟩ 1 1 [.int .i64 0] rfl rfl ?d1 ?d2 ?d3 ?d4 ?d5 ?_)
                  (first | (case d1 => exact cell_one_new _ _ _) | skip)
                  (first | (case d2 => simp [Value.oneCell']) | skip)
                  (first | (case d3 => simp only [maxLen]; omega) | skip)
                  (first | (case d4 => omega) | skip)
                  (first | (case d5 => simp) | skip)
                  intro v5 w5 ho5 hg5 _ hat5
                  obtain ⟨gJ2, cJ2, hv5, T5⟩ := T4.pushJ _ HLB.out ho5 hg5 hat5
                  subst hv5
                  clear ho5 hg5 hat5 T4 own4
                  go_wp2_with fail
                  go_roundg (gk - 1)
                  case measure => have := HK.out; omega
                  case rel =>
                    obtain ⟨h1, h2, h3, h4⟩ := HS2.out
                    obtain ⟨m1, m2, m3, m4, m5⟩ := may_rel hg HOK.out rfl hn ht HR.out HRD.out T5 h1 h2
                    exact ⟨k + 1, gS2, cS2, gJ2, cJ2, s.turn 1, by have := HK.out; omega, by rw [h4], by rw [h4], by rw [h3]; rfl, by go_num, m1, m2, m3, m4, m5⟩
                · have HN : Hid (S.mayN l = -1) := Lib.hid (mayN_no HR.out HRD.out (fun h => by rcases S.ok_inv h with h | ⟨h9, h0, h⟩ | ⟨h0, h⟩ <;> simp only [Prod.mk.injEq, j0, if_true] at h <;> omega))
                  have q2 : (x2 != (s.n : Int)) = false := by simpa using e2
                  have q3 : (x3 != (s.n : Int) + 1) = false := by simpa using e3
                  have q4 : (x4 != (s.n : Int) + 2) = true := by simpa using e4
                  clear e2 e3 e4
                  go_wp2_with fail
                  go_ret
                  exact ⟨by rw [HN.out]; rfl, I2.below⟩

              · have HN : Hid (S.mayN l = -1) := Lib.hid (mayN_no HR.out HRD.out (fun h => by rcases S.ok_inv h with h | ⟨h9, h0, h⟩ | ⟨h0, h⟩ <;> simp only [Prod.mk.injEq, j0, if_true] at h <;> omega))
                have q2 : (x2 != (s.n : Int)) = false := by simpa using e2
                have q3 : (x3 != (s.n : Int) + 1) = true := by simpa using e3
                clear e2 e3
                go_wp2_with fail
                go_ret
                exact ⟨by rw [HN.out]; rfl, I2.below⟩

            · have HN : Hid (S.mayN l = -1) := Lib.hid (mayN_no HR.out HRD.out (fun h => by rcases S.ok_inv h with h | ⟨h9, h0, h⟩ | ⟨h0, h⟩ <;> simp only [Prod.mk.injEq, j0, if_true] at h <;> omega))
              have q2 : (x2 != (s.n : Int)) = true := by simpa using e2
              clear e2
              go_wp2_with fail
              go_ret
              exact ⟨by rw [HN.out]; rfl, I2.below⟩

          · have jn : ((s.last.2 : Int) == 0) = false := beq_false_of_ne (by omega)
            have HJ := Lib.hid j0
            by_cases e2 : x2 = (s.n : Int)
            · by_cases e3 : x3 = (s.n : Int) + 1
              · by_cases e4 : x4 = (s.last.2 : Int)
                · subst e2 e3 e4
                  have cap1 := I2.rs.caps
                  have cap2 := I2.rj.caps
                  have fs := I2.rs.frozen m
                  have HOK : Hid (s.ok (1, (s.last.1 : Int), (s.n : Int), (s.n : Int) + 1, (s.last.2 : Int))) := Lib.hid (S.ok_fork (by rw [if_neg j0]))
                  have hgne := I2.ne
                  have q2 : ((s.n : Int) != (s.n : Int)) = false := by simp
                  have q3 : ((s.n : Int) + 1 != (s.n : Int) + 1) = false := by simp
                  have q4 : ((s.last.2 : Int) != (s.last.2 : Int)) = false := by simp
                  clear j0
                  go_wp2_with fail
                  go_quiet (fail)
                  have I3 := I2.on (below_drewN (Below.refl _ _) nq)
                  have bk4 := bk2.drewN nq
                  clear I2 bk2 b0 b1 b2 b3 b4 cs cj fs q2 q3 q4
                  generalize w2.drewN nq = w4 at *
                  have fs := I3.rs.frozen m
                  obtain ⟨cs, cj⟩ := I3.top HM.out
                  have b3 := bk4.cell 3
                  simp only [List.getElem?_toArray, List.getElem?_cons_succ, List.getElem?_cons_zero] at b3
                  go_upto_region 23 with (fail)
                  have T3 : Two w (w4.setCell ⟨gS, m, none⟩ (.int .i64 ((s.n : Int) + 1))) _ _ gS cS gJ cJ := I3.two.setS m (s.n + 1)
                  have bk3 := bk4.far (p := ⟨gS, m, none⟩) (Nat.ne_of_gt hgS) (.int .i64 ((s.n : Int) + 1))
                  generalize w4.setCell ⟨gS, m, none⟩ (.int .i64 ((s.n : Int) + 1)) = w3 at *
                  have HLA : Hid (((s.ts.map Prod.fst).set m (s.n + 1)).length = m + 1) := Lib.hid (by rw [List.length_set, List.length_map]; exact HM.out)
                  have HLB : Hid ((s.ts.map Prod.snd).length = m + 1) := Lib.hid (by rw [List.length_map]; exact HM.out)
                  have HS2 : Hid ((s.ts.map Prod.fst).set m (s.n + 1) ++ [s.n] = (s.turn 1).ts.map Prod.fst ∧ (s.ts.map Prod.snd) ++ [0] = (s.turn 1).ts.map Prod.snd ∧ (s.turn 1).n = s.n + 2 ∧ (s.turn 1).ts.length = m + 1 + 1) := Lib.hid (by
                    obtain ⟨t1, t2⟩ := turn_fork1 HM.out HJ.out
                    rw [t1]
                    refine ⟨?_, ?_, t2, ?_⟩
                    · simp [List.map_set]
                    · simp only [List.map_append, List.map_set, List.map_cons, List.map_nil]
                      rw [← snd_last HM.out]
                    · simp [HM.out])
                  generalize (s.ts.map Prod.fst).set m (s.n + 1) = la at *
                  generalize s.ts.map Prod.snd = lb at *
                  have own3 := T3.rs
                  rw [HLA.out] at own3
                  clear I3 bk4 b3 cs cj fs
                  have hs3 := bk3.lt
                  have z2 := bk3.at_ (i := 2) rfl
                  have wb2 := T3.below
                  go_wp2_with (at_builtin; refine wpList_append_own_at _ rfl (.tmp 92) (.tmp 95) 23 rfl 0 3 i0 _ 1 8 Try.underlying23 hi hz0 hz1 hz2 rfl (by omega) _ _ _ rfl (own3.alloc _) ⟨w3.heap.size, 0, none⟩ 1 1 [.int .i64 (s.n : Int)] rfl rfl ?k1 ?k2 ?k3 ?k4 ?k5 ?_)
                  (first | (case k1 => exact cell_one_new _ _ _) | skip)
                  (first | (case k2 => simp [Value.oneCell']) | skip)
                  (first | (case k3 => simp only [maxLen]; omega) | skip)
                  (first | (case k4 => omega) | skip)
                  (first | (case k5 => simp) | skip)
                  intro v4 w4 ho4 hg4 _ hat4
                  obtain ⟨gS2, cS2, hv4, T4⟩ := T3.pushS _ HLA.out ho4 hg4 hat4
                  subst hv4
                  have own4 := T4.rj
                  rw [HLB.out] at own4
                  have wb4 := T4.below.size
                  clear ho4 hg4 hat4 T3 bk3 z2 hs3 own3
                  go_wp2_with (at_builtin; refine wpList_append_own_at _ rfl (.tmp 97) (.tmp 98) 23 rfl 0 3 i0 _ 1 8 Try.underlying23 hi hz0 hz1 hz2 rfl (by omega) _ _ _ rfl (own4.alloc _) ⟨w4.heap.size, 0, none⟩ 1 1 [.int .i64 0] rfl rfl ?l1 ?l2 ?l3 ?l4 ?l5 ?_)
                  (first | (case l1 => exact cell_one_new _ _ _) | skip)
                  (first | (case l2 => simp [Value.oneCell']) | skip)
                  (first | (case l3 => simp only [maxLen]; omega) | skip)
                  (first | (case l4 => omega) | skip)
                  (first | (case l5 => simp) | skip)
                  intro v5 w5 ho5 hg5 _ hat5
                  obtain ⟨gJ2, cJ2, hv5, T5⟩ := T4.pushJ _ HLB.out ho5 hg5 hat5
                  subst hv5
                  clear ho5 hg5 hat5 T4 own4
                  go_wp2_with fail
                  go_roundg (gk - 1)
                  case measure => have := HK.out; omega
                  case rel =>
                    obtain ⟨h1, h2, h3, h4⟩ := HS2.out
                    obtain ⟨m1, m2, m3, m4, m5⟩ := may_rel hg HOK.out rfl hn ht HR.out HRD.out T5 h1 h2
                    exact ⟨k + 1, gS2, cS2, gJ2, cJ2, s.turn 1, by have := HK.out; omega, by rw [h4], by rw [h4], by rw [h3]; rfl, by go_num, m1, m2, m3, m4, m5⟩
                · have HN : Hid (S.mayN l = -1) := Lib.hid (mayN_no HR.out HRD.out (fun h => by rcases S.ok_inv h with h | ⟨h9, h0, h⟩ | ⟨h0, h⟩ <;> simp only [Prod.mk.injEq, j0, if_false, if_true] at h <;> omega))
                  have q2 : (x2 != (s.n : Int)) = false := by simpa using e2
                  have q3 : (x3 != (s.n : Int) + 1) = false := by simpa using e3
                  have q4 : (x4 != (s.last.2 : Int)) = true := by simpa using e4
                  clear e2 e3 e4 j0
                  go_wp2_with fail
                  go_quiet (fail)
                  go_wp2_with fail
                  go_ret
                  exact ⟨by rw [HN.out]; rfl, I2.below.trans (below_drewN (Below.refl _ _) _)⟩
              · have HN : Hid (S.mayN l = -1) := Lib.hid (mayN_no HR.out HRD.out (fun h => by rcases S.ok_inv h with h | ⟨h9, h0, h⟩ | ⟨h0, h⟩ <;> simp only [Prod.mk.injEq, j0, if_false, if_true] at h <;> omega))
                have q2 : (x2 != (s.n : Int)) = false := by simpa using e2
                have q3 : (x3 != (s.n : Int) + 1) = true := by simpa using e3
                clear e2 e3 j0
                go_wp2_with fail
                go_quiet (fail)
                go_wp2_with fail
                go_ret
                exact ⟨by rw [HN.out]; rfl, I2.below.trans (below_drewN (Below.refl _ _) _)⟩
            · have HN : Hid (S.mayN l = -1) := Lib.hid (mayN_no HR.out HRD.out (fun h => by rcases S.ok_inv h with h | ⟨h9, h0, h⟩ | ⟨h0, h⟩ <;> simp only [Prod.mk.injEq, j0, if_false, if_true] at h <;> omega))
              have q2 : (x2 != (s.n : Int)) = true := by simpa using e2
              clear e2 j0
              go_wp2_with fail
              go_quiet (fail)
              go_wp2_with fail
              go_ret
              exact ⟨by rw [HN.out]; rfl, I2.below.trans (below_drewN (Below.refl _ _) _)⟩
        · by_cases k2 : x0 = 2
          · subst k2
            by_cases m1 : 1 ≤ m
            · have cp := I2.pen HM.out m1
              have HJP : Hid ((s.ts.getD (s.ts.length - 2) (0, 0)).2 = (s.ts.getD (s.ts.length - 2) (0, 0)).2) := Lib.hid rfl
              have hno2 : ∀ f, s.ok f → f.1 = 2 → s.last.2 = 0 ∧ f.2.2.1 = 0 ∧ f.2.2.2.1 = 0 ∧ f.2.2.2.2 = ((s.ts.getD (s.ts.length - 2) (0, 0)).2 : Int) := by
                intro f h hf
                rcases S.ok_inv h with h | ⟨h9, h0, h⟩ | ⟨h0, h⟩ <;> subst h
                · cases hf
                · exact ⟨h0, rfl, rfl, rfl⟩
                · cases hf
              have HNO := Lib.hid hno2
              have HYES : Hid (∀ f, s.last.2 = 0 → f = (2, (s.last.1 : Int), 0, 0, ((s.ts.getD (s.ts.length - 2) (0, 0)).2 : Int)) → s.ok f) := Lib.hid (fun f h0 h => S.ok_end (by have := HM.out; omega) h0 h)
              clear hno2 HJP
              generalize (s.ts.getD (s.ts.length - 2) (0, 0)).2 = jp at *
              have q1 : decide ((m : Int) < 1) = false := by simp; omega
              by_cases j0 : s.last.2 = 0
              · rw [j0] at cj
                by_cases e2 : x2 = 0
                · by_cases e3 : x3 = 0
                  · by_cases e4 : x4 = (jp : Int)
                    · subst e2 e3 e4
                      have cap1 := I2.rs.caps
                      have cap2 := I2.rj.caps
                      have hc1 : m ≤ cS := by have := HM.out; omega
                      have hc2 : m ≤ cJ := by have := HM.out; omega
                      have hc3 := cap1.2
                      have hc4 := cap2.2
                      have q4 : ((jp : Int) != (jp : Int)) = false := by simp
                      have HOK := Lib.hid (HYES.out _ j0 rfl)
                      clear cap1 cap2
                      go_wp2_with fail
                      go_region
                      go_wp2_with fail
                      go_roundg (gk - 1)
                      case measure => have := HK.out; omega
                      case rel =>
                        obtain ⟨h3, h4⟩ := turn_end2 HM.out
                        have hml : (s.turn 2).ts.length = m := by rw [h3, List.length_take, HM.out]; omega
                        have T5 := (I2.two.on (Below.refl _ _).drew).take (m := m) (by rw [List.length_map, HM.out]; omega) (by rw [List.length_map, HM.out]; omega)
                        obtain ⟨m1, m2, m3, m4, m5⟩ := may_rel hg HOK.out rfl hn ht HR.out HRD.out T5 (by show _ = (s.turn 2).ts.map _; rw [h3, List.map_take]) (by show _ = (s.turn 2).ts.map _; rw [h3, List.map_take])
                        exact ⟨k + 1, gS, cS, gJ, cJ, s.turn 2, by have := HK.out; omega, by rw [hml], by rw [hml], by rw [h4], by go_num, m1, m2, m3, m4, m5⟩
                    · have HN : Hid (S.mayN l = -1) := Lib.hid (mayN_no HR.out HRD.out (fun h => by have h7 := HNO.out _ h rfl; simp only at h7; omega))
                      have q2 : (x2 != 0) = false := by simpa using e2
                      have q3 : (x3 != 0) = false := by simpa using e3
                      have q4 : (x4 != (jp : Int)) = true := by simpa using e4
                      clear e2 e3 e4
                      go_wp2_with fail
                      go_region
                      go_wp2_with fail
                      go_ret
                      exact ⟨by rw [HN.out]; rfl, I2.below.drew⟩
                  · have HN : Hid (S.mayN l = -1) := Lib.hid (mayN_no HR.out HRD.out (fun h => by have h7 := HNO.out _ h rfl; simp only at h7; omega))
                    have q2 : (x2 != 0) = false := by simpa using e2
                    have q3 : (x3 != 0) = true := by simpa using e3
                    clear e2 e3
                    go_wp2_with fail
                    go_ret
                    exact ⟨by rw [HN.out]; rfl, I2.below⟩
                · have HN : Hid (S.mayN l = -1) := Lib.hid (mayN_no HR.out HRD.out (fun h => by have h7 := HNO.out _ h rfl; simp only at h7; omega))
                  have q2 : (x2 != 0) = true := by simpa using e2
                  clear e2
                  go_wp2_with fail
                  go_ret
                  exact ⟨by rw [HN.out]; rfl, I2.below⟩
              · have HN : Hid (S.mayN l = -1) := Lib.hid (mayN_no HR.out HRD.out (fun h => by have h7 := HNO.out _ h rfl; simp only at h7; omega))
                have jn : ((s.last.2 : Int) != 0) = true := by simpa using j0
                clear j0
                go_wp2_with fail
                go_ret
                exact ⟨by rw [HN.out]; rfl, I2.below⟩
            · have HN : Hid (S.mayN l = -1) := Lib.hid (mayN_no HR.out HRD.out (fun h => by have hmm := HM.out; rcases S.ok_inv h with h | ⟨h9, h0, h⟩ | ⟨h0, h⟩ <;> simp only [Prod.mk.injEq] at h <;> omega))
              have q1 : decide ((m : Int) < 1) = true := by simp; omega
              clear m1
              go_wp2_with fail
              go_ret
              exact ⟨by rw [HN.out]; rfl, I2.below⟩
          · by_cases k3 : x0 = 3
            · subst k3
              have HNO : Hid (∀ f, s.ok f → f.1 = 3 → s.last.2 ≠ 0 ∧ f.2.2.1 = 0 ∧ f.2.2.2.1 = 0 ∧ f.2.2.2.2 = (s.last.2 : Int)) := Lib.hid (by
                intro f h hf
                rcases S.ok_inv h with h | ⟨h9, h0, h⟩ | ⟨h0, h⟩ <;> subst h
                · cases hf
                · cases hf
                · exact ⟨h0, rfl, rfl, rfl⟩)
              by_cases j0 : s.last.2 = 0
              · have HN : Hid (S.mayN l = -1) := Lib.hid (mayN_no HR.out HRD.out (fun h => by have h7 := HNO.out _ h rfl; simp only at h7; omega))
                have jn : ((s.last.2 : Int) == 0) = true := by simpa using j0
                clear j0
                go_wp2_with fail
                go_quiet (fail)
                go_wp2_with fail
                go_ret
                exact ⟨by rw [HN.out]; rfl, I2.below.trans (below_drewN (Below.refl _ _) _)⟩
              · have jn : ((s.last.2 : Int) == 0) = false := beq_false_of_ne (by omega)
                by_cases e4 : x4 = (s.last.2 : Int)
                · by_cases e2 : x2 = 0
                  · by_cases e3 : x3 = 0
                    · subst e2 e3 e4
                      have q4 : ((s.last.2 : Int) != (s.last.2 : Int)) = false := by simp
                      have HOK : Hid (s.ok (3, (s.last.1 : Int), 0, 0, (s.last.2 : Int))) := Lib.hid (S.ok_join j0 rfl)
                      have cap1 := I2.rs.caps
                      have cap2 := I2.rj.caps
                      have hgne := I2.ne
                      clear j0
                      go_wp2_with fail
                      go_quiet (fail)
                      have I3 := I2.on (below_drewN (Below.refl _ _) nq)
                      have bk4 := bk2.drewN nq
                      clear I2 bk2 b0 b1 b2 b3 b4 cs cj q4
                      generalize w2.drewN nq = w4 at *
                      have fs := I3.rs.frozen m
                      have fj := I3.rj.frozen m
                      obtain ⟨cs, cj⟩ := I3.top HM.out
                      have b4 := bk4.cell 4
                      simp only [List.getElem?_toArray, List.getElem?_cons_succ, List.getElem?_cons_zero] at b4
                      go_wp2_with fail
                      go_roundg (gk - 1)
                      case measure => have := HK.out; omega
                      case rel =>
                        obtain ⟨h3, h4⟩ := turn_join3 HM.out
                        have hml : (s.turn 3).ts.length = m + 1 := by rw [h3, List.length_set, HM.out]
                        have T5 := (I3.two.setS m s.last.2).setJ m 0
                        obtain ⟨m1, m2, m3, m4, m5⟩ := may_rel hg HOK.out rfl hn ht HR.out HRD.out T5 (by show _ = (s.turn 3).ts.map _; rw [h3, List.map_set]) (by show _ = (s.turn 3).ts.map _; rw [h3, List.map_set])
                        exact ⟨k + 1, gS, cS, gJ, cJ, s.turn 3, by have := HK.out; omega, by rw [hml], by rw [hml], by rw [h4], by go_num, m1, m2, m3, m4, m5⟩
                    · have HN : Hid (S.mayN l = -1) := Lib.hid (mayN_no HR.out HRD.out (fun h => by have h7 := HNO.out _ h rfl; simp only at h7; omega))
                      have q4 : (x4 != (s.last.2 : Int)) = false := by simpa using e4
                      have q2 : (x2 != 0) = false := by simpa using e2
                      have q3 : (x3 != 0) = true := by simpa using e3
                      clear e4 e2 e3 j0
                      go_wp2_with fail
                      go_quiet (fail)
                      go_wp2_with fail
                      go_ret
                      exact ⟨by rw [HN.out]; rfl, I2.below.trans (below_drewN (Below.refl _ _) _)⟩
                  · have HN : Hid (S.mayN l = -1) := Lib.hid (mayN_no HR.out HRD.out (fun h => by have h7 := HNO.out _ h rfl; simp only at h7; omega))
                    have q4 : (x4 != (s.last.2 : Int)) = false := by simpa using e4
                    have q2 : (x2 != 0) = true := by simpa using e2
                    clear e4 e2 j0
                    go_wp2_with fail
                    go_quiet (fail)
                    go_wp2_with fail
                    go_ret
                    exact ⟨by rw [HN.out]; rfl, I2.below.trans (below_drewN (Below.refl _ _) _)⟩
                · have HN : Hid (S.mayN l = -1) := Lib.hid (mayN_no HR.out HRD.out (fun h => by have h7 := HNO.out _ h rfl; simp only at h7; omega))
                  have q4 : (x4 != (s.last.2 : Int)) = true := by simpa using e4
                  clear e4 j0
                  go_wp2_with fail
                  go_quiet (fail)
                  go_wp2_with fail
                  go_ret
                  exact ⟨by rw [HN.out]; rfl, I2.below.trans (below_drewN (Below.refl _ _) _)⟩
            · have HN : Hid (S.mayN l = -1) := Lib.hid (mayN_no HR.out HRD.out (fun h => by rcases S.ok_inv h with h | ⟨h9, h0, h⟩ | ⟨h0, h⟩ <;> simp only [Prod.mk.injEq] at h <;> omega))
              have q1 : (x0 == 1) = false := by simpa using k1
              have q2 : (x0 == 2) = false := by simpa using k2
              have q3 : (x0 == 3) = false := by simpa using k3
              clear k1 k2 k3
              go_wp2_with fail
              go_ret
              exact ⟨by rw [HN.out]; rfl, I2.below⟩
      · have HN : Hid (S.mayN l = -1) := Lib.hid (mayN_no HR.out HRD.out (fun h => by
          rcases S.ok_inv h with h | ⟨_, _, h⟩ | ⟨_, h⟩ <;> simp only [Prod.mk.injEq] at h <;> exact hA h.2.1))
        have q1 : (x1 != (s.last.1 : Int)) = true := by simpa using hA
        clear hA
        go_region
        go_wp2_with fail
        go_ret
        exact ⟨by rw [HN.out]; rfl, I1.below.drew⟩
    · obtain rfl : gk = 0 := by omega
      have HN : Hid (S.mayN l = (s.n : Int)) := Lib.hid (by
        have e1 : l.drop k = [] := List.drop_of_length_le (by omega)
        have h1 := HR.out
        rw [e1] at h1
        unfold S.mayN
        rw [h1]; rfl)
      clear hk hm
      go_wp2_with fail
      go_ret
      exact ⟨by rw [HN.out]; rfl, I.below⟩
end Go.Proofs.Ytahhihhfjimppaa
/- the document's Of: plain part -/
namespace Go.Proofs.Ytahhihhfjimppaa
open Go.RowKit
set_option linter.unusedSimpArgs false
set_option linter.unusedVariables false
set_option maxRecDepth 100000

namespace S
/-- what a round of Of leaves of a fork -/
def fe (e : List Nat) (a b c d : Nat) : List Nat := if plc (beh (beh e a b) b c) d < 0 then beh (beh (beh e a b) b c) c d else beh (beh e a b) b c
def fh (e h : List Nat) (a b c d : Nat) : List Nat := if plc (beh (beh e a b) b c) d < 0 then beh (beh (beh h a c) c b) b d else beh (beh h a c) c b
theorem plc_neg {l : List Nat} {x : Nat} : plc l x < 0 ↔ x ∉ l := by
  unfold plc
  by_cases h : x ∈ l
  · rw [if_pos h]; simp [h]
  · rw [if_neg h]; simp [h]
theorem ords_fork {s : State} {e h : List Nat} (hg : s.Good) (ho : Ords s e h) (hj : s.last.2 = 0) :
    Ords (s.turn 1) (fe e s.last.1 s.n (s.n + 1) (s.n + 2)) (fh e h s.last.1 s.n (s.n + 1) (s.n + 2)) := by
  have hA := hg.last.1
  have t : s.turn 1 = ⟨put1 (put1 (put1 s.E s.last.1 s.n) s.n (s.n + 1)) (s.n + 1) (s.n + 2), put1 (put1 (put1 s.H s.last.1 (s.n + 1)) (s.n + 1) s.n) s.n (s.n + 2), s.ts.set (s.ts.length - 1) (s.n + 1, s.n + 2) ++ [(s.n, 0)], s.n + 3⟩ := by
    unfold State.turn
    rw [if_pos rfl, if_pos hj]
    rfl
  rw [t]
  generalize s.last.1 = a at *
  generalize hn : s.n = n at *
  have ae := (ho.me a).2 (by omega)
  have ah := (ho.mh a).2 (by omega)
  have e1 : n ∉ e := by rw [ho.me]; omega
  have m1 : ∀ x, x ∈ ins e a n ↔ x < n ∨ x = n := fun x => by rw [mem_ins ae, ho.me, hn]
  have E1 := ho.ce.put ae e1
  have e2 : n + 1 ∉ ins e a n := by rw [m1]; omega
  have a2 : n ∈ ins e a n := by rw [m1]; omega
  have m2 : ∀ x, x ∈ ins (ins e a n) n (n + 1) ↔ x < n ∨ x = n ∨ x = n + 1 := fun x => by rw [mem_ins a2, m1]; omega
  have E2 := E1.put a2 e2
  have e3 : n + 2 ∉ ins (ins e a n) n (n + 1) := by rw [m2]; omega
  have a3 : n + 1 ∈ ins (ins e a n) n (n + 1) := by rw [m2]; omega
  have m3 : ∀ x, x ∈ ins (ins (ins e a n) n (n + 1)) (n + 1) (n + 2) ↔ x < n + 3 := fun x => by rw [mem_ins a3, m2]; omega
  have E3 := E2.put a3 e3
  have h1 : n + 1 ∉ h := by rw [ho.mh]; omega
  have k1 : ∀ x, x ∈ ins h a (n + 1) ↔ x < n ∨ x = n + 1 := fun x => by rw [mem_ins ah, ho.mh, hn]
  have H1 := ho.ch.put ah h1
  have h2 : n ∉ ins h a (n + 1) := by rw [k1]; omega
  have b2 : n + 1 ∈ ins h a (n + 1) := by rw [k1]; omega
  have k2 : ∀ x, x ∈ ins (ins h a (n + 1)) (n + 1) n ↔ x < n ∨ x = n ∨ x = n + 1 := fun x => by rw [mem_ins b2, k1]; omega
  have H2 := H1.put b2 h2
  have h3 : n + 2 ∉ ins (ins h a (n + 1)) (n + 1) n := by rw [k2]; omega
  have b3 : n ∈ ins (ins h a (n + 1)) (n + 1) n := by rw [k2]; omega
  have k3 : ∀ x, x ∈ ins (ins (ins h a (n + 1)) (n + 1) n) n (n + 2) ↔ x < n + 3 := fun x => by rw [mem_ins b3, k2]; omega
  have H3 := H2.put b3 h3
  have be : beh (beh e a n) n (n + 1) = ins (ins e a n) n (n + 1) := by rw [beh_ins ho.ce.nodup ae, beh_ins E1.nodup a2]
  have bh : beh (beh h a (n + 1)) (n + 1) n = ins (ins h a (n + 1)) (n + 1) n := by rw [beh_ins ho.ch.nodup ah, beh_ins H1.nodup b2]
  have c1 : plc (beh (beh e a n) n (n + 1)) (n + 2) < 0 := by rw [be]; exact plc_neg.2 e3
  unfold fe fh
  rw [if_pos c1, if_pos c1, be, bh, beh_ins E2.nodup a3, beh_ins H2.nodup b3]
  refine ⟨E3, H3, m3, k3, ?_, ?_⟩
  · rw [ins_length a3, ins_length a2, ins_length ae, ho.le]; simp; omega
  · rw [ins_length b3, ins_length b2, ins_length ah, ho.lh]; simp; omega
theorem ords_more {s : State} {e h : List Nat} (hg : s.Good) (ho : Ords s e h) (hj : s.last.2 ≠ 0) :
    Ords (s.turn 1) (fe e s.last.1 s.n (s.n + 1) s.last.2) (fh e h s.last.1 s.n (s.n + 1) s.last.2) := by
  have hA := hg.last.1
  have hD := hg.last.2
  have t : s.turn 1 = ⟨put1 (put1 s.E s.last.1 s.n) s.n (s.n + 1), put1 (put1 s.H s.last.1 (s.n + 1)) (s.n + 1) s.n, s.ts.set (s.ts.length - 1) (s.n + 1, s.last.2) ++ [(s.n, 0)], s.n + 2⟩ := by
    unfold State.turn
    rw [if_pos rfl, if_neg hj]
    rfl
  rw [t]
  generalize s.last.2 = d at *
  generalize s.last.1 = a at *
  generalize hn : s.n = n at *
  have ae := (ho.me a).2 (by omega)
  have ah := (ho.mh a).2 (by omega)
  have e1 : n ∉ e := by rw [ho.me]; omega
  have m1 : ∀ x, x ∈ ins e a n ↔ x < n ∨ x = n := fun x => by rw [mem_ins ae, ho.me, hn]
  have E1 := ho.ce.put ae e1
  have e2 : n + 1 ∉ ins e a n := by rw [m1]; omega
  have a2 : n ∈ ins e a n := by rw [m1]; omega
  have m2 : ∀ x, x ∈ ins (ins e a n) n (n + 1) ↔ x < n + 2 := fun x => by rw [mem_ins a2, m1]; omega
  have E2 := E1.put a2 e2
  have h1 : n + 1 ∉ h := by rw [ho.mh]; omega
  have k1 : ∀ x, x ∈ ins h a (n + 1) ↔ x < n ∨ x = n + 1 := fun x => by rw [mem_ins ah, ho.mh, hn]
  have H1 := ho.ch.put ah h1
  have h2 : n ∉ ins h a (n + 1) := by rw [k1]; omega
  have b2 : n + 1 ∈ ins h a (n + 1) := by rw [k1]; omega
  have k2 : ∀ x, x ∈ ins (ins h a (n + 1)) (n + 1) n ↔ x < n + 2 := fun x => by rw [mem_ins b2, k1]; omega
  have H2 := H1.put b2 h2
  have be : beh (beh e a n) n (n + 1) = ins (ins e a n) n (n + 1) := by rw [beh_ins ho.ce.nodup ae, beh_ins E1.nodup a2]
  have bh : beh (beh h a (n + 1)) (n + 1) n = ins (ins h a (n + 1)) (n + 1) n := by rw [beh_ins ho.ch.nodup ah, beh_ins H1.nodup b2]
  have c1 : ¬ plc (beh (beh e a n) n (n + 1)) d < 0 := by rw [be, plc_neg, Decidable.not_not, m2]; omega
  unfold fe fh
  rw [if_neg c1, if_neg c1, be, bh]
  refine ⟨E2, H2, m2, k2, ?_, ?_⟩
  · rw [ins_length a2, ins_length ae, ho.le]; simp; omega
  · rw [ins_length b2, ins_length ah, ho.lh]; simp; omega
/-- a fork that may come: its numbers, and the lists behind it -/
theorem fork_ords {s : State} {e h : List Nat} (hg : s.Good) (ho : Ords s e h) {f : Five} (hk : s.ok f) (h1 : f.1 = 1) :
    ∃ a b c d : Nat, f = (1, (a : Int), (b : Int), (c : Int), (d : Int)) ∧ a ≤ s.n + 2 ∧ b ≤ s.n + 2 ∧ c ≤ s.n + 2 ∧ d ≤ s.n + 2 ∧ Ords (s.turn 1) (fe e a b c d) (fh e h a b c d) := by
  have hl := hg.last
  rcases ok_inv hk with h2 | ⟨_, _, h2⟩ | ⟨_, h2⟩
  · by_cases hj : s.last.2 = 0
    · rw [if_pos hj] at h2
      exact ⟨s.last.1, s.n, s.n + 1, s.n + 2, h2, by omega, by omega, by omega, by omega, ords_fork hg ho hj⟩
    · rw [if_neg hj] at h2
      exact ⟨s.last.1, s.n, s.n + 1, s.last.2, h2, by omega, by omega, by omega, by omega, ords_more hg ho hj⟩
  · subst h2; simp at h1
  · subst h2; simp at h1
theorem beh_le3 (l : List Nat) (a b c d : Nat) : (beh (beh l a b) c d).length ≤ 4 * l.length := by
  have h1 := beh_length_le l a b
  have h2 := beh_length_le (beh l a b) c d
  omega
theorem mayN_cases (l : List Five) : (run init l = none ∧ mayN l = -1) ∨ ∃ s, run init l = some s ∧ mayN l = (s.n : Int) := by
  unfold mayN
  cases h : run init l with
  | none => exact .inl ⟨rfl, rfl⟩
  | some s => exact .inr ⟨s, rfl, rfl⟩
/-- the pairs of places -/
def prs (e h : List Nat) (n : Nat) : List (Nat × Nat) := (List.range n).map fun x => (e.idxOf x, h.idxOf x)
theorem prs_places {s : State} {e h : List Nat} (hg : s.Good) (ho : Ords s e h) : prs e h s.n = s.places := by
  refine List.ext_getElem (by rw [hg.places_length]; simp [prs]) fun i h1 h2 => ?_
  have hi : i < s.n := by rw [hg.places_length] at h2; exact h2
  have := ho.places hg hi
  rw [List.getD_eq_getElem?_getD, List.getElem?_eq_getElem h2, Option.getD_some] at this
  rw [this]
  simp [prs]
theorem prs_succ (e h : List Nat) (n : Nat) : prs e h (n + 1) = prs e h n ++ [(e.idxOf n, h.idxOf n)] := by simp [prs, List.range_succ]
theorem plc_in {l : List Nat} {x : Nat} (h : x ∈ l) : plc l x = (l.idxOf x : Int) := by unfold plc; rw [if_pos h]
end S
end Go.Proofs.Ytahhihhfjimppaa
/- walk: the document's Of -/
namespace Go.Proofs.Ytahhihhfjimppaa
open Go.RowKit
set_option linter.unusedSimpArgs false
set_option linter.unusedVariables false
set_option maxRecDepth 100000

/-- what the document's Of leaves -/
def ROfed (w : World) (l : List S.Five) (e : Ending) (w' : World) : Prop :=
  Below w.heap.size w w' ∧ ((S.run S.init l = none ∧ e = .returned (.tuple #[.slice none 0 0, .int .i64 1])) ∨
    ∃ s A cap, S.run S.init l = some s ∧ e = .returned (.tuple #[.slice A s.n cap, .int .i64 0]) ∧ Rd w' w'.heap.size A (tcs s.places))
theorem Rd.of_ownk {w : World} {A : Option Addr} {base : Nat} {e : TypeId} {size n c : Nat} {xs : List Value} (h : w.ownsRow base e size (.slice A n c) n xs) : Rd w w.heap.size A xs := by
  rcases h.2 with ⟨hv, hn⟩ | ⟨g, cap, cur, hv, _, hg, _⟩
  · left
    have := h.1
    rw [hn, Nat.zero_mul] at this
    exact List.eq_nil_of_length_eq_zero this
  · injection hv with hA
    subst hA
    refine .inr ⟨g, 0, rfl, (Array.getElem?_eq_some_iff.1 hg).1, fun j u hu => ?_⟩
    have := h.cells (g := g) rfl j u hu
    rw [Addr.add_lit] at this
    exact this
theorem own_formk {w : World} {base : Nat} {e : TypeId} {v : Value} {size n : Nat} {xs : List Value} (h : w.ownsRow base e size v n xs) : ∃ A c, v = .slice A n c := by
  rcases h.2 with ⟨hv, hn⟩ | ⟨g, cap, cur, hv, _, _, h1, h2, _⟩
  · exact ⟨none, 0, by rw [hv, hn]⟩
  · exact ⟨_, cap, hv⟩
theorem run_on {l : List S.Five} {k : Nat} {s t : S.State} (hk : k < l.length) (h : S.run S.init l = S.run s (l.drop k)) (ht : S.run S.init l = some t) : s.ok l[k] ∧ S.run S.init l = S.run (s.turn l[k].1) (l.drop (k + 1)) := by
  have h2 := S.run_drop hk s
  by_cases hok : s.ok l[k]
  · rw [if_pos hok] at h2
    exact ⟨hok, h.trans h2⟩
  · rw [if_neg hok, ← h, ht] at h2
    cases h2

set_option maxHeartbeats 4000000 in
theorem rof_any (l : List S.Five) (A : Option Addr) (c : Nat) (w : World) (hr : Rd w w.heap.size A (fcs l)) (hl : l.length ≤ 60) :
    Calls Try.prog 8 #[.slice A l.length c] w (ROfed w l) := by
  obtain ⟨i0, hi, hz0, hz1, hz2⟩ := info_parts info_two
  go_enter Try.func8, Try.ntmps8
  go_wp2_with (go_at_call 17; refine (rmay_any l A c _ hr hl).mono ?_)
  rintro e w1 ⟨rfl, b1⟩
  rcases S.mayN_cases l with ⟨h0, h1⟩ | ⟨t, h0, h1⟩
  · have HR := Lib.hid h0
    rw [h1]
    clear h0 h1
    go_wp2_with fail
    refine bodyPost_ret (v := .tuple #[.slice none 0 0, .int .i64 1]) (by simp [results, Try.results8, go_sem]) rfl ?_
    exact ⟨b1, .inl ⟨HR.out, rfl⟩⟩
  · have HT := Lib.hid h0
    rw [h1]
    have hn9 : t.n ≤ 181 := by have := S.run_n h0; simp [S.init] at this; omega
    clear h0 h1
    have q0 : decide ((t.n : Int) < 0) = false := by simp
    go_wp2_with fail
    have r1 := hr.on b1
    have s1 : (w1.alloc (.cells #[.int .i64 0] 3)).heap.size = w1.heap.size + 1 := by simp
    have o1 : Rd (w1.alloc (.cells #[.int .i64 0] 3)) (w1.alloc (.cells #[.int .i64 0] 3)).heap.size (some ⟨w1.heap.size, 0, none⟩) (ns [0]) := (Own.new w1 3 1 1 #[.int .i64 0] (by omega) rfl).rd
    have o2 : Rd ((w1.alloc (.cells #[.int .i64 0] 3)).alloc (.cells #[.int .i64 0] 3)) ((w1.alloc (.cells #[.int .i64 0] 3)).alloc (.cells #[.int .i64 0] 3)).heap.size (some ⟨w1.heap.size + 1, 0, none⟩) (ns [0]) := by rw [← s1]; exact (Own.new _ 3 1 1 #[.int .i64 0] (by omega) rfl).rd
    have o3 := o1.on (bel_new _ (.cells #[.int .i64 0] 3))
    have bb : Below w.heap.size w ((w1.alloc (.cells #[.int .i64 0] 3)).alloc (.cells #[.int .i64 0] 3)) := (b1.alloc b1.size _).alloc (by have := b1.size; simp; omega) _
    clear r1 o1 s1
    go_loopg [5, 6, 7] l.length (fun gk ev hv ii wr => ∃ (k : Nat) (s : S.State) (e h : List Nat) (Ae Ah : Option Addr) (ce ch : Nat), k + gk = l.length ∧ ev = .slice Ae e.length ce ∧ hv = .slice Ah h.length ch ∧ ii = .int .i64 k ∧ Rd wr wr.heap.size Ae (ns e) ∧ Rd wr wr.heap.size Ah (ns h) ∧ Below w.heap.size w wr ∧ Hid (S.Ords s e h) ∧ Hid s.Good ∧ s.n ≤ 1 + 3 * k ∧ Hid (e.length = s.n ∧ h.length = s.n) ∧ Hid (S.run S.init l = S.run s (l.drop k)))
    case atStart => exact ⟨0, S.init, [0], [0], _, _, _, _, by omega, rfl, rfl, rfl, o3, o2, bb, Lib.hid S.init_ord, Lib.hid S.init_good, by decide, Lib.hid ⟨rfl, rfl⟩, Lib.hid rfl⟩
    case round =>
      obtain ⟨k, s, e, h, Ae, Ah, ce, ch, hk, rfl, rfl, rfl, rE, rH, hb, HO, HG, hn, HL, HR⟩ := hrel
      clear o2 o3 bb b1
      have HK := Lib.hid hk
      by_cases hlt : k < l.length
      · clear hk
        have hltI : (k : Int) < (l.length : Int) := by omega
        have hrw := hr.below hb
        have hsz := hb.size
        obtain ⟨bA, oA, rfl, hbA, f0, f1, f2, f3, f4⟩ := hrw.five hlt
        have hbA2 : bA < wr.heap.size := Nat.lt_of_lt_of_le hbA hb.size
        have HOK := Lib.hid (run_on hlt HR.out HT.out)
        clear hrw
        generalize l[k] = f at *
        obtain ⟨x0, x1, x2, x3, x4⟩ := f
        simp only at f0 f1 f2 f3 f4
        have hn2 : s.n ≤ 190 := by omega
        have hel : e.length ≤ 190 := by have := HL.out; omega
        have hhl : h.length ≤ 190 := by have := HL.out; omega
        by_cases k1 : x0 = 1
        · subst k1
          obtain ⟨a, b, c', d, he, ha, hb', hc, hd, ho⟩ := S.fork_ords HG.out HO.out HOK.out.1 rfl
          simp only [Prod.mk.injEq] at he
          obtain ⟨_, rfl, rfl, rfl, rfl⟩ := he
          have HO2 := Lib.hid ho
          clear ho
          go_wp2_with fail
          have bk0 := Blk.new wr 59 #[.int .i64 1, .int .i64 (a : Int), .int .i64 (b : Int), .int .i64 (c' : Int), .int .i64 (d : Int)]
          have b2 := bel_new wr (.cells #[.int .i64 1, .int .i64 (a : Int), .int .i64 (b : Int), .int .i64 (c' : Int), .int .i64 (d : Int)] 59)
          replace rE := rE.on b2
          replace rH := rH.on b2
          replace hb := hb.trans (b2.mono hsz)
          clear b2 f0 f1 f2 f3 f4
          generalize wr.alloc (.cells #[.int .i64 1, .int .i64 (a : Int), .int .i64 (b : Int), .int .i64 (c' : Int), .int .i64 (d : Int)] 59) = w2 at *
          generalize wr.heap.size = gB at *
          have hgB := bk0.lt
          have HKB : Hid (∀ w', Below w2.heap.size w2 w' → w'.cell? ⟨gB, 1, none⟩ = some (.int .i64 (a : Int)) ∧ w'.cell? ⟨gB, 2, none⟩ = some (.int .i64 (b : Int)) ∧ w'.cell? ⟨gB, 3, none⟩ = some (.int .i64 (c' : Int)) ∧ w'.cell? ⟨gB, 4, none⟩ = some (.int .i64 (d : Int))) :=
            Lib.hid (fun w' hb => ⟨(bk0.below hb hgB).cell 1, (bk0.below hb hgB).cell 2, (bk0.below hb hgB).cell 3, (bk0.below hb hgB).cell 4⟩)
          obtain ⟨c1, c2, c3, c4⟩ := HKB.out _ (Below.refl _ _)
          have hbl := S.beh_length_le e a b
          have hbh := S.beh_length_le h a c'
          clear bk0
          go_region_held3 (fun w' => w'.cell? ⟨gB, 1, none⟩ = some (.int .i64 (a : Int)) ∧ w'.cell? ⟨gB, 2, none⟩ = some (.int .i64 (b : Int)) ∧ w'.cell? ⟨gB, 3, none⟩ = some (.int .i64 (c' : Int)) ∧ w'.cell? ⟨gB, 4, none⟩ = some (.int .i64 (d : Int)))
            (first | exact HKB.out _ b4 | exact HKB.out _ b3 | go_keep)
            (first
              | (go_at_call 18; refine (behind_any (S.beh e a b) _ _ b c' _ r3 (by omega) (by omega) (by omega)).mono ?_; rintro e4 w4 ⟨A4, q4, rfl, r4, b4'⟩; have b4 := b3.trans (b4'.mono b3.size))
              | (go_at_call 18; refine (behind_any e _ _ a b _ rE.drew (by omega) (by omega) (by omega)).mono ?_; rintro e3 w3 ⟨A3, q3, rfl, r3, b3'⟩; have b3 := (Below.refl w2.heap.size w2).drew.trans b3'))
          replace rH := rH.on b4
          replace hb := hb.trans (b4.mono hb.size)
          have HKC : Hid (∀ w', Below w4.heap.size w4 w' → w'.cell? ⟨gB, 1, none⟩ = some (.int .i64 (a : Int)) ∧ w'.cell? ⟨gB, 2, none⟩ = some (.int .i64 (b : Int)) ∧ w'.cell? ⟨gB, 3, none⟩ = some (.int .i64 (c' : Int)) ∧ w'.cell? ⟨gB, 4, none⟩ = some (.int .i64 (d : Int))) :=
            Lib.hid (fun w' hb => HKB.out _ (b4.trans (hb.mono b4.size)))
          clear c1 c2 c3 c4 HKB b4 b4' b3 b3' r3 rE
          obtain ⟨c1, c2, c3, c4⟩ := HKC.out _ (Below.refl _ _)
          have HFE : Hid (S.fe e a b c' d = if S.plc (S.beh (S.beh e a b) b c') d < 0 then S.beh (S.beh (S.beh e a b) b c') c' d else S.beh (S.beh e a b) b c') := Lib.hid rfl
          have HFH : Hid (S.fh e h a b c' d = if S.plc (S.beh (S.beh e a b) b c') d < 0 then S.beh (S.beh (S.beh h a c') c' b) b d else S.beh (S.beh h a c') c' b) := Lib.hid rfl
          have hbl2 := S.beh_le3 e a b b c'
          have hbh2 := S.beh_le3 h a c' c' b
          clear hbl
          generalize S.beh (S.beh e a b) b c' = e2 at *
          go_wp2_with fail
          go_region_held3 (fun w' => w'.cell? ⟨gB, 1, none⟩ = some (.int .i64 (a : Int)) ∧ w'.cell? ⟨gB, 2, none⟩ = some (.int .i64 (b : Int)) ∧ w'.cell? ⟨gB, 3, none⟩ = some (.int .i64 (c' : Int)) ∧ w'.cell? ⟨gB, 4, none⟩ = some (.int .i64 (d : Int)))
            (first | exact HKC.out _ b6 | exact HKC.out _ b5 | go_keep)
            (first
              | (go_at_call 18; refine (behind_any (S.beh h a c') _ _ c' b _ r5 (by omega) (by omega) (by omega)).mono ?_; rintro e6 w6 ⟨A6, q6, rfl, r6, b6'⟩; have b6 := b5.trans (b6'.mono b5.size))
              | (go_at_call 18; refine (behind_any h _ _ a c' _ rH.drew (by omega) (by omega) (by omega)).mono ?_; rintro e5 w5 ⟨A5, q5, rfl, r5, b5'⟩; have b5 := (Below.refl w4.heap.size w4).drew.trans b5'))
          replace r4 := r4.on b6
          replace hb := hb.trans (b6.mono hb.size)
          obtain ⟨c5, c6, c7, c8⟩ := HKC.out _ b6
          have hgB6 : gB < w6.heap.size := World.block_lt_of_cell? w6 _ c5
          clear c1 c2 c3 c4 b6 b6' b5 b5' r5 rH HKC
          generalize S.beh (S.beh h a c') c' b = h2 at *
          go_wp2_with (go_at_call 19; refine (place_any e2 _ _ d _ r4 (by omega)).mono ?_)
          rintro e7 w7 ⟨rfl, rfl⟩
          by_cases hp : S.plc e2 d < 0
          · rw [if_pos hp] at HFE HFH
            have hpd : decide (S.plc e2 d < 0) = true := by simpa using hp
            clear hp
            generalize S.plc e2 d = pd at *
            go_wp2_with (go_at_call 18; refine (behind_any e2 _ _ c' d _ r4 (by omega) (by omega) (by omega)).mono ?_)
            rintro e8 w8 ⟨A8, q8, rfl, r8, b8⟩
            have c9 := (b8.cell (p := ⟨gB, 2, none⟩) hgB6).trans c6
            have c10 := (b8.cell (p := ⟨gB, 4, none⟩) hgB6).trans c8
            have hgB8 : gB < w8.heap.size := Nat.lt_of_lt_of_le hgB6 b8.size
            replace r6 := r6.on b8
            replace hb := hb.trans (b8.mono hb.size)
            clear c5 c6 c7 c8 b8 r4
            go_wp2_with (go_at_call 18; refine (behind_any h2 _ _ b d _ r6 (by omega) (by omega) (by omega)).mono ?_)
            rintro e9 w9 ⟨A9, q9, rfl, r9, b9⟩
            replace r8 := r8.on b9
            replace hb := hb.trans (b9.mono hb.size)
            clear c9 c10 b9 r6
            go_wp2_with fail
            go_roundg (gk - 1)
            case measure => have := HK.out; omega
            case rel =>
              have ho := HO2.out
              rw [HFE.out, HFH.out] at ho
              exact ⟨k + 1, s.turn 1, _, _, _, _, _, _, by have := HK.out; omega, rfl, rfl, by go_num, r8, r9, hb, Lib.hid ho, Lib.hid (HG.out.turn HOK.out.1), by have := S.turn_n s 1; omega, Lib.hid ⟨ho.le, ho.lh⟩, Lib.hid HOK.out.2⟩
          · rw [if_neg hp] at HFE HFH
            have hpd : decide (S.plc e2 d < 0) = false := by simpa using hp
            clear hp
            generalize S.plc e2 d = pd at *
            go_wp2_with fail
            go_roundg (gk - 1)
            case measure => have := HK.out; omega
            case rel =>
              have ho := HO2.out
              rw [HFE.out, HFH.out] at ho
              exact ⟨k + 1, s.turn 1, _, _, _, _, _, _, by have := HK.out; omega, rfl, rfl, by go_num, r4, r6, hb, Lib.hid ho, Lib.hid (HG.out.turn HOK.out.1), by have := S.turn_n s 1; omega, Lib.hid ⟨ho.le, ho.lh⟩, Lib.hid HOK.out.2⟩
        · have q1 : (x0 != 1) = true := by simpa using k1
          have HK1 := Lib.hid k1
          clear k1
          go_wp2_with fail
          have b2 := bel_new wr (.cells #[.int .i64 x0, .int .i64 x1, .int .i64 x2, .int .i64 x3, .int .i64 x4] 59)
          go_roundg (gk - 1)
          case measure => have := HK.out; omega
          case rel =>
            obtain ⟨o1, o2⟩ := S.ord_else HO.out HK1.out
            exact ⟨k + 1, s.turn x0, e, h, _, _, ce, ch, by have := HK.out; omega, rfl, rfl, by go_num, rE.on b2, rH.on b2, hb.trans (b2.mono hsz), Lib.hid o1, Lib.hid (HG.out.turn HOK.out.1), by rw [o2]; omega, Lib.hid (by rw [o2]; exact HL.out), Lib.hid HOK.out.2⟩
      · obtain rfl : gk = 0 := by omega
        have HST : Hid (t = s) := Lib.hid (by
          have h1 := HR.out
          rw [List.drop_of_length_le (by omega : l.length ≤ k), HT.out] at h1
          injection h1)
        have HLE : Hid (e.length = t.n ∧ h.length = t.n) := Lib.hid (by rw [HST.out]; exact HL.out)
        have HME : Hid (∀ i, i < t.n → S.plc e i = (e.idxOf i : Int) ∧ S.plc h i = (h.idxOf i : Int)) := Lib.hid (fun i hi => by
          rw [HST.out] at hi
          exact ⟨S.plc_in ((HO.out.me i).2 hi), S.plc_in ((HO.out.mh i).2 hi)⟩)
        have HPR : Hid (S.prs e h t.n = t.places) := Lib.hid (by rw [HST.out]; exact S.prs_places HG.out HO.out)
        have hel : e.length ≤ 1000 := by have := HLE.out; omega
        have hhl : h.length ≤ 1000 := by have := HLE.out; omega
        have hbs := hb.size
        clear hk
        obtain ⟨W0, rfl⟩ : ∃ W0, W0 = wr := ⟨wr, rfl⟩
        go_wp2_with fail
        go_loopg [9, 10] t.n (fun gk vv ii wr => ∃ i : Nat, i + gk = t.n ∧ ii = .int .i64 i ∧ wr.ownsRow W0.heap.size 65 2 vv i (tcs (S.prs e h i)) ∧ Below W0.heap.size W0 wr)
        case atStart => exact ⟨0, by omega, rfl, World.ownsRow_nil _ _ _ _, Below.refl _ _⟩
        case round =>
          obtain ⟨i, hi2, rfl, ho, hb2⟩ := hrel
          have HI := Lib.hid hi2
          by_cases hlt2 : i < t.n
          · clear hi2
            have hltI : (i : Int) < (t.n : Int) := by omega
            have rE2 := rE.on hb2
            have rH2 := rH.on hb2
            have hs2 := hb2.size
            have hp := HME.out i hlt2
            have HP1 := Lib.hid hp.1
            have HP2 := Lib.hid hp.2
            clear hp
            go_wp2_with (go_at_call 19; refine (place_any e _ _ i _ rE2 hel).mono ?_)
            rintro e7 w7 ⟨rfl, rfl⟩
            rw [HP1.out]
            have HT2 : Hid (tcs (S.prs e h (i + 1)) = tcs (S.prs e h i) ++ [.int .i64 (e.idxOf i : Int), .int .i64 (h.idxOf i : Int)]) := Lib.hid (by rw [S.prs_succ, tcs_append]; rfl)
            generalize e.idxOf i = pe at *
            go_wp2_with (go_at_call 19; refine (place_any h _ _ i _ rH2 hhl).mono ?_)
            rintro e8 w8 ⟨rfl, rfl⟩
            rw [HP2.out]
            generalize h.idxOf i = ph at *
            go_wp2_with (at_builtin; refine wpList_append_own_at _ rfl (.tmp 74) (.tmp 82) 34 rfl W0.heap.size 65 i0 _ 2 16 Try.underlying34 hi hz0 hz1 hz2 rfl (by omega) _ _ _ rfl (ho.alloc _) ⟨wr.heap.size, 0, none⟩ 1 1 [.int .i64 (pe : Int), .int .i64 (ph : Int)] rfl rfl ?c1 ?c2 ?c3 ?c4 ?c5 ?_)
            case c1 => exact World.news_of_block (cs := #[.int .i64 (pe : Int), .int .i64 (ph : Int)]) (heap_alloc_new _ _)
            case c2 => simp [Value.oneCell']
            case c3 => simp only [maxLen]; omega
            case c4 => omega
            case c5 => simp; omega
            intro v3 w3 ho3 hg3 _ _
            have hb3 : Below W0.heap.size W0 w3 := (hb2.alloc hs2 _).grown hg3 (by simp; omega) fun k hk => (ho.lt k hk).1
            rw [← HT2.out] at ho3
            clear hg3 ho HT2
            go_wp2_with fail
            go_roundg (gk - 1)
            case measure => have := HI.out; omega
            case rel => exact ⟨i + 1, by have := HI.out; omega, by go_num, ho3, hb3⟩
          · obtain rfl : gk = 0 := by omega
            obtain rfl : i = t.n := by omega
            obtain ⟨A', q', hv⟩ := own_formk ho
            subst hv
            have r9 := Rd.of_ownk ho
            rw [HPR.out] at r9
            have hb9 := hb.trans (hb2.mono hbs)
            clear hi2
            go_wp2_with fail
            refine bodyPost_ret (v := .tuple #[.slice A' t.n q', .int .i64 0]) (by simp [results, Try.results8, go_sem]) rfl ?_
            exact ⟨hb9, .inr ⟨t, A', q', HT.out, rfl, r9⟩⟩
end Go.Proofs.Ytahhihhfjimppaa
/- The plain side of layer 12: a strand is ahead just of those to which it leads -/
namespace Go.Proofs.Ytahhihhfjimppaa.S
set_option linter.unusedSimpArgs false
set_option linter.unusedVariables false

/-- a step of strands, by splits that were -/
def edge (l : List Five) (u v : Nat) : Prop := ∃ f ∈ l, f.2.1 = (u : Int) ∧ ((f.1 = 1 ∧ (f.2.2.1 = (v : Int) ∨ f.2.2.2.1 = (v : Int))) ∨ (f.1 ≠ 1 ∧ f.2.2.2.2 = (v : Int)))
/-- a step that is to come -/
def virt : List (Nat × Nat) → Nat → Nat → Prop
  | [], _, _ => False
  | t :: r, u, v => (t.2 ≠ 0 ∧ u = t.1 ∧ v = t.2) ∨ (∃ p r', r = p :: r' ∧ v = p.2 ∧ u = if t.2 = 0 then t.1 else t.2) ∨ virt r u v
def begun (l : List Five) (a : Nat) : Prop := a = 0 ∨ ∃ f ∈ l, (f.1 = 1 ∧ (f.2.2.1 = (a : Int) ∨ f.2.2.2.1 = (a : Int))) ∨ (f.1 = 3 ∧ f.2.2.2.2 = (a : Int))
def EV (l : List Five) (k : List (Nat × Nat)) (u v : Nat) : Prop := edge l u v ∨ virt k u v
/-- joins that are to come: those of all tasks but the one that runs; no two the same -/
def Pend : List (Nat × Nat) → Prop
  | [] => True
  | t :: r => (∀ u ∈ r, u.2 ≠ t.2) ∧ (∀ u ∈ r, u.2 ≠ 0) ∧ Pend r
def ahd (e h : List Nat) (x y : Nat) : Prop := e.idxOf x < e.idxOf y ∧ h.idxOf x < h.idxOf y

structure LInv (l : List Five) (s : State) (e h : List Nat) : Prop where
  good : s.Good
  ord : Ords s e h
  stk : Stk e s.stk
  pend : Pend s.stk
  sound : ∀ u v, EV l s.stk u v → u < s.n ∧ v < s.n ∧ ahd e h u v
  all : ∀ x y, x < s.n → y < s.n → ahd e h x y → ∃ u, EV l s.stk u y ∧ (x = u ∨ ahd e h x u)
  strands : ∀ t ∈ s.stk, begun l t.1
  srcs : ∀ u v, edge l u v → begun l u
  joins : ∀ t ∈ s.stk, t.2 ≠ 0 → ¬ begun l t.2
  out : ∀ t ∈ s.stk, ∀ v, ¬ edge l t.1 v ∧ (t.2 ≠ 0 → ¬ edge l t.2 v)
  rng : ∀ f ∈ l, (0 ≤ f.2.1 ∧ f.2.1 < s.n) ∧ (0 ≤ f.2.2.1 ∧ f.2.2.1 < s.n) ∧ (0 ≤ f.2.2.2.1 ∧ f.2.2.2.1 < s.n) ∧ (0 ≤ f.2.2.2.2 ∧ f.2.2.2.2 < s.n)

theorem init_linv : LInv [] init [0] [0] := by
  have hs : init.stk = [(0, 0)] := rfl
  refine ⟨init_good, init_ord, by rw [hs]; simp [Stk], by rw [hs]; simp [Pend], ?_, ?_, ?_, ?_, ?_, ?_, ?_⟩
  · intro u v h
    rw [hs] at h
    rcases h with ⟨f, hf, _⟩ | h
    · simp at hf
    · simp [virt] at h
  · intro x y hx hy hxy
    have h1 : init.n = 1 := rfl
    obtain rfl : x = 0 := by omega
    obtain rfl : y = 0 := by omega
    simp [ahd] at hxy
  · intro t ht; rw [hs] at ht; rw [List.mem_singleton.1 ht]; exact .inl rfl
  · rintro u v ⟨f, hf, _⟩; simp at hf
  · intro t ht h0; rw [hs] at ht; rw [List.mem_singleton.1 ht] at h0; exact absurd rfl h0
  · rintro t ht v; exact ⟨fun ⟨f, hf, _⟩ => by simp at hf, fun _ ⟨f, hf, _⟩ => by simp at hf⟩
  · intro f hf; simp at hf

theorem edge_snoc {l : List Five} {f : Five} {u v : Nat} : edge (l ++ [f]) u v ↔ edge l u v ∨ (f.2.1 = (u : Int) ∧ ((f.1 = 1 ∧ (f.2.2.1 = (v : Int) ∨ f.2.2.2.1 = (v : Int))) ∨ (f.1 ≠ 1 ∧ f.2.2.2.2 = (v : Int)))) := by
  unfold edge
  constructor
  · rintro ⟨g, hg, h⟩
    rcases List.mem_append.1 hg with hg | hg
    · exact .inl ⟨g, hg, h⟩
    · rw [List.mem_singleton.1 hg] at h; exact .inr h
  · rintro (⟨g, hg, h⟩ | h)
    · exact ⟨g, by simp [hg], h⟩
    · exact ⟨f, by simp, h⟩
theorem begun_snoc {l : List Five} {f : Five} {a : Nat} : begun (l ++ [f]) a ↔ begun l a ∨ (f.1 = 1 ∧ (f.2.2.1 = (a : Int) ∨ f.2.2.2.1 = (a : Int))) ∨ (f.1 = 3 ∧ f.2.2.2.2 = (a : Int)) := by
  unfold begun
  constructor
  · rintro (h | ⟨g, hg, h⟩)
    · exact .inl (.inl h)
    · rcases List.mem_append.1 hg with hg | hg
      · exact .inl (.inr ⟨g, hg, h⟩)
      · rw [List.mem_singleton.1 hg] at h; exact .inr h
  · rintro ((h | ⟨g, hg, h⟩) | h)
    · exact .inl h
    · exact .inr ⟨g, by simp [hg], h⟩
    · exact .inr ⟨f, by simp, h⟩
theorem begun_lt {l : List Five} {s : State} {e h : List Nat} (I : LInv l s e h) {a : Nat} (hb : begun l a) : a < s.n := by
  have hp := I.good.last.1
  rcases hb with h | ⟨f, hf, h⟩
  · omega
  · have := I.rng f hf
    omega
/-- in the stack below the one that runs, all stand behind its strand -/
theorem stk_behind {e : List Nat} : ∀ {r : List (Nat × Nat)} {t : Nat × Nat}, Stk e (t :: r) → Pend (t :: r) → ∀ u ∈ r, e.idxOf t.1 < e.idxOf u.1 ∧ e.idxOf t.1 < e.idxOf u.2 ∧ (t.2 ≠ 0 → e.idxOf t.2 < e.idxOf u.1 ∧ e.idxOf t.2 < e.idxOf u.2) := by
  intro r
  induction r with
  | nil => intro t _ _ u hu; simp at hu
  | cons w r ih =>
    intro t hS hP u hu
    have h1 := hS.2.1 w r rfl
    have hw := hP.2.1 w (by simp)
    have h2 := hS.2.2.1 hw
    rcases List.mem_cons.1 hu with rfl | hu
    · exact ⟨h1.1, by omega, fun h0 => by have := h1.2 h0; omega⟩
    · have h3 := ih hS.2.2 hP.2.2 u hu
      exact ⟨by omega, by omega, fun h0 => by have := h1.2 h0; omega⟩
theorem virt_src {r : List (Nat × Nat)} {u v : Nat} (h : virt r u v) : ∃ t ∈ r, (u = t.1 ∨ (t.2 ≠ 0 ∧ u = t.2)) := by
  induction r with
  | nil => exact h.elim
  | cons t r ih =>
    rcases h with ⟨h0, h1, _⟩ | ⟨p, r', hr, hv, hu⟩ | h
    · exact ⟨t, by simp, .inl h1⟩
    · refine ⟨t, by simp, ?_⟩
      by_cases h0 : t.2 = 0
      · rw [if_pos h0] at hu; exact .inl hu
      · rw [if_neg h0] at hu; exact .inr ⟨h0, hu⟩
    · obtain ⟨w, hw, h2⟩ := ih h
      exact ⟨w, by simp [hw], h2⟩
theorem virt_cons0 {t : Nat × Nat} {r : List (Nat × Nat)} {u v : Nat} (h : t.2 = 0) : virt (t :: r) u v ↔ (∃ p r', r = p :: r' ∧ v = p.2 ∧ u = t.1) ∨ virt r u v := by
  rw [virt, if_pos h]
  constructor
  · rintro (h1 | h1)
    · exact absurd h h1.1
    · exact h1
  · exact .inr
theorem virt_consJ {t : Nat × Nat} {r : List (Nat × Nat)} {u v : Nat} (h : t.2 ≠ 0) : virt (t :: r) u v ↔ (u = t.1 ∧ v = t.2) ∨ (∃ p r', r = p :: r' ∧ v = p.2 ∧ u = t.2) ∨ virt r u v := by
  rw [virt, if_neg h]
  constructor
  · rintro (h1 | h1)
    · exact .inl h1.2
    · exact .inr h1
  · rintro (h1 | h1)
    · exact .inl ⟨h, h1⟩
    · exact .inr h1
theorem virt_dst {r : List (Nat × Nat)} {u v : Nat} (hp : Pend r) (h : virt r u v) : ∃ t ∈ r, t.2 ≠ 0 ∧ v = t.2 := by
  induction r with
  | nil => exact h.elim
  | cons t r ih =>
    rcases h with ⟨h0, h1, h2⟩ | ⟨p, r', hr, hv, hu⟩ | h
    · exact ⟨t, by simp, h0, h2⟩
    · exact ⟨p, by rw [hr]; simp, hp.2.1 p (by rw [hr]; simp), hv⟩
    · obtain ⟨w, hw, h2⟩ := ih hp.2.2 h
      exact ⟨w, by simp [hw], h2⟩

theorem ahd_kept {n : Nat} {e e' h h' : List Nat} (k1 : Kept n e e') (k2 : Kept n h h') {x y : Nat} (hx : x < n) (hy : y < n) : ahd e' h' x y ↔ ahd e h x y := by
  unfold ahd
  rw [k1 x y hx hy, k2 x y hx hy]
theorem le_iff {s : State} {e h : List Nat} (o : Ords s e h) {x a : Nat} (hx : x < s.n) : (x = a ∨ ahd e h x a) ↔ (e.idxOf x ≤ e.idxOf a ∧ h.idxOf x ≤ h.idxOf a) := by
  constructor
  · rintro (rfl | h)
    · exact ⟨Nat.le_refl _, Nat.le_refl _⟩
    · exact ⟨Nat.le_of_lt h.1, Nat.le_of_lt h.2⟩
  · rintro ⟨h1, h2⟩
    by_cases he : e.idxOf x = e.idxOf a
    · exact .inl (idx_inj ((o.me x).2 hx) he)
    · by_cases hh : h.idxOf x = h.idxOf a
      · exact .inl (idx_inj ((o.mh x).2 hx) hh)
      · exact .inr ⟨by omega, by omega⟩

theorem linv_fork {l : List Five} {s : State} {e h : List Nat} (I : LInv l s e h) {t : Nat × Nat} {r : List (Nat × Nat)} (hs : s.stk = t :: r) (hj : t.2 = 0) (hk : s.ok (1, (t.1 : Int), (s.n : Int), (s.n : Int) + 1, (s.n : Int) + 2)) :
    ∃ e' h', LInv (l ++ [(1, (t.1 : Int), (s.n : Int), (s.n : Int) + 1, (s.n : Int) + 2)]) (s.turn 1) e' h' := by
  obtain ⟨hlast, _⟩ := stk_last hs
  have hstk := turn_stk hs 1
  have hn := turn_n1 hs 1
  rw [if_pos rfl, if_pos hj] at hstk hn
  obtain ⟨e', h', o', m1, m2, p1, p2, p3, q1, q2, q3⟩ := ord_fork I.good I.ord (by rw [hlast]; exact hj)
  rw [hlast] at m1 m2 p1 p2 p3 q1 q2 q3
  have K1 := moved_kept m1
  have K2 := moved_kept m2
  have hmem := stk_mem I.good
  have hS := I.stk
  have hP := I.pend
  rw [hs] at hmem hS hP
  have hA : t.1 < s.n := (hmem t (by simp)).1
  have mA := m1 t.1 hA
  have nA := m2 t.1 hA
  rw [if_pos (Nat.le_refl _)] at mA nA
  have hbeh := stk_behind hS hP
  have hsound := I.sound
  have hall := I.all
  have hout := I.out
  have hjo := I.joins
  have hst := I.strands
  rw [hs] at hsound hall hout hjo hst
  have hev : ∀ u v, EV l (t :: r) u v ↔ edge l u v ∨ (∃ p r', r = p :: r' ∧ v = p.2 ∧ u = t.1) ∨ virt r u v := by
    intro u v
    unfold EV
    rw [virt_cons0 hj]
  have hev' : ∀ u v, EV (l ++ [(1, (t.1 : Int), (s.n : Int), (s.n : Int) + 1, (s.n : Int) + 2)]) ((s.n, 0) :: (s.n + 1, s.n + 2) :: r) u v ↔
      (edge l u v ∨ (u = t.1 ∧ (v = s.n ∨ v = s.n + 1))) ∨ (u = s.n ∧ v = s.n + 2) ∨ (u = s.n + 1 ∧ v = s.n + 2) ∨ (∃ p r', r = p :: r' ∧ v = p.2 ∧ u = s.n + 2) ∨ virt r u v := by
    intro u v
    unfold EV
    rw [edge_snoc, virt_cons0 rfl, virt_consJ (by simp)]
    constructor
    · rintro ((h | ⟨h1, ⟨_, h2⟩ | ⟨h2, _⟩⟩) | ⟨p, r', h3, h1, h2⟩ | ⟨h1, h2⟩ | h)
      · exact .inl (.inl h)
      · simp only at h1 h2; exact .inl (.inr ⟨by omega, by omega⟩)
      · exact absurd rfl h2
      · injection h3 with h3 h4; subst h3; exact .inr (.inl ⟨h2, h1⟩)
      · exact .inr (.inr (.inl ⟨h1, h2⟩))
      · exact .inr (.inr (.inr h))
    · rintro ((h | ⟨h1, h2⟩) | ⟨h1, h2⟩ | ⟨h1, h2⟩ | h)
      · exact .inl (.inl h)
      · exact .inl (.inr ⟨by simp only; omega, .inl ⟨rfl, by simp only; omega⟩⟩)
      · exact .inr (.inl ⟨_, _, rfl, h2, h1⟩)
      · exact .inr (.inr (.inl ⟨h1, h2⟩))
      · exact .inr (.inr (.inr h))
  have hnot : ∀ v, ¬ edge l t.1 v ∧ ¬ virt r t.1 v := by
    intro v
    refine ⟨(hout t (by simp) v).1, fun hv => ?_⟩
    obtain ⟨w, hw, h1⟩ := virt_src hv
    have h2 := hbeh w hw
    rcases h1 with h1 | ⟨_, h1⟩
    · rw [← h1] at h2; omega
    · rw [← h1] at h2; omega
  refine ⟨e', h', ⟨I.good.turn hk, o', ?_, ?_, ?_, ?_, ?_, ?_, ?_, ?_, ?_⟩⟩
  · rw [hstk]
    refine ⟨fun h => absurd rfl h, fun u r' hr => ?_, fun _ => ?_, fun u r' hr => ?_, Stk.kept K1 (fun u hu => hmem u (by simp [hu])) hS.2.2⟩
    · injection hr with hr; subst hr; exact ⟨by show e'.idxOf s.n < e'.idxOf (s.n + 1); omega, fun h => absurd rfl h⟩
    · show e'.idxOf (s.n + 1) < e'.idxOf (s.n + 2); omega
    · have hu := hmem u (by rw [hr]; simp)
      have z1 := (hS.2.1 u r' hr).1
      have z2 := m1 u.1 hu.1
      rw [if_neg (by omega)] at z2
      exact ⟨by show e'.idxOf (s.n + 1) < _; omega, fun _ => by show e'.idxOf (s.n + 2) < _; omega⟩
  · rw [hstk]
    refine ⟨fun u hu => ?_, fun u hu => ?_, fun u hu => ?_, fun u hu => hP.2.1 u hu, hP.2.2⟩
    · rcases List.mem_cons.1 hu with rfl | hu
      · simp
      · exact hP.2.1 u hu
    · rcases List.mem_cons.1 hu with rfl | hu
      · simp
      · exact hP.2.1 u hu
    · have := (hmem u (by simp [hu])).2
      show u.2 ≠ s.n + 2
      omega
  · intro u v hu
    rw [hstk, hev'] at hu
    rw [hn]
    rcases hu with (hu | ⟨rfl, hu⟩) | ⟨rfl, rfl⟩ | ⟨rfl, rfl⟩ | ⟨p, r', hr, rfl, rfl⟩ | hu
    · have := hsound u v (.inl hu)
      exact ⟨by omega, by omega, (ahd_kept K1 K2 this.1 this.2.1).2 this.2.2⟩
    · refine ⟨by omega, by omega, ?_⟩
      unfold ahd
      rcases hu with rfl | rfl <;> omega
    · exact ⟨by omega, by omega, by unfold ahd; omega⟩
    · exact ⟨by omega, by omega, by unfold ahd; omega⟩
    · have z := hsound t.1 p.2 ((hev _ _).2 (.inr (.inl ⟨p, r', hr, rfl, rfl⟩)))
      have z1 := m1 p.2 z.2.1
      have z2 := m2 p.2 z.2.1
      have z3 := z.2.2.1
      have z4 := z.2.2.2
      rw [if_neg (by omega)] at z1 z2
      exact ⟨by omega, by omega, by unfold ahd; omega⟩
    · have := hsound u v ((hev _ _).2 (.inr (.inr hu)))
      exact ⟨by omega, by omega, (ahd_kept K1 K2 this.1 this.2.1).2 this.2.2⟩
  · intro x y hx hy hxy
    rw [hn] at hx hy
    rw [hstk]
    by_cases hyn : y < s.n
    · by_cases hxn : x < s.n
      · obtain ⟨u, hu, hxu⟩ := hall x y hxn hyn ((ahd_kept K1 K2 hxn hyn).1 hxy)
        have hul := (hsound u y hu).1
        have hxu' : x = u ∨ ahd e' h' x u := hxu.imp id (fun z => (ahd_kept K1 K2 hxn hul).2 z)
        rcases (hev _ _).1 hu with hu | ⟨p, r', hr, rfl, rfl⟩ | hu
        · exact ⟨u, (hev' _ _).2 (.inl (.inl hu)), hxu'⟩
        · refine ⟨s.n + 2, (hev' _ _).2 (.inr (.inr (.inr (.inl ⟨p, r', hr, rfl, rfl⟩)))), .inr ?_⟩
          have z := (le_iff I.ord hxn).1 hxu
          have z1 := m1 x hxn
          have z2 := m2 x hxn
          rw [if_pos z.1] at z1
          rw [if_pos z.2] at z2
          unfold ahd
          omega
        · exact ⟨u, (hev' _ _).2 (.inr (.inr (.inr (.inr hu)))), hxu'⟩
      · have hx3 : e.idxOf t.1 + 1 ≤ e'.idxOf x ∧ e'.idxOf x ≤ e.idxOf t.1 + 3 ∧ h.idxOf t.1 + 1 ≤ h'.idxOf x ∧ h'.idxOf x ≤ h.idxOf t.1 + 3 := by
          obtain rfl | rfl | rfl : x = s.n ∨ x = s.n + 1 ∨ x = s.n + 2 := by omega
          all_goals omega
        have hAy : ahd e h t.1 y := by
          have z1 := m1 y hyn
          have z2 := m2 y hyn
          have z3 := hxy.1
          have z4 := hxy.2
          unfold ahd
          constructor
          · by_cases hc : e.idxOf y ≤ e.idxOf t.1
            · rw [if_pos hc] at z1; omega
            · omega
          · by_cases hc : h.idxOf y ≤ h.idxOf t.1
            · rw [if_pos hc] at z2; omega
            · omega
        obtain ⟨u, hu, hAu⟩ := hall t.1 y hA hyn hAy
        have hul := (hsound u y hu).1
        have hlt : t.1 ≠ u → ahd e' h' x u := by
          intro hne
          have z := hAu.resolve_left hne
          have z1 := m1 u hul
          have z2 := m2 u hul
          have z3 := z.1
          have z4 := z.2
          rw [if_neg (by omega)] at z1 z2
          unfold ahd
          omega
        rcases (hev _ _).1 hu with hu | ⟨p, r', hr, rfl, rfl⟩ | hu
        · exact ⟨u, (hev' _ _).2 (.inl (.inl hu)), .inr (hlt (fun hE => (hnot y).1 (hE ▸ hu)))⟩
        · refine ⟨s.n + 2, (hev' _ _).2 (.inr (.inr (.inr (.inl ⟨p, r', hr, rfl, rfl⟩)))), ?_⟩
          obtain rfl | rfl | rfl : x = s.n ∨ x = s.n + 1 ∨ x = s.n + 2 := by omega
          · right; unfold ahd; omega
          · right; unfold ahd; omega
          · left; rfl
        · exact ⟨u, (hev' _ _).2 (.inr (.inr (.inr (.inr hu)))), .inr (hlt (fun hE => (hnot y).2 (hE ▸ hu)))⟩
    · have hxA : x < s.n → e'.idxOf x ≤ e.idxOf t.1 + 2 → h'.idxOf x ≤ h.idxOf t.1 + 2 → x = t.1 ∨ ahd e h x t.1 := by
        intro hxn a1 a2
        refine (le_iff I.ord hxn).2 ?_
        have z1 := m1 x hxn
        have z2 := m2 x hxn
        constructor
        · by_cases hc : e.idxOf x ≤ e.idxOf t.1
          · exact hc
          · rw [if_neg hc] at z1; omega
        · by_cases hc : h.idxOf x ≤ h.idxOf t.1
          · exact hc
          · rw [if_neg hc] at z2; omega
      have z3 := hxy.1
      have z4 := hxy.2
      obtain rfl | rfl | rfl : y = s.n ∨ y = s.n + 1 ∨ y = s.n + 2 := by omega
      · have hxn : x < s.n := by
          by_cases hc : x < s.n
          · exact hc
          · obtain rfl | rfl | rfl : x = s.n ∨ x = s.n + 1 ∨ x = s.n + 2 := by omega
            all_goals omega
        exact ⟨t.1, (hev' _ _).2 (.inl (.inr ⟨rfl, .inl rfl⟩)), (hxA hxn (by omega) (by omega)).imp id (fun z => (ahd_kept K1 K2 hxn hA).2 z)⟩
      · have hxn : x < s.n := by
          by_cases hc : x < s.n
          · exact hc
          · obtain rfl | rfl | rfl : x = s.n ∨ x = s.n + 1 ∨ x = s.n + 2 := by omega
            all_goals omega
        exact ⟨t.1, (hev' _ _).2 (.inl (.inr ⟨rfl, .inr rfl⟩)), (hxA hxn (by omega) (by omega)).imp id (fun z => (ahd_kept K1 K2 hxn hA).2 z)⟩
      · by_cases hxn : x < s.n
        · refine ⟨s.n, (hev' _ _).2 (.inr (.inl ⟨rfl, rfl⟩)), .inr ?_⟩
          have z := (le_iff I.ord hxn).1 (hxA hxn (by omega) (by omega))
          have z1 := m1 x hxn
          have z2 := m2 x hxn
          rw [if_pos z.1] at z1
          rw [if_pos z.2] at z2
          unfold ahd
          omega
        · obtain rfl | rfl | rfl : x = s.n ∨ x = s.n + 1 ∨ x = s.n + 2 := by omega
          · exact ⟨s.n, (hev' _ _).2 (.inr (.inl ⟨rfl, rfl⟩)), .inl rfl⟩
          · exact ⟨s.n + 1, (hev' _ _).2 (.inr (.inr (.inl ⟨rfl, rfl⟩))), .inl rfl⟩
          · omega
  · intro u hu
    rw [hstk] at hu
    rw [begun_snoc]
    rcases List.mem_cons.1 hu with rfl | hu
    · exact .inr (.inl ⟨rfl, .inl rfl⟩)
    · rcases List.mem_cons.1 hu with rfl | hu
      · exact .inr (.inl ⟨rfl, .inr (by show (s.n : Int) + 1 = ((s.n + 1 : Nat) : Int); omega)⟩)
      · exact .inl (hst u (by simp [hu]))
  · intro u v hu
    rw [begun_snoc]
    rcases edge_snoc.1 hu with hu | hu
    · exact .inl (I.srcs u v hu)
    · have : u = t.1 := by have z : (t.1 : Int) = (u : Int) := hu.1; omega
      exact .inl (this ▸ hst t (by simp))
  · intro u hu h0 hb
    rw [hstk] at hu
    rw [begun_snoc] at hb
    have hlt : begun l u.2 → u.2 < s.n := fun hb => begun_lt I hb
    rcases List.mem_cons.1 hu with rfl | hu
    · exact h0 rfl
    · rcases List.mem_cons.1 hu with rfl | hu
      · rcases hb with hb | ⟨_, hb⟩ | ⟨hb, _⟩
        · have z : s.n + 2 < s.n := hlt hb; omega
        · simp only at hb; omega
        · simp at hb
      · have := (hmem u (by simp [hu])).2
        rcases hb with hb | ⟨_, hb⟩ | ⟨hb, _⟩
        · exact hjo u (by simp [hu]) h0 hb
        · simp only at hb; omega
        · simp at hb
  · intro u hu v
    rw [hstk] at hu
    have hlt : ∀ x v, edge l x v → x < s.n := fun x v hx => (hsound x v (.inl hx)).1
    have hcl : ∀ x : Nat, (∀ v, ¬ edge l x v) → x ≠ t.1 → ∀ v, ¬ edge (l ++ [(1, (t.1 : Int), (s.n : Int), (s.n : Int) + 1, (s.n : Int) + 2)]) x v := by
      intro x h1 h2 v h3
      rcases edge_snoc.1 h3 with h3 | h3
      · exact h1 v h3
      · exact h2 (by have z : (t.1 : Int) = (x : Int) := h3.1; omega)
    rcases List.mem_cons.1 hu with rfl | hu
    · exact ⟨hcl _ (fun v hv => by have z : s.n < s.n := hlt _ _ hv; omega) (by show s.n ≠ t.1; omega) v, fun h0 => absurd rfl h0⟩
    · rcases List.mem_cons.1 hu with rfl | hu
      · exact ⟨hcl _ (fun v hv => by have z : s.n + 1 < s.n := hlt _ _ hv; omega) (by show s.n + 1 ≠ t.1; omega) v, fun _ => hcl _ (fun v hv => by have z : s.n + 2 < s.n := hlt _ _ hv; omega) (by show s.n + 2 ≠ t.1; omega) v⟩
      · have hb := hbeh u hu
        refine ⟨hcl _ (fun v => (hout u (by simp [hu]) v).1) (fun hE => ?_) v, fun h0 => hcl _ (fun v => (hout u (by simp [hu]) v).2 h0) (fun hE => ?_) v⟩
        · rw [hE] at hb; omega
        · rw [hE] at hb; omega
  · intro f hf
    rw [hn]
    rcases List.mem_append.1 hf with hf | hf
    · have := I.rng f hf
      omega
    · rw [List.mem_singleton.1 hf]
      simp only
      omega
end Go.Proofs.Ytahhihhfjimppaa.S
