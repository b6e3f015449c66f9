/- walks: the document's May -/
import Derived.Test.YtahhihhfjimppaaBdA
import Derived.Test.YtahhihhfjimppaaSpJ
import Derived.Deep.Cut
import Derived.BigQuiet
namespace Go.Proofs.Ytahhihhfjimppaa
open Go.RowKit
set_option linter.unusedSimpArgs false
set_option linter.unusedVariables false
set_option maxRecDepth 100000

namespace S
theorem ok_inv {s : State} {f : Five} (h : s.ok f) : f = (1, (s.last.1 : Int), (s.n : Int), (s.n : Int) + 1, if s.last.2 = 0 then (s.n : Int) + 2 else (s.last.2 : Int)) ∨
    (2 ≤ s.ts.length ∧ s.last.2 = 0 ∧ f = (2, (s.last.1 : Int), 0, 0, ((s.ts.getD (s.ts.length - 2) (0, 0)).2 : Int))) ∨ (s.last.2 ≠ 0 ∧ f = (3, (s.last.1 : Int), 0, 0, (s.last.2 : Int))) := by
  obtain ⟨h1, h2⟩ := h
  unfold may at h1 h2
  dsimp only at h1 h2
  by_cases k1 : f.1 = 1
  · rw [if_pos k1] at h2
    exact .inl h2
  · rw [if_neg k1] at h1 h2
    by_cases k2 : f.1 = 2
    · rw [if_pos k2] at h1 h2
      split at h1
      · cases h1
      · rename_i hc
        rw [if_neg hc] at h2
        simp only [not_or, Nat.not_lt, Decidable.not_not] at hc
        exact .inr (.inl ⟨hc.1, hc.2, h2⟩)
    · rw [if_neg k2] at h1 h2
      by_cases k3 : f.1 = 3
      · rw [if_pos k3] at h1 h2
        exact .inr (.inr ⟨by simpa [State.last] using h1, h2⟩)
      · rw [if_neg k3] at h1
        cases h1
theorem ok_fork {s : State} {f : Five} (h : f = (1, (s.last.1 : Int), (s.n : Int), (s.n : Int) + 1, if s.last.2 = 0 then (s.n : Int) + 2 else (s.last.2 : Int))) : s.ok f := by
  subst h
  refine ⟨?_, ?_⟩ <;> unfold may <;> dsimp only <;> rw [if_pos rfl]
  rfl
theorem ok_end {s : State} {f : Five} (h2 : 2 ≤ s.ts.length) (h0 : s.last.2 = 0) (h : f = (2, (s.last.1 : Int), 0, 0, ((s.ts.getD (s.ts.length - 2) (0, 0)).2 : Int))) : s.ok f := by
  subst h
  have hc : ¬ (s.ts.length < 2 ∨ (s.ts.getD (s.ts.length - 1) (0, 0)).2 ≠ 0) := by
    unfold State.last at h0
    omega
  refine ⟨?_, ?_⟩ <;> unfold may <;> dsimp only <;> rw [if_neg (by decide), if_pos rfl, if_neg hc]
  rfl
theorem ok_join {s : State} {f : Five} (h0 : s.last.2 ≠ 0) (h : f = (3, (s.last.1 : Int), 0, 0, (s.last.2 : Int))) : s.ok f := by
  subst h
  refine ⟨?_, ?_⟩ <;> unfold may <;> dsimp only <;> rw [if_neg (by decide), if_neg (by decide), if_pos rfl]
  · simpa [State.last] using h0
  · rfl
theorem run_drop {l : List Five} {k : Nat} (hk : k < l.length) (s : State) : run s (l.drop k) = if s.ok l[k] then run (s.turn l[k].1) (l.drop (k + 1)) else none := by
  rw [List.drop_eq_getElem_cons hk, run_cons]
end S

def S.mayN (l : List S.Five) : Int := match S.run S.init l with
  | none => -1
  | some s => (s.n : Int)
/-- the two rows of May -/
structure MayI (w wr : World) (s : S.State) (gS cS gJ cJ : Nat) : Prop where
  rs : Own wr 3 1 gS s.ts.length cS (ns (s.ts.map Prod.fst))
  rj : Own wr 3 1 gJ s.ts.length cJ (ns (s.ts.map Prod.snd))
  ne : gS ≠ gJ
  new : w.heap.size ≤ gS ∧ w.heap.size ≤ gJ
  below : Below w.heap.size w wr
section
variable {w wr : World} {s : S.State} {gS cS gJ cJ : Nat}
theorem MayI.on {w' : World} (I : MayI w wr s gS cS gJ cJ) (hb : Below wr.heap.size wr w') : MayI w w' s gS cS gJ cJ := by
  have hf := Fr.of_below hb (fun _ => False)
  exact ⟨I.rs.fr hf (fun h => h), I.rj.fr hf (fun h => h), I.ne, I.new, I.below.trans (hb.mono I.below.size)⟩
theorem last_at (hm : 0 < s.ts.length) : s.ts[s.ts.length - 1]'(by omega) = s.last := by
  unfold S.State.last
  rw [List.getD_eq_getElem?_getD, List.getElem?_eq_getElem (by omega)]; rfl
theorem MayI.top (I : MayI w wr s gS cS gJ cJ) {m : Nat} (hm : s.ts.length = m + 1) : wr.cell? ⟨gS, m, none⟩ = some (.int .i64 ((s.last.1 : Nat) : Int)) ∧ wr.cell? ⟨gJ, m, none⟩ = some (.int .i64 ((s.last.2 : Nat) : Int)) := by
  have hl := last_at (s := s) (by omega)
  have h1 := I.rs.cell m (by omega)
  have h2 := I.rj.cell m (by omega)
  rw [ns_at _ m (by simp; omega)] at h1 h2
  simp only [List.getElem_map] at h1 h2
  have e : s.ts[m]'(by omega) = s.last := by rw [← hl]; congr 1; omega
  rw [e] at h1 h2
  exact ⟨h1, h2⟩
end

theorem mayN_no {l : List S.Five} {k : Nat} {s : S.State} {f : S.Five} (h1 : S.run S.init l = S.run s (l.drop k)) (h2 : S.run s (l.drop k) = if s.ok f then S.run (s.turn f.1) (l.drop (k + 1)) else none) (hno : ¬ s.ok f) : S.mayN l = -1 := by
  unfold S.mayN
  rw [h1, h2, if_neg hno]
theorem bel_new (w : World) (o : Obj) : Below w.heap.size w (w.alloc o) := (Below.refl _ _).alloc (Nat.le_refl _) o

/-- two rows of numbers of the call's own -/
structure Two (w wr : World) (a b : List Nat) (gS cS gJ cJ : Nat) : Prop where
  rs : Own wr 3 1 gS a.length cS (ns a)
  rj : Own wr 3 1 gJ b.length cJ (ns b)
  ne : gS ≠ gJ
  new : w.heap.size ≤ gS ∧ w.heap.size ≤ gJ
  below : Below w.heap.size w wr
section
variable {w wr : World} {a b : List Nat} {gS cS gJ cJ : Nat}
theorem Two.setS (I : Two w wr a b gS cS gJ cJ) (m x : Nat) : Two w (wr.setCell ⟨gS, m, none⟩ (.int .i64 (x : Int))) (a.set m x) b gS cS gJ cJ := by
  refine ⟨?_, I.rj.far (p := ⟨gS, m, none⟩) I.ne _, I.ne, I.new, I.below.setCell (by exact I.new.1) _⟩
  rw [List.length_set, ← ns_set]
  exact I.rs.set m _
theorem Two.setJ (I : Two w wr a b gS cS gJ cJ) (m x : Nat) : Two w (wr.setCell ⟨gJ, m, none⟩ (.int .i64 (x : Int))) a (b.set m x) gS cS gJ cJ := by
  refine ⟨I.rs.far (p := ⟨gJ, m, none⟩) I.ne.symm _, ?_, I.ne, I.new, I.below.setCell (by exact I.new.2) _⟩
  rw [List.length_set, ← ns_set]
  exact I.rj.set m _
theorem Two.pushS (I : Two w wr a b gS cS gJ cJ) {x n : Nat} {v3 : Value} {w3 : World} (o : Obj) (hn : a.length = n) (ho : w3.ownsRow 0 3 1 v3 (n + 1) (ns a ++ [.int .i64 (x : Int)])) (hg : (wr.alloc o).grownBy w3 (Value.ownBlock (.slice (some ⟨gS, 0, none⟩) n cS))) (hat : v3.ownBlock = Value.ownBlock (.slice (some ⟨gS, 0, none⟩) n cS) ∨ v3.ownBlock = some (wr.heap.size + 1)) :
    ∃ g3 c3, v3 = .slice (some ⟨g3, 0, none⟩) (n + 1) c3 ∧ Two w w3 (a ++ [x]) b g3 c3 gJ cJ := by
  obtain ⟨g3, c3, rfl, own3⟩ := own_of ho (by omega)
  have hj := I.rj.lt
  have hs := I.below.size
  have hnew := I.new
  have hne := I.ne
  have hfr : Fr (fun k => k = gS) wr w3 := ((Fr.refl _ wr).alloc o).grown hg (fun k hk => by simp [Value.ownBlock] at hk; exact .inl hk.symm)
  have hb3 : Below w.heap.size w w3 := I.below.trans (hfr.below hs (fun k hk => by rw [hk]; exact hnew.1))
  have h3 : g3 = gS ∨ g3 = wr.heap.size + 1 := by simpa [Value.ownBlock] using hat
  refine ⟨g3, c3, rfl, ?_, I.rj.fr hfr (fun h => hne h.symm), by omega, by omega, hb3⟩
  rw [List.length_append, hn, ns_append]
  exact own3
theorem Two.pushJ (I : Two w wr a b gS cS gJ cJ) {x n : Nat} {v3 : Value} {w3 : World} (o : Obj) (hn : b.length = n) (ho : w3.ownsRow 0 3 1 v3 (n + 1) (ns b ++ [.int .i64 (x : Int)])) (hg : (wr.alloc o).grownBy w3 (Value.ownBlock (.slice (some ⟨gJ, 0, none⟩) n cJ))) (hat : v3.ownBlock = Value.ownBlock (.slice (some ⟨gJ, 0, none⟩) n cJ) ∨ v3.ownBlock = some (wr.heap.size + 1)) :
    ∃ g3 c3, v3 = .slice (some ⟨g3, 0, none⟩) (n + 1) c3 ∧ Two w w3 a (b ++ [x]) gS cS g3 c3 := by
  obtain ⟨g3, c3, rfl, own3⟩ := own_of ho (by omega)
  have hj := I.rs.lt
  have hs := I.below.size
  have hnew := I.new
  have hne := I.ne
  have hfr : Fr (fun k => k = gJ) wr w3 := ((Fr.refl _ wr).alloc o).grown hg (fun k hk => by simp [Value.ownBlock] at hk; exact .inl hk.symm)
  have hb3 : Below w.heap.size w w3 := I.below.trans (hfr.below hs (fun k hk => by rw [hk]; exact hnew.2))
  have h3 : g3 = gJ ∨ g3 = wr.heap.size + 1 := by simpa [Value.ownBlock] using hat
  refine ⟨g3, c3, rfl, I.rs.fr hfr hne, ?_, by omega, by omega, hb3⟩
  rw [List.length_append, hn, ns_append]
  exact own3
end
theorem Two.take {w wr : World} {a b : List Nat} {gS cS gJ cJ : Nat} (I : Two w wr a b gS cS gJ cJ) {m : Nat} (ha : m ≤ a.length) (hb : m ≤ b.length) : Two w wr (a.take m) (b.take m) gS cS gJ cJ := by
  refine ⟨?_, ?_, I.ne, I.new, I.below⟩
  · have := I.rs.take (m := m) (by omega)
    rw [Nat.mul_one] at this
    rw [List.length_take, Nat.min_eq_left ha]
    simpa [ns, List.map_take] using this
  · have := I.rj.take (m := m) (by omega)
    rw [Nat.mul_one] at this
    rw [List.length_take, Nat.min_eq_left hb]
    simpa [ns, List.map_take] using this
theorem Two.on {w wr w' : World} {a b : List Nat} {gS cS gJ cJ : Nat} (I : Two w wr a b gS cS gJ cJ) (hb : Below wr.heap.size wr w') : Two w w' a b gS cS gJ cJ := by
  have hf := Fr.of_below hb (fun _ => False)
  exact ⟨I.rs.fr hf (fun h => h), I.rj.fr hf (fun h => h), I.ne, I.new, I.below.trans (hb.mono I.below.size)⟩
theorem MayI.pen {w wr : World} {s : S.State} {gS cS gJ cJ : Nat} (I : MayI w wr s gS cS gJ cJ) {m : Nat} (hm : s.ts.length = m + 1) (h1 : 1 ≤ m) : wr.cell? ⟨gJ, m - 1, none⟩ = some (.int .i64 (((s.ts.getD (s.ts.length - 2) (0, 0)).2 : Nat) : Int)) := by
  have h2 := I.rj.cell (m - 1) (by omega)
  rw [ns_at _ (m - 1) (by simp; omega)] at h2
  simp only [List.getElem_map] at h2
  have e : s.ts.getD (s.ts.length - 2) (0, 0) = s.ts[m - 1]'(by omega) := by
    rw [List.getD_eq_getElem?_getD, List.getElem?_eq_getElem (by omega)]
    show s.ts[s.ts.length - 2]'(by omega) = _
    congr 1; omega
  rw [e]
  exact h2
theorem MayI.two {w wr : World} {s : S.State} {gS cS gJ cJ : Nat} (I : MayI w wr s gS cS gJ cJ) : Two w wr (s.ts.map Prod.fst) (s.ts.map Prod.snd) gS cS gJ cJ :=
  ⟨by rw [List.length_map]; exact I.rs, by rw [List.length_map]; exact I.rj, I.ne, I.new, I.below⟩
theorem Two.may {w wr : World} {s : S.State} {a b : List Nat} {gS cS gJ cJ : Nat} (I : Two w wr a b gS cS gJ cJ) (ha : a = s.ts.map Prod.fst) (hb : b = s.ts.map Prod.snd) : MayI w wr s gS cS gJ cJ := by
  subst ha hb
  obtain ⟨h1, h2, h3, h4, h5⟩ := I
  rw [List.length_map] at h1 h2
  exact ⟨h1, h2, h3, h4, h5⟩
theorem may_on {l : List S.Five} {k : Nat} {s : S.State} {f : S.Five} (h1 : S.run S.init l = S.run s (l.drop k)) (h2 : S.run s (l.drop k) = if s.ok f then S.run (s.turn f.1) (l.drop (k + 1)) else none) (hok : s.ok f) : S.run S.init l = S.run (s.turn f.1) (l.drop (k + 1)) := by
  rw [h1, h2, if_pos hok]
theorem turn_fork0 {s : S.State} {m : Nat} (hm : s.ts.length = m + 1) (h : s.last.2 = 0) : (s.turn 1).ts = s.ts.set m (s.n + 1, s.n + 2) ++ [(s.n, 0)] ∧ (s.turn 1).n = s.n + 3 := by
  unfold S.State.turn
  rw [if_pos rfl, if_pos h, hm]; exact ⟨rfl, rfl⟩
theorem turn_fork1 {s : S.State} {m : Nat} (hm : s.ts.length = m + 1) (h : s.last.2 ≠ 0) : (s.turn 1).ts = s.ts.set m (s.n + 1, s.last.2) ++ [(s.n, 0)] ∧ (s.turn 1).n = s.n + 2 := by
  unfold S.State.turn
  rw [if_pos rfl, if_neg h, hm]; exact ⟨rfl, rfl⟩
theorem turn_end2 {s : S.State} {m : Nat} (hm : s.ts.length = m + 1) : (s.turn 2).ts = s.ts.take m ∧ (s.turn 2).n = s.n := by
  unfold S.State.turn
  rw [if_neg (by decide), if_pos rfl, hm]; exact ⟨rfl, rfl⟩
theorem turn_join3 {s : S.State} {m : Nat} (hm : s.ts.length = m + 1) : (s.turn 3).ts = s.ts.set m (s.last.2, 0) ∧ (s.turn 3).n = s.n := by
  unfold S.State.turn
  rw [if_neg (by decide), if_neg (by decide), hm]; exact ⟨rfl, rfl⟩
theorem snd_last {s : S.State} {m : Nat} (hm : s.ts.length = m + 1) : s.ts.map Prod.snd = (s.ts.map Prod.snd).set m s.last.2 := by
  have hl := last_at (s := s) (by omega)
  have e : s.last.2 = (s.ts.map Prod.snd)[m]'(by simp; omega) := by
    rw [List.getElem_map, ← hl]
    congr 2; omega
  rw [e, List.set_getElem_self]
/-- the end of a round of May -/
theorem may_rel {w wr : World} {l : List S.Five} {k gS cS gJ cJ : Nat} {s s2 : S.State} {f : S.Five} {a b : List Nat} (hg : s.Good) (hok : s.ok f) (hs2 : s2 = s.turn f.1) (hn : s.n ≤ 1 + 3 * k) (ht : s.ts.length ≤ 1 + k) (h1 : S.run S.init l = S.run s (l.drop k)) (h2 : S.run s (l.drop k) = if s.ok f then S.run (s.turn f.1) (l.drop (k + 1)) else none)
    (I : Two w wr a b gS cS gJ cJ) (ha : a = s2.ts.map Prod.fst) (hb : b = s2.ts.map Prod.snd) :
    MayI w wr s2 gS cS gJ cJ ∧ s2.Good ∧ s2.n ≤ 1 + 3 * (k + 1) ∧ s2.ts.length ≤ 1 + (k + 1) ∧ Hid (S.run S.init l = S.run s2 (l.drop (k + 1))) := by
  have e1 := S.turn_n s f.1
  have e2 := S.turn_ts s f.1
  subst hs2
  exact ⟨I.may ha hb, hg.turn hok, by omega, by omega, Lib.hid (may_on h1 h2 hok)⟩

set_option maxHeartbeats 4000000 in
theorem rmay_any (l : List S.Five) (A : Option Addr) (c : Nat) (w : World) (hr : Rd w w.heap.size A (fcs l)) (hl : l.length ≤ 60) :
    Calls Try.prog 17 #[.slice A l.length c] w (fun e w' => e = .returned (.int .i64 (S.mayN l)) ∧ Below w.heap.size w w') := by
  obtain ⟨i0, hi, hz0, hz1, hz2⟩ := info_parts info_int
  go_enter Try.func17, Try.ntmps17
  go_wp2_with fail
  have I0 : MayI w ((w.alloc (.cells #[.int .i64 0] 3)).alloc (.cells #[.int .i64 0] 3)) S.init w.heap.size 1 (w.heap.size + 1) 1 := by
    have s1 : (w.alloc (.cells #[.int .i64 0] 3)).heap.size = w.heap.size + 1 := by simp
    have o1 : Own (w.alloc (.cells #[.int .i64 0] 3)) 3 1 w.heap.size 1 1 [.int .i64 0] := Own.new w 3 1 1 #[.int .i64 0] (by omega) rfl
    have o2 : Own ((w.alloc (.cells #[.int .i64 0] 3)).alloc (.cells #[.int .i64 0] 3)) 3 1 (w.heap.size + 1) 1 1 [.int .i64 0] := by rw [← s1]; exact Own.new _ 3 1 1 #[.int .i64 0] (by omega) rfl
    exact ⟨o1.alloc _, o2, by omega, ⟨by omega, by omega⟩, ((Below.refl _ _).alloc (Nat.le_refl _) _).alloc (by rw [s1]; omega) _⟩
  go_loopg [3, 4, 5, 6] l.length (fun gk sv jv nv ii wr => ∃ (k gS cS gJ cJ : Nat) (s : S.State), k + gk = l.length ∧ sv = .slice (some ⟨gS, 0, none⟩) s.ts.length cS ∧ jv = .slice (some ⟨gJ, 0, none⟩) s.ts.length cJ ∧ nv = .int .i64 (s.n : Int) ∧ ii = .int .i64 k ∧ MayI w wr s gS cS gJ cJ ∧ s.Good ∧ s.n ≤ 1 + 3 * k ∧ s.ts.length ≤ 1 + k ∧ Hid (S.run S.init l = S.run s (l.drop k)))
  case atStart => exact ⟨0, _, _, _, _, S.init, by omega, rfl, rfl, rfl, rfl, I0, S.init_good, by decide, by decide, Lib.hid rfl⟩
  case round =>
    obtain ⟨k, gS, cS, gJ, cJ, s, hk, rfl, rfl, rfl, rfl, I, hg, hn, ht, HR⟩ := hrel
    clear I0
    have HK := Lib.hid hk
    have hpos := hg.pos
    have HG := Lib.hid hg
    obtain ⟨m, hm⟩ : ∃ m, s.ts.length = m + 1 := ⟨s.ts.length - 1, by omega⟩
    have HM := Lib.hid hm
    rw [hm]
    by_cases hlt : k < l.length
    · clear hk
      have hltI : (k : Int) < (l.length : Int) := by omega
      have hrw := hr.below I.below
      obtain ⟨bA, oA, rfl, hbA, f0, f1, f2, f3, f4⟩ := hrw.five hlt
      have hbA2 : bA < wr.heap.size := Nat.lt_of_lt_of_le hbA I.below.size
      have HRD := Lib.hid (S.run_drop hlt s)
      clear hrw
      generalize l[k] = f at *
      obtain ⟨x0, x1, x2, x3, x4⟩ := f
      simp only at f0 f1 f2 f3 f4
      have hm9 : m ≤ 60 := by omega
      have hn9 : s.n ≤ 190 := by omega
      go_upto_region 9 with (fail)
      have I1 := I.on (bel_new wr (.cells #[.int .i64 x0, .int .i64 x1, .int .i64 x2, .int .i64 x3, .int .i64 x4] 59))
      have bk1 := Blk.new wr 59 #[.int .i64 x0, .int .i64 x1, .int .i64 x2, .int .i64 x3, .int .i64 x4]
      have hgS : gS < wr.heap.size := I.rs.lt
      have hgJ : gJ < wr.heap.size := I.rj.lt
      clear I f0 f1 f2 f3 f4
      generalize wr.alloc (.cells #[.int .i64 x0, .int .i64 x1, .int .i64 x2, .int .i64 x3, .int .i64 x4] 59) = w1 at *
      generalize wr.heap.size = gB at *
      have b0 := bk1.cell 0
      have b1 := bk1.cell 1
      have b2 := bk1.cell 2
      have b3 := bk1.cell 3
      have b4 := bk1.cell 4
      simp only [List.getElem?_toArray, List.getElem?_cons_succ, List.getElem?_cons_zero] at b0 b1 b2 b3 b4
      obtain ⟨cs, cj⟩ := I1.top hm
      have HL : Hid (s.last = s.last) := Lib.hid rfl
      have hmI : (m : Int) < (m : Int) + 1 := by omega
      clear hm
      by_cases hA : x1 = (s.last.1 : Int)
      · subst hA
        have qA : ((s.last.1 : Int) != (s.last.1 : Int)) = false := by simp
        go_region
        have I2 := I1.on (Below.refl _ _).drew
        have bk2 := bk1.drew
        clear I1 bk1 b0 b1 b2 b3 b4 cs cj qA
        generalize w1.drew = w2 at *
        have b0 := bk2.cell 0
        have b1 := bk2.cell 1
        have b2 := bk2.cell 2
        have b3 := bk2.cell 3
        have b4 := bk2.cell 4
        simp only [List.getElem?_toArray, List.getElem?_cons_succ, List.getElem?_cons_zero] at b0 b1 b2 b3 b4
        obtain ⟨cs, cj⟩ := I2.top HM.out
        by_cases k1 : x0 = 1
        · subst k1
          by_cases j0 : s.last.2 = 0
          · rw [j0] at cj
            by_cases e2 : x2 = (s.n : Int)
            · by_cases e3 : x3 = (s.n : Int) + 1
              · by_cases e4 : x4 = (s.n : Int) + 2
                · subst e2 e3 e4
                  have cap1 := I2.rs.caps
                  have cap2 := I2.rj.caps
                  have fj := I2.rj.frozen m
                  have fs := I2.rs.frozen m
                  have HOK : Hid (s.ok (1, (s.last.1 : Int), (s.n : Int), (s.n : Int) + 1, (s.n : Int) + 2)) := Lib.hid (S.ok_fork (by rw [if_pos j0]))
                  have hgne := I2.ne
                  go_upto_region 23 with (fail)
                  have T3 : Two w ((w2.setCell ⟨gJ, m, none⟩ (.int .i64 ((s.n : Int) + 2))).setCell ⟨gS, m, none⟩ (.int .i64 ((s.n : Int) + 1))) _ _ gS cS gJ cJ := (I2.two.setJ m (s.n + 2)).setS m (s.n + 1)
                  have bk3 := (bk2.far (p := ⟨gJ, m, none⟩) (Nat.ne_of_gt hgJ) (.int .i64 ((s.n : Int) + 2))).far (p := ⟨gS, m, none⟩) (Nat.ne_of_gt hgS) (.int .i64 ((s.n : Int) + 1))
                  generalize (w2.setCell ⟨gJ, m, none⟩ (.int .i64 ((s.n : Int) + 2))).setCell ⟨gS, m, none⟩ (.int .i64 ((s.n : Int) + 1)) = w3 at *
                  have HLA : Hid (((s.ts.map Prod.fst).set m (s.n + 1)).length = m + 1) := Lib.hid (by rw [List.length_set, List.length_map]; exact HM.out)
                  have HLB : Hid (((s.ts.map Prod.snd).set m (s.n + 2)).length = m + 1) := Lib.hid (by rw [List.length_set, List.length_map]; exact HM.out)
                  have HS2 : Hid ((s.ts.map Prod.fst).set m (s.n + 1) ++ [s.n] = (s.turn 1).ts.map Prod.fst ∧ (s.ts.map Prod.snd).set m (s.n + 2) ++ [0] = (s.turn 1).ts.map Prod.snd ∧ (s.turn 1).n = s.n + 3 ∧ (s.turn 1).ts.length = m + 1 + 1) := Lib.hid (by
                    obtain ⟨t1, t2⟩ := turn_fork0 HM.out j0
                    rw [t1]
                    refine ⟨?_, ?_, t2, ?_⟩
                    · simp [List.map_set]
                    · simp [List.map_set]
                    · simp [HM.out])
                  generalize (s.ts.map Prod.fst).set m (s.n + 1) = la at *
                  generalize (s.ts.map Prod.snd).set m (s.n + 2) = lb at *
                  have own3 := T3.rs
                  rw [HLA.out] at own3
                  clear I2 bk2 b0 b1 b2 b3 b4 cs cj fj fs
                  have hs3 := bk3.lt
                  have z2 := bk3.at_ (i := 2) rfl
                  have wb2 := T3.below
                  go_wp2_with (at_builtin; refine wpList_append_own_at _ rfl (.tmp 92) (.tmp 95) 23 rfl 0 3 i0 _ 1 8 Try.underlying23 hi hz0 hz1 hz2 rfl (by omega) _ _ _ rfl (own3.alloc _) ⟨w3.heap.size, 0, none⟩ 1 1 [.int .i64 (s.n : Int)] rfl rfl ?c1 ?c2 ?c3 ?c4 ?c5 ?_)
                  (first | (case c1 => exact cell_one_new _ _ _) | skip)
                  (first | (case c2 => simp [Value.oneCell']) | skip)
                  (first | (case c3 => simp only [maxLen]; omega) | skip)
                  (first | (case c4 => omega) | skip)
                  (first | (case c5 => simp) | skip)
                  intro v4 w4 ho4 hg4 _ hat4
                  obtain ⟨gS2, cS2, hv4, T4⟩ := T3.pushS _ HLA.out ho4 hg4 hat4
                  subst hv4
                  have own4 := T4.rj
                  rw [HLB.out] at own4
                  have wb4 := T4.below.size
                  clear ho4 hg4 hat4 T3 bk3 z2 hs3 own3
                  go_wp2_with (at_builtin; refine wpList_append_own_at _ rfl (.tmp 97) (.tmp 98) 23 rfl 0 3 i0 _ 1 8 Try.underlying23 hi hz0 hz1 hz2 rfl (by omega) _ _ _ rfl (own4.alloc _) ⟨w4.heap.size, 0, none⟩ 1 1 [.int .i64 0] rfl rfl ?d1 ?d2 ?d3 ?d4 ?d5 ?_)
                  (first | (case d1 => exact cell_one_new _ _ _) | skip)
                  (first | (case d2 => simp [Value.oneCell']) | skip)
                  (first | (case d3 => simp only [maxLen]; omega) | skip)
                  (first | (case d4 => omega) | skip)
                  (first | (case d5 => simp) | skip)
                  intro v5 w5 ho5 hg5 _ hat5
                  obtain ⟨gJ2, cJ2, hv5, T5⟩ := T4.pushJ _ HLB.out ho5 hg5 hat5
                  subst hv5
                  clear ho5 hg5 hat5 T4 own4
                  go_wp2_with fail
                  go_roundg (gk - 1)
                  case measure => have := HK.out; omega
                  case rel =>
                    obtain ⟨h1, h2, h3, h4⟩ := HS2.out
                    obtain ⟨m1, m2, m3, m4, m5⟩ := may_rel hg HOK.out rfl hn ht HR.out HRD.out T5 h1 h2
                    exact ⟨k + 1, gS2, cS2, gJ2, cJ2, s.turn 1, by have := HK.out; omega, by rw [h4], by rw [h4], by rw [h3]; rfl, by go_num, m1, m2, m3, m4, m5⟩
                · have HN : Hid (S.mayN l = -1) := Lib.hid (mayN_no HR.out HRD.out (fun h => by rcases S.ok_inv h with h | ⟨h9, h0, h⟩ | ⟨h0, h⟩ <;> simp only [Prod.mk.injEq, j0, if_true] at h <;> omega))
                  have q2 : (x2 != (s.n : Int)) = false := by simpa using e2
                  have q3 : (x3 != (s.n : Int) + 1) = false := by simpa using e3
                  have q4 : (x4 != (s.n : Int) + 2) = true := by simpa using e4
                  clear e2 e3 e4
                  go_wp2_with fail
                  go_ret
                  exact ⟨by rw [HN.out]; rfl, I2.below⟩

              · have HN : Hid (S.mayN l = -1) := Lib.hid (mayN_no HR.out HRD.out (fun h => by rcases S.ok_inv h with h | ⟨h9, h0, h⟩ | ⟨h0, h⟩ <;> simp only [Prod.mk.injEq, j0, if_true] at h <;> omega))
                have q2 : (x2 != (s.n : Int)) = false := by simpa using e2
                have q3 : (x3 != (s.n : Int) + 1) = true := by simpa using e3
                clear e2 e3
                go_wp2_with fail
                go_ret
                exact ⟨by rw [HN.out]; rfl, I2.below⟩

            · have HN : Hid (S.mayN l = -1) := Lib.hid (mayN_no HR.out HRD.out (fun h => by rcases S.ok_inv h with h | ⟨h9, h0, h⟩ | ⟨h0, h⟩ <;> simp only [Prod.mk.injEq, j0, if_true] at h <;> omega))
              have q2 : (x2 != (s.n : Int)) = true := by simpa using e2
              clear e2
              go_wp2_with fail
              go_ret
              exact ⟨by rw [HN.out]; rfl, I2.below⟩

          · have jn : ((s.last.2 : Int) == 0) = false := beq_false_of_ne (by omega)
            have HJ := Lib.hid j0
            by_cases e2 : x2 = (s.n : Int)
            · by_cases e3 : x3 = (s.n : Int) + 1
              · by_cases e4 : x4 = (s.last.2 : Int)
                · subst e2 e3 e4
                  have cap1 := I2.rs.caps
                  have cap2 := I2.rj.caps
                  have fs := I2.rs.frozen m
                  have HOK : Hid (s.ok (1, (s.last.1 : Int), (s.n : Int), (s.n : Int) + 1, (s.last.2 : Int))) := Lib.hid (S.ok_fork (by rw [if_neg j0]))
                  have hgne := I2.ne
                  have q2 : ((s.n : Int) != (s.n : Int)) = false := by simp
                  have q3 : ((s.n : Int) + 1 != (s.n : Int) + 1) = false := by simp
                  have q4 : ((s.last.2 : Int) != (s.last.2 : Int)) = false := by simp
                  clear j0
                  go_wp2_with fail
                  go_quiet (fail)
                  have I3 := I2.on (below_drewN (Below.refl _ _) nq)
                  have bk4 := bk2.drewN nq
                  clear I2 bk2 b0 b1 b2 b3 b4 cs cj fs q2 q3 q4
                  generalize w2.drewN nq = w4 at *
                  have fs := I3.rs.frozen m
                  obtain ⟨cs, cj⟩ := I3.top HM.out
                  have b3 := bk4.cell 3
                  simp only [List.getElem?_toArray, List.getElem?_cons_succ, List.getElem?_cons_zero] at b3
                  go_upto_region 23 with (fail)
                  have T3 : Two w (w4.setCell ⟨gS, m, none⟩ (.int .i64 ((s.n : Int) + 1))) _ _ gS cS gJ cJ := I3.two.setS m (s.n + 1)
                  have bk3 := bk4.far (p := ⟨gS, m, none⟩) (Nat.ne_of_gt hgS) (.int .i64 ((s.n : Int) + 1))
                  generalize w4.setCell ⟨gS, m, none⟩ (.int .i64 ((s.n : Int) + 1)) = w3 at *
                  have HLA : Hid (((s.ts.map Prod.fst).set m (s.n + 1)).length = m + 1) := Lib.hid (by rw [List.length_set, List.length_map]; exact HM.out)
                  have HLB : Hid ((s.ts.map Prod.snd).length = m + 1) := Lib.hid (by rw [List.length_map]; exact HM.out)
                  have HS2 : Hid ((s.ts.map Prod.fst).set m (s.n + 1) ++ [s.n] = (s.turn 1).ts.map Prod.fst ∧ (s.ts.map Prod.snd) ++ [0] = (s.turn 1).ts.map Prod.snd ∧ (s.turn 1).n = s.n + 2 ∧ (s.turn 1).ts.length = m + 1 + 1) := Lib.hid (by
                    obtain ⟨t1, t2⟩ := turn_fork1 HM.out HJ.out
                    rw [t1]
                    refine ⟨?_, ?_, t2, ?_⟩
                    · simp [List.map_set]
                    · simp only [List.map_append, List.map_set, List.map_cons, List.map_nil]
                      rw [← snd_last HM.out]
                    · simp [HM.out])
                  generalize (s.ts.map Prod.fst).set m (s.n + 1) = la at *
                  generalize s.ts.map Prod.snd = lb at *
                  have own3 := T3.rs
                  rw [HLA.out] at own3
                  clear I3 bk4 b3 cs cj fs
                  have hs3 := bk3.lt
                  have z2 := bk3.at_ (i := 2) rfl
                  have wb2 := T3.below
                  go_wp2_with (at_builtin; refine wpList_append_own_at _ rfl (.tmp 92) (.tmp 95) 23 rfl 0 3 i0 _ 1 8 Try.underlying23 hi hz0 hz1 hz2 rfl (by omega) _ _ _ rfl (own3.alloc _) ⟨w3.heap.size, 0, none⟩ 1 1 [.int .i64 (s.n : Int)] rfl rfl ?k1 ?k2 ?k3 ?k4 ?k5 ?_)
                  (first | (case k1 => exact cell_one_new _ _ _) | skip)
                  (first | (case k2 => simp [Value.oneCell']) | skip)
                  (first | (case k3 => simp only [maxLen]; omega) | skip)
                  (first | (case k4 => omega) | skip)
                  (first | (case k5 => simp) | skip)
                  intro v4 w4 ho4 hg4 _ hat4
                  obtain ⟨gS2, cS2, hv4, T4⟩ := T3.pushS _ HLA.out ho4 hg4 hat4
                  subst hv4
                  have own4 := T4.rj
                  rw [HLB.out] at own4
                  have wb4 := T4.below.size
                  clear ho4 hg4 hat4 T3 bk3 z2 hs3 own3
                  go_wp2_with (at_builtin; refine wpList_append_own_at _ rfl (.tmp 97) (.tmp 98) 23 rfl 0 3 i0 _ 1 8 Try.underlying23 hi hz0 hz1 hz2 rfl (by omega) _ _ _ rfl (own4.alloc _) ⟨w4.heap.size, 0, none⟩ 1 1 [.int .i64 0] rfl rfl ?l1 ?l2 ?l3 ?l4 ?l5 ?_)
                  (first | (case l1 => exact cell_one_new _ _ _) | skip)
                  (first | (case l2 => simp [Value.oneCell']) | skip)
                  (first | (case l3 => simp only [maxLen]; omega) | skip)
                  (first | (case l4 => omega) | skip)
                  (first | (case l5 => simp) | skip)
                  intro v5 w5 ho5 hg5 _ hat5
                  obtain ⟨gJ2, cJ2, hv5, T5⟩ := T4.pushJ _ HLB.out ho5 hg5 hat5
                  subst hv5
                  clear ho5 hg5 hat5 T4 own4
                  go_wp2_with fail
                  go_roundg (gk - 1)
                  case measure => have := HK.out; omega
                  case rel =>
                    obtain ⟨h1, h2, h3, h4⟩ := HS2.out
                    obtain ⟨m1, m2, m3, m4, m5⟩ := may_rel hg HOK.out rfl hn ht HR.out HRD.out T5 h1 h2
                    exact ⟨k + 1, gS2, cS2, gJ2, cJ2, s.turn 1, by have := HK.out; omega, by rw [h4], by rw [h4], by rw [h3]; rfl, by go_num, m1, m2, m3, m4, m5⟩
                · have HN : Hid (S.mayN l = -1) := Lib.hid (mayN_no HR.out HRD.out (fun h => by rcases S.ok_inv h with h | ⟨h9, h0, h⟩ | ⟨h0, h⟩ <;> simp only [Prod.mk.injEq, j0, if_false, if_true] at h <;> omega))
                  have q2 : (x2 != (s.n : Int)) = false := by simpa using e2
                  have q3 : (x3 != (s.n : Int) + 1) = false := by simpa using e3
                  have q4 : (x4 != (s.last.2 : Int)) = true := by simpa using e4
                  clear e2 e3 e4 j0
                  go_wp2_with fail
                  go_quiet (fail)
                  go_wp2_with fail
                  go_ret
                  exact ⟨by rw [HN.out]; rfl, I2.below.trans (below_drewN (Below.refl _ _) _)⟩
              · have HN : Hid (S.mayN l = -1) := Lib.hid (mayN_no HR.out HRD.out (fun h => by rcases S.ok_inv h with h | ⟨h9, h0, h⟩ | ⟨h0, h⟩ <;> simp only [Prod.mk.injEq, j0, if_false, if_true] at h <;> omega))
                have q2 : (x2 != (s.n : Int)) = false := by simpa using e2
                have q3 : (x3 != (s.n : Int) + 1) = true := by simpa using e3
                clear e2 e3 j0
                go_wp2_with fail
                go_quiet (fail)
                go_wp2_with fail
                go_ret
                exact ⟨by rw [HN.out]; rfl, I2.below.trans (below_drewN (Below.refl _ _) _)⟩
            · have HN : Hid (S.mayN l = -1) := Lib.hid (mayN_no HR.out HRD.out (fun h => by rcases S.ok_inv h with h | ⟨h9, h0, h⟩ | ⟨h0, h⟩ <;> simp only [Prod.mk.injEq, j0, if_false, if_true] at h <;> omega))
              have q2 : (x2 != (s.n : Int)) = true := by simpa using e2
              clear e2 j0
              go_wp2_with fail
              go_quiet (fail)
              go_wp2_with fail
              go_ret
              exact ⟨by rw [HN.out]; rfl, I2.below.trans (below_drewN (Below.refl _ _) _)⟩
        · by_cases k2 : x0 = 2
          · subst k2
            by_cases m1 : 1 ≤ m
            · have cp := I2.pen HM.out m1
              have HJP : Hid ((s.ts.getD (s.ts.length - 2) (0, 0)).2 = (s.ts.getD (s.ts.length - 2) (0, 0)).2) := Lib.hid rfl
              have hno2 : ∀ f, s.ok f → f.1 = 2 → s.last.2 = 0 ∧ f.2.2.1 = 0 ∧ f.2.2.2.1 = 0 ∧ f.2.2.2.2 = ((s.ts.getD (s.ts.length - 2) (0, 0)).2 : Int) := by
                intro f h hf
                rcases S.ok_inv h with h | ⟨h9, h0, h⟩ | ⟨h0, h⟩ <;> subst h
                · cases hf
                · exact ⟨h0, rfl, rfl, rfl⟩
                · cases hf
              have HNO := Lib.hid hno2
              have HYES : Hid (∀ f, s.last.2 = 0 → f = (2, (s.last.1 : Int), 0, 0, ((s.ts.getD (s.ts.length - 2) (0, 0)).2 : Int)) → s.ok f) := Lib.hid (fun f h0 h => S.ok_end (by have := HM.out; omega) h0 h)
              clear hno2 HJP
              generalize (s.ts.getD (s.ts.length - 2) (0, 0)).2 = jp at *
              have q1 : decide ((m : Int) < 1) = false := by simp; omega
              by_cases j0 : s.last.2 = 0
              · rw [j0] at cj
                by_cases e2 : x2 = 0
                · by_cases e3 : x3 = 0
                  · by_cases e4 : x4 = (jp : Int)
                    · subst e2 e3 e4
                      have cap1 := I2.rs.caps
                      have cap2 := I2.rj.caps
                      have hc1 : m ≤ cS := by have := HM.out; omega
                      have hc2 : m ≤ cJ := by have := HM.out; omega
                      have hc3 := cap1.2
                      have hc4 := cap2.2
                      have q4 : ((jp : Int) != (jp : Int)) = false := by simp
                      have HOK := Lib.hid (HYES.out _ j0 rfl)
                      clear cap1 cap2
                      go_wp2_with fail
                      go_region
                      go_wp2_with fail
                      go_roundg (gk - 1)
                      case measure => have := HK.out; omega
                      case rel =>
                        obtain ⟨h3, h4⟩ := turn_end2 HM.out
                        have hml : (s.turn 2).ts.length = m := by rw [h3, List.length_take, HM.out]; omega
                        have T5 := (I2.two.on (Below.refl _ _).drew).take (m := m) (by rw [List.length_map, HM.out]; omega) (by rw [List.length_map, HM.out]; omega)
                        obtain ⟨m1, m2, m3, m4, m5⟩ := may_rel hg HOK.out rfl hn ht HR.out HRD.out T5 (by show _ = (s.turn 2).ts.map _; rw [h3, List.map_take]) (by show _ = (s.turn 2).ts.map _; rw [h3, List.map_take])
                        exact ⟨k + 1, gS, cS, gJ, cJ, s.turn 2, by have := HK.out; omega, by rw [hml], by rw [hml], by rw [h4], by go_num, m1, m2, m3, m4, m5⟩
                    · have HN : Hid (S.mayN l = -1) := Lib.hid (mayN_no HR.out HRD.out (fun h => by have h7 := HNO.out _ h rfl; simp only at h7; omega))
                      have q2 : (x2 != 0) = false := by simpa using e2
                      have q3 : (x3 != 0) = false := by simpa using e3
                      have q4 : (x4 != (jp : Int)) = true := by simpa using e4
                      clear e2 e3 e4
                      go_wp2_with fail
                      go_region
                      go_wp2_with fail
                      go_ret
                      exact ⟨by rw [HN.out]; rfl, I2.below.drew⟩
                  · have HN : Hid (S.mayN l = -1) := Lib.hid (mayN_no HR.out HRD.out (fun h => by have h7 := HNO.out _ h rfl; simp only at h7; omega))
                    have q2 : (x2 != 0) = false := by simpa using e2
                    have q3 : (x3 != 0) = true := by simpa using e3
                    clear e2 e3
                    go_wp2_with fail
                    go_ret
                    exact ⟨by rw [HN.out]; rfl, I2.below⟩
                · have HN : Hid (S.mayN l = -1) := Lib.hid (mayN_no HR.out HRD.out (fun h => by have h7 := HNO.out _ h rfl; simp only at h7; omega))
                  have q2 : (x2 != 0) = true := by simpa using e2
                  clear e2
                  go_wp2_with fail
                  go_ret
                  exact ⟨by rw [HN.out]; rfl, I2.below⟩
              · have HN : Hid (S.mayN l = -1) := Lib.hid (mayN_no HR.out HRD.out (fun h => by have h7 := HNO.out _ h rfl; simp only at h7; omega))
                have jn : ((s.last.2 : Int) != 0) = true := by simpa using j0
                clear j0
                go_wp2_with fail
                go_ret
                exact ⟨by rw [HN.out]; rfl, I2.below⟩
            · have HN : Hid (S.mayN l = -1) := Lib.hid (mayN_no HR.out HRD.out (fun h => by have hmm := HM.out; rcases S.ok_inv h with h | ⟨h9, h0, h⟩ | ⟨h0, h⟩ <;> simp only [Prod.mk.injEq] at h <;> omega))
              have q1 : decide ((m : Int) < 1) = true := by simp; omega
              clear m1
              go_wp2_with fail
              go_ret
              exact ⟨by rw [HN.out]; rfl, I2.below⟩
          · by_cases k3 : x0 = 3
            · subst k3
              have HNO : Hid (∀ f, s.ok f → f.1 = 3 → s.last.2 ≠ 0 ∧ f.2.2.1 = 0 ∧ f.2.2.2.1 = 0 ∧ f.2.2.2.2 = (s.last.2 : Int)) := Lib.hid (by
                intro f h hf
                rcases S.ok_inv h with h | ⟨h9, h0, h⟩ | ⟨h0, h⟩ <;> subst h
                · cases hf
                · cases hf
                · exact ⟨h0, rfl, rfl, rfl⟩)
              by_cases j0 : s.last.2 = 0
              · have HN : Hid (S.mayN l = -1) := Lib.hid (mayN_no HR.out HRD.out (fun h => by have h7 := HNO.out _ h rfl; simp only at h7; omega))
                have jn : ((s.last.2 : Int) == 0) = true := by simpa using j0
                clear j0
                go_wp2_with fail
                go_quiet (fail)
                go_wp2_with fail
                go_ret
                exact ⟨by rw [HN.out]; rfl, I2.below.trans (below_drewN (Below.refl _ _) _)⟩
              · have jn : ((s.last.2 : Int) == 0) = false := beq_false_of_ne (by omega)
                by_cases e4 : x4 = (s.last.2 : Int)
                · by_cases e2 : x2 = 0
                  · by_cases e3 : x3 = 0
                    · subst e2 e3 e4
                      have q4 : ((s.last.2 : Int) != (s.last.2 : Int)) = false := by simp
                      have HOK : Hid (s.ok (3, (s.last.1 : Int), 0, 0, (s.last.2 : Int))) := Lib.hid (S.ok_join j0 rfl)
                      have cap1 := I2.rs.caps
                      have cap2 := I2.rj.caps
                      have hgne := I2.ne
                      clear j0
                      go_wp2_with fail
                      go_quiet (fail)
                      have I3 := I2.on (below_drewN (Below.refl _ _) nq)
                      have bk4 := bk2.drewN nq
                      clear I2 bk2 b0 b1 b2 b3 b4 cs cj q4
                      generalize w2.drewN nq = w4 at *
                      have fs := I3.rs.frozen m
                      have fj := I3.rj.frozen m
                      obtain ⟨cs, cj⟩ := I3.top HM.out
                      have b4 := bk4.cell 4
                      simp only [List.getElem?_toArray, List.getElem?_cons_succ, List.getElem?_cons_zero] at b4
                      go_wp2_with fail
                      go_roundg (gk - 1)
                      case measure => have := HK.out; omega
                      case rel =>
                        obtain ⟨h3, h4⟩ := turn_join3 HM.out
                        have hml : (s.turn 3).ts.length = m + 1 := by rw [h3, List.length_set, HM.out]
                        have T5 := (I3.two.setS m s.last.2).setJ m 0
                        obtain ⟨m1, m2, m3, m4, m5⟩ := may_rel hg HOK.out rfl hn ht HR.out HRD.out T5 (by show _ = (s.turn 3).ts.map _; rw [h3, List.map_set]) (by show _ = (s.turn 3).ts.map _; rw [h3, List.map_set])
                        exact ⟨k + 1, gS, cS, gJ, cJ, s.turn 3, by have := HK.out; omega, by rw [hml], by rw [hml], by rw [h4], by go_num, m1, m2, m3, m4, m5⟩
                    · have HN : Hid (S.mayN l = -1) := Lib.hid (mayN_no HR.out HRD.out (fun h => by have h7 := HNO.out _ h rfl; simp only at h7; omega))
                      have q4 : (x4 != (s.last.2 : Int)) = false := by simpa using e4
                      have q2 : (x2 != 0) = false := by simpa using e2
                      have q3 : (x3 != 0) = true := by simpa using e3
                      clear e4 e2 e3 j0
                      go_wp2_with fail
                      go_quiet (fail)
                      go_wp2_with fail
                      go_ret
                      exact ⟨by rw [HN.out]; rfl, I2.below.trans (below_drewN (Below.refl _ _) _)⟩
                  · have HN : Hid (S.mayN l = -1) := Lib.hid (mayN_no HR.out HRD.out (fun h => by have h7 := HNO.out _ h rfl; simp only at h7; omega))
                    have q4 : (x4 != (s.last.2 : Int)) = false := by simpa using e4
                    have q2 : (x2 != 0) = true := by simpa using e2
                    clear e4 e2 j0
                    go_wp2_with fail
                    go_quiet (fail)
                    go_wp2_with fail
                    go_ret
                    exact ⟨by rw [HN.out]; rfl, I2.below.trans (below_drewN (Below.refl _ _) _)⟩
                · have HN : Hid (S.mayN l = -1) := Lib.hid (mayN_no HR.out HRD.out (fun h => by have h7 := HNO.out _ h rfl; simp only at h7; omega))
                  have q4 : (x4 != (s.last.2 : Int)) = true := by simpa using e4
                  clear e4 j0
                  go_wp2_with fail
                  go_quiet (fail)
                  go_wp2_with fail
                  go_ret
                  exact ⟨by rw [HN.out]; rfl, I2.below.trans (below_drewN (Below.refl _ _) _)⟩
            · have HN : Hid (S.mayN l = -1) := Lib.hid (mayN_no HR.out HRD.out (fun h => by rcases S.ok_inv h with h | ⟨h9, h0, h⟩ | ⟨h0, h⟩ <;> simp only [Prod.mk.injEq] at h <;> omega))
              have q1 : (x0 == 1) = false := by simpa using k1
              have q2 : (x0 == 2) = false := by simpa using k2
              have q3 : (x0 == 3) = false := by simpa using k3
              clear k1 k2 k3
              go_wp2_with fail
              go_ret
              exact ⟨by rw [HN.out]; rfl, I2.below⟩
      · have HN : Hid (S.mayN l = -1) := Lib.hid (mayN_no HR.out HRD.out (fun h => by
          rcases S.ok_inv h with h | ⟨_, _, h⟩ | ⟨_, h⟩ <;> simp only [Prod.mk.injEq] at h <;> exact hA h.2.1))
        have q1 : (x1 != (s.last.1 : Int)) = true := by simpa using hA
        clear hA
        go_region
        go_wp2_with fail
        go_ret
        exact ⟨by rw [HN.out]; rfl, I1.below.drew⟩
    · obtain rfl : gk = 0 := by omega
      have HN : Hid (S.mayN l = (s.n : Int)) := Lib.hid (by
        have e1 : l.drop k = [] := List.drop_of_length_le (by omega)
        have h1 := HR.out
        rw [e1] at h1
        unfold S.mayN
        rw [h1]; rfl)
      clear hk hm
      go_wp2_with fail
      go_ret
      exact ⟨by rw [HN.out]; rfl, I.below⟩
end Go.Proofs.Ytahhihhfjimppaa
