/- walk: the document's example -/
import Derived.Test.YtahhihhfjimppaaBdL
namespace Go.Proofs.Ytahhihhfjimppaa
open Go.RowKit
set_option linter.unusedSimpArgs false
set_option linter.unusedVariables false
set_option maxRecDepth 100000

/-- the example -/
def exE (g : Nat) : El := ⟨0, 0, none, 0, 0, none, 0, 0, none, 0, 0, none, 0, 0, some ⟨g + 1 + 1, 0, none⟩, 3, 3, some ⟨g, 0, none⟩, 3, 3, 0, 2, none, 0, 0⟩
def exZ : El := ⟨0, 0, none, 0, 0, none, 0, 0, none, 0, 0, none, 0, 0, none, 0, 0, none, 0, 0, 0, 1, none, 0, 0⟩
theorem plain_run : ∃ s, S.run S.init S.plain = some s ∧ s.n = 4 ∧ s.places = S.plainP := ⟨_, rfl, by decide, by decide⟩
theorem chain_plain : B.chain (S.lds S.plainP) [1, 2, 3] = [0, 2] := by decide
theorem ex_is {w' : World} {g : Nat} (h0 : Blk w' g 59 #[.int .i64 1, .int .i64 0, .int .i64 1, .int .i64 2, .int .i64 3, .int .i64 2, .int .i64 1, .int .i64 0, .int .i64 0, .int .i64 3, .int .i64 3, .int .i64 2, .int .i64 0, .int .i64 0, .int .i64 3]) (h2 : Blk w' (g + 1 + 1) 46 #[.int .i64 1, .slice none 0 0, .int .i64 0, .int .i64 0, .int .i64 0, .int .i64 0, .int .i64 0, .int .i64 0, .int .i64 0, .bool false, .int .i64 2, .slice none 0 0, .int .i64 0, .int .i64 0, .int .i64 0, .int .i64 0, .int .i64 0, .int .i64 0, .int .i64 0, .bool false, .int .i64 3, .slice none 0 0, .int .i64 0, .int .i64 0, .int .i64 0, .int .i64 0, .int .i64 0, .int .i64 0, .int .i64 0, .bool false]) : (exE g).Is w' [1, 2, 3] S.plain := by
  have l0 := h0.lt
  have l2 := h2.lt
  refine ⟨.inr ⟨g + 1 + 1, 0, rfl, l2, fun i hi => ?_⟩, .inr ⟨g, 0, rfl, l0, fun j u hu => ?_⟩, rfl, rfl⟩
  · rw [Nat.zero_add, h2.cell]
    match i, hi with
    | 0, _ => rfl
    | 1, _ => rfl
    | 2, _ => rfl
  · have e : (#[.int .i64 1, .int .i64 0, .int .i64 1, .int .i64 2, .int .i64 3, .int .i64 2, .int .i64 1, .int .i64 0, .int .i64 0, .int .i64 3, .int .i64 3, .int .i64 2, .int .i64 0, .int .i64 0, .int .i64 3] : Array Value) = (fcs S.plain).toArray := rfl
    rw [Nat.zero_add, h0.cell, ← hu, e, List.getElem?_toArray]

set_option maxHeartbeats 4000000 in
theorem shown_any (w : World) : Calls Try.prog 6 #[] w (Ret (.bool true) w) := by
  obtain ⟨s, hrun, hn, hpl⟩ := plain_run
  have hWk : ∀ (g : Nat) w, Calls Try.prog 11 #[.agg #[.int .i64 0, .int .i64 0, .slice none 0 0, .slice none 0 0, .slice none 0 0, .slice none 0 0, .slice (some ⟨g + 1 + 1, 0, none⟩) 3 3, .slice (some ⟨g, 0, none⟩) 3 3, .int .i64 0, .int .i64 2, .slice none 0 0]] w (Ret (.int .i64 3) w) := fun g w => work_any (exE g) w (show (3 : Nat) ≤ 1000 by decide)
  have hSp : ∀ (g : Nat) w, (exE g).Is w [1, 2, 3] S.plain → Calls Try.prog 13 #[.agg #[.int .i64 0, .int .i64 0, .slice none 0 0, .slice none 0 0, .slice none 0 0, .slice none 0 0, .slice (some ⟨g + 1 + 1, 0, none⟩) 3 3, .slice (some ⟨g, 0, none⟩) 3 3, .int .i64 0, .int .i64 2, .slice none 0 0]] w (Ret (.int .i64 2) w) := fun g w h => by
    have := span_any (exE g) [1, 2, 3] S.plain s w h (by decide) (by decide) hrun (by rw [hn]; decide)
    rw [hpl, chain_plain] at this
    exact this
  have hCh : ∀ (g : Nat) w, (exE g).Is w [1, 2, 3] S.plain → Calls Try.prog 9 #[.agg #[.int .i64 0, .int .i64 0, .slice none 0 0, .slice none 0 0, .slice none 0 0, .slice none 0 0, .slice (some ⟨g + 1 + 1, 0, none⟩) 3 3, .slice (some ⟨g, 0, none⟩) 3 3, .int .i64 0, .int .i64 2, .slice none 0 0]] w (MadeN w [0, 2]) := fun g w h => by
    have := chain_any (exE g) [1, 2, 3] S.plain s w h (by decide) (by decide) hrun (by rw [hn]; decide)
    rw [hpl, chain_plain] at this
    exact this
  have hS1 : ∀ w, Calls Try.prog 12 #[.agg #[.int .i64 1, .int .i64 3, .int .i64 0, .int .i64 0, .int .i64 0, .int .i64 0, .int .i64 0, .int .i64 0, .int .i64 0], .agg #[.int .i64 0, .int .i64 0, .slice none 0 0, .slice none 0 0, .slice none 0 0, .slice none 0 0, .slice none 0 0, .slice none 0 0, .int .i64 0, .int .i64 1, .slice none 0 0], .int .i64 10] w (Ret (.int .i64 3207207) w) := fun w => by
    have := steps_any exZ 1 3 0 0 0 0 0 0 0 10 w (by decide)
    rw [show B.steps 1 3 exZ.n6 exZ.e9 10 = 3207207 by decide] at this
    exact this
  have hS2 : ∀ (g : Nat) w, Calls Try.prog 12 #[.agg #[.int .i64 0, .int .i64 0, .int .i64 0, .int .i64 0, .int .i64 0, .int .i64 0, .int .i64 0, .int .i64 0, .int .i64 0], .agg #[.int .i64 0, .int .i64 0, .slice none 0 0, .slice none 0 0, .slice none 0 0, .slice none 0 0, .slice (some ⟨g + 1 + 1, 0, none⟩) 3 3, .slice (some ⟨g, 0, none⟩) 3 3, .int .i64 0, .int .i64 2, .slice none 0 0], .int .i64 0] w (Ret (.int .i64 (-1)) w) := fun g w => by
    have := steps_any (exE g) 0 0 0 0 0 0 0 0 0 0 w (show (3 : Nat) ≤ 1000 by decide)
    have e : B.steps 0 0 (exE g).n6 (exE g).e9 0 = -1 := (show B.steps 0 0 3 2 0 = -1 by decide)
    rw [e] at this
    exact this
  go_enter Try.func6, Try.ntmps6
  go_upto_region 3 with (fail)
  have s1 : (w.alloc (.cells #[.int .i64 1, .int .i64 0, .int .i64 1, .int .i64 2, .int .i64 3, .int .i64 2, .int .i64 1, .int .i64 0, .int .i64 0, .int .i64 3, .int .i64 3, .int .i64 2, .int .i64 0, .int .i64 0, .int .i64 3] 59)).heap.size = w.heap.size + 1 := by simp
  have s2 : ((w.alloc (.cells #[.int .i64 1, .int .i64 0, .int .i64 1, .int .i64 2, .int .i64 3, .int .i64 2, .int .i64 1, .int .i64 0, .int .i64 0, .int .i64 3, .int .i64 3, .int .i64 2, .int .i64 0, .int .i64 0, .int .i64 3] 59)).alloc (.cells #[.int .i64 0, .int .i64 0, .slice none 0 0, .slice none 0 0, .slice none 0 0, .slice none 0 0, .slice (some ⟨w.heap.size + 1 + 1, 0, none⟩) 3 3, .slice (some ⟨w.heap.size, 0, none⟩) 3 3, .int .i64 0, .int .i64 2, .slice none 0 0] 29)).heap.size = w.heap.size + 1 + 1 := by simp
  have k0 := ((Blk.new w 59 #[.int .i64 1, .int .i64 0, .int .i64 1, .int .i64 2, .int .i64 3, .int .i64 2, .int .i64 1, .int .i64 0, .int .i64 0, .int .i64 3, .int .i64 3, .int .i64 2, .int .i64 0, .int .i64 0, .int .i64 3]).alloc (.cells #[.int .i64 0, .int .i64 0, .slice none 0 0, .slice none 0 0, .slice none 0 0, .slice none 0 0, .slice (some ⟨w.heap.size + 1 + 1, 0, none⟩) 3 3, .slice (some ⟨w.heap.size, 0, none⟩) 3 3, .int .i64 0, .int .i64 2, .slice none 0 0] 29)).alloc (.cells #[.int .i64 1, .slice none 0 0, .int .i64 0, .int .i64 0, .int .i64 0, .int .i64 0, .int .i64 0, .int .i64 0, .int .i64 0, .bool false, .int .i64 2, .slice none 0 0, .int .i64 0, .int .i64 0, .int .i64 0, .int .i64 0, .int .i64 0, .int .i64 0, .int .i64 0, .bool false, .int .i64 3, .slice none 0 0, .int .i64 0, .int .i64 0, .int .i64 0, .int .i64 0, .int .i64 0, .int .i64 0, .int .i64 0, .bool false] 46)
  have k1 := (Blk.new (w.alloc (.cells #[.int .i64 1, .int .i64 0, .int .i64 1, .int .i64 2, .int .i64 3, .int .i64 2, .int .i64 1, .int .i64 0, .int .i64 0, .int .i64 3, .int .i64 3, .int .i64 2, .int .i64 0, .int .i64 0, .int .i64 3] 59)) 29 #[.int .i64 0, .int .i64 0, .slice none 0 0, .slice none 0 0, .slice none 0 0, .slice none 0 0, .slice (some ⟨w.heap.size + 1 + 1, 0, none⟩) 3 3, .slice (some ⟨w.heap.size, 0, none⟩) 3 3, .int .i64 0, .int .i64 2, .slice none 0 0]).alloc (.cells #[.int .i64 1, .slice none 0 0, .int .i64 0, .int .i64 0, .int .i64 0, .int .i64 0, .int .i64 0, .int .i64 0, .int .i64 0, .bool false, .int .i64 2, .slice none 0 0, .int .i64 0, .int .i64 0, .int .i64 0, .int .i64 0, .int .i64 0, .int .i64 0, .int .i64 0, .bool false, .int .i64 3, .slice none 0 0, .int .i64 0, .int .i64 0, .int .i64 0, .int .i64 0, .int .i64 0, .int .i64 0, .int .i64 0, .bool false] 46)
  have k2 := Blk.new ((w.alloc (.cells #[.int .i64 1, .int .i64 0, .int .i64 1, .int .i64 2, .int .i64 3, .int .i64 2, .int .i64 1, .int .i64 0, .int .i64 0, .int .i64 3, .int .i64 3, .int .i64 2, .int .i64 0, .int .i64 0, .int .i64 3] 59)).alloc (.cells #[.int .i64 0, .int .i64 0, .slice none 0 0, .slice none 0 0, .slice none 0 0, .slice none 0 0, .slice (some ⟨w.heap.size + 1 + 1, 0, none⟩) 3 3, .slice (some ⟨w.heap.size, 0, none⟩) 3 3, .int .i64 0, .int .i64 2, .slice none 0 0] 29)) 46 #[.int .i64 1, .slice none 0 0, .int .i64 0, .int .i64 0, .int .i64 0, .int .i64 0, .int .i64 0, .int .i64 0, .int .i64 0, .bool false, .int .i64 2, .slice none 0 0, .int .i64 0, .int .i64 0, .int .i64 0, .int .i64 0, .int .i64 0, .int .i64 0, .int .i64 0, .bool false, .int .i64 3, .slice none 0 0, .int .i64 0, .int .i64 0, .int .i64 0, .int .i64 0, .int .i64 0, .int .i64 0, .int .i64 0, .bool false]
  rw [s1] at k1
  rw [s2] at k2
  have b1 : Below w.heap.size w (((w.alloc (.cells #[.int .i64 1, .int .i64 0, .int .i64 1, .int .i64 2, .int .i64 3, .int .i64 2, .int .i64 1, .int .i64 0, .int .i64 0, .int .i64 3, .int .i64 3, .int .i64 2, .int .i64 0, .int .i64 0, .int .i64 3] 59)).alloc (.cells #[.int .i64 0, .int .i64 0, .slice none 0 0, .slice none 0 0, .slice none 0 0, .slice none 0 0, .slice (some ⟨w.heap.size + 1 + 1, 0, none⟩) 3 3, .slice (some ⟨w.heap.size, 0, none⟩) 3 3, .int .i64 0, .int .i64 2, .slice none 0 0] 29)).alloc (.cells #[.int .i64 1, .slice none 0 0, .int .i64 0, .int .i64 0, .int .i64 0, .int .i64 0, .int .i64 0, .int .i64 0, .int .i64 0, .bool false, .int .i64 2, .slice none 0 0, .int .i64 0, .int .i64 0, .int .i64 0, .int .i64 0, .int .i64 0, .int .i64 0, .int .i64 0, .bool false, .int .i64 3, .slice none 0 0, .int .i64 0, .int .i64 0, .int .i64 0, .int .i64 0, .int .i64 0, .int .i64 0, .int .i64 0, .bool false] 46)) := ((bel_new w _).alloc (by simp) _).alloc (by simp; omega) _
  generalize ((w.alloc (.cells #[.int .i64 1, .int .i64 0, .int .i64 1, .int .i64 2, .int .i64 3, .int .i64 2, .int .i64 1, .int .i64 0, .int .i64 0, .int .i64 3, .int .i64 3, .int .i64 2, .int .i64 0, .int .i64 0, .int .i64 3] 59)).alloc (.cells #[.int .i64 0, .int .i64 0, .slice none 0 0, .slice none 0 0, .slice none 0 0, .slice none 0 0, .slice (some ⟨w.heap.size + 1 + 1, 0, none⟩) 3 3, .slice (some ⟨w.heap.size, 0, none⟩) 3 3, .int .i64 0, .int .i64 2, .slice none 0 0] 29)).alloc (.cells #[.int .i64 1, .slice none 0 0, .int .i64 0, .int .i64 0, .int .i64 0, .int .i64 0, .int .i64 0, .int .i64 0, .int .i64 0, .bool false, .int .i64 2, .slice none 0 0, .int .i64 0, .int .i64 0, .int .i64 0, .int .i64 0, .int .i64 0, .int .i64 0, .int .i64 0, .bool false, .int .i64 3, .slice none 0 0, .int .i64 0, .int .i64 0, .int .i64 0, .int .i64 0, .int .i64 0, .int .i64 0, .int .i64 0, .bool false] 46) = w1 at *
  generalize hg : w.heap.size = g at *
  have HG := Lib.hid hg
  clear s1 s2 hg
  have g0 := k0.lt
  have g1 := k1.lt
  have g2 := k2.lt
  have HKE : Hid (∀ w', Below w1.heap.size w1 w' → (w'.cell? ⟨g + 1, 0, none⟩ = some (.int .i64 0) ∧ w'.cell? ⟨g + 1, 1, none⟩ = some (.int .i64 0) ∧ w'.cell? ⟨g + 1, 2, none⟩ = some (.slice none 0 0) ∧ w'.cell? ⟨g + 1, 3, none⟩ = some (.slice none 0 0) ∧ w'.cell? ⟨g + 1, 4, none⟩ = some (.slice none 0 0) ∧ w'.cell? ⟨g + 1, 5, none⟩ = some (.slice none 0 0) ∧ w'.cell? ⟨g + 1, 6, none⟩ = some (.slice (some ⟨g + 1 + 1, 0, none⟩) 3 3) ∧ w'.cell? ⟨g + 1, 7, none⟩ = some (.slice (some ⟨g, 0, none⟩) 3 3) ∧ w'.cell? ⟨g + 1, 8, none⟩ = some (.int .i64 0) ∧ w'.cell? ⟨g + 1, 9, none⟩ = some (.int .i64 2) ∧ w'.cell? ⟨g + 1, 10, none⟩ = some (.slice none 0 0)) ∧ (exE g).Is w' [1, 2, 3] S.plain) := Lib.hid (fun w' hb => by
    have z1 := k1.below hb g1
    exact ⟨⟨z1.cell 0, z1.cell 1, z1.cell 2, z1.cell 3, z1.cell 4, z1.cell 5, z1.cell 6, z1.cell 7, z1.cell 8, z1.cell 9, z1.cell 10⟩, ex_is (k0.below hb g0) (k2.below hb g2)⟩)
  obtain ⟨⟨d0, d1, d2, d3, d4, d5, d6, d7, d8, d9, d10⟩, h1⟩ := HKE.out _ (Below.refl _ _)
  clear k0 k1 k2
  go_wp2_with (go_at_call 11; refine (hWk g _).mono ?_)
  rintro e2 w2 ⟨rfl, b2⟩
  clear d0 d1 d2 d3 d4 d5 d6 d7 d8 d9 d10 h1
  obtain ⟨⟨d0, d1, d2, d3, d4, d5, d6, d7, d8, d9, d10⟩, h1⟩ := HKE.out _ b2
  go_wp2_with (go_at_call 13; refine (hSp g _ h1).mono ?_)
  rintro e3 w3 ⟨rfl, b3'⟩
  have b3 := b2.trans (b3'.mono b2.size)
  clear d0 d1 d2 d3 d4 d5 d6 d7 d8 d9 d10 h1 b3'
  obtain ⟨⟨d0, d1, d2, d3, d4, d5, d6, d7, d8, d9, d10⟩, h1⟩ := HKE.out _ b3
  go_wp2_with (go_at_call 9; refine (hCh g _ h1).mono ?_)
  rintro e4 w4 ⟨A4, c4, rfl, r4, b4'⟩
  have b4 := b3.trans (b4'.mono b3.size)
  clear d0 d1 d2 d3 d4 d5 d6 d7 d8 d9 d10 h1 b4'
  have r5 : Rd (w4.alloc (.cells #[.int .i64 0, .int .i64 2] 3)) (w4.alloc (.cells #[.int .i64 0, .int .i64 2] 3)).heap.size (some ⟨w4.heap.size, 0, none⟩) (ns [0, 2]) := (Own.new w4 3 1 2 #[.int .i64 0, .int .i64 2] (by omega) rfl).rd
  have b5' := bel_new w4 (.cells #[.int .i64 0, .int .i64 2] 3)
  have r4' := r4.on b5'
  have b5 := b4.trans (b5'.mono b4.size)
  have hints := ints_same [0, 2] A4 (some ⟨w4.heap.size, 0, none⟩) c4 2 _ r4' r5 (by decide)
  go_wp2_with (go_at_call 15; refine hints.mono ?_; rintro e6 w6 ⟨rfl, b6'⟩; have b6 := b5.trans (b6'.mono b5.size); clear b5 b5' b6' r5 r4 r4' hints)
  go_wp2_with (go_at_call 12; refine (hS1 _).mono ?_)
  rintro e7 w7 ⟨rfl, b7'⟩
  have b7 := b6.trans (b7'.mono b6.size)
  clear b7'
  obtain ⟨⟨d0, d1, d2, d3, d4, d5, d6, d7, d8, d9, d10⟩, h1⟩ := HKE.out _ b7
  go_wp2_with (go_at_call 12; refine (hS2 g _).mono ?_)
  rintro e8 w8 ⟨rfl, b8'⟩
  have b8 := b7.trans (b8'.mono b7.size)
  clear d0 d1 d2 d3 d4 d5 d6 d7 d8 d9 d10 b8' h1
  go_wp2_with fail
  go_ret
  have hg := HG.out
  subst hg
  exact ⟨rfl, b1.trans (b8.mono b1.size)⟩
end Go.Proofs.Ytahhihhfjimppaa
