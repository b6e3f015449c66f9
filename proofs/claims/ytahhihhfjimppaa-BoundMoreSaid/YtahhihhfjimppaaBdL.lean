/- walk: Steps -/
import Derived.Test.YtahhihhfjimppaaBdK
import Derived.IntWalk
namespace Go.Proofs.Ytahhihhfjimppaa
open Go.RowKit
set_option linter.unusedSimpArgs false
set_option linter.unusedVariables false
set_option maxRecDepth 100000

theorem mul_bd {a b A B : Int} (h1 : 0 ≤ a) (h2 : a ≤ A) (h3 : 0 ≤ b) (h4 : b ≤ B) : 0 ≤ a * b ∧ a * b ≤ A * B :=
  ⟨Int.mul_nonneg h1 h3, Int.mul_le_mul h2 h4 h3 (by omega)⟩
/-- by when a run is over -/
def B.bad (s nd t p : Int) : Prop := s < 1 ∨ s > 8 ∨ nd < 0 ∨ nd > 1000 ∨ p < 0 ∨ p > 1048576 ∨ t < 0 ∨ t > 64
instance (s nd t p : Int) : Decidable (B.bad s nd t p) := inferInstanceAs (Decidable (_ ∨ _))
def B.steps (s nd : Int) (u : Nat) (t p : Int) : Int := if B.bad s nd t p then -1 else p + s * (28 * s + 1) * (72 * s * (64 * (nd + s + 4)) * ((u : Int) + t + s * s + 1) + 1)

set_option maxHeartbeats 4000000 in
theorem steps_any (E : El) (c0 c1 c2 c3 c4 c5 c6 c7 c8 p : Int) (w : World) (hn : E.n6 ≤ 1000) :
    Calls Try.prog 12 #[.agg #[.int .i64 c0, .int .i64 c1, .int .i64 c2, .int .i64 c3, .int .i64 c4, .int .i64 c5, .int .i64 c6, .int .i64 c7, .int .i64 c8], E.val, .int .i64 p] w (Ret (.int .i64 (B.steps c0 c1 E.n6 E.e9 p)) w) := by
  have hwk := work_any E
  obtain ⟨e0, e1, A2, n2, p2, A3, n3, p3, A4, n4, p4, A5, n5, p5, A6, n6, p6, A7, n7, p7, e8, e9, A10, n10, p10⟩ := E
  simp only [El.val, El.cs] at hn hwk ⊢
  have bk1 := Blk.new (w.alloc (.cells #[.int .i64 c0, .int .i64 c1, .int .i64 c2, .int .i64 c3, .int .i64 c4, .int .i64 c5, .int .i64 c6, .int .i64 c7, .int .i64 c8] 42)) 29 #[.int .i64 e0, .int .i64 e1, .slice A2 n2 p2, .slice A3 n3 p3, .slice A4 n4 p4, .slice A5 n5 p5, .slice A6 n6 p6, .slice A7 n7 p7, .int .i64 e8, .int .i64 e9, .slice A10 n10 p10]
  have bk0 := (Blk.new w 42 #[.int .i64 c0, .int .i64 c1, .int .i64 c2, .int .i64 c3, .int .i64 c4, .int .i64 c5, .int .i64 c6, .int .i64 c7, .int .i64 c8]).alloc (.cells #[.int .i64 e0, .int .i64 e1, .slice A2 n2 p2, .slice A3 n3 p3, .slice A4 n4 p4, .slice A5 n5 p5, .slice A6 n6 p6, .slice A7 n7 p7, .int .i64 e8, .int .i64 e9, .slice A10 n10 p10] 29)
  have b0 : Below w.heap.size w ((w.alloc (.cells #[.int .i64 c0, .int .i64 c1, .int .i64 c2, .int .i64 c3, .int .i64 c4, .int .i64 c5, .int .i64 c6, .int .i64 c7, .int .i64 c8] 42)).alloc (.cells #[.int .i64 e0, .int .i64 e1, .slice A2 n2 p2, .slice A3 n3 p3, .slice A4 n4 p4, .slice A5 n5 p5, .slice A6 n6 p6, .slice A7 n7 p7, .int .i64 e8, .int .i64 e9, .slice A10 n10 p10] 29)) := (bel_new w _).alloc (by simp) _
  have s0 : (w.alloc (.cells #[.int .i64 c0, .int .i64 c1, .int .i64 c2, .int .i64 c3, .int .i64 c4, .int .i64 c5, .int .i64 c6, .int .i64 c7, .int .i64 c8] 42)).heap.size = w.heap.size + 1 := by simp
  rw [s0] at bk1
  clear s0
  go_enter Try.func12, Try.ntmps12
  go_upto_region 1 with (fail)
  generalize (w.alloc (.cells #[.int .i64 c0, .int .i64 c1, .int .i64 c2, .int .i64 c3, .int .i64 c4, .int .i64 c5, .int .i64 c6, .int .i64 c7, .int .i64 c8] 42)).alloc (.cells #[.int .i64 e0, .int .i64 e1, .slice A2 n2 p2, .slice A3 n3 p3, .slice A4 n4 p4, .slice A5 n5 p5, .slice A6 n6 p6, .slice A7 n7 p7, .int .i64 e8, .int .i64 e9, .slice A10 n10 p10] 29) = w1 at *
  have g0 := bk0.lt
  have g1 := bk1.lt
  have HKB : Hid (∀ w', Below w1.heap.size w1 w' → (w'.cell? ⟨w.heap.size, 0, none⟩ = some (.int .i64 c0) ∧ w'.cell? ⟨w.heap.size, 1, none⟩ = some (.int .i64 c1)) ∧ w'.cell? ⟨w.heap.size + 1, 0, none⟩ = some (.int .i64 e0) ∧ w'.cell? ⟨w.heap.size + 1, 1, none⟩ = some (.int .i64 e1) ∧ w'.cell? ⟨w.heap.size + 1, 2, none⟩ = some (.slice A2 n2 p2) ∧ w'.cell? ⟨w.heap.size + 1, 3, none⟩ = some (.slice A3 n3 p3) ∧ w'.cell? ⟨w.heap.size + 1, 4, none⟩ = some (.slice A4 n4 p4) ∧ w'.cell? ⟨w.heap.size + 1, 5, none⟩ = some (.slice A5 n5 p5) ∧ w'.cell? ⟨w.heap.size + 1, 6, none⟩ = some (.slice A6 n6 p6) ∧ w'.cell? ⟨w.heap.size + 1, 7, none⟩ = some (.slice A7 n7 p7) ∧ w'.cell? ⟨w.heap.size + 1, 8, none⟩ = some (.int .i64 e8) ∧ w'.cell? ⟨w.heap.size + 1, 9, none⟩ = some (.int .i64 e9) ∧ w'.cell? ⟨w.heap.size + 1, 10, none⟩ = some (.slice A10 n10 p10)) :=
    Lib.hid (fun w' hb => by
      have k0 := bk0.below hb g0
      have k1 := bk1.below hb g1
      exact ⟨⟨k0.cell 0, k0.cell 1⟩, k1.cell 0, k1.cell 1, k1.cell 2, k1.cell 3, k1.cell 4, k1.cell 5, k1.cell 6, k1.cell 7, k1.cell 8, k1.cell 9, k1.cell 10⟩)
  obtain ⟨⟨k0, k1⟩, d0, d1, d2, d3, d4, d5, d6, d7, d8, d9, d10⟩ := HKB.out _ (Below.refl _ _)
  clear bk0 bk1
  have HR : Hid (B.steps c0 c1 n6 e9 p = if B.bad c0 c1 e9 p then -1 else p + c0 * (28 * c0 + 1) * (72 * c0 * (64 * (c1 + c0 + 4)) * ((n6 : Int) + e9 + c0 * c0 + 1) + 1)) := Lib.hid rfl
  have hneg : ∀ w', Below w1.heap.size w1 w' → B.bad c0 c1 e9 p → (Ending.returned (.int .i64 (-1)) = .returned (.int .i64 (B.steps c0 c1 n6 e9 p)) ∧ Below w.heap.size w w') := fun w' hb h => ⟨by rw [HR.out, if_pos h], b0.trans (hb.mono b0.size)⟩
  have HNEG := Lib.hid hneg
  clear hneg
  by_cases h1 : c0 < 1
  · have q : decide (c0 < 1) = true := by simpa using h1
    have HB : Hid (B.bad c0 c1 e9 p) := Lib.hid (.inl h1)
    clear h1
    go_wp2_with fail
    go_ret
    exact HNEG.out _ (Below.refl _ _) HB.out
  · by_cases h2 : c0 > 8
    · have q : decide (c0 < 1) = false := by simpa using h1
      have q2 : decide (c0 > 8) = true := by simpa using h2
      have HB : Hid (B.bad c0 c1 e9 p) := Lib.hid (.inr (.inl h2))
      clear h1 h2
      go_wp2_with fail
      go_ret
      exact HNEG.out _ (Below.refl _ _) HB.out
    · have q1 : decide (c0 < 1) = false := by simpa using h1
      have q2 : decide (c0 > 8) = false := by simpa using h2
      by_cases h3 : c1 < 0
      · have qh3 : decide (c1 < 0) = true := by simpa using h3
        have HB : Hid (B.bad c0 c1 e9 p) := Lib.hid (.inr (.inr (.inl h3)))
        clear h3
        go_wp2_with fail
        go_ret
        exact HNEG.out _ (Below.refl _ _) HB.out
      · have qh3 : decide (c1 < 0) = false := by simpa using h3
        by_cases h4 : c1 > 1000
        · have qh4 : decide (c1 > 1000) = true := by simpa using h4
          have HB : Hid (B.bad c0 c1 e9 p) := Lib.hid (.inr (.inr (.inr (.inl h4))))
          clear h4
          go_wp2_with fail
          go_ret
          exact HNEG.out _ (Below.refl _ _) HB.out
        · have qh4 : decide (c1 > 1000) = false := by simpa using h4
          by_cases h5 : p < 0
          · have qh5 : decide (p < 0) = true := by simpa using h5
            have HB : Hid (B.bad c0 c1 e9 p) := Lib.hid (.inr (.inr (.inr (.inr (.inl h5)))))
            clear h5
            go_wp2_with fail
            go_ret
            exact HNEG.out _ (Below.refl _ _) HB.out
          · have qh5 : decide (p < 0) = false := by simpa using h5
            by_cases h6 : p > 1048576
            · have qh6 : decide (p > 1048576) = true := by simpa using h6
              have HB : Hid (B.bad c0 c1 e9 p) := Lib.hid (.inr (.inr (.inr (.inr (.inr (.inl h6))))))
              clear h6
              go_wp2_with fail
              go_ret
              exact HNEG.out _ (Below.refl _ _) HB.out
            · have qh6 : decide (p > 1048576) = false := by simpa using h6
              go_wp2_with (go_at_call 11; refine (hwk _ hn).mono ?_)
              rintro e2 w2 ⟨rfl, b2⟩
              have q9 : decide ((n6 : Int) > 100000) = false := by simp; omega
              have hn6 : ¬ (100000 : Int) < (n6 : Int) := by omega
              clear k0 k1 d0 d1 d2 d3 d4 d5 d6 d7 d8 d9 d10
              have HKC : Hid (∀ w', Below w2.heap.size w2 w' → _) := Lib.hid (fun w' hb => HKB.out w' (b2.trans (hb.mono b2.size)))
              obtain ⟨⟨k0, k1⟩, d0, d1, d2, d3, d4, d5, d6, d7, d8, d9, d10⟩ := HKC.out _ (Below.refl _ _)
              clear HKB
              by_cases h7 : e9 < 0
              · have q7 : decide (e9 < 0) = true := by simpa using h7
                have HB : Hid (B.bad c0 c1 e9 p) := Lib.hid (.inr (.inr (.inr (.inr (.inr (.inr (.inl h7)))))))
                clear h7
                go_wp2_with fail
                go_ret
                exact HNEG.out _ b2 HB.out
              · have q7 : decide (e9 < 0) = false := by simpa using h7
                by_cases h8 : e9 > 64
                · have q8 : decide (e9 > 64) = true := by simpa using h8
                  have HB : Hid (B.bad c0 c1 e9 p) := Lib.hid (.inr (.inr (.inr (.inr (.inr (.inr (.inr h8)))))))
                  clear h8
                  go_wp2_with fail
                  go_ret
                  exact HNEG.out _ b2 HB.out
                · have q8 : decide (e9 > 64) = false := by simpa using h8
                  have HR2 : Hid (B.steps c0 c1 n6 e9 p = p + c0 * (28 * c0 + 1) * (72 * c0 * (64 * (c1 + c0 + 4)) * ((n6 : Int) + e9 + c0 * c0 + 1) + 1)) := Lib.hid (HR.out.trans (if_neg (by
                    rintro (h | h | h | h | h | h | h | h) <;> omega)))
                  have b12 := b0.trans (b2.mono b0.size)
                  clear HR HNEG
                  go_upto_region 9 with (fail)
                  have m1 := mul_bd (a := c0) (b := c0) (A := 8) (B := 8) (by omega) (by omega) (by omega) (by omega)
                  go_cut [9] (fun s9 wx => s9 = .int .i64 ((n6 : Int) + e9 + c0 * c0 + 1) ∧ Below w2.heap.size w2 wx)
                  case first =>
                    have hw1 : IntKind.i64.wrap ((n6 : Int) + e9) = (n6 : Int) + e9 := IntWalk.i64_in _ (by omega)
                    have hw2 : IntKind.i64.wrap (c0 * c0) = c0 * c0 := IntWalk.i64_in _ (by omega)
                    have hw3 : IntKind.i64.wrap ((n6 : Int) + e9 + c0 * c0) = (n6 : Int) + e9 + c0 * c0 := IntWalk.i64_in _ (by omega)
                    have hw4 : IntKind.i64.wrap ((n6 : Int) + e9 + c0 * c0 + 1) = (n6 : Int) + e9 + c0 * c0 + 1 := IntWalk.i64_in _ (by omega)
                    go_region_held3 (fun w' => w'.cell? ⟨w.heap.size + 1, 0, none⟩ = some (.int .i64 e0) ∧ w'.cell? ⟨w.heap.size + 1, 1, none⟩ = some (.int .i64 e1) ∧ w'.cell? ⟨w.heap.size + 1, 2, none⟩ = some (.slice A2 n2 p2) ∧ w'.cell? ⟨w.heap.size + 1, 3, none⟩ = some (.slice A3 n3 p3) ∧ w'.cell? ⟨w.heap.size + 1, 4, none⟩ = some (.slice A4 n4 p4) ∧ w'.cell? ⟨w.heap.size + 1, 5, none⟩ = some (.slice A5 n5 p5) ∧ w'.cell? ⟨w.heap.size + 1, 6, none⟩ = some (.slice A6 n6 p6) ∧ w'.cell? ⟨w.heap.size + 1, 7, none⟩ = some (.slice A7 n7 p7) ∧ w'.cell? ⟨w.heap.size + 1, 8, none⟩ = some (.int .i64 e8) ∧ w'.cell? ⟨w.heap.size + 1, 9, none⟩ = some (.int .i64 e9) ∧ w'.cell? ⟨w.heap.size + 1, 10, none⟩ = some (.slice A10 n10 p10))
                      (first | exact (HKC.out _ b3).2 | go_keep)
                      (first | (go_at_call 11; refine (hwk _ hn).mono ?_; rintro e3 w3 ⟨rfl, b3'⟩; have b3 := (Below.refl w2.heap.size w2).drew.trans b3'))
                    all_goals
                      go_wp2_with fail
                      go_meet
                      exact ⟨by simp only [hw1, hw2, hw3, hw4], b3⟩
                  case rest =>
                    obtain ⟨rfl, b3⟩ := hcut
                    have b13 := b12.trans (b3.mono b12.size)
                    have hr9 : 0 ≤ 64 * (c1 + c0 + 4) ∧ 64 * (c1 + c0 + 4) ≤ 64768 := by omega
                    have hu9 : 0 ≤ (n6 : Int) + e9 + c0 * c0 + 1 ∧ (n6 : Int) + e9 + c0 * c0 + 1 ≤ 2000 := by omega
                    generalize 64 * (c1 + c0 + 4) = r at *
                    generalize (n6 : Int) + e9 + c0 * c0 + 1 = u at *
                    have m2 := mul_bd (a := c0) (b := 28 * c0 + 1) (A := 8) (B := 225) (by omega) (by omega) (by omega) (by omega)
                    have m3 := mul_bd (a := 72 * c0) (b := r) (A := 576) (B := 64768) (by omega) (by omega) (by omega) (by omega)
                    have m4 := mul_bd (a := 72 * c0 * r) (b := u) (A := 576 * 64768) (B := 2000) (by omega) (by omega) (by omega) (by omega)
                    have m5 := mul_bd (a := c0 * (28 * c0 + 1)) (b := 72 * c0 * r * u + 1) (A := 1800) (B := 576 * 64768 * 2000 + 1) (by omega) (by omega) (by omega) (by omega)
                    clear HKC b12 b3 b2 k0 k1 d0 d1 d2 d3 d4 d5 d6 d7 d8 d9 d10
                    go_wp2_with fail
                    go_ret
                    exact ⟨by rw [HR2.out]; rfl, b13⟩
end Go.Proofs.Ytahhihhfjimppaa
