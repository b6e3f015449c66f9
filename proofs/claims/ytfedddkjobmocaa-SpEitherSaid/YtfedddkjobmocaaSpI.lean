/- SpEither walked -/
import Derived.Test.YtfedddkjobmocaaSpH
namespace Go.Proofs.Ytfedddkjobmocaa
open Go.RowKit
set_option linter.unusedSimpArgs false
set_option linter.unusedVariables false
set_option maxRecDepth 100000

theorem S.ahead_irr (P : List (Nat × Nat)) (a b : Int) (h : S.ahead P a b = true) : S.ahead P b a = false := by
  simp only [S.ahead, Bool.and_eq_true, decide_eq_true_eq] at h
  simp only [S.ahead, Bool.and_eq_false_iff, decide_eq_false_iff_not]
  omega
theorem S.ahead_self (P : List (Nat × Nat)) (a : Int) : S.ahead P a a = false := by
  simp only [S.ahead, Bool.and_eq_false_iff, decide_eq_false_iff_not]
  omega
theorem S.ahead_trans (P : List (Nat × Nat)) (a b c : Int) (h : S.ahead P a b = true) (h' : S.ahead P b c = true) : S.ahead P a c = true := by
  simp only [S.ahead, Bool.and_eq_true, decide_eq_true_eq] at h h' ⊢
  exact ⟨⟨⟨h.1.1.1, h'.1.1.2⟩, by omega⟩, by omega⟩

theorem either_walk (l : List S.Five) (A : Option Addr) (c : Nat) (x0 y0 z0 : Int) (w : World) (hr : Rd w w.heap.size A (fcs l)) (hlen : l.length ≤ 9223372036854775807)
    (hx : 0 ≤ x0 ∧ x0 ≤ 255) (hy : 0 ≤ y0 ∧ y0 ≤ 255) (hz : 0 ≤ z0 ∧ z0 ≤ 255) :
    Calls Try.prog 4 #[.slice A l.length c, .int .u8 x0, .int .u8 y0, .int .u8 z0] w (fun e w' => e = .returned (.bool true) ∧ Below w.heap.size w w') := by
  obtain ⟨hx1, hx2⟩ := hx
  obtain ⟨hy1, hy2⟩ := hy
  obtain ⟨hz1, hz2⟩ := hz
  by_cases hl : l.length ≤ 40
  · have hlI : (l.length : Int) ≤ 40 := by omega
    go_enter Try.func4, Try.ntmps4
    go_wp2_with (go_at_call 8; refine (awake_any _).mono ?_)
    rintro e w1 ⟨rfl, b1⟩
    have r1 := hr.on b1
    clear hr
    go_wp2_with (go_at_call 9; refine (of_any l _ _ _ r1 hl).mono ?_)
    rintro e w2 ⟨b2, ⟨h, rfl⟩ | ⟨s, g, cap, h, rfl, ho, _⟩⟩
    · have H := Lib.hid h
      clear h
      replace b2 := b1.trans (b2.mono b1.size)
      go_wp2_with fail
      go_ret
      exact ⟨rfl, b2⟩
    · have hg := S.run_good S.init_good h
      have hn := S.run_n h
      have hn2 : s.n ≤ 121 := by have : S.init.n = 1 := rfl; omega
      have hn1 : 1 ≤ s.n := hn.2
      have hP : s.places.length ≤ 1000 := by rw [hg.places_length]; omega
      have HN := Lib.hid hg.places_length
      have r2 := ho.rdk
      clear hg hn h ho r1 hl hlI hlen
      replace b2 := b1.trans (b2.mono b1.size)
      clear b1
      have hxm : 0 ≤ x0 % (s.n : Int) ∧ x0 % (s.n : Int) < (s.n : Int) := ⟨Int.emod_nonneg _ (by omega), Int.emod_lt_of_pos _ (by omega)⟩
      have hym : 0 ≤ y0 % (s.n : Int) ∧ y0 % (s.n : Int) < (s.n : Int) := ⟨Int.emod_nonneg _ (by omega), Int.emod_lt_of_pos _ (by omega)⟩
      have hzm : 0 ≤ z0 % (s.n : Int) ∧ z0 % (s.n : Int) < (s.n : Int) := ⟨Int.emod_nonneg _ (by omega), Int.emod_lt_of_pos _ (by omega)⟩
      have q1 : ((s.n : Int) == 0) = false := by simp; omega
      have tx : S.there s.places.length (x0 % (s.n : Int)) = true := by simp [S.there, HN.out]; omega
      have ty : S.there s.places.length (y0 % (s.n : Int)) = true := by simp [S.there, HN.out]; omega
      have TX := Lib.hid tx
      have TY := Lib.hid ty
      clear tx ty
      have e4 := HN.out
      clear HN
      generalize s.n = n at *
      subst e4
      go_wp2_with fail
      generalize x0 % (s.places.length : Int) = x at *
      generalize y0 % (s.places.length : Int) = y at *
      generalize z0 % (s.places.length : Int) = z at *
      clear hx1 hx2 hy1 hy2 hz1 hz2
      by_cases hxy : x = y
      · subst hxy
        have F1 := Lib.hid (S.ahead_self s.places x)
        have F2 := Lib.hid (show S.par s.places x x = false by simp [S.par])
        go_wp2_with (go_at_call 12; refine (ahead_any s.places _ _ x x _ r2 hP).mono ?_)
        rintro e w3 ⟨rfl, b3⟩
        rw [F1.out]
        have r3 := r2.on b3
        replace b3 := b2.trans (b3.mono b2.size)
        clear b2 r2
        go_wp2_with (go_at_call 12; refine (ahead_any s.places _ _ x x _ r3 hP).mono ?_)
        rintro e w4 ⟨rfl, b4⟩
        rw [F1.out]
        have r4 := r3.on b4
        replace b4 := b3.trans (b4.mono b3.size)
        clear b3 r3
        go_wp2_with (go_at_call 13; refine (par_any s.places _ _ x x _ r4 hP).mono ?_)
        rintro e w5 ⟨rfl, b5⟩
        rw [F2.out]
        have r5 := r4.on b5
        replace b5 := b4.trans (b5.mono b4.size)
        clear b4 r4
        go_wp2_with fail
        go_ret
        exact ⟨rfl, b5⟩
      · have q2 : (x == y) = false := by simp [hxy]
        have hyx : ¬ y = x := fun h => hxy h.symm
        have HXY := Lib.hid hxy
        have HYX := Lib.hid hyx
        clear hxy hyx
        cases hp : S.ahead s.places x y
        · have FP := Lib.hid hp
          cases hq : S.ahead s.places y x
          · have FQ := Lib.hid hq
            have FR := Lib.hid (show S.par s.places x y = true by simp [S.par, TX.out, TY.out, HXY.out, hp, hq])
            have FS := Lib.hid (show S.par s.places y x = true by simp [S.par, TX.out, TY.out, HYX.out, hp, hq])
            clear hp hq
            go_wp2_with (go_at_call 12; refine (ahead_any s.places _ _ x y _ r2 hP).mono ?_)
            rintro e w3 ⟨rfl, b3⟩
            rw [FP.out]
            have r3 := r2.on b3
            replace b3 := b2.trans (b3.mono b2.size)
            clear b2 r2
            go_wp2_with (go_at_call 12; refine (ahead_any s.places _ _ y x _ r3 hP).mono ?_)
            rintro e w4 ⟨rfl, b4⟩
            rw [FQ.out]
            have r4 := r3.on b4
            replace b4 := b3.trans (b4.mono b3.size)
            clear b3 r3
            go_wp2_with (go_at_call 13; refine (par_any s.places _ _ x y _ r4 hP).mono ?_)
            rintro e w5 ⟨rfl, b5⟩
            rw [FR.out]
            have r5 := r4.on b5
            replace b5 := b4.trans (b5.mono b4.size)
            clear b4 r4
            go_wp2_with fail
            go_wp2_with (go_at_call 13; refine (par_any s.places _ _ x y _ r5 hP).mono ?_)
            rintro e w6 ⟨rfl, b6⟩
            rw [FR.out]
            have r6 := r5.on b6
            replace b6 := b5.trans (b6.mono b5.size)
            clear b5 r5
            go_wp2_with (go_at_call 13; refine (par_any s.places _ _ y x _ r6 hP).mono ?_)
            rintro e w7 ⟨rfl, b7⟩
            rw [FS.out]
            have r7 := r6.on b7
            replace b7 := b6.trans (b7.mono b6.size)
            clear b6 r6
            go_wp2_with (go_at_call 12; refine (ahead_any s.places _ _ x y _ r7 hP).mono ?_)
            rintro e w8 ⟨rfl, b8⟩
            rw [FP.out]
            have r8 := r7.on b8
            replace b8 := b7.trans (b8.mono b7.size)
            clear b7 r7
            go_wp2_with fail
            go_ret
            exact ⟨rfl, b8⟩
          · have FQ := Lib.hid hq
            have FR := Lib.hid (show S.par s.places x y = false by simp [S.par, hq])
            have FS := Lib.hid (show S.par s.places y x = false by simp [S.par, hq])
            clear hp hq
            go_wp2_with (go_at_call 12; refine (ahead_any s.places _ _ x y _ r2 hP).mono ?_)
            rintro e w3 ⟨rfl, b3⟩
            rw [FP.out]
            have r3 := r2.on b3
            replace b3 := b2.trans (b3.mono b2.size)
            clear b2 r2
            go_wp2_with (go_at_call 12; refine (ahead_any s.places _ _ y x _ r3 hP).mono ?_)
            rintro e w4 ⟨rfl, b4⟩
            rw [FQ.out]
            have r4 := r3.on b4
            replace b4 := b3.trans (b4.mono b3.size)
            clear b3 r3
            go_wp2_with (go_at_call 13; refine (par_any s.places _ _ x y _ r4 hP).mono ?_)
            rintro e w5 ⟨rfl, b5⟩
            rw [FR.out]
            have r5 := r4.on b5
            replace b5 := b4.trans (b5.mono b4.size)
            clear b4 r4
            go_wp2_with fail
            go_wp2_with (go_at_call 13; refine (par_any s.places _ _ x y _ r5 hP).mono ?_)
            rintro e w6 ⟨rfl, b6⟩
            rw [FR.out]
            have r6 := r5.on b6
            replace b6 := b5.trans (b6.mono b5.size)
            clear b5 r5
            go_wp2_with (go_at_call 13; refine (par_any s.places _ _ y x _ r6 hP).mono ?_)
            rintro e w7 ⟨rfl, b7⟩
            rw [FS.out]
            have r7 := r6.on b7
            replace b7 := b6.trans (b7.mono b6.size)
            clear b6 r6
            go_wp2_with (go_at_call 12; refine (ahead_any s.places _ _ x y _ r7 hP).mono ?_)
            rintro e w8 ⟨rfl, b8⟩
            rw [FP.out]
            have r8 := r7.on b8
            replace b8 := b7.trans (b8.mono b7.size)
            clear b7 r7
            go_wp2_with fail
            go_ret
            exact ⟨rfl, b8⟩
        · have FP := Lib.hid hp
          have FQ := Lib.hid (S.ahead_irr _ _ _ hp)
          have FR := Lib.hid (show S.par s.places x y = false by simp [S.par, hp])
          have FS := Lib.hid (show S.par s.places y x = false by simp [S.par, hp])
          cases ht : S.ahead s.places y z
          · have FT := Lib.hid ht
            clear ht hp
            go_wp2_with (go_at_call 12; refine (ahead_any s.places _ _ x y _ r2 hP).mono ?_)
            rintro e w3 ⟨rfl, b3⟩
            rw [FP.out]
            have r3 := r2.on b3
            replace b3 := b2.trans (b3.mono b2.size)
            clear b2 r2
            go_wp2_with (go_at_call 12; refine (ahead_any s.places _ _ y x _ r3 hP).mono ?_)
            rintro e w4 ⟨rfl, b4⟩
            rw [FQ.out]
            have r4 := r3.on b4
            replace b4 := b3.trans (b4.mono b3.size)
            clear b3 r3
            go_wp2_with (go_at_call 13; refine (par_any s.places _ _ x y _ r4 hP).mono ?_)
            rintro e w5 ⟨rfl, b5⟩
            rw [FR.out]
            have r5 := r4.on b5
            replace b5 := b4.trans (b5.mono b4.size)
            clear b4 r4
            go_wp2_with fail
            go_wp2_with (go_at_call 13; refine (par_any s.places _ _ x y _ r5 hP).mono ?_)
            rintro e w6 ⟨rfl, b6⟩
            rw [FR.out]
            have r6 := r5.on b6
            replace b6 := b5.trans (b6.mono b5.size)
            clear b5 r5
            go_wp2_with (go_at_call 13; refine (par_any s.places _ _ y x _ r6 hP).mono ?_)
            rintro e w7 ⟨rfl, b7⟩
            rw [FS.out]
            have r7 := r6.on b7
            replace b7 := b6.trans (b7.mono b6.size)
            clear b6 r6
            go_wp2_with (go_at_call 12; refine (ahead_any s.places _ _ x y _ r7 hP).mono ?_)
            rintro e w8 ⟨rfl, b8⟩
            rw [FP.out]
            have r8 := r7.on b8
            replace b8 := b7.trans (b8.mono b7.size)
            clear b7 r7
            go_wp2_with (go_at_call 12; refine (ahead_any s.places _ _ y z _ r8 hP).mono ?_)
            rintro e w9 ⟨rfl, b9⟩
            rw [FT.out]
            have r9 := r8.on b9
            replace b9 := b8.trans (b9.mono b8.size)
            clear b8 r8
            go_wp2_with fail
            go_ret
            exact ⟨rfl, b9⟩
          · have FT := Lib.hid ht
            have FU := Lib.hid (S.ahead_trans _ _ _ _ hp ht)
            clear ht hp
            go_wp2_with (go_at_call 12; refine (ahead_any s.places _ _ x y _ r2 hP).mono ?_)
            rintro e w3 ⟨rfl, b3⟩
            rw [FP.out]
            have r3 := r2.on b3
            replace b3 := b2.trans (b3.mono b2.size)
            clear b2 r2
            go_wp2_with (go_at_call 12; refine (ahead_any s.places _ _ y x _ r3 hP).mono ?_)
            rintro e w4 ⟨rfl, b4⟩
            rw [FQ.out]
            have r4 := r3.on b4
            replace b4 := b3.trans (b4.mono b3.size)
            clear b3 r3
            go_wp2_with (go_at_call 13; refine (par_any s.places _ _ x y _ r4 hP).mono ?_)
            rintro e w5 ⟨rfl, b5⟩
            rw [FR.out]
            have r5 := r4.on b5
            replace b5 := b4.trans (b5.mono b4.size)
            clear b4 r4
            go_wp2_with fail
            go_wp2_with (go_at_call 13; refine (par_any s.places _ _ x y _ r5 hP).mono ?_)
            rintro e w6 ⟨rfl, b6⟩
            rw [FR.out]
            have r6 := r5.on b6
            replace b6 := b5.trans (b6.mono b5.size)
            clear b5 r5
            go_wp2_with (go_at_call 13; refine (par_any s.places _ _ y x _ r6 hP).mono ?_)
            rintro e w7 ⟨rfl, b7⟩
            rw [FS.out]
            have r7 := r6.on b7
            replace b7 := b6.trans (b7.mono b6.size)
            clear b6 r6
            go_wp2_with (go_at_call 12; refine (ahead_any s.places _ _ x y _ r7 hP).mono ?_)
            rintro e w8 ⟨rfl, b8⟩
            rw [FP.out]
            have r8 := r7.on b8
            replace b8 := b7.trans (b8.mono b7.size)
            clear b7 r7
            go_wp2_with (go_at_call 12; refine (ahead_any s.places _ _ y z _ r8 hP).mono ?_)
            rintro e w9 ⟨rfl, b9⟩
            rw [FT.out]
            have r9 := r8.on b9
            replace b9 := b8.trans (b9.mono b8.size)
            clear b8 r8
            go_wp2_with (go_at_call 12; refine (ahead_any s.places _ _ x z _ r9 hP).mono ?_)
            rintro e w10 ⟨rfl, b10⟩
            rw [FU.out]
            have r10 := r9.on b10
            replace b10 := b9.trans (b10.mono b9.size)
            clear b9 r9
            go_wp2_with fail
            go_ret
            exact ⟨rfl, b10⟩
  · have hl' : 40 < (l.length : Int) := by omega
    go_enter Try.func4, Try.ntmps4
    go_wp2_with (go_at_call 8; refine (awake_any _).mono ?_)
    rintro e w1 ⟨rfl, b1⟩
    go_wp2_with fail
    go_ret
    exact ⟨rfl, b1⟩
end Go.Proofs.Ytfedddkjobmocaa
