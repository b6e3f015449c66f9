/- walks: plain, Same, awake -/
import Derived.Test.YtfedddkjobmocaaSpE
import Derived.Test.YtfedddkjobmocaaSpF
namespace Go.Proofs.Ytfedddkjobmocaa
open Go.RowKit
set_option linter.unusedSimpArgs false
set_option linter.unusedVariables false
set_option maxRecDepth 100000

theorem Own.rdk {w : World} {e : TypeId} {size g n cap : Nat} {xs : List Value} (h : Own w e size g n cap xs) : Rd w w.heap.size (some ⟨g, 0, none⟩) xs := by
  refine .inr ⟨g, 0, rfl, h.lt, fun j u hu => ?_⟩
  have hj : j < xs.length := (List.getElem?_eq_some_iff.1 hu).1
  rw [Nat.zero_add, h.cell j (by rw [← h.len]; exact hj), hu]

def S.plain : List S.Five := [(1, 0, 1, 2, 3), (2, 1, 0, 0, 3), (3, 2, 0, 0, 3)]
theorem plain_any (w : World) :
    Calls Try.prog 14 #[] w (fun e w' => e = .returned (.slice (some ⟨w.heap.size, 0, none⟩) 3 3) ∧ w' = w.alloc (.cells (fcs S.plain).toArray 37)) := by
  go_enter Try.func14, Try.ntmps14
  go_wp2
  go_ret
  exact ⟨rfl, rfl⟩

theorem neq_pairs (w : World) (a b c d : Int) : (Op.equalIn 10000 34 (.agg #[.int .i64 a, .int .i64 b]) (.agg #[.int .i64 c, .int .i64 d])).run Try.prog w = .ok (decide (a = c) && decide (b = d)) w := by
  have hu : Try.prog.underlying 34 = some (.array 2 3) := by kernel_rfl
  have hb : Try.prog.underlying 3 = some (.int .i64) := by kernel_rfl
  obtain ⟨i, hi⟩ : ∃ i, Try.prog.info? 3 = some i := Option.isSome_iff_exists.1 (by kernel_rfl)
  rw [show (10000 : Nat) = 9999 + 1 from rfl, run_equalIn_array w 9999 _ _ hu hi]
  have hc : Try.prog.cellsOf 3 = 1 := by kernel_rfl
  rw [hc, show List.range 2 = [0, 1] from rfl]
  by_cases h1 : a = c <;> by_cases h2 : b = d <;> simp [Op.eqItems, go_sem, hb, hi, h1, h2]

attribute [local go_sem] neq_pairs in
theorem same_eq (P : List (Nat × Nat)) (A B : Option Addr) (c d : Nat) (w : World) (hr : Rd w w.heap.size A (tcs P)) (hq : Rd w w.heap.size B (tcs P)) (hP : P.length ≤ 1000) :
    Calls Try.prog 15 #[.slice A P.length c, .slice B P.length d] w (fun e w' => e = .returned (.bool true) ∧ Below w.heap.size w w') := by
  go_enter Try.func15, Try.ntmps15
  go_wp2
  go_loopg [5] P.length (fun gk ii wr => ∃ k : Nat, k + gk = P.length ∧ ii = .int .i64 k ∧ Below w.heap.size w wr)
  case atStart => exact ⟨0, by omega, rfl, Below.refl _ _⟩
  case round =>
    obtain ⟨k, hk, rfl, hb⟩ := hrel
    have HK := Lib.hid hk
    by_cases hlt : k < P.length
    · obtain ⟨p0, p1⟩ := tcs_at P k hlt
      have hr' := hr.below hb
      have hq' := hq.below hb
      obtain ⟨b1, o1, rfl, hb1, c0⟩ := hr'.at_ p0
      obtain ⟨_, _, eA, _, c1⟩ := hr'.at_ p1
      injection eA with eA; injection eA with e1 e2; subst e1 e2
      obtain ⟨b2, o2, rfl, hb2, d0⟩ := hq'.at_ p0
      obtain ⟨_, _, eA, _, d1⟩ := hq'.at_ p1
      injection eA with eA; injection eA with e1 e2; subst e1 e2
      rw [← Nat.add_assoc] at c1 d1
      clear p0 p1 hk hr hq hr' hq'
      generalize P[k].1 = x0 at *
      generalize P[k].2 = x1 at *
      have hI : (k : Int) < (P.length : Int) := by omega
      go_wp2
      go_region
      all_goals
        go_wp2
        go_roundg (gk - 1)
        case measure => have := HK.out; omega
        case rel => exact ⟨k + 1, by have := HK.out; omega, by go_num, by first | exact hb.drew | exact hb.drew.drew | exact hb⟩
    · clear hk
      go_wp2
      go_ret
      exact ⟨rfl, hb⟩

def S.plainP : List (Nat × Nat) := [(0, 0), (1, 2), (2, 1), (3, 3)]
def OfGood (w : World) (e : Ending) (w' : World) : Prop :=
  Below w.heap.size w w' ∧ ∃ g cap, e = .returned (.tuple #[.slice (some ⟨g, 0, none⟩) 4 cap, .int .i64 0]) ∧ Rd w' w'.heap.size (some ⟨g, 0, none⟩) (tcs S.plainP)
def OfBad (w : World) (e : Ending) (w' : World) : Prop :=
  Below w.heap.size w w' ∧ e = .returned (.tuple #[.slice none 0 0, .int .i64 1])
theorem of_plain (A : Option Addr) (c : Nat) (w : World) (hr : Rd w w.heap.size A (fcs S.plain)) : Calls Try.prog 9 #[.slice A 3 c] w (OfGood w) := by
  refine (of_any S.plain A c w hr (by decide)).mono ?_
  rintro e w' ⟨hb, ⟨h, _⟩ | ⟨s, g, cap, h, rfl, ho, _⟩⟩
  · exact absurd h (by decide)
  · have hs : S.run S.init S.plain = some ⟨[1, 2, 3, 0], [2, 3, 1, 0], [(3, 0)], 4⟩ := by rfl
    rw [hs] at h
    injection h with h
    subst h
    exact ⟨hb, g, cap, rfl, ho.rdk⟩
theorem of_unplain (A : Option Addr) (c : Nat) (w : World) (hr : Rd w w.heap.size A (fcs (S.plain.drop 1))) : Calls Try.prog 9 #[.slice A 2 c] w (OfBad w) := by
  refine (of_any (S.plain.drop 1) A c w hr (by decide)).mono ?_
  rintro e w' ⟨hb, ⟨_, rfl⟩ | ⟨s, g, cap, h, _⟩⟩
  · exact ⟨hb, rfl⟩
  · have hs : S.run S.init (S.plain.drop 1) = none := by decide
    rw [hs] at h
    cases h

theorem awake_any (w : World) : Calls Try.prog 8 #[] w (fun e w' => e = .returned (.bool true) ∧ Below w.heap.size w w') := by
  have a1 := Lib.hid (show S.par S.plainP 1 2 = true by decide)
  have a2 := Lib.hid (show S.ahead S.plainP 1 3 = true by decide)
  have a3 := Lib.hid (show S.ahead S.plainP 2 3 = true by decide)
  have a4 := Lib.hid (show S.ahead S.plainP 3 1 = false by decide)
  have a5 := Lib.hid (show S.par S.plainP 0 1 = false by decide)
  go_enter Try.func8, Try.ntmps8
  go_wp2_with (go_at_call 14; refine (plain_any _).mono ?_; rintro e w1 ⟨rfl, rfl⟩)
  have r1 : Rd (w.alloc (.cells (fcs S.plain).toArray 37)) (w.alloc (.cells (fcs S.plain).toArray 37)).heap.size (some ⟨w.heap.size, 0, none⟩) (fcs S.plain) := (Own.new w 37 5 3 (fcs S.plain).toArray (by omega) rfl).rdk
  have b1 : Below w.heap.size w (w.alloc (.cells (fcs S.plain).toArray 37)) := (Below.refl _ _).alloc (Nat.le_refl _) _
  generalize w.alloc (.cells (fcs S.plain).toArray 37) = w1 at *
  go_wp2_with (go_at_call 9; refine (of_plain _ _ _ r1).mono ?_)
  rintro e w2 ⟨b2, g, cap, rfl, r2⟩
  replace b2 := b1.trans (b2.mono b1.size)
  clear b1 r1
  go_wp2_with (go_at_call 14; refine (plain_any _).mono ?_; rintro e w1 ⟨rfl, rfl⟩)
  have r3 : Rd (w2.alloc (.cells (fcs S.plain).toArray 37)) (w2.alloc (.cells (fcs S.plain).toArray 37)).heap.size (some ⟨w2.heap.size, 5, none⟩) (fcs (S.plain.drop 1)) := by
    have h := (Own.new w2 37 5 3 (fcs S.plain).toArray (by omega) rfl).rdk.cut (k := 5) (cap := 15) (by decide)
    exact h
  have b3 : Below w2.heap.size w2 (w2.alloc (.cells (fcs S.plain).toArray 37)) := (Below.refl _ _).alloc (Nat.le_refl _) _
  generalize w2.alloc (.cells (fcs S.plain).toArray 37) = w3 at *
  replace r2 := r2.on b3
  replace b3 := b2.trans (b3.mono b2.size)
  clear b2
  go_wp2_with (go_at_call 9; refine (of_unplain _ _ _ r3).mono ?_)
  rintro e w4 ⟨b4, rfl⟩
  replace r2 := r2.on b4
  replace b4 := b3.trans (b4.mono b3.size)
  clear b3 r3
  go_wp2_with fail
  have r5 : Rd (w4.alloc (.cells (tcs S.plainP).toArray 34)) (w4.alloc (.cells (tcs S.plainP).toArray 34)).heap.size (some ⟨w4.heap.size, 0, none⟩) (tcs S.plainP) := (Own.new w4 34 2 4 (tcs S.plainP).toArray (by omega) rfl).rdk
  have b5 : Below w4.heap.size w4 (w4.alloc (.cells (tcs S.plainP).toArray 34)) := (Below.refl _ _).alloc (Nat.le_refl _) _
  have e5 : (tcs S.plainP).toArray = #[.int .i64 0, .int .i64 0, .int .i64 1, .int .i64 2, .int .i64 2, .int .i64 1, .int .i64 3, .int .i64 3] := rfl
  rw [e5] at r5 b5
  generalize w4.alloc (.cells #[.int .i64 0, .int .i64 0, .int .i64 1, .int .i64 2, .int .i64 2, .int .i64 1, .int .i64 3, .int .i64 3] 34) = w5 at *
  replace r2 := r2.on b5
  replace b5 := b4.trans (b5.mono b4.size)
  clear b4 e5
  go_wp2_with (go_at_call 15; refine (same_eq S.plainP _ _ _ _ _ r2 r5 (by decide)).mono ?_)
  rintro e w6 ⟨rfl, b6⟩
  replace r2 := r2.on b6
  replace b6 := b5.trans (b6.mono b5.size)
  clear b5 r5
  go_wp2_with (go_at_call 13; refine (par_any S.plainP _ _ 1 2 _ r2 (by decide)).mono ?_)
  rintro e w7 ⟨rfl, b7⟩
  rw [a1.out]
  replace r2 := r2.on b7
  replace b7 := b6.trans (b7.mono b6.size)
  clear b6
  go_wp2_with (go_at_call 12; refine (ahead_any S.plainP _ _ 1 3 _ r2 (by decide)).mono ?_)
  rintro e w8 ⟨rfl, b8⟩
  rw [a2.out]
  replace r2 := r2.on b8
  replace b8 := b7.trans (b8.mono b7.size)
  clear b7
  go_wp2_with (go_at_call 12; refine (ahead_any S.plainP _ _ 2 3 _ r2 (by decide)).mono ?_)
  rintro e w9 ⟨rfl, b9⟩
  rw [a3.out]
  replace r2 := r2.on b9
  replace b9 := b8.trans (b9.mono b8.size)
  clear b8
  go_wp2_with (go_at_call 12; refine (ahead_any S.plainP _ _ 3 1 _ r2 (by decide)).mono ?_)
  rintro e w10 ⟨rfl, b10⟩
  rw [a4.out]
  replace r2 := r2.on b10
  replace b10 := b9.trans (b10.mono b9.size)
  clear b9
  go_wp2_with (go_at_call 13; refine (par_any S.plainP _ _ 0 1 _ r2 (by decide)).mono ?_)
  rintro e w11 ⟨rfl, b11⟩
  rw [a5.out]
  replace b11 := b10.trans (b11.mono b10.size)
  go_wp2_with fail
  go_ret
  exact ⟨rfl, b11⟩
end Go.Proofs.Ytfedddkjobmocaa
