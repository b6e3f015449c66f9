/- walks: Same, Picked -/
import Derived.Test.YteindickckcdhaaTrC
namespace Go.Proofs.Yteindickckcdhaa
open Go.RowKit
set_option linter.unusedSimpArgs false
set_option linter.unusedVariables false
set_option maxRecDepth 100000

theorem eq_evs (w : World) (a b c d e f g a' b' c' d' e' f' g' : Int) (h h' : Bool) :
    (Op.equalIn 10000 48 (.agg #[.int .i64 a, .int .i64 b, .int .i64 c, .int .i64 d, .int .i64 e, .int .i64 f, .int .i64 g, .bool h]) (.agg #[.int .i64 a', .int .i64 b', .int .i64 c', .int .i64 d', .int .i64 e', .int .i64 f', .int .i64 g', .bool h'])).run Try.prog w =
      .ok (T.eqB (a, b, c, d, e, f, g, h) (a', b', c', d', e', f', g', h')) w := by
  have hu : Try.prog.underlying 48 = some (.struct (Try.prog.fieldsOf 48)) := by kernel_rfl
  have hp : Try.prog.stoodInHeld 48 = false := by kernel_rfl
  have hb : Try.prog.underlying 3 = some (.int .i64) := by kernel_rfl
  rw [show (10000 : Nat) = 9999 + 1 from rfl, run_equalIn_struct w 9999 48 _ _ hu hp]
  have hb2 : Try.prog.underlying 4 = some .bool := by kernel_rfl
  unfold T.eqB
  simp only
  by_cases h1 : a = a'
  · by_cases h2 : b = b'
    · by_cases h3 : c = c'
      · by_cases h4 : d = d'
        · by_cases h5 : e = e'
          · by_cases h6 : f = f'
            · by_cases h7 : g = g'
              · by_cases h8 : h = h'
                · simp [Op.eqFields, go_sem, hb, hb2, h1, h2, h3, h4, h5, h6, h7, h8]
                · simp [Op.eqFields, go_sem, hb, hb2, h1, h2, h3, h4, h5, h6, h7, h8]
              · simp [Op.eqFields, go_sem, hb, hb2, h1, h2, h3, h4, h5, h6, h7]
            · simp [Op.eqFields, go_sem, hb, hb2, h1, h2, h3, h4, h5, h6]
          · simp [Op.eqFields, go_sem, hb, hb2, h1, h2, h3, h4, h5]
        · simp [Op.eqFields, go_sem, hb, hb2, h1, h2, h3, h4]
      · simp [Op.eqFields, go_sem, hb, hb2, h1, h2, h3]
    · simp [Op.eqFields, go_sem, hb, hb2, h1, h2]
  · simp [Op.eqFields, go_sem, hb, hb2, h1]

theorem take_snoc_eq {α : Type} {l m : List α} {k : Nat} (hl : k < l.length) (hm : k < m.length) (h : l.take k = m.take k) (he : l[k] = m[k]) : l.take (k + 1) = m.take (k + 1) := by
  rw [List.take_succ_eq_append_getElem hl, List.take_succ_eq_append_getElem hm, h, he]

attribute [local go_sem ↓] eq_evs in
theorem esame_any (l m : List T.Ev) (A B : Option Addr) (c d : Nat) (w : World) (hr : Rd w w.heap.size A (ecs l)) (hq : Rd w w.heap.size B (ecs m)) (hl : l.length ≤ 1000000) (hm : m.length ≤ 1000000) :
    Calls Try.prog 16 #[.slice A l.length c, .slice B m.length d] w (fun e w' => e = .returned (.bool (decide (l = m))) ∧ Below w.heap.size w w') := by
  by_cases hlm : l.length = m.length
  · have HLM := Lib.hid hlm
    have q0 : ((l.length : Int) != (m.length : Int)) = false := by simp; omega
    clear hlm
    go_enter Try.func16, Try.ntmps16
    go_wp2
    go_loopg [5] l.length (fun gk ii wr => ∃ k : Nat, k + gk = l.length ∧ ii = .int .i64 k ∧ Below w.heap.size w wr ∧ Hid (l.take k = m.take k))
    case atStart => exact ⟨0, by omega, rfl, Below.refl _ _, Lib.hid (by simp)⟩
    case round =>
      obtain ⟨k, hk, rfl, hb, HE⟩ := hrel
      have HK := Lib.hid hk
      by_cases hlt : k < l.length
      · have hltm : k < m.length := by have := HLM.out; omega
        clear hk
        have hI : (k : Int) < (l.length : Int) := by omega
        have hI2 : (k : Int) < (m.length : Int) := by omega
        have hr' := hr.below hb
        have hq' := hq.below hb
        obtain ⟨bA, oA, rfl, hbA, f0, f1, f2, f3, f4, f5, f6, f7⟩ := hr'.ev hlt
        obtain ⟨bB, oB, rfl, hbB, g0, g1, g2, g3, g4, g5, g6, g7⟩ := hq'.ev hltm
        have HT := Lib.hid (fun he => take_snoc_eq hlt hltm HE.out he)
        have hne : l[k] ≠ m[k] → l ≠ m := by rintro h rfl; exact h rfl
        have HNE := Lib.hid hne
        clear hne hr' hq' hr hq
        generalize l[k] = x at *
        generalize m[k] = y at *
        obtain ⟨x0, x1, x2, x3, x4, x5, x6, x7⟩ := x
        obtain ⟨y0, y1, y2, y3, y4, y5, y6, y7⟩ := y
        simp only at f0 f1 f2 f3 f4 f5 f6 f7 g0 g1 g2 g3 g4 g5 g6 g7
        by_cases hxy : ((x0, x1, x2, x3, x4, x5, x6, x7) : T.Ev) = (y0, y1, y2, y3, y4, y5, y6, y7)
        · have HT2 := Lib.hid (HT.out hxy)
          have hd : T.eqB (x0, x1, x2, x3, x4, x5, x6, x7) (y0, y1, y2, y3, y4, y5, y6, y7) = true := (T.eqB_iff _ _).2 hxy
          clear hxy
          go_wp2
          go_region
          all_goals
            go_wp2
            go_roundg (gk - 1)
            case measure => have := HK.out; omega
            case rel => exact ⟨k + 1, by have := HK.out; omega, by go_num, hb.drew, HT2⟩
        · have HT2 : Hid (decide (l = m) = false) := Lib.hid (by simpa using HNE.out hxy)
          have hd : T.eqB (x0, x1, x2, x3, x4, x5, x6, x7) (y0, y1, y2, y3, y4, y5, y6, y7) = false := by rw [← Bool.not_eq_true, T.eqB_iff]; exact hxy
          clear hxy
          go_wp2
          go_region
          all_goals
            go_wp2
            go_ret
            exact ⟨by rw [HT2.out]; rfl, hb.drew⟩
      · have HT2 : Hid (decide (l = m) = true) := Lib.hid (by
          have h1 := HE.out
          have h2 := HLM.out
          rw [List.take_of_length_le (by omega), List.take_of_length_le (by omega)] at h1
          simpa using h1)
        clear hk
        go_wp2
        go_ret
        exact ⟨by rw [HT2.out]; rfl, hb⟩
  · have HT2 : Hid (decide (l = m) = false) := Lib.hid (by simp; rintro rfl; exact hlm rfl)
    have q0 : ((l.length : Int) != (m.length : Int)) = true := by simp; omega
    clear hlm
    go_enter Try.func16, Try.ntmps16
    go_wp2
    go_ret
    exact ⟨by rw [HT2.out]; rfl, Below.refl _ _⟩
end Go.Proofs.Yteindickckcdhaa
