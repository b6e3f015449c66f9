/- walks: Put (both), Same, Ints -/
import Derived.Test.YteindickckcdhaaWalkA
import Derived.Deep.QuietTactic
import Derived.BigQuiet
namespace Go.Proofs.Yteindickckcdhaa
open Go.RowKit
set_option linter.unusedSimpArgs false
set_option linter.unusedVariables false

/-- a new slice of bytes -/
def Made (w : World) (news : List Nat) (e : Ending) (w' : World) : Prop :=
  ∃ A c, e = .returned (.slice A news.length c) ∧ w'.ownsRow w.heap.size 5 1 (.slice A news.length c) news.length (bs news) ∧ Below w.heap.size w w' ∧ news.length ≤ c ∧ c ≤ 9223372036854775807

theorem Made.of {w w' : World} {v : Value} {news : List Nat} {n : Nat} (hn : n = news.length) (ho : w'.ownsRow w.heap.size 5 1 v n (bs news)) (hb : Below w.heap.size w w') : Made w news (.returned v) w' := by
  subst hn
  obtain ⟨A, c, rfl, h1, h2⟩ := own_form ho
  exact ⟨A, c, rfl, ho, hb, h1, h2⟩

theorem put_any (n : Int) (w : World) (h1 : -9223372036854775808 ≤ n) (h2 : n ≤ 9223372036854775807) : Calls Try.prog 19 #[.int .i64 n] w (Made w (W.put n)) := by
  go_enter Try.func19, Try.ntmps19
  go_wp2_with fail
  refine (lay_any w.heap.size (.slice none 0 0) 0 [] n w (World.ownsRow_nil _ _ _ _) (Nat.le_refl _) (by omega) h1 h2).mono ?_
  rintro e w' ⟨v, rfl, ho, hg, hat⟩
  go_wp2_with fail
  go_ret
  exact Made.of (Nat.zero_add _) (by simpa using ho) ((Below.refl _ _).grown hg (Nat.le_refl _) (by simp [Value.ownBlock]))

theorem refTurned_any (n : Int) (w : World) (h1 : -9223372036854775808 ≤ n) (h2 : n ≤ 9223372036854775807) :
    Calls Try.prog 42 #[.int .i64 n] w fun e w' => e = .returned (.int .u64 (W.turn n : Nat)) ∧ w = w' := by
  by_cases h0 : 0 ≤ n
  · go_enter Try.func42, Try.ntmps42
    go_wp2
    go_ret
    exact ⟨ret_int (by unfold W.turn; rw [if_pos h0]; simp; omega), rfl⟩
  · go_enter Try.func42, Try.ntmps42
    go_wp2
    go_ret
    exact ⟨ret_int (by unfold W.turn; rw [if_neg (by omega)]; simp; omega), rfl⟩

theorem same_any (b : Bool) (A1 A2 : Option Addr) (c1 c2 : Nat) (xs ys : List Nat) (w : World) (hb : b = decide (xs = ys)) (h1 : Rd w w.heap.size A1 (bs xs)) (h2 : Rd w w.heap.size A2 (bs ys))
    (l1 : xs.length ≤ 9223372036854775807) (l2 : ys.length ≤ 9223372036854775807) :
    Calls Try.prog 11 #[.slice A1 xs.length c1, .slice A2 ys.length c2] w fun e w' => e = .returned (.bool b) ∧ ∃ n, w' = w.drewN n := by
  have HB := Lib.hid hb
  clear hb
  by_cases hl : xs.length = ys.length
  · have HL := Lib.hid hl
    have hne : ((xs.length : Int) != (ys.length : Int)) = false := by simp [hl]
    clear hl
    go_enter Try.func11, Try.ntmps11
    go_wp2
    go_loopw [5] (fun i wr => ∃ k d : Nat, k ≤ xs.length ∧ i = .int .i64 k ∧ wr = w.drewN d ∧ Hid (xs.take k = ys.take k)) (fun i _ => xs.length - (intOf i).toNat)
    case atStart => exact ⟨0, 0, Nat.zero_le _, rfl, rfl, rfl⟩
    case round =>
      obtain ⟨k, d, hk, rfl, rfl, HT⟩ := hrel
      by_cases hlt : k < xs.length
      · have hlt2 : k < ys.length := by have := HL.out; omega
        obtain ⟨b1, o1, rfl, hb1, hc1⟩ := h1.at_ (bs_at xs k hlt)
        obtain ⟨b2, o2, rfl, hb2, hc2⟩ := h2.at_ (bs_at ys k hlt2)
        clear h1 h2
        by_cases he : xs[k] = ys[k]
        · have HE := Lib.hid he
          have hx : ((xs[k] : Int) != (ys[k] : Int)) = false := by simp [he]
          clear he
          go_wp2
          go_quiet (fail)
          go_wp2
          go_roundw
          case rel => exact ⟨k + 1, d + _, by omega, by go_num, rfl, by rw [List.take_succ_eq_append_getElem hlt, List.take_succ_eq_append_getElem hlt2, HT.out, HE.out]; exact rfl⟩
          case measure => simp [intOf]; omega
        · have hx : ((xs[k] : Int) != (ys[k] : Int)) = true := by simp; omega
          go_wp2
          go_quiet (fail)
          go_wp2
          go_ret
          exact ⟨by rw [HB.out, decide_eq_false (fun h => he (by simp [h]))]; rfl, _, World.drewN_drewN _ _ _⟩
      · go_wp2
        go_ret
        have e1 : xs.take k = xs := List.take_of_length_le (by omega)
        have e2 : ys.take k = ys := List.take_of_length_le (by have := HL.out; omega)
        exact ⟨by rw [HB.out, decide_eq_true (by rw [← e1, HT.out, e2])]; rfl, _, rfl⟩
  · have hne : ((xs.length : Int) != (ys.length : Int)) = true := by simp; omega
    go_enter Try.func11, Try.ntmps11
    go_wp2
    go_ret
    exact ⟨by rw [HB.out, decide_eq_false (fun h => hl (by rw [h]))]; rfl, 0, rfl⟩
theorem ints_any (b : Bool) (A1 A2 : Option Addr) (c1 c2 : Nat) (xs ys : List Int) (w : World) (hb : b = decide (xs = ys)) (h1 : Rd w w.heap.size A1 (is xs)) (h2 : Rd w w.heap.size A2 (is ys))
    (l1 : xs.length ≤ 9223372036854775807) (l2 : ys.length ≤ 9223372036854775807) :
    Calls Try.prog 22 #[.slice A1 xs.length c1, .slice A2 ys.length c2] w fun e w' => e = .returned (.bool b) ∧ ∃ n, w' = w.drewN n := by
  have HB := Lib.hid hb
  clear hb
  by_cases hl : xs.length = ys.length
  · have HL := Lib.hid hl
    have hne : ((xs.length : Int) != (ys.length : Int)) = false := by simp [hl]
    clear hl
    go_enter Try.func22, Try.ntmps22
    go_wp2
    go_loopw [5] (fun i wr => ∃ k d : Nat, k ≤ xs.length ∧ i = .int .i64 k ∧ wr = w.drewN d ∧ Hid (xs.take k = ys.take k)) (fun i _ => xs.length - (intOf i).toNat)
    case atStart => exact ⟨0, 0, Nat.zero_le _, rfl, rfl, rfl⟩
    case round =>
      obtain ⟨k, d, hk, rfl, rfl, HT⟩ := hrel
      by_cases hlt : k < xs.length
      · have hlt2 : k < ys.length := by have := HL.out; omega
        obtain ⟨b1, o1, rfl, hb1, hc1⟩ := h1.at_ (is_at xs k hlt)
        obtain ⟨b2, o2, rfl, hb2, hc2⟩ := h2.at_ (is_at ys k hlt2)
        clear h1 h2
        by_cases he : xs[k] = ys[k]
        · have HE := Lib.hid he
          have hx : ((xs[k] : Int) != (ys[k] : Int)) = false := by simp [he]
          clear he
          go_wp2
          go_quiet (fail)
          go_wp2
          go_roundw
          case rel => exact ⟨k + 1, d + _, by omega, by go_num, rfl, by rw [List.take_succ_eq_append_getElem hlt, List.take_succ_eq_append_getElem hlt2, HT.out, HE.out]; exact rfl⟩
          case measure => simp [intOf]; omega
        · have hx : ((xs[k] : Int) != (ys[k] : Int)) = true := by simpa using he
          go_wp2
          go_quiet (fail)
          go_wp2
          go_ret
          exact ⟨by rw [HB.out, decide_eq_false (fun h => he (by simp [h]))]; rfl, _, World.drewN_drewN _ _ _⟩
      · go_wp2
        go_ret
        have e1 : xs.take k = xs := List.take_of_length_le (by omega)
        have e2 : ys.take k = ys := List.take_of_length_le (by have := HL.out; omega)
        exact ⟨by rw [HB.out, decide_eq_true (by rw [← e1, HT.out, e2])]; rfl, _, rfl⟩
  · have hne : ((xs.length : Int) != (ys.length : Int)) = true := by simp; omega
    go_enter Try.func22, Try.ntmps22
    go_wp2
    go_ret
    exact ⟨by rw [HB.out, decide_eq_false (fun h => hl (by rw [h]))]; rfl, 0, rfl⟩
end Go.Proofs.Yteindickckcdhaa
