/- walks of the laws WirePuts, WireApart, WireBack, WireTexts, WireRows -/
import Derived.Test.YtplcibcpjichgaaAlive
import Derived.Test.YtplcibcpjichgaaAppFull
namespace Go.Proofs.Ytplcibcpjichgaa
open Go.RowKit
set_option linter.unusedSimpArgs false
set_option linter.unusedVariables false
set_option maxRecDepth 100000

/-- what every law of the seat comes to -/
def Holds (w : World) (e : Ending) (w' : World) : Prop := e = .returned (.bool true) ∧ Below w.heap.size w w'

theorem put_le {n : Int} (h1 : -9223372036854775808 ≤ n) (h2 : n ≤ 9223372036854775807) : 1 ≤ (W.put n).length ∧ (W.put n).length ≤ 10 := ⟨W.enc_pos _, W.enc_le10 (W.turn_lt n h1 h2)⟩
theorem put_byt (n : Int) : Byt (W.put n) := W.enc_byt _
theorem put_inj {m n : Int} (h : W.put m = W.put n) (a1 : -9223372036854775808 ≤ m) (a2 : m ≤ 9223372036854775807) (b1 : -9223372036854775808 ≤ n) (b2 : n ≤ 9223372036854775807) : m = n := by
  have e1 := W.get_put m [] a1 a2
  have e2 := W.get_put n [] b1 b2
  rw [h, e2] at e1
  simp only [Option.some.injEq, Prod.mk.injEq] at e1
  exact e1.1.symm

theorem puts_walk (n : Int) (w : World) (h1 : -9223372036854775808 ≤ n) (h2 : n ≤ 9223372036854775807) : Calls Try.prog 3 #[.int .i64 n] w (Holds w) := by
  obtain ⟨p1, p2⟩ := put_le h1 h2
  go_enter Try.func3, Try.ntmps3
  go_wp2_with fail
  refine (alive_any _).mono ?_
  rintro e w1 ⟨rfl, hb1⟩
  go_wp2_with fail
  refine (put_any n w1 h1 h2).mono ?_
  rintro e w2 ⟨A2, c2, rfl, ho2, hb2, _, _⟩
  have r2 := Rd.of_own ho2
  clear ho2
  go_wp2_with fail
  refine (refPut_any n w2 h1 h2).mono ?_
  rintro e w3 ⟨A3, c3, rfl, ho3, hb3, _, _⟩
  have r3 := Rd.of_own ho3
  clear ho3
  go_wp2_with fail
  refine (same_any' true (by simp) rfl rfl (r2.on hb3) r3 (by omega) (by omega)).mono ?_
  rintro e w4 ⟨rfl, k, rfl⟩
  go_wp2_with fail
  go_ret
  exact ⟨rfl, below_drewN (bel_trans (bel_trans hb1 hb1.size hb2) (Nat.le_trans hb1.size hb2.size) hb3) _⟩

theorem apart_len {m n : Int} (h : (0 ≤ m ∧ m ≤ n) ∨ (m < 0 ∧ n ≤ m)) : (W.put m).length ≤ (W.put n).length := by
  refine W.enc_mono ?_
  unfold W.turn
  split <;> split <;> omega

/-- the tail of the law's walk, whatever the way to it -/
theorem apart_walk (m n : Int) (w : World) (a1 : -9223372036854775808 ≤ m) (a2 : m ≤ 9223372036854775807) (b1 : -9223372036854775808 ≤ n) (b2 : n ≤ 9223372036854775807) : Calls Try.prog 9 #[.int .i64 m, .int .i64 n] w (Holds w) := by
  obtain ⟨p1, p2⟩ := put_le a1 a2
  obtain ⟨q1, q2⟩ := put_le b1 b2
  have hlen : (0 ≤ m ∧ m ≤ n) ∨ (m < 0 ∧ n ≤ m) → (W.put m).length ≤ (W.put n).length := apart_len
  obtain ⟨b, hb⟩ : ∃ b : Bool, b = decide (W.put m = W.put n) := ⟨_, rfl⟩
  have hmn : (m == n) = b := by
    rw [hb]
    by_cases e : m = n
    · subst e; simp
    · have : W.put m ≠ W.put n := fun h => e (put_inj h a1 a2 b1 b2)
      simp [e, this]
  have HB := Lib.hid hb
  have HMN := Lib.hid hmn
  clear hb hmn
  have tail : ∀ (w4 : World) (A1 A2 : Option Addr) (c1 c2 : Nat), True := fun _ _ _ _ _ => trivial
  clear tail
  have hm0 : (0 ≤ m ∧ 0 ≤ n ∧ m ≤ n) ∨ (0 ≤ m ∧ 0 ≤ n ∧ n < m) ∨ (0 ≤ m ∧ n < 0) ∨ (m < 0 ∧ 0 ≤ n) ∨ (m < 0 ∧ n < 0 ∧ n ≤ m) ∨ (m < 0 ∧ n < 0 ∧ m < n) := by omega
  rcases hm0 with ⟨x, y, z⟩ | ⟨x, y, z⟩ | ⟨x, y⟩ | ⟨x, y⟩ | ⟨x, y, z⟩ | ⟨x, y, z⟩
  all_goals
    (try (have hL := hlen (by omega)))
    clear hlen
    go_enter Try.func9, Try.ntmps9
    go_wp2_with fail
    refine (put_any m w a1 a2).mono ?_
    rintro e w1 ⟨A1, c1, rfl, ho1, hb1, _, _⟩
    have r1 := Rd.of_own ho1
    clear ho1
    go_wp2_with fail
    refine (put_any n w1 b1 b2).mono ?_
    rintro e w2 ⟨A2, c2, rfl, ho2, hb2, _, _⟩
    have r2 := Rd.of_own ho2
    clear ho2
    go_wp2_with fail
    refine (alive_any _).mono ?_
    rintro e w3 ⟨rfl, hb3⟩
    go_wp2_with fail
    refine (same_any' b HB.out rfl rfl ((r1.on hb2).on hb3) (r2.on hb3) (by omega) (by omega)).mono ?_
    rintro e w4 ⟨rfl, k, rfl⟩
    have hq : (b == (m == n)) = true := by rw [HMN.out]; simp
    go_wp2_with fail
    go_ret
    exact ⟨rfl, below_drewN (bel_trans (bel_trans hb1 hb1.size hb2) (Nat.le_trans hb1.size hb2.size) hb3) _⟩
end Go.Proofs.Ytplcibcpjichgaa
