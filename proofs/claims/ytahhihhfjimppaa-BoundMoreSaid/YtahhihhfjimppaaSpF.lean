/- walks: there, Ahead, Parallel, Same -/
import Derived.Test.YtahhihhfjimppaaSpC
import Derived.BigRegion
import Derived.ChangeKeysEq
import Derived.Laws.StructEq
namespace Go.Proofs.Ytahhihhfjimppaa
open Go.RowKit
set_option linter.unusedSimpArgs false
set_option linter.unusedVariables false
set_option maxRecDepth 100000

def S.there (n : Nat) (a : Int) : Bool := decide (0 ≤ a ∧ a < (n : Int))
def S.ahead (P : List (Nat × Nat)) (a b : Int) : Bool :=
  S.there P.length a && S.there P.length b && decide ((P.getD a.toNat (0, 0)).1 < (P.getD b.toNat (0, 0)).1) && decide ((P.getD a.toNat (0, 0)).2 < (P.getD b.toNat (0, 0)).2)
def S.par (P : List (Nat × Nat)) (a b : Int) : Bool := S.there P.length a && S.there P.length b && decide (a ≠ b) && !S.ahead P a b && !S.ahead P b a

theorem eq_bools (w : World) (p q : Bool) : (Op.equalIn 10000 101 (.agg #[.bool p, .bool q]) (.agg #[.bool true, .bool true])).run Try.prog w = .ok (p && q) w := by
  have hu : Try.prog.underlying 101 = some (.array 2 4) := by kernel_rfl
  have hb : Try.prog.underlying 4 = some .bool := by kernel_rfl
  obtain ⟨i, hi⟩ : ∃ i, Try.prog.info? 4 = some i := Option.isSome_iff_exists.1 (by kernel_rfl)
  rw [show (10000 : Nat) = 9999 + 1 from rfl, run_equalIn_array w 9999 _ _ hu hi]
  have hc : Try.prog.cellsOf 4 = 1 := by kernel_rfl
  rw [hc, show List.range 2 = [0, 1] from rfl]
  cases p <;> cases q <;> simp [Op.eqItems, go_sem, hb, hi]
theorem there_any (A : Option Addr) (n c : Nat) (a : Int) (w : World) :
    Calls Try.prog 38 #[.slice A n c, .int .i64 a] w (fun e w' => e = .returned (.bool (S.there n a)) ∧ w' = w) := by
  by_cases h1 : 0 ≤ a
  · by_cases h2 : a < (n : Int)
    · have HR : Hid (S.there n a = true) := Lib.hid (by simp [S.there]; omega)
      go_enter Try.func38, Try.ntmps38
      go_wp2
      go_ret
      exact ⟨by rw [HR.out]; rfl, rfl⟩
    · have HR : Hid (S.there n a = false) := Lib.hid (by simp [S.there]; omega)
      go_enter Try.func38, Try.ntmps38
      go_wp2
      go_ret
      exact ⟨by rw [HR.out]; rfl, rfl⟩
  · have HR : Hid (S.there n a = false) := Lib.hid (by simp [S.there]; omega)
    go_enter Try.func38, Try.ntmps38
    go_wp2
    go_ret
    exact ⟨by rw [HR.out]; rfl, rfl⟩

attribute [local go_sem] eq_bools in
theorem ahead_any (P : List (Nat × Nat)) (A : Option Addr) (c : Nat) (a b : Int) (w : World) (hr : Rd w w.heap.size A (tcs P)) (hP : P.length ≤ 1000) :
    Calls Try.prog 32 #[.slice A P.length c, .int .i64 a, .int .i64 b] w (fun e w' => e = .returned (.bool (S.ahead P a b)) ∧ Below w.heap.size w w') := by
  cases ha : S.there P.length a
  · have HA := Lib.hid ha
    have HR : Hid (S.ahead P a b = false) := Lib.hid (by simp [S.ahead, ha])
    clear ha
    go_enter Try.func32, Try.ntmps32
    go_wp2_with (go_at_call 38; refine (there_any _ _ _ _ _).mono ?_; rintro e w1 ⟨rfl, rfl⟩; rw [HA.out])
    go_ret
    exact ⟨by rw [HR.out]; rfl, Below.refl _ _⟩
  · cases hb : S.there P.length b
    · have HA := Lib.hid ha
      have HB := Lib.hid hb
      have HR : Hid (S.ahead P a b = false) := Lib.hid (by simp [S.ahead, hb])
      clear ha hb
      go_enter Try.func32, Try.ntmps32
      go_wp2_with (go_at_call 38; refine (there_any _ _ _ _ _).mono ?_; rintro e w1 ⟨rfl, rfl⟩; first | rw [HA.out] | rw [HB.out])
      go_ret
      exact ⟨by rw [HR.out]; rfl, Below.refl _ _⟩
    · have ha' := ha
      have hb' := hb
      simp only [S.there, decide_eq_true_eq] at ha' hb'
      obtain ⟨x, rfl⟩ : ∃ x : Nat, a = (x : Int) := ⟨a.toNat, by omega⟩
      obtain ⟨y, rfl⟩ : ∃ y : Nat, b = (y : Int) := ⟨b.toNat, by omega⟩
      have hx : x < P.length := by omega
      have hy : y < P.length := by omega
      have hxI : (x : Int) < (P.length : Int) := by omega
      have hyI : (y : Int) < (P.length : Int) := by omega
      obtain ⟨p0, p1⟩ := tcs_at P x hx
      obtain ⟨q0, q1⟩ := tcs_at P y hy
      obtain ⟨b1, o1, rfl, hb1, c0⟩ := hr.at_ p0
      obtain ⟨_, _, eA, _, c1⟩ := hr.at_ p1
      injection eA with eA; injection eA with e1 e2; subst e1 e2
      obtain ⟨_, _, eA, _, d0⟩ := hr.at_ q0
      injection eA with eA; injection eA with e1 e2; subst e1 e2
      obtain ⟨_, _, eA, _, d1⟩ := hr.at_ q1
      injection eA with eA; injection eA with e1 e2; subst e1 e2
      rw [← Nat.add_assoc] at c1 d1
      have HR : Hid (S.ahead P x y = (decide (P[x].1 < P[y].1) && decide (P[x].2 < P[y].2))) := Lib.hid (by
        simp only [S.ahead, ha, hb, Int.toNat_natCast, List.getD_eq_getElem?_getD, List.getElem?_eq_getElem hx, List.getElem?_eq_getElem hy, Option.getD_some, Bool.true_and])
      have HA := Lib.hid ha
      have HB := Lib.hid hb
      clear ha hb ha' hb' p0 p1 q0 q1
      generalize P[x].1 = x0 at *
      generalize P[x].2 = x1 at *
      generalize P[y].1 = y0 at *
      generalize P[y].2 = y1 at *
      go_enter Try.func32, Try.ntmps32
      go_wp2_with (go_at_call 38; refine (there_any _ _ _ _ _).mono ?_; rintro e w1 ⟨rfl, rfl⟩; first | rw [HA.out] | rw [HB.out])
      go_region
      all_goals
        go_wp2_with fail
        go_ret
        exact ⟨by rw [HR.out]; rfl, ((Below.refl _ _).alloc (Nat.le_refl _) _).drew⟩

end Go.Proofs.Ytahhihhfjimppaa
