/- SpSerial walked -/
import Derived.Test.YtfedddkjobmocaaSpH
import Derived.Test.YtfedddkjobmocaaSpSer
namespace Go.Proofs.Ytfedddkjobmocaa
open Go.RowKit
set_option linter.unusedSimpArgs false
set_option linter.unusedVariables false
set_option maxRecDepth 100000

theorem serial_take {l : List S.Five} {k : Nat} (hk : k < l.length) : S.serial 0 (l.take (k + 1)) = S.atNext (S.serial 0 (l.take k)) l[k] := by
  unfold S.serial
  rw [List.take_succ_eq_append_getElem hk, List.foldl_append]
  rfl
/-- the two cells of a place -/
theorem Rd.pair {w : World} {B : Nat} {A : Option Addr} {P : List (Nat × Nat)} (h : Rd w B A (tcs P)) {k : Nat} (hk : k < P.length) : ∃ b off, A = some ⟨b, off, none⟩ ∧ b < B ∧ w.cell? ⟨b, off + k * 2, none⟩ = some (.int .i64 ((P[k].1 : Nat) : Int)) ∧ w.cell? ⟨b, off + k * 2 + 1, none⟩ = some (.int .i64 ((P[k].2 : Nat) : Int)) := by
  obtain ⟨p0, p1⟩ := tcs_at P k hk
  obtain ⟨b1, o1, rfl, hb1, c0⟩ := h.at_ p0
  obtain ⟨_, _, eA, _, c1⟩ := h.at_ p1
  injection eA with eA; injection eA with e1 e2; subst e1 e2
  rw [← Nat.add_assoc] at c1
  exact ⟨b1, o1, rfl, hb1, c0, c1⟩
theorem Rd.five {w : World} {B : Nat} {A : Option Addr} {l : List S.Five} (h : Rd w B A (fcs l)) {k : Nat} (hk : k < l.length) : ∃ b off, A = some ⟨b, off, none⟩ ∧ b < B ∧ w.cell? ⟨b, off + k * 5, none⟩ = some (.int .i64 l[k].1) ∧ w.cell? ⟨b, off + k * 5 + 1, none⟩ = some (.int .i64 l[k].2.1) ∧
    w.cell? ⟨b, off + k * 5 + 2, none⟩ = some (.int .i64 l[k].2.2.1) ∧ w.cell? ⟨b, off + k * 5 + 3, none⟩ = some (.int .i64 l[k].2.2.2.1) ∧ w.cell? ⟨b, off + k * 5 + 4, none⟩ = some (.int .i64 l[k].2.2.2.2) := by
  obtain ⟨p0, p1, p2, p3, p4⟩ := fcs_at l k hk
  obtain ⟨b1, o1, rfl, hb1, c0⟩ := h.at_ p0
  obtain ⟨_, _, eA, _, c1⟩ := h.at_ p1
  injection eA with eA; injection eA with e1 e2; subst e1 e2
  obtain ⟨_, _, eA, _, c2⟩ := h.at_ p2
  injection eA with eA; injection eA with e1 e2; subst e1 e2
  obtain ⟨_, _, eA, _, c3⟩ := h.at_ p3
  injection eA with eA; injection eA with e1 e2; subst e1 e2
  obtain ⟨_, _, eA, _, c4⟩ := h.at_ p4
  injection eA with eA; injection eA with e1 e2; subst e1 e2
  rw [← Nat.add_assoc] at c1 c2 c3 c4
  exact ⟨b1, o1, rfl, hb1, c0, c1, c2, c3, c4⟩

theorem serial_walk (l : List S.Five) (A : Option Addr) (c : Nat) (w : World) (hr : Rd w w.heap.size A (fcs l)) (hlen : l.length ≤ 9223372036854775807) :
    Calls Try.prog 6 #[.slice A l.length c] w (fun e w' => e = .returned (.bool true) ∧ Below w.heap.size w w') := by
  by_cases hl : l.length ≤ 40
  · have hlI : (l.length : Int) ≤ 40 := by omega
    go_enter Try.func6, Try.ntmps6
    go_wp2_with (go_at_call 8; refine (awake_any _).mono ?_)
    rintro e w1 ⟨rfl, b1⟩
    have r1 := hr.on b1
    clear hr
    go_wp2_with (go_at_call 9; refine (of_any l _ _ _ r1 hl).mono ?_)
    rintro e w2 ⟨b2, ⟨h, rfl⟩ | ⟨s, g, cap, h, rfl, ho, _⟩⟩
    · have H := Lib.hid h
      clear h
      replace b2 := b1.trans (b2.mono b1.size)
      go_wp2_with fail
      go_ret
      exact ⟨rfl, b2⟩
    · have hg := S.run_good S.init_good h
      have hn := S.run_n h
      have hn2 : s.n ≤ 121 := by have : S.init.n = 1 := rfl; omega
      have hn1 : 1 ≤ s.n := hn.2
      have HN := Lib.hid hg.places_length
      obtain ⟨e', h', ho', _, hser⟩ := S.serial_all S.init_sinv h
      have hall : ∀ k (hk : k < l.length), l[k].1 ≠ 2 → ∃ m a : Nat, S.nx l[k] = (m : Int) ∧ S.atNext (S.serial 0 (l.take k)) l[k] = m ∧ S.serial 0 (l.take k) = a ∧ m < s.places.length ∧ a < s.places.length ∧ (s.places.getD a (0, 0)).1 < (s.places.getD m (0, 0)).1 := by
        intro k hk hne
        obtain ⟨q1, q2, q3, q4⟩ := hser k hk hne
        refine ⟨_, _, q1, rfl, rfl, by rw [HN.out]; exact q2, by rw [HN.out]; exact q3, ?_⟩
        rw [ho'.places hg q2, ho'.places hg q3]
        exact q4
      have HALL := Lib.hid hall
      have r2 := ho.rdk
      replace r1 := r1.on b2
      clear hg hn h ho hser hall ho' hl hlI
      replace b2 := b1.trans (b2.mono b1.size)
      clear b1
      have e4 := HN.out
      clear HN
      generalize s.n = n at *
      subst e4
      generalize s.places = P at *
      go_wp2_with fail
      go_loopg [6, 7] l.length (fun gk aa ii wr => ∃ k : Nat, k + gk = l.length ∧ aa = .int .i64 ((S.serial 0 (l.take k) : Nat) : Int) ∧ ii = .int .i64 k ∧ Below w2.heap.size w2 wr)
      case atStart => exact ⟨0, by omega, rfl, rfl, Below.refl _ _⟩
      case round =>
        obtain ⟨k, hk, rfl, rfl, hb⟩ := hrel
        have HK := Lib.hid hk
        by_cases hlt : k < l.length
        · have rA := r1.on hb
          have rP := r2.on hb
          clear r1 r2 hk
          have hkI : (k : Int) < (l.length : Int) := by omega
          obtain ⟨bA, oA, rfl, hbA, f0, f1, f2, f3, f4⟩ := rA.five hlt
          have hcs := HALL.out k hlt
          have HT := Lib.hid (serial_take hlt)
          have HX : Hid (S.nx l[k] = if l[k].1 = 1 then l[k].2.2.1 else l[k].2.2.2.2) := Lib.hid rfl
          have HY : Hid (S.atNext (S.serial 0 (l.take k)) l[k] = if l[k].1 = 2 then S.serial 0 (l.take k) else (S.nx l[k]).toNat) := Lib.hid rfl
          clear HALL
          by_cases k2 : l[k].1 = 2
          · have HT2 : Hid (S.serial 0 (l.take (k + 1)) = S.serial 0 (l.take k)) := Lib.hid (by rw [HT.out, HY.out, if_pos k2])
            rw [k2] at f0
            clear hcs HX HY HT k2
            go_wp2_with fail
            go_roundg (gk - 1)
            case measure => have := HK.out; omega
            case rel =>
              have h1 := HK.out
              exact ⟨k + 1, by omega, by rw [HT2.out], by go_num, hb.alloc (by have := hb.size; omega) _⟩
          · obtain ⟨m, a, e1, e2, e3, hm, ha, hlt2⟩ := hcs k2
            rw [e2] at HT
            rw [e3]
            rw [e1] at HX
            clear HY e1 e2 e3
            have hmI : (m : Int) < (P.length : Int) := by omega
            have haI : (a : Int) < (P.length : Int) := by omega
            obtain ⟨bP, oP, eP, hbP, c0, c1⟩ := rP.pair hm
            obtain ⟨_, _, eA, _, d0, d1⟩ := rP.pair ha
            injection eP with eP; injection eP with e1 e2; subst e1 e2
            injection eA with eA; injection eA with e1 e2; subst e1 e2
            simp only [Nat.zero_add] at c0 c1 d0 d1
            rw [List.getD_eq_getElem?_getD, List.getD_eq_getElem?_getD, List.getElem?_eq_getElem hm, List.getElem?_eq_getElem ha] at hlt2
            simp only [Option.getD_some] at hlt2
            generalize P[m].1 = x0 at *
            generalize P[a].1 = y0 at *
            generalize P[m].2 = x1 at *
            generalize P[a].2 = y1 at *
            have qa : decide (x0 ≤ y0) = false := by simp; omega
            have K2 := Lib.hid k2
            have q2 : (l[k].1 == 2) = false := by simpa using k2
            clear k2
            by_cases k1 : l[k].1 = 1
            · have hx : l[k].2.2.1 = (m : Int) := by rw [HX.out, if_pos k1]
              rw [k1] at f0
              rw [hx] at f2
              clear HX k1 hx q2
              go_wp2_with fail
              go_region
              all_goals
                go_wp2_with fail
                go_roundg (gk - 1)
                case measure => have := HK.out; omega
                case rel =>
                  have h1 := HK.out
                  exact ⟨k + 1, by omega, by rw [HT.out], by go_num, (hb.alloc (by have := hb.size; omega) _).drew⟩
            · have hx : l[k].2.2.2.2 = (m : Int) := by rw [HX.out, if_neg k1]
              have q1 : (l[k].1 == 1) = false := by simpa using k1
              rw [hx] at f4
              clear HX k1 hx
              go_wp2_with fail
              go_region
              all_goals
                go_wp2_with fail
                go_roundg (gk - 1)
                case measure => have := HK.out; omega
                case rel =>
                  have h1 := HK.out
                  exact ⟨k + 1, by omega, by rw [HT.out], by go_num, (hb.alloc (by have := hb.size; omega) _).drew⟩
        · obtain rfl : gk = 0 := by omega
          clear hk
          go_wp2_with fail
          go_ret
          exact ⟨rfl, b2.trans (hb.mono b2.size)⟩
  · have hl' : 40 < (l.length : Int) := by omega
    go_enter Try.func6, Try.ntmps6
    go_wp2_with (go_at_call 8; refine (awake_any _).mono ?_)
    rintro e w1 ⟨rfl, b1⟩
    go_wp2_with fail
    go_ret
    exact ⟨rfl, b1⟩
end Go.Proofs.Ytfedddkjobmocaa
