/- walks: the document's Ahead, Ints, leads, rising -/
import Derived.Test.YtahhihhfjimppaaBdD
import Derived.Test.YtahhihhfjimppaaSpM
namespace Go.Proofs.Ytahhihhfjimppaa
open Go.RowKit
set_option linter.unusedSimpArgs false
set_option linter.unusedVariables false
set_option maxRecDepth 100000

theorem Rd.pairs {w : World} {B : Nat} {A : Option Addr} {P : List (Nat × Nat)} (hr : Rd w B A (tcs P)) {x y : Nat} (hx : x < P.length) (hy : y < P.length) : ∃ b o, A = some ⟨b, o, none⟩ ∧ b < B ∧ w.cell? ⟨b, o + x * 2, none⟩ = some (.int .i64 (P[x].1 : Int)) ∧ w.cell? ⟨b, o + x * 2 + 1, none⟩ = some (.int .i64 (P[x].2 : Int)) ∧ w.cell? ⟨b, o + y * 2, none⟩ = some (.int .i64 (P[y].1 : Int)) ∧ w.cell? ⟨b, o + y * 2 + 1, none⟩ = some (.int .i64 (P[y].2 : Int)) := by
  obtain ⟨p0, p1⟩ := tcs_at P x hx
  obtain ⟨q0, q1⟩ := tcs_at P y hy
  obtain ⟨b1, o1, rfl, hb1, c0⟩ := hr.at_ p0
  obtain ⟨_, _, eA, _, c1⟩ := hr.at_ p1
  injection eA with eA; injection eA with e1 e2; subst e1 e2
  obtain ⟨_, _, eA, _, d0⟩ := hr.at_ q0
  injection eA with eA; injection eA with e1 e2; subst e1 e2
  obtain ⟨_, _, eA, _, d1⟩ := hr.at_ q1
  injection eA with eA; injection eA with e1 e2; subst e1 e2
  rw [← Nat.add_assoc] at c1 d1
  exact ⟨b1, o1, rfl, hb1, c0, c1, d0, d1⟩

theorem rahead_any (P : List (Nat × Nat)) (A : Option Addr) (c : Nat) (x y : Nat) (w : World) (hr : Rd w w.heap.size A (tcs P)) (hP : P.length ≤ 1000) (hx : x < P.length) (hy : y < P.length) :
    Calls Try.prog 24 #[.slice A P.length c, .int .i64 x, .int .i64 y] w (fun e w' => e = .returned (.bool (S.ahead P x y)) ∧ Below w.heap.size w w') := by
  obtain ⟨b1, o1, rfl, hb1, c0, c1, d0, d1⟩ := hr.pairs hx hy
  have hxI : (x : Int) < (P.length : Int) := by omega
  have hyI : (y : Int) < (P.length : Int) := by omega
  have q1 : decide ((x : Int) ≥ (P.length : Int)) = false := by simp; omega
  have q2 : decide ((y : Int) ≥ (P.length : Int)) = false := by simp; omega
  have HR : Hid (S.ahead P x y = (decide (P[x].1 < P[y].1) && decide (P[x].2 < P[y].2))) := Lib.hid (by
    have ha : S.there P.length x = true := by simp [S.there]; omega
    have hb : S.there P.length y = true := by simp [S.there]; omega
    simp only [S.ahead, ha, hb, Int.toNat_natCast, List.getD_eq_getElem?_getD, List.getElem?_eq_getElem hx, List.getElem?_eq_getElem hy, Option.getD_some, Bool.true_and])
  generalize P[x].1 = x0 at *
  generalize P[x].2 = x1 at *
  generalize P[y].1 = y0 at *
  generalize P[y].2 = y1 at *
  by_cases h0 : x0 < y0
  · have HR2 : Hid (S.ahead P x y = decide (x1 < y1)) := Lib.hid (by rw [HR.out]; simp [h0])
    have k0 : decide ((x0 : Int) < (y0 : Int)) = true := by simp; omega
    have k1 : decide ((x1 : Int) < (y1 : Int)) = decide (x1 < y1) := by simp
    clear HR
    go_enter Try.func24, Try.ntmps24
    go_wp2_with fail
    go_quiet (fail)
    go_wp2_with fail
    go_ret
    exact ⟨by rw [HR2.out]; rfl, below_drewN (Below.refl _ _) _⟩
  · have HR2 : Hid (S.ahead P x y = false) := Lib.hid (by rw [HR.out]; simp [h0])
    have k0 : decide ((x0 : Int) < (y0 : Int)) = false := by simp; omega
    have k1 : decide (x0 < y0) = false := by simpa using h0
    clear HR h0
    go_enter Try.func24, Try.ntmps24
    go_wp2_with fail
    go_quiet (fail)
    go_wp2_with fail
    go_ret
    exact ⟨by rw [HR2.out]; rfl, below_drewN (Below.refl _ _) _⟩

/-- is a strand another one, or ahead of it -/
def S.lds (P : List (Nat × Nat)) (a b : Nat) : Bool := decide (a = b) || S.ahead P a b
theorem leads_any (P : List (Nat × Nat)) (A : Option Addr) (c : Nat) (x y : Nat) (w : World) (hr : Rd w w.heap.size A (tcs P)) (hP : P.length ≤ 1000) :
    Calls Try.prog 22 #[.slice A P.length c, .int .i64 x, .int .i64 y] w (fun e w' => e = .returned (.bool (S.lds P x y)) ∧ Below w.heap.size w w') := by
  by_cases h : x = y
  · subst h
    have HR : Hid (S.lds P x x = true) := Lib.hid (by simp [S.lds])
    go_enter Try.func22, Try.ntmps22
    go_wp2_with fail
    go_ret
    exact ⟨by rw [HR.out]; rfl, Below.refl _ _⟩
  · have HR : Hid (S.lds P x y = S.ahead P x y) := Lib.hid (by simp [S.lds, h])
    have q : ((x : Int) == (y : Int)) = false := beq_false_of_ne (by omega)
    go_enter Try.func22, Try.ntmps22
    go_wp2_with (go_at_call 32; refine (ahead_any P _ _ x y _ hr hP).mono ?_)
    rintro e w1 ⟨rfl, hb⟩
    go_wp2_with fail
    go_ret
    exact ⟨by rw [HR.out]; rfl, hb⟩

theorem ints_same (xs : List Nat) (A B : Option Addr) (c d : Nat) (w : World) (ha : Rd w w.heap.size A (ns xs)) (hb : Rd w w.heap.size B (ns xs)) (hx : xs.length ≤ 1000) :
    Calls Try.prog 15 #[.slice A xs.length c, .slice B xs.length d] w (fun e w' => e = .returned (.bool true) ∧ Below w.heap.size w w') := by
  go_enter Try.func15, Try.ntmps15
  have q0 : ((xs.length : Int) != (xs.length : Int)) = false := by simp
  go_wp2_with fail
  go_loopg [5] xs.length (fun gk ii wr => ∃ k : Nat, k + gk = xs.length ∧ ii = .int .i64 k ∧ Below w.heap.size w wr)
  case atStart => exact ⟨0, by omega, rfl, Below.refl _ _⟩
  case round =>
    obtain ⟨k, hk, rfl, hbw⟩ := hrel
    have HK := Lib.hid hk
    by_cases hlt : k < xs.length
    · clear hk
      have hltI : (k : Int) < (xs.length : Int) := by omega
      obtain ⟨b1, o1, rfl, hb1, f1⟩ := (ha.below hbw).at_ (ns_at xs k hlt)
      obtain ⟨b2, o2, rfl, hb2, f2⟩ := (hb.below hbw).at_ (ns_at xs k hlt)
      have q1 : ((xs[k] : Int) != (xs[k] : Int)) = false := by simp
      generalize xs[k] = x at *
      go_wp2_with fail
      go_quiet (fail)
      go_wp2_with fail
      go_roundg (gk - 1)
      case measure => have := HK.out; omega
      case rel => exact ⟨k + 1, by have := HK.out; omega, by go_num, below_drewN hbw _⟩
    · clear hk
      go_wp2_with fail
      go_ret
      exact ⟨rfl, hbw⟩

theorem rising_any (xs : List Nat) (A : Option Addr) (c : Nat) (w : World) (hr : Rd w w.heap.size A (ns xs)) (hx : xs.length ≤ 1000) :
    Calls Try.prog 23 #[.slice A xs.length c] w (MadeN w xs.reverse) := by
  obtain ⟨i0, hi, hz0, hz1, hz2⟩ := info_parts info_int
  go_enter Try.func23, Try.ntmps23
  go_wp2_with (at_make; refine wpList_make_full _ rfl (.tmp 8) (.tmp 8) 23 rfl 0 3 i0 _ 1 Try.underlying23 hi hz0 hz1 .i64 .i64 xs.length xs.length xs.length rfl rfl rfl rfl ?d1 ?d2 ?d3 ?_)
  case d1 => rw [hz2]; omega
  case d2 => simp only [maxLen]; omega
  case d3 => simp
  intro w1 ho1 hg1
  rw [made_ns] at ho1
  have hfr1 : Fr (fun k => k = w.heap.size) w w1 := (Fr.refl _ w).grown hg1 (by simp)
  clear hg1
  generalize hgP : w.heap.size = gP at *
  have HGP := Lib.hid hgP
  clear hgP
  go_wp2_with fail
  go_loopg [11] xs.length (fun gk kk wr => ∃ (k : Nat) (P : List Nat), k + gk = xs.length ∧ kk = .int .i64 k ∧ Own wr 3 1 gP xs.length xs.length (ns P) ∧ Hid (P = xs.reverse.take k ++ List.replicate (xs.length - k) 0) ∧ Fr (fun k => k = gP) w wr)
  case atStart => exact ⟨0, List.replicate xs.length 0, by omega, rfl, ho1, Lib.hid (by simp), hfr1⟩
  case round =>
    obtain ⟨k, P, hk, rfl, ho, HP, hfr⟩ := hrel
    have HK := Lib.hid hk
    have HPL : Hid (P.length = xs.length) := Lib.hid (by rw [HP.out]; simp; omega)
    clear ho1 hfr1
    by_cases hlt : k < xs.length
    · clear hk
      have hltI : (k : Int) < (xs.length : Int) := by omega
      have hrw : Rd wr gP A (ns xs) := hr.keep (fun p hp => hfr.cell (by have := HGP.out; omega) (by omega))
      obtain ⟨b1, o1, rfl, hb1, f1⟩ := hrw.at_ (ns_at xs (xs.length - 1 - k) (by omega))
      have ca := ho.cell k (by omega)
      rw [ns_at P k (by rw [HPL.out]; exact hlt)] at ca
      have fa := ho.frozen k
      have HX : Hid (P.set k (xs[xs.length - 1 - k]'(by omega)) = xs.reverse.take (k + 1) ++ List.replicate (xs.length - (k + 1)) 0) := Lib.hid (by
        have e1 : xs[xs.length - 1 - k]'(by omega) = xs.reverse[k]'(by simpa using hlt) := by rw [List.getElem_reverse]
        rw [e1, HP.out, List.take_succ_eq_append_getElem (by simpa using hlt), List.set_append]
        have hlen : (xs.reverse.take k).length = k := by simp; omega
        rw [if_neg (by omega), hlen, Nat.sub_self]
        obtain ⟨m, hm⟩ : ∃ m, xs.length - k = m + 1 := ⟨xs.length - k - 1, by omega⟩
        rw [hm, show xs.length - (k + 1) = m by omega, List.replicate_succ, List.set_cons_zero, List.append_assoc]
        rfl)
      have ho2 : Own (wr.setCell ⟨gP, k, none⟩ (.int .i64 ((xs[xs.length - 1 - k]'(by omega) : Nat) : Int))) 3 1 gP xs.length xs.length (ns (P.set k (xs[xs.length - 1 - k]'(by omega)))) := by rw [← ns_set]; exact ho.set k _
      generalize xs[xs.length - 1 - k]'(by omega) = x at *
      have hfr2 := hfr.setCell (p := ⟨gP, k, none⟩) (.inl rfl) (.int .i64 (x : Int))
      clear ho hrw
      go_wp2_with fail
      go_roundg (gk - 1)
      case measure => have := HK.out; omega
      case rel => exact ⟨k + 1, P.set k x, by have := HK.out; omega, by go_num, ho2, HX, hfr2⟩
    · clear hk
      have e1 : P = xs.reverse := by
        have h1 := HP.out
        rw [List.take_of_length_le (by simp; omega), show xs.length - k = 0 by omega] at h1
        simpa using h1
      subst e1
      have r1 := ho.rd
      go_wp2_with fail
      go_ret
      exact ⟨some ⟨gP, 0, none⟩, xs.length, by rw [List.length_reverse]; rfl, r1, hfr.below (Nat.le_refl _) (fun k hk => by have := HGP.out; omega)⟩
end Go.Proofs.Ytahhihhfjimppaa
