/- walks: ref Put; Get of package wire -/
import Derived.Test.YteindickckcdhaaWalkB
namespace Go.Proofs.Yteindickckcdhaa
open Go.RowKit
set_option linter.unusedSimpArgs false
set_option linter.unusedVariables false
set_option maxRecDepth 100000

set_option maxHeartbeats 400000 in
theorem refPut_any (n : Int) (w : World) (h1 : -9223372036854775808 ≤ n) (h2 : n ≤ 9223372036854775807) : Calls Try.prog 37 #[.int .i64 n] w (Made w (W.put n)) := by
  obtain ⟨i0, hi, hz0, hz1, hz2⟩ := info_parts info_u8
  have hT := W.turn_lt n h1 h2
  go_enter Try.func37, Try.ntmps37
  go_wp2_with (go_at_call 42; refine (refTurned_any _ _ h1 h2).mono ?_; rintro e w' ⟨rfl, rfl⟩)
  go_loopw [3, 4] (fun l b wr => ∃ (v' : Value) (left : Nat) (done : List Nat), b = v' ∧ l = .int .u64 left ∧ left < 18446744073709551616 ∧ Hid (done ++ W.enc left = W.put n) ∧ wr.ownsRow w.heap.size 5 1 v' done.length (bs done) ∧ Below w.heap.size w wr) (fun l _ _ => (intOf l).toNat)
  case atStart => exact ⟨_, W.turn n, [], rfl, rfl, hT, rfl, World.ownsRow_nil _ _ _ _, Below.refl _ _⟩
  case round =>
    obtain ⟨v', left, done, rfl, rfl, hlt, HD, hown', hb⟩ := hrel
    have hsz := hb.size
    have hlen : done.length ≤ 10 := by
      have := congrArg List.length HD.out
      have h10 : (W.put n).length ≤ 10 := W.enc_le10 hT
      simp at this
      omega
    clear hT h1 h2
    by_cases hq : left < 128
    · go_wp2_with (at_builtin; refine wpList_append_own_at _ rfl (.tmp 18) (.tmp 21) 24 rfl w.heap.size 5 i0 _ 1 1 Try.underlying24 hi hz0 hz1 hz2 rfl (by omega) u4 done.length (bs done) rfl (hown'.alloc _) ⟨wr.heap.size, 0, none⟩ 1 1 [.int .u8 (left : Int)] rfl rfl ?c1 ?c2 ?c3 ?c4 ?c5 ?_)
      case c1 => exact cell_one_new _ _ _
      case c2 => exact bs_one [left]
      case c3 => simp only [maxLen]; omega
      case c4 => omega
      case c5 => simp; omega
      intro v2 w2 hown2 hg2 _ hat2
      have hb3 : Below w.heap.size w w2 := (hb.alloc hsz _).grown hg2 (by simp; omega) (fun k hk => (hown'.lt k hk).1)
      have hE : Hid (done ++ [left] = W.put n) := by rw [← HD.out, W.enc_lt hq]; exact rfl
      clear hg2 hat2 HD hown'
      go_wp2
      go_ret
      rw [← hE.out]
      exact Made.of (n := done.length + 1) (by simp) (by simpa [bs] using hown2) hb3
    · go_wp2_with (at_builtin; refine wpList_append_own_at _ rfl (.tmp 9) (.tmp 14) 24 rfl w.heap.size 5 i0 _ 1 1 Try.underlying24 hi hz0 hz1 hz2 rfl (by omega) u4 done.length (bs done) rfl (hown'.alloc _) ⟨wr.heap.size, 0, none⟩ 1 1 [.int .u8 ((left : Int) % 128 + 128)] rfl rfl ?c1 ?c2 ?c3 ?c4 ?c5 ?_)
      case c1 => exact cell_one_new _ _ _
      case c2 => exact bs_one [left % 128 + 128]
      case c3 => simp only [maxLen]; omega
      case c4 => omega
      case c5 => simp; omega
      intro v2 w2 hown2 hg2 _ hat2
      have hb3 : Below w.heap.size w w2 := (hb.alloc hsz _).grown hg2 (by simp; omega) (fun k hk => (hown'.lt k hk).1)
      have hE : Hid ((done ++ [left % 128 + 128]) ++ W.enc (left / 128) = W.put n) := by rw [← HD.out, W.enc_ge hq, List.append_assoc]; exact rfl
      clear hg2 hat2 HD hown'
      go_wp2
      go_roundw
      case rel => exact ⟨v2, left / 128, done ++ [left % 128 + 128], rfl, by go_num, by omega, hE, by simpa [bs] using hown2, hb3⟩
      case measure => simp [intOf]; omega

def getRes (xs : List Nat) : Int × Int × Int := match W.get xs with | some (n, k) => (n, k, 0) | none => (0, 0, 3)
def Got (xs : List Nat) (w : World) (e : Ending) (w' : World) : Prop := e = .returned (.tuple #[.int .i64 (getRes xs).1, .int .i64 (getRes xs).2.1, .int .i64 (getRes xs).2.2]) ∧ w = w'

theorem got_of_some {xs : List Nat} {w : World} {u k : Nat} {n m : Int} (h : W.dec 0 0 xs = some (u, k)) (hn : n = W.unturn u) (hk : m = k) : Got xs w (.returned (.tuple #[.int .i64 n, .int .i64 m, .int .i64 0])) w := by
  subst hn hk
  unfold Got getRes W.get
  rw [h]
  exact ⟨rfl, rfl⟩
theorem got_of_none {xs : List Nat} {w : World} (h : W.dec 0 0 xs = none) : Got xs w (.returned (.tuple #[.int .i64 0, .int .i64 0, .int .i64 3])) w := by
  unfold Got getRes W.get
  rw [h]
  exact ⟨rfl, rfl⟩

theorem dec_done (i u : Nat) (l : List Nat) (h : l.length ≤ i) : W.dec i u (l.drop i) = none := by
  rw [List.drop_of_length_le h]; rfl
theorem dec_at (i u : Nat) (l : List Nat) (h : i < l.length) : W.dec i u (l.drop i) = if i = 9 ∧ l[i] ≠ 1 then none else if 128 ≤ l[i] then W.dec (i + 1) (u + l[i] % 128 * 128 ^ i) (l.drop (i + 1)) else if 0 < i ∧ l[i] = 0 then none else some (u + l[i] * 128 ^ i, i + 1) := by
  rw [List.drop_eq_getElem_cons h, W.dec]

theorem step_or (u c k : Nat) (hu : u < 128 ^ k) (hb : u + c % 128 * 128 ^ k < 18446744073709551616) :
    bits .or .u64 (u : Int) (IntKind.u64.wrap ((c : Int) % 128 * 2 ^ (7 * k))) = ((u + c % 128 * 128 ^ k : Nat) : Int) := by
  have e : ((c : Int) % 128 * 2 ^ (7 * k)) = ((c % 128 * 128 ^ k : Nat) : Int) := by
    rw [show (128 : Nat) ^ k = 2 ^ (7 * k) by rw [Nat.pow_mul]]
    simp
  rw [e, IntKind.wrap_u64, show (((c % 128 * 128 ^ k : Nat) : Int) % 18446744073709551616) = ((c % 128 * 128 ^ k : Nat) : Int) by omega]
  exact or_shift u (c % 128) k hu hb
theorem step_lt (u c k : Nat) (hu : u < 128 ^ k) : u + c % 128 * 128 ^ k < 128 ^ (k + 1) := by
  have h1 : c % 128 * 128 ^ k ≤ 127 * 128 ^ k := Nat.mul_le_mul_right _ (by omega)
  rw [Nat.pow_succ]
  omega
theorem step_64 (u c k : Nat) (hu : u < 128 ^ k) (hk : k ≤ 8) : u + c % 128 * 128 ^ k < 18446744073709551616 := by
  have h1 := step_lt u c k hu
  have h2 : 128 ^ (k + 1) ≤ 128 ^ 9 := Nat.pow_le_pow_right (by omega) (by omega)
  omega

set_option maxHeartbeats 400000 in
theorem wget_any (A : Option Addr) (c : Nat) (xs : List Nat) (w : World) (h : Rd w w.heap.size A (bs xs)) (hB : Byt xs) (hl : xs.length ≤ 9223372036854775807) :
    Calls Try.prog 33 #[.slice A xs.length c] w (Got xs w) := by
  go_enter Try.func33, Try.ntmps33
  go_wp2
  go_loop [5, 10] (fun uu ii => ∃ k u : Nat, k ≤ xs.length ∧ k ≤ 9 ∧ ii = .int .i64 k ∧ uu = .int .u64 u ∧ u < 128 ^ k ∧ Hid (W.dec 0 0 xs = W.dec k u (xs.drop k))) (fun _ i => xs.length - (intOf i).toNat)
  case atStart => exact ⟨0, 0, Nat.zero_le _, by omega, rfl, rfl, by simp, rfl⟩
  case round =>
    obtain ⟨k, u, hk, hk9, rfl, rfl, hu, HD⟩ := hrel
    by_cases hlt : k < xs.length
    · obtain ⟨b1, o1, rfl, hb1, hc1⟩ := h.at_ (bs_at xs k hlt)
      have hcb := hB xs[k] (by simp)
      clear h
      by_cases h9 : k = 9 ∧ xs[k] ≠ 1
      · have hN : Hid (W.dec 0 0 xs = none) := by rw [HD.out, dec_at _ _ _ hlt, if_pos h9]; exact rfl
        clear HD
        obtain ⟨rfl, h91⟩ := h9
        have q1 : ((xs[9] : Int) != 1) = true := by simp; omega
        go_wp2
        go_ret3
        exact got_of_none hN.out
      · have HD1 := HD.out
        rw [dec_at _ _ _ hlt, if_neg h9] at HD1
        have a1 := and127b xs[k] hcb
        by_cases hc : 128 ≤ xs[k]
        · rw [if_pos hc] at HD1
          have H2 := Lib.hid HD1
          clear HD1 HD
          have hk8 : k ≤ 8 := by omega
          have q0 : ((k : Int) == 9) = false := by simp; omega
          go_wp2
          go_round
          case rel => exact ⟨k + 1, u + xs[k] % 128 * 128 ^ k, by omega, by omega, by go_num, by rw [step_or u xs[k] k hu (step_64 _ _ _ hu hk8)], step_lt _ _ _ hu, H2⟩
          case measure => simp [intOf]; omega
        · rw [if_neg hc] at HD1
          by_cases h0 : 0 < k ∧ xs[k] = 0
          · rw [if_pos h0] at HD1
            have hN := Lib.hid HD1
            clear HD1 HD
            have q0 : ((k : Int) == 9) = false := by simp; omega
            have q1 : ((xs[k] : Int) == 0) = true := by simp; omega
            go_wp2
            go_ret3
            exact got_of_none hN.out
          · rw [if_neg h0] at HD1
            have hm : xs[k] % 128 = xs[k] := Nat.mod_eq_of_lt (by omega)
            have hu64 : u + xs[k] % 128 * 128 ^ k < 18446744073709551616 := by
              by_cases e9 : k = 9
              · subst e9
                have : xs[9] = 1 := by omega
                omega
              · exact step_64 _ _ _ hu (by omega)
            have hor := step_or u xs[k] k hu hu64
            have hS := Lib.hid HD1
            rw [← hm] at hS
            have HM := Lib.hid hm
            generalize hv : u + xs[k] % 128 * 128 ^ k = v at hu64 hor
            have HV := Lib.hid hv
            clear HD1 HD hm hv
            by_cases e9 : k = 9
            · have q0 : ((k : Int) == 9) = true := by simp; omega
              have q1 : ((xs[k] : Int) != 1) = false := by simp; omega
              have q2 : ((xs[k] : Int) == 0) = false := by simp; omega
              have kp : 0 < k := by omega
              have E9 := Lib.hid e9
              clear e9
              go_wp2_with (go_at_call 40; refine (back_any _ _ hu64).mono ?_; rintro e w' ⟨rfl, rfl⟩)
              go_ret3
              refine got_of_some hS.out (by rw [HM.out, ← HV.out, HM.out]) (by go_num)
            · have q0 : ((k : Int) == 9) = false := by simp; omega
              have E9 := Lib.hid e9
              clear e9
              by_cases k0 : k = 0
              · have kz : ¬ 0 < k := by omega
                have K0 := Lib.hid k0
                clear k0
                go_wp2_with (go_at_call 40; refine (back_any _ _ hu64).mono ?_; rintro e w' ⟨rfl, rfl⟩)
                go_ret3
                refine got_of_some hS.out (by rw [HM.out, ← HV.out, HM.out]) (by go_num)
              · have q2 : ((xs[k] : Int) == 0) = false := by simp; omega
                have kp : 0 < k := by omega
                go_wp2_with (go_at_call 40; refine (back_any _ _ hu64).mono ?_; rintro e w' ⟨rfl, rfl⟩)
                go_ret3
                refine got_of_some hS.out (by rw [HM.out, ← HV.out, HM.out]) (by go_num)
    · have hN : Hid (W.dec 0 0 xs = none) := by rw [HD.out]; exact dec_done _ _ _ (by omega)
      clear HD
      go_wp2
      go_ret3
      exact got_of_none hN.out
end Go.Proofs.Yteindickckcdhaa
