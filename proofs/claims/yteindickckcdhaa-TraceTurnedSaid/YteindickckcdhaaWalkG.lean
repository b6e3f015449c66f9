/- walks: Get of the reference -/
import Derived.Test.YteindickckcdhaaWalkF
import Derived.Test.YteindickckcdhaaWireDef3
import Derived.Deep.RegionWith
namespace Go.Proofs.Yteindickckcdhaa
open Go.RowKit
set_option linter.unusedSimpArgs false
set_option linter.unusedVariables false
set_option maxRecDepth 100000

def GotB (xs : List Nat) (w : World) (e : Ending) (w' : World) : Prop := e = .returned (.tuple #[.int .i64 (getRes xs).1, .int .i64 (getRes xs).2.1, .int .i64 (getRes xs).2.2]) ∧ Below w.heap.size w w'
theorem gotB_some {xs : List Nat} {w w' : World} {n m : Int} {k : Nat} (h : W.get xs = some (n, k)) (hm : m = k) (hb : Below w.heap.size w w') : GotB xs w (.returned (.tuple #[.int .i64 n, .int .i64 m, .int .i64 0])) w' := by
  subst hm; unfold GotB getRes; rw [h]; exact ⟨rfl, hb⟩
theorem gotB_none {xs : List Nat} {w w' : World} (h : W.get xs = none) (hb : Below w.heap.size w w') : GotB xs w (.returned (.tuple #[.int .i64 0, .int .i64 0, .int .i64 3])) w' := by
  unfold GotB getRes; rw [h]; exact ⟨rfl, hb⟩

theorem step_val (u c : Nat) (hc : c < 256) : IntKind.u64.wrap (IntKind.u64.wrap (128 * (u : Int)) + (c : Int) % 128) = (((128 * u + c % 128) % 18446744073709551616 : Nat) : Int) := by
  rw [IntKind.wrap_u64, IntKind.wrap_u64]; omega

theorem same_any' (b : Bool) {A1 A2 : Option Addr} {c1 c2 m1 m2 : Nat} {xs ys : List Nat} {w : World} (hb : b = decide (xs = ys)) (e1 : m1 = xs.length) (e2 : m2 = ys.length) (h1 : Rd w w.heap.size A1 (bs xs)) (h2 : Rd w w.heap.size A2 (bs ys))
    (l1 : m1 ≤ 9223372036854775807) (l2 : m2 ≤ 9223372036854775807) :
    Calls Try.prog 11 #[.slice A1 m1 c1, .slice A2 m2 c2] w fun e w' => e = .returned (.bool b) ∧ ∃ n, w' = w.drewN n := by
  subst e1 e2; exact same_any b A1 A2 c1 c2 xs ys w hb h1 h2 l1 l2

set_option maxHeartbeats 1000000 in
theorem rget_any (A : Option Addr) (c : Nat) (xs : List Nat) (w : World) (h : Rd w w.heap.size A (bs xs)) (hB : Byt xs) (hl : xs.length ≤ 1000000) (hc : xs.length ≤ c) (hc2 : c ≤ 9223372036854775807) :
    Calls Try.prog 39 #[.slice A xs.length c] w (GotB xs w) := by
  go_enter Try.func39, Try.ntmps39
  go_wp2
  go_loop [6] (fun ii => ∃ k : Nat, k ≤ xs.length ∧ k ≤ 10 ∧ ii = .int .i64 k ∧ Hid (∀ j (hj : j < xs.length), j < k → 128 ≤ xs[j])) (fun i => xs.length - (intOf i).toNat)
  case atStart => exact ⟨0, Nat.zero_le _, by omega, rfl, fun _ _ h => absurd h (by omega)⟩
  case round =>
    obtain ⟨k, hk, hk10, rfl, HA⟩ := hrel
    by_cases hlt : k < xs.length
    · by_cases h10 : k < 10
      · obtain ⟨b1, o1, rfl, hb1, hc1⟩ := h.at_ (bs_at xs k hlt)
        have hcb := hB xs[k] (by simp)
        by_cases hge : 128 ≤ xs[k]
        · go_wp2
          go_round
          case rel =>
            refine ⟨k + 1, by omega, by omega, by go_num, fun j hj hjk => ?_⟩
            by_cases e : j = k
            · subst e; exact hge
            · exact HA.out j hj (by omega)
          case measure => simp [intOf]; omega
        · have q1 : ((k : Int) == (xs.length : Int)) = false := by simp; omega
          have q2 : ((k : Int) == 10) = false := by simp; omega
          have q0 : decide ((128 : Int) ≤ (xs[k] : Int)) = false := by simp; omega
          have HT := Lib.hid (W.get_test hB hlt (by omega) HA.out)
          clear HA
          go_wp2
          go_loop [5, 7] (fun uu ii => ∃ (z : Int) (u : Nat), -1 ≤ z ∧ z ≤ k ∧ ii = .int .i64 z ∧ uu = .int .u64 u ∧ Hid (u = W.val ((xs.take (k + 1)).drop (z + 1).toNat) % 18446744073709551616) ∧ u < 18446744073709551616) (fun _ i => (intOf i + 1).toNat)
          case atStart =>
            refine ⟨k, 0, by omega, by omega, rfl, rfl, ?_, by omega⟩
            have e : ((k : Int) + 1).toNat = k + 1 := by omega
            rw [e, List.drop_of_length_le (by simp; omega)]
            exact rfl
          case round =>
            obtain ⟨z, u, hz1, hz2, rfl, rfl, HU, hu⟩ := hrel
            by_cases hz : 0 ≤ z
            · obtain ⟨i, rfl⟩ := Int.eq_ofNat_of_zero_le hz
              have hi : i < xs.length := by omega
              obtain ⟨b2, o2, he2, hb2, hc3⟩ := h.at_ (bs_at xs i hi)
              simp only [Option.some.injEq, Addr.mk.injEq, and_true] at he2
              obtain ⟨rfl, rfl⟩ := he2
              have hcb2 := hB xs[i] (by simp)
              have es := step_val u xs[i] hcb2
              go_wp2
              go_round
              case rel =>
                refine ⟨(i : Int) - 1, (128 * u + xs[i] % 128) % 18446744073709551616, by omega, by omega, rfl, by go_num, ?_, by omega⟩
                have e1 : ((i : Int) - 1 + 1).toNat = i := by omega
                have e2 : ((i : Int) + 1).toNat = i + 1 := by omega
                have e3 : (xs.take (k + 1)).drop i = xs[i] :: (xs.take (k + 1)).drop (i + 1) := by
                  rw [List.drop_eq_getElem_cons (by simp; omega)]; simp
                have h1 := HU.out
                rw [e2] at h1
                refine Lib.hid ?_
                rw [e1, e3, W.val_cons, h1]
                omega
              case measure => simp [intOf]
            · obtain rfl : z = -1 := by omega
              obtain ⟨i0, hi, hz0, hz1', hz2'⟩ := info_parts info_u8
              obtain ⟨hX, hRX⟩ := cut_h (P := Try.prog) Try.underlying24 hi hz1' h xs.length c (k + 1) ((k : Int) + 1) (by simp) (by omega)
              rw [← bs_take] at hRX
              simp only [show ((-1 : Int) + 1).toNat = 0 from rfl, List.drop_zero] at HU
              have HT2 := HT.out
              rw [← HU.out] at HT2
              have hr := W.unturn_le u hu
              obtain ⟨hr1, hr2⟩ := hr
              have htl : (xs.take (k + 1)).length = k + 1 := by simp; omega
              have HTL := Lib.hid htl
              clear hi hz0 hz1' hz2' HT htl
              have hp10 : (W.put (W.unturn u)).length ≤ 10 := W.enc_le10 (W.turn_lt _ hr1 hr2)
              have key : ∀ b : Bool, b = decide (W.put (W.unturn u) = xs.take (k + 1)) → Hid (W.get xs = if b = true then some (W.unturn u, k + 1) else none) := by
                intro b hb
                refine Lib.hid ?_
                rw [HT2, hb]
                by_cases e : W.put (W.unturn u) = xs.take (k + 1) <;> simp [e]
              clear HT2
              obtain ⟨b, hb⟩ : ∃ b : Bool, b = decide (W.put (W.unturn u) = xs.take (k + 1)) := ⟨_, rfl⟩
              have HK := key b hb
              have HBb := Lib.hid hb
              clear key hb
              have hpl : (W.put (W.unturn u)).length ≤ 9223372036854775807 := by omega
              have hkl : k + 1 ≤ 9223372036854775807 := by omega
              by_cases hp : u % 2 = 1
              · have p1 : ((u : Int) % 2 == 1) = true := by simp; omega
                have en : -((u : Int) / 2) - 1 = W.unturn u := by unfold W.unturn; rw [if_neg (by omega)]; simp
                cases b
                · go_wp2
                  have wk : IntKind.i64.wrap ((k : Int) + 1) = (k : Int) + 1 := IntWalk.i64_in _ (by omega)
                  go_region_with (first | (go_at_call 37; refine (refPut_any _ _ hr1 hr2).mono ?_; rintro e w1 ⟨A1, c1, rfl, ho, hb, _, _⟩; have hR1 := Rd.of_own ho; have hR2 := hRX.drew.on hb) | (go_at_call 11; refine (same_any' false HBb.out rfl HTL.out.symm hR1 hR2 hpl hkl).mono ?_; rintro e w2 ⟨rfl, n2, rfl⟩))
                  all_goals
                    clear wk
                    go_wp2
                    go_ret3
                    exact gotB_none (by rw [HK.out]; rfl) (below_drewN ((Below.refl _ _).drew.trans hb) _)
                · go_wp2
                  have wk : IntKind.i64.wrap ((k : Int) + 1) = (k : Int) + 1 := IntWalk.i64_in _ (by omega)
                  go_region_with (first | (go_at_call 37; refine (refPut_any _ _ hr1 hr2).mono ?_; rintro e w1 ⟨A1, c1, rfl, ho, hb, _, _⟩; have hR1 := Rd.of_own ho; have hR2 := hRX.drew.on hb) | (go_at_call 11; refine (same_any' true HBb.out rfl HTL.out.symm hR1 hR2 hpl hkl).mono ?_; rintro e w2 ⟨rfl, n2, rfl⟩))
                  all_goals
                    clear wk
                    go_wp2
                    go_ret3
                    exact gotB_some (by rw [HK.out]; rfl) (by simp) (below_drewN ((Below.refl _ _).drew.trans hb) _)
              · have p1 : ((u : Int) % 2 == 1) = false := by simp; omega
                have en : (u : Int) / 2 = W.unturn u := by unfold W.unturn; rw [if_pos (by omega)]; simp
                cases b
                · go_wp2
                  have wk : IntKind.i64.wrap ((k : Int) + 1) = (k : Int) + 1 := IntWalk.i64_in _ (by omega)
                  go_region_with (first | (go_at_call 37; refine (refPut_any _ _ hr1 hr2).mono ?_; rintro e w1 ⟨A1, c1, rfl, ho, hb, _, _⟩; have hR1 := Rd.of_own ho; have hR2 := hRX.drew.on hb) | (go_at_call 11; refine (same_any' false HBb.out rfl HTL.out.symm hR1 hR2 hpl hkl).mono ?_; rintro e w2 ⟨rfl, n2, rfl⟩))
                  all_goals
                    clear wk
                    go_wp2
                    go_ret3
                    exact gotB_none (by rw [HK.out]; rfl) (below_drewN ((Below.refl _ _).drew.trans hb) _)
                · go_wp2
                  have wk : IntKind.i64.wrap ((k : Int) + 1) = (k : Int) + 1 := IntWalk.i64_in _ (by omega)
                  go_region_with (first | (go_at_call 37; refine (refPut_any _ _ hr1 hr2).mono ?_; rintro e w1 ⟨A1, c1, rfl, ho, hb, _, _⟩; have hR1 := Rd.of_own ho; have hR2 := hRX.drew.on hb) | (go_at_call 11; refine (same_any' true HBb.out rfl HTL.out.symm hR1 hR2 hpl hkl).mono ?_; rintro e w2 ⟨rfl, n2, rfl⟩))
                  all_goals
                    clear wk
                    go_wp2
                    go_ret3
                    exact gotB_some (by rw [HK.out]; rfl) (by simp) (below_drewN ((Below.refl _ _).drew.trans hb) _)
      · have hN : Hid (W.get xs = none) := W.get_none_of hB (.inr (by omega)) HA.out
        have q1 : ((k : Int) == (xs.length : Int)) = false := by simp; omega
        have q2 : ((k : Int) == 10) = true := by simp; omega
        clear HA
        go_wp2
        go_ret3
        exact gotB_none hN.out (Below.refl _ _)
    · have hN : Hid (W.get xs = none) := W.get_none_of hB (.inl (by omega)) HA.out
      have q1 : ((k : Int) == (xs.length : Int)) = true := by simp; omega
      clear HA
      go_wp2
      go_ret3
      exact gotB_none hN.out (Below.refl _ _)
end Go.Proofs.Yteindickckcdhaa
