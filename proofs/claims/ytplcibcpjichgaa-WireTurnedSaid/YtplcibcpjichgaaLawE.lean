/- walks of the laws WireOnce, WireSeals -/
import Derived.Test.YtplcibcpjichgaaLawD
import Derived.Deep.RegionHeld3
namespace Go.Proofs.Ytplcibcpjichgaa
open Go.RowKit
set_option linter.unusedSimpArgs false
set_option linter.unusedVariables false
set_option maxRecDepth 100000

set_option maxHeartbeats 1000000 in
theorem once_walk (A : Option Addr) (c : Nat) (l : List Nat) (w : World) (h : Rd w w.heap.size A (bs l)) (hB : Byt l) (hc : l.length ≤ c) (hc2 : c ≤ 9223372036854775807) :
    Calls Try.prog 6 #[.slice A l.length c] w (Holds w) := by
  by_cases hl : 1000 < l.length
  · go_enter Try.func6, Try.ntmps6
    go_wp2_with fail
    refine (alive_any _).mono ?_
    rintro e w1 ⟨rfl, hb1⟩
    go_wp2_with fail
    go_ret
    exact ⟨rfl, hb1⟩
  cases hg : W.get l with
  | none =>
    go_enter Try.func6, Try.ntmps6
    go_wp2_with fail
    refine (wget_no hg h hB (by omega)).mono ?_
    rintro e w1 ⟨rfl, rfl⟩
    clear hg
    go_wp2_with fail
    refine (alive_any _).mono ?_
    rintro e w1 ⟨rfl, hb1⟩
    go_wp2_with fail
    go_ret
    exact ⟨rfl, hb1⟩
  | some p =>
    obtain ⟨n, k⟩ := p
    obtain ⟨i0, hi, hz0, hz1, hz2⟩ := info_parts info_u8
    obtain ⟨b1, b2, b3, b4, b5⟩ := W.get_le hB hg
    obtain ⟨_, _, hk, r, hr⟩ := W.get_some hB hg
    have htake : l.take k = W.put n := by rw [hr, hk, List.take_left]
    have hshort : ∀ j, j < k → W.get (l.take j) = none := by
      intro j hj
      cases h1 : W.get (l.take j) with
      | none => rfl
      | some q =>
        exfalso
        obtain ⟨m, i⟩ := q
        have h2 := W.get_le (hB.take j) h1
        have h3 := W.get_take hB h1
        rw [hg] at h3
        simp only [Option.some.injEq, Prod.mk.injEq] at h3
        rw [List.length_take] at h2
        omega
    obtain ⟨hX, hRX⟩ := cut_h (P := Try.prog) Try.underlying24 hi hz1 h l.length c k k rfl (by omega)
    rw [← bs_take, htake] at hRX
    obtain ⟨p1, p2⟩ := put_le b4 b5
    have HS := Lib.hid hshort
    have HG := Lib.hid hg
    have HK := Lib.hid hk
    have hkl : k ≤ 9223372036854775807 := by omega
    have hpl : (W.put n).length ≤ 9223372036854775807 := by omega
    clear hshort hg hk htake hr r
    have q1 : decide ((k : Int) < 1) = false := by simp; omega
    have q2 : decide (l.length < k) = false := by simp; omega
    go_enter Try.func6, Try.ntmps6
    go_wp2_with fail
    refine (wget_yes HG.out h hB (by omega)).mono ?_
    rintro e w1 ⟨rfl, rfl⟩
    clear HG
    go_wp2_with fail
    go_region_held3 (fun _ => True) (exact trivial) (first | (go_at_call 16; refine (put_any _ _ b4 b5).mono ?_; rintro e w1 ⟨A1, c1, rfl, ho, hb, _, _⟩; have hR1 := Rd.of_own ho; have hR2 := hRX.drew.on hb) | (go_at_call 15; refine (same_any' true (by simp) rfl HK.out hR1 hR2 hpl hkl).mono ?_; rintro e w2 ⟨rfl, n2, rfl⟩))
    have hR := h.on (below_drewN ((Below.refl _ _).drew.trans hb) n2)
    have hbb : Below w.heap.size w (w1.drewN n2) := below_drewN ((Below.refl _ _).drew.trans hb) n2
    clear hR1 hR2 ho hb hX
    generalize w1.drewN n2 = w5 at hR hbb ⊢
    go_wp2_with fail
    go_loop [49] (fun i => ∃ j : Nat, j ≤ k ∧ i = .int .i64 j) (fun i => k - (intOf i).toNat)
    case atStart => exact ⟨0, by omega, rfl⟩
    case round =>
      obtain ⟨j, hj, rfl⟩ := hrel
      by_cases hlt : j < k
      · obtain ⟨hX, hRX2⟩ := cut_h (P := Try.prog) Try.underlying24 hi hz1 hR l.length c j j rfl (by omega)
        rw [← bs_take] at hRX2
        go_wp2_with fail
        refine (wget_no' (HS.out j hlt) (by simp; omega) hRX2 (hB.take _) (by simp; omega)).mono ?_
        rintro e w6 ⟨rfl, rfl⟩
        go_wp2_with fail
        go_round
        case rel => exact ⟨j + 1, by omega, by go_num⟩
        case measure => simp [intOf]; omega
      · go_wp2_with fail
        refine (alive_any _).mono ?_
        rintro e w6 ⟨rfl, hb6⟩
        go_wp2_with fail
        go_ret
        exact ⟨rfl, bel_trans hbb hbb.size hb6⟩

theorem open_yes' {A : Option Addr} {c m : Nat} {xs l : List Nat} {K : Nat} {w : World} (hg : W.opened xs = some (l, K)) (hm : m = xs.length) (h : Rd w w.heap.size A (bs xs)) (hB : Byt xs) (hl : xs.length ≤ 1000000) (hc : xs.length ≤ c) (hc2 : c ≤ 9223372036854775807) :
    Calls Try.prog 29 #[.slice A m c] w (Opened w l K) := by
  subst hm; exact open_yes hg h hB hl hc hc2
theorem open_no' {A : Option Addr} {c m : Nat} {xs : List Nat} {w : World} (hg : W.opened xs = none) (hm : m = xs.length) (h : Rd w w.heap.size A (bs xs)) (hB : Byt xs) (hl : xs.length ≤ 9223372036854775807) (hc : xs.length ≤ c) (hc2 : c ≤ 9223372036854775807) :
    Calls Try.prog 29 #[.slice A m c] w fun e w' => e = .returned (.tuple #[.slice none 0 0, .int .i64 0, .int .i64 3]) ∧ w = w' := by
  subst hm; exact open_no hg h hB hl hc hc2

set_option maxHeartbeats 1000000 in
theorem seals_walk (A0 : Option Addr) (c0 : Nat) (x : List Nat) (A : Option Addr) (c : Nat) (l : List Nat) (w : World) (h0 : Rd w w.heap.size A0 (bs x)) (hB0 : Byt x) (hx0 : x.length ≤ 1152921504606846976)
    (h : Rd w w.heap.size A (bs l)) (hB : Byt l) (hx1 : l.length ≤ 1152921504606846976) :
    Calls Try.prog 12 #[.slice A0 x.length c0, .slice A l.length c] w (Holds w) := by
  by_cases hs : 600 < x.length + l.length
  · have hs' : (600 : Int) < (x.length : Int) + (l.length : Int) := by omega
    go_enter Try.func12, Try.ntmps12
    go_wp2_with fail
    refine (alive_any _).mono ?_
    rintro e w1 ⟨rfl, hb1⟩
    go_wp2_with fail
    go_ret
    exact ⟨rfl, hb1⟩
  have hs' : (x.length : Int) + (l.length : Int) ≤ 600 := by omega
  obtain ⟨i0, hi, hz0, hz1, hz2⟩ := info_parts info_u8
  obtain ⟨p1, p2⟩ := W.sealed_len x (by omega)
  have C1 := seal_any A0 c0 x w h0 hB0 (by omega)
  have hbB : Byt (W.sealed x) := W.sealed_byt x hB0
  have HN : Hid (∀ j, j < (W.sealed x).length → W.opened ((W.sealed x).take j) = none) := Lib.hid (fun j hj => W.opened_short x hB0 (by omega) hj)
  have HL1 := Lib.hid (W.opened_sealed x l (by omega))
  have b3 : (W.sealed x).length ≤ 700 := by omega
  have x3 : x.length ≤ 600 := by omega
  have l3 : l.length ≤ 600 := by omega
  generalize W.sealed x = b at C1 HN HL1 b3 hbB
  clear p1 p2
  have HC1 := Lib.hid C1
  clear C1
  go_enter Try.func12, Try.ntmps12
  go_wp2_with fail
  refine HC1.out.mono ?_
  rintro e w1 ⟨A1, c1, rfl, ho1, hb1, hc1, hc1'⟩
  have r1 := Rd.of_own ho1
  clear ho1 HC1
  have hl1 := h.on hb1
  obtain ⟨hX, _⟩ := cut_hm (P := Try.prog) Try.underlying24 hi hz1 r1 b.length c1 b.length b.length b.length rfl rfl hc1
  go_wp2_with (at_builtin; refine wpList_appfull _ rfl (.tmp 28) (.tmp 29) 24 24 rfl 5 i0 _ 1 Try.underlying24 hi hz0 hz1 hz2 rfl _ A1 _ (bs b) rfl (bs_length _).symm r1 (.slice A l.length c) l.length (bs l) rfl (src_rd _ Try.underlying24 (bs_length _).symm hl1 (bs_one _)) ?c1 ?c2 ?_)
  case c1 => simp only [maxLen]; omega
  case c2 => omega
  intro A2 c2 w2 r2 hb2 hc2' hc2''
  rw [← bs_append] at r2
  simp only [maxLen] at hc2''
  clear hX
  have B2 := bel_trans hb1 hb1.size hb2
  go_wp2_with fail
  refine (open_yes' (c := c2) HL1.out (by simp) r2 (hbB.append hB) (by simp; omega) (by simp; omega) (by omega)).mono ?_
  rintro e w3 ⟨A3, c3, rfl, r3, hb3⟩
  have B3 := bel_trans B2 B2.size hb3
  have r1' := (r1.on hb2).on hb3
  clear r2 r1 hl1
  go_wp2_with fail
  go_loop [37] (fun i => ∃ j : Nat, j ≤ b.length ∧ i = .int .i64 j) (fun i => b.length - (intOf i).toNat)
  case atStart => exact ⟨0, by omega, rfl⟩
  case round =>
    obtain ⟨j, hj, rfl⟩ := hrel
    by_cases hlt : j < b.length
    · obtain ⟨hX, hRX2⟩ := cut_h (P := Try.prog) Try.underlying24 hi hz1 r1' b.length c1 j j rfl (by omega)
      rw [← bs_take] at hRX2
      go_wp2_with fail
      refine (open_no' (HN.out j hlt) (by simp; omega) hRX2 (hbB.take _) (by simp; omega) (by simp; omega) (by omega)).mono ?_
      rintro e w6 ⟨rfl, rfl⟩
      go_wp2_with fail
      go_round
      case rel => exact ⟨j + 1, by omega, by go_num⟩
      case measure => simp [intOf]; omega
    · go_wp2_with fail
      refine (alive_any _).mono ?_
      rintro e w6 ⟨rfl, hb6⟩
      have B6 := bel_trans B3 B3.size hb6
      go_wp2_with fail
      refine (same_any' true (by simp) rfl rfl (r3.on hb6) (h0.on B6) (by omega) (by omega)).mono ?_
      rintro e w7 ⟨rfl, k, rfl⟩
      go_wp2_with fail
      go_ret
      exact ⟨rfl, below_drewN B6 _⟩
end Go.Proofs.Ytplcibcpjichgaa
