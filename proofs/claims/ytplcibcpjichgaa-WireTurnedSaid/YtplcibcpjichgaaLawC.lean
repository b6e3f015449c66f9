/- walks of the laws WireRows, WireTwo, WireGets, WireSums -/
import Derived.Test.YtplcibcpjichgaaLawB
import Derived.Test.YtplcibcpjichgaaWireDef5
namespace Go.Proofs.Ytplcibcpjichgaa
open Go.RowKit
set_option linter.unusedSimpArgs false
set_option linter.unusedVariables false
set_option maxRecDepth 100000

theorem getnums_yes {A : Option Addr} {c m : Nat} {xs : List Nat} {ns : List Int} {K : Nat} {w : World} (hg : W.getNums xs = some (ns, K)) (hm : m = xs.length) (h : Rd w w.heap.size A (bs xs)) (hB : Byt xs) (hl : xs.length ≤ 1000000) (hc : xs.length ≤ c) (hc2 : c ≤ 9223372036854775807) :
    Calls Try.prog 22 #[.slice A m c] w fun e w' => Below w.heap.size w w' ∧ ∃ A' c', e = .returned (.tuple #[.slice A' ns.length c', .int .i64 K, .int .i64 0]) ∧ Rd w' w'.heap.size A' (is ns) ∧ ns.length ≤ c' := by
  subst hm
  have := getnums_any A c xs w h hB hl hc hc2
  rw [hg] at this
  exact this
theorem getnums_no {A : Option Addr} {c m : Nat} {xs : List Nat} {w : World} (hg : W.getNums xs = none) (hm : m = xs.length) (h : Rd w w.heap.size A (bs xs)) (hB : Byt xs) (hl : xs.length ≤ 1000000) (hc : xs.length ≤ c) (hc2 : c ≤ 9223372036854775807) :
    Calls Try.prog 22 #[.slice A m c] w fun e w' => Below w.heap.size w w' ∧ e = .returned (.tuple #[.slice none 0 0, .int .i64 0, .int .i64 3]) := by
  subst hm
  have := getnums_any A c xs w h hB hl hc hc2
  rw [hg] at this
  exact this

theorem rows_walk (A0 : Option Addr) (c0 : Nat) (x : List Int) (A : Option Addr) (c : Nat) (l : List Nat) (w : World) (h0 : Rd w w.heap.size A0 (is x)) (hR : ∀ n ∈ x, -9223372036854775808 ≤ n ∧ n ≤ 9223372036854775807) (hx0 : x.length ≤ 9223372036854775807)
    (h : Rd w w.heap.size A (bs l)) (hB : Byt l) (hc : l.length ≤ c) (hc2 : c ≤ 9223372036854775807) :
    Calls Try.prog 8 #[.slice A0 x.length c0, .slice A l.length c] w (Holds w) := by
  by_cases hs : 300 < x.length
  · go_enter Try.func8, Try.ntmps8
    go_wp2_with fail
    refine (alive_any _).mono ?_
    rintro e w1 ⟨rfl, hb1⟩
    go_wp2_with fail
    go_ret
    exact ⟨rfl, hb1⟩
  by_cases hl : 1000 < l.length
  · go_enter Try.func8, Try.ntmps8
    go_wp2_with fail
    refine (alive_any _).mono ?_
    rintro e w1 ⟨rfl, hb1⟩
    go_wp2_with fail
    go_ret
    exact ⟨rfl, hb1⟩
  obtain ⟨i0, hi, hz0, hz1, hz2⟩ := info_parts info_u8
  obtain ⟨p1, p2⟩ := W.nums_len x hR (by omega)
  have C1 := nums_any A0 c0 x w h0 hR (by omega)
  have C2 : ∀ w', Rd w' w'.heap.size A0 (is x) → Calls Try.prog 28 #[.slice A0 x.length c0] w' (Made w' (W.nums x)) := fun w' h' => rnums_any A0 c0 x w' h' hR (by omega)
  have hbB : Byt (W.nums x) := W.nums_byt x
  have HN := Lib.hid (W.getNums_short x hR (by omega) (j := (W.nums x).length - 1) (by omega))
  have HL1 := Lib.hid (W.getNums_nums x l hR (by omega))
  have b3 : (W.nums x).length ≤ 4000 := by omega
  have x3 : x.length ≤ 300 := by omega
  generalize W.nums x = b at C1 C2 HN HL1 p1 b3 hbB
  clear p2
  have HC1 := Lib.hid C1
  have HC2 := Lib.hid C2
  clear C1 C2 hR
  go_enter Try.func8, Try.ntmps8
  go_wp2_with fail
  refine HC1.out.mono ?_
  rintro e w1 ⟨A1, c1, rfl, ho1, hb1, hc1, hc1'⟩
  have r1 := Rd.of_own ho1
  clear ho1 HC1
  have hl1 := h.on hb1
  obtain ⟨hX, _⟩ := cut_hm (P := Try.prog) Try.underlying24 hi hz1 r1 b.length c1 b.length b.length b.length rfl rfl hc1
  go_wp2_with (at_builtin; refine wpList_appfull _ rfl (.tmp 29) (.tmp 30) 24 24 rfl 5 i0 _ 1 Try.underlying24 hi hz0 hz1 hz2 rfl _ A1 _ (bs b) rfl (bs_length _).symm r1 (.slice A l.length c) l.length (bs l) rfl (src_rd _ Try.underlying24 (bs_length _).symm hl1 (bs_one _)) ?c1 ?c2 ?_)
  case c1 => simp only [maxLen]; omega
  case c2 => omega
  intro A2 c2 w2 r2 hb2 hc2' hc2''
  rw [← bs_append] at r2
  clear hX
  go_wp2_with fail
  refine (getnums_yes (c := c2) HL1.out (by simp) r2 (hbB.append hB) (by simp; omega) (by simp; omega) hc2'').mono ?_
  rintro e w3 ⟨hb3, A3, c3, rfl, r3, _⟩
  have r1' := (r1.on hb2).on hb3
  obtain ⟨hX, hRX⟩ := cut_h (P := Try.prog) Try.underlying24 hi hz1 r1' b.length c1 (b.length - 1) ((b.length : Int) - 1) (by omega) (by omega)
  rw [← bs_take] at hRX
  have x0 := ((h0.on hb1).on hb2).on hb3
  have B3 := bel_trans (bel_trans hb1 hb1.size hb2) (Nat.le_trans hb1.size hb2.size) hb3
  go_wp2_with fail
  all_goals
    refine (getnums_no HN.out (by simp <;> omega) hRX (hbB.take _) (by simp; omega) (by simp; omega) (by omega)).mono ?_
    rintro e w4 ⟨hb4, rfl⟩
    clear hX hRX
    go_wp2_with fail
    refine (alive_any _).mono ?_
    rintro e w5 ⟨rfl, hb5⟩
    go_wp2_with fail
    refine (HC2.out _ ((x0.on hb4).on hb5)).mono ?_
    rintro e w6 ⟨A6, c6, rfl, ho6, hb6, _, _⟩
    have r6 := Rd.of_own ho6
    clear ho6 HC2
    go_wp2_with fail
    refine (same_any' true (by simp) rfl rfl (((r1'.on hb4).on hb5).on hb6) r6 (by omega) (by omega)).mono ?_
    rintro e w7 ⟨rfl, k, rfl⟩
    go_wp2_with fail
    refine (ints_any' true (by simp) rfl rfl ((((r3.on hb4).on hb5).on hb6).drewN k) ((((x0.on hb4).on hb5).on hb6).drewN k) (by omega) (by omega)).mono ?_
    rintro e w7 ⟨rfl, k2, rfl⟩
    go_wp2_with fail
    go_ret
    have B4 := bel_trans B3 B3.size hb4
    have B5 := bel_trans B4 B4.size hb5
    exact ⟨rfl, below_drewN (bel_trans B5 B5.size hb6) _⟩

theorem two_walk (A0 : Option Addr) (c0 : Nat) (x : List Int) (A : Option Addr) (c : Nat) (y : List Int) (w : World) (h0 : Rd w w.heap.size A0 (is x)) (hR0 : ∀ n ∈ x, -9223372036854775808 ≤ n ∧ n ≤ 9223372036854775807)
    (h : Rd w w.heap.size A (is y)) (hR : ∀ n ∈ y, -9223372036854775808 ≤ n ∧ n ≤ 9223372036854775807) (hs0 : x.length ≤ 1152921504606846976) (hs1 : y.length ≤ 1152921504606846976) :
    Calls Try.prog 10 #[.slice A0 x.length c0, .slice A y.length c] w (Holds w) := by
  by_cases hs : 300 < x.length + y.length
  · have hs' : (300 : Int) < (x.length : Int) + (y.length : Int) := by omega
    go_enter Try.func10, Try.ntmps10
    go_wp2_with fail
    refine (alive_any _).mono ?_
    rintro e w1 ⟨rfl, hb1⟩
    go_wp2_with fail
    go_ret
    exact ⟨rfl, hb1⟩
  have hs' : (x.length : Int) + (y.length : Int) ≤ 300 := by omega
  obtain ⟨i0, hi, hz0, hz1, hz2⟩ := info_parts info_u8
  obtain ⟨p1, p2⟩ := W.nums_len x hR0 (by omega)
  obtain ⟨q1, q2⟩ := W.nums_len y hR (by omega)
  have C1 := nums_any A0 c0 x w h0 hR0 (by omega)
  have C2 : ∀ w', Rd w' w'.heap.size A (is y) → Calls Try.prog 27 #[.slice A y.length c] w' (Made w' (W.nums y)) := fun w' h' => nums_any A c y w' h' hR (by omega)
  have hb1B : Byt (W.nums x) := W.nums_byt x
  have hb2B : Byt (W.nums y) := W.nums_byt y
  have HL1 := Lib.hid (W.getNums_nums x (W.nums y) hR0 (by omega))
  have HL2 := Lib.hid (W.getNums_nums y [] hR (by omega))
  rw [List.append_nil] at HL2
  have b3 : (W.nums x).length ≤ 4000 := by omega
  have b4 : (W.nums y).length ≤ 4000 := by omega
  have x3 : x.length ≤ 300 := by omega
  have y3 : y.length ≤ 300 := by omega
  generalize W.nums x = b at C1 HL1 p1 b3 hb1B
  generalize W.nums y = d at C2 HL1 HL2 q1 b4 hb2B
  clear p2 q2
  have HC1 := Lib.hid C1
  have HC2 := Lib.hid C2
  clear C1 C2 hR hR0
  go_enter Try.func10, Try.ntmps10
  go_wp2_with fail
  refine HC1.out.mono ?_
  rintro e w1 ⟨A1, c1, rfl, ho1, hb1, hc1, hc1'⟩
  clear HC1
  go_wp2_with fail
  refine (HC2.out _ (h.on hb1)).mono ?_
  rintro e w2 ⟨A2, c2, rfl, ho2, hb2, hc2, hc2'⟩
  clear HC2
  have r2 := Rd.of_own ho2
  have ho1' := ho1.kept (row := none) ⟨hb2.os, hb2.tape, hb2.output, hb2.size, fun k hk _ => hb2.block k hk⟩ (by cases hv : (Value.slice A1 b.length c1).ownBlock <;> simp)
  have B2 := bel_trans hb1 hb1.size hb2
  clear ho2 ho1
  go_wp2_with (at_builtin; refine wpList_app _ rfl (.tmp 20) (.tmp 22) 24 24 rfl w.heap.size 5 i0 _ 1 1 Try.underlying24 hi hz0 hz1 hz2 rfl (by omega) _ _ _ rfl ho1' _ _ _ rfl (src_rd _ Try.underlying24 (bs_length _).symm r2 (bs_one _)) ?c1 ?c2 ?c3 ?_)
  case c1 => simp only [maxLen]; omega
  case c2 => omega
  case c3 => exact B2.size
  intro v3 w3 ho3 hg3 _
  have B3 : Below w.heap.size w w3 := B2.grown hg3 B2.size (fun k hk => (ho1'.lt k hk).1)
  clear hg3 ho1'
  obtain ⟨A3, c3, hv3, hc3, hc3'⟩ := own_form ho3
  rw [hv3] at ho3 ⊢
  have r3 := Rd.of_own ho3
  rw [← bs_append] at r3
  clear hv3 ho3 r2
  simp only [maxLen] at hc3'
  obtain ⟨Y, hY, hRY⟩ := cut_l (P := Try.prog) Try.underlying24 hi hz1 r3 (b.length + d.length) c3 b.length b.length rfl (by simp) hc3 (by omega)
  rw [← bs_drop, List.drop_left] at hRY
  go_wp2_with fail
  refine (getnums_yes (c := c3) HL1.out (by simp) r3 (hb1B.append hb2B) (by simp; omega) (by simp; omega) (by omega)).mono ?_
  rintro e w4 ⟨hb4, A4, c4, rfl, r4, _⟩
  have B4 := bel_trans B3 B3.size hb4
  have hRY4 := hRY.on hb4
  clear r3 hRY
  have t1 : ((b.length : Int)) ≤ (b.length : Int) + (d.length : Int) := by omega
  go_wp2_with fail
  refine (getnums_yes HL2.out (by omega) hRY4 hb2B (by omega) (by omega) (by omega)).mono ?_
  rintro e w5 ⟨hb5, A5, c5, rfl, r5, _⟩
  have B5 := bel_trans B4 B4.size hb5
  clear hY hRY4
  go_wp2_with fail
  refine (alive_any _).mono ?_
  rintro e w6 ⟨rfl, hb6⟩
  have B6 := bel_trans B5 B5.size hb6
  have hx6 : Rd w6 w6.heap.size A0 (is x) := h0.on B6
  have hy6 : Rd w6 w6.heap.size A (is y) := h.on B6
  go_wp2_with fail
  refine (ints_any' true (by simp) rfl rfl ((r4.on hb5).on hb6) hx6 (by omega) (by omega)).mono ?_
  rintro e w7 ⟨rfl, k, rfl⟩
  go_wp2_with fail
  refine (ints_any' true (by simp) rfl rfl ((r5.on hb6).drewN k) (hy6.drewN k) (by omega) (by omega)).mono ?_
  rintro e w7 ⟨rfl, k2, rfl⟩
  go_wp2_with fail
  go_ret
  exact ⟨rfl, below_drewN B6 _⟩
end Go.Proofs.Ytplcibcpjichgaa
