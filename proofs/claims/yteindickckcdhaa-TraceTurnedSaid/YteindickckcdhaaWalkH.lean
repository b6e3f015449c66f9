/- walks: the rest of the reference of layer 3 -/
import Derived.Test.YteindickckcdhaaWalkG
namespace Go.Proofs.Yteindickckcdhaa
open Go.RowKit
set_option linter.unusedSimpArgs false
set_option linter.unusedVariables false
set_option maxRecDepth 100000

theorem rget_yes {A : Option Addr} {c m : Nat} {xs : List Nat} {w : World} {n : Int} {k : Nat} (hg : W.get xs = some (n, k)) (hm : m = xs.length) (h : Rd w w.heap.size A (bs xs)) (hB : Byt xs) (hl : xs.length ≤ 1000000) (hc : xs.length ≤ c) (hc2 : c ≤ 9223372036854775807) :
    Calls Try.prog 39 #[.slice A m c] w fun e w' => e = .returned (.tuple #[.int .i64 n, .int .i64 k, .int .i64 0]) ∧ Below w.heap.size w w' := by
  subst hm
  refine (rget_any A c xs w h hB hl hc hc2).mono fun e w' hh => ?_
  unfold GotB getRes at hh
  rw [hg] at hh
  exact hh
theorem rget_no {A : Option Addr} {c m : Nat} {xs : List Nat} {w : World} (hg : W.get xs = none) (hm : m = xs.length) (h : Rd w w.heap.size A (bs xs)) (hB : Byt xs) (hl : xs.length ≤ 1000000) (hc : xs.length ≤ c) (hc2 : c ≤ 9223372036854775807) :
    Calls Try.prog 39 #[.slice A m c] w fun e w' => e = .returned (.tuple #[.int .i64 0, .int .i64 0, .int .i64 3]) ∧ Below w.heap.size w w' := by
  subst hm
  refine (rget_any A c xs w h hB hl hc hc2).mono fun e w' hh => ?_
  unfold GotB getRes at hh
  rw [hg] at hh
  exact hh

/-- why there is no length -/
theorem len_none {xs : List Nat} (hg : W.len xs = none) : W.get xs = none ∨ ∃ n k, W.get xs = some (n, k) ∧ (n < 0 ∨ (0 ≤ n ∧ (xs.length : Int) - (k : Int) < n)) := by
  unfold W.len at hg
  cases h1 : W.get xs with
  | none => exact .inl rfl
  | some p =>
    obtain ⟨n, k⟩ := p
    rw [h1] at hg
    simp only at hg
    refine .inr ⟨n, k, rfl, ?_⟩
    by_cases hc : 0 ≤ n ∧ n ≤ (xs.length : Int) - k
    · rw [if_pos hc] at hg; cases hg
    · omega

theorem flat_le (l : List Int) : (∀ n ∈ l, -9223372036854775808 ≤ n ∧ n ≤ 9223372036854775807) → (l.flatMap W.put).length ≤ 10 * l.length := by
  induction l with
  | nil => simp
  | cons a l ih =>
    intro hl
    have h1 := hl a (by simp)
    have h2 : (W.put a).length ≤ 10 := W.enc_le10 (W.turn_lt _ h1.1 h1.2)
    have h3 := ih (fun n hn => hl n (by simp [hn]))
    simp at h3 ⊢
    omega

theorem rnums_any (A : Option Addr) (c : Nat) (xs : List Int) (w : World) (h : Rd w w.heap.size A (is xs)) (hB : ∀ n ∈ xs, -9223372036854775808 ≤ n ∧ n ≤ 9223372036854775807) (hl : xs.length ≤ 1000000) :
    Calls Try.prog 29 #[.slice A xs.length c] w (Made w (W.nums xs)) := by
  obtain ⟨i0, hi, hz0, hz1, hz2⟩ := info_parts info_u8
  have h10 : (W.put xs.length).length ≤ 10 := W.enc_le10 (W.turn_lt _ (by omega) (by omega))
  go_enter Try.func29, Try.ntmps29
  go_wp2_with fail
  refine (refPut_any _ _ (by omega) (by omega)).mono ?_
  rintro e w1 ⟨A1, c1, rfl, ho, hb, hc, hc2⟩
  go_wp2_with fail
  go_loopw [3, 4] (fun b i wr => ∃ (k : Nat) (v' : Value), k ≤ xs.length ∧ b = v' ∧ i = .int .i64 k ∧ wr.ownsRow w.heap.size 5 1 v' (W.put xs.length ++ (xs.take k).flatMap W.put).length (bs (W.put xs.length ++ (xs.take k).flatMap W.put)) ∧ Below w.heap.size w wr) (fun _ i _ => xs.length - (intOf i).toNat)
  case atStart => exact ⟨0, _, Nat.zero_le _, rfl, rfl, by simpa using ho, hb⟩
  case round =>
    obtain ⟨k, v', hk, rfl, rfl, hown, hbr⟩ := hrel
    clear ho hb
    by_cases hlt : k < xs.length
    · have hR := h.on hbr
      obtain ⟨b1, o1, rfl, hb1, hc1⟩ := hR.at_ (is_at xs k hlt)
      have hB1 := hB xs[k] (by simp)
      have hp1 : (W.put xs[k]).length ≤ 10 := W.enc_le10 (W.turn_lt _ hB1.1 hB1.2)
      have hlen : (W.put xs.length ++ (xs.take k).flatMap W.put).length ≤ 10 + 10 * k := by
        have h4 := flat_le (xs.take k) (fun n hn => hB n (List.mem_of_mem_take hn))
        rw [List.length_append]
        have h5 : (xs.take k).length ≤ k := List.length_take_le _ _
        omega
      have e1 : W.put xs.length ++ (xs.take (k + 1)).flatMap W.put = (W.put xs.length ++ (xs.take k).flatMap W.put) ++ W.put xs[k] := by
        rw [List.take_succ_eq_append_getElem hlt, List.flatMap_append, ← List.append_assoc]; simp only [List.flatMap_cons, List.flatMap_nil, List.append_nil]
      have E1 := Lib.hid e1
      clear e1
      generalize (W.put xs.length ++ (xs.take k).flatMap W.put) = done at hown hlen E1
      go_wp2_with fail
      refine (refPut_any _ wr hB1.1 hB1.2).mono ?_
      rintro e w3 ⟨A3, c3, rfl, ho3, hb3, _, _⟩
      have hown3 := hown.kept (row := none) ⟨hb3.os, hb3.tape, hb3.output, hb3.size, fun k hk _ => hb3.block k hk⟩ (by cases hv : u3.ownBlock <;> simp)
      have hbr3 : Below w.heap.size w w3 := hbr.trans (hb3.mono hbr.size)
      have hR3 := Rd.of_own ho3
      go_wp2_with (at_builtin; refine wpList_app _ rfl (.tmp 14) (.tmp 19) 24 24 rfl w.heap.size 5 i0 _ 1 1 Try.underlying24 hi hz0 hz1 hz2 rfl (by omega) _ _ _ rfl hown3 _ _ _ rfl (src_rd _ Try.underlying24 (bs_length _).symm hR3 (bs_one _)) ?c1 ?c2 ?c3 ?_)
      case c1 => simp only [maxLen]; omega
      case c2 => omega
      case c3 => exact hbr3.size
      intro v4 w4 ho4 hg4 _
      have hb4 : Below w.heap.size w w4 := hbr3.grown hg4 hbr3.size (fun k hk => (hown3.lt k hk).1)
      clear hg4 hown hown3 ho3 hR3
      go_wp2_with fail
      go_roundw
      case rel => exact ⟨k + 1, v4, by omega, rfl, by go_num, by rw [E1.out, bs_append, List.length_append]; exact ho4, hb4⟩
      case measure => simp [intOf]; omega
    · go_wp2
      go_ret
      have e1 : xs.take k = xs := List.take_of_length_le (by omega)
      rw [e1] at hown
      exact Made.of rfl hown hbr

theorem rsums_any (A : Option Addr) (c m : Nat) (xs : List Nat) (w : World) (hm : m = xs.length) (h : Rd w w.heap.size A (bs xs)) (hB : Byt xs) (hl : m ≤ 9223372036854775807) :
    Calls Try.prog 43 #[.slice A m c] w fun e w' => e = .returned (.tuple #[.int .i64 ((W.sums xs).1 : Nat), .int .i64 ((W.sums xs).2 : Nat)]) ∧ w = w' := by
  subst hm
  go_enter Try.func43, Try.ntmps43
  go_wp2
  go_loop [4, 5, 6] (fun x y i => ∃ k a b : Nat, k ≤ xs.length ∧ i = .int .i64 k ∧ x = .int .i64 a ∧ y = .int .i64 b ∧ a < 65521 ∧ b < 65521 ∧ Hid (W.sums (xs.take k) = (a, b))) (fun _ _ i => xs.length - (intOf i).toNat)
  case atStart => exact ⟨0, 1, 0, Nat.zero_le _, rfl, rfl, rfl, by omega, by omega, rfl⟩
  case round =>
    obtain ⟨k, a, b, hk, rfl, rfl, rfl, ha, hb, HS⟩ := hrel
    by_cases hlt : k < xs.length
    · obtain ⟨b1, o1, rfl, hb1, hc1⟩ := h.at_ (bs_at xs k hlt)
      have hcb := hB xs[k] (by simp)
      clear h
      go_wp2
      go_round
      case rel => exact ⟨k + 1, (a + xs[k]) % 65521, (b + (a + xs[k]) % 65521) % 65521, by omega, by go_num, by go_num, by go_num, by omega, by omega, by rw [List.take_succ_eq_append_getElem hlt, W.sums_snoc, HS.out]; exact rfl⟩
      case measure => simp [intOf]; omega
    · go_wp2
      go_ret2
      have e1 : xs.take k = xs := List.take_of_length_le (by omega)
      rw [e1] at HS
      exact ⟨by rw [HS.out]; rfl, rfl⟩
theorem rsum_any {A : Option Addr} {c m : Nat} {xs : List Nat} {w : World} (hm : m = xs.length) (h : Rd w w.heap.size A (bs xs)) (hB : Byt xs) (hl : m ≤ 9223372036854775807) :
    Calls Try.prog 38 #[.slice A m c] w fun e w' => e = .returned (.int .i64 (W.sum xs : Nat)) ∧ w = w' := by
  subst hm
  have h1 := W.sums_lt xs
  have hC := rsums_any A c xs.length xs w rfl h hB hl
  have hS : Hid (W.sum xs = (W.sums xs).2 * 65536 + (W.sums xs).1) := Lib.hid rfl
  generalize W.sums xs = p at h1 hC hS
  obtain ⟨a, b⟩ := p
  obtain ⟨h11, h12⟩ := h1
  simp only at h11 h12 hC hS
  have HC := Lib.hid hC
  clear hC
  go_enter Try.func38, Try.ntmps38
  go_wp2_with fail
  refine HC.out.mono ?_
  rintro e w' ⟨rfl, rfl⟩
  clear HC
  go_wp2_with fail
  go_ret
  exact ⟨ret_int (by rw [hS.out]; simp; omega), rfl⟩

theorem rseal_any (A : Option Addr) (c : Nat) (xs : List Nat) (w : World) (h : Rd w w.heap.size A (bs xs)) (hB : Byt xs) (hl : xs.length ≤ 1000000) :
    Calls Try.prog 28 #[.slice A xs.length c] w (Made w (W.sealed xs)) := by
  obtain ⟨i0, hi, hz0, hz1, hz2⟩ := info_parts info_u8
  have h10 : (W.put xs.length).length ≤ 10 := W.enc_le10 (W.turn_lt _ (by omega) (by omega))
  have hsum := W.sum_lt xs
  have h11 : (W.put (W.sum xs : Nat)).length ≤ 10 := W.enc_le10 (W.turn_lt _ (by omega) (by omega))
  go_enter Try.func28, Try.ntmps28
  go_wp2_with fail
  refine (refPut_any _ _ (by omega) (by omega)).mono ?_
  rintro e w1 ⟨A1, c1, rfl, ho, hb, hc, hc2⟩
  have hR1 := h.on hb
  go_wp2_with (at_builtin; refine wpList_app _ rfl (.tmp 6) (.tmp 7) 24 24 rfl w.heap.size 5 i0 _ 1 1 Try.underlying24 hi hz0 hz1 hz2 rfl (by omega) _ _ _ rfl ho (.slice A xs.length c) xs.length _ rfl (src_rd _ Try.underlying24 (bs_length _).symm hR1 (bs_one _)) ?c1 ?c2 ?c3 ?_)
  case c1 => simp only [maxLen]; omega
  case c2 => omega
  case c3 => exact hb.size
  intro v2 w2 ho2 hg2 _
  have hb2 : Below w.heap.size w w2 := hb.grown hg2 hb.size (fun k hk => (ho.lt k hk).1)
  have hR2 := h.on hb2
  clear hg2 hR1 ho
  go_wp2_with fail
  refine (rsum_any rfl hR2 hB (by omega)).mono ?_
  rintro e w3 ⟨rfl, rfl⟩
  go_wp2_with fail
  refine (refPut_any _ _ (by omega) (by omega)).mono ?_
  rintro e w3 ⟨A3, c3, rfl, ho3, hb3, _, _⟩
  have hown3 := ho2.kept (row := none) ⟨hb3.os, hb3.tape, hb3.output, hb3.size, fun k hk _ => hb3.block k hk⟩ (by cases hv : v2.ownBlock <;> simp)
  have hbr3 : Below w.heap.size w w3 := hb2.trans (hb3.mono hb2.size)
  have hR3 := Rd.of_own ho3
  go_wp2_with (at_builtin; refine wpList_app _ rfl (.tmp 9) (.tmp 12) 24 24 rfl w.heap.size 5 i0 _ 1 1 Try.underlying24 hi hz0 hz1 hz2 rfl (by omega) _ _ _ rfl hown3 _ _ _ rfl (src_rd _ Try.underlying24 (bs_length _).symm hR3 (bs_one _)) ?d1 ?d2 ?d3 ?_)
  case d1 => simp only [maxLen]; omega
  case d2 => omega
  case d3 => exact hbr3.size
  intro v4 w4 ho4 hg4 _
  have hb4 : Below w.heap.size w w4 := hbr3.grown hg4 hbr3.size (fun k hk => (hown3.lt k hk).1)
  clear hg4 hown3 ho3 hR3
  go_wp2_with fail
  go_ret
  exact Made.of (v := v4) (n := (W.put xs.length).length + xs.length + (W.put (W.sum xs)).length) (by unfold W.sealed; simp only [List.length_append]) (by unfold W.sealed; rw [bs_append, bs_append, List.append_assoc]; exact ho4) hb4

theorem ropen_no {A : Option Addr} {c : Nat} {xs : List Nat} {w : World} (hg : W.opened xs = none) (h : Rd w w.heap.size A (bs xs)) (hB : Byt xs) (hl : xs.length ≤ 1000000) (hc : xs.length ≤ c) (hc2 : c ≤ 9223372036854775807) :
    Calls Try.prog 30 #[.slice A xs.length c] w fun e w' => e = .returned (.tuple #[.slice none 0 0, .int .i64 0, .int .i64 3]) ∧ Below w.heap.size w w' := by
  unfold W.opened at hg
  cases h1 : W.len xs with
  | none =>
    clear hg
    rcases len_none h1 with h1 | ⟨n, k, h1, h2⟩
    · go_enter Try.func30, Try.ntmps30
      go_wp2_with fail
      refine (rget_no h1 rfl h hB hl hc hc2).mono ?_
      rintro e w' ⟨rfl, hb⟩
      clear h1
      go_wp2_with fail
      go_ret3
      exact ⟨rfl, hb⟩
    · obtain ⟨b1, b2, b3, b4, b5⟩ := W.get_le hB h1
      rcases h2 with h2 | ⟨h3, h2⟩
      · go_enter Try.func30, Try.ntmps30
        go_wp2_with fail
        refine (rget_yes h1 rfl h hB hl hc hc2).mono ?_
        rintro e w' ⟨rfl, hb⟩
        clear h1
        go_wp2_with fail
        go_ret3
        exact ⟨rfl, hb⟩
      · go_enter Try.func30, Try.ntmps30
        go_wp2_with fail
        refine (rget_yes h1 rfl h hB hl hc hc2).mono ?_
        rintro e w' ⟨rfl, hb⟩
        clear h1
        go_wp2_with fail
        go_ret3
        exact ⟨rfl, hb⟩
  | some p =>
    obtain ⟨n, k⟩ := p
    rw [h1] at hg
    simp only at hg
    obtain ⟨b1, b2⟩ := W.len_le hB h1
    obtain ⟨hg1, hg2⟩ := W.len_some h1
    clear h1
    obtain ⟨i0, hi, hz0, hz1, hz2⟩ := info_parts info_u8
    obtain ⟨X, hX, hRX⟩ := cut_lh (P := Try.prog) Try.underlying24 hi hz1 h xs.length c k n k ((k : Int) + (n : Int)) rfl (by simp) (by simp) hc (by omega)
    obtain ⟨Y, hY, hRY⟩ := cut_l (P := Try.prog) Try.underlying24 hi hz1 h xs.length c (k + n) ((k : Int) + (n : Int)) (by simp) (by simp) hc (by omega)
    rw [← bs_drop, ← bs_take] at hRX
    rw [← bs_drop] at hRY
    cases h2 : W.get (xs.drop (k + n)) with
    | none =>
      clear hg
      clear hi hz0 hz1 hz2
      go_enter Try.func30, Try.ntmps30
      go_wp2_with fail
      refine (rget_yes hg1 rfl h hB hl hc hc2).mono ?_
      rintro e w1 ⟨rfl, hb⟩
      clear hg1
      go_wp2_with fail
      refine (rget_no h2 (by simp) (hRY.on hb) (hB.drop _) (by simp; omega) (by simp; omega) (by omega)).mono ?_
      rintro e w2 ⟨rfl, hb2⟩
      clear h2
      go_wp2_with fail
      go_ret3
      exact ⟨rfl, hb.trans (hb2.mono hb.size)⟩
    | some q =>
      obtain ⟨s, j⟩ := q
      rw [h2] at hg
      simp only at hg
      have hne : ¬ s = ((W.sum ((xs.drop k).take n) : Nat) : Int) := by
        intro hs
        rw [if_pos hs] at hg
        cases hg
      have hne2 : (s != ((W.sum ((xs.drop k).take n) : Nat) : Int)) = true := by simpa using hne
      clear hg
      clear hi hz0 hz1 hz2
      go_enter Try.func30, Try.ntmps30
      go_wp2_with fail
      refine (rget_yes hg1 rfl h hB hl hc hc2).mono ?_
      rintro e w1 ⟨rfl, hb⟩
      clear hg1
      go_wp2_with fail
      refine (rget_yes h2 (by simp) (hRY.on hb) (hB.drop _) (by simp; omega) (by simp; omega) (by omega)).mono ?_
      rintro e w2 ⟨rfl, hb2⟩
      clear h2
      have hb3 := hb.trans (hb2.mono hb.size)
      go_wp2_with fail
      refine (rsum_any (by simp; omega) (hRX.on hb3) ((hB.drop _).take _) (by omega)).mono ?_
      rintro e w' ⟨rfl, rfl⟩
      go_wp2_with fail
      go_ret3
      exact ⟨rfl, hb3⟩

theorem ropen_yes2 {A : Option Addr} {c : Nat} {xs l : List Nat} {K : Nat} {w : World} (hg : W.opened xs = some (l, K)) (h : Rd w w.heap.size A (bs xs)) (hB : Byt xs) (hl : xs.length ≤ 1000000) (hc : xs.length ≤ c) (hc2 : c ≤ 9223372036854775807) :
    Calls Try.prog 30 #[.slice A xs.length c] w (Opened2 w l K) := by
  unfold W.opened at hg
  cases h1 : W.len xs with
  | none => rw [h1] at hg; cases hg
  | some p =>
    obtain ⟨n, k⟩ := p
    rw [h1] at hg
    simp only at hg
    obtain ⟨b1, b2⟩ := W.len_le hB h1
    obtain ⟨hg1, hg2⟩ := W.len_some h1
    clear h1
    obtain ⟨i0, hi, hz0, hz1, hz2⟩ := info_parts info_u8
    obtain ⟨X, hX, hRX⟩ := cut_lh (P := Try.prog) Try.underlying24 hi hz1 h xs.length c k n k ((k : Int) + (n : Int)) rfl (by simp) (by simp) hc (by omega)
    obtain ⟨Y, hY, hRY⟩ := cut_l (P := Try.prog) Try.underlying24 hi hz1 h xs.length c (k + n) ((k : Int) + (n : Int)) (by simp) (by simp) hc (by omega)
    rw [← bs_drop, ← bs_take] at hRX
    rw [← bs_drop] at hRY
    cases h2 : W.get (xs.drop (k + n)) with
    | none => rw [h2] at hg; cases hg
    | some q =>
      obtain ⟨s, j⟩ := q
      rw [h2] at hg
      simp only at hg
      have hj := (W.get_le (hB.drop _) h2)
      obtain ⟨hj1, hj2, hj3, _, _⟩ := hj
      have hs : s = ((W.sum ((xs.drop k).take n) : Nat) : Int) := by
        by_cases hs : s = ((W.sum ((xs.drop k).take n) : Nat) : Int)
        · exact hs
        · rw [if_neg hs] at hg; cases hg
      have hne2 : (s != ((W.sum ((xs.drop k).take n) : Nat) : Int)) = false := by simpa using hs
      rw [if_pos hs] at hg
      simp only [Option.some.injEq, Prod.mk.injEq] at hg
      have hL := Lib.hid hg.1
      have hK := Lib.hid hg.2
      clear hg hs
      have hlen : ((xs.drop k).take n).length = n := by simp; omega
      have HL := Lib.hid hlen
      clear hlen
      clear hi hz0 hz1 hz2
      go_enter Try.func30, Try.ntmps30
      go_wp2_with fail
      refine (rget_yes hg1 rfl h hB hl hc hc2).mono ?_
      rintro e w1 ⟨rfl, hb⟩
      clear hg1
      go_wp2_with fail
      refine (rget_yes h2 (by simp) (hRY.on hb) (hB.drop _) (by simp; omega) (by simp; omega) (by omega)).mono ?_
      rintro e w2 ⟨rfl, hb2⟩
      clear h2
      have hb3 := hb.trans (hb2.mono hb.size)
      go_wp2_with fail
      refine (rsum_any HL.out.symm (hRX.on hb3) ((hB.drop _).take _) (by omega)).mono ?_
      rintro e w' ⟨rfl, rfl⟩
      go_wp2_with fail
      go_ret3
      have hR2 := hRX.on hb3
      rw [hL.out] at hR2 HL
      rw [← hK.out]
      exact ⟨X, c - k, by rw [HL.out]; simp, hR2, hb3, by rw [HL.out]; omega, by omega⟩
theorem ropen_yes {A : Option Addr} {c : Nat} {xs l : List Nat} {K : Nat} {w : World} (hg : W.opened xs = some (l, K)) (h : Rd w w.heap.size A (bs xs)) (hB : Byt xs) (hl : xs.length ≤ 1000000) (hc : xs.length ≤ c) (hc2 : c ≤ 9223372036854775807) :
    Calls Try.prog 30 #[.slice A xs.length c] w (Opened w l K) := by
  refine (ropen_yes2 hg h hB hl hc hc2).mono ?_
  rintro e w' ⟨A, c, h1, h2, h3, _⟩
  exact ⟨A, c, h1, h2, h3⟩
end Go.Proofs.Yteindickckcdhaa
