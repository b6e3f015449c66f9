/- walks: GetNums of the reference -/
import Derived.Test.YteindickckcdhaaWalkH
namespace Go.Proofs.Yteindickckcdhaa
open Go.RowKit
set_option linter.unusedSimpArgs false
set_option linter.unusedVariables false
set_option maxRecDepth 100000

theorem numbered_none {w w' : World} {r : Option (List Int × Nat)} (h : r = none) (hb : Below w.heap.size w w') : Numbered w r (.returned (.tuple #[.slice none 0 0, .int .i64 0, .int .i64 3])) w' := by
  subst h; exact ⟨hb, rfl⟩

/-- the reference asks for no more bytes than there are by reading them -/
theorem getNums_ref {xs : List Nat} (hB : Byt xs) {n : Int} {k : Nat} (h : W.get xs = some (n, k)) (h0 : 0 ≤ n) : W.getNums xs = match W.many n.toNat (xs.drop k) with | none => none | some (ns, j) => some (ns, k + j) := by
  unfold W.getNums
  by_cases hc : n ≤ (xs.length : Int) - k
  · have hb := W.get_le hB h
    rw [W.len_of_get (n := n.toNat) (k := k) (by rw [h]; congr 2; omega) (by omega)]
    rfl
  · have h1 : W.len xs = none := by
      unfold W.len
      rw [h]
      simp only
      rw [if_neg (by omega)]
    rw [h1]
    cases hm : W.many n.toNat (xs.drop k) with
    | none => rfl
    | some q =>
      obtain ⟨ns, j⟩ := q
      exfalso
      have h2 := W.many_le (hB.drop _) hm
      have hb := W.get_le hB h
      rw [List.length_drop] at h2
      omega

set_option maxHeartbeats 400000 in
theorem rgetnums_any (A : Option Addr) (c : Nat) (xs : List Nat) (w : World) (h : Rd w w.heap.size A (bs xs)) (hB : Byt xs) (hl : xs.length ≤ 1000000) (hc : xs.length ≤ c) (hc2 : c ≤ 9223372036854775807) :
    Calls Try.prog 31 #[.slice A xs.length c] w (Numbered w (W.getNums xs)) := by
  cases h1 : W.get xs with
  | none =>
    have hN : Hid (W.getNums xs = none) := by unfold W.getNums W.len; rw [h1]; exact rfl
    go_enter Try.func31, Try.ntmps31
    go_wp2_with fail
    refine (rget_no h1 rfl h hB hl hc hc2).mono ?_
    rintro e w' ⟨rfl, hb⟩
    clear h1
    go_wp2_with fail
    go_ret3
    exact numbered_none hN.out hb
  | some p =>
    obtain ⟨n, f⟩ := p
    obtain ⟨b1, b2, b3, b4, b5⟩ := W.get_le hB h1
    by_cases h0 : 0 ≤ n
    · have hN := Lib.hid (getNums_ref hB h1 h0)
      obtain ⟨m, rfl⟩ := Int.eq_ofNat_of_zero_le h0
      simp only [Int.toNat_natCast] at hN
      obtain ⟨i0, hi, hz0, hz1, hz2⟩ := info_parts info_int
      obtain ⟨j0, hj0, hjz0, hjz1, hjz2⟩ := info_parts info_u8
      go_enter Try.func31, Try.ntmps31
      go_wp2_with fail
      refine (rget_yes h1 rfl h hB hl hc hc2).mono ?_
      rintro e w' ⟨rfl, hb0⟩
      clear h1
      go_wp2_with fail
      go_loopw [6, 8, 9] (fun at_ o i wr => ∃ (k j : Nat) (ns : List Int) (v : Value), k ≤ m ∧ i = .int .i64 k ∧ o = v ∧ at_ = .int .i64 (f + j : Nat) ∧ Hid (W.many k (xs.drop f) = some (ns, j)) ∧ k ≤ j ∧ f + j ≤ xs.length ∧ wr.ownsRow w.heap.size 3 1 v k (is ns) ∧ Below w.heap.size w wr) (fun _ _ i _ => m - (intOf i).toNat)
      case atStart => exact ⟨0, 0, [], _, Nat.zero_le _, rfl, rfl, rfl, rfl, by omega, by omega, World.ownsRow_nil _ _ _ _, hb0⟩
      case round =>
        obtain ⟨k, j, ns, v, hk, rfl, rfl, rfl, HM, hkj, hj, ho, hb⟩ := hrel
        clear hb0
        by_cases hlt : k < m
        · obtain ⟨Y, hY, hRY⟩ := cut_l (P := Try.prog) Try.underlying24 hj0 hjz1 h xs.length c (f + j) ((f : Int) + (j : Int)) (by simp) (by simp) hc (by omega)
          rw [← bs_drop] at hRY
          cases hg : W.get (xs.drop (f + j)) with
          | none =>
            have hF : Hid (W.getNums xs = none) := by
              rw [hN.out, W.many_fail HM.out (by rw [List.drop_drop]; exact hg) hlt]; exact rfl
            go_wp2_with fail
            refine (rget_no hg (by simp) (hRY.on hb) (hB.drop _) (by simp; omega) (by simp; omega) (by omega)).mono ?_
            rintro e w2 ⟨rfl, hb2⟩
            clear hg
            go_wp2_with fail
            go_ret3
            exact numbered_none hF.out (hb.trans (hb2.mono hb.size))
          | some q =>
            obtain ⟨n, kk⟩ := q
            have hle := W.get_le (hB.drop _) hg
            rw [List.length_drop] at hle
            obtain ⟨e1, e2, _, _, _⟩ := hle
            have HM2 := Lib.hid (W.many_snoc HM.out (by rw [List.drop_drop]; exact hg))
            go_wp2_with fail
            refine (rget_yes hg (by simp) (hRY.on hb) (hB.drop _) (by simp; omega) (by simp; omega) (by omega)).mono ?_
            rintro e w2 ⟨rfl, hb2⟩
            have hb3 : Below w.heap.size w w2 := hb.trans (hb2.mono hb.size)
            have ho3 := ho.kept (row := none) ⟨hb2.os, hb2.tape, hb2.output, hb2.size, fun k hk _ => hb2.block k hk⟩ (by cases hv : u8.ownBlock <;> simp)
            have hsz3 := hb3.size
            clear hg HM hb hb2 ho
            go_wp2_with (at_builtin; refine wpList_append_own_at _ rfl (.tmp 40) (.tmp 42) 50 rfl w.heap.size 3 i0 _ 1 8 Try.underlying50 hi hz0 hz1 hz2 rfl (by omega) u8 k (is ns) rfl (ho3.alloc _) ⟨w2.heap.size, 0, none⟩ 1 1 [.int .i64 n] rfl rfl ?c1 ?c2 ?c3 ?c4 ?c5 ?_)
            case c1 => exact cell_one_new _ _ _
            case c2 => exact is_one [n]
            case c3 => simp only [maxLen]; omega
            case c4 => omega
            case c5 => simp; omega
            intro v4 w4 ho4 hg4 _ _
            have hb4 : Below w.heap.size w w4 := (hb3.alloc hsz3 _).grown hg4 (by simp; omega) (fun k hk => (ho3.lt k hk).1)
            clear hg4 ho3 hb3
            go_wp2_with fail
            go_roundw
            case rel => exact ⟨k + 1, j + kk, ns ++ [n], v4, by omega, by go_num, rfl, by go_num, HM2, by omega, by omega, by rw [is_append]; exact ho4, hb4⟩
            case measure => simp [intOf]; omega
        · obtain rfl : k = m := by omega
          have hF : Hid (W.getNums xs = some (ns, f + j)) := by rw [hN.out, HM.out]; exact rfl
          have hns := W.many_length HM.out
          have HNS := Lib.hid hns
          clear hns
          obtain ⟨A2, c2, hv2, hc3, hc4⟩ := own_form ho
          have hR2 : Rd wr wr.heap.size A2 (is ns) := Rd.of_own (by rw [← hv2]; exact ho)
          clear ho hN HM
          have HV := Lib.hid hv2
          clear hv2
          go_wp2
          go_ret3
          refine ⟨hb, ?_⟩
          rw [hF.out]
          refine ⟨A2, c2, ?_, hR2, ?_⟩
          · have e1 := HV.out
            subst e1
            rw [HNS.out]
            simp
          · rw [HNS.out]; exact hc3
    · have h2 : n < 0 := by omega
      have hN : Hid (W.getNums xs = none) := by
        unfold W.getNums W.len
        rw [h1]
        simp only
        rw [if_neg (by omega)]
        exact rfl
      go_enter Try.func31, Try.ntmps31
      go_wp2_with fail
      refine (rget_yes h1 rfl h hB hl hc hc2).mono ?_
      rintro e w' ⟨rfl, hb⟩
      clear h1
      go_wp2_with fail
      go_ret3
      exact numbered_none hN.out hb
end Go.Proofs.Yteindickckcdhaa
