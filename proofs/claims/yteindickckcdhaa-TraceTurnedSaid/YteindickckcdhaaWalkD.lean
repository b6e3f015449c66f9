/- walks: length, GetText, Text, Nums, Sum, Seal, Open of package wire -/
import Derived.Test.YteindickckcdhaaWalkC
import Derived.Test.YteindickckcdhaaApp
import Derived.Test.YteindickckcdhaaCut
import Derived.Test.YteindickckcdhaaWireDef2
namespace Go.Proofs.Yteindickckcdhaa
open Go.RowKit
set_option linter.unusedSimpArgs false
set_option linter.unusedVariables false
set_option maxRecDepth 100000

theorem wget_yes {A : Option Addr} {c : Nat} {xs : List Nat} {w : World} {n : Int} {k : Nat} (hg : W.get xs = some (n, k)) (h : Rd w w.heap.size A (bs xs)) (hB : Byt xs) (hl : xs.length ≤ 9223372036854775807) :
    Calls Try.prog 33 #[.slice A xs.length c] w fun e w' => e = .returned (.tuple #[.int .i64 n, .int .i64 k, .int .i64 0]) ∧ w = w' := by
  refine (wget_any A c xs w h hB hl).mono fun e w' hh => ?_
  unfold Got getRes at hh
  rw [hg] at hh
  exact hh
theorem wget_no {A : Option Addr} {c : Nat} {xs : List Nat} {w : World} (hg : W.get xs = none) (h : Rd w w.heap.size A (bs xs)) (hB : Byt xs) (hl : xs.length ≤ 9223372036854775807) :
    Calls Try.prog 33 #[.slice A xs.length c] w fun e w' => e = .returned (.tuple #[.int .i64 0, .int .i64 0, .int .i64 3]) ∧ w = w' := by
  refine (wget_any A c xs w h hB hl).mono fun e w' hh => ?_
  unfold Got getRes at hh
  rw [hg] at hh
  exact hh

theorem length_yes {A : Option Addr} {c : Nat} {xs : List Nat} {w : World} {n k : Nat} (hg : W.len xs = some (n, k)) (h : Rd w w.heap.size A (bs xs)) (hB : Byt xs) (hl : xs.length ≤ 9223372036854775807) :
    Calls Try.prog 32 #[.slice A xs.length c] w fun e w' => e = .returned (.tuple #[.int .i64 n, .int .i64 k, .bool true]) ∧ w = w' := by
  obtain ⟨h1, h2⟩ := W.len_some hg
  have h3 := W.len_le hB hg
  have hb1 : (n : Int) ≤ (xs.length : Int) - (k : Int) := h2
  go_enter Try.func32, Try.ntmps32
  go_wp2_with fail
  refine (wget_yes h1 h hB hl).mono ?_
  rintro e w' ⟨rfl, rfl⟩
  clear h1 hg
  go_wp2_with fail
  go_ret3
  exact ⟨rfl, rfl⟩
theorem length_no {A : Option Addr} {c : Nat} {xs : List Nat} {w : World} (hg : W.len xs = none) (h : Rd w w.heap.size A (bs xs)) (hB : Byt xs) (hl : xs.length ≤ 9223372036854775807) :
    Calls Try.prog 32 #[.slice A xs.length c] w fun e w' => e = .returned (.tuple #[.int .i64 0, .int .i64 0, .bool false]) ∧ w = w' := by
  unfold W.len at hg
  cases h1 : W.get xs with
  | none =>
    clear hg
    go_enter Try.func32, Try.ntmps32
    go_wp2_with fail
    refine (wget_no h1 h hB hl).mono ?_
    rintro e w' ⟨rfl, rfl⟩
    clear h1
    go_wp2_with fail
    go_ret3
    exact ⟨rfl, rfl⟩
  | some p =>
    obtain ⟨n, k⟩ := p
    have hb := W.get_le hB h1
    obtain ⟨b1, b2, b3, b4, b5⟩ := hb
    rw [h1] at hg
    simp only at hg
    have hc : ¬ (0 ≤ n ∧ n ≤ (xs.length : Int) - k) := by
      intro hc
      rw [if_pos hc] at hg
      cases hg
    clear hg
    by_cases h0 : n < 0
    · go_enter Try.func32, Try.ntmps32
      go_wp2_with fail
      refine (wget_yes h1 h hB hl).mono ?_
      rintro e w' ⟨rfl, rfl⟩
      clear h1 hc
      go_wp2_with fail
      go_ret3
      exact ⟨rfl, rfl⟩
    · have h2 : (xs.length : Int) - k < n := by omega
      go_enter Try.func32, Try.ntmps32
      go_wp2_with fail
      refine (wget_yes h1 h hB hl).mono ?_
      rintro e w' ⟨rfl, rfl⟩
      clear h1 hc
      go_wp2_with fail
      go_ret3
      exact ⟨rfl, rfl⟩

/-- a text of these bytes -/
def str (l : List Nat) : ByteArray := strOfNums (l.map fun b : Nat => (b : Int))

theorem sum_any (A : Option Addr) (c : Nat) (xs : List Nat) (w : World) (h : Rd w w.heap.size A (bs xs)) (hB : Byt xs) (hl : xs.length ≤ 9223372036854775807) :
    Calls Try.prog 34 #[.slice A xs.length c] w fun e w' => e = .returned (.int .i64 (W.sum xs : Nat)) ∧ w = w' := by
  go_enter Try.func34, Try.ntmps34
  go_wp2
  go_loop [3, 4, 9] (fun x y i => ∃ k a b : Nat, k ≤ xs.length ∧ i = .int .i64 k ∧ x = .int .i64 a ∧ y = .int .i64 b ∧ a < 65521 ∧ b < 65521 ∧ Hid (W.sums (xs.take k) = (a, b))) (fun _ _ i => xs.length - (intOf i).toNat)
  case atStart => exact ⟨0, 1, 0, Nat.zero_le _, rfl, rfl, rfl, by omega, by omega, rfl⟩
  case round =>
    obtain ⟨k, a, b, hk, rfl, rfl, rfl, ha, hb, HS⟩ := hrel
    by_cases hlt : k < xs.length
    · obtain ⟨b1, o1, rfl, hb1, hc1⟩ := h.at_ (bs_at xs k hlt)
      have hcb := hB xs[k] (by simp)
      clear h
      go_wp2
      go_round
      case rel => exact ⟨k + 1, (a + xs[k]) % 65521, (b + (a + xs[k]) % 65521) % 65521, by omega, by go_num, by go_num, by go_num, by omega, by omega, by rw [List.take_succ_eq_append_getElem hlt, W.sums_snoc, HS.out]; exact rfl⟩
      case measure => simp [intOf]; omega
    · go_wp2
      go_ret
      have e1 : xs.take k = xs := List.take_of_length_le (by omega)
      rw [e1] at HS
      exact ⟨ret_int (by unfold W.sum; rw [HS.out]; simp), rfl⟩

theorem nat_bytes (s : ByteArray) : byteCells s = bs (s.data.toList.map UInt8.toNat) := by
  simp [byteCells, bs, List.map_map, Function.comp_def]

theorem seal_any (A : Option Addr) (c : Nat) (xs : List Nat) (w : World) (h : Rd w w.heap.size A (bs xs)) (hB : Byt xs) (hl : xs.length ≤ 1000000) :
    Calls Try.prog 23 #[.slice A xs.length c] w (Made w (W.sealed xs)) := by
  obtain ⟨i0, hi, hz0, hz1, hz2⟩ := info_parts info_u8
  have h10 : (W.put xs.length).length ≤ 10 := W.enc_le10 (W.turn_lt _ (by omega) (by omega))
  have hsum := W.sum_lt xs
  go_enter Try.func23, Try.ntmps23
  go_wp2_with (first
    | (go_at_call 19; refine (put_any _ _ (by omega) (by omega)).mono ?_; rintro e w1 ⟨A1, c1, rfl, ho, hb, hc, hc2⟩; have hR1 := h.on hb)
    | (at_builtin; refine wpList_app _ rfl (.tmp 6) (.tmp 7) 24 24 rfl w.heap.size 5 i0 _ 1 1 Try.underlying24 hi hz0 hz1 hz2 rfl (by omega) _ _ _ rfl ho (.slice A xs.length c) xs.length _ rfl (src_rd _ Try.underlying24 (bs_length _).symm hR1 (bs_one _)) ?c1 ?c2 ?c3 ?_))
  case c1 => simp only [maxLen]; omega
  case c2 => omega
  case c3 => exact hb.size
  intro v2 w2 ho2 hg2 _
  have hb2 : Below w.heap.size w w2 := hb.grown hg2 hb.size (fun k hk => (ho.lt k hk).1)
  have hR2 := h.on hb2
  clear hg2 hR1 ho
  go_wp2_with fail
  refine (sum_any A c xs w2 hR2 hB (by omega)).mono ?_
  rintro e w3 ⟨rfl, rfl⟩
  go_wp2_with fail
  refine (lay_any w.heap.size v2 _ _ _ w2 ho2 hb2.size (by omega) (by omega) (by omega)).mono ?_
  rintro e w3 ⟨v3, rfl, ho3, hg3, hat3⟩
  have hb3 : Below w.heap.size w w3 := hb2.grown hg3 hb2.size (fun k hk => (ho2.lt k hk).1)
  clear hg3 hat3
  go_wp2_with fail
  go_ret
  exact Made.of (v := v3) (n := (W.put xs.length).length + xs.length + (W.put (W.sum xs)).length) (by unfold W.sealed; simp only [List.length_append]) (by unfold W.sealed; rw [bs_append, bs_append]; exact ho3) hb3

theorem nums_any (A : Option Addr) (c : Nat) (xs : List Int) (w : World) (h : Rd w w.heap.size A (is xs)) (hB : ∀ n ∈ xs, -9223372036854775808 ≤ n ∧ n ≤ 9223372036854775807) (hl : xs.length ≤ 1000000) :
    Calls Try.prog 24 #[.slice A xs.length c] w (Made w (W.nums xs)) := by
  have h10 : (W.put xs.length).length ≤ 10 := W.enc_le10 (W.turn_lt _ (by omega) (by omega))
  go_enter Try.func24, Try.ntmps24
  go_wp2_with fail
  refine (put_any _ _ (by omega) (by omega)).mono ?_
  rintro e w1 ⟨A1, c1, rfl, ho, hb, hc, hc2⟩
  go_wp2_with fail
  go_loopw [3, 11] (fun b i wr => ∃ (k : Nat) (v' : Value), k ≤ xs.length ∧ b = v' ∧ i = .int .i64 k ∧ wr.ownsRow w.heap.size 5 1 v' (W.put xs.length ++ (xs.take k).flatMap W.put).length (bs (W.put xs.length ++ (xs.take k).flatMap W.put)) ∧ Below w.heap.size w wr) (fun _ i _ => xs.length - (intOf i).toNat)
  case atStart => exact ⟨0, _, Nat.zero_le _, rfl, rfl, by simpa using ho, hb⟩
  case round =>
    obtain ⟨k, v', hk, rfl, rfl, hown, hbr⟩ := hrel
    clear ho hb
    by_cases hlt : k < xs.length
    · have hR := h.on hbr
      obtain ⟨b1, o1, rfl, hb1, hc1⟩ := hR.at_ (is_at xs k hlt)
      have hB1 := hB xs[k] (by simp)
      have hlen : (W.put xs.length ++ (xs.take k).flatMap W.put).length ≤ 10 + 10 * k := by
        have : ∀ l : List Int, (∀ n ∈ l, -9223372036854775808 ≤ n ∧ n ≤ 9223372036854775807) → (l.flatMap W.put).length ≤ 10 * l.length := by
          intro l
          induction l with
          | nil => simp
          | cons a l ih =>
            intro hl
            have h1 := hl a (by simp)
            have h2 : (W.put a).length ≤ 10 := W.enc_le10 (W.turn_lt _ h1.1 h1.2)
            have h3 := ih (fun n hn => hl n (by simp [hn]))
            simp at h3 ⊢
            omega
        have h4 := this (xs.take k) (fun n hn => hB n (List.mem_of_mem_take hn))
        rw [List.length_append]
        have h5 : (xs.take k).length ≤ k := List.length_take_le _ _
        omega
      have e1 : W.put xs.length ++ (xs.take (k + 1)).flatMap W.put = (W.put xs.length ++ (xs.take k).flatMap W.put) ++ W.put xs[k] := by
        rw [List.take_succ_eq_append_getElem hlt, List.flatMap_append, ← List.append_assoc]; simp only [List.flatMap_cons, List.flatMap_nil, List.append_nil]
      have E1 := Lib.hid e1
      clear e1
      generalize (W.put xs.length ++ (xs.take k).flatMap W.put) = done at hown hlen E1
      go_wp2_with fail
      refine (lay_any w.heap.size _ _ _ _ wr hown hbr.size (by omega) hB1.1 hB1.2).mono ?_
      rintro e w3 ⟨v3, rfl, ho3, hg3, hat3⟩
      have hb3 : Below w.heap.size w w3 := hbr.grown hg3 hbr.size (fun k hk => (hown.lt k hk).1)
      clear hg3 hat3 hown
      go_wp2_with fail
      go_roundw
      case rel => exact ⟨k + 1, v3, by omega, rfl, by go_num, by rw [E1.out, bs_append, List.length_append]; exact ho3, hb3⟩
      case measure => simp [intOf]; omega
    · go_wp2
      go_ret
      have e1 : xs.take k = xs := List.take_of_length_le (by omega)
      rw [e1] at hown
      exact Made.of rfl hown hbr
end Go.Proofs.Yteindickckcdhaa
