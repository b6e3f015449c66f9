/- the walk of alive: the question at the head of every statement of layer 3 -/
import Derived.Test.YtplcibcpjichgaaWalkI
namespace Go.Proofs.Ytplcibcpjichgaa
open Go.RowKit
set_option linter.unusedSimpArgs false
set_option linter.unusedVariables false
set_option maxRecDepth 100000

theorem lit_rd (w : World) (t : TypeId) (l : List Value) : Rd (w.alloc (.cells l.toArray t)) (w.alloc (.cells l.toArray t)).heap.size (some ⟨w.heap.size, 0, none⟩) l := by
  refine .inr ⟨w.heap.size, 0, rfl, by simp, fun j u hu => ?_⟩
  have h : (w.alloc (.cells l.toArray t)).heap[w.heap.size]? = some (.cells l.toArray t) := heap_alloc_new w _
  rw [Nat.zero_add, cell_of_row _ _ _ _ _ _ h]
  simpa using hu
theorem ints_any' (b : Bool) {A1 A2 : Option Addr} {c1 c2 m1 m2 : Nat} {xs ys : List Int} {w : World} (hb : b = decide (xs = ys)) (e1 : m1 = xs.length) (e2 : m2 = ys.length) (h1 : Rd w w.heap.size A1 (is xs)) (h2 : Rd w w.heap.size A2 (is ys))
    (l1 : m1 ≤ 9223372036854775807) (l2 : m2 ≤ 9223372036854775807) :
    Calls Try.prog 24 #[.slice A1 m1 c1, .slice A2 m2 c2] w fun e w' => e = .returned (.bool b) ∧ ∃ n, w' = w.drewN n := by
  subst e1 e2; exact ints_any b A1 A2 c1 c2 xs ys w hb h1 h2 l1 l2
theorem bel_alloc (w : World) (o : Obj) : Below w.heap.size w (w.alloc o) := (Below.refl _ _).alloc (Nat.le_refl _) o
theorem bel_trans {B : Nat} {w w1 w2 : World} (h : Below B w w1) (hs : B ≤ w1.heap.size) (h2 : Below w1.heap.size w1 w2) : Below B w w2 := h.trans (h2.mono hs)

theorem put64n : W.put (-64) = [127] := by unfold W.put; rw [show W.turn (-64) = 127 by decide]; exact W.enc_lt (by decide)
theorem put64 : W.put 64 = [128, 1] := by unfold W.put; rw [show W.turn 64 = 128 by decide, W.enc_ge (by decide), W.enc_lt (by decide)]
theorem put2 : W.put 2 = [4] := by unfold W.put; rw [show W.turn 2 = 4 by decide]; exact W.enc_lt (by decide)
theorem put1 : W.put 1 = [2] := by unfold W.put; rw [show W.turn 1 = 2 by decide]; exact W.enc_lt (by decide)
theorem putn1 : W.put (-1) = [1] := by unfold W.put; rw [show W.turn (-1) = 1 by decide]; exact W.enc_lt (by decide)
theorem nums_lit : W.nums [1, -1] = [4, 2, 1] := by unfold W.nums; simp [put1, putn1, put2]
theorem sealed_lit : W.sealed [1] = [2, 1, 132, 128, 16] := by
  unfold W.sealed
  rw [show W.sum [1] = 131074 by decide]
  have : W.put ((131074 : Nat) : Int) = [132, 128, 16] := by
    unfold W.put; rw [show W.turn ((131074 : Nat) : Int) = 262148 by decide, W.enc_ge (by decide), W.enc_ge (by decide), W.enc_lt (by decide)]
  rw [this]
  simp [put1]

set_option maxHeartbeats 2000000 in
theorem alive_any (w : World) : Calls Try.prog 14 #[] w fun e w' => e = .returned (.bool true) ∧ Below w.heap.size w w' := by
  go_enter Try.func14, Try.ntmps14
  go_wp2_with fail
  have C := put_any (-64) w (by omega) (by omega)
  rw [put64n] at C
  refine C.mono ?_
  clear C
  rintro e w1 ⟨A1, c1, rfl, ho1, hb1, _, _⟩
  have ra := Rd.of_own ho1
  clear ho1
  go_wp2_with fail
  have C := put_any 64 w1 (by omega) (by omega)
  rw [put64] at C
  refine C.mono ?_
  clear C
  rintro e w2 ⟨A2, c2, rfl, ho2, hb2, _, _⟩
  have rb := Rd.of_own ho2
  have ra2 := ra.on hb2
  have B2 := bel_trans hb1 hb1.size hb2
  clear ho2 ra hb1 hb2
  go_wp2_with fail
  refine (wget_yes' (xs := [128, 1, 9]) (n := 64) (k := 2) (by decide) rfl (lit_rd _ _ (bs [128, 1, 9])) (by unfold Byt; decide) (by decide)).mono ?_
  rintro e w3 ⟨rfl, hw⟩
  have hb3 : Below w2.heap.size w2 w3 := by rw [← hw]; exact bel_alloc _ _
  have ra3 := ra2.on hb3
  have rb3 := rb.on hb3
  have B3 := bel_trans B2 B2.size hb3
  clear ra2 rb B2 hb3
  go_wp2_with fail
  refine (wget_no' (xs := [128, 0]) (by decide) rfl (lit_rd _ _ (bs [128, 0])) (by unfold Byt; decide) (by decide)).mono ?_
  rintro e w4 ⟨rfl, hw⟩
  have hb4 : Below w3.heap.size w3 w4 := by rw [← hw]; exact bel_alloc _ _
  have ra4 := ra3.on hb4
  have rb4 := rb3.on hb4
  have B4 := bel_trans B3 B3.size hb4
  clear ra3 rb3 B3 hb4
  go_wp2_with fail
  have C : Calls Try.prog 20 #[.slice (some ⟨w4.heap.size, 0, none⟩) 4 4] (w4.alloc (.cells (bs [4, 97, 98, 7]).toArray 5)) fun e w' => e = .returned (.tuple #[.string ⟨#[97, 98]⟩, .int .i64 3, .int .i64 0]) ∧ w4.alloc (.cells (bs [4, 97, 98, 7]).toArray 5) = w' :=
    gettext_yes (xs := [4, 97, 98, 7]) (n := 2) (k := 1) (by decide) (lit_rd _ _ (bs [4, 97, 98, 7])) (by unfold Byt; decide) (by decide) (by decide) (by decide)
  refine C.mono ?_
  clear C
  rintro e w5 ⟨rfl, hw⟩
  have hb5 : Below w4.heap.size w4 w5 := by rw [← hw]; exact bel_alloc _ _
  have ra5 := ra4.on hb5
  have rb5 := rb4.on hb5
  have B5 := bel_trans B4 B4.size hb5
  clear ra4 rb4 B4 hb5
  go_wp2_with fail
  have C := getnums_any (some ⟨w5.heap.size, 0, none⟩) 3 [4, 2, 1] (w5.alloc (.cells (bs [4, 2, 1]).toArray 5)) (lit_rd _ _ (bs [4, 2, 1])) (by unfold Byt; decide) (by decide) (by decide) (by decide)
  rw [show W.getNums [4, 2, 1] = some ([1, -1], 3) by decide] at C
  refine C.mono ?_
  clear C
  rintro e w6 ⟨hw, A3, c3, rfl, rl0, _⟩
  have hb6 : Below w5.heap.size w5 w6 := bel_trans (bel_alloc _ _) (bel_alloc _ _).size hw
  have ra6 := ra5.on hb6
  have rb6 := rb5.on hb6
  have B6 := bel_trans B5 B5.size hb6
  clear ra5 rb5 B5 hb6
  go_wp2_with fail
  refine (same_any' true (xs := [127]) (ys := [127]) (by decide) rfl rfl (ra6.on (bel_alloc _ _)) (lit_rd _ _ (bs [127])) (by decide) (by decide)).mono ?_
  rintro e w7 ⟨rfl, hw⟩
  have hb7 : Below w6.heap.size w6 w7 := by obtain ⟨n, rfl⟩ := hw; exact below_drewN (bel_alloc _ _) n
  have ra7 := ra6.on hb7
  have rb7 := rb6.on hb7
  have rl7 := rl0.on hb7
  have B7 := bel_trans B6 B6.size hb7
  clear ra6 rb6 rl0 B6 hb7
  go_wp2_with fail
  refine (same_any' true (xs := [128, 1]) (ys := [128, 1]) (by decide) rfl rfl (rb7.on (bel_alloc _ _)) (lit_rd _ _ (bs [128, 1])) (by decide) (by decide)).mono ?_
  rintro e w8 ⟨rfl, hw⟩
  have hb8 : Below w7.heap.size w7 w8 := by obtain ⟨n, rfl⟩ := hw; exact below_drewN (bel_alloc _ _) n
  have rb8 := rb7.on hb8
  have rl8 := rl7.on hb8
  have B8 := bel_trans B7 B7.size hb8
  clear rb7 rl7 B7 hb8
  go_wp2_with fail
  refine (ints_any' true (xs := [1, -1]) (ys := [1, -1]) (by decide) rfl rfl (rl8.on (bel_alloc _ _)) (lit_rd _ _ (is [1, -1])) (by decide) (by decide)).mono ?_
  rintro e w9 ⟨rfl, hw⟩
  have hb9 : Below w8.heap.size w8 w9 := by obtain ⟨n, rfl⟩ := hw; exact below_drewN (bel_alloc _ _) n
  have rl9 := rl8.on hb9
  have B9 := bel_trans B8 B8.size hb9
  clear rl8 B8 hb9
  go_wp2_with fail
  have C := text_any ⟨#[97, 98]⟩ w9 (by decide)
  rw [show W.put (ByteArray.size ⟨#[97, 98]⟩ : Nat) ++ (ByteArray.data ⟨#[97, 98]⟩).toList.map UInt8.toNat = [4, 97, 98] by rw [show (ByteArray.size ⟨#[97, 98]⟩ : Nat) = 2 from rfl, show ((2 : Nat) : Int) = 2 from rfl, put2]; decide] at C
  refine C.mono ?_
  clear C
  rintro e w10 ⟨A9, c9, rfl, ho9, hw, _, _⟩
  have hb10 : Below w9.heap.size w9 w10 := hw
  have B10 := bel_trans B9 B9.size hb10
  have rt10 := Rd.of_own ho9
  clear ho9
  clear B9 hb10
  go_wp2_with fail
  refine (same_any' true (xs := [4, 97, 98]) (ys := [4, 97, 98]) (by decide) rfl rfl (rt10.on (bel_alloc _ _)) (lit_rd _ _ (bs [4, 97, 98])) (by decide) (by decide)).mono ?_
  rintro e w11 ⟨rfl, hw⟩
  have hb11 : Below w10.heap.size w10 w11 := by obtain ⟨n, rfl⟩ := hw; exact below_drewN (bel_alloc _ _) n
  have rt11 := rt10.on hb11
  have B11 := bel_trans B10 B10.size hb11
  clear rt10 B10 hb11
  go_wp2_with fail
  have C := nums_any (some ⟨w11.heap.size, 0, none⟩) 2 [1, -1] (w11.alloc (.cells (is [1, -1]).toArray 3)) (lit_rd _ _ (is [1, -1])) (by decide) (by decide)
  rw [nums_lit] at C
  refine C.mono ?_
  clear C
  rintro e w12 ⟨A9, c9, rfl, ho9, hw, _, _⟩
  have hb12 : Below w11.heap.size w11 w12 := bel_trans (bel_alloc _ _) (bel_alloc _ _).size hw
  have B12 := bel_trans B11 B11.size hb12
  have rt12 := Rd.of_own ho9
  clear ho9
  clear B11 hb12
  go_wp2_with fail
  refine (same_any' true (xs := [4, 2, 1]) (ys := [4, 2, 1]) (by decide) rfl rfl (rt12.on (bel_alloc _ _)) (lit_rd _ _ (bs [4, 2, 1])) (by decide) (by decide)).mono ?_
  rintro e w13 ⟨rfl, hw⟩
  have hb13 : Below w12.heap.size w12 w13 := by obtain ⟨n, rfl⟩ := hw; exact below_drewN (bel_alloc _ _) n
  have rt13 := rt12.on hb13
  have B13 := bel_trans B12 B12.size hb13
  clear rt12 B12 hb13
  go_wp2_with fail
  have C := sum_any (some ⟨w13.heap.size, 0, none⟩) 2 [1, 2] (w13.alloc (.cells (bs [1, 2]).toArray 5)) (lit_rd _ _ (bs [1, 2])) (by unfold Byt; decide) (by decide)
  rw [show ((W.sum [1, 2] : Nat) : Int) = 393220 by decide] at C
  refine C.mono ?_
  clear C
  rintro e w14 ⟨rfl, hw⟩
  have hb14 : Below w13.heap.size w13 w14 := by rw [← hw]; exact bel_alloc _ _
  have B14 := bel_trans B13 B13.size hb14
  clear B13 hb14
  go_wp2_with fail
  have C := seal_any (some ⟨w14.heap.size, 0, none⟩) 1 [1] (w14.alloc (.cells (bs [1]).toArray 5)) (lit_rd _ _ (bs [1])) (by unfold Byt; decide) (by decide)
  rw [sealed_lit] at C
  refine C.mono ?_
  clear C
  rintro e w15 ⟨A9, c9, rfl, ho9, hw, _, _⟩
  have hb15 : Below w14.heap.size w14 w15 := bel_trans (bel_alloc _ _) (bel_alloc _ _).size hw
  have B15 := bel_trans B14 B14.size hb15
  have rt15 := Rd.of_own ho9
  clear ho9
  clear B14 hb15
  go_wp2_with fail
  refine (same_any' true (xs := [2, 1, 132, 128, 16]) (ys := [2, 1, 132, 128, 16]) (by decide) rfl rfl (rt15.on (bel_alloc _ _)) (lit_rd _ _ (bs [2, 1, 132, 128, 16])) (by decide) (by decide)).mono ?_
  rintro e w16 ⟨rfl, hw⟩
  have hb16 : Below w15.heap.size w15 w16 := by obtain ⟨n, rfl⟩ := hw; exact below_drewN (bel_alloc _ _) n
  have rt16 := rt15.on hb16
  have B16 := bel_trans B15 B15.size hb16
  clear rt15 B15 hb16
  go_wp2_with fail
  go_ret
  exact ⟨rfl, B16⟩
end Go.Proofs.Ytplcibcpjichgaa
