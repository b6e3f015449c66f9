/- walks: the document's Picks and Bytes; Picked -/
import Derived.Test.YteindickckcdhaaTrE
namespace Go.Proofs.Yteindickckcdhaa
open Go.RowKit
set_option linter.unusedSimpArgs false
set_option linter.unusedVariables false
set_option maxRecDepth 100000

theorem rpicks_any (l : List T.Ev) (A : Option Addr) (c : Nat) (w : World) (hr : Rd w w.heap.size A (ecs l)) (hl : l.length ≤ 1000000) :
    Calls Try.prog 15 #[.slice A l.length c] w (Picked w (T.picks l)) := by
  obtain ⟨i0, hi, hz0, hz1, hz2⟩ := info_parts info_pick
  go_enter Try.func15, Try.ntmps15
  go_wp2_with fail
  go_loopg [3, 4] l.length (fun gk vv ii wr => ∃ k : Nat, k + gk = l.length ∧ ii = .int .i64 k ∧ wr.ownsRow w.heap.size 55 3 vv k (pcs ((T.picks l).take k)) ∧ Below w.heap.size w wr)
  case atStart => exact ⟨0, by omega, rfl, World.ownsRow_nil _ _ _ _, Below.refl _ _⟩
  case round =>
    obtain ⟨k, hk, rfl, ho, hb⟩ := hrel
    have HK := Lib.hid hk
    by_cases hlt : k < l.length
    · clear hk
      have hltI : (k : Int) < (l.length : Int) := by omega
      have hrw := hr.below hb
      obtain ⟨bA, oA, rfl, hbA, f0, f1, f2, f3, f4, f5, f6, f7⟩ := hrw.ev hlt
      have HT : Hid ((T.picks l).take (k + 1) = (T.picks l).take k ++ [T.pick l[k]]) := Lib.hid (by
        rw [List.take_succ_eq_append_getElem (by simpa [T.picks] using hlt)]; simp [T.picks])
      have hs := hb.size
      have hbA2 : bA < wr.heap.size := by omega
      clear hrw
      generalize l[k] = x at *
      obtain ⟨x0, x1, x2, x3, x4, x5, x6, x7⟩ := x
      simp only at f0 f1 f2 f3 f4 f5 f6 f7
      by_cases hk0 : x2 = 0
      · rw [hk0] at f2
        have HP : Hid (pcs [T.pick (x0, x1, x2, x3, x4, x5, x6, x7)] = [.int .i64 3, .int .i64 x0, .int .i64 0]) := Lib.hid (by simp [T.pick, hk0, pcs])
        clear hk0
        go_wp2_with (at_builtin; refine wpList_append_own_at _ rfl (.tmp 26) (.tmp 28) 31 rfl w.heap.size 55 i0 _ 3 24 Try.underlying31 hi hz0 hz1 hz2 rfl (by omega) _ _ _ rfl ((ho.alloc _).alloc _) ⟨wr.heap.size + 1, 0, none⟩ 1 1 [.int .i64 3, .int .i64 x0, .int .i64 0] rfl rfl ?c1 ?c2 ?c3 ?c4 ?c5 ?_)
        case c1 =>
          refine World.news_of_block (cs := #[.int .i64 3, .int .i64 x0, .int .i64 0]) (t := 55) (fr := (0, 0)) ?_
          have hh := heap_alloc_new (wr.alloc (.cells #[.int .i64 3, .int .i64 x0, .int .i64 0] 55)) (.cells #[.int .i64 3, .int .i64 x0, .int .i64 0] 55)
          rw [show (wr.alloc (.cells #[.int .i64 3, .int .i64 x0, .int .i64 0] 55)).heap.size = wr.heap.size + 1 by simp] at hh
          exact hh
        case c2 => simp [Value.oneCell']
        case c3 => simp only [maxLen]; omega
        case c4 => omega
        case c5 => first | omega | (simp; omega)
        intro v3 w3 ho3 hg3 _ _
        have hb3 : Below w.heap.size w w3 := ((hb.alloc hs _).alloc (by simp; omega) _).grown hg3 (by simp; omega) fun k hk => (ho.lt k hk).1
        rw [← HP.out, ← pcs_append, ← HT.out] at ho3
        clear ho hb hg3
        go_wp2_with fail
        go_roundg (gk - 1)
        case measure => have := HK.out; omega
        case rel => exact ⟨k + 1, by have := HK.out; omega, by go_num, ho3, hb3⟩
      · have HP : Hid (pcs [T.pick (x0, x1, x2, x3, x4, x5, x6, x7)] = [.int .i64 1, .int .i64 x0, .int .i64 0]) := Lib.hid (by simp [T.pick, hk0, pcs])
        have q1 : (x2 == 0) = false := by simpa using hk0
        clear hk0
        go_wp2_with (at_builtin; refine wpList_append_own_at _ rfl (.tmp 26) (.tmp 28) 31 rfl w.heap.size 55 i0 _ 3 24 Try.underlying31 hi hz0 hz1 hz2 rfl (by omega) _ _ _ rfl ((ho.alloc _).alloc _) ⟨wr.heap.size + 1, 0, none⟩ 1 1 [.int .i64 1, .int .i64 x0, .int .i64 0] rfl rfl ?e1 ?e2 ?e3 ?e4 ?e5 ?_)
        case e1 =>
          refine World.news_of_block (cs := #[.int .i64 1, .int .i64 x0, .int .i64 0]) (t := 55) (fr := (0, 0)) ?_
          have hh := heap_alloc_new (wr.alloc (.cells #[.int .i64 1, .int .i64 x0, .int .i64 0] 55)) (.cells #[.int .i64 1, .int .i64 x0, .int .i64 0] 55)
          rw [show (wr.alloc (.cells #[.int .i64 1, .int .i64 x0, .int .i64 0] 55)).heap.size = wr.heap.size + 1 by simp] at hh
          exact hh
        case e2 => simp [Value.oneCell']
        case e3 => simp only [maxLen]; omega
        case e4 => omega
        case e5 => first | omega | (simp; omega)
        intro v3 w3 ho3 hg3 _ _
        have hb3 : Below w.heap.size w w3 := ((hb.alloc hs _).alloc (by simp; omega) _).grown hg3 (by simp; omega) fun k hk => (ho.lt k hk).1
        rw [← HP.out, ← pcs_append, ← HT.out] at ho3
        clear ho hb hg3
        go_wp2_with fail
        go_roundg (gk - 1)
        case measure => have := HK.out; omega
        case rel => exact ⟨k + 1, by have := HK.out; omega, by go_num, ho3, hb3⟩
    · clear hk
      have hPl : (T.picks l).length = l.length := by simp [T.picks]
      have e1 : (T.picks l).take k = T.picks l := List.take_of_length_le (by omega)
      rw [e1] at ho
      obtain rfl : k = l.length := by have := HK.out; omega
      obtain ⟨A', c', hv, _, _⟩ := own_form8 ho
      subst hv
      go_wp2
      go_ret
      exact ⟨A', c', by rw [hPl]; rfl, rd_own8 ho, hb⟩

set_option maxHeartbeats 1000000 in
theorem rbytes_any (l : List T.Ev) (A : Option Addr) (c : Nat) (w : World) (hr : Rd w w.heap.size A (ecs l)) (hl : l.length ≤ 1000) (hf : ∀ x ∈ l, T.fits x) :
    Calls Try.prog 12 #[.slice A l.length c] w (Made w (T.bytes l)) := by
  obtain ⟨i0, hi, hz0, hz1, hz2⟩ := info_parts info_i
  have HF := Lib.hid (T.nums_fit hf)
  have HNL := Lib.hid (T.nums_length l)
  have HL2 := Lib.hid (T.bytes_len hf hl)
  clear hf
  go_enter Try.func12, Try.ntmps12
  go_wp2_with fail
  go_loopg [3, 4] l.length (fun gk vv ii wr => ∃ k : Nat, k + gk = l.length ∧ ii = .int .i64 k ∧ wr.ownsRow w.heap.size 3 1 vv (k * 8) (is (T.nums (l.take k))) ∧ Below w.heap.size w wr)
  case atStart => exact ⟨0, by omega, rfl, World.ownsRow_nil _ _ _ _, Below.refl _ _⟩
  case round =>
    obtain ⟨k, hk, rfl, ho, hb⟩ := hrel
    have HK := Lib.hid hk
    by_cases hlt : k < l.length
    · clear hk
      have hltI : (k : Int) < (l.length : Int) := by omega
      have hs := hb.size
      have hrw := hr.below hb
      obtain ⟨bA, oA, rfl, hbA, f0, f1, f2, f3, f4, f5, f6, f7⟩ := hrw.ev hlt
      have HT : Hid (T.nums (l.take (k + 1)) = T.nums (l.take k) ++ T.row l[k]) := Lib.hid (by rw [List.take_succ_eq_append_getElem hlt]; unfold T.nums; rw [List.flatMap_append, List.flatMap_cons, List.flatMap_nil, List.append_nil])
      have hbA2 : bA < wr.heap.size := by omega
      clear hrw
      generalize l[k] = xx at *
      obtain ⟨x0, x1, x2, x3, x4, x5, x6, x7⟩ := xx
      simp only at f0 f1 f2 f3 f4 f5 f6 f7
      cases x7
      · go_wp2_with (at_builtin; refine wpList_append_own_at _ rfl (.tmp 16) (.tmp 36) 50 rfl w.heap.size 3 i0 _ 1 8 Try.underlying50 hi hz0 hz1 hz2 rfl (by omega) _ _ _ rfl ((ho.alloc _).alloc _) ⟨wr.heap.size + 1, 0, none⟩ 7 7 [.int .i64 x0, .int .i64 x1, .int .i64 x2, .int .i64 x3, .int .i64 x4, .int .i64 x5, .int .i64 x6] rfl rfl ?c1 ?c2 ?c3 ?c4 ?c5 ?_)
        case c1 =>
          refine World.news_of_block (cs := #[.int .i64 x0, .int .i64 x1, .int .i64 x2, .int .i64 x3, .int .i64 x4, .int .i64 x5, .int .i64 x6]) (t := 3) (fr := (0, 0)) ?_
          have hh := heap_alloc_new (wr.alloc (.cells #[.int .i64 x0, .int .i64 x1, .int .i64 x2, .int .i64 x3, .int .i64 x4, .int .i64 x5, .int .i64 x6, .bool false] 48)) (.cells #[.int .i64 x0, .int .i64 x1, .int .i64 x2, .int .i64 x3, .int .i64 x4, .int .i64 x5, .int .i64 x6] 3)
          rw [show (wr.alloc (.cells #[.int .i64 x0, .int .i64 x1, .int .i64 x2, .int .i64 x3, .int .i64 x4, .int .i64 x5, .int .i64 x6, .bool false] 48)).heap.size = wr.heap.size + 1 by simp] at hh
          exact hh
        case c2 => simp [Value.oneCell']
        case c3 => simp only [maxLen]; omega
        case c4 => omega
        case c5 => first | omega | (simp; omega)
        intro v3 w3 ho3 hg3 _ hat3
        have hb3 : Below w.heap.size w w3 := ((hb.alloc hs _).alloc (by simp; omega) _).grown hg3 (by simp; omega) fun k hk => (ho.lt k hk).1
        have bk3 : Blk w3 wr.heap.size 48 #[.int .i64 x0, .int .i64 x1, .int .i64 x2, .int .i64 x3, .int .i64 x4, .int .i64 x5, .int .i64 x6, .bool false] := by
          have z := ((Blk.new wr 48 #[.int .i64 x0, .int .i64 x1, .int .i64 x2, .int .i64 x3, .int .i64 x4, .int .i64 x5, .int .i64 x6, .bool false]).alloc (.cells #[.int .i64 x0, .int .i64 x1, .int .i64 x2, .int .i64 x3, .int .i64 x4, .int .i64 x5, .int .i64 x6] 3))
          refine (hg3.block wr.heap.size (by simp; omega) ?_).trans z
          intro hq
          have := (ho.lt _ hq.symm).2
          omega
        have c3 := bk3.cell 7
        simp only [List.getElem?_toArray, List.getElem?_cons_succ, List.getElem?_cons_zero] at c3
        have hs3 := hb3.size
        clear ho hb hg3 hat3
        go_wp2_with (at_builtin; refine wpList_append_own_at _ rfl (.tmp 44) (.tmp 45) 50 rfl w.heap.size 3 i0 _ 1 8 Try.underlying50 hi hz0 hz1 hz2 rfl (by omega) _ _ _ rfl (ho3.alloc _) ⟨w3.heap.size, 0, none⟩ 1 1 [.int .i64 0] rfl rfl ?d1 ?d2 ?d3 ?d4 ?d5 ?_)
        case d1 => exact World.news_of_block (cs := #[.int .i64 0]) (heap_alloc_new _ _)
        case d2 => simp [Value.oneCell']
        case d3 => simp only [maxLen]; omega
        case d4 => omega
        case d5 => first | omega | (simp; omega)
        intro v4 w4 ho4 hg4 _ _
        have hb4 : Below w.heap.size w w4 := (hb3.alloc hs3 _).grown hg4 (by simp; omega) fun k hk => (ho3.lt k hk).1
        have e4 : is (T.nums (l.take k)) ++ [.int .i64 x0, .int .i64 x1, .int .i64 x2, .int .i64 x3, .int .i64 x4, .int .i64 x5, .int .i64 x6] ++ [.int .i64 0] = is (T.nums (l.take (k + 1))) := by rw [HT.out, is_append, List.append_assoc]; rfl
        first | rw [e4] at ho4 | (rw [List.append_assoc] at e4; rw [show [.int .i64 x0, .int .i64 x1, .int .i64 x2, .int .i64 x3, .int .i64 x4, .int .i64 x5, .int .i64 x6] ++ [Value.int .i64 0] = [.int .i64 x0, .int .i64 x1, .int .i64 x2, .int .i64 x3, .int .i64 x4, .int .i64 x5, .int .i64 x6, .int .i64 0] from rfl] at e4; rw [e4] at ho4)
        clear ho3 hb3 hg4 e4
        go_wp2_with fail
        go_roundg (gk - 1)
        case measure => have := HK.out; omega
        case rel => exact ⟨k + 1, by have := HK.out; omega, by go_num, by rw [show (k + 1) * 8 = k * 8 + 7 + 1 by omega]; exact ho4, hb4⟩
      · go_wp2_with (at_builtin; refine wpList_append_own_at _ rfl (.tmp 16) (.tmp 36) 50 rfl w.heap.size 3 i0 _ 1 8 Try.underlying50 hi hz0 hz1 hz2 rfl (by omega) _ _ _ rfl ((ho.alloc _).alloc _) ⟨wr.heap.size + 1, 0, none⟩ 7 7 [.int .i64 x0, .int .i64 x1, .int .i64 x2, .int .i64 x3, .int .i64 x4, .int .i64 x5, .int .i64 x6] rfl rfl ?e1 ?e2 ?e3 ?e4 ?e5 ?_)
        case e1 =>
          refine World.news_of_block (cs := #[.int .i64 x0, .int .i64 x1, .int .i64 x2, .int .i64 x3, .int .i64 x4, .int .i64 x5, .int .i64 x6]) (t := 3) (fr := (0, 0)) ?_
          have hh := heap_alloc_new (wr.alloc (.cells #[.int .i64 x0, .int .i64 x1, .int .i64 x2, .int .i64 x3, .int .i64 x4, .int .i64 x5, .int .i64 x6, .bool true] 48)) (.cells #[.int .i64 x0, .int .i64 x1, .int .i64 x2, .int .i64 x3, .int .i64 x4, .int .i64 x5, .int .i64 x6] 3)
          rw [show (wr.alloc (.cells #[.int .i64 x0, .int .i64 x1, .int .i64 x2, .int .i64 x3, .int .i64 x4, .int .i64 x5, .int .i64 x6, .bool true] 48)).heap.size = wr.heap.size + 1 by simp] at hh
          exact hh
        case e2 => simp [Value.oneCell']
        case e3 => simp only [maxLen]; omega
        case e4 => omega
        case e5 => first | omega | (simp; omega)
        intro v3 w3 ho3 hg3 _ hat3
        have hb3 : Below w.heap.size w w3 := ((hb.alloc hs _).alloc (by simp; omega) _).grown hg3 (by simp; omega) fun k hk => (ho.lt k hk).1
        have bk3 : Blk w3 wr.heap.size 48 #[.int .i64 x0, .int .i64 x1, .int .i64 x2, .int .i64 x3, .int .i64 x4, .int .i64 x5, .int .i64 x6, .bool true] := by
          have z := ((Blk.new wr 48 #[.int .i64 x0, .int .i64 x1, .int .i64 x2, .int .i64 x3, .int .i64 x4, .int .i64 x5, .int .i64 x6, .bool true]).alloc (.cells #[.int .i64 x0, .int .i64 x1, .int .i64 x2, .int .i64 x3, .int .i64 x4, .int .i64 x5, .int .i64 x6] 3))
          refine (hg3.block wr.heap.size (by simp; omega) ?_).trans z
          intro hq
          have := (ho.lt _ hq.symm).2
          omega
        have c3 := bk3.cell 7
        simp only [List.getElem?_toArray, List.getElem?_cons_succ, List.getElem?_cons_zero] at c3
        have hs3 := hb3.size
        clear ho hb hg3 hat3
        go_wp2_with (at_builtin; refine wpList_append_own_at _ rfl (.tmp 41) (.tmp 42) 50 rfl w.heap.size 3 i0 _ 1 8 Try.underlying50 hi hz0 hz1 hz2 rfl (by omega) _ _ _ rfl (ho3.alloc _) ⟨w3.heap.size, 0, none⟩ 1 1 [.int .i64 1] rfl rfl ?f1 ?f2 ?f3 ?f4 ?f5 ?_)
        case f1 => exact World.news_of_block (cs := #[.int .i64 1]) (heap_alloc_new _ _)
        case f2 => simp [Value.oneCell']
        case f3 => simp only [maxLen]; omega
        case f4 => omega
        case f5 => first | omega | (simp; omega)
        intro v4 w4 ho4 hg4 _ _
        have hb4 : Below w.heap.size w w4 := (hb3.alloc hs3 _).grown hg4 (by simp; omega) fun k hk => (ho3.lt k hk).1
        have e4 : is (T.nums (l.take k)) ++ [.int .i64 x0, .int .i64 x1, .int .i64 x2, .int .i64 x3, .int .i64 x4, .int .i64 x5, .int .i64 x6] ++ [.int .i64 1] = is (T.nums (l.take (k + 1))) := by rw [HT.out, is_append, List.append_assoc]; rfl
        first | rw [e4] at ho4 | (rw [List.append_assoc] at e4; rw [show [.int .i64 x0, .int .i64 x1, .int .i64 x2, .int .i64 x3, .int .i64 x4, .int .i64 x5, .int .i64 x6] ++ [Value.int .i64 1] = [.int .i64 x0, .int .i64 x1, .int .i64 x2, .int .i64 x3, .int .i64 x4, .int .i64 x5, .int .i64 x6, .int .i64 1] from rfl] at e4; rw [e4] at ho4)
        clear ho3 hb3 hg4 e4
        go_wp2_with fail
        go_roundg (gk - 1)
        case measure => have := HK.out; omega
        case rel => exact ⟨k + 1, by have := HK.out; omega, by go_num, by rw [show (k + 1) * 8 = k * 8 + 7 + 1 by omega]; exact ho4, hb4⟩
    · clear hk
      have e1 : l.take k = l := List.take_of_length_le (by omega)
      rw [e1] at ho
      have hk8 : k * 8 = (T.nums l).length := by rw [HNL.out]; have := HK.out; omega
      rw [hk8] at ho
      obtain ⟨A', c', hv, _, _⟩ := own_form ho
      subst hv
      have r1 := Rd.of_own ho
      clear e1 hk8
      go_wp2_with fail
      refine (rnums_any _ _ (T.nums l) _ r1 HF.out (by have := HNL.out; omega)).mono ?_
      rintro e w2 ⟨A2, c2, rfl, ho2, hb2, _, _⟩
      go_wp2_with fail
      refine (rseal_any _ _ (W.nums (T.nums l)) _ (Rd.of_own ho2) (W.nums_byt _) (by have := HL2.out; omega)).mono ?_
      rintro e w3 ⟨A3, c3, rfl, ho3, hb3, h1, h2⟩
      go_wp2_with fail
      go_ret
      have hs1 := hb.size
      have hs2 := hb2.size
      refine ⟨A3, c3, rfl, ?_, hb.trans ((hb2.mono hs1).trans (hb3.mono (Nat.le_trans hs1 hs2))), h1, h2⟩
      refine ⟨ho3.1, ?_⟩
      rcases ho3.2 with h | ⟨g, cap, cur, hv, hbg, hg⟩
      · exact .inl h
      · exact .inr ⟨g, cap, cur, hv, by omega, hg⟩
end Go.Proofs.Yteindickckcdhaa
