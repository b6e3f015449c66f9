/- SpDeep walked -/
import Derived.Test.YtfedddkjobmocaaSpH
namespace Go.Proofs.Ytfedddkjobmocaa
open Go.RowKit
set_option linter.unusedSimpArgs false
set_option linter.unusedVariables false
set_option maxRecDepth 100000

namespace S
def dst : Nat → Int
  | 0 => 0
  | k + 1 => 3 * (k : Int) + 1
def forks : Nat → List Five
  | 0 => []
  | k + 1 => forks k ++ [(1, dst k, 3 * (k : Int) + 1, 3 * (k : Int) + 2, 3 * (k : Int) + 3)]
/-- which strand there is behind j of the n ends -/
def bst (n : Nat) : Nat → Int
  | 0 => dst n
  | j + 1 => 3 * ((n : Int) - 1 - j) + 3
def backs (n : Nat) : Nat → List Five
  | 0 => forks n
  | j + 1 => backs n j ++ [(2, bst n j, 0, 0, 3 * ((n : Int) - 1 - j) + 3)] ++ [(3, 3 * ((n : Int) - 1 - j) + 2, 0, 0, 3 * ((n : Int) - 1 - j) + 3)]
theorem forks_length (n : Nat) : (forks n).length = n := by induction n with | zero => rfl | succ n ih => simp [forks, ih]
theorem backs_length (n j : Nat) : (backs n j).length = n + 2 * j := by
  induction j with
  | zero => simp [backs, forks_length]
  | succ j ih => simp [backs, ih]; omega
def deepOk (n : Nat) : Bool :=
  match run init (backs n n) with
  | none => false
  | some s => s.n == 3 * n + 1 &&
      ((List.range (3 * n + 1)).all fun a => (a == 3 || S.ahead s.places a 3) && (a == 0 || S.ahead s.places 0 a)) &&
      ((List.range n).all fun i => (List.range i).all fun k => S.par s.places (3 * (i : Int) + 1) (3 * (k : Int) + 2) && S.par s.places (3 * (i : Int) + 3) (3 * (k : Int) + 2))
theorem deep_ok : ∀ n, n < 13 → n ≠ 0 → deepOk n = true := by decide +kernel
theorem deep_facts (n : Nat) (h1 : 1 ≤ n) (h2 : n ≤ 12) : ∃ s, run init (backs n n) = some s ∧ s.n = 3 * n + 1 ∧ (∀ a : Nat, a < 3 * n + 1 → a ≠ 3 → S.ahead s.places a 3 = true) ∧ (∀ a : Nat, a < 3 * n + 1 → a ≠ 0 → S.ahead s.places 0 a = true) ∧
    ∀ i k : Nat, i < n → k < i → S.par s.places (3 * (i : Int) + 1) (3 * (k : Int) + 2) = true ∧ S.par s.places (3 * (i : Int) + 3) (3 * (k : Int) + 2) = true := by
  have h := deep_ok n (by omega) (by omega)
  unfold deepOk at h
  cases hr : run init (backs n n) with
  | none => rw [hr] at h; cases h
  | some s =>
    rw [hr] at h
    simp only [Bool.and_eq_true, beq_iff_eq, List.all_eq_true, List.mem_range, Bool.or_eq_true] at h
    obtain ⟨⟨e1, e2⟩, e3⟩ := h
    refine ⟨s, rfl, e1, fun a ha hne => ?_, fun a ha hne => ?_, fun i k hi hk => e3 i hi k hk⟩
    · rcases (e2 a ha).1 with h | h
      · exact absurd h hne
      · exact h
    · rcases (e2 a ha).2 with h | h
      · exact absurd h hne
      · exact h
end S

theorem info_split : (Try.prog.info? 37).map (fun i => (i.zero, i.size, i.bytes)) = some (some (.agg #[.int .i64 0, .int .i64 0, .int .i64 0, .int .i64 0, .int .i64 0]), 5, 40) := by kernel_rfl
theorem fcs_append (l m : List S.Five) : fcs (l ++ m) = fcs l ++ fcs m := by simp [fcs]

set_option maxHeartbeats 4000000 in
theorem deep_walk (a0 : Int) (w : World) (h0 : 0 ≤ a0) (h255 : a0 ≤ 255) :
    Calls Try.prog 7 #[.int .u8 a0] w (fun e w' => e = .returned (.bool true) ∧ Below w.heap.size w w') := by
  have hm1 : 0 ≤ a0 % 12 := by omega
  have hm2 : a0 % 12 < 12 := by omega
  obtain ⟨i0, hi, hz0, hz1, hz2⟩ := info_parts info_split
  go_enter Try.func7, Try.ntmps7
  go_wp2_with (go_at_call 8; refine (awake_any _).mono ?_)
  rintro e w1 ⟨rfl, b1⟩
  go_wp2_with fail
  obtain ⟨n, hn⟩ : ∃ n : Nat, 1 + a0 % 12 = (n : Int) := ⟨(1 + a0 % 12).toNat, by omega⟩
  have hn1 : 1 ≤ n := by omega
  have hn2 : n ≤ 12 := by omega
  rw [hn]
  generalize a0 % 12 = am at *
  have HN := Lib.hid hn
  clear hn hm1 hm2
  go_loopg [5, 6, 7] n (fun gk vv ss ii wr => ∃ k : Nat, k + gk = n ∧ ss = .int .i64 (S.dst k) ∧ ii = .int .i64 k ∧ wr.ownsRow w.heap.size 37 5 vv k (fcs (S.forks k)) ∧ Below w.heap.size w wr)
  case atStart => exact ⟨0, by omega, rfl, rfl, World.ownsRow_nil _ _ _ _, b1⟩
  case round =>
    obtain ⟨k, hk, rfl, rfl, ho, hb⟩ := hrel
    have HK := Lib.hid hk
    by_cases hlt : k < n
    · clear hk
      have hltI : (k : Int) < (n : Int) := by omega
      have hd : 0 ≤ S.dst k ∧ S.dst k ≤ 40 := by cases k <;> simp [S.dst] <;> omega
      have HD : Hid (S.dst k = S.dst k) := Lib.hid rfl
      have hf : fcs (S.forks (k + 1)) = fcs (S.forks k) ++ [.int .i64 1, .int .i64 (S.dst k), .int .i64 (3 * (k : Int) + 1), .int .i64 (3 * (k : Int) + 2), .int .i64 (3 * (k : Int) + 3)] := by rw [S.forks, fcs_append]; rfl
      have HF := Lib.hid hf
      have HD1 : Hid (S.dst (k + 1) = 3 * (k : Int) + 1) := Lib.hid rfl
      clear hf
      generalize S.dst k = d at *
      have hs := hb.size
      go_wp2_with (at_builtin; refine wpList_append_own_at _ rfl (.tmp 24) (.tmp 36) 22 rfl w.heap.size 37 i0 _ 5 40 Try.underlying22 hi hz0 hz1 hz2 rfl (by omega) _ _ _ rfl (ho.alloc _) ⟨wr.heap.size, 0, none⟩ 1 1 [.int .i64 1, .int .i64 d, .int .i64 (3 * (k : Int) + 1), .int .i64 (3 * (k : Int) + 2), .int .i64 (3 * (k : Int) + 3)] rfl rfl ?c1 ?c2 ?c3 ?c4 ?c5 ?_)
      case c2 => simp [Value.oneCell']
      case c3 => simp only [maxLen]; omega
      case c4 => omega
      case c5 => omega
      intro v2 w2 ho2 hg2 _ _
      rw [← HF.out] at ho2
      have hb2 : Below w.heap.size w w2 := (hb.alloc (by omega) _).grown hg2 (by simp; omega) fun k hk => (ho.lt k hk).1
      clear ho hb hg2
      go_wp2_with fail
      go_roundg (gk - 1)
      case measure => have := HK.out; omega
      case rel => exact ⟨k + 1, by have := HK.out; omega, by rw [HD1.out], by go_num, ho2, hb2⟩
    · obtain rfl : n = k := by omega
      clear hk b1
      have hf0 : fcs (S.forks n) = fcs (S.backs n 0) := rfl
      have hd0 : S.dst n = S.bst n 0 := rfl
      rw [hf0] at ho
      rw [hd0]
      clear hf0 hd0
      have hnI : (1 : Int) ≤ (n : Int) := by omega
      go_wp2_with fail
      go_loopg [5, 6, 8] n (fun gk vv ss ii wr => ∃ j m : Nat, j + gk = n ∧ m = n + 2 * j ∧ ss = .int .i64 (S.bst n j) ∧ ii = .int .i64 ((n : Int) - 1 - j) ∧ wr.ownsRow w.heap.size 37 5 vv m (fcs (S.backs n j)) ∧ Below w.heap.size w wr)
      case atStart => exact ⟨0, n, by omega, by omega, rfl, by simp, ho, hb⟩
      case round =>
        clear ho hb
        obtain ⟨j, m, hj, hm, rfl, rfl, ho, hb⟩ := hrel
        have HJ := Lib.hid hj
        have HM := Lib.hid hm
        have hm40 : m ≤ 36 := by omega
        clear hm
        by_cases hlt : j < n
        · clear hj
          have hlt1 : 0 ≤ (n : Int) - 1 - j := by omega
          have hlt2 : (n : Int) - 1 - j ≤ 11 := by omega
          have hd : 0 ≤ S.bst n j ∧ S.bst n j ≤ 40 := by cases j <;> simp [S.bst] <;> (try (cases n <;> simp [S.dst])) <;> omega
          have hf : fcs (S.backs n (j + 1)) = fcs (S.backs n j) ++ [.int .i64 2, .int .i64 (S.bst n j), .int .i64 0, .int .i64 0, .int .i64 (3 * ((n : Int) - 1 - j) + 3), .int .i64 3, .int .i64 (3 * ((n : Int) - 1 - j) + 2), .int .i64 0, .int .i64 0, .int .i64 (3 * ((n : Int) - 1 - j) + 3)] := by rw [S.backs, fcs_append, fcs_append, List.append_assoc]; rfl
          have HF := Lib.hid hf
          have HD1 : Hid (S.bst n (j + 1) = 3 * ((n : Int) - 1 - j) + 3) := Lib.hid rfl
          have HI1 : Hid ((n : Int) - 1 - ((j + 1 : Nat) : Int) = (n : Int) - 1 - j - 1) := Lib.hid (by omega)
          clear hf
          generalize S.bst n j = d at *
          generalize (n : Int) - 1 - (j : Int) = ii at *
          have hs := hb.size
          go_wp2_with (at_builtin; refine wpList_append_own_at _ rfl (.tmp 47) (.tmp 53) 22 rfl w.heap.size 37 i0 _ 5 40 Try.underlying22 hi hz0 hz1 hz2 rfl (by omega) _ _ _ rfl (ho.alloc _) ⟨wr.heap.size, 0, none⟩ 1 1 [.int .i64 2, .int .i64 d, .int .i64 0, .int .i64 0, .int .i64 (3 * ii + 3)] rfl rfl ?e1 ?e2 ?e3 ?e4 ?e5 ?_)
          case e1 => exact World.news_of_block (cs := #[.int .i64 2, .int .i64 d, .int .i64 0, .int .i64 0, .int .i64 (3 * ii + 3)]) (heap_alloc_new _ _)
          case e2 => simp [Value.oneCell']
          case e3 => simp only [maxLen]; omega
          case e4 => omega
          case e5 => simp; omega
          intro v2 w2 ho2 hg2 _ _
          have hb2 : Below w.heap.size w w2 := (hb.alloc (by omega) _).grown hg2 (by simp; omega) fun k hk => (ho.lt k hk).1
          clear ho hb hg2
          have hs2 := hb2.size
          go_wp2_with (at_builtin; refine wpList_append_own_at _ rfl (.tmp 55) (.tmp 63) 22 rfl w.heap.size 37 i0 _ 5 40 Try.underlying22 hi hz0 hz1 hz2 rfl (by omega) _ _ _ rfl (ho2.alloc _) ⟨w2.heap.size, 0, none⟩ 1 1 [.int .i64 3, .int .i64 (3 * ii + 2), .int .i64 0, .int .i64 0, .int .i64 (3 * ii + 3)] rfl rfl ?d1 ?d2 ?d3 ?d4 ?d5 ?_)
          case d1 => exact World.news_of_block (cs := #[.int .i64 3, .int .i64 (3 * ii + 2), .int .i64 0, .int .i64 0, .int .i64 (3 * ii + 3)]) (heap_alloc_new _ _)
          case d2 => simp [Value.oneCell']
          case d3 => simp only [maxLen]; omega
          case d4 => omega
          case d5 => simp; omega
          intro v3 w3 ho3 hg3 _ _
          rw [← HF.out] at ho3
          have hb3 : Below w.heap.size w w3 := (hb2.alloc (by omega) _).grown hg3 (by simp; omega) fun k hk => (ho2.lt k hk).1
          clear ho2 hb2 hg3
          go_wp2_with fail
          go_roundg (gk - 1)
          case measure => have := HJ.out; omega
          case rel => exact ⟨j + 1, m + 1 + 1, by have := HJ.out; omega, by have := HM.out; omega, by rw [HD1.out], by rw [HI1.out], ho3, hb3⟩
        · obtain rfl : n = j := by omega
          clear hj
          have hltI : (n : Int) - 1 - n < 0 := by omega
          obtain ⟨g, cap, rfl, _, _⟩ := ho.form (by have := HM.out; omega)
          have HBL := Lib.hid (S.backs_length n n)
          have rB := Own.rdk (w := wr) (e := 37) (size := 5) (g := g) (n := m) (cap := cap) (xs := fcs (S.backs n n)) (by
            refine ⟨ho.1, ?_⟩
            rcases ho.2 with ⟨h, _⟩ | ⟨g', c', cur, h, _, h'⟩
            · cases h
            · exact .inr ⟨g', c', cur, h, Nat.zero_le _, h'⟩)
          obtain ⟨s, hs, hsn, f1, f2, f3⟩ := S.deep_facts n hn1 hn2
          have hPn := (S.run_good S.init_good hs).places_length
          rw [hsn] at hPn
          have HS := Lib.hid hs
          have HSN := Lib.hid hsn
          have hml : m = (S.backs n n).length := by rw [HM.out, HBL.out]
          have HF1 := Lib.hid f1
          have HF2 := Lib.hid f2
          have HF3 := Lib.hid f3
          have hP40 : s.places.length ≤ 1000 := by omega
          have HPN := Lib.hid hPn
          subst hml
          have hb40 : (S.backs n n).length ≤ 40 := by have := HBL.out; omega
          clear ho hs hsn f1 f2 f3 hPn HM
          go_wp2_with (go_at_call 9; refine (of_any (S.backs n n) _ _ _ rB hb40).mono ?_)
          rintro e w2 ⟨b2, ⟨h, rfl⟩ | ⟨s', g', cap', h, rfl, ho, _⟩⟩
          · rw [HS.out] at h; cases h
          · obtain rfl : s = s' := by rw [HS.out] at h; injection h
            have r2 := ho.rdk
            replace b2 := hb.trans (b2.mono hb.size)
            clear h HS ho hb rB
            have e1 : s.n = s.places.length := by rw [HSN.out, HPN.out]
            rw [e1]
            clear e1 HSN
            generalize s.places = P at *
            have q1 : ((P.length : Int) != 3 * (n : Int) + 1) = false := by have := HPN.out; simp; omega
            have hPa : P.length ≤ 3 * n + 1 := by have := HPN.out; omega
            have hPb : 3 * n + 1 ≤ P.length := by have := HPN.out; omega
            clear HPN
            go_wp2_with fail
            go_loopg [11] P.length (fun gk ii wr => ∃ a : Nat, a + gk = P.length ∧ ii = .int .i64 a ∧ Below w2.heap.size w2 wr)
            case atStart => exact ⟨0, by omega, rfl, Below.refl _ _⟩
            case round =>
              obtain ⟨a, ha, rfl, hb⟩ := hrel
              have HA := Lib.hid ha
              by_cases hlt : a < P.length
              · clear ha
                have hltI : (a : Int) < (P.length : Int) := by omega
                have r3 := r2.on hb
                by_cases h3 : a = 3
                · subst h3
                  have F2 := Lib.hid (HF2.out 3 (by omega) (by omega))
                  go_wp2_with (go_at_call 12; refine (ahead_any P _ _ 0 ((3 : Nat) : Int) _ r3 hP40).mono ?_)
                  rintro e wx ⟨rfl, bx⟩
                  rw [F2.out]
                  replace r3 := r3.on bx
                  replace hb := hb.trans (bx.mono hb.size)
                  clear bx
                  go_wp2_with fail
                  go_roundg (gk - 1)
                  case measure => have := HA.out; omega
                  case rel => exact ⟨3 + 1, by have := HA.out; omega, by go_num, hb⟩
                · have q3 : ((a : Int) != 3) = true := by simp; omega
                  have F1 := Lib.hid (HF1.out a (by omega) h3)
                  clear h3
                  by_cases h4 : a = 0
                  · subst h4
                    go_wp2_with (go_at_call 12; refine (ahead_any P _ _ ((0 : Nat) : Int) 3 _ r3 hP40).mono ?_)
                    rintro e wx ⟨rfl, bx⟩
                    rw [F1.out]
                    replace r3 := r3.on bx
                    replace hb := hb.trans (bx.mono hb.size)
                    clear bx
                    go_wp2_with fail
                    go_roundg (gk - 1)
                    case measure => have := HA.out; omega
                    case rel => exact ⟨0 + 1, by have := HA.out; omega, by go_num, hb⟩
                  · have q4 : 0 < a := by omega
                    have q4' : (0 : Int) < (a : Int) := by omega
                    have F2 := Lib.hid (HF2.out a (by omega) h4)
                    clear h4
                    go_wp2_with (go_at_call 12; refine (ahead_any P _ _ (a : Int) 3 _ r3 hP40).mono ?_)
                    rintro e wx ⟨rfl, bx⟩
                    rw [F1.out]
                    replace r3 := r3.on bx
                    replace hb := hb.trans (bx.mono hb.size)
                    clear bx
                    go_wp2_with (go_at_call 12; refine (ahead_any P _ _ 0 (a : Int) _ r3 hP40).mono ?_)
                    rintro e wx ⟨rfl, bx⟩
                    rw [F2.out]
                    replace r3 := r3.on bx
                    replace hb := hb.trans (bx.mono hb.size)
                    clear bx
                    go_wp2_with fail
                    go_roundg (gk - 1)
                    case measure => have := HA.out; omega
                    case rel => exact ⟨a + 1, by have := HA.out; omega, by go_num, hb⟩
              · obtain rfl : gk = 0 := by omega
                clear ha
                go_wp2_with fail
                obtain ⟨wo, rfl⟩ : ∃ wo : World, wo = wr := ⟨_, rfl⟩
                go_loopg [12] n (fun gk ii wr => ∃ i : Nat, i + gk = n ∧ ii = .int .i64 i ∧ Below w2.heap.size w2 wr)
                case atStart => exact ⟨0, by omega, rfl, hb⟩
                case round =>
                  clear hb
                  obtain ⟨i, hi, rfl, hb⟩ := hrel
                  obtain ⟨G0, rfl⟩ : ∃ G0 : Nat, G0 = gk := ⟨_, rfl⟩
                  have HI := Lib.hid hi
                  by_cases hlti : i < n
                  · clear hi
                    have hltiI : (i : Int) < (n : Int) := by omega
                    go_wp2_with fail
                    obtain ⟨wo, rfl⟩ : ∃ wo : World, wo = wr := ⟨_, rfl⟩
                    go_loopg [13] i (fun gk kk wr => ∃ k : Nat, k + gk = i ∧ kk = .int .i64 k ∧ Below w2.heap.size w2 wr)
                    case atStart => exact ⟨0, by omega, rfl, hb⟩
                    case round =>
                      clear hb
                      obtain ⟨k, hk, rfl, hb⟩ := hrel
                      have HB := Lib.hid hk
                      by_cases hltk : k < i
                      · clear hk
                        have hltkI : (k : Int) < (i : Int) := by omega
                        have r3 := r2.on hb
                        obtain ⟨p1, p2⟩ := HF3.out i k hlti hltk
                        have F1 := Lib.hid p1
                        have F2 := Lib.hid p2
                        clear p1 p2
                        go_wp2_with (go_at_call 13; refine (par_any P _ _ (3 * (i : Int) + 1) (3 * (k : Int) + 2) _ r3 hP40).mono ?_)
                        rintro e wx ⟨rfl, bx⟩
                        rw [F1.out]
                        replace r3 := r3.on bx
                        replace hb := hb.trans (bx.mono hb.size)
                        clear bx
                        go_wp2_with (go_at_call 13; refine (par_any P _ _ (3 * (i : Int) + 3) (3 * (k : Int) + 2) _ r3 hP40).mono ?_)
                        rintro e wx ⟨rfl, bx⟩
                        rw [F2.out]
                        replace r3 := r3.on bx
                        replace hb := hb.trans (bx.mono hb.size)
                        clear bx
                        go_wp2_with fail
                        go_roundg (gk - 1)
                        case measure => have := HB.out; omega
                        case rel => exact ⟨k + 1, by have := HB.out; omega, by go_num, hb⟩
                      · obtain rfl : gk = 0 := by omega
                        clear hk
                        go_wp2_with fail
                        go_roundg (G0 - 1)
                        case measure => have := HI.out; omega
                        case rel => exact ⟨i + 1, by have := HI.out; omega, by go_num, hb⟩
                  · obtain rfl : G0 = 0 := by omega
                    clear hi
                    go_wp2_with fail
                    go_ret
                    exact ⟨rfl, b2.trans (hb.mono b2.size)⟩
end Go.Proofs.Ytfedddkjobmocaa
