/- walk: the document's Of -/
import Derived.Test.YtahhihhfjimppaaBdC
namespace Go.Proofs.Ytahhihhfjimppaa
open Go.RowKit
set_option linter.unusedSimpArgs false
set_option linter.unusedVariables false
set_option maxRecDepth 100000

/-- what the document's Of leaves -/
def ROfed (w : World) (l : List S.Five) (e : Ending) (w' : World) : Prop :=
  Below w.heap.size w w' ∧ ((S.run S.init l = none ∧ e = .returned (.tuple #[.slice none 0 0, .int .i64 1])) ∨
    ∃ s A cap, S.run S.init l = some s ∧ e = .returned (.tuple #[.slice A s.n cap, .int .i64 0]) ∧ Rd w' w'.heap.size A (tcs s.places))
theorem Rd.of_ownk {w : World} {A : Option Addr} {base : Nat} {e : TypeId} {size n c : Nat} {xs : List Value} (h : w.ownsRow base e size (.slice A n c) n xs) : Rd w w.heap.size A xs := by
  rcases h.2 with ⟨hv, hn⟩ | ⟨g, cap, cur, hv, _, hg, _⟩
  · left
    have := h.1
    rw [hn, Nat.zero_mul] at this
    exact List.eq_nil_of_length_eq_zero this
  · injection hv with hA
    subst hA
    refine .inr ⟨g, 0, rfl, (Array.getElem?_eq_some_iff.1 hg).1, fun j u hu => ?_⟩
    have := h.cells (g := g) rfl j u hu
    rw [Addr.add_lit] at this
    exact this
theorem own_formk {w : World} {base : Nat} {e : TypeId} {v : Value} {size n : Nat} {xs : List Value} (h : w.ownsRow base e size v n xs) : ∃ A c, v = .slice A n c := by
  rcases h.2 with ⟨hv, hn⟩ | ⟨g, cap, cur, hv, _, _, h1, h2, _⟩
  · exact ⟨none, 0, by rw [hv, hn]⟩
  · exact ⟨_, cap, hv⟩
theorem run_on {l : List S.Five} {k : Nat} {s t : S.State} (hk : k < l.length) (h : S.run S.init l = S.run s (l.drop k)) (ht : S.run S.init l = some t) : s.ok l[k] ∧ S.run S.init l = S.run (s.turn l[k].1) (l.drop (k + 1)) := by
  have h2 := S.run_drop hk s
  by_cases hok : s.ok l[k]
  · rw [if_pos hok] at h2
    exact ⟨hok, h.trans h2⟩
  · rw [if_neg hok, ← h, ht] at h2
    cases h2

set_option maxHeartbeats 4000000 in
theorem rof_any (l : List S.Five) (A : Option Addr) (c : Nat) (w : World) (hr : Rd w w.heap.size A (fcs l)) (hl : l.length ≤ 60) :
    Calls Try.prog 8 #[.slice A l.length c] w (ROfed w l) := by
  obtain ⟨i0, hi, hz0, hz1, hz2⟩ := info_parts info_two
  go_enter Try.func8, Try.ntmps8
  go_wp2_with (go_at_call 17; refine (rmay_any l A c _ hr hl).mono ?_)
  rintro e w1 ⟨rfl, b1⟩
  rcases S.mayN_cases l with ⟨h0, h1⟩ | ⟨t, h0, h1⟩
  · have HR := Lib.hid h0
    rw [h1]
    clear h0 h1
    go_wp2_with fail
    refine bodyPost_ret (v := .tuple #[.slice none 0 0, .int .i64 1]) (by simp [results, Try.results8, go_sem]) rfl ?_
    exact ⟨b1, .inl ⟨HR.out, rfl⟩⟩
  · have HT := Lib.hid h0
    rw [h1]
    have hn9 : t.n ≤ 181 := by have := S.run_n h0; simp [S.init] at this; omega
    clear h0 h1
    have q0 : decide ((t.n : Int) < 0) = false := by simp
    go_wp2_with fail
    have r1 := hr.on b1
    have s1 : (w1.alloc (.cells #[.int .i64 0] 3)).heap.size = w1.heap.size + 1 := by simp
    have o1 : Rd (w1.alloc (.cells #[.int .i64 0] 3)) (w1.alloc (.cells #[.int .i64 0] 3)).heap.size (some ⟨w1.heap.size, 0, none⟩) (ns [0]) := (Own.new w1 3 1 1 #[.int .i64 0] (by omega) rfl).rd
    have o2 : Rd ((w1.alloc (.cells #[.int .i64 0] 3)).alloc (.cells #[.int .i64 0] 3)) ((w1.alloc (.cells #[.int .i64 0] 3)).alloc (.cells #[.int .i64 0] 3)).heap.size (some ⟨w1.heap.size + 1, 0, none⟩) (ns [0]) := by rw [← s1]; exact (Own.new _ 3 1 1 #[.int .i64 0] (by omega) rfl).rd
    have o3 := o1.on (bel_new _ (.cells #[.int .i64 0] 3))
    have bb : Below w.heap.size w ((w1.alloc (.cells #[.int .i64 0] 3)).alloc (.cells #[.int .i64 0] 3)) := (b1.alloc b1.size _).alloc (by have := b1.size; simp; omega) _
    clear r1 o1 s1
    go_loopg [5, 6, 7] l.length (fun gk ev hv ii wr => ∃ (k : Nat) (s : S.State) (e h : List Nat) (Ae Ah : Option Addr) (ce ch : Nat), k + gk = l.length ∧ ev = .slice Ae e.length ce ∧ hv = .slice Ah h.length ch ∧ ii = .int .i64 k ∧ Rd wr wr.heap.size Ae (ns e) ∧ Rd wr wr.heap.size Ah (ns h) ∧ Below w.heap.size w wr ∧ Hid (S.Ords s e h) ∧ Hid s.Good ∧ s.n ≤ 1 + 3 * k ∧ Hid (e.length = s.n ∧ h.length = s.n) ∧ Hid (S.run S.init l = S.run s (l.drop k)))
    case atStart => exact ⟨0, S.init, [0], [0], _, _, _, _, by omega, rfl, rfl, rfl, o3, o2, bb, Lib.hid S.init_ord, Lib.hid S.init_good, by decide, Lib.hid ⟨rfl, rfl⟩, Lib.hid rfl⟩
    case round =>
      obtain ⟨k, s, e, h, Ae, Ah, ce, ch, hk, rfl, rfl, rfl, rE, rH, hb, HO, HG, hn, HL, HR⟩ := hrel
      clear o2 o3 bb b1
      have HK := Lib.hid hk
      by_cases hlt : k < l.length
      · clear hk
        have hltI : (k : Int) < (l.length : Int) := by omega
        have hrw := hr.below hb
        have hsz := hb.size
        obtain ⟨bA, oA, rfl, hbA, f0, f1, f2, f3, f4⟩ := hrw.five hlt
        have hbA2 : bA < wr.heap.size := Nat.lt_of_lt_of_le hbA hb.size
        have HOK := Lib.hid (run_on hlt HR.out HT.out)
        clear hrw
        generalize l[k] = f at *
        obtain ⟨x0, x1, x2, x3, x4⟩ := f
        simp only at f0 f1 f2 f3 f4
        have hn2 : s.n ≤ 190 := by omega
        have hel : e.length ≤ 190 := by have := HL.out; omega
        have hhl : h.length ≤ 190 := by have := HL.out; omega
        by_cases k1 : x0 = 1
        · subst k1
          obtain ⟨a, b, c', d, he, ha, hb', hc, hd, ho⟩ := S.fork_ords HG.out HO.out HOK.out.1 rfl
          simp only [Prod.mk.injEq] at he
          obtain ⟨_, rfl, rfl, rfl, rfl⟩ := he
          have HO2 := Lib.hid ho
          clear ho
          go_wp2_with fail
          have bk0 := Blk.new wr 59 #[.int .i64 1, .int .i64 (a : Int), .int .i64 (b : Int), .int .i64 (c' : Int), .int .i64 (d : Int)]
          have b2 := bel_new wr (.cells #[.int .i64 1, .int .i64 (a : Int), .int .i64 (b : Int), .int .i64 (c' : Int), .int .i64 (d : Int)] 59)
          replace rE := rE.on b2
          replace rH := rH.on b2
          replace hb := hb.trans (b2.mono hsz)
          clear b2 f0 f1 f2 f3 f4
          generalize wr.alloc (.cells #[.int .i64 1, .int .i64 (a : Int), .int .i64 (b : Int), .int .i64 (c' : Int), .int .i64 (d : Int)] 59) = w2 at *
          generalize wr.heap.size = gB at *
          have hgB := bk0.lt
          have HKB : Hid (∀ w', Below w2.heap.size w2 w' → w'.cell? ⟨gB, 1, none⟩ = some (.int .i64 (a : Int)) ∧ w'.cell? ⟨gB, 2, none⟩ = some (.int .i64 (b : Int)) ∧ w'.cell? ⟨gB, 3, none⟩ = some (.int .i64 (c' : Int)) ∧ w'.cell? ⟨gB, 4, none⟩ = some (.int .i64 (d : Int))) :=
            Lib.hid (fun w' hb => ⟨(bk0.below hb hgB).cell 1, (bk0.below hb hgB).cell 2, (bk0.below hb hgB).cell 3, (bk0.below hb hgB).cell 4⟩)
          obtain ⟨c1, c2, c3, c4⟩ := HKB.out _ (Below.refl _ _)
          have hbl := S.beh_length_le e a b
          have hbh := S.beh_length_le h a c'
          clear bk0
          go_region_held3 (fun w' => w'.cell? ⟨gB, 1, none⟩ = some (.int .i64 (a : Int)) ∧ w'.cell? ⟨gB, 2, none⟩ = some (.int .i64 (b : Int)) ∧ w'.cell? ⟨gB, 3, none⟩ = some (.int .i64 (c' : Int)) ∧ w'.cell? ⟨gB, 4, none⟩ = some (.int .i64 (d : Int)))
            (first | exact HKB.out _ b4 | exact HKB.out _ b3 | go_keep)
            (first
              | (go_at_call 18; refine (behind_any (S.beh e a b) _ _ b c' _ r3 (by omega) (by omega) (by omega)).mono ?_; rintro e4 w4 ⟨A4, q4, rfl, r4, b4'⟩; have b4 := b3.trans (b4'.mono b3.size))
              | (go_at_call 18; refine (behind_any e _ _ a b _ rE.drew (by omega) (by omega) (by omega)).mono ?_; rintro e3 w3 ⟨A3, q3, rfl, r3, b3'⟩; have b3 := (Below.refl w2.heap.size w2).drew.trans b3'))
          replace rH := rH.on b4
          replace hb := hb.trans (b4.mono hb.size)
          have HKC : Hid (∀ w', Below w4.heap.size w4 w' → w'.cell? ⟨gB, 1, none⟩ = some (.int .i64 (a : Int)) ∧ w'.cell? ⟨gB, 2, none⟩ = some (.int .i64 (b : Int)) ∧ w'.cell? ⟨gB, 3, none⟩ = some (.int .i64 (c' : Int)) ∧ w'.cell? ⟨gB, 4, none⟩ = some (.int .i64 (d : Int))) :=
            Lib.hid (fun w' hb => HKB.out _ (b4.trans (hb.mono b4.size)))
          clear c1 c2 c3 c4 HKB b4 b4' b3 b3' r3 rE
          obtain ⟨c1, c2, c3, c4⟩ := HKC.out _ (Below.refl _ _)
          have HFE : Hid (S.fe e a b c' d = if S.plc (S.beh (S.beh e a b) b c') d < 0 then S.beh (S.beh (S.beh e a b) b c') c' d else S.beh (S.beh e a b) b c') := Lib.hid rfl
          have HFH : Hid (S.fh e h a b c' d = if S.plc (S.beh (S.beh e a b) b c') d < 0 then S.beh (S.beh (S.beh h a c') c' b) b d else S.beh (S.beh h a c') c' b) := Lib.hid rfl
          have hbl2 := S.beh_le3 e a b b c'
          have hbh2 := S.beh_le3 h a c' c' b
          clear hbl
          generalize S.beh (S.beh e a b) b c' = e2 at *
          go_wp2_with fail
          go_region_held3 (fun w' => w'.cell? ⟨gB, 1, none⟩ = some (.int .i64 (a : Int)) ∧ w'.cell? ⟨gB, 2, none⟩ = some (.int .i64 (b : Int)) ∧ w'.cell? ⟨gB, 3, none⟩ = some (.int .i64 (c' : Int)) ∧ w'.cell? ⟨gB, 4, none⟩ = some (.int .i64 (d : Int)))
            (first | exact HKC.out _ b6 | exact HKC.out _ b5 | go_keep)
            (first
              | (go_at_call 18; refine (behind_any (S.beh h a c') _ _ c' b _ r5 (by omega) (by omega) (by omega)).mono ?_; rintro e6 w6 ⟨A6, q6, rfl, r6, b6'⟩; have b6 := b5.trans (b6'.mono b5.size))
              | (go_at_call 18; refine (behind_any h _ _ a c' _ rH.drew (by omega) (by omega) (by omega)).mono ?_; rintro e5 w5 ⟨A5, q5, rfl, r5, b5'⟩; have b5 := (Below.refl w4.heap.size w4).drew.trans b5'))
          replace r4 := r4.on b6
          replace hb := hb.trans (b6.mono hb.size)
          obtain ⟨c5, c6, c7, c8⟩ := HKC.out _ b6
          have hgB6 : gB < w6.heap.size := World.block_lt_of_cell? w6 _ c5
          clear c1 c2 c3 c4 b6 b6' b5 b5' r5 rH HKC
          generalize S.beh (S.beh h a c') c' b = h2 at *
          go_wp2_with (go_at_call 19; refine (place_any e2 _ _ d _ r4 (by omega)).mono ?_)
          rintro e7 w7 ⟨rfl, rfl⟩
          by_cases hp : S.plc e2 d < 0
          · rw [if_pos hp] at HFE HFH
            have hpd : decide (S.plc e2 d < 0) = true := by simpa using hp
            clear hp
            generalize S.plc e2 d = pd at *
            go_wp2_with (go_at_call 18; refine (behind_any e2 _ _ c' d _ r4 (by omega) (by omega) (by omega)).mono ?_)
            rintro e8 w8 ⟨A8, q8, rfl, r8, b8⟩
            have c9 := (b8.cell (p := ⟨gB, 2, none⟩) hgB6).trans c6
            have c10 := (b8.cell (p := ⟨gB, 4, none⟩) hgB6).trans c8
            have hgB8 : gB < w8.heap.size := Nat.lt_of_lt_of_le hgB6 b8.size
            replace r6 := r6.on b8
            replace hb := hb.trans (b8.mono hb.size)
            clear c5 c6 c7 c8 b8 r4
            go_wp2_with (go_at_call 18; refine (behind_any h2 _ _ b d _ r6 (by omega) (by omega) (by omega)).mono ?_)
            rintro e9 w9 ⟨A9, q9, rfl, r9, b9⟩
            replace r8 := r8.on b9
            replace hb := hb.trans (b9.mono hb.size)
            clear c9 c10 b9 r6
            go_wp2_with fail
            go_roundg (gk - 1)
            case measure => have := HK.out; omega
            case rel =>
              have ho := HO2.out
              rw [HFE.out, HFH.out] at ho
              exact ⟨k + 1, s.turn 1, _, _, _, _, _, _, by have := HK.out; omega, rfl, rfl, by go_num, r8, r9, hb, Lib.hid ho, Lib.hid (HG.out.turn HOK.out.1), by have := S.turn_n s 1; omega, Lib.hid ⟨ho.le, ho.lh⟩, Lib.hid HOK.out.2⟩
          · rw [if_neg hp] at HFE HFH
            have hpd : decide (S.plc e2 d < 0) = false := by simpa using hp
            clear hp
            generalize S.plc e2 d = pd at *
            go_wp2_with fail
            go_roundg (gk - 1)
            case measure => have := HK.out; omega
            case rel =>
              have ho := HO2.out
              rw [HFE.out, HFH.out] at ho
              exact ⟨k + 1, s.turn 1, _, _, _, _, _, _, by have := HK.out; omega, rfl, rfl, by go_num, r4, r6, hb, Lib.hid ho, Lib.hid (HG.out.turn HOK.out.1), by have := S.turn_n s 1; omega, Lib.hid ⟨ho.le, ho.lh⟩, Lib.hid HOK.out.2⟩
        · have q1 : (x0 != 1) = true := by simpa using k1
          have HK1 := Lib.hid k1
          clear k1
          go_wp2_with fail
          have b2 := bel_new wr (.cells #[.int .i64 x0, .int .i64 x1, .int .i64 x2, .int .i64 x3, .int .i64 x4] 59)
          go_roundg (gk - 1)
          case measure => have := HK.out; omega
          case rel =>
            obtain ⟨o1, o2⟩ := S.ord_else HO.out HK1.out
            exact ⟨k + 1, s.turn x0, e, h, _, _, ce, ch, by have := HK.out; omega, rfl, rfl, by go_num, rE.on b2, rH.on b2, hb.trans (b2.mono hsz), Lib.hid o1, Lib.hid (HG.out.turn HOK.out.1), by rw [o2]; omega, Lib.hid (by rw [o2]; exact HL.out), Lib.hid HOK.out.2⟩
      · obtain rfl : gk = 0 := by omega
        have HST : Hid (t = s) := Lib.hid (by
          have h1 := HR.out
          rw [List.drop_of_length_le (by omega : l.length ≤ k), HT.out] at h1
          injection h1)
        have HLE : Hid (e.length = t.n ∧ h.length = t.n) := Lib.hid (by rw [HST.out]; exact HL.out)
        have HME : Hid (∀ i, i < t.n → S.plc e i = (e.idxOf i : Int) ∧ S.plc h i = (h.idxOf i : Int)) := Lib.hid (fun i hi => by
          rw [HST.out] at hi
          exact ⟨S.plc_in ((HO.out.me i).2 hi), S.plc_in ((HO.out.mh i).2 hi)⟩)
        have HPR : Hid (S.prs e h t.n = t.places) := Lib.hid (by rw [HST.out]; exact S.prs_places HG.out HO.out)
        have hel : e.length ≤ 1000 := by have := HLE.out; omega
        have hhl : h.length ≤ 1000 := by have := HLE.out; omega
        have hbs := hb.size
        clear hk
        obtain ⟨W0, rfl⟩ : ∃ W0, W0 = wr := ⟨wr, rfl⟩
        go_wp2_with fail
        go_loopg [9, 10] t.n (fun gk vv ii wr => ∃ i : Nat, i + gk = t.n ∧ ii = .int .i64 i ∧ wr.ownsRow W0.heap.size 65 2 vv i (tcs (S.prs e h i)) ∧ Below W0.heap.size W0 wr)
        case atStart => exact ⟨0, by omega, rfl, World.ownsRow_nil _ _ _ _, Below.refl _ _⟩
        case round =>
          obtain ⟨i, hi2, rfl, ho, hb2⟩ := hrel
          have HI := Lib.hid hi2
          by_cases hlt2 : i < t.n
          · clear hi2
            have hltI : (i : Int) < (t.n : Int) := by omega
            have rE2 := rE.on hb2
            have rH2 := rH.on hb2
            have hs2 := hb2.size
            have hp := HME.out i hlt2
            have HP1 := Lib.hid hp.1
            have HP2 := Lib.hid hp.2
            clear hp
            go_wp2_with (go_at_call 19; refine (place_any e _ _ i _ rE2 hel).mono ?_)
            rintro e7 w7 ⟨rfl, rfl⟩
            rw [HP1.out]
            have HT2 : Hid (tcs (S.prs e h (i + 1)) = tcs (S.prs e h i) ++ [.int .i64 (e.idxOf i : Int), .int .i64 (h.idxOf i : Int)]) := Lib.hid (by rw [S.prs_succ, tcs_append]; rfl)
            generalize e.idxOf i = pe at *
            go_wp2_with (go_at_call 19; refine (place_any h _ _ i _ rH2 hhl).mono ?_)
            rintro e8 w8 ⟨rfl, rfl⟩
            rw [HP2.out]
            generalize h.idxOf i = ph at *
            go_wp2_with (at_builtin; refine wpList_append_own_at _ rfl (.tmp 74) (.tmp 82) 34 rfl W0.heap.size 65 i0 _ 2 16 Try.underlying34 hi hz0 hz1 hz2 rfl (by omega) _ _ _ rfl (ho.alloc _) ⟨wr.heap.size, 0, none⟩ 1 1 [.int .i64 (pe : Int), .int .i64 (ph : Int)] rfl rfl ?c1 ?c2 ?c3 ?c4 ?c5 ?_)
            case c1 => exact World.news_of_block (cs := #[.int .i64 (pe : Int), .int .i64 (ph : Int)]) (heap_alloc_new _ _)
            case c2 => simp [Value.oneCell']
            case c3 => simp only [maxLen]; omega
            case c4 => omega
            case c5 => simp; omega
            intro v3 w3 ho3 hg3 _ _
            have hb3 : Below W0.heap.size W0 w3 := (hb2.alloc hs2 _).grown hg3 (by simp; omega) fun k hk => (ho.lt k hk).1
            rw [← HT2.out] at ho3
            clear hg3 ho HT2
            go_wp2_with fail
            go_roundg (gk - 1)
            case measure => have := HI.out; omega
            case rel => exact ⟨i + 1, by have := HI.out; omega, by go_num, ho3, hb3⟩
          · obtain rfl : gk = 0 := by omega
            obtain rfl : i = t.n := by omega
            obtain ⟨A', q', hv⟩ := own_formk ho
            subst hv
            have r9 := Rd.of_ownk ho
            rw [HPR.out] at r9
            have hb9 := hb.trans (hb2.mono hbs)
            clear hi2
            go_wp2_with fail
            refine bodyPost_ret (v := .tuple #[.slice A' t.n q', .int .i64 0]) (by simp [results, Try.results8, go_sem]) rfl ?_
            exact ⟨hb9, .inr ⟨t, A', q', HT.out, rfl, r9⟩⟩
end Go.Proofs.Ytahhihhfjimppaa
