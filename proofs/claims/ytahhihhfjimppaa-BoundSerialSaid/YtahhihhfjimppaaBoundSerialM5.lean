/- Texts for the law BoundSerial, part 5: no statement of its own, lemmas for the proof; their conditions stand in them. -/
import Derived.Test.YtahhihhfjimppaaBoundSerialM4
import Derived.Deep.DeepCutAuto
/- walk: Chain -/
namespace Go.Proofs.Ytahhihhfjimppaa
open Go.RowKit
set_option linter.unusedSimpArgs false
set_option linter.unusedVariables false
set_option maxRecDepth 100000

/-- an elision, as a value -/
structure El where
  e0 : Int
  e1 : Int
  A2 : Option Addr
  n2 : Nat
  c2 : Nat
  A3 : Option Addr
  n3 : Nat
  c3 : Nat
  A4 : Option Addr
  n4 : Nat
  c4 : Nat
  A5 : Option Addr
  n5 : Nat
  c5 : Nat
  A6 : Option Addr
  n6 : Nat
  c6 : Nat
  A7 : Option Addr
  n7 : Nat
  c7 : Nat
  e8 : Int
  e9 : Int
  A10 : Option Addr
  n10 : Nat
  c10 : Nat
def El.cs (e : El) : Array Value := #[.int .i64 e.e0, .int .i64 e.e1, .slice e.A2 e.n2 e.c2, .slice e.A3 e.n3 e.c3, .slice e.A4 e.n4 e.c4, .slice e.A5 e.n5 e.c5, .slice e.A6 e.n6 e.c6, .slice e.A7 e.n7 e.c7, .int .i64 e.e8, .int .i64 e.e9, .slice e.A10 e.n10 e.c10]
def El.val (e : El) : Value := .agg e.cs
/-- what an elision says: its strands, its splits -/
structure El.Is (e : El) (w : World) (us : List Nat) (l : List S.Five) : Prop where
  u : Strs w w.heap.size e.A6 us
  s : Rd w w.heap.size e.A7 (fcs l)
  nu : e.n6 = us.length
  nl : e.n7 = l.length
theorem El.Is.on {e : El} {w w' : World} {us : List Nat} {l : List S.Five} (h : e.Is w us l) (hb : Below w.heap.size w w') : e.Is w' us l := ⟨h.u.on hb, h.s.on hb, h.nu, h.nl⟩
theorem run_small {l : List S.Five} {s : S.State} (h : S.run S.init l = some s) (hl : l.length ≤ 60) : s.n ≤ 181 := by
  have := S.run_n h
  simp [S.init] at this
  omega

theorem lds_refl (P : List (Nat × Nat)) (x : Nat) : S.lds P x x = true := by simp [S.lds]
/-- what the walk of Chain wants of the ranks -/
theorem ranks_facts (P : List (Nat × Nat)) (us : List Nat) : (∀ r (h : r < (B.stN (S.lds P) us us.length).ranks.length), (∀ i ∈ ((B.stN (S.lds P) us us.length).ranks)[r], i < us.length) ∧ ((B.stN (S.lds P) us us.length).ranks)[r] ≠ [] ∧ ((B.stN (S.lds P) us us.length).ranks)[r].length ≤ us.length) := by
  intro r h
  have I := B.inv_stN (S.lds P) (lds_refl P) us us.length
  have hr := I.rows r h
  rw [List.getD_eq_getElem?_getD, List.getElem?_eq_getElem h, Option.getD_some] at hr
  refine ⟨fun i hi => ?_, fun e => ?_, (B.stN_okay (S.lds P) us us.length).rows _ (List.getElem_mem h)⟩
  · rw [hr, List.mem_filter] at hi
    exact List.mem_range.1 hi.1
  · obtain ⟨i, h1, h2⟩ := I.all r h
    have : i ∈ ((B.stN (S.lds P) us us.length).ranks)[r] := by rw [hr, List.mem_filter]; exact ⟨List.mem_range.2 h1, by simp [h2]⟩
    rw [e] at this
    simp at this
theorem Fam.rd {w : World} {B : Nat} {vs : List Value} {L : List (List Nat)} (h : Fam w B vs L) {r : Nat} (hr : r < L.length) : ∃ A c, vs[r]? = some (.slice A L[r].length c) ∧ Rd w w.heap.size A (ns L[r]) := by
  have hl := h.len
  have o := h.row r hr
  obtain ⟨A, c, hv⟩ := own_formk o
  rw [hv] at o
  exact ⟨A, c, by rw [List.getElem?_eq_getElem (by omega), hv], Rd.of_own o⟩

set_option maxHeartbeats 4000000 in
theorem chain_any (E : El) (us : List Nat) (l : List S.Five) (s : S.State) (w : World) (hE : E.Is w us l) (hl : l.length ≤ 60) (hu : us.length ≤ 100) (hrun : S.run S.init l = some s) (hs : ∀ u ∈ us, u < s.n) :
    Calls Try.prog 9 #[E.val] w (MadeN w (B.chain (S.lds s.places) us)) := by
  obtain ⟨i0, hi, hz0, hz1, hz2⟩ := info_parts info_int
  have hn9 := run_small hrun hl
  have hgd := S.run_good S.init_good hrun
  have hPl := hgd.places_length
  obtain ⟨hU, hS, hnu, hnl⟩ := hE
  obtain ⟨e0, e1, A2, n2, c2, A3, n3, c3, A4, n4, c4, A5, n5, c5, A6, n6, c6, A7, n7, c7, e8, e9, A10, n10, c10⟩ := E
  simp only at hU hS hnu hnl
  subst hnu hnl
  simp only [El.val, El.cs]
  go_enter Try.func9, Try.ntmps9
  go_upto_region 1 with (fail)
  have bk1 := Blk.new w 29 #[.int .i64 e0, .int .i64 e1, .slice A2 n2 c2, .slice A3 n3 c3, .slice A4 n4 c4, .slice A5 n5 c5, .slice A6 us.length c6, .slice A7 l.length c7, .int .i64 e8, .int .i64 e9, .slice A10 n10 c10]
  have b1 := bel_new w (.cells #[.int .i64 e0, .int .i64 e1, .slice A2 n2 c2, .slice A3 n3 c3, .slice A4 n4 c4, .slice A5 n5 c5, .slice A6 us.length c6, .slice A7 l.length c7, .int .i64 e8, .int .i64 e9, .slice A10 n10 c10] 29)
  generalize w.alloc (.cells #[.int .i64 e0, .int .i64 e1, .slice A2 n2 c2, .slice A3 n3 c3, .slice A4 n4 c4, .slice A5 n5 c5, .slice A6 us.length c6, .slice A7 l.length c7, .int .i64 e8, .int .i64 e9, .slice A10 n10 c10] 29) = w1 at *
  have bl1 : w.heap.size < w1.heap.size := bk1.lt
  have hU1 := hU.on b1
  have hS1 := hS.on b1
  have d7 := bk1.at_ (i := 7) rfl
  simp only [List.getElem_toArray, List.getElem_cons_succ, List.getElem_cons_zero] at d7
  have HRUN := Lib.hid hrun
  go_wp2_with (go_at_call 20; refine (of_any l A7 c7 _ hS1 hl).mono ?_)
  rintro e2 w2 ⟨b2, h | ⟨s', g, cap, hrun', rfl, ho, hg⟩⟩
  · rw [hrun] at h; cases h.1
  · obtain rfl : s' = s := by rw [hrun] at hrun'; injection hrun' with h; exact h.symm
    have hU2 := hU1.on b2
    have bk2 := bk1.below b2 bl1
    have rP := ho.rdk
    have b12 := b1.trans (b2.mono b1.size)
    clear hrun hrun' ho hg hU hS hU1 hS1 d7 bk1 b1 b2 HRUN hgd
    generalize s'.places = P at *
    generalize s'.n = nn at *
    subst hPl
    have d6 := bk2.at_ (i := 6) rfl
    simp only [List.getElem_toArray, List.getElem_cons_succ, List.getElem_cons_zero] at d6
    go_wp2_with (go_at_call 21; refine (ranked_any us P A6 (some ⟨g, 0, none⟩) c6 cap w2 hU2 rP hu (by omega) (fun u hu => by have := hs u hu; omega)).mono ?_)
    rintro e3 w3 ⟨v, vs, rfl, ho3, hf3, b3⟩
    have hLf := ranks_facts P us
    have HC : Hid (B.chain (S.lds P) us = if (B.stN (S.lds P) us us.length).ranks.length = 0 then [] else (B.chainFrom (S.lds P) us (B.stN (S.lds P) us us.length).ranks ((B.stN (S.lds P) us us.length).ranks.length - 1) (((B.stN (S.lds P) us us.length).ranks.getD ((B.stN (S.lds P) us us.length).ranks.length - 1) []).headD 0) [((B.stN (S.lds P) us us.length).ranks.getD ((B.stN (S.lds P) us us.length).ranks.length - 1) []).headD 0]).reverse) := Lib.hid rfl
    have hL9 := (B.stN_okay (S.lds P) us us.length).len
    generalize (B.stN (S.lds P) us us.length).ranks = L at *
    obtain ⟨AR, cR, hv⟩ := own_formk ho3
    subst hv
    have hU3 := hU2.on b3
    have bk3 := bk2.below b3 (World.block_lt_of_cell? w2 _ d6)
    have rP3 := rP.on b3
    have b13 := b12.trans (b3.mono b12.size)
    have hf4 := hf3
    have ho4 := ho3
    clear ho3 hf3 hU2 rP b12 d6 bk2 b3
    have HLF := Lib.hid hLf
    clear hLf
    by_cases h0 : L.length = 0
    · have HC2 : Hid (B.chain (S.lds P) us = []) := Lib.hid (by rw [HC.out, if_pos h0])
      have q0 : ((L.length : Int) == 0) = true := by rw [h0]; rfl
      have q1 : (L.length == 0) = true := by rw [h0]; rfl
      clear h0 HC
      go_wp2_with fail
      go_ret
      rw [HC2.out]
      exact ⟨none, 0, rfl, .inl rfl, b13⟩
    · obtain ⟨m, hm⟩ : ∃ m, L.length = m + 1 := ⟨L.length - 1, by omega⟩
      have HM := Lib.hid hm
      have HC2 : Hid (B.chain (S.lds P) us = (B.chainFrom (S.lds P) us L m ((L.getD m []).headD 0) [(L.getD m []).headD 0]).reverse) := Lib.hid (by rw [HC.out, if_neg h0, hm]; rfl)
      clear HC h0
      obtain ⟨gR, capR, hvR, _, _⟩ := ho4.form (by omega)
      simp only [Value.slice.injEq, true_and] at hvR
      obtain ⟨rfl, rfl⟩ := hvR
      have hgR : gR < w3.heap.size := (ho4.lt gR rfl).2
      have HRW : Hid (∀ k, k < m + 1 → ∀ h : k < L.length, ∃ A c, w3.cell? ⟨gR, k, none⟩ = some (.slice A L[k].length c) ∧ Rd w3 w3.heap.size A (ns L[k])) := Lib.hid (fun k hk h => by
        obtain ⟨A, c, h1, h2⟩ := hf4.rd h
        refine ⟨A, c, ?_, h2⟩
        rw [World.ownsRow.cellAt ho4 k (by omega), h1])
      have hm9 : m ≤ 100 := by omega
      rw [hm]
      clear ho4 hf4 hm hL9
      obtain ⟨Am, cm, cO, rM⟩ := HRW.out m (by omega) (by have := HM.out; omega)
      obtain ⟨hi1, hne, hl9⟩ := HLF.out m (by have := HM.out; omega)
      obtain ⟨n0, l0, hnl⟩ : ∃ n0 l0, L[m]'(by have := HM.out; omega) = n0 :: l0 := by
        cases h : L[m]'(by have := HM.out; omega) with
        | nil => exact absurd h hne
        | cons a b => exact ⟨a, b, rfl⟩
      rw [hnl] at cO rM hi1
      have hn0 := hi1 n0 (by simp)
      have HHD : Hid ((L.getD m []).headD 0 = n0) := Lib.hid (by rw [List.getD_eq_getElem?_getD, List.getElem?_eq_getElem (by have := HM.out; omega), Option.getD_some, hnl]; rfl)
      obtain ⟨bM, oM, rfl, hbM, cM⟩ := rM.at_ (k := 0) (u := .int .i64 (n0 : Int)) rfl
      simp only [Nat.add_zero] at cM
      have hl0 : (n0 :: l0).length = l0.length + 1 := rfl
      rw [hl0] at cO
      have hl0b : l0.length ≤ 100 := by rw [hnl] at hl9; simp at hl9; omega
      clear hl0 hl9 hne hi1 hnl rM
      have HCT : Hid (B.chain (S.lds P) us = (B.chainFrom (S.lds P) us L m n0 [n0]).reverse) := Lib.hid (by rw [HC2.out, HHD.out])
      clear HC2 HHD
      go_upto_region 10 with (fail)
      have o0 : (w3.alloc (.cells #[.int .i64 (n0 : Int)] 3)).ownsRow w3.heap.size 3 1 (.slice (some ⟨w3.heap.size, 0, none⟩) 1 1) 1 (ns [n0]) := World.ownsRow_lit w3 #[.int .i64 (n0 : Int)] 1 (Nat.le_refl _) (by simp [maxLen]) rfl
      have bb0 := bel_new w3 (.cells #[.int .i64 (n0 : Int)] 3)
      clear cO cM hbM
      go_loopg [6, 7, 8] m (fun gk s6 s7 s8 wr => ∃ (next : Nat) (pl : List Nat) (A : Option Addr) (c : Nat), s6 = .int .i64 next ∧ s7 = .slice A pl.length c ∧ s8 = .int .i64 ((gk : Int) - 1) ∧ wr.ownsRow w3.heap.size 3 1 s7 pl.length (ns pl) ∧ Below w3.heap.size w3 wr ∧ next < us.length ∧ pl.length + gk ≤ 200 ∧ gk ≤ m ∧ Hid (B.chainFrom (S.lds P) us L gk next pl = B.chainFrom (S.lds P) us L m n0 [n0]))
      case atStart => exact ⟨n0, [n0], _, _, rfl, rfl, by congr 1; omega, o0, bb0, hn0, by simp; omega, Nat.le_refl _, Lib.hid rfl⟩
      case round =>
        obtain ⟨next, pl, Ap, cp, rfl, rfl, rfl, op, hb, hnx, hpl, hkm, HCF⟩ := hrel
        clear o0 bb0
        cases gk with
        | zero =>
          have HT : Hid (pl = B.chainFrom (S.lds P) us L m n0 [n0]) := Lib.hid HCF.out
          have q0 : decide ((((0 : Nat) : Int) - 1) ≥ 0) = false := by decide
          have rp := Rd.of_own op
          have b14 := b13.trans (hb.mono b13.size)
          clear HCF
          go_wp2_with (go_at_call 23; refine (rising_any pl _ _ _ rp (by omega)).mono ?_)
          rintro e5 w5 ⟨A5', c5', rfl, r5, b5⟩
          have b15 := b14.trans (b5.mono b14.size)
          go_wp2_with fail
          go_ret
          rw [HCT.out, ← HT.out]
          exact ⟨A5', c5', by rw [List.length_reverse]; rfl, r5, b15⟩
        | succ k =>
          rw [show (((k + 1 : Nat) : Int) - 1) = (k : Int) by omega]
          obtain ⟨Ak, ck, cO, rM⟩ := HRW.out k (by omega) (by have := HM.out; omega)
          obtain ⟨hi1, hne, hl9⟩ := HLF.out k (by have := HM.out; omega)
          have HGD : Hid (L.getD k [] = L[k]'(by have := HM.out; omega)) := Lib.hid (by rw [List.getD_eq_getElem?_getD, List.getElem?_eq_getElem (by have := HM.out; omega), Option.getD_some])
          generalize L[k]'(by have := HM.out; omega) = row at *
          have HI1 := Lib.hid hi1
          have HCK : Hid ((∀ i, B.pick (S.lds P) us next row = some i → B.chainFrom (S.lds P) us L (k + 1) next pl = B.chainFrom (S.lds P) us L k i (pl ++ [i])) ∧ (B.pick (S.lds P) us next row = none → B.chainFrom (S.lds P) us L (k + 1) next pl = B.chainFrom (S.lds P) us L k next pl)) := Lib.hid ⟨fun i h => by rw [B.chainFrom, HGD.out, h], fun h => by rw [B.chainFrom, HGD.out, h]⟩
          clear hi1 hne HGD
          have cO2 := (hb.cell (p := ⟨gR, k, none⟩) hgR).trans cO
          have hgR2 : gR < wr.heap.size := Nat.lt_of_lt_of_le hgR hb.size
          have hkI : (k : Int) < (m : Int) + 1 := by omega
          have hkI2 : decide ((k : Int) ≥ 0) = true := by simp
          obtain ⟨W4, rfl⟩ : ∃ W4, W4 = wr := ⟨wr, rfl⟩
          go_upto_region 13 with (fail)
          go_loopg [6, 7, 48] row.length (fun gk s6 s7 s48 wr => ∃ (j : Nat), j + gk = row.length ∧ s6 = .int .i64 next ∧ s7 = .slice Ap pl.length cp ∧ s48 = .int .i64 j ∧ wr.ownsRow w3.heap.size 3 1 (.slice Ap pl.length cp) pl.length (ns pl) ∧ Below w3.heap.size w3 wr ∧ Hid (B.pick (S.lds P) us next row = B.pick (S.lds P) us next (row.drop j)))
          case atStart => exact ⟨0, by omega, rfl, rfl, rfl, op, hb, Lib.hid rfl⟩
          case round =>
            obtain ⟨j, hj, rfl, rfl, rfl, op2, hb2, HPK⟩ := hrel
            clear cO2 op hb
            have HJ := Lib.hid hj
            by_cases hltj : j < row.length
            · clear hj
              have hltJ : (j : Int) < (row.length : Int) := by omega
              have hs2 := hb2.size
              obtain ⟨bk, ok, rfl, hbk, ci⟩ := (rM.below hb2).at_ (ns_at row j hltj)
              have hi9 := HI1.out _ (List.getElem_mem hltj)
              have HDJ : Hid (B.pick (S.lds P) us next row = if (decide (row[j] < next) && S.lds P (B.su us row[j]) (B.su us next)) = true then some row[j] else B.pick (S.lds P) us next (row.drop (j + 1))) := Lib.hid (by
                rw [HPK.out, List.drop_eq_getElem_cons hltj, B.pick, List.find?_cons]
                split <;> rename_i h
                · rw [if_pos h]
                · rw [if_neg (by rw [h]; decide)]; rfl)
              generalize row[j] = i at *
              obtain ⟨bU, oU, rfl, hbU, cu1⟩ := (hU3.below hb2).at_ hi9
              obtain ⟨bU', oU', hUe, _, cu2⟩ := (hU3.below hb2).at_ hnx
              injection hUe with hUe
              injection hUe with hU1 hU2
              subst hU1 hU2
              rw [← B.su_at hi9] at cu1
              rw [← B.su_at hnx] at cu2
              have bk4 := bk3.below hb2 bk3.lt
              have d6 := bk4.at_ (i := 6) rfl
              simp only [List.getElem_toArray, List.getElem_cons_succ, List.getElem_cons_zero] at d6
              have hiI : (i : Int) < (us.length : Int) := by omega
              have hnI : (next : Int) < (us.length : Int) := by omega
              have hb4l : w.heap.size < wr.heap.size := bk4.lt
              have hbU2 : bU < wr.heap.size := by omega
              by_cases hin : i < next
              · have hd : decide ((i : Int) < (next : Int)) = true := by simp; omega
                have HKW : Hid (∀ w', Below wr.heap.size wr w' → w'.cell? ⟨w.heap.size, 6, none⟩ = some (.slice (some ⟨bU, oU, none⟩) us.length c6) ∧ w'.cell? ⟨bU, oU + i * 10, none⟩ = some (.int .i64 (B.su us i : Int)) ∧ w'.cell? ⟨bU, oU + next * 10, none⟩ = some (.int .i64 (B.su us next : Int))) :=
                  Lib.hid (fun w' hb => ⟨(hb.cell (p := ⟨w.heap.size, 6, none⟩) hb4l).trans d6, (hb.cell (p := ⟨bU, oU + i * 10, none⟩) hbU2).trans cu1, (hb.cell (p := ⟨bU, oU + next * 10, none⟩) hbU2).trans cu2⟩)
                have rP4 := (rP3.below hb2).more hs2
                rw [decide_eq_true hin, Bool.true_and] at HDJ
                generalize B.su us i = si at *
                generalize B.su us next = sn at *
                go_wp2_with fail
                go_region_held3 (fun w' => w'.cell? ⟨w.heap.size, 6, none⟩ = some (.slice (some ⟨bU, oU, none⟩) us.length c6) ∧ w'.cell? ⟨bU, oU + i * 10, none⟩ = some (.int .i64 (si : Int)) ∧ w'.cell? ⟨bU, oU + next * 10, none⟩ = some (.int .i64 (sn : Int)))
                  (first | exact HKW.out _ b6 | go_keep)
                  (first | (go_at_call 22; refine (leads_any P _ _ si sn _ rP4.drew (by omega)).mono ?_; rintro e6 w6 ⟨rfl, b6'⟩; have b6 := (Below.refl wr.heap.size wr).drew.trans b6'))
                have op3 : w6.ownsRow w3.heap.size 3 1 (.slice Ap pl.length cp) pl.length (ns pl) := op2.kept (grown_of_below b6) (by cases h : (Value.slice Ap pl.length cp).ownBlock with | none => exact .inl rfl | some g => exact .inr (by simp))
                have hb6 := hb2.trans (b6.mono hs2)
                have hs6 := hb6.size
                clear op2 hb2 b6' cu1 cu2 d6 bk4 rP4 HKW ci
                cases hle : S.lds P si sn
                · rw [hle] at HDJ
                  have HP2 := Lib.hid (HDJ.out.trans (if_neg (by decide)))
                  clear hle HDJ
                  go_wp2_with fail
                  go_roundg (gk - 1)
                  case measure => have := HJ.out; omega
                  case rel => exact ⟨j + 1, by have := HJ.out; omega, rfl, rfl, by go_num, op3, hb6, HP2⟩
                · rw [hle] at HDJ
                  have HP2 := Lib.hid (HDJ.out.trans (if_pos rfl))
                  clear hle HDJ b6
                  go_wp2_with (at_builtin; refine wpList_append_own_at _ rfl (.tmp 72) (.tmp 74) 23 rfl w3.heap.size 3 i0 _ 1 8 Try.underlying23 hi hz0 hz1 hz2 rfl (by omega) _ _ _ rfl (op3.alloc _) ⟨w6.heap.size, 0, none⟩ 1 1 [.int .i64 (i : Int)] rfl rfl ?a1 ?a2 ?a3 ?a4 ?a5 ?_)
                  (first | (case a1 => exact cell_one_new _ _ _) | skip)
                  (first | (case a2 => simp [Value.oneCell']) | skip)
                  (first | (case a3 => simp only [maxLen]; omega) | skip)
                  (first | (case a4 => omega) | skip)
                  (first | (case a5 => omega) | (case a5 => simp; omega) | skip)
                  intro v7 w7 ho7 hg7 _ _
                  have hb7 : Below w3.heap.size w3 w7 := (hb6.alloc hs6 _).grown hg7 (by simp; omega) fun k hk => (op3.lt k hk).1
                  obtain ⟨A8, c8, hv8⟩ := own_formk ho7
                  subst hv8
                  have ho8 : w7.ownsRow w3.heap.size 3 1 (.slice A8 (pl.length + 1) c8) (pl.length + 1) (ns (pl ++ [i])) := by rw [ns_append]; exact ho7
                  clear ho7 hg7 op3 hb6
                  go_wp2_with fail
                  go_roundg k
                  case measure => omega
                  case rel => exact ⟨i, pl ++ [i], A8, c8, rfl, by simp, rfl, by rw [List.length_append]; exact ho8, hb7, hi9, by simp; omega, by omega, Lib.hid ((HCK.out.1 i HP2.out).symm.trans HCF.out)⟩
              · have hd : decide ((i : Int) < (next : Int)) = false := by simp; omega
                have hd2 : decide (i < next) = false := by simpa using hin
                rw [hd2, Bool.false_and] at HDJ
                have HP2 := Lib.hid (HDJ.out.trans (if_neg (by decide)))
                clear HDJ hin cu1 cu2 d6 bk4
                go_wp2_with fail
                go_quiet (fail)
                go_wp2_with fail
                go_roundg (gk - 1)
                case measure => have := HJ.out; omega
                case rel => exact ⟨j + 1, by have := HJ.out; omega, rfl, rfl, by go_num, op2, below_drewN hb2 _, HP2⟩
            · have HP2 : Hid (B.pick (S.lds P) us next row = none) := Lib.hid (by rw [HPK.out, List.drop_of_length_le (by omega)]; rfl)
              clear hj HPK
              go_wp2_with fail
              go_roundg k
              case measure => omega
              case rel => exact ⟨next, pl, Ap, cp, rfl, rfl, rfl, op2, hb2, hnx, by omega, by omega, Lib.hid ((HCK.out.2 HP2.out).symm.trans HCF.out)⟩
end Go.Proofs.Ytahhihhfjimppaa
/- walks: Work, Span, the document's Ahead, Named -/
namespace Go.Proofs.Ytahhihhfjimppaa
open Go.RowKit
set_option linter.unusedSimpArgs false
set_option linter.unusedVariables false
set_option maxRecDepth 100000

/-- a value comes back; what was there is as it was -/
def Ret (v : Value) (w : World) (e : Ending) (w' : World) : Prop := e = .returned v ∧ Below w.heap.size w w'
theorem work_any (E : El) (w : World) (hn : E.n6 ≤ 1000) : Calls Try.prog 11 #[E.val] w (Ret (.int .i64 (E.n6 : Int)) w) := by
  obtain ⟨e0, e1, A2, n2, c2, A3, n3, c3, A4, n4, c4, A5, n5, c5, A6, n6, c6, A7, n7, c7, e8, e9, A10, n10, c10⟩ := E
  simp only [El.val, El.cs] at hn ⊢
  go_enter Try.func11, Try.ntmps11
  go_wp2_with fail
  go_ret
  exact ⟨rfl, bel_new w _⟩

theorem span_any (E : El) (us : List Nat) (l : List S.Five) (s : S.State) (w : World) (hE : E.Is w us l) (hl : l.length ≤ 60) (hu : us.length ≤ 100) (hrun : S.run S.init l = some s) (hs : ∀ u ∈ us, u < s.n) :
    Calls Try.prog 13 #[E.val] w (Ret (.int .i64 ((B.chain (S.lds s.places) us).length : Int)) w) := by
  have hc := chain_any E us l s
  have hlen := B.chain_le (B.chain_is (S.lds s.places) (lds_refl _) us)
  generalize B.chain (S.lds s.places) us = C at *
  obtain ⟨e0, e1, A2, n2, c2, A3, n3, c3, A4, n4, c4, A5, n5, c5, A6, n6, c6, A7, n7, c7, e8, e9, A10, n10, c10⟩ := E
  simp only [El.val, El.cs] at hc ⊢
  have b1 := bel_new w (.cells #[.int .i64 e0, .int .i64 e1, .slice A2 n2 c2, .slice A3 n3 c3, .slice A4 n4 c4, .slice A5 n5 c5, .slice A6 n6 c6, .slice A7 n7 c7, .int .i64 e8, .int .i64 e9, .slice A10 n10 c10] 29)
  have hE1 := hE.on b1
  go_enter Try.func13, Try.ntmps13
  go_wp2_with (go_at_call 9; refine (hc _ hE1 hl hu hrun hs).mono ?_)
  rintro e2 w2 ⟨A, c, rfl, r2, b2⟩
  go_wp2_with fail
  go_ret
  exact ⟨rfl, b1.trans (b2.mono b1.size)⟩

/-- is a use ahead of another one -/
def S.rah (us : List Nat) (P : List (Nat × Nat)) (a b : Nat) : Bool := if B.su us a = B.su us b then decide (a < b) else S.ahead P (B.su us a) (B.su us b)
theorem S.rah_lds {us : List Nat} {P : List (Nat × Nat)} {a b : Nat} (h : a < b) : S.rah us P a b = S.lds P (B.su us a) (B.su us b) := by
  unfold S.rah S.lds
  split
  · rename_i e; simp [e, h]
  · rename_i e; simp [e]
theorem rah_any (E : El) (us : List Nat) (l : List S.Five) (P : List (Nat × Nat)) (AP : Option Addr) (cP a b : Nat) (w : World) (hE : E.Is w us l) (hP : Rd w w.heap.size AP (tcs P)) (hPl : P.length ≤ 1000) (hs : ∀ u ∈ us, u < P.length) (hu : us.length ≤ 100) (ha : a < us.length) (hb : b < us.length) :
    Calls Try.prog 10 #[E.val, .slice AP P.length cP, .int .i64 a, .int .i64 b] w (Ret (.bool (S.rah us P a b)) w) := by
  have hsa := hs us[a] (List.getElem_mem ha)
  have hsb := hs us[b] (List.getElem_mem hb)
  rw [← B.su_at ha] at hsa
  rw [← B.su_at hb] at hsb
  obtain ⟨hU, hS, hnu, hnl⟩ := hE
  obtain ⟨e0, e1, A2, n2, c2, A3, n3, c3, A4, n4, c4, A5, n5, c5, A6, n6, c6, A7, n7, c7, e8, e9, A10, n10, c10⟩ := E
  simp only at hU hS hnu hnl
  subst hnu hnl
  simp only [El.val, El.cs]
  have b1 := bel_new w (.cells #[.int .i64 e0, .int .i64 e1, .slice A2 n2 c2, .slice A3 n3 c3, .slice A4 n4 c4, .slice A5 n5 c5, .slice A6 us.length c6, .slice A7 l.length c7, .int .i64 e8, .int .i64 e9, .slice A10 n10 c10] 29)
  have hU1 := hU.on b1
  have hP1 := hP.on b1
  obtain ⟨bU, oU, rfl, hbU, cu1⟩ := hU1.at_ ha
  obtain ⟨bU', oU', hUe, _, cu2⟩ := hU1.at_ hb
  injection hUe with hUe
  injection hUe with hU1 hU2
  subst hU1 hU2
  rw [← B.su_at ha] at cu1
  rw [← B.su_at hb] at cu2
  have haI : (a : Int) < (us.length : Int) := by omega
  have hbI : (b : Int) < (us.length : Int) := by omega
  have HR : Hid (S.rah us P a b = if B.su us a = B.su us b then decide (a < b) else S.ahead P (B.su us a) (B.su us b)) := Lib.hid rfl
  generalize B.su us a = sa at *
  generalize B.su us b = sb at *
  go_enter Try.func10, Try.ntmps10
  by_cases h : sa = sb
  · have HR2 := Lib.hid (HR.out.trans (if_pos h))
    have q : decide ((a : Int) < (b : Int)) = decide (a < b) := by simp
    subst h
    go_wp2_with fail
    refine bodyPost_ret (v := .bool (decide (a < b))) (by simp [results, Try.results10, go_sem]) rfl ?_
    exact ⟨by rw [HR2.out], b1⟩
  · have HR2 := Lib.hid (HR.out.trans (if_neg h))
    have q : ((sa : Int) == (sb : Int)) = false := beq_false_of_ne (by omega)
    have q2 : (sa == sb) = false := beq_false_of_ne h
    go_wp2_with (go_at_call 24; refine (rahead_any P AP cP sa sb _ hP1 hPl hsa hsb).mono ?_; rintro e2 w2 ⟨rfl, b2⟩)
    go_ret
    exact ⟨by rw [HR2.out]; rfl, b1.trans (b2.mono b1.size)⟩

/-- the strands of a row of uses, whatever they are -/
def StrsI (w : World) (B : Nat) (A : Option Addr) (zs : List Int) : Prop := zs = [] ∨ ∃ b off, A = some ⟨b, off, none⟩ ∧ b < B ∧ ∀ i (h : i < zs.length), w.cell? ⟨b, off + i * 10, none⟩ = some (.int .i64 zs[i])
theorem StrsI.below {w w' : World} {B : Nat} {A : Option Addr} {zs : List Int} (h : StrsI w B A zs) (hb : Below B w w') : StrsI w' B A zs := by
  rcases h with h | ⟨b, off, rfl, h1, hc⟩
  · exact .inl h
  · exact .inr ⟨b, off, rfl, h1, fun i hi => (hb.cell h1).trans (hc i hi)⟩
theorem StrsI.on {w w' : World} {A : Option Addr} {zs : List Int} (h : StrsI w w.heap.size A zs) (hb : Below w.heap.size w w') : StrsI w' w'.heap.size A zs := by
  rcases h.below hb with h | ⟨b, off, rfl, h1, hc⟩
  · exact .inl h
  · exact .inr ⟨b, off, rfl, by have := hb.size; omega, hc⟩
theorem StrsI.at_ {w : World} {B : Nat} {A : Option Addr} {zs : List Int} (h : StrsI w B A zs) {i : Nat} (hi : i < zs.length) : ∃ b off, A = some ⟨b, off, none⟩ ∧ b < B ∧ w.cell? ⟨b, off + i * 10, none⟩ = some (.int .i64 zs[i]) := by
  rcases h with h | ⟨b, off, rfl, hb, hc⟩
  · subst h; simp at hi
  · exact ⟨b, off, rfl, hb, hc i hi⟩
/-- strands that are all numbers below n -/
theorem StrsI.nat {w : World} {B n : Nat} {A : Option Addr} {zs : List Int} (h : StrsI w B A zs) (hn : ∀ z ∈ zs, 0 ≤ z ∧ z < (n : Int)) : ∃ us : List Nat, us.length = zs.length ∧ (∀ u ∈ us, u < n) ∧ Strs w B A us ∧ us = zs.map Int.toNat := by
  refine ⟨zs.map Int.toNat, by simp, fun u hu => ?_, ?_, rfl⟩
  · obtain ⟨z, hz, rfl⟩ := List.mem_map.1 hu
    have := hn z hz
    omega
  · rcases h with h | ⟨b, off, rfl, hb, hc⟩
    · left; rw [h]; rfl
    · refine .inr ⟨b, off, rfl, hb, fun i hi => ?_⟩
      rw [List.length_map] at hi
      rw [hc i hi, List.getElem_map]
      have := hn zs[i] (List.getElem_mem hi)
      congr 2
      omega
/-- what Named leaves -/
def Naming (w : World) (zs : List Int) (l : List S.Five) (e : Ending) (w' : World) : Prop :=
  Below w.heap.size w w' ∧ ∃ (n : Nat) (b : Bool), e = .returned (.tuple #[.int .i64 (n : Int), .bool b]) ∧ (b = true → ∃ s, S.run S.init l = some s ∧ s.n = n ∧ ∀ z ∈ zs, 0 ≤ z ∧ z < (n : Int))

set_option maxHeartbeats 4000000 in
theorem named_any (E : El) (zs : List Int) (l : List S.Five) (w : World) (hU : StrsI w w.heap.size E.A6 zs) (hS : Rd w w.heap.size E.A7 (fcs l)) (hnu : E.n6 = zs.length) (hnl : E.n7 = l.length) (hu : zs.length ≤ 100) (hl : l.length ≤ 60) :
    Calls Try.prog 7 #[E.val] w (Naming w zs l) := by
  obtain ⟨e0, e1, A2, n2, c2, A3, n3, c3, A4, n4, c4, A5, n5, c5, A6, n6, c6, A7, n7, c7, e8, e9, A10, n10, c10⟩ := E
  simp only at hU hS hnu hnl
  subst hnu hnl
  simp only [El.val, El.cs]
  go_enter Try.func7, Try.ntmps7
  go_upto_region 1 with (fail)
  have bk1 := Blk.new w 29 #[.int .i64 e0, .int .i64 e1, .slice A2 n2 c2, .slice A3 n3 c3, .slice A4 n4 c4, .slice A5 n5 c5, .slice A6 zs.length c6, .slice A7 l.length c7, .int .i64 e8, .int .i64 e9, .slice A10 n10 c10]
  have b1 := bel_new w (.cells #[.int .i64 e0, .int .i64 e1, .slice A2 n2 c2, .slice A3 n3 c3, .slice A4 n4 c4, .slice A5 n5 c5, .slice A6 zs.length c6, .slice A7 l.length c7, .int .i64 e8, .int .i64 e9, .slice A10 n10 c10] 29)
  generalize w.alloc (.cells #[.int .i64 e0, .int .i64 e1, .slice A2 n2 c2, .slice A3 n3 c3, .slice A4 n4 c4, .slice A5 n5 c5, .slice A6 zs.length c6, .slice A7 l.length c7, .int .i64 e8, .int .i64 e9, .slice A10 n10 c10] 29) = w1 at *
  have hU1 := hU.on b1
  have hS1 := hS.on b1
  have d7 := bk1.at_ (i := 7) rfl
  simp only [List.getElem_toArray, List.getElem_cons_succ, List.getElem_cons_zero] at d7
  go_wp2_with (go_at_call 8; refine (rof_any l A7 c7 _ hS1 hl).mono ?_)
  rintro e2 w2 ⟨b2, ⟨hno, rfl⟩ | ⟨s, AP, cap, hrun, rfl, hP⟩⟩
  · have b12 := b1.trans (b2.mono b1.size)
    go_wp2_with fail
    refine bodyPost_ret (v := .tuple #[.int .i64 0, .bool false]) (by simp [results, Try.results7, go_sem]) rfl ?_
    exact ⟨b12, 0, false, rfl, fun h => by cases h⟩
  · have b12 := b1.trans (b2.mono b1.size)
    have hn9 := run_small hrun hl
    have HRUN := Lib.hid hrun
    have hU2 := hU1.on b2
    have hS2 := hS1.on b2
    have bk2 := bk1.below b2 bk1.lt
    clear hrun hU hS hU1 hS1 d7 bk1 b2 b1 hP
    have d6 := bk2.at_ (i := 6) rfl
    have d7 := bk2.at_ (i := 7) rfl
    simp only [List.getElem_toArray, List.getElem_cons_succ, List.getElem_cons_zero] at d6 d7
    go_wp2_with fail
    go_loopg [6] zs.length (fun gk s6 wr => ∃ k : Nat, k + gk = zs.length ∧ s6 = .int .i64 k ∧ wr = w2 ∧ Hid (∀ z ∈ zs.take k, 0 ≤ z ∧ z < (s.n : Int)))
    case atStart => exact ⟨0, by omega, rfl, rfl, Lib.hid (by simp)⟩
    case round =>
      obtain ⟨k, hk, rfl, rfl, HZ⟩ := hrel
      have HK := Lib.hid hk
      by_cases hlt : k < zs.length
      · clear hk
        have hltI : (k : Int) < (zs.length : Int) := by omega
        obtain ⟨bU, oU, rfl, hbU, cu⟩ := hU2.at_ hlt
        have HT : Hid (∀ z ∈ zs.take (k + 1), z = zs[k] ∨ 0 ≤ z ∧ z < (s.n : Int)) := Lib.hid (fun z hz => by
          rw [List.take_succ_eq_append_getElem hlt] at hz
          rcases List.mem_append.1 hz with h | h
          · exact .inr (HZ.out z h)
          · exact .inl (List.mem_singleton.1 h))
        generalize zs[k] = z at *
        by_cases h0 : z < 0
        · have q0 : decide (z < 0) = true := by simpa using h0
          go_wp2_with fail
          refine bodyPost_ret (v := .tuple #[.int .i64 0, .bool false]) (by simp [results, Try.results7, go_sem]) rfl ?_
          exact ⟨b12, 0, false, rfl, fun h => by cases h⟩
        · have q0 : decide (z < 0) = false := by simpa using h0
          by_cases h1 : z ≥ (s.n : Int)
          · have q1 : decide (z ≥ (s.n : Int)) = true := by simpa using h1
            go_wp2_with fail
            refine bodyPost_ret (v := .tuple #[.int .i64 0, .bool false]) (by simp [results, Try.results7, go_sem]) rfl ?_
            exact ⟨b12, 0, false, rfl, fun h => by cases h⟩
          · have q1 : decide (z ≥ (s.n : Int)) = false := by simpa using h1
            have HT2 : Hid (∀ z ∈ zs.take (k + 1), 0 ≤ z ∧ z < (s.n : Int)) := Lib.hid (fun y hy => by
              rcases HT.out y hy with h | h
              · subst h; omega
              · exact h)
            clear h0 h1 HT
            go_wp2_with (go_at_call 16; refine (begun_any l _ _ z _ hS2 hl).mono ?_)
            rintro e3 w3 ⟨rfl, hw⟩
            subst hw
            cases hb : S.begunB l z
            · clear hb
              go_wp2_with fail
              refine bodyPost_ret (v := .tuple #[.int .i64 0, .bool false]) (by simp [results, Try.results7, go_sem]) rfl ?_
              exact ⟨b12, 0, false, rfl, fun h => by cases h⟩
            · clear hb
              go_wp2_with fail
              go_roundg (gk - 1)
              case measure => have := HK.out; omega
              case rel => exact ⟨k + 1, by have := HK.out; omega, by go_num, rfl, HT2⟩
      · have HT2 : Hid (∀ z ∈ zs, 0 ≤ z ∧ z < (s.n : Int)) := Lib.hid (by
          have h := HZ.out
          rw [List.take_of_length_le (by omega)] at h
          exact h)
        clear hk
        go_wp2_with fail
        refine bodyPost_ret (v := .tuple #[.int .i64 (s.n : Int), .bool true]) (by simp [results, Try.results7, go_sem]) rfl ?_
        exact ⟨b12, s.n, true, rfl, fun _ => ⟨s, HRUN.out, rfl, HT2.out⟩⟩
end Go.Proofs.Ytahhihhfjimppaa
/- A heap that is typed: rows of a few kinds of elements, told by a map G from blocks to kinds and numbers; what is no row of G is not touched. -/
namespace Go.Proofs.Ytahhihhfjimppaa
open Go.RowKit
set_option linter.unusedSimpArgs false
set_option linter.unusedVariables false

inductive RT where
  | int | kid | use | split | content | ints
def RT.id : RT → TypeId
  | .int => 3
  | .kid => 127
  | .use => 46
  | .split => 59
  | .content => 94
  | .ints => 23
def RT.size : RT → Nat
  | .int => 1
  | .kid => 2
  | .use => 10
  | .split => 5
  | .content => 3
  | .ints => 1
theorem RT.size_pos (r : RT) : 0 < r.size := by cases r <;> decide
abbrev Gh := Nat → Option (RT × Nat)
def Gh.upd (G : Gh) (b : Nat) (x : RT × Nat) : Gh := fun k => if k = b then some x else G k
def Gh.none : Gh := fun _ => Option.none
/-- a slice of elements of a kind -/
def Sl (G : Gh) (r : RT) (A : Option Addr) (n c : Nat) : Prop :=
  (A = none ∧ n = 0 ∧ c = 0) ∨ ∃ b o cap, A = some ⟨b, o * r.size, none⟩ ∧ G b = some (r, cap) ∧ o + c ≤ cap ∧ n ≤ c ∧ c ≤ 9223372036854775807
def Gh.le (G G' : Gh) : Prop := ∀ b x, G b = some x → G' b = some x
theorem Gh.le_refl (G : Gh) : G.le G := fun _ _ h => h
theorem Gh.le.trans {G G1 G2 : Gh} (h : G.le G1) (h2 : G1.le G2) : G.le G2 := fun b x hx => h2 b x (h b x hx)
theorem Sl.nil (G : Gh) (r : RT) : Sl G r none 0 0 := .inl ⟨rfl, rfl, rfl⟩
theorem Sl.mono {G G' : Gh} {r : RT} {A : Option Addr} {n c : Nat} (h : Sl G r A n c) (hl : G.le G') : Sl G' r A n c := by
  rcases h with h | ⟨b, o, cap, h1, h2, h3⟩
  · exact .inl h
  · exact .inr ⟨b, o, cap, h1, hl _ _ h2, h3⟩
theorem Sl.caps {G : Gh} {r : RT} {A : Option Addr} {n c : Nat} (h : Sl G r A n c) : n ≤ c ∧ c ≤ 9223372036854775807 := by
  rcases h with ⟨_, rfl, rfl⟩ | ⟨b, o, cap, _, _, _, h1, h2⟩
  · omega
  · exact ⟨h1, h2⟩

/-- s: strands of uses are 0; m: how many values a content has at most -/
structure Zp where
  s : Bool
  m : Nat
def Zp.le (z z' : Zp) : Prop := (z'.s = true → z.s = true) ∧ z.m ≤ z'.m
theorem Zp.le_refl (z : Zp) : z.le z := ⟨id, Nat.le_refl _⟩
/-- an element, by its cells -/
def El2 (z : Zp) (G : Gh) : RT → (Nat → Option Value) → Prop
  | .int, f => ∃ n, f 0 = some (.int .i64 n)
  | .kid, f => ∃ a b, f 0 = some (.int .i64 a) ∧ f 1 = some (.int .i64 b)
  | .use, f => ∃ s A n c, f 0 = some (.int .i64 s) ∧ (z.s = true → s = 0) ∧ f 1 = some (.slice A n c) ∧ Sl G .int A n c ∧ (∃ x, f 2 = some (.int .i64 x)) ∧ (∃ x, f 3 = some (.int .i64 x)) ∧ (∃ x, f 4 = some (.int .i64 x)) ∧ (∃ x, f 5 = some (.int .i64 x)) ∧ (∃ x, f 6 = some (.int .i64 x)) ∧ (∃ x, f 7 = some (.int .i64 x)) ∧ (∃ x, f 8 = some (.int .i64 x)) ∧ (∃ x, f 9 = some (.bool x))
  | .split, f => ∃ a b c d e, f 0 = some (.int .i64 a) ∧ f 1 = some (.int .i64 b) ∧ f 2 = some (.int .i64 c) ∧ f 3 = some (.int .i64 d) ∧ f 4 = some (.int .i64 e)
  | .content, f => ∃ k A n c A' n' c', f 0 = some (.int .i64 k) ∧ f 1 = some (.slice A n c) ∧ f 2 = some (.slice A' n' c') ∧ Sl G .int A n c ∧ Sl G .int A' n' c' ∧ (k = 1 → n = n') ∧ n ≤ n' ∧ n' ≤ z.m
  | .ints, f => ∃ A n c, f 0 = some (.slice A n c) ∧ Sl G .int A n c
theorem El2.mono {z : Zp} {G G' : Gh} {r : RT} {f : Nat → Option Value} (h : El2 z G r f) (hl : G.le G') : El2 z G' r f := by
  cases r with
  | int => exact h
  | kid => exact h
  | split => exact h
  | use => obtain ⟨s, A, n, c, h1, h2, h3, h4, h5⟩ := h; exact ⟨s, A, n, c, h1, h2, h3, h4.mono hl, h5⟩
  | content => obtain ⟨k, A, n, c, A', n', c', h1, h2, h3, h4, h5, h6⟩ := h; exact ⟨k, A, n, c, A', n', c', h1, h2, h3, h4.mono hl, h5.mono hl, h6⟩
  | ints => obtain ⟨A, n, c, h1, h2⟩ := h; exact ⟨A, n, c, h1, h2.mono hl⟩
theorem El2.congr {z : Zp} {G : Gh} {r : RT} {f g : Nat → Option Value} (h : El2 z G r f) (hg : ∀ j, j < r.size → g j = f j) : El2 z G r g := by
  cases r with
  | int => rw [El2, hg 0 (by decide)]; exact h
  | kid => rw [El2, hg 0 (by decide), hg 1 (by decide)]; exact h
  | split => rw [El2, hg 0 (by decide), hg 1 (by decide), hg 2 (by decide), hg 3 (by decide), hg 4 (by decide)]; exact h
  | use => rw [El2, hg 0 (by decide), hg 1 (by decide), hg 2 (by decide), hg 3 (by decide), hg 4 (by decide), hg 5 (by decide), hg 6 (by decide), hg 7 (by decide), hg 8 (by decide), hg 9 (by decide)]; exact h
  | content => rw [El2, hg 0 (by decide), hg 1 (by decide), hg 2 (by decide)]; exact h
  | ints => rw [El2, hg 0 (by decide)]; exact h
theorem El2.weak {G : Gh} {r : RT} {z z' : Zp} {f : Nat → Option Value} (h : El2 z G r f) (hz : z.le z') : El2 z' G r f := by
  cases r with
  | use => obtain ⟨s, A, n, c, h1, h2, h3⟩ := h; exact ⟨s, A, n, c, h1, fun e => h2 (hz.1 e), h3⟩
  | content => obtain ⟨k, A, n, c, A', n', c', h1, h2, h3, h4, h5, h6, h7, h8⟩ := h; exact ⟨k, A, n, c, A', n', c', h1, h2, h3, h4, h5, h6, h7, Nat.le_trans h8 hz.2⟩
  | _ => exact h
/-- m elements, one behind the other -/
def Els (z : Zp) (G : Gh) (r : RT) (m : Nat) (l : List Value) : Prop := l.length = m * r.size ∧ ∀ i, i < m → El2 z G r (fun j => l[i * r.size + j]?)

structure TW (z : Zp) (G : Gh) (w : World) : Prop where
  row : ∀ b r cap, G b = some (r, cap) → ∃ cs, w.heap[b]? = some (.cells cs r.id (0, 0)) ∧ cs.size = cap * r.size
  el : ∀ b r cap, G b = some (r, cap) → ∀ i, i < cap → El2 z G r (fun j => w.cell? ⟨b, i * r.size + j, none⟩)
theorem TW.lt {z : Zp} {G : Gh} {w : World} (h : TW z G w) {b : Nat} {x : RT × Nat} (hb : G b = some x) : b < w.heap.size := by
  obtain ⟨cs, h1, _⟩ := h.row b x.1 x.2 hb
  exact (Array.getElem?_eq_some_iff.1 h1).1
theorem TW.weak {z z' : Zp} {G : Gh} {w : World} (h : TW z G w) (hz : z.le z') : TW z' G w := ⟨h.row, fun b r cap hb i hi => (h.el b r cap hb i hi).weak hz⟩
theorem TW.nil (z : Zp) (w : World) : TW z Gh.none w := ⟨fun b r cap h => by simp [Gh.none] at h, fun b r cap h => by simp [Gh.none] at h⟩
/-- the blocks of G are as they were -/
theorem TW.same {z : Zp} {G : Gh} {w w' : World} (h : TW z G w) (hs : ∀ b x, G b = some x → w'.heap[b]? = w.heap[b]?) : TW z G w' := by
  refine ⟨fun b r cap hb => ?_, fun b r cap hb i hi => ?_⟩
  · rw [hs b _ hb]; exact h.row b r cap hb
  · exact (h.el b r cap hb i hi).congr fun j _ => World.cell?_of_block (hs b _ hb)
theorem TW.alloc {z : Zp} {G : Gh} {w : World} (h : TW z G w) (o : Obj) : TW z G (w.alloc o) := h.same fun b x hb => Below.heap_alloc w o b (h.lt hb)
theorem TW.drew {z : Zp} {G : Gh} {w : World} (h : TW z G w) : TW z G w.drew := ⟨h.row, h.el⟩
theorem TW.drewN {z : Zp} {G : Gh} {w : World} (h : TW z G w) (n : Nat) : TW z G (w.drewN n) := ⟨h.row, h.el⟩
theorem TW.setBox {z : Zp} {G : Gh} {w : World} (h : TW z G w) {p : Addr} (hp : G p.block = none) (u : Value) : TW z G (w.setCell p u) := h.same fun b x hb => Below.heap_setCell w p u b (fun e => by rw [e, hp] at hb; cases hb)
theorem TW.below {z : Zp} {G : Gh} {w w' : World} (h : TW z G w) (hb : Below w.heap.size w w') : TW z G w' := h.same fun b x hx => hb.block b (h.lt hx)

structure Ex (G : Gh) (w : World) (G' : Gh) (w' : World) : Prop where
  os : w'.os = w.os
  tape : w'.tape = w.tape
  output : w'.output = w.output
  size : w.heap.size ≤ w'.heap.size
  le : G.le G'
  new : ∀ b x, G' b = some x → G b = some x ∨ w.heap.size ≤ b
  block : ∀ k, k < w.heap.size → G k = none → w'.heap[k]? = w.heap[k]?
section
variable {G G1 G2 : Gh} {w w1 w2 : World}
theorem Ex.refl (G : Gh) (w : World) : Ex G w G w := ⟨rfl, rfl, rfl, Nat.le_refl _, Gh.le_refl G, fun _ _ h => .inl h, fun _ _ _ => rfl⟩
theorem Ex.trans (h : Ex G w G1 w1) (h2 : Ex G1 w1 G2 w2) : Ex G w G2 w2 := by
  refine ⟨h2.os.trans h.os, h2.tape.trans h.tape, h2.output.trans h.output, Nat.le_trans h.size h2.size, h.le.trans h2.le, fun b x hb => ?_, fun k hk hn => ?_⟩
  · rcases h2.new b x hb with h3 | h3
    · exact h.new b x h3
    · have := h.size
      exact .inr (by omega)
  · have h1 : G1 k = none := by
      cases e : G1 k with
      | none => rfl
      | some x => rcases h.new k x e with h3 | h3
                  · rw [hn] at h3; cases h3
                  · omega
    exact (h2.block k (Nat.lt_of_lt_of_le hk h.size) h1).trans (h.block k hk hn)
theorem Ex.drew (h : Ex G w G1 w1) : Ex G w G1 w1.drew := ⟨h.os, h.tape, h.output, h.size, h.le, h.new, h.block⟩
theorem Ex.drewN (h : Ex G w G1 w1) (n : Nat) : Ex G w G1 (w1.drewN n) := ⟨h.os, h.tape, h.output, h.size, h.le, h.new, h.block⟩
theorem Ex.alloc (h : Ex G w G1 w1) (o : Obj) : Ex G w G1 (w1.alloc o) :=
  ⟨h.os, h.tape, h.output, Nat.le_trans h.size (by simp), h.le, h.new, fun k hk hn => (Below.heap_alloc w1 o k (Nat.lt_of_lt_of_le hk h.size)).trans (h.block k hk hn)⟩
theorem Ex.setCell (h : Ex G w G1 w1) {p : Addr} (hp : w.heap.size ≤ p.block ∨ ∃ x, G p.block = some x) (u : Value) : Ex G w G1 (w1.setCell p u) :=
  ⟨h.os, h.tape, h.output, by simpa [World.setCell] using h.size, h.le, h.new, fun k hk hn => (Below.heap_setCell w1 p u k (fun e => by
    subst e
    rcases hp with h3 | ⟨x, h3⟩
    · omega
    · rw [hn] at h3; cases h3)).trans (h.block k hk hn)⟩
theorem Ex.below (h : Ex G w G1 w1) {B : Nat} (hB : B ≤ w.heap.size) (hn : ∀ k, k < B → G k = none) : Below B w w1 := ⟨h.os, h.tape, h.output, h.size, fun k hk => h.block k (by omega) (hn k hk)⟩
theorem Ex.of_below (h : Below w.heap.size w w1) : Ex G w G w1 := ⟨h.os, h.tape, h.output, h.size, Gh.le_refl G, fun _ _ h => .inl h, fun k hk _ => h.block k hk⟩
theorem Ex.none (h : Ex G w G1 w1) {k : Nat} (hk : k < w.heap.size) (hn : G k = Option.none) : G1 k = Option.none := by
  cases e : G1 k with
  | none => rfl
  | some x => rcases h.new k x e with h3 | h3
              · rw [hn] at h3; cases h3
              · omega
theorem Ex.cell (h : Ex G w G1 w1) {p : Addr} (hk : p.block < w.heap.size) (hn : G p.block = Option.none) : w1.cell? p = w.cell? p := World.cell?_of_block (h.block _ hk hn)
theorem Blk.ex {g : Nat} {t : TypeId} {cs : Array Value} (hb : Blk w g t cs) (h : Ex G w G1 w1) (hn : G g = Option.none) : Blk w1 g t cs := (h.block g hb.lt hn).trans hb
theorem Rd.ex {A : Option Addr} {xs : List Value} {B : Nat} (hr : Rd w B A xs) (h : Ex G w G1 w1) (hB : B ≤ w.heap.size) (hn : ∀ k, k < B → G k = Option.none) : Rd w1 B A xs := hr.keep fun p hp => h.cell (by omega) (hn _ hp)
end

/-- a new row -/
theorem TW.row_new {z : Zp} {G : Gh} {w : World} (h : TW z G w) (r : RT) (cap : Nat) (cs : List Value) (he : Els z G r cap cs) : TW z (G.upd w.heap.size (r, cap)) (w.alloc (.cells cs.toArray r.id)) ∧ Ex G w (G.upd w.heap.size (r, cap)) (w.alloc (.cells cs.toArray r.id)) := by
  have hn : G w.heap.size = none := by
    cases e : G w.heap.size with
    | none => rfl
    | some x => have := h.lt e; omega
  have hle : G.le (G.upd w.heap.size (r, cap)) := fun b x hb => by
    have := h.lt hb
    simp [Gh.upd, show b ≠ w.heap.size by omega, hb]
  refine ⟨⟨fun b r' cap' hb => ?_, fun b r' cap' hb i hi => ?_⟩, ⟨rfl, rfl, rfl, by simp, hle, fun b x hb => ?_, fun k hk _ => Below.heap_alloc w _ k hk⟩⟩
  · unfold Gh.upd at hb
    split at hb
    · rename_i e
      injection hb with hb
      injection hb with h1 h2
      subst e h1 h2
      exact ⟨cs.toArray, heap_alloc_new w _, by simp [he.1]⟩
    · obtain ⟨cs', h1, h2⟩ := h.row b r' cap' hb
      exact ⟨cs', (Below.heap_alloc w _ b (h.lt hb)).trans h1, h2⟩
  · unfold Gh.upd at hb
    split at hb
    · rename_i e
      injection hb with hb
      injection hb with h1 h2
      subst e h1 h2
      refine ((he.2 i hi).mono hle).congr fun j _ => ?_
      rw [cell_of_row _ w.heap.size _ cs.toArray r.id (0, 0) (heap_alloc_new w _)]
      simp
    · exact ((h.el b r' cap' hb i hi).mono hle).congr fun j _ => World.cell?_of_block (Below.heap_alloc w _ b (h.lt hb))
  · unfold Gh.upd at hb
    split at hb
    · rename_i e
      exact .inr (by omega)
    · exact .inl hb
end Go.Proofs.Ytahhihhfjimppaa
/- the typed heap: reading an element, storing, appending -/
namespace Go.Proofs.Ytahhihhfjimppaa
open Go.RowKit
set_option linter.unusedSimpArgs false
set_option linter.unusedVariables false

section
variable {z : Zp} {G : Gh} {w : World} {r : RT} {A : Option Addr} {n c : Nat}
theorem Sl.at_ (h : Sl G r A n c) (t : TW z G w) {i : Nat} (hi : i < n) : ∃ b off, A = some ⟨b, off, none⟩ ∧ b < w.heap.size ∧ (∃ x, G b = some x) ∧ El2 z G r (fun j => w.cell? ⟨b, off + i * r.size + j, none⟩) := by
  rcases h with ⟨_, rfl, _⟩ | ⟨b, o, cap, rfl, hb, h1, h2, _⟩
  · omega
  · refine ⟨b, o * r.size, rfl, t.lt hb, ⟨_, hb⟩, (t.el b r cap hb (o + i) (by omega)).congr fun j _ => ?_⟩
    rw [Nat.add_mul]
theorem Sl.cut (h : Sl G r A n c) {k m : Nat} (hk : k ≤ m) (hm : m ≤ c) : Sl G r (if c = k then A else A.map (·.add (k * r.size))) (m - k) (c - k) := by
  rcases h with ⟨rfl, rfl, rfl⟩ | ⟨b, o, cap, rfl, hb, h1, h2, h3⟩
  · obtain rfl : m = 0 := by omega
    obtain rfl : k = 0 := by omega
    exact .inl ⟨by simp, rfl, rfl⟩
  · by_cases e : c = k
    · refine .inr ⟨b, o, cap, by simp [e], hb, by omega, by omega, by omega⟩
    · refine .inr ⟨b, o + k, cap, by simp [e, Addr.add_lit, Nat.add_mul], hb, by omega, by omega, by omega⟩
/-- the values of an element's cells -/
theorem Sl.cells (h : Sl G r A n c) (t : TW z G w) : ∃ l : List Value, Els z G r n l ∧ (n = 0 ∧ l = [] ∨ ∃ b off, A = some ⟨b, off, none⟩ ∧ b < w.heap.size ∧ ∀ j u, l[j]? = some u → w.cell? ⟨b, off + j, none⟩ = some u) ∧ ∀ u ∈ l, u.oneCell' = true := by
  rcases h with ⟨_, rfl, _⟩ | ⟨b, o, cap, rfl, hb, h1, h2, _⟩
  · exact ⟨[], ⟨by simp, fun i hi => by omega⟩, .inl ⟨rfl, rfl⟩, by simp⟩
  · obtain ⟨cs, h3, h4⟩ := t.row b r cap hb
    have hc : ∀ j, w.cell? ⟨b, j, none⟩ = cs[j]? := fun j => cell_of_row w b j cs r.id (0, 0) h3
    have hmul : (o + n) * r.size ≤ cap * r.size := Nat.mul_le_mul_right _ (by omega)
    have hl : ((cs.toList.drop (o * r.size)).take (n * r.size)).length = n * r.size := by
      rw [List.length_take, List.length_drop, Array.length_toList, h4]
      rw [Nat.add_mul] at hmul
      omega
    have hg : ∀ j, j < n * r.size → ((cs.toList.drop (o * r.size)).take (n * r.size))[j]? = w.cell? ⟨b, o * r.size + j, none⟩ := fun j hj => by
      rw [List.getElem?_take, if_pos hj, List.getElem?_drop, hc]
      simp
    have hel : ∀ i, i < n → El2 z G r (fun j => ((cs.toList.drop (o * r.size)).take (n * r.size))[i * r.size + j]?) := fun i hi => by
      refine (t.el b r cap hb (o + i) (by omega)).congr fun j hj => ?_
      have : (i + 1) * r.size ≤ n * r.size := Nat.mul_le_mul_right _ (by omega)
      rw [Nat.add_mul] at this
      show ((cs.toList.drop (o * r.size)).take (n * r.size))[i * r.size + j]? = _
      rw [hg _ (by omega), Nat.add_mul, Nat.add_assoc]
    refine ⟨(cs.toList.drop (o * r.size)).take (n * r.size), ⟨hl, hel⟩, .inr ⟨b, o * r.size, rfl, t.lt hb, fun j u hu => ?_⟩, fun u hu => ?_⟩
    · rw [← hu, hg j]
      have := (List.getElem?_eq_some_iff.1 hu).1
      omega
    · obtain ⟨q, hgq⟩ := List.mem_iff_getElem?.1 hu
      have hq := (List.getElem?_eq_some_iff.1 hgq).1
      rw [hl] at hq
      have hs := r.size_pos
      have hi : q / r.size < n := Nat.div_lt_of_lt_mul (by rw [Nat.mul_comm]; exact hq)
      have hj : q % r.size < r.size := Nat.mod_lt _ hs
      have he := hel _ hi
      have hqe : q / r.size * r.size + q % r.size = q := Nat.div_add_mod' q r.size
      rw [← hqe] at hgq
      generalize ((cs.toList.drop (o * r.size)).take (n * r.size)) = l at *
      generalize q % r.size = j at *
      generalize q / r.size = i at *
      clear hqe hg hel hl hc hu
      cases r with
      | int => obtain ⟨x, e⟩ := he; obtain rfl : j = 0 := by simp [RT.size] at hj; exact hj
               have h := e.symm.trans hgq; injection h with h; subst h; rfl
      | kid => obtain ⟨x, y, e, e'⟩ := he
               simp only [RT.size] at hj
               rcases (show j = 0 ∨ j = 1 by omega) with rfl | rfl
               · have h := e.symm.trans hgq; injection h with h; subst h; rfl
               · have h := e'.symm.trans hgq; injection h with h; subst h; rfl
      | ints => obtain ⟨_, _, _, e, _⟩ := he; obtain rfl : j = 0 := by simp [RT.size] at hj; exact hj
                have h := e.symm.trans hgq; injection h with h; subst h; rfl
      | split => obtain ⟨_, _, _, _, _, e0, e1, e2, e3, e4⟩ := he
                 simp only [RT.size] at hj
                 rcases (show j = 0 ∨ j = 1 ∨ j = 2 ∨ j = 3 ∨ j = 4 by omega) with rfl | rfl | rfl | rfl | rfl
                 · have h := e0.symm.trans hgq; injection h with h; subst h; rfl
                 · have h := e1.symm.trans hgq; injection h with h; subst h; rfl
                 · have h := e2.symm.trans hgq; injection h with h; subst h; rfl
                 · have h := e3.symm.trans hgq; injection h with h; subst h; rfl
                 · have h := e4.symm.trans hgq; injection h with h; subst h; rfl
      | content => obtain ⟨_, _, _, _, _, _, _, e0, e1, e2, _⟩ := he
                   simp only [RT.size] at hj
                   rcases (show j = 0 ∨ j = 1 ∨ j = 2 by omega) with rfl | rfl | rfl
                   · have h := e0.symm.trans hgq; injection h with h; subst h; rfl
                   · have h := e1.symm.trans hgq; injection h with h; subst h; rfl
                   · have h := e2.symm.trans hgq; injection h with h; subst h; rfl
      | use => obtain ⟨_, _, _, _, e0, _, e1, _, ⟨_, e2⟩, ⟨_, e3⟩, ⟨_, e4⟩, ⟨_, e5⟩, ⟨_, e6⟩, ⟨_, e7⟩, ⟨_, e8⟩, ⟨_, e9⟩⟩ := he
               simp only [RT.size] at hj
               rcases (show j = 0 ∨ j = 1 ∨ j = 2 ∨ j = 3 ∨ j = 4 ∨ j = 5 ∨ j = 6 ∨ j = 7 ∨ j = 8 ∨ j = 9 by omega) with rfl | rfl | rfl | rfl | rfl | rfl | rfl | rfl | rfl | rfl
               · have h := e0.symm.trans hgq; injection h with h; subst h; rfl
               · have h := e1.symm.trans hgq; injection h with h; subst h; rfl
               · have h := e2.symm.trans hgq; injection h with h; subst h; rfl
               · have h := e3.symm.trans hgq; injection h with h; subst h; rfl
               · have h := e4.symm.trans hgq; injection h with h; subst h; rfl
               · have h := e5.symm.trans hgq; injection h with h; subst h; rfl
               · have h := e6.symm.trans hgq; injection h with h; subst h; rfl
               · have h := e7.symm.trans hgq; injection h with h; subst h; rfl
               · have h := e8.symm.trans hgq; injection h with h; subst h; rfl
               · have h := e9.symm.trans hgq; injection h with h; subst h; rfl
/-- a row of numbers reads as numbers -/
theorem Sl.rd (h : Sl G .int A n c) (t : TW z G w) : ∃ zs : List Int, zs.length = n ∧ Rd w w.heap.size A (is zs) := by
  obtain ⟨l, ⟨hl, he⟩, hr, hone⟩ := h.cells t
  simp only [RT.size, Nat.mul_one] at hl he
  have : ∃ zs : List Int, l = is zs := by
    clear hr h hone
    subst hl
    induction l with
    | nil => exact ⟨[], rfl⟩
    | cons a l ih =>
      obtain ⟨x, hx⟩ := he 0 (by simp)
      simp at hx
      obtain ⟨zs, rfl⟩ := ih (fun i hi => by
        refine (he (i + 1) (by simp; exact hi)).congr fun j _ => ?_
        show l[i + j]? = (a :: l)[i + 1 + j]?
        rw [show i + 1 + j = (i + j) + 1 by omega, List.getElem?_cons_succ])
      exact ⟨x :: zs, by rw [hx]; rfl⟩
  obtain ⟨zs, rfl⟩ := this
  refine ⟨zs, by simpa using hl, ?_⟩
  rcases hr with ⟨_, e⟩ | ⟨b, off, h1, h2, h3⟩
  · exact .inl e
  · exact .inr ⟨b, off, h1, h2, h3⟩
theorem Sl.src (h : Sl G r A n c) (t : TW z G w) {P : Program} {tx e' : TypeId} (hk : P.underlying tx = some (.slice e')) : ∃ news, Els z G r n news ∧ Src P r.size tx (.slice A n c) n news w := by
  obtain ⟨l, he, hr, h1⟩ := h.cells t
  refine ⟨l, he, ?_⟩
  rcases hr with ⟨rfl, rfl⟩ | ⟨b, off, rfl, _, h3⟩
  · rcases A with _ | ad
    · exact Src.ofNil w hk c
    · exact Src.ofSlice w hk ad _ c [] (by simp) (fun j u hu => by simp at hu) (by simp)
  · exact Src.ofSlice w hk _ _ c l he.1 (fun j u hu => by rw [Addr.add_lit]; exact h3 j u hu) h1
/-- a number is stored into a row of numbers -/
theorem TW.put_int (t : TW z G w) {b cap j : Nat} (hb : G b = some (.int, cap)) (v : Int) : TW z G (w.setCell ⟨b, j, none⟩ (.int .i64 v)) := by
  refine ⟨fun b' r' cap' hb' => ?_, fun b' r' cap' hb' i hi => ?_⟩
  · obtain ⟨cs, h1, h2⟩ := t.row b' r' cap' hb'
    by_cases e : b' = b
    · subst e
      have := Blk.set (w := w) (g := b') (t := r'.id) (cs := cs) h1 j (.int .i64 v)
      exact ⟨_, this, by simpa using h2⟩
    · exact ⟨cs, (Below.heap_setCell w ⟨b, j, none⟩ _ b' e).trans h1, h2⟩
  · by_cases e : b' = b
    · subst e
      rw [hb] at hb'
      injection hb' with hb'
      injection hb' with h1 h2
      subst h1 h2
      obtain ⟨cs, h1, h2⟩ := t.row b' .int cap hb
      have h3 := Blk.set (w := w) (g := b') (t := RT.int.id) (cs := cs) h1 j (.int .i64 v)
      obtain ⟨x, hx⟩ := t.el b' .int cap hb i hi
      simp only [RT.size, Nat.mul_one, Nat.add_zero] at hx ⊢
      show ∃ x, (w.setCell ⟨b', j, none⟩ (.int .i64 v)).cell? ⟨b', i + 0, none⟩ = some (.int .i64 x)
      rw [Nat.add_zero, h3.cell]
      rw [cell_of_row w b' i cs _ (0, 0) h1] at hx
      rw [Array.getElem?_setIfInBounds]
      split
      · split
        · exact ⟨v, rfl⟩
        · rename_i e1 e2
          rw [Array.getElem?_eq_none (by omega)] at hx
          cases hx
      · exact ⟨x, hx⟩
    · exact (t.el b' r' cap' hb' i hi).congr fun q _ => World.cell?_of_block (Below.heap_setCell w ⟨b, j, none⟩ _ b' e)
end
end Go.Proofs.Ytahhihhfjimppaa
/- the typed heap: append -/
namespace Go.Proofs.Ytahhihhfjimppaa
open Go.RowKit
set_option linter.unusedSimpArgs false
set_option linter.unusedVariables false

theorem Els.append {z : Zp} {G : Gh} {r : RT} {n m : Nat} {l k : List Value} (h : Els z G r n l) (h2 : Els z G r m k) : Els z G r (n + m) (l ++ k) := by
  refine ⟨by rw [List.length_append, h.1, h2.1, Nat.add_mul], fun i hi => ?_⟩
  by_cases hn : i < n
  · refine (h.2 i hn).congr fun j hj => ?_
    have : (i + 1) * r.size ≤ n * r.size := Nat.mul_le_mul_right _ (by omega)
    rw [Nat.add_mul] at this
    exact List.getElem?_append_left (by rw [h.1]; omega)
  · refine (h2.2 (i - n) (by omega)).congr fun j hj => ?_
    have e : i * r.size = n * r.size + (i - n) * r.size := by rw [← Nat.add_mul]; congr 1; omega
    show (l ++ k)[i * r.size + j]? = _
    rw [e, List.getElem?_append_right (by rw [h.1]; omega), h.1]
    congr 1
    omega
theorem Els.nil (z : Zp) (G : Gh) (r : RT) : Els z G r 0 [] := ⟨by simp, fun i hi => by omega⟩
theorem Els.mono {z : Zp} {G G' : Gh} {r : RT} {n : Nat} {l : List Value} (h : Els z G r n l) (hl : G.le G') : Els z G' r n l := ⟨h.1, fun i hi => (h.2 i hi).mono hl⟩
theorem Els.one {z : Zp} {G : Gh} {r : RT} {l : List Value} (hl : l.length = r.size) (h : El2 z G r (fun j => l[j]?)) : Els z G r 1 l := ⟨by simp [hl], fun i hi => by
  obtain rfl : i = 0 := by omega
  refine h.congr fun j _ => by simp⟩
/-- zeros -/
theorem Els.zeros {z : Zp} {G : Gh} {r : RT} {l : Array Value} (hl : l.size = r.size) (h : El2 z G r (fun j => l[j]?)) (n : Nat) : Els z G r n (Builtin.zeroCells l n).toList := by
  refine ⟨by simp [Builtin.zeroCells, hl], fun i hi => h.congr fun j hj => ?_⟩
  have hp := r.size_pos
  have hm : (i * r.size + j) % r.size = j := by rw [Nat.mul_comm, Nat.mul_add_mod, Nat.mod_eq_of_lt hj]
  have : (i + 1) * r.size ≤ n * r.size := Nat.mul_le_mul_right _ (by omega)
  rw [Nat.add_mul] at this
  simp only [Builtin.zeroCells, hl]
  rw [Array.getElem?_toList, Array.getElem?_map, Array.getElem?_range, if_pos (by omega)]
  simp only [Option.map_some, hm]
  rw [Array.getElem?_eq_getElem (by omega), getElem!_pos l j (by omega)]

section
variable {P : Program} {z : Zp} {G : Gh} {w : World}
/-- m elements are stored at a place of a row -/
theorem TW.put_row (t : TW z G w) {b cap o m : Nat} {r : RT} (hb : G b = some (r, cap)) {cur : Array Value} (hc : w.heap[b]? = some (.cells cur r.id (0, 0))) (hs : cur.size = cap * r.size) {news : List Value} (he : Els z G r m news) (hm : o + m ≤ cap) :
    TW z G (w.setRow b (cur.toList.take (o * r.size) ++ news ++ cur.toList.drop (o * r.size + news.length)).toArray) := by
  have hl := he.1
  have hmul : (o + m) * r.size ≤ cap * r.size := Nat.mul_le_mul_right _ hm
  rw [Nat.add_mul] at hmul
  have hsz : (cur.toList.take (o * r.size) ++ news ++ cur.toList.drop (o * r.size + news.length)).length = cap * r.size := by
    simp only [List.length_append, List.length_take, List.length_drop, Array.length_toList, hs, hl]
    omega
  have hnew := setRow_heap w b cur (cur.toList.take (o * r.size) ++ news ++ cur.toList.drop (o * r.size + news.length)).toArray r.id (0, 0) hc
  refine ⟨fun b' r' cap' hb' => ?_, fun b' r' cap' hb' i hi => ?_⟩
  · by_cases e : b' = b
    · subst e
      rw [hb] at hb'
      injection hb' with hb'
      injection hb' with h1 h2
      subst h1 h2
      exact ⟨_, hnew, by simpa using hsz⟩
    · obtain ⟨cs, h1, h2⟩ := t.row b' r' cap' hb'
      exact ⟨cs, (setRow_other w b b' _ e).trans h1, h2⟩
  · by_cases e : b' = b
    · subst e
      rw [hb] at hb'
      injection hb' with hb'
      injection hb' with h1 h2
      subst h1 h2
      have hold : ∀ j, w.cell? ⟨b', j, none⟩ = cur[j]? := fun j => cell_of_row w b' j cur r.id (0, 0) hc
      have hg : ∀ j, (w.setRow b' (cur.toList.take (o * r.size) ++ news ++ cur.toList.drop (o * r.size + news.length)).toArray).cell? ⟨b', j, none⟩ = (cur.toList.take (o * r.size) ++ news ++ cur.toList.drop (o * r.size + news.length))[j]? := fun j => by
        rw [cell_of_row _ b' j _ r.id (0, 0) hnew]; simp
      have htl : (cur.toList.take (o * r.size)).length = o * r.size := by rw [List.length_take, Array.length_toList, hs]; omega
      by_cases h1 : i < o
      · refine (t.el b' r cap hb i hi).congr fun j hj => ?_
        have : (i + 1) * r.size ≤ o * r.size := Nat.mul_le_mul_right _ (by omega)
        rw [Nat.add_mul] at this
        rw [hg, hold, List.append_assoc, List.getElem?_append_left (by rw [htl]; omega), List.getElem?_take, if_pos (by omega)]
        simp
      · by_cases h2 : i < o + m
        · refine (he.2 (i - o) (by omega)).congr fun j hj => ?_
          have e1 : i * r.size = o * r.size + (i - o) * r.size := by rw [← Nat.add_mul]; congr 1; omega
          have : (i - o + 1) * r.size ≤ m * r.size := Nat.mul_le_mul_right _ (by omega)
          rw [Nat.add_mul] at this
          rw [hg, List.append_assoc, List.getElem?_append_right (by rw [htl]; omega), htl, List.getElem?_append_left (by omega)]
          congr 1
          omega
        · refine (t.el b' r cap hb i hi).congr fun j hj => ?_
          have : (o + m) * r.size ≤ i * r.size := Nat.mul_le_mul_right _ (by omega)
          rw [Nat.add_mul] at this
          rw [hg, hold, List.getElem?_append_right (by rw [List.length_append, htl]; omega), List.length_append, htl, List.getElem?_drop]
          rw [show o * r.size + news.length + (i * r.size + j - (o * r.size + news.length)) = i * r.size + j by omega]
          simp
    · exact (t.el b' r' cap' hb' i hi).congr fun q _ => World.cell?_of_block (setRow_other w b b' _ e)

theorem run_appT (tw : TW z G w) (t tx ty : TypeId) (r : RT) (i : TypeInfo) (zv : Value) (bytes : Nat) (ht : P.underlying t = some (.slice r.id)) (hi : P.info? r.id = some i) (hz : i.zero = some zv)
    (hsize : i.size = r.size) (hby : i.bytes = bytes) (hzs : zv.cells.size = r.size) (hze : El2 z G r (fun j => zv.cells[j]?))
    (A : Option Addr) (n c : Nat) (hs : Sl G r A n c) (x : Value) (m : Nat) (news : List Value) (he : Els z G r m news) (hsrc : Src P r.size tx x m news w)
    (h63 : n + m ≤ 9223372036854775807) (hbytes : (n + m) * bytes ≤ 140737488355328) :
    ∃ A' c' w' G', (Builtin.append_ #[t, tx] ty #[.slice A n c, x]).run P w = .ok (.slice A' (n + m) c') w' ∧ TW z G' w' ∧ Ex G w G' w' ∧ Sl G' r A' (n + m) c' := by
  subst hby
  have hl := he.1
  obtain ⟨olds, heo, hro, hone⟩ := hs.cells tw
  have grown : ∀ (old : Nat), ∃ G', TW z G' (w.drew.alloc (.cells ((olds ++ news).toArray ++ Builtin.zeroCells zv.cells (grownCap w (n + m) old r.id - (n + m))) r.id)) ∧ Ex G w G' (w.drew.alloc (.cells ((olds ++ news).toArray ++ Builtin.zeroCells zv.cells (grownCap w (n + m) old r.id - (n + m))) r.id)) ∧ Sl G' r (some ⟨w.heap.size, 0, none⟩) (n + m) (grownCap w (n + m) old r.id) := by
    intro old
    have hge := grownCap_ge w (n + m) old r.id
    have hcm : grownCap w (n + m) old r.id ≤ maxLen := grownCap_le_maxLen w (n + m) old r.id h63
    have h1 := (heo.append he).append (Els.zeros hzs hze (grownCap w (n + m) old r.id - (n + m)))
    rw [show n + m + (grownCap w (n + m) old r.id - (n + m)) = grownCap w (n + m) old r.id by omega] at h1
    obtain ⟨h2, h3⟩ := tw.drew.row_new r _ _ h1
    have e : ((olds ++ news).toArray ++ Builtin.zeroCells zv.cells (grownCap w (n + m) old r.id - (n + m))) = (olds ++ news ++ (Builtin.zeroCells zv.cells (grownCap w (n + m) old r.id - (n + m))).toList).toArray := by
      apply Array.ext'
      simp
    rw [e]
    refine ⟨_, h2, (Ex.refl G w).drew.trans h3, .inr ⟨w.heap.size, 0, _, by simp, by simp [Gh.upd]; rfl, by omega, hge, hcm⟩⟩
  rw [← hsize] at hsrc
  by_cases hroom : n + m ≤ c
  · rcases hs with ⟨rfl, rfl, rfl⟩ | ⟨b, o, cap, rfl, hb, h1, h2, h3⟩
    · obtain rfl : m = 0 := by omega
      refine ⟨none, 0, w, G, ?_, tw, Ex.refl _ _, Sl.nil _ _⟩
      rcases hsrc.kind with ⟨e', hk⟩ | hk <;> simp [Builtin.append_, run_underlying ht, run_underlying hk, sizeOf, typeInfo, hi, hsrc.len, hsrc.cells] <;> (have : news = [] := List.eq_nil_of_length_eq_zero (by simpa using hl)) <;> simp [this]
    · obtain ⟨cur, hcur, hcs⟩ := tw.row b r cap hb
      have hfit : (o + n) * r.size + news.length ≤ cur.size := by rw [hl, hcs, ← Nat.add_mul]; exact Nat.mul_le_mul_right _ (by omega)
      have hsrc2 := hsrc
      rw [hsize] at hsrc2
      have hst := run_storeCells_at P b ((o + n) * r.size) r.id news 0 cur w hcur (by simpa using hfit) hsrc.one
      simp only [Nat.add_zero] at hst
      refine ⟨_, _, _, G, ?_, tw.put_row hb hcur hcs (o := o + n) he (by omega), ?_, .inr ⟨b, o, cap, rfl, hb, h1, hroom, h3⟩⟩
      · have e1 : o * r.size + n * r.size = (o + n) * r.size := by rw [Nat.add_mul]
        rcases hsrc.kind with ⟨e', hk⟩ | hk <;> simp [Builtin.append_, run_underlying ht, run_underlying hk, sizeOf, typeInfo, hi, hsrc.len, hroom, hsrc2.cells, Addr.add_lit, hsize, e1, hst]
      · exact ⟨rfl, rfl, rfl, by simp, Gh.le_refl _, fun _ _ h => .inl h, fun k hk hn => setRow_other w b k _ (fun e => by rw [e, hb] at hn; cases hn)⟩
  · have holds : (Builtin.firstCells i.size n (.slice A n c)).run P w.drew = .ok olds.toArray w.drew := by
      rw [hsize]
      rcases hro with ⟨rfl, rfl⟩ | ⟨b, off, rfl, _, h3⟩
      · rcases A with _ | ad
        · exact run_firstCells_none w.drew _ _ _ _
        · exact run_firstCells_some w.drew r.size 0 ad 0 c [] (by simp) (by simp)
      · exact run_firstCells_some w.drew r.size n ⟨b, off, none⟩ n c olds heo.1 (fun j v hv => by rw [Addr.add_lit]; exact h3 j v hv)
    have hr := run_append_grow_src (P := P) w t tx ty r.id i zv ht hi hz A n c olds holds x m news hsrc (by omega) (by omega) (growslice_fits (by omega) hbytes)
    obtain ⟨G', h1, h2, h3⟩ := grown c
    exact ⟨_, _, _, G', hr, h1, h2, h3⟩

theorem wp_appT {o : Oper} {a : Act} {K : Act → World → Prop} {Q : Exit → Act → World → Prop} (s xo : Operand) (t tx : TypeId)
    (ho : o.op = .call { callee := .builtin .append, args := #[s, xo], argTypes := #[t, tx] })
    (r : RT) (i : TypeInfo) (zv : Value) (bytes : Nat) (ht : P.underlying t = some (.slice r.id)) (hi : P.info? r.id = some i) (hz : i.zero = some zv)
    (hsize : i.size = r.size) (hby : i.bytes = bytes) (hzs : zv.cells.size = r.size) (tw : TW z G w) (hze : El2 z G r (fun j => zv.cells[j]?))
    (A : Option Addr) (n c : Nat) (hv : a.eval s = .slice A n c) (hs : Sl G r A n c) (x : Value) (m : Nat) (news : List Value) (hx : a.eval xo = x) (he : Els z G r m news) (hsrc : Src P r.size tx x m news w)
    (h63 : n + m ≤ 9223372036854775807) (hbytes : (n + m) * bytes ≤ 140737488355328)
    (h : ∀ A' c' w' G', TW z G' w' → Ex G w G' w' → Sl G' r A' (n + m) c' → K (a.put o.dst (.slice A' (n + m) c')) w') : o.wp P a w K Q := by
  obtain ⟨A', c', w', G', hrun, h2, h3, h4⟩ := run_appT tw t tx o.type r i zv bytes ht hi hz hsize hby hzs hze A n c hs x m news he hsrc h63 hbytes
  unfold Oper.wp execOp
  simp only [ho, resolve, invoke, builtin, Sem.run_bind, Sem.run_pure, Result.andThen_ok, List.map_toArray, List.map_cons, List.map_nil, hv, hx, hrun]
  exact h A' c' w' G' h2 h3 h4
/-- at the operation, in a walk -/
theorem wpList_appT {ops : Array Oper} {rest : List Oper} {o : Oper} {a : Act} {Q : Exit → Act → World → Prop} (hgd : o.guard = none) (s xo : Operand) (t tx : TypeId)
    (ho : o.op = .call { callee := .builtin .append, args := #[s, xo], argTypes := #[t, tx] })
    (r : RT) (i : TypeInfo) (zv : Value) (bytes : Nat) (ht : P.underlying t = some (.slice r.id)) (hi : P.info? r.id = some i) (hz : i.zero = some zv)
    (hsize : i.size = r.size) (hby : i.bytes = bytes) (hzs : zv.cells.size = r.size) (tw : TW z G w) (hze : El2 z G r (fun j => zv.cells[j]?))
    (A : Option Addr) (n c : Nat) (hv : a.eval s = .slice A n c) (hs : Sl G r A n c) (x : Value) (m : Nat) (news : List Value) (hx : a.eval xo = x) (he : Els z G r m news) (hsrc : Src P r.size tx x m news w)
    (h63 : n + m ≤ 9223372036854775807) (hbytes : (n + m) * bytes ≤ 140737488355328)
    (h : ∀ A' c' w' G', TW z G' w' → Ex G w G' w' → Sl G' r A' (n + m) c' → wpList P ops Q rest (a.put o.dst (.slice A' (n + m) c')) w') : wpList P ops Q (o :: rest) a w :=
  wpList_plain hgd fun _ hK => wp_appT s xo t tx ho r i zv bytes ht hi hz hsize hby hzs tw hze A n c hv hs x m news hx he hsrc h63 hbytes fun A' c' w' G' h2 h3 h4 => hK _ _ (h A' c' w' G' h2 h3 h4)
/-- at a step of a region that draws its order -/
theorem step_appT {ops : Array Oper} {o : Oper} {a : Act} {K : Act → World → Prop} {Q : Exit → Act → World → Prop} {E : Prop} (hgd : o.guard = none) (s xo : Operand) (t tx : TypeId)
    (ho : o.op = .call { callee := .builtin .append, args := #[s, xo], argTypes := #[t, tx] })
    (r : RT) (i : TypeInfo) (zv : Value) (bytes : Nat) (ht : P.underlying t = some (.slice r.id)) (hi : P.info? r.id = some i) (hz : i.zero = some zv)
    (hsize : i.size = r.size) (hby : i.bytes = bytes) (hzs : zv.cells.size = r.size) (tw : TW z G w) (hze : El2 z G r (fun j => zv.cells[j]?))
    (A : Option Addr) (n c : Nat) (hv : a.eval s = .slice A n c) (hs : Sl G r A n c) (x : Value) (m : Nat) (news : List Value) (hx : a.eval xo = x) (he : Els z G r m news) (hsrc : Src P r.size tx x m news w)
    (h63 : n + m ≤ 9223372036854775807) (hbytes : (n + m) * bytes ≤ 140737488355328)
    (h : ∀ A' c' w' G', TW z G' w' → Ex G w G' w' → Sl G' r A' (n + m) c' → K (a.put o.dst (.slice A' (n + m) c')) w') :
    if Region.wanted o (yielded ops a.tmps) = true then Oper.wp P o a w K Q else E := by
  have hw : Region.wanted o (yielded ops a.tmps) = true := by simp [Region.wanted, hgd]
  rw [if_pos hw]
  exact wp_appT s xo t tx ho r i zv bytes ht hi hz hsize hby hzs tw hze A n c hv hs x m news hx he hsrc h63 hbytes h
end
end Go.Proofs.Ytahhihhfjimppaa
/- walks: the document's vm, numbers -/
namespace Go.Proofs.Ytahhihhfjimppaa
open Go.RowKit
set_option linter.unusedSimpArgs false
set_option linter.unusedVariables false
set_option maxRecDepth 100000

/-- some number comes back; nothing is turned -/
def AnyI (w : World) (e : Ending) (w' : World) : Prop := ∃ n, e = .returned (.int .i64 n) ∧ w' = w
def AnyB (w : World) (e : Ending) (w' : World) : Prop := ∃ b, e = .returned (.bool b) ∧ w' = w

theorem wis_any (n : Int) (w : World) : Calls Try.prog 56 #[.int .i64 n] w (AnyB w) := by
  go_enter Try.func56, Try.ntmps56
  by_cases h : n < 0
  · have q : decide (n ≥ 0) = false := decide_eq_false (by omega)
    go_wp2_with fail
    go_ret
    exact ⟨_, rfl, rfl⟩
  · have q : decide (n ≥ 0) = true := decide_eq_true (by omega)
    go_wp2_with fail
    go_ret
    exact ⟨_, rfl, rfl⟩
theorem wkey_any (n : Int) (w : World) : Calls Try.prog 61 #[.int .i64 n] w (AnyI w) := by
  go_enter Try.func61, Try.ntmps61
  go_wp2_with fail
  all_goals
    go_ret
    exact ⟨_, rfl, rfl⟩
theorem wwrap_any (n : Int) (w : World) : Calls Try.prog 66 #[.int .i64 n] w (AnyI w) := by
  go_enter Try.func66, Try.ntmps66
  go_wp2_with fail
  all_goals
    go_ret
    exact ⟨_, rfl, rfl⟩
theorem wof_any (n : Int) (w : World) : Calls Try.prog 62 #[.int .i64 n] w (AnyI w) := by
  go_enter Try.func62, Try.ntmps62
  go_wp2_with fail
  all_goals
    go_ret
    exact ⟨_, rfl, rfl⟩
theorem wtimes_any (a b : Int) (w : World) : Calls Try.prog 68 #[.int .i64 a, .int .i64 b] w (AnyI w) := by
  go_enter Try.func68, Try.ntmps68
  go_wp2_with (go_at_call 66; refine (wwrap_any _ _).mono ?_; rintro e1 w1 ⟨n1, rfl, rfl⟩)
  all_goals
    go_ret
    exact ⟨_, rfl, rfl⟩
theorem wpair_any (op a b : Int) (w : World) : Calls Try.prog 60 #[.int .i64 op, .int .i64 a, .int .i64 b] w (AnyI w) := by
  go_enter Try.func60, Try.ntmps60
  go_wp2_with (first
    | (go_at_call 66; refine (wwrap_any _ _).mono ?_; rintro e1 w1 ⟨n1, rfl, rfl⟩)
    | (go_at_call 68; refine (wtimes_any _ _ _).mono ?_; rintro e1 w1 ⟨n1, rfl, rfl⟩))
  all_goals
    go_ret
    exact ⟨_, rfl, rfl⟩
theorem wall_any (zs : List Int) (A : Option Addr) (c : Nat) (w : World) (hr : Rd w w.heap.size A (is zs)) (hl : zs.length ≤ 1000000) : Calls Try.prog 49 #[.slice A zs.length c] w (AnyB w) := by
  go_enter Try.func49, Try.ntmps49
  go_wp2_with fail
  go_loopg [3] zs.length (fun gk s3 wr => ∃ k : Nat, k + gk = zs.length ∧ s3 = .int .i64 k ∧ wr = w)
  case atStart => exact ⟨0, by omega, rfl, rfl⟩
  case round =>
    obtain ⟨k, hk, rfl, rfl⟩ := hrel
    have HK := Lib.hid hk
    by_cases hlt : k < zs.length
    · clear hk
      have hltI : (k : Int) < (zs.length : Int) := by omega
      obtain ⟨b, o, rfl, hb, ck⟩ := hr.at_ (is_at zs k hlt)
      generalize zs[k] = z at *
      go_wp2_with (go_at_call 56; refine (wis_any z _).mono ?_)
      rintro e1 w1 ⟨bb, rfl, rfl⟩
      cases bb
      · go_wp2_with fail
        go_ret
        exact ⟨_, rfl, rfl⟩
      · go_wp2_with fail
        go_roundg (gk - 1)
        case measure => have := HK.out; omega
        case rel => exact ⟨k + 1, by have := HK.out; omega, by go_num, rfl⟩
    · clear hk
      go_wp2_with fail
      go_ret
      exact ⟨_, rfl, rfl⟩
end Go.Proofs.Ytahhihhfjimppaa
/- walks: the document's objects -/
namespace Go.Proofs.Ytahhihhfjimppaa
open Go.RowKit
set_option linter.unusedSimpArgs false
set_option linter.unusedVariables false
set_option maxRecDepth 100000

/-- a content, as a value: its kind, its keys, its values -/
structure Ct where
  k : Int
  Ak : Option Addr
  nk : Nat
  ck : Nat
  Av : Option Addr
  nv : Nat
  cv : Nat
def Ct.cs (c : Ct) : Array Value := #[.int .i64 c.k, .slice c.Ak c.nk c.ck, .slice c.Av c.nv c.cv]
def Ct.val (c : Ct) : Value := .agg c.cs
/-- a map has as many keys as values -/
structure Ct.Is (c : Ct) (w : World) (ks vs : List Int) : Prop where
  rk : Rd w w.heap.size c.Ak (is ks)
  rv : Rd w w.heap.size c.Av (is vs)
  nk : c.nk = ks.length
  nv : c.nv = vs.length
  same : c.k = 1 → ks.length = vs.length
theorem Ct.Is.on {c : Ct} {w w' : World} {ks vs : List Int} (h : c.Is w ks vs) (hb : Below w.heap.size w w') : c.Is w' ks vs := ⟨h.rk.on hb, h.rv.on hb, h.nk, h.nv, h.same⟩
/-- where a key stands, or -1 -/
def AtI (w : World) (n : Nat) (e : Ending) (w' : World) : Prop := Below w.heap.size w w' ∧ (e = .returned (.int .i64 (-1)) ∨ ∃ k : Nat, k < n ∧ e = .returned (.int .i64 (k : Int)))
theorem wat_any (c : Ct) (ks vs : List Int) (key : Int) (w : World) (hc : c.Is w ks vs) (hl : ks.length ≤ 5000) : Calls Try.prog 69 #[c.val, .int .i64 key] w (AtI w ks.length) := by
  obtain ⟨rk, rv, nk, nv, _⟩ := hc
  obtain ⟨k0, Ak, n1, c1, Av, n2, c2⟩ := c
  simp only at rk rv nk nv
  subst nk nv
  simp only [Ct.val, Ct.cs]
  go_enter Try.func69, Try.ntmps69
  go_upto_region 1 with (fail)
  have bk := Blk.new w 94 #[.int .i64 k0, .slice Ak ks.length c1, .slice Av vs.length c2]
  have b1 := bel_new w (.cells #[.int .i64 k0, .slice Ak ks.length c1, .slice Av vs.length c2] 94)
  generalize w.alloc (.cells #[.int .i64 k0, .slice Ak ks.length c1, .slice Av vs.length c2] 94) = w1 at *
  have rk1 := rk.on b1
  have d1 := bk.at_ (i := 1) rfl
  simp only [List.getElem_toArray, List.getElem_cons_succ, List.getElem_cons_zero] at d1
  have HB := Lib.hid b1
  clear bk rk rv
  go_wp2_with fail
  go_loopg [5] ks.length (fun gk s5 wr => ∃ k : Nat, k + gk = ks.length ∧ s5 = .int .i64 k ∧ wr = w1)
  case atStart => exact ⟨0, by omega, rfl, rfl⟩
  case round =>
    obtain ⟨k, hk, rfl, rfl⟩ := hrel
    have HK := Lib.hid hk
    by_cases hlt : k < ks.length
    · clear hk
      have hltI : (k : Int) < (ks.length : Int) := by omega
      obtain ⟨b, o, rfl, hb, ck⟩ := rk1.at_ (is_at ks k hlt)
      generalize ks[k] = z at *
      by_cases he : z = key
      · subst he
        go_wp2_with fail
        go_ret
        exact ⟨HB.out, .inr ⟨k, hlt, rfl⟩⟩
      · have q : (z == key) = false := by simpa using he
        go_wp2_with fail
        go_roundg (gk - 1)
        case measure => have := HK.out; omega
        case rel => exact ⟨k + 1, by have := HK.out; omega, by go_num, rfl⟩
    · clear hk
      go_wp2_with fail
      go_ret
      exact ⟨HB.out, .inl rfl⟩
end Go.Proofs.Ytahhihhfjimppaa
/- the typed heap: append in this program -/
namespace Go.Proofs.Ytahhihhfjimppaa
open Go.RowKit
set_option linter.unusedSimpArgs false
set_option linter.unusedVariables false

def RT.bytes : RT → Nat
  | .int => 8
  | .kid => 16
  | .use => 96
  | .split => 40
  | .content => 56
  | .ints => 24
def RT.sl : RT → TypeId
  | .int => 23
  | .kid => 105
  | .use => 25
  | .split => 26
  | .content => 24
  | .ints => 27
def RT.zero : RT → Value
  | .int => .int .i64 0
  | .kid => .agg #[.int .i64 0, .int .i64 0]
  | .use => .agg #[.int .i64 0, .slice none 0 0, .int .i64 0, .int .i64 0, .int .i64 0, .int .i64 0, .int .i64 0, .int .i64 0, .int .i64 0, .bool false]
  | .split => .agg #[.int .i64 0, .int .i64 0, .int .i64 0, .int .i64 0, .int .i64 0]
  | .content => .agg #[.int .i64 0, .slice none 0 0, .slice none 0 0]
  | .ints => .slice none 0 0
theorem info_rt (r : RT) : (Try.prog.info? r.id).map (fun i => (i.zero, i.size, i.bytes)) = some (some r.zero, r.size, r.bytes) := by
  cases r <;> kernel_rfl
theorem under_rt (r : RT) : Try.prog.underlying r.sl = some (.slice r.id) := by
  cases r
  · exact Try.underlying23
  · exact Try.underlying105
  · exact Try.underlying25
  · exact Try.underlying26
  · exact Try.underlying24
  · exact Try.underlying27
theorem zero_size (r : RT) : r.zero.cells.size = r.size := by cases r <;> rfl
theorem zero_el (z : Zp) (G : Gh) (r : RT) : El2 z G r (fun j => r.zero.cells[j]?) := by
  cases r
  · exact ⟨0, rfl⟩
  · exact ⟨0, 0, rfl, rfl⟩
  · exact ⟨0, none, 0, 0, rfl, fun _ => rfl, rfl, Sl.nil _ _, ⟨_, rfl⟩, ⟨_, rfl⟩, ⟨_, rfl⟩, ⟨_, rfl⟩, ⟨_, rfl⟩, ⟨_, rfl⟩, ⟨_, rfl⟩, ⟨_, rfl⟩⟩
  · exact ⟨0, 0, 0, 0, 0, rfl, rfl, rfl, rfl, rfl⟩
  · exact ⟨0, none, 0, 0, none, 0, 0, rfl, rfl, rfl, Sl.nil _ _, Sl.nil _ _, fun _ => rfl, Nat.le_refl _, Nat.zero_le _⟩
  · exact ⟨none, 0, 0, rfl, Sl.nil _ _⟩
theorem RT.bytes_le (r : RT) : r.bytes ≤ 96 := by cases r <;> decide

/-- numbers are elements -/
theorem els_is (z : Zp) (G : Gh) (l : List Int) : Els z G .int l.length (is l) := ⟨by simp [RT.size], fun i hi => by
  refine ⟨l[i], ?_⟩
  simp only [RT.size, Nat.mul_one, Nat.add_zero]
  exact is_at l i hi⟩
/-- what a literal yields: its block is the newest -/
theorem src_lit (r : RT) (w : World) (m : Nat) (cs : List Value) (hl : cs.length = m * r.size) (h1 : ∀ u ∈ cs, u.oneCell' = true) : Src Try.prog r.size r.sl (.slice (some ⟨w.heap.size, 0, none⟩) m m) m cs (w.alloc (.cells cs.toArray r.id)) :=
  Src.ofSlice _ (under_rt r) ⟨w.heap.size, 0, none⟩ m m cs hl (fun j u hu => by
    rw [Addr.add_lit, Nat.zero_add, cell_of_row _ w.heap.size j cs.toArray r.id (0, 0) (heap_alloc_new w _)]
    simpa using hu) h1

section
variable {z : Zp} {G : Gh} {w : World} {ops : Array Oper} {rest : List Oper} {o : Oper} {a : Act} {K : Act → World → Prop} {Q : Exit → Act → World → Prop} {E : Prop}
/-- append, of any source -/
theorem wpList_T (r : RT) (s xo : Operand) (hgd : o.guard = none) (ho : o.op = .call { callee := .builtin .append, args := #[s, xo], argTypes := #[r.sl, r.sl] })
    (tw : TW z G w) (A : Option Addr) (n c : Nat) (hv : a.eval s = .slice A n c) (hs : Sl G r A n c) (x : Value) (m : Nat) (news : List Value) (hx : a.eval xo = x) (he : Els z G r m news) (hsrc : Src Try.prog r.size r.sl x m news w) (hn : n + m ≤ 1000000000)
    (h : ∀ A' c' w' G', TW z G' w' → Ex G w G' w' → Sl G' r A' (n + m) c' → wpList Try.prog ops Q rest (a.put o.dst (.slice A' (n + m) c')) w') : wpList Try.prog ops Q (o :: rest) a w := by
  obtain ⟨i, hi, h0, h1, h2⟩ := info_parts (info_rt r)
  have := r.bytes_le
  have hb : (n + m) * r.bytes ≤ 1000000000 * 96 := Nat.mul_le_mul hn this
  exact wpList_appT hgd s xo r.sl r.sl ho r i r.zero r.bytes (under_rt r) hi h0 h1 h2 (zero_size r) tw (zero_el z G r) A n c hv hs x m news hx he hsrc (by omega) (by omega) h
/-- append, of a literal -/
theorem wpList_lit (r : RT) (s xo : Operand) (hgd : o.guard = none) (m : Nat) (cs : List Value) (ho : o.op = .call { callee := .builtin .append, args := #[s, xo], argTypes := #[r.sl, r.sl] })
    (tw : TW z G w) (A : Option Addr) (n c : Nat) (hv : a.eval s = .slice A n c) (hs : Sl G r A n c) (hx : a.eval xo = .slice (some ⟨w.heap.size, 0, none⟩) m m) (he : Els z G r m cs) (h1 : ∀ u ∈ cs, u.oneCell' = true) (hn : n + m ≤ 1000000000)
    (h : ∀ A' c' w' G', TW z G' w' → Ex G w G' w' → Sl G' r A' (n + m) c' → wpList Try.prog ops Q rest (a.put o.dst (.slice A' (n + m) c')) w') : wpList Try.prog ops Q (o :: rest) a (w.alloc (.cells cs.toArray r.id)) :=
  wpList_T r s xo hgd ho (tw.alloc _) A n c hv hs _ m cs hx he (src_lit r w m cs he.1 h1) hn fun A' c' w' G' h1 h2 h3 => h A' c' w' G' h1 (((Ex.refl G w).alloc _).trans h2) h3
/-- append, of a number -/
theorem wpList_int (s xo : Operand) (x : Int) (hgd : o.guard = none) (ho : o.op = .call { callee := .builtin .append, args := #[s, xo], argTypes := #[23, 23] })
    (tw : TW z G w) (A : Option Addr) (n c : Nat) (hv : a.eval s = .slice A n c) (hs : Sl G .int A n c) (hx : a.eval xo = .slice (some ⟨w.heap.size, 0, none⟩) 1 1) (hn : n + 1 ≤ 1000000000)
    (h : ∀ A' c' w' G', TW z G' w' → Ex G w G' w' → Sl G' .int A' (n + 1) c' → wpList Try.prog ops Q rest (a.put o.dst (.slice A' (n + 1) c')) w') : wpList Try.prog ops Q (o :: rest) a (w.alloc (.cells #[.int .i64 x] 3)) :=
  wpList_lit .int s xo hgd 1 [.int .i64 x] ho tw A n c hv hs hx (els_is z G [x]) (by simp [Value.oneCell']) hn h
theorem step_T (r : RT) (s xo : Operand) (hgd : o.guard = none) (ho : o.op = .call { callee := .builtin .append, args := #[s, xo], argTypes := #[r.sl, r.sl] })
    (tw : TW z G w) (A : Option Addr) (n c : Nat) (hv : a.eval s = .slice A n c) (hs : Sl G r A n c) (x : Value) (m : Nat) (news : List Value) (hx : a.eval xo = x) (he : Els z G r m news) (hsrc : Src Try.prog r.size r.sl x m news w) (hn : n + m ≤ 1000000000)
    (h : ∀ A' c' w' G', TW z G' w' → Ex G w G' w' → Sl G' r A' (n + m) c' → K (a.put o.dst (.slice A' (n + m) c')) w') :
    if Region.wanted o (yielded ops a.tmps) = true then Oper.wp Try.prog o a w K Q else E := by
  obtain ⟨i, hi, h0, h1, h2⟩ := info_parts (info_rt r)
  have := r.bytes_le
  have hb : (n + m) * r.bytes ≤ 1000000000 * 96 := Nat.mul_le_mul hn this
  exact step_appT hgd s xo r.sl r.sl ho r i r.zero r.bytes (under_rt r) hi h0 h1 h2 (zero_size r) tw (zero_el z G r) A n c hv hs x m news hx he hsrc (by omega) (by omega) h
theorem step_lit (r : RT) (s xo : Operand) (hgd : o.guard = none) (m : Nat) (cs : List Value) (ho : o.op = .call { callee := .builtin .append, args := #[s, xo], argTypes := #[r.sl, r.sl] })
    (tw : TW z G w) (A : Option Addr) (n c : Nat) (hv : a.eval s = .slice A n c) (hs : Sl G r A n c) (hx : a.eval xo = .slice (some ⟨w.heap.size, 0, none⟩) m m) (he : Els z G r m cs) (h1 : ∀ u ∈ cs, u.oneCell' = true) (hn : n + m ≤ 1000000000)
    (h : ∀ A' c' w' G', TW z G' w' → Ex G w G' w' → Sl G' r A' (n + m) c' → K (a.put o.dst (.slice A' (n + m) c')) w') :
    if Region.wanted o (yielded ops a.tmps) = true then Oper.wp Try.prog o a (w.alloc (.cells cs.toArray r.id)) K Q else E :=
  step_T r s xo hgd ho (tw.alloc _) A n c hv hs _ m cs hx he (src_lit r w m cs he.1 h1) hn fun A' c' w' G' h1 h2 h3 => h A' c' w' G' h1 (((Ex.refl G w).alloc _).trans h2) h3
theorem step_int (s xo : Operand) (x : Int) (hgd : o.guard = none) (ho : o.op = .call { callee := .builtin .append, args := #[s, xo], argTypes := #[23, 23] })
    (tw : TW z G w) (A : Option Addr) (n c : Nat) (hv : a.eval s = .slice A n c) (hs : Sl G .int A n c) (hx : a.eval xo = .slice (some ⟨w.heap.size, 0, none⟩) 1 1) (hn : n + 1 ≤ 1000000000)
    (h : ∀ A' c' w' G', TW z G' w' → Ex G w G' w' → Sl G' .int A' (n + 1) c' → K (a.put o.dst (.slice A' (n + 1) c')) w') :
    if Region.wanted o (yielded ops a.tmps) = true then Oper.wp Try.prog o a (w.alloc (.cells #[.int .i64 x] 3)) K Q else E :=
  step_lit .int s xo hgd 1 [.int .i64 x] ho tw A n c hv hs hx (els_is z G [x]) (by simp [Value.oneCell']) hn h
end
end Go.Proofs.Ytahhihhfjimppaa
/- the typed heap: boxes that are no rows -/
namespace Go.Proofs.Ytahhihhfjimppaa
open Go.RowKit
set_option linter.unusedSimpArgs false
set_option linter.unusedVariables false

structure Bx (G : Gh) (w : World) (g : Nat) (t : TypeId) (cs : Array Value) : Prop where
  blk : Blk w g t cs
  nog : G g = none
section
variable {z : Zp} {G G' : Gh} {w w' : World} {g : Nat} {t : TypeId} {cs : Array Value}
theorem TW.none_ge (h : TW z G w) {k : Nat} (hk : w.heap.size ≤ k) : G k = none := by
  cases e : G k with
  | none => rfl
  | some x => have := h.lt e; omega
theorem Bx.new (h : TW z G w) (t : TypeId) (cs : Array Value) : Bx G (w.alloc (.cells cs t)) w.heap.size t cs := ⟨Blk.new w t cs, h.none_ge (Nat.le_refl _)⟩
theorem Bx.alloc (h : Bx G w g t cs) (o : Obj) : Bx G (w.alloc o) g t cs := ⟨h.blk.alloc o, h.nog⟩
theorem Bx.drew (h : Bx G w g t cs) : Bx G w.drew g t cs := ⟨h.blk, h.nog⟩
theorem Bx.ex (h : Bx G w g t cs) (e : Ex G w G' w') : Bx G' w' g t cs := ⟨h.blk.ex e h.nog, e.none h.blk.lt h.nog⟩
theorem Bx.below (h : Bx G w g t cs) (hb : Below w.heap.size w w') : Bx G w' g t cs := ⟨h.blk.below hb h.blk.lt, h.nog⟩
theorem Bx.set (h : Bx G w g t cs) (i : Nat) (u : Value) : Bx G (w.setCell ⟨g, i, none⟩ u) g t (cs.setIfInBounds i u) := ⟨h.blk.set i u, h.nog⟩
theorem Bx.far (h : Bx G w g t cs) {p : Addr} (hp : g ≠ p.block) (u : Value) : Bx G (w.setCell p u) g t cs := ⟨h.blk.far hp u, h.nog⟩
theorem Bx.lt (h : Bx G w g t cs) : g < w.heap.size := h.blk.lt
theorem Bx.cell (h : Bx G w g t cs) (i : Nat) {v : Value} (hv : cs[i]? = some v) : w.cell? ⟨g, i, none⟩ = some v := (h.blk.cell i).trans hv
theorem Bx.frozen (h : Bx G w g t cs) (i : Nat) : w.frozen? ⟨g, i, none⟩ = false := h.blk.frozen i
end
/-- a content as values in cells -/
structure CtT (G : Gh) (k : Int) (A : Option Addr) (n c : Nat) (A' : Option Addr) (n' c' : Nat) : Prop where
  sk : Sl G .int A n c
  sv : Sl G .int A' n' c'
  same : k = 1 → n = n'
  le : n ≤ n'
theorem CtT.mono {G G' : Gh} {k : Int} {A A' : Option Addr} {n c n' c' : Nat} (h : CtT G k A n c A' n' c') (hl : G.le G') : CtT G' k A n c A' n' c' := ⟨h.sk.mono hl, h.sv.mono hl, h.same, h.le⟩
end Go.Proofs.Ytahhihhfjimppaa
/- A generator of conditions for walks: symbolic slots and own boxes; the rest of memory is told by a context. -/
namespace Go.Proofs.Ytahhihhfjimppaa
open Go.RowKit
set_option linter.unusedSimpArgs false
set_option linter.unusedVariables false

/-- a value, or the address of a cell of an own box -/
inductive SV where
  | v (x : Value)
  | p (b off : Nat)
def SV.den (ρ : Nat → Nat) : SV → Value
  | .v x => x
  | .p b off => .pointer (some ⟨ρ b, off, none⟩)
structure SS where
  s : Nat → SV
  b : Nat → Option (TypeId × List Value)
def upd {α : Type} (f : Nat → α) (d : Nat) (x : α) : Nat → α := fun t => bif Nat.beq t d then x else f t
theorem upd_same {α : Type} (f : Nat → α) (d : Nat) (x : α) : upd f d x d = x := by simp [upd]
theorem upd_ne {α : Type} (f : Nat → α) {d t : Nat} (x : α) (h : t ≠ d) : upd f d x t = f t := by
  have : Nat.beq t d = false := by
    cases e : Nat.beq t d with
    | false => rfl
    | true => exact absurd (Nat.eq_of_beq_eq_true e) h
  simp [upd, this]
theorem upd_comm {α : Type} (f : Nat → α) {d e : Nat} (x y : α) (h : d ≠ e) : upd (upd f d x) e y = upd (upd f e y) d x := by
  funext t
  by_cases h1 : t = d
  · subst h1; rw [upd_same, upd_ne _ _ h, upd_same]
  · by_cases h2 : t = e
    · subst h2; rw [upd_same, upd_ne _ _ h1, upd_same]
    · rw [upd_ne _ _ h2, upd_ne _ _ h1, upd_ne _ _ h1, upd_ne _ _ h2]

/-- what is known of the rest of memory -/
structure Ctx where
  dom : Nat → Prop
  R : World → Prop
  lt : ∀ w, R w → ∀ k, dom k → k < w.heap.size
  stable : ∀ w w', R w → (∀ k, dom k → w'.heap[k]? = w.heap[k]?) → w.heap.size ≤ w'.heap.size → w'.os = w.os → w'.tape = w.tape → w'.output = w.output → R w'
/-- memory went on: what is not told of by the context, and was there, is as it was -/
structure Goes (C : Ctx) (w : World) (C' : Ctx) (w' : World) : Prop where
  size : w.heap.size ≤ w'.heap.size
  block : ∀ k, k < w.heap.size → ¬ C.dom k → w'.heap[k]? = w.heap[k]?
  new : ∀ k, C'.dom k → C.dom k ∨ w.heap.size ≤ k
theorem Goes.refl (C : Ctx) (w : World) : Goes C w C w := ⟨Nat.le_refl _, fun _ _ _ => rfl, fun _ h => .inl h⟩

structure RepAt (N : Nat) (C : Ctx) (ρ : Nat → Nat) (ss : SS) (a : Act) (w : World) : Prop where
  size : a.tmps.size = N
  nod : a.defers = []
  slot : ∀ t, a.tmps.getD t undef = (ss.s t).den ρ
  box : ∀ b ty cs, ss.b b = some (ty, cs) → w.heap[ρ b]? = some (.cells cs.toArray ty (0, 0)) ∧ ¬ C.dom (ρ b)
  inj : ∀ b b', (ss.b b).isSome = true → (ss.b b').isSome = true → ρ b = ρ b' → b = b'
  wf : ∀ t b off, ss.s t = .p b off → (ss.b b).isSome = true
  rest : C.R w
def Rep (N : Nat) (C : Ctx) (ss : SS) (a : Act) (w : World) : Prop := ∃ ρ, RepAt N C ρ ss a w

def SS.eval (ss : SS) : Operand → SV
  | .tmp t => ss.s t
  | .const v => .v v
  | .global g => .v (.pointer (some ⟨g, 0, none⟩))
  | .func f => .v (.func (.func f) #[] #[])
section
variable {N : Nat} {C C' : Ctx} {ρ : Nat → Nat} {ss : SS} {a : Act} {w w' : World}
theorem RepAt.eval (r : RepAt N C ρ ss a w) (x : Operand) : a.eval x = (ss.eval x).den ρ := by
  cases x with
  | tmp t => exact r.slot t
  | const v => rfl
  | global g => rfl
  | func f => rfl
theorem RepAt.wfe (r : RepAt N C ρ ss a w) (x : Operand) : ∀ b off, ss.eval x = .p b off → (ss.b b).isSome = true := by
  cases x with
  | tmp t => exact r.wf t
  | const v => intro b off h; cases h
  | global g => intro b off h; cases h
  | func f => intro b off h; cases h
theorem getD_put (ts : Array Value) (d t : Nat) (v : Value) (hd : d < ts.size) : (ts.setIfInBounds d v).getD t undef = if t = d then v else ts.getD t undef := by
  rw [Array.getD_eq_getD_getElem?, Array.getD_eq_getD_getElem?, Array.getElem?_setIfInBounds]
  by_cases h : d = t
  · subst h; simp [hd]
  · simp [h, Ne.symm h]
theorem RepAt.put (r : RepAt N C ρ ss a w) {d : Nat} (hd : d < N) (x : SV) (hx : ∀ b off, x = .p b off → (ss.b b).isSome = true) : RepAt N C ρ ⟨upd ss.s d x, ss.b⟩ (a.put (some d) (x.den ρ)) w := by
  refine ⟨?_, r.nod, fun t => ?_, r.box, r.inj, fun t b off h => ?_, r.rest⟩
  · simpa [Act.put] using r.size
  · simp only [Act.put]
    rw [getD_put _ _ _ _ (by rw [r.size]; exact hd)]
    by_cases e : t = d
    · subst e; simp [upd_same]
    · simp only [e, if_false]; rw [upd_ne _ _ e]; exact r.slot t
  · by_cases e : t = d
    · subst e; rw [show (SS.mk (upd ss.s t x) ss.b).s t = x from upd_same _ _ _] at h; exact hx b off h
    · rw [show (SS.mk (upd ss.s d x) ss.b).s t = ss.s t from upd_ne _ _ e] at h; exact r.wf t b off h
/-- memory that is not the boxes' went on -/
theorem RepAt.goes (r : RepAt N C ρ ss a w) (g : Goes C w C' w') (h : C'.R w') : RepAt N C' ρ ss a w' := by
  refine ⟨r.size, r.nod, r.slot, fun b ty cs hb => ?_, r.inj, r.wf, h⟩
  obtain ⟨h1, h2⟩ := r.box b ty cs hb
  have hlt : ρ b < w.heap.size := (Array.getElem?_eq_some_iff.1 h1).1
  refine ⟨(g.block _ hlt h2).trans h1, fun hd => ?_⟩
  rcases g.new _ hd with h3 | h3
  · exact h2 h3
  · omega
theorem RepAt.drew (r : RepAt N C ρ ss a w) : RepAt N C ρ ss a w.drew :=
  ⟨r.size, r.nod, r.slot, r.box, r.inj, r.wf, C.stable _ _ r.rest (fun _ _ => rfl) (Nat.le_refl _) rfl rfl rfl⟩
/-- a new box -/
theorem RepAt.new (r : RepAt N C ρ ss a w) (d : Nat) (hd : ss.b d = none) (t : TypeId) (cs : List Value) : RepAt N C (upd ρ d w.heap.size) ⟨ss.s, upd ss.b d (some (t, cs))⟩ a (w.alloc (.cells cs.toArray t)) := by
  have hne : ∀ t off b, ss.s t = .p b off → b ≠ d := fun t off b h e => by
    have := r.wf t b off h
    rw [e, hd] at this
    cases this
  have hne2 : ∀ b, (ss.b b).isSome = true → b ≠ d := fun b h e => by rw [e, hd] at h; cases h
  have hlt : ∀ b, (ss.b b).isSome = true → ρ b < w.heap.size := fun b h => by
    obtain ⟨⟨ty, cs⟩, hb⟩ := Option.isSome_iff_exists.1 h
    exact (Array.getElem?_eq_some_iff.1 (r.box b ty cs hb).1).1
  have hs : (w.alloc (.cells cs.toArray t)).heap.size = w.heap.size + 1 := by simp
  have hold : ∀ k, k < w.heap.size → (w.alloc (.cells cs.toArray t)).heap[k]? = w.heap[k]? := fun k hk => Below.heap_alloc w _ k hk
  refine ⟨r.size, r.nod, fun t => ?_, fun b ty cs' hb => ?_, fun b b' h h' e => ?_, fun t b off h => ?_, C.stable _ _ r.rest (fun k hk => hold k (C.lt _ r.rest k hk)) (by rw [hs]; omega) rfl rfl rfl⟩
  · rw [r.slot t]
    cases e : ss.s t with
    | v x => rfl
    | p b off => simp only [SV.den]; rw [upd_ne _ _ (hne t off b e)]
  · by_cases e : b = d
    · subst e
      rw [show (SS.mk ss.s (upd ss.b b (some (t, cs)))).b b = some (t, cs) from upd_same _ _ _] at hb
      injection hb with hb
      injection hb with h1 h2
      subst h1 h2
      rw [upd_same]
      exact ⟨heap_alloc_new w _, fun hd => absurd (C.lt _ r.rest _ hd) (by omega)⟩
    · rw [show (SS.mk ss.s (upd ss.b d (some (t, cs)))).b b = ss.b b from upd_ne _ _ e] at hb
      rw [upd_ne _ _ e]
      obtain ⟨h1, h2⟩ := r.box b ty cs' hb
      exact ⟨(hold _ (hlt b (by rw [hb]; rfl))).trans h1, h2⟩
  · by_cases e1 : b = d
    · by_cases e2 : b' = d
      · rw [e1, e2]
      · rw [show (SS.mk ss.s (upd ss.b d (some (t, cs)))).b b' = ss.b b' from upd_ne _ _ e2] at h'
        rw [e1, upd_same, upd_ne _ _ e2] at e
        have := hlt b' h'
        omega
    · rw [show (SS.mk ss.s (upd ss.b d (some (t, cs)))).b b = ss.b b from upd_ne _ _ e1] at h
      by_cases e2 : b' = d
      · rw [e2, upd_same, upd_ne _ _ e1] at e
        have := hlt b h
        omega
      · rw [show (SS.mk ss.s (upd ss.b d (some (t, cs)))).b b' = ss.b b' from upd_ne _ _ e2] at h'
        rw [upd_ne _ _ e1, upd_ne _ _ e2] at e
        exact r.inj b b' h h' e
  · have := r.wf t b off h
    by_cases e : b = d
    · subst e; rw [show (SS.mk ss.s (upd ss.b b _)).b b = _ from upd_same _ _ _]; rfl
    · rw [show (SS.mk ss.s (upd ss.b d _)).b b = ss.b b from upd_ne _ _ e]; exact this
/-- a box has other cells -/
theorem RepAt.setBox (r : RepAt N C ρ ss a w) {b : Nat} {ty : TypeId} {cs cs' : List Value} (hb : ss.b b = some (ty, cs)) : RepAt N C ρ ⟨ss.s, upd ss.b b (some (ty, cs'))⟩ a (w.setRow (ρ b) cs'.toArray) := by
  obtain ⟨h1, h2⟩ := r.box b ty cs hb
  have hlt : ρ b < w.heap.size := (Array.getElem?_eq_some_iff.1 h1).1
  have hoth : ∀ k, k ≠ ρ b → (w.setRow (ρ b) cs'.toArray).heap[k]? = w.heap[k]? := fun k hk => setRow_other w _ k _ hk
  have some_iff : ∀ c, (upd ss.b b (some (ty, cs')) c).isSome = (ss.b c).isSome := fun c => by
    by_cases e : c = b
    · subst e; rw [upd_same, hb]; rfl
    · rw [upd_ne _ _ e]
  refine ⟨r.size, r.nod, r.slot, fun c ty' cs'' hc => ?_, fun c c' h h' e => r.inj c c' (by rw [← some_iff]; exact h) (by rw [← some_iff]; exact h') e, fun t c off h => by rw [show (SS.mk ss.s (upd ss.b b (some (ty, cs')))).b c = upd ss.b b (some (ty, cs')) c from rfl, some_iff]; exact r.wf t c off h, ?_⟩
  · by_cases e : c = b
    · subst e
      rw [show (SS.mk ss.s (upd ss.b c (some (ty, cs')))).b c = some (ty, cs') from upd_same _ _ _] at hc
      injection hc with hc
      injection hc with h3 h4
      subst h3 h4
      exact ⟨setRow_heap w _ _ _ _ _ h1, h2⟩
    · rw [show (SS.mk ss.s (upd ss.b b (some (ty, cs')))).b c = ss.b c from upd_ne _ _ e] at hc
      obtain ⟨h3, h4⟩ := r.box c ty' cs'' hc
      refine ⟨(hoth _ fun e' => e (r.inj c b (by rw [hc]; rfl) (by rw [hb]; rfl) e')).trans h3, h4⟩
  · exact C.stable _ _ r.rest (fun k hk => hoth k (fun e => h2 (e ▸ hk))) (by simp) rfl rfl rfl
end
end Go.Proofs.Ytahhihhfjimppaa
/- The conditions of one operation, and that they serve. -/
namespace Go.Proofs.Ytahhihhfjimppaa
open Go.RowKit
set_option linter.unusedSimpArgs false
set_option linter.unusedVariables false

/-! ### lists in the passing style -/
def forceL {α : Type} : List α → (List α → Prop) → Prop
  | [], K => K []
  | x :: l, K => forceL l fun l' => K (x :: l')
theorem forceL_eq {α : Type} (l : List α) (K : List α → Prop) : forceL l K = K l := by
  induction l generalizing K with
  | nil => rfl
  | cons x l ih => exact ih fun l' => K (x :: l')
def putAt : List Value → Nat → List Value → List Value
  | [], _, _ => []
  | x :: l, n + 1, vs => x :: putAt l n vs
  | x :: l, 0, [] => x :: l
  | x :: l, 0, v :: vs => v :: putAt l 0 vs
theorem putAt_nil (cs : List Value) (off : Nat) : putAt cs off [] = cs := by
  induction cs generalizing off with
  | nil => rfl
  | cons x l ih => cases off with
    | zero => rfl
    | succ n => simp [putAt, ih]
theorem putAt_cons (cs : List Value) (off : Nat) (v : Value) (vs : List Value) : putAt cs off (v :: vs) = putAt (cs.set off v) (off + 1) vs := by
  induction cs generalizing off with
  | nil => rfl
  | cons x l ih => cases off with
    | zero => simp [putAt]
    | succ n => simp [putAt, ih]
theorem putAt_eq (cs : List Value) (off : Nat) (vs : List Value) (h : off + vs.length ≤ cs.length) : putAt cs off vs = cs.take off ++ vs ++ cs.drop (off + vs.length) := by
  induction cs generalizing off vs with
  | nil =>
    simp at h
    obtain ⟨rfl, rfl⟩ := h
    rfl
  | cons x l ih => cases off with
    | succ n =>
      simp [putAt]
      rw [ih n vs (by simp at h; omega)]
      rw [show n + 1 + vs.length = (n + vs.length) + 1 by omega]
      simp
    | zero => cases vs with
      | nil => simp [putAt]
      | cons v vs =>
        simp [putAt]
        rw [ih 0 vs (by simp at h; omega)]
        simp
theorem fill_fold (vs : List Value) (cs : List Value) (off k : Nat) : (vs.zipIdx k).foldl (fun (cs : Array Value) (p : Value × Nat) => cs.setIfInBounds (off + p.2) p.1) cs.toArray = (putAt cs (off + k) vs).toArray := by
  induction vs generalizing cs k with
  | nil => simp [putAt_nil]
  | cons v vs ih =>
    rw [putAt_cons]
    simp only [List.zipIdx_cons, List.foldl_cons]
    rw [show (cs.toArray.setIfInBounds (off + k) v) = (cs.set (off + k) v).toArray by simp]
    rw [ih]
    rfl
def chk (b : Bool) (A : Prop) : Prop := match b with
  | true => A
  | false => False
theorem chk_iff {b : Bool} {A : Prop} (h : chk b A) : b = true ∧ A := by cases b with
  | true => exact ⟨rfl, h⟩
  | false => exact h.elim
def splitB (b : Bool) (A B : Prop) : Prop := match b with
  | true => A
  | false => B
theorem splitB.intro {b : Bool} {A B : Prop} (h1 : b = true → A) (h2 : b = false → B) : splitB b A B := by cases b with
  | true => exact h1 rfl
  | false => exact h2 rfl
def cellsK (x : Value) (K : List Value → Prop) : Prop := match x with
  | .agg cs => match cs with
    | ⟨l⟩ => forceL l K
  | .bool b => K [.bool b]
  | .int k n => K [.int k n]
  | .string s => K [.string s]
  | .pointer a => K [.pointer a]
  | .slice a n c => K [.slice a n c]
  | .nilFunc => K [.nilFunc]
  | .func f a b => K [.func f a b]
  | .iface t v => K [.iface t v]
  | .nilIface => K [.nilIface]
  | .map r => K [.map r]
  | _ => False
theorem cellsK_iff {x : Value} {K : List Value → Prop} (h : cellsK x K) : K x.cells.toList := by
  cases x with
  | agg cs => exact (forceL_eq cs.toList K) ▸ h
  | _ => first | exact h | exact False.elim h
def allOne : List Value → Bool
  | [] => true
  | .agg _ :: _ => false
  | .tuple _ :: _ => false
  | _ :: l => allOne l
theorem allOne_spec {l : List Value} (h : allOne l = true) : ∀ u ∈ l, u.oneCell' = true := by
  induction l with
  | nil => simp
  | cons x l ih =>
    intro u hu
    cases hu with
    | head => cases x <;> first | rfl | (simp [allOne] at h)
    | tail _ hu => exact ih (by cases x <;> first | exact h | (simp [allOne] at h)) u hu

/-! ### types -/
inductive TD where
  | st (fs : List (Nat × Option Nat))
  | ar (n : Nat) (e : Option Nat)
  | sl (e : Option Nat)
  | int (k : IntKind)
  | str
  | other
def TD.of (P : Program) : TypeDesc → TD
  | .struct fs => .st (fs.toList.map fun f => (f.offset, (P.info? f.type).map (·.size)))
  | .array n e => .ar n ((P.info? e).map (·.size))
  | .slice e => .sl ((P.info? e).map (·.size))
  | .int k => .int k
  | .string => .str
  | _ => .other
structure TyI where
  size : Nat
  zv : Value
  d : TD
def TD.full : TD → Bool
  | .st fs => fs.all fun f => f.2.isSome
  | .sl e => e.isSome
  | .ar _ e => e.isSome
  | _ => true
structure TyOk (P : Program) (t : TypeId) (i : TyI) : Prop where
  full : i.d.full = true
  size : (P.info? t).map (·.size) = some i.size
  zero : (P.info? t).bind (·.zero) = some i.zv
  desc : (P.underlying t).map (TD.of P) = some i.d
def lookT : List (Nat × TyI) → Nat → Option TyI
  | [], _ => none
  | (k, i) :: l, t => bif Nat.beq k t then some i else lookT l t
def TabOk (P : Program) (T : List (Nat × TyI)) : Prop := ∀ t i, lookT T t = some i → TyOk P t i
theorem TabOk.nil (P : Program) : TabOk P [] := fun t i h => by cases h
theorem TabOk.cons {P : Program} {t : TypeId} {i : TyI} {l : List (Nat × TyI)} (h : TyOk P t i) (hl : TabOk P l) : TabOk P ((t, i) :: l) := fun t' i' h' => by
  unfold lookT at h'
  cases e : Nat.beq t t' with
  | true =>
    rw [e] at h'
    injection h' with h'
    have := Nat.eq_of_beq_eq_true e
    subst this h'
    exact h
  | false => rw [e] at h'; exact hl t' i' h'
section
variable {P : Program} {t : TypeId} {i : TyI} {w : World}
theorem TyOk.run_size (h : TyOk P t i) : (sizeOf t).run P w = .ok i.size w := by
  have h1 := h.size
  cases e : P.info? t with
  | none => rw [e] at h1; cases h1
  | some ti =>
    rw [e] at h1
    injection h1 with h1
    simp [sizeOf, typeInfo, e, h1]
theorem TyOk.run_zero (h : TyOk P t i) : (zeroValue t).run P w = .ok i.zv w := by
  have h1 := h.zero
  cases e : P.info? t with
  | none => rw [e] at h1; cases h1
  | some ti =>
    rw [e] at h1
    have h1 : ti.zero = some i.zv := h1
    simp [zeroValue, typeInfo, e, h1]
def TD.agg : TD → Bool
  | .st _ => true
  | .ar _ _ => true
  | _ => false
theorem TyOk.run_isAgg (h : TyOk P t i) : (isAgg t).run P w = .ok i.d.agg w := by
  have h1 := h.desc
  cases e : P.underlying t with
  | none => rw [e] at h1; cases h1
  | some d =>
    rw [e] at h1
    injection h1 with h1
    rw [← h1]
    cases d <;> simp [isAgg, run_underlying e, TD.of, TD.agg]
end

/-! ### conditions that the context has to meet -/
structure SemVC (P : Program) (C : Ctx) (m : Sem Value) (K : Value → Ctx → Prop) : Prop where
  out : ∀ w, C.R w → ∃ v w' C', m.run P w = .ok v w' ∧ Goes C w C' w' ∧ C'.R w' ∧ K v C'
structure StoVC (P : Program) (C : Ctx) (m : Sem Unit) (K : Ctx → Prop) : Prop where
  out : ∀ w, C.R w → ∃ w' C', m.run P w = .ok () w' ∧ Goes C w C' w' ∧ C'.R w' ∧ K C'
def Enters (P : Program) (f : FuncId) : Prop := ∀ args w, (callFunc f args).run P w = .ok (.enter f args) w
structure CallVC (P : Program) (C : Ctx) (f : FuncId) (args : Array Value) (K : Value → Ctx → Prop) : Prop where
  out : Enters P f ∧ ∀ w, C.R w → Calls P f args w fun e w' => ∃ v C', e = .returned v ∧ Goes C w C' w' ∧ C'.R w' ∧ K v C'
structure IdxVC (A : Option Addr) (n : Nat) (i : Int) (sz : Nat) (K : Value → Prop) : Prop where
  out : ∃ a, A = some a ∧ 0 ≤ i ∧ i < n ∧ K (.pointer (some (a.add (i.toNat * sz))))
structure CutVC (A : Option Addr) (n c sz : Nat) (lo hi : Option Int) (K : Value → Prop) : Prop where
  out : 0 ≤ lo.getD 0 ∧ lo.getD 0 ≤ hi.getD n ∧ hi.getD n ≤ (if hi.isSome then c else n) ∧ K (.slice (if c = (lo.getD 0).toNat then A else A.map (·.add ((lo.getD 0).toNat * sz))) ((hi.getD n).toNat - (lo.getD 0).toNat) (c - (lo.getD 0).toNat))

/-- a value is brought to its form -/
def forceV (x : SV) (K : SV → Prop) : Prop := match x with
  | .v x => K (.v x)
  | .p b o => K (.p b o)
theorem forceV_eq (x : SV) (K : SV → Prop) : forceV x K = K x := by cases x <;> rfl
abbrev OutK := Ctx → SV → Option (Nat × TypeId × List Value) → Prop
def valK (x : SV) (K : Value → Prop) : Prop := match x with
  | .v x => K x
  | .p _ _ => False
def valsK (ev : Operand → SV) : List Operand → (List Value → Prop) → Prop
  | [], K => K []
  | x :: l, K => valK (ev x) fun v => valsK ev l fun vs => K (v :: vs)
def partsK (ev : Operand → SV) : List (Nat × Operand) → (List (Nat × Value) → Prop) → Prop
  | [], K => K []
  | (i, x) :: l, K => valK (ev x) fun v => partsK ev l fun vs => K ((i, v) :: vs)
def fillK (offs : List (Nat × Option Nat)) : List Value → List (Nat × Value) → (List Value → Prop) → Prop
  | cs, [], K => K cs
  | cs, (i, v) :: l, K => match offs[i]? with
    | some (o, some sz) => cellsK v fun vs => chk (Nat.beq vs.length sz && Nat.ble (o + vs.length) cs.length) (forceL (putAt cs o vs) fun cs' => fillK offs cs' l K)
    | _ => False
def intK (op : BinOp) (k : IntKind) (a b : Int) (K : Value → Prop) : Prop :=
  match op with
  | .add => K (.int k (k.wrap (a + b)))
  | .sub => K (.int k (k.wrap (a - b)))
  | .mul => K (.int k (k.wrap (a * b)))
  | .quo => b ≠ 0 ∧ K (.int k (k.wrap (a.tdiv b)))
  | .rem => b ≠ 0 ∧ K (.int k (a.tmod b))
  | .eql => K (.bool (a == b))
  | .neq => K (.bool (a != b))
  | .lss => K (.bool (decide (a < b)))
  | .leq => K (.bool (decide (a ≤ b)))
  | .gtr => K (.bool (decide (a > b)))
  | .geq => K (.bool (decide (a ≥ b)))
  | _ => False
def binK (P : Program) (op : BinOp) (t : TypeId) (x y : Operand) (C : Ctx) (a b : Value) (K : Value → Ctx → Prop) : Prop :=
  match a, b with
  | .int k a, .int k' b => match op with
    | .shl => SemVC P C (Op.shift .shl k a k' b) K
    | .shr => SemVC P C (Op.shift .shr k a k' b) K
    | .and => SemVC P C (binOp .and t (.int k a) (.int k' b)) K
    | .or => SemVC P C (binOp .or t (.int k a) (.int k' b)) K
    | .xor => SemVC P C (binOp .xor t (.int k a) (.int k' b)) K
    | .andNot => SemVC P C (binOp .andNot t (.int k a) (.int k' b)) K
    | op => chk (decide (k = k')) (intK op k a b fun v => K v C)
  | a, b => SemVC P C (do eqGuard op t x y a b; binOp op t a b) K
def callK (P : Program) (T : List (Nat × TyI)) (C : Ctx) (ty : TypeId) (c : Call) (ev : Operand → SV) (K : Value → Ctx → Prop) : Prop :=
  match c.callee with
  | .value (.func f) => valsK ev c.args.toList fun vs => CallVC P C f vs.toArray K
  | .builtin .len => valsK ev c.args.toList fun vs => match vs, c.argTypes.toList with
    | [.slice _ n _], [t] => match lookT T t with
      | some i => match i.d with
        | .sl _ => K (.int .i64 n) C
        | _ => False
      | none => False
    | vs, ts => SemVC P C (Builtin.len_ c.argTypes ty vs.toArray) K
  | .builtin .append => valsK ev c.args.toList fun vs => SemVC P C (Builtin.append_ c.argTypes ty vs.toArray) K
  | .builtin .copy => valsK ev c.args.toList fun vs => SemVC P C (Builtin.copy_ c.argTypes ty vs.toArray) K
  | .builtin .cap => valsK ev c.args.toList fun vs => SemVC P C (Builtin.cap_ c.argTypes ty vs.toArray) K
  | .builtin .max => valsK ev c.args.toList fun vs => SemVC P C (Builtin.max_ c.argTypes ty vs.toArray) K
  | .builtin .min => valsK ev c.args.toList fun vs => SemVC P C (Builtin.min_ c.argTypes ty vs.toArray) K
  | _ => False
def optK (ev : Operand → SV) (x : Option Operand) (K : Option Value → Prop) : Prop := match x with
  | none => K none
  | some x => valK (ev x) fun v => K (some v)
def sliceK (P : Program) (T : List (Nat × TyI)) (C : Ctx) (t : TypeId) (x : Value) (lo hi : Option Value) (K : Value → Ctx → Prop) : Prop :=
  match x, lookT T t with
  | .slice A n c, some i => match i.d with
    | .sl (some sz) => match lo, hi with
      | none, some (.int _ h) => CutVC A n c sz none (some h) fun v => K v C
      | some (.int _ l), none => CutVC A n c sz (some l) none fun v => K v C
      | some (.int _ l), some (.int _ h) => CutVC A n c sz (some l) (some h) fun v => K v C
      | lo, hi => SemVC P C (Instr.sliceAt t (.slice A n c) lo hi none) K
    | _ => False
  | x, _ => SemVC P C (Instr.sliceAt t x lo hi none) K
/-- the conditions of one operation -/
def opK (P : Program) (T : List (Nat × TyI)) (o : Oper) (C : Ctx) (ev : Operand → SV) (bx : Nat → Option (TypeId × List Value)) (K : OutK) : Prop :=
  match o.op with
  | .move x => forceV (ev x) fun x => K C x none
  | .assign x => forceV (ev x) fun x => K C x none
  | .pick c a b => match ev c with
    | .v (.bool t) => splitB t (forceV (ev a) fun x => K C x none) (forceV (ev b) fun x => K C x none)
    | _ => False
  | .alloc t => match o.dst with
    | some d => match bx d, lookT T t with
      | none, some i => cellsK i.zv fun cs => K C (.p d 0) (some (d, t, cs))
      | _, _ => False
    | none => False
  | .box t x => match o.dst with
    | some d => match bx d with
      | none => valK (ev x) fun x => cellsK x fun cs => K C (.p d 0) (some (d, t, cs))
      | _ => False
    | none => False
  | .build t parts => match lookT T t with
    | some i => match i.d with
      | .st offs => partsK ev parts.toList fun ps => cellsK i.zv fun cs => fillK offs cs ps fun cs => K C (.v (.agg cs.toArray)) none
      | _ => False
    | none => False
  | .fieldAddr t x f => match lookT T t with
    | some i => match i.d with
      | .st offs => match offs[f]? with
        | some (o, some (sz + 1)) => match ev x with
          | .p b off => K C (.p b (off + o)) none
          | .v (.pointer (some a)) => K C (.v (.pointer (some (a.add o)))) none
          | _ => False
        | _ => False
      | _ => False
    | none => False
  | .load t x => match ev x with
    | .p b off => match bx b, lookT T t with
      | some (_, cs), some i => match i.d.agg with
        | true => forceL ((cs.drop off).take i.size) fun l => chk (Nat.beq l.length i.size) (K C (.v (.agg l.toArray)) none)
        | false => match cs.drop off with
          | v :: _ => K C (.v v) none
          | [] => False
      | _, _ => False
    | .v x => SemVC P C (Instr.loadAt t x) fun v C' => K C' (.v v) none
  | .store t x y => match ev x with
    | .p b off => match bx b, lookT T t with
      | some (ty, cs), some i => valK (ev y) fun y => cellsK y fun vs => chk (Nat.beq vs.length i.size && Nat.ble (off + vs.length) cs.length && allOne vs) (forceL (putAt cs off vs) fun cs' => K C (.v undef) (some (b, ty, cs')))
      | _, _ => False
    | .v x => valK (ev y) fun y => StoVC P C (Instr.storeAt t x y) fun C' => K C' (.v undef) none
  | .binOp op t x y _ => valK (ev x) fun a => valK (ev y) fun b => binK P op t x y C a b fun v C' => K C' (.v v) none
  | .unOp op _ x => valK (ev x) fun a => match op, a with
    | .not, .bool b => K C (.v (.bool !b)) none
    | op, a => SemVC P C (Op.unary op a) fun v C' => K C' (.v v) none
  | .convert s d x => valK (ev x) fun a => SemVC P C (convert s d a) fun v C' => K C' (.v v) none
  | .extract x i => match ev x with
    | .v (.tuple vs) => match vs.toList[i]? with
      | some v => K C (.v v) none
      | none => False
    | _ => False
  | .indexAddr t x i => match ev x with
    | .v (.slice A n c) => match lookT T t, ev i with
      | some ti, .v (.int _ k) => match ti.d with
        | .sl (some sz) => IdxVC A n k sz fun v => K C (.v v) none
        | _ => False
      | _, _ => False
    | _ => False
  | .slice t x lo hi none => valK (ev x) fun x => optK ev lo fun lo => optK ev hi fun hi => sliceK P T C t x lo hi fun v C' => K C' (.v v) none
  | .buildSlice t n parts => partsK ev parts.toList fun ps => SemVC P C (Instr.buildSlice t n ps.toArray) fun v C' => K C' (.v v) none
  | .makeSlice t l c => valK (ev l) fun l => valK (ev c) fun c => SemVC P C (Instr.makeSlice t l c) fun v C' => K C' (.v v) none
  | .call c => callK P T C o.type c ev fun v C' => K C' (.v v) none
  | _ => False
end Go.Proofs.Ytahhihhfjimppaa
