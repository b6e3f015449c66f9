/- walk: Chain -/
import Derived.Test.YtahhihhfjimppaaBdG
import Derived.Test.YtahhihhfjimppaaBdI
namespace Go.Proofs.Ytahhihhfjimppaa
open Go.RowKit
set_option linter.unusedSimpArgs false
set_option linter.unusedVariables false
set_option maxRecDepth 100000

/-- an elision, as a value -/
structure El where
  e0 : Int
  e1 : Int
  A2 : Option Addr
  n2 : Nat
  c2 : Nat
  A3 : Option Addr
  n3 : Nat
  c3 : Nat
  A4 : Option Addr
  n4 : Nat
  c4 : Nat
  A5 : Option Addr
  n5 : Nat
  c5 : Nat
  A6 : Option Addr
  n6 : Nat
  c6 : Nat
  A7 : Option Addr
  n7 : Nat
  c7 : Nat
  e8 : Int
  e9 : Int
  A10 : Option Addr
  n10 : Nat
  c10 : Nat
def El.cs (e : El) : Array Value := #[.int .i64 e.e0, .int .i64 e.e1, .slice e.A2 e.n2 e.c2, .slice e.A3 e.n3 e.c3, .slice e.A4 e.n4 e.c4, .slice e.A5 e.n5 e.c5, .slice e.A6 e.n6 e.c6, .slice e.A7 e.n7 e.c7, .int .i64 e.e8, .int .i64 e.e9, .slice e.A10 e.n10 e.c10]
def El.val (e : El) : Value := .agg e.cs
/-- what an elision says: its strands, its splits -/
structure El.Is (e : El) (w : World) (us : List Nat) (l : List S.Five) : Prop where
  u : Strs w w.heap.size e.A6 us
  s : Rd w w.heap.size e.A7 (fcs l)
  nu : e.n6 = us.length
  nl : e.n7 = l.length
theorem El.Is.on {e : El} {w w' : World} {us : List Nat} {l : List S.Five} (h : e.Is w us l) (hb : Below w.heap.size w w') : e.Is w' us l := ⟨h.u.on hb, h.s.on hb, h.nu, h.nl⟩
theorem run_small {l : List S.Five} {s : S.State} (h : S.run S.init l = some s) (hl : l.length ≤ 60) : s.n ≤ 181 := by
  have := S.run_n h
  simp [S.init] at this
  omega

theorem lds_refl (P : List (Nat × Nat)) (x : Nat) : S.lds P x x = true := by simp [S.lds]
/-- what the walk of Chain wants of the ranks -/
theorem ranks_facts (P : List (Nat × Nat)) (us : List Nat) : (∀ r (h : r < (B.stN (S.lds P) us us.length).ranks.length), (∀ i ∈ ((B.stN (S.lds P) us us.length).ranks)[r], i < us.length) ∧ ((B.stN (S.lds P) us us.length).ranks)[r] ≠ [] ∧ ((B.stN (S.lds P) us us.length).ranks)[r].length ≤ us.length) := by
  intro r h
  have I := B.inv_stN (S.lds P) (lds_refl P) us us.length
  have hr := I.rows r h
  rw [List.getD_eq_getElem?_getD, List.getElem?_eq_getElem h, Option.getD_some] at hr
  refine ⟨fun i hi => ?_, fun e => ?_, (B.stN_okay (S.lds P) us us.length).rows _ (List.getElem_mem h)⟩
  · rw [hr, List.mem_filter] at hi
    exact List.mem_range.1 hi.1
  · obtain ⟨i, h1, h2⟩ := I.all r h
    have : i ∈ ((B.stN (S.lds P) us us.length).ranks)[r] := by rw [hr, List.mem_filter]; exact ⟨List.mem_range.2 h1, by simp [h2]⟩
    rw [e] at this
    simp at this
theorem Fam.rd {w : World} {B : Nat} {vs : List Value} {L : List (List Nat)} (h : Fam w B vs L) {r : Nat} (hr : r < L.length) : ∃ A c, vs[r]? = some (.slice A L[r].length c) ∧ Rd w w.heap.size A (ns L[r]) := by
  have hl := h.len
  have o := h.row r hr
  obtain ⟨A, c, hv⟩ := own_formk o
  rw [hv] at o
  exact ⟨A, c, by rw [List.getElem?_eq_getElem (by omega), hv], Rd.of_own o⟩

set_option maxHeartbeats 4000000 in
theorem chain_any (E : El) (us : List Nat) (l : List S.Five) (s : S.State) (w : World) (hE : E.Is w us l) (hl : l.length ≤ 60) (hu : us.length ≤ 100) (hrun : S.run S.init l = some s) (hs : ∀ u ∈ us, u < s.n) :
    Calls Try.prog 9 #[E.val] w (MadeN w (B.chain (S.lds s.places) us)) := by
  obtain ⟨i0, hi, hz0, hz1, hz2⟩ := info_parts info_int
  have hn9 := run_small hrun hl
  have hgd := S.run_good S.init_good hrun
  have hPl := hgd.places_length
  obtain ⟨hU, hS, hnu, hnl⟩ := hE
  obtain ⟨e0, e1, A2, n2, c2, A3, n3, c3, A4, n4, c4, A5, n5, c5, A6, n6, c6, A7, n7, c7, e8, e9, A10, n10, c10⟩ := E
  simp only at hU hS hnu hnl
  subst hnu hnl
  simp only [El.val, El.cs]
  go_enter Try.func9, Try.ntmps9
  go_upto_region 1 with (fail)
  have bk1 := Blk.new w 29 #[.int .i64 e0, .int .i64 e1, .slice A2 n2 c2, .slice A3 n3 c3, .slice A4 n4 c4, .slice A5 n5 c5, .slice A6 us.length c6, .slice A7 l.length c7, .int .i64 e8, .int .i64 e9, .slice A10 n10 c10]
  have b1 := bel_new w (.cells #[.int .i64 e0, .int .i64 e1, .slice A2 n2 c2, .slice A3 n3 c3, .slice A4 n4 c4, .slice A5 n5 c5, .slice A6 us.length c6, .slice A7 l.length c7, .int .i64 e8, .int .i64 e9, .slice A10 n10 c10] 29)
  generalize w.alloc (.cells #[.int .i64 e0, .int .i64 e1, .slice A2 n2 c2, .slice A3 n3 c3, .slice A4 n4 c4, .slice A5 n5 c5, .slice A6 us.length c6, .slice A7 l.length c7, .int .i64 e8, .int .i64 e9, .slice A10 n10 c10] 29) = w1 at *
  have bl1 : w.heap.size < w1.heap.size := bk1.lt
  have hU1 := hU.on b1
  have hS1 := hS.on b1
  have d7 := bk1.at_ (i := 7) rfl
  simp only [List.getElem_toArray, List.getElem_cons_succ, List.getElem_cons_zero] at d7
  have HRUN := Lib.hid hrun
  go_wp2_with (go_at_call 20; refine (of_any l A7 c7 _ hS1 hl).mono ?_)
  rintro e2 w2 ⟨b2, h | ⟨s', g, cap, hrun', rfl, ho, hg⟩⟩
  · rw [hrun] at h; cases h.1
  · obtain rfl : s' = s := by rw [hrun] at hrun'; injection hrun' with h; exact h.symm
    have hU2 := hU1.on b2
    have bk2 := bk1.below b2 bl1
    have rP := ho.rdk
    have b12 := b1.trans (b2.mono b1.size)
    clear hrun hrun' ho hg hU hS hU1 hS1 d7 bk1 b1 b2 HRUN hgd
    generalize s'.places = P at *
    generalize s'.n = nn at *
    subst hPl
    have d6 := bk2.at_ (i := 6) rfl
    simp only [List.getElem_toArray, List.getElem_cons_succ, List.getElem_cons_zero] at d6
    go_wp2_with (go_at_call 21; refine (ranked_any us P A6 (some ⟨g, 0, none⟩) c6 cap w2 hU2 rP hu (by omega) (fun u hu => by have := hs u hu; omega)).mono ?_)
    rintro e3 w3 ⟨v, vs, rfl, ho3, hf3, b3⟩
    have hLf := ranks_facts P us
    have HC : Hid (B.chain (S.lds P) us = if (B.stN (S.lds P) us us.length).ranks.length = 0 then [] else (B.chainFrom (S.lds P) us (B.stN (S.lds P) us us.length).ranks ((B.stN (S.lds P) us us.length).ranks.length - 1) (((B.stN (S.lds P) us us.length).ranks.getD ((B.stN (S.lds P) us us.length).ranks.length - 1) []).headD 0) [((B.stN (S.lds P) us us.length).ranks.getD ((B.stN (S.lds P) us us.length).ranks.length - 1) []).headD 0]).reverse) := Lib.hid rfl
    have hL9 := (B.stN_okay (S.lds P) us us.length).len
    generalize (B.stN (S.lds P) us us.length).ranks = L at *
    obtain ⟨AR, cR, hv⟩ := own_formk ho3
    subst hv
    have hU3 := hU2.on b3
    have bk3 := bk2.below b3 (World.block_lt_of_cell? w2 _ d6)
    have rP3 := rP.on b3
    have b13 := b12.trans (b3.mono b12.size)
    have hf4 := hf3
    have ho4 := ho3
    clear ho3 hf3 hU2 rP b12 d6 bk2 b3
    have HLF := Lib.hid hLf
    clear hLf
    by_cases h0 : L.length = 0
    · have HC2 : Hid (B.chain (S.lds P) us = []) := Lib.hid (by rw [HC.out, if_pos h0])
      have q0 : ((L.length : Int) == 0) = true := by rw [h0]; rfl
      have q1 : (L.length == 0) = true := by rw [h0]; rfl
      clear h0 HC
      go_wp2_with fail
      go_ret
      rw [HC2.out]
      exact ⟨none, 0, rfl, .inl rfl, b13⟩
    · obtain ⟨m, hm⟩ : ∃ m, L.length = m + 1 := ⟨L.length - 1, by omega⟩
      have HM := Lib.hid hm
      have HC2 : Hid (B.chain (S.lds P) us = (B.chainFrom (S.lds P) us L m ((L.getD m []).headD 0) [(L.getD m []).headD 0]).reverse) := Lib.hid (by rw [HC.out, if_neg h0, hm]; rfl)
      clear HC h0
      obtain ⟨gR, capR, hvR, _, _⟩ := ho4.form (by omega)
      simp only [Value.slice.injEq, true_and] at hvR
      obtain ⟨rfl, rfl⟩ := hvR
      have hgR : gR < w3.heap.size := (ho4.lt gR rfl).2
      have HRW : Hid (∀ k, k < m + 1 → ∀ h : k < L.length, ∃ A c, w3.cell? ⟨gR, k, none⟩ = some (.slice A L[k].length c) ∧ Rd w3 w3.heap.size A (ns L[k])) := Lib.hid (fun k hk h => by
        obtain ⟨A, c, h1, h2⟩ := hf4.rd h
        refine ⟨A, c, ?_, h2⟩
        rw [World.ownsRow.cellAt ho4 k (by omega), h1])
      have hm9 : m ≤ 100 := by omega
      rw [hm]
      clear ho4 hf4 hm hL9
      obtain ⟨Am, cm, cO, rM⟩ := HRW.out m (by omega) (by have := HM.out; omega)
      obtain ⟨hi1, hne, hl9⟩ := HLF.out m (by have := HM.out; omega)
      obtain ⟨n0, l0, hnl⟩ : ∃ n0 l0, L[m]'(by have := HM.out; omega) = n0 :: l0 := by
        cases h : L[m]'(by have := HM.out; omega) with
        | nil => exact absurd h hne
        | cons a b => exact ⟨a, b, rfl⟩
      rw [hnl] at cO rM hi1
      have hn0 := hi1 n0 (by simp)
      have HHD : Hid ((L.getD m []).headD 0 = n0) := Lib.hid (by rw [List.getD_eq_getElem?_getD, List.getElem?_eq_getElem (by have := HM.out; omega), Option.getD_some, hnl]; rfl)
      obtain ⟨bM, oM, rfl, hbM, cM⟩ := rM.at_ (k := 0) (u := .int .i64 (n0 : Int)) rfl
      simp only [Nat.add_zero] at cM
      have hl0 : (n0 :: l0).length = l0.length + 1 := rfl
      rw [hl0] at cO
      have hl0b : l0.length ≤ 100 := by rw [hnl] at hl9; simp at hl9; omega
      clear hl0 hl9 hne hi1 hnl rM
      have HCT : Hid (B.chain (S.lds P) us = (B.chainFrom (S.lds P) us L m n0 [n0]).reverse) := Lib.hid (by rw [HC2.out, HHD.out])
      clear HC2 HHD
      go_upto_region 10 with (fail)
      have o0 : (w3.alloc (.cells #[.int .i64 (n0 : Int)] 3)).ownsRow w3.heap.size 3 1 (.slice (some ⟨w3.heap.size, 0, none⟩) 1 1) 1 (ns [n0]) := World.ownsRow_lit w3 #[.int .i64 (n0 : Int)] 1 (Nat.le_refl _) (by simp [maxLen]) rfl
      have bb0 := bel_new w3 (.cells #[.int .i64 (n0 : Int)] 3)
      clear cO cM hbM
      go_loopg [6, 7, 8] m (fun gk s6 s7 s8 wr => ∃ (next : Nat) (pl : List Nat) (A : Option Addr) (c : Nat), s6 = .int .i64 next ∧ s7 = .slice A pl.length c ∧ s8 = .int .i64 ((gk : Int) - 1) ∧ wr.ownsRow w3.heap.size 3 1 s7 pl.length (ns pl) ∧ Below w3.heap.size w3 wr ∧ next < us.length ∧ pl.length + gk ≤ 200 ∧ gk ≤ m ∧ Hid (B.chainFrom (S.lds P) us L gk next pl = B.chainFrom (S.lds P) us L m n0 [n0]))
      case atStart => exact ⟨n0, [n0], _, _, rfl, rfl, by congr 1; omega, o0, bb0, hn0, by simp; omega, Nat.le_refl _, Lib.hid rfl⟩
      case round =>
        obtain ⟨next, pl, Ap, cp, rfl, rfl, rfl, op, hb, hnx, hpl, hkm, HCF⟩ := hrel
        clear o0 bb0
        cases gk with
        | zero =>
          have HT : Hid (pl = B.chainFrom (S.lds P) us L m n0 [n0]) := Lib.hid HCF.out
          have q0 : decide ((((0 : Nat) : Int) - 1) ≥ 0) = false := by decide
          have rp := Rd.of_own op
          have b14 := b13.trans (hb.mono b13.size)
          clear HCF
          go_wp2_with (go_at_call 23; refine (rising_any pl _ _ _ rp (by omega)).mono ?_)
          rintro e5 w5 ⟨A5', c5', rfl, r5, b5⟩
          have b15 := b14.trans (b5.mono b14.size)
          go_wp2_with fail
          go_ret
          rw [HCT.out, ← HT.out]
          exact ⟨A5', c5', by rw [List.length_reverse]; rfl, r5, b15⟩
        | succ k =>
          rw [show (((k + 1 : Nat) : Int) - 1) = (k : Int) by omega]
          obtain ⟨Ak, ck, cO, rM⟩ := HRW.out k (by omega) (by have := HM.out; omega)
          obtain ⟨hi1, hne, hl9⟩ := HLF.out k (by have := HM.out; omega)
          have HGD : Hid (L.getD k [] = L[k]'(by have := HM.out; omega)) := Lib.hid (by rw [List.getD_eq_getElem?_getD, List.getElem?_eq_getElem (by have := HM.out; omega), Option.getD_some])
          generalize L[k]'(by have := HM.out; omega) = row at *
          have HI1 := Lib.hid hi1
          have HCK : Hid ((∀ i, B.pick (S.lds P) us next row = some i → B.chainFrom (S.lds P) us L (k + 1) next pl = B.chainFrom (S.lds P) us L k i (pl ++ [i])) ∧ (B.pick (S.lds P) us next row = none → B.chainFrom (S.lds P) us L (k + 1) next pl = B.chainFrom (S.lds P) us L k next pl)) := Lib.hid ⟨fun i h => by rw [B.chainFrom, HGD.out, h], fun h => by rw [B.chainFrom, HGD.out, h]⟩
          clear hi1 hne HGD
          have cO2 := (hb.cell (p := ⟨gR, k, none⟩) hgR).trans cO
          have hgR2 : gR < wr.heap.size := Nat.lt_of_lt_of_le hgR hb.size
          have hkI : (k : Int) < (m : Int) + 1 := by omega
          have hkI2 : decide ((k : Int) ≥ 0) = true := by simp
          obtain ⟨W4, rfl⟩ : ∃ W4, W4 = wr := ⟨wr, rfl⟩
          go_upto_region 13 with (fail)
          go_loopg [6, 7, 48] row.length (fun gk s6 s7 s48 wr => ∃ (j : Nat), j + gk = row.length ∧ s6 = .int .i64 next ∧ s7 = .slice Ap pl.length cp ∧ s48 = .int .i64 j ∧ wr.ownsRow w3.heap.size 3 1 (.slice Ap pl.length cp) pl.length (ns pl) ∧ Below w3.heap.size w3 wr ∧ Hid (B.pick (S.lds P) us next row = B.pick (S.lds P) us next (row.drop j)))
          case atStart => exact ⟨0, by omega, rfl, rfl, rfl, op, hb, Lib.hid rfl⟩
          case round =>
            obtain ⟨j, hj, rfl, rfl, rfl, op2, hb2, HPK⟩ := hrel
            clear cO2 op hb
            have HJ := Lib.hid hj
            by_cases hltj : j < row.length
            · clear hj
              have hltJ : (j : Int) < (row.length : Int) := by omega
              have hs2 := hb2.size
              obtain ⟨bk, ok, rfl, hbk, ci⟩ := (rM.below hb2).at_ (ns_at row j hltj)
              have hi9 := HI1.out _ (List.getElem_mem hltj)
              have HDJ : Hid (B.pick (S.lds P) us next row = if (decide (row[j] < next) && S.lds P (B.su us row[j]) (B.su us next)) = true then some row[j] else B.pick (S.lds P) us next (row.drop (j + 1))) := Lib.hid (by
                rw [HPK.out, List.drop_eq_getElem_cons hltj, B.pick, List.find?_cons]
                split <;> rename_i h
                · rw [if_pos h]
                · rw [if_neg (by rw [h]; decide)]; rfl)
              generalize row[j] = i at *
              obtain ⟨bU, oU, rfl, hbU, cu1⟩ := (hU3.below hb2).at_ hi9
              obtain ⟨bU', oU', hUe, _, cu2⟩ := (hU3.below hb2).at_ hnx
              injection hUe with hUe
              injection hUe with hU1 hU2
              subst hU1 hU2
              rw [← B.su_at hi9] at cu1
              rw [← B.su_at hnx] at cu2
              have bk4 := bk3.below hb2 bk3.lt
              have d6 := bk4.at_ (i := 6) rfl
              simp only [List.getElem_toArray, List.getElem_cons_succ, List.getElem_cons_zero] at d6
              have hiI : (i : Int) < (us.length : Int) := by omega
              have hnI : (next : Int) < (us.length : Int) := by omega
              have hb4l : w.heap.size < wr.heap.size := bk4.lt
              have hbU2 : bU < wr.heap.size := by omega
              by_cases hin : i < next
              · have hd : decide ((i : Int) < (next : Int)) = true := by simp; omega
                have HKW : Hid (∀ w', Below wr.heap.size wr w' → w'.cell? ⟨w.heap.size, 6, none⟩ = some (.slice (some ⟨bU, oU, none⟩) us.length c6) ∧ w'.cell? ⟨bU, oU + i * 10, none⟩ = some (.int .i64 (B.su us i : Int)) ∧ w'.cell? ⟨bU, oU + next * 10, none⟩ = some (.int .i64 (B.su us next : Int))) :=
                  Lib.hid (fun w' hb => ⟨(hb.cell (p := ⟨w.heap.size, 6, none⟩) hb4l).trans d6, (hb.cell (p := ⟨bU, oU + i * 10, none⟩) hbU2).trans cu1, (hb.cell (p := ⟨bU, oU + next * 10, none⟩) hbU2).trans cu2⟩)
                have rP4 := (rP3.below hb2).more hs2
                rw [decide_eq_true hin, Bool.true_and] at HDJ
                generalize B.su us i = si at *
                generalize B.su us next = sn at *
                go_wp2_with fail
                go_region_held3 (fun w' => w'.cell? ⟨w.heap.size, 6, none⟩ = some (.slice (some ⟨bU, oU, none⟩) us.length c6) ∧ w'.cell? ⟨bU, oU + i * 10, none⟩ = some (.int .i64 (si : Int)) ∧ w'.cell? ⟨bU, oU + next * 10, none⟩ = some (.int .i64 (sn : Int)))
                  (first | exact HKW.out _ b6 | go_keep)
                  (first | (go_at_call 22; refine (leads_any P _ _ si sn _ rP4.drew (by omega)).mono ?_; rintro e6 w6 ⟨rfl, b6'⟩; have b6 := (Below.refl wr.heap.size wr).drew.trans b6'))
                have op3 : w6.ownsRow w3.heap.size 3 1 (.slice Ap pl.length cp) pl.length (ns pl) := op2.kept (grown_of_below b6) (by cases h : (Value.slice Ap pl.length cp).ownBlock with | none => exact .inl rfl | some g => exact .inr (by simp))
                have hb6 := hb2.trans (b6.mono hs2)
                have hs6 := hb6.size
                clear op2 hb2 b6' cu1 cu2 d6 bk4 rP4 HKW ci
                cases hle : S.lds P si sn
                · rw [hle] at HDJ
                  have HP2 := Lib.hid (HDJ.out.trans (if_neg (by decide)))
                  clear hle HDJ
                  go_wp2_with fail
                  go_roundg (gk - 1)
                  case measure => have := HJ.out; omega
                  case rel => exact ⟨j + 1, by have := HJ.out; omega, rfl, rfl, by go_num, op3, hb6, HP2⟩
                · rw [hle] at HDJ
                  have HP2 := Lib.hid (HDJ.out.trans (if_pos rfl))
                  clear hle HDJ b6
                  go_wp2_with (at_builtin; refine wpList_append_own_at _ rfl (.tmp 72) (.tmp 74) 23 rfl w3.heap.size 3 i0 _ 1 8 Try.underlying23 hi hz0 hz1 hz2 rfl (by omega) _ _ _ rfl (op3.alloc _) ⟨w6.heap.size, 0, none⟩ 1 1 [.int .i64 (i : Int)] rfl rfl ?a1 ?a2 ?a3 ?a4 ?a5 ?_)
                  (first | (case a1 => exact cell_one_new _ _ _) | skip)
                  (first | (case a2 => simp [Value.oneCell']) | skip)
                  (first | (case a3 => simp only [maxLen]; omega) | skip)
                  (first | (case a4 => omega) | skip)
                  (first | (case a5 => omega) | (case a5 => simp; omega) | skip)
                  intro v7 w7 ho7 hg7 _ _
                  have hb7 : Below w3.heap.size w3 w7 := (hb6.alloc hs6 _).grown hg7 (by simp; omega) fun k hk => (op3.lt k hk).1
                  obtain ⟨A8, c8, hv8⟩ := own_formk ho7
                  subst hv8
                  have ho8 : w7.ownsRow w3.heap.size 3 1 (.slice A8 (pl.length + 1) c8) (pl.length + 1) (ns (pl ++ [i])) := by rw [ns_append]; exact ho7
                  clear ho7 hg7 op3 hb6
                  go_wp2_with fail
                  go_roundg k
                  case measure => omega
                  case rel => exact ⟨i, pl ++ [i], A8, c8, rfl, by simp, rfl, by rw [List.length_append]; exact ho8, hb7, hi9, by simp; omega, by omega, Lib.hid ((HCK.out.1 i HP2.out).symm.trans HCF.out)⟩
              · have hd : decide ((i : Int) < (next : Int)) = false := by simp; omega
                have hd2 : decide (i < next) = false := by simpa using hin
                rw [hd2, Bool.false_and] at HDJ
                have HP2 := Lib.hid (HDJ.out.trans (if_neg (by decide)))
                clear HDJ hin cu1 cu2 d6 bk4
                go_wp2_with fail
                go_quiet (fail)
                go_wp2_with fail
                go_roundg (gk - 1)
                case measure => have := HJ.out; omega
                case rel => exact ⟨j + 1, by have := HJ.out; omega, rfl, rfl, by go_num, op2, below_drewN hb2 _, HP2⟩
            · have HP2 : Hid (B.pick (S.lds P) us next row = none) := Lib.hid (by rw [HPK.out, List.drop_of_length_le (by omega)]; rfl)
              clear hj HPK
              go_wp2_with fail
              go_roundg k
              case measure => omega
              case rel => exact ⟨next, pl, Ap, cp, rfl, rfl, rfl, op2, hb2, hnx, by omega, by omega, Lib.hid ((HCK.out.2 HP2.out).symm.trans HCF.out)⟩
end Go.Proofs.Ytahhihhfjimppaa
