/- Texts for the law BoundSerial, part 10: no statement of its own, lemmas for the proof; their conditions stand in them. -/
import Derived.Test.YtahhihhfjimppaaBoundSerialM9
import Derived.IntWalk
/- The document's elision, in a typed heap: Little. -/
namespace Go.Proofs.Ytahhihhfjimppaa
open Go.RowKit
set_option linter.unusedSimpArgs false
set_option linter.unusedVariables false
set_option maxRecDepth 100000

def LittleΦ (uses tasks : Int) (z' : Zp) (G' : Gh) (v : Value) : Prop := ∃ (d : Wd) (b : Bool), v = .tuple #[d.e, .bool b] ∧ d.Ok G' ∧ d.nu ≤ 1000000 ∧ d.np ≤ 1000000 ∧ (b = true → d.err = 0 ∧ d.nu ≤ uses ∧ d.tasks ≤ tasks ∧ (d.tasks ≤ 1 → z'.s = true ∧ d.np = 0))
theorem little_T (c : Cd) (B : Nat → Bd) (w : World) (hc : c.Is B Gh.none w) (hn : c.nf ≤ 9223372036854775807) (uses tasks : Int) : Calls Try.prog 14 #[c.val, .int .i64 uses, .int .i64 tasks] w (PostT ⟨true, 0⟩ Gh.none w (LittleΦ uses tasks)) := by
  have tw : TW ⟨true, 0⟩ Gh.none w := TW.nil _ w
  refine go14 (by rfl) (CtxT ⟨true, 0⟩ Gh.none Gh.none w) (CtxT.start tw) ?_
  conv => whnf
  refine JoinVC.on (X := Bool) (fun q => [(1, .v (.int .i64 uses)), (2, .v (.int .i64 tasks)), (3, .p 3 0), (6, .p 6 0), (7, .v (.bool false)), (16, .v (.bool q))]) (fun _ => [(3, 54, c.l), (6, 29, [.int .i64 0, .int .i64 0, .slice none 0 0, .slice none 0 0, .slice none 0 0, .slice none 0 0, .slice none 0 0, .slice none 0 0, .int .i64 0, .int .i64 0, .slice none 0 0])]) (fun _ => CtxT ⟨true, 0⟩ Gh.none Gh.none w) (fun _ => True) ?_ ?_
  · conv => whnf
    repeat' (first
      | (refine CallVC.readT [c.val] en25 isB (fun w' tw' ex' => few_B c B Gh.none w' (hc.ex ex') hn) ?_; rintro v ⟨b, rfl⟩; conv => whnf)
      | (refine CallVC.readT [c.val] en26 (fun v => ∃ b, v = .bool b ∧ (b = true → RightC c B)) (fun w' tw' ex' => rightC_B c B Gh.none w' (hc.ex ex')) ?_; rintro v ⟨b, rfl, hb⟩; conv => whnf)
      | (refine splitB.not (fun h => ?_) (fun h => ?_) <;> conv => whnf)
      | exact Wk.on _ trivial ⟨rfl, rfl, rfl, rfl, rfl, rfl, trivial⟩ ⟨rfl, rfl, trivial⟩)
  · intro q r _
    conv => whnf
    refine splitB.intro (fun h => ?_) (fun h => ?_)
    · conv => whnf
      intro w' hw'
      exact ⟨_, _, _, rfl, hw'.1, hw'.2, Wd.zero, false, rfl, Wd.ok_zero _ 0 0, Nat.zero_le _, Nat.zero_le _, fun h => by cases h⟩
    conv => whnf
    refine CallVC.ofT [c.val] en27 RunΦ (fun w' tw' ex' => ?_) ?_
    · exact (run10_T c B w' (hc.ex ex')).mono fun e w2 h => h
    rintro z1 G1 v l1 ⟨d, rfl, hd, b1, b2, hs⟩
    conv => whnf
    repeat' (first
      | (refine JoinVC.go ?_; conv => whnf)
      | (refine splitB.eq (fun h => ?_) (fun h => ?_) <;> conv => whnf)
      | (refine splitB.dec (fun h => ?_) (fun h => ?_) <;> conv => whnf)
      | (refine And.intro ?_ ?_ <;> conv => whnf)
      | (intro w' hw'; exact ⟨_, _, _, rfl, hw'.1, hw'.2, d, false, rfl, hd, b1, b2, fun h => by cases h⟩)
      | (intro w' hw'; exact ⟨_, _, _, rfl, hw'.1, hw'.2, d, _, rfl, hd, b1, b2, fun h => ⟨by assumption, by assumption, of_decide_eq_true h, hs (by assumption)⟩⟩))
end Go.Proofs.Ytahhihhfjimppaa
/- Chain makes a new row. -/
namespace Go.Proofs.Ytahhihhfjimppaa
open Go.RowKit
set_option linter.unusedSimpArgs false
set_option linter.unusedVariables false
set_option maxRecDepth 100000

/-- a row of numbers, made by the call, in a new block -/
def MadeF (w : World) (news : List Nat) (e : Ending) (w' : World) : Prop :=
  ∃ A c, e = .returned (.slice A news.length c) ∧ Rd w' w'.heap.size A (ns news) ∧ Below w.heap.size w w' ∧ (news = [] ∨ ∃ b, A = some ⟨b, 0, none⟩ ∧ w.heap.size ≤ b)
theorem rising_new (xs : List Nat) (A : Option Addr) (c : Nat) (w : World) (hr : Rd w w.heap.size A (ns xs)) (hx : xs.length ≤ 1000) :
    Calls Try.prog 23 #[.slice A xs.length c] w (MadeF w xs.reverse) := by
  obtain ⟨i0, hi, hz0, hz1, hz2⟩ := info_parts info_int
  go_enter Try.func23, Try.ntmps23
  go_wp2_with (at_make; refine wpList_make_full _ rfl (.tmp 8) (.tmp 8) 23 rfl 0 3 i0 _ 1 Try.underlying23 hi hz0 hz1 .i64 .i64 xs.length xs.length xs.length rfl rfl rfl rfl ?d1 ?d2 ?d3 ?_)
  case d1 => rw [hz2]; omega
  case d2 => simp only [maxLen]; omega
  case d3 => simp
  intro w1 ho1 hg1
  rw [made_ns] at ho1
  have hfr1 : Fr (fun k => k = w.heap.size) w w1 := (Fr.refl _ w).grown hg1 (by simp)
  clear hg1
  generalize hgP : w.heap.size = gP at *
  have HGP := Lib.hid hgP
  clear hgP
  go_wp2_with fail
  go_loopg [11] xs.length (fun gk kk wr => ∃ (k : Nat) (P : List Nat), k + gk = xs.length ∧ kk = .int .i64 k ∧ Own wr 3 1 gP xs.length xs.length (ns P) ∧ Hid (P = xs.reverse.take k ++ List.replicate (xs.length - k) 0) ∧ Fr (fun k => k = gP) w wr)
  case atStart => exact ⟨0, List.replicate xs.length 0, by omega, rfl, ho1, Lib.hid (by simp), hfr1⟩
  case round =>
    obtain ⟨k, P, hk, rfl, ho, HP, hfr⟩ := hrel
    have HK := Lib.hid hk
    have HPL : Hid (P.length = xs.length) := Lib.hid (by rw [HP.out]; simp; omega)
    clear ho1 hfr1
    by_cases hlt : k < xs.length
    · clear hk
      have hltI : (k : Int) < (xs.length : Int) := by omega
      have hrw : Rd wr gP A (ns xs) := hr.keep (fun p hp => hfr.cell (by have := HGP.out; omega) (by omega))
      obtain ⟨b1, o1, rfl, hb1, f1⟩ := hrw.at_ (ns_at xs (xs.length - 1 - k) (by omega))
      have ca := ho.cell k (by omega)
      rw [ns_at P k (by rw [HPL.out]; exact hlt)] at ca
      have fa := ho.frozen k
      have HX : Hid (P.set k (xs[xs.length - 1 - k]'(by omega)) = xs.reverse.take (k + 1) ++ List.replicate (xs.length - (k + 1)) 0) := Lib.hid (by
        have e1 : xs[xs.length - 1 - k]'(by omega) = xs.reverse[k]'(by simpa using hlt) := by rw [List.getElem_reverse]
        rw [e1, HP.out, List.take_succ_eq_append_getElem (by simpa using hlt), List.set_append]
        have hlen : (xs.reverse.take k).length = k := by simp; omega
        rw [if_neg (by omega), hlen, Nat.sub_self]
        obtain ⟨m, hm⟩ : ∃ m, xs.length - k = m + 1 := ⟨xs.length - k - 1, by omega⟩
        rw [hm, show xs.length - (k + 1) = m by omega, List.replicate_succ, List.set_cons_zero, List.append_assoc]
        rfl)
      have ho2 : Own (wr.setCell ⟨gP, k, none⟩ (.int .i64 ((xs[xs.length - 1 - k]'(by omega) : Nat) : Int))) 3 1 gP xs.length xs.length (ns (P.set k (xs[xs.length - 1 - k]'(by omega)))) := by rw [← ns_set]; exact ho.set k _
      generalize xs[xs.length - 1 - k]'(by omega) = x at *
      have hfr2 := hfr.setCell (p := ⟨gP, k, none⟩) (.inl rfl) (.int .i64 (x : Int))
      clear ho hrw
      go_wp2_with fail
      go_roundg (gk - 1)
      case measure => have := HK.out; omega
      case rel => exact ⟨k + 1, P.set k x, by have := HK.out; omega, by go_num, ho2, HX, hfr2⟩
    · clear hk
      have e1 : P = xs.reverse := by
        have h1 := HP.out
        rw [List.take_of_length_le (by simp; omega), show xs.length - k = 0 by omega] at h1
        simpa using h1
      subst e1
      have r1 := ho.rd
      go_wp2_with fail
      go_ret
      exact ⟨some ⟨gP, 0, none⟩, xs.length, by rw [List.length_reverse]; rfl, r1, hfr.below (Nat.le_refl _) (fun k hk => by have := HGP.out; omega), .inr ⟨gP, rfl, by have := HGP.out; omega⟩⟩
set_option maxHeartbeats 4000000 in
theorem chain_new (E : El) (us : List Nat) (l : List S.Five) (s : S.State) (w : World) (hE : E.Is w us l) (hl : l.length ≤ 60) (hu : us.length ≤ 100) (hrun : S.run S.init l = some s) (hs : ∀ u ∈ us, u < s.n) :
    Calls Try.prog 9 #[E.val] w (MadeF w (B.chain (S.lds s.places) us)) := by
  obtain ⟨i0, hi, hz0, hz1, hz2⟩ := info_parts info_int
  have hn9 := run_small hrun hl
  have hgd := S.run_good S.init_good hrun
  have hPl := hgd.places_length
  obtain ⟨hU, hS, hnu, hnl⟩ := hE
  obtain ⟨e0, e1, A2, n2, c2, A3, n3, c3, A4, n4, c4, A5, n5, c5, A6, n6, c6, A7, n7, c7, e8, e9, A10, n10, c10⟩ := E
  simp only at hU hS hnu hnl
  subst hnu hnl
  simp only [El.val, El.cs]
  go_enter Try.func9, Try.ntmps9
  go_upto_region 1 with (fail)
  have bk1 := Blk.new w 29 #[.int .i64 e0, .int .i64 e1, .slice A2 n2 c2, .slice A3 n3 c3, .slice A4 n4 c4, .slice A5 n5 c5, .slice A6 us.length c6, .slice A7 l.length c7, .int .i64 e8, .int .i64 e9, .slice A10 n10 c10]
  have b1 := bel_new w (.cells #[.int .i64 e0, .int .i64 e1, .slice A2 n2 c2, .slice A3 n3 c3, .slice A4 n4 c4, .slice A5 n5 c5, .slice A6 us.length c6, .slice A7 l.length c7, .int .i64 e8, .int .i64 e9, .slice A10 n10 c10] 29)
  generalize w.alloc (.cells #[.int .i64 e0, .int .i64 e1, .slice A2 n2 c2, .slice A3 n3 c3, .slice A4 n4 c4, .slice A5 n5 c5, .slice A6 us.length c6, .slice A7 l.length c7, .int .i64 e8, .int .i64 e9, .slice A10 n10 c10] 29) = w1 at *
  have bl1 : w.heap.size < w1.heap.size := bk1.lt
  have hU1 := hU.on b1
  have hS1 := hS.on b1
  have d7 := bk1.at_ (i := 7) rfl
  simp only [List.getElem_toArray, List.getElem_cons_succ, List.getElem_cons_zero] at d7
  have HRUN := Lib.hid hrun
  go_wp2_with (go_at_call 20; refine (of_any l A7 c7 _ hS1 hl).mono ?_)
  rintro e2 w2 ⟨b2, h | ⟨s', g, cap, hrun', rfl, ho, hg⟩⟩
  · rw [hrun] at h; cases h.1
  · obtain rfl : s' = s := by rw [hrun] at hrun'; injection hrun' with h; exact h.symm
    have hU2 := hU1.on b2
    have bk2 := bk1.below b2 bl1
    have rP := ho.rdk
    have b12 := b1.trans (b2.mono b1.size)
    clear hrun hrun' ho hg hU hS hU1 hS1 d7 bk1 b1 b2 HRUN hgd
    generalize s'.places = P at *
    generalize s'.n = nn at *
    subst hPl
    have d6 := bk2.at_ (i := 6) rfl
    simp only [List.getElem_toArray, List.getElem_cons_succ, List.getElem_cons_zero] at d6
    go_wp2_with (go_at_call 21; refine (ranked_any us P A6 (some ⟨g, 0, none⟩) c6 cap w2 hU2 rP hu (by omega) (fun u hu => by have := hs u hu; omega)).mono ?_)
    rintro e3 w3 ⟨v, vs, rfl, ho3, hf3, b3⟩
    have hLf := ranks_facts P us
    have HC : Hid (B.chain (S.lds P) us = if (B.stN (S.lds P) us us.length).ranks.length = 0 then [] else (B.chainFrom (S.lds P) us (B.stN (S.lds P) us us.length).ranks ((B.stN (S.lds P) us us.length).ranks.length - 1) (((B.stN (S.lds P) us us.length).ranks.getD ((B.stN (S.lds P) us us.length).ranks.length - 1) []).headD 0) [((B.stN (S.lds P) us us.length).ranks.getD ((B.stN (S.lds P) us us.length).ranks.length - 1) []).headD 0]).reverse) := Lib.hid rfl
    have hL9 := (B.stN_okay (S.lds P) us us.length).len
    generalize (B.stN (S.lds P) us us.length).ranks = L at *
    obtain ⟨AR, cR, hv⟩ := own_formk ho3
    subst hv
    have hU3 := hU2.on b3
    have bk3 := bk2.below b3 (World.block_lt_of_cell? w2 _ d6)
    have rP3 := rP.on b3
    have b13 := b12.trans (b3.mono b12.size)
    have hf4 := hf3
    have ho4 := ho3
    clear ho3 hf3 hU2 rP b12 d6 bk2 b3
    have HLF := Lib.hid hLf
    clear hLf
    by_cases h0 : L.length = 0
    · have HC2 : Hid (B.chain (S.lds P) us = []) := Lib.hid (by rw [HC.out, if_pos h0])
      have q0 : ((L.length : Int) == 0) = true := by rw [h0]; rfl
      have q1 : (L.length == 0) = true := by rw [h0]; rfl
      clear h0 HC
      go_wp2_with fail
      go_ret
      rw [HC2.out]
      exact ⟨none, 0, rfl, .inl rfl, b13, .inl rfl⟩
    · obtain ⟨m, hm⟩ : ∃ m, L.length = m + 1 := ⟨L.length - 1, by omega⟩
      have HM := Lib.hid hm
      have HC2 : Hid (B.chain (S.lds P) us = (B.chainFrom (S.lds P) us L m ((L.getD m []).headD 0) [(L.getD m []).headD 0]).reverse) := Lib.hid (by rw [HC.out, if_neg h0, hm]; rfl)
      clear HC h0
      obtain ⟨gR, capR, hvR, _, _⟩ := ho4.form (by omega)
      simp only [Value.slice.injEq, true_and] at hvR
      obtain ⟨rfl, rfl⟩ := hvR
      have hgR : gR < w3.heap.size := (ho4.lt gR rfl).2
      have HRW : Hid (∀ k, k < m + 1 → ∀ h : k < L.length, ∃ A c, w3.cell? ⟨gR, k, none⟩ = some (.slice A L[k].length c) ∧ Rd w3 w3.heap.size A (ns L[k])) := Lib.hid (fun k hk h => by
        obtain ⟨A, c, h1, h2⟩ := hf4.rd h
        refine ⟨A, c, ?_, h2⟩
        rw [World.ownsRow.cellAt ho4 k (by omega), h1])
      have hm9 : m ≤ 100 := by omega
      rw [hm]
      clear ho4 hf4 hm hL9
      obtain ⟨Am, cm, cO, rM⟩ := HRW.out m (by omega) (by have := HM.out; omega)
      obtain ⟨hi1, hne, hl9⟩ := HLF.out m (by have := HM.out; omega)
      obtain ⟨n0, l0, hnl⟩ : ∃ n0 l0, L[m]'(by have := HM.out; omega) = n0 :: l0 := by
        cases h : L[m]'(by have := HM.out; omega) with
        | nil => exact absurd h hne
        | cons a b => exact ⟨a, b, rfl⟩
      rw [hnl] at cO rM hi1
      have hn0 := hi1 n0 (by simp)
      have HHD : Hid ((L.getD m []).headD 0 = n0) := Lib.hid (by rw [List.getD_eq_getElem?_getD, List.getElem?_eq_getElem (by have := HM.out; omega), Option.getD_some, hnl]; rfl)
      obtain ⟨bM, oM, rfl, hbM, cM⟩ := rM.at_ (k := 0) (u := .int .i64 (n0 : Int)) rfl
      simp only [Nat.add_zero] at cM
      have hl0 : (n0 :: l0).length = l0.length + 1 := rfl
      rw [hl0] at cO
      have hl0b : l0.length ≤ 100 := by rw [hnl] at hl9; simp at hl9; omega
      clear hl0 hl9 hne hi1 hnl rM
      have HCT : Hid (B.chain (S.lds P) us = (B.chainFrom (S.lds P) us L m n0 [n0]).reverse) := Lib.hid (by rw [HC2.out, HHD.out])
      clear HC2 HHD
      go_upto_region 10 with (fail)
      have o0 : (w3.alloc (.cells #[.int .i64 (n0 : Int)] 3)).ownsRow w3.heap.size 3 1 (.slice (some ⟨w3.heap.size, 0, none⟩) 1 1) 1 (ns [n0]) := World.ownsRow_lit w3 #[.int .i64 (n0 : Int)] 1 (Nat.le_refl _) (by simp [maxLen]) rfl
      have bb0 := bel_new w3 (.cells #[.int .i64 (n0 : Int)] 3)
      clear cO cM hbM
      go_loopg [6, 7, 8] m (fun gk s6 s7 s8 wr => ∃ (next : Nat) (pl : List Nat) (A : Option Addr) (c : Nat), s6 = .int .i64 next ∧ s7 = .slice A pl.length c ∧ s8 = .int .i64 ((gk : Int) - 1) ∧ wr.ownsRow w3.heap.size 3 1 s7 pl.length (ns pl) ∧ Below w3.heap.size w3 wr ∧ next < us.length ∧ pl.length + gk ≤ 200 ∧ gk ≤ m ∧ Hid (B.chainFrom (S.lds P) us L gk next pl = B.chainFrom (S.lds P) us L m n0 [n0]))
      case atStart => exact ⟨n0, [n0], _, _, rfl, rfl, by congr 1; omega, o0, bb0, hn0, by simp; omega, Nat.le_refl _, Lib.hid rfl⟩
      case round =>
        obtain ⟨next, pl, Ap, cp, rfl, rfl, rfl, op, hb, hnx, hpl, hkm, HCF⟩ := hrel
        clear o0 bb0
        cases gk with
        | zero =>
          have HT : Hid (pl = B.chainFrom (S.lds P) us L m n0 [n0]) := Lib.hid HCF.out
          have q0 : decide ((((0 : Nat) : Int) - 1) ≥ 0) = false := by decide
          have rp := Rd.of_own op
          have b14 := b13.trans (hb.mono b13.size)
          clear HCF
          go_wp2_with (go_at_call 23; refine (rising_new pl _ _ _ rp (by omega)).mono ?_)
          rintro e5 w5 ⟨A5', c5', rfl, r5, b5, f5⟩
          have f15 := f5.elim (fun h => (.inl h : pl.reverse = [] ∨ ∃ b, A5' = some ⟨b, 0, none⟩ ∧ w.heap.size ≤ b)) (fun h => .inr (h.elim fun b h => ⟨b, h.1, Nat.le_trans b14.size h.2⟩))
          have b15 := b14.trans (b5.mono b14.size)
          go_wp2_with fail
          go_ret
          rw [HCT.out, ← HT.out]
          exact ⟨A5', c5', by rw [List.length_reverse]; rfl, r5, b15, f15⟩
        | succ k =>
          rw [show (((k + 1 : Nat) : Int) - 1) = (k : Int) by omega]
          obtain ⟨Ak, ck, cO, rM⟩ := HRW.out k (by omega) (by have := HM.out; omega)
          obtain ⟨hi1, hne, hl9⟩ := HLF.out k (by have := HM.out; omega)
          have HGD : Hid (L.getD k [] = L[k]'(by have := HM.out; omega)) := Lib.hid (by rw [List.getD_eq_getElem?_getD, List.getElem?_eq_getElem (by have := HM.out; omega), Option.getD_some])
          generalize L[k]'(by have := HM.out; omega) = row at *
          have HI1 := Lib.hid hi1
          have HCK : Hid ((∀ i, B.pick (S.lds P) us next row = some i → B.chainFrom (S.lds P) us L (k + 1) next pl = B.chainFrom (S.lds P) us L k i (pl ++ [i])) ∧ (B.pick (S.lds P) us next row = none → B.chainFrom (S.lds P) us L (k + 1) next pl = B.chainFrom (S.lds P) us L k next pl)) := Lib.hid ⟨fun i h => by rw [B.chainFrom, HGD.out, h], fun h => by rw [B.chainFrom, HGD.out, h]⟩
          clear hi1 hne HGD
          have cO2 := (hb.cell (p := ⟨gR, k, none⟩) hgR).trans cO
          have hgR2 : gR < wr.heap.size := Nat.lt_of_lt_of_le hgR hb.size
          have hkI : (k : Int) < (m : Int) + 1 := by omega
          have hkI2 : decide ((k : Int) ≥ 0) = true := by simp
          obtain ⟨W4, rfl⟩ : ∃ W4, W4 = wr := ⟨wr, rfl⟩
          go_upto_region 13 with (fail)
          go_loopg [6, 7, 48] row.length (fun gk s6 s7 s48 wr => ∃ (j : Nat), j + gk = row.length ∧ s6 = .int .i64 next ∧ s7 = .slice Ap pl.length cp ∧ s48 = .int .i64 j ∧ wr.ownsRow w3.heap.size 3 1 (.slice Ap pl.length cp) pl.length (ns pl) ∧ Below w3.heap.size w3 wr ∧ Hid (B.pick (S.lds P) us next row = B.pick (S.lds P) us next (row.drop j)))
          case atStart => exact ⟨0, by omega, rfl, rfl, rfl, op, hb, Lib.hid rfl⟩
          case round =>
            obtain ⟨j, hj, rfl, rfl, rfl, op2, hb2, HPK⟩ := hrel
            clear cO2 op hb
            have HJ := Lib.hid hj
            by_cases hltj : j < row.length
            · clear hj
              have hltJ : (j : Int) < (row.length : Int) := by omega
              have hs2 := hb2.size
              obtain ⟨bk, ok, rfl, hbk, ci⟩ := (rM.below hb2).at_ (ns_at row j hltj)
              have hi9 := HI1.out _ (List.getElem_mem hltj)
              have HDJ : Hid (B.pick (S.lds P) us next row = if (decide (row[j] < next) && S.lds P (B.su us row[j]) (B.su us next)) = true then some row[j] else B.pick (S.lds P) us next (row.drop (j + 1))) := Lib.hid (by
                rw [HPK.out, List.drop_eq_getElem_cons hltj, B.pick, List.find?_cons]
                split <;> rename_i h
                · rw [if_pos h]
                · rw [if_neg (by rw [h]; decide)]; rfl)
              generalize row[j] = i at *
              obtain ⟨bU, oU, rfl, hbU, cu1⟩ := (hU3.below hb2).at_ hi9
              obtain ⟨bU', oU', hUe, _, cu2⟩ := (hU3.below hb2).at_ hnx
              injection hUe with hUe
              injection hUe with hU1 hU2
              subst hU1 hU2
              rw [← B.su_at hi9] at cu1
              rw [← B.su_at hnx] at cu2
              have bk4 := bk3.below hb2 bk3.lt
              have d6 := bk4.at_ (i := 6) rfl
              simp only [List.getElem_toArray, List.getElem_cons_succ, List.getElem_cons_zero] at d6
              have hiI : (i : Int) < (us.length : Int) := by omega
              have hnI : (next : Int) < (us.length : Int) := by omega
              have hb4l : w.heap.size < wr.heap.size := bk4.lt
              have hbU2 : bU < wr.heap.size := by omega
              by_cases hin : i < next
              · have hd : decide ((i : Int) < (next : Int)) = true := by simp; omega
                have HKW : Hid (∀ w', Below wr.heap.size wr w' → w'.cell? ⟨w.heap.size, 6, none⟩ = some (.slice (some ⟨bU, oU, none⟩) us.length c6) ∧ w'.cell? ⟨bU, oU + i * 10, none⟩ = some (.int .i64 (B.su us i : Int)) ∧ w'.cell? ⟨bU, oU + next * 10, none⟩ = some (.int .i64 (B.su us next : Int))) :=
                  Lib.hid (fun w' hb => ⟨(hb.cell (p := ⟨w.heap.size, 6, none⟩) hb4l).trans d6, (hb.cell (p := ⟨bU, oU + i * 10, none⟩) hbU2).trans cu1, (hb.cell (p := ⟨bU, oU + next * 10, none⟩) hbU2).trans cu2⟩)
                have rP4 := (rP3.below hb2).more hs2
                rw [decide_eq_true hin, Bool.true_and] at HDJ
                generalize B.su us i = si at *
                generalize B.su us next = sn at *
                go_wp2_with fail
                go_region_held3 (fun w' => w'.cell? ⟨w.heap.size, 6, none⟩ = some (.slice (some ⟨bU, oU, none⟩) us.length c6) ∧ w'.cell? ⟨bU, oU + i * 10, none⟩ = some (.int .i64 (si : Int)) ∧ w'.cell? ⟨bU, oU + next * 10, none⟩ = some (.int .i64 (sn : Int)))
                  (first | exact HKW.out _ b6 | go_keep)
                  (first | (go_at_call 22; refine (leads_any P _ _ si sn _ rP4.drew (by omega)).mono ?_; rintro e6 w6 ⟨rfl, b6'⟩; have b6 := (Below.refl wr.heap.size wr).drew.trans b6'))
                have op3 : w6.ownsRow w3.heap.size 3 1 (.slice Ap pl.length cp) pl.length (ns pl) := op2.kept (grown_of_below b6) (by cases h : (Value.slice Ap pl.length cp).ownBlock with | none => exact .inl rfl | some g => exact .inr (by simp))
                have hb6 := hb2.trans (b6.mono hs2)
                have hs6 := hb6.size
                clear op2 hb2 b6' cu1 cu2 d6 bk4 rP4 HKW ci
                cases hle : S.lds P si sn
                · rw [hle] at HDJ
                  have HP2 := Lib.hid (HDJ.out.trans (if_neg (by decide)))
                  clear hle HDJ
                  go_wp2_with fail
                  go_roundg (gk - 1)
                  case measure => have := HJ.out; omega
                  case rel => exact ⟨j + 1, by have := HJ.out; omega, rfl, rfl, by go_num, op3, hb6, HP2⟩
                · rw [hle] at HDJ
                  have HP2 := Lib.hid (HDJ.out.trans (if_pos rfl))
                  clear hle HDJ b6
                  go_wp2_with (at_builtin; refine wpList_append_own_at _ rfl (.tmp 72) (.tmp 74) 23 rfl w3.heap.size 3 i0 _ 1 8 Try.underlying23 hi hz0 hz1 hz2 rfl (by omega) _ _ _ rfl (op3.alloc _) ⟨w6.heap.size, 0, none⟩ 1 1 [.int .i64 (i : Int)] rfl rfl ?a1 ?a2 ?a3 ?a4 ?a5 ?_)
                  (first | (case a1 => exact cell_one_new _ _ _) | skip)
                  (first | (case a2 => simp [Value.oneCell']) | skip)
                  (first | (case a3 => simp only [maxLen]; omega) | skip)
                  (first | (case a4 => omega) | skip)
                  (first | (case a5 => omega) | (case a5 => simp; omega) | skip)
                  intro v7 w7 ho7 hg7 _ _
                  have hb7 : Below w3.heap.size w3 w7 := (hb6.alloc hs6 _).grown hg7 (by simp; omega) fun k hk => (op3.lt k hk).1
                  obtain ⟨A8, c8, hv8⟩ := own_formk ho7
                  subst hv8
                  have ho8 : w7.ownsRow w3.heap.size 3 1 (.slice A8 (pl.length + 1) c8) (pl.length + 1) (ns (pl ++ [i])) := by rw [ns_append]; exact ho7
                  clear ho7 hg7 op3 hb6
                  go_wp2_with fail
                  go_roundg k
                  case measure => omega
                  case rel => exact ⟨i, pl ++ [i], A8, c8, rfl, by simp, rfl, by rw [List.length_append]; exact ho8, hb7, hi9, by simp; omega, by omega, Lib.hid ((HCK.out.1 i HP2.out).symm.trans HCF.out)⟩
              · have hd : decide ((i : Int) < (next : Int)) = false := by simp; omega
                have hd2 : decide (i < next) = false := by simpa using hin
                rw [hd2, Bool.false_and] at HDJ
                have HP2 := Lib.hid (HDJ.out.trans (if_neg (by decide)))
                clear HDJ hin cu1 cu2 d6 bk4
                go_wp2_with fail
                go_quiet (fail)
                go_wp2_with fail
                go_roundg (gk - 1)
                case measure => have := HJ.out; omega
                case rel => exact ⟨j + 1, by have := HJ.out; omega, rfl, rfl, by go_num, op2, below_drewN hb2 _, HP2⟩
            · have HP2 : Hid (B.pick (S.lds P) us next row = none) := Lib.hid (by rw [HPK.out, List.drop_of_length_le (by omega)]; rfl)
              clear hj HPK
              go_wp2_with fail
              go_roundg k
              case measure => omega
              case rel => exact ⟨next, pl, Ap, cp, rfl, rfl, rfl, op2, hb2, hnx, by omega, by omega, Lib.hid ((HCK.out.2 HP2.out).symm.trans HCF.out)⟩
end Go.Proofs.Ytahhihhfjimppaa
/- walk: Steps -/
namespace Go.Proofs.Ytahhihhfjimppaa
open Go.RowKit
set_option linter.unusedSimpArgs false
set_option linter.unusedVariables false
set_option maxRecDepth 100000

theorem mul_bd {a b A B : Int} (h1 : 0 ≤ a) (h2 : a ≤ A) (h3 : 0 ≤ b) (h4 : b ≤ B) : 0 ≤ a * b ∧ a * b ≤ A * B :=
  ⟨Int.mul_nonneg h1 h3, Int.mul_le_mul h2 h4 h3 (by omega)⟩
/-- by when a run is over -/
def B.bad (s nd t p : Int) : Prop := s < 1 ∨ s > 8 ∨ nd < 0 ∨ nd > 1000 ∨ p < 0 ∨ p > 1048576 ∨ t < 0 ∨ t > 64
instance (s nd t p : Int) : Decidable (B.bad s nd t p) := inferInstanceAs (Decidable (_ ∨ _))
def B.steps (s nd : Int) (u : Nat) (t p : Int) : Int := if B.bad s nd t p then -1 else p + s * (28 * s + 1) * (72 * s * (64 * (nd + s + 4)) * ((u : Int) + t + s * s + 1) + 1)

set_option maxHeartbeats 4000000 in
theorem steps_any (E : El) (c0 c1 c2 c3 c4 c5 c6 c7 c8 p : Int) (w : World) (hn : E.n6 ≤ 1000) :
    Calls Try.prog 12 #[.agg #[.int .i64 c0, .int .i64 c1, .int .i64 c2, .int .i64 c3, .int .i64 c4, .int .i64 c5, .int .i64 c6, .int .i64 c7, .int .i64 c8], E.val, .int .i64 p] w (Ret (.int .i64 (B.steps c0 c1 E.n6 E.e9 p)) w) := by
  have hwk := work_any E
  obtain ⟨e0, e1, A2, n2, p2, A3, n3, p3, A4, n4, p4, A5, n5, p5, A6, n6, p6, A7, n7, p7, e8, e9, A10, n10, p10⟩ := E
  simp only [El.val, El.cs] at hn hwk ⊢
  have bk1 := Blk.new (w.alloc (.cells #[.int .i64 c0, .int .i64 c1, .int .i64 c2, .int .i64 c3, .int .i64 c4, .int .i64 c5, .int .i64 c6, .int .i64 c7, .int .i64 c8] 42)) 29 #[.int .i64 e0, .int .i64 e1, .slice A2 n2 p2, .slice A3 n3 p3, .slice A4 n4 p4, .slice A5 n5 p5, .slice A6 n6 p6, .slice A7 n7 p7, .int .i64 e8, .int .i64 e9, .slice A10 n10 p10]
  have bk0 := (Blk.new w 42 #[.int .i64 c0, .int .i64 c1, .int .i64 c2, .int .i64 c3, .int .i64 c4, .int .i64 c5, .int .i64 c6, .int .i64 c7, .int .i64 c8]).alloc (.cells #[.int .i64 e0, .int .i64 e1, .slice A2 n2 p2, .slice A3 n3 p3, .slice A4 n4 p4, .slice A5 n5 p5, .slice A6 n6 p6, .slice A7 n7 p7, .int .i64 e8, .int .i64 e9, .slice A10 n10 p10] 29)
  have b0 : Below w.heap.size w ((w.alloc (.cells #[.int .i64 c0, .int .i64 c1, .int .i64 c2, .int .i64 c3, .int .i64 c4, .int .i64 c5, .int .i64 c6, .int .i64 c7, .int .i64 c8] 42)).alloc (.cells #[.int .i64 e0, .int .i64 e1, .slice A2 n2 p2, .slice A3 n3 p3, .slice A4 n4 p4, .slice A5 n5 p5, .slice A6 n6 p6, .slice A7 n7 p7, .int .i64 e8, .int .i64 e9, .slice A10 n10 p10] 29)) := (bel_new w _).alloc (by simp) _
  have s0 : (w.alloc (.cells #[.int .i64 c0, .int .i64 c1, .int .i64 c2, .int .i64 c3, .int .i64 c4, .int .i64 c5, .int .i64 c6, .int .i64 c7, .int .i64 c8] 42)).heap.size = w.heap.size + 1 := by simp
  rw [s0] at bk1
  clear s0
  go_enter Try.func12, Try.ntmps12
  go_upto_region 1 with (fail)
  generalize (w.alloc (.cells #[.int .i64 c0, .int .i64 c1, .int .i64 c2, .int .i64 c3, .int .i64 c4, .int .i64 c5, .int .i64 c6, .int .i64 c7, .int .i64 c8] 42)).alloc (.cells #[.int .i64 e0, .int .i64 e1, .slice A2 n2 p2, .slice A3 n3 p3, .slice A4 n4 p4, .slice A5 n5 p5, .slice A6 n6 p6, .slice A7 n7 p7, .int .i64 e8, .int .i64 e9, .slice A10 n10 p10] 29) = w1 at *
  have g0 := bk0.lt
  have g1 := bk1.lt
  have HKB : Hid (∀ w', Below w1.heap.size w1 w' → (w'.cell? ⟨w.heap.size, 0, none⟩ = some (.int .i64 c0) ∧ w'.cell? ⟨w.heap.size, 1, none⟩ = some (.int .i64 c1)) ∧ w'.cell? ⟨w.heap.size + 1, 0, none⟩ = some (.int .i64 e0) ∧ w'.cell? ⟨w.heap.size + 1, 1, none⟩ = some (.int .i64 e1) ∧ w'.cell? ⟨w.heap.size + 1, 2, none⟩ = some (.slice A2 n2 p2) ∧ w'.cell? ⟨w.heap.size + 1, 3, none⟩ = some (.slice A3 n3 p3) ∧ w'.cell? ⟨w.heap.size + 1, 4, none⟩ = some (.slice A4 n4 p4) ∧ w'.cell? ⟨w.heap.size + 1, 5, none⟩ = some (.slice A5 n5 p5) ∧ w'.cell? ⟨w.heap.size + 1, 6, none⟩ = some (.slice A6 n6 p6) ∧ w'.cell? ⟨w.heap.size + 1, 7, none⟩ = some (.slice A7 n7 p7) ∧ w'.cell? ⟨w.heap.size + 1, 8, none⟩ = some (.int .i64 e8) ∧ w'.cell? ⟨w.heap.size + 1, 9, none⟩ = some (.int .i64 e9) ∧ w'.cell? ⟨w.heap.size + 1, 10, none⟩ = some (.slice A10 n10 p10)) :=
    Lib.hid (fun w' hb => by
      have k0 := bk0.below hb g0
      have k1 := bk1.below hb g1
      exact ⟨⟨k0.cell 0, k0.cell 1⟩, k1.cell 0, k1.cell 1, k1.cell 2, k1.cell 3, k1.cell 4, k1.cell 5, k1.cell 6, k1.cell 7, k1.cell 8, k1.cell 9, k1.cell 10⟩)
  obtain ⟨⟨k0, k1⟩, d0, d1, d2, d3, d4, d5, d6, d7, d8, d9, d10⟩ := HKB.out _ (Below.refl _ _)
  clear bk0 bk1
  have HR : Hid (B.steps c0 c1 n6 e9 p = if B.bad c0 c1 e9 p then -1 else p + c0 * (28 * c0 + 1) * (72 * c0 * (64 * (c1 + c0 + 4)) * ((n6 : Int) + e9 + c0 * c0 + 1) + 1)) := Lib.hid rfl
  have hneg : ∀ w', Below w1.heap.size w1 w' → B.bad c0 c1 e9 p → (Ending.returned (.int .i64 (-1)) = .returned (.int .i64 (B.steps c0 c1 n6 e9 p)) ∧ Below w.heap.size w w') := fun w' hb h => ⟨by rw [HR.out, if_pos h], b0.trans (hb.mono b0.size)⟩
  have HNEG := Lib.hid hneg
  clear hneg
  by_cases h1 : c0 < 1
  · have q : decide (c0 < 1) = true := by simpa using h1
    have HB : Hid (B.bad c0 c1 e9 p) := Lib.hid (.inl h1)
    clear h1
    go_wp2_with fail
    go_ret
    exact HNEG.out _ (Below.refl _ _) HB.out
  · by_cases h2 : c0 > 8
    · have q : decide (c0 < 1) = false := by simpa using h1
      have q2 : decide (c0 > 8) = true := by simpa using h2
      have HB : Hid (B.bad c0 c1 e9 p) := Lib.hid (.inr (.inl h2))
      clear h1 h2
      go_wp2_with fail
      go_ret
      exact HNEG.out _ (Below.refl _ _) HB.out
    · have q1 : decide (c0 < 1) = false := by simpa using h1
      have q2 : decide (c0 > 8) = false := by simpa using h2
      by_cases h3 : c1 < 0
      · have qh3 : decide (c1 < 0) = true := by simpa using h3
        have HB : Hid (B.bad c0 c1 e9 p) := Lib.hid (.inr (.inr (.inl h3)))
        clear h3
        go_wp2_with fail
        go_ret
        exact HNEG.out _ (Below.refl _ _) HB.out
      · have qh3 : decide (c1 < 0) = false := by simpa using h3
        by_cases h4 : c1 > 1000
        · have qh4 : decide (c1 > 1000) = true := by simpa using h4
          have HB : Hid (B.bad c0 c1 e9 p) := Lib.hid (.inr (.inr (.inr (.inl h4))))
          clear h4
          go_wp2_with fail
          go_ret
          exact HNEG.out _ (Below.refl _ _) HB.out
        · have qh4 : decide (c1 > 1000) = false := by simpa using h4
          by_cases h5 : p < 0
          · have qh5 : decide (p < 0) = true := by simpa using h5
            have HB : Hid (B.bad c0 c1 e9 p) := Lib.hid (.inr (.inr (.inr (.inr (.inl h5)))))
            clear h5
            go_wp2_with fail
            go_ret
            exact HNEG.out _ (Below.refl _ _) HB.out
          · have qh5 : decide (p < 0) = false := by simpa using h5
            by_cases h6 : p > 1048576
            · have qh6 : decide (p > 1048576) = true := by simpa using h6
              have HB : Hid (B.bad c0 c1 e9 p) := Lib.hid (.inr (.inr (.inr (.inr (.inr (.inl h6))))))
              clear h6
              go_wp2_with fail
              go_ret
              exact HNEG.out _ (Below.refl _ _) HB.out
            · have qh6 : decide (p > 1048576) = false := by simpa using h6
              go_wp2_with (go_at_call 11; refine (hwk _ hn).mono ?_)
              rintro e2 w2 ⟨rfl, b2⟩
              have q9 : decide ((n6 : Int) > 100000) = false := by simp; omega
              have hn6 : ¬ (100000 : Int) < (n6 : Int) := by omega
              clear k0 k1 d0 d1 d2 d3 d4 d5 d6 d7 d8 d9 d10
              have HKC : Hid (∀ w', Below w2.heap.size w2 w' → _) := Lib.hid (fun w' hb => HKB.out w' (b2.trans (hb.mono b2.size)))
              obtain ⟨⟨k0, k1⟩, d0, d1, d2, d3, d4, d5, d6, d7, d8, d9, d10⟩ := HKC.out _ (Below.refl _ _)
              clear HKB
              by_cases h7 : e9 < 0
              · have q7 : decide (e9 < 0) = true := by simpa using h7
                have HB : Hid (B.bad c0 c1 e9 p) := Lib.hid (.inr (.inr (.inr (.inr (.inr (.inr (.inl h7)))))))
                clear h7
                go_wp2_with fail
                go_ret
                exact HNEG.out _ b2 HB.out
              · have q7 : decide (e9 < 0) = false := by simpa using h7
                by_cases h8 : e9 > 64
                · have q8 : decide (e9 > 64) = true := by simpa using h8
                  have HB : Hid (B.bad c0 c1 e9 p) := Lib.hid (.inr (.inr (.inr (.inr (.inr (.inr (.inr h8)))))))
                  clear h8
                  go_wp2_with fail
                  go_ret
                  exact HNEG.out _ b2 HB.out
                · have q8 : decide (e9 > 64) = false := by simpa using h8
                  have HR2 : Hid (B.steps c0 c1 n6 e9 p = p + c0 * (28 * c0 + 1) * (72 * c0 * (64 * (c1 + c0 + 4)) * ((n6 : Int) + e9 + c0 * c0 + 1) + 1)) := Lib.hid (HR.out.trans (if_neg (by
                    rintro (h | h | h | h | h | h | h | h) <;> omega)))
                  have b12 := b0.trans (b2.mono b0.size)
                  clear HR HNEG
                  go_upto_region 9 with (fail)
                  have m1 := mul_bd (a := c0) (b := c0) (A := 8) (B := 8) (by omega) (by omega) (by omega) (by omega)
                  go_cut [9] (fun s9 wx => s9 = .int .i64 ((n6 : Int) + e9 + c0 * c0 + 1) ∧ Below w2.heap.size w2 wx)
                  case first =>
                    have hw1 : IntKind.i64.wrap ((n6 : Int) + e9) = (n6 : Int) + e9 := IntWalk.i64_in _ (by omega)
                    have hw2 : IntKind.i64.wrap (c0 * c0) = c0 * c0 := IntWalk.i64_in _ (by omega)
                    have hw3 : IntKind.i64.wrap ((n6 : Int) + e9 + c0 * c0) = (n6 : Int) + e9 + c0 * c0 := IntWalk.i64_in _ (by omega)
                    have hw4 : IntKind.i64.wrap ((n6 : Int) + e9 + c0 * c0 + 1) = (n6 : Int) + e9 + c0 * c0 + 1 := IntWalk.i64_in _ (by omega)
                    go_region_held3 (fun w' => w'.cell? ⟨w.heap.size + 1, 0, none⟩ = some (.int .i64 e0) ∧ w'.cell? ⟨w.heap.size + 1, 1, none⟩ = some (.int .i64 e1) ∧ w'.cell? ⟨w.heap.size + 1, 2, none⟩ = some (.slice A2 n2 p2) ∧ w'.cell? ⟨w.heap.size + 1, 3, none⟩ = some (.slice A3 n3 p3) ∧ w'.cell? ⟨w.heap.size + 1, 4, none⟩ = some (.slice A4 n4 p4) ∧ w'.cell? ⟨w.heap.size + 1, 5, none⟩ = some (.slice A5 n5 p5) ∧ w'.cell? ⟨w.heap.size + 1, 6, none⟩ = some (.slice A6 n6 p6) ∧ w'.cell? ⟨w.heap.size + 1, 7, none⟩ = some (.slice A7 n7 p7) ∧ w'.cell? ⟨w.heap.size + 1, 8, none⟩ = some (.int .i64 e8) ∧ w'.cell? ⟨w.heap.size + 1, 9, none⟩ = some (.int .i64 e9) ∧ w'.cell? ⟨w.heap.size + 1, 10, none⟩ = some (.slice A10 n10 p10))
                      (first | exact (HKC.out _ b3).2 | go_keep)
                      (first | (go_at_call 11; refine (hwk _ hn).mono ?_; rintro e3 w3 ⟨rfl, b3'⟩; have b3 := (Below.refl w2.heap.size w2).drew.trans b3'))
                    all_goals
                      go_wp2_with fail
                      go_meet
                      exact ⟨by simp only [hw1, hw2, hw3, hw4], b3⟩
                  case rest =>
                    obtain ⟨rfl, b3⟩ := hcut
                    have b13 := b12.trans (b3.mono b12.size)
                    have hr9 : 0 ≤ 64 * (c1 + c0 + 4) ∧ 64 * (c1 + c0 + 4) ≤ 64768 := by omega
                    have hu9 : 0 ≤ (n6 : Int) + e9 + c0 * c0 + 1 ∧ (n6 : Int) + e9 + c0 * c0 + 1 ≤ 2000 := by omega
                    generalize 64 * (c1 + c0 + 4) = r at *
                    generalize (n6 : Int) + e9 + c0 * c0 + 1 = u at *
                    have m2 := mul_bd (a := c0) (b := 28 * c0 + 1) (A := 8) (B := 225) (by omega) (by omega) (by omega) (by omega)
                    have m3 := mul_bd (a := 72 * c0) (b := r) (A := 576) (B := 64768) (by omega) (by omega) (by omega) (by omega)
                    have m4 := mul_bd (a := 72 * c0 * r) (b := u) (A := 576 * 64768) (B := 2000) (by omega) (by omega) (by omega) (by omega)
                    have m5 := mul_bd (a := c0 * (28 * c0 + 1)) (b := 72 * c0 * r * u + 1) (A := 1800) (B := 576 * 64768 * 2000 + 1) (by omega) (by omega) (by omega) (by omega)
                    clear HKC b12 b3 b2 k0 k1 d0 d1 d2 d3 d4 d5 d6 d7 d8 d9 d10
                    go_wp2_with fail
                    go_ret
                    exact ⟨by rw [HR2.out]; rfl, b13⟩
end Go.Proofs.Ytahhihhfjimppaa
/- walk: the document's example -/
namespace Go.Proofs.Ytahhihhfjimppaa
open Go.RowKit
set_option linter.unusedSimpArgs false
set_option linter.unusedVariables false
set_option maxRecDepth 100000

/-- the example -/
def exE (g : Nat) : El := ⟨0, 0, none, 0, 0, none, 0, 0, none, 0, 0, none, 0, 0, some ⟨g + 1 + 1, 0, none⟩, 3, 3, some ⟨g, 0, none⟩, 3, 3, 0, 2, none, 0, 0⟩
def exZ : El := ⟨0, 0, none, 0, 0, none, 0, 0, none, 0, 0, none, 0, 0, none, 0, 0, none, 0, 0, 0, 1, none, 0, 0⟩
theorem plain_run : ∃ s, S.run S.init S.plain = some s ∧ s.n = 4 ∧ s.places = S.plainP := ⟨_, rfl, by decide, by decide⟩
theorem chain_plain : B.chain (S.lds S.plainP) [1, 2, 3] = [0, 2] := by decide
theorem ex_is {w' : World} {g : Nat} (h0 : Blk w' g 59 #[.int .i64 1, .int .i64 0, .int .i64 1, .int .i64 2, .int .i64 3, .int .i64 2, .int .i64 1, .int .i64 0, .int .i64 0, .int .i64 3, .int .i64 3, .int .i64 2, .int .i64 0, .int .i64 0, .int .i64 3]) (h2 : Blk w' (g + 1 + 1) 46 #[.int .i64 1, .slice none 0 0, .int .i64 0, .int .i64 0, .int .i64 0, .int .i64 0, .int .i64 0, .int .i64 0, .int .i64 0, .bool false, .int .i64 2, .slice none 0 0, .int .i64 0, .int .i64 0, .int .i64 0, .int .i64 0, .int .i64 0, .int .i64 0, .int .i64 0, .bool false, .int .i64 3, .slice none 0 0, .int .i64 0, .int .i64 0, .int .i64 0, .int .i64 0, .int .i64 0, .int .i64 0, .int .i64 0, .bool false]) : (exE g).Is w' [1, 2, 3] S.plain := by
  have l0 := h0.lt
  have l2 := h2.lt
  refine ⟨.inr ⟨g + 1 + 1, 0, rfl, l2, fun i hi => ?_⟩, .inr ⟨g, 0, rfl, l0, fun j u hu => ?_⟩, rfl, rfl⟩
  · rw [Nat.zero_add, h2.cell]
    match i, hi with
    | 0, _ => rfl
    | 1, _ => rfl
    | 2, _ => rfl
  · have e : (#[.int .i64 1, .int .i64 0, .int .i64 1, .int .i64 2, .int .i64 3, .int .i64 2, .int .i64 1, .int .i64 0, .int .i64 0, .int .i64 3, .int .i64 3, .int .i64 2, .int .i64 0, .int .i64 0, .int .i64 3] : Array Value) = (fcs S.plain).toArray := rfl
    rw [Nat.zero_add, h0.cell, ← hu, e, List.getElem?_toArray]

set_option maxHeartbeats 4000000 in
theorem shown_any (w : World) : Calls Try.prog 6 #[] w (Ret (.bool true) w) := by
  obtain ⟨s, hrun, hn, hpl⟩ := plain_run
  have hWk : ∀ (g : Nat) w, Calls Try.prog 11 #[.agg #[.int .i64 0, .int .i64 0, .slice none 0 0, .slice none 0 0, .slice none 0 0, .slice none 0 0, .slice (some ⟨g + 1 + 1, 0, none⟩) 3 3, .slice (some ⟨g, 0, none⟩) 3 3, .int .i64 0, .int .i64 2, .slice none 0 0]] w (Ret (.int .i64 3) w) := fun g w => work_any (exE g) w (show (3 : Nat) ≤ 1000 by decide)
  have hSp : ∀ (g : Nat) w, (exE g).Is w [1, 2, 3] S.plain → Calls Try.prog 13 #[.agg #[.int .i64 0, .int .i64 0, .slice none 0 0, .slice none 0 0, .slice none 0 0, .slice none 0 0, .slice (some ⟨g + 1 + 1, 0, none⟩) 3 3, .slice (some ⟨g, 0, none⟩) 3 3, .int .i64 0, .int .i64 2, .slice none 0 0]] w (Ret (.int .i64 2) w) := fun g w h => by
    have := span_any (exE g) [1, 2, 3] S.plain s w h (by decide) (by decide) hrun (by rw [hn]; decide)
    rw [hpl, chain_plain] at this
    exact this
  have hCh : ∀ (g : Nat) w, (exE g).Is w [1, 2, 3] S.plain → Calls Try.prog 9 #[.agg #[.int .i64 0, .int .i64 0, .slice none 0 0, .slice none 0 0, .slice none 0 0, .slice none 0 0, .slice (some ⟨g + 1 + 1, 0, none⟩) 3 3, .slice (some ⟨g, 0, none⟩) 3 3, .int .i64 0, .int .i64 2, .slice none 0 0]] w (MadeN w [0, 2]) := fun g w h => by
    have := chain_any (exE g) [1, 2, 3] S.plain s w h (by decide) (by decide) hrun (by rw [hn]; decide)
    rw [hpl, chain_plain] at this
    exact this
  have hS1 : ∀ w, Calls Try.prog 12 #[.agg #[.int .i64 1, .int .i64 3, .int .i64 0, .int .i64 0, .int .i64 0, .int .i64 0, .int .i64 0, .int .i64 0, .int .i64 0], .agg #[.int .i64 0, .int .i64 0, .slice none 0 0, .slice none 0 0, .slice none 0 0, .slice none 0 0, .slice none 0 0, .slice none 0 0, .int .i64 0, .int .i64 1, .slice none 0 0], .int .i64 10] w (Ret (.int .i64 3207207) w) := fun w => by
    have := steps_any exZ 1 3 0 0 0 0 0 0 0 10 w (by decide)
    rw [show B.steps 1 3 exZ.n6 exZ.e9 10 = 3207207 by decide] at this
    exact this
  have hS2 : ∀ (g : Nat) w, Calls Try.prog 12 #[.agg #[.int .i64 0, .int .i64 0, .int .i64 0, .int .i64 0, .int .i64 0, .int .i64 0, .int .i64 0, .int .i64 0, .int .i64 0], .agg #[.int .i64 0, .int .i64 0, .slice none 0 0, .slice none 0 0, .slice none 0 0, .slice none 0 0, .slice (some ⟨g + 1 + 1, 0, none⟩) 3 3, .slice (some ⟨g, 0, none⟩) 3 3, .int .i64 0, .int .i64 2, .slice none 0 0], .int .i64 0] w (Ret (.int .i64 (-1)) w) := fun g w => by
    have := steps_any (exE g) 0 0 0 0 0 0 0 0 0 0 w (show (3 : Nat) ≤ 1000 by decide)
    have e : B.steps 0 0 (exE g).n6 (exE g).e9 0 = -1 := (show B.steps 0 0 3 2 0 = -1 by decide)
    rw [e] at this
    exact this
  go_enter Try.func6, Try.ntmps6
  go_upto_region 3 with (fail)
  have s1 : (w.alloc (.cells #[.int .i64 1, .int .i64 0, .int .i64 1, .int .i64 2, .int .i64 3, .int .i64 2, .int .i64 1, .int .i64 0, .int .i64 0, .int .i64 3, .int .i64 3, .int .i64 2, .int .i64 0, .int .i64 0, .int .i64 3] 59)).heap.size = w.heap.size + 1 := by simp
  have s2 : ((w.alloc (.cells #[.int .i64 1, .int .i64 0, .int .i64 1, .int .i64 2, .int .i64 3, .int .i64 2, .int .i64 1, .int .i64 0, .int .i64 0, .int .i64 3, .int .i64 3, .int .i64 2, .int .i64 0, .int .i64 0, .int .i64 3] 59)).alloc (.cells #[.int .i64 0, .int .i64 0, .slice none 0 0, .slice none 0 0, .slice none 0 0, .slice none 0 0, .slice (some ⟨w.heap.size + 1 + 1, 0, none⟩) 3 3, .slice (some ⟨w.heap.size, 0, none⟩) 3 3, .int .i64 0, .int .i64 2, .slice none 0 0] 29)).heap.size = w.heap.size + 1 + 1 := by simp
  have k0 := ((Blk.new w 59 #[.int .i64 1, .int .i64 0, .int .i64 1, .int .i64 2, .int .i64 3, .int .i64 2, .int .i64 1, .int .i64 0, .int .i64 0, .int .i64 3, .int .i64 3, .int .i64 2, .int .i64 0, .int .i64 0, .int .i64 3]).alloc (.cells #[.int .i64 0, .int .i64 0, .slice none 0 0, .slice none 0 0, .slice none 0 0, .slice none 0 0, .slice (some ⟨w.heap.size + 1 + 1, 0, none⟩) 3 3, .slice (some ⟨w.heap.size, 0, none⟩) 3 3, .int .i64 0, .int .i64 2, .slice none 0 0] 29)).alloc (.cells #[.int .i64 1, .slice none 0 0, .int .i64 0, .int .i64 0, .int .i64 0, .int .i64 0, .int .i64 0, .int .i64 0, .int .i64 0, .bool false, .int .i64 2, .slice none 0 0, .int .i64 0, .int .i64 0, .int .i64 0, .int .i64 0, .int .i64 0, .int .i64 0, .int .i64 0, .bool false, .int .i64 3, .slice none 0 0, .int .i64 0, .int .i64 0, .int .i64 0, .int .i64 0, .int .i64 0, .int .i64 0, .int .i64 0, .bool false] 46)
  have k1 := (Blk.new (w.alloc (.cells #[.int .i64 1, .int .i64 0, .int .i64 1, .int .i64 2, .int .i64 3, .int .i64 2, .int .i64 1, .int .i64 0, .int .i64 0, .int .i64 3, .int .i64 3, .int .i64 2, .int .i64 0, .int .i64 0, .int .i64 3] 59)) 29 #[.int .i64 0, .int .i64 0, .slice none 0 0, .slice none 0 0, .slice none 0 0, .slice none 0 0, .slice (some ⟨w.heap.size + 1 + 1, 0, none⟩) 3 3, .slice (some ⟨w.heap.size, 0, none⟩) 3 3, .int .i64 0, .int .i64 2, .slice none 0 0]).alloc (.cells #[.int .i64 1, .slice none 0 0, .int .i64 0, .int .i64 0, .int .i64 0, .int .i64 0, .int .i64 0, .int .i64 0, .int .i64 0, .bool false, .int .i64 2, .slice none 0 0, .int .i64 0, .int .i64 0, .int .i64 0, .int .i64 0, .int .i64 0, .int .i64 0, .int .i64 0, .bool false, .int .i64 3, .slice none 0 0, .int .i64 0, .int .i64 0, .int .i64 0, .int .i64 0, .int .i64 0, .int .i64 0, .int .i64 0, .bool false] 46)
  have k2 := Blk.new ((w.alloc (.cells #[.int .i64 1, .int .i64 0, .int .i64 1, .int .i64 2, .int .i64 3, .int .i64 2, .int .i64 1, .int .i64 0, .int .i64 0, .int .i64 3, .int .i64 3, .int .i64 2, .int .i64 0, .int .i64 0, .int .i64 3] 59)).alloc (.cells #[.int .i64 0, .int .i64 0, .slice none 0 0, .slice none 0 0, .slice none 0 0, .slice none 0 0, .slice (some ⟨w.heap.size + 1 + 1, 0, none⟩) 3 3, .slice (some ⟨w.heap.size, 0, none⟩) 3 3, .int .i64 0, .int .i64 2, .slice none 0 0] 29)) 46 #[.int .i64 1, .slice none 0 0, .int .i64 0, .int .i64 0, .int .i64 0, .int .i64 0, .int .i64 0, .int .i64 0, .int .i64 0, .bool false, .int .i64 2, .slice none 0 0, .int .i64 0, .int .i64 0, .int .i64 0, .int .i64 0, .int .i64 0, .int .i64 0, .int .i64 0, .bool false, .int .i64 3, .slice none 0 0, .int .i64 0, .int .i64 0, .int .i64 0, .int .i64 0, .int .i64 0, .int .i64 0, .int .i64 0, .bool false]
  rw [s1] at k1
  rw [s2] at k2
  have b1 : Below w.heap.size w (((w.alloc (.cells #[.int .i64 1, .int .i64 0, .int .i64 1, .int .i64 2, .int .i64 3, .int .i64 2, .int .i64 1, .int .i64 0, .int .i64 0, .int .i64 3, .int .i64 3, .int .i64 2, .int .i64 0, .int .i64 0, .int .i64 3] 59)).alloc (.cells #[.int .i64 0, .int .i64 0, .slice none 0 0, .slice none 0 0, .slice none 0 0, .slice none 0 0, .slice (some ⟨w.heap.size + 1 + 1, 0, none⟩) 3 3, .slice (some ⟨w.heap.size, 0, none⟩) 3 3, .int .i64 0, .int .i64 2, .slice none 0 0] 29)).alloc (.cells #[.int .i64 1, .slice none 0 0, .int .i64 0, .int .i64 0, .int .i64 0, .int .i64 0, .int .i64 0, .int .i64 0, .int .i64 0, .bool false, .int .i64 2, .slice none 0 0, .int .i64 0, .int .i64 0, .int .i64 0, .int .i64 0, .int .i64 0, .int .i64 0, .int .i64 0, .bool false, .int .i64 3, .slice none 0 0, .int .i64 0, .int .i64 0, .int .i64 0, .int .i64 0, .int .i64 0, .int .i64 0, .int .i64 0, .bool false] 46)) := ((bel_new w _).alloc (by simp) _).alloc (by simp; omega) _
  generalize ((w.alloc (.cells #[.int .i64 1, .int .i64 0, .int .i64 1, .int .i64 2, .int .i64 3, .int .i64 2, .int .i64 1, .int .i64 0, .int .i64 0, .int .i64 3, .int .i64 3, .int .i64 2, .int .i64 0, .int .i64 0, .int .i64 3] 59)).alloc (.cells #[.int .i64 0, .int .i64 0, .slice none 0 0, .slice none 0 0, .slice none 0 0, .slice none 0 0, .slice (some ⟨w.heap.size + 1 + 1, 0, none⟩) 3 3, .slice (some ⟨w.heap.size, 0, none⟩) 3 3, .int .i64 0, .int .i64 2, .slice none 0 0] 29)).alloc (.cells #[.int .i64 1, .slice none 0 0, .int .i64 0, .int .i64 0, .int .i64 0, .int .i64 0, .int .i64 0, .int .i64 0, .int .i64 0, .bool false, .int .i64 2, .slice none 0 0, .int .i64 0, .int .i64 0, .int .i64 0, .int .i64 0, .int .i64 0, .int .i64 0, .int .i64 0, .bool false, .int .i64 3, .slice none 0 0, .int .i64 0, .int .i64 0, .int .i64 0, .int .i64 0, .int .i64 0, .int .i64 0, .int .i64 0, .bool false] 46) = w1 at *
  generalize hg : w.heap.size = g at *
  have HG := Lib.hid hg
  clear s1 s2 hg
  have g0 := k0.lt
  have g1 := k1.lt
  have g2 := k2.lt
  have HKE : Hid (∀ w', Below w1.heap.size w1 w' → (w'.cell? ⟨g + 1, 0, none⟩ = some (.int .i64 0) ∧ w'.cell? ⟨g + 1, 1, none⟩ = some (.int .i64 0) ∧ w'.cell? ⟨g + 1, 2, none⟩ = some (.slice none 0 0) ∧ w'.cell? ⟨g + 1, 3, none⟩ = some (.slice none 0 0) ∧ w'.cell? ⟨g + 1, 4, none⟩ = some (.slice none 0 0) ∧ w'.cell? ⟨g + 1, 5, none⟩ = some (.slice none 0 0) ∧ w'.cell? ⟨g + 1, 6, none⟩ = some (.slice (some ⟨g + 1 + 1, 0, none⟩) 3 3) ∧ w'.cell? ⟨g + 1, 7, none⟩ = some (.slice (some ⟨g, 0, none⟩) 3 3) ∧ w'.cell? ⟨g + 1, 8, none⟩ = some (.int .i64 0) ∧ w'.cell? ⟨g + 1, 9, none⟩ = some (.int .i64 2) ∧ w'.cell? ⟨g + 1, 10, none⟩ = some (.slice none 0 0)) ∧ (exE g).Is w' [1, 2, 3] S.plain) := Lib.hid (fun w' hb => by
    have z1 := k1.below hb g1
    exact ⟨⟨z1.cell 0, z1.cell 1, z1.cell 2, z1.cell 3, z1.cell 4, z1.cell 5, z1.cell 6, z1.cell 7, z1.cell 8, z1.cell 9, z1.cell 10⟩, ex_is (k0.below hb g0) (k2.below hb g2)⟩)
  obtain ⟨⟨d0, d1, d2, d3, d4, d5, d6, d7, d8, d9, d10⟩, h1⟩ := HKE.out _ (Below.refl _ _)
  clear k0 k1 k2
  go_wp2_with (go_at_call 11; refine (hWk g _).mono ?_)
  rintro e2 w2 ⟨rfl, b2⟩
  clear d0 d1 d2 d3 d4 d5 d6 d7 d8 d9 d10 h1
  obtain ⟨⟨d0, d1, d2, d3, d4, d5, d6, d7, d8, d9, d10⟩, h1⟩ := HKE.out _ b2
  go_wp2_with (go_at_call 13; refine (hSp g _ h1).mono ?_)
  rintro e3 w3 ⟨rfl, b3'⟩
  have b3 := b2.trans (b3'.mono b2.size)
  clear d0 d1 d2 d3 d4 d5 d6 d7 d8 d9 d10 h1 b3'
  obtain ⟨⟨d0, d1, d2, d3, d4, d5, d6, d7, d8, d9, d10⟩, h1⟩ := HKE.out _ b3
  go_wp2_with (go_at_call 9; refine (hCh g _ h1).mono ?_)
  rintro e4 w4 ⟨A4, c4, rfl, r4, b4'⟩
  have b4 := b3.trans (b4'.mono b3.size)
  clear d0 d1 d2 d3 d4 d5 d6 d7 d8 d9 d10 h1 b4'
  have r5 : Rd (w4.alloc (.cells #[.int .i64 0, .int .i64 2] 3)) (w4.alloc (.cells #[.int .i64 0, .int .i64 2] 3)).heap.size (some ⟨w4.heap.size, 0, none⟩) (ns [0, 2]) := (Own.new w4 3 1 2 #[.int .i64 0, .int .i64 2] (by omega) rfl).rd
  have b5' := bel_new w4 (.cells #[.int .i64 0, .int .i64 2] 3)
  have r4' := r4.on b5'
  have b5 := b4.trans (b5'.mono b4.size)
  have hints := ints_same [0, 2] A4 (some ⟨w4.heap.size, 0, none⟩) c4 2 _ r4' r5 (by decide)
  go_wp2_with (go_at_call 15; refine hints.mono ?_; rintro e6 w6 ⟨rfl, b6'⟩; have b6 := b5.trans (b6'.mono b5.size); clear b5 b5' b6' r5 r4 r4' hints)
  go_wp2_with (go_at_call 12; refine (hS1 _).mono ?_)
  rintro e7 w7 ⟨rfl, b7'⟩
  have b7 := b6.trans (b7'.mono b6.size)
  clear b7'
  obtain ⟨⟨d0, d1, d2, d3, d4, d5, d6, d7, d8, d9, d10⟩, h1⟩ := HKE.out _ b7
  go_wp2_with (go_at_call 12; refine (hS2 g _).mono ?_)
  rintro e8 w8 ⟨rfl, b8'⟩
  have b8 := b7.trans (b8'.mono b7.size)
  clear d0 d1 d2 d3 d4 d5 d6 d7 d8 d9 d10 b8' h1
  go_wp2_with fail
  go_ret
  have hg := HG.out
  subst hg
  exact ⟨rfl, b1.trans (b8.mono b1.size)⟩
end Go.Proofs.Ytahhihhfjimppaa
/- The frames of functions, and the plans of regions that draw their order; made by genplan.py. -/
namespace Go.Proofs.Ytahhihhfjimppaa
set_option linter.unusedVariables false
set_option maxRecDepth 100000
def D5 (id : Nat) : Plan := bif Nat.beq id 11 then (.pure 0 [] (.pure 1 [] (.pure 2 [] (.pure 4 [] (.alt 3 (.alt 5 (.pure 6 [] (.pure 7 [] (.pure 8 [] (.pure 9 [] (.pure 10 [] (.pure 11 [] (.pure 12 [] (.pure 13 [] (.pure 14 [] (.pure 15 [] (.pure 16 [] .done))))))))))) .stop) .stop))))) else .done
theorem d5 : drawsB D5 (Try.f5.body.getD .skip) = true := by kernel_rfl
theorem en5 : Enters Try.prog 5 := enters_of Try.func5 (by kernel_rfl) (by kernel_rfl)
theorem go5 {args : List Value} (hlen : Nat.ble args.length 47 = true) {w : World} {R : Ending → World → Prop} (C : Ctx) (hR : C.R w) (h : vc Try.prog tab 47 D5 (Try.f5.body.getD .skip) C ⟨startS args, noBox⟩ (RetK tab Try.f5 R) (bodyE tab Try.f5 R)) : Calls Try.prog 5 args.toArray w R :=
  calls_vc tab_ok mixed 47 Try.func5 (by kernel_rfl) (by kernel_rfl) d5 hlen C hR h
end Go.Proofs.Ytahhihhfjimppaa
/- BoundSerial, walked. -/
namespace Go.Proofs.Ytahhihhfjimppaa
open Go.RowKit
set_option linter.unusedSimpArgs false
set_option linter.unusedVariables false
set_option maxRecDepth 100000

/-! ### plain: the chain of uses of one strand is all of them -/
theorem B.rk_id {le : Nat → Nat → Bool} (hrefl : ∀ x, le x x = true) {us : List Nat} (h1 : ∀ i j, i < us.length → j < us.length → B.su us i = B.su us j) : (B.chain le us).length = us.length ∧ ∀ i, i < us.length → B.rk le us i = i := by
  have hc := B.chain_is le hrefl us
  have hup : ∀ i j, i < j → j < us.length → B.rk le us i < B.rk le us j := fun i j hij hj => B.rk_up hrefl hij hj (by rw [h1 i j (by omega) hj]; exact hrefl _)
  have hlo : ∀ i, i < us.length → i ≤ B.rk le us i := by
    intro i
    induction i with
    | zero => intro _; exact Nat.zero_le _
    | succ i ih => intro h; have := ih (by omega); have := hup i (i + 1) (by omega) h; omega
  have hle := B.chain_le hc
  have hlen : (B.chain le us).length = us.length := by
    by_cases h0 : us.length = 0
    · omega
    · have h2 := hlo (us.length - 1) (by omega)
      have h3 := B.rk_lt hrefl hc (i := us.length - 1) (by omega)
      omega
  refine ⟨hlen, ?_⟩
  have hhi : ∀ k i, i + k + 1 = us.length → B.rk le us i ≤ i := by
    intro k
    induction k with
    | zero => intro i h; have := B.rk_lt hrefl hc (i := i) (by omega); omega
    | succ k ih => intro i h; have := ih (i + 1) (by omega); have := hup i (i + 1) (by omega) (by omega); omega
  intro i hi
  have := hlo i hi
  have := hhi (us.length - 1 - i) i (by omega)
  omega
theorem B.chain_all {le : Nat → Nat → Bool} (hrefl : ∀ x, le x x = true) {us : List Nat} (h1 : ∀ i j, i < us.length → j < us.length → B.su us i = B.su us j) : B.chain le us = List.range us.length := by
  obtain ⟨hlen, hrk⟩ := B.rk_id hrefl h1
  have hc := B.chain_is le hrefl us
  apply List.ext_getElem
  · simpa using hlen
  · intro t h2 h3
    rw [List.getElem_range]
    have := hc.rank t h2
    rw [hrk _ (hc.lt t h2)] at this
    exact this
theorem chain_zeros (n : Nat) (P : List (Nat × Nat)) : B.chain (S.lds P) (List.replicate n 0) = List.range n := by
  have := B.chain_all (le := S.lds P) (lds_refl P) (us := List.replicate n 0) (fun i j hi hj => by
    rw [B.su_at hi, B.su_at hj]; simp)
  simpa using this
/-! ### a row that a call made -/
def RowK (A : Option Addr) (xs : List Nat) (o : Option (Nat × Go.Obj)) : Prop := ∀ i (h : i < xs.length), ∃ b ob, A = some ⟨b, 0, none⟩ ∧ o = some (b, ob) ∧ ∀ w : World, w.heap[b]? = some ob → w.cell? ⟨b, i, none⟩ = some (.int .i64 (xs[i] : Int))
theorem CallVC.rowT {P : Program} {z : Zp} {G G0 : Gh} {w0 : World} {f : FuncId} (args : List Value) {vs : Array Value} {K : Value → Ctx → Prop} (xs : List Nat) (he : Enters P f) (hc : ∀ w, TW z G w → Ex G0 w0 G w → Calls P f args.toArray w (MadeF w xs)) (h : ∀ A c o, RowK A xs o → K (.slice A xs.length c) ((CtxT z G G0 w0).kept o)) (hvs : vs = args.toArray := by rfl) : CallVC P (CtxT z G G0 w0) f vs K := by
  constructor
  subst hvs
  refine ⟨he, fun w hw => (hc w hw.1 hw.2).mono fun e w' ⟨A, c, h1, h2, h3, h4⟩ => ?_⟩
  obtain ⟨tw, ex⟩ := hw
  have tw' := tw.below h3
  have ex' := ex.trans (Ex.of_below h3)
  by_cases h0 : xs = []
  · refine ⟨_, (CtxT z G G0 w0).kept none, h1, ⟨h3.size, fun k hk _ => h3.block k hk, fun k hk => .inl hk⟩, ⟨tw', ex'⟩, h A c none fun i hi => ?_⟩
    rw [h0] at hi
    cases hi
  · obtain ⟨b, rfl, hb⟩ : ∃ b, A = some ⟨b, 0, none⟩ ∧ w.heap.size ≤ b := by
      rcases h4 with h4 | h4
      · exact absurd h4 h0
      · exact h4
    have hcells : ∀ i (h : i < xs.length), w'.cell? ⟨b, i, none⟩ = some (.int .i64 (xs[i] : Int)) := fun i hi => by
      rcases h2 with h2 | ⟨b', o', h5, _, h6⟩
      · simp only [ns, List.map_eq_nil_iff] at h2
        exact absurd h2 h0
      · injection h5 with h5
        injection h5 with h7 h8
        subst h7 h8
        have := h6 i (.int .i64 (xs[i] : Int)) (by simp [ns, hi])
        simpa using this
    have hlt : b < w'.heap.size := by
      rcases h2 with h2 | ⟨b', o', h5, h7, _⟩
      · simp only [ns, List.map_eq_nil_iff] at h2
        exact absurd h2 h0
      · injection h5 with h5
        injection h5 with h8 _
        subst h8
        exact h7
    obtain ⟨ob, hob⟩ : ∃ ob, w'.heap[b]? = some ob := ⟨_, Array.getElem?_eq_getElem hlt⟩
    refine ⟨_, (CtxT z G G0 w0).kept (some (b, ob)), h1, ⟨h3.size, fun k hk _ => h3.block k hk, fun k hk => ?_⟩, ⟨⟨tw', ex'⟩, hob, fun hd => ?_⟩, h _ c _ fun i hi => ⟨b, ob, rfl, rfl, fun w2 h5 => ?_⟩⟩
    · rcases hk with hk | rfl
      · exact .inl hk
      · exact .inr hb
    · rcases hd with ⟨x, hx⟩ | hd
      · have := tw.lt hx; omega
      · have := ex.size; omega
    · rw [World.cell?_of_block (w := w') (w' := w2) (a := ⟨b, i, none⟩) (h5.trans hob.symm)]
      exact hcells i hi
theorem ldR {P : Program} {C : Ctx} {b : Nat} {ob : Go.Obj} {t : TypeId} {i : TyI} (hi : TyOk P t i) (hag : i.d.agg = false) {j : Nat} {v : Value} (hv : ∀ w : World, w.heap[b]? = some ob → w.cell? ⟨b, j, none⟩ = some v) {K : Value → Ctx → Prop} (h : K v (C.kept (some (b, ob)))) {a : Addr} (ha : a = ⟨b, j, none⟩) : SemVC P (C.kept (some (b, ob))) (Instr.loadAt t (.pointer (some a))) K := by
  subst ha
  exact load_cell hi hag (fun u => u = v) (fun w hw => ⟨v, hv w hw.2.1, rfl⟩) (fun u hu => hu ▸ h)
/-! ### the elision -/
def Wd.el (d : Wd) : El := ⟨d.err, d.value, d.Ac, d.nc, d.cc, d.Am, d.nm, d.cm, d.As, d.ns, d.cs, d.Ah, d.nh, d.ch, d.Au, d.nu, d.cu, d.Ap, d.np, d.cp, d.steps, d.tasks, d.Af, d.nf, d.cf⟩
theorem Wd.el_is {d : Wd} {z : Zp} {G : Gh} {w : World} (hd : d.Ok G) (tw : TW z G w) (hz : z.s = true) (hp : d.np = 0) : d.el.Is w (List.replicate d.nu 0) [] := by
  refine ⟨?_, .inl rfl, by simp [Wd.el], hp⟩
  by_cases h0 : d.nu = 0
  · exact .inl (by rw [h0]; rfl)
  · obtain ⟨b, off, hA, hb, _, _⟩ := hd.u.at_ tw (i := 0) (by omega)
    refine .inr ⟨b, off, hA, hb, fun i hi => ?_⟩
    have hi' : i < d.nu := by simpa using hi
    obtain ⟨b', off', hA', _, _, s, _, _, _, h1, h2, _⟩ := hd.u.at_ tw (i := i) hi'
    rw [hA] at hA'
    injection hA' with hA'
    injection hA' with h3 h4
    subst h3 h4
    rw [h2 hz] at h1
    simp only [RT.size, Nat.add_zero] at h1
    simpa using h1
theorem bserial_any (c : Cd) (Bo : Nat → Bd) (w : World) (hc : c.Is Bo Gh.none w) (hn : c.nf ≤ 9223372036854775807) : Calls Try.prog 5 #[c.val] w (PostT ⟨true, 0⟩ Gh.none w fun _ _ v => v = .bool true) := by
  have tw : TW ⟨true, 0⟩ Gh.none w := TW.nil _ w
  refine go5 (by rfl) (CtxT ⟨true, 0⟩ Gh.none Gh.none w) (CtxT.start tw) ?_
  conv => whnf
  refine CallVC.readT [] (enters_of Try.func6 (by kernel_rfl) (by kernel_rfl)) (fun v => v = .bool true) (fun w' _ _ => (shown_any w').mono fun e w2 h => ⟨_, h.1, h.2, rfl⟩) ?_
  rintro v rfl
  conv => whnf
  refine CallVC.ofT [c.val, .int .i64 40, .int .i64 1] en14 (LittleΦ 40 1) (fun w' tw' ex' => little_T c Bo w' (hc.ex ex') hn 40 1) ?_
  rintro z1 G1 v l1 ⟨d, b, rfl, hd, b1, b2, hb⟩
  conv => whnf
  refine splitB.not (fun h => ?_) (fun h => ?_)
  · conv => whnf
    intro w' hw'
    exact ⟨_, _, _, rfl, hw'.1, hw'.2, rfl⟩
  obtain ⟨_, hu, ht, hz⟩ := hb h
  obtain ⟨hz, hp⟩ := hz ht
  have hu : d.nu ≤ 40 := by omega
  clear hb
  have hrun : S.run S.init [] = some S.init := rfl
  have hzs : ∀ u ∈ List.replicate d.nu 0, u < S.init.n := fun u hu => by
    have := (List.mem_replicate.1 hu).2
    rw [this]
    decide
  have hch : B.chain (S.lds S.init.places) (List.replicate d.nu 0) = List.range d.nu := chain_zeros d.nu _
  have hl := List.length_range (n := d.nu)
  obtain ⟨xs, hxs⟩ : ∃ xs, xs = List.range d.nu := ⟨_, rfl⟩
  have hxi : ∀ i (h : i < xs.length), xs[i] = i := fun i h => by subst hxs; simp
  rw [← hxs] at hch hl
  conv => whnf
  refine CallVC.rowT [d.el.val] xs (enters_of Try.func9 (by kernel_rfl) (by kernel_rfl)) (fun w' tw' ex' => ?_) ?_
  · have := chain_new d.el _ [] S.init w' (Wd.el_is hd tw' hz hp) (by simp) (by simp; omega) hrun hzs
    rw [hch] at this
    exact this
  intro A cc o hrow
  conv => whnf
  refine LoopVC.on (X := Nat) (fun k => [(3, .v (.bool true)), (4, .p 4 0), (6, .v (.slice A xs.length cc)), (7, .v (.int .i64 k))]) (fun _ => [(4, 29, [.int .i64 d.err, .int .i64 d.value, .slice d.Ac d.nc d.cc, .slice d.Am d.nm d.cm, .slice d.As d.ns d.cs, .slice d.Ah d.nh d.ch, .slice d.Au d.nu d.cu, .slice d.Ap d.np d.cp, .int .i64 d.steps, .int .i64 d.tasks, .slice d.Af d.nf d.cf])]) (fun _ => (CtxT z1 G1 Gh.none w).kept o) (fun k => k ≤ xs.length) (fun k => xs.length - k) 0 (Nat.zero_le _) ⟨rfl, rfl, rfl, rfl, trivial⟩ ⟨rfl, trivial⟩ ?_
  intro k r hk
  conv => whnf
  refine splitB.dec (fun h1 => ?_) (fun h1 => ?_)
  · have h1 : k < xs.length := by omega
    have hk' := hxi k h1
    obtain ⟨bb, ob, rfl, rfl, hcell⟩ := hrow k h1
    rw [hk'] at hcell
    clear hrow hxi
    conv => whnf
    refine idx_ok rfl k rfl h1 ?_
    conv => whnf
    refine ldR (C := CtxT z1 G1 Gh.none w) ti3_ok rfl hcell ?_ (by simp)
    conv => whnf
    refine splitB.ne (fun h => absurd rfl h) (fun h => ?_)
    conv => whnf
    exact rnd (k + 1) (by show xs.length - (k + 1) < xs.length - k; omega) (by show k + 1 ≤ xs.length; omega) ⟨rfl, rfl, rfl, by show _ = _; rw [← wnat k (by omega)]; rfl, trivial⟩ ⟨rfl, trivial⟩
  · conv => whnf
    repeat' (first
      | (refine JoinVC.go ?_; conv => whnf)
      | (refine And.intro ?_ ?_ <;> conv => whnf)
      | (refine CallVC.drop (C := CtxT z1 G1 Gh.none w) (o := o) ?_
         refine CallVC.readT [d.el.val] (enters_of Try.func13 (by kernel_rfl) (by kernel_rfl)) (fun v => v = .int .i64 (xs.length : Int)) (fun w' tw' _ => ?_) ?_
         · have := span_any d.el _ [] S.init w' (Wd.el_is hd tw' hz hp) (by simp) (by simp; omega) hrun hzs
           rw [hch] at this
           exact this.mono fun e w2 h => ⟨_, h.1, h.2, rfl⟩
         rintro v rfl
         conv => whnf)
      | (refine CallVC.readT [d.el.val] (enters_of Try.func13 (by kernel_rfl) (by kernel_rfl)) (fun v => v = .int .i64 (xs.length : Int)) (fun w' tw' _ => ?_) ?_
         · have := span_any d.el _ [] S.init w' (Wd.el_is hd tw' hz hp) (by simp) (by simp; omega) hrun hzs
           rw [hch] at this
           exact this.mono fun e w2 h => ⟨_, h.1, h.2, rfl⟩
         rintro v rfl
         conv => whnf)
      | (refine CallVC.drop (C := CtxT z1 G1 Gh.none w) (o := o) ?_
         refine CallVC.readT [d.el.val] (enters_of Try.func11 (by kernel_rfl) (by kernel_rfl)) (fun v => v = .int .i64 (d.nu : Int)) (fun w' _ _ => (work_any d.el w' (by show d.nu ≤ 1000; omega)).mono fun e w2 h => ⟨_, h.1, h.2, rfl⟩) ?_
         rintro v rfl
         conv => whnf)
      | (refine CallVC.readT [d.el.val] (enters_of Try.func11 (by kernel_rfl) (by kernel_rfl)) (fun v => v = .int .i64 (d.nu : Int)) (fun w' _ _ => (work_any d.el w' (by show d.nu ≤ 1000; omega)).mono fun e w2 h => ⟨_, h.1, h.2, rfl⟩) ?_
         rintro v rfl
         conv => whnf)
      | (refine splitB.eq (fun h => ?_) (fun h => absurd h (by omega)); conv => whnf)
      | (intro w' hw'; exact ⟨_, _, _, rfl, hw'.1, hw'.2, rfl⟩)
      | (rw [hl]
         intro w' hw'
         refine ⟨_, _, _, rfl, hw'.1, hw'.2, ?_⟩
         show Value.bool _ = Value.bool true
         simp))
end Go.Proofs.Ytahhihhfjimppaa
/- arguments: an elision by value, opened -/
namespace Go.Proofs.Ytahhihhfjimppaa
open Go.ChangeShapes Go.WideShapes Go.RowKit Go.Deep
set_option linter.unusedSimpArgs false
set_option linter.unusedVariables false
set_option maxRecDepth 100000

section
variable {H : Type} {enc : TypeId × Value → H} {w : World} {base : Nat} {spare : Nat → Bool} {held : Bool} {fuel : Nat}
theorem slice_cell {t e : TypeId} {c : Value} {x : DataW H × List MemPlace} (ht : Try.prog.underlying t = some (.slice e)) (h : DataW.trod enc Try.prog w base spare held fuel t [c] = some x) : ∃ a len cap, c = .slice a len cap ∧ len ≤ cap ∧ cap ≤ 9223372036854775807 := by
  rcases open_slice ht h with ⟨hcs, _⟩ | ⟨a, l, cc, m, n, D, Pl, hcs, hb, hl, hm, hmm, hx, hi⟩
  · injection hcs with hcs _
    exact ⟨none, 0, 0, hcs, Nat.le_refl _, by omega⟩
  · injection hcs with hcs _
    exact ⟨some a, l, cc, hcs, hl, hm⟩
/-- the cells of a use -/
def uc (z : Int) (a : Option Addr) (n c : Nat) (z1 z2 z3 z4 z5 z6 z7 : Int) (b : Bool) : List Value := [.int .i64 z, .slice a n c, .int .i64 z1, .int .i64 z2, .int .i64 z3, .int .i64 z4, .int .i64 z5, .int .i64 z6, .int .i64 z7, .bool b]
theorem flat_op : Flat Try.prog 44 := by
  refine flat_struct Try.underlying44 (by kernel_rfl) ?_
  intro f hf
  have hi : Flat Try.prog 3 := flat_int Try.underlying3
  simp only [List.mem_cons, List.not_mem_nil, or_false] at hf
  rcases hf with rfl | rfl | rfl | rfl <;> exact hi
theorem list10 {cs : List Value} (h : cs.length = 10) : ∃ a b c d e f g i j k, cs = [a, b, c, d, e, f, g, i, j, k] := by
  match cs, h with
  | [a, b, c, d, e, f, g, i, j, k], _ => exact ⟨a, b, c, d, e, f, g, i, j, k, rfl⟩
theorem list11 {cs : List Value} (h : cs.length = 11) : ∃ a b c d e f g i j k l, cs = [a, b, c, d, e, f, g, i, j, k, l] := by
  match cs, h with
  | [a, b, c, d, e, f, g, i, j, k, l], _ => exact ⟨a, b, c, d, e, f, g, i, j, k, l, rfl⟩
theorem use_cells {cs : List Value} {x : DataW H × List MemPlace} (h : DataW.trod enc Try.prog w base spare held fuel 46 cs = some x) : ∃ z a n c z1 z2 z3 z4 z5 z6 z7 b, cs = uc z a n c z1 z2 z3 z4 z5 z6 z7 b := by
  obtain ⟨ys, n, _, _, hlen, hyl, hg⟩ := DataW.trod_struct Try.underlying46 h
  have hC : Try.prog.cellsOf 46 = 10 := by kernel_rfl
  obtain ⟨c0, c1, c2, c3, c4, c5, c6, c7, c8, c9, rfl⟩ := list10 (hlen.trans hC)
  have k3 : Try.prog.cellsOf 3 = 1 := by kernel_rfl
  have k4 : Try.prog.cellsOf 4 = 1 := by kernel_rfl
  have k23 : Try.prog.cellsOf 23 = 1 := by kernel_rfl
  have k44 : Try.prog.cellsOf 44 = 4 := by kernel_rfl
  have hi : Try.prog.underlying 3 = some (.int .i64) := Try.underlying3
  have hb : Try.prog.underlying 4 = some .bool := Try.underlying4
  have hy : ∀ j, j < 7 → ∃ y, ys[j]? = some y := fun j hj => ⟨_, List.getElem?_eq_getElem (by rw [hyl]; exact hj)⟩
  obtain ⟨u0, v0⟩ := hy 0 (by omega)
  obtain ⟨u1, v1⟩ := hy 1 (by omega)
  obtain ⟨u2, v2⟩ := hy 2 (by omega)
  obtain ⟨u3, v3⟩ := hy 3 (by omega)
  obtain ⟨u4, v4⟩ := hy 4 (by omega)
  obtain ⟨u5, v5⟩ := hy 5 (by omega)
  obtain ⟨u6, v6⟩ := hy 6 (by omega)
  have h0 : DataW.trod enc Try.prog w base spare held n 3 (List.take (Try.prog.cellsOf 3) (List.drop 0 [c0, c1, c2, c3, c4, c5, c6, c7, c8, c9])) = some u0 := (hg 0 _ rfl).trans v0
  have h1 : DataW.trod enc Try.prog w base spare held n 23 (List.take (Try.prog.cellsOf 23) (List.drop 1 [c0, c1, c2, c3, c4, c5, c6, c7, c8, c9])) = some u1 := (hg 1 _ rfl).trans v1
  have h2 : DataW.trod enc Try.prog w base spare held n 3 (List.take (Try.prog.cellsOf 3) (List.drop 2 [c0, c1, c2, c3, c4, c5, c6, c7, c8, c9])) = some u2 := (hg 2 _ rfl).trans v2
  have h3 : DataW.trod enc Try.prog w base spare held n 3 (List.take (Try.prog.cellsOf 3) (List.drop 3 [c0, c1, c2, c3, c4, c5, c6, c7, c8, c9])) = some u3 := (hg 3 _ rfl).trans v3
  have h4 : DataW.trod enc Try.prog w base spare held n 44 (List.take (Try.prog.cellsOf 44) (List.drop 4 [c0, c1, c2, c3, c4, c5, c6, c7, c8, c9])) = some u4 := (hg 4 _ rfl).trans v4
  have h5 : DataW.trod enc Try.prog w base spare held n 3 (List.take (Try.prog.cellsOf 3) (List.drop 8 [c0, c1, c2, c3, c4, c5, c6, c7, c8, c9])) = some u5 := (hg 5 _ rfl).trans v5
  have h6 : DataW.trod enc Try.prog w base spare held n 4 (List.take (Try.prog.cellsOf 4) (List.drop 9 [c0, c1, c2, c3, c4, c5, c6, c7, c8, c9])) = some u6 := (hg 6 _ rfl).trans v6
  rw [k3] at h0 h2 h3 h5
  rw [k23] at h1
  rw [k44] at h4
  rw [k4] at h6
  simp only [List.drop_succ_cons, List.drop_zero, List.take_succ_cons, List.take_zero] at h0 h1 h2 h3 h4 h5 h6
  obtain ⟨a0, q0, _, _⟩ := DataW.trod_int hi h0
  obtain ⟨a2, q2, _, _⟩ := DataW.trod_int hi h2
  obtain ⟨a3, q3, _, _⟩ := DataW.trod_int hi h3
  obtain ⟨a8, q8, _, _⟩ := DataW.trod_int hi h5
  obtain ⟨b9, q9, _⟩ := DataW.trod_bool hb h6
  obtain ⟨sa, sn, sc, q1, _, _⟩ := slice_cell Try.underlying23 h1
  have hn := flat_op h4
  obtain ⟨a4, q4, _⟩ := hn c4 (by simp)
  obtain ⟨a5, q5, _⟩ := hn c5 (by simp)
  obtain ⟨a6, q6, _⟩ := hn c6 (by simp)
  obtain ⟨a7, q7, _⟩ := hn c7 (by simp)
  injection q0 with q0 _
  injection q2 with q2 _
  injection q3 with q3 _
  injection q8 with q8 _
  injection q9 with q9 _
  subst q0 q1 q2 q3 q4 q5 q6 q7 q8 q9
  exact ⟨_, _, _, _, _, _, _, _, _, _, _, _, rfl⟩

/-- a row of uses: its cells, and its strands -/
structure IsUses (w : World) (A : Option Addr) (len cap : Nat) (xs : List Value) (zs : List Int) : Prop where
  nz : zs.length = len
  nx : xs.length = len * 10
  rd : Rd w w.heap.size A xs
  one : ∀ u ∈ xs, u.oneCell' = true
  at_ : ∀ i (h : i < zs.length), xs[i * 10]? = some (.int .i64 zs[i])
  cap : len ≤ cap ∧ cap ≤ 9223372036854775807
theorem IsUses.strs {A : Option Addr} {len cap : Nat} {xs : List Value} {zs : List Int} (h : IsUses w A len cap xs zs) : StrsI w w.heap.size A zs := by
  rcases h.rd with h0 | ⟨b, off, rfl, hb, hc⟩
  · left
    have h1 := h.nx
    have h2 := h.nz
    rw [h0] at h1
    simp at h1
    exact List.eq_nil_of_length_eq_zero (by omega)
  · exact .inr ⟨b, off, rfl, hb, fun i hi => hc _ _ (h.at_ i hi)⟩
theorem uses_upto {a : Addr} : ∀ (len : Nat), (∀ i, i < len → ∃ cs, (w.cells? base (a.add (i * 10)) 10 = some cs) ∧ ∃ z a n c z1 z2 z3 z4 z5 z6 z7 b, cs = uc z a n c z1 z2 z3 z4 z5 z6 z7 b) →
    ∃ (xs : List Value) (zs : List Int), zs.length = len ∧ xs.length = len * 10 ∧ (∀ u ∈ xs, u.oneCell' = true) ∧ (∀ i (h : i < zs.length), xs[i * 10]? = some (.int .i64 zs[i])) ∧ ∀ j u, xs[j]? = some u → w.cell? (a.add j) = some u := by
  intro len
  induction len with
  | zero => intro _; exact ⟨[], [], rfl, rfl, fun _ h => by simp at h, fun i h => by simp at h, fun j u h => by simp at h⟩
  | succ len ih =>
    intro h
    obtain ⟨xs, zs, hz, hx, h1, hat0, hc⟩ := ih (fun i hi => h i (by omega))
    obtain ⟨cs, hcs, z, aa, n, c, z1, z2, z3, z4, z5, z6, z7, b, rfl⟩ := h len (by omega)
    obtain ⟨_, hcl, hat⟩ := World.cells?_some hcs
    refine ⟨xs ++ uc z aa n c z1 z2 z3 z4 z5 z6 z7 b, zs ++ [z], by simp [hz], by rw [List.length_append, hx, Nat.add_mul]; rfl, ?_, ?_, ?_⟩
    · intro u hu
      rcases List.mem_append.1 hu with hu | hu
      · exact h1 u hu
      · simp only [uc, List.mem_cons, List.not_mem_nil, or_false] at hu
        rcases hu with rfl | rfl | rfl | rfl | rfl | rfl | rfl | rfl | rfl | rfl <;> rfl
    · intro i hi
      rw [List.length_append, List.length_singleton] at hi
      by_cases hi2 : i < zs.length
      · rw [List.getElem?_append_left (by omega), hat0 i hi2, List.getElem_append_left hi2]
      · obtain rfl : i = zs.length := by omega
        rw [List.getElem?_append_right (by omega), show zs.length * 10 - xs.length = 0 by omega]
        simp [uc]
    · intro j u hu
      by_cases hj : j < xs.length
      · rw [List.getElem?_append_left hj] at hu; exact hc j u hu
      · rw [List.getElem?_append_right (by omega)] at hu
        have hjk : j - xs.length < 10 := (List.getElem?_eq_some_iff.1 hu).1
        have := hat _ hjk
        rw [Go.Deep.add_add] at this
        rw [hx] at this hu hj
        rw [show len * 10 + (j - len * 10) = j by omega] at this
        rw [this, hu]
theorem open_uses {fuel : Nat} {A : Option Addr} {len cap : Nat} {x : DataW H × List MemPlace}
    (h : DataW.trod enc Try.prog w base (fun _ => true) held fuel 25 [Value.slice A len cap] = some x) : ∃ xs zs, IsUses w A len cap xs zs := by
  have hC : Try.prog.cellsOf 46 = 10 := by kernel_rfl
  rcases open_slice Try.underlying25 h with ⟨hcs, _⟩ | ⟨a, l, c, m, n, D, Pl, hcs, hb, hl, hm, hmm, hx, hi⟩
  · simp at hcs
    obtain ⟨rfl, rfl, rfl⟩ := hcs
    exact ⟨[], [], rfl, rfl, .inl rfl, fun _ h => by simp at h, fun i h => by simp at h, Nat.le_refl _, by omega⟩
  · simp at hcs
    obtain ⟨rfl, rfl, rfl⟩ := hcs
    simp only [if_true] at hmm
    subst hmm
    rw [hC] at hi
    obtain ⟨xs, zs, hz, hxl, h1, hat, hc⟩ := uses_upto (w := w) (base := base) (a := a) len (fun i hil => by
      obtain ⟨cs', h1, h2⟩ := hi i (by omega)
      exact ⟨cs', h1, use_cells h2⟩)
    refine ⟨xs, zs, hz, hxl, ?_, h1, hat, hl, hm⟩
    refine Rd.top (B := a.block + 1) ?_
    rcases Nat.eq_zero_or_pos len with h0 | hp
    · left
      exact List.eq_nil_of_length_eq_zero (by omega)
    · have hsp : a.spot = none := by
        have := World.cell?_spot (hc 0 _ (List.getElem?_eq_getElem (by omega)))
        simpa [Addr.add] using this
      obtain ⟨b, off, sp⟩ := a
      simp only at hsp
      subst hsp
      refine .inr ⟨b, off, rfl, by simp, fun j u hu => ?_⟩
      have := hc j u hu
      rw [Addr.add_lit] at this
      exact this
/-- what an elision is read as -/
structure IsEl (w : World) (E : El) (xs : List Value) (zs : List Int) (l : List S.Five) : Prop where
  uses : IsUses w E.A6 E.n6 E.c6 xs zs
  splits : Rd w w.heap.size E.A7 (fcs l)
  nl : E.n7 = l.length
  t9 : (Lit.int .i64 E.e9).wf = true
theorem open_el {fuel : Nat} {cs : List Value} {x : DataW H × List MemPlace} (h : DataW.trod enc Try.prog w base (fun _ => true) held fuel 29 cs = some x) : ∃ E : El, cs = E.cs.toList ∧ ∃ xs zs l, IsEl w E xs zs l := by
  obtain ⟨ys, n, _, _, hlen, hyl, hg⟩ := DataW.trod_struct Try.underlying29 h
  have hC : Try.prog.cellsOf 29 = 11 := by kernel_rfl
  obtain ⟨c0, c1, c2, c3, c4, c5, c6, c7, c8, c9, c10, rfl⟩ := list11 (hlen.trans hC)
  have k3 : Try.prog.cellsOf 3 = 1 := by kernel_rfl
  have kE : Try.prog.cellsOf 22 = 1 := by kernel_rfl
  have k23 : Try.prog.cellsOf 23 = 1 := by kernel_rfl
  have k24 : Try.prog.cellsOf 24 = 1 := by kernel_rfl
  have k25 : Try.prog.cellsOf 25 = 1 := by kernel_rfl
  have k26 : Try.prog.cellsOf 26 = 1 := by kernel_rfl
  have k27 : Try.prog.cellsOf 27 = 1 := by kernel_rfl
  have hi : Try.prog.underlying 3 = some (.int .i64) := Try.underlying3
  have hE : Try.prog.underlying 22 = some (.int .i64) := Try.underlying22
  have hy : ∀ j, j < 11 → ∃ y, ys[j]? = some y := fun j hj => ⟨_, List.getElem?_eq_getElem (by rw [hyl]; exact hj)⟩
  obtain ⟨u0, v0⟩ := hy 0 (by omega)
  have h0 : DataW.trod enc Try.prog w base (fun _ => true) held n 22 (List.take (Try.prog.cellsOf 22) (List.drop 0 [c0, c1, c2, c3, c4, c5, c6, c7, c8, c9, c10])) = some u0 := (hg 0 _ rfl).trans v0
  obtain ⟨u1, v1⟩ := hy 1 (by omega)
  have h1 : DataW.trod enc Try.prog w base (fun _ => true) held n 3 (List.take (Try.prog.cellsOf 3) (List.drop 1 [c0, c1, c2, c3, c4, c5, c6, c7, c8, c9, c10])) = some u1 := (hg 1 _ rfl).trans v1
  obtain ⟨u2, v2⟩ := hy 2 (by omega)
  have h2 : DataW.trod enc Try.prog w base (fun _ => true) held n 23 (List.take (Try.prog.cellsOf 23) (List.drop 2 [c0, c1, c2, c3, c4, c5, c6, c7, c8, c9, c10])) = some u2 := (hg 2 _ rfl).trans v2
  obtain ⟨u3, v3⟩ := hy 3 (by omega)
  have h3 : DataW.trod enc Try.prog w base (fun _ => true) held n 24 (List.take (Try.prog.cellsOf 24) (List.drop 3 [c0, c1, c2, c3, c4, c5, c6, c7, c8, c9, c10])) = some u3 := (hg 3 _ rfl).trans v3
  obtain ⟨u4, v4⟩ := hy 4 (by omega)
  have h4 : DataW.trod enc Try.prog w base (fun _ => true) held n 24 (List.take (Try.prog.cellsOf 24) (List.drop 4 [c0, c1, c2, c3, c4, c5, c6, c7, c8, c9, c10])) = some u4 := (hg 4 _ rfl).trans v4
  obtain ⟨u5, v5⟩ := hy 5 (by omega)
  have h5 : DataW.trod enc Try.prog w base (fun _ => true) held n 24 (List.take (Try.prog.cellsOf 24) (List.drop 5 [c0, c1, c2, c3, c4, c5, c6, c7, c8, c9, c10])) = some u5 := (hg 5 _ rfl).trans v5
  obtain ⟨u6, v6⟩ := hy 6 (by omega)
  have h6 : DataW.trod enc Try.prog w base (fun _ => true) held n 25 (List.take (Try.prog.cellsOf 25) (List.drop 6 [c0, c1, c2, c3, c4, c5, c6, c7, c8, c9, c10])) = some u6 := (hg 6 _ rfl).trans v6
  obtain ⟨u7, v7⟩ := hy 7 (by omega)
  have h7 : DataW.trod enc Try.prog w base (fun _ => true) held n 26 (List.take (Try.prog.cellsOf 26) (List.drop 7 [c0, c1, c2, c3, c4, c5, c6, c7, c8, c9, c10])) = some u7 := (hg 7 _ rfl).trans v7
  obtain ⟨u8, v8⟩ := hy 8 (by omega)
  have h8 : DataW.trod enc Try.prog w base (fun _ => true) held n 3 (List.take (Try.prog.cellsOf 3) (List.drop 8 [c0, c1, c2, c3, c4, c5, c6, c7, c8, c9, c10])) = some u8 := (hg 8 _ rfl).trans v8
  obtain ⟨u9, v9⟩ := hy 9 (by omega)
  have h9 : DataW.trod enc Try.prog w base (fun _ => true) held n 3 (List.take (Try.prog.cellsOf 3) (List.drop 9 [c0, c1, c2, c3, c4, c5, c6, c7, c8, c9, c10])) = some u9 := (hg 9 _ rfl).trans v9
  obtain ⟨u10, v10⟩ := hy 10 (by omega)
  have h10 : DataW.trod enc Try.prog w base (fun _ => true) held n 27 (List.take (Try.prog.cellsOf 27) (List.drop 10 [c0, c1, c2, c3, c4, c5, c6, c7, c8, c9, c10])) = some u10 := (hg 10 _ rfl).trans v10
  rw [kE] at h0
  rw [k3] at h1 h8 h9
  rw [k23] at h2
  rw [k24] at h3 h4 h5
  rw [k25] at h6
  rw [k26] at h7
  rw [k27] at h10
  simp only [List.drop_succ_cons, List.drop_zero, List.take_succ_cons, List.take_zero] at h0 h1 h2 h3 h4 h5 h6 h7 h8 h9 h10
  obtain ⟨e0, q0, _, _⟩ := DataW.trod_int hE h0
  obtain ⟨e1, q1, _, _⟩ := DataW.trod_int hi h1
  obtain ⟨e8, q8, _, _⟩ := DataW.trod_int hi h8
  obtain ⟨e9, q9, _, f9⟩ := DataW.trod_int hi h9
  obtain ⟨A2, n2, p2, q2, _, _⟩ := slice_cell Try.underlying23 h2
  obtain ⟨A3, n3, p3, q3, _, _⟩ := slice_cell Try.underlying24 h3
  obtain ⟨A4, n4, p4, q4, _, _⟩ := slice_cell Try.underlying24 h4
  obtain ⟨A5, n5, p5, q5, _, _⟩ := slice_cell Try.underlying24 h5
  obtain ⟨A6, n6, p6, q6, _, _⟩ := slice_cell Try.underlying25 h6
  obtain ⟨A7, n7, p7, q7, _, _⟩ := slice_cell Try.underlying26 h7
  obtain ⟨A10, n10, p10, q10, _, _⟩ := slice_cell Try.underlying27 h10
  injection q0 with q0 _
  injection q1 with q1 _
  injection q8 with q8 _
  injection q9 with q9 _
  subst q0 q1 q2 q3 q4 q5 q6 q7 q8 q9 q10
  obtain ⟨xs, zs, hu⟩ := open_uses h6
  obtain ⟨ws, hw⟩ : ∃ ws, IsFlat 5 w A7 n7 p7 ws := open_flat Try.underlying26 flat_split (by kernel_rfl) (by omega) h7
  obtain ⟨l, hl, hr⟩ := flat_fives hw
  exact ⟨⟨e0, e1, A2, n2, p2, A3, n3, p3, A4, n4, p4, A5, n5, p5, A6, n6, p6, A7, n7, p7, e8, e9, A10, n10, p10⟩, rfl, xs, zs, l, hu, hr, hl.symm, f9⟩
end
end Go.Proofs.Ytahhihhfjimppaa
/- arguments: a code by value, opened -/
namespace Go.Proofs.Ytahhihhfjimppaa
open Go.ChangeShapes Go.WideShapes Go.RowKit Go.Deep
set_option linter.unusedSimpArgs false
set_option linter.unusedVariables false
set_option maxRecDepth 100000

section
variable {H : Type} {enc : TypeId × Value → H} {w : World} {base : Nat} {held : Bool} {fuel : Nat}
theorem flat_ins : Flat Try.prog 90 := by
  have hi : Try.prog.underlying 3 = some (.int .i64) := by kernel_rfl
  refine flat_struct (fs := _) Try.underlying90 (by kernel_rfl) (fun f hf => ?_)
  simp only [List.mem_cons, List.not_mem_nil, or_false] at hf
  rcases hf with rfl | rfl | rfl | rfl <;> exact flat_int hi
theorem list3 {cs : List Value} (h : cs.length = 3) : ∃ a b c, cs = [a, b, c] := by
  match cs, h with
  | [a, b, c], _ => exact ⟨a, b, c, rfl⟩
theorem list6 {cs : List Value} (h : cs.length = 6) : ∃ a b c d e f, cs = [a, b, c, d, e, f] := by
  match cs, h with
  | [a, b, c, d, e, f], _ => exact ⟨a, b, c, d, e, f, rfl⟩
theorem four_at {zs : List Int} {n j : Nat} (h : zs.length = n * 4) (hj : j < n) : ∃ x0 x1 x2 x3, ∀ i v, [Value.int .i64 x0, .int .i64 x1, .int .i64 x2, .int .i64 x3][i]? = some v → (is zs)[j * 4 + i]? = some v := by
  refine ⟨zs[j * 4], zs[j * 4 + 1], zs[j * 4 + 2], zs[j * 4 + 3], fun i v hv => ?_⟩
  match i, hv with
  | 0, hv => cases hv; simp only [is, List.getElem?_map, Nat.add_zero]; rw [List.getElem?_eq_getElem (by omega)]; rfl
  | 1, hv => cases hv; simp only [is, List.getElem?_map]; rw [List.getElem?_eq_getElem (by omega)]; rfl
  | 2, hv => cases hv; simp only [is, List.getElem?_map]; rw [List.getElem?_eq_getElem (by omega)]; rfl
  | 3, hv => cases hv; simp only [is, List.getElem?_map]; rw [List.getElem?_eq_getElem (by omega)]; rfl
theorem open_body {cs : List Value} {x : DataW H × List MemPlace} (h : DataW.trod enc Try.prog w base (fun _ => true) held fuel 85 cs = some x) : ∃ b : Bd, cs = b.l ∧ b.Is Gh.none w := by
  obtain ⟨ys, n, _, _, hlen, hyl, hg⟩ := DataW.trod_struct Try.underlying85 h
  have hC : Try.prog.cellsOf 85 = 3 := by kernel_rfl
  obtain ⟨c0, c1, c2, rfl⟩ := list3 (hlen.trans hC)
  have k3 : Try.prog.cellsOf 3 = 1 := by kernel_rfl
  have kI : Try.prog.cellsOf 83 = 1 := by kernel_rfl
  have hi : Try.prog.underlying 3 = some (.int .i64) := Try.underlying3
  have hy : ∀ j, j < 3 → ∃ y, ys[j]? = some y := fun j hj => ⟨_, List.getElem?_eq_getElem (by rw [hyl]; exact hj)⟩
  obtain ⟨u0, v0⟩ := hy 0 (by omega)
  have h0 : DataW.trod enc Try.prog w base (fun _ => true) held n 3 (List.take (Try.prog.cellsOf 3) (List.drop 0 [c0, c1, c2])) = some u0 := (hg 0 _ rfl).trans v0
  obtain ⟨u1, v1⟩ := hy 1 (by omega)
  have h1 : DataW.trod enc Try.prog w base (fun _ => true) held n 3 (List.take (Try.prog.cellsOf 3) (List.drop 1 [c0, c1, c2])) = some u1 := (hg 1 _ rfl).trans v1
  obtain ⟨u2, v2⟩ := hy 2 (by omega)
  have h2 : DataW.trod enc Try.prog w base (fun _ => true) held n 83 (List.take (Try.prog.cellsOf 83) (List.drop 2 [c0, c1, c2])) = some u2 := (hg 2 _ rfl).trans v2
  rw [k3] at h0 h1
  rw [kI] at h2
  simp only [List.drop_succ_cons, List.drop_zero, List.take_succ_cons, List.take_zero] at h0 h1 h2
  obtain ⟨e0, q0, _, _⟩ := DataW.trod_int hi h0
  obtain ⟨e1, q1, _, _⟩ := DataW.trod_int hi h1
  obtain ⟨A2, n2, p2, q2, _, _⟩ := slice_cell Try.underlying83 h2
  injection q0 with q0 _
  injection q1 with q1 _
  subst q0 q1 q2
  obtain ⟨ws, hz, hr, _, _⟩ : ∃ ws, IsFlat 4 w A2 n2 p2 ws := open_flat Try.underlying83 flat_ins (by kernel_rfl) (by omega) h2
  refine ⟨⟨e0, e1, A2, n2, p2⟩, rfl, fun j hj => ?_⟩
  have hj : j < n2 := hj
  rcases hr with hr | ⟨b, off, rfl, hb, hc⟩
  · have : (is ws).length = 0 := by rw [hr]; rfl
    simp only [is, List.length_map] at this
    omega
  · obtain ⟨x0, x1, x2, x3, hx⟩ := four_at hz hj
    exact ⟨b, off, rfl, hb, rfl, x0, x1, x2, x3, fun i v hv => by rw [Nat.add_assoc]; exact hc _ _ (hx i v hv)⟩
theorem open_code {cs : List Value} {x : DataW H × List MemPlace} (h : DataW.trod enc Try.prog w base (fun _ => true) held fuel 54 cs = some x) : ∃ c : Cd, cs = c.l ∧ ∃ B, c.Is B Gh.none w ∧ c.nf ≤ 9223372036854775807 := by
  obtain ⟨ys, n, _, _, hlen, hyl, hg⟩ := DataW.trod_struct Try.underlying54 h
  have hC : Try.prog.cellsOf 54 = 6 := by kernel_rfl
  obtain ⟨c0, c1, c2, c3, c4, c5, rfl⟩ := list6 (hlen.trans hC)
  have k3 : Try.prog.cellsOf 3 = 1 := by kernel_rfl
  have kF : Try.prog.cellsOf 52 = 1 := by kernel_rfl
  have kI : Try.prog.cellsOf 23 = 1 := by kernel_rfl
  have hi : Try.prog.underlying 3 = some (.int .i64) := Try.underlying3
  have hy : ∀ j, j < 6 → ∃ y, ys[j]? = some y := fun j hj => ⟨_, List.getElem?_eq_getElem (by rw [hyl]; exact hj)⟩
  obtain ⟨u0, v0⟩ := hy 0 (by omega)
  have h0 : DataW.trod enc Try.prog w base (fun _ => true) held n 52 (List.take (Try.prog.cellsOf 52) (List.drop 0 [c0, c1, c2, c3, c4, c5])) = some u0 := (hg 0 _ rfl).trans v0
  obtain ⟨u1, v1⟩ := hy 1 (by omega)
  have h1 : DataW.trod enc Try.prog w base (fun _ => true) held n 23 (List.take (Try.prog.cellsOf 23) (List.drop 1 [c0, c1, c2, c3, c4, c5])) = some u1 := (hg 1 _ rfl).trans v1
  obtain ⟨u2, v2⟩ := hy 2 (by omega)
  have h2 : DataW.trod enc Try.prog w base (fun _ => true) held n 3 (List.take (Try.prog.cellsOf 3) (List.drop 2 [c0, c1, c2, c3, c4, c5])) = some u2 := (hg 2 _ rfl).trans v2
  obtain ⟨u3, v3⟩ := hy 3 (by omega)
  have h3 : DataW.trod enc Try.prog w base (fun _ => true) held n 3 (List.take (Try.prog.cellsOf 3) (List.drop 3 [c0, c1, c2, c3, c4, c5])) = some u3 := (hg 3 _ rfl).trans v3
  obtain ⟨u4, v4⟩ := hy 4 (by omega)
  have h4 : DataW.trod enc Try.prog w base (fun _ => true) held n 3 (List.take (Try.prog.cellsOf 3) (List.drop 4 [c0, c1, c2, c3, c4, c5])) = some u4 := (hg 4 _ rfl).trans v4
  obtain ⟨u5, v5⟩ := hy 5 (by omega)
  have h5 : DataW.trod enc Try.prog w base (fun _ => true) held n 3 (List.take (Try.prog.cellsOf 3) (List.drop 5 [c0, c1, c2, c3, c4, c5])) = some u5 := (hg 5 _ rfl).trans v5
  rw [kF] at h0
  rw [kI] at h1
  rw [k3] at h2 h3 h4 h5
  simp only [List.drop_succ_cons, List.drop_zero, List.take_succ_cons, List.take_zero] at h0 h1 h2 h3 h4 h5
  obtain ⟨e2, q2, _, _⟩ := DataW.trod_int hi h2
  obtain ⟨e3, q3, _, _⟩ := DataW.trod_int hi h3
  obtain ⟨e4, q4, _, _⟩ := DataW.trod_int hi h4
  obtain ⟨e5, q5, _, _⟩ := DataW.trod_int hi h5
  obtain ⟨A0, n0, p0, q0, le0, le1⟩ := slice_cell Try.underlying52 h0
  obtain ⟨A1, n1, p1, q1, _, _⟩ := slice_cell Try.underlying23 h1
  injection q2 with q2 _
  injection q3 with q3 _
  injection q4 with q4 _
  injection q5 with q5 _
  subst q0 q1 q2 q3 q4 q5
  obtain ⟨ws, hz, hr, _, _⟩ : ∃ ws, IsFlat 1 w A1 n1 p1 ws := open_flat Try.underlying23 (flat_int hi) (by kernel_rfl) (by omega) h1
  have hcell : ∀ j, j < n1 → ∃ g o x, A1 = some ⟨g, o, none⟩ ∧ g < w.heap.size ∧ Gh.none g = none ∧ w.cell? ⟨g, o + j, none⟩ = some (.int .i64 x) := fun j hj => by
    rcases hr with hr | ⟨b, off, rfl, hb, hc⟩
    · have : (is ws).length = 0 := by rw [hr]; rfl
      simp only [is, List.length_map] at this
      omega
    · exact ⟨b, off, ws[j]'(by omega), rfl, hb, rfl, hc j _ (by simp only [is, List.getElem?_map]; rw [List.getElem?_eq_getElem (by omega)]; rfl)⟩
  have hbod : ∀ k, ∃ b : Bd, k < n0 → b.Is Gh.none w ∧ ∃ g o, A0 = some ⟨g, o, none⟩ ∧ g < w.heap.size ∧ Gh.none g = none ∧ ∀ i v, [Value.int .i64 b.args, .int .i64 b.locals, .slice b.A b.n b.c][i]? = some v → w.cell? ⟨g, o + k * 3 + i, none⟩ = some v := fun k => by
    by_cases hk : k < n0
    · have hB : Try.prog.cellsOf 85 = 3 := by kernel_rfl
      rcases open_slice Try.underlying52 h0 with ⟨hcs, _⟩ | ⟨a, l, c, m, n', D, Pl, hcs, hb, hl, hm, hmm, hx, hi'⟩
      · simp at hcs
        omega
      · simp at hcs
        obtain ⟨rfl, rfl, rfl⟩ := hcs
        simp only [if_true] at hmm
        subst hmm
        rw [hB] at hi'
        obtain ⟨cs', h6, h7⟩ := hi' k (by omega)
        obtain ⟨b, rfl, hbi⟩ := open_body h7
        obtain ⟨_, hcl, hat⟩ := World.cells?_some h6
        have hat' : ∀ i v, b.l[i]? = some v → w.cell? ((a.add (k * 3)).add i) = some v := fun i v hv => by
          have hlt : i < 3 := (List.getElem?_eq_some_iff.1 hv).1
          rw [hat i hlt]
          exact hv
        have hsp : a.spot = none := by
          obtain ⟨cs0, h60, h70⟩ := hi' 0 (by omega)
          obtain ⟨b0, rfl, _⟩ := open_body h70
          obtain ⟨_, _, hat0⟩ := World.cells?_some h60
          have h80 := hat0 0 (by omega)
          have := World.cell?_spot (h80.trans (rfl : b0.l[0]? = some (.int .i64 b0.args)))
          simpa [Addr.add] using this
        obtain ⟨g, off, sp⟩ := a
        simp only at hsp
        subst hsp
        refine ⟨b, fun _ => ⟨hbi, g, off, rfl, ?_, rfl, fun i v hv => ?_⟩⟩
        · have := World.block_lt_of_cell? w _ (hat' 0 _ rfl)
          simpa only [Addr.add_lit] using this
        · have := hat' i v hv
          simp only [Addr.add_lit] at this
          exact this
    · exact ⟨⟨0, 0, none, 0, 0⟩, fun h => absurd h hk⟩
  refine ⟨⟨A0, n0, p0, A1, n1, p1, e2, e3, e4, e5⟩, rfl, fun k => Classical.choose (hbod k), ⟨fun k hk => ?_, fun k hk => (Classical.choose_spec (hbod k) hk).1, hcell⟩, Nat.le_trans le0 le1⟩
  exact (Classical.choose_spec (hbod k) hk).2
end
end Go.Proofs.Ytahhihhfjimppaa
