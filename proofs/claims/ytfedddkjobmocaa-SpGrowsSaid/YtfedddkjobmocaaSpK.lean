/- SpGrows walked -/
import Derived.Test.YtfedddkjobmocaaSpJ
import Derived.Test.YtfedddkjobmocaaCut
namespace Go.Proofs.Ytfedddkjobmocaa
open Go.RowKit
set_option linter.unusedSimpArgs false
set_option linter.unusedVariables false
set_option maxRecDepth 100000

theorem cut_hk {P : Program} {A : Option Addr} {t e : TypeId} {i : TypeInfo} (ht : P.underlying t = some (.slice e)) (hi : P.info? e = some i) (n c m : Nat) (hI : Int) (hh : hI = m) (hm : m ≤ c) :
    ∀ w', (Instr.slice t (.slice A n c) none (some (.int .i64 hI)) none).run P w' = .ok (.slice A m c) w' := by
  intro w'
  have he := elem_of ht
  rw [run_slice_h w' t A n c (by rw [he]; exact ht) .i64 hI (by omega) (by omega)]
  subst hh
  have ha : ∀ o : Option Addr, o.map (·.add 0) = o := by
    intro o
    cases o with
    | none => rfl
    | some a => simp [Addr.add]
  by_cases hc : c = 0
  · subst hc
    simp [he, sizeOf, typeInfo, hi, sliced, Result.andThen]
  · simp [he, sizeOf, typeInfo, hi, sliced, Result.andThen, hc, ha]
theorem fcs_take (l : List S.Five) (k : Nat) : fcs (l.take k) = (fcs l).take (k * 5) := by
  induction l generalizing k with
  | nil => simp [fcs]
  | cons f l ih =>
    cases k with
    | zero => simp [fcs]
    | succ k => rw [List.take_succ_cons, fcs_cons, fcs_cons, ih, show (k + 1) * 5 = k * 5 + 1 + 1 + 1 + 1 + 1 by omega]; rfl

namespace S
theorem run_split {l : List Five} {s : State} (k : Nat) (h : run init l = some s) : ∃ s1, run init (l.take k) = some s1 ∧ run s1 (l.drop k) = some s := by
  rw [← List.take_append_drop k l, run_append] at h
  cases h1 : run init (l.take k) with
  | none => rw [h1] at h; cases h
  | some s1 => rw [h1] at h; exact ⟨s1, rfl, h⟩
/-- what SpGrows asks -/
structure Grown (P Q : List (Nat × Nat)) : Prop where
  len : Q.length ≤ P.length
  pos : 0 < P.length
  lt : ∀ x (h : x < P.length), P[x].1 < P.length ∧ P[x].2 < P.length
  inj : ∀ x y (hx : x < P.length) (hy : y < P.length), x ≠ y → P[x].1 ≠ P[y].1 ∧ P[x].2 ≠ P[y].2
  same : ∀ x y : Nat, x < Q.length → y < Q.length → S.ahead Q x y = S.ahead P x y ∧ S.par Q x y = S.par P x y
theorem grown_of {l : List Five} {s s1 : State} (k : Nat) (h1 : run init (l.take k) = some s1) (h2 : run s1 (l.drop k) = some s) : Grown s.places s1.places := by
  have g1 := run_good init_good h1
  have g := run_good g1 h2
  obtain ⟨e1, k1, o1, _, _⟩ := run_ord init_good init_ord h1
  obtain ⟨e, k, o, q1, q2⟩ := run_ord g1 o1 h2
  have hn := (run_n h2).2
  have hn1 := (run_n h1).2
  have hat : ∀ x (h : x < s.places.length), s.places[x] = (e.idxOf x, k.idxOf x) := by
    intro x hx
    have := o.places g (x := x) (by rw [← g.places_length]; exact hx)
    rw [List.getD_eq_getElem?_getD, List.getElem?_eq_getElem hx] at this
    exact this
  have hA : ∀ x y : Nat, x < s1.n → y < s1.n → S.ahead s1.places x y = S.ahead s.places x y := by
    intro x y hx hy
    unfold S.ahead S.there
    rw [Int.toNat_natCast, Int.toNat_natCast, o1.places g1 hx, o1.places g1 hy, o.places g (by omega), o.places g (by omega), g1.places_length, g.places_length]
    have a1 := q1 x y hx hy
    have a2 := q2 x y hx hy
    have c1 : (decide (0 ≤ (x : Int) ∧ (x : Int) < (s1.n : Int))) = true := by simp; omega
    have c2 : (decide (0 ≤ (y : Int) ∧ (y : Int) < (s1.n : Int))) = true := by simp; omega
    have c3 : (decide (0 ≤ (x : Int) ∧ (x : Int) < (s.n : Int))) = true := by simp; omega
    have c4 : (decide (0 ≤ (y : Int) ∧ (y : Int) < (s.n : Int))) = true := by simp; omega
    rw [c1, c2, c3, c4]
    simp only [a1, a2]
  refine ⟨by rw [g1.places_length, g.places_length]; exact hn, by rw [g.places_length]; have : init.n = 1 := rfl; omega, fun x hx => ?_, fun x y hx hy hxy => ?_, fun x y hx hy => ?_⟩
  · rw [hat x hx, g.places_length]
    have hx' : x < s.n := by rw [← g.places_length]; exact hx
    have := idx_lt ((o.me x).2 hx')
    have := idx_lt ((o.mh x).2 hx')
    have := o.le
    have := o.lh
    exact ⟨by show e.idxOf x < s.n; omega, by show k.idxOf x < s.n; omega⟩
  · rw [hat x hx, hat y hy]
    have hx' : x < s.n := by rw [← g.places_length]; exact hx
    exact ⟨fun h => hxy (idx_inj ((o.me x).2 hx') h), fun h => hxy (idx_inj ((o.mh x).2 hx') h)⟩
  · rw [g1.places_length] at hx hy
    refine ⟨hA x y hx hy, ?_⟩
    unfold S.par
    rw [hA x y hx hy, hA y x hy hx, g1.places_length, g.places_length]
    unfold S.there
    have c1 : (decide (0 ≤ (x : Int) ∧ (x : Int) < (s1.n : Int))) = true := by simp; omega
    have c2 : (decide (0 ≤ (y : Int) ∧ (y : Int) < (s1.n : Int))) = true := by simp; omega
    have c3 : (decide (0 ≤ (x : Int) ∧ (x : Int) < (s.n : Int))) = true := by simp; omega
    have c4 : (decide (0 ≤ (y : Int) ∧ (y : Int) < (s.n : Int))) = true := by simp; omega
    rw [c1, c2, c3, c4]
end S

set_option maxHeartbeats 4000000 in
theorem grows_walk (l : List S.Five) (A : Option Addr) (c : Nat) (a0 : Int) (w : World) (hr : Rd w w.heap.size A (fcs l)) (hlc : l.length ≤ c) (hlen : c ≤ 9223372036854775807) (ha1 : 0 ≤ a0) (ha2 : a0 ≤ 255) :
    Calls Try.prog 5 #[.slice A l.length c, .int .u8 a0] w (fun e w' => e = .returned (.bool true) ∧ Below w.heap.size w w') := by
  by_cases hl : l.length ≤ 40
  · have hlI : (l.length : Int) ≤ 40 := by omega
    go_enter Try.func5, Try.ntmps5
    go_wp2_with (go_at_call 8; refine (awake_any _).mono ?_)
    rintro e w1 ⟨rfl, b1⟩
    have r1 := hr.on b1
    clear hr
    go_wp2_with (go_at_call 9; refine (of_any l _ _ _ r1 hl).mono ?_)
    rintro e w2 ⟨b2, ⟨h, rfl⟩ | ⟨s, g, cap, h, rfl, ho, _⟩⟩
    · have H := Lib.hid h
      clear h
      replace b2 := b1.trans (b2.mono b1.size)
      go_wp2_with fail
      go_ret
      exact ⟨rfl, b2⟩
    · have hm1 : 0 ≤ a0 % ((l.length : Int) + 1) := Int.emod_nonneg _ (by omega)
      have hm2 : a0 % ((l.length : Int) + 1) < (l.length : Int) + 1 := Int.emod_lt_of_pos _ (by omega)
      obtain ⟨m, hm⟩ : ∃ m : Nat, a0 % ((l.length : Int) + 1) = (m : Int) := ⟨(a0 % ((l.length : Int) + 1)).toNat, by omega⟩
      obtain ⟨s1, h1, h2⟩ := S.run_split m h
      have hgr := S.grown_of m h1 h2
      have HP := Lib.hid (S.run_good S.init_good h).places_length
      have HQ := Lib.hid (S.run_good S.init_good h1).places_length
      have HM := Lib.hid hm
      have hml : m ≤ l.length := by omega
      have hP1 : s.places.length ≤ 1000 := by rw [HP.out]; have := S.run_n h; have : S.init.n = 1 := rfl; omega
      have H1 := Lib.hid h1
      have r2 := ho.rdk
      have rT := (r1.on b2).take (m * 5)
      rw [← fcs_take] at rT
      have hlt : (l.take m).length = m := by rw [List.length_take]; omega
      have HLT := Lib.hid hlt
      have hlt40 : (l.take m).length ≤ 40 := by omega
      replace b2 := b1.trans (b2.mono b1.size)
      obtain ⟨i5, hi5⟩ : ∃ i, Try.prog.info? 37 = some i := Option.isSome_iff_exists.1 (by kernel_rfl)
      have hcut := cut_hk (P := Try.prog) (A := A) Try.underlying22 hi5 l.length c m (a0 % ((l.length : Int) + 1)) hm (by omega)
      clear h h1 h2 hm b1 r1 ho hlt hi5
      go_wp2_with fail
      clear hcut hm1 hm2
      go_wp2_with (go_at_call 9; refine (by have := of_any (l.take m) _ c _ rT hlt40; rw [HLT.out] at this; exact this : Calls Try.prog 9 #[.slice A m c] w2 (Ofed w2 (l.take m))).mono ?_)
      rintro e w3 ⟨b3, ⟨h, rfl⟩ | ⟨s', g', cap', h, rfl, ho, _⟩⟩
      · rw [H1.out] at h; cases h
      · obtain rfl : s1 = s' := by rw [H1.out] at h; injection h
        have r3 := ho.rdk
        replace r2 := r2.on b3
        replace b3 := b2.trans (b3.mono b2.size)
        have eP := HP.out
        have eQ := HQ.out
        clear HP HQ h ho H1 HLT hlt40 rT b2 HM hlI hml ha1 ha2
        generalize s.n = n at *
        generalize s1.n = n1 at *
        subst eP eQ
        generalize s.places = P at *
        generalize s1.places = Q at *
        have hQ1 := hgr.len
        have HG := Lib.hid hgr
        clear hgr
        have qd : decide (P.length < Q.length) = false := by simpa using hQ1
        go_wp2_with fail
        go_loopg [10] P.length (fun gk ii wr => ∃ x : Nat, x + gk = P.length ∧ ii = .int .i64 x ∧ Below w3.heap.size w3 wr)
        case atStart => exact ⟨0, by omega, rfl, Below.refl _ _⟩
        case round =>
          obtain ⟨x, hx, rfl, hb⟩ := hrel
          obtain ⟨G0, rfl⟩ : ∃ G0 : Nat, G0 = gk := ⟨_, rfl⟩
          have HX := Lib.hid hx
          by_cases hlt : x < P.length
          · clear hx
            have hxI : (x : Int) < (P.length : Int) := by omega
            have rP := r2.on hb
            obtain ⟨_, _, eA, hbP, c0, c1⟩ := rP.pair hlt
            injection eA with eA; injection eA with e1 e2; subst e1 e2
            simp only [Nat.zero_add] at c0 c1
            obtain ⟨l0, l1⟩ := HG.out.lt x hlt
            have HX0 := Lib.hid (rfl : P[x].1 = P[x].1)
            have HX1 := Lib.hid (rfl : P[x].2 = P[x].2)
            have q1 : decide (P.length ≤ P[x].1) = false := by simp; omega
            have q2 : decide (P.length ≤ P[x].2) = false := by simp; omega
            go_wp2_with fail
            clear q1 q2 c0 c1 rP
            obtain ⟨wo, rfl⟩ : ∃ wo : World, wo = wr := ⟨_, rfl⟩
            go_loopg [11] P.length (fun gk ii wi => ∃ y : Nat, y + gk = P.length ∧ ii = .int .i64 y ∧ Below w3.heap.size w3 wi)
            case atStart => exact ⟨0, by omega, rfl, hb⟩
            case round =>
              clear hb hbP
              obtain ⟨y, hy, rfl, hb⟩ := hrel
              have HY := Lib.hid hy
              by_cases hlt2 : y < P.length
              · clear hy
                have hyI : (y : Int) < (P.length : Int) := by omega
                have rP := r2.on hb
                have rQ := r3.on hb
                obtain ⟨_, _, eA, hbP, c0, c1⟩ := rP.pair hlt
                injection eA with eA; injection eA with e1 e2; subst e1 e2
                obtain ⟨_, _, eA, _, d0, d1⟩ := rP.pair hlt2
                injection eA with eA; injection eA with e1 e2; subst e1 e2
                simp only [Nat.zero_add] at c0 c1 d0 d1
                have HS := HG.out.same x y
                have HI := HG.out.inj x y hlt hlt2
                have HSH := Lib.hid HS
                clear HS
                have hQ2 : Q.length ≤ 1000 := by omega
                by_cases hxy : x = y
                · subst hxy
                  clear HI d0 d1
                  generalize P[x].1 = x0 at *
                  generalize P[x].2 = x1 at *
                  go_wp2_with fail
                  go_region
                  all_goals
                    have hb2 := hb.drew
                    have rP2 := rP.drew
                    have rQ2 := rQ.drew
                    clear hb rP rQ c0 c1
                    generalize wr.drew = wd at *
                    replace rP2 := rP2.top
                    replace rQ2 := rQ2.top
                    by_cases hxQ : x < Q.length
                    · have hxQI : (x : Int) < (Q.length : Int) := by omega
                      obtain ⟨s1, s2⟩ := HSH.out hxQ hxQ
                      have S1 := Lib.hid s1
                      have S2 := Lib.hid s2
                      clear s1 s2
                      go_wp2_with (go_at_call 12; refine (ahead_any Q _ _ x x _ rQ2 hQ2).mono ?_)
                      rintro e w5 ⟨rfl, b5⟩
                      rw [S1.out]
                      replace rP2 := rP2.on b5
                      replace rQ2 := rQ2.on b5
                      replace hb2 := hb2.trans (b5.mono hb2.size)
                      go_wp2_with (go_at_call 12; refine (ahead_any P _ _ x x _ rP2 hP1).mono ?_)
                      rintro e w6 ⟨rfl, b6⟩
                      replace rP2 := rP2.on b6
                      replace rQ2 := rQ2.on b6
                      replace hb2 := hb2.trans (b6.mono hb2.size)
                      generalize S.ahead P x x = bb at *
                      have nb : (bb != bb) = false := by simp
                      go_wp2_with (go_at_call 13; refine (par_any Q _ _ x x _ rQ2 hQ2).mono ?_)
                      rintro e w7 ⟨rfl, b7⟩
                      rw [S2.out]
                      replace rP2 := rP2.on b7
                      replace hb2 := hb2.trans (b7.mono hb2.size)
                      go_wp2_with (go_at_call 13; refine (par_any P _ _ x x _ rP2 hP1).mono ?_)
                      rintro e w8 ⟨rfl, b8⟩
                      replace hb2 := hb2.trans (b8.mono hb2.size)
                      generalize S.par P x x = cc at *
                      have nb2 : (cc != cc) = false := by simp
                      go_wp2_with fail
                      go_roundg (gk - 1)
                      case measure => have := HY.out; omega
                      case rel => exact ⟨x + 1, by have := HY.out; omega, by go_num, hb2⟩
                    · have hxQI : (Q.length : Int) ≤ (x : Int) := by omega
                      have hxQd : decide (x < Q.length) = false := by simpa using hxQ
                      go_wp2_with fail
                      go_roundg (gk - 1)
                      case measure => have := HY.out; omega
                      case rel => exact ⟨x + 1, by have := HY.out; omega, by go_num, hb2⟩
                · obtain ⟨i0, i1⟩ := HI hxy
                  have q0 : ((x : Int) == (y : Int)) = false := by simp; omega
                  have q0' : ((x : Int) != (y : Int)) = true := by simp; omega
                  have HXY := Lib.hid hxy
                  clear hxy
                  have n1 : ((P[x].1 : Int) == (P[y].1 : Int)) = false := by simp; omega
                  have n2 : ((P[x].2 : Int) == (P[y].2 : Int)) = false := by simp; omega
                  clear i0 i1 HX0 HX1
                  generalize P[x].1 = x0 at *
                  generalize P[x].2 = x1 at *
                  generalize P[y].1 = y0 at *
                  generalize P[y].2 = y1 at *
                  go_wp2_with fail
                  go_region
                  all_goals
                    have hb2 := hb.drew
                    have rP2 := rP.drew
                    have rQ2 := rQ.drew
                    clear hb rP rQ c0 c1 d0 d1 n1 n2
                    generalize wr.drew = wd at *
                    replace rP2 := rP2.top
                    replace rQ2 := rQ2.top
                    by_cases hxQ : x < Q.length
                    · have hxQI : (x : Int) < (Q.length : Int) := by omega
                      by_cases hyQ : y < Q.length
                      · have hyQI : (y : Int) < (Q.length : Int) := by omega
                        obtain ⟨s1, s2⟩ := HSH.out hxQ hyQ
                        have S1 := Lib.hid s1
                        have S2 := Lib.hid s2
                        clear s1 s2
                        go_wp2_with (go_at_call 12; refine (ahead_any Q _ _ x y _ rQ2 hQ2).mono ?_)
                        rintro e w5 ⟨rfl, b5⟩
                        rw [S1.out]
                        replace rP2 := rP2.on b5
                        replace rQ2 := rQ2.on b5
                        replace hb2 := hb2.trans (b5.mono hb2.size)
                        go_wp2_with (go_at_call 12; refine (ahead_any P _ _ x y _ rP2 hP1).mono ?_)
                        rintro e w6 ⟨rfl, b6⟩
                        replace rP2 := rP2.on b6
                        replace rQ2 := rQ2.on b6
                        replace hb2 := hb2.trans (b6.mono hb2.size)
                        generalize S.ahead P x y = bb at *
                        have nb : (bb != bb) = false := by simp
                        go_wp2_with (go_at_call 13; refine (par_any Q _ _ x y _ rQ2 hQ2).mono ?_)
                        rintro e w7 ⟨rfl, b7⟩
                        rw [S2.out]
                        replace rP2 := rP2.on b7
                        replace hb2 := hb2.trans (b7.mono hb2.size)
                        go_wp2_with (go_at_call 13; refine (par_any P _ _ x y _ rP2 hP1).mono ?_)
                        rintro e w8 ⟨rfl, b8⟩
                        replace hb2 := hb2.trans (b8.mono hb2.size)
                        generalize S.par P x y = cc at *
                        have nb2 : (cc != cc) = false := by simp
                        go_wp2_with fail
                        go_roundg (gk - 1)
                        case measure => have := HY.out; omega
                        case rel => exact ⟨y + 1, by have := HY.out; omega, by go_num, hb2⟩
                      · have hyQI : (Q.length : Int) ≤ (y : Int) := by omega
                        have hyQd : decide (y < Q.length) = false := by simpa using hyQ
                        go_wp2_with fail
                        go_roundg (gk - 1)
                        case measure => have := HY.out; omega
                        case rel => exact ⟨y + 1, by have := HY.out; omega, by go_num, hb2⟩
                    · have hxQI : (Q.length : Int) ≤ (x : Int) := by omega
                      have hxQd : decide (x < Q.length) = false := by simpa using hxQ
                      go_wp2_with fail
                      go_roundg (gk - 1)
                      case measure => have := HY.out; omega
                      case rel => exact ⟨y + 1, by have := HY.out; omega, by go_num, hb2⟩
              · obtain rfl : gk = 0 := by omega
                clear hy
                go_wp2_with fail
                go_roundg (G0 - 1)
                case measure => have := HX.out; omega
                case rel => exact ⟨x + 1, by have := HX.out; omega, by go_num, hb⟩
          · obtain rfl : G0 = 0 := by omega
            clear hx
            go_wp2_with fail
            go_ret
            exact ⟨rfl, b3.trans (hb.mono b3.size)⟩
  · have hl' : 40 < (l.length : Int) := by omega
    go_enter Try.func5, Try.ntmps5
    go_wp2_with (go_at_call 8; refine (awake_any _).mono ?_)
    rintro e w1 ⟨rfl, b1⟩
    go_wp2_with fail
    go_ret
    exact ⟨rfl, b1⟩
end Go.Proofs.Ytfedddkjobmocaa
