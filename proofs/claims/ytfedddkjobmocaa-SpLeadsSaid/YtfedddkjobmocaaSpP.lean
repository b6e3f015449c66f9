/- SpLeads walked -/
import Derived.Test.YtfedddkjobmocaaSpN
namespace Go.Proofs.Ytfedddkjobmocaa
open Go.RowKit
set_option linter.unusedSimpArgs false
set_option linter.unusedVariables false
set_option maxRecDepth 100000

theorem Own.belowk {w w' : World} {e : TypeId} {size g n cap : Nat} {xs : List Value} (h : Own w e size g n cap xs) (hb : Below w.heap.size w w') : Own w' e size g n cap xs := h.fr (Fr.of_below hb (fun _ => False)) (fun h => h)

set_option maxHeartbeats 4000000 in
theorem leads_walk (l : List S.Five) (A : Option Addr) (c : Nat) (w : World) (hr : Rd w w.heap.size A (fcs l)) (hlen : l.length ≤ 9223372036854775807) :
    Calls Try.prog 3 #[.slice A l.length c] w (fun e w' => e = .returned (.bool true) ∧ Below w.heap.size w w') := by
  by_cases hl : l.length ≤ 40
  · have hlI : (l.length : Int) ≤ 40 := by omega
    go_enter Try.func3, Try.ntmps3
    go_wp2_with (go_at_call 8; refine (awake_any _).mono ?_)
    rintro e w1 ⟨rfl, b1⟩
    have r1 := hr.on b1
    clear hr
    go_wp2_with (go_at_call 9; refine (of_any l _ _ _ r1 hl).mono ?_)
    rintro e w2 ⟨b2, ⟨h, rfl⟩ | ⟨s, g, cap, h, rfl, ho, _⟩⟩
    · have H := Lib.hid h
      clear h
      replace b2 := b1.trans (b2.mono b1.size)
      go_wp2_with fail
      go_ret
      exact ⟨rfl, b2⟩
    · have hg := S.run_good S.init_good h
      have hn := S.run_n h
      have hn2 : s.n ≤ 121 := by have : S.init.n = 1 := rfl; omega
      have hn1 : 1 ≤ s.n := hn.2
      have hP : s.places.length ≤ 1000 := by rw [hg.places_length]; omega
      have HN := Lib.hid hg.places_length
      have HRG := Lib.hid (S.leads_rng h)
      have HLD : Hid (∀ a b : Nat, a < s.n → S.begunB l b = true → b < s.n → S.ahead s.places a b = (S.leads l s.n a).getD b false) := Lib.hid (fun a b ha hb hbn => S.leads_of h ha ((S.begun_iff l b).1 hb) hbn)
      have r2 := ho.rdk
      replace r1 := r1.on b2
      clear hg hn h ho hlI
      replace b2 := b1.trans (b2.mono b1.size)
      clear b1
      have e4 := HN.out
      clear HN
      generalize s.n = n at *
      subst e4
      generalize s.places = P at *
      go_wp2_with fail
      go_loopg [6] P.length (fun gk ii wr => ∃ a : Nat, a + gk = P.length ∧ ii = .int .i64 a ∧ Below w2.heap.size w2 wr)
      case atStart => exact ⟨0, by omega, rfl, Below.refl _ _⟩
      case round =>
        obtain ⟨a, ha, rfl, hb⟩ := hrel
        obtain ⟨G0, rfl⟩ : ∃ G0 : Nat, G0 = gk := ⟨_, rfl⟩
        have HA := Lib.hid ha
        by_cases hlt : a < P.length
        · clear ha
          have hltI : (a : Int) < (P.length : Int) := by omega
          have rA := r1.on hb
          have HLA := Lib.hid (fun b => HLD.out a b hlt)
          have HLN := Lib.hid (S.leads_length l P.length a)
          go_wp2_with (go_at_call 10; refine (leads_any l _ _ P.length a _ rA hl hP hlt HRG.out).mono ?_)
          rintro e w3 ⟨b3, gL, rfl, own3⟩
          replace rA := rA.on b3
          replace hb := hb.trans (b3.mono hb.size)
          clear b3
          generalize S.leads l P.length a = M at *
          have HO := Lib.hid (rfl : S.begunB l a = S.begunB l a)
          go_wp2_with (go_at_call 11; refine (begun_any l _ _ a _ rA hl).mono ?_)
          rintro e w4 ⟨rfl, hw⟩
          subst hw
          clear HO
          cases hone : S.begunB l a
          · have HONE := Lib.hid hone
            clear hone
            go_wp2_with fail
            go_loopg [9] 0 (fun gk ii wi => ∃ b : Nat, b = 0 ∧ gk = 0 ∧ ii = .int .i64 b ∧ wi = w4)
            case atStart => exact ⟨0, rfl, rfl, rfl, rfl⟩
            case round =>
              obtain ⟨b, rfl, rfl, rfl, rfl⟩ := hrel
              go_wp2_with fail
              go_roundg (G0 - 1)
              case measure => have := HA.out; omega
              case rel => exact ⟨a + 1, by have := HA.out; omega, by go_num, hb⟩
          · have HONE := Lib.hid hone
            clear hone
            go_wp2_with fail
            go_loopg [9] P.length (fun gk ii wi => ∃ b : Nat, b + gk = P.length ∧ ii = .int .i64 b ∧ Below w4.heap.size w4 wi)
            case atStart => exact ⟨0, by omega, rfl, Below.refl _ _⟩
            case round =>
              obtain ⟨b, hbk, rfl, hbb⟩ := hrel
              have HB := Lib.hid hbk
              by_cases hltb : b < P.length
              · clear hbk
                have hltbI : (b : Int) < (P.length : Int) := by omega
                have rB := rA.on hbb
                go_wp2_with (go_at_call 11; refine (begun_any l _ _ b _ rB hl).mono ?_)
                rintro e w5 ⟨rfl, hw⟩
                subst hw
                cases htwo : S.begunB l b
                · have HTWO := Lib.hid htwo
                  clear htwo
                  go_wp2_with fail
                  go_quiet ((fail))
                  go_wp2_with fail
                  go_roundg (gk - 1)
                  case measure => have := HB.out; omega
                  case rel => exact ⟨b + 1, by have := HB.out; omega, by go_num, below_drewN hbb _⟩
                · have HTWO := Lib.hid htwo
                  clear htwo
                  have hval := HLA.out b HTWO.out hltb
                  have HVAL := Lib.hid hval
                  clear hval
                  have own5 := own3.belowk hbb
                  have rP := (r2.on hb).on hbb
                  have cM := own5.cell b (by omega)
                  rw [bls_getD M b (by rw [HLN.out]; exact hltb)] at cM
                  have lM := own5.lt
                  have HK : Hid (∀ w', Below w5.heap.size w5 w' → w'.cell? ⟨gL, b, none⟩ = some (.bool (M.getD b false))) := fun w' hb => (hb.cell (p := ⟨gL, b, none⟩) lM).trans cM
                  go_wp2_with fail
                  go_region_held3 (fun w' => w'.cell? ⟨gL, b, none⟩ = some (.bool (M.getD b false)))
                    (first | exact HK.out _ ((Below.refl _ _).drew.trans b6) | go_keep)
                    (first | (go_at_call 12; refine (ahead_any P _ _ a b _ rP.drew hP).mono ?_; rintro e w6 ⟨rfl, b6⟩; rw [HVAL.out]))
                  generalize M.getD b false = bb at *
                  have nb : (bb != bb) = false := by simp
                  go_wp2_with fail
                  go_roundg (gk - 1)
                  case measure => have := HB.out; omega
                  case rel => exact ⟨b + 1, by have := HB.out; omega, by go_num, hbb.trans (((Below.refl _ _).drew.trans b6).mono hbb.size)⟩
              · obtain rfl : gk = 0 := by omega
                clear hbk
                go_wp2_with fail
                go_roundg (G0 - 1)
                case measure => have := HA.out; omega
                case rel => exact ⟨a + 1, by have := HA.out; omega, by go_num, hb.trans (hbb.mono hb.size)⟩
        · obtain rfl : G0 = 0 := by omega
          clear ha
          go_wp2_with fail
          go_ret
          exact ⟨rfl, b2.trans (hb.mono b2.size)⟩
  · have hl' : 40 < (l.length : Int) := by omega
    go_enter Try.func3, Try.ntmps3
    go_wp2_with (go_at_call 8; refine (awake_any _).mono ?_)
    rintro e w1 ⟨rfl, b1⟩
    go_wp2_with fail
    go_ret
    exact ⟨rfl, b1⟩
end Go.Proofs.Ytfedddkjobmocaa
