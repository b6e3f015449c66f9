/- walks: Picked; the document's Parse -/
import Derived.Test.YteindickckcdhaaTrF
import Derived.Test.YteindickckcdhaaStep
import Derived.StillTailTactics
import Derived.IntWalk
namespace Go.Proofs.Yteindickckcdhaa
open Go.RowKit
set_option linter.unusedSimpArgs false
set_option linter.unusedVariables false
set_option maxRecDepth 100000

theorem Rd.pk {w : World} {B : Nat} {A : Option Addr} {l : List T.Pk} (h : Rd w B A (pcs l)) {k : Nat} (hk : k < l.length) : ∃ b off, A = some ⟨b, off, none⟩ ∧ b < B ∧ w.cell? ⟨b, off + k * 3, none⟩ = some (.int .i64 l[k].1) ∧ w.cell? ⟨b, off + k * 3 + 1, none⟩ = some (.int .i64 l[k].2.1) ∧ w.cell? ⟨b, off + k * 3 + 2, none⟩ = some (.int .i64 l[k].2.2) := by
  obtain ⟨p0, p1, p2⟩ := pcs_at l k hk
  obtain ⟨b1, o1, rfl, hb1, c0⟩ := h.at_ p0
  obtain ⟨_, _, eA, _, c1⟩ := h.at_ p1
  injection eA with eA; injection eA with e1 e2; subst e1 e2
  obtain ⟨_, _, eA, _, c2⟩ := h.at_ p2
  injection eA with eA; injection eA with e1 e2; subst e1 e2
  rw [← Nat.add_assoc] at c1 c2
  exact ⟨b1, o1, rfl, hb1, c0, c1, c2⟩

theorem picked_eq (l : List T.Pk) (A B : Option Addr) (c d : Nat) (w : World) (hr : Rd w w.heap.size A (pcs l)) (hq : Rd w w.heap.size B (pcs l)) (hl : l.length ≤ 1000000) :
    Calls Try.prog 13 #[.slice A l.length c, .slice B l.length d] w (fun e w' => e = .returned (.bool true) ∧ Below w.heap.size w w') := by
  go_enter Try.func13, Try.ntmps13
  go_wp2
  go_loopg [5] l.length (fun gk ii wr => ∃ k : Nat, k + gk = l.length ∧ ii = .int .i64 k ∧ Below w.heap.size w wr)
  case atStart => exact ⟨0, by omega, rfl, Below.refl _ _⟩
  case round =>
    obtain ⟨k, hk, rfl, hb⟩ := hrel
    have HK := Lib.hid hk
    by_cases hlt : k < l.length
    · clear hk
      have hI : (k : Int) < (l.length : Int) := by omega
      have hr' := hr.below hb
      have hq' := hq.below hb
      obtain ⟨bA, oA, rfl, hbA, f0, f1, f2⟩ := hr'.pk hlt
      obtain ⟨bB, oB, rfl, hbB, g0, g1, g2⟩ := hq'.pk hlt
      clear hr' hq'
      generalize l[k] = x at *
      obtain ⟨x0, x1, x2⟩ := x
      simp only at f0 f1 f2 g0 g1 g2
      go_wp2
      go_region
      all_goals
        go_wp2
        go_roundg (gk - 1)
        case measure => have := HK.out; omega
        case rel => exact ⟨k + 1, by have := HK.out; omega, by go_num, hb.drew⟩
    · clear hk
      go_wp2
      go_ret
      exact ⟨rfl, hb⟩

set_option maxHeartbeats 4000000 in
theorem rparse_any (A : Option Addr) (c : Nat) (xs : List Nat) (w : World) (h : Rd w w.heap.size A (bs xs)) (hB : Byt xs) (hl : xs.length ≤ 1000000) (hc : xs.length ≤ c) (hc2 : c ≤ 9223372036854775807) :
    Calls Try.prog 17 #[.slice A xs.length c] w (Parsed w (T.parse xs)) := by
  cases h1 : W.opened xs with
  | none =>
    have HN : Hid (T.parse xs = none) := Lib.hid (by unfold T.parse; rw [h1])
    have H1 := Lib.hid h1
    clear h1
    go_enter Try.func17, Try.ntmps17
    go_wp2_with fail
    refine (ropen_no H1.out h hB hl hc hc2).mono ?_
    rintro e w' ⟨rfl, b1⟩
    go_wp2_with fail
    go_ret2
    exact parsed_none HN.out b1
  | some p =>
    obtain ⟨x, K⟩ := p
    have H1 := Lib.hid h1
    obtain ⟨hxl, hxm⟩ := opened_sub h1
    have hxB : Byt x := fun y hy => hB y (hxm y hy)
    clear hxm
    by_cases hK : K = xs.length
    · have HK := Lib.hid hK
      have q1 : ((K : Int) != (xs.length : Int)) = false := by simp; omega
      cases h2 : W.getNums x with
      | none =>
        have HN : Hid (T.parse xs = none) := Lib.hid (by unfold T.parse; rw [h1]; simp only [h2]; split <;> rfl)
        have H2 := Lib.hid h2
        clear h1 h2 hK
        go_enter Try.func17, Try.ntmps17
        go_wp2_with fail
        refine (ropen_yes2 H1.out h hB hl hc hc2).mono ?_
        rintro e w1 ⟨A1, c1, rfl, r1, b1, hc1, hc1'⟩
        go_wp2_with fail
        refine (rgetnums_any A1 c1 x _ r1 hxB (by omega) hc1 hc1').mono ?_
        rw [H2.out]
        rintro e w2 ⟨b2, rfl⟩
        go_wp2_with fail
        go_ret2
        exact parsed_none HN.out (b1.trans (b2.mono b1.size))
      | some q =>
        obtain ⟨ns, J⟩ := q
        have H2 := Lib.hid h2
        have hnl := getNums_sub hxB h2
        by_cases hJ : J = x.length
        · have HP : Hid (T.parse xs = T.evs ns) := Lib.hid (by unfold T.parse; rw [h1]; simp only [h2]; rw [if_pos hK, if_pos hJ])
          have q2 : ((J : Int) != (x.length : Int)) = false := by simp; omega
          by_cases h8 : ns.length % 8 = 0
          · have q3 : ((ns.length : Int) % 8 != 0) = false := by simp; omega
            have H8 := Lib.hid h8
            clear h1 h2 hK hJ h8
            obtain ⟨i0, hi, hz0, hz1, hz2⟩ := info_parts info_i
            obtain ⟨iE, hiE, hzE0, hzE1, hzE2⟩ := info_parts info_ev
            go_enter Try.func17, Try.ntmps17
            go_wp2_with fail
            refine (ropen_yes2 H1.out h hB hl hc hc2).mono ?_
            rintro e w1 ⟨A1, c1, rfl, r1, b1, hc1, hc1'⟩
            go_wp2_with fail
            refine (rgetnums_any A1 c1 x _ r1 hxB (by omega) hc1 hc1').mono ?_
            rw [H2.out]
            rintro e w2 ⟨b2, A2, c2, rfl, r2, hc3⟩
            have hb2 := b1.trans (b2.mono b1.size)
            clear b1 b2 r1 H1 H2
            go_wp2_with fail
            go_loopg [10, 11] ns.length (fun gk vv ii wr => ∃ (k p : Nat) (L : List T.Ev), k + gk = ns.length ∧ p = k * 8 ∧ p ≤ ns.length ∧ ii = .int .i64 (p : Int) ∧ wr.ownsRow w2.heap.size 48 8 vv k (ecs L) ∧ L.length = k ∧ Below w2.heap.size w2 wr ∧ Hid (T.evs ns = (T.evs (ns.drop p)).map (fun m => L ++ m)))
            case atStart => exact ⟨0, 0, [], by omega, by omega, by omega, rfl, World.ownsRow_nil _ _ _ _, rfl, Below.refl _ _, Lib.hid (by simp)⟩
            case round =>
              obtain ⟨k, p, L, hk, hp, hk8, rfl, ho, hL, hb, HE⟩ := hrel
              have HKK := Lib.hid hk
              have HPP := Lib.hid hp
              have HLL := Lib.hid hL
              have h8 := H8.out
              by_cases hlt : p < ns.length
              · obtain ⟨a0, a1, a2, a3, a4, a5, a6, a7, hdrop⟩ := eight h8 (k := k) (by omega)
                rw [← hp, show (k + 1) * 8 = p + 8 by omega] at hdrop
                have hlt7 : p + 7 < ns.length := by omega
                have hlt7I : (p : Int) + 7 < (ns.length : Int) := by omega
                have hix : ∀ j u, (ns.drop p)[j]? = some u → (is ns)[p + j]? = some (.int .i64 u) := by
                  intro j u hu
                  rw [List.getElem?_drop] at hu
                  unfold is
                  rw [List.getElem?_map, hu]; rfl
                rw [hdrop] at hix
                rcases r2 with hrw | ⟨bX, oX, rfl, hbX2, hcX⟩
                · have ee := congrArg List.length hrw; rw [is_length] at ee; simp only [List.length_nil] at ee; omega
                · have hbX : bX < wr.heap.size := Nat.lt_of_lt_of_le hbX2 hb.size
                  have y0 := (hb.cell (p := ⟨bX, oX + (p + 0), none⟩) hbX2).trans (hcX _ _ (hix 0 _ rfl))
                  have y1 := (hb.cell (p := ⟨bX, oX + (p + 1), none⟩) hbX2).trans (hcX _ _ (hix 1 _ rfl))
                  have y2 := (hb.cell (p := ⟨bX, oX + (p + 2), none⟩) hbX2).trans (hcX _ _ (hix 2 _ rfl))
                  have y3 := (hb.cell (p := ⟨bX, oX + (p + 3), none⟩) hbX2).trans (hcX _ _ (hix 3 _ rfl))
                  have y4 := (hb.cell (p := ⟨bX, oX + (p + 4), none⟩) hbX2).trans (hcX _ _ (hix 4 _ rfl))
                  have y5 := (hb.cell (p := ⟨bX, oX + (p + 5), none⟩) hbX2).trans (hcX _ _ (hix 5 _ rfl))
                  have y6 := (hb.cell (p := ⟨bX, oX + (p + 6), none⟩) hbX2).trans (hcX _ _ (hix 6 _ rfl))
                  have y7 := (hb.cell (p := ⟨bX, oX + (p + 7), none⟩) hbX2).trans (hcX _ _ (hix 7 _ rfl))
                  rw [Nat.add_zero] at y0
                  have HDR := Lib.hid hdrop
                  have hs := hb.size
                  have hs2 := hb2.size
                  have hk9 : k ≤ 1000000 := by omega
                  have hp9 : p ≤ 1000000 := by omega
                  have hltI : (p : Int) < (ns.length : Int) := by omega
                  clear hk hL h8 hdrop hcX hix hp
                  by_cases h0 : a7 = 0
                  · subst h0
                    go_wp2_with fail
                    go_region
                    have HU : Hid (∀ q, u10.ownBlock = some q → w2.heap.size ≤ q ∧ q < wr.heap.size) := Lib.hid (fun q hq => ho.lt q hq)
                    have bk5 : Blk (wr.alloc (.cells #[.int .i64 a2, .int .i64 a3, .int .i64 a4, .int .i64 a5] 44)).drew wr.heap.size 44 #[.int .i64 a2, .int .i64 a3, .int .i64 a4, .int .i64 a5] := Blk.new wr 44 #[.int .i64 a2, .int .i64 a3, .int .i64 a4, .int .i64 a5]
                    have ho5 := (ho.alloc (.cells #[.int .i64 a2, .int .i64 a3, .int .i64 a4, .int .i64 a5] 44)).drew
                    have hb5 := (hb.alloc hs (.cells #[.int .i64 a2, .int .i64 a3, .int .i64 a4, .int .i64 a5] 44)).drew
                    have d0 := (World.cell?_alloc_lt wr (.cells #[.int .i64 a2, .int .i64 a3, .int .i64 a4, .int .i64 a5] 44) ⟨bX, oX + p, none⟩ hbX).trans y0
                    have d1 := (World.cell?_alloc_lt wr (.cells #[.int .i64 a2, .int .i64 a3, .int .i64 a4, .int .i64 a5] 44) ⟨bX, oX + (p + 1), none⟩ hbX).trans y1
                    have d6 := (World.cell?_alloc_lt wr (.cells #[.int .i64 a2, .int .i64 a3, .int .i64 a4, .int .i64 a5] 44) ⟨bX, oX + (p + 6), none⟩ hbX).trans y6
                    have d7 := (World.cell?_alloc_lt wr (.cells #[.int .i64 a2, .int .i64 a3, .int .i64 a4, .int .i64 a5] 44) ⟨bX, oX + (p + 7), none⟩ hbX).trans y7
                    have hbX5 : bX < (wr.alloc (.cells #[.int .i64 a2, .int .i64 a3, .int .i64 a4, .int .i64 a5] 44)).drew.heap.size := by show bX < (wr.alloc _).heap.size; simp; omega
                    have d0' : (wr.alloc (.cells #[.int .i64 a2, .int .i64 a3, .int .i64 a4, .int .i64 a5] 44)).drew.cell? ⟨bX, oX + p, none⟩ = some (.int .i64 a0) := d0
                    have d1' : (wr.alloc (.cells #[.int .i64 a2, .int .i64 a3, .int .i64 a4, .int .i64 a5] 44)).drew.cell? ⟨bX, oX + (p + 1), none⟩ = some (.int .i64 a1) := d1
                    have d6' : (wr.alloc (.cells #[.int .i64 a2, .int .i64 a3, .int .i64 a4, .int .i64 a5] 44)).drew.cell? ⟨bX, oX + (p + 6), none⟩ = some (.int .i64 a6) := d6
                    have d7' : (wr.alloc (.cells #[.int .i64 a2, .int .i64 a3, .int .i64 a4, .int .i64 a5] 44)).drew.cell? ⟨bX, oX + (p + 7), none⟩ = some (.int .i64 0) := d7
                    clear ho hb y0 y1 y2 y3 y4 y5 y6 y7 d0 d1 d6 d7
                    generalize (wr.alloc (.cells #[.int .i64 a2, .int .i64 a3, .int .i64 a4, .int .i64 a5] 44)).drew = w5 at *
                    generalize wr.heap.size = g12 at *
                    have HKB : Hid (∀ w' : World, (∀ q, q < w5.heap.size → u10.ownBlock ≠ some q → w'.heap[q]? = w5.heap[q]?) → w'.cell? ⟨bX, oX + p, none⟩ = some (.int .i64 a0) ∧ w'.cell? ⟨bX, oX + (p + 1), none⟩ = some (.int .i64 a1) ∧ w'.cell? ⟨bX, oX + (p + 6), none⟩ = some (.int .i64 a6) ∧ w'.cell? ⟨bX, oX + (p + 7), none⟩ = some (.int .i64 0) ∧ w'.cell? ⟨g12, 0, none⟩ = some (.int .i64 a2) ∧ w'.cell? ⟨g12, 1, none⟩ = some (.int .i64 a3) ∧ w'.cell? ⟨g12, 2, none⟩ = some (.int .i64 a4) ∧ w'.cell? ⟨g12, 3, none⟩ = some (.int .i64 a5)) := by
                      intro w' hb
                      have hX : w'.heap[bX]? = w5.heap[bX]? := hb bX hbX5 (fun h => by have := (HU.out bX h).1; omega)
                      have hG : w'.heap[g12]? = w5.heap[g12]? := hb g12 bk5.lt (fun h => by have := (HU.out g12 h).2; omega)
                      have z2 : Blk w' g12 44 #[.int .i64 a2, .int .i64 a3, .int .i64 a4, .int .i64 a5] := hG.trans bk5
                      exact ⟨(World.cell?_of_block hX).trans d0', (World.cell?_of_block hX).trans d1', (World.cell?_of_block hX).trans d6', (World.cell?_of_block hX).trans d7', z2.cell 0, z2.cell 1, z2.cell 2, z2.cell 3⟩
                    have HK : Hid (∀ w' : World, Below w5.heap.size w5 w' → w'.cell? ⟨bX, oX + p, none⟩ = some (.int .i64 a0) ∧ w'.cell? ⟨bX, oX + (p + 1), none⟩ = some (.int .i64 a1) ∧ w'.cell? ⟨bX, oX + (p + 6), none⟩ = some (.int .i64 a6) ∧ w'.cell? ⟨bX, oX + (p + 7), none⟩ = some (.int .i64 0) ∧ w'.cell? ⟨g12, 0, none⟩ = some (.int .i64 a2) ∧ w'.cell? ⟨g12, 1, none⟩ = some (.int .i64 a3) ∧ w'.cell? ⟨g12, 2, none⟩ = some (.int .i64 a4) ∧ w'.cell? ⟨g12, 3, none⟩ = some (.int .i64 a5)) := fun w' hb => HKB.out w' (fun q hq _ => hb.block q hq)
                    have hs5 := hb5.size
                    have HS0 := HK.out w5 (Below.refl _ _)
                    have HE2 : Hid (T.evs ns = (T.evs (ns.drop (p + 8))).map (fun m => (L ++ [(a0, a1, a2, a3, a4, a5, a6, false)]) ++ m)) := Lib.hid (by
                      rw [HE.out, HDR.out, T.evs, if_pos (by omega), Option.map_map]
                      congr 1
                      funext m
                      simp)
                    have hbW : Below w5.heap.size w5 (w5.drew.alloc (.cells #[.int .i64 a0, .int .i64 a1, .int .i64 a2, .int .i64 a3, .int .i64 a4, .int .i64 a5, .int .i64 a6, .bool false] 48)) := (Below.refl _ _).drew.alloc (Nat.le_refl _) _
                    have hoW : (w5.drew.alloc (.cells #[.int .i64 a0, .int .i64 a1, .int .i64 a2, .int .i64 a3, .int .i64 a4, .int .i64 a5, .int .i64 a6, .bool false] 48)).ownsRow w2.heap.size 48 8 u10 k (ecs L) := (ho5.drew).alloc _
                    clear d0' d1' d6' d7'
                    have wr1 : IntKind.i64.wrap ((p : Int) + 1) = (p : Int) + 1 := IntWalk.i64_in _ (by omega)
                    have tn1 : ((p : Int) + 1).toNat = p + 1 := by omega
                    have nn1 : 0 ≤ (p : Int) + 1 := by omega
                    have li1 : (p : Int) + 1 < (ns.length : Int) := by omega
                    have wr6 : IntKind.i64.wrap ((p : Int) + 6) = (p : Int) + 6 := IntWalk.i64_in _ (by omega)
                    have tn6 : ((p : Int) + 6).toNat = p + 6 := by omega
                    have nn6 : 0 ≤ (p : Int) + 6 := by omega
                    have li6 : (p : Int) + 6 < (ns.length : Int) := by omega
                    have wr7 : IntKind.i64.wrap ((p : Int) + 7) = (p : Int) + 7 := IntWalk.i64_in _ (by omega)
                    have tn7 : ((p : Int) + 7).toNat = p + 7 := by omega
                    have nn7 : 0 ≤ (p : Int) + 7 := by omega
                    have li7 : (p : Int) + 7 < (ns.length : Int) := by omega
                    go_wp2_with fail
                    go_region_held3 (fun w' => w'.cell? ⟨bX, oX + p, none⟩ = some (.int .i64 a0) ∧ w'.cell? ⟨bX, oX + (p + 1), none⟩ = some (.int .i64 a1) ∧ w'.cell? ⟨bX, oX + (p + 6), none⟩ = some (.int .i64 a6) ∧ w'.cell? ⟨bX, oX + (p + 7), none⟩ = some (.int .i64 0) ∧ w'.cell? ⟨g12, 0, none⟩ = some (.int .i64 a2) ∧ w'.cell? ⟨g12, 1, none⟩ = some (.int .i64 a3) ∧ w'.cell? ⟨g12, 2, none⟩ = some (.int .i64 a4) ∧ w'.cell? ⟨g12, 3, none⟩ = some (.int .i64 a5))
                      (first | exact HS0 | exact HK.out _ (Below.refl _ _).drew | exact HK.out _ hbW | exact hS6 | go_keep)
                      (first
                        | (refine step_app _ (by rfl) (.tmp 89) (.tmp 113) 22 22 (by rfl) w2.heap.size 48 iE _ 8 64 Try.underlying22 hiE hzE0 hzE1 hzE2 rfl (by omega) u10 k (ecs L) (by rfl) hoW (.slice (some ⟨w5.heap.size, 0, none⟩) 1 1) 1 [.int .i64 a0, .int .i64 a1, .int .i64 a2, .int .i64 a3, .int .i64 a4, .int .i64 a5, .int .i64 a6, .bool false] (by rfl) (Src.ofSlice _ Try.underlying22 ⟨w5.heap.size, 0, none⟩ 1 1 [.int .i64 a0, .int .i64 a1, .int .i64 a2, .int .i64 a3, .int .i64 a4, .int .i64 a5, .int .i64 a6, .bool false] rfl (World.news_of_block (cs := #[.int .i64 a0, .int .i64 a1, .int .i64 a2, .int .i64 a3, .int .i64 a4, .int .i64 a5, .int .i64 a6, .bool false]) (heap_alloc_new w5.drew _)) (by simp [Value.oneCell'])) (by simp only [maxLen]; omega) (by omega) (Nat.le_trans hs5 hbW.size) ?_
                           intro v6 w6 ho6 hg6 _
                           have hS6 := HKB.out w6 (fun q hq hn => (hg6.block q (Nat.lt_of_lt_of_le hq hbW.size) (fun h => hn h.symm)).trans (hbW.block q hq))
                           have hb6 : Below w2.heap.size w2 w6 := (hb5.trans (hbW.mono hs5)).grown hg6 (Nat.le_trans hs5 hbW.size) (fun q hq => (HU.out q hq).1)))
                    clear wr1 wr6 wr7 tn1 tn6 tn7 nn1 nn6 nn7 li1 li6 li7
                    have e8 : ecs L ++ [.int .i64 a0, .int .i64 a1, .int .i64 a2, .int .i64 a3, .int .i64 a4, .int .i64 a5, .int .i64 a6, .bool false] = ecs (L ++ [(a0, a1, a2, a3, a4, a5, a6, false)]) := by rw [ecs_append]; rfl
                    rw [e8] at ho6
                    clear e8 HK HKB HS0 hS6 hg6 hbW hoW ho5 hb5 bk5
                    go_wp2_with fail
                    go_roundg (gk - 1)
                    case measure => have := HKK.out; have := HPP.out; omega
                    case rel =>
                      have z1 := HKK.out
                      have z2 := HPP.out
                      have z3 := HLL.out
                      have z4 := H8.out
                      exact ⟨k + 1, p + 8, _, by omega, by omega, by omega, by go_num, ho6, by simp [z3], hb6, HE2⟩
                  · by_cases h1 : a7 = 1
                    · subst h1
                      clear h0
                      go_wp2_with fail
                      go_region
                      have HU : Hid (∀ q, u10.ownBlock = some q → w2.heap.size ≤ q ∧ q < wr.heap.size) := Lib.hid (fun q hq => ho.lt q hq)
                      have bk5 : Blk (wr.alloc (.cells #[.int .i64 a2, .int .i64 a3, .int .i64 a4, .int .i64 a5] 44)).drew wr.heap.size 44 #[.int .i64 a2, .int .i64 a3, .int .i64 a4, .int .i64 a5] := Blk.new wr 44 #[.int .i64 a2, .int .i64 a3, .int .i64 a4, .int .i64 a5]
                      have ho5 := (ho.alloc (.cells #[.int .i64 a2, .int .i64 a3, .int .i64 a4, .int .i64 a5] 44)).drew
                      have hb5 := (hb.alloc hs (.cells #[.int .i64 a2, .int .i64 a3, .int .i64 a4, .int .i64 a5] 44)).drew
                      have d0 := (World.cell?_alloc_lt wr (.cells #[.int .i64 a2, .int .i64 a3, .int .i64 a4, .int .i64 a5] 44) ⟨bX, oX + p, none⟩ hbX).trans y0
                      have d1 := (World.cell?_alloc_lt wr (.cells #[.int .i64 a2, .int .i64 a3, .int .i64 a4, .int .i64 a5] 44) ⟨bX, oX + (p + 1), none⟩ hbX).trans y1
                      have d6 := (World.cell?_alloc_lt wr (.cells #[.int .i64 a2, .int .i64 a3, .int .i64 a4, .int .i64 a5] 44) ⟨bX, oX + (p + 6), none⟩ hbX).trans y6
                      have d7 := (World.cell?_alloc_lt wr (.cells #[.int .i64 a2, .int .i64 a3, .int .i64 a4, .int .i64 a5] 44) ⟨bX, oX + (p + 7), none⟩ hbX).trans y7
                      have hbX5 : bX < (wr.alloc (.cells #[.int .i64 a2, .int .i64 a3, .int .i64 a4, .int .i64 a5] 44)).drew.heap.size := by show bX < (wr.alloc _).heap.size; simp; omega
                      have d0' : (wr.alloc (.cells #[.int .i64 a2, .int .i64 a3, .int .i64 a4, .int .i64 a5] 44)).drew.cell? ⟨bX, oX + p, none⟩ = some (.int .i64 a0) := d0
                      have d1' : (wr.alloc (.cells #[.int .i64 a2, .int .i64 a3, .int .i64 a4, .int .i64 a5] 44)).drew.cell? ⟨bX, oX + (p + 1), none⟩ = some (.int .i64 a1) := d1
                      have d6' : (wr.alloc (.cells #[.int .i64 a2, .int .i64 a3, .int .i64 a4, .int .i64 a5] 44)).drew.cell? ⟨bX, oX + (p + 6), none⟩ = some (.int .i64 a6) := d6
                      have d7' : (wr.alloc (.cells #[.int .i64 a2, .int .i64 a3, .int .i64 a4, .int .i64 a5] 44)).drew.cell? ⟨bX, oX + (p + 7), none⟩ = some (.int .i64 1) := d7
                      clear ho hb y0 y1 y2 y3 y4 y5 y6 y7 d0 d1 d6 d7
                      generalize (wr.alloc (.cells #[.int .i64 a2, .int .i64 a3, .int .i64 a4, .int .i64 a5] 44)).drew = w5 at *
                      generalize wr.heap.size = g12 at *
                      have HKB : Hid (∀ w' : World, (∀ q, q < w5.heap.size → u10.ownBlock ≠ some q → w'.heap[q]? = w5.heap[q]?) → w'.cell? ⟨bX, oX + p, none⟩ = some (.int .i64 a0) ∧ w'.cell? ⟨bX, oX + (p + 1), none⟩ = some (.int .i64 a1) ∧ w'.cell? ⟨bX, oX + (p + 6), none⟩ = some (.int .i64 a6) ∧ w'.cell? ⟨bX, oX + (p + 7), none⟩ = some (.int .i64 1) ∧ w'.cell? ⟨g12, 0, none⟩ = some (.int .i64 a2) ∧ w'.cell? ⟨g12, 1, none⟩ = some (.int .i64 a3) ∧ w'.cell? ⟨g12, 2, none⟩ = some (.int .i64 a4) ∧ w'.cell? ⟨g12, 3, none⟩ = some (.int .i64 a5)) := by
                        intro w' hb
                        have hX : w'.heap[bX]? = w5.heap[bX]? := hb bX hbX5 (fun h => by have := (HU.out bX h).1; omega)
                        have hG : w'.heap[g12]? = w5.heap[g12]? := hb g12 bk5.lt (fun h => by have := (HU.out g12 h).2; omega)
                        have z2 : Blk w' g12 44 #[.int .i64 a2, .int .i64 a3, .int .i64 a4, .int .i64 a5] := hG.trans bk5
                        exact ⟨(World.cell?_of_block hX).trans d0', (World.cell?_of_block hX).trans d1', (World.cell?_of_block hX).trans d6', (World.cell?_of_block hX).trans d7', z2.cell 0, z2.cell 1, z2.cell 2, z2.cell 3⟩
                      have HK : Hid (∀ w' : World, Below w5.heap.size w5 w' → w'.cell? ⟨bX, oX + p, none⟩ = some (.int .i64 a0) ∧ w'.cell? ⟨bX, oX + (p + 1), none⟩ = some (.int .i64 a1) ∧ w'.cell? ⟨bX, oX + (p + 6), none⟩ = some (.int .i64 a6) ∧ w'.cell? ⟨bX, oX + (p + 7), none⟩ = some (.int .i64 1) ∧ w'.cell? ⟨g12, 0, none⟩ = some (.int .i64 a2) ∧ w'.cell? ⟨g12, 1, none⟩ = some (.int .i64 a3) ∧ w'.cell? ⟨g12, 2, none⟩ = some (.int .i64 a4) ∧ w'.cell? ⟨g12, 3, none⟩ = some (.int .i64 a5)) := fun w' hb => HKB.out w' (fun q hq _ => hb.block q hq)
                      have hs5 := hb5.size
                      have HS0 := HK.out w5 (Below.refl _ _)
                      have HE2 : Hid (T.evs ns = (T.evs (ns.drop (p + 8))).map (fun m => (L ++ [(a0, a1, a2, a3, a4, a5, a6, true)]) ++ m)) := Lib.hid (by
                        rw [HE.out, HDR.out, T.evs, if_pos (by omega), Option.map_map]
                        congr 1
                        funext m
                        simp)
                      have hbW : Below w5.heap.size w5 (w5.drew.alloc (.cells #[.int .i64 a0, .int .i64 a1, .int .i64 a2, .int .i64 a3, .int .i64 a4, .int .i64 a5, .int .i64 a6, .bool true] 48)) := (Below.refl _ _).drew.alloc (Nat.le_refl _) _
                      have hoW : (w5.drew.alloc (.cells #[.int .i64 a0, .int .i64 a1, .int .i64 a2, .int .i64 a3, .int .i64 a4, .int .i64 a5, .int .i64 a6, .bool true] 48)).ownsRow w2.heap.size 48 8 u10 k (ecs L) := (ho5.drew).alloc _
                      clear d0' d1' d6' d7'
                      have wr1 : IntKind.i64.wrap ((p : Int) + 1) = (p : Int) + 1 := IntWalk.i64_in _ (by omega)
                      have tn1 : ((p : Int) + 1).toNat = p + 1 := by omega
                      have nn1 : 0 ≤ (p : Int) + 1 := by omega
                      have li1 : (p : Int) + 1 < (ns.length : Int) := by omega
                      have wr6 : IntKind.i64.wrap ((p : Int) + 6) = (p : Int) + 6 := IntWalk.i64_in _ (by omega)
                      have tn6 : ((p : Int) + 6).toNat = p + 6 := by omega
                      have nn6 : 0 ≤ (p : Int) + 6 := by omega
                      have li6 : (p : Int) + 6 < (ns.length : Int) := by omega
                      have wr7 : IntKind.i64.wrap ((p : Int) + 7) = (p : Int) + 7 := IntWalk.i64_in _ (by omega)
                      have tn7 : ((p : Int) + 7).toNat = p + 7 := by omega
                      have nn7 : 0 ≤ (p : Int) + 7 := by omega
                      have li7 : (p : Int) + 7 < (ns.length : Int) := by omega
                      go_wp2_with fail
                      go_region_held3 (fun w' => w'.cell? ⟨bX, oX + p, none⟩ = some (.int .i64 a0) ∧ w'.cell? ⟨bX, oX + (p + 1), none⟩ = some (.int .i64 a1) ∧ w'.cell? ⟨bX, oX + (p + 6), none⟩ = some (.int .i64 a6) ∧ w'.cell? ⟨bX, oX + (p + 7), none⟩ = some (.int .i64 1) ∧ w'.cell? ⟨g12, 0, none⟩ = some (.int .i64 a2) ∧ w'.cell? ⟨g12, 1, none⟩ = some (.int .i64 a3) ∧ w'.cell? ⟨g12, 2, none⟩ = some (.int .i64 a4) ∧ w'.cell? ⟨g12, 3, none⟩ = some (.int .i64 a5))
                        (first | exact HS0 | exact HK.out _ (Below.refl _ _).drew | exact HK.out _ hbW | exact hS6 | go_keep)
                        (first
                          | (refine step_app _ (by rfl) (.tmp 89) (.tmp 113) 22 22 (by rfl) w2.heap.size 48 iE _ 8 64 Try.underlying22 hiE hzE0 hzE1 hzE2 rfl (by omega) u10 k (ecs L) (by rfl) hoW (.slice (some ⟨w5.heap.size, 0, none⟩) 1 1) 1 [.int .i64 a0, .int .i64 a1, .int .i64 a2, .int .i64 a3, .int .i64 a4, .int .i64 a5, .int .i64 a6, .bool true] (by rfl) (Src.ofSlice _ Try.underlying22 ⟨w5.heap.size, 0, none⟩ 1 1 [.int .i64 a0, .int .i64 a1, .int .i64 a2, .int .i64 a3, .int .i64 a4, .int .i64 a5, .int .i64 a6, .bool true] rfl (World.news_of_block (cs := #[.int .i64 a0, .int .i64 a1, .int .i64 a2, .int .i64 a3, .int .i64 a4, .int .i64 a5, .int .i64 a6, .bool true]) (heap_alloc_new w5.drew _)) (by simp [Value.oneCell'])) (by simp only [maxLen]; omega) (by omega) (Nat.le_trans hs5 hbW.size) ?_
                             intro v6 w6 ho6 hg6 _
                             have hS6 := HKB.out w6 (fun q hq hn => (hg6.block q (Nat.lt_of_lt_of_le hq hbW.size) (fun h => hn h.symm)).trans (hbW.block q hq))
                             have hb6 : Below w2.heap.size w2 w6 := (hb5.trans (hbW.mono hs5)).grown hg6 (Nat.le_trans hs5 hbW.size) (fun q hq => (HU.out q hq).1)))
                      clear wr1 wr6 wr7 tn1 tn6 tn7 nn1 nn6 nn7 li1 li6 li7
                      have e8 : ecs L ++ [.int .i64 a0, .int .i64 a1, .int .i64 a2, .int .i64 a3, .int .i64 a4, .int .i64 a5, .int .i64 a6, .bool true] = ecs (L ++ [(a0, a1, a2, a3, a4, a5, a6, true)]) := by rw [ecs_append]; rfl
                      rw [e8] at ho6
                      clear e8 HK HKB HS0 hS6 hg6 hbW hoW ho5 hb5 bk5
                      go_wp2_with fail
                      go_roundg (gk - 1)
                      case measure => have := HKK.out; have := HPP.out; omega
                      case rel =>
                        have z1 := HKK.out
                        have z2 := HPP.out
                        have z3 := HLL.out
                        have z4 := H8.out
                        exact ⟨k + 1, p + 8, _, by omega, by omega, by omega, by go_num, ho6, by simp [z3], hb6, HE2⟩
                    · have q0 : (a7 != 0) = true := by simpa using h0
                      have q1 : (a7 != 1) = true := by simpa using h1
                      have HN : Hid (T.parse xs = none) := Lib.hid (by rw [HP.out, HE.out, HDR.out, T.evs, if_neg (by omega)]; rfl)
                      clear h0 h1
                      go_wp2_with fail
                      go_ret2
                      exact parsed_none HN.out (hb2.trans (hb.mono hb2.size))
              · obtain rfl : p = ns.length := by omega
                obtain rfl : gk = ns.length - k := by omega
                have HR : Hid (T.parse xs = some L) := Lib.hid (by rw [HP.out, HE.out, List.drop_length]; simp [T.evs])
                have q9 : decide ((ns.length : Int) + 7 < (ns.length : Int)) = false := by simp; omega
                clear hk hp hL h8
                obtain ⟨AL, cL, hv, hcL, _⟩ := own_form8 ho
                subst hv
                go_wp2_with fail
                go_ret2
                exact parsed_some HR.out (hb2.trans (hb.mono hb2.size)) HLL.out.symm (rd_own8 ho) hcL
          · have HN : Hid (T.parse xs = none) := Lib.hid (by rw [HP.out, evs_mod h8])
            have q3 : ((ns.length : Int) % 8 != 0) = true := by simp; omega
            clear h1 h2 hK hJ HP h8
            go_enter Try.func17, Try.ntmps17
            go_wp2_with fail
            refine (ropen_yes2 H1.out h hB hl hc hc2).mono ?_
            rintro e w1 ⟨A1, c1, rfl, r1, b1, hc1, hc1'⟩
            go_wp2_with fail
            refine (rgetnums_any A1 c1 x _ r1 hxB (by omega) hc1 hc1').mono ?_
            rw [H2.out]
            rintro e w2 ⟨b2, A2, c2, rfl, r2, hc3⟩
            go_wp2_with fail
            go_ret2
            exact parsed_none HN.out (b1.trans (b2.mono b1.size))
        · have HN : Hid (T.parse xs = none) := Lib.hid (by unfold T.parse; rw [h1]; simp only [h2]; rw [if_pos hK, if_neg hJ])
          have q2 : ((J : Int) != (x.length : Int)) = true := by simp; omega
          clear h1 h2 hK hJ
          go_enter Try.func17, Try.ntmps17
          go_wp2_with fail
          refine (ropen_yes2 H1.out h hB hl hc hc2).mono ?_
          rintro e w1 ⟨A1, c1, rfl, r1, b1, hc1, hc1'⟩
          go_wp2_with fail
          refine (rgetnums_any A1 c1 x _ r1 hxB (by omega) hc1 hc1').mono ?_
          rw [H2.out]
          rintro e w2 ⟨b2, A2, c2, rfl, r2, hc3⟩
          go_wp2_with fail
          go_ret2
          exact parsed_none HN.out (b1.trans (b2.mono b1.size))
    · have HN : Hid (T.parse xs = none) := Lib.hid (by unfold T.parse; rw [h1]; simp only; rw [if_neg hK])
      have q1 : ((K : Int) != (xs.length : Int)) = true := by simp; omega
      clear h1 hK
      go_enter Try.func17, Try.ntmps17
      go_wp2_with fail
      refine (ropen_yes2 H1.out h hB hl hc hc2).mono ?_
      rintro e w1 ⟨A1, c1, rfl, r1, b1, hc1, hc1'⟩
      go_wp2_with fail
      go_ret2
      exact parsed_none HN.out b1
end Go.Proofs.Yteindickckcdhaa
