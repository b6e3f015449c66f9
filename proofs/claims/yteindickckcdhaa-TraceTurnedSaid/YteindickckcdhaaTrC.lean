/- walks: Parse -/
import Derived.Test.YteindickckcdhaaTrB
import Derived.Deep.RegionHeld3
import Derived.Laws.Cover3
namespace Go.Proofs.Yteindickckcdhaa
open Go.RowKit
set_option linter.unusedSimpArgs false
set_option linter.unusedVariables false
set_option maxRecDepth 100000

theorem info_ev : (Try.prog.info? 48).map (fun i => (i.zero, i.size, i.bytes)) = some (some (.agg #[.int .i64 0, .int .i64 0, .int .i64 0, .int .i64 0, .int .i64 0, .int .i64 0, .int .i64 0, .bool false]), 8, 64) := by kernel_rfl
theorem eq_rows (w : World) (a b c d e f g x y : Int) : (Op.equalIn 10000 61 (.agg #[.int .i64 a, .int .i64 b, .int .i64 c, .int .i64 d, .int .i64 e, .int .i64 f, .int .i64 g, .int .i64 x]) (.agg #[.int .i64 a, .int .i64 b, .int .i64 c, .int .i64 d, .int .i64 e, .int .i64 f, .int .i64 g, .int .i64 y])).run Try.prog w = .ok (decide (x = y)) w := by
  have hu : Try.prog.underlying 61 = some (.array 8 3) := by kernel_rfl
  have hb : Try.prog.underlying 3 = some (.int .i64) := by kernel_rfl
  obtain ⟨i, hi⟩ : ∃ i, Try.prog.info? 3 = some i := Option.isSome_iff_exists.1 (by kernel_rfl)
  rw [show (10000 : Nat) = 9999 + 1 from rfl, run_equalIn_array w 9999 _ _ hu hi]
  have hc : Try.prog.cellsOf 3 = 1 := by kernel_rfl
  rw [hc, show List.range 8 = [0, 1, 2, 3, 4, 5, 6, 7] from rfl]
  by_cases h1 : x = y <;> simp [Op.eqItems, go_sem, hb, hi, h1]

/-- what Parse tells -/
def Parsed (w : World) (r : Option (List T.Ev)) (e : Ending) (w' : World) : Prop :=
  Below w.heap.size w w' ∧ match r with
  | none => e = .returned (.tuple #[.slice none 0 0, .int .i64 3])
  | some l => ∃ A c, e = .returned (.tuple #[.slice A l.length c, .int .i64 0]) ∧ Rd w' w'.heap.size A (ecs l) ∧ l.length ≤ c
theorem parsed_none {w w' : World} {r : Option (List T.Ev)} (h : r = none) (hb : Below w.heap.size w w') : Parsed w r (.returned (.tuple #[.slice none 0 0, .int .i64 3])) w' := by
  subst h; exact ⟨hb, rfl⟩
theorem parsed_some {w w' : World} {r : Option (List T.Ev)} {l : List T.Ev} {A : Option Addr} {n c : Nat} (h : r = some l) (hb : Below w.heap.size w w') (hn : n = l.length) (hr : Rd w' w'.heap.size A (ecs l)) (hc : n ≤ c) : Parsed w r (.returned (.tuple #[.slice A n c, .int .i64 0])) w' := by
  subst h hn; exact ⟨hb, A, c, rfl, hr, hc⟩

theorem opened_sub {b x : List Nat} {K : Nat} (h : W.opened b = some (x, K)) : x.length ≤ b.length ∧ ∀ y ∈ x, y ∈ b := by
  unfold W.opened at h
  cases hl : W.len b with
  | none => rw [hl] at h; cases h
  | some p =>
    obtain ⟨n, k⟩ := p
    rw [hl] at h
    simp only at h
    cases hg : W.get (b.drop (k + n)) with
    | none => rw [hg] at h; cases h
    | some q =>
      obtain ⟨s, j⟩ := q
      rw [hg] at h
      simp only at h
      split at h
      · simp only [Option.some.injEq, Prod.mk.injEq] at h
        obtain ⟨rfl, rfl⟩ := h
        exact ⟨by simp; omega, fun y hy => List.mem_of_mem_drop (List.mem_of_mem_take hy)⟩
      · cases h
theorem getNums_sub {b : List Nat} {ns : List Int} {K : Nat} (hB : Byt b) (h : W.getNums b = some (ns, K)) : ns.length ≤ b.length := by
  unfold W.getNums at h
  cases hl : W.len b with
  | none => rw [hl] at h; cases h
  | some p =>
    obtain ⟨m, k⟩ := p
    rw [hl] at h
    simp only at h
    cases hm : W.many m (b.drop k) with
    | none => rw [hm] at h; cases h
    | some q =>
      obtain ⟨ms, j⟩ := q
      rw [hm] at h
      simp only [Option.some.injEq, Prod.mk.injEq] at h
      obtain ⟨rfl, rfl⟩ := h
      have hle := W.many_le (hB.drop k) hm
      have hml := W.many_length hm
      rw [List.length_drop] at hle
      omega
theorem evs_mod {ns : List Int} (h : ns.length % 8 ≠ 0) : T.evs ns = none := by
  cases he : T.evs ns with
  | none => rfl
  | some l =>
    have := T.nums_evs he
    have h2 := T.nums_length l
    rw [this] at h2
    omega
theorem eight {ns : List Int} (h : ns.length % 8 = 0) {k : Nat} (hk : k * 8 < ns.length) : ∃ a b c d e f g h : Int, ns.drop (k * 8) = a :: b :: c :: d :: e :: f :: g :: h :: ns.drop ((k + 1) * 8) := by
  have hl : 8 ≤ (ns.drop (k * 8)).length := by rw [List.length_drop]; omega
  have hd : ns.drop ((k + 1) * 8) = (ns.drop (k * 8)).drop 8 := by rw [List.drop_drop]; congr 1; omega
  rw [hd]
  match ns.drop (k * 8), hl with
  | a :: b :: c :: d :: e :: f :: g :: h :: r, _ => exact ⟨a, b, c, d, e, f, g, h, rfl⟩

theorem own_form8 {w : World} {base : Nat} {e : TypeId} {v : Value} {n size : Nat} {xs : List Value} (h : w.ownsRow base e size v n xs) : ∃ A c, v = .slice A n c ∧ n ≤ c ∧ c ≤ maxLen := by
  rcases h.2 with ⟨hv, hn⟩ | ⟨g, cap, cur, hv, _, _, h1, h2, _⟩
  · exact ⟨none, 0, by rw [hv, hn], by omega, by simp⟩
  · exact ⟨_, cap, hv, h1, h2⟩
theorem rd_own8 {w : World} {base : Nat} {e : TypeId} {A : Option Addr} {n c size : Nat} {xs : List Value} (h : w.ownsRow base e size (.slice A n c) n xs) : Rd w w.heap.size A xs := by
  rcases h.2 with ⟨hv, hn⟩ | ⟨g, cap, cur, hv, _, hg, _⟩
  · left
    have := h.1
    rw [hn, Nat.zero_mul] at this
    exact List.eq_nil_of_length_eq_zero this
  · injection hv with hA
    subst hA
    refine .inr ⟨g, 0, rfl, (Array.getElem?_eq_some_iff.1 hg).1, fun j u hu => ?_⟩
    have := h.cells (g := g) rfl j u hu
    rw [Addr.add_lit] at this
    exact this
set_option maxHeartbeats 4000000 in
attribute [local go_sem] eq_rows in
theorem parse_any (A : Option Addr) (c : Nat) (xs : List Nat) (w : World) (h : Rd w w.heap.size A (bs xs)) (hB : Byt xs) (hl : xs.length ≤ 1000000) (hc : xs.length ≤ c) (hc2 : c ≤ 9223372036854775807) :
    Calls Try.prog 10 #[.slice A xs.length c] w (Parsed w (T.parse xs)) := by
  cases h1 : W.opened xs with
  | none =>
    have HN : Hid (T.parse xs = none) := Lib.hid (by unfold T.parse; rw [h1])
    have H1 := Lib.hid h1
    clear h1
    go_enter Try.func10, Try.ntmps10
    go_wp2_with fail
    refine (open_no H1.out h hB (by omega) hc hc2).mono ?_
    rintro e w' ⟨rfl, rfl⟩
    go_wp2_with fail
    go_ret2
    exact parsed_none HN.out (Below.refl _ _)
  | some p =>
    obtain ⟨x, K⟩ := p
    have H1 := Lib.hid h1
    obtain ⟨hxl, hxm⟩ := opened_sub h1
    have hxB : Byt x := fun y hy => hB y (hxm y hy)
    clear hxm
    by_cases hK : K = xs.length
    · have HK := Lib.hid hK
      have q1 : ((K : Int) != (xs.length : Int)) = false := by simp; omega
      cases h2 : W.getNums x with
      | none =>
        have HN : Hid (T.parse xs = none) := Lib.hid (by unfold T.parse; rw [h1]; simp only [h2]; split <;> rfl)
        have H2 := Lib.hid h2
        clear h1 h2 hK
        go_enter Try.func10, Try.ntmps10
        go_wp2_with fail
        refine (open_yes2 H1.out h hB hl hc hc2).mono ?_
        rintro e w1 ⟨A1, c1, rfl, r1, b1, hc1, hc1'⟩
        go_wp2_with fail
        refine (getnums_any A1 c1 x _ r1 hxB (by omega) hc1 hc1').mono ?_
        rw [H2.out]
        rintro e w2 ⟨b2, rfl⟩
        go_wp2_with fail
        go_ret2
        exact parsed_none HN.out (b1.trans (b2.mono b1.size))
      | some q =>
        obtain ⟨ns, J⟩ := q
        have H2 := Lib.hid h2
        have hnl := getNums_sub hxB h2
        by_cases hJ : J = x.length
        · have HP : Hid (T.parse xs = T.evs ns) := Lib.hid (by unfold T.parse; rw [h1]; simp only [h2]; rw [if_pos hK, if_pos hJ])
          have q2 : ((J : Int) != (x.length : Int)) = false := by simp; omega
          by_cases h8 : ns.length % 8 = 0
          · have q3 : ((ns.length : Int) % 8 != 0) = false := by simp; omega
            have H8 := Lib.hid h8
            clear h1 h2 hK hJ h8
            obtain ⟨i0, hi, hz0, hz1, hz2⟩ := info_parts info_i
            obtain ⟨iE, hiE, hzE0, hzE1, hzE2⟩ := info_parts info_ev
            go_enter Try.func10, Try.ntmps10
            go_wp2_with fail
            refine (open_yes2 H1.out h hB hl hc hc2).mono ?_
            rintro e w1 ⟨A1, c1, rfl, r1, b1, hc1, hc1'⟩
            go_wp2_with fail
            refine (getnums_any A1 c1 x _ r1 hxB (by omega) hc1 hc1').mono ?_
            rw [H2.out]
            rintro e w2 ⟨b2, A2, c2, rfl, r2, hc3⟩
            have hb2 := b1.trans (b2.mono b1.size)
            clear b1 b2 r1 H1 H2
            go_wp2_with fail
            go_loopg [8, 9] ns.length (fun gk vv ii wr => ∃ (k p : Nat) (L : List T.Ev), k + gk = ns.length ∧ p = k * 8 ∧ p ≤ ns.length ∧ ii = .int .i64 (p : Int) ∧ wr.ownsRow w2.heap.size 48 8 vv k (ecs L) ∧ L.length = k ∧ Below w2.heap.size w2 wr ∧ Hid (T.evs ns = (T.evs (ns.drop p)).map (fun m => L ++ m)))
            case atStart => exact ⟨0, 0, [], by omega, by omega, by omega, rfl, World.ownsRow_nil _ _ _ _, rfl, Below.refl _ _, Lib.hid (by simp)⟩
            case round =>
              obtain ⟨k, p, L, hk, hp, hk8, rfl, ho, hL, hb, HE⟩ := hrel
              have HKK := Lib.hid hk
              have HPP := Lib.hid hp
              have HLL := Lib.hid hL
              have h8 := H8.out
              by_cases hlt : p < ns.length
              · obtain ⟨a0, a1, a2, a3, a4, a5, a6, a7, hdrop⟩ := eight h8 (k := k) (by omega)
                rw [← hp, show (k + 1) * 8 = p + 8 by omega] at hdrop
                have hrw := r2.on hb
                obtain ⟨X, hX, hRX⟩ := cut_lh (P := Try.prog) Try.underlying50 hi hz1 hrw ns.length c2 p 8 (p : Int) ((p : Int) + 8) rfl (by simp) (by simp) hc3 (by omega)
                rw [← is_drop, hdrop] at hRX
                have hRX' : Rd wr wr.heap.size X [.int .i64 a0, .int .i64 a1, .int .i64 a2, .int .i64 a3, .int .i64 a4, .int .i64 a5, .int .i64 a6, .int .i64 a7] := hRX
                clear hRX
                rcases hRX' with hRX | ⟨bX, oX, rfl, hbX, hcX⟩
                · cases hRX
                · have y0 := hcX 0 _ rfl
                  have y1 := hcX 1 _ rfl
                  have y2 := hcX 2 _ rfl
                  have y3 := hcX 3 _ rfl
                  have y4 := hcX 4 _ rfl
                  have y5 := hcX 5 _ rfl
                  have y6 := hcX 6 _ rfl
                  have y7 := hcX 7 _ rfl
                  rw [Nat.add_zero] at y0
                  have hat : ∀ w', (Instr.arrayAt 61 (.slice (some ⟨bX, oX, none⟩) 8 (c2 - p))).run Try.prog w' = .ok (.pointer (some ⟨bX, oX, none⟩)) w' := fun w' => run_arrayAt w' 61 3 8 _ 8 _ (by kernel_rfl) (by omega)
                  have HDR := Lib.hid hdrop
                  have hltI : (p : Int) < (ns.length : Int) := by omega
                  have hs := hb.size
                  have hs2 := hb2.size
                  have hk9 : k ≤ 1000000 := by omega
                  clear hk hL h8 hdrop hcX hrw hp
                  go_wp2_with (go_at_call 27; refine (event_any _ _ _ _ _ _ _ _ _).mono ?_)
                  rintro e w4 ⟨rfl, b4⟩
                  have hb4 : Below w2.heap.size w2 w4 := (hb.alloc hs _).trans (b4.mono (by simp; omega))
                  have ho4 := own_below (ho.alloc (.cells #[.int .i64 a0, .int .i64 a1, .int .i64 a2, .int .i64 a3, .int .i64 a4, .int .i64 a5, .int .i64 a6, .int .i64 a7] 61)) b4
                  have bk4 : Blk w4 wr.heap.size 61 #[.int .i64 a0, .int .i64 a1, .int .i64 a2, .int .i64 a3, .int .i64 a4, .int .i64 a5, .int .i64 a6, .int .i64 a7] := (Blk.new wr 61 _).below b4 (by simp)
                  have hlt4 : wr.heap.size < w4.heap.size := bk4.lt
                  clear b4 ho hb y0 y1 y2 y3 y4 y5 y6 y7 hX hat
                  go_wp2_with fail
                  have bk5 := Blk.new w4 48 #[.int .i64 a0, .int .i64 a1, .int .i64 a2, .int .i64 a3, .int .i64 a4, .int .i64 a5, .int .i64 a6, .bool (decide (a7 = 1))]
                  replace bk4 := bk4.alloc (.cells #[.int .i64 a0, .int .i64 a1, .int .i64 a2, .int .i64 a3, .int .i64 a4, .int .i64 a5, .int .i64 a6, .bool (decide (a7 = 1))] 48)
                  replace ho4 := ho4.alloc (.cells #[.int .i64 a0, .int .i64 a1, .int .i64 a2, .int .i64 a3, .int .i64 a4, .int .i64 a5, .int .i64 a6, .bool (decide (a7 = 1))] 48)
                  have hs4 := hb4.size
                  replace hb4 := hb4.alloc hs4 (.cells #[.int .i64 a0, .int .i64 a1, .int .i64 a2, .int .i64 a3, .int .i64 a4, .int .i64 a5, .int .i64 a6, .bool (decide (a7 = 1))] 48)
                  generalize w4.alloc (.cells #[.int .i64 a0, .int .i64 a1, .int .i64 a2, .int .i64 a3, .int .i64 a4, .int .i64 a5, .int .i64 a6, .bool (decide (a7 = 1))] 48) = w5 at *
                  generalize w4.heap.size = g11 at *
                  generalize wr.heap.size = g10 at *
                  have HBV := Lib.hid (rfl : decide (a7 = 1) = decide (a7 = 1))
                  generalize hbv : decide (a7 = 1) = bv at *
                  have HBV2 := Lib.hid hbv
                  clear hbv HBV
                  have HK : Hid (∀ w', Below w5.heap.size w5 w' → w'.cell? ⟨g10, 0, none⟩ = some (.int .i64 a0) ∧ w'.cell? ⟨g10, 1, none⟩ = some (.int .i64 a1) ∧ w'.cell? ⟨g10, 2, none⟩ = some (.int .i64 a2) ∧ w'.cell? ⟨g10, 3, none⟩ = some (.int .i64 a3) ∧ w'.cell? ⟨g10, 4, none⟩ = some (.int .i64 a4) ∧ w'.cell? ⟨g10, 5, none⟩ = some (.int .i64 a5) ∧ w'.cell? ⟨g10, 6, none⟩ = some (.int .i64 a6) ∧ w'.cell? ⟨g10, 7, none⟩ = some (.int .i64 a7) ∧ w'.cell? ⟨g11, 0, none⟩ = some (.int .i64 a0) ∧ w'.cell? ⟨g11, 1, none⟩ = some (.int .i64 a1) ∧ w'.cell? ⟨g11, 2, none⟩ = some (.int .i64 a2) ∧ w'.cell? ⟨g11, 3, none⟩ = some (.int .i64 a3) ∧ w'.cell? ⟨g11, 4, none⟩ = some (.int .i64 a4) ∧ w'.cell? ⟨g11, 5, none⟩ = some (.int .i64 a5) ∧ w'.cell? ⟨g11, 6, none⟩ = some (.int .i64 a6) ∧ w'.cell? ⟨g11, 7, none⟩ = some (.bool bv)) := by
                    intro w' hb
                    have z1 := bk4.below hb bk4.lt
                    have z2 := bk5.below hb bk5.lt
                    exact ⟨z1.cell 0, z1.cell 1, z1.cell 2, z1.cell 3, z1.cell 4, z1.cell 5, z1.cell 6, z1.cell 7, z2.cell 0, z2.cell 1, z2.cell 2, z2.cell 3, z2.cell 4, z2.cell 5, z2.cell 6, z2.cell 7⟩
                  have hS0 := HK.out w5 (Below.refl _ _)
                  have hqq : decide (T.oki bv = a7) = decide (a7 = 0 ∨ a7 = 1) := by
                    have := HBV2.out
                    subst this
                    unfold T.oki
                    by_cases h1 : a7 = 1
                    · simp [h1]
                    · have h2 : ¬ (1 : Int) = 0 := by decide
                      simp only [h1, decide_false, or_false]
                      rw [Bool.eq_iff_iff]; simp; exact eq_comm
                  have HQ := Lib.hid hqq
                  clear hqq
                  by_cases h01 : a7 = 0 ∨ a7 = 1
                  · have hq : decide (T.oki bv = a7) = true := by rw [HQ.out]; simpa using h01
                    have H01 := Lib.hid h01
                    clear h01
                    go_region_held3 (fun w' => w'.cell? ⟨g10, 0, none⟩ = some (.int .i64 a0) ∧ w'.cell? ⟨g10, 1, none⟩ = some (.int .i64 a1) ∧ w'.cell? ⟨g10, 2, none⟩ = some (.int .i64 a2) ∧ w'.cell? ⟨g10, 3, none⟩ = some (.int .i64 a3) ∧ w'.cell? ⟨g10, 4, none⟩ = some (.int .i64 a4) ∧ w'.cell? ⟨g10, 5, none⟩ = some (.int .i64 a5) ∧ w'.cell? ⟨g10, 6, none⟩ = some (.int .i64 a6) ∧ w'.cell? ⟨g10, 7, none⟩ = some (.int .i64 a7) ∧ w'.cell? ⟨g11, 0, none⟩ = some (.int .i64 a0) ∧ w'.cell? ⟨g11, 1, none⟩ = some (.int .i64 a1) ∧ w'.cell? ⟨g11, 2, none⟩ = some (.int .i64 a2) ∧ w'.cell? ⟨g11, 3, none⟩ = some (.int .i64 a3) ∧ w'.cell? ⟨g11, 4, none⟩ = some (.int .i64 a4) ∧ w'.cell? ⟨g11, 5, none⟩ = some (.int .i64 a5) ∧ w'.cell? ⟨g11, 6, none⟩ = some (.int .i64 a6) ∧ w'.cell? ⟨g11, 7, none⟩ = some (.bool bv))
                      (first | exact HK.out _ ((Below.refl _ _).drew.trans b6) | exact HK.out _ (Below.refl _ _) | exact HK.out _ (Below.refl _ _).drew | go_keep)
                      (first | (go_at_call 26; refine (numbers_any a0 a1 a2 a3 a4 a5 a6 bv _).mono ?_; rintro e w6 ⟨rfl, b6⟩))
                    have b6' := (Below.refl w5.heap.size w5).drew.trans b6
                    obtain ⟨_, _, _, _, _, _, _, _, e0, e1, e2, e3, e4, e5, e6, e7⟩ := HK.out w6 b6'
                    have ho6 := own_below ho4 b6'
                    replace hb4 := hb4.trans (b6'.mono hb4.size)
                    have hs6 := hb4.size
                    have HE2 : Hid (T.evs ns = (T.evs (ns.drop (p + 8))).map (fun m => (L ++ [(a0, a1, a2, a3, a4, a5, a6, bv)]) ++ m)) := Lib.hid (by
                      rw [HE.out, HDR.out, T.evs, if_pos H01.out, HBV2.out, Option.map_map]
                      congr 1
                      funext m
                      simp)
                    clear b6 b6' ho4 bk4 bk5 HK hS0 HE HQ hq
                    have g11lt := World.block_lt_of_cell? w6 _ e0
                    go_wp2_with (at_builtin; refine wpList_append_own_at _ rfl (.tmp 65) (.tmp 67) 22 rfl w2.heap.size 48 iE _ 8 64 Try.underlying22 hiE hzE0 hzE1 hzE2 rfl (by omega) _ _ _ rfl (ho6.alloc _) ⟨w6.heap.size, 0, none⟩ 1 1 [.int .i64 a0, .int .i64 a1, .int .i64 a2, .int .i64 a3, .int .i64 a4, .int .i64 a5, .int .i64 a6, .bool bv] rfl rfl ?c1 ?c2 ?c3 ?c4 ?c5 ?_)
                    case c2 => simp [Value.oneCell']
                    case c3 => simp only [maxLen]; omega
                    case c4 => omega
                    case c5 => first | omega | (simp; omega)
                    intro v7 w7 ho7 hg7 _ _
                    have hb7 : Below w2.heap.size w2 w7 := (hb4.alloc hs6 _).grown hg7 (by simp; omega) (fun q hq => (ho6.lt q hq).1)
                    have e8 : ecs L ++ [.int .i64 a0, .int .i64 a1, .int .i64 a2, .int .i64 a3, .int .i64 a4, .int .i64 a5, .int .i64 a6, .bool bv] = ecs (L ++ [(a0, a1, a2, a3, a4, a5, a6, bv)]) := by rw [ecs_append]; rfl
                    rw [e8] at ho7
                    clear ho6 hb4 hg7 e0 e1 e2 e3 e4 e5 e6 e7 e8
                    go_wp2_with fail
                    go_roundg (gk - 1)
                    case measure => have := HKK.out; have := HPP.out; omega
                    case rel =>
                      have z1 := HKK.out
                      have z2 := HPP.out
                      have z3 := HLL.out
                      have z4 := H8.out
                      exact ⟨k + 1, p + 8, _, by omega, by omega, by omega, by go_num, ho7, by simp [z3], hb7, HE2⟩
                  · have hq : decide (T.oki bv = a7) = false := by rw [HQ.out]; simpa using h01
                    have HN : Hid (T.parse xs = none) := Lib.hid (by rw [HP.out, HE.out, HDR.out, T.evs, if_neg h01]; rfl)
                    clear h01
                    go_region_held3 (fun w' => w'.cell? ⟨g10, 0, none⟩ = some (.int .i64 a0) ∧ w'.cell? ⟨g10, 1, none⟩ = some (.int .i64 a1) ∧ w'.cell? ⟨g10, 2, none⟩ = some (.int .i64 a2) ∧ w'.cell? ⟨g10, 3, none⟩ = some (.int .i64 a3) ∧ w'.cell? ⟨g10, 4, none⟩ = some (.int .i64 a4) ∧ w'.cell? ⟨g10, 5, none⟩ = some (.int .i64 a5) ∧ w'.cell? ⟨g10, 6, none⟩ = some (.int .i64 a6) ∧ w'.cell? ⟨g10, 7, none⟩ = some (.int .i64 a7) ∧ w'.cell? ⟨g11, 0, none⟩ = some (.int .i64 a0) ∧ w'.cell? ⟨g11, 1, none⟩ = some (.int .i64 a1) ∧ w'.cell? ⟨g11, 2, none⟩ = some (.int .i64 a2) ∧ w'.cell? ⟨g11, 3, none⟩ = some (.int .i64 a3) ∧ w'.cell? ⟨g11, 4, none⟩ = some (.int .i64 a4) ∧ w'.cell? ⟨g11, 5, none⟩ = some (.int .i64 a5) ∧ w'.cell? ⟨g11, 6, none⟩ = some (.int .i64 a6) ∧ w'.cell? ⟨g11, 7, none⟩ = some (.bool bv))
                      (first | exact HK.out _ ((Below.refl _ _).drew.trans b6) | exact HK.out _ (Below.refl _ _) | exact HK.out _ (Below.refl _ _).drew | go_keep)
                      (first | (go_at_call 26; refine (numbers_any a0 a1 a2 a3 a4 a5 a6 bv _).mono ?_; rintro e w6 ⟨rfl, b6⟩))
                    go_wp2_with fail
                    go_ret2
                    exact parsed_none HN.out (hb2.trans ((hb4.trans (((Below.refl _ _).drew.trans b6).mono hb4.size)).mono hb2.size))
              · obtain rfl : p = ns.length := by omega
                obtain rfl : gk = ns.length - k := by omega
                have HR : Hid (T.parse xs = some L) := Lib.hid (by rw [HP.out, HE.out, List.drop_length]; simp [T.evs])
                clear hk hp hL h8
                obtain ⟨AL, cL, hv, hcL, _⟩ := own_form8 ho
                subst hv
                go_wp2_with fail
                go_ret2
                exact parsed_some HR.out (hb2.trans (hb.mono hb2.size)) HLL.out.symm (rd_own8 ho) hcL
          · have HN : Hid (T.parse xs = none) := Lib.hid (by rw [HP.out, evs_mod h8])
            have q3 : ((ns.length : Int) % 8 != 0) = true := by simp; omega
            clear h1 h2 hK hJ HP h8
            go_enter Try.func10, Try.ntmps10
            go_wp2_with fail
            refine (open_yes2 H1.out h hB hl hc hc2).mono ?_
            rintro e w1 ⟨A1, c1, rfl, r1, b1, hc1, hc1'⟩
            go_wp2_with fail
            refine (getnums_any A1 c1 x _ r1 hxB (by omega) hc1 hc1').mono ?_
            rw [H2.out]
            rintro e w2 ⟨b2, A2, c2, rfl, r2, hc3⟩
            go_wp2_with fail
            go_ret2
            exact parsed_none HN.out (b1.trans (b2.mono b1.size))
        · have HN : Hid (T.parse xs = none) := Lib.hid (by unfold T.parse; rw [h1]; simp only [h2]; rw [if_pos hK, if_neg hJ])
          have q2 : ((J : Int) != (x.length : Int)) = true := by simp; omega
          clear h1 h2 hK hJ
          go_enter Try.func10, Try.ntmps10
          go_wp2_with fail
          refine (open_yes2 H1.out h hB hl hc hc2).mono ?_
          rintro e w1 ⟨A1, c1, rfl, r1, b1, hc1, hc1'⟩
          go_wp2_with fail
          refine (getnums_any A1 c1 x _ r1 hxB (by omega) hc1 hc1').mono ?_
          rw [H2.out]
          rintro e w2 ⟨b2, A2, c2, rfl, r2, hc3⟩
          go_wp2_with fail
          go_ret2
          exact parsed_none HN.out (b1.trans (b2.mono b1.size))
    · have HN : Hid (T.parse xs = none) := Lib.hid (by unfold T.parse; rw [h1]; simp only; rw [if_neg hK])
      have q1 : ((K : Int) != (xs.length : Int)) = true := by simp; omega
      clear h1 hK
      go_enter Try.func10, Try.ntmps10
      go_wp2_with fail
      refine (open_yes2 H1.out h hB hl hc hc2).mono ?_
      rintro e w1 ⟨A1, c1, rfl, r1, b1, hc1, hc1'⟩
      go_wp2_with fail
      go_ret2
      exact parsed_none HN.out b1
end Go.Proofs.Yteindickckcdhaa
