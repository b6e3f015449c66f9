/- walk: BoundChain -/
import Derived.Test.YtahhihhfjimppaaBdM
namespace Go.Proofs.Ytahhihhfjimppaa
open Go.RowKit
set_option linter.unusedSimpArgs false
set_option linter.unusedVariables false
set_option maxRecDepth 100000

theorem is_of_strs {E : El} {w : World} {us : List Nat} {l : List S.Five} (hU : Strs w w.heap.size E.A6 us) (hS : Rd w w.heap.size E.A7 (fcs l)) (h6 : E.n6 = us.length) (h7 : E.n7 = l.length) : E.Is w us l := ⟨hU, hS, h6, h7⟩

/-- a chain of others, so far -/
def B.OthOk (le : Nat → Nat → Bool) (us o : List Nat) : Prop := ∀ y, o.getLast? = some y → y < us.length ∧ o.length ≤ B.rk le us y + 1
theorem B.oth_nil {le : Nat → Nat → Bool} {us : List Nat} : B.OthOk le us [] := fun y h => by simp at h
theorem B.oth_one {le : Nat → Nat → Bool} {us : List Nat} {x : Nat} (hx : x < us.length) : B.OthOk le us ([] ++ [x]) := fun y h => by
  simp at h; subst h; exact ⟨hx, by simp⟩
theorem B.oth_more {le : Nat → Nat → Bool} (hrefl : ∀ x, le x x = true) {us o : List Nat} (h : B.OthOk le us o) {x y : Nat} (hy : o.getLast? = some y) (hx : x < us.length) (hyx : y < x) (hle : le (B.su us y) (B.su us x) = true) : B.OthOk le us (o ++ [x]) := fun z hz => by
  simp at hz
  subst hz
  have h1 := h y hy
  have h2 := B.rk_up hrefl hyx hx hle
  refine ⟨hx, ?_⟩
  rw [List.length_append]; simp; omega
theorem B.oth_le {le : Nat → Nat → Bool} (hrefl : ∀ x, le x x = true) {us o C : List Nat} (h : B.OthOk le us o) (hc : B.IsChain le us C) : o.length ≤ C.length := by
  cases hy : o.getLast? with
  | none => rw [List.getLast?_eq_none_iff] at hy; subst hy; simp
  | some y =>
    have h1 := h y hy
    have h2 := B.rk_lt hrefl hc h1.1
    omega

set_option maxHeartbeats 4000000 in
theorem bchain_any (E : El) (zs : List Int) (l : List S.Five) (xs : List Nat) (AX : Option Addr) (cX : Nat) (w : World) (hU : StrsI w w.heap.size E.A6 zs) (hS : Rd w w.heap.size E.A7 (fcs l)) (hnu : E.n6 = zs.length) (hnl : E.n7 = l.length) (hX : Rd w w.heap.size AX (bs xs)) (hX9 : ∀ x ∈ xs, x < 256) :
    Calls Try.prog 3 #[E.val, .slice AX xs.length cX] w (Ret (.bool true) w) := by
  obtain ⟨i0, hi, hz0, hz1, hz2⟩ := info_parts info_int
  have hnm := named_any E zs l
  obtain ⟨e0, e1, A2, n2, p2, A3, n3, p3, A4, n4, p4, A5, n5, p5, A6, n6, p6, A7, n7, p7, e8, e9, A10, n10, p10⟩ := E
  simp only at hU hS hnu hnl hnm
  subst hnu hnl
  simp only [El.val, El.cs] at hnm ⊢
  go_enter Try.func3, Try.ntmps3
  go_upto_region 1 with (fail)
  have bk1 := Blk.new w 29 #[.int .i64 e0, .int .i64 e1, .slice A2 n2 p2, .slice A3 n3 p3, .slice A4 n4 p4, .slice A5 n5 p5, .slice A6 zs.length p6, .slice A7 l.length p7, .int .i64 e8, .int .i64 e9, .slice A10 n10 p10]
  have b1 := bel_new w (.cells #[.int .i64 e0, .int .i64 e1, .slice A2 n2 p2, .slice A3 n3 p3, .slice A4 n4 p4, .slice A5 n5 p5, .slice A6 zs.length p6, .slice A7 l.length p7, .int .i64 e8, .int .i64 e9, .slice A10 n10 p10] 29)
  generalize w.alloc (.cells #[.int .i64 e0, .int .i64 e1, .slice A2 n2 p2, .slice A3 n3 p3, .slice A4 n4 p4, .slice A5 n5 p5, .slice A6 zs.length p6, .slice A7 l.length p7, .int .i64 e8, .int .i64 e9, .slice A10 n10 p10] 29) = w1 at *
  generalize hgE : w.heap.size = gE at *
  have HGE := Lib.hid hgE
  clear hgE
  go_wp2_with (go_at_call 6; refine (shown_any _).mono ?_)
  rintro e2 w2 ⟨rfl, b2⟩
  have bk2 := bk1.below b2 bk1.lt
  have b12 := b1.trans (b2.mono (by have := HGE.out; have := b1.size; omega))
  have hU2 : StrsI w2 w2.heap.size A6 zs := by have h := HGE.out; subst h; exact hU.on b12
  have hS2 : Rd w2 w2.heap.size A7 (fcs l) := by have h := HGE.out; subst h; exact hS.on b12
  have hX2 : Rd w2 w2.heap.size AX (bs xs) := by have h := HGE.out; subst h; exact hX.on b12
  clear bk1 b1 b2 hU hS hX
  have gl2 := bk2.lt
  have HKB : Hid (∀ w', Below w2.heap.size w2 w' → w'.cell? ⟨gE, 0, none⟩ = some (.int .i64 e0) ∧ w'.cell? ⟨gE, 1, none⟩ = some (.int .i64 e1) ∧ w'.cell? ⟨gE, 2, none⟩ = some (.slice A2 n2 p2) ∧ w'.cell? ⟨gE, 3, none⟩ = some (.slice A3 n3 p3) ∧ w'.cell? ⟨gE, 4, none⟩ = some (.slice A4 n4 p4) ∧ w'.cell? ⟨gE, 5, none⟩ = some (.slice A5 n5 p5) ∧ w'.cell? ⟨gE, 6, none⟩ = some (.slice A6 zs.length p6) ∧ w'.cell? ⟨gE, 7, none⟩ = some (.slice A7 l.length p7) ∧ w'.cell? ⟨gE, 8, none⟩ = some (.int .i64 e8) ∧ w'.cell? ⟨gE, 9, none⟩ = some (.int .i64 e9) ∧ w'.cell? ⟨gE, 10, none⟩ = some (.slice A10 n10 p10)) := Lib.hid (fun w' hb => by
    have z1 := bk2.below hb gl2
    exact ⟨z1.cell 0, z1.cell 1, z1.cell 2, z1.cell 3, z1.cell 4, z1.cell 5, z1.cell 6, z1.cell 7, z1.cell 8, z1.cell 9, z1.cell 10⟩)
  have HRET : Hid (∀ w', Below w2.heap.size w2 w' → Ret (.bool true) w (.returned (.bool true)) w') := Lib.hid (fun w' hb => ⟨rfl, by have h := HGE.out; subst h; exact b12.trans (hb.mono b12.size)⟩)
  clear bk2
  obtain ⟨d0, d1, d2, d3, d4, d5, d6, d7, d8, d9, d10⟩ := HKB.out _ (Below.refl _ _)
  by_cases g1 : 60 < zs.length
  · have q1 : decide ((zs.length : Int) > 60) = true := by simp; omega
    go_wp2_with fail
    go_ret
    exact HRET.out _ (Below.refl _ _)
  · have q1 : decide ((zs.length : Int) > 60) = false := by simp; omega
    by_cases g2 : 60 < l.length
    · have q2 : decide ((l.length : Int) > 60) = true := by simp; omega
      go_wp2_with fail
      go_ret
      exact HRET.out _ (Below.refl _ _)
    · have q2 : decide ((l.length : Int) > 60) = false := by simp; omega
      by_cases g3 : 60 < xs.length
      · have q3 : decide ((xs.length : Int) > 60) = true := by simp; omega
        go_wp2_with fail
        go_ret
        exact HRET.out _ (Below.refl _ _)
      · have q3 : decide ((xs.length : Int) > 60) = false := by simp; omega
        go_wp2_with (go_at_call 7; refine (hnm _ hU2 hS2 trivial trivial (by omega) (by omega)).mono ?_)
        rintro e3 w3 ⟨b3, nn, bb, rfl, hbb⟩
        cases bb
        · go_wp2_with fail
          go_ret
          exact HRET.out _ b3
        · obtain ⟨s, hrun, hsn, hz⟩ := hbb rfl
          obtain ⟨us, hul, hun, hU3, hmap⟩ := (hU2.on b3).nat hz
          clear hmap
          have hS3 := hS2.on b3
          have hX3 := hX2.on b3
          have hPl := (S.run_good S.init_good hrun).places_length
          have hn9 := run_small hrun (by omega : l.length ≤ 60)
          clear hnm hU2 hz hbb
          generalize zs.length = zl at *
          subst hul
          obtain rfl := hsn
          have HKC : Hid (∀ w', Below w3.heap.size w3 w' → w'.cell? ⟨gE, 0, none⟩ = some (.int .i64 e0) ∧ w'.cell? ⟨gE, 1, none⟩ = some (.int .i64 e1) ∧ w'.cell? ⟨gE, 2, none⟩ = some (.slice A2 n2 p2) ∧ w'.cell? ⟨gE, 3, none⟩ = some (.slice A3 n3 p3) ∧ w'.cell? ⟨gE, 4, none⟩ = some (.slice A4 n4 p4) ∧ w'.cell? ⟨gE, 5, none⟩ = some (.slice A5 n5 p5) ∧ w'.cell? ⟨gE, 6, none⟩ = some (.slice A6 us.length p6) ∧ w'.cell? ⟨gE, 7, none⟩ = some (.slice A7 l.length p7) ∧ w'.cell? ⟨gE, 8, none⟩ = some (.int .i64 e8) ∧ w'.cell? ⟨gE, 9, none⟩ = some (.int .i64 e9) ∧ w'.cell? ⟨gE, 10, none⟩ = some (.slice A10 n10 p10)) := Lib.hid (fun w' hb => HKB.out w' (b3.trans (hb.mono b3.size)))
          have HRET3 : Hid (∀ w', Below w3.heap.size w3 w' → Ret (.bool true) w (.returned (.bool true)) w') := Lib.hid (fun w' hb => HRET.out w' (b3.trans (hb.mono b3.size)))
          have hIs := is_of_strs (E := (⟨e0, e1, A2, n2, p2, A3, n3, p3, A4, n4, p4, A5, n5, p5, A6, us.length, p6, A7, l.length, p7, e8, e9, A10, n10, p10⟩ : El)) hU3 hS3 rfl rfl
          have hch : ∀ w', (⟨e0, e1, A2, n2, p2, A3, n3, p3, A4, n4, p4, A5, n5, p5, A6, us.length, p6, A7, l.length, p7, e8, e9, A10, n10, p10⟩ : El).Is w' us l → Calls Try.prog 9 #[.agg #[.int .i64 e0, .int .i64 e1, .slice A2 n2 p2, .slice A3 n3 p3, .slice A4 n4 p4, .slice A5 n5 p5, .slice A6 us.length p6, .slice A7 l.length p7, .int .i64 e8, .int .i64 e9, .slice A10 n10 p10]] w' (MadeN w' (B.chain (S.lds s.places) us)) := fun w' h => chain_any (⟨e0, e1, A2, n2, p2, A3, n3, p3, A4, n4, p4, A5, n5, p5, A6, us.length, p6, A7, l.length, p7, e8, e9, A10, n10, p10⟩ : El) us l s w' h (by omega) (by omega) hrun hun
          have hra : ∀ (AP : Option Addr) (cP a b : Nat) (w' : World), (⟨e0, e1, A2, n2, p2, A3, n3, p3, A4, n4, p4, A5, n5, p5, A6, us.length, p6, A7, l.length, p7, e8, e9, A10, n10, p10⟩ : El).Is w' us l → Rd w' w'.heap.size AP (tcs s.places) → a < us.length → b < us.length → Calls Try.prog 10 #[.agg #[.int .i64 e0, .int .i64 e1, .slice A2 n2 p2, .slice A3 n3 p3, .slice A4 n4 p4, .slice A5 n5 p5, .slice A6 us.length p6, .slice A7 l.length p7, .int .i64 e8, .int .i64 e9, .slice A10 n10 p10], .slice AP s.places.length cP, .int .i64 a, .int .i64 b] w' (Ret (.bool (S.rah us s.places a b)) w') :=
            fun AP cP a b w' h1 h2 h3 h4 => rah_any (⟨e0, e1, A2, n2, p2, A3, n3, p3, A4, n4, p4, A5, n5, p5, A6, us.length, p6, A7, l.length, p7, e8, e9, A10, n10, p10⟩ : El) us l s.places AP cP a b w' h1 h2 (by omega) (fun u hu => by rw [hPl]; exact hun u hu) (by omega) h3 h4
          have hwk : ∀ w', Calls Try.prog 11 #[.agg #[.int .i64 e0, .int .i64 e1, .slice A2 n2 p2, .slice A3 n3 p3, .slice A4 n4 p4, .slice A5 n5 p5, .slice A6 us.length p6, .slice A7 l.length p7, .int .i64 e8, .int .i64 e9, .slice A10 n10 p10]] w' (Ret (.int .i64 (us.length : Int)) w') := fun w' => work_any (⟨e0, e1, A2, n2, p2, A3, n3, p3, A4, n4, p4, A5, n5, p5, A6, us.length, p6, A7, l.length, p7, e8, e9, A10, n10, p10⟩ : El) w' (show us.length ≤ 1000 by omega)
          have HIC := Lib.hid (B.chain_is (S.lds s.places) (lds_refl _) us)
          clear hS2 hX2 HKB HRET d0 d1 d2 d3 d4 d5 d6 d7 d8 d9 d10 q1 q2 q3
          obtain ⟨d0, d1, d2, d3, d4, d5, d6, d7, d8, d9, d10⟩ := HKC.out _ (Below.refl _ _)
          go_wp2_with (go_at_call 8; refine (rof_any l A7 p7 _ hS3 (by omega)).mono ?_)
          rintro e4 w4 ⟨b4, ⟨hno, _⟩ | ⟨s', AP, cap, hrun', rfl, hP⟩⟩
          · rw [hrun] at hno; cases hno
          · obtain rfl : s' = s := by rw [hrun] at hrun'; injection hrun' with h; exact h.symm
            have hIs4 := hIs.on b4
            have hX4 := hX3.on b4
            clear hrun hrun' hIs hX3 hS3 hU3 d0 d1 d2 d3 d4 d5 d6 d7 d8 d9 d10
            generalize s'.places = P at *
            generalize s'.n = nn at *
            subst hPl
            obtain ⟨d0, d1, d2, d3, d4, d5, d6, d7, d8, d9, d10⟩ := HKC.out _ b4
            go_wp2_with (go_at_call 9; refine (hch _ hIs4).mono ?_)
            rintro e5 w5 ⟨AC, cC, rfl, hC, b5⟩
            have b35 := b4.trans (b5.mono b4.size)
            have hP5 := hP.on b5
            have hIs5 := hIs4.on b5
            have hX5 := hX4.on b5
            have HRET5 : Hid (∀ w', Below w5.heap.size w5 w' → Ret (.bool true) w (.returned (.bool true)) w') := Lib.hid (fun w' hb => HRET3.out w' (b35.trans (hb.mono b35.size)))
            have HK5 : Hid (∀ w', Below w5.heap.size w5 w' → (w'.cell? ⟨gE, 0, none⟩ = some (.int .i64 e0) ∧ w'.cell? ⟨gE, 1, none⟩ = some (.int .i64 e1) ∧ w'.cell? ⟨gE, 2, none⟩ = some (.slice A2 n2 p2) ∧ w'.cell? ⟨gE, 3, none⟩ = some (.slice A3 n3 p3) ∧ w'.cell? ⟨gE, 4, none⟩ = some (.slice A4 n4 p4) ∧ w'.cell? ⟨gE, 5, none⟩ = some (.slice A5 n5 p5) ∧ w'.cell? ⟨gE, 6, none⟩ = some (.slice A6 us.length p6) ∧ w'.cell? ⟨gE, 7, none⟩ = some (.slice A7 l.length p7) ∧ w'.cell? ⟨gE, 8, none⟩ = some (.int .i64 e8) ∧ w'.cell? ⟨gE, 9, none⟩ = some (.int .i64 e9) ∧ w'.cell? ⟨gE, 10, none⟩ = some (.slice A10 n10 p10)) ∧ (⟨e0, e1, A2, n2, p2, A3, n3, p3, A4, n4, p4, A5, n5, p5, A6, us.length, p6, A7, l.length, p7, e8, e9, A10, n10, p10⟩ : El).Is w' us l ∧ Rd w' w'.heap.size AP (tcs P) ∧ Rd w' w'.heap.size AC (ns (B.chain (S.lds P) us)) ∧ Rd w' w'.heap.size AX (bs xs)) :=
              Lib.hid (fun w' hb => ⟨HKC.out w' (b35.trans (hb.mono b35.size)), hIs5.on hb, hP5.on hb, hC.on hb, hX5.on hb⟩)
            have hC9 := B.chain_le HIC.out
            have HRA := Lib.hid hra
            have HWK := Lib.hid hwk
            have HUN := Lib.hid hun
            have HX9 := Lib.hid hX9
            clear hra hwk hun hX9
            clear HKC HRET3 b35 b5 b4 hP hIs4 hX4 d0 d1 d2 d3 d4 d5 d6 d7 d8 d9 d10 hP5 hIs5 hX5 hC hch
            generalize B.chain (S.lds P) us = C at *
            go_wp2_with fail
            go_loopg [11] C.length (fun gk s11 wr => ∃ k : Nat, k + gk = C.length ∧ s11 = .int .i64 k ∧ Below w5.heap.size w5 wr)
            case atStart => exact ⟨0, by omega, rfl, Below.refl _ _⟩
            case round =>
              obtain ⟨k, hk, rfl, hb⟩ := hrel
              have HK := Lib.hid hk
              obtain ⟨⟨d0, d1, d2, d3, d4, d5, d6, d7, d8, d9, d10⟩, hIs, hP, hC, hX⟩ := HK5.out _ hb
              by_cases hlt : k < C.length
              · clear hk
                have hltI : (k : Int) < (C.length : Int) := by omega
                obtain ⟨bC, oC, rfl, hbC, ck⟩ := hC.at_ (ns_at C k hlt)
                have hck := HIC.out.lt k hlt
                have q1 : decide ((C[k] : Int) < 0) = false := by simp
                have q2 : decide ((C[k] : Int) ≥ (us.length : Int)) = false := by simp; omega
                by_cases hk0 : k = 0
                · subst hk0
                  have q3 : decide (((0 : Nat) : Int) > 0) = false := by decide
                  generalize C[0] = x at *
                  have q2b : decide ((us.length : Int) ≤ (x : Int)) = false := by simp; omega
                  have q2c : decide (us.length ≤ x) = false := by simp; omega
                  have q1b : decide ((x : Int) < 0) = false := by simp
                  have q3b : decide ((0 : Int) < ((0 : Nat) : Int)) = false := by decide
                  simp only [Nat.add_zero] at ck
                  clear d0 d1 d2 d3 d4 d5 d7 d8 d9 d10 hIs hP hC hX
                  go_wp2_with fail
                  go_big_quiet (fail)
                  go_wp2_with fail
                  go_roundg (gk - 1)
                  case measure => have := HK.out; omega
                  case rel => exact ⟨1, by have := HK.out; omega, rfl, below_drewN hb _⟩
                · obtain ⟨j, hkj⟩ : ∃ j, k = j + 1 := ⟨k - 1, by omega⟩
                  have hk1 : j < C.length := by omega
                  obtain ⟨_, _, he, _, cj⟩ := hC.at_ (ns_at C j hk1)
                  injection he with he
                  injection he with he1 he2
                  subst he1 he2
                  have hup : C[j] < C[k] ∧ S.lds P (B.su us C[j]) (B.su us C[k]) = true := by subst hkj; exact HIC.out.up j hlt
                  have hcj := HIC.out.lt j hk1
                  have HR : Hid (S.rah us P C[j] C[k] = true) := Lib.hid (by rw [S.rah_lds hup.1]; exact hup.2)
                  have hup1 := hup.1
                  have hw1 : IntKind.i64.wrap ((k : Int) - 1) = (j : Int) := by rw [IntWalk.i64_in _ (by omega)]; omega
                  have hjI : (j : Int) < (C.length : Int) := by omega
                  have q3 : decide ((k : Int) > 0) = true := by simp; omega
                  have q3b : decide ((0 : Int) < (k : Int)) = true := by simp; omega
                  have q3c : decide (0 < k) = true := by simp; omega
                  clear hup hkj hk0
                  generalize C[k] = x at *
                  generalize C[j] = y at *
                  have q4 : decide ((x : Int) ≤ (y : Int)) = false := by simp; omega
                  have q4b : decide (x ≤ y) = false := by simp; omega
                  have q2b : decide ((us.length : Int) ≤ (x : Int)) = false := by simp; omega
                  have q2c : decide (us.length ≤ x) = false := by simp; omega
                  have hgE := World.block_lt_of_cell? wr _ d0
                  have HKW : Hid (∀ w', Below wr.heap.size wr w' → w'.cell? ⟨bC, oC + k, none⟩ = some (.int .i64 (x : Int)) ∧ w'.cell? ⟨bC, oC + j, none⟩ = some (.int .i64 (y : Int)) ∧ w'.cell? ⟨gE, 0, none⟩ = some (.int .i64 e0) ∧ w'.cell? ⟨gE, 1, none⟩ = some (.int .i64 e1) ∧ w'.cell? ⟨gE, 2, none⟩ = some (.slice A2 n2 p2) ∧ w'.cell? ⟨gE, 3, none⟩ = some (.slice A3 n3 p3) ∧ w'.cell? ⟨gE, 4, none⟩ = some (.slice A4 n4 p4) ∧ w'.cell? ⟨gE, 5, none⟩ = some (.slice A5 n5 p5) ∧ w'.cell? ⟨gE, 6, none⟩ = some (.slice A6 us.length p6) ∧ w'.cell? ⟨gE, 7, none⟩ = some (.slice A7 l.length p7) ∧ w'.cell? ⟨gE, 8, none⟩ = some (.int .i64 e8) ∧ w'.cell? ⟨gE, 9, none⟩ = some (.int .i64 e9) ∧ w'.cell? ⟨gE, 10, none⟩ = some (.slice A10 n10 p10)) :=
                    Lib.hid (fun w' hb2 => ⟨(hb2.cell (p := ⟨bC, oC + k, none⟩) hbC).trans ck, (hb2.cell (p := ⟨bC, oC + j, none⟩) hbC).trans cj, (HK5.out w' (hb.trans (hb2.mono hb.size))).1⟩)
                  have hIsD := hIs.on (Below.refl wr.heap.size wr).drew
                  have hPD := hP.on (Below.refl wr.heap.size wr).drew
                  clear hup1
                  go_wp2_with fail
                  go_region_held3 (fun w' => w'.cell? ⟨bC, oC + k, none⟩ = some (.int .i64 (x : Int)) ∧ w'.cell? ⟨bC, oC + j, none⟩ = some (.int .i64 (y : Int)) ∧ w'.cell? ⟨gE, 0, none⟩ = some (.int .i64 e0) ∧ w'.cell? ⟨gE, 1, none⟩ = some (.int .i64 e1) ∧ w'.cell? ⟨gE, 2, none⟩ = some (.slice A2 n2 p2) ∧ w'.cell? ⟨gE, 3, none⟩ = some (.slice A3 n3 p3) ∧ w'.cell? ⟨gE, 4, none⟩ = some (.slice A4 n4 p4) ∧ w'.cell? ⟨gE, 5, none⟩ = some (.slice A5 n5 p5) ∧ w'.cell? ⟨gE, 6, none⟩ = some (.slice A6 us.length p6) ∧ w'.cell? ⟨gE, 7, none⟩ = some (.slice A7 l.length p7) ∧ w'.cell? ⟨gE, 8, none⟩ = some (.int .i64 e8) ∧ w'.cell? ⟨gE, 9, none⟩ = some (.int .i64 e9) ∧ w'.cell? ⟨gE, 10, none⟩ = some (.slice A10 n10 p10))
                    (first | exact HKW.out _ b6 | go_keep)
                    (first | (go_at_call 10; refine (HRA.out AP cap y x _ hIsD hPD hcj hck).mono ?_; rintro e6 w6 ⟨rfl, b6'⟩; rw [HR.out]; have b6 := (Below.refl wr.heap.size wr).drew.trans b6'))
                  have hb7 := hb.trans (b6.mono hb.size)
                  clear HKW hIsD hPD d0 d1 d2 d3 d4 d5 d6 d7 d8 d9 d10 ck cj hIs hP hC hX
                  go_wp2_with fail
                  go_roundg (gk - 1)
                  case measure => have := HK.out; omega
                  case rel => exact ⟨k + 1, by have := HK.out; omega, by go_num, hb7⟩
              · obtain rfl : gk = 0 := by omega
                have hCp := B.chain_pos (lds_refl P) HIC.out
                clear hk d0 d1 d2 d3 d4 d5 d6 d7 d8 d9 d10 hIs hP hC hX
                obtain ⟨W6, rfl⟩ : ∃ W6, W6 = wr := ⟨wr, rfl⟩
                go_wp2_with fail
                go_loopg [12] us.length (fun gk s12 wr => ∃ k : Nat, k + gk = us.length ∧ s12 = .int .i64 k ∧ Below w5.heap.size w5 wr)
                case atStart => exact ⟨0, by omega, rfl, hb⟩
                case round =>
                  obtain ⟨k2, hk2, rfl, hb2⟩ := hrel
                  have HK2 := Lib.hid hk2
                  obtain ⟨⟨d0, d1, d2, d3, d4, d5, d6, d7, d8, d9, d10⟩, hIs, hP, hC, hX⟩ := HK5.out _ hb2
                  by_cases hlt2 : k2 < us.length
                  · clear hk2
                    have hltI : (k2 : Int) < (us.length : Int) := by omega
                    have hC0 : 0 < C.length := hCp.2 (by omega)
                    have q0 : decide ((C.length : Int) > 0) = true := by simp; omega
                    have q0b : decide (0 < C.length) = true := by simp; omega
                    have hC0I : (0 : Int) < (C.length : Int) := by omega
                    obtain ⟨bC, oC, rfl, hbC, ck⟩ := hC.at_ (ns_at C 0 hC0)
                    have hc0 := HIC.out.lt 0 hC0
                    simp only [Nat.add_zero] at ck
                    by_cases hin : k2 < C[0]
                    · have HR : Hid (S.rah us P k2 C[0] = false) := Lib.hid (by rw [S.rah_lds hin]; exact B.none_ahead (lds_refl P) HIC.out hC0 hin)
                      generalize C[0] = x at *
                      have q1 : decide ((k2 : Int) < (x : Int)) = true := by simp; omega
                      have q1b : decide (k2 < x) = true := by simpa using hin
                      have HKW : Hid (∀ w', Below wr.heap.size wr w' → w'.cell? ⟨bC, oC, none⟩ = some (.int .i64 (x : Int)) ∧ w'.cell? ⟨gE, 0, none⟩ = some (.int .i64 e0) ∧ w'.cell? ⟨gE, 1, none⟩ = some (.int .i64 e1) ∧ w'.cell? ⟨gE, 2, none⟩ = some (.slice A2 n2 p2) ∧ w'.cell? ⟨gE, 3, none⟩ = some (.slice A3 n3 p3) ∧ w'.cell? ⟨gE, 4, none⟩ = some (.slice A4 n4 p4) ∧ w'.cell? ⟨gE, 5, none⟩ = some (.slice A5 n5 p5) ∧ w'.cell? ⟨gE, 6, none⟩ = some (.slice A6 us.length p6) ∧ w'.cell? ⟨gE, 7, none⟩ = some (.slice A7 l.length p7) ∧ w'.cell? ⟨gE, 8, none⟩ = some (.int .i64 e8) ∧ w'.cell? ⟨gE, 9, none⟩ = some (.int .i64 e9) ∧ w'.cell? ⟨gE, 10, none⟩ = some (.slice A10 n10 p10)) :=
                        Lib.hid (fun w' hb3 => ⟨(hb3.cell (p := ⟨bC, oC, none⟩) hbC).trans ck, (HK5.out w' (hb2.trans (hb3.mono hb2.size))).1⟩)
                      have hIsD := hIs.on (Below.refl wr.heap.size wr).drew
                      have hPD := hP.on (Below.refl wr.heap.size wr).drew
                      go_wp2_with fail
                      go_region_held3 (fun w' => w'.cell? ⟨bC, oC, none⟩ = some (.int .i64 (x : Int)) ∧ w'.cell? ⟨gE, 0, none⟩ = some (.int .i64 e0) ∧ w'.cell? ⟨gE, 1, none⟩ = some (.int .i64 e1) ∧ w'.cell? ⟨gE, 2, none⟩ = some (.slice A2 n2 p2) ∧ w'.cell? ⟨gE, 3, none⟩ = some (.slice A3 n3 p3) ∧ w'.cell? ⟨gE, 4, none⟩ = some (.slice A4 n4 p4) ∧ w'.cell? ⟨gE, 5, none⟩ = some (.slice A5 n5 p5) ∧ w'.cell? ⟨gE, 6, none⟩ = some (.slice A6 us.length p6) ∧ w'.cell? ⟨gE, 7, none⟩ = some (.slice A7 l.length p7) ∧ w'.cell? ⟨gE, 8, none⟩ = some (.int .i64 e8) ∧ w'.cell? ⟨gE, 9, none⟩ = some (.int .i64 e9) ∧ w'.cell? ⟨gE, 10, none⟩ = some (.slice A10 n10 p10))
                        (first | exact HKW.out _ b6 | go_keep)
                        (first | (go_at_call 10; refine (HRA.out AP cap k2 x _ hIsD hPD hlt2 hc0).mono ?_; rintro e6 w6 ⟨rfl, b6'⟩; rw [HR.out]; have b6 := (Below.refl wr.heap.size wr).drew.trans b6'))
                      have hb7 := hb2.trans (b6.mono hb2.size)
                      clear HKW hIsD hPD d0 d1 d2 d3 d4 d5 d6 d7 d8 d9 d10 ck hIs hP hC hX
                      go_wp2_with fail
                      go_roundg (gk - 1)
                      case measure => have := HK2.out; omega
                      case rel => exact ⟨k2 + 1, by have := HK2.out; omega, by go_num, hb7⟩
                    · generalize C[0] = x at *
                      have q1 : decide ((k2 : Int) < (x : Int)) = false := by simp; omega
                      have q1b : decide (k2 < x) = false := by simpa using hin
                      clear d0 d1 d2 d3 d4 d5 d7 d8 d9 d10 hIs hP hC hX
                      go_wp2_with fail
                      go_big_quiet (fail)
                      go_wp2_with fail
                      go_roundg (gk - 1)
                      case measure => have := HK2.out; omega
                      case rel => exact ⟨k2 + 1, by have := HK2.out; omega, by go_num, below_drewN hb2 _⟩
                  · obtain rfl : gk = 0 := by omega
                    have hlt2I : ¬ (k2 : Int) < (us.length : Int) := by omega
                    clear hk2 d0 d1 d2 d3 d4 d5 d7 d8 d9 d10 hIs hP hC hX hlt
                    obtain ⟨W7, rfl⟩ : ∃ W7, W7 = wr := ⟨wr, rfl⟩
                    go_wp2_with fail
                    clear d6
                    go_loopg [13, 14] xs.length (fun gk s13 s14 wr => ∃ (k : Nat) (o : List Nat) (A : Option Addr) (c : Nat), k + gk = xs.length ∧ s14 = .int .i64 k ∧ s13 = .slice A o.length c ∧ wr.ownsRow W7.heap.size 3 1 s13 o.length (ns o) ∧ Below W7.heap.size W7 wr ∧ o.length ≤ k ∧ Hid (B.OthOk (S.lds P) us o))
                    case atStart => exact ⟨0, [], none, 0, by omega, rfl, rfl, World.ownsRow_nil _ _ _ _, Below.refl _ _, Nat.le_refl _, Lib.hid B.oth_nil⟩
                    case round =>
                      obtain ⟨k3, o, Ao, co, hk3, rfl, rfl, oo, hb3, ho3, HO⟩ := hrel
                      have HK3 := Lib.hid hk3
                      have hb5 := hb2.trans (hb3.mono hb2.size)
                      obtain ⟨⟨d0, d1, d2, d3, d4, d5, d6, d7, d8, d9, d10⟩, hIs, hP, hC, hX⟩ := HK5.out _ hb5
                      by_cases hgo : k3 < xs.length ∧ 0 < us.length
                      · obtain ⟨hlt3, hu0⟩ := hgo
                        clear hk3
                        have hltI : (k3 : Int) < (xs.length : Int) := by omega
                        have hu0I : (0 : Int) < (us.length : Int) := by omega
                        have q0 : decide ((us.length : Int) > 0) = true := by simp; omega
                        obtain ⟨bX, oX, rfl, hbX, cx⟩ := hX.at_ (bs_at xs k3 hlt3)
                        have hx9 := HX9.out _ (List.getElem_mem hlt3)
                        generalize xs[k3] = b at *
                        go_upto_region 23 with (fail)
                        go_cut [15] (fun s15 wx => s15 = .int .i64 ((b % us.length : Nat) : Int) ∧ wx.ownsRow W7.heap.size 3 1 (.slice Ao o.length co) o.length (ns o) ∧ Below W7.heap.size W7 wx)
                        case first =>
                          have hne : ((us.length : Int) == 0) = false := beq_false_of_ne (by omega)
                          have hne2 : ¬ (us.length : Int) = 0 := by omega
                          have hrem : (b : Int).tmod (us.length : Int) = ((b % us.length : Nat) : Int) := (Int.ofNat_tmod b us.length).symm
                          go_big_quiet (fail)
                          go_wp2_with fail
                          go_meet
                          exact ⟨by simp, oo, below_drewN hb3 _⟩
                        case rest =>
                          obtain ⟨rfl, ow, hbw⟩ := hcut
                          clear d0 d1 d2 d3 d4 d5 d6 d7 d8 d9 d10 hIs hP hC hX cx hb5 oo hb3 hbX
                          have hbw5 := hb2.trans (hbw.mono hb2.size)
                          have hsw := hbw.size
                          obtain ⟨⟨d0, d1, d2, d3, d4, d5, d6, d7, d8, d9, d10⟩, hIs, hP, hC, hX⟩ := HK5.out _ hbw5
                          have hxu : b % us.length < us.length := Nat.mod_lt _ hu0
                          generalize b % us.length = x at *
                          have ho9 : o.length ≤ 60 := by omega
                          cases hol : o.getLast? with
                          | none =>
                            rw [List.getLast?_eq_none_iff] at hol
                            subst hol
                            have ow2 : wc.ownsRow W7.heap.size 3 1 (.slice Ao 0 co) 0 (ns []) := ow
                            have q1 : (((0 : Nat) : Int) == 0) = true := by decide
                            rw [show ([] : List Nat).length = 0 from rfl]
                            clear d0 d1 d2 d3 d4 d5 d6 d7 d8 d9 d10 hIs hP hC hX
                            go_wp2_with fail
                            go_big_quiet (fail)
                            have ow3 : (wc.drewN nq).ownsRow W7.heap.size 3 1 (.slice Ao 0 co) 0 (ns []) := ow2
                            have hbd := below_drewN hbw nq
                            have hsd := hbd.size
                            clear ow ow2
                            generalize wc.drewN nq = wd at *
                            go_wp2_with (at_builtin; refine wpList_append_own_at _ rfl (.tmp 173) (.tmp 175) 23 rfl W7.heap.size 3 i0 _ 1 8 Try.underlying23 hi hz0 hz1 hz2 rfl (by omega) _ _ _ rfl (ow3.alloc _) ⟨wd.heap.size, 0, none⟩ 1 1 [.int .i64 (x : Int)] rfl rfl ?a1 ?a2 ?a3 ?a4 ?a5 ?_)
                            (first | (case a1 => exact cell_one_new _ _ _) | skip)
                            (first | (case a2 => simp [Value.oneCell']) | skip)
                            (first | (case a3 => simp only [maxLen]; omega) | skip)
                            (first | (case a4 => omega) | skip)
                            (first | (case a5 => omega) | (case a5 => simp; omega) | skip)
                            intro v8 w8 ho8 hg8 _ _
                            have hb8 : Below W7.heap.size W7 w8 := (hbd.alloc hsd _).grown hg8 (by simp; omega) fun k hk => (ow3.lt k hk).1
                            obtain ⟨A8, c8, hv8⟩ := own_formk ho8
                            subst hv8
                            have ho9 : w8.ownsRow W7.heap.size 3 1 (.slice A8 (0 + 1) c8) (0 + 1) (ns ([] ++ [x])) := by rw [ns_append]; exact ho8
                            clear ho8 hg8
                            go_wp2_with fail
                            go_roundg (gk - 1)
                            case measure => have := HK3.out; omega
                            case rel => exact ⟨k3 + 1, [] ++ [x], A8, c8, by have := HK3.out; omega, by go_num, by simp, by rw [List.length_append]; exact ho9, hb8, by simp <;> omega, Lib.hid (B.oth_one hxu)⟩
                          | some y =>
                            obtain ⟨hyu, hrk⟩ := HO.out y hol
                            obtain ⟨m, hm⟩ : ∃ m, o.length = m + 1 := ⟨o.length - 1, by cases o with | nil => simp at hol | cons a l => simp⟩
                            have hom : (ns o)[m]? = some (.int .i64 (y : Int)) := by
                              rw [ns_at o m (by omega)]
                              rw [List.getLast?_eq_getElem?, hm, Nat.add_sub_cancel, List.getElem?_eq_getElem (by omega)] at hol
                              injection hol with hol
                              rw [hol]
                            have rO := Rd.of_own ow
                            obtain ⟨bO, oO, rfl, hbO, cO⟩ := rO.at_ hom
                            have HM := Lib.hid hm
                            have HOL := Lib.hid hol
                            have hw1 : IntKind.i64.wrap ((o.length : Int) - 1) = (m : Int) := by rw [IntWalk.i64_in _ (by omega)]; omega
                            have hmI : (m : Int) < (o.length : Int) := by omega
                            have q1 : ((o.length : Int) == 0) = false := beq_false_of_ne (by omega)
                            have q1b : (o.length == 0) = false := beq_false_of_ne (by omega)
                            clear rO hom hol hm hrk
                            by_cases hyx : y < x
                            · have q2 : decide ((x : Int) > (y : Int)) = true := by simp; omega
                              have q2b : decide (y < x) = true := by simpa using hyx
                              have q2c : decide ((y : Int) < (x : Int)) = true := by simp; omega
                              have HKW : Hid (∀ w', Below wc.heap.size wc w' → w'.cell? ⟨bO, oO + m, none⟩ = some (.int .i64 (y : Int)) ∧ w'.cell? ⟨gE, 0, none⟩ = some (.int .i64 e0) ∧ w'.cell? ⟨gE, 1, none⟩ = some (.int .i64 e1) ∧ w'.cell? ⟨gE, 2, none⟩ = some (.slice A2 n2 p2) ∧ w'.cell? ⟨gE, 3, none⟩ = some (.slice A3 n3 p3) ∧ w'.cell? ⟨gE, 4, none⟩ = some (.slice A4 n4 p4) ∧ w'.cell? ⟨gE, 5, none⟩ = some (.slice A5 n5 p5) ∧ w'.cell? ⟨gE, 6, none⟩ = some (.slice A6 us.length p6) ∧ w'.cell? ⟨gE, 7, none⟩ = some (.slice A7 l.length p7) ∧ w'.cell? ⟨gE, 8, none⟩ = some (.int .i64 e8) ∧ w'.cell? ⟨gE, 9, none⟩ = some (.int .i64 e9) ∧ w'.cell? ⟨gE, 10, none⟩ = some (.slice A10 n10 p10)) :=
                                Lib.hid (fun w' hb3 => ⟨(hb3.cell (p := ⟨bO, oO + m, none⟩) hbO).trans cO, (HK5.out w' (hbw5.trans (hb3.mono hbw5.size))).1⟩)
                              have hIsD := hIs.on (Below.refl wc.heap.size wc).drew
                              have hPD := hP.on (Below.refl wc.heap.size wc).drew
                              have HRL := Lib.hid (S.rah_lds (us := us) (P := P) hyx)
                              go_wp2_with fail
                              go_region_held3 (fun w' => w'.cell? ⟨bO, oO + m, none⟩ = some (.int .i64 (y : Int)) ∧ w'.cell? ⟨gE, 0, none⟩ = some (.int .i64 e0) ∧ w'.cell? ⟨gE, 1, none⟩ = some (.int .i64 e1) ∧ w'.cell? ⟨gE, 2, none⟩ = some (.slice A2 n2 p2) ∧ w'.cell? ⟨gE, 3, none⟩ = some (.slice A3 n3 p3) ∧ w'.cell? ⟨gE, 4, none⟩ = some (.slice A4 n4 p4) ∧ w'.cell? ⟨gE, 5, none⟩ = some (.slice A5 n5 p5) ∧ w'.cell? ⟨gE, 6, none⟩ = some (.slice A6 us.length p6) ∧ w'.cell? ⟨gE, 7, none⟩ = some (.slice A7 l.length p7) ∧ w'.cell? ⟨gE, 8, none⟩ = some (.int .i64 e8) ∧ w'.cell? ⟨gE, 9, none⟩ = some (.int .i64 e9) ∧ w'.cell? ⟨gE, 10, none⟩ = some (.slice A10 n10 p10))
                                (first | exact HKW.out _ b6 | go_keep)
                                (first | (go_at_call 10; refine (HRA.out AP cap y x _ hIsD hPD hyu hxu).mono ?_; rintro e6 w6 ⟨rfl, b6'⟩; have b6 := (Below.refl wc.heap.size wc).drew.trans b6'))
                              have ow6 : w6.ownsRow W7.heap.size 3 1 (.slice (some ⟨bO, oO, none⟩) o.length co) o.length (ns o) := ow.kept (grown_of_below b6) (by cases h : (Value.slice (some ⟨bO, oO, none⟩) o.length co).ownBlock with | none => exact .inl rfl | some g => exact .inr (by simp))
                              have hbw6 := hbw.trans (b6.mono hsw)
                              have hsw6 := hbw6.size
                              clear HKW hIsD hPD d0 d1 d2 d3 d4 d5 d6 d7 d8 d9 d10 hIs hP hC hX cO ow
                              cases hrr : S.rah us P y x
                              · clear hrr
                                go_wp2_with fail
                                go_roundg (gk - 1)
                                case measure => have := HK3.out; omega
                                case rel => exact ⟨k3 + 1, o, _, co, by have := HK3.out; omega, by go_num, rfl, ow6, hbw6, by omega, HO⟩
                              · rw [hrr] at HRL
                                clear hrr
                                go_wp2_with (at_builtin; refine wpList_append_own_at _ rfl (.tmp 173) (.tmp 175) 23 rfl W7.heap.size 3 i0 _ 1 8 Try.underlying23 hi hz0 hz1 hz2 rfl (by omega) _ _ _ rfl (ow6.alloc _) ⟨w6.heap.size, 0, none⟩ 1 1 [.int .i64 (x : Int)] rfl rfl ?f1 ?f2 ?f3 ?f4 ?f5 ?_)
                                (first | (case f1 => exact cell_one_new _ _ _) | skip)
                                (first | (case f2 => simp [Value.oneCell']) | skip)
                                (first | (case f3 => simp only [maxLen]; omega) | skip)
                                (first | (case f4 => omega) | skip)
                                (first | (case f5 => omega) | (case f5 => simp; omega) | skip)
                                intro v8 w8 ho8 hg8 _ _
                                have hb8 : Below W7.heap.size W7 w8 := (hbw6.alloc hsw6 _).grown hg8 (by simp; omega) fun k hk => (ow6.lt k hk).1
                                obtain ⟨A8, c8, hv8⟩ := own_formk ho8
                                subst hv8
                                have ho9 : w8.ownsRow W7.heap.size 3 1 (.slice A8 (o.length + 1) c8) (o.length + 1) (ns (o ++ [x])) := by rw [ns_append]; exact ho8
                                clear ho8 hg8
                                go_wp2_with fail
                                go_roundg (gk - 1)
                                case measure => have := HK3.out; omega
                                case rel => exact ⟨k3 + 1, o ++ [x], A8, c8, by have := HK3.out; omega, by go_num, by simp, by rw [List.length_append]; exact ho9, hb8, by simp <;> omega, Lib.hid (B.oth_more (lds_refl P) HO.out HOL.out hxu hyx HRL.out.symm)⟩
                            · have q2 : decide ((x : Int) > (y : Int)) = false := by simp; omega
                              have q2b : decide (y < x) = false := by simpa using hyx
                              have q2c : decide ((y : Int) < (x : Int)) = false := by simp; omega
                              clear d0 d1 d2 d3 d4 d5 d7 d8 d9 d10 hIs hP hC hX hyx
                              go_wp2_with fail
                              go_big_quiet (fail)
                              go_wp2_with fail
                              go_roundg (gk - 1)
                              case measure => have := HK3.out; omega
                              case rel => exact ⟨k3 + 1, o, _, co, by have := HK3.out; omega, by go_num, rfl, ow, below_drewN hbw _, by omega, HO⟩
                      · have e1 := B.oth_le (lds_refl P) HO.out HIC.out
                        have e3 := B.work_le (lds_refl P) HIC.out HUN.out
                        have m1 := mul_bd (a := (P.length : Int)) (b := (C.length : Int)) (A := 181) (B := 60) (by omega) (by omega) (by omega) (by omega)
                        have e3I : (us.length : Int) ≤ (P.length : Int) * (C.length : Int) := by exact_mod_cast e3
                        have q3 : decide ((o.length : Int) ≤ (C.length : Int)) = true := by simp; omega
                        have q4 : decide ((C.length : Int) ≤ (us.length : Int)) = true := by simp; omega
                        have q5 : decide ((us.length : Int) ≤ (P.length : Int) * (C.length : Int)) = true := by simpa using e3I
                        clear hk3 hIs hP hC hX e3
                        by_cases hu0 : 0 < us.length
                        · have hlt3 : ¬ k3 < xs.length := fun h => hgo ⟨h, hu0⟩
                          have hC0 := hCp.2 hu0
                          have q6 : decide ((us.length : Int) > 0) = true := by simp; omega
                          have q7 : decide ((C.length : Int) > 0) = true := by simp; omega
                          clear hgo hCp
                          go_wp2_with (go_at_call 11; refine (HWK.out _).mono ?_)
                          rintro e8 w8 ⟨rfl, b8⟩
                          have hb8 := hb5.trans (b8.mono hb5.size)
                          clear d0 d1 d2 d3 d4 d5 d6 d7 d8 d9 d10 b8
                          obtain ⟨⟨d0, d1, d2, d3, d4, d5, d6, d7, d8, d9, d10⟩, _, _, _, _⟩ := HK5.out _ hb8
                          go_wp2_with (go_at_call 11; refine (HWK.out _).mono ?_)
                          rintro e9 w9 ⟨rfl, b9⟩
                          have hb9 := hb8.trans (b9.mono hb8.size)
                          clear d0 d1 d2 d3 d4 d5 d6 d7 d8 d9 d10 b9
                          obtain ⟨⟨d0, d1, d2, d3, d4, d5, d6, d7, d8, d9, d10⟩, _, _, _, _⟩ := HK5.out _ hb9
                          go_wp2_with fail
                          go_ret
                          exact HRET5.out _ hb9
                        · have hC0 : ¬ 0 < C.length := fun h => hu0 (hCp.1 h)
                          have q6 : decide ((us.length : Int) > 0) = false := decide_eq_false (by omega)
                          have q7 : decide ((C.length : Int) > 0) = false := decide_eq_false (by omega)
                          clear hgo hCp
                          by_cases hlt3 : k3 < xs.length
                          · have hltI : (k3 : Int) < (xs.length : Int) := by omega
                            go_wp2_with (go_at_call 11; refine (HWK.out _).mono ?_)
                            rintro e8 w8 ⟨rfl, b8⟩
                            have hb8 := hb5.trans (b8.mono hb5.size)
                            clear d0 d1 d2 d3 d4 d5 d6 d7 d8 d9 d10 b8
                            obtain ⟨⟨d0, d1, d2, d3, d4, d5, d6, d7, d8, d9, d10⟩, _, _, _, _⟩ := HK5.out _ hb8
                            go_wp2_with (go_at_call 11; refine (HWK.out _).mono ?_)
                            rintro e9 w9 ⟨rfl, b9⟩
                            have hb9 := hb8.trans (b9.mono hb8.size)
                            clear d0 d1 d2 d3 d4 d5 d6 d7 d8 d9 d10 b9
                            obtain ⟨⟨d0, d1, d2, d3, d4, d5, d6, d7, d8, d9, d10⟩, _, _, _, _⟩ := HK5.out _ hb9
                            go_wp2_with fail
                            go_ret
                            exact HRET5.out _ hb9
                          · skip
                            go_wp2_with (go_at_call 11; refine (HWK.out _).mono ?_)
                            rintro e8 w8 ⟨rfl, b8⟩
                            have hb8 := hb5.trans (b8.mono hb5.size)
                            clear d0 d1 d2 d3 d4 d5 d6 d7 d8 d9 d10 b8
                            obtain ⟨⟨d0, d1, d2, d3, d4, d5, d6, d7, d8, d9, d10⟩, _, _, _, _⟩ := HK5.out _ hb8
                            go_wp2_with (go_at_call 11; refine (HWK.out _).mono ?_)
                            rintro e9 w9 ⟨rfl, b9⟩
                            have hb9 := hb8.trans (b9.mono hb8.size)
                            clear d0 d1 d2 d3 d4 d5 d6 d7 d8 d9 d10 b9
                            obtain ⟨⟨d0, d1, d2, d3, d4, d5, d6, d7, d8, d9, d10⟩, _, _, _, _⟩ := HK5.out _ hb9
                            go_wp2_with fail
                            go_ret
                            exact HRET5.out _ hb9
end Go.Proofs.Ytahhihhfjimppaa
