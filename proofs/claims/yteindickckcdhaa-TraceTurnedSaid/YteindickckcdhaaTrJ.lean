/- the laws walked: TraceWrites, TraceReads, TraceApart -/
import Derived.Test.YteindickckcdhaaTrI
namespace Go.Proofs.Yteindickckcdhaa
open Go.RowKit
set_option linter.unusedSimpArgs false
set_option linter.unusedVariables false
set_option maxRecDepth 100000

theorem esame_eq (l : List T.Ev) (A B : Option Addr) (c d : Nat) (w : World) (hr : Rd w w.heap.size A (ecs l)) (hq : Rd w w.heap.size B (ecs l)) (hl : l.length ≤ 1000000) :
    Calls Try.prog 16 #[.slice A l.length c, .slice B l.length d] w (fun e w' => e = .returned (.bool true) ∧ Below w.heap.size w w') := by
  refine (esame_any l l A B c d w hr hq hl hl).mono ?_
  rintro e w' ⟨rfl, hb⟩
  exact ⟨by simp, hb⟩
theorem esame_nil (w : World) : Calls Try.prog 16 #[.slice none 0 0, .slice none 0 0] w (fun e w' => e = .returned (.bool true) ∧ Below w.heap.size w w') := esame_eq [] none none 0 0 w (.inl rfl) (.inl rfl) (by decide)
theorem writes_walk (l : List T.Ev) (A : Option Addr) (c : Nat) (w : World) (hr : Rd w w.heap.size A (ecs l)) (hf : ∀ x ∈ l, T.fits x) (hlen : l.length ≤ 9223372036854775807) :
    Calls Try.prog 3 #[.slice A l.length c] w (fun e w' => e = .returned (.bool true) ∧ Below w.heap.size w w') := by
  by_cases hl : l.length ≤ 60
  · have hlI : (l.length : Int) ≤ 60 := by omega
    have HF := Lib.hid hf
    have hbl := T.bytes_len hf (by omega)
    have hB1 : (T.bytes l).length ≤ 1000000 := by omega
    have HP := Lib.hid (T.parse_bytes hf (by omega))
    clear hf hbl
    go_enter Try.func3, Try.ntmps3
    go_wp2_with (go_at_call 8; refine (awake_any _).mono ?_)
    rintro e w1 ⟨rfl, b1⟩
    have r1 := hr.on b1
    clear hr
    go_wp2_with (go_at_call 9; refine (bytes_any l _ _ _ r1 (by omega) HF.out).mono ?_)
    rintro e w2 ⟨A2, c2, rfl, ho2, hb2, hc2, hc2'⟩
    have r2 := made_rd ho2
    replace r1 := r1.on hb2
    have b2 := b1.trans (hb2.mono b1.size)
    clear ho2 hb2 b1
    go_wp2_with (go_at_call 10; refine (parse_any A2 c2 (T.bytes l) _ r2 (T.bytes_byt _) hB1 hc2 hc2').mono ?_)
    rw [HP.out]
    rintro e w3 ⟨b3, A3, c3, rfl, r3, hc3⟩
    replace r1 := r1.on b3
    replace r2 := r2.on b3
    replace b2 := b2.trans (b3.mono b2.size)
    clear b3
    go_wp2_with (go_at_call 12; refine (rbytes_any l _ _ _ r1 (by omega) HF.out).mono ?_)
    rintro e w4 ⟨A4, c4, rfl, ho4, hb4, _, _⟩
    have r4 := made_rd ho4
    replace r1 := r1.on hb4
    replace r2 := r2.on hb4
    replace r3 := r3.on hb4
    replace b2 := b2.trans (hb4.mono b2.size)
    clear ho4 hb4
    go_wp2_with (go_at_call 11; refine (same_any true A2 A4 c2 c4 (T.bytes l) (T.bytes l) _ (by simp) r2 r4 (by omega) (by omega)).mono ?_)
    rintro e w5 ⟨rfl, n5, rfl⟩
    replace r1 := (r1.drewN n5).top
    replace r3 := (r3.drewN n5).top
    replace b2 := below_drewN b2 n5
    clear r2 r4
    generalize w4.drewN n5 = w5 at *
    go_wp2_with (go_at_call 14; refine (picks_any l _ _ _ r1 (by omega)).mono ?_)
    rintro e w6 ⟨A6, c6, rfl, r6, b6⟩
    replace r1 := r1.on b6
    replace r3 := r3.on b6
    replace b2 := b2.trans (b6.mono b2.size)
    clear b6
    go_wp2_with (go_at_call 15; refine (rpicks_any l _ _ _ r1 (by omega)).mono ?_)
    rintro e w7 ⟨A7, c7, rfl, r7, b7⟩
    replace r1 := r1.on b7
    replace r3 := r3.on b7
    replace r6 := r6.on b7
    replace b2 := b2.trans (b7.mono b2.size)
    clear b7
    have hpl : (T.picks l).length ≤ 1000000 := by simp [T.picks]; omega
    go_wp2_with (go_at_call 13; refine (picked_eq (T.picks l) _ _ _ _ _ r6 r7 hpl).mono ?_)
    rintro e w8 ⟨rfl, b8⟩
    replace r1 := r1.on b8
    replace r3 := r3.on b8
    replace b2 := b2.trans (b8.mono b2.size)
    clear b8 r6 r7
    go_wp2_with (go_at_call 16; refine (esame_eq l _ _ _ _ _ r3 r1 (by omega)).mono ?_)
    rintro e w9 ⟨rfl, b9⟩
    replace b2 := b2.trans (b9.mono b2.size)
    go_wp2_with fail
    go_ret
    exact ⟨rfl, b2⟩
  · have hl' : 60 < (l.length : Int) := by omega
    go_enter Try.func3, Try.ntmps3
    go_wp2_with (go_at_call 8; refine (awake_any _).mono ?_)
    rintro e w1 ⟨rfl, b1⟩
    go_wp2_with fail
    go_ret
    exact ⟨rfl, b1⟩

theorem reads_walk (A : Option Addr) (c : Nat) (xs : List Nat) (w : World) (h : Rd w w.heap.size A (bs xs)) (hB : Byt xs) (hc : xs.length ≤ c) (hc2 : c ≤ 9223372036854775807) :
    Calls Try.prog 4 #[.slice A xs.length c] w (fun e w' => e = .returned (.bool true) ∧ Below w.heap.size w w') := by
  by_cases hl : xs.length ≤ 2000
  · have hlI : (xs.length : Int) ≤ 2000 := by omega
    cases hp : T.parse xs with
    | none =>
      have HP := Lib.hid hp
      clear hp
      go_enter Try.func4, Try.ntmps4
      go_wp2_with (go_at_call 8; refine (awake_any _).mono ?_)
      rintro e w1 ⟨rfl, b1⟩
      have r1 := h.on b1
      clear h
      go_wp2_with (go_at_call 10; refine (parse_any A c xs _ r1 hB (by omega) hc hc2).mono ?_)
      rw [HP.out]
      rintro e w2 ⟨b2, rfl⟩
      replace r1 := r1.on b2
      replace b1 := b1.trans (b2.mono b1.size)
      clear b2
      go_wp2_with (go_at_call 17; refine (rparse_any A c xs _ r1 hB (by omega) hc hc2).mono ?_)
      rw [HP.out]
      rintro e w3 ⟨b3, rfl⟩
      replace b1 := b1.trans (b3.mono b1.size)
      clear b3 r1
      go_wp2_with (go_at_call 16; refine (esame_nil _).mono ?_)
      rintro e w4 ⟨rfl, b4⟩
      replace b1 := b1.trans (b4.mono b1.size)
      go_wp2_with fail
      go_ret
      exact ⟨rfl, b1⟩
    | some l =>
      obtain ⟨hbe, hf⟩ := T.parse_some hB hp
      have hll : l.length ≤ 1000 := by
        have h1 := T.nums_length l
        have h2 := W.flat_ge (T.nums l)
        have h3 : (T.bytes l).length ≤ 2000 := by rw [hbe]; exact hl
        have h4 : (T.nums l).length ≤ (T.bytes l).length := by
          unfold T.bytes W.sealed W.nums
          simp only [List.length_append]
          omega
        omega
      have HP := Lib.hid hp
      have HBE := Lib.hid hbe
      have HF := Lib.hid hf
      clear hp hbe hf
      go_enter Try.func4, Try.ntmps4
      go_wp2_with (go_at_call 8; refine (awake_any _).mono ?_)
      rintro e w1 ⟨rfl, b1⟩
      have r1 := h.on b1
      clear h
      go_wp2_with (go_at_call 10; refine (parse_any A c xs _ r1 hB (by omega) hc hc2).mono ?_)
      rw [HP.out]
      rintro e w2 ⟨b2, A2, c2, rfl, r2, hc2'⟩
      replace r1 := r1.on b2
      replace b1 := b1.trans (b2.mono b1.size)
      clear b2
      go_wp2_with (go_at_call 17; refine (rparse_any A c xs _ r1 hB (by omega) hc hc2).mono ?_)
      rw [HP.out]
      rintro e w3 ⟨b3, A3, c3, rfl, r3, hc3'⟩
      replace r1 := r1.on b3
      replace r2 := r2.on b3
      replace b1 := b1.trans (b3.mono b1.size)
      clear b3
      go_wp2_with (go_at_call 16; refine (esame_eq l _ _ _ _ _ r2 r3 (by omega)).mono ?_)
      rintro e w4 ⟨rfl, b4⟩
      replace r1 := r1.on b4
      replace r2 := r2.on b4
      replace b1 := b1.trans (b4.mono b1.size)
      clear b4 r3
      go_wp2_with (go_at_call 9; refine (bytes_any l _ _ _ r2 hll HF.out).mono ?_)
      rintro e w5 ⟨A5, c5, rfl, ho5, hb5, _, _⟩
      have r5 := made_rd ho5
      replace r1 := r1.on hb5
      replace b1 := b1.trans (hb5.mono b1.size)
      clear ho5 hb5
      rw [HBE.out] at r5 ⊢
      go_wp2_with (go_at_call 11; refine (same_any true A5 A c5 c xs xs _ (by simp) r5 r1 (by omega) (by omega)).mono ?_)
      rintro e w6 ⟨rfl, n6, rfl⟩
      replace b1 := below_drewN b1 n6
      go_wp2_with fail
      go_ret
      exact ⟨rfl, b1⟩
  · have hl' : 2000 < (xs.length : Int) := by omega
    go_enter Try.func4, Try.ntmps4
    go_wp2_with (go_at_call 8; refine (awake_any _).mono ?_)
    rintro e w1 ⟨rfl, b1⟩
    go_wp2_with fail
    go_ret
    exact ⟨rfl, b1⟩
end Go.Proofs.Yteindickckcdhaa
