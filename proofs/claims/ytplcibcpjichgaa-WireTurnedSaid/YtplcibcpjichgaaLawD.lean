/- walks of the laws WireGets, WireSums -/
import Derived.Test.YtplcibcpjichgaaLawC
namespace Go.Proofs.Ytplcibcpjichgaa
open Go.RowKit
set_option linter.unusedSimpArgs false
set_option linter.unusedVariables false
set_option maxRecDepth 100000

def textRes (xs : List Nat) : ByteArray × Int × Int := match W.len xs with | some (n, k) => (str ((xs.drop k).take n), ((k + n : Nat) : Int), 0) | none => (⟨#[]⟩, 0, 3)
theorem gettext_any {A : Option Addr} {c : Nat} {xs : List Nat} {w : World} (h : Rd w w.heap.size A (bs xs)) (hB : Byt xs) (hl : xs.length ≤ 1000000) (hc : xs.length ≤ c) (hc2 : c ≤ 9223372036854775807) :
    Calls Try.prog 20 #[.slice A xs.length c] w fun e w' => e = .returned (.tuple #[.string (textRes xs).1, .int .i64 (textRes xs).2.1, .int .i64 (textRes xs).2.2]) ∧ w = w' := by
  unfold textRes
  cases hg : W.len xs with
  | none => exact gettext_no hg h hB (by omega)
  | some p => exact gettext_yes hg h hB (by omega) hc hc2
theorem rgettext_any {A : Option Addr} {c : Nat} {xs : List Nat} {w : World} (h : Rd w w.heap.size A (bs xs)) (hB : Byt xs) (hl : xs.length ≤ 1000000) (hc : xs.length ≤ c) (hc2 : c ≤ 9223372036854775807) :
    Calls Try.prog 21 #[.slice A xs.length c] w fun e w' => e = .returned (.tuple #[.string (textRes xs).1, .int .i64 (textRes xs).2.1, .int .i64 (textRes xs).2.2]) ∧ Below w.heap.size w w' := by
  unfold textRes
  cases hg : W.len xs with
  | none => exact rgettext_no hg h hB hl hc hc2
  | some p => exact rgettext_yes hg h hB hl hc hc2
/-- what GetNums tells, one way for both endings -/
theorem numbered_any {w w' : World} {r : Option (List Int × Nat)} {e : Ending} (h : Numbered w r e w') : ∃ (A : Option Addr) (c : Nat), e = .returned (.tuple #[.slice A ((r.map (·.1)).getD []).length c, .int .i64 ((r.map (fun p => (p.2 : Int))).getD 0), .int .i64 (if r.isSome then 0 else 3)]) ∧ Rd w' w'.heap.size A (is ((r.map (·.1)).getD [])) ∧ Below w.heap.size w w' := by
  obtain ⟨hb, h2⟩ := h
  cases r with
  | none => exact ⟨none, 0, h2, .inl rfl, hb⟩
  | some p =>
    obtain ⟨A, c, he, hr, _⟩ := h2
    exact ⟨A, c, he, hr, hb⟩

set_option maxHeartbeats 1000000 in
theorem gets_walk (A : Option Addr) (c : Nat) (l : List Nat) (w : World) (h : Rd w w.heap.size A (bs l)) (hB : Byt l) (hc : l.length ≤ c) (hc2 : c ≤ 9223372036854775807) :
    Calls Try.prog 4 #[.slice A l.length c] w (Holds w) := by
  by_cases hl : 1000 < l.length
  · go_enter Try.func4, Try.ntmps4
    go_wp2_with fail
    refine (alive_any _).mono ?_
    rintro e w1 ⟨rfl, hb1⟩
    go_wp2_with fail
    go_ret
    exact ⟨rfl, hb1⟩
  have C1 : ∀ w', Rd w' w'.heap.size A (bs l) → Calls Try.prog 18 #[.slice A l.length c] w' (fun e w'' => e = .returned (.tuple #[.int .i64 (getRes l).1, .int .i64 (getRes l).2.1, .int .i64 (getRes l).2.2]) ∧ w' = w'') := fun w' h' => wget_any A c l w' h' hB (by omega)
  have C2 : ∀ w', Rd w' w'.heap.size A (bs l) → Calls Try.prog 19 #[.slice A l.length c] w' (fun e w'' => e = .returned (.tuple #[.int .i64 (getRes l).1, .int .i64 (getRes l).2.1, .int .i64 (getRes l).2.2]) ∧ Below w'.heap.size w' w'') := fun w' h' => rget_any A c l w' h' hB (by omega) hc hc2
  have C3 := fun (w' : World) h' => gettext_any (A := A) (w := w') (c := c) h' hB (by omega) hc hc2
  have C4 := fun (w' : World) h' => rgettext_any (A := A) (w := w') (c := c) h' hB (by omega) hc hc2
  have C5 : ∀ w', Rd w' w'.heap.size A (bs l) → Calls Try.prog 22 #[.slice A l.length c] w' (Numbered w' (W.getNums l)) := fun w' h' => getnums_any A c l w' h' hB (by omega) hc hc2
  have C6 : ∀ w', Rd w' w'.heap.size A (bs l) → Calls Try.prog 23 #[.slice A l.length c] w' (Numbered w' (W.getNums l)) := fun w' h' => rgetnums_any A c l w' h' hB (by omega) hc hc2
  have C5' := fun w' h' => (C5 w' h').mono (fun _ _ hh => numbered_any hh)
  have C6' := fun w' h' => (C6 w' h').mono (fun _ _ hh => numbered_any hh)
  have hns : ((W.getNums l).map (·.1)).getD [] = ((W.getNums l).map (·.1)).getD [] ∧ (((W.getNums l).map (·.1)).getD []).length ≤ 1000 := by
    refine ⟨rfl, ?_⟩
    cases hg : W.getNums l with
    | none => simp
    | some p =>
      obtain ⟨ns, K⟩ := p
      unfold W.getNums at hg
      cases h1 : W.len l with
      | none => rw [h1] at hg; cases hg
      | some q =>
        obtain ⟨m, k⟩ := q
        rw [h1] at hg
        simp only at hg
        cases h2 : W.many m (l.drop k) with
        | none => rw [h2] at hg; cases hg
        | some q =>
          obtain ⟨ns', j⟩ := q
          rw [h2] at hg
          simp only [Option.some.injEq, Prod.mk.injEq] at hg
          have h3 := W.many_length h2
          have h4 := W.len_le hB h1
          rw [← hg.1] at *
          simp only [Option.map_some, Option.getD_some]
          omega
  obtain ⟨_, hns⟩ := hns
  clear C5 C6
  generalize getRes l = r at C1 C2
  generalize textRes l = t at C3 C4
  generalize hN : ((W.getNums l).map (·.1)).getD [] = ns at C5' C6' hns
  generalize ((W.getNums l).map (fun p => (p.2 : Int))).getD 0 = K at C5' C6'
  generalize (if (W.getNums l).isSome = true then (0 : Int) else 3) = E at C5' C6'
  clear hN
  obtain ⟨n, k, e0⟩ := r
  obtain ⟨s, tk, te⟩ := t
  simp only at C1 C2 C3 C4
  have H1 := Lib.hid C1
  have H2 := Lib.hid C2
  have H3 := Lib.hid C3
  have H4 := Lib.hid C4
  have H5 := Lib.hid C5'
  have H6 := Lib.hid C6'
  clear C1 C2 C3 C4 C5' C6'
  go_enter Try.func4, Try.ntmps4
  go_wp2_with fail
  refine (H1.out _ h).mono ?_
  rintro e w1 ⟨rfl, rfl⟩
  go_wp2_with fail
  refine (H2.out _ h).mono ?_
  rintro e w2 ⟨rfl, hb2⟩
  have h2 := h.on hb2
  go_wp2_with fail
  refine (H3.out _ h2).mono ?_
  rintro e w3 ⟨rfl, rfl⟩
  go_wp2_with fail
  refine (H4.out _ h2).mono ?_
  rintro e w3 ⟨rfl, hb3⟩
  have h3 := h2.on hb3
  have B3 := bel_trans hb2 hb2.size hb3
  go_wp2_with fail
  refine (H5.out _ h3).mono ?_
  rintro e w4 ⟨A4, c4, rfl, r4, hb4⟩
  have h4 := h3.on hb4
  have B4 := bel_trans B3 B3.size hb4
  go_wp2_with fail
  refine (H6.out _ h4).mono ?_
  rintro e w5 ⟨A5, c5, rfl, r5, hb5⟩
  have B5 := bel_trans B4 B4.size hb5
  go_wp2_with fail
  refine (alive_any _).mono ?_
  rintro e w6 ⟨rfl, hb6⟩
  have B6 := bel_trans B5 B5.size hb6
  clear H1 H2 H3 H4 H5 H6
  go_wp2_with fail
  refine (ints_any' true (by simp) rfl rfl ((r4.on hb5).on hb6) (r5.on hb6) (by omega) (by omega)).mono ?_
  rintro e w7 ⟨rfl, kk, rfl⟩
  go_wp2_with fail
  go_ret
  exact ⟨rfl, below_drewN B6 _⟩

/-- what Open tells, one way for both endings -/
def openList (xs : List Nat) : List Nat := ((W.opened xs).map (·.1)).getD []
def openAt (xs : List Nat) : Int := ((W.opened xs).map (fun p => (p.2 : Int))).getD 0
def openErr (xs : List Nat) : Int := if (W.opened xs).isSome then 0 else 3
def OpenedAny (w : World) (xs : List Nat) (e : Ending) (w' : World) : Prop := ∃ (A : Option Addr) (c : Nat), e = .returned (.tuple #[.slice A (openList xs).length c, .int .i64 (openAt xs), .int .i64 (openErr xs)]) ∧ Rd w' w'.heap.size A (bs (openList xs)) ∧ Below w.heap.size w w'
theorem open_any {A : Option Addr} {c : Nat} {xs : List Nat} {w : World} (h : Rd w w.heap.size A (bs xs)) (hB : Byt xs) (hl : xs.length ≤ 1000000) (hc : xs.length ≤ c) (hc2 : c ≤ 9223372036854775807) :
    Calls Try.prog 29 #[.slice A xs.length c] w (OpenedAny w xs) := by
  unfold OpenedAny openList openAt openErr
  cases hg : W.opened xs with
  | none => exact (open_no hg h hB (by omega) hc hc2).mono fun e w' ⟨he, hw⟩ => ⟨none, 0, he, .inl rfl, by rw [← hw]; exact Below.refl _ _⟩
  | some p => exact open_yes hg h hB hl hc hc2
theorem ropen_any {A : Option Addr} {c : Nat} {xs : List Nat} {w : World} (h : Rd w w.heap.size A (bs xs)) (hB : Byt xs) (hl : xs.length ≤ 1000000) (hc : xs.length ≤ c) (hc2 : c ≤ 9223372036854775807) :
    Calls Try.prog 30 #[.slice A xs.length c] w (OpenedAny w xs) := by
  unfold OpenedAny openList openAt openErr
  cases hg : W.opened xs with
  | none => exact (ropen_no hg h hB hl hc hc2).mono fun e w' ⟨he, hw⟩ => ⟨none, 0, he, .inl rfl, hw⟩
  | some p => exact ropen_yes hg h hB hl hc hc2
theorem openList_le {xs : List Nat} : (openList xs).length ≤ xs.length := by
  unfold openList
  cases hg : W.opened xs with
  | none => simp
  | some p =>
    obtain ⟨x, K⟩ := p
    unfold W.opened at hg
    cases h1 : W.len xs with
    | none => rw [h1] at hg; cases hg
    | some q =>
      obtain ⟨n, k⟩ := q
      rw [h1] at hg
      simp only at hg
      cases h2 : W.get (xs.drop (k + n)) with
      | none => rw [h2] at hg; cases hg
      | some q =>
        obtain ⟨s, j⟩ := q
        rw [h2] at hg
        simp only at hg
        split at hg
        · simp only [Option.some.injEq, Prod.mk.injEq] at hg
          rw [← hg.1]
          simp
          omega
        · cases hg

set_option maxHeartbeats 1000000 in
theorem sums_walk (A : Option Addr) (c : Nat) (l : List Nat) (w : World) (h : Rd w w.heap.size A (bs l)) (hB : Byt l) (hc : l.length ≤ c) (hc2 : c ≤ 9223372036854775807) :
    Calls Try.prog 11 #[.slice A l.length c] w (Holds w) := by
  by_cases hl : 1000 < l.length
  · go_enter Try.func11, Try.ntmps11
    go_wp2_with fail
    refine (alive_any _).mono ?_
    rintro e w1 ⟨rfl, hb1⟩
    go_wp2_with fail
    go_ret
    exact ⟨rfl, hb1⟩
  have C1 : ∀ w', Rd w' w'.heap.size A (bs l) → Calls Try.prog 29 #[.slice A l.length c] w' (fun e w'' => ∃ (A : Option Addr) (c : Nat), e = .returned (.tuple #[.slice A (openList l).length c, .int .i64 (openAt l), .int .i64 (openErr l)]) ∧ Rd w'' w''.heap.size A (bs (openList l)) ∧ Below w'.heap.size w' w'') := fun (w' : World) h' => open_any (A := A) (w := w') (c := c) h' hB (by omega) hc hc2
  have C2 : ∀ w', Rd w' w'.heap.size A (bs l) → Calls Try.prog 30 #[.slice A l.length c] w' (fun e w'' => ∃ (A : Option Addr) (c : Nat), e = .returned (.tuple #[.slice A (openList l).length c, .int .i64 (openAt l), .int .i64 (openErr l)]) ∧ Rd w'' w''.heap.size A (bs (openList l)) ∧ Below w'.heap.size w' w'') := fun (w' : World) h' => ropen_any (A := A) (w := w') (c := c) h' hB (by omega) hc hc2
  have C3 : ∀ w', Rd w' w'.heap.size A (bs l) → Calls Try.prog 33 #[.slice A l.length c] w' (Made w' (W.sealed l)) := fun w' h' => seal_any A c l w' h' hB (by omega)
  have C4 : ∀ w', Rd w' w'.heap.size A (bs l) → Calls Try.prog 34 #[.slice A l.length c] w' (Made w' (W.sealed l)) := fun w' h' => rseal_any A c l w' h' hB (by omega)
  have C5 : ∀ w', Rd w' w'.heap.size A (bs l) → Calls Try.prog 31 #[.slice A l.length c] w' fun e w'' => e = .returned (.int .i64 (W.sum l : Nat)) ∧ w' = w'' := fun w' h' => sum_any A c l w' h' hB (by omega)
  have C6 : ∀ w', Rd w' w'.heap.size A (bs l) → Calls Try.prog 32 #[.slice A l.length c] w' fun e w'' => e = .returned (.int .i64 (W.sum l : Nat)) ∧ w' = w'' := fun w' h' => rsum_any rfl h' hB (by omega)
  have hol : (openList l).length ≤ 1000 := Nat.le_trans openList_le (by omega)
  have hsl := W.sealed_len l (by omega)
  obtain ⟨hs1, hs2⟩ := hsl
  generalize openList l = ol at C1 C2 hol
  generalize openAt l = oa at C1 C2
  generalize openErr l = oe at C1 C2
  generalize W.sealed l = sl at C3 C4 hs1 hs2
  generalize W.sum l = su at C5 C6
  have H1 := Lib.hid C1
  have H2 := Lib.hid C2
  have H3 := Lib.hid C3
  have H4 := Lib.hid C4
  have H5 := Lib.hid C5
  have H6 := Lib.hid C6
  clear C1 C2 C3 C4 C5 C6
  go_enter Try.func11, Try.ntmps11
  go_wp2_with fail
  refine (H1.out _ h).mono ?_
  rintro e w1 ⟨A1, c1, rfl, r1, hb1⟩
  have h1 := h.on hb1
  go_wp2_with fail
  refine (H2.out _ h1).mono ?_
  rintro e w2 ⟨A2, c2, rfl, r2, hb2⟩
  have h2 := h1.on hb2
  have B2 := bel_trans hb1 hb1.size hb2
  go_wp2_with fail
  refine (alive_any _).mono ?_
  rintro e w3 ⟨rfl, hb3⟩
  have h3 := h2.on hb3
  have B3 := bel_trans B2 B2.size hb3
  go_wp2_with fail
  refine (H5.out _ h3).mono ?_
  rintro e w4 ⟨rfl, rfl⟩
  go_wp2_with fail
  refine (H6.out _ h3).mono ?_
  rintro e w4 ⟨rfl, rfl⟩
  go_wp2_with fail
  refine (H3.out _ h3).mono ?_
  rintro e w4 ⟨A4, c4, rfl, ho4, hb4, _, _⟩
  have r4 := Rd.of_own ho4
  have h4 := h3.on hb4
  have B4 := bel_trans B3 B3.size hb4
  clear ho4
  go_wp2_with fail
  refine (H4.out _ h4).mono ?_
  rintro e w5 ⟨A5, c5, rfl, ho5, hb5, _, _⟩
  have r5 := Rd.of_own ho5
  have B5 := bel_trans B4 B4.size hb5
  clear ho5
  go_wp2_with fail
  refine (same_any' true (by simp) rfl rfl (r4.on hb5) r5 (by omega) (by omega)).mono ?_
  rintro e w6 ⟨rfl, kk, rfl⟩
  go_wp2_with fail
  refine (same_any' true (by simp) rfl rfl ((((r1.on hb2).on hb3).on hb4).on hb5 |>.drewN kk) (((r2.on hb3).on hb4).on hb5 |>.drewN kk) (by omega) (by omega)).mono ?_
  rintro e w6 ⟨rfl, k2, rfl⟩
  clear H1 H2 H3 H4 H5 H6
  go_wp2_with fail
  go_ret
  exact ⟨rfl, below_drewN B5 _⟩
end Go.Proofs.Ytplcibcpjichgaa
