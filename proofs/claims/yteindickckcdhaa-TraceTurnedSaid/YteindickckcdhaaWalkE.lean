/- walks: Open, GetNums of package wire -/
import Derived.Test.YteindickckcdhaaWalkD
namespace Go.Proofs.Yteindickckcdhaa
open Go.RowKit
set_option linter.unusedSimpArgs false
set_option linter.unusedVariables false
set_option maxRecDepth 100000

theorem Byt.drop {l : List Nat} (h : Byt l) (k : Nat) : Byt (l.drop k) := fun x hx => h x (List.mem_of_mem_drop hx)
theorem Byt.take {l : List Nat} (h : Byt l) (k : Nat) : Byt (l.take k) := fun x hx => h x (List.mem_of_mem_take hx)
theorem Byt.append {l m : List Nat} (h : Byt l) (h2 : Byt m) : Byt (l ++ m) := fun x hx => by rcases List.mem_append.1 hx with h1 | h1; exact h x h1; exact h2 x h1

/-- as wget_yes, the length under a name of its own -/
theorem wget_yes' {A : Option Addr} {c m : Nat} {xs : List Nat} {w : World} {n : Int} {k : Nat} (hg : W.get xs = some (n, k)) (hm : m = xs.length) (h : Rd w w.heap.size A (bs xs)) (hB : Byt xs) (hl : xs.length ≤ 9223372036854775807) :
    Calls Try.prog 33 #[.slice A m c] w fun e w' => e = .returned (.tuple #[.int .i64 n, .int .i64 k, .int .i64 0]) ∧ w = w' := by
  subst hm; exact wget_yes hg h hB hl
theorem wget_no' {A : Option Addr} {c m : Nat} {xs : List Nat} {w : World} (hg : W.get xs = none) (hm : m = xs.length) (h : Rd w w.heap.size A (bs xs)) (hB : Byt xs) (hl : xs.length ≤ 9223372036854775807) :
    Calls Try.prog 33 #[.slice A m c] w fun e w' => e = .returned (.tuple #[.int .i64 0, .int .i64 0, .int .i64 3]) ∧ w = w' := by
  subst hm; exact wget_no hg h hB hl
theorem sum_any' {A : Option Addr} {c m : Nat} {xs : List Nat} {w : World} (hm : m = xs.length) (h : Rd w w.heap.size A (bs xs)) (hB : Byt xs) (hl : xs.length ≤ 9223372036854775807) :
    Calls Try.prog 34 #[.slice A m c] w fun e w' => e = .returned (.int .i64 (W.sum xs : Nat)) ∧ w = w' := by
  subst hm; exact sum_any A c xs w h hB hl

/-- a slice, a number, no error -/
def Opened (w : World) (l : List Nat) (k : Nat) (e : Ending) (w' : World) : Prop :=
  ∃ A c, e = .returned (.tuple #[.slice A l.length c, .int .i64 k, .int .i64 0]) ∧ Rd w' w'.heap.size A (bs l) ∧ Below w.heap.size w w'

def Opened2 (w : World) (l : List Nat) (k : Nat) (e : Ending) (w' : World) : Prop :=
  ∃ A c, e = .returned (.tuple #[.slice A l.length c, .int .i64 k, .int .i64 0]) ∧ Rd w' w'.heap.size A (bs l) ∧ Below w.heap.size w w' ∧ l.length ≤ c ∧ c ≤ 9223372036854775807

theorem open_no {A : Option Addr} {c : Nat} {xs : List Nat} {w : World} (hg : W.opened xs = none) (h : Rd w w.heap.size A (bs xs)) (hB : Byt xs) (hl : xs.length ≤ 9223372036854775807) (hc : xs.length ≤ c) (hc2 : c ≤ 9223372036854775807) :
    Calls Try.prog 18 #[.slice A xs.length c] w fun e w' => e = .returned (.tuple #[.slice none 0 0, .int .i64 0, .int .i64 3]) ∧ w = w' := by
  unfold W.opened at hg
  cases h1 : W.len xs with
  | none =>
    clear hg
    go_enter Try.func18, Try.ntmps18
    go_wp2_with fail
    refine (length_no h1 h hB hl).mono ?_
    rintro e w' ⟨rfl, rfl⟩
    clear h1
    go_wp2_with fail
    go_ret3
    exact ⟨rfl, rfl⟩
  | some p =>
    obtain ⟨n, k⟩ := p
    rw [h1] at hg
    simp only at hg
    obtain ⟨b1, b2⟩ := W.len_le hB h1
    obtain ⟨i0, hi, hz0, hz1, hz2⟩ := info_parts info_u8
    obtain ⟨X, hX, hRX⟩ := cut_lh (P := Try.prog) Try.underlying24 hi hz1 h xs.length c k n k ((k : Int) + (n : Int)) rfl (by simp) (by simp) hc (by omega)
    obtain ⟨Y, hY, hRY⟩ := cut_l (P := Try.prog) Try.underlying24 hi hz1 h xs.length c (k + n) ((k : Int) + (n : Int)) (by simp) (by simp) hc (by omega)
    rw [← bs_drop, ← bs_take] at hRX
    rw [← bs_drop] at hRY
    cases h2 : W.get (xs.drop (k + n)) with
    | none =>
      clear hg
      clear hi hz0 hz1 hz2
      go_enter Try.func18, Try.ntmps18
      go_wp2_with fail
      refine (length_yes h1 h hB hl).mono ?_
      rintro e w' ⟨rfl, rfl⟩
      clear h1
      go_wp2_with fail
      refine (wget_no' h2 (by simp) hRY (hB.drop _) (by simp; omega)).mono ?_
      rintro e w' ⟨rfl, rfl⟩
      clear h2
      go_wp2_with fail
      go_ret3
      exact ⟨rfl, rfl⟩
    | some q =>
      obtain ⟨s, j⟩ := q
      rw [h2] at hg
      simp only at hg
      have hne : ¬ s = ((W.sum ((xs.drop k).take n) : Nat) : Int) := by
        intro hs
        rw [if_pos hs] at hg
        cases hg
      have hne2 : (s != ((W.sum ((xs.drop k).take n) : Nat) : Int)) = true := by simpa using hne
      clear hg
      clear hi hz0 hz1 hz2
      go_enter Try.func18, Try.ntmps18
      go_wp2_with fail
      refine (length_yes h1 h hB hl).mono ?_
      rintro e w' ⟨rfl, rfl⟩
      clear h1
      go_wp2_with fail
      refine (wget_yes' h2 (by simp) hRY (hB.drop _) (by simp; omega)).mono ?_
      rintro e w' ⟨rfl, rfl⟩
      clear h2
      go_wp2_with fail
      refine (sum_any' (by simp; omega) hRX ((hB.drop _).take _) (by simp; omega)).mono ?_
      rintro e w' ⟨rfl, rfl⟩
      go_wp2_with fail
      go_ret3
      exact ⟨rfl, rfl⟩

theorem open_yes2 {A : Option Addr} {c : Nat} {xs l : List Nat} {K : Nat} {w : World} (hg : W.opened xs = some (l, K)) (h : Rd w w.heap.size A (bs xs)) (hB : Byt xs) (hl : xs.length ≤ 1000000) (hc : xs.length ≤ c) (hc2 : c ≤ 9223372036854775807) :
    Calls Try.prog 18 #[.slice A xs.length c] w (Opened2 w l K) := by
  unfold W.opened at hg
  cases h1 : W.len xs with
  | none => rw [h1] at hg; cases hg
  | some p =>
    obtain ⟨n, k⟩ := p
    rw [h1] at hg
    simp only at hg
    obtain ⟨b1, b2⟩ := W.len_le hB h1
    obtain ⟨i0, hi, hz0, hz1, hz2⟩ := info_parts info_u8
    obtain ⟨X, hX, hRX⟩ := cut_lh (P := Try.prog) Try.underlying24 hi hz1 h xs.length c k n k ((k : Int) + (n : Int)) rfl (by simp) (by simp) hc (by omega)
    obtain ⟨Y, hY, hRY⟩ := cut_l (P := Try.prog) Try.underlying24 hi hz1 h xs.length c (k + n) ((k : Int) + (n : Int)) (by simp) (by simp) hc (by omega)
    rw [← bs_drop, ← bs_take] at hRX
    rw [← bs_drop] at hRY
    cases h2 : W.get (xs.drop (k + n)) with
    | none => rw [h2] at hg; cases hg
    | some q =>
      obtain ⟨s, j⟩ := q
      rw [h2] at hg
      simp only at hg
      have hj := (W.get_le (hB.drop _) h2)
      obtain ⟨hj1, hj2, hj3, _, _⟩ := hj
      have hs : s = ((W.sum ((xs.drop k).take n) : Nat) : Int) := by
        by_cases hs : s = ((W.sum ((xs.drop k).take n) : Nat) : Int)
        · exact hs
        · rw [if_neg hs] at hg; cases hg
      have hne2 : (s != ((W.sum ((xs.drop k).take n) : Nat) : Int)) = false := by simpa using hs
      rw [if_pos hs] at hg
      simp only [Option.some.injEq, Prod.mk.injEq] at hg
      have hL := Lib.hid hg.1
      have hK := Lib.hid hg.2
      clear hg hs
      have hlen : ((xs.drop k).take n).length = n := by simp; omega
      have HL := Lib.hid hlen
      clear hlen
      go_enter Try.func18, Try.ntmps18
      go_wp2_with fail
      refine (length_yes h1 h hB (by omega)).mono ?_
      rintro e w' ⟨rfl, rfl⟩
      clear h1
      go_wp2_with fail
      refine (wget_yes' h2 (by simp) hRY (hB.drop _) (by simp; omega)).mono ?_
      rintro e w' ⟨rfl, rfl⟩
      clear h2
      go_wp2_with fail
      refine (sum_any' HL.out.symm hRX ((hB.drop _).take _) (by simp; omega)).mono ?_
      rintro e w' ⟨rfl, rfl⟩
      go_wp2_with (at_builtin; refine wpList_app _ rfl (.const (.slice none 0 0)) (.tmp 44) 24 24 rfl w.heap.size 5 i0 _ 1 1 Try.underlying24 hi hz0 hz1 hz2 rfl (by omega) _ 0 [] rfl (World.ownsRow_nil _ _ _ _) (.slice X n (c - k)) n _ rfl (src_rd _ Try.underlying24 (by rw [bs_length]; exact HL.out.symm) hRX (bs_one _)) ?c1 ?c2 ?c3 ?_)
      case c1 => simp only [maxLen]; omega
      case c2 => omega
      case c3 => exact Nat.le_refl _
      intro v2 w2 ho2 hg2 _
      have hb2 : Below w.heap.size w w2 := (Below.refl _ _).grown hg2 (Nat.le_refl _) (by simp [Value.ownBlock])
      clear hg2
      obtain ⟨A2, c2, hv2, hcc1, hcc2⟩ := own_form ho2
      simp only [maxLen] at hcc2
      have HC1 := Lib.hid hcc1
      have HC2 := Lib.hid hcc2
      clear hcc1 hcc2
      rw [hv2] at ho2 ⊢
      have hR2 := Rd.of_own ho2
      clear ho2 hv2
      go_wp2
      go_ret3
      rw [hL.out] at hR2 HL
      rw [← hK.out]
      exact ⟨A2, c2, by rw [HL.out]; simp, hR2, hb2, by rw [HL.out]; have := HC1.out; omega, HC2.out⟩
theorem open_yes {A : Option Addr} {c : Nat} {xs l : List Nat} {K : Nat} {w : World} (hg : W.opened xs = some (l, K)) (h : Rd w w.heap.size A (bs xs)) (hB : Byt xs) (hl : xs.length ≤ 1000000) (hc : xs.length ≤ c) (hc2 : c ≤ 9223372036854775807) :
    Calls Try.prog 18 #[.slice A xs.length c] w (Opened w l K) := by
  refine (open_yes2 hg h hB hl hc hc2).mono ?_
  rintro e w' ⟨A, c, h1, h2, h3, _⟩
  exact ⟨A, c, h1, h2, h3⟩
end Go.Proofs.Yteindickckcdhaa
