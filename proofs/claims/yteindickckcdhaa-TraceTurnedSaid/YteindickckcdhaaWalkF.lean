/- walks: GetNums of package wire, and the function within it -/
import Derived.Test.YteindickckcdhaaWalkE
import Derived.StillTailTactics
namespace Go.Proofs.Yteindickckcdhaa
open Go.RowKit
set_option linter.unusedSimpArgs false
set_option linter.unusedVariables false
set_option maxRecDepth 100000

theorem next_any (r : Int × Int × Int) (A : Option Addr) (c at_ g1 g2 : Nat) (xs : List Nat) (w : World) (hr : getRes (xs.drop at_) = r) (h : Rd w w.heap.size A (bs xs)) (hB : Byt xs) (hl : xs.length ≤ 1000000) (hc : xs.length ≤ c) (hc2 : c ≤ 9223372036854775807)
    (hat : at_ ≤ xs.length) (h1 : w.cell? ⟨g1, 0, none⟩ = some (.slice A xs.length c)) (h2 : w.cell? ⟨g2, 0, none⟩ = some (.int .i64 at_)) (h3 : w.frozen? ⟨g2, 0, none⟩ = false) (hk0 : 0 ≤ r.2.1) (hk : r.2.1 ≤ 10) (b : Bool) (hb : b = (r.2.2 == 0)) :
    Calls Try.prog 36 #[.pointer (some ⟨g1, 0, none⟩), .pointer (some ⟨g2, 0, none⟩)] w fun e w' => e = .returned (.tuple #[.int .i64 r.1, .bool b]) ∧ w.setCell ⟨g2, 0, none⟩ (.int .i64 (at_ + r.2.1)) = w' := by
  obtain ⟨n, k, e⟩ := r
  have HB := Lib.hid hb
  clear hb
  obtain ⟨i0, hi, hz0, hz1, hz2⟩ := info_parts info_u8
  obtain ⟨Y, hY, hRY⟩ := cut_l (P := Try.prog) Try.underlying24 hi hz1 h xs.length c at_ at_ rfl (by simp) hc (by omega)
  rw [← bs_drop] at hRY
  have HC : Hid (Calls Try.prog 33 #[.slice Y (xs.drop at_).length (c - at_)] w (Got (xs.drop at_) w)) := wget_any Y (c - at_) (xs.drop at_) w hRY (hB.drop _) (by simp; omega)
  rw [List.length_drop] at HC
  have HR := Lib.hid hr
  clear hr hi hz0 hz1 hz2 h hRY
  simp only at hk0 hk
  go_enter Try.func36, Try.ntmps36
  go_wp2_with fail
  refine HC.out.mono ?_
  rintro e' w' ⟨he, rfl⟩
  rw [HR.out] at he
  subst he
  simp only
  go_wp2_with fail
  go_ret2
  exact ⟨by rw [HB.out]; rfl, rfl⟩

theorem next_yes {n : Int} {k : Nat} {A : Option Addr} {c at_ g1 g2 : Nat} {xs : List Nat} {w : World} (hr : W.get (xs.drop at_) = some (n, k)) (h : Rd w w.heap.size A (bs xs)) (hB : Byt xs) (hl : xs.length ≤ 1000000) (hc : xs.length ≤ c) (hc2 : c ≤ 9223372036854775807)
    (hat : at_ ≤ xs.length) (h1 : w.cell? ⟨g1, 0, none⟩ = some (.slice A xs.length c)) (h2 : w.cell? ⟨g2, 0, none⟩ = some (.int .i64 at_)) (h3 : w.frozen? ⟨g2, 0, none⟩ = false) :
    Calls Try.prog 36 #[.pointer (some ⟨g1, 0, none⟩), .pointer (some ⟨g2, 0, none⟩)] w fun e w' => e = .returned (.tuple #[.int .i64 n, .bool true]) ∧ w.setCell ⟨g2, 0, none⟩ (.int .i64 ((at_ + k : Nat) : Int)) = w' := by
  have hk := W.get_le (hB.drop _) hr
  exact next_any (n, k, 0) A c at_ g1 g2 xs w (by unfold getRes; rw [hr]) h hB hl hc hc2 hat h1 h2 h3 (by simp) (by simp; omega) true rfl
theorem next_no {A : Option Addr} {c at_ g1 g2 : Nat} {xs : List Nat} {w : World} (hr : W.get (xs.drop at_) = none) (h : Rd w w.heap.size A (bs xs)) (hB : Byt xs) (hl : xs.length ≤ 1000000) (hc : xs.length ≤ c) (hc2 : c ≤ 9223372036854775807)
    (hat : at_ ≤ xs.length) (h1 : w.cell? ⟨g1, 0, none⟩ = some (.slice A xs.length c)) (h2 : w.cell? ⟨g2, 0, none⟩ = some (.int .i64 at_)) (h3 : w.frozen? ⟨g2, 0, none⟩ = false) :
    Calls Try.prog 36 #[.pointer (some ⟨g1, 0, none⟩), .pointer (some ⟨g2, 0, none⟩)] w fun e w' => e = .returned (.tuple #[.int .i64 0, .bool false]) ∧ w.setCell ⟨g2, 0, none⟩ (.int .i64 ((at_ : Nat) : Int)) = w' := by
  have := next_any (0, 0, 3) A c at_ g1 g2 xs w (by unfold getRes; rw [hr]) h hB hl hc hc2 hat h1 h2 h3 (by simp) (by simp) false rfl
  simpa using this

/-- what GetNums tells -/
def Numbered (w : World) (r : Option (List Int × Nat)) (e : Ending) (w' : World) : Prop :=
  Below w.heap.size w w' ∧ match r with
  | none => e = .returned (.tuple #[.slice none 0 0, .int .i64 0, .int .i64 3])
  | some (ns, K) => ∃ A c, e = .returned (.tuple #[.slice A ns.length c, .int .i64 K, .int .i64 0]) ∧ Rd w' w'.heap.size A (is ns) ∧ ns.length ≤ c

/-- the two boxes of GetNums -/
structure Boxes (w : World) (wr : World) (v : Value) (at_ : Nat) : Prop where
  one : wr.cell? ⟨w.heap.size, 0, none⟩ = some v
  two : wr.cell? ⟨w.heap.size + 1, 0, none⟩ = some (.int .i64 at_)
  fr : wr.frozen? ⟨w.heap.size + 1, 0, none⟩ = false
  below : Below w.heap.size w wr
  size : w.heap.size + 2 ≤ wr.heap.size
theorem Boxes.set {w wr : World} {v : Value} {at_ : Nat} (h : Boxes w wr v at_) (b : Nat) : Boxes w (wr.setCell ⟨w.heap.size + 1, 0, none⟩ (.int .i64 b)) v b := by
  refine ⟨?_, ?_, ?_, h.below.setCell (by simp) _, by simpa [World.setCell] using h.size⟩
  · rw [World.cell?_setCell_other _ _ _ _ (fun e => by injection e; omega)]; exact h.one
  · exact World.cell?_setCell_same _ _ _ h.two
  · simpa using h.fr
theorem Boxes.start (w : World) (v : Value) (t : TypeId) (f : Nat) (t2 : TypeId) : Boxes w ((w.alloc (.cells #[v] t)).alloc (.cells #[.int .i64 f] t2)) v f := by
  refine ⟨?_, ?_, ?_, ((Below.refl _ _).alloc (Nat.le_refl _) _).alloc (by simp) _, by simp⟩
  · rw [World.cell?_alloc_lt _ _ _ (by simp)]; simp [go_sem]
  · have := cell_one_new (w.alloc (.cells #[v] t)) (.int .i64 f) t2 0 _ rfl
    simp only [Addr.add_lit, Nat.zero_add, World.size_alloc] at this
    exact this
  · have e : ((w.alloc (.cells #[v] t)).alloc (.cells #[.int .i64 f] t2)).heap[w.heap.size + 1]? = some (.cells #[.int .i64 f] t2 (0, 0)) := by
      have := heap_alloc_new (w.alloc (.cells #[v] t)) (.cells #[.int .i64 f] t2)
      simpa using this
    unfold World.frozen?
    rw [e]
    simp
theorem Boxes.rd {w wr : World} {v : Value} {at_ : Nat} (h : Boxes w wr v at_) {A : Option Addr} {xs : List Value} (hr : Rd w w.heap.size A xs) : Rd wr wr.heap.size A xs := (hr.below h.below).top
theorem Boxes.grown {w wr w' : World} {v : Value} {at_ : Nat} (h : Boxes w wr v at_) (hg : wr.grownBy w' none) : Boxes w w' v at_ := by
  have h1 : ∀ p : Addr, p.block < wr.heap.size → w'.cell? p = wr.cell? p := fun p hp => World.cell?_of_block (hg.block _ hp (by simp))
  have h2 : ∀ p : Addr, p.block < wr.heap.size → w'.frozen? p = wr.frozen? p := fun p hp => World.frozen?_of_block (hg.block _ hp (by simp))
  have := h.size
  exact ⟨(h1 _ (by simp; omega)).trans h.one, (h1 _ (by simp; omega)).trans h.two, (h2 _ (by simp; omega)).trans h.fr, h.below.grown hg (by omega) (by simp), by have := hg.size; omega⟩
theorem Boxes.far {w wr : World} {v u : Value} {at_ g k : Nat} (h : Boxes w wr v at_) (hg : w.heap.size + 2 ≤ g) : Boxes w (wr.setCell ⟨g, k, none⟩ u) v at_ := by
  refine ⟨?_, ?_, ?_, h.below.setCell (by simp; omega) _, by simpa [World.setCell] using h.size⟩
  · rw [World.cell?_setCell_other _ _ _ _ (fun e => by injection e; omega)]; exact h.one
  · rw [World.cell?_setCell_other _ _ _ _ (fun e => by injection e; omega)]; exact h.two
  · simpa using h.fr
theorem set_at {xs rest : List Value} {u : Value} {k : Nat} (hk : k = xs.length) (hr : rest ≠ []) : (xs ++ rest).set k u = (xs ++ [u]) ++ rest.tail := by
  subst hk
  cases rest with
  | nil => exact absurd rfl hr
  | cons a r => simp

theorem getnums_any (A : Option Addr) (c : Nat) (xs : List Nat) (w : World) (h : Rd w w.heap.size A (bs xs)) (hB : Byt xs) (hl : xs.length ≤ 1000000) (hc : xs.length ≤ c) (hc2 : c ≤ 9223372036854775807) :
    Calls Try.prog 21 #[.slice A xs.length c] w (Numbered w (W.getNums xs)) := by
  have hR0 : Rd (w.alloc (.cells #[.slice A xs.length c] 24)) (w.heap.size + 1) A (bs xs) := h.alloc _
  cases h1 : W.len xs with
  | none =>
    have hN : Hid (W.getNums xs = none) := by unfold W.getNums; rw [h1]; exact rfl
    go_enter Try.func21, Try.ntmps21
    go_wp2_with fail
    refine (length_no h1 (by exact hR0.top) hB (by omega)).mono ?_
    rintro e w' ⟨rfl, rfl⟩
    clear h1
    go_wp2_with fail
    go_ret3
    refine ⟨(Below.refl _ _).alloc (Nat.le_refl _) _, ?_⟩
    rw [hN.out]
    rfl
  | some p =>
    obtain ⟨m, f⟩ := p
    have hN : Hid (W.getNums xs = match W.many m (xs.drop f) with | none => none | some (ns, j) => some (ns, f + j)) := by unfold W.getNums; rw [h1]; exact rfl
    obtain ⟨b1, b2⟩ := W.len_le hB h1
    obtain ⟨i0, hi, hz0, hz1, hz2⟩ := info_parts info_int
    go_enter Try.func21, Try.ntmps21
    go_wp2_with fail
    refine (length_yes h1 (by exact hR0.top) hB (by omega)).mono ?_
    rintro e w' ⟨rfl, rfl⟩
    clear h1
    go_wp2_with fail
    have hbx := Boxes.start w (.slice A xs.length c) 24 f 3
    generalize (w.alloc (.cells #[.slice A xs.length c] 24)).alloc (.cells #[.int .i64 f] 3) = w0 at hbx ⊢
    go_loopw [25] (fun i wr => ∃ (k j : Nat) (ns : List Int), k ≤ m ∧ i = .int .i64 k ∧ Hid (W.many k (xs.drop f) = some (ns, j)) ∧ f + j ≤ xs.length ∧ Boxes w wr (.slice A xs.length c) (f + j)) (fun i _ => m - (intOf i).toNat)
    case atStart => exact ⟨0, 0, [], Nat.zero_le _, rfl, rfl, by omega, hbx⟩
    case round =>
      obtain ⟨k, j, ns, hk, rfl, HM, hj, hb⟩ := hrel
      clear hbx hR0
      by_cases hlt : k < m
      · cases hg : W.get (xs.drop (f + j)) with
        | none =>
          have hF : Hid (W.getNums xs = none) := by
            rw [hN.out, W.many_fail HM.out (by rw [List.drop_drop]; exact hg) hlt]; exact rfl
          go_wp2_with fail
          refine (next_no hg (hb.rd h) hB hl hc hc2 hj hb.one hb.two hb.fr).mono ?_
          rintro e w' ⟨rfl, rfl⟩
          clear hg
          go_wp2_with fail
          go_ret3
          refine ⟨(hb.set _).below, ?_⟩
          rw [hF.out]
          rfl
        | some q =>
          obtain ⟨n, kk⟩ := q
          have hle := W.get_le (hB.drop _) hg
          rw [List.length_drop] at hle
          obtain ⟨e1, e2, _, _, _⟩ := hle
          have HM2 := Lib.hid (W.many_snoc HM.out (by rw [List.drop_drop]; exact hg))
          go_wp2_with fail
          refine (next_yes hg (hb.rd h) hB hl hc hc2 hj hb.one hb.two hb.fr).mono ?_
          rintro e w' ⟨rfl, rfl⟩
          clear hg HM
          go_wp2_with fail
          go_roundw
          case rel => exact ⟨k + 1, j + kk, _, by omega, by go_num, HM2, by omega, by rw [← Nat.add_assoc]; exact hb.set _⟩
          case measure => simp [intOf]; omega
      · obtain rfl : k = m := by omega
        have c2 := hb.two
        have f2 := hb.fr
        have hns := W.many_length HM.out
        have hNS := Lib.hid hns
        clear hns
        go_wp2_with (at_make; refine wpList_make_full _ rfl (.tmp 36) (.tmp 36) 50 rfl (w.heap.size + 2) 3 i0 _ 1 Try.underlying50 hi hz0 hz1 .i64 .i64 k k k rfl rfl rfl rfl ?d1 ?d2 ?d3 ?_)
        case d1 => rw [hz2]; omega
        case d2 => simp only [maxLen]; omega
        case d3 => simpa [World.setCell] using hb.size
        intro w1 ho1 hg1
        have hb1 := (hb.set f).grown hg1
        have hsz1 : wr.heap.size = (wr.setCell ⟨w.heap.size + 1, 0, none⟩ (.int .i64 f)).heap.size := by simp [World.setCell]
        have hgl : w.heap.size + 2 ≤ wr.heap.size := hb.size
        generalize wr.heap.size = gl at ho1 hgl ⊢
        clear hg1 hb c2 f2 hsz1
        go_wp2_with fail
        go_loopw [40] (fun i wr => ∃ (k2 j2 : Nat) (ns2 : List Int) (rest : List Value), k2 ≤ k ∧ i = .int .i64 k2 ∧ Hid (W.many k2 (xs.drop f) = some (ns2, j2)) ∧ f + j2 ≤ xs.length ∧ Boxes w wr (.slice A xs.length c) (f + j2) ∧ wr.ownsRow (w.heap.size + 2) 3 1 (.slice (some ⟨gl, 0, none⟩) k k) k (is ns2 ++ rest)) (fun i _ => k - (intOf i).toNat)
        case atStart => exact ⟨0, 0, [], _, Nat.zero_le _, rfl, rfl, by omega, hb1, ho1⟩
        case round =>
          obtain ⟨k2, j2, ns2, rest, hk2, rfl, HM2, hj2, hb2, ho2⟩ := hrel
          clear hb1 ho1
          have hl2 := W.many_length HM2.out
          have HL2 := Lib.hid hl2
          clear hl2
          by_cases hlt2 : k2 < k
          · cases hg : W.get (xs.drop (f + j2)) with
            | none =>
              exfalso
              have := W.many_fail HM2.out (by rw [List.drop_drop]; exact hg) hlt2
              rw [HM.out] at this
              cases this
            | some q =>
              obtain ⟨n, kk⟩ := q
              have hle := W.get_le (hB.drop _) hg
              rw [List.length_drop] at hle
              obtain ⟨e1, e2, _, _, _⟩ := hle
              have HM3 := Lib.hid (W.many_snoc HM2.out (by rw [List.drop_drop]; exact hg))
              have hrest : rest ≠ [] := by
                intro he
                have h1 := ho2.1
                have h2 := HL2.out
                rw [he] at h1
                simp at h1
                omega
              have c3 := ho2.cellAt k2 (by omega)
              have hcs : ∃ u, (is ns2 ++ rest)[k2]? = some u := by
                have h1 := ho2.1
                have : k2 < (is ns2 ++ rest).length := by omega
                exact ⟨_, List.getElem?_eq_getElem this⟩
              obtain ⟨u, hu⟩ := hcs
              rw [hu] at c3
              have f3 := ho2.frozenAt k2
              have ho3 := ownsRow_setCell_other ho2 (a := ⟨w.heap.size + 1, 0, none⟩) (by simp [Value.ownBlock]; omega) (.int .i64 ((f + j2 + kk : Nat) : Int))
              have ho4 := (ho3.stored k2 (.int .i64 n)).1
              rw [set_at (by rw [is_length]; exact HL2.out.symm) hrest] at ho4
              have hb4 := (hb2.set (f + j2 + kk)).far (g := gl) (k := k2) (u := .int .i64 n) hgl
              have c4 : (wr.setCell ⟨w.heap.size + 1, 0, none⟩ (.int .i64 ((f + j2 + kk : Nat) : Int))).cell? ⟨gl, k2, none⟩ = some u := by
                rw [World.cell?_setCell_other _ _ _ _ (fun e => by injection e; omega)]; exact c3
              have f4 : (wr.setCell ⟨w.heap.size + 1, 0, none⟩ (.int .i64 ((f + j2 + kk : Nat) : Int))).frozen? ⟨gl, k2, none⟩ = false := by simpa using f3
              clear c3 f3 hu hrest
              have HC := Lib.hid (next_yes hg (hb2.rd h) hB hl hc hc2 hj2 hb2.one hb2.two hb2.fr)
              clear hg HM2 ho2 ho3 hb2
              go_wp2_with fail
              refine HC.out.mono ?_
              rintro e w' ⟨rfl, hw⟩
              rw [hw] at c4 f4 ho4 hb4
              clear HC hw
              go_wp2_with fail
              go_roundw
              case rel => exact ⟨k2 + 1, j2 + kk, ns2 ++ [n], rest.tail, by omega, by go_num, HM3, by omega, by rw [← Nat.add_assoc]; exact hb4, by rw [is_append]; exact ho4⟩
              case measure => simp [intOf]; omega
          · obtain rfl : k2 = k := by omega
            have hsame := HM2.out
            rw [HM.out] at hsame
            simp only [Option.some.injEq, Prod.mk.injEq] at hsame
            obtain ⟨rfl, rfl⟩ := hsame
            have hF : Hid (W.getNums xs = some (ns, f + j)) := by rw [hN.out, HM.out]; exact rfl
            have c2 := hb2.two
            have hR := (Rd.of_own ho2).take k2
            rw [List.take_left' (by rw [is_length]; exact HL2.out)] at hR
            clear HM HM2 hN
            go_wp2
            go_quiet (fail)
            go_wp2
            go_ret3
            refine ⟨below_drewN hb2.below _, ?_⟩
            rw [hF.out]
            exact ⟨_, _, by rw [HL2.out]; rfl, hR, by have := HL2.out; omega⟩
end Go.Proofs.Yteindickckcdhaa
