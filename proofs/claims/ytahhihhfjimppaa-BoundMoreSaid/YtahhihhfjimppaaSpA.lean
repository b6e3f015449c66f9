/- walks: the chain's put and places -/
import Derived.Test.YtahhihhfjimppaaChecked
import Derived.Test.YtahhihhfjimppaaFr
import Derived.Test.YtahhihhfjimppaaSpDef
import Derived.WalkSpells
import Derived.WalkLawsBesides
import Derived.Deep.LoopGhost
import Derived.Deep.QuietTactic
import Derived.BigQuiet
import Derived.Deep.RegionHeld3
namespace Go.Proofs.Ytahhihhfjimppaa
open Go.RowKit
set_option linter.unusedSimpArgs false
set_option linter.unusedVariables false
set_option maxRecDepth 100000

theorem info_int : (Try.prog.info? 3).map (fun i => (i.zero, i.size, i.bytes)) = some (some (.int .i64 0), 1, 8) := by kernel_rfl
/-- numbers as cells -/
def ns (l : List Nat) : List Value := l.map fun (b : Nat) => Value.int .i64 (b : Int)
@[simp] theorem ns_length (l : List Nat) : (ns l).length = l.length := by simp [ns]
theorem ns_at (l : List Nat) (k : Nat) (h : k < l.length) : (ns l)[k]? = some (.int .i64 ((l[k] : Nat) : Int)) := by simp [ns, h]
theorem ns_set (l : List Nat) (k y : Nat) : (ns l).set k (.int .i64 (y : Int)) = ns (l.set k y) := by simp [ns, List.map_set]
theorem ns_append (l m : List Nat) : ns (l ++ m) = ns l ++ ns m := by simp [ns]

theorem ns_one (l : List Nat) : ∀ u ∈ ns l, u.oneCell' = true := by
  intro u hu; obtain ⟨_, _, rfl⟩ := List.mem_map.1 hu; rfl
/-- a chain in box bx: its row lies in block g -/
structure Ch (w : World) (bx g cap : Nat) (L : List Nat) : Prop where
  box : Blk w bx 71 #[.slice (some ⟨g, 0, none⟩) L.length cap]
  row : Own w 3 1 g L.length cap (ns L)
  ne : bx ≠ g

def Putted (w : World) (bx g : Nat) (L : List Nat) (e : Ending) (w' : World) : Prop :=
  e = .returned (.tuple #[]) ∧ ∃ g' cap', Ch w' bx g' cap' L ∧ Fr (fun k => k = bx ∨ k = g) w w' ∧ (g' = g ∨ w.heap.size ≤ g')

theorem put_any (bx g cap a : Nat) (L bl : List Nat) (A : Option Addr) (c : Nat) (w : World) (hch : Ch w bx g cap L) (hr : Rd w w.heap.size A (ns bl)) (ha : a < L.length) (hL : L.length ≤ 1000) (hbl : ∀ b ∈ bl, b ≤ 1000) (hl : bl.length ≤ 1000) (hAb : ∀ ad, A = some ad → ad.block ≠ bx ∧ ad.block ≠ g) :
    Calls Try.prog 28 #[.pointer (some ⟨bx, 0, none⟩), .int .i64 a, .slice A bl.length c] w (Putted w bx g (S.put L a bl)) := by
  obtain ⟨i0, hi, hz0, hz1, hz2⟩ := info_parts info_int
  go_enter Try.func28, Try.ntmps28
  go_wp2
  go_loopg [1, 10] bl.length (fun gk aa ii wr => ∃ (k a' g' cap' : Nat) (L' : List Nat), k + gk = bl.length ∧ aa = .int .i64 a' ∧ ii = .int .i64 k ∧ Ch wr bx g' cap' L' ∧ Hid (S.put L a bl = S.put L' a' (bl.drop k)) ∧ a' < L'.length ∧ L'.length ≤ 1001 ∧ Fr (fun k => k = bx ∨ k = g) w wr ∧ (g' = g ∨ w.heap.size ≤ g'))
  case atStart => exact ⟨0, a, g, cap, L, by omega, rfl, rfl, hch, rfl, ha, by omega, Fr.refl _ _, .inl rfl⟩
  case round =>
    obtain ⟨k, a', g', cap', L', hk, rfl, rfl, hch', HP, ha', hL', hfr, hg'⟩ := hrel
    clear hch
    obtain ⟨G0, rfl⟩ : ∃ G0 : Nat, G0 = gk := ⟨_, rfl⟩
    have hHK := Lib.hid hk
    by_cases hlt : k < bl.length
    · have hR := hr.fr hfr (fun ad e h => by have := hAb ad e; omega)
      obtain ⟨b1, o1, rfl, hb1, hc1⟩ := hR.at_ (ns_at bl k hlt)
      have hbb := hbl bl[k] (by simp)
      have hP2 : Hid (S.put L a bl = S.put (S.put1 L' a' bl[k]) bl[k] (bl.drop (k + 1))) := by
        rw [HP.out, List.drop_eq_getElem_cons hlt]; exact rfl
      clear HP hk
      generalize bl[k] = b at hc1 hbb hP2
      go_wp2
      go_loopg [] (b + 1) (fun gk wi => ∃ (n g2 cap2 : Nat), Ch wi bx g2 cap2 (L' ++ List.replicate n 0) ∧ L'.length + n ≤ max L'.length (b + 1) ∧ b + 1 ≤ L'.length + n + gk ∧ Fr (fun k => k = bx ∨ k = g) w wi ∧ (g2 = g ∨ w.heap.size ≤ g2))
      case atStart => exact ⟨0, g', cap', by simpa using hch', by omega, by omega, hfr, hg'⟩
      case round =>
        obtain ⟨n, g2, cap2, hch2, hn1, hn2, hfr2, hg2⟩ := hrel
        clear hch' hfr hg' hR hr
        have hlen : (L' ++ List.replicate n 0).length = L'.length + n := by simp
        have hL2 : Hid (L' ++ List.replicate n 0 = L' ++ List.replicate n 0) := Lib.hid rfl
        generalize hE : L' ++ List.replicate n 0 = L2 at hch2 hlen
        have HE := Lib.hid hE
        have HLN := Lib.hid hlen
        have hl2 : L2.length ≤ 1001 := by omega
        have c2 := hch2.box.cell 0
        simp only [List.getElem?_toArray, List.getElem?_cons_zero] at c2
        have hbxlt := hch2.box.lt
        clear hE hlen hL2
        by_cases hle : L2.length ≤ b
        · go_wp2_with (at_builtin; refine wpList_append_own_at _ rfl (.tmp 25) (.tmp 26) 23 rfl 0 3 i0 _ 1 8 Try.underlying23 hi hz0 hz1 hz2 rfl (by omega) _ _ _ rfl (hch2.row.alloc _) ⟨wr.heap.size, 0, none⟩ 1 1 [.int .i64 0] rfl rfl ?c1 ?c2 ?c3 ?c4 ?c5 ?_)
          case c1 => exact cell_one_new _ _ _
          case c2 => exact ns_one [0]
          case c3 => simp only [maxLen]; omega
          case c4 => omega
          case c5 => simp
          intro v3 w3 ho3 hg3 _ hat3
          obtain ⟨g3, cap3, hv3, own3⟩ := own_of ho3 (by omega)
          subst hv3
          have hfr3 : Fr (fun k => k = bx ∨ k = g) w w3 := (hfr2.alloc _).grown hg3 (fun k hk => by simp [Value.ownBlock] at hk; subst hk; rcases hg2 with h | h; exact .inl (.inr h); exact .inr h)
          have hne3 : bx ≠ g3 := by
            have h1 := hch2.ne
            simp [Value.ownBlock] at hat3
            omega
          have hb3 : Blk w3 bx 71 #[.slice (some ⟨g2, 0, none⟩) L2.length cap2] := (hg3.block bx (by simp; omega) (by simp [Value.ownBlock]; exact hch2.ne)).trans (hch2.box.alloc _)
          have c3 := hb3.cell 0
          simp only [List.getElem?_toArray, List.getElem?_cons_zero] at c3
          have f3 := hb3.frozen 0
          have hG3 : g3 = g ∨ w.heap.size ≤ g3 := by
            have h1 := hfr2.size
            simp [Value.ownBlock] at hat3
            omega
          clear hg3 hat3 c2 ho3 hfr2 hg2 hch2
          go_wp2_with fail
          go_roundg (gk - 1)
          case measure => have := HLN.out; omega
          case rel =>
            have hl := HLN.out
            have e1 : L' ++ List.replicate (n + 1) 0 = L2 ++ [0] := by rw [← HE.out, List.replicate_succ', List.append_assoc]
            refine ⟨n + 1, g3, cap3, ?_, by omega, by omega, hfr3.setCell (.inl (.inl rfl)) _, hG3⟩
            rw [e1]
            refine ⟨?_, ?_, hne3⟩
            · have := hb3.set 0 (.slice (some ⟨g3, 0, none⟩) (L2.length + 1) cap3)
              simpa using this
            · have := own3.far (p := ⟨bx, 0, none⟩) hne3 (.slice (some ⟨g3, 0, none⟩) (L2.length + 1) cap3)
              rw [ns_append, List.length_append]
              exact this
        · have haL : a' < L2.length := by have := HLN.out; omega
          have hbL : b < L2.length := by omega
          have haI : (a' : Int) < (L2.length : Int) := by omega
          have hbI : (b : Int) < (L2.length : Int) := by omega
          have ca := hch2.row.cell a' (by omega)
          rw [ns_at L2 a' haL] at ca
          have cb := hch2.row.cell b (by omega)
          rw [ns_at L2 b hbL] at cb
          have fb := hch2.row.frozen b
          have fa := hch2.row.frozen a'
          have q0 : decide ((L2.length : Int) ≤ (b : Int)) = false := by simp; omega
          go_wp2_with fail
          go_region
          have own5 : Own (wr.setCell ⟨g2, b, none⟩ (.int .i64 ((L2[a'] : Nat) : Int))).drew 3 1 g2 L2.length cap2 (ns (L2.set b L2[a'])) := by
            rw [← ns_set]; exact hch2.row.set b _
          have blk5 : Blk (wr.setCell ⟨g2, b, none⟩ (.int .i64 ((L2[a'] : Nat) : Int))).drew bx 71 #[.slice (some ⟨g2, 0, none⟩) L2.length cap2] := hch2.box.far (p := ⟨g2, b, none⟩) hch2.ne _
          have hfr5 : Fr (fun k => k = bx ∨ k = g) w (wr.setCell ⟨g2, b, none⟩ (.int .i64 ((L2[a'] : Nat) : Int))).drew := (hfr2.setCell (p := ⟨g2, b, none⟩) (by rcases hg2 with h | h; exact .inl (.inr h); exact .inr h) _).drew
          have hne := hch2.ne
          clear ca cb fb fa c2 hch2 hfr2
          generalize (wr.setCell ⟨g2, b, none⟩ (.int .i64 ((L2[a'] : Nat) : Int))).drew = w5 at own5 blk5 hfr5 ⊢
          have c5 := blk5.cell 0
          simp only [List.getElem?_toArray, List.getElem?_cons_zero] at c5
          have ca := own5.cell a' (by omega)
          rw [ns_at _ a' (by simpa using haL)] at ca
          have fa := own5.frozen a'
          go_wp2_with fail
          have hext : S.ext L' b = L2 := by
            have h1 := HLN.out
            rw [← HE.out]
            unfold S.ext
            congr 2
            omega
          have hp1 : S.put1 L' a' b = (L2.set b L2[a']).set a' b := by
            unfold S.put1
            rw [hext, List.getD_eq_getElem?_getD, List.getElem?_eq_getElem haL]
            rfl
          go_roundg (G0 - 1)
          case measure => have := hHK.out; omega
          case rel =>
            have h1 := hHK.out
            refine ⟨k + 1, b, g2, cap2, S.put1 L' a' b, by omega, rfl, by go_num, ?_, hP2, ?_, ?_, hfr5.setCell (p := ⟨g2, a', none⟩) (by rcases hg2 with h | h; exact .inl (.inr h); exact .inr h) _, hg2⟩
            · rw [hp1]
              refine ⟨?_, ?_, hne⟩
              · simp only [List.length_set]
                exact blk5.far (p := ⟨g2, a', none⟩) hne _
              · have := own5.set a' (.int .i64 (b : Int))
                rw [ns_set] at this
                simpa using this
            · rw [hp1]; simpa using hbL
            · rw [hp1]; simpa using hl2
    · go_wp2
      go_end0
      have e1 : bl.drop k = [] := List.drop_of_length_le (by omega)
      rw [e1] at HP
      refine ⟨rfl, g', cap', ?_, hfr, hg'⟩
      rw [HP.out]
      exact hch'

theorem made_ns (n : Nat) : (madeCells #[Value.int .i64 0] n).toList = ns (List.replicate n 0) := by
  apply List.ext_getElem?
  intro i
  unfold madeCells ns
  by_cases hi : i < n
  · simp [hi, Array.getElem?_range, Nat.mod_one]
  · simp [hi]

def Placed (w : World) (L : List Nat) (e : Ending) (w' : World) : Prop :=
  ∃ g cap, e = .returned (.slice (some ⟨g, 0, none⟩) L.length cap) ∧ Own w' 3 1 g L.length cap (ns L) ∧ Below w.heap.size w w' ∧ w.heap.size ≤ g

theorem places_any (bx g cap : Nat) (L : List Nat) (w : World) (hch : Ch w bx g cap L) (hL : L.length ≤ 1001) (hlt : ∀ x ∈ L, x < L.length) (hpos : 0 < L.length) :
    Calls Try.prog 31 #[.pointer (some ⟨bx, 0, none⟩)] w (Placed w (S.places L)) := by
  obtain ⟨i0, hi, hz0, hz1, hz2⟩ := info_parts info_int
  have c0 := hch.box.cell 0
  simp only [List.getElem?_toArray, List.getElem?_cons_zero] at c0
  have hbl := hch.box.lt
  have hgl := hch.row.lt
  go_enter Try.func31, Try.ntmps31
  go_wp2_with (at_make; refine wpList_make_full _ rfl (.tmp 10) (.tmp 10) 23 rfl 0 3 i0 _ 1 Try.underlying23 hi hz0 hz1 .i64 .i64 L.length L.length L.length rfl rfl rfl rfl ?d1 ?d2 ?d3 ?_)
  case d1 => rw [hz2]; omega
  case d2 => simp only [maxLen]; omega
  case d3 => simp
  intro w1 ho1 hg1
  rw [made_ns] at ho1
  have hfr1 : Fr (fun _ => False) w w1 := (Fr.refl _ w).grown hg1 (by simp)
  have hch1 : Ch w1 bx g cap L := ⟨hch.box.fr hfr1 (fun h => h), hch.row.fr hfr1 (fun h => h), hch.ne⟩
  have hgp : w.heap.size ≤ w.heap.size := Nat.le_refl _
  clear hg1 c0
  generalize hgP : w.heap.size = gP at ho1 hgp ⊢
  have HGP := Lib.hid hgP
  rw [hgP] at hgl hbl
  clear hgP
  go_wp2_with fail
  go_loopg [4, 14] L.length (fun gk aa kk wr => ∃ (k at_ : Nat) (P : List Nat), k + gk = L.length ∧ aa = .int .i64 at_ ∧ kk = .int .i64 k ∧ at_ < L.length ∧ P.length = L.length ∧ Own wr 3 1 gP L.length L.length (ns P) ∧ Hid (S.placesFrom L gk k at_ P = S.places L) ∧ Ch wr bx g cap L ∧ Fr (fun k => k = gP) w wr)
  case atStart => exact ⟨0, 0, List.replicate L.length 0, by omega, rfl, rfl, hpos, by simp, ho1, rfl, hch1, hfr1.mono (fun _ _ h => h.elim)⟩
  case round =>
    obtain ⟨k, at_, P, hk, rfl, rfl, hat, hP, ho, HP, hc, hfr⟩ := hrel
    have HK := Lib.hid hk
    have HPL := Lib.hid hP
    clear hch hch1 ho1 hfr1
    by_cases hkl : k < L.length
    · obtain ⟨m, rfl⟩ : ∃ m, gk = m + 1 := ⟨gk - 1, by omega⟩
      have hatP : at_ < P.length := by omega
      clear hk hP
      have hatI : (at_ : Int) < (L.length : Int) := by omega
      have ca := ho.cell at_ (by omega)
      rw [ns_at P at_ hatP] at ca
      have fa := ho.frozen at_
      have hne1 : bx ≠ gP := by omega
      have hne2 : g ≠ gP := by omega
      have ho2 : Own (wr.setCell ⟨gP, at_, none⟩ (.int .i64 (k : Int))) 3 1 gP L.length L.length (ns (P.set at_ k)) := by rw [← ns_set]; exact ho.set at_ _
      have hc2 : Ch (wr.setCell ⟨gP, at_, none⟩ (.int .i64 (k : Int))) bx g cap L := ⟨hc.box.far (p := ⟨gP, at_, none⟩) hne1 _, hc.row.far (p := ⟨gP, at_, none⟩) (Ne.symm hne2) _, hc.ne⟩
      have hfr2 := hfr.setCell (p := ⟨gP, at_, none⟩) (.inl rfl) (.int .i64 (k : Int))
      have cb := hc2.box.cell 0
      simp only [List.getElem?_toArray, List.getElem?_cons_zero] at cb
      have cn := hc2.row.cell at_ (by omega)
      rw [ns_at L at_ hat] at cn
      have hnx := hlt L[at_] (by simp)
      have HN : Hid (S.placesFrom L m (k + 1) L[at_] (P.set at_ k) = S.places L) := by
        rw [← HP.out, S.placesFrom, List.getD_eq_getElem?_getD, List.getElem?_eq_getElem hat]; exact rfl
      clear HP hc ho hfr
      go_wp2_with fail
      go_roundg m
      case measure => omega
      case rel => exact ⟨k + 1, L[at_], P.set at_ k, by have := HK.out; omega, rfl, by go_num, hnx, by rw [List.length_set]; exact HPL.out, ho2, HN, hc2, hfr2⟩
    · obtain rfl : gk = 0 := by omega
      clear hk hP
      go_wp2
      go_ret
      have hP2 : P = S.places L := HP.out
      have hlen := S.places_length L
      have hg0 := HGP.out
      refine ⟨gP, L.length, by rw [hlen]; rfl, ?_, hfr.below (Nat.le_refl _) (fun k h => by omega), by omega⟩
      rw [← hP2, HPL.out]
      exact ho
end Go.Proofs.Ytahhihhfjimppaa
