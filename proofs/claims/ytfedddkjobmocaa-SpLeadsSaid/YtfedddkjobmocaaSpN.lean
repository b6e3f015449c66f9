/- Leads walked -/
import Derived.Test.YtfedddkjobmocaaSpM
import Derived.Deep.Cut
namespace Go.Proofs.Ytfedddkjobmocaa
open Go.RowKit
set_option linter.unusedSimpArgs false
set_option linter.unusedVariables false
set_option maxRecDepth 100000

theorem info_bool : (Try.prog.info? 4).map (fun i => (i.zero, i.size, i.bytes)) = some (some (.bool false), 1, 1) := by kernel_rfl
def bls (l : List Bool) : List Value := l.map Value.bool
@[simp] theorem bls_length (l : List Bool) : (bls l).length = l.length := by simp [bls]
theorem bls_at (l : List Bool) (k : Nat) (h : k < l.length) : (bls l)[k]? = some (.bool l[k]) := by simp [bls, h]
theorem bls_getD (l : List Bool) (k : Nat) (h : k < l.length) : (bls l)[k]? = some (.bool (l.getD k false)) := by simp [bls, h, List.getD_eq_getElem?_getD]
theorem bls_set (l : List Bool) (k : Nat) (y : Bool) : (bls l).set k (.bool y) = bls (l.set k y) := by simp [bls, List.map_set]
theorem made_bls (n : Nat) : (madeCells #[Value.bool false] n).toList = bls (List.replicate n false) := by
  apply List.ext_getElem?
  intro i
  unfold madeCells bls
  by_cases hi : i < n
  · simp [hi, Array.getElem?_range, Nat.mod_one]
  · simp [hi]
theorem pass_take {l : List S.Five} {k : Nat} (hk : k < l.length) (M : List Bool) : S.pass (l.take (k + 1)) M = S.mark1 (S.pass (l.take k) M) l[k] := by
  unfold S.pass
  rw [List.take_succ_eq_append_getElem hk, List.foldl_append]
  rfl
def InRng (l : List S.Five) (n : Nat) : Prop := ∀ f ∈ l, (0 ≤ f.2.1 ∧ f.2.1 < n) ∧ (0 ≤ f.2.2.1 ∧ f.2.2.1 < n) ∧ (0 ≤ f.2.2.2.1 ∧ f.2.2.2.1 < n) ∧ (0 ≤ f.2.2.2.2 ∧ f.2.2.2.2 < n)

def Led (w : World) (n : Nat) (M : List Bool) (e : Ending) (w' : World) : Prop :=
  Below w.heap.size w w' ∧ ∃ g, e = .returned (.slice (some ⟨g, 0, none⟩) n n) ∧ Own w' 4 1 g n n (bls M)

set_option maxHeartbeats 4000000 in
theorem leads_any (l : List S.Five) (A : Option Addr) (c n a : Nat) (w : World) (hr : Rd w w.heap.size A (fcs l)) (hl : l.length ≤ 40) (hn : n ≤ 1000) (ha : a < n) (hrng : InRng l n) :
    Calls Try.prog 10 #[.slice A l.length c, .int .i64 n, .int .i64 a] w (Led w n (S.leads l n a)) := by
  obtain ⟨i0, hi, hz0, hz1, hz2⟩ := info_parts info_bool
  have haI : (a : Int) < (n : Int) := by omega
  have HRNG := Lib.hid hrng
  clear hrng
  go_enter Try.func10, Try.ntmps10
  go_wp2_with (at_make; refine wpList_make_full _ rfl (.tmp 11) (.tmp 11) 28 rfl 0 4 i0 _ 1 Try.underlying28 hi hz0 hz1 .i64 .i64 n n n rfl rfl rfl rfl ?d1 ?d2 ?d3 ?_)
  case d1 => rw [hz2]; omega
  case d2 => simp only [maxLen]; omega
  case d3 => simp
  intro w1 ho1 hg1
  rw [made_bls] at ho1
  have hb1 : Below w.heap.size w w1 := (Below.refl _ _).grown hg1 (Nat.le_refl _) (by simp)
  have hgP : w.heap.size ≤ w.heap.size := Nat.le_refl _
  clear hg1
  generalize hgE : w.heap.size = gP at ho1 hgP hb1 ⊢
  have HGP := Lib.hid hgE
  rw [hgE] at hr
  clear hgE
  have ho1' : Own w1 4 1 gP n n (bls (List.replicate n false)) := ho1
  clear ho1
  have c1 := ho1'.cell a (by omega)
  rw [bls_at _ a (by simpa using ha)] at c1
  have fz1 := ho1'.frozen a
  have hdec : decide (n ≤ a) = false := by simpa using ha
  go_wp2_with fail
  have ho2 : Own (w1.setCell ⟨gP, a, none⟩ (.bool true)) 4 1 gP n n (bls ((List.replicate n false).set a true)) := by rw [← bls_set]; exact ho1'.set a _
  have hb2 : Below gP w (w1.setCell ⟨gP, a, none⟩ (.bool true)) := hb1.setCell (by simp) _
  clear ho1' c1 fz1 hb1
  generalize w1.setCell ⟨gP, a, none⟩ (.bool true) = w2 at *
  go_loopg [8] n (fun gk ii wr => ∃ k : Nat, k + gk = n ∧ ii = .int .i64 k ∧ Own wr 4 1 gP n n (bls (S.passes l k ((List.replicate n false).set a true))) ∧ Below gP w wr)
  case atStart => exact ⟨0, by omega, rfl, ho2, hb2⟩
  case round =>
    obtain ⟨k, hk, rfl, ho, hb⟩ := hrel
    clear ho2 hb2
    obtain ⟨G0, rfl⟩ : ∃ G0 : Nat, G0 = gk := ⟨_, rfl⟩
    have HK := Lib.hid hk
    by_cases hlt : k < n
    · clear hk
      have hltI : (k : Int) < (n : Int) := by omega
      have HPL := Lib.hid (S.passes_length l k ((List.replicate n false).set a true))
      have HPS : Hid (S.passes l (k + 1) ((List.replicate n false).set a true) = S.pass l (S.passes l k ((List.replicate n false).set a true))) := Lib.hid rfl
      have HML : Hid (((List.replicate n false).set a true).length = n) := Lib.hid (by simp)
      generalize S.passes l k ((List.replicate n false).set a true) = M at *
      go_wp2_with fail
      obtain ⟨wo, rfl⟩ : ∃ wo : World, wo = wr := ⟨_, rfl⟩
      go_loopg [9] l.length (fun gk ii wi => ∃ j : Nat, j + gk = l.length ∧ ii = .int .i64 j ∧ Own wi 4 1 gP n n (bls (S.pass (l.take j) M)) ∧ Below gP w wi)
      case atStart => exact ⟨0, by omega, rfl, ho, hb⟩
      case round =>
        clear ho hb
        obtain ⟨j, hj, rfl, ho, hb⟩ := hrel
        have HJ := Lib.hid hj
        by_cases hltj : j < l.length
        · clear hj
          have hltjI : (j : Int) < (l.length : Int) := by omega
          have hrw := hr.below hb
          obtain ⟨bA, oA, rfl, hbA, f0, f1, f2, f3, f4⟩ := hrw.five hltj
          have hlen : (S.pass (l.take j) M).length = n := by rw [S.pass_length, HPL.out, HML.out]
          have HT := Lib.hid (pass_take hltj M)
          have hrg := HRNG.out l[j] (by simp)
          obtain ⟨xa, ea⟩ : ∃ x : Nat, l[j].2.1 = (x : Int) := ⟨_, (Int.toNat_of_nonneg hrg.1.1).symm⟩
          obtain ⟨xb, eb⟩ : ∃ x : Nat, l[j].2.2.1 = (x : Int) := ⟨_, (Int.toNat_of_nonneg hrg.2.1.1).symm⟩
          obtain ⟨xc, ec⟩ : ∃ x : Nat, l[j].2.2.2.1 = (x : Int) := ⟨_, (Int.toNat_of_nonneg hrg.2.2.1.1).symm⟩
          obtain ⟨xd, ed⟩ : ∃ x : Nat, l[j].2.2.2.2 = (x : Int) := ⟨_, (Int.toNat_of_nonneg hrg.2.2.2.1).symm⟩
          have la : xa < n := by omega
          have lb : xb < n := by omega
          have lc : xc < n := by omega
          have ld : xd < n := by omega
          have HM1 : Hid (S.mark1 (S.pass (l.take j) M) l[j] = if (S.pass (l.take j) M).getD xa false then (if l[j].1 = 1 then ((S.pass (l.take j) M).set xb true).set xc true else (S.pass (l.take j) M).set xd true) else S.pass (l.take j) M) := Lib.hid (by
            unfold S.mark1; rw [ea, eb, ec, ed]; rfl)
          rw [ea] at f1
          rw [eb] at f2
          rw [ec] at f3
          rw [ed] at f4
          clear ea eb ec ed hrg hrw
          have HL2 := Lib.hid hlen
          have hga := ho.lt
          have hbs : gP ≤ wr.heap.size := by omega
          have laI : (xa : Int) < (n : Int) := by omega
          have lbI : (xb : Int) < (n : Int) := by omega
          have lcI : (xc : Int) < (n : Int) := by omega
          have ldI : (xd : Int) < (n : Int) := by omega
          have da : decide (n ≤ xa) = false := by simpa using la
          have db : decide (n ≤ xb) = false := by simpa using lb
          have dc : decide (n ≤ xc) = false := by simpa using lc
          have dd : decide (n ≤ xd) = false := by simpa using ld
          generalize S.pass (l.take j) M = M2 at *
          have ca := ho.cell xa (by omega)
          rw [bls_getD M2 xa (by omega)] at ca
          clear hlen
          generalize M2.getD xa false = ba at *
          cases ba
          · have HT2 : Hid (S.pass (l.take (j + 1)) M = M2) := Lib.hid (by rw [HT.out, HM1.out]; rfl)
            clear HT HM1
            go_wp2_with fail
            go_roundg (gk - 1)
            case measure => have := HJ.out; omega
            case rel => exact ⟨j + 1, by have := HJ.out; omega, by go_num, by rw [HT2.out]; exact ho.alloc _, hb.alloc (by have := hb.size; omega) _⟩
          · by_cases k1 : l[j].1 = 1
            · have HT2 : Hid (S.pass (l.take (j + 1)) M = (M2.set xb true).set xc true) := Lib.hid (by rw [HT.out, HM1.out, if_pos rfl, if_pos k1])
              rw [k1] at f0
              clear HT HM1 k1
              have cb := ho.cell xb (by omega)
              rw [bls_getD M2 xb (by rw [HL2.out]; exact lb)] at cb
              have fb := ho.frozen xb
              go_upto_region 16 with (fail)
              have hsz : (wr.setCell ⟨gP, xb, none⟩ (.bool true)).heap.size = wr.heap.size := by simp [World.setCell]
              have ob2 := (ho.set xb (.bool true)).alloc (.cells #[.int .i64 1, .int .i64 xa, .int .i64 xb, .int .i64 xc, .int .i64 xd] 37)
              have bk2 := Blk.new (wr.setCell ⟨gP, xb, none⟩ (.bool true)) 37 #[.int .i64 1, .int .i64 xa, .int .i64 xb, .int .i64 xc, .int .i64 xd]
              rw [hsz] at bk2
              have hb3 := (hb.setCell (p := ⟨gP, xb, none⟩) (Nat.le_refl _) (.bool true)).alloc (by rw [hsz]; exact hbs) (.cells #[.int .i64 1, .int .i64 xa, .int .i64 xb, .int .i64 xc, .int .i64 xd] 37)
              have hgr : wr.heap.size ≠ gP := by omega
              rw [bls_set] at ob2
              clear hsz cb fb ca ho hb f0 f1 f2 f3 f4
              generalize (wr.setCell ⟨gP, xb, none⟩ (.bool true)).alloc (.cells #[.int .i64 1, .int .i64 xa, .int .i64 xb, .int .i64 xc, .int .i64 xd] 37) = w5 at *
              have c5 := bk2.cell 3
              simp only [List.getElem?_toArray, List.getElem?_cons_succ, List.getElem?_cons_zero] at c5
              have cc := ob2.cell xc (by omega)
              rw [bls_getD (M2.set xb true) xc (by rw [List.length_set, HL2.out]; exact lc)] at cc
              have fc := ob2.frozen xc
              have ob3 := ob2.set xc (.bool true)
              have hb4 := hb3.setCell (p := ⟨gP, xc, none⟩) (Nat.le_refl _) (.bool true)
              rw [bls_set, ← HT2.out] at ob3
              clear ob2 bk2 hb3
              go_wp2_with fail
              go_roundg (gk - 1)
              case measure => have := HJ.out; omega
              case rel => exact ⟨j + 1, by have := HJ.out; omega, by go_num, ob3, hb4⟩
            · have HT2 : Hid (S.pass (l.take (j + 1)) M = M2.set xd true) := Lib.hid (by rw [HT.out, HM1.out, if_pos rfl, if_neg k1])
              have q1 : (l[j].1 == 1) = false := by simpa using k1
              clear HT HM1 k1
              have cb := ho.cell xd (by omega)
              rw [bls_getD M2 xd (by rw [HL2.out]; exact ld)] at cb
              have fb := ho.frozen xd
              have hsz : (wr.setCell ⟨gP, xd, none⟩ (.bool true)).heap.size = wr.heap.size := by simp [World.setCell]
              have ob2 := (ho.set xd (.bool true)).alloc (.cells #[.int .i64 l[j].1, .int .i64 xa, .int .i64 xb, .int .i64 xc, .int .i64 xd] 37)
              rw [bls_set, ← HT2.out] at ob2
              have hb2 := (hb.setCell (p := ⟨gP, xd, none⟩) (Nat.le_refl _) (.bool true)).alloc (by rw [hsz]; exact hbs) (.cells #[.int .i64 l[j].1, .int .i64 xa, .int .i64 xb, .int .i64 xc, .int .i64 xd] 37)
              clear hsz
              go_wp2_with fail
              go_roundg (gk - 1)
              case measure => have := HJ.out; omega
              case rel => exact ⟨j + 1, by have := HJ.out; omega, by go_num, ob2, hb2⟩
        · obtain rfl : gk = 0 := by omega
          have e1 : l.take j = l := List.take_of_length_le (by omega)
          rw [e1, ← HPS.out] at ho
          clear hj e1
          go_wp2_with fail
          go_roundg (G0 - 1)
          case measure => have := HK.out; omega
          case rel => exact ⟨k + 1, by have := HK.out; omega, by go_num, ho, hb⟩
    · obtain rfl : n = k := by omega
      clear hk
      have HPL := Lib.hid (S.passes_length l n ((List.replicate n false).set a true))
      have HML : Hid (((List.replicate n false).set a true).length = n) := Lib.hid (by simp)
      have HLD : Hid (S.leads l n a = (S.passes l n ((List.replicate n false).set a true)).set a false) := Lib.hid rfl
      generalize S.passes l n ((List.replicate n false).set a true) = M at *
      have cb := ho.cell a (by omega)
      rw [bls_getD M a (by rw [HPL.out, HML.out]; exact ha)] at cb
      have fb := ho.frozen a
      have ob := ho.set a (.bool false)
      have hb2 := hb.setCell (p := ⟨gP, a, none⟩) (Nat.le_refl _) (.bool false)
      rw [bls_set, ← HLD.out] at ob
      go_wp2_with fail
      go_ret
      exact ⟨by rw [HGP.out]; exact hb2, gP, rfl, ob⟩
end Go.Proofs.Ytfedddkjobmocaa
