/- walks: Picks -/
import Derived.Test.YteindickckcdhaaTrD
import Derived.Deep.Cut
namespace Go.Proofs.Yteindickckcdhaa
open Go.RowKit
set_option linter.unusedSimpArgs false
set_option linter.unusedVariables false
set_option maxRecDepth 100000

abbrev T.Pk := Int × Int × Int
def T.pick (x : T.Ev) : T.Pk := (if x.2.2.1 = 0 then 3 else 1, x.1, 0)
def T.picks (l : List T.Ev) : List T.Pk := l.map T.pick
def pcs (l : List T.Pk) : List Value := l.flatMap fun x => [.int .i64 x.1, .int .i64 x.2.1, .int .i64 x.2.2]
theorem pcs_cons (x : T.Pk) (l : List T.Pk) : pcs (x :: l) = .int .i64 x.1 :: .int .i64 x.2.1 :: .int .i64 x.2.2 :: pcs l := rfl
theorem pcs_append (l m : List T.Pk) : pcs (l ++ m) = pcs l ++ pcs m := by simp [pcs]
theorem pcs_length (l : List T.Pk) : (pcs l).length = l.length * 3 := by
  induction l with
  | nil => rfl
  | cons x l ih => rw [pcs_cons]; simp only [List.length_cons, ih]; omega
theorem pcs_at (l : List T.Pk) (k : Nat) (h : k < l.length) : (pcs l)[k * 3]? = some (.int .i64 l[k].1) ∧ (pcs l)[k * 3 + 1]? = some (.int .i64 l[k].2.1) ∧ (pcs l)[k * 3 + 2]? = some (.int .i64 l[k].2.2) := by
  induction l generalizing k with
  | nil => simp at h
  | cons x l ih =>
    rw [pcs_cons]
    cases k with
    | zero => exact ⟨rfl, rfl, rfl⟩
    | succ k =>
      have := ih k (by simpa using h)
      rw [show (k + 1) * 3 = k * 3 + 1 + 1 + 1 by omega]
      simp only [List.getElem?_cons_succ, List.getElem_cons_succ]
      exact this
theorem pcs_set (l : List T.Pk) (k : Nat) (x : T.Pk) : (((pcs l).set (k * 3) (.int .i64 x.1)).set (k * 3 + 1) (.int .i64 x.2.1)).set (k * 3 + 2) (.int .i64 x.2.2) = pcs (l.set k x) := by
  induction l generalizing k with
  | nil => simp [pcs]
  | cons y l ih =>
    cases k with
    | zero => rfl
    | succ k =>
      rw [pcs_cons, show (k + 1) * 3 = k * 3 + 1 + 1 + 1 by omega]
      simp only [List.set_cons_succ, Nat.add_assoc]
      rw [ih, pcs_cons]
theorem pcs_set0 (l : List T.Pk) (k : Nat) (a : Int) : (pcs l).set (k * 3) (.int .i64 a) = pcs (l.set k (a, (l.getD k (0, 0, 0)).2)) := by
  induction l generalizing k with
  | nil => simp [pcs]
  | cons y l ih =>
    cases k with
    | zero => rfl
    | succ k =>
      rw [pcs_cons, show (k + 1) * 3 = k * 3 + 1 + 1 + 1 by omega]
      simp only [List.set_cons_succ]
      rw [ih, pcs_cons]
      rfl
theorem made_pcs (n : Nat) : (madeCells #[Value.int .i64 0, .int .i64 0, .int .i64 0] (n * 3)).toList = pcs (List.replicate n (0, 0, 0)) := by
  have h0 : ∀ v ∈ pcs (List.replicate n (0, 0, 0)), v = Value.int .i64 0 := by
    intro v hv
    obtain ⟨t, ht, hv⟩ := List.mem_flatMap.1 hv
    rw [(List.mem_replicate.1 ht).2] at hv
    simpa using hv
  have h1 : ∀ v ∈ (madeCells #[Value.int .i64 0, .int .i64 0, .int .i64 0] (n * 3)).toList, v = Value.int .i64 0 := by
    intro v hv
    unfold madeCells at hv
    simp only [Array.toList_map, List.mem_map, Array.mem_toList_iff] at hv
    obtain ⟨i, _, rfl⟩ := hv
    have : i % 3 < 3 := Nat.mod_lt _ (by omega)
    rcases (by omega : i % 3 = 0 ∨ i % 3 = 1 ∨ i % 3 = 2) with h | h | h <;> simp [h]
  have l0 : (pcs (List.replicate n (0, 0, 0))).length = n * 3 := by rw [pcs_length, List.length_replicate]
  have l1 : (madeCells #[Value.int .i64 0, .int .i64 0, .int .i64 0] (n * 3)).toList.length = n * 3 := by unfold madeCells; simp
  rw [List.eq_replicate_of_mem h0, List.eq_replicate_of_mem h1, l0, l1]
theorem set_mid {α : Type} (P : List α) (n k : Nat) (z x : α) (hn : P.length = n) (hk : k < n) (hx : P[k]'(by omega) = x) : (P.take k ++ List.replicate (n - k) z).set k x = P.take (k + 1) ++ List.replicate (n - (k + 1)) z := by
  have e1 : (P.take k).length = k := by rw [List.length_take]; omega
  rw [List.set_append_right _ _ (by omega), e1, Nat.sub_self, show n - k = (n - (k + 1)) + 1 by omega, List.replicate_succ, List.set_cons_zero, List.take_succ_eq_append_getElem (by omega), hx]
  simp
theorem info_pick : (Try.prog.info? 55).map (fun i => (i.zero, i.size, i.bytes)) = some (some (.agg #[.int .i64 0, .int .i64 0, .int .i64 0]), 3, 24) := by kernel_rfl

def Picked (w : World) (P : List T.Pk) (e : Ending) (w' : World) : Prop :=
  ∃ A c, e = .returned (.slice A P.length c) ∧ Rd w' w'.heap.size A (pcs P) ∧ Below w.heap.size w w'

theorem picks_any (l : List T.Ev) (A : Option Addr) (c : Nat) (w : World) (hr : Rd w w.heap.size A (ecs l)) (hl : l.length ≤ 1000000) :
    Calls Try.prog 14 #[.slice A l.length c] w (Picked w (T.picks l)) := by
  obtain ⟨i0, hi, hz0, hz1, hz2⟩ := info_parts info_pick
  go_enter Try.func14, Try.ntmps14
  go_wp2_with (at_make; refine wpList_make_full _ rfl (.tmp 7) (.tmp 7) 31 rfl 0 55 i0 _ 3 Try.underlying31 hi hz0 hz1 .i64 .i64 l.length l.length l.length rfl rfl rfl rfl ?d1 ?d2 ?d3 ?_)
  case d1 => rw [hz2]; omega
  case d2 => simp only [maxLen]; omega
  case d3 => simp
  intro w1 ho1 hg1
  have ho1' : Own w1 55 3 w.heap.size l.length l.length (pcs (List.replicate l.length (0, 0, 0))) := by rw [← made_pcs]; exact ho1
  have hb1 : Below w.heap.size w w1 := (Below.refl _ _).grown hg1 (Nat.le_refl _) (by simp)
  clear ho1 hg1
  generalize hgE : w.heap.size = gP at *
  have HGP := Lib.hid hgE
  clear hgE
  go_wp2_with fail
  go_loopg [11] l.length (fun gk ii wr => ∃ k : Nat, k + gk = l.length ∧ ii = .int .i64 k ∧ Own wr 55 3 gP l.length l.length (pcs ((T.picks l).take k ++ List.replicate (l.length - k) (0, 0, 0))) ∧ Below gP w wr)
  case atStart => exact ⟨0, by omega, rfl, by simpa using ho1', hb1⟩
  case round =>
    obtain ⟨k, hk, rfl, ho, hb⟩ := hrel
    clear ho1' hb1
    have HK := Lib.hid hk
    by_cases hlt : k < l.length
    · clear hk
      have hltI : (k : Int) < (l.length : Int) := by omega
      have hrw := hr.below hb
      obtain ⟨bA, oA, rfl, hbA, f0, f1, f2, f3, f4, f5, f6, f7⟩ := hrw.ev hlt
      have HS := Lib.hid (fun x hx => set_mid (T.picks l) l.length k ((0, 0, 0) : T.Pk) x (by simp [T.picks]) hlt hx)
      have HPK : Hid ((T.picks l)[k]'(by simpa [T.picks] using hlt) = T.pick l[k]) := Lib.hid (by simp [T.picks])
      have HPL : Hid (((T.picks l).take k ++ List.replicate (l.length - k) ((0, 0, 0) : T.Pk)).length = l.length) := Lib.hid (by simp [T.picks]; omega)
      generalize (T.picks l).take k ++ List.replicate (l.length - k) ((0, 0, 0) : T.Pk) = Pk at *
      have hs := hb.size
      have hgl := ho.lt
      have o0 := ho.cell (k * 3) (by omega)
      have o1 := ho.cell (k * 3 + 1) (by omega)
      have o2 := ho.cell (k * 3 + 2) (by omega)
      obtain ⟨t0, t1, t2⟩ := pcs_at Pk k (by rw [HPL.out]; exact hlt)
      rw [t0] at o0
      rw [t1] at o1
      rw [t2] at o2
      have z0 := ho.frozen (k * 3)
      have z1 := ho.frozen (k * 3 + 1)
      have z2 := ho.frozen (k * 3 + 2)
      clear t0 t1 t2 hrw
      generalize l[k] = x at *
      obtain ⟨x0, x1, x2, x3, x4, x5, x6, x7⟩ := x
      simp only at f0 f1 f2 f3 f4 f5 f6 f7
      go_upto_region 6 with (fail)
      have hsz : (((wr.setCell ⟨gP, k * 3, none⟩ (.int .i64 1)).setCell ⟨gP, k * 3 + 1, none⟩ (.int .i64 x0)).setCell ⟨gP, k * 3 + 2, none⟩ (.int .i64 0)).heap.size = wr.heap.size := by simp [World.setCell]
      have ow2 := (((ho.set (k * 3) (.int .i64 1)).set (k * 3 + 1) (.int .i64 x0)).set (k * 3 + 2) (.int .i64 0)).alloc (.cells #[.int .i64 x0, .int .i64 x1, .int .i64 x2, .int .i64 x3, .int .i64 x4, .int .i64 x5, .int .i64 x6, .bool x7] 48)
      have bk2 := Blk.new (((wr.setCell ⟨gP, k * 3, none⟩ (.int .i64 1)).setCell ⟨gP, k * 3 + 1, none⟩ (.int .i64 x0)).setCell ⟨gP, k * 3 + 2, none⟩ (.int .i64 0)) 48 #[.int .i64 x0, .int .i64 x1, .int .i64 x2, .int .i64 x3, .int .i64 x4, .int .i64 x5, .int .i64 x6, .bool x7]
      rw [hsz] at bk2
      have hb2 := (((hb.setCell (p := ⟨gP, k * 3, none⟩) (Nat.le_refl _) (.int .i64 1)).setCell (p := ⟨gP, k * 3 + 1, none⟩) (Nat.le_refl _) (.int .i64 x0)).setCell (p := ⟨gP, k * 3 + 2, none⟩) (Nat.le_refl _) (.int .i64 0)).alloc (by rw [hsz]; omega) (.cells #[.int .i64 x0, .int .i64 x1, .int .i64 x2, .int .i64 x3, .int .i64 x4, .int .i64 x5, .int .i64 x6, .bool x7] 48)
      have e3 := pcs_set Pk k (1, x0, 0)
      simp only at e3
      rw [e3] at ow2
      clear e3 hsz ho hb o0 o1 o2 z0 z1 z2 f0 f1 f2 f3 f4 f5 f6 f7
      generalize (((wr.setCell ⟨gP, k * 3, none⟩ (.int .i64 1)).setCell ⟨gP, k * 3 + 1, none⟩ (.int .i64 x0)).setCell ⟨gP, k * 3 + 2, none⟩ (.int .i64 0)).alloc (.cells #[.int .i64 x0, .int .i64 x1, .int .i64 x2, .int .i64 x3, .int .i64 x4, .int .i64 x5, .int .i64 x6, .bool x7] 48) = w5 at *
      have c5 := bk2.cell 2
      simp only [List.getElem?_toArray, List.getElem?_cons_succ, List.getElem?_cons_zero] at c5
      have hlt5 : k < (Pk.set k (1, x0, 0)).length := by rw [List.length_set, HPL.out]; exact hlt
      by_cases hk0 : x2 = 0
      · have HF := Lib.hid (HS.out (3, x0, 0) (by rw [HPK.out]; unfold T.pick; simp [hk0]))
        rw [hk0] at c5
        have c6 := ow2.cell (k * 3) (by omega)
        rw [(pcs_at _ k hlt5).1] at c6
        have z6 := ow2.frozen (k * 3)
        have ow3 := ow2.set (k * 3) (.int .i64 3)
        have e4 : (Pk.set k (1, x0, 0)).set k (3, ((Pk.set k (1, x0, 0)).getD k (0, 0, 0)).2) = Pk.set k (3, x0, 0) := by
          rw [List.getD_eq_getElem?_getD, List.getElem?_set_self (by rw [HPL.out]; exact hlt)]
          simp
        rw [pcs_set0, e4, HF.out] at ow3
        have hb3 := hb2.setCell (p := ⟨gP, k * 3, none⟩) (Nat.le_refl _) (.int .i64 3)
        clear hk0 e4 ow2 hb2
        go_wp2_with fail
        go_roundg (gk - 1)
        case measure => have := HK.out; omega
        case rel => exact ⟨k + 1, by have := HK.out; omega, by go_num, ow3, hb3⟩
      · have HF := Lib.hid (HS.out (1, x0, 0) (by rw [HPK.out]; unfold T.pick; simp [hk0]))
        rw [HF.out] at ow2
        have q1 : (x2 == 0) = false := by simpa using hk0
        clear hk0
        go_wp2_with fail
        go_roundg (gk - 1)
        case measure => have := HK.out; omega
        case rel => exact ⟨k + 1, by have := HK.out; omega, by go_num, ow2, hb2⟩
    · clear hk
      go_wp2_with fail
      go_ret
      have hPl : (T.picks l).length = l.length := by simp [T.picks]
      have e1 : (T.picks l).take k ++ List.replicate (l.length - k) ((0, 0, 0) : T.Pk) = T.picks l := by
        rw [List.take_of_length_le (by omega), show l.length - k = 0 by omega]; simp
      rw [e1] at ho
      refine ⟨some ⟨gP, 0, none⟩, l.length, by rw [hPl]; rfl, rd_own8 ho, by rw [HGP.out]; exact hb⟩
end Go.Proofs.Yteindickckcdhaa
