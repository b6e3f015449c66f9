/- walk: BoundMore -/
import Derived.Test.YtahhihhfjimppaaBdM
import Derived.Test.YtahhihhfjimppaaBdO
import Derived.Test.YtahhihhfjimppaaBdP
namespace Go.Proofs.Ytahhihhfjimppaa
open Go.RowKit
set_option linter.unusedSimpArgs false
set_option linter.unusedVariables false
set_option maxRecDepth 100000

theorem info_use : (Try.prog.info? 46).map (fun i => (i.zero, i.size, i.bytes)) = some (some (.agg #[.int .i64 0, .slice none 0 0, .int .i64 0, .int .i64 0, .int .i64 0, .int .i64 0, .int .i64 0, .int .i64 0, .int .i64 0, .bool false]), 10, 96) := by kernel_rfl

theorem src_rdk {P : Program} (w : World) {size : Nat} (hs : 0 < size) {tx e' : TypeId} (hk : P.underlying tx = some (.slice e')) {B : Nat} {A : Option Addr} {n c : Nat} {news : List Value} (hn : news.length = n * size) (h : Rd w B A news) (h1 : ∀ u ∈ news, u.oneCell' = true) :
    Src P size tx (.slice A n c) n news w := by
  rcases A with _ | ad
  · have : news = [] := by
      rcases h with h | ⟨b, off, h, _⟩
      · exact h
      · cases h
    subst this
    obtain rfl : n = 0 := by
      rcases Nat.eq_zero_or_pos n with h0 | hp
      · exact h0
      · have := Nat.mul_pos hp hs
        simp at hn
        omega
    exact Src.ofNil w hk c
  · refine Src.ofSlice w hk ad _ c news hn (fun j u hu => ?_) h1
    rcases h with rfl | ⟨b, off, h, hb, hc⟩
    · simp at hu
    · injection h with h
      subst h
      rw [Addr.add_lit]
      exact hc j u hu
theorem cell_far {w : World} {p q : Addr} (h : p.block ≠ q.block) (v : Value) : (w.setCell q v).cell? p = w.cell? p := World.cell?_of_block (Below.heap_setCell w q v p.block h)
/-- a use's cells in a block of their own -/
theorem rd_blk {w : World} {g : Nat} {t : TypeId} {cs : Array Value} (h : Blk w g t cs) : Rd w w.heap.size (some ⟨g, 0, none⟩) cs.toList := by
  refine .inr ⟨g, 0, rfl, h.lt, fun j u hu => ?_⟩
  rw [Nat.zero_add, h.cell, ← hu, Array.getElem?_toList]
theorem uc_one {z : Int} {a : Option Addr} {n c : Nat} {z1 z2 z3 z4 z5 z6 z7 : Int} {b : Bool} : ∀ u ∈ uc z a n c z1 z2 z3 z4 z5 z6 z7 b, u.oneCell' = true := by
  intro u hu
  simp only [uc, List.mem_cons, List.not_mem_nil, or_false] at hu
  rcases hu with rfl | rfl | rfl | rfl | rfl | rfl | rfl | rfl | rfl | rfl <;> rfl
/-- the row of uses with one more -/
theorem uses_more {w w' : World} {A : Option Addr} {len cap : Nat} {xs : List Value} {zs : List Int} (h : IsUses w A len cap xs zs) {z : Int} {a : Option Addr} {n c : Nat} {z1 z2 z3 z4 z5 z6 z7 : Int} {b : Bool} {A' : Option Addr} (hr : Rd w' w'.heap.size A' (xs ++ uc z a n c z1 z2 z3 z4 z5 z6 z7 b)) : StrsI w' w'.heap.size A' (zs ++ [z]) := by
  rcases hr with h0 | ⟨bb, off, rfl, hb, hc⟩
  · simp [uc] at h0
  · refine .inr ⟨bb, off, rfl, hb, fun i hi => ?_⟩
    rw [List.length_append, List.length_singleton] at hi
    have hz := h.nz
    have hx := h.nx
    refine hc _ _ ?_
    by_cases hi2 : i < zs.length
    · rw [List.getElem?_append_left (by omega), h.at_ i hi2, List.getElem_append_left hi2]
    · obtain rfl : i = zs.length := by omega
      rw [List.getElem?_append_right (by omega), show zs.length * 10 - xs.length = 0 by omega]
      simp [uc]

theorem B.steps_le {s nd : Int} {u : Nat} {t p : Int} (h : ¬ B.bad s nd t p) (hu : u ≤ 1000) : B.steps s nd u t p ≤ 1000000000000000 := by
  rw [B.steps_eq h]
  have hb := B.not_bad.1 h
  have m1 := mul_bd (a := s) (b := s) (A := 8) (B := 8) (by omega) (by omega) (by omega) (by omega)
  have m2 := mul_bd (a := s) (b := 28 * s + 1) (A := 8) (B := 225) (by omega) (by omega) (by omega) (by omega)
  have m3 := mul_bd (a := 72 * s) (b := 64 * (nd + s + 4)) (A := 576) (B := 64768) (by omega) (by omega) (by omega) (by omega)
  have m4 := mul_bd (a := 72 * s * (64 * (nd + s + 4))) (b := (u : Int) + t + s * s + 1) (A := 576 * 64768) (B := 2000) (by omega) (by omega) (by omega) (by omega)
  have m5 := mul_bd (a := s * (28 * s + 1)) (b := 72 * s * (64 * (nd + s + 4)) * ((u : Int) + t + s * s + 1) + 1) (A := 1800) (B := 576 * 64768 * 2000 + 1) (by omega) (by omega) (by omega) (by omega)
  omega

set_option maxHeartbeats 4000000 in
theorem bmore_any (E : El) (xs : List Value) (zs : List Int) (l : List S.Five) (c0 c1 c2 c3 c4 c5 c6 c7 c8 uz u1 u2 u3 u4 u5 u6 u7 : Int) (ua : Option Addr) (un up : Nat) (ub : Bool) (pk : Nat) (w : World) (hE : IsEl w E xs zs l) (hpk : pk ≤ 65535) (hwc0 : (Lit.int .i64 c0).wf = true) (hwc1 : (Lit.int .i64 c1).wf = true) :
    Calls Try.prog 4 #[.agg (#[.int .i64 c0, .int .i64 c1, .int .i64 c2, .int .i64 c3, .int .i64 c4, .int .i64 c5, .int .i64 c6, .int .i64 c7, .int .i64 c8] ++ E.cs ++ #[.int .i64 uz, .slice ua un up, .int .i64 u1, .int .i64 u2, .int .i64 u3, .int .i64 u4, .int .i64 u5, .int .i64 u6, .int .i64 u7, .bool ub, .int .u16 pk])] w (Ret (.bool true) w) := by
  obtain ⟨i1, hi1, hy0, hy1, hy2⟩ := info_parts info_use
  obtain ⟨hU, hS, hnl, ht9⟩ := hE
  have hnu := hU.nz.symm
  obtain ⟨e0, e1, A2, n2, p2, A3, n3, p3, A4, n4, p4, A5, n5, p5, A6, n6, p6, A7, n7, p7, e8, e9, A10, n10, p10⟩ := E
  simp only at hU hS hnu hnl ht9
  subst hnu hnl
  simp only [El.cs]
  simp only [List.append_toArray, List.cons_append, List.nil_append]
  go_enter Try.func4, Try.ntmps4
  go_upto_region 5 with (fail)
  have s1 : (w.alloc (.cells #[.int .i64 c0, .int .i64 c1, .int .i64 c2, .int .i64 c3, .int .i64 c4, .int .i64 c5, .int .i64 c6, .int .i64 c7, .int .i64 c8, .int .i64 e0, .int .i64 e1, .slice A2 n2 p2, .slice A3 n3 p3, .slice A4 n4 p4, .slice A5 n5 p5, .slice A6 zs.length p6, .slice A7 l.length p7, .int .i64 e8, .int .i64 e9, .slice A10 n10 p10, .int .i64 uz, .slice ua un up, .int .i64 u1, .int .i64 u2, .int .i64 u3, .int .i64 u4, .int .i64 u5, .int .i64 u6, .int .i64 u7, .bool ub, .int .u16 pk] 49)).heap.size = w.heap.size + 1 := by simp
  have s2 : ((w.alloc (.cells #[.int .i64 c0, .int .i64 c1, .int .i64 c2, .int .i64 c3, .int .i64 c4, .int .i64 c5, .int .i64 c6, .int .i64 c7, .int .i64 c8, .int .i64 e0, .int .i64 e1, .slice A2 n2 p2, .slice A3 n3 p3, .slice A4 n4 p4, .slice A5 n5 p5, .slice A6 zs.length p6, .slice A7 l.length p7, .int .i64 e8, .int .i64 e9, .slice A10 n10 p10, .int .i64 uz, .slice ua un up, .int .i64 u1, .int .i64 u2, .int .i64 u3, .int .i64 u4, .int .i64 u5, .int .i64 u6, .int .i64 u7, .bool ub, .int .u16 pk] 49)).alloc (.cells #[.int .i64 c0, .int .i64 c1, .int .i64 c2, .int .i64 c3, .int .i64 c4, .int .i64 c5, .int .i64 c6, .int .i64 c7, .int .i64 c8] 42)).heap.size = w.heap.size + 1 + 1 := by simp
  have s3 : (((w.alloc (.cells #[.int .i64 c0, .int .i64 c1, .int .i64 c2, .int .i64 c3, .int .i64 c4, .int .i64 c5, .int .i64 c6, .int .i64 c7, .int .i64 c8, .int .i64 e0, .int .i64 e1, .slice A2 n2 p2, .slice A3 n3 p3, .slice A4 n4 p4, .slice A5 n5 p5, .slice A6 zs.length p6, .slice A7 l.length p7, .int .i64 e8, .int .i64 e9, .slice A10 n10 p10, .int .i64 uz, .slice ua un up, .int .i64 u1, .int .i64 u2, .int .i64 u3, .int .i64 u4, .int .i64 u5, .int .i64 u6, .int .i64 u7, .bool ub, .int .u16 pk] 49)).alloc (.cells #[.int .i64 c0, .int .i64 c1, .int .i64 c2, .int .i64 c3, .int .i64 c4, .int .i64 c5, .int .i64 c6, .int .i64 c7, .int .i64 c8] 42)).alloc (.cells #[.int .i64 e0, .int .i64 e1, .slice A2 n2 p2, .slice A3 n3 p3, .slice A4 n4 p4, .slice A5 n5 p5, .slice A6 zs.length p6, .slice A7 l.length p7, .int .i64 e8, .int .i64 e9, .slice A10 n10 p10] 29)).heap.size = w.heap.size + 1 + 1 + 1 := by simp
  have k1 := ((Blk.new (w.alloc (.cells #[.int .i64 c0, .int .i64 c1, .int .i64 c2, .int .i64 c3, .int .i64 c4, .int .i64 c5, .int .i64 c6, .int .i64 c7, .int .i64 c8, .int .i64 e0, .int .i64 e1, .slice A2 n2 p2, .slice A3 n3 p3, .slice A4 n4 p4, .slice A5 n5 p5, .slice A6 zs.length p6, .slice A7 l.length p7, .int .i64 e8, .int .i64 e9, .slice A10 n10 p10, .int .i64 uz, .slice ua un up, .int .i64 u1, .int .i64 u2, .int .i64 u3, .int .i64 u4, .int .i64 u5, .int .i64 u6, .int .i64 u7, .bool ub, .int .u16 pk] 49)) 42 #[.int .i64 c0, .int .i64 c1, .int .i64 c2, .int .i64 c3, .int .i64 c4, .int .i64 c5, .int .i64 c6, .int .i64 c7, .int .i64 c8]).alloc (.cells #[.int .i64 e0, .int .i64 e1, .slice A2 n2 p2, .slice A3 n3 p3, .slice A4 n4 p4, .slice A5 n5 p5, .slice A6 zs.length p6, .slice A7 l.length p7, .int .i64 e8, .int .i64 e9, .slice A10 n10 p10] 29)).alloc (.cells #[.int .i64 uz, .slice ua un up, .int .i64 u1, .int .i64 u2, .int .i64 u3, .int .i64 u4, .int .i64 u5, .int .i64 u6, .int .i64 u7, .bool ub] 46)
  have k2 := (Blk.new ((w.alloc (.cells #[.int .i64 c0, .int .i64 c1, .int .i64 c2, .int .i64 c3, .int .i64 c4, .int .i64 c5, .int .i64 c6, .int .i64 c7, .int .i64 c8, .int .i64 e0, .int .i64 e1, .slice A2 n2 p2, .slice A3 n3 p3, .slice A4 n4 p4, .slice A5 n5 p5, .slice A6 zs.length p6, .slice A7 l.length p7, .int .i64 e8, .int .i64 e9, .slice A10 n10 p10, .int .i64 uz, .slice ua un up, .int .i64 u1, .int .i64 u2, .int .i64 u3, .int .i64 u4, .int .i64 u5, .int .i64 u6, .int .i64 u7, .bool ub, .int .u16 pk] 49)).alloc (.cells #[.int .i64 c0, .int .i64 c1, .int .i64 c2, .int .i64 c3, .int .i64 c4, .int .i64 c5, .int .i64 c6, .int .i64 c7, .int .i64 c8] 42)) 29 #[.int .i64 e0, .int .i64 e1, .slice A2 n2 p2, .slice A3 n3 p3, .slice A4 n4 p4, .slice A5 n5 p5, .slice A6 zs.length p6, .slice A7 l.length p7, .int .i64 e8, .int .i64 e9, .slice A10 n10 p10]).alloc (.cells #[.int .i64 uz, .slice ua un up, .int .i64 u1, .int .i64 u2, .int .i64 u3, .int .i64 u4, .int .i64 u5, .int .i64 u6, .int .i64 u7, .bool ub] 46)
  have k3 := Blk.new (((w.alloc (.cells #[.int .i64 c0, .int .i64 c1, .int .i64 c2, .int .i64 c3, .int .i64 c4, .int .i64 c5, .int .i64 c6, .int .i64 c7, .int .i64 c8, .int .i64 e0, .int .i64 e1, .slice A2 n2 p2, .slice A3 n3 p3, .slice A4 n4 p4, .slice A5 n5 p5, .slice A6 zs.length p6, .slice A7 l.length p7, .int .i64 e8, .int .i64 e9, .slice A10 n10 p10, .int .i64 uz, .slice ua un up, .int .i64 u1, .int .i64 u2, .int .i64 u3, .int .i64 u4, .int .i64 u5, .int .i64 u6, .int .i64 u7, .bool ub, .int .u16 pk] 49)).alloc (.cells #[.int .i64 c0, .int .i64 c1, .int .i64 c2, .int .i64 c3, .int .i64 c4, .int .i64 c5, .int .i64 c6, .int .i64 c7, .int .i64 c8] 42)).alloc (.cells #[.int .i64 e0, .int .i64 e1, .slice A2 n2 p2, .slice A3 n3 p3, .slice A4 n4 p4, .slice A5 n5 p5, .slice A6 zs.length p6, .slice A7 l.length p7, .int .i64 e8, .int .i64 e9, .slice A10 n10 p10] 29)) 46 #[.int .i64 uz, .slice ua un up, .int .i64 u1, .int .i64 u2, .int .i64 u3, .int .i64 u4, .int .i64 u5, .int .i64 u6, .int .i64 u7, .bool ub]
  rw [s1] at k1
  rw [s2] at k2
  rw [s3] at k3
  have b1 : Below w.heap.size w ((((w.alloc (.cells #[.int .i64 c0, .int .i64 c1, .int .i64 c2, .int .i64 c3, .int .i64 c4, .int .i64 c5, .int .i64 c6, .int .i64 c7, .int .i64 c8, .int .i64 e0, .int .i64 e1, .slice A2 n2 p2, .slice A3 n3 p3, .slice A4 n4 p4, .slice A5 n5 p5, .slice A6 zs.length p6, .slice A7 l.length p7, .int .i64 e8, .int .i64 e9, .slice A10 n10 p10, .int .i64 uz, .slice ua un up, .int .i64 u1, .int .i64 u2, .int .i64 u3, .int .i64 u4, .int .i64 u5, .int .i64 u6, .int .i64 u7, .bool ub, .int .u16 pk] 49)).alloc (.cells #[.int .i64 c0, .int .i64 c1, .int .i64 c2, .int .i64 c3, .int .i64 c4, .int .i64 c5, .int .i64 c6, .int .i64 c7, .int .i64 c8] 42)).alloc (.cells #[.int .i64 e0, .int .i64 e1, .slice A2 n2 p2, .slice A3 n3 p3, .slice A4 n4 p4, .slice A5 n5 p5, .slice A6 zs.length p6, .slice A7 l.length p7, .int .i64 e8, .int .i64 e9, .slice A10 n10 p10] 29)).alloc (.cells #[.int .i64 uz, .slice ua un up, .int .i64 u1, .int .i64 u2, .int .i64 u3, .int .i64 u4, .int .i64 u5, .int .i64 u6, .int .i64 u7, .bool ub] 46)) := (((bel_new w _).alloc (by simp) _).alloc (by simp; omega) _).alloc (by simp; omega) _
  generalize (((w.alloc (.cells #[.int .i64 c0, .int .i64 c1, .int .i64 c2, .int .i64 c3, .int .i64 c4, .int .i64 c5, .int .i64 c6, .int .i64 c7, .int .i64 c8, .int .i64 e0, .int .i64 e1, .slice A2 n2 p2, .slice A3 n3 p3, .slice A4 n4 p4, .slice A5 n5 p5, .slice A6 zs.length p6, .slice A7 l.length p7, .int .i64 e8, .int .i64 e9, .slice A10 n10 p10, .int .i64 uz, .slice ua un up, .int .i64 u1, .int .i64 u2, .int .i64 u3, .int .i64 u4, .int .i64 u5, .int .i64 u6, .int .i64 u7, .bool ub, .int .u16 pk] 49)).alloc (.cells #[.int .i64 c0, .int .i64 c1, .int .i64 c2, .int .i64 c3, .int .i64 c4, .int .i64 c5, .int .i64 c6, .int .i64 c7, .int .i64 c8] 42)).alloc (.cells #[.int .i64 e0, .int .i64 e1, .slice A2 n2 p2, .slice A3 n3 p3, .slice A4 n4 p4, .slice A5 n5 p5, .slice A6 zs.length p6, .slice A7 l.length p7, .int .i64 e8, .int .i64 e9, .slice A10 n10 p10] 29)).alloc (.cells #[.int .i64 uz, .slice ua un up, .int .i64 u1, .int .i64 u2, .int .i64 u3, .int .i64 u4, .int .i64 u5, .int .i64 u6, .int .i64 u7, .bool ub] 46) = w1 at *
  generalize hg : w.heap.size = g at *
  have HG := Lib.hid hg
  clear s1 s2 s3 hg
  go_wp2_with (go_at_call 6; refine (shown_any _).mono ?_)
  rintro e2 w2 ⟨rfl, b2⟩
  have k1' := k1.below b2 k1.lt
  have k2' := k2.below b2 k2.lt
  have k3' := k3.below b2 k3.lt
  have b12 := b1.trans (b2.mono (by have := HG.out; have := b1.size; omega))
  have hU2 : IsUses w2 A6 zs.length p6 xs zs := by
    have h := HG.out
    subst h
    exact ⟨hU.nz, hU.nx, hU.rd.on b12, hU.one, hU.at_, hU.cap⟩
  have hS2 : Rd w2 w2.heap.size A7 (fcs l) := by have h := HG.out; subst h; exact hS.on b12
  clear k1 k2 k3 b1 b2 hU hS
  have HRET : Hid (∀ w', Below w2.heap.size w2 w' → Ret (.bool true) w (.returned (.bool true)) w') := Lib.hid (fun w' hb => ⟨rfl, by have h := HG.out; subst h; exact b12.trans (hb.mono b12.size)⟩)
  have l1 := k1'.lt
  have l2 := k2'.lt
  have l3 := k3'.lt
  have HKB : Hid (∀ w', Below w2.heap.size w2 w' → (w'.cell? ⟨g + 1, 0, none⟩ = some (.int .i64 c0) ∧ w'.cell? ⟨g + 1, 1, none⟩ = some (.int .i64 c1) ∧ w'.cell? ⟨g + 1, 2, none⟩ = some (.int .i64 c2) ∧ w'.cell? ⟨g + 1, 3, none⟩ = some (.int .i64 c3) ∧ w'.cell? ⟨g + 1, 4, none⟩ = some (.int .i64 c4) ∧ w'.cell? ⟨g + 1, 5, none⟩ = some (.int .i64 c5) ∧ w'.cell? ⟨g + 1, 6, none⟩ = some (.int .i64 c6) ∧ w'.cell? ⟨g + 1, 7, none⟩ = some (.int .i64 c7) ∧ w'.cell? ⟨g + 1, 8, none⟩ = some (.int .i64 c8)) ∧ (w'.cell? ⟨g + 1 + 1, 0, none⟩ = some (.int .i64 e0) ∧ w'.cell? ⟨g + 1 + 1, 1, none⟩ = some (.int .i64 e1) ∧ w'.cell? ⟨g + 1 + 1, 2, none⟩ = some (.slice A2 n2 p2) ∧ w'.cell? ⟨g + 1 + 1, 3, none⟩ = some (.slice A3 n3 p3) ∧ w'.cell? ⟨g + 1 + 1, 4, none⟩ = some (.slice A4 n4 p4) ∧ w'.cell? ⟨g + 1 + 1, 5, none⟩ = some (.slice A5 n5 p5) ∧ w'.cell? ⟨g + 1 + 1, 6, none⟩ = some (.slice A6 zs.length p6) ∧ w'.cell? ⟨g + 1 + 1, 7, none⟩ = some (.slice A7 l.length p7) ∧ w'.cell? ⟨g + 1 + 1, 8, none⟩ = some (.int .i64 e8) ∧ w'.cell? ⟨g + 1 + 1, 9, none⟩ = some (.int .i64 e9) ∧ w'.cell? ⟨g + 1 + 1, 10, none⟩ = some (.slice A10 n10 p10)) ∧ (w'.cell? ⟨g + 1 + 1 + 1, 0, none⟩ = some (.int .i64 uz) ∧ w'.cell? ⟨g + 1 + 1 + 1, 1, none⟩ = some (.slice ua un up) ∧ w'.cell? ⟨g + 1 + 1 + 1, 2, none⟩ = some (.int .i64 u1) ∧ w'.cell? ⟨g + 1 + 1 + 1, 3, none⟩ = some (.int .i64 u2) ∧ w'.cell? ⟨g + 1 + 1 + 1, 4, none⟩ = some (.int .i64 u3) ∧ w'.cell? ⟨g + 1 + 1 + 1, 5, none⟩ = some (.int .i64 u4) ∧ w'.cell? ⟨g + 1 + 1 + 1, 6, none⟩ = some (.int .i64 u5) ∧ w'.cell? ⟨g + 1 + 1 + 1, 7, none⟩ = some (.int .i64 u6) ∧ w'.cell? ⟨g + 1 + 1 + 1, 8, none⟩ = some (.int .i64 u7) ∧ w'.cell? ⟨g + 1 + 1 + 1, 9, none⟩ = some (.bool ub))) := Lib.hid (fun w' hb => by
    have z1 := k1'.below hb l1
    have z2 := k2'.below hb l2
    have z3 := k3'.below hb l3
    exact ⟨⟨z1.cell 0, z1.cell 1, z1.cell 2, z1.cell 3, z1.cell 4, z1.cell 5, z1.cell 6, z1.cell 7, z1.cell 8⟩, ⟨z2.cell 0, z2.cell 1, z2.cell 2, z2.cell 3, z2.cell 4, z2.cell 5, z2.cell 6, z2.cell 7, z2.cell 8, z2.cell 9, z2.cell 10⟩, ⟨z3.cell 0, z3.cell 1, z3.cell 2, z3.cell 3, z3.cell 4, z3.cell 5, z3.cell 6, z3.cell 7, z3.cell 8, z3.cell 9⟩⟩)
  clear k1' k2' k3'
  obtain ⟨⟨kc0, kc1, kc2, kc3, kc4, kc5, kc6, kc7, kc8⟩, ⟨d0, d1, d2, d3, d4, d5, d6, d7, d8, d9, d10⟩, ⟨ku0, ku1, ku2, ku3, ku4, ku5, ku6, ku7, ku8, ku9⟩⟩ := HKB.out _ (Below.refl _ _)
  by_cases g1 : 40 < zs.length
  · have q1 : decide ((zs.length : Int) > 40) = true := by simp; omega
    go_wp2_with fail
    go_ret
    exact HRET.out _ (Below.refl _ _)
  · have q1 : decide ((zs.length : Int) > 40) = false := by simp; omega
    by_cases g2 : 40 < l.length
    · have q2 : decide ((l.length : Int) > 40) = true := by simp; omega
      go_wp2_with fail
      go_ret
      exact HRET.out _ (Below.refl _ _)
    · have q2 : decide ((l.length : Int) > 40) = false := by simp; omega
      go_upto_region 9 with (fail)
      have k8 := Blk.new w2 29 #[.int .i64 e0, .int .i64 e1, .slice A2 n2 p2, .slice A3 n3 p3, .slice A4 n4 p4, .slice A5 n5 p5, .slice A6 zs.length p6, .slice A7 l.length p7, .int .i64 e8, .int .i64 e9, .slice A10 n10 p10]
      have b9 := bel_new w2 (.cells #[.int .i64 e0, .int .i64 e1, .slice A2 n2 p2, .slice A3 n3 p3, .slice A4 n4 p4, .slice A5 n5 p5, .slice A6 zs.length p6, .slice A7 l.length p7, .int .i64 e8, .int .i64 e9, .slice A10 n10 p10] 29)
      clear kc0 kc1 kc2 kc3 kc4 kc5 kc6 kc7 kc8 d0 d1 d2 d3 d4 d5 d6 d7 d8 d9 d10 ku0 ku1 ku2 ku3 ku4 ku5 ku6 ku7 ku8 ku9 q1 q2
      generalize w2.alloc (.cells #[.int .i64 e0, .int .i64 e1, .slice A2 n2 p2, .slice A3 n3 p3, .slice A4 n4 p4, .slice A5 n5 p5, .slice A6 zs.length p6, .slice A7 l.length p7, .int .i64 e8, .int .i64 e9, .slice A10 n10 p10] 29) = w9 at *
      generalize hg8 : w2.heap.size = g8 at *
      have hg8N := k8.lt
      have HKC : Hid (∀ w', Below w9.heap.size w9 w' → (w'.cell? ⟨g + 1, 0, none⟩ = some (.int .i64 c0) ∧ w'.cell? ⟨g + 1, 1, none⟩ = some (.int .i64 c1) ∧ w'.cell? ⟨g + 1, 2, none⟩ = some (.int .i64 c2) ∧ w'.cell? ⟨g + 1, 3, none⟩ = some (.int .i64 c3) ∧ w'.cell? ⟨g + 1, 4, none⟩ = some (.int .i64 c4) ∧ w'.cell? ⟨g + 1, 5, none⟩ = some (.int .i64 c5) ∧ w'.cell? ⟨g + 1, 6, none⟩ = some (.int .i64 c6) ∧ w'.cell? ⟨g + 1, 7, none⟩ = some (.int .i64 c7) ∧ w'.cell? ⟨g + 1, 8, none⟩ = some (.int .i64 c8)) ∧ (w'.cell? ⟨g + 1 + 1, 0, none⟩ = some (.int .i64 e0) ∧ w'.cell? ⟨g + 1 + 1, 1, none⟩ = some (.int .i64 e1) ∧ w'.cell? ⟨g + 1 + 1, 2, none⟩ = some (.slice A2 n2 p2) ∧ w'.cell? ⟨g + 1 + 1, 3, none⟩ = some (.slice A3 n3 p3) ∧ w'.cell? ⟨g + 1 + 1, 4, none⟩ = some (.slice A4 n4 p4) ∧ w'.cell? ⟨g + 1 + 1, 5, none⟩ = some (.slice A5 n5 p5) ∧ w'.cell? ⟨g + 1 + 1, 6, none⟩ = some (.slice A6 zs.length p6) ∧ w'.cell? ⟨g + 1 + 1, 7, none⟩ = some (.slice A7 l.length p7) ∧ w'.cell? ⟨g + 1 + 1, 8, none⟩ = some (.int .i64 e8) ∧ w'.cell? ⟨g + 1 + 1, 9, none⟩ = some (.int .i64 e9) ∧ w'.cell? ⟨g + 1 + 1, 10, none⟩ = some (.slice A10 n10 p10)) ∧ (w'.cell? ⟨g + 1 + 1 + 1, 0, none⟩ = some (.int .i64 uz) ∧ w'.cell? ⟨g + 1 + 1 + 1, 1, none⟩ = some (.slice ua un up) ∧ w'.cell? ⟨g + 1 + 1 + 1, 2, none⟩ = some (.int .i64 u1) ∧ w'.cell? ⟨g + 1 + 1 + 1, 3, none⟩ = some (.int .i64 u2) ∧ w'.cell? ⟨g + 1 + 1 + 1, 4, none⟩ = some (.int .i64 u3) ∧ w'.cell? ⟨g + 1 + 1 + 1, 5, none⟩ = some (.int .i64 u4) ∧ w'.cell? ⟨g + 1 + 1 + 1, 6, none⟩ = some (.int .i64 u5) ∧ w'.cell? ⟨g + 1 + 1 + 1, 7, none⟩ = some (.int .i64 u6) ∧ w'.cell? ⟨g + 1 + 1 + 1, 8, none⟩ = some (.int .i64 u7) ∧ w'.cell? ⟨g + 1 + 1 + 1, 9, none⟩ = some (.bool ub))) := Lib.hid (fun w' hb => HKB.out w' (b9.trans (hb.mono (by omega))))
      have hU9 : IsUses w9 A6 zs.length p6 xs zs := by
        subst hg8
        exact ⟨hU2.nz, hU2.nx, hU2.rd.on b9, hU2.one, hU2.at_, hU2.cap⟩
      obtain ⟨⟨kc0, kc1, kc2, kc3, kc4, kc5, kc6, kc7, kc8⟩, ⟨d0, d1, d2, d3, d4, d5, d6, d7, d8, d9, d10⟩, ⟨ku0, ku1, ku2, ku3, ku4, ku5, ku6, ku7, ku8, ku9⟩⟩ := HKC.out _ (Below.refl _ _)
      have hux := hU9.nx
      have hu1 := hU9.one
      go_cut [] (fun wx => ∃ (A8 : Option Addr) (c8' : Nat), Blk wx g8 29 #[.int .i64 e0, .int .i64 e1, .slice A2 n2 p2, .slice A3 n3 p3, .slice A4 n4 p4, .slice A5 n5 p5, .slice A8 (zs.length + 1) c8', .slice A7 l.length p7, .int .i64 e8, .int .i64 e9, .slice A10 n10 p10] ∧ Rd wx wx.heap.size A8 (xs ++ uc uz ua un up u1 u2 u3 u4 u5 u6 u7 ub) ∧ Below g8 w2 wx)
      case first =>
        -- the three orders
        have hoA : ((w9.alloc (.cells #[.int .i64 uz, .slice ua un up, .int .i64 u1, .int .i64 u2, .int .i64 u3, .int .i64 u4, .int .i64 u5, .int .i64 u6, .int .i64 u7, .bool ub] 46)).alloc (.cells #[] 46)).drew.ownsRow w9.heap.size 46 10 (.slice (some ⟨w9.heap.size + 1, 0, none⟩) 0 0) 0 [] := by
          have := World.ownsRow_made (e := 46) (size := 10) (base := w9.heap.size) (w9.alloc (.cells #[.int .i64 uz, .slice ua un up, .int .i64 u1, .int .i64 u2, .int .i64 u3, .int .i64 u4, .int .i64 u5, .int .i64 u6, .int .i64 u7, .bool ub] 46)) #[] 0 (by simp) (by simp) (by simp)
          simpa using this.drew
        have hoC : (w9.alloc (.cells #[] 46)).drew.ownsRow w9.heap.size 46 10 (.slice (some ⟨w9.heap.size, 0, none⟩) 0 0) 0 [] := (World.ownsRow_made w9 #[] 0 (Nat.le_refl _) (by simp) (by simp)).drew
        have hoB : ((w9.alloc (.cells #[] 46)).alloc (.cells #[.int .i64 uz, .slice ua un up, .int .i64 u1, .int .i64 u2, .int .i64 u3, .int .i64 u4, .int .i64 u5, .int .i64 u6, .int .i64 u7, .bool ub] 46)).drew.ownsRow w9.heap.size 46 10 (.slice (some ⟨w9.heap.size, 0, none⟩) 0 0) 0 [] := (hoC.alloc (.cells #[.int .i64 uz, .slice ua un up, .int .i64 u1, .int .i64 u2, .int .i64 u3, .int .i64 u4, .int .i64 u5, .int .i64 u6, .int .i64 u7, .bool ub] 46))
        have hoA' := hoA
        have bA : Below w9.heap.size w9 ((w9.alloc (.cells #[.int .i64 uz, .slice ua un up, .int .i64 u1, .int .i64 u2, .int .i64 u3, .int .i64 u4, .int .i64 u5, .int .i64 u6, .int .i64 u7, .bool ub] 46)).alloc (.cells #[] 46)).drew := ((bel_new w9 _).alloc (by simp) _).drew
        have bC : Below w9.heap.size w9 (w9.alloc (.cells #[] 46)).drew := (bel_new w9 _).drew
        have bB : Below w9.heap.size w9 ((w9.alloc (.cells #[] 46)).alloc (.cells #[.int .i64 uz, .slice ua un up, .int .i64 u1, .int .i64 u2, .int .i64 u3, .int .i64 u4, .int .i64 u5, .int .i64 u6, .int .i64 u7, .bool ub] 46)).drew := ((bel_new w9 _).alloc (by simp) _).drew
        have uA : Blk ((w9.alloc (.cells #[.int .i64 uz, .slice ua un up, .int .i64 u1, .int .i64 u2, .int .i64 u3, .int .i64 u4, .int .i64 u5, .int .i64 u6, .int .i64 u7, .bool ub] 46)).alloc (.cells #[] 46)).drew w9.heap.size 46 #[.int .i64 uz, .slice ua un up, .int .i64 u1, .int .i64 u2, .int .i64 u3, .int .i64 u4, .int .i64 u5, .int .i64 u6, .int .i64 u7, .bool ub] := ((Blk.new w9 46 #[.int .i64 uz, .slice ua un up, .int .i64 u1, .int .i64 u2, .int .i64 u3, .int .i64 u4, .int .i64 u5, .int .i64 u6, .int .i64 u7, .bool ub]).alloc _).drew
        have uB : Blk ((w9.alloc (.cells #[] 46)).alloc (.cells #[.int .i64 uz, .slice ua un up, .int .i64 u1, .int .i64 u2, .int .i64 u3, .int .i64 u4, .int .i64 u5, .int .i64 u6, .int .i64 u7, .bool ub] 46)).drew (w9.heap.size + 1) 46 #[.int .i64 uz, .slice ua un up, .int .i64 u1, .int .i64 u2, .int .i64 u3, .int .i64 u4, .int .i64 u5, .int .i64 u6, .int .i64 u7, .bool ub] := by
          have := (Blk.new (w9.alloc (.cells #[] 46)) 46 #[.int .i64 uz, .slice ua un up, .int .i64 u1, .int .i64 u2, .int .i64 u3, .int .i64 u4, .int .i64 u5, .int .i64 u6, .int .i64 u7, .bool ub]).drew
          simpa using this
        have rA := hU9.rd.on bA
        have rB := hU9.rd.on bB
        have rC := hU9.rd.on bC
        have HKW : Hid (∀ w', Below w9.heap.size w9 w' → w'.cell? ⟨g + 1 + 1, 6, none⟩ = some (.slice A6 zs.length p6) ∧ w'.cell? ⟨g + 1 + 1 + 1, 0, none⟩ = some (.int .i64 uz) ∧ w'.cell? ⟨g + 1 + 1 + 1, 1, none⟩ = some (.slice ua un up) ∧ w'.cell? ⟨g + 1 + 1 + 1, 2, none⟩ = some (.int .i64 u1) ∧ w'.cell? ⟨g + 1 + 1 + 1, 3, none⟩ = some (.int .i64 u2) ∧ w'.cell? ⟨g + 1 + 1 + 1, 4, none⟩ = some (.int .i64 u3) ∧ w'.cell? ⟨g + 1 + 1 + 1, 5, none⟩ = some (.int .i64 u4) ∧ w'.cell? ⟨g + 1 + 1 + 1, 6, none⟩ = some (.int .i64 u5) ∧ w'.cell? ⟨g + 1 + 1 + 1, 7, none⟩ = some (.int .i64 u6) ∧ w'.cell? ⟨g + 1 + 1 + 1, 8, none⟩ = some (.int .i64 u7) ∧ w'.cell? ⟨g + 1 + 1 + 1, 9, none⟩ = some (.bool ub)) := Lib.hid (fun w' hb => by
          obtain ⟨_, ⟨d0, d1, d2, d3, d4, d5, d6, d7, d8, d9, d10⟩, hu⟩ := HKC.out w' hb
          exact ⟨d6, hu⟩)
        have hgA : g + 1 + 1 ≠ g8 := by have := hg8; omega
        have hgB : g + 1 + 1 + 1 ≠ g8 := by have := hg8; omega
        have HKST : Hid (∀ w0 v, Below w9.heap.size w9 w0 → ∀ w', w' = w0.setCell ⟨g8, 6, none⟩ v → w'.cell? ⟨g + 1 + 1, 6, none⟩ = some (.slice A6 zs.length p6) ∧ w'.cell? ⟨g + 1 + 1 + 1, 0, none⟩ = some (.int .i64 uz) ∧ w'.cell? ⟨g + 1 + 1 + 1, 1, none⟩ = some (.slice ua un up) ∧ w'.cell? ⟨g + 1 + 1 + 1, 2, none⟩ = some (.int .i64 u1) ∧ w'.cell? ⟨g + 1 + 1 + 1, 3, none⟩ = some (.int .i64 u2) ∧ w'.cell? ⟨g + 1 + 1 + 1, 4, none⟩ = some (.int .i64 u3) ∧ w'.cell? ⟨g + 1 + 1 + 1, 5, none⟩ = some (.int .i64 u4) ∧ w'.cell? ⟨g + 1 + 1 + 1, 6, none⟩ = some (.int .i64 u5) ∧ w'.cell? ⟨g + 1 + 1 + 1, 7, none⟩ = some (.int .i64 u6) ∧ w'.cell? ⟨g + 1 + 1 + 1, 8, none⟩ = some (.int .i64 u7) ∧ w'.cell? ⟨g + 1 + 1 + 1, 9, none⟩ = some (.bool ub)) := Lib.hid (fun w0 v hb w' hw => by
          subst hw
          obtain ⟨y0, yy0, yy1, yy2, yy3, yy4, yy5, yy6, yy7, yy8, yy9⟩ := HKW.out w0 hb
          exact ⟨(cell_far hgA v).trans y0, (cell_far hgB v).trans yy0, (cell_far hgB v).trans yy1, (cell_far hgB v).trans yy2, (cell_far hgB v).trans yy3, (cell_far hgB v).trans yy4, (cell_far hgB v).trans yy5, (cell_far hgB v).trans yy6, (cell_far hgB v).trans yy7, (cell_far hgB v).trans yy8, (cell_far hgB v).trans yy9⟩)
        have HK8 : Hid (∀ w', Below w9.heap.size w9 w' → w'.cell? ⟨g8, 6, none⟩ = some (.slice A6 zs.length p6) ∧ w'.frozen? ⟨g8, 6, none⟩ = false) := Lib.hid (fun w' hb => ⟨(k8.below hb hg8N).cell 6, (k8.below hb hg8N).frozen 6⟩)
        have huc : ∀ u ∈ (uc uz ua un up u1 u2 u3 u4 u5 u6 u7 ub), u.oneCell' = true := uc_one
        clear kc0 kc1 kc2 kc3 kc4 kc5 kc6 kc7 kc8 d0 d1 d2 d3 d4 d5 d7 d8 d9 d10
        go_region_held3 (fun w' => w'.cell? ⟨g + 1 + 1, 6, none⟩ = some (.slice A6 zs.length p6) ∧ w'.cell? ⟨g + 1 + 1 + 1, 0, none⟩ = some (.int .i64 uz) ∧ w'.cell? ⟨g + 1 + 1 + 1, 1, none⟩ = some (.slice ua un up) ∧ w'.cell? ⟨g + 1 + 1 + 1, 2, none⟩ = some (.int .i64 u1) ∧ w'.cell? ⟨g + 1 + 1 + 1, 3, none⟩ = some (.int .i64 u2) ∧ w'.cell? ⟨g + 1 + 1 + 1, 4, none⟩ = some (.int .i64 u3) ∧ w'.cell? ⟨g + 1 + 1 + 1, 5, none⟩ = some (.int .i64 u4) ∧ w'.cell? ⟨g + 1 + 1 + 1, 6, none⟩ = some (.int .i64 u5) ∧ w'.cell? ⟨g + 1 + 1 + 1, 7, none⟩ = some (.int .i64 u6) ∧ w'.cell? ⟨g + 1 + 1 + 1, 8, none⟩ = some (.int .i64 u7) ∧ w'.cell? ⟨g + 1 + 1 + 1, 9, none⟩ = some (.bool ub))
          (first | exact HKST.out _ _ hb2' _ rfl | exact HKW.out _ hb2' | exact HKW.out _ hb1 | exact HKW.out _ bA | exact HKW.out _ bB | exact HKW.out _ bC | go_keep)
          (first
            | (refine step_app _ (by rfl) (.tmp 41) (.tmp 43) 25 25 (by rfl) w9.heap.size 46 i1 _ 10 96 Try.underlying25 hi1 hy0 hy1 hy2 rfl (by omega) v1 (0 + zs.length) ([] ++ xs) (by rfl) ho1 (.slice (some ⟨w9.heap.size, 0, none⟩) 1 1) 1 (uc uz ua un up u1 u2 u3 u4 u5 u6 u7 ub) (by rfl) (src_rdk _ (by omega) Try.underlying25 rfl uR1 huc) (by simp only [maxLen]; omega) (by omega) hb1.size ?_
               intro v2 w2' ho2 hg2 hat2
               have hb2' : Below w9.heap.size w9 w2' := hb1.grown hg2 hb1.size (fun k hk => (ho1.lt k hk).1)
               obtain ⟨c86, f86⟩ := HK8.out _ hb2'
               obtain ⟨A8, c8', hv8⟩ := own_formk ho2
               subst hv8)
            | (refine step_app _ (by rfl) (.tmp 41) (.tmp 43) 25 25 (by rfl) w9.heap.size 46 i1 _ 10 96 Try.underlying25 hi1 hy0 hy1 hy2 rfl (by omega) v1 (0 + zs.length) ([] ++ xs) (by rfl) ho1 (.slice (some ⟨w9.heap.size + 1, 0, none⟩) 1 1) 1 (uc uz ua un up u1 u2 u3 u4 u5 u6 u7 ub) (by rfl) (src_rdk _ (by omega) Try.underlying25 rfl uR1 huc) (by simp only [maxLen]; omega) (by omega) hb1.size ?_
               intro v2 w2' ho2 hg2 hat2
               have hb2' : Below w9.heap.size w9 w2' := hb1.grown hg2 hb1.size (fun k hk => (ho1.lt k hk).1)
               obtain ⟨c86, f86⟩ := HK8.out _ hb2'
               obtain ⟨A8, c8', hv8⟩ := own_formk ho2
               subst hv8)
            | (refine step_app _ (by rfl) (.tmp 41) (.tmp 43) 25 25 (by rfl) w9.heap.size 46 i1 _ 10 96 Try.underlying25 hi1 hy0 hy1 hy2 rfl (by omega) v1 (0 + zs.length) ([] ++ xs) (by rfl) (ho1.alloc _) (.slice (some ⟨w1.heap.size, 0, none⟩) 1 1) 1 (uc uz ua un up u1 u2 u3 u4 u5 u6 u7 ub) (by rfl) (src_rdk _ (by omega) Try.underlying25 rfl (rd_blk (Blk.new w1 46 #[.int .i64 uz, .slice ua un up, .int .i64 u1, .int .i64 u2, .int .i64 u3, .int .i64 u4, .int .i64 u5, .int .i64 u6, .int .i64 u7, .bool ub])) huc) (by simp only [maxLen]; omega) (by omega) (by have := hb1.size; simp; omega) ?_
               intro v2 w2' ho2 hg2 hat2
               have hb2' : Below w9.heap.size w9 w2' := (hb1.alloc hb1.size _).grown hg2 (by have := hb1.size; simp; omega) (fun k hk => (ho1.lt k hk).1)
               obtain ⟨c86, f86⟩ := HK8.out _ hb2'
               obtain ⟨A8, c8', hv8⟩ := own_formk ho2
               subst hv8)
            | (refine step_app _ (by rfl) (.tmp 38) (.tmp 40) 25 25 (by rfl) w9.heap.size 46 i1 _ 10 96 Try.underlying25 hi1 hy0 hy1 hy2 rfl (by omega) (.slice (some ⟨w9.heap.size + 1, 0, none⟩) 0 0) 0 [] (by rfl) hoA (.slice A6 zs.length p6) zs.length xs (by rfl) (src_rdk _ (by omega) Try.underlying25 hux rA hu1) (by simp only [maxLen]; omega) (by omega) bA.size ?_
               intro v1 w1 ho1 hg1 hat1
               have hb1 : Below w9.heap.size w9 w1 := bA.grown hg1 bA.size (fun k hk => (hoA.lt k hk).1)
               have uR1 : Rd w1 w1.heap.size (some ⟨w9.heap.size, 0, none⟩) (uc uz ua un up u1 u2 u3 u4 u5 u6 u7 ub) := rd_blk (show Blk w1 w9.heap.size 46 #[.int .i64 uz, .slice ua un up, .int .i64 u1, .int .i64 u2, .int .i64 u3, .int .i64 u4, .int .i64 u5, .int .i64 u6, .int .i64 u7, .bool ub] from (hg1.block w9.heap.size uA.lt (by simp [Value.ownBlock])).trans uA)
               have HUA : Hid True := Lib.hid trivial)
            | (refine step_app _ (by rfl) (.tmp 38) (.tmp 40) 25 25 (by rfl) w9.heap.size 46 i1 _ 10 96 Try.underlying25 hi1 hy0 hy1 hy2 rfl (by omega) (.slice (some ⟨w9.heap.size, 0, none⟩) 0 0) 0 [] (by rfl) hoB (.slice A6 zs.length p6) zs.length xs (by rfl) (src_rdk _ (by omega) Try.underlying25 hux rB hu1) (by simp only [maxLen]; omega) (by omega) bB.size ?_
               intro v1 w1 ho1 hg1 hat1
               have hb1 : Below w9.heap.size w9 w1 := bB.grown hg1 bB.size (fun k hk => (hoB.lt k hk).1)
               have uR1 : Rd w1 w1.heap.size (some ⟨w9.heap.size + 1, 0, none⟩) (uc uz ua un up u1 u2 u3 u4 u5 u6 u7 ub) := rd_blk (show Blk w1 (w9.heap.size + 1) 46 #[.int .i64 uz, .slice ua un up, .int .i64 u1, .int .i64 u2, .int .i64 u3, .int .i64 u4, .int .i64 u5, .int .i64 u6, .int .i64 u7, .bool ub] from (hg1.block (w9.heap.size + 1) uB.lt (by simp [Value.ownBlock])).trans uB)
               have HUB : Hid True := Lib.hid trivial)
            | (refine step_app _ (by rfl) (.tmp 38) (.tmp 40) 25 25 (by rfl) w9.heap.size 46 i1 _ 10 96 Try.underlying25 hi1 hy0 hy1 hy2 rfl (by omega) (.slice (some ⟨w9.heap.size, 0, none⟩) 0 0) 0 [] (by rfl) hoC (.slice A6 zs.length p6) zs.length xs (by rfl) (src_rdk _ (by omega) Try.underlying25 hux rC hu1) (by simp only [maxLen]; omega) (by omega) bC.size ?_
               intro v1 w1 ho1 hg1 hat1
               have hb1 : Below w9.heap.size w9 w1 := bC.grown hg1 bC.size (fun k hk => (hoC.lt k hk).1)))
        all_goals
          go_wp2_with fail
          go_meet
          have hb2 := hb2'
          have q8 := (k8.below hb2 hg8N).set 6 (.slice A8 (zs.length + 1) c8')
          have ho3 : w2'.ownsRow w9.heap.size 46 10 (.slice A8 (zs.length + 1) c8') (zs.length + 1) (xs ++ uc uz ua un up u1 u2 u3 u4 u5 u6 u7 ub) := by simpa using ho2
          have r8 := Rd.of_ownk ho3
          have hbl : ∀ ad, A8 = some ad → w9.heap.size ≤ ad.block := fun ad had => by
            subst had
            rcases ho3.2 with ⟨hv, _⟩ | ⟨gg, cap, cur, hv, hge, _⟩
            · cases hv
            · injection hv with hv
              injection hv with hv
              subst hv
              exact hge
          refine ⟨A8, c8', by simpa using q8, r8.fr ((Fr.refl (fun k => k = g8) w2').setCell (.inl rfl) _) (fun ad had => by have := hbl ad had; omega), ?_⟩
          exact (b9.trans (hb2.mono (by omega))).setCell (by exact Nat.le_refl _) _
      case rest =>
        obtain ⟨A8, c8', k8c, r8, bwc⟩ := hcut
        have hUM := uses_more hU9 r8
        have b2c : Below w2.heap.size w2 wc := by rw [hg8]; exact bwc
        have hUc := hU2.strs.on b2c
        have hSc := hS2.on b2c
        clear kc0 kc1 kc2 kc3 kc4 kc5 kc6 kc7 kc8 d0 d1 d2 d3 d4 d5 d6 d7 d8 d9 d10 ku0 ku1 ku2 ku3 ku4 ku5 ku6 ku7 ku8 ku9
        have l8 := k8c.lt
        have HKD : Hid (∀ w', Below wc.heap.size wc w' → (w'.cell? ⟨g + 1, 0, none⟩ = some (.int .i64 c0) ∧ w'.cell? ⟨g + 1, 1, none⟩ = some (.int .i64 c1) ∧ w'.cell? ⟨g + 1, 2, none⟩ = some (.int .i64 c2) ∧ w'.cell? ⟨g + 1, 3, none⟩ = some (.int .i64 c3) ∧ w'.cell? ⟨g + 1, 4, none⟩ = some (.int .i64 c4) ∧ w'.cell? ⟨g + 1, 5, none⟩ = some (.int .i64 c5) ∧ w'.cell? ⟨g + 1, 6, none⟩ = some (.int .i64 c6) ∧ w'.cell? ⟨g + 1, 7, none⟩ = some (.int .i64 c7) ∧ w'.cell? ⟨g + 1, 8, none⟩ = some (.int .i64 c8)) ∧ (w'.cell? ⟨g + 1 + 1, 0, none⟩ = some (.int .i64 e0) ∧ w'.cell? ⟨g + 1 + 1, 1, none⟩ = some (.int .i64 e1) ∧ w'.cell? ⟨g + 1 + 1, 2, none⟩ = some (.slice A2 n2 p2) ∧ w'.cell? ⟨g + 1 + 1, 3, none⟩ = some (.slice A3 n3 p3) ∧ w'.cell? ⟨g + 1 + 1, 4, none⟩ = some (.slice A4 n4 p4) ∧ w'.cell? ⟨g + 1 + 1, 5, none⟩ = some (.slice A5 n5 p5) ∧ w'.cell? ⟨g + 1 + 1, 6, none⟩ = some (.slice A6 zs.length p6) ∧ w'.cell? ⟨g + 1 + 1, 7, none⟩ = some (.slice A7 l.length p7) ∧ w'.cell? ⟨g + 1 + 1, 8, none⟩ = some (.int .i64 e8) ∧ w'.cell? ⟨g + 1 + 1, 9, none⟩ = some (.int .i64 e9) ∧ w'.cell? ⟨g + 1 + 1, 10, none⟩ = some (.slice A10 n10 p10)) ∧ (w'.cell? ⟨g8, 0, none⟩ = some (.int .i64 e0) ∧ w'.cell? ⟨g8, 1, none⟩ = some (.int .i64 e1) ∧ w'.cell? ⟨g8, 2, none⟩ = some (.slice A2 n2 p2) ∧ w'.cell? ⟨g8, 3, none⟩ = some (.slice A3 n3 p3) ∧ w'.cell? ⟨g8, 4, none⟩ = some (.slice A4 n4 p4) ∧ w'.cell? ⟨g8, 5, none⟩ = some (.slice A5 n5 p5) ∧ w'.cell? ⟨g8, 6, none⟩ = some (.slice A8 (zs.length + 1) c8') ∧ w'.cell? ⟨g8, 7, none⟩ = some (.slice A7 l.length p7) ∧ w'.cell? ⟨g8, 8, none⟩ = some (.int .i64 e8) ∧ w'.cell? ⟨g8, 9, none⟩ = some (.int .i64 e9) ∧ w'.cell? ⟨g8, 10, none⟩ = some (.slice A10 n10 p10))) := Lib.hid (fun w' hb => by
          have h1 := HKB.out w' (bwc.trans (hb.mono (by have := bwc.size; omega)))
          have z8 := k8c.below hb l8
          exact ⟨h1.1, h1.2.1, ⟨z8.cell 0, z8.cell 1, z8.cell 2, z8.cell 3, z8.cell 4, z8.cell 5, z8.cell 6, z8.cell 7, z8.cell 8, z8.cell 9, z8.cell 10⟩⟩)
        have HRETD : Hid (∀ w', Below wc.heap.size wc w' → Ret (.bool true) w (.returned (.bool true)) w') := Lib.hid (fun w' hb => HRET.out w' (bwc.trans (hb.mono (by have := bwc.size; omega))))
        have hnm : ∀ w', StrsI w' w'.heap.size A8 (zs ++ [uz]) → Rd w' w'.heap.size A7 (fcs l) → Calls Try.prog 7 #[.agg #[.int .i64 e0, .int .i64 e1, .slice A2 n2 p2, .slice A3 n3 p3, .slice A4 n4 p4, .slice A5 n5 p5, .slice A8 (zs.length + 1) c8', .slice A7 l.length p7, .int .i64 e8, .int .i64 e9, .slice A10 n10 p10]] w' (Naming w' (zs ++ [uz]) l) := fun w' h1 h2 => named_any (⟨e0, e1, A2, n2, p2, A3, n3, p3, A4, n4, p4, A5, n5, p5, A8, zs.length + 1, c8', A7, l.length, p7, e8, e9, A10, n10, p10⟩ : El) (zs ++ [uz]) l w' h1 h2 (by simp) rfl (by simp; omega) (by omega)
        obtain ⟨⟨kc0, kc1, kc2, kc3, kc4, kc5, kc6, kc7, kc8⟩, ⟨d0, d1, d2, d3, d4, d5, d6, d7, d8, d9, d10⟩, ⟨km0, km1, km2, km3, km4, km5, km6, km7, km8, km9, km10⟩⟩ := HKD.out _ (Below.refl _ _)
        have hs2c := bwc.size
        clear HKB HKC HRET b12 hU2 hS2 hU9 hux hu1 hg8N k8 b9 k8c r8 bwc b2c
        go_wp2_with (go_at_call 7; refine (hnm _ hUM hSc).mono ?_)
        rintro e3 w3 ⟨b3, nn, bb, rfl, hbb⟩
        clear kc0 kc1 kc2 kc3 kc4 kc5 kc6 kc7 kc8 d0 d1 d2 d3 d4 d5 d6 d7 d8 d9 d10 km0 km1 km2 km3 km4 km5 km6 km7 km8 km9 km10
        cases bb
        · go_wp2_with fail
          go_ret
          exact HRETD.out _ b3
        · obtain ⟨s, hrun, hsn, hz⟩ := hbb rfl
          obtain ⟨us, hul, hun, hU3, hmap⟩ := (hUc.on b3).nat (n := nn) (fun z hzz => hz z (by simp [hzz]))
          obtain ⟨us2, hul2, hun2, hU4, hmap2⟩ := (hUM.on b3).nat hz
          have hus2 : us2 = us ++ [uz.toNat] := by rw [hmap2, hmap]; simp
          have hS3 := hSc.on b3
          clear hmap hmap2 hz hbb hnm hUc hUM hSc hul2
          subst hus2
          generalize uz.toNat = uv at *
          generalize zs.length = zl at *
          subst hul
          obtain rfl := hsn
          have HKF : Hid (∀ w', Below w3.heap.size w3 w' → (w'.cell? ⟨g + 1, 0, none⟩ = some (.int .i64 c0) ∧ w'.cell? ⟨g + 1, 1, none⟩ = some (.int .i64 c1) ∧ w'.cell? ⟨g + 1, 2, none⟩ = some (.int .i64 c2) ∧ w'.cell? ⟨g + 1, 3, none⟩ = some (.int .i64 c3) ∧ w'.cell? ⟨g + 1, 4, none⟩ = some (.int .i64 c4) ∧ w'.cell? ⟨g + 1, 5, none⟩ = some (.int .i64 c5) ∧ w'.cell? ⟨g + 1, 6, none⟩ = some (.int .i64 c6) ∧ w'.cell? ⟨g + 1, 7, none⟩ = some (.int .i64 c7) ∧ w'.cell? ⟨g + 1, 8, none⟩ = some (.int .i64 c8)) ∧ (w'.cell? ⟨g + 1 + 1, 0, none⟩ = some (.int .i64 e0) ∧ w'.cell? ⟨g + 1 + 1, 1, none⟩ = some (.int .i64 e1) ∧ w'.cell? ⟨g + 1 + 1, 2, none⟩ = some (.slice A2 n2 p2) ∧ w'.cell? ⟨g + 1 + 1, 3, none⟩ = some (.slice A3 n3 p3) ∧ w'.cell? ⟨g + 1 + 1, 4, none⟩ = some (.slice A4 n4 p4) ∧ w'.cell? ⟨g + 1 + 1, 5, none⟩ = some (.slice A5 n5 p5) ∧ w'.cell? ⟨g + 1 + 1, 6, none⟩ = some (.slice A6 us.length p6) ∧ w'.cell? ⟨g + 1 + 1, 7, none⟩ = some (.slice A7 l.length p7) ∧ w'.cell? ⟨g + 1 + 1, 8, none⟩ = some (.int .i64 e8) ∧ w'.cell? ⟨g + 1 + 1, 9, none⟩ = some (.int .i64 e9) ∧ w'.cell? ⟨g + 1 + 1, 10, none⟩ = some (.slice A10 n10 p10)) ∧ (w'.cell? ⟨g8, 0, none⟩ = some (.int .i64 e0) ∧ w'.cell? ⟨g8, 1, none⟩ = some (.int .i64 e1) ∧ w'.cell? ⟨g8, 2, none⟩ = some (.slice A2 n2 p2) ∧ w'.cell? ⟨g8, 3, none⟩ = some (.slice A3 n3 p3) ∧ w'.cell? ⟨g8, 4, none⟩ = some (.slice A4 n4 p4) ∧ w'.cell? ⟨g8, 5, none⟩ = some (.slice A5 n5 p5) ∧ w'.cell? ⟨g8, 6, none⟩ = some (.slice A8 (us.length + 1) c8') ∧ w'.cell? ⟨g8, 7, none⟩ = some (.slice A7 l.length p7) ∧ w'.cell? ⟨g8, 8, none⟩ = some (.int .i64 e8) ∧ w'.cell? ⟨g8, 9, none⟩ = some (.int .i64 e9) ∧ w'.cell? ⟨g8, 10, none⟩ = some (.slice A10 n10 p10))) := Lib.hid (fun w' hb => HKD.out w' (b3.trans (hb.mono b3.size)))
          have HRETF : Hid (∀ w', Below w3.heap.size w3 w' → Ret (.bool true) w (.returned (.bool true)) w') := Lib.hid (fun w' hb => HRETD.out w' (b3.trans (hb.mono b3.size)))
          have HIs : Hid (∀ w', Below w3.heap.size w3 w' → (⟨e0, e1, A2, n2, p2, A3, n3, p3, A4, n4, p4, A5, n5, p5, A6, us.length, p6, A7, l.length, p7, e8, e9, A10, n10, p10⟩ : El).Is w' us l ∧ (⟨e0, e1, A2, n2, p2, A3, n3, p3, A4, n4, p4, A5, n5, p5, A8, us.length + 1, c8', A7, l.length, p7, e8, e9, A10, n10, p10⟩ : El).Is w' (us ++ [uv]) l) := Lib.hid (fun w' hb => ⟨⟨hU3.on hb, hS3.on hb, rfl, rfl⟩, ⟨hU4.on hb, hS3.on hb, by simp, rfl⟩⟩)
          have HLEN : Hid ((B.chain (S.lds s.places) us).length ≤ (B.chain (S.lds s.places) (us ++ [uv])).length ∧ (B.chain (S.lds s.places) (us ++ [uv])).length ≤ (B.chain (S.lds s.places) us).length + 1 ∧ (B.chain (S.lds s.places) us).length ≤ us.length) := Lib.hid (by
            have i1 := B.chain_is (S.lds s.places) (lds_refl _) us
            have i2 := B.chain_is (S.lds s.places) (lds_refl _) (us ++ [uv])
            have h := B.more_len (S.lds s.places) us uv
            have h9 := B.chain_le i1
            rw [i1.len, i2.len]
            rw [i1.len] at h9
            exact ⟨h.1, h.2, h9⟩)
          have HSP : Hid (∀ w', (⟨e0, e1, A2, n2, p2, A3, n3, p3, A4, n4, p4, A5, n5, p5, A6, us.length, p6, A7, l.length, p7, e8, e9, A10, n10, p10⟩ : El).Is w' us l → Calls Try.prog 13 #[.agg #[.int .i64 e0, .int .i64 e1, .slice A2 n2 p2, .slice A3 n3 p3, .slice A4 n4 p4, .slice A5 n5 p5, .slice A6 us.length p6, .slice A7 l.length p7, .int .i64 e8, .int .i64 e9, .slice A10 n10 p10]] w' (Ret (.int .i64 ((B.chain (S.lds s.places) us).length : Int)) w')) := Lib.hid (fun w' h => span_any (⟨e0, e1, A2, n2, p2, A3, n3, p3, A4, n4, p4, A5, n5, p5, A6, us.length, p6, A7, l.length, p7, e8, e9, A10, n10, p10⟩ : El) us l s w' h (by omega) (by omega) hrun hun)
          have HSPM : Hid (∀ w', (⟨e0, e1, A2, n2, p2, A3, n3, p3, A4, n4, p4, A5, n5, p5, A8, us.length + 1, c8', A7, l.length, p7, e8, e9, A10, n10, p10⟩ : El).Is w' (us ++ [uv]) l → Calls Try.prog 13 #[.agg #[.int .i64 e0, .int .i64 e1, .slice A2 n2 p2, .slice A3 n3 p3, .slice A4 n4 p4, .slice A5 n5 p5, .slice A8 (us.length + 1) c8', .slice A7 l.length p7, .int .i64 e8, .int .i64 e9, .slice A10 n10 p10]] w' (Ret (.int .i64 ((B.chain (S.lds s.places) (us ++ [uv])).length : Int)) w')) := Lib.hid (fun w' h => span_any (⟨e0, e1, A2, n2, p2, A3, n3, p3, A4, n4, p4, A5, n5, p5, A8, us.length + 1, c8', A7, l.length, p7, e8, e9, A10, n10, p10⟩ : El) (us ++ [uv]) l s w' h (by omega) (by simp; omega) hrun hun2)
          have HWK : Hid (∀ w', Calls Try.prog 11 #[.agg #[.int .i64 e0, .int .i64 e1, .slice A2 n2 p2, .slice A3 n3 p3, .slice A4 n4 p4, .slice A5 n5 p5, .slice A6 us.length p6, .slice A7 l.length p7, .int .i64 e8, .int .i64 e9, .slice A10 n10 p10]] w' (Ret (.int .i64 (us.length : Int)) w')) := Lib.hid (fun w' => work_any (⟨e0, e1, A2, n2, p2, A3, n3, p3, A4, n4, p4, A5, n5, p5, A6, us.length, p6, A7, l.length, p7, e8, e9, A10, n10, p10⟩ : El) w' (show us.length ≤ 1000 by omega))
          have HWM : Hid (∀ w', Calls Try.prog 11 #[.agg #[.int .i64 e0, .int .i64 e1, .slice A2 n2 p2, .slice A3 n3 p3, .slice A4 n4 p4, .slice A5 n5 p5, .slice A8 (us.length + 1) c8', .slice A7 l.length p7, .int .i64 e8, .int .i64 e9, .slice A10 n10 p10]] w' (Ret (.int .i64 ((us.length + 1 : Nat) : Int)) w')) := Lib.hid (fun w' => work_any (⟨e0, e1, A2, n2, p2, A3, n3, p3, A4, n4, p4, A5, n5, p5, A8, us.length + 1, c8', A7, l.length, p7, e8, e9, A10, n10, p10⟩ : El) w' (show us.length + 1 ≤ 1000 by omega))
          have HST : Hid (∀ w', Calls Try.prog 12 #[.agg #[.int .i64 c0, .int .i64 c1, .int .i64 c2, .int .i64 c3, .int .i64 c4, .int .i64 c5, .int .i64 c6, .int .i64 c7, .int .i64 c8], .agg #[.int .i64 e0, .int .i64 e1, .slice A2 n2 p2, .slice A3 n3 p3, .slice A4 n4 p4, .slice A5 n5 p5, .slice A6 us.length p6, .slice A7 l.length p7, .int .i64 e8, .int .i64 e9, .slice A10 n10 p10], .int .i64 (pk : Int)] w' (Ret (.int .i64 (B.steps c0 c1 us.length e9 (pk : Int))) w')) := Lib.hid (fun w' => steps_any (⟨e0, e1, A2, n2, p2, A3, n3, p3, A4, n4, p4, A5, n5, p5, A6, us.length, p6, A7, l.length, p7, e8, e9, A10, n10, p10⟩ : El) c0 c1 c2 c3 c4 c5 c6 c7 c8 (pk : Int) w' (show us.length ≤ 1000 by omega))
          generalize hC1 : (B.chain (S.lds s.places) us).length = m1 at *
          generalize hC2 : (B.chain (S.lds s.places) (us ++ [uv])).length = m2 at *
          clear hC1 hC2 hU3 hU4 hS3 HKD HRETD hun hun2
          obtain ⟨⟨kc0, kc1, kc2, kc3, kc4, kc5, kc6, kc7, kc8⟩, ⟨d0, d1, d2, d3, d4, d5, d6, d7, d8, d9, d10⟩, ⟨km0, km1, km2, km3, km4, km5, km6, km7, km8, km9, km10⟩⟩ := HKF.out _ (Below.refl _ _)
          go_wp2_with (go_at_call 12; refine (HST.out _).mono ?_)
          rintro e4 w4 ⟨rfl, b4⟩
          clear kc0 kc1 kc2 kc3 kc4 kc5 kc6 kc7 kc8 d0 d1 d2 d3 d4 d5 d6 d7 d8 d9 d10 km0 km1 km2 km3 km4 km5 km6 km7 km8 km9 km10
          have HKG : Hid (∀ w', Below w4.heap.size w4 w' → (w'.cell? ⟨g + 1, 0, none⟩ = some (.int .i64 c0) ∧ w'.cell? ⟨g + 1, 1, none⟩ = some (.int .i64 c1) ∧ w'.cell? ⟨g + 1, 2, none⟩ = some (.int .i64 c2) ∧ w'.cell? ⟨g + 1, 3, none⟩ = some (.int .i64 c3) ∧ w'.cell? ⟨g + 1, 4, none⟩ = some (.int .i64 c4) ∧ w'.cell? ⟨g + 1, 5, none⟩ = some (.int .i64 c5) ∧ w'.cell? ⟨g + 1, 6, none⟩ = some (.int .i64 c6) ∧ w'.cell? ⟨g + 1, 7, none⟩ = some (.int .i64 c7) ∧ w'.cell? ⟨g + 1, 8, none⟩ = some (.int .i64 c8)) ∧ (w'.cell? ⟨g + 1 + 1, 0, none⟩ = some (.int .i64 e0) ∧ w'.cell? ⟨g + 1 + 1, 1, none⟩ = some (.int .i64 e1) ∧ w'.cell? ⟨g + 1 + 1, 2, none⟩ = some (.slice A2 n2 p2) ∧ w'.cell? ⟨g + 1 + 1, 3, none⟩ = some (.slice A3 n3 p3) ∧ w'.cell? ⟨g + 1 + 1, 4, none⟩ = some (.slice A4 n4 p4) ∧ w'.cell? ⟨g + 1 + 1, 5, none⟩ = some (.slice A5 n5 p5) ∧ w'.cell? ⟨g + 1 + 1, 6, none⟩ = some (.slice A6 us.length p6) ∧ w'.cell? ⟨g + 1 + 1, 7, none⟩ = some (.slice A7 l.length p7) ∧ w'.cell? ⟨g + 1 + 1, 8, none⟩ = some (.int .i64 e8) ∧ w'.cell? ⟨g + 1 + 1, 9, none⟩ = some (.int .i64 e9) ∧ w'.cell? ⟨g + 1 + 1, 10, none⟩ = some (.slice A10 n10 p10)) ∧ (w'.cell? ⟨g8, 0, none⟩ = some (.int .i64 e0) ∧ w'.cell? ⟨g8, 1, none⟩ = some (.int .i64 e1) ∧ w'.cell? ⟨g8, 2, none⟩ = some (.slice A2 n2 p2) ∧ w'.cell? ⟨g8, 3, none⟩ = some (.slice A3 n3 p3) ∧ w'.cell? ⟨g8, 4, none⟩ = some (.slice A4 n4 p4) ∧ w'.cell? ⟨g8, 5, none⟩ = some (.slice A5 n5 p5) ∧ w'.cell? ⟨g8, 6, none⟩ = some (.slice A8 (us.length + 1) c8') ∧ w'.cell? ⟨g8, 7, none⟩ = some (.slice A7 l.length p7) ∧ w'.cell? ⟨g8, 8, none⟩ = some (.int .i64 e8) ∧ w'.cell? ⟨g8, 9, none⟩ = some (.int .i64 e9) ∧ w'.cell? ⟨g8, 10, none⟩ = some (.slice A10 n10 p10))) := Lib.hid (fun w' hb => HKF.out w' (b4.trans (hb.mono b4.size)))
          have HRETG : Hid (∀ w', Below w4.heap.size w4 w' → Ret (.bool true) w (.returned (.bool true)) w') := Lib.hid (fun w' hb => HRETF.out w' (b4.trans (hb.mono b4.size)))
          have HIs4 : Hid (∀ w', Below w4.heap.size w4 w' → (⟨e0, e1, A2, n2, p2, A3, n3, p3, A4, n4, p4, A5, n5, p5, A6, us.length, p6, A7, l.length, p7, e8, e9, A10, n10, p10⟩ : El).Is w' us l ∧ (⟨e0, e1, A2, n2, p2, A3, n3, p3, A4, n4, p4, A5, n5, p5, A8, us.length + 1, c8', A7, l.length, p7, e8, e9, A10, n10, p10⟩ : El).Is w' (us ++ [uv]) l) := Lib.hid (fun w' hb => HIs.out w' (b4.trans (hb.mono b4.size)))
          clear HKF HRETF HIs
          obtain ⟨⟨kc0, kc1, kc2, kc3, kc4, kc5, kc6, kc7, kc8⟩, ⟨d0, d1, d2, d3, d4, d5, d6, d7, d8, d9, d10⟩, ⟨km0, km1, km2, km3, km4, km5, km6, km7, km8, km9, km10⟩⟩ := HKG.out _ (Below.refl _ _)
          have HNS : Hid (B.steps c0 c1 us.length e9 (pk : Int) = B.steps c0 c1 us.length e9 (pk : Int)) := Lib.hid rfl
          generalize hns : B.steps c0 c1 us.length e9 (pk : Int) = nS at *
          have HNS2 := Lib.hid hns
          clear hns HNS
          obtain ⟨ul1, hul1⟩ : ∃ ul1 : Nat, ul1 = us.length + 1 := ⟨_, rfl⟩
          have HWM2 : Hid (∀ w', Calls Try.prog 11 #[.agg #[.int .i64 e0, .int .i64 e1, .slice A2 n2 p2, .slice A3 n3 p3, .slice A4 n4 p4, .slice A5 n5 p5, .slice A8 (us.length + 1) c8', .slice A7 l.length p7, .int .i64 e8, .int .i64 e9, .slice A10 n10 p10]] w' (Ret (.int .i64 (ul1 : Int)) w')) := Lib.hid (by rw [hul1]; exact HWM.out)
          obtain ⟨m11, hm11⟩ : ∃ m11 : Nat, m11 = m1 + 1 := ⟨_, rfl⟩
          have hl9 := HLEN.out
          have hw1 : IntKind.i64.wrap ((us.length : Int) + 1) = (ul1 : Int) := by rw [IntWalk.i64_in _ (by omega)]; omega
          have hw2 : IntKind.i64.wrap ((m1 : Int) + 1) = (m11 : Int) := by rw [IntWalk.i64_in _ (by omega)]; omega
          have q1 : ((ul1 : Int) != (ul1 : Int)) = false := by simp
          have q2 : decide ((m2 : Int) < (m1 : Int)) = false := by simp; omega
          have q2b : decide (m2 < m1) = false := by simp; omega
          have q3 : decide ((m2 : Int) > (m11 : Int)) = false := by simp; omega
          have q3b : decide ((m11 : Int) < (m2 : Int)) = false := by simp; omega
          have q3c : decide (m11 < m2) = false := by simp; omega
          clear hul1 hm11 hl9 HWM
          go_upto_region 14 with (fail)
          go_cut [79] (fun s79 wx => s79 = .bool false ∧ Below w4.heap.size w4 wx)
          case first =>
            clear kc0 kc1 kc2 kc3 kc4 kc5 kc6 kc7 kc8
            go_region_held3 (fun w' => (w'.cell? ⟨g + 1 + 1, 0, none⟩ = some (.int .i64 e0) ∧ w'.cell? ⟨g + 1 + 1, 1, none⟩ = some (.int .i64 e1) ∧ w'.cell? ⟨g + 1 + 1, 2, none⟩ = some (.slice A2 n2 p2) ∧ w'.cell? ⟨g + 1 + 1, 3, none⟩ = some (.slice A3 n3 p3) ∧ w'.cell? ⟨g + 1 + 1, 4, none⟩ = some (.slice A4 n4 p4) ∧ w'.cell? ⟨g + 1 + 1, 5, none⟩ = some (.slice A5 n5 p5) ∧ w'.cell? ⟨g + 1 + 1, 6, none⟩ = some (.slice A6 us.length p6) ∧ w'.cell? ⟨g + 1 + 1, 7, none⟩ = some (.slice A7 l.length p7) ∧ w'.cell? ⟨g + 1 + 1, 8, none⟩ = some (.int .i64 e8) ∧ w'.cell? ⟨g + 1 + 1, 9, none⟩ = some (.int .i64 e9) ∧ w'.cell? ⟨g + 1 + 1, 10, none⟩ = some (.slice A10 n10 p10)) ∧ (w'.cell? ⟨g8, 0, none⟩ = some (.int .i64 e0) ∧ w'.cell? ⟨g8, 1, none⟩ = some (.int .i64 e1) ∧ w'.cell? ⟨g8, 2, none⟩ = some (.slice A2 n2 p2) ∧ w'.cell? ⟨g8, 3, none⟩ = some (.slice A3 n3 p3) ∧ w'.cell? ⟨g8, 4, none⟩ = some (.slice A4 n4 p4) ∧ w'.cell? ⟨g8, 5, none⟩ = some (.slice A5 n5 p5) ∧ w'.cell? ⟨g8, 6, none⟩ = some (.slice A8 (us.length + 1) c8') ∧ w'.cell? ⟨g8, 7, none⟩ = some (.slice A7 l.length p7) ∧ w'.cell? ⟨g8, 8, none⟩ = some (.int .i64 e8) ∧ w'.cell? ⟨g8, 9, none⟩ = some (.int .i64 e9) ∧ w'.cell? ⟨g8, 10, none⟩ = some (.slice A10 n10 p10)))
              (first | exact (HKG.out _ bf).2 | exact (HKG.out _ be).2 | exact (HKG.out _ bd).2 | exact (HKG.out _ bc).2 | exact (HKG.out _ bb).2 | exact (HKG.out _ ba).2 | go_keep)
              (first
                | (go_at_call 13; refine (HSP.out _ (HIs4.out _ be).1).mono ?_; rintro x6 wf ⟨rfl, bf'⟩; have bf := be.trans (bf'.mono be.size))
                | (go_at_call 13; refine (HSPM.out _ (HIs4.out _ bd).2).mono ?_; rintro x5 we ⟨rfl, be'⟩; have be := bd.trans (be'.mono bd.size))
                | (go_at_call 13; refine (HSP.out _ (HIs4.out _ bc).1).mono ?_; rintro x4 wd ⟨rfl, bd'⟩; have bd := bc.trans (bd'.mono bc.size))
                | (go_at_call 13; refine (HSPM.out _ (HIs4.out _ bb).2).mono ?_; rintro x3 wc3 ⟨rfl, bc'⟩; have bc := bb.trans (bc'.mono bb.size))
                | (go_at_call 11; have hba := ba; refine (HWK.out _).mono ?_; rintro x2 wb ⟨rfl, bb'⟩; have bb := ba.trans (bb'.mono ba.size))
                | (go_at_call 11; refine (HWM2.out _).mono ?_; rintro x1 wa ⟨rfl, ba'⟩; have ba := (Below.refl w4.heap.size w4).drew.trans ba'))
            all_goals
              go_wp2_with fail
              go_meet
              exact ⟨rfl, bf⟩
          case rest =>
            obtain ⟨rfl, b5⟩ := hcut
            clear kc0 kc1 kc2 kc3 kc4 kc5 kc6 kc7 kc8 d0 d1 d2 d3 d4 d5 d6 d7 d8 d9 d10 km0 km1 km2 km3 km4 km5 km6 km7 km8 km9 km10 q1 q2 q2b q3 q3b q3c hw1 hw2
            obtain ⟨⟨kc0, kc1, kc2, kc3, kc4, kc5, kc6, kc7, kc8⟩, ⟨d0, d1, d2, d3, d4, d5, d6, d7, d8, d9, d10⟩, ⟨km0, km1, km2, km3, km4, km5, km6, km7, km8, km9, km10⟩⟩ := HKG.out _ b5
            by_cases hneg : nS < 0
            · have q1 : decide (nS < 0) = true := by simpa using hneg
              clear kc0 kc1 kc2 kc3 kc4 kc5 kc6 kc7 kc8 d0 d1 d2 d3 d4 d5 d6 d7 d8 d9 d10 km0 km1 km2 km3 km4 km5 km6 km7 km8 km9 km10
              go_wp2_with fail
              go_ret
              exact HRETG.out _ b5
            · have hnb : ¬ B.bad c0 c1 e9 (pk : Int) := fun hb => hneg (by rw [← HNS2.out, B.steps_bad hb]; omega)
              have HNB := Lib.hid hnb
              obtain ⟨n0, n1, n2', n3', n4', n5', n6', n7'⟩ := B.not_bad.1 hnb
              have q1 : decide (nS < 0) = false := by simpa using hneg
              have hn9 : nS ≤ 1000000000000000 := by rw [← HNS2.out]; exact B.steps_le hnb (by omega)
              have hbl1 : g + 1 < wc.heap.size := World.block_lt_of_cell? wc _ kc0
              have hbl2 : g + 1 + 1 < wc.heap.size := World.block_lt_of_cell? wc _ d0
              have hbl3 : g8 < wc.heap.size := World.block_lt_of_cell? wc _ km0
              have hbl1b : g + 1 < wc.heap.size + 1 := by omega
              have hbl1c : g + 1 < wc.heap.size + 1 + 1 := by omega
              have hbl2b : g + 1 + 1 < wc.heap.size + 1 := by omega
              have hbl2c : g + 1 + 1 < wc.heap.size + 1 + 1 := by omega
              clear hnb km0 km1 km2 km3 km4 km5 km6 km7 km8 km9 km10
              go_upto_region 24 with (fail)
              have x1 : (wc.alloc (.cells #[.int .i64 e0, .int .i64 e1, .slice A2 n2 p2, .slice A3 n3 p3, .slice A4 n4 p4, .slice A5 n5 p5, .slice A6 us.length p6, .slice A7 l.length p7, .int .i64 e8, .int .i64 (e9 + 1), .slice A10 n10 p10] 29)).heap.size = wc.heap.size + 1 := by simp
              have x2 : ((wc.alloc (.cells #[.int .i64 e0, .int .i64 e1, .slice A2 n2 p2, .slice A3 n3 p3, .slice A4 n4 p4, .slice A5 n5 p5, .slice A6 us.length p6, .slice A7 l.length p7, .int .i64 e8, .int .i64 (e9 + 1), .slice A10 n10 p10] 29)).alloc (.cells #[.int .i64 (c0 + 1), .int .i64 c1, .int .i64 c2, .int .i64 c3, .int .i64 c4, .int .i64 c5, .int .i64 c6, .int .i64 c7, .int .i64 c8] 42)).heap.size = wc.heap.size + 1 + 1 := by simp
              have j1 := ((Blk.new wc 29 #[.int .i64 e0, .int .i64 e1, .slice A2 n2 p2, .slice A3 n3 p3, .slice A4 n4 p4, .slice A5 n5 p5, .slice A6 us.length p6, .slice A7 l.length p7, .int .i64 e8, .int .i64 (e9 + 1), .slice A10 n10 p10]).alloc (.cells #[.int .i64 (c0 + 1), .int .i64 c1, .int .i64 c2, .int .i64 c3, .int .i64 c4, .int .i64 c5, .int .i64 c6, .int .i64 c7, .int .i64 c8] 42)).alloc (.cells #[.int .i64 c0, .int .i64 (c1 + 1), .int .i64 c2, .int .i64 c3, .int .i64 c4, .int .i64 c5, .int .i64 c6, .int .i64 c7, .int .i64 c8] 42)
              have j2 := (Blk.new (wc.alloc (.cells #[.int .i64 e0, .int .i64 e1, .slice A2 n2 p2, .slice A3 n3 p3, .slice A4 n4 p4, .slice A5 n5 p5, .slice A6 us.length p6, .slice A7 l.length p7, .int .i64 e8, .int .i64 (e9 + 1), .slice A10 n10 p10] 29)) 42 #[.int .i64 (c0 + 1), .int .i64 c1, .int .i64 c2, .int .i64 c3, .int .i64 c4, .int .i64 c5, .int .i64 c6, .int .i64 c7, .int .i64 c8]).alloc (.cells #[.int .i64 c0, .int .i64 (c1 + 1), .int .i64 c2, .int .i64 c3, .int .i64 c4, .int .i64 c5, .int .i64 c6, .int .i64 c7, .int .i64 c8] 42)
              have j3 := Blk.new ((wc.alloc (.cells #[.int .i64 e0, .int .i64 e1, .slice A2 n2 p2, .slice A3 n3 p3, .slice A4 n4 p4, .slice A5 n5 p5, .slice A6 us.length p6, .slice A7 l.length p7, .int .i64 e8, .int .i64 (e9 + 1), .slice A10 n10 p10] 29)).alloc (.cells #[.int .i64 (c0 + 1), .int .i64 c1, .int .i64 c2, .int .i64 c3, .int .i64 c4, .int .i64 c5, .int .i64 c6, .int .i64 c7, .int .i64 c8] 42)) 42 #[.int .i64 c0, .int .i64 (c1 + 1), .int .i64 c2, .int .i64 c3, .int .i64 c4, .int .i64 c5, .int .i64 c6, .int .i64 c7, .int .i64 c8]
              rw [x1] at j2
              rw [x2] at j3
              have b6 : Below wc.heap.size wc (((wc.alloc (.cells #[.int .i64 e0, .int .i64 e1, .slice A2 n2 p2, .slice A3 n3 p3, .slice A4 n4 p4, .slice A5 n5 p5, .slice A6 us.length p6, .slice A7 l.length p7, .int .i64 e8, .int .i64 (e9 + 1), .slice A10 n10 p10] 29)).alloc (.cells #[.int .i64 (c0 + 1), .int .i64 c1, .int .i64 c2, .int .i64 c3, .int .i64 c4, .int .i64 c5, .int .i64 c6, .int .i64 c7, .int .i64 c8] 42)).alloc (.cells #[.int .i64 c0, .int .i64 (c1 + 1), .int .i64 c2, .int .i64 c3, .int .i64 c4, .int .i64 c5, .int .i64 c6, .int .i64 c7, .int .i64 c8] 42)) := ((bel_new wc _).alloc (by simp) _).alloc (by simp; omega) _
              generalize ((wc.alloc (.cells #[.int .i64 e0, .int .i64 e1, .slice A2 n2 p2, .slice A3 n3 p3, .slice A4 n4 p4, .slice A5 n5 p5, .slice A6 us.length p6, .slice A7 l.length p7, .int .i64 e8, .int .i64 (e9 + 1), .slice A10 n10 p10] 29)).alloc (.cells #[.int .i64 (c0 + 1), .int .i64 c1, .int .i64 c2, .int .i64 c3, .int .i64 c4, .int .i64 c5, .int .i64 c6, .int .i64 c7, .int .i64 c8] 42)).alloc (.cells #[.int .i64 c0, .int .i64 (c1 + 1), .int .i64 c2, .int .i64 c3, .int .i64 c4, .int .i64 c5, .int .i64 c6, .int .i64 c7, .int .i64 c8] 42) = w6 at *
              have b46 := b5.trans (b6.mono b5.size)
              clear x1 x2 kc0 kc1 kc2 kc3 kc4 kc5 kc6 kc7 kc8 d0 d1 d2 d3 d4 d5 d6 d7 d8 d9 d10
              generalize wc.heap.size = gT at *
              have lj1 := j1.lt
              have lj2 := j2.lt
              have lj3 := j3.lt
              have HKH : Hid (∀ w', Below w6.heap.size w6 w' → (w'.cell? ⟨g + 1, 0, none⟩ = some (.int .i64 c0) ∧ w'.cell? ⟨g + 1, 1, none⟩ = some (.int .i64 c1) ∧ w'.cell? ⟨g + 1, 2, none⟩ = some (.int .i64 c2) ∧ w'.cell? ⟨g + 1, 3, none⟩ = some (.int .i64 c3) ∧ w'.cell? ⟨g + 1, 4, none⟩ = some (.int .i64 c4) ∧ w'.cell? ⟨g + 1, 5, none⟩ = some (.int .i64 c5) ∧ w'.cell? ⟨g + 1, 6, none⟩ = some (.int .i64 c6) ∧ w'.cell? ⟨g + 1, 7, none⟩ = some (.int .i64 c7) ∧ w'.cell? ⟨g + 1, 8, none⟩ = some (.int .i64 c8)) ∧ (w'.cell? ⟨g + 1 + 1, 0, none⟩ = some (.int .i64 e0) ∧ w'.cell? ⟨g + 1 + 1, 1, none⟩ = some (.int .i64 e1) ∧ w'.cell? ⟨g + 1 + 1, 2, none⟩ = some (.slice A2 n2 p2) ∧ w'.cell? ⟨g + 1 + 1, 3, none⟩ = some (.slice A3 n3 p3) ∧ w'.cell? ⟨g + 1 + 1, 4, none⟩ = some (.slice A4 n4 p4) ∧ w'.cell? ⟨g + 1 + 1, 5, none⟩ = some (.slice A5 n5 p5) ∧ w'.cell? ⟨g + 1 + 1, 6, none⟩ = some (.slice A6 us.length p6) ∧ w'.cell? ⟨g + 1 + 1, 7, none⟩ = some (.slice A7 l.length p7) ∧ w'.cell? ⟨g + 1 + 1, 8, none⟩ = some (.int .i64 e8) ∧ w'.cell? ⟨g + 1 + 1, 9, none⟩ = some (.int .i64 e9) ∧ w'.cell? ⟨g + 1 + 1, 10, none⟩ = some (.slice A10 n10 p10)) ∧ (w'.cell? ⟨g8, 0, none⟩ = some (.int .i64 e0) ∧ w'.cell? ⟨g8, 1, none⟩ = some (.int .i64 e1) ∧ w'.cell? ⟨g8, 2, none⟩ = some (.slice A2 n2 p2) ∧ w'.cell? ⟨g8, 3, none⟩ = some (.slice A3 n3 p3) ∧ w'.cell? ⟨g8, 4, none⟩ = some (.slice A4 n4 p4) ∧ w'.cell? ⟨g8, 5, none⟩ = some (.slice A5 n5 p5) ∧ w'.cell? ⟨g8, 6, none⟩ = some (.slice A8 (us.length + 1) c8') ∧ w'.cell? ⟨g8, 7, none⟩ = some (.slice A7 l.length p7) ∧ w'.cell? ⟨g8, 8, none⟩ = some (.int .i64 e8) ∧ w'.cell? ⟨g8, 9, none⟩ = some (.int .i64 e9) ∧ w'.cell? ⟨g8, 10, none⟩ = some (.slice A10 n10 p10)) ∧ (w'.cell? ⟨gT, 0, none⟩ = some (.int .i64 e0) ∧ w'.cell? ⟨gT, 1, none⟩ = some (.int .i64 e1) ∧ w'.cell? ⟨gT, 2, none⟩ = some (.slice A2 n2 p2) ∧ w'.cell? ⟨gT, 3, none⟩ = some (.slice A3 n3 p3) ∧ w'.cell? ⟨gT, 4, none⟩ = some (.slice A4 n4 p4) ∧ w'.cell? ⟨gT, 5, none⟩ = some (.slice A5 n5 p5) ∧ w'.cell? ⟨gT, 6, none⟩ = some (.slice A6 us.length p6) ∧ w'.cell? ⟨gT, 7, none⟩ = some (.slice A7 l.length p7) ∧ w'.cell? ⟨gT, 8, none⟩ = some (.int .i64 e8) ∧ w'.cell? ⟨gT, 9, none⟩ = some (.int .i64 (e9 + 1)) ∧ w'.cell? ⟨gT, 10, none⟩ = some (.slice A10 n10 p10)) ∧ (w'.cell? ⟨gT + 1, 0, none⟩ = some (.int .i64 (c0 + 1)) ∧ w'.cell? ⟨gT + 1, 1, none⟩ = some (.int .i64 c1) ∧ w'.cell? ⟨gT + 1, 2, none⟩ = some (.int .i64 c2) ∧ w'.cell? ⟨gT + 1, 3, none⟩ = some (.int .i64 c3) ∧ w'.cell? ⟨gT + 1, 4, none⟩ = some (.int .i64 c4) ∧ w'.cell? ⟨gT + 1, 5, none⟩ = some (.int .i64 c5) ∧ w'.cell? ⟨gT + 1, 6, none⟩ = some (.int .i64 c6) ∧ w'.cell? ⟨gT + 1, 7, none⟩ = some (.int .i64 c7) ∧ w'.cell? ⟨gT + 1, 8, none⟩ = some (.int .i64 c8)) ∧ (w'.cell? ⟨gT + 1 + 1, 0, none⟩ = some (.int .i64 c0) ∧ w'.cell? ⟨gT + 1 + 1, 1, none⟩ = some (.int .i64 (c1 + 1)) ∧ w'.cell? ⟨gT + 1 + 1, 2, none⟩ = some (.int .i64 c2) ∧ w'.cell? ⟨gT + 1 + 1, 3, none⟩ = some (.int .i64 c3) ∧ w'.cell? ⟨gT + 1 + 1, 4, none⟩ = some (.int .i64 c4) ∧ w'.cell? ⟨gT + 1 + 1, 5, none⟩ = some (.int .i64 c5) ∧ w'.cell? ⟨gT + 1 + 1, 6, none⟩ = some (.int .i64 c6) ∧ w'.cell? ⟨gT + 1 + 1, 7, none⟩ = some (.int .i64 c7) ∧ w'.cell? ⟨gT + 1 + 1, 8, none⟩ = some (.int .i64 c8))) := Lib.hid (fun w' hb => by
                obtain ⟨h1, h2, h3⟩ := HKG.out w' (b46.trans (hb.mono b46.size))
                have z1 := j1.below hb lj1
                have z2 := j2.below hb lj2
                have z3 := j3.below hb lj3
                exact ⟨h1, h2, h3, ⟨z1.cell 0, z1.cell 1, z1.cell 2, z1.cell 3, z1.cell 4, z1.cell 5, z1.cell 6, z1.cell 7, z1.cell 8, z1.cell 9, z1.cell 10⟩, ⟨z2.cell 0, z2.cell 1, z2.cell 2, z2.cell 3, z2.cell 4, z2.cell 5, z2.cell 6, z2.cell 7, z2.cell 8⟩, ⟨z3.cell 0, z3.cell 1, z3.cell 2, z3.cell 3, z3.cell 4, z3.cell 5, z3.cell 6, z3.cell 7, z3.cell 8⟩⟩)
              obtain ⟨y0, hy0⟩ : ∃ y, y = B.steps c0 c1 (us.length + 1) e9 (pk : Int) := ⟨_, rfl⟩
              obtain ⟨y1, hy1⟩ : ∃ y, y = B.steps c0 c1 us.length (e9 + 1) (pk : Int) := ⟨_, rfl⟩
              obtain ⟨y2, hy2⟩ : ∃ y, y = B.steps (c0 + 1) c1 us.length e9 (pk : Int) := ⟨_, rfl⟩
              obtain ⟨y3, hy3⟩ : ∃ y, y = B.steps c0 (c1 + 1) us.length e9 (pk : Int) := ⟨_, rfl⟩
              obtain ⟨y4, hy4⟩ : ∃ y, y = B.steps c0 c1 us.length e9 ((pk : Int) + 1) := ⟨_, rfl⟩
              have HY : Hid (B.More nS y0 ∧ B.More nS y1 ∧ B.More nS y2 ∧ B.More nS y3 ∧ y4 = nS + 1) := Lib.hid (by
                rw [hy0, hy1, hy2, hy3, hy4, ← HNS2.out]
                exact ⟨B.more_use HNB.out, B.more_task HNB.out, B.more_seat HNB.out, B.more_node HNB.out, B.more_pick HNB.out (by omega)⟩)
              have HSa : Hid (∀ w', Calls Try.prog 12 #[.agg #[.int .i64 c0, .int .i64 c1, .int .i64 c2, .int .i64 c3, .int .i64 c4, .int .i64 c5, .int .i64 c6, .int .i64 c7, .int .i64 c8], .agg #[.int .i64 e0, .int .i64 e1, .slice A2 n2 p2, .slice A3 n3 p3, .slice A4 n4 p4, .slice A5 n5 p5, .slice A8 (us.length + 1) c8', .slice A7 l.length p7, .int .i64 e8, .int .i64 e9, .slice A10 n10 p10], .int .i64 (pk : Int)] w' (Ret (.int .i64 y0) w')) := Lib.hid (fun w' => by rw [hy0]; exact steps_any (⟨e0, e1, A2, n2, p2, A3, n3, p3, A4, n4, p4, A5, n5, p5, A8, us.length + 1, c8', A7, l.length, p7, e8, e9, A10, n10, p10⟩ : El) c0 c1 c2 c3 c4 c5 c6 c7 c8 (pk : Int) w' (show us.length + 1 ≤ 1000 by omega))
              have HSb : Hid (∀ w', Calls Try.prog 12 #[.agg #[.int .i64 c0, .int .i64 c1, .int .i64 c2, .int .i64 c3, .int .i64 c4, .int .i64 c5, .int .i64 c6, .int .i64 c7, .int .i64 c8], .agg #[.int .i64 e0, .int .i64 e1, .slice A2 n2 p2, .slice A3 n3 p3, .slice A4 n4 p4, .slice A5 n5 p5, .slice A6 us.length p6, .slice A7 l.length p7, .int .i64 e8, .int .i64 (e9 + 1), .slice A10 n10 p10], .int .i64 (pk : Int)] w' (Ret (.int .i64 y1) w')) := Lib.hid (fun w' => by rw [hy1]; exact steps_any (⟨e0, e1, A2, n2, p2, A3, n3, p3, A4, n4, p4, A5, n5, p5, A6, us.length, p6, A7, l.length, p7, e8, e9 + 1, A10, n10, p10⟩ : El) c0 c1 c2 c3 c4 c5 c6 c7 c8 (pk : Int) w' (show us.length ≤ 1000 by omega))
              have HSc : Hid (∀ w', Calls Try.prog 12 #[.agg #[.int .i64 (c0 + 1), .int .i64 c1, .int .i64 c2, .int .i64 c3, .int .i64 c4, .int .i64 c5, .int .i64 c6, .int .i64 c7, .int .i64 c8], .agg #[.int .i64 e0, .int .i64 e1, .slice A2 n2 p2, .slice A3 n3 p3, .slice A4 n4 p4, .slice A5 n5 p5, .slice A6 us.length p6, .slice A7 l.length p7, .int .i64 e8, .int .i64 e9, .slice A10 n10 p10], .int .i64 (pk : Int)] w' (Ret (.int .i64 y2) w')) := Lib.hid (fun w' => by rw [hy2]; exact steps_any (⟨e0, e1, A2, n2, p2, A3, n3, p3, A4, n4, p4, A5, n5, p5, A6, us.length, p6, A7, l.length, p7, e8, e9, A10, n10, p10⟩ : El) (c0 + 1) c1 c2 c3 c4 c5 c6 c7 c8 (pk : Int) w' (show us.length ≤ 1000 by omega))
              have HSd : Hid (∀ w', Calls Try.prog 12 #[.agg #[.int .i64 c0, .int .i64 (c1 + 1), .int .i64 c2, .int .i64 c3, .int .i64 c4, .int .i64 c5, .int .i64 c6, .int .i64 c7, .int .i64 c8], .agg #[.int .i64 e0, .int .i64 e1, .slice A2 n2 p2, .slice A3 n3 p3, .slice A4 n4 p4, .slice A5 n5 p5, .slice A6 us.length p6, .slice A7 l.length p7, .int .i64 e8, .int .i64 e9, .slice A10 n10 p10], .int .i64 (pk : Int)] w' (Ret (.int .i64 y3) w')) := Lib.hid (fun w' => by rw [hy3]; exact steps_any (⟨e0, e1, A2, n2, p2, A3, n3, p3, A4, n4, p4, A5, n5, p5, A6, us.length, p6, A7, l.length, p7, e8, e9, A10, n10, p10⟩ : El) c0 (c1 + 1) c2 c3 c4 c5 c6 c7 c8 (pk : Int) w' (show us.length ≤ 1000 by omega))
              have HSe : Hid (∀ w', Calls Try.prog 12 #[.agg #[.int .i64 c0, .int .i64 c1, .int .i64 c2, .int .i64 c3, .int .i64 c4, .int .i64 c5, .int .i64 c6, .int .i64 c7, .int .i64 c8], .agg #[.int .i64 e0, .int .i64 e1, .slice A2 n2 p2, .slice A3 n3 p3, .slice A4 n4 p4, .slice A5 n5 p5, .slice A6 us.length p6, .slice A7 l.length p7, .int .i64 e8, .int .i64 e9, .slice A10 n10 p10], .int .i64 ((pk : Int) + 1)] w' (Ret (.int .i64 y4) w')) := Lib.hid (fun w' => by rw [hy4]; exact steps_any (⟨e0, e1, A2, n2, p2, A3, n3, p3, A4, n4, p4, A5, n5, p5, A6, us.length, p6, A7, l.length, p7, e8, e9, A10, n10, p10⟩ : El) c0 c1 c2 c3 c4 c5 c6 c7 c8 ((pk : Int) + 1) w' (show us.length ≤ 1000 by omega))
              clear hy0 hy1 hy2 hy3 hy4 j1 j2 j3 HST HSP HSPM HWK HWM2 HIs4
              go_cut [15] (fun s15 wx => ∃ gA : Nat, s15 = .slice (some ⟨gA, 0, none⟩) 5 5 ∧ Blk wx gA 3 #[.int .i64 y0, .int .i64 y1, .int .i64 y2, .int .i64 y3, .int .i64 y4] ∧ Below w4.heap.size w4 wx)
              case first =>
                have hwp : IntKind.i64.wrap (pk : Int) = (pk : Int) := IntWalk.i64_in _ (by omega)
                have hw5 : IntKind.i64.wrap ((pk : Int) + 1) = (pk : Int) + 1 := IntWalk.i64_in _ (by omega)
                obtain ⟨⟨kc0, kc1, kc2, kc3, kc4, kc5, kc6, kc7, kc8⟩, ⟨d0, d1, d2, d3, d4, d5, d6, d7, d8, d9, d10⟩, ⟨km0, km1, km2, km3, km4, km5, km6, km7, km8, km9, km10⟩, ⟨kt0, kt1, kt2, kt3, kt4, kt5, kt6, kt7, kt8, kt9, kt10⟩, ⟨ks0, ks1, ks2, ks3, ks4, ks5, ks6, ks7, ks8⟩, ⟨kn0, kn1, kn2, kn3, kn4, kn5, kn6, kn7, kn8⟩⟩ := HKH.out _ (Below.refl _ _)
                go_region_held3 (fun w' => (w'.cell? ⟨g + 1, 0, none⟩ = some (.int .i64 c0) ∧ w'.cell? ⟨g + 1, 1, none⟩ = some (.int .i64 c1) ∧ w'.cell? ⟨g + 1, 2, none⟩ = some (.int .i64 c2) ∧ w'.cell? ⟨g + 1, 3, none⟩ = some (.int .i64 c3) ∧ w'.cell? ⟨g + 1, 4, none⟩ = some (.int .i64 c4) ∧ w'.cell? ⟨g + 1, 5, none⟩ = some (.int .i64 c5) ∧ w'.cell? ⟨g + 1, 6, none⟩ = some (.int .i64 c6) ∧ w'.cell? ⟨g + 1, 7, none⟩ = some (.int .i64 c7) ∧ w'.cell? ⟨g + 1, 8, none⟩ = some (.int .i64 c8)) ∧ (w'.cell? ⟨g + 1 + 1, 0, none⟩ = some (.int .i64 e0) ∧ w'.cell? ⟨g + 1 + 1, 1, none⟩ = some (.int .i64 e1) ∧ w'.cell? ⟨g + 1 + 1, 2, none⟩ = some (.slice A2 n2 p2) ∧ w'.cell? ⟨g + 1 + 1, 3, none⟩ = some (.slice A3 n3 p3) ∧ w'.cell? ⟨g + 1 + 1, 4, none⟩ = some (.slice A4 n4 p4) ∧ w'.cell? ⟨g + 1 + 1, 5, none⟩ = some (.slice A5 n5 p5) ∧ w'.cell? ⟨g + 1 + 1, 6, none⟩ = some (.slice A6 us.length p6) ∧ w'.cell? ⟨g + 1 + 1, 7, none⟩ = some (.slice A7 l.length p7) ∧ w'.cell? ⟨g + 1 + 1, 8, none⟩ = some (.int .i64 e8) ∧ w'.cell? ⟨g + 1 + 1, 9, none⟩ = some (.int .i64 e9) ∧ w'.cell? ⟨g + 1 + 1, 10, none⟩ = some (.slice A10 n10 p10)) ∧ (w'.cell? ⟨g8, 0, none⟩ = some (.int .i64 e0) ∧ w'.cell? ⟨g8, 1, none⟩ = some (.int .i64 e1) ∧ w'.cell? ⟨g8, 2, none⟩ = some (.slice A2 n2 p2) ∧ w'.cell? ⟨g8, 3, none⟩ = some (.slice A3 n3 p3) ∧ w'.cell? ⟨g8, 4, none⟩ = some (.slice A4 n4 p4) ∧ w'.cell? ⟨g8, 5, none⟩ = some (.slice A5 n5 p5) ∧ w'.cell? ⟨g8, 6, none⟩ = some (.slice A8 (us.length + 1) c8') ∧ w'.cell? ⟨g8, 7, none⟩ = some (.slice A7 l.length p7) ∧ w'.cell? ⟨g8, 8, none⟩ = some (.int .i64 e8) ∧ w'.cell? ⟨g8, 9, none⟩ = some (.int .i64 e9) ∧ w'.cell? ⟨g8, 10, none⟩ = some (.slice A10 n10 p10)) ∧ (w'.cell? ⟨gT, 0, none⟩ = some (.int .i64 e0) ∧ w'.cell? ⟨gT, 1, none⟩ = some (.int .i64 e1) ∧ w'.cell? ⟨gT, 2, none⟩ = some (.slice A2 n2 p2) ∧ w'.cell? ⟨gT, 3, none⟩ = some (.slice A3 n3 p3) ∧ w'.cell? ⟨gT, 4, none⟩ = some (.slice A4 n4 p4) ∧ w'.cell? ⟨gT, 5, none⟩ = some (.slice A5 n5 p5) ∧ w'.cell? ⟨gT, 6, none⟩ = some (.slice A6 us.length p6) ∧ w'.cell? ⟨gT, 7, none⟩ = some (.slice A7 l.length p7) ∧ w'.cell? ⟨gT, 8, none⟩ = some (.int .i64 e8) ∧ w'.cell? ⟨gT, 9, none⟩ = some (.int .i64 (e9 + 1)) ∧ w'.cell? ⟨gT, 10, none⟩ = some (.slice A10 n10 p10)) ∧ (w'.cell? ⟨gT + 1, 0, none⟩ = some (.int .i64 (c0 + 1)) ∧ w'.cell? ⟨gT + 1, 1, none⟩ = some (.int .i64 c1) ∧ w'.cell? ⟨gT + 1, 2, none⟩ = some (.int .i64 c2) ∧ w'.cell? ⟨gT + 1, 3, none⟩ = some (.int .i64 c3) ∧ w'.cell? ⟨gT + 1, 4, none⟩ = some (.int .i64 c4) ∧ w'.cell? ⟨gT + 1, 5, none⟩ = some (.int .i64 c5) ∧ w'.cell? ⟨gT + 1, 6, none⟩ = some (.int .i64 c6) ∧ w'.cell? ⟨gT + 1, 7, none⟩ = some (.int .i64 c7) ∧ w'.cell? ⟨gT + 1, 8, none⟩ = some (.int .i64 c8)) ∧ (w'.cell? ⟨gT + 1 + 1, 0, none⟩ = some (.int .i64 c0) ∧ w'.cell? ⟨gT + 1 + 1, 1, none⟩ = some (.int .i64 (c1 + 1)) ∧ w'.cell? ⟨gT + 1 + 1, 2, none⟩ = some (.int .i64 c2) ∧ w'.cell? ⟨gT + 1 + 1, 3, none⟩ = some (.int .i64 c3) ∧ w'.cell? ⟨gT + 1 + 1, 4, none⟩ = some (.int .i64 c4) ∧ w'.cell? ⟨gT + 1 + 1, 5, none⟩ = some (.int .i64 c5) ∧ w'.cell? ⟨gT + 1 + 1, 6, none⟩ = some (.int .i64 c6) ∧ w'.cell? ⟨gT + 1 + 1, 7, none⟩ = some (.int .i64 c7) ∧ w'.cell? ⟨gT + 1 + 1, 8, none⟩ = some (.int .i64 c8)))
                  (first | exact HKH.out _ bz | exact HKH.out _ be | exact HKH.out _ bd | exact HKH.out _ bc | exact HKH.out _ bb | exact HKH.out _ ba | go_keep)
                  (first
                    | (go_at_call 12; have hpr := bd; refine (HSe.out _).mono ?_; rintro x5 we ⟨rfl, be'⟩; have be := bd.trans (be'.mono bd.size); have bz := be.alloc be.size (.cells #[.int .i64 y0, .int .i64 y1, .int .i64 y2, .int .i64 y3, .int .i64 y4] 3))
                    | (go_at_call 12; have hpr := bc; refine (HSd.out _).mono ?_; rintro x4 wd ⟨rfl, bd'⟩; have bd := bc.trans (bd'.mono bc.size))
                    | (go_at_call 12; have hpr := bb; refine (HSc.out _).mono ?_; rintro x3 wc3 ⟨rfl, bc'⟩; have bc := bb.trans (bc'.mono bb.size))
                    | (go_at_call 12; have hpr := ba; refine (HSb.out _).mono ?_; rintro x2 wb ⟨rfl, bb'⟩; have bb := ba.trans (bb'.mono ba.size))
                    | (go_at_call 12; refine (HSa.out _).mono ?_; rintro x1 wa ⟨rfl, ba'⟩; have ba := (Below.refl w6.heap.size w6).drew.trans ba'))
                all_goals
                  go_wp2_with fail
                  go_meet
                  exact ⟨we.heap.size, rfl, Blk.new we 3 _, b46.trans (bz.mono b46.size)⟩
              case rest =>
                obtain ⟨gA, rfl, kA, b7⟩ := hcut
                clear HKH HSa HSb HSc HSd HSe
                obtain ⟨W7, rfl⟩ : ∃ W7, W7 = wc := ⟨wc, rfl⟩
                have hY4 := HY.out.2.2.2.2
                have c4c := kA.at_ (i := 4) rfl
                simp only [List.getElem_toArray, List.getElem_cons_succ, List.getElem_cons_zero] at c4c
                rw [hY4] at c4c
                have HCELL : Hid (∀ k : Nat, k < 5 → ∃ y, W7.cell? ⟨gA, k, none⟩ = some (.int .i64 y) ∧ B.More nS y) := Lib.hid (fun k hk => by
                  obtain ⟨a0, a1, a2, a3, a4⟩ := HY.out
                  match k, hk with
                  | 0, _ => exact ⟨y0, kA.cell 0, a0⟩
                  | 1, _ => exact ⟨y1, kA.cell 1, a1⟩
                  | 2, _ => exact ⟨y2, kA.cell 2, a2⟩
                  | 3, _ => exact ⟨y3, kA.cell 3, a3⟩
                  | 4, _ => exact ⟨y4, kA.cell 4, .inr (by omega)⟩)
                clear hY4 kA
                go_wp2_with fail
                go_loopg [16] 5 (fun gk s16 wr => ∃ k : Nat, k + gk = 5 ∧ s16 = .int .i64 k ∧ wr = W7)
                case atStart => exact ⟨0, by omega, rfl, rfl⟩
                case round =>
                  obtain ⟨k, hk, rfl, rfl⟩ := hrel
                  have HK := Lib.hid hk
                  by_cases hlt : k < 5
                  · clear hk
                    have hltI : (k : Int) < 5 := by omega
                    obtain ⟨y, cy, hmore⟩ := HCELL.out k hlt
                    by_cases hy : y < 0
                    · have q2 : decide (y ≥ 0) = false := decide_eq_false (by omega)
                      clear hmore
                      go_wp2_with fail
                      go_roundg (gk - 1)
                      case measure => have := HK.out; omega
                      case rel => exact ⟨k + 1, by have := HK.out; omega, by go_num, rfl⟩
                    · have q2 : decide (y ≥ 0) = true := decide_eq_true (by omega)
                      have q3 : decide (y ≤ nS) = false := decide_eq_false (by rcases hmore with h | h <;> omega)
                      clear hmore
                      go_wp2_with fail
                      go_roundg (gk - 1)
                      case measure => have := HK.out; omega
                      case rel => exact ⟨k + 1, by have := HK.out; omega, by go_num, rfl⟩
                  · clear hk
                    have hltI : ¬ (k : Int) < 5 := by omega
                    go_wp2_with fail
                    go_ret
                    exact HRETG.out _ b7
end Go.Proofs.Ytahhihhfjimppaa
