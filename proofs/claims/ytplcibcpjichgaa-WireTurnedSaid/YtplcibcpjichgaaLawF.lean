/- the walk of the law WireTurned, and of the function within it -/
import Derived.Test.YtplcibcpjichgaaLawE
namespace Go.Proofs.Ytplcibcpjichgaa
open Go.RowKit
set_option linter.unusedSimpArgs false
set_option linter.unusedVariables false
set_option maxRecDepth 100000

theorem step_app {P : Program} (w : World) {ops : Array Oper} {o : Oper} {a : Act} {K : Act → World → Prop} {Q : Exit → Act → World → Prop} {E : Prop} (hgd : o.guard = none) (s x : Operand) (t tx : TypeId)
    (ho : o.op = .call { callee := .builtin .append, args := #[s, x], argTypes := #[t, tx] })
    (base : Nat) (e : TypeId) (i : TypeInfo) (z : Value) (size bytes : Nat) (ht : P.underlying t = some (.slice e)) (hi : P.info? e = some i) (hz : i.zero = some z)
    (hsize : i.size = size) (hby : i.bytes = bytes) (hzs : z.cells.size = size) (hsz : 0 < size)
    (v : Value) (n : Nat) (xs : List Value) (hv : a.eval s = v) (hown : w.ownsRow base e size v n xs) (xv : Value) (m : Nat) (news : List Value) (hx : a.eval x = xv) (hs : Src P size tx xv m news w)
    (h63 : n + m ≤ maxLen) (hbytes : (n + m) * bytes ≤ 140737488355328) (hbase : base ≤ w.heap.size)
    (h : ∀ v' w', w'.ownsRow base e size v' (n + m) (xs ++ news) → w.grownBy w' v.ownBlock → (v'.ownBlock = v.ownBlock ∨ v'.ownBlock = some (w.heap.size + 0)) → K (a.put o.dst v') w') :
    if Region.wanted o (yielded ops a.tmps) = true then Oper.wp P o a w K Q else E := by
  have hw : Region.wanted o (yielded ops a.tmps) = true := by simp [Region.wanted, hgd]
  rw [if_pos hw]
  exact wp_app w s x t tx ho base e i z size bytes ht hi hz hsize hby hzs hsz v n xs hv hown xv m news hx hs h63 hbytes hbase h

set_option maxHeartbeats 1000000 in
theorem of_any (g1 g2 : Nat) (A1 A2 A : Option Addr) (c1 c2 c : Nat) (x y l : List Nat) (w : World) (k1 : w.cell? ⟨g1, 0, none⟩ = some (.slice A1 x.length c1)) (k2 : w.cell? ⟨g2, 0, none⟩ = some (.slice A2 y.length c2))
    (r1 : Rd w w.heap.size A1 (bs x)) (r2 : Rd w w.heap.size A2 (bs y)) (r : Rd w w.heap.size A (bs l)) (hx : x.length ≤ 1000) (hy : y.length ≤ 1000) (hl : l.length ≤ 1000) :
    Calls Try.prog 35 #[.slice A l.length c, .pointer (some ⟨g1, 0, none⟩), .pointer (some ⟨g2, 0, none⟩)] w (Made w (x ++ l ++ y)) := by
  obtain ⟨i0, hi, hz0, hz1, hz2⟩ := info_parts info_u8
  have l1 := World.block_lt_of_cell? w _ k1
  have l2 := World.block_lt_of_cell? w _ k2
  have HK : Hid (∀ w', Below w.heap.size w w' → w'.cell? ⟨g1, 0, none⟩ = some (.slice A1 x.length c1) ∧ w'.cell? ⟨g2, 0, none⟩ = some (.slice A2 y.length c2)) := fun w' hb => ⟨(hb.cell (p := ⟨g1, 0, none⟩) l1).trans k1, (hb.cell (p := ⟨g2, 0, none⟩) l2).trans k2⟩
  have hb0 : Below w.heap.size w (w.alloc (.cells #[] 5)).drew := (bel_alloc w _).drew
  have ho0 : (w.alloc (.cells #[] 5)).drew.ownsRow w.heap.size 5 1 (.slice (some ⟨w.heap.size, 0, none⟩) 0 0) 0 [] := (World.ownsRow_made w #[] 0 (Nat.le_refl _) (by simp) (by simp)).drew
  have s1 := r1.on hb0
  go_enter Try.func35, Try.ntmps35
  go_wp2_with fail
  go_region_held3 (fun w' => w'.cell? ⟨g1, 0, none⟩ = some (.slice A1 x.length c1) ∧ w'.cell? ⟨g2, 0, none⟩ = some (.slice A2 y.length c2))
    (first | go_keep | exact HK.out _ hb3 | exact HK.out _ hb2 | exact HK.out _ hb1 | exact HK.out _ hb0)
    (first
      | (refine step_app _ (by rfl) (.tmp 5) (.tmp 6) 24 24 (by rfl) w.heap.size 5 i0 _ 1 1 Try.underlying24 hi hz0 hz1 hz2 rfl (by omega) (.slice (some ⟨w.heap.size, 0, none⟩) 0 0) 0 [] (by rfl) ho0 (.slice A1 x.length c1) x.length (bs x) (by rfl) (src_rd _ Try.underlying24 (bs_length _).symm s1 (bs_one _)) (by simp only [maxLen]; omega) (by omega) (by simp) ?_
         intro v1 w1 ho1 hg1 hat1
         have hb1 : Below w.heap.size w w1 := hb0.grown hg1 (by simp) (fun k hk => (ho0.lt k hk).1)
         have s2 := r.on hb1)
      | (refine step_app _ (by rfl) (.tmp 7) (.tmp 8) 24 24 (by rfl) w.heap.size 5 i0 _ 1 1 Try.underlying24 hi hz0 hz1 hz2 rfl (by omega) v1 (0 + x.length) ([] ++ bs x) (by rfl) ho1 (.slice A l.length c) l.length (bs l) (by rfl) (src_rd _ Try.underlying24 (bs_length _).symm s2 (bs_one _)) (by simp only [maxLen]; omega) (by omega) hb1.size ?_
         intro v2 w2 ho2 hg2 hat2
         have hb2 : Below w.heap.size w w2 := hb1.grown hg2 hb1.size (fun k hk => (ho1.lt k hk).1)
         have s3 := r2.on hb2)
      | (refine step_app _ (by rfl) (.tmp 9) (.tmp 10) 24 24 (by rfl) w.heap.size 5 i0 _ 1 1 Try.underlying24 hi hz0 hz1 hz2 rfl (by omega) v2 (0 + x.length + l.length) ([] ++ bs x ++ bs l) (by rfl) ho2 (.slice A2 y.length c2) y.length (bs y) (by rfl) (src_rd _ Try.underlying24 (bs_length _).symm s3 (bs_one _)) (by simp only [maxLen]; omega) (by omega) hb2.size ?_
         intro v3 w3 ho3 hg3 hat3
         have hb3 : Below w.heap.size w w3 := hb2.grown hg3 hb2.size (fun k hk => (ho2.lt k hk).1)))
  go_wp2
  go_ret
  exact Made.of (v := v3) (n := 0 + x.length + l.length + y.length) (by simp; omega) (by rw [bs_append, bs_append]; simpa using ho3) hb3
end Go.Proofs.Ytplcibcpjichgaa
