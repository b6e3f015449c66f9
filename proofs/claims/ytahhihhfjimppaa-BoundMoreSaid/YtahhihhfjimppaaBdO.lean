/- arguments: an elision by value, opened -/
import Derived.Test.YtahhihhfjimppaaBdK
import Derived.Test.YtahhihhfjimppaaSpH
namespace Go.Proofs.Ytahhihhfjimppaa
open Go.ChangeShapes Go.WideShapes Go.RowKit Go.Deep
set_option linter.unusedSimpArgs false
set_option linter.unusedVariables false
set_option maxRecDepth 100000

section
variable {H : Type} {enc : TypeId × Value → H} {w : World} {base : Nat} {spare : Nat → Bool} {held : Bool} {fuel : Nat}
theorem slice_cell {t e : TypeId} {c : Value} {x : DataW H × List MemPlace} (ht : Try.prog.underlying t = some (.slice e)) (h : DataW.trod enc Try.prog w base spare held fuel t [c] = some x) : ∃ a len cap, c = .slice a len cap ∧ len ≤ cap ∧ cap ≤ 9223372036854775807 := by
  rcases open_slice ht h with ⟨hcs, _⟩ | ⟨a, l, cc, m, n, D, Pl, hcs, hb, hl, hm, hmm, hx, hi⟩
  · injection hcs with hcs _
    exact ⟨none, 0, 0, hcs, Nat.le_refl _, by omega⟩
  · injection hcs with hcs _
    exact ⟨some a, l, cc, hcs, hl, hm⟩
/-- the cells of a use -/
def uc (z : Int) (a : Option Addr) (n c : Nat) (z1 z2 z3 z4 z5 z6 z7 : Int) (b : Bool) : List Value := [.int .i64 z, .slice a n c, .int .i64 z1, .int .i64 z2, .int .i64 z3, .int .i64 z4, .int .i64 z5, .int .i64 z6, .int .i64 z7, .bool b]
theorem flat_op : Flat Try.prog 44 := by
  refine flat_struct Try.underlying44 (by kernel_rfl) ?_
  intro f hf
  have hi : Flat Try.prog 3 := flat_int Try.underlying3
  simp only [List.mem_cons, List.not_mem_nil, or_false] at hf
  rcases hf with rfl | rfl | rfl | rfl <;> exact hi
theorem list10 {cs : List Value} (h : cs.length = 10) : ∃ a b c d e f g i j k, cs = [a, b, c, d, e, f, g, i, j, k] := by
  match cs, h with
  | [a, b, c, d, e, f, g, i, j, k], _ => exact ⟨a, b, c, d, e, f, g, i, j, k, rfl⟩
theorem list11 {cs : List Value} (h : cs.length = 11) : ∃ a b c d e f g i j k l, cs = [a, b, c, d, e, f, g, i, j, k, l] := by
  match cs, h with
  | [a, b, c, d, e, f, g, i, j, k, l], _ => exact ⟨a, b, c, d, e, f, g, i, j, k, l, rfl⟩
theorem use_cells {cs : List Value} {x : DataW H × List MemPlace} (h : DataW.trod enc Try.prog w base spare held fuel 46 cs = some x) : ∃ z a n c z1 z2 z3 z4 z5 z6 z7 b, cs = uc z a n c z1 z2 z3 z4 z5 z6 z7 b := by
  obtain ⟨ys, n, _, _, hlen, hyl, hg⟩ := DataW.trod_struct Try.underlying46 h
  have hC : Try.prog.cellsOf 46 = 10 := by kernel_rfl
  obtain ⟨c0, c1, c2, c3, c4, c5, c6, c7, c8, c9, rfl⟩ := list10 (hlen.trans hC)
  have k3 : Try.prog.cellsOf 3 = 1 := by kernel_rfl
  have k4 : Try.prog.cellsOf 4 = 1 := by kernel_rfl
  have k23 : Try.prog.cellsOf 23 = 1 := by kernel_rfl
  have k44 : Try.prog.cellsOf 44 = 4 := by kernel_rfl
  have hi : Try.prog.underlying 3 = some (.int .i64) := Try.underlying3
  have hb : Try.prog.underlying 4 = some .bool := Try.underlying4
  have hy : ∀ j, j < 7 → ∃ y, ys[j]? = some y := fun j hj => ⟨_, List.getElem?_eq_getElem (by rw [hyl]; exact hj)⟩
  obtain ⟨u0, v0⟩ := hy 0 (by omega)
  obtain ⟨u1, v1⟩ := hy 1 (by omega)
  obtain ⟨u2, v2⟩ := hy 2 (by omega)
  obtain ⟨u3, v3⟩ := hy 3 (by omega)
  obtain ⟨u4, v4⟩ := hy 4 (by omega)
  obtain ⟨u5, v5⟩ := hy 5 (by omega)
  obtain ⟨u6, v6⟩ := hy 6 (by omega)
  have h0 : DataW.trod enc Try.prog w base spare held n 3 (List.take (Try.prog.cellsOf 3) (List.drop 0 [c0, c1, c2, c3, c4, c5, c6, c7, c8, c9])) = some u0 := (hg 0 _ rfl).trans v0
  have h1 : DataW.trod enc Try.prog w base spare held n 23 (List.take (Try.prog.cellsOf 23) (List.drop 1 [c0, c1, c2, c3, c4, c5, c6, c7, c8, c9])) = some u1 := (hg 1 _ rfl).trans v1
  have h2 : DataW.trod enc Try.prog w base spare held n 3 (List.take (Try.prog.cellsOf 3) (List.drop 2 [c0, c1, c2, c3, c4, c5, c6, c7, c8, c9])) = some u2 := (hg 2 _ rfl).trans v2
  have h3 : DataW.trod enc Try.prog w base spare held n 3 (List.take (Try.prog.cellsOf 3) (List.drop 3 [c0, c1, c2, c3, c4, c5, c6, c7, c8, c9])) = some u3 := (hg 3 _ rfl).trans v3
  have h4 : DataW.trod enc Try.prog w base spare held n 44 (List.take (Try.prog.cellsOf 44) (List.drop 4 [c0, c1, c2, c3, c4, c5, c6, c7, c8, c9])) = some u4 := (hg 4 _ rfl).trans v4
  have h5 : DataW.trod enc Try.prog w base spare held n 3 (List.take (Try.prog.cellsOf 3) (List.drop 8 [c0, c1, c2, c3, c4, c5, c6, c7, c8, c9])) = some u5 := (hg 5 _ rfl).trans v5
  have h6 : DataW.trod enc Try.prog w base spare held n 4 (List.take (Try.prog.cellsOf 4) (List.drop 9 [c0, c1, c2, c3, c4, c5, c6, c7, c8, c9])) = some u6 := (hg 6 _ rfl).trans v6
  rw [k3] at h0 h2 h3 h5
  rw [k23] at h1
  rw [k44] at h4
  rw [k4] at h6
  simp only [List.drop_succ_cons, List.drop_zero, List.take_succ_cons, List.take_zero] at h0 h1 h2 h3 h4 h5 h6
  obtain ⟨a0, q0, _, _⟩ := DataW.trod_int hi h0
  obtain ⟨a2, q2, _, _⟩ := DataW.trod_int hi h2
  obtain ⟨a3, q3, _, _⟩ := DataW.trod_int hi h3
  obtain ⟨a8, q8, _, _⟩ := DataW.trod_int hi h5
  obtain ⟨b9, q9, _⟩ := DataW.trod_bool hb h6
  obtain ⟨sa, sn, sc, q1, _, _⟩ := slice_cell Try.underlying23 h1
  have hn := flat_op h4
  obtain ⟨a4, q4, _⟩ := hn c4 (by simp)
  obtain ⟨a5, q5, _⟩ := hn c5 (by simp)
  obtain ⟨a6, q6, _⟩ := hn c6 (by simp)
  obtain ⟨a7, q7, _⟩ := hn c7 (by simp)
  injection q0 with q0 _
  injection q2 with q2 _
  injection q3 with q3 _
  injection q8 with q8 _
  injection q9 with q9 _
  subst q0 q1 q2 q3 q4 q5 q6 q7 q8 q9
  exact ⟨_, _, _, _, _, _, _, _, _, _, _, _, rfl⟩

/-- a row of uses: its cells, and its strands -/
structure IsUses (w : World) (A : Option Addr) (len cap : Nat) (xs : List Value) (zs : List Int) : Prop where
  nz : zs.length = len
  nx : xs.length = len * 10
  rd : Rd w w.heap.size A xs
  one : ∀ u ∈ xs, u.oneCell' = true
  at_ : ∀ i (h : i < zs.length), xs[i * 10]? = some (.int .i64 zs[i])
  cap : len ≤ cap ∧ cap ≤ 9223372036854775807
theorem IsUses.strs {A : Option Addr} {len cap : Nat} {xs : List Value} {zs : List Int} (h : IsUses w A len cap xs zs) : StrsI w w.heap.size A zs := by
  rcases h.rd with h0 | ⟨b, off, rfl, hb, hc⟩
  · left
    have h1 := h.nx
    have h2 := h.nz
    rw [h0] at h1
    simp at h1
    exact List.eq_nil_of_length_eq_zero (by omega)
  · exact .inr ⟨b, off, rfl, hb, fun i hi => hc _ _ (h.at_ i hi)⟩
theorem uses_upto {a : Addr} : ∀ (len : Nat), (∀ i, i < len → ∃ cs, (w.cells? base (a.add (i * 10)) 10 = some cs) ∧ ∃ z a n c z1 z2 z3 z4 z5 z6 z7 b, cs = uc z a n c z1 z2 z3 z4 z5 z6 z7 b) →
    ∃ (xs : List Value) (zs : List Int), zs.length = len ∧ xs.length = len * 10 ∧ (∀ u ∈ xs, u.oneCell' = true) ∧ (∀ i (h : i < zs.length), xs[i * 10]? = some (.int .i64 zs[i])) ∧ ∀ j u, xs[j]? = some u → w.cell? (a.add j) = some u := by
  intro len
  induction len with
  | zero => intro _; exact ⟨[], [], rfl, rfl, fun _ h => by simp at h, fun i h => by simp at h, fun j u h => by simp at h⟩
  | succ len ih =>
    intro h
    obtain ⟨xs, zs, hz, hx, h1, hat0, hc⟩ := ih (fun i hi => h i (by omega))
    obtain ⟨cs, hcs, z, aa, n, c, z1, z2, z3, z4, z5, z6, z7, b, rfl⟩ := h len (by omega)
    obtain ⟨_, hcl, hat⟩ := World.cells?_some hcs
    refine ⟨xs ++ uc z aa n c z1 z2 z3 z4 z5 z6 z7 b, zs ++ [z], by simp [hz], by rw [List.length_append, hx, Nat.add_mul]; rfl, ?_, ?_, ?_⟩
    · intro u hu
      rcases List.mem_append.1 hu with hu | hu
      · exact h1 u hu
      · simp only [uc, List.mem_cons, List.not_mem_nil, or_false] at hu
        rcases hu with rfl | rfl | rfl | rfl | rfl | rfl | rfl | rfl | rfl | rfl <;> rfl
    · intro i hi
      rw [List.length_append, List.length_singleton] at hi
      by_cases hi2 : i < zs.length
      · rw [List.getElem?_append_left (by omega), hat0 i hi2, List.getElem_append_left hi2]
      · obtain rfl : i = zs.length := by omega
        rw [List.getElem?_append_right (by omega), show zs.length * 10 - xs.length = 0 by omega]
        simp [uc]
    · intro j u hu
      by_cases hj : j < xs.length
      · rw [List.getElem?_append_left hj] at hu; exact hc j u hu
      · rw [List.getElem?_append_right (by omega)] at hu
        have hjk : j - xs.length < 10 := (List.getElem?_eq_some_iff.1 hu).1
        have := hat _ hjk
        rw [Go.Deep.add_add] at this
        rw [hx] at this hu hj
        rw [show len * 10 + (j - len * 10) = j by omega] at this
        rw [this, hu]
theorem open_uses {fuel : Nat} {A : Option Addr} {len cap : Nat} {x : DataW H × List MemPlace}
    (h : DataW.trod enc Try.prog w base (fun _ => true) held fuel 25 [Value.slice A len cap] = some x) : ∃ xs zs, IsUses w A len cap xs zs := by
  have hC : Try.prog.cellsOf 46 = 10 := by kernel_rfl
  rcases open_slice Try.underlying25 h with ⟨hcs, _⟩ | ⟨a, l, c, m, n, D, Pl, hcs, hb, hl, hm, hmm, hx, hi⟩
  · simp at hcs
    obtain ⟨rfl, rfl, rfl⟩ := hcs
    exact ⟨[], [], rfl, rfl, .inl rfl, fun _ h => by simp at h, fun i h => by simp at h, Nat.le_refl _, by omega⟩
  · simp at hcs
    obtain ⟨rfl, rfl, rfl⟩ := hcs
    simp only [if_true] at hmm
    subst hmm
    rw [hC] at hi
    obtain ⟨xs, zs, hz, hxl, h1, hat, hc⟩ := uses_upto (w := w) (base := base) (a := a) len (fun i hil => by
      obtain ⟨cs', h1, h2⟩ := hi i (by omega)
      exact ⟨cs', h1, use_cells h2⟩)
    refine ⟨xs, zs, hz, hxl, ?_, h1, hat, hl, hm⟩
    refine Rd.top (B := a.block + 1) ?_
    rcases Nat.eq_zero_or_pos len with h0 | hp
    · left
      exact List.eq_nil_of_length_eq_zero (by omega)
    · have hsp : a.spot = none := by
        have := World.cell?_spot (hc 0 _ (List.getElem?_eq_getElem (by omega)))
        simpa [Addr.add] using this
      obtain ⟨b, off, sp⟩ := a
      simp only at hsp
      subst hsp
      refine .inr ⟨b, off, rfl, by simp, fun j u hu => ?_⟩
      have := hc j u hu
      rw [Addr.add_lit] at this
      exact this
/-- what an elision is read as -/
structure IsEl (w : World) (E : El) (xs : List Value) (zs : List Int) (l : List S.Five) : Prop where
  uses : IsUses w E.A6 E.n6 E.c6 xs zs
  splits : Rd w w.heap.size E.A7 (fcs l)
  nl : E.n7 = l.length
  t9 : (Lit.int .i64 E.e9).wf = true
theorem open_el {fuel : Nat} {cs : List Value} {x : DataW H × List MemPlace} (h : DataW.trod enc Try.prog w base (fun _ => true) held fuel 29 cs = some x) : ∃ E : El, cs = E.cs.toList ∧ ∃ xs zs l, IsEl w E xs zs l := by
  obtain ⟨ys, n, _, _, hlen, hyl, hg⟩ := DataW.trod_struct Try.underlying29 h
  have hC : Try.prog.cellsOf 29 = 11 := by kernel_rfl
  obtain ⟨c0, c1, c2, c3, c4, c5, c6, c7, c8, c9, c10, rfl⟩ := list11 (hlen.trans hC)
  have k3 : Try.prog.cellsOf 3 = 1 := by kernel_rfl
  have kE : Try.prog.cellsOf 22 = 1 := by kernel_rfl
  have k23 : Try.prog.cellsOf 23 = 1 := by kernel_rfl
  have k24 : Try.prog.cellsOf 24 = 1 := by kernel_rfl
  have k25 : Try.prog.cellsOf 25 = 1 := by kernel_rfl
  have k26 : Try.prog.cellsOf 26 = 1 := by kernel_rfl
  have k27 : Try.prog.cellsOf 27 = 1 := by kernel_rfl
  have hi : Try.prog.underlying 3 = some (.int .i64) := Try.underlying3
  have hE : Try.prog.underlying 22 = some (.int .i64) := Try.underlying22
  have hy : ∀ j, j < 11 → ∃ y, ys[j]? = some y := fun j hj => ⟨_, List.getElem?_eq_getElem (by rw [hyl]; exact hj)⟩
  obtain ⟨u0, v0⟩ := hy 0 (by omega)
  have h0 : DataW.trod enc Try.prog w base (fun _ => true) held n 22 (List.take (Try.prog.cellsOf 22) (List.drop 0 [c0, c1, c2, c3, c4, c5, c6, c7, c8, c9, c10])) = some u0 := (hg 0 _ rfl).trans v0
  obtain ⟨u1, v1⟩ := hy 1 (by omega)
  have h1 : DataW.trod enc Try.prog w base (fun _ => true) held n 3 (List.take (Try.prog.cellsOf 3) (List.drop 1 [c0, c1, c2, c3, c4, c5, c6, c7, c8, c9, c10])) = some u1 := (hg 1 _ rfl).trans v1
  obtain ⟨u2, v2⟩ := hy 2 (by omega)
  have h2 : DataW.trod enc Try.prog w base (fun _ => true) held n 23 (List.take (Try.prog.cellsOf 23) (List.drop 2 [c0, c1, c2, c3, c4, c5, c6, c7, c8, c9, c10])) = some u2 := (hg 2 _ rfl).trans v2
  obtain ⟨u3, v3⟩ := hy 3 (by omega)
  have h3 : DataW.trod enc Try.prog w base (fun _ => true) held n 24 (List.take (Try.prog.cellsOf 24) (List.drop 3 [c0, c1, c2, c3, c4, c5, c6, c7, c8, c9, c10])) = some u3 := (hg 3 _ rfl).trans v3
  obtain ⟨u4, v4⟩ := hy 4 (by omega)
  have h4 : DataW.trod enc Try.prog w base (fun _ => true) held n 24 (List.take (Try.prog.cellsOf 24) (List.drop 4 [c0, c1, c2, c3, c4, c5, c6, c7, c8, c9, c10])) = some u4 := (hg 4 _ rfl).trans v4
  obtain ⟨u5, v5⟩ := hy 5 (by omega)
  have h5 : DataW.trod enc Try.prog w base (fun _ => true) held n 24 (List.take (Try.prog.cellsOf 24) (List.drop 5 [c0, c1, c2, c3, c4, c5, c6, c7, c8, c9, c10])) = some u5 := (hg 5 _ rfl).trans v5
  obtain ⟨u6, v6⟩ := hy 6 (by omega)
  have h6 : DataW.trod enc Try.prog w base (fun _ => true) held n 25 (List.take (Try.prog.cellsOf 25) (List.drop 6 [c0, c1, c2, c3, c4, c5, c6, c7, c8, c9, c10])) = some u6 := (hg 6 _ rfl).trans v6
  obtain ⟨u7, v7⟩ := hy 7 (by omega)
  have h7 : DataW.trod enc Try.prog w base (fun _ => true) held n 26 (List.take (Try.prog.cellsOf 26) (List.drop 7 [c0, c1, c2, c3, c4, c5, c6, c7, c8, c9, c10])) = some u7 := (hg 7 _ rfl).trans v7
  obtain ⟨u8, v8⟩ := hy 8 (by omega)
  have h8 : DataW.trod enc Try.prog w base (fun _ => true) held n 3 (List.take (Try.prog.cellsOf 3) (List.drop 8 [c0, c1, c2, c3, c4, c5, c6, c7, c8, c9, c10])) = some u8 := (hg 8 _ rfl).trans v8
  obtain ⟨u9, v9⟩ := hy 9 (by omega)
  have h9 : DataW.trod enc Try.prog w base (fun _ => true) held n 3 (List.take (Try.prog.cellsOf 3) (List.drop 9 [c0, c1, c2, c3, c4, c5, c6, c7, c8, c9, c10])) = some u9 := (hg 9 _ rfl).trans v9
  obtain ⟨u10, v10⟩ := hy 10 (by omega)
  have h10 : DataW.trod enc Try.prog w base (fun _ => true) held n 27 (List.take (Try.prog.cellsOf 27) (List.drop 10 [c0, c1, c2, c3, c4, c5, c6, c7, c8, c9, c10])) = some u10 := (hg 10 _ rfl).trans v10
  rw [kE] at h0
  rw [k3] at h1 h8 h9
  rw [k23] at h2
  rw [k24] at h3 h4 h5
  rw [k25] at h6
  rw [k26] at h7
  rw [k27] at h10
  simp only [List.drop_succ_cons, List.drop_zero, List.take_succ_cons, List.take_zero] at h0 h1 h2 h3 h4 h5 h6 h7 h8 h9 h10
  obtain ⟨e0, q0, _, _⟩ := DataW.trod_int hE h0
  obtain ⟨e1, q1, _, _⟩ := DataW.trod_int hi h1
  obtain ⟨e8, q8, _, _⟩ := DataW.trod_int hi h8
  obtain ⟨e9, q9, _, f9⟩ := DataW.trod_int hi h9
  obtain ⟨A2, n2, p2, q2, _, _⟩ := slice_cell Try.underlying23 h2
  obtain ⟨A3, n3, p3, q3, _, _⟩ := slice_cell Try.underlying24 h3
  obtain ⟨A4, n4, p4, q4, _, _⟩ := slice_cell Try.underlying24 h4
  obtain ⟨A5, n5, p5, q5, _, _⟩ := slice_cell Try.underlying24 h5
  obtain ⟨A6, n6, p6, q6, _, _⟩ := slice_cell Try.underlying25 h6
  obtain ⟨A7, n7, p7, q7, _, _⟩ := slice_cell Try.underlying26 h7
  obtain ⟨A10, n10, p10, q10, _, _⟩ := slice_cell Try.underlying27 h10
  injection q0 with q0 _
  injection q1 with q1 _
  injection q8 with q8 _
  injection q9 with q9 _
  subst q0 q1 q2 q3 q4 q5 q6 q7 q8 q9 q10
  obtain ⟨xs, zs, hu⟩ := open_uses h6
  obtain ⟨ws, hw⟩ : ∃ ws, IsFlat 5 w A7 n7 p7 ws := open_flat Try.underlying26 flat_split (by kernel_rfl) (by omega) h7
  obtain ⟨l, hl, hr⟩ := flat_fives hw
  exact ⟨⟨e0, e1, A2, n2, p2, A3, n3, p3, A4, n4, p4, A5, n5, p5, A6, n6, p6, A7, n7, p7, e8, e9, A10, n10, p10⟩, rfl, xs, zs, l, hu, hr, hl.symm, f9⟩
end
end Go.Proofs.Ytahhihhfjimppaa
