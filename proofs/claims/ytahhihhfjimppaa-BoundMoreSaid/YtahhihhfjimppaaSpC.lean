/- walks: the state's turn -/
import Derived.Test.YtahhihhfjimppaaSpB
import Derived.Test.YtahhihhfjimppaaStep
import Derived.Deep.RegionLaw
namespace Go.Proofs.Ytahhihhfjimppaa
open Go.RowKit
set_option linter.unusedSimpArgs false
set_option linter.unusedVariables false
set_option maxRecDepth 100000

theorem info_task : (Try.prog.info? 74).map (fun i => (i.zero, i.size, i.bytes)) = some (some (.agg #[.int .i64 0, .int .i64 0]), 2, 16) := by kernel_rfl
theorem tcs_set (ts : List (Nat × Nat)) (k : Nat) (s j : Nat) : ((tcs ts).set (k * 2) (.int .i64 (s : Int))).set (k * 2 + 1) (.int .i64 (j : Int)) = tcs (ts.set k (s, j)) := by
  induction ts generalizing k with
  | nil => rfl
  | cons t ts ih =>
    have e : tcs (t :: ts) = Value.int .i64 (t.1 : Int) :: Value.int .i64 (t.2 : Int) :: tcs ts := rfl
    rw [e]
    cases k with
    | zero => rfl
    | succ k =>
      rw [show (k + 1) * 2 = k * 2 + 1 + 1 by omega]
      simp only [List.set_cons_succ]
      rw [ih k]
      rfl
theorem tcs_append (a b : List (Nat × Nat)) : tcs (a ++ b) = tcs a ++ tcs b := by simp [tcs]
theorem tcs_take (ts : List (Nat × Nat)) (k : Nat) : tcs (ts.take k) = (tcs ts).take (k * 2) := by
  induction ts generalizing k with
  | nil => simp [tcs]
  | cons t ts ih =>
    have e : tcs (t :: ts) = Value.int .i64 (t.1 : Int) :: Value.int .i64 (t.2 : Int) :: tcs ts := rfl
    cases k with
    | zero => rfl
    | succ k =>
      rw [show (k + 1) * 2 = k * 2 + 1 + 1 by omega, e]
      simp only [List.take_succ_cons]
      rw [← ih k]
      rfl

theorem Own.take {w : World} {e : TypeId} {size g n cap m : Nat} {xs : List Value} (h : Own w e size g n cap xs) (hm : m ≤ n) : Own w e size g m cap (xs.take (m * size)) := by
  obtain ⟨cur, hb, h1, h2, h3, h4⟩ := h.blk
  have hle : m * size ≤ n * size := Nat.mul_le_mul_right _ hm
  refine ⟨by rw [List.length_take, h.len]; omega, .inr ⟨g, cap, cur, rfl, Nat.zero_le _, hb, by omega, h2, h3, ?_⟩⟩
  rw [← h4, List.take_take]
  congr 1
  omega
theorem St.set {w : World} {bx g cap n m : Nat} {ts : List (Nat × Nat)} (h : St w bx g cap ts n) (hm : ts.length = m + 1) (s j : Nat) :
    St ((w.setCell ⟨g, m * 2, none⟩ (.int .i64 (s : Int))).setCell ⟨g, m * 2 + 1, none⟩ (.int .i64 (j : Int))) bx g cap (ts.set m (s, j)) n := by
  refine ⟨?_, ?_, h.ne⟩
  · rw [List.length_set]
    exact (h.box.far (p := ⟨g, m * 2, none⟩) h.ne _).far (p := ⟨g, m * 2 + 1, none⟩) h.ne _
  · rw [List.length_set, ← tcs_set]
    exact (h.row.set _ _).set _ _
/-- what turn leaves -/
def Turned (w : World) (bx g : Nat) (ts : List (Nat × Nat)) (n : Nat) (e : Ending) (w' : World) : Prop :=
  e = .returned (.tuple #[]) ∧ ∃ g' cap', St w' bx g' cap' ts n ∧ Fr (fun k => k = bx ∨ k = g) w w' ∧ (g' = g ∨ w.heap.size ≤ g')

set_option maxHeartbeats 400000 in
theorem turn_end (bx g cap n m a d : Nat) (ts : List (Nat × Nat)) (w : World) (h : St w bx g cap ts n) (hm : ts.length = m + 1) (hl : m ≤ 1000) :
    Calls Try.prog 30 #[.pointer (some ⟨bx, 0, none⟩), .agg #[.int .i64 2, .int .i64 a, .int .i64 0, .int .i64 0, .int .i64 d]] w (Turned w bx g (ts.take m) n) := by
  obtain ⟨c0, c1⟩ := h.cells hm
  have hbl := h.box.lt
  have hgl := h.row.lt
  have f0 := h.box.frozen 0
  have hcap := h.row.caps
  rw [hm] at hcap
  obtain ⟨hcap1, hcap2⟩ := hcap
  go_enter Try.func30, Try.ntmps30
  go_wp2
  go_end0
  have hlt : (ts.take m).length = m := by rw [List.length_take]; omega
  refine ⟨rfl, g, cap, ⟨?_, ?_, h.ne⟩, ((Fr.refl _ w).setCell (.inl (.inl rfl)) _).alloc _, .inl rfl⟩
  · rw [hlt]
    have := (h.box.set 0 (.slice (some ⟨g, 0, none⟩) m cap)).alloc (.cells #[.int .i64 2, .int .i64 (a : Int), .int .i64 0, .int .i64 0, .int .i64 (d : Int)] 59)
    simpa using this
  · rw [hlt, tcs_take]
    exact ((h.row.take (m := m) (by omega)).far (p := ⟨bx, 0, none⟩) h.ne _).alloc _

set_option maxHeartbeats 400000 in
theorem turn_join (bx g cap n m a d : Nat) (ts : List (Nat × Nat)) (w : World) (h : St w bx g cap ts n) (hm : ts.length = m + 1) (hl : m ≤ 1000) :
    Calls Try.prog 30 #[.pointer (some ⟨bx, 0, none⟩), .agg #[.int .i64 3, .int .i64 a, .int .i64 0, .int .i64 0, .int .i64 d]] w (Turned w bx g (ts.set m (d, 0)) n) := by
  obtain ⟨c0, c1⟩ := h.cells hm
  have hbl := h.box.lt
  have hgl := h.row.lt
  obtain ⟨s, j, hsj, ca, cb⟩ := h.at_ m (by omega)
  go_enter Try.func30, Try.ntmps30
  go_wp2
  have hb1 := Blk.new w 59 #[.int .i64 3, .int .i64 (a : Int), .int .i64 0, .int .i64 0, .int .i64 (d : Int)]
  have h1 : St (w.alloc (.cells #[.int .i64 3, .int .i64 (a : Int), .int .i64 0, .int .i64 0, .int .i64 (d : Int)] 59)) bx g cap ts n := ⟨h.box.alloc _, h.row.alloc _, h.ne⟩
  have hf1 := (Fr.refl (fun k => k = bx ∨ k = g) w).alloc (.cells #[.int .i64 3, .int .i64 (a : Int), .int .i64 0, .int .i64 0, .int .i64 (d : Int)] 59)
  generalize w.alloc (.cells #[.int .i64 3, .int .i64 (a : Int), .int .i64 0, .int .i64 0, .int .i64 (d : Int)] 59) = w1 at hb1 h1 hf1 ⊢
  clear c0 c1 ca cb h
  obtain ⟨c0, c1⟩ := h1.cells hm
  obtain ⟨s, j, hsj, ca, cb⟩ := h1.at_ m (by omega)
  have fa := h1.row.frozen (m * 2)
  have fb := h1.row.frozen (m * 2 + 1)
  have x4 := hb1.at_ (i := 4) rfl
  clear hsj
  go_region
  all_goals
    go_end0
    have h2 := h1.set hm d 0
    exact ⟨rfl, g, cap, ⟨h2.box, h2.row, h2.ne⟩, ((hf1.setCell (.inl (.inr rfl)) _).setCell (.inl (.inr rfl)) _).drew, .inl rfl⟩

theorem fork_app {ops : Array Oper} {o : Oper} {a : Act} {K : Act → World → Prop} {Q : Exit → Act → World → Prop} {E : Prop} {w2 : World} {bx g cap n m b : Nat} {ts : List (Nat × Nat)} (h2 : St w2 bx g cap ts n) (hm : ts.length = m + 1) (hl : m ≤ 1000) (hgd : o.guard = none) (s x : Operand)
    (ho : o.op = .call { callee := .builtin .append, args := #[s, x], argTypes := #[75, 75] })
    (hs : a.eval s = .slice (some ⟨g, 0, none⟩) (m + 1) cap) (hx : a.eval x = .slice (some ⟨w2.heap.size, 0, none⟩) 1 1)
    (hk : ∀ g3 cap3 w3, Own w3 74 2 g3 (m + 1 + 1) cap3 (tcs (ts ++ [(b, 0)])) → Blk w3 bx 77 #[.slice (some ⟨g, 0, none⟩) (m + 1) cap, .int .i64 (n : Int)] → Fr (fun k => k = bx ∨ k = g) w2 w3 → bx ≠ g3 → (g3 = g ∨ w2.heap.size ≤ g3) → K (a.put o.dst (.slice (some ⟨g3, 0, none⟩) (m + 1 + 1) cap3)) w3) :
    if Region.wanted o (yielded ops a.tmps) = true then Oper.wp Try.prog o a (w2.drew.alloc (.cells #[.int .i64 (b : Int), .int .i64 0] 74)) K Q else E := by
  obtain ⟨i0, hi, hz0, hz1, hz2⟩ := info_parts info_task
  have b0 : bx < w2.heap.size := h2.box.lt
  have own2 : Own (w2.drew.alloc (.cells #[.int .i64 (b : Int), .int .i64 0] 74)) 74 2 g (m + 1) cap (tcs ts) := by
    have := h2.row
    rw [hm] at this
    exact (this : Own w2.drew 74 2 g (m + 1) cap (tcs ts)).alloc _
  have hf2 : Fr (fun k => k = bx ∨ k = g) w2 (w2.drew.alloc (.cells #[.int .i64 (b : Int), .int .i64 0] 74)) := ((Fr.refl _ w2).drew).alloc _
  have hb2 : Blk (w2.drew.alloc (.cells #[.int .i64 (b : Int), .int .i64 0] 74)) bx 77 #[.slice (some ⟨g, 0, none⟩) (m + 1) cap, .int .i64 (n : Int)] := by
    have := h2.box
    rw [hm] at this
    exact this.drew.alloc _
  refine step_append_lies _ hgd s x 75 ho 0 74 i0 _ 2 16 Try.underlying75 hi hz0 hz1 hz2 (by rfl) (by omega) (.slice (some ⟨g, 0, none⟩) (m + 1) cap) (m + 1) (tcs ts) hs own2 ⟨w2.heap.size, 0, none⟩ 1 1 [.int .i64 (b : Int), .int .i64 0] hx (by rfl) (World.news_of_block (cs := #[.int .i64 (b : Int), .int .i64 0]) (heap_alloc_new w2.drew _)) (by simp [Value.oneCell']) (by omega) (by simp only [maxLen]; omega) (by omega) (by simp) (w2.heap.size + 1) (by simp) ?_
  intro g3 cap3 w3 own3 hgrow hat hlt
  simp [Value.ownBlock] at hat
  have hne := h2.ne
  refine hk g3 cap3 w3 ?_ ?_ (hf2.grown hgrow (fun k hk => by simp [Value.ownBlock] at hk; subst hk; exact .inl (.inr rfl))) (by omega) (by omega)
  · rw [tcs_append]; exact own3
  · exact (hgrow.block bx (by simp; omega) (by simp [Value.ownBlock]; exact hne)).trans hb2

set_option maxHeartbeats 400000 in
theorem turn_fork (bx g cap n m a b c d : Nat) (ts : List (Nat × Nat)) (w : World) (h : St w bx g cap ts n) (hm : ts.length = m + 1) (hl : m ≤ 1000) (hc : c ≤ 1000) (hd : d ≤ 1000) :
    Calls Try.prog 30 #[.pointer (some ⟨bx, 0, none⟩), .agg #[.int .i64 1, .int .i64 a, .int .i64 b, .int .i64 c, .int .i64 d]] w (Turned w bx g (ts.set m (c, d) ++ [(b, 0)]) (max c d + 1)) := by
  obtain ⟨i0, hi, hz0, hz1, hz2⟩ := info_parts info_task
  obtain ⟨c0, c1⟩ := h.cells hm
  have hbl := h.box.lt
  have hgl := h.row.lt
  obtain ⟨s, j, hsj, ca, cb⟩ := h.at_ m (by omega)
  go_enter Try.func30, Try.ntmps30
  go_wp2
  have hb1 := Blk.new w 59 #[.int .i64 1, .int .i64 (a : Int), .int .i64 (b : Int), .int .i64 (c : Int), .int .i64 (d : Int)]
  have h1 : St (w.alloc (.cells #[.int .i64 1, .int .i64 (a : Int), .int .i64 (b : Int), .int .i64 (c : Int), .int .i64 (d : Int)] 59)) bx g cap ts n := ⟨h.box.alloc _, h.row.alloc _, h.ne⟩
  have hf1 := (Fr.refl (fun k => k = bx ∨ k = g) w).alloc (.cells #[.int .i64 1, .int .i64 (a : Int), .int .i64 (b : Int), .int .i64 (c : Int), .int .i64 (d : Int)] 59)
  generalize w.alloc (.cells #[.int .i64 1, .int .i64 (a : Int), .int .i64 (b : Int), .int .i64 (c : Int), .int .i64 (d : Int)] 59) = w1 at hb1 h1 hf1 ⊢
  clear c0 c1 ca cb h
  obtain ⟨c0, c1⟩ := h1.cells hm
  obtain ⟨s, j, hsj, ca, cb⟩ := h1.at_ m (by omega)
  have fa := h1.row.frozen (m * 2)
  have fb := h1.row.frozen (m * 2 + 1)
  have x3 := hb1.at_ (i := 3) rfl
  have x4 := hb1.at_ (i := 4) rfl
  clear hsj
  go_region
  all_goals
    have h2 : St ((w1.setCell ⟨g, m * 2, none⟩ (.int .i64 (c : Int))).setCell ⟨g, m * 2 + 1, none⟩ (.int .i64 (d : Int))).drew bx g cap (ts.set m (c, d)) n := by
      have h2 := h1.set hm c d
      exact ⟨h2.box, h2.row, h2.ne⟩
    have hb2 : Blk ((w1.setCell ⟨g, m * 2, none⟩ (.int .i64 (c : Int))).setCell ⟨g, m * 2 + 1, none⟩ (.int .i64 (d : Int))).drew _ _ _ := ((hb1.far (p := ⟨g, m * 2, none⟩) (Nat.ne_of_gt hgl) _).far (p := ⟨g, m * 2 + 1, none⟩) (Nat.ne_of_gt hgl) _).drew
    have hf2 := ((hf1.setCell (p := ⟨g, m * 2, none⟩) (.inl (.inr rfl)) (.int .i64 (c : Int))).setCell (p := ⟨g, m * 2 + 1, none⟩) (.inl (.inr rfl)) (.int .i64 (d : Int))).drew
    have hm2 : (ts.set m (c, d)).length = m + 1 := by simpa using hm
    generalize ((w1.setCell ⟨g, m * 2, none⟩ (.int .i64 (c : Int))).setCell ⟨g, m * 2 + 1, none⟩ (.int .i64 (d : Int))).drew = w2 at h2 hb2 hf2 ⊢
    clear c0 c1 ca cb fa fb x3 x4 h1 hb1 hf1
    generalize hts : ts.set m (c, d) = ts2 at h2 hm2
    have HTS := Lib.hid hts
    clear hts
    obtain ⟨c0, c1⟩ := h2.cells hm2
    have f0 := h2.box.frozen 0
    have f1 := h2.box.frozen 1
    have x2 := hb2.at_ (i := 2) rfl
    have x3 := hb2.at_ (i := 3) rfl
    have x4 := hb2.at_ (i := 4) rfl
    have b0 : bx < w2.heap.size := h2.box.lt
    go_wp2_with fail
    go_region_law ((refine fork_app h2 hm2 hl (b := b) (by rfl) (.tmp 30) (.tmp 34) (by rfl) (by rfl) (by rfl) ?_; intro g3 cap3 w3 own3 hb3 hf3 hn3 hg3; have c3 := hb3.cell 0; have c4 := hb3.cell 1; have f3 := hb3.frozen 0; have f4 := hb3.frozen 1; simp only [List.getElem?_toArray, List.getElem?_cons_zero, List.getElem?_cons_succ] at c3 c4))
    all_goals
      have h4 : St (w3.setCell ⟨bx, 0, none⟩ (.slice (some ⟨g3, 0, none⟩) (m + 1 + 1) cap3)) bx g3 cap3 (ts2 ++ [(b, 0)]) n := by
        have e1 : (ts2 ++ [(b, 0)]).length = m + 1 + 1 := by rw [List.length_append, hm2]; rfl
        refine ⟨?_, ?_, hn3⟩
        · rw [e1]
          have := hb3.set 0 (.slice (some ⟨g3, 0, none⟩) (m + 1 + 1) cap3)
          simpa using this
        · rw [e1]
          exact own3.far (p := ⟨bx, 0, none⟩) hn3 _
      have hf4 : Fr (fun k => k = bx ∨ k = g) w (w3.setCell ⟨bx, 0, none⟩ (.slice (some ⟨g3, 0, none⟩) (m + 1 + 1) cap3)) := (hf2.then hf3 (fun k hk => .inl hk)).setCell (.inl (.inl rfl)) _
      have hb4 := (hb2.fr hf3 (by omega)).far (p := ⟨bx, 0, none⟩) (Nat.ne_of_gt hbl) (.slice (some ⟨g3, 0, none⟩) (m + 1 + 1) cap3)
      have hg4 : g3 = g ∨ w.heap.size ≤ g3 := by have := hf2.size; omega
      clear c0 c1 f0 f1 x2 x3 x4 c3 c4 f3 f4 h2 hb2 hf2 hb3 own3 hf3 hg3
      generalize w3.setCell ⟨bx, 0, none⟩ (.slice (some ⟨g3, 0, none⟩) (m + 1 + 1) cap3) = w4 at h4 hf4 hb4 ⊢
      have c1 := h4.box.at_ (i := 1) rfl
      have f1 := h4.box.frozen 1
      have x3 := hb4.at_ (i := 3) rfl
      have x4 := hb4.at_ (i := 4) rfl
      go_wp2_with fail
      · rename_i hcd
        go_end0
        have e1 : max c d + 1 = d + 1 := by omega
        rw [HTS.out, e1]
        refine ⟨rfl, g3, cap3, ⟨?_, h4.row.far (p := ⟨bx, 1, none⟩) hn3 _, hn3⟩, hf4.setCell (.inl (.inl rfl)) _, hg4⟩
        have := h4.box.set 1 (.int .i64 ((d : Int) + 1))
        simpa using this
      · rename_i hcd
        go_end0
        have e1 : max c d + 1 = c + 1 := by omega
        rw [HTS.out, e1]
        refine ⟨rfl, g3, cap3, ⟨?_, h4.row.far (p := ⟨bx, 1, none⟩) hn3 _, hn3⟩, hf4.setCell (.inl (.inl rfl)) _, hg4⟩
        have := h4.box.set 1 (.int .i64 ((c : Int) + 1))
        simpa using this
end Go.Proofs.Ytahhihhfjimppaa
