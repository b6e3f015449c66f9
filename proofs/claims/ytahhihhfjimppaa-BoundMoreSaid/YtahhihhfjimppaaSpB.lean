/- walks: the state's may and turn -/
import Derived.Test.YtahhihhfjimppaaSpA
namespace Go.Proofs.Ytahhihhfjimppaa
open Go.RowKit
set_option linter.unusedSimpArgs false
set_option linter.unusedVariables false
set_option maxRecDepth 100000

/-- tasks as cells -/
def tcs (ts : List (Nat × Nat)) : List Value := ts.flatMap fun t => [Value.int .i64 (t.1 : Int), Value.int .i64 (t.2 : Int)]
theorem tcs_length (ts : List (Nat × Nat)) : (tcs ts).length = ts.length * 2 := by
  induction ts with
  | nil => rfl
  | cons t ts ih => simp only [tcs, List.flatMap_cons, List.length_append, List.length_cons, List.length_nil] at ih ⊢; rw [ih]; omega
theorem tcs_at (ts : List (Nat × Nat)) (k : Nat) (h : k < ts.length) : (tcs ts)[k * 2]? = some (.int .i64 ((ts[k].1 : Nat) : Int)) ∧ (tcs ts)[k * 2 + 1]? = some (.int .i64 ((ts[k].2 : Nat) : Int)) := by
  induction ts generalizing k with
  | nil => simp at h
  | cons t ts ih =>
    have e : tcs (t :: ts) = Value.int .i64 (t.1 : Int) :: Value.int .i64 (t.2 : Int) :: tcs ts := rfl
    rw [e]
    cases k with
    | zero => exact ⟨rfl, rfl⟩
    | succ k =>
      have := ih k (by simpa using h)
      rw [show (k + 1) * 2 = k * 2 + 1 + 1 by omega]
      simp only [List.getElem?_cons_succ, List.getElem_cons_succ]
      exact this

/-- a state in box bx: its tasks lie in block g -/
structure St (w : World) (bx g cap : Nat) (ts : List (Nat × Nat)) (n : Nat) : Prop where
  box : Blk w bx 77 #[.slice (some ⟨g, 0, none⟩) ts.length cap, .int .i64 (n : Int)]
  row : Own w 74 2 g ts.length cap (tcs ts)
  ne : bx ≠ g

def Mayed (w : World) (r : S.Five × Bool) (e : Ending) (w' : World) : Prop :=
  e = .returned (.tuple #[.agg #[.int .i64 r.1.1, .int .i64 r.1.2.1, .int .i64 r.1.2.2.1, .int .i64 r.1.2.2.2.1, .int .i64 r.1.2.2.2.2], .bool r.2]) ∧ Below w.heap.size w w'

theorem St.at_ {w : World} {bx g cap n : Nat} {ts : List (Nat × Nat)} (h : St w bx g cap ts n) (k : Nat) (hk : k < ts.length) :
    ∃ s j, ts.getD k (0, 0) = (s, j) ∧ w.cell? ⟨g, k * 2, none⟩ = some (.int .i64 (s : Int)) ∧ w.cell? ⟨g, k * 2 + 1, none⟩ = some (.int .i64 (j : Int)) := by
  obtain ⟨ta, tb⟩ := tcs_at ts k hk
  refine ⟨ts[k].1, ts[k].2, ?_, (h.row.cell (k * 2) (by omega)).trans ta, (h.row.cell (k * 2 + 1) (by omega)).trans tb⟩
  rw [List.getD_eq_getElem?_getD, List.getElem?_eq_getElem hk]
  rfl
theorem St.cells {w : World} {bx g cap n m : Nat} {ts : List (Nat × Nat)} (h : St w bx g cap ts n) (hm : ts.length = m) :
    w.cell? ⟨bx, 0, none⟩ = some (.slice (some ⟨g, 0, none⟩) m cap) ∧ w.cell? ⟨bx, 1, none⟩ = some (.int .i64 (n : Int)) := by
  subst hm; exact ⟨h.box.cell 0, h.box.cell 1⟩

theorem old3 {w : World} {p : Addr} {v : Value} (h : w.cell? p = some v) (a b c : Obj) : (((w.alloc a).alloc b).alloc c).cell? p = some v := by
  have hl := World.block_lt_of_cell? w p h
  rw [World.cell?_alloc_lt _ _ _ (by simp; omega), World.cell?_alloc_lt _ _ _ (by simp; omega), World.cell?_alloc_lt _ _ _ hl]
  exact h
/-- three new blocks -/
theorem three_new (w : World) (t1 t2 t3 : TypeId) (a b c : Array Value) :
    Blk (((w.alloc (.cells a t1)).alloc (.cells b t2)).alloc (.cells c t3)) w.heap.size t1 a ∧ Blk (((w.alloc (.cells a t1)).alloc (.cells b t2)).alloc (.cells c t3)) (w.heap.size + 1) t2 b ∧
    Blk (((w.alloc (.cells a t1)).alloc (.cells b t2)).alloc (.cells c t3)) (w.heap.size + 1 + 1) t3 c ∧ Below w.heap.size w (((w.alloc (.cells a t1)).alloc (.cells b t2)).alloc (.cells c t3)) := by
  refine ⟨((Blk.new w t1 a).alloc _).alloc _, ?_, ?_, (((Below.refl _ _).alloc (Nat.le_refl _) _).alloc (by simp) _).alloc (by simp; omega) _⟩
  · have := (Blk.new (w.alloc (.cells a t1)) t2 b).alloc (.cells c t3)
    simpa using this
  · have := Blk.new ((w.alloc (.cells a t1)).alloc (.cells b t2)) t3 c
    simpa using this
theorem Blk.at_ {w : World} {g : Nat} {t : TypeId} {cs : Array Value} (h : Blk w g t cs) {i : Nat} {u : Value} (hu : cs[i]? = some u) : w.cell? ⟨g, i, none⟩ = some u := (h.cell i).trans hu
/-- the three blocks of may, and what was there -/
structure M3 (w w1 : World) (bx n : Nat) (r t p : Array Value) : Prop where
  res : Blk w1 w.heap.size 59 r
  on : Blk w1 (w.heap.size + 1) 74 t
  spl : Blk w1 (w.heap.size + 1 + 1) 59 p
  below : Below w.heap.size w w1
  nx : w1.cell? ⟨bx, 1, none⟩ = some (.int .i64 (n : Int))

theorem M3.set {w w1 : World} {bx n : Nat} {r t p : Array Value} (h : M3 w w1 bx n r t p) (hbx : bx < w.heap.size) (i : Nat) (u : Value) : M3 w (w1.setCell ⟨w.heap.size + 1 + 1, i, none⟩ u) bx n r t (p.setIfInBounds i u) :=
  ⟨h.res.far (by simp only; omega) u, h.on.far (by simp only; omega) u, h.spl.set i u, h.below.setCell (by simp only; omega) u, by rw [World.cell?_setCell_other _ _ _ _ (fun e => by injection e; omega)]; exact h.nx⟩
theorem M3.rcells {w w1 : World} {bx n : Nat} {a b c d e : Value} {t p : Array Value} (h : M3 w w1 bx n #[a, b, c, d, e] t p) :
    w1.cell? ⟨w.heap.size, 0, none⟩ = some a ∧ w1.cell? ⟨w.heap.size, 1, none⟩ = some b ∧ w1.cell? ⟨w.heap.size, 2, none⟩ = some c ∧ w1.cell? ⟨w.heap.size, 3, none⟩ = some d ∧ w1.cell? ⟨w.heap.size, 4, none⟩ = some e ∧
    w1.frozen? ⟨w.heap.size, 0, none⟩ = false ∧ w1.frozen? ⟨w.heap.size, 1, none⟩ = false ∧ w1.frozen? ⟨w.heap.size, 2, none⟩ = false ∧ w1.frozen? ⟨w.heap.size, 3, none⟩ = false ∧ w1.frozen? ⟨w.heap.size, 4, none⟩ = false :=
  ⟨h.res.cell 0, h.res.cell 1, h.res.cell 2, h.res.cell 3, h.res.cell 4, h.res.frozen 0, h.res.frozen 1, h.res.frozen 2, h.res.frozen 3, h.res.frozen 4⟩
theorem M3.scells {w w1 : World} {bx n : Nat} {a b c d e : Value} {t r : Array Value} (h : M3 w w1 bx n r t #[a, b, c, d, e]) :
    w1.cell? ⟨w.heap.size + 1 + 1, 0, none⟩ = some a ∧ w1.cell? ⟨w.heap.size + 1 + 1, 1, none⟩ = some b ∧ w1.cell? ⟨w.heap.size + 1 + 1, 2, none⟩ = some c ∧ w1.cell? ⟨w.heap.size + 1 + 1, 3, none⟩ = some d ∧ w1.cell? ⟨w.heap.size + 1 + 1, 4, none⟩ = some e ∧
    w1.frozen? ⟨w.heap.size + 1 + 1, 2, none⟩ = false ∧ w1.frozen? ⟨w.heap.size + 1 + 1, 3, none⟩ = false ∧ w1.frozen? ⟨w.heap.size + 1 + 1, 4, none⟩ = false :=
  ⟨h.spl.cell 0, h.spl.cell 1, h.spl.cell 2, h.spl.cell 3, h.spl.cell 4, h.spl.frozen 2, h.spl.frozen 3, h.spl.frozen 4⟩
theorem M3.tcells {w w1 : World} {bx n : Nat} {a b : Value} {r p : Array Value} (h : M3 w w1 bx n r #[a, b] p) : w1.cell? ⟨w.heap.size + 1, 0, none⟩ = some a ∧ w1.cell? ⟨w.heap.size + 1, 1, none⟩ = some b := ⟨h.on.cell 0, h.on.cell 1⟩
theorem M3.drew {w w1 : World} {bx n : Nat} {r t p : Array Value} (h : M3 w w1 bx n r t p) : M3 w w1.drew bx n r t p := ⟨h.res, h.on, h.spl, h.below.drew, h.nx⟩

set_option maxHeartbeats 400000 in
theorem may_fork (bx g cap n m : Nat) (ts : List (Nat × Nat)) (w : World) (h : St w bx g cap ts n) (hm : ts.length = m + 1) (hl : m ≤ 1000) (hn : n ≤ 1000) :
    Calls Try.prog 29 #[.pointer (some ⟨bx, 0, none⟩), .int .i64 1] w (Mayed w (S.may ts n 1)) := by
  obtain ⟨c0, c1⟩ := h.cells hm
  have hbl := h.box.lt
  have hgl := h.row.lt
  obtain ⟨s, j, hsj, ca, cb⟩ := h.at_ m (by omega)
  have HR : Hid (S.may ts n 1 = ((1, (s : Int), (n : Int), (n : Int) + 1, if j = 0 then (n : Int) + 2 else (j : Int)), true)) := by
    refine Lib.hid ?_
    unfold S.may
    rw [hm, Nat.add_sub_cancel, hsj]
    rfl
  clear hm hsj h
  by_cases hj : j = 0
  · have q1 : ((j : Int) == 0) = true := by simp; omega
    have HJ := Lib.hid hj
    clear hj
    have wk : IntKind.i64.wrap ((n : Int) + 1) = (n : Int) + 1 := IntWalk.i64_in _ (by omega)
    go_enter Try.func29, Try.ntmps29
    go_wp2
    obtain ⟨n1, n2, n3, n4⟩ := three_new w 59 74 59 #[.int .i64 0, .int .i64 0, .int .i64 0, .int .i64 0, .int .i64 0] #[.int .i64 (s : Int), .int .i64 (j : Int)] #[.int .i64 1, .int .i64 (s : Int), .int .i64 0, .int .i64 0, .int .i64 (j : Int)]
    have M := M3.mk (bx := bx) (n := n) n1 n2 n3 n4 ((n4.cell (p := ⟨bx, 1, none⟩) hbl).trans c1)
    generalize ((w.alloc (.cells #[.int .i64 0, .int .i64 0, .int .i64 0, .int .i64 0, .int .i64 0] 59)).alloc (.cells #[.int .i64 (s : Int), .int .i64 (j : Int)] 74)).alloc (.cells #[.int .i64 1, .int .i64 (s : Int), .int .i64 0, .int .i64 0, .int .i64 (j : Int)] 59) = w1 at M ⊢
    clear n1 n2 n3 n4 c0 c1 ca cb
    have d1 := M.nx
    have d2 := M.spl.at_ (i := 2) rfl
    have d3 := M.spl.at_ (i := 3) rfl
    have f2 := M.spl.frozen 2
    have f3 := M.spl.frozen 3
    go_region
    have M2 := ((M.set hbl 2 (.int .i64 (n : Int))).set hbl 3 (.int .i64 ((n : Int) + 1))).drew
    generalize ((w1.setCell ⟨w.heap.size + 1 + 1, 2, none⟩ (.int .i64 (n : Int))).setCell ⟨w.heap.size + 1 + 1, 3, none⟩ (.int .i64 ((n : Int) + 1))).drew = w2 at M2 ⊢
    clear d1 d2 d3 f2 f3 M wk
    have M4 : M3 w w2 bx n #[.int .i64 0, .int .i64 0, .int .i64 0, .int .i64 0, .int .i64 0] #[.int .i64 (s : Int), .int .i64 (j : Int)] #[.int .i64 1, .int .i64 (s : Int), .int .i64 (n : Int), .int .i64 ((n : Int) + 1), .int .i64 (j : Int)] := by simpa using M2
    obtain ⟨x0, x1, x2, x3, x4, y0, y1, y2, y3, y4⟩ := M4.rcells
    obtain ⟨s0, s1, s2, s3, s4, z2, z3, z4⟩ := M4.scells
    obtain ⟨t0, t1⟩ := M4.tcells
    have e1 := M4.nx
    have hB := M4.below
    clear M2
    go_wp2_with fail
    refine bodyPost_ret (v := .tuple #[.agg #[.int .i64 1, .int .i64 s, .int .i64 n, .int .i64 (n + 1), .int .i64 (n + 2)], .bool true]) (by simp [results, Try.results29, go_sem, x0, x1, x2, x3, x4]) rfl ?_
    rw [HR.out, if_pos HJ.out]
    refine ⟨rfl, ?_⟩
    exact (((((hB.setCell (by simp only; omega) _).setCell (Nat.le_refl _) _).setCell (Nat.le_refl _) _).setCell (Nat.le_refl _) _).setCell (Nat.le_refl _) _).setCell (Nat.le_refl _) _
  · have q1 : ((j : Int) == 0) = false := by simp; omega
    have HJ := Lib.hid hj
    clear hj
    have wk : IntKind.i64.wrap ((n : Int) + 1) = (n : Int) + 1 := IntWalk.i64_in _ (by omega)
    go_enter Try.func29, Try.ntmps29
    go_wp2
    obtain ⟨n1, n2, n3, n4⟩ := three_new w 59 74 59 #[.int .i64 0, .int .i64 0, .int .i64 0, .int .i64 0, .int .i64 0] #[.int .i64 (s : Int), .int .i64 (j : Int)] #[.int .i64 1, .int .i64 (s : Int), .int .i64 0, .int .i64 0, .int .i64 (j : Int)]
    have M := M3.mk (bx := bx) (n := n) n1 n2 n3 n4 ((n4.cell (p := ⟨bx, 1, none⟩) hbl).trans c1)
    generalize ((w.alloc (.cells #[.int .i64 0, .int .i64 0, .int .i64 0, .int .i64 0, .int .i64 0] 59)).alloc (.cells #[.int .i64 (s : Int), .int .i64 (j : Int)] 74)).alloc (.cells #[.int .i64 1, .int .i64 (s : Int), .int .i64 0, .int .i64 0, .int .i64 (j : Int)] 59) = w1 at M ⊢
    clear n1 n2 n3 n4 c0 c1 ca cb
    have d1 := M.nx
    have d2 := M.spl.at_ (i := 2) rfl
    have d3 := M.spl.at_ (i := 3) rfl
    have f2 := M.spl.frozen 2
    have f3 := M.spl.frozen 3
    go_region
    have M2 := ((M.set hbl 2 (.int .i64 (n : Int))).set hbl 3 (.int .i64 ((n : Int) + 1))).drew
    generalize ((w1.setCell ⟨w.heap.size + 1 + 1, 2, none⟩ (.int .i64 (n : Int))).setCell ⟨w.heap.size + 1 + 1, 3, none⟩ (.int .i64 ((n : Int) + 1))).drew = w2 at M2 ⊢
    clear d1 d2 d3 f2 f3 M wk
    have M4 : M3 w w2 bx n #[.int .i64 0, .int .i64 0, .int .i64 0, .int .i64 0, .int .i64 0] #[.int .i64 (s : Int), .int .i64 (j : Int)] #[.int .i64 1, .int .i64 (s : Int), .int .i64 (n : Int), .int .i64 ((n : Int) + 1), .int .i64 (j : Int)] := by simpa using M2
    obtain ⟨x0, x1, x2, x3, x4, y0, y1, y2, y3, y4⟩ := M4.rcells
    obtain ⟨s0, s1, s2, s3, s4, z2, z3, z4⟩ := M4.scells
    obtain ⟨t0, t1⟩ := M4.tcells
    have e1 := M4.nx
    have hB := M4.below
    clear M2
    go_wp2_with fail
    refine bodyPost_ret (v := .tuple #[.agg #[.int .i64 1, .int .i64 s, .int .i64 n, .int .i64 (n + 1), .int .i64 j], .bool true]) (by simp [results, Try.results29, go_sem, x0, x1, x2, x3, x4]) rfl ?_
    rw [HR.out, if_neg HJ.out]
    refine ⟨rfl, ?_⟩
    exact ((((hB.setCell (Nat.le_refl _) _).setCell (Nat.le_refl _) _).setCell (Nat.le_refl _) _).setCell (Nat.le_refl _) _).setCell (Nat.le_refl _) _

set_option maxHeartbeats 400000 in
theorem may_none (bx g cap n m : Nat) (ts : List (Nat × Nat))  (kind : Int) (w : World) (h : St w bx g cap ts n) (hm : ts.length = m + 1) (hl : m ≤ 1000) (hn : n ≤ 1000) (k1 : kind ≠ 1) (k2 : kind ≠ 2) (k3 : kind ≠ 3) :
    Calls Try.prog 29 #[.pointer (some ⟨bx, 0, none⟩), .int .i64 kind] w (Mayed w (S.may ts n kind)) := by
  obtain ⟨c0, c1⟩ := h.cells hm
  have hbl := h.box.lt
  have hgl := h.row.lt
  obtain ⟨s, j, hsj, ca, cb⟩ := h.at_ m (by omega)
  have HR : Hid (S.may ts n kind = ((0, 0, 0, 0, 0), false)) := by
    refine Lib.hid ?_
    unfold S.may
    rw [if_neg k1, if_neg k2, if_neg k3]
  have q1 : (kind == 1) = false := by simpa using k1
  have q2 : (kind == 2) = false := by simpa using k2
  have q3 : (kind == 3) = false := by simpa using k3
  clear hm hsj h k1 k2 k3
  go_enter Try.func29, Try.ntmps29
  go_wp2
  refine bodyPost_ret (v := .tuple #[.agg #[.int .i64 0, .int .i64 0, .int .i64 0, .int .i64 0, .int .i64 0], .bool false]) (by simp [results, Try.results29, go_sem]) rfl ?_
  rw [HR.out]
  refine ⟨rfl, ?_⟩
  exact (three_new w _ _ _ _ _ _).2.2.2

set_option maxHeartbeats 400000 in
theorem may_end_no (bx g cap n m : Nat) (ts : List (Nat × Nat)) (w : World) (h : St w bx g cap ts n) (hm : ts.length = m + 1) (hl : m ≤ 1000) (hn : n ≤ 1000) (hno : m < 1 ∨ (ts.getD m (0, 0)).2 ≠ 0) :
    Calls Try.prog 29 #[.pointer (some ⟨bx, 0, none⟩), .int .i64 2] w (Mayed w (S.may ts n 2)) := by
  obtain ⟨c0, c1⟩ := h.cells hm
  have hbl := h.box.lt
  have hgl := h.row.lt
  obtain ⟨s, j, hsj, ca, cb⟩ := h.at_ m (by omega)
  have HR : Hid (S.may ts n 2 = ((0, 0, 0, 0, 0), false)) := by
    refine Lib.hid ?_
    unfold S.may
    rw [if_neg (by omega), if_pos rfl, if_pos]
    rw [hm, Nat.add_sub_cancel]
    rcases hno with h1 | h1
    · left; omega
    · exact .inr h1
  rw [hsj] at hno
  clear hm hsj h
  by_cases hm1 : m < 1
  · have q2 : decide ((m : Int) < 1) = true := by simp; omega
    go_enter Try.func29, Try.ntmps29
    go_wp2
    refine bodyPost_ret (v := .tuple #[.agg #[.int .i64 0, .int .i64 0, .int .i64 0, .int .i64 0, .int .i64 0], .bool false]) (by simp [results, Try.results29, go_sem]) rfl ?_
    rw [HR.out]
    refine ⟨rfl, ?_⟩
    exact (three_new w _ _ _ _ _ _).2.2.2
  · have q2 : decide ((m : Int) < 1) = false := by simp; omega
    have q3 : ((j : Int) != 0) = true := by simp; omega
    go_enter Try.func29, Try.ntmps29
    go_wp2
    refine bodyPost_ret (v := .tuple #[.agg #[.int .i64 0, .int .i64 0, .int .i64 0, .int .i64 0, .int .i64 0], .bool false]) (by simp [results, Try.results29, go_sem]) rfl ?_
    rw [HR.out]
    refine ⟨rfl, ?_⟩
    exact (three_new w _ _ _ _ _ _).2.2.2

set_option maxHeartbeats 400000 in
theorem may_end_yes (bx g cap n m : Nat) (ts : List (Nat × Nat)) (w : World) (h : St w bx g cap ts n) (hm : ts.length = m + 1) (hl : m ≤ 1000) (hn : n ≤ 1000) (hm1 : 1 ≤ m) (hno : (ts.getD m (0, 0)).2 = 0) :
    Calls Try.prog 29 #[.pointer (some ⟨bx, 0, none⟩), .int .i64 2] w (Mayed w (S.may ts n 2)) := by
  obtain ⟨c0, c1⟩ := h.cells hm
  have hbl := h.box.lt
  have hgl := h.row.lt
  obtain ⟨s, j, hsj, ca, cb⟩ := h.at_ m (by omega)
  obtain ⟨s2, j2, hsj2, ca2, cb2⟩ := h.at_ (m - 1) (by omega)
  rw [hsj] at hno
  have HR : Hid (S.may ts n 2 = ((2, (s : Int), 0, 0, (j2 : Int)), true)) := by
    refine Lib.hid ?_
    unfold S.may
    rw [if_neg (by omega), if_pos rfl, if_neg]
    · rw [hm, Nat.add_sub_cancel, hsj, show m + 1 - 2 = m - 1 by omega, hsj2]
    · rw [hm, Nat.add_sub_cancel, hsj]
      intro h1
      rcases h1 with h1 | h1
      · omega
      · exact h1 hno
  have q2 : decide ((m : Int) < 1) = false := by simp; omega
  have q3 : ((j : Int) != 0) = false := by simp at hno ⊢; omega
  have k0 := old3 c0
  have k2 := old3 cb2
  clear hm hsj h hsj2 hno
  go_enter Try.func29, Try.ntmps29
  go_wp2
  refine bodyPost_ret (v := .tuple #[.agg #[.int .i64 2, .int .i64 s, .int .i64 0, .int .i64 0, .int .i64 j2], .bool true]) (by simp [results, Try.results29, go_sem]) rfl ?_
  rw [HR.out]
  refine ⟨rfl, ?_⟩
  exact (three_new w _ _ _ _ _ _).2.2.2

set_option maxHeartbeats 400000 in
theorem may_join (bx g cap n m : Nat) (ts : List (Nat × Nat)) (w : World) (h : St w bx g cap ts n) (hm : ts.length = m + 1) (hl : m ≤ 1000) (hn : n ≤ 1000) :
    Calls Try.prog 29 #[.pointer (some ⟨bx, 0, none⟩), .int .i64 3] w (Mayed w (S.may ts n 3)) := by
  obtain ⟨c0, c1⟩ := h.cells hm
  have hbl := h.box.lt
  have hgl := h.row.lt
  obtain ⟨s, j, hsj, ca, cb⟩ := h.at_ m (by omega)
  have HR : Hid (S.may ts n 3 = ((3, (s : Int), 0, 0, (j : Int)), decide (j ≠ 0))) := by
    refine Lib.hid ?_
    unfold S.may
    rw [if_neg (by omega), if_neg (by omega), if_pos rfl, hm, Nat.add_sub_cancel, hsj]
  have HD : Hid (((j : Int) != 0) = decide (j ≠ 0)) := by
    refine Lib.hid ?_
    rw [Bool.eq_iff_iff]
    simp
  clear hm hsj h
  go_enter Try.func29, Try.ntmps29
  go_wp2
  obtain ⟨n1, n2, n3, n4⟩ := three_new w 59 74 59 #[.int .i64 0, .int .i64 0, .int .i64 0, .int .i64 0, .int .i64 0] #[.int .i64 (s : Int), .int .i64 (j : Int)] #[.int .i64 3, .int .i64 (s : Int), .int .i64 0, .int .i64 0, .int .i64 (j : Int)]
  have M4 := M3.mk (bx := bx) (n := n) n1 n2 n3 n4 ((n4.cell (p := ⟨bx, 1, none⟩) hbl).trans c1)
  generalize ((w.alloc (.cells #[.int .i64 0, .int .i64 0, .int .i64 0, .int .i64 0, .int .i64 0] 59)).alloc (.cells #[.int .i64 (s : Int), .int .i64 (j : Int)] 74)).alloc (.cells #[.int .i64 3, .int .i64 (s : Int), .int .i64 0, .int .i64 0, .int .i64 (j : Int)] 59) = w2 at M4 ⊢
  clear n1 n2 n3 n4 c0 c1 ca cb
  obtain ⟨x0, x1, x2, x3, x4, y0, y1, y2, y3, y4⟩ := M4.rcells
  obtain ⟨s0, s1, s2, s3, s4, z2, z3, z4⟩ := M4.scells
  obtain ⟨t0, t1⟩ := M4.tcells
  have hB := M4.below
  go_region
  all_goals
    go_wp2_with fail
    refine bodyPost_ret (v := .tuple #[.agg #[.int .i64 3, .int .i64 s, .int .i64 0, .int .i64 0, .int .i64 j], .bool ((j : Int) != 0)]) (by simp [results, Try.results29, go_sem, x0, x1, x2, x3, x4]) rfl ?_
    rw [HR.out]
    refine ⟨by rw [HD.out], ?_⟩
    exact (((((hB.setCell (Nat.le_refl _) _).setCell (Nat.le_refl _) _).setCell (Nat.le_refl _) _).setCell (Nat.le_refl _) _).setCell (Nat.le_refl _) _).drew

theorem may_any (bx g cap n : Nat) (ts : List (Nat × Nat)) (kind : Int) (w : World) (h : St w bx g cap ts n) (hm : 0 < ts.length) (hl : ts.length ≤ 1000) (hn : n ≤ 1000) :
    Calls Try.prog 29 #[.pointer (some ⟨bx, 0, none⟩), .int .i64 kind] w (Mayed w (S.may ts n kind)) := by
  obtain ⟨m, hm⟩ : ∃ m, ts.length = m + 1 := ⟨ts.length - 1, by omega⟩
  by_cases k1 : kind = 1
  · subst k1; exact may_fork bx g cap n m ts w h hm (by omega) hn
  by_cases k2 : kind = 2
  · subst k2
    by_cases hno : m < 1 ∨ (ts.getD m (0, 0)).2 ≠ 0
    · exact may_end_no bx g cap n m ts w h hm (by omega) hn hno
    · exact may_end_yes bx g cap n m ts w h hm (by omega) hn (by omega) (by omega)
  by_cases k3 : kind = 3
  · subst k3; exact may_join bx g cap n m ts w h hm (by omega) hn
  exact may_none bx g cap n m ts kind w h hm (by omega) hn k1 k2 k3
end Go.Proofs.Ytahhihhfjimppaa
