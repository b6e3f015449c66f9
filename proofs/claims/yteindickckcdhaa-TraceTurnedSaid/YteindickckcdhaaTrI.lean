/- the laws' arguments: slices of events -/
import Derived.Test.YteindickckcdhaaTrH
import Derived.Test.YteindickckcdhaaFlat
namespace Go.Proofs.Yteindickckcdhaa
open Go.ChangeShapes Go.WideShapes Go.RowKit Go.Deep
set_option linter.unusedSimpArgs false
set_option linter.unusedVariables false
set_option maxRecDepth 100000

theorem flat_acc : Flat Try.prog 44 := by
  have hi : Try.prog.underlying 3 = some (.int .i64) := by kernel_rfl
  refine flat_struct (fs := _) Try.underlying44 (by kernel_rfl) (fun f hf => ?_)
  simp only [List.mem_cons, List.not_mem_nil, or_false] at hf
  rcases hf with rfl | rfl | rfl | rfl <;> exact flat_int hi

section
variable {H : Type} {enc : TypeId × Value → H} {w : World} {base : Nat} {spare : Nat → Bool} {held : Bool}
theorem ev_cells {fuel : Nat} {cs : List Value} {x : DataW H × List MemPlace} (h : DataW.trod enc Try.prog w base spare held fuel 48 cs = some x) : ∃ e : T.Ev, cs = ec e ∧ T.fits e := by
  have hi : Try.prog.underlying 3 = some (.int .i64) := by kernel_rfl
  have hb : Try.prog.underlying 4 = some .bool := by kernel_rfl
  have k3 : Try.prog.cellsOf 3 = 1 := by kernel_rfl
  have k4 : Try.prog.cellsOf 4 = 1 := by kernel_rfl
  have k44 : Try.prog.cellsOf 44 = 4 := by kernel_rfl
  have k46 : Try.prog.cellsOf 46 = 2 := by kernel_rfl
  have k48 : Try.prog.cellsOf 48 = 8 := by kernel_rfl
  obtain ⟨ys, n, _, _, hlen, hyl, hg⟩ := DataW.trod_struct Try.underlying48 h
  rw [k48] at hlen
  match cs, hlen with
  | [c0, c1, c2, c3, c4, c5, c6, c7], _ =>
    have hy : ∀ j, j < 4 → ∃ y, ys[j]? = some y := fun j hj => ⟨_, List.getElem?_eq_getElem (by rw [hyl]; exact hj)⟩
    obtain ⟨y0, e0⟩ := hy 0 (by omega)
    obtain ⟨y1, e1⟩ := hy 1 (by omega)
    obtain ⟨y2, e2⟩ := hy 2 (by omega)
    obtain ⟨y3, e3⟩ := hy 3 (by omega)
    have h0 : DataW.trod enc Try.prog w base spare held n 3 (List.take (Try.prog.cellsOf 3) (List.drop 0 [c0, c1, c2, c3, c4, c5, c6, c7])) = some y0 := (hg 0 _ rfl).trans e0
    have h1 : DataW.trod enc Try.prog w base spare held n 3 (List.take (Try.prog.cellsOf 3) (List.drop 1 [c0, c1, c2, c3, c4, c5, c6, c7])) = some y1 := (hg 1 _ rfl).trans e1
    have h2 : DataW.trod enc Try.prog w base spare held n 44 (List.take (Try.prog.cellsOf 44) (List.drop 2 [c0, c1, c2, c3, c4, c5, c6, c7])) = some y2 := (hg 2 _ rfl).trans e2
    have h3 : DataW.trod enc Try.prog w base spare held n 46 (List.take (Try.prog.cellsOf 46) (List.drop 6 [c0, c1, c2, c3, c4, c5, c6, c7])) = some y3 := (hg 3 _ rfl).trans e3
    rw [k3] at h0 h1
    rw [k44] at h2
    rw [k46] at h3
    simp only [List.drop_succ_cons, List.drop_zero, List.take_succ_cons, List.take_zero] at h0 h1 h2 h3
    obtain ⟨a0, q0, _, f0⟩ := DataW.trod_int hi h0
    obtain ⟨a1, q1, _, f1⟩ := DataW.trod_int hi h1
    have hn := flat_acc h2
    obtain ⟨a2, q2, f2⟩ := hn c2 (by simp)
    obtain ⟨a3, q3, f3⟩ := hn c3 (by simp)
    obtain ⟨a4, q4, f4⟩ := hn c4 (by simp)
    obtain ⟨a5, q5, f5⟩ := hn c5 (by simp)
    obtain ⟨zs, m, _, _, _, hzl, hgz⟩ := DataW.trod_struct Try.underlying46 h3
    have hz : ∀ j, j < 2 → ∃ y, zs[j]? = some y := fun j hj => ⟨_, List.getElem?_eq_getElem (by rw [hzl]; exact hj)⟩
    obtain ⟨u0, v0⟩ := hz 0 (by omega)
    obtain ⟨u1, v1⟩ := hz 1 (by omega)
    have r0 : DataW.trod enc Try.prog w base spare held m 3 (List.take (Try.prog.cellsOf 3) (List.drop 0 [c6, c7])) = some u0 := (hgz 0 _ rfl).trans v0
    have r1 : DataW.trod enc Try.prog w base spare held m 4 (List.take (Try.prog.cellsOf 4) (List.drop 1 [c6, c7])) = some u1 := (hgz 1 _ rfl).trans v1
    rw [k3] at r0
    rw [k4] at r1
    simp only [List.drop_succ_cons, List.drop_zero, List.take_succ_cons, List.take_zero] at r0 r1
    obtain ⟨a6, q6, _, f6⟩ := DataW.trod_int hi r0
    obtain ⟨b7, q7, _⟩ := DataW.trod_bool hb r1
    injection q0 with q0 _
    injection q1 with q1 _
    injection q6 with q6 _
    injection q7 with q7 _
    subst q0 q1 q2 q3 q4 q5 q6 q7
    refine ⟨(a0, a1, a2, a3, a4, a5, a6, b7), rfl, ?_⟩
    have g0 := wf_i64 f0
    have g1 := wf_i64 f1
    have g2 := wf_i64 f2
    have g3 := wf_i64 f3
    have g4 := wf_i64 f4
    have g5 := wf_i64 f5
    have g6 := wf_i64 f6
    intro z hz
    simp only [T.row, List.mem_cons, List.not_mem_nil, or_false] at hz
    rcases hz with rfl | rfl | rfl | rfl | rfl | rfl | rfl | rfl
    all_goals first | assumption | (unfold T.oki; split <;> omega)
/-- what a slice of events is read as -/
def IsEvs (w : World) (A : Option Addr) (len cap : Nat) (l : List T.Ev) : Prop := l.length = len ∧ Rd w w.heap.size A (ecs l) ∧ (∀ x ∈ l, T.fits x) ∧ len ≤ cap ∧ cap ≤ 9223372036854775807
theorem evs_upto {a : Addr} : ∀ (len : Nat), (∀ i, i < len → ∃ cs, (w.cells? base (a.add (i * 8)) 8 = some cs) ∧ ∃ e : T.Ev, cs = ec e ∧ T.fits e) →
    ∃ l : List T.Ev, l.length = len ∧ (∀ x ∈ l, T.fits x) ∧ ∀ j u, (ecs l)[j]? = some u → w.cell? (a.add j) = some u := by
  intro len
  induction len with
  | zero => intro _; exact ⟨[], by simp, fun _ h => by simp at h, fun j u h => by simp [ecs] at h⟩
  | succ len ih =>
    intro h
    obtain ⟨zs, hl, hw, hc⟩ := ih (fun i hi => h i (by omega))
    obtain ⟨cs, hcs, e, rfl, hf⟩ := h len (by omega)
    obtain ⟨_, hcl, hat⟩ := World.cells?_some hcs
    refine ⟨zs ++ [e], by simp [hl], ?_, ?_⟩
    · intro z hz; rcases List.mem_append.1 hz with hz | hz
      · exact hw z hz
      · rw [List.mem_singleton.1 hz]; exact hf
    · intro j u hu
      rw [ecs_append] at hu
      have hel : ecs [e] = ec e := by simp [ecs]
      rw [hel] at hu
      have hzl : (ecs zs).length = len * 8 := by rw [ecs_length, hl]
      by_cases hj : j < (ecs zs).length
      · rw [List.getElem?_append_left hj] at hu; exact hc j u hu
      · rw [List.getElem?_append_right (by omega)] at hu
        have hjk : j - (ecs zs).length < 8 := by
          have := (List.getElem?_eq_some_iff.1 hu).1
          rw [hcl] at this; exact this
        have := hat _ hjk
        rw [Go.Deep.add_add] at this
        rw [hzl] at this hu hj
        rw [show len * 8 + (j - len * 8) = j by omega] at this
        rw [this, hu]
theorem open_evs {t : TypeId} {fuel : Nat} {A : Option Addr} {len cap : Nat} {x : DataW H × List MemPlace} (ht : Try.prog.underlying t = some (.slice 48))
    (h : DataW.trod enc Try.prog w base (fun _ => true) held fuel t (Value.slice A len cap).cells.toList = some x) : ∃ zs, IsEvs w A len cap zs := by
  have hC : Try.prog.cellsOf 48 = 8 := by kernel_rfl
  rcases open_slice ht h with ⟨hcs, _⟩ | ⟨a, l, c, m, n, D, Pl, hcs, hb, hl, hm, hmm, hx, hi⟩
  · simp [Value.cells] at hcs
    obtain ⟨rfl, rfl, rfl⟩ := hcs
    exact ⟨[], rfl, .inl rfl, fun _ h => by simp at h, Nat.le_refl _, by omega⟩
  · simp [Value.cells] at hcs
    obtain ⟨rfl, rfl, rfl⟩ := hcs
    simp only [if_true] at hmm
    subst hmm
    rw [hC] at hi
    obtain ⟨zs, hzl, hzw, hzc⟩ := evs_upto (w := w) (base := base) (a := a) len (fun i hil => by
      obtain ⟨cs', h1, h2⟩ := hi i (by omega)
      exact ⟨cs', h1, ev_cells h2⟩)
    refine ⟨zs, hzl, ?_, hzw, hl, hm⟩
    refine Rd.top (B := a.block + 1) ?_
    rcases Nat.eq_zero_or_pos len with h0 | hp
    · left
      subst h0
      have : zs = [] := List.eq_nil_of_length_eq_zero hzl
      rw [this]; rfl
    · obtain ⟨e, r, hzs⟩ : ∃ e r, zs = e :: r := by
        cases zs with
        | nil => simp at hzl; omega
        | cons e r => exact ⟨e, r, rfl⟩
      have hsp : a.spot = none := by
        have := World.cell?_spot (hzc 0 (.int .i64 e.1) (by rw [hzs]; rfl))
        simpa [Addr.add] using this
      obtain ⟨b, off, sp⟩ := a
      simp only at hsp
      subst hsp
      refine .inr ⟨b, off, rfl, by simp, fun j u hu => ?_⟩
      have := hzc j u hu
      rw [Addr.add_lit] at this
      exact this
end
end Go.Proofs.Yteindickckcdhaa
