/- Copies of cells between rows; the greater of two numbers. -/
import Derived.Test.YtgaopcbjhepklaaGreatGa
import Derived.Laws.CopyRow
namespace Go.Proofs.YtgaopcbjhepklaaGreat
open Go.RowKit
set_option linter.unusedSimpArgs false
set_option linter.unusedVariables false
set_option maxRecDepth 100000
section
variable {P : Program} {wA w0 : World} {X : Nat → Prop} {M : EL} {K : Value → Ctx → Prop} {Z : PanK}
theorem maxA {C : Ctx} {at_ : Array TypeId} {ty : TypeId} {k : IntKind} {a b : Int} (h : K (.int k (if b > a then b else a)) C) : SemVC P C (Builtin.max_ at_ ty #[.int k a, .int k b]) K :=
  semA (fun w => by simp [Builtin.max_, Builtin.max2]) h
theorem run_copy_any (w : World) {t t2 ty e : TypeId} {sz : Nat} {zs : List Value} (hE : ElOk P t e sz zs) {A As : Option Addr} {n cap m c : Nat} {l src : List Value} (hd : DA.ok (.row e sz l) (.slice A n cap) w) (hs : Rd w w.heap.size As src) (hl : src.length = m * sz) (h1 : ∀ u ∈ src, u.oneCell' = true) :
    ∃ w', (Builtin.copy_ #[t, t2] ty #[.slice A n cap, .slice As m c]).run P w = .ok (goInt (Nat.min m n : Nat)) w' ∧ w'.os = w.os ∧ w'.tape = w.tape ∧ w'.output = w.output ∧ w.heap.size ≤ w'.heap.size ∧ (∀ k, k < w.heap.size → blkV (.slice A n cap) ≠ some k → w'.heap[k]? = w.heap[k]?) ∧ DA.ok (.row e sz (src.take (Nat.min m n * sz) ++ l.drop (Nat.min m n * sz))) (.slice A n cap) w' := by
  obtain ⟨i, z, hi, hz, hsize, hby, hzc⟩ := hE.parts
  have hpos := hE.pos
  obtain ⟨A', n', cap', he, hln, hn, hm, hr⟩ := hd
  injection he with e1 e2 e3
  subst e1 e2 e3
  by_cases h0 : Nat.min m n = 0
  · refine ⟨w, ?_, rfl, rfl, rfl, Nat.le_refl _, fun _ _ _ => rfl, ?_⟩
    · have hlc : ∀ (x : Addr), (loadCells x 0).run P w = .ok #[] w := fun x => by simpa using run_loadCells_list (P := P) w x [] (by simp)
      cases A <;> cases As <;> simp [Builtin.copy_, run_underlying hE.sl, Builtin.lenOf, Builtin.firstCells, sizeOf, typeInfo, hi, hsize, h0, storeCells, hlc]
    · rw [h0]; simp only [Nat.zero_mul, List.take_zero, List.drop_zero, List.nil_append]; exact ⟨A, n, cap, rfl, hln, hn, hm, hr⟩
  · have hmn : Nat.min m n ≤ m ∧ Nat.min m n ≤ n := ⟨Nat.min_le_left m n, Nat.min_le_right m n⟩
    have hk : Nat.min m n * sz ≤ m * sz := Nat.mul_le_mul_right _ hmn.1
    have hk2 : Nat.min m n * sz ≤ n * sz := Nat.mul_le_mul_right _ hmn.2
    have hkp : 0 < Nat.min m n * sz := Nat.mul_pos (by omega) hpos
    rcases hr with hr | ⟨b, rfl, hc0, cur, hg, hcs, hct⟩
    · omega
    · rcases hs with rfl | ⟨bs, off, rfl, hbs, hcl⟩
      · simp at hl; omega
      · have hsrc : ∀ j v, (src.take (Nat.min m n * sz))[j]? = some v → w.cell? ((⟨bs, off, none⟩ : Addr).add j) = some v := fun j v hv => by
          rw [Addr.add_lit]
          refine hcl j v ?_
          rw [List.getElem?_take] at hv
          split at hv
          · exact hv
          · cases hv
        have hlen : (src.take (Nat.min m n * sz)).length = Nat.min m n * sz := by simp; omega
        have hld := run_loadCells_list (P := P) w ⟨bs, off, none⟩ _ hsrc
        rw [hlen] at hld
        have hcap : n * sz ≤ cap * sz := Nat.mul_le_mul_right _ hn
        have hst := run_storeCells_at P b 0 e (src.take (Nat.min m n * sz)) 0 cur w hg (by rw [hlen]; omega) (fun v hv => h1 v (List.mem_of_mem_take hv))
        have hbv : blkV (Value.slice (some ⟨b, 0, none⟩) n cap) = some b := by
          have hc : ¬ cap = 0 := by omega
          simp [blkV, hc]
        refine ⟨w.setRow b (cur.toList.take (0 + 0) ++ src.take (Nat.min m n * sz) ++ cur.toList.drop (0 + 0 + (src.take (Nat.min m n * sz)).length)).toArray, by simp [Builtin.copy_, run_underlying hE.sl, Builtin.lenOf, Builtin.firstCells, sizeOf, typeInfo, hi, hsize, hld, hst], rfl, rfl, rfl, by simp, fun k _ hne => setRow_other w _ k _ (fun ek => hne (by rw [ek]; exact hbv)), ⟨_, n, cap, rfl, ?_, hn, hm, .inr ⟨b, rfl, hc0, _, setRow_heap w _ _ _ _ _ hg, ?_, ?_⟩⟩⟩
        · simp; omega
        · simp; omega
        · simp only [Nat.zero_add, List.take_zero, List.nil_append, hlen, Nat.add_zero]
          rw [← hct]
          simp only [List.drop_take]
          rw [List.take_append, hlen, List.take_of_length_le (l := List.take _ src) (by omega)]
theorem copyA {t t2 ty e : TypeId} {sz : Nat} {zs : List Value} (hE : ElOk P t e sz zs) {A As : Option Addr} {n cap m c : Nat} {l : List Value} (src : List Value) (hs : ∀ w, InA wA w0 X M w → Rd w w.heap.size As src) (hl : src.length = m * sz) (h1 : ∀ u ∈ src, u.oneCell' = true) {i : Nat} (hu : AtE M i (.slice A n cap) (.row e sz l))
    (h : setK M i (.slice A n cap, .row e sz (src.take (Nat.min m n * sz) ++ l.drop (Nat.min m n * sz))) fun M' => K (.int .i64 (Nat.min m n : Nat)) (CtxA wA w0 X M')) : SemVC P (CtxA wA w0 X M) (Builtin.copy_ #[t, t2] ty #[.slice A n cap, .slice As m c]) K := by
  constructor
  intro w hw
  obtain ⟨w', hrun, ho, ht, hp, hz, hsm, hok⟩ := run_copy_any (t2 := t2) (ty := ty) (c := c) w hE (hw.new _ hu.mem) (hs w hw) hl h1
  obtain ⟨h2, h3⟩ := goesA hw (hu.upd _ _) ho ht hp hz hsm hok (fun b hb => .inl hb)
  rw [setK_eq] at h
  exact ⟨_, w', _, hrun, h2, h3, h⟩
theorem mkN {t e : TypeId} {sz : Nat} {zs : List Value} (hE : ElOk P t e sz zs) {k1 k2 : IntKind} {c : Int} (n : Nat) (hc : c = (n : Int)) (hk : n ≤ 1000000000) {K : Value → Ctx → Prop}
    (h : ∀ b, K (.slice (some ⟨b, 0, none⟩) n n) (CtxA wA w0 X ((.slice (some ⟨b, 0, none⟩) n n, .row e sz (List.replicate n zs).flatten) :: M))) : SemVC P (CtxA wA w0 X M) (Instr.makeSlice t (.int k1 c) (.int k2 c)) K := by
  subst hc
  exact mkA hE (by omega) (by omega) (fun b => by simpa using h b)
theorem idxBN {b n : Nat} {i : Int} {sz : Nat} {K : Value → Prop} (j : Nat) (hi : i = (j : Int)) (hj : j < n) (hk : K (.pointer (some ⟨b, j * sz, none⟩))) : IdxVC (some ⟨b, 0, none⟩) n i sz K := by
  subst hi
  refine ⟨_, rfl, by omega, by omega, ?_⟩
  rw [Addr.add_lit]
  simpa using hk
theorem ixw {i : Nat} (h : i < 9000000000000000000) : SV.v (.int .i64 (IntKind.i64.wrap ((i : Int) + 1))) = SV.v (.int .i64 ((i + 1 : Nat) : Int)) := by
  rw [show IntKind.i64.wrap ((i : Int) + 1) = ((i + 1 : Nat) : Int) from (wrapI (by omega)).trans (by omega)]
/-- the same; what was read is forgotten -/
theorem appD {t e : TypeId} {sz : Nat} {zs : List Value} (hE : ElOk P t e sz zs) {A : Option Addr} {n cap : Nat} {l : List Value} {x : Value} {m : Nat} {news : List Value} {x0 : Value × DA} (hs : SrcA P wA w0 X (x0 :: M) sz t x m news) {i : Nat} (hu : AtE M i (.slice A n cap) (.row e sz l)) (hk : n + m ≤ 1000000000) {ty : TypeId} {K : Value → Ctx → Prop}
    (h : ∀ A' cap', n + m ≤ cap' → (0 < cap' → ∃ b, A' = some ⟨b, 0, none⟩) → setK M i (.slice A' (n + m) cap', .row e sz (l ++ news)) fun M' => K (.slice A' (n + m) cap') (CtxA wA w0 X M')) : SemVC P (CtxA wA w0 X (x0 :: M)) (Builtin.append_ #[t, t] ty #[.slice A n cap, x]) K := by
  constructor
  intro w hw
  obtain ⟨A', cap', w', hrun, hok, hc, hA, ho, ht, hp, hz, hsm, hb⟩ := run_appA (ty := ty) hE (hw.new _ (.tail _ hu.mem)) (hs.out w hw) hk
  have hw1 : InA wA w0 X M w := hw.drop (List.sublist_cons_self _ _)
  obtain ⟨h2, h3⟩ := goesA hw1 (hu.upd _ _) ho ht hp hz hsm hok hb
  have hk' := h A' cap' hc fun h0 => by
    obtain ⟨b, h4 | h4⟩ := hA h0
    · exact ⟨b, h4⟩
    · omega
  rw [setK_eq] at hk'
  exact ⟨_, w', _, hrun, h2.imp (Imp.sub (List.sublist_cons_self _ _)), h3, hk'⟩
theorem InA.rdOld {w : World} (hw : InA wA w0 X M w) {A : Option Addr} {xs : List Value} (hr : Rd wA wA.heap.size A xs) : Rd w w.heap.size A xs := by
  rcases hr with rfl | ⟨b, off, rfl, hb, hc⟩
  · exact .inl rfl
  · cases xs with
    | nil => exact .inl rfl
    | cons x xs => exact .inr ⟨b, off, rfl, World.block_lt_of_cell? w _ (InA.oldAt hw (hc 0 x rfl)), fun j u hu => InA.oldAt hw (hc j u hu)⟩
end
end Go.Proofs.YtgaopcbjhepklaaGreat
