/- Rules for walks in a context with an anchor: append, rows that are made, copies, operations without memory. -/
import Derived.Test.YtgaopcbjhepklaaGreatYb
namespace Go.Proofs.YtgaopcbjhepklaaGreat
open Go.RowKit
set_option linter.unusedSimpArgs false
set_option linter.unusedVariables false
set_option maxRecDepth 100000
section
variable {P : Program} {wA w0 : World} {X : Nat → Prop} {M M' : EL}
/-- what is appended: in every world of the context the source reads so -/
structure SrcA (P : Program) (wA w0 : World) (X : Nat → Prop) (M : EL) (sz : Nat) (tx : TypeId) (x : Value) (m : Nat) (news : List Value) : Prop where
  out : ∀ w, InA wA w0 X M w → Src P sz tx x m news w
theorem SrcA.zero {t e : TypeId} {sz : Nat} {zs : List Value} (hE : ElOk P t e sz zs) (A : Option Addr) (c : Nat) : SrcA P wA w0 X M sz t (.slice A 0 c) 0 [] := ⟨fun w _ => by
  cases A with
  | none => exact Src.ofNil w hE.sl c
  | some a => exact Src.ofSlice w hE.sl a 0 c [] (by simp) (fun j u hu => by simp at hu) (by simp)⟩
/-- a part of a row of one's own -/
theorem SrcA.part {t e : TypeId} {sz : Nat} {zs : List Value} (hE : ElOk P t e sz zs) {b n cap : Nat} {t0 : TypeId} {l : List Value} (hm : (Value.slice (some ⟨b, 0, none⟩) n cap, DA.row t0 sz l) ∈ M) (off m c : Nat) (news : List Value) (hl : news.length = m * sz) (hn : ∀ j u, news[j]? = some u → l[off + j]? = some u) (h1 : ∀ u ∈ news, u.oneCell' = true) : SrcA P wA w0 X M sz t (.slice (some ⟨b, off, none⟩) m c) m news :=
  ⟨fun w hw => Src.ofSlice w hE.sl _ m c news hl (fun j u hu => by rw [Addr.add_lit]; exact InA.rowAt hw hm (hn j u hu)) h1⟩
/-- a whole row of one's own -/
theorem SrcA.own {t e : TypeId} {sz : Nat} {zs : List Value} (hE : ElOk P t e sz zs) {A : Option Addr} {n cap : Nat} {t0 : TypeId} {l : List Value} (hm : (Value.slice A n cap, DA.row t0 sz l) ∈ M) (h1 : ∀ u ∈ l, u.oneCell' = true) (c : Nat) : SrcA P wA w0 X M sz t (.slice A n c) n l :=
  ⟨fun w hw => by
    obtain ⟨A', n', cap', he, h2, h3, h4, h5⟩ := hw.new _ hm
    injection he with he1 he2 he3
    subst he1 he2 he3
    by_cases h0 : n = 0
    · subst h0
      have : l = [] := List.eq_nil_of_length_eq_zero (by simpa using h2)
      subst this
      cases A with
      | none => exact Src.ofNil w hE.sl c
      | some a => exact Src.ofSlice w hE.sl a 0 c [] (by simp) (fun j u hu => by simp at hu) (by simp)
    · rcases h5 with h5 | ⟨b, rfl, _⟩
      · omega
      · exact Src.ofSlice w hE.sl _ n c l h2 (fun j u hu => by rw [Addr.add_lit, Nat.zero_add]; exact InA.rowAt hw hm hu) h1⟩
/-- memory that was there -/
theorem SrcA.old {t e : TypeId} {sz : Nat} {zs : List Value} (hE : ElOk P t e sz zs) {A : Option Addr} {B m c : Nat} {news : List Value} (hr : Rd wA B A news) (hl : news.length = m * sz) (h1 : ∀ u ∈ news, u.oneCell' = true) : SrcA P wA w0 X M sz t (.slice A m c) m news :=
  ⟨fun w hw => by
    rcases hr with rfl | ⟨b, off, rfl, hb, hc⟩
    · have h0 : m = 0 := by
        have h := hl
        simp only [List.length_nil] at h
        rcases Nat.mul_eq_zero.1 h.symm with h | h
        · exact h
        · have := hE.pos; omega
      subst h0
      cases A with
      | none => exact Src.ofNil w hE.sl c
      | some a => exact Src.ofSlice w hE.sl a 0 c [] (by simp) (fun j u hu => by simp at hu) (by simp)
    · exact Src.ofSlice w hE.sl _ m c news hl (fun j u hu => by rw [Addr.add_lit]; exact InA.oldAt hw (hc j u hu)) h1⟩
/-- append onto a row of one's own -/
theorem appA {t e : TypeId} {sz : Nat} {zs : List Value} (hE : ElOk P t e sz zs) {A : Option Addr} {n cap : Nat} {l : List Value} {x : Value} {m : Nat} {news : List Value} (hs : SrcA P wA w0 X M sz t x m news) {i : Nat} (hu : AtE M i (.slice A n cap) (.row e sz l)) (hk : n + m ≤ 1000000000) {ty : TypeId} {K : Value → Ctx → Prop}
    (h : ∀ A' cap', n + m ≤ cap' → (0 < cap' → ∃ b, A' = some ⟨b, 0, none⟩) → setK M i (.slice A' (n + m) cap', .row e sz (l ++ news)) fun M' => K (.slice A' (n + m) cap') (CtxA wA w0 X M')) : SemVC P (CtxA wA w0 X M) (Builtin.append_ #[t, t] ty #[.slice A n cap, x]) K := by
  constructor
  intro w hw
  obtain ⟨A', cap', w', hrun, hok, hc, hA, ho, ht, hp, hz, hsm, hb⟩ := run_appA (ty := ty) hE (hw.new _ hu.mem) (hs.out w hw) hk
  obtain ⟨h2, h3⟩ := goesA hw (hu.upd _ _) ho ht hp hz hsm hok hb
  have hk' := h A' cap' hc fun h0 => by
    obtain ⟨b, h4 | h4⟩ := hA h0
    · exact ⟨b, h4⟩
    · omega
  rw [setK_eq] at hk'
  exact ⟨_, w', _, hrun, h2, h3, hk'⟩
/-- append onto a slice without room: what comes is a row of one's own -/
theorem app0 {t e : TypeId} {sz : Nat} {zs : List Value} (hE : ElOk P t e sz zs) {A : Option Addr} {x : Value} {m : Nat} {news : List Value} (hs : SrcA P wA w0 X M sz t x m news) (hk : m ≤ 1000000000) {ty : TypeId} {K : Value → Ctx → Prop}
    (h : ∀ A' cap', m ≤ cap' → (0 < cap' → ∃ b, A' = some ⟨b, 0, none⟩) → K (.slice A' m cap') (CtxA wA w0 X ((.slice A' m cap', .row e sz news) :: M))) : SemVC P (CtxA wA w0 X M) (Builtin.append_ #[t, t] ty #[.slice A 0 0, x]) K := by
  constructor
  intro w hw
  have h0 : DA.ok (.row e sz []) (.slice A 0 0) w := ⟨A, 0, 0, rfl, by simp, Nat.le_refl _, Nat.zero_le _, .inl rfl⟩
  obtain ⟨A', cap', w', hrun, hok, hc, hA, ho, ht, hp, hz, hsm, hb⟩ := run_appA (ty := ty) hE h0 (hs.out w hw) (by omega)
  have hb0 : blkV (.slice A 0 0) = none := by cases A <;> simp [blkV]
  simp only [Nat.zero_add, List.nil_append] at hrun hok hb hc
  obtain ⟨h2, h3⟩ := moreA (w' := w') hw ho ht hp hz (fun k hk => hsm k hk (by rw [hb0]; simp)) hok (fun b h => by
    rcases hb b h with h1 | h1
    · rw [hb0] at h1; cases h1
    · exact h1)
  refine ⟨_, w', _, hrun, h2, h3, h A' cap' hc fun h0 => ?_⟩
  obtain ⟨b, h4 | h4⟩ := hA h0
  · exact ⟨b, h4⟩
  · omega
/-- a row that is made -/
theorem mkA {t e : TypeId} {sz : Nat} {zs : List Value} (hE : ElOk P t e sz zs) {k1 k2 : IntKind} {c : Int} (hc : 0 ≤ c) (hk : c ≤ 1000000000) {K : Value → Ctx → Prop}
    (h : ∀ b, K (.slice (some ⟨b, 0, none⟩) c.toNat c.toNat) (CtxA wA w0 X ((.slice (some ⟨b, 0, none⟩) c.toNat c.toNat, .row e sz (List.replicate c.toNat zs).flatten) :: M))) : SemVC P (CtxA wA w0 X M) (Instr.makeSlice t (.int k1 c) (.int k2 c)) K := by
  obtain ⟨i, z, hi, hz, hsize, hby, hzc⟩ := hE.parts
  constructor
  intro w hw
  have hb : (i.bytes : Int) * c ≤ 281474976710656 := by
    have h1 : (i.bytes : Int) ≤ 4096 := by omega
    have h2 : (i.bytes : Int) * c ≤ 4096 * c := Int.mul_le_mul_of_nonneg_right h1 hc
    omega
  have hrun := run_make (P := P) w t e i z hE.sl hi hz k1 k2 c c hc (Int.le_refl _) hb (by omega)
  have hcells : madeCells z.cells (c.toNat * i.size) = (List.replicate c.toNat zs).flatten.toArray := by
    have hl := hE.len
    have hp := hE.pos
    have key : ∀ n : Nat, (List.range (n * sz)).map (fun x => zs[x % sz]!) = (List.replicate n zs).flatten := by
      intro n
      apply List.ext_getElem?
      intro j
      induction n generalizing j with
      | zero => simp
      | succ n ih =>
        rw [List.replicate_succ, List.flatten_cons, List.getElem?_append, hl]
        by_cases hj : j < sz
        · rw [if_pos hj, List.getElem?_map, List.getElem?_range (by rw [Nat.add_mul]; omega)]
          simp only [Option.map_some, Nat.mod_eq_of_lt hj]
          rw [List.getElem?_eq_getElem (by omega), getElem!_pos _ _ (by omega)]
        · rw [if_neg hj, ← ih]
          by_cases hj2 : j < (n + 1) * sz
          · rw [List.getElem?_map, List.getElem?_map, List.getElem?_range hj2, List.getElem?_range (by rw [Nat.add_mul] at hj2; omega)]
            simp only [Option.map_some]
            congr 2
            rw [Nat.mod_eq_sub_mod (by omega)]
          · rw [List.getElem?_eq_none (by simpa using hj2), List.getElem?_eq_none (by rw [Nat.add_mul] at hj2; simp; omega)]
    apply Array.ext'
    rw [← key]
    simp [madeCells, hzc, hsize, hl]
  rw [hcells] at hrun
  obtain ⟨h3, h4⟩ := newRowA hw e sz c.toNat (List.replicate c.toNat zs).flatten (by simp [hE.len]) (by simp only [maxLen]; omega)
  exact ⟨_, _, _, hrun, h3, h4, h _⟩
/-- an operation that touches no memory -/
theorem opA {m : Sem Next} {C : Ctx} {v : Value} {K : Value → Ctx → Prop} {Z : PanK} (hr : ∀ w, m.run P w = .ok (.value v) w) (h : K v C) : OpVC P C m K Z :=
  ⟨fun w hw => .inl ⟨v, w, C, hr w, Goes.refl _ _, hw, h⟩⟩
theorem panA {m : Sem Next} {C : Ctx} {v : Value} {K : Value → Ctx → Prop} {Z : PanK} (hr : ∀ w, m.run P w = .halt (.panic v) w) (h : Z [{ v, recovered := false }] C) : OpVC P C m K Z :=
  ⟨fun w hw => .inr (.inr ⟨v, w, C, hr w, Goes.refl _ _, hw, h⟩)⟩
theorem semA {m : Sem Value} {C : Ctx} {v : Value} {K : Value → Ctx → Prop} (hr : ∀ w, m.run P w = .ok v w) (h : K v C) : SemVC P C m K :=
  ⟨fun w hw => ⟨v, w, C, hr w, Goes.refl _ _, hw, h⟩⟩
/-- a result that is read from memory -/
theorem resA {b : Nat} {t0 : TypeId} {l : List Value} {off : Nat} {v : Value} (hm : (Value.pointer (some ⟨b, 0, none⟩), DA.cs t0 l) ∈ M) {t : TypeId} {ti : TyI} (hi : TyOk P t ti) (hag : ti.d.agg = false) (hv : l[off]? = some v) {K : Value → Prop} (h : K v) : LdVC P (CtxA wA w0 X M) t ⟨b, off, none⟩ K :=
  ⟨⟨v, fun w hw => by
    have hb := InA.cs hw hm
    have hc : w.cell? ⟨b, off, none⟩ = some v := by rw [hb.cell off]; simpa using hv
    simp [loadVar, hi.run_isAgg, hag, load, Sem.run, hc], h⟩⟩
theorem ressA {b : Nat} {t0 : TypeId} {l : List Value} {off : Nat} (hm : (Value.pointer (some ⟨b, 0, none⟩), DA.cs t0 l) ∈ M) {t : TypeId} {ti : TyI} (hi : TyOk P t ti) (hag : ti.d.agg = true) {K : Value → Prop} (h : forceL ((l.drop off).take ti.size) fun vs => chk (Nat.beq vs.length ti.size) (K (.agg vs.toArray))) : LdVC P (CtxA wA w0 X M) t ⟨b, off, none⟩ K := by
  rw [forceL_eq] at h
  obtain ⟨hl, h⟩ := chk_iff h
  exact ⟨⟨_, fun w hw => by
    have hb := InA.cs hw hm
    exact run_loadVar_box hi hb hag rfl (Nat.eq_of_beq_eq_true hl), h⟩⟩
end
end Go.Proofs.YtgaopcbjhepklaaGreat
