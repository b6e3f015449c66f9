/- A call in a context of its own: what there was is an anchor, but for what is turned; what it makes is known besides. -/
import Derived.Test.YtgaopcbjhepklaaGreatZf
namespace Go.Proofs.YtgaopcbjhepklaaGreat
open Go.RowKit
set_option linter.unusedSimpArgs false
set_option linter.unusedVariables false
set_option maxRecDepth 100000
/-- a seat -/
structure SeP where
  phase : Int
  at_ : Int
  task : Int
  qk : Int
  qa : Int
  qb : Int
  p0 : Int
  p1 : Int
  p2 : Int
  p3 : Int
  Aq : Option Addr
  nq : Nat
  cq : Nat
  o0 : Int
  o1 : Int
  o2 : Int
  o3 : Int
  Al : Option Addr
  nl : Nat
  cl : Nat
  As : Option Addr
  ns : Nat
  cs : Nat
  Ag : Option Addr
  ng : Nat
  cg : Nat
  hold : Int
def SeP.l (s : SeP) : List Value := [.int .i64 s.phase, .int .i64 s.at_, .int .i64 s.task, .int .i64 s.qk, .int .i64 s.qa, .int .i64 s.qb, .int .i64 s.p0, .int .i64 s.p1, .int .i64 s.p2, .int .i64 s.p3, .slice s.Aq s.nq s.cq, .int .i64 s.o0, .int .i64 s.o1, .int .i64 s.o2, .int .i64 s.o3, .slice s.Al s.nl s.cl, .slice s.As s.ns s.cs, .slice s.Ag s.ng s.cg, .int .i64 s.hold]
/-- blocks are struck -/
def er (w : World) (ks : List Nat) : World := { w with heap := w.heap.mapIdx fun i o => if i ∈ ks then goneO else o }
def keysL (M : EL) : List Nat := M.filterMap fun e => blkV e.1
theorem er_size (w : World) (ks : List Nat) : (er w ks).heap.size = w.heap.size := by simp [er]
theorem er_in (w : World) {ks : List Nat} {k : Nat} (h : k ∈ ks) : ¬ HasB (er w ks) k := fun ⟨h1, h2⟩ => by
  rw [er_size] at h1
  apply h2
  simp [er, h, h1]
theorem er_out (w : World) {ks : List Nat} {k : Nat} (h : k ∉ ks) : (er w ks).heap[k]? = w.heap[k]? := by
  simp only [er, Array.getElem?_mapIdx]
  cases e : w.heap[k]? <;> simp [h]
theorem er_has (w : World) {ks : List Nat} {k : Nat} (h : HasB (er w ks) k) : w.heap[k]? = (er w ks).heap[k]? := by
  by_cases hk : k ∈ ks
  · exact absurd h (er_in w hk)
  · exact (er_out w hk).symm
/-- a later memory, as far as it is known -/
structure InE (wA : World) (M : EL) (E : World) : Prop where
  cell : ∀ a v, wA.cell? a = some v → E.cell? a = some v
  row : ∀ A n c t sz l, (Value.slice A n c, DA.row t sz l) ∈ M → Rd E E.heap.size A l ∧ l.length = n * sz ∧ n ≤ c ∧ c ≤ maxLen
  cs : ∀ b t l, (Value.pointer (some ⟨b, 0, none⟩), DA.cs t l) ∈ M → ∀ j v, l[j]? = some v → E.cell? ⟨b, j, none⟩ = some v
theorem RowAt.cell {w : World} {b : Nat} {t : TypeId} {sz n cap : Nat} {l : List Value} (h : RowAt w b t sz n cap l) {j : Nat} {u : Value} (hu : l[j]? = some u) : w.cell? ⟨b, j, none⟩ = some u := by
  obtain ⟨cur, h1, h2, h3⟩ := h
  have hj : j < n * sz := by
    have := (List.getElem?_eq_some_iff.1 hu).1
    rw [← h3] at this
    simp at this
    omega
  rw [← h3, List.getElem?_take, if_pos hj] at hu
  rw [cell_of_row _ _ _ _ _ _ h1]
  simpa using hu
section
variable {P : Program} {wA w0 : World} {X : Nat → Prop} {M Mk Mr : EL} {K : Value → Ctx → Prop} {Z : PanK}
theorem keysA_iff {M : EL} {k : Nat} : keysA M k ↔ k ∈ keysL M := Iff.rfl
theorem InA.snap {w : World} (hw : InA wA w0 X (Mk ++ Mr) w) : InE wA Mr (er w (keysL Mk)) := by
  have hnd := hw.nd
  rw [List.filterMap_append] at hnd
  have hdis := (List.nodup_append.1 hnd).2.2
  have hcell : ∀ (a : Addr) (v : Value), w.cell? a = some v → a.block ∉ keysL Mk → (er w (keysL Mk)).cell? a = some v := fun a v hv hn => (World.cell?_of_block (er_out w hn)).trans hv
  refine ⟨fun a v hv => ?_, fun A n c t sz l hm => ?_, fun b t l hm j v hv => ?_⟩
  · refine hcell _ _ (InA.oldAt hw hv) fun hk => ?_
    obtain ⟨e, he, hb⟩ := List.mem_filterMap.1 hk
    exact (hw.ap e (List.mem_append.2 (.inl he)) _ hb).2 (HasB.of hv)
  · obtain ⟨A', n', cap', e, hl, hn, hx, hr⟩ := hw.new _ (List.mem_append.2 (.inr hm))
    injection e with e1 e2 e3
    subst e1 e2 e3
    refine ⟨?_, hl, hn, hx⟩
    rcases hr with rfl | ⟨b, rfl, h0, hr⟩
    · have : n = 0 := by omega
      subst this
      have : l = [] := List.eq_nil_of_length_eq_zero (by omega)
      exact .inl this
    · have hbv : blkV (Value.slice (some ⟨b, 0, none⟩) n c) = some b := by
        have : ¬ c = 0 := by omega
        simp [blkV, this]
      have hbk : b ∉ keysL Mk := fun hk => hdis _ hk b (List.mem_filterMap.2 ⟨_, hm, hbv⟩) rfl
      refine .inr ⟨b, 0, rfl, ?_, fun j u hu => ?_⟩
      · obtain ⟨cur, h1, _⟩ := hr
        rw [er_size]
        exact (Array.getElem?_eq_some_iff.1 h1).1
      · rw [Nat.zero_add]
        exact hcell _ _ (hr.cell hu) hbk
  · obtain ⟨b', e, h1⟩ := hw.new _ (List.mem_append.2 (.inr hm))
    injection e with e
    injection e with e
    injection e with e
    subst e
    have hbk : b ∉ keysL Mk := fun hk => hdis _ hk b (List.mem_filterMap.2 ⟨_, hm, rfl⟩) rfl
    refine hcell _ _ ?_ hbk
    rw [cell_of_row _ _ _ _ _ _ h1]
    simpa using hv
theorem InA.startK {w : World} (hw : InA wA w0 X (Mk ++ Mr) w) : InA (er w (keysL Mk)) w (keysA Mk) Mk w := by
  have hnd := hw.nd
  rw [List.filterMap_append] at hnd
  exact ⟨rfl, rfl, rfl, Nat.le_refl _, fun _ _ _ => rfl, by rw [er_size]; exact Nat.le_refl _, fun k hk => er_has w hk, fun e he => hw.new e (List.mem_append.2 (.inl he)), fun e he b hb => ⟨.inr (memK he hb), er_in w (memK he hb)⟩, (List.nodup_append.1 hnd).1⟩
theorem anchoredK {w w' : World} {M' : EL} (hw : InA wA w0 X (Mk ++ Mr) w) (h2 : InA (er w (keysL Mk)) w (keysA Mk) M' w') : Goes (CtxA wA w0 X (Mk ++ Mr)) w (CtxA wA w0 X (M' ++ Mr)) w' ∧ InA wA w0 X (M' ++ Mr) w' := by
  have hlt : ∀ e ∈ Mk ++ Mr, ∀ b, blkV e.1 = some b → b < w.heap.size := fun e he b hb => (hw.new e he).blk hb
  have hnd := hw.nd
  rw [List.filterMap_append] at hnd
  have hdis := (List.nodup_append.1 hnd).2.2
  have hkA : ∀ k, HasB wA k → ¬ keysA Mk k := fun k hk hm => by
    obtain ⟨e, he, hb⟩ := List.mem_filterMap.1 hm
    exact (hw.ap e (List.mem_append.2 (.inl he)) _ hb).2 hk
  have hkR : ∀ e ∈ Mr, ∀ b, blkV e.1 = some b → ¬ keysA Mk b := fun e he b hb hm => hdis _ hm b (List.mem_filterMap.2 ⟨e, he, hb⟩) rfl
  refine ⟨⟨h2.size, fun k hk hn => h2.old k hk fun hm => ?_, fun k hk => ?_⟩, h2.os.trans hw.os, h2.tape.trans hw.tape, h2.output.trans hw.output, Nat.le_trans hw.size h2.size, fun k hk hx => (h2.old k (Nat.lt_of_lt_of_le hk hw.size) fun hm => ?_).trans (hw.old k hk hx), Nat.le_trans hw.asz h2.size, fun k hk => (h2.old k (Nat.lt_of_lt_of_le hk.1 hw.asz) (hkA k hk)).trans (hw.anc k hk), fun e he => ?_, fun e he b hb => ?_, ?_⟩
  · obtain ⟨e, he, hb⟩ := List.mem_filterMap.1 hm
    exact hn (.inr (.inr (memK (List.mem_append.2 (.inl he)) hb)))
  · rcases hk with hk | hk | hk
    · exact .inl (.inl hk)
    · exact .inl (.inr (.inl hk))
    · obtain ⟨e, he, hb⟩ := List.mem_filterMap.1 hk
      rcases List.mem_append.1 he with he | he
      · rcases (h2.ap e he k hb).1 with h3 | h3
        · exact .inr h3
        · obtain ⟨e', he', hb'⟩ := List.mem_filterMap.1 h3
          exact .inl (.inr (.inr (memK (List.mem_append.2 (.inl he')) hb')))
      · exact .inl (.inr (.inr (memK (List.mem_append.2 (.inr he)) hb)))
  · obtain ⟨e, he, hb⟩ := List.mem_filterMap.1 hm
    rcases (hw.ap e (List.mem_append.2 (.inl he)) k hb).1 with h3 | h3
    · omega
    · exact hx h3
  · rcases List.mem_append.1 he with he | he
    · exact h2.new e he
    · exact (hw.new e (List.mem_append.2 (.inr he))).keep fun b hb => h2.old b (hlt e (List.mem_append.2 (.inr he)) b hb) (hkR e he b hb)
  · rcases List.mem_append.1 he with he | he
    · rcases (h2.ap e he b hb).1 with h3 | h3
      · exact ⟨.inl (Nat.le_trans hw.size h3), HasB.not hw.asz h3⟩
      · obtain ⟨e', he', hb'⟩ := List.mem_filterMap.1 h3
        exact hw.ap e' (List.mem_append.2 (.inl he')) b hb'
    · exact hw.ap e (List.mem_append.2 (.inr he)) b hb
  · rw [List.filterMap_append]
    refine List.nodup_append.2 ⟨h2.nd, (List.nodup_append.1 hnd).2.1, fun a ha b hb e => ?_⟩
    subst e
    obtain ⟨x, hx, hxa⟩ := List.mem_filterMap.1 ha
    obtain ⟨y, hy, hyb⟩ := List.mem_filterMap.1 hb
    rcases (h2.ap x hx a hxa).1 with h3 | h3
    · have h4 := hlt y (List.mem_append.2 (.inr hy)) a hyb
      omega
    · exact hdis _ h3 a (List.mem_filterMap.2 ⟨y, hy, hyb⟩) rfl
structure RetN (wA w0 : World) (X : Nat → Prop) (E w : World) (Y : Nat → Prop) (Mr : EL) (K : Value → Ctx → Prop) (v : Value) (C : Ctx) : Prop where
  out : ∃ M', C = CtxA E w Y M' ∧ K v (CtxA wA w0 X (M' ++ Mr))
structure PanN (wA w0 : World) (X : Nat → Prop) (E w : World) (Y : Nat → Prop) (Mr : EL) (Z : PanK) (ch : List PanicEntry) (C : Ctx) : Prop where
  out : ∃ M', C = CtxA E w Y M' ∧ Z ch (CtxA wA w0 X (M' ++ Mr))
theorem RetN.go {E w : World} {Y : Nat → Prop} {v : Value} {M' : EL} (h : K v (CtxA wA w0 X (M' ++ Mr))) : RetN wA w0 X E w Y Mr K v (CtxA E w Y M') := ⟨M', rfl, h⟩
theorem PanN.go {E w : World} {Y : Nat → Prop} {ch : List PanicEntry} {M' : EL} (h : Z ch (CtxA wA w0 X (M' ++ Mr))) : PanN wA w0 X E w Y Mr Z ch (CtxA E w Y M') := ⟨M', rfl, h⟩
/-- a call, by what it comes to where all that there was is an anchor, but for what it may turn -/
theorem CallVC.anchor {f : FuncId} {args : Array Value} (Mk Mr : EL) {M : EL} (he : Enters P f) (hM : M = Mk ++ Mr) (h : ∀ E w Y, InE wA Mr E → CallVC P (CtxA E w Y Mk) f args (RetN wA w0 X E w Y Mr K) (PanN wA w0 X E w Y Mr Z)) : CallVC P (CtxA wA w0 X M) f args K Z := by
  subst hM
  constructor
  refine ⟨he, fun w hw => ?_⟩
  refine ((h _ w (keysA Mk) (InA.snap hw)).out.2 w (InA.startK hw)).mono fun e w2 hh => ?_
  rcases hh with ⟨v, C', h1, h2, h3, ⟨M', rfl, h4⟩⟩ | ⟨ch, C', h1, h2, h3, ⟨M', rfl, h4⟩⟩
  · obtain ⟨h5, h6⟩ := anchoredK hw h3
    exact .inl ⟨v, _, h1, h5, h6, h4⟩
  · obtain ⟨h5, h6⟩ := anchoredK hw h3
    exact .inr ⟨ch, _, h1, h5, h6, h4⟩
/-! rows and cells in a later memory -/
theorem InE.less {M' : EL} {E : World} (h : InE wA M E) (hs : ∀ e ∈ M', e ∈ M) : InE wA M' E := ⟨h.cell, fun A n c t sz l hm => h.row A n c t sz l (hs _ hm), fun b t l hm => h.cs b t l (hs _ hm)⟩
theorem InE.trans {M' : EL} {E E' : World} (h : InE wA M E) (h' : InE E M' E') : InE wA (M' ++ M) E' := by
  have hrd : ∀ (A : Option Addr) (xs : List Value), Rd E E.heap.size A xs → Rd E' E'.heap.size A xs := fun A xs hr => by
    rcases hr with rfl | ⟨b, off, rfl, hb, hc⟩
    · exact .inl rfl
    · cases xs with
      | nil => exact .inl rfl
      | cons x xs => exact .inr ⟨b, off, rfl, World.block_lt_of_cell? E' _ (h'.cell _ _ (hc 0 x rfl)), fun j u hu => h'.cell _ _ (hc j u hu)⟩
  refine ⟨fun a v hv => h'.cell _ _ (h.cell _ _ hv), fun A n c t sz l hm => ?_, fun b t l hm => ?_⟩
  · rcases List.mem_append.1 hm with hm | hm
    · exact h'.row A n c t sz l hm
    · obtain ⟨h1, h2⟩ := h.row A n c t sz l hm
      exact ⟨hrd _ _ h1, h2⟩
  · rcases List.mem_append.1 hm with hm | hm
    · exact h'.cs b t l hm
    · exact fun j v hv => h'.cell _ _ (h.cs b t l hm j v hv)
theorem InE.rd {E : World} (h : InE wA M E) {A : Option Addr} {xs : List Value} (hr : Rd wA wA.heap.size A xs) : Rd E E.heap.size A xs := by
  rcases hr with rfl | ⟨b, off, rfl, hb, hc⟩
  · exact .inl rfl
  · cases xs with
    | nil => exact .inl rfl
    | cons x xs => exact .inr ⟨b, off, rfl, World.block_lt_of_cell? E _ (h.cell _ _ (hc 0 x rfl)), fun j u hu => h.cell _ _ (hc j u hu)⟩
theorem InE.oldI {E : World} (h : InE wA M E) {A : Option Addr} {n c : Nat} {xs : List Int} (ho : OldI wA A n c xs) : OldI E A n c xs := ⟨h.rd ho.rd, ho.len, ho.cap, ho.sm⟩
theorem InE.oldK {E : World} (h : InE wA M E) {A : Option Addr} {n c : Nat} {xs : List KidP} (ho : OldK wA A n c xs) : OldK E A n c xs := ⟨h.rd ho.rd, ho.len, ho.cap, ho.sm⟩
theorem InE.ownI {E : World} (h : InE wA M E) {A : Option Addr} {n c : Nat} {t : TypeId} {xs : List Int} (hm : (Value.slice A n c, DA.row t 1 (is xs)) ∈ M) (hs : n ≤ 1000000) : OldI E A n c xs := by
  obtain ⟨h1, h2, h3, _⟩ := h.row _ _ _ _ _ _ hm
  exact ⟨h1, by simpa using h2.symm, h3, hs⟩
theorem InE.ownK {E : World} (h : InE wA M E) {A : Option Addr} {n c : Nat} {t : TypeId} {xs : List KidP} (hm : (Value.slice A n c, DA.row t 2 (kidL xs)) ∈ M) (hs : n ≤ 1000000) : OldK E A n c xs := by
  obtain ⟨h1, h2, h3, _⟩ := h.row _ _ _ _ _ _ hm
  exact ⟨h1, by rw [kidL_length] at h2; omega, h3, hs⟩
theorem InE.code {E : World} (h : InE wA M E) {c : CodeP} (hc : CodeOk wA c) : CodeOk E c := by
  refine ⟨hc.nf, hc.sm, hc.sc, fun i hi => ?_, fun i hi => ?_⟩
  · obtain ⟨b, o, h1, h2⟩ := hc.body i hi
    exact ⟨b, o, h1, fun q v hv => h.cell _ _ (h2 q v hv)⟩
  · obtain ⟨h1, h2, h3⟩ := hc.ins i hi
    exact ⟨h.rd h1, h2, h3⟩
theorem InE.fr {E : World} (h : InE wA M E) {f : FrP} (hf : FrOk wA f) : FrOk E f := ⟨h.oldI hf.path, h.oldI hf.loc, h.oldI hf.stk, h.oldK hf.kids⟩
end
end Go.Proofs.YtgaopcbjhepklaaGreat
