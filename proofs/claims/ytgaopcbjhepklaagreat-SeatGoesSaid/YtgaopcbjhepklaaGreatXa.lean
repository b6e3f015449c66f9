/- A context of blocks that are known: exactly, or as a row with a beginning that is known. -/
import Derived.Test.YtgaopcbjhepklaaGreatWm
import Derived.Test.YtgaopcbjhepklaaGreatFr
namespace Go.Proofs.YtgaopcbjhepklaaGreat
open Go.RowKit
set_option linter.unusedSimpArgs false
set_option linter.unusedVariables false
set_option maxRecDepth 100000

section
variable {P : Program}
theorem loadC {C : Ctx} {t : TypeId} {i : TyI} (hi : TyOk P t i) (hag : i.d.agg = false) {a : Addr} {K : Value → Ctx → Prop} (v : Value) (hr : ∀ w, C.R w → w.cell? a = some v) (h : K v C) : SemVC P C (Instr.loadAt t (.pointer (some a))) K := by
  constructor
  intro w hw
  exact ⟨v, w, _, by simp [Instr.loadAt, Instr.sureAddr, loadVar, hi.run_isAgg, hag, load, Sem.run, hr w hw], Goes.refl _ _, hw, h⟩
theorem loadA {C : Ctx} {t : TypeId} {i : TyI} (hi : TyOk P t i) (hag : i.d.agg = true) {b off : Nat} {K : Value → Ctx → Prop} (l : List Value) (hl : l.length = i.size) (hr : ∀ w, C.R w → ∀ j v, l[j]? = some v → w.cell? ⟨b, off + j, none⟩ = some v) (h : K (.agg l.toArray) C) : SemVC P C (Instr.loadAt t (.pointer (some ⟨b, off, none⟩))) K := by
  constructor
  intro w hw
  have h1 : (loadCells ⟨b, off, none⟩ l.length).run P w = .ok l.toArray w := run_loadCells_list w _ l fun j v hj => by rw [addr_add]; exact hr w hw j v hj
  rw [hl] at h1
  exact ⟨.agg l.toArray, w, _, by simp [Instr.loadAt, Instr.sureAddr, loadVar, hi.run_isAgg, hag, hi.run_size, h1], Goes.refl _ _, hw, h⟩
end
/-- what is known of a block: its cells; or that it is a row of so many elements, of so many cells each, which begins so -/
inductive Ds where
  | cs (t : TypeId) (l : List Value)
  | row (t : TypeId) (sz cap : Nat) (l : List Value)
def Ds.ok (d : Ds) (o : Option Go.Obj) : Prop := match d with
  | .cs t l => o = some (.cells l.toArray t (0, 0))
  | .row t sz cap l => ∃ cs : Array Value, o = some (.cells cs t (0, 0)) ∧ cs.size = cap * sz ∧ cs.toList.take l.length = l
abbrev Mm := List (Nat × Ds)
structure InM (w0 : World) (X : Nat → Prop) (M : Mm) (w : World) : Prop where
  os : w.os = w0.os
  tape : w.tape = w0.tape
  output : w.output = w0.output
  size : w0.heap.size ≤ w.heap.size
  old : ∀ k, k < w0.heap.size → ¬ X k → w.heap[k]? = w0.heap[k]?
  new : ∀ b d, (b, d) ∈ M → d.ok w.heap[b]?
  ap : ∀ b d, (b, d) ∈ M → w0.heap.size ≤ b ∨ X b
  nd : (M.map (·.1)).Nodup
theorem Ds.ok.lt {d : Ds} {w : World} {b : Nat} (h : d.ok w.heap[b]?) : b < w.heap.size := by
  cases d with
  | cs t l => exact (Array.getElem?_eq_some_iff.1 h).1
  | row t sz cap l => obtain ⟨cs, h, _⟩ := h; exact (Array.getElem?_eq_some_iff.1 h).1
def CtxM (w0 : World) (X : Nat → Prop) (M : Mm) : Ctx where
  dom k := (k < w0.heap.size ∧ ¬ X k) ∨ k ∈ M.map (·.1)
  R := InM w0 X M
  lt w h k hk := by
    rcases hk with hk | hk
    · exact Nat.lt_of_lt_of_le hk.1 h.size
    · obtain ⟨⟨b, d⟩, hb, rfl⟩ := List.mem_map.1 hk
      exact (h.new b d hb).lt
  stable w w' h hs hz h1 h2 h3 := by
    refine ⟨h1.trans h.os, h2.trans h.tape, h3.trans h.output, Nat.le_trans h.size hz, fun k hk hx => (hs k (.inl ⟨hk, hx⟩)).trans (h.old k hk hx), fun b d hb => ?_, h.ap, h.nd⟩
    rw [hs b (.inr (List.mem_map.2 ⟨(b, d), hb, rfl⟩))]
    exact h.new b d hb
def noX : Nat → Prop := fun _ => False
theorem CtxM.start (w : World) : (CtxM w noX []).R w := ⟨rfl, rfl, rfl, Nat.le_refl _, fun _ _ _ => rfl, (fun b d h => nomatch h), (fun b d h => nomatch h), List.nodup_nil⟩
/-- blocks below that may be turned are those of X -/
structure Mod (X : Nat → Prop) (w w' : World) : Prop where
  os : w'.os = w.os
  tape : w'.tape = w.tape
  output : w'.output = w.output
  size : w.heap.size ≤ w'.heap.size
  old : ∀ k, k < w.heap.size → ¬ X k → w'.heap[k]? = w.heap[k]?
theorem InM.mod {w0 w : World} {X : Nat → Prop} {M : Mm} (h : InM w0 X M w) : Mod X w0 w := ⟨h.os, h.tape, h.output, h.size, h.old⟩
theorem Mod.below {w w' : World} (h : Mod noX w w') : Below w.heap.size w w' := ⟨h.os, h.tape, h.output, h.size, fun k hk => h.old k hk id⟩
section
variable {P : Program} {w0 : World} {X : Nat → Prop} {M : Mm}
theorem memM {i b : Nat} {d : Ds} (h : M[i]? = some (b, d)) : (b, d) ∈ M := List.mem_of_getElem? h
/-- a cell of a block that is known -/
theorem ldM (i : Nat) {b : Nat} {t0 : TypeId} {l : List Value} (hm : M[i]? = some (b, .cs t0 l)) {t : TypeId} {ti : TyI} (hi : TyOk P t ti) (hag : ti.d.agg = false) {off : Nat} {v : Value} (hv : l[off]? = some v) {K : Value → Ctx → Prop} (h : K v (CtxM w0 X M)) {a : Addr} (ha : a = ⟨b, off, none⟩ := by rfl) : SemVC P (CtxM w0 X M) (Instr.loadAt t (.pointer (some a))) K := by
  subst ha
  refine loadC hi hag v (fun w hw => ?_) h
  have hb : Blk w b t0 l.toArray := hw.new b _ (memM hm)
  exact (hb.cell off).trans (by simpa using hv)
/-- a struct in a block that is known -/
theorem ldsM (i : Nat) {b : Nat} {t0 : TypeId} {l : List Value} (hm : M[i]? = some (b, .cs t0 l)) {t : TypeId} {ti : TyI} (hi : TyOk P t ti) (hag : ti.d.agg = true) {off : Nat} (vs : List Value) (hl : vs.length = ti.size) (hv : (l.drop off).take ti.size = vs) {K : Value → Ctx → Prop} (h : K (.agg vs.toArray) (CtxM w0 X M)) {a : Addr} (ha : a = ⟨b, off, none⟩ := by rfl) : SemVC P (CtxM w0 X M) (Instr.loadAt t (.pointer (some a))) K := by
  subst ha
  refine loadA hi hag vs hl (fun w hw j v hj => ?_) h
  have hb : Blk w b t0 l.toArray := hw.new b _ (memM hm)
  rw [hb.cell (off + j)]
  rw [← hv] at hj
  have hjl := (List.getElem?_eq_some_iff.1 hj).1
  rw [List.getElem?_take, if_pos (by simp at hjl; omega), List.getElem?_drop] at hj
  simpa using hj
/-- a cell of a row whose beginning is known -/
theorem ldrM (i : Nat) {b : Nat} {t0 : TypeId} {sz cap : Nat} {l : List Value} (hm : M[i]? = some (b, .row t0 sz cap l)) {t : TypeId} {ti : TyI} (hi : TyOk P t ti) (hag : ti.d.agg = false) {off : Nat} {v : Value} (hv : l[off]? = some v) {K : Value → Ctx → Prop} (h : K v (CtxM w0 X M)) {a : Addr} (ha : a = ⟨b, off, none⟩ := by rfl) : SemVC P (CtxM w0 X M) (Instr.loadAt t (.pointer (some a))) K := by
  subst ha
  refine loadC hi hag v (fun w hw => ?_) h
  obtain ⟨cs, h1, h2, h3⟩ := hw.new b _ (memM hm)
  have hb : Blk w b t0 cs := h1
  rw [hb.cell off]
  have hlt := (List.getElem?_eq_some_iff.1 hv).1
  rw [← h3, List.getElem?_take, if_pos hlt] at hv
  simpa using hv
/-- the i-th block is another one -/
def setM : Mm → Nat → Ds → Mm
  | [], _, _ => []
  | (b, _) :: l, 0, d => (b, d) :: l
  | x :: l, i + 1, d => x :: setM l i d
theorem setM_keys : ∀ (M : Mm) (i : Nat) (d : Ds), (setM M i d).map (·.1) = M.map (·.1)
  | [], _, _ => rfl
  | (b, _) :: l, 0, d => rfl
  | x :: l, i + 1, d => by simp [setM, setM_keys l i d]
theorem setM_mem : ∀ {M : Mm} {i : Nat} {d d0 : Ds} {b : Nat}, (M.map (·.1)).Nodup → M[i]? = some (b, d0) → ∀ c e, (c, e) ∈ setM M i d → (c = b ∧ e = d) ∨ (c ≠ b ∧ (c, e) ∈ M)
  | [], i, d, d0, b, hn, hm, c, e, h => by cases h
  | (b', d') :: l, 0, d, d0, b, hn, hm, c, e, h => by
    simp only [List.getElem?_cons_zero, Option.some.injEq, Prod.mk.injEq] at hm
    obtain ⟨rfl, rfl⟩ := hm
    simp only [List.map_cons, List.nodup_cons] at hn
    rcases List.mem_cons.1 h with h | h
    · injection h with h1 h2; exact .inl ⟨h1, h2⟩
    · refine .inr ⟨fun hc => hn.1 ?_, List.mem_cons_of_mem _ h⟩
      exact List.mem_map.2 ⟨(c, e), h, hc⟩
  | (b', d') :: l, i + 1, d, d0, b, hn, hm, c, e, h => by
    simp only [List.getElem?_cons_succ] at hm
    simp only [List.map_cons, List.nodup_cons] at hn
    rcases List.mem_cons.1 h with h | h
    · injection h with h1 h2
      subst h1 h2
      refine .inr ⟨fun hc => hn.1 ?_, List.mem_cons_self ..⟩
      rw [hc]
      exact List.mem_map.2 ⟨(b, d0), List.mem_of_getElem? hm, rfl⟩
    · rcases setM_mem hn.2 hm c e h with h1 | ⟨h1, h2⟩
      · exact .inl h1
      · exact .inr ⟨h1, List.mem_cons_of_mem _ h2⟩
/-- a block of those that are known is turned, and nothing else -/
theorem goesM {w w' : World} (hw : InM w0 X M w) {i b : Nat} {d d' : Ds} (hm : M[i]? = some (b, d)) (ho : w'.os = w.os) (ht : w'.tape = w.tape) (hu : w'.output = w.output) (hz : w.heap.size ≤ w'.heap.size) (hs : ∀ k, k < w.heap.size → k ≠ b → w'.heap[k]? = w.heap[k]?) (hd : d'.ok w'.heap[b]?) : Goes (CtxM w0 X M) w (CtxM w0 X (setM M i d')) w' ∧ (CtxM w0 X (setM M i d')).R w' := by
  have hbk : b ∈ M.map (·.1) := List.mem_map.2 ⟨(b, d), memM hm, rfl⟩
  refine ⟨⟨hz, fun k hk hn => hs k hk fun e => hn (e ▸ .inr hbk), fun k hk => .inl ?_⟩, ho.trans hw.os, ht.trans hw.tape, hu.trans hw.output, Nat.le_trans hw.size hz, fun k hk hx => ?_, fun c e he => ?_, fun c e he => ?_, by rw [setM_keys]; exact hw.nd⟩
  · rcases hk with hk | hk
    · exact .inl hk
    · rw [setM_keys] at hk; exact .inr hk
  · refine (hs k (Nat.lt_of_lt_of_le hk hw.size) fun e => ?_).trans (hw.old k hk hx)
    rcases hw.ap b d (memM hm) with h1 | h1
    · omega
    · exact hx (e ▸ h1)
  · rcases setM_mem hw.nd hm c e he with ⟨rfl, rfl⟩ | ⟨h1, h2⟩
    · exact hd
    · rw [hs c (hw.new c e h2).lt h1]; exact hw.new c e h2
  · rcases setM_mem hw.nd hm c e he with ⟨rfl, rfl⟩ | ⟨h1, h2⟩
    · exact hw.ap c d (memM hm)
    · exact hw.ap c e h2
/-- a store to a block that is known -/
theorem stM (i : Nat) {b : Nat} {t0 : TypeId} {l : List Value} (hm : M[i]? = some (b, .cs t0 l)) {t : TypeId} {ti : TyI} (hi : TyOk P t ti) {off : Nat} {v : Value} (l' : List Value) (hsz : v.cells.toList.length = ti.size) (hfit : off + v.cells.toList.length ≤ l.length) (h1 : allOne v.cells.toList = true) (hl' : putAt l off v.cells.toList = l') {K : Ctx → Prop} (h : K (CtxM w0 X (setM M i (.cs t0 l')))) {a : Addr} (ha : a = ⟨b, off, none⟩ := by rfl) : StoVC P (CtxM w0 X M) (Instr.storeAt t (.pointer (some a)) v) K := by
  subst ha hl'
  constructor
  intro w hw
  have hg : w.heap[b]? = some (.cells l.toArray t0 (0, 0)) := hw.new b _ (memM hm)
  have hrun := run_storeVar_box hi hg hsz hfit (allOne_spec h1)
  obtain ⟨h2, h3⟩ := goesM hw (d' := .cs t0 (putAt l off v.cells.toList)) (w' := w.setRow b (putAt l off v.cells.toList).toArray) hm rfl rfl rfl (by simp) (fun k _ hk => setRow_other w _ k _ hk) (setRow_heap w _ _ _ _ _ hg)
  exact ⟨_, _, by simp [Instr.storeAt, Instr.sureAddr, hrun], h2, h3, h⟩
/-- a new block -/
theorem newM {w : World} (hw : InM w0 X M w) (t : TypeId) (l : List Value) : Goes (CtxM w0 X M) w (CtxM w0 X ((w.heap.size, .cs t l) :: M)) (w.alloc (.cells l.toArray t)) ∧ (CtxM w0 X ((w.heap.size, .cs t l) :: M)).R (w.alloc (.cells l.toArray t)) := by
  have hs : (w.alloc (.cells l.toArray t)).heap.size = w.heap.size + 1 := by simp
  have hold : ∀ k, k < w.heap.size → (w.alloc (.cells l.toArray t)).heap[k]? = w.heap[k]? := fun k hk => Below.heap_alloc w _ k hk
  refine ⟨⟨by rw [hs]; omega, fun k hk _ => hold k hk, fun k hk => ?_⟩, hw.os, hw.tape, hw.output, by rw [hs]; have := hw.size; omega, fun k hk hx => (hold k (Nat.lt_of_lt_of_le hk hw.size)).trans (hw.old k hk hx), fun b d hb => ?_, fun b d hb => ?_, ?_⟩
  · rcases hk with hk | hk
    · exact .inl (.inl hk)
    · simp only [List.map_cons, List.mem_cons] at hk
      rcases hk with rfl | hk
      · exact .inr (Nat.le_refl _)
      · exact .inl (.inr hk)
  · rcases List.mem_cons.1 hb with hb | hb
    · injection hb with h1 h2
      subst h1 h2
      exact heap_alloc_new w _
    · rw [hold b (hw.new b d hb).lt]; exact hw.new b d hb
  · rcases List.mem_cons.1 hb with hb | hb
    · injection hb with h1 h2
      subst h1
      exact .inl hw.size
    · exact hw.ap b d hb
  · simp only [List.map_cons, List.nodup_cons]
    refine ⟨fun h => ?_, hw.nd⟩
    obtain ⟨⟨b, d⟩, hb, he⟩ := List.mem_map.1 h
    have := (hw.new b d hb).lt
    simp only at he
    omega
/-- a variable whose address is handed on -/
theorem allocM {t : TypeId} {ti : TyI} (hi : TyOk P t ti) {K : Value → Ctx → Prop} (l : List Value) (hl : ti.zv.cells.toList = l) (h : ∀ b, K (.pointer (some ⟨b, 0, none⟩)) (CtxM w0 X ((b, .cs t l) :: M))) : SemVC P (CtxM w0 X M) (Instr.alloc t true (.tuple #[])) K := by
  constructor
  intro w hw
  subst hl
  obtain ⟨h1, h2⟩ := newM hw t ti.zv.cells.toList
  exact ⟨_, _, _, by simp [Instr.alloc, hi.run_zero, newVar, newRow, newObj, Sem.run], h1, h2, h _⟩
theorem boxM {t : TypeId} {v : Value} {K : Value → Ctx → Prop} (l : List Value) (hl : v.cells.toList = l) (h : ∀ b, K (.pointer (some ⟨b, 0, none⟩)) (CtxM w0 X ((b, .cs t l) :: M))) : SemVC P (CtxM w0 X M) (Instr.box t v) K := by
  constructor
  intro w hw
  subst hl
  obtain ⟨h1, h2⟩ := newM hw t v.cells.toList
  exact ⟨_, _, _, by simp [Instr.box, newVar, newRow, newObj, Sem.run], h1, h2, h _⟩
/-! ### calls that are walked into -/
def keys (M : Mm) : Nat → Prop := fun k => k ∈ M.map (·.1)
theorem InM.self {w : World} (h : InM w0 X M w) : InM w (keys M) M w := ⟨rfl, rfl, rfl, Nat.le_refl _, fun _ _ _ => rfl, h.new, fun b d hb => .inr (List.mem_map.2 ⟨(b, d), hb, rfl⟩), h.nd⟩
theorem InM.notin {w : World} (h : InM w0 X M w) {k : Nat} (hk : k < w0.heap.size) (hx : ¬ X k) : ¬ keys M k := fun hm => by
  obtain ⟨⟨b, d⟩, hb, rfl⟩ := List.mem_map.1 hm
  rcases h.ap b d hb with h1 | h1
  · exact absurd hk (by simp only; omega)
  · exact hx h1
theorem comeM {w1 w2 : World} {M2 : Mm} (h1 : InM w0 X M w1) (h2 : InM w1 (keys M) M2 w2) : Goes (CtxM w0 X M) w1 (CtxM w0 X M2) w2 ∧ InM w0 X M2 w2 := by
  refine ⟨⟨h2.size, fun k hk hn => h2.old k hk fun hm => hn (.inr hm), fun k hk => ?_⟩, h2.os.trans h1.os, h2.tape.trans h1.tape, h2.output.trans h1.output, Nat.le_trans h1.size h2.size, fun k hk hx => ?_, h2.new, fun b d hb => ?_, h2.nd⟩
  · rcases hk with hk | hk
    · exact .inl (.inl hk)
    · obtain ⟨⟨b, d⟩, hb, rfl⟩ := List.mem_map.1 hk
      rcases h2.ap b d hb with h3 | h3
      · exact .inr h3
      · exact .inl (.inr h3)
  · exact (h2.old k (Nat.lt_of_lt_of_le hk h1.size) (h1.notin hk hx)).trans (h1.old k hk hx)
  · rcases h2.ap b d hb with h3 | h3
    · exact .inl (Nat.le_trans h1.size h3)
    · obtain ⟨⟨b', d'⟩, hb', e⟩ := List.mem_map.1 h3
      simp only at e
      subst e
      exact h1.ap _ d' hb'
/-- what a call that is walked into hands back -/
structure RetM (w0 : World) (X : Nat → Prop) (w1 : World) (X1 : Nat → Prop) (K : Value → Ctx → Prop) (v : Value) (C : Ctx) : Prop where
  out : ∃ M2, C = CtxM w1 X1 M2 ∧ K v (CtxM w0 X M2)
structure PanM (w0 : World) (X : Nat → Prop) (w1 : World) (X1 : Nat → Prop) (Z : PanK) (ch : List PanicEntry) (C : Ctx) : Prop where
  out : ∃ M2, C = CtxM w1 X1 M2 ∧ Z ch (CtxM w0 X M2)
theorem RetM.go {w1 : World} {X1 : Nat → Prop} {K : Value → Ctx → Prop} {v : Value} {M2 : Mm} (h : K v (CtxM w0 X M2)) : RetM w0 X w1 X1 K v (CtxM w1 X1 M2) := ⟨M2, rfl, h⟩
theorem PanM.go {w1 : World} {X1 : Nat → Prop} {Z : PanK} {ch : List PanicEntry} {M2 : Mm} (h : Z ch (CtxM w0 X M2)) : PanM w0 X w1 X1 Z ch (CtxM w1 X1 M2) := ⟨M2, rfl, h⟩
theorem inl_vc {T : List (Nat × TyI)} {D : Nat → Plan} (hT : TabOk P T) (hmx : P.follows .mixedOrders = true) {f : FuncId} {fn : Func} (n : Nat) (Xe : Nat → Bool) (he : Enters P f) (hf : P.funcs[f]? = some fn) (hb : fn.body.isNone = false) (hN : fn.ntmps = n) (hd : drawsB D (fn.body.getD .skip) = true) {args : List Value} (hlen : Nat.ble args.length n = true) {K : Value → Ctx → Prop} {Z : PanK}
    (h : ∀ w1, vc P T { n := n, esc := Xe } D (fn.body.getD .skip) (CtxM w1 (keys M) M) ⟨startS args, noBox⟩ (RetG P T fn (RetM w0 X w1 (keys M) K)) (bodyG P T fn (RetM w0 X w1 (keys M) K) (PanM w0 X w1 (keys M) Z))) : CallVC P (CtxM w0 X M) f args.toArray K Z := by
  constructor
  refine ⟨he, fun w hw => ?_⟩
  cases e : fn.body with
  | none => rw [e] at hb; cases hb
  | some c =>
    have h := h w
    rw [e] at h hd
    refine (calls_of_vcG hT hf e hN rfl hlen (drawsOk_of hT hmx c hd) (CtxM w (keys M) M) hw.self h).mono fun e w2 hh => ?_
    rcases hh with ⟨v, C', h1, h2, ⟨M2, rfl, h3⟩⟩ | ⟨ch, C', h1, h2, ⟨M2, rfl, h3⟩⟩
    · obtain ⟨h4, h5⟩ := comeM hw h2
      exact .inl ⟨v, _, h1, h4, h5, h3⟩
    · obtain ⟨h4, h5⟩ := comeM hw h2
      exact .inr ⟨ch, _, h1, h4, h5, h3⟩
end
end Go.Proofs.YtgaopcbjhepklaaGreat
