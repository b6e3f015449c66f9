/- A context with an anchor: memory below the anchor is as it was there; of values that are made since it is known what they lead to. -/
import Derived.Test.YtgaopcbjhepklaaGreatXe
import Derived.Test.YtgaopcbjhepklaaGreatApp
namespace Go.Proofs.YtgaopcbjhepklaaGreat
open Go.RowKit
set_option linter.unusedSimpArgs false
set_option linter.unusedVariables false
set_option maxRecDepth 100000

/-- what a value leads to: a variable's cells; or elements of so many cells each -/
inductive DA where
  | cs (t : TypeId) (l : List Value)
  | row (t : TypeId) (sz : Nat) (l : List Value)
def RowAt (w : World) (b : Nat) (t : TypeId) (sz n cap : Nat) (l : List Value) : Prop := ∃ cur : Array Value, w.heap[b]? = some (.cells cur t (0, 0)) ∧ cur.size = cap * sz ∧ cur.toList.take (n * sz) = l
def DA.ok (d : DA) (v : Value) (w : World) : Prop := match d with
  | .cs t l => ∃ b, v = .pointer (some ⟨b, 0, none⟩) ∧ w.heap[b]? = some (.cells l.toArray t (0, 0))
  | .row t sz l => ∃ A n cap, v = .slice A n cap ∧ l.length = n * sz ∧ n ≤ cap ∧ cap ≤ maxLen ∧ (cap = 0 ∨ ∃ b, A = some ⟨b, 0, none⟩ ∧ 0 < cap ∧ RowAt w b t sz n cap l)
def blkV : Value → Option Nat
  | .pointer (some a) => some a.block
  | .slice (some a) _ cap => if cap = 0 then none else some a.block
  | _ => none
abbrev EL := List (Value × DA)
def keysA (M : EL) : Nat → Prop := fun k => k ∈ M.filterMap fun e => blkV e.1
theorem DA.ok.blk {d : DA} {v : Value} {w : World} (h : d.ok v w) {b : Nat} (hb : blkV v = some b) : b < w.heap.size := by
  cases d with
  | cs t l =>
    obtain ⟨b', rfl, h⟩ := h
    simp only [blkV, Option.some.injEq] at hb
    subst hb
    exact (Array.getElem?_eq_some_iff.1 h).1
  | row t sz l =>
    obtain ⟨A, n, cap, rfl, _, _, _, h⟩ := h
    rcases h with rfl | ⟨b', rfl, h0, cur, h, _⟩
    · cases A <;> simp [blkV] at hb
    · have : ¬ cap = 0 := by omega
      simp only [blkV, this, if_false, Option.some.injEq] at hb
      subst hb
      exact (Array.getElem?_eq_some_iff.1 h).1
theorem DA.ok.keep {d : DA} {v : Value} {w w' : World} (h : d.ok v w) (hk : ∀ b, blkV v = some b → w'.heap[b]? = w.heap[b]?) : d.ok v w' := by
  cases d with
  | cs t l =>
    obtain ⟨b', rfl, h⟩ := h
    exact ⟨b', rfl, (hk b' rfl).trans h⟩
  | row t sz l =>
    obtain ⟨A, n, cap, rfl, h1, h2, h3, h⟩ := h
    refine ⟨A, n, cap, rfl, h1, h2, h3, ?_⟩
    rcases h with rfl | ⟨b', rfl, h0, cur, h, h4⟩
    · exact .inl rfl
    · have : ¬ cap = 0 := by omega
      exact .inr ⟨b', rfl, h0, cur, (hk b' (by simp [blkV, this])).trans h, h4⟩
/-- a block of an anchor; one that is struck from it is as if it had no cells -/
def goneO : Obj := .cells #[] 0 (0, 0)
def HasB (wA : World) (k : Nat) : Prop := k < wA.heap.size ∧ wA.heap[k]? ≠ some goneO
theorem HasB.not {wA w : World} (h : wA.heap.size ≤ w.heap.size) {b : Nat} (hb : w.heap.size ≤ b) : ¬ HasB wA b := fun hh => absurd hh.1 (by omega)
theorem HasB.of {wA : World} {a : Addr} {v : Value} (h : wA.cell? a = some v) : HasB wA a.block := by
  refine ⟨World.block_lt_of_cell? wA _ h, fun e => ?_⟩
  simp [World.cell?, e, goneO] at h
structure InA (wA w0 : World) (X : Nat → Prop) (M : EL) (w : World) : Prop where
  os : w.os = w0.os
  tape : w.tape = w0.tape
  output : w.output = w0.output
  size : w0.heap.size ≤ w.heap.size
  old : ∀ k, k < w0.heap.size → ¬ X k → w.heap[k]? = w0.heap[k]?
  asz : wA.heap.size ≤ w.heap.size
  anc : ∀ k, HasB wA k → w.heap[k]? = wA.heap[k]?
  new : ∀ e ∈ M, e.2.ok e.1 w
  ap : ∀ e ∈ M, ∀ b, blkV e.1 = some b → (w0.heap.size ≤ b ∨ X b) ∧ ¬ HasB wA b
  nd : (M.filterMap fun e => blkV e.1).Nodup
theorem memK {M : EL} {e : Value × DA} (he : e ∈ M) {b : Nat} (hb : blkV e.1 = some b) : keysA M b := List.mem_filterMap.2 ⟨e, he, hb⟩
def CtxA (wA w0 : World) (X : Nat → Prop) (M : EL) : Ctx where
  dom k := HasB wA k ∨ (k < w0.heap.size ∧ ¬ X k) ∨ keysA M k
  R := InA wA w0 X M
  lt w h k hk := by
    rcases hk with hk | hk | hk
    · exact Nat.lt_of_lt_of_le hk.1 h.asz
    · exact Nat.lt_of_lt_of_le hk.1 h.size
    · obtain ⟨e, he, hb⟩ := List.mem_filterMap.1 hk
      exact (h.new e he).blk hb
  stable w w' h hs hz h1 h2 h3 := by
    refine ⟨h1.trans h.os, h2.trans h.tape, h3.trans h.output, Nat.le_trans h.size hz, fun k hk hx => (hs k (.inr (.inl ⟨hk, hx⟩))).trans (h.old k hk hx), Nat.le_trans h.asz hz, fun k hk => (hs k (.inl hk)).trans (h.anc k hk), fun e he => (h.new e he).keep fun b hb => hs b (.inr (.inr (memK he hb))), h.ap, h.nd⟩
theorem CtxA.start (w : World) : (CtxA w w noX []).R w := ⟨rfl, rfl, rfl, Nat.le_refl _, fun _ _ _ => rfl, Nat.le_refl _, fun _ _ => rfl, (fun e h => nomatch h), (fun e h => nomatch h), List.nodup_nil⟩
theorem InA.mod {wA w0 w : World} {X : Nat → Prop} {M : EL} (h : InA wA w0 X M w) : Mod X w0 w := ⟨h.os, h.tape, h.output, h.size, h.old⟩
/-- an entry is another one -/
inductive UpdA : Value → DA → Value → DA → EL → EL → Prop where
  | here {v d v' d' M} : UpdA v d v' d' ((v, d) :: M) ((v', d') :: M)
  | there {v d v' d' x M M'} : UpdA v d v' d' M M' → UpdA v d v' d' (x :: M) (x :: M')
theorem UpdA.mem {v v' : Value} {d d' : DA} {M M' : EL} (h : UpdA v d v' d' M M') : (v, d) ∈ M := by
  induction h with
  | here => exact .head _
  | there _ ih => exact .tail _ ih
theorem UpdA.mem' {v v' : Value} {d d' : DA} {M M' : EL} (h : UpdA v d v' d' M M') : ∀ e ∈ M', e = (v', d') ∨ e ∈ M := by
  induction h with
  | here => intro e he; cases he with
    | head => exact .inl rfl
    | tail _ he => exact .inr (.tail _ he)
  | there _ ih => intro e he; cases he with
    | head => exact .inr (.head _)
    | tail _ he => exact (ih e he).imp id (fun h => .tail _ h)
section
variable {wA w0 : World} {X : Nat → Prop} {M M' : EL}
/-- another entry than the one that is turned lies apart from it, and from what is new -/
theorem UpdA.apart {v v' : Value} {d d' : DA} (h : UpdA v d v' d' M M') (hn : (M.filterMap fun e => blkV e.1).Nodup) {B : Nat} (hlt : ∀ e ∈ M, ∀ b, blkV e.1 = some b → b < B) (hv : ∀ b, blkV v' = some b → blkV v = some b ∨ B ≤ b) :
    (M'.filterMap fun e => blkV e.1).Nodup ∧ ∀ e ∈ M', e = (v', d') ∨ (e ∈ M ∧ ∀ b, blkV e.1 = some b → blkV v ≠ some b) := by
  induction h with
  | @here M =>
    simp only [List.filterMap_cons] at hn ⊢
    have hM : (M.filterMap fun e => blkV e.1).Nodup := by
      cases e : blkV v with
      | none => simpa [e] using hn
      | some b => simp only [e, List.nodup_cons] at hn; exact hn.2
    refine ⟨?_, fun e he => ?_⟩
    · cases e' : blkV v' with
      | none => simpa using hM
      | some b' =>
        simp only [List.nodup_cons]
        refine ⟨fun hm => ?_, hM⟩
        obtain ⟨e, he, hb⟩ := List.mem_filterMap.1 hm
        rcases hv b' e' with h1 | h1
        · simp only [h1, List.nodup_cons] at hn; exact hn.1 hm
        · have := hlt e (.tail _ he) b' hb; omega
    · cases he with
      | head => exact .inl rfl
      | tail _ he =>
        refine .inr ⟨.tail _ he, fun b hb hvb => ?_⟩
        simp only [hvb, List.nodup_cons] at hn
        exact hn.1 (List.mem_filterMap.2 ⟨e, he, hb⟩)
  | @there x M M' h ih =>
    simp only [List.filterMap_cons] at hn ⊢
    have hM : (M.filterMap fun e => blkV e.1).Nodup := by
      cases e : blkV x.1 with
      | none => simpa [e] using hn
      | some b => simp only [e, List.nodup_cons] at hn; exact hn.2
    obtain ⟨h1, h2⟩ := ih hM (fun e he => hlt e (.tail _ he))
    refine ⟨?_, fun e he => ?_⟩
    · cases e' : blkV x.1 with
      | none => simpa using h1
      | some b' =>
        simp only [List.nodup_cons]
        refine ⟨fun hm => ?_, h1⟩
        obtain ⟨e, he, hb⟩ := List.mem_filterMap.1 hm
        simp only [e', List.nodup_cons] at hn
        rcases h2 e he with rfl | ⟨h3, _⟩
        · rcases hv b' hb with h4 | h4
          · exact hn.1 (List.mem_filterMap.2 ⟨_, h.mem, h4⟩)
          · have := hlt x (.head _) b' e'; omega
        · exact hn.1 (List.mem_filterMap.2 ⟨e, h3, hb⟩)
    · cases he with
      | head =>
        refine .inr ⟨.head _, fun b hb hvb => ?_⟩
        simp only [hb, List.nodup_cons] at hn
        exact hn.1 (List.mem_filterMap.2 ⟨_, h.mem, hvb⟩)
      | tail _ he => exact (h2 e he).imp id fun ⟨h3, h4⟩ => ⟨.tail _ h3, h4⟩
/-- an entry is turned, and nothing else -/
theorem goesA {w w' : World} (hw : InA wA w0 X M w) {v v' : Value} {d d' : DA} (hu : UpdA v d v' d' M M') (ho : w'.os = w.os) (ht : w'.tape = w.tape) (hp : w'.output = w.output) (hz : w.heap.size ≤ w'.heap.size) (hs : ∀ k, k < w.heap.size → blkV v ≠ some k → w'.heap[k]? = w.heap[k]?) (hd : d'.ok v' w') (hv : ∀ b, blkV v' = some b → blkV v = some b ∨ w.heap.size ≤ b) :
    Goes (CtxA wA w0 X M) w (CtxA wA w0 X M') w' ∧ (CtxA wA w0 X M').R w' := by
  have hmem := hu.mem
  have hlt : ∀ e ∈ M, ∀ b, blkV e.1 = some b → b < w.heap.size := fun e he b hb => (hw.new e he).blk hb
  obtain ⟨hnd, hap⟩ := hu.apart hw.nd hlt hv
  have hkv : ∀ k, blkV v = some k → (w0.heap.size ≤ k ∨ X k) ∧ ¬ HasB wA k := fun k hk => hw.ap _ hmem k hk
  refine ⟨⟨hz, fun k hk hn => hs k hk fun e => hn (.inr (.inr (memK hmem e))), fun k hk => ?_⟩, ho.trans hw.os, ht.trans hw.tape, hp.trans hw.output, Nat.le_trans hw.size hz, fun k hk hx => ?_, Nat.le_trans hw.asz hz, fun k hk => ?_, fun e he => ?_, fun e he b hb => ?_, hnd⟩
  · rcases hk with hk | hk | hk
    · exact .inl (.inl hk)
    · exact .inl (.inr (.inl hk))
    · obtain ⟨e, he, hb⟩ := List.mem_filterMap.1 hk
      rcases hap e he with rfl | ⟨h1, _⟩
      · rcases hv k hb with h2 | h2
        · exact .inl (.inr (.inr (memK hmem h2)))
        · exact .inr h2
      · exact .inl (.inr (.inr (memK h1 hb)))
  · refine (hs k (Nat.lt_of_lt_of_le hk hw.size) fun e => ?_).trans (hw.old k hk hx)
    rcases (hkv k e).1 with h1 | h1
    · omega
    · exact hx h1
  · exact (hs k (Nat.lt_of_lt_of_le hk.1 hw.asz) fun e => (hkv k e).2 hk).trans (hw.anc k hk)
  · rcases hap e he with rfl | ⟨h1, h2⟩
    · exact hd
    · exact (hw.new e h1).keep fun b hb => hs b (hlt e h1 b hb) (h2 b hb)
  · rcases hap e he with rfl | ⟨h1, h2⟩
    · rcases hv b hb with h3 | h3
      · exact hkv b h3
      · exact ⟨.inl (Nat.le_trans hw.size h3), HasB.not hw.asz h3⟩
    · exact hw.ap e h1 b hb
/-- an entry more: of a block that is new, or of none -/
theorem moreA {w w' : World} (hw : InA wA w0 X M w) {v : Value} {d : DA} (ho : w'.os = w.os) (ht : w'.tape = w.tape) (hp : w'.output = w.output) (hz : w.heap.size ≤ w'.heap.size) (hs : ∀ k, k < w.heap.size → w'.heap[k]? = w.heap[k]?) (hd : d.ok v w') (hv : ∀ b, blkV v = some b → w.heap.size ≤ b) :
    Goes (CtxA wA w0 X M) w (CtxA wA w0 X ((v, d) :: M)) w' ∧ (CtxA wA w0 X ((v, d) :: M)).R w' := by
  have hlt : ∀ e ∈ M, ∀ b, blkV e.1 = some b → b < w.heap.size := fun e he b hb => (hw.new e he).blk hb
  refine ⟨⟨hz, fun k hk _ => hs k hk, fun k hk => ?_⟩, ho.trans hw.os, ht.trans hw.tape, hp.trans hw.output, Nat.le_trans hw.size hz, fun k hk hx => (hs k (Nat.lt_of_lt_of_le hk hw.size)).trans (hw.old k hk hx), Nat.le_trans hw.asz hz, fun k hk => (hs k (Nat.lt_of_lt_of_le hk.1 hw.asz)).trans (hw.anc k hk), fun e he => ?_, fun e he b hb => ?_, ?_⟩
  · rcases hk with hk | hk | hk
    · exact .inl (.inl hk)
    · exact .inl (.inr (.inl hk))
    · obtain ⟨e, he, hb⟩ := List.mem_filterMap.1 hk
      cases he with
      | head => exact .inr (hv k hb)
      | tail _ he => exact .inl (.inr (.inr (memK he hb)))
  · cases he with
    | head => exact hd
    | tail _ he => exact (hw.new e he).keep fun b hb => hs b (hlt e he b hb)
  · cases he with
    | head => have := hv b hb; exact ⟨.inl (Nat.le_trans hw.size this), HasB.not hw.asz this⟩
    | tail _ he => exact hw.ap e he b hb
  · simp only [List.filterMap_cons]
    cases e : blkV v with
    | none => exact hw.nd
    | some b =>
      simp only [List.nodup_cons]
      refine ⟨fun hm => ?_, hw.nd⟩
      obtain ⟨e', he, hb⟩ := List.mem_filterMap.1 hm
      have h1 := hlt e' he b hb
      have h2 := hv b e
      omega
theorem sameA {w w' : World} (hw : InA wA w0 X M w) (ho : w'.os = w.os) (ht : w'.tape = w.tape) (hp : w'.output = w.output) (hz : w.heap.size ≤ w'.heap.size) (hs : ∀ k, k < w.heap.size → w'.heap[k]? = w.heap[k]?) : Goes (CtxA wA w0 X M) w (CtxA wA w0 X M) w' ∧ (CtxA wA w0 X M).R w' :=
  ⟨⟨hz, fun k hk _ => hs k hk, fun k hk => .inl hk⟩, (CtxA wA w0 X M).stable w w' hw (fun k hk => hs k ((CtxA wA w0 X M).lt w hw k hk)) hz ho ht hp⟩
end
/-- entries are forgotten -/
theorem InA.drop {wA w0 : World} {X : Nat → Prop} {M M' : EL} {w : World} (h : InA wA w0 X M w) (hs : List.Sublist M' M) : InA wA w0 X M' w :=
  ⟨h.os, h.tape, h.output, h.size, h.old, h.asz, h.anc, fun e he => h.new e (hs.subset he), fun e he => h.ap e (hs.subset he), h.nd.sublist (hs.filterMap _)⟩
/-! ### calls that are walked into -/
section
variable {P : Program} {wA w0 : World} {X : Nat → Prop} {M : EL}
theorem InA.self {w : World} (h : InA wA w0 X M w) : InA wA w (keysA M) M w := ⟨rfl, rfl, rfl, Nat.le_refl _, fun _ _ _ => rfl, h.asz, h.anc, h.new, fun e he b hb => ⟨.inr (memK he hb), (h.ap e he b hb).2⟩, h.nd⟩
theorem InA.notin {w : World} (h : InA wA w0 X M w) {k : Nat} (hk : k < w0.heap.size) (hx : ¬ X k) : ¬ keysA M k := fun hm => by
  obtain ⟨e, he, hb⟩ := List.mem_filterMap.1 hm
  rcases (h.ap e he k hb).1 with h1 | h1
  · omega
  · exact hx h1
theorem comeA {w1 w2 : World} {M2 : EL} (h1 : InA wA w0 X M w1) (h2 : InA wA w1 (keysA M) M2 w2) : Goes (CtxA wA w0 X M) w1 (CtxA wA w0 X M2) w2 ∧ InA wA w0 X M2 w2 := by
  refine ⟨⟨h2.size, fun k hk hn => h2.old k hk fun hm => hn (.inr (.inr hm)), fun k hk => ?_⟩, h2.os.trans h1.os, h2.tape.trans h1.tape, h2.output.trans h1.output, Nat.le_trans h1.size h2.size, fun k hk hx => ?_, h2.asz, h2.anc, h2.new, fun e he b hb => ⟨?_, (h2.ap e he b hb).2⟩, h2.nd⟩
  · rcases hk with hk | hk | hk
    · exact .inl (.inl hk)
    · exact .inl (.inr (.inl hk))
    · obtain ⟨e, he, hb⟩ := List.mem_filterMap.1 hk
      rcases (h2.ap e he k hb).1 with h3 | h3
      · exact .inr h3
      · exact .inl (.inr (.inr h3))
  · exact (h2.old k (Nat.lt_of_lt_of_le hk h1.size) (h1.notin hk hx)).trans (h1.old k hk hx)
  · rcases (h2.ap e he b hb).1 with h3 | h3
    · exact .inl (Nat.le_trans h1.size h3)
    · obtain ⟨e', he', hb'⟩ := List.mem_filterMap.1 h3
      exact (h1.ap e' he' b hb').1
/-- what is known is known otherwise: less, in another order, or what is plain -/
structure Imp (M M' : EL) : Prop where
  on : ∀ wA w0 X w, InA wA w0 X M w → InA wA w0 X M' w
  keys : ∀ k, keysA M' k → keysA M k
theorem Imp.refl (M : EL) : Imp M M := ⟨fun _ _ _ _ h => h, fun _ h => h⟩
theorem Imp.trans {M M' M'' : EL} (h : Imp M M') (h' : Imp M' M'') : Imp M M'' := ⟨fun _ _ _ _ h1 => h'.on _ _ _ _ (h.on _ _ _ _ h1), fun k hk => h.keys k (h'.keys k hk)⟩
theorem Imp.sub {M M' : EL} (h : List.Sublist M' M) : Imp M M' := ⟨fun _ _ _ _ h1 => h1.drop h, fun k hk => (h.filterMap _).subset hk⟩
theorem Imp.perm {M M' : EL} (h : List.Perm M M') : Imp M M' := ⟨fun _ _ _ _ h1 =>
  ⟨h1.os, h1.tape, h1.output, h1.size, h1.old, h1.asz, h1.anc, fun e he => h1.new e (h.mem_iff.2 he), fun e he => h1.ap e (h.mem_iff.2 he), (h.filterMap _).nodup_iff.1 h1.nd⟩, fun k hk => (h.filterMap _).mem_iff.2 hk⟩
theorem Imp.nil (M : EL) (A : Option Addr) (e : TypeId) (sz : Nat) : Imp M ((.slice A 0 0, .row e sz []) :: M) := by
  have hb : blkV (.slice A 0 0) = none := by cases A <;> simp [blkV]
  refine ⟨fun _ _ _ _ h1 => ⟨h1.os, h1.tape, h1.output, h1.size, h1.old, h1.asz, h1.anc, fun e he => ?_, fun e he b hb' => ?_, ?_⟩, fun k hk => ?_⟩
  · cases he with
    | head => exact ⟨A, 0, 0, rfl, by simp, Nat.le_refl _, Nat.zero_le _, .inl rfl⟩
    | tail _ he => exact h1.new e he
  · cases he with
    | head => rw [hb] at hb'; cases hb'
    | tail _ he => exact h1.ap e he b hb'
  · simp only [List.filterMap_cons, hb]; exact h1.nd
  · unfold keysA at hk ⊢
    simpa only [List.filterMap_cons, hb] using hk
theorem Imp.cons {M M' : EL} (x : Value × DA) (h : List.Sublist M' M) : Imp (x :: M) (x :: M') := Imp.sub (h.cons_cons x)
structure RetA (wA w0 : World) (X : Nat → Prop) (w1 : World) (X1 : Nat → Prop) (K : Value → Ctx → Prop) (v : Value) (C : Ctx) : Prop where
  out : ∃ M2 M3, C = CtxA wA w1 X1 M2 ∧ Imp M2 M3 ∧ K v (CtxA wA w0 X M3)
structure PanA (wA w0 : World) (X : Nat → Prop) (w1 : World) (X1 : Nat → Prop) (Z : PanK) (ch : List PanicEntry) (C : Ctx) : Prop where
  out : ∃ M2 M3, C = CtxA wA w1 X1 M2 ∧ Imp M2 M3 ∧ Z ch (CtxA wA w0 X M3)
theorem RetA.go {w1 : World} {X1 : Nat → Prop} {K : Value → Ctx → Prop} {v : Value} {M2 : EL} (h : K v (CtxA wA w0 X M2)) : RetA wA w0 X w1 X1 K v (CtxA wA w1 X1 M2) := ⟨M2, M2, rfl, Imp.refl _, h⟩
theorem PanA.go {w1 : World} {X1 : Nat → Prop} {Z : PanK} {ch : List PanicEntry} {M2 : EL} (h : Z ch (CtxA wA w0 X M2)) : PanA wA w0 X w1 X1 Z ch (CtxA wA w1 X1 M2) := ⟨M2, M2, rfl, Imp.refl _, h⟩
theorem RetA.imp {w1 : World} {X1 : Nat → Prop} {K : Value → Ctx → Prop} {v : Value} {M2 : EL} (M3 : EL) (hs : Imp M2 M3) (h : K v (CtxA wA w0 X M3)) : RetA wA w0 X w1 X1 K v (CtxA wA w1 X1 M2) := ⟨M2, M3, rfl, hs, h⟩
theorem PanA.imp {w1 : World} {X1 : Nat → Prop} {Z : PanK} {ch : List PanicEntry} {M2 : EL} (M3 : EL) (hs : Imp M2 M3) (h : Z ch (CtxA wA w0 X M3)) : PanA wA w0 X w1 X1 Z ch (CtxA wA w1 X1 M2) := ⟨M2, M3, rfl, hs, h⟩
theorem RetA.drop {w1 : World} {X1 : Nat → Prop} {K : Value → Ctx → Prop} {v : Value} {M2 : EL} (M3 : EL) (hs : List.Sublist M3 M2) (h : K v (CtxA wA w0 X M3)) : RetA wA w0 X w1 X1 K v (CtxA wA w1 X1 M2) := ⟨M2, M3, rfl, Imp.sub hs, h⟩
theorem PanA.drop {w1 : World} {X1 : Nat → Prop} {Z : PanK} {ch : List PanicEntry} {M2 : EL} (M3 : EL) (hs : List.Sublist M3 M2) (h : Z ch (CtxA wA w0 X M3)) : PanA wA w0 X w1 X1 Z ch (CtxA wA w1 X1 M2) := ⟨M2, M3, rfl, Imp.sub hs, h⟩
theorem InA.goDrop {w1 w2 : World} {M2 M3 : EL} (h1 : InA wA w0 X M w1) (h2 : InA wA w1 (keysA M) M2 w2) (hs : Imp M2 M3) : Goes (CtxA wA w0 X M) w1 (CtxA wA w0 X M3) w2 ∧ InA wA w0 X M3 w2 := comeA h1 (hs.on _ _ _ _ h2)
variable {T : List (Nat × TyI)} {D : Nat → Plan}
theorem inl_A (hT : TabOk P T) (hmx : P.follows .mixedOrders = true) {f : FuncId} {fn : Func} (n : Nat) (Xe : Nat → Bool) (he : Enters P f) (hf : P.funcs[f]? = some fn) (hb : fn.body.isNone = false) (hN : fn.ntmps = n) (hd : drawsB D (fn.body.getD .skip) = true) {args : List Value} (hlen : Nat.ble args.length n = true) {K : Value → Ctx → Prop} {Z : PanK}
    (h : ∀ w1 X1, vc P T { n := n, esc := Xe } D (fn.body.getD .skip) (CtxA wA w1 X1 M) ⟨startS args, noBox⟩ (RetG P T fn (RetA wA w0 X w1 X1 K)) (bodyG P T fn (RetA wA w0 X w1 X1 K) (PanA wA w0 X w1 X1 Z))) : CallVC P (CtxA wA w0 X M) f args.toArray K Z := by
  constructor
  refine ⟨he, fun w hw => ?_⟩
  cases e : fn.body with
  | none => rw [e] at hb; cases hb
  | some c =>
    have h := h w (keysA M)
    rw [e] at h hd
    refine (calls_of_vcG hT hf e hN rfl hlen (drawsOk_of hT hmx c hd) (CtxA wA w (keysA M) M) hw.self h).mono fun e w2 hh => ?_
    rcases hh with ⟨v, C', h1, h2, ⟨M2, M3, rfl, hs, h3⟩⟩ | ⟨ch, C', h1, h2, ⟨M2, M3, rfl, hs, h3⟩⟩
    · obtain ⟨h4, h5⟩ := hw.goDrop h2 hs
      exact .inl ⟨v, _, h1, h4, h5, h3⟩
    · obtain ⟨h4, h5⟩ := hw.goDrop h2 hs
      exact .inr ⟨ch, _, h1, h4, h5, h3⟩
/-- the same two, at the outermost call -/
structure RetT (wA w0 : World) (X : Nat → Prop) (w1 : World) (X1 : Nat → Prop) (K : Value → Ctx → Prop) (v : Value) (C : Ctx) : Prop where
  out : RetA wA w0 X w1 X1 K v C
structure PanT (wA w0 : World) (X : Nat → Prop) (w1 : World) (X1 : Nat → Prop) (Z : PanK) (ch : List PanicEntry) (C : Ctx) : Prop where
  out : PanA wA w0 X w1 X1 Z ch C
theorem RetT.imp {w1 : World} {X1 : Nat → Prop} {K : Value → Ctx → Prop} {v : Value} {M2 : EL} (M3 : EL) (hs : Imp M2 M3) (h : K v (CtxA wA w0 X M3)) : RetT wA w0 X w1 X1 K v (CtxA wA w1 X1 M2) := ⟨⟨M2, M3, rfl, hs, h⟩⟩
theorem PanT.imp {w1 : World} {X1 : Nat → Prop} {Z : PanK} {ch : List PanicEntry} {M2 : EL} (M3 : EL) (hs : Imp M2 M3) (h : Z ch (CtxA wA w0 X M3)) : PanT wA w0 X w1 X1 Z ch (CtxA wA w1 X1 M2) := ⟨⟨M2, M3, rfl, hs, h⟩⟩
theorem RetT.drop {w1 : World} {X1 : Nat → Prop} {K : Value → Ctx → Prop} {v : Value} {M2 : EL} (M3 : EL) (hs : List.Sublist M3 M2) (h : K v (CtxA wA w0 X M3)) : RetT wA w0 X w1 X1 K v (CtxA wA w1 X1 M2) := ⟨⟨M2, M3, rfl, Imp.sub hs, h⟩⟩
theorem PanT.drop {w1 : World} {X1 : Nat → Prop} {Z : PanK} {ch : List PanicEntry} {M2 : EL} (M3 : EL) (hs : List.Sublist M3 M2) (h : Z ch (CtxA wA w0 X M3)) : PanT wA w0 X w1 X1 Z ch (CtxA wA w1 X1 M2) := ⟨⟨M2, M3, rfl, Imp.sub hs, h⟩⟩
theorem inl_T (hT : TabOk P T) (hmx : P.follows .mixedOrders = true) {f : FuncId} {fn : Func} (n : Nat) (Xe : Nat → Bool) (he : Enters P f) (hf : P.funcs[f]? = some fn) (hb : fn.body.isNone = false) (hN : fn.ntmps = n) (hd : drawsB D (fn.body.getD .skip) = true) {args : List Value} (hlen : Nat.ble args.length n = true) {K : Value → Ctx → Prop} {Z : PanK}
    (h : ∀ w1 X1, vc P T { n := n, esc := Xe } D (fn.body.getD .skip) (CtxA wA w1 X1 M) ⟨startS args, noBox⟩ (RetG P T fn (RetT wA w0 X w1 X1 K)) (bodyG P T fn (RetT wA w0 X w1 X1 K) (PanT wA w0 X w1 X1 Z))) : CallVC P (CtxA wA w0 X M) f args.toArray K Z := by
  constructor
  refine ⟨he, fun w hw => ?_⟩
  cases e : fn.body with
  | none => rw [e] at hb; cases hb
  | some c =>
    have h := h w (keysA M)
    rw [e] at h hd
    refine (calls_of_vcG hT hf e hN rfl hlen (drawsOk_of hT hmx c hd) (CtxA wA w (keysA M) M) hw.self h).mono fun e w2 hh => ?_
    rcases hh with ⟨v, C', h1, h2, ⟨⟨M2, M3, rfl, hs, h3⟩⟩⟩ | ⟨ch, C', h1, h2, ⟨⟨M2, M3, rfl, hs, h3⟩⟩⟩
    · obtain ⟨h4, h5⟩ := hw.goDrop h2 hs
      exact .inl ⟨v, _, h1, h4, h5, h3⟩
    · obtain ⟨h4, h5⟩ := hw.goDrop h2 hs
      exact .inr ⟨ch, _, h1, h4, h5, h3⟩
theorem inl_TD (hT : TabOk P T) (hmx : P.follows .mixedOrders = true) {f : FuncId} {fn : Func} (n : Nat) (Xe : Nat → Bool) (he : Enters P f) (hf : P.funcs[f]? = some fn) (hb : fn.body.isNone = false) (hN : fn.ntmps = n) (hd : drawsB D (fn.body.getD .skip) = true) {args : List Value} (hlen : Nat.ble args.length n = true) {K : Value → Ctx → Prop} {Z : PanK}
    (h : ∀ w1 X1, vcD P T { n := n, esc := Xe } D (fn.body.getD .skip) (CtxA wA w1 X1 M) ⟨startS args, noBox⟩ (endK P T fn (RetT wA w0 X w1 X1 K) (PanT wA w0 X w1 X1 Z)) (endE P T fn (RetT wA w0 X w1 X1 K) (PanT wA w0 X w1 X1 Z))) : CallVC P (CtxA wA w0 X M) f args.toArray K Z := by
  constructor
  refine ⟨he, fun w hw => ?_⟩
  cases e : fn.body with
  | none => rw [e] at hb; cases hb
  | some c =>
    have h := h w (keysA M)
    rw [e] at h hd
    refine (calls_of_vcD hT hf e hN rfl hlen (fun N => drawsOk_of hT hmx c hd) (CtxA wA w (keysA M) M) hw.self h).mono fun e w2 hh => ?_
    rcases hh with ⟨v, C', h1, h2, ⟨⟨M2, M3, rfl, hs, h3⟩⟩⟩ | ⟨ch, C', h1, h2, ⟨⟨M2, M3, rfl, hs, h3⟩⟩⟩
    · obtain ⟨h4, h5⟩ := hw.goDrop h2 hs
      exact .inl ⟨v, _, h1, h4, h5, h3⟩
    · obtain ⟨h4, h5⟩ := hw.goDrop h2 hs
      exact .inr ⟨ch, _, h1, h4, h5, h3⟩
theorem inl_AD (hT : TabOk P T) (hmx : P.follows .mixedOrders = true) {f : FuncId} {fn : Func} (n : Nat) (Xe : Nat → Bool) (he : Enters P f) (hf : P.funcs[f]? = some fn) (hb : fn.body.isNone = false) (hN : fn.ntmps = n) (hd : drawsB D (fn.body.getD .skip) = true) {args : List Value} (hlen : Nat.ble args.length n = true) {K : Value → Ctx → Prop} {Z : PanK}
    (h : ∀ w1 X1, vcD P T { n := n, esc := Xe } D (fn.body.getD .skip) (CtxA wA w1 X1 M) ⟨startS args, noBox⟩ (endK P T fn (RetA wA w0 X w1 X1 K) (PanA wA w0 X w1 X1 Z)) (endE P T fn (RetA wA w0 X w1 X1 K) (PanA wA w0 X w1 X1 Z))) : CallVC P (CtxA wA w0 X M) f args.toArray K Z := by
  constructor
  refine ⟨he, fun w hw => ?_⟩
  cases e : fn.body with
  | none => rw [e] at hb; cases hb
  | some c =>
    have h := h w (keysA M)
    rw [e] at h hd
    refine (calls_of_vcD hT hf e hN rfl hlen (fun N => drawsOk_of hT hmx c hd) (CtxA wA w (keysA M) M) hw.self h).mono fun e w2 hh => ?_
    rcases hh with ⟨v, C', h1, h2, ⟨M2, M3, rfl, hs, h3⟩⟩ | ⟨ch, C', h1, h2, ⟨M2, M3, rfl, hs, h3⟩⟩
    · obtain ⟨h4, h5⟩ := hw.goDrop h2 hs
      exact .inl ⟨v, _, h1, h4, h5, h3⟩
    · obtain ⟨h4, h5⟩ := hw.goDrop h2 hs
      exact .inr ⟨ch, _, h1, h4, h5, h3⟩
theorem defA (hT : TabOk P T) (hmx : P.follows .mixedOrders = true) {f : FuncId} {fn : Func} (n : Nat) (Xe : Nat → Bool) {d1 d2 : Nat} {rest : Code} (he : Enters P f) (hf : P.funcs[f]? = some fn) (hb : RecB fn d1 d2 rest) (hN : fn.ntmps = n) (hd1 : Nat.blt d1 n = true) (hd2 : Nat.blt d2 n = true) (hd : drawsB D rest = true) {d : Deferred} {args : List Value} (hlen : Nat.ble args.length n = true) {u : FrameMode} {K : FrameMode → Ctx → Prop} {cap : Array Value} (ht : d.target = .fn (.func f) cap) (ha : d.args ++ cap = args.toArray)
    (h : ∀ w1 X1, vc P T { n := n, esc := Xe } D rest (CtxA wA w1 X1 M) ⟨upd (upd (startS args) d1 (.v (recV u).1)) d2 (.v (recV u).1), noBox⟩ (RetG P T fn (RetA wA w0 X w1 X1 fun _ C => K (recV u).2 C)) (bodyG P T fn (RetA wA w0 X w1 X1 fun _ C => K (recV u).2 C) fun _ _ => False)) : DefVC P (CtxA wA w0 X M) d u K := by
  obtain ⟨id, o1, o2, ats, b0, b1, b2, b3, b4, b5, b6⟩ := hb.out
  constructor
  intro w hw
  refine ⟨_, cap, f, args.toArray, ht, ?_, ?_⟩
  · rw [ht]
    show (callFunc f (d.args ++ cap)).run P w = _
    rw [ha]
    exact he _ _
  · have := callsD_rec hT hmx { n := n, esc := Xe } hf b0 hN rfl b1 b2 b3 b4 b5 b6 hd1 hd2 hlen hd (C := CtxA wA w (keysA M) M) hw.self u (h w (keysA M))
    intro c cs hc
    obtain ⟨e, u', w', fr, ⟨hu, v, C', h1, h2, ⟨M2, M3, rfl, hs, h3⟩⟩, h4⟩ := this c cs hc
    obtain ⟨h5, h6⟩ := hw.goDrop h2 hs
    exact ⟨e, u', w', fr, ⟨v, _, h1, h5, h6, hu ▸ h3⟩, h4⟩
end
end Go.Proofs.YtgaopcbjhepklaaGreat
