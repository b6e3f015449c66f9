/- Rules for walks in a context with an anchor. -/
import Derived.Test.YtgaopcbjhepklaaGreatYa
import Derived.Test.YtgaopcbjhepklaaGreatXf
import Derived.Laws.MakeOwn
import Derived.Laws.CopyRow
namespace Go.Proofs.YtgaopcbjhepklaaGreat
open Go.RowKit
set_option linter.unusedSimpArgs false
set_option linter.unusedVariables false
set_option maxRecDepth 100000

/-- an entry's place -/
inductive AtE : EL → Nat → Value → DA → Prop where
  | here {M v d} : AtE ((v, d) :: M) 0 v d
  | there {M i v d x} : AtE M i v d → AtE (x :: M) (i + 1) v d
def setE : EL → Nat → Value × DA → EL
  | [], _, _ => []
  | _ :: M, 0, x => x :: M
  | y :: M, i + 1, x => y :: setE M i x
def setK : EL → Nat → Value × DA → (EL → Prop) → Prop
  | [], _, _, K => K []
  | _ :: M, 0, x, K => K (x :: M)
  | y :: M, i + 1, x, K => setK M i x fun M' => K (y :: M')
theorem setK_eq : ∀ (M : EL) (i : Nat) (x : Value × DA) (K : EL → Prop), setK M i x K = K (setE M i x)
  | [], _, _, _ => rfl
  | _ :: M, 0, x, K => rfl
  | y :: M, i + 1, x, K => setK_eq M i x _
theorem AtE.upd {M : EL} {i : Nat} {v : Value} {d : DA} (h : AtE M i v d) (v' : Value) (d' : DA) : UpdA v d v' d' M (setE M i (v', d')) := by
  induction h with
  | here => exact .here
  | there _ ih => exact .there ih
theorem AtE.mem {M : EL} {i : Nat} {v : Value} {d : DA} (h : AtE M i v d) : (v, d) ∈ M := (h.upd v d).mem
/-- a row's elements -/
structure ElOk (P : Program) (t e : TypeId) (sz : Nat) (zs : List Value) : Prop where
  sl : P.underlying t = some (.slice e)
  size : (P.info? e).map (·.size) = some sz
  zero : ∃ z, (P.info? e).bind (·.zero) = some z ∧ z.cells = zs.toArray
  bytes : ((P.info? e).map fun i => Nat.ble i.bytes 4096) = some true
  len : zs.length = sz
  pos : 0 < sz
  one : allOne zs = true
theorem ElOk.parts {P : Program} {t e : TypeId} {sz : Nat} {zs : List Value} (h : ElOk P t e sz zs) : ∃ i z, P.info? e = some i ∧ i.zero = some z ∧ i.size = sz ∧ i.bytes ≤ 4096 ∧ z.cells = zs.toArray := by
  have h1 := h.size
  obtain ⟨z, h2, h3⟩ := h.zero
  have h4 := h.bytes
  cases hi : P.info? e with
  | none => rw [hi] at h1; cases h1
  | some i =>
    rw [hi] at h1 h2 h4
    simp only [Option.map_some, Option.some.injEq] at h1 h4
    simp only [Option.bind_some] at h2
    exact ⟨i, z, rfl, h2, h1, Nat.le_of_ble_eq_true h4, h3⟩
section
variable {P : Program} {w w' : World}
theorem row_own {A : Option Addr} {e : TypeId} {sz n cap : Nat} {l : List Value} (h : DA.ok (.row e sz l) (.slice A n cap) w) (hc : ¬ cap = 0) : w.ownsRow 0 e sz (.slice A n cap) n l := by
  obtain ⟨A', n', cap', he, h1, h2, h3, h4⟩ := h
  injection he with he1 he2 he3
  subst he1 he2 he3
  rcases h4 with h4 | ⟨b, rfl, h5, cur, h6, h7, h8⟩
  · exact absurd h4 hc
  · exact ⟨h1, .inr ⟨b, cap, cur, rfl, Nat.zero_le _, h6, h2, h3, h7, h8⟩⟩
theorem own_row {v : Value} {e : TypeId} {sz n : Nat} {l : List Value} (h : w.ownsRow 0 e sz v n l) : ∃ A cap, v = .slice A n cap ∧ n ≤ cap ∧ cap ≤ maxLen ∧ (0 < cap → ∃ b, A = some ⟨b, 0, none⟩) ∧ DA.ok (.row e sz l) (.slice A n cap) w := by
  rcases h.2 with ⟨rfl, rfl⟩ | ⟨g, cap, cur, rfl, _, h1, h2, h3, h4, h5⟩
  · exact ⟨none, 0, rfl, Nat.le_refl _, Nat.zero_le _, fun h => absurd h (by omega), none, 0, 0, rfl, h.1, Nat.le_refl _, Nat.zero_le _, .inl rfl⟩
  · refine ⟨_, cap, rfl, h2, h3, fun _ => ⟨g, rfl⟩, _, n, cap, rfl, h.1, h2, h3, ?_⟩
    by_cases hc : cap = 0
    · exact .inl hc
    · exact .inr ⟨g, rfl, by omega, cur, h1, h4, h5⟩
theorem blk_own {A : Option Addr} {n cap : Nat} {b : Nat} (h : blkV (.slice A n cap) = some b) : (Value.slice A n cap).ownBlock = some b := by
  cases A with
  | none => simp [blkV] at h
  | some a =>
    simp only [blkV] at h
    split at h
    · cases h
    · exact h
theorem own_blk {A : Option Addr} {n cap : Nat} (hc : ¬ cap = 0) : blkV (.slice A n cap) = (Value.slice A n cap).ownBlock := by
  cases A with
  | none => rfl
  | some a => simp [blkV, Value.ownBlock, hc]
/-- append, onto a row of one's own or one without room -/
theorem run_appA {t tx ty e : TypeId} {sz : Nat} {zs : List Value} (hE : ElOk P t e sz zs) {A : Option Addr} {n cap : Nat} {l : List Value} (hr : DA.ok (.row e sz l) (.slice A n cap) w) {x : Value} {m : Nat} {news : List Value} (hs : Src P sz tx x m news w) (hk : n + m ≤ 1000000000) :
    ∃ A' cap' w', (Builtin.append_ #[t, tx] ty #[.slice A n cap, x]).run P w = .ok (.slice A' (n + m) cap') w' ∧ DA.ok (.row e sz (l ++ news)) (.slice A' (n + m) cap') w' ∧ n + m ≤ cap' ∧ (0 < cap' → ∃ b, A' = some ⟨b, 0, none⟩ ∨ cap' = 0) ∧
      w'.os = w.os ∧ w'.tape = w.tape ∧ w'.output = w.output ∧ w.heap.size ≤ w'.heap.size ∧ (∀ k, k < w.heap.size → blkV (.slice A n cap) ≠ some k → w'.heap[k]? = w.heap[k]?) ∧ (∀ b, blkV (.slice A' (n + m) cap') = some b → blkV (.slice A n cap) = some b ∨ w.heap.size ≤ b) := by
  obtain ⟨i, z, hi, hz, hsize, hby, hzc⟩ := hE.parts
  have hzs : z.cells.size = sz := by rw [hzc]; simpa using hE.len
  have hbm : (n + m) * i.bytes ≤ 140737488355328 := by
    have := Nat.mul_le_mul hk hby
    omega
  by_cases hc : cap = 0
  · have hl : l = [] ∧ n = 0 := by
      obtain ⟨A', n', cap', he, h1, h2, _⟩ := hr
      injection he with _ he2 he3
      subst he2 he3
      have : n = 0 := by omega
      subst this
      exact ⟨List.eq_nil_of_length_eq_zero (by simpa using h1), rfl⟩
    obtain ⟨rfl, rfl⟩ := hl
    subst hc
    by_cases hm : m = 0
    · subst hm
      have hnn : news = [] := List.eq_nil_of_length_eq_zero (by simpa using hs.newsLen)
      subst hnn
      refine ⟨A, 0, w, ?_, ⟨A, 0, 0, rfl, by simp, Nat.le_refl _, Nat.zero_le _, .inl rfl⟩, Nat.le_refl _, fun h => absurd h (by omega), rfl, rfl, rfl, Nat.le_refl _, fun _ _ _ => rfl, fun b h => .inl h⟩
      cases A with
      | none => rcases hs.kind with ⟨e', hkk⟩ | hkk <;> simp [Builtin.append_, run_underlying hE.sl, run_underlying hkk, sizeOf, typeInfo, hi, hs.len, hs.cells, hsize]
      | some a => rcases hs.kind with ⟨e', hkk⟩ | hkk <;> simp [Builtin.append_, run_underlying hE.sl, run_underlying hkk, sizeOf, typeInfo, hi, hs.len, hs.cells, hsize, storeCells]
    · have hold : (Builtin.firstCells i.size 0 (.slice A 0 0)).run P w.drew = .ok (([] : List Value)).toArray w.drew := by
        cases A with
        | none => exact run_firstCells_none w.drew _ _ _ _
        | some a => exact run_firstCells_some w.drew i.size 0 a 0 0 [] (by simp) (by simp)
      have hr' := run_append_grow_src (P := P) w t tx ty e i z hE.sl hi hz A 0 0 [] hold x m news (by rw [hsize]; exact hs) (by omega) (by omega) (growslice_fits (by omega) hbm)
      have hgc := grownCap_ge w (0 + m) 0 e
      refine ⟨_, _, _, hr', ⟨_, _, _, rfl, ?_, hgc, grownCap_le_maxLen _ _ _ _ (by simp only [maxLen]; omega), .inr ⟨w.heap.size, rfl, by omega, _, heap_alloc_new w.drew _, ?_, ?_⟩⟩, hgc, fun _ => ⟨_, .inl rfl⟩, rfl, rfl, rfl, by simp, fun k hk' _ => Below.heap_alloc w.drew _ k hk', fun b hb => ?_⟩
      · simp [hs.newsLen]
      · rw [Array.size_append, List.size_toArray, size_zeroCells, hzs, List.nil_append, hs.newsLen, ← Nat.add_mul]
        congr 1
        omega
      · have hlen : ([] ++ news).length = (0 + m) * sz := by simp [hs.newsLen]
        rw [Array.toList_append, ← hlen]
        exact List.take_left
      · have := blk_own hb
        simp only [Value.ownBlock, Option.some.injEq] at this
        right; omega
  · have hown := row_own hr hc
    obtain ⟨v', w', hrun, h2, h3, h4⟩ := run_app (P := P) w 0 t tx ty e i z sz i.bytes hE.sl hi hz hsize rfl hzs hE.pos _ n l hown x m news hs (by simp only [maxLen]; omega) hbm (Nat.zero_le _)
    obtain ⟨A', cap', rfl, h5, h6, h7, h8⟩ := own_row h2
    refine ⟨A', cap', w', hrun, h8, h5, fun h => by obtain ⟨b, hb⟩ := h7 h; exact ⟨b, .inl hb⟩, h3.os, h3.tape, h3.output, h3.size, fun k hk' hb => h3.block k hk' fun e => hb (by rw [own_blk hc]; exact e.symm), fun b hb => ?_⟩
    have hb' := blk_own hb
    rcases h4 with h4 | h4
    · left; rw [own_blk hc, ← h4]; exact hb'
    · right
      rw [h4] at hb'
      simp only [Nat.add_zero, Option.some.injEq] at hb'
      omega
end
section
variable {P : Program} {wA w0 : World} {X : Nat → Prop} {M M' : EL}
/-! ### what is loaded -/
theorem InA.cs {w : World} (h : InA wA w0 X M w) {b : Nat} {t0 : TypeId} {l : List Value} (hm : (Value.pointer (some ⟨b, 0, none⟩), DA.cs t0 l) ∈ M) : Blk w b t0 l.toArray := by
  obtain ⟨b', he, hb⟩ := h.new _ hm
  injection he with he
  injection he with he
  injection he with he
  subst he
  exact hb
theorem InA.row {w : World} (h : InA wA w0 X M w) {b : Nat} {t0 : TypeId} {sz n cap : Nat} {l : List Value} (hm : (Value.slice (some ⟨b, 0, none⟩) n cap, DA.row t0 sz l) ∈ M) : l.length = n * sz ∧ n ≤ cap ∧ cap ≤ maxLen ∧ (0 < cap → ∃ cur : Array Value, Blk w b t0 cur ∧ cur.size = cap * sz ∧ cur.toList.take (n * sz) = l) := by
  obtain ⟨A, n', cap', he, h1, h2, h3, h4⟩ := h.new _ hm
  injection he with he1 he2 he3
  subst he1 he2 he3
  refine ⟨h1, h2, h3, fun hc => ?_⟩
  rcases h4 with h4 | ⟨b', he, _, cur, h5, h6, h7⟩
  · omega
  · injection he with he
    injection he with he
    subst he
    exact ⟨cur, h5, h6, h7⟩
theorem InA.rowAt {w : World} (h : InA wA w0 X M w) {b : Nat} {t0 : TypeId} {sz n cap : Nat} {l : List Value} (hm : (Value.slice (some ⟨b, 0, none⟩) n cap, DA.row t0 sz l) ∈ M) {j : Nat} {v : Value} (hv : l[j]? = some v) : w.cell? ⟨b, j, none⟩ = some v := by
  obtain ⟨h1, h2, _, h3⟩ := h.row hm
  have hj := (List.getElem?_eq_some_iff.1 hv).1
  have hc : 0 < cap := by
    rcases Nat.eq_zero_or_pos cap with h0 | h0
    · have : n = 0 := by omega
      rw [this] at h1
      omega
    · exact h0
  obtain ⟨cur, hb, h4, h5⟩ := h3 hc
  rw [hb.cell j]
  rw [← h5, List.getElem?_take, if_pos (by rw [← h1]; exact hj)] at hv
  simpa using hv
theorem ldA {b : Nat} {t0 : TypeId} {l : List Value} {off : Nat} {v : Value} (hm : (Value.pointer (some ⟨b, 0, none⟩), DA.cs t0 l) ∈ M) {t : TypeId} {ti : TyI} (hi : TyOk P t ti) (hag : ti.d.agg = false) (hv : l[off]? = some v) {K : Value → Ctx → Prop} (h : K v (CtxA wA w0 X M)) : SemVC P (CtxA wA w0 X M) (Instr.loadAt t (.pointer (some ⟨b, off, none⟩))) K :=
  loadC hi hag v (fun w hw => by rw [(InA.cs hw hm).cell off]; simpa using hv) h
theorem ldsA {b : Nat} {t0 : TypeId} {l : List Value} {off : Nat} (hm : (Value.pointer (some ⟨b, 0, none⟩), DA.cs t0 l) ∈ M) {t : TypeId} {ti : TyI} (hi : TyOk P t ti) (hag : ti.d.agg = true) {K : Value → Ctx → Prop} (h : forceL ((l.drop off).take ti.size) fun vs => chk (Nat.beq vs.length ti.size) (K (.agg vs.toArray) (CtxA wA w0 X M))) : SemVC P (CtxA wA w0 X M) (Instr.loadAt t (.pointer (some ⟨b, off, none⟩))) K := by
  rw [forceL_eq] at h
  obtain ⟨hl, h⟩ := chk_iff h
  exact loadA hi hag _ (Nat.eq_of_beq_eq_true hl) (fun w hw j v hj => by
    rw [(InA.cs hw hm).cell (off + j)]
    have hjl := (List.getElem?_eq_some_iff.1 hj).1
    rw [List.getElem?_take, if_pos (by simp at hjl; omega), List.getElem?_drop] at hj
    simpa using hj) h
theorem ldR {b n cap : Nat} {t0 : TypeId} {sz : Nat} {l : List Value} {off : Nat} {v : Value} (hm : (Value.slice (some ⟨b, 0, none⟩) n cap, DA.row t0 sz l) ∈ M) {t : TypeId} {ti : TyI} (hi : TyOk P t ti) (hag : ti.d.agg = false) (hv : l[off]? = some v) {K : Value → Ctx → Prop} (h : K v (CtxA wA w0 X M)) : SemVC P (CtxA wA w0 X M) (Instr.loadAt t (.pointer (some ⟨b, off, none⟩))) K :=
  loadC hi hag v (fun w hw => InA.rowAt hw hm hv) h
theorem ldsR {b n cap : Nat} {t0 : TypeId} {sz : Nat} {l : List Value} {off : Nat} (vs : List Value) (hm : (Value.slice (some ⟨b, 0, none⟩) n cap, DA.row t0 sz l) ∈ M) {t : TypeId} {ti : TyI} (hi : TyOk P t ti) (hag : ti.d.agg = true) (hl : vs.length = ti.size) (hv : (l.drop off).take ti.size = vs) {K : Value → Ctx → Prop} (h : K (.agg vs.toArray) (CtxA wA w0 X M)) : SemVC P (CtxA wA w0 X M) (Instr.loadAt t (.pointer (some ⟨b, off, none⟩))) K :=
  loadA hi hag vs hl (fun w hw j v hj => by
    rw [← hv] at hj
    have hjl := (List.getElem?_eq_some_iff.1 hj).1
    rw [List.getElem?_take, if_pos (by simp at hjl; omega), List.getElem?_drop] at hj
    exact InA.rowAt hw hm hj) h
/-- what the anchor's memory has -/
theorem InA.oldAt {w : World} (h : InA wA w0 X M w) {a : Addr} {v : Value} (hv : wA.cell? a = some v) : w.cell? a = some v := by
  have hlt := World.block_lt_of_cell? wA a hv
  rw [World.cell?_of_block (h.anc _ (HasB.of hv))]
  exact hv
theorem ldO {a : Addr} {v : Value} (hv : wA.cell? a = some v) {t : TypeId} {ti : TyI} (hi : TyOk P t ti) (hag : ti.d.agg = false) {K : Value → Ctx → Prop} (h : K v (CtxA wA w0 X M)) : SemVC P (CtxA wA w0 X M) (Instr.loadAt t (.pointer (some a))) K :=
  loadC hi hag v (fun w hw => InA.oldAt hw hv) h
theorem ldsO {b off : Nat} (vs : List Value) (hv : ∀ j v, vs[j]? = some v → wA.cell? ⟨b, off + j, none⟩ = some v) {t : TypeId} {ti : TyI} (hi : TyOk P t ti) (hag : ti.d.agg = true) (hl : vs.length = ti.size) {K : Value → Ctx → Prop} (h : K (.agg vs.toArray) (CtxA wA w0 X M)) : SemVC P (CtxA wA w0 X M) (Instr.loadAt t (.pointer (some ⟨b, off, none⟩))) K :=
  loadA hi hag vs hl (fun w hw j v hj => InA.oldAt hw (hv j v hj)) h
/-! ### what is stored -/
theorem stA {b : Nat} {t0 : TypeId} {l : List Value} {t : TypeId} {ti : TyI} (hi : TyOk P t ti) {off : Nat} {v : Value} {i : Nat} (hu : AtE M i (Value.pointer (some ⟨b, 0, none⟩)) (.cs t0 l)) {K : Ctx → Prop} (h : cellsK v fun vs => chk (Nat.beq vs.length ti.size && Nat.ble (off + vs.length) l.length && allOne vs) (forceL (putAt l off vs) fun l' => setK M i (Value.pointer (some ⟨b, 0, none⟩), .cs t0 l') fun M' => K (CtxA wA w0 X M'))) : StoVC P (CtxA wA w0 X M) (Instr.storeAt t (.pointer (some ⟨b, off, none⟩)) v) K := by
  have h := cellsK_iff h
  obtain ⟨h0, h⟩ := chk_iff h
  simp only [Bool.and_eq_true] at h0
  rw [forceL_eq, setK_eq] at h
  constructor
  intro w hw
  have hg : w.heap[b]? = some (.cells l.toArray t0 (0, 0)) := InA.cs hw hu.mem
  have hrun := run_storeVar_box (off := off) hi hg (Nat.eq_of_beq_eq_true h0.1.1) (Nat.le_of_ble_eq_true h0.1.2) (allOne_spec h0.2)
  obtain ⟨h2, h3⟩ := goesA hw (hu.upd (.pointer (some ⟨b, 0, none⟩)) (.cs t0 (putAt l off v.cells.toList))) (w' := w.setRow b (putAt l off v.cells.toList).toArray) rfl rfl rfl (by simp) (fun k _ hk => setRow_other w _ k _ (fun e => hk (by rw [e]; rfl))) ⟨b, rfl, setRow_heap w _ _ _ _ _ hg⟩ (fun b' h => .inl h)
  exact ⟨_, _, by simp [Instr.storeAt, Instr.sureAddr, hrun], h2, h3, h⟩
theorem putAt_take : ∀ (cur : List Value) (k off : Nat) (vs : List Value), off + vs.length ≤ k → (putAt cur off vs).take k = putAt (cur.take k) off vs
  | [], k, off, vs, _ => by simp [putAt]
  | x :: l, 0, off, vs, h => by
    have h1 : vs = [] := List.eq_nil_of_length_eq_zero (by omega)
    subst h1
    simp [putAt]
  | x :: l, k + 1, off + 1, vs, h => by
    simp only [putAt, List.take_succ_cons]
    rw [putAt_take l k off vs (by omega)]
  | x :: l, k + 1, 0, [], h => by simp [putAt]
  | x :: l, k + 1, 0, v :: vs, h => by
    simp only [putAt, List.take_succ_cons]
    rw [putAt_take l k 0 vs (by simp at h; omega)]
/-- an element of a row is stored -/
theorem stR {b n cap : Nat} {t0 : TypeId} {sz : Nat} {l : List Value} {t : TypeId} {ti : TyI} (hi : TyOk P t ti) {off : Nat} {v : Value} (l' : List Value) {i : Nat} (hu : AtE M i (Value.slice (some ⟨b, 0, none⟩) n cap) (.row t0 sz l)) (hsz : v.cells.toList.length = ti.size) (hfit : off + v.cells.toList.length ≤ l.length) (hp : 0 < v.cells.toList.length) (h1 : allOne v.cells.toList = true) (hl' : putAt l off v.cells.toList = l') {K : Ctx → Prop} (h : setK M i (Value.slice (some ⟨b, 0, none⟩) n cap, .row t0 sz l') fun M' => K (CtxA wA w0 X M')) : StoVC P (CtxA wA w0 X M) (Instr.storeAt t (.pointer (some ⟨b, off, none⟩)) v) K := by
  subst hl'
  rw [setK_eq] at h
  constructor
  intro w hw
  obtain ⟨hl, hn, hm, hr⟩ := InA.row hw hu.mem
  have hc : 0 < cap := by
    rcases Nat.eq_zero_or_pos cap with h0 | h0
    · have : n = 0 := by omega
      rw [this] at hl
      omega
    · exact h0
  obtain ⟨cur, hg, hs, ht⟩ := hr hc
  have hce : cur.toList.length = cap * sz := by simpa using hs
  have hls : l.length ≤ cur.toList.length := by rw [hce, hl]; exact Nat.mul_le_mul_right _ hn
  have hg' : w.heap[b]? = some (.cells cur.toList.toArray t0 (0, 0)) := by rw [Array.toArray_toList]; exact hg
  have hrun := run_storeVar_box (off := off) hi hg' hsz (by omega) (allOne_spec h1)
  have hlen : ∀ (cs : List Value) (o : Nat), (putAt cs o v.cells.toList).length = cs.length := by
    have : ∀ (vs : List Value) (cs : List Value) (o : Nat), (putAt cs o vs).length = cs.length := by
      intro vs
      induction vs with
      | nil => intro cs o; rw [putAt_nil]
      | cons x vs ih => intro cs o; rw [putAt_cons, ih]; simp
    exact this _
  obtain ⟨h2, h3⟩ := goesA hw (hu.upd (.slice (some ⟨b, 0, none⟩) n cap) (.row t0 sz (putAt l off v.cells.toList))) (w' := w.setRow b (putAt cur.toList off v.cells.toList).toArray) rfl rfl rfl (by simp) (fun k _ hk => setRow_other w _ k _ (fun e => hk (by rw [e]; simp [blkV]; omega))) ⟨_, n, cap, rfl, by rw [hlen]; exact hl, hn, hm, .inr ⟨b, rfl, hc, _, setRow_heap w _ _ _ _ _ hg, by simp [hlen, hs], by
    show List.take (n * sz) (putAt cur.toList off v.cells.toList) = _
    rw [putAt_take _ _ _ _ (by omega), ht]⟩⟩ (fun b' h => .inl h)
  exact ⟨_, _, by simp [Instr.storeAt, Instr.sureAddr, hrun], h2, h3, h⟩
/-! ### what is new -/
theorem newCs {w : World} (hw : InA wA w0 X M w) (t : TypeId) (l : List Value) : Goes (CtxA wA w0 X M) w (CtxA wA w0 X ((.pointer (some ⟨w.heap.size, 0, none⟩), .cs t l) :: M)) (w.alloc (.cells l.toArray t)) ∧ (CtxA wA w0 X ((.pointer (some ⟨w.heap.size, 0, none⟩), .cs t l) :: M)).R (w.alloc (.cells l.toArray t)) :=
  moreA hw rfl rfl rfl (by simp) (fun k hk => Below.heap_alloc w _ k hk) ⟨_, rfl, heap_alloc_new w _⟩ fun b hb => by
    simp only [blkV, Option.some.injEq] at hb
    omega
theorem allocA {t : TypeId} {ti : TyI} (hi : TyOk P t ti) {K : Value → Ctx → Prop} (l : List Value) (hl : ti.zv.cells.toList = l) (h : ∀ b, K (.pointer (some ⟨b, 0, none⟩)) (CtxA wA w0 X ((.pointer (some ⟨b, 0, none⟩), .cs t l) :: M))) : SemVC P (CtxA wA w0 X M) (Instr.alloc t true (.tuple #[])) K := by
  constructor
  intro w hw
  subst hl
  obtain ⟨h1, h2⟩ := newCs hw t ti.zv.cells.toList
  exact ⟨_, _, _, by simp [Instr.alloc, hi.run_zero, newVar, newRow, newObj, Sem.run], h1, h2, h _⟩
theorem boxA {t : TypeId} {v : Value} {K : Value → Ctx → Prop} (l : List Value) (hl : v.cells.toList = l) (h : ∀ b, K (.pointer (some ⟨b, 0, none⟩)) (CtxA wA w0 X ((.pointer (some ⟨b, 0, none⟩), .cs t l) :: M))) : SemVC P (CtxA wA w0 X M) (Instr.box t v) K := by
  constructor
  intro w hw
  subst hl
  obtain ⟨h1, h2⟩ := newCs hw t v.cells.toList
  exact ⟨_, _, _, by simp [Instr.box, newVar, newRow, newObj, Sem.run], h1, h2, h _⟩
theorem row_new (w : World) (e : TypeId) (sz n : Nat) (l : List Value) (hl : l.length = n * sz) (hn : n ≤ maxLen) (w' : World) (hw' : w' = w.alloc (.cells l.toArray e)) : DA.ok (.row e sz l) (.slice (some ⟨w.heap.size, 0, none⟩) n n) w' := by
  subst hw'
  refine ⟨_, n, n, rfl, hl, Nat.le_refl _, hn, ?_⟩
  by_cases h : n = 0
  · exact .inl h
  · exact .inr ⟨_, rfl, by omega, _, heap_alloc_new w _, by simpa using hl, by simp [← hl]⟩
theorem newRowA {w : World} (hw : InA wA w0 X M w) (e : TypeId) (sz n : Nat) (l : List Value) (hl : l.length = n * sz) (hn : n ≤ maxLen) : Goes (CtxA wA w0 X M) w (CtxA wA w0 X ((.slice (some ⟨w.heap.size, 0, none⟩) n n, .row e sz l) :: M)) (w.alloc (.cells l.toArray e)) ∧ (CtxA wA w0 X ((.slice (some ⟨w.heap.size, 0, none⟩) n n, .row e sz l) :: M)).R (w.alloc (.cells l.toArray e)) :=
  moreA hw rfl rfl rfl (by simp) (fun k hk => Below.heap_alloc w _ k hk) (row_new w e sz n l hl hn _ rfl) fun b hb => by
    have := blk_own hb
    simp only [Value.ownBlock, Option.some.injEq] at this
    omega
/-- a literal row -/
theorem bsA {t e : TypeId} {sz : Nat} {zs : List Value} (hE : ElOk P t e sz zs) {n : Nat} {ps : Array (Nat × Value)} (hm : Nat.ble (n * sz) 1000000 = true) {K : Value → Ctx → Prop}
    (h : forceL ((List.range (n * sz)).map fun x => zs[x % sz]!) fun cs0 => fillS sz cs0 ps.toList fun cs => Nat.beq cs.length (n * sz) = true ∧ ∀ b, K (.slice (some ⟨b, 0, none⟩) n n) (CtxA wA w0 X ((.slice (some ⟨b, 0, none⟩) n n, .row e sz cs) :: M))) : SemVC P (CtxA wA w0 X M) (Instr.buildSlice t n ps) K := by
  rw [forceL_eq] at h
  obtain ⟨cs, h1, hl, h2⟩ := fillS_iff h
  have hl := Nat.eq_of_beq_eq_true hl
  obtain ⟨i, z, hi, hz, hsize, hby, hzc⟩ := hE.parts
  have hm := Nat.le_of_ble_eq_true hm
  have hn : n ≤ 1000000 := by
    have := Nat.mul_le_mul_left n hE.pos
    omega
  constructor
  intro w hw
  obtain ⟨h3, h4⟩ := newRowA hw e sz n cs hl (by simp only [maxLen]; omega)
  refine ⟨_, _, _, ?_, h3, h4, h2 w.heap.size⟩
  have h5 : ¬ 2 ^ 24 < n * sz := by omega
  have e1 : (Array.range (n * sz)).map (fun x => z.cells[x % z.cells.size]!) = ((List.range (n * sz)).map fun x => zs[x % sz]!).toArray := by
    apply Array.ext'
    have := hE.len
    simp [hzc, this]
  rw [← e1] at h1
  have hzr : (zeroValue e).run P w = .ok z w := by simp [zeroValue, typeInfo, hi, hz]
  have hsr : (sizeOf e).run P w = .ok sz w := by simp [sizeOf, typeInfo, hi, hsize]
  by_cases h6 : n * sz = 0
  · have h0 : n = 0 := by
      rcases Nat.mul_eq_zero.1 h6 with h | h
      · exact h
      · have := hE.pos; omega
    subst h0
    have hcs : cs = [] := List.eq_nil_of_length_eq_zero (by simpa using hl)
    subst hcs
    simp only [Nat.zero_mul, Array.range_zero', List.map_toArray] at h1
    simp only [Instr.buildSlice, Sem.run_bind, run_underlying hE.sl, Result.andThen_ok, hsr, h5, gt_iff_lt, if_false, Sem.run_pure, hzr, newRow, newObj, Sem.run, Nat.zero_mul]
    simp at h1
    have e0 : ∀ f : Nat → Value, Array.map f (Array.range 0) = #[] := fun f => by apply Array.ext'; simp
    simp only [e0, h1]
    simp [e0, h1, newRow, newObj, Sem.run]
  · simp only [Instr.buildSlice, Sem.run_bind, run_underlying hE.sl, Result.andThen_ok, hsr, h5, h6, gt_iff_lt, if_false, Sem.run_pure, hzr, h1, newRow, newObj, Sem.run]
    rfl
end
end Go.Proofs.YtgaopcbjhepklaaGreat
