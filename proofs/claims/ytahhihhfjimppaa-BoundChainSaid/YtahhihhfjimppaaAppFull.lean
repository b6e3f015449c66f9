/- append onto a slice without spare room: what comes is new, or nothing was appended -/
import Derived.Test.YtahhihhfjimppaaApp
namespace Go.Proofs.Ytahhihhfjimppaa
open Go.RowKit
set_option linter.unusedSimpArgs false
set_option linter.unusedVariables false

section
variable {P : Program} (w : World)
theorem run_appfull (t tx ty e : TypeId) (i : TypeInfo) (z : Value) (bytes : Nat) (ht : P.underlying t = some (.slice e)) (hi : P.info? e = some i) (hz : i.zero = some z)
    (hsize : i.size = 1) (hby : i.bytes = bytes) (hzs : z.cells.size = 1)
    (B : Nat) (A : Option Addr) (n : Nat) (xs : List Value) (hn : n = xs.length) (hr : Rd w B A xs) (x : Value) (m : Nat) (news : List Value) (hs : Src P 1 tx x m news w)
    (h63 : n + m ≤ maxLen) (hbytes : (n + m) * bytes ≤ 140737488355328) :
    ∃ A' c' w', (Builtin.append_ #[t, tx] ty #[.slice A n n, x]).run P w = .ok (.slice A' (n + m) c') w' ∧ Rd w' w'.heap.size A' (xs ++ news) ∧ Below w.heap.size w w' ∧ n + m ≤ c' ∧ c' ≤ maxLen := by
  subst hn
  have hl := hs.newsLen
  have hone := hs.one
  by_cases hm : m = 0
  · subst hm
    have hnn : news = [] := List.eq_nil_of_length_eq_zero (by simpa using hl)
    subst hnn
    refine ⟨A, xs.length, w, ?_, by simpa using hr.top, Below.refl _ _, by omega, by simpa using h63⟩
    cases A with
    | none => rcases hs.kind with ⟨e', hk⟩ | hk <;> simp [Builtin.append_, run_underlying ht, run_underlying hk, sizeOf, typeInfo, hi, hs.len, hs.cells, hsize]
    | some a => rcases hs.kind with ⟨e', hk⟩ | hk <;> simp [Builtin.append_, run_underlying ht, run_underlying hk, sizeOf, typeInfo, hi, hs.len, hs.cells, hsize, storeCells]
  · have hold : (Builtin.firstCells i.size xs.length (.slice A xs.length xs.length)).run P w.drew = .ok xs.toArray w.drew := by
      rw [hsize]
      rcases hr with rfl | ⟨b, off, rfl, hb, hc⟩
      · cases A with
        | none => exact run_firstCells_none w.drew _ _ _ _
        | some a => exact run_firstCells_some w.drew 1 0 a 0 0 [] (by simp) (by simp)
      · exact run_firstCells_some w.drew 1 xs.length ⟨b, off, none⟩ _ _ xs (by simp) (fun j u hu => by rw [Addr.add_lit]; exact hc j u hu)
    have hr' := run_append_grow_src (P := P) w t tx ty e i z ht hi hz A xs.length xs.length xs hold x m news (by rw [hsize]; exact hs) (by omega) (by simp only [maxLen] at h63; omega) (growslice_fits (by omega) (by rw [hby]; exact hbytes))
    refine ⟨_, _, _, hr', ?_, ((Below.refl _ _).drew).alloc (Nat.le_refl _) _, grownCap_ge _ _ _ _, grownCap_le_maxLen _ _ _ _ h63⟩
    refine .inr ⟨w.heap.size, 0, rfl, by simp, fun j u hu => ?_⟩
    rw [Nat.zero_add, show w.heap.size = w.drew.heap.size from rfl, cell_of_row _ _ _ _ _ _ (heap_alloc_new w.drew _)]
    have hj : j < (xs ++ news).length := (List.getElem?_eq_some_iff.1 hu).1
    rw [Array.getElem?_append_left (by simpa using hj)]
    simpa using hu

theorem wpList_appfull {ops : Array Oper} {rest : List Oper} {o : Oper} {a : Act} {Q : Exit → Act → World → Prop} (hgd : o.guard = none) (s x : Operand) (t tx : TypeId)
    (ho : o.op = .call { callee := .builtin .append, args := #[s, x], argTypes := #[t, tx] })
    (e : TypeId) (i : TypeInfo) (z : Value) (bytes : Nat) (ht : P.underlying t = some (.slice e)) (hi : P.info? e = some i) (hz : i.zero = some z)
    (hsize : i.size = 1) (hby : i.bytes = bytes) (hzs : z.cells.size = 1)
    (B : Nat) (A : Option Addr) (n : Nat) (xs : List Value) (hv : a.eval s = .slice A n n) (hn : n = xs.length) (hr : Rd w B A xs) (xv : Value) (m : Nat) (news : List Value) (hx : a.eval x = xv) (hs : Src P 1 tx xv m news w)
    (h63 : n + m ≤ maxLen) (hbytes : (n + m) * bytes ≤ 140737488355328)
    (h : ∀ A' c' w', Rd w' w'.heap.size A' (xs ++ news) → Below w.heap.size w w' → n + m ≤ c' → c' ≤ maxLen → wpList P ops Q rest (a.put o.dst (.slice A' (n + m) c')) w') : wpList P ops Q (o :: rest) a w := by
  refine wpList_plain hgd fun K hK => ?_
  obtain ⟨A', c', w', hrun, h2, h3, h4, h5⟩ := run_appfull (P := P) w t tx o.type e i z bytes ht hi hz hsize hby hzs B A n xs hn hr xv m news hs h63 hbytes
  unfold Oper.wp execOp
  simp only [ho, resolve, invoke, builtin, Sem.run_bind, Sem.run_pure, Result.andThen_ok, List.map_toArray, List.map_cons, List.map_nil, hv, hx, hrun]
  exact hK _ _ (h A' c' w' h2 h3 h4 h5)
end

/-- what came in, a slice of bytes -/
theorem row_u8 {w : World} {a : Option Addr} {len cap : Nat} {zs : List Int} (h : (a = none ∧ len = 0 ∧ cap = 0 ∧ zs = []) ∨
    ∃ x, a = some x ∧ len ≤ cap ∧ cap ≤ maxLen ∧ zs.length = cap ∧ (∀ i, i < zs.length → w.cell? (x.add i) = some (.int .u8 (zs.getD i 0))) ∧ ∀ n ∈ zs, (Lit.int .u8 n).wf = true) :
    ∃ l : List Nat, len = l.length ∧ l.length ≤ cap ∧ cap ≤ 9223372036854775807 ∧ Rd w w.heap.size a (bs l) ∧ Byt l := by
  rcases h with ⟨rfl, rfl, rfl, rfl⟩ | ⟨x, rfl, hl, hm, hz, hc, hw⟩
  · exact ⟨[], rfl, by simp, by omega, .inl rfl, fun _ h => by simp at h⟩
  · have hb : ∀ n ∈ zs, 0 ≤ n ∧ n ≤ 255 := by
      intro n hn
      have := hw n hn
      simp [Lit.wf, IntKind.min, IntKind.max, IntKind.bits, IntKind.signed] at this
      omega
    refine ⟨(zs.take len).map Int.toNat, by simp; omega, by simp; omega, hm, ?_, ?_⟩
    · refine Rd.top (B := x.block + 1) ?_
      rcases Nat.eq_zero_or_pos len with h0 | hp
      · left; subst h0; simp [bs]
      · have hsp : x.spot = none := by
          have := World.cell?_spot (hc 0 (by omega))
          simpa [Addr.add] using this
        obtain ⟨b, off, sp⟩ := x
        simp only at hsp
        subst hsp
        refine .inr ⟨b, off, rfl, by simp, fun j u hu => ?_⟩
        have hj : j < len := by
          have := (List.getElem?_eq_some_iff.1 hu).1
          simp at this
          omega
        have h1 := hc j (by omega)
        rw [Addr.add_lit] at h1
        rw [h1, ← hu]
        have hjz : j < zs.length := by omega
        have h2 := hb zs[j] (by simp)
        simp [bs, List.getElem?_take, hj, List.getD, hjz]
        omega
    · intro y hy
      simp only [List.mem_map] at hy
      obtain ⟨n, hn, rfl⟩ := hy
      have := hb n (List.mem_of_mem_take hn)
      omega
theorem row_i64 {w : World} {a : Option Addr} {len cap : Nat} {zs : List Int} (h : (a = none ∧ len = 0 ∧ cap = 0 ∧ zs = []) ∨
    ∃ x, a = some x ∧ len ≤ cap ∧ cap ≤ maxLen ∧ zs.length = cap ∧ (∀ i, i < zs.length → w.cell? (x.add i) = some (.int .i64 (zs.getD i 0))) ∧ ∀ n ∈ zs, (Lit.int .i64 n).wf = true) :
    ∃ l : List Int, len = l.length ∧ l.length ≤ cap ∧ cap ≤ 9223372036854775807 ∧ Rd w w.heap.size a (is l) ∧ ∀ n ∈ l, -9223372036854775808 ≤ n ∧ n ≤ 9223372036854775807 := by
  rcases h with ⟨rfl, rfl, rfl, rfl⟩ | ⟨x, rfl, hl, hm, hz, hc, hw⟩
  · exact ⟨[], rfl, by simp, by omega, .inl rfl, fun _ h => by simp at h⟩
  · refine ⟨zs.take len, by simp; omega, by simp; omega, hm, ?_, ?_⟩
    · refine Rd.top (B := x.block + 1) ?_
      rcases Nat.eq_zero_or_pos len with h0 | hp
      · left; subst h0; simp [is]
      · have hsp : x.spot = none := by
          have := World.cell?_spot (hc 0 (by omega))
          simpa [Addr.add] using this
        obtain ⟨b, off, sp⟩ := x
        simp only at hsp
        subst hsp
        refine .inr ⟨b, off, rfl, by simp, fun j u hu => ?_⟩
        have hj : j < len := by
          have := (List.getElem?_eq_some_iff.1 hu).1
          simp at this
          omega
        have h1 := hc j (by omega)
        rw [Addr.add_lit] at h1
        rw [h1, ← hu]
        have hjz : j < zs.length := by omega
        simp [is, List.getElem?_take, hj, List.getD, hjz]
    · intro n hn
      have := hw n (List.mem_of_mem_take hn)
      simp [Lit.wf, IntKind.min, IntKind.max, IntKind.bits, IntKind.signed] at this
      omega
theorem wf_i64' {n : Int} (h : (Lit.int .i64 n).wf = true) : -9223372036854775808 ≤ n ∧ n ≤ 9223372036854775807 := by
  simp [Lit.wf, IntKind.min, IntKind.max, IntKind.bits, IntKind.signed] at h
  omega
theorem wf_u8' {n : Int} (h : (Lit.int .u8 n).wf = true) : 0 ≤ n ∧ n ≤ 255 := by
  simp [Lit.wf, IntKind.min, IntKind.max, IntKind.bits, IntKind.signed] at h
  omega
end Go.Proofs.Ytahhihhfjimppaa
