/- the plain side of layer 32: events, as numbers and as bytes -/
import Derived.Test.YteindickckcdhaaWireDef6
namespace Go.Proofs.Yteindickckcdhaa.T
set_option linter.unusedSimpArgs false
set_option linter.unusedVariables false

/-- an event: worker, seat; kind, cell, old, new; value, whether it went -/
abbrev Ev := Int × Int × Int × Int × Int × Int × Int × Bool
def eqB (x y : Ev) : Bool := decide (x.1 = y.1) && (decide (x.2.1 = y.2.1) && ((decide (x.2.2.1 = y.2.2.1) && (decide (x.2.2.2.1 = y.2.2.2.1) && (decide (x.2.2.2.2.1 = y.2.2.2.2.1) && decide (x.2.2.2.2.2.1 = y.2.2.2.2.2.1)))) && (decide (x.2.2.2.2.2.2.1 = y.2.2.2.2.2.2.1) && decide (x.2.2.2.2.2.2.2 = y.2.2.2.2.2.2.2))))
theorem eqB_iff (x y : Ev) : eqB x y = true ↔ x = y := by
  obtain ⟨a, b, c, d, e, f, g, h⟩ := x
  obtain ⟨a', b', c', d', e', f', g', h'⟩ := y
  simp only [eqB, Bool.and_eq_true, decide_eq_true_eq, Prod.mk.injEq]
  constructor
  · rintro ⟨h1, h2, ⟨h3, h4, h5, h6⟩, h7, h8⟩; exact ⟨h1, h2, h3, h4, h5, h6, h7, h8⟩
  · rintro ⟨h1, h2, h3, h4, h5, h6, h7, h8⟩; exact ⟨h1, h2, ⟨h3, h4, h5, h6⟩, h7, h8⟩
instance : DecidableEq Ev := fun x y => if h : eqB x y = true then isTrue ((eqB_iff x y).1 h) else isFalse (fun e => h ((eqB_iff x y).2 e))
def oki (b : Bool) : Int := if b then 1 else 0
def row (x : Ev) : List Int := [x.1, x.2.1, x.2.2.1, x.2.2.2.1, x.2.2.2.2.1, x.2.2.2.2.2.1, x.2.2.2.2.2.2.1, oki x.2.2.2.2.2.2.2]
def nums (l : List Ev) : List Int := l.flatMap row
def bytes (l : List Ev) : List Nat := W.sealed (W.nums (nums l))
/-- the events of numbers -/
def evs : List Int → Option (List Ev)
  | [] => some []
  | a :: b :: c :: d :: e :: f :: g :: h :: r => if h = 0 ∨ h = 1 then (evs r).map (fun l => (a, b, c, d, e, f, g, decide (h = 1)) :: l) else none
  | _ => none
def parse (b : List Nat) : Option (List Ev) :=
  match W.opened b with
  | none => none
  | some (l, K) => if K = b.length then (match W.getNums l with
    | none => none
    | some (ns, J) => if J = l.length then evs ns else none) else none
def fits (x : Ev) : Prop := ∀ n ∈ row x, -9223372036854775808 ≤ n ∧ n ≤ 9223372036854775807
theorem nums_length (l : List Ev) : (nums l).length = l.length * 8 := by
  induction l with
  | nil => rfl
  | cons x l ih => simp only [nums, List.flatMap_cons, List.length_append] at ih ⊢; rw [ih]; simp [row]; omega
theorem evs_nums (l : List Ev) : evs (nums l) = some l := by
  induction l with
  | nil => rfl
  | cons x l ih =>
    obtain ⟨a, b, c, d, e, f, g, h⟩ := x
    have e1 : nums ((a, b, c, d, e, f, g, h) :: l) = a :: b :: c :: d :: e :: f :: g :: oki h :: nums l := rfl
    rw [e1, evs, ih]
    cases h <;> simp [oki]
theorem nums_evs : ∀ {ns : List Int} {l : List Ev}, evs ns = some l → nums l = ns := by
  intro ns
  match ns with
  | [] => intro l h; injection h with h; subst h; rfl
  | a :: b :: c :: d :: e :: f :: g :: h :: r =>
    intro l hl
    rw [evs] at hl
    split at hl
    · rename_i h01
      cases hr : evs r with
      | none => rw [hr] at hl; cases hl
      | some m =>
        rw [hr] at hl
        injection hl with hl
        subst hl
        have := nums_evs hr
        show a :: b :: c :: d :: e :: f :: g :: oki (decide (h = 1)) :: nums m = _
        rw [this]
        rcases h01 with rfl | rfl <;> simp [oki]
    · cases hl
  | [_] => intro l h; simp [evs] at h
  | [_, _] => intro l h; simp [evs] at h
  | [_, _, _] => intro l h; simp [evs] at h
  | [_, _, _, _] => intro l h; simp [evs] at h
  | [_, _, _, _, _] => intro l h; simp [evs] at h
  | [_, _, _, _, _, _] => intro l h; simp [evs] at h
  | [_, _, _, _, _, _, _] => intro l h; simp [evs] at h
theorem nums_fit {l : List Ev} (h : ∀ x ∈ l, fits x) : ∀ n ∈ nums l, -9223372036854775808 ≤ n ∧ n ≤ 9223372036854775807 := by
  intro n hn
  obtain ⟨x, hx, hn⟩ := List.mem_flatMap.1 hn
  exact h x hx n hn
/-- what was written is read -/
theorem parse_bytes {l : List Ev} (h : ∀ x ∈ l, fits x) (hl : l.length ≤ 1000) : parse (bytes l) = some l := by
  unfold parse bytes
  have h1 := nums_length l
  have h2 := W.nums_len (nums l) (nums_fit h) (by omega)
  have h3 := W.opened_sealed (W.nums (nums l)) [] (by omega)
  rw [List.append_nil] at h3
  rw [h3]
  have h4 := W.getNums_nums (nums l) [] (nums_fit h) (by omega)
  rw [List.append_nil] at h4
  simp only [if_true, h4, evs_nums]

theorem opened_all {b x : List Nat} {K : Nat} (hB : ∀ y ∈ b, y < 256) (h : W.opened b = some (x, K)) (hK : K = b.length) : b = W.sealed x ∧ ∀ y ∈ x, y < 256 := by
  unfold W.opened at h
  cases hl : W.len b with
  | none => rw [hl] at h; cases h
  | some p =>
    obtain ⟨n, k⟩ := p
    rw [hl] at h
    simp only at h
    cases hg : W.get (b.drop (k + n)) with
    | none => rw [hg] at h; cases h
    | some q =>
      obtain ⟨s, j⟩ := q
      rw [hg] at h
      simp only at h
      split at h
      · rename_i hs
        simp only [Option.some.injEq, Prod.mk.injEq] at h
        obtain ⟨rfl, rfl⟩ := h
        obtain ⟨g1, g2⟩ := W.len_some hl
        obtain ⟨_, _, hk, r, hr⟩ := W.get_some hB g1
        have hle := W.len_le hB hl
        obtain ⟨_, _, hj, r2, hr2⟩ := W.get_some (fun y hy => hB y (List.mem_of_mem_drop hy)) hg
        have hdl : (b.drop (k + n)).length = j := by rw [List.length_drop]; omega
        have hr2n : r2 = [] := by
          have := congrArg List.length hr2
          rw [List.length_append, hdl, ← hj] at this
          exact List.eq_nil_of_length_eq_zero (by omega)
        rw [hr2n, List.append_nil] at hr2
        have hxl : ((b.drop k).take n).length = n := by rw [List.length_take, List.length_drop]; omega
        refine ⟨?_, fun y hy => hB y (List.mem_of_mem_drop (List.mem_of_mem_take hy))⟩
        unfold W.sealed
        rw [hxl, ← hs, ← hr2]
        have e1 : b.take k = W.put (n : Int) := by rw [hr, hk, List.take_left]
        rw [← e1]
        have e2 : b.drop (k + n) = (b.drop k).drop n := by rw [List.drop_drop]
        rw [e2, List.append_assoc, List.take_append_drop, List.take_append_drop]
      · cases h
theorem getNums_all {b : List Nat} {ns : List Int} {K : Nat} (hB : ∀ y ∈ b, y < 256) (h : W.getNums b = some (ns, K)) (hK : K = b.length) : b = W.nums ns ∧ ∀ n ∈ ns, -9223372036854775808 ≤ n ∧ n ≤ 9223372036854775807 := by
  unfold W.getNums at h
  cases hl : W.len b with
  | none => rw [hl] at h; cases h
  | some p =>
    obtain ⟨m, k⟩ := p
    rw [hl] at h
    simp only at h
    cases hm : W.many m (b.drop k) with
    | none => rw [hm] at h; cases h
    | some q =>
      obtain ⟨ms, j⟩ := q
      rw [hm] at h
      simp only [Option.some.injEq, Prod.mk.injEq] at h
      obtain ⟨rfl, rfl⟩ := h
      have hBd : ∀ y ∈ b.drop k, y < 256 := fun y hy => hB y (List.mem_of_mem_drop hy)
      obtain ⟨g1, g2⟩ := W.len_some hl
      obtain ⟨_, _, hk, r, hr⟩ := W.get_some hB g1
      obtain ⟨r2, hr2, hj⟩ := W.many_some hBd hm
      have hle := W.many_le hBd hm
      have hml := W.many_length hm
      have hr2n : r2 = [] := by
        have := congrArg List.length hr2
        rw [List.length_append, ← hj, List.length_drop] at this
        exact List.eq_nil_of_length_eq_zero (by omega)
      rw [hr2n, List.append_nil] at hr2
      refine ⟨?_, hle.2.2.2⟩
      unfold W.nums
      have e1 : b.take k = W.put (m : Int) := by rw [hr, hk, List.take_left]
      rw [hml, ← e1, ← hr2, List.take_append_drop]
theorem parse_some {b : List Nat} {l : List Ev} (hB : ∀ y ∈ b, y < 256) (h : parse b = some l) : bytes l = b ∧ ∀ x ∈ l, fits x := by
  unfold parse at h
  cases ho : W.opened b with
  | none => rw [ho] at h; cases h
  | some p =>
    obtain ⟨x, K⟩ := p
    rw [ho] at h
    simp only at h
    split at h
    · rename_i hK
      obtain ⟨e1, hx⟩ := opened_all hB ho hK
      cases hg : W.getNums x with
      | none => rw [hg] at h; cases h
      | some q =>
        obtain ⟨ns, J⟩ := q
        rw [hg] at h
        simp only at h
        split at h
        · rename_i hJ
          obtain ⟨e2, hn⟩ := getNums_all hx hg hJ
          have e3 := nums_evs h
          refine ⟨by unfold bytes; rw [e3, ← e2, ← e1], fun y hy n hyn => hn n ?_⟩
          rw [← e3]
          exact List.mem_flatMap.2 ⟨y, hy, hyn⟩
        · cases h
    · cases h
theorem bytes_byt (l : List Ev) : ∀ y ∈ bytes l, y < 256 := W.sealed_byt _ (W.nums_byt _)
theorem bytes_len {l : List Ev} (h : ∀ x ∈ l, fits x) (hl : l.length ≤ 1000) : 2 ≤ (bytes l).length ∧ (bytes l).length ≤ 30 + 80 * l.length ∧ (W.nums (nums l)).length ≤ 10 + 80 * l.length ∧ 1 ≤ (W.nums (nums l)).length := by
  have h1 := nums_length l
  have h2 := W.nums_len (nums l) (nums_fit h) (by omega)
  have h3 := W.sealed_len (W.nums (nums l)) (by omega)
  unfold bytes
  omega
/-- two rows have the same bytes just if they are the same -/
theorem bytes_inj {l m : List Ev} (h : ∀ x ∈ l, fits x) (h' : ∀ x ∈ m, fits x) (hl : l.length ≤ 1000) (hm : m.length ≤ 1000) : bytes l = bytes m ↔ l = m := by
  constructor
  · intro e
    have a := parse_bytes h hl
    have b := parse_bytes h' hm
    rw [e, b] at a
    injection a with a
    exact a.symm
  · rintro rfl; rfl
theorem parse_long {l : List Ev} (h : ∀ x ∈ l, fits x) (hl : l.length ≤ 1000) (y : Nat) : parse (bytes l ++ [y]) = none := by
  have hb := bytes_len h hl
  have h3 := W.opened_sealed (W.nums (nums l)) [y] (by omega)
  unfold parse bytes
  rw [h3]
  simp
theorem parse_short {l : List Ev} (h : ∀ x ∈ l, fits x) (hl : l.length ≤ 1000) {k : Nat} (hk : k < (bytes l).length) : parse ((bytes l).take k) = none := by
  have hb := bytes_len h hl
  have h3 := W.opened_short (W.nums (nums l)) (W.nums_byt _) (by omega) hk
  unfold parse
  have e : (bytes l).take k = (W.sealed (W.nums (nums l))).take k := rfl
  rw [e, h3]
theorem parse_set {l : List Ev} (h : ∀ x ∈ l, fits x) (hl : l.length ≤ 1000) {k : Nat} (hk : k < (bytes l).length) {v : Nat} (hv : v < 256) (hne : v ≠ (bytes l)[k]) : parse ((bytes l).set k v) ≠ some l := by
  intro hp
  have hB : ∀ y ∈ (bytes l).set k v, y < 256 := fun y hy => by
    rcases List.mem_or_eq_of_mem_set hy with hy | rfl
    · exact bytes_byt l y hy
    · exact hv
  obtain ⟨e, _⟩ := parse_some hB hp
  have := congrArg (fun z : List Nat => z[k]?) e
  simp only [List.getElem?_set_self hk, List.getElem?_eq_getElem hk, Option.some.injEq] at this
  exact hne this.symm
theorem parse_sealed {l : List Ev} (h : ∀ x ∈ l, fits x) (hl : l.length ≤ 1000) {j : Nat} (hj : j < (W.nums (nums l)).length) {v : Nat} (hv : v < 256) (hne : v ≠ (W.nums (nums l))[j]) :
    parse ((bytes l).set ((W.put ((W.nums (nums l)).length : Nat)).length + j) v) = none := by
  have hb := bytes_len h hl
  generalize hI : W.nums (nums l) = I at *
  have hIB : ∀ y ∈ I, y < 256 := by rw [← hI]; exact W.nums_byt _
  have e0 : bytes l = W.sealed I := by unfold bytes; rw [hI]
  have e1 : I = I.take j ++ [I[j]] ++ I.drop (j + 1) := by
    rw [List.append_assoc]
    simp [List.take_append_drop]
  have e2 : (I.take j).length = j := by rw [List.length_take]; omega
  have e3 := W.set_sealed (I.take j) (I.drop (j + 1)) I[j] v
  rw [← e1, e2] at e3
  have e4 := W.opened_turned (I.take j) (I.drop (j + 1)) I[j] v (by simp; omega) (hIB _ (by simp)) hv
  rw [← e1] at e4
  rw [e0, e3]
  unfold parse
  have : decide (I[j] = v) = false := by simpa using (fun h => hne h.symm)
  rw [this] at e4
  rw [Option.isSome_eq_false_iff, Option.isNone_iff_eq_none] at e4
  rw [e4]
end Go.Proofs.Yteindickckcdhaa.T
