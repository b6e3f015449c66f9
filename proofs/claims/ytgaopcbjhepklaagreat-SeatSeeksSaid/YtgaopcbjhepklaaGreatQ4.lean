/- Lemmas for the proof, joined from several texts: no statement of its own; their conditions stand in them. -/
import Derived.Test.YtgaopcbjhepklaaGreatMem
import Derived.ProofKit
import Derived.OpenShut
import Derived.Deep.Slices
import Derived.Deep.Fields
import Derived.ChangeSame
import Derived.Test.YtgaopcbjhepklaaGreatYa
import Derived.Test.YtgaopcbjhepklaaGreatTab
import Derived.Below
import Derived.Test.YtgaopcbjhepklaaGreatQ3
/- arguments that are slices of structs of numbers: opened to one list of numbers -/
namespace Go.Proofs.YtgaopcbjhepklaaGreat
open Go.ChangeShapes Go.WideShapes Go.RowKit Go.Deep
set_option linter.unusedSimpArgs false
set_option linter.unusedVariables false

/-- each cell is a number that fits -/
def Nums (cs : List Value) : Prop := ∀ c ∈ cs, ∃ z, c = .int .i64 z ∧ (Lit.int .i64 z).wf = true
/-- whatever is read at a type is numbers -/
def Flat (P : Program) (t : TypeId) : Prop :=
  ∀ ⦃H : Type⦄ ⦃enc : TypeId × Value → H⦄ ⦃w : World⦄ ⦃base : Nat⦄ ⦃spare : Nat → Bool⦄ ⦃held : Bool⦄ ⦃fuel : Nat⦄ ⦃cs : List Value⦄ ⦃x : DataW H × List MemPlace⦄, DataW.trod enc P w base spare held fuel t cs = some x → Nums cs
theorem flat_int {P : Program} {t : TypeId} (ht : P.underlying t = some (.int .i64)) : Flat P t := by
  intro H enc w base spare held fuel cs x h
  obtain ⟨n, rfl, _, hw⟩ := DataW.trod_int ht h
  intro c hc
  rw [List.mem_singleton.1 hc]
  exact ⟨n, rfl, hw⟩
/-- the fields lie over all cells -/
def covers (P : Program) (fs : Array Field) (n : Nat) : Bool := (List.range n).all fun i => fs.toList.any fun f => decide (f.offset ≤ i) && decide (i < f.offset + P.cellsOf f.type)
theorem flat_struct {P : Program} {t : TypeId} {fs : Array Field} (ht : P.underlying t = some (.struct fs)) (hc : covers P fs (P.cellsOf t) = true) (hf : ∀ f ∈ fs.toList, Flat P f.type) : Flat P t := by
  intro H enc w base spare held fuel cs x h
  obtain ⟨ys, n, _, _, hlen, hyl, hg⟩ := DataW.trod_struct ht h
  intro c hcm
  obtain ⟨i, hi, rfl⟩ := List.getElem_of_mem hcm
  have h1 := List.all_eq_true.1 hc i (List.mem_range.2 (by omega))
  obtain ⟨f, hfm, h2⟩ := List.any_eq_true.1 h1
  simp only [Bool.and_eq_true, decide_eq_true_eq] at h2
  obtain ⟨j, hj, hfj⟩ := List.getElem_of_mem hfm
  have hj' : j < fs.size := by simpa using hj
  have hfj' : fs[j]? = some f := by rw [Array.getElem?_eq_getElem hj']; simpa using hfj
  have h3 := hg j f hfj'
  obtain ⟨y, hy⟩ : ∃ y, ys[j]? = some y := ⟨_, List.getElem?_eq_getElem (by omega)⟩
  rw [hy] at h3
  refine hf f hfm h3 _ ?_
  refine List.mem_of_getElem? (i := i - f.offset) ?_
  rw [List.getElem?_take_of_lt (by omega), List.getElem?_drop, Nat.add_sub_cancel' h2.1, List.getElem?_eq_getElem]

theorem nums_is {cs : List Value} (h : Nums cs) : ∃ zs : List Int, cs = is zs ∧ ∀ z ∈ zs, (Lit.int .i64 z).wf = true := by
  induction cs with
  | nil => exact ⟨[], rfl, fun _ h => by simp at h⟩
  | cons c cs ih =>
    obtain ⟨zs, rfl, hz⟩ := ih (fun x hx => h x (by simp [hx]))
    obtain ⟨z, rfl, hw⟩ := h c (by simp)
    exact ⟨z :: zs, rfl, fun x hx => by rcases List.mem_cons.1 hx with rfl | hx; exact hw; exact hz x hx⟩
theorem wf_i64 {z : Int} (h : (Lit.int .i64 z).wf = true) : -9223372036854775808 ≤ z ∧ z ≤ 9223372036854775807 := by
  simp [Lit.wf, IntKind.min, IntKind.max, IntKind.bits, IntKind.signed] at h
  omega
theorem wf_u8 {z : Int} (h : (Lit.int .u8 z).wf = true) : 0 ≤ z ∧ z ≤ 255 := by
  simp [Lit.wf, IntKind.min, IntKind.max, IntKind.bits, IntKind.signed] at h
  omega

/-- what a slice of structs of k numbers each is read as -/
def IsFlat (k : Nat) (w : World) (A : Option Addr) (len cap : Nat) (zs : List Int) : Prop :=
  zs.length = len * k ∧ Rd w w.heap.size A (is zs) ∧ (∀ z ∈ zs, -9223372036854775808 ≤ z ∧ z ≤ 9223372036854775807) ∧ len ≤ cap ∧ cap ≤ 9223372036854775807

section
variable {H : Type} {enc : TypeId × Value → H} {P : Program} {w : World} {base : Nat} {spare : Nat → Bool} {held : Bool}
theorem nums_upto {a : Addr} {k : Nat} : ∀ (len : Nat), (∀ i, i < len → ∃ cs, (w.cells? base (a.add (i * k)) k = some cs) ∧ Nums cs) →
    ∃ zs : List Int, zs.length = len * k ∧ (∀ z ∈ zs, (Lit.int .i64 z).wf = true) ∧ ∀ j u, (is zs)[j]? = some u → w.cell? (a.add j) = some u := by
  intro len
  induction len with
  | zero => intro _; exact ⟨[], by simp, fun _ h => by simp at h, fun j u h => by simp [is] at h⟩
  | succ len ih =>
    intro h
    obtain ⟨zs, hl, hw, hc⟩ := ih (fun i hi => h i (by omega))
    obtain ⟨cs, hcs, hn⟩ := h len (by omega)
    obtain ⟨_, hcl, hat⟩ := World.cells?_some hcs
    obtain ⟨ys, rfl, hy⟩ := nums_is hn
    refine ⟨zs ++ ys, ?_, ?_, ?_⟩
    · rw [List.length_append, hl, Nat.add_mul, Nat.one_mul]; congr 1; simpa using hcl
    · intro z hz; rcases List.mem_append.1 hz with hz | hz; exact hw z hz; exact hy z hz
    · intro j u hu
      rw [is_append] at hu
      by_cases hj : j < (is zs).length
      · rw [List.getElem?_append_left hj] at hu; exact hc j u hu
      · rw [List.getElem?_append_right (by omega)] at hu
        have hjk : j - (is zs).length < k := by
          have := (List.getElem?_eq_some_iff.1 hu).1
          rw [hcl] at this; exact this
        have := hat _ hjk
        rw [Go.Deep.add_add] at this
        rw [is_length, hl] at this hu hj
        rw [show len * k + (j - len * k) = j by omega] at this
        rw [this, hu]
theorem open_flat {t e : TypeId} {k : Nat} {fuel : Nat} {A : Option Addr} {len cap : Nat} {x : DataW H × List MemPlace} (ht : P.underlying t = some (.slice e)) (hF : Flat P e) (hC : P.cellsOf e = k) (hk : 0 < k)
    (h : DataW.trod enc P w base (fun _ => true) held fuel t (Value.slice A len cap).cells.toList = some x) : ∃ zs, IsFlat k w A len cap zs := by
  rcases open_slice ht h with ⟨hcs, _⟩ | ⟨a, l, c, m, n, D, Pl, hcs, hb, hl, hm, hmm, hx, hi⟩
  · simp [Value.cells] at hcs
    obtain ⟨rfl, rfl, rfl⟩ := hcs
    exact ⟨[], by simp, .inl rfl, fun _ h => by simp at h, Nat.le_refl _, by omega⟩
  · simp [Value.cells] at hcs
    obtain ⟨rfl, rfl, rfl⟩ := hcs
    simp only [if_true] at hmm
    subst hmm
    rw [hC] at hi
    obtain ⟨zs, hzl, hzw, hzc⟩ := nums_upto (w := w) (base := base) (a := a) (k := k) len (fun i hil => by
      obtain ⟨cs', h1, h2⟩ := hi i (by omega)
      exact ⟨cs', h1, hF h2⟩)
    refine ⟨zs, hzl, ?_, fun z hz => wf_i64 (hzw z hz), hl, hm⟩
    refine Rd.top (B := a.block + 1) ?_
    rcases Nat.eq_zero_or_pos len with h0 | hp
    · left
      subst h0
      have : zs = [] := List.eq_nil_of_length_eq_zero (by simpa using hzl)
      rw [this]; rfl
    · have hpos : 0 < zs.length := by rw [hzl]; exact Nat.mul_pos hp hk
      have hsp : a.spot = none := by
        have := World.cell?_spot (hzc 0 _ (is_at zs 0 hpos))
        simpa [Addr.add] using this
      obtain ⟨b, off, sp⟩ := a
      simp only at hsp
      subst hsp
      refine .inr ⟨b, off, rfl, by simp, fun j u hu => ?_⟩
      have := hzc j u hu
      rw [Addr.add_lit] at this
      exact this
end
end Go.Proofs.YtgaopcbjhepklaaGreat
/- From a walk to a law; arguments that are rows of pairs. -/
namespace Go.Proofs.YtgaopcbjhepklaaGreat
open Go.ChangeShapes Go.WideShapes Go.RowKit Go.Deep
set_option linter.unusedSimpArgs false
set_option linter.unusedVariables false
abbrev C0 (w : World) : Ctx := CtxA w w (fun _ => False) []
theorem calls_law {P : Program} {f : FuncId} {args : Array Value} {w : World} (h : ∀ (K : Value → Ctx → Prop) (Z : PanK), K (.bool true) (C0 w) → CallVC P (C0 w) f args K Z) : Calls P f args w fun e w' => e = .returned (.bool true) ∧ Below w.heap.size w w' := by
  have h1 := h (fun v C => v = .bool true ∧ C = C0 w) (fun _ _ => False) ⟨rfl, rfl⟩
  have h0 : InA w w (fun _ => False) [] w := ⟨rfl, rfl, rfl, Nat.le_refl _, fun _ _ _ => rfl, Nat.le_refl _, fun _ _ => rfl, fun e he => (by cases he), fun e he => (by cases he), List.nodup_nil⟩
  refine (h1.out.2 w h0).mono fun e w' hh => ?_
  rcases hh with ⟨v, C', rfl, _, h3, rfl, rfl⟩ | ⟨_, _, _, _, _, hz⟩
  · have h4 : InA w w (fun _ => False) [] w' := h3
    exact ⟨rfl, h4.os, h4.tape, h4.output, h4.size, fun k hk => h4.old k hk (fun h => h)⟩
  · exact hz.elim
theorem flat_array {P : Program} {t e : TypeId} {n : Nat} (ht : P.underlying t = some (.array n e)) (hct : P.cellsOf t = n) (hce : P.cellsOf e = 1) (hF : Flat P e) : Flat P t := by
  intro H enc w base spare held fuel cs x h c hc
  obtain ⟨ys, m, _, _, hlen, hl, hel⟩ := DataW.trod_array ht h
  obtain ⟨i, hi, rfl⟩ := List.getElem_of_mem hc
  have h3 := hel i (by omega)
  obtain ⟨y, hy⟩ : ∃ y, ys[i]? = some y := ⟨_, List.getElem?_eq_getElem (by omega)⟩
  rw [hy, hce, Nat.mul_one] at h3
  refine hF h3 _ ?_
  refine List.mem_of_getElem? (i := 0) ?_
  rw [List.getElem?_take_of_lt (by omega), List.getElem?_drop, Nat.add_zero, List.getElem?_eq_getElem hi]
def pairs : List Int → List (Int × Int)
  | a :: b :: l => (a, b) :: pairs l
  | _ => []
theorem pairs_is : ∀ (n : Nat) (zs : List Int), zs.length = n * 2 → ∃ gs : List (Int × Int), gs.length = n ∧ is zs = gs.flatMap fun p => [.int .i64 p.1, .int .i64 p.2]
  | 0, zs, h => by
    have : zs = [] := List.eq_nil_of_length_eq_zero (by omega)
    subst this; exact ⟨[], rfl, rfl⟩
  | n + 1, zs, h => by
    match zs, h with
    | a :: b :: l, h =>
      obtain ⟨gs, h1, h2⟩ := pairs_is n l (by simp at h; omega)
      refine ⟨(a, b) :: gs, by simp [h1], ?_⟩
      simp only [List.flatMap_cons]
      rw [← h2]
      rfl
    | [a], h => simp at h; omega
    | [], h => simp at h
theorem flat_pair : Flat Tryz.prog 88 := flat_array Tryz.underlying88 (by kernel_rfl) (by kernel_rfl) (flat_int Tryz.underlying3)
end Go.Proofs.YtgaopcbjhepklaaGreat
/- SeatSeeks, from its arguments. -/
namespace Go.Proofs.YtgaopcbjhepklaaGreat
open Go.RowKit
set_option linter.unusedVariables false
theorem seeks_any {x y : Int} (hx : 0 ≤ x ∧ x ≤ 255) (hy : 0 ≤ y ∧ y ≤ 255) {A : Option Addr} {n c : Nat} {zs : List Int} {w : World} (hz : IsFlat 2 w A n c zs) :
    Calls Tryz.prog 4 #[.int .u8 x, .int .u8 y, .slice A n c] w fun e w' => e = .returned (.bool true) ∧ Below w.heap.size w w' := by
  obtain ⟨m, rfl⟩ := Int.eq_ofNat_of_zero_le hx.1
  obtain ⟨p, rfl⟩ := Int.eq_ofNat_of_zero_le hy.1
  obtain ⟨h1, h2, h3, h4, h5⟩ := hz
  obtain ⟨gs, g1, g2⟩ := pairs_is n zs h1
  rw [g2] at h2
  exact calls_law fun K Z hk => seeks_vc (by omega) (by omega) h2 g1.symm h4 hk
end Go.Proofs.YtgaopcbjhepklaaGreat
