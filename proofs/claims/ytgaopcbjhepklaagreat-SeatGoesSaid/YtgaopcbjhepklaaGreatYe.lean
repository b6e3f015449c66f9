/- Rules for walks in a context with an anchor: rows of numbers. -/
import Derived.Test.YtgaopcbjhepklaaGreatPlA
import Derived.Test.YtgaopcbjhepklaaGreatEl
import Derived.Test.YtgaopcbjhepklaaGreatYd
namespace Go.Proofs.YtgaopcbjhepklaaGreat
open Go.RowKit
set_option linter.unusedSimpArgs false
set_option linter.unusedVariables false
set_option maxRecDepth 100000
section
variable {wA w0 : World} {X : Nat → Prop} {M M' : EL}
/-- append numbers onto a row of one's own -/
theorem appI {A : Option Addr} {n cap : Nat} {xs : List Int} {x : Value} {m : Nat} {news : List Value} (ys : List Int) (hs : SrcA Tryz.prog wA w0 X M 1 23 x m news) (hy : news = is ys) {i : Nat} (hu : AtE M i (.slice A n cap) (.row 3 1 (is xs))) (hk : n + m ≤ 1000000000) {ty : TypeId} {K : Value → Ctx → Prop}
    (h : ∀ A' cap', n + m ≤ cap' → (0 < cap' → ∃ b, A' = some ⟨b, 0, none⟩) → setK M i (.slice A' (n + m) cap', .row 3 1 (is (xs ++ ys))) fun M' => K (.slice A' (n + m) cap') (CtxA wA w0 X M')) : SemVC Tryz.prog (CtxA wA w0 X M) (Builtin.append_ #[23, 23] ty #[.slice A n cap, x]) K := by
  subst hy
  exact appA el23 hs hu hk (fun A' cap' => by rw [← is_append]; exact h A' cap')
/-- append numbers onto a slice without room -/
theorem app0I {A : Option Addr} {x : Value} {m : Nat} {news : List Value} (ys : List Int) (hs : SrcA Tryz.prog wA w0 X M 1 23 x m news) (hy : news = is ys) (hk : m ≤ 1000000000) {ty : TypeId} {K : Value → Ctx → Prop}
    (h : ∀ A' cap', m ≤ cap' → (0 < cap' → ∃ b, A' = some ⟨b, 0, none⟩) → K (.slice A' m cap') (CtxA wA w0 X ((.slice A' m cap', .row 3 1 (is ys)) :: M))) : SemVC Tryz.prog (CtxA wA w0 X M) (Builtin.append_ #[23, 23] ty #[.slice A 0 0, x]) K := by
  subst hy
  exact app0 el23 hs hk h
/-- a part of a row of numbers of one's own -/
theorem srcI {b n cap : Nat} {xs : List Int} (hm : (Value.slice (some ⟨b, 0, none⟩) n cap, DA.row 3 1 (is xs)) ∈ M) (off m c : Nat) (hl : off + m ≤ xs.length) : SrcA Tryz.prog wA w0 X M 1 23 (.slice (some ⟨b, off, none⟩) m c) m (is ((xs.drop off).take m)) :=
  SrcA.part el23 hm off m c _ (by simp; omega) (fun j u hu => by
    rw [is_take, is_drop] at hu
    have hj := (List.getElem?_eq_some_iff.1 hu).1
    rw [List.getElem?_take, if_pos (by simp at hj; omega), List.getElem?_drop] at hu
    exact hu) (is_one _)
theorem wrapI {x : Int} (h : -9223372036854775808 ≤ x ∧ x ≤ 9223372036854775807) : IntKind.i64.wrap x = x := by
  simp [IntKind.wrap, IntKind.bits, IntKind.signed]
  omega
/-- less of a row is known -/
theorem Imp.shrink {A : Option Addr} {n cap : Nat} {t : TypeId} {sz : Nat} {l : List Value} {i : Nat} (h : AtE M i (.slice A n cap) (.row t sz l)) (n' : Nat) (hn : n' ≤ n) : Imp M (setE M i (.slice A n' cap, .row t sz (l.take (n' * sz)))) := by
  have hb : blkV (.slice A n' cap) = blkV (.slice A n cap) := by cases A <;> rfl
  have hu := h.upd (.slice A n' cap) (.row t sz (l.take (n' * sz)))
  refine ⟨fun wA w0 X w hw => ?_, fun k hk => ?_⟩
  have hd : DA.ok (.row t sz (l.take (n' * sz))) (.slice A n' cap) w := by
    obtain ⟨A', n1, cap', he, h1, h2, h3, h4⟩ := hw.new _ h.mem
    injection he with he1 he2 he3
    subst he1 he2 he3
    have hm : n' * sz ≤ n * sz := Nat.mul_le_mul_right _ hn
    refine ⟨A, n', cap, rfl, by simp; omega, by omega, h3, ?_⟩
    rcases h4 with h4 | ⟨b, rfl, h5, cur, h6, h7, h8⟩
    · exact .inl h4
    · refine .inr ⟨b, rfl, h5, cur, h6, h7, ?_⟩
      rw [← h8, List.take_take, Nat.min_eq_left hm]
  exact (goesA hw hu rfl rfl rfl (Nat.le_refl _) (fun _ _ _ => rfl) hd (fun b h => .inl (by rw [← hb]; exact h))).2
  obtain ⟨e, he, hbk⟩ := List.mem_filterMap.1 hk
  rcases hu.mem' e he with rfl | he
  · exact memK h.mem (hb ▸ hbk)
  · exact memK he hbk
theorem cutHi {A : Option Addr} {n c sz : Nat} {h : Int} {K : Value → Prop} (h0 : 0 ≤ h) (h1 : h ≤ c) (hk : K (.slice A h.toNat c)) : CutVC A n c sz none (some h) K := by
  refine ⟨by simp, by simpa using h0, by simpa using h1, ?_⟩
  have e : (if c = ((none : Option Int).getD 0).toNat then A else A.map (·.add (((none : Option Int).getD 0).toNat * sz))) = A := by
    split
    · rfl
    · cases A with
      | none => rfl
      | some a => simp [Addr.add]
  rw [e]
  simpa using hk
theorem cutLo {A : Option Addr} {n c sz : Nat} {l : Int} {K : Value → Prop} (h0 : 0 ≤ l) (h1 : l ≤ n) (hk : K (.slice (if c = l.toNat then A else A.map (·.add (l.toNat * sz))) (n - l.toNat) (c - l.toNat))) : CutVC A n c sz (some l) none K :=
  ⟨by simpa using h0, by simpa using h1, by simp, by simpa using hk⟩
/-- a row's end is appended -/
theorem srcTail {A : Option Addr} {n cap : Nat} {xs : List Int} (hm : (Value.slice A n cap, DA.row 3 1 (is xs)) ∈ M) (hA : 0 < cap → ∃ b, A = some ⟨b, 0, none⟩) (hx : n = xs.length) (hc : n ≤ cap) (left m c : Nat) (hl : left + m = n) : SrcA Tryz.prog wA w0 X M 1 23 (.slice (if cap = left then A else A.map (·.add (left * 1))) m c) m (is (xs.drop left)) := by
  by_cases h0 : m = 0
  · have : xs.drop left = [] := by simp; omega
    rw [this, h0]
    exact SrcA.zero el23 _ _
  · obtain ⟨b, rfl⟩ := hA (by omega)
    have : ¬ cap = left := by omega
    rw [if_neg this]
    have := srcI (wA := wA) (w0 := w0) (X := X) hm left m c (by omega)
    have e : (xs.drop left).take m = xs.drop left := List.take_of_length_le (by simp; omega)
    rw [e] at this
    simpa [Addr.add_lit] using this
/-- an element of a row -/
theorem idxA {A : Option Addr} {n cap : Nat} {i : Int} {sz : Nat} {K : Value → Prop} (hA : 0 < cap → ∃ b, A = some ⟨b, 0, none⟩) (hc : n ≤ cap) (h0 : 0 ≤ i) (h1 : i < n) (hk : ∀ b, A = some ⟨b, 0, none⟩ → K (.pointer (some ⟨b, i.toNat * sz, none⟩))) : IdxVC A n i sz K := by
  obtain ⟨b, hb⟩ := hA (by omega)
  refine ⟨⟨b, 0, none⟩, hb, h0, h1, ?_⟩
  rw [Addr.add_lit, Nat.zero_add]
  exact hk b hb
theorem Imp.shrinkI {A : Option Addr} {n cap : Nat} {xs : List Int} {i : Nat} (h : AtE M i (.slice A n cap) (.row 3 1 (is xs))) (n' : Nat) (hn : n' ≤ n) : Imp M (setE M i (.slice A n' cap, .row 3 1 (is (xs.take n')))) := by
  have := Imp.shrink h n' hn
  rw [Nat.mul_one, ← is_take] at this
  exact this
theorem cutLoN {A : Option Addr} {n c sz : Nat} {x : Int} (l m : Nat) (e : x = (l : Int)) (hm : l + m = n) {K : Value → Prop} (hk : K (.slice (if c = l then A else A.map (·.add (l * sz))) m (c - l))) : CutVC A n c sz (some x) none K := by
  subst e
  refine cutLo (by omega) (by omega) ?_
  simp only [Int.toNat_natCast]
  rw [show n - l = m by omega]
  exact hk
theorem cutHiN {A : Option Addr} {n c sz : Nat} {x : Int} (l : Nat) (e : x = (l : Int)) (h : l ≤ c) {K : Value → Prop} (hk : K (.slice A l c)) : CutVC A n c sz none (some x) K := by
  subst e
  refine cutHi (by omega) (by omega) ?_
  simpa using hk
theorem mask_i64 (a : Int) (n : Nat) (hn : n ≤ 62) : IntKind.i64.wrap (((BitVec.ofInt 64 a &&& BitVec.ofInt 64 ((2 ^ n - 1 : Nat) : Int)).toNat : Nat) : Int) = a % ((2 ^ n : Nat) : Int) := by
  have h1 : (2 ^ n : Nat) ≤ 2 ^ 62 := Nat.pow_le_pow_right (by omega) hn
  have h2 : 0 < (2 ^ n : Nat) := Nat.two_pow_pos n
  have e2 : (BitVec.ofInt 64 ((2 ^ n - 1 : Nat) : Int)).toNat = 2 ^ n - 1 := by
    rw [BitVec.ofInt_natCast, BitVec.toNat_ofNat]
    exact Nat.mod_eq_of_lt (by omega)
  rw [BitVec.toNat_and, e2, Nat.and_two_pow_sub_one_eq_mod, BitVec.toNat_ofInt]
  have hdvd : ((2 ^ n : Nat) : Int) ∣ ((2 ^ 64 : Nat) : Int) := by
    have : (2 ^ n : Nat) ∣ 2 ^ 64 := Nat.pow_dvd_pow 2 (by omega)
    exact Int.natCast_dvd_natCast.2 this
  have e3 : (((a % ((2 ^ 64 : Nat) : Int)).toNat % 2 ^ n : Nat) : Int) = a % ((2 ^ n : Nat) : Int) := by
    rw [Int.natCast_emod, Int.toNat_of_nonneg (Int.emod_nonneg _ (by decide)), Int.emod_emod_of_dvd _ hdvd]
  rw [e3]
  have h3 := Int.emod_nonneg a (b := ((2 ^ n : Nat) : Int)) (by omega)
  have h4 := Int.emod_lt_of_pos a (b := ((2 ^ n : Nat) : Int)) (by omega)
  exact wrapI (by omega)
/-- a number's last bits -/
theorem andA {P : Program} {C : Ctx} {t : TypeId} {a b : Int} (n : Nat) (hn : Nat.ble n 62 = true) (hb : b = ((2 ^ n - 1 : Nat) : Int)) {K : Value → Ctx → Prop} (h : K (.int .i64 (a % ((2 ^ n : Nat) : Int))) C) : SemVC P C (binOp .and t (.int .i64 a) (.int .i64 b)) K := by
  subst hb
  refine semA (fun w => ?_) h
  have := mask_i64 a n (Nat.le_of_ble_eq_true hn)
  simp only [binOp, Op.intBits, ne_eq, not_true_eq_false, if_false]
  show (pure (.int .i64 (IntKind.i64.wrap (((BitVec.ofInt 64 a &&& BitVec.ofInt 64 ((2 ^ n - 1 : Nat) : Int)).toNat : Nat) : Int))) : Sem Value).run P w = _
  rw [this]
  rfl
theorem and32 {P : Program} {C : Ctx} {t : TypeId} {a : Int} {K : Value → Ctx → Prop} (h : K (.int .i64 (a % 4294967296)) C) : SemVC P C (binOp .and t (.int .i64 a) (.int .i64 4294967295)) K := andA 32 rfl (by decide) h
theorem and16 {P : Program} {C : Ctx} {t : TypeId} {a : Int} {K : Value → Ctx → Prop} (h : K (.int .i64 (a % 65536)) C) : SemVC P C (binOp .and t (.int .i64 a) (.int .i64 65535)) K := andA 16 rfl (by decide) h
theorem isAt {xs : List Int} (j : Nat) (h : j < xs.length) : (is xs)[j]? = some (.int .i64 (xs.getD j 0)) := by
  simp [is, h, List.getD]
theorem putAt_is {xs : List Int} (j : Nat) (x : Int) (h : j < xs.length) : putAt (is xs) j [.int .i64 x] = is (xs.set j x) := by
  rw [putAt_cons, putAt_nil]
  simp [is, List.map_set]
/-- an element of a row of single cells -/
theorem idxI {A : Option Addr} {n cap : Nat} {i : Int} {K : Value → Prop} (hA : 0 < cap → ∃ b, A = some ⟨b, 0, none⟩) (hc : n ≤ cap) (h0 : 0 ≤ i) (h1 : i < n) (hk : ∀ b, A = some ⟨b, 0, none⟩ → K (.pointer (some ⟨b, i.toNat, none⟩))) : IdxVC A n i 1 K :=
  idxA hA hc h0 h1 fun b hb => by rw [Nat.mul_one]; exact hk b hb
/-- a number of a row is loaded, or stored -/
theorem ldRI {A : Option Addr} {b n cap : Nat} {xs : List Int} {off : Nat} (j : Nat) (hb : A = some ⟨b, 0, none⟩) (hm : (Value.slice A n cap, DA.row 3 1 (is xs)) ∈ M) (ho : off = j) (hj : j < xs.length) {K : Value → Ctx → Prop} (h : K (.int .i64 (xs.getD j 0)) (CtxA wA w0 X M)) : SemVC Tryz.prog (CtxA wA w0 X M) (Instr.loadAt 3 (.pointer (some ⟨b, off, none⟩))) K := by
  subst hb ho
  exact ldR hm (tab_ok _ _ (by rfl)) (by rfl) (isAt off hj) h
theorem stRI {A : Option Addr} {b n cap : Nat} {xs : List Int} {off : Nat} {x : Int} (j : Nat) {i : Nat} (hb : A = some ⟨b, 0, none⟩) (hu : AtE M i (Value.slice A n cap) (.row 3 1 (is xs))) (ho : off = j) (hj : j < xs.length) {K : Ctx → Prop} (h : setK M i (Value.slice A n cap, .row 3 1 (is (xs.set j x))) fun M' => K (CtxA wA w0 X M')) : StoVC Tryz.prog (CtxA wA w0 X M) (Instr.storeAt 3 (.pointer (some ⟨b, off, none⟩)) (.int .i64 x)) K := by
  subst hb ho
  exact stR (tab_ok _ _ (by rfl)) _ hu (by rfl) (by simp [Value.cells]; omega) (by simp [Value.cells]) (by rfl) (putAt_is off x hj) h
theorem idxO {A : Option Addr} {n : Nat} {i : Int} {sz : Nat} {K : Value → Prop} (b o : Nat) (hA : A = some ⟨b, o, none⟩) (h0 : 0 ≤ i) (h1 : i < n) (hk : K (.pointer (some ⟨b, o + i.toNat * sz, none⟩))) : IdxVC A n i sz K :=
  ⟨⟨b, o, none⟩, hA, h0, h1, by rw [Addr.add_lit]; exact hk⟩
theorem Imp.sink3 {x a b c g : Value × DA} {l : EL} : Imp (x :: a :: b :: c :: g :: l) (a :: b :: c :: x :: l) :=
  Imp.trans (Imp.perm (List.perm_middle (l₁ := [a, b, c]) (a := x) (l₂ := g :: l)).symm) (Imp.sub (.cons_cons _ (.cons_cons _ (.cons_cons _ (.cons_cons _ (.cons _ (.refl _)))))))
end
end Go.Proofs.YtgaopcbjhepklaaGreat
