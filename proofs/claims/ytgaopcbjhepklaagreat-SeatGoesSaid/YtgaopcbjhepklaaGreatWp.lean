/- Regions that draw their order: a cheaper check of a plan. -/
import Derived.Test.YtgaopcbjhepklaaGreatWl
namespace Go.Proofs.YtgaopcbjhepklaaGreat
open Go.RowKit
set_option linter.unusedSimpArgs false
set_option linter.unusedVariables false
/-- of an operation what the check asks for -/
structure PO where
  dst : Option Nat
  looks : List Nat
  after : List Nat
  load : Bool
  sto : Bool
def isStore : Op → Bool
  | .store .. => true
  | _ => false
def poOf (ops : Array Oper) (o : Oper) : PO := ⟨o.dst, o.looksAt ops, (o.after.toList.filter (Region.binds .any)).map (·.on), isLoad o.op, isStore o.op⟩
def memB (d : Nat) : List Nat → Bool
  | [] => false
  | x :: l => bif Nat.beq x d then true else memB d l
theorem memB_iff {d : Nat} : ∀ {l : List Nat}, memB d l = true ↔ d ∈ l
  | [] => by simp [memB]
  | x :: l => by
    simp only [memB, List.mem_cons]
    cases e : Nat.beq x d with
    | true => simp [(Nat.eq_of_beq_eq_true e).symm]
    | false =>
      have : d ≠ x := fun e' => by rw [e', Nat.beq_refl] at e; cases e
      simp [this, memB_iff]
def bitB (m j : Nat) : Bool := Nat.beq (Nat.land (Nat.shiftRight m j) 1) 1
theorem bitB_eq (m j : Nat) : bitB m j = m.testBit j := by
  have h : (m >>> j) &&& 1 = (m >>> j) % 2 := Nat.and_one_is_mod _
  have h2 : m.testBit j = decide ((m >>> j) % 2 = 1) := by
    simp only [Nat.testBit, Nat.one_and_eq_mod_two]
    rcases Nat.mod_two_eq_zero_or_one (m >>> j) with e | e <;> simp [e]
  rw [h2]
  show Nat.beq ((m >>> j) &&& 1) 1 = _
  rw [h]
  rcases Nat.mod_two_eq_zero_or_one (m >>> j) with e | e <;> rw [e] <;> rfl
def setB (m i : Nat) : Nat := Nat.lor m (Nat.shiftLeft 1 i)
theorem bitB_set (m i j : Nat) : bitB (setB m i) j = (bitB m j || decide (j = i)) := by
  rw [bitB_eq, bitB_eq]
  show (m ||| 1 <<< i).testBit j = _
  rw [Nat.testBit_or, Nat.testBit_shiftLeft]
  congr 1
  by_cases h : j = i
  · subst h; simp
  · by_cases h2 : i ≤ j
    · have h3 : Nat.testBit 1 (j - i) = false := by
        have : j - i = (j - i - 1) + 1 := by omega
        rw [this, Nat.testBit_succ]; simp
      simp [h, h3]
    · simp [h, h2]
def optB : Option Nat → Nat → Bool
  | none, _ => false
  | some x, d => Nat.beq x d
def apartF (x y : PO) : Bool :=
  (match x.dst with | some d => !memB d y.looks && !optB y.dst d | none => true) && (match y.dst with | some d => !memB d x.looks | none => true)
def freeF (m i : Nat) (o : PO) : Nat → List PO → Bool
  | _, [] => true
  | j, x :: xs => (Nat.beq j i || (bitB m j || (memB i x.after || (apartF o x && (!o.load || !x.sto))))) && freeF m i o (Nat.succ j) xs
def allF (m : Nat) : List Nat → Bool
  | [] => true
  | e :: l => bitB m e && allF m l
def waitF (m i : Nat) : Nat → List PO → Bool
  | _, [] => true
  | j, x :: xs => (Nat.beq j i || (bitB m j || !allF m x.after)) && waitF m i (Nat.succ j) xs
def getF : Nat → List PO → Option PO
  | _, [] => none
  | 0, x :: _ => some x
  | n + 1, _ :: l => getF n l
def fastOk (n : Nat) (L : List PO) : Nat → Plan → Bool
  | m, .done => Nat.beq m (Nat.sub (Nat.pow 2 n) 1)
  | m, .pure i _ next => (match getF i L with
    | some o => !bitB m i && (allF m o.after && freeF m i o 0 L)
    | none => false) && fastOk n L (setB m i) next
  | m, .alt i next .stop => (match getF i L with
    | some o => !bitB m i && (allF m o.after && waitF m i 0 L)
    | none => false) && fastOk n L (setB m i) next
  | _, _ => false
theorem getF_eq : ∀ (l : List PO) (n : Nat), getF n l = l[n]?
  | [], n => by cases n <;> simp [getF]
  | x :: l, 0 => by simp [getF]
  | x :: l, n + 1 => by simp [getF, getF_eq l n]
theorem allF_iff {m : Nat} : ∀ {l : List Nat}, allF m l = true ↔ ∀ e ∈ l, bitB m e = true
  | [] => by simp [allF]
  | e :: l => by simp [allF, allF_iff]
theorem freeF_at {m i : Nat} {o : PO} : ∀ {l : List PO} {j0 j : Nat} {x : PO}, freeF m i o j0 l = true → l[j]? = some x → (Nat.beq (j0 + j) i || (bitB m (j0 + j) || (memB i x.after || (apartF o x && (!o.load || !x.sto))))) = true
  | [], _, _, _, _, h => by simp at h
  | y :: l, j0, 0, x, h1, h2 => by
    simp only [freeF, Bool.and_eq_true] at h1
    simp at h2; subst h2
    exact h1.1
  | y :: l, j0, j + 1, x, h1, h2 => by
    simp only [freeF, Bool.and_eq_true] at h1
    have := freeF_at (j := j) h1.2 (by simpa using h2)
    rw [show j0 + (j + 1) = Nat.succ j0 + j from by omega]
    exact this
theorem waitF_at {m i : Nat} : ∀ {l : List PO} {j0 j : Nat} {x : PO}, waitF m i j0 l = true → l[j]? = some x → (Nat.beq (j0 + j) i || (bitB m (j0 + j) || !allF m x.after)) = true
  | [], _, _, _, _, h => by simp at h
  | y :: l, j0, 0, x, h1, h2 => by
    simp only [waitF, Bool.and_eq_true] at h1
    simp at h2; subst h2
    exact h1.1
  | y :: l, j0, j + 1, x, h1, h2 => by
    simp only [waitF, Bool.and_eq_true] at h1
    have := waitF_at (j := j) h1.2 (by simpa using h2)
    rw [show j0 + (j + 1) = Nat.succ j0 + j from by omega]
    exact this
section
variable {ops : List Oper}
/-- what is listed, as bits -/
structure Msk (ops : List Oper) (m : Nat) (listed : Array Bool) : Prop where
  size : listed.size = ops.length
  bit : ∀ j, j < ops.length → listed.getD j true = bitB m j
  out : ∀ j, ops.length ≤ j → bitB m j = false
theorem Msk.set {m i : Nat} {listed : Array Bool} (h : Msk ops m listed) (hi : i < ops.length) : Msk ops (setB m i) (listed.setIfInBounds i true) := by
  refine ⟨by simpa using h.size, fun j hj => ?_, fun j hj => ?_⟩
  · rw [bitB_set]
    by_cases e : j = i
    · subst e
      have : j < listed.size := by rw [h.size]; exact hj
      simp [Array.getElem?_setIfInBounds, this]
    · rw [getD_set_ne true (Ne.symm e), h.bit j hj]
      simp [e]
  · rw [bitB_set, h.out j hj]
    simp; omega
theorem Msk.getF {m j : Nat} {listed : Array Bool} (h : Msk ops m listed) (d : Bool) (hj : j < ops.length) : listed.getD j d = bitB m j := by
  rw [← h.bit j hj]
  have : j < listed.size := by rw [h.size]; exact hj
  simp [this]
theorem Msk.of {m j : Nat} {listed : Array Bool} (h : Msk ops m listed) (hb : bitB m j = true) : listed.getD j false = true := by
  by_cases hj : j < ops.length
  · rw [h.getF false hj]; exact hb
  · rw [h.out j (by omega)] at hb; cases hb
theorem Msk.to {m j : Nat} {listed : Array Bool} (h : Msk ops m listed) (hb : listed.getD j false = true) : bitB m j = true := by
  by_cases hj : j < ops.length
  · rw [h.getF false hj] at hb; exact hb
  · have : listed.size ≤ j := by rw [h.size]; omega
    simp [Array.getElem?_eq_none this] at hb
theorem po_after {a : Array Oper} {o : Oper} {e : Nat} : e ∈ (poOf a o).after ↔ ∃ x ∈ o.after, Region.binds .any x = true ∧ x.on = e := by
  simp only [poOf, List.mem_map, List.mem_filter, Array.mem_toList_iff]
  constructor
  · rintro ⟨x, ⟨h1, h2⟩, h3⟩; exact ⟨x, h1, h2, h3⟩
  · rintro ⟨x, h1, h2, h3⟩; exact ⟨x, ⟨h1, h2⟩, h3⟩
theorem apartF_ok {a : Array Oper} {x y : Oper} (h : apartF (poOf a x) (poOf a y) = true) : x.apart a y = true := by
  have hm : ∀ (d : Nat) (l : List Nat), (!memB d l) = !l.contains d := fun d l => by
    have h1 : memB d l = l.contains d := by rw [Bool.eq_iff_iff, memB_iff]; simp
    rw [h1]
  simp only [apartF, poOf, Bool.and_eq_true] at h
  simp only [Oper.apart, Bool.and_eq_true]
  refine ⟨?_, ?_⟩
  · cases hd : x.dst with
    | none => rfl
    | some d =>
      have h1 := h.1
      rw [hd] at h1
      simp only [Bool.and_eq_true] at h1
      have h2 := h1.1
      rw [hm] at h2
      simp only [h2, Bool.true_and]
      cases hy : y.dst with
      | none => simp
      | some d' =>
        have h3 := h1.2
        rw [hy] at h3
        simp only [optB, Bool.not_eq_true'] at h3
        have : d' ≠ d := fun e => by rw [e, Nat.beq_refl] at h3; cases h3
        simpa using this
  · cases hd : y.dst with
    | none => rfl
    | some d =>
      have h1 := h.2
      rw [hd] at h1
      simp only at h1
      rw [hm] at h1
      exact h1
theorem fast_ok (L : List PO) (hL : L = ops.map (poOf ops.toArray)) : ∀ (π : Plan) (m : Nat) (listed : Array Bool), Msk ops m listed → fastOk ops.length L m π = true → planOk ops true listed π = true := by
  have hget : ∀ {i : Nat} {p : PO}, getF i L = some p → ∃ o, ops.toArray[i]? = some o ∧ p = poOf ops.toArray o ∧ i < ops.length := fun {i p} h => by
    rw [getF_eq, hL, List.getElem?_map] at h
    cases e : ops[i]? with
    | none => rw [e] at h; simp at h
    | some o =>
      rw [e] at h
      simp at h
      exact ⟨o, by simpa using e, h.symm, (List.getElem?_eq_some_iff.1 e).1⟩
  have hready : ∀ {i m : Nat} {listed : Array Bool} {o : Oper}, Msk ops m listed → ops.toArray[i]? = some o → i < ops.length → (!bitB m i) = true → allF m (poOf ops.toArray o).after = true → i ∈ rdy ops listed := fun {i m listed o} hM ho hi h1 h2 => by
    refine mem_ready.2 ⟨?_, o, ho, fun e he hb => hM.of (allF_iff.1 h2 _ (po_after.2 ⟨e, he, hb, rfl⟩))⟩
    rw [hM.bit i hi]
    simpa using h1
  intro π
  induction π with
  | done =>
    intro m listed hM h
    simp only [fastOk] at h
    have hm := Nat.eq_of_beq_eq_true h
    have : rdy ops listed = [] := by
      refine List.eq_nil_iff_forall_not_mem.2 fun j hj => ?_
      obtain ⟨h1, o, ho, _⟩ := mem_ready.1 hj
      have hj : j < ops.length := by simpa using (Array.getElem?_eq_some_iff.1 ho).1
      rw [hM.bit j hj, bitB_eq, hm] at h1
      have h2 : (2 ^ ops.length - 1).testBit j = true := by rw [Nat.testBit_two_pow_sub_one]; simpa using hj
      rw [show Nat.sub (Nat.pow 2 ops.length) 1 = 2 ^ ops.length - 1 from rfl, h2] at h1
      cases h1
    simp [planOk, this]
  | stop => intro m listed hM h; simp [fastOk] at h
  | pure i late next ih =>
    intro m listed hM h
    simp only [fastOk, Bool.and_eq_true] at h
    obtain ⟨h1, h2⟩ := h
    split at h1
    · rename_i p hp
      obtain ⟨o, ho, rfl, hi⟩ := hget hp
      simp only [Bool.and_eq_true] at h1
      obtain ⟨h3, h4, h5⟩ := h1
      simp only [planOk, Bool.true_and, ho, Bool.and_eq_true]
      refine ⟨⟨?_, ?_⟩, ih _ _ (hM.set hi) h2⟩
      · have := hready hM ho hi h3 h4
        simpa using this
      · unfold freeB
        rw [List.all_eq_true]
        intro j hj
        rw [List.mem_range] at hj
        obtain ⟨oj, hoj⟩ : ∃ oj, ops.toArray[j]? = some oj := ⟨ops[j], by simp [hj]⟩
        rw [hoj]
        have hx : L[j]? = some (poOf ops.toArray oj) := by
          rw [hL, List.getElem?_map]
          have : ops[j]? = some oj := by simpa using hoj
          rw [this]; rfl
        have h6 := freeF_at h5 hx
        rw [Nat.zero_add] at h6
        simp only [Bool.or_eq_true] at h6
        rcases h6 with h6 | h6 | h6 | h6
        · have := Nat.eq_of_beq_eq_true h6
          simp [this]
        · have := hM.bit j hj
          simp only [h6] at this
          simp only [this, Bool.or_true, Bool.true_or]
        · obtain ⟨e, he, hb, hon⟩ := po_after.1 (memB_iff.1 h6)
          have : oj.after.any (fun e => Region.binds .any e && e.on == i) = true := by
            rw [← Array.any_toList, List.any_eq_true]
            exact ⟨e, by simpa using he, by simp [hb, hon]⟩
          simp only [this, Bool.or_true, Bool.true_or]
        · simp only [Bool.and_eq_true] at h6
          have hap := apartF_ok h6.1
          have h7 := h6.2
          simp only [poOf] at h7
          have : (match oj.op with
            | .store _ x _ => !isLoad o.op || (match x with
              | .tmp t => late.contains t && noWrite ops listed t
              | _ => false)
            | _ => true) = true := by
            split
            · rename_i hs
              rw [hs] at h7
              simp only [isStore, Bool.not_true, Bool.or_false] at h7
              simp only [h7, Bool.true_or]
            · rfl
          show (_ || (Oper.apart ops.toArray o oj && _)) = true
          rw [hap, Bool.true_and, Bool.or_eq_true]
          exact .inr this
    · cases h1
  | alt i next more ih ihm =>
    intro m listed hM h
    cases more with
    | stop =>
      simp only [fastOk, Bool.and_eq_true] at h
      obtain ⟨h1, h2⟩ := h
      split at h1
      · rename_i p hp
        obtain ⟨o, ho, rfl, hi⟩ := hget hp
        simp only [Bool.and_eq_true] at h1
        obtain ⟨h3, h4, h5⟩ := h1
        have hr := hready hM ho hi h3 h4
        have hrd : rdy ops listed = [i] := by
          have hall : ∀ j ∈ rdy ops listed, j = i := fun j hj => by
            obtain ⟨h6, oj, hoj, h7⟩ := mem_ready.1 hj
            have hjl : j < ops.length := by simpa using (Array.getElem?_eq_some_iff.1 hoj).1
            have hx : L[j]? = some (poOf ops.toArray oj) := by
              rw [hL, List.getElem?_map]
              have : ops[j]? = some oj := by simpa using hoj
              rw [this]; rfl
            have h8 := waitF_at h5 hx
            rw [Nat.zero_add] at h8
            simp only [Bool.or_eq_true] at h8
            rcases h8 with h8 | h8 | h8
            · exact Nat.eq_of_beq_eq_true h8
            · rw [hM.bit j hjl, h8] at h6; cases h6
            · have : allF m (poOf ops.toArray oj).after = true := allF_iff.2 fun e he => by
                obtain ⟨x, hx1, hx2, hx3⟩ := po_after.1 he
                rw [← hx3]
                exact hM.to (h7 x hx1 hx2)
              rw [this] at h8
              cases h8
          have hnd : (rdy ops listed).Nodup := (List.nodup_range).filter _
          match hq : rdy ops listed, hr, hall, hnd with
          | [a], _, hall, _ => rw [hall a (by simp)]
          | a :: b :: l, _, hall, hnd =>
            have h1 := hall a (by simp)
            have h2 := hall b (by simp)
            subst h1
            simp at hnd
            exact absurd h2.symm hnd.1.1
        simp only [planOk, heads, hrd, Bool.and_eq_true]
        exact ⟨⟨by simp, ih _ _ (hM.set hi) h2⟩, by rfl⟩
      · cases h1
    | _ => simp [fastOk] at h
theorem Msk.zero : Msk ops 0 (Array.replicate ops.length false) := ⟨by simp, fun j hj => by rw [bitB_eq]; simp [hj], fun j _ => by rw [bitB_eq]; simp⟩
def eqN : List Nat → List Nat → Bool
  | [], [] => true
  | x :: l, y :: l' => bif Nat.beq x y then eqN l l' else false
  | _, _ => false
theorem eqN_ok : ∀ {l l' : List Nat}, eqN l l' = true → l = l'
  | [], [], _ => rfl
  | x :: l, y :: l', h => by
    simp only [eqN] at h
    cases e : Nat.beq x y with
    | true => rw [e] at h; rw [Nat.eq_of_beq_eq_true e, eqN_ok h]
    | false => rw [e] at h; cases h
  | [], _ :: _, h => by simp [eqN] at h
  | _ :: _, [], h => by simp [eqN] at h
def eqO : Option Nat → Option Nat → Bool
  | none, none => true
  | some x, some y => Nat.beq x y
  | _, _ => false
theorem eqO_ok : ∀ {a b : Option Nat}, eqO a b = true → a = b
  | none, none, _ => rfl
  | some x, some y, h => by rw [Nat.eq_of_beq_eq_true h]
  | none, some _, h => by simp [eqO] at h
  | some _, none, h => by simp [eqO] at h
def eqB : Bool → Bool → Bool
  | true, true => true
  | false, false => true
  | _, _ => false
theorem eqB_ok : ∀ {a b : Bool}, eqB a b = true → a = b := by decide
def eqP : List PO → List PO → Bool
  | [], [] => true
  | x :: l, y :: l' => (eqO x.dst y.dst && (eqN x.looks y.looks && (eqN x.after y.after && (eqB x.load y.load && eqB x.sto y.sto)))) && eqP l l'
  | _, _ => false
theorem eqP_ok : ∀ {l l' : List PO}, eqP l l' = true → l = l'
  | [], [], _ => rfl
  | x :: l, y :: l', h => by
    simp only [eqP, Bool.and_eq_true] at h
    obtain ⟨⟨h1, h2, h3, h4, h5⟩, h6⟩ := h
    cases x; cases y
    have e1 := eqO_ok h1; have e2 := eqN_ok h2; have e3 := eqN_ok h3; have e4 := eqB_ok h4; have e5 := eqB_ok h5
    simp only at e1 e2 e3 e4 e5
    subst e1 e2 e3 e4 e5
    rw [eqP_ok h6]
  | [], _ :: _, h => by simp [eqP] at h
  | _ :: _, [], h => by simp [eqP] at h
/-- the check of a region, with what is asked of its operations written out -/
def drawsF (D : Nat → Plan) (F : Nat → List PO) : Code → Bool
  | .region id ops true => bif (F id).isEmpty then planOk ops.toList true (Array.replicate ops.size false) (D id) && Nat.ble (deep (D id)) ops.size else eqP (F id) (ops.toList.map (poOf ops)) && (fastOk ops.toList.length (F id) 0 (D id) && Nat.ble (deep (D id)) ops.size)
  | .seq x y => drawsF D F x && drawsF D F y
  | .cond _ x y => drawsF D F x && drawsF D F y
  | .block _ c => drawsF D F c
  | .loop c => drawsF D F c
  | _ => true
theorem drawsF_ok {D : Nat → Plan} {F : Nat → List PO} : ∀ (c : Code), drawsF D F c = true → drawsB D c = true := by
  intro c
  induction c with
  | region id ops draw =>
    cases draw with
    | false => intro _; rfl
    | true =>
      intro h
      simp only [drawsF] at h
      cases hF : F id with
      | nil => rw [hF] at h; exact h
      | cons p L =>
        rw [hF] at h
        simp only [List.isEmpty_cons, cond_false, Bool.and_eq_true] at h
        obtain ⟨hw, h1, h2⟩ := h
        simp only [drawsB, Bool.and_eq_true]
        refine ⟨?_, h2⟩
        have := fast_ok (ops := ops.toList) (p :: L) (by simpa using eqP_ok hw) (D id) 0 (Array.replicate ops.toList.length false) Msk.zero h1
        simpa using this
  | seq x y ihx ihy => intro h; simp only [drawsF, drawsB, Bool.and_eq_true] at *; exact ⟨ihx h.1, ihy h.2⟩
  | cond c x y ihx ihy => intro h; simp only [drawsF, drawsB, Bool.and_eq_true] at *; exact ⟨ihx h.1, ihy h.2⟩
  | block id c ih => exact fun h => ih h
  | loop c ih => exact fun h => ih h
  | _ => exact fun _ => rfl
end
end Go.Proofs.YtgaopcbjhepklaaGreat
