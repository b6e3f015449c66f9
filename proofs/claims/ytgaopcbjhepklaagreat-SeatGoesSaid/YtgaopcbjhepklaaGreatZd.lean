/- A frame that goes on: its instructions (2); printed by genza.py. -/
import Derived.Test.YtgaopcbjhepklaaGreatZb
namespace Go.Proofs.YtgaopcbjhepklaaGreat
open Go.RowKit
set_option linter.unusedSimpArgs false
set_option linter.unusedVariables false
set_option maxRecDepth 100000
section
variable {wA w0 : World} {X : Nat → Prop} {M : EL} {K : Value → Ctx → Prop} {Z : PanK} {k : MK} {v : MV} {bm : Nat}
set_option maxHeartbeats 4000000 in
theorem set_vc (hm : MOk k v) (op a b c : Int)
    (h10 : 0 ≤ a → a < v.nl → awaits k.kids a = true → K (.tuple #[]) (CtxA wA w0 X (ent k v { q0 with kind := 5 } bm M)))
    (h11 : 0 ≤ a → a < v.nl → awaits k.kids a = false → 1 ≤ v.ns → K (.tuple #[]) (CtxA wA w0 X (ent k { v with ns := v.ns - 1, stk := v.stk.take (v.ns - 1), loc := v.loc.set a.toNat ((v.stk.drop (v.ns - 1)).getD 0 0), pc := v.pc + 1, spent := v.spent + 1 } q0 bm M)))
    (h2 : (¬ (0 ≤ a ∧ a < v.nl) ∨ awaits k.kids a = false ∧ ¬ 1 ≤ v.ns) → Z [{ v := errV 1, recovered := false }] (CtxA wA w0 X (ent k v q0 bm M))) :
    CallVC Tryz.prog (CtxA wA w0 X (ent k v q0 bm M)) 93 #[.pointer (some ⟨bm, 0, none⟩), .agg #[.int .i64 op, .int .i64 a, .int .i64 b, .int .i64 c]] K Z := by
  have e1 : IntKind.i64.wrap (v.pc + 1) = v.pc + 1 := wrapI (by have := hm.pc; omega)
  have e2 : IntKind.i64.wrap (v.spent + 1) = v.spent + 1 := wrapI (by have := hm.spent; omega)
  refine it93 (by rfl) ?_
  intro w2 X2
  conv => whnf
  repeat' (first
    | (refine RetT.drop (K := K) (ent k v { q0 with kind := 5 } bm M) (by repeat (first | exact List.Sublist.refl _ | refine List.Sublist.cons_cons _ ?_ | refine List.Sublist.cons _ ?_)) ?_; (try rw [e1]); (try rw [e2]); exact h10 (by omega) (by omega) (by assumption))
    | (refine RetT.drop (K := K) (ent k { v with ns := v.ns - 1, stk := v.stk.take (v.ns - 1), loc := v.loc.set a.toNat ((v.stk.drop (v.ns - 1)).getD 0 0), pc := IntKind.i64.wrap (v.pc + 1), spent := IntKind.i64.wrap (v.spent + 1) } q0 bm M) (by repeat (first | exact List.Sublist.refl _ | refine List.Sublist.cons_cons _ ?_ | refine List.Sublist.cons _ ?_)) ?_; (try rw [e1]); (try rw [e2]); exact h11 (by omega) (by omega) (by assumption) (by omega))
    | (refine PanT.drop (Z := Z) (ent k v q0 bm M) (by repeat (first | exact List.Sublist.refl _ | refine List.Sublist.cons_cons _ ?_ | refine List.Sublist.cons _ ?_)) ?_; refine h2 ?_; first | omega | exact .inl (by omega) | exact .inr ⟨by assumption, by omega⟩)
    | (refine wait_vc hm a (fun _ _ hw => ?_) (fun _ _ hw => ?_) (fun hw => ?_) <;> conv => whnf)
    | (refine take_vc hm 1 (fun hq A' c' hc' hA' => ?_) (fun hq => ?_) <;> conv => whnf)
    | (refine idxI (by assumption) (by assumption) (by omega) (by omega) (fun bq hb => ?_); conv => whnf)
    | (refine idxI hm.Al hm.cl (by omega) (by omega) (fun bq hb => ?_); conv => whnf)
    | (refine ldRI 0 (by assumption) (by repeat (first | exact List.Mem.head _ | refine List.Mem.tail _ ?_)) (by rfl) (by simp; have := hm.ns; omega) ?_; conv => whnf)
    | (refine stRI a.toNat (by assumption) (by repeat (first | exact AtE.here | apply AtE.there)) (by rfl) (by have := hm.nl; show a.toNat < v.loc.length; omega) ?_; conv => whnf)
    | (refine JoinVC.go ?_; conv => whnf)
    | (refine RetA.go ?_; conv => whnf)
    | (refine PanA.go ?_; conv => whnf)
    | (refine And.intro ?_ ?_ <;> conv => whnf)
    | (refine ldA (by repeat (first | exact List.Mem.head _ | refine List.Mem.tail _ ?_)) (tab_ok _ _ (by rfl)) (by rfl) (by rfl) ?_; conv => whnf)
    | (refine ldsA (by repeat (first | exact List.Mem.head _ | refine List.Mem.tail _ ?_)) (tab_ok _ _ (by rfl)) (by rfl) ?_; conv => whnf)
    | (refine stA (tab_ok _ _ (by rfl)) (by repeat (first | exact AtE.here | apply AtE.there)) ?_; conv => whnf)
    | (refine ia57 (by rfl) ?_; intro w1 X1; conv => whnf)
    | (refine ia56 (by rfl) ?_; intro w1 X1; conv => whnf)
    | (refine ia136 (by rfl) ?_; intro w1 X1; conv => whnf)
    | (refine ia144 (by rfl) ?_; intro w1 X1; conv => whnf)
    | (refine ia138 (by rfl) ?_; intro w1 X1; conv => whnf)
    | (refine opMkI (by rfl) (tab_ok _ _ (by rfl)) (by rfl) ?_; conv => whnf)
    | (refine opPan (by rfl) (by rfl) ?_; conv => whnf)
    | (refine bsA el23 (by rfl) ?_; (conv => whnf); refine ⟨by rfl, fun bl => ?_⟩; conv => whnf)
    | (refine splitB.dec (fun hb => ?_) (fun hb => ?_) <;> conv => whnf)
    | (refine splitB.ndec (fun hb => ?_) (fun hb => ?_) <;> conv => whnf)
    | (refine splitB.eqI (fun hb => ?_) (fun hb => ?_) <;> conv => whnf)
    | (refine splitB.neI (fun hb => ?_) (fun hb => ?_) <;> conv => whnf)
    | (intro r bx; conv => whnf))
set_option maxHeartbeats 4000000 in
theorem add_vc (hm : MOk k v) (op a b c : Int) (bo : Nat) (hof : (Value.pointer (some ⟨bo, 0, none⟩), DA.cs 158 [.func (.func 97) #[] #[]]) ∈ M)
    (h10 : 2 ≤ v.ns → ∀ A' c', v.ns - 2 + 1 ≤ c' → (0 < c' → ∃ b, A' = some ⟨b, 0, none⟩) → K (.tuple #[]) (CtxA wA w0 X (ent k { v with As := A', ns := v.ns - 2 + 1, cs := c', stk := v.stk.take (v.ns - 2) ++ [(IntKind.i64.wrap (((v.stk.drop (v.ns - 2)).getD 0 0) + ((v.stk.drop (v.ns - 2)).getD 1 0)) % 4294967296)], pc := v.pc + 1, spent := v.spent + 1 } q0 bm M)))
    (h2 : ¬ 2 ≤ v.ns → Z [{ v := errV 1, recovered := false }] (CtxA wA w0 X (ent k v q0 bm M))) :
    CallVC Tryz.prog (CtxA wA w0 X (ent k v q0 bm M)) 139 #[.pointer (some ⟨bm, 0, none⟩), .agg #[.int .i64 op, .int .i64 a, .int .i64 b, .int .i64 c], .pointer (some ⟨bo, 0, none⟩)] K Z := by
  have e1 : IntKind.i64.wrap (v.pc + 1) = v.pc + 1 := wrapI (by have := hm.pc; omega)
  have e2 : IntKind.i64.wrap (v.spent + 1) = v.spent + 1 := wrapI (by have := hm.spent; omega)
  refine it139 (by rfl) ?_
  intro w2 X2
  conv => whnf
  repeat' (first
    | (refine RetT.drop (K := K) (ent k { v with As := _, ns := v.ns - 2 + 1, cs := _, stk := v.stk.take (v.ns - 2) ++ [(IntKind.i64.wrap (((v.stk.drop (v.ns - 2)).getD 0 0) + ((v.stk.drop (v.ns - 2)).getD 1 0)) % 4294967296)], pc := IntKind.i64.wrap (v.pc + 1), spent := IntKind.i64.wrap (v.spent + 1) } q0 bm M) (by repeat (first | exact List.Sublist.refl _ | refine List.Sublist.cons_cons _ ?_ | refine List.Sublist.cons _ ?_)) ?_; rw [e1, e2]; exact h10 (by omega) _ _ (by assumption) (by assumption))
    | (refine PanT.drop (Z := Z) (ent k v q0 bm M) (by repeat (first | exact List.Sublist.refl _ | refine List.Sublist.cons_cons _ ?_ | refine List.Sublist.cons _ ?_)) ?_; refine h2 ?_; first | omega | exact .inl (by omega) | exact .inr ⟨by assumption, by omega⟩)
    | (refine take_vc hm 2 (fun hq A' c' hc' hA' => ?_) (fun hq => ?_) <;> conv => whnf)
    | (refine put1_vc (k := k) (bm := bm) (M := M) (v := { v with ns := v.ns - 2, stk := v.stk.take (v.ns - 2) }) (hm.less 2) _ _ (fun hq A'' c'' hc'' hA'' => ?_) (fun hq => absurd (show v.ns - 2 < 100 by have := hm.sm; omega) hq); conv => whnf)
    | (refine idxI (by assumption) (by assumption) (by omega) (by omega) (fun bq hb => ?_); conv => whnf)
    | (refine ldRI 0 (by assumption) (by repeat (first | exact List.Mem.head _ | refine List.Mem.tail _ ?_)) (by rfl) (by simp; have := hm.ns; omega) ?_; conv => whnf)
    | (refine ldRI 1 (by assumption) (by repeat (first | exact List.Mem.head _ | refine List.Mem.tail _ ?_)) (by rfl) (by simp; have := hm.ns; omega) ?_; conv => whnf)
    | (refine and32 ?_; conv => whnf)
    | (refine ia97 (by rfl) ?_; intro w1 X1; conv => whnf)
    | (refine ia98 (by rfl) ?_; intro w1 X1; conv => whnf)
    | (refine ia102 (by rfl) ?_; intro w1 X1; conv => whnf)
    | (refine JoinVC.go ?_; conv => whnf)
    | (refine RetA.go ?_; conv => whnf)
    | (refine PanA.go ?_; conv => whnf)
    | (refine And.intro ?_ ?_ <;> conv => whnf)
    | (refine ldA (by repeat (first | exact List.Mem.head _ | refine List.Mem.tail _ ?_)) (tab_ok _ _ (by rfl)) (by rfl) (by rfl) ?_; conv => whnf)
    | (refine ldsA (by repeat (first | exact List.Mem.head _ | refine List.Mem.tail _ ?_)) (tab_ok _ _ (by rfl)) (by rfl) ?_; conv => whnf)
    | (refine stA (tab_ok _ _ (by rfl)) (by repeat (first | exact AtE.here | apply AtE.there)) ?_; conv => whnf)
    | (refine ia136 (by rfl) ?_; intro w1 X1; conv => whnf)
    | (refine ia144 (by rfl) ?_; intro w1 X1; conv => whnf)
    | (refine splitB.dec (fun hb => ?_) (fun hb => ?_) <;> conv => whnf)
    | (refine splitB.eqI (fun hb => ?_) (fun hb => ?_) <;> conv => whnf)
    | (intro r bx; conv => whnf)
    | (refine ldA (by repeat (first | exact hof | refine List.Mem.tail _ ?_)) (tab_ok _ _ (by rfl)) (by rfl) (by rfl) ?_; conv => whnf)
    | (exact by decide))
set_option maxHeartbeats 4000000 in
theorem sub_vc (hm : MOk k v) (op a b c : Int) (bo : Nat) (hof : (Value.pointer (some ⟨bo, 0, none⟩), DA.cs 158 [.func (.func 99) #[] #[]]) ∈ M)
    (h10 : 2 ≤ v.ns → ∀ A' c', v.ns - 2 + 1 ≤ c' → (0 < c' → ∃ b, A' = some ⟨b, 0, none⟩) → K (.tuple #[]) (CtxA wA w0 X (ent k { v with As := A', ns := v.ns - 2 + 1, cs := c', stk := v.stk.take (v.ns - 2) ++ [(IntKind.i64.wrap (((v.stk.drop (v.ns - 2)).getD 0 0) - ((v.stk.drop (v.ns - 2)).getD 1 0)) % 4294967296)], pc := v.pc + 1, spent := v.spent + 1 } q0 bm M)))
    (h2 : ¬ 2 ≤ v.ns → Z [{ v := errV 1, recovered := false }] (CtxA wA w0 X (ent k v q0 bm M))) :
    CallVC Tryz.prog (CtxA wA w0 X (ent k v q0 bm M)) 139 #[.pointer (some ⟨bm, 0, none⟩), .agg #[.int .i64 op, .int .i64 a, .int .i64 b, .int .i64 c], .pointer (some ⟨bo, 0, none⟩)] K Z := by
  have e1 : IntKind.i64.wrap (v.pc + 1) = v.pc + 1 := wrapI (by have := hm.pc; omega)
  have e2 : IntKind.i64.wrap (v.spent + 1) = v.spent + 1 := wrapI (by have := hm.spent; omega)
  refine it139 (by rfl) ?_
  intro w2 X2
  conv => whnf
  repeat' (first
    | (refine RetT.drop (K := K) (ent k { v with As := _, ns := v.ns - 2 + 1, cs := _, stk := v.stk.take (v.ns - 2) ++ [(IntKind.i64.wrap (((v.stk.drop (v.ns - 2)).getD 0 0) - ((v.stk.drop (v.ns - 2)).getD 1 0)) % 4294967296)], pc := IntKind.i64.wrap (v.pc + 1), spent := IntKind.i64.wrap (v.spent + 1) } q0 bm M) (by repeat (first | exact List.Sublist.refl _ | refine List.Sublist.cons_cons _ ?_ | refine List.Sublist.cons _ ?_)) ?_; rw [e1, e2]; exact h10 (by omega) _ _ (by assumption) (by assumption))
    | (refine PanT.drop (Z := Z) (ent k v q0 bm M) (by repeat (first | exact List.Sublist.refl _ | refine List.Sublist.cons_cons _ ?_ | refine List.Sublist.cons _ ?_)) ?_; refine h2 ?_; first | omega | exact .inl (by omega) | exact .inr ⟨by assumption, by omega⟩)
    | (refine take_vc hm 2 (fun hq A' c' hc' hA' => ?_) (fun hq => ?_) <;> conv => whnf)
    | (refine put1_vc (k := k) (bm := bm) (M := M) (v := { v with ns := v.ns - 2, stk := v.stk.take (v.ns - 2) }) (hm.less 2) _ _ (fun hq A'' c'' hc'' hA'' => ?_) (fun hq => absurd (show v.ns - 2 < 100 by have := hm.sm; omega) hq); conv => whnf)
    | (refine idxI (by assumption) (by assumption) (by omega) (by omega) (fun bq hb => ?_); conv => whnf)
    | (refine ldRI 0 (by assumption) (by repeat (first | exact List.Mem.head _ | refine List.Mem.tail _ ?_)) (by rfl) (by simp; have := hm.ns; omega) ?_; conv => whnf)
    | (refine ldRI 1 (by assumption) (by repeat (first | exact List.Mem.head _ | refine List.Mem.tail _ ?_)) (by rfl) (by simp; have := hm.ns; omega) ?_; conv => whnf)
    | (refine and32 ?_; conv => whnf)
    | (refine ia99 (by rfl) ?_; intro w1 X1; conv => whnf)
    | (refine ia98 (by rfl) ?_; intro w1 X1; conv => whnf)
    | (refine ia102 (by rfl) ?_; intro w1 X1; conv => whnf)
    | (refine JoinVC.go ?_; conv => whnf)
    | (refine RetA.go ?_; conv => whnf)
    | (refine PanA.go ?_; conv => whnf)
    | (refine And.intro ?_ ?_ <;> conv => whnf)
    | (refine ldA (by repeat (first | exact List.Mem.head _ | refine List.Mem.tail _ ?_)) (tab_ok _ _ (by rfl)) (by rfl) (by rfl) ?_; conv => whnf)
    | (refine ldsA (by repeat (first | exact List.Mem.head _ | refine List.Mem.tail _ ?_)) (tab_ok _ _ (by rfl)) (by rfl) ?_; conv => whnf)
    | (refine stA (tab_ok _ _ (by rfl)) (by repeat (first | exact AtE.here | apply AtE.there)) ?_; conv => whnf)
    | (refine ia136 (by rfl) ?_; intro w1 X1; conv => whnf)
    | (refine ia144 (by rfl) ?_; intro w1 X1; conv => whnf)
    | (refine splitB.dec (fun hb => ?_) (fun hb => ?_) <;> conv => whnf)
    | (refine splitB.eqI (fun hb => ?_) (fun hb => ?_) <;> conv => whnf)
    | (intro r bx; conv => whnf)
    | (refine ldA (by repeat (first | exact hof | refine List.Mem.tail _ ?_)) (tab_ok _ _ (by rfl)) (by rfl) (by rfl) ?_; conv => whnf)
    | (exact by decide))
set_option maxHeartbeats 4000000 in
theorem mul_vc (hm : MOk k v) (op a b c : Int) (bo : Nat) (hof : (Value.pointer (some ⟨bo, 0, none⟩), DA.cs 158 [.func (.func 100) #[] #[]]) ∈ M)
    (h10 : 2 ≤ v.ns → ∀ A' c', v.ns - 2 + 1 ≤ c' → (0 < c' → ∃ b, A' = some ⟨b, 0, none⟩) → K (.tuple #[]) (CtxA wA w0 X (ent k { v with As := A', ns := v.ns - 2 + 1, cs := c', stk := v.stk.take (v.ns - 2) ++ [(IntKind.i64.wrap (((v.stk.drop (v.ns - 2)).getD 0 0) * ((v.stk.drop (v.ns - 2)).getD 1 0)) % 4294967296)], pc := v.pc + 1, spent := v.spent + 1 } q0 bm M)))
    (h2 : ¬ 2 ≤ v.ns → Z [{ v := errV 1, recovered := false }] (CtxA wA w0 X (ent k v q0 bm M))) :
    CallVC Tryz.prog (CtxA wA w0 X (ent k v q0 bm M)) 139 #[.pointer (some ⟨bm, 0, none⟩), .agg #[.int .i64 op, .int .i64 a, .int .i64 b, .int .i64 c], .pointer (some ⟨bo, 0, none⟩)] K Z := by
  have e1 : IntKind.i64.wrap (v.pc + 1) = v.pc + 1 := wrapI (by have := hm.pc; omega)
  have e2 : IntKind.i64.wrap (v.spent + 1) = v.spent + 1 := wrapI (by have := hm.spent; omega)
  refine it139 (by rfl) ?_
  intro w2 X2
  conv => whnf
  repeat' (first
    | (refine RetT.drop (K := K) (ent k { v with As := _, ns := v.ns - 2 + 1, cs := _, stk := v.stk.take (v.ns - 2) ++ [(IntKind.i64.wrap (((v.stk.drop (v.ns - 2)).getD 0 0) * ((v.stk.drop (v.ns - 2)).getD 1 0)) % 4294967296)], pc := IntKind.i64.wrap (v.pc + 1), spent := IntKind.i64.wrap (v.spent + 1) } q0 bm M) (by repeat (first | exact List.Sublist.refl _ | refine List.Sublist.cons_cons _ ?_ | refine List.Sublist.cons _ ?_)) ?_; rw [e1, e2]; exact h10 (by omega) _ _ (by assumption) (by assumption))
    | (refine PanT.drop (Z := Z) (ent k v q0 bm M) (by repeat (first | exact List.Sublist.refl _ | refine List.Sublist.cons_cons _ ?_ | refine List.Sublist.cons _ ?_)) ?_; refine h2 ?_; first | omega | exact .inl (by omega) | exact .inr ⟨by assumption, by omega⟩)
    | (refine take_vc hm 2 (fun hq A' c' hc' hA' => ?_) (fun hq => ?_) <;> conv => whnf)
    | (refine put1_vc (k := k) (bm := bm) (M := M) (v := { v with ns := v.ns - 2, stk := v.stk.take (v.ns - 2) }) (hm.less 2) _ _ (fun hq A'' c'' hc'' hA'' => ?_) (fun hq => absurd (show v.ns - 2 < 100 by have := hm.sm; omega) hq); conv => whnf)
    | (refine idxI (by assumption) (by assumption) (by omega) (by omega) (fun bq hb => ?_); conv => whnf)
    | (refine ldRI 0 (by assumption) (by repeat (first | exact List.Mem.head _ | refine List.Mem.tail _ ?_)) (by rfl) (by simp; have := hm.ns; omega) ?_; conv => whnf)
    | (refine ldRI 1 (by assumption) (by repeat (first | exact List.Mem.head _ | refine List.Mem.tail _ ?_)) (by rfl) (by simp; have := hm.ns; omega) ?_; conv => whnf)
    | (refine and32 ?_; conv => whnf)
    | (refine ia100 (by rfl) ?_; intro w1 X1; conv => whnf)
    | (refine ia98 (by rfl) ?_; intro w1 X1; conv => whnf)
    | (refine ia102 (by rfl) ?_; intro w1 X1; conv => whnf)
    | (refine JoinVC.go ?_; conv => whnf)
    | (refine RetA.go ?_; conv => whnf)
    | (refine PanA.go ?_; conv => whnf)
    | (refine And.intro ?_ ?_ <;> conv => whnf)
    | (refine ldA (by repeat (first | exact List.Mem.head _ | refine List.Mem.tail _ ?_)) (tab_ok _ _ (by rfl)) (by rfl) (by rfl) ?_; conv => whnf)
    | (refine ldsA (by repeat (first | exact List.Mem.head _ | refine List.Mem.tail _ ?_)) (tab_ok _ _ (by rfl)) (by rfl) ?_; conv => whnf)
    | (refine stA (tab_ok _ _ (by rfl)) (by repeat (first | exact AtE.here | apply AtE.there)) ?_; conv => whnf)
    | (refine ia136 (by rfl) ?_; intro w1 X1; conv => whnf)
    | (refine ia144 (by rfl) ?_; intro w1 X1; conv => whnf)
    | (refine splitB.dec (fun hb => ?_) (fun hb => ?_) <;> conv => whnf)
    | (refine splitB.eqI (fun hb => ?_) (fun hb => ?_) <;> conv => whnf)
    | (intro r bx; conv => whnf)
    | (refine ldA (by repeat (first | exact hof | refine List.Mem.tail _ ?_)) (tab_ok _ _ (by rfl)) (by rfl) (by rfl) ?_; conv => whnf)
    | (exact by decide))
set_option maxHeartbeats 4000000 in
theorem less_vc (hm : MOk k v) (op a b c : Int) (bo : Nat) (hof : (Value.pointer (some ⟨bo, 0, none⟩), DA.cs 158 [.func (.func 101) #[] #[]]) ∈ M)
    (h10 : 2 ≤ v.ns → ((v.stk.drop (v.ns - 2)).getD 0 0) < ((v.stk.drop (v.ns - 2)).getD 1 0) → ∀ A' c', v.ns - 2 + 1 ≤ c' → (0 < c' → ∃ b, A' = some ⟨b, 0, none⟩) → K (.tuple #[]) (CtxA wA w0 X (ent k { v with As := A', ns := v.ns - 2 + 1, cs := c', stk := v.stk.take (v.ns - 2) ++ [1], pc := v.pc + 1, spent := v.spent + 1 } q0 bm M)))
    (h11 : 2 ≤ v.ns → ¬ ((v.stk.drop (v.ns - 2)).getD 0 0) < ((v.stk.drop (v.ns - 2)).getD 1 0) → ∀ A' c', v.ns - 2 + 1 ≤ c' → (0 < c' → ∃ b, A' = some ⟨b, 0, none⟩) → K (.tuple #[]) (CtxA wA w0 X (ent k { v with As := A', ns := v.ns - 2 + 1, cs := c', stk := v.stk.take (v.ns - 2) ++ [0], pc := v.pc + 1, spent := v.spent + 1 } q0 bm M)))
    (h2 : ¬ 2 ≤ v.ns → Z [{ v := errV 1, recovered := false }] (CtxA wA w0 X (ent k v q0 bm M))) :
    CallVC Tryz.prog (CtxA wA w0 X (ent k v q0 bm M)) 139 #[.pointer (some ⟨bm, 0, none⟩), .agg #[.int .i64 op, .int .i64 a, .int .i64 b, .int .i64 c], .pointer (some ⟨bo, 0, none⟩)] K Z := by
  have e1 : IntKind.i64.wrap (v.pc + 1) = v.pc + 1 := wrapI (by have := hm.pc; omega)
  have e2 : IntKind.i64.wrap (v.spent + 1) = v.spent + 1 := wrapI (by have := hm.spent; omega)
  refine it139 (by rfl) ?_
  intro w2 X2
  conv => whnf
  repeat' (first
    | (refine RetT.drop (K := K) (ent k { v with As := _, ns := v.ns - 2 + 1, cs := _, stk := v.stk.take (v.ns - 2) ++ [1], pc := IntKind.i64.wrap (v.pc + 1), spent := IntKind.i64.wrap (v.spent + 1) } q0 bm M) (by repeat (first | exact List.Sublist.refl _ | refine List.Sublist.cons_cons _ ?_ | refine List.Sublist.cons _ ?_)) ?_; rw [e1, e2]; exact h10 (by omega) (by assumption) _ _ (by assumption) (by assumption))
    | (refine RetT.drop (K := K) (ent k { v with As := _, ns := v.ns - 2 + 1, cs := _, stk := v.stk.take (v.ns - 2) ++ [0], pc := IntKind.i64.wrap (v.pc + 1), spent := IntKind.i64.wrap (v.spent + 1) } q0 bm M) (by repeat (first | exact List.Sublist.refl _ | refine List.Sublist.cons_cons _ ?_ | refine List.Sublist.cons _ ?_)) ?_; rw [e1, e2]; exact h11 (by omega) (by assumption) _ _ (by assumption) (by assumption))
    | (refine PanT.drop (Z := Z) (ent k v q0 bm M) (by repeat (first | exact List.Sublist.refl _ | refine List.Sublist.cons_cons _ ?_ | refine List.Sublist.cons _ ?_)) ?_; refine h2 ?_; first | omega | exact .inl (by omega) | exact .inr ⟨by assumption, by omega⟩)
    | (refine take_vc hm 2 (fun hq A' c' hc' hA' => ?_) (fun hq => ?_) <;> conv => whnf)
    | (refine put1_vc (k := k) (bm := bm) (M := M) (v := { v with ns := v.ns - 2, stk := v.stk.take (v.ns - 2) }) (hm.less 2) _ _ (fun hq A'' c'' hc'' hA'' => ?_) (fun hq => absurd (show v.ns - 2 < 100 by have := hm.sm; omega) hq); conv => whnf)
    | (refine idxI (by assumption) (by assumption) (by omega) (by omega) (fun bq hb => ?_); conv => whnf)
    | (refine ldRI 0 (by assumption) (by repeat (first | exact List.Mem.head _ | refine List.Mem.tail _ ?_)) (by rfl) (by simp; have := hm.ns; omega) ?_; conv => whnf)
    | (refine ldRI 1 (by assumption) (by repeat (first | exact List.Mem.head _ | refine List.Mem.tail _ ?_)) (by rfl) (by simp; have := hm.ns; omega) ?_; conv => whnf)
    | (refine and32 ?_; conv => whnf)
    | (refine ia101 (by rfl) ?_; intro w1 X1; conv => whnf)
    | (refine ia98 (by rfl) ?_; intro w1 X1; conv => whnf)
    | (refine ia102 (by rfl) ?_; intro w1 X1; conv => whnf)
    | (refine JoinVC.go ?_; conv => whnf)
    | (refine RetA.go ?_; conv => whnf)
    | (refine PanA.go ?_; conv => whnf)
    | (refine And.intro ?_ ?_ <;> conv => whnf)
    | (refine ldA (by repeat (first | exact List.Mem.head _ | refine List.Mem.tail _ ?_)) (tab_ok _ _ (by rfl)) (by rfl) (by rfl) ?_; conv => whnf)
    | (refine ldsA (by repeat (first | exact List.Mem.head _ | refine List.Mem.tail _ ?_)) (tab_ok _ _ (by rfl)) (by rfl) ?_; conv => whnf)
    | (refine stA (tab_ok _ _ (by rfl)) (by repeat (first | exact AtE.here | apply AtE.there)) ?_; conv => whnf)
    | (refine ia136 (by rfl) ?_; intro w1 X1; conv => whnf)
    | (refine ia144 (by rfl) ?_; intro w1 X1; conv => whnf)
    | (refine splitB.dec (fun hb => ?_) (fun hb => ?_) <;> conv => whnf)
    | (refine splitB.eqI (fun hb => ?_) (fun hb => ?_) <;> conv => whnf)
    | (intro r bx; conv => whnf)
    | (refine ldA (by repeat (first | exact hof | refine List.Mem.tail _ ?_)) (tab_ok _ _ (by rfl)) (by rfl) (by rfl) ?_; conv => whnf)
    | (exact by decide))
set_option maxHeartbeats 4000000 in
theorem eq_vc (hm : MOk k v) (op a b c : Int) (bo : Nat) (hof : (Value.pointer (some ⟨bo, 0, none⟩), DA.cs 158 [.func (.func 103) #[] #[]]) ∈ M)
    (h10 : 2 ≤ v.ns → ((v.stk.drop (v.ns - 2)).getD 0 0) = ((v.stk.drop (v.ns - 2)).getD 1 0) → ∀ A' c', v.ns - 2 + 1 ≤ c' → (0 < c' → ∃ b, A' = some ⟨b, 0, none⟩) → K (.tuple #[]) (CtxA wA w0 X (ent k { v with As := A', ns := v.ns - 2 + 1, cs := c', stk := v.stk.take (v.ns - 2) ++ [1], pc := v.pc + 1, spent := v.spent + 1 } q0 bm M)))
    (h11 : 2 ≤ v.ns → ((v.stk.drop (v.ns - 2)).getD 0 0) ≠ ((v.stk.drop (v.ns - 2)).getD 1 0) → ∀ A' c', v.ns - 2 + 1 ≤ c' → (0 < c' → ∃ b, A' = some ⟨b, 0, none⟩) → K (.tuple #[]) (CtxA wA w0 X (ent k { v with As := A', ns := v.ns - 2 + 1, cs := c', stk := v.stk.take (v.ns - 2) ++ [0], pc := v.pc + 1, spent := v.spent + 1 } q0 bm M)))
    (h2 : ¬ 2 ≤ v.ns → Z [{ v := errV 1, recovered := false }] (CtxA wA w0 X (ent k v q0 bm M))) :
    CallVC Tryz.prog (CtxA wA w0 X (ent k v q0 bm M)) 139 #[.pointer (some ⟨bm, 0, none⟩), .agg #[.int .i64 op, .int .i64 a, .int .i64 b, .int .i64 c], .pointer (some ⟨bo, 0, none⟩)] K Z := by
  have e1 : IntKind.i64.wrap (v.pc + 1) = v.pc + 1 := wrapI (by have := hm.pc; omega)
  have e2 : IntKind.i64.wrap (v.spent + 1) = v.spent + 1 := wrapI (by have := hm.spent; omega)
  refine it139 (by rfl) ?_
  intro w2 X2
  conv => whnf
  repeat' (first
    | (refine RetT.drop (K := K) (ent k { v with As := _, ns := v.ns - 2 + 1, cs := _, stk := v.stk.take (v.ns - 2) ++ [1], pc := IntKind.i64.wrap (v.pc + 1), spent := IntKind.i64.wrap (v.spent + 1) } q0 bm M) (by repeat (first | exact List.Sublist.refl _ | refine List.Sublist.cons_cons _ ?_ | refine List.Sublist.cons _ ?_)) ?_; rw [e1, e2]; exact h10 (by omega) (by assumption) _ _ (by assumption) (by assumption))
    | (refine RetT.drop (K := K) (ent k { v with As := _, ns := v.ns - 2 + 1, cs := _, stk := v.stk.take (v.ns - 2) ++ [0], pc := IntKind.i64.wrap (v.pc + 1), spent := IntKind.i64.wrap (v.spent + 1) } q0 bm M) (by repeat (first | exact List.Sublist.refl _ | refine List.Sublist.cons_cons _ ?_ | refine List.Sublist.cons _ ?_)) ?_; rw [e1, e2]; exact h11 (by omega) (by assumption) _ _ (by assumption) (by assumption))
    | (refine PanT.drop (Z := Z) (ent k v q0 bm M) (by repeat (first | exact List.Sublist.refl _ | refine List.Sublist.cons_cons _ ?_ | refine List.Sublist.cons _ ?_)) ?_; refine h2 ?_; first | omega | exact .inl (by omega) | exact .inr ⟨by assumption, by omega⟩)
    | (refine take_vc hm 2 (fun hq A' c' hc' hA' => ?_) (fun hq => ?_) <;> conv => whnf)
    | (refine put1_vc (k := k) (bm := bm) (M := M) (v := { v with ns := v.ns - 2, stk := v.stk.take (v.ns - 2) }) (hm.less 2) _ _ (fun hq A'' c'' hc'' hA'' => ?_) (fun hq => absurd (show v.ns - 2 < 100 by have := hm.sm; omega) hq); conv => whnf)
    | (refine idxI (by assumption) (by assumption) (by omega) (by omega) (fun bq hb => ?_); conv => whnf)
    | (refine ldRI 0 (by assumption) (by repeat (first | exact List.Mem.head _ | refine List.Mem.tail _ ?_)) (by rfl) (by simp; have := hm.ns; omega) ?_; conv => whnf)
    | (refine ldRI 1 (by assumption) (by repeat (first | exact List.Mem.head _ | refine List.Mem.tail _ ?_)) (by rfl) (by simp; have := hm.ns; omega) ?_; conv => whnf)
    | (refine and32 ?_; conv => whnf)
    | (refine ia103 (by rfl) ?_; intro w1 X1; conv => whnf)
    | (refine ia98 (by rfl) ?_; intro w1 X1; conv => whnf)
    | (refine ia102 (by rfl) ?_; intro w1 X1; conv => whnf)
    | (refine JoinVC.go ?_; conv => whnf)
    | (refine RetA.go ?_; conv => whnf)
    | (refine PanA.go ?_; conv => whnf)
    | (refine And.intro ?_ ?_ <;> conv => whnf)
    | (refine ldA (by repeat (first | exact List.Mem.head _ | refine List.Mem.tail _ ?_)) (tab_ok _ _ (by rfl)) (by rfl) (by rfl) ?_; conv => whnf)
    | (refine ldsA (by repeat (first | exact List.Mem.head _ | refine List.Mem.tail _ ?_)) (tab_ok _ _ (by rfl)) (by rfl) ?_; conv => whnf)
    | (refine stA (tab_ok _ _ (by rfl)) (by repeat (first | exact AtE.here | apply AtE.there)) ?_; conv => whnf)
    | (refine ia136 (by rfl) ?_; intro w1 X1; conv => whnf)
    | (refine ia144 (by rfl) ?_; intro w1 X1; conv => whnf)
    | (refine splitB.dec (fun hb => ?_) (fun hb => ?_) <;> conv => whnf)
    | (refine splitB.eqI (fun hb => ?_) (fun hb => ?_) <;> conv => whnf)
    | (intro r bx; conv => whnf)
    | (refine ldA (by repeat (first | exact hof | refine List.Mem.tail _ ?_)) (tab_ok _ _ (by rfl)) (by rfl) (by rfl) ?_; conv => whnf)
    | (exact by decide))
set_option maxHeartbeats 4000000 in
theorem half_vc (hm : MOk k v) (op a b c : Int) (bo : Nat) (hof : (Value.pointer (some ⟨bo, 0, none⟩), DA.cs 158 [.func (.func 112) #[] #[]]) ∈ M)
    (h10 : 2 ≤ v.ns → ∀ A' c', v.ns - 2 + 1 ≤ c' → (0 < c' → ∃ b, A' = some ⟨b, 0, none⟩) → K (.tuple #[]) (CtxA wA w0 X (ent k { v with As := A', ns := v.ns - 2 + 1, cs := c', stk := v.stk.take (v.ns - 2) ++ [(IntKind.i64.wrap ((IntKind.i64.wrap (((v.stk.drop (v.ns - 2)).getD 0 0) + ((v.stk.drop (v.ns - 2)).getD 1 0))).tdiv 2))], pc := v.pc + 1, spent := v.spent + 1 } q0 bm M)))
    (h2 : ¬ 2 ≤ v.ns → Z [{ v := errV 1, recovered := false }] (CtxA wA w0 X (ent k v q0 bm M))) :
    CallVC Tryz.prog (CtxA wA w0 X (ent k v q0 bm M)) 139 #[.pointer (some ⟨bm, 0, none⟩), .agg #[.int .i64 op, .int .i64 a, .int .i64 b, .int .i64 c], .pointer (some ⟨bo, 0, none⟩)] K Z := by
  have e1 : IntKind.i64.wrap (v.pc + 1) = v.pc + 1 := wrapI (by have := hm.pc; omega)
  have e2 : IntKind.i64.wrap (v.spent + 1) = v.spent + 1 := wrapI (by have := hm.spent; omega)
  refine it139 (by rfl) ?_
  intro w2 X2
  conv => whnf
  repeat' (first
    | (refine RetT.drop (K := K) (ent k { v with As := _, ns := v.ns - 2 + 1, cs := _, stk := v.stk.take (v.ns - 2) ++ [(IntKind.i64.wrap ((IntKind.i64.wrap (((v.stk.drop (v.ns - 2)).getD 0 0) + ((v.stk.drop (v.ns - 2)).getD 1 0))).tdiv 2))], pc := IntKind.i64.wrap (v.pc + 1), spent := IntKind.i64.wrap (v.spent + 1) } q0 bm M) (by repeat (first | exact List.Sublist.refl _ | refine List.Sublist.cons_cons _ ?_ | refine List.Sublist.cons _ ?_)) ?_; rw [e1, e2]; exact h10 (by omega) _ _ (by assumption) (by assumption))
    | (refine PanT.drop (Z := Z) (ent k v q0 bm M) (by repeat (first | exact List.Sublist.refl _ | refine List.Sublist.cons_cons _ ?_ | refine List.Sublist.cons _ ?_)) ?_; refine h2 ?_; first | omega | exact .inl (by omega) | exact .inr ⟨by assumption, by omega⟩)
    | (refine take_vc hm 2 (fun hq A' c' hc' hA' => ?_) (fun hq => ?_) <;> conv => whnf)
    | (refine put1_vc (k := k) (bm := bm) (M := M) (v := { v with ns := v.ns - 2, stk := v.stk.take (v.ns - 2) }) (hm.less 2) _ _ (fun hq A'' c'' hc'' hA'' => ?_) (fun hq => absurd (show v.ns - 2 < 100 by have := hm.sm; omega) hq); conv => whnf)
    | (refine idxI (by assumption) (by assumption) (by omega) (by omega) (fun bq hb => ?_); conv => whnf)
    | (refine ldRI 0 (by assumption) (by repeat (first | exact List.Mem.head _ | refine List.Mem.tail _ ?_)) (by rfl) (by simp; have := hm.ns; omega) ?_; conv => whnf)
    | (refine ldRI 1 (by assumption) (by repeat (first | exact List.Mem.head _ | refine List.Mem.tail _ ?_)) (by rfl) (by simp; have := hm.ns; omega) ?_; conv => whnf)
    | (refine and32 ?_; conv => whnf)
    | (refine ia112 (by rfl) ?_; intro w1 X1; conv => whnf)
    | (refine ia98 (by rfl) ?_; intro w1 X1; conv => whnf)
    | (refine ia102 (by rfl) ?_; intro w1 X1; conv => whnf)
    | (refine JoinVC.go ?_; conv => whnf)
    | (refine RetA.go ?_; conv => whnf)
    | (refine PanA.go ?_; conv => whnf)
    | (refine And.intro ?_ ?_ <;> conv => whnf)
    | (refine ldA (by repeat (first | exact List.Mem.head _ | refine List.Mem.tail _ ?_)) (tab_ok _ _ (by rfl)) (by rfl) (by rfl) ?_; conv => whnf)
    | (refine ldsA (by repeat (first | exact List.Mem.head _ | refine List.Mem.tail _ ?_)) (tab_ok _ _ (by rfl)) (by rfl) ?_; conv => whnf)
    | (refine stA (tab_ok _ _ (by rfl)) (by repeat (first | exact AtE.here | apply AtE.there)) ?_; conv => whnf)
    | (refine ia136 (by rfl) ?_; intro w1 X1; conv => whnf)
    | (refine ia144 (by rfl) ?_; intro w1 X1; conv => whnf)
    | (refine splitB.dec (fun hb => ?_) (fun hb => ?_) <;> conv => whnf)
    | (refine splitB.eqI (fun hb => ?_) (fun hb => ?_) <;> conv => whnf)
    | (intro r bx; conv => whnf)
    | (refine ldA (by repeat (first | exact hof | refine List.Mem.tail _ ?_)) (tab_ok _ _ (by rfl)) (by rfl) (by rfl) ?_; conv => whnf)
    | (exact by decide))
end
end Go.Proofs.YtgaopcbjhepklaaGreat
