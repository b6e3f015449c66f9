/- A frame that goes on: its instructions; printed by genza.py. -/
import Derived.Test.YtgaopcbjhepklaaGreatZb
namespace Go.Proofs.YtgaopcbjhepklaaGreat
open Go.RowKit
set_option linter.unusedSimpArgs false
set_option linter.unusedVariables false
set_option maxRecDepth 100000
section
variable {wA w0 : World} {X : Nat → Prop} {M : EL} {K : Value → Ctx → Prop} {Z : PanK} {k : MK} {v : MV} {bm : Nat}
set_option maxHeartbeats 4000000 in
theorem load_vc (hm : MOk k v) (op a b c : Int)
    (h10 : 0 ≤ a → a < k.nc → K (.tuple #[]) (CtxA wA w0 X (ent k { v with pc := v.pc + 1, spent := v.spent + 1 } { q0 with kind := 1, a := a } bm M)))
    (h2 : (¬ (0 ≤ a ∧ a < k.nc)) → Z [{ v := errV 1, recovered := false }] (CtxA wA w0 X (ent k v q0 bm M))) :
    CallVC Tryz.prog (CtxA wA w0 X (ent k v q0 bm M)) 94 #[.pointer (some ⟨bm, 0, none⟩), .agg #[.int .i64 op, .int .i64 a, .int .i64 b, .int .i64 c]] K Z := by
  have e1 : IntKind.i64.wrap (v.pc + 1) = v.pc + 1 := wrapI (by have := hm.pc; omega)
  have e2 : IntKind.i64.wrap (v.spent + 1) = v.spent + 1 := wrapI (by have := hm.spent; omega)
  refine it94 (by rfl) ?_
  intro w2 X2
  conv => whnf
  repeat' (first
    | (refine RetT.drop (K := K) (ent k { v with pc := IntKind.i64.wrap (v.pc + 1), spent := IntKind.i64.wrap (v.spent + 1) } { q0 with kind := 1, a := a } bm M) (by repeat (first | exact List.Sublist.refl _ | refine List.Sublist.cons_cons _ ?_ | refine List.Sublist.cons _ ?_)) ?_; (try rw [e1]); (try rw [e2]); exact h10 (by omega) (by omega))
    | (refine PanT.drop (Z := Z) (ent k v q0 bm M) (by repeat (first | exact List.Sublist.refl _ | refine List.Sublist.cons_cons _ ?_ | refine List.Sublist.cons _ ?_)) ?_; refine h2 ?_; first | omega | exact .inl (by omega) | exact .inr ⟨by assumption, by omega⟩)
    | (refine JoinVC.go ?_; conv => whnf)
    | (refine RetA.go ?_; conv => whnf)
    | (refine PanA.go ?_; conv => whnf)
    | (refine And.intro ?_ ?_ <;> conv => whnf)
    | (refine ldA (by repeat (first | exact List.Mem.head _ | refine List.Mem.tail _ ?_)) (tab_ok _ _ (by rfl)) (by rfl) (by rfl) ?_; conv => whnf)
    | (refine ldsA (by repeat (first | exact List.Mem.head _ | refine List.Mem.tail _ ?_)) (tab_ok _ _ (by rfl)) (by rfl) ?_; conv => whnf)
    | (refine stA (tab_ok _ _ (by rfl)) (by repeat (first | exact AtE.here | apply AtE.there)) ?_; conv => whnf)
    | (refine ia57 (by rfl) ?_; intro w1 X1; conv => whnf)
    | (refine ia56 (by rfl) ?_; intro w1 X1; conv => whnf)
    | (refine ia136 (by rfl) ?_; intro w1 X1; conv => whnf)
    | (refine ia144 (by rfl) ?_; intro w1 X1; conv => whnf)
    | (refine opMkI (by rfl) (tab_ok _ _ (by rfl)) (by rfl) ?_; conv => whnf)
    | (refine opPan (by rfl) (by rfl) ?_; conv => whnf)
    | (refine bsA el23 (by rfl) ?_; (conv => whnf); refine ⟨by rfl, fun bl => ?_⟩; conv => whnf)
    | (refine splitB.dec (fun hb => ?_) (fun hb => ?_) <;> conv => whnf)
    | (refine splitB.ndec (fun hb => ?_) (fun hb => ?_) <;> conv => whnf)
    | (refine splitB.eqI (fun hb => ?_) (fun hb => ?_) <;> conv => whnf)
    | (refine splitB.neI (fun hb => ?_) (fun hb => ?_) <;> conv => whnf)
    | (intro r bx; conv => whnf))
set_option maxHeartbeats 4000000 in
theorem store_vc (hm : MOk k v) (op a b c : Int)
    (h10 : 0 ≤ a → a < k.nc → 1 ≤ v.ns → K (.tuple #[]) (CtxA wA w0 X (ent k { v with ns := v.ns - 1, stk := v.stk.take (v.ns - 1), pc := v.pc + 1, spent := v.spent + 1 } { q0 with kind := 2, a := a, b := (v.stk.drop (v.ns - 1)).getD 0 0 } bm M)))
    (h2 : (¬ (0 ≤ a ∧ a < k.nc) ∨ ¬ 1 ≤ v.ns) → Z [{ v := errV 1, recovered := false }] (CtxA wA w0 X (ent k v q0 bm M))) :
    CallVC Tryz.prog (CtxA wA w0 X (ent k v q0 bm M)) 95 #[.pointer (some ⟨bm, 0, none⟩), .agg #[.int .i64 op, .int .i64 a, .int .i64 b, .int .i64 c]] K Z := by
  have e1 : IntKind.i64.wrap (v.pc + 1) = v.pc + 1 := wrapI (by have := hm.pc; omega)
  have e2 : IntKind.i64.wrap (v.spent + 1) = v.spent + 1 := wrapI (by have := hm.spent; omega)
  refine it95 (by rfl) ?_
  intro w2 X2
  conv => whnf
  repeat' (first
    | (refine RetT.drop (K := K) (ent k { v with ns := v.ns - 1, stk := v.stk.take (v.ns - 1), pc := IntKind.i64.wrap (v.pc + 1), spent := IntKind.i64.wrap (v.spent + 1) } { q0 with kind := 2, a := a, b := (v.stk.drop (v.ns - 1)).getD 0 0 } bm M) (by repeat (first | exact List.Sublist.refl _ | refine List.Sublist.cons_cons _ ?_ | refine List.Sublist.cons _ ?_)) ?_; (try rw [e1]); (try rw [e2]); exact h10 (by omega) (by omega) (by omega))
    | (refine PanT.drop (Z := Z) (ent k v q0 bm M) (by repeat (first | exact List.Sublist.refl _ | refine List.Sublist.cons_cons _ ?_ | refine List.Sublist.cons _ ?_)) ?_; refine h2 ?_; first | omega | exact .inl (by omega) | exact .inr ⟨by assumption, by omega⟩)
    | (refine take_vc hm 1 (fun hq A' c' hc' hA' => ?_) (fun hq => ?_) <;> conv => whnf)
    | (refine idxI (by assumption) (by assumption) (by omega) (by omega) (fun bq hb => ?_); conv => whnf)
    | (refine ldRI 0 (by assumption) (by repeat (first | exact List.Mem.head _ | refine List.Mem.tail _ ?_)) (by rfl) (by simp; have := hm.ns; omega) ?_; conv => whnf)
    | (refine JoinVC.go ?_; conv => whnf)
    | (refine RetA.go ?_; conv => whnf)
    | (refine PanA.go ?_; conv => whnf)
    | (refine And.intro ?_ ?_ <;> conv => whnf)
    | (refine ldA (by repeat (first | exact List.Mem.head _ | refine List.Mem.tail _ ?_)) (tab_ok _ _ (by rfl)) (by rfl) (by rfl) ?_; conv => whnf)
    | (refine ldsA (by repeat (first | exact List.Mem.head _ | refine List.Mem.tail _ ?_)) (tab_ok _ _ (by rfl)) (by rfl) ?_; conv => whnf)
    | (refine stA (tab_ok _ _ (by rfl)) (by repeat (first | exact AtE.here | apply AtE.there)) ?_; conv => whnf)
    | (refine ia57 (by rfl) ?_; intro w1 X1; conv => whnf)
    | (refine ia56 (by rfl) ?_; intro w1 X1; conv => whnf)
    | (refine ia136 (by rfl) ?_; intro w1 X1; conv => whnf)
    | (refine ia144 (by rfl) ?_; intro w1 X1; conv => whnf)
    | (refine ia138 (by rfl) ?_; intro w1 X1; conv => whnf)
    | (refine opMkI (by rfl) (tab_ok _ _ (by rfl)) (by rfl) ?_; conv => whnf)
    | (refine opPan (by rfl) (by rfl) ?_; conv => whnf)
    | (refine bsA el23 (by rfl) ?_; (conv => whnf); refine ⟨by rfl, fun bl => ?_⟩; conv => whnf)
    | (refine splitB.dec (fun hb => ?_) (fun hb => ?_) <;> conv => whnf)
    | (refine splitB.ndec (fun hb => ?_) (fun hb => ?_) <;> conv => whnf)
    | (refine splitB.eqI (fun hb => ?_) (fun hb => ?_) <;> conv => whnf)
    | (refine splitB.neI (fun hb => ?_) (fun hb => ?_) <;> conv => whnf)
    | (intro r bx; conv => whnf))
set_option maxHeartbeats 4000000 in
theorem drop_vc (hm : MOk k v) (op a b c : Int)
    (h10 : 1 ≤ v.ns → K (.tuple #[]) (CtxA wA w0 X (ent k { v with ns := v.ns - 1, stk := v.stk.take (v.ns - 1), pc := v.pc + 1, spent := v.spent + 1 } q0 bm M)))
    (h2 : (¬ 1 ≤ v.ns) → Z [{ v := errV 1, recovered := false }] (CtxA wA w0 X (ent k v q0 bm M))) :
    CallVC Tryz.prog (CtxA wA w0 X (ent k v q0 bm M)) 105 #[.pointer (some ⟨bm, 0, none⟩), .agg #[.int .i64 op, .int .i64 a, .int .i64 b, .int .i64 c]] K Z := by
  have e1 : IntKind.i64.wrap (v.pc + 1) = v.pc + 1 := wrapI (by have := hm.pc; omega)
  have e2 : IntKind.i64.wrap (v.spent + 1) = v.spent + 1 := wrapI (by have := hm.spent; omega)
  refine it105 (by rfl) ?_
  intro w2 X2
  conv => whnf
  repeat' (first
    | (refine RetT.drop (K := K) (ent k { v with ns := v.ns - 1, stk := v.stk.take (v.ns - 1), pc := IntKind.i64.wrap (v.pc + 1), spent := IntKind.i64.wrap (v.spent + 1) } q0 bm M) (by repeat (first | exact List.Sublist.refl _ | refine List.Sublist.cons_cons _ ?_ | refine List.Sublist.cons _ ?_)) ?_; (try rw [e1]); (try rw [e2]); exact h10 (by omega))
    | (refine PanT.drop (Z := Z) (ent k v q0 bm M) (by repeat (first | exact List.Sublist.refl _ | refine List.Sublist.cons_cons _ ?_ | refine List.Sublist.cons _ ?_)) ?_; refine h2 ?_; first | omega | exact .inl (by omega) | exact .inr ⟨by assumption, by omega⟩)
    | (refine take_vc hm 1 (fun hq A' c' hc' hA' => ?_) (fun hq => ?_) <;> conv => whnf)
    | (refine idxI (by assumption) (by assumption) (by omega) (by omega) (fun bq hb => ?_); conv => whnf)
    | (refine ldRI 0 (by assumption) (by repeat (first | exact List.Mem.head _ | refine List.Mem.tail _ ?_)) (by rfl) (by simp; have := hm.ns; omega) ?_; conv => whnf)
    | (refine JoinVC.go ?_; conv => whnf)
    | (refine RetA.go ?_; conv => whnf)
    | (refine PanA.go ?_; conv => whnf)
    | (refine And.intro ?_ ?_ <;> conv => whnf)
    | (refine ldA (by repeat (first | exact List.Mem.head _ | refine List.Mem.tail _ ?_)) (tab_ok _ _ (by rfl)) (by rfl) (by rfl) ?_; conv => whnf)
    | (refine ldsA (by repeat (first | exact List.Mem.head _ | refine List.Mem.tail _ ?_)) (tab_ok _ _ (by rfl)) (by rfl) ?_; conv => whnf)
    | (refine stA (tab_ok _ _ (by rfl)) (by repeat (first | exact AtE.here | apply AtE.there)) ?_; conv => whnf)
    | (refine ia57 (by rfl) ?_; intro w1 X1; conv => whnf)
    | (refine ia56 (by rfl) ?_; intro w1 X1; conv => whnf)
    | (refine ia136 (by rfl) ?_; intro w1 X1; conv => whnf)
    | (refine ia144 (by rfl) ?_; intro w1 X1; conv => whnf)
    | (refine ia138 (by rfl) ?_; intro w1 X1; conv => whnf)
    | (refine opMkI (by rfl) (tab_ok _ _ (by rfl)) (by rfl) ?_; conv => whnf)
    | (refine opPan (by rfl) (by rfl) ?_; conv => whnf)
    | (refine bsA el23 (by rfl) ?_; (conv => whnf); refine ⟨by rfl, fun bl => ?_⟩; conv => whnf)
    | (refine splitB.dec (fun hb => ?_) (fun hb => ?_) <;> conv => whnf)
    | (refine splitB.ndec (fun hb => ?_) (fun hb => ?_) <;> conv => whnf)
    | (refine splitB.eqI (fun hb => ?_) (fun hb => ?_) <;> conv => whnf)
    | (refine splitB.neI (fun hb => ?_) (fun hb => ?_) <;> conv => whnf)
    | (intro r bx; conv => whnf))
set_option maxHeartbeats 4000000 in
theorem assert_vc (hm : MOk k v) (op a b c : Int)
    (h10 : 1 ≤ v.ns → (v.stk.drop (v.ns - 1)).getD 0 0 = 0 → K (.tuple #[]) (CtxA wA w0 X (ent k { v with ns := v.ns - 1, stk := v.stk.take (v.ns - 1), fail := true, pc := v.pc + 1, spent := v.spent + 1 } q0 bm M)))
    (h11 : 1 ≤ v.ns → (v.stk.drop (v.ns - 1)).getD 0 0 ≠ 0 → K (.tuple #[]) (CtxA wA w0 X (ent k { v with ns := v.ns - 1, stk := v.stk.take (v.ns - 1), pc := v.pc + 1, spent := v.spent + 1 } q0 bm M)))
    (h2 : (¬ 1 ≤ v.ns) → Z [{ v := errV 1, recovered := false }] (CtxA wA w0 X (ent k v q0 bm M))) :
    CallVC Tryz.prog (CtxA wA w0 X (ent k v q0 bm M)) 111 #[.pointer (some ⟨bm, 0, none⟩), .agg #[.int .i64 op, .int .i64 a, .int .i64 b, .int .i64 c]] K Z := by
  have e1 : IntKind.i64.wrap (v.pc + 1) = v.pc + 1 := wrapI (by have := hm.pc; omega)
  have e2 : IntKind.i64.wrap (v.spent + 1) = v.spent + 1 := wrapI (by have := hm.spent; omega)
  refine it111 (by rfl) ?_
  intro w2 X2
  conv => whnf
  repeat' (first
    | (refine RetT.drop (K := K) (ent k { v with ns := v.ns - 1, stk := v.stk.take (v.ns - 1), fail := true, pc := IntKind.i64.wrap (v.pc + 1), spent := IntKind.i64.wrap (v.spent + 1) } q0 bm M) (by repeat (first | exact List.Sublist.refl _ | refine List.Sublist.cons_cons _ ?_ | refine List.Sublist.cons _ ?_)) ?_; (try rw [e1]); (try rw [e2]); exact h10 (by omega) (by assumption))
    | (refine RetT.drop (K := K) (ent k { v with ns := v.ns - 1, stk := v.stk.take (v.ns - 1), pc := IntKind.i64.wrap (v.pc + 1), spent := IntKind.i64.wrap (v.spent + 1) } q0 bm M) (by repeat (first | exact List.Sublist.refl _ | refine List.Sublist.cons_cons _ ?_ | refine List.Sublist.cons _ ?_)) ?_; (try rw [e1]); (try rw [e2]); exact h11 (by omega) (by assumption))
    | (refine PanT.drop (Z := Z) (ent k v q0 bm M) (by repeat (first | exact List.Sublist.refl _ | refine List.Sublist.cons_cons _ ?_ | refine List.Sublist.cons _ ?_)) ?_; refine h2 ?_; first | omega | exact .inl (by omega) | exact .inr ⟨by assumption, by omega⟩)
    | (refine take_vc hm 1 (fun hq A' c' hc' hA' => ?_) (fun hq => ?_) <;> conv => whnf)
    | (refine idxI (by assumption) (by assumption) (by omega) (by omega) (fun bq hb => ?_); conv => whnf)
    | (refine ldRI 0 (by assumption) (by repeat (first | exact List.Mem.head _ | refine List.Mem.tail _ ?_)) (by rfl) (by simp; have := hm.ns; omega) ?_; conv => whnf)
    | (refine JoinVC.go ?_; conv => whnf)
    | (refine RetA.go ?_; conv => whnf)
    | (refine PanA.go ?_; conv => whnf)
    | (refine And.intro ?_ ?_ <;> conv => whnf)
    | (refine ldA (by repeat (first | exact List.Mem.head _ | refine List.Mem.tail _ ?_)) (tab_ok _ _ (by rfl)) (by rfl) (by rfl) ?_; conv => whnf)
    | (refine ldsA (by repeat (first | exact List.Mem.head _ | refine List.Mem.tail _ ?_)) (tab_ok _ _ (by rfl)) (by rfl) ?_; conv => whnf)
    | (refine stA (tab_ok _ _ (by rfl)) (by repeat (first | exact AtE.here | apply AtE.there)) ?_; conv => whnf)
    | (refine ia57 (by rfl) ?_; intro w1 X1; conv => whnf)
    | (refine ia56 (by rfl) ?_; intro w1 X1; conv => whnf)
    | (refine ia136 (by rfl) ?_; intro w1 X1; conv => whnf)
    | (refine ia144 (by rfl) ?_; intro w1 X1; conv => whnf)
    | (refine ia138 (by rfl) ?_; intro w1 X1; conv => whnf)
    | (refine opMkI (by rfl) (tab_ok _ _ (by rfl)) (by rfl) ?_; conv => whnf)
    | (refine opPan (by rfl) (by rfl) ?_; conv => whnf)
    | (refine bsA el23 (by rfl) ?_; (conv => whnf); refine ⟨by rfl, fun bl => ?_⟩; conv => whnf)
    | (refine splitB.dec (fun hb => ?_) (fun hb => ?_) <;> conv => whnf)
    | (refine splitB.ndec (fun hb => ?_) (fun hb => ?_) <;> conv => whnf)
    | (refine splitB.eqI (fun hb => ?_) (fun hb => ?_) <;> conv => whnf)
    | (refine splitB.neI (fun hb => ?_) (fun hb => ?_) <;> conv => whnf)
    | (intro r bx; conv => whnf))
set_option maxHeartbeats 4000000 in
theorem jump_vc (hm : MOk k v) (op a b c : Int)
    (h10 : 0 ≤ a → a < k.ni → K (.tuple #[]) (CtxA wA w0 X (ent k { v with pc := a, spent := v.spent + 1 } q0 bm M)))
    (h2 : (¬ (0 ≤ a ∧ a < k.ni)) → Z [{ v := errV 1, recovered := false }] (CtxA wA w0 X (ent k v q0 bm M))) :
    CallVC Tryz.prog (CtxA wA w0 X (ent k v q0 bm M)) 108 #[.pointer (some ⟨bm, 0, none⟩), .agg #[.int .i64 op, .int .i64 a, .int .i64 b, .int .i64 c]] K Z := by
  have e1 : IntKind.i64.wrap (v.pc + 1) = v.pc + 1 := wrapI (by have := hm.pc; omega)
  have e2 : IntKind.i64.wrap (v.spent + 1) = v.spent + 1 := wrapI (by have := hm.spent; omega)
  refine it108 (by rfl) ?_
  intro w2 X2
  conv => whnf
  repeat' (first
    | (refine RetT.drop (K := K) (ent k { v with pc := a, spent := IntKind.i64.wrap (v.spent + 1) } q0 bm M) (by repeat (first | exact List.Sublist.refl _ | refine List.Sublist.cons_cons _ ?_ | refine List.Sublist.cons _ ?_)) ?_; (try rw [e1]); (try rw [e2]); exact h10 (by omega) (by omega))
    | (refine PanT.drop (Z := Z) (ent k v q0 bm M) (by repeat (first | exact List.Sublist.refl _ | refine List.Sublist.cons_cons _ ?_ | refine List.Sublist.cons _ ?_)) ?_; refine h2 ?_; first | omega | exact .inl (by omega) | exact .inr ⟨by assumption, by omega⟩)
    | (refine JoinVC.go ?_; conv => whnf)
    | (refine RetA.go ?_; conv => whnf)
    | (refine PanA.go ?_; conv => whnf)
    | (refine And.intro ?_ ?_ <;> conv => whnf)
    | (refine ldA (by repeat (first | exact List.Mem.head _ | refine List.Mem.tail _ ?_)) (tab_ok _ _ (by rfl)) (by rfl) (by rfl) ?_; conv => whnf)
    | (refine ldsA (by repeat (first | exact List.Mem.head _ | refine List.Mem.tail _ ?_)) (tab_ok _ _ (by rfl)) (by rfl) ?_; conv => whnf)
    | (refine stA (tab_ok _ _ (by rfl)) (by repeat (first | exact AtE.here | apply AtE.there)) ?_; conv => whnf)
    | (refine ia57 (by rfl) ?_; intro w1 X1; conv => whnf)
    | (refine ia56 (by rfl) ?_; intro w1 X1; conv => whnf)
    | (refine ia145 (by rfl) ?_; intro w1 X1; conv => whnf)
    | (refine ia144 (by rfl) ?_; intro w1 X1; conv => whnf)
    | (refine opMkI (by rfl) (tab_ok _ _ (by rfl)) (by rfl) ?_; conv => whnf)
    | (refine opPan (by rfl) (by rfl) ?_; conv => whnf)
    | (refine bsA el23 (by rfl) ?_; (conv => whnf); refine ⟨by rfl, fun bl => ?_⟩; conv => whnf)
    | (refine splitB.dec (fun hb => ?_) (fun hb => ?_) <;> conv => whnf)
    | (refine splitB.ndec (fun hb => ?_) (fun hb => ?_) <;> conv => whnf)
    | (refine splitB.eqI (fun hb => ?_) (fun hb => ?_) <;> conv => whnf)
    | (refine splitB.neI (fun hb => ?_) (fun hb => ?_) <;> conv => whnf)
    | (intro r bx; conv => whnf))
set_option maxHeartbeats 4000000 in
theorem zero_vc (hm : MOk k v) (op a b c : Int)
    (h10 : 0 ≤ a → a < k.ni → 1 ≤ v.ns → (v.stk.drop (v.ns - 1)).getD 0 0 = 0 → K (.tuple #[]) (CtxA wA w0 X (ent k { v with ns := v.ns - 1, stk := v.stk.take (v.ns - 1), pc := a, spent := v.spent + 1 } q0 bm M)))
    (h11 : 0 ≤ a → a < k.ni → 1 ≤ v.ns → (v.stk.drop (v.ns - 1)).getD 0 0 ≠ 0 → K (.tuple #[]) (CtxA wA w0 X (ent k { v with ns := v.ns - 1, stk := v.stk.take (v.ns - 1), pc := v.pc + 1, spent := v.spent + 1 } q0 bm M)))
    (h2 : (¬ (0 ≤ a ∧ a < k.ni) ∨ ¬ 1 ≤ v.ns) → Z [{ v := errV 1, recovered := false }] (CtxA wA w0 X (ent k v q0 bm M))) :
    CallVC Tryz.prog (CtxA wA w0 X (ent k v q0 bm M)) 109 #[.pointer (some ⟨bm, 0, none⟩), .agg #[.int .i64 op, .int .i64 a, .int .i64 b, .int .i64 c]] K Z := by
  have e1 : IntKind.i64.wrap (v.pc + 1) = v.pc + 1 := wrapI (by have := hm.pc; omega)
  have e2 : IntKind.i64.wrap (v.spent + 1) = v.spent + 1 := wrapI (by have := hm.spent; omega)
  refine it109 (by rfl) ?_
  intro w2 X2
  conv => whnf
  repeat' (first
    | (refine RetT.drop (K := K) (ent k { v with ns := v.ns - 1, stk := v.stk.take (v.ns - 1), pc := a, spent := IntKind.i64.wrap (v.spent + 1) } q0 bm M) (by repeat (first | exact List.Sublist.refl _ | refine List.Sublist.cons_cons _ ?_ | refine List.Sublist.cons _ ?_)) ?_; (try rw [e1]); (try rw [e2]); exact h10 (by omega) (by omega) (by omega) (by assumption))
    | (refine RetT.drop (K := K) (ent k { v with ns := v.ns - 1, stk := v.stk.take (v.ns - 1), pc := IntKind.i64.wrap (v.pc + 1), spent := IntKind.i64.wrap (v.spent + 1) } q0 bm M) (by repeat (first | exact List.Sublist.refl _ | refine List.Sublist.cons_cons _ ?_ | refine List.Sublist.cons _ ?_)) ?_; (try rw [e1]); (try rw [e2]); exact h11 (by omega) (by omega) (by omega) (by assumption))
    | (refine PanT.drop (Z := Z) (ent k v q0 bm M) (by repeat (first | exact List.Sublist.refl _ | refine List.Sublist.cons_cons _ ?_ | refine List.Sublist.cons _ ?_)) ?_; refine h2 ?_; first | omega | exact .inl (by omega) | exact .inr ⟨by assumption, by omega⟩)
    | (refine take_vc hm 1 (fun hq A' c' hc' hA' => ?_) (fun hq => ?_) <;> conv => whnf)
    | (refine idxI (by assumption) (by assumption) (by omega) (by omega) (fun bq hb => ?_); conv => whnf)
    | (refine ldRI 0 (by assumption) (by repeat (first | exact List.Mem.head _ | refine List.Mem.tail _ ?_)) (by rfl) (by simp; have := hm.ns; omega) ?_; conv => whnf)
    | (refine JoinVC.go ?_; conv => whnf)
    | (refine RetA.go ?_; conv => whnf)
    | (refine PanA.go ?_; conv => whnf)
    | (refine And.intro ?_ ?_ <;> conv => whnf)
    | (refine ldA (by repeat (first | exact List.Mem.head _ | refine List.Mem.tail _ ?_)) (tab_ok _ _ (by rfl)) (by rfl) (by rfl) ?_; conv => whnf)
    | (refine ldsA (by repeat (first | exact List.Mem.head _ | refine List.Mem.tail _ ?_)) (tab_ok _ _ (by rfl)) (by rfl) ?_; conv => whnf)
    | (refine stA (tab_ok _ _ (by rfl)) (by repeat (first | exact AtE.here | apply AtE.there)) ?_; conv => whnf)
    | (refine ia57 (by rfl) ?_; intro w1 X1; conv => whnf)
    | (refine ia56 (by rfl) ?_; intro w1 X1; conv => whnf)
    | (refine ia136 (by rfl) ?_; intro w1 X1; conv => whnf)
    | (refine ia144 (by rfl) ?_; intro w1 X1; conv => whnf)
    | (refine ia145 (by rfl) ?_; intro w1 X1; conv => whnf)
    | (refine ia138 (by rfl) ?_; intro w1 X1; conv => whnf)
    | (refine opMkI (by rfl) (tab_ok _ _ (by rfl)) (by rfl) ?_; conv => whnf)
    | (refine opPan (by rfl) (by rfl) ?_; conv => whnf)
    | (refine bsA el23 (by rfl) ?_; (conv => whnf); refine ⟨by rfl, fun bl => ?_⟩; conv => whnf)
    | (refine splitB.dec (fun hb => ?_) (fun hb => ?_) <;> conv => whnf)
    | (refine splitB.ndec (fun hb => ?_) (fun hb => ?_) <;> conv => whnf)
    | (refine splitB.eqI (fun hb => ?_) (fun hb => ?_) <;> conv => whnf)
    | (refine splitB.neI (fun hb => ?_) (fun hb => ?_) <;> conv => whnf)
    | (intro r bx; conv => whnf))
set_option maxHeartbeats 4000000 in
theorem sync_vc (hm : MOk k v) (op a b c : Int)
    (h10 : k.nk ≠ 0 → K (.tuple #[]) (CtxA wA w0 X (ent k v { q0 with kind := 5 } bm M)))
    (h11 : k.nk = 0 → K (.tuple #[]) (CtxA wA w0 X (ent k { v with pc := v.pc + 1, spent := v.spent + 1 } q0 bm M))) :
    CallVC Tryz.prog (CtxA wA w0 X (ent k v q0 bm M)) 107 #[.pointer (some ⟨bm, 0, none⟩), .agg #[.int .i64 op, .int .i64 a, .int .i64 b, .int .i64 c]] K Z := by
  have e1 : IntKind.i64.wrap (v.pc + 1) = v.pc + 1 := wrapI (by have := hm.pc; omega)
  have e2 : IntKind.i64.wrap (v.spent + 1) = v.spent + 1 := wrapI (by have := hm.spent; omega)
  refine it107 (by rfl) ?_
  intro w2 X2
  conv => whnf
  repeat' (first
    | (refine RetT.drop (K := K) (ent k v { q0 with kind := 5 } bm M) (by repeat (first | exact List.Sublist.refl _ | refine List.Sublist.cons_cons _ ?_ | refine List.Sublist.cons _ ?_)) ?_; (try rw [e1]); (try rw [e2]); exact h10 (by omega))
    | (refine RetT.drop (K := K) (ent k { v with pc := IntKind.i64.wrap (v.pc + 1), spent := IntKind.i64.wrap (v.spent + 1) } q0 bm M) (by repeat (first | exact List.Sublist.refl _ | refine List.Sublist.cons_cons _ ?_ | refine List.Sublist.cons _ ?_)) ?_; (try rw [e1]); (try rw [e2]); exact h11 (by omega))
    | (refine PanT.drop (Z := Z) (ent k v q0 bm M) (by repeat (first | exact List.Sublist.refl _ | refine List.Sublist.cons_cons _ ?_ | refine List.Sublist.cons _ ?_)) ?_; refine h2 ?_; first | omega | exact .inl (by omega) | exact .inr ⟨by assumption, by omega⟩)
    | (refine JoinVC.go ?_; conv => whnf)
    | (refine RetA.go ?_; conv => whnf)
    | (refine PanA.go ?_; conv => whnf)
    | (refine And.intro ?_ ?_ <;> conv => whnf)
    | (refine ldA (by repeat (first | exact List.Mem.head _ | refine List.Mem.tail _ ?_)) (tab_ok _ _ (by rfl)) (by rfl) (by rfl) ?_; conv => whnf)
    | (refine ldsA (by repeat (first | exact List.Mem.head _ | refine List.Mem.tail _ ?_)) (tab_ok _ _ (by rfl)) (by rfl) ?_; conv => whnf)
    | (refine stA (tab_ok _ _ (by rfl)) (by repeat (first | exact AtE.here | apply AtE.there)) ?_; conv => whnf)
    | (refine ia57 (by rfl) ?_; intro w1 X1; conv => whnf)
    | (refine ia56 (by rfl) ?_; intro w1 X1; conv => whnf)
    | (refine ia136 (by rfl) ?_; intro w1 X1; conv => whnf)
    | (refine ia144 (by rfl) ?_; intro w1 X1; conv => whnf)
    | (refine ia143 (by rfl) ?_; intro w1 X1; conv => whnf)
    | (refine opMkI (by rfl) (tab_ok _ _ (by rfl)) (by rfl) ?_; conv => whnf)
    | (refine opPan (by rfl) (by rfl) ?_; conv => whnf)
    | (refine bsA el23 (by rfl) ?_; (conv => whnf); refine ⟨by rfl, fun bl => ?_⟩; conv => whnf)
    | (refine splitB.dec (fun hb => ?_) (fun hb => ?_) <;> conv => whnf)
    | (refine splitB.ndec (fun hb => ?_) (fun hb => ?_) <;> conv => whnf)
    | (refine splitB.eqI (fun hb => ?_) (fun hb => ?_) <;> conv => whnf)
    | (refine splitB.neI (fun hb => ?_) (fun hb => ?_) <;> conv => whnf)
    | (intro r bx; conv => whnf))
set_option maxHeartbeats 4000000 in
theorem end_vc (hm : MOk k v) (op a b c : Int)
    (h10 : k.nk ≠ 0 → K (.tuple #[]) (CtxA wA w0 X (ent k v { q0 with kind := 5 } bm M)))
    (h11 : k.nk = 0 → 1 ≤ v.ns → K (.tuple #[]) (CtxA wA w0 X (ent k { v with ns := v.ns - 1, stk := v.stk.take (v.ns - 1), pc := v.pc + 1, spent := v.spent + 1 } { q0 with kind := 6, a := (v.stk.drop (v.ns - 1)).getD 0 0 } bm M)))
    (h2 : (k.nk = 0 ∧ ¬ 1 ≤ v.ns) → Z [{ v := errV 1, recovered := false }] (CtxA wA w0 X (ent k v q0 bm M))) :
    CallVC Tryz.prog (CtxA wA w0 X (ent k v q0 bm M)) 110 #[.pointer (some ⟨bm, 0, none⟩), .agg #[.int .i64 op, .int .i64 a, .int .i64 b, .int .i64 c]] K Z := by
  have e1 : IntKind.i64.wrap (v.pc + 1) = v.pc + 1 := wrapI (by have := hm.pc; omega)
  have e2 : IntKind.i64.wrap (v.spent + 1) = v.spent + 1 := wrapI (by have := hm.spent; omega)
  refine it110 (by rfl) ?_
  intro w2 X2
  conv => whnf
  repeat' (first
    | (refine RetT.drop (K := K) (ent k v { q0 with kind := 5 } bm M) (by repeat (first | exact List.Sublist.refl _ | refine List.Sublist.cons_cons _ ?_ | refine List.Sublist.cons _ ?_)) ?_; (try rw [e1]); (try rw [e2]); exact h10 (by omega))
    | (refine RetT.drop (K := K) (ent k { v with ns := v.ns - 1, stk := v.stk.take (v.ns - 1), pc := IntKind.i64.wrap (v.pc + 1), spent := IntKind.i64.wrap (v.spent + 1) } { q0 with kind := 6, a := (v.stk.drop (v.ns - 1)).getD 0 0 } bm M) (by repeat (first | exact List.Sublist.refl _ | refine List.Sublist.cons_cons _ ?_ | refine List.Sublist.cons _ ?_)) ?_; (try rw [e1]); (try rw [e2]); exact h11 (by omega) (by omega))
    | (refine PanT.drop (Z := Z) (ent k v q0 bm M) (by repeat (first | exact List.Sublist.refl _ | refine List.Sublist.cons_cons _ ?_ | refine List.Sublist.cons _ ?_)) ?_; refine h2 ?_; first | omega | exact .inl (by omega) | exact .inr ⟨by assumption, by omega⟩)
    | (refine take_vc hm 1 (fun hq A' c' hc' hA' => ?_) (fun hq => ?_) <;> conv => whnf)
    | (refine idxI (by assumption) (by assumption) (by omega) (by omega) (fun bq hb => ?_); conv => whnf)
    | (refine ldRI 0 (by assumption) (by repeat (first | exact List.Mem.head _ | refine List.Mem.tail _ ?_)) (by rfl) (by simp; have := hm.ns; omega) ?_; conv => whnf)
    | (refine JoinVC.go ?_; conv => whnf)
    | (refine RetA.go ?_; conv => whnf)
    | (refine PanA.go ?_; conv => whnf)
    | (refine And.intro ?_ ?_ <;> conv => whnf)
    | (refine ldA (by repeat (first | exact List.Mem.head _ | refine List.Mem.tail _ ?_)) (tab_ok _ _ (by rfl)) (by rfl) (by rfl) ?_; conv => whnf)
    | (refine ldsA (by repeat (first | exact List.Mem.head _ | refine List.Mem.tail _ ?_)) (tab_ok _ _ (by rfl)) (by rfl) ?_; conv => whnf)
    | (refine stA (tab_ok _ _ (by rfl)) (by repeat (first | exact AtE.here | apply AtE.there)) ?_; conv => whnf)
    | (refine ia57 (by rfl) ?_; intro w1 X1; conv => whnf)
    | (refine ia56 (by rfl) ?_; intro w1 X1; conv => whnf)
    | (refine ia136 (by rfl) ?_; intro w1 X1; conv => whnf)
    | (refine ia144 (by rfl) ?_; intro w1 X1; conv => whnf)
    | (refine ia143 (by rfl) ?_; intro w1 X1; conv => whnf)
    | (refine ia138 (by rfl) ?_; intro w1 X1; conv => whnf)
    | (refine opMkI (by rfl) (tab_ok _ _ (by rfl)) (by rfl) ?_; conv => whnf)
    | (refine opPan (by rfl) (by rfl) ?_; conv => whnf)
    | (refine bsA el23 (by rfl) ?_; (conv => whnf); refine ⟨by rfl, fun bl => ?_⟩; conv => whnf)
    | (refine splitB.dec (fun hb => ?_) (fun hb => ?_) <;> conv => whnf)
    | (refine splitB.ndec (fun hb => ?_) (fun hb => ?_) <;> conv => whnf)
    | (refine splitB.eqI (fun hb => ?_) (fun hb => ?_) <;> conv => whnf)
    | (refine splitB.neI (fun hb => ?_) (fun hb => ?_) <;> conv => whnf)
    | (intro r bx; conv => whnf))
set_option maxHeartbeats 4000000 in
theorem local_vc (hm : MOk k v) (op a b c : Int)
    (h10 : 0 ≤ a → a < v.nl → awaits k.kids a = true → K (.tuple #[]) (CtxA wA w0 X (ent k v { q0 with kind := 5 } bm M)))
    (h11 : 0 ≤ a → a < v.nl → awaits k.kids a = false → v.ns < 100 → ∀ A' c', v.ns + 1 ≤ c' → (0 < c' → ∃ b, A' = some ⟨b, 0, none⟩) → K (.tuple #[]) (CtxA wA w0 X (ent k { v with As := A', ns := v.ns + 1, cs := c', stk := v.stk ++ [v.loc.getD a.toNat 0], pc := v.pc + 1, spent := v.spent + 1 } q0 bm M)))
    (h2 : (¬ (0 ≤ a ∧ a < v.nl) ∨ awaits k.kids a = false ∧ ¬ v.ns < 100) → Z [{ v := errV 1, recovered := false }] (CtxA wA w0 X (ent k v q0 bm M))) :
    CallVC Tryz.prog (CtxA wA w0 X (ent k v q0 bm M)) 92 #[.pointer (some ⟨bm, 0, none⟩), .agg #[.int .i64 op, .int .i64 a, .int .i64 b, .int .i64 c]] K Z := by
  have e1 : IntKind.i64.wrap (v.pc + 1) = v.pc + 1 := wrapI (by have := hm.pc; omega)
  have e2 : IntKind.i64.wrap (v.spent + 1) = v.spent + 1 := wrapI (by have := hm.spent; omega)
  refine it92 (by rfl) ?_
  intro w2 X2
  conv => whnf
  repeat' (first
    | (refine RetT.drop (K := K) (ent k v { q0 with kind := 5 } bm M) (by repeat (first | exact List.Sublist.refl _ | refine List.Sublist.cons_cons _ ?_ | refine List.Sublist.cons _ ?_)) ?_; (try rw [e1]); (try rw [e2]); exact h10 (by omega) (by omega) (by assumption))
    | (refine RetT.drop (K := K) (ent k { v with As := _, ns := v.ns + 1, cs := _, stk := v.stk ++ [v.loc.getD a.toNat 0], pc := IntKind.i64.wrap (v.pc + 1), spent := IntKind.i64.wrap (v.spent + 1) } q0 bm M) (by repeat (first | exact List.Sublist.refl _ | refine List.Sublist.cons_cons _ ?_ | refine List.Sublist.cons _ ?_)) ?_; (try rw [e1]); (try rw [e2]); exact h11 (by omega) (by omega) (by assumption) (by omega) _ _ (by assumption) (by assumption))
    | (refine PanT.drop (Z := Z) (ent k v q0 bm M) (by repeat (first | exact List.Sublist.refl _ | refine List.Sublist.cons_cons _ ?_ | refine List.Sublist.cons _ ?_)) ?_; refine h2 ?_; first | omega | exact .inl (by omega) | exact .inr ⟨by assumption, by omega⟩)
    | (refine wait_vc hm a (fun _ _ hw => ?_) (fun _ _ hw => ?_) (fun hw => ?_) <;> conv => whnf)
    | (refine idxI hm.Al hm.cl (by omega) (by omega) (fun bq hb => ?_); conv => whnf)
    | (refine ldRI a.toNat (by assumption) (by repeat (first | exact List.Mem.head _ | refine List.Mem.tail _ ?_)) (by rfl) (by have := hm.nl; omega) ?_; conv => whnf)
    | (refine appI [_] (SrcA.own el23 (by repeat (first | exact List.Mem.head _ | refine List.Mem.tail _ ?_)) (allOne_spec (by rfl)) _) (by rfl) (by repeat (first | exact AtE.here | apply AtE.there)) (by have := hm.sm; omega) ?_; intro A' c' hc' hA'; conv => whnf)
    | (refine JoinVC.go ?_; conv => whnf)
    | (refine RetA.go ?_; conv => whnf)
    | (refine PanA.go ?_; conv => whnf)
    | (refine And.intro ?_ ?_ <;> conv => whnf)
    | (refine ldA (by repeat (first | exact List.Mem.head _ | refine List.Mem.tail _ ?_)) (tab_ok _ _ (by rfl)) (by rfl) (by rfl) ?_; conv => whnf)
    | (refine ldsA (by repeat (first | exact List.Mem.head _ | refine List.Mem.tail _ ?_)) (tab_ok _ _ (by rfl)) (by rfl) ?_; conv => whnf)
    | (refine stA (tab_ok _ _ (by rfl)) (by repeat (first | exact AtE.here | apply AtE.there)) ?_; conv => whnf)
    | (refine ia57 (by rfl) ?_; intro w1 X1; conv => whnf)
    | (refine ia56 (by rfl) ?_; intro w1 X1; conv => whnf)
    | (refine ia136 (by rfl) ?_; intro w1 X1; conv => whnf)
    | (refine ia144 (by rfl) ?_; intro w1 X1; conv => whnf)
    | (refine ia135 (by rfl) ?_; intro w1 X1; conv => whnf)
    | (refine opMkI (by rfl) (tab_ok _ _ (by rfl)) (by rfl) ?_; conv => whnf)
    | (refine opPan (by rfl) (by rfl) ?_; conv => whnf)
    | (refine bsA el23 (by rfl) ?_; (conv => whnf); refine ⟨by rfl, fun bl => ?_⟩; conv => whnf)
    | (refine splitB.dec (fun hb => ?_) (fun hb => ?_) <;> conv => whnf)
    | (refine splitB.ndec (fun hb => ?_) (fun hb => ?_) <;> conv => whnf)
    | (refine splitB.eqI (fun hb => ?_) (fun hb => ?_) <;> conv => whnf)
    | (refine splitB.neI (fun hb => ?_) (fun hb => ?_) <;> conv => whnf)
    | (intro r bx; conv => whnf))
end
end Go.Proofs.YtgaopcbjhepklaaGreat
