/- A frame that goes on: its instructions (3); printed by genza.py. -/
import Derived.Test.YtgaopcbjhepklaaGreatZb
namespace Go.Proofs.YtgaopcbjhepklaaGreat
open Go.RowKit
set_option linter.unusedSimpArgs false
set_option linter.unusedVariables false
set_option maxRecDepth 100000
section
variable {wA w0 : World} {X : Nat → Prop} {M : EL} {K : Value → Ctx → Prop} {Z : PanK} {k : MK} {v : MV} {bm : Nat}
set_option maxHeartbeats 4000000 in
theorem call1_vc (hm : MOk k v) (op b c : Int)
    (h10 : 0 ≤ b → b < k.maps → c = 1 → 1 ≤ v.ns → K (.tuple #[]) (CtxA wA w0 X (ent k { v with ns := v.ns - 1, stk := v.stk.take (v.ns - 1), pc := v.pc + 1, spent := v.spent + 1 } { q0 with kind := 3, o0 := 1, o1 := b, o2 := ((v.stk.drop (v.ns - 1) ++ [0, 0]).getD 0 0) % 65536, o3 := (v.stk.drop (v.ns - 1) ++ [0, 0]).getD 1 0 } bm M)))
    (h2 : (¬ (0 ≤ b ∧ b < k.maps ∧ c = 1 ∧ 1 ≤ v.ns)) → Z [{ v := errV 1, recovered := false }] (CtxA wA w0 X (ent k v q0 bm M))) :
    CallVC Tryz.prog (CtxA wA w0 X (ent k v q0 bm M)) 104 #[.pointer (some ⟨bm, 0, none⟩), .agg #[.int .i64 op, .int .i64 1, .int .i64 b, .int .i64 c]] K Z := by
  have e1 : IntKind.i64.wrap (v.pc + 1) = v.pc + 1 := wrapI (by have := hm.pc; omega)
  have e2 : IntKind.i64.wrap (v.spent + 1) = v.spent + 1 := wrapI (by have := hm.spent; omega)
  refine it104 (by rfl) ?_
  intro w2 X2
  conv => whnf
  repeat' (first
    | (refine RetT.drop (K := K) (ent k { v with ns := v.ns - 1, stk := v.stk.take (v.ns - 1), pc := IntKind.i64.wrap (v.pc + 1), spent := IntKind.i64.wrap (v.spent + 1) } { q0 with kind := 3, o0 := 1, o1 := b, o2 := ((v.stk.drop (v.ns - 1) ++ [0, 0]).getD 0 0) % 65536, o3 := (v.stk.drop (v.ns - 1) ++ [0, 0]).getD 1 0 } bm M) (by repeat (first | exact List.Sublist.refl _ | refine List.Sublist.cons_cons _ ?_ | refine List.Sublist.cons _ ?_)) ?_; rw [e1, e2]; exact h10 (by omega) (by omega) (by omega) (by omega))
    | (refine PanT.drop (Z := Z) (ent k v q0 bm M) (by repeat (first | exact List.Sublist.refl _ | refine List.Sublist.cons_cons _ ?_ | refine List.Sublist.cons _ ?_)) ?_; refine h2 ?_; first | omega | exact .inl (by omega) | exact .inr ⟨by assumption, by omega⟩)
    | (refine take_vc hm 1 (fun hq A' c' hc' hA' => ?_) (fun hq => ?_) <;> conv => whnf)
    | (refine idxI (by assumption) (by assumption) (by omega) (by omega) (fun bq hb => ?_); conv => whnf)
    | (refine ldRI 0 (by assumption) (by repeat (first | exact List.Mem.head _ | refine List.Mem.tail _ ?_)) (by rfl) (by simp <;> (have := hm.ns; omega)) ?_; conv => whnf)
    | (refine ldRI 1 (by assumption) (by repeat (first | exact List.Mem.head _ | refine List.Mem.tail _ ?_)) (by rfl) (by simp <;> (have := hm.ns; omega)) ?_; conv => whnf)
    | (refine and16 ?_; conv => whnf)
    | (refine appI [0, 0] (SrcA.own el23 (by repeat (first | exact List.Mem.head _ | refine List.Mem.tail _ ?_)) (allOne_spec (by rfl)) _) (by rfl) (by repeat (first | exact AtE.here | apply AtE.there)) (by omega) ?_; intro A' c' hc' hA'; conv => whnf)
    | (refine JoinVC.go ?_; conv => whnf)
    | (refine RetA.go ?_; conv => whnf)
    | (refine PanA.go ?_; conv => whnf)
    | (refine And.intro ?_ ?_ <;> conv => whnf)
    | (refine ldA (by repeat (first | exact List.Mem.head _ | refine List.Mem.tail _ ?_)) (tab_ok _ _ (by rfl)) (by rfl) (by rfl) ?_; conv => whnf)
    | (refine ldsA (by repeat (first | exact List.Mem.head _ | refine List.Mem.tail _ ?_)) (tab_ok _ _ (by rfl)) (by rfl) ?_; conv => whnf)
    | (refine stA (tab_ok _ _ (by rfl)) (by repeat (first | exact AtE.here | apply AtE.there)) ?_; conv => whnf)
    | (refine ia57 (by rfl) ?_; intro w1 X1; conv => whnf)
    | (refine ia56 (by rfl) ?_; intro w1 X1; conv => whnf)
    | (refine ia136 (by rfl) ?_; intro w1 X1; conv => whnf)
    | (refine ia144 (by rfl) ?_; intro w1 X1; conv => whnf)
    | (refine ia141 (by rfl) ?_; intro w1 X1; conv => whnf)
    | (refine ia142 (by rfl) ?_; intro w1 X1; conv => whnf)
    | (refine opMkI (by rfl) (tab_ok _ _ (by rfl)) (by rfl) ?_; conv => whnf)
    | (refine opPan (by rfl) (by rfl) ?_; conv => whnf)
    | (refine bsA el23 (by rfl) ?_; (conv => whnf); refine ⟨by rfl, fun bl => ?_⟩; conv => whnf)
    | (refine splitB.dec (fun hb => ?_) (fun hb => ?_) <;> conv => whnf)
    | (refine splitB.ndec (fun hb => ?_) (fun hb => ?_) <;> conv => whnf)
    | (refine splitB.eqI (fun hb => ?_) (fun hb => ?_) <;> conv => whnf)
    | (refine splitB.neI (fun hb => ?_) (fun hb => ?_) <;> conv => whnf)
    | (intro r bx; conv => whnf))
set_option maxHeartbeats 4000000 in
theorem call2_vc (hm : MOk k v) (op b c : Int)
    (h10 : 0 ≤ b → b < k.maps → c = 2 → 2 ≤ v.ns → K (.tuple #[]) (CtxA wA w0 X (ent k { v with ns := v.ns - 2, stk := v.stk.take (v.ns - 2), pc := v.pc + 1, spent := v.spent + 1 } { q0 with kind := 3, o0 := 2, o1 := b, o2 := ((v.stk.drop (v.ns - 2) ++ [0, 0]).getD 0 0) % 65536, o3 := (v.stk.drop (v.ns - 2) ++ [0, 0]).getD 1 0 } bm M)))
    (h2 : (¬ (0 ≤ b ∧ b < k.maps ∧ c = 2 ∧ 2 ≤ v.ns)) → Z [{ v := errV 1, recovered := false }] (CtxA wA w0 X (ent k v q0 bm M))) :
    CallVC Tryz.prog (CtxA wA w0 X (ent k v q0 bm M)) 104 #[.pointer (some ⟨bm, 0, none⟩), .agg #[.int .i64 op, .int .i64 2, .int .i64 b, .int .i64 c]] K Z := by
  have e1 : IntKind.i64.wrap (v.pc + 1) = v.pc + 1 := wrapI (by have := hm.pc; omega)
  have e2 : IntKind.i64.wrap (v.spent + 1) = v.spent + 1 := wrapI (by have := hm.spent; omega)
  refine it104 (by rfl) ?_
  intro w2 X2
  conv => whnf
  repeat' (first
    | (refine RetT.drop (K := K) (ent k { v with ns := v.ns - 2, stk := v.stk.take (v.ns - 2), pc := IntKind.i64.wrap (v.pc + 1), spent := IntKind.i64.wrap (v.spent + 1) } { q0 with kind := 3, o0 := 2, o1 := b, o2 := ((v.stk.drop (v.ns - 2) ++ [0, 0]).getD 0 0) % 65536, o3 := (v.stk.drop (v.ns - 2) ++ [0, 0]).getD 1 0 } bm M) (by repeat (first | exact List.Sublist.refl _ | refine List.Sublist.cons_cons _ ?_ | refine List.Sublist.cons _ ?_)) ?_; rw [e1, e2]; exact h10 (by omega) (by omega) (by omega) (by omega))
    | (refine PanT.drop (Z := Z) (ent k v q0 bm M) (by repeat (first | exact List.Sublist.refl _ | refine List.Sublist.cons_cons _ ?_ | refine List.Sublist.cons _ ?_)) ?_; refine h2 ?_; first | omega | exact .inl (by omega) | exact .inr ⟨by assumption, by omega⟩)
    | (refine take_vc hm 2 (fun hq A' c' hc' hA' => ?_) (fun hq => ?_) <;> conv => whnf)
    | (refine idxI (by assumption) (by assumption) (by omega) (by omega) (fun bq hb => ?_); conv => whnf)
    | (refine ldRI 0 (by assumption) (by repeat (first | exact List.Mem.head _ | refine List.Mem.tail _ ?_)) (by rfl) (by simp <;> (have := hm.ns; omega)) ?_; conv => whnf)
    | (refine ldRI 1 (by assumption) (by repeat (first | exact List.Mem.head _ | refine List.Mem.tail _ ?_)) (by rfl) (by simp <;> (have := hm.ns; omega)) ?_; conv => whnf)
    | (refine and16 ?_; conv => whnf)
    | (refine appI [0, 0] (SrcA.own el23 (by repeat (first | exact List.Mem.head _ | refine List.Mem.tail _ ?_)) (allOne_spec (by rfl)) _) (by rfl) (by repeat (first | exact AtE.here | apply AtE.there)) (by omega) ?_; intro A' c' hc' hA'; conv => whnf)
    | (refine JoinVC.go ?_; conv => whnf)
    | (refine RetA.go ?_; conv => whnf)
    | (refine PanA.go ?_; conv => whnf)
    | (refine And.intro ?_ ?_ <;> conv => whnf)
    | (refine ldA (by repeat (first | exact List.Mem.head _ | refine List.Mem.tail _ ?_)) (tab_ok _ _ (by rfl)) (by rfl) (by rfl) ?_; conv => whnf)
    | (refine ldsA (by repeat (first | exact List.Mem.head _ | refine List.Mem.tail _ ?_)) (tab_ok _ _ (by rfl)) (by rfl) ?_; conv => whnf)
    | (refine stA (tab_ok _ _ (by rfl)) (by repeat (first | exact AtE.here | apply AtE.there)) ?_; conv => whnf)
    | (refine ia57 (by rfl) ?_; intro w1 X1; conv => whnf)
    | (refine ia56 (by rfl) ?_; intro w1 X1; conv => whnf)
    | (refine ia136 (by rfl) ?_; intro w1 X1; conv => whnf)
    | (refine ia144 (by rfl) ?_; intro w1 X1; conv => whnf)
    | (refine ia141 (by rfl) ?_; intro w1 X1; conv => whnf)
    | (refine ia142 (by rfl) ?_; intro w1 X1; conv => whnf)
    | (refine opMkI (by rfl) (tab_ok _ _ (by rfl)) (by rfl) ?_; conv => whnf)
    | (refine opPan (by rfl) (by rfl) ?_; conv => whnf)
    | (refine bsA el23 (by rfl) ?_; (conv => whnf); refine ⟨by rfl, fun bl => ?_⟩; conv => whnf)
    | (refine splitB.dec (fun hb => ?_) (fun hb => ?_) <;> conv => whnf)
    | (refine splitB.ndec (fun hb => ?_) (fun hb => ?_) <;> conv => whnf)
    | (refine splitB.eqI (fun hb => ?_) (fun hb => ?_) <;> conv => whnf)
    | (refine splitB.neI (fun hb => ?_) (fun hb => ?_) <;> conv => whnf)
    | (intro r bx; conv => whnf))
set_option maxHeartbeats 4000000 in
theorem call3_vc (hm : MOk k v) (op b c : Int)
    (h10 : 0 ≤ b → b < k.maps → c = 1 → 1 ≤ v.ns → K (.tuple #[]) (CtxA wA w0 X (ent k { v with ns := v.ns - 1, stk := v.stk.take (v.ns - 1), pc := v.pc + 1, spent := v.spent + 1 } { q0 with kind := 3, o0 := 3, o1 := b, o2 := ((v.stk.drop (v.ns - 1) ++ [0, 0]).getD 0 0) % 65536, o3 := (v.stk.drop (v.ns - 1) ++ [0, 0]).getD 1 0 } bm M)))
    (h2 : (¬ (0 ≤ b ∧ b < k.maps ∧ c = 1 ∧ 1 ≤ v.ns)) → Z [{ v := errV 1, recovered := false }] (CtxA wA w0 X (ent k v q0 bm M))) :
    CallVC Tryz.prog (CtxA wA w0 X (ent k v q0 bm M)) 104 #[.pointer (some ⟨bm, 0, none⟩), .agg #[.int .i64 op, .int .i64 3, .int .i64 b, .int .i64 c]] K Z := by
  have e1 : IntKind.i64.wrap (v.pc + 1) = v.pc + 1 := wrapI (by have := hm.pc; omega)
  have e2 : IntKind.i64.wrap (v.spent + 1) = v.spent + 1 := wrapI (by have := hm.spent; omega)
  refine it104 (by rfl) ?_
  intro w2 X2
  conv => whnf
  repeat' (first
    | (refine RetT.drop (K := K) (ent k { v with ns := v.ns - 1, stk := v.stk.take (v.ns - 1), pc := IntKind.i64.wrap (v.pc + 1), spent := IntKind.i64.wrap (v.spent + 1) } { q0 with kind := 3, o0 := 3, o1 := b, o2 := ((v.stk.drop (v.ns - 1) ++ [0, 0]).getD 0 0) % 65536, o3 := (v.stk.drop (v.ns - 1) ++ [0, 0]).getD 1 0 } bm M) (by repeat (first | exact List.Sublist.refl _ | refine List.Sublist.cons_cons _ ?_ | refine List.Sublist.cons _ ?_)) ?_; rw [e1, e2]; exact h10 (by omega) (by omega) (by omega) (by omega))
    | (refine PanT.drop (Z := Z) (ent k v q0 bm M) (by repeat (first | exact List.Sublist.refl _ | refine List.Sublist.cons_cons _ ?_ | refine List.Sublist.cons _ ?_)) ?_; refine h2 ?_; first | omega | exact .inl (by omega) | exact .inr ⟨by assumption, by omega⟩)
    | (refine take_vc hm 1 (fun hq A' c' hc' hA' => ?_) (fun hq => ?_) <;> conv => whnf)
    | (refine idxI (by assumption) (by assumption) (by omega) (by omega) (fun bq hb => ?_); conv => whnf)
    | (refine ldRI 0 (by assumption) (by repeat (first | exact List.Mem.head _ | refine List.Mem.tail _ ?_)) (by rfl) (by simp <;> (have := hm.ns; omega)) ?_; conv => whnf)
    | (refine ldRI 1 (by assumption) (by repeat (first | exact List.Mem.head _ | refine List.Mem.tail _ ?_)) (by rfl) (by simp <;> (have := hm.ns; omega)) ?_; conv => whnf)
    | (refine and16 ?_; conv => whnf)
    | (refine appI [0, 0] (SrcA.own el23 (by repeat (first | exact List.Mem.head _ | refine List.Mem.tail _ ?_)) (allOne_spec (by rfl)) _) (by rfl) (by repeat (first | exact AtE.here | apply AtE.there)) (by omega) ?_; intro A' c' hc' hA'; conv => whnf)
    | (refine JoinVC.go ?_; conv => whnf)
    | (refine RetA.go ?_; conv => whnf)
    | (refine PanA.go ?_; conv => whnf)
    | (refine And.intro ?_ ?_ <;> conv => whnf)
    | (refine ldA (by repeat (first | exact List.Mem.head _ | refine List.Mem.tail _ ?_)) (tab_ok _ _ (by rfl)) (by rfl) (by rfl) ?_; conv => whnf)
    | (refine ldsA (by repeat (first | exact List.Mem.head _ | refine List.Mem.tail _ ?_)) (tab_ok _ _ (by rfl)) (by rfl) ?_; conv => whnf)
    | (refine stA (tab_ok _ _ (by rfl)) (by repeat (first | exact AtE.here | apply AtE.there)) ?_; conv => whnf)
    | (refine ia57 (by rfl) ?_; intro w1 X1; conv => whnf)
    | (refine ia56 (by rfl) ?_; intro w1 X1; conv => whnf)
    | (refine ia136 (by rfl) ?_; intro w1 X1; conv => whnf)
    | (refine ia144 (by rfl) ?_; intro w1 X1; conv => whnf)
    | (refine ia141 (by rfl) ?_; intro w1 X1; conv => whnf)
    | (refine ia142 (by rfl) ?_; intro w1 X1; conv => whnf)
    | (refine opMkI (by rfl) (tab_ok _ _ (by rfl)) (by rfl) ?_; conv => whnf)
    | (refine opPan (by rfl) (by rfl) ?_; conv => whnf)
    | (refine bsA el23 (by rfl) ?_; (conv => whnf); refine ⟨by rfl, fun bl => ?_⟩; conv => whnf)
    | (refine splitB.dec (fun hb => ?_) (fun hb => ?_) <;> conv => whnf)
    | (refine splitB.ndec (fun hb => ?_) (fun hb => ?_) <;> conv => whnf)
    | (refine splitB.eqI (fun hb => ?_) (fun hb => ?_) <;> conv => whnf)
    | (refine splitB.neI (fun hb => ?_) (fun hb => ?_) <;> conv => whnf)
    | (intro r bx; conv => whnf))
set_option maxHeartbeats 4000000 in
theorem call4_vc (hm : MOk k v) (op b c : Int)
    (h10 : 0 ≤ b → b < k.stacks → c = 1 → 1 ≤ v.ns → K (.tuple #[]) (CtxA wA w0 X (ent k { v with ns := v.ns - 1, stk := v.stk.take (v.ns - 1), pc := v.pc + 1, spent := v.spent + 1 } { q0 with kind := 3, o0 := 4, o1 := b, o2 := ((v.stk.drop (v.ns - 1) ++ [0, 0]).getD 0 0), o3 := (v.stk.drop (v.ns - 1) ++ [0, 0]).getD 1 0 } bm M)))
    (h2 : (¬ (0 ≤ b ∧ b < k.stacks ∧ c = 1 ∧ 1 ≤ v.ns)) → Z [{ v := errV 1, recovered := false }] (CtxA wA w0 X (ent k v q0 bm M))) :
    CallVC Tryz.prog (CtxA wA w0 X (ent k v q0 bm M)) 104 #[.pointer (some ⟨bm, 0, none⟩), .agg #[.int .i64 op, .int .i64 4, .int .i64 b, .int .i64 c]] K Z := by
  have e1 : IntKind.i64.wrap (v.pc + 1) = v.pc + 1 := wrapI (by have := hm.pc; omega)
  have e2 : IntKind.i64.wrap (v.spent + 1) = v.spent + 1 := wrapI (by have := hm.spent; omega)
  refine it104 (by rfl) ?_
  intro w2 X2
  conv => whnf
  repeat' (first
    | (refine RetT.drop (K := K) (ent k { v with ns := v.ns - 1, stk := v.stk.take (v.ns - 1), pc := IntKind.i64.wrap (v.pc + 1), spent := IntKind.i64.wrap (v.spent + 1) } { q0 with kind := 3, o0 := 4, o1 := b, o2 := ((v.stk.drop (v.ns - 1) ++ [0, 0]).getD 0 0), o3 := (v.stk.drop (v.ns - 1) ++ [0, 0]).getD 1 0 } bm M) (by repeat (first | exact List.Sublist.refl _ | refine List.Sublist.cons_cons _ ?_ | refine List.Sublist.cons _ ?_)) ?_; rw [e1, e2]; exact h10 (by omega) (by omega) (by omega) (by omega))
    | (refine PanT.drop (Z := Z) (ent k v q0 bm M) (by repeat (first | exact List.Sublist.refl _ | refine List.Sublist.cons_cons _ ?_ | refine List.Sublist.cons _ ?_)) ?_; refine h2 ?_; first | omega | exact .inl (by omega) | exact .inr ⟨by assumption, by omega⟩)
    | (refine take_vc hm 1 (fun hq A' c' hc' hA' => ?_) (fun hq => ?_) <;> conv => whnf)
    | (refine idxI (by assumption) (by assumption) (by omega) (by omega) (fun bq hb => ?_); conv => whnf)
    | (refine ldRI 0 (by assumption) (by repeat (first | exact List.Mem.head _ | refine List.Mem.tail _ ?_)) (by rfl) (by simp <;> (have := hm.ns; omega)) ?_; conv => whnf)
    | (refine ldRI 1 (by assumption) (by repeat (first | exact List.Mem.head _ | refine List.Mem.tail _ ?_)) (by rfl) (by simp <;> (have := hm.ns; omega)) ?_; conv => whnf)
    | (refine and16 ?_; conv => whnf)
    | (refine appI [0, 0] (SrcA.own el23 (by repeat (first | exact List.Mem.head _ | refine List.Mem.tail _ ?_)) (allOne_spec (by rfl)) _) (by rfl) (by repeat (first | exact AtE.here | apply AtE.there)) (by omega) ?_; intro A' c' hc' hA'; conv => whnf)
    | (refine JoinVC.go ?_; conv => whnf)
    | (refine RetA.go ?_; conv => whnf)
    | (refine PanA.go ?_; conv => whnf)
    | (refine And.intro ?_ ?_ <;> conv => whnf)
    | (refine ldA (by repeat (first | exact List.Mem.head _ | refine List.Mem.tail _ ?_)) (tab_ok _ _ (by rfl)) (by rfl) (by rfl) ?_; conv => whnf)
    | (refine ldsA (by repeat (first | exact List.Mem.head _ | refine List.Mem.tail _ ?_)) (tab_ok _ _ (by rfl)) (by rfl) ?_; conv => whnf)
    | (refine stA (tab_ok _ _ (by rfl)) (by repeat (first | exact AtE.here | apply AtE.there)) ?_; conv => whnf)
    | (refine ia57 (by rfl) ?_; intro w1 X1; conv => whnf)
    | (refine ia56 (by rfl) ?_; intro w1 X1; conv => whnf)
    | (refine ia136 (by rfl) ?_; intro w1 X1; conv => whnf)
    | (refine ia144 (by rfl) ?_; intro w1 X1; conv => whnf)
    | (refine ia141 (by rfl) ?_; intro w1 X1; conv => whnf)
    | (refine ia142 (by rfl) ?_; intro w1 X1; conv => whnf)
    | (refine opMkI (by rfl) (tab_ok _ _ (by rfl)) (by rfl) ?_; conv => whnf)
    | (refine opPan (by rfl) (by rfl) ?_; conv => whnf)
    | (refine bsA el23 (by rfl) ?_; (conv => whnf); refine ⟨by rfl, fun bl => ?_⟩; conv => whnf)
    | (refine splitB.dec (fun hb => ?_) (fun hb => ?_) <;> conv => whnf)
    | (refine splitB.ndec (fun hb => ?_) (fun hb => ?_) <;> conv => whnf)
    | (refine splitB.eqI (fun hb => ?_) (fun hb => ?_) <;> conv => whnf)
    | (refine splitB.neI (fun hb => ?_) (fun hb => ?_) <;> conv => whnf)
    | (intro r bx; conv => whnf))
set_option maxHeartbeats 4000000 in
theorem call5_vc (hm : MOk k v) (op b c : Int)
    (h10 : 0 ≤ b → b < k.stacks → c = 0 → 0 ≤ v.ns → K (.tuple #[]) (CtxA wA w0 X (ent k { v with ns := v.ns - 0, stk := v.stk.take (v.ns - 0), pc := v.pc + 1, spent := v.spent + 1 } { q0 with kind := 3, o0 := 5, o1 := b, o2 := ((v.stk.drop (v.ns - 0) ++ [0, 0]).getD 0 0), o3 := (v.stk.drop (v.ns - 0) ++ [0, 0]).getD 1 0 } bm M)))
    (h2 : (¬ (0 ≤ b ∧ b < k.stacks ∧ c = 0 ∧ 0 ≤ v.ns)) → Z [{ v := errV 1, recovered := false }] (CtxA wA w0 X (ent k v q0 bm M))) :
    CallVC Tryz.prog (CtxA wA w0 X (ent k v q0 bm M)) 104 #[.pointer (some ⟨bm, 0, none⟩), .agg #[.int .i64 op, .int .i64 5, .int .i64 b, .int .i64 c]] K Z := by
  have e1 : IntKind.i64.wrap (v.pc + 1) = v.pc + 1 := wrapI (by have := hm.pc; omega)
  have e2 : IntKind.i64.wrap (v.spent + 1) = v.spent + 1 := wrapI (by have := hm.spent; omega)
  refine it104 (by rfl) ?_
  intro w2 X2
  conv => whnf
  repeat' (first
    | (refine RetT.drop (K := K) (ent k { v with ns := v.ns - 0, stk := v.stk.take (v.ns - 0), pc := IntKind.i64.wrap (v.pc + 1), spent := IntKind.i64.wrap (v.spent + 1) } { q0 with kind := 3, o0 := 5, o1 := b, o2 := ((v.stk.drop (v.ns - 0) ++ [0, 0]).getD 0 0), o3 := (v.stk.drop (v.ns - 0) ++ [0, 0]).getD 1 0 } bm M) (by repeat (first | exact List.Sublist.refl _ | refine List.Sublist.cons_cons _ ?_ | refine List.Sublist.cons _ ?_)) ?_; rw [e1, e2]; exact h10 (by omega) (by omega) (by omega) (by omega))
    | (refine PanT.drop (Z := Z) (ent k v q0 bm M) (by repeat (first | exact List.Sublist.refl _ | refine List.Sublist.cons_cons _ ?_ | refine List.Sublist.cons _ ?_)) ?_; refine h2 ?_; first | omega | exact .inl (by omega) | exact .inr ⟨by assumption, by omega⟩)
    | (refine take_vc hm 0 (fun hq A' c' hc' hA' => ?_) (fun hq => ?_) <;> conv => whnf)
    | (refine idxI (by assumption) (by assumption) (by omega) (by omega) (fun bq hb => ?_); conv => whnf)
    | (refine ldRI 0 (by assumption) (by repeat (first | exact List.Mem.head _ | refine List.Mem.tail _ ?_)) (by rfl) (by simp <;> (have := hm.ns; omega)) ?_; conv => whnf)
    | (refine ldRI 1 (by assumption) (by repeat (first | exact List.Mem.head _ | refine List.Mem.tail _ ?_)) (by rfl) (by simp <;> (have := hm.ns; omega)) ?_; conv => whnf)
    | (refine and16 ?_; conv => whnf)
    | (refine appI [0, 0] (SrcA.own el23 (by repeat (first | exact List.Mem.head _ | refine List.Mem.tail _ ?_)) (allOne_spec (by rfl)) _) (by rfl) (by repeat (first | exact AtE.here | apply AtE.there)) (by omega) ?_; intro A' c' hc' hA'; conv => whnf)
    | (refine JoinVC.go ?_; conv => whnf)
    | (refine RetA.go ?_; conv => whnf)
    | (refine PanA.go ?_; conv => whnf)
    | (refine And.intro ?_ ?_ <;> conv => whnf)
    | (refine ldA (by repeat (first | exact List.Mem.head _ | refine List.Mem.tail _ ?_)) (tab_ok _ _ (by rfl)) (by rfl) (by rfl) ?_; conv => whnf)
    | (refine ldsA (by repeat (first | exact List.Mem.head _ | refine List.Mem.tail _ ?_)) (tab_ok _ _ (by rfl)) (by rfl) ?_; conv => whnf)
    | (refine stA (tab_ok _ _ (by rfl)) (by repeat (first | exact AtE.here | apply AtE.there)) ?_; conv => whnf)
    | (refine ia57 (by rfl) ?_; intro w1 X1; conv => whnf)
    | (refine ia56 (by rfl) ?_; intro w1 X1; conv => whnf)
    | (refine ia136 (by rfl) ?_; intro w1 X1; conv => whnf)
    | (refine ia144 (by rfl) ?_; intro w1 X1; conv => whnf)
    | (refine ia141 (by rfl) ?_; intro w1 X1; conv => whnf)
    | (refine ia142 (by rfl) ?_; intro w1 X1; conv => whnf)
    | (refine opMkI (by rfl) (tab_ok _ _ (by rfl)) (by rfl) ?_; conv => whnf)
    | (refine opPan (by rfl) (by rfl) ?_; conv => whnf)
    | (refine bsA el23 (by rfl) ?_; (conv => whnf); refine ⟨by rfl, fun bl => ?_⟩; conv => whnf)
    | (refine splitB.dec (fun hb => ?_) (fun hb => ?_) <;> conv => whnf)
    | (refine splitB.ndec (fun hb => ?_) (fun hb => ?_) <;> conv => whnf)
    | (refine splitB.eqI (fun hb => ?_) (fun hb => ?_) <;> conv => whnf)
    | (refine splitB.neI (fun hb => ?_) (fun hb => ?_) <;> conv => whnf)
    | (intro r bx; conv => whnf))
set_option maxHeartbeats 4000000 in
theorem call6_vc (hm : MOk k v) (op b c : Int)
    (h10 : 0 ≤ b → b < k.chans → c = 1 → 1 ≤ v.ns → K (.tuple #[]) (CtxA wA w0 X (ent k { v with ns := v.ns - 1, stk := v.stk.take (v.ns - 1), pc := v.pc + 1, spent := v.spent + 1 } { q0 with kind := 3, o0 := 6, o1 := b, o2 := ((v.stk.drop (v.ns - 1) ++ [0, 0]).getD 0 0), o3 := (v.stk.drop (v.ns - 1) ++ [0, 0]).getD 1 0 } bm M)))
    (h2 : (¬ (0 ≤ b ∧ b < k.chans ∧ c = 1 ∧ 1 ≤ v.ns)) → Z [{ v := errV 1, recovered := false }] (CtxA wA w0 X (ent k v q0 bm M))) :
    CallVC Tryz.prog (CtxA wA w0 X (ent k v q0 bm M)) 104 #[.pointer (some ⟨bm, 0, none⟩), .agg #[.int .i64 op, .int .i64 6, .int .i64 b, .int .i64 c]] K Z := by
  have e1 : IntKind.i64.wrap (v.pc + 1) = v.pc + 1 := wrapI (by have := hm.pc; omega)
  have e2 : IntKind.i64.wrap (v.spent + 1) = v.spent + 1 := wrapI (by have := hm.spent; omega)
  refine it104 (by rfl) ?_
  intro w2 X2
  conv => whnf
  repeat' (first
    | (refine RetT.drop (K := K) (ent k { v with ns := v.ns - 1, stk := v.stk.take (v.ns - 1), pc := IntKind.i64.wrap (v.pc + 1), spent := IntKind.i64.wrap (v.spent + 1) } { q0 with kind := 3, o0 := 6, o1 := b, o2 := ((v.stk.drop (v.ns - 1) ++ [0, 0]).getD 0 0), o3 := (v.stk.drop (v.ns - 1) ++ [0, 0]).getD 1 0 } bm M) (by repeat (first | exact List.Sublist.refl _ | refine List.Sublist.cons_cons _ ?_ | refine List.Sublist.cons _ ?_)) ?_; rw [e1, e2]; exact h10 (by omega) (by omega) (by omega) (by omega))
    | (refine PanT.drop (Z := Z) (ent k v q0 bm M) (by repeat (first | exact List.Sublist.refl _ | refine List.Sublist.cons_cons _ ?_ | refine List.Sublist.cons _ ?_)) ?_; refine h2 ?_; first | omega | exact .inl (by omega) | exact .inr ⟨by assumption, by omega⟩)
    | (refine take_vc hm 1 (fun hq A' c' hc' hA' => ?_) (fun hq => ?_) <;> conv => whnf)
    | (refine idxI (by assumption) (by assumption) (by omega) (by omega) (fun bq hb => ?_); conv => whnf)
    | (refine ldRI 0 (by assumption) (by repeat (first | exact List.Mem.head _ | refine List.Mem.tail _ ?_)) (by rfl) (by simp <;> (have := hm.ns; omega)) ?_; conv => whnf)
    | (refine ldRI 1 (by assumption) (by repeat (first | exact List.Mem.head _ | refine List.Mem.tail _ ?_)) (by rfl) (by simp <;> (have := hm.ns; omega)) ?_; conv => whnf)
    | (refine and16 ?_; conv => whnf)
    | (refine appI [0, 0] (SrcA.own el23 (by repeat (first | exact List.Mem.head _ | refine List.Mem.tail _ ?_)) (allOne_spec (by rfl)) _) (by rfl) (by repeat (first | exact AtE.here | apply AtE.there)) (by omega) ?_; intro A' c' hc' hA'; conv => whnf)
    | (refine JoinVC.go ?_; conv => whnf)
    | (refine RetA.go ?_; conv => whnf)
    | (refine PanA.go ?_; conv => whnf)
    | (refine And.intro ?_ ?_ <;> conv => whnf)
    | (refine ldA (by repeat (first | exact List.Mem.head _ | refine List.Mem.tail _ ?_)) (tab_ok _ _ (by rfl)) (by rfl) (by rfl) ?_; conv => whnf)
    | (refine ldsA (by repeat (first | exact List.Mem.head _ | refine List.Mem.tail _ ?_)) (tab_ok _ _ (by rfl)) (by rfl) ?_; conv => whnf)
    | (refine stA (tab_ok _ _ (by rfl)) (by repeat (first | exact AtE.here | apply AtE.there)) ?_; conv => whnf)
    | (refine ia57 (by rfl) ?_; intro w1 X1; conv => whnf)
    | (refine ia56 (by rfl) ?_; intro w1 X1; conv => whnf)
    | (refine ia136 (by rfl) ?_; intro w1 X1; conv => whnf)
    | (refine ia144 (by rfl) ?_; intro w1 X1; conv => whnf)
    | (refine ia141 (by rfl) ?_; intro w1 X1; conv => whnf)
    | (refine ia142 (by rfl) ?_; intro w1 X1; conv => whnf)
    | (refine opMkI (by rfl) (tab_ok _ _ (by rfl)) (by rfl) ?_; conv => whnf)
    | (refine opPan (by rfl) (by rfl) ?_; conv => whnf)
    | (refine bsA el23 (by rfl) ?_; (conv => whnf); refine ⟨by rfl, fun bl => ?_⟩; conv => whnf)
    | (refine splitB.dec (fun hb => ?_) (fun hb => ?_) <;> conv => whnf)
    | (refine splitB.ndec (fun hb => ?_) (fun hb => ?_) <;> conv => whnf)
    | (refine splitB.eqI (fun hb => ?_) (fun hb => ?_) <;> conv => whnf)
    | (refine splitB.neI (fun hb => ?_) (fun hb => ?_) <;> conv => whnf)
    | (intro r bx; conv => whnf))
set_option maxHeartbeats 4000000 in
theorem call7_vc (hm : MOk k v) (op b c : Int)
    (h10 : 0 ≤ b → b < k.chans → c = 0 → 0 ≤ v.ns → K (.tuple #[]) (CtxA wA w0 X (ent k { v with ns := v.ns - 0, stk := v.stk.take (v.ns - 0), pc := v.pc + 1, spent := v.spent + 1 } { q0 with kind := 3, o0 := 7, o1 := b, o2 := ((v.stk.drop (v.ns - 0) ++ [0, 0]).getD 0 0), o3 := (v.stk.drop (v.ns - 0) ++ [0, 0]).getD 1 0 } bm M)))
    (h2 : (¬ (0 ≤ b ∧ b < k.chans ∧ c = 0 ∧ 0 ≤ v.ns)) → Z [{ v := errV 1, recovered := false }] (CtxA wA w0 X (ent k v q0 bm M))) :
    CallVC Tryz.prog (CtxA wA w0 X (ent k v q0 bm M)) 104 #[.pointer (some ⟨bm, 0, none⟩), .agg #[.int .i64 op, .int .i64 7, .int .i64 b, .int .i64 c]] K Z := by
  have e1 : IntKind.i64.wrap (v.pc + 1) = v.pc + 1 := wrapI (by have := hm.pc; omega)
  have e2 : IntKind.i64.wrap (v.spent + 1) = v.spent + 1 := wrapI (by have := hm.spent; omega)
  refine it104 (by rfl) ?_
  intro w2 X2
  conv => whnf
  repeat' (first
    | (refine RetT.drop (K := K) (ent k { v with ns := v.ns - 0, stk := v.stk.take (v.ns - 0), pc := IntKind.i64.wrap (v.pc + 1), spent := IntKind.i64.wrap (v.spent + 1) } { q0 with kind := 3, o0 := 7, o1 := b, o2 := ((v.stk.drop (v.ns - 0) ++ [0, 0]).getD 0 0), o3 := (v.stk.drop (v.ns - 0) ++ [0, 0]).getD 1 0 } bm M) (by repeat (first | exact List.Sublist.refl _ | refine List.Sublist.cons_cons _ ?_ | refine List.Sublist.cons _ ?_)) ?_; rw [e1, e2]; exact h10 (by omega) (by omega) (by omega) (by omega))
    | (refine PanT.drop (Z := Z) (ent k v q0 bm M) (by repeat (first | exact List.Sublist.refl _ | refine List.Sublist.cons_cons _ ?_ | refine List.Sublist.cons _ ?_)) ?_; refine h2 ?_; first | omega | exact .inl (by omega) | exact .inr ⟨by assumption, by omega⟩)
    | (refine take_vc hm 0 (fun hq A' c' hc' hA' => ?_) (fun hq => ?_) <;> conv => whnf)
    | (refine idxI (by assumption) (by assumption) (by omega) (by omega) (fun bq hb => ?_); conv => whnf)
    | (refine ldRI 0 (by assumption) (by repeat (first | exact List.Mem.head _ | refine List.Mem.tail _ ?_)) (by rfl) (by simp <;> (have := hm.ns; omega)) ?_; conv => whnf)
    | (refine ldRI 1 (by assumption) (by repeat (first | exact List.Mem.head _ | refine List.Mem.tail _ ?_)) (by rfl) (by simp <;> (have := hm.ns; omega)) ?_; conv => whnf)
    | (refine and16 ?_; conv => whnf)
    | (refine appI [0, 0] (SrcA.own el23 (by repeat (first | exact List.Mem.head _ | refine List.Mem.tail _ ?_)) (allOne_spec (by rfl)) _) (by rfl) (by repeat (first | exact AtE.here | apply AtE.there)) (by omega) ?_; intro A' c' hc' hA'; conv => whnf)
    | (refine JoinVC.go ?_; conv => whnf)
    | (refine RetA.go ?_; conv => whnf)
    | (refine PanA.go ?_; conv => whnf)
    | (refine And.intro ?_ ?_ <;> conv => whnf)
    | (refine ldA (by repeat (first | exact List.Mem.head _ | refine List.Mem.tail _ ?_)) (tab_ok _ _ (by rfl)) (by rfl) (by rfl) ?_; conv => whnf)
    | (refine ldsA (by repeat (first | exact List.Mem.head _ | refine List.Mem.tail _ ?_)) (tab_ok _ _ (by rfl)) (by rfl) ?_; conv => whnf)
    | (refine stA (tab_ok _ _ (by rfl)) (by repeat (first | exact AtE.here | apply AtE.there)) ?_; conv => whnf)
    | (refine ia57 (by rfl) ?_; intro w1 X1; conv => whnf)
    | (refine ia56 (by rfl) ?_; intro w1 X1; conv => whnf)
    | (refine ia136 (by rfl) ?_; intro w1 X1; conv => whnf)
    | (refine ia144 (by rfl) ?_; intro w1 X1; conv => whnf)
    | (refine ia141 (by rfl) ?_; intro w1 X1; conv => whnf)
    | (refine ia142 (by rfl) ?_; intro w1 X1; conv => whnf)
    | (refine opMkI (by rfl) (tab_ok _ _ (by rfl)) (by rfl) ?_; conv => whnf)
    | (refine opPan (by rfl) (by rfl) ?_; conv => whnf)
    | (refine bsA el23 (by rfl) ?_; (conv => whnf); refine ⟨by rfl, fun bl => ?_⟩; conv => whnf)
    | (refine splitB.dec (fun hb => ?_) (fun hb => ?_) <;> conv => whnf)
    | (refine splitB.ndec (fun hb => ?_) (fun hb => ?_) <;> conv => whnf)
    | (refine splitB.eqI (fun hb => ?_) (fun hb => ?_) <;> conv => whnf)
    | (refine splitB.neI (fun hb => ?_) (fun hb => ?_) <;> conv => whnf)
    | (intro r bx; conv => whnf))
set_option maxHeartbeats 4000000 in
theorem callx_vc (hm : MOk k v) (op a b c : Int) (hx : a ≠ 1 ∧ a ≠ 2 ∧ a ≠ 3 ∧ a ≠ 4 ∧ a ≠ 5 ∧ a ≠ 6 ∧ a ≠ 7)
    (h2 : Z [{ v := errV 1, recovered := false }] (CtxA wA w0 X (ent k v q0 bm M))) :
    CallVC Tryz.prog (CtxA wA w0 X (ent k v q0 bm M)) 104 #[.pointer (some ⟨bm, 0, none⟩), .agg #[.int .i64 op, .int .i64 a, .int .i64 b, .int .i64 c]] K Z := by
  have e1 : IntKind.i64.wrap (v.pc + 1) = v.pc + 1 := wrapI (by have := hm.pc; omega)
  have e2 : IntKind.i64.wrap (v.spent + 1) = v.spent + 1 := wrapI (by have := hm.spent; omega)
  refine it104 (by rfl) ?_
  intro w2 X2
  conv => whnf
  repeat' (first
    | (refine PanT.drop (Z := Z) (ent k v q0 bm M) (by repeat (first | exact List.Sublist.refl _ | refine List.Sublist.cons_cons _ ?_ | refine List.Sublist.cons _ ?_)) ?_; exact h2)
    | (refine splitB.eqI (fun hb => absurd hb (by omega)) (fun hb => ?_); conv => whnf)
    | (refine splitB.dec (fun hb => absurd hb (by omega)) (fun hb => ?_); conv => whnf)
    | (refine JoinVC.go ?_; conv => whnf)
    | (refine RetA.go ?_; conv => whnf)
    | (refine PanA.go ?_; conv => whnf)
    | (refine And.intro ?_ ?_ <;> conv => whnf)
    | (refine ldA (by repeat (first | exact List.Mem.head _ | refine List.Mem.tail _ ?_)) (tab_ok _ _ (by rfl)) (by rfl) (by rfl) ?_; conv => whnf)
    | (refine ldsA (by repeat (first | exact List.Mem.head _ | refine List.Mem.tail _ ?_)) (tab_ok _ _ (by rfl)) (by rfl) ?_; conv => whnf)
    | (refine stA (tab_ok _ _ (by rfl)) (by repeat (first | exact AtE.here | apply AtE.there)) ?_; conv => whnf)
    | (refine ia57 (by rfl) ?_; intro w1 X1; conv => whnf)
    | (refine ia56 (by rfl) ?_; intro w1 X1; conv => whnf)
    | (refine ia141 (by rfl) ?_; intro w1 X1; conv => whnf)
    | (refine opMkI (by rfl) (tab_ok _ _ (by rfl)) (by rfl) ?_; conv => whnf)
    | (refine opPan (by rfl) (by rfl) ?_; conv => whnf)
    | (refine bsA el23 (by rfl) ?_; (conv => whnf); refine ⟨by rfl, fun bl => ?_⟩; conv => whnf)
    | (refine splitB.dec (fun hb => ?_) (fun hb => ?_) <;> conv => whnf)
    | (refine splitB.ndec (fun hb => ?_) (fun hb => ?_) <;> conv => whnf)
    | (refine splitB.eqI (fun hb => ?_) (fun hb => ?_) <;> conv => whnf)
    | (refine splitB.neI (fun hb => ?_) (fun hb => ?_) <;> conv => whnf)
    | (intro r bx; conv => whnf))
set_option maxHeartbeats 4000000 in
theorem spawn_vc (hm : MOk k v) (op a c : Int) (nb : Nat) (fa : List Int) (hF : ∀ i, i < k.nf → ∃ bf o, k.Af = some ⟨bf, o, none⟩ ∧ wA.cell? ⟨bf, o + i * 3, none⟩ = some (.int .i64 (fa.getD i 0)))
    (h10 : 0 ≤ a → a < k.nf → (c = -1 ∨ 0 ≤ c ∧ c < v.nl) → (nb : Int) = fa.getD a.toNat 0 → nb ≤ v.ns → ∀ A' c', nb ≤ c' → (0 < c' → ∃ b, A' = some ⟨b, 0, none⟩) → K (.tuple #[]) (CtxA wA w0 X (ent k { v with ns := v.ns - nb, stk := v.stk.take (v.ns - nb), pc := v.pc + 1, spent := v.spent + 1 } { q0 with kind := 4, a := a, b := c, Aa := A', na := nb, ca := c', got := v.stk.drop (v.ns - nb) } bm M)))
    (h2 : (¬ (0 ≤ a ∧ a < k.nf) ∨ ¬ (c = -1 ∨ 0 ≤ c ∧ c < v.nl) ∨ (nb : Int) ≠ fa.getD a.toNat 0 ∨ ¬ nb ≤ v.ns) → Z [{ v := errV 1, recovered := false }] (CtxA wA w0 X (ent k v q0 bm M))) :
    CallVC Tryz.prog (CtxA wA w0 X (ent k v q0 bm M)) 106 #[.pointer (some ⟨bm, 0, none⟩), .agg #[.int .i64 op, .int .i64 a, .int .i64 nb, .int .i64 c]] K Z := by
  have e1 : IntKind.i64.wrap (v.pc + 1) = v.pc + 1 := wrapI (by have := hm.pc; omega)
  have e2 : IntKind.i64.wrap (v.spent + 1) = v.spent + 1 := wrapI (by have := hm.spent; omega)
  refine it106 (by rfl) ?_
  intro w2 X2
  conv => whnf
  repeat' (first
    | (refine RetT.imp (K := K) (ent k { v with ns := v.ns - nb, stk := v.stk.take (v.ns - nb), pc := IntKind.i64.wrap (v.pc + 1), spent := IntKind.i64.wrap (v.spent + 1) } { q0 with kind := 4, a := a, b := c, Aa := _, na := nb, ca := _, got := v.stk.drop (v.ns - nb) } bm M) Imp.sink3 ?_; rw [e1, e2]; exact h10 (by omega) (by omega) (by omega) (by omega) (by omega) _ _ (by assumption) (by assumption))
    | (refine PanT.drop (Z := Z) (ent k v q0 bm M) (by repeat (first | exact List.Sublist.refl _ | refine List.Sublist.cons_cons _ ?_ | refine List.Sublist.cons _ ?_)) ?_; refine h2 ?_; first | omega | exact .inl (by omega) | exact .inr ⟨by assumption, by omega⟩)
    | (refine take_vc hm nb (fun hq A' c' hc' hA' => ?_) (fun hq => ?_) <;> conv => whnf)
    | (obtain ⟨bf, of, hAf, hcell⟩ := hF a.toNat (by omega); refine idxO bf of hAf (by omega) (by omega) ?_; conv => whnf)
    | (refine JoinVC.go ?_; conv => whnf)
    | (refine RetA.go ?_; conv => whnf)
    | (refine PanA.go ?_; conv => whnf)
    | (refine And.intro ?_ ?_ <;> conv => whnf)
    | (refine ldA (by repeat (first | exact List.Mem.head _ | refine List.Mem.tail _ ?_)) (tab_ok _ _ (by rfl)) (by rfl) (by rfl) ?_; conv => whnf)
    | (refine ldsA (by repeat (first | exact List.Mem.head _ | refine List.Mem.tail _ ?_)) (tab_ok _ _ (by rfl)) (by rfl) ?_; conv => whnf)
    | (refine stA (tab_ok _ _ (by rfl)) (by repeat (first | exact AtE.here | apply AtE.there)) ?_; conv => whnf)
    | (refine ia57 (by rfl) ?_; intro w1 X1; conv => whnf)
    | (refine ia56 (by rfl) ?_; intro w1 X1; conv => whnf)
    | (refine ia136 (by rfl) ?_; intro w1 X1; conv => whnf)
    | (refine ia144 (by rfl) ?_; intro w1 X1; conv => whnf)
    | (refine ia88 (by rfl) ?_; intro w1 X1; conv => whnf)
    | (refine opMkI (by rfl) (tab_ok _ _ (by rfl)) (by rfl) ?_; conv => whnf)
    | (refine opPan (by rfl) (by rfl) ?_; conv => whnf)
    | (refine bsA el23 (by rfl) ?_; (conv => whnf); refine ⟨by rfl, fun bl => ?_⟩; conv => whnf)
    | (refine splitB.dec (fun hb => ?_) (fun hb => ?_) <;> conv => whnf)
    | (refine splitB.ndec (fun hb => ?_) (fun hb => ?_) <;> conv => whnf)
    | (refine splitB.eqI (fun hb => ?_) (fun hb => ?_) <;> conv => whnf)
    | (refine splitB.neI (fun hb => ?_) (fun hb => ?_) <;> conv => whnf)
    | (refine ldO (by assumption) (tab_ok _ _ (by rfl)) (by rfl) ?_; conv => whnf)
    | (intro r bx; conv => whnf))
set_option maxHeartbeats 4000000 in
theorem spawnneg_vc (hm : MOk k v) (op a b c : Int) (hb0 : b < 0)
    (h2 : Z [{ v := errV 1, recovered := false }] (CtxA wA w0 X (ent k v q0 bm M))) :
    CallVC Tryz.prog (CtxA wA w0 X (ent k v q0 bm M)) 106 #[.pointer (some ⟨bm, 0, none⟩), .agg #[.int .i64 op, .int .i64 a, .int .i64 b, .int .i64 c]] K Z := by
  have e1 : IntKind.i64.wrap (v.pc + 1) = v.pc + 1 := wrapI (by have := hm.pc; omega)
  have e2 : IntKind.i64.wrap (v.spent + 1) = v.spent + 1 := wrapI (by have := hm.spent; omega)
  refine it106 (by rfl) ?_
  intro w2 X2
  conv => whnf
  repeat' (first
    | (refine PanT.drop (Z := Z) (ent k v q0 bm M) (by repeat (first | exact List.Sublist.refl _ | refine List.Sublist.cons_cons _ ?_ | refine List.Sublist.cons _ ?_)) ?_; exact h2)
    | (refine splitB.dec (fun hb => absurd hb (by omega)) (fun hb => ?_); conv => whnf)
    | (refine JoinVC.go ?_; conv => whnf)
    | (refine RetA.go ?_; conv => whnf)
    | (refine PanA.go ?_; conv => whnf)
    | (refine And.intro ?_ ?_ <;> conv => whnf)
    | (refine ldA (by repeat (first | exact List.Mem.head _ | refine List.Mem.tail _ ?_)) (tab_ok _ _ (by rfl)) (by rfl) (by rfl) ?_; conv => whnf)
    | (refine ldsA (by repeat (first | exact List.Mem.head _ | refine List.Mem.tail _ ?_)) (tab_ok _ _ (by rfl)) (by rfl) ?_; conv => whnf)
    | (refine stA (tab_ok _ _ (by rfl)) (by repeat (first | exact AtE.here | apply AtE.there)) ?_; conv => whnf)
    | (refine ia57 (by rfl) ?_; intro w1 X1; conv => whnf)
    | (refine ia56 (by rfl) ?_; intro w1 X1; conv => whnf)
    | (refine ia88 (by rfl) ?_; intro w1 X1; conv => whnf)
    | (refine opMkI (by rfl) (tab_ok _ _ (by rfl)) (by rfl) ?_; conv => whnf)
    | (refine opPan (by rfl) (by rfl) ?_; conv => whnf)
    | (refine bsA el23 (by rfl) ?_; (conv => whnf); refine ⟨by rfl, fun bl => ?_⟩; conv => whnf)
    | (refine splitB.dec (fun hb => ?_) (fun hb => ?_) <;> conv => whnf)
    | (refine splitB.ndec (fun hb => ?_) (fun hb => ?_) <;> conv => whnf)
    | (refine splitB.eqI (fun hb => ?_) (fun hb => ?_) <;> conv => whnf)
    | (refine splitB.neI (fun hb => ?_) (fun hb => ?_) <;> conv => whnf)
    | (intro r bx; conv => whnf))
end
end Go.Proofs.YtgaopcbjhepklaaGreat
