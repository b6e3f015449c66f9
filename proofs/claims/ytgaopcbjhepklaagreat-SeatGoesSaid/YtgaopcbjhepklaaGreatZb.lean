/- A frame that goes on: steps of its machine; printed by genza.py. -/
import Derived.Test.YtgaopcbjhepklaaGreatZa
namespace Go.Proofs.YtgaopcbjhepklaaGreat
open Go.RowKit
set_option linter.unusedSimpArgs false
set_option linter.unusedVariables false
set_option maxRecDepth 100000
section
variable {wA w0 : World} {X : Nat → Prop} {M : EL} {K : Value → Ctx → Prop} {Z : PanK} {k : MK} {v : MV} {bm : Nat}
set_option maxHeartbeats 4000000 in
theorem push_vc (hm : MOk k v) (op a b c : Int)
    (h1 : 0 ≤ a → a < 4294967296 → v.ns < 100 → ∀ A' c', v.ns + 1 ≤ c' → (0 < c' → ∃ b, A' = some ⟨b, 0, none⟩) → K (.tuple #[]) (CtxA wA w0 X (ent k { v with As := A', ns := v.ns + 1, cs := c', stk := v.stk ++ [a], pc := v.pc + 1, spent := v.spent + 1 } q0 bm M)))
    (h2 : (¬ (0 ≤ a ∧ a < 4294967296) ∨ ¬ v.ns < 100) → Z [{ v := errV 1, recovered := false }] (CtxA wA w0 X (ent k v q0 bm M))) :
    CallVC Tryz.prog (CtxA wA w0 X (ent k v q0 bm M)) 91 #[.pointer (some ⟨bm, 0, none⟩), .agg #[.int .i64 op, .int .i64 a, .int .i64 b, .int .i64 c]] K Z := by
  have e1 : IntKind.i64.wrap (v.pc + 1) = v.pc + 1 := wrapI (by have := hm.pc; omega)
  have e2 : IntKind.i64.wrap (v.spent + 1) = v.spent + 1 := wrapI (by have := hm.spent; omega)
  refine it91 (by rfl) ?_
  intro w2 X2
  conv => whnf
  repeat' (first
    | (refine RetT.drop (K := K) (ent k { v with As := _, ns := v.ns + 1, cs := _, stk := v.stk ++ [a], pc := IntKind.i64.wrap (v.pc + 1), spent := IntKind.i64.wrap (v.spent + 1) } q0 bm M) (by repeat (first | exact List.Sublist.refl _ | refine List.Sublist.cons_cons _ ?_ | refine List.Sublist.cons _ ?_)) ?_; rw [e1, e2]; exact h1 (by omega) (by omega) (by omega) _ _ (by assumption) (by assumption))
    | (refine PanT.drop (Z := Z) (ent k v q0 bm M) (by repeat (first | exact List.Sublist.refl _ | refine List.Sublist.cons_cons _ ?_ | refine List.Sublist.cons _ ?_)) ?_; refine h2 ?_; omega)
    | (refine appI [_] (SrcA.own el23 (by repeat (first | exact List.Mem.head _ | refine List.Mem.tail _ ?_)) (allOne_spec (by rfl)) _) (by rfl) (by repeat (first | exact AtE.here | apply AtE.there)) (by have := hm.sm; omega) ?_; intro A' c' hc' hA'; conv => whnf)
    | (refine JoinVC.go ?_; conv => whnf)
    | (refine RetA.go ?_; conv => whnf)
    | (refine PanA.go ?_; conv => whnf)
    | (refine And.intro ?_ ?_ <;> conv => whnf)
    | (refine ldA (by repeat (first | exact List.Mem.head _ | refine List.Mem.tail _ ?_)) (tab_ok _ _ (by rfl)) (by rfl) (by rfl) ?_; conv => whnf)
    | (refine ldsA (by repeat (first | exact List.Mem.head _ | refine List.Mem.tail _ ?_)) (tab_ok _ _ (by rfl)) (by rfl) ?_; conv => whnf)
    | (refine stA (tab_ok _ _ (by rfl)) (by repeat (first | exact AtE.here | apply AtE.there)) ?_; conv => whnf)
    | (refine ia134 (by rfl) ?_; intro w1 X1; conv => whnf)
    | (refine ia57 (by rfl) ?_; intro w1 X1; conv => whnf)
    | (refine ia56 (by rfl) ?_; intro w1 X1; conv => whnf)
    | (refine ia135 (by rfl) ?_; intro w1 X1; conv => whnf)
    | (refine ia136 (by rfl) ?_; intro w1 X1; conv => whnf)
    | (refine ia144 (by rfl) ?_; intro w1 X1; conv => whnf)
    | (refine opMkI (by rfl) (tab_ok _ _ (by rfl)) (by rfl) ?_; conv => whnf)
    | (refine opPan (by rfl) (by rfl) ?_; conv => whnf)
    | (refine bsA el23 (by rfl) ?_; (conv => whnf); refine ⟨by rfl, fun bl => ?_⟩; conv => whnf)
    | (refine splitB.dec (fun hb => ?_) (fun hb => ?_) <;> conv => whnf)
    | (refine splitB.ndec (fun hb => ?_) (fun hb => ?_) <;> conv => whnf)
    | (refine splitB.eqI (fun hb => ?_) (fun hb => ?_) <;> conv => whnf)
    | (refine splitB.neI (fun hb => ?_) (fun hb => ?_) <;> conv => whnf)
    | (intro r bx; conv => whnf))
set_option maxHeartbeats 4000000 in
theorem take_vc (hm : MOk k v) (many : Nat)
    (h1 : many ≤ v.ns → ∀ A' c', many ≤ c' → (0 < c' → ∃ b, A' = some ⟨b, 0, none⟩) → K (.slice A' many c') (CtxA wA w0 X ((.slice A' many c', .row 3 1 (is (v.stk.drop (v.ns - many)))) :: (ent k { v with ns := (v.ns - many), stk := v.stk.take (v.ns - many) } q0 bm M))))
    (h2 : ¬ many ≤ v.ns → Z [{ v := errV 1, recovered := false }] (CtxA wA w0 X (ent k v q0 bm M))) :
    CallVC Tryz.prog (CtxA wA w0 X (ent k v q0 bm M)) 140 #[.pointer (some ⟨bm, 0, none⟩), .int .i64 (many : Int)] K Z := by
  refine it140 (by rfl) ?_
  intro w2 X2
  conv => whnf
  repeat' (first
    | (refine RetT.imp (K := K) ((.slice _ many _, .row 3 1 (is (v.stk.drop (v.ns - many)))) :: (ent k { v with ns := (v.ns - many), stk := v.stk.take (v.ns - many) } q0 bm M)) (Imp.shrinkI (i := 2) (.there (.there .here)) (v.ns - many) (by omega)) ?_; exact h1 (by omega) _ _ (by assumption) (by assumption))
    | (refine PanT.drop (Z := Z) (ent k v q0 bm M) (by repeat (first | exact List.Sublist.refl _ | refine List.Sublist.cons_cons _ ?_ | refine List.Sublist.cons _ ?_)) ?_; refine h2 ?_; omega)
    | (refine cutLoN (v.ns - many) many (wrapI (by have := hm.sm; omega) |>.trans (by omega)) (by omega) ?_; conv => whnf)
    | (refine cutHiN (v.ns - many) (wrapI (by have := hm.sm; omega) |>.trans (by omega)) (by have := hm.cs; omega) ?_; conv => whnf)
    | (refine app0I (v.stk.drop (v.ns - many)) (srcTail (by repeat (first | exact List.Mem.head _ | refine List.Mem.tail _ ?_)) hm.As hm.ns hm.cs (v.ns - many) many _ (by omega)) rfl (by have := hm.sm; omega) ?_; intro A' c' hc' hA'; conv => whnf)
    | (refine JoinVC.go ?_; conv => whnf)
    | (refine RetA.go ?_; conv => whnf)
    | (refine PanA.go ?_; conv => whnf)
    | (refine And.intro ?_ ?_ <;> conv => whnf)
    | (refine ldA (by repeat (first | exact List.Mem.head _ | refine List.Mem.tail _ ?_)) (tab_ok _ _ (by rfl)) (by rfl) (by rfl) ?_; conv => whnf)
    | (refine ldsA (by repeat (first | exact List.Mem.head _ | refine List.Mem.tail _ ?_)) (tab_ok _ _ (by rfl)) (by rfl) ?_; conv => whnf)
    | (refine stA (tab_ok _ _ (by rfl)) (by repeat (first | exact AtE.here | apply AtE.there)) ?_; conv => whnf)
    | (refine ia56 (by rfl) ?_; intro w1 X1; conv => whnf)
    | (refine opMkI (by rfl) (tab_ok _ _ (by rfl)) (by rfl) ?_; conv => whnf)
    | (refine opPan (by rfl) (by rfl) ?_; conv => whnf)
    | (refine bsA el23 (by rfl) ?_; (conv => whnf); refine ⟨by rfl, fun bl => ?_⟩; conv => whnf)
    | (refine splitB.dec (fun hb => ?_) (fun hb => ?_) <;> conv => whnf)
    | (refine splitB.ndec (fun hb => ?_) (fun hb => ?_) <;> conv => whnf)
    | (refine splitB.eqI (fun hb => ?_) (fun hb => ?_) <;> conv => whnf)
    | (refine splitB.neI (fun hb => ?_) (fun hb => ?_) <;> conv => whnf)
    | (intro r bx; conv => whnf))
set_option maxHeartbeats 4000000 in
theorem wait_vc (hm : MOk k v) (a : Int)
    (h1 : 0 ≤ a → a < v.nl → awaits k.kids a = true → K (.bool true) (CtxA wA w0 X (ent k v { q0 with kind := 5 } bm M)))
    (h2 : 0 ≤ a → a < v.nl → awaits k.kids a = false → K (.bool false) (CtxA wA w0 X (ent k v q0 bm M)))
    (h3 : ¬ (0 ≤ a ∧ a < v.nl) → Z [{ v := errV 1, recovered := false }] (CtxA wA w0 X (ent k v q0 bm M))) :
    CallVC Tryz.prog (CtxA wA w0 X (ent k v q0 bm M)) 137 #[.pointer (some ⟨bm, 0, none⟩), .int .i64 a] K Z := by
  refine it137 (by rfl) ?_
  intro w2 X2
  conv => whnf
  repeat' (first
    | (refine PanT.drop (Z := Z) (ent k v q0 bm M) (by repeat (first | exact List.Sublist.refl _ | refine List.Sublist.cons_cons _ ?_ | refine List.Sublist.cons _ ?_)) ?_; refine h3 ?_; omega)
    | (refine JoinVC.go ?_; conv => whnf)
    | (refine RetA.go ?_; conv => whnf)
    | (refine PanA.go ?_; conv => whnf)
    | (refine And.intro ?_ ?_ <;> conv => whnf)
    | (refine ldA (by repeat (first | exact List.Mem.head _ | refine List.Mem.tail _ ?_)) (tab_ok _ _ (by rfl)) (by rfl) (by rfl) ?_; conv => whnf)
    | (refine ldsA (by repeat (first | exact List.Mem.head _ | refine List.Mem.tail _ ?_)) (tab_ok _ _ (by rfl)) (by rfl) ?_; conv => whnf)
    | (refine stA (tab_ok _ _ (by rfl)) (by repeat (first | exact AtE.here | apply AtE.there)) ?_; conv => whnf)
    | (refine ia57 (by rfl) ?_; intro w1 X1; conv => whnf)
    | (refine ia56 (by rfl) ?_; intro w1 X1; conv => whnf)
    | (refine opMkI (by rfl) (tab_ok _ _ (by rfl)) (by rfl) ?_; conv => whnf)
    | (refine opPan (by rfl) (by rfl) ?_; conv => whnf)
    | (refine bsA el23 (by rfl) ?_; (conv => whnf); refine ⟨by rfl, fun bl => ?_⟩; conv => whnf)
    | (refine splitB.dec (fun hb => ?_) (fun hb => ?_) <;> conv => whnf)
    | (refine splitB.ndec (fun hb => ?_) (fun hb => ?_) <;> conv => whnf)
    | (refine splitB.eqI (fun hb => ?_) (fun hb => ?_) <;> conv => whnf)
    | (refine splitB.neI (fun hb => ?_) (fun hb => ?_) <;> conv => whnf)
    | (intro r bx; conv => whnf))
  refine LoopVC.on (X := Nat) (fun i => [(0, .v (.pointer (some ⟨bm, 0, none⟩))), (1, .v (.int .i64 a)), (21, .v (.slice k.Ak k.nk k.ck)), (22, .v (.int .i64 k.nk)), (23, .v (.int .i64 (i : Int)))]) (fun _ => []) (fun _ => CtxA wA w2 X2 (ent k v q0 bm M)) (fun i => i ≤ k.nk ∧ ∀ j (h : j < k.kids.length), j < i → k.kids[j].dst ≠ a) (fun i => k.nk - i) 0 ⟨Nat.zero_le _, fun _ _ h => absurd h (by omega)⟩ ⟨rfl, rfl, rfl, rfl, rfl, trivial⟩ trivial ?_
  intro i r ⟨hi, hno⟩
  conv => whnf
  refine splitB.dec (fun hlt => ?_) (fun hge => ?_)
  · conv => whnf
    refine idxA hm.Ak hm.ck (by omega) hlt (fun b hb => ?_)
    conv => whnf
    have hik : i < k.kids.length := by have := hm.nk; omega
    refine ldsR [.int .i64 k.kids[i].task, .int .i64 k.kids[i].dst] (by rw [← hb]; repeat (first | exact List.Mem.head _ | refine List.Mem.tail _ ?_)) (tab_ok _ _ (by rfl)) (by rfl) (by rfl) (kidL_at k.kids i hik) ?_
    conv => whnf
    refine splitB.eqI (fun he => ?_) (fun he => ?_)
    · conv => whnf
      repeat' (first
        | (refine RetT.drop (K := K) (ent k v { q0 with kind := 5 } bm M) (by repeat (first | exact List.Sublist.refl _ | refine List.Sublist.cons_cons _ ?_ | refine List.Sublist.cons _ ?_)) ?_; exact h1 (by omega) (by omega) (List.any_eq_true.2 ⟨k.kids[i], List.getElem_mem hik, by simpa using he⟩))
        | (refine stA (tab_ok _ _ (by rfl)) (by repeat (first | exact AtE.here | apply AtE.there)) ?_; conv => whnf))
    · conv => whnf
      exact rnd (X := Nat) (i + 1) (by omega) ⟨by omega, fun j hj hji => by
        by_cases e : j = i
        · subst e; exact he
        · exact hno j hj (by omega)⟩ ⟨rfl, rfl, rfl, rfl, by show SV.v (.int .i64 (IntKind.i64.wrap ((i : Int) + 1))) = _; rw [wrapI (by have := hm.nk; have := hm.kk; omega)]; rfl, trivial⟩ trivial
  · conv => whnf
    refine RetT.drop (K := K) (ent k v q0 bm M) (by repeat (first | exact List.Sublist.refl _ | refine List.Sublist.cons_cons _ ?_ | refine List.Sublist.cons _ ?_)) ?_
    refine h2 (by omega) (by omega) ?_
    unfold awaits
    rw [List.any_eq_false]
    intro x hx
    obtain ⟨j, hj, rfl⟩ := List.mem_iff_getElem.1 hx
    simpa using hno j hj (by have := hm.nk; omega)
set_option maxHeartbeats 4000000 in
theorem put1_vc (hm : MOk k v) (x : Value × DA) (n : Int)
    (h1 : v.ns < 100 → ∀ A' c', v.ns + 1 ≤ c' → (0 < c' → ∃ b, A' = some ⟨b, 0, none⟩) → K (.tuple #[]) (CtxA wA w0 X (x :: (ent k { v with As := A', ns := v.ns + 1, cs := c', stk := v.stk ++ [n] } q0 bm M))))
    (h2 : ¬ v.ns < 100 → Z [{ v := errV 1, recovered := false }] (CtxA wA w0 X (x :: ent k v q0 bm M))) :
    CallVC Tryz.prog (CtxA wA w0 X (x :: ent k v q0 bm M)) 135 #[.pointer (some ⟨bm, 0, none⟩), .int .i64 n] K Z := by
  refine it135 (by rfl) ?_
  intro w2 X2
  conv => whnf
  repeat' (first
    | (refine RetT.drop (K := K) (x :: (ent k { v with As := _, ns := v.ns + 1, cs := _, stk := v.stk ++ [n] } q0 bm M)) (by repeat (first | exact List.Sublist.refl _ | refine List.Sublist.cons_cons _ ?_ | refine List.Sublist.cons _ ?_)) ?_; exact h1 (by omega) _ _ (by assumption) (by assumption))
    | (refine PanT.drop (Z := Z) (x :: ent k v q0 bm M) (by repeat (first | exact List.Sublist.refl _ | refine List.Sublist.cons_cons _ ?_ | refine List.Sublist.cons _ ?_)) ?_; refine h2 ?_; omega)
    | (refine appI [_] (SrcA.own el23 (by repeat (first | exact List.Mem.head _ | refine List.Mem.tail _ ?_)) (allOne_spec (by rfl)) _) (by rfl) (by repeat (first | exact AtE.here | apply AtE.there)) (by have := hm.sm; omega) ?_; intro A' c' hc' hA'; conv => whnf)
    | (refine JoinVC.go ?_; conv => whnf)
    | (refine RetA.go ?_; conv => whnf)
    | (refine PanA.go ?_; conv => whnf)
    | (refine And.intro ?_ ?_ <;> conv => whnf)
    | (refine ldA (by repeat (first | exact List.Mem.head _ | refine List.Mem.tail _ ?_)) (tab_ok _ _ (by rfl)) (by rfl) (by rfl) ?_; conv => whnf)
    | (refine ldsA (by repeat (first | exact List.Mem.head _ | refine List.Mem.tail _ ?_)) (tab_ok _ _ (by rfl)) (by rfl) ?_; conv => whnf)
    | (refine stA (tab_ok _ _ (by rfl)) (by repeat (first | exact AtE.here | apply AtE.there)) ?_; conv => whnf)
    | (refine ia56 (by rfl) ?_; intro w1 X1; conv => whnf)
    | (refine opMkI (by rfl) (tab_ok _ _ (by rfl)) (by rfl) ?_; conv => whnf)
    | (refine opPan (by rfl) (by rfl) ?_; conv => whnf)
    | (refine bsA el23 (by rfl) ?_; (conv => whnf); refine ⟨by rfl, fun bl => ?_⟩; conv => whnf)
    | (refine splitB.dec (fun hb => ?_) (fun hb => ?_) <;> conv => whnf)
    | (refine splitB.ndec (fun hb => ?_) (fun hb => ?_) <;> conv => whnf)
    | (refine splitB.eqI (fun hb => ?_) (fun hb => ?_) <;> conv => whnf)
    | (refine splitB.neI (fun hb => ?_) (fun hb => ?_) <;> conv => whnf)
    | (intro r bx; conv => whnf))
end
end Go.Proofs.YtgaopcbjhepklaaGreat
