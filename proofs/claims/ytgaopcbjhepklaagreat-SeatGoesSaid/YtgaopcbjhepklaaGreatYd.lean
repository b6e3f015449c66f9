/- Rules for walks in a context with an anchor: single operations. -/
import Derived.Test.YtgaopcbjhepklaaGreatYc
namespace Go.Proofs.YtgaopcbjhepklaaGreat
open Go.RowKit
set_option linter.unusedSimpArgs false
set_option linter.unusedVariables false
set_option maxRecDepth 100000
theorem splitB.dec {p : Prop} [Decidable p] {A B : Prop} (h1 : p → A) (h2 : ¬ p → B) : splitB (decide p) A B := splitB.intro (fun h => h1 (of_decide_eq_true h)) (fun h => h2 (of_decide_eq_false h))
theorem splitB.ndec {p : Prop} [Decidable p] {A B : Prop} (h1 : ¬ p → A) (h2 : p → B) : splitB (!decide p) A B := splitB.intro (fun h => h1 (by simpa using h)) (fun h => h2 (by simpa using h))
theorem splitB.eqI {a b : Int} {A B : Prop} (h1 : a = b → A) (h2 : a ≠ b → B) : splitB (a == b) A B := splitB.intro (fun h => h1 (by simpa using h)) (fun h => h2 (by simpa using h))
theorem splitB.neI {a b : Int} {A B : Prop} (h1 : a ≠ b → A) (h2 : a = b → B) : splitB (a != b) A B := splitB.intro (fun h => h1 (by simpa using h)) (fun h => h2 (by simpa using h))
section
variable {P : Program} {wA w0 : World} {X : Nat → Prop} {M M' : EL}
/-- what is known, otherwise -/
theorem Goes.imp (hs : Imp M M') {w w' : World} {C' : Ctx} (h : Goes (CtxA wA w0 X M') w C' w') : Goes (CtxA wA w0 X M) w C' w' :=
  ⟨h.size, fun k hk hn => h.block k hk fun hd => hn (hd.imp id (Or.imp id (hs.keys k))), fun k hk => (h.new k hk).imp (Or.imp id (Or.imp id (hs.keys k))) id⟩
theorem SemVC.imp {m : Sem Value} {K : Value → Ctx → Prop} (hs : Imp M M') (h : SemVC P (CtxA wA w0 X M') m K) : SemVC P (CtxA wA w0 X M) m K := ⟨fun w hw => by
  obtain ⟨v, w', C', h1, h2, h3, h4⟩ := h.out w (hs.on _ _ _ _ hw)
  exact ⟨v, w', C', h1, h2.imp hs, h3, h4⟩⟩
theorem StoVC.imp {m : Sem Unit} {K : Ctx → Prop} (hs : Imp M M') (h : StoVC P (CtxA wA w0 X M') m K) : StoVC P (CtxA wA w0 X M) m K := ⟨fun w hw => by
  obtain ⟨w', C', h1, h2, h3, h4⟩ := h.out w (hs.on _ _ _ _ hw)
  exact ⟨w', C', h1, h2.imp hs, h3, h4⟩⟩
theorem CallVC.imp {f : FuncId} {args : Array Value} {K : Value → Ctx → Prop} {Z : PanK} (hs : Imp M M') (h : CallVC P (CtxA wA w0 X M') f args K Z) : CallVC P (CtxA wA w0 X M) f args K Z := ⟨h.out.1, fun w hw =>
  (h.out.2 w (hs.on _ _ _ _ hw)).mono fun e w' hh => hh.imp (fun ⟨v, C', h1, h2, h3, h4⟩ => ⟨v, C', h1, h2.imp hs, h3, h4⟩) (fun ⟨ch, C', h1, h2, h3, h4⟩ => ⟨ch, C', h1, h2.imp hs, h3, h4⟩)⟩
theorem DefVC.imp {d : Deferred} {u : FrameMode} {K : FrameMode → Ctx → Prop} (hs : Imp M M') (h : DefVC P (CtxA wA w0 X M') d u K) : DefVC P (CtxA wA w0 X M) d u K := ⟨fun w hw => by
  obtain ⟨fv, cap, f, args, h1, h2, h3⟩ := h.out w (hs.on _ _ _ _ hw)
  refine ⟨fv, cap, f, args, h1, h2, fun c cs hc => ?_⟩
  obtain ⟨e, u', w', fr, ⟨v, C', h4, h5, h6, h7⟩, h8⟩ := h3 c cs hc
  exact ⟨e, u', w', fr, ⟨v, C', h4, h5.imp hs, h6, h7⟩, h8⟩⟩
end
section
variable {P : Program} {C : Ctx} {K : Value → Ctx → Prop} {Z : PanK} {ev : Operand → Value} {o : Oper}
def TD.plain : TD → Bool
  | .other => false
  | _ => true
/-- an interface value is made -/
theorem opMkI {t : TypeId} {x : Operand} {i : TyI} (ho : o.op = .makeInterface t x) (hi : TyOk P t i) (hd : i.d.plain = true) (h : K (.iface t (ev x)) C) : OpVC P C (execOp ev o) K Z := by
  refine opA (fun w => ?_) h
  have h1 := hi.desc
  cases e : P.underlying t with
  | none => rw [e] at h1; cases h1
  | some d =>
    rw [e] at h1
    injection h1 with h1
    rw [← h1] at hd
    cases d <;> first | (simp [TD.of, TD.plain] at hd; done) | simp [execOp, ho, Instr.makeInterface, run_underlying e]
theorem opPan {x : Operand} {t : TypeId} {v : Value} (ho : o.op = .panic x) (hx : ev x = .iface t v) (h : Z [{ v := .iface t v, recovered := false }] C) : OpVC P C (execOp ev o) K Z :=
  panA (fun w => by simp [execOp, ho, hx, Instr.panic]) h
def forceU (v : Value) (K : Value → Prop) : Prop := match v with
  | .bool b => K (.bool b)
  | .int k n => K (.int k n)
  | .pointer a => K (.pointer a)
  | .slice a n c => K (.slice a n c)
  | .func f a b => K (.func f a b)
  | .nilFunc => K .nilFunc
  | v => K v
theorem forceU_eq (v : Value) (K : Value → Prop) : forceU v K = K v := by cases v <;> rfl
def forceUs : List Value → (List Value → Prop) → Prop
  | [], K => K []
  | v :: l, K => forceU v fun v => forceUs l fun l => K (v :: l)
theorem forceUs_eq : ∀ (l : List Value) (K : List Value → Prop), forceUs l K = K l
  | [], _ => rfl
  | v :: l, K => by unfold forceUs; rw [forceU_eq, forceUs_eq l]
theorem opMkF {fn : Fn} {first cap : Array Operand} (ho : o.op = .makeFunc fn first cap) (h : forceUs (first.toList.map ev) fun l1 => forceUs (cap.toList.map ev) fun l2 => K (.func fn l1.toArray l2.toArray) C) : OpVC P C (execOp ev o) K Z := by
  rw [forceUs_eq, forceUs_eq] at h
  have e1 : (first.toList.map ev).toArray = first.map ev := by apply Array.ext'; simp
  have e2 : (cap.toList.map ev).toArray = cap.map ev := by apply Array.ext'; simp
  rw [e1, e2] at h
  exact opA (fun w => by simp [execOp, ho, Instr.makeFunc]) h
/-- an array is built -/
theorem buildA {t e : TypeId} {n : Nat} {ti te : TyI} {ps : Array (Nat × Value)} (hu : P.underlying t = some (.array n e)) (ht : TyOk P t ti) (he : TyOk P e te) (h : fillS te.size ti.zv.cells.toList ps.toList fun cs => K (.agg cs.toArray) C) : SemVC P C (Instr.build t ps) K := by
  obtain ⟨cs, h1, h2⟩ := fillS_iff h
  refine semA (fun w => ?_) h2
  rw [Array.toArray_toList] at h1
  simp only [Instr.build, Sem.run_bind, ht.run_zero, Result.andThen_ok, run_underlying hu, he.run_size, h1, Sem.run_pure]
/-- an element of an array, by address -/
theorem idxArr {t e : TypeId} {n : Nat} {te : TyI} {b off : Nat} {k : IntKind} {i : Int} (hu : P.underlying t = some (.array n e)) (he : TyOk P e te) (h0 : 0 ≤ i) (h1 : i < n) (h : K (.pointer (some ⟨b, off + i.toNat * te.size, none⟩)) C) : SemVC P C (Instr.indexAt t (.pointer (some ⟨b, off, none⟩)) (.int k i)) K :=
  semA (fun w => by simp [Instr.indexAt, asIntOf, run_underlying hu, Instr.sureAddr, h0, h1, he.run_size, Addr.add_lit]) h
theorem idxArrN {t e : TypeId} {n : Nat} {te : TyI} {b off : Nat} {k : IntKind} {i : Int} (j : Nat) (hj : i = (j : Int)) (hu : P.underlying t = some (.array n e)) (he : TyOk P e te) (h1 : j < n) (h : K (.pointer (some ⟨b, off + j * te.size, none⟩)) C) : SemVC P C (Instr.indexAt t (.pointer (some ⟨b, off, none⟩)) (.int k i)) K := by
  subst hj
  exact idxArr hu he (by omega) (by omega) (by simpa using h)
/-- is a slice nil? -/
theorem semNil {t : TypeId} {e : TypeId} {x y : Operand} {A : Option Addr} {n c : Nat} (hu : P.underlying t = some (.slice e)) (h : K (.bool A.isNone) C) : SemVC P C (do eqGuard .eql t x y (.slice A n c) (.slice none 0 0); binOp .eql t (.slice A n c) (.slice none 0 0)) K := by
  refine semA (fun w => ?_) h
  have e : Op.maxDepth = (Op.maxDepth - 1) + 1 := rfl
  cases A <;> (simp [eqGuard, binOp, Op.equal]; rw [e]; simp [Op.equalIn, run_underlying hu])
end
end Go.Proofs.YtgaopcbjhepklaaGreat
