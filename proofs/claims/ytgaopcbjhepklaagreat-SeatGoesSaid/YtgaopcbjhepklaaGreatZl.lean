/- A frame that goes on: each instruction is what it is in plain terms. -/
import Derived.Test.YtgaopcbjhepklaaGreatZc
import Derived.Test.YtgaopcbjhepklaaGreatZd

import Derived.Test.YtgaopcbjhepklaaGreatZe
import Derived.Test.YtgaopcbjhepklaaGreatZk
import Derived.Test.YtgaopcbjhepklaaGreatZj
namespace Go.Proofs.YtgaopcbjhepklaaGreat
open Go.RowKit
set_option linter.unusedSimpArgs false
set_option linter.unusedVariables false
set_option maxRecDepth 100000
section
variable {wA w0 : World} {X : Nat → Prop} {M : EL} {K : Value → Ctx → Prop} {Z : PanK} {k : MK} {v : MV} {bm : Nat} {fa : Int → Int} {i : InsP}
abbrev insV (i : InsP) : Value := .agg #[.int .i64 i.op, .int .i64 i.a, .int .i64 i.b, .int .i64 i.c]
/-- what has to be shown of an instruction -/
structure Goal (wA w0 : World) (X : Nat → Prop) (M : EL) (K : Value → Ctx → Prop) (Z : PanK) (k : MK) (v : MV) (bm : Nat) (fa : Int → Int) (i : InsP) : Prop where
  go : ∀ v', MOk k v' → v'.spent = v.spent + 1 → instrP k fa (pf v) i = .go (pf v') → K (.tuple #[]) (CtxA wA w0 X (ent k v' q0 bm M))
  ask : ∀ v' q, MOk k v' → QOk q → q.kind ≠ 0 → instrP k fa (pf v) i = .ask (pf v') (qp q) → K (.tuple #[]) (CtxA wA w0 X (ent k v' q bm M))
  err : instrP k fa (pf v) i = .err 1 → Z [{ v := errV 1, recovered := false }] (CtxA wA w0 X (ent k v q0 bm M))
theorem qok0 (q : QV) (h1 : q.na = 0) (h2 : q.ca = 0) (h3 : q.got = []) : QOk q := ⟨by rw [h1, h3]; rfl, by omega, fun h => by omega⟩
/-- a step ahead -/
structure Room (k : MK) (v : MV) : Prop where
  pc : v.pc < 1000000
  spent : v.spent < 2000
  ni : k.ni ≤ 1000000
theorem MOk.pushed (hm : MOk k v) (hr : Room k v) {A' : Option Addr} {c' : Nat} (x : Int) (h : v.ns < 100) (hc : v.ns + 1 ≤ c') (hA : 0 < c' → ∃ b, A' = some ⟨b, 0, none⟩) : MOk k { v with As := A', ns := v.ns + 1, cs := c', stk := v.stk ++ [x], pc := v.pc + 1, spent := v.spent + 1 } :=
  ⟨by have := hm.pc; have := hr.pc; show 0 ≤ v.pc + 1 ∧ v.pc + 1 ≤ 1000000; omega, by have := hm.spent; have := hr.spent; show 0 ≤ v.spent + 1 ∧ v.spent + 1 ≤ 2000; omega, by have := hm.ns; simp; omega, hm.nl, by show v.ns + 1 ≤ 100; omega, hA, hc, hm.Al, hm.cl, hm.nk, hm.Ak, hm.ck, hm.kk⟩
theorem MOk.moved (hm : MOk k v) (hr : Room k v) (m : Nat) (pc : Int) (hp : 0 ≤ pc ∧ pc ≤ 1000000) (fail : Bool) (loc : List Int) (hl : loc.length = v.loc.length) : MOk k { v with ns := v.ns - m, stk := v.stk.take (v.ns - m), pc := pc, spent := v.spent + 1, fail := fail, loc := loc } :=
  ⟨hp, by have := hm.spent; have := hr.spent; show 0 ≤ v.spent + 1 ∧ v.spent + 1 ≤ 2000; omega, by have := hm.ns; simp; omega, by rw [hl]; exact hm.nl, by have := hm.sm; show v.ns - m ≤ 100; omega, hm.As, by have := hm.cs; show v.ns - m ≤ v.cs; omega, hm.Al, hm.cl, hm.nk, hm.Ak, hm.ck, hm.kk⟩
theorem MOk.plain (hm : MOk k v) (hr : Room k v) (pc : Int) (hp : 0 ≤ pc ∧ pc ≤ 1000000) : MOk k { v with pc := pc, spent := v.spent + 1 } :=
  ⟨hp, by have := hm.spent; have := hr.spent; show 0 ≤ v.spent + 1 ∧ v.spent + 1 ≤ 2000; omega, hm.ns, hm.nl, hm.sm, hm.As, hm.cs, hm.Al, hm.cl, hm.nk, hm.Ak, hm.ck, hm.kk⟩
theorem MOk.twoed (hm : MOk k v) (hr : Room k v) {A' : Option Addr} {c' : Nat} (x : Int) (h : 2 ≤ v.ns) (hc : v.ns - 2 + 1 ≤ c') (hA : 0 < c' → ∃ b, A' = some ⟨b, 0, none⟩) : MOk k { v with As := A', ns := v.ns - 2 + 1, cs := c', stk := v.stk.take (v.ns - 2) ++ [x], pc := v.pc + 1, spent := v.spent + 1 } :=
  ⟨by have := hm.pc; have := hr.pc; show 0 ≤ v.pc + 1 ∧ v.pc + 1 ≤ 1000000; omega, by have := hm.spent; have := hr.spent; show 0 ≤ v.spent + 1 ∧ v.spent + 1 ≤ 2000; omega, by have := hm.ns; simp; omega, hm.nl, by have := hm.sm; show v.ns - 2 + 1 ≤ 100; omega, hA, hc, hm.Al, hm.cl, hm.nk, hm.Ak, hm.ck, hm.kk⟩
theorem i_1 (hm : MOk k v) (hr : Room k v) (hop : i.op = 1) (G : Goal wA w0 X M K Z k v bm fa i) : CallVC Tryz.prog (CtxA wA w0 X (ent k v q0 bm M)) 91 #[.pointer (some ⟨bm, 0, none⟩), insV i] K Z := by
  have hn := hm.ns
  have hl := hm.nl
  have hk := hm.nk
  have hpc := hm.pc
  have hp1 := hr.pc
  refine push_vc hm _ _ _ _ (fun h1 h2 h3 A' c' h4 h5 => ?_) (fun h => ?_)
  · exact G.go _ (hm.pushed hr _ h3 h4 h5) rfl (by rw [instr_1 hop, if_pos (by show 0 ≤ i.a ∧ i.a < 4294967296 ∧ v.stk.length < 100; omega)]; simp only [PF.pop, PF.nx, PF.at_, PF.two, pf, qp, q0, hn])
  · exact G.err (by rw [instr_1 hop, if_neg (by show ¬ (0 ≤ i.a ∧ i.a < 4294967296 ∧ v.stk.length < 100); omega)])
theorem i_2 (hm : MOk k v) (hr : Room k v) (hop : i.op = 2) (G : Goal wA w0 X M K Z k v bm fa i) : CallVC Tryz.prog (CtxA wA w0 X (ent k v q0 bm M)) 92 #[.pointer (some ⟨bm, 0, none⟩), insV i] K Z := by
  have hn := hm.ns
  have hl := hm.nl
  have hk := hm.nk
  have hpc := hm.pc
  have hp1 := hr.pc
  refine local_vc hm _ _ _ _ (fun h1 h2 h3 => ?_) (fun h1 h2 h3 h4 A' c' h5 h6 => ?_) (fun h => ?_)
  · exact G.ask _ _ hm (qok0 _ rfl rfl rfl) (show (5 : Int) ≠ 0 by decide) (by rw [instr_2 hop, if_neg (by show ¬ ¬ (0 ≤ i.a ∧ i.a < v.loc.length); omega), if_pos h3]; simp only [PF.pop, PF.nx, PF.at_, PF.two, pf, qp, q0, hn])
  · exact G.go _ (hm.pushed hr _ h4 h5 h6) rfl (by rw [instr_2 hop, if_neg (by show ¬ ¬ (0 ≤ i.a ∧ i.a < v.loc.length); omega), if_neg (by rw [h3]; decide), if_pos (by show v.stk.length < 100; omega)]; simp only [PF.pop, PF.nx, PF.at_, PF.two, pf, qp, q0, hn])
  · by_cases hc : 0 ≤ i.a ∧ i.a < v.nl
    · rcases h with h | ⟨h3, h4⟩
      · exact absurd hc h
      · exact G.err (by rw [instr_2 hop, if_neg (by show ¬ ¬ (0 ≤ i.a ∧ i.a < v.loc.length); omega), if_neg (by rw [h3]; decide), if_neg (by show ¬ v.stk.length < 100; omega)])
    · exact G.err (by rw [instr_2 hop, if_pos (by show ¬ (0 ≤ i.a ∧ i.a < v.loc.length); omega)])
theorem i_3 (hm : MOk k v) (hr : Room k v) (hop : i.op = 3) (G : Goal wA w0 X M K Z k v bm fa i) : CallVC Tryz.prog (CtxA wA w0 X (ent k v q0 bm M)) 93 #[.pointer (some ⟨bm, 0, none⟩), insV i] K Z := by
  have hn := hm.ns
  have hl := hm.nl
  have hk := hm.nk
  have hpc := hm.pc
  have hp1 := hr.pc
  refine set_vc hm _ _ _ _ (fun h1 h2 h3 => ?_) (fun h1 h2 h3 h4 => ?_) (fun h => ?_)
  · exact G.ask _ _ hm (qok0 _ rfl rfl rfl) (show (5 : Int) ≠ 0 by decide) (by rw [instr_3 hop, if_neg (by show ¬ ¬ (0 ≤ i.a ∧ i.a < v.loc.length); omega), if_pos h3]; simp only [PF.pop, PF.nx, PF.at_, PF.two, pf, qp, q0, hn])
  · exact G.go _ (hm.moved hr 1 (v.pc + 1) (by omega) v.fail _ (by simp)) rfl (by rw [instr_3 hop, if_neg (by show ¬ ¬ (0 ≤ i.a ∧ i.a < v.loc.length); omega), if_neg (by rw [h3]; decide), if_pos (by show 1 ≤ v.stk.length; omega)]; simp only [PF.pop, PF.nx, PF.at_, PF.two, pf, qp, q0, hn])
  · by_cases hc : 0 ≤ i.a ∧ i.a < v.nl
    · rcases h with h | ⟨h3, h4⟩
      · exact absurd hc h
      · exact G.err (by rw [instr_3 hop, if_neg (by show ¬ ¬ (0 ≤ i.a ∧ i.a < v.loc.length); omega), if_neg (by rw [h3]; decide), if_neg (by show ¬ 1 ≤ v.stk.length; omega)])
    · exact G.err (by rw [instr_3 hop, if_pos (by show ¬ (0 ≤ i.a ∧ i.a < v.loc.length); omega)])
theorem i_4 (hm : MOk k v) (hr : Room k v) (hop : i.op = 4) (G : Goal wA w0 X M K Z k v bm fa i) : CallVC Tryz.prog (CtxA wA w0 X (ent k v q0 bm M)) 94 #[.pointer (some ⟨bm, 0, none⟩), insV i] K Z := by
  have hn := hm.ns
  have hl := hm.nl
  have hk := hm.nk
  have hpc := hm.pc
  have hp1 := hr.pc
  refine load_vc hm _ _ _ _ (fun h1 h2 => ?_) (fun h => ?_)
  · exact G.ask _ _ (hm.plain hr (v.pc + 1) (by omega)) (qok0 _ rfl rfl rfl) (show (1 : Int) ≠ 0 by decide) (by rw [instr_4 hop, if_pos ⟨h1, h2⟩]; simp only [PF.pop, PF.nx, PF.at_, PF.two, pf, qp, q0, hn])
  · exact G.err (by rw [instr_4 hop, if_neg h])
theorem i_5 (hm : MOk k v) (hr : Room k v) (hop : i.op = 5) (G : Goal wA w0 X M K Z k v bm fa i) : CallVC Tryz.prog (CtxA wA w0 X (ent k v q0 bm M)) 95 #[.pointer (some ⟨bm, 0, none⟩), insV i] K Z := by
  have hn := hm.ns
  have hl := hm.nl
  have hk := hm.nk
  have hpc := hm.pc
  have hp1 := hr.pc
  refine store_vc hm _ _ _ _ (fun h1 h2 h3 => ?_) (fun h => ?_)
  · exact G.ask _ _ (hm.moved hr 1 (v.pc + 1) (by omega) v.fail v.loc rfl) (qok0 _ rfl rfl rfl) (show (2 : Int) ≠ 0 by decide) (by rw [instr_5 hop, if_pos ⟨⟨h1, h2⟩, (by show 1 ≤ v.stk.length; omega)⟩]; simp only [PF.pop, PF.nx, PF.at_, PF.two, pf, qp, q0, hn])
  · exact G.err (by rw [instr_5 hop, if_neg (by show ¬ ((0 ≤ i.a ∧ i.a < k.nc) ∧ 1 ≤ v.stk.length); omega)])
theorem i_6 (hm : MOk k v) (hr : Room k v) (hop : i.op = 6) (bo : Nat) (hof : (Value.pointer (some ⟨bo, 0, none⟩), DA.cs 158 [.func (.func 97) #[] #[]]) ∈ M) (G : Goal wA w0 X M K Z k v bm fa i) : CallVC Tryz.prog (CtxA wA w0 X (ent k v q0 bm M)) 139 #[.pointer (some ⟨bm, 0, none⟩), insV i, .pointer (some ⟨bo, 0, none⟩)] K Z := by
  have hn := hm.ns
  have hl := hm.nl
  have hk := hm.nk
  have hpc := hm.pc
  have hp1 := hr.pc
  refine add_vc hm _ _ _ _ bo hof (fun h1 A' c' h4 h5 => ?_) (fun h => ?_)
  · exact G.go _ (hm.twoed hr _ h1 h4 h5) rfl (by rw [instr_6 hop, PF.two, if_pos (by show 2 ≤ v.stk.length; omega)]; simp only [PF.pop, PF.nx, PF.at_, PF.two, pf, qp, q0, hn])
  · exact G.err (by rw [instr_6 hop, PF.two, if_neg (by show ¬ 2 ≤ v.stk.length; omega)])
theorem i_7 (hm : MOk k v) (hr : Room k v) (hop : i.op = 7) (bo : Nat) (hof : (Value.pointer (some ⟨bo, 0, none⟩), DA.cs 158 [.func (.func 99) #[] #[]]) ∈ M) (G : Goal wA w0 X M K Z k v bm fa i) : CallVC Tryz.prog (CtxA wA w0 X (ent k v q0 bm M)) 139 #[.pointer (some ⟨bm, 0, none⟩), insV i, .pointer (some ⟨bo, 0, none⟩)] K Z := by
  have hn := hm.ns
  have hl := hm.nl
  have hk := hm.nk
  have hpc := hm.pc
  have hp1 := hr.pc
  refine sub_vc hm _ _ _ _ bo hof (fun h1 A' c' h4 h5 => ?_) (fun h => ?_)
  · exact G.go _ (hm.twoed hr _ h1 h4 h5) rfl (by rw [instr_7 hop, PF.two, if_pos (by show 2 ≤ v.stk.length; omega)]; simp only [PF.pop, PF.nx, PF.at_, PF.two, pf, qp, q0, hn])
  · exact G.err (by rw [instr_7 hop, PF.two, if_neg (by show ¬ 2 ≤ v.stk.length; omega)])
theorem i_8 (hm : MOk k v) (hr : Room k v) (hop : i.op = 8) (bo : Nat) (hof : (Value.pointer (some ⟨bo, 0, none⟩), DA.cs 158 [.func (.func 100) #[] #[]]) ∈ M) (G : Goal wA w0 X M K Z k v bm fa i) : CallVC Tryz.prog (CtxA wA w0 X (ent k v q0 bm M)) 139 #[.pointer (some ⟨bm, 0, none⟩), insV i, .pointer (some ⟨bo, 0, none⟩)] K Z := by
  have hn := hm.ns
  have hl := hm.nl
  have hk := hm.nk
  have hpc := hm.pc
  have hp1 := hr.pc
  refine mul_vc hm _ _ _ _ bo hof (fun h1 A' c' h4 h5 => ?_) (fun h => ?_)
  · exact G.go _ (hm.twoed hr _ h1 h4 h5) rfl (by rw [instr_8 hop, PF.two, if_pos (by show 2 ≤ v.stk.length; omega)]; simp only [PF.pop, PF.nx, PF.at_, PF.two, pf, qp, q0, hn])
  · exact G.err (by rw [instr_8 hop, PF.two, if_neg (by show ¬ 2 ≤ v.stk.length; omega)])
theorem i_19 (hm : MOk k v) (hr : Room k v) (hop : i.op = 19) (bo : Nat) (hof : (Value.pointer (some ⟨bo, 0, none⟩), DA.cs 158 [.func (.func 112) #[] #[]]) ∈ M) (G : Goal wA w0 X M K Z k v bm fa i) : CallVC Tryz.prog (CtxA wA w0 X (ent k v q0 bm M)) 139 #[.pointer (some ⟨bm, 0, none⟩), insV i, .pointer (some ⟨bo, 0, none⟩)] K Z := by
  have hn := hm.ns
  have hl := hm.nl
  have hk := hm.nk
  have hpc := hm.pc
  have hp1 := hr.pc
  refine half_vc hm _ _ _ _ bo hof (fun h1 A' c' h4 h5 => ?_) (fun h => ?_)
  · exact G.go _ (hm.twoed hr _ h1 h4 h5) rfl (by rw [instr_19 hop, PF.two, if_pos (by show 2 ≤ v.stk.length; omega)]; simp only [PF.pop, PF.nx, PF.at_, PF.two, pf, qp, q0, hn])
  · exact G.err (by rw [instr_19 hop, PF.two, if_neg (by show ¬ 2 ≤ v.stk.length; omega)])
theorem i_9 (hm : MOk k v) (hr : Room k v) (hop : i.op = 9) (bo : Nat) (hof : (Value.pointer (some ⟨bo, 0, none⟩), DA.cs 158 [.func (.func 101) #[] #[]]) ∈ M) (G : Goal wA w0 X M K Z k v bm fa i) : CallVC Tryz.prog (CtxA wA w0 X (ent k v q0 bm M)) 139 #[.pointer (some ⟨bm, 0, none⟩), insV i, .pointer (some ⟨bo, 0, none⟩)] K Z := by
  have hn := hm.ns
  have hl := hm.nl
  have hk := hm.nk
  have hpc := hm.pc
  have hp1 := hr.pc
  refine less_vc hm _ _ _ _ bo hof (fun h1 h2 A' c' h4 h5 => ?_) (fun h1 h2 A' c' h4 h5 => ?_) (fun h => ?_)
  · exact G.go _ (hm.twoed hr _ h1 h4 h5) rfl (by have h3 : ((pf v).at_ 2 0 < (pf v).at_ 2 1) := (by simp only [PF.at_, pf, ← hn]; exact h2); rw [instr_9 hop, PF.two, if_pos (by show 2 ≤ v.stk.length; omega), if_pos h3]; simp only [PF.pop, PF.nx, PF.at_, PF.two, pf, qp, q0, hn])
  · exact G.go _ (hm.twoed hr _ h1 h4 h5) rfl (by have h3 : ¬ ((pf v).at_ 2 0 < (pf v).at_ 2 1) := (by simp only [PF.at_, pf, ← hn]; exact h2); rw [instr_9 hop, PF.two, if_pos (by show 2 ≤ v.stk.length; omega), if_neg h3]; simp only [PF.pop, PF.nx, PF.at_, PF.two, pf, qp, q0, hn])
  · exact G.err (by rw [instr_9 hop, PF.two, if_neg (by show ¬ 2 ≤ v.stk.length; omega)])
theorem i_10 (hm : MOk k v) (hr : Room k v) (hop : i.op = 10) (bo : Nat) (hof : (Value.pointer (some ⟨bo, 0, none⟩), DA.cs 158 [.func (.func 103) #[] #[]]) ∈ M) (G : Goal wA w0 X M K Z k v bm fa i) : CallVC Tryz.prog (CtxA wA w0 X (ent k v q0 bm M)) 139 #[.pointer (some ⟨bm, 0, none⟩), insV i, .pointer (some ⟨bo, 0, none⟩)] K Z := by
  have hn := hm.ns
  have hl := hm.nl
  have hk := hm.nk
  have hpc := hm.pc
  have hp1 := hr.pc
  refine eq_vc hm _ _ _ _ bo hof (fun h1 h2 A' c' h4 h5 => ?_) (fun h1 h2 A' c' h4 h5 => ?_) (fun h => ?_)
  · exact G.go _ (hm.twoed hr _ h1 h4 h5) rfl (by have h3 : ((pf v).at_ 2 0 = (pf v).at_ 2 1) := (by simp only [PF.at_, pf, ← hn]; exact h2); rw [instr_10 hop, PF.two, if_pos (by show 2 ≤ v.stk.length; omega), if_pos h3]; simp only [PF.pop, PF.nx, PF.at_, PF.two, pf, qp, q0, hn])
  · exact G.go _ (hm.twoed hr _ h1 h4 h5) rfl (by have h3 : ¬ ((pf v).at_ 2 0 = (pf v).at_ 2 1) := (by simp only [PF.at_, pf, ← hn]; exact h2); rw [instr_10 hop, PF.two, if_pos (by show 2 ≤ v.stk.length; omega), if_neg h3]; simp only [PF.pop, PF.nx, PF.at_, PF.two, pf, qp, q0, hn])
  · exact G.err (by rw [instr_10 hop, PF.two, if_neg (by show ¬ 2 ≤ v.stk.length; omega)])
theorem i_12 (hm : MOk k v) (hr : Room k v) (hop : i.op = 12) (G : Goal wA w0 X M K Z k v bm fa i) : CallVC Tryz.prog (CtxA wA w0 X (ent k v q0 bm M)) 105 #[.pointer (some ⟨bm, 0, none⟩), insV i] K Z := by
  have hn := hm.ns
  have hl := hm.nl
  have hk := hm.nk
  have hpc := hm.pc
  have hp1 := hr.pc
  refine drop_vc hm _ _ _ _ (fun h1 => ?_) (fun h => ?_)
  · exact G.go _ (hm.moved hr 1 (v.pc + 1) (by omega) v.fail v.loc rfl) rfl (by rw [instr_12 hop, if_pos (by show 1 ≤ v.stk.length; omega)]; simp only [PF.pop, PF.nx, PF.at_, PF.two, pf, qp, q0, hn])
  · exact G.err (by rw [instr_12 hop, if_neg (by show ¬ 1 ≤ v.stk.length; omega)])
theorem i_14 (hm : MOk k v) (hr : Room k v) (hop : i.op = 14) (G : Goal wA w0 X M K Z k v bm fa i) : CallVC Tryz.prog (CtxA wA w0 X (ent k v q0 bm M)) 107 #[.pointer (some ⟨bm, 0, none⟩), insV i] K Z := by
  have hn := hm.ns
  have hl := hm.nl
  have hk := hm.nk
  have hpc := hm.pc
  have hp1 := hr.pc
  refine sync_vc hm _ _ _ _ (fun h1 => ?_) (fun h1 => ?_)
  · exact G.ask _ _ hm (qok0 _ rfl rfl rfl) (show (5 : Int) ≠ 0 by decide) (by rw [instr_14 hop, if_pos h1]; simp only [PF.pop, PF.nx, PF.at_, PF.two, pf, qp, q0, hn])
  · exact G.go _ (hm.plain hr (v.pc + 1) (by omega)) rfl (by rw [instr_14 hop, if_neg (by omega)]; simp only [PF.pop, PF.nx, PF.at_, PF.two, pf, qp, q0, hn])
theorem i_15 (hm : MOk k v) (hr : Room k v) (hop : i.op = 15) (G : Goal wA w0 X M K Z k v bm fa i) : CallVC Tryz.prog (CtxA wA w0 X (ent k v q0 bm M)) 108 #[.pointer (some ⟨bm, 0, none⟩), insV i] K Z := by
  have hn := hm.ns
  have hl := hm.nl
  have hk := hm.nk
  have hpc := hm.pc
  have hp1 := hr.pc
  refine jump_vc hm _ _ _ _ (fun h1 h2 => ?_) (fun h => ?_)
  · exact G.go _ (hm.plain hr i.a (by have := hr.ni; omega)) rfl (by rw [instr_15 hop, if_pos ⟨h1, h2⟩]; simp only [PF.pop, PF.nx, PF.at_, PF.two, pf, qp, q0, hn])
  · exact G.err (by rw [instr_15 hop, if_neg h])
theorem i_16 (hm : MOk k v) (hr : Room k v) (hop : i.op = 16) (G : Goal wA w0 X M K Z k v bm fa i) : CallVC Tryz.prog (CtxA wA w0 X (ent k v q0 bm M)) 109 #[.pointer (some ⟨bm, 0, none⟩), insV i] K Z := by
  have hn := hm.ns
  have hl := hm.nl
  have hk := hm.nk
  have hpc := hm.pc
  have hp1 := hr.pc
  refine zero_vc hm _ _ _ _ (fun h1 h2 h3 h4 => ?_) (fun h1 h2 h3 h4 => ?_) (fun h => ?_)
  · exact G.go _ (hm.moved hr 1 i.a (by have := hr.ni; omega) v.fail v.loc rfl) rfl (by rw [instr_16 hop, if_pos ⟨⟨h1, h2⟩, (by show 1 ≤ v.stk.length; omega)⟩, if_pos (by simp only [hn] at h4; exact h4)]; simp only [PF.pop, PF.nx, PF.at_, PF.two, pf, qp, q0, hn])
  · exact G.go _ (hm.moved hr 1 (v.pc + 1) (by omega) v.fail v.loc rfl) rfl (by rw [instr_16 hop, if_pos ⟨⟨h1, h2⟩, (by show 1 ≤ v.stk.length; omega)⟩, if_neg (by simp only [hn] at h4; exact h4)]; simp only [PF.pop, PF.nx, PF.at_, PF.two, pf, qp, q0, hn])
  · exact G.err (by rw [instr_16 hop, if_neg (by show ¬ ((0 ≤ i.a ∧ i.a < k.ni) ∧ 1 ≤ v.stk.length); omega)])
theorem i_17 (hm : MOk k v) (hr : Room k v) (hop : i.op = 17) (G : Goal wA w0 X M K Z k v bm fa i) : CallVC Tryz.prog (CtxA wA w0 X (ent k v q0 bm M)) 110 #[.pointer (some ⟨bm, 0, none⟩), insV i] K Z := by
  have hn := hm.ns
  have hl := hm.nl
  have hk := hm.nk
  have hpc := hm.pc
  have hp1 := hr.pc
  refine end_vc hm _ _ _ _ (fun h1 => ?_) (fun h1 h2 => ?_) (fun h => ?_)
  · exact G.ask _ _ hm (qok0 _ rfl rfl rfl) (show (5 : Int) ≠ 0 by decide) (by rw [instr_17 hop, if_pos h1]; simp only [PF.pop, PF.nx, PF.at_, PF.two, pf, qp, q0, hn])
  · exact G.ask _ _ (hm.moved hr 1 (v.pc + 1) (by omega) v.fail v.loc rfl) (qok0 _ rfl rfl rfl) (show (6 : Int) ≠ 0 by decide) (by rw [instr_17 hop, if_neg (by omega), if_pos (by show 1 ≤ v.stk.length; omega)]; simp only [PF.pop, PF.nx, PF.at_, PF.two, pf, qp, q0, hn])
  · exact G.err (by rw [instr_17 hop, if_neg (by omega), if_neg (by show ¬ 1 ≤ v.stk.length; omega)])
theorem i_18 (hm : MOk k v) (hr : Room k v) (hop : i.op = 18) (G : Goal wA w0 X M K Z k v bm fa i) : CallVC Tryz.prog (CtxA wA w0 X (ent k v q0 bm M)) 111 #[.pointer (some ⟨bm, 0, none⟩), insV i] K Z := by
  have hn := hm.ns
  have hl := hm.nl
  have hk := hm.nk
  have hpc := hm.pc
  have hp1 := hr.pc
  refine assert_vc hm _ _ _ _ (fun h1 h2 => ?_) (fun h1 h2 => ?_) (fun h => ?_)
  · exact G.go _ (hm.moved hr 1 (v.pc + 1) (by omega) true v.loc rfl) rfl (by rw [instr_18 hop, if_pos (by show 1 ≤ v.stk.length; omega), if_pos (by simp only [hn] at h2; exact h2)]; simp only [PF.pop, PF.nx, PF.at_, PF.two, pf, qp, q0, hn])
  · exact G.go _ (hm.moved hr 1 (v.pc + 1) (by omega) v.fail v.loc rfl) rfl (by rw [instr_18 hop, if_pos (by show 1 ≤ v.stk.length; omega), if_neg (by simp only [hn] at h2; exact h2)]; simp only [PF.pop, PF.nx, PF.at_, PF.two, pf, qp, q0, hn])
  · exact G.err (by rw [instr_18 hop, if_neg (by show ¬ 1 ≤ v.stk.length; omega)])
theorem i_11 (hm : MOk k v) (hr : Room k v) (hop : i.op = 11) (G : Goal wA w0 X M K Z k v bm fa i) : CallVC Tryz.prog (CtxA wA w0 X (ent k v q0 bm M)) 104 #[.pointer (some ⟨bm, 0, none⟩), insV i] K Z := by
  have hn := hm.ns
  have hpc := hm.pc
  have hp1 := hr.pc
  obtain ⟨op, a, b, c⟩ := i
  simp only at hop
  subst hop
  by_cases ha : a = 1
  · subst ha
    refine call1_vc hm _ _ _ (fun h1 h2 h3 h4 => ?_) (fun h => ?_)
    · have h1 : 0 ≤ b := h1
      have h2 : b < k.maps := h2
      have h3 : c = 1 := h3
      exact G.ask _ _ (hm.moved hr 1 (v.pc + 1) (by omega) v.fail v.loc rfl) (qok0 _ rfl rfl rfl) (show (3 : Int) ≠ 0 by decide) (by rw [instr_11 rfl, if_pos rfl, callP, if_pos (by show 0 ≤ b ∧ b < k.maps ∧ c = ((1 : Nat) : Int) ∧ 1 ≤ v.stk.length; omega)]; simp only [callP, PF.pop, PF.nx, pf, qp, q0, hn, if_true, if_false, Bool.false_eq_true])
    · have h : ¬ (0 ≤ b ∧ b < k.maps ∧ c = 1 ∧ 1 ≤ v.ns) := h
      exact G.err (by rw [instr_11 rfl, if_pos rfl, callP, if_neg (by show ¬ (0 ≤ b ∧ b < k.maps ∧ c = ((1 : Nat) : Int) ∧ 1 ≤ v.stk.length); omega)])
  by_cases ha : a = 2
  · subst ha
    refine call2_vc hm _ _ _ (fun h1 h2 h3 h4 => ?_) (fun h => ?_)
    · have h1 : 0 ≤ b := h1
      have h2 : b < k.maps := h2
      have h3 : c = 2 := h3
      exact G.ask _ _ (hm.moved hr 2 (v.pc + 1) (by omega) v.fail v.loc rfl) (qok0 _ rfl rfl rfl) (show (3 : Int) ≠ 0 by decide) (by rw [instr_11 rfl, if_neg (show ¬ ((2 : Int) = 1) by decide), if_pos rfl, callP, if_pos (by show 0 ≤ b ∧ b < k.maps ∧ c = ((2 : Nat) : Int) ∧ 2 ≤ v.stk.length; omega)]; simp only [callP, PF.pop, PF.nx, pf, qp, q0, hn, if_true, if_false, Bool.false_eq_true])
    · have h : ¬ (0 ≤ b ∧ b < k.maps ∧ c = 2 ∧ 2 ≤ v.ns) := h
      exact G.err (by rw [instr_11 rfl, if_neg (show ¬ ((2 : Int) = 1) by decide), if_pos rfl, callP, if_neg (by show ¬ (0 ≤ b ∧ b < k.maps ∧ c = ((2 : Nat) : Int) ∧ 2 ≤ v.stk.length); omega)])
  by_cases ha : a = 3
  · subst ha
    refine call3_vc hm _ _ _ (fun h1 h2 h3 h4 => ?_) (fun h => ?_)
    · have h1 : 0 ≤ b := h1
      have h2 : b < k.maps := h2
      have h3 : c = 1 := h3
      exact G.ask _ _ (hm.moved hr 1 (v.pc + 1) (by omega) v.fail v.loc rfl) (qok0 _ rfl rfl rfl) (show (3 : Int) ≠ 0 by decide) (by rw [instr_11 rfl, if_neg (show ¬ ((3 : Int) = 1) by decide), if_neg (show ¬ ((3 : Int) = 2) by decide), if_pos rfl, callP, if_pos (by show 0 ≤ b ∧ b < k.maps ∧ c = ((1 : Nat) : Int) ∧ 1 ≤ v.stk.length; omega)]; simp only [callP, PF.pop, PF.nx, pf, qp, q0, hn, if_true, if_false, Bool.false_eq_true])
    · have h : ¬ (0 ≤ b ∧ b < k.maps ∧ c = 1 ∧ 1 ≤ v.ns) := h
      exact G.err (by rw [instr_11 rfl, if_neg (show ¬ ((3 : Int) = 1) by decide), if_neg (show ¬ ((3 : Int) = 2) by decide), if_pos rfl, callP, if_neg (by show ¬ (0 ≤ b ∧ b < k.maps ∧ c = ((1 : Nat) : Int) ∧ 1 ≤ v.stk.length); omega)])
  by_cases ha : a = 4
  · subst ha
    refine call4_vc hm _ _ _ (fun h1 h2 h3 h4 => ?_) (fun h => ?_)
    · have h1 : 0 ≤ b := h1
      have h2 : b < k.stacks := h2
      have h3 : c = 1 := h3
      exact G.ask _ _ (hm.moved hr 1 (v.pc + 1) (by omega) v.fail v.loc rfl) (qok0 _ rfl rfl rfl) (show (3 : Int) ≠ 0 by decide) (by rw [instr_11 rfl, if_neg (show ¬ ((4 : Int) = 1) by decide), if_neg (show ¬ ((4 : Int) = 2) by decide), if_neg (show ¬ ((4 : Int) = 3) by decide), if_pos rfl, callP, if_pos (by show 0 ≤ b ∧ b < k.stacks ∧ c = ((1 : Nat) : Int) ∧ 1 ≤ v.stk.length; omega)]; simp only [callP, PF.pop, PF.nx, pf, qp, q0, hn, if_true, if_false, Bool.false_eq_true])
    · have h : ¬ (0 ≤ b ∧ b < k.stacks ∧ c = 1 ∧ 1 ≤ v.ns) := h
      exact G.err (by rw [instr_11 rfl, if_neg (show ¬ ((4 : Int) = 1) by decide), if_neg (show ¬ ((4 : Int) = 2) by decide), if_neg (show ¬ ((4 : Int) = 3) by decide), if_pos rfl, callP, if_neg (by show ¬ (0 ≤ b ∧ b < k.stacks ∧ c = ((1 : Nat) : Int) ∧ 1 ≤ v.stk.length); omega)])
  by_cases ha : a = 5
  · subst ha
    refine call5_vc hm _ _ _ (fun h1 h2 h3 h4 => ?_) (fun h => ?_)
    · have h1 : 0 ≤ b := h1
      have h2 : b < k.stacks := h2
      have h3 : c = 0 := h3
      exact G.ask _ _ (hm.moved hr 0 (v.pc + 1) (by omega) v.fail v.loc rfl) (qok0 _ rfl rfl rfl) (show (3 : Int) ≠ 0 by decide) (by rw [instr_11 rfl, if_neg (show ¬ ((5 : Int) = 1) by decide), if_neg (show ¬ ((5 : Int) = 2) by decide), if_neg (show ¬ ((5 : Int) = 3) by decide), if_neg (show ¬ ((5 : Int) = 4) by decide), if_pos rfl, callP, if_pos (by show 0 ≤ b ∧ b < k.stacks ∧ c = ((0 : Nat) : Int) ∧ 0 ≤ v.stk.length; omega)]; simp only [callP, PF.pop, PF.nx, pf, qp, q0, hn, if_true, if_false, Bool.false_eq_true])
    · have h : ¬ (0 ≤ b ∧ b < k.stacks ∧ c = 0 ∧ 0 ≤ v.ns) := h
      exact G.err (by rw [instr_11 rfl, if_neg (show ¬ ((5 : Int) = 1) by decide), if_neg (show ¬ ((5 : Int) = 2) by decide), if_neg (show ¬ ((5 : Int) = 3) by decide), if_neg (show ¬ ((5 : Int) = 4) by decide), if_pos rfl, callP, if_neg (by show ¬ (0 ≤ b ∧ b < k.stacks ∧ c = ((0 : Nat) : Int) ∧ 0 ≤ v.stk.length); omega)])
  by_cases ha : a = 6
  · subst ha
    refine call6_vc hm _ _ _ (fun h1 h2 h3 h4 => ?_) (fun h => ?_)
    · have h1 : 0 ≤ b := h1
      have h2 : b < k.chans := h2
      have h3 : c = 1 := h3
      exact G.ask _ _ (hm.moved hr 1 (v.pc + 1) (by omega) v.fail v.loc rfl) (qok0 _ rfl rfl rfl) (show (3 : Int) ≠ 0 by decide) (by rw [instr_11 rfl, if_neg (show ¬ ((6 : Int) = 1) by decide), if_neg (show ¬ ((6 : Int) = 2) by decide), if_neg (show ¬ ((6 : Int) = 3) by decide), if_neg (show ¬ ((6 : Int) = 4) by decide), if_neg (show ¬ ((6 : Int) = 5) by decide), if_pos rfl, callP, if_pos (by show 0 ≤ b ∧ b < k.chans ∧ c = ((1 : Nat) : Int) ∧ 1 ≤ v.stk.length; omega)]; simp only [callP, PF.pop, PF.nx, pf, qp, q0, hn, if_true, if_false, Bool.false_eq_true])
    · have h : ¬ (0 ≤ b ∧ b < k.chans ∧ c = 1 ∧ 1 ≤ v.ns) := h
      exact G.err (by rw [instr_11 rfl, if_neg (show ¬ ((6 : Int) = 1) by decide), if_neg (show ¬ ((6 : Int) = 2) by decide), if_neg (show ¬ ((6 : Int) = 3) by decide), if_neg (show ¬ ((6 : Int) = 4) by decide), if_neg (show ¬ ((6 : Int) = 5) by decide), if_pos rfl, callP, if_neg (by show ¬ (0 ≤ b ∧ b < k.chans ∧ c = ((1 : Nat) : Int) ∧ 1 ≤ v.stk.length); omega)])
  by_cases ha : a = 7
  · subst ha
    refine call7_vc hm _ _ _ (fun h1 h2 h3 h4 => ?_) (fun h => ?_)
    · have h1 : 0 ≤ b := h1
      have h2 : b < k.chans := h2
      have h3 : c = 0 := h3
      exact G.ask _ _ (hm.moved hr 0 (v.pc + 1) (by omega) v.fail v.loc rfl) (qok0 _ rfl rfl rfl) (show (3 : Int) ≠ 0 by decide) (by rw [instr_11 rfl, if_neg (show ¬ ((7 : Int) = 1) by decide), if_neg (show ¬ ((7 : Int) = 2) by decide), if_neg (show ¬ ((7 : Int) = 3) by decide), if_neg (show ¬ ((7 : Int) = 4) by decide), if_neg (show ¬ ((7 : Int) = 5) by decide), if_neg (show ¬ ((7 : Int) = 6) by decide), if_pos rfl, callP, if_pos (by show 0 ≤ b ∧ b < k.chans ∧ c = ((0 : Nat) : Int) ∧ 0 ≤ v.stk.length; omega)]; simp only [callP, PF.pop, PF.nx, pf, qp, q0, hn, if_true, if_false, Bool.false_eq_true])
    · have h : ¬ (0 ≤ b ∧ b < k.chans ∧ c = 0 ∧ 0 ≤ v.ns) := h
      exact G.err (by rw [instr_11 rfl, if_neg (show ¬ ((7 : Int) = 1) by decide), if_neg (show ¬ ((7 : Int) = 2) by decide), if_neg (show ¬ ((7 : Int) = 3) by decide), if_neg (show ¬ ((7 : Int) = 4) by decide), if_neg (show ¬ ((7 : Int) = 5) by decide), if_neg (show ¬ ((7 : Int) = 6) by decide), if_pos rfl, callP, if_neg (by show ¬ (0 ≤ b ∧ b < k.chans ∧ c = ((0 : Nat) : Int) ∧ 0 ≤ v.stk.length); omega)])
  refine callx_vc hm _ _ _ _ ⟨by assumption, by assumption, by assumption, by assumption, by assumption, by assumption, by assumption⟩ ?_
  exact G.err (by rw [instr_11 rfl, if_neg (by assumption), if_neg (by assumption), if_neg (by assumption), if_neg (by assumption), if_neg (by assumption), if_neg (by assumption), if_neg (by assumption)])
theorem i_13 (hm : MOk k v) (hr : Room k v) (fal : List Int) (hF : ∀ i, i < k.nf → ∃ bf o, k.Af = some ⟨bf, o, none⟩ ∧ wA.cell? ⟨bf, o + i * 3, none⟩ = some (.int .i64 (fal.getD i 0))) (hfa : ∀ a, fa a = fal.getD a.toNat 0) (hop : i.op = 13) (G : Goal wA w0 X M K Z k v bm fa i) : CallVC Tryz.prog (CtxA wA w0 X (ent k v q0 bm M)) 106 #[.pointer (some ⟨bm, 0, none⟩), insV i] K Z := by
  have hn := hm.ns
  have hl := hm.nl
  have hpc := hm.pc
  have hp1 := hr.pc
  obtain ⟨op, a, b, c⟩ := i
  simp only at hop
  subst hop
  by_cases hb : b < 0
  · exact spawnneg_vc hm _ _ _ _ hb (G.err (by rw [instr_13 rfl, if_neg (by show ¬ (0 ≤ b ∧ _); omega)]))
  · obtain ⟨nb, rfl⟩ := Int.eq_ofNat_of_zero_le (show 0 ≤ b by omega)
    have e := hfa a
    refine spawn_vc hm _ _ _ nb fal hF (fun h1 h2 h3 h4 h5 A' c' h6 h7 => ?_) (fun h => ?_)
    · have h1 : 0 ≤ a := h1
      have h2 : a < k.nf := h2
      have h3 : c = -1 ∨ 0 ≤ c ∧ c < v.nl := h3
      have h4 : (nb : Int) = fal.getD a.toNat 0 := h4
      refine G.ask _ _ (hm.moved hr nb (v.pc + 1) (by omega) v.fail v.loc rfl) ⟨by show nb = (v.stk.drop (v.ns - nb)).length; simp; omega, h6, h7⟩ (show (4 : Int) ≠ 0 by decide) ?_
      rw [instr_13 rfl, if_pos (by show 0 ≤ (nb : Int) ∧ (0 ≤ a ∧ a < k.nf) ∧ (c = -1 ∨ 0 ≤ c ∧ c < v.loc.length) ∧ (nb : Int) = fa a ∧ (nb : Int) ≤ v.stk.length; omega)]
      simp only [PF.pop, PF.nx, pf, qp, q0, hn, Int.toNat_natCast]
    · have h : ¬ (0 ≤ a ∧ a < k.nf) ∨ ¬ (c = -1 ∨ 0 ≤ c ∧ c < v.nl) ∨ (nb : Int) ≠ fal.getD a.toNat 0 ∨ ¬ nb ≤ v.ns := h
      exact G.err (by rw [instr_13 rfl, if_neg (by show ¬ (0 ≤ (nb : Int) ∧ (0 ≤ a ∧ a < k.nf) ∧ (c = -1 ∨ 0 ≤ c ∧ c < v.loc.length) ∧ (nb : Int) = fa a ∧ (nb : Int) ≤ v.stk.length); omega)])
end
end Go.Proofs.YtgaopcbjhepklaaGreat
