/- The conditions of code serve. -/
import Derived.Test.YtgaopcbjhepklaaGreatWf
import Derived.Deep.LoopGhost
namespace Go.Proofs.YtgaopcbjhepklaaGreat
open Go.RowKit
set_option linter.unusedSimpArgs false
set_option linter.unusedVariables false

def liftQ (N : Fk) (K : Ctx → SS → Prop) (E : EK) : Exit → Act → World → Prop := fun e a w => match e with
  | .normal => Nx N K a w
  | e => Nx N (E e) a w
theorem litB_eq {ss : SS} {g : Nat} {b : Bool} (h : ss.s g = .v (.bool b)) : litB ss g b = ss := by
  have : upd ss.s g (.v (.bool b)) = ss.s := by
    funext t
    by_cases e : t = g
    · subst e; rw [upd_same, h]
    · rw [upd_ne _ _ e]
  simp [litB, this]
/-- a loop, from the beginning of a round -/
def LoopFrom (P : Program) (c : Code) (Q : Exit → Act → World → Prop) (a : Act) (w : World) : Prop := ∀ (b : Frame) (k : List Item) (cs : List Frame), ∃ e a' w', Q e a' w' ∧ Arrives P (lone (b.at a (.code c :: .inLoop c :: k)) cs w) b k cs e a' w'
theorem loopFrom_wp {P : Program} {c : Code} {Q : Exit → Act → World → Prop} {a : Act} {w : World} (h : LoopFrom P c Q a w) : (Code.loop c).wp P Q a w := fun b k cs => by
  obtain ⟨e, a', w', hq, harr⟩ := h b k cs
  exact ⟨e, a', w', hq, .of_steps (.one step_loop) harr⟩
theorem loopFrom_step {P : Program} {c : Code} {Q : Exit → Act → World → Prop} {a : Act} {w : World} (h : c.wp P (Exit.then (LoopFrom P c Q) Q) a w) : LoopFrom P c Q a w := fun b k cs => by
  obtain ⟨e, a₁, w₁, hq, harr⟩ := h b (.inLoop c :: k) cs
  cases e with
  | normal =>
    obtain ⟨e₂, a₂, w₂, hq₂, harr₂⟩ := hq b k cs
    exact ⟨e₂, a₂, w₂, hq₂, .of_steps (Steps.trans harr (.one step_inLoop)) harr₂⟩
  | exit id => exact ⟨_, a₁, w₁, hq, .pass (x := .inLoop c) rfl (fun _ _ => .inl (by simp)) harr⟩
  | goto l => exact ⟨_, a₁, w₁, hq, .pass (x := .inLoop c) rfl (fun _ _ => .inl (by simp)) harr⟩
  | ret => exact ⟨_, a₁, w₁, hq, .pass (x := .inLoop c) rfl (fun _ _ => .inl (by simp)) harr⟩
  | panic ch => exact ⟨_, a₁, w₁, hq, .pass (x := .inLoop c) rfl (fun _ _ => .inl (by simp)) harr⟩
  | outgrown => exact ⟨_, a₁, w₁, hq, .pass (x := .inLoop c) rfl (fun _ _ => .inl (by simp)) harr⟩
section
variable {P : Program} {T : List (Nat × TyI)} {N : Fk} {D : Nat → Plan} {C : Ctx} {ρ : Nat → Nat} {ss : SS} {a : Act} {w : World} {o : Oper} {K : Ctx → SS → Prop} {E : EK} {Q : Exit → Act → World → Prop} {ops : Array Oper}
theorem guardK_iff {A B : SS → Prop} (r : RepAt N C ρ ss a w) (h : guardK ops.toList o ss A B) : (Region.wanted o (yielded ops a.tmps) = true ∧ A ss) ∨ (Region.wanted o (yielded ops a.tmps) = false ∧ B ss) := by
  unfold guardK at h
  split at h
  · rename_i hg
    exact .inl ⟨by simp [Region.wanted, hg], h⟩
  · rename_i j want hg
    split at h
    · rename_i og hj
      split at h
      · rename_i g hd
        split at h
        · rename_i b hb
          have hslot : a.tmps.getD g undef = .bool b := by rw [r.slot g, hb]; rfl
          have hs : a.tmps[g]? = some (.bool b) := by
            rw [Array.getD_eq_getD_getElem?] at hslot
            cases e : a.tmps[g]? with
            | none => rw [e] at hslot; simp [undef] at hslot
            | some v => rw [e] at hslot; simp at hslot; rw [hslot]
          have hoj : ops[j]? = some og := by rw [opAt_eq] at hj; simpa using hj
          have hy : yielded ops a.tmps j = some b := by simp [yielded, hoj, hd, hs]
          have hw : Region.wanted o (yielded ops a.tmps) = (b == want) := by simp [Region.wanted, hg, hy]
          rw [hw]
          cases b with
          | true =>
            rw [litB_eq hb] at h
            cases want with
            | true => exact .inl ⟨rfl, h⟩
            | false => exact .inr ⟨rfl, h⟩
          | false =>
            simp only [splitB] at h
            rw [litB_eq hb] at h
            cases want with
            | true => exact .inr ⟨rfl, h⟩
            | false => exact .inl ⟨rfl, h⟩
        · rename_i vs hb
          have hslot : a.tmps.getD g undef = .tuple vs := by rw [r.slot g, hb]; rfl
          have hoj : ops[j]? = some og := by rw [opAt_eq] at hj; simpa using hj
          have hy : yielded ops a.tmps j = none := by
            rw [Array.getD_eq_getD_getElem?] at hslot
            simp only [yielded, hoj, Option.bind_some, hd]
            cases e : a.tmps[g]? with
            | none => rfl
            | some v => rw [e] at hslot; simp at hslot; rw [hslot]
          exact .inr ⟨by simp [Region.wanted, hg, hy], h⟩
        · exact False.elim h
      · exact False.elim h
    · exact False.elim h
theorem stepK_sound {Z : ZK} (hZ : ∀ ch C' ss' a' w', Rep N C' ss' a' w' → Z ch C' ss' → Q (.panic ch) a' w') (hT : TabOk P T) (r : RepAt N C ρ ss a w) (h : stepK P T N ops.toList o C ss K Z) : if Region.wanted o (yielded ops a.tmps) = true then o.wp P a w (Nx N K) Q else Nx N K (a.put o.dst undef) w := by
  rw [stepK_eq] at h
  rcases guardK_iff r h with ⟨h1, h2⟩ | ⟨h1, h2⟩
  · rw [if_pos h1]
    exact opK_sound (fun ch C' w' r' hz => hZ ch C' ss a w' ⟨ρ, r'⟩ hz) hT r h2
  · rw [if_neg (by rw [h1]; simp)]
    exact fin_v r h2
theorem opsK_sound (hT : TabOk P T) : ∀ (rest : List Oper) {C : Ctx} {ss : SS} {a : Act} {w : World}, Rep N C ss a w → opsK P T N ops.toList rest (fun ch C ss => E (.panic ch) C ss) C ss K → wpList P ops (liftQ N K E) rest a w
  | [], C, ss, a, w, ⟨ρ, r⟩, h => ⟨C, ss, ⟨ρ, r⟩, h⟩
  | o :: rest, C, ss, a, w, ⟨ρ, r⟩, h => by
    refine wpList_step fun K' hK' => ?_
    have h1 := stepK_sound (Q := liftQ N K E) (fun ch C' ss' a' w' r' hz => ⟨C', ss', r', hz⟩) hT r h
    split
    · rename_i hw
      rw [if_pos hw] at h1
      refine Oper.wp_mono (fun a' w' ⟨C', ss', r', h'⟩ => ?_) h1
      exact hK' _ _ (opsK_sound hT rest r' h')
    · rename_i hw
      rw [if_neg hw] at h1
      obtain ⟨C', ss', r', h'⟩ := h1
      exact hK' _ _ (opsK_sound hT rest r' h')
/-- what a plan has to be -/
def DrawOk (P : Program) (T : List (Nat × TyI)) (N : Fk) (ops : Array Oper) (π : Plan) : Prop :=
  ∀ (id : Nat) (C : Ctx) (ss : SS) (K : Ctx → SS → Prop) (E : EK) (a : Act) (w : World), planK P T N ops.toList (ZS (fun ch C ss => E (.panic ch) C ss) (dstL ops.toList)) π C ss K → Rep N C ss a w → (Code.region id ops true).wp P (liftQ N K E) a w
def drawsOk (P : Program) (T : List (Nat × TyI)) (N : Fk) (D : Nat → Plan) : Code → Prop
  | .region id ops true => DrawOk P T N ops (D id)
  | .seq x y => drawsOk P T N D x ∧ drawsOk P T N D y
  | .cond _ x y => drawsOk P T N D x ∧ drawsOk P T N D y
  | .block _ c => drawsOk P T N D c
  | .loop c => drawsOk P T N D c
  | _ => True
theorem vc_sound (hT : TabOk P T) : ∀ (c : Code), drawsOk P T N D c → ∀ {C : Ctx} {ss : SS} {K : Ctx → SS → Prop} {E : EK} {a : Act} {w : World}, Rep N C ss a w → vc P T N D c C ss K E → c.wp P (liftQ N K E) a w := by
  intro c
  induction c with
  | skip => intro _ C ss K E a w r h; exact wp_skip ⟨C, ss, r, h⟩
  | label l => intro _ C ss K E a w r h; exact wp_label ⟨C, ss, r, h⟩
  | region id ops draw =>
    intro hd C ss K E a w r h
    cases draw with
    | false => exact wp_region_list (opsK_sound hT _ r h)
    | true => exact hd id C ss K E a w h r
  | seq x y ihx ihy =>
    intro hd C ss K E a w r h
    have go : vc P T N D x C ss (fun C' ss' => vc P T N D y C' ss' K E) E → (Code.seq x y).wp P (liftQ N K E) a w := fun h => by
      refine wp_seq (wp_mono (ihx hd.1 r h) fun e a' w' hq => ?_)
      cases e with
      | normal => obtain ⟨C', ss', r', h'⟩ := hq; exact ihy hd.2 r' h'
      | _ => exact hq
    simp only [vc] at h
    split at h
    · replace h := h.out
      rcases h with h | ⟨J, h1, h2⟩
      · exact go h
      refine wp_seq (wp_mono (ihx hd.1 r h1) fun e a' w' hq => ?_)
      cases e with
      | normal =>
        obtain ⟨C', ss', ⟨ρ, r'⟩, h'⟩ := hq
        obtain ⟨ss'', h3, h4⟩ := h' _ _ _ _ _ r'
        exact ihy hd.2 ⟨ρ, h4⟩ (h2 _ _ h3)
      | _ => exact hq
    · exact go h
  | cond c x y ihx ihy =>
    intro hd C ss K E a w r h
    simp only [vc] at h
    split at h
    · rename_i b hb
      obtain ⟨ρ, r'⟩ := r
      have hc : a.eval c = .bool b := by rw [r'.eval, hb]; rfl
      cases b with
      | true => exact wp_cond_true hc (ihx hd.1 ⟨ρ, r'⟩ h)
      | false => exact wp_cond_false hc (ihy hd.2 ⟨ρ, r'⟩ h)
    · exact False.elim h
  | block id c ih =>
    intro hd C ss K E a w r h
    refine wp_block (wp_mono (ih hd r h) fun e a' w' hq => ?_)
    cases e with
    | exit id' =>
      obtain ⟨C', ss', r', h'⟩ := hq
      simp only [blockE] at h'
      simp only [Exit.inBlock]
      split at h'
      · rename_i e
        rw [if_pos (Nat.eq_of_beq_eq_true e)]
        exact ⟨C', ss', r', h'⟩
      · rename_i e
        rw [if_neg (fun e' => by rw [e', Nat.beq_refl] at e; cases e)]
        exact ⟨C', ss', r', h'⟩
    | _ => exact hq
  | loop c ih =>
    intro hd C ss K E a w r h
    simp only [vc] at h
    replace h := h.out
    obtain ⟨ρ, r⟩ := r
    refine loopFrom_wp ?_
    refine h (fun C ss => ∀ ρ a w, RepAt N C ρ ss a w → LoopFrom P c (liftQ N K E) a w) (fun C ss K' hB hK ρ a w r => ?_) (fun C ss Ψ hw hΦ ρ a w r => ?_) ρ a w r
    · refine loopFrom_step (wp_mono (ih hd ⟨ρ, r⟩ hB) fun e a' w' hq => ?_)
      cases e with
      | normal => obtain ⟨C', ss', ⟨ρ', r'⟩, h'⟩ := hq; exact hK C' ss' h' ρ' a' w' r'
      | _ => exact hq
    · obtain ⟨ss', h1, h2⟩ := hw _ _ _ _ _ r
      exact hΦ ss' h1 ρ a w h2
  | exit id => intro _ C ss K E a w r h; exact wp_exit ⟨C, ss, r, h⟩
  | goto l => intro _ C ss K E a w r h; exact wp_goto ⟨C, ss, r, h⟩
  | ret => intro _ C ss K E a w r h; exact wp_ret ⟨C, ss, r, h⟩
  | scope c ih => intro _ C ss K E a w r h; exact False.elim h
  | rangeFunc f p x y ihx ihy => intro _ C ss K E a w r h; exact False.elim h
  | refuse s => intro _ C ss K E a w r h; exact False.elim h

/-! ### functions -/
def startS (args : List Value) : Nat → SV := fun t => match args, t with
  | [], _ => .v undef
  | x :: _, 0 => .v x
  | _ :: l, t + 1 => startS l t
theorem startS_eq : ∀ (args : List Value) (t : Nat), startS args t = .v (args.getD t undef)
  | [], t => by simp [startS]
  | x :: l, 0 => by simp [startS]
  | x :: l, t + 1 => by simp only [startS]; rw [startS_eq l t]; simp
def noBox : Nat → Option (TypeId × List Value) := fun _ => none
/-- a variable that a call left in memory, read at the end -/
structure LdVC (P : Program) (C : Ctx) (t : TypeId) (a : Addr) (K : Value → Prop) : Prop where
  out : ∃ v, (∀ w, C.R w → (loadVar t a).run P w = .ok v w) ∧ K v
/-- the value that comes back -/
def resK (P : Program) (T : List (Nat × TyI)) (C : Ctx) (ss : SS) : List ResultVar → (List Value → Prop) → Prop
  | [], K => K []
  | .tmp t :: l, K => valK (ss.s t) fun v => resK P T C ss l fun vs => K (v :: vs)
  | .cell t ty :: l, K => match ss.s t with
    | .p b off => match ss.b b, lookT T ty with
      | some (_, cs), some i => match i.d.agg with
        | true => forceL ((cs.drop off).take i.size) fun l' => chk (Nat.beq l'.length i.size) (resK P T C ss l fun vs => K (.agg l'.toArray :: vs))
        | false => match cs.drop off with
          | v :: _ => resK P T C ss l fun vs => K (v :: vs)
          | [] => False
      | _, _ => False
    | .v (.pointer (some ad)) => LdVC P C ty ad fun v => resK P T C ss l fun vs => K (v :: vs)
    | _ => False
def tupV : List Value → Value
  | [v] => v
  | vs => .tuple vs.toArray
def RetK (P : Program) (T : List (Nat × TyI)) (fn : Func) (R : Ending → World → Prop) (C : Ctx) (ss : SS) : Prop := resK P T C ss fn.results.toList fun vs => ∀ w, C.R w → R (.returned (tupV vs)) w
def bodyE (P : Program) (T : List (Nat × TyI)) (fn : Func) (R : Ending → World → Prop) : EK := fun e C ss => match e with
  | .ret => RetK P T fn R C ss
  | .panic ch => ∀ w, C.R w → R (.panicked ch) w
  | _ => False
theorem resK_run (hT : TabOk P T) (r : RepAt N C ρ ss a w) : ∀ {l : List ResultVar} {K : List Value → Prop}, resK P T C ss l K → ∃ vs, (l.mapM fun v => match v with | .tmp t => pure (a.tmps.getD t undef) | .cell x t => do loadVar t (← asAddr (a.tmps.getD x undef)) : Sem (List Value)).run P w = .ok vs w ∧ K vs
  | [], K, h => ⟨[], by simp, h⟩
  | .tmp t :: l, K, h => by
    obtain ⟨v, hv, h1⟩ := valK_iff h
    obtain ⟨vs, h2, h3⟩ := resK_run hT r h1
    refine ⟨v :: vs, ?_, h3⟩
    have : a.tmps.getD t undef = v := by rw [r.slot t, hv]; rfl
    simp only [List.mapM_cons, Sem.run_bind, Sem.run_pure, Result.andThen_ok, this, h2]
  | .cell t ty :: l, K, h => by
    unfold resK at h
    split at h
    · rename_i b off hx
      have ht : a.tmps.getD t undef = .pointer (some ⟨ρ b, off, none⟩) := by rw [r.slot t, hx]; rfl
      have has : (asAddr (.pointer (some ⟨ρ b, off, none⟩))).run P w = .ok ⟨ρ b, off, none⟩ w := by simp [asAddr]
      split at h
      · rename_i ty' cs i hb hl
        have hi := hT _ _ hl
        obtain ⟨hg, _⟩ := r.box _ _ _ hb
        split at h
        · rename_i hag
          rw [forceL_eq] at h
          obtain ⟨hs, h⟩ := chk_iff h
          have hs := Nat.eq_of_beq_eq_true hs
          obtain ⟨vs, h2, h3⟩ := resK_run hT r h
          refine ⟨_, ?_, h3⟩
          have := run_loadVar_box hi hg hag (off := off) rfl hs
          simp only [List.mapM_cons, Sem.run_bind, Sem.run_pure, Result.andThen_ok, ht, has, this, h2]
        · rename_i hag
          split at h
          · rename_i v l' hv
            obtain ⟨vs, h2, h3⟩ := resK_run hT r h
            refine ⟨_, ?_, h3⟩
            have := run_loadVar_one hi hg hag hv
            simp only [List.mapM_cons, Sem.run_bind, Sem.run_pure, Result.andThen_ok, ht, has, this, h2]
          · exact False.elim h
      · exact False.elim h
    · rename_i ad hx
      have ht : a.tmps.getD t undef = .pointer (some ad) := by rw [r.slot t, hx]; rfl
      have has : (asAddr (.pointer (some ad))).run P w = .ok ad w := by simp [asAddr]
      obtain ⟨v, hv, h⟩ := h.out
      obtain ⟨vs, h2, h3⟩ := resK_run hT r h
      refine ⟨_, ?_, h3⟩
      simp only [List.mapM_cons, Sem.run_bind, Sem.run_pure, Result.andThen_ok, ht, has, hv w r.rest, h2]
    · exact False.elim h
theorem RetK_sound (hT : TabOk P T) {fn : Func} {R : Ending → World → Prop} (r : RepAt N C ρ ss a w) (hds : N.ds = []) (h : RetK P T fn R C ss) : a.defers = [] ∧ ∃ v, (results fn a.tmps).run P w = .ok v w ∧ R (.returned v) w := by
  obtain ⟨vs, h1, h2⟩ := resK_run hT r h
  refine ⟨r.nod.trans hds, tupV vs, ?_, h2 w r.rest⟩
  unfold results
  rw [Array.mapM_eq_mapM_toList]
  simp only [Sem.run_bind, map_eq_pure_bind, Sem.run_pure]
  erw [h1]
  simp only [Result.andThen_ok]
  congr 1
  match vs with
  | [] => rfl
  | [v] => rfl
  | v :: v' :: vs => simp [tupV]
theorem calls_of_vc (hT : TabOk P T) {f : FuncId} {fn : Func} {c : Code} {args : List Value} {R : Ending → World → Prop} (hf : P.funcs[f]? = some fn) (hb : fn.body = some c) (hN : fn.ntmps = N.n) (hds : N.ds = []) (hlen : Nat.ble args.length N.n = true) (hd : drawsOk P T N D c) (C : Ctx) (hR : C.R w)
    (h : vc P T N D c C ⟨startS args, noBox⟩ (RetK P T fn R) (bodyE P T fn R)) : Calls P f args.toArray w R := by
  refine calls_of_wp hf hb ?_
  have hlen := Nat.le_of_ble_eq_true hlen
  have r : Rep N C ⟨startS args, noBox⟩ { tmps := args.toArray ++ Array.replicate (fn.ntmps - args.toArray.size) undef, defers := [] } w := by
    refine ⟨fun _ => 0, ?_, hds.symm, fun t => ?_, (fun b ty cs h => nomatch h), (fun b b' h _ _ => nomatch h), fun t b off h => ?_, hR⟩
    · simp [hN]; omega
    · show _ = SV.den _ (startS args t)
      rw [startS_eq]
      simp only [SV.den]
      rw [Array.getD_eq_getD_getElem?, List.getD_eq_getElem?_getD, Array.getElem?_append]
      split
      · simp
      · rename_i hlt
        simp at hlt
        rw [List.getElem?_eq_none hlt, Array.getElem?_replicate]
        split <;> rfl
    · have h : startS args t = .p b off := h
      rw [startS_eq] at h; cases h
  refine wp_mono (vc_sound hT c hd r h) fun e a w hq => ?_
  cases e with
  | normal => obtain ⟨C, ss, ⟨ρ, r⟩, h⟩ := hq; exact RetK_sound hT r hds h
  | ret => obtain ⟨C, ss, ⟨ρ, r⟩, h⟩ := hq; exact RetK_sound hT r hds h
  | panic ch => obtain ⟨C, ss, ⟨ρ, r⟩, h⟩ := hq; exact ⟨r.nod.trans hds, h w r.rest⟩
  | _ => obtain ⟨C, ss, ⟨ρ, r⟩, h⟩ := hq; exact False.elim h
/-- what comes back, by its value and the context -/
def RetG (P : Program) (T : List (Nat × TyI)) (fn : Func) (KV : Value → Ctx → Prop) (C : Ctx) (ss : SS) : Prop := resK P T C ss fn.results.toList fun vs => KV (tupV vs) C
def bodyG (P : Program) (T : List (Nat × TyI)) (fn : Func) (KV : Value → Ctx → Prop) (ZV : PanK) : EK := fun e C ss => match e with
  | .ret => RetG P T fn KV C ss
  | .panic ch => ZV ch C
  | _ => False
theorem RetG_sound (hT : TabOk P T) {fn : Func} {KV : Value → Ctx → Prop} (r : RepAt N C ρ ss a w) (hds : N.ds = []) (h : RetG P T fn KV C ss) : a.defers = [] ∧ ∃ v, (results fn a.tmps).run P w = .ok v w ∧ KV v C := by
  obtain ⟨vs, h1, h2⟩ := resK_run hT r h
  refine ⟨r.nod.trans hds, tupV vs, ?_, h2⟩
  unfold results
  rw [Array.mapM_eq_mapM_toList]
  simp only [Sem.run_bind, map_eq_pure_bind, Sem.run_pure]
  erw [h1]
  simp only [Result.andThen_ok]
  congr 1
  match vs with
  | [] => rfl
  | [v] => rfl
  | v :: v' :: vs => simp [tupV]
theorem calls_of_vcG (hT : TabOk P T) {f : FuncId} {fn : Func} {c : Code} {args : List Value} {KV : Value → Ctx → Prop} {ZV : PanK} (hf : P.funcs[f]? = some fn) (hb : fn.body = some c) (hN : fn.ntmps = N.n) (hds : N.ds = []) (hlen : Nat.ble args.length N.n = true) (hd : drawsOk P T N D c) {w : World} (C : Ctx) (hR : C.R w)
    (h : vc P T N D c C ⟨startS args, noBox⟩ (RetG P T fn KV) (bodyG P T fn KV ZV)) : Calls P f args.toArray w fun e w' => (∃ v C', e = .returned v ∧ C'.R w' ∧ KV v C') ∨ ∃ ch C', e = .panicked ch ∧ C'.R w' ∧ ZV ch C' := by
  refine calls_of_wp hf hb ?_
  have hlen := Nat.le_of_ble_eq_true hlen
  have r : Rep N C ⟨startS args, noBox⟩ { tmps := args.toArray ++ Array.replicate (fn.ntmps - args.toArray.size) undef, defers := [] } w := by
    refine ⟨fun _ => 0, ?_, hds.symm, fun t => ?_, (fun b ty cs h => nomatch h), (fun b b' h _ _ => nomatch h), fun t b off h => ?_, hR⟩
    · simp [hN]; omega
    · show _ = SV.den _ (startS args t)
      rw [startS_eq]
      simp only [SV.den]
      rw [Array.getD_eq_getD_getElem?, List.getD_eq_getElem?_getD, Array.getElem?_append]
      split
      · simp
      · rename_i hlt
        simp at hlt
        rw [List.getElem?_eq_none hlt, Array.getElem?_replicate]
        split <;> rfl
    · have h : startS args t = .p b off := h
      rw [startS_eq] at h; cases h
  have ret : ∀ {C : Ctx} {ss : SS} {ρ : Nat → Nat} {a : Act} {w : World}, RepAt N C ρ ss a w → RetG P T fn KV C ss → a.defers = [] ∧ ∃ v, (results fn a.tmps).run P w = .ok v w ∧ ((∃ v' C', Ending.returned v = .returned v' ∧ C'.R w ∧ KV v' C') ∨ ∃ ch C', Ending.returned v = .panicked ch ∧ C'.R w ∧ ZV ch C') := fun {C ss ρ a w} r h => by
    obtain ⟨h0, v, h1, h2⟩ := RetG_sound hT r hds h
    exact ⟨h0, v, h1, .inl ⟨v, C, rfl, r.rest, h2⟩⟩
  refine wp_mono (vc_sound hT c hd r h) fun e a w hq => ?_
  cases e with
  | normal => obtain ⟨C, ss, ⟨ρ, r⟩, h⟩ := hq; exact ret r h
  | ret => obtain ⟨C, ss, ⟨ρ, r⟩, h⟩ := hq; exact ret r h
  | panic ch => obtain ⟨C, ss, ⟨ρ, r⟩, h⟩ := hq; exact ⟨r.nod.trans hds, .inr ⟨ch, C, rfl, r.rest, h⟩⟩
  | _ => obtain ⟨C, ss, ⟨ρ, r⟩, h⟩ := hq; exact False.elim h
end
end Go.Proofs.YtgaopcbjhepklaaGreat
