/- Regions that draw their order: a plan serves (4); functions. -/
import Derived.Test.YtgaopcbjhepklaaGreatWk
namespace Go.Proofs.YtgaopcbjhepklaaGreat
open Go.RowKit
set_option linter.unusedSimpArgs false
set_option linter.unusedVariables false
section
variable {P : Program} {T : List (Nat × TyI)} {N : Fk} {D : Nat → Plan} {C : Ctx} {o : Oper} {ops : List Oper} {K : Ctx → SS → Prop}
/-- the guard of an operation that yields a value: wanted, or not -/
theorem guardK_pure {Z : ZK} {ss : SS} {i : Nat} {o : Oper} (ho : opAt ops i = some o) {K0 : SS → Prop} {late : List Nat} (h : guardK ops o ss (fun ss => pureK T o ss.eval ss.b fun x rb => lateK ss rb late (putK N o.dst x ss K0)) (fun ss => putK N o.dst (.v undef) ss K0)) :
    ∃ x rb, K0 (putS o.dst x ss) ∧ (∀ b, rb = some b → isLoad o.op = true) ∧ lateK ss rb late True ∧ Yld P T N ops Z o x rb ss := by
  -- the two ways
  have yes : (pureK T o ss.eval ss.b fun x rb => lateK ss rb late (putK N o.dst x ss K0)) → (∀ ss' : SS, (∀ t ∈ o.looksAt ops.toArray, ss'.s t = ss.s t) → ∀ A B : SS → Prop, A ss' → guardK ops o ss' A B) → ∃ x rb, K0 (putS o.dst x ss) ∧ (∀ b, rb = some b → isLoad o.op = true) ∧ lateK ss rb late True ∧ Yld P T N ops Z o x rb ss := fun h hg => by
    obtain ⟨x, rb, h1, h2, h3⟩ := pureK_aff h
    obtain ⟨h4, h5⟩ := lateK_iff h1
    obtain ⟨h6, h7⟩ := putK_iff h4
    refine ⟨x, rb, h6, fun b e => ?_, h5, fun b e => (h2 b e).1, fun ss' hs hb C K hk => ?_⟩
    · obtain ⟨_, t, y, hl⟩ := h2 b e
      rw [hl]; rfl
    · rw [stepK_eq]
      refine hg ss' hs _ _ ?_
      have hev : ∀ y ∈ o.op.operands, ss'.eval y = ss.eval y := fun y hy => by
        cases y with
        | tmp t => exact hs t (by
            unfold Oper.looksAt
            exact List.mem_append.2 (.inl (List.mem_filterMap.2 ⟨.tmp t, by simpa using hy, rfl⟩)))
        | _ => rfl
      rw [opK_congr hev]
      exact pureK_opK (h3 _ ⟨hb, h7 _ _ _ hk⟩)
  have no : putK N o.dst (.v undef) ss K0 → (∀ ss' : SS, (∀ t ∈ o.looksAt ops.toArray, ss'.s t = ss.s t) → ∀ A B : SS → Prop, B ss' → guardK ops o ss' A B) → ∃ x rb, K0 (putS o.dst x ss) ∧ (∀ b, rb = some b → isLoad o.op = true) ∧ lateK ss rb late True ∧ Yld P T N ops Z o x rb ss := fun h hg => by
    obtain ⟨h6, h7⟩ := putK_iff h
    have hl : lateK ss none late True := by cases late <;> exact trivial
    refine ⟨.v undef, none, h6, ?_, hl, ?_, fun ss' hs hb C K hk => ?_⟩
    · intro b e; cases e
    · intro b e; cases e
    · rw [stepK_eq]
      exact hg ss' hs _ _ (h7 _ _ _ hk)
  unfold guardK at h
  split at h
  · rename_i hg
    exact yes h fun ss' _ A B hA => by unfold guardK; rw [hg]; exact hA
  · rename_i j want hg
    split at h
    · rename_i og hj
      split at h
      · rename_i g hgd
        have hgl : g ∈ o.looksAt ops.toArray := by
          unfold Oper.looksAt
          refine List.mem_append.2 (.inr ?_)
          have hoj : ops.toArray[j]? = some og := by rw [opAt_eq] at hj; simpa using hj
          rw [hg]
          simp only [hoj, Option.bind_some, hgd, Option.toList_some, List.mem_singleton]
        split at h
        · rename_i b hb
          have sel : ∀ ss' : SS, (∀ t ∈ o.looksAt ops.toArray, ss'.s t = ss.s t) → ∀ A B : SS → Prop, (if b = want then A ss' else B ss') → guardK ops o ss' A B := fun ss' hs A B hAB => by
            have hb' : ss'.s g = .v (.bool b) := (hs g hgl).trans hb
            unfold guardK
            rw [hg]
            simp only [hj, hgd, hb']
            cases b with
            | true =>
              simp only [splitB, litB_eq hb']
              cases want with
              | true => simpa [gsel] using hAB
              | false => simpa [gsel] using hAB
            | false =>
              simp only [splitB, litB_eq hb']
              cases want with
              | true => simpa [gsel] using hAB
              | false => simpa [gsel] using hAB
          cases b with
          | true =>
            simp only [splitB, litB_eq hb] at h
            cases want with
            | true => exact yes h fun ss' hs A B hA => sel ss' hs A B (by simpa using hA)
            | false => exact no h fun ss' hs A B hB => sel ss' hs A B (by simpa using hB)
          | false =>
            simp only [splitB, litB_eq hb] at h
            cases want with
            | true => exact no h fun ss' hs A B hB => sel ss' hs A B (by simpa using hB)
            | false => exact yes h fun ss' hs A B hA => sel ss' hs A B (by simpa using hA)
        · rename_i vs hb
          exact no h fun ss' hs A B hB => by
            have hb' : ss'.s g = .v (.tuple vs) := (hs g hgl).trans hb
            unfold guardK
            rw [hg]
            simp only [hj, hgd, hb']
            exact hB
        · exact False.elim h
      · exact False.elim h
    · exact False.elim h
theorem planK_alt {Z : ZK} {i : Nat} {next more : Plan} {ss : SS} (h : planK P T N ops Z (.alt i next more) C ss K) : (∃ o, opAt ops i = some o ∧ stepK P T N ops o C ss (fun C' ss' => planK P T N ops Z next C' ss' K) Z) ∧ (more = .stop ∨ planK P T N ops Z more C ss K) := by
  simp only [planK_alt_eq] at h
  split at h
  · rename_i o ho
    split at h
    · exact ⟨⟨o, ho, h⟩, .inl rfl⟩
    · exact ⟨⟨o, ho, h.1⟩, .inr h.2⟩
  · exact False.elim h
theorem alts {Z : ZK} {listed : Array Bool} {ss : SS} : ∀ (π : Plan), planOk ops false listed π = true → (π = .stop ∨ planK P T N ops Z π C ss K) → ∀ k ∈ heads π, ∃ next, planOk ops true (listed.setIfInBounds k true) next = true ∧ deep next < deep π ∧ ∃ o, opAt ops k = some o ∧ stepK P T N ops o C ss (fun C' ss' => planK P T N ops Z next C' ss' K) Z
  | .done, h, _, k, hk => by cases hk
  | .stop, h, _, k, hk => by cases hk
  | .pure _ _ _, h, _, k, hk => by cases hk
  | .alt i next more, h, hp, k, hk => by
    rcases hp with hp | hp
    · cases hp
    · obtain ⟨h1, h2⟩ := planK_alt hp
      simp only [planOk, Bool.and_eq_true] at h
      cases hk with
      | head => exact ⟨next, h.1.2, by simp only [deep]; omega, h1⟩
      | tail _ hk =>
        obtain ⟨n', h3, h4, h5⟩ := alts more h.2 h2 k hk
        exact ⟨n', h3, by simp only [deep]; omega, h5⟩
theorem planK_sound {Z : ZK} (hinv : PutInv ops Z) : ∀ (fuel : Nat) (π : Plan) (listed : Array Bool) (C : Ctx) (ss : SS), deep π ≤ fuel → planOk ops true listed π = true → planK P T N ops Z π C ss K → FA P T N ops Z K fuel listed C ss
  | fuel, .done, listed, C, ss, hf, hok, h => by
    simp only [planOk, Bool.true_and, List.isEmpty_iff] at hok
    cases fuel with
    | zero => exact ⟨hok, h⟩
    | succ f => exact ⟨fun _ => h, fun i hi => by rw [hok] at hi; cases hi⟩
  | fuel, .stop, listed, C, ss, hf, hok, h => by simp [planOk] at hok
  | 0, .pure i late next, listed, C, ss, hf, hok, h => by simp [deep] at hf
  | fuel + 1, .pure i late next, listed, C, ss, hf, hok, h => by
    simp only [planOk, Bool.true_and] at hok
    split at hok
    · rename_i o ho
      simp only [Bool.and_eq_true] at hok
      have hoa : opAt ops i = some o := by rw [opAt_eq]; simpa using ho
      simp only [planK_pure, hoa] at h
      obtain ⟨x, rb, h1, h2, h3, h4⟩ := guardK_pure (P := P) hoa h
      exact FA_first hinv ho fuel listed C ss (Free.of hok.1.2 h2 h3) (by simpa using hok.1.1) h4 (planK_sound hinv fuel next _ C _ (by simp only [deep] at hf; omega) hok.2 h1)
    · cases hok
  | 0, .alt i next more, listed, C, ss, hf, hok, h => by simp only [deep] at hf; omega
  | fuel + 1, .alt i next more, listed, C, ss, hf, hok, h => by
    have hok' : planOk ops false listed (.alt i next more) = true := by
      simp only [planOk, Bool.and_eq_true] at hok ⊢
      exact ⟨⟨rfl, hok.1.2⟩, hok.2⟩
    simp only [planOk, Bool.and_eq_true] at hok
    have hh : heads (.alt i next more) = rdy ops listed := by
      have := hok.1.1
      simp only [Bool.not_true, Bool.false_or] at this
      exact eq_of_beq this
    refine ⟨fun e => ?_, fun k hk o ho => ?_⟩
    · rw [← hh] at e; cases e
    · rw [← hh] at hk
      obtain ⟨n', h3, h4, o', h5, h6⟩ := alts _ hok' (.inr h) k hk
      rw [ho] at h5
      injection h5 with h5
      subst h5
      refine stepK_mono (fun C' ss' _ h7 => planK_sound hinv fuel n' _ C' ss' (by omega) h3 h7) h6
/-- all regions of some code that draw their order have a plan -/
def drawsB (D : Nat → Plan) : Code → Bool
  | .region id ops true => planOk ops.toList true (Array.replicate ops.size false) (D id) && Nat.ble (deep (D id)) ops.size
  | .seq x y => drawsB D x && drawsB D y
  | .cond _ x y => drawsB D x && drawsB D y
  | .block _ c => drawsB D c
  | .loop c => drawsB D c
  | _ => true
theorem drawsOk_of (hT : TabOk P T) (hm : P.follows .mixedOrders = true) : ∀ (c : Code), drawsB D c = true → drawsOk P T N D c := by
  intro c
  induction c with
  | region id ops draw =>
    intro h
    cases draw with
    | false => exact trivial
    | true =>
      simp only [drawsB, Bool.and_eq_true] at h
      intro id' C ss K E a w hp ⟨ρ, r⟩
      refine wp_region_any hm ?_
      have h1 := planK_sound (ZS.inv _ _) ops.size (D id) _ C ss (Nat.le_of_ble_eq_true h.2) h.1 hp
      have h2 := FA_sound (E := E) hT (fun ch C ss hz => hz.here) ops.size h1 ⟨ρ, r.drew⟩
      simpa using h2
  | seq x y ihx ihy => intro h; simp only [drawsB, Bool.and_eq_true] at h; exact ⟨ihx h.1, ihy h.2⟩
  | cond c x y ihx ihy => intro h; simp only [drawsB, Bool.and_eq_true] at h; exact ⟨ihx h.1, ihy h.2⟩
  | block id c ih => exact fun h => ih h
  | loop c ih => exact fun h => ih h
  | _ => exact fun _ => trivial
end
end Go.Proofs.YtgaopcbjhepklaaGreat
