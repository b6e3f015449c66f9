/- Texts for the law BoundSerial, part 7: no statement of its own, lemmas for the proof; their conditions stand in them. -/
import Derived.Test.YtahhihhfjimppaaBoundSerialM6
import Derived.Test.YtahhihhfjimppaaProg
/- Regions that draw their order: a plan serves (4); functions. -/
namespace Go.Proofs.Ytahhihhfjimppaa
open Go.RowKit
set_option linter.unusedSimpArgs false
set_option linter.unusedVariables false
section
variable {P : Program} {T : List (Nat × TyI)} {N : Nat} {D : Nat → Plan} {C : Ctx} {o : Oper} {ops : List Oper} {K : Ctx → SS → Prop}
/-- the guard of an operation that yields a value: wanted, or not -/
theorem guardK_pure {ss : SS} {i : Nat} {o : Oper} (ho : opAt ops i = some o) {K0 : SS → Prop} {late : List Nat} (h : guardK ops o ss (fun ss => pureK T o ss.eval ss.b fun x rb => lateK ss rb late (putK N o.dst x ss K0)) (fun ss => putK N o.dst (.v undef) ss K0)) :
    ∃ x rb, K0 (putS o.dst x ss) ∧ (∀ b, rb = some b → isLoad o.op = true) ∧ lateK ss rb late True ∧ Yld P T N ops o x rb ss := by
  -- the two ways
  have yes : (pureK T o ss.eval ss.b fun x rb => lateK ss rb late (putK N o.dst x ss K0)) → (∀ ss' : SS, (∀ t ∈ o.looksAt ops.toArray, ss'.s t = ss.s t) → ∀ A B : SS → Prop, A ss' → guardK ops o ss' A B) → ∃ x rb, K0 (putS o.dst x ss) ∧ (∀ b, rb = some b → isLoad o.op = true) ∧ lateK ss rb late True ∧ Yld P T N ops o x rb ss := fun h hg => by
    obtain ⟨x, rb, h1, h2, h3⟩ := pureK_aff h
    obtain ⟨h4, h5⟩ := lateK_iff h1
    obtain ⟨h6, h7⟩ := putK_iff h4
    refine ⟨x, rb, h6, fun b e => ?_, h5, fun b e => (h2 b e).1, fun ss' hs hb C K hk => ?_⟩
    · obtain ⟨_, t, y, hl⟩ := h2 b e
      rw [hl]; rfl
    · rw [stepK_eq]
      refine hg ss' hs _ _ ?_
      have hev : ∀ y ∈ o.op.operands, ss'.eval y = ss.eval y := fun y hy => by
        cases y with
        | tmp t => exact hs t (by
            unfold Oper.looksAt
            exact List.mem_append.2 (.inl (List.mem_filterMap.2 ⟨.tmp t, by simpa using hy, rfl⟩)))
        | _ => rfl
      rw [opK_congr hev]
      exact pureK_opK (h3 _ ⟨hb, h7 _ _ _ hk⟩)
  have no : putK N o.dst (.v undef) ss K0 → (∀ ss' : SS, (∀ t ∈ o.looksAt ops.toArray, ss'.s t = ss.s t) → ∀ A B : SS → Prop, B ss' → guardK ops o ss' A B) → ∃ x rb, K0 (putS o.dst x ss) ∧ (∀ b, rb = some b → isLoad o.op = true) ∧ lateK ss rb late True ∧ Yld P T N ops o x rb ss := fun h hg => by
    obtain ⟨h6, h7⟩ := putK_iff h
    have hl : lateK ss none late True := by cases late <;> exact trivial
    refine ⟨.v undef, none, h6, ?_, hl, ?_, fun ss' hs hb C K hk => ?_⟩
    · intro b e; cases e
    · intro b e; cases e
    · rw [stepK_eq]
      exact hg ss' hs _ _ (h7 _ _ _ hk)
  unfold guardK at h
  split at h
  · rename_i hg
    exact yes h fun ss' _ A B hA => by unfold guardK; rw [hg]; exact hA
  · rename_i j want hg
    split at h
    · rename_i og hj
      split at h
      · rename_i g hgd
        have hgl : g ∈ o.looksAt ops.toArray := by
          unfold Oper.looksAt
          refine List.mem_append.2 (.inr ?_)
          have hoj : ops.toArray[j]? = some og := by rw [opAt_eq] at hj; simpa using hj
          rw [hg]
          simp only [hoj, Option.bind_some, hgd, Option.toList_some, List.mem_singleton]
        split at h
        · rename_i b hb
          have sel : ∀ ss' : SS, (∀ t ∈ o.looksAt ops.toArray, ss'.s t = ss.s t) → ∀ A B : SS → Prop, (if b = want then A ss' else B ss') → guardK ops o ss' A B := fun ss' hs A B hAB => by
            have hb' : ss'.s g = .v (.bool b) := (hs g hgl).trans hb
            unfold guardK
            rw [hg]
            simp only [hj, hgd, hb']
            cases b with
            | true =>
              simp only [splitB, litB_eq hb']
              cases want with
              | true => simpa [gsel] using hAB
              | false => simpa [gsel] using hAB
            | false =>
              simp only [splitB, litB_eq hb']
              cases want with
              | true => simpa [gsel] using hAB
              | false => simpa [gsel] using hAB
          cases b with
          | true =>
            simp only [splitB, litB_eq hb] at h
            cases want with
            | true => exact yes h fun ss' hs A B hA => sel ss' hs A B (by simpa using hA)
            | false => exact no h fun ss' hs A B hB => sel ss' hs A B (by simpa using hB)
          | false =>
            simp only [splitB, litB_eq hb] at h
            cases want with
            | true => exact no h fun ss' hs A B hB => sel ss' hs A B (by simpa using hB)
            | false => exact yes h fun ss' hs A B hA => sel ss' hs A B (by simpa using hA)
        · rename_i vs hb
          exact no h fun ss' hs A B hB => by
            have hb' : ss'.s g = .v (.tuple vs) := (hs g hgl).trans hb
            unfold guardK
            rw [hg]
            simp only [hj, hgd, hb']
            exact hB
        · exact False.elim h
      · exact False.elim h
    · exact False.elim h
theorem planK_alt {i : Nat} {next more : Plan} {ss : SS} (h : planK P T N ops (.alt i next more) C ss K) : (∃ o, opAt ops i = some o ∧ stepK P T N ops o C ss fun C' ss' => planK P T N ops next C' ss' K) ∧ (more = .stop ∨ planK P T N ops more C ss K) := by
  simp only [planK_alt_eq] at h
  split at h
  · rename_i o ho
    split at h
    · exact ⟨⟨o, ho, h⟩, .inl rfl⟩
    · exact ⟨⟨o, ho, h.1⟩, .inr h.2⟩
  · exact False.elim h
theorem alts {listed : Array Bool} {ss : SS} : ∀ (π : Plan), planOk ops false listed π = true → (π = .stop ∨ planK P T N ops π C ss K) → ∀ k ∈ heads π, ∃ next, planOk ops true (listed.setIfInBounds k true) next = true ∧ deep next < deep π ∧ ∃ o, opAt ops k = some o ∧ stepK P T N ops o C ss fun C' ss' => planK P T N ops next C' ss' K
  | .done, h, _, k, hk => by cases hk
  | .stop, h, _, k, hk => by cases hk
  | .pure _ _ _, h, _, k, hk => by cases hk
  | .alt i next more, h, hp, k, hk => by
    rcases hp with hp | hp
    · cases hp
    · obtain ⟨h1, h2⟩ := planK_alt hp
      simp only [planOk, Bool.and_eq_true] at h
      cases hk with
      | head => exact ⟨next, h.1.2, by simp only [deep]; omega, h1⟩
      | tail _ hk =>
        obtain ⟨n', h3, h4, h5⟩ := alts more h.2 h2 k hk
        exact ⟨n', h3, by simp only [deep]; omega, h5⟩
theorem planK_sound : ∀ (fuel : Nat) (π : Plan) (listed : Array Bool) (C : Ctx) (ss : SS), deep π ≤ fuel → planOk ops true listed π = true → planK P T N ops π C ss K → FA P T N ops K fuel listed C ss
  | fuel, .done, listed, C, ss, hf, hok, h => by
    simp only [planOk, Bool.true_and, List.isEmpty_iff] at hok
    cases fuel with
    | zero => exact ⟨hok, h⟩
    | succ f => exact ⟨fun _ => h, fun i hi => by rw [hok] at hi; cases hi⟩
  | fuel, .stop, listed, C, ss, hf, hok, h => by simp [planOk] at hok
  | 0, .pure i late next, listed, C, ss, hf, hok, h => by simp [deep] at hf
  | fuel + 1, .pure i late next, listed, C, ss, hf, hok, h => by
    simp only [planOk, Bool.true_and] at hok
    split at hok
    · rename_i o ho
      simp only [Bool.and_eq_true] at hok
      have hoa : opAt ops i = some o := by rw [opAt_eq]; simpa using ho
      simp only [planK_pure, hoa] at h
      obtain ⟨x, rb, h1, h2, h3, h4⟩ := guardK_pure (P := P) hoa h
      exact FA_first ho fuel listed C ss (Free.of hok.1.2 h2 h3) (by simpa using hok.1.1) h4 (planK_sound fuel next _ C _ (by simp only [deep] at hf; omega) hok.2 h1)
    · cases hok
  | 0, .alt i next more, listed, C, ss, hf, hok, h => by simp only [deep] at hf; omega
  | fuel + 1, .alt i next more, listed, C, ss, hf, hok, h => by
    have hok' : planOk ops false listed (.alt i next more) = true := by
      simp only [planOk, Bool.and_eq_true] at hok ⊢
      exact ⟨⟨rfl, hok.1.2⟩, hok.2⟩
    simp only [planOk, Bool.and_eq_true] at hok
    have hh : heads (.alt i next more) = rdy ops listed := by
      have := hok.1.1
      simp only [Bool.not_true, Bool.false_or] at this
      exact eq_of_beq this
    refine ⟨fun e => ?_, fun k hk o ho => ?_⟩
    · rw [← hh] at e; cases e
    · rw [← hh] at hk
      obtain ⟨n', h3, h4, o', h5, h6⟩ := alts _ hok' (.inr h) k hk
      rw [ho] at h5
      injection h5 with h5
      subst h5
      refine stepK_mono (fun C' ss' _ h7 => planK_sound fuel n' _ C' ss' (by omega) h3 h7) h6
/-- all regions of some code that draw their order have a plan -/
def drawsB (D : Nat → Plan) : Code → Bool
  | .region id ops true => planOk ops.toList true (Array.replicate ops.size false) (D id) && Nat.ble (deep (D id)) ops.size
  | .seq x y => drawsB D x && drawsB D y
  | .cond _ x y => drawsB D x && drawsB D y
  | .block _ c => drawsB D c
  | .loop c => drawsB D c
  | _ => true
theorem drawsOk_of (hT : TabOk P T) (hm : P.follows .mixedOrders = true) : ∀ (c : Code), drawsB D c = true → drawsOk P T N D c := by
  intro c
  induction c with
  | region id ops draw =>
    intro h
    cases draw with
    | false => exact trivial
    | true =>
      simp only [drawsB, Bool.and_eq_true] at h
      intro id' C ss K E a w hp ⟨ρ, r⟩
      refine wp_region_any hm ?_
      have h1 := planK_sound ops.size (D id) _ C ss (Nat.le_of_ble_eq_true h.2) h.1 hp
      have h2 := FA_sound (E := E) hT ops.size h1 ⟨ρ, r.drew⟩
      simpa using h2
  | seq x y ihx ihy => intro h; simp only [drawsB, Bool.and_eq_true] at h; exact ⟨ihx h.1, ihy h.2⟩
  | cond c x y ihx ihy => intro h; simp only [drawsB, Bool.and_eq_true] at h; exact ⟨ihx h.1, ihy h.2⟩
  | block id c ih => exact fun h => ih h
  | loop c ih => exact fun h => ih h
  | _ => exact fun _ => trivial
end
end Go.Proofs.Ytahhihhfjimppaa
/- Functions: the frame of a walk by conditions. -/
namespace Go.Proofs.Ytahhihhfjimppaa
open Go.RowKit
set_option linter.unusedSimpArgs false
set_option linter.unusedVariables false
theorem enters_of {P : Program} {f : FuncId} {fn : Func} (hf : P.funcs[f]? = some fn) (hn : (fn.name == "runtime.NumGoroutine") = false) (hb : fn.body.isNone = false) : Enters P f := fun args w => by
  have hn' : fn.name ≠ "runtime.NumGoroutine" := by simpa using hn
  have hb' : fn.body ≠ none := fun e => by rw [e] at hb; cases hb
  simp [callFunc, hf, hn', hb']
theorem calls_vc {P : Program} {T : List (Nat × TyI)} {D : Nat → Plan} (hT : TabOk P T) (hm : P.follows .mixedOrders = true) {f : FuncId} {fn : Func} (N : Nat) (hf : P.funcs[f]? = some fn) (hb : fn.body.isNone = false) (hN : fn.ntmps = N) (hd : drawsB D (fn.body.getD .skip) = true) {args : List Value} (hlen : Nat.ble args.length N = true) {w : World} {R : Ending → World → Prop} (C : Ctx) (hR : C.R w)
    (h : vc P T N D (fn.body.getD .skip) C ⟨startS args, noBox⟩ (RetK T fn R) (bodyE T fn R)) : Calls P f args.toArray w R := by
  cases e : fn.body with
  | none => rw [e] at hb; cases hb
  | some c =>
    rw [e] at h hd
    exact calls_of_vc hT hf e hN hlen (drawsOk_of hT hm c hd) C hR h
/-- states by a parameter: known slots, known boxes, the context -/
def Jn {X : Type} (L : X → List (Nat × SV)) (BL : X → List (Nat × TypeId × List Value)) (CC : X → Ctx) (I : X → Prop) : Ctx → SS → Prop := fun C ss => ∃ x r, I x ∧ C = CC x ∧ ss = ⟨mkS (L x) r, mkB (BL x)⟩
theorem Wk.on {X : Type} {L : X → List (Nat × SV)} {BL : X → List (Nat × TypeId × List Value)} {CC : X → Ctx} {I : X → Prop} {C : Ctx} {ss : SS} (x : X) (hI : I x) (h1 : fitS ss (L x)) (h2 : fitB ss (BL x)) (hC : C = CC x := by rfl) (hp : ptrOk (BL x) (L x) = true := by rfl) : Wk ss (Jn L BL CC I C) :=
  Wk.fit (L x) (BL x) h1 h2 hp fun r => ⟨x, r, hI, hC, rfl⟩
theorem JoinVC.on {X : Type} (L : X → List (Nat × SV)) (BL : X → List (Nat × TypeId × List Value)) (CC : X → Ctx) (I : X → Prop) {A : (Ctx → SS → Prop) → Prop} {K : Ctx → SS → Prop} (h : A (fun C ss => Wk ss (Jn L BL CC I C))) (hk : ∀ x r, I x → K (CC x) ⟨mkS (L x) r, mkB (BL x)⟩) : JoinVC A K :=
  JoinVC.cut (Jn L BL CC I) h fun C ss ⟨x, r, hI, hC, hs⟩ => by subst hC hs; exact hk x r hI
def Inx {X : Type} (L : X → List (Nat × SV)) (BL : X → List (Nat × TypeId × List Value)) (CC : X → Ctx) (I : X → Prop) (μ : X → Nat) : Nat → Ctx → SS → Prop := fun n C ss => ∃ x r, I x ∧ μ x = n ∧ C = CC x ∧ ss = ⟨mkS (L x) r, mkB (BL x)⟩
/-- what a round hands on -/
theorem rnd {X : Type} {L : X → List (Nat × SV)} {BL : X → List (Nat × TypeId × List Value)} {CC : X → Ctx} {I : X → Prop} {μ : X → Nat} {n : Nat} {C : Ctx} {ss : SS} (x : X) (hμ : μ x < n) (hI : I x) (h1 : fitS ss (L x)) (h2 : fitB ss (BL x)) (hC : C = CC x := by rfl) (hp : ptrOk (BL x) (L x) = true := by rfl) : ∃ n', n' < n ∧ Wk ss (Inx L BL CC I μ n' C) :=
  ⟨μ x, hμ, Wk.fit (L x) (BL x) h1 h2 hp fun r => ⟨x, r, hI, rfl, hC, rfl⟩⟩
theorem LoopVC.on {X : Type} (L : X → List (Nat × SV)) (BL : X → List (Nat × TypeId × List Value)) (CC : X → Ctx) (I : X → Prop) (μ : X → Nat) {B : Ctx → SS → (Ctx → SS → Prop) → Prop} {C : Ctx} {ss : SS} (x0 : X) (hI : I x0) (h1 : fitS ss (L x0)) (h2 : fitB ss (BL x0)) (h : ∀ x r, I x → B (CC x) ⟨mkS (L x) r, mkB (BL x)⟩ fun C' ss' => ∃ n', n' < μ x ∧ Wk ss' (Inx L BL CC I μ n' C')) (hC : C = CC x0 := by rfl) (hp : ptrOk (BL x0) (L x0) = true := by rfl) : LoopVC B C ss := by
  refine LoopVC.intro (Inx L BL CC I μ) (μ x0) (Wk.fit (L x0) (BL x0) h1 h2 hp fun r => ⟨x0, r, hI, rfl, hC, rfl⟩) fun n C ss ⟨x, r, hI, hn, hC, hs⟩ => ?_
  subst hn hC hs
  exact h x r hI
end Go.Proofs.Ytahhihhfjimppaa
/- Conditions in a typed heap. -/
namespace Go.Proofs.Ytahhihhfjimppaa
open Go.RowKit
set_option linter.unusedSimpArgs false
set_option linter.unusedVariables false

def CtxT (z : Zp) (G G0 : Gh) (w0 : World) : Ctx where
  dom k := (∃ x, G k = some x) ∨ k < w0.heap.size
  R w := TW z G w ∧ Ex G0 w0 G w
  lt w h k hk := by
    rcases hk with ⟨x, hx⟩ | hk
    · exact h.1.lt hx
    · exact Nat.lt_of_lt_of_le hk h.2.size
  stable w w' h hs hz h1 h2 h3 := by
    refine ⟨h.1.same fun b x hb => hs b (.inl ⟨x, hb⟩), ?_⟩
    exact ⟨h1.trans h.2.os, h2.trans h.2.tape, h3.trans h.2.output, Nat.le_trans h.2.size hz, h.2.le, h.2.new, fun k hk hn => (hs k (.inr hk)).trans (h.2.block k hk hn)⟩
theorem CtxT.start {z : Zp} {G : Gh} {w : World} (tw : TW z G w) : (CtxT z G G w).R w := ⟨tw, Ex.refl G w⟩
section
variable {P : Program} {z z' : Zp} {G G' G0 : Gh} {w0 w w' : World}
theorem goesT (h : TW z G w ∧ Ex G0 w0 G w) (tw' : TW z' G' w') (ex : Ex G w G' w') : Goes (CtxT z G G0 w0) w (CtxT z' G' G0 w0) w' ∧ (CtxT z' G' G0 w0).R w' := by
  refine ⟨⟨ex.size, fun k hk hn => ex.block k hk ?_, fun k hk => ?_⟩, tw', h.2.trans ex⟩
  · cases e : G k with
    | none => rfl
    | some x => exact absurd (.inl ⟨x, e⟩) hn
  · rcases hk with ⟨x, hx⟩ | hk
    · rcases ex.new k x hx with h1 | h1
      · exact .inl (.inl ⟨x, h1⟩)
      · exact .inr h1
    · exact .inl (.inr hk)
/-- a call, by its contract -/
def PostT (z : Zp) (G : Gh) (w : World) (Φ : Zp → Gh → Value → Prop) (e : Ending) (w' : World) : Prop := ∃ z' G' v, e = .returned v ∧ TW z' G' w' ∧ Ex G w G' w' ∧ Φ z' G' v
theorem CallVC.ofT {f : FuncId} (args : List Value) {vs : Array Value} {K : Value → Ctx → Prop} (he : Enters P f) (Φ : Zp → Gh → Value → Prop) (hc : ∀ w, TW z G w → Ex G0 w0 G w → Calls P f args.toArray w (PostT z G w Φ)) (h : ∀ z' G' v, G.le G' → Φ z' G' v → K v (CtxT z' G' G0 w0)) (hvs : vs = args.toArray := by rfl) : CallVC P (CtxT z G G0 w0) f vs K := by
  constructor
  subst hvs
  refine ⟨he, fun w hw => (hc w hw.1 hw.2).mono fun e w' ⟨z', G', v, h1, h2, h3, h4⟩ => ?_⟩
  obtain ⟨h5, h6⟩ := goesT hw h2 h3
  exact ⟨v, _, h1, h5, h6, h _ _ _ h3.le h4⟩
/-- a call that turns nothing -/
theorem CallVC.ofN {C : Ctx} {f : FuncId} (args : List Value) {vs : Array Value} {K : Value → Ctx → Prop} (he : Enters P f) (Φ : Value → Prop) (hc : ∀ w, Calls P f args.toArray w fun e w' => ∃ v, e = .returned v ∧ w' = w ∧ Φ v) (h : ∀ v, Φ v → K v C) (hvs : vs = args.toArray := by rfl) : CallVC P C f vs K := by
  constructor
  subst hvs
  refine ⟨he, fun w hw => (hc w).mono fun e w' ⟨v, h1, h2, h4⟩ => ?_⟩
  subst h2
  exact ⟨v, _, h1, Goes.refl _ _, hw, h _ h4⟩
theorem SemVC.ofRun {C : Ctx} {m : Sem Value} {K : Value → Ctx → Prop} (v : Value) (hr : ∀ w, C.R w → m.run P w = .ok v w) (h : K v C) : SemVC P C m K := by
  constructor
  exact fun w hw => ⟨v, w, C, hr w hw, Goes.refl _ _, hw, h⟩
/-- an element of a row -/
theorem idx_ok {A : Option Addr} {n : Nat} {i : Int} {sz : Nat} {K : Value → Prop} {b off : Nat} (hA : A = some ⟨b, off, none⟩) (k : Nat) (hi : i = k) (hk : k < n) (h : K (.pointer (some ⟨b, off + k * sz, none⟩))) : IdxVC A n i sz K := by
  constructor
  subst hi
  refine ⟨_, hA, by omega, by omega, ?_⟩
  simpa [addr_add] using h
theorem cut_hi (r : RT) {A : Option Addr} {n c : Nat} {h : Int} {K : Value → Prop} (hs : Sl G r A n c) (m : Nat) (hh : h = m) (hm : m ≤ c) (hk : ∀ A', Sl G r A' m c → K (.slice A' m c)) : CutVC A n c r.size none (some h) K := by
  constructor
  subst hh
  refine ⟨by simp, by simp, by simpa using hm, ?_⟩
  have := hk _ (hs.cut (k := 0) (m := m) (Nat.zero_le _) hm)
  simpa using this
theorem cut_lo (r : RT) {A : Option Addr} {n c : Nat} {l : Int} {K : Value → Prop} (hs : Sl G r A n c) (k : Nat) (hl : l = k) (hm : k ≤ n) (hk : ∀ A' c', Sl G r A' (n - k) c' → K (.slice A' (n - k) c')) : CutVC A n c r.size (some l) none K := by
  constructor
  subst hl
  have hc := hs.caps
  refine ⟨by simp, by simpa using hm, by simp, ?_⟩
  have := hk _ _ (hs.cut (k := k) (m := n) hm hc.1)
  simpa using this
/-- a row's cell that is a number -/
theorem load_int {t : TypeId} {i : TyI} (hi : TyOk P t i) (hag : i.d.agg = false) {b off : Nat} {K : Value → Ctx → Prop} (hr : ∀ w, TW z G w → ∃ n, w.cell? ⟨b, off, none⟩ = some (.int .i64 n)) (h : ∀ n, K (.int .i64 n) (CtxT z G G0 w0)) : SemVC P (CtxT z G G0 w0) (Instr.loadAt t (.pointer (some ⟨b, off, none⟩))) K := by
  constructor
  intro w hw
  obtain ⟨n, hn⟩ := hr w hw.1
  exact ⟨.int .i64 n, w, _, by simp [Instr.loadAt, Instr.sureAddr, loadVar, hi.run_isAgg, hag, load, Sem.run, hn], Goes.refl _ _, hw, h n⟩
/-- any cell -/
theorem load_cell {C : Ctx} {t : TypeId} {i : TyI} (hi : TyOk P t i) (hag : i.d.agg = false) {a : Addr} {K : Value → Ctx → Prop} (Φ : Value → Prop) (hr : ∀ w, C.R w → ∃ v, w.cell? a = some v ∧ Φ v) (h : ∀ v, Φ v → K v C) : SemVC P C (Instr.loadAt t (.pointer (some a))) K := by
  constructor
  intro w hw
  obtain ⟨v, hv, hp⟩ := hr w hw
  exact ⟨v, w, _, by simp [Instr.loadAt, Instr.sureAddr, loadVar, hi.run_isAgg, hag, load, Sem.run, hv], Goes.refl _ _, hw, h v hp⟩
/-- a struct's cells -/
theorem load_agg {C : Ctx} {t : TypeId} {i : TyI} (hi : TyOk P t i) (hag : i.d.agg = true) {b off : Nat} {K : Value → Ctx → Prop} (Φ : List Value → Prop) (hr : ∀ w, C.R w → ∃ l : List Value, l.length = i.size ∧ (∀ j v, l[j]? = some v → w.cell? ⟨b, off + j, none⟩ = some v) ∧ Φ l) (h : ∀ l, Φ l → K (.agg l.toArray) C) : SemVC P C (Instr.loadAt t (.pointer (some ⟨b, off, none⟩))) K := by
  constructor
  intro w hw
  obtain ⟨l, hl, hv, hp⟩ := hr w hw
  have h1 : (loadCells ⟨b, off, none⟩ l.length).run P w = .ok l.toArray w := run_loadCells_list w _ l fun j v hj => by rw [addr_add]; exact hv j v hj
  rw [hl] at h1
  exact ⟨.agg l.toArray, w, _, by simp [Instr.loadAt, Instr.sureAddr, loadVar, hi.run_isAgg, hag, hi.run_size, h1], Goes.refl _ _, hw, h l hp⟩
end
section
variable {z : Zp} {G G0 : Gh} {w0 : World}
/-- append, of a row that is typed -/
theorem app_T (r : RT) {ats : Array TypeId} {ty : TypeId} {vs : Array Value} {K : Value → Ctx → Prop} {A : Option Addr} {n c : Nat} (hs : Sl G r A n c) {A' : Option Addr} {n' c' : Nat} (hs' : Sl G r A' n' c') (m : Nat) (hm : m = n + n') (hn : m ≤ 1000000000)
    (h : ∀ G' A'' c'', G.le G' → Sl G' r A'' m c'' → K (.slice A'' m c'') (CtxT z G' G0 w0)) (hats : ats = #[r.sl, r.sl] := by rfl) (hvs : vs = #[.slice A n c, .slice A' n' c'] := by rfl) : SemVC Try.prog (CtxT z G G0 w0) (Builtin.append_ ats ty vs) K := by
  constructor
  subst hats hvs hm
  intro w hw
  obtain ⟨news, he, hsrc⟩ := hs'.src hw.1 (under_rt r)
  obtain ⟨i, hi, h0, h1, h2⟩ := info_parts (info_rt r)
  have := r.bytes_le
  have hb : (n + n') * r.bytes ≤ 1000000000 * 96 := Nat.mul_le_mul hn this
  obtain ⟨A'', c'', w', G', hrun, h3, h4, h5⟩ := run_appT hw.1 r.sl r.sl ty r i r.zero r.bytes (under_rt r) hi h0 h1 h2 (zero_size r) (zero_el z G r) A n c hs _ n' news he hsrc (by omega) (by omega)
  obtain ⟨h6, h7⟩ := goesT hw h3 h4
  exact ⟨_, w', _, hrun, h6, h7, h G' A'' c'' h4.le h5⟩
/-- a literal row -/
theorem bs_T (r : RT) (n : Nat) {ps : List (Nat × Value)} (cs : List Value) {K : Value → Ctx → Prop} (hrun : ∀ w, (Instr.buildSlice r.sl n ps.toArray).run Try.prog w = .ok (.slice (some ⟨w.heap.size, 0, none⟩) n n) (w.alloc (.cells cs.toArray r.id))) (he : Els z G r n cs) (hn : n ≤ 1000000)
    (h : ∀ G' A, G.le G' → Sl G' r A n n → K (.slice A n n) (CtxT z G' G0 w0)) : SemVC Try.prog (CtxT z G G0 w0) (Instr.buildSlice r.sl n ps.toArray) K := by
  constructor
  intro w hw
  obtain ⟨h1, h2⟩ := hw.1.row_new r n cs he
  obtain ⟨h6, h7⟩ := goesT hw h1 h2
  refine ⟨_, _, _, hrun w, h6, h7, h _ _ h2.le (.inr ⟨w.heap.size, 0, n, by simp, by simp [Gh.upd], by omega, Nat.le_refl _, by omega⟩)⟩
theorem range_map {α : Type} (n : Nat) (f : Nat → α) : (Array.range n).map f = ((List.range n).map f).toArray := by apply Array.ext'; simp
theorem run_bs0 (r : RT) (w : World) : (Instr.buildSlice r.sl 0 #[]).run Try.prog w = .ok (.slice (some ⟨w.heap.size, 0, none⟩) 0 0) (w.alloc (.cells #[] r.id)) := by
  obtain ⟨i, hi, h0, h1, h2⟩ := info_parts (info_rt r)
  simp [Instr.buildSlice, run_underlying (under_rt r), sizeOf, typeInfo, hi, Instr.fill, newRow, newObj, Sem.run, range_map]
theorem bs0 (r : RT) {t : TypeId} {ps : Array (Nat × Value)} {K : Value → Ctx → Prop} (h : ∀ G' A, G.le G' → Sl G' r A 0 0 → K (.slice A 0 0) (CtxT z G' G0 w0)) (ht : t = r.sl := by rfl) (hps : ps = #[] := by rfl) : SemVC Try.prog (CtxT z G G0 w0) (Instr.buildSlice t 0 ps) K := by
  subst ht hps
  exact bs_T r 0 (ps := []) [] (fun w => run_bs0 r w) (Els.nil z G r) (by omega) h
theorem fill_one (n : Nat) (cs : Array Value) (h : n = cs.size) (f : Nat → Value) : Instr.fill (fun i => some (i * n, n)) ((Array.range n).map f) [(0, Value.agg cs)] = some cs := by
  subst h
  have h1 := fill_fold cs.toList ((List.range cs.size).map f) 0 0
  have e : (Array.range cs.size).map f = ((List.range cs.size).map f).toArray := by apply Array.ext'; simp
  have h2 : (putAt ((List.range cs.size).map f) 0 cs.toList) = cs.toList := by
    rw [putAt_eq _ _ _ (by simp)]
    simp
  simp only [Instr.fill, Value.cells, Nat.zero_mul, Nat.zero_add]
  rw [if_neg (by simp)]
  rw [e]
  simp only [Nat.zero_add] at h1
  rw [h2] at h1
  rw [← Array.foldl_toList, Array.toList_zipIdx]
  rw [h1]
/-- a literal row of one struct -/
theorem bs_agg (r : RT) (cs : Array Value) {K : Value → Ctx → Prop} (hs : cs.size = r.size) (he : Els z G r 1 cs.toList) (h : ∀ G' A, G.le G' → Sl G' r A 1 1 → K (.slice A 1 1) (CtxT z G' G0 w0)) {t : TypeId} {ps : Array (Nat × Value)} (ht : t = r.sl := by rfl) (hps : ps = #[(0, .agg cs)] := by rfl) : SemVC Try.prog (CtxT z G G0 w0) (Instr.buildSlice t 1 ps) K := by
  subst ht hps
  refine bs_T r 1 (ps := [(0, .agg cs)]) cs.toList (fun w => ?_) he (by omega) h
  obtain ⟨i, hi, h0, h1, h2⟩ := info_parts (info_rt r)
  have hp := r.size_pos
  have hle : r.size ≤ 10 := by cases r <;> decide
  have hz := zero_size r
  have := fill_one r.size cs hs.symm (fun x => r.zero.cells[x % r.zero.cells.size]!)
  simp [Instr.buildSlice, run_underlying (under_rt r), sizeOf, typeInfo, hi, zeroValue, h0, h1, newRow, newObj, Sem.run, this, show ¬ 16777216 < r.size by omega, show r.size ≠ 0 by omega, hs]
def mkParts : List Value → Nat → List (Nat × Value)
  | [], _ => []
  | v :: l, i => (i, v) :: mkParts l (i + 1)
theorem fill_parts (l : List Int) : ∀ (cs : List Value) (i : Nat), i + l.length ≤ cs.length → Instr.fill (fun i => some (i, 1)) cs.toArray (mkParts (is l) i) = some (putAt cs i (is l)).toArray := by
  induction l with
  | nil => intro cs i _; simp [is, mkParts, Instr.fill, putAt_nil]
  | cons x l ih =>
    intro cs i h
    simp only [List.length_cons] at h
    have e : is (x :: l) = .int .i64 x :: is l := rfl
    rw [e, putAt_cons]
    have h2 := ih (cs.set i (.int .i64 x)) (i + 1) (by simp; omega)
    rw [← h2]
    simp [mkParts, Instr.fill, Value.cells, show ¬ cs.length < i + 1 by omega]
theorem bsn (xs : List Int) {K : Value → Ctx → Prop} (hn : xs.length ≤ 1000) {t : TypeId} {n : Nat} {ps : Array (Nat × Value)} (h : ∀ G' A, G.le G' → Sl G' .int A n n → K (.slice A n n) (CtxT z G' G0 w0)) (ht : t = 23 := by rfl) (hl : n = xs.length := by rfl) (hps : ps = (mkParts (is xs) 0).toArray := by rfl) : SemVC Try.prog (CtxT z G G0 w0) (Instr.buildSlice t n ps) K := by
  subst ht hl hps
  refine bs_T .int xs.length (ps := mkParts (is xs) 0) (is xs) (fun w => ?_) (els_is z G xs) (by omega) h
  obtain ⟨i, hi, h0, h1, h2⟩ := info_parts (info_rt .int)
  have h1 : i.size = 1 := h1
  have hi : (Try.prog).info? 3 = some i := hi
  have hf : ∀ f : Nat → Value, Instr.fill (fun i => some (i, 1)) ((List.range xs.length).map f).toArray (mkParts (is xs) 0) = some (is xs).toArray := fun f => by
    rw [fill_parts xs _ 0 (by simp), putAt_eq _ _ _ (by simp)]
    simp
  have hx : ¬ 16777216 < xs.length := by omega
  by_cases h0' : xs.length = 0
  · have : xs = [] := List.eq_nil_of_length_eq_zero h0'
    subst this
    exact run_bs0 .int w
  · have hz : i.zero = some (.int .i64 0) := h0
    simp [Instr.buildSlice, run_underlying Try.underlying23, sizeOf, typeInfo, hi, zeroValue, hz, h1, newRow, newObj, Sem.run, RT.sl, RT.id, hx, h0']
    rw [range_map, hf]
    rfl
end
end Go.Proofs.Ytahhihhfjimppaa
/- The table of types; made by gentab.py. -/
namespace Go.Proofs.Ytahhihhfjimppaa
set_option maxRecDepth 100000
def ti2 : TyI := ⟨1, .int .i64 0, .int .i64⟩
theorem ti2_ok : TyOk Try.prog 2 ti2 := ⟨by decide, by kernel_rfl, by kernel_rfl, by kernel_rfl⟩
def ti3 : TyI := ⟨1, .int .i64 0, .int .i64⟩
theorem ti3_ok : TyOk Try.prog 3 ti3 := ⟨by decide, by kernel_rfl, by kernel_rfl, by kernel_rfl⟩
def ti4 : TyI := ⟨1, .bool false, .other⟩
theorem ti4_ok : TyOk Try.prog 4 ti4 := ⟨by decide, by kernel_rfl, by kernel_rfl, by kernel_rfl⟩
def ti5 : TyI := ⟨1, .int .u8 0, .int .u8⟩
theorem ti5_ok : TyOk Try.prog 5 ti5 := ⟨by decide, by kernel_rfl, by kernel_rfl, by kernel_rfl⟩
def ti9 : TyI := ⟨1, .string ⟨#[]⟩, .str⟩
theorem ti9_ok : TyOk Try.prog 9 ti9 := ⟨by decide, by kernel_rfl, by kernel_rfl, by kernel_rfl⟩
def ti12 : TyI := ⟨1, .int .u64 0, .int .u64⟩
theorem ti12_ok : TyOk Try.prog 12 ti12 := ⟨by decide, by kernel_rfl, by kernel_rfl, by kernel_rfl⟩
def ti21 : TyI := ⟨1, .int .i32 0, .int .i32⟩
theorem ti21_ok : TyOk Try.prog 21 ti21 := ⟨by decide, by kernel_rfl, by kernel_rfl, by kernel_rfl⟩
def ti22 : TyI := ⟨1, .int .i64 0, .int .i64⟩
theorem ti22_ok : TyOk Try.prog 22 ti22 := ⟨by decide, by kernel_rfl, by kernel_rfl, by kernel_rfl⟩
def ti23 : TyI := ⟨1, .slice none 0 0, .sl (some 1)⟩
theorem ti23_ok : TyOk Try.prog 23 ti23 := ⟨by decide, by kernel_rfl, by kernel_rfl, by kernel_rfl⟩
def ti24 : TyI := ⟨1, .slice none 0 0, .sl (some 3)⟩
theorem ti24_ok : TyOk Try.prog 24 ti24 := ⟨by decide, by kernel_rfl, by kernel_rfl, by kernel_rfl⟩
def ti25 : TyI := ⟨1, .slice none 0 0, .sl (some 10)⟩
theorem ti25_ok : TyOk Try.prog 25 ti25 := ⟨by decide, by kernel_rfl, by kernel_rfl, by kernel_rfl⟩
def ti26 : TyI := ⟨1, .slice none 0 0, .sl (some 5)⟩
theorem ti26_ok : TyOk Try.prog 26 ti26 := ⟨by decide, by kernel_rfl, by kernel_rfl, by kernel_rfl⟩
def ti27 : TyI := ⟨1, .slice none 0 0, .sl (some 1)⟩
theorem ti27_ok : TyOk Try.prog 27 ti27 := ⟨by decide, by kernel_rfl, by kernel_rfl, by kernel_rfl⟩
def ti29 : TyI := ⟨11, .agg #[.int .i64 0, .int .i64 0, .slice none 0 0, .slice none 0 0, .slice none 0 0, .slice none 0 0, .slice none 0 0, .slice none 0 0, .int .i64 0, .int .i64 0, .slice none 0 0], .st [(0, some 1), (1, some 1), (2, some 1), (3, some 1), (4, some 1), (5, some 1), (6, some 1), (7, some 1), (8, some 1), (9, some 1), (10, some 1)]⟩
theorem ti29_ok : TyOk Try.prog 29 ti29 := ⟨by decide, by kernel_rfl, by kernel_rfl, by kernel_rfl⟩
def ti30 : TyI := ⟨1, .slice none 0 0, .sl (some 1)⟩
theorem ti30_ok : TyOk Try.prog 30 ti30 := ⟨by decide, by kernel_rfl, by kernel_rfl, by kernel_rfl⟩
def ti34 : TyI := ⟨1, .slice none 0 0, .sl (some 2)⟩
theorem ti34_ok : TyOk Try.prog 34 ti34 := ⟨by decide, by kernel_rfl, by kernel_rfl, by kernel_rfl⟩
def ti42 : TyI := ⟨9, .agg #[.int .i64 0, .int .i64 0, .int .i64 0, .int .i64 0, .int .i64 0, .int .i64 0, .int .i64 0, .int .i64 0, .int .i64 0], .st [(0, some 1), (1, some 1), (2, some 1), (3, some 1), (4, some 1), (5, some 1), (6, some 1), (7, some 1), (8, some 1)]⟩
theorem ti42_ok : TyOk Try.prog 42 ti42 := ⟨by decide, by kernel_rfl, by kernel_rfl, by kernel_rfl⟩
def ti44 : TyI := ⟨4, .agg #[.int .i64 0, .int .i64 0, .int .i64 0, .int .i64 0], .st [(0, some 1), (1, some 1), (2, some 1), (3, some 1)]⟩
theorem ti44_ok : TyOk Try.prog 44 ti44 := ⟨by decide, by kernel_rfl, by kernel_rfl, by kernel_rfl⟩
def ti46 : TyI := ⟨10, .agg #[.int .i64 0, .slice none 0 0, .int .i64 0, .int .i64 0, .int .i64 0, .int .i64 0, .int .i64 0, .int .i64 0, .int .i64 0, .bool false], .st [(0, some 1), (1, some 1), (2, some 1), (3, some 1), (4, some 4), (8, some 1), (9, some 1)]⟩
theorem ti46_ok : TyOk Try.prog 46 ti46 := ⟨by decide, by kernel_rfl, by kernel_rfl, by kernel_rfl⟩
def ti47 : TyI := ⟨1, .int .u16 0, .int .u16⟩
theorem ti47_ok : TyOk Try.prog 47 ti47 := ⟨by decide, by kernel_rfl, by kernel_rfl, by kernel_rfl⟩
def ti49 : TyI := ⟨31, .agg #[.int .i64 0, .int .i64 0, .int .i64 0, .int .i64 0, .int .i64 0, .int .i64 0, .int .i64 0, .int .i64 0, .int .i64 0, .int .i64 0, .int .i64 0, .slice none 0 0, .slice none 0 0, .slice none 0 0, .slice none 0 0, .slice none 0 0, .slice none 0 0, .int .i64 0, .int .i64 0, .slice none 0 0, .int .i64 0, .slice none 0 0, .int .i64 0, .int .i64 0, .int .i64 0, .int .i64 0, .int .i64 0, .int .i64 0, .int .i64 0, .bool false, .int .u16 0], .st [(0, some 9), (9, some 11), (20, some 10), (30, some 1)]⟩
theorem ti49_ok : TyOk Try.prog 49 ti49 := ⟨by decide, by kernel_rfl, by kernel_rfl, by kernel_rfl⟩
def ti52 : TyI := ⟨1, .slice none 0 0, .sl (some 3)⟩
theorem ti52_ok : TyOk Try.prog 52 ti52 := ⟨by decide, by kernel_rfl, by kernel_rfl, by kernel_rfl⟩
def ti54 : TyI := ⟨6, .agg #[.slice none 0 0, .slice none 0 0, .int .i64 0, .int .i64 0, .int .i64 0, .int .i64 0], .st [(0, some 1), (1, some 1), (2, some 1), (3, some 1), (4, some 1), (5, some 1)]⟩
theorem ti54_ok : TyOk Try.prog 54 ti54 := ⟨by decide, by kernel_rfl, by kernel_rfl, by kernel_rfl⟩
def ti59 : TyI := ⟨5, .agg #[.int .i64 0, .int .i64 0, .int .i64 0, .int .i64 0, .int .i64 0], .st [(0, some 1), (1, some 1), (2, some 1), (3, some 1), (4, some 1)]⟩
theorem ti59_ok : TyOk Try.prog 59 ti59 := ⟨by decide, by kernel_rfl, by kernel_rfl, by kernel_rfl⟩
def ti65 : TyI := ⟨2, .agg #[.int .i64 0, .int .i64 0], .ar 2 (some 1)⟩
theorem ti65_ok : TyOk Try.prog 65 ti65 := ⟨by decide, by kernel_rfl, by kernel_rfl, by kernel_rfl⟩
def ti71 : TyI := ⟨1, .agg #[.slice none 0 0], .st [(0, some 1)]⟩
theorem ti71_ok : TyOk Try.prog 71 ti71 := ⟨by decide, by kernel_rfl, by kernel_rfl, by kernel_rfl⟩
def ti74 : TyI := ⟨2, .agg #[.int .i64 0, .int .i64 0], .st [(0, some 1), (1, some 1)]⟩
theorem ti74_ok : TyOk Try.prog 74 ti74 := ⟨by decide, by kernel_rfl, by kernel_rfl, by kernel_rfl⟩
def ti75 : TyI := ⟨1, .slice none 0 0, .sl (some 2)⟩
theorem ti75_ok : TyOk Try.prog 75 ti75 := ⟨by decide, by kernel_rfl, by kernel_rfl, by kernel_rfl⟩
def ti77 : TyI := ⟨2, .agg #[.slice none 0 0, .int .i64 0], .st [(0, some 1), (1, some 1)]⟩
theorem ti77_ok : TyOk Try.prog 77 ti77 := ⟨by decide, by kernel_rfl, by kernel_rfl, by kernel_rfl⟩
def ti83 : TyI := ⟨1, .slice none 0 0, .sl (some 4)⟩
theorem ti83_ok : TyOk Try.prog 83 ti83 := ⟨by decide, by kernel_rfl, by kernel_rfl, by kernel_rfl⟩
def ti85 : TyI := ⟨3, .agg #[.int .i64 0, .int .i64 0, .slice none 0 0], .st [(0, some 1), (1, some 1), (2, some 1)]⟩
theorem ti85_ok : TyOk Try.prog 85 ti85 := ⟨by decide, by kernel_rfl, by kernel_rfl, by kernel_rfl⟩
def ti90 : TyI := ⟨4, .agg #[.int .i64 0, .int .i64 0, .int .i64 0, .int .i64 0], .st [(0, some 1), (1, some 1), (2, some 1), (3, some 1)]⟩
theorem ti90_ok : TyOk Try.prog 90 ti90 := ⟨by decide, by kernel_rfl, by kernel_rfl, by kernel_rfl⟩
def ti92 : TyI := ⟨12, .agg #[.int .i64 0, .int .i64 0, .slice none 0 0, .slice none 0 0, .slice none 0 0, .slice none 0 0, .slice none 0 0, .slice none 0 0, .int .i64 0, .int .i64 0, .slice none 0 0, .int .i64 0], .st [(0, some 11), (11, some 1)]⟩
theorem ti92_ok : TyOk Try.prog 92 ti92 := ⟨by decide, by kernel_rfl, by kernel_rfl, by kernel_rfl⟩
def ti94 : TyI := ⟨3, .agg #[.int .i64 0, .slice none 0 0, .slice none 0 0], .st [(0, some 1), (1, some 1), (2, some 1)]⟩
theorem ti94_ok : TyOk Try.prog 94 ti94 := ⟨by decide, by kernel_rfl, by kernel_rfl, by kernel_rfl⟩
def ti101 : TyI := ⟨2, .agg #[.bool false, .bool false], .ar 2 (some 1)⟩
theorem ti101_ok : TyOk Try.prog 101 ti101 := ⟨by decide, by kernel_rfl, by kernel_rfl, by kernel_rfl⟩
def ti105 : TyI := ⟨1, .slice none 0 0, .sl (some 2)⟩
theorem ti105_ok : TyOk Try.prog 105 ti105 := ⟨by decide, by kernel_rfl, by kernel_rfl, by kernel_rfl⟩
def ti107 : TyI := ⟨10, .agg #[.int .i64 0, .slice none 0 0, .int .i64 0, .int .i64 0, .slice none 0 0, .slice none 0 0, .slice none 0 0, .int .i64 0, .int .i64 0, .bool false], .st [(0, some 1), (1, some 1), (2, some 1), (3, some 1), (4, some 1), (5, some 1), (6, some 1), (7, some 1), (8, some 1), (9, some 1)]⟩
theorem ti107_ok : TyOk Try.prog 107 ti107 := ⟨by decide, by kernel_rfl, by kernel_rfl, by kernel_rfl⟩
def ti111 : TyI := ⟨8, .agg #[.int .i64 0, .int .i64 0, .int .i64 0, .int .i64 0, .int .i64 0, .int .i64 0, .int .i64 0, .slice none 0 0], .st [(0, some 1), (1, some 1), (2, some 1), (3, some 4), (7, some 1)]⟩
theorem ti111_ok : TyOk Try.prog 111 ti111 := ⟨by decide, by kernel_rfl, by kernel_rfl, by kernel_rfl⟩
def ti127 : TyI := ⟨2, .agg #[.int .i64 0, .int .i64 0], .st [(0, some 1), (1, some 1)]⟩
theorem ti127_ok : TyOk Try.prog 127 ti127 := ⟨by decide, by kernel_rfl, by kernel_rfl, by kernel_rfl⟩
def ti145 : TyI := ⟨0, .agg #[], .ar 0 (some 1)⟩
theorem ti145_ok : TyOk Try.prog 145 ti145 := ⟨by decide, by kernel_rfl, by kernel_rfl, by kernel_rfl⟩
def ti149 : TyI := ⟨1, .int .u32 0, .int .u32⟩
theorem ti149_ok : TyOk Try.prog 149 ti149 := ⟨by decide, by kernel_rfl, by kernel_rfl, by kernel_rfl⟩
def tab : List (Nat × TyI) := [(2, ti2), (3, ti3), (4, ti4), (5, ti5), (9, ti9), (12, ti12), (21, ti21), (22, ti22), (23, ti23), (24, ti24), (25, ti25), (26, ti26), (27, ti27), (29, ti29), (30, ti30), (34, ti34), (42, ti42), (44, ti44), (46, ti46), (47, ti47), (49, ti49), (52, ti52), (54, ti54), (59, ti59), (65, ti65), (71, ti71), (74, ti74), (75, ti75), (77, ti77), (83, ti83), (85, ti85), (90, ti90), (92, ti92), (94, ti94), (101, ti101), (105, ti105), (107, ti107), (111, ti111), (127, ti127), (145, ti145), (149, ti149)]
theorem tab_ok : TabOk Try.prog tab := .cons ti2_ok (.cons ti3_ok (.cons ti4_ok (.cons ti5_ok (.cons ti9_ok (.cons ti12_ok (.cons ti21_ok (.cons ti22_ok (.cons ti23_ok (.cons ti24_ok (.cons ti25_ok (.cons ti26_ok (.cons ti27_ok (.cons ti29_ok (.cons ti30_ok (.cons ti34_ok (.cons ti42_ok (.cons ti44_ok (.cons ti46_ok (.cons ti47_ok (.cons ti49_ok (.cons ti52_ok (.cons ti54_ok (.cons ti59_ok (.cons ti65_ok (.cons ti71_ok (.cons ti74_ok (.cons ti75_ok (.cons ti77_ok (.cons ti83_ok (.cons ti85_ok (.cons ti90_ok (.cons ti92_ok (.cons ti94_ok (.cons ti101_ok (.cons ti105_ok (.cons ti107_ok (.cons ti111_ok (.cons ti127_ok (.cons ti145_ok (.cons ti149_ok (TabOk.nil _)))))))))))))))))))))))))))))))))))))))))
theorem mixed : Try.prog.follows .mixedOrders = true := by kernel_rfl
end Go.Proofs.Ytahhihhfjimppaa
/- The frames of functions, and the plans of regions that draw their order; made by genplan.py. -/
namespace Go.Proofs.Ytahhihhfjimppaa
set_option linter.unusedVariables false
set_option maxRecDepth 100000
def D14 (id : Nat) : Plan := bif Nat.beq id 4 then (.pure 0 [] (.pure 1 [] (.pure 2 [6] (.pure 3 [] (.pure 4 [] (.pure 5 [] (.pure 6 [6] (.pure 7 [] (.pure 8 [] (.pure 9 [] (.pure 10 [] (.pure 11 [] (.pure 12 [] (.pure 13 [6] (.pure 14 [] (.pure 15 [] (.pure 16 [] (.alt 17 (.pure 18 [] .done) .stop)))))))))))))))))) else .done
theorem d14 : drawsB D14 (Try.f14.body.getD .skip) = true := by kernel_rfl
theorem en14 : Enters Try.prog 14 := enters_of Try.func14 (by kernel_rfl) (by kernel_rfl)
theorem go14 {args : List Value} (hlen : Nat.ble args.length 37 = true) {w : World} {R : Ending → World → Prop} (C : Ctx) (hR : C.R w) (h : vc Try.prog tab 37 D14 (Try.f14.body.getD .skip) C ⟨startS args, noBox⟩ (RetK tab Try.f14 R) (bodyE tab Try.f14 R)) : Calls Try.prog 14 args.toArray w R :=
  calls_vc tab_ok mixed 37 Try.func14 (by kernel_rfl) (by kernel_rfl) d14 hlen C hR h
def D25 (id : Nat) : Plan := .done
theorem d25 : drawsB D25 (Try.f25.body.getD .skip) = true := by kernel_rfl
theorem en25 : Enters Try.prog 25 := enters_of Try.func25 (by kernel_rfl) (by kernel_rfl)
theorem go25 {args : List Value} (hlen : Nat.ble args.length 35 = true) {w : World} {R : Ending → World → Prop} (C : Ctx) (hR : C.R w) (h : vc Try.prog tab 35 D25 (Try.f25.body.getD .skip) C ⟨startS args, noBox⟩ (RetK tab Try.f25 R) (bodyE tab Try.f25 R)) : Calls Try.prog 25 args.toArray w R :=
  calls_vc tab_ok mixed 35 Try.func25 (by kernel_rfl) (by kernel_rfl) d25 hlen C hR h
def D26 (id : Nat) : Plan := bif Nat.beq id 17 then (.pure 0 [] (.pure 1 [] (.pure 2 [] (.pure 3 [] (.pure 4 [] (.pure 5 [] (.alt 6 (.alt 7 (.pure 8 [] .done) .stop) .stop))))))) else .done
theorem d26 : drawsB D26 (Try.f26.body.getD .skip) = true := by kernel_rfl
theorem en26 : Enters Try.prog 26 := enters_of Try.func26 (by kernel_rfl) (by kernel_rfl)
theorem go26 {args : List Value} (hlen : Nat.ble args.length 139 = true) {w : World} {R : Ending → World → Prop} (C : Ctx) (hR : C.R w) (h : vc Try.prog tab 139 D26 (Try.f26.body.getD .skip) C ⟨startS args, noBox⟩ (RetK tab Try.f26 R) (bodyE tab Try.f26 R)) : Calls Try.prog 26 args.toArray w R :=
  calls_vc tab_ok mixed 139 Try.func26 (by kernel_rfl) (by kernel_rfl) d26 hlen C hR h
def D33 (id : Nat) : Plan := .done
theorem d33 : drawsB D33 (Try.f33.body.getD .skip) = true := by kernel_rfl
theorem en33 : Enters Try.prog 33 := enters_of Try.func33 (by kernel_rfl) (by kernel_rfl)
theorem go33 {args : List Value} (hlen : Nat.ble args.length 9 = true) {w : World} {R : Ending → World → Prop} (C : Ctx) (hR : C.R w) (h : vc Try.prog tab 9 D33 (Try.f33.body.getD .skip) C ⟨startS args, noBox⟩ (RetK tab Try.f33 R) (bodyE tab Try.f33 R)) : Calls Try.prog 33 args.toArray w R :=
  calls_vc tab_ok mixed 9 Try.func33 (by kernel_rfl) (by kernel_rfl) d33 hlen C hR h
def D34 (id : Nat) : Plan := bif Nat.beq id 21 then (.pure 0 [] (.pure 1 [] (.pure 2 [] (.alt 3 (.alt 4 (.pure 5 [] (.pure 6 [] (.pure 7 [] (.pure 8 [] (.pure 9 [] (.pure 12 [] (.pure 13 [] (.pure 14 [] (.alt 10 (.alt 11 (.alt 15 (.pure 16 [] (.pure 17 [] .done)) .stop) (.alt 15 (.alt 11 (.pure 16 [] (.pure 17 [] .done)) .stop) .stop)) (.alt 15 (.alt 10 (.alt 11 (.pure 16 [] (.pure 17 [] .done)) .stop) .stop) .stop)))))))))) .stop) .stop)))) else bif Nat.beq id 23 then (.pure 0 [] (.pure 1 [] (.pure 2 [] (.pure 4 [] (.pure 5 [] (.pure 6 [] (.pure 10 [] (.pure 11 [] (.pure 12 [] (.alt 3 (.alt 7 (.alt 8 (.pure 9 [] (.alt 13 (.alt 14 (.pure 15 [] (.pure 16 [] .done)) .stop) .stop)) (.alt 13 (.alt 8 (.pure 9 [] (.alt 14 (.pure 15 [] (.pure 16 [] .done)) .stop)) .stop) .stop)) (.alt 13 (.alt 7 (.alt 8 (.pure 9 [] (.alt 14 (.pure 15 [] (.pure 16 [] .done)) .stop)) .stop) .stop) .stop)) (.alt 7 (.alt 3 (.alt 8 (.pure 9 [] (.alt 13 (.alt 14 (.pure 15 [] (.pure 16 [] .done)) .stop) .stop)) (.alt 13 (.alt 8 (.pure 9 [] (.alt 14 (.pure 15 [] (.pure 16 [] .done)) .stop)) .stop) .stop)) (.alt 8 (.alt 3 (.pure 9 [] (.alt 13 (.alt 14 (.pure 15 [] (.pure 16 [] .done)) .stop) .stop)) (.alt 13 (.alt 3 (.pure 9 [] (.alt 14 (.pure 15 [] (.pure 16 [] .done)) .stop)) (.alt 14 (.alt 3 (.pure 9 [] (.pure 15 [] (.pure 16 [] .done))) .stop) .stop)) .stop)) (.alt 13 (.alt 3 (.alt 8 (.pure 9 [] (.alt 14 (.pure 15 [] (.pure 16 [] .done)) .stop)) .stop) (.alt 8 (.alt 3 (.pure 9 [] (.alt 14 (.pure 15 [] (.pure 16 [] .done)) .stop)) (.alt 14 (.alt 3 (.pure 9 [] (.pure 15 [] (.pure 16 [] .done))) .stop) .stop)) .stop)) .stop))) (.alt 13 (.alt 3 (.alt 7 (.alt 8 (.pure 9 [] (.alt 14 (.pure 15 [] (.pure 16 [] .done)) .stop)) .stop) .stop) (.alt 7 (.alt 3 (.alt 8 (.pure 9 [] (.alt 14 (.pure 15 [] (.pure 16 [] .done)) .stop)) .stop) (.alt 8 (.alt 3 (.pure 9 [] (.alt 14 (.pure 15 [] (.pure 16 [] .done)) .stop)) (.alt 14 (.alt 3 (.pure 9 [] (.pure 15 [] (.pure 16 [] .done))) .stop) .stop)) .stop)) .stop)) .stop)))))))))))) else .done
theorem d34 : drawsB D34 (Try.f34.body.getD .skip) = true := by kernel_rfl
theorem en34 : Enters Try.prog 34 := enters_of Try.func34 (by kernel_rfl) (by kernel_rfl)
theorem go34 {args : List Value} (hlen : Nat.ble args.length 158 = true) {w : World} {R : Ending → World → Prop} (C : Ctx) (hR : C.R w) (h : vc Try.prog tab 158 D34 (Try.f34.body.getD .skip) C ⟨startS args, noBox⟩ (RetK tab Try.f34 R) (bodyE tab Try.f34 R)) : Calls Try.prog 34 args.toArray w R :=
  calls_vc tab_ok mixed 158 Try.func34 (by kernel_rfl) (by kernel_rfl) d34 hlen C hR h
def D35 (id : Nat) : Plan := bif Nat.beq id 15 then (.pure 0 [] (.pure 1 [] (.pure 2 [] (.pure 3 [] (.pure 4 [] (.pure 5 [] (.pure 6 [] (.pure 7 [] (.alt 8 (.pure 9 [] (.pure 10 [] (.pure 11 [] (.pure 12 [] (.pure 13 [] (.pure 14 [] (.pure 15 [] (.pure 16 [] (.pure 17 [] (.pure 18 [] (.pure 19 [] (.pure 20 [] (.pure 21 [] (.pure 22 [] .done)))))))))))))) .stop))))))))) else .done
theorem d35 : drawsB D35 (Try.f35.body.getD .skip) = true := by kernel_rfl
theorem en35 : Enters Try.prog 35 := enters_of Try.func35 (by kernel_rfl) (by kernel_rfl)
theorem go35 {args : List Value} (hlen : Nat.ble args.length 86 = true) {w : World} {R : Ending → World → Prop} (C : Ctx) (hR : C.R w) (h : vc Try.prog tab 86 D35 (Try.f35.body.getD .skip) C ⟨startS args, noBox⟩ (RetK tab Try.f35 R) (bodyE tab Try.f35 R)) : Calls Try.prog 35 args.toArray w R :=
  calls_vc tab_ok mixed 86 Try.func35 (by kernel_rfl) (by kernel_rfl) d35 hlen C hR h
def D39 (id : Nat) : Plan := .done
theorem d39 : drawsB D39 (Try.f39.body.getD .skip) = true := by kernel_rfl
theorem en39 : Enters Try.prog 39 := enters_of Try.func39 (by kernel_rfl) (by kernel_rfl)
theorem go39 {args : List Value} (hlen : Nat.ble args.length 27 = true) {w : World} {R : Ending → World → Prop} (C : Ctx) (hR : C.R w) (h : vc Try.prog tab 27 D39 (Try.f39.body.getD .skip) C ⟨startS args, noBox⟩ (RetK tab Try.f39 R) (bodyE tab Try.f39 R)) : Calls Try.prog 39 args.toArray w R :=
  calls_vc tab_ok mixed 27 Try.func39 (by kernel_rfl) (by kernel_rfl) d39 hlen C hR h
def D40 (id : Nat) : Plan := .done
theorem d40 : drawsB D40 (Try.f40.body.getD .skip) = true := by kernel_rfl
theorem en40 : Enters Try.prog 40 := enters_of Try.func40 (by kernel_rfl) (by kernel_rfl)
theorem go40 {args : List Value} (hlen : Nat.ble args.length 16 = true) {w : World} {R : Ending → World → Prop} (C : Ctx) (hR : C.R w) (h : vc Try.prog tab 16 D40 (Try.f40.body.getD .skip) C ⟨startS args, noBox⟩ (RetK tab Try.f40 R) (bodyE tab Try.f40 R)) : Calls Try.prog 40 args.toArray w R :=
  calls_vc tab_ok mixed 16 Try.func40 (by kernel_rfl) (by kernel_rfl) d40 hlen C hR h
def D41 (id : Nat) : Plan := .done
theorem d41 : drawsB D41 (Try.f41.body.getD .skip) = true := by kernel_rfl
theorem en41 : Enters Try.prog 41 := enters_of Try.func41 (by kernel_rfl) (by kernel_rfl)
theorem go41 {args : List Value} (hlen : Nat.ble args.length 24 = true) {w : World} {R : Ending → World → Prop} (C : Ctx) (hR : C.R w) (h : vc Try.prog tab 24 D41 (Try.f41.body.getD .skip) C ⟨startS args, noBox⟩ (RetK tab Try.f41 R) (bodyE tab Try.f41 R)) : Calls Try.prog 41 args.toArray w R :=
  calls_vc tab_ok mixed 24 Try.func41 (by kernel_rfl) (by kernel_rfl) d41 hlen C hR h
def D42 (id : Nat) : Plan := bif Nat.beq id 5 then (.pure 0 [] (.pure 1 [] (.pure 2 [] (.pure 3 [] (.pure 4 [] (.pure 5 [] (.alt 6 (.pure 7 [] (.pure 8 [] (.pure 9 [] (.pure 10 [] (.pure 11 [] (.pure 12 [] (.pure 13 [] (.pure 14 [] (.alt 15 (.pure 16 [] (.pure 17 [] (.pure 18 [] .done))) .stop))))))))) .stop))))))) else .done
theorem d42 : drawsB D42 (Try.f42.body.getD .skip) = true := by kernel_rfl
theorem en42 : Enters Try.prog 42 := enters_of Try.func42 (by kernel_rfl) (by kernel_rfl)
theorem go42 {args : List Value} (hlen : Nat.ble args.length 54 = true) {w : World} {R : Ending → World → Prop} (C : Ctx) (hR : C.R w) (h : vc Try.prog tab 54 D42 (Try.f42.body.getD .skip) C ⟨startS args, noBox⟩ (RetK tab Try.f42 R) (bodyE tab Try.f42 R)) : Calls Try.prog 42 args.toArray w R :=
  calls_vc tab_ok mixed 54 Try.func42 (by kernel_rfl) (by kernel_rfl) d42 hlen C hR h
def D43 (id : Nat) : Plan := .done
theorem d43 : drawsB D43 (Try.f43.body.getD .skip) = true := by kernel_rfl
theorem en43 : Enters Try.prog 43 := enters_of Try.func43 (by kernel_rfl) (by kernel_rfl)
theorem go43 {args : List Value} (hlen : Nat.ble args.length 71 = true) {w : World} {R : Ending → World → Prop} (C : Ctx) (hR : C.R w) (h : vc Try.prog tab 71 D43 (Try.f43.body.getD .skip) C ⟨startS args, noBox⟩ (RetK tab Try.f43 R) (bodyE tab Try.f43 R)) : Calls Try.prog 43 args.toArray w R :=
  calls_vc tab_ok mixed 71 Try.func43 (by kernel_rfl) (by kernel_rfl) d43 hlen C hR h
def D44 (id : Nat) : Plan := bif Nat.beq id 12 then (.pure 0 [] (.pure 1 [4] (.alt 2 (.alt 3 (.pure 4 [] .done) .stop) .stop))) else .done
theorem d44 : drawsB D44 (Try.f44.body.getD .skip) = true := by kernel_rfl
theorem en44 : Enters Try.prog 44 := enters_of Try.func44 (by kernel_rfl) (by kernel_rfl)
theorem go44 {args : List Value} (hlen : Nat.ble args.length 45 = true) {w : World} {R : Ending → World → Prop} (C : Ctx) (hR : C.R w) (h : vc Try.prog tab 45 D44 (Try.f44.body.getD .skip) C ⟨startS args, noBox⟩ (RetK tab Try.f44 R) (bodyE tab Try.f44 R)) : Calls Try.prog 44 args.toArray w R :=
  calls_vc tab_ok mixed 45 Try.func44 (by kernel_rfl) (by kernel_rfl) d44 hlen C hR h
def D48 (id : Nat) : Plan := bif Nat.beq id 7 then (.pure 1 [] (.pure 2 [] (.pure 4 [] (.pure 5 [] (.alt 0 (.alt 3 (.alt 6 (.alt 7 (.alt 8 (.pure 9 [] (.alt 10 .done .stop)) .stop) .stop) .stop) (.alt 6 (.alt 3 (.alt 7 (.alt 8 (.pure 9 [] (.alt 10 .done .stop)) .stop) .stop) (.alt 7 (.alt 3 (.alt 8 (.pure 9 [] (.alt 10 .done .stop)) .stop) .stop) .stop)) .stop)) (.alt 6 (.alt 0 (.alt 3 (.alt 7 (.alt 8 (.pure 9 [] (.alt 10 .done .stop)) .stop) .stop) (.alt 7 (.alt 3 (.alt 8 (.pure 9 [] (.alt 10 .done .stop)) .stop) .stop) .stop)) (.alt 7 (.alt 0 (.alt 3 (.alt 8 (.pure 9 [] (.alt 10 .done .stop)) .stop) .stop) .stop) .stop)) .stop)))))) else bif Nat.beq id 15 then (.pure 1 [] (.pure 2 [] (.pure 4 [] (.pure 5 [] (.pure 7 [] (.pure 8 [] (.alt 0 (.alt 3 (.alt 6 (.pure 9 [] (.alt 10 (.alt 11 (.pure 12 [] (.alt 13 .done .stop)) .stop) .stop)) .stop) (.alt 6 (.pure 9 [] (.alt 3 (.alt 10 (.alt 11 (.pure 12 [] (.alt 13 .done .stop)) .stop) .stop) (.alt 10 (.alt 3 (.alt 11 (.pure 12 [] (.alt 13 .done .stop)) .stop) .stop) .stop))) .stop)) (.alt 6 (.pure 9 [] (.alt 0 (.alt 3 (.alt 10 (.alt 11 (.pure 12 [] (.alt 13 .done .stop)) .stop) .stop) (.alt 10 (.alt 3 (.alt 11 (.pure 12 [] (.alt 13 .done .stop)) .stop) .stop) .stop)) (.alt 10 (.alt 0 (.alt 3 (.alt 11 (.pure 12 [] (.alt 13 .done .stop)) .stop) .stop) .stop) .stop))) .stop)))))))) else .done
theorem d48 : drawsB D48 (Try.f48.body.getD .skip) = true := by kernel_rfl
theorem en48 : Enters Try.prog 48 := enters_of Try.func48 (by kernel_rfl) (by kernel_rfl)
theorem go48 {args : List Value} (hlen : Nat.ble args.length 146 = true) {w : World} {R : Ending → World → Prop} (C : Ctx) (hR : C.R w) (h : vc Try.prog tab 146 D48 (Try.f48.body.getD .skip) C ⟨startS args, noBox⟩ (RetK tab Try.f48 R) (bodyE tab Try.f48 R)) : Calls Try.prog 48 args.toArray w R :=
  calls_vc tab_ok mixed 146 Try.func48 (by kernel_rfl) (by kernel_rfl) d48 hlen C hR h
def D49 (id : Nat) : Plan := .done
theorem d49 : drawsB D49 (Try.f49.body.getD .skip) = true := by kernel_rfl
theorem en49 : Enters Try.prog 49 := enters_of Try.func49 (by kernel_rfl) (by kernel_rfl)
theorem go49 {args : List Value} (hlen : Nat.ble args.length 16 = true) {w : World} {R : Ending → World → Prop} (C : Ctx) (hR : C.R w) (h : vc Try.prog tab 16 D49 (Try.f49.body.getD .skip) C ⟨startS args, noBox⟩ (RetK tab Try.f49 R) (bodyE tab Try.f49 R)) : Calls Try.prog 49 args.toArray w R :=
  calls_vc tab_ok mixed 16 Try.func49 (by kernel_rfl) (by kernel_rfl) d49 hlen C hR h
def D50 (id : Nat) : Plan := bif Nat.beq id 13 then (.pure 0 [] (.pure 1 [] (.pure 2 [] (.pure 3 [] (.pure 4 [] (.alt 5 (.pure 6 [] (.pure 7 [] (.pure 8 [] (.pure 9 [] (.pure 10 [] (.pure 11 [] (.pure 12 [] (.alt 13 (.pure 14 [] (.pure 15 [] (.pure 16 [] (.pure 17 [] (.pure 18 [] (.pure 19 [] (.pure 20 [] (.pure 21 [] (.pure 23 [] (.pure 24 [] (.alt 22 (.pure 25 [] (.pure 26 [] .done)) .stop))))))))))) .stop)))))))) .stop)))))) else .done
theorem d50 : drawsB D50 (Try.f50.body.getD .skip) = true := by kernel_rfl
theorem en50 : Enters Try.prog 50 := enters_of Try.func50 (by kernel_rfl) (by kernel_rfl)
theorem go50 {args : List Value} (hlen : Nat.ble args.length 117 = true) {w : World} {R : Ending → World → Prop} (C : Ctx) (hR : C.R w) (h : vc Try.prog tab 117 D50 (Try.f50.body.getD .skip) C ⟨startS args, noBox⟩ (RetK tab Try.f50 R) (bodyE tab Try.f50 R)) : Calls Try.prog 50 args.toArray w R :=
  calls_vc tab_ok mixed 117 Try.func50 (by kernel_rfl) (by kernel_rfl) d50 hlen C hR h
def D51 (id : Nat) : Plan := bif Nat.beq id 4 then (.pure 0 [] (.pure 1 [4] (.alt 2 (.alt 3 (.pure 4 [] .done) .stop) .stop))) else bif Nat.beq id 6 then (.pure 0 [] (.pure 1 [4] (.alt 2 (.alt 3 (.pure 4 [] .done) .stop) .stop))) else bif Nat.beq id 10 then (.pure 0 [] (.pure 1 [4] (.alt 2 (.alt 3 (.pure 4 [] .done) .stop) .stop))) else bif Nat.beq id 14 then (.pure 0 [] (.pure 1 [4] (.alt 2 (.alt 3 (.pure 4 [] .done) .stop) .stop))) else bif Nat.beq id 17 then (.pure 0 [] (.pure 1 [] (.pure 2 [] (.pure 5 [4] (.alt 3 (.alt 4 (.alt 6 (.alt 7 (.pure 8 [] .done) .stop) .stop) .stop) .stop))))) else bif Nat.beq id 23 then (.pure 0 [] (.pure 1 [] (.pure 2 [] (.pure 3 [] (.pure 4 [] (.pure 5 [] (.pure 9 [4] (.alt 6 (.alt 7 (.alt 8 (.alt 10 (.alt 11 (.pure 12 [] .done) .stop) .stop) .stop) .stop) .stop)))))))) else bif Nat.beq id 26 then (.pure 0 [] (.pure 1 [] (.pure 2 [] (.pure 3 [] (.pure 4 [] (.pure 5 [] (.alt 6 (.pure 7 [] (.alt 8 .done .stop)) .stop))))))) else bif Nat.beq id 27 then (.pure 0 [] (.pure 1 [4] (.alt 2 (.alt 3 (.pure 4 [] .done) .stop) .stop))) else bif Nat.beq id 29 then (.pure 0 [] (.pure 2 [] (.pure 3 [4] (.pure 4 [] (.alt 1 (.alt 5 (.alt 6 (.pure 7 [] .done) .stop) .stop) .stop))))) else bif Nat.beq id 31 then (.pure 0 [] (.pure 2 [] (.pure 3 [4] (.pure 4 [] (.pure 5 [] (.alt 1 (.alt 6 (.pure 7 [] (.alt 8 (.alt 9 (.pure 10 [] .done) .stop) .stop)) (.alt 8 (.alt 6 (.pure 7 [] (.alt 9 (.pure 10 [] .done) .stop)) .stop) .stop)) (.alt 6 (.pure 7 [] (.alt 1 (.alt 8 (.alt 9 (.pure 10 [] .done) .stop) .stop) .stop)) .stop))))))) else bif Nat.beq id 38 then (.pure 0 [] (.pure 1 [] (.pure 2 [] (.pure 3 [] (.pure 4 [] (.pure 6 [] (.pure 7 [] (.pure 12 [4] (.alt 5 (.alt 8 (.alt 9 (.alt 10 (.alt 11 (.alt 13 (.alt 14 (.pure 15 [] .done) .stop) .stop) .stop) .stop) .stop) .stop) (.alt 8 (.alt 5 (.alt 9 (.alt 10 (.alt 11 (.alt 13 (.alt 14 (.pure 15 [] .done) .stop) .stop) .stop) .stop) .stop) .stop) .stop)))))))))) else bif Nat.beq id 47 then (.pure 0 [] (.pure 1 [] (.pure 3 [4] (.pure 4 [] (.alt 2 (.alt 5 (.alt 6 (.pure 7 [] .done) .stop) .stop) .stop))))) else bif Nat.beq id 49 then (.pure 0 [] (.pure 1 [] (.pure 3 [] (.pure 4 [4] (.pure 5 [] (.pure 6 [4] (.pure 8 [] (.alt 2 (.alt 7 (.alt 9 (.pure 10 [] (.alt 11 (.alt 12 (.pure 13 [] .done) .stop) .stop)) .stop) .stop) (.alt 7 (.alt 2 (.alt 9 (.pure 10 [] (.alt 11 (.alt 12 (.pure 13 [] .done) .stop) .stop)) .stop) .stop) .stop))))))))) else bif Nat.beq id 55 then (.pure 0 [] (.pure 2 [] (.pure 3 [] (.alt 1 (.alt 4 (.pure 5 [] (.alt 6 (.alt 7 (.pure 8 [] .done) .stop) .stop)) (.alt 6 (.alt 4 (.pure 5 [] (.alt 7 (.pure 8 [] .done) .stop)) .stop) .stop)) (.alt 4 (.pure 5 [] (.alt 1 (.alt 6 (.alt 7 (.pure 8 [] .done) .stop) .stop) .stop)) .stop))))) else bif Nat.beq id 61 then (.pure 0 [] (.pure 1 [4] (.alt 2 (.alt 3 (.pure 4 [] .done) .stop) .stop))) else bif Nat.beq id 65 then (.pure 0 [] (.pure 1 [4] (.alt 2 (.alt 3 (.pure 4 [] .done) .stop) .stop))) else bif Nat.beq id 66 then (.pure 0 [] (.pure 1 [] (.pure 3 [4] (.alt 2 (.alt 4 (.alt 5 (.pure 6 [] .done) .stop) .stop) .stop)))) else .done
theorem d51 : drawsB D51 (Try.f51.body.getD .skip) = true := by kernel_rfl
theorem en51 : Enters Try.prog 51 := enters_of Try.func51 (by kernel_rfl) (by kernel_rfl)
theorem go51 {args : List Value} (hlen : Nat.ble args.length 276 = true) {w : World} {R : Ending → World → Prop} (C : Ctx) (hR : C.R w) (h : vc Try.prog tab 276 D51 (Try.f51.body.getD .skip) C ⟨startS args, noBox⟩ (RetK tab Try.f51 R) (bodyE tab Try.f51 R)) : Calls Try.prog 51 args.toArray w R :=
  calls_vc tab_ok mixed 276 Try.func51 (by kernel_rfl) (by kernel_rfl) d51 hlen C hR h
def D53 (id : Nat) : Plan := .done
theorem d53 : drawsB D53 (Try.f53.body.getD .skip) = true := by kernel_rfl
theorem en53 : Enters Try.prog 53 := enters_of Try.func53 (by kernel_rfl) (by kernel_rfl)
theorem go53 {args : List Value} (hlen : Nat.ble args.length 26 = true) {w : World} {R : Ending → World → Prop} (C : Ctx) (hR : C.R w) (h : vc Try.prog tab 26 D53 (Try.f53.body.getD .skip) C ⟨startS args, noBox⟩ (RetK tab Try.f53 R) (bodyE tab Try.f53 R)) : Calls Try.prog 53 args.toArray w R :=
  calls_vc tab_ok mixed 26 Try.func53 (by kernel_rfl) (by kernel_rfl) d53 hlen C hR h
def D54 (id : Nat) : Plan := bif Nat.beq id 1 then (.pure 1 [] (.pure 2 [] (.pure 4 [] (.pure 5 [] (.alt 0 (.alt 3 (.alt 6 (.alt 7 (.pure 8 [] .done) .stop) .stop) (.alt 6 (.alt 3 (.alt 7 (.pure 8 [] .done) .stop) .stop) .stop)) (.alt 6 (.alt 0 (.alt 3 (.alt 7 (.pure 8 [] .done) .stop) .stop) .stop) .stop)))))) else .done
theorem d54 : drawsB D54 (Try.f54.body.getD .skip) = true := by kernel_rfl
theorem en54 : Enters Try.prog 54 := enters_of Try.func54 (by kernel_rfl) (by kernel_rfl)
theorem go54 {args : List Value} (hlen : Nat.ble args.length 11 = true) {w : World} {R : Ending → World → Prop} (C : Ctx) (hR : C.R w) (h : vc Try.prog tab 11 D54 (Try.f54.body.getD .skip) C ⟨startS args, noBox⟩ (RetK tab Try.f54 R) (bodyE tab Try.f54 R)) : Calls Try.prog 54 args.toArray w R :=
  calls_vc tab_ok mixed 11 Try.func54 (by kernel_rfl) (by kernel_rfl) d54 hlen C hR h
def D56 (id : Nat) : Plan := .done
theorem d56 : drawsB D56 (Try.f56.body.getD .skip) = true := by kernel_rfl
theorem en56 : Enters Try.prog 56 := enters_of Try.func56 (by kernel_rfl) (by kernel_rfl)
theorem go56 {args : List Value} (hlen : Nat.ble args.length 9 = true) {w : World} {R : Ending → World → Prop} (C : Ctx) (hR : C.R w) (h : vc Try.prog tab 9 D56 (Try.f56.body.getD .skip) C ⟨startS args, noBox⟩ (RetK tab Try.f56 R) (bodyE tab Try.f56 R)) : Calls Try.prog 56 args.toArray w R :=
  calls_vc tab_ok mixed 9 Try.func56 (by kernel_rfl) (by kernel_rfl) d56 hlen C hR h
def D57 (id : Nat) : Plan := bif Nat.beq id 32 then (.pure 0 [] (.pure 1 [] (.pure 2 [] (.pure 3 [] (.pure 4 [] (.pure 5 [] (.pure 6 [] (.pure 7 [] (.pure 8 [] (.pure 9 [] (.pure 10 [] (.pure 11 [] (.pure 12 [] (.pure 13 [] (.pure 14 [] (.pure 15 [] (.pure 16 [] (.pure 17 [] (.pure 18 [] (.pure 19 [] (.pure 20 [] (.pure 21 [] (.pure 22 [] (.pure 23 [] (.pure 24 [] (.pure 25 [] (.pure 26 [] (.pure 27 [] (.pure 28 [] (.pure 29 [] (.pure 30 [] (.pure 31 [] (.pure 32 [] (.alt 33 (.pure 34 [] (.pure 35 [] .done)) .stop)))))))))))))))))))))))))))))))))) else .done
theorem d57 : drawsB D57 (Try.f57.body.getD .skip) = true := by kernel_rfl
theorem en57 : Enters Try.prog 57 := enters_of Try.func57 (by kernel_rfl) (by kernel_rfl)
theorem go57 {args : List Value} (hlen : Nat.ble args.length 140 = true) {w : World} {R : Ending → World → Prop} (C : Ctx) (hR : C.R w) (h : vc Try.prog tab 140 D57 (Try.f57.body.getD .skip) C ⟨startS args, noBox⟩ (RetK tab Try.f57 R) (bodyE tab Try.f57 R)) : Calls Try.prog 57 args.toArray w R :=
  calls_vc tab_ok mixed 140 Try.func57 (by kernel_rfl) (by kernel_rfl) d57 hlen C hR h
def D58 (id : Nat) : Plan := .done
theorem d58 : drawsB D58 (Try.f58.body.getD .skip) = true := by kernel_rfl
theorem en58 : Enters Try.prog 58 := enters_of Try.func58 (by kernel_rfl) (by kernel_rfl)
theorem go58 {args : List Value} (hlen : Nat.ble args.length 21 = true) {w : World} {R : Ending → World → Prop} (C : Ctx) (hR : C.R w) (h : vc Try.prog tab 21 D58 (Try.f58.body.getD .skip) C ⟨startS args, noBox⟩ (RetK tab Try.f58 R) (bodyE tab Try.f58 R)) : Calls Try.prog 58 args.toArray w R :=
  calls_vc tab_ok mixed 21 Try.func58 (by kernel_rfl) (by kernel_rfl) d58 hlen C hR h
def D59 (id : Nat) : Plan := .done
theorem d59 : drawsB D59 (Try.f59.body.getD .skip) = true := by kernel_rfl
theorem en59 : Enters Try.prog 59 := enters_of Try.func59 (by kernel_rfl) (by kernel_rfl)
theorem go59 {args : List Value} (hlen : Nat.ble args.length 29 = true) {w : World} {R : Ending → World → Prop} (C : Ctx) (hR : C.R w) (h : vc Try.prog tab 29 D59 (Try.f59.body.getD .skip) C ⟨startS args, noBox⟩ (RetK tab Try.f59 R) (bodyE tab Try.f59 R)) : Calls Try.prog 59 args.toArray w R :=
  calls_vc tab_ok mixed 29 Try.func59 (by kernel_rfl) (by kernel_rfl) d59 hlen C hR h
def D60 (id : Nat) : Plan := .done
theorem d60 : drawsB D60 (Try.f60.body.getD .skip) = true := by kernel_rfl
theorem en60 : Enters Try.prog 60 := enters_of Try.func60 (by kernel_rfl) (by kernel_rfl)
theorem go60 {args : List Value} (hlen : Nat.ble args.length 43 = true) {w : World} {R : Ending → World → Prop} (C : Ctx) (hR : C.R w) (h : vc Try.prog tab 43 D60 (Try.f60.body.getD .skip) C ⟨startS args, noBox⟩ (RetK tab Try.f60 R) (bodyE tab Try.f60 R)) : Calls Try.prog 60 args.toArray w R :=
  calls_vc tab_ok mixed 43 Try.func60 (by kernel_rfl) (by kernel_rfl) d60 hlen C hR h
def D61 (id : Nat) : Plan := .done
theorem d61 : drawsB D61 (Try.f61.body.getD .skip) = true := by kernel_rfl
theorem en61 : Enters Try.prog 61 := enters_of Try.func61 (by kernel_rfl) (by kernel_rfl)
theorem go61 {args : List Value} (hlen : Nat.ble args.length 11 = true) {w : World} {R : Ending → World → Prop} (C : Ctx) (hR : C.R w) (h : vc Try.prog tab 11 D61 (Try.f61.body.getD .skip) C ⟨startS args, noBox⟩ (RetK tab Try.f61 R) (bodyE tab Try.f61 R)) : Calls Try.prog 61 args.toArray w R :=
  calls_vc tab_ok mixed 11 Try.func61 (by kernel_rfl) (by kernel_rfl) d61 hlen C hR h
def D66 (id : Nat) : Plan := .done
theorem d66 : drawsB D66 (Try.f66.body.getD .skip) = true := by kernel_rfl
theorem en66 : Enters Try.prog 66 := enters_of Try.func66 (by kernel_rfl) (by kernel_rfl)
theorem go66 {args : List Value} (hlen : Nat.ble args.length 11 = true) {w : World} {R : Ending → World → Prop} (C : Ctx) (hR : C.R w) (h : vc Try.prog tab 11 D66 (Try.f66.body.getD .skip) C ⟨startS args, noBox⟩ (RetK tab Try.f66 R) (bodyE tab Try.f66 R)) : Calls Try.prog 66 args.toArray w R :=
  calls_vc tab_ok mixed 11 Try.func66 (by kernel_rfl) (by kernel_rfl) d66 hlen C hR h
def D67 (id : Nat) : Plan := .done
theorem d67 : drawsB D67 (Try.f67.body.getD .skip) = true := by kernel_rfl
theorem en67 : Enters Try.prog 67 := enters_of Try.func67 (by kernel_rfl) (by kernel_rfl)
theorem go67 {args : List Value} (hlen : Nat.ble args.length 52 = true) {w : World} {R : Ending → World → Prop} (C : Ctx) (hR : C.R w) (h : vc Try.prog tab 52 D67 (Try.f67.body.getD .skip) C ⟨startS args, noBox⟩ (RetK tab Try.f67 R) (bodyE tab Try.f67 R)) : Calls Try.prog 67 args.toArray w R :=
  calls_vc tab_ok mixed 52 Try.func67 (by kernel_rfl) (by kernel_rfl) d67 hlen C hR h
def D68 (id : Nat) : Plan := .done
theorem d68 : drawsB D68 (Try.f68.body.getD .skip) = true := by kernel_rfl
theorem en68 : Enters Try.prog 68 := enters_of Try.func68 (by kernel_rfl) (by kernel_rfl)
theorem go68 {args : List Value} (hlen : Nat.ble args.length 22 = true) {w : World} {R : Ending → World → Prop} (C : Ctx) (hR : C.R w) (h : vc Try.prog tab 22 D68 (Try.f68.body.getD .skip) C ⟨startS args, noBox⟩ (RetK tab Try.f68 R) (bodyE tab Try.f68 R)) : Calls Try.prog 68 args.toArray w R :=
  calls_vc tab_ok mixed 22 Try.func68 (by kernel_rfl) (by kernel_rfl) d68 hlen C hR h
def D36 (id : Nat) : Plan := .done
theorem d36 : drawsB D36 (Try.f36.body.getD .skip) = true := by kernel_rfl
theorem en36 : Enters Try.prog 36 := enters_of Try.func36 (by kernel_rfl) (by kernel_rfl)
theorem go36 {args : List Value} (hlen : Nat.ble args.length 5 = true) {w : World} {R : Ending → World → Prop} (C : Ctx) (hR : C.R w) (h : vc Try.prog tab 5 D36 (Try.f36.body.getD .skip) C ⟨startS args, noBox⟩ (RetK tab Try.f36 R) (bodyE tab Try.f36 R)) : Calls Try.prog 36 args.toArray w R :=
  calls_vc tab_ok mixed 5 Try.func36 (by kernel_rfl) (by kernel_rfl) d36 hlen C hR h
def D62 (id : Nat) : Plan := .done
theorem d62 : drawsB D62 (Try.f62.body.getD .skip) = true := by kernel_rfl
theorem en62 : Enters Try.prog 62 := enters_of Try.func62 (by kernel_rfl) (by kernel_rfl)
theorem go62 {args : List Value} (hlen : Nat.ble args.length 14 = true) {w : World} {R : Ending → World → Prop} (C : Ctx) (hR : C.R w) (h : vc Try.prog tab 14 D62 (Try.f62.body.getD .skip) C ⟨startS args, noBox⟩ (RetK tab Try.f62 R) (bodyE tab Try.f62 R)) : Calls Try.prog 62 args.toArray w R :=
  calls_vc tab_ok mixed 14 Try.func62 (by kernel_rfl) (by kernel_rfl) d62 hlen C hR h
def D63 (id : Nat) : Plan := bif Nat.beq id 10 then (.pure 0 [] (.pure 1 [] (.pure 2 [4] (.pure 3 [] (.pure 4 [] (.alt 5 (.alt 6 (.pure 7 [] (.pure 8 [] .done)) .stop) (.alt 6 (.alt 5 (.pure 7 [] (.pure 8 [] .done)) .stop) .stop))))))) else bif Nat.beq id 20 then (.pure 0 [] (.pure 1 [] (.pure 2 [] (.pure 3 [] (.pure 5 [] (.pure 6 [] (.alt 4 (.alt 7 (.pure 8 [] (.alt 9 (.pure 10 [] (.pure 11 [] .done)) .stop)) .stop) .stop))))))) else bif Nat.beq id 22 then (.pure 0 [] (.pure 1 [] (.pure 3 [] (.pure 4 [] (.pure 6 [] (.pure 7 [] (.alt 2 (.alt 5 (.alt 8 (.alt 9 (.pure 10 [] (.alt 11 (.pure 12 [] (.pure 13 [] .done)) .stop)) .stop) .stop) (.alt 8 (.alt 5 (.alt 9 (.pure 10 [] (.alt 11 (.pure 12 [] (.pure 13 [] .done)) .stop)) .stop) .stop) .stop)) (.alt 8 (.alt 2 (.alt 5 (.alt 9 (.pure 10 [] (.alt 11 (.pure 12 [] (.pure 13 [] .done)) .stop)) .stop) .stop) .stop) .stop)))))))) else bif Nat.beq id 25 then (.pure 0 [] (.pure 2 [] (.pure 3 [4] (.pure 4 [] (.alt 1 (.alt 5 (.alt 6 (.pure 7 [] (.pure 8 [] .done)) .stop) (.alt 6 (.alt 5 (.pure 7 [] (.pure 8 [] .done)) .stop) .stop)) (.alt 5 (.alt 1 (.alt 6 (.pure 7 [] (.pure 8 [] .done)) .stop) .stop) .stop)))))) else .done
theorem d63 : drawsB D63 (Try.f63.body.getD .skip) = true := by kernel_rfl
theorem en63 : Enters Try.prog 63 := enters_of Try.func63 (by kernel_rfl) (by kernel_rfl)
theorem go63 {args : List Value} (hlen : Nat.ble args.length 95 = true) {w : World} {R : Ending → World → Prop} (C : Ctx) (hR : C.R w) (h : vc Try.prog tab 95 D63 (Try.f63.body.getD .skip) C ⟨startS args, noBox⟩ (RetK tab Try.f63 R) (bodyE tab Try.f63 R)) : Calls Try.prog 63 args.toArray w R :=
  calls_vc tab_ok mixed 95 Try.func63 (by kernel_rfl) (by kernel_rfl) d63 hlen C hR h
def D69 (id : Nat) : Plan := .done
theorem d69 : drawsB D69 (Try.f69.body.getD .skip) = true := by kernel_rfl
theorem en69 : Enters Try.prog 69 := enters_of Try.func69 (by kernel_rfl) (by kernel_rfl)
theorem go69 {args : List Value} (hlen : Nat.ble args.length 21 = true) {w : World} {R : Ending → World → Prop} (C : Ctx) (hR : C.R w) (h : vc Try.prog tab 21 D69 (Try.f69.body.getD .skip) C ⟨startS args, noBox⟩ (RetK tab Try.f69 R) (bodyE tab Try.f69 R)) : Calls Try.prog 69 args.toArray w R :=
  calls_vc tab_ok mixed 21 Try.func69 (by kernel_rfl) (by kernel_rfl) d69 hlen C hR h
def D70 (id : Nat) : Plan := bif Nat.beq id 10 then (.pure 0 [] (.pure 1 [] (.pure 2 [] (.pure 3 [] (.pure 4 [] (.pure 5 [] (.alt 6 (.alt 7 (.alt 8 (.pure 9 [] (.alt 10 .done .stop)) .stop) .stop) .stop))))))) else bif Nat.beq id 11 then (.pure 0 [] (.pure 1 [] (.pure 2 [] (.pure 3 [] (.pure 4 [] (.pure 5 [] (.alt 6 (.alt 7 (.alt 8 (.pure 9 [] (.alt 10 .done .stop)) .stop) .stop) .stop))))))) else .done
theorem d70 : drawsB D70 (Try.f70.body.getD .skip) = true := by kernel_rfl
theorem en70 : Enters Try.prog 70 := enters_of Try.func70 (by kernel_rfl) (by kernel_rfl)
theorem go70 {args : List Value} (hlen : Nat.ble args.length 78 = true) {w : World} {R : Ending → World → Prop} (C : Ctx) (hR : C.R w) (h : vc Try.prog tab 78 D70 (Try.f70.body.getD .skip) C ⟨startS args, noBox⟩ (RetK tab Try.f70 R) (bodyE tab Try.f70 R)) : Calls Try.prog 70 args.toArray w R :=
  calls_vc tab_ok mixed 78 Try.func70 (by kernel_rfl) (by kernel_rfl) d70 hlen C hR h
def D71 (id : Nat) : Plan := bif Nat.beq id 7 then (.pure 0 [] (.pure 1 [] (.pure 2 [] (.pure 3 [] (.pure 4 [] (.pure 5 [] (.alt 6 (.alt 7 (.alt 8 (.pure 9 [] (.alt 10 .done .stop)) .stop) .stop) .stop))))))) else bif Nat.beq id 8 then (.pure 0 [] (.pure 1 [] (.pure 2 [] (.pure 3 [] (.pure 4 [] (.pure 5 [] (.alt 6 (.alt 7 (.alt 8 (.pure 9 [] (.alt 10 .done .stop)) .stop) .stop) .stop))))))) else .done
theorem d71 : drawsB D71 (Try.f71.body.getD .skip) = true := by kernel_rfl
theorem en71 : Enters Try.prog 71 := enters_of Try.func71 (by kernel_rfl) (by kernel_rfl)
theorem go71 {args : List Value} (hlen : Nat.ble args.length 44 = true) {w : World} {R : Ending → World → Prop} (C : Ctx) (hR : C.R w) (h : vc Try.prog tab 44 D71 (Try.f71.body.getD .skip) C ⟨startS args, noBox⟩ (RetK tab Try.f71 R) (bodyE tab Try.f71 R)) : Calls Try.prog 71 args.toArray w R :=
  calls_vc tab_ok mixed 44 Try.func71 (by kernel_rfl) (by kernel_rfl) d71 hlen C hR h
def D27 (id : Nat) : Plan := bif Nat.beq id 8 then (.pure 0 [] (.pure 1 [] (.pure 2 [] (.alt 3 (.alt 4 (.alt 5 (.pure 6 [] (.pure 7 [] (.alt 8 .done .stop))) .stop) .stop) .stop)))) else bif Nat.beq id 12 then (.pure 0 [] (.pure 1 [] (.pure 2 [] (.alt 3 (.alt 4 (.alt 5 (.pure 6 [] (.pure 7 [] (.alt 8 .done .stop))) .stop) .stop) .stop)))) else bif Nat.beq id 16 then (.pure 0 [] (.pure 1 [] (.pure 2 [] (.alt 3 (.alt 4 (.alt 5 (.pure 6 [] (.pure 7 [] (.alt 8 .done .stop))) .stop) .stop) .stop)))) else .done
theorem d27 : drawsB D27 (Try.f27.body.getD .skip) = true := by kernel_rfl
theorem en27 : Enters Try.prog 27 := enters_of Try.func27 (by kernel_rfl) (by kernel_rfl)
theorem go27 {args : List Value} (hlen : Nat.ble args.length 85 = true) {w : World} {R : Ending → World → Prop} (C : Ctx) (hR : C.R w) (h : vc Try.prog tab 85 D27 (Try.f27.body.getD .skip) C ⟨startS args, noBox⟩ (RetK tab Try.f27 R) (bodyE tab Try.f27 R)) : Calls Try.prog 27 args.toArray w R :=
  calls_vc tab_ok mixed 85 Try.func27 (by kernel_rfl) (by kernel_rfl) d27 hlen C hR h
def D37 (id : Nat) : Plan := bif Nat.beq id 30 then (.pure 0 [] (.pure 1 [] (.pure 2 [12] (.pure 3 [] (.alt 4 (.pure 5 [] (.pure 6 [] .done)) .stop))))) else .done
theorem d37 : drawsB D37 (Try.f37.body.getD .skip) = true := by kernel_rfl
theorem en37 : Enters Try.prog 37 := enters_of Try.func37 (by kernel_rfl) (by kernel_rfl)
theorem go37 {args : List Value} (hlen : Nat.ble args.length 156 = true) {w : World} {R : Ending → World → Prop} (C : Ctx) (hR : C.R w) (h : vc Try.prog tab 156 D37 (Try.f37.body.getD .skip) C ⟨startS args, noBox⟩ (RetK tab Try.f37 R) (bodyE tab Try.f37 R)) : Calls Try.prog 37 args.toArray w R :=
  calls_vc tab_ok mixed 156 Try.func37 (by kernel_rfl) (by kernel_rfl) d37 hlen C hR h
def D45 (id : Nat) : Plan := .done
theorem d45 : drawsB D45 (Try.f45.body.getD .skip) = true := by kernel_rfl
theorem en45 : Enters Try.prog 45 := enters_of Try.func45 (by kernel_rfl) (by kernel_rfl)
theorem go45 {args : List Value} (hlen : Nat.ble args.length 75 = true) {w : World} {R : Ending → World → Prop} (C : Ctx) (hR : C.R w) (h : vc Try.prog tab 75 D45 (Try.f45.body.getD .skip) C ⟨startS args, noBox⟩ (RetK tab Try.f45 R) (bodyE tab Try.f45 R)) : Calls Try.prog 45 args.toArray w R :=
  calls_vc tab_ok mixed 75 Try.func45 (by kernel_rfl) (by kernel_rfl) d45 hlen C hR h
def D46 (id : Nat) : Plan := bif Nat.beq id 11 then (.pure 0 [] (.pure 1 [] (.pure 2 [] (.pure 3 [] (.pure 4 [] (.pure 5 [] (.pure 6 [] (.pure 8 [] (.alt 7 (.alt 9 (.pure 10 [] (.pure 11 [] (.pure 12 [] (.pure 13 [] (.alt 14 (.alt 15 (.pure 16 [] (.pure 17 [] .done)) .stop) .stop))))) (.alt 14 (.alt 9 (.pure 10 [] (.pure 11 [] (.pure 12 [] (.pure 13 [] (.alt 15 (.pure 16 [] (.pure 17 [] .done)) .stop))))) .stop) .stop)) (.alt 14 (.alt 7 (.alt 9 (.pure 10 [] (.pure 11 [] (.pure 12 [] (.pure 13 [] (.alt 15 (.pure 16 [] (.pure 17 [] .done)) .stop))))) .stop) .stop) .stop)))))))))) else .done
theorem d46 : drawsB D46 (Try.f46.body.getD .skip) = true := by kernel_rfl
theorem en46 : Enters Try.prog 46 := enters_of Try.func46 (by kernel_rfl) (by kernel_rfl)
theorem go46 {args : List Value} (hlen : Nat.ble args.length 87 = true) {w : World} {R : Ending → World → Prop} (C : Ctx) (hR : C.R w) (h : vc Try.prog tab 87 D46 (Try.f46.body.getD .skip) C ⟨startS args, noBox⟩ (RetK tab Try.f46 R) (bodyE tab Try.f46 R)) : Calls Try.prog 46 args.toArray w R :=
  calls_vc tab_ok mixed 87 Try.func46 (by kernel_rfl) (by kernel_rfl) d46 hlen C hR h
def D47 (id : Nat) : Plan := .done
theorem d47 : drawsB D47 (Try.f47.body.getD .skip) = true := by kernel_rfl
theorem en47 : Enters Try.prog 47 := enters_of Try.func47 (by kernel_rfl) (by kernel_rfl)
theorem go47 {args : List Value} (hlen : Nat.ble args.length 42 = true) {w : World} {R : Ending → World → Prop} (C : Ctx) (hR : C.R w) (h : vc Try.prog tab 42 D47 (Try.f47.body.getD .skip) C ⟨startS args, noBox⟩ (RetK tab Try.f47 R) (bodyE tab Try.f47 R)) : Calls Try.prog 47 args.toArray w R :=
  calls_vc tab_ok mixed 42 Try.func47 (by kernel_rfl) (by kernel_rfl) d47 hlen C hR h
def D52 (id : Nat) : Plan := bif Nat.beq id 8 then (.pure 0 [] (.pure 1 [] (.pure 2 [] (.pure 3 [] (.pure 5 [] (.pure 6 [] (.alt 4 (.alt 7 (.pure 8 [] (.pure 9 [] (.pure 10 [] (.pure 11 [] (.alt 12 (.alt 13 (.pure 14 [] (.pure 15 [] .done)) .stop) .stop))))) (.alt 12 (.alt 7 (.pure 8 [] (.pure 9 [] (.pure 10 [] (.pure 11 [] (.alt 13 (.pure 14 [] (.pure 15 [] .done)) .stop))))) .stop) .stop)) (.alt 12 (.alt 4 (.alt 7 (.pure 8 [] (.pure 9 [] (.pure 10 [] (.pure 11 [] (.alt 13 (.pure 14 [] (.pure 15 [] .done)) .stop))))) .stop) .stop) .stop)))))))) else bif Nat.beq id 18 then (.pure 0 [] (.pure 1 [] (.pure 2 [] (.pure 4 [] (.pure 5 [] (.pure 6 [] (.pure 9 [] (.pure 10 [] (.pure 11 [] (.alt 3 (.alt 7 (.pure 8 [] (.alt 12 (.pure 13 [] (.pure 14 [] .done)) .stop)) .stop) .stop)))))))))) else bif Nat.beq id 20 then (.pure 0 [] (.pure 1 [4] (.alt 2 (.alt 3 .done .stop) .stop))) else .done
theorem d52 : drawsB D52 (Try.f52.body.getD .skip) = true := by kernel_rfl
theorem en52 : Enters Try.prog 52 := enters_of Try.func52 (by kernel_rfl) (by kernel_rfl)
theorem go52 {args : List Value} (hlen : Nat.ble args.length 89 = true) {w : World} {R : Ending → World → Prop} (C : Ctx) (hR : C.R w) (h : vc Try.prog tab 89 D52 (Try.f52.body.getD .skip) C ⟨startS args, noBox⟩ (RetK tab Try.f52 R) (bodyE tab Try.f52 R)) : Calls Try.prog 52 args.toArray w R :=
  calls_vc tab_ok mixed 89 Try.func52 (by kernel_rfl) (by kernel_rfl) d52 hlen C hR h
def D55 (id : Nat) : Plan := bif Nat.beq id 4 then (.pure 0 [] (.pure 1 [] (.pure 2 [] (.pure 4 [] (.pure 5 [] (.pure 6 [] (.alt 3 (.alt 7 (.pure 8 [] .done) .stop) (.alt 7 (.alt 3 (.pure 8 [] .done) .stop) .stop)))))))) else bif Nat.beq id 5 then (.pure 0 [] (.pure 1 [] (.pure 2 [] (.pure 4 [] (.pure 5 [] (.pure 6 [] (.alt 3 (.alt 7 (.pure 8 [] (.pure 9 [] .done)) .stop) (.alt 7 (.alt 3 (.pure 8 [] (.pure 9 [] .done)) .stop) .stop)))))))) else .done
theorem d55 : drawsB D55 (Try.f55.body.getD .skip) = true := by kernel_rfl
theorem en55 : Enters Try.prog 55 := enters_of Try.func55 (by kernel_rfl) (by kernel_rfl)
theorem go55 {args : List Value} (hlen : Nat.ble args.length 41 = true) {w : World} {R : Ending → World → Prop} (C : Ctx) (hR : C.R w) (h : vc Try.prog tab 41 D55 (Try.f55.body.getD .skip) C ⟨startS args, noBox⟩ (RetK tab Try.f55 R) (bodyE tab Try.f55 R)) : Calls Try.prog 55 args.toArray w R :=
  calls_vc tab_ok mixed 41 Try.func55 (by kernel_rfl) (by kernel_rfl) d55 hlen C hR h
def D64 (id : Nat) : Plan := .done
theorem d64 : drawsB D64 (Try.f64.body.getD .skip) = true := by kernel_rfl
theorem en64 : Enters Try.prog 64 := enters_of Try.func64 (by kernel_rfl) (by kernel_rfl)
theorem go64 {args : List Value} (hlen : Nat.ble args.length 16 = true) {w : World} {R : Ending → World → Prop} (C : Ctx) (hR : C.R w) (h : vc Try.prog tab 16 D64 (Try.f64.body.getD .skip) C ⟨startS args, noBox⟩ (RetK tab Try.f64 R) (bodyE tab Try.f64 R)) : Calls Try.prog 64 args.toArray w R :=
  calls_vc tab_ok mixed 16 Try.func64 (by kernel_rfl) (by kernel_rfl) d64 hlen C hR h
def D65 (id : Nat) : Plan := .done
theorem d65 : drawsB D65 (Try.f65.body.getD .skip) = true := by kernel_rfl
theorem en65 : Enters Try.prog 65 := enters_of Try.func65 (by kernel_rfl) (by kernel_rfl)
theorem go65 {args : List Value} (hlen : Nat.ble args.length 20 = true) {w : World} {R : Ending → World → Prop} (C : Ctx) (hR : C.R w) (h : vc Try.prog tab 20 D65 (Try.f65.body.getD .skip) C ⟨startS args, noBox⟩ (RetK tab Try.f65 R) (bodyE tab Try.f65 R)) : Calls Try.prog 65 args.toArray w R :=
  calls_vc tab_ok mixed 20 Try.func65 (by kernel_rfl) (by kernel_rfl) d65 hlen C hR h
end Go.Proofs.Ytahhihhfjimppaa
/- Conditions in a typed heap: elements of rows. -/
namespace Go.Proofs.Ytahhihhfjimppaa
open Go.RowKit
set_option linter.unusedSimpArgs false
set_option linter.unusedVariables false

/-- an element's place -/
def AtEl (G : Gh) (r : RT) (b off : Nat) : Prop := ∃ cap i, G b = some (r, cap) ∧ off = i * r.size ∧ i < cap
section
variable {z : Zp} {G G' G0 : Gh} {w0 w : World} {r : RT} {b off : Nat}
theorem AtEl.mono (h : AtEl G r b off) (hl : G.le G') : AtEl G' r b off := by
  obtain ⟨cap, i, h1, h2, h3⟩ := h
  exact ⟨cap, i, hl _ _ h1, h2, h3⟩
theorem AtEl.el (h : AtEl G r b off) (tw : TW z G w) : El2 z G r (fun j => w.cell? ⟨b, off + j, none⟩) := by
  obtain ⟨cap, i, h1, h2, h3⟩ := h
  subst h2
  exact tw.el b r cap h1 i h3
theorem Sl.elAt {A : Option Addr} {n c : Nat} (h : Sl G r A n c) {k : Nat} (hk : k < n) : ∃ b off, A = some ⟨b, off, none⟩ ∧ AtEl G r b (off + k * r.size) := by
  rcases h with ⟨_, rfl, _⟩ | ⟨b, o, cap, rfl, hb, h1, h2, _⟩
  · omega
  · exact ⟨b, o * r.size, rfl, cap, o + k, hb, by rw [Nat.add_mul], by omega⟩
theorem idx_T (r : RT) {A : Option Addr} {n c : Nat} {i : Int} {K : Value → Prop} (hs : Sl G r A n c) (k : Nat) (hi : i = k) (hk : k < n) (h : ∀ b off, AtEl G r b off → K (.pointer (some ⟨b, off, none⟩))) : IdxVC A n i r.size K := by
  obtain ⟨b, off, h1, h2⟩ := hs.elAt hk
  exact idx_ok h1 k hi hk (h _ _ h2)
/-- a number of a row of numbers -/
theorem ld_int (h : AtEl G .int b off) {t : TypeId} {K : Value → Ctx → Prop} (hk : ∀ n, K (.int .i64 n) (CtxT z G G0 w0)) (ht : t = 3 := by rfl) : SemVC Try.prog (CtxT z G G0 w0) (Instr.loadAt t (.pointer (some ⟨b, off, none⟩))) K := by
  subst ht
  exact load_int ti3_ok rfl (fun w tw => h.el tw) hk
/-- a field of an element that is a number -/
theorem ld_fld (h : AtEl G r b off) (j : Nat) (hj : ∀ f, El2 z G r f → ∃ n, f j = some (.int .i64 n)) {t : TypeId} {a : Addr} {K : Value → Ctx → Prop} (hk : ∀ n, K (.int .i64 n) (CtxT z G G0 w0)) (ht : t = 3 := by rfl) (ha : a = ⟨b, off + j, none⟩ := by rfl) : SemVC Try.prog (CtxT z G G0 w0) (Instr.loadAt t (.pointer (some a))) K := by
  subst ht ha
  exact load_int ti3_ok rfl (fun w tw => hj _ (h.el tw)) hk
/-- a row, as an element -/
theorem ld_ints (h : AtEl G .ints b off) {t : TypeId} {K : Value → Ctx → Prop} (hk : ∀ A n c, Sl G .int A n c → K (.slice A n c) (CtxT z G G0 w0)) (ht : t = 23 := by rfl) : SemVC Try.prog (CtxT z G G0 w0) (Instr.loadAt t (.pointer (some ⟨b, off, none⟩))) K := by
  subst ht
  refine load_cell ti23_ok rfl (fun v => ∃ A n c, v = .slice A n c ∧ Sl G .int A n c) (fun w hw => ?_) (fun v ⟨A, n, c, hv, hs⟩ => hv ▸ hk A n c hs)
  obtain ⟨A, n, c, h1, h2⟩ := h.el hw.1
  exact ⟨_, h1, A, n, c, rfl, h2⟩
/-- the values of a content in a row -/
theorem ld_vals (h : AtEl G .content b off) {t : TypeId} {a : Addr} {K : Value → Ctx → Prop} (hk : ∀ A n c, Sl G .int A n c → K (.slice A n c) (CtxT z G G0 w0)) (ht : t = 23 := by rfl) (ha : a = ⟨b, off + 2, none⟩ := by rfl) : SemVC Try.prog (CtxT z G G0 w0) (Instr.loadAt t (.pointer (some a))) K := by
  subst ht ha
  refine load_cell ti23_ok rfl (fun v => ∃ A n c, v = .slice A n c ∧ Sl G .int A n c) (fun w hw => ?_) (fun v ⟨A, n, c, hv, hs⟩ => hv ▸ hk A n c hs)
  obtain ⟨k, A, n, c, A', n', c', h1, h2, h3, h4, h5, _⟩ := h.el hw.1
  exact ⟨_, h3, A', n', c', rfl, h5⟩
/-- a content of a row -/
theorem ld_content (h : AtEl G .content b off) {t : TypeId} {K : Value → Ctx → Prop} (hk : ∀ k A n c A' n' c', CtT G k A n c A' n' c' → n' ≤ z.m → K (.agg #[.int .i64 k, .slice A n c, .slice A' n' c']) (CtxT z G G0 w0)) (ht : t = 94 := by rfl) : SemVC Try.prog (CtxT z G G0 w0) (Instr.loadAt t (.pointer (some ⟨b, off, none⟩))) K := by
  subst ht
  refine load_agg ti94_ok rfl (fun l => ∃ k A n c A' n' c', l = [.int .i64 k, .slice A n c, .slice A' n' c'] ∧ CtT G k A n c A' n' c' ∧ n' ≤ z.m) (fun w hw => ?_) (fun l ⟨k, A, n, c, A', n', c', hl, hc, hm⟩ => hl ▸ hk k A n c A' n' c' hc hm)
  obtain ⟨k, A, n, c, A', n', c', h1, h2, h3, h4, h5, h6, h7, h8⟩ := h.el hw.1
  refine ⟨_, rfl, fun j v hv => ?_, k, A, n, c, A', n', c', rfl, ⟨h4, h5, h6, h7⟩, h8⟩
  match j, hv with
  | 0, hv => cases hv; exact h1
  | 1, hv => cases hv; exact h2
  | 2, hv => cases hv; exact h3
/-- an element is stored -/
theorem sto_el (r : RT) (h : AtEl G r b off) {t : TypeId} {v : Value} (ht : t = r.id) {i : TyI} (hi : TyOk Try.prog r.id i) (hsz : i.size = r.size) (he : Els z G r 1 v.cells.toList) (h1 : ∀ u ∈ v.cells.toList, u.oneCell' = true) {K : Ctx → Prop} (hk : K (CtxT z G G0 w0)) : StoVC Try.prog (CtxT z G G0 w0) (Instr.storeAt t (.pointer (some ⟨b, off, none⟩)) v) K := by
  subst ht
  obtain ⟨cap, k, hb, rfl, hlt⟩ := h
  constructor
  intro w hw
  obtain ⟨cur, hc, hs⟩ := hw.1.row b r cap hb
  have hl := he.1
  rw [Nat.one_mul] at hl
  have hfit : k * r.size + v.cells.toList.length ≤ cur.size := by
    have : (k + 1) * r.size ≤ cap * r.size := Nat.mul_le_mul_right _ (by omega)
    rw [Nat.add_mul] at this
    omega
  have hst := run_storeCells_at Try.prog b (k * r.size) r.id v.cells.toList 0 cur w hc (by simpa using hfit) h1
  simp only [Nat.add_zero] at hst
  have tw' := hw.1.put_row hb hc hs (o := k) he (by omega)
  have ex : Ex G w G (w.setRow b (cur.toList.take (k * r.size) ++ v.cells.toList ++ cur.toList.drop (k * r.size + v.cells.toList.length)).toArray) := ⟨rfl, rfl, rfl, by simp, Gh.le_refl _, fun _ _ h => .inl h, fun q hq hn => setRow_other w b q _ (fun e => by rw [e, hb] at hn; cases hn)⟩
  obtain ⟨h6, h7⟩ := goesT hw tw' ex
  have hs' : v.cells.size = i.size := by rw [hsz]; simpa using hl
  refine ⟨_, _, ?_, h6, h7, hk⟩
  simp [Instr.storeAt, Instr.sureAddr, storeVar, hi.run_size, hs', hst]
theorem sto_int (h : AtEl G .int b off) {t : TypeId} {x : Int} {K : Ctx → Prop} (hk : K (CtxT z G G0 w0)) (ht : t = 3 := by rfl) : StoVC Try.prog (CtxT z G G0 w0) (Instr.storeAt t (.pointer (some ⟨b, off, none⟩)) (.int .i64 x)) K :=
  sto_el .int h ht ti3_ok rfl (els_is z G [x]) (by simp [Value.cells, Value.oneCell']) hk
theorem sto_content (h : AtEl G .content b off) {t : TypeId} {k : Int} {A A' : Option Addr} {n c n' c' : Nat} (hc : CtT G k A n c A' n' c') (hm : n' ≤ z.m) {K : Ctx → Prop} (hk : K (CtxT z G G0 w0)) (ht : t = 94 := by rfl) : StoVC Try.prog (CtxT z G G0 w0) (Instr.storeAt t (.pointer (some ⟨b, off, none⟩)) (.agg #[.int .i64 k, .slice A n c, .slice A' n' c'])) K :=
  sto_el .content h ht ti94_ok rfl (Els.one rfl ⟨k, A, n, c, A', n', c', rfl, rfl, rfl, hc.sk, hc.sv, hc.same, hc.le, hm⟩) (by simp [Value.cells, Value.oneCell']) hk
end
/-- nothing is turned -/
abbrev SameT (z : Zp) (G : Gh) (Φ : Value → Prop) : Zp → Gh → Value → Prop := fun z' G' v => z' = z ∧ G' = G ∧ Φ v
abbrev isB (v : Value) : Prop := ∃ b, v = .bool b
abbrev isI (v : Value) : Prop := ∃ n, v = .int .i64 n
/-- a call that turns nothing -/
theorem CallVC.same {P : Program} {z : Zp} {G G0 : Gh} {w0 : World} {f : FuncId} (args : List Value) {vs : Array Value} {K : Value → Ctx → Prop} (he : Enters P f) (Φ : Value → Prop) (hc : ∀ w, TW z G w → Calls P f args.toArray w (PostT z G w (SameT z G Φ))) (h : ∀ v, Φ v → K v (CtxT z G G0 w0)) (hvs : vs = args.toArray := by rfl) : CallVC P (CtxT z G G0 w0) f vs K :=
  CallVC.ofT args he (SameT z G Φ) (fun w tw _ => hc w tw) (fun z' G' v _ ⟨h1, h2, h3⟩ => by subst h1 h2; exact h v h3) hvs
end Go.Proofs.Ytahhihhfjimppaa
/- The document's vm, in a typed heap. -/
namespace Go.Proofs.Ytahhihhfjimppaa
open Go.RowKit
set_option linter.unusedSimpArgs false
set_option linter.unusedVariables false
set_option maxRecDepth 100000

theorem wnat (k : Nat) (h : k ≤ 1000000000) : IntKind.i64.wrap ((k : Int) + 1) = ((k + 1 : Nat) : Int) := by rw [IntKind.wrap_i64]; omega

theorem all_T (z : Zp) (G : Gh) (w : World) (tw : TW z G w) (A : Option Addr) (n c : Nat) (hs : Sl G .int A n c) (hn : n ≤ 1000000) :
    Calls Try.prog 49 #[.slice A n c] w (PostT z G w (SameT z G isB)) := by
  refine go49 (by rfl) (CtxT z G G w) (CtxT.start tw) ?_
  conv => whnf
  refine LoopVC.on (X := Nat) (fun k => [(0, .v (.slice A n c)), (3, .v (.int .i64 k))]) (fun _ => []) (fun _ => CtxT z G G w) (fun k => k ≤ n) (fun k => n - k) 0 (Nat.zero_le _) ⟨rfl, rfl, trivial⟩ trivial ?_
  intro k r hk
  conv => whnf
  refine splitB.intro (fun hc => ?_) (fun hc => ?_)
  · have hlt : k < n := by simpa using hc
    conv => whnf
    refine idx_T .int hs k rfl hlt ?_
    intro b off he
    conv => whnf
    refine ld_int he ?_
    intro x
    conv => whnf
    refine CallVC.ofN [.int .i64 x] en56 isB (fun w => ?_) ?_
    · exact (wis_any x w).mono fun e w' ⟨b, h1, h2⟩ => ⟨_, h1, h2, b, rfl⟩
    rintro v ⟨b, rfl⟩
    conv => whnf
    refine splitB.intro (fun hb => ?_) (fun hb => ?_)
    · conv => whnf
      intro w' hw'
      exact ⟨z, G, _, rfl, hw'.1, hw'.2, rfl, rfl, _, rfl⟩
    · conv => whnf
      exact rnd (k + 1) (by omega) (by omega) ⟨rfl, by show _ = _; rw [← wnat k (by omega)]; rfl, trivial⟩ trivial
  · conv => whnf
    intro w' hw'
    exact ⟨z, G, _, rfl, hw'.1, hw'.2, rfl, rfl, _, rfl⟩
end Go.Proofs.Ytahhihhfjimppaa
/- Contexts of memory that is only read; frames and codes. -/
namespace Go.Proofs.Ytahhihhfjimppaa
open Go.RowKit
set_option linter.unusedSimpArgs false
set_option linter.unusedVariables false
set_option maxRecDepth 100000

/-! ### ways through conditions -/
theorem splitB.dec {p : Prop} [Decidable p] {A B : Prop} (h1 : p → A) (h2 : ¬ p → B) : splitB (decide p) A B := by
  by_cases h : p
  · simpa [splitB, h] using h1 h
  · simpa [splitB, h] using h2 h
theorem splitB.eq {a b : Int} {A B : Prop} (h1 : a = b → A) (h2 : a ≠ b → B) : splitB (a == b) A B := by
  by_cases h : a = b
  · subst h; simpa [splitB] using h1 rfl
  · have : (a == b) = false := by simpa using h
    rw [this]; exact h2 h
theorem splitB.ne {a b : Int} {A B : Prop} (h1 : a ≠ b → A) (h2 : a = b → B) : splitB (a != b) A B := by
  by_cases h : a = b
  · subst h
    have : (a != a) = false := by simp
    rw [this]; exact h2 rfl
  · have : (a != b) = true := by simpa using h
    rw [this]; exact h1 h
theorem splitB.not {b : Bool} {A B : Prop} (h1 : b = false → A) (h2 : b = true → B) : splitB (!b) A B := by
  cases b with
  | true => exact h2 rfl
  | false => exact h1 rfl

/-! ### memory that is only read -/
def CtxB (w0 : World) : Ctx where
  dom k := k < w0.heap.size
  R w := Below w0.heap.size w0 w
  lt w h k hk := Nat.lt_of_lt_of_le hk h.size
  stable w w' h hs hz h1 h2 h3 := ⟨h1.trans h.os, h2.trans h.tape, h3.trans h.output, Nat.le_trans h.size hz, fun k hk => (hs k hk).trans (h.block k hk)⟩
theorem CtxB.start (w : World) : (CtxB w).R w := Below.refl _ _
section
variable {P : Program} {w0 : World} {z : Zp} {G : Gh}
theorem below_cell {w w' : World} {B : Nat} (h : Below B w w') {a : Addr} (ha : a.block < B) : w'.cell? a = w.cell? a := World.cell?_of_block (h.block _ ha)
theorem ldB {t : TypeId} {i : TyI} (hi : TyOk P t i) (hag : i.d.agg = false) {b off : Nat} {v : Value} (hc : w0.cell? ⟨b, off, none⟩ = some v) (hb : b < w0.heap.size) {K : Value → Ctx → Prop} (h : K v (CtxB w0)) {a : Addr} (ha : a = ⟨b, off, none⟩ := by rfl) : SemVC P (CtxB w0) (Instr.loadAt t (.pointer (some a))) K := by
  subst ha
  exact load_cell hi hag (fun u => u = v) (fun w hw => ⟨v, (below_cell hw hb).trans hc, rfl⟩) (fun u hu => hu ▸ h)
theorem ldBs {t : TypeId} {i : TyI} (hi : TyOk P t i) (hag : i.d.agg = true) {b off : Nat} (l : List Value) (hl : l.length = i.size) (hc : ∀ j v, l[j]? = some v → w0.cell? ⟨b, off + j, none⟩ = some v) (hb : b < w0.heap.size) {K : Value → Ctx → Prop} (h : K (.agg l.toArray) (CtxB w0)) : SemVC P (CtxB w0) (Instr.loadAt t (.pointer (some ⟨b, off, none⟩))) K :=
  load_agg hi hag (fun u => u = l) (fun w hw => ⟨l, hl, fun j v hv => (below_cell hw hb).trans (hc j v hv), rfl⟩) (fun u hu => hu ▸ h)
/-- what comes back of a function that only reads -/
def PostB (w : World) (Φ : Value → Prop) (e : Ending) (w' : World) : Prop := ∃ v, e = .returned v ∧ Below w.heap.size w w' ∧ Φ v
theorem CallVC.ofB {f : FuncId} (args : List Value) {vs : Array Value} {K : Value → Ctx → Prop} (he : Enters P f) (Φ : Value → Prop) (hc : ∀ w, Below w0.heap.size w0 w → Calls P f args.toArray w (PostB w Φ)) (h : ∀ v, Φ v → K v (CtxB w0)) (hvs : vs = args.toArray := by rfl) : CallVC P (CtxB w0) f vs K := by
  constructor
  subst hvs
  refine ⟨he, fun w hw => (hc w hw).mono fun e w' ⟨v, h1, h2, h3⟩ => ?_⟩
  have hw : Below w0.heap.size w0 w := hw
  exact ⟨v, _, h1, ⟨h2.size, fun k hk _ => h2.block k hk, fun k hk => .inl hk⟩, hw.trans (h2.mono hw.size), h v h3⟩
/-- such a call in a typed heap -/
theorem CallVC.readT {G0 : Gh} {f : FuncId} (args : List Value) {vs : Array Value} {K : Value → Ctx → Prop} (he : Enters P f) (Φ : Value → Prop) (hc : ∀ w, TW z G w → Ex G0 w0 G w → Calls P f args.toArray w (PostB w Φ)) (h : ∀ v, Φ v → K v (CtxT z G G0 w0)) (hvs : vs = args.toArray := by rfl) : CallVC P (CtxT z G G0 w0) f vs K :=
  CallVC.ofT args he (fun z' G' v => z' = z ∧ G' = G ∧ Φ v) (fun w tw ex => (hc w tw ex).mono fun e w' ⟨v, h1, h2, h3⟩ => ⟨z, G, v, h1, tw.below h2, Ex.of_below h2, rfl, rfl, h3⟩) (fun z' G' v _ ⟨h1, h2, h3⟩ => by subst h1 h2; exact h v h3) hvs
/-- what was read stays, in some context, as long as nothing is turned -/
def Ctx.snap (C : Ctx) (w1 : World) : Ctx where
  dom := C.dom
  R w := C.R w ∧ ∀ k, C.dom k → w.heap[k]? = w1.heap[k]?
  lt w h k hk := C.lt w h.1 k hk
  stable w w' h hs hz h1 h2 h3 := ⟨C.stable w w' h.1 hs hz h1 h2 h3, fun k hk => (hs k hk).trans (h.2 k hk)⟩
theorem CallVC.unsnap {C : Ctx} {w1 : World} {f : FuncId} {vs : Array Value} {K : Value → Ctx → Prop} (h : CallVC P C f vs K) : CallVC P (C.snap w1) f vs K := by
  constructor; replace h := h.out
  exact ⟨h.1, fun w hw => (h.2 w hw.1).mono fun e w' ⟨v, C', h1, h2, h3, h4⟩ => ⟨v, C', h1, ⟨h2.size, h2.block, h2.new⟩, h3, h4⟩⟩
theorem SemVC.unsnap {C : Ctx} {w1 : World} {m : Sem Value} {K : Value → Ctx → Prop} (h : SemVC P C m K) : SemVC P (C.snap w1) m K := by
  constructor; replace h := h.out
  intro w hw
  obtain ⟨v, w', C', h1, h2, h3, h4⟩ := h w hw.1
  exact ⟨v, w', C', h1, ⟨h2.size, h2.block, h2.new⟩, h3, h4⟩
end

/-! ### frames -/
structure Fm where
  task : Int
  Ap : Option Addr
  np : Nat
  cp : Nat
  fn : Int
  pc : Int
  Al : Option Addr
  nl : Nat
  cl : Nat
  As : Option Addr
  ns : Nat
  cs : Nat
  Ak : Option Addr
  nk : Nat
  ck : Nat
  many : Int
  spent : Int
  fail : Bool
def Fm.val (f : Fm) : Value := .agg #[.int .i64 f.task, .slice f.Ap f.np f.cp, .int .i64 f.fn, .int .i64 f.pc, .slice f.Al f.nl f.cl, .slice f.As f.ns f.cs, .slice f.Ak f.nk f.ck, .int .i64 f.many, .int .i64 f.spent, .bool f.fail]
def Fm.zero : Fm := ⟨0, none, 0, 0, 0, 0, none, 0, 0, none, 0, 0, none, 0, 0, 0, 0, false⟩
structure Fm.Ok (f : Fm) (G : Gh) : Prop where
  p : Sl G .int f.Ap f.np f.cp
  l : Sl G .int f.Al f.nl f.cl
  s : Sl G .int f.As f.ns f.cs
  k : Sl G .kid f.Ak f.nk f.ck
theorem Fm.Ok.mono {f : Fm} {G G' : Gh} (h : f.Ok G) (hl : G.le G') : f.Ok G' := ⟨h.p.mono hl, h.l.mono hl, h.s.mono hl, h.k.mono hl⟩
/-! ### codes -/
structure Cd where
  Af : Option Addr
  nf : Nat
  cf : Nat
  Ac : Option Addr
  nc : Nat
  cc : Nat
  maps : Int
  stacks : Int
  chans : Int
  main : Int
def Cd.val (c : Cd) : Value := .agg #[.slice c.Af c.nf c.cf, .slice c.Ac c.nc c.cc, .int .i64 c.maps, .int .i64 c.stacks, .int .i64 c.chans, .int .i64 c.main]
structure Bd where
  args : Int
  locals : Int
  A : Option Addr
  n : Nat
  c : Nat
def Bd.val (b : Bd) : Value := .agg #[.int .i64 b.args, .int .i64 b.locals, .slice b.A b.n b.c]
/-- the instructions lie in memory that no row of G is -/
def Bd.Is (b : Bd) (G : Gh) (w : World) : Prop := ∀ j, j < b.n → ∃ g o, b.A = some ⟨g, o, none⟩ ∧ g < w.heap.size ∧ G g = none ∧ ∃ x0 x1 x2 x3, ∀ i v, [Value.int .i64 x0, .int .i64 x1, .int .i64 x2, .int .i64 x3][i]? = some v → w.cell? ⟨g, o + j * 4 + i, none⟩ = some v
structure Cd.Is (c : Cd) (B : Nat → Bd) (G : Gh) (w : World) : Prop where
  f : ∀ k, k < c.nf → ∃ g o, c.Af = some ⟨g, o, none⟩ ∧ g < w.heap.size ∧ G g = none ∧ ∀ i v, [Value.int .i64 (B k).args, .int .i64 (B k).locals, .slice (B k).A (B k).n (B k).c][i]? = some v → w.cell? ⟨g, o + k * 3 + i, none⟩ = some v
  b : ∀ k, k < c.nf → (B k).Is G w
  c : ∀ j, j < c.nc → ∃ g o x, c.Ac = some ⟨g, o, none⟩ ∧ g < w.heap.size ∧ G g = none ∧ w.cell? ⟨g, o + j, none⟩ = some (.int .i64 x)
theorem Bd.Is.ex {b : Bd} {G G' : Gh} {w w' : World} (h : b.Is G w) (e : Ex G w G' w') : b.Is G' w' := fun j hj => by
  obtain ⟨g, o, h1, h2, h3, x0, x1, x2, x3, h4⟩ := h j hj
  exact ⟨g, o, h1, Nat.lt_of_lt_of_le h2 e.size, e.none h2 h3, x0, x1, x2, x3, fun i v hv => (e.cell h2 h3).trans (h4 i v hv)⟩
theorem Cd.Is.ex {c : Cd} {B : Nat → Bd} {G G' : Gh} {w w' : World} (h : c.Is B G w) (e : Ex G w G' w') : c.Is B G' w' := by
  refine ⟨fun k hk => ?_, fun k hk => (h.b k hk).ex e, fun j hj => ?_⟩
  · obtain ⟨g, o, h1, h2, h3, h4⟩ := h.f k hk
    exact ⟨g, o, h1, Nat.lt_of_lt_of_le h2 e.size, e.none h2 h3, fun i v hv => (e.cell h2 h3).trans (h4 i v hv)⟩
  · obtain ⟨g, o, x, h1, h2, h3, h4⟩ := h.c j hj
    exact ⟨g, o, x, h1, Nat.lt_of_lt_of_le h2 e.size, e.none h2 h3, (e.cell h2 h3).trans h4⟩
theorem Cd.Is.below {c : Cd} {B : Nat → Bd} {G : Gh} {w w' : World} (h : c.Is B G w) (e : Below w.heap.size w w') : c.Is B G w' := h.ex (Ex.of_below e)
/-- how many objects of an operation's kind -/
def Cd.many (c : Cd) (a : Int) : Int := if a = 1 ∨ a = 2 ∨ a = 3 then c.maps else if a = 4 ∨ a = 5 then c.stacks else if a = 6 ∨ a = 7 then c.chans else 0

/-- is a local awaited? -/
def Awaits (w : World) (A : Option Addr) (n : Nat) (x : Int) : Prop := ∃ i g o, i < n ∧ A = some ⟨g, o, none⟩ ∧ w.cell? ⟨g, o + i * 2 + 1, none⟩ = some (.int .i64 x)
theorem awaits_B (z : Zp) (G : Gh) (w : World) (tw : TW z G w) (f : Fm) (hk : Sl G .kid f.Ak f.nk f.ck) (hn : f.nk ≤ 1000000) (x : Int) :
    Calls Try.prog 58 #[f.val, .int .i64 x] w (PostB w fun v => ∃ b, v = .bool b ∧ (b = true ↔ Awaits w f.Ak f.nk x)) := by
  refine go58 (by rfl) (CtxB w) (CtxB.start w) ?_
  conv => whnf
  refine LoopVC.on (X := Nat) (fun k => [(1, .v (.int .i64 x)), (2, .p 2 0), (5, .v (.int .i64 k))]) (fun _ => [(2, 107, [.int .i64 f.task, .slice f.Ap f.np f.cp, .int .i64 f.fn, .int .i64 f.pc, .slice f.Al f.nl f.cl, .slice f.As f.ns f.cs, .slice f.Ak f.nk f.ck, .int .i64 f.many, .int .i64 f.spent, .bool f.fail])]) (fun _ => CtxB w) (fun k => k ≤ f.nk ∧ ∀ i g o, i < k → f.Ak = some ⟨g, o, none⟩ → w.cell? ⟨g, o + i * 2 + 1, none⟩ ≠ some (.int .i64 x)) (fun k => f.nk - k) 0 ⟨Nat.zero_le _, fun i _ _ h => by omega⟩ ⟨rfl, rfl, rfl, trivial⟩ ⟨rfl, trivial⟩ ?_
  intro k r ⟨hk1, hk2⟩
  conv => whnf
  refine splitB.dec (fun hc => ?_) (fun hc => ?_)
  · have hlt : k < f.nk := by omega
    obtain ⟨b, off, hA, hbl, _, a, d, h0, h1⟩ := hk.at_ tw hlt
    simp only [RT.size] at h0 h1
    conv => whnf
    refine idx_ok hA k rfl hlt ?_
    conv => whnf
    refine ldB ti3_ok rfl h1 hbl ?_
    conv => whnf
    refine splitB.eq (fun he => ?_) (fun he => ?_)
    · conv => whnf
      intro w' hw'
      exact ⟨_, rfl, hw', true, rfl, fun _ => ⟨k, b, off, hlt, hA, by rw [he] at h1; exact h1⟩, fun _ => rfl⟩
    · conv => whnf
      refine rnd (k + 1) (by omega) ⟨by omega, fun i g o hi hg hcell => ?_⟩ ⟨rfl, rfl, by show _ = _; rw [← wnat k (by omega)]; rfl, trivial⟩ ⟨rfl, trivial⟩
      by_cases e : i = k
      · subst e
        rw [hA] at hg
        injection hg with hg
        injection hg with hg1 hg2
        subst hg1 hg2
        rw [h1] at hcell
        injection hcell with hcell
        injection hcell with _ hcell
        exact he hcell
      · exact hk2 i g o (by omega) hg hcell
  · have hkn : k = f.nk := by omega
    conv => whnf
    intro w' hw'
    refine ⟨_, rfl, hw', false, rfl, Iff.intro (fun h => ?_) (fun h => ?_)⟩
    · cases h
    · obtain ⟨i, g, o, h1, h2, h3⟩ := h
      exact absurd h3 (hk2 i g o (by omega) h2)
end Go.Proofs.Ytahhihhfjimppaa
/- The document's vm, in a typed heap: calls, took, Value, Child, passed. -/
namespace Go.Proofs.Ytahhihhfjimppaa
open Go.RowKit
set_option linter.unusedSimpArgs false
set_option linter.unusedVariables false
set_option maxRecDepth 100000

theorem passed_T (z : Zp) (G : Gh) (w : World) (tw : TW z G w) (f : Fm) (hs : Sl G .int f.As f.ns f.cs) (took : Nat) (ht : took ≤ f.ns) (A : Option Addr) (n c : Nat) (hl : Sl G .int A n c) (hb : f.ns + n ≤ 1000000) :
    Calls Try.prog 59 #[f.val, .int .i64 took, .slice A n c] w
      (PostT z G w fun z' G' v => z' = z ∧ ∃ A' c', v = Fm.val { f with pc := IntKind.i64.wrap (f.pc + 1), As := A', ns := f.ns - took + n, cs := c', spent := IntKind.i64.wrap (f.spent + 1) } ∧ Sl G' .int A' (f.ns - took + n) c') := by
  refine go59 (by rfl) (CtxT z G G w) (CtxT.start tw) ?_
  conv => whnf
  refine bs0 .int ?_
  intro G1 A1 l1 s1
  conv => whnf
  refine cut_hi .int (hs.mono l1) (f.ns - took) (by rw [IntKind.wrap_i64]; omega) (by have := hs.caps; omega) ?_
  intro A2 s2
  conv => whnf
  refine app_T .int s1 s2 (f.ns - took) (by omega) (by omega) ?_
  intro G3 A3 c3 l3 s3
  conv => whnf
  refine app_T .int s3 ((hl.mono l1).mono l3) (f.ns - took + n) (by omega) (by omega) ?_
  intro G4 A4 c4 l4 s4
  conv => whnf
  intro w' hw'
  exact ⟨z, G4, _, rfl, hw'.1, hw'.2, rfl, A4, c4, rfl, s4⟩
theorem child_T (z : Zp) (G : Gh) (w : World) (tw : TW z G w) (f : Fm) (hp : Sl G .int f.Ap f.np f.cp) (hb : f.np ≤ 1000000) :
    Calls Try.prog 54 #[f.val] w (PostT z G w fun z' G' v => z' = z ∧ ∃ A' c', v = .slice A' (f.np + 1) c' ∧ Sl G' .int A' (f.np + 1) c') := by
  refine go54 (by rfl) (CtxT z G G w) (CtxT.start tw) ?_
  conv => whnf
  refine ⟨?_, ?_⟩
  · refine bs0 .int ?_
    intro G1 A1 l1 s1
    conv => whnf
    refine ⟨?_, ?_⟩
    · refine app_T .int s1 (hp.mono l1) f.np (by omega) (by omega) ?_
      intro G2 A2 c2 l2 s2
      conv => whnf
      refine bsn [f.many] (by simp) ?_
      intro G3 A3 l3 s3
      conv => whnf
      refine app_T .int (s2.mono l3) s3 (f.np + 1) (by omega) (by omega) ?_
      intro G4 A4 c4 l4 s4
      conv => whnf
      intro w' hw'
      exact ⟨z, G4, _, rfl, hw'.1, hw'.2, rfl, A4, c4, rfl, s4⟩
    · conv => whnf
      refine bsn [f.many] (by simp) ?_
      intro G3 A3 l3 s3
      conv => whnf
      refine app_T .int (s1.mono l3) ((hp.mono l1).mono l3) f.np (by omega) (by omega) ?_
      intro G2 A2 c2 l2 s2
      conv => whnf
      refine app_T .int s2 (s3.mono l2) (f.np + 1) (by omega) (by omega) ?_
      intro G4 A4 c4 l4 s4
      conv => whnf
      intro w' hw'
      exact ⟨z, G4, _, rfl, hw'.1, hw'.2, rfl, A4, c4, rfl, s4⟩
  · conv => whnf
    refine bsn [f.many] (by simp) ?_
    intro G1 A1 l1 s1
    conv => whnf
    refine bs0 .int ?_
    intro G2 A2 l2 s2
    conv => whnf
    refine app_T .int s2 ((hp.mono l1).mono l2) f.np (by omega) (by omega) ?_
    intro G3 A3 c3 l3 s3
    conv => whnf
    refine app_T .int s3 ((s1.mono l2).mono l3) (f.np + 1) (by omega) (by omega) ?_
    intro G4 A4 c4 l4 s4
    conv => whnf
    intro w' hw'
    exact ⟨z, G4, _, rfl, hw'.1, hw'.2, rfl, A4, c4, rfl, s4⟩
theorem value_B (k o a b val : Int) (went : Bool) (w : World) : Calls Try.prog 53 #[.agg #[.int .i64 k, .int .i64 o, .int .i64 a, .int .i64 b], .int .i64 val, .bool went] w (PostB w isI) := by
  refine go53 (by rfl) (CtxB w) (CtxB.start w) ?_
  conv => whnf
  repeat' (first
    | (refine JoinVC.go ?_; conv => whnf)
    | (refine splitB.dec (fun h => ?_) (fun h => ?_) <;> conv => whnf)
    | (refine splitB.eq (fun h => ?_) (fun h => ?_) <;> conv => whnf)
    | (refine splitB.not (fun h => ?_) (fun h => ?_) <;> conv => whnf)
    | (refine CallVC.ofB [.int .i64 _] en66 isI (fun w _ => (wwrap_any _ w).mono fun e w' ⟨n, h1, h2⟩ => ⟨_, h1, h2 ▸ Below.refl _ _, n, rfl⟩) ?_; rintro v ⟨n, rfl⟩; conv => whnf))
  all_goals
    intro w' hw'
    exact ⟨_, rfl, hw', _, rfl⟩
theorem calls_B (c : Cd) (i0 ia ib ic : Int) (w : World) : Calls Try.prog 67 #[c.val, .agg #[.int .i64 i0, .int .i64 ia, .int .i64 ib, .int .i64 ic]] w (PostB w fun v => ∃ n, v = .int .i64 n ∧ (n = -1 ∨ (0 ≤ n ∧ n ≤ 2 ∧ 1 ≤ ia ∧ ia ≤ 7 ∧ 0 ≤ ib ∧ ib < c.many ia))) := by
  refine go67 (by rfl) (CtxB w) (CtxB.start w) ?_
  conv => whnf
  repeat' (first
    | (refine JoinVC.go ?_; conv => whnf)
    | (refine splitB.dec (fun h => ?_) (fun h => ?_) <;> first | (exfalso; omega) | conv => whnf)
    | (refine splitB.eq (fun h => ?_) (fun h => ?_) <;> first | (exfalso; omega) | conv => whnf)
    | (refine splitB.ne (fun h => ?_) (fun h => ?_) <;> first | (exfalso; omega) | conv => whnf)
    | (refine splitB.not (fun h => ?_) (fun h => ?_) <;> conv => whnf))
  all_goals
    intro w' hw'
    first
      | exact ⟨_, rfl, hw', _, rfl, .inl rfl⟩
      | exact ⟨_, rfl, hw', _, rfl, .inr ⟨by omega, by omega, by omega, by omega, by omega, by unfold Cd.many; (repeat' split) <;> omega⟩⟩
end Go.Proofs.Ytahhihhfjimppaa
