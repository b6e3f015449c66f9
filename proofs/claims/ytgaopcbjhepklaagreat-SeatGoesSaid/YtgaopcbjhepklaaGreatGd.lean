/- A seat's turn: its small steps. -/
import Derived.Test.YtgaopcbjhepklaaGreatGc
import Derived.Test.YtgaopcbjhepklaaGreatGe
namespace Go.Proofs.YtgaopcbjhepklaaGreat
open Go.RowKit
set_option linter.unusedSimpArgs false
set_option linter.unusedVariables false
set_option maxRecDepth 100000
theorem flat_at {α : Type} (enc : α → List Value) (k : Nat) (hk : ∀ a, (enc a).length = k) : ∀ (l : List α) (i : Nat) (h : i < l.length), ((l.flatMap enc).drop (i * k)).take k = enc l[i]
  | a :: l, 0, h => by
    simp only [List.flatMap_cons, Nat.zero_mul, List.drop_zero, List.getElem_cons_zero]
    rw [List.take_append_of_le_length (by rw [hk]; exact Nat.le_refl _), List.take_of_length_le (by rw [hk]; exact Nat.le_refl _)]
  | a :: l, i + 1, h => by
    have e : (i + 1) * k = (enc a).length + i * k := by rw [hk, Nat.succ_mul, Nat.add_comm]
    simp only [List.flatMap_cons, List.getElem_cons_succ]
    rw [e, List.drop_append]
    simp only [show (enc a).length + i * k - (enc a).length = i * k from by omega]
    rw [List.drop_of_length_le (by omega), List.nil_append]
    exact flat_at enc k hk l i (by simpa using h)
theorem flat_len {α : Type} (enc : α → List Value) (k : Nat) (hk : ∀ a, (enc a).length = k) : ∀ (l : List α), (l.flatMap enc).length = l.length * k
  | [] => by simp
  | a :: l => by simp only [List.flatMap_cons, List.length_append, hk, flat_len enc k hk l, List.length_cons, Nat.succ_mul]; omega
theorem idxOG {wA : World} {α : Type} (enc : α → List Value) (k : Nat) (hk : ∀ a, (enc a).length = k) (hp : 0 < k) {A : Option Addr} {n : Nat} {xs : List α} (hrd : Rd wA wA.heap.size A (xs.flatMap enc)) (hn : n = xs.length) {i : Int} (j : Nat) (hi : i = j) (hj : j < xs.length) {K : Value → Prop} (h : ∀ b off, A = some ⟨b, off, none⟩ → (∀ q v, (enc xs[j])[q]? = some v → wA.cell? ⟨b, off + j * k + q, none⟩ = some v) → K (.pointer (some ⟨b, off + j * k, none⟩))) : IdxVC A n i k K := by
  have key : ∀ q v, (enc xs[j])[q]? = some v → (xs.flatMap enc)[j * k + q]? = some v := fun q v hv => by
    rw [← flat_at enc k hk xs j hj] at hv
    have hq := (List.getElem?_eq_some_iff.1 hv).1
    rw [List.getElem?_take, if_pos (by simp at hq; omega), List.getElem?_drop] at hv
    exact hv
  have h0 : ∃ v, (enc xs[j])[0]? = some v := ⟨_, List.getElem?_eq_getElem (by rw [hk]; exact hp)⟩
  obtain ⟨v0, h0⟩ := h0
  obtain ⟨b, off, hA, hb, _⟩ := hrd.at_ (key 0 _ h0)
  refine ⟨_, hA, by omega, by omega, ?_⟩
  rw [Addr.add_lit, hi]
  simp only [Int.toNat_natCast]
  refine h b off hA fun q v hv => ?_
  obtain ⟨b', off', hA', _, hc⟩ := hrd.at_ (key q v hv)
  rw [hA] at hA'
  injection hA' with hA'
  injection hA' with e1 e2
  subst e1 e2
  rw [Nat.add_assoc]
  exact hc
theorem FrP.l_len (f : FrP) : f.l.length = 10 := rfl
theorem putAt_app : ∀ (xs ys vs : List Value) (o : Nat), putAt (xs ++ ys) (xs.length + o) vs = xs ++ putAt ys o vs
  | xs, ys, [], o => by rw [putAt_nil, putAt_nil]
  | xs, ys, v :: vs, o => by
    rw [putAt_cons, putAt_cons, List.set_append_right _ _ (by omega)]
    simp only [show xs.length + o - xs.length = o from by omega]
    rw [Nat.add_assoc]
    exact putAt_app xs _ vs (o + 1)
theorem putAt_all : ∀ (xs ys vs : List Value), xs.length = vs.length → putAt (xs ++ ys) 0 vs = vs ++ ys := by
  have key : ∀ (pre xs ys vs : List Value), xs.length = vs.length → putAt (pre ++ (xs ++ ys)) pre.length vs = pre ++ (vs ++ ys) := by
    intro pre xs
    induction xs generalizing pre with
    | nil => intro ys vs h; have : vs = [] := List.eq_nil_of_length_eq_zero (by simpa using h.symm); subst this; rw [putAt_nil]
    | cons x xs ih =>
      intro ys vs h
      cases vs with
      | nil => simp at h
      | cons v vs =>
        rw [putAt_cons, List.set_append_right _ _ (by omega)]
        simp only [Nat.sub_self, List.cons_append, List.set_cons_zero]
        have := ih (pre ++ [v]) ys vs (by simpa using h)
        simpa using this
  intro xs ys vs h
  exact key [] xs ys vs h
theorem putAt_flat {α : Type} (enc : α → List Value) (k : Nat) (hk : ∀ a, (enc a).length = k) : ∀ (xs : List α) (i : Nat) (y : α), i < xs.length → putAt (xs.flatMap enc) (i * k) (enc y) = (xs.set i y).flatMap enc
  | x :: xs, 0, y, h => by
    simp only [Nat.zero_mul, List.flatMap_cons, List.set_cons_zero]
    exact putAt_all _ _ _ (by rw [hk, hk])
  | x :: xs, i + 1, y, h => by
    simp only [List.flatMap_cons, List.set_cons_succ]
    rw [show (i + 1) * k = (enc x).length + i * k from by rw [hk, Nat.succ_mul, Nat.add_comm], putAt_app, putAt_flat enc k hk xs i y (by simpa using h)]
def zFr : FrP := ⟨0, none, 0, 0, [], 0, 0, none, 0, 0, [], none, 0, 0, [], none, 0, 0, [], 0, 0, false⟩
theorem zFr_rep : ∀ n, (List.replicate n zFr.l).flatten = (List.replicate n zFr).flatMap FrP.l
  | 0 => rfl
  | n + 1 => by rw [List.replicate_succ, List.replicate_succ, List.flatten_cons, List.flatMap_cons, zFr_rep n]
/-- frames with a task's put among them -/
def putF (fs : List FrP) (task : Nat) (f : FrP) : List FrP := (fs ++ List.replicate (task - fs.length) zFr).set (task - 1) f
theorem FrP.l_one (f : FrP) : ∀ u ∈ f.l, u.oneCell' = true := by
  intro u hu
  simp only [FrP.l, List.mem_cons, List.not_mem_nil, or_false] at hu
  rcases hu with rfl | rfl | rfl | rfl | rfl | rfl | rfl | rfl | rfl | rfl <;> rfl
theorem frs_one (fs : List FrP) : ∀ u ∈ fs.flatMap FrP.l, u.oneCell' = true := by
  intro u hu
  obtain ⟨f, _, hf⟩ := List.mem_flatMap.1 hu
  exact f.l_one u hf
theorem put_len {fs : List FrP} {n m : Nat} (hn : n = fs.length) (hmn : n ≤ m) : (List.take (Nat.min n m * 10) (fs.flatMap FrP.l) ++ List.drop (Nat.min n m * 10) (List.replicate m zFr.l).flatten).length = m * 10 := by
  rw [zFr_rep, show Nat.min n m = n from Nat.min_eq_left hmn, List.length_append, List.length_take, List.length_drop, flat_len FrP.l 10 FrP.l_len, flat_len FrP.l 10 FrP.l_len, List.length_replicate]
  omega
theorem put_cells {fs : List FrP} {n task m : Nat} (hn : n = fs.length) (h0 : 1 ≤ task) (hm : m = (if n > task then n else task)) (f : FrP) : putAt (List.take (Nat.min n m * 10) (fs.flatMap FrP.l) ++ List.drop (Nat.min n m * 10) (List.replicate m zFr.l).flatten) ((task - 1) * 10) f.l = (putF fs task f).flatMap FrP.l := by
  have hmn : Nat.min n m = n := Nat.min_eq_left (by split at hm <;> omega)
  have e1 : List.take (n * 10) (fs.flatMap FrP.l) = fs.flatMap FrP.l := List.take_of_length_le (by rw [flat_len FrP.l 10 FrP.l_len]; omega)
  have e2 : List.drop (n * 10) (List.replicate m zFr.l).flatten = (List.replicate (task - fs.length) zFr).flatMap FrP.l := by
    rw [zFr_rep]
    have : List.replicate m zFr = List.replicate n zFr ++ List.replicate (m - n) zFr := by rw [List.replicate_append_replicate]; congr 1; split at hm <;> omega
    rw [this, List.flatMap_append, List.drop_left' (by rw [flat_len FrP.l 10 FrP.l_len]; simp)]
    congr 2
    split at hm <;> omega
  rw [hmn, e1, e2, ← List.flatMap_append, putAt_flat FrP.l 10 FrP.l_len _ _ _ (by simp; omega)]
  rfl
/-- frames that were there -/
structure FsOk (w : World) (A : Option Addr) (n c : Nat) (fs : List FrP) : Prop where
  rd : Rd w w.heap.size A (fs.flatMap FrP.l)
  len : n = fs.length
  cap : n ≤ c
  sm : n ≤ 1000000
  each : ∀ f ∈ fs, FrOk w f
abbrev overV (e v : Int) : Value := .iface 92 (.agg #[.int .i64 e, .int .i64 v])
abbrev overC (e v : Int) : List PanicEntry := [{ v := overV e v, recovered := false }]
/-- a seat that begins an operation -/
def beginS (s : SeP) (phase at_ : Int) (p : OpP) : SeP := { s with phase := phase, at_ := at_, o0 := p.o0, o1 := p.o1, o2 := p.o2, o3 := p.o3, Al := none, nl := 0, cl := 0, As := none, ns := 0, cs := 0 }
def seekS (s : SeP) (at_ : Int) (p : OpP) : SeP := ⟨0, at_, 0, 0, 0, 0, 0, 0, 0, 0, none, 0, 0, p.o0, p.o1, p.o2, p.o3, none, 0, 0, none, 0, 0, s.Ag, s.ng, s.cg, 0⟩
def atP (n at_ : Int) : Int := if w64 (w64 (2 * n) - 1) ≤ at_ then 0 else at_
section
variable {wA w0 : World} {X : Nat → Prop} {M : EL} {K : Value → Ctx → Prop} {Z : PanK}
variable {t : TuP} {bt : Nat}
set_option maxHeartbeats 4000000 in
theorem tseek_vc {at_ : Int} (hn : 1 ≤ t.la.seats ∧ t.la.seats ≤ 8) (hk : ∀ a' o0 o1 o2 o3, a' = atP t.la.seats at_ → seekP t.la.seats t.me t.worker a' = ⟨o0, o1, o2, o3⟩ → K (.tuple #[]) (CtxA wA w0 X (tE { t with s := seekS t.s a' ⟨o0, o1, o2, o3⟩ } bt M))) : CallVC Tryz.prog (CtxA wA w0 X (tE t bt M)) 65 #[.pointer (some ⟨bt, 0, none⟩), .int .i64 at_] K Z := by
  refine it65 (by rfl) ?_
  intro w2 X2
  conv => whnf
  repeat' (first
    | (refine RetT.drop (K := K) (tE { t with s := seekS t.s _ ⟨_, _, _, _⟩ } bt M) (by repeat (first | exact List.Sublist.refl _ | refine List.Sublist.cons_cons _ ?_ | refine List.Sublist.cons _ ?_)) (hk _ _ _ _ _ (by simp only [atP, w64]; first | exact (if_pos (by omega)).symm | exact (if_neg (by omega)).symm) (by assumption)))
    | (refine seek_vc hn (fun o0 o1 o2 o3 ho => ?_); conv => whnf)
    | (refine JoinVC.go ?_; conv => whnf)
    | (refine RetA.go ?_; conv => whnf)
    | (refine PanA.go ?_; conv => whnf)
    | (refine And.intro ?_ ?_ <;> conv => whnf)
    | (refine ldA (by repeat (first | exact List.Mem.head _ | refine List.Mem.tail _ ?_)) (tab_ok _ _ (by rfl)) (by rfl) (by rfl) ?_; conv => whnf)
    | (refine ldsA (by repeat (first | exact List.Mem.head _ | refine List.Mem.tail _ ?_)) (tab_ok _ _ (by rfl)) (by rfl) ?_; conv => whnf)
    | (refine stA (tab_ok _ _ (by rfl)) (by repeat (first | exact AtE.here | apply AtE.there)) ?_; conv => whnf)
    | (refine splitB.dec (fun hb => ?_) (fun hb => ?_) <;> conv => whnf)
    | (refine splitB.ndec (fun hb => ?_) (fun hb => ?_) <;> conv => whnf)
    | (refine splitB.eqI (fun hb => ?_) (fun hb => ?_) <;> conv => whnf)
    | (refine splitB.neI (fun hb => ?_) (fun hb => ?_) <;> conv => whnf)
    | (intro r bx; conv => whnf))
set_option maxHeartbeats 4000000 in
theorem tbegin_vc {ph at_ o0 o1 o2 o3 : Int} (hk : K (.tuple #[]) (CtxA wA w0 X (tE { t with s := beginS t.s ph at_ ⟨o0, o1, o2, o3⟩ } bt M))) : CallVC Tryz.prog (CtxA wA w0 X (tE t bt M)) 66 #[.pointer (some ⟨bt, 0, none⟩), .int .i64 ph, .int .i64 at_, .agg #[.int .i64 o0, .int .i64 o1, .int .i64 o2, .int .i64 o3]] K Z := by
  refine it66 (by rfl) ?_
  intro w2 X2
  conv => whnf
  repeat' (first
    | (refine RetT.drop (K := K) (tE { t with s := beginS t.s ph at_ ⟨o0, o1, o2, o3⟩ } bt M) (by repeat (first | exact List.Sublist.refl _ | refine List.Sublist.cons_cons _ ?_ | refine List.Sublist.cons _ ?_)) hk)
    | (refine JoinVC.go ?_; conv => whnf)
    | (refine RetA.go ?_; conv => whnf)
    | (refine PanA.go ?_; conv => whnf)
    | (refine And.intro ?_ ?_ <;> conv => whnf)
    | (refine ldA (by repeat (first | exact List.Mem.head _ | refine List.Mem.tail _ ?_)) (tab_ok _ _ (by rfl)) (by rfl) (by rfl) ?_; conv => whnf)
    | (refine ldsA (by repeat (first | exact List.Mem.head _ | refine List.Mem.tail _ ?_)) (tab_ok _ _ (by rfl)) (by rfl) ?_; conv => whnf)
    | (refine stA (tab_ok _ _ (by rfl)) (by repeat (first | exact AtE.here | apply AtE.there)) ?_; conv => whnf)
    | (refine splitB.dec (fun hb => ?_) (fun hb => ?_) <;> conv => whnf)
    | (refine splitB.ndec (fun hb => ?_) (fun hb => ?_) <;> conv => whnf)
    | (refine splitB.eqI (fun hb => ?_) (fun hb => ?_) <;> conv => whnf)
    | (refine splitB.neI (fun hb => ?_) (fun hb => ?_) <;> conv => whnf)
    | (intro r bx; conv => whnf))
set_option maxHeartbeats 4000000 in
theorem tframe_vc {task : Int} {fs : List FrP} (hf : FsOk wA t.Af t.nf t.cf fs) (h1 : ∀ i (h : i < fs.length), task = (i : Int) + 1 → K (.agg fs[i].l.toArray) (CtxA wA w0 X (tE t bt M))) (h2 : ¬ (1 ≤ task ∧ task ≤ fs.length) → Z (overC 1 0) (CtxA wA w0 X (tE t bt M))) : CallVC Tryz.prog (CtxA wA w0 X (tE t bt M)) 67 #[.pointer (some ⟨bt, 0, none⟩), .int .i64 task] K Z := by
  have hl := hf.len
  have hs := hf.sm
  refine it67 (by rfl) ?_
  intro w2 X2
  conv => whnf
  repeat' (first
    | (refine PanT.drop (Z := Z) (tE t bt M) (by repeat (first | exact List.Sublist.refl _ | refine List.Sublist.cons_cons _ ?_ | refine List.Sublist.cons _ ?_)) (h2 (by omega)))
    | (refine RetT.drop (K := K) (tE t bt M) (by repeat (first | exact List.Sublist.refl _ | refine List.Sublist.cons_cons _ ?_ | refine List.Sublist.cons _ ?_)) (h1 (task - 1).toNat (by omega) (by omega)))
    | (refine idxOG FrP.l 10 FrP.l_len (by omega) hf.rd hl (task - 1).toNat ((wrapI (by omega)).trans (by omega)) (by omega) (fun b' o' hA hcl => ?_); conv => whnf)
    | (refine ldsO (FrP.l _) (by assumption) (tab_ok _ _ (by rfl)) (by rfl) (by rfl) ?_; conv => whnf)
    | (refine opMkI (by rfl) (tab_ok _ _ (by rfl)) (by rfl) ?_; conv => whnf)
    | (refine opPan (by rfl) (by rfl) ?_; conv => whnf)
    | (refine JoinVC.go ?_; conv => whnf)
    | (refine RetA.go ?_; conv => whnf)
    | (refine PanA.go ?_; conv => whnf)
    | (refine And.intro ?_ ?_ <;> conv => whnf)
    | (refine ldA (by repeat (first | exact List.Mem.head _ | refine List.Mem.tail _ ?_)) (tab_ok _ _ (by rfl)) (by rfl) (by rfl) ?_; conv => whnf)
    | (refine ldsA (by repeat (first | exact List.Mem.head _ | refine List.Mem.tail _ ?_)) (tab_ok _ _ (by rfl)) (by rfl) ?_; conv => whnf)
    | (refine stA (tab_ok _ _ (by rfl)) (by repeat (first | exact AtE.here | apply AtE.there)) ?_; conv => whnf)
    | (refine splitB.dec (fun hb => ?_) (fun hb => ?_) <;> conv => whnf)
    | (refine splitB.ndec (fun hb => ?_) (fun hb => ?_) <;> conv => whnf)
    | (refine splitB.eqI (fun hb => ?_) (fun hb => ?_) <;> conv => whnf)
    | (refine splitB.neI (fun hb => ?_) (fun hb => ?_) <;> conv => whnf)
    | (intro r bx; conv => whnf))
set_option maxHeartbeats 4000000 in
theorem tfetch_vc {f : FrP} {i at_ : Int} (hf : OldK wA f.Ak f.nk f.ck f.kids) (h0 : 0 ≤ i) (h1 : ∀ j (h : j < f.kids.length), i = (j : Int) → K (.tuple #[]) (CtxA wA w0 X (tE { t with s := beginS t.s 4 at_ ⟨15, 0, f.kids[j].task, 0⟩ } bt M))) (h2 : f.kids.length ≤ i → Z (overC 1 0) (CtxA wA w0 X (tE t bt M))) : CallVC Tryz.prog (CtxA wA w0 X (tE t bt M)) 75 #[.pointer (some ⟨bt, 0, none⟩), .agg f.l.toArray, .int .i64 i, .int .i64 at_] K Z := by
  have hl := hf.len
  have hs := hf.sm
  refine it75 (by rfl) ?_
  intro w2 X2
  conv => whnf
  repeat' (first
    | (refine PanT.drop (Z := Z) (tE t bt M) (by repeat (first | exact List.Sublist.refl _ | refine List.Sublist.cons_cons _ ?_ | refine List.Sublist.cons _ ?_)) (h2 (by omega)))
    | (refine idxOK hf i.toNat (by omega) (by omega) (fun b' o' hA hcl => ?_); conv => whnf)
    | (refine ldO (hcl 0 _ rfl) (tab_ok _ _ (by rfl)) (by rfl) ?_; conv => whnf)
    | (refine tbegin_vc ?_; conv => whnf)
    | (refine RetT.drop (K := K) (tE { t with s := beginS t.s 4 at_ ⟨15, 0, _, 0⟩ } bt M) (List.Sublist.refl _) (h1 i.toNat (by omega) (by omega)))
    | (refine opMkI (by rfl) (tab_ok _ _ (by rfl)) (by rfl) ?_; conv => whnf)
    | (refine opPan (by rfl) (by rfl) ?_; conv => whnf)
    | (refine JoinVC.go ?_; conv => whnf)
    | (refine RetA.go ?_; conv => whnf)
    | (refine PanA.go ?_; conv => whnf)
    | (refine And.intro ?_ ?_ <;> conv => whnf)
    | (refine ldA (by repeat (first | exact List.Mem.head _ | refine List.Mem.tail _ ?_)) (tab_ok _ _ (by rfl)) (by rfl) (by rfl) ?_; conv => whnf)
    | (refine ldsA (by repeat (first | exact List.Mem.head _ | refine List.Mem.tail _ ?_)) (tab_ok _ _ (by rfl)) (by rfl) ?_; conv => whnf)
    | (refine stA (tab_ok _ _ (by rfl)) (by repeat (first | exact AtE.here | apply AtE.there)) ?_; conv => whnf)
    | (refine splitB.dec (fun hb => ?_) (fun hb => ?_) <;> conv => whnf)
    | (refine splitB.ndec (fun hb => ?_) (fun hb => ?_) <;> conv => whnf)
    | (refine splitB.eqI (fun hb => ?_) (fun hb => ?_) <;> conv => whnf)
    | (refine splitB.neI (fun hb => ?_) (fun hb => ?_) <;> conv => whnf)
    | (intro r bx; conv => whnf))
set_option maxHeartbeats 4000000 in
theorem tput_vc {task : Nat} {f : FrP} {fs : List FrP} (hf : FsOk wA t.Af t.nf t.cf fs) (h0 : 1 ≤ task ∧ task ≤ 1000) (hk : ∀ b n, n = (if t.nf > task then t.nf else task) → K (.tuple #[]) (CtxA wA w0 X (tE { t with Af := some ⟨b, 0, none⟩, nf := n, cf := n } bt ((.slice (some ⟨b, 0, none⟩) n n, .row 36 10 ((putF fs task f).flatMap FrP.l)) :: M)))) :
    CallVC Tryz.prog (CtxA wA w0 X (tE t bt M)) 72 #[.pointer (some ⟨bt, 0, none⟩), .int .i64 (task : Int), .agg f.l.toArray] K Z := by
  have hl := hf.len
  have hs := hf.sm
  obtain ⟨n, hn⟩ : ∃ n, n = (if t.nf > task then t.nf else task) := ⟨_, rfl⟩
  have hmx : (if (t.nf : Int) > (task : Int) then (t.nf : Int) else (task : Int)) = (n : Int) := by subst hn; split <;> split <;> omega
  have hn1 : n ≤ 1000000 ∧ task ≤ n := by subst hn; split <;> omega
  refine it72 (by rfl) ?_
  intro w2 X2
  conv => whnf
  repeat' (first
    | (refine maxA ?_; rw [hmx]; conv => whnf)
    | (refine mkN el39 n rfl (by omega) (fun b => ?_); conv => whnf)
    | (refine copyA el39 (fs.flatMap FrP.l) (fun w hw => InA.rdOld hw hf.rd) (by rw [flat_len FrP.l 10 FrP.l_len]; omega) (frs_one fs) (by repeat (first | exact AtE.here | apply AtE.there)) ?_; conv => whnf)
    | (refine idxBN (task - 1) ((wrapI (by omega)).trans (by omega)) (by omega) ?_; conv => whnf)
    | (refine stR (tab_ok _ _ (by rfl)) ((putF fs task f).flatMap FrP.l) (by repeat (first | exact AtE.here | apply AtE.there)) (by rfl) (Nat.le_trans (show (task - 1) * 10 + 10 ≤ n * 10 by omega) (Nat.le_of_eq (put_len hl (by subst hn; split <;> omega)).symm)) (by show 0 < 10; omega) (by rfl) (put_cells hl h0.1 (by subst hn; split <;> omega) f) ?_; conv => whnf)
    | (refine RetT.imp (K := K) (tE { t with Af := some ⟨_, 0, none⟩, nf := n, cf := n } bt ((.slice (some ⟨_, 0, none⟩) n n, .row 36 10 ((putF fs task f).flatMap FrP.l)) :: M)) (Imp.perm (List.Perm.swap _ _ _)) (hk _ n hn))
    | (refine JoinVC.go ?_; conv => whnf)
    | (refine RetA.go ?_; conv => whnf)
    | (refine PanA.go ?_; conv => whnf)
    | (refine And.intro ?_ ?_ <;> conv => whnf)
    | (refine ldA (by repeat (first | exact List.Mem.head _ | refine List.Mem.tail _ ?_)) (tab_ok _ _ (by rfl)) (by rfl) (by rfl) ?_; conv => whnf)
    | (refine ldsA (by repeat (first | exact List.Mem.head _ | refine List.Mem.tail _ ?_)) (tab_ok _ _ (by rfl)) (by rfl) ?_; conv => whnf)
    | (refine stA (tab_ok _ _ (by rfl)) (by repeat (first | exact AtE.here | apply AtE.there)) ?_; conv => whnf)
    | (refine splitB.dec (fun hb => ?_) (fun hb => ?_) <;> conv => whnf)
    | (refine splitB.ndec (fun hb => ?_) (fun hb => ?_) <;> conv => whnf)
    | (refine splitB.eqI (fun hb => ?_) (fun hb => ?_) <;> conv => whnf)
    | (refine splitB.neI (fun hb => ?_) (fun hb => ?_) <;> conv => whnf)
    | (intro r bx; conv => whnf))
end
end Go.Proofs.YtgaopcbjhepklaaGreat
