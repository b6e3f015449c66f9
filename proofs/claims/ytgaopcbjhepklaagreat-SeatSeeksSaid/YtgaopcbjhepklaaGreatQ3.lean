/- Lemmas for the proof, joined from several texts: no statement of its own; their conditions stand in them. -/
import Derived.Test.YtgaopcbjhepklaaGreatQ2
/- SeatSeeks. -/
namespace Go.Proofs.YtgaopcbjhepklaaGreat
open Go.RowKit
set_option linter.unusedSimpArgs false
set_option linter.unusedVariables false
set_option maxRecDepth 100000
def atI (n i : Nat) : Nat := if i + 1 = 2 * n then 0 else i
/-- the seat that seeks, as it stands ahead of a round -/
structure SIs (s : SeP) (n k i : Nat) (A : Option Addr) (ng : Nat) : Prop where
  phase : s.phase = 0
  at_ : s.at_ = (atI n i : Nat)
  task : s.task = 0
  op : seekP (n : Int) (k : Int) (k : Int) (atI n i : Nat) = ⟨s.o0, s.o1, s.o2, s.o3⟩
  Ag : s.Ag = A
  ng_ : s.ng = ng
  cg : ng ≤ s.cg
theorem splitB.isF {b : Bool} {A B : Prop} (h : b = false) (h2 : B) : splitB b A B := by subst h; exact h2
theorem splitB.isT {b : Bool} {A B : Prop} (h : b = true) (h2 : A) : splitB b A B := by subst h; exact h2
theorem sought_no {t t' : TuP} {M' : EL} (h : SoughtR t t' M') (hu : t.u.is_ = false) : M' = [] ∧ ∃ a' o0 o1 o2 o3, a' = atP t.la.seats (soughtA t.la.seats t.s.at_) ∧ seekP t.la.seats t.me t.worker a' = ⟨o0, o1, o2, o3⟩ ∧ t' = { t with s := seekS t.s a' ⟨o0, o1, o2, o3⟩ } := by
  obtain ⟨h1, h2⟩ := h
  rcases h2 with ⟨_, h⟩ | ⟨h, _⟩ | ⟨h, _⟩
  · exact ⟨h1, h⟩
  · rw [hu] at h; cases h
  · rw [hu] at h; cases h
theorem round_end {n k i : Nat} {A : Option Addr} {ng : Nat} {la : LaP} {a' q0 q1 q2 q3 : Int} (hn : 1 ≤ n ∧ n ≤ 8) (hla : la.seats = (n : Int)) (hi : i + 2 ≤ 2 * n) (ha : a' = atP la.seats (soughtA la.seats (i : Int))) (ho : seekP la.seats (k : Int) (k : Int) a' = ⟨q0, q1, q2, q3⟩) : SIs ⟨0, a', 0, 0, 0, 0, 0, 0, 0, 0, none, 0, 0, q0, q1, q2, q3, none, 0, 0, none, 0, 0, A, ng, ng, 0⟩ n k (i + 1) A ng := by
  have e : a' = ((atI n (i + 1) : Nat) : Int) := by
    rw [ha, hla, nextAt_eq hn hi]
    congr 1
    simp only [nextAt, atI]
    split <;> split <;> omega
  refine ⟨rfl, e, rfl, ?_, rfl, rfl, Nat.le_refl _⟩
  rw [← e, ← hla]
  exact ho
theorem cnt_0 {n k : Nat} {s1 s2 : List Int} (h : (s1, s2) = cntSk n k 0) : (s1, s2) = cntSk n k (0 + 1) := by rw [h]; rfl
theorem cnt_mid {n k i : Nat} {s1 s2 : List Int} (h0 : 0 < i) (h1 : i < n) (h : (s1, s2) = cntSk n k i) : (s1.set ((k + i) % n) (IntKind.i64.wrap (s1.getD ((k + i) % n) 0 + 1)), s2) = cntSk n k (i + 1) := by
  simp only [cntSk, stepSk]
  rw [← h, if_neg (by omega), if_pos h1]
  rfl
theorem cnt_hi {n k i : Nat} {s1 s2 : List Int} (h0 : 0 < i) (h1 : n ≤ i) (h : (s1, s2) = cntSk n k i) : (s1, s2.set ((k + i + 1 - n) % n) (IntKind.i64.wrap (s2.getD ((k + i + 1 - n) % n) 0 + 1))) = cntSk n k (i + 1) := by
  simp only [cntSk, stepSk]
  rw [← h, if_neg (by omega), if_neg (by omega)]
  rfl
theorem want_at {n k j : Nat} (h : j < n) : (wantSk n k).getD j 0 = if j = k then 0 else 1 := by
  simp [wantSk, h]
theorem want_len {n k : Nat} : (wantSk n k).length = n := by simp [wantSk]
theorem isRep (n : Nat) : (List.replicate n [Value.int .i64 0]).flatten = is (List.replicate n 0) := by
  induction n with
  | zero => rfl
  | succ n ih => rw [List.replicate_succ, List.replicate_succ, List.flatten_cons, ih]; rfl
theorem bnd {n : Nat} (hn : 1 ≤ n ∧ n ≤ 8) : SV.v (.int .i64 (IntKind.i64.wrap (IntKind.i64.wrap (2 * (n : Int)) - 1))) = SV.v (.int .i64 ((2 * n - 1 : Nat) : Int)) := by
  rw [wrapI (x := 2 * (n : Int)) (by omega), wrapI (by omega)]
  congr 2
  omega
theorem conv8 {x : Int} (hx : 0 ≤ x ∧ x < 256) {C : Ctx} {K : Value → Ctx → Prop} (h : K (.int .i64 x) C) : SemVC Tryz.prog C (convert 5 3 (.int .u8 x)) K := by
  refine semA (fun w => ?_) h
  have h1 : (Tryz.prog.underlying 5).isSome = true := by kernel_rfl
  have h2 : Tryz.prog.underlying 3 = some (.int .i64) := by kernel_rfl
  have h3 : Tryz.prog.intKind 3 = .i64 := by kernel_rfl
  have h4 := run_convert_int (P := Tryz.prog) w 5 3 .u8 x h1 (by kernel_rfl)
  rw [h4, h3, wrapI (by omega)]
section
variable {wA w0 : World} {X : Nat → Prop} {M : EL} {K : Value → Ctx → Prop} {Z : PanK}
set_option maxHeartbeats 8000000 in
theorem seeks_vc {m p : Nat} (hm : m < 256) (hp : p < 256) {A : Option Addr} {ng cg : Nat} {gs : List (Int × Int)} (hgr : Rd wA wA.heap.size A (gs.flatMap pairL)) (hgl : ng = gs.length) (hc : ng ≤ cg) (hk : K (.bool true) (CtxA wA w0 X M)) :
    CallVC Tryz.prog (CtxA wA w0 X M) 4 #[.int .u8 (m : Int), .int .u8 (p : Int), .slice A ng cg] K Z := by
  refine it4 (args := [.int .u8 (m : Int), .int .u8 (p : Int), .slice A ng cg]) (by rfl) ?_
  intro w2 X2
  conv => whnf
  refine conv8 (x := (m : Int)) (by omega) ?_
  conv => whnf
  refine And.intro (by decide) ?_
  conv => whnf
  refine conv8 (x := (p : Int)) (by omega) ?_
  conv => whnf
  have e1 : IntKind.i64.wrap (1 + (m : Int).tmod 8) = ((1 + m % 8 : Nat) : Int) := by
    have e2 : (m : Int).tmod 8 = ((m % 8 : Nat) : Int) := rfl
    rw [e2]
    exact (wrapI (by omega)).trans (by omega)
  rw [e1]
  have hn : 1 ≤ 1 + m % 8 ∧ 1 + m % 8 ≤ 8 := by omega
  generalize 1 + m % 8 = n at hn ⊢
  refine And.intro (by omega) ?_
  conv => whnf
  have e3 : (p : Int).tmod (n : Int) = ((p % n : Nat) : Int) := rfl
  rw [e3]
  have hk8 : p % n < n := Nat.mod_lt _ (by omega)
  generalize p % n = k at hk8 ⊢
  refine laidN_vc hn (fun la hla => ?_)
  conv => whnf
  refine splitB.dec (fun hb => ?_) (fun hb => ?_)
  · conv => whnf
    repeat' (first
      | (refine alive_vc ?_; conv => whnf)
      | (exact RetT.drop (K := K) M (List.Sublist.refl _) hk)
      | (refine opMkI (by rfl) (tab_ok _ _ (by rfl)) (by rfl) ?_; conv => whnf)
      | (refine opPan (by rfl) (by rfl) ?_; conv => whnf)
      | (refine JoinVC.go ?_; conv => whnf)
      | (refine RetA.go ?_; conv => whnf)
      | (refine PanA.go ?_; conv => whnf)
      | (refine And.intro ?_ ?_ <;> conv => whnf)
      | (refine ldA (by repeat (first | exact List.Mem.head _ | refine List.Mem.tail _ ?_)) (tab_ok _ _ (by rfl)) (by rfl) (by rfl) ?_; conv => whnf)
      | (refine ldsA (by repeat (first | exact List.Mem.head _ | refine List.Mem.tail _ ?_)) (tab_ok _ _ (by rfl)) (by rfl) ?_; conv => whnf)
      | (refine stA (tab_ok _ _ (by rfl)) (by repeat (first | exact AtE.here | apply AtE.there)) ?_; conv => whnf)
      | (refine splitB.dec (fun hb => ?_) (fun hb => ?_) <;> first | (exfalso; omega) | (conv => whnf))
      | (refine splitB.ndec (fun hb => ?_) (fun hb => ?_) <;> first | (exfalso; omega) | (conv => whnf))
      | (refine splitB.eqI (fun hb => ?_) (fun hb => ?_) <;> first | (exfalso; omega) | (conv => whnf))
      | (refine splitB.neI (fun hb => ?_) (fun hb => ?_) <;> first | (exfalso; omega) | (conv => whnf))
      | (intro r bx; conv => whnf))
  have hg : OldP wA A ng gs := ⟨hgr, hgl, by omega⟩
  conv => whnf
  refine seek_vc (a := la) (me := (k : Int)) (worker := (k : Int)) (at_ := 0) (by omega) (fun o0 o1 o2 o3 ho => ?_)
  rw [seekP_0] at ho
  injection ho with a1 a2 a3 a4
  subst a1 a2 a3 a4
  conv => whnf
  refine JoinVC.go ?_
  conv => whnf
  refine And.intro ?_ ?_
  · conv => whnf
    refine mkN el23 n rfl (by omega) (fun b1 => ?_)
    conv => whnf
    refine mkN el23 n rfl (by omega) (fun b2 => ?_)
    conv => whnf
    refine LoopVC.on (X := Nat × SeP × (List Int × List Int)) (fun x => [(2, .v (.slice A ng cg)), (6, .v (.bool false)), (7, .v (.int .i64 (n : Int))), (8, .v (.int .i64 (k : Int))), (9, .p 9 0), (10, .p 10 0), (11, .v (.slice (some ⟨b1, 0, none⟩) n n)), (12, .v (.slice (some ⟨b2, 0, none⟩) n n)), (44, .v (.int .i64 ((2 * n - 1 : Nat) : Int))), (45, .v (.int .i64 (x.1 : Int)))]) (fun x => [(9, 51, la.l), (10, 33, x.2.1.l)]) (fun x => CtxA wA w2 X2 ((.slice (some ⟨b2, 0, none⟩) n n, .row 3 1 (is x.2.2.2)) :: (.slice (some ⟨b1, 0, none⟩) n n, .row 3 1 (is x.2.2.1)) :: M)) (fun x => x.1 + 1 ≤ 2 * n ∧ SIs x.2.1 n k x.1 A ng ∧ x.2.2 = cntSk n k x.1) (fun x => 2 * n - x.1) (0, (⟨0, 0, 0, 0, 0, 0, 0, 0, 0, 0, none, 0, 0, 9, (k : Int), 0, 0, none, 0, 0, none, 0, 0, A, ng, cg, 0⟩ : SeP), (List.replicate n 0, List.replicate n 0)) ⟨by omega, ⟨rfl, by show (0 : Int) = ((atI n 0 : Nat) : Int); simp only [atI]; split <;> rfl, rfl, by rw [show atI n 0 = 0 from by simp only [atI]; split <;> rfl]; exact seekP_0, rfl, rfl, hc⟩, rfl⟩ ⟨rfl, rfl, rfl, rfl, rfl, rfl, rfl, rfl, bnd hn, rfl, trivial⟩ ⟨rfl, rfl, trivial⟩ ?_ (hC := by rw [isRep])
    rintro ⟨i, s, st⟩ r ⟨hi, hs, hst⟩
    replace hi : i + 1 ≤ 2 * n := hi
    replace hs : SIs s n k i A ng := hs
    replace hst : st = cntSk n k i := hst
    have hl := cnt_len (n := n) (k := k) i
    rw [← hst] at hl
    obtain ⟨s1, s2⟩ := st
    dsimp only at hl
    obtain ⟨phase, at_, task, qk, qa, qb, p0, p1, p2, p3, Aq, nq, cq, o0, o1, o2, o3, Al, nl, cl, As, ns, cs, Ag, ng', cg', hold⟩ := s
    obtain ⟨h1, h2, h3, h4, h5, h6, h7⟩ := hs
    dsimp only at h1 h2 h3 h4 h5 h6 h7
    subst h1 h2 h3 h5 h6
    dsimp only [SeP.l]
    conv => whnf
    refine splitB.dec (fun hb => ?_) (fun hb => ?_)
    · have ei : atI n i = i := if_neg (by omega)
      rw [ei] at h4 ⊢
      have hcase : i = 0 ∨ (0 < i ∧ i < n) ∨ n ≤ i := by omega
      rcases hcase with h0 | ⟨h0, h0'⟩ | h0
      · subst h0
        rw [show ((0 : Nat) : Int) = 0 from rfl, seekP_0] at h4
        injection h4 with a1 a2 a3 a4
        subst a1 a2 a3 a4
        repeat' (first
          | (refine turn0_vc (c := ⟨none, 0, 0, none, 0, 0, 0, 0, 0, 0, []⟩) (la := la) (s := ⟨0, ((0 : Nat) : Int), 0, qk, qa, qb, p0, p1, p2, p3, Aq, nq, cq, 9, (k : Int), 0, 0, Al, nl, cl, As, ns, cs, Ag, ng', cg', hold⟩) (u := ⟨0, false, _, 0, Ag, ng', cg⟩) (by first | exact .inl rfl | exact .inr ⟨rfl, rfl⟩) hc rfl (meth0 (by show 1 ≤ la.seats ∧ la.seats ≤ 8; omega)) (fun t' M3 hR => ?_) (fun _ _ _ h => h.elim); obtain ⟨rfl, a', q0, q1, q2, q3, ha, ho, rfl⟩ := sought_no hR rfl; dsimp only [tdL, seekS, turn0, SeP.l]; conv => whnf)
          | (refine gsame_vc (xs := gs) hg ?_; conv => whnf)
          | (focus (decide))
          | (exact rnd (X := Nat × SeP × (List Int × List Int)) (0 + 1, (⟨0, a', 0, 0, 0, 0, 0, 0, 0, 0, none, 0, 0, q0, q1, q2, q3, none, 0, 0, none, 0, 0, Ag, ng', ng', 0⟩ : SeP), (s1, s2)) (by show 2 * n - (0 + 1) < 2 * n - 0; omega) ⟨by show 0 + 1 + 1 ≤ 2 * n; omega, round_end hn hla (by omega) ha ho, cnt_0 hst⟩ ⟨rfl, rfl, rfl, rfl, rfl, rfl, rfl, rfl, rfl, ixw (by omega), trivial⟩ ⟨rfl, rfl, trivial⟩)
          | (refine splitB.isF ?_ ?_; (focus (simp only [eqCells, beq_self_eq_true, Bool.and_self, Bool.not_true]; done)); conv => whnf)
          | (refine splitB.isT ?_ ?_; (focus (simp only [eqCells, beq_self_eq_true, Bool.and_self]; done)); conv => whnf)
          | (refine opMkI (by rfl) (tab_ok _ _ (by rfl)) (by rfl) ?_; conv => whnf)
          | (refine opPan (by rfl) (by rfl) ?_; conv => whnf)
          | (refine JoinVC.go ?_; conv => whnf)
          | (refine RetA.go ?_; conv => whnf)
          | (refine PanA.go ?_; conv => whnf)
          | (refine And.intro ?_ ?_ <;> conv => whnf)
          | (refine ldA (by repeat (first | exact List.Mem.head _ | refine List.Mem.tail _ ?_)) (tab_ok _ _ (by rfl)) (by rfl) (by rfl) ?_; conv => whnf)
          | (refine ldsA (by repeat (first | exact List.Mem.head _ | refine List.Mem.tail _ ?_)) (tab_ok _ _ (by rfl)) (by rfl) ?_; conv => whnf)
          | (refine stA (tab_ok _ _ (by rfl)) (by repeat (first | exact AtE.here | apply AtE.there)) ?_; conv => whnf)
          | (refine splitB.dec (fun hb => ?_) (fun hb => ?_) <;> first | (exfalso; omega) | (conv => whnf))
          | (refine splitB.ndec (fun hb => ?_) (fun hb => ?_) <;> first | (exfalso; omega) | (conv => whnf))
          | (refine splitB.eqI (fun hb => ?_) (fun hb => ?_) <;> first | (exfalso; omega) | (conv => whnf))
          | (refine splitB.neI (fun hb => ?_) (fun hb => ?_) <;> first | (exfalso; omega) | (conv => whnf))
          | (intro r bx; conv => whnf))


      · rw [seekP_lt hn hk8 h0 h0'] at h4
        injection h4 with a1 a2 a3 a4
        subst a1 a2 a3 a4
        have hj := Nat.mod_lt (k + i) (y := n) (by omega)
        repeat' (first
          | (refine idxBN ((k + i) % n) rfl (Nat.mod_lt _ (by omega)) ?_; conv => whnf)
          | (refine ldRI (xs := s1) ((k + i) % n) rfl (by repeat (first | exact List.Mem.head _ | refine List.Mem.tail _ ?_)) (Nat.mul_one _) (by rw [hl.1]; exact Nat.mod_lt _ (by omega)) ?_; conv => whnf)
          | (refine stRI (xs := s1) ((k + i) % n) rfl (by repeat (first | exact AtE.here | apply AtE.there)) (Nat.mul_one _) (by rw [hl.1]; exact Nat.mod_lt _ (by omega)) ?_; conv => whnf)
          | (refine turn0_vc (c := ⟨none, 0, 0, none, 0, 0, 0, 0, 0, 0, []⟩) (la := la) (s := ⟨0, (i : Int), 0, qk, qa, qb, p0, p1, p2, p3, Aq, nq, cq, 10, (((k + i) % n : Nat) : Int), 0, 0, Al, nl, cl, As, ns, cs, Ag, ng', cg', hold⟩) (u := ⟨0, false, _, 0, Ag, ng', cg⟩) (by first | exact .inl rfl | exact .inr ⟨rfl, rfl⟩) hc rfl (meth0 (by show 1 ≤ la.seats ∧ la.seats ≤ 8; omega)) (fun t' M3 hR => ?_) (fun _ _ _ h => h.elim); obtain ⟨rfl, a', q0, q1, q2, q3, ha, ho, rfl⟩ := sought_no hR rfl; dsimp only [tdL, seekS, turn0, SeP.l]; conv => whnf)
          | (refine gsame_vc (xs := gs) hg ?_; conv => whnf)
          | (focus (decide))
          | (exact rnd (X := Nat × SeP × (List Int × List Int)) (i + 1, (⟨0, a', 0, 0, 0, 0, 0, 0, 0, 0, none, 0, 0, q0, q1, q2, q3, none, 0, 0, none, 0, 0, Ag, ng', ng', 0⟩ : SeP), (s1.set ((k + i) % n) (IntKind.i64.wrap (s1.getD ((k + i) % n) 0 + 1)), s2)) (by show 2 * n - (i + 1) < 2 * n - i; omega) ⟨by show i + 1 + 1 ≤ 2 * n; omega, round_end hn hla (by omega) ha ho, cnt_mid h0 h0' hst⟩ ⟨rfl, rfl, rfl, rfl, rfl, rfl, rfl, rfl, rfl, ixw (by omega), trivial⟩ ⟨rfl, rfl, trivial⟩)
          | (refine splitB.isF ?_ ?_; (focus (simp only [eqCells, beq_self_eq_true, Bool.and_self, Bool.not_true]; done)); conv => whnf)
          | (refine splitB.isT ?_ ?_; (focus (simp only [eqCells, beq_self_eq_true, Bool.and_self]; done)); conv => whnf)
          | (refine opMkI (by rfl) (tab_ok _ _ (by rfl)) (by rfl) ?_; conv => whnf)
          | (refine opPan (by rfl) (by rfl) ?_; conv => whnf)
          | (refine JoinVC.go ?_; conv => whnf)
          | (refine RetA.go ?_; conv => whnf)
          | (refine PanA.go ?_; conv => whnf)
          | (refine And.intro ?_ ?_ <;> conv => whnf)
          | (refine ldA (by repeat (first | exact List.Mem.head _ | refine List.Mem.tail _ ?_)) (tab_ok _ _ (by rfl)) (by rfl) (by rfl) ?_; conv => whnf)
          | (refine ldsA (by repeat (first | exact List.Mem.head _ | refine List.Mem.tail _ ?_)) (tab_ok _ _ (by rfl)) (by rfl) ?_; conv => whnf)
          | (refine stA (tab_ok _ _ (by rfl)) (by repeat (first | exact AtE.here | apply AtE.there)) ?_; conv => whnf)
          | (refine splitB.dec (fun hb => ?_) (fun hb => ?_) <;> first | (exfalso; omega) | (conv => whnf))
          | (refine splitB.ndec (fun hb => ?_) (fun hb => ?_) <;> first | (exfalso; omega) | (conv => whnf))
          | (refine splitB.eqI (fun hb => ?_) (fun hb => ?_) <;> first | (exfalso; omega) | (conv => whnf))
          | (refine splitB.neI (fun hb => ?_) (fun hb => ?_) <;> first | (exfalso; omega) | (conv => whnf))
          | (intro r bx; conv => whnf))


      · rw [seekP_ge hn hk8 h0 (by omega)] at h4
        injection h4 with a1 a2 a3 a4
        subst a1 a2 a3 a4
        have hj := Nat.mod_lt (k + i + 1 - n) (y := n) (by omega)
        repeat' (first
          | (refine idxBN ((k + i + 1 - n) % n) rfl (Nat.mod_lt _ (by omega)) ?_; conv => whnf)
          | (refine ldRI (xs := s2) ((k + i + 1 - n) % n) rfl (by repeat (first | exact List.Mem.head _ | refine List.Mem.tail _ ?_)) (Nat.mul_one _) (by rw [hl.2]; exact Nat.mod_lt _ (by omega)) ?_; conv => whnf)
          | (refine stRI (xs := s2) ((k + i + 1 - n) % n) rfl (by repeat (first | exact AtE.here | apply AtE.there)) (Nat.mul_one _) (by rw [hl.2]; exact Nat.mod_lt _ (by omega)) ?_; conv => whnf)
          | (refine turn0_vc (c := ⟨none, 0, 0, none, 0, 0, 0, 0, 0, 0, []⟩) (la := la) (s := ⟨0, (i : Int), 0, qk, qa, qb, p0, p1, p2, p3, Aq, nq, cq, 16, 0, (((k + i + 1 - n) % n : Nat) : Int), (k : Int), Al, nl, cl, As, ns, cs, Ag, ng', cg', hold⟩) (u := ⟨0, false, _, 0, Ag, ng', cg⟩) (by first | exact .inl rfl | exact .inr ⟨rfl, rfl⟩) hc rfl (meth0 (by show 1 ≤ la.seats ∧ la.seats ≤ 8; omega)) (fun t' M3 hR => ?_) (fun _ _ _ h => h.elim); obtain ⟨rfl, a', q0, q1, q2, q3, ha, ho, rfl⟩ := sought_no hR rfl; dsimp only [tdL, seekS, turn0, SeP.l]; conv => whnf)
          | (refine gsame_vc (xs := gs) hg ?_; conv => whnf)
          | (focus (decide))
          | (exact rnd (X := Nat × SeP × (List Int × List Int)) (i + 1, (⟨0, a', 0, 0, 0, 0, 0, 0, 0, 0, none, 0, 0, q0, q1, q2, q3, none, 0, 0, none, 0, 0, Ag, ng', ng', 0⟩ : SeP), (s1, s2.set ((k + i + 1 - n) % n) (IntKind.i64.wrap (s2.getD ((k + i + 1 - n) % n) 0 + 1)))) (by show 2 * n - (i + 1) < 2 * n - i; omega) ⟨by show i + 1 + 1 ≤ 2 * n; omega, round_end hn hla (by omega) ha ho, cnt_hi (by omega) h0 hst⟩ ⟨rfl, rfl, rfl, rfl, rfl, rfl, rfl, rfl, rfl, ixw (by omega), trivial⟩ ⟨rfl, rfl, trivial⟩)
          | (refine splitB.isF ?_ ?_; (focus (simp only [eqCells, beq_self_eq_true, Bool.and_self, Bool.not_true]; done)); conv => whnf)
          | (refine splitB.isT ?_ ?_; (focus (simp only [eqCells, beq_self_eq_true, Bool.and_self]; done)); conv => whnf)
          | (refine opMkI (by rfl) (tab_ok _ _ (by rfl)) (by rfl) ?_; conv => whnf)
          | (refine opPan (by rfl) (by rfl) ?_; conv => whnf)
          | (refine JoinVC.go ?_; conv => whnf)
          | (refine RetA.go ?_; conv => whnf)
          | (refine PanA.go ?_; conv => whnf)
          | (refine And.intro ?_ ?_ <;> conv => whnf)
          | (refine ldA (by repeat (first | exact List.Mem.head _ | refine List.Mem.tail _ ?_)) (tab_ok _ _ (by rfl)) (by rfl) (by rfl) ?_; conv => whnf)
          | (refine ldsA (by repeat (first | exact List.Mem.head _ | refine List.Mem.tail _ ?_)) (tab_ok _ _ (by rfl)) (by rfl) ?_; conv => whnf)
          | (refine stA (tab_ok _ _ (by rfl)) (by repeat (first | exact AtE.here | apply AtE.there)) ?_; conv => whnf)
          | (refine splitB.dec (fun hb => ?_) (fun hb => ?_) <;> first | (exfalso; omega) | (conv => whnf))
          | (refine splitB.ndec (fun hb => ?_) (fun hb => ?_) <;> first | (exfalso; omega) | (conv => whnf))
          | (refine splitB.eqI (fun hb => ?_) (fun hb => ?_) <;> first | (exfalso; omega) | (conv => whnf))
          | (refine splitB.neI (fun hb => ?_) (fun hb => ?_) <;> first | (exfalso; omega) | (conv => whnf))
          | (intro r bx; conv => whnf))


    · obtain rfl : i = 2 * n - 1 := by omega
      have ei : atI n (2 * n - 1) = 0 := if_pos (by omega)
      rw [ei] at h4 ⊢
      rw [show ((0 : Nat) : Int) = 0 from rfl, seekP_0] at h4
      injection h4 with a1 a2 a3 a4
      subst a1 a2 a3 a4
      rw [cnt_end hn.2 hk8] at hst
      injection hst with e5 e6
      subst e5 e6
      conv => whnf
      refine LoopVC.on (X := Nat) (fun j => [(6, .v (.bool false)), (7, .v (.int .i64 (n : Int))), (8, .v (.int .i64 (k : Int))), (10, .p 10 0), (11, .v (.slice (some ⟨b1, 0, none⟩) n n)), (12, .v (.slice (some ⟨b2, 0, none⟩) n n)), (187, .v (.int .i64 (n : Int))), (188, .v (.int .i64 (j : Int)))]) (fun j => [(10, 33, (⟨0, ((0 : Nat) : Int), 0, qk, qa, qb, p0, p1, p2, p3, Aq, nq, cq, 9, (k : Int), 0, 0, Al, nl, cl, As, ns, cs, Ag, ng', cg', hold⟩ : SeP).l)]) (fun j => CtxA wA w2 X2 ((.slice (some ⟨b2, 0, none⟩) n n, .row 3 1 (is (wantSk n k))) :: (.slice (some ⟨b1, 0, none⟩) n n, .row 3 1 (is (wantSk n k))) :: M)) (fun j => j ≤ n) (fun j => n - j) 0 (Nat.zero_le _) ⟨rfl, rfl, rfl, rfl, rfl, rfl, rfl, rfl, trivial⟩ ⟨rfl, trivial⟩ ?_
      intro j r2 hj
      replace hj : j ≤ n := hj
      dsimp only [SeP.l]
      conv => whnf
      refine splitB.dec (fun hb => ?_) (fun hb => ?_)
      · have hw := want_at (n := n) (k := k) (j := j) (by omega)
        have hwl := want_len (n := n) (k := k)
        by_cases hjk : j = k
        · rw [if_pos hjk] at hw
          conv => whnf
          repeat' (first
            | (refine idxBN j rfl (by omega) ?_; conv => whnf)
            | (refine ldRI (xs := wantSk n k) j rfl (by repeat (first | exact List.Mem.head _ | refine List.Mem.tail _ ?_)) (Nat.mul_one _) (by omega) ?_; rw [hw]; conv => whnf)
            | (exact rnd (X := Nat) (j + 1) (by show n - (j + 1) < n - j; omega) (by show j + 1 ≤ n; omega) ⟨rfl, rfl, rfl, rfl, rfl, rfl, rfl, ixw (by omega), trivial⟩ ⟨rfl, trivial⟩)
            | (refine opMkI (by rfl) (tab_ok _ _ (by rfl)) (by rfl) ?_; conv => whnf)
            | (refine opPan (by rfl) (by rfl) ?_; conv => whnf)
            | (refine JoinVC.go ?_; conv => whnf)
            | (refine RetA.go ?_; conv => whnf)
            | (refine PanA.go ?_; conv => whnf)
            | (refine And.intro ?_ ?_ <;> conv => whnf)
            | (refine ldA (by repeat (first | exact List.Mem.head _ | refine List.Mem.tail _ ?_)) (tab_ok _ _ (by rfl)) (by rfl) (by rfl) ?_; conv => whnf)
            | (refine ldsA (by repeat (first | exact List.Mem.head _ | refine List.Mem.tail _ ?_)) (tab_ok _ _ (by rfl)) (by rfl) ?_; conv => whnf)
            | (refine stA (tab_ok _ _ (by rfl)) (by repeat (first | exact AtE.here | apply AtE.there)) ?_; conv => whnf)
            | (refine splitB.dec (fun hb => ?_) (fun hb => ?_) <;> first | (exfalso; omega) | (conv => whnf))
            | (refine splitB.ndec (fun hb => ?_) (fun hb => ?_) <;> first | (exfalso; omega) | (conv => whnf))
            | (refine splitB.eqI (fun hb => ?_) (fun hb => ?_) <;> first | (exfalso; omega) | (conv => whnf))
            | (refine splitB.neI (fun hb => ?_) (fun hb => ?_) <;> first | (exfalso; omega) | (conv => whnf))
            | (intro r bx; conv => whnf))
        · rw [if_neg hjk] at hw
          conv => whnf
          repeat' (first
            | (refine idxBN j rfl (by omega) ?_; conv => whnf)
            | (refine ldRI (xs := wantSk n k) j rfl (by repeat (first | exact List.Mem.head _ | refine List.Mem.tail _ ?_)) (Nat.mul_one _) (by omega) ?_; rw [hw]; conv => whnf)
            | (exact rnd (X := Nat) (j + 1) (by show n - (j + 1) < n - j; omega) (by show j + 1 ≤ n; omega) ⟨rfl, rfl, rfl, rfl, rfl, rfl, rfl, ixw (by omega), trivial⟩ ⟨rfl, trivial⟩)
            | (refine opMkI (by rfl) (tab_ok _ _ (by rfl)) (by rfl) ?_; conv => whnf)
            | (refine opPan (by rfl) (by rfl) ?_; conv => whnf)
            | (refine JoinVC.go ?_; conv => whnf)
            | (refine RetA.go ?_; conv => whnf)
            | (refine PanA.go ?_; conv => whnf)
            | (refine And.intro ?_ ?_ <;> conv => whnf)
            | (refine ldA (by repeat (first | exact List.Mem.head _ | refine List.Mem.tail _ ?_)) (tab_ok _ _ (by rfl)) (by rfl) (by rfl) ?_; conv => whnf)
            | (refine ldsA (by repeat (first | exact List.Mem.head _ | refine List.Mem.tail _ ?_)) (tab_ok _ _ (by rfl)) (by rfl) ?_; conv => whnf)
            | (refine stA (tab_ok _ _ (by rfl)) (by repeat (first | exact AtE.here | apply AtE.there)) ?_; conv => whnf)
            | (refine splitB.dec (fun hb => ?_) (fun hb => ?_) <;> first | (exfalso; omega) | (conv => whnf))
            | (refine splitB.ndec (fun hb => ?_) (fun hb => ?_) <;> first | (exfalso; omega) | (conv => whnf))
            | (refine splitB.eqI (fun hb => ?_) (fun hb => ?_) <;> first | (exfalso; omega) | (conv => whnf))
            | (refine splitB.neI (fun hb => ?_) (fun hb => ?_) <;> first | (exfalso; omega) | (conv => whnf))
            | (intro r bx; conv => whnf))
      · conv => whnf
        repeat' (first
          | (refine alive_vc ?_; conv => whnf)
          | (refine splitB.isT ?_ ?_; (focus (simp only [eqCells, beq_self_eq_true, Bool.and_self]; done)); conv => whnf)
          | (refine opMkI (by rfl) (tab_ok _ _ (by rfl)) (by rfl) ?_; conv => whnf)
          | (refine opPan (by rfl) (by rfl) ?_; conv => whnf)
          | (refine JoinVC.go ?_; conv => whnf)
          | (refine RetA.go ?_; conv => whnf)
          | (refine PanA.go ?_; conv => whnf)
          | (refine And.intro ?_ ?_ <;> conv => whnf)
          | (refine ldA (by repeat (first | exact List.Mem.head _ | refine List.Mem.tail _ ?_)) (tab_ok _ _ (by rfl)) (by rfl) (by rfl) ?_; conv => whnf)
          | (refine ldsA (by repeat (first | exact List.Mem.head _ | refine List.Mem.tail _ ?_)) (tab_ok _ _ (by rfl)) (by rfl) ?_; conv => whnf)
          | (refine stA (tab_ok _ _ (by rfl)) (by repeat (first | exact AtE.here | apply AtE.there)) ?_; conv => whnf)
          | (refine splitB.dec (fun hb => ?_) (fun hb => ?_) <;> first | (exfalso; omega) | (conv => whnf))
          | (refine splitB.ndec (fun hb => ?_) (fun hb => ?_) <;> first | (exfalso; omega) | (conv => whnf))
          | (refine splitB.eqI (fun hb => ?_) (fun hb => ?_) <;> first | (exfalso; omega) | (conv => whnf))
          | (refine splitB.neI (fun hb => ?_) (fun hb => ?_) <;> first | (exfalso; omega) | (conv => whnf))
          | (intro r bx; conv => whnf))
        all_goals exact RetT.drop (K := K) M (.cons _ (.cons _ (.refl _))) (castB (by simp [eqCells]) hk)

  · conv => whnf
    refine mkN el23 n rfl (by omega) (fun b1 => ?_)
    conv => whnf
    refine mkN el23 n rfl (by omega) (fun b2 => ?_)
    conv => whnf
    refine LoopVC.on (X := Nat × SeP × (List Int × List Int)) (fun x => [(2, .v (.slice A ng cg)), (6, .v (.bool false)), (7, .v (.int .i64 (n : Int))), (8, .v (.int .i64 (k : Int))), (9, .p 9 0), (10, .p 10 0), (11, .v (.slice (some ⟨b2, 0, none⟩) n n)), (12, .v (.slice (some ⟨b1, 0, none⟩) n n)), (44, .v (.int .i64 ((2 * n - 1 : Nat) : Int))), (45, .v (.int .i64 (x.1 : Int)))]) (fun x => [(9, 51, la.l), (10, 33, x.2.1.l)]) (fun x => CtxA wA w2 X2 ((.slice (some ⟨b2, 0, none⟩) n n, .row 3 1 (is x.2.2.1)) :: (.slice (some ⟨b1, 0, none⟩) n n, .row 3 1 (is x.2.2.2)) :: M)) (fun x => x.1 + 1 ≤ 2 * n ∧ SIs x.2.1 n k x.1 A ng ∧ x.2.2 = cntSk n k x.1) (fun x => 2 * n - x.1) (0, (⟨0, 0, 0, 0, 0, 0, 0, 0, 0, 0, none, 0, 0, 9, (k : Int), 0, 0, none, 0, 0, none, 0, 0, A, ng, cg, 0⟩ : SeP), (List.replicate n 0, List.replicate n 0)) ⟨by omega, ⟨rfl, by show (0 : Int) = ((atI n 0 : Nat) : Int); simp only [atI]; split <;> rfl, rfl, by rw [show atI n 0 = 0 from by simp only [atI]; split <;> rfl]; exact seekP_0, rfl, rfl, hc⟩, rfl⟩ ⟨rfl, rfl, rfl, rfl, rfl, rfl, rfl, rfl, bnd hn, rfl, trivial⟩ ⟨rfl, rfl, trivial⟩ ?_ (hC := by rw [isRep])
    rintro ⟨i, s, st⟩ r ⟨hi, hs, hst⟩
    replace hi : i + 1 ≤ 2 * n := hi
    replace hs : SIs s n k i A ng := hs
    replace hst : st = cntSk n k i := hst
    have hl := cnt_len (n := n) (k := k) i
    rw [← hst] at hl
    obtain ⟨s1, s2⟩ := st
    dsimp only at hl
    obtain ⟨phase, at_, task, qk, qa, qb, p0, p1, p2, p3, Aq, nq, cq, o0, o1, o2, o3, Al, nl, cl, As, ns, cs, Ag, ng', cg', hold⟩ := s
    obtain ⟨h1, h2, h3, h4, h5, h6, h7⟩ := hs
    dsimp only at h1 h2 h3 h4 h5 h6 h7
    subst h1 h2 h3 h5 h6
    dsimp only [SeP.l]
    conv => whnf
    refine splitB.dec (fun hb => ?_) (fun hb => ?_)
    · have ei : atI n i = i := if_neg (by omega)
      rw [ei] at h4 ⊢
      have hcase : i = 0 ∨ (0 < i ∧ i < n) ∨ n ≤ i := by omega
      rcases hcase with h0 | ⟨h0, h0'⟩ | h0
      · subst h0
        rw [show ((0 : Nat) : Int) = 0 from rfl, seekP_0] at h4
        injection h4 with a1 a2 a3 a4
        subst a1 a2 a3 a4
        repeat' (first
          | (refine turn0_vc (c := ⟨none, 0, 0, none, 0, 0, 0, 0, 0, 0, []⟩) (la := la) (s := ⟨0, ((0 : Nat) : Int), 0, qk, qa, qb, p0, p1, p2, p3, Aq, nq, cq, 9, (k : Int), 0, 0, Al, nl, cl, As, ns, cs, Ag, ng', cg', hold⟩) (u := ⟨0, false, _, 0, Ag, ng', cg⟩) (by first | exact .inl rfl | exact .inr ⟨rfl, rfl⟩) hc rfl (meth0 (by show 1 ≤ la.seats ∧ la.seats ≤ 8; omega)) (fun t' M3 hR => ?_) (fun _ _ _ h => h.elim); obtain ⟨rfl, a', q0, q1, q2, q3, ha, ho, rfl⟩ := sought_no hR rfl; dsimp only [tdL, seekS, turn0, SeP.l]; conv => whnf)
          | (refine gsame_vc (xs := gs) hg ?_; conv => whnf)
          | (focus (decide))
          | (exact rnd (X := Nat × SeP × (List Int × List Int)) (0 + 1, (⟨0, a', 0, 0, 0, 0, 0, 0, 0, 0, none, 0, 0, q0, q1, q2, q3, none, 0, 0, none, 0, 0, Ag, ng', ng', 0⟩ : SeP), (s1, s2)) (by show 2 * n - (0 + 1) < 2 * n - 0; omega) ⟨by show 0 + 1 + 1 ≤ 2 * n; omega, round_end hn hla (by omega) ha ho, cnt_0 hst⟩ ⟨rfl, rfl, rfl, rfl, rfl, rfl, rfl, rfl, rfl, ixw (by omega), trivial⟩ ⟨rfl, rfl, trivial⟩)
          | (refine splitB.isF ?_ ?_; (focus (simp only [eqCells, beq_self_eq_true, Bool.and_self, Bool.not_true]; done)); conv => whnf)
          | (refine splitB.isT ?_ ?_; (focus (simp only [eqCells, beq_self_eq_true, Bool.and_self]; done)); conv => whnf)
          | (refine opMkI (by rfl) (tab_ok _ _ (by rfl)) (by rfl) ?_; conv => whnf)
          | (refine opPan (by rfl) (by rfl) ?_; conv => whnf)
          | (refine JoinVC.go ?_; conv => whnf)
          | (refine RetA.go ?_; conv => whnf)
          | (refine PanA.go ?_; conv => whnf)
          | (refine And.intro ?_ ?_ <;> conv => whnf)
          | (refine ldA (by repeat (first | exact List.Mem.head _ | refine List.Mem.tail _ ?_)) (tab_ok _ _ (by rfl)) (by rfl) (by rfl) ?_; conv => whnf)
          | (refine ldsA (by repeat (first | exact List.Mem.head _ | refine List.Mem.tail _ ?_)) (tab_ok _ _ (by rfl)) (by rfl) ?_; conv => whnf)
          | (refine stA (tab_ok _ _ (by rfl)) (by repeat (first | exact AtE.here | apply AtE.there)) ?_; conv => whnf)
          | (refine splitB.dec (fun hb => ?_) (fun hb => ?_) <;> first | (exfalso; omega) | (conv => whnf))
          | (refine splitB.ndec (fun hb => ?_) (fun hb => ?_) <;> first | (exfalso; omega) | (conv => whnf))
          | (refine splitB.eqI (fun hb => ?_) (fun hb => ?_) <;> first | (exfalso; omega) | (conv => whnf))
          | (refine splitB.neI (fun hb => ?_) (fun hb => ?_) <;> first | (exfalso; omega) | (conv => whnf))
          | (intro r bx; conv => whnf))


      · rw [seekP_lt hn hk8 h0 h0'] at h4
        injection h4 with a1 a2 a3 a4
        subst a1 a2 a3 a4
        have hj := Nat.mod_lt (k + i) (y := n) (by omega)
        repeat' (first
          | (refine idxBN ((k + i) % n) rfl (Nat.mod_lt _ (by omega)) ?_; conv => whnf)
          | (refine ldRI (xs := s1) ((k + i) % n) rfl (by repeat (first | exact List.Mem.head _ | refine List.Mem.tail _ ?_)) (Nat.mul_one _) (by rw [hl.1]; exact Nat.mod_lt _ (by omega)) ?_; conv => whnf)
          | (refine stRI (xs := s1) ((k + i) % n) rfl (by repeat (first | exact AtE.here | apply AtE.there)) (Nat.mul_one _) (by rw [hl.1]; exact Nat.mod_lt _ (by omega)) ?_; conv => whnf)
          | (refine turn0_vc (c := ⟨none, 0, 0, none, 0, 0, 0, 0, 0, 0, []⟩) (la := la) (s := ⟨0, (i : Int), 0, qk, qa, qb, p0, p1, p2, p3, Aq, nq, cq, 10, (((k + i) % n : Nat) : Int), 0, 0, Al, nl, cl, As, ns, cs, Ag, ng', cg', hold⟩) (u := ⟨0, false, _, 0, Ag, ng', cg⟩) (by first | exact .inl rfl | exact .inr ⟨rfl, rfl⟩) hc rfl (meth0 (by show 1 ≤ la.seats ∧ la.seats ≤ 8; omega)) (fun t' M3 hR => ?_) (fun _ _ _ h => h.elim); obtain ⟨rfl, a', q0, q1, q2, q3, ha, ho, rfl⟩ := sought_no hR rfl; dsimp only [tdL, seekS, turn0, SeP.l]; conv => whnf)
          | (refine gsame_vc (xs := gs) hg ?_; conv => whnf)
          | (focus (decide))
          | (exact rnd (X := Nat × SeP × (List Int × List Int)) (i + 1, (⟨0, a', 0, 0, 0, 0, 0, 0, 0, 0, none, 0, 0, q0, q1, q2, q3, none, 0, 0, none, 0, 0, Ag, ng', ng', 0⟩ : SeP), (s1.set ((k + i) % n) (IntKind.i64.wrap (s1.getD ((k + i) % n) 0 + 1)), s2)) (by show 2 * n - (i + 1) < 2 * n - i; omega) ⟨by show i + 1 + 1 ≤ 2 * n; omega, round_end hn hla (by omega) ha ho, cnt_mid h0 h0' hst⟩ ⟨rfl, rfl, rfl, rfl, rfl, rfl, rfl, rfl, rfl, ixw (by omega), trivial⟩ ⟨rfl, rfl, trivial⟩)
          | (refine splitB.isF ?_ ?_; (focus (simp only [eqCells, beq_self_eq_true, Bool.and_self, Bool.not_true]; done)); conv => whnf)
          | (refine splitB.isT ?_ ?_; (focus (simp only [eqCells, beq_self_eq_true, Bool.and_self]; done)); conv => whnf)
          | (refine opMkI (by rfl) (tab_ok _ _ (by rfl)) (by rfl) ?_; conv => whnf)
          | (refine opPan (by rfl) (by rfl) ?_; conv => whnf)
          | (refine JoinVC.go ?_; conv => whnf)
          | (refine RetA.go ?_; conv => whnf)
          | (refine PanA.go ?_; conv => whnf)
          | (refine And.intro ?_ ?_ <;> conv => whnf)
          | (refine ldA (by repeat (first | exact List.Mem.head _ | refine List.Mem.tail _ ?_)) (tab_ok _ _ (by rfl)) (by rfl) (by rfl) ?_; conv => whnf)
          | (refine ldsA (by repeat (first | exact List.Mem.head _ | refine List.Mem.tail _ ?_)) (tab_ok _ _ (by rfl)) (by rfl) ?_; conv => whnf)
          | (refine stA (tab_ok _ _ (by rfl)) (by repeat (first | exact AtE.here | apply AtE.there)) ?_; conv => whnf)
          | (refine splitB.dec (fun hb => ?_) (fun hb => ?_) <;> first | (exfalso; omega) | (conv => whnf))
          | (refine splitB.ndec (fun hb => ?_) (fun hb => ?_) <;> first | (exfalso; omega) | (conv => whnf))
          | (refine splitB.eqI (fun hb => ?_) (fun hb => ?_) <;> first | (exfalso; omega) | (conv => whnf))
          | (refine splitB.neI (fun hb => ?_) (fun hb => ?_) <;> first | (exfalso; omega) | (conv => whnf))
          | (intro r bx; conv => whnf))


      · rw [seekP_ge hn hk8 h0 (by omega)] at h4
        injection h4 with a1 a2 a3 a4
        subst a1 a2 a3 a4
        have hj := Nat.mod_lt (k + i + 1 - n) (y := n) (by omega)
        repeat' (first
          | (refine idxBN ((k + i + 1 - n) % n) rfl (Nat.mod_lt _ (by omega)) ?_; conv => whnf)
          | (refine ldRI (xs := s2) ((k + i + 1 - n) % n) rfl (by repeat (first | exact List.Mem.head _ | refine List.Mem.tail _ ?_)) (Nat.mul_one _) (by rw [hl.2]; exact Nat.mod_lt _ (by omega)) ?_; conv => whnf)
          | (refine stRI (xs := s2) ((k + i + 1 - n) % n) rfl (by repeat (first | exact AtE.here | apply AtE.there)) (Nat.mul_one _) (by rw [hl.2]; exact Nat.mod_lt _ (by omega)) ?_; conv => whnf)
          | (refine turn0_vc (c := ⟨none, 0, 0, none, 0, 0, 0, 0, 0, 0, []⟩) (la := la) (s := ⟨0, (i : Int), 0, qk, qa, qb, p0, p1, p2, p3, Aq, nq, cq, 16, 0, (((k + i + 1 - n) % n : Nat) : Int), (k : Int), Al, nl, cl, As, ns, cs, Ag, ng', cg', hold⟩) (u := ⟨0, false, _, 0, Ag, ng', cg⟩) (by first | exact .inl rfl | exact .inr ⟨rfl, rfl⟩) hc rfl (meth0 (by show 1 ≤ la.seats ∧ la.seats ≤ 8; omega)) (fun t' M3 hR => ?_) (fun _ _ _ h => h.elim); obtain ⟨rfl, a', q0, q1, q2, q3, ha, ho, rfl⟩ := sought_no hR rfl; dsimp only [tdL, seekS, turn0, SeP.l]; conv => whnf)
          | (refine gsame_vc (xs := gs) hg ?_; conv => whnf)
          | (focus (decide))
          | (exact rnd (X := Nat × SeP × (List Int × List Int)) (i + 1, (⟨0, a', 0, 0, 0, 0, 0, 0, 0, 0, none, 0, 0, q0, q1, q2, q3, none, 0, 0, none, 0, 0, Ag, ng', ng', 0⟩ : SeP), (s1, s2.set ((k + i + 1 - n) % n) (IntKind.i64.wrap (s2.getD ((k + i + 1 - n) % n) 0 + 1)))) (by show 2 * n - (i + 1) < 2 * n - i; omega) ⟨by show i + 1 + 1 ≤ 2 * n; omega, round_end hn hla (by omega) ha ho, cnt_hi (by omega) h0 hst⟩ ⟨rfl, rfl, rfl, rfl, rfl, rfl, rfl, rfl, rfl, ixw (by omega), trivial⟩ ⟨rfl, rfl, trivial⟩)
          | (refine splitB.isF ?_ ?_; (focus (simp only [eqCells, beq_self_eq_true, Bool.and_self, Bool.not_true]; done)); conv => whnf)
          | (refine splitB.isT ?_ ?_; (focus (simp only [eqCells, beq_self_eq_true, Bool.and_self]; done)); conv => whnf)
          | (refine opMkI (by rfl) (tab_ok _ _ (by rfl)) (by rfl) ?_; conv => whnf)
          | (refine opPan (by rfl) (by rfl) ?_; conv => whnf)
          | (refine JoinVC.go ?_; conv => whnf)
          | (refine RetA.go ?_; conv => whnf)
          | (refine PanA.go ?_; conv => whnf)
          | (refine And.intro ?_ ?_ <;> conv => whnf)
          | (refine ldA (by repeat (first | exact List.Mem.head _ | refine List.Mem.tail _ ?_)) (tab_ok _ _ (by rfl)) (by rfl) (by rfl) ?_; conv => whnf)
          | (refine ldsA (by repeat (first | exact List.Mem.head _ | refine List.Mem.tail _ ?_)) (tab_ok _ _ (by rfl)) (by rfl) ?_; conv => whnf)
          | (refine stA (tab_ok _ _ (by rfl)) (by repeat (first | exact AtE.here | apply AtE.there)) ?_; conv => whnf)
          | (refine splitB.dec (fun hb => ?_) (fun hb => ?_) <;> first | (exfalso; omega) | (conv => whnf))
          | (refine splitB.ndec (fun hb => ?_) (fun hb => ?_) <;> first | (exfalso; omega) | (conv => whnf))
          | (refine splitB.eqI (fun hb => ?_) (fun hb => ?_) <;> first | (exfalso; omega) | (conv => whnf))
          | (refine splitB.neI (fun hb => ?_) (fun hb => ?_) <;> first | (exfalso; omega) | (conv => whnf))
          | (intro r bx; conv => whnf))


    · obtain rfl : i = 2 * n - 1 := by omega
      have ei : atI n (2 * n - 1) = 0 := if_pos (by omega)
      rw [ei] at h4 ⊢
      rw [show ((0 : Nat) : Int) = 0 from rfl, seekP_0] at h4
      injection h4 with a1 a2 a3 a4
      subst a1 a2 a3 a4
      rw [cnt_end hn.2 hk8] at hst
      injection hst with e5 e6
      subst e5 e6
      conv => whnf
      refine LoopVC.on (X := Nat) (fun j => [(6, .v (.bool false)), (7, .v (.int .i64 (n : Int))), (8, .v (.int .i64 (k : Int))), (10, .p 10 0), (11, .v (.slice (some ⟨b2, 0, none⟩) n n)), (12, .v (.slice (some ⟨b1, 0, none⟩) n n)), (187, .v (.int .i64 (n : Int))), (188, .v (.int .i64 (j : Int)))]) (fun j => [(10, 33, (⟨0, ((0 : Nat) : Int), 0, qk, qa, qb, p0, p1, p2, p3, Aq, nq, cq, 9, (k : Int), 0, 0, Al, nl, cl, As, ns, cs, Ag, ng', cg', hold⟩ : SeP).l)]) (fun j => CtxA wA w2 X2 ((.slice (some ⟨b2, 0, none⟩) n n, .row 3 1 (is (wantSk n k))) :: (.slice (some ⟨b1, 0, none⟩) n n, .row 3 1 (is (wantSk n k))) :: M)) (fun j => j ≤ n) (fun j => n - j) 0 (Nat.zero_le _) ⟨rfl, rfl, rfl, rfl, rfl, rfl, rfl, rfl, trivial⟩ ⟨rfl, trivial⟩ ?_
      intro j r2 hj
      replace hj : j ≤ n := hj
      dsimp only [SeP.l]
      conv => whnf
      refine splitB.dec (fun hb => ?_) (fun hb => ?_)
      · have hw := want_at (n := n) (k := k) (j := j) (by omega)
        have hwl := want_len (n := n) (k := k)
        by_cases hjk : j = k
        · rw [if_pos hjk] at hw
          conv => whnf
          repeat' (first
            | (refine idxBN j rfl (by omega) ?_; conv => whnf)
            | (refine ldRI (xs := wantSk n k) j rfl (by repeat (first | exact List.Mem.head _ | refine List.Mem.tail _ ?_)) (Nat.mul_one _) (by omega) ?_; rw [hw]; conv => whnf)
            | (exact rnd (X := Nat) (j + 1) (by show n - (j + 1) < n - j; omega) (by show j + 1 ≤ n; omega) ⟨rfl, rfl, rfl, rfl, rfl, rfl, rfl, ixw (by omega), trivial⟩ ⟨rfl, trivial⟩)
            | (refine opMkI (by rfl) (tab_ok _ _ (by rfl)) (by rfl) ?_; conv => whnf)
            | (refine opPan (by rfl) (by rfl) ?_; conv => whnf)
            | (refine JoinVC.go ?_; conv => whnf)
            | (refine RetA.go ?_; conv => whnf)
            | (refine PanA.go ?_; conv => whnf)
            | (refine And.intro ?_ ?_ <;> conv => whnf)
            | (refine ldA (by repeat (first | exact List.Mem.head _ | refine List.Mem.tail _ ?_)) (tab_ok _ _ (by rfl)) (by rfl) (by rfl) ?_; conv => whnf)
            | (refine ldsA (by repeat (first | exact List.Mem.head _ | refine List.Mem.tail _ ?_)) (tab_ok _ _ (by rfl)) (by rfl) ?_; conv => whnf)
            | (refine stA (tab_ok _ _ (by rfl)) (by repeat (first | exact AtE.here | apply AtE.there)) ?_; conv => whnf)
            | (refine splitB.dec (fun hb => ?_) (fun hb => ?_) <;> first | (exfalso; omega) | (conv => whnf))
            | (refine splitB.ndec (fun hb => ?_) (fun hb => ?_) <;> first | (exfalso; omega) | (conv => whnf))
            | (refine splitB.eqI (fun hb => ?_) (fun hb => ?_) <;> first | (exfalso; omega) | (conv => whnf))
            | (refine splitB.neI (fun hb => ?_) (fun hb => ?_) <;> first | (exfalso; omega) | (conv => whnf))
            | (intro r bx; conv => whnf))
        · rw [if_neg hjk] at hw
          conv => whnf
          repeat' (first
            | (refine idxBN j rfl (by omega) ?_; conv => whnf)
            | (refine ldRI (xs := wantSk n k) j rfl (by repeat (first | exact List.Mem.head _ | refine List.Mem.tail _ ?_)) (Nat.mul_one _) (by omega) ?_; rw [hw]; conv => whnf)
            | (exact rnd (X := Nat) (j + 1) (by show n - (j + 1) < n - j; omega) (by show j + 1 ≤ n; omega) ⟨rfl, rfl, rfl, rfl, rfl, rfl, rfl, ixw (by omega), trivial⟩ ⟨rfl, trivial⟩)
            | (refine opMkI (by rfl) (tab_ok _ _ (by rfl)) (by rfl) ?_; conv => whnf)
            | (refine opPan (by rfl) (by rfl) ?_; conv => whnf)
            | (refine JoinVC.go ?_; conv => whnf)
            | (refine RetA.go ?_; conv => whnf)
            | (refine PanA.go ?_; conv => whnf)
            | (refine And.intro ?_ ?_ <;> conv => whnf)
            | (refine ldA (by repeat (first | exact List.Mem.head _ | refine List.Mem.tail _ ?_)) (tab_ok _ _ (by rfl)) (by rfl) (by rfl) ?_; conv => whnf)
            | (refine ldsA (by repeat (first | exact List.Mem.head _ | refine List.Mem.tail _ ?_)) (tab_ok _ _ (by rfl)) (by rfl) ?_; conv => whnf)
            | (refine stA (tab_ok _ _ (by rfl)) (by repeat (first | exact AtE.here | apply AtE.there)) ?_; conv => whnf)
            | (refine splitB.dec (fun hb => ?_) (fun hb => ?_) <;> first | (exfalso; omega) | (conv => whnf))
            | (refine splitB.ndec (fun hb => ?_) (fun hb => ?_) <;> first | (exfalso; omega) | (conv => whnf))
            | (refine splitB.eqI (fun hb => ?_) (fun hb => ?_) <;> first | (exfalso; omega) | (conv => whnf))
            | (refine splitB.neI (fun hb => ?_) (fun hb => ?_) <;> first | (exfalso; omega) | (conv => whnf))
            | (intro r bx; conv => whnf))
      · conv => whnf
        repeat' (first
          | (refine alive_vc ?_; conv => whnf)
          | (refine splitB.isT ?_ ?_; (focus (simp only [eqCells, beq_self_eq_true, Bool.and_self]; done)); conv => whnf)
          | (refine opMkI (by rfl) (tab_ok _ _ (by rfl)) (by rfl) ?_; conv => whnf)
          | (refine opPan (by rfl) (by rfl) ?_; conv => whnf)
          | (refine JoinVC.go ?_; conv => whnf)
          | (refine RetA.go ?_; conv => whnf)
          | (refine PanA.go ?_; conv => whnf)
          | (refine And.intro ?_ ?_ <;> conv => whnf)
          | (refine ldA (by repeat (first | exact List.Mem.head _ | refine List.Mem.tail _ ?_)) (tab_ok _ _ (by rfl)) (by rfl) (by rfl) ?_; conv => whnf)
          | (refine ldsA (by repeat (first | exact List.Mem.head _ | refine List.Mem.tail _ ?_)) (tab_ok _ _ (by rfl)) (by rfl) ?_; conv => whnf)
          | (refine stA (tab_ok _ _ (by rfl)) (by repeat (first | exact AtE.here | apply AtE.there)) ?_; conv => whnf)
          | (refine splitB.dec (fun hb => ?_) (fun hb => ?_) <;> first | (exfalso; omega) | (conv => whnf))
          | (refine splitB.ndec (fun hb => ?_) (fun hb => ?_) <;> first | (exfalso; omega) | (conv => whnf))
          | (refine splitB.eqI (fun hb => ?_) (fun hb => ?_) <;> first | (exfalso; omega) | (conv => whnf))
          | (refine splitB.neI (fun hb => ?_) (fun hb => ?_) <;> first | (exfalso; omega) | (conv => whnf))
          | (intro r bx; conv => whnf))
        all_goals exact RetT.drop (K := K) M (.cons _ (.cons _ (.refl _))) (castB (by simp [eqCells]) hk)

end
end Go.Proofs.YtgaopcbjhepklaaGreat
