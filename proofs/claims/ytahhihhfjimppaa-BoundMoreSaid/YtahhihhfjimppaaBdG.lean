/- walk: ranked -/
import Derived.Test.YtahhihhfjimppaaBdF
import Derived.Deep.DeepCutAuto
namespace Go.Proofs.Ytahhihhfjimppaa
open Go.RowKit
set_option linter.unusedSimpArgs false
set_option linter.unusedVariables false
set_option maxRecDepth 100000

/-- the strands of a row of uses -/
def Strs (w : World) (B : Nat) (A : Option Addr) (us : List Nat) : Prop := us = [] ∨ ∃ b off, A = some ⟨b, off, none⟩ ∧ b < B ∧ ∀ i (h : i < us.length), w.cell? ⟨b, off + i * 10, none⟩ = some (.int .i64 (us[i] : Int))
theorem Strs.keep {w w' : World} {B : Nat} {A : Option Addr} {us : List Nat} (h : Strs w B A us) (hk : ∀ p : Addr, p.block < B → w'.cell? p = w.cell? p) : Strs w' B A us := by
  rcases h with h | ⟨b, off, rfl, hb, hc⟩
  · exact .inl h
  · exact .inr ⟨b, off, rfl, hb, fun i hi => (hk _ hb).trans (hc i hi)⟩
theorem Strs.below {w w' : World} {B : Nat} {A : Option Addr} {us : List Nat} (h : Strs w B A us) (hb : Below B w w') : Strs w' B A us := h.keep fun _ hp => hb.cell hp
theorem Strs.more {w : World} {B B' : Nat} {A : Option Addr} {us : List Nat} (h : Strs w B A us) (hB : B ≤ B') : Strs w B' A us := by
  rcases h with h | ⟨b, off, rfl, hb, hc⟩
  · exact .inl h
  · exact .inr ⟨b, off, rfl, by omega, hc⟩
theorem Strs.on {w w' : World} {A : Option Addr} {us : List Nat} (h : Strs w w.heap.size A us) (hb : Below w.heap.size w w') : Strs w' w'.heap.size A us := (h.below hb).more hb.size
theorem Strs.at_ {w : World} {B : Nat} {A : Option Addr} {us : List Nat} (h : Strs w B A us) {i : Nat} (hi : i < us.length) : ∃ b off, A = some ⟨b, off, none⟩ ∧ b < B ∧ w.cell? ⟨b, off + i * 10, none⟩ = some (.int .i64 (us[i] : Int)) := by
  rcases h with h | ⟨b, off, rfl, hb, hc⟩
  · subst h; simp at hi
  · exact ⟨b, off, rfl, hb, hc i hi⟩

theorem own_ne {w : World} {B1 B2 n1 n2 s1 s2 : Nat} {e1 e2 : TypeId} {v1 v2 : Value} {xs1 xs2 : List Value} (h1 : w.ownsRow B1 e1 s1 v1 n1 xs1) (h2 : w.ownsRow B2 e2 s2 v2 n2 xs2) (he : e1 ≠ e2) : v1.ownBlock = none ∨ v1.ownBlock ≠ v2.ownBlock := by
  rcases h1.2 with ⟨hv, _⟩ | ⟨g, cap, cur, hv, _, hc, _⟩
  · left; rw [hv]; rfl
  · right
    rcases h2.2 with ⟨hv2, _⟩ | ⟨g2, cap2, cur2, hv2, _, hc2, _⟩
    · rw [hv, hv2]; simp [Value.ownBlock]
    · rw [hv, hv2]
      simp only [Value.ownBlock]
      intro e
      injection e with e
      subst e
      rw [hc] at hc2
      injection hc2 with hc2
      injection hc2 with _ hc2
      exact he hc2
theorem own_ne_map {w : World} {B1 n1 s1 b n : Nat} {e1 : TypeId} {v1 : Value} {xs1 : List Value} {f : Nat → Nat} (h1 : w.ownsRow B1 e1 s1 v1 n1 xs1) (h2 : MapF w b n f) : v1.ownBlock ≠ some b := by
  obtain ⟨es, c, hb⟩ := h2.blk
  rcases h1.2 with ⟨hv, _⟩ | ⟨g, cap, cur, hv, _, hc, _⟩
  · rw [hv]; simp [Value.ownBlock]
  · rw [hv]
    simp only [Value.ownBlock]
    intro e
    injection e with e
    subst e
    rw [hc] at hb
    injection hb with hb
    cases hb
/-- all that ranked has in memory -/
structure RkI (w wr : World) (st : B.RS) (k : Nat) (bM : Nat) (vR vS : Value) (vs : List Value) : Prop where
  fam : Fam wr w.heap.size (vS :: vs) (st.strands :: st.ranks)
  out : wr.ownsRow w.heap.size 23 1 vR st.ranks.length vs
  map : MapF wr bM k st.most
  new : w.heap.size ≤ bM
  below : Below w.heap.size w wr
section
variable {w wr w' : World} {st : B.RS} {k bM : Nat} {vR vS : Value} {vs : List Value}
theorem grown_of_below (hb : Below wr.heap.size wr w') : wr.grownBy w' none := ⟨hb.os, hb.tape, hb.output, hb.size, fun i hi _ => hb.block i hi⟩
theorem RkI.on (I : RkI w wr st k bM vR vS vs) (hb : Below wr.heap.size wr w') : RkI w w' st k bM vR vS vs := by
  have hg := grown_of_below hb
  refine ⟨I.fam.kept hg (fun r hr => ?_), I.out.kept hg ?_, I.map.kept hg (by simp), I.new, I.below.trans (hb.mono I.below.size)⟩
  · cases h : ((vS :: vs)[r]).ownBlock with
    | none => exact .inl rfl
    | some g => exact .inr (by simp)
  · cases h : vR.ownBlock with
    | none => exact .inl rfl
    | some g => exact .inr (by simp)
end
theorem stN_at (le : Nat → Nat → Bool) (us : List Nat) {k : Nat} (hk : k < us.length) : B.stN le us (k + 1) = (B.stN le us k).step le k us[k] := by
  show (B.stN le us k).step le k (us.getD k 0) = _
  rw [List.getD_eq_getElem?_getD, List.getElem?_eq_getElem hk, Option.getD_some]

theorem strands_mem (le : Nat → Nat → Bool) (us : List Nat) : ∀ k, k ≤ us.length → ∀ x ∈ (B.stN le us k).strands, x ∈ us := by
  intro k
  induction k with
  | zero => intro _ x hx; simp [B.stN, B.init] at hx
  | succ k ih =>
    intro hk x hx
    rw [stN_at le us (by omega)] at hx
    have hx : x ∈ (if (B.stN le us k).most us[k] = 0 then (B.stN le us k).strands ++ [us[k]] else (B.stN le us k).strands) := hx
    split at hx
    · rcases List.mem_append.1 hx with h | h
      · exact ih (by omega) x h
      · rw [List.mem_singleton.1 h]; exact List.getElem_mem _
    · exact ih (by omega) x hx
section
variable {w wr w' : World} {st : B.RS} {k bM : Nat} {vR vS : Value} {vs : List Value}
theorem RkI.str (I : RkI w wr st k bM vR vS vs) : wr.ownsRow w.heap.size 3 1 vS st.strands.length (ns st.strands) := I.fam.row 0 (by simp)
theorem RkI.row (I : RkI w wr st k bM vR vS vs) {r : Nat} (hr : r < st.ranks.length) : ∃ h : r < vs.length, wr.ownsRow w.heap.size 3 1 vs[r] (st.ranks[r].length) (ns st.ranks[r]) := by
  have hl := I.fam.len
  simp only [List.length_cons] at hl
  have := I.fam.row (r + 1) (by simp; omega)
  exact ⟨by omega, this⟩
theorem RkI.vslen (I : RkI w wr st k bM vR vS vs) : vs.length = st.ranks.length := by have := I.fam.len; simpa using this
/-- the strands' row has grown -/
theorem RkI.addS (I : RkI w wr st k bM vR vS vs) {v' : Value} {x : Nat} {o : Obj} (hg : (wr.alloc o).grownBy w' vS.ownBlock)
    (ho : w'.ownsRow w.heap.size 3 1 v' (st.strands.length + 1) (ns st.strands ++ [.int .i64 (x : Int)])) (hat : v'.ownBlock = vS.ownBlock ∨ v'.ownBlock = some (wr.heap.size + 1)) :
    RkI w w' ⟨st.strands ++ [x], st.most, st.ranks⟩ k bM vR v' vs := by
  have f := I.fam.app (r := 0) (by simp) hg ho hat
  have n1 := own_ne I.out I.str (by decide)
  have n2 := own_ne_map I.str I.map
  refine ⟨f, (I.out.alloc o).kept hg n1, (I.map.kept (World.grownBy_alloc wr o none) (by simp)).kept hg (fun e => n2 e.symm), I.new, ?_⟩
  refine (I.below.alloc I.below.size o).grown hg ?_ fun g hg2 => (I.str.lt g hg2).1
  have := I.below.size; simp; omega
/-- the map has another entry -/
theorem RkI.put (I : RkI w wr st k bM vR vS vs) {f : Nat → Nat} (hg : wr.grownBy w' (some bM)) (hm : MapF w' bM (k + 1) f) : RkI w w' ⟨st.strands, f, st.ranks⟩ (k + 1) bM vR vS vs := by
  refine ⟨I.fam.kept hg (fun r hr => .inr ?_), I.out.kept hg (.inr (own_ne_map I.out I.map)), hm, I.new, I.below.grown hg I.below.size fun g hg2 => by injection hg2 with hg2; rw [← hg2]; exact I.new⟩
  exact own_ne_map (I.fam.row r (by rw [← I.fam.len]; exact hr)) I.map
/-- an empty rank more -/
theorem RkI.addR (I : RkI w wr st k bM vR vS vs) {v' : Value} {o : Obj} (hg : (wr.alloc o).grownBy w' vR.ownBlock)
    (ho : w'.ownsRow w.heap.size 23 1 v' (st.ranks.length + 1) (vs ++ [.slice none 0 0])) :
    RkI w w' ⟨st.strands, st.most, st.ranks ++ [[]]⟩ k bM v' vS (vs ++ [.slice none 0 0]) := by
  refine ⟨?_, by simpa using ho, (I.map.kept (World.grownBy_alloc wr o none) (by simp)).kept hg (fun e => own_ne_map I.out I.map e.symm), I.new, ?_⟩
  · have f := (I.fam.alloc o).kept hg (fun r hr => own_ne (I.fam.row r (by rw [← I.fam.len]; exact hr)) I.out (by decide))
    exact f.push
  · refine (I.below.alloc I.below.size o).grown hg ?_ fun g hg2 => (I.out.lt g hg2).1
    have := I.below.size; simp; omega
end
section
variable {w wr w' : World} {st : B.RS} {k bM gR cR : Nat} {vS : Value} {vs : List Value}
/-- a rank's row has grown, and lies in its place -/
theorem RkI.grow (I : RkI w wr st k bM (.slice (some ⟨gR, 0, none⟩) st.ranks.length cR) vS vs) {r : Nat} (hr : r < st.ranks.length) {hv : r < vs.length} {v' : Value} {x : Nat} {o : Obj} (hg : (wr.alloc o).grownBy w' vs[r].ownBlock)
    (ho : w'.ownsRow w.heap.size 3 1 v' (st.ranks[r].length + 1) (ns st.ranks[r] ++ [.int .i64 (x : Int)])) (hat : v'.ownBlock = vs[r].ownBlock ∨ v'.ownBlock = some (wr.heap.size + 1)) :
    w'.cell? ⟨gR, r, none⟩ = some vs[r] ∧ w'.frozen? ⟨gR, r, none⟩ = false ∧ RkI w (w'.setCell ⟨gR, r, none⟩ v') ⟨st.strands, st.most, st.ranks.set r (st.ranks[r] ++ [x])⟩ k bM (.slice (some ⟨gR, 0, none⟩) st.ranks.length cR) vS (vs.set r v') := by
  obtain ⟨_, orow⟩ := I.row hr
  have hvl := I.vslen
  have f := I.fam.app (r := r + 1) (by simp; omega) (x := x) (v' := v') hg ho hat
  have n1 := own_ne I.out orow (by decide)
  have n2 := own_ne_map orow I.map
  have o1 := (I.out.alloc o).kept hg n1
  have m1 := (I.map.kept (World.grownBy_alloc wr o none) (by simp)).kept hg (fun e => n2 e.symm)
  have b1 : Below w.heap.size w w' := (I.below.alloc I.below.size o).grown hg (by have := I.below.size; simp; omega) fun g hg2 => (orow.lt g hg2).1
  obtain ⟨s1, s2⟩ := o1.stored r v'
  have c1 := o1.cellAt r (by omega)
  rw [List.getElem?_eq_getElem (by omega)] at c1
  refine ⟨c1, o1.frozenAt r, ?_, ?_, ?_, I.new, ?_⟩
  · refine f.kept s2 (fun i hi => ?_)
    have hl2 := f.len
    have := own_ne (f.row i (by rw [← hl2]; exact hi)) o1 (by decide)
    exact this
  · show World.ownsRow _ _ _ _ _ (st.ranks.set r (st.ranks[r] ++ [x])).length _
    rw [List.length_set]; exact s1
  · exact m1.kept s2 (fun e => own_ne_map o1 m1 e.symm)
  · exact b1.grown s2 b1.size fun g hg2 => (o1.lt g (by simpa [Value.ownBlock] using hg2)).1
end
theorem info_row : (Try.prog.info? 23).map (fun i => (i.zero, i.size, i.bytes)) = some (some (.slice none 0 0), 1, 24) := by kernel_rfl
/-- what ranked leaves -/
def Ranked (w : World) (L : List (List Nat)) (e : Ending) (w' : World) : Prop :=
  ∃ v vs, e = .returned v ∧ w'.ownsRow w.heap.size 23 1 v L.length vs ∧ Fam w' w.heap.size vs L ∧ Below w.heap.size w w'

set_option maxHeartbeats 4000000 in
theorem ranked_any (us : List Nat) (P : List (Nat × Nat)) (A AP : Option Addr) (c cP : Nat) (w : World) (hu : Strs w w.heap.size A us) (hr : Rd w w.heap.size AP (tcs P)) (hl : us.length ≤ 100) (hP : P.length ≤ 1000) (hs : ∀ u ∈ us, u ≤ 1000) :
    Calls Try.prog 21 #[.slice A us.length c, .slice AP P.length cP] w (Ranked w (B.stN (S.lds P) us us.length).ranks) := by
  obtain ⟨i0, hi, hz0, hz1, hz2⟩ := info_parts info_int
  go_enter Try.func21, Try.ntmps21
  have hmk : (Instr.makeMap 82 none).run Try.prog w = .ok (.map (some w.heap.size)) (w.alloc (.map #[] 0)) := run_makeMap _ _
  go_wp2_with fail
  clear hmk
  have I0 : RkI w (w.alloc (.map #[] 0)) B.init 0 w.heap.size (.slice none 0 0) (.slice none 0 0) [] := by
    refine ⟨?_, World.ownsRow_nil _ _ _ _, MapF.made w, Nat.le_refl _, bel_new w _⟩
    have := (Fam.nil (w.alloc (.map #[] 0)) w.heap.size).push
    exact this
  go_loopg [5, 6, 16] us.length (fun gk s5 s6 s16 wr => ∃ (k : Nat) (vs : List Value) (AR AS : Option Addr) (cR cS : Nat), k + gk = us.length ∧ s16 = .int .i64 k ∧ s5 = .slice AR (B.stN (S.lds P) us k).ranks.length cR ∧ s6 = .slice AS (B.stN (S.lds P) us k).strands.length cS ∧ RkI w wr (B.stN (S.lds P) us k) k w.heap.size s5 s6 vs)
  case atStart => exact ⟨0, [], none, none, 0, 0, by omega, rfl, rfl, rfl, I0⟩
  case round =>
    clear I0
    obtain ⟨k, vs, AR, AS, cR, cS, hk, rfl, rfl, rfl, I⟩ := hrel
    have HK := Lib.hid hk
    have hok := B.stN_okay (S.lds P) us k
    by_cases hlt : k < us.length
    · clear hk
      have hltI : (k : Int) < (us.length : Int) := by omega
      obtain ⟨bA, oA, rfl, hbA, f⟩ := (hu.below I.below).at_ hlt
      have hu9 := hs us[k] (List.getElem_mem hlt)
      have HN := Lib.hid (stN_at (S.lds P) us hlt)
      have HSM : Hid (∀ x ∈ (B.stN (S.lds P) us k).strands, x ≤ 1000) := Lib.hid (fun x hx => hs x (strands_mem (S.lds P) us k (by omega) x hx))
      generalize us[k] = u at *
      generalize B.stN (S.lds P) us k = st at *
      have hsz := I.below.size
      have hbA2 : bA < wr.heap.size := by omega
      have hst9 : st.strands.length ≤ 100 := by have := hok.str; omega
      have hrk9 : st.ranks.length ≤ 100 := by have := hok.len; omega
      have hmo : ∀ x, st.most x ≤ 100 := fun x => by have := hok.most x; omega
      have HMO := Lib.hid hmo
      clear hmo
      obtain ⟨W1, rfl⟩ : ∃ W1, W1 = wr := ⟨wr, rfl⟩
      obtain ⟨G0, rfl⟩ : ∃ G0, G0 = gk := ⟨gk, rfl⟩
      go_wp2_with fail
      go_loopg [10, 26] st.strands.length (fun gk s10 s26 wr => ∃ (j : Nat), j + gk = st.strands.length ∧ s10 = .int .i64 ((B.bestFrom (S.lds P) st.most u (st.strands.take j) 0 : Nat) : Int) ∧ s26 = .int .i64 j ∧ RkI w wr st k w.heap.size (.slice AR st.ranks.length cR) (.slice AS st.strands.length cS) vs)
      case atStart => exact ⟨0, by omega, rfl, rfl, I⟩
      case round =>
        obtain ⟨j, hj, rfl, rfl, I2⟩ := hrel
        clear f I
        have HJ := Lib.hid hj
        by_cases hltj : j < st.strands.length
        · clear hj
          have hltJ : (j : Int) < (st.strands.length : Int) := by omega
          have rS := Rd.of_own I2.str
          obtain ⟨bS, oS, rfl, hbS, fS⟩ := rS.at_ (ns_at st.strands j hltj)
          have rP := (hr.below I2.below).more I2.below.size
          have hx9 := HSM.out _ (List.getElem_mem hltj)
          have HBT := Lib.hid (B.bestFrom_take (le := S.lds P) (most := st.most) (u := u) st.strands hltj)
          have hbf : B.bestFrom (S.lds P) st.most u (st.strands.take j) 0 ≤ 100 := B.bestFrom_le HMO.out _ _ (Nat.zero_le _)
          have hmx := HMO.out (st.strands[j])
          generalize st.strands[j] = x at *
          generalize B.bestFrom (S.lds P) st.most u (st.strands.take j) 0 = r0 at *
          clear rS
          go_wp2_with (go_at_call 22; refine (leads_any P _ _ x u _ rP hP).mono ?_)
          rintro e3 w3 ⟨rfl, b3⟩
          have I3 := I2.on b3
          clear I2 fS rP b3 hbS
          cases hle : S.lds P x u
          · rw [hle] at HBT
            have HB2 := Lib.hid (HBT.out.trans (if_neg (by decide)))
            clear hle HBT
            go_wp2_with fail
            go_roundg (gk - 1)
            case measure => have := HJ.out; omega
            case rel => exact ⟨j + 1, by have := HJ.out; omega, by rw [HB2.out], by go_num, I3⟩
          · rw [hle] at HBT
            have HB2 := Lib.hid (HBT.out.trans (if_pos rfl))
            have hlk := I3.map.look hx9
            clear hle HBT
            generalize st.most x = mx at *
            go_wp2_with fail
            all_goals
              go_roundg (gk - 1)
              case measure => have := HJ.out; omega
              case rel => exact ⟨j + 1, by have := HJ.out; omega, by rw [HB2.out]; congr 1; omega, by go_num, I3⟩
        · have HR : Hid (B.bestFrom (S.lds P) st.most u (st.strands.take j) 0 = st.rank (S.lds P) u) := Lib.hid (by rw [List.take_of_length_le (by omega)]; rfl)
          have hrk := hok.rank (S.lds P) u
          rw [HR.out]
          have hlk := I2.map.look hu9
          clear hj
          generalize hrg : st.rank (S.lds P) u = r at *
          have HRG := Lib.hid hrg
          clear hrg
          have HMU := HMO.out u
          go_upto_if 43 with (fail)
          go_cut [6] (fun s6 wx => ∃ (AS2 : Option Addr) (cS2 : Nat) (str : List Nat), s6 = .slice AS2 str.length cS2 ∧ str.length ≤ 101 ∧ Hid (str = if st.most u = 0 then st.strands ++ [u] else st.strands) ∧ RkI w wx ⟨str, st.most, st.ranks⟩ k w.heap.size (.slice AR st.ranks.length cR) s6 vs)
          case first =>
            by_cases h0 : st.most u = 0
            · have HS0 : Hid (st.strands ++ [u] = if st.most u = 0 then st.strands ++ [u] else st.strands) := Lib.hid (by rw [if_pos h0])
              have q0 : (((st.most u : Nat) : Int) == 0) = true := by simpa using h0
              have hs2 := I2.below.size
              clear h0 hlk HR HRG
              go_wp2_with (at_builtin; refine wpList_append_own_at _ rfl (.tmp 44) (.tmp 46) 23 rfl w.heap.size 3 i0 _ 1 8 Try.underlying23 hi hz0 hz1 hz2 rfl (by omega) _ _ _ rfl (I2.str.alloc _) ⟨wr.heap.size, 0, none⟩ 1 1 [.int .i64 (u : Int)] rfl rfl ?c1 ?c2 ?c3 ?c4 ?c5 ?_)
              (first | (case c1 => exact cell_one_new _ _ _) | skip)
              (first | (case c2 => simp [Value.oneCell']) | skip)
              (first | (case c3 => simp only [maxLen]; omega) | skip)
              (first | (case c4 => omega) | skip)
              (first | (case c5 => omega) | (case c5 => simp; omega) | skip)
              intro v4 w4 ho4 hg4 _ hat4
              obtain ⟨A4, q4, hv4⟩ := own_formk ho4
              subst hv4
              have I4 := I2.addS hg4 ho4 (by simpa using hat4)
              clear ho4 hg4 hat4 I2
              go_wp2_with fail
              go_meet
              exact ⟨A4, q4, st.strands ++ [u], by simp, by simp; omega, HS0, I4⟩
            · have HS0 : Hid (st.strands = if st.most u = 0 then st.strands ++ [u] else st.strands) := Lib.hid (by rw [if_neg h0])
              have q0 : (((st.most u : Nat) : Int) == 0) = false := beq_false_of_ne (by omega)
              clear h0 hlk HR HRG
              go_wp2_with fail
              go_meet
              exact ⟨AS, cS, st.strands, rfl, by omega, HS0, I2⟩
          case rest =>
            obtain ⟨AS2, cS2, str, rfl, hstr, HSTR, I4⟩ := hcut
            clear I2 hlk HR HMU
            obtain ⟨w5, hrun, hm5, hg5⟩ := I4.map.upd (s := u) (v := r + 1) (by omega) hu9 (by omega)
            have I5 := I4.put hg5 hm5
            have hrun2 : (Instr.mapUpdate 82 (.map (some w.heap.size)) (.int .i64 (u : Int)) (.int .i64 ((r : Int) + 1))).run Try.prog wc = .ok () w5 := hrun
            have HMST : Hid ((fun x => if x = u then r + 1 else st.most x) = (st.step (S.lds P) k u).most) := Lib.hid (by rw [← HRG.out]; rfl)
            clear hrun hm5 hg5 I4
            generalize (fun x => if x = u then r + 1 else st.most x) = most2 at *
            go_upto_if 55 with (fail)
            go_cut [5] (fun s5 wx => ∃ (AR2 : Option Addr) (cR2 : Nat) (L : List (List Nat)) (vs2 : List Value), s5 = .slice AR2 L.length cR2 ∧ L.length ≤ 101 ∧ r < L.length ∧ Hid (∀ h : r < L.length, L.set r (L[r] ++ [k]) = B.addAt st.ranks r k ∧ L[r].length ≤ k) ∧ RkI w wx ⟨str, most2, L⟩ (k + 1) w.heap.size s5 (.slice AS2 str.length cS2) vs2)
            case first =>
              by_cases h0 : r = st.ranks.length
              · have HL : Hid (∀ h : r < (st.ranks ++ [[]]).length, (st.ranks ++ [[]]).set r ((st.ranks ++ [[]])[r] ++ [k]) = B.addAt st.ranks r k ∧ (st.ranks ++ [[]])[r].length ≤ k) := Lib.hid (fun h => by
                  subst h0
                  unfold B.addAt
                  rw [if_pos rfl]
                  simp)
                have q0 : ((r : Int) == (st.ranks.length : Int)) = true := by rw [h0]; simp
                have q1 : (r == st.ranks.length) = true := by simpa using h0
                have hs2 := I5.below.size
                obtain ⟨i1, hi1, hy0, hy1, hy2⟩ := info_parts info_row
                have H0 := Lib.hid h0
                clear h0 hrun2 HRG HMST HSTR
                go_wp2_with (at_builtin; refine wpList_append_own_at _ rfl (.tmp 56) (.tmp 57) 27 rfl w.heap.size 23 i1 _ 1 24 Try.underlying27 hi1 hy0 hy1 hy2 rfl (by omega) _ _ _ rfl (I5.out.alloc _) ⟨w5.heap.size, 0, none⟩ 1 1 [.slice none 0 0] rfl rfl ?d1 ?d2 ?d3 ?d4 ?d5 ?_)
                (first | (case d1 => exact cell_one_new _ _ _) | skip)
                (first | (case d2 => simp [Value.oneCell']) | skip)
                (first | (case d3 => simp only [maxLen]; omega) | skip)
                (first | (case d4 => omega) | skip)
                (first | (case d5 => omega) | (case d5 => simp; omega) | skip)
                intro v6 w6 ho6 hg6 _ hat6
                obtain ⟨A6, q6, hv6⟩ := own_formk ho6
                subst hv6
                have I6 := I5.addR hg6 ho6
                clear ho6 hg6 hat6 I5
                go_wp2_with fail
                go_meet
                exact ⟨A6, q6, st.ranks ++ [[]], vs ++ [.slice none 0 0], by simp, by simp; omega, by have := H0.out; simp; omega, HL, I6⟩
              · have HL : Hid (∀ h : r < st.ranks.length, st.ranks.set r (st.ranks[r] ++ [k]) = B.addAt st.ranks r k ∧ st.ranks[r].length ≤ k) := Lib.hid (fun h => by
                  refine ⟨?_, hok.rows _ (List.getElem_mem h)⟩
                  unfold B.addAt
                  rw [if_neg h0, List.getD_eq_getElem?_getD, List.getElem?_eq_getElem h, Option.getD_some])
                have q0 : ((r : Int) == (st.ranks.length : Int)) = false := beq_false_of_ne (by omega)
                have q1 : (r == st.ranks.length) = false := by simpa using h0
                have hr2 : r < st.ranks.length := by omega
                clear h0 hrun2 HRG HMST HSTR
                go_wp2_with fail
                go_meet
                exact ⟨AR, cR, st.ranks, vs, rfl, by omega, hr2, HL, I5⟩
            case rest =>
              obtain ⟨AR2, cR2, L, vs2, rfl, hL9, hrL, HL, I6⟩ := hcut
              clear I5 hrun2
              obtain ⟨gR, capR, hvR, _, _⟩ := I6.out.form (by show 0 < L.length; omega)
              simp only [Value.slice.injEq, true_and] at hvR
              obtain ⟨rfl, rfl⟩ := hvR
              obtain ⟨hv2, orow⟩ := I6.row hrL
              obtain ⟨HL1, HL2⟩ := HL.out hrL
              have HL3 := Lib.hid HL1
              obtain ⟨Ar, cr, hvr⟩ := own_formk orow
              have cO := World.ownsRow.cellAt I6.out r (by show r < L.length * 1; omega)
              rw [List.getElem?_eq_getElem hv2, hvr] at cO
              have hs2 := I6.below.size
              have hgRl : gR < wc.heap.size := (I6.out.lt gR rfl).2
              have hrLI : (r : Int) < (L.length : Int) := by omega
              have HVR := Lib.hid hvr
              rw [hvr] at orow
              have orow2 : wc.ownsRow w.heap.size 3 1 (.slice Ar L[r].length cr) L[r].length (ns L[r]) := orow
              have hlr : L[r].length ≤ 200 := by omega
              clear HL HL1 HL2 hvr orow
              generalize hR : L[r] = R at *
              have HR := Lib.hid hR
              clear hR
              go_wp2_with (at_builtin; refine wpList_append_own_at _ rfl (.tmp 64) (.tmp 66) 23 rfl w.heap.size 3 i0 _ 1 8 Try.underlying23 hi hz0 hz1 hz2 rfl (by omega) _ _ _ rfl (orow2.alloc _) ⟨wc.heap.size, 0, none⟩ 1 1 [.int .i64 (k : Int)] rfl rfl ?e1 ?e2 ?e3 ?e4 ?e5 ?_)
              (first | (case e1 => exact cell_one_new _ _ _) | skip)
              (first | (case e2 => simp [Value.oneCell']) | skip)
              (first | (case e3 => simp only [maxLen]; omega) | skip)
              (first | (case e4 => omega) | skip)
              (first | (case e5 => omega) | (case e5 => simp; omega) | skip)
              intro v7 w7 ho7 hg7 _ hat7
              obtain ⟨A7, q7, hv7⟩ := own_formk ho7
              subst hv7
              obtain ⟨c7, f7, I7⟩ : w7.cell? ⟨gR, r, none⟩ = some (.slice Ar R.length cr) ∧ w7.frozen? ⟨gR, r, none⟩ = false ∧ RkI w (w7.setCell ⟨gR, r, none⟩ (.slice A7 (R.length + 1) q7)) ⟨str, most2, L.set r (R ++ [k])⟩ (k + 1) w.heap.size (.slice (some ⟨gR, 0, none⟩) L.length cR2) (.slice AS2 str.length cS2) (vs2.set r (.slice A7 (R.length + 1) q7)) := by
                have hR := HR.out
                have hvr := HVR.out
                subst hR
                rw [← hvr] at hg7 hat7
                have h9 := RkI.grow I6 hrL (hv := hv2) hg7 ho7 (by simpa using hat7)
                rw [hvr] at h9
                exact h9
              have hgR7 : gR < w7.heap.size := World.block_lt_of_cell? w7 _ c7
              clear ho7 hg7 hat7 I6 cO orow2 HVR HR
              go_wp2_with fail
              go_roundg (G0 - 1)
              case measure => have := HK.out; omega
              case rel =>
                have e1 : B.stN (S.lds P) us (k + 1) = ⟨str, most2, L.set r (R ++ [k])⟩ := by
                  rw [HN.out, HSTR.out, HMST.out, HL3.out, ← HRG.out]; rfl
                exact ⟨k + 1, _, some ⟨gR, 0, none⟩, AS2, cR2, cS2, by have := HK.out; omega, by go_num, by rw [e1]; simp, by rw [e1], by rw [e1]; exact I7⟩
    · obtain rfl : k = us.length := by omega
      obtain rfl : gk = 0 := by omega
      clear hk
      go_wp2_with fail
      go_ret
      have f := I.fam
      have hl2 := I.vslen
      refine ⟨_, vs, rfl, I.out, ⟨hl2, fun r hr => (I.row hr).2, fun i j hi hj hij => ?_⟩, I.below⟩
      exact f.dis (i + 1) (j + 1) (by simp; omega) (by simp; omega) (by omega)
end Go.Proofs.Ytahhihhfjimppaa
