/- walks: Work, Span, the document's Ahead, Named -/
import Derived.Test.YtahhihhfjimppaaBdJ
namespace Go.Proofs.Ytahhihhfjimppaa
open Go.RowKit
set_option linter.unusedSimpArgs false
set_option linter.unusedVariables false
set_option maxRecDepth 100000

/-- a value comes back; what was there is as it was -/
def Ret (v : Value) (w : World) (e : Ending) (w' : World) : Prop := e = .returned v ∧ Below w.heap.size w w'
theorem work_any (E : El) (w : World) (hn : E.n6 ≤ 1000) : Calls Try.prog 11 #[E.val] w (Ret (.int .i64 (E.n6 : Int)) w) := by
  obtain ⟨e0, e1, A2, n2, c2, A3, n3, c3, A4, n4, c4, A5, n5, c5, A6, n6, c6, A7, n7, c7, e8, e9, A10, n10, c10⟩ := E
  simp only [El.val, El.cs] at hn ⊢
  go_enter Try.func11, Try.ntmps11
  go_wp2_with fail
  go_ret
  exact ⟨rfl, bel_new w _⟩

theorem span_any (E : El) (us : List Nat) (l : List S.Five) (s : S.State) (w : World) (hE : E.Is w us l) (hl : l.length ≤ 60) (hu : us.length ≤ 100) (hrun : S.run S.init l = some s) (hs : ∀ u ∈ us, u < s.n) :
    Calls Try.prog 13 #[E.val] w (Ret (.int .i64 ((B.chain (S.lds s.places) us).length : Int)) w) := by
  have hc := chain_any E us l s
  have hlen := B.chain_le (B.chain_is (S.lds s.places) (lds_refl _) us)
  generalize B.chain (S.lds s.places) us = C at *
  obtain ⟨e0, e1, A2, n2, c2, A3, n3, c3, A4, n4, c4, A5, n5, c5, A6, n6, c6, A7, n7, c7, e8, e9, A10, n10, c10⟩ := E
  simp only [El.val, El.cs] at hc ⊢
  have b1 := bel_new w (.cells #[.int .i64 e0, .int .i64 e1, .slice A2 n2 c2, .slice A3 n3 c3, .slice A4 n4 c4, .slice A5 n5 c5, .slice A6 n6 c6, .slice A7 n7 c7, .int .i64 e8, .int .i64 e9, .slice A10 n10 c10] 29)
  have hE1 := hE.on b1
  go_enter Try.func13, Try.ntmps13
  go_wp2_with (go_at_call 9; refine (hc _ hE1 hl hu hrun hs).mono ?_)
  rintro e2 w2 ⟨A, c, rfl, r2, b2⟩
  go_wp2_with fail
  go_ret
  exact ⟨rfl, b1.trans (b2.mono b1.size)⟩

/-- is a use ahead of another one -/
def S.rah (us : List Nat) (P : List (Nat × Nat)) (a b : Nat) : Bool := if B.su us a = B.su us b then decide (a < b) else S.ahead P (B.su us a) (B.su us b)
theorem S.rah_lds {us : List Nat} {P : List (Nat × Nat)} {a b : Nat} (h : a < b) : S.rah us P a b = S.lds P (B.su us a) (B.su us b) := by
  unfold S.rah S.lds
  split
  · rename_i e; simp [e, h]
  · rename_i e; simp [e]
theorem rah_any (E : El) (us : List Nat) (l : List S.Five) (P : List (Nat × Nat)) (AP : Option Addr) (cP a b : Nat) (w : World) (hE : E.Is w us l) (hP : Rd w w.heap.size AP (tcs P)) (hPl : P.length ≤ 1000) (hs : ∀ u ∈ us, u < P.length) (hu : us.length ≤ 100) (ha : a < us.length) (hb : b < us.length) :
    Calls Try.prog 10 #[E.val, .slice AP P.length cP, .int .i64 a, .int .i64 b] w (Ret (.bool (S.rah us P a b)) w) := by
  have hsa := hs us[a] (List.getElem_mem ha)
  have hsb := hs us[b] (List.getElem_mem hb)
  rw [← B.su_at ha] at hsa
  rw [← B.su_at hb] at hsb
  obtain ⟨hU, hS, hnu, hnl⟩ := hE
  obtain ⟨e0, e1, A2, n2, c2, A3, n3, c3, A4, n4, c4, A5, n5, c5, A6, n6, c6, A7, n7, c7, e8, e9, A10, n10, c10⟩ := E
  simp only at hU hS hnu hnl
  subst hnu hnl
  simp only [El.val, El.cs]
  have b1 := bel_new w (.cells #[.int .i64 e0, .int .i64 e1, .slice A2 n2 c2, .slice A3 n3 c3, .slice A4 n4 c4, .slice A5 n5 c5, .slice A6 us.length c6, .slice A7 l.length c7, .int .i64 e8, .int .i64 e9, .slice A10 n10 c10] 29)
  have hU1 := hU.on b1
  have hP1 := hP.on b1
  obtain ⟨bU, oU, rfl, hbU, cu1⟩ := hU1.at_ ha
  obtain ⟨bU', oU', hUe, _, cu2⟩ := hU1.at_ hb
  injection hUe with hUe
  injection hUe with hU1 hU2
  subst hU1 hU2
  rw [← B.su_at ha] at cu1
  rw [← B.su_at hb] at cu2
  have haI : (a : Int) < (us.length : Int) := by omega
  have hbI : (b : Int) < (us.length : Int) := by omega
  have HR : Hid (S.rah us P a b = if B.su us a = B.su us b then decide (a < b) else S.ahead P (B.su us a) (B.su us b)) := Lib.hid rfl
  generalize B.su us a = sa at *
  generalize B.su us b = sb at *
  go_enter Try.func10, Try.ntmps10
  by_cases h : sa = sb
  · have HR2 := Lib.hid (HR.out.trans (if_pos h))
    have q : decide ((a : Int) < (b : Int)) = decide (a < b) := by simp
    subst h
    go_wp2_with fail
    refine bodyPost_ret (v := .bool (decide (a < b))) (by simp [results, Try.results10, go_sem]) rfl ?_
    exact ⟨by rw [HR2.out], b1⟩
  · have HR2 := Lib.hid (HR.out.trans (if_neg h))
    have q : ((sa : Int) == (sb : Int)) = false := beq_false_of_ne (by omega)
    have q2 : (sa == sb) = false := beq_false_of_ne h
    go_wp2_with (go_at_call 24; refine (rahead_any P AP cP sa sb _ hP1 hPl hsa hsb).mono ?_; rintro e2 w2 ⟨rfl, b2⟩)
    go_ret
    exact ⟨by rw [HR2.out]; rfl, b1.trans (b2.mono b1.size)⟩

/-- the strands of a row of uses, whatever they are -/
def StrsI (w : World) (B : Nat) (A : Option Addr) (zs : List Int) : Prop := zs = [] ∨ ∃ b off, A = some ⟨b, off, none⟩ ∧ b < B ∧ ∀ i (h : i < zs.length), w.cell? ⟨b, off + i * 10, none⟩ = some (.int .i64 zs[i])
theorem StrsI.below {w w' : World} {B : Nat} {A : Option Addr} {zs : List Int} (h : StrsI w B A zs) (hb : Below B w w') : StrsI w' B A zs := by
  rcases h with h | ⟨b, off, rfl, h1, hc⟩
  · exact .inl h
  · exact .inr ⟨b, off, rfl, h1, fun i hi => (hb.cell h1).trans (hc i hi)⟩
theorem StrsI.on {w w' : World} {A : Option Addr} {zs : List Int} (h : StrsI w w.heap.size A zs) (hb : Below w.heap.size w w') : StrsI w' w'.heap.size A zs := by
  rcases h.below hb with h | ⟨b, off, rfl, h1, hc⟩
  · exact .inl h
  · exact .inr ⟨b, off, rfl, by have := hb.size; omega, hc⟩
theorem StrsI.at_ {w : World} {B : Nat} {A : Option Addr} {zs : List Int} (h : StrsI w B A zs) {i : Nat} (hi : i < zs.length) : ∃ b off, A = some ⟨b, off, none⟩ ∧ b < B ∧ w.cell? ⟨b, off + i * 10, none⟩ = some (.int .i64 zs[i]) := by
  rcases h with h | ⟨b, off, rfl, hb, hc⟩
  · subst h; simp at hi
  · exact ⟨b, off, rfl, hb, hc i hi⟩
/-- strands that are all numbers below n -/
theorem StrsI.nat {w : World} {B n : Nat} {A : Option Addr} {zs : List Int} (h : StrsI w B A zs) (hn : ∀ z ∈ zs, 0 ≤ z ∧ z < (n : Int)) : ∃ us : List Nat, us.length = zs.length ∧ (∀ u ∈ us, u < n) ∧ Strs w B A us ∧ us = zs.map Int.toNat := by
  refine ⟨zs.map Int.toNat, by simp, fun u hu => ?_, ?_, rfl⟩
  · obtain ⟨z, hz, rfl⟩ := List.mem_map.1 hu
    have := hn z hz
    omega
  · rcases h with h | ⟨b, off, rfl, hb, hc⟩
    · left; rw [h]; rfl
    · refine .inr ⟨b, off, rfl, hb, fun i hi => ?_⟩
      rw [List.length_map] at hi
      rw [hc i hi, List.getElem_map]
      have := hn zs[i] (List.getElem_mem hi)
      congr 2
      omega
/-- what Named leaves -/
def Naming (w : World) (zs : List Int) (l : List S.Five) (e : Ending) (w' : World) : Prop :=
  Below w.heap.size w w' ∧ ∃ (n : Nat) (b : Bool), e = .returned (.tuple #[.int .i64 (n : Int), .bool b]) ∧ (b = true → ∃ s, S.run S.init l = some s ∧ s.n = n ∧ ∀ z ∈ zs, 0 ≤ z ∧ z < (n : Int))

set_option maxHeartbeats 4000000 in
theorem named_any (E : El) (zs : List Int) (l : List S.Five) (w : World) (hU : StrsI w w.heap.size E.A6 zs) (hS : Rd w w.heap.size E.A7 (fcs l)) (hnu : E.n6 = zs.length) (hnl : E.n7 = l.length) (hu : zs.length ≤ 100) (hl : l.length ≤ 60) :
    Calls Try.prog 7 #[E.val] w (Naming w zs l) := by
  obtain ⟨e0, e1, A2, n2, c2, A3, n3, c3, A4, n4, c4, A5, n5, c5, A6, n6, c6, A7, n7, c7, e8, e9, A10, n10, c10⟩ := E
  simp only at hU hS hnu hnl
  subst hnu hnl
  simp only [El.val, El.cs]
  go_enter Try.func7, Try.ntmps7
  go_upto_region 1 with (fail)
  have bk1 := Blk.new w 29 #[.int .i64 e0, .int .i64 e1, .slice A2 n2 c2, .slice A3 n3 c3, .slice A4 n4 c4, .slice A5 n5 c5, .slice A6 zs.length c6, .slice A7 l.length c7, .int .i64 e8, .int .i64 e9, .slice A10 n10 c10]
  have b1 := bel_new w (.cells #[.int .i64 e0, .int .i64 e1, .slice A2 n2 c2, .slice A3 n3 c3, .slice A4 n4 c4, .slice A5 n5 c5, .slice A6 zs.length c6, .slice A7 l.length c7, .int .i64 e8, .int .i64 e9, .slice A10 n10 c10] 29)
  generalize w.alloc (.cells #[.int .i64 e0, .int .i64 e1, .slice A2 n2 c2, .slice A3 n3 c3, .slice A4 n4 c4, .slice A5 n5 c5, .slice A6 zs.length c6, .slice A7 l.length c7, .int .i64 e8, .int .i64 e9, .slice A10 n10 c10] 29) = w1 at *
  have hU1 := hU.on b1
  have hS1 := hS.on b1
  have d7 := bk1.at_ (i := 7) rfl
  simp only [List.getElem_toArray, List.getElem_cons_succ, List.getElem_cons_zero] at d7
  go_wp2_with (go_at_call 8; refine (rof_any l A7 c7 _ hS1 hl).mono ?_)
  rintro e2 w2 ⟨b2, ⟨hno, rfl⟩ | ⟨s, AP, cap, hrun, rfl, hP⟩⟩
  · have b12 := b1.trans (b2.mono b1.size)
    go_wp2_with fail
    refine bodyPost_ret (v := .tuple #[.int .i64 0, .bool false]) (by simp [results, Try.results7, go_sem]) rfl ?_
    exact ⟨b12, 0, false, rfl, fun h => by cases h⟩
  · have b12 := b1.trans (b2.mono b1.size)
    have hn9 := run_small hrun hl
    have HRUN := Lib.hid hrun
    have hU2 := hU1.on b2
    have hS2 := hS1.on b2
    have bk2 := bk1.below b2 bk1.lt
    clear hrun hU hS hU1 hS1 d7 bk1 b2 b1 hP
    have d6 := bk2.at_ (i := 6) rfl
    have d7 := bk2.at_ (i := 7) rfl
    simp only [List.getElem_toArray, List.getElem_cons_succ, List.getElem_cons_zero] at d6 d7
    go_wp2_with fail
    go_loopg [6] zs.length (fun gk s6 wr => ∃ k : Nat, k + gk = zs.length ∧ s6 = .int .i64 k ∧ wr = w2 ∧ Hid (∀ z ∈ zs.take k, 0 ≤ z ∧ z < (s.n : Int)))
    case atStart => exact ⟨0, by omega, rfl, rfl, Lib.hid (by simp)⟩
    case round =>
      obtain ⟨k, hk, rfl, rfl, HZ⟩ := hrel
      have HK := Lib.hid hk
      by_cases hlt : k < zs.length
      · clear hk
        have hltI : (k : Int) < (zs.length : Int) := by omega
        obtain ⟨bU, oU, rfl, hbU, cu⟩ := hU2.at_ hlt
        have HT : Hid (∀ z ∈ zs.take (k + 1), z = zs[k] ∨ 0 ≤ z ∧ z < (s.n : Int)) := Lib.hid (fun z hz => by
          rw [List.take_succ_eq_append_getElem hlt] at hz
          rcases List.mem_append.1 hz with h | h
          · exact .inr (HZ.out z h)
          · exact .inl (List.mem_singleton.1 h))
        generalize zs[k] = z at *
        by_cases h0 : z < 0
        · have q0 : decide (z < 0) = true := by simpa using h0
          go_wp2_with fail
          refine bodyPost_ret (v := .tuple #[.int .i64 0, .bool false]) (by simp [results, Try.results7, go_sem]) rfl ?_
          exact ⟨b12, 0, false, rfl, fun h => by cases h⟩
        · have q0 : decide (z < 0) = false := by simpa using h0
          by_cases h1 : z ≥ (s.n : Int)
          · have q1 : decide (z ≥ (s.n : Int)) = true := by simpa using h1
            go_wp2_with fail
            refine bodyPost_ret (v := .tuple #[.int .i64 0, .bool false]) (by simp [results, Try.results7, go_sem]) rfl ?_
            exact ⟨b12, 0, false, rfl, fun h => by cases h⟩
          · have q1 : decide (z ≥ (s.n : Int)) = false := by simpa using h1
            have HT2 : Hid (∀ z ∈ zs.take (k + 1), 0 ≤ z ∧ z < (s.n : Int)) := Lib.hid (fun y hy => by
              rcases HT.out y hy with h | h
              · subst h; omega
              · exact h)
            clear h0 h1 HT
            go_wp2_with (go_at_call 16; refine (begun_any l _ _ z _ hS2 hl).mono ?_)
            rintro e3 w3 ⟨rfl, hw⟩
            subst hw
            cases hb : S.begunB l z
            · clear hb
              go_wp2_with fail
              refine bodyPost_ret (v := .tuple #[.int .i64 0, .bool false]) (by simp [results, Try.results7, go_sem]) rfl ?_
              exact ⟨b12, 0, false, rfl, fun h => by cases h⟩
            · clear hb
              go_wp2_with fail
              go_roundg (gk - 1)
              case measure => have := HK.out; omega
              case rel => exact ⟨k + 1, by have := HK.out; omega, by go_num, rfl, HT2⟩
      · have HT2 : Hid (∀ z ∈ zs, 0 ≤ z ∧ z < (s.n : Int)) := Lib.hid (by
          have h := HZ.out
          rw [List.take_of_length_le (by omega)] at h
          exact h)
        clear hk
        go_wp2_with fail
        refine bodyPost_ret (v := .tuple #[.int .i64 (s.n : Int), .bool true]) (by simp [results, Try.results7, go_sem]) rfl ?_
        exact ⟨b12, s.n, true, rfl, fun _ => ⟨s, HRUN.out, rfl, HT2.out⟩⟩
end Go.Proofs.Ytahhihhfjimppaa
