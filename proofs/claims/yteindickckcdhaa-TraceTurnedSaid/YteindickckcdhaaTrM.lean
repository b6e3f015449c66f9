/- the laws walked: TraceTurned -/
import Derived.Test.YteindickckcdhaaTrL
namespace Go.Proofs.Yteindickckcdhaa
open Go.RowKit
set_option linter.unusedSimpArgs false
set_option linter.unusedVariables false
set_option maxRecDepth 100000

theorem parse_len {b : List Nat} {l : List T.Ev} (hB : Byt b) (h : T.parse b = some l) : l.length ≤ b.length := by
  obtain ⟨hbe, hf⟩ := T.parse_some hB h
  have h1 := T.nums_length l
  have h2 := W.flat_ge (T.nums l)
  have h4 : (T.nums l).length ≤ (T.bytes l).length := by
    unfold T.bytes W.sealed W.nums
    simp only [List.length_append]
    omega
  rw [hbe] at h4
  omega
theorem parse_any' {r : Option (List T.Ev)} {A : Option Addr} {c n : Nat} {xs : List Nat} {w : World} (hp : T.parse xs = r) (hn : n = xs.length) (h : Rd w w.heap.size A (bs xs)) (hB : Byt xs) (hl : xs.length ≤ 1000000) (hc : xs.length ≤ c) (hc2 : c ≤ 9223372036854775807) :
    Calls Try.prog 10 #[.slice A n c] w (Parsed w r) := by
  subst hp hn; exact parse_any A c xs w h hB hl hc hc2

set_option maxHeartbeats 1000000 in
theorem turned_walk (l : List T.Ev) (A : Option Addr) (c : Nat) (a0 b0 m0 : Int) (w : World) (hr : Rd w w.heap.size A (ecs l)) (hf : ∀ x ∈ l, T.fits x) (hlen : l.length ≤ 9223372036854775807)
    (h0 : 0 ≤ a0) (h1 : a0 ≤ 65535) (g0 : 0 ≤ b0) (g1 : b0 ≤ 255) (d0 : 0 ≤ m0) (d1 : m0 ≤ 255) :
    Calls Try.prog 5 #[.slice A l.length c, .int .u16 a0, .int .u8 b0, .int .u8 m0] w (fun e w' => e = .returned (.bool true) ∧ Below w.heap.size w w') := by
  by_cases hl : l.length ≤ 60
  · have hlI : (l.length : Int) ≤ 60 := by omega
    obtain ⟨i0, hi, hz0, hz1, hz2⟩ := info_parts info_u8'
    have HF := Lib.hid hf
    obtain ⟨hbl1, hbl2, _, _⟩ := T.bytes_len hf (by omega)
    have HTB := Lib.hid (T.bytes_byt l)
    have HPB := Lib.hid (T.parse_bytes hf (by omega))
    have HPS := Lib.hid (fun k hk v hv hne => T.parse_set (l := l) hf (by omega) (k := k) hk (v := v) hv hne)
    have HPL := Lib.hid (fun y => T.parse_long (l := l) hf (by omega) y)
    have HSH := Lib.hid (fun k hk => T.parse_short (l := l) hf (by omega) (k := k) hk)
    clear hf
    generalize hTB : T.bytes l = TB at *
    have HHB := Lib.hid hTB
    clear hTB
    have hm1 : 0 ≤ a0 % (TB.length : Int) := Int.emod_nonneg _ (by omega)
    have hm2 : a0 % (TB.length : Int) < (TB.length : Int) := Int.emod_lt_of_pos _ (by omega)
    obtain ⟨p, hp⟩ : ∃ p : Nat, a0 % (TB.length : Int) = (p : Int) := ⟨(a0 % (TB.length : Int)).toNat, by omega⟩
    have hpl : p < TB.length := by omega
    have hpI : (p : Int) < (TB.length : Int) := by omega
    have HP := Lib.hid hp
    clear hp
    have q1 : ((TB.length : Int) == 0) = false := beq_false_of_ne (by omega)
    obtain ⟨v, hv, hv1, hv2⟩ := add_u8 TB[p] b0 (HTB.out _ (by simp)) g0 g1
    have hB6 : Byt (TB.set p v) := fun y hy => by
      rcases List.mem_or_eq_of_mem_set hy with hy | rfl
      · exact HTB.out y hy
      · exact hv1
    have hp0 : b0 = 0 → T.parse (TB.set p v) = some l := by
      intro h
      have e : TB.set p v = TB := by rw [hv2.2 h]; simp
      rw [e]; exact HPB.out
    have hp1 : b0 ≠ 0 → T.parse (TB.set p v) ≠ some l := fun h => HPS.out p hpl v hv1 (fun e => h (hv2.1 e))
    have HL6 : Hid (TB.length = (TB.set p v).length) := Lib.hid (by simp)
    have HV := Lib.hid hv
    have HP0 := Lib.hid hp0
    have HP1 := Lib.hid hp1
    have HPLL := Lib.hid (fun l' (h : T.parse (TB.set p v) = some l') => parse_len hB6 h)
    obtain ⟨y, hy⟩ : ∃ y : Nat, m0 = (y : Int) := ⟨m0.toNat, by omega⟩
    subst hy
    have hBL : Byt (TB ++ [y]) := (show Byt TB from HTB.out).append (fun z hz => by rw [List.mem_singleton.1 hz]; omega)
    have hBS : Byt (TB.take p) := (show Byt TB from HTB.out).take p
    clear hv hv2 hp0 hp1 HPB HPS
    go_enter Try.func5, Try.ntmps5
    go_wp2_with (go_at_call 8; refine (awake_any _).mono ?_)
    rintro e w1 ⟨rfl, b1⟩
    have r1 := hr.on b1
    clear hr
    go_wp2_with fail
    refine (bytes_any l _ _ _ r1 (by omega) HF.out).mono ?_
    rw [HHB.out]
    rintro e w2 ⟨A2, c2, rfl, ho2, hb2, hc2, hc2'⟩
    have r2 := made_rd ho2
    replace r1 := r1.on hb2
    have b2 := b1.trans (hb2.mono b1.size)
    clear ho2 hb2 b1
    go_upto_region 8 with (fail)
    have hpe := HP.out
    rw [hpe]
    clear hpe hm1 hm2 HP
    have o0 : (w2.alloc (.cells #[] 5)).ownsRow w2.heap.size 5 1 (.slice (some ⟨w2.heap.size, 0, none⟩) 0 0) 0 [] := World.ownsRow_made w2 #[] 0 (Nat.le_refl _) (by simp) (by simp)
    go_wp2_with (at_builtin; refine wpList_app _ rfl (.tmp 35) (.tmp 36) 24 24 rfl w2.heap.size 5 i0 _ 1 1 Try.underlying24 hi hz0 hz1 hz2 rfl (by omega) (.slice (some ⟨w2.heap.size, 0, none⟩) 0 0) 0 [] rfl o0 _ _ _ rfl (src_rd _ Try.underlying24 (bs_length _).symm (r2.on (ebel _ _)) (bs_one _)) ?c1 ?c2 ?c3 ?_)
    case c1 => simp only [maxLen]; omega
    case c2 => omega
    case c3 => simp
    intro v5 w5 ho5 hg5 _
    have hb5 : Below w2.heap.size w2 w5 := (ebel w2 _).grown hg5 (by simp) (fun k hk => (o0.lt k hk).1)
    have hs4 := b2.size
    clear hg5 o0
    obtain ⟨g, cap, hv5, hg5, hlt5⟩ := ho5.form (by omega)
    rw [hv5] at ho5 ⊢
    clear hv5
    try simp only [Nat.zero_add, List.nil_append] at ho5
    obtain ⟨hcap1, hcap2⟩ := own_cap' ho5
    have ck := ho5.cellAt p (by omega)
    rw [bs_at TB p hpl] at ck
    have fk := ho5.frozenAt p
    obtain ⟨ho6, hg6⟩ := ho5.stored p (.int .u8 (v : Int))
    have hb6 : Below w2.heap.size w2 (w5.setCell ⟨g, p, none⟩ (.int .u8 (v : Int))) := hb5.setCell (p := ⟨g, p, none⟩) hg5 _
    rw [bs_set'] at ho6
    have r6 := Rd.of_own ho6
    replace r1 := r1.on hb6
    replace r2 := r2.on hb6
    have b6 := b2.trans (hb6.mono b2.size)
    have hv := HV.out
    clear ho6 hg6 hb5 hb6 ho5 b2 HV hg5 hlt5
    generalize TB[p] = xp at *
    go_upto_region 10 with (fail)
    clear ck fk hv
    generalize w5.setCell ⟨g, p, none⟩ (.int .u8 (v : Int)) = w6 at *
    have hT1 : (TB.set p v).length ≤ 1000000 := by have := HL6.out; omega
    have hT2 : (TB.set p v).length ≤ cap := by have := HL6.out; omega
    have key : ∀ (same : Bool) (w8 : World), same = (b0 == 0) → Rd w8 w8.heap.size A2 (bs TB) → Below w.heap.size w w8 → True := fun _ _ _ _ _ => trivial
    cases hpr : T.parse (TB.set p v) with
    | none =>
      have hbz : (b0 == 0) = false := beq_false_of_ne (fun h => by rw [HP0.out h] at hpr; cases hpr)
      have HPR := Lib.hid hpr
      clear hpr
      go_wp2_with (go_at_call 10; refine (parse_any' HPR.out HL6.out r6 hB6 hT1 hT2 hcap2).mono ?_)
      rintro e w7 ⟨b7, rfl⟩
      replace r2 := r2.on b7
      replace b6 := b6.trans (b7.mono b6.size)
      clear b7 r1 r6
      have o1 : (w7.alloc (.cells #[] 5)).ownsRow w7.heap.size 5 1 (.slice (some ⟨w7.heap.size, 0, none⟩) 0 0) 0 [] := World.ownsRow_made w7 #[] 0 (Nat.le_refl _) (by simp) (by simp)
      go_wp2_with (at_builtin; refine wpList_app _ rfl (.tmp 60) (.tmp 61) 24 24 rfl w7.heap.size 5 i0 _ 1 1 Try.underlying24 hi hz0 hz1 hz2 rfl (by omega) (.slice (some ⟨w7.heap.size, 0, none⟩) 0 0) 0 [] rfl o1 _ _ _ rfl (src_rd _ Try.underlying24 (bs_length _).symm (r2.on (ebel _ _)) (bs_one _)) ?e1 ?e2 ?e3 ?_)
      case e1 => simp only [maxLen]; omega
      case e2 => omega
      case e3 => simp
      intro v9 w9 ho9 hg9 _
      have hb9 : Below w7.heap.size w7 w9 := (ebel w7 _).grown hg9 (by simp) (fun k hk => (o1.lt k hk).1)
      try simp only [Nat.zero_add, List.nil_append] at ho9
      have hs9 := hb9.size
      clear hg9 o1
      go_wp2_with (at_builtin; refine wpList_app _ rfl (.tmp 62) (.tmp 64) 24 24 rfl w7.heap.size 5 i0 _ 1 1 Try.underlying24 hi hz0 hz1 hz2 rfl (by omega) v9 TB.length (bs TB) rfl (ho9.alloc _) _ 1 (bs [y]) rfl (src_rd _ Try.underlying24 (by simp) (rd_new _ _ _) (bs_one _)) ?e4 ?e5 ?e6 ?_)
      case e4 => simp only [maxLen]; omega
      case e5 => omega
      case e6 => first | omega | (simp; omega)
      intro v10 w10 ho10 hg10 _
      have hb10 : Below w7.heap.size w7 w10 := (hb9.alloc hs9 _).grown hg10 (by simp; omega) (fun k hk => (ho9.lt k hk).1)
      replace r2 := r2.on hb10
      replace b6 := b6.trans (hb10.mono b6.size)
      clear hg10 ho9 hb9 hb10
      rw [← bs_append] at ho10
      obtain ⟨A10, c10, hv10, hc10, hc10'⟩ := own_form ho10
      rw [hv10] at ho10 ⊢
      clear hv10
      have r10 := Rd.of_own ho10
      simp only [maxLen] at hc10'
      clear ho10
      go_wp2_with (go_at_call 10; refine (parse_any' (HPL.out y) (by simp) r10 hBL (by simp; omega) (by simp; omega) hc10').mono ?_)
      rintro e w11 ⟨b11, rfl⟩
      replace r2 := r2.on b11
      replace b6 := b6.trans (b11.mono b6.size)
      clear b11 r10
      obtain ⟨hX, hRX⟩ := cut_h (P := Try.prog) Try.underlying24 hi hz1 r2 TB.length c2 p (p : Int) rfl (by omega)
      rw [← bs_take] at hRX
      have htl : p = (TB.take p).length := by rw [List.length_take]; omega
      have HTL := Lib.hid htl
      clear htl
      go_wp2_with (go_at_call 10; refine (parse_any' (HSH.out p hpl) HTL.out hRX hBS (by have := HTL.out; omega) (by have := HTL.out; omega) hc2').mono ?_)
      rintro e w12 ⟨b12, rfl⟩
      replace b6 := b6.trans (b12.mono b6.size)
      clear hX
      go_wp2_with fail
      go_ret
      exact ⟨rfl, b6⟩
    | some l' =>
      have hll := HPLL.out l' hpr
      have hb3 : decide (l' = l) = (b0 == 0) := by
        rw [Bool.eq_iff_iff, decide_eq_true_eq, beq_iff_eq]
        constructor
        · intro h
          by_cases hz : b0 = 0
          · exact hz
          · exact absurd (by rw [hpr, h]) (HP1.out hz)
        · intro h
          rw [HP0.out h] at hpr
          injection hpr with hpr
          exact hpr.symm
      have HB3 := Lib.hid hb3
      have HPR := Lib.hid hpr
      clear hpr hb3
      go_wp2_with (go_at_call 10; refine (parse_any' HPR.out HL6.out r6 hB6 hT1 hT2 hcap2).mono ?_)
      rintro e w7 ⟨b7, A7, c7, rfl, r7, _⟩
      replace r1 := r1.on b7
      replace r2 := r2.on b7
      replace b6 := b6.trans (b7.mono b6.size)
      clear b7 r6
      go_wp2_with fail
      refine (esame_any l' l _ _ _ _ _ r7 r1 (by omega) (by omega)).mono ?_
      rintro e w8 ⟨rfl, b8⟩
      generalize hdb : decide (l' = l) = db at *
      have HDB := Lib.hid hdb
      clear hdb
      replace r2 := r2.on b8
      replace b6 := b6.trans (b8.mono b6.size)
      clear b8 r7 r1
      have o1 : (w8.alloc (.cells #[] 5)).ownsRow w8.heap.size 5 1 (.slice (some ⟨w8.heap.size, 0, none⟩) 0 0) 0 [] := World.ownsRow_made w8 #[] 0 (Nat.le_refl _) (by simp) (by simp)
      go_wp2_with (at_builtin; refine wpList_app _ rfl (.tmp 60) (.tmp 61) 24 24 rfl w8.heap.size 5 i0 _ 1 1 Try.underlying24 hi hz0 hz1 hz2 rfl (by omega) (.slice (some ⟨w8.heap.size, 0, none⟩) 0 0) 0 [] rfl o1 _ _ _ rfl (src_rd _ Try.underlying24 (bs_length _).symm (r2.on (ebel _ _)) (bs_one _)) ?f1 ?f2 ?f3 ?_)
      case f1 => simp only [maxLen]; omega
      case f2 => omega
      case f3 => simp
      intro v9 w9 ho9 hg9 _
      have hb9 : Below w8.heap.size w8 w9 := (ebel w8 _).grown hg9 (by simp) (fun k hk => (o1.lt k hk).1)
      try simp only [Nat.zero_add, List.nil_append] at ho9
      have hs9 := hb9.size
      clear hg9 o1
      go_wp2_with (at_builtin; refine wpList_app _ rfl (.tmp 62) (.tmp 64) 24 24 rfl w8.heap.size 5 i0 _ 1 1 Try.underlying24 hi hz0 hz1 hz2 rfl (by omega) v9 TB.length (bs TB) rfl (ho9.alloc _) _ 1 (bs [y]) rfl (src_rd _ Try.underlying24 (by simp) (rd_new _ _ _) (bs_one _)) ?f4 ?f5 ?f6 ?_)
      case f4 => simp only [maxLen]; omega
      case f5 => omega
      case f6 => first | omega | (simp; omega)
      intro v10 w10 ho10 hg10 _
      have hb10 : Below w8.heap.size w8 w10 := (hb9.alloc hs9 _).grown hg10 (by simp; omega) (fun k hk => (ho9.lt k hk).1)
      replace r2 := r2.on hb10
      replace b6 := b6.trans (hb10.mono b6.size)
      clear hg10 ho9 hb9 hb10
      rw [← bs_append] at ho10
      obtain ⟨A10, c10, hv10, hc10, hc10'⟩ := own_form ho10
      rw [hv10] at ho10 ⊢
      clear hv10
      have r10 := Rd.of_own ho10
      simp only [maxLen] at hc10'
      clear ho10
      go_wp2_with (go_at_call 10; refine (parse_any' (HPL.out y) (by simp) r10 hBL (by simp; omega) (by simp; omega) hc10').mono ?_)
      rintro e w11 ⟨b11, rfl⟩
      replace r2 := r2.on b11
      replace b6 := b6.trans (b11.mono b6.size)
      clear b11 r10
      obtain ⟨hX, hRX⟩ := cut_h (P := Try.prog) Try.underlying24 hi hz1 r2 TB.length c2 p (p : Int) rfl (by omega)
      rw [← bs_take] at hRX
      have htl : p = (TB.take p).length := by rw [List.length_take]; omega
      have HTL := Lib.hid htl
      clear htl
      go_wp2_with (go_at_call 10; refine (parse_any' (HSH.out p hpl) HTL.out hRX hBS (by have := HTL.out; omega) (by have := HTL.out; omega) hc2').mono ?_)
      rintro e w12 ⟨b12, rfl⟩
      replace b6 := b6.trans (b12.mono b6.size)
      clear hX
      go_wp2_with fail
      go_ret
      exact ⟨rfl, b6⟩
  · have hl' : 60 < (l.length : Int) := by omega
    go_enter Try.func5, Try.ntmps5
    go_wp2_with (go_at_call 8; refine (awake_any _).mono ?_)
    rintro e w1 ⟨rfl, b1⟩
    go_wp2_with fail
    go_ret
    exact ⟨rfl, b1⟩
end Go.Proofs.Yteindickckcdhaa
