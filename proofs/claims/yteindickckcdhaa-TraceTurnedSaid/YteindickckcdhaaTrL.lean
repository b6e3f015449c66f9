/- the laws walked: TraceSealed -/
import Derived.Test.YteindickckcdhaaTrK
namespace Go.Proofs.Yteindickckcdhaa
open Go.RowKit
set_option linter.unusedSimpArgs false
set_option linter.unusedVariables false
set_option maxRecDepth 100000

theorem own_cap' {w : World} {base : Nat} {e : TypeId} {g n c : Nat} {xs : List Value} (h : w.ownsRow base e 1 (.slice (some ⟨g, 0, none⟩) n c) n xs) : n ≤ c ∧ c ≤ 9223372036854775807 := by
  rcases h.2 with ⟨hv, hn⟩ | ⟨g', cap, cur, hv, _, _, h1, h2, _⟩
  · cases hv
  · injection hv with _ _ hc
    subst hc
    exact ⟨h1, h2⟩
theorem bs_set' (l : List Nat) (k y : Nat) : (bs l).set k (.int .u8 (y : Int)) = bs (l.set k y) := by simp [bs, List.map_set]
theorem info_u8' : (Try.prog.info? 5).map (fun i => (i.zero, i.size, i.bytes)) = some (some (.int .u8 0), 1, 1) := by kernel_rfl
theorem add_u8 (x : Nat) (b : Int) (hx : x < 256) (h0 : 0 ≤ b) (h1 : b ≤ 255) : ∃ v : Nat, IntKind.u8.wrap ((x : Int) + b) = (v : Int) ∧ v < 256 ∧ (v = x ↔ b = 0) := by
  refine ⟨(((x : Int) + b) % 256).toNat, ?_, by omega, by omega⟩
  have : IntKind.u8.wrap ((x : Int) + b) = ((x : Int) + b) % 256 := by
    simp [IntKind.wrap, IntKind.bits, IntKind.signed]
  rw [this]
  omega

theorem wf_u16 {z : Int} (h : (Lit.int .u16 z).wf = true) : 0 ≤ z ∧ z ≤ 65535 := by
  simp [Lit.wf, IntKind.min, IntKind.max, IntKind.bits, IntKind.signed] at h
  omega
theorem sealed_walk (l : List T.Ev) (A : Option Addr) (c : Nat) (a0 b0 : Int) (w : World) (hr : Rd w w.heap.size A (ecs l)) (hf : ∀ x ∈ l, T.fits x) (hlen : l.length ≤ 9223372036854775807)
    (h0 : 0 ≤ a0) (h1 : a0 ≤ 65535) (g0 : 0 ≤ b0) (g1 : b0 ≤ 255) :
    Calls Try.prog 6 #[.slice A l.length c, .int .u16 a0, .int .u8 b0] w (fun e w' => e = .returned (.bool true) ∧ Below w.heap.size w w') := by
  by_cases hl : l.length ≤ 60
  · have hlI : (l.length : Int) ≤ 60 := by omega
    by_cases hb0 : b0 = 0
    · subst hb0
      go_enter Try.func6, Try.ntmps6
      go_wp2_with (go_at_call 8; refine (awake_any _).mono ?_)
      rintro e w1 ⟨rfl, b1⟩
      go_wp2_with fail
      go_ret
      exact ⟨rfl, b1⟩
    · have qb : (b0 == 0) = false := by simpa using hb0
      obtain ⟨i0, hi, hz0, hz1, hz2⟩ := info_parts info_u8'
      have HB0 := Lib.hid hb0
      clear hb0
      have HF := Lib.hid hf
      have hbl := T.bytes_len hf (by omega)
      have hsl := W.sealed_len (W.nums (T.nums l)) (by omega)
      have HO : Hid (W.opened (T.bytes l) = some (W.nums (T.nums l), (W.sealed (W.nums (T.nums l))).length)) := Lib.hid (by
        have h := W.opened_sealed (W.nums (T.nums l)) [] (by omega)
        rw [List.append_nil] at h; exact h)
      have HSE := Lib.hid (fun j hj v hv hne => T.parse_sealed (l := l) hf (by omega) (j := j) hj (v := v) hv hne)
      have HBB : Hid (T.bytes l = W.put ((W.nums (T.nums l)).length : Nat) ++ W.nums (T.nums l) ++ W.put (W.sum (W.nums (T.nums l)) : Nat)) := Lib.hid rfl
      have HIB := Lib.hid (W.nums_byt (T.nums l))
      have HTB := Lib.hid (T.bytes_byt l)
      have hlen2 : (W.put ((W.nums (T.nums l)).length : Nat)).length + (W.nums (T.nums l)).length ≤ (T.bytes l).length := by rw [HBB.out]; simp
      obtain ⟨hbl1, hbl2, hbl3, hbl4⟩ := hbl
      have hp10 : (W.put ((W.nums (T.nums l)).length : Nat)).length ≤ 10 := W.enc_le10 (W.turn_lt _ (by omega) (by omega))
      clear hf hsl
      generalize hI : W.nums (T.nums l) = I at *
      generalize hTB : T.bytes l = TB at *
      generalize hPH : W.put (I.length : Nat) = PH at *
      have HHB := Lib.hid hTB
      have HPH := Lib.hid hPH
      clear hI hTB hPH
      go_enter Try.func6, Try.ntmps6
      go_wp2_with (go_at_call 8; refine (awake_any _).mono ?_)
      rintro e w1 ⟨rfl, b1⟩
      have r1 := hr.on b1
      clear hr
      go_wp2_with fail
      refine (bytes_any l _ _ _ r1 (by omega) HF.out).mono ?_
      rw [HHB.out]
      rintro e w2 ⟨A2, c2, rfl, ho2, hb2, hc2, hc2'⟩
      have r2 := made_rd ho2
      have b2 := b1.trans (hb2.mono b1.size)
      clear ho2 hb2 b1 r1
      go_wp2_with fail
      refine (open_yes2 HO.out r2 HTB.out (by omega) hc2 hc2').mono ?_
      rintro e w3 ⟨A3, c3, rfl, r3, b3, hc3, hc3'⟩
      replace r2 := r2.on b3
      replace b2 := b2.trans (b3.mono b2.size)
      clear b3
      go_wp2_with fail
      refine (put_any _ _ (by omega) (by omega)).mono ?_
      rw [HPH.out]
      rintro e w4 ⟨A4, c4, rfl, ho4, hb4, _, _⟩
      replace r2 := r2.on hb4
      replace b2 := b2.trans (hb4.mono b2.size)
      clear ho4 hb4 r3
      have hm1 : 0 ≤ a0 % (I.length : Int) := Int.emod_nonneg _ (by omega)
      have hm2 : a0 % (I.length : Int) < (I.length : Int) := Int.emod_lt_of_pos _ (by omega)
      obtain ⟨j, hj⟩ : ∃ j : Nat, a0 % (I.length : Int) = (j : Int) := ⟨(a0 % (I.length : Int)).toNat, by omega⟩
      have hjl : j < I.length := by omega
      have q1 : ((I.length : Int) == 0) = false := beq_false_of_ne (by omega)
      have q2 : (PH.length : Int) + (I.length : Int) ≤ (TB.length : Int) := by omega
      have q3 : decide (TB.length < PH.length + I.length) = false := decide_eq_false (by omega)
      have HJ := Lib.hid hj
      clear hj
      have o0 : (w4.alloc (.cells #[] 5)).ownsRow w4.heap.size 5 1 (.slice (some ⟨w4.heap.size, 0, none⟩) 0 0) 0 [] := World.ownsRow_made w4 #[] 0 (Nat.le_refl _) (by simp) (by simp)
      go_wp2_with (at_builtin; refine wpList_app _ rfl (.tmp 54) (.tmp 55) 24 24 rfl w4.heap.size 5 i0 _ 1 1 Try.underlying24 hi hz0 hz1 hz2 rfl (by omega) (.slice (some ⟨w4.heap.size, 0, none⟩) 0 0) 0 [] rfl o0 _ _ _ rfl (src_rd _ Try.underlying24 (bs_length _).symm (r2.on (ebel _ _)) (bs_one _)) ?c1 ?c2 ?c3 ?_)
      case c1 => simp only [maxLen]; omega
      case c2 => omega
      case c3 => simp
      intro v5 w5 ho5 hg5 _
      have hb5 : Below w4.heap.size w4 w5 := (ebel w4 _).grown hg5 (by simp) (fun k hk => (o0.lt k hk).1)
      have hs4 := b2.size
      replace b2 := b2.trans (hb5.mono b2.size)
      clear hg5 o0 hb5 r2
      obtain ⟨g, cap, hv5, hg5, hlt5⟩ := ho5.form (by omega)
      rw [hv5] at ho5 ⊢
      clear hv5
      try simp only [Nat.zero_add, List.nil_append] at ho5
      obtain ⟨hcap1, hcap2⟩ := own_cap' ho5
      obtain ⟨p, hp⟩ : ∃ p, p = PH.length + j := ⟨_, rfl⟩
      have hpl : p < TB.length := by omega
      have ck := ho5.cellAt p (by omega)
      rw [bs_at TB p hpl] at ck
      have fk := ho5.frozenAt p
      have hxI : TB[p] = I[j] := by
        have e1 : TB[p]? = I[j]? := by
          rw [HBB.out, hp, List.append_assoc, List.getElem?_append_right (by omega), Nat.add_sub_cancel_left, List.getElem?_append_left hjl]
        rw [List.getElem?_eq_getElem hpl, List.getElem?_eq_getElem hjl] at e1
        injection e1
      obtain ⟨v, hv, hv1, hv2⟩ := add_u8 TB[p] b0 (HTB.out _ (by simp)) g0 g1
      have hne : v ≠ I[j] := by rw [← hxI]; exact fun h => HB0.out (hv2.1 h)
      have HPS : Hid (T.parse (TB.set p v) = none) := Lib.hid (by rw [hp]; exact HSE.out j hjl v hv1 hne)
      obtain ⟨ho6, hg6⟩ := ho5.stored p (.int .u8 (v : Int))
      have b6 : Below w.heap.size w (w5.setCell ⟨g, p, none⟩ (.int .u8 (v : Int))) := b2.setCell (by show w.heap.size ≤ g; omega) _
      rw [bs_set'] at ho6
      have r6 := Rd.of_own ho6
      have hB6 : Byt (TB.set p v) := fun y hy => by
        rcases List.mem_or_eq_of_mem_set hy with hy | rfl
        · exact HTB.out y hy
        · exact hv1
      have HL6 : Hid (TB.length = (TB.set p v).length) := Lib.hid (by simp)
      have HP := Lib.hid hp
      have HV := Lib.hid hv
      clear hxI hne ho6 hg6 ho5 HSE hv2 hp hv
      go_upto_region 11 with (fail)
      have hpe : (PH.length : Int) + a0 % (I.length : Int) = (p : Int) := by have := HJ.out; have := HP.out; omega
      rw [hpe]
      clear hpe hm1 hm2
      have hpI : (p : Int) < (TB.length : Int) := by omega
      have hv := HV.out
      generalize TB[p] = xp at *
      go_wp2_with fail
      refine (by
        have z := parse_any (some ⟨g, 0, none⟩) cap (TB.set p v) _ r6 hB6 (by have := HL6.out; omega) (by have := HL6.out; omega) hcap2
        rw [← HL6.out, HPS.out] at z
        exact z : Calls Try.prog 10 #[.slice (some ⟨g, 0, none⟩) TB.length cap] (w5.setCell ⟨g, p, none⟩ (.int .u8 (v : Int))) (Parsed (w5.setCell ⟨g, p, none⟩ (.int .u8 (v : Int))) none)).mono ?_
      rintro e w7 ⟨b7, rfl⟩
      replace b6 := b6.trans (b7.mono b6.size)
      go_wp2_with fail
      go_ret
      exact ⟨rfl, b6⟩
  · have hl' : 60 < (l.length : Int) := by omega
    go_enter Try.func6, Try.ntmps6
    go_wp2_with (go_at_call 8; refine (awake_any _).mono ?_)
    rintro e w1 ⟨rfl, b1⟩
    go_wp2_with fail
    go_ret
    exact ⟨rfl, b1⟩
end Go.Proofs.Yteindickckcdhaa
