/- the laws walked: TraceApart -/
import Derived.Test.YteindickckcdhaaTrJ
namespace Go.Proofs.Yteindickckcdhaa
open Go.RowKit
set_option linter.unusedSimpArgs false
set_option linter.unusedVariables false
set_option maxRecDepth 100000

theorem cut_hk {P : Program} {A : Option Addr} {t e : TypeId} {i : TypeInfo} (ht : P.underlying t = some (.slice e)) (hi : P.info? e = some i) (n c m : Nat) (hI : Int) (hh : hI = m) (hm : m ≤ c) :
    ∀ w', (Instr.slice t (.slice A n c) none (some (.int .i64 hI)) none).run P w' = .ok (.slice A m c) w' := by
  intro w'
  have he := elem_of ht
  rw [run_slice_h w' t A n c (by rw [he]; exact ht) .i64 hI (by omega) (by omega)]
  subst hh
  have ha : ∀ o : Option Addr, o.map (·.add 0) = o := by
    intro o
    cases o with
    | none => rfl
    | some a => simp [Addr.add]
  by_cases hc : c = 0
  · subst hc
    simp [he, sizeOf, typeInfo, hi, sliced, Result.andThen]
  · simp [he, sizeOf, typeInfo, hi, sliced, Result.andThen, hc, ha]
theorem ecs_take (l : List T.Ev) (k : Nat) : ecs (l.take k) = (ecs l).take (k * 8) := by
  induction l generalizing k with
  | nil => simp [ecs]
  | cons f l ih =>
    cases k with
    | zero => simp [ecs]
    | succ k =>
      rw [List.take_succ_cons, ecs_cons, ecs_cons, ih, List.take_append]
      have he : (ec f).length = 8 := rfl
      rw [List.take_of_length_le (l := ec f) (by omega), he, show (k + 1) * 8 - 8 = k * 8 by omega]

theorem apart_walk (l m : List T.Ev) (A B : Option Addr) (c d : Nat) (a0 : Int) (w : World) (hr : Rd w w.heap.size A (ecs l)) (hq : Rd w w.heap.size B (ecs m)) (hf : ∀ x ∈ l, T.fits x) (hf2 : ∀ x ∈ m, T.fits x)
    (hlc : l.length ≤ c) (hc : c ≤ 9223372036854775807) (hm9 : m.length ≤ 9223372036854775807) (h0 : 0 ≤ a0) (h255 : a0 ≤ 255) :
    Calls Try.prog 7 #[.slice A l.length c, .slice B m.length d, .int .u8 a0] w (fun e w' => e = .returned (.bool true) ∧ Below w.heap.size w w') := by
  by_cases hl : l.length ≤ 60
  · have hlI : (l.length : Int) ≤ 60 := by omega
    by_cases hm : m.length ≤ 60
    · have hmI : (m.length : Int) ≤ 60 := by omega
      have hm1 : 0 ≤ a0 % ((l.length : Int) + 1) := Int.emod_nonneg _ (by omega)
      have hm2 : a0 % ((l.length : Int) + 1) < (l.length : Int) + 1 := Int.emod_lt_of_pos _ (by omega)
      obtain ⟨k, hk⟩ : ∃ k : Nat, a0 % ((l.length : Int) + 1) = (k : Int) := ⟨(a0 % ((l.length : Int) + 1)).toNat, by omega⟩
      have hkl : k ≤ l.length := by omega
      have hf3 : ∀ x ∈ l.take k, T.fits x := fun x hx => hf x (List.mem_of_mem_take hx)
      have hlt : (l.take k).length = k := by rw [List.length_take]; omega
      have H1 := Lib.hid (T.bytes_inj hf hf2 (by omega) (by omega))
      have H2 := Lib.hid (T.bytes_inj hf hf3 (by omega) (by omega))
      have HLT := Lib.hid hlt
      have HF := Lib.hid hf
      have HF2 := Lib.hid hf2
      have HF3 := Lib.hid hf3
      have HB1 := Lib.hid (T.bytes_len hf (by omega))
      have HB2 := Lib.hid (T.bytes_len hf2 (by omega))
      have HB3 := Lib.hid (T.bytes_len hf3 (by omega))
      obtain ⟨i5, hi5⟩ : ∃ i, Try.prog.info? 48 = some i := Option.isSome_iff_exists.1 (by kernel_rfl)
      have hcut := cut_hk (P := Try.prog) (A := A) Try.underlying22 hi5 l.length c k (a0 % ((l.length : Int) + 1)) hk (by omega)
      have HK := Lib.hid hk
      have HCUT : Hid (∀ w', (Instr.slice 22 (.slice A l.length c) none (some (.int .i64 (k : Int))) none).run Try.prog w' = .ok (.slice A k c) w') := Lib.hid (cut_hk (P := Try.prog) (A := A) Try.underlying22 hi5 l.length c k (k : Int) rfl (by omega))
      clear hf hf2 hf3 hlt hk hcut hi5
      go_enter Try.func7, Try.ntmps7
      go_wp2_with (go_at_call 8; refine (awake_any _).mono ?_)
      rintro e w1 ⟨rfl, b1⟩
      have r1 := hr.on b1
      have q1 := hq.on b1
      clear hr hq
      go_wp2_with fail
      have hke := HK.out
      rw [hke]
      clear hke hm1 hm2 HK
      refine (bytes_any l _ _ _ r1 (by omega) HF.out).mono ?_
      rintro e w2 ⟨A2, c2, rfl, ho2, hb2, _, _⟩
      have r2 := made_rd ho2
      replace r1 := r1.on hb2
      replace q1 := q1.on hb2
      have b2 := b1.trans (hb2.mono b1.size)
      clear ho2 hb2 b1
      go_wp2_with fail
      refine (bytes_any m _ _ _ q1 (by omega) HF2.out).mono ?_
      rintro e w3 ⟨A3, c3, rfl, ho3, hb3, _, _⟩
      have r3 := made_rd ho3
      replace r1 := r1.on hb3
      replace q1 := q1.on hb3
      replace r2 := r2.on hb3
      replace b2 := b2.trans (hb3.mono b2.size)
      clear ho3 hb3
      go_wp2_with fail
      refine (same_any (decide (l = m)) A2 A3 c2 c3 (T.bytes l) (T.bytes m) _ (by simp only [H1.out]) r2 r3 (by have := HB1.out; omega) (by have := HB2.out; omega)).mono ?_
      rintro e w4 ⟨rfl, n4, rfl⟩
      replace r1 := (r1.drewN n4).top
      replace q1 := (q1.drewN n4).top
      replace r2 := (r2.drewN n4).top
      replace b2 := below_drewN b2 n4
      clear r3
      generalize w3.drewN n4 = w4 at *
      have hcut := HCUT.out
      have rT := r1.take (k * 8)
      rw [← ecs_take] at rT
      go_wp2_with fail
      clear hcut HCUT
      refine (by have := bytes_any (l.take k) A c _ rT (by have := HLT.out; omega) HF3.out; rw [HLT.out] at this; exact this : Calls Try.prog 9 #[.slice A k c] w4 (Made w4 (T.bytes (l.take k)))).mono ?_
      rintro e w5 ⟨A5, c5, rfl, ho5, hb5, _, _⟩
      have r5 := made_rd ho5
      replace r1 := r1.on hb5
      replace q1 := q1.on hb5
      replace r2 := r2.on hb5
      replace b2 := b2.trans (hb5.mono b2.size)
      clear ho5 hb5 rT
      go_wp2_with fail
      refine (same_any (decide (l = l.take k)) A2 A5 c2 c5 (T.bytes l) (T.bytes (l.take k)) _ (by simp only [H2.out]) r2 r5 (by have := HB1.out; omega) (by have := HB3.out; omega)).mono ?_
      rintro e w6 ⟨rfl, n6, rfl⟩
      replace r1 := (r1.drewN n6).top
      replace q1 := (q1.drewN n6).top
      replace b2 := below_drewN b2 n6
      clear r2 r5
      generalize w5.drewN n6 = w6 at *
      have hd : decide (l = l.take k) = ((k : Int) == (l.length : Int)) := by
        rw [Bool.eq_iff_iff]
        simp only [decide_eq_true_eq, beq_iff_eq]
        constructor
        · intro h; have h1 := congrArg List.length h; rw [HLT.out] at h1; omega
        · intro h; rw [List.take_of_length_le (by omega)]
      have HD := Lib.hid hd
      clear hd
      have HM : Hid (decide (l = m) = decide (l = m)) := Lib.hid rfl
      generalize hbm : decide (l = m) = bm at *
      have HBM := Lib.hid hbm
      clear hbm HM
      go_wp2_with fail
      refine (esame_any l m _ _ _ _ _ r1 q1 (by omega) (by omega)).mono ?_
      rintro e w7 ⟨rfl, b7⟩
      rw [HBM.out]
      replace b2 := b2.trans (b7.mono b2.size)
      have e1 : (bm == bm) = true := by simp
      generalize hbk : decide (l = l.take k) = bk at *
      have HBK := Lib.hid hbk
      clear hbk
      go_wp2_with fail
      go_ret
      exact ⟨by show Ending.returned (.bool (bk == ((k : Int) == (l.length : Int)))) = _; rw [HD.out]; simp, b2⟩
    · have hm' : 60 < (m.length : Int) := by omega
      go_enter Try.func7, Try.ntmps7
      go_wp2_with (go_at_call 8; refine (awake_any _).mono ?_)
      rintro e w1 ⟨rfl, b1⟩
      go_wp2_with fail
      go_ret
      exact ⟨rfl, b1⟩
  · have hl' : 60 < (l.length : Int) := by omega
    go_enter Try.func7, Try.ntmps7
    go_wp2_with (go_at_call 8; refine (awake_any _).mono ?_)
    rintro e w1 ⟨rfl, b1⟩
    go_wp2_with fail
    go_ret
    exact ⟨rfl, b1⟩
end Go.Proofs.Yteindickckcdhaa
