/- walks: one, awake -/
import Derived.Test.YteindickckcdhaaTrG
namespace Go.Proofs.Yteindickckcdhaa
open Go.RowKit
set_option linter.unusedSimpArgs false
set_option linter.unusedVariables false
set_option maxRecDepth 100000

theorem one_any (w : World) : Calls Try.prog 20 #[] w (fun e w' => e = .returned (.agg #[.int .i64 1, .int .i64 0, .int .i64 1, .int .i64 2, .int .i64 0, .int .i64 0, .int .i64 7, .bool true]) ∧ Below w.heap.size w w') := by
  go_enter Try.func20, Try.ntmps20
  go_wp2
  refine bodyPost_ret (v := .agg #[.int .i64 1, .int .i64 0, .int .i64 1, .int .i64 2, .int .i64 0, .int .i64 0, .int .i64 7, .bool true]) (by simp [results, Try.results20, go_sem]) rfl ⟨rfl, ?_⟩
  repeat (first | exact Below.refl _ _ | refine Below.alloc ?_ (by simp <;> omega) _ | refine Below.setCell ?_ (by simp <;> omega) _)

def T.two : List T.Ev := [(1, 0, 1, 2, 0, 0, 7, true), (2, 0, 0, 0, 0, 0, 0, false)]
theorem T.two_fits : ∀ x ∈ T.two, T.fits x := by
  intro x hx n hn
  simp only [T.two, List.mem_cons, List.not_mem_nil, or_false] at hx
  rcases hx with rfl | rfl
  · simp [T.row, T.oki] at hn; omega
  · simp [T.row, T.oki] at hn; omega
theorem rd_new (w : World) (t : TypeId) (cs : Array Value) : Rd (w.alloc (.cells cs t)) (w.alloc (.cells cs t)).heap.size (some ⟨w.heap.size, 0, none⟩) cs.toList := by
  refine .inr ⟨w.heap.size, 0, rfl, by simp, fun j u hu => ?_⟩
  have h : Blk (w.alloc (.cells cs t)) w.heap.size t cs := Blk.new w t cs
  rw [Nat.zero_add, h.cell j, ← hu]
  simp
theorem ebel (w : World) (o : Obj) : Below w.heap.size w (w.alloc o) := (Below.refl _ _).alloc (Nat.le_refl _) o
/-- an own row, its base forgotten -/
theorem made_rd {w w' : World} {A : Option Addr} {n c : Nat} {xs : List Value} {e : TypeId} (h : w'.ownsRow w.heap.size e 1 (.slice A n c) n xs) : Rd w' w'.heap.size A xs := Rd.of_own h

set_option maxHeartbeats 1000000 in
theorem awake_any (w : World) : Calls Try.prog 8 #[] w (fun e w' => e = .returned (.bool true) ∧ Below w.heap.size w w') := by
  have HF := Lib.hid T.two_fits
  have hlen := T.bytes_len T.two_fits (by decide)
  have h2 : T.two.length = 2 := rfl
  rw [h2] at hlen
  have HP := Lib.hid (T.parse_bytes T.two_fits (by decide))
  have HO : Hid (W.opened (T.bytes T.two) = some (W.nums (T.nums T.two), (W.sealed (W.nums (T.nums T.two))).length)) := Lib.hid (by
    have h := W.opened_sealed (W.nums (T.nums T.two)) [] (by omega)
    rw [List.append_nil] at h; exact h)
  have HG : Hid (W.getNums (W.nums (T.nums T.two)) = some (T.nums T.two, (W.nums (T.nums T.two)).length)) := Lib.hid (by
    have h := W.getNums_nums (T.nums T.two) [] (T.nums_fit T.two_fits) (by decide)
    rw [List.append_nil] at h; exact h)
  have hB1 : (T.bytes T.two).length ≤ 1000000 := by omega
  have hB2 : (W.nums (T.nums T.two)).length ≤ 1000000 := by omega
  clear hlen h2
  go_enter Try.func8, Try.ntmps8
  go_wp2_with (go_at_call 20; refine (one_any _).mono ?_)
  rintro e w1 ⟨rfl, b1⟩
  go_wp2_with fail
  have r1 : Rd (w1.alloc (.cells (ecs T.two).toArray 48)) (w1.alloc (.cells (ecs T.two).toArray 48)).heap.size (some ⟨w1.heap.size, 0, none⟩) (ecs T.two) := rd_new _ _ _
  have b2 := b1.trans ((ebel w1 (.cells (ecs T.two).toArray 48)).mono b1.size)
  clear b1
  refine (by
    have z : Calls Try.prog 9 #[.slice (some ⟨w1.heap.size, 0, none⟩) T.two.length 2] (w1.alloc (.cells (ecs T.two).toArray 48)) (Made (w1.alloc (.cells (ecs T.two).toArray 48)) (T.bytes T.two)) := bytes_any T.two _ 2 _ r1 (by decide) HF.out
    exact z : Calls Try.prog 9 #[.slice (some ⟨w1.heap.size, 0, none⟩) 2 2] (w1.alloc (.cells (ecs T.two).toArray 48)) (Made (w1.alloc (.cells (ecs T.two).toArray 48)) (T.bytes T.two))).mono ?_
  generalize w1.alloc (.cells (ecs T.two).toArray 48) = w2 at *
  rintro e w3 ⟨A3, c3, rfl, ho3, hb3, hc3, hc3'⟩
  have r3 := made_rd ho3
  replace b2 := b2.trans (hb3.mono b2.size)
  clear ho3 hb3 r1
  go_wp2_with fail
  refine (parse_any A3 c3 (T.bytes T.two) _ r3 (T.bytes_byt _) hB1 hc3 hc3').mono ?_
  rw [HP.out]
  rintro e w4 ⟨b4, A4, c4, rfl, r4, hc4⟩
  replace r3 := r3.on b4
  replace b2 := b2.trans (b4.mono b2.size)
  clear b4
  go_wp2_with fail
  refine (open_yes2 HO.out r3 (T.bytes_byt _) hB1 hc3 hc3').mono ?_
  rintro e w5 ⟨A5, c5, rfl, r5, b5, hc5, hc5'⟩
  replace r4 := r4.on b5
  replace b2 := b2.trans (b5.mono b2.size)
  clear b5 r3
  go_wp2_with fail
  refine (getnums_any A5 c5 (W.nums (T.nums T.two)) _ r5 (W.nums_byt _) hB2 hc5 hc5').mono ?_
  rw [HG.out]
  rintro e w6 ⟨b6, A6, c6, rfl, r6, hc6⟩
  replace r4 := r4.on b6
  replace b2 := b2.trans (b6.mono b2.size)
  clear b6 r5
  go_wp2_with fail
  refine (picks_any T.two A4 c4 _ r4 (by decide)).mono ?_
  rintro e w7 ⟨A7, c7, rfl, r7, b7⟩
  replace r4 := r4.on b7
  replace r6 := r6.on b7
  replace b2 := b2.trans (b7.mono b2.size)
  clear b7
  go_wp2_with (go_at_call 20; refine (one_any _).mono ?_)
  rintro e w8 ⟨rfl, b8⟩
  replace r4 := r4.on b8
  replace r6 := r6.on b8
  replace r7 := r7.on b8
  replace b2 := b2.trans (b8.mono b2.size)
  clear b8
  go_wp2_with fail
  have r9 : Rd (w8.alloc (.cells (ecs T.two).toArray 48)) (w8.alloc (.cells (ecs T.two).toArray 48)).heap.size (some ⟨w8.heap.size, 0, none⟩) (ecs T.two) := rd_new _ _ _
  have b9 := ebel w8 (.cells (ecs T.two).toArray 48)
  replace r4 := r4.on b9
  replace r6 := r6.on b9
  replace r7 := r7.on b9
  replace b2 := b2.trans (b9.mono b2.size)
  clear b9
  refine (esame_any T.two T.two A4 (some ⟨w8.heap.size, 0, none⟩) c4 2 (w8.alloc (.cells (ecs T.two).toArray 48)) r4 r9 (by decide) (by decide)).mono ?_
  generalize w8.alloc (.cells (ecs T.two).toArray 48) = w9 at *
  rintro e w10 ⟨rfl, b10⟩
  rw [show decide (T.two = T.two) = true by simp]
  replace r6 := r6.on b10
  replace r7 := r7.on b10
  replace b2 := b2.trans (b10.mono b2.size)
  clear b10 r4 r9
  go_wp2_with fail
  have r11 : Rd (w10.alloc (.cells #[.int .i64 1, .int .i64 0, .int .i64 1, .int .i64 2, .int .i64 0, .int .i64 0, .int .i64 7, .int .i64 1, .int .i64 2, .int .i64 0, .int .i64 0, .int .i64 0, .int .i64 0, .int .i64 0, .int .i64 0, .int .i64 0] 3)) (w10.alloc (.cells #[.int .i64 1, .int .i64 0, .int .i64 1, .int .i64 2, .int .i64 0, .int .i64 0, .int .i64 7, .int .i64 1, .int .i64 2, .int .i64 0, .int .i64 0, .int .i64 0, .int .i64 0, .int .i64 0, .int .i64 0, .int .i64 0] 3)).heap.size (some ⟨w10.heap.size, 0, none⟩) (is (T.nums T.two)) := rd_new _ _ _
  have b11 := ebel w10 (.cells #[.int .i64 1, .int .i64 0, .int .i64 1, .int .i64 2, .int .i64 0, .int .i64 0, .int .i64 7, .int .i64 1, .int .i64 2, .int .i64 0, .int .i64 0, .int .i64 0, .int .i64 0, .int .i64 0, .int .i64 0, .int .i64 0] 3)
  replace r6 := r6.on b11
  replace r7 := r7.on b11
  replace b2 := b2.trans (b11.mono b2.size)
  clear b11
  generalize w10.alloc (.cells #[.int .i64 1, .int .i64 0, .int .i64 1, .int .i64 2, .int .i64 0, .int .i64 0, .int .i64 7, .int .i64 1, .int .i64 2, .int .i64 0, .int .i64 0, .int .i64 0, .int .i64 0, .int .i64 0, .int .i64 0, .int .i64 0] 3) = w11 at *
  generalize w10.heap.size = g10 at *
  refine (ints_any true A6 (some ⟨g10, 0, none⟩) c6 16 (T.nums T.two) (T.nums T.two) w11 (by simp) r6 r11 (by decide) (by decide)).mono ?_
  rintro e w12 ⟨rfl, n12, rfl⟩
  replace r7 := (r7.drewN n12).top
  replace b2 := below_drewN b2 n12
  clear r6 r11
  generalize w11.drewN n12 = w12 at *
  go_wp2_with fail
  have r13 : Rd (w12.alloc (.cells (pcs (T.picks T.two)).toArray 55)) (w12.alloc (.cells (pcs (T.picks T.two)).toArray 55)).heap.size (some ⟨w12.heap.size, 0, none⟩) (pcs (T.picks T.two)) := rd_new _ _ _
  have b13 := ebel w12 (.cells (pcs (T.picks T.two)).toArray 55)
  replace r7 := r7.on b13
  replace b2 := b2.trans (b13.mono b2.size)
  clear b13
  refine (picked_eq (T.picks T.two) A7 (some ⟨w12.heap.size, 0, none⟩) c7 2 (w12.alloc (.cells (pcs (T.picks T.two)).toArray 55)) r7 r13 (by decide)).mono ?_
  rintro e w14 ⟨rfl, b14⟩
  replace b2 := b2.trans (b14.mono b2.size)
  go_wp2_with fail
  go_ret
  exact ⟨rfl, b2⟩
end Go.Proofs.Yteindickckcdhaa
