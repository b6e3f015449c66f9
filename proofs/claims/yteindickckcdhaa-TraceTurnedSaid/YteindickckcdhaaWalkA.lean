/- walks: turned, back, lay, Put of package wire -/
import Derived.Test.YteindickckcdhaaChecked
import Derived.Test.YteindickckcdhaaMem
import Derived.Test.YteindickckcdhaaBits
import Derived.Test.YteindickckcdhaaWireDef
import Derived.WalkSpells
import Derived.WalkLawsBesides
import Derived.Deep.LoopGhost
namespace Go.Proofs.Yteindickckcdhaa
open Go.RowKit
set_option linter.unusedSimpArgs false
set_option linter.unusedVariables false

theorem ret_int {k : IntKind} {a b : Int} (h : a = b) : Ending.returned (.int k a) = .returned (.int k b) := by rw [h]
theorem info_u8 : (Try.prog.info? 5).map (fun i => (i.zero, i.size, i.bytes)) = some (some (.int .u8 0), 1, 1) := by kernel_rfl
theorem info_int : (Try.prog.info? 3).map (fun i => (i.zero, i.size, i.bytes)) = some (some (.int .i64 0), 1, 8) := by kernel_rfl

theorem turned_any (n : Int) (w : World) (h1 : -9223372036854775808 ≤ n) (h2 : n ≤ 9223372036854775807) :
    Calls Try.prog 41 #[.int .i64 n] w fun e w' => e = .returned (.int .u64 (W.turn n : Nat)) ∧ w = w' := by
  by_cases h0 : 0 ≤ n
  · go_enter Try.func41, Try.ntmps41
    go_wp2
    go_ret
    exact ⟨ret_int (by unfold W.turn; rw [if_pos h0]; omega), rfl⟩
  · have e1 : IntKind.u64.wrap (IntKind.u64.wrap n * 2) = ((2 * n + 18446744073709551616).toNat : Int) := by
      rw [IntKind.wrap_u64, IntKind.wrap_u64]; omega
    have e2 : bits .xor .u64 IntKind.u64.max (IntKind.u64.wrap (IntKind.u64.wrap n * 2)) = ((W.turn n : Nat) : Int) := by
      rw [e1, not_u64 _ (by omega)]
      unfold W.turn
      rw [if_neg h0]
      omega
    have H := Lib.hid e2
    clear e1 e2
    go_enter Try.func41, Try.ntmps41
    go_wp2
    go_ret
    exact ⟨ret_int H.out, rfl⟩
theorem back_any (u : Nat) (w : World) (h1 : u < 18446744073709551616) :
    Calls Try.prog 40 #[.int .u64 u] w fun e w' => e = .returned (.int .i64 (W.unturn u)) ∧ w = w' := by
  have e1 := and1 u h1
  by_cases h0 : u % 2 = 0
  · have e2 : (bits .and .u64 (u : Int) 1 == 0) = true := by rw [e1]; simp; omega
    clear e1
    go_enter Try.func40, Try.ntmps40
    go_wp2
    go_ret
    exact ⟨ret_int (by unfold W.unturn; rw [if_pos h0]; omega), rfl⟩
  · have e2 : (bits .and .u64 (u : Int) 1 == 0) = false := by rw [e1]; simp; omega
    have e3 := not_i64 (u / 2) (by omega)
    have H := Lib.hid e3
    clear e1 e3
    go_enter Try.func40, Try.ntmps40
    go_wp2
    go_ret
    exact ⟨ret_int (by unfold W.unturn; rw [if_neg h0]; have := H.out; simp at this ⊢; omega), rfl⟩

/-- what lay leaves -/
def Laid (w : World) (base : Nat) (v : Value) (m : Nat) (xs : List Value) (news : List Nat) (e : Ending) (w' : World) : Prop :=
  ∃ v', e = .returned v' ∧ w'.ownsRow base 5 1 v' (m + news.length) (xs ++ bs news) ∧ w.grownBy w' v.ownBlock ∧ Lies w v.ownBlock v'

set_option maxHeartbeats 400000 in
theorem lay_any (base : Nat) (v : Value) (m : Nat) (xs : List Value) (n : Int) (w : World) (hown : w.ownsRow base 5 1 v m xs) (hbase : base ≤ w.heap.size) (hm : m ≤ 100000000)
    (h1 : -9223372036854775808 ≤ n) (h2 : n ≤ 9223372036854775807) : Calls Try.prog 35 #[v, .int .i64 n] w (Laid w base v m xs (W.put n)) := by
  obtain ⟨i0, hi, hz0, hz1, hz2⟩ := info_parts info_u8
  have hT := W.turn_lt n h1 h2
  go_enter Try.func35, Try.ntmps35
  go_wp2
  go_step3
  go_wp2_with (go_at_call 41; refine (turned_any _ _ h1 h2).mono ?_; rintro e w' ⟨rfl, rfl⟩)
  go_step3
  go_wp2
  go_loopw [0, 5] (fun b l wr => ∃ (v' : Value) (left : Nat) (done : List Nat), b = v' ∧ l = .int .u64 left ∧ left < 18446744073709551616 ∧ done ++ W.enc left = W.put n ∧ wr.ownsRow base 5 1 v' (m + done.length) (xs ++ bs done) ∧ w.grownBy wr v.ownBlock ∧ Lies w v.ownBlock v') (fun _ l _ => (intOf l).toNat)
  case atStart => exact ⟨v, W.turn n, [], rfl, rfl, hT, rfl, by simpa [bs] using hown, World.grownBy.refl _ _, .inl rfl⟩
  case round =>
    obtain ⟨v', left, done, rfl, rfl, hlt, hdone, hown', hg, hat⟩ := hrel
    have e1 := and127 left hlt
    have e2 : bits .or .u8 ((left : Int) % 128) 128 = (left : Int) % 128 + 128 := or128 (left % 128) (by omega)
    have hsz := hg.size
    have hlen : done.length ≤ 10 := by
      have := congrArg List.length hdone
      have h10 : (W.put n).length ≤ 10 := W.enc_le10 hT
      simp at this
      omega
    have HD := Lib.hid hdone
    clear hdone
    by_cases hq : left < 128
    · have q1 : ((left : Int) / 128 == 0) = true := by simp; omega
      go_wp2_with (at_builtin; refine wpList_append_own_at _ rfl (.tmp 22) (.tmp 24) 24 rfl base 5 i0 _ 1 1 Try.underlying24 hi hz0 hz1 hz2 rfl (by omega) u0 (m + done.length) (xs ++ bs done) rfl (hown'.alloc _) ⟨wr.heap.size, 0, none⟩ 1 1 [.int .u8 ((left : Int) % 128)] rfl rfl ?c1 ?c2 ?c3 ?c4 ?c5 ?_)
      case c1 => exact cell_one_new _ _ _
      case c2 => exact bs_one [left % 128]
      case c3 => simp only [maxLen]; omega
      case c4 => omega
      case c5 => simp; omega
      intro v2 w2 hown2 hg2 _ hat2
      have hg3 := grown_step hg hat hg2
      have hat3 := lies_step hg hat hat2
      have hE : Hid (done ++ [left % 128] = W.put n) := by rw [← HD.out, W.enc_lt hq]; congr 2; omega
      clear hg2 hat2 HD hown' hg hat e1 e2 q1
      go_wp2
      rw [Exit.noGoto_ret]
      go_ret
      refine ⟨v2, rfl, ?_, hg3, hat3⟩
      rw [← hE.out]
      simpa [bs, Nat.add_assoc] using hown2
    · have q1 : ((left : Int) / 128 == 0) = false := by simp; omega
      go_wp2_with (at_builtin; refine wpList_append_own_at _ rfl (.tmp 15) (.tmp 18) 24 rfl base 5 i0 _ 1 1 Try.underlying24 hi hz0 hz1 hz2 rfl (by omega) u0 (m + done.length) (xs ++ bs done) rfl (hown'.alloc _) ⟨wr.heap.size, 0, none⟩ 1 1 [.int .u8 ((left : Int) % 128 + 128)] rfl rfl ?c1 ?c2 ?c3 ?c4 ?c5 ?_)
      case c1 => exact cell_one_new _ _ _
      case c2 => exact bs_one [left % 128 + 128]
      case c3 => simp only [maxLen]; omega
      case c4 => omega
      case c5 => simp; omega
      intro v2 w2 hown2 hg2 _ hat2
      have hg3 := grown_step hg hat hg2
      have hat3 := lies_step hg hat hat2
      have hE : Hid ((done ++ [left % 128 + 128]) ++ W.enc (left / 128) = W.put n) := by rw [← HD.out, W.enc_ge hq, List.append_assoc]; rfl
      clear hg2 hat2 HD hown' hg hat e1 e2 q1
      go_wp2
      go_roundw
      case rel => exact ⟨v2, left / 128, done ++ [left % 128 + 128], rfl, by go_num, by omega, hE.out, by simpa [bs, Nat.add_assoc] using hown2, hg3, hat3⟩
      case measure => simp [intOf]; omega
end Go.Proofs.Yteindickckcdhaa
