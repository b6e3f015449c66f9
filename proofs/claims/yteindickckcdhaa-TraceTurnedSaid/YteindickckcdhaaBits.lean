/- bits of numbers, in the form in which the walks meet them -/
import Derived.WalkKit
namespace Go.Proofs.Yteindickckcdhaa
set_option linter.unusedSimpArgs false
set_option linter.unusedVariables false

theorem and127 (u : Nat) (h : u < 18446744073709551616) : bits .and .u64 (u : Int) 127 = ((u % 128 : Nat) : Int) := by
  have := u64_and_nat u 127 h (by omega)
  rw [nat_mask7] at this
  exact this
theorem and1 (u : Nat) (h : u < 18446744073709551616) : bits .and .u64 (u : Int) 1 = ((u % 2 : Nat) : Int) := by
  have := u64_and_nat u 1 h (by omega)
  rw [nat_mask1] at this
  exact this
theorem and127b (u : Nat) (h : u < 256) : bits .and .u8 (u : Int) 127 = ((u % 128 : Nat) : Int) := by
  have := u8_and_nat u 127 h (by omega)
  rw [nat_mask7] at this
  exact this
theorem or128 (g : Nat) (h : g < 128) : bits .or .u8 (g : Int) 128 = ((g + 128 : Nat) : Int) := by
  have := u8_or_nat g 128 (by omega) (by omega)
  rw [Nat.or_comm, nat_join 7 128 g (by decide) (by simpa using h)] at this
  rw [Nat.add_comm g 128]
  exact this
theorem xor_all (n x : Nat) (h : x < 2 ^ n) : (2 ^ n - 1) ^^^ x = 2 ^ n - 1 - x := by
  rw [Nat.xor_comm]
  apply Nat.eq_of_testBit_eq
  intro i
  rw [Nat.testBit_xor, Nat.testBit_two_pow_sub_one, show 2 ^ n - 1 - x = 2 ^ n - (x + 1) by omega, Nat.testBit_two_pow_sub_succ h]
  by_cases hi : i < n
  · simp [hi]
  · have : x.testBit i = false := Nat.testBit_lt_two_pow (Nat.lt_of_lt_of_le h (Nat.pow_le_pow_right (by omega) (by omega)))
    simp [hi, this]
theorem not_u64 (x : Nat) (h : x < 18446744073709551616) : bits .xor .u64 IntKind.u64.max (x : Int) = ((18446744073709551615 - x : Nat) : Int) := by
  have e : IntKind.u64.max = ((18446744073709551615 : Nat) : Int) := by decide
  rw [e, u64_xor_nat _ x (by omega) h]
  have := xor_all 64 x (by simpa using h)
  rw [show (18446744073709551615 : Nat) = 2 ^ 64 - 1 by decide, this]
theorem not_i64 (x : Nat) (h : x < 9223372036854775808) : bits .xor .i64 (-1) (x : Int) = -1 - (x : Int) := by
  show IntKind.i64.wrap ((BitVec.ofInt 64 (-1) ^^^ BitVec.ofInt 64 (x : Int)).toNat : Int) = _
  have e1 : (BitVec.ofInt 64 (-1)).toNat = 2 ^ 64 - 1 := by decide
  have e2 : (BitVec.ofInt 64 (x : Int)).toNat = x := by rw [BitVec.ofInt_natCast, BitVec.toNat_ofNat]; exact Nat.mod_eq_of_lt (by omega)
  rw [BitVec.toNat_xor, e1, e2, xor_all 64 x (by omega), IntKind.wrap_i64]
  omega
theorem or_shift (u x i : Nat) (hu : u < 128 ^ i) (hx : u + x * 128 ^ i < 18446744073709551616) : bits .or .u64 (u : Int) ((x * 128 ^ i : Nat) : Int) = ((u + x * 128 ^ i : Nat) : Int) := by
  rw [u64_or_nat u _ (by omega) (by omega), Nat.or_comm, nat_join (7 * i) (x * 128 ^ i) u ?_ ?_, Nat.add_comm]
  · rw [Nat.pow_mul]; simp
  · rw [Nat.pow_mul]; exact hu
end Go.Proofs.Yteindickckcdhaa
