/- Plain facts on the bits of 64-bit numbers. No program. -/
import Derived.Laws.BitsAllLaws
import Derived.Laws.BitsLemmas
import Derived.Test.YtocllhghbmbjpaaDoorPack
import Derived.RowKit
import Derived.Laws.Bits64
set_option linter.unusedSimpArgs false
set_option linter.unusedVariables false
namespace Moi
open Go Go.RowKit

theorem and63 (n : Nat) (h : n < 18446744073709551616) : n &&& 9223372036854775808 = if 9223372036854775808 ≤ n then 9223372036854775808 else 0 := by
  have e : n &&& 2 ^ 63 = if n.testBit 63 then 2 ^ 63 else 0 := by
    apply Nat.eq_of_testBit_eq
    intro i
    rw [Nat.testBit_and, Nat.testBit_two_pow]
    by_cases hi : 63 = i
    · subst hi
      cases hb : n.testBit 63
      · simp
      · rw [if_pos rfl, Nat.testBit_two_pow_self]; simp
    · cases hb : n.testBit 63 <;> simp [hi, Nat.testBit_two_pow_of_ne hi]
  rw [show (9223372036854775808 : Nat) = 2 ^ 63 from rfl, e, Nat.testBit_eq_decide_div_mod_eq]
  by_cases h1 : 2 ^ 63 ≤ n
  · rw [if_pos h1, if_pos (by rw [decide_eq_true_iff]; omega)]
  · rw [if_neg h1, if_neg (by rw [decide_eq_true_iff]; omega)]
theorem or63 (n : Nat) (h : n < 18446744073709551616) : n ||| 9223372036854775808 = if 9223372036854775808 ≤ n then n else n + 9223372036854775808 := by
  have e : ∀ b : Nat, b < 2 ^ 63 → b ||| 2 ^ 63 = b + 2 ^ 63 := by
    intro b hb
    have := Nat.two_pow_add_eq_or_of_lt hb 1
    rw [Nat.mul_one] at this
    rw [Nat.or_comm, ← this, Nat.add_comm]
  rw [show (9223372036854775808 : Nat) = 2 ^ 63 from rfl]
  by_cases h1 : 2 ^ 63 ≤ n
  · rw [if_pos h1]
    obtain ⟨m, rfl⟩ : ∃ m, n = m + 2 ^ 63 := ⟨n - 2 ^ 63, by omega⟩
    rw [← e m (by omega), Nat.or_assoc, Nat.or_self]
  · rw [if_neg h1, e n (by omega)]

theorem bAnd63 (n : Nat) (h : n < 18446744073709551616) : bits .and .u64 (n : Int) 9223372036854775808 = ((if 9223372036854775808 ≤ n then 9223372036854775808 else 0 : Nat) : Int) := by
  rw [show (9223372036854775808 : Int) = ((9223372036854775808 : Nat) : Int) from rfl, u64_and_nat n _ h (by omega), and63 n h]
theorem bOr63 (n : Nat) (h : n < 18446744073709551616) : bits .or .u64 (n : Int) 9223372036854775808 = ((if 9223372036854775808 ≤ n then n else n + 9223372036854775808 : Nat) : Int) := by
  rw [show (9223372036854775808 : Int) = ((9223372036854775808 : Nat) : Int) from rfl, u64_or_nat n _ h (by omega), or63 n h]
theorem bNot (n : Nat) (h : n < 18446744073709551616) : bits .xor .u64 IntKind.u64.max (n : Int) = ((18446744073709551615 - n : Nat) : Int) := by
  have e : IntKind.u64.max = ((18446744073709551615 : Nat) : Int) := by decide
  have hm : (2 ^ 64 - 1) ^^^ n = 2 ^ 64 - 1 - n := by
    have := BitVec.toNat_not (x := BitVec.ofNat 64 n)
    rw [BitVec.toNat_ofNat, Nat.mod_eq_of_lt h] at this
    rw [← this, BitVec.not_def, BitVec.toNat_xor, BitVec.toNat_ofNat, Nat.mod_eq_of_lt h, BitVec.toNat_allOnes]
  rw [e, u64_xor_nat _ n (by omega) h, show (18446744073709551615 : Nat) = 2 ^ 64 - 1 from rfl, hm]
theorem bAndNot63 (n : Nat) (h : n < 18446744073709551616) : bits .andNot .u64 (n : Int) 9223372036854775808 = ((n % 9223372036854775808 : Nat) : Int) := by
  rw [show (9223372036854775808 : Int) = ((9223372036854775808 : Nat) : Int) from rfl, u64_andNot_nat n _ h (by omega)]
  have : n &&& (2 ^ 63 - 1) = n % 2 ^ 63 := Nat.and_two_pow_sub_one_eq_mod n 63
  rw [show (18446744073709551615 - 9223372036854775808 : Nat) = 2 ^ 63 - 1 from rfl, this]
/-- The test on the sign, in the walk's form. -/
theorem sign_yes (n : Nat) (h : n < 18446744073709551616) (hs : fsign ≤ n) : (bits .and .u64 (n : Int) 9223372036854775808 != 0) = true := by
  unfold fsign at hs; rw [bAnd63 n h, if_pos hs]; rfl
theorem sign_no (n : Nat) (h : n < 18446744073709551616) (hs : ¬ fsign ≤ n) : (bits .and .u64 (n : Int) 9223372036854775808 != 0) = false := by
  unfold fsign at hs; rw [bAnd63 n h, if_neg hs]; rfl
theorem or_add (a i y : Nat) (h : a < 2 ^ i) : a ||| (y * 2 ^ i) = a + y * 2 ^ i := by
  have := Nat.two_pow_add_eq_or_of_lt h y
  rw [Nat.or_comm, Nat.mul_comm, ← this, Nat.add_comm]
theorem pow128 (i : Nat) : 128 ^ i = 2 ^ (7 * i) := by rw [Nat.pow_mul]
theorem low7 (x : Nat) : x &&& 127 = x % 128 := Nat.and_two_pow_sub_one_eq_mod x 7
/-- The next seven bits of a number. -/
theorem orShift (N x i : Nat) (hN : N < 128 ^ i) (hx : x < 256) (hs : N + (x % 128) * 128 ^ i < 18446744073709551616) :
    bits .or .u64 (N : Int) (IntKind.u64.wrap (IntKind.u64.wrap (bits .and .u8 (x : Int) 127) * 2 ^ (7 * i))) = ((N + (x % 128) * 128 ^ i : Nat) : Int) := by
  have h1 : bits .and .u8 (x : Int) 127 = ((x % 128 : Nat) : Int) := by
    rw [show (127 : Int) = ((127 : Nat) : Int) from rfl, u8_and_nat x 127 hx (by omega), low7]
  have h2 : IntKind.u64.wrap ((x % 128 : Nat) : Int) = ((x % 128 : Nat) : Int) := by rw [IntKind.wrap_u64]; omega
  have h3 : ((x % 128 : Nat) : Int) * 2 ^ (7 * i) = (((x % 128) * 128 ^ i : Nat) : Int) := by
    rw [pow128, Int.natCast_mul, Int.natCast_pow]; rfl
  have h4 : IntKind.u64.wrap (((x % 128) * 128 ^ i : Nat) : Int) = (((x % 128) * 128 ^ i : Nat) : Int) := by rw [IntKind.wrap_u64]; omega
  rw [h1, h2, h3, h4, u64_or_nat _ _ (by omega) (by omega)]
  rw [pow128] at *
  rw [or_add _ _ _ hN]
theorem seven_lt (N x i : Nat) (hN : N < 128 ^ i) : N + (x % 128) * 128 ^ i < 128 ^ (i + 1) := by
  rw [Nat.pow_succ]
  have : (x % 128) * 128 ^ i ≤ 127 * 128 ^ i := Nat.mul_le_mul_right _ (by omega)
  omega
theorem pow128_le (i : Nat) (h : i ≤ 9) : 128 ^ i ≤ 9223372036854775808 := by
  have : 128 ^ i ≤ 128 ^ 9 := Nat.pow_le_pow_right (by omega) h
  simpa using this
theorem orByte (N x : Nat) (hN : N < 72057594037927936) (hx : x < 256) : bits .or .u64 (IntKind.u64.wrap ((N : Int) * 256)) (x : Int) = ((N * 256 + x : Nat) : Int) := by
  have h1 : IntKind.u64.wrap ((N : Int) * 256) = ((N * 256 : Nat) : Int) := by rw [IntKind.wrap_u64]; omega
  rw [h1, u64_or_nat _ _ (by omega) (by omega), Nat.or_comm]
  have := or_add x 8 N (by omega)
  rw [show (2 : Nat) ^ 8 = 256 from rfl] at this
  rw [this, Nat.add_comm]
theorem xor_zero64 (a : Nat) (ha : a < 9223372036854775808) : bits .xor .i64 (a : Int) 0 = (a : Int) := by
  show IntKind.i64.wrap ((BitVec.ofInt 64 (a : Int) ^^^ BitVec.ofInt 64 0).toNat : Int) = _
  have e : (BitVec.ofInt 64 0 : BitVec 64) = 0#64 := by decide
  rw [e, BitVec.xor_zero, BitVec.ofInt_natCast, BitVec.toNat_ofNat, Nat.mod_eq_of_lt (by omega), IntKind.wrap_i64]
  omega
theorem xor_neg1 (a : Nat) (ha : a < 9223372036854775808) : bits .xor .i64 (a : Int) (-1) = -(a : Int) - 1 := by
  show IntKind.i64.wrap ((BitVec.ofInt 64 (a : Int) ^^^ BitVec.ofInt 64 (-1)).toNat : Int) = _
  have e : (BitVec.ofInt 64 (-1) : BitVec 64) = BitVec.allOnes 64 := by decide
  rw [e, BitVec.xor_allOnes, BitVec.toNat_not, BitVec.ofInt_natCast, BitVec.toNat_ofNat, Nat.mod_eq_of_lt (by omega), IntKind.wrap_i64]
  omega
theorem and1 (x : Nat) (hx : x < 18446744073709551616) : bits .and .u64 (x : Int) 1 = ((x % 2 : Nat) : Int) := by
  rw [show (1 : Int) = ((1 : Nat) : Int) from rfl, u64_and_nat x 1 hx (by omega)]
  have : x &&& (2 ^ 1 - 1) = x % 2 ^ 1 := Nat.and_two_pow_sub_one_eq_mod x 1
  rw [show (1 : Nat) = 2 ^ 1 - 1 from rfl, this]
theorem unzig_bits (x : Nat) (hx : x < 18446744073709551616) :
    bits .xor .i64 (wrap64 ((x : Int) / 2)) (wrap64 (-wrap64 (bits .and .u64 (x : Int) 1))) = unzig x := by
  rw [and1 x hx]
  have h1 : wrap64 ((x : Int) / 2) = ((x / 2 : Nat) : Int) := by unfold wrap64; omega
  rw [h1]
  unfold unzig
  by_cases h : x % 2 = 1
  · rw [if_pos h, h, show wrap64 (-wrap64 ((1 : Nat) : Int)) = -1 from by decide, xor_neg1 _ (by omega)]
  · rw [if_neg h, show x % 2 = 0 from by omega, show wrap64 (-wrap64 ((0 : Nat) : Int)) = 0 from by decide, xor_zero64 _ (by omega)]
theorem orHigh (m : Nat) : bits .or .u8 ((m : Int) % 256) 128 = ((m % 128 + 128 : Nat) : Int) := by
  have h1 : (m : Int) % 256 = ((m % 256 : Nat) : Int) := by omega
  rw [h1, show (128 : Int) = ((128 : Nat) : Int) from rfl, u8_or_nat _ 128 (by omega) (by omega)]
  congr 1
  by_cases h : m % 256 < 128
  · have := or_add (m % 256) 7 1 (by omega)
    rw [show 1 * 2 ^ 7 = 128 from rfl] at this
    rw [this]; omega
  · have h2 := or_add (m % 128) 7 1 (by omega)
    rw [show 1 * 2 ^ 7 = 128 from rfl] at h2
    rw [show m % 256 = m % 128 + 128 from by omega, ← h2, Nat.or_assoc, Nat.or_self]
theorem xorMax (n : Nat) (h : n < 18446744073709551616) : n ^^^ 18446744073709551615 = 18446744073709551615 - n := by
  have hm : (2 ^ 64 - 1) ^^^ n = 2 ^ 64 - 1 - n := by
    have := BitVec.toNat_not (x := BitVec.ofNat 64 n)
    rw [BitVec.toNat_ofNat, Nat.mod_eq_of_lt h] at this
    rw [← this, BitVec.not_def, BitVec.toNat_xor, BitVec.toNat_ofNat, Nat.mod_eq_of_lt h, BitVec.toNat_allOnes]
  rw [Nat.xor_comm, show (18446744073709551615 : Nat) = 2 ^ 64 - 1 from rfl, hm]
theorem zig_bits (n : Int) (h1 : -9223372036854775808 ≤ n) (h2 : n < 9223372036854775808) :
    bits .xor .u64 (IntKind.u64.wrap (IntKind.u64.wrap n * 2)) (IntKind.u64.wrap (n / 9223372036854775808)) = (zig n : Nat) := by
  simp only [IntKind.wrap_u64]
  unfold zig
  by_cases h : n < 0
  · rw [if_pos h]
    have e1 : n % 18446744073709551616 * 2 % 18446744073709551616 = ((2 * n + 18446744073709551616).toNat : Int) := by omega
    have e2 : n / 9223372036854775808 % 18446744073709551616 = ((18446744073709551615 : Nat) : Int) := by omega
    rw [e1, e2, u64_xor_nat _ _ (by omega) (by omega), xorMax _ (by omega)]
    omega
  · rw [if_neg h]
    have e1 : n % 18446744073709551616 * 2 % 18446744073709551616 = ((2 * n.toNat : Nat) : Int) := by omega
    have e2 : n / 9223372036854775808 % 18446744073709551616 = ((0 : Nat) : Int) := by omega
    rw [e1, e2, u64_xor_nat _ _ (by omega) (by omega), Nat.xor_zero]
theorem zig_lt (n : Int) (h1 : -9223372036854775808 ≤ n) (h2 : n < 9223372036854775808) : zig n < 18446744073709551616 := by
  unfold zig; split <;> omega
end Moi
