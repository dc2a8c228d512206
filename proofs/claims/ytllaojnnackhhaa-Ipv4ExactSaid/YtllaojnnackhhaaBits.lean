/-
  Bits of numbers that are not negative. No program is imported.
-/
import Derived.Test.YtllaojnnackhhaaBase
import Derived.Laws.BitsAllLaws
import Derived.Laws.BitsLemmas
namespace Go.Proofs.Ytllaojnnackhhaa
set_option linter.unusedVariables false
set_option linter.unusedSimpArgs false

theorem ofInt_i64 (a : Nat) (ha : a < 9223372036854775808) : (BitVec.ofInt 64 (a : Int)).toNat = a := by
  rw [BitVec.ofInt_natCast, BitVec.toNat_ofNat]; exact Nat.mod_eq_of_lt (by omega)
theorem i64_and_nat (a b : Nat) (ha : a < 9223372036854775808) (hb : b < 9223372036854775808) : bits .and .i64 (a : Int) (b : Int) = ((a &&& b : Nat) : Int) := by
  have hx : a &&& b < 2 ^ 63 := Nat.and_lt_two_pow _ (by omega)
  show IntKind.i64.wrap ((BitVec.ofInt 64 (a : Int) &&& BitVec.ofInt 64 (b : Int)).toNat : Int) = _
  rw [BitVec.toNat_and, ofInt_i64 a ha, ofInt_i64 b hb, IntKind.wrap_i64]
  omega
theorem i64_or_nat (a b : Nat) (ha : a < 9223372036854775808) (hb : b < 9223372036854775808) : bits .or .i64 (a : Int) (b : Int) = ((a ||| b : Nat) : Int) := by
  have hx : a ||| b < 2 ^ 63 := Nat.or_lt_two_pow (by omega) (by omega)
  show IntKind.i64.wrap ((BitVec.ofInt 64 (a : Int) ||| BitVec.ofInt 64 (b : Int)).toNat : Int) = _
  rw [BitVec.toNat_or, ofInt_i64 a ha, ofInt_i64 b hb, IntKind.wrap_i64]
  omega
theorem and_65535 (m : Int) (h0 : 0 ≤ m) (h1 : m ≤ 9223372036854775807) : bits .and .i64 m 65535 = m % 65536 := by
  obtain ⟨n, rfl⟩ := Int.eq_ofNat_of_zero_le h0
  have h := i64_and_nat n 65535 (by omega) (by omega)
  have e : n &&& 65535 = n % 65536 := Nat.and_two_pow_sub_one_eq_mod n 16
  show bits .and .i64 (n : Int) ((65535 : Nat) : Int) = _
  rw [h, e]; omega
theorem and_1 (m : Int) (h0 : 0 ≤ m) (h1 : m ≤ 9223372036854775807) : bits .and .i64 m 1 = m % 2 := by
  obtain ⟨n, rfl⟩ := Int.eq_ofNat_of_zero_le h0
  have h := i64_and_nat n 1 (by omega) (by omega)
  have e := Nat.and_one_is_mod n
  show bits .and .i64 (n : Int) ((1 : Nat) : Int) = _
  rw [h, e]; omega
theorem or_256 (m x : Int) (h0 : 0 ≤ m) (h1 : m ≤ 281474976710655) (hx : 0 ≤ x) (hx1 : x ≤ 255) : bits .or .i64 (m * 256) x = m * 256 + x := by
  obtain ⟨a, rfl⟩ := Int.eq_ofNat_of_zero_le h0
  obtain ⟨b, rfl⟩ := Int.eq_ofNat_of_zero_le hx
  have h := i64_or_nat (a * 256) b (by omega) (by omega)
  have e : 2 ^ 8 * a + b = 2 ^ 8 * a ||| b := Nat.two_pow_add_eq_or_of_lt (i := 8) (by omega) a
  show bits .or .i64 (((a * 256 : Nat) : Int)) (b : Int) = _
  rw [h, show a * 256 = 2 ^ 8 * a from by omega, ← e]; omega
end Go.Proofs.Ytllaojnnackhhaa
