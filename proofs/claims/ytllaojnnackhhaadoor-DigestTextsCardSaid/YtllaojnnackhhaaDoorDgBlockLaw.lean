/-
  A word out of four bytes by shifts; the array of words as it is filled. No program is walked.
-/
import Derived.Test.YtllaojnnackhhaaDoorDgRoundLaw
import Derived.Test.YtllaojnnackhhaaDoorSymHeld
namespace Go.Proofs.YtllaojnnackhhaaDoor
open Go.RowKit
set_option linter.unusedVariables false
set_option linter.unusedSimpArgs false
theorem u32_or_nat (a b : Nat) (ha : a < 4294967296) (hb : b < 4294967296) : bits .or .u32 (a : Int) (b : Int) = ((a ||| b : Nat) : Int) := by
  have hx : a ||| b < 2 ^ 32 := Nat.or_lt_two_pow (by omega) (by omega)
  have e1 : (BitVec.ofInt 32 (a : Int)).toNat = a := by rw [BitVec.toNat_ofInt]; omega
  have e2 : (BitVec.ofInt 32 (b : Int)).toNat = b := by rw [BitVec.toNat_ofInt]; omega
  show IntKind.u32.wrap ((BitVec.ofInt 32 (a : Int) ||| BitVec.ofInt 32 (b : Int)).toNat : Int) = _
  rw [BitVec.toNat_or, e1, e2, IntKind.wrap_u32]
  omega
theorem u32_or_shift (k : Nat) (a b : Int) (h0 : 0 ≤ a) (h1 : a * 2 ^ k < 4294967296) (hb : 0 ≤ b) (hb1 : b < 2 ^ k) (hk : k ≤ 31) : bits .or .u32 (a * 2 ^ k) b = a * 2 ^ k + b := by
  obtain ⟨x, rfl⟩ := Int.eq_ofNat_of_zero_le h0
  obtain ⟨y, rfl⟩ := Int.eq_ofNat_of_zero_le hb
  have hp : ((2 ^ k : Nat) : Int) = (2 : Int) ^ k := by rw [Int.natCast_pow]; rfl
  rw [← hp] at h1 hb1 ⊢
  have hy : y < 2 ^ k := by exact_mod_cast hb1
  have h2 : (2 : Nat) ^ k ≤ 2 ^ 31 := Nat.pow_le_pow_right (by omega) hk
  have hxk : x * 2 ^ k < 4294967296 := Int.ofNat_lt.1 (by rw [Int.natCast_mul]; exact h1)
  have e : 2 ^ k * x + y = 2 ^ k * x ||| y := Nat.two_pow_add_eq_or_of_lt hy x
  have h := u32_or_nat (x * 2 ^ k) y hxk (by omega)
  rw [Nat.mul_comm x, ← e] at h
  rw [show ((x : Int) * ((2 ^ k : Nat) : Int)) = ((2 ^ k * x : Nat) : Int) by rw [Nat.mul_comm]; exact (Int.natCast_mul _ _).symm, h]
  simp
theorem or4 (a b c d : Int) (ha : 0 ≤ a ∧ a ≤ 255) (hb : 0 ≤ b ∧ b ≤ 255) (hc : 0 ≤ c ∧ c ≤ 255) (hd : 0 ≤ d ∧ d ≤ 255) :
    bits .or .u32 (bits .or .u32 (bits .or .u32 (IntKind.u32.wrap (a * 16777216)) (IntKind.u32.wrap (b * 65536))) (IntKind.u32.wrap (c * 256))) d = be [a, b, c, d] := by
  simp only [IntKind.wrap_u32]
  have e1 : a * 16777216 % 4294967296 = a * 2 ^ 24 := by omega
  have e2 : b * 65536 % 4294967296 = b * 65536 := by omega
  have e3 : c * 256 % 4294967296 = c * 256 := by omega
  rw [e1, e2, e3, u32_or_shift 24 a (b * 65536) (by omega) (by omega) (by omega) (by omega) (by omega)]
  rw [show a * 2 ^ 24 + b * 65536 = (a * 256 + b) * 2 ^ 16 by omega, u32_or_shift 16 (a * 256 + b) (c * 256) (by omega) (by omega) (by omega) (by omega) (by omega)]
  rw [show (a * 256 + b) * 2 ^ 16 + c * 256 = ((a * 256 + b) * 256 + c) * 2 ^ 8 by omega, u32_or_shift 8 ((a * 256 + b) * 256 + c) d (by omega) (by omega) (by omega) (by omega) (by omega)]
  simp only [be, List.foldl_cons, List.foldl_nil]
  omega
theorem pm_drewN {w0 : Base} {w : World} {L : List Pc} (h : Pm w0 L w) (q : Nat) : Pm w0 L (w.drewN q) := h.below (below_drewN (Below.refl _ _) q)
def arrW (L : List Int) : List Value := (L.map (Value.int .u32)) ++ List.replicate (64 - L.length) (Value.int .u32 0)
theorem arrW_len (L : List Int) (h : L.length ≤ 64) : (arrW L).length = 64 := by simp [arrW]; omega
theorem arrW_at (L : List Int) (i : Nat) (h : i < L.length) : (arrW L)[0 + i]? = some (.int .u32 (L.getD i 0)) := by
  rw [Nat.zero_add]
  unfold arrW
  rw [List.getElem?_append_left (by simpa using h)]
  simp [List.getElem?_map, List.getElem?_eq_getElem h, List.getD_eq_getElem?_getD]
theorem arrW_put (L : List Int) (x : Int) {i : Nat} (hi : L.length = i) (h : i < 64) : (arrW L).take (0 + i) ++ [Value.int .u32 x] ++ (arrW L).drop (0 + i + 1) = arrW (L ++ [x]) := by
  subst hi
  unfold arrW
  rw [Nat.zero_add, List.take_append_of_le_length (by simp), List.drop_append, List.map_append]
  simp only [List.length_map, List.length_append, List.length_singleton, List.map_cons, List.map_nil]
  rw [List.take_of_length_le (by simp), List.drop_of_length_le (by simp), List.drop_replicate]
  simp only [List.nil_append, List.append_assoc]
  rw [show 64 - L.length - (L.length + 1 - L.length) = 64 - (L.length + 1) by omega]
end Go.Proofs.YtllaojnnackhhaaDoor
