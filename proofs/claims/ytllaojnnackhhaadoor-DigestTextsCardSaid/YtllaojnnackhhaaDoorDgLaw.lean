/-
  The plain words of the digest: the operations on words of 32 bits as the program's text spells them. No program is walked.
-/
import Derived.Test.YtllaojnnackhhaaDoorBase
namespace Go.Proofs.YtllaojnnackhhaaDoor
open Go.RowKit
set_option linter.unusedVariables false
set_option linter.unusedSimpArgs false

/-- a word of 32 bits -/
def W32 (x : Int) : Prop := 0 ≤ x ∧ x ≤ 4294967295
def addW (x y : Int) : Int := (x + y) % 4294967296
def xorW (x y : Int) : Int := bits .xor .u32 x y
def andW (x y : Int) : Int := bits .and .u32 x y
def orW (x y : Int) : Int := bits .or .u32 x y
def notW (x : Int) : Int := bits .xor .u32 4294967295 x
def shrW (x : Int) (n : Nat) : Int := x / 2 ^ n
def shlW (x : Int) (n : Nat) : Int := x * 2 ^ n % 4294967296
def rotW (x : Int) (n : Nat) : Int := orW (shlW x (32 - n)) (shrW x n)
def rotO (a b : Int) : Int := orW a b
theorem u32_bits (op : BinOp) (a b : Int) : W32 (bits op .u32 a b) := by
  unfold bits W32
  simp only [IntKind.wrap_u32]
  omega
theorem addW_w (x y : Int) : W32 (addW x y) := by unfold addW W32; omega
theorem rotW_w (x : Int) (n : Nat) : W32 (rotW x n) := u32_bits .or (shlW x (32 - n)) (shrW x n)
theorem bits_or_comm (a b : Int) : bits .or .u32 b a = rotO a b := by
  unfold rotO orW bits
  simp only [BitVec.or_comm]
end Go.Proofs.YtllaojnnackhhaaDoor
