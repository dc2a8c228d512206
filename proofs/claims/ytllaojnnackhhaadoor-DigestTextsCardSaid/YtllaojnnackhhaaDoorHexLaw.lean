/-
  Hexadecimal digits: plain words. No program is walked.
-/
import Derived.Test.YtllaojnnackhhaaDoorSymStr
namespace Go.Proofs.YtllaojnnackhhaaDoor
open Go.RowKit
set_option linter.unusedVariables false
set_option linter.unusedSimpArgs false
def hexD (i : Int) : Int := if i < 10 then 48 + i else 87 + i
def hexL (l : List Int) : List Int := l.flatMap fun x => [hexD (x / 16), hexD (x % 16)]
theorem hexD_byte (i : Int) (h0 : 0 ≤ i) (h1 : i < 16) : 0 ≤ hexD i ∧ hexD i ≤ 255 := by unfold hexD; split <;> omega
theorem hexL_bs (l : List Int) (h : Bs l) : Bs (hexL l) := by
  intro x hx
  simp only [hexL, List.mem_flatMap, List.mem_cons, List.not_mem_nil, or_false] at hx
  obtain ⟨y, hy, rfl | rfl⟩ := hx
  · have := h y hy; exact hexD_byte _ (by omega) (by omega)
  · have := h y hy; exact hexD_byte _ (by omega) (by omega)
theorem hexL_len (l : List Int) : (hexL l).length = 2 * l.length := by
  induction l with
  | nil => rfl
  | cons x l ih => simp only [hexL, List.flatMap_cons] at ih ⊢; simp [ih]; omega
theorem hexL_succ {l : List Int} {i : Nat} {y : Int} (h : l[i]? = some y) : hexL (l.take (i + 1)) = hexL (l.take i) ++ [hexD (y / 16), hexD (y % 16)] := by
  rw [List.take_add_one, h]
  simp [hexL]
def digitsL : List Int := [48, 49, 50, 51, 52, 53, 54, 55, 56, 57, 97, 98, 99, 100, 101, 102]
theorem digits_str : strOfNums digitsL = { data := #[48, 49, 50, 51, 52, 53, 54, 55, 56, 57, 97, 98, 99, 100, 101, 102] } := rfl
theorem digits_at {i : Nat} (h : i < 16) : digitsL[i]? = some (hexD (i : Int)) := by
  have : ∀ i : Fin 16, digitsL[i.1]? = some (hexD (i.1 : Int)) := by decide
  exact this ⟨i, h⟩
theorem and15 {x : Int} (h : 0 ≤ x ∧ x ≤ 255) : bits .and .u8 x 15 = x % 16 := by
  obtain ⟨n, rfl⟩ := Int.eq_ofNat_of_zero_le h.1
  have : ∀ n : Fin 256, bits .and .u8 (n.1 : Int) 15 = (n.1 : Int) % 16 := by decide +kernel
  exact this ⟨n, by omega⟩
end Go.Proofs.YtllaojnnackhhaaDoor
