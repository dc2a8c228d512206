/-
  The code of bytes with a key. No program is walked.
-/
import Derived.Test.YtllaojnnackhhaaDoorDgSumLaw
import Derived.Test.YtllaojnnackhhaaDoorSymRow
namespace Go.Proofs.YtllaojnnackhhaaDoor
open Go.RowKit
set_option linter.unusedVariables false
set_option linter.unusedSimpArgs false
def macKey (k : List Int) : List Int := if k.length > 64 then shaF k else k
theorem macKey_le (k : List Int) : (macKey k).length ≤ 64 := by
  unfold macKey; split
  · rw [shaF_len]; omega
  · omega
theorem macKey_bs (k : List Int) (h : Bs k) : Bs (macKey k) := by
  unfold macKey; split
  · exact shaF_bs k
  · exact h
def padK (k : List Int) : List Int := k ++ List.replicate (64 - k.length) 0
theorem padK_len (k : List Int) (h : k.length ≤ 64) : (padK k).length = 64 := by simp [padK]; omega
theorem padK_at (k : List Int) {i : Nat} {y : Int} (h : k[i]? = some y) : (padK k).getD i 0 = y := by
  have hlt := (List.getElem?_eq_some_iff.1 h).1
  simp [padK, List.getD_eq_getElem?_getD, List.getElem?_append_left hlt, h]
theorem padK_out (k : List Int) {i : Nat} (h : k.length ≤ i) : (padK k).getD i 0 = 0 := by
  simp only [padK, List.getD_eq_getElem?_getD, List.getElem?_append_right h, List.getElem?_replicate]
  split <;> rfl
theorem padK_bs (k : List Int) (h : Bs k) : Bs (padK k) := by
  refine h.app fun x hx => ?_
  have := (List.mem_replicate.1 hx).2
  omega
def xorL (k : List Int) (c : Int) : List Int := k.map fun x => bits .xor .u8 x c
theorem xorL_len (k : List Int) (c : Int) : (xorL k c).length = k.length := by simp [xorL]
theorem xorL_bs (k : List Int) (c : Int) : Bs (xorL k c) := by
  intro x hx
  simp only [xorL, List.mem_map] at hx
  obtain ⟨y, _, rfl⟩ := hx
  unfold bits
  simp only [IntKind.wrap_u8]
  omega
theorem xorL_at (k : List Int) (c : Int) {i : Nat} (h : i < k.length) : (xorL k c)[i]? = some (bits .xor .u8 (k.getD i 0) c) := by
  simp [xorL, List.getElem?_map, List.getElem?_eq_getElem h, List.getD_eq_getElem?_getD]
def macF (k d : List Int) : List Int := shaF (xorL (padK (macKey k)) 92 ++ shaF (xorL (padK (macKey k)) 54 ++ d))
theorem macF_len (k d : List Int) : (macF k d).length = 32 := shaF_len _
theorem macF_bs (k d : List Int) : Bs (macF k d) := shaF_bs _
/-- 64 cells, of which the first i are filled -/
def arr64 (q : List Int) (i : Nat) : List Value := bv (q.take i) ++ List.replicate (64 - i) (.int .u8 0)
theorem arr64_zero (q : List Int) : List.replicate 64 (Value.int .u8 0) = arr64 q 0 := by simp [arr64, bv]
theorem arr64_len (q : List Int) (hq : q.length = 64) {i : Nat} (h : i ≤ 64) : (arr64 q i).length = 64 := by simp [arr64, bv]; omega
theorem arr64_all (q : List Int) (hq : q.length = 64) : arr64 q 64 = bv q := by simp [arr64, List.take_of_length_le (Nat.le_of_eq hq)]
theorem arr64_put (q : List Int) (hq : q.length = 64) {i : Nat} {x : Int} (h : q[i]? = some x) : (arr64 q i).take (0 + i) ++ [Value.int .u8 x] ++ (arr64 q i).drop (0 + i + 1) = arr64 q (i + 1) := by
  have hlt : i < 64 := by rw [← hq]; exact (List.getElem?_eq_some_iff.1 h).1
  have hl : (bv (q.take i)).length = i := by simp [bv]; omega
  unfold arr64
  rw [Nat.zero_add, List.take_append_of_le_length (by omega), List.take_of_length_le (by omega), List.drop_append, List.drop_of_length_le (by omega), hl, List.drop_replicate, List.take_add_one, h]
  simp only [List.nil_append, bv, List.map_append, Option.toList_some, List.map_cons, List.map_nil]
  rw [show 64 - i - (i + 1 - i) = 64 - (i + 1) by omega]
end Go.Proofs.YtllaojnnackhhaaDoor
