/-
  The digest of any bytes: what is filled up, the blocks, what is put out. No program is walked.
-/
import Derived.Test.YtllaojnnackhhaaDoorDgRoundLaw
namespace Go.Proofs.YtllaojnnackhhaaDoor
open Go.RowKit
set_option linter.unusedVariables false
set_option linter.unusedSimpArgs false
/-- how many zeros follow -/
def padZ (n : Nat) : Nat := (119 - n % 64) % 64
theorem padZ_mod (n : Nat) : (n + 1 + padZ n) % 64 = 56 := by unfold padZ; omega
theorem padZ_lt (n z : Nat) (h : z < padZ n) : (n + 1 + z) % 64 ≠ 56 := by unfold padZ at h; omega
theorem padZ_le (n : Nat) : padZ n ≤ 63 := by unfold padZ; omega
def padv (l : List Int) (z : Nat) : List Int := l ++ 128 :: List.replicate z 0
theorem padv_len (l : List Int) (z : Nat) : (padv l z).length = l.length + 1 + z := by simp [padv]; omega
theorem padv_succ (l : List Int) (z : Nat) : bv (padv l z) ++ [Value.int .u8 0] = bv (padv l (z + 1)) := by
  simp [padv, bv, List.replicate_succ']
theorem padv_bs (l : List Int) (z : Nat) (h : Bs l) : Bs (padv l z) := by
  intro x hx
  simp only [padv, List.mem_append, List.mem_cons, List.mem_replicate] at hx
  rcases hx with h1 | rfl | ⟨_, rfl⟩
  · exact h x h1
  · omega
  · omega
def lenW (n : Nat) : Int := IntKind.u64.wrap ((n : Int) * 8)
def lenB (n j : Nat) : List Int := (List.range j).map fun i => IntKind.u8.wrap (lenW n / 2 ^ (56 - 8 * i))
theorem lenB_succ (n j : Nat) : bv (lenB n (j + 1)) = bv (lenB n j) ++ [Value.int .u8 (IntKind.u8.wrap (lenW n / 2 ^ (56 - 8 * j)))] := by simp [lenB, bv, List.range_succ]
theorem lenB_len (n j : Nat) : (lenB n j).length = j := by simp [lenB]
theorem lenB_bs (n j : Nat) : Bs (lenB n j) := by
  intro x hx
  simp only [lenB, List.mem_map] at hx
  obtain ⟨i, _, rfl⟩ := hx
  simp only [IntKind.wrap_u8]
  omega
def padF (l : List Int) : List Int := padv l (padZ l.length) ++ lenB l.length 8
theorem padF_len (l : List Int) : (padF l).length = l.length + 1 + padZ l.length + 8 := by simp [padF, padv_len, lenB_len]
theorem padF_bs (l : List Int) (h : Bs l) : Bs (padF l) := (padv_bs l _ h).app (lenB_bs _ _)
/-- the words after k blocks -/
def foldB (b : List Int) (s : S8) : Nat → S8
  | 0 => s
  | k + 1 => blockF (foldB b s k) ((b.drop (64 * k)).take 64)
theorem foldB_ok (b : List Int) (s : S8) (h : s.Ok) : ∀ k, (foldB b s k).Ok
  | 0 => h
  | k + 1 => sumS_ok _ _
def start8 : S8 := ⟨1779033703, 3144134277, 1013904242, 2773480762, 1359893119, 2600822924, 528734635, 1541459225⟩
theorem start8_ok : start8.Ok := by unfold S8.Ok W32 start8; decide
def word4 (x : Int) : List Int := [IntKind.u8.wrap (x / 16777216), IntKind.u8.wrap (x / 65536), IntKind.u8.wrap (x / 256), IntKind.u8.wrap x]
def outB (s : S8) : Nat → List Int
  | 0 => []
  | j + 1 => outB s j ++ word4 (s.list.getD j 0)
theorem outB_len (s : S8) (j : Nat) : (outB s j).length = 4 * j := by
  induction j with
  | zero => rfl
  | succ j ih => simp [outB, ih, word4]; omega
theorem outB_succ (s : S8) (j : Nat) : bv (outB s j) ++ bv (word4 (s.list.getD j 0)) = bv (outB s (j + 1)) := by simp [outB, bv]
theorem word4_bs (x : Int) : Bs (word4 x) := by
  intro y hy
  simp only [word4, List.mem_cons, List.not_mem_nil, or_false, IntKind.wrap_u8] at hy
  omega
theorem outB_bs (s : S8) (j : Nat) : Bs (outB s j) := by
  induction j with
  | zero => exact Bs.nil
  | succ j ih => exact ih.app (word4_bs _)
def shaF (l : List Int) : List Int := outB (foldB (padF l) start8 ((padF l).length / 64)) 8
theorem shaF_len (l : List Int) : (shaF l).length = 32 := outB_len _ _
theorem shaF_bs (l : List Int) : Bs (shaF l) := outB_bs _ _
end Go.Proofs.YtllaojnnackhhaaDoor
