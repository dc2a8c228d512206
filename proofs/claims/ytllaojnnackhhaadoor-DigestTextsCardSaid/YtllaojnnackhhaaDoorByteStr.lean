/-
  Bytes of slices and of strings, at this program's types.
-/
import Derived.Test.YtllaojnnackhhaaDoorByteRow
import Derived.Test.YtllaojnnackhhaaDoorHexLaw
namespace Go.Proofs.YtllaojnnackhhaaDoor
open Go.RowKit
set_option linter.unusedVariables false
set_option linter.unusedSimpArgs false
theorem at_u8 (g off n c j : Nat) (hj : j < n) (w : World) : (Instr.indexAt 22 (.slice (some ⟨g, off, none⟩) n c) (.int .i64 (j : Int))).run Tryd.prog w = .ok (.pointer (some ⟨g, off + j, none⟩)) w := by
  have hs : ∀ w : World, (sizeOf 5).run Tryd.prog w = .ok 1 w := fun w => rfl
  have h1 : (0 : Int) ≤ (j : Int) ∧ (j : Int) < n := by omega
  have hadd : (⟨g, off, none⟩ : Addr).add j = ⟨g, off + j, none⟩ := by unfold Addr.add; split <;> simp_all
  simp [Instr.indexAt, run_underlying Tryd.underlying22, asIntOf, hs, h1, hadd, go_sem]
  try (intro hh; exact absurd hh (by omega))
theorem row2 (a b : Int) (w : World) : (Instr.buildSlice 22 2 #[(0, .int .u8 a), (1, .int .u8 b)]).run Tryd.prog w = .ok (.slice (some ⟨w.heap.size, 0, none⟩) 2 2) (w.alloc (.cells #[.int .u8 a, .int .u8 b] 5)) := by kernel_rfl
theorem hexAt {k : IntKind} {x : Int} (h : 0 ≤ x ∧ x < 16) (w : World) : (Instr.index 9 (sv digitsL) (.int k x)).run Tryd.prog w = .ok (.int .u8 (hexD x)) w := by
  obtain ⟨i, rfl⟩ := Int.eq_ofNat_of_zero_le h.1
  exact str_at Tryd.underlying9 (digits_at (by omega)) (hexD_byte _ (by omega) (by omega)) w
theorem byt_cellU {w : World} {B b o n : Nat} {l : List Int} (h : Byt w B (some ⟨b, o, none⟩) n l) {k : Nat} (hk : k < n) : ∃ x, l[k]? = some x ∧ 0 ≤ x ∧ x ≤ 255 ∧ w.cell? ⟨b, o + k, none⟩ = some (.int .u8 x) := by
  obtain ⟨ad, x, hA, _, hl, h0, h1, hc⟩ := h.at_ hk
  cases hA
  refine ⟨x, hl, h0, h1, ?_⟩
  rw [← hc]
  congr 1
  unfold Addr.add; split <;> simp_all
theorem byt_block {w : World} {B b o n : Nat} {l : List Int} (h : Byt w B (some ⟨b, o, none⟩) n l) {k : Nat} (hk : k < n) : b < B := by
  obtain ⟨ad, x, hA, hb, _⟩ := h.at_ hk
  cases hA
  exact hb
end Go.Proofs.YtllaojnnackhhaaDoor
