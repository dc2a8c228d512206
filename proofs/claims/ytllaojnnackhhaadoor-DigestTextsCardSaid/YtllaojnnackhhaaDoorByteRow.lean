/-
  Slices of bytes that are spelled out, and the elements of slices of bytes.
-/
import Derived.Test.YtllaojnnackhhaaDoorProg
import Derived.Test.YtllaojnnackhhaaDoorSymBin
namespace Go.Proofs.YtllaojnnackhhaaDoor
open Go.RowKit
set_option linter.unusedVariables false
set_option linter.unusedSimpArgs false
theorem elU8 : Elem Tryd.prog 22 5 1 1 := Elem.mk' Tryd.underlying22 (z := .int .u8 0) (by kernel_rfl) rfl (by omega) (by omega)
theorem row1 (x : Int) (w : World) : (Instr.buildSlice 22 1 #[(0, .int .u8 x)]).run Tryd.prog w = .ok (.slice (some ⟨w.heap.size, 0, none⟩) 1 1) (w.alloc (.cells #[.int .u8 x] 5)) := by kernel_rfl
theorem row4 (a b c d : Int) (w : World) : (Instr.buildSlice 22 4 #[(0, .int .u8 a), (1, .int .u8 b), (2, .int .u8 c), (3, .int .u8 d)]).run Tryd.prog w = .ok (.slice (some ⟨w.heap.size, 0, none⟩) 4 4) (w.alloc (.cells #[.int .u8 a, .int .u8 b, .int .u8 c, .int .u8 d] 5)) := by kernel_rfl
theorem one1b (x : Int) : ∀ u ∈ [Value.int .u8 x], u.oneCell' = true := by
  intro u hu
  simp only [List.mem_cons, List.not_mem_nil, or_false] at hu
  subst hu; rfl
end Go.Proofs.YtllaojnnackhhaaDoor
