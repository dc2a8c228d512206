/-
  slices.Sort, slices.Sorted and maps.Keys at int: the kit's contracts, laid at this program.
-/
import Derived.Test.YtmbcclgnjobikaaDraw
import Derived.Shelf.SlIterI.Nil
import Derived.Shelf.SortM.Plain
import Derived.Shelf.SortM.SortNone
namespace Go.Proofs.Ytmbcclgnjobikaa
open Go.RowKit Go.Shelf Go.Sort
set_option linter.unusedVariables false
set_option maxRecDepth 20000
def keysLayRen : Go.Shelf.Ren := ⟨fun | 7 => 26 | 10 => 35 | n => n, fun | 23 => 61 | 26 => 3 | 27 => 64 | 28 => 65 | 33 => 76 | n => n, fun n => n⟩
theorem keysLay : SlLaysZI.n7 Try.prog keysLayRen where
  mixed := by kernel_rfl
  f7 := ⟨Try.f26.name, by decide, Try.func26.trans (by kernel_rfl)⟩
  f10 := ⟨Try.f35.name, by decide, Try.func35.trans (by kernel_rfl)⟩
  t0 := Try.underlying0
  a0 := fun w => rfl
  z0 := fun w => rfl
  v0 := fun w => rfl
  t4 := Try.underlying4
  a4 := fun w => rfl
  z4 := fun w => rfl
  v4 := fun w => rfl
  t23 := Try.underlying61
  a23 := fun w => rfl
  z23 := fun w => rfl
  v23 := fun w => rfl
  t26 := Try.underlying3
  a26 := fun w => rfl
  z26 := fun w => rfl
  v26 := fun w => rfl
  t27 := Try.underlying64
  a27 := fun w => rfl
  z27 := fun w => rfl
  v27 := fun w => rfl
  t28 := Try.underlying65
  a28 := fun w => rfl
  z28 := fun w => rfl
  v28 := fun w => rfl
  t33 := Try.underlying76
  a33 := fun w => rfl
  z33 := fun w => rfl
  v33 := fun w => rfl
def sortedLayRen : Go.Shelf.Ren := ⟨fun | 6 => 25 | 8 => 33 | 9 => 34 | 11 => 40 | n => n, fun | 24 => 30 | 26 => 3 | 28 => 65 | 33 => 76 | n => n, fun n => n⟩
theorem sortedLay : SlLaysZI.n6 Try.prog sortedLayRen where
  mixed := by kernel_rfl
  f6 := ⟨Try.f25.name, by decide, Try.func25.trans (by kernel_rfl)⟩
  f8 := ⟨Try.f33.name, by decide, Try.func33.trans (by kernel_rfl)⟩
  f11 := ⟨Try.f40.name, by decide, Try.func40.trans (by kernel_rfl)⟩
  t0 := Try.underlying0
  a0 := fun w => rfl
  z0 := fun w => rfl
  v0 := fun w => rfl
  t24 := Try.underlying30
  a24 := fun w => rfl
  z24 := fun w => rfl
  v24 := fun w => rfl
  t26 := Try.underlying3
  a26 := fun w => rfl
  z26 := fun w => rfl
  v26 := fun w => rfl
  t28 := Try.underlying65
  a28 := fun w => rfl
  z28 := fun w => rfl
  v28 := fun w => rfl
  i26 := by kernel_rfl
def sortLayRen : Go.Shelf.Ren := ⟨fun | 5 => 34 | 7 => 41 | 8 => 42 | 10 => 47 | 11 => 48 | 12 => 49 | 13 => 50 | 14 => 51 | 15 => 52 | 16 => 53 | 17 => 54 | 18 => 55 | 19 => 56 | 20 => 57 | 30 => 63 | 31 => 64 | 32 => 65 | 33 => 66 | 34 => 67 | 35 => 68 | 40 => 70 | n => n, fun | 22 => 30 | 23 => 30 | 25 => 3 | 32 => 84 | 35 => 87 | 36 => 88 | 41 => 93 | 44 => 28 | 46 => 97 | 53 => 101 | 57 => 105 | 63 => 108 | 64 => 109 | n => n, fun n => n⟩
theorem sortLay : SlLaysM.n5 Try.prog sortLayRen where
  mixed := by kernel_rfl
  f5 := ⟨Try.f34.name, by decide, Try.func34.trans (by kernel_rfl)⟩
  f7 := ⟨Try.f41.name, by decide, Try.func41.trans (by kernel_rfl)⟩
  f8 := Try.func42.trans (by kernel_rfl)
  f10 := ⟨Try.f47.name, by decide, Try.func47.trans (by kernel_rfl)⟩
  f11 := ⟨Try.f48.name, by decide, Try.func48.trans (by kernel_rfl)⟩
  f12 := ⟨Try.f49.name, by decide, Try.func49.trans (by kernel_rfl)⟩
  f13 := ⟨Try.f50.name, by decide, Try.func50.trans (by kernel_rfl)⟩
  f14 := ⟨Try.f51.name, by decide, Try.func51.trans (by kernel_rfl)⟩
  f15 := ⟨Try.f52.name, by decide, Try.func52.trans (by kernel_rfl)⟩
  f16 := ⟨Try.f53.name, by decide, Try.func53.trans (by kernel_rfl)⟩
  f17 := ⟨Try.f54.name, by decide, Try.func54.trans (by kernel_rfl)⟩
  f18 := ⟨Try.f55.name, by decide, Try.func55.trans (by kernel_rfl)⟩
  f19 := Try.func56.trans (by kernel_rfl)
  f20 := Try.func57.trans (by kernel_rfl)
  f30 := ⟨Try.f63.name, by decide, Try.func63.trans (by kernel_rfl)⟩
  f31 := Try.func64.trans (by kernel_rfl)
  f32 := Try.func65.trans (by kernel_rfl)
  f33 := ⟨Try.f66.name, by decide, Try.func66.trans (by kernel_rfl)⟩
  f34 := ⟨Try.f67.name, by decide, Try.func67.trans (by kernel_rfl)⟩
  f35 := ⟨Try.f68.name, by decide, Try.func68.trans (by kernel_rfl)⟩
  f40 := ⟨Try.f70.name, by decide, Try.func70.trans (by kernel_rfl)⟩
  t0 := Try.underlying0
  a0 := fun w => rfl
  z0 := fun w => rfl
  v0 := fun w => rfl
  t3 := Try.underlying3
  a3 := fun w => rfl
  z3 := fun w => rfl
  v3 := fun w => rfl
  t4 := Try.underlying4
  a4 := fun w => rfl
  z4 := fun w => rfl
  v4 := fun w => rfl
  t5 := Try.underlying5
  a5 := fun w => rfl
  z5 := fun w => rfl
  v5 := fun w => rfl
  t9 := Try.underlying9
  a9 := fun w => rfl
  z9 := fun w => rfl
  v9 := fun w => rfl
  t22 := Try.underlying30
  a22 := fun w => rfl
  z22 := fun w => rfl
  v22 := fun w => rfl
  t23 := Try.underlying30
  a23 := fun w => rfl
  z23 := fun w => rfl
  v23 := fun w => rfl
  t25 := Try.underlying3
  a25 := fun w => rfl
  z25 := fun w => rfl
  v25 := fun w => rfl
  t32 := Try.underlying84
  a32 := fun w => rfl
  z32 := fun w => rfl
  v32 := fun w => rfl
  t35 := Try.underlying87
  a35 := fun w => rfl
  z35 := fun w => rfl
  v35 := fun w => rfl
  t36 := Try.underlying88
  a36 := fun w => rfl
  z36 := fun w => rfl
  v36 := fun w => rfl
  t41 := Try.underlying93
  a41 := fun w => rfl
  z41 := fun w => rfl
  v41 := fun w => rfl
  t44 := Try.underlying28
  a44 := fun w => rfl
  z44 := fun w => rfl
  v44 := fun w => rfl
  t46 := Try.underlying97
  a46 := fun w => rfl
  z46 := fun w => rfl
  v46 := fun w => rfl
  t53 := Try.underlying101
  a53 := fun w => rfl
  z53 := fun w => rfl
  v53 := fun w => rfl
  t57 := Try.underlying105
  a57 := fun w => rfl
  z57 := fun w => rfl
  v57 := fun w => rfl
  t63 := Try.underlying108
  a63 := fun w => rfl
  z63 := fun w => rfl
  v63 := fun w => rfl
  t64 := Try.underlying109
  a64 := fun w => rfl
  z64 := fun w => rfl
  v64 := fun w => rfl


end Go.Proofs.Ytmbcclgnjobikaa
