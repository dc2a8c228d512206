/-
  The walk of the choice of an address.
-/
import Derived.Test.YtllaojnnackhhaaInv
namespace Go.Proofs.Ytllaojnnackhhaa
open Go.RowKit
set_option linter.unusedVariables false
set_option linter.unusedSimpArgs false

def ChosenAddr (w : World) (cb : Nat) (e : Ending) (w' : World) : Prop :=
  ∃ x : Int, e = .returned (.int .u32 x) ∧ 0 ≤ x ∧ x ≤ 4294967295 ∧ Cod w' cb ∧ w.grownBy w' (some cb) ∧ w'.heap.size ≤ w.heap.size
theorem u32_bd (x : Int) : 0 ≤ IntKind.u32.wrap x ∧ IntKind.u32.wrap x ≤ 4294967295 := by
  simp only [IntKind.wrap_u32]; omega
set_option maxRecDepth 100000 in
set_option maxHeartbeats 2000000 in
theorem address_any (cb : Nat) (w : World) (h : Cod w cb) :
    Calls Try.prog 28 #[.pointer (some ⟨cb, 0, none⟩)] w (ChosenAddr w cb) := by
  go_enter Try.func28, Try.ntmps28
  go_wp2_with fail
  refine (next_any cb _ 12 h).mono ?_
  rintro e w1 ⟨x, rfl, hx0, _, hx1, hC1, hg1, hs1⟩
  have hx1 := hx1 (by omega)
  by_cases h11 : x = 11
  · subst h11
    go_wp2_with fail
    refine (next_any cb _ 65536 hC1).mono ?_
    rintro e w2 ⟨y, rfl, hy0, hy1, _, hC2, hg2, hs2⟩
    go_wp2_with fail
    refine (next_any cb _ 65536 hC2).mono ?_
    rintro e w3 ⟨z, rfl, hz0, hz1, _, hC3, hg3, hs3⟩
    go_wp2_with fail
    go_ret
    exact ⟨_, rfl, by omega, by omega, hC3, grown_trans (grown_trans hg1 hg2) hg3, by omega⟩
  · go_wp2_with fail
    refine (next_any cb _ 3 hC1).mono ?_
    rintro e w2 ⟨y, rfl, hy0, hy1, _, hC2, hg2, hs2⟩
    go_wp2_with fail
    refine (next_any cb _ 8 hC2).mono ?_
    rintro e w3 ⟨z, rfl, hz0, hz1, _, hC3, hg3, hs3⟩
    go_wp2_with fail
    go_ret
    exact ⟨_, rfl, by omega, by omega, hC3, grown_trans (grown_trans hg1 hg2) hg3, by omega⟩
end Go.Proofs.Ytllaojnnackhhaa
