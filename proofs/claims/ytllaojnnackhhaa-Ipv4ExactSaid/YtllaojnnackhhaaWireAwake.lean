/-
  The walk of the sanity check of chapter 4.
-/
import Derived.Test.YtllaojnnackhhaaWireSum
namespace Go.Proofs.Ytllaojnnackhhaa
open Go.RowKit
set_option linter.unusedVariables false
set_option linter.unusedSimpArgs false

theorem awake4_any (w : World) : Calls Try.prog 9 #[] w fun e w' => e = .returned (.bool true) ∧ Below w.heap.size w w' := by
  have hb : Byt (w.alloc (.cells #[.int .u8 69, .int .u8 0, .int .u8 0, .int .u8 28] 5)) (w.heap.size + 1) (some ⟨w.heap.size, 0, none⟩) 4 [69, 0, 0, 28] := by
    refine ⟨⟨rfl, fun _ => ⟨_, rfl, by simp, ?_⟩⟩, by intro x hx; simp at hx; omega⟩
    intro j u hj
    have hcell := (Blk.new w 5 #[.int .u8 69, .int .u8 0, .int .u8 0, .int .u8 28]).cell j
    have : (⟨w.heap.size, 0, none⟩ : Addr).add j = ⟨w.heap.size, j, none⟩ := by unfold Addr.add; split <;> simp_all
    rw [this, hcell]
    match j, hj with
    | 0, hj => simpa [bv] using hj
    | 1, hj => simpa [bv] using hj
    | 2, hj => simpa [bv] using hj
    | 3, hj => simpa [bv] using hj
    | n + 4, hj => simp [bv] at hj
  have hv : 65535 - sm [69, 0, 0, 28] = 47843 := by decide
  have hs : oc (65535 + 1) = 1 := by decide
  go_enter Try.func9, Try.ntmps9
  go_wp2_with (first
    | (go_at_call 13; refine (checksum_any _ _ _ _ _ _ hb (by omega)).mono ?_; rintro e w' ⟨rfl, rfl⟩)
    | (go_at_call 11; refine (add_yes _ _ _ (by omega) (by omega) (by omega) (by omega)).mono ?_; rintro e w' ⟨rfl, rfl⟩))
  go_ret
  exact ⟨rfl, (Below.refl _ _).alloc (Nat.le_refl _) _⟩
end Go.Proofs.Ytllaojnnackhhaa
