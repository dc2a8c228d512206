/-
  The walk of slices.Clone over bytes.
-/
import Derived.Test.YtllaojnnackhhaaDoorByteRow
import Derived.Test.YtllaojnnackhhaaDoorSymNil
namespace Go.Proofs.YtllaojnnackhhaaDoor
open Go.RowKit
set_option linter.unusedVariables false
set_option linter.unusedSimpArgs false
theorem row0 (w : World) : (Instr.buildSlice 22 0 #[]).run Tryd.prog w = .ok (.slice (some ⟨w.heap.size, 0, none⟩) 0 0) (w.alloc (.cells #[] 5)) := by kernel_rfl
theorem clone_any (A : Option Addr) (n c : Nat) (l : List Int) (w : World) (hb : Byt w w.heap.size A n l) (hlim : n ≤ 140737488355328) :
    Calls Tryd.prog 19 #[.slice A n c] w fun e w' => ∃ A' c', e = .returned (.slice A' n c') ∧ n ≤ c' ∧ c' ≤ maxLen ∧ w'.ownsRow w.heap.size 5 1 (.slice A' n c') n (bv l) ∧ Below w.heap.size w w' := by
  refine begin_ (vs := [.slice A n c]) Tryd.func19 rfl rfl rfl ?_ (Pm.start w)
  refine TC.seq_ ?_
  refine TC.region ?_
  refine TL.val rfl rfl rfl (gives_assign rfl rfl) ?_
  refine TL.end_ ?_
  refine TX.then_ ?_
  refine TC.seq_ ?_
  refine TC.seq_ ?_
  refine TC.region ?_
  refine TL.val rfl rfl rfl (gives_move rfl rfl) ?_
  refine TL.val rfl rfl rfl (gives_bin2 rfl rfl rfl (fun w => slice_nil Tryd.underlying22 w)) ?_
  refine TL.end_ ?_
  refine TX.then_ ?_
  refine TC.split rfl (fun hc => ?_) (fun hc => ?_)
  · have hA : A = none := by cases A with
      | none => rfl
      | some a => cases hc
    have hn : n = 0 := by
      rcases Nat.eq_zero_or_pos n with h0 | h0
      · exact h0
      · obtain ⟨b, o, x, hx, _⟩ := hb.at' (k := 0) h0
        rw [hA] at hx; cases hx
    subst hA hn
    have hl : l = [] := List.eq_nil_of_length_eq_zero hb.len
    subst hl
    refine TC.seq_ ?_
    refine TC.region ?_
    refine TL.val rfl rfl rfl (gives_assign rfl rfl) ?_
    refine TL.end_ ?_
    refine TX.then_ ?_
    refine TC.nilrow 5 1 ?_
    refine TC.ret_ ?_
    refine TX.then_ret ?_
    exact pm_ret_row (k := 0) Tryd.results19 rfl rfl (fun w1 hown hbel => ⟨none, 0, rfl, Nat.le_refl _, Nat.zero_le _, hown, hbel⟩)
  · refine TC.skip_ ?_
    refine TX.then_ ?_
    refine TC.seq_ ?_
    refine TC.region ?_
    refine TL.prow (cs := []) (xs := []) rfl rfl rfl rfl rfl (fun w => row0 w) (by decide) rfl (fun g => ?_)
    refine TL.val rfl rfl rfl (gives_move rfl rfl) ?_
    refine TL.append (k := 0) rfl rfl rfl rfl elU8 rfl rfl rfl (fun w hw => pm_byt hw hb) (bv_one l) (by rw [Nat.mul_one]; omega) n (by omega) (fun A1 c1 h1 h2 => ?_)
    refine TL.val rfl rfl rfl (gives_assign rfl rfl) ?_
    refine TL.end_ ?_
    refine TX.then_ ?_
    refine TC.ret_ ?_
    exact pm_ret_row (k := 0) Tryd.results19 rfl rfl (fun w1 hown hbel => ⟨A1, c1, rfl, h1, h2, hown, hbel⟩)
end Go.Proofs.YtllaojnnackhhaaDoor
