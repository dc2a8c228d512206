/-
  slices.Chunk over bytes, pieces of 64: the closure that it hands back, and its two boxes.
-/
import Derived.Test.YtllaojnnackhhaaDoorByteRow
import Derived.Test.YtllaojnnackhhaaDoorSymNil
namespace Go.Proofs.YtllaojnnackhhaaDoor
open Go.RowKit
set_option linter.unusedVariables false
set_option linter.unusedSimpArgs false
theorem gives_mkfunc {P : Program} {N : Fr} {E : Env} {I : World → Prop} {o : Oper} {fn : Fn} {xs : List Operand} {vs : List Value} (ho : o.op = .makeFunc fn #[] xs.toArray) (hx : evs E xs = some vs) : Gives P N o E I (.func fn #[] vs.toArray) := fun a w ha _ => by
  unfold execOp; rw [ho]
  have : xs.toArray.map a.eval = vs.toArray := by rw [List.map_toArray, ha.evals hx]
  simp [Instr.makeFunc, this, go_sem]
theorem agInt (w : World) : (isAgg 3).run Tryd.prog w = .ok false w := rfl
theorem mkchunk_any (A : Option Addr) (n c : Nat) (w : World) :
    Calls Tryd.prog 20 #[.slice A n c, .int .i64 64] w fun e w' => ∃ b2 b3, e = .returned (.func (.func 27) #[] #[.pointer (some ⟨b2, 0, none⟩), .pointer (some ⟨b3, 0, none⟩)]) ∧
      Pm w [.blk b3 3 [.int .i64 64], .blk b2 22 [.slice A n c]] w' := by
  refine begin_ (vs := [.slice A n c, .int .i64 64]) Tryd.func20 rfl rfl rfl ?_ (Pm.start w)
  refine TC.seq_ ?_
  refine TC.region ?_
  refine TL.pnew rfl rfl rfl (exec_box (cs := [.slice A n c]) rfl rfl rfl) (fun b2 => ?_)
  refine TL.pnew rfl rfl rfl (exec_box (cs := [.int .i64 64]) rfl rfl rfl) (fun b3 => ?_)
  refine TL.val rfl rfl rfl (gives_assign rfl rfl) ?_
  refine TL.end_ ?_
  refine TX.then_ ?_
  refine TC.seq_ ?_
  refine TC.seq_ ?_
  refine TC.region ?_
  refine TL.val rfl rfl rfl (pm_load (k := 0) (i := 0) rfl rfl agInt rfl rfl) ?_
  refine TL.val rfl rfl rfl (gives_bin rfl rfl rfl (fun w => bin_lss w)) ?_
  refine TL.end_ ?_
  refine TX.then_ ?_
  refine TC.split rfl (fun hc6 => ?_) (fun hc6 => ?_)
  · exact absurd (of_decide_eq_true hc6) (by decide)
  · refine TC.skip_ ?_
    refine TX.then_ ?_
    refine TC.seq_ ?_
    refine TC.region ?_
    refine TL.val rfl rfl rfl (gives_mkfunc rfl rfl) ?_
    refine TL.val rfl rfl rfl (gives_assign rfl rfl) ?_
    refine TL.end_ ?_
    refine TX.then_ ?_
    refine TC.ret_ ?_
    exact ret_tmp Tryd.results20 rfl (fun w1 hw => ⟨b2, b3, rfl, hw⟩)
end Go.Proofs.YtllaojnnackhhaaDoor
