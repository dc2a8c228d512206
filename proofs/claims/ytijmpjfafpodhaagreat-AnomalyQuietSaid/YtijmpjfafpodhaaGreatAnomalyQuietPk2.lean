/-
  Texts of the proof, joined: JrCheck, JrRCheck, PtRes, AnRep, SymDn, SymRwG, SymSo, PtSort, PtEq, SymCpt.
-/
import Derived.Test.YtijmpjfafpodhaaGreatAnomalyQuietPk1
import GoSem.Step
import Derived.Calls
import Derived.Shelf.SlSortCmp.NoneTotal
import Derived.Shelf.SortM.Plain
import Derived.Shelf.SortM.SortNone
import Derived.Laws.StructEq
import Derived.Laws.Tables
import Derived.Laws.Small
import Derived.Laws.Pointers
import Derived.Laws.Cover2
import Derived.WalkKit
import Derived.KernelRfl
set_option linter.unusedVariables false
set_option linter.unusedSimpArgs false
namespace Go.Proofs.YtijmpjfafpodhaaGreat
open Go.RowKit
set_option maxRecDepth 20000
set_option maxHeartbeats 2000000 in
theorem check_any_ff (v run num at_ dst proto flow ttl back src kind code left id quo : Int) (w : World) :
    Calls Tryz.prog 120 #[.agg #[.int .i64 v, .int .i64 run, .int .i64 num, .int .i64 at_, .int .u32 dst, .int .i64 proto, .int .i64 flow, .int .i64 ttl, .bool false, .bool false, .int .i64 back, .int .u32 src, .int .i64 kind, .int .i64 code, .int .i64 left, .int .i64 id, .int .i64 quo]] w fun e w' => e = .returned (.int .i64 (chkR ⟨v, run, num, at_, dst, proto, flow, ttl, false, false, back, src, kind, code, left, id, quo⟩)) ∧ Below w.heap.size w w' := by
  refine begin_ (vs := [.agg #[.int .i64 v, .int .i64 run, .int .i64 num, .int .i64 at_, .int .u32 dst, .int .i64 proto, .int .i64 flow, .int .i64 ttl, .bool false, .bool false, .int .i64 back, .int .u32 src, .int .i64 kind, .int .i64 code, .int .i64 left, .int .i64 id, .int .i64 quo]]) Tryz.func120 rfl rfl rfl ?_ (Pm.start w)
  refine TC.seq_ (TC.region ?_)
  refine TL.pnew rfl rfl rfl (exec_box (cs := [.int .i64 v, .int .i64 run, .int .i64 num, .int .i64 at_, .int .u32 dst, .int .i64 proto, .int .i64 flow, .int .i64 ttl, .bool false, .bool false, .int .i64 back, .int .u32 src, .int .i64 kind, .int .i64 code, .int .i64 left, .int .i64 id, .int .i64 quo]) rfl rfl rfl) (fun g1 => ?_)
  refine TL.val rfl rfl rfl (gives_assign rfl rfl) ?_
  refine TL.end_ (TX.then_ (TC.seq_ (TC.region ?_)))
  refine TL.val rfl rfl rfl (gives_field rfl rfl (fun w => fR11 _ w)) ?_
  refine TL.val rfl rfl rfl (pm_loadAgg (k := 0) (n := 6) rfl rfl agA szA rfl (Nat.le_refl 17)) ?_
  refine TL.pnew rfl rfl rfl (exec_alloc (cs := [.int .u32 0, .int .i64 0, .int .i64 0, .int .i64 0, .int .i64 0, .int .i64 0]) rfl zeroA rfl) (fun g3 => ?_)
  refine TL.pstore (k := 0) (vs := [.int .u32 src, .int .i64 kind, .int .i64 code, .int .i64 left, .int .i64 id, .int .i64 quo]) rfl rfl rfl rfl rfl rfl rfl szA (oneA _ _ _ _ _ _) (Nat.le_refl 6) (L' := [.blk g3 63 [.int .u32 src, .int .i64 kind, .int .i64 code, .int .i64 left, .int .i64 id, .int .i64 quo], .blk g1 65 [.int .i64 v, .int .i64 run, .int .i64 num, .int .i64 at_, .int .u32 dst, .int .i64 proto, .int .i64 flow, .int .i64 ttl, .bool false, .bool false, .int .i64 back, .int .u32 src, .int .i64 kind, .int .i64 code, .int .i64 left, .int .i64 id, .int .i64 quo]]) rfl ?_
  refine TL.end_ (TX.then_ (TC.seq_ (TC.block (TC.seq_ (TC.seq_ (TC.region ?_))))))
  refine TL.val rfl rfl rfl (gives_field rfl rfl (fun w => fR0 _ w)) ?_
  refine TL.val rfl rfl rfl (pm_load (k := 1) rfl rfl agI rfl rfl) ?_
  refine TL.val rfl rfl rfl (gives_field rfl rfl (fun w => fR1 _ w)) ?_
  refine TL.val rfl rfl rfl (pm_load (k := 1) rfl rfl agI rfl rfl) ?_
  refine TL.callsplit rfl rfl rfl rfl rfl Tryz.func156 nmRun bdRun (fun w1 hw => run_any v run w1) (fun h11 => ?_) (fun h11 => ?_)
  refine TL.val rfl rfl rfl (gives_boolnot rfl rfl) ?_
  refine TL.val rfl rfl rfl (gives_assign rfl rfl) ?_
  refine TL.end_ (TX.then_ (TC.condF rfl (TC.seq_ (TC.region ?_))))
  refine TL.val rfl rfl rfl (gives_field rfl rfl (fun w => fR2 _ w)) ?_
  refine TL.val rfl rfl rfl (pm_load (k := 1) rfl rfl agI rfl rfl) ?_
  refine TL.callsplit rfl rfl rfl rfl rfl Tryz.func157 nmWithin bdWithin (fun w1 hw => within_any (num) (999) w1) (fun h15 => ?_) (fun h15 => ?_)
  refine TL.val rfl rfl rfl (gives_boolnot rfl rfl) ?_
  refine TL.val rfl rfl rfl (gives_assign rfl rfl) ?_
  refine TL.end_ (TX.then_ (TC.condF rfl (TC.seq_ (TC.region ?_))))
  refine TL.val rfl rfl rfl (gives_field rfl rfl (fun w => fR3 _ w)) ?_
  refine TL.val rfl rfl rfl (pm_load (k := 1) rfl rfl agI rfl rfl) ?_
  refine TL.callsplit rfl rfl rfl rfl rfl Tryz.func157 nmWithin bdWithin (fun w1 hw => within_any (at_) (2251799813685248) w1) (fun h19 => ?_) (fun h19 => ?_)
  refine TL.val rfl rfl rfl (gives_boolnot rfl rfl) ?_
  refine TL.val rfl rfl rfl (gives_assign rfl rfl) ?_
  refine TL.end_ (TX.then_ (TC.condF rfl (TC.seq_ (TC.region ?_))))
  refine TL.val rfl rfl rfl (gives_field rfl rfl (fun w => fR10 _ w)) ?_
  refine TL.val rfl rfl rfl (pm_load (k := 1) rfl rfl agI rfl rfl) ?_
  refine TL.callsplit rfl rfl rfl rfl rfl Tryz.func157 nmWithin bdWithin (fun w1 hw => within_any (back) (2251799813685248) w1) (fun h23 => ?_) (fun h23 => ?_)
  refine TL.val rfl rfl rfl (gives_boolnot rfl rfl) ?_
  refine TL.val rfl rfl rfl (gives_assign rfl rfl) ?_
  refine TL.end_ (TX.then_ (TC.condF rfl (TC.seq_ (TC.region ?_))))
  refine TL.val rfl rfl rfl (gives_field rfl rfl (fun w => fR10 _ w)) ?_
  refine TL.val rfl rfl rfl (pm_load (k := 1) rfl rfl agI rfl rfl) ?_
  refine TL.val rfl rfl rfl (gives_field rfl rfl (fun w => fR3 _ w)) ?_
  refine TL.val rfl rfl rfl (pm_load (k := 1) rfl rfl agI rfl rfl) ?_
  refine TL.vsplit rfl rfl rfl (gives_bin rfl rfl rfl (fun w => bin_lss w)) (fun h29 => ?_) (fun h29 => ?_)
  refine TL.val rfl rfl rfl (gives_assign rfl rfl) ?_
  refine TL.end_ (TX.then_ (TC.condT rfl (TC.skip_ (TX.then_ (TC.condT rfl (TC.seq_ (TC.region ?_)))))))
  refine TL.val rfl rfl rfl (gives_assign rfl rfl) ?_
  refine TL.end_ (TX.then_ (TC.ret_ (TX.in_ret (TX.then_ret ?_))))
  refine ret_tmp Tryz.results120 rfl (fun w1 hw => ⟨congrArg (fun x => Ending.returned (.int .i64 x)) ?_, hw.bel⟩)
  rotate_left
  refine TL.val rfl rfl rfl (gives_assign rfl rfl) ?_
  refine TL.end_ (TX.then_ (TC.condF rfl (TC.seq_ (TC.region ?_))))
  refine TL.val rfl rfl rfl (gives_field rfl rfl (fun w => fR6 _ w)) ?_
  refine TL.val rfl rfl rfl (pm_load (k := 1) rfl rfl agI rfl rfl) ?_
  refine TL.callsplit rfl rfl rfl rfl rfl Tryz.func157 nmWithin bdWithin (fun w1 hw => within_any (flow) (1023) w1) (fun h32 => ?_) (fun h32 => ?_)
  refine TL.val rfl rfl rfl (gives_boolnot rfl rfl) ?_
  refine TL.val rfl rfl rfl (gives_assign rfl rfl) ?_
  refine TL.end_ (TX.then_ (TC.condF rfl (TC.region ?_)))
  refine TL.val rfl rfl rfl (gives_field rfl rfl (fun w => fR7 _ w)) ?_
  refine TL.val rfl rfl rfl (pm_load (k := 1) rfl rfl agI rfl rfl) ?_
  refine TL.vsplit rfl rfl rfl (gives_bin rfl rfl rfl (fun w => bin_lss w)) (fun h36 => ?_) (fun h36 => ?_)
  iterate 6 (first | refine TL.off rfl rfl rfl rfl rfl rfl ?_ | refine TL.val rfl rfl rfl (gives_move rfl rfl) ?_ | refine TL.val rfl rfl rfl (gives_pick rfl rfl rfl) ?_ | refine TL.val rfl rfl rfl (gives_assign rfl rfl) ?_)
  refine TL.end_ (TX.then_ (TC.condT rfl (TC.seq_ (TC.region ?_))))
  refine TL.val rfl rfl rfl (gives_assign rfl rfl) ?_
  refine TL.end_ (TX.then_ (TC.ret_ (TX.in_ret (TX.then_ret ?_))))
  refine ret_tmp Tryz.results120 rfl (fun w1 hw => ⟨congrArg (fun x => Ending.returned (.int .i64 x)) ?_, hw.bel⟩)
  rotate_left
  refine TL.val rfl rfl rfl (gives_move rfl rfl) ?_
  refine TL.on rfl rfl rfl ?_
  refine TL.val rfl rfl rfl (gives_field rfl rfl (fun w => fR7 _ w)) ?_
  refine TL.on rfl rfl rfl ?_
  refine TL.val rfl rfl rfl (pm_load (k := 1) rfl rfl agI rfl rfl) ?_
  refine TL.on rfl rfl rfl ?_
  refine TL.vsplit rfl rfl rfl (gives_bin rfl rfl rfl (fun w => bin_gtr w)) (fun h40 => ?_) (fun h40 => ?_)
  refine TL.val rfl rfl rfl (gives_pick rfl rfl rfl) ?_
  refine TL.val rfl rfl rfl (gives_assign rfl rfl) ?_
  refine TL.end_ (TX.then_ (TC.condT rfl (TC.seq_ (TC.region ?_))))
  refine TL.val rfl rfl rfl (gives_assign rfl rfl) ?_
  refine TL.end_ (TX.then_ (TC.ret_ (TX.in_ret (TX.then_ret ?_))))
  refine ret_tmp Tryz.results120 rfl (fun w1 hw => ⟨congrArg (fun x => Ending.returned (.int .i64 x)) ?_, hw.bel⟩)
  rotate_left
  refine TL.val rfl rfl rfl (gives_pick rfl rfl rfl) ?_
  refine TL.val rfl rfl rfl (gives_assign rfl rfl) ?_
  refine TL.end_ (TX.then_ (TC.condF rfl ?_))
  refine TC.join (α := {b : Bool // decide (proto ≠ 1 ∧ proto ≠ 6 ∧ proto ≠ 17) = b}) (fun x => [(1, .pointer (some ⟨g1, 0, none⟩)), (3, .pointer (some ⟨g3, 0, none⟩)), (42, .bool x.1)]) (fun x => Pm w [.blk g3 63 [.int .u32 src, .int .i64 kind, .int .i64 code, .int .i64 left, .int .i64 id, .int .i64 quo], .blk g1 65 [.int .i64 v, .int .i64 run, .int .i64 num, .int .i64 at_, .int .u32 dst, .int .i64 proto, .int .i64 flow, .int .i64 ttl, .bool false, .bool false, .int .i64 back, .int .u32 src, .int .i64 kind, .int .i64 code, .int .i64 left, .int .i64 id, .int .i64 quo]]) ?_ ?_
  refine TC.region ?_
  refine TL.val rfl rfl rfl (gives_field rfl rfl (fun w => fR5 _ w)) ?_
  refine TL.val rfl rfl rfl (pm_load (k := 1) rfl rfl agI rfl rfl) ?_
  refine TL.vsplit rfl rfl rfl (gives_bin rfl rfl rfl (fun w => bin_neq w)) (fun h45 => ?_) (fun h45 => ?_)
  refine TL.val rfl rfl rfl (gives_move rfl rfl) ?_
  refine TL.on rfl rfl rfl ?_
  refine TL.val rfl rfl rfl (gives_field rfl rfl (fun w => fR5 _ w)) ?_
  refine TL.on rfl rfl rfl ?_
  refine TL.val rfl rfl rfl (pm_load (k := 1) rfl rfl agI rfl rfl) ?_
  refine TL.on rfl rfl rfl ?_
  refine TL.vsplit rfl rfl rfl (gives_bin rfl rfl rfl (fun w => bin_neq w)) (fun h49 => ?_) (fun h49 => ?_)
  refine TL.val rfl rfl rfl (gives_pick rfl rfl rfl) ?_
  refine TL.val rfl rfl rfl (gives_move rfl rfl) ?_
  refine TL.on rfl rfl rfl ?_
  refine TL.val rfl rfl rfl (gives_field rfl rfl (fun w => fR5 _ w)) ?_
  refine TL.on rfl rfl rfl ?_
  refine TL.val rfl rfl rfl (pm_load (k := 1) rfl rfl agI rfl rfl) ?_
  refine TL.on rfl rfl rfl ?_
  refine TL.vsplit rfl rfl rfl (gives_bin rfl rfl rfl (fun w => bin_neq w)) (fun h54 => ?_) (fun h54 => ?_)
  refine TL.val rfl rfl rfl (gives_pick rfl rfl rfl) ?_
  refine TL.val rfl rfl rfl (gives_assign rfl rfl) ?_
  refine TL.end_ ?_
  exact TX.joined (⟨true, by simp only [decide_eq_true_eq, decide_eq_false_iff_not] at *; first | omega | (apply decide_eq_true; omega) | (apply decide_eq_false; omega)⟩) (⟨rfl, rfl, rfl, trivial⟩) (fun w hw => hw)
  refine TL.val rfl rfl rfl (gives_pick rfl rfl rfl) ?_
  refine TL.val rfl rfl rfl (gives_assign rfl rfl) ?_
  refine TL.end_ ?_
  exact TX.joined (⟨false, by simp only [decide_eq_true_eq, decide_eq_false_iff_not] at *; first | omega | (apply decide_eq_true; omega) | (apply decide_eq_false; omega)⟩) (⟨rfl, rfl, rfl, trivial⟩) (fun w hw => hw)
  iterate 7 (first | refine TL.off rfl rfl rfl rfl rfl rfl ?_ | refine TL.val rfl rfl rfl (gives_pick rfl rfl rfl) ?_ | refine TL.val rfl rfl rfl (gives_move rfl rfl) ?_ | refine TL.val rfl rfl rfl (gives_assign rfl rfl) ?_)
  refine TL.end_ ?_
  exact TX.joined (⟨false, by simp only [decide_eq_true_eq, decide_eq_false_iff_not] at *; first | omega | (apply decide_eq_true; omega) | (apply decide_eq_false; omega)⟩) (⟨rfl, rfl, rfl, trivial⟩) (fun w hw => hw)
  iterate 11 (first | refine TL.off rfl rfl rfl rfl rfl rfl ?_ | refine TL.val rfl rfl rfl (gives_move rfl rfl) ?_ | refine TL.val rfl rfl rfl (gives_pick rfl rfl rfl) ?_ | refine TL.val rfl rfl rfl (gives_assign rfl rfl) ?_)
  refine TL.end_ ?_
  exact TX.joined (⟨false, by simp only [decide_eq_true_eq, decide_eq_false_iff_not] at *; first | omega | (apply decide_eq_true; omega) | (apply decide_eq_false; omega)⟩) (⟨rfl, rfl, rfl, trivial⟩) (fun w hw => hw)
  rintro ⟨b, hb⟩
  dsimp only
  cases b
  refine TC.condF rfl (TC.seq_ (TC.seq_ (TC.region ?_)))
  refine TL.val rfl rfl rfl (gives_field rfl rfl (fun w => fR9 _ w)) ?_
  refine TL.val rfl rfl rfl (pm_load (k := 1) rfl rfl agB rfl rfl) ?_
  iterate 6 (first | refine TL.off rfl rfl rfl rfl rfl rfl ?_ | refine TL.val rfl rfl rfl (gives_move rfl rfl) ?_ | refine TL.val rfl rfl rfl (gives_pick rfl rfl rfl) ?_ | refine TL.val rfl rfl rfl (gives_assign rfl rfl) ?_)
  refine TL.end_ (TX.then_ (TC.condF rfl (TC.region ?_)))
  refine TL.val rfl rfl rfl (gives_field rfl rfl (fun w => fR8 _ w)) ?_
  refine TL.val rfl rfl rfl (pm_load (k := 1) rfl rfl agB rfl rfl) ?_
  refine TL.val rfl rfl rfl (gives_boolnot rfl rfl) ?_
  refine TL.val rfl rfl rfl (gives_move rfl rfl) ?_
  refine TL.on rfl rfl rfl ?_
  refine TL.val rfl rfl rfl (pm_loadAgg (k := 0) (n := 6) rfl rfl agA szA rfl (Nat.le_refl 6)) ?_
  refine TL.on rfl rfl rfl ?_
  refine TL.val rfl rfl rfl (gives_build rfl rfl (fun w => buildA w)) ?_
  refine TL.on rfl rfl rfl ?_
  refine TL.vsplit rfl rfl rfl (gives_bin2 rfl rfl rfl (fun w => neqA _ _ _ _ _ _ _ _ _ _ _ _ w)) (fun h70 => ?_) (fun h70 => ?_)
  refine TL.val rfl rfl rfl (gives_pick rfl rfl rfl) ?_
  refine TL.val rfl rfl rfl (gives_assign rfl rfl) ?_
  refine TL.end_ (TX.then_ (TC.condT rfl (TC.seq_ (TC.region ?_))))
  refine TL.val rfl rfl rfl (gives_assign rfl rfl) ?_
  refine TL.end_ (TX.then_ (TC.ret_ (TX.in_ret (TX.then_ret ?_))))
  refine ret_tmp Tryz.results120 rfl (fun w1 hw => ⟨congrArg (fun x => Ending.returned (.int .i64 x)) ?_, hw.bel⟩)
  rotate_left
  refine TL.val rfl rfl rfl (gives_pick rfl rfl rfl) ?_
  refine TL.val rfl rfl rfl (gives_assign rfl rfl) ?_
  refine TL.end_ (TX.then_ (TC.condF rfl (TC.seq_ (TC.region ?_))))
  refine TL.val rfl rfl rfl (gives_field rfl rfl (fun w => fR8 _ w)) ?_
  refine TL.val rfl rfl rfl (pm_load (k := 1) rfl rfl agB rfl rfl) ?_
  iterate 35 (first | refine TL.offU rfl rfl rfl rfl rfl ?_ | refine TL.off rfl rfl rfl rfl rfl rfl ?_ | refine TL.val rfl rfl rfl (gives_move rfl rfl) ?_ | refine TL.val rfl rfl rfl (gives_pick rfl rfl rfl) ?_ | refine TL.val rfl rfl rfl (gives_assign rfl rfl) ?_)
  refine TL.end_ (TX.then_ (TC.condF rfl (TC.skip_ (TX.in_normal (TX.then_ (TC.seq_ (TC.region ?_)))))))
  refine TL.val rfl rfl rfl (gives_assign rfl rfl) ?_
  refine TL.end_ (TX.then_ (TC.ret_ ?_))
  refine ret_tmp Tryz.results120 rfl (fun w1 hw => ⟨congrArg (fun x => Ending.returned (.int .i64 x)) ?_, hw.bel⟩)
  rotate_left
  refine TC.condT rfl (TC.seq_ (TC.region ?_))
  refine TL.val rfl rfl rfl (gives_assign rfl rfl) ?_
  refine TL.end_ (TX.then_ (TC.ret_ (TX.in_ret (TX.then_ret ?_))))
  refine ret_tmp Tryz.results120 rfl (fun w1 hw => ⟨congrArg (fun x => Ending.returned (.int .i64 x)) ?_, hw.bel⟩)
  rotate_left
  refine TL.val rfl rfl rfl (gives_boolnot rfl rfl) ?_
  refine TL.val rfl rfl rfl (gives_assign rfl rfl) ?_
  refine TL.end_ (TX.then_ (TC.condT rfl (TC.skip_ (TX.then_ (TC.condT rfl (TC.seq_ (TC.region ?_)))))))
  refine TL.val rfl rfl rfl (gives_assign rfl rfl) ?_
  refine TL.end_ (TX.then_ (TC.ret_ (TX.in_ret (TX.then_ret ?_))))
  refine ret_tmp Tryz.results120 rfl (fun w1 hw => ⟨congrArg (fun x => Ending.returned (.int .i64 x)) ?_, hw.bel⟩)
  rotate_left
  refine TL.val rfl rfl rfl (gives_boolnot rfl rfl) ?_
  refine TL.val rfl rfl rfl (gives_assign rfl rfl) ?_
  refine TL.end_ (TX.then_ (TC.condT rfl (TC.skip_ (TX.then_ (TC.condT rfl (TC.seq_ (TC.region ?_)))))))
  refine TL.val rfl rfl rfl (gives_assign rfl rfl) ?_
  refine TL.end_ (TX.then_ (TC.ret_ (TX.in_ret (TX.then_ret ?_))))
  refine ret_tmp Tryz.results120 rfl (fun w1 hw => ⟨congrArg (fun x => Ending.returned (.int .i64 x)) ?_, hw.bel⟩)
  rotate_left
  refine TL.val rfl rfl rfl (gives_boolnot rfl rfl) ?_
  refine TL.val rfl rfl rfl (gives_assign rfl rfl) ?_
  refine TL.end_ (TX.then_ (TC.condT rfl (TC.skip_ (TX.then_ (TC.condT rfl (TC.seq_ (TC.region ?_)))))))
  refine TL.val rfl rfl rfl (gives_assign rfl rfl) ?_
  refine TL.end_ (TX.then_ (TC.ret_ (TX.in_ret (TX.then_ret ?_))))
  refine ret_tmp Tryz.results120 rfl (fun w1 hw => ⟨congrArg (fun x => Ending.returned (.int .i64 x)) ?_, hw.bel⟩)
  rotate_left
  refine TL.val rfl rfl rfl (gives_boolnot rfl rfl) ?_
  refine TL.val rfl rfl rfl (gives_assign rfl rfl) ?_
  refine TL.end_ (TX.then_ (TC.condT rfl (TC.skip_ (TX.then_ (TC.condT rfl (TC.seq_ (TC.region ?_)))))))
  refine TL.val rfl rfl rfl (gives_assign rfl rfl) ?_
  refine TL.end_ (TX.then_ (TC.ret_ (TX.in_ret (TX.then_ret ?_))))
  refine ret_tmp Tryz.results120 rfl (fun w1 hw => ⟨congrArg (fun x => Ending.returned (.int .i64 x)) ?_, hw.bel⟩)
  rotate_left
  refine TL.val rfl rfl rfl (gives_boolnot rfl rfl) ?_
  refine TL.val rfl rfl rfl (gives_assign rfl rfl) ?_
  refine TL.end_ (TX.then_ (TC.condT rfl (TC.skip_ (TX.then_ (TC.condT rfl (TC.seq_ (TC.region ?_)))))))
  refine TL.val rfl rfl rfl (gives_assign rfl rfl) ?_
  refine TL.end_ (TX.then_ (TC.ret_ (TX.in_ret (TX.then_ret ?_))))
  refine ret_tmp Tryz.results120 rfl (fun w1 hw => ⟨congrArg (fun x => Ending.returned (.int .i64 x)) ?_, hw.bel⟩)
  rotate_left
  all_goals (simp only [decide_eq_true_eq, decide_eq_false_iff_not] at *; first | exact chk_range (by unfold Rs.inRange; dsimp only; omega) | exact chk_ans rfl (by unfold Rs.inRange; dsimp only; omega) (by dsimp only; omega) (by unfold Rs.ansOk; dsimp only; omega) | (simp only [chkR, Rs.inRange, Rs.ansOk, Rs.noAns]; (try split) <;> (try split) <;> (try split) <;> (try split) <;> first | rfl | omega | (simp_all; done) | (simp_all; omega)))
set_option maxHeartbeats 2000000 in
theorem check_any_ft (v run num at_ dst proto flow ttl back src kind code left id quo : Int) (w : World) :
    Calls Tryz.prog 120 #[.agg #[.int .i64 v, .int .i64 run, .int .i64 num, .int .i64 at_, .int .u32 dst, .int .i64 proto, .int .i64 flow, .int .i64 ttl, .bool false, .bool true, .int .i64 back, .int .u32 src, .int .i64 kind, .int .i64 code, .int .i64 left, .int .i64 id, .int .i64 quo]] w fun e w' => e = .returned (.int .i64 (chkR ⟨v, run, num, at_, dst, proto, flow, ttl, false, true, back, src, kind, code, left, id, quo⟩)) ∧ Below w.heap.size w w' := by
  refine begin_ (vs := [.agg #[.int .i64 v, .int .i64 run, .int .i64 num, .int .i64 at_, .int .u32 dst, .int .i64 proto, .int .i64 flow, .int .i64 ttl, .bool false, .bool true, .int .i64 back, .int .u32 src, .int .i64 kind, .int .i64 code, .int .i64 left, .int .i64 id, .int .i64 quo]]) Tryz.func120 rfl rfl rfl ?_ (Pm.start w)
  refine TC.seq_ (TC.region ?_)
  refine TL.pnew rfl rfl rfl (exec_box (cs := [.int .i64 v, .int .i64 run, .int .i64 num, .int .i64 at_, .int .u32 dst, .int .i64 proto, .int .i64 flow, .int .i64 ttl, .bool false, .bool true, .int .i64 back, .int .u32 src, .int .i64 kind, .int .i64 code, .int .i64 left, .int .i64 id, .int .i64 quo]) rfl rfl rfl) (fun g1 => ?_)
  refine TL.val rfl rfl rfl (gives_assign rfl rfl) ?_
  refine TL.end_ (TX.then_ (TC.seq_ (TC.region ?_)))
  refine TL.val rfl rfl rfl (gives_field rfl rfl (fun w => fR11 _ w)) ?_
  refine TL.val rfl rfl rfl (pm_loadAgg (k := 0) (n := 6) rfl rfl agA szA rfl (Nat.le_refl 17)) ?_
  refine TL.pnew rfl rfl rfl (exec_alloc (cs := [.int .u32 0, .int .i64 0, .int .i64 0, .int .i64 0, .int .i64 0, .int .i64 0]) rfl zeroA rfl) (fun g3 => ?_)
  refine TL.pstore (k := 0) (vs := [.int .u32 src, .int .i64 kind, .int .i64 code, .int .i64 left, .int .i64 id, .int .i64 quo]) rfl rfl rfl rfl rfl rfl rfl szA (oneA _ _ _ _ _ _) (Nat.le_refl 6) (L' := [.blk g3 63 [.int .u32 src, .int .i64 kind, .int .i64 code, .int .i64 left, .int .i64 id, .int .i64 quo], .blk g1 65 [.int .i64 v, .int .i64 run, .int .i64 num, .int .i64 at_, .int .u32 dst, .int .i64 proto, .int .i64 flow, .int .i64 ttl, .bool false, .bool true, .int .i64 back, .int .u32 src, .int .i64 kind, .int .i64 code, .int .i64 left, .int .i64 id, .int .i64 quo]]) rfl ?_
  refine TL.end_ (TX.then_ (TC.seq_ (TC.block (TC.seq_ (TC.seq_ (TC.region ?_))))))
  refine TL.val rfl rfl rfl (gives_field rfl rfl (fun w => fR0 _ w)) ?_
  refine TL.val rfl rfl rfl (pm_load (k := 1) rfl rfl agI rfl rfl) ?_
  refine TL.val rfl rfl rfl (gives_field rfl rfl (fun w => fR1 _ w)) ?_
  refine TL.val rfl rfl rfl (pm_load (k := 1) rfl rfl agI rfl rfl) ?_
  refine TL.callsplit rfl rfl rfl rfl rfl Tryz.func156 nmRun bdRun (fun w1 hw => run_any v run w1) (fun h11 => ?_) (fun h11 => ?_)
  refine TL.val rfl rfl rfl (gives_boolnot rfl rfl) ?_
  refine TL.val rfl rfl rfl (gives_assign rfl rfl) ?_
  refine TL.end_ (TX.then_ (TC.condF rfl (TC.seq_ (TC.region ?_))))
  refine TL.val rfl rfl rfl (gives_field rfl rfl (fun w => fR2 _ w)) ?_
  refine TL.val rfl rfl rfl (pm_load (k := 1) rfl rfl agI rfl rfl) ?_
  refine TL.callsplit rfl rfl rfl rfl rfl Tryz.func157 nmWithin bdWithin (fun w1 hw => within_any (num) (999) w1) (fun h15 => ?_) (fun h15 => ?_)
  refine TL.val rfl rfl rfl (gives_boolnot rfl rfl) ?_
  refine TL.val rfl rfl rfl (gives_assign rfl rfl) ?_
  refine TL.end_ (TX.then_ (TC.condF rfl (TC.seq_ (TC.region ?_))))
  refine TL.val rfl rfl rfl (gives_field rfl rfl (fun w => fR3 _ w)) ?_
  refine TL.val rfl rfl rfl (pm_load (k := 1) rfl rfl agI rfl rfl) ?_
  refine TL.callsplit rfl rfl rfl rfl rfl Tryz.func157 nmWithin bdWithin (fun w1 hw => within_any (at_) (2251799813685248) w1) (fun h19 => ?_) (fun h19 => ?_)
  refine TL.val rfl rfl rfl (gives_boolnot rfl rfl) ?_
  refine TL.val rfl rfl rfl (gives_assign rfl rfl) ?_
  refine TL.end_ (TX.then_ (TC.condF rfl (TC.seq_ (TC.region ?_))))
  refine TL.val rfl rfl rfl (gives_field rfl rfl (fun w => fR10 _ w)) ?_
  refine TL.val rfl rfl rfl (pm_load (k := 1) rfl rfl agI rfl rfl) ?_
  refine TL.callsplit rfl rfl rfl rfl rfl Tryz.func157 nmWithin bdWithin (fun w1 hw => within_any (back) (2251799813685248) w1) (fun h23 => ?_) (fun h23 => ?_)
  refine TL.val rfl rfl rfl (gives_boolnot rfl rfl) ?_
  refine TL.val rfl rfl rfl (gives_assign rfl rfl) ?_
  refine TL.end_ (TX.then_ (TC.condF rfl (TC.seq_ (TC.region ?_))))
  refine TL.val rfl rfl rfl (gives_field rfl rfl (fun w => fR10 _ w)) ?_
  refine TL.val rfl rfl rfl (pm_load (k := 1) rfl rfl agI rfl rfl) ?_
  refine TL.val rfl rfl rfl (gives_field rfl rfl (fun w => fR3 _ w)) ?_
  refine TL.val rfl rfl rfl (pm_load (k := 1) rfl rfl agI rfl rfl) ?_
  refine TL.vsplit rfl rfl rfl (gives_bin rfl rfl rfl (fun w => bin_lss w)) (fun h29 => ?_) (fun h29 => ?_)
  refine TL.val rfl rfl rfl (gives_assign rfl rfl) ?_
  refine TL.end_ (TX.then_ (TC.condT rfl (TC.skip_ (TX.then_ (TC.condT rfl (TC.seq_ (TC.region ?_)))))))
  refine TL.val rfl rfl rfl (gives_assign rfl rfl) ?_
  refine TL.end_ (TX.then_ (TC.ret_ (TX.in_ret (TX.then_ret ?_))))
  refine ret_tmp Tryz.results120 rfl (fun w1 hw => ⟨congrArg (fun x => Ending.returned (.int .i64 x)) ?_, hw.bel⟩)
  rotate_left
  refine TL.val rfl rfl rfl (gives_assign rfl rfl) ?_
  refine TL.end_ (TX.then_ (TC.condF rfl (TC.seq_ (TC.region ?_))))
  refine TL.val rfl rfl rfl (gives_field rfl rfl (fun w => fR6 _ w)) ?_
  refine TL.val rfl rfl rfl (pm_load (k := 1) rfl rfl agI rfl rfl) ?_
  refine TL.callsplit rfl rfl rfl rfl rfl Tryz.func157 nmWithin bdWithin (fun w1 hw => within_any (flow) (1023) w1) (fun h32 => ?_) (fun h32 => ?_)
  refine TL.val rfl rfl rfl (gives_boolnot rfl rfl) ?_
  refine TL.val rfl rfl rfl (gives_assign rfl rfl) ?_
  refine TL.end_ (TX.then_ (TC.condF rfl (TC.region ?_)))
  refine TL.val rfl rfl rfl (gives_field rfl rfl (fun w => fR7 _ w)) ?_
  refine TL.val rfl rfl rfl (pm_load (k := 1) rfl rfl agI rfl rfl) ?_
  refine TL.vsplit rfl rfl rfl (gives_bin rfl rfl rfl (fun w => bin_lss w)) (fun h36 => ?_) (fun h36 => ?_)
  iterate 6 (first | refine TL.off rfl rfl rfl rfl rfl rfl ?_ | refine TL.val rfl rfl rfl (gives_move rfl rfl) ?_ | refine TL.val rfl rfl rfl (gives_pick rfl rfl rfl) ?_ | refine TL.val rfl rfl rfl (gives_assign rfl rfl) ?_)
  refine TL.end_ (TX.then_ (TC.condT rfl (TC.seq_ (TC.region ?_))))
  refine TL.val rfl rfl rfl (gives_assign rfl rfl) ?_
  refine TL.end_ (TX.then_ (TC.ret_ (TX.in_ret (TX.then_ret ?_))))
  refine ret_tmp Tryz.results120 rfl (fun w1 hw => ⟨congrArg (fun x => Ending.returned (.int .i64 x)) ?_, hw.bel⟩)
  rotate_left
  refine TL.val rfl rfl rfl (gives_move rfl rfl) ?_
  refine TL.on rfl rfl rfl ?_
  refine TL.val rfl rfl rfl (gives_field rfl rfl (fun w => fR7 _ w)) ?_
  refine TL.on rfl rfl rfl ?_
  refine TL.val rfl rfl rfl (pm_load (k := 1) rfl rfl agI rfl rfl) ?_
  refine TL.on rfl rfl rfl ?_
  refine TL.vsplit rfl rfl rfl (gives_bin rfl rfl rfl (fun w => bin_gtr w)) (fun h40 => ?_) (fun h40 => ?_)
  refine TL.val rfl rfl rfl (gives_pick rfl rfl rfl) ?_
  refine TL.val rfl rfl rfl (gives_assign rfl rfl) ?_
  refine TL.end_ (TX.then_ (TC.condT rfl (TC.seq_ (TC.region ?_))))
  refine TL.val rfl rfl rfl (gives_assign rfl rfl) ?_
  refine TL.end_ (TX.then_ (TC.ret_ (TX.in_ret (TX.then_ret ?_))))
  refine ret_tmp Tryz.results120 rfl (fun w1 hw => ⟨congrArg (fun x => Ending.returned (.int .i64 x)) ?_, hw.bel⟩)
  rotate_left
  refine TL.val rfl rfl rfl (gives_pick rfl rfl rfl) ?_
  refine TL.val rfl rfl rfl (gives_assign rfl rfl) ?_
  refine TL.end_ (TX.then_ (TC.condF rfl ?_))
  refine TC.join (α := {b : Bool // decide (proto ≠ 1 ∧ proto ≠ 6 ∧ proto ≠ 17) = b}) (fun x => [(1, .pointer (some ⟨g1, 0, none⟩)), (3, .pointer (some ⟨g3, 0, none⟩)), (42, .bool x.1)]) (fun x => Pm w [.blk g3 63 [.int .u32 src, .int .i64 kind, .int .i64 code, .int .i64 left, .int .i64 id, .int .i64 quo], .blk g1 65 [.int .i64 v, .int .i64 run, .int .i64 num, .int .i64 at_, .int .u32 dst, .int .i64 proto, .int .i64 flow, .int .i64 ttl, .bool false, .bool true, .int .i64 back, .int .u32 src, .int .i64 kind, .int .i64 code, .int .i64 left, .int .i64 id, .int .i64 quo]]) ?_ ?_
  refine TC.region ?_
  refine TL.val rfl rfl rfl (gives_field rfl rfl (fun w => fR5 _ w)) ?_
  refine TL.val rfl rfl rfl (pm_load (k := 1) rfl rfl agI rfl rfl) ?_
  refine TL.vsplit rfl rfl rfl (gives_bin rfl rfl rfl (fun w => bin_neq w)) (fun h45 => ?_) (fun h45 => ?_)
  refine TL.val rfl rfl rfl (gives_move rfl rfl) ?_
  refine TL.on rfl rfl rfl ?_
  refine TL.val rfl rfl rfl (gives_field rfl rfl (fun w => fR5 _ w)) ?_
  refine TL.on rfl rfl rfl ?_
  refine TL.val rfl rfl rfl (pm_load (k := 1) rfl rfl agI rfl rfl) ?_
  refine TL.on rfl rfl rfl ?_
  refine TL.vsplit rfl rfl rfl (gives_bin rfl rfl rfl (fun w => bin_neq w)) (fun h49 => ?_) (fun h49 => ?_)
  refine TL.val rfl rfl rfl (gives_pick rfl rfl rfl) ?_
  refine TL.val rfl rfl rfl (gives_move rfl rfl) ?_
  refine TL.on rfl rfl rfl ?_
  refine TL.val rfl rfl rfl (gives_field rfl rfl (fun w => fR5 _ w)) ?_
  refine TL.on rfl rfl rfl ?_
  refine TL.val rfl rfl rfl (pm_load (k := 1) rfl rfl agI rfl rfl) ?_
  refine TL.on rfl rfl rfl ?_
  refine TL.vsplit rfl rfl rfl (gives_bin rfl rfl rfl (fun w => bin_neq w)) (fun h54 => ?_) (fun h54 => ?_)
  refine TL.val rfl rfl rfl (gives_pick rfl rfl rfl) ?_
  refine TL.val rfl rfl rfl (gives_assign rfl rfl) ?_
  refine TL.end_ ?_
  exact TX.joined (⟨true, by simp only [decide_eq_true_eq, decide_eq_false_iff_not] at *; first | omega | (apply decide_eq_true; omega) | (apply decide_eq_false; omega)⟩) (⟨rfl, rfl, rfl, trivial⟩) (fun w hw => hw)
  refine TL.val rfl rfl rfl (gives_pick rfl rfl rfl) ?_
  refine TL.val rfl rfl rfl (gives_assign rfl rfl) ?_
  refine TL.end_ ?_
  exact TX.joined (⟨false, by simp only [decide_eq_true_eq, decide_eq_false_iff_not] at *; first | omega | (apply decide_eq_true; omega) | (apply decide_eq_false; omega)⟩) (⟨rfl, rfl, rfl, trivial⟩) (fun w hw => hw)
  iterate 7 (first | refine TL.off rfl rfl rfl rfl rfl rfl ?_ | refine TL.val rfl rfl rfl (gives_pick rfl rfl rfl) ?_ | refine TL.val rfl rfl rfl (gives_move rfl rfl) ?_ | refine TL.val rfl rfl rfl (gives_assign rfl rfl) ?_)
  refine TL.end_ ?_
  exact TX.joined (⟨false, by simp only [decide_eq_true_eq, decide_eq_false_iff_not] at *; first | omega | (apply decide_eq_true; omega) | (apply decide_eq_false; omega)⟩) (⟨rfl, rfl, rfl, trivial⟩) (fun w hw => hw)
  iterate 11 (first | refine TL.off rfl rfl rfl rfl rfl rfl ?_ | refine TL.val rfl rfl rfl (gives_move rfl rfl) ?_ | refine TL.val rfl rfl rfl (gives_pick rfl rfl rfl) ?_ | refine TL.val rfl rfl rfl (gives_assign rfl rfl) ?_)
  refine TL.end_ ?_
  exact TX.joined (⟨false, by simp only [decide_eq_true_eq, decide_eq_false_iff_not] at *; first | omega | (apply decide_eq_true; omega) | (apply decide_eq_false; omega)⟩) (⟨rfl, rfl, rfl, trivial⟩) (fun w hw => hw)
  rintro ⟨b, hb⟩
  dsimp only
  cases b
  refine TC.condF rfl (TC.seq_ (TC.seq_ (TC.region ?_)))
  refine TL.val rfl rfl rfl (gives_field rfl rfl (fun w => fR9 _ w)) ?_
  refine TL.val rfl rfl rfl (pm_load (k := 1) rfl rfl agB rfl rfl) ?_
  refine TL.val rfl rfl rfl (gives_move rfl rfl) ?_
  refine TL.on rfl rfl rfl ?_
  refine TL.val rfl rfl rfl (gives_field rfl rfl (fun w => fR8 _ w)) ?_
  refine TL.on rfl rfl rfl ?_
  refine TL.val rfl rfl rfl (pm_load (k := 1) rfl rfl agB rfl rfl) ?_
  refine TL.on rfl rfl rfl ?_
  refine TL.val rfl rfl rfl (gives_boolnot rfl rfl) ?_
  refine TL.val rfl rfl rfl (gives_pick rfl rfl rfl) ?_
  refine TL.val rfl rfl rfl (gives_assign rfl rfl) ?_
  refine TL.end_ (TX.then_ (TC.condT rfl (TC.skip_ (TX.then_ (TC.condT rfl (TC.seq_ (TC.region ?_)))))))
  refine TL.val rfl rfl rfl (gives_assign rfl rfl) ?_
  refine TL.end_ (TX.then_ (TC.ret_ (TX.in_ret (TX.then_ret ?_))))
  refine ret_tmp Tryz.results120 rfl (fun w1 hw => ⟨congrArg (fun x => Ending.returned (.int .i64 x)) ?_, hw.bel⟩)
  rotate_left
  refine TC.condT rfl (TC.seq_ (TC.region ?_))
  refine TL.val rfl rfl rfl (gives_assign rfl rfl) ?_
  refine TL.end_ (TX.then_ (TC.ret_ (TX.in_ret (TX.then_ret ?_))))
  refine ret_tmp Tryz.results120 rfl (fun w1 hw => ⟨congrArg (fun x => Ending.returned (.int .i64 x)) ?_, hw.bel⟩)
  rotate_left
  refine TL.val rfl rfl rfl (gives_boolnot rfl rfl) ?_
  refine TL.val rfl rfl rfl (gives_assign rfl rfl) ?_
  refine TL.end_ (TX.then_ (TC.condT rfl (TC.skip_ (TX.then_ (TC.condT rfl (TC.seq_ (TC.region ?_)))))))
  refine TL.val rfl rfl rfl (gives_assign rfl rfl) ?_
  refine TL.end_ (TX.then_ (TC.ret_ (TX.in_ret (TX.then_ret ?_))))
  refine ret_tmp Tryz.results120 rfl (fun w1 hw => ⟨congrArg (fun x => Ending.returned (.int .i64 x)) ?_, hw.bel⟩)
  rotate_left
  refine TL.val rfl rfl rfl (gives_boolnot rfl rfl) ?_
  refine TL.val rfl rfl rfl (gives_assign rfl rfl) ?_
  refine TL.end_ (TX.then_ (TC.condT rfl (TC.skip_ (TX.then_ (TC.condT rfl (TC.seq_ (TC.region ?_)))))))
  refine TL.val rfl rfl rfl (gives_assign rfl rfl) ?_
  refine TL.end_ (TX.then_ (TC.ret_ (TX.in_ret (TX.then_ret ?_))))
  refine ret_tmp Tryz.results120 rfl (fun w1 hw => ⟨congrArg (fun x => Ending.returned (.int .i64 x)) ?_, hw.bel⟩)
  rotate_left
  refine TL.val rfl rfl rfl (gives_boolnot rfl rfl) ?_
  refine TL.val rfl rfl rfl (gives_assign rfl rfl) ?_
  refine TL.end_ (TX.then_ (TC.condT rfl (TC.skip_ (TX.then_ (TC.condT rfl (TC.seq_ (TC.region ?_)))))))
  refine TL.val rfl rfl rfl (gives_assign rfl rfl) ?_
  refine TL.end_ (TX.then_ (TC.ret_ (TX.in_ret (TX.then_ret ?_))))
  refine ret_tmp Tryz.results120 rfl (fun w1 hw => ⟨congrArg (fun x => Ending.returned (.int .i64 x)) ?_, hw.bel⟩)
  rotate_left
  refine TL.val rfl rfl rfl (gives_boolnot rfl rfl) ?_
  refine TL.val rfl rfl rfl (gives_assign rfl rfl) ?_
  refine TL.end_ (TX.then_ (TC.condT rfl (TC.skip_ (TX.then_ (TC.condT rfl (TC.seq_ (TC.region ?_)))))))
  refine TL.val rfl rfl rfl (gives_assign rfl rfl) ?_
  refine TL.end_ (TX.then_ (TC.ret_ (TX.in_ret (TX.then_ret ?_))))
  refine ret_tmp Tryz.results120 rfl (fun w1 hw => ⟨congrArg (fun x => Ending.returned (.int .i64 x)) ?_, hw.bel⟩)
  rotate_left
  refine TL.val rfl rfl rfl (gives_boolnot rfl rfl) ?_
  refine TL.val rfl rfl rfl (gives_assign rfl rfl) ?_
  refine TL.end_ (TX.then_ (TC.condT rfl (TC.skip_ (TX.then_ (TC.condT rfl (TC.seq_ (TC.region ?_)))))))
  refine TL.val rfl rfl rfl (gives_assign rfl rfl) ?_
  refine TL.end_ (TX.then_ (TC.ret_ (TX.in_ret (TX.then_ret ?_))))
  refine ret_tmp Tryz.results120 rfl (fun w1 hw => ⟨congrArg (fun x => Ending.returned (.int .i64 x)) ?_, hw.bel⟩)
  rotate_left
  all_goals (simp only [decide_eq_true_eq, decide_eq_false_iff_not] at *; first | exact chk_range (by unfold Rs.inRange; dsimp only; omega) | exact chk_ans rfl (by unfold Rs.inRange; dsimp only; omega) (by dsimp only; omega) (by unfold Rs.ansOk; dsimp only; omega) | (simp only [chkR, Rs.inRange, Rs.ansOk, Rs.noAns]; (try split) <;> (try split) <;> (try split) <;> (try split) <;> first | rfl | omega | (simp_all; done) | (simp_all; omega)))
set_option maxHeartbeats 2000000 in
theorem check_any_tf (v run num at_ dst proto flow ttl back src kind code left id quo : Int) (w : World) :
    Calls Tryz.prog 120 #[.agg #[.int .i64 v, .int .i64 run, .int .i64 num, .int .i64 at_, .int .u32 dst, .int .i64 proto, .int .i64 flow, .int .i64 ttl, .bool true, .bool false, .int .i64 back, .int .u32 src, .int .i64 kind, .int .i64 code, .int .i64 left, .int .i64 id, .int .i64 quo]] w fun e w' => e = .returned (.int .i64 (chkR ⟨v, run, num, at_, dst, proto, flow, ttl, true, false, back, src, kind, code, left, id, quo⟩)) ∧ Below w.heap.size w w' := by
  refine begin_ (vs := [.agg #[.int .i64 v, .int .i64 run, .int .i64 num, .int .i64 at_, .int .u32 dst, .int .i64 proto, .int .i64 flow, .int .i64 ttl, .bool true, .bool false, .int .i64 back, .int .u32 src, .int .i64 kind, .int .i64 code, .int .i64 left, .int .i64 id, .int .i64 quo]]) Tryz.func120 rfl rfl rfl ?_ (Pm.start w)
  refine TC.seq_ (TC.region ?_)
  refine TL.pnew rfl rfl rfl (exec_box (cs := [.int .i64 v, .int .i64 run, .int .i64 num, .int .i64 at_, .int .u32 dst, .int .i64 proto, .int .i64 flow, .int .i64 ttl, .bool true, .bool false, .int .i64 back, .int .u32 src, .int .i64 kind, .int .i64 code, .int .i64 left, .int .i64 id, .int .i64 quo]) rfl rfl rfl) (fun g1 => ?_)
  refine TL.val rfl rfl rfl (gives_assign rfl rfl) ?_
  refine TL.end_ (TX.then_ (TC.seq_ (TC.region ?_)))
  refine TL.val rfl rfl rfl (gives_field rfl rfl (fun w => fR11 _ w)) ?_
  refine TL.val rfl rfl rfl (pm_loadAgg (k := 0) (n := 6) rfl rfl agA szA rfl (Nat.le_refl 17)) ?_
  refine TL.pnew rfl rfl rfl (exec_alloc (cs := [.int .u32 0, .int .i64 0, .int .i64 0, .int .i64 0, .int .i64 0, .int .i64 0]) rfl zeroA rfl) (fun g3 => ?_)
  refine TL.pstore (k := 0) (vs := [.int .u32 src, .int .i64 kind, .int .i64 code, .int .i64 left, .int .i64 id, .int .i64 quo]) rfl rfl rfl rfl rfl rfl rfl szA (oneA _ _ _ _ _ _) (Nat.le_refl 6) (L' := [.blk g3 63 [.int .u32 src, .int .i64 kind, .int .i64 code, .int .i64 left, .int .i64 id, .int .i64 quo], .blk g1 65 [.int .i64 v, .int .i64 run, .int .i64 num, .int .i64 at_, .int .u32 dst, .int .i64 proto, .int .i64 flow, .int .i64 ttl, .bool true, .bool false, .int .i64 back, .int .u32 src, .int .i64 kind, .int .i64 code, .int .i64 left, .int .i64 id, .int .i64 quo]]) rfl ?_
  refine TL.end_ (TX.then_ (TC.seq_ (TC.block (TC.seq_ (TC.seq_ (TC.region ?_))))))
  refine TL.val rfl rfl rfl (gives_field rfl rfl (fun w => fR0 _ w)) ?_
  refine TL.val rfl rfl rfl (pm_load (k := 1) rfl rfl agI rfl rfl) ?_
  refine TL.val rfl rfl rfl (gives_field rfl rfl (fun w => fR1 _ w)) ?_
  refine TL.val rfl rfl rfl (pm_load (k := 1) rfl rfl agI rfl rfl) ?_
  refine TL.callsplit rfl rfl rfl rfl rfl Tryz.func156 nmRun bdRun (fun w1 hw => run_any v run w1) (fun h11 => ?_) (fun h11 => ?_)
  refine TL.val rfl rfl rfl (gives_boolnot rfl rfl) ?_
  refine TL.val rfl rfl rfl (gives_assign rfl rfl) ?_
  refine TL.end_ (TX.then_ (TC.condF rfl (TC.seq_ (TC.region ?_))))
  refine TL.val rfl rfl rfl (gives_field rfl rfl (fun w => fR2 _ w)) ?_
  refine TL.val rfl rfl rfl (pm_load (k := 1) rfl rfl agI rfl rfl) ?_
  refine TL.callsplit rfl rfl rfl rfl rfl Tryz.func157 nmWithin bdWithin (fun w1 hw => within_any (num) (999) w1) (fun h15 => ?_) (fun h15 => ?_)
  refine TL.val rfl rfl rfl (gives_boolnot rfl rfl) ?_
  refine TL.val rfl rfl rfl (gives_assign rfl rfl) ?_
  refine TL.end_ (TX.then_ (TC.condF rfl (TC.seq_ (TC.region ?_))))
  refine TL.val rfl rfl rfl (gives_field rfl rfl (fun w => fR3 _ w)) ?_
  refine TL.val rfl rfl rfl (pm_load (k := 1) rfl rfl agI rfl rfl) ?_
  refine TL.callsplit rfl rfl rfl rfl rfl Tryz.func157 nmWithin bdWithin (fun w1 hw => within_any (at_) (2251799813685248) w1) (fun h19 => ?_) (fun h19 => ?_)
  refine TL.val rfl rfl rfl (gives_boolnot rfl rfl) ?_
  refine TL.val rfl rfl rfl (gives_assign rfl rfl) ?_
  refine TL.end_ (TX.then_ (TC.condF rfl (TC.seq_ (TC.region ?_))))
  refine TL.val rfl rfl rfl (gives_field rfl rfl (fun w => fR10 _ w)) ?_
  refine TL.val rfl rfl rfl (pm_load (k := 1) rfl rfl agI rfl rfl) ?_
  refine TL.callsplit rfl rfl rfl rfl rfl Tryz.func157 nmWithin bdWithin (fun w1 hw => within_any (back) (2251799813685248) w1) (fun h23 => ?_) (fun h23 => ?_)
  refine TL.val rfl rfl rfl (gives_boolnot rfl rfl) ?_
  refine TL.val rfl rfl rfl (gives_assign rfl rfl) ?_
  refine TL.end_ (TX.then_ (TC.condF rfl (TC.seq_ (TC.region ?_))))
  refine TL.val rfl rfl rfl (gives_field rfl rfl (fun w => fR10 _ w)) ?_
  refine TL.val rfl rfl rfl (pm_load (k := 1) rfl rfl agI rfl rfl) ?_
  refine TL.val rfl rfl rfl (gives_field rfl rfl (fun w => fR3 _ w)) ?_
  refine TL.val rfl rfl rfl (pm_load (k := 1) rfl rfl agI rfl rfl) ?_
  refine TL.vsplit rfl rfl rfl (gives_bin rfl rfl rfl (fun w => bin_lss w)) (fun h29 => ?_) (fun h29 => ?_)
  refine TL.val rfl rfl rfl (gives_assign rfl rfl) ?_
  refine TL.end_ (TX.then_ (TC.condT rfl (TC.skip_ (TX.then_ (TC.condT rfl (TC.seq_ (TC.region ?_)))))))
  refine TL.val rfl rfl rfl (gives_assign rfl rfl) ?_
  refine TL.end_ (TX.then_ (TC.ret_ (TX.in_ret (TX.then_ret ?_))))
  refine ret_tmp Tryz.results120 rfl (fun w1 hw => ⟨congrArg (fun x => Ending.returned (.int .i64 x)) ?_, hw.bel⟩)
  rotate_left
  refine TL.val rfl rfl rfl (gives_assign rfl rfl) ?_
  refine TL.end_ (TX.then_ (TC.condF rfl (TC.seq_ (TC.region ?_))))
  refine TL.val rfl rfl rfl (gives_field rfl rfl (fun w => fR6 _ w)) ?_
  refine TL.val rfl rfl rfl (pm_load (k := 1) rfl rfl agI rfl rfl) ?_
  refine TL.callsplit rfl rfl rfl rfl rfl Tryz.func157 nmWithin bdWithin (fun w1 hw => within_any (flow) (1023) w1) (fun h32 => ?_) (fun h32 => ?_)
  refine TL.val rfl rfl rfl (gives_boolnot rfl rfl) ?_
  refine TL.val rfl rfl rfl (gives_assign rfl rfl) ?_
  refine TL.end_ (TX.then_ (TC.condF rfl (TC.region ?_)))
  refine TL.val rfl rfl rfl (gives_field rfl rfl (fun w => fR7 _ w)) ?_
  refine TL.val rfl rfl rfl (pm_load (k := 1) rfl rfl agI rfl rfl) ?_
  refine TL.vsplit rfl rfl rfl (gives_bin rfl rfl rfl (fun w => bin_lss w)) (fun h36 => ?_) (fun h36 => ?_)
  iterate 6 (first | refine TL.off rfl rfl rfl rfl rfl rfl ?_ | refine TL.val rfl rfl rfl (gives_move rfl rfl) ?_ | refine TL.val rfl rfl rfl (gives_pick rfl rfl rfl) ?_ | refine TL.val rfl rfl rfl (gives_assign rfl rfl) ?_)
  refine TL.end_ (TX.then_ (TC.condT rfl (TC.seq_ (TC.region ?_))))
  refine TL.val rfl rfl rfl (gives_assign rfl rfl) ?_
  refine TL.end_ (TX.then_ (TC.ret_ (TX.in_ret (TX.then_ret ?_))))
  refine ret_tmp Tryz.results120 rfl (fun w1 hw => ⟨congrArg (fun x => Ending.returned (.int .i64 x)) ?_, hw.bel⟩)
  rotate_left
  refine TL.val rfl rfl rfl (gives_move rfl rfl) ?_
  refine TL.on rfl rfl rfl ?_
  refine TL.val rfl rfl rfl (gives_field rfl rfl (fun w => fR7 _ w)) ?_
  refine TL.on rfl rfl rfl ?_
  refine TL.val rfl rfl rfl (pm_load (k := 1) rfl rfl agI rfl rfl) ?_
  refine TL.on rfl rfl rfl ?_
  refine TL.vsplit rfl rfl rfl (gives_bin rfl rfl rfl (fun w => bin_gtr w)) (fun h40 => ?_) (fun h40 => ?_)
  refine TL.val rfl rfl rfl (gives_pick rfl rfl rfl) ?_
  refine TL.val rfl rfl rfl (gives_assign rfl rfl) ?_
  refine TL.end_ (TX.then_ (TC.condT rfl (TC.seq_ (TC.region ?_))))
  refine TL.val rfl rfl rfl (gives_assign rfl rfl) ?_
  refine TL.end_ (TX.then_ (TC.ret_ (TX.in_ret (TX.then_ret ?_))))
  refine ret_tmp Tryz.results120 rfl (fun w1 hw => ⟨congrArg (fun x => Ending.returned (.int .i64 x)) ?_, hw.bel⟩)
  rotate_left
  refine TL.val rfl rfl rfl (gives_pick rfl rfl rfl) ?_
  refine TL.val rfl rfl rfl (gives_assign rfl rfl) ?_
  refine TL.end_ (TX.then_ (TC.condF rfl ?_))
  refine TC.join (α := {b : Bool // decide (proto ≠ 1 ∧ proto ≠ 6 ∧ proto ≠ 17) = b}) (fun x => [(1, .pointer (some ⟨g1, 0, none⟩)), (3, .pointer (some ⟨g3, 0, none⟩)), (42, .bool x.1)]) (fun x => Pm w [.blk g3 63 [.int .u32 src, .int .i64 kind, .int .i64 code, .int .i64 left, .int .i64 id, .int .i64 quo], .blk g1 65 [.int .i64 v, .int .i64 run, .int .i64 num, .int .i64 at_, .int .u32 dst, .int .i64 proto, .int .i64 flow, .int .i64 ttl, .bool true, .bool false, .int .i64 back, .int .u32 src, .int .i64 kind, .int .i64 code, .int .i64 left, .int .i64 id, .int .i64 quo]]) ?_ ?_
  refine TC.region ?_
  refine TL.val rfl rfl rfl (gives_field rfl rfl (fun w => fR5 _ w)) ?_
  refine TL.val rfl rfl rfl (pm_load (k := 1) rfl rfl agI rfl rfl) ?_
  refine TL.vsplit rfl rfl rfl (gives_bin rfl rfl rfl (fun w => bin_neq w)) (fun h45 => ?_) (fun h45 => ?_)
  refine TL.val rfl rfl rfl (gives_move rfl rfl) ?_
  refine TL.on rfl rfl rfl ?_
  refine TL.val rfl rfl rfl (gives_field rfl rfl (fun w => fR5 _ w)) ?_
  refine TL.on rfl rfl rfl ?_
  refine TL.val rfl rfl rfl (pm_load (k := 1) rfl rfl agI rfl rfl) ?_
  refine TL.on rfl rfl rfl ?_
  refine TL.vsplit rfl rfl rfl (gives_bin rfl rfl rfl (fun w => bin_neq w)) (fun h49 => ?_) (fun h49 => ?_)
  refine TL.val rfl rfl rfl (gives_pick rfl rfl rfl) ?_
  refine TL.val rfl rfl rfl (gives_move rfl rfl) ?_
  refine TL.on rfl rfl rfl ?_
  refine TL.val rfl rfl rfl (gives_field rfl rfl (fun w => fR5 _ w)) ?_
  refine TL.on rfl rfl rfl ?_
  refine TL.val rfl rfl rfl (pm_load (k := 1) rfl rfl agI rfl rfl) ?_
  refine TL.on rfl rfl rfl ?_
  refine TL.vsplit rfl rfl rfl (gives_bin rfl rfl rfl (fun w => bin_neq w)) (fun h54 => ?_) (fun h54 => ?_)
  refine TL.val rfl rfl rfl (gives_pick rfl rfl rfl) ?_
  refine TL.val rfl rfl rfl (gives_assign rfl rfl) ?_
  refine TL.end_ ?_
  exact TX.joined (⟨true, by simp only [decide_eq_true_eq, decide_eq_false_iff_not] at *; first | omega | (apply decide_eq_true; omega) | (apply decide_eq_false; omega)⟩) (⟨rfl, rfl, rfl, trivial⟩) (fun w hw => hw)
  refine TL.val rfl rfl rfl (gives_pick rfl rfl rfl) ?_
  refine TL.val rfl rfl rfl (gives_assign rfl rfl) ?_
  refine TL.end_ ?_
  exact TX.joined (⟨false, by simp only [decide_eq_true_eq, decide_eq_false_iff_not] at *; first | omega | (apply decide_eq_true; omega) | (apply decide_eq_false; omega)⟩) (⟨rfl, rfl, rfl, trivial⟩) (fun w hw => hw)
  iterate 7 (first | refine TL.off rfl rfl rfl rfl rfl rfl ?_ | refine TL.val rfl rfl rfl (gives_pick rfl rfl rfl) ?_ | refine TL.val rfl rfl rfl (gives_move rfl rfl) ?_ | refine TL.val rfl rfl rfl (gives_assign rfl rfl) ?_)
  refine TL.end_ ?_
  exact TX.joined (⟨false, by simp only [decide_eq_true_eq, decide_eq_false_iff_not] at *; first | omega | (apply decide_eq_true; omega) | (apply decide_eq_false; omega)⟩) (⟨rfl, rfl, rfl, trivial⟩) (fun w hw => hw)
  iterate 11 (first | refine TL.off rfl rfl rfl rfl rfl rfl ?_ | refine TL.val rfl rfl rfl (gives_move rfl rfl) ?_ | refine TL.val rfl rfl rfl (gives_pick rfl rfl rfl) ?_ | refine TL.val rfl rfl rfl (gives_assign rfl rfl) ?_)
  refine TL.end_ ?_
  exact TX.joined (⟨false, by simp only [decide_eq_true_eq, decide_eq_false_iff_not] at *; first | omega | (apply decide_eq_true; omega) | (apply decide_eq_false; omega)⟩) (⟨rfl, rfl, rfl, trivial⟩) (fun w hw => hw)
  rintro ⟨b, hb⟩
  dsimp only
  cases b
  refine TC.condF rfl (TC.seq_ (TC.seq_ (TC.region ?_)))
  refine TL.val rfl rfl rfl (gives_field rfl rfl (fun w => fR9 _ w)) ?_
  refine TL.val rfl rfl rfl (pm_load (k := 1) rfl rfl agB rfl rfl) ?_
  iterate 6 (first | refine TL.off rfl rfl rfl rfl rfl rfl ?_ | refine TL.val rfl rfl rfl (gives_move rfl rfl) ?_ | refine TL.val rfl rfl rfl (gives_pick rfl rfl rfl) ?_ | refine TL.val rfl rfl rfl (gives_assign rfl rfl) ?_)
  refine TL.end_ (TX.then_ (TC.condF rfl (TC.region ?_)))
  refine TL.val rfl rfl rfl (gives_field rfl rfl (fun w => fR8 _ w)) ?_
  refine TL.val rfl rfl rfl (pm_load (k := 1) rfl rfl agB rfl rfl) ?_
  iterate 7 (first | refine TL.off rfl rfl rfl rfl rfl rfl ?_ | refine TL.val rfl rfl rfl (gives_move rfl rfl) ?_ | refine TL.val rfl rfl rfl (gives_pick rfl rfl rfl) ?_ | refine TL.val rfl rfl rfl (gives_assign rfl rfl) ?_ | refine TL.val rfl rfl rfl (gives_boolnot rfl rfl) ?_)
  refine TL.end_ (TX.then_ (TC.condF rfl (TC.seq_ (TC.region ?_))))
  refine TL.val rfl rfl rfl (gives_field rfl rfl (fun w => fR8 _ w)) ?_
  refine TL.val rfl rfl rfl (pm_load (k := 1) rfl rfl agB rfl rfl) ?_
  refine TL.val rfl rfl rfl (gives_move rfl rfl) ?_
  refine TL.on rfl rfl rfl ?_
  refine TL.val rfl rfl rfl (gives_field rfl rfl (fun w => fA1 _ w)) ?_
  refine TL.on rfl rfl rfl ?_
  refine TL.val rfl rfl rfl (pm_load (k := 0) rfl rfl agI rfl rfl) ?_
  refine TL.on rfl rfl rfl ?_
  refine TL.vsplit rfl rfl rfl (gives_bin rfl rfl rfl (fun w => bin_lss w)) (fun h78 => ?_) (fun h78 => ?_)
  iterate 41 (first | refine TL.off rfl rfl rfl rfl rfl rfl ?_ | refine TL.on rfl rfl rfl ?_ | refine TL.val rfl rfl rfl (gives_pick rfl rfl rfl) ?_ | refine TL.val rfl rfl rfl (gives_move rfl rfl) ?_ | refine TL.val rfl rfl rfl (gives_assign rfl rfl) ?_)
  refine TL.end_ (TX.then_ (TC.condT rfl (TC.seq_ (TC.region ?_))))
  refine TL.val rfl rfl rfl (gives_assign rfl rfl) ?_
  refine TL.end_ (TX.then_ (TC.ret_ (TX.in_ret (TX.then_ret ?_))))
  refine ret_tmp Tryz.results120 rfl (fun w1 hw => ⟨congrArg (fun x => Ending.returned (.int .i64 x)) ?_, hw.bel⟩)
  rotate_left
  refine TL.on rfl rfl rfl ?_
  refine TL.val rfl rfl rfl (gives_move rfl rfl) ?_
  refine TL.on rfl rfl rfl ?_
  refine TL.val rfl rfl rfl (gives_field rfl rfl (fun w => fA1 _ w)) ?_
  refine TL.on rfl rfl rfl ?_
  refine TL.val rfl rfl rfl (pm_load (k := 0) rfl rfl agI rfl rfl) ?_
  refine TL.on rfl rfl rfl ?_
  refine TL.vsplit rfl rfl rfl (gives_bin rfl rfl rfl (fun w => bin_gtr w)) (fun h82 => ?_) (fun h82 => ?_)
  iterate 36 (first | refine TL.off rfl rfl rfl rfl rfl rfl ?_ | refine TL.on rfl rfl rfl ?_ | refine TL.val rfl rfl rfl (gives_pick rfl rfl rfl) ?_ | refine TL.val rfl rfl rfl (gives_move rfl rfl) ?_ | refine TL.val rfl rfl rfl (gives_assign rfl rfl) ?_)
  refine TL.end_ (TX.then_ (TC.condT rfl (TC.seq_ (TC.region ?_))))
  refine TL.val rfl rfl rfl (gives_assign rfl rfl) ?_
  refine TL.end_ (TX.then_ (TC.ret_ (TX.in_ret (TX.then_ret ?_))))
  refine ret_tmp Tryz.results120 rfl (fun w1 hw => ⟨congrArg (fun x => Ending.returned (.int .i64 x)) ?_, hw.bel⟩)
  rotate_left
  iterate 5 (first | refine TL.on rfl rfl rfl ?_ | refine TL.val rfl rfl rfl (gives_move rfl rfl) ?_ | refine TL.val rfl rfl rfl (gives_pick rfl rfl rfl) ?_)
  refine TL.val rfl rfl rfl (gives_field rfl rfl (fun w => fA2 _ w)) ?_
  refine TL.on rfl rfl rfl ?_
  refine TL.val rfl rfl rfl (pm_load (k := 0) rfl rfl agI rfl rfl) ?_
  refine TL.on rfl rfl rfl ?_
  refine TL.callsplit rfl rfl rfl rfl rfl Tryz.func157 nmWithin bdWithin (fun w1 hw => within_any (code) (255) w1) (fun h87 => ?_) (fun h87 => ?_)
  iterate 7 (first | refine TL.on rfl rfl rfl ?_ | refine TL.val rfl rfl rfl (gives_move rfl rfl) ?_ | refine TL.val rfl rfl rfl (gives_pick rfl rfl rfl) ?_ | refine TL.val rfl rfl rfl (gives_boolnot rfl rfl) ?_)
  refine TL.val rfl rfl rfl (gives_field rfl rfl (fun w => fA3 _ w)) ?_
  refine TL.on rfl rfl rfl ?_
  refine TL.val rfl rfl rfl (pm_load (k := 0) rfl rfl agI rfl rfl) ?_
  refine TL.on rfl rfl rfl ?_
  refine TL.callsplit rfl rfl rfl rfl rfl Tryz.func157 nmWithin bdWithin (fun w1 hw => within_any (left) (255) w1) (fun h93 => ?_) (fun h93 => ?_)
  iterate 7 (first | refine TL.on rfl rfl rfl ?_ | refine TL.val rfl rfl rfl (gives_move rfl rfl) ?_ | refine TL.val rfl rfl rfl (gives_pick rfl rfl rfl) ?_ | refine TL.val rfl rfl rfl (gives_boolnot rfl rfl) ?_)
  refine TL.val rfl rfl rfl (gives_field rfl rfl (fun w => fA5 _ w)) ?_
  refine TL.on rfl rfl rfl ?_
  refine TL.val rfl rfl rfl (pm_load (k := 0) rfl rfl agI rfl rfl) ?_
  refine TL.on rfl rfl rfl ?_
  refine TL.callsplit rfl rfl rfl rfl rfl Tryz.func157 nmWithin bdWithin (fun w1 hw => within_any (quo) (255) w1) (fun h99 => ?_) (fun h99 => ?_)
  iterate 7 (first | refine TL.on rfl rfl rfl ?_ | refine TL.val rfl rfl rfl (gives_move rfl rfl) ?_ | refine TL.val rfl rfl rfl (gives_pick rfl rfl rfl) ?_ | refine TL.val rfl rfl rfl (gives_boolnot rfl rfl) ?_)
  refine TL.val rfl rfl rfl (gives_field rfl rfl (fun w => fA4 _ w)) ?_
  refine TL.on rfl rfl rfl ?_
  refine TL.val rfl rfl rfl (pm_load (k := 0) rfl rfl agI rfl rfl) ?_
  refine TL.on rfl rfl rfl ?_
  refine TL.callsplit rfl rfl rfl rfl rfl Tryz.func157 nmWithin bdWithin (fun w1 hw => within_any (id) (65535) w1) (fun h105 => ?_) (fun h105 => ?_)
  iterate 6 (first | refine TL.on rfl rfl rfl ?_ | refine TL.val rfl rfl rfl (gives_pick rfl rfl rfl) ?_ | refine TL.val rfl rfl rfl (gives_assign rfl rfl) ?_ | refine TL.val rfl rfl rfl (gives_boolnot rfl rfl) ?_)
  refine TL.end_ (TX.then_ (TC.condF rfl (TC.skip_ (TX.in_normal (TX.then_ (TC.seq_ (TC.region ?_)))))))
  refine TL.val rfl rfl rfl (gives_assign rfl rfl) ?_
  refine TL.end_ (TX.then_ (TC.ret_ ?_))
  refine ret_tmp Tryz.results120 rfl (fun w1 hw => ⟨congrArg (fun x => Ending.returned (.int .i64 x)) ?_, hw.bel⟩)
  rotate_left
  iterate 6 (first | refine TL.on rfl rfl rfl ?_ | refine TL.val rfl rfl rfl (gives_pick rfl rfl rfl) ?_ | refine TL.val rfl rfl rfl (gives_assign rfl rfl) ?_ | refine TL.val rfl rfl rfl (gives_boolnot rfl rfl) ?_)
  refine TL.end_ (TX.then_ (TC.condT rfl (TC.seq_ (TC.region ?_))))
  refine TL.val rfl rfl rfl (gives_assign rfl rfl) ?_
  refine TL.end_ (TX.then_ (TC.ret_ (TX.in_ret (TX.then_ret ?_))))
  refine ret_tmp Tryz.results120 rfl (fun w1 hw => ⟨congrArg (fun x => Ending.returned (.int .i64 x)) ?_, hw.bel⟩)
  rotate_left
  iterate 14 (first | refine TL.off rfl rfl rfl rfl rfl rfl ?_ | refine TL.on rfl rfl rfl ?_ | refine TL.val rfl rfl rfl (gives_pick rfl rfl rfl) ?_ | refine TL.val rfl rfl rfl (gives_move rfl rfl) ?_ | refine TL.val rfl rfl rfl (gives_assign rfl rfl) ?_ | refine TL.val rfl rfl rfl (gives_boolnot rfl rfl) ?_)
  refine TL.end_ (TX.then_ (TC.condT rfl (TC.seq_ (TC.region ?_))))
  refine TL.val rfl rfl rfl (gives_assign rfl rfl) ?_
  refine TL.end_ (TX.then_ (TC.ret_ (TX.in_ret (TX.then_ret ?_))))
  refine ret_tmp Tryz.results120 rfl (fun w1 hw => ⟨congrArg (fun x => Ending.returned (.int .i64 x)) ?_, hw.bel⟩)
  rotate_left
  iterate 22 (first | refine TL.off rfl rfl rfl rfl rfl rfl ?_ | refine TL.on rfl rfl rfl ?_ | refine TL.val rfl rfl rfl (gives_pick rfl rfl rfl) ?_ | refine TL.val rfl rfl rfl (gives_move rfl rfl) ?_ | refine TL.val rfl rfl rfl (gives_assign rfl rfl) ?_ | refine TL.val rfl rfl rfl (gives_boolnot rfl rfl) ?_)
  refine TL.end_ (TX.then_ (TC.condT rfl (TC.seq_ (TC.region ?_))))
  refine TL.val rfl rfl rfl (gives_assign rfl rfl) ?_
  refine TL.end_ (TX.then_ (TC.ret_ (TX.in_ret (TX.then_ret ?_))))
  refine ret_tmp Tryz.results120 rfl (fun w1 hw => ⟨congrArg (fun x => Ending.returned (.int .i64 x)) ?_, hw.bel⟩)
  rotate_left
  iterate 30 (first | refine TL.off rfl rfl rfl rfl rfl rfl ?_ | refine TL.on rfl rfl rfl ?_ | refine TL.val rfl rfl rfl (gives_pick rfl rfl rfl) ?_ | refine TL.val rfl rfl rfl (gives_move rfl rfl) ?_ | refine TL.val rfl rfl rfl (gives_assign rfl rfl) ?_ | refine TL.val rfl rfl rfl (gives_boolnot rfl rfl) ?_)
  refine TL.end_ (TX.then_ (TC.condT rfl (TC.seq_ (TC.region ?_))))
  refine TL.val rfl rfl rfl (gives_assign rfl rfl) ?_
  refine TL.end_ (TX.then_ (TC.ret_ (TX.in_ret (TX.then_ret ?_))))
  refine ret_tmp Tryz.results120 rfl (fun w1 hw => ⟨congrArg (fun x => Ending.returned (.int .i64 x)) ?_, hw.bel⟩)
  rotate_left
  refine TC.condT rfl (TC.seq_ (TC.region ?_))
  refine TL.val rfl rfl rfl (gives_assign rfl rfl) ?_
  refine TL.end_ (TX.then_ (TC.ret_ (TX.in_ret (TX.then_ret ?_))))
  refine ret_tmp Tryz.results120 rfl (fun w1 hw => ⟨congrArg (fun x => Ending.returned (.int .i64 x)) ?_, hw.bel⟩)
  rotate_left
  refine TL.val rfl rfl rfl (gives_boolnot rfl rfl) ?_
  refine TL.val rfl rfl rfl (gives_assign rfl rfl) ?_
  refine TL.end_ (TX.then_ (TC.condT rfl (TC.skip_ (TX.then_ (TC.condT rfl (TC.seq_ (TC.region ?_)))))))
  refine TL.val rfl rfl rfl (gives_assign rfl rfl) ?_
  refine TL.end_ (TX.then_ (TC.ret_ (TX.in_ret (TX.then_ret ?_))))
  refine ret_tmp Tryz.results120 rfl (fun w1 hw => ⟨congrArg (fun x => Ending.returned (.int .i64 x)) ?_, hw.bel⟩)
  rotate_left
  refine TL.val rfl rfl rfl (gives_boolnot rfl rfl) ?_
  refine TL.val rfl rfl rfl (gives_assign rfl rfl) ?_
  refine TL.end_ (TX.then_ (TC.condT rfl (TC.skip_ (TX.then_ (TC.condT rfl (TC.seq_ (TC.region ?_)))))))
  refine TL.val rfl rfl rfl (gives_assign rfl rfl) ?_
  refine TL.end_ (TX.then_ (TC.ret_ (TX.in_ret (TX.then_ret ?_))))
  refine ret_tmp Tryz.results120 rfl (fun w1 hw => ⟨congrArg (fun x => Ending.returned (.int .i64 x)) ?_, hw.bel⟩)
  rotate_left
  refine TL.val rfl rfl rfl (gives_boolnot rfl rfl) ?_
  refine TL.val rfl rfl rfl (gives_assign rfl rfl) ?_
  refine TL.end_ (TX.then_ (TC.condT rfl (TC.skip_ (TX.then_ (TC.condT rfl (TC.seq_ (TC.region ?_)))))))
  refine TL.val rfl rfl rfl (gives_assign rfl rfl) ?_
  refine TL.end_ (TX.then_ (TC.ret_ (TX.in_ret (TX.then_ret ?_))))
  refine ret_tmp Tryz.results120 rfl (fun w1 hw => ⟨congrArg (fun x => Ending.returned (.int .i64 x)) ?_, hw.bel⟩)
  rotate_left
  refine TL.val rfl rfl rfl (gives_boolnot rfl rfl) ?_
  refine TL.val rfl rfl rfl (gives_assign rfl rfl) ?_
  refine TL.end_ (TX.then_ (TC.condT rfl (TC.skip_ (TX.then_ (TC.condT rfl (TC.seq_ (TC.region ?_)))))))
  refine TL.val rfl rfl rfl (gives_assign rfl rfl) ?_
  refine TL.end_ (TX.then_ (TC.ret_ (TX.in_ret (TX.then_ret ?_))))
  refine ret_tmp Tryz.results120 rfl (fun w1 hw => ⟨congrArg (fun x => Ending.returned (.int .i64 x)) ?_, hw.bel⟩)
  rotate_left
  refine TL.val rfl rfl rfl (gives_boolnot rfl rfl) ?_
  refine TL.val rfl rfl rfl (gives_assign rfl rfl) ?_
  refine TL.end_ (TX.then_ (TC.condT rfl (TC.skip_ (TX.then_ (TC.condT rfl (TC.seq_ (TC.region ?_)))))))
  refine TL.val rfl rfl rfl (gives_assign rfl rfl) ?_
  refine TL.end_ (TX.then_ (TC.ret_ (TX.in_ret (TX.then_ret ?_))))
  refine ret_tmp Tryz.results120 rfl (fun w1 hw => ⟨congrArg (fun x => Ending.returned (.int .i64 x)) ?_, hw.bel⟩)
  rotate_left
  all_goals (simp only [decide_eq_true_eq, decide_eq_false_iff_not] at *; first | exact chk_range (by unfold Rs.inRange; dsimp only; omega) | exact chk_ans rfl (by unfold Rs.inRange; dsimp only; omega) (by dsimp only; omega) (by unfold Rs.ansOk; dsimp only; omega) | (simp only [chkR, Rs.inRange, Rs.ansOk, Rs.noAns]; (try split) <;> (try split) <;> (try split) <;> (try split) <;> first | rfl | omega | (simp_all; done) | (simp_all; omega)))
set_option maxHeartbeats 2000000 in
theorem check_any_tt (v run num at_ dst proto flow ttl back src kind code left id quo : Int) (w : World) :
    Calls Tryz.prog 120 #[.agg #[.int .i64 v, .int .i64 run, .int .i64 num, .int .i64 at_, .int .u32 dst, .int .i64 proto, .int .i64 flow, .int .i64 ttl, .bool true, .bool true, .int .i64 back, .int .u32 src, .int .i64 kind, .int .i64 code, .int .i64 left, .int .i64 id, .int .i64 quo]] w fun e w' => e = .returned (.int .i64 (chkR ⟨v, run, num, at_, dst, proto, flow, ttl, true, true, back, src, kind, code, left, id, quo⟩)) ∧ Below w.heap.size w w' := by
  refine begin_ (vs := [.agg #[.int .i64 v, .int .i64 run, .int .i64 num, .int .i64 at_, .int .u32 dst, .int .i64 proto, .int .i64 flow, .int .i64 ttl, .bool true, .bool true, .int .i64 back, .int .u32 src, .int .i64 kind, .int .i64 code, .int .i64 left, .int .i64 id, .int .i64 quo]]) Tryz.func120 rfl rfl rfl ?_ (Pm.start w)
  refine TC.seq_ (TC.region ?_)
  refine TL.pnew rfl rfl rfl (exec_box (cs := [.int .i64 v, .int .i64 run, .int .i64 num, .int .i64 at_, .int .u32 dst, .int .i64 proto, .int .i64 flow, .int .i64 ttl, .bool true, .bool true, .int .i64 back, .int .u32 src, .int .i64 kind, .int .i64 code, .int .i64 left, .int .i64 id, .int .i64 quo]) rfl rfl rfl) (fun g1 => ?_)
  refine TL.val rfl rfl rfl (gives_assign rfl rfl) ?_
  refine TL.end_ (TX.then_ (TC.seq_ (TC.region ?_)))
  refine TL.val rfl rfl rfl (gives_field rfl rfl (fun w => fR11 _ w)) ?_
  refine TL.val rfl rfl rfl (pm_loadAgg (k := 0) (n := 6) rfl rfl agA szA rfl (Nat.le_refl 17)) ?_
  refine TL.pnew rfl rfl rfl (exec_alloc (cs := [.int .u32 0, .int .i64 0, .int .i64 0, .int .i64 0, .int .i64 0, .int .i64 0]) rfl zeroA rfl) (fun g3 => ?_)
  refine TL.pstore (k := 0) (vs := [.int .u32 src, .int .i64 kind, .int .i64 code, .int .i64 left, .int .i64 id, .int .i64 quo]) rfl rfl rfl rfl rfl rfl rfl szA (oneA _ _ _ _ _ _) (Nat.le_refl 6) (L' := [.blk g3 63 [.int .u32 src, .int .i64 kind, .int .i64 code, .int .i64 left, .int .i64 id, .int .i64 quo], .blk g1 65 [.int .i64 v, .int .i64 run, .int .i64 num, .int .i64 at_, .int .u32 dst, .int .i64 proto, .int .i64 flow, .int .i64 ttl, .bool true, .bool true, .int .i64 back, .int .u32 src, .int .i64 kind, .int .i64 code, .int .i64 left, .int .i64 id, .int .i64 quo]]) rfl ?_
  refine TL.end_ (TX.then_ (TC.seq_ (TC.block (TC.seq_ (TC.seq_ (TC.region ?_))))))
  refine TL.val rfl rfl rfl (gives_field rfl rfl (fun w => fR0 _ w)) ?_
  refine TL.val rfl rfl rfl (pm_load (k := 1) rfl rfl agI rfl rfl) ?_
  refine TL.val rfl rfl rfl (gives_field rfl rfl (fun w => fR1 _ w)) ?_
  refine TL.val rfl rfl rfl (pm_load (k := 1) rfl rfl agI rfl rfl) ?_
  refine TL.callsplit rfl rfl rfl rfl rfl Tryz.func156 nmRun bdRun (fun w1 hw => run_any v run w1) (fun h11 => ?_) (fun h11 => ?_)
  refine TL.val rfl rfl rfl (gives_boolnot rfl rfl) ?_
  refine TL.val rfl rfl rfl (gives_assign rfl rfl) ?_
  refine TL.end_ (TX.then_ (TC.condF rfl (TC.seq_ (TC.region ?_))))
  refine TL.val rfl rfl rfl (gives_field rfl rfl (fun w => fR2 _ w)) ?_
  refine TL.val rfl rfl rfl (pm_load (k := 1) rfl rfl agI rfl rfl) ?_
  refine TL.callsplit rfl rfl rfl rfl rfl Tryz.func157 nmWithin bdWithin (fun w1 hw => within_any (num) (999) w1) (fun h15 => ?_) (fun h15 => ?_)
  refine TL.val rfl rfl rfl (gives_boolnot rfl rfl) ?_
  refine TL.val rfl rfl rfl (gives_assign rfl rfl) ?_
  refine TL.end_ (TX.then_ (TC.condF rfl (TC.seq_ (TC.region ?_))))
  refine TL.val rfl rfl rfl (gives_field rfl rfl (fun w => fR3 _ w)) ?_
  refine TL.val rfl rfl rfl (pm_load (k := 1) rfl rfl agI rfl rfl) ?_
  refine TL.callsplit rfl rfl rfl rfl rfl Tryz.func157 nmWithin bdWithin (fun w1 hw => within_any (at_) (2251799813685248) w1) (fun h19 => ?_) (fun h19 => ?_)
  refine TL.val rfl rfl rfl (gives_boolnot rfl rfl) ?_
  refine TL.val rfl rfl rfl (gives_assign rfl rfl) ?_
  refine TL.end_ (TX.then_ (TC.condF rfl (TC.seq_ (TC.region ?_))))
  refine TL.val rfl rfl rfl (gives_field rfl rfl (fun w => fR10 _ w)) ?_
  refine TL.val rfl rfl rfl (pm_load (k := 1) rfl rfl agI rfl rfl) ?_
  refine TL.callsplit rfl rfl rfl rfl rfl Tryz.func157 nmWithin bdWithin (fun w1 hw => within_any (back) (2251799813685248) w1) (fun h23 => ?_) (fun h23 => ?_)
  refine TL.val rfl rfl rfl (gives_boolnot rfl rfl) ?_
  refine TL.val rfl rfl rfl (gives_assign rfl rfl) ?_
  refine TL.end_ (TX.then_ (TC.condF rfl (TC.seq_ (TC.region ?_))))
  refine TL.val rfl rfl rfl (gives_field rfl rfl (fun w => fR10 _ w)) ?_
  refine TL.val rfl rfl rfl (pm_load (k := 1) rfl rfl agI rfl rfl) ?_
  refine TL.val rfl rfl rfl (gives_field rfl rfl (fun w => fR3 _ w)) ?_
  refine TL.val rfl rfl rfl (pm_load (k := 1) rfl rfl agI rfl rfl) ?_
  refine TL.vsplit rfl rfl rfl (gives_bin rfl rfl rfl (fun w => bin_lss w)) (fun h29 => ?_) (fun h29 => ?_)
  refine TL.val rfl rfl rfl (gives_assign rfl rfl) ?_
  refine TL.end_ (TX.then_ (TC.condT rfl (TC.skip_ (TX.then_ (TC.condT rfl (TC.seq_ (TC.region ?_)))))))
  refine TL.val rfl rfl rfl (gives_assign rfl rfl) ?_
  refine TL.end_ (TX.then_ (TC.ret_ (TX.in_ret (TX.then_ret ?_))))
  refine ret_tmp Tryz.results120 rfl (fun w1 hw => ⟨congrArg (fun x => Ending.returned (.int .i64 x)) ?_, hw.bel⟩)
  rotate_left
  refine TL.val rfl rfl rfl (gives_assign rfl rfl) ?_
  refine TL.end_ (TX.then_ (TC.condF rfl (TC.seq_ (TC.region ?_))))
  refine TL.val rfl rfl rfl (gives_field rfl rfl (fun w => fR6 _ w)) ?_
  refine TL.val rfl rfl rfl (pm_load (k := 1) rfl rfl agI rfl rfl) ?_
  refine TL.callsplit rfl rfl rfl rfl rfl Tryz.func157 nmWithin bdWithin (fun w1 hw => within_any (flow) (1023) w1) (fun h32 => ?_) (fun h32 => ?_)
  refine TL.val rfl rfl rfl (gives_boolnot rfl rfl) ?_
  refine TL.val rfl rfl rfl (gives_assign rfl rfl) ?_
  refine TL.end_ (TX.then_ (TC.condF rfl (TC.region ?_)))
  refine TL.val rfl rfl rfl (gives_field rfl rfl (fun w => fR7 _ w)) ?_
  refine TL.val rfl rfl rfl (pm_load (k := 1) rfl rfl agI rfl rfl) ?_
  refine TL.vsplit rfl rfl rfl (gives_bin rfl rfl rfl (fun w => bin_lss w)) (fun h36 => ?_) (fun h36 => ?_)
  iterate 6 (first | refine TL.off rfl rfl rfl rfl rfl rfl ?_ | refine TL.val rfl rfl rfl (gives_move rfl rfl) ?_ | refine TL.val rfl rfl rfl (gives_pick rfl rfl rfl) ?_ | refine TL.val rfl rfl rfl (gives_assign rfl rfl) ?_)
  refine TL.end_ (TX.then_ (TC.condT rfl (TC.seq_ (TC.region ?_))))
  refine TL.val rfl rfl rfl (gives_assign rfl rfl) ?_
  refine TL.end_ (TX.then_ (TC.ret_ (TX.in_ret (TX.then_ret ?_))))
  refine ret_tmp Tryz.results120 rfl (fun w1 hw => ⟨congrArg (fun x => Ending.returned (.int .i64 x)) ?_, hw.bel⟩)
  rotate_left
  refine TL.val rfl rfl rfl (gives_move rfl rfl) ?_
  refine TL.on rfl rfl rfl ?_
  refine TL.val rfl rfl rfl (gives_field rfl rfl (fun w => fR7 _ w)) ?_
  refine TL.on rfl rfl rfl ?_
  refine TL.val rfl rfl rfl (pm_load (k := 1) rfl rfl agI rfl rfl) ?_
  refine TL.on rfl rfl rfl ?_
  refine TL.vsplit rfl rfl rfl (gives_bin rfl rfl rfl (fun w => bin_gtr w)) (fun h40 => ?_) (fun h40 => ?_)
  refine TL.val rfl rfl rfl (gives_pick rfl rfl rfl) ?_
  refine TL.val rfl rfl rfl (gives_assign rfl rfl) ?_
  refine TL.end_ (TX.then_ (TC.condT rfl (TC.seq_ (TC.region ?_))))
  refine TL.val rfl rfl rfl (gives_assign rfl rfl) ?_
  refine TL.end_ (TX.then_ (TC.ret_ (TX.in_ret (TX.then_ret ?_))))
  refine ret_tmp Tryz.results120 rfl (fun w1 hw => ⟨congrArg (fun x => Ending.returned (.int .i64 x)) ?_, hw.bel⟩)
  rotate_left
  refine TL.val rfl rfl rfl (gives_pick rfl rfl rfl) ?_
  refine TL.val rfl rfl rfl (gives_assign rfl rfl) ?_
  refine TL.end_ (TX.then_ (TC.condF rfl ?_))
  refine TC.join (α := {b : Bool // decide (proto ≠ 1 ∧ proto ≠ 6 ∧ proto ≠ 17) = b}) (fun x => [(1, .pointer (some ⟨g1, 0, none⟩)), (3, .pointer (some ⟨g3, 0, none⟩)), (42, .bool x.1)]) (fun x => Pm w [.blk g3 63 [.int .u32 src, .int .i64 kind, .int .i64 code, .int .i64 left, .int .i64 id, .int .i64 quo], .blk g1 65 [.int .i64 v, .int .i64 run, .int .i64 num, .int .i64 at_, .int .u32 dst, .int .i64 proto, .int .i64 flow, .int .i64 ttl, .bool true, .bool true, .int .i64 back, .int .u32 src, .int .i64 kind, .int .i64 code, .int .i64 left, .int .i64 id, .int .i64 quo]]) ?_ ?_
  refine TC.region ?_
  refine TL.val rfl rfl rfl (gives_field rfl rfl (fun w => fR5 _ w)) ?_
  refine TL.val rfl rfl rfl (pm_load (k := 1) rfl rfl agI rfl rfl) ?_
  refine TL.vsplit rfl rfl rfl (gives_bin rfl rfl rfl (fun w => bin_neq w)) (fun h45 => ?_) (fun h45 => ?_)
  refine TL.val rfl rfl rfl (gives_move rfl rfl) ?_
  refine TL.on rfl rfl rfl ?_
  refine TL.val rfl rfl rfl (gives_field rfl rfl (fun w => fR5 _ w)) ?_
  refine TL.on rfl rfl rfl ?_
  refine TL.val rfl rfl rfl (pm_load (k := 1) rfl rfl agI rfl rfl) ?_
  refine TL.on rfl rfl rfl ?_
  refine TL.vsplit rfl rfl rfl (gives_bin rfl rfl rfl (fun w => bin_neq w)) (fun h49 => ?_) (fun h49 => ?_)
  refine TL.val rfl rfl rfl (gives_pick rfl rfl rfl) ?_
  refine TL.val rfl rfl rfl (gives_move rfl rfl) ?_
  refine TL.on rfl rfl rfl ?_
  refine TL.val rfl rfl rfl (gives_field rfl rfl (fun w => fR5 _ w)) ?_
  refine TL.on rfl rfl rfl ?_
  refine TL.val rfl rfl rfl (pm_load (k := 1) rfl rfl agI rfl rfl) ?_
  refine TL.on rfl rfl rfl ?_
  refine TL.vsplit rfl rfl rfl (gives_bin rfl rfl rfl (fun w => bin_neq w)) (fun h54 => ?_) (fun h54 => ?_)
  refine TL.val rfl rfl rfl (gives_pick rfl rfl rfl) ?_
  refine TL.val rfl rfl rfl (gives_assign rfl rfl) ?_
  refine TL.end_ ?_
  exact TX.joined (⟨true, by simp only [decide_eq_true_eq, decide_eq_false_iff_not] at *; first | omega | (apply decide_eq_true; omega) | (apply decide_eq_false; omega)⟩) (⟨rfl, rfl, rfl, trivial⟩) (fun w hw => hw)
  refine TL.val rfl rfl rfl (gives_pick rfl rfl rfl) ?_
  refine TL.val rfl rfl rfl (gives_assign rfl rfl) ?_
  refine TL.end_ ?_
  exact TX.joined (⟨false, by simp only [decide_eq_true_eq, decide_eq_false_iff_not] at *; first | omega | (apply decide_eq_true; omega) | (apply decide_eq_false; omega)⟩) (⟨rfl, rfl, rfl, trivial⟩) (fun w hw => hw)
  iterate 7 (first | refine TL.off rfl rfl rfl rfl rfl rfl ?_ | refine TL.val rfl rfl rfl (gives_pick rfl rfl rfl) ?_ | refine TL.val rfl rfl rfl (gives_move rfl rfl) ?_ | refine TL.val rfl rfl rfl (gives_assign rfl rfl) ?_)
  refine TL.end_ ?_
  exact TX.joined (⟨false, by simp only [decide_eq_true_eq, decide_eq_false_iff_not] at *; first | omega | (apply decide_eq_true; omega) | (apply decide_eq_false; omega)⟩) (⟨rfl, rfl, rfl, trivial⟩) (fun w hw => hw)
  iterate 11 (first | refine TL.off rfl rfl rfl rfl rfl rfl ?_ | refine TL.val rfl rfl rfl (gives_move rfl rfl) ?_ | refine TL.val rfl rfl rfl (gives_pick rfl rfl rfl) ?_ | refine TL.val rfl rfl rfl (gives_assign rfl rfl) ?_)
  refine TL.end_ ?_
  exact TX.joined (⟨false, by simp only [decide_eq_true_eq, decide_eq_false_iff_not] at *; first | omega | (apply decide_eq_true; omega) | (apply decide_eq_false; omega)⟩) (⟨rfl, rfl, rfl, trivial⟩) (fun w hw => hw)
  rintro ⟨b, hb⟩
  dsimp only
  cases b
  refine TC.condF rfl (TC.seq_ (TC.seq_ (TC.region ?_)))
  refine TL.val rfl rfl rfl (gives_field rfl rfl (fun w => fR9 _ w)) ?_
  refine TL.val rfl rfl rfl (pm_load (k := 1) rfl rfl agB rfl rfl) ?_
  refine TL.val rfl rfl rfl (gives_move rfl rfl) ?_
  refine TL.on rfl rfl rfl ?_
  refine TL.val rfl rfl rfl (gives_field rfl rfl (fun w => fR8 _ w)) ?_
  refine TL.on rfl rfl rfl ?_
  refine TL.val rfl rfl rfl (pm_load (k := 1) rfl rfl agB rfl rfl) ?_
  refine TL.on rfl rfl rfl ?_
  refine TL.val rfl rfl rfl (gives_boolnot rfl rfl) ?_
  refine TL.val rfl rfl rfl (gives_pick rfl rfl rfl) ?_
  refine TL.val rfl rfl rfl (gives_assign rfl rfl) ?_
  refine TL.end_ (TX.then_ (TC.condF rfl (TC.region ?_)))
  refine TL.val rfl rfl rfl (gives_field rfl rfl (fun w => fR8 _ w)) ?_
  refine TL.val rfl rfl rfl (pm_load (k := 1) rfl rfl agB rfl rfl) ?_
  iterate 7 (first | refine TL.off rfl rfl rfl rfl rfl rfl ?_ | refine TL.val rfl rfl rfl (gives_move rfl rfl) ?_ | refine TL.val rfl rfl rfl (gives_pick rfl rfl rfl) ?_ | refine TL.val rfl rfl rfl (gives_assign rfl rfl) ?_ | refine TL.val rfl rfl rfl (gives_boolnot rfl rfl) ?_)
  refine TL.end_ (TX.then_ (TC.condF rfl (TC.seq_ (TC.region ?_))))
  refine TL.val rfl rfl rfl (gives_field rfl rfl (fun w => fR8 _ w)) ?_
  refine TL.val rfl rfl rfl (pm_load (k := 1) rfl rfl agB rfl rfl) ?_
  refine TL.val rfl rfl rfl (gives_move rfl rfl) ?_
  refine TL.on rfl rfl rfl ?_
  refine TL.val rfl rfl rfl (gives_field rfl rfl (fun w => fA1 _ w)) ?_
  refine TL.on rfl rfl rfl ?_
  refine TL.val rfl rfl rfl (pm_load (k := 0) rfl rfl agI rfl rfl) ?_
  refine TL.on rfl rfl rfl ?_
  refine TL.vsplit rfl rfl rfl (gives_bin rfl rfl rfl (fun w => bin_lss w)) (fun h78 => ?_) (fun h78 => ?_)
  iterate 41 (first | refine TL.off rfl rfl rfl rfl rfl rfl ?_ | refine TL.on rfl rfl rfl ?_ | refine TL.val rfl rfl rfl (gives_pick rfl rfl rfl) ?_ | refine TL.val rfl rfl rfl (gives_move rfl rfl) ?_ | refine TL.val rfl rfl rfl (gives_assign rfl rfl) ?_)
  refine TL.end_ (TX.then_ (TC.condT rfl (TC.seq_ (TC.region ?_))))
  refine TL.val rfl rfl rfl (gives_assign rfl rfl) ?_
  refine TL.end_ (TX.then_ (TC.ret_ (TX.in_ret (TX.then_ret ?_))))
  refine ret_tmp Tryz.results120 rfl (fun w1 hw => ⟨congrArg (fun x => Ending.returned (.int .i64 x)) ?_, hw.bel⟩)
  rotate_left
  refine TL.on rfl rfl rfl ?_
  refine TL.val rfl rfl rfl (gives_move rfl rfl) ?_
  refine TL.on rfl rfl rfl ?_
  refine TL.val rfl rfl rfl (gives_field rfl rfl (fun w => fA1 _ w)) ?_
  refine TL.on rfl rfl rfl ?_
  refine TL.val rfl rfl rfl (pm_load (k := 0) rfl rfl agI rfl rfl) ?_
  refine TL.on rfl rfl rfl ?_
  refine TL.vsplit rfl rfl rfl (gives_bin rfl rfl rfl (fun w => bin_gtr w)) (fun h82 => ?_) (fun h82 => ?_)
  iterate 36 (first | refine TL.off rfl rfl rfl rfl rfl rfl ?_ | refine TL.on rfl rfl rfl ?_ | refine TL.val rfl rfl rfl (gives_pick rfl rfl rfl) ?_ | refine TL.val rfl rfl rfl (gives_move rfl rfl) ?_ | refine TL.val rfl rfl rfl (gives_assign rfl rfl) ?_)
  refine TL.end_ (TX.then_ (TC.condT rfl (TC.seq_ (TC.region ?_))))
  refine TL.val rfl rfl rfl (gives_assign rfl rfl) ?_
  refine TL.end_ (TX.then_ (TC.ret_ (TX.in_ret (TX.then_ret ?_))))
  refine ret_tmp Tryz.results120 rfl (fun w1 hw => ⟨congrArg (fun x => Ending.returned (.int .i64 x)) ?_, hw.bel⟩)
  rotate_left
  iterate 5 (first | refine TL.on rfl rfl rfl ?_ | refine TL.val rfl rfl rfl (gives_move rfl rfl) ?_ | refine TL.val rfl rfl rfl (gives_pick rfl rfl rfl) ?_)
  refine TL.val rfl rfl rfl (gives_field rfl rfl (fun w => fA2 _ w)) ?_
  refine TL.on rfl rfl rfl ?_
  refine TL.val rfl rfl rfl (pm_load (k := 0) rfl rfl agI rfl rfl) ?_
  refine TL.on rfl rfl rfl ?_
  refine TL.callsplit rfl rfl rfl rfl rfl Tryz.func157 nmWithin bdWithin (fun w1 hw => within_any (code) (255) w1) (fun h87 => ?_) (fun h87 => ?_)
  iterate 7 (first | refine TL.on rfl rfl rfl ?_ | refine TL.val rfl rfl rfl (gives_move rfl rfl) ?_ | refine TL.val rfl rfl rfl (gives_pick rfl rfl rfl) ?_ | refine TL.val rfl rfl rfl (gives_boolnot rfl rfl) ?_)
  refine TL.val rfl rfl rfl (gives_field rfl rfl (fun w => fA3 _ w)) ?_
  refine TL.on rfl rfl rfl ?_
  refine TL.val rfl rfl rfl (pm_load (k := 0) rfl rfl agI rfl rfl) ?_
  refine TL.on rfl rfl rfl ?_
  refine TL.callsplit rfl rfl rfl rfl rfl Tryz.func157 nmWithin bdWithin (fun w1 hw => within_any (left) (255) w1) (fun h93 => ?_) (fun h93 => ?_)
  iterate 7 (first | refine TL.on rfl rfl rfl ?_ | refine TL.val rfl rfl rfl (gives_move rfl rfl) ?_ | refine TL.val rfl rfl rfl (gives_pick rfl rfl rfl) ?_ | refine TL.val rfl rfl rfl (gives_boolnot rfl rfl) ?_)
  refine TL.val rfl rfl rfl (gives_field rfl rfl (fun w => fA5 _ w)) ?_
  refine TL.on rfl rfl rfl ?_
  refine TL.val rfl rfl rfl (pm_load (k := 0) rfl rfl agI rfl rfl) ?_
  refine TL.on rfl rfl rfl ?_
  refine TL.callsplit rfl rfl rfl rfl rfl Tryz.func157 nmWithin bdWithin (fun w1 hw => within_any (quo) (255) w1) (fun h99 => ?_) (fun h99 => ?_)
  iterate 7 (first | refine TL.on rfl rfl rfl ?_ | refine TL.val rfl rfl rfl (gives_move rfl rfl) ?_ | refine TL.val rfl rfl rfl (gives_pick rfl rfl rfl) ?_ | refine TL.val rfl rfl rfl (gives_boolnot rfl rfl) ?_)
  refine TL.val rfl rfl rfl (gives_field rfl rfl (fun w => fA4 _ w)) ?_
  refine TL.on rfl rfl rfl ?_
  refine TL.val rfl rfl rfl (pm_load (k := 0) rfl rfl agI rfl rfl) ?_
  refine TL.on rfl rfl rfl ?_
  refine TL.callsplit rfl rfl rfl rfl rfl Tryz.func157 nmWithin bdWithin (fun w1 hw => within_any (id) (65535) w1) (fun h105 => ?_) (fun h105 => ?_)
  iterate 6 (first | refine TL.on rfl rfl rfl ?_ | refine TL.val rfl rfl rfl (gives_pick rfl rfl rfl) ?_ | refine TL.val rfl rfl rfl (gives_assign rfl rfl) ?_ | refine TL.val rfl rfl rfl (gives_boolnot rfl rfl) ?_)
  refine TL.end_ (TX.then_ (TC.condF rfl (TC.skip_ (TX.in_normal (TX.then_ (TC.seq_ (TC.region ?_)))))))
  refine TL.val rfl rfl rfl (gives_assign rfl rfl) ?_
  refine TL.end_ (TX.then_ (TC.ret_ ?_))
  refine ret_tmp Tryz.results120 rfl (fun w1 hw => ⟨congrArg (fun x => Ending.returned (.int .i64 x)) ?_, hw.bel⟩)
  rotate_left
  iterate 6 (first | refine TL.on rfl rfl rfl ?_ | refine TL.val rfl rfl rfl (gives_pick rfl rfl rfl) ?_ | refine TL.val rfl rfl rfl (gives_assign rfl rfl) ?_ | refine TL.val rfl rfl rfl (gives_boolnot rfl rfl) ?_)
  refine TL.end_ (TX.then_ (TC.condT rfl (TC.seq_ (TC.region ?_))))
  refine TL.val rfl rfl rfl (gives_assign rfl rfl) ?_
  refine TL.end_ (TX.then_ (TC.ret_ (TX.in_ret (TX.then_ret ?_))))
  refine ret_tmp Tryz.results120 rfl (fun w1 hw => ⟨congrArg (fun x => Ending.returned (.int .i64 x)) ?_, hw.bel⟩)
  rotate_left
  iterate 14 (first | refine TL.off rfl rfl rfl rfl rfl rfl ?_ | refine TL.on rfl rfl rfl ?_ | refine TL.val rfl rfl rfl (gives_pick rfl rfl rfl) ?_ | refine TL.val rfl rfl rfl (gives_move rfl rfl) ?_ | refine TL.val rfl rfl rfl (gives_assign rfl rfl) ?_ | refine TL.val rfl rfl rfl (gives_boolnot rfl rfl) ?_)
  refine TL.end_ (TX.then_ (TC.condT rfl (TC.seq_ (TC.region ?_))))
  refine TL.val rfl rfl rfl (gives_assign rfl rfl) ?_
  refine TL.end_ (TX.then_ (TC.ret_ (TX.in_ret (TX.then_ret ?_))))
  refine ret_tmp Tryz.results120 rfl (fun w1 hw => ⟨congrArg (fun x => Ending.returned (.int .i64 x)) ?_, hw.bel⟩)
  rotate_left
  iterate 22 (first | refine TL.off rfl rfl rfl rfl rfl rfl ?_ | refine TL.on rfl rfl rfl ?_ | refine TL.val rfl rfl rfl (gives_pick rfl rfl rfl) ?_ | refine TL.val rfl rfl rfl (gives_move rfl rfl) ?_ | refine TL.val rfl rfl rfl (gives_assign rfl rfl) ?_ | refine TL.val rfl rfl rfl (gives_boolnot rfl rfl) ?_)
  refine TL.end_ (TX.then_ (TC.condT rfl (TC.seq_ (TC.region ?_))))
  refine TL.val rfl rfl rfl (gives_assign rfl rfl) ?_
  refine TL.end_ (TX.then_ (TC.ret_ (TX.in_ret (TX.then_ret ?_))))
  refine ret_tmp Tryz.results120 rfl (fun w1 hw => ⟨congrArg (fun x => Ending.returned (.int .i64 x)) ?_, hw.bel⟩)
  rotate_left
  iterate 30 (first | refine TL.off rfl rfl rfl rfl rfl rfl ?_ | refine TL.on rfl rfl rfl ?_ | refine TL.val rfl rfl rfl (gives_pick rfl rfl rfl) ?_ | refine TL.val rfl rfl rfl (gives_move rfl rfl) ?_ | refine TL.val rfl rfl rfl (gives_assign rfl rfl) ?_ | refine TL.val rfl rfl rfl (gives_boolnot rfl rfl) ?_)
  refine TL.end_ (TX.then_ (TC.condT rfl (TC.seq_ (TC.region ?_))))
  refine TL.val rfl rfl rfl (gives_assign rfl rfl) ?_
  refine TL.end_ (TX.then_ (TC.ret_ (TX.in_ret (TX.then_ret ?_))))
  refine ret_tmp Tryz.results120 rfl (fun w1 hw => ⟨congrArg (fun x => Ending.returned (.int .i64 x)) ?_, hw.bel⟩)
  rotate_left
  refine TC.condT rfl (TC.seq_ (TC.region ?_))
  refine TL.val rfl rfl rfl (gives_assign rfl rfl) ?_
  refine TL.end_ (TX.then_ (TC.ret_ (TX.in_ret (TX.then_ret ?_))))
  refine ret_tmp Tryz.results120 rfl (fun w1 hw => ⟨congrArg (fun x => Ending.returned (.int .i64 x)) ?_, hw.bel⟩)
  rotate_left
  refine TL.val rfl rfl rfl (gives_boolnot rfl rfl) ?_
  refine TL.val rfl rfl rfl (gives_assign rfl rfl) ?_
  refine TL.end_ (TX.then_ (TC.condT rfl (TC.skip_ (TX.then_ (TC.condT rfl (TC.seq_ (TC.region ?_)))))))
  refine TL.val rfl rfl rfl (gives_assign rfl rfl) ?_
  refine TL.end_ (TX.then_ (TC.ret_ (TX.in_ret (TX.then_ret ?_))))
  refine ret_tmp Tryz.results120 rfl (fun w1 hw => ⟨congrArg (fun x => Ending.returned (.int .i64 x)) ?_, hw.bel⟩)
  rotate_left
  refine TL.val rfl rfl rfl (gives_boolnot rfl rfl) ?_
  refine TL.val rfl rfl rfl (gives_assign rfl rfl) ?_
  refine TL.end_ (TX.then_ (TC.condT rfl (TC.skip_ (TX.then_ (TC.condT rfl (TC.seq_ (TC.region ?_)))))))
  refine TL.val rfl rfl rfl (gives_assign rfl rfl) ?_
  refine TL.end_ (TX.then_ (TC.ret_ (TX.in_ret (TX.then_ret ?_))))
  refine ret_tmp Tryz.results120 rfl (fun w1 hw => ⟨congrArg (fun x => Ending.returned (.int .i64 x)) ?_, hw.bel⟩)
  rotate_left
  refine TL.val rfl rfl rfl (gives_boolnot rfl rfl) ?_
  refine TL.val rfl rfl rfl (gives_assign rfl rfl) ?_
  refine TL.end_ (TX.then_ (TC.condT rfl (TC.skip_ (TX.then_ (TC.condT rfl (TC.seq_ (TC.region ?_)))))))
  refine TL.val rfl rfl rfl (gives_assign rfl rfl) ?_
  refine TL.end_ (TX.then_ (TC.ret_ (TX.in_ret (TX.then_ret ?_))))
  refine ret_tmp Tryz.results120 rfl (fun w1 hw => ⟨congrArg (fun x => Ending.returned (.int .i64 x)) ?_, hw.bel⟩)
  rotate_left
  refine TL.val rfl rfl rfl (gives_boolnot rfl rfl) ?_
  refine TL.val rfl rfl rfl (gives_assign rfl rfl) ?_
  refine TL.end_ (TX.then_ (TC.condT rfl (TC.skip_ (TX.then_ (TC.condT rfl (TC.seq_ (TC.region ?_)))))))
  refine TL.val rfl rfl rfl (gives_assign rfl rfl) ?_
  refine TL.end_ (TX.then_ (TC.ret_ (TX.in_ret (TX.then_ret ?_))))
  refine ret_tmp Tryz.results120 rfl (fun w1 hw => ⟨congrArg (fun x => Ending.returned (.int .i64 x)) ?_, hw.bel⟩)
  rotate_left
  refine TL.val rfl rfl rfl (gives_boolnot rfl rfl) ?_
  refine TL.val rfl rfl rfl (gives_assign rfl rfl) ?_
  refine TL.end_ (TX.then_ (TC.condT rfl (TC.skip_ (TX.then_ (TC.condT rfl (TC.seq_ (TC.region ?_)))))))
  refine TL.val rfl rfl rfl (gives_assign rfl rfl) ?_
  refine TL.end_ (TX.then_ (TC.ret_ (TX.in_ret (TX.then_ret ?_))))
  refine ret_tmp Tryz.results120 rfl (fun w1 hw => ⟨congrArg (fun x => Ending.returned (.int .i64 x)) ?_, hw.bel⟩)
  rotate_left
  all_goals (simp only [decide_eq_true_eq, decide_eq_false_iff_not] at *; first | exact chk_range (by unfold Rs.inRange; dsimp only; omega) | exact chk_ans rfl (by unfold Rs.inRange; dsimp only; omega) (by dsimp only; omega) (by unfold Rs.ansOk; dsimp only; omega) | (simp only [chkR, Rs.inRange, Rs.ansOk, Rs.noAns]; (try split) <;> (try split) <;> (try split) <;> (try split) <;> first | rfl | omega | (simp_all; done) | (simp_all; omega)))
theorem check_any (r : Rs) (w : World) :
    Calls Tryz.prog 120 #[.agg r.cells.toArray] w fun e w' => e = .returned (.int .i64 (chkR r)) ∧ Below w.heap.size w w' := by
  obtain ⟨v, run, num, at_, dst, proto, flow, ttl, ans, dbl, back, src, kind, code, left, id, quo⟩ := r
  cases ans <;> cases dbl
  · exact check_any_ff v run num at_ dst proto flow ttl back src kind code left id quo w
  · exact check_any_ft v run num at_ dst proto flow ttl back src kind code left id quo w
  · exact check_any_tf v run num at_ dst proto flow ttl back src kind code left id quo w
  · exact check_any_tt v run num at_ dst proto flow ttl back src kind code left id quo w
end Go.Proofs.YtijmpjfafpodhaaGreat

namespace Go.Proofs.YtijmpjfafpodhaaGreat
open Go.RowKit
set_option maxRecDepth 20000
end Go.Proofs.YtijmpjfafpodhaaGreat

namespace Go.Proofs.YtijmpjfafpodhaaGreat
open Go.RowKit
set_option maxRecDepth 20000
theorem rs_cel : Cel Rs.cells 17 := ⟨fun _ => rfl, fun x u hu => by
  simp only [Rs.cells, List.mem_cons, List.not_mem_nil, or_false] at hu
  rcases hu with rfl | rfl | rfl | rfl | rfl | rfl | rfl | rfl | rfl | rfl | rfl | rfl | rfl | rfl | rfl | rfl | rfl <;> rfl⟩
def vldRs (r : Rs) : Bool := decide (chkR r = 0) && decide (r.dst ≠ 0) && (!r.ans || decide (r.src ≠ 0))
def usbRs (r : Rs) : Bool := !r.dbl && vldRs r
def finRs (r : Rs) : Bool := r.ans && decide (r.kind ≠ 1) && usbRs r
def b2i (b : Bool) : Int := if b then 1 else 0
def Rs.keys (a : Rs) : List Int := [a.at_, a.v, a.run, a.num, IntKind.i64.wrap a.dst, a.proto, a.flow, a.ttl, b2i a.ans, b2i a.dbl, a.back, IntKind.i64.wrap a.src, a.kind, a.code, a.left, a.id, a.quo]
def cmpRs (a b : Rs) : Int := lexI a.keys b.keys
def pairsR (a b : Rs) : List (Int × Int) := [(a.at_, b.at_), (a.v, b.v), (a.run, b.run), (a.num, b.num), (IntKind.i64.wrap a.dst, IntKind.i64.wrap b.dst), (a.proto, b.proto), (a.flow, b.flow), (a.ttl, b.ttl), (b2i a.ans, b2i b.ans), (b2i a.dbl, b2i b.dbl), (a.back, b.back), (IntKind.i64.wrap a.src, IntKind.i64.wrap b.src), (a.kind, b.kind), (a.code, b.code), (a.left, b.left), (a.id, b.id), (a.quo, b.quo)]
def orP (l : List (Int × Int)) : Int := orI (l.map fun p => cmpI p.1 p.2)
theorem orP_cons (p : Int × Int) (l : List (Int × Int)) : orP (p :: l) = if cmpI p.1 p.2 = 0 then orP l else cmpI p.1 p.2 := rfl
theorem cmpRs_pairs (a b : Rs) : cmpRs a b = orP (pairsR a b) := rfl
def trcR (r : Rs) : Trc := ⟨r.v, r.dst, r.proto⟩
theorem prsag120 (w : World) : (isAgg 120).run Tryz.prog w = .ok true w := rfl
theorem prssz120 (w : World) : (sizeOf 120).run Tryz.prog w = .ok 2 w := rfl
theorem prsag65 (w : World) : (isAgg 65).run Tryz.prog w = .ok true w := rfl
theorem prssz65 (w : World) : (sizeOf 65).run Tryz.prog w = .ok 17 w := rfl
theorem prsnm120 : (Tryz.f120.name == "runtime.NumGoroutine") = false := by decide
theorem prsbd120 : Tryz.f120.body.isNone = false := rfl
theorem prsfld65_4 (g o : Nat) (w : World) : (Instr.fieldAt 65 (.pointer (some ⟨g, o, none⟩)) 4).run Tryz.prog w = .ok (.pointer (some ⟨g, o + 4, none⟩)) w := by kernel_rfl
theorem prsfld65_8 (g o : Nat) (w : World) : (Instr.fieldAt 65 (.pointer (some ⟨g, o, none⟩)) 8).run Tryz.prog w = .ok (.pointer (some ⟨g, o + 8, none⟩)) w := by kernel_rfl
theorem prsag4 (w : World) : (isAgg 4).run Tryz.prog w = .ok false w := rfl
theorem prsfld65_11 (g o : Nat) (w : World) : (Instr.fieldAt 65 (.pointer (some ⟨g, o, none⟩)) 11).run Tryz.prog w = .ok (.pointer (some ⟨g, o + 11, none⟩)) w := by kernel_rfl
theorem prsfld63_0 (g o : Nat) (w : World) : (Instr.fieldAt 63 (.pointer (some ⟨g, o, none⟩)) 0).run Tryz.prog w = .ok (.pointer (some ⟨g, o + 0, none⟩)) w := by kernel_rfl
theorem prsfld65_9 (g o : Nat) (w : World) : (Instr.fieldAt 65 (.pointer (some ⟨g, o, none⟩)) 9).run Tryz.prog w = .ok (.pointer (some ⟨g, o + 9, none⟩)) w := by kernel_rfl
theorem prsnm70 : (Tryz.f70.name == "runtime.NumGoroutine") = false := by decide
theorem prsbd70 : Tryz.f70.body.isNone = false := rfl
theorem prsfld63_1 (g o : Nat) (w : World) : (Instr.fieldAt 63 (.pointer (some ⟨g, o, none⟩)) 1).run Tryz.prog w = .ok (.pointer (some ⟨g, o + 1, none⟩)) w := by kernel_rfl
theorem prsnm91 : (Tryz.f91.name == "runtime.NumGoroutine") = false := by decide
theorem prsbd91 : Tryz.f91.body.isNone = false := rfl
theorem prsfld65_3 (g o : Nat) (w : World) : (Instr.fieldAt 65 (.pointer (some ⟨g, o, none⟩)) 3).run Tryz.prog w = .ok (.pointer (some ⟨g, o + 3, none⟩)) w := by kernel_rfl
theorem prsbld120_29156 (a0_0 : Int) (a1_0 : Int) (w : World) : (Instr.build 120 #[(0, .int .i64 a0_0), (1, .int .i64 a1_0)]).run Tryz.prog w = .ok (.agg #[.int .i64 a0_0, .int .i64 a1_0]) w := by kernel_rfl
theorem prsfld65_0 (g o : Nat) (w : World) : (Instr.fieldAt 65 (.pointer (some ⟨g, o, none⟩)) 0).run Tryz.prog w = .ok (.pointer (some ⟨g, o + 0, none⟩)) w := by kernel_rfl
theorem prsfld65_1 (g o : Nat) (w : World) : (Instr.fieldAt 65 (.pointer (some ⟨g, o, none⟩)) 1).run Tryz.prog w = .ok (.pointer (some ⟨g, o + 1, none⟩)) w := by kernel_rfl
theorem prsfld65_2 (g o : Nat) (w : World) : (Instr.fieldAt 65 (.pointer (some ⟨g, o, none⟩)) 2).run Tryz.prog w = .ok (.pointer (some ⟨g, o + 2, none⟩)) w := by kernel_rfl
theorem prsfld65_5 (g o : Nat) (w : World) : (Instr.fieldAt 65 (.pointer (some ⟨g, o, none⟩)) 5).run Tryz.prog w = .ok (.pointer (some ⟨g, o + 5, none⟩)) w := by kernel_rfl
theorem prsfld65_6 (g o : Nat) (w : World) : (Instr.fieldAt 65 (.pointer (some ⟨g, o, none⟩)) 6).run Tryz.prog w = .ok (.pointer (some ⟨g, o + 6, none⟩)) w := by kernel_rfl
theorem prsfld65_7 (g o : Nat) (w : World) : (Instr.fieldAt 65 (.pointer (some ⟨g, o, none⟩)) 7).run Tryz.prog w = .ok (.pointer (some ⟨g, o + 7, none⟩)) w := by kernel_rfl
theorem prsnm165 : (Tryz.f165.name == "runtime.NumGoroutine") = false := by decide
theorem prsbd165 : Tryz.f165.body.isNone = false := rfl
theorem prsfld65_10 (g o : Nat) (w : World) : (Instr.fieldAt 65 (.pointer (some ⟨g, o, none⟩)) 10).run Tryz.prog w = .ok (.pointer (some ⟨g, o + 10, none⟩)) w := by kernel_rfl
theorem prsfld63_2 (g o : Nat) (w : World) : (Instr.fieldAt 63 (.pointer (some ⟨g, o, none⟩)) 2).run Tryz.prog w = .ok (.pointer (some ⟨g, o + 2, none⟩)) w := by kernel_rfl
theorem prsfld63_3 (g o : Nat) (w : World) : (Instr.fieldAt 63 (.pointer (some ⟨g, o, none⟩)) 3).run Tryz.prog w = .ok (.pointer (some ⟨g, o + 3, none⟩)) w := by kernel_rfl
theorem prsfld63_4 (g o : Nat) (w : World) : (Instr.fieldAt 63 (.pointer (some ⟨g, o, none⟩)) 4).run Tryz.prog w = .ok (.pointer (some ⟨g, o + 4, none⟩)) w := by kernel_rfl
theorem prsfld63_5 (g o : Nat) (w : World) : (Instr.fieldAt 63 (.pointer (some ⟨g, o, none⟩)) 5).run Tryz.prog w = .ok (.pointer (some ⟨g, o + 5, none⟩)) w := by kernel_rfl
theorem prsbld188_59264 (a0_0 : Int) (a0_1 : Int) (a1_0 : Int) (a1_1 : Int) (a2_0 : Int) (a2_1 : Int) (a3_0 : Int) (a3_1 : Int) (a4_0 : Int) (a4_1 : Int) (a5_0 : Int) (a5_1 : Int) (a6_0 : Int) (a6_1 : Int) (a7_0 : Int) (a7_1 : Int) (a8_0 : Int) (a8_1 : Int) (a9_0 : Int) (a9_1 : Int) (a10_0 : Int) (a10_1 : Int) (a11_0 : Int) (a11_1 : Int) (a12_0 : Int) (a12_1 : Int) (a13_0 : Int) (a13_1 : Int) (a14_0 : Int) (a14_1 : Int) (a15_0 : Int) (a15_1 : Int) (a16_0 : Int) (a16_1 : Int) (w : World) : (Instr.build 188 #[(0, .agg #[.int .i64 a0_0, .int .i64 a0_1]), (1, .agg #[.int .i64 a1_0, .int .i64 a1_1]), (2, .agg #[.int .i64 a2_0, .int .i64 a2_1]), (3, .agg #[.int .i64 a3_0, .int .i64 a3_1]), (4, .agg #[.int .i64 a4_0, .int .i64 a4_1]), (5, .agg #[.int .i64 a5_0, .int .i64 a5_1]), (6, .agg #[.int .i64 a6_0, .int .i64 a6_1]), (7, .agg #[.int .i64 a7_0, .int .i64 a7_1]), (8, .agg #[.int .i64 a8_0, .int .i64 a8_1]), (9, .agg #[.int .i64 a9_0, .int .i64 a9_1]), (10, .agg #[.int .i64 a10_0, .int .i64 a10_1]), (11, .agg #[.int .i64 a11_0, .int .i64 a11_1]), (12, .agg #[.int .i64 a12_0, .int .i64 a12_1]), (13, .agg #[.int .i64 a13_0, .int .i64 a13_1]), (14, .agg #[.int .i64 a14_0, .int .i64 a14_1]), (15, .agg #[.int .i64 a15_0, .int .i64 a15_1]), (16, .agg #[.int .i64 a16_0, .int .i64 a16_1])]).run Tryz.prog w = .ok (.agg #[.int .i64 a0_0, .int .i64 a0_1, .int .i64 a1_0, .int .i64 a1_1, .int .i64 a2_0, .int .i64 a2_1, .int .i64 a3_0, .int .i64 a3_1, .int .i64 a4_0, .int .i64 a4_1, .int .i64 a5_0, .int .i64 a5_1, .int .i64 a6_0, .int .i64 a6_1, .int .i64 a7_0, .int .i64 a7_1, .int .i64 a8_0, .int .i64 a8_1, .int .i64 a9_0, .int .i64 a9_1, .int .i64 a10_0, .int .i64 a10_1, .int .i64 a11_0, .int .i64 a11_1, .int .i64 a12_0, .int .i64 a12_1, .int .i64 a13_0, .int .i64 a13_1, .int .i64 a14_0, .int .i64 a14_1, .int .i64 a15_0, .int .i64 a15_1, .int .i64 a16_0, .int .i64 a16_1]) w := by kernel_rfl
theorem prszv188 (w : World) : (zeroValue 188).run Tryz.prog w = .ok (.agg #[.int .i64 0, .int .i64 0, .int .i64 0, .int .i64 0, .int .i64 0, .int .i64 0, .int .i64 0, .int .i64 0, .int .i64 0, .int .i64 0, .int .i64 0, .int .i64 0, .int .i64 0, .int .i64 0, .int .i64 0, .int .i64 0, .int .i64 0, .int .i64 0, .int .i64 0, .int .i64 0, .int .i64 0, .int .i64 0, .int .i64 0, .int .i64 0, .int .i64 0, .int .i64 0, .int .i64 0, .int .i64 0, .int .i64 0, .int .i64 0, .int .i64 0, .int .i64 0, .int .i64 0, .int .i64 0]) w := rfl
theorem prssz188 (w : World) : (sizeOf 188).run Tryz.prog w = .ok 34 w := rfl
theorem prsag188 (w : World) : (isAgg 188).run Tryz.prog w = .ok true w := rfl
theorem prszv120 (w : World) : (zeroValue 120).run Tryz.prog w = .ok (.agg #[.int .i64 0, .int .i64 0]) w := rfl
theorem prszv32 (w : World) : (zeroValue 32).run Tryz.prog w = .ok (.agg #[.int .i64 0, .int .u32 0, .int .i64 0]) w := rfl
theorem prsbld32_57312 (a0_0 : Int) (a1_0 : Int) (a2_0 : Int) (w : World) : (Instr.build 32 #[(0, .int .i64 a0_0), (1, .int .u32 a1_0), (2, .int .i64 a2_0)]).run Tryz.prog w = .ok (.agg #[.int .i64 a0_0, .int .u32 a1_0, .int .i64 a2_0]) w := by kernel_rfl
theorem prssz32 (w : World) : (sizeOf 32).run Tryz.prog w = .ok 3 w := rfl
theorem prsone_i64u32i64 {a0 : Int} {a1 : Int} {a2 : Int} : ∀ u ∈ [(.int .i64 a0 : Value), .int .u32 a1, .int .i64 a2], u.oneCell' = true := by
  intro u hu
  simp only [List.mem_cons, List.not_mem_nil, or_false] at hu
  rcases hu with rfl | rfl | rfl <;> rfl
set_option maxHeartbeats 1000000 in
theorem vldRs_any (r : Rs) (w : World) :
    Calls Tryz.prog 70 #[.agg r.cells.toArray] w fun e w' => e = .returned (.bool (vldRs r)) ∧ Below w.heap.size w w' := by
  refine begin_ (vs := [.agg r.cells.toArray]) Tryz.func70 rfl rfl rfl ?_ (Pm.start w)
  refine TC.seq_ ?_
  refine TC.region ?_
  refine TL.pnew rfl rfl rfl (exec_box (cs := r.cells) rfl rfl rfl) (fun g1 => ?_)
  refine TL.val rfl rfl rfl (gives_assign rfl rfl) ?_
  refine TL.end_ ?_
  refine TX.then_ ?_
  refine TC.seq_ ?_
  refine TC.region ?_
  refine TL.val rfl rfl rfl (pm_loadV (k := 0) (i := 0) (n := 17) (v := .agg (r.cells).toArray) rfl rfl prsag65 prssz65 rfl (by show 17 ≤ 17; decide) rfl) ?_
  refine TL.pcall1 (r := .int .i64 (chkR r)) rfl rfl rfl rfl rfl Tryz.func120 prsnm120 prsbd120 (fun w1 hw => check_any r w1) ?_
  refine TL.vsplit rfl rfl rfl (gives_bin rfl rfl rfl (fun w => bin_eql w)) (fun h5 => ?_) (fun h5 => ?_)
  · have q5 := of_decide_eq_true h5
    refine TL.val rfl rfl rfl (gives_move rfl rfl) ?_
    refine TL.on rfl rfl rfl ?_
    refine TL.val rfl rfl rfl (gives_field (v := .pointer (some ⟨g1, 4, none⟩)) rfl rfl (fun w => prsfld65_4 _ _ w)) ?_
    refine TL.on rfl rfl rfl ?_
    refine TL.val rfl rfl rfl (pm_load (k := 0) (i := 4) rfl rfl pcmag30 rfl rfl) ?_
    refine TL.on rfl rfl rfl ?_
    refine TL.vsplit rfl rfl rfl (gives_bin rfl rfl rfl (fun w => bin_neq w)) (fun h9 => ?_) (fun h9 => ?_)
    · have q9 := of_decide_eq_true h9
      refine TL.val rfl rfl rfl (gives_pick rfl rfl rfl) ?_
      refine TL.val rfl rfl rfl (gives_move rfl rfl) ?_
      refine TL.on rfl rfl rfl ?_
      refine TL.val rfl rfl rfl (gives_field (v := .pointer (some ⟨g1, 8, none⟩)) rfl rfl (fun w => prsfld65_8 _ _ w)) ?_
      refine TL.on rfl rfl rfl ?_
      refine TL.vsplit rfl rfl rfl (pm_load (k := 0) (i := 8) rfl rfl prsag4 rfl rfl) (fun h13 => ?_) (fun h13 => ?_)
      · refine TL.on rfl rfl rfl ?_
        refine TL.val rfl rfl rfl (gives_boolnot rfl rfl) ?_
        refine TL.on rfl rfl rfl ?_
        refine TL.val rfl rfl rfl (gives_move rfl rfl) ?_
        refine TL.on rfl rfl rfl ?_
        refine TL.val rfl rfl rfl (gives_field (v := .pointer (some ⟨g1, 11, none⟩)) rfl rfl (fun w => prsfld65_11 _ _ w)) ?_
        refine TL.on rfl rfl rfl ?_
        refine TL.val rfl rfl rfl (gives_field (v := .pointer (some ⟨g1, 11, none⟩)) rfl rfl (fun w => prsfld63_0 _ _ w)) ?_
        refine TL.on rfl rfl rfl ?_
        refine TL.val rfl rfl rfl (pm_load (k := 0) (i := 11) rfl rfl pcmag30 rfl rfl) ?_
        refine TL.on rfl rfl rfl ?_
        refine TL.vsplit rfl rfl rfl (gives_bin rfl rfl rfl (fun w => bin_neq w)) (fun h19 => ?_) (fun h19 => ?_)
        · have q19 := of_decide_eq_true h19
          refine TL.on rfl rfl rfl ?_
          refine TL.val rfl rfl rfl (gives_pick rfl rfl rfl) ?_
          refine TL.val rfl rfl rfl (gives_pick rfl rfl rfl) ?_
          refine TL.val rfl rfl rfl (gives_assign rfl rfl) ?_
          refine TL.end_ ?_
          refine TX.then_ ?_
          refine TC.ret_ ?_
          have hE : (vldRs r) = true := (by simp [vldRs, q5, q9, h13, q19])
          exact ret_tmp Tryz.results70 rfl (fun w1 hw => ⟨by rw [hE]; try rfl, hw.bel⟩)
        · have q19 := of_decide_eq_false h19
          refine TL.on rfl rfl rfl ?_
          refine TL.val rfl rfl rfl (gives_pick rfl rfl rfl) ?_
          refine TL.val rfl rfl rfl (gives_pick rfl rfl rfl) ?_
          refine TL.val rfl rfl rfl (gives_assign rfl rfl) ?_
          refine TL.end_ ?_
          refine TX.then_ ?_
          refine TC.ret_ ?_
          have hE : (vldRs r) = false := (by simp [vldRs, q5, q9, h13, q19])
          exact ret_tmp Tryz.results70 rfl (fun w1 hw => ⟨by rw [hE]; try rfl, hw.bel⟩)
      · refine TL.on rfl rfl rfl ?_
        refine TL.val rfl rfl rfl (gives_boolnot rfl rfl) ?_
        refine TL.on rfl rfl rfl ?_
        refine TL.val rfl rfl rfl (gives_move rfl rfl) ?_
        refine TL.off rfl rfl rfl rfl rfl rfl ?_
        refine TL.off rfl rfl rfl rfl rfl rfl ?_
        refine TL.off rfl rfl rfl rfl rfl rfl ?_
        refine TL.off rfl rfl rfl rfl rfl rfl ?_
        refine TL.on rfl rfl rfl ?_
        refine TL.val rfl rfl rfl (gives_pick rfl rfl rfl) ?_
        refine TL.val rfl rfl rfl (gives_pick rfl rfl rfl) ?_
        refine TL.val rfl rfl rfl (gives_assign rfl rfl) ?_
        refine TL.end_ ?_
        refine TX.then_ ?_
        refine TC.ret_ ?_
        have hE : (vldRs r) = true := (by simp [vldRs, q5, q9, h13])
        exact ret_tmp Tryz.results70 rfl (fun w1 hw => ⟨by rw [hE]; try rfl, hw.bel⟩)
    · have q9 := of_decide_eq_false h9
      refine TL.val rfl rfl rfl (gives_pick rfl rfl rfl) ?_
      refine TL.val rfl rfl rfl (gives_move rfl rfl) ?_
      refine TL.off rfl rfl rfl rfl rfl rfl ?_
      refine TL.off rfl rfl rfl rfl rfl rfl ?_
      refine TL.off rfl rfl rfl rfl rfl rfl ?_
      refine TL.off rfl rfl rfl rfl rfl rfl ?_
      refine TL.offU rfl rfl rfl rfl rfl ?_
      refine TL.offU rfl rfl rfl rfl rfl ?_
      refine TL.offU rfl rfl rfl rfl rfl ?_
      refine TL.offU rfl rfl rfl rfl rfl ?_
      refine TL.off rfl rfl rfl rfl rfl rfl ?_
      refine TL.val rfl rfl rfl (gives_pick rfl rfl rfl) ?_
      refine TL.val rfl rfl rfl (gives_assign rfl rfl) ?_
      refine TL.end_ ?_
      refine TX.then_ ?_
      refine TC.ret_ ?_
      have hE : (vldRs r) = false := (by simp [vldRs, q5, q9])
      exact ret_tmp Tryz.results70 rfl (fun w1 hw => ⟨by rw [hE]; try rfl, hw.bel⟩)
  · have q5 := of_decide_eq_false h5
    refine TL.val rfl rfl rfl (gives_move rfl rfl) ?_
    refine TL.off rfl rfl rfl rfl rfl rfl ?_
    refine TL.off rfl rfl rfl rfl rfl rfl ?_
    refine TL.off rfl rfl rfl rfl rfl rfl ?_
    refine TL.val rfl rfl rfl (gives_pick rfl rfl rfl) ?_
    refine TL.val rfl rfl rfl (gives_move rfl rfl) ?_
    refine TL.off rfl rfl rfl rfl rfl rfl ?_
    refine TL.off rfl rfl rfl rfl rfl rfl ?_
    refine TL.off rfl rfl rfl rfl rfl rfl ?_
    refine TL.off rfl rfl rfl rfl rfl rfl ?_
    refine TL.offU rfl rfl rfl rfl rfl ?_
    refine TL.offU rfl rfl rfl rfl rfl ?_
    refine TL.offU rfl rfl rfl rfl rfl ?_
    refine TL.offU rfl rfl rfl rfl rfl ?_
    refine TL.off rfl rfl rfl rfl rfl rfl ?_
    refine TL.val rfl rfl rfl (gives_pick rfl rfl rfl) ?_
    refine TL.val rfl rfl rfl (gives_assign rfl rfl) ?_
    refine TL.end_ ?_
    refine TX.then_ ?_
    refine TC.ret_ ?_
    have hE : (vldRs r) = false := (by simp [vldRs, q5])
    exact ret_tmp Tryz.results70 rfl (fun w1 hw => ⟨by rw [hE]; try rfl, hw.bel⟩)
set_option maxHeartbeats 1000000 in
theorem usbRs_any (r : Rs) (w : World) :
    Calls Tryz.prog 91 #[.agg r.cells.toArray] w fun e w' => e = .returned (.bool (usbRs r)) ∧ Below w.heap.size w w' := by
  refine begin_ (vs := [.agg r.cells.toArray]) Tryz.func91 rfl rfl rfl ?_ (Pm.start w)
  refine TC.seq_ ?_
  refine TC.region ?_
  refine TL.pnew rfl rfl rfl (exec_box (cs := r.cells) rfl rfl rfl) (fun g1 => ?_)
  refine TL.val rfl rfl rfl (gives_assign rfl rfl) ?_
  refine TL.end_ ?_
  refine TX.then_ ?_
  refine TC.seq_ ?_
  refine TC.region ?_
  refine TL.val rfl rfl rfl (gives_field (v := .pointer (some ⟨g1, 9, none⟩)) rfl rfl (fun w => prsfld65_9 _ _ w)) ?_
  refine TL.vsplit rfl rfl rfl (pm_load (k := 0) (i := 9) rfl rfl prsag4 rfl rfl) (fun h4 => ?_) (fun h4 => ?_)
  · refine TL.val rfl rfl rfl (gives_boolnot rfl rfl) ?_
    refine TL.val rfl rfl rfl (gives_move rfl rfl) ?_
    refine TL.off rfl rfl rfl rfl rfl rfl ?_
    refine TL.off rfl rfl rfl rfl rfl rfl ?_
    refine TL.val rfl rfl rfl (gives_pick rfl rfl rfl) ?_
    refine TL.val rfl rfl rfl (gives_assign rfl rfl) ?_
    refine TL.end_ ?_
    refine TX.then_ ?_
    refine TC.ret_ ?_
    have hE : (usbRs r) = false := (by simp [usbRs, h4])
    exact ret_tmp Tryz.results91 rfl (fun w1 hw => ⟨by rw [hE]; try rfl, hw.bel⟩)
  · refine TL.val rfl rfl rfl (gives_boolnot rfl rfl) ?_
    refine TL.val rfl rfl rfl (gives_move rfl rfl) ?_
    refine TL.on rfl rfl rfl ?_
    refine TL.val rfl rfl rfl (pm_loadV (k := 0) (i := 0) (n := 17) (v := .agg (r.cells).toArray) rfl rfl prsag65 prssz65 rfl (by show 17 ≤ 17; decide) rfl) ?_
    refine TL.on rfl rfl rfl ?_
    refine TL.callsplit rfl rfl rfl rfl rfl Tryz.func70 prsnm70 prsbd70 (fun w1 hw => vldRs_any r w1) (fun h8 => ?_) (fun h8 => ?_)
    · refine TL.val rfl rfl rfl (gives_pick rfl rfl rfl) ?_
      refine TL.val rfl rfl rfl (gives_assign rfl rfl) ?_
      refine TL.end_ ?_
      refine TX.then_ ?_
      refine TC.ret_ ?_
      have hE : (usbRs r) = true := (by simp [usbRs, h4, h8])
      exact ret_tmp Tryz.results91 rfl (fun w1 hw => ⟨by rw [hE]; try rfl, hw.bel⟩)
    · refine TL.val rfl rfl rfl (gives_pick rfl rfl rfl) ?_
      refine TL.val rfl rfl rfl (gives_assign rfl rfl) ?_
      refine TL.end_ ?_
      refine TX.then_ ?_
      refine TC.ret_ ?_
      have hE : (usbRs r) = false := (by simp [usbRs, h4, h8])
      exact ret_tmp Tryz.results91 rfl (fun w1 hw => ⟨by rw [hE]; try rfl, hw.bel⟩)
set_option maxHeartbeats 1000000 in
theorem finRs_any (r : Rs) (w : World) :
    Calls Tryz.prog 122 #[.agg r.cells.toArray] w fun e w' => e = .returned (.bool (finRs r)) ∧ Below w.heap.size w w' := by
  refine begin_ (vs := [.agg r.cells.toArray]) Tryz.func122 rfl rfl rfl ?_ (Pm.start w)
  refine TC.seq_ ?_
  refine TC.region ?_
  refine TL.pnew rfl rfl rfl (exec_box (cs := r.cells) rfl rfl rfl) (fun g1 => ?_)
  refine TL.val rfl rfl rfl (gives_assign rfl rfl) ?_
  refine TL.end_ ?_
  refine TX.then_ ?_
  refine TC.seq_ ?_
  refine TC.region ?_
  refine TL.val rfl rfl rfl (gives_field (v := .pointer (some ⟨g1, 8, none⟩)) rfl rfl (fun w => prsfld65_8 _ _ w)) ?_
  refine TL.vsplit rfl rfl rfl (pm_load (k := 0) (i := 8) rfl rfl prsag4 rfl rfl) (fun h4 => ?_) (fun h4 => ?_)
  · refine TL.val rfl rfl rfl (gives_move rfl rfl) ?_
    refine TL.on rfl rfl rfl ?_
    refine TL.val rfl rfl rfl (gives_field (v := .pointer (some ⟨g1, 11, none⟩)) rfl rfl (fun w => prsfld65_11 _ _ w)) ?_
    refine TL.on rfl rfl rfl ?_
    refine TL.val rfl rfl rfl (gives_field (v := .pointer (some ⟨g1, 12, none⟩)) rfl rfl (fun w => prsfld63_1 _ _ w)) ?_
    refine TL.on rfl rfl rfl ?_
    refine TL.val rfl rfl rfl (pm_load (k := 0) (i := 12) rfl rfl pcmag3 rfl rfl) ?_
    refine TL.on rfl rfl rfl ?_
    refine TL.vsplit rfl rfl rfl (gives_bin rfl rfl rfl (fun w => bin_neq w)) (fun h9 => ?_) (fun h9 => ?_)
    · have q9 := of_decide_eq_true h9
      refine TL.val rfl rfl rfl (gives_pick rfl rfl rfl) ?_
      refine TL.val rfl rfl rfl (gives_move rfl rfl) ?_
      refine TL.on rfl rfl rfl ?_
      refine TL.val rfl rfl rfl (pm_loadV (k := 0) (i := 0) (n := 17) (v := .agg (r.cells).toArray) rfl rfl prsag65 prssz65 rfl (by show 17 ≤ 17; decide) rfl) ?_
      refine TL.on rfl rfl rfl ?_
      refine TL.callsplit rfl rfl rfl rfl rfl Tryz.func91 prsnm91 prsbd91 (fun w1 hw => usbRs_any r w1) (fun h13 => ?_) (fun h13 => ?_)
      · refine TL.val rfl rfl rfl (gives_pick rfl rfl rfl) ?_
        refine TL.val rfl rfl rfl (gives_assign rfl rfl) ?_
        refine TL.end_ ?_
        refine TX.then_ ?_
        refine TC.ret_ ?_
        have hE : (finRs r) = true := (by simp [finRs, h4, q9, h13])
        exact ret_tmp Tryz.results122 rfl (fun w1 hw => ⟨by rw [hE]; try rfl, hw.bel⟩)
      · refine TL.val rfl rfl rfl (gives_pick rfl rfl rfl) ?_
        refine TL.val rfl rfl rfl (gives_assign rfl rfl) ?_
        refine TL.end_ ?_
        refine TX.then_ ?_
        refine TC.ret_ ?_
        have hE : (finRs r) = false := (by simp [finRs, h4, q9, h13])
        exact ret_tmp Tryz.results122 rfl (fun w1 hw => ⟨by rw [hE]; try rfl, hw.bel⟩)
    · have q9 := of_decide_eq_false h9
      refine TL.val rfl rfl rfl (gives_pick rfl rfl rfl) ?_
      refine TL.val rfl rfl rfl (gives_move rfl rfl) ?_
      refine TL.off rfl rfl rfl rfl rfl rfl ?_
      refine TL.off rfl rfl rfl rfl rfl rfl ?_
      refine TL.val rfl rfl rfl (gives_pick rfl rfl rfl) ?_
      refine TL.val rfl rfl rfl (gives_assign rfl rfl) ?_
      refine TL.end_ ?_
      refine TX.then_ ?_
      refine TC.ret_ ?_
      have hE : (finRs r) = false := (by simp [finRs, h4, q9])
      exact ret_tmp Tryz.results122 rfl (fun w1 hw => ⟨by rw [hE]; try rfl, hw.bel⟩)
  · refine TL.val rfl rfl rfl (gives_move rfl rfl) ?_
    refine TL.off rfl rfl rfl rfl rfl rfl ?_
    refine TL.off rfl rfl rfl rfl rfl rfl ?_
    refine TL.off rfl rfl rfl rfl rfl rfl ?_
    refine TL.off rfl rfl rfl rfl rfl rfl ?_
    refine TL.val rfl rfl rfl (gives_pick rfl rfl rfl) ?_
    refine TL.val rfl rfl rfl (gives_move rfl rfl) ?_
    refine TL.off rfl rfl rfl rfl rfl rfl ?_
    refine TL.off rfl rfl rfl rfl rfl rfl ?_
    refine TL.val rfl rfl rfl (gives_pick rfl rfl rfl) ?_
    refine TL.val rfl rfl rfl (gives_assign rfl rfl) ?_
    refine TL.end_ ?_
    refine TX.then_ ?_
    refine TC.ret_ ?_
    have hE : (finRs r) = false := (by simp [finRs, h4])
    exact ret_tmp Tryz.results122 rfl (fun w1 hw => ⟨by rw [hE]; try rfl, hw.bel⟩)
set_option maxHeartbeats 1000000 in
theorem numb_any (b : Bool) (w : World) :
    Calls Tryz.prog 165 #[.bool b] w fun e w' => e = .returned (.int .i64 (b2i b)) ∧ w' = w := by
  refine begin_ (vs := [.bool b]) (I := fun w1 => w1 = w) Tryz.func165 rfl rfl rfl ?_ rfl
  refine TC.seq_ ?_
  refine TC.region ?_
  refine TL.val rfl rfl rfl (gives_assign rfl rfl) ?_
  refine TL.end_ ?_
  refine TX.then_ ?_
  refine TC.seq_ ?_
  refine TC.seq_ ?_
  cases b with
  | true =>
    refine TC.region ?_
    refine TL.val rfl rfl rfl (gives_move rfl rfl) ?_
    refine TL.end_ ?_
    refine TX.then_ ?_
    refine TC.condT rfl ?_
    refine TC.seq_ ?_
    refine TC.region ?_
    refine TL.val rfl rfl rfl (gives_assign rfl rfl) ?_
    refine TL.end_ ?_
    refine TX.then_ ?_
    refine TC.ret_ ?_
    refine TX.then_ret ?_
    exact ret_tmp Tryz.results165 rfl (fun w1 hw => ⟨rfl, hw⟩)
  | false =>
    refine TC.region ?_
    refine TL.val rfl rfl rfl (gives_move rfl rfl) ?_
    refine TL.end_ ?_
    refine TX.then_ ?_
    refine TC.condF rfl ?_
    refine TC.skip_ ?_
    refine TX.then_ ?_
    refine TC.seq_ ?_
    refine TC.region ?_
    refine TL.val rfl rfl rfl (gives_assign rfl rfl) ?_
    refine TL.end_ ?_
    refine TX.then_ ?_
    refine TC.ret_ ?_
    exact ret_tmp Tryz.results165 rfl (fun w1 hw => ⟨rfl, hw⟩)
set_option maxHeartbeats 1000000 in
theorem cmpRs_any (a b : Rs) (w : World) :
    Calls Tryz.prog 133 #[.agg a.cells.toArray, .agg b.cells.toArray] w fun e w' => e = .returned (.int .i64 (cmpRs a b)) ∧ Below w.heap.size w w' := by
  refine begin_ (vs := [.agg a.cells.toArray, .agg b.cells.toArray]) Tryz.func133 rfl rfl rfl ?_ (Pm.start w)
  refine TC.seq_ ?_
  refine TC.region ?_
  refine TL.pnew rfl rfl rfl (exec_box (cs := a.cells) rfl rfl rfl) (fun g2 => ?_)
  refine TL.pnew rfl rfl rfl (exec_box (cs := b.cells) rfl rfl rfl) (fun g3 => ?_)
  refine TL.val rfl rfl rfl (gives_assign rfl rfl) ?_
  refine TL.end_ ?_
  refine TX.then_ ?_
  refine TC.seq_ ?_
  refine TC.pre 106 108 2 (Pm w [.blk g3 65 b.cells, .blk g2 65 a.cells]) (by kernel_rfl) rfl (fun w hw => hw.drawn _) (by kernel_rfl) rfl (fun w1 hw => hw) ?_
  refine TV.val rfl rfl rfl (gives_field (v := .pointer (some ⟨g2, 3, none⟩)) rfl rfl (fun w => prsfld65_3 _ _ w)) ?_
  refine TV.val rfl rfl rfl (pm_load (k := 1) (i := 3) rfl rfl pcmag3 rfl rfl) ?_
  refine TV.val rfl rfl rfl (gives_field (v := .pointer (some ⟨g3, 3, none⟩)) rfl rfl (fun w => prsfld65_3 _ _ w)) ?_
  refine TV.val rfl rfl rfl (pm_load (k := 0) (i := 3) rfl rfl pcmag3 rfl rfl) ?_
  refine TV.val rfl rfl rfl (gives_build (v := .agg #[.int .i64 a.at_, .int .i64 b.at_]) rfl rfl (fun w => prsbld120_29156 _ _ w)) ?_
  refine TV.val rfl rfl rfl (gives_field (v := .pointer (some ⟨g2, 0, none⟩)) rfl rfl (fun w => prsfld65_0 _ _ w)) ?_
  refine TV.val rfl rfl rfl (pm_load (k := 1) (i := 0) rfl rfl pcmag3 rfl rfl) ?_
  refine TV.val rfl rfl rfl (gives_field (v := .pointer (some ⟨g3, 0, none⟩)) rfl rfl (fun w => prsfld65_0 _ _ w)) ?_
  refine TV.val rfl rfl rfl (pm_load (k := 0) (i := 0) rfl rfl pcmag3 rfl rfl) ?_
  refine TV.val rfl rfl rfl (gives_build (v := .agg #[.int .i64 a.v, .int .i64 b.v]) rfl rfl (fun w => prsbld120_29156 _ _ w)) ?_
  refine TV.val rfl rfl rfl (gives_field (v := .pointer (some ⟨g2, 1, none⟩)) rfl rfl (fun w => prsfld65_1 _ _ w)) ?_
  refine TV.val rfl rfl rfl (pm_load (k := 1) (i := 1) rfl rfl pcmag3 rfl rfl) ?_
  refine TV.val rfl rfl rfl (gives_field (v := .pointer (some ⟨g3, 1, none⟩)) rfl rfl (fun w => prsfld65_1 _ _ w)) ?_
  refine TV.val rfl rfl rfl (pm_load (k := 0) (i := 1) rfl rfl pcmag3 rfl rfl) ?_
  refine TV.val rfl rfl rfl (gives_build (v := .agg #[.int .i64 a.run, .int .i64 b.run]) rfl rfl (fun w => prsbld120_29156 _ _ w)) ?_
  refine TV.val rfl rfl rfl (gives_field (v := .pointer (some ⟨g2, 2, none⟩)) rfl rfl (fun w => prsfld65_2 _ _ w)) ?_
  refine TV.val rfl rfl rfl (pm_load (k := 1) (i := 2) rfl rfl pcmag3 rfl rfl) ?_
  refine TV.val rfl rfl rfl (gives_field (v := .pointer (some ⟨g3, 2, none⟩)) rfl rfl (fun w => prsfld65_2 _ _ w)) ?_
  refine TV.val rfl rfl rfl (pm_load (k := 0) (i := 2) rfl rfl pcmag3 rfl rfl) ?_
  refine TV.val rfl rfl rfl (gives_build (v := .agg #[.int .i64 a.num, .int .i64 b.num]) rfl rfl (fun w => prsbld120_29156 _ _ w)) ?_
  refine TV.val rfl rfl rfl (gives_field (v := .pointer (some ⟨g2, 4, none⟩)) rfl rfl (fun w => prsfld65_4 _ _ w)) ?_
  refine TV.val rfl rfl rfl (pm_load (k := 1) (i := 4) rfl rfl pcmag30 rfl rfl) ?_
  refine TV.val rfl rfl rfl (gives_conv rfl rfl (fun w => conv_w64 Tryz.underlying3 Tryz.underlying30 w)) ?_
  refine TV.val rfl rfl rfl (gives_field (v := .pointer (some ⟨g3, 4, none⟩)) rfl rfl (fun w => prsfld65_4 _ _ w)) ?_
  refine TV.val rfl rfl rfl (pm_load (k := 0) (i := 4) rfl rfl pcmag30 rfl rfl) ?_
  refine TV.val rfl rfl rfl (gives_conv rfl rfl (fun w => conv_w64 Tryz.underlying3 Tryz.underlying30 w)) ?_
  refine TV.val rfl rfl rfl (gives_build (v := .agg #[.int .i64 (IntKind.i64.wrap a.dst), .int .i64 (IntKind.i64.wrap b.dst)]) rfl rfl (fun w => prsbld120_29156 _ _ w)) ?_
  refine TV.val rfl rfl rfl (gives_field (v := .pointer (some ⟨g2, 5, none⟩)) rfl rfl (fun w => prsfld65_5 _ _ w)) ?_
  refine TV.val rfl rfl rfl (pm_load (k := 1) (i := 5) rfl rfl pcmag3 rfl rfl) ?_
  refine TV.val rfl rfl rfl (gives_field (v := .pointer (some ⟨g3, 5, none⟩)) rfl rfl (fun w => prsfld65_5 _ _ w)) ?_
  refine TV.val rfl rfl rfl (pm_load (k := 0) (i := 5) rfl rfl pcmag3 rfl rfl) ?_
  refine TV.val rfl rfl rfl (gives_build (v := .agg #[.int .i64 a.proto, .int .i64 b.proto]) rfl rfl (fun w => prsbld120_29156 _ _ w)) ?_
  refine TV.val rfl rfl rfl (gives_field (v := .pointer (some ⟨g2, 6, none⟩)) rfl rfl (fun w => prsfld65_6 _ _ w)) ?_
  refine TV.val rfl rfl rfl (pm_load (k := 1) (i := 6) rfl rfl pcmag3 rfl rfl) ?_
  refine TV.val rfl rfl rfl (gives_field (v := .pointer (some ⟨g3, 6, none⟩)) rfl rfl (fun w => prsfld65_6 _ _ w)) ?_
  refine TV.val rfl rfl rfl (pm_load (k := 0) (i := 6) rfl rfl pcmag3 rfl rfl) ?_
  refine TV.val rfl rfl rfl (gives_build (v := .agg #[.int .i64 a.flow, .int .i64 b.flow]) rfl rfl (fun w => prsbld120_29156 _ _ w)) ?_
  refine TV.val rfl rfl rfl (gives_field (v := .pointer (some ⟨g2, 7, none⟩)) rfl rfl (fun w => prsfld65_7 _ _ w)) ?_
  refine TV.val rfl rfl rfl (pm_load (k := 1) (i := 7) rfl rfl pcmag3 rfl rfl) ?_
  refine TV.val rfl rfl rfl (gives_field (v := .pointer (some ⟨g3, 7, none⟩)) rfl rfl (fun w => prsfld65_7 _ _ w)) ?_
  refine TV.val rfl rfl rfl (pm_load (k := 0) (i := 7) rfl rfl pcmag3 rfl rfl) ?_
  refine TV.val rfl rfl rfl (gives_build (v := .agg #[.int .i64 a.ttl, .int .i64 b.ttl]) rfl rfl (fun w => prsbld120_29156 _ _ w)) ?_
  refine TV.val rfl rfl rfl (gives_field (v := .pointer (some ⟨g2, 8, none⟩)) rfl rfl (fun w => prsfld65_8 _ _ w)) ?_
  refine TV.val rfl rfl rfl (pm_load (k := 1) (i := 8) rfl rfl prsag4 rfl rfl) ?_
  refine TV.call (r := .int .i64 (b2i a.ans)) rfl rfl rfl rfl rfl Tryz.func165 prsnm165 prsbd165 (fun w1 hw => numb_any a.ans w1) ?_
  refine TV.val rfl rfl rfl (gives_field (v := .pointer (some ⟨g3, 8, none⟩)) rfl rfl (fun w => prsfld65_8 _ _ w)) ?_
  refine TV.val rfl rfl rfl (pm_load (k := 0) (i := 8) rfl rfl prsag4 rfl rfl) ?_
  refine TV.call (r := .int .i64 (b2i b.ans)) rfl rfl rfl rfl rfl Tryz.func165 prsnm165 prsbd165 (fun w1 hw => numb_any b.ans w1) ?_
  refine TV.val rfl rfl rfl (gives_build (v := .agg #[.int .i64 (b2i a.ans), .int .i64 (b2i b.ans)]) rfl rfl (fun w => prsbld120_29156 _ _ w)) ?_
  refine TV.val rfl rfl rfl (gives_field (v := .pointer (some ⟨g2, 9, none⟩)) rfl rfl (fun w => prsfld65_9 _ _ w)) ?_
  refine TV.val rfl rfl rfl (pm_load (k := 1) (i := 9) rfl rfl prsag4 rfl rfl) ?_
  refine TV.call (r := .int .i64 (b2i a.dbl)) rfl rfl rfl rfl rfl Tryz.func165 prsnm165 prsbd165 (fun w1 hw => numb_any a.dbl w1) ?_
  refine TV.val rfl rfl rfl (gives_field (v := .pointer (some ⟨g3, 9, none⟩)) rfl rfl (fun w => prsfld65_9 _ _ w)) ?_
  refine TV.val rfl rfl rfl (pm_load (k := 0) (i := 9) rfl rfl prsag4 rfl rfl) ?_
  refine TV.call (r := .int .i64 (b2i b.dbl)) rfl rfl rfl rfl rfl Tryz.func165 prsnm165 prsbd165 (fun w1 hw => numb_any b.dbl w1) ?_
  refine TV.val rfl rfl rfl (gives_build (v := .agg #[.int .i64 (b2i a.dbl), .int .i64 (b2i b.dbl)]) rfl rfl (fun w => prsbld120_29156 _ _ w)) ?_
  refine TV.val rfl rfl rfl (gives_field (v := .pointer (some ⟨g2, 10, none⟩)) rfl rfl (fun w => prsfld65_10 _ _ w)) ?_
  refine TV.val rfl rfl rfl (pm_load (k := 1) (i := 10) rfl rfl pcmag3 rfl rfl) ?_
  refine TV.val rfl rfl rfl (gives_field (v := .pointer (some ⟨g3, 10, none⟩)) rfl rfl (fun w => prsfld65_10 _ _ w)) ?_
  refine TV.val rfl rfl rfl (pm_load (k := 0) (i := 10) rfl rfl pcmag3 rfl rfl) ?_
  refine TV.val rfl rfl rfl (gives_build (v := .agg #[.int .i64 a.back, .int .i64 b.back]) rfl rfl (fun w => prsbld120_29156 _ _ w)) ?_
  refine TV.val rfl rfl rfl (gives_field (v := .pointer (some ⟨g2, 11, none⟩)) rfl rfl (fun w => prsfld65_11 _ _ w)) ?_
  refine TV.val rfl rfl rfl (gives_field (v := .pointer (some ⟨g2, 11, none⟩)) rfl rfl (fun w => prsfld63_0 _ _ w)) ?_
  refine TV.val rfl rfl rfl (pm_load (k := 1) (i := 11) rfl rfl pcmag30 rfl rfl) ?_
  refine TV.val rfl rfl rfl (gives_conv rfl rfl (fun w => conv_w64 Tryz.underlying3 Tryz.underlying30 w)) ?_
  refine TV.val rfl rfl rfl (gives_field (v := .pointer (some ⟨g3, 11, none⟩)) rfl rfl (fun w => prsfld65_11 _ _ w)) ?_
  refine TV.val rfl rfl rfl (gives_field (v := .pointer (some ⟨g3, 11, none⟩)) rfl rfl (fun w => prsfld63_0 _ _ w)) ?_
  refine TV.val rfl rfl rfl (pm_load (k := 0) (i := 11) rfl rfl pcmag30 rfl rfl) ?_
  refine TV.val rfl rfl rfl (gives_conv rfl rfl (fun w => conv_w64 Tryz.underlying3 Tryz.underlying30 w)) ?_
  refine TV.val rfl rfl rfl (gives_build (v := .agg #[.int .i64 (IntKind.i64.wrap a.src), .int .i64 (IntKind.i64.wrap b.src)]) rfl rfl (fun w => prsbld120_29156 _ _ w)) ?_
  refine TV.val rfl rfl rfl (gives_field (v := .pointer (some ⟨g2, 11, none⟩)) rfl rfl (fun w => prsfld65_11 _ _ w)) ?_
  refine TV.val rfl rfl rfl (gives_field (v := .pointer (some ⟨g2, 12, none⟩)) rfl rfl (fun w => prsfld63_1 _ _ w)) ?_
  refine TV.val rfl rfl rfl (pm_load (k := 1) (i := 12) rfl rfl pcmag3 rfl rfl) ?_
  refine TV.val rfl rfl rfl (gives_field (v := .pointer (some ⟨g3, 11, none⟩)) rfl rfl (fun w => prsfld65_11 _ _ w)) ?_
  refine TV.val rfl rfl rfl (gives_field (v := .pointer (some ⟨g3, 12, none⟩)) rfl rfl (fun w => prsfld63_1 _ _ w)) ?_
  refine TV.val rfl rfl rfl (pm_load (k := 0) (i := 12) rfl rfl pcmag3 rfl rfl) ?_
  refine TV.val rfl rfl rfl (gives_build (v := .agg #[.int .i64 a.kind, .int .i64 b.kind]) rfl rfl (fun w => prsbld120_29156 _ _ w)) ?_
  refine TV.val rfl rfl rfl (gives_field (v := .pointer (some ⟨g2, 11, none⟩)) rfl rfl (fun w => prsfld65_11 _ _ w)) ?_
  refine TV.val rfl rfl rfl (gives_field (v := .pointer (some ⟨g2, 13, none⟩)) rfl rfl (fun w => prsfld63_2 _ _ w)) ?_
  refine TV.val rfl rfl rfl (pm_load (k := 1) (i := 13) rfl rfl pcmag3 rfl rfl) ?_
  refine TV.val rfl rfl rfl (gives_field (v := .pointer (some ⟨g3, 11, none⟩)) rfl rfl (fun w => prsfld65_11 _ _ w)) ?_
  refine TV.val rfl rfl rfl (gives_field (v := .pointer (some ⟨g3, 13, none⟩)) rfl rfl (fun w => prsfld63_2 _ _ w)) ?_
  refine TV.val rfl rfl rfl (pm_load (k := 0) (i := 13) rfl rfl pcmag3 rfl rfl) ?_
  refine TV.val rfl rfl rfl (gives_build (v := .agg #[.int .i64 a.code, .int .i64 b.code]) rfl rfl (fun w => prsbld120_29156 _ _ w)) ?_
  refine TV.val rfl rfl rfl (gives_field (v := .pointer (some ⟨g2, 11, none⟩)) rfl rfl (fun w => prsfld65_11 _ _ w)) ?_
  refine TV.val rfl rfl rfl (gives_field (v := .pointer (some ⟨g2, 14, none⟩)) rfl rfl (fun w => prsfld63_3 _ _ w)) ?_
  refine TV.val rfl rfl rfl (pm_load (k := 1) (i := 14) rfl rfl pcmag3 rfl rfl) ?_
  refine TV.val rfl rfl rfl (gives_field (v := .pointer (some ⟨g3, 11, none⟩)) rfl rfl (fun w => prsfld65_11 _ _ w)) ?_
  refine TV.val rfl rfl rfl (gives_field (v := .pointer (some ⟨g3, 14, none⟩)) rfl rfl (fun w => prsfld63_3 _ _ w)) ?_
  refine TV.val rfl rfl rfl (pm_load (k := 0) (i := 14) rfl rfl pcmag3 rfl rfl) ?_
  refine TV.val rfl rfl rfl (gives_build (v := .agg #[.int .i64 a.left, .int .i64 b.left]) rfl rfl (fun w => prsbld120_29156 _ _ w)) ?_
  refine TV.val rfl rfl rfl (gives_field (v := .pointer (some ⟨g2, 11, none⟩)) rfl rfl (fun w => prsfld65_11 _ _ w)) ?_
  refine TV.val rfl rfl rfl (gives_field (v := .pointer (some ⟨g2, 15, none⟩)) rfl rfl (fun w => prsfld63_4 _ _ w)) ?_
  refine TV.val rfl rfl rfl (pm_load (k := 1) (i := 15) rfl rfl pcmag3 rfl rfl) ?_
  refine TV.val rfl rfl rfl (gives_field (v := .pointer (some ⟨g3, 11, none⟩)) rfl rfl (fun w => prsfld65_11 _ _ w)) ?_
  refine TV.val rfl rfl rfl (gives_field (v := .pointer (some ⟨g3, 15, none⟩)) rfl rfl (fun w => prsfld63_4 _ _ w)) ?_
  refine TV.val rfl rfl rfl (pm_load (k := 0) (i := 15) rfl rfl pcmag3 rfl rfl) ?_
  refine TV.val rfl rfl rfl (gives_build (v := .agg #[.int .i64 a.id, .int .i64 b.id]) rfl rfl (fun w => prsbld120_29156 _ _ w)) ?_
  refine TV.val rfl rfl rfl (gives_field (v := .pointer (some ⟨g2, 11, none⟩)) rfl rfl (fun w => prsfld65_11 _ _ w)) ?_
  refine TV.val rfl rfl rfl (gives_field (v := .pointer (some ⟨g2, 16, none⟩)) rfl rfl (fun w => prsfld63_5 _ _ w)) ?_
  refine TV.val rfl rfl rfl (pm_load (k := 1) (i := 16) rfl rfl pcmag3 rfl rfl) ?_
  refine TV.val rfl rfl rfl (gives_field (v := .pointer (some ⟨g3, 11, none⟩)) rfl rfl (fun w => prsfld65_11 _ _ w)) ?_
  refine TV.val rfl rfl rfl (gives_field (v := .pointer (some ⟨g3, 16, none⟩)) rfl rfl (fun w => prsfld63_5 _ _ w)) ?_
  refine TV.val rfl rfl rfl (pm_load (k := 0) (i := 16) rfl rfl pcmag3 rfl rfl) ?_
  refine TV.val rfl rfl rfl (gives_build (v := .agg #[.int .i64 a.quo, .int .i64 b.quo]) rfl rfl (fun w => prsbld120_29156 _ _ w)) ?_
  refine TV.val rfl rfl rfl (gives_build (v := .agg ((flat pc2 (pairsR a b))).toArray) rfl rfl (fun w => prsbld188_59264 _ _ _ _ _ _ _ _ _ _ _ _ _ _ _ _ _ _ _ _ _ _ _ _ _ _ _ _ _ _ _ _ _ _ w)) ?_
  refine TV.end_ (ls := #[true, true, true, true, true, true, true, true, true, true, true, true, true, true, true, true, true, true, true, true, true, true, true, true, true, true, true, true, true, true, true, true, true, true, true, true, true, true, true, true, true, true, true, true, true, true, true, true, true, true, true, true, true, true, true, true, true, true, true, true, true, true, true, true, true, true, true, true, true, true, true, true, true, true, true, true, true, true, true, true, true, true, true, true, true, true, true, true, true, true, true, true, true, true, true, true, true, true, true, true, true, true, true, true, true, true, false, false]) (by kernel_rfl) ?_
  refine TH.only' (listed' := #[true, true, true, true, true, true, true, true, true, true, true, true, true, true, true, true, true, true, true, true, true, true, true, true, true, true, true, true, true, true, true, true, true, true, true, true, true, true, true, true, true, true, true, true, true, true, true, true, true, true, true, true, true, true, true, true, true, true, true, true, true, true, true, true, true, true, true, true, true, true, true, true, true, true, true, true, true, true, true, true, true, true, true, true, true, true, true, true, true, true, true, true, true, true, true, true, true, true, true, true, true, true, true, true, true, true, true, false]) 106 rfl (by kernel_rfl) rfl ?_
  refine TL.pnew rfl rfl rfl (exec_alloc (cs := [.int .i64 0, .int .i64 0, .int .i64 0, .int .i64 0, .int .i64 0, .int .i64 0, .int .i64 0, .int .i64 0, .int .i64 0, .int .i64 0, .int .i64 0, .int .i64 0, .int .i64 0, .int .i64 0, .int .i64 0, .int .i64 0, .int .i64 0, .int .i64 0, .int .i64 0, .int .i64 0, .int .i64 0, .int .i64 0, .int .i64 0, .int .i64 0, .int .i64 0, .int .i64 0, .int .i64 0, .int .i64 0, .int .i64 0, .int .i64 0, .int .i64 0, .int .i64 0, .int .i64 0, .int .i64 0]) rfl prszv188 rfl) (fun g5 => ?_)
  refine TL.end_ ?_
  refine TX.held (fun w1 hw => hw.pick [1, 2] (by decide) rfl) ?_
  refine TH.only' (listed' := #[true, true, true, true, true, true, true, true, true, true, true, true, true, true, true, true, true, true, true, true, true, true, true, true, true, true, true, true, true, true, true, true, true, true, true, true, true, true, true, true, true, true, true, true, true, true, true, true, true, true, true, true, true, true, true, true, true, true, true, true, true, true, true, true, true, true, true, true, true, true, true, true, true, true, true, true, true, true, true, true, true, true, true, true, true, true, true, true, true, true, true, true, true, true, true, true, true, true, true, true, true, true, true, true, true, true, true, true]) 107 rfl (by kernel_rfl) rfl ?_
  refine TL.pstore (k := 0) (vs := (flat pc2 (pairsR a b))) rfl rfl rfl rfl rfl rfl rfl prssz188 (flat_one pc2_cel _) (by show 34 ≤ 34; decide) (L' := [.blk g5 188 (flat pc2 (pairsR a b)), .blk g3 65 b.cells, .blk g2 65 a.cells]) rfl ?_
  refine TL.end_ ?_
  refine TX.held (fun w1 hw => hw.pick [1, 2] (by decide) rfl) ?_
  refine TH.done (by kernel_rfl) ?_
  refine TX.then_ ?_
  refine TC.seq_ ?_
  refine TC.seq_ ?_
  refine TC.region ?_
  refine TL.val rfl rfl rfl (pm_loadV (k := 0) (i := 0) (n := 34) (v := .agg ((flat pc2 (pairsR a b))).toArray) rfl rfl prsag188 prssz188 rfl (by show 34 ≤ 34; decide) rfl) ?_
  refine TL.val rfl rfl rfl (gives_move rfl rfl) ?_
  refine TL.end_ ?_
  refine TX.then_ ?_
  refine TC.block ?_
  refine TC.loop_ (α := {i : Nat // i ≤ 17 ∧ orP ((pairsR a b).drop i) = orP (pairsR a b)}) (fun y => [(2, .pointer (some ⟨g2, 0, none⟩)), (3, .pointer (some ⟨g3, 0, none⟩)), (115, .agg ((flat pc2 (pairsR a b))).toArray), (4, .int .i64 0), (116, .int .i64 ((y.1 : Nat) : Int))]) (fun y => Pm w [.blk g5 188 (flat pc2 (pairsR a b)), .blk g3 65 b.cells, .blk g2 65 a.cells]) (fun y => 17 - y.1) (⟨0, Nat.zero_le _, rfl⟩) ⟨rfl, rfl, rfl, rfl, rfl, trivial⟩ (fun w1 hw => hw) ?_
  rintro ⟨i, hi, ho⟩
  try dsimp only at hi ho ⊢
  refine TC.seq_ ?_
  refine TC.region ?_
  refine TL.vsplit rfl rfl rfl (gives_bin rfl rfl rfl (fun w => bin_lss w)) (fun h117 => ?_) (fun h117 => ?_)
  · have q117 := of_decide_eq_true h117
    refine TL.end_ ?_
    refine TX.then_ ?_
    refine TC.seq_ ?_
    refine TC.condT rfl ?_
    refine TC.skip_ ?_
    refine TX.then_ ?_
    refine TC.seq_ ?_
    refine TC.block ?_
    refine TC.seq_ ?_
    refine TC.region ?_
    obtain ⟨x118, hx118⟩ : ∃ x, (pairsR a b)[i]? = some x := ⟨_, List.getElem?_eq_getElem (by show i < 17; omega)⟩
    have hdr : (pairsR a b).drop i = x118 :: (pairsR a b).drop (i + 1) := by obtain ⟨hlt, e⟩ := List.getElem?_eq_some_iff.1 hx118; rw [List.drop_eq_getElem_cons hlt, e]
    refine TL.val rfl rfl rfl (gives_index (v := .agg (pc2 x118).toArray) rfl rfl rfl (fun w => index_flat pc2_cel Tryz.underlying188 prsag120 prssz120 hx118 rfl rfl w)) ?_
    refine TL.pnew rfl rfl rfl (exec_alloc (cs := [.int .i64 0, .int .i64 0]) rfl prszv120 rfl) (fun g7 => ?_)
    refine TL.pstore (k := 0) (vs := (pc2 x118)) rfl rfl rfl rfl rfl rfl rfl prssz120 (pc2_cel.one _) (by show 2 ≤ 2; decide) (L' := [.blk g7 120 (pc2 x118), .blk g5 188 (flat pc2 (pairsR a b)), .blk g3 65 b.cells, .blk g2 65 a.cells]) rfl ?_
    refine TL.end_ ?_
    refine TX.then_ ?_
    refine TC.seq_ ?_
    refine TC.region ?_
    refine TL.val rfl rfl rfl (gives_at (v := .pointer (some ⟨g7, 0, none⟩)) rfl rfl rfl (fun w => at_arr Tryz.underlying120 pcmsz3 g7 0 _ 0 (by decide) w)) ?_
    refine TL.val rfl rfl rfl (pm_load (k := 0) (i := 0) rfl rfl pcmag3 rfl rfl) ?_
    refine TL.val rfl rfl rfl (gives_at (v := .pointer (some ⟨g7, 1, none⟩)) rfl rfl rfl (fun w => at_arr Tryz.underlying120 pcmsz3 g7 0 _ 1 (by decide) w)) ?_
    refine TL.val rfl rfl rfl (pm_load (k := 0) (i := 1) rfl rfl pcmag3 rfl rfl) ?_
    refine TL.pcall1 (r := .int .i64 (cmpI x118.1 x118.2)) rfl rfl rfl rfl rfl Tryz.func79 pcmnm79 pcmbd79 (fun w1 hw => still_bel (cmpI_any x118.1 x118.2 w1)) ?_
    refine TL.val rfl rfl rfl (gives_assign rfl rfl) ?_
    refine TL.end_ ?_
    refine TX.then_ ?_
    refine TC.seq_ ?_
    refine TC.region ?_
    refine TL.val rfl rfl rfl (gives_move rfl rfl) ?_
    refine TL.vsplit rfl rfl rfl (gives_bin rfl rfl rfl (fun w => bin_neq w)) (fun h125 => ?_) (fun h125 => ?_)
    · have q125 := of_decide_eq_true h125
      refine TL.end_ ?_
      refine TX.then_ ?_
      refine TC.condT rfl ?_
      refine TC.seq_ ?_
      refine TC.region ?_
      refine TL.val rfl rfl rfl (gives_move rfl rfl) ?_
      refine TL.val rfl rfl rfl (gives_assign rfl rfl) ?_
      refine TL.end_ ?_
      refine TX.then_ ?_
      refine TC.ret_ ?_
      refine TX.in_ret ?_
      refine TX.then_ret ?_
      refine TX.then_ret ?_
      refine TX.in_ret ?_
      refine TX.then_ret ?_
      exact ret_tmp Tryz.results133 rfl (fun w1 hw => ⟨by rw [cmpRs_pairs, ← ho, hdr, orP_cons, if_neg q125], hw.bel⟩)
    · have q125 := of_decide_eq_false h125
      have ho2 : orP ((pairsR a b).drop (i + 1)) = orP (pairsR a b) := by rw [← ho, hdr, orP_cons, if_pos (Decidable.not_not.1 q125)]
      refine TL.end_ ?_
      refine TX.then_ ?_
      refine TC.condF rfl ?_
      refine TC.skip_ ?_
      refine TX.in_normal ?_
      refine TX.then_ ?_
      refine TC.region ?_
      refine TL.val rfl rfl rfl (gives_bin rfl rfl rfl (fun w => bin_add_ (r := ((i + 1 : Nat) : Int)) (by simp only [IntKind.wrap_i64]; omega) w)) ?_
      refine TL.val rfl rfl rfl (gives_move rfl rfl) ?_
      refine TL.end_ ?_
      exact TX.round (⟨i + 1, by omega, ho2⟩) (by show 17 - (i + 1) < 17 - i; omega) ⟨rfl, rfl, rfl, rfl, rfl, trivial⟩ (fun w1 hw => hw.pick [1, 2, 3] (by decide) rfl)
  · have q117 := of_decide_eq_false h117
    refine TL.end_ ?_
    refine TX.then_ ?_
    refine TC.seq_ ?_
    refine TC.condF rfl ?_
    refine TC.exit_ ?_
    refine TX.then_exit ?_
    refine TX.then_exit ?_
    refine TX.in_same ?_
    refine TX.then_ ?_
    refine TC.seq_ ?_
    refine TC.region ?_
    refine TL.val rfl rfl rfl (gives_assign rfl rfl) ?_
    refine TL.end_ ?_
    refine TX.then_ ?_
    refine TC.ret_ ?_
    exact ret_tmp Tryz.results133 rfl (fun w1 hw => ⟨by rw [cmpRs_pairs, ← ho, List.drop_of_length_le (by show 17 ≤ i; omega)]; rfl, hw.bel⟩)
set_option maxHeartbeats 1000000 in
theorem trc_any (r : Rs) (w : World) :
    Calls Tryz.prog 135 #[.agg r.cells.toArray] w fun e w' => e = .returned (.agg (trcR r).cells.toArray) ∧ Below w.heap.size w w' := by
  refine begin_ (vs := [.agg r.cells.toArray]) Tryz.func135 rfl rfl rfl ?_ (Pm.start w)
  refine TC.seq_ ?_
  refine TC.region ?_
  refine TL.pnew rfl rfl rfl (exec_box (cs := r.cells) rfl rfl rfl) (fun g1 => ?_)
  refine TL.pnew rfl rfl rfl (exec_alloc (cs := [.int .i64 0, .int .u32 0, .int .i64 0]) rfl prszv32 rfl) (fun g2 => ?_)
  refine TL.end_ ?_
  refine TX.then_ ?_
  refine TC.seq_ ?_
  refine TC.region ?_
  refine TL.val rfl rfl rfl (gives_field (v := .pointer (some ⟨g1, 0, none⟩)) rfl rfl (fun w => prsfld65_0 _ _ w)) ?_
  refine TL.val rfl rfl rfl (pm_load (k := 1) (i := 0) rfl rfl pcmag3 rfl rfl) ?_
  refine TL.val rfl rfl rfl (gives_field (v := .pointer (some ⟨g1, 4, none⟩)) rfl rfl (fun w => prsfld65_4 _ _ w)) ?_
  refine TL.val rfl rfl rfl (pm_load (k := 1) (i := 4) rfl rfl pcmag30 rfl rfl) ?_
  refine TL.val rfl rfl rfl (gives_field (v := .pointer (some ⟨g1, 5, none⟩)) rfl rfl (fun w => prsfld65_5 _ _ w)) ?_
  refine TL.val rfl rfl rfl (pm_load (k := 1) (i := 5) rfl rfl pcmag3 rfl rfl) ?_
  refine TL.val rfl rfl rfl (gives_build (v := .agg #[.int .i64 r.v, .int .u32 r.dst, .int .i64 r.proto]) rfl rfl (fun w => prsbld32_57312 _ _ _ w)) ?_
  refine TL.pstore (k := 0) (vs := [.int .i64 r.v, .int .u32 r.dst, .int .i64 r.proto]) rfl rfl rfl rfl rfl rfl rfl prssz32 prsone_i64u32i64 (by show 3 ≤ 3; decide) (L' := [.blk g2 32 [.int .i64 r.v, .int .u32 r.dst, .int .i64 r.proto], .blk g1 65 r.cells]) rfl ?_
  refine TL.end_ ?_
  refine TX.then_ ?_
  refine TC.ret_ ?_
  exact pm_ret_cell (k := 0) Tryz.results135 rfl rfl Tryz.underlying32 rfl rfl (fun w1 hw => ⟨rfl, hw.bel⟩)
end Go.Proofs.YtijmpjfafpodhaaGreat

namespace Go.Proofs.YtijmpjfafpodhaaGreat
open Go.RowKit
set_option maxRecDepth 20000
structure Rp where
  kind : Int
  v : Int
  dst : Int
  proto : Int
  flow : Int
  ttl : Int
  at_ : Int
  prov : Int
deriving DecidableEq
def Rp.cells (r : Rp) : List Value := [.int .i64 r.kind, .int .i64 r.v, .int .u32 r.dst, .int .i64 r.proto, .int .i64 r.flow, .int .i64 r.ttl, .int .i64 r.at_, .int .i64 r.prov]
theorem rp_cel : Cel Rp.cells 8 := ⟨fun _ => rfl, fun r u hu => by
  simp only [Rp.cells, List.mem_cons, List.not_mem_nil, or_false] at hu
  rcases hu with rfl | rfl | rfl | rfl | rfl | rfl | rfl | rfl <;> rfl⟩
structure Ru where
  los : Int
  gro : Int
  prb : Int
deriving DecidableEq
def Ru.cells (r : Ru) : List Value := [.int .i64 r.los, .int .i64 r.gro, .int .i64 r.prb]
theorem ru_cel : Cel Ru.cells 3 := ⟨fun _ => rfl, fun r u hu => by
  simp only [Ru.cells, List.mem_cons, List.not_mem_nil, or_false] at hu
  rcases hu with rfl | rfl | rfl <;> rfl⟩
def vldRu (u : Ru) : Bool := decide (1 ≤ u.los ∧ u.los ≤ 64 ∧ 1 ≤ u.prb ∧ u.prb ≤ 64 ∧ 1 ≤ u.gro ∧ u.gro ≤ 1125899906842624)
def Rp.rs (p : Rp) : Rs := ⟨p.v, 0, 0, 0, p.dst, p.proto, p.flow, 1, false, false, 0, 0, 0, 0, 0, 0, 0⟩
def vldRp (p : Rp) : Bool := vldRs p.rs && decide (0 ≤ p.ttl ∧ p.ttl ≤ 255 ∧ 0 ≤ p.at_ ∧ p.at_ ≤ 2251799813685248 ∧ 0 ≤ p.prov ∧ p.prov ≤ 2147483647 ∧ ((p.kind = 1 ∧ p.ttl = 0 ∧ p.prov = 0) ∨ (p.kind = 2 ∧ 0 < p.ttl ∧ 0 < p.prov) ∨ (p.kind = 3 ∧ 0 < p.ttl ∧ p.prov = 0)))
def Rp.keys (p : Rp) : List Int := [p.kind, p.v, p.dst, p.proto, p.flow, p.ttl, p.at_, p.prov]
def cmpRp (x y : Rp) : Int := orI [cmpI x.kind y.kind, cmpI x.v y.v, cmpI x.dst y.dst, cmpI x.proto y.proto, cmpI x.flow y.flow, cmpI x.ttl y.ttl, cmpI x.at_ y.at_, cmpI x.prov y.prov]
def Rp.Ok (p : Rp) : Prop := 0 ≤ p.dst ∧ p.dst ≤ 4294967295
theorem gives_minI {P : Program} {N : Fr} {E : Env} {o : Oper} {I : World → Prop} {x y : Operand} {ts : Array TypeId} {a b : Int} (ho : o.op = .call { callee := .builtin .min, args := #[x, y], argTypes := ts }) (hx : ev E x = some (.int .i64 a)) (hy : ev E y = some (.int .i64 b)) : Gives P N o E I (.int .i64 (min a b)) := fun ac w ha _ => by
  unfold execOp; rw [ho]
  simp only [resolve, invoke, builtin, Sem.run_bind, Sem.run_pure, Result.andThen_ok, List.map_toArray, List.map_cons, List.map_nil, ha.eval hx, ha.eval hy]
  simp [go_sem, Builtin.min_, Builtin.min2]
  try omega
theorem arpfld28_0 (g o : Nat) (w : World) : (Instr.fieldAt 28 (.pointer (some ⟨g, o, none⟩)) 0).run Tryz.prog w = .ok (.pointer (some ⟨g, o + 0, none⟩)) w := by kernel_rfl
theorem arpfld28_2 (g o : Nat) (w : World) : (Instr.fieldAt 28 (.pointer (some ⟨g, o, none⟩)) 2).run Tryz.prog w = .ok (.pointer (some ⟨g, o + 2, none⟩)) w := by kernel_rfl
theorem arpfld28_1 (g o : Nat) (w : World) : (Instr.fieldAt 28 (.pointer (some ⟨g, o, none⟩)) 1).run Tryz.prog w = .ok (.pointer (some ⟨g, o + 1, none⟩)) w := by kernel_rfl
theorem arpfld34_1 (g o : Nat) (w : World) : (Instr.fieldAt 34 (.pointer (some ⟨g, o, none⟩)) 1).run Tryz.prog w = .ok (.pointer (some ⟨g, o + 1, none⟩)) w := by kernel_rfl
theorem arpfld34_2 (g o : Nat) (w : World) : (Instr.fieldAt 34 (.pointer (some ⟨g, o, none⟩)) 2).run Tryz.prog w = .ok (.pointer (some ⟨g, o + 4, none⟩)) w := by kernel_rfl
theorem arpbld65_51257 (a0_0 : Int) (a4_0 : Int) (a5_0 : Int) (a6_0 : Int) (a7_0 : Int) (w : World) : (Instr.build 65 #[(0, .int .i64 a0_0), (4, .int .u32 a4_0), (5, .int .i64 a5_0), (6, .int .i64 a6_0), (7, .int .i64 a7_0)]).run Tryz.prog w = .ok (.agg #[.int .i64 a0_0, .int .i64 0, .int .i64 0, .int .i64 0, .int .u32 a4_0, .int .i64 a5_0, .int .i64 a6_0, .int .i64 a7_0, .bool false, .bool false, .int .i64 0, .int .u32 0, .int .i64 0, .int .i64 0, .int .i64 0, .int .i64 0, .int .i64 0]) w := by kernel_rfl
theorem arpzv65 (w : World) : (zeroValue 65).run Tryz.prog w = .ok (.agg #[.int .i64 0, .int .i64 0, .int .i64 0, .int .i64 0, .int .u32 0, .int .i64 0, .int .i64 0, .int .i64 0, .bool false, .bool false, .int .i64 0, .int .u32 0, .int .i64 0, .int .i64 0, .int .i64 0, .int .i64 0, .int .i64 0]) w := rfl
theorem arpone_i64i64i64i64u32i64i64i64bbi64u32i64i64i64i64i64 {a0 : Int} {a1 : Int} {a2 : Int} {a3 : Int} {a4 : Int} {a5 : Int} {a6 : Int} {a7 : Int} {a8 : Bool} {a9 : Bool} {a10 : Int} {a11 : Int} {a12 : Int} {a13 : Int} {a14 : Int} {a15 : Int} {a16 : Int} : ∀ u ∈ [(.int .i64 a0 : Value), .int .i64 a1, .int .i64 a2, .int .i64 a3, .int .u32 a4, .int .i64 a5, .int .i64 a6, .int .i64 a7, .bool a8, .bool a9, .int .i64 a10, .int .u32 a11, .int .i64 a12, .int .i64 a13, .int .i64 a14, .int .i64 a15, .int .i64 a16], u.oneCell' = true := by
  intro u hu
  simp only [List.mem_cons, List.not_mem_nil, or_false] at hu
  rcases hu with rfl | rfl | rfl | rfl | rfl | rfl | rfl | rfl | rfl | rfl | rfl | rfl | rfl | rfl | rfl | rfl | rfl <;> rfl
theorem arpfld34_3 (g o : Nat) (w : World) : (Instr.fieldAt 34 (.pointer (some ⟨g, o, none⟩)) 3).run Tryz.prog w = .ok (.pointer (some ⟨g, o + 5, none⟩)) w := by kernel_rfl
theorem arpfld34_4 (g o : Nat) (w : World) : (Instr.fieldAt 34 (.pointer (some ⟨g, o, none⟩)) 4).run Tryz.prog w = .ok (.pointer (some ⟨g, o + 6, none⟩)) w := by kernel_rfl
theorem arpfld34_5 (g o : Nat) (w : World) : (Instr.fieldAt 34 (.pointer (some ⟨g, o, none⟩)) 5).run Tryz.prog w = .ok (.pointer (some ⟨g, o + 7, none⟩)) w := by kernel_rfl
theorem arpfld34_0 (g o : Nat) (w : World) : (Instr.fieldAt 34 (.pointer (some ⟨g, o, none⟩)) 0).run Tryz.prog w = .ok (.pointer (some ⟨g, o + 0, none⟩)) w := by kernel_rfl
theorem arpbs106_8_10220 (a0_0 : Int) (a1_0 : Int) (a2_0 : Int) (a3_0 : Int) (a4_0 : Int) (a5_0 : Int) (a6_0 : Int) (a7_0 : Int) (w : World) : (Instr.buildSlice 106 8 #[(0, .int .i64 a0_0), (1, .int .i64 a1_0), (2, .int .i64 a2_0), (3, .int .i64 a3_0), (4, .int .i64 a4_0), (5, .int .i64 a5_0), (6, .int .i64 a6_0), (7, .int .i64 a7_0)]).run Tryz.prog w = .ok (.slice (some ⟨w.heap.size, 0, none⟩) 8 8) (w.alloc (.cells [.int .i64 a0_0, .int .i64 a1_0, .int .i64 a2_0, .int .i64 a3_0, .int .i64 a4_0, .int .i64 a5_0, .int .i64 a6_0, .int .i64 a7_0].toArray 3)) := by kernel_rfl
set_option maxHeartbeats 1000000 in
theorem vldRu_any (u : Ru) (w : World) :
    Calls Tryz.prog 24 #[.agg u.cells.toArray] w fun e w' => e = .returned (.bool (vldRu u)) ∧ Below w.heap.size w w' := by
  refine begin_ (vs := [.agg u.cells.toArray]) Tryz.func24 rfl rfl rfl ?_ (Pm.start w)
  refine TC.seq_ ?_
  refine TC.region ?_
  refine TL.pnew rfl rfl rfl (exec_box (cs := u.cells) rfl rfl rfl) (fun g1 => ?_)
  refine TL.val rfl rfl rfl (gives_assign rfl rfl) ?_
  refine TL.end_ ?_
  refine TX.then_ ?_
  refine TC.seq_ ?_
  refine TC.region ?_
  refine TL.val rfl rfl rfl (gives_field (v := .pointer (some ⟨g1, 0, none⟩)) rfl rfl (fun w => arpfld28_0 _ _ w)) ?_
  refine TL.val rfl rfl rfl (pm_load (k := 0) (i := 0) rfl rfl pcmag3 rfl rfl) ?_
  refine TL.val rfl rfl rfl (gives_field (v := .pointer (some ⟨g1, 2, none⟩)) rfl rfl (fun w => arpfld28_2 _ _ w)) ?_
  refine TL.val rfl rfl rfl (pm_load (k := 0) (i := 2) rfl rfl pcmag3 rfl rfl) ?_
  refine TL.val rfl rfl rfl (gives_minI rfl rfl rfl) ?_
  refine TL.vsplit rfl rfl rfl (gives_bin rfl rfl rfl (fun w => bin_geq w)) (fun h8 => ?_) (fun h8 => ?_)
  · have q8 := of_decide_eq_true h8
    refine TL.val rfl rfl rfl (gives_move rfl rfl) ?_
    refine TL.on rfl rfl rfl ?_
    refine TL.val rfl rfl rfl (gives_field (v := .pointer (some ⟨g1, 0, none⟩)) rfl rfl (fun w => arpfld28_0 _ _ w)) ?_
    refine TL.on rfl rfl rfl ?_
    refine TL.val rfl rfl rfl (pm_load (k := 0) (i := 0) rfl rfl pcmag3 rfl rfl) ?_
    refine TL.on rfl rfl rfl ?_
    refine TL.val rfl rfl rfl (gives_field (v := .pointer (some ⟨g1, 2, none⟩)) rfl rfl (fun w => arpfld28_2 _ _ w)) ?_
    refine TL.on rfl rfl rfl ?_
    refine TL.val rfl rfl rfl (pm_load (k := 0) (i := 2) rfl rfl pcmag3 rfl rfl) ?_
    refine TL.on rfl rfl rfl ?_
    refine TL.val rfl rfl rfl (gives_maxI rfl rfl rfl) ?_
    refine TL.on rfl rfl rfl ?_
    refine TL.vsplit rfl rfl rfl (gives_bin rfl rfl rfl (fun w => bin_leq w)) (fun h15 => ?_) (fun h15 => ?_)
    · have q15 := of_decide_eq_true h15
      refine TL.val rfl rfl rfl (gives_pick rfl rfl rfl) ?_
      refine TL.val rfl rfl rfl (gives_move rfl rfl) ?_
      refine TL.on rfl rfl rfl ?_
      refine TL.val rfl rfl rfl (gives_field (v := .pointer (some ⟨g1, 1, none⟩)) rfl rfl (fun w => arpfld28_1 _ _ w)) ?_
      refine TL.on rfl rfl rfl ?_
      refine TL.val rfl rfl rfl (pm_load (k := 0) (i := 1) rfl rfl pcmag3 rfl rfl) ?_
      refine TL.on rfl rfl rfl ?_
      refine TL.vsplit rfl rfl rfl (gives_bin rfl rfl rfl (fun w => bin_geq w)) (fun h20 => ?_) (fun h20 => ?_)
      · have q20 := of_decide_eq_true h20
        refine TL.val rfl rfl rfl (gives_pick rfl rfl rfl) ?_
        refine TL.val rfl rfl rfl (gives_move rfl rfl) ?_
        refine TL.on rfl rfl rfl ?_
        refine TL.val rfl rfl rfl (gives_field (v := .pointer (some ⟨g1, 1, none⟩)) rfl rfl (fun w => arpfld28_1 _ _ w)) ?_
        refine TL.on rfl rfl rfl ?_
        refine TL.val rfl rfl rfl (pm_load (k := 0) (i := 1) rfl rfl pcmag3 rfl rfl) ?_
        refine TL.on rfl rfl rfl ?_
        refine TL.vsplit rfl rfl rfl (gives_bin rfl rfl rfl (fun w => bin_leq w)) (fun h25 => ?_) (fun h25 => ?_)
        · have q25 := of_decide_eq_true h25
          refine TL.val rfl rfl rfl (gives_pick rfl rfl rfl) ?_
          refine TL.val rfl rfl rfl (gives_assign rfl rfl) ?_
          refine TL.end_ ?_
          refine TX.then_ ?_
          refine TC.ret_ ?_
          have hE : vldRu u = true := by unfold vldRu; exact decide_eq_true (by omega)
          exact ret_tmp Tryz.results24 rfl (fun w1 hw => ⟨by rw [hE], hw.bel⟩)
        · have q25 := of_decide_eq_false h25
          refine TL.val rfl rfl rfl (gives_pick rfl rfl rfl) ?_
          refine TL.val rfl rfl rfl (gives_assign rfl rfl) ?_
          refine TL.end_ ?_
          refine TX.then_ ?_
          refine TC.ret_ ?_
          have hE : vldRu u = false := by unfold vldRu; exact decide_eq_false (by omega)
          exact ret_tmp Tryz.results24 rfl (fun w1 hw => ⟨by rw [hE], hw.bel⟩)
      · have q20 := of_decide_eq_false h20
        refine TL.val rfl rfl rfl (gives_pick rfl rfl rfl) ?_
        refine TL.val rfl rfl rfl (gives_move rfl rfl) ?_
        refine TL.off rfl rfl rfl rfl rfl rfl ?_
        refine TL.off rfl rfl rfl rfl rfl rfl ?_
        refine TL.off rfl rfl rfl rfl rfl rfl ?_
        refine TL.val rfl rfl rfl (gives_pick rfl rfl rfl) ?_
        refine TL.val rfl rfl rfl (gives_assign rfl rfl) ?_
        refine TL.end_ ?_
        refine TX.then_ ?_
        refine TC.ret_ ?_
        have hE : vldRu u = false := by unfold vldRu; exact decide_eq_false (by omega)
        exact ret_tmp Tryz.results24 rfl (fun w1 hw => ⟨by rw [hE], hw.bel⟩)
    · have q15 := of_decide_eq_false h15
      refine TL.val rfl rfl rfl (gives_pick rfl rfl rfl) ?_
      refine TL.val rfl rfl rfl (gives_move rfl rfl) ?_
      refine TL.off rfl rfl rfl rfl rfl rfl ?_
      refine TL.off rfl rfl rfl rfl rfl rfl ?_
      refine TL.off rfl rfl rfl rfl rfl rfl ?_
      refine TL.val rfl rfl rfl (gives_pick rfl rfl rfl) ?_
      refine TL.val rfl rfl rfl (gives_move rfl rfl) ?_
      refine TL.off rfl rfl rfl rfl rfl rfl ?_
      refine TL.off rfl rfl rfl rfl rfl rfl ?_
      refine TL.off rfl rfl rfl rfl rfl rfl ?_
      refine TL.val rfl rfl rfl (gives_pick rfl rfl rfl) ?_
      refine TL.val rfl rfl rfl (gives_assign rfl rfl) ?_
      refine TL.end_ ?_
      refine TX.then_ ?_
      refine TC.ret_ ?_
      have hE : vldRu u = false := by unfold vldRu; exact decide_eq_false (by omega)
      exact ret_tmp Tryz.results24 rfl (fun w1 hw => ⟨by rw [hE], hw.bel⟩)
  · have q8 := of_decide_eq_false h8
    refine TL.val rfl rfl rfl (gives_move rfl rfl) ?_
    refine TL.off rfl rfl rfl rfl rfl rfl ?_
    refine TL.off rfl rfl rfl rfl rfl rfl ?_
    refine TL.off rfl rfl rfl rfl rfl rfl ?_
    refine TL.off rfl rfl rfl rfl rfl rfl ?_
    refine TL.off rfl rfl rfl rfl rfl rfl ?_
    refine TL.off rfl rfl rfl rfl rfl rfl ?_
    refine TL.val rfl rfl rfl (gives_pick rfl rfl rfl) ?_
    refine TL.val rfl rfl rfl (gives_move rfl rfl) ?_
    refine TL.off rfl rfl rfl rfl rfl rfl ?_
    refine TL.off rfl rfl rfl rfl rfl rfl ?_
    refine TL.off rfl rfl rfl rfl rfl rfl ?_
    refine TL.val rfl rfl rfl (gives_pick rfl rfl rfl) ?_
    refine TL.val rfl rfl rfl (gives_move rfl rfl) ?_
    refine TL.off rfl rfl rfl rfl rfl rfl ?_
    refine TL.off rfl rfl rfl rfl rfl rfl ?_
    refine TL.off rfl rfl rfl rfl rfl rfl ?_
    refine TL.val rfl rfl rfl (gives_pick rfl rfl rfl) ?_
    refine TL.val rfl rfl rfl (gives_assign rfl rfl) ?_
    refine TL.end_ ?_
    refine TX.then_ ?_
    refine TC.ret_ ?_
    have hE : vldRu u = false := by unfold vldRu; exact decide_eq_false (by omega)
    exact ret_tmp Tryz.results24 rfl (fun w1 hw => ⟨by rw [hE], hw.bel⟩)
set_option maxHeartbeats 1000000 in
theorem vldRp_any (p : Rp) (w : World) :
    Calls Tryz.prog 27 #[.agg p.cells.toArray] w fun e w' => e = .returned (.bool (vldRp p)) ∧ Below w.heap.size w w' := by
  refine begin_ (vs := [.agg p.cells.toArray]) Tryz.func27 rfl rfl rfl ?_ (Pm.start w)
  refine TC.seq_ ?_
  refine TC.region ?_
  refine TL.pnew rfl rfl rfl (exec_box (cs := p.cells) rfl rfl rfl) (fun g1 => ?_)
  refine TL.val rfl rfl rfl (gives_assign rfl rfl) ?_
  refine TL.end_ ?_
  refine TX.then_ ?_
  refine TC.seq_ ?_
  refine TC.region ?_
  refine TL.val rfl rfl rfl (gives_field (v := .pointer (some ⟨g1, 1, none⟩)) rfl rfl (fun w => arpfld34_1 _ _ w)) ?_
  refine TL.val rfl rfl rfl (gives_field (v := .pointer (some ⟨g1, 1, none⟩)) rfl rfl (fun w => pcmfld32_0 _ _ w)) ?_
  refine TL.val rfl rfl rfl (pm_load (k := 0) (i := 1) rfl rfl pcmag3 rfl rfl) ?_
  refine TL.val rfl rfl rfl (gives_field (v := .pointer (some ⟨g1, 1, none⟩)) rfl rfl (fun w => arpfld34_1 _ _ w)) ?_
  refine TL.val rfl rfl rfl (gives_field (v := .pointer (some ⟨g1, 2, none⟩)) rfl rfl (fun w => pcmfld32_1 _ _ w)) ?_
  refine TL.val rfl rfl rfl (pm_load (k := 0) (i := 2) rfl rfl pcmag30 rfl rfl) ?_
  refine TL.val rfl rfl rfl (gives_field (v := .pointer (some ⟨g1, 1, none⟩)) rfl rfl (fun w => arpfld34_1 _ _ w)) ?_
  refine TL.val rfl rfl rfl (gives_field (v := .pointer (some ⟨g1, 3, none⟩)) rfl rfl (fun w => pcmfld32_2 _ _ w)) ?_
  refine TL.val rfl rfl rfl (pm_load (k := 0) (i := 3) rfl rfl pcmag3 rfl rfl) ?_
  refine TL.val rfl rfl rfl (gives_field (v := .pointer (some ⟨g1, 4, none⟩)) rfl rfl (fun w => arpfld34_2 _ _ w)) ?_
  refine TL.val rfl rfl rfl (pm_load (k := 0) (i := 4) rfl rfl pcmag3 rfl rfl) ?_
  refine TL.val rfl rfl rfl (gives_build (v := .agg #[.int .i64 p.v, .int .i64 0, .int .i64 0, .int .i64 0, .int .u32 p.dst, .int .i64 p.proto, .int .i64 p.flow, .int .i64 1, .bool false, .bool false, .int .i64 0, .int .u32 0, .int .i64 0, .int .i64 0, .int .i64 0, .int .i64 0, .int .i64 0]) rfl rfl (fun w => arpbld65_51257 _ _ _ _ _ w)) ?_
  refine TL.pnew rfl rfl rfl (exec_alloc (cs := [.int .i64 0, .int .i64 0, .int .i64 0, .int .i64 0, .int .u32 0, .int .i64 0, .int .i64 0, .int .i64 0, .bool false, .bool false, .int .i64 0, .int .u32 0, .int .i64 0, .int .i64 0, .int .i64 0, .int .i64 0, .int .i64 0]) rfl arpzv65 rfl) (fun g3 => ?_)
  refine TL.pstore (k := 0) (vs := [.int .i64 p.v, .int .i64 0, .int .i64 0, .int .i64 0, .int .u32 p.dst, .int .i64 p.proto, .int .i64 p.flow, .int .i64 1, .bool false, .bool false, .int .i64 0, .int .u32 0, .int .i64 0, .int .i64 0, .int .i64 0, .int .i64 0, .int .i64 0]) rfl rfl rfl rfl rfl rfl rfl prssz65 arpone_i64i64i64i64u32i64i64i64bbi64u32i64i64i64i64i64 (by show 17 ≤ 17; decide) (L' := [.blk g3 65 [.int .i64 p.v, .int .i64 0, .int .i64 0, .int .i64 0, .int .u32 p.dst, .int .i64 p.proto, .int .i64 p.flow, .int .i64 1, .bool false, .bool false, .int .i64 0, .int .u32 0, .int .i64 0, .int .i64 0, .int .i64 0, .int .i64 0, .int .i64 0], .blk g1 34 p.cells]) rfl ?_
  refine TL.end_ ?_
  refine TX.then_ ?_
  refine TC.seq_ ?_
  refine TC.seq_ ?_
  refine TC.region ?_
  refine TL.val rfl rfl rfl (pm_loadV (k := 0) (i := 0) (n := 17) (v := .agg #[.int .i64 p.v, .int .i64 0, .int .i64 0, .int .i64 0, .int .u32 p.dst, .int .i64 p.proto, .int .i64 p.flow, .int .i64 1, .bool false, .bool false, .int .i64 0, .int .u32 0, .int .i64 0, .int .i64 0, .int .i64 0, .int .i64 0, .int .i64 0]) rfl rfl prsag65 prssz65 rfl (by show 17 ≤ 17; decide) rfl) ?_
  refine TL.callsplit rfl rfl rfl rfl rfl Tryz.func70 prsnm70 prsbd70 (fun w1 hw => vldRs_any (⟨p.v, 0, 0, 0, p.dst, p.proto, p.flow, 1, false, false, 0, 0, 0, 0, 0, 0, 0⟩ : Rs) w1) (fun h18 => ?_) (fun h18 => ?_)
  · refine TL.val rfl rfl rfl (gives_boolnot rfl rfl) ?_
    refine TL.val rfl rfl rfl (gives_move rfl rfl) ?_
    refine TL.on rfl rfl rfl ?_
    refine TL.val rfl rfl rfl (gives_field (v := .pointer (some ⟨g1, 5, none⟩)) rfl rfl (fun w => arpfld34_3 _ _ w)) ?_
    refine TL.on rfl rfl rfl ?_
    refine TL.val rfl rfl rfl (pm_load (k := 1) (i := 5) rfl rfl pcmag3 rfl rfl) ?_
    refine TL.on rfl rfl rfl ?_
    refine TL.vsplit rfl rfl rfl (gives_bin rfl rfl rfl (fun w => bin_lss w)) (fun h23 => ?_) (fun h23 => ?_)
    · have q23 := of_decide_eq_true h23
      refine TL.val rfl rfl rfl (gives_pick rfl rfl rfl) ?_
      refine TL.val rfl rfl rfl (gives_move rfl rfl) ?_
      refine TL.off rfl rfl rfl rfl rfl rfl ?_
      refine TL.off rfl rfl rfl rfl rfl rfl ?_
      refine TL.off rfl rfl rfl rfl rfl rfl ?_
      refine TL.val rfl rfl rfl (gives_pick rfl rfl rfl) ?_
      refine TL.val rfl rfl rfl (gives_move rfl rfl) ?_
      refine TL.off rfl rfl rfl rfl rfl rfl ?_
      refine TL.off rfl rfl rfl rfl rfl rfl ?_
      refine TL.off rfl rfl rfl rfl rfl rfl ?_
      refine TL.val rfl rfl rfl (gives_pick rfl rfl rfl) ?_
      refine TL.val rfl rfl rfl (gives_move rfl rfl) ?_
      refine TL.off rfl rfl rfl rfl rfl rfl ?_
      refine TL.off rfl rfl rfl rfl rfl rfl ?_
      refine TL.off rfl rfl rfl rfl rfl rfl ?_
      refine TL.val rfl rfl rfl (gives_pick rfl rfl rfl) ?_
      refine TL.val rfl rfl rfl (gives_move rfl rfl) ?_
      refine TL.off rfl rfl rfl rfl rfl rfl ?_
      refine TL.off rfl rfl rfl rfl rfl rfl ?_
      refine TL.off rfl rfl rfl rfl rfl rfl ?_
      refine TL.val rfl rfl rfl (gives_pick rfl rfl rfl) ?_
      refine TL.val rfl rfl rfl (gives_move rfl rfl) ?_
      refine TL.off rfl rfl rfl rfl rfl rfl ?_
      refine TL.off rfl rfl rfl rfl rfl rfl ?_
      refine TL.off rfl rfl rfl rfl rfl rfl ?_
      refine TL.val rfl rfl rfl (gives_pick rfl rfl rfl) ?_
      refine TL.end_ ?_
      refine TX.then_ ?_
      refine TC.condT rfl ?_
      refine TC.seq_ ?_
      refine TC.region ?_
      refine TL.val rfl rfl rfl (gives_assign rfl rfl) ?_
      refine TL.end_ ?_
      refine TX.then_ ?_
      refine TC.ret_ ?_
      refine TX.then_ret ?_
      have hE : vldRp p = false := by unfold vldRp; rw [show vldRs p.rs = true from h18, Bool.true_and]; exact decide_eq_false (by omega)
      exact ret_tmp Tryz.results27 rfl (fun w1 hw => ⟨by rw [hE], hw.bel⟩)
    · have q23 := of_decide_eq_false h23
      refine TL.val rfl rfl rfl (gives_pick rfl rfl rfl) ?_
      refine TL.val rfl rfl rfl (gives_move rfl rfl) ?_
      refine TL.on rfl rfl rfl ?_
      refine TL.val rfl rfl rfl (gives_field (v := .pointer (some ⟨g1, 5, none⟩)) rfl rfl (fun w => arpfld34_3 _ _ w)) ?_
      refine TL.on rfl rfl rfl ?_
      refine TL.val rfl rfl rfl (pm_load (k := 1) (i := 5) rfl rfl pcmag3 rfl rfl) ?_
      refine TL.on rfl rfl rfl ?_
      refine TL.vsplit rfl rfl rfl (gives_bin rfl rfl rfl (fun w => bin_gtr w)) (fun h28 => ?_) (fun h28 => ?_)
      · have q28 := of_decide_eq_true h28
        refine TL.val rfl rfl rfl (gives_pick rfl rfl rfl) ?_
        refine TL.val rfl rfl rfl (gives_move rfl rfl) ?_
        refine TL.off rfl rfl rfl rfl rfl rfl ?_
        refine TL.off rfl rfl rfl rfl rfl rfl ?_
        refine TL.off rfl rfl rfl rfl rfl rfl ?_
        refine TL.val rfl rfl rfl (gives_pick rfl rfl rfl) ?_
        refine TL.val rfl rfl rfl (gives_move rfl rfl) ?_
        refine TL.off rfl rfl rfl rfl rfl rfl ?_
        refine TL.off rfl rfl rfl rfl rfl rfl ?_
        refine TL.off rfl rfl rfl rfl rfl rfl ?_
        refine TL.val rfl rfl rfl (gives_pick rfl rfl rfl) ?_
        refine TL.val rfl rfl rfl (gives_move rfl rfl) ?_
        refine TL.off rfl rfl rfl rfl rfl rfl ?_
        refine TL.off rfl rfl rfl rfl rfl rfl ?_
        refine TL.off rfl rfl rfl rfl rfl rfl ?_
        refine TL.val rfl rfl rfl (gives_pick rfl rfl rfl) ?_
        refine TL.val rfl rfl rfl (gives_move rfl rfl) ?_
        refine TL.off rfl rfl rfl rfl rfl rfl ?_
        refine TL.off rfl rfl rfl rfl rfl rfl ?_
        refine TL.off rfl rfl rfl rfl rfl rfl ?_
        refine TL.val rfl rfl rfl (gives_pick rfl rfl rfl) ?_
        refine TL.end_ ?_
        refine TX.then_ ?_
        refine TC.condT rfl ?_
        refine TC.seq_ ?_
        refine TC.region ?_
        refine TL.val rfl rfl rfl (gives_assign rfl rfl) ?_
        refine TL.end_ ?_
        refine TX.then_ ?_
        refine TC.ret_ ?_
        refine TX.then_ret ?_
        have hE : vldRp p = false := by unfold vldRp; rw [show vldRs p.rs = true from h18, Bool.true_and]; exact decide_eq_false (by omega)
        exact ret_tmp Tryz.results27 rfl (fun w1 hw => ⟨by rw [hE], hw.bel⟩)
      · have q28 := of_decide_eq_false h28
        refine TL.val rfl rfl rfl (gives_pick rfl rfl rfl) ?_
        refine TL.val rfl rfl rfl (gives_move rfl rfl) ?_
        refine TL.on rfl rfl rfl ?_
        refine TL.val rfl rfl rfl (gives_field (v := .pointer (some ⟨g1, 6, none⟩)) rfl rfl (fun w => arpfld34_4 _ _ w)) ?_
        refine TL.on rfl rfl rfl ?_
        refine TL.val rfl rfl rfl (pm_load (k := 1) (i := 6) rfl rfl pcmag3 rfl rfl) ?_
        refine TL.on rfl rfl rfl ?_
        refine TL.vsplit rfl rfl rfl (gives_bin rfl rfl rfl (fun w => bin_lss w)) (fun h33 => ?_) (fun h33 => ?_)
        · have q33 := of_decide_eq_true h33
          refine TL.val rfl rfl rfl (gives_pick rfl rfl rfl) ?_
          refine TL.val rfl rfl rfl (gives_move rfl rfl) ?_
          refine TL.off rfl rfl rfl rfl rfl rfl ?_
          refine TL.off rfl rfl rfl rfl rfl rfl ?_
          refine TL.off rfl rfl rfl rfl rfl rfl ?_
          refine TL.val rfl rfl rfl (gives_pick rfl rfl rfl) ?_
          refine TL.val rfl rfl rfl (gives_move rfl rfl) ?_
          refine TL.off rfl rfl rfl rfl rfl rfl ?_
          refine TL.off rfl rfl rfl rfl rfl rfl ?_
          refine TL.off rfl rfl rfl rfl rfl rfl ?_
          refine TL.val rfl rfl rfl (gives_pick rfl rfl rfl) ?_
          refine TL.val rfl rfl rfl (gives_move rfl rfl) ?_
          refine TL.off rfl rfl rfl rfl rfl rfl ?_
          refine TL.off rfl rfl rfl rfl rfl rfl ?_
          refine TL.off rfl rfl rfl rfl rfl rfl ?_
          refine TL.val rfl rfl rfl (gives_pick rfl rfl rfl) ?_
          refine TL.end_ ?_
          refine TX.then_ ?_
          refine TC.condT rfl ?_
          refine TC.seq_ ?_
          refine TC.region ?_
          refine TL.val rfl rfl rfl (gives_assign rfl rfl) ?_
          refine TL.end_ ?_
          refine TX.then_ ?_
          refine TC.ret_ ?_
          refine TX.then_ret ?_
          have hE : vldRp p = false := by unfold vldRp; rw [show vldRs p.rs = true from h18, Bool.true_and]; exact decide_eq_false (by omega)
          exact ret_tmp Tryz.results27 rfl (fun w1 hw => ⟨by rw [hE], hw.bel⟩)
        · have q33 := of_decide_eq_false h33
          refine TL.val rfl rfl rfl (gives_pick rfl rfl rfl) ?_
          refine TL.val rfl rfl rfl (gives_move rfl rfl) ?_
          refine TL.on rfl rfl rfl ?_
          refine TL.val rfl rfl rfl (gives_field (v := .pointer (some ⟨g1, 6, none⟩)) rfl rfl (fun w => arpfld34_4 _ _ w)) ?_
          refine TL.on rfl rfl rfl ?_
          refine TL.val rfl rfl rfl (pm_load (k := 1) (i := 6) rfl rfl pcmag3 rfl rfl) ?_
          refine TL.on rfl rfl rfl ?_
          refine TL.vsplit rfl rfl rfl (gives_bin rfl rfl rfl (fun w => bin_gtr w)) (fun h38 => ?_) (fun h38 => ?_)
          · have q38 := of_decide_eq_true h38
            refine TL.val rfl rfl rfl (gives_pick rfl rfl rfl) ?_
            refine TL.val rfl rfl rfl (gives_move rfl rfl) ?_
            refine TL.off rfl rfl rfl rfl rfl rfl ?_
            refine TL.off rfl rfl rfl rfl rfl rfl ?_
            refine TL.off rfl rfl rfl rfl rfl rfl ?_
            refine TL.val rfl rfl rfl (gives_pick rfl rfl rfl) ?_
            refine TL.val rfl rfl rfl (gives_move rfl rfl) ?_
            refine TL.off rfl rfl rfl rfl rfl rfl ?_
            refine TL.off rfl rfl rfl rfl rfl rfl ?_
            refine TL.off rfl rfl rfl rfl rfl rfl ?_
            refine TL.val rfl rfl rfl (gives_pick rfl rfl rfl) ?_
            refine TL.end_ ?_
            refine TX.then_ ?_
            refine TC.condT rfl ?_
            refine TC.seq_ ?_
            refine TC.region ?_
            refine TL.val rfl rfl rfl (gives_assign rfl rfl) ?_
            refine TL.end_ ?_
            refine TX.then_ ?_
            refine TC.ret_ ?_
            refine TX.then_ret ?_
            have hE : vldRp p = false := by unfold vldRp; rw [show vldRs p.rs = true from h18, Bool.true_and]; exact decide_eq_false (by omega)
            exact ret_tmp Tryz.results27 rfl (fun w1 hw => ⟨by rw [hE], hw.bel⟩)
          · have q38 := of_decide_eq_false h38
            refine TL.val rfl rfl rfl (gives_pick rfl rfl rfl) ?_
            refine TL.val rfl rfl rfl (gives_move rfl rfl) ?_
            refine TL.on rfl rfl rfl ?_
            refine TL.val rfl rfl rfl (gives_field (v := .pointer (some ⟨g1, 7, none⟩)) rfl rfl (fun w => arpfld34_5 _ _ w)) ?_
            refine TL.on rfl rfl rfl ?_
            refine TL.val rfl rfl rfl (pm_load (k := 1) (i := 7) rfl rfl pcmag3 rfl rfl) ?_
            refine TL.on rfl rfl rfl ?_
            refine TL.vsplit rfl rfl rfl (gives_bin rfl rfl rfl (fun w => bin_lss w)) (fun h43 => ?_) (fun h43 => ?_)
            · have q43 := of_decide_eq_true h43
              refine TL.val rfl rfl rfl (gives_pick rfl rfl rfl) ?_
              refine TL.val rfl rfl rfl (gives_move rfl rfl) ?_
              refine TL.off rfl rfl rfl rfl rfl rfl ?_
              refine TL.off rfl rfl rfl rfl rfl rfl ?_
              refine TL.off rfl rfl rfl rfl rfl rfl ?_
              refine TL.val rfl rfl rfl (gives_pick rfl rfl rfl) ?_
              refine TL.end_ ?_
              refine TX.then_ ?_
              refine TC.condT rfl ?_
              refine TC.seq_ ?_
              refine TC.region ?_
              refine TL.val rfl rfl rfl (gives_assign rfl rfl) ?_
              refine TL.end_ ?_
              refine TX.then_ ?_
              refine TC.ret_ ?_
              refine TX.then_ret ?_
              have hE : vldRp p = false := by unfold vldRp; rw [show vldRs p.rs = true from h18, Bool.true_and]; exact decide_eq_false (by omega)
              exact ret_tmp Tryz.results27 rfl (fun w1 hw => ⟨by rw [hE], hw.bel⟩)
            · have q43 := of_decide_eq_false h43
              refine TL.val rfl rfl rfl (gives_pick rfl rfl rfl) ?_
              refine TL.val rfl rfl rfl (gives_move rfl rfl) ?_
              refine TL.on rfl rfl rfl ?_
              refine TL.val rfl rfl rfl (gives_field (v := .pointer (some ⟨g1, 7, none⟩)) rfl rfl (fun w => arpfld34_5 _ _ w)) ?_
              refine TL.on rfl rfl rfl ?_
              refine TL.val rfl rfl rfl (pm_load (k := 1) (i := 7) rfl rfl pcmag3 rfl rfl) ?_
              refine TL.on rfl rfl rfl ?_
              refine TL.vsplit rfl rfl rfl (gives_bin rfl rfl rfl (fun w => bin_gtr w)) (fun h48 => ?_) (fun h48 => ?_)
              · have q48 := of_decide_eq_true h48
                refine TL.val rfl rfl rfl (gives_pick rfl rfl rfl) ?_
                refine TL.end_ ?_
                refine TX.then_ ?_
                refine TC.condT rfl ?_
                refine TC.seq_ ?_
                refine TC.region ?_
                refine TL.val rfl rfl rfl (gives_assign rfl rfl) ?_
                refine TL.end_ ?_
                refine TX.then_ ?_
                refine TC.ret_ ?_
                refine TX.then_ret ?_
                have hE : vldRp p = false := by unfold vldRp; rw [show vldRs p.rs = true from h18, Bool.true_and]; exact decide_eq_false (by omega)
                exact ret_tmp Tryz.results27 rfl (fun w1 hw => ⟨by rw [hE], hw.bel⟩)
              · have q48 := of_decide_eq_false h48
                refine TL.val rfl rfl rfl (gives_pick rfl rfl rfl) ?_
                refine TL.end_ ?_
                refine TX.then_ ?_
                refine TC.condF rfl ?_
                refine TC.skip_ ?_
                refine TX.then_ ?_
                refine TC.seq_ ?_
                refine TC.region ?_
                refine TL.val rfl rfl rfl (gives_field (v := .pointer (some ⟨g1, 5, none⟩)) rfl rfl (fun w => arpfld34_3 _ _ w)) ?_
                refine TL.val rfl rfl rfl (pm_load (k := 1) (i := 5) rfl rfl pcmag3 rfl rfl) ?_
                refine TL.vsplit rfl rfl rfl (gives_bin rfl rfl rfl (fun w => bin_gtr w)) (fun h52 => ?_) (fun h52 => ?_)
                · have q52 := of_decide_eq_true h52
                  refine TL.val rfl rfl rfl (gives_assign rfl rfl) ?_
                  refine TL.end_ ?_
                  refine TX.then_ ?_
                  refine TC.seq_ ?_
                  refine TC.seq_ ?_
                  refine TC.region ?_
                  refine TL.val rfl rfl rfl (gives_field (v := .pointer (some ⟨g1, 0, none⟩)) rfl rfl (fun w => arpfld34_0 _ _ w)) ?_
                  refine TL.val rfl rfl rfl (pm_load (k := 1) (i := 0) rfl rfl pcmag3 rfl rfl) ?_
                  refine TL.end_ ?_
                  refine TX.then_ ?_
                  refine TC.block ?_
                  refine TC.seq_ ?_
                  refine TC.block ?_
                  refine TC.seq_ ?_
                  refine TC.block ?_
                  refine TC.seq_ ?_
                  refine TC.block ?_
                  refine TC.seq_ ?_
                  refine TC.seq_ ?_
                  refine TC.seq_ ?_
                  refine TC.region ?_
                  refine TL.vsplit rfl rfl rfl (gives_bin rfl rfl rfl (fun w => bin_eql w)) (fun h56 => ?_) (fun h56 => ?_)
                  · have q56 := of_decide_eq_true h56
                    refine TL.val rfl rfl rfl (gives_assign rfl rfl) ?_
                    refine TL.end_ ?_
                    refine TX.then_ ?_
                    refine TC.condT rfl ?_
                    refine TC.exit_ ?_
                    refine TX.then_exit ?_
                    refine TX.then_exit ?_
                    refine TX.in_same ?_
                    refine TX.then_ ?_
                    refine TC.region ?_
                    refine TL.val rfl rfl rfl (gives_field (v := .pointer (some ⟨g1, 5, none⟩)) rfl rfl (fun w => arpfld34_3 _ _ w)) ?_
                    refine TL.val rfl rfl rfl (pm_load (k := 1) (i := 5) rfl rfl pcmag3 rfl rfl) ?_
                    refine TL.vsplit rfl rfl rfl (gives_bin rfl rfl rfl (fun w => bin_eql w)) (fun h63 => ?_) (fun h63 => ?_)
                    · have q63 := of_decide_eq_true h63
                      refine TL.val rfl rfl rfl (gives_assign rfl rfl) ?_
                      refine TL.end_ ?_
                      refine TX.in_normal ?_
                      refine TX.then_ ?_
                      refine TC.seq_ ?_
                      refine TC.seq_ ?_
                      refine TC.region ?_
                      refine TL.val rfl rfl rfl (gives_move rfl rfl) ?_
                      refine TL.val rfl rfl rfl (gives_move rfl rfl) ?_
                      refine TL.on rfl rfl rfl ?_
                      refine TL.val rfl rfl rfl (gives_field (v := .pointer (some ⟨g1, 7, none⟩)) rfl rfl (fun w => arpfld34_5 _ _ w)) ?_
                      refine TL.on rfl rfl rfl ?_
                      refine TL.val rfl rfl rfl (pm_load (k := 1) (i := 7) rfl rfl pcmag3 rfl rfl) ?_
                      refine TL.on rfl rfl rfl ?_
                      refine TL.vsplit rfl rfl rfl (gives_bin rfl rfl rfl (fun w => bin_eql w)) (fun h68 => ?_) (fun h68 => ?_)
                      · have q68 := of_decide_eq_true h68
                        refine TL.val rfl rfl rfl (gives_pick rfl rfl rfl) ?_
                        refine TL.val rfl rfl rfl (gives_assign rfl rfl) ?_
                        refine TL.end_ ?_
                        refine TX.then_ ?_
                        refine TC.ret_ ?_
                        refine TX.then_ret ?_
                        refine TX.in_ret ?_
                        refine TX.then_ret ?_
                        refine TX.in_ret ?_
                        refine TX.then_ret ?_
                        have hE : vldRp p = true := by unfold vldRp; rw [show vldRs p.rs = true from h18, Bool.true_and]; exact decide_eq_true (by omega)
                        exact ret_tmp Tryz.results27 rfl (fun w1 hw => ⟨by rw [hE], hw.bel⟩)
                      · have q68 := of_decide_eq_false h68
                        refine TL.val rfl rfl rfl (gives_pick rfl rfl rfl) ?_
                        refine TL.val rfl rfl rfl (gives_assign rfl rfl) ?_
                        refine TL.end_ ?_
                        refine TX.then_ ?_
                        refine TC.ret_ ?_
                        refine TX.then_ret ?_
                        refine TX.in_ret ?_
                        refine TX.then_ret ?_
                        refine TX.in_ret ?_
                        refine TX.then_ret ?_
                        have hE : vldRp p = false := by unfold vldRp; rw [show vldRs p.rs = true from h18, Bool.true_and]; exact decide_eq_false (by omega)
                        exact ret_tmp Tryz.results27 rfl (fun w1 hw => ⟨by rw [hE], hw.bel⟩)
                    · have q63 := of_decide_eq_false h63
                      refine TL.val rfl rfl rfl (gives_assign rfl rfl) ?_
                      refine TL.end_ ?_
                      refine TX.in_normal ?_
                      refine TX.then_ ?_
                      refine TC.seq_ ?_
                      refine TC.seq_ ?_
                      refine TC.region ?_
                      refine TL.val rfl rfl rfl (gives_move rfl rfl) ?_
                      refine TL.val rfl rfl rfl (gives_move rfl rfl) ?_
                      refine TL.off rfl rfl rfl rfl rfl rfl ?_
                      refine TL.off rfl rfl rfl rfl rfl rfl ?_
                      refine TL.off rfl rfl rfl rfl rfl rfl ?_
                      refine TL.val rfl rfl rfl (gives_pick rfl rfl rfl) ?_
                      refine TL.val rfl rfl rfl (gives_assign rfl rfl) ?_
                      refine TL.end_ ?_
                      refine TX.then_ ?_
                      refine TC.ret_ ?_
                      refine TX.then_ret ?_
                      refine TX.in_ret ?_
                      refine TX.then_ret ?_
                      refine TX.in_ret ?_
                      refine TX.then_ret ?_
                      have hE : vldRp p = false := by unfold vldRp; rw [show vldRs p.rs = true from h18, Bool.true_and]; exact decide_eq_false (by omega)
                      exact ret_tmp Tryz.results27 rfl (fun w1 hw => ⟨by rw [hE], hw.bel⟩)
                  · have q56 := of_decide_eq_false h56
                    refine TL.val rfl rfl rfl (gives_assign rfl rfl) ?_
                    refine TL.end_ ?_
                    refine TX.then_ ?_
                    refine TC.condF rfl ?_
                    refine TC.skip_ ?_
                    refine TX.then_ ?_
                    refine TC.seq_ ?_
                    refine TC.seq_ ?_
                    refine TC.region ?_
                    refine TL.vsplit rfl rfl rfl (gives_bin rfl rfl rfl (fun w => bin_eql w)) (fun h58 => ?_) (fun h58 => ?_)
                    · have q58 := of_decide_eq_true h58
                      refine TL.val rfl rfl rfl (gives_assign rfl rfl) ?_
                      refine TL.end_ ?_
                      refine TX.then_ ?_
                      refine TC.condT rfl ?_
                      refine TC.exit_ ?_
                      refine TX.then_exit ?_
                      refine TX.then_exit ?_
                      refine TX.in_other rfl ?_
                      refine TX.then_exit ?_
                      refine TX.in_same ?_
                      refine TX.then_ ?_
                      refine TC.seq_ ?_
                      refine TC.seq_ ?_
                      refine TC.region ?_
                      refine TL.val rfl rfl rfl (gives_move rfl rfl) ?_
                      refine TL.val rfl rfl rfl (gives_move rfl rfl) ?_
                      refine TL.on rfl rfl rfl ?_
                      refine TL.val rfl rfl rfl (gives_field (v := .pointer (some ⟨g1, 7, none⟩)) rfl rfl (fun w => arpfld34_5 _ _ w)) ?_
                      refine TL.on rfl rfl rfl ?_
                      refine TL.val rfl rfl rfl (pm_load (k := 1) (i := 7) rfl rfl pcmag3 rfl rfl) ?_
                      refine TL.on rfl rfl rfl ?_
                      refine TL.vsplit rfl rfl rfl (gives_bin rfl rfl rfl (fun w => bin_eql w)) (fun h68 => ?_) (fun h68 => ?_)
                      · have q68 := of_decide_eq_true h68
                        refine TL.val rfl rfl rfl (gives_pick rfl rfl rfl) ?_
                        refine TL.val rfl rfl rfl (gives_assign rfl rfl) ?_
                        refine TL.end_ ?_
                        refine TX.then_ ?_
                        refine TC.ret_ ?_
                        refine TX.then_ret ?_
                        refine TX.in_ret ?_
                        refine TX.then_ret ?_
                        refine TX.in_ret ?_
                        refine TX.then_ret ?_
                        have hE : vldRp p = true := by unfold vldRp; rw [show vldRs p.rs = true from h18, Bool.true_and]; exact decide_eq_true (by omega)
                        exact ret_tmp Tryz.results27 rfl (fun w1 hw => ⟨by rw [hE], hw.bel⟩)
                      · have q68 := of_decide_eq_false h68
                        refine TL.val rfl rfl rfl (gives_pick rfl rfl rfl) ?_
                        refine TL.val rfl rfl rfl (gives_assign rfl rfl) ?_
                        refine TL.end_ ?_
                        refine TX.then_ ?_
                        refine TC.ret_ ?_
                        refine TX.then_ret ?_
                        refine TX.in_ret ?_
                        refine TX.then_ret ?_
                        refine TX.in_ret ?_
                        refine TX.then_ret ?_
                        have hE : vldRp p = false := by unfold vldRp; rw [show vldRs p.rs = true from h18, Bool.true_and]; exact decide_eq_false (by omega)
                        exact ret_tmp Tryz.results27 rfl (fun w1 hw => ⟨by rw [hE], hw.bel⟩)
                    · have q58 := of_decide_eq_false h58
                      refine TL.val rfl rfl rfl (gives_assign rfl rfl) ?_
                      refine TL.end_ ?_
                      refine TX.then_ ?_
                      refine TC.condF rfl ?_
                      refine TC.skip_ ?_
                      refine TX.then_ ?_
                      refine TC.seq_ ?_
                      refine TC.region ?_
                      refine TL.vsplit rfl rfl rfl (gives_bin rfl rfl rfl (fun w => bin_eql w)) (fun h60 => ?_) (fun h60 => ?_)
                      · have q60 := of_decide_eq_true h60
                        refine TL.val rfl rfl rfl (gives_assign rfl rfl) ?_
                        refine TL.end_ ?_
                        refine TX.then_ ?_
                        refine TC.condT rfl ?_
                        refine TC.exit_ ?_
                        refine TX.then_exit ?_
                        refine TX.in_other rfl ?_
                        refine TX.then_exit ?_
                        refine TX.in_other rfl ?_
                        refine TX.then_exit ?_
                        refine TX.in_same ?_
                        refine TX.then_ ?_
                        refine TC.seq_ ?_
                        refine TC.seq_ ?_
                        refine TC.region ?_
                        refine TL.val rfl rfl rfl (gives_move rfl rfl) ?_
                        refine TL.val rfl rfl rfl (gives_move rfl rfl) ?_
                        refine TL.on rfl rfl rfl ?_
                        refine TL.val rfl rfl rfl (gives_field (v := .pointer (some ⟨g1, 7, none⟩)) rfl rfl (fun w => arpfld34_5 _ _ w)) ?_
                        refine TL.on rfl rfl rfl ?_
                        refine TL.val rfl rfl rfl (pm_load (k := 1) (i := 7) rfl rfl pcmag3 rfl rfl) ?_
                        refine TL.on rfl rfl rfl ?_
                        refine TL.vsplit rfl rfl rfl (gives_bin rfl rfl rfl (fun w => bin_gtr w)) (fun h74 => ?_) (fun h74 => ?_)
                        · have q74 := of_decide_eq_true h74
                          refine TL.val rfl rfl rfl (gives_pick rfl rfl rfl) ?_
                          refine TL.val rfl rfl rfl (gives_assign rfl rfl) ?_
                          refine TL.end_ ?_
                          refine TX.then_ ?_
                          refine TC.ret_ ?_
                          refine TX.then_ret ?_
                          refine TX.in_ret ?_
                          refine TX.then_ret ?_
                          have hE : vldRp p = true := by unfold vldRp; rw [show vldRs p.rs = true from h18, Bool.true_and]; exact decide_eq_true (by omega)
                          exact ret_tmp Tryz.results27 rfl (fun w1 hw => ⟨by rw [hE], hw.bel⟩)
                        · have q74 := of_decide_eq_false h74
                          refine TL.val rfl rfl rfl (gives_pick rfl rfl rfl) ?_
                          refine TL.val rfl rfl rfl (gives_assign rfl rfl) ?_
                          refine TL.end_ ?_
                          refine TX.then_ ?_
                          refine TC.ret_ ?_
                          refine TX.then_ret ?_
                          refine TX.in_ret ?_
                          refine TX.then_ret ?_
                          have hE : vldRp p = false := by unfold vldRp; rw [show vldRs p.rs = true from h18, Bool.true_and]; exact decide_eq_false (by omega)
                          exact ret_tmp Tryz.results27 rfl (fun w1 hw => ⟨by rw [hE], hw.bel⟩)
                      · have q60 := of_decide_eq_false h60
                        refine TL.val rfl rfl rfl (gives_assign rfl rfl) ?_
                        refine TL.end_ ?_
                        refine TX.then_ ?_
                        refine TC.condF rfl ?_
                        refine TC.skip_ ?_
                        refine TX.then_ ?_
                        refine TC.exit_ ?_
                        refine TX.in_other rfl ?_
                        refine TX.then_exit ?_
                        refine TX.in_other rfl ?_
                        refine TX.then_exit ?_
                        refine TX.in_other rfl ?_
                        refine TX.then_exit ?_
                        refine TX.in_same ?_
                        refine TX.then_ ?_
                        refine TC.seq_ ?_
                        refine TC.region ?_
                        refine TL.val rfl rfl rfl (gives_assign rfl rfl) ?_
                        refine TL.end_ ?_
                        refine TX.then_ ?_
                        refine TC.ret_ ?_
                        have hE : vldRp p = false := by unfold vldRp; rw [show vldRs p.rs = true from h18, Bool.true_and]; exact decide_eq_false (by omega)
                        exact ret_tmp Tryz.results27 rfl (fun w1 hw => ⟨by rw [hE], hw.bel⟩)
                · have q52 := of_decide_eq_false h52
                  refine TL.val rfl rfl rfl (gives_assign rfl rfl) ?_
                  refine TL.end_ ?_
                  refine TX.then_ ?_
                  refine TC.seq_ ?_
                  refine TC.seq_ ?_
                  refine TC.region ?_
                  refine TL.val rfl rfl rfl (gives_field (v := .pointer (some ⟨g1, 0, none⟩)) rfl rfl (fun w => arpfld34_0 _ _ w)) ?_
                  refine TL.val rfl rfl rfl (pm_load (k := 1) (i := 0) rfl rfl pcmag3 rfl rfl) ?_
                  refine TL.end_ ?_
                  refine TX.then_ ?_
                  refine TC.block ?_
                  refine TC.seq_ ?_
                  refine TC.block ?_
                  refine TC.seq_ ?_
                  refine TC.block ?_
                  refine TC.seq_ ?_
                  refine TC.block ?_
                  refine TC.seq_ ?_
                  refine TC.seq_ ?_
                  refine TC.seq_ ?_
                  refine TC.region ?_
                  refine TL.vsplit rfl rfl rfl (gives_bin rfl rfl rfl (fun w => bin_eql w)) (fun h56 => ?_) (fun h56 => ?_)
                  · have q56 := of_decide_eq_true h56
                    refine TL.val rfl rfl rfl (gives_assign rfl rfl) ?_
                    refine TL.end_ ?_
                    refine TX.then_ ?_
                    refine TC.condT rfl ?_
                    refine TC.exit_ ?_
                    refine TX.then_exit ?_
                    refine TX.then_exit ?_
                    refine TX.in_same ?_
                    refine TX.then_ ?_
                    refine TC.region ?_
                    refine TL.val rfl rfl rfl (gives_field (v := .pointer (some ⟨g1, 5, none⟩)) rfl rfl (fun w => arpfld34_3 _ _ w)) ?_
                    refine TL.val rfl rfl rfl (pm_load (k := 1) (i := 5) rfl rfl pcmag3 rfl rfl) ?_
                    refine TL.vsplit rfl rfl rfl (gives_bin rfl rfl rfl (fun w => bin_eql w)) (fun h63 => ?_) (fun h63 => ?_)
                    · have q63 := of_decide_eq_true h63
                      refine TL.val rfl rfl rfl (gives_assign rfl rfl) ?_
                      refine TL.end_ ?_
                      refine TX.in_normal ?_
                      refine TX.then_ ?_
                      refine TC.seq_ ?_
                      refine TC.seq_ ?_
                      refine TC.region ?_
                      refine TL.val rfl rfl rfl (gives_move rfl rfl) ?_
                      refine TL.val rfl rfl rfl (gives_move rfl rfl) ?_
                      refine TL.on rfl rfl rfl ?_
                      refine TL.val rfl rfl rfl (gives_field (v := .pointer (some ⟨g1, 7, none⟩)) rfl rfl (fun w => arpfld34_5 _ _ w)) ?_
                      refine TL.on rfl rfl rfl ?_
                      refine TL.val rfl rfl rfl (pm_load (k := 1) (i := 7) rfl rfl pcmag3 rfl rfl) ?_
                      refine TL.on rfl rfl rfl ?_
                      refine TL.vsplit rfl rfl rfl (gives_bin rfl rfl rfl (fun w => bin_eql w)) (fun h68 => ?_) (fun h68 => ?_)
                      · have q68 := of_decide_eq_true h68
                        refine TL.val rfl rfl rfl (gives_pick rfl rfl rfl) ?_
                        refine TL.val rfl rfl rfl (gives_assign rfl rfl) ?_
                        refine TL.end_ ?_
                        refine TX.then_ ?_
                        refine TC.ret_ ?_
                        refine TX.then_ret ?_
                        refine TX.in_ret ?_
                        refine TX.then_ret ?_
                        refine TX.in_ret ?_
                        refine TX.then_ret ?_
                        have hE : vldRp p = true := by unfold vldRp; rw [show vldRs p.rs = true from h18, Bool.true_and]; exact decide_eq_true (by omega)
                        exact ret_tmp Tryz.results27 rfl (fun w1 hw => ⟨by rw [hE], hw.bel⟩)
                      · have q68 := of_decide_eq_false h68
                        refine TL.val rfl rfl rfl (gives_pick rfl rfl rfl) ?_
                        refine TL.val rfl rfl rfl (gives_assign rfl rfl) ?_
                        refine TL.end_ ?_
                        refine TX.then_ ?_
                        refine TC.ret_ ?_
                        refine TX.then_ret ?_
                        refine TX.in_ret ?_
                        refine TX.then_ret ?_
                        refine TX.in_ret ?_
                        refine TX.then_ret ?_
                        have hE : vldRp p = false := by unfold vldRp; rw [show vldRs p.rs = true from h18, Bool.true_and]; exact decide_eq_false (by omega)
                        exact ret_tmp Tryz.results27 rfl (fun w1 hw => ⟨by rw [hE], hw.bel⟩)
                    · have q63 := of_decide_eq_false h63
                      refine TL.val rfl rfl rfl (gives_assign rfl rfl) ?_
                      refine TL.end_ ?_
                      refine TX.in_normal ?_
                      refine TX.then_ ?_
                      refine TC.seq_ ?_
                      refine TC.seq_ ?_
                      refine TC.region ?_
                      refine TL.val rfl rfl rfl (gives_move rfl rfl) ?_
                      refine TL.val rfl rfl rfl (gives_move rfl rfl) ?_
                      refine TL.off rfl rfl rfl rfl rfl rfl ?_
                      refine TL.off rfl rfl rfl rfl rfl rfl ?_
                      refine TL.off rfl rfl rfl rfl rfl rfl ?_
                      refine TL.val rfl rfl rfl (gives_pick rfl rfl rfl) ?_
                      refine TL.val rfl rfl rfl (gives_assign rfl rfl) ?_
                      refine TL.end_ ?_
                      refine TX.then_ ?_
                      refine TC.ret_ ?_
                      refine TX.then_ret ?_
                      refine TX.in_ret ?_
                      refine TX.then_ret ?_
                      refine TX.in_ret ?_
                      refine TX.then_ret ?_
                      have hE : vldRp p = false := by unfold vldRp; rw [show vldRs p.rs = true from h18, Bool.true_and]; exact decide_eq_false (by omega)
                      exact ret_tmp Tryz.results27 rfl (fun w1 hw => ⟨by rw [hE], hw.bel⟩)
                  · have q56 := of_decide_eq_false h56
                    refine TL.val rfl rfl rfl (gives_assign rfl rfl) ?_
                    refine TL.end_ ?_
                    refine TX.then_ ?_
                    refine TC.condF rfl ?_
                    refine TC.skip_ ?_
                    refine TX.then_ ?_
                    refine TC.seq_ ?_
                    refine TC.seq_ ?_
                    refine TC.region ?_
                    refine TL.vsplit rfl rfl rfl (gives_bin rfl rfl rfl (fun w => bin_eql w)) (fun h58 => ?_) (fun h58 => ?_)
                    · have q58 := of_decide_eq_true h58
                      refine TL.val rfl rfl rfl (gives_assign rfl rfl) ?_
                      refine TL.end_ ?_
                      refine TX.then_ ?_
                      refine TC.condT rfl ?_
                      refine TC.exit_ ?_
                      refine TX.then_exit ?_
                      refine TX.then_exit ?_
                      refine TX.in_other rfl ?_
                      refine TX.then_exit ?_
                      refine TX.in_same ?_
                      refine TX.then_ ?_
                      refine TC.seq_ ?_
                      refine TC.seq_ ?_
                      refine TC.region ?_
                      refine TL.val rfl rfl rfl (gives_move rfl rfl) ?_
                      refine TL.val rfl rfl rfl (gives_move rfl rfl) ?_
                      refine TL.off rfl rfl rfl rfl rfl rfl ?_
                      refine TL.off rfl rfl rfl rfl rfl rfl ?_
                      refine TL.off rfl rfl rfl rfl rfl rfl ?_
                      refine TL.val rfl rfl rfl (gives_pick rfl rfl rfl) ?_
                      refine TL.val rfl rfl rfl (gives_assign rfl rfl) ?_
                      refine TL.end_ ?_
                      refine TX.then_ ?_
                      refine TC.ret_ ?_
                      refine TX.then_ret ?_
                      refine TX.in_ret ?_
                      refine TX.then_ret ?_
                      refine TX.in_ret ?_
                      refine TX.then_ret ?_
                      have hE : vldRp p = false := by unfold vldRp; rw [show vldRs p.rs = true from h18, Bool.true_and]; exact decide_eq_false (by omega)
                      exact ret_tmp Tryz.results27 rfl (fun w1 hw => ⟨by rw [hE], hw.bel⟩)
                    · have q58 := of_decide_eq_false h58
                      refine TL.val rfl rfl rfl (gives_assign rfl rfl) ?_
                      refine TL.end_ ?_
                      refine TX.then_ ?_
                      refine TC.condF rfl ?_
                      refine TC.skip_ ?_
                      refine TX.then_ ?_
                      refine TC.seq_ ?_
                      refine TC.region ?_
                      refine TL.vsplit rfl rfl rfl (gives_bin rfl rfl rfl (fun w => bin_eql w)) (fun h60 => ?_) (fun h60 => ?_)
                      · have q60 := of_decide_eq_true h60
                        refine TL.val rfl rfl rfl (gives_assign rfl rfl) ?_
                        refine TL.end_ ?_
                        refine TX.then_ ?_
                        refine TC.condT rfl ?_
                        refine TC.exit_ ?_
                        refine TX.then_exit ?_
                        refine TX.in_other rfl ?_
                        refine TX.then_exit ?_
                        refine TX.in_other rfl ?_
                        refine TX.then_exit ?_
                        refine TX.in_same ?_
                        refine TX.then_ ?_
                        refine TC.seq_ ?_
                        refine TC.seq_ ?_
                        refine TC.region ?_
                        refine TL.val rfl rfl rfl (gives_move rfl rfl) ?_
                        refine TL.val rfl rfl rfl (gives_move rfl rfl) ?_
                        refine TL.off rfl rfl rfl rfl rfl rfl ?_
                        refine TL.off rfl rfl rfl rfl rfl rfl ?_
                        refine TL.off rfl rfl rfl rfl rfl rfl ?_
                        refine TL.val rfl rfl rfl (gives_pick rfl rfl rfl) ?_
                        refine TL.val rfl rfl rfl (gives_assign rfl rfl) ?_
                        refine TL.end_ ?_
                        refine TX.then_ ?_
                        refine TC.ret_ ?_
                        refine TX.then_ret ?_
                        refine TX.in_ret ?_
                        refine TX.then_ret ?_
                        have hE : vldRp p = false := by unfold vldRp; rw [show vldRs p.rs = true from h18, Bool.true_and]; exact decide_eq_false (by omega)
                        exact ret_tmp Tryz.results27 rfl (fun w1 hw => ⟨by rw [hE], hw.bel⟩)
                      · have q60 := of_decide_eq_false h60
                        refine TL.val rfl rfl rfl (gives_assign rfl rfl) ?_
                        refine TL.end_ ?_
                        refine TX.then_ ?_
                        refine TC.condF rfl ?_
                        refine TC.skip_ ?_
                        refine TX.then_ ?_
                        refine TC.exit_ ?_
                        refine TX.in_other rfl ?_
                        refine TX.then_exit ?_
                        refine TX.in_other rfl ?_
                        refine TX.then_exit ?_
                        refine TX.in_other rfl ?_
                        refine TX.then_exit ?_
                        refine TX.in_same ?_
                        refine TX.then_ ?_
                        refine TC.seq_ ?_
                        refine TC.region ?_
                        refine TL.val rfl rfl rfl (gives_assign rfl rfl) ?_
                        refine TL.end_ ?_
                        refine TX.then_ ?_
                        refine TC.ret_ ?_
                        have hE : vldRp p = false := by unfold vldRp; rw [show vldRs p.rs = true from h18, Bool.true_and]; exact decide_eq_false (by omega)
                        exact ret_tmp Tryz.results27 rfl (fun w1 hw => ⟨by rw [hE], hw.bel⟩)
  · refine TL.val rfl rfl rfl (gives_boolnot rfl rfl) ?_
    refine TL.val rfl rfl rfl (gives_move rfl rfl) ?_
    refine TL.off rfl rfl rfl rfl rfl rfl ?_
    refine TL.off rfl rfl rfl rfl rfl rfl ?_
    refine TL.off rfl rfl rfl rfl rfl rfl ?_
    refine TL.val rfl rfl rfl (gives_pick rfl rfl rfl) ?_
    refine TL.val rfl rfl rfl (gives_move rfl rfl) ?_
    refine TL.off rfl rfl rfl rfl rfl rfl ?_
    refine TL.off rfl rfl rfl rfl rfl rfl ?_
    refine TL.off rfl rfl rfl rfl rfl rfl ?_
    refine TL.val rfl rfl rfl (gives_pick rfl rfl rfl) ?_
    refine TL.val rfl rfl rfl (gives_move rfl rfl) ?_
    refine TL.off rfl rfl rfl rfl rfl rfl ?_
    refine TL.off rfl rfl rfl rfl rfl rfl ?_
    refine TL.off rfl rfl rfl rfl rfl rfl ?_
    refine TL.val rfl rfl rfl (gives_pick rfl rfl rfl) ?_
    refine TL.val rfl rfl rfl (gives_move rfl rfl) ?_
    refine TL.off rfl rfl rfl rfl rfl rfl ?_
    refine TL.off rfl rfl rfl rfl rfl rfl ?_
    refine TL.off rfl rfl rfl rfl rfl rfl ?_
    refine TL.val rfl rfl rfl (gives_pick rfl rfl rfl) ?_
    refine TL.val rfl rfl rfl (gives_move rfl rfl) ?_
    refine TL.off rfl rfl rfl rfl rfl rfl ?_
    refine TL.off rfl rfl rfl rfl rfl rfl ?_
    refine TL.off rfl rfl rfl rfl rfl rfl ?_
    refine TL.val rfl rfl rfl (gives_pick rfl rfl rfl) ?_
    refine TL.val rfl rfl rfl (gives_move rfl rfl) ?_
    refine TL.off rfl rfl rfl rfl rfl rfl ?_
    refine TL.off rfl rfl rfl rfl rfl rfl ?_
    refine TL.off rfl rfl rfl rfl rfl rfl ?_
    refine TL.val rfl rfl rfl (gives_pick rfl rfl rfl) ?_
    refine TL.end_ ?_
    refine TX.then_ ?_
    refine TC.condT rfl ?_
    refine TC.seq_ ?_
    refine TC.region ?_
    refine TL.val rfl rfl rfl (gives_assign rfl rfl) ?_
    refine TL.end_ ?_
    refine TX.then_ ?_
    refine TC.ret_ ?_
    refine TX.then_ret ?_
    have hE : vldRp p = false := by unfold vldRp; rw [show vldRs p.rs = false from h18]; rfl
    exact ret_tmp Tryz.results27 rfl (fun w1 hw => ⟨by rw [hE], hw.bel⟩)
set_option maxHeartbeats 1000000 in
theorem cmpRp_any (x y : Rp) (w : World) :
    Calls Tryz.prog 33 #[.agg x.cells.toArray, .agg y.cells.toArray] w fun e w' => e = .returned (.int .i64 (cmpRp x y)) ∧ Below w.heap.size w w' := by
  refine begin_ (vs := [.agg x.cells.toArray, .agg y.cells.toArray]) Tryz.func33 rfl rfl rfl ?_ (Pm.start w)
  refine TC.seq_ ?_
  refine TC.region ?_
  refine TL.pnew rfl rfl rfl (exec_box (cs := x.cells) rfl rfl rfl) (fun g2 => ?_)
  refine TL.pnew rfl rfl rfl (exec_box (cs := y.cells) rfl rfl rfl) (fun g3 => ?_)
  refine TL.val rfl rfl rfl (gives_assign rfl rfl) ?_
  refine TL.end_ ?_
  refine TX.then_ ?_
  refine TC.seq_ ?_
  refine TC.tail 46 (by kernel_rfl) (by kernel_rfl) (fun w hw => hw.drawn _) ?_
  refine TS.val rfl rfl rfl (gives_field (v := .pointer (some ⟨g2, 0, none⟩)) rfl rfl (fun w => arpfld34_0 _ _ w)) ?_
  refine TS.val rfl rfl rfl (pm_load (k := 1) (i := 0) rfl rfl pcmag3 rfl rfl) ?_
  refine TS.val rfl rfl rfl (gives_field (v := .pointer (some ⟨g3, 0, none⟩)) rfl rfl (fun w => arpfld34_0 _ _ w)) ?_
  refine TS.val rfl rfl rfl (pm_load (k := 0) (i := 0) rfl rfl pcmag3 rfl rfl) ?_
  refine TS.call (r := .int .i64 (cmpI x.kind y.kind)) rfl rfl rfl rfl rfl Tryz.func79 pcmnm79 pcmbd79 (fun w1 hw => cmpI_any x.kind y.kind w1) ?_
  refine TS.val rfl rfl rfl (gives_field (v := .pointer (some ⟨g2, 1, none⟩)) rfl rfl (fun w => arpfld34_1 _ _ w)) ?_
  refine TS.val rfl rfl rfl (gives_field (v := .pointer (some ⟨g2, 1, none⟩)) rfl rfl (fun w => pcmfld32_0 _ _ w)) ?_
  refine TS.val rfl rfl rfl (pm_load (k := 1) (i := 1) rfl rfl pcmag3 rfl rfl) ?_
  refine TS.val rfl rfl rfl (gives_field (v := .pointer (some ⟨g3, 1, none⟩)) rfl rfl (fun w => arpfld34_1 _ _ w)) ?_
  refine TS.val rfl rfl rfl (gives_field (v := .pointer (some ⟨g3, 1, none⟩)) rfl rfl (fun w => pcmfld32_0 _ _ w)) ?_
  refine TS.val rfl rfl rfl (pm_load (k := 0) (i := 1) rfl rfl pcmag3 rfl rfl) ?_
  refine TS.call (r := .int .i64 (cmpI x.v y.v)) rfl rfl rfl rfl rfl Tryz.func79 pcmnm79 pcmbd79 (fun w1 hw => cmpI_any x.v y.v w1) ?_
  refine TS.val rfl rfl rfl (gives_field (v := .pointer (some ⟨g2, 1, none⟩)) rfl rfl (fun w => arpfld34_1 _ _ w)) ?_
  refine TS.val rfl rfl rfl (gives_field (v := .pointer (some ⟨g2, 2, none⟩)) rfl rfl (fun w => pcmfld32_1 _ _ w)) ?_
  refine TS.val rfl rfl rfl (pm_load (k := 1) (i := 2) rfl rfl pcmag30 rfl rfl) ?_
  refine TS.val rfl rfl rfl (gives_field (v := .pointer (some ⟨g3, 1, none⟩)) rfl rfl (fun w => arpfld34_1 _ _ w)) ?_
  refine TS.val rfl rfl rfl (gives_field (v := .pointer (some ⟨g3, 2, none⟩)) rfl rfl (fun w => pcmfld32_1 _ _ w)) ?_
  refine TS.val rfl rfl rfl (pm_load (k := 0) (i := 2) rfl rfl pcmag30 rfl rfl) ?_
  refine TS.call (r := .int .i64 (cmpI x.dst y.dst)) rfl rfl rfl rfl rfl Tryz.func80 pcmnm80 pcmbd80 (fun w1 hw => cmpA_any x.dst y.dst w1) ?_
  refine TS.val rfl rfl rfl (gives_field (v := .pointer (some ⟨g2, 1, none⟩)) rfl rfl (fun w => arpfld34_1 _ _ w)) ?_
  refine TS.val rfl rfl rfl (gives_field (v := .pointer (some ⟨g2, 3, none⟩)) rfl rfl (fun w => pcmfld32_2 _ _ w)) ?_
  refine TS.val rfl rfl rfl (pm_load (k := 1) (i := 3) rfl rfl pcmag3 rfl rfl) ?_
  refine TS.val rfl rfl rfl (gives_field (v := .pointer (some ⟨g3, 1, none⟩)) rfl rfl (fun w => arpfld34_1 _ _ w)) ?_
  refine TS.val rfl rfl rfl (gives_field (v := .pointer (some ⟨g3, 3, none⟩)) rfl rfl (fun w => pcmfld32_2 _ _ w)) ?_
  refine TS.val rfl rfl rfl (pm_load (k := 0) (i := 3) rfl rfl pcmag3 rfl rfl) ?_
  refine TS.call (r := .int .i64 (cmpI x.proto y.proto)) rfl rfl rfl rfl rfl Tryz.func79 pcmnm79 pcmbd79 (fun w1 hw => cmpI_any x.proto y.proto w1) ?_
  refine TS.val rfl rfl rfl (gives_field (v := .pointer (some ⟨g2, 4, none⟩)) rfl rfl (fun w => arpfld34_2 _ _ w)) ?_
  refine TS.val rfl rfl rfl (pm_load (k := 1) (i := 4) rfl rfl pcmag3 rfl rfl) ?_
  refine TS.val rfl rfl rfl (gives_field (v := .pointer (some ⟨g3, 4, none⟩)) rfl rfl (fun w => arpfld34_2 _ _ w)) ?_
  refine TS.val rfl rfl rfl (pm_load (k := 0) (i := 4) rfl rfl pcmag3 rfl rfl) ?_
  refine TS.call (r := .int .i64 (cmpI x.flow y.flow)) rfl rfl rfl rfl rfl Tryz.func79 pcmnm79 pcmbd79 (fun w1 hw => cmpI_any x.flow y.flow w1) ?_
  refine TS.val rfl rfl rfl (gives_field (v := .pointer (some ⟨g2, 5, none⟩)) rfl rfl (fun w => arpfld34_3 _ _ w)) ?_
  refine TS.val rfl rfl rfl (pm_load (k := 1) (i := 5) rfl rfl pcmag3 rfl rfl) ?_
  refine TS.val rfl rfl rfl (gives_field (v := .pointer (some ⟨g3, 5, none⟩)) rfl rfl (fun w => arpfld34_3 _ _ w)) ?_
  refine TS.val rfl rfl rfl (pm_load (k := 0) (i := 5) rfl rfl pcmag3 rfl rfl) ?_
  refine TS.call (r := .int .i64 (cmpI x.ttl y.ttl)) rfl rfl rfl rfl rfl Tryz.func79 pcmnm79 pcmbd79 (fun w1 hw => cmpI_any x.ttl y.ttl w1) ?_
  refine TS.val rfl rfl rfl (gives_field (v := .pointer (some ⟨g2, 6, none⟩)) rfl rfl (fun w => arpfld34_4 _ _ w)) ?_
  refine TS.val rfl rfl rfl (pm_load (k := 1) (i := 6) rfl rfl pcmag3 rfl rfl) ?_
  refine TS.val rfl rfl rfl (gives_field (v := .pointer (some ⟨g3, 6, none⟩)) rfl rfl (fun w => arpfld34_4 _ _ w)) ?_
  refine TS.val rfl rfl rfl (pm_load (k := 0) (i := 6) rfl rfl pcmag3 rfl rfl) ?_
  refine TS.call (r := .int .i64 (cmpI x.at_ y.at_)) rfl rfl rfl rfl rfl Tryz.func79 pcmnm79 pcmbd79 (fun w1 hw => cmpI_any x.at_ y.at_ w1) ?_
  refine TS.val rfl rfl rfl (gives_field (v := .pointer (some ⟨g2, 7, none⟩)) rfl rfl (fun w => arpfld34_5 _ _ w)) ?_
  refine TS.val rfl rfl rfl (pm_load (k := 1) (i := 7) rfl rfl pcmag3 rfl rfl) ?_
  refine TS.val rfl rfl rfl (gives_field (v := .pointer (some ⟨g3, 7, none⟩)) rfl rfl (fun w => arpfld34_5 _ _ w)) ?_
  refine TS.val rfl rfl rfl (pm_load (k := 0) (i := 7) rfl rfl pcmag3 rfl rfl) ?_
  refine TS.call (r := .int .i64 (cmpI x.prov y.prov)) rfl rfl rfl rfl rfl Tryz.func79 pcmnm79 pcmbd79 (fun w1 hw => cmpI_any x.prov y.prov w1) ?_
  refine TS.end_ ?_
  refine TL.prowS (e := 3) (size := 1) (cs := flat (ic .i64) [cmpI x.kind y.kind, cmpI x.v y.v, cmpI x.dst y.dst, cmpI x.proto y.proto, cmpI x.flow y.flow, cmpI x.ttl y.ttl, cmpI x.at_ y.at_, cmpI x.prov y.prov]) rfl rfl rfl rfl rfl (fun w => arpbs106_8_10220 _ _ _ _ _ _ _ _ w) (by decide) rfl (fun g51 => ?_)
  refine TL.pcall1 (r := .int .i64 (orI [cmpI x.kind y.kind, cmpI x.v y.v, cmpI x.dst y.dst, cmpI x.proto y.proto, cmpI x.flow y.flow, cmpI x.ttl y.ttl, cmpI x.at_ y.at_, cmpI x.prov y.prov])) rfl rfl rfl rfl rfl Tryz.func78 pcmnm78 pcmbd78 (fun w1 hw => orI_any (some ⟨g51, 0, none⟩) 8 8 ([cmpI x.kind y.kind, cmpI x.v y.v, cmpI x.dst y.dst, cmpI x.proto y.proto, cmpI x.flow y.flow, cmpI x.ttl y.ttl, cmpI x.at_ y.at_, cmpI x.prov y.prov]) w1 (pm_rd hw (k := 0) rfl) rfl (by show 8 ≤ 100000; decide)) ?_
  refine TL.val rfl rfl rfl (gives_assign rfl rfl) ?_
  refine TL.end_ ?_
  refine TX.then_ ?_
  refine TC.ret_ ?_
  exact ret_tmp Tryz.results33 rfl (fun w1 hw => ⟨rfl, hw.bel⟩)
end Go.Proofs.YtijmpjfafpodhaaGreat

namespace Go
def Result.Mono {α : Type} (d : Nat) : Result α → Prop
  | .ok _ w => d ≤ w.drawn
  | .halt _ w => d ≤ w.drawn
theorem World.ask_mono {α : Type} (s : Ask α) : ∀ w : World, w.drawn ≤ (w.ask s).2.drawn := by
  induction s with
  | done a => intro w; simp [World.ask]
  | ask what range k ih =>
    intro w
    simp only [World.ask]
    split
    · exact ih _ w
    · exact Nat.le_trans (Nat.le_succ _) (ih _ { w with drawn := w.drawn + 1 })
theorem World.sys_mono (w : World) (c : Sys) : w.drawn ≤ (w.sys c).2.drawn := by
  have h := World.ask_mono (Kernel.perform c w.os) w
  unfold World.sys
  generalize World.ask w (Kernel.perform c w.os) = x at h ⊢
  split
  · exact Nat.le_refl _
  · exact h
theorem World.drawn_freeze (w : World) (a : Addr) (n : Nat) : (w.freeze a n).drawn = w.drawn := by
  unfold World.freeze; split <;> rfl
theorem World.drawn_viewStore {p : Program} {w : World} {at_ : Addr} {u : TypeId} {k : Addr} {v : Value} {atomic : Bool} {r : World × List Addr} (h : w.viewStore p at_ u k v atomic = .ok r) : r.1.drawn = w.drawn := by
  unfold World.viewStore at h
  simp only [bind, Except.bind, pure, Except.pure] at h
  repeat' (split at h)
  all_goals first | (cases h; done) | skip
  all_goals (try (injection h with h; subst h; rfl))
theorem World.drawn_farStore {p : Program} {w : World} {a : Addr} {v : Value} {atomic : Bool} {r : World × List Addr} (h : w.farStore p a v atomic = .ok r) : r.1.drawn = w.drawn := by
  unfold World.farStore at h
  split at h
  · split at h
    · rename_i h1; cases h; exact World.drawn_viewStore h1
    · cases h
  · cases h
theorem Sem.run_mono {α : Type} (p : Program) (s : Sem α) : ∀ w : World, (s.run p w).Mono w.drawn := by
  induction s with
  | pure a => intro w; exact Nat.le_refl _
  | load m a k ih =>
    intro w
    simp only [Sem.run]
    split
    · exact ih _ w
    · split
      · exact ih _ w
      · exact Nat.le_refl _
  | store m a v k ih =>
    intro w
    cases v
    case agg => exact Nat.le_refl _
    case tuple => exact Nat.le_refl _
    all_goals
      simp only [Sem.run]
      split
      · split
        · exact Nat.le_refl _
        · exact ih (w.setCell a _)
      · split
        · rename_i h; have := ih ‹World›; rw [show World.drawn _ = w.drawn from World.drawn_farStore h] at this; exact this
        · exact Nat.le_refl _
  | new o k ih => intro w; exact ih w.heap.size { w with heap := w.heap.push o }
  | shape r k ih => intro w; exact ih (w.shape? r) w
  | freeze a n k ih => intro w; have := ih (w.freeze a n); rw [World.drawn_freeze] at this; exact this
  | frozen a k ih => intro w; exact ih (w.frozen? a) w
  | getObj r k ih =>
    intro w
    simp only [Sem.run]
    split
    · exact Nat.le_refl _
    · exact ih _ w
    · exact Nat.le_refl _
  | setObj r o k ih =>
    intro w
    simp only [Sem.run]
    split
    · exact Nat.le_refl _
    · exact ih { w with heap := w.heap.setIfInBounds r o }
    · exact Nat.le_refl _
  | choose q k ih =>
    intro w
    simp only [Sem.run]
    split
    · exact ih 0 w
    · have := ih (q.cut (w.tape w.drawn q)) { w with drawn := w.drawn + 1 }
      revert this
      cases Sem.run p (k (q.cut (w.tape w.drawn q))) { w with drawn := w.drawn + 1 } <;> exact fun h => Nat.le_trans (Nat.le_succ _) h
  | sys c k ih =>
    intro w
    have h1 := w.sys_mono c
    have := ih (w.sys c).1 (w.sys c).2
    show (Sem.run p (k (w.sys c).1) (w.sys c).2).Mono w.drawn
    revert this
    cases Sem.run p (k (w.sys c).1) (w.sys c).2 <;> exact fun h => Nat.le_trans h1 h
  | program k ih => intro w; exact ih p w
  | mark m k ih => intro w; exact ih w
  | halt h => intro w; exact Nat.le_refl _
section
variable {α : Type} {p : Program} {s : Sem α} {w w' : World} {a : α} {hh : Halt} {es es' : Array Event}
theorem Sem.ok_mono (h : s.run p w = .ok a w') : w.drawn ≤ w'.drawn := by have := Sem.run_mono p s w; rw [h] at this; exact this
theorem Sem.halt_mono (h : s.run p w = .halt hh w') : w.drawn ≤ w'.drawn := by have := Sem.run_mono p s w; rw [h] at this; exact this
theorem Sem.runT_mono (p : Program) (s : Sem α) (w : World) (es : Array Event) : (s.runT p w es).1.Mono w.drawn := by rw [Sem.runT_eq]; exact Sem.run_mono p s w
theorem Sem.okT_mono (h : s.runT p w es = (.ok a w', es')) : w.drawn ≤ w'.drawn := by have := Sem.runT_mono p s w es; rw [h] at this; exact this
theorem Sem.haltT_mono (h : s.runT p w es = (.halt hh w', es')) : w.drawn ≤ w'.drawn := by have := Sem.runT_mono p s w es; rw [h] at this; exact this
end
def GStep.Mono (d : Nat) : GStep → Prop
  | .go _ w _ => d ≤ w.drawn
  | .comm _ _ _ _ w _ => d ≤ w.drawn
  | .spawn _ _ w _ => d ≤ w.drawn
  | .count _ w _ => d ≤ w.drawn
  | .timer _ _ w _ => d ≤ w.drawn
  | .alone _ _ w _ => d ≤ w.drawn
  | .newcoro _ _ _ w _ => d ≤ w.drawn
  | .coroswitch _ _ _ w _ => d ≤ w.drawn
  | .collect _ w _ => d ≤ w.drawn
  | .watch _ w _ => d ≤ w.drawn
  | .ended _ _ _ => True
theorem GStep.Mono.after {d : Nat} {s : GStep} (es : Array Event) (h : s.Mono d) : (s.after es).Mono d := by
  cases s <;> exact h
theorem GStep.Mono.up {d d' : Nat} {s : GStep} (h : s.Mono d) (hd : d' ≤ d) : s.Mono d' := by
  cases s <;> first | exact Nat.le_trans hd h | trivial
theorem GStep.ite_mono {d : Nat} {c : Prop} [Decidable c] {a b : GStep} (ha : a.Mono d) (hb : b.Mono d) : (if c then a else b).Mono d := by
  split
  · exact ha
  · exact hb
variable {p : Program} {w : World}
theorem endWith_mono (fd : Nat) (t : ByteArray) (o : Outcome) (d : Nat) : (endWith w fd t o).Mono d := by
  unfold endWith
  extract_lets cannot
  split
  · split <;> trivial
  · trivial
  · trivial
theorem endThrow_mono (fr : Frame) (m : String) : (endThrow fr m w).Mono w.drawn := Nat.le_refl _
theorem endPrinting_mono (fr : Frame) (v : Value) : (endPrinting p fr v w).Mono w.drawn := by
  unfold endPrinting
  simp only []
  split
  · exact endThrow_mono _ _
  · trivial
theorem endFatal_mono (fr : Frame) (cs : List Frame) (dy : Option Dying) (m : String) : (endFatal p fr cs dy m w).Mono w.drawn := by
  unfold endFatal
  extract_lets chain raw shown
  have h := Sem.run_mono p shown w
  generalize shown.run p w = r at h ⊢
  cases r with
  | ok v w1 => exact h
  | halt hh w1 => cases hh <;> trivial
theorem writeOn_mono (fr : Frame) (d : Dying) (f : Fatal) : (writeOn p fr d f w).Mono w.drawn := by
  unfold writeOn
  extract_lets on
  split
  · trivial
  · extract_lets
    split
    all_goals first | trivial | exact Sem.okT_mono (by assumption) | exact Sem.haltT_mono (by assumption)
theorem die_mono (fr : Frame) (d : Dying) : (die p fr d w).Mono w.drawn := by
  unfold die
  split
  · exact writeOn_mono _ _ _
  · split
    · split
      · exact Nat.le_refl _
      · exact endWith_mono _ _ _ _
    · extract_lets
      split
      · exact Nat.le_refl _
      · split
        all_goals first | trivial | exact Sem.ok_mono (by assumption)
      · rename_i t recv name _
        have h := Sem.runT_mono p (invoke (.fn (.method name) #[]) #[.iface t recv]) w #[]
        generalize (invoke (.fn (.method name) #[]) #[.iface t recv]).runT p w #[] = r at h ⊢
        obtain ⟨r, es⟩ := r
        refine GStep.Mono.after _ ?_
        simp only [Result.Mono] at h
        split
        all_goals first | trivial | exact h | exact (endPrinting_mono _ _).up h
      · trivial
theorem doReturn_mono (main : Bool) (fr : Frame) (cs : List Frame) (dy : Option Dying) (v : Value) : (doReturn p main fr cs dy v w).Mono w.drawn := by
  unfold doReturn
  split
  · split
    all_goals exact Nat.le_refl _
  · split
    · exact Nat.le_refl _
    · trivial
    · split
      · exact Nat.le_refl _
      · split
        · exact Nat.le_refl _
        · trivial
theorem callDeferred_mono (fr : Frame) (cs : List Frame) (dy : Option Dying) (d : Deferred) : (callDeferred p fr cs dy d w).Mono w.drawn := by
  unfold callDeferred
  refine GStep.ite_mono trivial ?_
  · have h := Sem.runT_mono p (invoke d.target d.args) w #[]
    generalize (invoke d.target d.args).runT p w #[] = r at h ⊢
    obtain ⟨r, es⟩ := r
    refine GStep.Mono.after _ ?_
    simp only [Result.Mono] at h
    cases r with
    | ok v w1 =>
      cases v
      all_goals first | trivial | exact h | skip
      case recover =>
        dsimp only
        split <;> exact h
      case alone b _ => cases b <;> first | trivial | exact h
      case coroswitch _ b => cases b <;> first | trivial | exact h
    | halt hh w1 =>
      cases hh
      all_goals first | trivial | exact h | exact (endFatal_mono _ _ _ _).up h | exact (endThrow_mono _ _).up h
theorem unwind_mono (main : Bool) (fr : Frame) (cs : List Frame) (dy : Option Dying) : (unwind p main fr cs dy w).Mono w.drawn := by
  unfold unwind
  split
  · rename_i block _ _ _
    have h := Sem.runT_mono p (Instr.takeDeferred block) w #[]
    generalize (Instr.takeDeferred block).runT p w #[] = r at h ⊢
    obtain ⟨r, es⟩ := r
    refine GStep.Mono.after _ ?_
    simp only [Result.Mono] at h
    cases r <;> first | trivial | exact h
  · exact callDeferred_mono _ _ _ _
  · split
    · trivial
    · split
      · trivial
      · split
        · exact Nat.le_refl _
        · split
          · split
            · exact Nat.le_refl _
            · split
              all_goals first | trivial | exact Sem.ok_mono (by assumption)
          · split
            · exact endPrinting_mono _ _
            · trivial
    · split
      · exact doReturn_mono _ _ _ _ _
      · rename_i fn _
        have h := Sem.runT_mono p (results fn fr.tmps) w #[]
        generalize (results fn fr.tmps).runT p w #[] = r at h ⊢
        obtain ⟨r, es⟩ := r
        refine GStep.Mono.after _ ?_
        simp only [Result.Mono] at h
        cases r with
        | ok v w1 => exact (doReturn_mono _ _ _ _ _).up h
        | halt hh w1 => cases hh <;> trivial
theorem early_mono (fr : Frame) (cs : List Frame) (dy : Option Dying) (g : Nat) : (early p fr cs dy g w).Mono w.drawn := by
  unfold early
  extract_lets refuse notYet
  have hn : ∀ w1 : World, (notYet w1).Mono w1.drawn := fun w1 => by
    show GStep.Mono _ (match w1.heap[g]? with | some (.pending c elem) => _ | _ => _)
    split
    · exact Nat.le_refl _
    · trivial
  split
  · exact hn w
  · split
    · trivial
    · extract_lets there
      have ht : ∀ w1 : World, (there w1).Mono w1.drawn := fun w1 => Nat.le_refl _
      split
      · exact hn w
      · split
        · exact hn w
        · split
          · trivial
          · exact ht w
          · trivial
          · exact hn w
          · split
            · exact ht w
            · split
              · exact hn w
              · split
                · exact (hn _).up (Sem.ok_mono (by assumption))
                · exact (ht _).up (Sem.ok_mono (by assumption))
                · trivial
theorem apply_mono (fr : Frame) (cs : List Frame) (dy : Option Dying) (s : Sem Next) (listen : Bool) : (stepG.apply p listen fr cs dy s w).Mono w.drawn := by
  unfold stepG.apply
  extract_lets go kind
  have h : (if listen = true then s.runT p w #[] else (s.run p w, #[])).1.Mono w.drawn := by
    split
    · exact Sem.runT_mono p s w #[]
    · exact Sem.run_mono p s w
  generalize (if listen = true then s.runT p w #[] else (s.run p w, #[])) = r at h ⊢
  obtain ⟨r, es⟩ := r
  refine GStep.Mono.after _ ?_
  simp only [Result.Mono] at h
  cases r with
  | ok v w1 =>
    cases v
    all_goals first | trivial | exact h | skip
    all_goals dsimp only
    case spawn =>
      refine GStep.ite_mono ?_ ?_
      · exact (endThrow_mono _ _).up h
      · exact h
    all_goals (split <;> exact h)
  | halt hh w1 =>
    cases hh
    all_goals first | trivial | exact h | exact (endFatal_mono _ _ _ _).up h | exact (endThrow_mono _ _).up h | skip
    case unsupported u => cases u <;> first | trivial | exact (early_mono _ _ _ _).up h
theorem oper_mono (fr : Frame) (cs : List Frame) (dy : Option Dying) (listen : Bool) : (stepG.oper p listen fr cs dy w).Mono w.drawn := by
  unfold stepG.oper
  split
  · trivial
  · split
    · exact apply_mono _ _ _ _ _
    · exact apply_mono _ _ _ _ _
theorem exec_mono (main : Bool) (fr : Frame) (cs : List Frame) (dy : Option Dying) (listen : Bool) : (stepG.exec p main listen fr cs dy w).Mono w.drawn := by
  unfold stepG.exec
  extract_lets go to lost leave
  have hgo : ∀ f, (go f w).Mono w.drawn := fun f => Nat.le_refl _
  have hto : ∀ f, (to f).Mono w.drawn := fun f => Nat.le_refl _
  have hleave : ∀ j, (leave j).Mono w.drawn := fun j => by
    show GStep.Mono _ (match fr.roundOf with | none => _ | some l => _)
    cases fr.roundOf with
    | none => exact GStep.ite_mono (Nat.le_refl _) trivial
    | some l =>
      refine GStep.Mono.after _ ?_
      have h := Sem.runT_mono p (Instr.endRound l j) w #[]
      generalize ((Instr.endRound l j).runT p w #[]).1 = r at h ⊢
      simp only [Result.Mono] at h
      cases r with
      | ok v w1 => exact (doReturn_mono _ _ _ _ _).up h
      | halt hh w1 => trivial
  clear_value leave
  split
  all_goals first | exact hleave _ | exact hto _ | trivial | exact apply_mono _ _ _ _ _ | skip
  · split
    · exact hto _
    · trivial
  · rename_i id k _
    cases exitTo id k with
    | none => exact hleave _
    | some l => exact hto _
  · rename_i l k _
    cases gotoIn l k with
    | none => exact hleave _
    | some l => exact hto _
  · rename_i f params assign body k _
    have h := Sem.runT_mono p (Instr.enterLoop fr.fn fr.tmps params assign body fr.roundOf) w #[]
    generalize (Instr.enterLoop fr.fn fr.tmps params assign body fr.roundOf).runT p w #[] = r at h ⊢
    obtain ⟨r, es⟩ := r
    refine GStep.Mono.after _ ?_
    simp only [Result.Mono] at h
    cases r with
    | ok v w1 => exact (apply_mono _ _ _ _ _).up h
    | halt hh w1 => trivial
  · rename_i l k _
    have h := Sem.runT_mono p (Instr.endLoop l) w #[]
    generalize (Instr.endLoop l).runT p w #[] = r at h ⊢
    obtain ⟨r, es⟩ := r
    refine GStep.Mono.after _ ?_
    simp only [Result.Mono] at h
    cases r with
    | ok v w1 => exact h
    | halt hh w1 => cases hh <;> first | trivial | exact h
  · rename_i row args _ _
    cases Extern.next row with
    | none => trivial
    | some e => exact apply_mono _ _ _ _ _
  · refine GStep.ite_mono (hto _) ?_
    split
    · exact Sem.ok_mono (by assumption)
    · trivial
  · refine GStep.ite_mono ?_ ?_
    · exact oper_mono _ _ _ _
    · exact Nat.le_refl _
theorem stepG_mono (main : Bool) (g : Goroutine) (listen : Bool) : (stepG p main g w listen).Mono w.drawn := by
  unfold stepG
  obtain ⟨fr, cs, st, dy, of⟩ := g
  dsimp only
  split
  · exact die_mono _ _
  · exact exec_mono _ _ _ _ _
  · exact unwind_mono _ _ _ _
def Stepped.Mono (d : Nat) : Stepped → Prop
  | .next m => d ≤ m.world.drawn
  | .ended _ _ => True
theorem Stepped.Mono.up {d d' : Nat} {s : Stepped} (h : s.Mono d) (hd : d' ≤ d) : s.Mono d' := by
  cases s <;> first | exact Nat.le_trans hd h | trivial
theorem waitingAt_mono {rest : Rest} {cases_ : Array CommCase} {w1 : World} (h : waitingAt rest cases_ w = some w1) : w.drawn ≤ w1.drawn := by
  unfold waitingAt at h
  split at h
  · split at h
    · cases h; exact Nat.le_refl _
    · cases h
  · cases h; exact Nat.le_refl _
theorem communicate_mono (rest : Rest) (gs : Array Goroutine) (i : Nat) (g : Goroutine) (cs : Array CommCase) (b : Bool) (sh : CommShape) : (communicate p rest gs i g cs b sh w).1.Mono w.drawn := by
  unfold communicate
  extract_lets put illMade me other ready pick
  split
  · trivial
  · split
    · split
      · split
        · exact waitingAt_mono (by assumption)
        · trivial
      · exact Nat.le_refl _
    · have h := Sem.run_mono p pick w
      generalize pick.run p w = r at h ⊢
      simp only [Result.Mono] at h
      cases r with
      | halt hh w1 => trivial
      | ok v w1 =>
        obtain ⟨k, c, way⟩ := v
        dsimp only at h ⊢
        split
        · split
          · exact Nat.le_trans h (Sem.halt_mono (by assumption))
          · trivial
        · exact h
        · exact h
        · split
          · exact h
          · split
            · rename_i h2
              have h3 := Sem.ok_mono h2
              exact Nat.le_trans h h3
            · trivial
        · exact h
        · exact h
        · trivial
theorem look_mono (gs : Array Goroutine) (rest : Rest) : (look p gs rest w).Mono w.drawn := by
  unfold look
  split
  · dsimp only
    split
    · trivial
    · split
      · trivial
      · split
        · rename_i h
          have h2 := Sem.ok_mono h
          exact h2
        · trivial
        · trivial
  · trivial
theorem drain_mono (c : Nat) : (drain w c).2.drawn = w.drawn := by
  unfold drain; split <;> rfl
theorem retime_mono (m : Machine) (k : Nat) (t : Timer) (a b : Nat) : (retime m k t a b).2.world.drawn = m.world.drawn := by
  unfold retime
  cases t.chan with
  | none => rfl
  | some c => exact drain_mono c
theorem timerOp_mono {m : Machine} {op : TimerOp} {v : Value} {m1 : Machine} (h : timerOp m op = .ok (v, m1)) : m.world.drawn ≤ m1.world.drawn := by
  unfold timerOp at h
  split at h
  · split at h
    · cases h; exact Nat.le_refl _
    · split at h
      · split at h
        · cases h
        · cases h; exact Nat.le_refl _
      · cases h
  · unfold timerOp.named at h
    split at h
    · injection h with h; rw [show m1 = _ from (congrArg Prod.snd h).symm, retime_mono]; exact Nat.le_refl _
    · cases h
  · split at h
    · rename_i m2 hm
      unfold timerOp.opened at hm
      have h0 : m2.world.drawn = m.world.drawn := by
        split at hm
        · split at hm
          · cases hm; rfl
          · cases hm
        · cases hm; rfl
      unfold timerOp.named at h
      split at h
      · injection h with h; rw [show m1 = _ from (congrArg Prod.snd h).symm, retime_mono, h0]; exact Nat.le_refl _
      · cases h
    · cases h
  · cases h; exact Nat.le_refl _
theorem runT_mono (m : Machine) (i : Nat) (listen : Bool) : (runT p m i listen).1.Mono m.world.drawn := by
  unfold runT
  extract_lets rest world
  split
  rename_i g gs _
  extract_lets wake fn pos s ops done
  have h : s.Mono m.world.drawn := stepG_mono _ _ _
  clear_value s
  cases s with
  | ended => trivial
  | comm g cs b sh w es => exact (communicate_mono _ _ _ _ _ _ _).up h
  | go => exact h
  | spawn => exact h
  | count => 
    dsimp only [done]
    split
    · trivial
    · exact h
  | alone => exact h
  | collect => exact (look_mono _ _).up h
  | watch => exact h
  | newcoro => exact h
  | coroswitch g c exit w es => 
    dsimp only [done]
    split
    · exact h
    · exact h
    · trivial
  | timer g op w es =>
    dsimp only [done]
    split
    · exact Nat.le_trans h (timerOp_mono (by assumption))
    · exact h
    · trivial
    · trivial
def Move.Mono (d : Nat) : Move → Prop
  | .goroutine m _ => d ≤ m.world.drawn
  | .machine s _ => s.Mono d
theorem Move.Mono.up {d d' : Nat} {s : Move} (h : Move.Mono d s) (hd : d' ≤ d) : s.Mono d' := by
  cases s with
  | goroutine m i => exact Nat.le_trans hd h
  | machine s ops => exact Stepped.Mono.up h hd
theorem serve_mono (m : Machine) (k : Nat) : (serve p m k).Mono m.world.drawn := by
  unfold serve
  split
  · trivial
  · exact Nat.le_refl _
  · dsimp only
    split
    · trivial
    · exact Nat.le_refl _
theorem askOn_mono (m : Machine) : (askOn p m).Mono m.world.drawn := by
  unfold askOn
  extract_lets mono rs ds pick
  have hp : ∀ m1 : Machine, (pick m1).Mono m1.world.drawn := fun m1 => by
    show Move.Mono _ (match (choose (.sched rs.length)).run p m1.world with | .halt _ w => _ | .ok k world => _)
    split
    · trivial
    · rename_i h
      have h1 := Sem.ok_mono h
      split
      · exact h1
      · split
        · trivial
        · rename_i h2
          exact Nat.le_trans h1 (Sem.ok_mono h2)
  clear_value pick
  clear_value rs ds mono
  have hq : ∀ (d : Nat) (m1 : Machine), d ≤ m1.world.drawn → (pick m1).Mono d := fun d m1 h => Move.Mono.up (hp m1) h
  split
  · trivial
  · rename_i h
    have h1 := Sem.ok_mono h
    clear h
    dsimp only
    split
    · exact (serve_mono _ _).up h1
    · cases rs with
      | nil =>
        dsimp only
        split
        · exact h1
        · split
          · exact h1
          · split <;> trivial
      | cons r rs =>
        dsimp only
        split
        · exact hq _ _ h1
        · split
          · trivial
          · rename_i h2
            have h3 := Sem.ok_mono h2
            exact hq _ _ (Nat.le_trans h1 h3)
          · rename_i h2
            have h3 := Sem.ok_mono h2
            exact Nat.le_trans h1 h3
          · rename_i h2
            have h3 := Sem.ok_mono h2
            exact hq _ _ (Nat.le_trans h1 h3)
theorem ask_mono (m : Machine) : (ask p m).Mono m.world.drawn := by
  unfold ask
  split
  · split
    · trivial
    · rename_i h
      have h1 := Sem.ok_mono h
      split
      · rename_i m2 h2
        have h3 := look_mono (p := p) (w := by assumption) m.gs m.rest
        rw [h2] at h3
        exact Move.Mono.up (askOn_mono _) (Nat.le_trans h1 h3)
      · rename_i h2
        have h3 := look_mono (p := p) (w := by assumption) m.gs m.rest
        revert h3
        generalize look p m.gs m.rest _ = s
        intro h3
        exact h3.up h1
    · rename_i h
      exact Move.Mono.up (askOn_mono _) (Sem.ok_mono h)
  · exact askOn_mono m
theorem move_mono (m : Machine) : (move p m).Mono m.world.drawn := by
  unfold move
  split
  · split
    · exact Nat.le_refl _
    · trivial
  · split
    · split
      · exact Nat.le_refl _
      · exact ask_mono { m with rest := { m.rest with slice := none } }
    · exact ask_mono m
theorem step_mono (m : Machine) : (step p m).Mono m.world.drawn := by
  unfold step stepT
  have h := move_mono (p := p) m
  generalize move p m = mv at h ⊢
  cases mv with
  | goroutine m1 i => exact (runT_mono m1 i _).up h
  | machine s ops => exact h
theorem runN_mono (n : Nat) : ∀ m m' : Machine, runN p n m = .next m' → m.world.drawn ≤ m'.world.drawn := by
  induction n with
  | zero => intro m m' h; cases h; exact Nat.le_refl _
  | succ n ih =>
    intro m m' h
    have h1 := step_mono (p := p) m
    unfold runN at h
    generalize step p m = s at h h1
    cases s with
    | next m1 => exact Nat.le_trans h1 (ih m1 m' h)
    | ended o w => cases h
theorem Calls.drawn {f : FuncId} {args : Array Value} {R : Ending → World → Prop} (h : Calls p f args w R) (hr : ∀ e w', R e w' → ∃ v, e = .returned v) :
    Calls p f args w fun e w' => R e w' ∧ w.drawn ≤ w'.drawn := fun cs => by
  obtain ⟨e, w', fr, r, s, x⟩ := h cs
  refine ⟨e, w', fr, ⟨r, ?_⟩, s, x⟩
  obtain ⟨v, rfl⟩ := hr e w' r
  obtain ⟨n, hn⟩ := s
  exact runN_mono n _ _ hn
end Go

namespace Go.Proofs.YtijmpjfafpodhaaGreat
open Go.RowKit
def RwG (e : TypeId) (size : Nat) (w : World) (g n c : Nat) (xs : List Value) : Prop := w.ownsRow g e size (.slice (some ⟨g, 0, none⟩) n c) n xs
theorem RwG.obj {e : TypeId} {size : Nat} {w : World} {g n c : Nat} {xs : List Value} (h : RwG e size w g n c xs) : (∃ o, w.heap[g]? = some o) ∧ n ≤ c ∧ c ≤ maxLen := by
  rcases h.2 with ⟨e1, _⟩ | ⟨g', cap, cur, a, hb, hg, hn, hm, r⟩
  · cases e1
  · cases a
    exact ⟨⟨_, hg⟩, hn, hm⟩
theorem Pm.rowStartG {e : TypeId} {size : Nat} {w : World} {g n c : Nat} {xs : List Value} (h : RwG e size w g n c xs) : Pm ⟨wbut w g, g⟩ (.row (.slice (some ⟨g, 0, none⟩) n c) e size n xs :: oths g w) w := by
  obtain ⟨⟨o, ho⟩, _⟩ := h.obj
  have hp := Pm.mapStart ho
  refine ⟨hp.bel, fun q hq => ?_, ?_, hp.oth, hp.low⟩
  · rcases List.mem_cons.1 hq with rfl | hq
    · exact h
    · exact hp.own q (List.mem_cons_of_mem _ hq)
  · have := List.pairwise_cons.1 hp.apart
    exact List.Pairwise.cons (fun q hq x hx => this.1 q hq x hx) this.2
theorem pm_rowAtG {w0 : Base} {L : List Pc} {w : World} {k g n c : Nat} {e : TypeId} {size : Nat} {xs : List Value} (h : Pm w0 L w) (hk : L[k]? = some (.row (.slice (some ⟨g, 0, none⟩) n c) e size n xs)) : RwG e size w g n c xs := by
  have h1 := h.at_ hk
  refine ⟨h1.1, ?_⟩
  rcases h1.2 with ⟨e1, _⟩ | ⟨g', cap, cur, a, hb, r⟩
  · cases e1
  · cases a
    exact .inr ⟨g, _, cur, rfl, Nat.le_refl _, r⟩
theorem RwG.head {e : TypeId} {size : Nat} {w : World} {g n c m : Nat} {xs : List Value} (h : RwG e size w g n c xs) (hm : m ≤ n) : RwG e size w g m c (xs.take (m * size)) := by
  obtain ⟨h1, h2⟩ := h
  refine ⟨?_, ?_⟩
  · rw [List.length_take, h1]
    exact Nat.min_eq_left (Nat.mul_le_mul_right _ hm)
  · rcases h2 with ⟨e1, h2⟩ | ⟨g', cap, cur, a1, hb, hgg, hn, hmx, hs1, ht1⟩
    · cases e1
    · cases a1
      refine .inr ⟨g, c, cur, rfl, hb, hgg, by omega, hmx, hs1, ?_⟩
      rw [← ht1, List.take_take, Nat.min_eq_left (Nat.mul_le_mul_right _ hm)]
section
variable {P : Program} {N : Fr} {Q : Exit → Act → World → Prop} {E : Env} {w0 : Base} {L : List Pc} {ops : Array Oper} {l : List Oper} {o : Oper}
end
end Go.Proofs.YtijmpjfafpodhaaGreat

namespace Go.Proofs.YtijmpjfafpodhaaGreat
open Go Go.RowKit Go.Shelf Go.Sort
theorem grow_of_below {w w' : World} (h : Go.RowKit.Below w.heap.size w w') (hd : w.drawn ≤ w'.drawn) : ∃ q os, w' = grow (w.drewN q) os := by
  refine ⟨w'.drawn - w.drawn, w'.heap.extract w.heap.size w'.heap.size, ?_⟩
  have e1 : w'.heap = w.heap ++ w'.heap.extract w.heap.size w'.heap.size := by
    apply Array.ext_getElem?
    intro i
    by_cases hi : i < w.heap.size
    · rw [Array.getElem?_append_left hi]; exact h.block i hi
    · rw [Array.getElem?_append_right (by omega), Array.getElem?_extract]
      by_cases h2 : i < w'.heap.size
      · rw [if_pos (by omega), show w.heap.size + (i - w.heap.size) = i by omega]
      · rw [if_neg (by omega), Array.getElem?_eq_none (by omega)]
  have e2 : w.drawn + (w'.drawn - w.drawn) = w'.drawn := by omega
  have h1 := h.os; have h3 := h.tape; have h4 := h.output
  obtain ⟨heap, tape, drawn, os, output⟩ := w
  obtain ⟨heap', tape', drawn', os', output'⟩ := w'
  simp only [World.drewN, grow] at *
  subst h1 h3 h4
  rw [e2, ← e1]
theorem flatK_list {α : Type} [Inhabited α] {c : α → List Value} {k : Nat} (K : Cel c k) (l : List α) : (flatK c k l.toArray).toList = flat c l := by
  apply List.ext_getElem?
  intro t
  by_cases ht : t < l.length * k
  · have k0 : 0 < k := by rcases Nat.eq_zero_or_pos k with h | h; · subst h; omega
                          · exact h
    have hi : t / k < l.length := Nat.div_lt_of_lt_mul (by rwa [Nat.mul_comm] at ht)
    obtain ⟨x, hx⟩ : ∃ x, l[t / k]? = some x := ⟨_, List.getElem?_eq_getElem hi⟩
    have h1 := flat_ix K hx (t % k) (Nat.mod_lt _ k0)
    rw [show t / k * k + t % k = t from by rw [Nat.mul_comm]; exact Nat.div_add_mod t k] at h1
    rw [h1]
    have hx2 : l.toArray[t / k]! = x := by
      have := (List.getElem?_eq_some_iff.1 hx)
      simp [getElem!_pos, hi, this.2]
    have hm : t % k < (c x).length := by rw [K.len]; exact Nat.mod_lt _ k0
    simp [flatK, ht, hx, hm]
  · rw [List.getElem?_eq_none (by simp; omega), List.getElem?_eq_none (by rw [flat_len K]; omega)]
theorem take_putK (cur : Array Value) (ts : Array Value) (h : ts.size ≤ cur.size) : (putCells id 0 ts cur).toList.take ts.size = ts.toList := by
  apply List.ext_getElem?
  intro j
  by_cases hj : j < ts.size
  · rw [List.getElem?_take_of_lt hj, Array.getElem?_toList]
    have : ts[j]! = ts[j] := getElem!_pos ts j hj
    simp [putCells, hj, show j < cur.size by omega]
  · rw [List.getElem?_take_eq_none (by omega), List.getElem?_eq_none (by simp; omega)]
def Sorted {α : Type} (cf : α → α → Int) (l l' : List α) : Prop := l'.Perm l ∧ l'.Pairwise fun x y => ¬ cf y x < 0
theorem sortF_row {P : Program} {ρ : Ren} {α : Type} [Inhabited α] (L : SlLaysF0.n6 P ρ) {c : α → List Value} {k : Nat} (K : Cel c k) (aE : ∀ w, (isAgg (ρ.t 24)).run P w = .ok true w) (zE : ∀ w, (Go.sizeOf (ρ.t 24)).run P w = .ok k w)
    (cf : α → α → Int) (hO : SWO (ltOf cf)) (g : Nat) (eg : ∀ args w, (callFunc g args).run P w = .ok (.enter g args) w) (hcmp : ∀ x y w, Calls P g #[.agg (c x).toArray, .agg (c y).toArray] w fun e w' => e = .returned (.int .i64 (cf x y)) ∧ Go.RowKit.Below w.heap.size w w')
    {b n cap : Nat} {e : TypeId} {A : Option Addr} {l : List α} {w : World} (hr : w.ownsRow b e k (.slice A n cap) n (flat c l)) (hl : l.length = n) (hn : n < 4611686018427387904) :
    Calls P (ρ.f 6) #[.slice A n cap, .func (.func g) #[] #[]] w fun en w' => en = .returned (.tuple #[]) ∧ ∃ l', Sorted cf l l' ∧ w'.ownsRow b e k (.slice A n cap) n (flat c l') ∧ w.grownBy w' (Value.ownBlock (.slice A n cap)) := by
  rcases hr.2 with ⟨hv, h0⟩ | ⟨q, cap', cur, hv, hb, hq, h1, h2, h3, h4⟩
  · cases hv
    have : l = [] := List.eq_nil_of_length_eq_zero (by omega)
    subst this
    refine (AnyF.slices_SortFunc_none L none 0 _ w).mono fun en w' ⟨h5, h6⟩ => ⟨h5, [], ⟨List.Perm.refl _, List.Pairwise.nil⟩, ?_, ?_⟩
    · rw [h6]; exact hr
    · rw [h6]; exact ⟨rfl, rfl, rfl, Nat.le_refl _, fun _ _ _ => rfl⟩
  · cases hv
    have hqs : q < w.heap.size := (Array.getElem?_eq_some_iff.1 hq).1
    have hfl : (flatK c k l.toArray).toList = flat c l := flatK_list K l
    have hsz : (flatK c k l.toArray).size = n * k := by simp [hl]
    have hH : HoldsK c k w q 0 l.toArray := by
      intro j hj
      rw [hsz] at hj
      refine ⟨?_, by simp [World.frozen?, hq]⟩
      have h5 : (cur.toList.take (n * k))[j]? = (flatK c k l.toArray).toList[j]? := by rw [h4, hfl]
      rw [List.getElem?_take_of_lt hj, Array.getElem?_toList, Array.getElem?_toList] at h5
      simp only [World.cell?, hq, Nat.zero_add, Option.isSome_none, Bool.false_eq_true, if_false]
      rw [h5, getElem!_pos _ j (by rw [hsz]; exact hj)]
      exact Array.getElem?_eq_getElem (by rw [hsz]; exact hj)
    have hcl : CmpLays P g #[] c k cf q 0 l.toArray.size w := fun m os dk hs x y =>
      ((hcmp x y _).drawn fun e w' h => ⟨_, h.1⟩).mono fun e w' ⟨⟨h5, h6⟩, h7⟩ => ⟨h5, grow_of_below h6 h7⟩
    have hc := AnyQ.slices_SortFunc L k aE zE c K.len K.one cf hO g #[] q 0 cap l.toArray w eg hcl hH hqs (by simp only [List.size_toArray]; omega)
    rw [List.size_toArray, hl] at hc
    refine hc.mono ?_
    rintro en w' ⟨h5, d', m, os, hp, hs, hw⟩
    have hds : d'.size = n := by have := hp.1; simpa [hl] using this
    refine ⟨h5, d'.toList, ⟨?_, ?_⟩, ?_, ?_⟩
    · have h6 := hp.2.2
      rw [show d'.extract 0 n = d' from by rw [← hds]; exact Array.extract_size, show l.toArray.extract 0 n = l.toArray from by rw [← hl, ← List.size_toArray]; exact Array.extract_size] at h6
      simpa using h6
    · rw [List.pairwise_iff_getElem]
      intro i j hi hj hij
      have hi' : i < d'.size := by simpa using hi
      have hj' : j < d'.size := by simpa using hj
      have h6 := hs i j (Nat.zero_le _) hij (by omega)
      rw [getElem!_pos _ i hi', getElem!_pos _ j hj'] at h6
      simp only [ltOf, decide_eq_false_iff_not] at h6
      simpa using h6
    · have hsz2 : (flatK c k d').size = n * k := by simp [hds]
      have hfl2 : (flatK c k d').toList = flat c d'.toList := by have := flatK_list K d'.toList; simpa using this
      refine ⟨by rw [flat_len K, Array.length_toList, hds], .inr ⟨q, cap, putCells id 0 (flatK c k d') cur, rfl, hb, ?_, h1, h2, by simp [putCells, h3], ?_⟩⟩
      · rw [hw]
        unfold sortWorldK putRowK
        rw [heap_grow_old _ _ (by simpa using hqs)]
        simp [putRow, mapBlock, Sort.ahead, Array.getElem?_modify, hq, onCells]
      · have hle : n * k ≤ cap * k := Nat.mul_le_mul_right _ h1
        rw [← hsz2, take_putK _ _ (by rw [hsz2, h3]; exact hle), hfl2]
    · rw [hw]
      refine ⟨rfl, rfl, rfl, by unfold sortWorldK putRowK; simp, fun i hi hne => ?_⟩
      unfold sortWorldK putRowK
      rw [heap_grow_old _ _ (by simpa using hi)]
      have : q ≠ i := fun e => hne (by rw [e]; rfl)
      simp [putRow, mapBlock, Sort.ahead, Array.getElem?_modify, this]
theorem swo_keys {α : Type} (key : α → List Int) {n : Nat} (hk : ∀ x, (key x).length = n) : SWO (ltOf fun x y => lexI (key x) (key y)) := by
  have hl : ∀ x y, (key x).length = (key y).length := fun x y => by rw [hk, hk]
  refine ⟨fun x => ?_, fun x y z h1 h2 => ?_, fun x y z h1 h2 => ?_⟩
  · simp [ltOf, lexI_self]
  · simp only [ltOf, decide_eq_true_eq] at h1 h2 ⊢
    exact (lexI_trans (hl x y) (hl y z) (by omega) (by omega)).2 (.inl h1)
  · simp only [ltOf, decide_eq_false_iff_not] at h1 h2 ⊢
    have a1 : lexI (key y) (key x) ≤ 0 := by have := @lexI_swap (key y) (key x) (hl y x); have := @lexI_swap (key x) (key y) (hl x y); omega
    have a2 : lexI (key z) (key y) ≤ 0 := by have := @lexI_swap (key z) (key y) (hl z y); have := @lexI_swap (key y) (key z) (hl y z); omega
    have := (lexI_trans (hl z y) (hl y x) a2 a1).1
    have := @lexI_swap (key x) (key z) (hl x z); have := @lexI_swap (key z) (key x) (hl z x)
    omega
section
variable {P : Program} {N : Fr} {Q : Exit → Act → World → Prop} {E : Env} {w0 : Base} {L : List Pc} {ops : Array Oper} {l : List Oper} {o : Oper} {α : Type} {c : α → List Value}
theorem TL.turnRowD {d k n cap : Nat} {A : Option Addr} {e : TypeId} {size : Nat} {xs : List α} {f : FuncId} {fn : Func} {es : List Operand} {ts : Array TypeId} {vs : List Value} (M : List α → Prop) (hg : o.guard = none) (hd : o.dst = some d) (hN : Nat.blt d N.n = true)
    (ho : o.op = .call { callee := .value (.func f), args := es.toArray, argTypes := ts }) (hx : evs E es = some vs) (hf : P.funcs[f]? = some fn) (hn : (fn.name == "runtime.NumGoroutine") = false) (hb : fn.body.isNone = false)
    (hk : L[k]? = some (.row (.slice A n cap) e size n (flat c xs))) (hc : ∀ w, Pm w0 L w → w.ownsRow w0.b e size (.slice A n cap) n (flat c xs) → Calls P f vs.toArray w fun en w' => en = .returned (.tuple #[]) ∧ ∃ ys, M ys ∧ w'.ownsRow w0.b e size (.slice A n cap) n (flat c ys) ∧ w.grownBy w' (Value.ownBlock (.slice A n cap)))
    (h : ∀ ys, M ys → TL P N ops Q l ((d, .tuple #[]) :: E) (Pm w0 (L.set k (.row (.slice A n cap) e size n (flat c ys))))) : TL P N ops Q (o :: l) E (Pm w0 L) :=
  TL.call (α := {ys : List α // M ys}) (r := fun _ => .tuple #[]) (I' := fun y => Pm w0 (L.set k (.row (.slice A n cap) e size n (flat c y.1)))) hg hd hN ho hx hf hn hb (fun w hw => (hc w hw (hw.at_ hk)).mono fun en w' ⟨he, ys, h1, h2, h3⟩ => ⟨⟨ys, h1⟩, he, by
    cases A with
    | none =>
      have hE : w.grownBy w' none := h3
      exact hw.turn hk hE h2 (fun g hg => by cases hg) (fun _ _ e => by cases e)
    | some q => exact hw.turn hk h3 h2 (fun g' hg' => .inl hg') (fun _ _ e => by cases e)⟩) (fun y => h y.1 y.2)
end
end Go.Proofs.YtijmpjfafpodhaaGreat

namespace Go.Proofs.YtijmpjfafpodhaaGreat
open Go.RowKit Go.Shelf Go.Sort
set_option maxRecDepth 20000
def sFRsRen : Go.Shelf.Ren := ⟨fun | 6 => 132 | 14 => 164 | 15 => 146 | 20 => 192 | 21 => 193 | 22 => 194 | 23 => 195 | 24 => 196 | 25 => 197 | 26 => 198 | 27 => 199 | 28 => 175 | 29 => 176 | 46 => 218 | 47 => 209 | 48 => 210 | 49 => 219 | 50 => 220 | 57 => 226 | n => n, fun | 22 => 23 | 24 => 65 | 25 => 166 | 39 => 174 | 45 => 191 | 46 => 192 | 50 => 196 | 53 => 29 | 55 => 200 | 66 => 219 | 70 => 223 | 76 => 235 | 77 => 236 | n => n, fun n => n⟩
theorem sFRs : SlLaysF0.n6 Tryz.prog sFRsRen where
  mixed := by kernel_rfl
  f6 := ⟨Tryz.f132.name, by decide, Tryz.func132.trans (by kernel_rfl)⟩
  f14 := ⟨Tryz.f164.name, by decide, Tryz.func164.trans (by kernel_rfl)⟩
  f15 := Tryz.func146.trans (by kernel_rfl)
  f20 := ⟨Tryz.f192.name, by decide, Tryz.func192.trans (by kernel_rfl)⟩
  f21 := ⟨Tryz.f193.name, by decide, Tryz.func193.trans (by kernel_rfl)⟩
  f22 := ⟨Tryz.f194.name, by decide, Tryz.func194.trans (by kernel_rfl)⟩
  f23 := ⟨Tryz.f195.name, by decide, Tryz.func195.trans (by kernel_rfl)⟩
  f24 := ⟨Tryz.f196.name, by decide, Tryz.func196.trans (by kernel_rfl)⟩
  f25 := ⟨Tryz.f197.name, by decide, Tryz.func197.trans (by kernel_rfl)⟩
  f26 := ⟨Tryz.f198.name, by decide, Tryz.func198.trans (by kernel_rfl)⟩
  f27 := ⟨Tryz.f199.name, by decide, Tryz.func199.trans (by kernel_rfl)⟩
  f28 := Tryz.func175.trans (by kernel_rfl)
  f29 := Tryz.func176.trans (by kernel_rfl)
  f46 := ⟨Tryz.f218.name, by decide, Tryz.func218.trans (by kernel_rfl)⟩
  f47 := Tryz.func209.trans (by kernel_rfl)
  f48 := Tryz.func210.trans (by kernel_rfl)
  f49 := ⟨Tryz.f219.name, by decide, Tryz.func219.trans (by kernel_rfl)⟩
  f50 := ⟨Tryz.f220.name, by decide, Tryz.func220.trans (by kernel_rfl)⟩
  f57 := ⟨Tryz.f226.name, by decide, Tryz.func226.trans (by kernel_rfl)⟩
  t0 := Tryz.underlying0
  a0 := fun w => rfl
  z0 := fun w => rfl
  v0 := fun w => rfl
  t3 := Tryz.underlying3
  a3 := fun w => rfl
  z3 := fun w => rfl
  v3 := fun w => rfl
  t4 := Tryz.underlying4
  a4 := fun w => rfl
  z4 := fun w => rfl
  v4 := fun w => rfl
  t5 := Tryz.underlying5
  a5 := fun w => rfl
  z5 := fun w => rfl
  v5 := fun w => rfl
  t9 := Tryz.underlying9
  a9 := fun w => rfl
  z9 := fun w => rfl
  v9 := fun w => rfl
  t22 := Tryz.underlying23
  a22 := fun w => rfl
  z22 := fun w => rfl
  v22 := fun w => rfl
  t25 := Tryz.underlying166
  a25 := fun w => rfl
  z25 := fun w => rfl
  v25 := fun w => rfl
  t39 := Tryz.underlying174
  a39 := fun w => rfl
  z39 := fun w => rfl
  v39 := fun w => rfl
  t45 := Tryz.underlying191
  a45 := fun w => rfl
  z45 := fun w => rfl
  v45 := fun w => rfl
  t46 := Tryz.underlying192
  a46 := fun w => rfl
  z46 := fun w => rfl
  v46 := fun w => rfl
  t50 := Tryz.underlying196
  a50 := fun w => rfl
  z50 := fun w => rfl
  v50 := fun w => rfl
  t53 := Tryz.underlying29
  a53 := fun w => rfl
  z53 := fun w => rfl
  v53 := fun w => rfl
  t55 := Tryz.underlying200
  a55 := fun w => rfl
  z55 := fun w => rfl
  v55 := fun w => rfl
  t66 := Tryz.underlying219
  a66 := fun w => rfl
  z66 := fun w => rfl
  v66 := fun w => rfl
  t70 := Tryz.underlying223
  a70 := fun w => rfl
  z70 := fun w => rfl
  v70 := fun w => rfl
  t76 := Tryz.underlying235
  a76 := fun w => rfl
  z76 := fun w => rfl
  v76 := fun w => rfl
  t77 := Tryz.underlying236
  a77 := fun w => rfl
  z77 := fun w => rfl
  v77 := fun w => rfl
instance : Inhabited Rs := ⟨⟨0, 0, 0, 0, 0, 0, 0, 0, false, false, 0, 0, 0, 0, 0, 0, 0⟩⟩
theorem sortRs {b n cap : Nat} {A : Option Addr} {l : List Rs} {w : World} (hr : w.ownsRow b 65 17 (.slice A n cap) n (flat Rs.cells l)) (hl : l.length = n) (hn : n ≤ 1000000) :
    Calls Tryz.prog 132 #[.slice A n cap, .func (.func 133) #[] #[]] w fun en w' => en = .returned (.tuple #[]) ∧ ∃ l', Sorted cmpRs l l' ∧ w'.ownsRow b 65 17 (.slice A n cap) n (flat Rs.cells l') ∧ w.grownBy w' (Value.ownBlock (.slice A n cap)) :=
  sortF_row (ρ := sFRsRen) sFRs rs_cel (fun w => rfl) (fun w => rfl) cmpRs (swo_keys (n := 17) (Rs.keys) fun _ => rfl) 133 (enters_of Tryz.func133 (by kernel_rfl) rfl) cmpRs_any hr hl (by omega)
def sFTrcRen : Go.Shelf.Ren := ⟨fun | 6 => 136 | 14 => 166 | 15 => 146 | 20 => 200 | 21 => 201 | 22 => 202 | 23 => 203 | 24 => 204 | 25 => 205 | 26 => 206 | 27 => 207 | 28 => 175 | 29 => 176 | 46 => 221 | 47 => 209 | 48 => 210 | 49 => 222 | 50 => 223 | 57 => 227 | n => n, fun | 22 => 128 | 24 => 32 | 25 => 168 | 39 => 174 | 45 => 191 | 46 => 192 | 50 => 196 | 53 => 29 | 55 => 200 | 66 => 219 | 70 => 223 | 76 => 235 | 77 => 236 | n => n, fun n => n⟩
theorem sFTrc : SlLaysF0.n6 Tryz.prog sFTrcRen where
  mixed := by kernel_rfl
  f6 := ⟨Tryz.f136.name, by decide, Tryz.func136.trans (by kernel_rfl)⟩
  f14 := ⟨Tryz.f166.name, by decide, Tryz.func166.trans (by kernel_rfl)⟩
  f15 := Tryz.func146.trans (by kernel_rfl)
  f20 := ⟨Tryz.f200.name, by decide, Tryz.func200.trans (by kernel_rfl)⟩
  f21 := ⟨Tryz.f201.name, by decide, Tryz.func201.trans (by kernel_rfl)⟩
  f22 := ⟨Tryz.f202.name, by decide, Tryz.func202.trans (by kernel_rfl)⟩
  f23 := ⟨Tryz.f203.name, by decide, Tryz.func203.trans (by kernel_rfl)⟩
  f24 := ⟨Tryz.f204.name, by decide, Tryz.func204.trans (by kernel_rfl)⟩
  f25 := ⟨Tryz.f205.name, by decide, Tryz.func205.trans (by kernel_rfl)⟩
  f26 := ⟨Tryz.f206.name, by decide, Tryz.func206.trans (by kernel_rfl)⟩
  f27 := ⟨Tryz.f207.name, by decide, Tryz.func207.trans (by kernel_rfl)⟩
  f28 := Tryz.func175.trans (by kernel_rfl)
  f29 := Tryz.func176.trans (by kernel_rfl)
  f46 := ⟨Tryz.f221.name, by decide, Tryz.func221.trans (by kernel_rfl)⟩
  f47 := Tryz.func209.trans (by kernel_rfl)
  f48 := Tryz.func210.trans (by kernel_rfl)
  f49 := ⟨Tryz.f222.name, by decide, Tryz.func222.trans (by kernel_rfl)⟩
  f50 := ⟨Tryz.f223.name, by decide, Tryz.func223.trans (by kernel_rfl)⟩
  f57 := ⟨Tryz.f227.name, by decide, Tryz.func227.trans (by kernel_rfl)⟩
  t0 := Tryz.underlying0
  a0 := fun w => rfl
  z0 := fun w => rfl
  v0 := fun w => rfl
  t3 := Tryz.underlying3
  a3 := fun w => rfl
  z3 := fun w => rfl
  v3 := fun w => rfl
  t4 := Tryz.underlying4
  a4 := fun w => rfl
  z4 := fun w => rfl
  v4 := fun w => rfl
  t5 := Tryz.underlying5
  a5 := fun w => rfl
  z5 := fun w => rfl
  v5 := fun w => rfl
  t9 := Tryz.underlying9
  a9 := fun w => rfl
  z9 := fun w => rfl
  v9 := fun w => rfl
  t22 := Tryz.underlying128
  a22 := fun w => rfl
  z22 := fun w => rfl
  v22 := fun w => rfl
  t25 := Tryz.underlying168
  a25 := fun w => rfl
  z25 := fun w => rfl
  v25 := fun w => rfl
  t39 := Tryz.underlying174
  a39 := fun w => rfl
  z39 := fun w => rfl
  v39 := fun w => rfl
  t45 := Tryz.underlying191
  a45 := fun w => rfl
  z45 := fun w => rfl
  v45 := fun w => rfl
  t46 := Tryz.underlying192
  a46 := fun w => rfl
  z46 := fun w => rfl
  v46 := fun w => rfl
  t50 := Tryz.underlying196
  a50 := fun w => rfl
  z50 := fun w => rfl
  v50 := fun w => rfl
  t53 := Tryz.underlying29
  a53 := fun w => rfl
  z53 := fun w => rfl
  v53 := fun w => rfl
  t55 := Tryz.underlying200
  a55 := fun w => rfl
  z55 := fun w => rfl
  v55 := fun w => rfl
  t66 := Tryz.underlying219
  a66 := fun w => rfl
  z66 := fun w => rfl
  v66 := fun w => rfl
  t70 := Tryz.underlying223
  a70 := fun w => rfl
  z70 := fun w => rfl
  v70 := fun w => rfl
  t76 := Tryz.underlying235
  a76 := fun w => rfl
  z76 := fun w => rfl
  v76 := fun w => rfl
  t77 := Tryz.underlying236
  a77 := fun w => rfl
  z77 := fun w => rfl
  v77 := fun w => rfl
instance : Inhabited Trc := ⟨⟨0, 0, 0⟩⟩
theorem sortTrc {b n cap : Nat} {A : Option Addr} {l : List Trc} {w : World} (hr : w.ownsRow b 32 3 (.slice A n cap) n (flat Trc.cells l)) (hl : l.length = n) (hn : n ≤ 1000000) :
    Calls Tryz.prog 136 #[.slice A n cap, .func (.func 137) #[] #[]] w fun en w' => en = .returned (.tuple #[]) ∧ ∃ l', Sorted cmpT l l' ∧ w'.ownsRow b 32 3 (.slice A n cap) n (flat Trc.cells l') ∧ w.grownBy w' (Value.ownBlock (.slice A n cap)) :=
  sortF_row (ρ := sFTrcRen) sFTrc trc_cel (fun w => rfl) (fun w => rfl) cmpT (swo_keys (n := 3) (fun t : Trc => [t.v, t.dst, t.proto]) fun _ => rfl) 137 (enters_of Tryz.func137 (by kernel_rfl) rfl) cloT_any hr hl (by omega)
def sortLayRen : Go.Shelf.Ren := ⟨fun | 5 => 124 | 7 => 160 | 8 => 146 | 10 => 180 | 11 => 181 | 12 => 182 | 13 => 183 | 14 => 184 | 15 => 185 | 16 => 186 | 17 => 187 | 18 => 188 | 19 => 175 | 20 => 176 | 30 => 213 | 31 => 209 | 32 => 210 | 33 => 214 | 34 => 215 | 35 => 125 | 40 => 225 | n => n, fun | 22 => 106 | 23 => 106 | 25 => 3 | 32 => 174 | 35 => 191 | 36 => 192 | 41 => 196 | 44 => 29 | 46 => 200 | 53 => 219 | 57 => 223 | 63 => 235 | 64 => 236 | n => n, fun n => n⟩
theorem sortLay : SlLaysM.n5 Tryz.prog sortLayRen where
  mixed := by kernel_rfl
  f5 := ⟨Tryz.f124.name, by decide, Tryz.func124.trans (by kernel_rfl)⟩
  f7 := ⟨Tryz.f160.name, by decide, Tryz.func160.trans (by kernel_rfl)⟩
  f8 := Tryz.func146.trans (by kernel_rfl)
  f10 := ⟨Tryz.f180.name, by decide, Tryz.func180.trans (by kernel_rfl)⟩
  f11 := ⟨Tryz.f181.name, by decide, Tryz.func181.trans (by kernel_rfl)⟩
  f12 := ⟨Tryz.f182.name, by decide, Tryz.func182.trans (by kernel_rfl)⟩
  f13 := ⟨Tryz.f183.name, by decide, Tryz.func183.trans (by kernel_rfl)⟩
  f14 := ⟨Tryz.f184.name, by decide, Tryz.func184.trans (by kernel_rfl)⟩
  f15 := ⟨Tryz.f185.name, by decide, Tryz.func185.trans (by kernel_rfl)⟩
  f16 := ⟨Tryz.f186.name, by decide, Tryz.func186.trans (by kernel_rfl)⟩
  f17 := ⟨Tryz.f187.name, by decide, Tryz.func187.trans (by kernel_rfl)⟩
  f18 := ⟨Tryz.f188.name, by decide, Tryz.func188.trans (by kernel_rfl)⟩
  f19 := Tryz.func175.trans (by kernel_rfl)
  f20 := Tryz.func176.trans (by kernel_rfl)
  f30 := ⟨Tryz.f213.name, by decide, Tryz.func213.trans (by kernel_rfl)⟩
  f31 := Tryz.func209.trans (by kernel_rfl)
  f32 := Tryz.func210.trans (by kernel_rfl)
  f33 := ⟨Tryz.f214.name, by decide, Tryz.func214.trans (by kernel_rfl)⟩
  f34 := ⟨Tryz.f215.name, by decide, Tryz.func215.trans (by kernel_rfl)⟩
  f35 := ⟨Tryz.f125.name, by decide, Tryz.func125.trans (by kernel_rfl)⟩
  f40 := ⟨Tryz.f225.name, by decide, Tryz.func225.trans (by kernel_rfl)⟩
  t0 := Tryz.underlying0
  a0 := fun w => rfl
  z0 := fun w => rfl
  v0 := fun w => rfl
  t3 := Tryz.underlying3
  a3 := fun w => rfl
  z3 := fun w => rfl
  v3 := fun w => rfl
  t4 := Tryz.underlying4
  a4 := fun w => rfl
  z4 := fun w => rfl
  v4 := fun w => rfl
  t5 := Tryz.underlying5
  a5 := fun w => rfl
  z5 := fun w => rfl
  v5 := fun w => rfl
  t9 := Tryz.underlying9
  a9 := fun w => rfl
  z9 := fun w => rfl
  v9 := fun w => rfl
  t22 := Tryz.underlying106
  a22 := fun w => rfl
  z22 := fun w => rfl
  v22 := fun w => rfl
  t23 := Tryz.underlying106
  a23 := fun w => rfl
  z23 := fun w => rfl
  v23 := fun w => rfl
  t25 := Tryz.underlying3
  a25 := fun w => rfl
  z25 := fun w => rfl
  v25 := fun w => rfl
  t32 := Tryz.underlying174
  a32 := fun w => rfl
  z32 := fun w => rfl
  v32 := fun w => rfl
  t35 := Tryz.underlying191
  a35 := fun w => rfl
  z35 := fun w => rfl
  v35 := fun w => rfl
  t36 := Tryz.underlying192
  a36 := fun w => rfl
  z36 := fun w => rfl
  v36 := fun w => rfl
  t41 := Tryz.underlying196
  a41 := fun w => rfl
  z41 := fun w => rfl
  v41 := fun w => rfl
  t44 := Tryz.underlying29
  a44 := fun w => rfl
  z44 := fun w => rfl
  v44 := fun w => rfl
  t46 := Tryz.underlying200
  a46 := fun w => rfl
  z46 := fun w => rfl
  v46 := fun w => rfl
  t53 := Tryz.underlying219
  a53 := fun w => rfl
  z53 := fun w => rfl
  v53 := fun w => rfl
  t57 := Tryz.underlying223
  a57 := fun w => rfl
  z57 := fun w => rfl
  v57 := fun w => rfl
  t63 := Tryz.underlying235
  a63 := fun w => rfl
  z63 := fun w => rfl
  v63 := fun w => rfl
  t64 := Tryz.underlying236
  a64 := fun w => rfl
  z64 := fun w => rfl
  v64 := fun w => rfl
end Go.Proofs.YtijmpjfafpodhaaGreat

namespace Go.Proofs.YtijmpjfafpodhaaGreat
open Go.RowKit
set_option maxRecDepth 20000
theorem rs_eq (x y : Rs) : (x = y) ↔ x.v = y.v ∧ x.run = y.run ∧ x.num = y.num ∧ x.at_ = y.at_ ∧ x.dst = y.dst ∧ x.proto = y.proto ∧ x.flow = y.flow ∧ x.ttl = y.ttl ∧ x.ans = y.ans ∧ x.dbl = y.dbl ∧ x.back = y.back ∧ x.src = y.src ∧ x.kind = y.kind ∧ x.code = y.code ∧ x.left = y.left ∧ x.id = y.id ∧ x.quo = y.quo := by
  cases x; cases y; simp
theorem rs_eql (x y : Rs) (ox oy : Operand) (w : World) : (do eqGuard .eql 65 ox oy (.agg x.cells.toArray) (.agg y.cells.toArray); binOp .eql 65 (.agg x.cells.toArray) (.agg y.cells.toArray) : Sem Value).run Tryz.prog w = .ok (.bool (decide (x = y))) w := by
  rw [Sem.run_bind, run_eqGuard_agg w .eql 65 ox oy _ _ (by kernel_rfl), Result.andThen_ok, run_eql_struct]
  have h2 : (Op.equalIn 10000 65 (.agg x.cells.toArray) (.agg y.cells.toArray)).run Tryz.prog w = .ok (decide (x.v = y.v ∧ x.run = y.run ∧ x.num = y.num ∧ x.at_ = y.at_ ∧ x.dst = y.dst ∧ x.proto = y.proto ∧ x.flow = y.flow ∧ x.ttl = y.ttl ∧ x.ans = y.ans ∧ x.dbl = y.dbl ∧ x.back = y.back ∧ x.src = y.src ∧ x.kind = y.kind ∧ x.code = y.code ∧ x.left = y.left ∧ x.id = y.id ∧ x.quo = y.quo)) w := eqR x.v x.run x.num x.at_ x.dst x.proto x.flow x.ttl x.back x.src x.kind x.code x.left x.id x.quo y.v y.run y.num y.at_ y.dst y.proto y.flow y.ttl y.back y.src y.kind y.code y.left y.id y.quo x.ans x.dbl y.ans y.dbl w
  rw [h2, Result.andThen_ok, decide_eq_decide.2 (rs_eq x y)]
theorem rs_neq (x y : Rs) (ox oy : Operand) (w : World) : (do eqGuard .neq 65 ox oy (.agg x.cells.toArray) (.agg y.cells.toArray); binOp .neq 65 (.agg x.cells.toArray) (.agg y.cells.toArray) : Sem Value).run Tryz.prog w = .ok (.bool (!decide (x = y))) w := by
  rw [Sem.run_bind, run_eqGuard_agg w .neq 65 ox oy _ _ (by kernel_rfl), Result.andThen_ok, run_neq_struct]
  have h2 : (Op.equalIn 10000 65 (.agg x.cells.toArray) (.agg y.cells.toArray)).run Tryz.prog w = .ok (decide (x.v = y.v ∧ x.run = y.run ∧ x.num = y.num ∧ x.at_ = y.at_ ∧ x.dst = y.dst ∧ x.proto = y.proto ∧ x.flow = y.flow ∧ x.ttl = y.ttl ∧ x.ans = y.ans ∧ x.dbl = y.dbl ∧ x.back = y.back ∧ x.src = y.src ∧ x.kind = y.kind ∧ x.code = y.code ∧ x.left = y.left ∧ x.id = y.id ∧ x.quo = y.quo)) w := eqR x.v x.run x.num x.at_ x.dst x.proto x.flow x.ttl x.back x.src x.kind x.code x.left x.id x.quo y.v y.run y.num y.at_ y.dst y.proto y.flow y.ttl y.back y.src y.kind y.code y.left y.id y.quo x.ans x.dbl y.ans y.dbl w
  rw [h2, Result.andThen_ok, decide_eq_decide.2 (rs_eq x y)]
theorem rs_neqd (x y : Rs) (ox oy : Operand) (w : World) : (do eqGuard .neq 65 ox oy (.agg x.cells.toArray) (.agg y.cells.toArray); binOp .neq 65 (.agg x.cells.toArray) (.agg y.cells.toArray) : Sem Value).run Tryz.prog w = .ok (.bool (decide (x ≠ y))) w := by
  rw [decide_not]; exact rs_neq x y ox oy w
theorem trc_fields : Tryz.prog.fieldsOf 32 = (match Tryz.prog.underlying 32 with | some (.struct fs) => fs | _ => #[]) := rfl
theorem trc_eqn (a0 b0 : Int) (a1 b1 : Int) (a2 b2 : Int) (d : Nat) (w : World) : (Op.equalIn (d + 2) 32 (.agg #[.int .i64 a0, .int .u32 a1, .int .i64 a2]) (.agg #[.int .i64 b0, .int .u32 b1, .int .i64 b2])).run Tryz.prog w = .ok (decide (a0 = b0 ∧ a1 = b1 ∧ a2 = b2)) w := by
  rw [run_equalIn_agg w (d + 1) 32 _ _ (by rw [trc_fields, Tryz.underlying32]) (by kernel_rfl), trc_fields, Tryz.underlying32]
  show (Op.eqFields (d + 1) _ _ [_, _, _]).run _ _ = _
  have i0 : Tryz.prog.underlying 3 = some (.int .i64) := rfl
  have i1 : Tryz.prog.underlying 30 = some (.int .u32) := rfl
  simp [Op.eqFields, go_sem]
  by_cases e0 : a0 = b0
  · by_cases e1 : a1 = b1
    · by_cases e2 : a2 = b2 <;> simp [e0, e1, e2]
    · simp [e0, e1]
  · simp [e0]
theorem trc_eq (x y : Trc) : (x = y) ↔ x.v = y.v ∧ x.dst = y.dst ∧ x.proto = y.proto := by
  cases x; cases y; simp
theorem trc_eql (x y : Trc) (ox oy : Operand) (w : World) : (do eqGuard .eql 32 ox oy (.agg x.cells.toArray) (.agg y.cells.toArray); binOp .eql 32 (.agg x.cells.toArray) (.agg y.cells.toArray) : Sem Value).run Tryz.prog w = .ok (.bool (decide (x = y))) w := by
  rw [Sem.run_bind, run_eqGuard_agg w .eql 32 ox oy _ _ (by kernel_rfl), Result.andThen_ok, run_eql_struct]
  have h := trc_eqn x.v y.v x.dst y.dst x.proto y.proto 9998 w
  have h2 : (Op.equalIn 10000 32 (.agg x.cells.toArray) (.agg y.cells.toArray)).run Tryz.prog w = .ok (decide (x.v = y.v ∧ x.dst = y.dst ∧ x.proto = y.proto)) w := h
  rw [h2, Result.andThen_ok, decide_eq_decide.2 (trc_eq x y)]
theorem trc_neq (x y : Trc) (ox oy : Operand) (w : World) : (do eqGuard .neq 32 ox oy (.agg x.cells.toArray) (.agg y.cells.toArray); binOp .neq 32 (.agg x.cells.toArray) (.agg y.cells.toArray) : Sem Value).run Tryz.prog w = .ok (.bool (!decide (x = y))) w := by
  rw [Sem.run_bind, run_eqGuard_agg w .neq 32 ox oy _ _ (by kernel_rfl), Result.andThen_ok, run_neq_struct]
  have h := trc_eqn x.v y.v x.dst y.dst x.proto y.proto 9998 w
  have h2 : (Op.equalIn 10000 32 (.agg x.cells.toArray) (.agg y.cells.toArray)).run Tryz.prog w = .ok (decide (x.v = y.v ∧ x.dst = y.dst ∧ x.proto = y.proto)) w := h
  rw [h2, Result.andThen_ok, decide_eq_decide.2 (trc_eq x y)]
theorem trc_neqd (x y : Trc) (ox oy : Operand) (w : World) : (do eqGuard .neq 32 ox oy (.agg x.cells.toArray) (.agg y.cells.toArray); binOp .neq 32 (.agg x.cells.toArray) (.agg y.cells.toArray) : Sem Value).run Tryz.prog w = .ok (.bool (decide (x ≠ y))) w := by
  rw [decide_not]; exact trc_neq x y ox oy w
end Go.Proofs.YtijmpjfafpodhaaGreat

namespace Go.Proofs.YtijmpjfafpodhaaGreat
open Go.RowKit
section
variable {α : Type} [DecidableEq α]
def cptG : List α → List α
  | [] => []
  | [a] => [a]
  | a :: b :: l => if a = b then cptG (b :: l) else a :: cptG (b :: l)
theorem cptG_snoc : ∀ (l : List α) (a : α), cptG (l ++ [a]) = if l.getLast? = some a then cptG l else cptG l ++ [a]
  | [], a => by simp [cptG]
  | [b], a => by
    show cptG [b, a] = _
    simp only [cptG, List.getLast?_singleton, Option.some.injEq]
    split
    · rename_i h; rw [h]
    · rfl
  | b :: d :: l, a => by
    have ih := cptG_snoc (d :: l) a
    have e : (b :: d :: l).getLast? = (d :: l).getLast? := by rw [List.getLast?_cons_cons]
    rw [e]
    show cptG (b :: d :: (l ++ [a])) = _
    rw [cptG]
    have ih' : cptG (d :: (l ++ [a])) = if (d :: l).getLast? = some a then cptG (d :: l) else cptG (d :: l) ++ [a] := ih
    rw [ih', cptG]
    split <;> split <;> simp
theorem mem_cptG (x : α) : ∀ l : List α, x ∈ cptG l ↔ x ∈ l
  | [] => Iff.rfl
  | [a] => Iff.rfl
  | a :: b :: l => by
    have ih := mem_cptG x (b :: l)
    rw [cptG]
    split
    · rename_i h
      rw [ih, h, List.mem_cons, List.mem_cons, List.mem_cons]
      constructor
      · exact fun hh => .inr hh
      · rintro (hh | hh)
        · exact .inl hh
        · exact hh
    · rw [List.mem_cons, ih, List.mem_cons, List.mem_cons]
      simp [List.mem_cons]
theorem cptG_le : ∀ l : List α, (cptG l).length ≤ l.length
  | [] => Nat.le_refl _
  | [a] => Nat.le_refl _
  | a :: b :: l => by
    have ih := cptG_le (b :: l)
    rw [cptG]
    split
    · exact Nat.le_trans ih (Nat.le_succ _)
    · simpa using ih
theorem cptG_step {l : List α} {k : Nat} {x y : α} (hx : l[k]? = some x) (hy : l[k - 1]? = some y) (hk : 1 ≤ k) : cptG (l.take (k + 1)) = if y = x then cptG (l.take k) else cptG (l.take k) ++ [x] := by
  rw [List.take_add_one, hx]
  show cptG (l.take k ++ [x]) = _
  rw [cptG_snoc]
  have : (l.take k).getLast? = some y := by
    rw [List.getLast?_eq_getElem?, List.length_take, Nat.min_eq_left (by have := (List.getElem?_eq_some_iff.1 hx).1; omega), List.getElem?_take_of_lt (by omega), hy]
  rw [this]
  simp only [Option.some.injEq]
theorem cptG_take1 : ∀ l : List α, cptG (l.take 1) = l.take 1
  | [] => rfl
  | a :: l => rfl
theorem cptG_short {l : List α} (h : l.length < 2) : cptG l = l := by
  match l, h with
  | [], _ => rfl
  | [a], _ => rfl
end
section
variable {P : Program} {N : Fr} {Q : Exit → Act → World → Prop} {E : Env} {w0 : Base} {L : List Pc} {ops : Array Oper} {l : List Oper} {o : Oper} {α : Type} {c : α → List Value} {k : Nat}
theorem zeroCells_flat (K : Cel c k) (z : α) (m : Nat) : (Builtin.zeroCells (c z).toArray m).toList = flat c (List.replicate m z) := by
  apply List.ext_getElem?
  intro t
  by_cases ht : t < m * k
  · have k0 : 0 < k := by rcases Nat.eq_zero_or_pos k with h | h; · subst h; omega
                          · exact h
    have hi : t / k < m := Nat.div_lt_of_lt_mul (by rwa [Nat.mul_comm] at ht)
    have hx : (List.replicate m z)[t / k]? = some z := by rw [List.getElem?_replicate, if_pos hi]
    have h1 := flat_ix K hx (t % k) (Nat.mod_lt _ k0)
    rw [show t / k * k + t % k = t from by rw [Nat.mul_comm]; exact Nat.div_add_mod t k] at h1
    rw [h1]
    have hm : t % k < (c z).length := by rw [K.len]; exact Nat.mod_lt _ k0
    simp [Builtin.zeroCells, K.len, ht, hm]
    rw [List.getElem?_eq_getElem hm, Option.getD_some]
  · rw [List.getElem?_eq_none (by simp [Builtin.zeroCells, K.len]; omega), List.getElem?_eq_none (by rw [flat_len K]; simp; omega)]
theorem gives_tailF {t : TypeId} {x lo : Operand} {I : World → Prop} {g n cc size q : Nat} {qk : IntKind} {z : Int} (ho : o.op = .slice t x (some lo) none none) (hx : ev E x = some (.slice (some ⟨g, 0, none⟩) n cc)) (hl : ev E lo = some (.int qk z)) (hz : z = (q : Int)) (ht : P.underlying t = some (.slice (P.elem t))) (hs : ∀ w : World, (sizeOf (P.elem t)).run P w = .ok size w) (hk : q < cc) (hn : q ≤ n) :
    Gives P N o E I (.slice (some ⟨g, q * size, none⟩) (n - q) (cc - q)) := gives_sliceL ho hx hl fun w => by
  have h := cut_lo (P := P) ht hs (some ⟨g, 0, none⟩) n cc q (k := qk) hz hn w
  rw [if_neg (by omega), Option.map_some] at h
  have : (⟨g, 0, none⟩ : Addr).add (q * size) = ⟨g, q * size, none⟩ := by unfold Addr.add; split <;> simp_all
  rwa [this] at h
theorem at_elT {t e : TypeId} {size : Nat} (ht : P.underlying t = some (.slice e)) (hs : ∀ w : World, (sizeOf e).run P w = .ok size w) (g q n cc i : Nat) (hi : i < n) {z : Int} (hz : z = (i : Int)) (w : World) :
    (Instr.indexAt t (.slice (some ⟨g, q * size, none⟩) n cc) (.int .i64 z)).run P w = .ok (.pointer (some ⟨g, 0 + (q + i) * size, none⟩)) w := by
  have := at_el (P := P) ht hs (A := some ⟨g, q * size, none⟩) (b := g) (off := q * size) rfl n cc i hi hz w
  rwa [show q * size + i * size = 0 + (q + i) * size by rw [Nat.add_mul]; omega] at this
theorem TL.clearF (K : Cel c k) {t e : TypeId} {s : Operand} {g q n cc m cc2 kk : Nat} {z : α} {xs : List α} (hg : o.guard = none) (hd : o.dst = none) (ho : o.op = .call { callee := .builtin .clear, args := #[s], argTypes := #[t] }) (hs : ev E s = some (.slice (some ⟨g, q * k, none⟩) m cc2))
    (ht : P.underlying t = some (.slice e)) (hz : ∀ w : World, (zeroValue e).run P w = .ok (.agg (c z).toArray) w) (hm : 0 < m) (hq : q + m = xs.length)
    (hk : L[kk]? = some (.row (.slice (some ⟨g, 0, none⟩) n cc) e k n (flat c xs)))
    (h : TL P N ops Q l E (Pm w0 (L.set kk (.row (.slice (some ⟨g, 0, none⟩) n cc) e k n (flat c (xs.take q ++ List.replicate m z)))))) : TL P N ops Q (o :: l) E (Pm w0 L) := by
  have e1 : (flat c (List.replicate m z)).length = m * k := by rw [flat_len K, List.length_replicate]
  have e2 : (flat c xs).length = q * k + m * k := by rw [flat_len K, ← hq, Nat.add_mul]
  refine TL.rowclear (zs := flat c (List.replicate m z)) hg hd ho hs ht hz (zeroCells_flat K z m) (flat_one K _) hm hk (by rw [e1, e2]; omega) (xs' := flat c (xs.take q ++ List.replicate m z)) ?_ h
  rw [e1, List.drop_of_length_le (by rw [e2]; omega), List.append_nil, flat_app, flat_take K]
theorem TL.headF (K : Cel c k) {d kk n cc hi : Nat} {t e : TypeId} {x y : Operand} {k2 : IntKind} {A : Option Addr} {xs : List α} (hg : o.guard = none) (hd : o.dst = some d) (hN : Nat.blt d N.n = true)
    (ho : o.op = .slice t x none (some y) none) (hx : ev E x = some (.slice A n cc)) (hy : ev E y = some (.int k2 (hi : Int))) (ht : P.underlying t = some (.slice (P.elem t))) (hs : ∀ w : World, (sizeOf (P.elem t)).run P w = .ok k w)
    (hk : L[kk]? = some (.row (.slice A n cc) e k n (flat c xs))) (hh : hi ≤ n) (hc : n ≤ cc)
    (h : TL P N ops Q l ((d, .slice A hi cc) :: E) (Pm w0 (L.set kk (.row (.slice A hi cc) e k hi (flat c (xs.take hi)))))) : TL P N ops Q (o :: l) E (Pm w0 L) :=
  TL.rowhead hg hd hN ho hx hy ht hs hk hh hc (flat_take K xs hi) h
theorem TL.turnRow2 {d q n cap m : Nat} {A : Option Addr} {e : TypeId} {size : Nat} {xs ys : List α} {f : FuncId} {fn : Func} {es : List Operand} {ts : Array TypeId} {vs : List Value} (hg : o.guard = none) (hd : o.dst = some d) (hN : Nat.blt d N.n = true)
    (ho : o.op = .call { callee := .value (.func f), args := es.toArray, argTypes := ts }) (hx : evs E es = some vs) (hf : P.funcs[f]? = some fn) (hn : (fn.name == "runtime.NumGoroutine") = false) (hb : fn.body.isNone = false)
    (hk : L[q]? = some (.row (.slice A n cap) e size n (flat c xs))) (hc : ∀ w, Pm w0 L w → w.ownsRow w0.b e size (.slice A n cap) n (flat c xs) → Calls P f vs.toArray w fun en w' => en = .returned (.slice A m cap) ∧ w'.ownsRow w0.b e size (.slice A m cap) m (flat c ys) ∧ w.grownBy w' (Value.ownBlock (.slice A n cap)))
    (h : TL P N ops Q l ((d, .slice A m cap) :: E) (Pm w0 (L.set q (.row (.slice A m cap) e size m (flat c ys))))) : TL P N ops Q (o :: l) E (Pm w0 L) :=
  TL.call (α := Unit) (r := fun _ => .slice A m cap) (I' := fun _ => Pm w0 (L.set q (.row (.slice A m cap) e size m (flat c ys)))) hg hd hN ho hx hf hn hb (fun w hw => (hc w hw (hw.at_ hk)).mono fun en w' ⟨he, hr, hgr⟩ => ⟨(), he, by
    cases A with
    | none =>
      have hE : w.grownBy w' none := hgr
      exact hw.turn hk hE hr (fun g hg => by cases hg) (fun _ _ e => by cases e)
    | some a => exact hw.turn hk hgr hr (fun g' hg' => .inl hg') (fun _ _ e => by cases e)⟩) (fun _ => h)
end
end Go.Proofs.YtijmpjfafpodhaaGreat
