/-
  Texts of the proof, joined: JrCheck, JrRCheck, PtRes, AnRep, SymDn, SymRwG, SymSo, PtSort, PtEq, SymCpt, PtCpt, SymOrd, PtOrd, SymCopy, PtROrd.
-/
import Derived.Test.YtijmpjfafpodhaaGreatMinimalContradictsPk1
import GoSem.Step
import Derived.Calls
import Derived.Shelf.SlSortCmp.NoneTotal
import Derived.Shelf.SortM.Plain
import Derived.Shelf.SortM.SortNone
import Derived.Laws.StructEq
import Derived.Laws.Tables
import Derived.Laws.Small
import Derived.Laws.Pointers
import Derived.Laws.Cover2
import Derived.WalkKit
import Derived.KernelRfl
import Derived.Lib.Overlaps
set_option linter.unusedVariables false
set_option linter.unusedSimpArgs false
namespace Go.Proofs.YtijmpjfafpodhaaGreat
set_option maxHeartbeats 1000000
open Go.RowKit
set_option maxRecDepth 20000
set_option maxHeartbeats 2000000 in
theorem check_any_ff (v run num at_ dst proto flow ttl back src kind code left id quo : Int) (w : World) :
  Calls Tryz.prog 120 #[.agg #[.int .i64 v, .int .i64 run, .int .i64 num, .int .i64 at_, .int .u32 dst, .int .i64 proto, .int .i64 flow, .int .i64 ttl, .bool false, .bool false, .int .i64 back, .int .u32 src, .int .i64 kind, .int .i64 code, .int .i64 left, .int .i64 id, .int .i64 quo]] w fun e w' => e = .returned (.int .i64 (chkR ⟨v, run, num, at_, dst, proto, flow, ttl, false, false, back, src, kind, code, left, id, quo⟩)) ∧ Below w.heap.size w w' := by
 refine begin_ (vs := [.agg #[.int .i64 v, .int .i64 run, .int .i64 num, .int .i64 at_, .int .u32 dst, .int .i64 proto, .int .i64 flow, .int .i64 ttl, .bool false, .bool false, .int .i64 back, .int .u32 src, .int .i64 kind, .int .i64 code, .int .i64 left, .int .i64 id, .int .i64 quo]]) Tryz.func120 rfl rfl rfl ?_ (Pm.start w)
 refine zSG ?_
 refine TL.pnew rfl rfl rfl (exec_box (cs := [.int .i64 v, .int .i64 run, .int .i64 num, .int .i64 at_, .int .u32 dst, .int .i64 proto, .int .i64 flow, .int .i64 ttl, .bool false, .bool false, .int .i64 back, .int .u32 src, .int .i64 kind, .int .i64 code, .int .i64 left, .int .i64 id, .int .i64 quo]) rfl rfl rfl) (fun g1 => ?_)
 refine TL.as_ ?_
 refine zET (zSG (TL.v (gH fR11) ?_))
 refine TL.val rfl rfl rfl (pm_loadAgg (k := 0) (n := 6) rfl rfl agA szA rfl (Nat.le_refl 17)) ?_
 refine TL.pnew rfl rfl rfl (exec_alloc (cs := [.int .u32 0, .int .i64 0, .int .i64 0, .int .i64 0, .int .i64 0, .int .i64 0]) rfl zeroA rfl) (fun g3 => ?_)
 refine TL.pstore (k := 0) (vs := [.int .u32 src, .int .i64 kind, .int .i64 code, .int .i64 left, .int .i64 id, .int .i64 quo]) rfl rfl rfl rfl rfl rfl rfl szA (oneA _ _ _ _ _ _) (Nat.le_refl 6) rfl ?_
 refine zET (zS (zB (zS (zSG (TL.v (gH fR0) ?_)))))
 refine TL.v (gL 1 agI) ?_
 refine TL.v (gH fR1) ?_
 refine TL.v (gL 1 agI) ?_
 refine TL.callsplit rfl rfl rfl rfl rfl Tryz.func156 nmRun bdRun (fun w1 hw => run_any v run w1) (fun h11 => ?_) (fun h11 => ?_)
 refine TL.rn 2 rfl (zET (zd (zSG (TL.v (gH fR2) ?_))))
 refine TL.v (gL 1 agI) ?_
 refine TL.callsplit rfl rfl rfl rfl rfl Tryz.func157 nmWithin bdWithin (fun w1 hw => within_any (num) (999) w1) (fun h15 => ?_) (fun h15 => ?_)
 refine TL.rn 2 rfl (zET (zd (zSG (TL.v (gH fR3) ?_))))
 refine TL.v (gL 1 agI) ?_
 refine TL.callsplit rfl rfl rfl rfl rfl Tryz.func157 nmWithin bdWithin (fun w1 hw => within_any (at_) (2251799813685248) w1) (fun h19 => ?_) (fun h19 => ?_)
 refine TL.rn 2 rfl (zET (zd (zSG (TL.v (gH fR10) ?_))))
 refine TL.v (gL 1 agI) ?_
 refine TL.callsplit rfl rfl rfl rfl rfl Tryz.func157 nmWithin bdWithin (fun w1 hw => within_any (back) (2251799813685248) w1) (fun h23 => ?_) (fun h23 => ?_)
 refine TL.rn 2 rfl (zET (zd (zSG (TL.v (gH fR10) ?_))))
 refine TL.v (gL 1 agI) ?_
 refine TL.v (gH fR3) ?_
 refine TL.v (gL 1 agI) ?_
 refine TL.vsplit rfl rfl rfl (gives_bin rfl rfl rfl (fun w => bin_lss w)) (fun h29 => ?_) (fun h29 => ?_)
 refine TL.as_ ?_
 refine zET (zc (zk (zT (zc (zSG (TL.as_ ?_))))))
 refine zET (zr (zRR ?_))
 refine rI Tryz.results120 ?_
 rotate_left
 refine TL.as_ ?_
 refine zET (zd (zSG (TL.v (gH fR6) ?_)))
 refine TL.v (gL 1 agI) ?_
 refine TL.callsplit rfl rfl rfl rfl rfl Tryz.func157 nmWithin bdWithin (fun w1 hw => within_any (flow) (1023) w1) (fun h32 => ?_) (fun h32 => ?_)
 refine TL.rn 2 rfl (zET (zd (zG (TL.v (gH fR7) ?_))))
 refine TL.v (gL 1 agI) ?_
 refine TL.vsplit rfl rfl rfl (gives_bin rfl rfl rfl (fun w => bin_lss w)) (fun h36 => ?_) (fun h36 => ?_)
 refine TL.rn 6 rfl (zET (zc (zSG (TL.as_ ?_))))
 refine zET (zr (zRR ?_))
 refine rI Tryz.results120 ?_
 rotate_left
 refine TL.mv ?_
 refine TL.ov (gH fR7) ?_
 refine TL.ov (gL 1 agI) ?_
 refine TL.gu ?_
 refine TL.vsplit rfl rfl rfl (gives_bin rfl rfl rfl (fun w => bin_gtr w)) (fun h40 => ?_) (fun h40 => ?_)
 refine TL.rn 2 rfl (zET (zc (zSG (TL.as_ ?_))))
 refine zET (zr (zRR ?_))
 refine rI Tryz.results120 ?_
 rotate_left
 refine TL.rn 2 rfl (zET (zd ?_))
 refine TC.join (α := {b : Bool // decide (proto ≠ 1 ∧ proto ≠ 6 ∧ proto ≠ 17) = b}) (fun x => [(1, .pointer (some ⟨g1, 0, none⟩)), (3, .pointer (some ⟨g3, 0, none⟩)), (42, .bool x.1)]) (fun x => Pm w [.blk g3 63 [.int .u32 src, .int .i64 kind, .int .i64 code, .int .i64 left, .int .i64 id, .int .i64 quo], .blk g1 65 [.int .i64 v, .int .i64 run, .int .i64 num, .int .i64 at_, .int .u32 dst, .int .i64 proto, .int .i64 flow, .int .i64 ttl, .bool false, .bool false, .int .i64 back, .int .u32 src, .int .i64 kind, .int .i64 code, .int .i64 left, .int .i64 id, .int .i64 quo]]) ?_ ?_
 refine zG (TL.v (gH fR5) ?_)
 refine TL.v (gL 1 agI) ?_
 refine TL.vsplit rfl rfl rfl (gives_bin rfl rfl rfl (fun w => bin_neq w)) (fun h45 => ?_) (fun h45 => ?_)
 refine TL.mv ?_
 refine TL.ov (gH fR5) ?_
 refine TL.ov (gL 1 agI) ?_
 refine TL.gu ?_
 refine TL.vsplit rfl rfl rfl (gives_bin rfl rfl rfl (fun w => bin_neq w)) (fun h49 => ?_) (fun h49 => ?_)
 refine TL.rn 2 rfl (TL.ov (gH fR5) ?_)
 refine TL.ov (gL 1 agI) ?_
 refine TL.gu ?_
 refine TL.vsplit rfl rfl rfl (gives_bin rfl rfl rfl (fun w => bin_neq w)) (fun h54 => ?_) (fun h54 => ?_)
 refine TL.rn 2 rfl (zE ?_)
 exact TX.joined (⟨true, by simp only [decide_eq_true_eq, decide_eq_false_iff_not] at *; first | omega | (apply decide_eq_true; omega) | (apply decide_eq_false; omega)⟩) (⟨rfl, rfl, rfl, trivial⟩) (fun w hw => hw)
 refine TL.rn 2 rfl (zE ?_)
 exact TX.joined (⟨false, by simp only [decide_eq_true_eq, decide_eq_false_iff_not] at *; first | omega | (apply decide_eq_true; omega) | (apply decide_eq_false; omega)⟩) (⟨rfl, rfl, rfl, trivial⟩) (fun w hw => hw)
 refine TL.rn 7 rfl (zE ?_)
 exact TX.joined (⟨false, by simp only [decide_eq_true_eq, decide_eq_false_iff_not] at *; first | omega | (apply decide_eq_true; omega) | (apply decide_eq_false; omega)⟩) (⟨rfl, rfl, rfl, trivial⟩) (fun w hw => hw)
 refine TL.rn 11 rfl (zE ?_)
 exact TX.joined (⟨false, by simp only [decide_eq_true_eq, decide_eq_false_iff_not] at *; first | omega | (apply decide_eq_true; omega) | (apply decide_eq_false; omega)⟩) (⟨rfl, rfl, rfl, trivial⟩) (fun w hw => hw)
 rintro ⟨b, hb⟩
 dsimp only
 cases b
 refine zd (zS (zSG (TL.v (gH fR9) ?_)))
 refine TL.v (gL 1 agB) ?_
 refine TL.rn 6 rfl (zET (zd (zG (TL.v (gH fR8) ?_))))
 refine TL.v (gL 1 agB) ?_
 refine TL.rn 2 rfl (TL.gu ?_)
 refine TL.val rfl rfl rfl (pm_loadAgg (k := 0) (n := 6) rfl rfl agA szA rfl (Nat.le_refl 6)) ?_
 refine TL.gu ?_
 refine TL.val rfl rfl rfl (gives_build rfl rfl (fun w => buildA w)) ?_
 refine TL.gu ?_
 refine TL.vsplit rfl rfl rfl (gives_bin2 rfl rfl rfl (fun w => neqA _ _ _ _ _ _ _ _ _ _ _ _ w)) (fun h70 => ?_) (fun h70 => ?_)
 refine TL.rn 2 rfl (zET (zc (zSG (TL.as_ ?_))))
 refine zET (zr (zRR ?_))
 refine rI Tryz.results120 ?_
 rotate_left
 refine TL.rn 2 rfl (zET (zd (zSG (TL.v (gH fR8) ?_))))
 refine TL.v (gL 1 agB) ?_
 iterate 35 (first | refine TL.offU rfl rfl rfl rfl rfl ?_ | refine TL.of ?_ | refine TL.mv ?_ | refine TL.pk ?_ | refine TL.as_ ?_)
 refine zET (zd (zk (zN (zT (zSG (TL.as_ ?_))))))
 refine zET (zr ?_)
 refine rI Tryz.results120 ?_
 rotate_left
 refine zc (zSG (TL.as_ ?_))
 refine zET (zr (zRR ?_))
 refine rI Tryz.results120 ?_
 rotate_left
 refine TL.rn 2 rfl (zET (zc (zk (zT (zc (zSG (TL.as_ ?_)))))))
 refine zET (zr (zRR ?_))
 refine rI Tryz.results120 ?_
 rotate_left
 refine TL.rn 2 rfl (zET (zc (zk (zT (zc (zSG (TL.as_ ?_)))))))
 refine zET (zr (zRR ?_))
 refine rI Tryz.results120 ?_
 rotate_left
 refine TL.rn 2 rfl (zET (zc (zk (zT (zc (zSG (TL.as_ ?_)))))))
 refine zET (zr (zRR ?_))
 refine rI Tryz.results120 ?_
 rotate_left
 refine TL.rn 2 rfl (zET (zc (zk (zT (zc (zSG (TL.as_ ?_)))))))
 refine zET (zr (zRR ?_))
 refine rI Tryz.results120 ?_
 rotate_left
 refine TL.rn 2 rfl (zET (zc (zk (zT (zc (zSG (TL.as_ ?_)))))))
 refine zET (zr (zRR ?_))
 refine rI Tryz.results120 ?_
 rotate_left
 all_goals (simp only [decide_eq_true_eq, decide_eq_false_iff_not] at *; first | exact chk_range (by unfold Rs.inRange; dsimp only; omega) | exact chk_ans rfl (by unfold Rs.inRange; dsimp only; omega) (by dsimp only; omega) (by unfold Rs.ansOk; dsimp only; omega) | (simp only [chkR, Rs.inRange, Rs.ansOk, Rs.noAns]; (try split) <;> (try split) <;> (try split) <;> (try split) <;> first | rfl | omega | (simp_all; done) | (simp_all; omega)))
set_option maxHeartbeats 2000000 in
theorem check_any_ft (v run num at_ dst proto flow ttl back src kind code left id quo : Int) (w : World) :
  Calls Tryz.prog 120 #[.agg #[.int .i64 v, .int .i64 run, .int .i64 num, .int .i64 at_, .int .u32 dst, .int .i64 proto, .int .i64 flow, .int .i64 ttl, .bool false, .bool true, .int .i64 back, .int .u32 src, .int .i64 kind, .int .i64 code, .int .i64 left, .int .i64 id, .int .i64 quo]] w fun e w' => e = .returned (.int .i64 (chkR ⟨v, run, num, at_, dst, proto, flow, ttl, false, true, back, src, kind, code, left, id, quo⟩)) ∧ Below w.heap.size w w' := by
 refine begin_ (vs := [.agg #[.int .i64 v, .int .i64 run, .int .i64 num, .int .i64 at_, .int .u32 dst, .int .i64 proto, .int .i64 flow, .int .i64 ttl, .bool false, .bool true, .int .i64 back, .int .u32 src, .int .i64 kind, .int .i64 code, .int .i64 left, .int .i64 id, .int .i64 quo]]) Tryz.func120 rfl rfl rfl ?_ (Pm.start w)
 refine zSG ?_
 refine TL.pnew rfl rfl rfl (exec_box (cs := [.int .i64 v, .int .i64 run, .int .i64 num, .int .i64 at_, .int .u32 dst, .int .i64 proto, .int .i64 flow, .int .i64 ttl, .bool false, .bool true, .int .i64 back, .int .u32 src, .int .i64 kind, .int .i64 code, .int .i64 left, .int .i64 id, .int .i64 quo]) rfl rfl rfl) (fun g1 => ?_)
 refine TL.as_ ?_
 refine zET (zSG (TL.v (gH fR11) ?_))
 refine TL.val rfl rfl rfl (pm_loadAgg (k := 0) (n := 6) rfl rfl agA szA rfl (Nat.le_refl 17)) ?_
 refine TL.pnew rfl rfl rfl (exec_alloc (cs := [.int .u32 0, .int .i64 0, .int .i64 0, .int .i64 0, .int .i64 0, .int .i64 0]) rfl zeroA rfl) (fun g3 => ?_)
 refine TL.pstore (k := 0) (vs := [.int .u32 src, .int .i64 kind, .int .i64 code, .int .i64 left, .int .i64 id, .int .i64 quo]) rfl rfl rfl rfl rfl rfl rfl szA (oneA _ _ _ _ _ _) (Nat.le_refl 6) rfl ?_
 refine zET (zS (zB (zS (zSG (TL.v (gH fR0) ?_)))))
 refine TL.v (gL 1 agI) ?_
 refine TL.v (gH fR1) ?_
 refine TL.v (gL 1 agI) ?_
 refine TL.callsplit rfl rfl rfl rfl rfl Tryz.func156 nmRun bdRun (fun w1 hw => run_any v run w1) (fun h11 => ?_) (fun h11 => ?_)
 refine TL.rn 2 rfl (zET (zd (zSG (TL.v (gH fR2) ?_))))
 refine TL.v (gL 1 agI) ?_
 refine TL.callsplit rfl rfl rfl rfl rfl Tryz.func157 nmWithin bdWithin (fun w1 hw => within_any (num) (999) w1) (fun h15 => ?_) (fun h15 => ?_)
 refine TL.rn 2 rfl (zET (zd (zSG (TL.v (gH fR3) ?_))))
 refine TL.v (gL 1 agI) ?_
 refine TL.callsplit rfl rfl rfl rfl rfl Tryz.func157 nmWithin bdWithin (fun w1 hw => within_any (at_) (2251799813685248) w1) (fun h19 => ?_) (fun h19 => ?_)
 refine TL.rn 2 rfl (zET (zd (zSG (TL.v (gH fR10) ?_))))
 refine TL.v (gL 1 agI) ?_
 refine TL.callsplit rfl rfl rfl rfl rfl Tryz.func157 nmWithin bdWithin (fun w1 hw => within_any (back) (2251799813685248) w1) (fun h23 => ?_) (fun h23 => ?_)
 refine TL.rn 2 rfl (zET (zd (zSG (TL.v (gH fR10) ?_))))
 refine TL.v (gL 1 agI) ?_
 refine TL.v (gH fR3) ?_
 refine TL.v (gL 1 agI) ?_
 refine TL.vsplit rfl rfl rfl (gives_bin rfl rfl rfl (fun w => bin_lss w)) (fun h29 => ?_) (fun h29 => ?_)
 refine TL.as_ ?_
 refine zET (zc (zk (zT (zc (zSG (TL.as_ ?_))))))
 refine zET (zr (zRR ?_))
 refine rI Tryz.results120 ?_
 rotate_left
 refine TL.as_ ?_
 refine zET (zd (zSG (TL.v (gH fR6) ?_)))
 refine TL.v (gL 1 agI) ?_
 refine TL.callsplit rfl rfl rfl rfl rfl Tryz.func157 nmWithin bdWithin (fun w1 hw => within_any (flow) (1023) w1) (fun h32 => ?_) (fun h32 => ?_)
 refine TL.rn 2 rfl (zET (zd (zG (TL.v (gH fR7) ?_))))
 refine TL.v (gL 1 agI) ?_
 refine TL.vsplit rfl rfl rfl (gives_bin rfl rfl rfl (fun w => bin_lss w)) (fun h36 => ?_) (fun h36 => ?_)
 refine TL.rn 6 rfl (zET (zc (zSG (TL.as_ ?_))))
 refine zET (zr (zRR ?_))
 refine rI Tryz.results120 ?_
 rotate_left
 refine TL.mv ?_
 refine TL.ov (gH fR7) ?_
 refine TL.ov (gL 1 agI) ?_
 refine TL.gu ?_
 refine TL.vsplit rfl rfl rfl (gives_bin rfl rfl rfl (fun w => bin_gtr w)) (fun h40 => ?_) (fun h40 => ?_)
 refine TL.rn 2 rfl (zET (zc (zSG (TL.as_ ?_))))
 refine zET (zr (zRR ?_))
 refine rI Tryz.results120 ?_
 rotate_left
 refine TL.rn 2 rfl (zET (zd ?_))
 refine TC.join (α := {b : Bool // decide (proto ≠ 1 ∧ proto ≠ 6 ∧ proto ≠ 17) = b}) (fun x => [(1, .pointer (some ⟨g1, 0, none⟩)), (3, .pointer (some ⟨g3, 0, none⟩)), (42, .bool x.1)]) (fun x => Pm w [.blk g3 63 [.int .u32 src, .int .i64 kind, .int .i64 code, .int .i64 left, .int .i64 id, .int .i64 quo], .blk g1 65 [.int .i64 v, .int .i64 run, .int .i64 num, .int .i64 at_, .int .u32 dst, .int .i64 proto, .int .i64 flow, .int .i64 ttl, .bool false, .bool true, .int .i64 back, .int .u32 src, .int .i64 kind, .int .i64 code, .int .i64 left, .int .i64 id, .int .i64 quo]]) ?_ ?_
 refine zG (TL.v (gH fR5) ?_)
 refine TL.v (gL 1 agI) ?_
 refine TL.vsplit rfl rfl rfl (gives_bin rfl rfl rfl (fun w => bin_neq w)) (fun h45 => ?_) (fun h45 => ?_)
 refine TL.mv ?_
 refine TL.ov (gH fR5) ?_
 refine TL.ov (gL 1 agI) ?_
 refine TL.gu ?_
 refine TL.vsplit rfl rfl rfl (gives_bin rfl rfl rfl (fun w => bin_neq w)) (fun h49 => ?_) (fun h49 => ?_)
 refine TL.rn 2 rfl (TL.ov (gH fR5) ?_)
 refine TL.ov (gL 1 agI) ?_
 refine TL.gu ?_
 refine TL.vsplit rfl rfl rfl (gives_bin rfl rfl rfl (fun w => bin_neq w)) (fun h54 => ?_) (fun h54 => ?_)
 refine TL.rn 2 rfl (zE ?_)
 exact TX.joined (⟨true, by simp only [decide_eq_true_eq, decide_eq_false_iff_not] at *; first | omega | (apply decide_eq_true; omega) | (apply decide_eq_false; omega)⟩) (⟨rfl, rfl, rfl, trivial⟩) (fun w hw => hw)
 refine TL.rn 2 rfl (zE ?_)
 exact TX.joined (⟨false, by simp only [decide_eq_true_eq, decide_eq_false_iff_not] at *; first | omega | (apply decide_eq_true; omega) | (apply decide_eq_false; omega)⟩) (⟨rfl, rfl, rfl, trivial⟩) (fun w hw => hw)
 refine TL.rn 7 rfl (zE ?_)
 exact TX.joined (⟨false, by simp only [decide_eq_true_eq, decide_eq_false_iff_not] at *; first | omega | (apply decide_eq_true; omega) | (apply decide_eq_false; omega)⟩) (⟨rfl, rfl, rfl, trivial⟩) (fun w hw => hw)
 refine TL.rn 11 rfl (zE ?_)
 exact TX.joined (⟨false, by simp only [decide_eq_true_eq, decide_eq_false_iff_not] at *; first | omega | (apply decide_eq_true; omega) | (apply decide_eq_false; omega)⟩) (⟨rfl, rfl, rfl, trivial⟩) (fun w hw => hw)
 rintro ⟨b, hb⟩
 dsimp only
 cases b
 refine zd (zS (zSG (TL.v (gH fR9) ?_)))
 refine TL.v (gL 1 agB) ?_
 refine TL.mv ?_
 refine TL.ov (gH fR8) ?_
 refine TL.ov (gL 1 agB) ?_
 refine TL.rn 3 rfl (zET (zc (zk (zT (zc (zSG (TL.as_ ?_)))))))
 refine zET (zr (zRR ?_))
 refine rI Tryz.results120 ?_
 rotate_left
 refine zc (zSG (TL.as_ ?_))
 refine zET (zr (zRR ?_))
 refine rI Tryz.results120 ?_
 rotate_left
 refine TL.rn 2 rfl (zET (zc (zk (zT (zc (zSG (TL.as_ ?_)))))))
 refine zET (zr (zRR ?_))
 refine rI Tryz.results120 ?_
 rotate_left
 refine TL.rn 2 rfl (zET (zc (zk (zT (zc (zSG (TL.as_ ?_)))))))
 refine zET (zr (zRR ?_))
 refine rI Tryz.results120 ?_
 rotate_left
 refine TL.rn 2 rfl (zET (zc (zk (zT (zc (zSG (TL.as_ ?_)))))))
 refine zET (zr (zRR ?_))
 refine rI Tryz.results120 ?_
 rotate_left
 refine TL.rn 2 rfl (zET (zc (zk (zT (zc (zSG (TL.as_ ?_)))))))
 refine zET (zr (zRR ?_))
 refine rI Tryz.results120 ?_
 rotate_left
 refine TL.rn 2 rfl (zET (zc (zk (zT (zc (zSG (TL.as_ ?_)))))))
 refine zET (zr (zRR ?_))
 refine rI Tryz.results120 ?_
 rotate_left
 all_goals (simp only [decide_eq_true_eq, decide_eq_false_iff_not] at *; first | exact chk_range (by unfold Rs.inRange; dsimp only; omega) | exact chk_ans rfl (by unfold Rs.inRange; dsimp only; omega) (by dsimp only; omega) (by unfold Rs.ansOk; dsimp only; omega) | (simp only [chkR, Rs.inRange, Rs.ansOk, Rs.noAns]; (try split) <;> (try split) <;> (try split) <;> (try split) <;> first | rfl | omega | (simp_all; done) | (simp_all; omega)))
set_option maxHeartbeats 2000000 in
theorem check_any_tf (v run num at_ dst proto flow ttl back src kind code left id quo : Int) (w : World) :
  Calls Tryz.prog 120 #[.agg #[.int .i64 v, .int .i64 run, .int .i64 num, .int .i64 at_, .int .u32 dst, .int .i64 proto, .int .i64 flow, .int .i64 ttl, .bool true, .bool false, .int .i64 back, .int .u32 src, .int .i64 kind, .int .i64 code, .int .i64 left, .int .i64 id, .int .i64 quo]] w fun e w' => e = .returned (.int .i64 (chkR ⟨v, run, num, at_, dst, proto, flow, ttl, true, false, back, src, kind, code, left, id, quo⟩)) ∧ Below w.heap.size w w' := by
 refine begin_ (vs := [.agg #[.int .i64 v, .int .i64 run, .int .i64 num, .int .i64 at_, .int .u32 dst, .int .i64 proto, .int .i64 flow, .int .i64 ttl, .bool true, .bool false, .int .i64 back, .int .u32 src, .int .i64 kind, .int .i64 code, .int .i64 left, .int .i64 id, .int .i64 quo]]) Tryz.func120 rfl rfl rfl ?_ (Pm.start w)
 refine zSG ?_
 refine TL.pnew rfl rfl rfl (exec_box (cs := [.int .i64 v, .int .i64 run, .int .i64 num, .int .i64 at_, .int .u32 dst, .int .i64 proto, .int .i64 flow, .int .i64 ttl, .bool true, .bool false, .int .i64 back, .int .u32 src, .int .i64 kind, .int .i64 code, .int .i64 left, .int .i64 id, .int .i64 quo]) rfl rfl rfl) (fun g1 => ?_)
 refine TL.as_ ?_
 refine zET (zSG (TL.v (gH fR11) ?_))
 refine TL.val rfl rfl rfl (pm_loadAgg (k := 0) (n := 6) rfl rfl agA szA rfl (Nat.le_refl 17)) ?_
 refine TL.pnew rfl rfl rfl (exec_alloc (cs := [.int .u32 0, .int .i64 0, .int .i64 0, .int .i64 0, .int .i64 0, .int .i64 0]) rfl zeroA rfl) (fun g3 => ?_)
 refine TL.pstore (k := 0) (vs := [.int .u32 src, .int .i64 kind, .int .i64 code, .int .i64 left, .int .i64 id, .int .i64 quo]) rfl rfl rfl rfl rfl rfl rfl szA (oneA _ _ _ _ _ _) (Nat.le_refl 6) rfl ?_
 refine zET (zS (zB (zS (zSG (TL.v (gH fR0) ?_)))))
 refine TL.v (gL 1 agI) ?_
 refine TL.v (gH fR1) ?_
 refine TL.v (gL 1 agI) ?_
 refine TL.callsplit rfl rfl rfl rfl rfl Tryz.func156 nmRun bdRun (fun w1 hw => run_any v run w1) (fun h11 => ?_) (fun h11 => ?_)
 refine TL.rn 2 rfl (zET (zd (zSG (TL.v (gH fR2) ?_))))
 refine TL.v (gL 1 agI) ?_
 refine TL.callsplit rfl rfl rfl rfl rfl Tryz.func157 nmWithin bdWithin (fun w1 hw => within_any (num) (999) w1) (fun h15 => ?_) (fun h15 => ?_)
 refine TL.rn 2 rfl (zET (zd (zSG (TL.v (gH fR3) ?_))))
 refine TL.v (gL 1 agI) ?_
 refine TL.callsplit rfl rfl rfl rfl rfl Tryz.func157 nmWithin bdWithin (fun w1 hw => within_any (at_) (2251799813685248) w1) (fun h19 => ?_) (fun h19 => ?_)
 refine TL.rn 2 rfl (zET (zd (zSG (TL.v (gH fR10) ?_))))
 refine TL.v (gL 1 agI) ?_
 refine TL.callsplit rfl rfl rfl rfl rfl Tryz.func157 nmWithin bdWithin (fun w1 hw => within_any (back) (2251799813685248) w1) (fun h23 => ?_) (fun h23 => ?_)
 refine TL.rn 2 rfl (zET (zd (zSG (TL.v (gH fR10) ?_))))
 refine TL.v (gL 1 agI) ?_
 refine TL.v (gH fR3) ?_
 refine TL.v (gL 1 agI) ?_
 refine TL.vsplit rfl rfl rfl (gives_bin rfl rfl rfl (fun w => bin_lss w)) (fun h29 => ?_) (fun h29 => ?_)
 refine TL.as_ ?_
 refine zET (zc (zk (zT (zc (zSG (TL.as_ ?_))))))
 refine zET (zr (zRR ?_))
 refine rI Tryz.results120 ?_
 rotate_left
 refine TL.as_ ?_
 refine zET (zd (zSG (TL.v (gH fR6) ?_)))
 refine TL.v (gL 1 agI) ?_
 refine TL.callsplit rfl rfl rfl rfl rfl Tryz.func157 nmWithin bdWithin (fun w1 hw => within_any (flow) (1023) w1) (fun h32 => ?_) (fun h32 => ?_)
 refine TL.rn 2 rfl (zET (zd (zG (TL.v (gH fR7) ?_))))
 refine TL.v (gL 1 agI) ?_
 refine TL.vsplit rfl rfl rfl (gives_bin rfl rfl rfl (fun w => bin_lss w)) (fun h36 => ?_) (fun h36 => ?_)
 refine TL.rn 6 rfl (zET (zc (zSG (TL.as_ ?_))))
 refine zET (zr (zRR ?_))
 refine rI Tryz.results120 ?_
 rotate_left
 refine TL.mv ?_
 refine TL.ov (gH fR7) ?_
 refine TL.ov (gL 1 agI) ?_
 refine TL.gu ?_
 refine TL.vsplit rfl rfl rfl (gives_bin rfl rfl rfl (fun w => bin_gtr w)) (fun h40 => ?_) (fun h40 => ?_)
 refine TL.rn 2 rfl (zET (zc (zSG (TL.as_ ?_))))
 refine zET (zr (zRR ?_))
 refine rI Tryz.results120 ?_
 rotate_left
 refine TL.rn 2 rfl (zET (zd ?_))
 refine TC.join (α := {b : Bool // decide (proto ≠ 1 ∧ proto ≠ 6 ∧ proto ≠ 17) = b}) (fun x => [(1, .pointer (some ⟨g1, 0, none⟩)), (3, .pointer (some ⟨g3, 0, none⟩)), (42, .bool x.1)]) (fun x => Pm w [.blk g3 63 [.int .u32 src, .int .i64 kind, .int .i64 code, .int .i64 left, .int .i64 id, .int .i64 quo], .blk g1 65 [.int .i64 v, .int .i64 run, .int .i64 num, .int .i64 at_, .int .u32 dst, .int .i64 proto, .int .i64 flow, .int .i64 ttl, .bool true, .bool false, .int .i64 back, .int .u32 src, .int .i64 kind, .int .i64 code, .int .i64 left, .int .i64 id, .int .i64 quo]]) ?_ ?_
 refine zG (TL.v (gH fR5) ?_)
 refine TL.v (gL 1 agI) ?_
 refine TL.vsplit rfl rfl rfl (gives_bin rfl rfl rfl (fun w => bin_neq w)) (fun h45 => ?_) (fun h45 => ?_)
 refine TL.mv ?_
 refine TL.ov (gH fR5) ?_
 refine TL.ov (gL 1 agI) ?_
 refine TL.gu ?_
 refine TL.vsplit rfl rfl rfl (gives_bin rfl rfl rfl (fun w => bin_neq w)) (fun h49 => ?_) (fun h49 => ?_)
 refine TL.rn 2 rfl (TL.ov (gH fR5) ?_)
 refine TL.ov (gL 1 agI) ?_
 refine TL.gu ?_
 refine TL.vsplit rfl rfl rfl (gives_bin rfl rfl rfl (fun w => bin_neq w)) (fun h54 => ?_) (fun h54 => ?_)
 refine TL.rn 2 rfl (zE ?_)
 exact TX.joined (⟨true, by simp only [decide_eq_true_eq, decide_eq_false_iff_not] at *; first | omega | (apply decide_eq_true; omega) | (apply decide_eq_false; omega)⟩) (⟨rfl, rfl, rfl, trivial⟩) (fun w hw => hw)
 refine TL.rn 2 rfl (zE ?_)
 exact TX.joined (⟨false, by simp only [decide_eq_true_eq, decide_eq_false_iff_not] at *; first | omega | (apply decide_eq_true; omega) | (apply decide_eq_false; omega)⟩) (⟨rfl, rfl, rfl, trivial⟩) (fun w hw => hw)
 refine TL.rn 7 rfl (zE ?_)
 exact TX.joined (⟨false, by simp only [decide_eq_true_eq, decide_eq_false_iff_not] at *; first | omega | (apply decide_eq_true; omega) | (apply decide_eq_false; omega)⟩) (⟨rfl, rfl, rfl, trivial⟩) (fun w hw => hw)
 refine TL.rn 11 rfl (zE ?_)
 exact TX.joined (⟨false, by simp only [decide_eq_true_eq, decide_eq_false_iff_not] at *; first | omega | (apply decide_eq_true; omega) | (apply decide_eq_false; omega)⟩) (⟨rfl, rfl, rfl, trivial⟩) (fun w hw => hw)
 rintro ⟨b, hb⟩
 dsimp only
 cases b
 refine zd (zS (zSG (TL.v (gH fR9) ?_)))
 refine TL.v (gL 1 agB) ?_
 refine TL.rn 6 rfl (zET (zd (zG (TL.v (gH fR8) ?_))))
 refine TL.v (gL 1 agB) ?_
 refine TL.rn 7 rfl (zET (zd (zSG (TL.v (gH fR8) ?_))))
 refine TL.v (gL 1 agB) ?_
 refine TL.mv ?_
 refine TL.ov (gH fA1) ?_
 refine TL.ov (gL 0 agI) ?_
 refine TL.gu ?_
 refine TL.vsplit rfl rfl rfl (gives_bin rfl rfl rfl (fun w => bin_lss w)) (fun h78 => ?_) (fun h78 => ?_)
 iterate 41 (first | refine TL.of ?_ | refine TL.gu ?_ | refine TL.pk ?_ | refine TL.mv ?_ | refine TL.as_ ?_)
 refine zET (zc (zSG (TL.as_ ?_)))
 refine zET (zr (zRR ?_))
 refine rI Tryz.results120 ?_
 rotate_left
 refine TL.rn 1 rfl (TL.ov (gH fA1) ?_)
 refine TL.ov (gL 0 agI) ?_
 refine TL.gu ?_
 refine TL.vsplit rfl rfl rfl (gives_bin rfl rfl rfl (fun w => bin_gtr w)) (fun h82 => ?_) (fun h82 => ?_)
 iterate 36 (first | refine TL.of ?_ | refine TL.gu ?_ | refine TL.pk ?_ | refine TL.mv ?_ | refine TL.as_ ?_)
 refine zET (zc (zSG (TL.as_ ?_)))
 refine zET (zr (zRR ?_))
 refine rI Tryz.results120 ?_
 rotate_left
 iterate 5 (first | refine TL.gu ?_ | refine TL.mv ?_ | refine TL.pk ?_)
 refine TL.v (gH fA2) ?_
 refine TL.ov (gL 0 agI) ?_
 refine TL.gu ?_
 refine TL.callsplit rfl rfl rfl rfl rfl Tryz.func157 nmWithin bdWithin (fun w1 hw => within_any (code) (255) w1) (fun h87 => ?_) (fun h87 => ?_)
 iterate 7 (first | refine TL.gu ?_ | refine TL.mv ?_ | refine TL.pk ?_ | refine TL.val rfl rfl rfl (gives_boolnot rfl rfl) ?_)
 refine TL.v (gH fA3) ?_
 refine TL.ov (gL 0 agI) ?_
 refine TL.gu ?_
 refine TL.callsplit rfl rfl rfl rfl rfl Tryz.func157 nmWithin bdWithin (fun w1 hw => within_any (left) (255) w1) (fun h93 => ?_) (fun h93 => ?_)
 iterate 7 (first | refine TL.gu ?_ | refine TL.mv ?_ | refine TL.pk ?_ | refine TL.val rfl rfl rfl (gives_boolnot rfl rfl) ?_)
 refine TL.v (gH fA5) ?_
 refine TL.ov (gL 0 agI) ?_
 refine TL.gu ?_
 refine TL.callsplit rfl rfl rfl rfl rfl Tryz.func157 nmWithin bdWithin (fun w1 hw => within_any (quo) (255) w1) (fun h99 => ?_) (fun h99 => ?_)
 iterate 7 (first | refine TL.gu ?_ | refine TL.mv ?_ | refine TL.pk ?_ | refine TL.val rfl rfl rfl (gives_boolnot rfl rfl) ?_)
 refine TL.v (gH fA4) ?_
 refine TL.ov (gL 0 agI) ?_
 refine TL.gu ?_
 refine TL.callsplit rfl rfl rfl rfl rfl Tryz.func157 nmWithin bdWithin (fun w1 hw => within_any (id) (65535) w1) (fun h105 => ?_) (fun h105 => ?_)
 iterate 6 (first | refine TL.gu ?_ | refine TL.pk ?_ | refine TL.as_ ?_ | refine TL.val rfl rfl rfl (gives_boolnot rfl rfl) ?_)
 refine zET (zd (zk (zN (zT (zSG (TL.as_ ?_))))))
 refine zET (zr ?_)
 refine rI Tryz.results120 ?_
 rotate_left
 iterate 6 (first | refine TL.gu ?_ | refine TL.pk ?_ | refine TL.as_ ?_ | refine TL.val rfl rfl rfl (gives_boolnot rfl rfl) ?_)
 refine zET (zc (zSG (TL.as_ ?_)))
 refine zET (zr (zRR ?_))
 refine rI Tryz.results120 ?_
 rotate_left
 iterate 14 (first | refine TL.of ?_ | refine TL.gu ?_ | refine TL.pk ?_ | refine TL.mv ?_ | refine TL.as_ ?_ | refine TL.val rfl rfl rfl (gives_boolnot rfl rfl) ?_)
 refine zET (zc (zSG (TL.as_ ?_)))
 refine zET (zr (zRR ?_))
 refine rI Tryz.results120 ?_
 rotate_left
 iterate 22 (first | refine TL.of ?_ | refine TL.gu ?_ | refine TL.pk ?_ | refine TL.mv ?_ | refine TL.as_ ?_ | refine TL.val rfl rfl rfl (gives_boolnot rfl rfl) ?_)
 refine zET (zc (zSG (TL.as_ ?_)))
 refine zET (zr (zRR ?_))
 refine rI Tryz.results120 ?_
 rotate_left
 iterate 30 (first | refine TL.of ?_ | refine TL.gu ?_ | refine TL.pk ?_ | refine TL.mv ?_ | refine TL.as_ ?_ | refine TL.val rfl rfl rfl (gives_boolnot rfl rfl) ?_)
 refine zET (zc (zSG (TL.as_ ?_)))
 refine zET (zr (zRR ?_))
 refine rI Tryz.results120 ?_
 rotate_left
 refine zc (zSG (TL.as_ ?_))
 refine zET (zr (zRR ?_))
 refine rI Tryz.results120 ?_
 rotate_left
 refine TL.rn 2 rfl (zET (zc (zk (zT (zc (zSG (TL.as_ ?_)))))))
 refine zET (zr (zRR ?_))
 refine rI Tryz.results120 ?_
 rotate_left
 refine TL.rn 2 rfl (zET (zc (zk (zT (zc (zSG (TL.as_ ?_)))))))
 refine zET (zr (zRR ?_))
 refine rI Tryz.results120 ?_
 rotate_left
 refine TL.rn 2 rfl (zET (zc (zk (zT (zc (zSG (TL.as_ ?_)))))))
 refine zET (zr (zRR ?_))
 refine rI Tryz.results120 ?_
 rotate_left
 refine TL.rn 2 rfl (zET (zc (zk (zT (zc (zSG (TL.as_ ?_)))))))
 refine zET (zr (zRR ?_))
 refine rI Tryz.results120 ?_
 rotate_left
 refine TL.rn 2 rfl (zET (zc (zk (zT (zc (zSG (TL.as_ ?_)))))))
 refine zET (zr (zRR ?_))
 refine rI Tryz.results120 ?_
 rotate_left
 all_goals (simp only [decide_eq_true_eq, decide_eq_false_iff_not] at *; first | exact chk_range (by unfold Rs.inRange; dsimp only; omega) | exact chk_ans rfl (by unfold Rs.inRange; dsimp only; omega) (by dsimp only; omega) (by unfold Rs.ansOk; dsimp only; omega) | (simp only [chkR, Rs.inRange, Rs.ansOk, Rs.noAns]; (try split) <;> (try split) <;> (try split) <;> (try split) <;> first | rfl | omega | (simp_all; done) | (simp_all; omega)))
set_option maxHeartbeats 2000000 in
theorem check_any_tt (v run num at_ dst proto flow ttl back src kind code left id quo : Int) (w : World) :
  Calls Tryz.prog 120 #[.agg #[.int .i64 v, .int .i64 run, .int .i64 num, .int .i64 at_, .int .u32 dst, .int .i64 proto, .int .i64 flow, .int .i64 ttl, .bool true, .bool true, .int .i64 back, .int .u32 src, .int .i64 kind, .int .i64 code, .int .i64 left, .int .i64 id, .int .i64 quo]] w fun e w' => e = .returned (.int .i64 (chkR ⟨v, run, num, at_, dst, proto, flow, ttl, true, true, back, src, kind, code, left, id, quo⟩)) ∧ Below w.heap.size w w' := by
 refine begin_ (vs := [.agg #[.int .i64 v, .int .i64 run, .int .i64 num, .int .i64 at_, .int .u32 dst, .int .i64 proto, .int .i64 flow, .int .i64 ttl, .bool true, .bool true, .int .i64 back, .int .u32 src, .int .i64 kind, .int .i64 code, .int .i64 left, .int .i64 id, .int .i64 quo]]) Tryz.func120 rfl rfl rfl ?_ (Pm.start w)
 refine zSG ?_
 refine TL.pnew rfl rfl rfl (exec_box (cs := [.int .i64 v, .int .i64 run, .int .i64 num, .int .i64 at_, .int .u32 dst, .int .i64 proto, .int .i64 flow, .int .i64 ttl, .bool true, .bool true, .int .i64 back, .int .u32 src, .int .i64 kind, .int .i64 code, .int .i64 left, .int .i64 id, .int .i64 quo]) rfl rfl rfl) (fun g1 => ?_)
 refine TL.as_ ?_
 refine zET (zSG (TL.v (gH fR11) ?_))
 refine TL.val rfl rfl rfl (pm_loadAgg (k := 0) (n := 6) rfl rfl agA szA rfl (Nat.le_refl 17)) ?_
 refine TL.pnew rfl rfl rfl (exec_alloc (cs := [.int .u32 0, .int .i64 0, .int .i64 0, .int .i64 0, .int .i64 0, .int .i64 0]) rfl zeroA rfl) (fun g3 => ?_)
 refine TL.pstore (k := 0) (vs := [.int .u32 src, .int .i64 kind, .int .i64 code, .int .i64 left, .int .i64 id, .int .i64 quo]) rfl rfl rfl rfl rfl rfl rfl szA (oneA _ _ _ _ _ _) (Nat.le_refl 6) rfl ?_
 refine zET (zS (zB (zS (zSG (TL.v (gH fR0) ?_)))))
 refine TL.v (gL 1 agI) ?_
 refine TL.v (gH fR1) ?_
 refine TL.v (gL 1 agI) ?_
 refine TL.callsplit rfl rfl rfl rfl rfl Tryz.func156 nmRun bdRun (fun w1 hw => run_any v run w1) (fun h11 => ?_) (fun h11 => ?_)
 refine TL.rn 2 rfl (zET (zd (zSG (TL.v (gH fR2) ?_))))
 refine TL.v (gL 1 agI) ?_
 refine TL.callsplit rfl rfl rfl rfl rfl Tryz.func157 nmWithin bdWithin (fun w1 hw => within_any (num) (999) w1) (fun h15 => ?_) (fun h15 => ?_)
 refine TL.rn 2 rfl (zET (zd (zSG (TL.v (gH fR3) ?_))))
 refine TL.v (gL 1 agI) ?_
 refine TL.callsplit rfl rfl rfl rfl rfl Tryz.func157 nmWithin bdWithin (fun w1 hw => within_any (at_) (2251799813685248) w1) (fun h19 => ?_) (fun h19 => ?_)
 refine TL.rn 2 rfl (zET (zd (zSG (TL.v (gH fR10) ?_))))
 refine TL.v (gL 1 agI) ?_
 refine TL.callsplit rfl rfl rfl rfl rfl Tryz.func157 nmWithin bdWithin (fun w1 hw => within_any (back) (2251799813685248) w1) (fun h23 => ?_) (fun h23 => ?_)
 refine TL.rn 2 rfl (zET (zd (zSG (TL.v (gH fR10) ?_))))
 refine TL.v (gL 1 agI) ?_
 refine TL.v (gH fR3) ?_
 refine TL.v (gL 1 agI) ?_
 refine TL.vsplit rfl rfl rfl (gives_bin rfl rfl rfl (fun w => bin_lss w)) (fun h29 => ?_) (fun h29 => ?_)
 refine TL.as_ ?_
 refine zET (zc (zk (zT (zc (zSG (TL.as_ ?_))))))
 refine zET (zr (zRR ?_))
 refine rI Tryz.results120 ?_
 rotate_left
 refine TL.as_ ?_
 refine zET (zd (zSG (TL.v (gH fR6) ?_)))
 refine TL.v (gL 1 agI) ?_
 refine TL.callsplit rfl rfl rfl rfl rfl Tryz.func157 nmWithin bdWithin (fun w1 hw => within_any (flow) (1023) w1) (fun h32 => ?_) (fun h32 => ?_)
 refine TL.rn 2 rfl (zET (zd (zG (TL.v (gH fR7) ?_))))
 refine TL.v (gL 1 agI) ?_
 refine TL.vsplit rfl rfl rfl (gives_bin rfl rfl rfl (fun w => bin_lss w)) (fun h36 => ?_) (fun h36 => ?_)
 refine TL.rn 6 rfl (zET (zc (zSG (TL.as_ ?_))))
 refine zET (zr (zRR ?_))
 refine rI Tryz.results120 ?_
 rotate_left
 refine TL.mv ?_
 refine TL.ov (gH fR7) ?_
 refine TL.ov (gL 1 agI) ?_
 refine TL.gu ?_
 refine TL.vsplit rfl rfl rfl (gives_bin rfl rfl rfl (fun w => bin_gtr w)) (fun h40 => ?_) (fun h40 => ?_)
 refine TL.rn 2 rfl (zET (zc (zSG (TL.as_ ?_))))
 refine zET (zr (zRR ?_))
 refine rI Tryz.results120 ?_
 rotate_left
 refine TL.rn 2 rfl (zET (zd ?_))
 refine TC.join (α := {b : Bool // decide (proto ≠ 1 ∧ proto ≠ 6 ∧ proto ≠ 17) = b}) (fun x => [(1, .pointer (some ⟨g1, 0, none⟩)), (3, .pointer (some ⟨g3, 0, none⟩)), (42, .bool x.1)]) (fun x => Pm w [.blk g3 63 [.int .u32 src, .int .i64 kind, .int .i64 code, .int .i64 left, .int .i64 id, .int .i64 quo], .blk g1 65 [.int .i64 v, .int .i64 run, .int .i64 num, .int .i64 at_, .int .u32 dst, .int .i64 proto, .int .i64 flow, .int .i64 ttl, .bool true, .bool true, .int .i64 back, .int .u32 src, .int .i64 kind, .int .i64 code, .int .i64 left, .int .i64 id, .int .i64 quo]]) ?_ ?_
 refine zG (TL.v (gH fR5) ?_)
 refine TL.v (gL 1 agI) ?_
 refine TL.vsplit rfl rfl rfl (gives_bin rfl rfl rfl (fun w => bin_neq w)) (fun h45 => ?_) (fun h45 => ?_)
 refine TL.mv ?_
 refine TL.ov (gH fR5) ?_
 refine TL.ov (gL 1 agI) ?_
 refine TL.gu ?_
 refine TL.vsplit rfl rfl rfl (gives_bin rfl rfl rfl (fun w => bin_neq w)) (fun h49 => ?_) (fun h49 => ?_)
 refine TL.rn 2 rfl (TL.ov (gH fR5) ?_)
 refine TL.ov (gL 1 agI) ?_
 refine TL.gu ?_
 refine TL.vsplit rfl rfl rfl (gives_bin rfl rfl rfl (fun w => bin_neq w)) (fun h54 => ?_) (fun h54 => ?_)
 refine TL.rn 2 rfl (zE ?_)
 exact TX.joined (⟨true, by simp only [decide_eq_true_eq, decide_eq_false_iff_not] at *; first | omega | (apply decide_eq_true; omega) | (apply decide_eq_false; omega)⟩) (⟨rfl, rfl, rfl, trivial⟩) (fun w hw => hw)
 refine TL.rn 2 rfl (zE ?_)
 exact TX.joined (⟨false, by simp only [decide_eq_true_eq, decide_eq_false_iff_not] at *; first | omega | (apply decide_eq_true; omega) | (apply decide_eq_false; omega)⟩) (⟨rfl, rfl, rfl, trivial⟩) (fun w hw => hw)
 refine TL.rn 7 rfl (zE ?_)
 exact TX.joined (⟨false, by simp only [decide_eq_true_eq, decide_eq_false_iff_not] at *; first | omega | (apply decide_eq_true; omega) | (apply decide_eq_false; omega)⟩) (⟨rfl, rfl, rfl, trivial⟩) (fun w hw => hw)
 refine TL.rn 11 rfl (zE ?_)
 exact TX.joined (⟨false, by simp only [decide_eq_true_eq, decide_eq_false_iff_not] at *; first | omega | (apply decide_eq_true; omega) | (apply decide_eq_false; omega)⟩) (⟨rfl, rfl, rfl, trivial⟩) (fun w hw => hw)
 rintro ⟨b, hb⟩
 dsimp only
 cases b
 refine zd (zS (zSG (TL.v (gH fR9) ?_)))
 refine TL.v (gL 1 agB) ?_
 refine TL.mv ?_
 refine TL.ov (gH fR8) ?_
 refine TL.ov (gL 1 agB) ?_
 refine TL.rn 3 rfl (zET (zd (zG (TL.v (gH fR8) ?_))))
 refine TL.v (gL 1 agB) ?_
 refine TL.rn 7 rfl (zET (zd (zSG (TL.v (gH fR8) ?_))))
 refine TL.v (gL 1 agB) ?_
 refine TL.mv ?_
 refine TL.ov (gH fA1) ?_
 refine TL.ov (gL 0 agI) ?_
 refine TL.gu ?_
 refine TL.vsplit rfl rfl rfl (gives_bin rfl rfl rfl (fun w => bin_lss w)) (fun h78 => ?_) (fun h78 => ?_)
 iterate 41 (first | refine TL.of ?_ | refine TL.gu ?_ | refine TL.pk ?_ | refine TL.mv ?_ | refine TL.as_ ?_)
 refine zET (zc (zSG (TL.as_ ?_)))
 refine zET (zr (zRR ?_))
 refine rI Tryz.results120 ?_
 rotate_left
 refine TL.rn 1 rfl (TL.ov (gH fA1) ?_)
 refine TL.ov (gL 0 agI) ?_
 refine TL.gu ?_
 refine TL.vsplit rfl rfl rfl (gives_bin rfl rfl rfl (fun w => bin_gtr w)) (fun h82 => ?_) (fun h82 => ?_)
 iterate 36 (first | refine TL.of ?_ | refine TL.gu ?_ | refine TL.pk ?_ | refine TL.mv ?_ | refine TL.as_ ?_)
 refine zET (zc (zSG (TL.as_ ?_)))
 refine zET (zr (zRR ?_))
 refine rI Tryz.results120 ?_
 rotate_left
 iterate 5 (first | refine TL.gu ?_ | refine TL.mv ?_ | refine TL.pk ?_)
 refine TL.v (gH fA2) ?_
 refine TL.ov (gL 0 agI) ?_
 refine TL.gu ?_
 refine TL.callsplit rfl rfl rfl rfl rfl Tryz.func157 nmWithin bdWithin (fun w1 hw => within_any (code) (255) w1) (fun h87 => ?_) (fun h87 => ?_)
 iterate 7 (first | refine TL.gu ?_ | refine TL.mv ?_ | refine TL.pk ?_ | refine TL.val rfl rfl rfl (gives_boolnot rfl rfl) ?_)
 refine TL.v (gH fA3) ?_
 refine TL.ov (gL 0 agI) ?_
 refine TL.gu ?_
 refine TL.callsplit rfl rfl rfl rfl rfl Tryz.func157 nmWithin bdWithin (fun w1 hw => within_any (left) (255) w1) (fun h93 => ?_) (fun h93 => ?_)
 iterate 7 (first | refine TL.gu ?_ | refine TL.mv ?_ | refine TL.pk ?_ | refine TL.val rfl rfl rfl (gives_boolnot rfl rfl) ?_)
 refine TL.v (gH fA5) ?_
 refine TL.ov (gL 0 agI) ?_
 refine TL.gu ?_
 refine TL.callsplit rfl rfl rfl rfl rfl Tryz.func157 nmWithin bdWithin (fun w1 hw => within_any (quo) (255) w1) (fun h99 => ?_) (fun h99 => ?_)
 iterate 7 (first | refine TL.gu ?_ | refine TL.mv ?_ | refine TL.pk ?_ | refine TL.val rfl rfl rfl (gives_boolnot rfl rfl) ?_)
 refine TL.v (gH fA4) ?_
 refine TL.ov (gL 0 agI) ?_
 refine TL.gu ?_
 refine TL.callsplit rfl rfl rfl rfl rfl Tryz.func157 nmWithin bdWithin (fun w1 hw => within_any (id) (65535) w1) (fun h105 => ?_) (fun h105 => ?_)
 iterate 6 (first | refine TL.gu ?_ | refine TL.pk ?_ | refine TL.as_ ?_ | refine TL.val rfl rfl rfl (gives_boolnot rfl rfl) ?_)
 refine zET (zd (zk (zN (zT (zSG (TL.as_ ?_))))))
 refine zET (zr ?_)
 refine rI Tryz.results120 ?_
 rotate_left
 iterate 6 (first | refine TL.gu ?_ | refine TL.pk ?_ | refine TL.as_ ?_ | refine TL.val rfl rfl rfl (gives_boolnot rfl rfl) ?_)
 refine zET (zc (zSG (TL.as_ ?_)))
 refine zET (zr (zRR ?_))
 refine rI Tryz.results120 ?_
 rotate_left
 iterate 14 (first | refine TL.of ?_ | refine TL.gu ?_ | refine TL.pk ?_ | refine TL.mv ?_ | refine TL.as_ ?_ | refine TL.val rfl rfl rfl (gives_boolnot rfl rfl) ?_)
 refine zET (zc (zSG (TL.as_ ?_)))
 refine zET (zr (zRR ?_))
 refine rI Tryz.results120 ?_
 rotate_left
 iterate 22 (first | refine TL.of ?_ | refine TL.gu ?_ | refine TL.pk ?_ | refine TL.mv ?_ | refine TL.as_ ?_ | refine TL.val rfl rfl rfl (gives_boolnot rfl rfl) ?_)
 refine zET (zc (zSG (TL.as_ ?_)))
 refine zET (zr (zRR ?_))
 refine rI Tryz.results120 ?_
 rotate_left
 iterate 30 (first | refine TL.of ?_ | refine TL.gu ?_ | refine TL.pk ?_ | refine TL.mv ?_ | refine TL.as_ ?_ | refine TL.val rfl rfl rfl (gives_boolnot rfl rfl) ?_)
 refine zET (zc (zSG (TL.as_ ?_)))
 refine zET (zr (zRR ?_))
 refine rI Tryz.results120 ?_
 rotate_left
 refine zc (zSG (TL.as_ ?_))
 refine zET (zr (zRR ?_))
 refine rI Tryz.results120 ?_
 rotate_left
 refine TL.rn 2 rfl (zET (zc (zk (zT (zc (zSG (TL.as_ ?_)))))))
 refine zET (zr (zRR ?_))
 refine rI Tryz.results120 ?_
 rotate_left
 refine TL.rn 2 rfl (zET (zc (zk (zT (zc (zSG (TL.as_ ?_)))))))
 refine zET (zr (zRR ?_))
 refine rI Tryz.results120 ?_
 rotate_left
 refine TL.rn 2 rfl (zET (zc (zk (zT (zc (zSG (TL.as_ ?_)))))))
 refine zET (zr (zRR ?_))
 refine rI Tryz.results120 ?_
 rotate_left
 refine TL.rn 2 rfl (zET (zc (zk (zT (zc (zSG (TL.as_ ?_)))))))
 refine zET (zr (zRR ?_))
 refine rI Tryz.results120 ?_
 rotate_left
 refine TL.rn 2 rfl (zET (zc (zk (zT (zc (zSG (TL.as_ ?_)))))))
 refine zET (zr (zRR ?_))
 refine rI Tryz.results120 ?_
 rotate_left
 all_goals (simp only [decide_eq_true_eq, decide_eq_false_iff_not] at *; first | exact chk_range (by unfold Rs.inRange; dsimp only; omega) | exact chk_ans rfl (by unfold Rs.inRange; dsimp only; omega) (by dsimp only; omega) (by unfold Rs.ansOk; dsimp only; omega) | (simp only [chkR, Rs.inRange, Rs.ansOk, Rs.noAns]; (try split) <;> (try split) <;> (try split) <;> (try split) <;> first | rfl | omega | (simp_all; done) | (simp_all; omega)))
theorem check_any (r : Rs) (w : World) :
  Calls Tryz.prog 120 #[.agg r.cells.toArray] w fun e w' => e = .returned (.int .i64 (chkR r)) ∧ Below w.heap.size w w' := by
 obtain ⟨v, run, num, at_, dst, proto, flow, ttl, ans, dbl, back, src, kind, code, left, id, quo⟩ := r
 cases ans <;> cases dbl
 ·exact check_any_ff v run num at_ dst proto flow ttl back src kind code left id quo w
 ·exact check_any_ft v run num at_ dst proto flow ttl back src kind code left id quo w
 ·exact check_any_tf v run num at_ dst proto flow ttl back src kind code left id quo w
 exact check_any_tt v run num at_ dst proto flow ttl back src kind code left id quo w
set_option maxRecDepth 20000
set_option maxHeartbeats 2000000 in
theorem rcheck_any_ff (v run num at_ dst proto flow ttl back src kind code left id quo : Int) (w : World) :
  Calls Tryz.prog 121 #[.agg #[.int .i64 v, .int .i64 run, .int .i64 num, .int .i64 at_, .int .u32 dst, .int .i64 proto, .int .i64 flow, .int .i64 ttl, .bool false, .bool false, .int .i64 back, .int .u32 src, .int .i64 kind, .int .i64 code, .int .i64 left, .int .i64 id, .int .i64 quo]] w fun e w' => e = .returned (.int .i64 (chkR ⟨v, run, num, at_, dst, proto, flow, ttl, false, false, back, src, kind, code, left, id, quo⟩)) ∧ Below w.heap.size w w' := by
 refine begin_ (vs := [.agg #[.int .i64 v, .int .i64 run, .int .i64 num, .int .i64 at_, .int .u32 dst, .int .i64 proto, .int .i64 flow, .int .i64 ttl, .bool false, .bool false, .int .i64 back, .int .u32 src, .int .i64 kind, .int .i64 code, .int .i64 left, .int .i64 id, .int .i64 quo]]) Tryz.func121 rfl rfl rfl ?_ (Pm.start w)
 refine zSG ?_
 refine TL.pnew rfl rfl rfl (exec_box (cs := [.int .i64 v, .int .i64 run, .int .i64 num, .int .i64 at_, .int .u32 dst, .int .i64 proto, .int .i64 flow, .int .i64 ttl, .bool false, .bool false, .int .i64 back, .int .u32 src, .int .i64 kind, .int .i64 code, .int .i64 left, .int .i64 id, .int .i64 quo]) rfl rfl rfl) (fun g1 => ?_)
 refine TL.as_ ?_
 refine zET (zS (zSG (TL.v (gH fR0) ?_)))
 refine TL.v (gL 0 agI) ?_
 refine TL.v (gH fR1) ?_
 refine TL.v (gL 0 agI) ?_
 refine TL.callsplit rfl rfl rfl rfl rfl Tryz.func158 nmIdent bdIdent (fun w1 hw => ident_any v run w1) (fun h8 => ?_) (fun h8 => ?_)
 refine TL.rn 2 rfl (TL.ov (gH fR2) ?_)
 refine TL.ov (gL 0 agI) ?_
 refine TL.gu ?_
 refine TL.vsplit rfl rfl rfl (gives_bin rfl rfl rfl (fun w => bin_lss w)) (fun h13 => ?_) (fun h13 => ?_)
 refine TL.rn 48 rfl (zET (zc (zSG (TL.as_ ?_))))
 refine zET (zr (zR ?_))
 refine rI Tryz.results121 ?_
 rotate_left
 refine TL.rn 2 rfl (TL.ov (gH fR2) ?_)
 refine TL.ov (gL 0 agI) ?_
 refine TL.gu ?_
 refine TL.vsplit rfl rfl rfl (gives_bin rfl rfl rfl (fun w => bin_geq w)) (fun h18 => ?_) (fun h18 => ?_)
 refine TL.rn 43 rfl (zET (zc (zSG (TL.as_ ?_))))
 refine zET (zr (zR ?_))
 refine rI Tryz.results121 ?_
 rotate_left
 refine TL.rn 2 rfl (TL.ov (gH fR3) ?_)
 refine TL.ov (gL 0 agI) ?_
 refine TL.gu ?_
 refine TL.vsplit rfl rfl rfl (gives_bin rfl rfl rfl (fun w => bin_lss w)) (fun h23 => ?_) (fun h23 => ?_)
 refine TL.rn 38 rfl (zET (zc (zSG (TL.as_ ?_))))
 refine zET (zr (zR ?_))
 refine rI Tryz.results121 ?_
 rotate_left
 refine TL.rn 2 rfl (TL.ov (gH fR3) ?_)
 refine TL.ov (gL 0 agI) ?_
 refine TL.gu ?_
 refine TL.vsplit rfl rfl rfl (gives_bin rfl rfl rfl (fun w => bin_gtr w)) (fun h28 => ?_) (fun h28 => ?_)
 refine TL.rn 33 rfl (zET (zc (zSG (TL.as_ ?_))))
 refine zET (zr (zR ?_))
 refine rI Tryz.results121 ?_
 rotate_left
 refine TL.rn 2 rfl (TL.ov (gH fR10) ?_)
 refine TL.ov (gL 0 agI) ?_
 refine TL.ov (gH fR3) ?_
 refine TL.ov (gL 0 agI) ?_
 refine TL.gu ?_
 refine TL.vsplit rfl rfl rfl (gives_bin rfl rfl rfl (fun w => bin_lss w)) (fun h35 => ?_) (fun h35 => ?_)
 refine TL.rn 26 rfl (zET (zc (zSG (TL.as_ ?_))))
 refine zET (zr (zR ?_))
 refine rI Tryz.results121 ?_
 rotate_left
 refine TL.rn 2 rfl (TL.ov (gH fR10) ?_)
 refine TL.ov (gL 0 agI) ?_
 refine TL.gu ?_
 refine TL.vsplit rfl rfl rfl (gives_bin rfl rfl rfl (fun w => bin_gtr w)) (fun h40 => ?_) (fun h40 => ?_)
 refine TL.rn 21 rfl (zET (zc (zSG (TL.as_ ?_))))
 refine zET (zr (zR ?_))
 refine rI Tryz.results121 ?_
 rotate_left
 refine TL.rn 2 rfl (TL.ov (gH fR6) ?_)
 refine TL.ov (gL 0 agI) ?_
 refine TL.gu ?_
 refine TL.vsplit rfl rfl rfl (gives_bin rfl rfl rfl (fun w => bin_lss w)) (fun h45 => ?_) (fun h45 => ?_)
 refine TL.rn 16 rfl (zET (zc (zSG (TL.as_ ?_))))
 refine zET (zr (zR ?_))
 refine rI Tryz.results121 ?_
 rotate_left
 refine TL.rn 2 rfl (TL.ov (gH fR6) ?_)
 refine TL.ov (gL 0 agI) ?_
 refine TL.gu ?_
 refine TL.vsplit rfl rfl rfl (gives_bin rfl rfl rfl (fun w => bin_gtr w)) (fun h50 => ?_) (fun h50 => ?_)
 refine TL.rn 11 rfl (zET (zc (zSG (TL.as_ ?_))))
 refine zET (zr (zR ?_))
 refine rI Tryz.results121 ?_
 rotate_left
 refine TL.rn 2 rfl (TL.ov (gH fR7) ?_)
 refine TL.ov (gL 0 agI) ?_
 refine TL.gu ?_
 refine TL.vsplit rfl rfl rfl (gives_bin rfl rfl rfl (fun w => bin_lss w)) (fun h55 => ?_) (fun h55 => ?_)
 refine TL.rn 6 rfl (zET (zc (zSG (TL.as_ ?_))))
 refine zET (zr (zR ?_))
 refine rI Tryz.results121 ?_
 rotate_left
 refine TL.rn 2 rfl (TL.ov (gH fR7) ?_)
 refine TL.ov (gL 0 agI) ?_
 refine TL.gu ?_
 refine TL.vsplit rfl rfl rfl (gives_bin rfl rfl rfl (fun w => bin_gtr w)) (fun h60 => ?_) (fun h60 => ?_)
 refine TL.pk ?_
 refine zET (zc (zSG (TL.as_ ?_)))
 refine zET (zr (zR ?_))
 refine rI Tryz.results121 ?_
 rotate_left
 refine TL.pk ?_
 refine zET (zd (zk (zT ?_)))
 refine TC.join (α := PLift (proto = 1 ∨ proto = 6 ∨ proto = 17)) (fun _ => [(1, .pointer (some ⟨g1, 0, none⟩))]) (fun _ => Pm w [.blk g1 65 [.int .i64 v, .int .i64 run, .int .i64 num, .int .i64 at_, .int .u32 dst, .int .i64 proto, .int .i64 flow, .int .i64 ttl, .bool false, .bool false, .int .i64 back, .int .u32 src, .int .i64 kind, .int .i64 code, .int .i64 left, .int .i64 id, .int .i64 quo]]) ?_ ?_
 refine zSG (TL.v (gH fR5) ?_)
 refine TL.v (gL 0 agI) ?_
 refine TL.vsplit rfl rfl rfl (gives_bin rfl rfl rfl (fun w => bin_neq w)) (fun h64 => ?_) (fun h64 => ?_)
 refine TL.mv ?_
 refine TL.ov (gH fR5) ?_
 refine TL.ov (gL 0 agI) ?_
 refine TL.gu ?_
 refine TL.vsplit rfl rfl rfl (gives_bin rfl rfl rfl (fun w => bin_neq w)) (fun h68 => ?_) (fun h68 => ?_)
 refine TL.rn 2 rfl (TL.ov (gH fR5) ?_)
 refine TL.ov (gL 0 agI) ?_
 refine TL.gu ?_
 refine TL.vsplit rfl rfl rfl (gives_bin rfl rfl rfl (fun w => bin_neq w)) (fun h73 => ?_) (fun h73 => ?_)
 refine TL.pk ?_
 refine zET (zc (zSG (TL.as_ ?_)))
 refine zET (zr (zR ?_))
 refine rI Tryz.results121 ?_
 rotate_left
 refine TL.pk ?_
 refine zET (zd (zk ?_))
 exact TX.joined (⟨by simp only [decide_eq_true_eq, decide_eq_false_iff_not] at *; omega⟩) (⟨rfl, trivial⟩) (fun w hw => hw)
 refine TL.rn 6 rfl (zET (zd (zk ?_)))
 exact TX.joined (⟨by simp only [decide_eq_true_eq, decide_eq_false_iff_not] at *; omega⟩) (⟨rfl, trivial⟩) (fun w hw => hw)
 refine TL.rn 10 rfl (zET (zd (zk ?_)))
 exact TX.joined (⟨by simp only [decide_eq_true_eq, decide_eq_false_iff_not] at *; omega⟩) (⟨rfl, trivial⟩) (fun w hw => hw)
 rintro ⟨hproto⟩
 refine zSG (TL.v (gH fR11) ?_)
 refine TL.val rfl rfl rfl (pm_loadAgg (k := 0) (n := 6) rfl rfl agA szA rfl (Nat.le_refl 17)) ?_
 refine TL.pnew rfl rfl rfl (exec_alloc (cs := [.int .u32 0, .int .i64 0, .int .i64 0, .int .i64 0, .int .i64 0, .int .i64 0]) rfl zeroA rfl) (fun g3 => ?_)
 refine TL.pstore (k := 0) (vs := [.int .u32 src, .int .i64 kind, .int .i64 code, .int .i64 left, .int .i64 id, .int .i64 quo]) rfl rfl rfl rfl rfl rfl rfl szA (oneA _ _ _ _ _ _) (Nat.le_refl 6) rfl ?_
 refine zET (zS (zSG (TL.v (gH fR8) ?_)))
 refine TL.v (gL 1 agB) ?_
 refine TL.rn 2 rfl (TL.ov (gH fR9) ?_)
 refine TL.ov (gL 1 agB) ?_
 refine TL.rn 1 rfl (TL.gu ?_)
 refine TL.val rfl rfl rfl (pm_loadAgg (k := 0) (n := 6) rfl rfl agA szA rfl (Nat.le_refl 6)) ?_
 refine TL.gu ?_
 refine TL.val rfl rfl rfl (gives_build rfl rfl (fun w => buildA w)) ?_
 refine TL.gu ?_
 refine TL.vsplit rfl rfl rfl (gives_bin2 rfl rfl rfl (fun w => neqA _ _ _ _ _ _ _ _ _ _ _ _ w)) (fun h86 => ?_) (fun h86 => ?_)
 refine TL.rn 2 rfl (zET (zc (zSG (TL.as_ ?_))))
 refine zET (zr (zR ?_))
 refine rI Tryz.results121 ?_
 rotate_left
 refine TL.rn 2 rfl (zET (zd (zk (zT (zS (zSG (TL.v (gH fR8) ?_)))))))
 refine TL.v (gL 1 agB) ?_
 iterate 38 (first | refine TL.offU rfl rfl rfl rfl rfl ?_ | refine TL.of ?_ | refine TL.mv ?_ | refine TL.pk ?_)
 refine zET (zd (zk (zT (zSG (TL.as_ ?_)))))
 refine zET (zr ?_)
 refine rI Tryz.results121 ?_
 rotate_left
 refine TL.rn 53 rfl (zET (zc (zSG (TL.as_ ?_))))
 refine zET (zr (zR ?_))
 refine rI Tryz.results121 ?_
 rotate_left
 all_goals (simp only [decide_eq_true_eq, decide_eq_false_iff_not] at *; first | exact chk_range (by unfold Rs.inRange; dsimp only; omega) | exact chk_ans rfl (by unfold Rs.inRange; dsimp only; omega) (by dsimp only; omega) (by unfold Rs.ansOk; dsimp only; omega) | (simp only [chkR, Rs.inRange, Rs.ansOk, Rs.noAns]; (try split) <;> (try split) <;> (try split) <;> (try split) <;> first | rfl | omega | (simp_all; done) | (simp_all; omega)))
set_option maxHeartbeats 2000000 in
theorem rcheck_any_ft (v run num at_ dst proto flow ttl back src kind code left id quo : Int) (w : World) :
  Calls Tryz.prog 121 #[.agg #[.int .i64 v, .int .i64 run, .int .i64 num, .int .i64 at_, .int .u32 dst, .int .i64 proto, .int .i64 flow, .int .i64 ttl, .bool false, .bool true, .int .i64 back, .int .u32 src, .int .i64 kind, .int .i64 code, .int .i64 left, .int .i64 id, .int .i64 quo]] w fun e w' => e = .returned (.int .i64 (chkR ⟨v, run, num, at_, dst, proto, flow, ttl, false, true, back, src, kind, code, left, id, quo⟩)) ∧ Below w.heap.size w w' := by
 refine begin_ (vs := [.agg #[.int .i64 v, .int .i64 run, .int .i64 num, .int .i64 at_, .int .u32 dst, .int .i64 proto, .int .i64 flow, .int .i64 ttl, .bool false, .bool true, .int .i64 back, .int .u32 src, .int .i64 kind, .int .i64 code, .int .i64 left, .int .i64 id, .int .i64 quo]]) Tryz.func121 rfl rfl rfl ?_ (Pm.start w)
 refine zSG ?_
 refine TL.pnew rfl rfl rfl (exec_box (cs := [.int .i64 v, .int .i64 run, .int .i64 num, .int .i64 at_, .int .u32 dst, .int .i64 proto, .int .i64 flow, .int .i64 ttl, .bool false, .bool true, .int .i64 back, .int .u32 src, .int .i64 kind, .int .i64 code, .int .i64 left, .int .i64 id, .int .i64 quo]) rfl rfl rfl) (fun g1 => ?_)
 refine TL.as_ ?_
 refine zET (zS (zSG (TL.v (gH fR0) ?_)))
 refine TL.v (gL 0 agI) ?_
 refine TL.v (gH fR1) ?_
 refine TL.v (gL 0 agI) ?_
 refine TL.callsplit rfl rfl rfl rfl rfl Tryz.func158 nmIdent bdIdent (fun w1 hw => ident_any v run w1) (fun h8 => ?_) (fun h8 => ?_)
 refine TL.rn 2 rfl (TL.ov (gH fR2) ?_)
 refine TL.ov (gL 0 agI) ?_
 refine TL.gu ?_
 refine TL.vsplit rfl rfl rfl (gives_bin rfl rfl rfl (fun w => bin_lss w)) (fun h13 => ?_) (fun h13 => ?_)
 refine TL.rn 48 rfl (zET (zc (zSG (TL.as_ ?_))))
 refine zET (zr (zR ?_))
 refine rI Tryz.results121 ?_
 rotate_left
 refine TL.rn 2 rfl (TL.ov (gH fR2) ?_)
 refine TL.ov (gL 0 agI) ?_
 refine TL.gu ?_
 refine TL.vsplit rfl rfl rfl (gives_bin rfl rfl rfl (fun w => bin_geq w)) (fun h18 => ?_) (fun h18 => ?_)
 refine TL.rn 43 rfl (zET (zc (zSG (TL.as_ ?_))))
 refine zET (zr (zR ?_))
 refine rI Tryz.results121 ?_
 rotate_left
 refine TL.rn 2 rfl (TL.ov (gH fR3) ?_)
 refine TL.ov (gL 0 agI) ?_
 refine TL.gu ?_
 refine TL.vsplit rfl rfl rfl (gives_bin rfl rfl rfl (fun w => bin_lss w)) (fun h23 => ?_) (fun h23 => ?_)
 refine TL.rn 38 rfl (zET (zc (zSG (TL.as_ ?_))))
 refine zET (zr (zR ?_))
 refine rI Tryz.results121 ?_
 rotate_left
 refine TL.rn 2 rfl (TL.ov (gH fR3) ?_)
 refine TL.ov (gL 0 agI) ?_
 refine TL.gu ?_
 refine TL.vsplit rfl rfl rfl (gives_bin rfl rfl rfl (fun w => bin_gtr w)) (fun h28 => ?_) (fun h28 => ?_)
 refine TL.rn 33 rfl (zET (zc (zSG (TL.as_ ?_))))
 refine zET (zr (zR ?_))
 refine rI Tryz.results121 ?_
 rotate_left
 refine TL.rn 2 rfl (TL.ov (gH fR10) ?_)
 refine TL.ov (gL 0 agI) ?_
 refine TL.ov (gH fR3) ?_
 refine TL.ov (gL 0 agI) ?_
 refine TL.gu ?_
 refine TL.vsplit rfl rfl rfl (gives_bin rfl rfl rfl (fun w => bin_lss w)) (fun h35 => ?_) (fun h35 => ?_)
 refine TL.rn 26 rfl (zET (zc (zSG (TL.as_ ?_))))
 refine zET (zr (zR ?_))
 refine rI Tryz.results121 ?_
 rotate_left
 refine TL.rn 2 rfl (TL.ov (gH fR10) ?_)
 refine TL.ov (gL 0 agI) ?_
 refine TL.gu ?_
 refine TL.vsplit rfl rfl rfl (gives_bin rfl rfl rfl (fun w => bin_gtr w)) (fun h40 => ?_) (fun h40 => ?_)
 refine TL.rn 21 rfl (zET (zc (zSG (TL.as_ ?_))))
 refine zET (zr (zR ?_))
 refine rI Tryz.results121 ?_
 rotate_left
 refine TL.rn 2 rfl (TL.ov (gH fR6) ?_)
 refine TL.ov (gL 0 agI) ?_
 refine TL.gu ?_
 refine TL.vsplit rfl rfl rfl (gives_bin rfl rfl rfl (fun w => bin_lss w)) (fun h45 => ?_) (fun h45 => ?_)
 refine TL.rn 16 rfl (zET (zc (zSG (TL.as_ ?_))))
 refine zET (zr (zR ?_))
 refine rI Tryz.results121 ?_
 rotate_left
 refine TL.rn 2 rfl (TL.ov (gH fR6) ?_)
 refine TL.ov (gL 0 agI) ?_
 refine TL.gu ?_
 refine TL.vsplit rfl rfl rfl (gives_bin rfl rfl rfl (fun w => bin_gtr w)) (fun h50 => ?_) (fun h50 => ?_)
 refine TL.rn 11 rfl (zET (zc (zSG (TL.as_ ?_))))
 refine zET (zr (zR ?_))
 refine rI Tryz.results121 ?_
 rotate_left
 refine TL.rn 2 rfl (TL.ov (gH fR7) ?_)
 refine TL.ov (gL 0 agI) ?_
 refine TL.gu ?_
 refine TL.vsplit rfl rfl rfl (gives_bin rfl rfl rfl (fun w => bin_lss w)) (fun h55 => ?_) (fun h55 => ?_)
 refine TL.rn 6 rfl (zET (zc (zSG (TL.as_ ?_))))
 refine zET (zr (zR ?_))
 refine rI Tryz.results121 ?_
 rotate_left
 refine TL.rn 2 rfl (TL.ov (gH fR7) ?_)
 refine TL.ov (gL 0 agI) ?_
 refine TL.gu ?_
 refine TL.vsplit rfl rfl rfl (gives_bin rfl rfl rfl (fun w => bin_gtr w)) (fun h60 => ?_) (fun h60 => ?_)
 refine TL.pk ?_
 refine zET (zc (zSG (TL.as_ ?_)))
 refine zET (zr (zR ?_))
 refine rI Tryz.results121 ?_
 rotate_left
 refine TL.pk ?_
 refine zET (zd (zk (zT ?_)))
 refine TC.join (α := PLift (proto = 1 ∨ proto = 6 ∨ proto = 17)) (fun _ => [(1, .pointer (some ⟨g1, 0, none⟩))]) (fun _ => Pm w [.blk g1 65 [.int .i64 v, .int .i64 run, .int .i64 num, .int .i64 at_, .int .u32 dst, .int .i64 proto, .int .i64 flow, .int .i64 ttl, .bool false, .bool true, .int .i64 back, .int .u32 src, .int .i64 kind, .int .i64 code, .int .i64 left, .int .i64 id, .int .i64 quo]]) ?_ ?_
 refine zSG (TL.v (gH fR5) ?_)
 refine TL.v (gL 0 agI) ?_
 refine TL.vsplit rfl rfl rfl (gives_bin rfl rfl rfl (fun w => bin_neq w)) (fun h64 => ?_) (fun h64 => ?_)
 refine TL.mv ?_
 refine TL.ov (gH fR5) ?_
 refine TL.ov (gL 0 agI) ?_
 refine TL.gu ?_
 refine TL.vsplit rfl rfl rfl (gives_bin rfl rfl rfl (fun w => bin_neq w)) (fun h68 => ?_) (fun h68 => ?_)
 refine TL.rn 2 rfl (TL.ov (gH fR5) ?_)
 refine TL.ov (gL 0 agI) ?_
 refine TL.gu ?_
 refine TL.vsplit rfl rfl rfl (gives_bin rfl rfl rfl (fun w => bin_neq w)) (fun h73 => ?_) (fun h73 => ?_)
 refine TL.pk ?_
 refine zET (zc (zSG (TL.as_ ?_)))
 refine zET (zr (zR ?_))
 refine rI Tryz.results121 ?_
 rotate_left
 refine TL.pk ?_
 refine zET (zd (zk ?_))
 exact TX.joined (⟨by simp only [decide_eq_true_eq, decide_eq_false_iff_not] at *; omega⟩) (⟨rfl, trivial⟩) (fun w hw => hw)
 refine TL.rn 6 rfl (zET (zd (zk ?_)))
 exact TX.joined (⟨by simp only [decide_eq_true_eq, decide_eq_false_iff_not] at *; omega⟩) (⟨rfl, trivial⟩) (fun w hw => hw)
 refine TL.rn 10 rfl (zET (zd (zk ?_)))
 exact TX.joined (⟨by simp only [decide_eq_true_eq, decide_eq_false_iff_not] at *; omega⟩) (⟨rfl, trivial⟩) (fun w hw => hw)
 rintro ⟨hproto⟩
 refine zSG (TL.v (gH fR11) ?_)
 refine TL.val rfl rfl rfl (pm_loadAgg (k := 0) (n := 6) rfl rfl agA szA rfl (Nat.le_refl 17)) ?_
 refine TL.pnew rfl rfl rfl (exec_alloc (cs := [.int .u32 0, .int .i64 0, .int .i64 0, .int .i64 0, .int .i64 0, .int .i64 0]) rfl zeroA rfl) (fun g3 => ?_)
 refine TL.pstore (k := 0) (vs := [.int .u32 src, .int .i64 kind, .int .i64 code, .int .i64 left, .int .i64 id, .int .i64 quo]) rfl rfl rfl rfl rfl rfl rfl szA (oneA _ _ _ _ _ _) (Nat.le_refl 6) rfl ?_
 refine zET (zS (zSG (TL.v (gH fR8) ?_)))
 refine TL.v (gL 1 agB) ?_
 refine TL.rn 2 rfl (TL.ov (gH fR9) ?_)
 refine TL.ov (gL 1 agB) ?_
 iterate 8 (first | refine TL.of ?_ | refine TL.gu ?_ | refine TL.pk ?_ | refine TL.mv ?_)
 refine zET (zc (zSG (TL.as_ ?_)))
 refine zET (zr (zR ?_))
 refine rI Tryz.results121 ?_
 rotate_left
 refine TL.rn 53 rfl (zET (zc (zSG (TL.as_ ?_))))
 refine zET (zr (zR ?_))
 refine rI Tryz.results121 ?_
 rotate_left
 all_goals (simp only [decide_eq_true_eq, decide_eq_false_iff_not] at *; first | exact chk_range (by unfold Rs.inRange; dsimp only; omega) | exact chk_ans rfl (by unfold Rs.inRange; dsimp only; omega) (by dsimp only; omega) (by unfold Rs.ansOk; dsimp only; omega) | (simp only [chkR, Rs.inRange, Rs.ansOk, Rs.noAns]; (try split) <;> (try split) <;> (try split) <;> (try split) <;> first | rfl | omega | (simp_all; done) | (simp_all; omega)))
set_option maxHeartbeats 2000000 in
theorem rcheck_any_tf (v run num at_ dst proto flow ttl back src kind code left id quo : Int) (w : World) :
  Calls Tryz.prog 121 #[.agg #[.int .i64 v, .int .i64 run, .int .i64 num, .int .i64 at_, .int .u32 dst, .int .i64 proto, .int .i64 flow, .int .i64 ttl, .bool true, .bool false, .int .i64 back, .int .u32 src, .int .i64 kind, .int .i64 code, .int .i64 left, .int .i64 id, .int .i64 quo]] w fun e w' => e = .returned (.int .i64 (chkR ⟨v, run, num, at_, dst, proto, flow, ttl, true, false, back, src, kind, code, left, id, quo⟩)) ∧ Below w.heap.size w w' := by
 refine begin_ (vs := [.agg #[.int .i64 v, .int .i64 run, .int .i64 num, .int .i64 at_, .int .u32 dst, .int .i64 proto, .int .i64 flow, .int .i64 ttl, .bool true, .bool false, .int .i64 back, .int .u32 src, .int .i64 kind, .int .i64 code, .int .i64 left, .int .i64 id, .int .i64 quo]]) Tryz.func121 rfl rfl rfl ?_ (Pm.start w)
 refine zSG ?_
 refine TL.pnew rfl rfl rfl (exec_box (cs := [.int .i64 v, .int .i64 run, .int .i64 num, .int .i64 at_, .int .u32 dst, .int .i64 proto, .int .i64 flow, .int .i64 ttl, .bool true, .bool false, .int .i64 back, .int .u32 src, .int .i64 kind, .int .i64 code, .int .i64 left, .int .i64 id, .int .i64 quo]) rfl rfl rfl) (fun g1 => ?_)
 refine TL.as_ ?_
 refine zET (zS (zSG (TL.v (gH fR0) ?_)))
 refine TL.v (gL 0 agI) ?_
 refine TL.v (gH fR1) ?_
 refine TL.v (gL 0 agI) ?_
 refine TL.callsplit rfl rfl rfl rfl rfl Tryz.func158 nmIdent bdIdent (fun w1 hw => ident_any v run w1) (fun h8 => ?_) (fun h8 => ?_)
 refine TL.rn 2 rfl (TL.ov (gH fR2) ?_)
 refine TL.ov (gL 0 agI) ?_
 refine TL.gu ?_
 refine TL.vsplit rfl rfl rfl (gives_bin rfl rfl rfl (fun w => bin_lss w)) (fun h13 => ?_) (fun h13 => ?_)
 refine TL.rn 48 rfl (zET (zc (zSG (TL.as_ ?_))))
 refine zET (zr (zR ?_))
 refine rI Tryz.results121 ?_
 rotate_left
 refine TL.rn 2 rfl (TL.ov (gH fR2) ?_)
 refine TL.ov (gL 0 agI) ?_
 refine TL.gu ?_
 refine TL.vsplit rfl rfl rfl (gives_bin rfl rfl rfl (fun w => bin_geq w)) (fun h18 => ?_) (fun h18 => ?_)
 refine TL.rn 43 rfl (zET (zc (zSG (TL.as_ ?_))))
 refine zET (zr (zR ?_))
 refine rI Tryz.results121 ?_
 rotate_left
 refine TL.rn 2 rfl (TL.ov (gH fR3) ?_)
 refine TL.ov (gL 0 agI) ?_
 refine TL.gu ?_
 refine TL.vsplit rfl rfl rfl (gives_bin rfl rfl rfl (fun w => bin_lss w)) (fun h23 => ?_) (fun h23 => ?_)
 refine TL.rn 38 rfl (zET (zc (zSG (TL.as_ ?_))))
 refine zET (zr (zR ?_))
 refine rI Tryz.results121 ?_
 rotate_left
 refine TL.rn 2 rfl (TL.ov (gH fR3) ?_)
 refine TL.ov (gL 0 agI) ?_
 refine TL.gu ?_
 refine TL.vsplit rfl rfl rfl (gives_bin rfl rfl rfl (fun w => bin_gtr w)) (fun h28 => ?_) (fun h28 => ?_)
 refine TL.rn 33 rfl (zET (zc (zSG (TL.as_ ?_))))
 refine zET (zr (zR ?_))
 refine rI Tryz.results121 ?_
 rotate_left
 refine TL.rn 2 rfl (TL.ov (gH fR10) ?_)
 refine TL.ov (gL 0 agI) ?_
 refine TL.ov (gH fR3) ?_
 refine TL.ov (gL 0 agI) ?_
 refine TL.gu ?_
 refine TL.vsplit rfl rfl rfl (gives_bin rfl rfl rfl (fun w => bin_lss w)) (fun h35 => ?_) (fun h35 => ?_)
 refine TL.rn 26 rfl (zET (zc (zSG (TL.as_ ?_))))
 refine zET (zr (zR ?_))
 refine rI Tryz.results121 ?_
 rotate_left
 refine TL.rn 2 rfl (TL.ov (gH fR10) ?_)
 refine TL.ov (gL 0 agI) ?_
 refine TL.gu ?_
 refine TL.vsplit rfl rfl rfl (gives_bin rfl rfl rfl (fun w => bin_gtr w)) (fun h40 => ?_) (fun h40 => ?_)
 refine TL.rn 21 rfl (zET (zc (zSG (TL.as_ ?_))))
 refine zET (zr (zR ?_))
 refine rI Tryz.results121 ?_
 rotate_left
 refine TL.rn 2 rfl (TL.ov (gH fR6) ?_)
 refine TL.ov (gL 0 agI) ?_
 refine TL.gu ?_
 refine TL.vsplit rfl rfl rfl (gives_bin rfl rfl rfl (fun w => bin_lss w)) (fun h45 => ?_) (fun h45 => ?_)
 refine TL.rn 16 rfl (zET (zc (zSG (TL.as_ ?_))))
 refine zET (zr (zR ?_))
 refine rI Tryz.results121 ?_
 rotate_left
 refine TL.rn 2 rfl (TL.ov (gH fR6) ?_)
 refine TL.ov (gL 0 agI) ?_
 refine TL.gu ?_
 refine TL.vsplit rfl rfl rfl (gives_bin rfl rfl rfl (fun w => bin_gtr w)) (fun h50 => ?_) (fun h50 => ?_)
 refine TL.rn 11 rfl (zET (zc (zSG (TL.as_ ?_))))
 refine zET (zr (zR ?_))
 refine rI Tryz.results121 ?_
 rotate_left
 refine TL.rn 2 rfl (TL.ov (gH fR7) ?_)
 refine TL.ov (gL 0 agI) ?_
 refine TL.gu ?_
 refine TL.vsplit rfl rfl rfl (gives_bin rfl rfl rfl (fun w => bin_lss w)) (fun h55 => ?_) (fun h55 => ?_)
 refine TL.rn 6 rfl (zET (zc (zSG (TL.as_ ?_))))
 refine zET (zr (zR ?_))
 refine rI Tryz.results121 ?_
 rotate_left
 refine TL.rn 2 rfl (TL.ov (gH fR7) ?_)
 refine TL.ov (gL 0 agI) ?_
 refine TL.gu ?_
 refine TL.vsplit rfl rfl rfl (gives_bin rfl rfl rfl (fun w => bin_gtr w)) (fun h60 => ?_) (fun h60 => ?_)
 refine TL.pk ?_
 refine zET (zc (zSG (TL.as_ ?_)))
 refine zET (zr (zR ?_))
 refine rI Tryz.results121 ?_
 rotate_left
 refine TL.pk ?_
 refine zET (zd (zk (zT ?_)))
 refine TC.join (α := PLift (proto = 1 ∨ proto = 6 ∨ proto = 17)) (fun _ => [(1, .pointer (some ⟨g1, 0, none⟩))]) (fun _ => Pm w [.blk g1 65 [.int .i64 v, .int .i64 run, .int .i64 num, .int .i64 at_, .int .u32 dst, .int .i64 proto, .int .i64 flow, .int .i64 ttl, .bool true, .bool false, .int .i64 back, .int .u32 src, .int .i64 kind, .int .i64 code, .int .i64 left, .int .i64 id, .int .i64 quo]]) ?_ ?_
 refine zSG (TL.v (gH fR5) ?_)
 refine TL.v (gL 0 agI) ?_
 refine TL.vsplit rfl rfl rfl (gives_bin rfl rfl rfl (fun w => bin_neq w)) (fun h64 => ?_) (fun h64 => ?_)
 refine TL.mv ?_
 refine TL.ov (gH fR5) ?_
 refine TL.ov (gL 0 agI) ?_
 refine TL.gu ?_
 refine TL.vsplit rfl rfl rfl (gives_bin rfl rfl rfl (fun w => bin_neq w)) (fun h68 => ?_) (fun h68 => ?_)
 refine TL.rn 2 rfl (TL.ov (gH fR5) ?_)
 refine TL.ov (gL 0 agI) ?_
 refine TL.gu ?_
 refine TL.vsplit rfl rfl rfl (gives_bin rfl rfl rfl (fun w => bin_neq w)) (fun h73 => ?_) (fun h73 => ?_)
 refine TL.pk ?_
 refine zET (zc (zSG (TL.as_ ?_)))
 refine zET (zr (zR ?_))
 refine rI Tryz.results121 ?_
 rotate_left
 refine TL.pk ?_
 refine zET (zd (zk ?_))
 exact TX.joined (⟨by simp only [decide_eq_true_eq, decide_eq_false_iff_not] at *; omega⟩) (⟨rfl, trivial⟩) (fun w hw => hw)
 refine TL.rn 6 rfl (zET (zd (zk ?_)))
 exact TX.joined (⟨by simp only [decide_eq_true_eq, decide_eq_false_iff_not] at *; omega⟩) (⟨rfl, trivial⟩) (fun w hw => hw)
 refine TL.rn 10 rfl (zET (zd (zk ?_)))
 exact TX.joined (⟨by simp only [decide_eq_true_eq, decide_eq_false_iff_not] at *; omega⟩) (⟨rfl, trivial⟩) (fun w hw => hw)
 rintro ⟨hproto⟩
 refine zSG (TL.v (gH fR11) ?_)
 refine TL.val rfl rfl rfl (pm_loadAgg (k := 0) (n := 6) rfl rfl agA szA rfl (Nat.le_refl 17)) ?_
 refine TL.pnew rfl rfl rfl (exec_alloc (cs := [.int .u32 0, .int .i64 0, .int .i64 0, .int .i64 0, .int .i64 0, .int .i64 0]) rfl zeroA rfl) (fun g3 => ?_)
 refine TL.pstore (k := 0) (vs := [.int .u32 src, .int .i64 kind, .int .i64 code, .int .i64 left, .int .i64 id, .int .i64 quo]) rfl rfl rfl rfl rfl rfl rfl szA (oneA _ _ _ _ _ _) (Nat.le_refl 6) rfl ?_
 refine zET (zS (zSG (TL.v (gH fR8) ?_)))
 refine TL.v (gL 1 agB) ?_
 iterate 10 (first | refine TL.of ?_ | refine TL.offU rfl rfl rfl rfl rfl ?_ | refine TL.mv ?_ | refine TL.pk ?_ | refine TL.val rfl rfl rfl (gives_boolnot rfl rfl) ?_)
 refine zET (zd (zk (zT (zS (zSG (TL.v (gH fR8) ?_))))))
 refine TL.v (gL 1 agB) ?_
 refine TL.mv ?_
 refine TL.ov (gH fA1) ?_
 refine TL.ov (gL 0 agI) ?_
 refine TL.gu ?_
 refine TL.vsplit rfl rfl rfl (gives_bin rfl rfl rfl (fun w => bin_lss w)) (fun h94 => ?_) (fun h94 => ?_)
 iterate 46 (first | refine TL.of ?_ | refine TL.gu ?_ | refine TL.pk ?_ | refine TL.mv ?_)
 refine zET (zc (zSG (TL.as_ ?_)))
 refine zET (zr (zR ?_))
 refine rI Tryz.results121 ?_
 rotate_left
 refine TL.rn 1 rfl (TL.ov (gH fA1) ?_)
 refine TL.ov (gL 0 agI) ?_
 refine TL.gu ?_
 refine TL.vsplit rfl rfl rfl (gives_bin rfl rfl rfl (fun w => bin_gtr w)) (fun h98 => ?_) (fun h98 => ?_)
 iterate 41 (first | refine TL.of ?_ | refine TL.gu ?_ | refine TL.pk ?_ | refine TL.mv ?_)
 refine zET (zc (zSG (TL.as_ ?_)))
 refine zET (zr (zR ?_))
 refine rI Tryz.results121 ?_
 rotate_left
 iterate 5 (first | refine TL.gu ?_ | refine TL.mv ?_ | refine TL.pk ?_)
 refine TL.v (gH fA2) ?_
 refine TL.ov (gL 0 agI) ?_
 refine TL.gu ?_
 refine TL.callsplit rfl rfl rfl rfl rfl Tryz.func159 nmOctet bdOctet (fun w1 hw => octet_any code w1) (fun h103 => ?_) (fun h103 => ?_)
 iterate 7 (first | refine TL.gu ?_ | refine TL.mv ?_ | refine TL.pk ?_ | refine TL.val rfl rfl rfl (gives_boolnot rfl rfl) ?_)
 refine TL.v (gH fA3) ?_
 refine TL.ov (gL 0 agI) ?_
 refine TL.gu ?_
 refine TL.callsplit rfl rfl rfl rfl rfl Tryz.func159 nmOctet bdOctet (fun w1 hw => octet_any left w1) (fun h109 => ?_) (fun h109 => ?_)
 iterate 7 (first | refine TL.gu ?_ | refine TL.mv ?_ | refine TL.pk ?_ | refine TL.val rfl rfl rfl (gives_boolnot rfl rfl) ?_)
 refine TL.v (gH fA5) ?_
 refine TL.ov (gL 0 agI) ?_
 refine TL.gu ?_
 refine TL.callsplit rfl rfl rfl rfl rfl Tryz.func159 nmOctet bdOctet (fun w1 hw => octet_any quo w1) (fun h115 => ?_) (fun h115 => ?_)
 iterate 7 (first | refine TL.gu ?_ | refine TL.mv ?_ | refine TL.pk ?_ | refine TL.val rfl rfl rfl (gives_boolnot rfl rfl) ?_)
 refine TL.v (gH fA4) ?_
 refine TL.ov (gL 0 agI) ?_
 refine TL.gu ?_
 refine TL.vsplit rfl rfl rfl (gives_bin rfl rfl rfl (fun w => bin_lss w)) (fun h121 => ?_) (fun h121 => ?_)
 iterate 10 (first | refine TL.of ?_ | refine TL.gu ?_ | refine TL.pk ?_ | refine TL.mv ?_)
 refine zET (zc (zSG (TL.as_ ?_)))
 refine zET (zr (zR ?_))
 refine rI Tryz.results121 ?_
 rotate_left
 iterate 5 (first | refine TL.gu ?_ | refine TL.mv ?_ | refine TL.pk ?_)
 refine TL.v (gH fA4) ?_
 refine TL.ov (gL 0 agI) ?_
 refine TL.gu ?_
 refine TL.vsplit rfl rfl rfl (gives_bin rfl rfl rfl (fun w => bin_gtr w)) (fun h126 => ?_) (fun h126 => ?_)
 refine TL.rn 2 rfl (zET (zc (zSG (TL.as_ ?_))))
 refine zET (zr (zR ?_))
 refine rI Tryz.results121 ?_
 rotate_left
 refine TL.rn 2 rfl (zET (zd (zk (zT (zSG (TL.as_ ?_))))))
 refine zET (zr ?_)
 refine rI Tryz.results121 ?_
 rotate_left
 iterate 19 (first | refine TL.of ?_ | refine TL.gu ?_ | refine TL.pk ?_ | refine TL.mv ?_ | refine TL.val rfl rfl rfl (gives_boolnot rfl rfl) ?_)
 refine zET (zc (zSG (TL.as_ ?_)))
 refine zET (zr (zR ?_))
 refine rI Tryz.results121 ?_
 rotate_left
 iterate 27 (first | refine TL.of ?_ | refine TL.gu ?_ | refine TL.pk ?_ | refine TL.mv ?_ | refine TL.val rfl rfl rfl (gives_boolnot rfl rfl) ?_)
 refine zET (zc (zSG (TL.as_ ?_)))
 refine zET (zr (zR ?_))
 refine rI Tryz.results121 ?_
 rotate_left
 iterate 35 (first | refine TL.of ?_ | refine TL.gu ?_ | refine TL.pk ?_ | refine TL.mv ?_ | refine TL.val rfl rfl rfl (gives_boolnot rfl rfl) ?_)
 refine zET (zc (zSG (TL.as_ ?_)))
 refine zET (zr (zR ?_))
 refine rI Tryz.results121 ?_
 rotate_left
 refine TL.rn 53 rfl (zET (zc (zSG (TL.as_ ?_))))
 refine zET (zr (zR ?_))
 refine rI Tryz.results121 ?_
 rotate_left
 all_goals (simp only [decide_eq_true_eq, decide_eq_false_iff_not] at *; first | exact chk_range (by unfold Rs.inRange; dsimp only; omega) | exact chk_ans rfl (by unfold Rs.inRange; dsimp only; omega) (by dsimp only; omega) (by unfold Rs.ansOk; dsimp only; omega) | (simp only [chkR, Rs.inRange, Rs.ansOk, Rs.noAns]; (try split) <;> (try split) <;> (try split) <;> (try split) <;> first | rfl | omega | (simp_all; done) | (simp_all; omega)))
set_option maxHeartbeats 2000000 in
theorem rcheck_any_tt (v run num at_ dst proto flow ttl back src kind code left id quo : Int) (w : World) :
  Calls Tryz.prog 121 #[.agg #[.int .i64 v, .int .i64 run, .int .i64 num, .int .i64 at_, .int .u32 dst, .int .i64 proto, .int .i64 flow, .int .i64 ttl, .bool true, .bool true, .int .i64 back, .int .u32 src, .int .i64 kind, .int .i64 code, .int .i64 left, .int .i64 id, .int .i64 quo]] w fun e w' => e = .returned (.int .i64 (chkR ⟨v, run, num, at_, dst, proto, flow, ttl, true, true, back, src, kind, code, left, id, quo⟩)) ∧ Below w.heap.size w w' := by
 refine begin_ (vs := [.agg #[.int .i64 v, .int .i64 run, .int .i64 num, .int .i64 at_, .int .u32 dst, .int .i64 proto, .int .i64 flow, .int .i64 ttl, .bool true, .bool true, .int .i64 back, .int .u32 src, .int .i64 kind, .int .i64 code, .int .i64 left, .int .i64 id, .int .i64 quo]]) Tryz.func121 rfl rfl rfl ?_ (Pm.start w)
 refine zSG ?_
 refine TL.pnew rfl rfl rfl (exec_box (cs := [.int .i64 v, .int .i64 run, .int .i64 num, .int .i64 at_, .int .u32 dst, .int .i64 proto, .int .i64 flow, .int .i64 ttl, .bool true, .bool true, .int .i64 back, .int .u32 src, .int .i64 kind, .int .i64 code, .int .i64 left, .int .i64 id, .int .i64 quo]) rfl rfl rfl) (fun g1 => ?_)
 refine TL.as_ ?_
 refine zET (zS (zSG (TL.v (gH fR0) ?_)))
 refine TL.v (gL 0 agI) ?_
 refine TL.v (gH fR1) ?_
 refine TL.v (gL 0 agI) ?_
 refine TL.callsplit rfl rfl rfl rfl rfl Tryz.func158 nmIdent bdIdent (fun w1 hw => ident_any v run w1) (fun h8 => ?_) (fun h8 => ?_)
 refine TL.rn 2 rfl (TL.ov (gH fR2) ?_)
 refine TL.ov (gL 0 agI) ?_
 refine TL.gu ?_
 refine TL.vsplit rfl rfl rfl (gives_bin rfl rfl rfl (fun w => bin_lss w)) (fun h13 => ?_) (fun h13 => ?_)
 refine TL.rn 48 rfl (zET (zc (zSG (TL.as_ ?_))))
 refine zET (zr (zR ?_))
 refine rI Tryz.results121 ?_
 rotate_left
 refine TL.rn 2 rfl (TL.ov (gH fR2) ?_)
 refine TL.ov (gL 0 agI) ?_
 refine TL.gu ?_
 refine TL.vsplit rfl rfl rfl (gives_bin rfl rfl rfl (fun w => bin_geq w)) (fun h18 => ?_) (fun h18 => ?_)
 refine TL.rn 43 rfl (zET (zc (zSG (TL.as_ ?_))))
 refine zET (zr (zR ?_))
 refine rI Tryz.results121 ?_
 rotate_left
 refine TL.rn 2 rfl (TL.ov (gH fR3) ?_)
 refine TL.ov (gL 0 agI) ?_
 refine TL.gu ?_
 refine TL.vsplit rfl rfl rfl (gives_bin rfl rfl rfl (fun w => bin_lss w)) (fun h23 => ?_) (fun h23 => ?_)
 refine TL.rn 38 rfl (zET (zc (zSG (TL.as_ ?_))))
 refine zET (zr (zR ?_))
 refine rI Tryz.results121 ?_
 rotate_left
 refine TL.rn 2 rfl (TL.ov (gH fR3) ?_)
 refine TL.ov (gL 0 agI) ?_
 refine TL.gu ?_
 refine TL.vsplit rfl rfl rfl (gives_bin rfl rfl rfl (fun w => bin_gtr w)) (fun h28 => ?_) (fun h28 => ?_)
 refine TL.rn 33 rfl (zET (zc (zSG (TL.as_ ?_))))
 refine zET (zr (zR ?_))
 refine rI Tryz.results121 ?_
 rotate_left
 refine TL.rn 2 rfl (TL.ov (gH fR10) ?_)
 refine TL.ov (gL 0 agI) ?_
 refine TL.ov (gH fR3) ?_
 refine TL.ov (gL 0 agI) ?_
 refine TL.gu ?_
 refine TL.vsplit rfl rfl rfl (gives_bin rfl rfl rfl (fun w => bin_lss w)) (fun h35 => ?_) (fun h35 => ?_)
 refine TL.rn 26 rfl (zET (zc (zSG (TL.as_ ?_))))
 refine zET (zr (zR ?_))
 refine rI Tryz.results121 ?_
 rotate_left
 refine TL.rn 2 rfl (TL.ov (gH fR10) ?_)
 refine TL.ov (gL 0 agI) ?_
 refine TL.gu ?_
 refine TL.vsplit rfl rfl rfl (gives_bin rfl rfl rfl (fun w => bin_gtr w)) (fun h40 => ?_) (fun h40 => ?_)
 refine TL.rn 21 rfl (zET (zc (zSG (TL.as_ ?_))))
 refine zET (zr (zR ?_))
 refine rI Tryz.results121 ?_
 rotate_left
 refine TL.rn 2 rfl (TL.ov (gH fR6) ?_)
 refine TL.ov (gL 0 agI) ?_
 refine TL.gu ?_
 refine TL.vsplit rfl rfl rfl (gives_bin rfl rfl rfl (fun w => bin_lss w)) (fun h45 => ?_) (fun h45 => ?_)
 refine TL.rn 16 rfl (zET (zc (zSG (TL.as_ ?_))))
 refine zET (zr (zR ?_))
 refine rI Tryz.results121 ?_
 rotate_left
 refine TL.rn 2 rfl (TL.ov (gH fR6) ?_)
 refine TL.ov (gL 0 agI) ?_
 refine TL.gu ?_
 refine TL.vsplit rfl rfl rfl (gives_bin rfl rfl rfl (fun w => bin_gtr w)) (fun h50 => ?_) (fun h50 => ?_)
 refine TL.rn 11 rfl (zET (zc (zSG (TL.as_ ?_))))
 refine zET (zr (zR ?_))
 refine rI Tryz.results121 ?_
 rotate_left
 refine TL.rn 2 rfl (TL.ov (gH fR7) ?_)
 refine TL.ov (gL 0 agI) ?_
 refine TL.gu ?_
 refine TL.vsplit rfl rfl rfl (gives_bin rfl rfl rfl (fun w => bin_lss w)) (fun h55 => ?_) (fun h55 => ?_)
 refine TL.rn 6 rfl (zET (zc (zSG (TL.as_ ?_))))
 refine zET (zr (zR ?_))
 refine rI Tryz.results121 ?_
 rotate_left
 refine TL.rn 2 rfl (TL.ov (gH fR7) ?_)
 refine TL.ov (gL 0 agI) ?_
 refine TL.gu ?_
 refine TL.vsplit rfl rfl rfl (gives_bin rfl rfl rfl (fun w => bin_gtr w)) (fun h60 => ?_) (fun h60 => ?_)
 refine TL.pk ?_
 refine zET (zc (zSG (TL.as_ ?_)))
 refine zET (zr (zR ?_))
 refine rI Tryz.results121 ?_
 rotate_left
 refine TL.pk ?_
 refine zET (zd (zk (zT ?_)))
 refine TC.join (α := PLift (proto = 1 ∨ proto = 6 ∨ proto = 17)) (fun _ => [(1, .pointer (some ⟨g1, 0, none⟩))]) (fun _ => Pm w [.blk g1 65 [.int .i64 v, .int .i64 run, .int .i64 num, .int .i64 at_, .int .u32 dst, .int .i64 proto, .int .i64 flow, .int .i64 ttl, .bool true, .bool true, .int .i64 back, .int .u32 src, .int .i64 kind, .int .i64 code, .int .i64 left, .int .i64 id, .int .i64 quo]]) ?_ ?_
 refine zSG (TL.v (gH fR5) ?_)
 refine TL.v (gL 0 agI) ?_
 refine TL.vsplit rfl rfl rfl (gives_bin rfl rfl rfl (fun w => bin_neq w)) (fun h64 => ?_) (fun h64 => ?_)
 refine TL.mv ?_
 refine TL.ov (gH fR5) ?_
 refine TL.ov (gL 0 agI) ?_
 refine TL.gu ?_
 refine TL.vsplit rfl rfl rfl (gives_bin rfl rfl rfl (fun w => bin_neq w)) (fun h68 => ?_) (fun h68 => ?_)
 refine TL.rn 2 rfl (TL.ov (gH fR5) ?_)
 refine TL.ov (gL 0 agI) ?_
 refine TL.gu ?_
 refine TL.vsplit rfl rfl rfl (gives_bin rfl rfl rfl (fun w => bin_neq w)) (fun h73 => ?_) (fun h73 => ?_)
 refine TL.pk ?_
 refine zET (zc (zSG (TL.as_ ?_)))
 refine zET (zr (zR ?_))
 refine rI Tryz.results121 ?_
 rotate_left
 refine TL.pk ?_
 refine zET (zd (zk ?_))
 exact TX.joined (⟨by simp only [decide_eq_true_eq, decide_eq_false_iff_not] at *; omega⟩) (⟨rfl, trivial⟩) (fun w hw => hw)
 refine TL.rn 6 rfl (zET (zd (zk ?_)))
 exact TX.joined (⟨by simp only [decide_eq_true_eq, decide_eq_false_iff_not] at *; omega⟩) (⟨rfl, trivial⟩) (fun w hw => hw)
 refine TL.rn 10 rfl (zET (zd (zk ?_)))
 exact TX.joined (⟨by simp only [decide_eq_true_eq, decide_eq_false_iff_not] at *; omega⟩) (⟨rfl, trivial⟩) (fun w hw => hw)
 rintro ⟨hproto⟩
 refine zSG (TL.v (gH fR11) ?_)
 refine TL.val rfl rfl rfl (pm_loadAgg (k := 0) (n := 6) rfl rfl agA szA rfl (Nat.le_refl 17)) ?_
 refine TL.pnew rfl rfl rfl (exec_alloc (cs := [.int .u32 0, .int .i64 0, .int .i64 0, .int .i64 0, .int .i64 0, .int .i64 0]) rfl zeroA rfl) (fun g3 => ?_)
 refine TL.pstore (k := 0) (vs := [.int .u32 src, .int .i64 kind, .int .i64 code, .int .i64 left, .int .i64 id, .int .i64 quo]) rfl rfl rfl rfl rfl rfl rfl szA (oneA _ _ _ _ _ _) (Nat.le_refl 6) rfl ?_
 refine zET (zS (zSG (TL.v (gH fR8) ?_)))
 refine TL.v (gL 1 agB) ?_
 iterate 10 (first | refine TL.of ?_ | refine TL.offU rfl rfl rfl rfl rfl ?_ | refine TL.mv ?_ | refine TL.pk ?_ | refine TL.val rfl rfl rfl (gives_boolnot rfl rfl) ?_)
 refine zET (zd (zk (zT (zS (zSG (TL.v (gH fR8) ?_))))))
 refine TL.v (gL 1 agB) ?_
 refine TL.mv ?_
 refine TL.ov (gH fA1) ?_
 refine TL.ov (gL 0 agI) ?_
 refine TL.gu ?_
 refine TL.vsplit rfl rfl rfl (gives_bin rfl rfl rfl (fun w => bin_lss w)) (fun h94 => ?_) (fun h94 => ?_)
 iterate 46 (first | refine TL.of ?_ | refine TL.gu ?_ | refine TL.pk ?_ | refine TL.mv ?_)
 refine zET (zc (zSG (TL.as_ ?_)))
 refine zET (zr (zR ?_))
 refine rI Tryz.results121 ?_
 rotate_left
 refine TL.rn 1 rfl (TL.ov (gH fA1) ?_)
 refine TL.ov (gL 0 agI) ?_
 refine TL.gu ?_
 refine TL.vsplit rfl rfl rfl (gives_bin rfl rfl rfl (fun w => bin_gtr w)) (fun h98 => ?_) (fun h98 => ?_)
 iterate 41 (first | refine TL.of ?_ | refine TL.gu ?_ | refine TL.pk ?_ | refine TL.mv ?_)
 refine zET (zc (zSG (TL.as_ ?_)))
 refine zET (zr (zR ?_))
 refine rI Tryz.results121 ?_
 rotate_left
 iterate 5 (first | refine TL.gu ?_ | refine TL.mv ?_ | refine TL.pk ?_)
 refine TL.v (gH fA2) ?_
 refine TL.ov (gL 0 agI) ?_
 refine TL.gu ?_
 refine TL.callsplit rfl rfl rfl rfl rfl Tryz.func159 nmOctet bdOctet (fun w1 hw => octet_any code w1) (fun h103 => ?_) (fun h103 => ?_)
 iterate 7 (first | refine TL.gu ?_ | refine TL.mv ?_ | refine TL.pk ?_ | refine TL.val rfl rfl rfl (gives_boolnot rfl rfl) ?_)
 refine TL.v (gH fA3) ?_
 refine TL.ov (gL 0 agI) ?_
 refine TL.gu ?_
 refine TL.callsplit rfl rfl rfl rfl rfl Tryz.func159 nmOctet bdOctet (fun w1 hw => octet_any left w1) (fun h109 => ?_) (fun h109 => ?_)
 iterate 7 (first | refine TL.gu ?_ | refine TL.mv ?_ | refine TL.pk ?_ | refine TL.val rfl rfl rfl (gives_boolnot rfl rfl) ?_)
 refine TL.v (gH fA5) ?_
 refine TL.ov (gL 0 agI) ?_
 refine TL.gu ?_
 refine TL.callsplit rfl rfl rfl rfl rfl Tryz.func159 nmOctet bdOctet (fun w1 hw => octet_any quo w1) (fun h115 => ?_) (fun h115 => ?_)
 iterate 7 (first | refine TL.gu ?_ | refine TL.mv ?_ | refine TL.pk ?_ | refine TL.val rfl rfl rfl (gives_boolnot rfl rfl) ?_)
 refine TL.v (gH fA4) ?_
 refine TL.ov (gL 0 agI) ?_
 refine TL.gu ?_
 refine TL.vsplit rfl rfl rfl (gives_bin rfl rfl rfl (fun w => bin_lss w)) (fun h121 => ?_) (fun h121 => ?_)
 iterate 10 (first | refine TL.of ?_ | refine TL.gu ?_ | refine TL.pk ?_ | refine TL.mv ?_)
 refine zET (zc (zSG (TL.as_ ?_)))
 refine zET (zr (zR ?_))
 refine rI Tryz.results121 ?_
 rotate_left
 iterate 5 (first | refine TL.gu ?_ | refine TL.mv ?_ | refine TL.pk ?_)
 refine TL.v (gH fA4) ?_
 refine TL.ov (gL 0 agI) ?_
 refine TL.gu ?_
 refine TL.vsplit rfl rfl rfl (gives_bin rfl rfl rfl (fun w => bin_gtr w)) (fun h126 => ?_) (fun h126 => ?_)
 refine TL.rn 2 rfl (zET (zc (zSG (TL.as_ ?_))))
 refine zET (zr (zR ?_))
 refine rI Tryz.results121 ?_
 rotate_left
 refine TL.rn 2 rfl (zET (zd (zk (zT (zSG (TL.as_ ?_))))))
 refine zET (zr ?_)
 refine rI Tryz.results121 ?_
 rotate_left
 iterate 19 (first | refine TL.of ?_ | refine TL.gu ?_ | refine TL.pk ?_ | refine TL.mv ?_ | refine TL.val rfl rfl rfl (gives_boolnot rfl rfl) ?_)
 refine zET (zc (zSG (TL.as_ ?_)))
 refine zET (zr (zR ?_))
 refine rI Tryz.results121 ?_
 rotate_left
 iterate 27 (first | refine TL.of ?_ | refine TL.gu ?_ | refine TL.pk ?_ | refine TL.mv ?_ | refine TL.val rfl rfl rfl (gives_boolnot rfl rfl) ?_)
 refine zET (zc (zSG (TL.as_ ?_)))
 refine zET (zr (zR ?_))
 refine rI Tryz.results121 ?_
 rotate_left
 iterate 35 (first | refine TL.of ?_ | refine TL.gu ?_ | refine TL.pk ?_ | refine TL.mv ?_ | refine TL.val rfl rfl rfl (gives_boolnot rfl rfl) ?_)
 refine zET (zc (zSG (TL.as_ ?_)))
 refine zET (zr (zR ?_))
 refine rI Tryz.results121 ?_
 rotate_left
 refine TL.rn 53 rfl (zET (zc (zSG (TL.as_ ?_))))
 refine zET (zr (zR ?_))
 refine rI Tryz.results121 ?_
 rotate_left
 all_goals (simp only [decide_eq_true_eq, decide_eq_false_iff_not] at *; first | exact chk_range (by unfold Rs.inRange; dsimp only; omega) | exact chk_ans rfl (by unfold Rs.inRange; dsimp only; omega) (by dsimp only; omega) (by unfold Rs.ansOk; dsimp only; omega) | (simp only [chkR, Rs.inRange, Rs.ansOk, Rs.noAns]; (try split) <;> (try split) <;> (try split) <;> (try split) <;> first | rfl | omega | (simp_all; done) | (simp_all; omega)))
theorem rcheck_any (r : Rs) (w : World) :
  Calls Tryz.prog 121 #[.agg r.cells.toArray] w fun e w' => e = .returned (.int .i64 (chkR r)) ∧ Below w.heap.size w w' := by
 obtain ⟨v, run, num, at_, dst, proto, flow, ttl, ans, dbl, back, src, kind, code, left, id, quo⟩ := r
 cases ans <;> cases dbl
 ·exact rcheck_any_ff v run num at_ dst proto flow ttl back src kind code left id quo w
 ·exact rcheck_any_ft v run num at_ dst proto flow ttl back src kind code left id quo w
 ·exact rcheck_any_tf v run num at_ dst proto flow ttl back src kind code left id quo w
 exact rcheck_any_tt v run num at_ dst proto flow ttl back src kind code left id quo w
set_option maxRecDepth 20000
theorem rs_cel : Cel Rs.cells 17 := ⟨fun _ => rfl, fun x u hu => by
 simp only [Rs.cells, List.mem_cons, List.not_mem_nil, or_false] at hu
 rcases hu with rfl | rfl | rfl | rfl | rfl | rfl | rfl | rfl | rfl | rfl | rfl | rfl | rfl | rfl | rfl | rfl | rfl <;> rfl⟩
def vldRs (r : Rs) : Bool := decide (chkR r = 0) && decide (r.dst ≠ 0) && (!r.ans || decide (r.src ≠ 0))
def usbRs (r : Rs) : Bool := !r.dbl && vldRs r
def finRs (r : Rs) : Bool := r.ans && decide (r.kind ≠ 1) && usbRs r
def b2i (b : Bool) : Int := if b then 1 else 0
def Rs.keys (a : Rs) : List Int := [a.at_, a.v, a.run, a.num, IntKind.i64.wrap a.dst, a.proto, a.flow, a.ttl, b2i a.ans, b2i a.dbl, a.back, IntKind.i64.wrap a.src, a.kind, a.code, a.left, a.id, a.quo]
def cmpRs (a b : Rs) : Int := lexI a.keys b.keys
def pairsR (a b : Rs) : List (Int × Int) := [(a.at_, b.at_), (a.v, b.v), (a.run, b.run), (a.num, b.num), (IntKind.i64.wrap a.dst, IntKind.i64.wrap b.dst), (a.proto, b.proto), (a.flow, b.flow), (a.ttl, b.ttl), (b2i a.ans, b2i b.ans), (b2i a.dbl, b2i b.dbl), (a.back, b.back), (IntKind.i64.wrap a.src, IntKind.i64.wrap b.src), (a.kind, b.kind), (a.code, b.code), (a.left, b.left), (a.id, b.id), (a.quo, b.quo)]
def pairs16 (a b : Rs) : List (Int × Int) := [(a.at_, b.at_), (a.v, b.v), (a.run, b.run), (a.num, b.num), (IntKind.i64.wrap a.dst, IntKind.i64.wrap b.dst), (a.proto, b.proto), (a.flow, b.flow), (a.ttl, b.ttl), (b2i a.ans, b2i b.ans), (b2i a.dbl, b2i b.dbl), (a.back, b.back), (IntKind.i64.wrap a.src, IntKind.i64.wrap b.src), (a.kind, b.kind), (a.code, b.code), (a.left, b.left), (a.id, b.id)]
def orP (l : List (Int × Int)) : Int := orI (l.map fun p => cmpI p.1 p.2)
theorem orP_cons (p : Int × Int) (l : List (Int × Int)) : orP (p :: l) = if cmpI p.1 p.2 = 0 then orP l else cmpI p.1 p.2 := rfl
theorem cmpRs_pairs (a b : Rs) : cmpRs a b = orP (pairsR a b) := rfl
theorem cmpRs_16 (a b : Rs) : cmpRs a b = if orP (pairs16 a b) = 0 then cmpI a.quo b.quo else orP (pairs16 a b) := by
 rw [cmpRs_pairs, show pairsR a b = pairs16 a b ++ [(a.quo, b.quo)] from rfl, orP, List.map_append]
 exact orI_snoc _ _
theorem cmpRs_pairs2 (a b : Rs) (h : orP (pairs16 a b) ≠ 0) : cmpRs a b = orP (pairs16 a b) := by rw [cmpRs_16, if_neg h]
theorem cmpRs_pairs3 (a b : Rs) (h : orP (pairs16 a b) = 0) : cmpRs a b = cmpI a.quo b.quo := by rw [cmpRs_16, if_pos h]
def idnR (r : Rs) : Idn := ⟨r.v, r.run, r.num⟩
def trcR (r : Rs) : Trc := ⟨r.v, r.dst, r.proto⟩
theorem prsag120 (w : World) : (isAgg 120).run Tryz.prog w = .ok true w := rfl
theorem prssz120 (w : World) : (sizeOf 120).run Tryz.prog w = .ok 2 w := rfl
theorem prsag65 (w : World) : (isAgg 65).run Tryz.prog w = .ok true w := rfl
theorem prssz65 (w : World) : (sizeOf 65).run Tryz.prog w = .ok 17 w := rfl
theorem prsfld65_4 : FA Tryz.prog 65 4 4 := fun g o w => by kernel_rfl
theorem prsfld65_8 : FA Tryz.prog 65 8 8 := fun g o w => by kernel_rfl
theorem prsag4 (w : World) : (isAgg 4).run Tryz.prog w = .ok false w := rfl
theorem prsfld65_11 : FA Tryz.prog 65 11 11 := fun g o w => by kernel_rfl
theorem prsfld63_0 : FA Tryz.prog 63 0 0 := fun g o w => by kernel_rfl
theorem prsfld65_9 : FA Tryz.prog 65 9 9 := fun g o w => by kernel_rfl
theorem prsfld63_1 : FA Tryz.prog 63 1 1 := fun g o w => by kernel_rfl
theorem prsfld65_3 : FA Tryz.prog 65 3 3 := fun g o w => by kernel_rfl
theorem prsbld120_29156 (a0_0 : Int) (a1_0 : Int) (w : World) : (Instr.build 120 #[(0, .int .i64 a0_0), (1, .int .i64 a1_0)]).run Tryz.prog w = .ok (.agg #[.int .i64 a0_0, .int .i64 a1_0]) w := by kernel_rfl
theorem prsfld65_0 : FA Tryz.prog 65 0 0 := fun g o w => by kernel_rfl
theorem prsfld65_1 : FA Tryz.prog 65 1 1 := fun g o w => by kernel_rfl
theorem prsfld65_2 : FA Tryz.prog 65 2 2 := fun g o w => by kernel_rfl
theorem prsfld65_5 : FA Tryz.prog 65 5 5 := fun g o w => by kernel_rfl
theorem prsfld65_6 : FA Tryz.prog 65 6 6 := fun g o w => by kernel_rfl
theorem prsfld65_7 : FA Tryz.prog 65 7 7 := fun g o w => by kernel_rfl
theorem prsfld65_10 : FA Tryz.prog 65 10 10 := fun g o w => by kernel_rfl
theorem prsfld63_2 : FA Tryz.prog 63 2 2 := fun g o w => by kernel_rfl
theorem prsfld63_3 : FA Tryz.prog 63 3 3 := fun g o w => by kernel_rfl
theorem prsfld63_4 : FA Tryz.prog 63 4 4 := fun g o w => by kernel_rfl
theorem prsfld63_5 : FA Tryz.prog 63 5 5 := fun g o w => by kernel_rfl
theorem prsbld188_59264 (a0_0 : Int) (a0_1 : Int) (a1_0 : Int) (a1_1 : Int) (a2_0 : Int) (a2_1 : Int) (a3_0 : Int) (a3_1 : Int) (a4_0 : Int) (a4_1 : Int) (a5_0 : Int) (a5_1 : Int) (a6_0 : Int) (a6_1 : Int) (a7_0 : Int) (a7_1 : Int) (a8_0 : Int) (a8_1 : Int) (a9_0 : Int) (a9_1 : Int) (a10_0 : Int) (a10_1 : Int) (a11_0 : Int) (a11_1 : Int) (a12_0 : Int) (a12_1 : Int) (a13_0 : Int) (a13_1 : Int) (a14_0 : Int) (a14_1 : Int) (a15_0 : Int) (a15_1 : Int) (a16_0 : Int) (a16_1 : Int) (w : World) : (Instr.build 188 #[(0, .agg #[.int .i64 a0_0, .int .i64 a0_1]), (1, .agg #[.int .i64 a1_0, .int .i64 a1_1]), (2, .agg #[.int .i64 a2_0, .int .i64 a2_1]), (3, .agg #[.int .i64 a3_0, .int .i64 a3_1]), (4, .agg #[.int .i64 a4_0, .int .i64 a4_1]), (5, .agg #[.int .i64 a5_0, .int .i64 a5_1]), (6, .agg #[.int .i64 a6_0, .int .i64 a6_1]), (7, .agg #[.int .i64 a7_0, .int .i64 a7_1]), (8, .agg #[.int .i64 a8_0, .int .i64 a8_1]), (9, .agg #[.int .i64 a9_0, .int .i64 a9_1]), (10, .agg #[.int .i64 a10_0, .int .i64 a10_1]), (11, .agg #[.int .i64 a11_0, .int .i64 a11_1]), (12, .agg #[.int .i64 a12_0, .int .i64 a12_1]), (13, .agg #[.int .i64 a13_0, .int .i64 a13_1]), (14, .agg #[.int .i64 a14_0, .int .i64 a14_1]), (15, .agg #[.int .i64 a15_0, .int .i64 a15_1]), (16, .agg #[.int .i64 a16_0, .int .i64 a16_1])]).run Tryz.prog w = .ok (.agg #[.int .i64 a0_0, .int .i64 a0_1, .int .i64 a1_0, .int .i64 a1_1, .int .i64 a2_0, .int .i64 a2_1, .int .i64 a3_0, .int .i64 a3_1, .int .i64 a4_0, .int .i64 a4_1, .int .i64 a5_0, .int .i64 a5_1, .int .i64 a6_0, .int .i64 a6_1, .int .i64 a7_0, .int .i64 a7_1, .int .i64 a8_0, .int .i64 a8_1, .int .i64 a9_0, .int .i64 a9_1, .int .i64 a10_0, .int .i64 a10_1, .int .i64 a11_0, .int .i64 a11_1, .int .i64 a12_0, .int .i64 a12_1, .int .i64 a13_0, .int .i64 a13_1, .int .i64 a14_0, .int .i64 a14_1, .int .i64 a15_0, .int .i64 a15_1, .int .i64 a16_0, .int .i64 a16_1]) w := by kernel_rfl
theorem prszv188 (w : World) : (zeroValue 188).run Tryz.prog w = .ok (.agg #[.int .i64 0, .int .i64 0, .int .i64 0, .int .i64 0, .int .i64 0, .int .i64 0, .int .i64 0, .int .i64 0, .int .i64 0, .int .i64 0, .int .i64 0, .int .i64 0, .int .i64 0, .int .i64 0, .int .i64 0, .int .i64 0, .int .i64 0, .int .i64 0, .int .i64 0, .int .i64 0, .int .i64 0, .int .i64 0, .int .i64 0, .int .i64 0, .int .i64 0, .int .i64 0, .int .i64 0, .int .i64 0, .int .i64 0, .int .i64 0, .int .i64 0, .int .i64 0, .int .i64 0, .int .i64 0]) w := rfl
theorem prssz188 (w : World) : (sizeOf 188).run Tryz.prog w = .ok 34 w := rfl
theorem prsag188 (w : World) : (isAgg 188).run Tryz.prog w = .ok true w := rfl
theorem prszv120 (w : World) : (zeroValue 120).run Tryz.prog w = .ok (.agg #[.int .i64 0, .int .i64 0]) w := rfl
theorem prsbld201_52662 (a0_0 : Int) (a0_1 : Int) (a1_0 : Int) (a1_1 : Int) (a2_0 : Int) (a2_1 : Int) (a3_0 : Int) (a3_1 : Int) (a4_0 : Int) (a4_1 : Int) (a5_0 : Int) (a5_1 : Int) (a6_0 : Int) (a6_1 : Int) (a7_0 : Int) (a7_1 : Int) (a8_0 : Int) (a8_1 : Int) (a9_0 : Int) (a9_1 : Int) (a10_0 : Int) (a10_1 : Int) (a11_0 : Int) (a11_1 : Int) (a12_0 : Int) (a12_1 : Int) (a13_0 : Int) (a13_1 : Int) (a14_0 : Int) (a14_1 : Int) (a15_0 : Int) (a15_1 : Int) (w : World) : (Instr.build 201 #[(0, .agg #[.int .i64 a0_0, .int .i64 a0_1]), (1, .agg #[.int .i64 a1_0, .int .i64 a1_1]), (2, .agg #[.int .i64 a2_0, .int .i64 a2_1]), (3, .agg #[.int .i64 a3_0, .int .i64 a3_1]), (4, .agg #[.int .i64 a4_0, .int .i64 a4_1]), (5, .agg #[.int .i64 a5_0, .int .i64 a5_1]), (6, .agg #[.int .i64 a6_0, .int .i64 a6_1]), (7, .agg #[.int .i64 a7_0, .int .i64 a7_1]), (8, .agg #[.int .i64 a8_0, .int .i64 a8_1]), (9, .agg #[.int .i64 a9_0, .int .i64 a9_1]), (10, .agg #[.int .i64 a10_0, .int .i64 a10_1]), (11, .agg #[.int .i64 a11_0, .int .i64 a11_1]), (12, .agg #[.int .i64 a12_0, .int .i64 a12_1]), (13, .agg #[.int .i64 a13_0, .int .i64 a13_1]), (14, .agg #[.int .i64 a14_0, .int .i64 a14_1]), (15, .agg #[.int .i64 a15_0, .int .i64 a15_1])]).run Tryz.prog w = .ok (.agg #[.int .i64 a0_0, .int .i64 a0_1, .int .i64 a1_0, .int .i64 a1_1, .int .i64 a2_0, .int .i64 a2_1, .int .i64 a3_0, .int .i64 a3_1, .int .i64 a4_0, .int .i64 a4_1, .int .i64 a5_0, .int .i64 a5_1, .int .i64 a6_0, .int .i64 a6_1, .int .i64 a7_0, .int .i64 a7_1, .int .i64 a8_0, .int .i64 a8_1, .int .i64 a9_0, .int .i64 a9_1, .int .i64 a10_0, .int .i64 a10_1, .int .i64 a11_0, .int .i64 a11_1, .int .i64 a12_0, .int .i64 a12_1, .int .i64 a13_0, .int .i64 a13_1, .int .i64 a14_0, .int .i64 a14_1, .int .i64 a15_0, .int .i64 a15_1]) w := by kernel_rfl
theorem prszv73 (w : World) : (zeroValue 73).run Tryz.prog w = .ok (.agg #[.int .i64 0, .int .i64 0, .int .i64 0]) w := rfl
theorem prsbld73_57318 (a0_0 : Int) (a1_0 : Int) (a2_0 : Int) (w : World) : (Instr.build 73 #[(0, .int .i64 a0_0), (1, .int .i64 a1_0), (2, .int .i64 a2_0)]).run Tryz.prog w = .ok (.agg #[.int .i64 a0_0, .int .i64 a1_0, .int .i64 a2_0]) w := by kernel_rfl
theorem prssz73 (w : World) : (sizeOf 73).run Tryz.prog w = .ok 3 w := rfl
theorem prsone_i64i64i64 {a0 : Int} {a1 : Int} {a2 : Int} : ∀ u ∈ [(.int .i64 a0 : Value), .int .i64 a1, .int .i64 a2], u.oneCell' = true := by
 intro u hu
 simp only [List.mem_cons, List.not_mem_nil, or_false] at hu
 rcases hu with rfl | rfl | rfl <;> rfl
theorem prszv32 (w : World) : (zeroValue 32).run Tryz.prog w = .ok (.agg #[.int .i64 0, .int .u32 0, .int .i64 0]) w := rfl
theorem prsbld32_57312 (a0_0 : Int) (a1_0 : Int) (a2_0 : Int) (w : World) : (Instr.build 32 #[(0, .int .i64 a0_0), (1, .int .u32 a1_0), (2, .int .i64 a2_0)]).run Tryz.prog w = .ok (.agg #[.int .i64 a0_0, .int .u32 a1_0, .int .i64 a2_0]) w := by kernel_rfl
theorem prssz32 (w : World) : (sizeOf 32).run Tryz.prog w = .ok 3 w := rfl
theorem prsone_i64u32i64 {a0 : Int} {a1 : Int} {a2 : Int} : ∀ u ∈ [(.int .i64 a0 : Value), .int .u32 a1, .int .i64 a2], u.oneCell' = true := by
 intro u hu
 simp only [List.mem_cons, List.not_mem_nil, or_false] at hu
 rcases hu with rfl | rfl | rfl <;> rfl
theorem vldRs_any (r : Rs) (w : World) :
  Calls Tryz.prog 70 #[.agg r.cells.toArray] w fun e w' => e = .returned (.bool (vldRs r)) ∧ Below w.heap.size w w' := by
 refine begin_ (vs := [.agg r.cells.toArray]) Tryz.func70 rfl rfl rfl ?_ (Pm.start w)
 refine zSG ?_
 refine TL.pnew rfl rfl rfl (exec_box (cs := r.cells) rfl rfl rfl) (fun g1 => ?_)
 refine TL.as_ ?_
 refine zET (zSG (TL.v (gV 0 (.agg (r.cells).toArray) prsag65 prssz65) ?_))
 refine TL.pcall1 (r := .int .i64 (chkR r)) rfl rfl rfl rfl rfl Tryz.func120 (by decide) rfl (fun w1 hw => check_any r w1) ?_
 refine TL.sp bin_eql (fun q5 => ?_) (fun q5 => ?_)
 ·refine TL.mv ?_
  refine TL.ov (gF prsfld65_4) ?_
  refine TL.ov (gL 0 pcmag30) ?_
  refine TL.gu ?_
  refine TL.sp bin_neq (fun q9 => ?_) (fun q9 => ?_)
  ·refine TL.rn 2 rfl (TL.ov (gF prsfld65_8) ?_)
   refine TL.gu ?_
   refine TL.vsplit rfl rfl rfl (gL 0 prsag4) (fun h13 => ?_) (fun h13 => ?_)
   ·refine TL.rn 2 rfl (TL.ov (gF prsfld65_11) ?_)
    refine TL.ov (gF prsfld63_0) ?_
    refine TL.ov (gL 0 pcmag30) ?_
    refine TL.gu ?_
    refine TL.sp bin_neq (fun q19 => ?_) (fun q19 => ?_)
    ·refine TL.rn 3 rfl (zET (zr ?_))
     have hE : (vldRs r) = true := (by simp [vldRs, q5, q9, h13, q19])
     exact ret_tmp Tryz.results70 rfl (fun w1 hw => ⟨by rw [hE]; try rfl, hw.bel⟩)
    refine TL.rn 3 rfl (zET (zr ?_))
    have hE : (vldRs r) = false := (by simp [vldRs, q5, q9, h13, q19])
    exact ret_tmp Tryz.results70 rfl (fun w1 hw => ⟨by rw [hE]; try rfl, hw.bel⟩)
   refine TL.rn 9 rfl (zET (zr ?_))
   have hE : (vldRs r) = true := (by simp [vldRs, q5, q9, h13])
   exact ret_tmp Tryz.results70 rfl (fun w1 hw => ⟨by rw [hE]; try rfl, hw.bel⟩)
  refine TL.rn 6 rfl ?_
  refine TL.offU rfl rfl rfl rfl rfl ?_
  refine TL.offU rfl rfl rfl rfl rfl ?_
  refine TL.offU rfl rfl rfl rfl rfl ?_
  refine TL.offU rfl rfl rfl rfl rfl ?_
  refine TL.rn 3 rfl (zET (zr ?_))
  have hE : (vldRs r) = false := (by simp [vldRs, q5, q9])
  exact ret_tmp Tryz.results70 rfl (fun w1 hw => ⟨by rw [hE]; try rfl, hw.bel⟩)
 refine TL.rn 10 rfl ?_
 refine TL.offU rfl rfl rfl rfl rfl ?_
 refine TL.offU rfl rfl rfl rfl rfl ?_
 refine TL.offU rfl rfl rfl rfl rfl ?_
 refine TL.offU rfl rfl rfl rfl rfl ?_
 refine TL.rn 3 rfl (zET (zr ?_))
 have hE : (vldRs r) = false := (by simp [vldRs, q5])
 exact ret_tmp Tryz.results70 rfl (fun w1 hw => ⟨by rw [hE]; try rfl, hw.bel⟩)
theorem usbRs_any (r : Rs) (w : World) :
  Calls Tryz.prog 91 #[.agg r.cells.toArray] w fun e w' => e = .returned (.bool (usbRs r)) ∧ Below w.heap.size w w' := by
 refine begin_ (vs := [.agg r.cells.toArray]) Tryz.func91 rfl rfl rfl ?_ (Pm.start w)
 refine zSG ?_
 refine TL.pnew rfl rfl rfl (exec_box (cs := r.cells) rfl rfl rfl) (fun g1 => ?_)
 refine TL.as_ ?_
 refine zET (zSG (TL.v (gF prsfld65_9) ?_))
 refine TL.vsplit rfl rfl rfl (gL 0 prsag4) (fun h4 => ?_) (fun h4 => ?_)
 ·refine TL.rn 6 rfl (zET (zr ?_))
  have hE : (usbRs r) = false := (by simp [usbRs, h4])
  exact ret_tmp Tryz.results91 rfl (fun w1 hw => ⟨by rw [hE]; try rfl, hw.bel⟩)
 refine TL.rn 2 rfl (TL.ov (gV 0 (.agg (r.cells).toArray) prsag65 prssz65) ?_)
 refine TL.gu ?_
 refine TL.callsplit rfl rfl rfl rfl rfl Tryz.func70 (by decide) rfl (fun w1 hw => vldRs_any r w1) (fun h8 => ?_) (fun h8 => ?_)
 ·refine TL.rn 2 rfl (zET (zr ?_))
  have hE : (usbRs r) = true := (by simp [usbRs, h4, h8])
  exact ret_tmp Tryz.results91 rfl (fun w1 hw => ⟨by rw [hE]; try rfl, hw.bel⟩)
 refine TL.rn 2 rfl (zET (zr ?_))
 have hE : (usbRs r) = false := (by simp [usbRs, h4, h8])
 exact ret_tmp Tryz.results91 rfl (fun w1 hw => ⟨by rw [hE]; try rfl, hw.bel⟩)
theorem finRs_any (r : Rs) (w : World) :
  Calls Tryz.prog 122 #[.agg r.cells.toArray] w fun e w' => e = .returned (.bool (finRs r)) ∧ Below w.heap.size w w' := by
 refine begin_ (vs := [.agg r.cells.toArray]) Tryz.func122 rfl rfl rfl ?_ (Pm.start w)
 refine zSG ?_
 refine TL.pnew rfl rfl rfl (exec_box (cs := r.cells) rfl rfl rfl) (fun g1 => ?_)
 refine TL.as_ ?_
 refine zET (zSG (TL.v (gF prsfld65_8) ?_))
 refine TL.vsplit rfl rfl rfl (gL 0 prsag4) (fun h4 => ?_) (fun h4 => ?_)
 ·refine TL.mv ?_
  refine TL.ov (gF prsfld65_11) ?_
  refine TL.ov (gF prsfld63_1) ?_
  refine TL.ov (gL 0 pcmag3) ?_
  refine TL.gu ?_
  refine TL.sp bin_neq (fun q9 => ?_) (fun q9 => ?_)
  ·refine TL.rn 2 rfl (TL.ov (gV 0 (.agg (r.cells).toArray) prsag65 prssz65) ?_)
   refine TL.gu ?_
   refine TL.callsplit rfl rfl rfl rfl rfl Tryz.func91 (by decide) rfl (fun w1 hw => usbRs_any r w1) (fun h13 => ?_) (fun h13 => ?_)
   ·refine TL.rn 2 rfl (zET (zr ?_))
    have hE : (finRs r) = true := (by simp [finRs, h4, q9, h13])
    exact ret_tmp Tryz.results122 rfl (fun w1 hw => ⟨by rw [hE]; try rfl, hw.bel⟩)
   refine TL.rn 2 rfl (zET (zr ?_))
   have hE : (finRs r) = false := (by simp [finRs, h4, q9, h13])
   exact ret_tmp Tryz.results122 rfl (fun w1 hw => ⟨by rw [hE]; try rfl, hw.bel⟩)
  refine TL.rn 6 rfl (zET (zr ?_))
  have hE : (finRs r) = false := (by simp [finRs, h4, q9])
  exact ret_tmp Tryz.results122 rfl (fun w1 hw => ⟨by rw [hE]; try rfl, hw.bel⟩)
 refine TL.rn 11 rfl (zET (zr ?_))
 have hE : (finRs r) = false := (by simp [finRs, h4])
 exact ret_tmp Tryz.results122 rfl (fun w1 hw => ⟨by rw [hE]; try rfl, hw.bel⟩)
theorem rvldRs_any (r : Rs) (w : World) :
  Calls Tryz.prog 71 #[.agg r.cells.toArray] w fun e w' => e = .returned (.bool (vldRs r)) ∧ Below w.heap.size w w' := by
 refine begin_ (vs := [.agg r.cells.toArray]) Tryz.func71 rfl rfl rfl ?_ (Pm.start w)
 refine zSG ?_
 refine TL.pnew rfl rfl rfl (exec_box (cs := r.cells) rfl rfl rfl) (fun g1 => ?_)
 refine TL.as_ ?_
 refine zET (zSG (TL.v (gV 0 (.agg (r.cells).toArray) prsag65 prssz65) ?_))
 refine TL.pcall1 (r := .int .i64 (chkR r)) rfl rfl rfl rfl rfl Tryz.func121 (by decide) rfl (fun w1 hw => rcheck_any r w1) ?_
 refine TL.sp bin_eql (fun q5 => ?_) (fun q5 => ?_)
 ·refine TL.mv ?_
  refine TL.ov (gF prsfld65_4) ?_
  refine TL.ov (gL 0 pcmag30) ?_
  refine TL.gu ?_
  refine TL.sp bin_neq (fun q9 => ?_) (fun q9 => ?_)
  ·refine TL.rn 2 rfl (TL.ov (gF prsfld65_8) ?_)
   refine TL.gu ?_
   refine TL.vsplit rfl rfl rfl (gL 0 prsag4) (fun h13 => ?_) (fun h13 => ?_)
   ·refine TL.rn 2 rfl (TL.ov (gF prsfld65_11) ?_)
    refine TL.ov (gF prsfld63_0) ?_
    refine TL.ov (gL 0 pcmag30) ?_
    refine TL.gu ?_
    refine TL.sp bin_neq (fun q19 => ?_) (fun q19 => ?_)
    ·refine TL.rn 3 rfl (zET (zr ?_))
     have hE : (vldRs r) = true := (by simp [vldRs, q5, q9, h13, q19])
     exact ret_tmp Tryz.results71 rfl (fun w1 hw => ⟨by rw [hE]; try rfl, hw.bel⟩)
    refine TL.rn 3 rfl (zET (zr ?_))
    have hE : (vldRs r) = false := (by simp [vldRs, q5, q9, h13, q19])
    exact ret_tmp Tryz.results71 rfl (fun w1 hw => ⟨by rw [hE]; try rfl, hw.bel⟩)
   refine TL.rn 9 rfl (zET (zr ?_))
   have hE : (vldRs r) = true := (by simp [vldRs, q5, q9, h13])
   exact ret_tmp Tryz.results71 rfl (fun w1 hw => ⟨by rw [hE]; try rfl, hw.bel⟩)
  refine TL.rn 6 rfl ?_
  refine TL.offU rfl rfl rfl rfl rfl ?_
  refine TL.offU rfl rfl rfl rfl rfl ?_
  refine TL.offU rfl rfl rfl rfl rfl ?_
  refine TL.offU rfl rfl rfl rfl rfl ?_
  refine TL.rn 3 rfl (zET (zr ?_))
  have hE : (vldRs r) = false := (by simp [vldRs, q5, q9])
  exact ret_tmp Tryz.results71 rfl (fun w1 hw => ⟨by rw [hE]; try rfl, hw.bel⟩)
 refine TL.rn 10 rfl ?_
 refine TL.offU rfl rfl rfl rfl rfl ?_
 refine TL.offU rfl rfl rfl rfl rfl ?_
 refine TL.offU rfl rfl rfl rfl rfl ?_
 refine TL.offU rfl rfl rfl rfl rfl ?_
 refine TL.rn 3 rfl (zET (zr ?_))
 have hE : (vldRs r) = false := (by simp [vldRs, q5])
 exact ret_tmp Tryz.results71 rfl (fun w1 hw => ⟨by rw [hE]; try rfl, hw.bel⟩)
theorem numb_any (b : Bool) (w : World) :
  Calls Tryz.prog 165 #[.bool b] w fun e w' => e = .returned (.int .i64 (b2i b)) ∧ w' = w := by
 refine begin_ (vs := [.bool b]) (I := fun w1 => w1 = w) Tryz.func165 rfl rfl rfl ?_ rfl
 refine zSG (TL.as_ ?_)
 refine zET (zS (zS ?_))
 cases b with
 | true =>
  refine zG (TL.mv ?_)
  refine zET (zc (zSG (TL.as_ ?_)))
  refine zET (zr (zR ?_))
  exact ret_tmp Tryz.results165 rfl (fun w1 hw => ⟨rfl, hw⟩)
 | false =>
  refine zG (TL.mv ?_)
  refine zET (zd (zk (zT (zSG (TL.as_ ?_)))))
  refine zET (zr ?_)
  exact ret_tmp Tryz.results165 rfl (fun w1 hw => ⟨rfl, hw⟩)
theorem rnumb_any (b : Bool) (w : World) :
  Calls Tryz.prog 177 #[.bool b] w fun e w' => e = .returned (.int .i64 (b2i b)) ∧ w' = w := by
 refine begin_ (vs := [.bool b]) (I := fun w1 => w1 = w) Tryz.func177 rfl rfl rfl ?_ rfl
 refine zSG (TL.as_ ?_)
 refine zET (zS (zS ?_))
 cases b with
 | true =>
  refine zG (TL.mv ?_)
  refine zET (zc (zSG (TL.as_ ?_)))
  refine zET (zr (zR ?_))
  exact ret_tmp Tryz.results177 rfl (fun w1 hw => ⟨rfl, hw⟩)
 | false =>
  refine zG (TL.mv ?_)
  refine zET (zd (zk (zT (zSG (TL.as_ ?_)))))
  refine zET (zr ?_)
  exact ret_tmp Tryz.results177 rfl (fun w1 hw => ⟨rfl, hw⟩)
theorem less_any (x y : Int) (w : World) :
  Calls Tryz.prog 178 #[.int .i64 x, .int .i64 y] w fun e w' => e = .returned (.int .i64 (cmpI x y)) ∧ w' = w := by
 refine begin_ (vs := [.int .i64 x, .int .i64 y]) (I := fun w1 => w1 = w) Tryz.func178 rfl rfl rfl ?_ rfl
 refine zSG (TL.as_ ?_)
 refine zET (zS (zB (zSG (TL.rn 2 rfl ?_))))
 refine TL.sp bin_lss (fun q8 => ?_) (fun q8 => ?_)
 ·refine TL.as_ ?_
  refine zET (zc (zSG (TL.as_ ?_)))
  refine zET (zr (zRR ?_))
  have hE : (cmpI x y) = -1 := (by simp [cmpI, q8]; try omega)
  exact ret_tmp Tryz.results178 rfl (fun w1 hw => ⟨by rw [hE]; try rfl, hw⟩)
 refine TL.as_ ?_
 refine zET (zd (zSG (TL.rn 2 rfl ?_)))
 refine TL.sp bin_gtr (fun q12 => ?_) (fun q12 => ?_)
 ·refine TL.as_ ?_
  refine zET (zc (zSG (TL.as_ ?_)))
  refine zET (zr (zRR ?_))
  have hE : (cmpI x y) = 1 := (by simp [cmpI, q8, q12]; try omega)
  exact ret_tmp Tryz.results178 rfl (fun w1 hw => ⟨by rw [hE]; try rfl, hw⟩)
 refine TL.as_ ?_
 refine zET (zd (zk (zN (zT (zSG (TL.as_ ?_))))))
 refine zET (zr ?_)
 have hE : (cmpI x y) = 0 := (by simp [cmpI, q8, q12]; try omega)
 exact ret_tmp Tryz.results178 rfl (fun w1 hw => ⟨by rw [hE]; try rfl, hw⟩)
theorem cmpRs_any (a b : Rs) (w : World) :
  Calls Tryz.prog 133 #[.agg a.cells.toArray, .agg b.cells.toArray] w fun e w' => e = .returned (.int .i64 (cmpRs a b)) ∧ Below w.heap.size w w' := by
 refine begin_ (vs := [.agg a.cells.toArray, .agg b.cells.toArray]) Tryz.func133 rfl rfl rfl ?_ (Pm.start w)
 refine zSG ?_
 refine TL.pnew rfl rfl rfl (exec_box (cs := a.cells) rfl rfl rfl) (fun g2 => ?_)
 refine TL.pnew rfl rfl rfl (exec_box (cs := b.cells) rfl rfl rfl) (fun g3 => ?_)
 refine TL.as_ ?_
 refine zET (zS (TC.pre 106 108 2 (Pm w [.blk g3 65 b.cells, .blk g2 65 a.cells]) (by kernel_rfl) rfl (fun w hw => hw.drawn _) (by kernel_rfl) rfl (fun w1 hw => hw) ?_))
 refine TV.val rfl rfl rfl (gF prsfld65_3) ?_
 refine TV.val rfl rfl rfl (gL 1 pcmag3) ?_
 refine TV.val rfl rfl rfl (gF prsfld65_3) ?_
 refine TV.val rfl rfl rfl (gL 0 pcmag3) ?_
 refine TV.val rfl rfl rfl (gives_build (v := .agg #[.int .i64 a.at_, .int .i64 b.at_]) rfl rfl (fun w => prsbld120_29156 _ _ w)) ?_
 refine TV.val rfl rfl rfl (gF prsfld65_0) ?_
 refine TV.val rfl rfl rfl (gL 1 pcmag3) ?_
 refine TV.val rfl rfl rfl (gF prsfld65_0) ?_
 refine TV.val rfl rfl rfl (gL 0 pcmag3) ?_
 refine TV.val rfl rfl rfl (gives_build (v := .agg #[.int .i64 a.v, .int .i64 b.v]) rfl rfl (fun w => prsbld120_29156 _ _ w)) ?_
 refine TV.val rfl rfl rfl (gF prsfld65_1) ?_
 refine TV.val rfl rfl rfl (gL 1 pcmag3) ?_
 refine TV.val rfl rfl rfl (gF prsfld65_1) ?_
 refine TV.val rfl rfl rfl (gL 0 pcmag3) ?_
 refine TV.val rfl rfl rfl (gives_build (v := .agg #[.int .i64 a.run, .int .i64 b.run]) rfl rfl (fun w => prsbld120_29156 _ _ w)) ?_
 refine TV.val rfl rfl rfl (gF prsfld65_2) ?_
 refine TV.val rfl rfl rfl (gL 1 pcmag3) ?_
 refine TV.val rfl rfl rfl (gF prsfld65_2) ?_
 refine TV.val rfl rfl rfl (gL 0 pcmag3) ?_
 refine TV.val rfl rfl rfl (gives_build (v := .agg #[.int .i64 a.num, .int .i64 b.num]) rfl rfl (fun w => prsbld120_29156 _ _ w)) ?_
 refine TV.val rfl rfl rfl (gF prsfld65_4) ?_
 refine TV.val rfl rfl rfl (gL 1 pcmag30) ?_
 refine TV.val rfl rfl rfl (gives_conv rfl rfl (fun w => conv_w64 Tryz.underlying3 Tryz.underlying30 w)) ?_
 refine TV.val rfl rfl rfl (gF prsfld65_4) ?_
 refine TV.val rfl rfl rfl (gL 0 pcmag30) ?_
 refine TV.val rfl rfl rfl (gives_conv rfl rfl (fun w => conv_w64 Tryz.underlying3 Tryz.underlying30 w)) ?_
 refine TV.val rfl rfl rfl (gives_build (v := .agg #[.int .i64 (IntKind.i64.wrap a.dst), .int .i64 (IntKind.i64.wrap b.dst)]) rfl rfl (fun w => prsbld120_29156 _ _ w)) ?_
 refine TV.val rfl rfl rfl (gF prsfld65_5) ?_
 refine TV.val rfl rfl rfl (gL 1 pcmag3) ?_
 refine TV.val rfl rfl rfl (gF prsfld65_5) ?_
 refine TV.val rfl rfl rfl (gL 0 pcmag3) ?_
 refine TV.val rfl rfl rfl (gives_build (v := .agg #[.int .i64 a.proto, .int .i64 b.proto]) rfl rfl (fun w => prsbld120_29156 _ _ w)) ?_
 refine TV.val rfl rfl rfl (gF prsfld65_6) ?_
 refine TV.val rfl rfl rfl (gL 1 pcmag3) ?_
 refine TV.val rfl rfl rfl (gF prsfld65_6) ?_
 refine TV.val rfl rfl rfl (gL 0 pcmag3) ?_
 refine TV.val rfl rfl rfl (gives_build (v := .agg #[.int .i64 a.flow, .int .i64 b.flow]) rfl rfl (fun w => prsbld120_29156 _ _ w)) ?_
 refine TV.val rfl rfl rfl (gF prsfld65_7) ?_
 refine TV.val rfl rfl rfl (gL 1 pcmag3) ?_
 refine TV.val rfl rfl rfl (gF prsfld65_7) ?_
 refine TV.val rfl rfl rfl (gL 0 pcmag3) ?_
 refine TV.val rfl rfl rfl (gives_build (v := .agg #[.int .i64 a.ttl, .int .i64 b.ttl]) rfl rfl (fun w => prsbld120_29156 _ _ w)) ?_
 refine TV.val rfl rfl rfl (gF prsfld65_8) ?_
 refine TV.val rfl rfl rfl (gL 1 prsag4) ?_
 refine TV.call (r := .int .i64 (b2i a.ans)) rfl rfl rfl rfl rfl Tryz.func165 (by decide) rfl (fun w1 hw => numb_any a.ans w1) ?_
 refine TV.val rfl rfl rfl (gF prsfld65_8) ?_
 refine TV.val rfl rfl rfl (gL 0 prsag4) ?_
 refine TV.call (r := .int .i64 (b2i b.ans)) rfl rfl rfl rfl rfl Tryz.func165 (by decide) rfl (fun w1 hw => numb_any b.ans w1) ?_
 refine TV.val rfl rfl rfl (gives_build (v := .agg #[.int .i64 (b2i a.ans), .int .i64 (b2i b.ans)]) rfl rfl (fun w => prsbld120_29156 _ _ w)) ?_
 refine TV.val rfl rfl rfl (gF prsfld65_9) ?_
 refine TV.val rfl rfl rfl (gL 1 prsag4) ?_
 refine TV.call (r := .int .i64 (b2i a.dbl)) rfl rfl rfl rfl rfl Tryz.func165 (by decide) rfl (fun w1 hw => numb_any a.dbl w1) ?_
 refine TV.val rfl rfl rfl (gF prsfld65_9) ?_
 refine TV.val rfl rfl rfl (gL 0 prsag4) ?_
 refine TV.call (r := .int .i64 (b2i b.dbl)) rfl rfl rfl rfl rfl Tryz.func165 (by decide) rfl (fun w1 hw => numb_any b.dbl w1) ?_
 refine TV.val rfl rfl rfl (gives_build (v := .agg #[.int .i64 (b2i a.dbl), .int .i64 (b2i b.dbl)]) rfl rfl (fun w => prsbld120_29156 _ _ w)) ?_
 refine TV.val rfl rfl rfl (gF prsfld65_10) ?_
 refine TV.val rfl rfl rfl (gL 1 pcmag3) ?_
 refine TV.val rfl rfl rfl (gF prsfld65_10) ?_
 refine TV.val rfl rfl rfl (gL 0 pcmag3) ?_
 refine TV.val rfl rfl rfl (gives_build (v := .agg #[.int .i64 a.back, .int .i64 b.back]) rfl rfl (fun w => prsbld120_29156 _ _ w)) ?_
 refine TV.val rfl rfl rfl (gF prsfld65_11) ?_
 refine TV.val rfl rfl rfl (gF prsfld63_0) ?_
 refine TV.val rfl rfl rfl (gL 1 pcmag30) ?_
 refine TV.val rfl rfl rfl (gives_conv rfl rfl (fun w => conv_w64 Tryz.underlying3 Tryz.underlying30 w)) ?_
 refine TV.val rfl rfl rfl (gF prsfld65_11) ?_
 refine TV.val rfl rfl rfl (gF prsfld63_0) ?_
 refine TV.val rfl rfl rfl (gL 0 pcmag30) ?_
 refine TV.val rfl rfl rfl (gives_conv rfl rfl (fun w => conv_w64 Tryz.underlying3 Tryz.underlying30 w)) ?_
 refine TV.val rfl rfl rfl (gives_build (v := .agg #[.int .i64 (IntKind.i64.wrap a.src), .int .i64 (IntKind.i64.wrap b.src)]) rfl rfl (fun w => prsbld120_29156 _ _ w)) ?_
 refine TV.val rfl rfl rfl (gF prsfld65_11) ?_
 refine TV.val rfl rfl rfl (gF prsfld63_1) ?_
 refine TV.val rfl rfl rfl (gL 1 pcmag3) ?_
 refine TV.val rfl rfl rfl (gF prsfld65_11) ?_
 refine TV.val rfl rfl rfl (gF prsfld63_1) ?_
 refine TV.val rfl rfl rfl (gL 0 pcmag3) ?_
 refine TV.val rfl rfl rfl (gives_build (v := .agg #[.int .i64 a.kind, .int .i64 b.kind]) rfl rfl (fun w => prsbld120_29156 _ _ w)) ?_
 refine TV.val rfl rfl rfl (gF prsfld65_11) ?_
 refine TV.val rfl rfl rfl (gF prsfld63_2) ?_
 refine TV.val rfl rfl rfl (gL 1 pcmag3) ?_
 refine TV.val rfl rfl rfl (gF prsfld65_11) ?_
 refine TV.val rfl rfl rfl (gF prsfld63_2) ?_
 refine TV.val rfl rfl rfl (gL 0 pcmag3) ?_
 refine TV.val rfl rfl rfl (gives_build (v := .agg #[.int .i64 a.code, .int .i64 b.code]) rfl rfl (fun w => prsbld120_29156 _ _ w)) ?_
 refine TV.val rfl rfl rfl (gF prsfld65_11) ?_
 refine TV.val rfl rfl rfl (gF prsfld63_3) ?_
 refine TV.val rfl rfl rfl (gL 1 pcmag3) ?_
 refine TV.val rfl rfl rfl (gF prsfld65_11) ?_
 refine TV.val rfl rfl rfl (gF prsfld63_3) ?_
 refine TV.val rfl rfl rfl (gL 0 pcmag3) ?_
 refine TV.val rfl rfl rfl (gives_build (v := .agg #[.int .i64 a.left, .int .i64 b.left]) rfl rfl (fun w => prsbld120_29156 _ _ w)) ?_
 refine TV.val rfl rfl rfl (gF prsfld65_11) ?_
 refine TV.val rfl rfl rfl (gF prsfld63_4) ?_
 refine TV.val rfl rfl rfl (gL 1 pcmag3) ?_
 refine TV.val rfl rfl rfl (gF prsfld65_11) ?_
 refine TV.val rfl rfl rfl (gF prsfld63_4) ?_
 refine TV.val rfl rfl rfl (gL 0 pcmag3) ?_
 refine TV.val rfl rfl rfl (gives_build (v := .agg #[.int .i64 a.id, .int .i64 b.id]) rfl rfl (fun w => prsbld120_29156 _ _ w)) ?_
 refine TV.val rfl rfl rfl (gF prsfld65_11) ?_
 refine TV.val rfl rfl rfl (gF prsfld63_5) ?_
 refine TV.val rfl rfl rfl (gL 1 pcmag3) ?_
 refine TV.val rfl rfl rfl (gF prsfld65_11) ?_
 refine TV.val rfl rfl rfl (gF prsfld63_5) ?_
 refine TV.val rfl rfl rfl (gL 0 pcmag3) ?_
 refine TV.val rfl rfl rfl (gives_build (v := .agg #[.int .i64 a.quo, .int .i64 b.quo]) rfl rfl (fun w => prsbld120_29156 _ _ w)) ?_
 refine TV.val rfl rfl rfl (gives_build (v := .agg ((flat pc2 (pairsR a b))).toArray) rfl rfl (fun w => prsbld188_59264 _ _ _ _ _ _ _ _ _ _ _ _ _ _ _ _ _ _ _ _ _ _ _ _ _ _ _ _ _ _ _ _ _ _ w)) ?_
 refine TV.end_ (ls := #[Tt,Tt,Tt,Tt,Tt,Tt,Tt,Tt,Tt,Tt,Tt,Tt,Tt,Tt,Tt,Tt,Tt,Tt,Tt,Tt,Tt,Tt,Tt,Tt,Tt,Tt,Tt,Tt,Tt,Tt,Tt,Tt,Tt,Tt,Tt,Tt,Tt,Tt,Tt,Tt,Tt,Tt,Tt,Tt,Tt,Tt,Tt,Tt,Tt,Tt,Tt,Tt,Tt,Tt,Tt,Tt,Tt,Tt,Tt,Tt,Tt,Tt,Tt,Tt,Tt,Tt,Tt,Tt,Tt,Tt,Tt,Tt,Tt,Tt,Tt,Tt,Tt,Tt,Tt,Tt,Tt,Tt,Tt,Tt,Tt,Tt,Tt,Tt,Tt,Tt,Tt,Tt,Tt,Tt,Tt,Tt,Tt,Tt,Tt,Tt,Tt,Tt,Tt,Tt,Tt,Tt,Ff,Ff]) (by kernel_rfl) ?_
 refine TH.only' 106 rfl (by kernel_rfl) rfl ?_
 refine TL.pnew rfl rfl rfl (exec_alloc (cs := [.int .i64 0, .int .i64 0, .int .i64 0, .int .i64 0, .int .i64 0, .int .i64 0, .int .i64 0, .int .i64 0, .int .i64 0, .int .i64 0, .int .i64 0, .int .i64 0, .int .i64 0, .int .i64 0, .int .i64 0, .int .i64 0, .int .i64 0, .int .i64 0, .int .i64 0, .int .i64 0, .int .i64 0, .int .i64 0, .int .i64 0, .int .i64 0, .int .i64 0, .int .i64 0, .int .i64 0, .int .i64 0, .int .i64 0, .int .i64 0, .int .i64 0, .int .i64 0, .int .i64 0, .int .i64 0]) rfl prszv188 rfl) (fun g5 => ?_)
 refine zE ?_
 refine TX.held (fun w1 hw => hw.pick [1, 2] (by decide) rfl) ?_
 refine TH.only' 107 rfl (by kernel_rfl) rfl ?_
 refine TL.pstore (k := 0) (vs := (flat pc2 (pairsR a b))) rfl rfl rfl rfl rfl rfl rfl prssz188 (flat_one pc2_cel _) (by show 34 ≤ 34; decide) (L' := [.blk g5 188 (flat pc2 (pairsR a b)), .blk g3 65 b.cells, .blk g2 65 a.cells]) rfl ?_
 refine zE ?_
 refine TX.held (fun w1 hw => hw.pick [1, 2] (by decide) rfl) ?_
 refine TH.done (by kernel_rfl) ?_
 refine zT (zS (zSG (TL.v (gV 0 (.agg ((flat pc2 (pairsR a b))).toArray) prsag188 prssz188) ?_)))
 refine TL.mv ?_
 refine zET (zB (TC.loop_ (α := {i : Nat // i ≤ 17 ∧ orP ((pairsR a b).drop i) = orP (pairsR a b)}) (fun y => [(2, .pointer (some ⟨g2, 0, none⟩)), (3, .pointer (some ⟨g3, 0, none⟩)), (115, .agg ((flat pc2 (pairsR a b))).toArray), (4, .int .i64 0), (116, .int .i64 ((y.1 : Nat) : Int))]) (fun y => Pm w [.blk g5 188 (flat pc2 (pairsR a b)), .blk g3 65 b.cells, .blk g2 65 a.cells]) (fun y => 17 - y.1) (⟨0, Nat.zero_le _, rfl⟩) ⟨rfl, rfl, rfl, rfl, rfl, trivial⟩ (fun w1 hw => hw) ?_))
 rintro ⟨i, hi, ho⟩
 try dsimp only at hi ho ⊢
 refine zSG ?_
 refine TL.sp bin_lss (fun q117 => ?_) (fun q117 => ?_)
 ·refine zET (zS (zc (zk (zT (zS (zB (zSG ?_)))))))
  obtain ⟨x118, hx118⟩ : ∃ x, (pairsR a b)[i]? = some x := ⟨_, List.getElem?_eq_getElem (by show i < 17; omega)⟩
  have hdr : (pairsR a b).drop i = x118 :: (pairsR a b).drop (i + 1) := by obtain ⟨hlt, e⟩ := List.getElem?_eq_some_iff.1 hx118; rw [List.drop_eq_getElem_cons hlt, e]
  refine TL.val rfl rfl rfl (gives_index (v := .agg (pc2 x118).toArray) rfl rfl rfl (fun w => index_flat pc2_cel Tryz.underlying188 prsag120 prssz120 hx118 rfl rfl w)) ?_
  refine TL.pnew rfl rfl rfl (exec_alloc (cs := [.int .i64 0, .int .i64 0]) rfl prszv120 rfl) (fun g7 => ?_)
  refine TL.pstore (k := 0) (vs := (pc2 x118)) rfl rfl rfl rfl rfl rfl rfl prssz120 (pc2_cel.one _) (by show 2 ≤ 2; decide) (L' := [.blk g7 120 (pc2 x118), .blk g5 188 (flat pc2 (pairsR a b)), .blk g3 65 b.cells, .blk g2 65 a.cells]) rfl ?_
  refine zET (zSG ?_)
  refine TL.val rfl rfl rfl (gives_at (v := .pointer (some ⟨g7, 0, none⟩)) rfl rfl rfl (fun w => at_arr Tryz.underlying120 pcmsz3 g7 0 _ 0 (by decide) w)) ?_
  refine TL.v (gL 0 pcmag3) ?_
  refine TL.val rfl rfl rfl (gives_at (v := .pointer (some ⟨g7, 1, none⟩)) rfl rfl rfl (fun w => at_arr Tryz.underlying120 pcmsz3 g7 0 _ 1 (by decide) w)) ?_
  refine TL.v (gL 0 pcmag3) ?_
  refine TL.pcall1 (r := .int .i64 (cmpI x118.1 x118.2)) rfl rfl rfl rfl rfl Tryz.func79 (by decide) rfl (fun w1 hw => still_bel (cmpI_any x118.1 x118.2 w1)) ?_
  refine TL.as_ ?_
  refine zET (zSG (TL.mv ?_))
  refine TL.sp bin_neq (fun q125 => ?_) (fun q125 => ?_)
  ·refine zET (zc (zSG (TL.rn 2 rfl (zET (zr (zRR (zR (zRR ?_))))))))
   exact ret_tmp Tryz.results133 rfl (fun w1 hw => ⟨by rw [cmpRs_pairs, ← ho, hdr, orP_cons, if_neg q125], hw.bel⟩)
  have ho2 : orP ((pairsR a b).drop (i + 1)) = orP (pairsR a b) := by rw [← ho, hdr, orP_cons, if_pos (Decidable.not_not.1 q125)]
  refine zET (zd (zk (zN (zT (zG (TL.v (gD ((i + 1 : Nat) : Int)) ?_))))))
  refine TL.mv ?_
  refine zE ?_
  exact TX.round (⟨i + 1, by omega, ho2⟩) (by show 17 - (i + 1) < 17 - i; omega) ⟨rfl, rfl, rfl, rfl, rfl, trivial⟩ (fun w1 hw => hw.pick [1, 2, 3] (by decide) rfl)
 refine zET (zS (zd (zx (zX (zX (zM (zT (zSG (TL.as_ ?_)))))))))
 refine zET (zr ?_)
 exact ret_tmp Tryz.results133 rfl (fun w1 hw => ⟨by rw [cmpRs_pairs, ← ho, List.drop_of_length_le (by show 17 ≤ i; omega)]; rfl, hw.bel⟩)
theorem rcmpRs_any (a b : Rs) (w : World) :
  Calls Tryz.prog 147 #[.agg a.cells.toArray, .agg b.cells.toArray] w fun e w' => e = .returned (.int .i64 (cmpRs a b)) ∧ Below w.heap.size w w' := by
 refine begin_ (vs := [.agg a.cells.toArray, .agg b.cells.toArray]) Tryz.func147 rfl rfl rfl ?_ (Pm.start w)
 refine zSG ?_
 refine TL.pnew rfl rfl rfl (exec_box (cs := a.cells) rfl rfl rfl) (fun g2 => ?_)
 refine TL.pnew rfl rfl rfl (exec_box (cs := b.cells) rfl rfl rfl) (fun g3 => ?_)
 refine TL.as_ ?_
 refine zET (zS (zS (TC.quietP (by kernel_rfl) (by kernel_rfl) (fun w hw => hw.drawn _) ?_)))
 refine TQ.v (gF prsfld65_3) ?_
 refine TQ.v (gL 1 pcmag3) ?_
 refine TQ.v (gF prsfld65_3) ?_
 refine TQ.v (gL 0 pcmag3) ?_
 refine TQ.val rfl rfl rfl (gives_build (v := .agg #[.int .i64 a.at_, .int .i64 b.at_]) rfl rfl (fun w => prsbld120_29156 _ _ w)) ?_
 refine TQ.v (gF prsfld65_0) ?_
 refine TQ.v (gL 1 pcmag3) ?_
 refine TQ.v (gF prsfld65_0) ?_
 refine TQ.v (gL 0 pcmag3) ?_
 refine TQ.val rfl rfl rfl (gives_build (v := .agg #[.int .i64 a.v, .int .i64 b.v]) rfl rfl (fun w => prsbld120_29156 _ _ w)) ?_
 refine TQ.v (gF prsfld65_1) ?_
 refine TQ.v (gL 1 pcmag3) ?_
 refine TQ.v (gF prsfld65_1) ?_
 refine TQ.v (gL 0 pcmag3) ?_
 refine TQ.val rfl rfl rfl (gives_build (v := .agg #[.int .i64 a.run, .int .i64 b.run]) rfl rfl (fun w => prsbld120_29156 _ _ w)) ?_
 refine TQ.v (gF prsfld65_2) ?_
 refine TQ.v (gL 1 pcmag3) ?_
 refine TQ.v (gF prsfld65_2) ?_
 refine TQ.v (gL 0 pcmag3) ?_
 refine TQ.val rfl rfl rfl (gives_build (v := .agg #[.int .i64 a.num, .int .i64 b.num]) rfl rfl (fun w => prsbld120_29156 _ _ w)) ?_
 refine TQ.v (gF prsfld65_4) ?_
 refine TQ.v (gL 1 pcmag30) ?_
 refine TQ.val rfl rfl rfl (gives_conv rfl rfl (fun w => conv_w64 Tryz.underlying3 Tryz.underlying30 w)) ?_
 refine TQ.v (gF prsfld65_4) ?_
 refine TQ.v (gL 0 pcmag30) ?_
 refine TQ.val rfl rfl rfl (gives_conv rfl rfl (fun w => conv_w64 Tryz.underlying3 Tryz.underlying30 w)) ?_
 refine TQ.val rfl rfl rfl (gives_build (v := .agg #[.int .i64 (IntKind.i64.wrap a.dst), .int .i64 (IntKind.i64.wrap b.dst)]) rfl rfl (fun w => prsbld120_29156 _ _ w)) ?_
 refine TQ.v (gF prsfld65_5) ?_
 refine TQ.v (gL 1 pcmag3) ?_
 refine TQ.v (gF prsfld65_5) ?_
 refine TQ.v (gL 0 pcmag3) ?_
 refine TQ.val rfl rfl rfl (gives_build (v := .agg #[.int .i64 a.proto, .int .i64 b.proto]) rfl rfl (fun w => prsbld120_29156 _ _ w)) ?_
 refine TQ.v (gF prsfld65_6) ?_
 refine TQ.v (gL 1 pcmag3) ?_
 refine TQ.v (gF prsfld65_6) ?_
 refine TQ.v (gL 0 pcmag3) ?_
 refine TQ.val rfl rfl rfl (gives_build (v := .agg #[.int .i64 a.flow, .int .i64 b.flow]) rfl rfl (fun w => prsbld120_29156 _ _ w)) ?_
 refine TQ.v (gF prsfld65_7) ?_
 refine TQ.v (gL 1 pcmag3) ?_
 refine TQ.v (gF prsfld65_7) ?_
 refine TQ.v (gL 0 pcmag3) ?_
 refine TQ.val rfl rfl rfl (gives_build (v := .agg #[.int .i64 a.ttl, .int .i64 b.ttl]) rfl rfl (fun w => prsbld120_29156 _ _ w)) ?_
 refine TQ.v (gF prsfld65_8) ?_
 refine TQ.v (gL 1 prsag4) ?_
 refine TQ.call (v := .int .i64 (b2i a.ans)) rfl rfl rfl rfl rfl Tryz.func177 (by decide) rfl (fun w1 hw => (still_bel (rnumb_any a.ans w1)).mono fun en w2 ⟨h1, h2⟩ => ⟨h1, hw.below h2⟩) ?_
 refine TQ.v (gF prsfld65_8) ?_
 refine TQ.v (gL 0 prsag4) ?_
 refine TQ.call (v := .int .i64 (b2i b.ans)) rfl rfl rfl rfl rfl Tryz.func177 (by decide) rfl (fun w1 hw => (still_bel (rnumb_any b.ans w1)).mono fun en w2 ⟨h1, h2⟩ => ⟨h1, hw.below h2⟩) ?_
 refine TQ.val rfl rfl rfl (gives_build (v := .agg #[.int .i64 (b2i a.ans), .int .i64 (b2i b.ans)]) rfl rfl (fun w => prsbld120_29156 _ _ w)) ?_
 refine TQ.v (gF prsfld65_9) ?_
 refine TQ.v (gL 1 prsag4) ?_
 refine TQ.call (v := .int .i64 (b2i a.dbl)) rfl rfl rfl rfl rfl Tryz.func177 (by decide) rfl (fun w1 hw => (still_bel (rnumb_any a.dbl w1)).mono fun en w2 ⟨h1, h2⟩ => ⟨h1, hw.below h2⟩) ?_
 refine TQ.v (gF prsfld65_9) ?_
 refine TQ.v (gL 0 prsag4) ?_
 refine TQ.call (v := .int .i64 (b2i b.dbl)) rfl rfl rfl rfl rfl Tryz.func177 (by decide) rfl (fun w1 hw => (still_bel (rnumb_any b.dbl w1)).mono fun en w2 ⟨h1, h2⟩ => ⟨h1, hw.below h2⟩) ?_
 refine TQ.val rfl rfl rfl (gives_build (v := .agg #[.int .i64 (b2i a.dbl), .int .i64 (b2i b.dbl)]) rfl rfl (fun w => prsbld120_29156 _ _ w)) ?_
 refine TQ.v (gF prsfld65_10) ?_
 refine TQ.v (gL 1 pcmag3) ?_
 refine TQ.v (gF prsfld65_10) ?_
 refine TQ.v (gL 0 pcmag3) ?_
 refine TQ.val rfl rfl rfl (gives_build (v := .agg #[.int .i64 a.back, .int .i64 b.back]) rfl rfl (fun w => prsbld120_29156 _ _ w)) ?_
 refine TQ.v (gF prsfld65_11) ?_
 refine TQ.v (gF prsfld63_0) ?_
 refine TQ.v (gL 1 pcmag30) ?_
 refine TQ.val rfl rfl rfl (gives_conv rfl rfl (fun w => conv_w64 Tryz.underlying3 Tryz.underlying30 w)) ?_
 refine TQ.v (gF prsfld65_11) ?_
 refine TQ.v (gF prsfld63_0) ?_
 refine TQ.v (gL 0 pcmag30) ?_
 refine TQ.val rfl rfl rfl (gives_conv rfl rfl (fun w => conv_w64 Tryz.underlying3 Tryz.underlying30 w)) ?_
 refine TQ.val rfl rfl rfl (gives_build (v := .agg #[.int .i64 (IntKind.i64.wrap a.src), .int .i64 (IntKind.i64.wrap b.src)]) rfl rfl (fun w => prsbld120_29156 _ _ w)) ?_
 refine TQ.v (gF prsfld65_11) ?_
 refine TQ.v (gF prsfld63_1) ?_
 refine TQ.v (gL 1 pcmag3) ?_
 refine TQ.v (gF prsfld65_11) ?_
 refine TQ.v (gF prsfld63_1) ?_
 refine TQ.v (gL 0 pcmag3) ?_
 refine TQ.val rfl rfl rfl (gives_build (v := .agg #[.int .i64 a.kind, .int .i64 b.kind]) rfl rfl (fun w => prsbld120_29156 _ _ w)) ?_
 refine TQ.v (gF prsfld65_11) ?_
 refine TQ.v (gF prsfld63_2) ?_
 refine TQ.v (gL 1 pcmag3) ?_
 refine TQ.v (gF prsfld65_11) ?_
 refine TQ.v (gF prsfld63_2) ?_
 refine TQ.v (gL 0 pcmag3) ?_
 refine TQ.val rfl rfl rfl (gives_build (v := .agg #[.int .i64 a.code, .int .i64 b.code]) rfl rfl (fun w => prsbld120_29156 _ _ w)) ?_
 refine TQ.v (gF prsfld65_11) ?_
 refine TQ.v (gF prsfld63_3) ?_
 refine TQ.v (gL 1 pcmag3) ?_
 refine TQ.v (gF prsfld65_11) ?_
 refine TQ.v (gF prsfld63_3) ?_
 refine TQ.v (gL 0 pcmag3) ?_
 refine TQ.val rfl rfl rfl (gives_build (v := .agg #[.int .i64 a.left, .int .i64 b.left]) rfl rfl (fun w => prsbld120_29156 _ _ w)) ?_
 refine TQ.v (gF prsfld65_11) ?_
 refine TQ.v (gF prsfld63_4) ?_
 refine TQ.v (gL 1 pcmag3) ?_
 refine TQ.v (gF prsfld65_11) ?_
 refine TQ.v (gF prsfld63_4) ?_
 refine TQ.v (gL 0 pcmag3) ?_
 refine TQ.val rfl rfl rfl (gives_build (v := .agg #[.int .i64 a.id, .int .i64 b.id]) rfl rfl (fun w => prsbld120_29156 _ _ w)) ?_
 refine TQ.val rfl rfl rfl (gives_build (v := .agg ((flat pc2 (pairs16 a b))).toArray) rfl rfl (fun w => prsbld201_52662 _ _ _ _ _ _ _ _ _ _ _ _ _ _ _ _ _ _ _ _ _ _ _ _ _ _ _ _ _ _ _ _ w)) ?_
 refine TQ.val rfl rfl rfl (gives_move rfl rfl) ?_
 refine TQ.fin ?_
 refine zT (zB (TC.loop_ (α := {i : Nat // i ≤ 16 ∧ orP ((pairs16 a b).drop i) = orP (pairs16 a b)}) (fun y => [(2, .pointer (some ⟨g2, 0, none⟩)), (3, .pointer (some ⟨g3, 0, none⟩)), (105, .agg ((flat pc2 (pairs16 a b))).toArray), (4, .int .i64 0), (106, .int .i64 ((y.1 : Nat) : Int))]) (fun y => Pm w [.blk g3 65 b.cells, .blk g2 65 a.cells]) (fun y => 16 - y.1) (⟨0, Nat.zero_le _, rfl⟩) ⟨rfl, rfl, rfl, rfl, rfl, trivial⟩ (fun w1 hw => hw) ?_))
 rintro ⟨i, hi, ho⟩
 try dsimp only at hi ho ⊢
 refine zSG ?_
 refine TL.sp bin_lss (fun q107 => ?_) (fun q107 => ?_)
 ·refine zET (zS (zc (zk (zT (zS (zB (zSG ?_)))))))
  obtain ⟨x108, hx108⟩ : ∃ x, (pairs16 a b)[i]? = some x := ⟨_, List.getElem?_eq_getElem (by show i < 16; omega)⟩
  have hdr : (pairs16 a b).drop i = x108 :: (pairs16 a b).drop (i + 1) := by obtain ⟨hlt, e⟩ := List.getElem?_eq_some_iff.1 hx108; rw [List.drop_eq_getElem_cons hlt, e]
  refine TL.val rfl rfl rfl (gives_index (v := .agg (pc2 x108).toArray) rfl rfl rfl (fun w => index_flat pc2_cel Tryz.underlying201 prsag120 prssz120 hx108 rfl rfl w)) ?_
  refine TL.pnew rfl rfl rfl (exec_alloc (cs := [.int .i64 0, .int .i64 0]) rfl prszv120 rfl) (fun g6 => ?_)
  refine TL.pstore (k := 0) (vs := (pc2 x108)) rfl rfl rfl rfl rfl rfl rfl prssz120 (pc2_cel.one _) (by show 2 ≤ 2; decide) (L' := [.blk g6 120 (pc2 x108), .blk g3 65 b.cells, .blk g2 65 a.cells]) rfl ?_
  refine zET (zSG ?_)
  refine TL.val rfl rfl rfl (gives_at (v := .pointer (some ⟨g6, 0, none⟩)) rfl rfl rfl (fun w => at_arr Tryz.underlying120 pcmsz3 g6 0 _ 0 (by decide) w)) ?_
  refine TL.v (gL 0 pcmag3) ?_
  refine TL.val rfl rfl rfl (gives_at (v := .pointer (some ⟨g6, 1, none⟩)) rfl rfl rfl (fun w => at_arr Tryz.underlying120 pcmsz3 g6 0 _ 1 (by decide) w)) ?_
  refine TL.v (gL 0 pcmag3) ?_
  refine TL.sp bin_neq (fun q113 => ?_) (fun q113 => ?_)
  ·refine zET (zc (zSG ?_))
   refine TL.val rfl rfl rfl (gives_at (v := .pointer (some ⟨g6, 0, none⟩)) rfl rfl rfl (fun w => at_arr Tryz.underlying120 pcmsz3 g6 0 _ 0 (by decide) w)) ?_
   refine TL.v (gL 0 pcmag3) ?_
   refine TL.val rfl rfl rfl (gives_at (v := .pointer (some ⟨g6, 1, none⟩)) rfl rfl rfl (fun w => at_arr Tryz.underlying120 pcmsz3 g6 0 _ 1 (by decide) w)) ?_
   refine TL.v (gL 0 pcmag3) ?_
   refine TL.pcall1 (r := .int .i64 (cmpI x108.1 x108.2)) rfl rfl rfl rfl rfl Tryz.func178 (by decide) rfl (fun w1 hw => still_bel (less_any x108.1 x108.2 w1)) ?_
   refine TL.as_ ?_
   refine zET (zr (zRR (zR (zRR ?_))))
   exact ret_tmp Tryz.results147 rfl (fun w1 hw => ⟨by rw [cmpRs_pairs2 a b (by rw [← ho, hdr, orP_cons, if_neg (fun h => q113 (cmpI_zero.1 h))]; exact fun h => q113 (cmpI_zero.1 h)), ← ho, hdr, orP_cons, if_neg (fun h => q113 (cmpI_zero.1 h))], hw.bel⟩)
  have ho2 : orP ((pairs16 a b).drop (i + 1)) = orP (pairs16 a b) := by rw [← ho, hdr, orP_cons, if_pos (cmpI_zero.2 (Decidable.not_not.1 q113))]
  refine zET (zd (zk (zN (zT (zG (TL.v (gD ((i + 1 : Nat) : Int)) ?_))))))
  refine TL.mv ?_
  refine zE ?_
  exact TX.round (⟨i + 1, by omega, ho2⟩) (by show 16 - (i + 1) < 16 - i; omega) ⟨rfl, rfl, rfl, rfl, rfl, trivial⟩ (fun w1 hw => hw.pick [1, 2] (by decide) rfl)
 refine zET (zS (zd (zx (zX (zX (zM (zT (zSG (TL.v (gF prsfld65_11) ?_)))))))))
 refine TL.v (gF prsfld63_5) ?_
 refine TL.v (gL 1 pcmag3) ?_
 refine TL.v (gF prsfld65_11) ?_
 refine TL.v (gF prsfld63_5) ?_
 refine TL.v (gL 0 pcmag3) ?_
 refine TL.pcall1 (r := .int .i64 (cmpI a.quo b.quo)) rfl rfl rfl rfl rfl Tryz.func178 (by decide) rfl (fun w1 hw => still_bel (less_any a.quo b.quo w1)) ?_
 refine TL.as_ ?_
 refine zET (zr ?_)
 exact ret_tmp Tryz.results147 rfl (fun w1 hw => ⟨by rw [cmpRs_pairs3 a b (by rw [← ho, List.drop_of_length_le (by show 16 ≤ i; omega)]; rfl)], hw.bel⟩)
theorem idn_any (r : Rs) (w : World) :
  Calls Tryz.prog 104 #[.agg r.cells.toArray] w fun e w' => e = .returned (.agg (idnR r).cells.toArray) ∧ Below w.heap.size w w' := by
 refine begin_ (vs := [.agg r.cells.toArray]) Tryz.func104 rfl rfl rfl ?_ (Pm.start w)
 refine zSG ?_
 refine TL.pnew rfl rfl rfl (exec_box (cs := r.cells) rfl rfl rfl) (fun g1 => ?_)
 refine TL.pnew rfl rfl rfl (exec_alloc (cs := [.int .i64 0, .int .i64 0, .int .i64 0]) rfl prszv73 rfl) (fun g2 => ?_)
 refine zET (zSG (TL.v (gF prsfld65_0) ?_))
 refine TL.v (gL 1 pcmag3) ?_
 refine TL.v (gF prsfld65_1) ?_
 refine TL.v (gL 1 pcmag3) ?_
 refine TL.v (gF prsfld65_2) ?_
 refine TL.v (gL 1 pcmag3) ?_
 refine TL.val rfl rfl rfl (gives_build (v := .agg #[.int .i64 r.v, .int .i64 r.run, .int .i64 r.num]) rfl rfl (fun w => prsbld73_57318 _ _ _ w)) ?_
 refine TL.pstore (k := 0) (vs := [.int .i64 r.v, .int .i64 r.run, .int .i64 r.num]) rfl rfl rfl rfl rfl rfl rfl prssz73 prsone_i64i64i64 (by show 3 ≤ 3; decide) rfl ?_
 refine zET (zr ?_)
 exact pm_ret_cell (k := 0) Tryz.results104 rfl rfl Tryz.underlying73 rfl rfl (fun w1 hw => ⟨rfl, hw.bel⟩)
theorem trc_any (r : Rs) (w : World) :
  Calls Tryz.prog 135 #[.agg r.cells.toArray] w fun e w' => e = .returned (.agg (trcR r).cells.toArray) ∧ Below w.heap.size w w' := by
 refine begin_ (vs := [.agg r.cells.toArray]) Tryz.func135 rfl rfl rfl ?_ (Pm.start w)
 refine zSG ?_
 refine TL.pnew rfl rfl rfl (exec_box (cs := r.cells) rfl rfl rfl) (fun g1 => ?_)
 refine TL.pnew rfl rfl rfl (exec_alloc (cs := [.int .i64 0, .int .u32 0, .int .i64 0]) rfl prszv32 rfl) (fun g2 => ?_)
 refine zET (zSG (TL.v (gF prsfld65_0) ?_))
 refine TL.v (gL 1 pcmag3) ?_
 refine TL.v (gF prsfld65_4) ?_
 refine TL.v (gL 1 pcmag30) ?_
 refine TL.v (gF prsfld65_5) ?_
 refine TL.v (gL 1 pcmag3) ?_
 refine TL.val rfl rfl rfl (gives_build (v := .agg #[.int .i64 r.v, .int .u32 r.dst, .int .i64 r.proto]) rfl rfl (fun w => prsbld32_57312 _ _ _ w)) ?_
 refine TL.pstore (k := 0) (vs := [.int .i64 r.v, .int .u32 r.dst, .int .i64 r.proto]) rfl rfl rfl rfl rfl rfl rfl prssz32 prsone_i64u32i64 (by show 3 ≤ 3; decide) rfl ?_
 refine zET (zr ?_)
 exact pm_ret_cell (k := 0) Tryz.results135 rfl rfl Tryz.underlying32 rfl rfl (fun w1 hw => ⟨rfl, hw.bel⟩)
theorem ridn_any (r : Rs) (w : World) :
  Calls Tryz.prog 47 #[.agg r.cells.toArray] w fun e w' => e = .returned (.agg (idnR r).cells.toArray) ∧ Below w.heap.size w w' := by
 refine begin_ (vs := [.agg r.cells.toArray]) Tryz.func47 rfl rfl rfl ?_ (Pm.start w)
 refine zSG ?_
 refine TL.pnew rfl rfl rfl (exec_box (cs := r.cells) rfl rfl rfl) (fun g1 => ?_)
 refine TL.pnew rfl rfl rfl (exec_alloc (cs := [.int .i64 0, .int .i64 0, .int .i64 0]) rfl prszv73 rfl) (fun g2 => ?_)
 refine zET (zSG (TL.v (gF prsfld65_0) ?_))
 refine TL.v (gL 1 pcmag3) ?_
 refine TL.v (gF prsfld65_1) ?_
 refine TL.v (gL 1 pcmag3) ?_
 refine TL.v (gF prsfld65_2) ?_
 refine TL.v (gL 1 pcmag3) ?_
 refine TL.val rfl rfl rfl (gives_build (v := .agg #[.int .i64 r.v, .int .i64 r.run, .int .i64 r.num]) rfl rfl (fun w => prsbld73_57318 _ _ _ w)) ?_
 refine TL.pstore (k := 0) (vs := [.int .i64 r.v, .int .i64 r.run, .int .i64 r.num]) rfl rfl rfl rfl rfl rfl rfl prssz73 prsone_i64i64i64 (by show 3 ≤ 3; decide) rfl ?_
 refine zET (zr ?_)
 exact pm_ret_cell (k := 0) Tryz.results47 rfl rfl Tryz.underlying73 rfl rfl (fun w1 hw => ⟨rfl, hw.bel⟩)
theorem rtrc_any (r : Rs) (w : World) :
  Calls Tryz.prog 69 #[.agg r.cells.toArray] w fun e w' => e = .returned (.agg (trcR r).cells.toArray) ∧ Below w.heap.size w w' := by
 refine begin_ (vs := [.agg r.cells.toArray]) Tryz.func69 rfl rfl rfl ?_ (Pm.start w)
 refine zSG ?_
 refine TL.pnew rfl rfl rfl (exec_box (cs := r.cells) rfl rfl rfl) (fun g1 => ?_)
 refine TL.pnew rfl rfl rfl (exec_alloc (cs := [.int .i64 0, .int .u32 0, .int .i64 0]) rfl prszv32 rfl) (fun g2 => ?_)
 refine zET (zSG (TL.v (gF prsfld65_0) ?_))
 refine TL.v (gL 1 pcmag3) ?_
 refine TL.v (gF prsfld65_4) ?_
 refine TL.v (gL 1 pcmag30) ?_
 refine TL.v (gF prsfld65_5) ?_
 refine TL.v (gL 1 pcmag3) ?_
 refine TL.val rfl rfl rfl (gives_build (v := .agg #[.int .i64 r.v, .int .u32 r.dst, .int .i64 r.proto]) rfl rfl (fun w => prsbld32_57312 _ _ _ w)) ?_
 refine TL.pstore (k := 0) (vs := [.int .i64 r.v, .int .u32 r.dst, .int .i64 r.proto]) rfl rfl rfl rfl rfl rfl rfl prssz32 prsone_i64u32i64 (by show 3 ≤ 3; decide) rfl ?_
 refine zET (zr ?_)
 exact pm_ret_cell (k := 0) Tryz.results69 rfl rfl Tryz.underlying32 rfl rfl (fun w1 hw => ⟨rfl, hw.bel⟩)
set_option maxRecDepth 20000
structure Rp where
 kind : Int
 v : Int
 dst : Int
 proto : Int
 flow : Int
 ttl : Int
 at_ : Int
 prov : Int
deriving DecidableEq
def Rp.cells (r : Rp) : List Value := [.int .i64 r.kind, .int .i64 r.v, .int .u32 r.dst, .int .i64 r.proto, .int .i64 r.flow, .int .i64 r.ttl, .int .i64 r.at_, .int .i64 r.prov]
theorem rp_cel : Cel Rp.cells 8 := ⟨fun _ => rfl, fun r u hu => by
 simp only [Rp.cells, List.mem_cons, List.not_mem_nil, or_false] at hu
 rcases hu with rfl | rfl | rfl | rfl | rfl | rfl | rfl | rfl <;> rfl⟩
structure Ru where
 los : Int
 gro : Int
 prb : Int
deriving DecidableEq
def Ru.cells (r : Ru) : List Value := [.int .i64 r.los, .int .i64 r.gro, .int .i64 r.prb]
theorem ru_cel : Cel Ru.cells 3 := ⟨fun _ => rfl, fun r u hu => by
 simp only [Ru.cells, List.mem_cons, List.not_mem_nil, or_false] at hu
 rcases hu with rfl | rfl | rfl <;> rfl⟩
def vldRu (u : Ru) : Bool := decide (1 ≤ u.los ∧ u.los ≤ 64 ∧ 1 ≤ u.prb ∧ u.prb ≤ 64 ∧ 1 ≤ u.gro ∧ u.gro ≤ 1125899906842624)
def Rp.rs (p : Rp) : Rs := ⟨p.v, 0, 0, 0, p.dst, p.proto, p.flow, 1, false, false, 0, 0, 0, 0, 0, 0, 0⟩
def vldRp (p : Rp) : Bool := vldRs p.rs && decide (0 ≤ p.ttl ∧ p.ttl ≤ 255 ∧ 0 ≤ p.at_ ∧ p.at_ ≤ 2251799813685248 ∧ 0 ≤ p.prov ∧ p.prov ≤ 2147483647 ∧ ((p.kind = 1 ∧ p.ttl = 0 ∧ p.prov = 0) ∨ (p.kind = 2 ∧ 0 < p.ttl ∧ 0 < p.prov) ∨ (p.kind = 3 ∧ 0 < p.ttl ∧ p.prov = 0)))
def Rp.keys (p : Rp) : List Int := [p.kind, p.v, p.dst, p.proto, p.flow, p.ttl, p.at_, p.prov]
def cmpRp (x y : Rp) : Int := orI [cmpI x.kind y.kind, cmpI x.v y.v, cmpI x.dst y.dst, cmpI x.proto y.proto, cmpI x.flow y.flow, cmpI x.ttl y.ttl, cmpI x.at_ y.at_, cmpI x.prov y.prov]
def Rp.Ok (p : Rp) : Prop := 0 ≤ p.dst ∧ p.dst ≤ 4294967295
theorem gives_minI {P : Program} {N : Fr} {E : Env} {o : Oper} {I : World → Prop} {x y : Operand} {ts : Array TypeId} {a b : Int} (ho : o.op = .call { callee := .builtin .min, args := #[x, y], argTypes := ts }) (hx : ev E x = some (.int .i64 a)) (hy : ev E y = some (.int .i64 b)) : Gives P N o E I (.int .i64 (min a b)) := fun ac w ha _ => by
 unfold execOp; rw [ho]
 simp only [resolve, invoke, builtin, Sem.run_bind, Sem.run_pure, Result.andThen_ok, List.map_toArray, List.map_cons, List.map_nil, ha.eval hx, ha.eval hy]
 simp [go_sem, Builtin.min_, Builtin.min2]
 try omega
theorem arpfld28_0 : FA Tryz.prog 28 0 0 := fun g o w => by kernel_rfl
theorem arpfld28_2 : FA Tryz.prog 28 2 2 := fun g o w => by kernel_rfl
theorem arpfld28_1 : FA Tryz.prog 28 1 1 := fun g o w => by kernel_rfl
theorem arpfld34_1 : FA Tryz.prog 34 1 1 := fun g o w => by kernel_rfl
theorem arpfld34_2 : FA Tryz.prog 34 2 4 := fun g o w => by kernel_rfl
theorem arpbld65_51257 (a0_0 : Int) (a4_0 : Int) (a5_0 : Int) (a6_0 : Int) (a7_0 : Int) (w : World) : (Instr.build 65 #[(0, .int .i64 a0_0), (4, .int .u32 a4_0), (5, .int .i64 a5_0), (6, .int .i64 a6_0), (7, .int .i64 a7_0)]).run Tryz.prog w = .ok (.agg #[.int .i64 a0_0, .int .i64 0, .int .i64 0, .int .i64 0, .int .u32 a4_0, .int .i64 a5_0, .int .i64 a6_0, .int .i64 a7_0, .bool false, .bool false, .int .i64 0, .int .u32 0, .int .i64 0, .int .i64 0, .int .i64 0, .int .i64 0, .int .i64 0]) w := by kernel_rfl
theorem arpzv65 (w : World) : (zeroValue 65).run Tryz.prog w = .ok (.agg #[.int .i64 0, .int .i64 0, .int .i64 0, .int .i64 0, .int .u32 0, .int .i64 0, .int .i64 0, .int .i64 0, .bool false, .bool false, .int .i64 0, .int .u32 0, .int .i64 0, .int .i64 0, .int .i64 0, .int .i64 0, .int .i64 0]) w := rfl
theorem arpone_i64i64i64i64u32i64i64i64bbi64u32i64i64i64i64i64 {a0 : Int} {a1 : Int} {a2 : Int} {a3 : Int} {a4 : Int} {a5 : Int} {a6 : Int} {a7 : Int} {a8 : Bool} {a9 : Bool} {a10 : Int} {a11 : Int} {a12 : Int} {a13 : Int} {a14 : Int} {a15 : Int} {a16 : Int} : ∀ u ∈ [(.int .i64 a0 : Value), .int .i64 a1, .int .i64 a2, .int .i64 a3, .int .u32 a4, .int .i64 a5, .int .i64 a6, .int .i64 a7, .bool a8, .bool a9, .int .i64 a10, .int .u32 a11, .int .i64 a12, .int .i64 a13, .int .i64 a14, .int .i64 a15, .int .i64 a16], u.oneCell' = true := by
 intro u hu
 simp only [List.mem_cons, List.not_mem_nil, or_false] at hu
 rcases hu with rfl | rfl | rfl | rfl | rfl | rfl | rfl | rfl | rfl | rfl | rfl | rfl | rfl | rfl | rfl | rfl | rfl <;> rfl
theorem arpfld34_3 : FA Tryz.prog 34 3 5 := fun g o w => by kernel_rfl
theorem arpfld34_4 : FA Tryz.prog 34 4 6 := fun g o w => by kernel_rfl
theorem arpfld34_5 : FA Tryz.prog 34 5 7 := fun g o w => by kernel_rfl
theorem arpfld34_0 : FA Tryz.prog 34 0 0 := fun g o w => by kernel_rfl
theorem arpbs106_8_10220 (a0_0 : Int) (a1_0 : Int) (a2_0 : Int) (a3_0 : Int) (a4_0 : Int) (a5_0 : Int) (a6_0 : Int) (a7_0 : Int) (w : World) : (Instr.buildSlice 106 8 #[(0, .int .i64 a0_0), (1, .int .i64 a1_0), (2, .int .i64 a2_0), (3, .int .i64 a3_0), (4, .int .i64 a4_0), (5, .int .i64 a5_0), (6, .int .i64 a6_0), (7, .int .i64 a7_0)]).run Tryz.prog w = .ok (.slice (some ⟨w.heap.size, 0, none⟩) 8 8) (w.alloc (.cells [.int .i64 a0_0, .int .i64 a1_0, .int .i64 a2_0, .int .i64 a3_0, .int .i64 a4_0, .int .i64 a5_0, .int .i64 a6_0, .int .i64 a7_0].toArray 3)) := by kernel_rfl
theorem vldRu_any (u : Ru) (w : World) :
  Calls Tryz.prog 24 #[.agg u.cells.toArray] w fun e w' => e = .returned (.bool (vldRu u)) ∧ Below w.heap.size w w' := by
 refine begin_ (vs := [.agg u.cells.toArray]) Tryz.func24 rfl rfl rfl ?_ (Pm.start w)
 refine zSG ?_
 refine TL.pnew rfl rfl rfl (exec_box (cs := u.cells) rfl rfl rfl) (fun g1 => ?_)
 refine TL.as_ ?_
 refine zET (zSG (TL.v (gF arpfld28_0) ?_))
 refine TL.v (gL 0 pcmag3) ?_
 refine TL.v (gF arpfld28_2) ?_
 refine TL.v (gL 0 pcmag3) ?_
 refine TL.val rfl rfl rfl (gives_minI rfl rfl rfl) ?_
 refine TL.sp bin_geq (fun q8 => ?_) (fun q8 => ?_)
 ·refine TL.mv ?_
  refine TL.ov (gF arpfld28_0) ?_
  refine TL.ov (gL 0 pcmag3) ?_
  refine TL.ov (gF arpfld28_2) ?_
  refine TL.ov (gL 0 pcmag3) ?_
  refine TL.gu ?_
  refine TL.val rfl rfl rfl (gives_maxI rfl rfl rfl) ?_
  refine TL.gu ?_
  refine TL.sp bin_leq (fun q15 => ?_) (fun q15 => ?_)
  ·refine TL.rn 2 rfl (TL.ov (gF arpfld28_1) ?_)
   refine TL.ov (gL 0 pcmag3) ?_
   refine TL.gu ?_
   refine TL.sp bin_geq (fun q20 => ?_) (fun q20 => ?_)
   ·refine TL.rn 2 rfl (TL.ov (gF arpfld28_1) ?_)
    refine TL.ov (gL 0 pcmag3) ?_
    refine TL.gu ?_
    refine TL.sp bin_leq (fun q25 => ?_) (fun q25 => ?_)
    ·refine TL.rn 2 rfl (zET (zr ?_))
     have hE : vldRu u = true := by unfold vldRu; exact decide_eq_true (by omega)
     exact ret_tmp Tryz.results24 rfl (fun w1 hw => ⟨by rw [hE], hw.bel⟩)
    refine TL.rn 2 rfl (zET (zr ?_))
    have hE : vldRu u = false := by unfold vldRu; exact decide_eq_false (by omega)
    exact ret_tmp Tryz.results24 rfl (fun w1 hw => ⟨by rw [hE], hw.bel⟩)
   refine TL.rn 7 rfl (zET (zr ?_))
   have hE : vldRu u = false := by unfold vldRu; exact decide_eq_false (by omega)
   exact ret_tmp Tryz.results24 rfl (fun w1 hw => ⟨by rw [hE], hw.bel⟩)
  refine TL.rn 12 rfl (zET (zr ?_))
  have hE : vldRu u = false := by unfold vldRu; exact decide_eq_false (by omega)
  exact ret_tmp Tryz.results24 rfl (fun w1 hw => ⟨by rw [hE], hw.bel⟩)
 refine TL.rn 19 rfl (zET (zr ?_))
 have hE : vldRu u = false := by unfold vldRu; exact decide_eq_false (by omega)
 exact ret_tmp Tryz.results24 rfl (fun w1 hw => ⟨by rw [hE], hw.bel⟩)
theorem vldRp_any (p : Rp) (w : World) :
  Calls Tryz.prog 27 #[.agg p.cells.toArray] w fun e w' => e = .returned (.bool (vldRp p)) ∧ Below w.heap.size w w' := by
 refine begin_ (vs := [.agg p.cells.toArray]) Tryz.func27 rfl rfl rfl ?_ (Pm.start w)
 refine zSG ?_
 refine TL.pnew rfl rfl rfl (exec_box (cs := p.cells) rfl rfl rfl) (fun g1 => ?_)
 refine TL.as_ ?_
 refine zET (zSG (TL.v (gF arpfld34_1) ?_))
 refine TL.v (gF pcmfld32_0) ?_
 refine TL.v (gL 0 pcmag3) ?_
 refine TL.v (gF arpfld34_1) ?_
 refine TL.v (gF pcmfld32_1) ?_
 refine TL.v (gL 0 pcmag30) ?_
 refine TL.v (gF arpfld34_1) ?_
 refine TL.v (gF pcmfld32_2) ?_
 refine TL.v (gL 0 pcmag3) ?_
 refine TL.v (gF arpfld34_2) ?_
 refine TL.v (gL 0 pcmag3) ?_
 refine TL.val rfl rfl rfl (gives_build (v := .agg #[.int .i64 p.v, .int .i64 0, .int .i64 0, .int .i64 0, .int .u32 p.dst, .int .i64 p.proto, .int .i64 p.flow, .int .i64 1, .bool false, .bool false, .int .i64 0, .int .u32 0, .int .i64 0, .int .i64 0, .int .i64 0, .int .i64 0, .int .i64 0]) rfl rfl (fun w => arpbld65_51257 _ _ _ _ _ w)) ?_
 refine TL.pnew rfl rfl rfl (exec_alloc (cs := [.int .i64 0, .int .i64 0, .int .i64 0, .int .i64 0, .int .u32 0, .int .i64 0, .int .i64 0, .int .i64 0, .bool false, .bool false, .int .i64 0, .int .u32 0, .int .i64 0, .int .i64 0, .int .i64 0, .int .i64 0, .int .i64 0]) rfl arpzv65 rfl) (fun g3 => ?_)
 refine TL.pstore (k := 0) (vs := [.int .i64 p.v, .int .i64 0, .int .i64 0, .int .i64 0, .int .u32 p.dst, .int .i64 p.proto, .int .i64 p.flow, .int .i64 1, .bool false, .bool false, .int .i64 0, .int .u32 0, .int .i64 0, .int .i64 0, .int .i64 0, .int .i64 0, .int .i64 0]) rfl rfl rfl rfl rfl rfl rfl prssz65 arpone_i64i64i64i64u32i64i64i64bbi64u32i64i64i64i64i64 (by show 17 ≤ 17; decide) rfl ?_
 refine zET (zS (zSG (TL.v (gV 0 (.agg #[.int .i64 p.v, .int .i64 0, .int .i64 0, .int .i64 0, .int .u32 p.dst, .int .i64 p.proto, .int .i64 p.flow, .int .i64 1, .bool false, .bool false, .int .i64 0, .int .u32 0, .int .i64 0, .int .i64 0, .int .i64 0, .int .i64 0, .int .i64 0]) prsag65 prssz65) ?_)))
 refine TL.callsplit rfl rfl rfl rfl rfl Tryz.func70 (by decide) rfl (fun w1 hw => vldRs_any (⟨p.v, 0, 0, 0, p.dst, p.proto, p.flow, 1, false, false, 0, 0, 0, 0, 0, 0, 0⟩ : Rs) w1) (fun h18 => ?_) (fun h18 => ?_)
 ·refine TL.rn 2 rfl (TL.ov (gF arpfld34_3) ?_)
  refine TL.ov (gL 1 pcmag3) ?_
  refine TL.gu ?_
  refine TL.sp bin_lss (fun q23 => ?_) (fun q23 => ?_)
  ·refine TL.rn 26 rfl (zET (zc (zSG (TL.as_ ?_))))
   refine zET (zr (zR ?_))
   have hE : vldRp p = false := by unfold vldRp; rw [show vldRs p.rs = true from h18, Bool.true_and]; exact decide_eq_false (by omega)
   exact ret_tmp Tryz.results27 rfl (fun w1 hw => ⟨by rw [hE], hw.bel⟩)
  refine TL.rn 2 rfl (TL.ov (gF arpfld34_3) ?_)
  refine TL.ov (gL 1 pcmag3) ?_
  refine TL.gu ?_
  refine TL.sp bin_gtr (fun q28 => ?_) (fun q28 => ?_)
  ·refine TL.rn 21 rfl (zET (zc (zSG (TL.as_ ?_))))
   refine zET (zr (zR ?_))
   have hE : vldRp p = false := by unfold vldRp; rw [show vldRs p.rs = true from h18, Bool.true_and]; exact decide_eq_false (by omega)
   exact ret_tmp Tryz.results27 rfl (fun w1 hw => ⟨by rw [hE], hw.bel⟩)
  refine TL.rn 2 rfl (TL.ov (gF arpfld34_4) ?_)
  refine TL.ov (gL 1 pcmag3) ?_
  refine TL.gu ?_
  refine TL.sp bin_lss (fun q33 => ?_) (fun q33 => ?_)
  ·refine TL.rn 16 rfl (zET (zc (zSG (TL.as_ ?_))))
   refine zET (zr (zR ?_))
   have hE : vldRp p = false := by unfold vldRp; rw [show vldRs p.rs = true from h18, Bool.true_and]; exact decide_eq_false (by omega)
   exact ret_tmp Tryz.results27 rfl (fun w1 hw => ⟨by rw [hE], hw.bel⟩)
  refine TL.rn 2 rfl (TL.ov (gF arpfld34_4) ?_)
  refine TL.ov (gL 1 pcmag3) ?_
  refine TL.gu ?_
  refine TL.sp bin_gtr (fun q38 => ?_) (fun q38 => ?_)
  ·refine TL.rn 11 rfl (zET (zc (zSG (TL.as_ ?_))))
   refine zET (zr (zR ?_))
   have hE : vldRp p = false := by unfold vldRp; rw [show vldRs p.rs = true from h18, Bool.true_and]; exact decide_eq_false (by omega)
   exact ret_tmp Tryz.results27 rfl (fun w1 hw => ⟨by rw [hE], hw.bel⟩)
  refine TL.rn 2 rfl (TL.ov (gF arpfld34_5) ?_)
  refine TL.ov (gL 1 pcmag3) ?_
  refine TL.gu ?_
  refine TL.sp bin_lss (fun q43 => ?_) (fun q43 => ?_)
  ·refine TL.rn 6 rfl (zET (zc (zSG (TL.as_ ?_))))
   refine zET (zr (zR ?_))
   have hE : vldRp p = false := by unfold vldRp; rw [show vldRs p.rs = true from h18, Bool.true_and]; exact decide_eq_false (by omega)
   exact ret_tmp Tryz.results27 rfl (fun w1 hw => ⟨by rw [hE], hw.bel⟩)
  refine TL.rn 2 rfl (TL.ov (gF arpfld34_5) ?_)
  refine TL.ov (gL 1 pcmag3) ?_
  refine TL.gu ?_
  refine TL.sp bin_gtr (fun q48 => ?_) (fun q48 => ?_)
  ·refine TL.pk ?_
   refine zET (zc (zSG (TL.as_ ?_)))
   refine zET (zr (zR ?_))
   have hE : vldRp p = false := by unfold vldRp; rw [show vldRs p.rs = true from h18, Bool.true_and]; exact decide_eq_false (by omega)
   exact ret_tmp Tryz.results27 rfl (fun w1 hw => ⟨by rw [hE], hw.bel⟩)
  refine TL.pk ?_
  refine zET (zd (zk (zT (zSG (TL.v (gF arpfld34_3) ?_)))))
  refine TL.v (gL 1 pcmag3) ?_
  refine TL.sp bin_gtr (fun q52 => ?_) (fun q52 => ?_)
  ·refine TL.as_ ?_
   refine zET (zS (zSG (TL.v (gF arpfld34_0) ?_)))
   refine TL.v (gL 1 pcmag3) ?_
   refine zET (zB (zS (zB (zS (zB (zS (zB (zS (zS (zSG ?_))))))))))
   refine TL.sp bin_eql (fun q56 => ?_) (fun q56 => ?_)
   ·refine TL.as_ ?_
    refine zET (zc (zx (zX (zX (zM (zT (zG (TL.v (gF arpfld34_3) ?_))))))))
    refine TL.v (gL 1 pcmag3) ?_
    refine TL.sp bin_eql (fun q63 => ?_) (fun q63 => ?_)
    ·refine TL.as_ ?_
     refine zE (zN (zT (zS (zSG (TL.rn 2 rfl (TL.ov (gF arpfld34_5) ?_))))))
     refine TL.ov (gL 1 pcmag3) ?_
     refine TL.gu ?_
     refine TL.sp bin_eql (fun q68 => ?_) (fun q68 => ?_)
     ·refine TL.rn 2 rfl (zET (zr (zR (zRR (zRR ?_)))))
      have hE : vldRp p = true := by unfold vldRp; rw [show vldRs p.rs = true from h18, Bool.true_and]; exact decide_eq_true (by omega)
      exact ret_tmp Tryz.results27 rfl (fun w1 hw => ⟨by rw [hE], hw.bel⟩)
     refine TL.rn 2 rfl (zET (zr (zR (zRR (zRR ?_)))))
     have hE : vldRp p = false := by unfold vldRp; rw [show vldRs p.rs = true from h18, Bool.true_and]; exact decide_eq_false (by omega)
     exact ret_tmp Tryz.results27 rfl (fun w1 hw => ⟨by rw [hE], hw.bel⟩)
    refine TL.as_ ?_
    refine zE (zN (zT (zS (zSG (TL.rn 7 rfl (zET (zr (zR (zRR (zRR ?_))))))))))
    have hE : vldRp p = false := by unfold vldRp; rw [show vldRs p.rs = true from h18, Bool.true_and]; exact decide_eq_false (by omega)
    exact ret_tmp Tryz.results27 rfl (fun w1 hw => ⟨by rw [hE], hw.bel⟩)
   refine TL.as_ ?_
   refine zET (zd (zk (zT (zS (zSG ?_)))))
   refine TL.sp bin_eql (fun q58 => ?_) (fun q58 => ?_)
   ·refine TL.as_ ?_
    refine zET (zc (zx (zX (zX (zO (zX (zM (zT (zS (zSG (TL.rn 2 rfl (TL.ov (gF arpfld34_5) ?_))))))))))))
    refine TL.ov (gL 1 pcmag3) ?_
    refine TL.gu ?_
    refine TL.sp bin_eql (fun q68 => ?_) (fun q68 => ?_)
    ·refine TL.rn 2 rfl (zET (zr (zR (zRR (zRR ?_)))))
     have hE : vldRp p = true := by unfold vldRp; rw [show vldRs p.rs = true from h18, Bool.true_and]; exact decide_eq_true (by omega)
     exact ret_tmp Tryz.results27 rfl (fun w1 hw => ⟨by rw [hE], hw.bel⟩)
    refine TL.rn 2 rfl (zET (zr (zR (zRR (zRR ?_)))))
    have hE : vldRp p = false := by unfold vldRp; rw [show vldRs p.rs = true from h18, Bool.true_and]; exact decide_eq_false (by omega)
    exact ret_tmp Tryz.results27 rfl (fun w1 hw => ⟨by rw [hE], hw.bel⟩)
   refine TL.as_ ?_
   refine zET (zd (zk (zT (zSG ?_))))
   refine TL.sp bin_eql (fun q60 => ?_) (fun q60 => ?_)
   ·refine TL.as_ ?_
    refine zET (zc (zx (zX (zO (zX (zO (zX (zM (zT (zS (zSG (TL.rn 2 rfl (TL.ov (gF arpfld34_5) ?_)))))))))))))
    refine TL.ov (gL 1 pcmag3) ?_
    refine TL.gu ?_
    refine TL.sp bin_gtr (fun q74 => ?_) (fun q74 => ?_)
    ·refine TL.rn 2 rfl (zET (zr (zR (zRR ?_))))
     have hE : vldRp p = true := by unfold vldRp; rw [show vldRs p.rs = true from h18, Bool.true_and]; exact decide_eq_true (by omega)
     exact ret_tmp Tryz.results27 rfl (fun w1 hw => ⟨by rw [hE], hw.bel⟩)
    refine TL.rn 2 rfl (zET (zr (zR (zRR ?_))))
    have hE : vldRp p = false := by unfold vldRp; rw [show vldRs p.rs = true from h18, Bool.true_and]; exact decide_eq_false (by omega)
    exact ret_tmp Tryz.results27 rfl (fun w1 hw => ⟨by rw [hE], hw.bel⟩)
   refine TL.as_ ?_
   refine zET (zd (zk (zT (zx (zO (zX (zO (zX (zO (zX (zM (zT (zSG (TL.as_ ?_))))))))))))))
   refine zET (zr ?_)
   have hE : vldRp p = false := by unfold vldRp; rw [show vldRs p.rs = true from h18, Bool.true_and]; exact decide_eq_false (by omega)
   exact ret_tmp Tryz.results27 rfl (fun w1 hw => ⟨by rw [hE], hw.bel⟩)
  refine TL.as_ ?_
  refine zET (zS (zSG (TL.v (gF arpfld34_0) ?_)))
  refine TL.v (gL 1 pcmag3) ?_
  refine zET (zB (zS (zB (zS (zB (zS (zB (zS (zS (zSG ?_))))))))))
  refine TL.sp bin_eql (fun q56 => ?_) (fun q56 => ?_)
  ·refine TL.as_ ?_
   refine zET (zc (zx (zX (zX (zM (zT (zG (TL.v (gF arpfld34_3) ?_))))))))
   refine TL.v (gL 1 pcmag3) ?_
   refine TL.sp bin_eql (fun q63 => ?_) (fun q63 => ?_)
   ·refine TL.as_ ?_
    refine zE (zN (zT (zS (zSG (TL.rn 2 rfl (TL.ov (gF arpfld34_5) ?_))))))
    refine TL.ov (gL 1 pcmag3) ?_
    refine TL.gu ?_
    refine TL.sp bin_eql (fun q68 => ?_) (fun q68 => ?_)
    ·refine TL.rn 2 rfl (zET (zr (zR (zRR (zRR ?_)))))
     have hE : vldRp p = true := by unfold vldRp; rw [show vldRs p.rs = true from h18, Bool.true_and]; exact decide_eq_true (by omega)
     exact ret_tmp Tryz.results27 rfl (fun w1 hw => ⟨by rw [hE], hw.bel⟩)
    refine TL.rn 2 rfl (zET (zr (zR (zRR (zRR ?_)))))
    have hE : vldRp p = false := by unfold vldRp; rw [show vldRs p.rs = true from h18, Bool.true_and]; exact decide_eq_false (by omega)
    exact ret_tmp Tryz.results27 rfl (fun w1 hw => ⟨by rw [hE], hw.bel⟩)
   refine TL.as_ ?_
   refine zE (zN (zT (zS (zSG (TL.rn 7 rfl (zET (zr (zR (zRR (zRR ?_))))))))))
   have hE : vldRp p = false := by unfold vldRp; rw [show vldRs p.rs = true from h18, Bool.true_and]; exact decide_eq_false (by omega)
   exact ret_tmp Tryz.results27 rfl (fun w1 hw => ⟨by rw [hE], hw.bel⟩)
  refine TL.as_ ?_
  refine zET (zd (zk (zT (zS (zSG ?_)))))
  refine TL.sp bin_eql (fun q58 => ?_) (fun q58 => ?_)
  ·refine TL.as_ ?_
   refine zET (zc (zx (zX (zX (zO (zX (zM (zT (zS (zSG (TL.rn 7 rfl (zET (zr (zR (zRR (zRR ?_))))))))))))))))
   have hE : vldRp p = false := by unfold vldRp; rw [show vldRs p.rs = true from h18, Bool.true_and]; exact decide_eq_false (by omega)
   exact ret_tmp Tryz.results27 rfl (fun w1 hw => ⟨by rw [hE], hw.bel⟩)
  refine TL.as_ ?_
  refine zET (zd (zk (zT (zSG ?_))))
  refine TL.sp bin_eql (fun q60 => ?_) (fun q60 => ?_)
  ·refine TL.as_ ?_
   refine zET (zc (zx (zX (zO (zX (zO (zX (zM (zT (zS (zSG (TL.rn 7 rfl (zET (zr (zR (zRR ?_))))))))))))))))
   have hE : vldRp p = false := by unfold vldRp; rw [show vldRs p.rs = true from h18, Bool.true_and]; exact decide_eq_false (by omega)
   exact ret_tmp Tryz.results27 rfl (fun w1 hw => ⟨by rw [hE], hw.bel⟩)
  refine TL.as_ ?_
  refine zET (zd (zk (zT (zx (zO (zX (zO (zX (zO (zX (zM (zT (zSG (TL.as_ ?_))))))))))))))
  refine zET (zr ?_)
  have hE : vldRp p = false := by unfold vldRp; rw [show vldRs p.rs = true from h18, Bool.true_and]; exact decide_eq_false (by omega)
  exact ret_tmp Tryz.results27 rfl (fun w1 hw => ⟨by rw [hE], hw.bel⟩)
 refine TL.rn 31 rfl (zET (zc (zSG (TL.as_ ?_))))
 refine zET (zr (zR ?_))
 have hE : vldRp p = false := by unfold vldRp; rw [show vldRs p.rs = false from h18]; rfl
 exact ret_tmp Tryz.results27 rfl (fun w1 hw => ⟨by rw [hE], hw.bel⟩)
theorem cmpRp_any (x y : Rp) (w : World) :
  Calls Tryz.prog 33 #[.agg x.cells.toArray, .agg y.cells.toArray] w fun e w' => e = .returned (.int .i64 (cmpRp x y)) ∧ Below w.heap.size w w' := by
 refine begin_ (vs := [.agg x.cells.toArray, .agg y.cells.toArray]) Tryz.func33 rfl rfl rfl ?_ (Pm.start w)
 refine zSG ?_
 refine TL.pnew rfl rfl rfl (exec_box (cs := x.cells) rfl rfl rfl) (fun g2 => ?_)
 refine TL.pnew rfl rfl rfl (exec_box (cs := y.cells) rfl rfl rfl) (fun g3 => ?_)
 refine TL.as_ ?_
 refine zET (zS (TC.tail 46 (by kernel_rfl) (by kernel_rfl) (fun w hw => hw.drawn _) ?_))
 refine TS.v (gF arpfld34_0) ?_
 refine TS.v (gL 1 pcmag3) ?_
 refine TS.v (gF arpfld34_0) ?_
 refine TS.v (gL 0 pcmag3) ?_
 refine TS.call (r := .int .i64 (cmpI x.kind y.kind)) rfl rfl rfl rfl rfl Tryz.func79 (by decide) rfl (fun w1 hw => cmpI_any x.kind y.kind w1) ?_
 refine TS.v (gF arpfld34_1) ?_
 refine TS.v (gF pcmfld32_0) ?_
 refine TS.v (gL 1 pcmag3) ?_
 refine TS.v (gF arpfld34_1) ?_
 refine TS.v (gF pcmfld32_0) ?_
 refine TS.v (gL 0 pcmag3) ?_
 refine TS.call (r := .int .i64 (cmpI x.v y.v)) rfl rfl rfl rfl rfl Tryz.func79 (by decide) rfl (fun w1 hw => cmpI_any x.v y.v w1) ?_
 refine TS.v (gF arpfld34_1) ?_
 refine TS.v (gF pcmfld32_1) ?_
 refine TS.v (gL 1 pcmag30) ?_
 refine TS.v (gF arpfld34_1) ?_
 refine TS.v (gF pcmfld32_1) ?_
 refine TS.v (gL 0 pcmag30) ?_
 refine TS.call (r := .int .i64 (cmpI x.dst y.dst)) rfl rfl rfl rfl rfl Tryz.func80 (by decide) rfl (fun w1 hw => cmpA_any x.dst y.dst w1) ?_
 refine TS.v (gF arpfld34_1) ?_
 refine TS.v (gF pcmfld32_2) ?_
 refine TS.v (gL 1 pcmag3) ?_
 refine TS.v (gF arpfld34_1) ?_
 refine TS.v (gF pcmfld32_2) ?_
 refine TS.v (gL 0 pcmag3) ?_
 refine TS.call (r := .int .i64 (cmpI x.proto y.proto)) rfl rfl rfl rfl rfl Tryz.func79 (by decide) rfl (fun w1 hw => cmpI_any x.proto y.proto w1) ?_
 refine TS.v (gF arpfld34_2) ?_
 refine TS.v (gL 1 pcmag3) ?_
 refine TS.v (gF arpfld34_2) ?_
 refine TS.v (gL 0 pcmag3) ?_
 refine TS.call (r := .int .i64 (cmpI x.flow y.flow)) rfl rfl rfl rfl rfl Tryz.func79 (by decide) rfl (fun w1 hw => cmpI_any x.flow y.flow w1) ?_
 refine TS.v (gF arpfld34_3) ?_
 refine TS.v (gL 1 pcmag3) ?_
 refine TS.v (gF arpfld34_3) ?_
 refine TS.v (gL 0 pcmag3) ?_
 refine TS.call (r := .int .i64 (cmpI x.ttl y.ttl)) rfl rfl rfl rfl rfl Tryz.func79 (by decide) rfl (fun w1 hw => cmpI_any x.ttl y.ttl w1) ?_
 refine TS.v (gF arpfld34_4) ?_
 refine TS.v (gL 1 pcmag3) ?_
 refine TS.v (gF arpfld34_4) ?_
 refine TS.v (gL 0 pcmag3) ?_
 refine TS.call (r := .int .i64 (cmpI x.at_ y.at_)) rfl rfl rfl rfl rfl Tryz.func79 (by decide) rfl (fun w1 hw => cmpI_any x.at_ y.at_ w1) ?_
 refine TS.v (gF arpfld34_5) ?_
 refine TS.v (gL 1 pcmag3) ?_
 refine TS.v (gF arpfld34_5) ?_
 refine TS.v (gL 0 pcmag3) ?_
 refine TS.call (r := .int .i64 (cmpI x.prov y.prov)) rfl rfl rfl rfl rfl Tryz.func79 (by decide) rfl (fun w1 hw => cmpI_any x.prov y.prov w1) ?_
 refine TS.end_ ?_
 refine TL.prowS (e := 3) (size := 1) (cs := flat (ic .i64) [cmpI x.kind y.kind, cmpI x.v y.v, cmpI x.dst y.dst, cmpI x.proto y.proto, cmpI x.flow y.flow, cmpI x.ttl y.ttl, cmpI x.at_ y.at_, cmpI x.prov y.prov]) rfl rfl rfl rfl rfl (fun w => arpbs106_8_10220 _ _ _ _ _ _ _ _ w) (by decide) rfl (fun g51 => ?_)
 refine TL.pcall1 (r := .int .i64 (orI [cmpI x.kind y.kind, cmpI x.v y.v, cmpI x.dst y.dst, cmpI x.proto y.proto, cmpI x.flow y.flow, cmpI x.ttl y.ttl, cmpI x.at_ y.at_, cmpI x.prov y.prov])) rfl rfl rfl rfl rfl Tryz.func78 (by decide) rfl (fun w1 hw => orI_any (some ⟨g51, 0, none⟩) 8 8 ([cmpI x.kind y.kind, cmpI x.v y.v, cmpI x.dst y.dst, cmpI x.proto y.proto, cmpI x.flow y.flow, cmpI x.ttl y.ttl, cmpI x.at_ y.at_, cmpI x.prov y.prov]) w1 (pm_rd hw (k := 0) rfl) rfl (by show 8 ≤ 100000; decide)) ?_
 refine TL.as_ ?_
 refine zET (zr ?_)
 exact ret_tmp Tryz.results33 rfl (fun w1 hw => ⟨rfl, hw.bel⟩)
end Go.Proofs.YtijmpjfafpodhaaGreat

namespace Go
def Result.Mono {α : Type} (d : Nat) : Result α → Prop
 | .ok _ w => d ≤ w.drawn
 | .halt _ w => d ≤ w.drawn
theorem World.ask_mono {α : Type} (s : Ask α) : ∀ w : World, w.drawn ≤ (w.ask s).2.drawn := by
 induction s with
 | done a => intro w; simp [World.ask]
 | ask what range k ih =>
  intro w
  simp only [World.ask]
  split
  ·exact ih _ w
  ·exact Nat.le_trans (Nat.le_succ _) (ih _ { w with drawn := w.drawn + 1 })
theorem World.sys_mono (w : World) (c : Sys) : w.drawn ≤ (w.sys c).2.drawn := by
 have h := World.ask_mono (Kernel.perform c w.os) w
 unfold World.sys
 generalize World.ask w (Kernel.perform c w.os) = x at h ⊢
 split
 ·exact Nat.le_refl _
 ·exact h
theorem World.drawn_freeze (w : World) (a : Addr) (n : Nat) : (w.freeze a n).drawn = w.drawn := by
 unfold World.freeze; split <;> rfl
theorem World.drawn_viewStore {p : Program} {w : World} {at_ : Addr} {u : TypeId} {k : Addr} {v : Value} {atomic : Bool} {r : World × List Addr} (h : w.viewStore p at_ u k v atomic = .ok r) : r.1.drawn = w.drawn := by
 unfold World.viewStore at h
 simp only [bind, Except.bind, pure, Except.pure] at h
 repeat' (split at h)
 all_goals first | (cases h; done) | skip
 all_goals (try (injection h with h; subst h; rfl))
theorem World.drawn_farStore {p : Program} {w : World} {a : Addr} {v : Value} {atomic : Bool} {r : World × List Addr} (h : w.farStore p a v atomic = .ok r) : r.1.drawn = w.drawn := by
 unfold World.farStore at h
 split at h
 ·split at h
  ·rename_i h1; cases h; exact World.drawn_viewStore h1
  ·cases h
 ·cases h
theorem Sem.run_mono {α : Type} (p : Program) (s : Sem α) : ∀ w : World, (s.run p w).Mono w.drawn := by
 induction s with
 | pure a => intro w; exact Nat.le_refl _
 | load m a k ih =>
  intro w
  simp only [Sem.run]
  split
  ·exact ih _ w
  ·split
   ·exact ih _ w
   ·exact Nat.le_refl _
 | store m a v k ih =>
  intro w
  cases v
  case agg => exact Nat.le_refl _
  case tuple => exact Nat.le_refl _
  all_goals
   simp only [Sem.run]
   split
   ·split
    ·exact Nat.le_refl _
    ·exact ih (w.setCell a _)
   ·split
    ·rename_i h; have := ih ‹World›; rw [show World.drawn _ = w.drawn from World.drawn_farStore h] at this; exact this
    ·exact Nat.le_refl _
 | new o k ih => intro w; exact ih w.heap.size { w with heap := w.heap.push o }
 | shape r k ih => intro w; exact ih (w.shape? r) w
 | freeze a n k ih => intro w; have := ih (w.freeze a n); rw [World.drawn_freeze] at this; exact this
 | frozen a k ih => intro w; exact ih (w.frozen? a) w
 | getObj r k ih =>
  intro w
  simp only [Sem.run]
  split
  ·exact Nat.le_refl _
  ·exact ih _ w
  ·exact Nat.le_refl _
 | setObj r o k ih =>
  intro w
  simp only [Sem.run]
  split
  ·exact Nat.le_refl _
  ·exact ih { w with heap := w.heap.setIfInBounds r o }
  ·exact Nat.le_refl _
 | choose q k ih =>
  intro w
  simp only [Sem.run]
  split
  ·exact ih 0 w
  ·have := ih (q.cut (w.tape w.drawn q)) { w with drawn := w.drawn + 1 }
   revert this
   cases Sem.run p (k (q.cut (w.tape w.drawn q))) { w with drawn := w.drawn + 1 } <;> exact fun h => Nat.le_trans (Nat.le_succ _) h
 | sys c k ih =>
  intro w
  have h1 := w.sys_mono c
  have := ih (w.sys c).1 (w.sys c).2
  show (Sem.run p (k (w.sys c).1) (w.sys c).2).Mono w.drawn
  revert this
  cases Sem.run p (k (w.sys c).1) (w.sys c).2 <;> exact fun h => Nat.le_trans h1 h
 | program k ih => intro w; exact ih p w
 | mark m k ih => intro w; exact ih w
 | halt h => intro w; exact Nat.le_refl _
section
variable {α : Type} {p : Program} {s : Sem α} {w w' : World} {a : α} {hh : Halt} {es es' : Array Event}
theorem Sem.ok_mono (h : s.run p w = .ok a w') : w.drawn ≤ w'.drawn := by have := Sem.run_mono p s w; rw [h] at this; exact this
theorem Sem.halt_mono (h : s.run p w = .halt hh w') : w.drawn ≤ w'.drawn := by have := Sem.run_mono p s w; rw [h] at this; exact this
theorem Sem.runT_mono (p : Program) (s : Sem α) (w : World) (es : Array Event) : (s.runT p w es).1.Mono w.drawn := by rw [Sem.runT_eq]; exact Sem.run_mono p s w
theorem Sem.okT_mono (h : s.runT p w es = (.ok a w', es')) : w.drawn ≤ w'.drawn := by have := Sem.runT_mono p s w es; rw [h] at this; exact this
theorem Sem.haltT_mono (h : s.runT p w es = (.halt hh w', es')) : w.drawn ≤ w'.drawn := by have := Sem.runT_mono p s w es; rw [h] at this; exact this
end
def GStep.Mono (d : Nat) : GStep → Prop
 | .go _ w _ => d ≤ w.drawn
 | .comm _ _ _ _ w _ => d ≤ w.drawn
 | .spawn _ _ w _ => d ≤ w.drawn
 | .count _ w _ => d ≤ w.drawn
 | .timer _ _ w _ => d ≤ w.drawn
 | .alone _ _ w _ => d ≤ w.drawn
 | .newcoro _ _ _ w _ => d ≤ w.drawn
 | .coroswitch _ _ _ w _ => d ≤ w.drawn
 | .collect _ w _ => d ≤ w.drawn
 | .watch _ w _ => d ≤ w.drawn
 | .ended _ _ _ => True
theorem GStep.Mono.after {d : Nat} {s : GStep} (es : Array Event) (h : s.Mono d) : (s.after es).Mono d := by
 cases s <;> exact h
theorem GStep.Mono.up {d d' : Nat} {s : GStep} (h : s.Mono d) (hd : d' ≤ d) : s.Mono d' := by
 cases s <;> first | exact Nat.le_trans hd h | trivial
theorem GStep.ite_mono {d : Nat} {c : Prop} [Decidable c] {a b : GStep} (ha : a.Mono d) (hb : b.Mono d) : (if c then a else b).Mono d := by
 split
 ·exact ha
 ·exact hb
variable {p : Program} {w : World}
theorem endWith_mono (fd : Nat) (t : ByteArray) (o : Outcome) (d : Nat) : (endWith w fd t o).Mono d := by
 unfold endWith
 extract_lets cannot
 split
 ·split <;> trivial
 ·trivial
 ·trivial
theorem endThrow_mono (fr : Frame) (m : String) : (endThrow fr m w).Mono w.drawn := Nat.le_refl _
theorem endPrinting_mono (fr : Frame) (v : Value) : (endPrinting p fr v w).Mono w.drawn := by
 unfold endPrinting
 simp only []
 split
 ·exact endThrow_mono _ _
 ·trivial
theorem endFatal_mono (fr : Frame) (cs : List Frame) (dy : Option Dying) (m : String) : (endFatal p fr cs dy m w).Mono w.drawn := by
 unfold endFatal
 extract_lets chain raw shown
 have h := Sem.run_mono p shown w
 generalize shown.run p w = r at h ⊢
 cases r with
 | ok v w1 => exact h
 | halt hh w1 => cases hh <;> trivial
theorem writeOn_mono (fr : Frame) (d : Dying) (f : Fatal) : (writeOn p fr d f w).Mono w.drawn := by
 unfold writeOn
 extract_lets on
 split
 ·trivial
 ·extract_lets
  split
  all_goals first | trivial | exact Sem.okT_mono (by assumption) | exact Sem.haltT_mono (by assumption)
theorem die_mono (fr : Frame) (d : Dying) : (die p fr d w).Mono w.drawn := by
 unfold die
 split
 ·exact writeOn_mono _ _ _
 ·split
  ·split
   ·exact Nat.le_refl _
   ·exact endWith_mono _ _ _ _
  ·extract_lets
   split
   ·exact Nat.le_refl _
   ·split
    all_goals first | trivial | exact Sem.ok_mono (by assumption)
   ·rename_i t recv name _
    have h := Sem.runT_mono p (invoke (.fn (.method name) #[]) #[.iface t recv]) w #[]
    generalize (invoke (.fn (.method name) #[]) #[.iface t recv]).runT p w #[] = r at h ⊢
    obtain ⟨r, es⟩ := r
    refine GStep.Mono.after _ ?_
    simp only [Result.Mono] at h
    split
    all_goals first | trivial | exact h | exact (endPrinting_mono _ _).up h
   ·trivial
theorem doReturn_mono (main : Bool) (fr : Frame) (cs : List Frame) (dy : Option Dying) (v : Value) : (doReturn p main fr cs dy v w).Mono w.drawn := by
 unfold doReturn
 split
 ·split
  all_goals exact Nat.le_refl _
 ·split
  ·exact Nat.le_refl _
  ·trivial
  ·split
   ·exact Nat.le_refl _
   ·split
    ·exact Nat.le_refl _
    ·trivial
theorem callDeferred_mono (fr : Frame) (cs : List Frame) (dy : Option Dying) (d : Deferred) : (callDeferred p fr cs dy d w).Mono w.drawn := by
 unfold callDeferred
 refine GStep.ite_mono trivial ?_
 ·have h := Sem.runT_mono p (invoke d.target d.args) w #[]
  generalize (invoke d.target d.args).runT p w #[] = r at h ⊢
  obtain ⟨r, es⟩ := r
  refine GStep.Mono.after _ ?_
  simp only [Result.Mono] at h
  cases r with
  | ok v w1 =>
   cases v
   all_goals first | trivial | exact h | skip
   case recover =>
    dsimp only
    split <;> exact h
   case alone b _ => cases b <;> first | trivial | exact h
   case coroswitch _ b => cases b <;> first | trivial | exact h
  | halt hh w1 =>
   cases hh
   all_goals first | trivial | exact h | exact (endFatal_mono _ _ _ _).up h | exact (endThrow_mono _ _).up h
theorem unwind_mono (main : Bool) (fr : Frame) (cs : List Frame) (dy : Option Dying) : (unwind p main fr cs dy w).Mono w.drawn := by
 unfold unwind
 split
 ·rename_i block _ _ _
  have h := Sem.runT_mono p (Instr.takeDeferred block) w #[]
  generalize (Instr.takeDeferred block).runT p w #[] = r at h ⊢
  obtain ⟨r, es⟩ := r
  refine GStep.Mono.after _ ?_
  simp only [Result.Mono] at h
  cases r <;> first | trivial | exact h
 ·exact callDeferred_mono _ _ _ _
 ·split
  ·trivial
  ·split
   ·trivial
   ·split
    ·exact Nat.le_refl _
    ·split
     ·split
      ·exact Nat.le_refl _
      ·split
       all_goals first | trivial | exact Sem.ok_mono (by assumption)
     ·split
      ·exact endPrinting_mono _ _
      ·trivial
  ·split
   ·exact doReturn_mono _ _ _ _ _
   ·rename_i fn _
    have h := Sem.runT_mono p (results fn fr.tmps) w #[]
    generalize (results fn fr.tmps).runT p w #[] = r at h ⊢
    obtain ⟨r, es⟩ := r
    refine GStep.Mono.after _ ?_
    simp only [Result.Mono] at h
    cases r with
    | ok v w1 => exact (doReturn_mono _ _ _ _ _).up h
    | halt hh w1 => cases hh <;> trivial
theorem early_mono (fr : Frame) (cs : List Frame) (dy : Option Dying) (g : Nat) : (early p fr cs dy g w).Mono w.drawn := by
 unfold early
 extract_lets refuse notYet
 have hn : ∀ w1 : World, (notYet w1).Mono w1.drawn := fun w1 => by
  show GStep.Mono _ (match w1.heap[g]? with | some (.pending c elem) => _ | _ => _)
  split
  ·exact Nat.le_refl _
  ·trivial
 split
 ·exact hn w
 ·split
  ·trivial
  ·extract_lets there
   have ht : ∀ w1 : World, (there w1).Mono w1.drawn := fun w1 => Nat.le_refl _
   split
   ·exact hn w
   ·split
    ·exact hn w
    ·split
     ·trivial
     ·exact ht w
     ·trivial
     ·exact hn w
     ·split
      ·exact ht w
      ·split
       ·exact hn w
       ·split
        ·exact (hn _).up (Sem.ok_mono (by assumption))
        ·exact (ht _).up (Sem.ok_mono (by assumption))
        ·trivial
theorem apply_mono (fr : Frame) (cs : List Frame) (dy : Option Dying) (s : Sem Next) (listen : Bool) : (stepG.apply p listen fr cs dy s w).Mono w.drawn := by
 unfold stepG.apply
 extract_lets go kind
 have h : (if listen = true then s.runT p w #[] else (s.run p w, #[])).1.Mono w.drawn := by
  split
  ·exact Sem.runT_mono p s w #[]
  ·exact Sem.run_mono p s w
 generalize (if listen = true then s.runT p w #[] else (s.run p w, #[])) = r at h ⊢
 obtain ⟨r, es⟩ := r
 refine GStep.Mono.after _ ?_
 simp only [Result.Mono] at h
 cases r with
 | ok v w1 =>
  cases v
  all_goals first | trivial | exact h | skip
  all_goals dsimp only
  case spawn =>
   refine GStep.ite_mono ?_ ?_
   ·exact (endThrow_mono _ _).up h
   ·exact h
  all_goals (split <;> exact h)
 | halt hh w1 =>
  cases hh
  all_goals first | trivial | exact h | exact (endFatal_mono _ _ _ _).up h | exact (endThrow_mono _ _).up h | skip
  case unsupported u => cases u <;> first | trivial | exact (early_mono _ _ _ _).up h
theorem oper_mono (fr : Frame) (cs : List Frame) (dy : Option Dying) (listen : Bool) : (stepG.oper p listen fr cs dy w).Mono w.drawn := by
 unfold stepG.oper
 split
 ·trivial
 ·split
  ·exact apply_mono _ _ _ _ _
  ·exact apply_mono _ _ _ _ _
theorem exec_mono (main : Bool) (fr : Frame) (cs : List Frame) (dy : Option Dying) (listen : Bool) : (stepG.exec p main listen fr cs dy w).Mono w.drawn := by
 unfold stepG.exec
 extract_lets go to lost leave
 have hgo : ∀ f, (go f w).Mono w.drawn := fun f => Nat.le_refl _
 have hto : ∀ f, (to f).Mono w.drawn := fun f => Nat.le_refl _
 have hleave : ∀ j, (leave j).Mono w.drawn := fun j => by
  show GStep.Mono _ (match fr.roundOf with | none => _ | some l => _)
  cases fr.roundOf with
  | none => exact GStep.ite_mono (Nat.le_refl _) trivial
  | some l =>
   refine GStep.Mono.after _ ?_
   have h := Sem.runT_mono p (Instr.endRound l j) w #[]
   generalize ((Instr.endRound l j).runT p w #[]).1 = r at h ⊢
   simp only [Result.Mono] at h
   cases r with
   | ok v w1 => exact (doReturn_mono _ _ _ _ _).up h
   | halt hh w1 => trivial
 clear_value leave
 split
 all_goals first | exact hleave _ | exact hto _ | trivial | exact apply_mono _ _ _ _ _ | skip
 ·split
  ·exact hto _
  ·trivial
 ·rename_i id k _
  cases exitTo id k with
  | none => exact hleave _
  | some l => exact hto _
 ·rename_i l k _
  cases gotoIn l k with
  | none => exact hleave _
  | some l => exact hto _
 ·rename_i f params assign body k _
  have h := Sem.runT_mono p (Instr.enterLoop fr.fn fr.tmps params assign body fr.roundOf) w #[]
  generalize (Instr.enterLoop fr.fn fr.tmps params assign body fr.roundOf).runT p w #[] = r at h ⊢
  obtain ⟨r, es⟩ := r
  refine GStep.Mono.after _ ?_
  simp only [Result.Mono] at h
  cases r with
  | ok v w1 => exact (apply_mono _ _ _ _ _).up h
  | halt hh w1 => trivial
 ·rename_i l k _
  have h := Sem.runT_mono p (Instr.endLoop l) w #[]
  generalize (Instr.endLoop l).runT p w #[] = r at h ⊢
  obtain ⟨r, es⟩ := r
  refine GStep.Mono.after _ ?_
  simp only [Result.Mono] at h
  cases r with
  | ok v w1 => exact h
  | halt hh w1 => cases hh <;> first | trivial | exact h
 ·rename_i row args _ _
  cases Extern.next row with
  | none => trivial
  | some e => exact apply_mono _ _ _ _ _
 ·refine GStep.ite_mono (hto _) ?_
  split
  ·exact Sem.ok_mono (by assumption)
  ·trivial
 ·refine GStep.ite_mono ?_ ?_
  ·exact oper_mono _ _ _ _
  ·exact Nat.le_refl _
theorem stepG_mono (main : Bool) (g : Goroutine) (listen : Bool) : (stepG p main g w listen).Mono w.drawn := by
 unfold stepG
 obtain ⟨fr, cs, st, dy, of⟩ := g
 dsimp only
 split
 ·exact die_mono _ _
 ·exact exec_mono _ _ _ _ _
 ·exact unwind_mono _ _ _ _
def Stepped.Mono (d : Nat) : Stepped → Prop
 | .next m => d ≤ m.world.drawn
 | .ended _ _ => True
theorem Stepped.Mono.up {d d' : Nat} {s : Stepped} (h : s.Mono d) (hd : d' ≤ d) : s.Mono d' := by
 cases s <;> first | exact Nat.le_trans hd h | trivial
theorem waitingAt_mono {rest : Rest} {cases_ : Array CommCase} {w1 : World} (h : waitingAt rest cases_ w = some w1) : w.drawn ≤ w1.drawn := by
 unfold waitingAt at h
 split at h
 ·split at h
  ·cases h; exact Nat.le_refl _
  ·cases h
 ·cases h; exact Nat.le_refl _
theorem communicate_mono (rest : Rest) (gs : Array Goroutine) (i : Nat) (g : Goroutine) (cs : Array CommCase) (b : Bool) (sh : CommShape) : (communicate p rest gs i g cs b sh w).1.Mono w.drawn := by
 unfold communicate
 extract_lets put illMade me other ready pick
 split
 ·trivial
 ·split
  ·split
   ·split
    ·exact waitingAt_mono (by assumption)
    ·trivial
   ·exact Nat.le_refl _
  ·have h := Sem.run_mono p pick w
   generalize pick.run p w = r at h ⊢
   simp only [Result.Mono] at h
   cases r with
   | halt hh w1 => trivial
   | ok v w1 =>
    obtain ⟨k, c, way⟩ := v
    dsimp only at h ⊢
    split
    ·split
     ·exact Nat.le_trans h (Sem.halt_mono (by assumption))
     ·trivial
    ·exact h
    ·exact h
    ·split
     ·exact h
     ·split
      ·rename_i h2
       have h3 := Sem.ok_mono h2
       exact Nat.le_trans h h3
      ·trivial
    ·exact h
    ·exact h
    ·trivial
theorem look_mono (gs : Array Goroutine) (rest : Rest) : (look p gs rest w).Mono w.drawn := by
 unfold look
 split
 ·dsimp only
  split
  ·trivial
  ·split
   ·trivial
   ·split
    ·rename_i h
     have h2 := Sem.ok_mono h
     exact h2
    ·trivial
    ·trivial
 ·trivial
theorem drain_mono (c : Nat) : (drain w c).2.drawn = w.drawn := by
 unfold drain; split <;> rfl
theorem retime_mono (m : Machine) (k : Nat) (t : Timer) (a b : Nat) : (retime m k t a b).2.world.drawn = m.world.drawn := by
 unfold retime
 cases t.chan with
 | none => rfl
 | some c => exact drain_mono c
theorem timerOp_mono {m : Machine} {op : TimerOp} {v : Value} {m1 : Machine} (h : timerOp m op = .ok (v, m1)) : m.world.drawn ≤ m1.world.drawn := by
 unfold timerOp at h
 split at h
 ·split at h
  ·cases h; exact Nat.le_refl _
  ·split at h
   ·split at h
    ·cases h
    ·cases h; exact Nat.le_refl _
   ·cases h
 ·unfold timerOp.named at h
  split at h
  ·injection h with h; rw [show m1 = _ from (congrArg Prod.snd h).symm, retime_mono]; exact Nat.le_refl _
  ·cases h
 ·split at h
  ·rename_i m2 hm
   unfold timerOp.opened at hm
   have h0 : m2.world.drawn = m.world.drawn := by
    split at hm
    ·split at hm
     ·cases hm; rfl
     ·cases hm
    ·cases hm; rfl
   unfold timerOp.named at h
   split at h
   ·injection h with h; rw [show m1 = _ from (congrArg Prod.snd h).symm, retime_mono, h0]; exact Nat.le_refl _
   ·cases h
  ·cases h
 ·cases h; exact Nat.le_refl _
theorem runT_mono (m : Machine) (i : Nat) (listen : Bool) : (runT p m i listen).1.Mono m.world.drawn := by
 unfold runT
 extract_lets rest world
 split
 rename_i g gs _
 extract_lets wake fn pos s ops done
 have h : s.Mono m.world.drawn := stepG_mono _ _ _
 clear_value s
 cases s with
 | ended => trivial
 | comm g cs b sh w es => exact (communicate_mono _ _ _ _ _ _ _).up h
 | go => exact h
 | spawn => exact h
 | count => 
  dsimp only [done]
  split
  ·trivial
  ·exact h
 | alone => exact h
 | collect => exact (look_mono _ _).up h
 | watch => exact h
 | newcoro => exact h
 | coroswitch g c exit w es => 
  dsimp only [done]
  split
  ·exact h
  ·exact h
  ·trivial
 | timer g op w es =>
  dsimp only [done]
  split
  ·exact Nat.le_trans h (timerOp_mono (by assumption))
  ·exact h
  ·trivial
  ·trivial
def Move.Mono (d : Nat) : Move → Prop
 | .goroutine m _ => d ≤ m.world.drawn
 | .machine s _ => s.Mono d
theorem Move.Mono.up {d d' : Nat} {s : Move} (h : Move.Mono d s) (hd : d' ≤ d) : s.Mono d' := by
 cases s with
 | goroutine m i => exact Nat.le_trans hd h
 | machine s ops => exact Stepped.Mono.up h hd
theorem serve_mono (m : Machine) (k : Nat) : (serve p m k).Mono m.world.drawn := by
 unfold serve
 split
 ·trivial
 ·exact Nat.le_refl _
 ·dsimp only
  split
  ·trivial
  ·exact Nat.le_refl _
theorem askOn_mono (m : Machine) : (askOn p m).Mono m.world.drawn := by
 unfold askOn
 extract_lets mono rs ds pick
 have hp : ∀ m1 : Machine, (pick m1).Mono m1.world.drawn := fun m1 => by
  show Move.Mono _ (match (choose (.sched rs.length)).run p m1.world with | .halt _ w => _ | .ok k world => _)
  split
  ·trivial
  ·rename_i h
   have h1 := Sem.ok_mono h
   split
   ·exact h1
   ·split
    ·trivial
    ·rename_i h2
     exact Nat.le_trans h1 (Sem.ok_mono h2)
 clear_value pick
 clear_value rs ds mono
 have hq : ∀ (d : Nat) (m1 : Machine), d ≤ m1.world.drawn → (pick m1).Mono d := fun d m1 h => Move.Mono.up (hp m1) h
 split
 ·trivial
 ·rename_i h
  have h1 := Sem.ok_mono h
  clear h
  dsimp only
  split
  ·exact (serve_mono _ _).up h1
  ·cases rs with
   | nil =>
    dsimp only
    split
    ·exact h1
    ·split
     ·exact h1
     ·split <;> trivial
   | cons r rs =>
    dsimp only
    split
    ·exact hq _ _ h1
    ·split
     ·trivial
     ·rename_i h2
      have h3 := Sem.ok_mono h2
      exact hq _ _ (Nat.le_trans h1 h3)
     ·rename_i h2
      have h3 := Sem.ok_mono h2
      exact Nat.le_trans h1 h3
     ·rename_i h2
      have h3 := Sem.ok_mono h2
      exact hq _ _ (Nat.le_trans h1 h3)
theorem ask_mono (m : Machine) : (ask p m).Mono m.world.drawn := by
 unfold ask
 split
 ·split
  ·trivial
  ·rename_i h
   have h1 := Sem.ok_mono h
   split
   ·rename_i m2 h2
    have h3 := look_mono (p := p) (w := by assumption) m.gs m.rest
    rw [h2] at h3
    exact Move.Mono.up (askOn_mono _) (Nat.le_trans h1 h3)
   ·rename_i h2
    have h3 := look_mono (p := p) (w := by assumption) m.gs m.rest
    revert h3
    generalize look p m.gs m.rest _ = s
    intro h3
    exact h3.up h1
  ·rename_i h
   exact Move.Mono.up (askOn_mono _) (Sem.ok_mono h)
 ·exact askOn_mono m
theorem move_mono (m : Machine) : (move p m).Mono m.world.drawn := by
 unfold move
 split
 ·split
  ·exact Nat.le_refl _
  ·trivial
 ·split
  ·split
   ·exact Nat.le_refl _
   ·exact ask_mono { m with rest := { m.rest with slice := none } }
  ·exact ask_mono m
theorem step_mono (m : Machine) : (step p m).Mono m.world.drawn := by
 unfold step stepT
 have h := move_mono (p := p) m
 generalize move p m = mv at h ⊢
 cases mv with
 | goroutine m1 i => exact (runT_mono m1 i _).up h
 | machine s ops => exact h
theorem runN_mono (n : Nat) : ∀ m m' : Machine, runN p n m = .next m' → m.world.drawn ≤ m'.world.drawn := by
 induction n with
 | zero => intro m m' h; cases h; exact Nat.le_refl _
 | succ n ih =>
  intro m m' h
  have h1 := step_mono (p := p) m
  unfold runN at h
  generalize step p m = s at h h1
  cases s with
  | next m1 => exact Nat.le_trans h1 (ih m1 m' h)
  | ended o w => cases h
theorem Calls.drawn {f : FuncId} {args : Array Value} {R : Ending → World → Prop} (h : Calls p f args w R) (hr : ∀ e w', R e w' → ∃ v, e = .returned v) :
  Calls p f args w fun e w' => R e w' ∧ w.drawn ≤ w'.drawn := fun cs => by
 obtain ⟨e, w', fr, r, s, x⟩ := h cs
 refine ⟨e, w', fr, ⟨r, ?_⟩, s, x⟩
 obtain ⟨v, rfl⟩ := hr e w' r
 obtain ⟨n, hn⟩ := s
 exact runN_mono n _ _ hn
end Go

namespace Go.Proofs.YtijmpjfafpodhaaGreat
open Go.RowKit
def RwG (e : TypeId) (size : Nat) (w : World) (g n c : Nat) (xs : List Value) : Prop := w.ownsRow g e size (.slice (some ⟨g, 0, none⟩) n c) n xs
theorem RwG.obj {e : TypeId} {size : Nat} {w : World} {g n c : Nat} {xs : List Value} (h : RwG e size w g n c xs) : (∃ o, w.heap[g]? = some o) ∧ n ≤ c ∧ c ≤ maxLen := by
  rcases h.2 with ⟨e1, _⟩ | ⟨g', cap, cur, a, hb, hg, hn, hm, r⟩
  · cases e1
  · cases a
    exact ⟨⟨_, hg⟩, hn, hm⟩
theorem Pm.rowStartG {e : TypeId} {size : Nat} {w : World} {g n c : Nat} {xs : List Value} (h : RwG e size w g n c xs) : Pm ⟨wbut w g, g⟩ (.row (.slice (some ⟨g, 0, none⟩) n c) e size n xs :: oths g w) w := by
  obtain ⟨⟨o, ho⟩, _⟩ := h.obj
  have hp := Pm.mapStart ho
  refine ⟨hp.bel, fun q hq => ?_, ?_, hp.oth, hp.low⟩
  · rcases List.mem_cons.1 hq with rfl | hq
    · exact h
    · exact hp.own q (List.mem_cons_of_mem _ hq)
  · have := List.pairwise_cons.1 hp.apart
    exact List.Pairwise.cons (fun q hq x hx => this.1 q hq x hx) this.2
theorem pm_rowAtG {w0 : Base} {L : List Pc} {w : World} {k g n c : Nat} {e : TypeId} {size : Nat} {xs : List Value} (h : Pm w0 L w) (hk : L[k]? = some (.row (.slice (some ⟨g, 0, none⟩) n c) e size n xs)) : RwG e size w g n c xs := by
  have h1 := h.at_ hk
  refine ⟨h1.1, ?_⟩
  rcases h1.2 with ⟨e1, _⟩ | ⟨g', cap, cur, a, hb, r⟩
  · cases e1
  · cases a
    exact .inr ⟨g, _, cur, rfl, Nat.le_refl _, r⟩
theorem RwG.head {e : TypeId} {size : Nat} {w : World} {g n c m : Nat} {xs : List Value} (h : RwG e size w g n c xs) (hm : m ≤ n) : RwG e size w g m c (xs.take (m * size)) := by
  obtain ⟨h1, h2⟩ := h
  refine ⟨?_, ?_⟩
  · rw [List.length_take, h1]
    exact Nat.min_eq_left (Nat.mul_le_mul_right _ hm)
  · rcases h2 with ⟨e1, h2⟩ | ⟨g', cap, cur, a1, hb, hgg, hn, hmx, hs1, ht1⟩
    · cases e1
    · cases a1
      refine .inr ⟨g, c, cur, rfl, hb, hgg, by omega, hmx, hs1, ?_⟩
      rw [← ht1, List.take_take, Nat.min_eq_left (Nat.mul_le_mul_right _ hm)]
section
variable {P : Program} {N : Fr} {Q : Exit → Act → World → Prop} {E : Env} {w0 : Base} {L : List Pc} {ops : Array Oper} {l : List Oper} {o : Oper}
end
open Go Go.RowKit Go.Shelf Go.Sort
theorem grow_of_below {w w' : World} (h : Go.RowKit.Below w.heap.size w w') (hd : w.drawn ≤ w'.drawn) : ∃ q os, w' = grow (w.drewN q) os := by
  refine ⟨w'.drawn - w.drawn, w'.heap.extract w.heap.size w'.heap.size, ?_⟩
  have e1 : w'.heap = w.heap ++ w'.heap.extract w.heap.size w'.heap.size := by
    apply Array.ext_getElem?
    intro i
    by_cases hi : i < w.heap.size
    · rw [Array.getElem?_append_left hi]; exact h.block i hi
    · rw [Array.getElem?_append_right (by omega), Array.getElem?_extract]
      by_cases h2 : i < w'.heap.size
      · rw [if_pos (by omega), show w.heap.size + (i - w.heap.size) = i by omega]
      · rw [if_neg (by omega), Array.getElem?_eq_none (by omega)]
  have e2 : w.drawn + (w'.drawn - w.drawn) = w'.drawn := by omega
  have h1 := h.os; have h3 := h.tape; have h4 := h.output
  obtain ⟨heap, tape, drawn, os, output⟩ := w
  obtain ⟨heap', tape', drawn', os', output'⟩ := w'
  simp only [World.drewN, grow] at *
  subst h1 h3 h4
  rw [e2, ← e1]
theorem flatK_list {α : Type} [Inhabited α] {c : α → List Value} {k : Nat} (K : Cel c k) (l : List α) : (flatK c k l.toArray).toList = flat c l := by
  apply List.ext_getElem?
  intro t
  by_cases ht : t < l.length * k
  · have k0 : 0 < k := by rcases Nat.eq_zero_or_pos k with h | h; · subst h; omega
                          · exact h
    have hi : t / k < l.length := Nat.div_lt_of_lt_mul (by rwa [Nat.mul_comm] at ht)
    obtain ⟨x, hx⟩ : ∃ x, l[t / k]? = some x := ⟨_, List.getElem?_eq_getElem hi⟩
    have h1 := flat_ix K hx (t % k) (Nat.mod_lt _ k0)
    rw [show t / k * k + t % k = t from by rw [Nat.mul_comm]; exact Nat.div_add_mod t k] at h1
    rw [h1]
    have hx2 : l.toArray[t / k]! = x := by
      have := (List.getElem?_eq_some_iff.1 hx)
      simp [getElem!_pos, hi, this.2]
    have hm : t % k < (c x).length := by rw [K.len]; exact Nat.mod_lt _ k0
    simp [flatK, ht, hx, hm]
  · rw [List.getElem?_eq_none (by simp; omega), List.getElem?_eq_none (by rw [flat_len K]; omega)]
theorem take_putK (cur : Array Value) (ts : Array Value) (h : ts.size ≤ cur.size) : (putCells id 0 ts cur).toList.take ts.size = ts.toList := by
  apply List.ext_getElem?
  intro j
  by_cases hj : j < ts.size
  · rw [List.getElem?_take_of_lt hj, Array.getElem?_toList]
    have : ts[j]! = ts[j] := getElem!_pos ts j hj
    simp [putCells, hj, show j < cur.size by omega]
  · rw [List.getElem?_take_eq_none (by omega), List.getElem?_eq_none (by simp; omega)]
def Sorted {α : Type} (cf : α → α → Int) (l l' : List α) : Prop := l'.Perm l ∧ l'.Pairwise fun x y => ¬ cf y x < 0
theorem sortF_row {P : Program} {ρ : Ren} {α : Type} [Inhabited α] (L : SlLaysF0.n6 P ρ) {c : α → List Value} {k : Nat} (K : Cel c k) (aE : ∀ w, (isAgg (ρ.t 24)).run P w = .ok true w) (zE : ∀ w, (Go.sizeOf (ρ.t 24)).run P w = .ok k w)
    (cf : α → α → Int) (hO : SWO (ltOf cf)) (g : Nat) (eg : ∀ args w, (callFunc g args).run P w = .ok (.enter g args) w) (hcmp : ∀ x y w, Calls P g #[.agg (c x).toArray, .agg (c y).toArray] w fun e w' => e = .returned (.int .i64 (cf x y)) ∧ Go.RowKit.Below w.heap.size w w')
    {b n cap : Nat} {e : TypeId} {A : Option Addr} {l : List α} {w : World} (hr : w.ownsRow b e k (.slice A n cap) n (flat c l)) (hl : l.length = n) (hn : n < 4611686018427387904) :
    Calls P (ρ.f 6) #[.slice A n cap, .func (.func g) #[] #[]] w fun en w' => en = .returned (.tuple #[]) ∧ ∃ l', Sorted cf l l' ∧ w'.ownsRow b e k (.slice A n cap) n (flat c l') ∧ w.grownBy w' (Value.ownBlock (.slice A n cap)) := by
  rcases hr.2 with ⟨hv, h0⟩ | ⟨q, cap', cur, hv, hb, hq, h1, h2, h3, h4⟩
  · cases hv
    have : l = [] := List.eq_nil_of_length_eq_zero (by omega)
    subst this
    refine (AnyF.slices_SortFunc_none L none 0 _ w).mono fun en w' ⟨h5, h6⟩ => ⟨h5, [], ⟨List.Perm.refl _, List.Pairwise.nil⟩, ?_, ?_⟩
    · rw [h6]; exact hr
    · rw [h6]; exact ⟨rfl, rfl, rfl, Nat.le_refl _, fun _ _ _ => rfl⟩
  · cases hv
    have hqs : q < w.heap.size := (Array.getElem?_eq_some_iff.1 hq).1
    have hfl : (flatK c k l.toArray).toList = flat c l := flatK_list K l
    have hsz : (flatK c k l.toArray).size = n * k := by simp [hl]
    have hH : HoldsK c k w q 0 l.toArray := by
      intro j hj
      rw [hsz] at hj
      refine ⟨?_, by simp [World.frozen?, hq]⟩
      have h5 : (cur.toList.take (n * k))[j]? = (flatK c k l.toArray).toList[j]? := by rw [h4, hfl]
      rw [List.getElem?_take_of_lt hj, Array.getElem?_toList, Array.getElem?_toList] at h5
      simp only [World.cell?, hq, Nat.zero_add, Option.isSome_none, Bool.false_eq_true, if_false]
      rw [h5, getElem!_pos _ j (by rw [hsz]; exact hj)]
      exact Array.getElem?_eq_getElem (by rw [hsz]; exact hj)
    have hcl : CmpLays P g #[] c k cf q 0 l.toArray.size w := fun m os dk hs x y =>
      ((hcmp x y _).drawn fun e w' h => ⟨_, h.1⟩).mono fun e w' ⟨⟨h5, h6⟩, h7⟩ => ⟨h5, grow_of_below h6 h7⟩
    have hc := AnyQ.slices_SortFunc L k aE zE c K.len K.one cf hO g #[] q 0 cap l.toArray w eg hcl hH hqs (by simp only [List.size_toArray]; omega)
    rw [List.size_toArray, hl] at hc
    refine hc.mono ?_
    rintro en w' ⟨h5, d', m, os, hp, hs, hw⟩
    have hds : d'.size = n := by have := hp.1; simpa [hl] using this
    refine ⟨h5, d'.toList, ⟨?_, ?_⟩, ?_, ?_⟩
    · have h6 := hp.2.2
      rw [show d'.extract 0 n = d' from by rw [← hds]; exact Array.extract_size, show l.toArray.extract 0 n = l.toArray from by rw [← hl, ← List.size_toArray]; exact Array.extract_size] at h6
      simpa using h6
    · rw [List.pairwise_iff_getElem]
      intro i j hi hj hij
      have hi' : i < d'.size := by simpa using hi
      have hj' : j < d'.size := by simpa using hj
      have h6 := hs i j (Nat.zero_le _) hij (by omega)
      rw [getElem!_pos _ i hi', getElem!_pos _ j hj'] at h6
      simp only [ltOf, decide_eq_false_iff_not] at h6
      simpa using h6
    · have hsz2 : (flatK c k d').size = n * k := by simp [hds]
      have hfl2 : (flatK c k d').toList = flat c d'.toList := by have := flatK_list K d'.toList; simpa using this
      refine ⟨by rw [flat_len K, Array.length_toList, hds], .inr ⟨q, cap, putCells id 0 (flatK c k d') cur, rfl, hb, ?_, h1, h2, by simp [putCells, h3], ?_⟩⟩
      · rw [hw]
        unfold sortWorldK putRowK
        rw [heap_grow_old _ _ (by simpa using hqs)]
        simp [putRow, mapBlock, Sort.ahead, Array.getElem?_modify, hq, onCells]
      · have hle : n * k ≤ cap * k := Nat.mul_le_mul_right _ h1
        rw [← hsz2, take_putK _ _ (by rw [hsz2, h3]; exact hle), hfl2]
    · rw [hw]
      refine ⟨rfl, rfl, rfl, by unfold sortWorldK putRowK; simp, fun i hi hne => ?_⟩
      unfold sortWorldK putRowK
      rw [heap_grow_old _ _ (by simpa using hi)]
      have : q ≠ i := fun e => hne (by rw [e]; rfl)
      simp [putRow, mapBlock, Sort.ahead, Array.getElem?_modify, this]
theorem swo_keys {α : Type} (key : α → List Int) {n : Nat} (hk : ∀ x, (key x).length = n) : SWO (ltOf fun x y => lexI (key x) (key y)) := by
  have hl : ∀ x y, (key x).length = (key y).length := fun x y => by rw [hk, hk]
  refine ⟨fun x => ?_, fun x y z h1 h2 => ?_, fun x y z h1 h2 => ?_⟩
  · simp [ltOf, lexI_self]
  · simp only [ltOf, decide_eq_true_eq] at h1 h2 ⊢
    exact (lexI_trans (hl x y) (hl y z) (by omega) (by omega)).2 (.inl h1)
  · simp only [ltOf, decide_eq_false_iff_not] at h1 h2 ⊢
    have a1 : lexI (key y) (key x) ≤ 0 := by have := @lexI_swap (key y) (key x) (hl y x); have := @lexI_swap (key x) (key y) (hl x y); omega
    have a2 : lexI (key z) (key y) ≤ 0 := by have := @lexI_swap (key z) (key y) (hl z y); have := @lexI_swap (key y) (key z) (hl y z); omega
    have := (lexI_trans (hl z y) (hl y x) a2 a1).1
    have := @lexI_swap (key x) (key z) (hl x z); have := @lexI_swap (key z) (key x) (hl z x)
    omega
section
variable {P : Program} {N : Fr} {Q : Exit → Act → World → Prop} {E : Env} {w0 : Base} {L : List Pc} {ops : Array Oper} {l : List Oper} {o : Oper} {α : Type} {c : α → List Value}
theorem TL.turnRowD {d k n cap : Nat} {A : Option Addr} {e : TypeId} {size : Nat} {xs : List α} {f : FuncId} {fn : Func} {es : List Operand} {ts : Array TypeId} {vs : List Value} (M : List α → Prop) (hg : o.guard = none) (hd : o.dst = some d) (hN : Nat.blt d N.n = true)
    (ho : o.op = .call { callee := .value (.func f), args := es.toArray, argTypes := ts }) (hx : evs E es = some vs) (hf : P.funcs[f]? = some fn) (hn : (fn.name == "runtime.NumGoroutine") = false) (hb : fn.body.isNone = false)
    (hk : L[k]? = some (.row (.slice A n cap) e size n (flat c xs))) (hc : ∀ w, Pm w0 L w → w.ownsRow w0.b e size (.slice A n cap) n (flat c xs) → Calls P f vs.toArray w fun en w' => en = .returned (.tuple #[]) ∧ ∃ ys, M ys ∧ w'.ownsRow w0.b e size (.slice A n cap) n (flat c ys) ∧ w.grownBy w' (Value.ownBlock (.slice A n cap)))
    (h : ∀ ys, M ys → TL P N ops Q l ((d, .tuple #[]) :: E) (Pm w0 (L.set k (.row (.slice A n cap) e size n (flat c ys))))) : TL P N ops Q (o :: l) E (Pm w0 L) :=
  TL.call (α := {ys : List α // M ys}) (r := fun _ => .tuple #[]) (I' := fun y => Pm w0 (L.set k (.row (.slice A n cap) e size n (flat c y.1)))) hg hd hN ho hx hf hn hb (fun w hw => (hc w hw (hw.at_ hk)).mono fun en w' ⟨he, ys, h1, h2, h3⟩ => ⟨⟨ys, h1⟩, he, by
    cases A with
    | none =>
      have hE : w.grownBy w' none := h3
      exact hw.turn hk hE h2 (fun g hg => by cases hg) (fun _ _ e => by cases e)
    | some q => exact hw.turn hk h3 h2 (fun g' hg' => .inl hg') (fun _ _ e => by cases e)⟩) (fun y => h y.1 y.2)
end
open Go.RowKit Go.Shelf Go.Sort
set_option maxRecDepth 20000
def sFRsRen : Go.Shelf.Ren := ⟨fun | 6 => 132 | 14 => 164 | 15 => 146 | 20 => 192 | 21 => 193 | 22 => 194 | 23 => 195 | 24 => 196 | 25 => 197 | 26 => 198 | 27 => 199 | 28 => 175 | 29 => 176 | 46 => 218 | 47 => 209 | 48 => 210 | 49 => 219 | 50 => 220 | 57 => 226 | n => n, fun | 22 => 23 | 24 => 65 | 25 => 166 | 39 => 174 | 45 => 191 | 46 => 192 | 50 => 196 | 53 => 29 | 55 => 200 | 66 => 219 | 70 => 223 | 76 => 235 | 77 => 236 | n => n, fun n => n⟩
theorem sFRs : SlLaysF0.n6 Tryz.prog sFRsRen where
  mixed := by kernel_rfl
  f6 := ⟨Tryz.f132.name, by decide, Tryz.func132.trans (by kernel_rfl)⟩
  f14 := ⟨Tryz.f164.name, by decide, Tryz.func164.trans (by kernel_rfl)⟩
  f15 := Tryz.func146.trans (by kernel_rfl)
  f20 := ⟨Tryz.f192.name, by decide, Tryz.func192.trans (by kernel_rfl)⟩
  f21 := ⟨Tryz.f193.name, by decide, Tryz.func193.trans (by kernel_rfl)⟩
  f22 := ⟨Tryz.f194.name, by decide, Tryz.func194.trans (by kernel_rfl)⟩
  f23 := ⟨Tryz.f195.name, by decide, Tryz.func195.trans (by kernel_rfl)⟩
  f24 := ⟨Tryz.f196.name, by decide, Tryz.func196.trans (by kernel_rfl)⟩
  f25 := ⟨Tryz.f197.name, by decide, Tryz.func197.trans (by kernel_rfl)⟩
  f26 := ⟨Tryz.f198.name, by decide, Tryz.func198.trans (by kernel_rfl)⟩
  f27 := ⟨Tryz.f199.name, by decide, Tryz.func199.trans (by kernel_rfl)⟩
  f28 := Tryz.func175.trans (by kernel_rfl)
  f29 := Tryz.func176.trans (by kernel_rfl)
  f46 := ⟨Tryz.f218.name, by decide, Tryz.func218.trans (by kernel_rfl)⟩
  f47 := Tryz.func209.trans (by kernel_rfl)
  f48 := Tryz.func210.trans (by kernel_rfl)
  f49 := ⟨Tryz.f219.name, by decide, Tryz.func219.trans (by kernel_rfl)⟩
  f50 := ⟨Tryz.f220.name, by decide, Tryz.func220.trans (by kernel_rfl)⟩
  f57 := ⟨Tryz.f226.name, by decide, Tryz.func226.trans (by kernel_rfl)⟩
  t0 := Tryz.underlying0
  a0 := fun w => rfl
  z0 := fun w => rfl
  v0 := fun w => rfl
  t3 := Tryz.underlying3
  a3 := fun w => rfl
  z3 := fun w => rfl
  v3 := fun w => rfl
  t4 := Tryz.underlying4
  a4 := fun w => rfl
  z4 := fun w => rfl
  v4 := fun w => rfl
  t5 := Tryz.underlying5
  a5 := fun w => rfl
  z5 := fun w => rfl
  v5 := fun w => rfl
  t9 := Tryz.underlying9
  a9 := fun w => rfl
  z9 := fun w => rfl
  v9 := fun w => rfl
  t22 := Tryz.underlying23
  a22 := fun w => rfl
  z22 := fun w => rfl
  v22 := fun w => rfl
  t25 := Tryz.underlying166
  a25 := fun w => rfl
  z25 := fun w => rfl
  v25 := fun w => rfl
  t39 := Tryz.underlying174
  a39 := fun w => rfl
  z39 := fun w => rfl
  v39 := fun w => rfl
  t45 := Tryz.underlying191
  a45 := fun w => rfl
  z45 := fun w => rfl
  v45 := fun w => rfl
  t46 := Tryz.underlying192
  a46 := fun w => rfl
  z46 := fun w => rfl
  v46 := fun w => rfl
  t50 := Tryz.underlying196
  a50 := fun w => rfl
  z50 := fun w => rfl
  v50 := fun w => rfl
  t53 := Tryz.underlying29
  a53 := fun w => rfl
  z53 := fun w => rfl
  v53 := fun w => rfl
  t55 := Tryz.underlying200
  a55 := fun w => rfl
  z55 := fun w => rfl
  v55 := fun w => rfl
  t66 := Tryz.underlying219
  a66 := fun w => rfl
  z66 := fun w => rfl
  v66 := fun w => rfl
  t70 := Tryz.underlying223
  a70 := fun w => rfl
  z70 := fun w => rfl
  v70 := fun w => rfl
  t76 := Tryz.underlying235
  a76 := fun w => rfl
  z76 := fun w => rfl
  v76 := fun w => rfl
  t77 := Tryz.underlying236
  a77 := fun w => rfl
  z77 := fun w => rfl
  v77 := fun w => rfl
instance : Inhabited Rs := ⟨⟨0, 0, 0, 0, 0, 0, 0, 0, false, false, 0, 0, 0, 0, 0, 0, 0⟩⟩
theorem sortRs {b n cap : Nat} {A : Option Addr} {l : List Rs} {w : World} (hr : w.ownsRow b 65 17 (.slice A n cap) n (flat Rs.cells l)) (hl : l.length = n) (hn : n ≤ 1000000) :
    Calls Tryz.prog 132 #[.slice A n cap, .func (.func 133) #[] #[]] w fun en w' => en = .returned (.tuple #[]) ∧ ∃ l', Sorted cmpRs l l' ∧ w'.ownsRow b 65 17 (.slice A n cap) n (flat Rs.cells l') ∧ w.grownBy w' (Value.ownBlock (.slice A n cap)) :=
  sortF_row (ρ := sFRsRen) sFRs rs_cel (fun w => rfl) (fun w => rfl) cmpRs (swo_keys (n := 17) (Rs.keys) fun _ => rfl) 133 (enters_of Tryz.func133 (by kernel_rfl) rfl) cmpRs_any hr hl (by omega)
def sFTrcRen : Go.Shelf.Ren := ⟨fun | 6 => 136 | 14 => 166 | 15 => 146 | 20 => 200 | 21 => 201 | 22 => 202 | 23 => 203 | 24 => 204 | 25 => 205 | 26 => 206 | 27 => 207 | 28 => 175 | 29 => 176 | 46 => 221 | 47 => 209 | 48 => 210 | 49 => 222 | 50 => 223 | 57 => 227 | n => n, fun | 22 => 128 | 24 => 32 | 25 => 168 | 39 => 174 | 45 => 191 | 46 => 192 | 50 => 196 | 53 => 29 | 55 => 200 | 66 => 219 | 70 => 223 | 76 => 235 | 77 => 236 | n => n, fun n => n⟩
theorem sFTrc : SlLaysF0.n6 Tryz.prog sFTrcRen where
  mixed := by kernel_rfl
  f6 := ⟨Tryz.f136.name, by decide, Tryz.func136.trans (by kernel_rfl)⟩
  f14 := ⟨Tryz.f166.name, by decide, Tryz.func166.trans (by kernel_rfl)⟩
  f15 := Tryz.func146.trans (by kernel_rfl)
  f20 := ⟨Tryz.f200.name, by decide, Tryz.func200.trans (by kernel_rfl)⟩
  f21 := ⟨Tryz.f201.name, by decide, Tryz.func201.trans (by kernel_rfl)⟩
  f22 := ⟨Tryz.f202.name, by decide, Tryz.func202.trans (by kernel_rfl)⟩
  f23 := ⟨Tryz.f203.name, by decide, Tryz.func203.trans (by kernel_rfl)⟩
  f24 := ⟨Tryz.f204.name, by decide, Tryz.func204.trans (by kernel_rfl)⟩
  f25 := ⟨Tryz.f205.name, by decide, Tryz.func205.trans (by kernel_rfl)⟩
  f26 := ⟨Tryz.f206.name, by decide, Tryz.func206.trans (by kernel_rfl)⟩
  f27 := ⟨Tryz.f207.name, by decide, Tryz.func207.trans (by kernel_rfl)⟩
  f28 := Tryz.func175.trans (by kernel_rfl)
  f29 := Tryz.func176.trans (by kernel_rfl)
  f46 := ⟨Tryz.f221.name, by decide, Tryz.func221.trans (by kernel_rfl)⟩
  f47 := Tryz.func209.trans (by kernel_rfl)
  f48 := Tryz.func210.trans (by kernel_rfl)
  f49 := ⟨Tryz.f222.name, by decide, Tryz.func222.trans (by kernel_rfl)⟩
  f50 := ⟨Tryz.f223.name, by decide, Tryz.func223.trans (by kernel_rfl)⟩
  f57 := ⟨Tryz.f227.name, by decide, Tryz.func227.trans (by kernel_rfl)⟩
  t0 := Tryz.underlying0
  a0 := fun w => rfl
  z0 := fun w => rfl
  v0 := fun w => rfl
  t3 := Tryz.underlying3
  a3 := fun w => rfl
  z3 := fun w => rfl
  v3 := fun w => rfl
  t4 := Tryz.underlying4
  a4 := fun w => rfl
  z4 := fun w => rfl
  v4 := fun w => rfl
  t5 := Tryz.underlying5
  a5 := fun w => rfl
  z5 := fun w => rfl
  v5 := fun w => rfl
  t9 := Tryz.underlying9
  a9 := fun w => rfl
  z9 := fun w => rfl
  v9 := fun w => rfl
  t22 := Tryz.underlying128
  a22 := fun w => rfl
  z22 := fun w => rfl
  v22 := fun w => rfl
  t25 := Tryz.underlying168
  a25 := fun w => rfl
  z25 := fun w => rfl
  v25 := fun w => rfl
  t39 := Tryz.underlying174
  a39 := fun w => rfl
  z39 := fun w => rfl
  v39 := fun w => rfl
  t45 := Tryz.underlying191
  a45 := fun w => rfl
  z45 := fun w => rfl
  v45 := fun w => rfl
  t46 := Tryz.underlying192
  a46 := fun w => rfl
  z46 := fun w => rfl
  v46 := fun w => rfl
  t50 := Tryz.underlying196
  a50 := fun w => rfl
  z50 := fun w => rfl
  v50 := fun w => rfl
  t53 := Tryz.underlying29
  a53 := fun w => rfl
  z53 := fun w => rfl
  v53 := fun w => rfl
  t55 := Tryz.underlying200
  a55 := fun w => rfl
  z55 := fun w => rfl
  v55 := fun w => rfl
  t66 := Tryz.underlying219
  a66 := fun w => rfl
  z66 := fun w => rfl
  v66 := fun w => rfl
  t70 := Tryz.underlying223
  a70 := fun w => rfl
  z70 := fun w => rfl
  v70 := fun w => rfl
  t76 := Tryz.underlying235
  a76 := fun w => rfl
  z76 := fun w => rfl
  v76 := fun w => rfl
  t77 := Tryz.underlying236
  a77 := fun w => rfl
  z77 := fun w => rfl
  v77 := fun w => rfl
instance : Inhabited Trc := ⟨⟨0, 0, 0⟩⟩
theorem sortTrc {b n cap : Nat} {A : Option Addr} {l : List Trc} {w : World} (hr : w.ownsRow b 32 3 (.slice A n cap) n (flat Trc.cells l)) (hl : l.length = n) (hn : n ≤ 1000000) :
    Calls Tryz.prog 136 #[.slice A n cap, .func (.func 137) #[] #[]] w fun en w' => en = .returned (.tuple #[]) ∧ ∃ l', Sorted cmpT l l' ∧ w'.ownsRow b 32 3 (.slice A n cap) n (flat Trc.cells l') ∧ w.grownBy w' (Value.ownBlock (.slice A n cap)) :=
  sortF_row (ρ := sFTrcRen) sFTrc trc_cel (fun w => rfl) (fun w => rfl) cmpT (swo_keys (n := 3) (fun t : Trc => [t.v, t.dst, t.proto]) fun _ => rfl) 137 (enters_of Tryz.func137 (by kernel_rfl) rfl) cloT_any hr hl (by omega)
def sortLayRen : Go.Shelf.Ren := ⟨fun | 5 => 124 | 7 => 160 | 8 => 146 | 10 => 180 | 11 => 181 | 12 => 182 | 13 => 183 | 14 => 184 | 15 => 185 | 16 => 186 | 17 => 187 | 18 => 188 | 19 => 175 | 20 => 176 | 30 => 213 | 31 => 209 | 32 => 210 | 33 => 214 | 34 => 215 | 35 => 125 | 40 => 225 | n => n, fun | 22 => 106 | 23 => 106 | 25 => 3 | 32 => 174 | 35 => 191 | 36 => 192 | 41 => 196 | 44 => 29 | 46 => 200 | 53 => 219 | 57 => 223 | 63 => 235 | 64 => 236 | n => n, fun n => n⟩
theorem sortLay : SlLaysM.n5 Tryz.prog sortLayRen where
  mixed := by kernel_rfl
  f5 := ⟨Tryz.f124.name, by decide, Tryz.func124.trans (by kernel_rfl)⟩
  f7 := ⟨Tryz.f160.name, by decide, Tryz.func160.trans (by kernel_rfl)⟩
  f8 := Tryz.func146.trans (by kernel_rfl)
  f10 := ⟨Tryz.f180.name, by decide, Tryz.func180.trans (by kernel_rfl)⟩
  f11 := ⟨Tryz.f181.name, by decide, Tryz.func181.trans (by kernel_rfl)⟩
  f12 := ⟨Tryz.f182.name, by decide, Tryz.func182.trans (by kernel_rfl)⟩
  f13 := ⟨Tryz.f183.name, by decide, Tryz.func183.trans (by kernel_rfl)⟩
  f14 := ⟨Tryz.f184.name, by decide, Tryz.func184.trans (by kernel_rfl)⟩
  f15 := ⟨Tryz.f185.name, by decide, Tryz.func185.trans (by kernel_rfl)⟩
  f16 := ⟨Tryz.f186.name, by decide, Tryz.func186.trans (by kernel_rfl)⟩
  f17 := ⟨Tryz.f187.name, by decide, Tryz.func187.trans (by kernel_rfl)⟩
  f18 := ⟨Tryz.f188.name, by decide, Tryz.func188.trans (by kernel_rfl)⟩
  f19 := Tryz.func175.trans (by kernel_rfl)
  f20 := Tryz.func176.trans (by kernel_rfl)
  f30 := ⟨Tryz.f213.name, by decide, Tryz.func213.trans (by kernel_rfl)⟩
  f31 := Tryz.func209.trans (by kernel_rfl)
  f32 := Tryz.func210.trans (by kernel_rfl)
  f33 := ⟨Tryz.f214.name, by decide, Tryz.func214.trans (by kernel_rfl)⟩
  f34 := ⟨Tryz.f215.name, by decide, Tryz.func215.trans (by kernel_rfl)⟩
  f35 := ⟨Tryz.f125.name, by decide, Tryz.func125.trans (by kernel_rfl)⟩
  f40 := ⟨Tryz.f225.name, by decide, Tryz.func225.trans (by kernel_rfl)⟩
  t0 := Tryz.underlying0
  a0 := fun w => rfl
  z0 := fun w => rfl
  v0 := fun w => rfl
  t3 := Tryz.underlying3
  a3 := fun w => rfl
  z3 := fun w => rfl
  v3 := fun w => rfl
  t4 := Tryz.underlying4
  a4 := fun w => rfl
  z4 := fun w => rfl
  v4 := fun w => rfl
  t5 := Tryz.underlying5
  a5 := fun w => rfl
  z5 := fun w => rfl
  v5 := fun w => rfl
  t9 := Tryz.underlying9
  a9 := fun w => rfl
  z9 := fun w => rfl
  v9 := fun w => rfl
  t22 := Tryz.underlying106
  a22 := fun w => rfl
  z22 := fun w => rfl
  v22 := fun w => rfl
  t23 := Tryz.underlying106
  a23 := fun w => rfl
  z23 := fun w => rfl
  v23 := fun w => rfl
  t25 := Tryz.underlying3
  a25 := fun w => rfl
  z25 := fun w => rfl
  v25 := fun w => rfl
  t32 := Tryz.underlying174
  a32 := fun w => rfl
  z32 := fun w => rfl
  v32 := fun w => rfl
  t35 := Tryz.underlying191
  a35 := fun w => rfl
  z35 := fun w => rfl
  v35 := fun w => rfl
  t36 := Tryz.underlying192
  a36 := fun w => rfl
  z36 := fun w => rfl
  v36 := fun w => rfl
  t41 := Tryz.underlying196
  a41 := fun w => rfl
  z41 := fun w => rfl
  v41 := fun w => rfl
  t44 := Tryz.underlying29
  a44 := fun w => rfl
  z44 := fun w => rfl
  v44 := fun w => rfl
  t46 := Tryz.underlying200
  a46 := fun w => rfl
  z46 := fun w => rfl
  v46 := fun w => rfl
  t53 := Tryz.underlying219
  a53 := fun w => rfl
  z53 := fun w => rfl
  v53 := fun w => rfl
  t57 := Tryz.underlying223
  a57 := fun w => rfl
  z57 := fun w => rfl
  v57 := fun w => rfl
  t63 := Tryz.underlying235
  a63 := fun w => rfl
  z63 := fun w => rfl
  v63 := fun w => rfl
  t64 := Tryz.underlying236
  a64 := fun w => rfl
  z64 := fun w => rfl
  v64 := fun w => rfl
set_option maxRecDepth 20000
theorem rs_eq (x y : Rs) : (x = y) ↔ x.v = y.v ∧ x.run = y.run ∧ x.num = y.num ∧ x.at_ = y.at_ ∧ x.dst = y.dst ∧ x.proto = y.proto ∧ x.flow = y.flow ∧ x.ttl = y.ttl ∧ x.ans = y.ans ∧ x.dbl = y.dbl ∧ x.back = y.back ∧ x.src = y.src ∧ x.kind = y.kind ∧ x.code = y.code ∧ x.left = y.left ∧ x.id = y.id ∧ x.quo = y.quo := by
  cases x; cases y; simp
theorem rs_eql (x y : Rs) (ox oy : Operand) (w : World) : (do eqGuard .eql 65 ox oy (.agg x.cells.toArray) (.agg y.cells.toArray); binOp .eql 65 (.agg x.cells.toArray) (.agg y.cells.toArray) : Sem Value).run Tryz.prog w = .ok (.bool (decide (x = y))) w := by
  rw [Sem.run_bind, run_eqGuard_agg w .eql 65 ox oy _ _ (by kernel_rfl), Result.andThen_ok, run_eql_struct]
  have h2 : (Op.equalIn 10000 65 (.agg x.cells.toArray) (.agg y.cells.toArray)).run Tryz.prog w = .ok (decide (x.v = y.v ∧ x.run = y.run ∧ x.num = y.num ∧ x.at_ = y.at_ ∧ x.dst = y.dst ∧ x.proto = y.proto ∧ x.flow = y.flow ∧ x.ttl = y.ttl ∧ x.ans = y.ans ∧ x.dbl = y.dbl ∧ x.back = y.back ∧ x.src = y.src ∧ x.kind = y.kind ∧ x.code = y.code ∧ x.left = y.left ∧ x.id = y.id ∧ x.quo = y.quo)) w := eqR x.v x.run x.num x.at_ x.dst x.proto x.flow x.ttl x.back x.src x.kind x.code x.left x.id x.quo y.v y.run y.num y.at_ y.dst y.proto y.flow y.ttl y.back y.src y.kind y.code y.left y.id y.quo x.ans x.dbl y.ans y.dbl w
  rw [h2, Result.andThen_ok, decide_eq_decide.2 (rs_eq x y)]
theorem rs_neq (x y : Rs) (ox oy : Operand) (w : World) : (do eqGuard .neq 65 ox oy (.agg x.cells.toArray) (.agg y.cells.toArray); binOp .neq 65 (.agg x.cells.toArray) (.agg y.cells.toArray) : Sem Value).run Tryz.prog w = .ok (.bool (!decide (x = y))) w := by
  rw [Sem.run_bind, run_eqGuard_agg w .neq 65 ox oy _ _ (by kernel_rfl), Result.andThen_ok, run_neq_struct]
  have h2 : (Op.equalIn 10000 65 (.agg x.cells.toArray) (.agg y.cells.toArray)).run Tryz.prog w = .ok (decide (x.v = y.v ∧ x.run = y.run ∧ x.num = y.num ∧ x.at_ = y.at_ ∧ x.dst = y.dst ∧ x.proto = y.proto ∧ x.flow = y.flow ∧ x.ttl = y.ttl ∧ x.ans = y.ans ∧ x.dbl = y.dbl ∧ x.back = y.back ∧ x.src = y.src ∧ x.kind = y.kind ∧ x.code = y.code ∧ x.left = y.left ∧ x.id = y.id ∧ x.quo = y.quo)) w := eqR x.v x.run x.num x.at_ x.dst x.proto x.flow x.ttl x.back x.src x.kind x.code x.left x.id x.quo y.v y.run y.num y.at_ y.dst y.proto y.flow y.ttl y.back y.src y.kind y.code y.left y.id y.quo x.ans x.dbl y.ans y.dbl w
  rw [h2, Result.andThen_ok, decide_eq_decide.2 (rs_eq x y)]
theorem rs_neqd (x y : Rs) (ox oy : Operand) (w : World) : (do eqGuard .neq 65 ox oy (.agg x.cells.toArray) (.agg y.cells.toArray); binOp .neq 65 (.agg x.cells.toArray) (.agg y.cells.toArray) : Sem Value).run Tryz.prog w = .ok (.bool (decide (x ≠ y))) w := by
  rw [decide_not]; exact rs_neq x y ox oy w
theorem trc_fields : Tryz.prog.fieldsOf 32 = (match Tryz.prog.underlying 32 with | some (.struct fs) => fs | _ => #[]) := rfl
theorem trc_eqn (a0 b0 : Int) (a1 b1 : Int) (a2 b2 : Int) (d : Nat) (w : World) : (Op.equalIn (d + 2) 32 (.agg #[.int .i64 a0, .int .u32 a1, .int .i64 a2]) (.agg #[.int .i64 b0, .int .u32 b1, .int .i64 b2])).run Tryz.prog w = .ok (decide (a0 = b0 ∧ a1 = b1 ∧ a2 = b2)) w := by
  rw [run_equalIn_agg w (d + 1) 32 _ _ (by rw [trc_fields, Tryz.underlying32]) (by kernel_rfl), trc_fields, Tryz.underlying32]
  show (Op.eqFields (d + 1) _ _ [_, _, _]).run _ _ = _
  have i0 : Tryz.prog.underlying 3 = some (.int .i64) := rfl
  have i1 : Tryz.prog.underlying 30 = some (.int .u32) := rfl
  simp [Op.eqFields, go_sem]
  by_cases e0 : a0 = b0
  · by_cases e1 : a1 = b1
    · by_cases e2 : a2 = b2 <;> simp [e0, e1, e2]
    · simp [e0, e1]
  · simp [e0]
theorem trc_eq (x y : Trc) : (x = y) ↔ x.v = y.v ∧ x.dst = y.dst ∧ x.proto = y.proto := by
  cases x; cases y; simp
theorem trc_eql (x y : Trc) (ox oy : Operand) (w : World) : (do eqGuard .eql 32 ox oy (.agg x.cells.toArray) (.agg y.cells.toArray); binOp .eql 32 (.agg x.cells.toArray) (.agg y.cells.toArray) : Sem Value).run Tryz.prog w = .ok (.bool (decide (x = y))) w := by
  rw [Sem.run_bind, run_eqGuard_agg w .eql 32 ox oy _ _ (by kernel_rfl), Result.andThen_ok, run_eql_struct]
  have h := trc_eqn x.v y.v x.dst y.dst x.proto y.proto 9998 w
  have h2 : (Op.equalIn 10000 32 (.agg x.cells.toArray) (.agg y.cells.toArray)).run Tryz.prog w = .ok (decide (x.v = y.v ∧ x.dst = y.dst ∧ x.proto = y.proto)) w := h
  rw [h2, Result.andThen_ok, decide_eq_decide.2 (trc_eq x y)]
theorem trc_neq (x y : Trc) (ox oy : Operand) (w : World) : (do eqGuard .neq 32 ox oy (.agg x.cells.toArray) (.agg y.cells.toArray); binOp .neq 32 (.agg x.cells.toArray) (.agg y.cells.toArray) : Sem Value).run Tryz.prog w = .ok (.bool (!decide (x = y))) w := by
  rw [Sem.run_bind, run_eqGuard_agg w .neq 32 ox oy _ _ (by kernel_rfl), Result.andThen_ok, run_neq_struct]
  have h := trc_eqn x.v y.v x.dst y.dst x.proto y.proto 9998 w
  have h2 : (Op.equalIn 10000 32 (.agg x.cells.toArray) (.agg y.cells.toArray)).run Tryz.prog w = .ok (decide (x.v = y.v ∧ x.dst = y.dst ∧ x.proto = y.proto)) w := h
  rw [h2, Result.andThen_ok, decide_eq_decide.2 (trc_eq x y)]
theorem trc_neqd (x y : Trc) (ox oy : Operand) (w : World) : (do eqGuard .neq 32 ox oy (.agg x.cells.toArray) (.agg y.cells.toArray); binOp .neq 32 (.agg x.cells.toArray) (.agg y.cells.toArray) : Sem Value).run Tryz.prog w = .ok (.bool (decide (x ≠ y))) w := by
  rw [decide_not]; exact trc_neq x y ox oy w
theorem idn_fields : Tryz.prog.fieldsOf 73 = (match Tryz.prog.underlying 73 with | some (.struct fs) => fs | _ => #[]) := rfl
theorem idn_eqn (a0 b0 : Int) (a1 b1 : Int) (a2 b2 : Int) (d : Nat) (w : World) : (Op.equalIn (d + 2) 73 (.agg #[.int .i64 a0, .int .i64 a1, .int .i64 a2]) (.agg #[.int .i64 b0, .int .i64 b1, .int .i64 b2])).run Tryz.prog w = .ok (decide (a0 = b0 ∧ a1 = b1 ∧ a2 = b2)) w := by
  rw [run_equalIn_agg w (d + 1) 73 _ _ (by rw [idn_fields, Tryz.underlying73]) (by kernel_rfl), idn_fields, Tryz.underlying73]
  show (Op.eqFields (d + 1) _ _ [_, _, _]).run _ _ = _
  have i0 : Tryz.prog.underlying 3 = some (.int .i64) := rfl
  simp [Op.eqFields, go_sem]
  by_cases e0 : a0 = b0
  · by_cases e1 : a1 = b1
    · by_cases e2 : a2 = b2 <;> simp [e0, e1, e2]
    · simp [e0, e1]
  · simp [e0]
theorem idn_eq (x y : Idn) : (x = y) ↔ x.v = y.v ∧ x.run = y.run ∧ x.num = y.num := by
  cases x; cases y; simp
theorem idn_eql (x y : Idn) (ox oy : Operand) (w : World) : (do eqGuard .eql 73 ox oy (.agg x.cells.toArray) (.agg y.cells.toArray); binOp .eql 73 (.agg x.cells.toArray) (.agg y.cells.toArray) : Sem Value).run Tryz.prog w = .ok (.bool (decide (x = y))) w := by
  rw [Sem.run_bind, run_eqGuard_agg w .eql 73 ox oy _ _ (by kernel_rfl), Result.andThen_ok, run_eql_struct]
  have h := idn_eqn x.v y.v x.run y.run x.num y.num 9998 w
  have h2 : (Op.equalIn 10000 73 (.agg x.cells.toArray) (.agg y.cells.toArray)).run Tryz.prog w = .ok (decide (x.v = y.v ∧ x.run = y.run ∧ x.num = y.num)) w := h
  rw [h2, Result.andThen_ok, decide_eq_decide.2 (idn_eq x y)]
section
variable {α : Type} [DecidableEq α]
def cptG : List α → List α
  | [] => []
  | [a] => [a]
  | a :: b :: l => if a = b then cptG (b :: l) else a :: cptG (b :: l)
theorem cptG_snoc : ∀ (l : List α) (a : α), cptG (l ++ [a]) = if l.getLast? = some a then cptG l else cptG l ++ [a]
  | [], a => by simp [cptG]
  | [b], a => by
    show cptG [b, a] = _
    simp only [cptG, List.getLast?_singleton, Option.some.injEq]
    split
    · rename_i h; rw [h]
    · rfl
  | b :: d :: l, a => by
    have ih := cptG_snoc (d :: l) a
    have e : (b :: d :: l).getLast? = (d :: l).getLast? := by rw [List.getLast?_cons_cons]
    rw [e]
    show cptG (b :: d :: (l ++ [a])) = _
    rw [cptG]
    have ih' : cptG (d :: (l ++ [a])) = if (d :: l).getLast? = some a then cptG (d :: l) else cptG (d :: l) ++ [a] := ih
    rw [ih', cptG]
    split <;> split <;> simp
theorem mem_cptG (x : α) : ∀ l : List α, x ∈ cptG l ↔ x ∈ l
  | [] => Iff.rfl
  | [a] => Iff.rfl
  | a :: b :: l => by
    have ih := mem_cptG x (b :: l)
    rw [cptG]
    split
    · rename_i h
      rw [ih, h, List.mem_cons, List.mem_cons, List.mem_cons]
      constructor
      · exact fun hh => .inr hh
      · rintro (hh | hh)
        · exact .inl hh
        · exact hh
    · rw [List.mem_cons, ih, List.mem_cons, List.mem_cons]
      simp [List.mem_cons]
theorem cptG_le : ∀ l : List α, (cptG l).length ≤ l.length
  | [] => Nat.le_refl _
  | [a] => Nat.le_refl _
  | a :: b :: l => by
    have ih := cptG_le (b :: l)
    rw [cptG]
    split
    · exact Nat.le_trans ih (Nat.le_succ _)
    · simpa using ih
theorem cptG_step {l : List α} {k : Nat} {x y : α} (hx : l[k]? = some x) (hy : l[k - 1]? = some y) (hk : 1 ≤ k) : cptG (l.take (k + 1)) = if y = x then cptG (l.take k) else cptG (l.take k) ++ [x] := by
  rw [List.take_add_one, hx]
  show cptG (l.take k ++ [x]) = _
  rw [cptG_snoc]
  have : (l.take k).getLast? = some y := by
    rw [List.getLast?_eq_getElem?, List.length_take, Nat.min_eq_left (by have := (List.getElem?_eq_some_iff.1 hx).1; omega), List.getElem?_take_of_lt (by omega), hy]
  rw [this]
  simp only [Option.some.injEq]
theorem cptG_take1 : ∀ l : List α, cptG (l.take 1) = l.take 1
  | [] => rfl
  | a :: l => rfl
theorem cptG_short {l : List α} (h : l.length < 2) : cptG l = l := by
  match l, h with
  | [], _ => rfl
  | [a], _ => rfl
end
section
variable {P : Program} {N : Fr} {Q : Exit → Act → World → Prop} {E : Env} {w0 : Base} {L : List Pc} {ops : Array Oper} {l : List Oper} {o : Oper} {α : Type} {c : α → List Value} {k : Nat}
theorem zeroCells_flat (K : Cel c k) (z : α) (m : Nat) : (Builtin.zeroCells (c z).toArray m).toList = flat c (List.replicate m z) := by
  apply List.ext_getElem?
  intro t
  by_cases ht : t < m * k
  · have k0 : 0 < k := by rcases Nat.eq_zero_or_pos k with h | h; · subst h; omega
                          · exact h
    have hi : t / k < m := Nat.div_lt_of_lt_mul (by rwa [Nat.mul_comm] at ht)
    have hx : (List.replicate m z)[t / k]? = some z := by rw [List.getElem?_replicate, if_pos hi]
    have h1 := flat_ix K hx (t % k) (Nat.mod_lt _ k0)
    rw [show t / k * k + t % k = t from by rw [Nat.mul_comm]; exact Nat.div_add_mod t k] at h1
    rw [h1]
    have hm : t % k < (c z).length := by rw [K.len]; exact Nat.mod_lt _ k0
    simp [Builtin.zeroCells, K.len, ht, hm]
    rw [List.getElem?_eq_getElem hm, Option.getD_some]
  · rw [List.getElem?_eq_none (by simp [Builtin.zeroCells, K.len]; omega), List.getElem?_eq_none (by rw [flat_len K]; simp; omega)]
theorem gives_tailF {t : TypeId} {x lo : Operand} {I : World → Prop} {g n cc size q : Nat} {qk : IntKind} {z : Int} (ho : o.op = .slice t x (some lo) none none) (hx : ev E x = some (.slice (some ⟨g, 0, none⟩) n cc)) (hl : ev E lo = some (.int qk z)) (hz : z = (q : Int)) (ht : P.underlying t = some (.slice (P.elem t))) (hs : ∀ w : World, (sizeOf (P.elem t)).run P w = .ok size w) (hk : q < cc) (hn : q ≤ n) :
    Gives P N o E I (.slice (some ⟨g, q * size, none⟩) (n - q) (cc - q)) := gives_sliceL ho hx hl fun w => by
  have h := cut_lo (P := P) ht hs (some ⟨g, 0, none⟩) n cc q (k := qk) hz hn w
  rw [if_neg (by omega), Option.map_some] at h
  have : (⟨g, 0, none⟩ : Addr).add (q * size) = ⟨g, q * size, none⟩ := by unfold Addr.add; split <;> simp_all
  rwa [this] at h
theorem at_elT {t e : TypeId} {size : Nat} (ht : P.underlying t = some (.slice e)) (hs : ∀ w : World, (sizeOf e).run P w = .ok size w) (g q n cc i : Nat) (hi : i < n) {z : Int} (hz : z = (i : Int)) (w : World) :
    (Instr.indexAt t (.slice (some ⟨g, q * size, none⟩) n cc) (.int .i64 z)).run P w = .ok (.pointer (some ⟨g, 0 + (q + i) * size, none⟩)) w := by
  have := at_el (P := P) ht hs (A := some ⟨g, q * size, none⟩) (b := g) (off := q * size) rfl n cc i hi hz w
  rwa [show q * size + i * size = 0 + (q + i) * size by rw [Nat.add_mul]; omega] at this
theorem TL.clearF (K : Cel c k) {t e : TypeId} {s : Operand} {g q n cc m cc2 kk : Nat} {z : α} {xs : List α} (hg : o.guard = none) (hd : o.dst = none) (ho : o.op = .call { callee := .builtin .clear, args := #[s], argTypes := #[t] }) (hs : ev E s = some (.slice (some ⟨g, q * k, none⟩) m cc2))
    (ht : P.underlying t = some (.slice e)) (hz : ∀ w : World, (zeroValue e).run P w = .ok (.agg (c z).toArray) w) (hm : 0 < m) (hq : q + m = xs.length)
    (hk : L[kk]? = some (.row (.slice (some ⟨g, 0, none⟩) n cc) e k n (flat c xs)))
    (h : TL P N ops Q l E (Pm w0 (L.set kk (.row (.slice (some ⟨g, 0, none⟩) n cc) e k n (flat c (xs.take q ++ List.replicate m z)))))) : TL P N ops Q (o :: l) E (Pm w0 L) := by
  have e1 : (flat c (List.replicate m z)).length = m * k := by rw [flat_len K, List.length_replicate]
  have e2 : (flat c xs).length = q * k + m * k := by rw [flat_len K, ← hq, Nat.add_mul]
  refine TL.rowclear (zs := flat c (List.replicate m z)) hg hd ho hs ht hz (zeroCells_flat K z m) (flat_one K _) hm hk (by rw [e1, e2]; omega) (xs' := flat c (xs.take q ++ List.replicate m z)) ?_ h
  rw [e1, List.drop_of_length_le (by rw [e2]; omega), List.append_nil, flat_app, flat_take K]
theorem TL.headF (K : Cel c k) {d kk n cc hi : Nat} {t e : TypeId} {x y : Operand} {k2 : IntKind} {A : Option Addr} {xs : List α} (hg : o.guard = none) (hd : o.dst = some d) (hN : Nat.blt d N.n = true)
    (ho : o.op = .slice t x none (some y) none) (hx : ev E x = some (.slice A n cc)) (hy : ev E y = some (.int k2 (hi : Int))) (ht : P.underlying t = some (.slice (P.elem t))) (hs : ∀ w : World, (sizeOf (P.elem t)).run P w = .ok k w)
    (hk : L[kk]? = some (.row (.slice A n cc) e k n (flat c xs))) (hh : hi ≤ n) (hc : n ≤ cc)
    (h : TL P N ops Q l ((d, .slice A hi cc) :: E) (Pm w0 (L.set kk (.row (.slice A hi cc) e k hi (flat c (xs.take hi)))))) : TL P N ops Q (o :: l) E (Pm w0 L) :=
  TL.rowhead hg hd hN ho hx hy ht hs hk hh hc (flat_take K xs hi) h
theorem TL.turnRow2 {d q n cap m : Nat} {A : Option Addr} {e : TypeId} {size : Nat} {xs ys : List α} {f : FuncId} {fn : Func} {es : List Operand} {ts : Array TypeId} {vs : List Value} (hg : o.guard = none) (hd : o.dst = some d) (hN : Nat.blt d N.n = true)
    (ho : o.op = .call { callee := .value (.func f), args := es.toArray, argTypes := ts }) (hx : evs E es = some vs) (hf : P.funcs[f]? = some fn) (hn : (fn.name == "runtime.NumGoroutine") = false) (hb : fn.body.isNone = false)
    (hk : L[q]? = some (.row (.slice A n cap) e size n (flat c xs))) (hc : ∀ w, Pm w0 L w → w.ownsRow w0.b e size (.slice A n cap) n (flat c xs) → Calls P f vs.toArray w fun en w' => en = .returned (.slice A m cap) ∧ w'.ownsRow w0.b e size (.slice A m cap) m (flat c ys) ∧ w.grownBy w' (Value.ownBlock (.slice A n cap)))
    (h : TL P N ops Q l ((d, .slice A m cap) :: E) (Pm w0 (L.set q (.row (.slice A m cap) e size m (flat c ys))))) : TL P N ops Q (o :: l) E (Pm w0 L) :=
  TL.call (α := Unit) (r := fun _ => .slice A m cap) (I' := fun _ => Pm w0 (L.set q (.row (.slice A m cap) e size m (flat c ys)))) hg hd hN ho hx hf hn hb (fun w hw => (hc w hw (hw.at_ hk)).mono fun en w' ⟨he, hr, hgr⟩ => ⟨(), he, by
    cases A with
    | none =>
      have hE : w.grownBy w' none := hgr
      exact hw.turn hk hE hr (fun g hg => by cases hg) (fun _ _ e => by cases e)
    | some a => exact hw.turn hk hgr hr (fun g' hg' => .inl hg') (fun _ _ e => by cases e)⟩) (fun _ => h)
end
set_option maxRecDepth 20000
def Trc.zero : Trc := ⟨0, 0, 0⟩
theorem pcpag32 (w : World) : (isAgg 32).run Tryz.prog w = .ok true w := rfl
theorem compactRs_g (g n c : Nat) (xs : List Rs) (w : World) (h : RwG 65 17 w g n c (flat Rs.cells xs)) (hl : xs.length = n) (hn : n ≤ 1000000) :
  Calls Tryz.prog 134 #[.slice (some ⟨g, 0, none⟩) n c] w fun en w' => en = .returned (.slice (some ⟨g, 0, none⟩) (cptG xs).length c) ∧ RwG 65 17 w' g (cptG xs).length c (flat Rs.cells (cptG xs)) ∧ w.grownBy w' (some g) := by
 have hcap := h.obj.2.1
 have hmax := h.obj.2.2
 refine begin_ (vs := [.slice (some ⟨g, 0, none⟩) n c]) (I := Pm ⟨wbut w g, g⟩ (.row (.slice (some ⟨g, 0, none⟩) n c) 65 17 n (flat Rs.cells xs) :: oths g w)) Tryz.func134 rfl rfl rfl ?_ (Pm.rowStartG h)
 refine zSG (TL.as_ ?_)
 refine zET (zS (zSG (TL.mv ?_)))
 refine TL.v (gN Tryz.underlying23) ?_
 refine TL.sp bin_lss (fun q8 => ?_) (fun q8 => ?_)
 ·have hE : cptG xs = xs := cptG_short (by omega)
  refine zET (zc (zSG (TL.rn 2 rfl (zET (zr (zR ?_))))))
  exact ret_tmp Tryz.results134 rfl (fun w1 hw => by rw [hE, hl]; exact ⟨rfl, pm_rowAtG hw (k := 0) rfl, hw.mapEnd (fun q hq => by simp [hq])⟩)
 refine zET (zd (zk (zT (zS (zSG (TL.as_ ?_))))))
 refine zET (zB ?_)
 refine TC.loop_ (α := {k : Nat // 1 ≤ k ∧ k ≤ n ∧ cptG (xs.take k) = xs.take k}) (fun y => [(0, .slice (some ⟨g, 0, none⟩) n c), (3, .int .i64 ((y.1 : Nat) : Int))]) (fun y => Pm ⟨wbut w g, g⟩ ([.row (.slice (some ⟨g, 0, none⟩) n c) 65 17 n (flat Rs.cells xs)] ++ oths g w)) (fun y => n - y.1) (⟨1, Nat.le_refl _, by omega, cptG_take1 xs⟩) ⟨rfl, rfl, trivial⟩ (fun w1 hw => hw) ?_
 rintro ⟨k0, hk1, hk2, hK⟩
 try dsimp only
 refine zS (zSG (TL.rn 2 rfl (TL.v (gN Tryz.underlying23) ?_)))
 refine TL.sp bin_lss (fun q13 => ?_) (fun q13 => ?_)
 ·refine zET (zc (zk (zT (zS (zB (zS (TC.quietQ (by kernel_rfl) (by kernel_rfl) (fun w hw => hw.drawn _) ?_)))))))
  refine TQ.rn 2 rfl ?_
  have hi18 : k0 < xs.length := by omega
  obtain ⟨x18, hx18⟩ := ex_at hi18
  refine TQ.val rfl rfl rfl (gA (i := k0) Tryz.underlying23 prssz65 rfl rfl rfl rfl rfl (by omega)) ?_
  refine TQ.val rfl rfl rfl (gives_loadR (off := 0 + k0 * 17) rfl rfl prsag65 prssz65 (rs_cel.len x18) (fun w1 hw j9 u9 h9 => flat_row rs_cel hw (q := 0) rfl hx18 j9 u9 h9)) ?_
  refine TQ.rn 2 rfl ?_
  refine TQ.val rfl rfl rfl (gives_bin rfl rfl rfl (fun w => bin_sub_ (r := ((k0 - 1 : Nat) : Int)) (by simp only [IntKind.wrap_i64]; omega) w)) ?_
  have hi23 : k0 - 1 < xs.length := by omega
  obtain ⟨x23, hx23⟩ := ex_at hi23
  refine TQ.val rfl rfl rfl (gA (i := (k0 - 1)) Tryz.underlying23 prssz65 rfl rfl rfl rfl rfl (by omega)) ?_
  refine TQ.val rfl rfl rfl (gives_loadR (off := 0 + (k0 - 1) * 17) rfl rfl prsag65 prssz65 (rs_cel.len x23) (fun w1 hw j9 u9 h9 => flat_row rs_cel hw (q := 0) rfl hx23 j9 u9 h9)) ?_
  refine TQ.vsplit rfl rfl rfl (gives_bin2 rfl rfl rfl (fun w => rs_eql x18 x23 _ _ w)) (fun h25 => ?_) (fun h25 => ?_)
  ·have q25 := of_decide_eq_true h25
   have hst := cptG_step hx18 hx23 hk1
   have hK2 : cptG (xs.take (k0 + 1)) = xs.take k0 := by rw [hst, if_pos q25.symm]; exact hK
   refine TQ.fin ?_
   refine zT (zc (zSG (TL.rn 2 rfl ?_)))
   refine TL.val rfl rfl rfl (gives_tailF (q := k0) rfl rfl rfl rfl Tryz.underlying23 prssz65 (by omega) (by omega)) ?_
   refine TL.as_ ?_
   refine zET (zS (zSG (TL.as_ ?_)))
   refine zET (zB ?_)
   refine TC.loop_ (α := {y : Nat × Nat × List Rs // (1 ≤ y.2.1 ∧ y.2.1 ≤ n - k0 ∧ k0 ≤ y.1 ∧ y.1 ≤ k0 + y.2.1 - 1) ∧ y.2.2.length = n ∧ (∀ p, k0 + y.2.1 - 1 ≤ p → y.2.2[p]? = xs[p]?) ∧ y.2.2.take y.1 = cptG (xs.take (k0 + y.2.1))}) (fun y => [(0, .slice (some ⟨g, 0, none⟩) n c), (3, .int .i64 ((y.1.1 : Nat) : Int)), (4, .slice (some ⟨g, k0 * 17, none⟩) (n - k0) (c - k0)), (5, .int .i64 ((y.1.2.1 : Nat) : Int))]) (fun y => Pm ⟨wbut w g, g⟩ ([.row (.slice (some ⟨g, 0, none⟩) n c) 65 17 n (flat Rs.cells y.1.2.2)] ++ oths g w)) (fun y => n - y.1.2.1) (⟨(k0, 1, xs), by dsimp only; omega, hl, fun p _ => rfl, hK2.symm⟩) ⟨rfl, rfl, rfl, rfl, trivial⟩ (fun w1 hw => hw) ?_
   rintro ⟨⟨k, j, ys⟩, ⟨hj1, hj2, hj3, hj4⟩, hly, hI, hT⟩
   dsimp only at hj1 hj2 hj3 hj4 hly hI hT ⊢
   refine zS (zSG (TL.rn 2 rfl (TL.v (gN Tryz.underlying23) ?_)))
   refine TL.sp bin_lss (fun q32 => ?_) (fun q32 => ?_)
   ·refine zET (zc (zk (zT (zS (zB (zS (TC.quietQ (by kernel_rfl) (by kernel_rfl) (fun w hw => hw.drawn _) ?_)))))))
    refine TQ.rn 2 rfl ?_
    have hi37 : (k0 + j) < ys.length := by omega
    obtain ⟨x37, hx37⟩ := ex_at hi37
    refine TQ.val rfl rfl rfl (gives_at (v := .pointer (some ⟨g, 0 + (k0 + j) * 17, none⟩)) rfl rfl rfl (fun w => at_elT Tryz.underlying23 prssz65 g k0 _ _ j (by omega) rfl w)) ?_
    refine TQ.val rfl rfl rfl (gives_loadR (off := 0 + (k0 + j) * 17) rfl rfl prsag65 prssz65 (rs_cel.len x37) (fun w1 hw j9 u9 h9 => flat_row rs_cel hw (q := 0) rfl hx37 j9 u9 h9)) ?_
    refine TQ.rn 2 rfl ?_
    refine TQ.val rfl rfl rfl (gives_bin rfl rfl rfl (fun w => bin_sub_ (r := ((j - 1 : Nat) : Int)) (by simp only [IntKind.wrap_i64]; omega) w)) ?_
    have hi42 : (k0 + (j - 1)) < ys.length := by omega
    obtain ⟨x42, hx42⟩ := ex_at hi42
    refine TQ.val rfl rfl rfl (gives_at (v := .pointer (some ⟨g, 0 + (k0 + (j - 1)) * 17, none⟩)) rfl rfl rfl (fun w => at_elT Tryz.underlying23 prssz65 g k0 _ _ (j - 1) (by omega) rfl w)) ?_
    refine TQ.val rfl rfl rfl (gives_loadR (off := 0 + (k0 + (j - 1)) * 17) rfl rfl prsag65 prssz65 (rs_cel.len x42) (fun w1 hw j9 u9 h9 => flat_row rs_cel hw (q := 0) rfl hx42 j9 u9 h9)) ?_
    refine TQ.vsplit rfl rfl rfl (gives_bin2 rfl rfl rfl (fun w => rs_neqd x37 x42 _ _ w)) (fun h44 => ?_) (fun h44 => ?_)
    ·have q44 := of_decide_eq_true h44
     have hst := cptG_step (by rw [← hI _ (by omega)]; exact hx37) (by rw [← hI _ (by omega), show k0 + j - 1 = k0 + (j - 1) by omega]; exact hx42) (by omega : 1 ≤ k0 + j)
     have hc1 : ∀ p, k0 + (j + 1) - 1 ≤ p → (ys.set k x37)[p]? = xs[p]? := fun p hp => by rw [List.getElem?_set_ne (by omega)]; exact hI p (by omega)
     have hc2 : (ys.set k x37).take (k + 1) = cptG (xs.take (k0 + (j + 1))) := by
      rw [List.take_add_one, List.take_set_of_le (Nat.le_refl _), List.getElem?_set_self (by omega), hT, show k0 + (j + 1) = k0 + j + 1 from rfl, hst, if_neg (fun hh => q44 hh.symm)]; rfl
     refine TQ.fin ?_
     refine zT (zc (zSG (TL.rn 4 rfl ?_)))
     refine TL.val rfl rfl rfl (gives_at (v := .pointer (some ⟨g, 0 + (k0 + j) * 17, none⟩)) rfl rfl rfl (fun w => at_elT Tryz.underlying23 prssz65 g k0 _ _ j (by omega) rfl w)) ?_
     refine TL.val rfl rfl rfl (gives_loadR (off := 0 + (k0 + j) * 17) rfl rfl prsag65 prssz65 (rs_cel.len x37) (fun w1 hw j9 u9 h9 => flat_row rs_cel hw (q := 0) rfl hx37 j9 u9 h9)) ?_
     have hi51 : k < ys.length := by omega
     obtain ⟨x51, hx51⟩ := ex_at hi51
     refine TL.val rfl rfl rfl (gA (i := k) Tryz.underlying23 prssz65 rfl rfl rfl rfl rfl (by omega)) ?_
     refine TL.rowset (k := 0) (vs := x37.cells) (xs' := flat Rs.cells (ys.set k x37)) rfl rfl rfl rfl rfl rfl rfl prssz65 (rs_cel.one _) (by rw [flat_len rs_cel]; show 0 + k * 17 + 17 ≤ _; omega) (flat_put rs_cel (q := 0) (y := x37) hx51 (by show 0 + 17 ≤ 17; decide) rfl) ?_
     try dsimp only [List.set_cons_zero, List.set_cons_succ]
     refine zET (zG (TL.mv ?_))
     refine TL.v (gD ((k + 1 : Nat) : Int)) ?_
     refine TL.as_ ?_
     refine zE (zN (zT (zG (TL.mv ?_))))
     refine TL.v (gD ((j + 1 : Nat) : Int)) ?_
     refine TL.as_ ?_
     refine zE ?_
     exact TX.round (⟨(k + 1, j + 1, ys.set k x37), by dsimp only; omega, by rw [List.length_set]; exact hly, hc1, hc2⟩) (by show n - (j + 1) < n - j; omega) ⟨rfl, rfl, rfl, rfl, trivial⟩ (fun w1 hw => hw)
    have q44 := of_decide_eq_false h44
    have hst := cptG_step (by rw [← hI _ (by omega)]; exact hx37) (by rw [← hI _ (by omega), show k0 + j - 1 = k0 + (j - 1) by omega]; exact hx42) (by omega : 1 ≤ k0 + j)
    have hd1 : ∀ p, k0 + (j + 1) - 1 ≤ p → ys[p]? = xs[p]? := fun p hp => hI p (by omega)
    have hd2 : ys.take k = cptG (xs.take (k0 + (j + 1))) := by rw [hT, show k0 + (j + 1) = k0 + j + 1 from rfl, hst, if_pos (Decidable.not_not.1 q44).symm]
    refine TQ.fin ?_
    refine zT (zd (zk (zN (zT (zG (TL.mv ?_))))))
    refine TL.v (gD ((j + 1 : Nat) : Int)) ?_
    refine TL.as_ ?_
    refine zE ?_
    exact TX.round (⟨(k, j + 1, ys), by dsimp only; omega, hly, hd1, hd2⟩) (by show n - (j + 1) < n - j; omega) ⟨rfl, rfl, rfl, rfl, trivial⟩ (fun w1 hw => hw)
   obtain rfl : j = n - k0 := by omega
   have hC : ys.take k = cptG xs := by rw [hT, List.take_of_length_le (by omega)]
   refine zET (zd (zx (zX (zX (zM (zT (zSG (TL.rn 2 rfl ?_))))))))
   refine TL.val rfl rfl rfl (gives_tailF (q := k) rfl rfl rfl rfl Tryz.underlying23 prssz65 (by omega) (by omega)) ?_
   refine TL.clearF rs_cel (kk := 0) (q := k) (z := Rs.zero) rfl rfl rfl rfl Tryz.underlying23 arpzv65 (by omega) (by omega) rfl ?_
   try dsimp only [List.set_cons_zero]
   refine zET (zSG (TL.rn 2 rfl ?_))
   refine TL.headF rs_cel (kk := 0) (hi := k) rfl rfl rfl rfl rfl rfl Tryz.underlying23 prssz65 rfl (by omega) (by omega) ?_
   try dsimp only [List.set_cons_zero]
   refine TL.as_ ?_
   refine zET (zr (zRR (zR (zRR ?_))))
   have hfin : (ys.take k ++ List.replicate (n - k) Rs.zero).take k = cptG xs := by rw [List.take_left' (by rw [List.length_take]; omega)]; exact hC
   have hkl : (cptG xs).length = k := by rw [← hC, List.length_take]; omega
   rw [hfin]
   exact ret_tmp Tryz.results134 rfl (fun w1 hw => ⟨by rw [hkl], by rw [hkl]; exact (pm_rowAtG hw (k := 0) rfl), hw.mapEnd (fun q hq => by simp [hq])⟩)
  have q25 := of_decide_eq_false h25
  have hst := cptG_step hx18 hx23 hk1
  have hK2 : cptG (xs.take (k0 + 1)) = xs.take (k0 + 1) := by rw [hst, if_neg (fun hh => q25 hh.symm), hK, List.take_add_one, hx18]; rfl
  refine TQ.fin ?_
  refine zT (zd (zk (zN (zT (zG (TL.mv ?_))))))
  refine TL.v (gD ((k0 + 1 : Nat) : Int)) ?_
  refine TL.as_ ?_
  refine zE ?_
  exact TX.round (⟨k0 + 1, by omega, by omega, hK2⟩) (by show n - (k0 + 1) < n - k0; omega) ⟨rfl, rfl, trivial⟩ (fun w1 hw => hw)
 obtain rfl : k0 = n := by omega
 have hE : cptG xs = xs := by rw [List.take_of_length_le (by omega)] at hK; exact hK
 refine zET (zd (zx (zX (zX (zM (zT (zSG (TL.rn 2 rfl (zET (zr ?_))))))))))
 exact ret_tmp Tryz.results134 rfl (fun w1 hw => by rw [hE, hl]; exact ⟨rfl, pm_rowAtG hw (k := 0) rfl, hw.mapEnd (fun q hq => by simp [hq])⟩)
theorem compactRs_nil (w : World) : Calls Tryz.prog 134 #[.slice none 0 0] w fun en w' => en = .returned (.slice none 0 0) ∧ Below w.heap.size w w' := by
 refine begin_ (vs := [.slice none 0 0]) Tryz.func134 rfl rfl rfl ?_ (Pm.start w)
 refine zSG (TL.as_ ?_)
 refine zET (zS (zSG (TL.mv ?_)))
 refine TL.v (gN Tryz.underlying23) ?_
 refine TL.val rfl rfl rfl (gives_bin rfl rfl rfl (fun w => bin_lss_t (by decide) w)) ?_
 refine zET (zc (zSG (TL.rn 2 rfl (zET (zr (zR ?_))))))
 exact ret_tmp Tryz.results134 rfl (fun w1 hw => ⟨rfl, hw.bel⟩)
theorem compactRs {b n cap : Nat} {A : Option Addr} {l : List Rs} {w : World} (hr : w.ownsRow b 65 17 (.slice A n cap) n (flat Rs.cells l)) (hl : l.length = n) (hn : n ≤ 1000000) :
  Calls Tryz.prog 134 #[.slice A n cap] w fun en w' => en = .returned (.slice A (cptG l).length cap) ∧ w'.ownsRow b 65 17 (.slice A (cptG l).length cap) (cptG l).length (flat Rs.cells (cptG l)) ∧ w.grownBy w' (Value.ownBlock (.slice A n cap)) := by
 rcases id hr.2 with ⟨hv, h0⟩ | ⟨q, cap', cur, hv, hb, hq, h1, h2, h3, h4⟩
 ·cases hv
  obtain rfl : l = [] := List.eq_nil_of_length_eq_zero (by omega)
  refine (compactRs_nil w).mono fun en w' ⟨h5, h6⟩ => ⟨h5, ⟨rfl, .inl ⟨rfl, rfl⟩⟩, ?_⟩
  exact ⟨h6.os, h6.tape, h6.output, h6.size, fun k hk _ => h6.block k hk⟩
 cases hv
 refine (compactRs_g q n cap l w ⟨hr.1, .inr ⟨q, cap, cur, rfl, Nat.le_refl _, hq, h1, h2, h3, h4⟩⟩ hl hn).mono fun en w' ⟨h5, h6, h7⟩ => ⟨h5, ⟨h6.1, ?_⟩, h7⟩
 rcases h6.2 with ⟨e1, _⟩ | ⟨q', c2, cur2, e1, e2, e3⟩
 ·cases e1
 cases e1
 exact .inr ⟨q, cap, cur2, rfl, hb, e3⟩
theorem compactTrc_g (g n c : Nat) (xs : List Trc) (w : World) (h : RwG 32 3 w g n c (flat Trc.cells xs)) (hl : xs.length = n) (hn : n ≤ 1000000) :
  Calls Tryz.prog 138 #[.slice (some ⟨g, 0, none⟩) n c] w fun en w' => en = .returned (.slice (some ⟨g, 0, none⟩) (cptG xs).length c) ∧ RwG 32 3 w' g (cptG xs).length c (flat Trc.cells (cptG xs)) ∧ w.grownBy w' (some g) := by
 have hcap := h.obj.2.1
 have hmax := h.obj.2.2
 refine begin_ (vs := [.slice (some ⟨g, 0, none⟩) n c]) (I := Pm ⟨wbut w g, g⟩ (.row (.slice (some ⟨g, 0, none⟩) n c) 32 3 n (flat Trc.cells xs) :: oths g w)) Tryz.func138 rfl rfl rfl ?_ (Pm.rowStartG h)
 refine zSG (TL.as_ ?_)
 refine zET (zS (zSG (TL.mv ?_)))
 refine TL.v (gN Tryz.underlying128) ?_
 refine TL.sp bin_lss (fun q8 => ?_) (fun q8 => ?_)
 ·have hE : cptG xs = xs := cptG_short (by omega)
  refine zET (zc (zSG (TL.rn 2 rfl (zET (zr (zR ?_))))))
  exact ret_tmp Tryz.results138 rfl (fun w1 hw => by rw [hE, hl]; exact ⟨rfl, pm_rowAtG hw (k := 0) rfl, hw.mapEnd (fun q hq => by simp [hq])⟩)
 refine zET (zd (zk (zT (zS (zSG (TL.as_ ?_))))))
 refine zET (zB ?_)
 refine TC.loop_ (α := {k : Nat // 1 ≤ k ∧ k ≤ n ∧ cptG (xs.take k) = xs.take k}) (fun y => [(0, .slice (some ⟨g, 0, none⟩) n c), (3, .int .i64 ((y.1 : Nat) : Int))]) (fun y => Pm ⟨wbut w g, g⟩ ([.row (.slice (some ⟨g, 0, none⟩) n c) 32 3 n (flat Trc.cells xs)] ++ oths g w)) (fun y => n - y.1) (⟨1, Nat.le_refl _, by omega, cptG_take1 xs⟩) ⟨rfl, rfl, trivial⟩ (fun w1 hw => hw) ?_
 rintro ⟨k0, hk1, hk2, hK⟩
 try dsimp only
 refine zS (zSG (TL.rn 2 rfl (TL.v (gN Tryz.underlying128) ?_)))
 refine TL.sp bin_lss (fun q13 => ?_) (fun q13 => ?_)
 ·refine zET (zc (zk (zT (zS (zB (zS (TC.quietQ (by kernel_rfl) (by kernel_rfl) (fun w hw => hw.drawn _) ?_)))))))
  refine TQ.rn 2 rfl ?_
  have hi18 : k0 < xs.length := by omega
  obtain ⟨x18, hx18⟩ := ex_at hi18
  refine TQ.val rfl rfl rfl (gA (i := k0) Tryz.underlying128 prssz32 rfl rfl rfl rfl rfl (by omega)) ?_
  refine TQ.val rfl rfl rfl (gives_loadR (off := 0 + k0 * 3) rfl rfl pcpag32 prssz32 (trc_cel.len x18) (fun w1 hw j9 u9 h9 => flat_row trc_cel hw (q := 0) rfl hx18 j9 u9 h9)) ?_
  refine TQ.rn 2 rfl ?_
  refine TQ.val rfl rfl rfl (gives_bin rfl rfl rfl (fun w => bin_sub_ (r := ((k0 - 1 : Nat) : Int)) (by simp only [IntKind.wrap_i64]; omega) w)) ?_
  have hi23 : k0 - 1 < xs.length := by omega
  obtain ⟨x23, hx23⟩ := ex_at hi23
  refine TQ.val rfl rfl rfl (gA (i := (k0 - 1)) Tryz.underlying128 prssz32 rfl rfl rfl rfl rfl (by omega)) ?_
  refine TQ.val rfl rfl rfl (gives_loadR (off := 0 + (k0 - 1) * 3) rfl rfl pcpag32 prssz32 (trc_cel.len x23) (fun w1 hw j9 u9 h9 => flat_row trc_cel hw (q := 0) rfl hx23 j9 u9 h9)) ?_
  refine TQ.vsplit rfl rfl rfl (gives_bin2 rfl rfl rfl (fun w => trc_eql x18 x23 _ _ w)) (fun h25 => ?_) (fun h25 => ?_)
  ·have q25 := of_decide_eq_true h25
   have hst := cptG_step hx18 hx23 hk1
   have hK2 : cptG (xs.take (k0 + 1)) = xs.take k0 := by rw [hst, if_pos q25.symm]; exact hK
   refine TQ.fin ?_
   refine zT (zc (zSG (TL.rn 2 rfl ?_)))
   refine TL.val rfl rfl rfl (gives_tailF (q := k0) rfl rfl rfl rfl Tryz.underlying128 prssz32 (by omega) (by omega)) ?_
   refine TL.as_ ?_
   refine zET (zS (zSG (TL.as_ ?_)))
   refine zET (zB ?_)
   refine TC.loop_ (α := {y : Nat × Nat × List Trc // (1 ≤ y.2.1 ∧ y.2.1 ≤ n - k0 ∧ k0 ≤ y.1 ∧ y.1 ≤ k0 + y.2.1 - 1) ∧ y.2.2.length = n ∧ (∀ p, k0 + y.2.1 - 1 ≤ p → y.2.2[p]? = xs[p]?) ∧ y.2.2.take y.1 = cptG (xs.take (k0 + y.2.1))}) (fun y => [(0, .slice (some ⟨g, 0, none⟩) n c), (3, .int .i64 ((y.1.1 : Nat) : Int)), (4, .slice (some ⟨g, k0 * 3, none⟩) (n - k0) (c - k0)), (5, .int .i64 ((y.1.2.1 : Nat) : Int))]) (fun y => Pm ⟨wbut w g, g⟩ ([.row (.slice (some ⟨g, 0, none⟩) n c) 32 3 n (flat Trc.cells y.1.2.2)] ++ oths g w)) (fun y => n - y.1.2.1) (⟨(k0, 1, xs), by dsimp only; omega, hl, fun p _ => rfl, hK2.symm⟩) ⟨rfl, rfl, rfl, rfl, trivial⟩ (fun w1 hw => hw) ?_
   rintro ⟨⟨k, j, ys⟩, ⟨hj1, hj2, hj3, hj4⟩, hly, hI, hT⟩
   dsimp only at hj1 hj2 hj3 hj4 hly hI hT ⊢
   refine zS (zSG (TL.rn 2 rfl (TL.v (gN Tryz.underlying128) ?_)))
   refine TL.sp bin_lss (fun q32 => ?_) (fun q32 => ?_)
   ·refine zET (zc (zk (zT (zS (zB (zS (TC.quietQ (by kernel_rfl) (by kernel_rfl) (fun w hw => hw.drawn _) ?_)))))))
    refine TQ.rn 2 rfl ?_
    have hi37 : (k0 + j) < ys.length := by omega
    obtain ⟨x37, hx37⟩ := ex_at hi37
    refine TQ.val rfl rfl rfl (gives_at (v := .pointer (some ⟨g, 0 + (k0 + j) * 3, none⟩)) rfl rfl rfl (fun w => at_elT Tryz.underlying128 prssz32 g k0 _ _ j (by omega) rfl w)) ?_
    refine TQ.val rfl rfl rfl (gives_loadR (off := 0 + (k0 + j) * 3) rfl rfl pcpag32 prssz32 (trc_cel.len x37) (fun w1 hw j9 u9 h9 => flat_row trc_cel hw (q := 0) rfl hx37 j9 u9 h9)) ?_
    refine TQ.rn 2 rfl ?_
    refine TQ.val rfl rfl rfl (gives_bin rfl rfl rfl (fun w => bin_sub_ (r := ((j - 1 : Nat) : Int)) (by simp only [IntKind.wrap_i64]; omega) w)) ?_
    have hi42 : (k0 + (j - 1)) < ys.length := by omega
    obtain ⟨x42, hx42⟩ := ex_at hi42
    refine TQ.val rfl rfl rfl (gives_at (v := .pointer (some ⟨g, 0 + (k0 + (j - 1)) * 3, none⟩)) rfl rfl rfl (fun w => at_elT Tryz.underlying128 prssz32 g k0 _ _ (j - 1) (by omega) rfl w)) ?_
    refine TQ.val rfl rfl rfl (gives_loadR (off := 0 + (k0 + (j - 1)) * 3) rfl rfl pcpag32 prssz32 (trc_cel.len x42) (fun w1 hw j9 u9 h9 => flat_row trc_cel hw (q := 0) rfl hx42 j9 u9 h9)) ?_
    refine TQ.vsplit rfl rfl rfl (gives_bin2 rfl rfl rfl (fun w => trc_neqd x37 x42 _ _ w)) (fun h44 => ?_) (fun h44 => ?_)
    ·have q44 := of_decide_eq_true h44
     have hst := cptG_step (by rw [← hI _ (by omega)]; exact hx37) (by rw [← hI _ (by omega), show k0 + j - 1 = k0 + (j - 1) by omega]; exact hx42) (by omega : 1 ≤ k0 + j)
     have hc1 : ∀ p, k0 + (j + 1) - 1 ≤ p → (ys.set k x37)[p]? = xs[p]? := fun p hp => by rw [List.getElem?_set_ne (by omega)]; exact hI p (by omega)
     have hc2 : (ys.set k x37).take (k + 1) = cptG (xs.take (k0 + (j + 1))) := by
      rw [List.take_add_one, List.take_set_of_le (Nat.le_refl _), List.getElem?_set_self (by omega), hT, show k0 + (j + 1) = k0 + j + 1 from rfl, hst, if_neg (fun hh => q44 hh.symm)]; rfl
     refine TQ.fin ?_
     refine zT (zc (zSG (TL.rn 4 rfl ?_)))
     refine TL.val rfl rfl rfl (gives_at (v := .pointer (some ⟨g, 0 + (k0 + j) * 3, none⟩)) rfl rfl rfl (fun w => at_elT Tryz.underlying128 prssz32 g k0 _ _ j (by omega) rfl w)) ?_
     refine TL.val rfl rfl rfl (gives_loadR (off := 0 + (k0 + j) * 3) rfl rfl pcpag32 prssz32 (trc_cel.len x37) (fun w1 hw j9 u9 h9 => flat_row trc_cel hw (q := 0) rfl hx37 j9 u9 h9)) ?_
     have hi51 : k < ys.length := by omega
     obtain ⟨x51, hx51⟩ := ex_at hi51
     refine TL.val rfl rfl rfl (gA (i := k) Tryz.underlying128 prssz32 rfl rfl rfl rfl rfl (by omega)) ?_
     refine TL.rowset (k := 0) (vs := x37.cells) (xs' := flat Trc.cells (ys.set k x37)) rfl rfl rfl rfl rfl rfl rfl prssz32 (trc_cel.one _) (by rw [flat_len trc_cel]; show 0 + k * 3 + 3 ≤ _; omega) (flat_put trc_cel (q := 0) (y := x37) hx51 (by show 0 + 3 ≤ 3; decide) rfl) ?_
     try dsimp only [List.set_cons_zero, List.set_cons_succ]
     refine zET (zG (TL.mv ?_))
     refine TL.v (gD ((k + 1 : Nat) : Int)) ?_
     refine TL.as_ ?_
     refine zE (zN (zT (zG (TL.mv ?_))))
     refine TL.v (gD ((j + 1 : Nat) : Int)) ?_
     refine TL.as_ ?_
     refine zE ?_
     exact TX.round (⟨(k + 1, j + 1, ys.set k x37), by dsimp only; omega, by rw [List.length_set]; exact hly, hc1, hc2⟩) (by show n - (j + 1) < n - j; omega) ⟨rfl, rfl, rfl, rfl, trivial⟩ (fun w1 hw => hw)
    have q44 := of_decide_eq_false h44
    have hst := cptG_step (by rw [← hI _ (by omega)]; exact hx37) (by rw [← hI _ (by omega), show k0 + j - 1 = k0 + (j - 1) by omega]; exact hx42) (by omega : 1 ≤ k0 + j)
    have hd1 : ∀ p, k0 + (j + 1) - 1 ≤ p → ys[p]? = xs[p]? := fun p hp => hI p (by omega)
    have hd2 : ys.take k = cptG (xs.take (k0 + (j + 1))) := by rw [hT, show k0 + (j + 1) = k0 + j + 1 from rfl, hst, if_pos (Decidable.not_not.1 q44).symm]
    refine TQ.fin ?_
    refine zT (zd (zk (zN (zT (zG (TL.mv ?_))))))
    refine TL.v (gD ((j + 1 : Nat) : Int)) ?_
    refine TL.as_ ?_
    refine zE ?_
    exact TX.round (⟨(k, j + 1, ys), by dsimp only; omega, hly, hd1, hd2⟩) (by show n - (j + 1) < n - j; omega) ⟨rfl, rfl, rfl, rfl, trivial⟩ (fun w1 hw => hw)
   obtain rfl : j = n - k0 := by omega
   have hC : ys.take k = cptG xs := by rw [hT, List.take_of_length_le (by omega)]
   refine zET (zd (zx (zX (zX (zM (zT (zSG (TL.rn 2 rfl ?_))))))))
   refine TL.val rfl rfl rfl (gives_tailF (q := k) rfl rfl rfl rfl Tryz.underlying128 prssz32 (by omega) (by omega)) ?_
   refine TL.clearF trc_cel (kk := 0) (q := k) (z := Trc.zero) rfl rfl rfl rfl Tryz.underlying128 prszv32 (by omega) (by omega) rfl ?_
   try dsimp only [List.set_cons_zero]
   refine zET (zSG (TL.rn 2 rfl ?_))
   refine TL.headF trc_cel (kk := 0) (hi := k) rfl rfl rfl rfl rfl rfl Tryz.underlying128 prssz32 rfl (by omega) (by omega) ?_
   try dsimp only [List.set_cons_zero]
   refine TL.as_ ?_
   refine zET (zr (zRR (zR (zRR ?_))))
   have hfin : (ys.take k ++ List.replicate (n - k) Trc.zero).take k = cptG xs := by rw [List.take_left' (by rw [List.length_take]; omega)]; exact hC
   have hkl : (cptG xs).length = k := by rw [← hC, List.length_take]; omega
   rw [hfin]
   exact ret_tmp Tryz.results138 rfl (fun w1 hw => ⟨by rw [hkl], by rw [hkl]; exact (pm_rowAtG hw (k := 0) rfl), hw.mapEnd (fun q hq => by simp [hq])⟩)
  have q25 := of_decide_eq_false h25
  have hst := cptG_step hx18 hx23 hk1
  have hK2 : cptG (xs.take (k0 + 1)) = xs.take (k0 + 1) := by rw [hst, if_neg (fun hh => q25 hh.symm), hK, List.take_add_one, hx18]; rfl
  refine TQ.fin ?_
  refine zT (zd (zk (zN (zT (zG (TL.mv ?_))))))
  refine TL.v (gD ((k0 + 1 : Nat) : Int)) ?_
  refine TL.as_ ?_
  refine zE ?_
  exact TX.round (⟨k0 + 1, by omega, by omega, hK2⟩) (by show n - (k0 + 1) < n - k0; omega) ⟨rfl, rfl, trivial⟩ (fun w1 hw => hw)
 obtain rfl : k0 = n := by omega
 have hE : cptG xs = xs := by rw [List.take_of_length_le (by omega)] at hK; exact hK
 refine zET (zd (zx (zX (zX (zM (zT (zSG (TL.rn 2 rfl (zET (zr ?_))))))))))
 exact ret_tmp Tryz.results138 rfl (fun w1 hw => by rw [hE, hl]; exact ⟨rfl, pm_rowAtG hw (k := 0) rfl, hw.mapEnd (fun q hq => by simp [hq])⟩)
theorem compactTrc_nil (w : World) : Calls Tryz.prog 138 #[.slice none 0 0] w fun en w' => en = .returned (.slice none 0 0) ∧ Below w.heap.size w w' := by
 refine begin_ (vs := [.slice none 0 0]) Tryz.func138 rfl rfl rfl ?_ (Pm.start w)
 refine zSG (TL.as_ ?_)
 refine zET (zS (zSG (TL.mv ?_)))
 refine TL.v (gN Tryz.underlying128) ?_
 refine TL.val rfl rfl rfl (gives_bin rfl rfl rfl (fun w => bin_lss_t (by decide) w)) ?_
 refine zET (zc (zSG (TL.rn 2 rfl (zET (zr (zR ?_))))))
 exact ret_tmp Tryz.results138 rfl (fun w1 hw => ⟨rfl, hw.bel⟩)
theorem compactTrc {b n cap : Nat} {A : Option Addr} {l : List Trc} {w : World} (hr : w.ownsRow b 32 3 (.slice A n cap) n (flat Trc.cells l)) (hl : l.length = n) (hn : n ≤ 1000000) :
  Calls Tryz.prog 138 #[.slice A n cap] w fun en w' => en = .returned (.slice A (cptG l).length cap) ∧ w'.ownsRow b 32 3 (.slice A (cptG l).length cap) (cptG l).length (flat Trc.cells (cptG l)) ∧ w.grownBy w' (Value.ownBlock (.slice A n cap)) := by
 rcases id hr.2 with ⟨hv, h0⟩ | ⟨q, cap', cur, hv, hb, hq, h1, h2, h3, h4⟩
 ·cases hv
  obtain rfl : l = [] := List.eq_nil_of_length_eq_zero (by omega)
  refine (compactTrc_nil w).mono fun en w' ⟨h5, h6⟩ => ⟨h5, ⟨rfl, .inl ⟨rfl, rfl⟩⟩, ?_⟩
  exact ⟨h6.os, h6.tape, h6.output, h6.size, fun k hk _ => h6.block k hk⟩
 cases hv
 refine (compactTrc_g q n cap l w ⟨hr.1, .inr ⟨q, cap, cur, rfl, Nat.le_refl _, hq, h1, h2, h3, h4⟩⟩ hl hn).mono fun en w' ⟨h5, h6, h7⟩ => ⟨h5, ⟨h6.1, ?_⟩, h7⟩
 rcases h6.2 with ⟨e1, _⟩ | ⟨q', c2, cur2, e1, e2, e3⟩
 ·cases e1
 cases e1
 exact .inr ⟨q, cap, cur2, rfl, hb, e3⟩
section
variable {α : Type} {key : α → List Int} {n : Nat}
def AscK (key : α → List Int) (l : List α) : Prop := l.Pairwise fun x y => lexI (key x) (key y) < 0
theorem ltK_irrefl (x : α) : ¬ lexI (key x) (key x) < 0 := by rw [lexI_self]; omega
theorem ltK_trans (hk : ∀ x, (key x).length = n) {x y z : α} (h1 : lexI (key x) (key y) < 0) (h2 : lexI (key y) (key z) < 0) : lexI (key x) (key z) < 0 :=
  (lexI_trans (by rw [hk, hk]) (by rw [hk, hk]) (by omega) (by omega)).2 (.inl h1)
theorem ltK_asymm (hk : ∀ x, (key x).length = n) {x y : α} (h1 : lexI (key x) (key y) < 0) (h2 : lexI (key y) (key x) < 0) : False := ltK_irrefl x (ltK_trans hk h1 h2)
theorem posK (hk : ∀ x, (key x).length = n) {x y : α} : 0 < lexI (key x) (key y) ↔ lexI (key y) (key x) < 0 := (lexI_swap (by rw [hk, hk])).symm
theorem ascK_eq (hk : ∀ x, (key x).length = n) : ∀ {a b : List α}, AscK key a → AscK key b → (∀ x, x ∈ a ↔ x ∈ b) → a = b
  | [], [], _, _, _ => rfl
  | [], y :: b, _, _, h => absurd ((h y).2 List.mem_cons_self) List.not_mem_nil
  | x :: a, [], _, _, h => absurd ((h x).1 List.mem_cons_self) List.not_mem_nil
  | x :: a, y :: b, ha, hb, h => by
    obtain ⟨a1, a2⟩ := List.pairwise_cons.1 ha
    obtain ⟨b1, b2⟩ := List.pairwise_cons.1 hb
    have hxy : x = y := by
      rcases List.mem_cons.1 ((h x).1 List.mem_cons_self) with e | e
      · exact e
      · rcases List.mem_cons.1 ((h y).2 List.mem_cons_self) with e2 | e2
        · exact e2.symm
        · exact (ltK_asymm hk (a1 y e2) (b1 x e)).elim
    subst hxy
    rw [ascK_eq hk a2 b2 fun z => ?_]
    constructor
    · intro hz
      rcases List.mem_cons.1 ((h z).1 (List.mem_cons_of_mem _ hz)) with e | e
      · subst e; exact absurd (a1 z hz) (ltK_irrefl z)
      · exact e
    · intro hz
      rcases List.mem_cons.1 ((h z).2 (List.mem_cons_of_mem _ hz)) with e | e
      · subst e; exact absurd (b1 z hz) (ltK_irrefl z)
      · exact e
theorem cptG_asc [DecidableEq α] (hk : ∀ x, (key x).length = n) : ∀ (l : List α), l.Pairwise (fun x y => ¬ lexI (key y) (key x) < 0) → (∀ x ∈ l, ∀ y ∈ l, key x = key y → x = y) → AscK key (cptG l)
  | [], _, _ => List.Pairwise.nil
  | [a], _, _ => List.pairwise_singleton _ _
  | a :: b :: l, h, hi => by
    obtain ⟨h1, h2⟩ := List.pairwise_cons.1 h
    have ih := cptG_asc hk (b :: l) h2 fun x hx y hy => hi x (List.mem_cons_of_mem _ hx) y (List.mem_cons_of_mem _ hy)
    rw [cptG]
    split
    · exact ih
    · rename_i hne
      refine List.pairwise_cons.2 ⟨fun y hy => ?_, ih⟩
      have hy2 := (mem_cptG y (b :: l)).1 hy
      have hle : ∀ z, z ∈ b :: l → lexI (key a) (key z) ≤ 0 := fun z hz => by
        have e1 := h1 z hz
        have e2 := @posK _ key n hk a z
        omega
      have hab : lexI (key a) (key b) < 0 := by
        have e0 := hle b List.mem_cons_self
        rcases Int.lt_or_eq_of_le e0 with e | e
        · exact e
        · exact absurd (hi a List.mem_cons_self b (List.mem_cons_of_mem _ List.mem_cons_self) ((lexI_zero (by rw [hk, hk])).1 e)) hne
      have hby : lexI (key b) (key y) ≤ 0 := by
        rcases List.mem_cons.1 hy2 with e | e
        · rw [e, lexI_self]; exact Int.le_refl _
        · have e1 := (List.pairwise_cons.1 h2).1 y e
          have e2 := @posK _ key n hk b y
          omega
      exact (lexI_trans (by rw [hk, hk]) (by rw [hk, hk]) (by omega) hby).2 (.inl hab)
theorem ascK_put (hk : ∀ x, (key x).length = n) {o : List α} {q : Nat} {x : α} (h : AscK key o) (h1 : ∀ y ∈ o.take q, lexI (key y) (key x) < 0) (h2 : ∀ y ∈ o.drop q, lexI (key x) (key y) < 0) : AscK key (o.take q ++ x :: o.drop q) := by
  refine List.pairwise_append.2 ⟨h.sublist (List.take_sublist _ _), List.pairwise_cons.2 ⟨h2, h.sublist (List.drop_sublist _ _)⟩, fun a ha b hb => ?_⟩
  rcases List.mem_cons.1 hb with e | e
  · rw [e]; exact h1 a ha
  · exact ltK_trans hk (h1 a ha) (h2 b e)
theorem mem_put {o : List α} {q : Nat} {x z : α} : z ∈ o.take q ++ x :: o.drop q ↔ z ∈ o ∨ z = x := by
  rw [List.mem_append, List.mem_cons]
  have : z ∈ o ↔ z ∈ o.take q ∨ z ∈ o.drop q := by rw [← List.mem_append, List.take_append_drop]
  rw [this]
  constructor
  · rintro (h | h | h)
    · exact .inl (.inl h)
    · exact .inr h
    · exact .inl (.inr h)
  · rintro ((h | h) | h)
    · exact .inl h
    · exact .inr (.inr h)
    · exact .inr (.inl h)
theorem ascK_ahead (hk : ∀ x, (key x).length = n) {o : List α} {q : Nat} {x y : α} (h : AscK key o) (hy : o[q]? = some y) (hx : lexI (key y) (key x) < 0) : ∀ z ∈ o.take (q + 1), lexI (key z) (key x) < 0 := fun z hz => by
  obtain ⟨i, hi⟩ := List.getElem?_of_mem hz
  have hlt : i < q + 1 := by have := (List.getElem?_eq_some_iff.1 hi).1; rw [List.length_take] at this; omega
  rw [List.getElem?_take_of_lt hlt] at hi
  by_cases e : i = q
  · subst e
    rw [hi] at hy
    cases hy
    exact hx
  · obtain ⟨l1, e1⟩ := List.getElem?_eq_some_iff.1 hi
    obtain ⟨l2, e2⟩ := List.getElem?_eq_some_iff.1 hy
    have := List.pairwise_iff_getElem.1 h i q l1 l2 (by omega)
    rw [e1, e2] at this
    exact ltK_trans hk this hx
theorem ascK_behind (hk : ∀ x, (key x).length = n) {o : List α} {q : Nat} {x y : α} (h : AscK key o) (hy : o[q]? = some y) (hx : lexI (key x) (key y) < 0) : ∀ z ∈ o.drop q, lexI (key x) (key z) < 0 := fun z hz => by
  obtain ⟨i, hi⟩ := List.getElem?_of_mem hz
  rw [List.getElem?_drop] at hi
  by_cases e : i = 0
  · subst e
    rw [Nat.add_zero, hy] at hi
    cases hi
    exact hx
  · obtain ⟨l1, e1⟩ := List.getElem?_eq_some_iff.1 hi
    obtain ⟨l2, e2⟩ := List.getElem?_eq_some_iff.1 hy
    have := List.pairwise_iff_getElem.1 h q (q + i) l2 l1 (by omega)
    rw [e1, e2] at this
    exact ltK_trans hk hx this
end
set_option maxRecDepth 20000
theorem filt_snoc_t {α : Type} {p : α → Bool} {l out : List α} {i : Nat} {x : α} (hx : l[i]? = some x) (h : p x = true) (ho : (l.take i).filter p = out) : (l.take (i + 1)).filter p = out ++ [x] := by
 rw [List.take_add_one, hx, List.filter_append, ho]
 simp [h]
theorem filt_snoc_f {α : Type} {p : α → Bool} {l out : List α} {i : Nat} {x : α} (hx : l[i]? = some x) (h : p x = false) (ho : (l.take i).filter p = out) : (l.take (i + 1)).filter p = out := by
 rw [List.take_add_one, hx, List.filter_append, ho]
 simp [h]
def IsOrd (l o : List Rs) : Prop := AscK Rs.keys o ∧ ∀ x, x ∈ o ↔ x ∈ l ∧ vldRs x = true
theorem keys_len (x : Rs) : x.keys.length = 17 := rfl
theorem IsOrd.eq {l o o' : List Rs} (h : IsOrd l o) (h' : IsOrd l o') : o = o' := ascK_eq keys_len h.1 h'.1 fun x => by rw [h.2, h'.2]
theorem keys_inj {x y : Rs} (hx : x.Ok) (hy : y.Ok) (h : x.keys = y.keys) : x = y := by
 obtain ⟨a1, a2, a3, a4⟩ := hx
 obtain ⟨b1, b2, b3, b4⟩ := hy
 have w1 : ∀ z : Int, 0 ≤ z → z ≤ 4294967295 → IntKind.i64.wrap z = z := fun z h0 h1 => by simp only [IntKind.wrap_i64]; omega
 have hb : ∀ p q : Bool, b2i p = b2i q → p = q := fun p q => by cases p <;> cases q <;> decide
 simp only [Rs.keys, List.cons.injEq, and_true] at h
 rw [w1 _ a1 a2, w1 _ b1 b2, w1 _ a3 a4, w1 _ b3 b4] at h
 obtain ⟨v, run, num, at_, dst, proto, flow, ttl, ans, dbl, back, src, kind, code, left, id, quo⟩ := x
 obtain ⟨v', run', num', at', dst', proto', flow', ttl', ans', dbl', back', src', kind', code', left', id', quo'⟩ := y
 simp only at h
 obtain ⟨h1, h2, h3, h4, h5, h6, h7, h8, h9, h10, h11, h12, h13, h14, h15, h16, h17⟩ := h
 have h9 := hb _ _ h9
 have h10 := hb _ _ h10
 subst h1 h2 h3 h4 h5 h6 h7 h8 h9 h10 h11 h12 h13 h14 h15 h16 h17
 rfl
theorem isOrd_of {l o s : List Rs} (hok : ∀ r ∈ l, r.Ok) (ho : l.filter vldRs = o) (hs : Sorted cmpRs o s) : IsOrd l (cptG s) := by
 have hm : ∀ x, x ∈ s ↔ x ∈ l ∧ vldRs x = true := fun x => by rw [hs.1.mem_iff, ← ho, List.mem_filter]
 refine ⟨cptG_asc keys_len s hs.2 fun x hx y hy h => keys_inj (hok x ((hm x).1 hx).1) (hok y ((hm y).1 hy).1) h, fun x => by rw [mem_cptG, hm]⟩
theorem porbs23_1_99505 (a0_0 : Int) (a0_1 : Int) (a0_2 : Int) (a0_3 : Int) (a0_4 : Int) (a0_5 : Int) (a0_6 : Int) (a0_7 : Int) (a0_8 : Bool) (a0_9 : Bool) (a0_10 : Int) (a0_11 : Int) (a0_12 : Int) (a0_13 : Int) (a0_14 : Int) (a0_15 : Int) (a0_16 : Int) (w : World) : (Instr.buildSlice 23 1 #[(0, .agg #[.int .i64 a0_0, .int .i64 a0_1, .int .i64 a0_2, .int .i64 a0_3, .int .u32 a0_4, .int .i64 a0_5, .int .i64 a0_6, .int .i64 a0_7, .bool a0_8, .bool a0_9, .int .i64 a0_10, .int .u32 a0_11, .int .i64 a0_12, .int .i64 a0_13, .int .i64 a0_14, .int .i64 a0_15, .int .i64 a0_16])]).run Tryz.prog w = .ok (.slice (some ⟨w.heap.size, 0, none⟩) 1 1) (w.alloc (.cells [.int .i64 a0_0, .int .i64 a0_1, .int .i64 a0_2, .int .i64 a0_3, .int .u32 a0_4, .int .i64 a0_5, .int .i64 a0_6, .int .i64 a0_7, .bool a0_8, .bool a0_9, .int .i64 a0_10, .int .u32 a0_11, .int .i64 a0_12, .int .i64 a0_13, .int .i64 a0_14, .int .i64 a0_15, .int .i64 a0_16].toArray 65)) := by kernel_rfl
theorem porel23 : Elem Tryz.prog 23 65 17 128 := Elem.mk' Tryz.underlying23 (z := .agg #[.int .i64 0, .int .i64 0, .int .i64 0, .int .i64 0, .int .u32 0, .int .i64 0, .int .i64 0, .int .i64 0, .bool false, .bool false, .int .i64 0, .int .u32 0, .int .i64 0, .int .i64 0, .int .i64 0, .int .i64 0, .int .i64 0]) (by kernel_rfl) rfl (by omega) (by omega)
theorem ord_any (A0 : Option Addr) (c0 : Nat) (l : List Rs) (w : World) (hr : Reads w w.heap.size 17 A0 l.length (flat Rs.cells l)) (hl1 : l.length ≤ 100000) (hok : ∀ r ∈ l, r.Ok) :
  Calls Tryz.prog 88 #[.slice A0 l.length c0] w fun e w' => ∃ x : {y : (Option Addr × Nat) × List Rs // IsOrd l y.2 ∧ y.2.length ≤ y.1.2 ∧ y.1.2 ≤ maxLen}, e = .returned (.slice x.1.1.1 x.1.2.length x.1.1.2) ∧ Pm w [.row (.slice x.1.1.1 x.1.2.length x.1.1.2) 65 17 x.1.2.length (flat Rs.cells x.1.2)] w' := by
 refine begin_ (vs := [.slice A0 l.length c0]) Tryz.func88 rfl rfl rfl ?_ (Pm.start w)
 refine zSG (TL.as_ ?_)
 refine zET (zSG (TL.as_ ?_))
 refine zET (zS (zSG (TL.mv ?_)))
 refine TL.v (gN Tryz.underlying23) ?_
 refine TL.mv ?_
 refine zET (zB (TC.nilrow 65 17 ?_))
 refine TC.loop_ (α := {y : Nat × (Option Addr × Nat) × List Rs // y.1 ≤ l.length ∧ ((l.take y.1).filter vldRs = y.2.2) ∧ y.2.2.length ≤ y.1 ∧ y.2.2.length ≤ y.2.1.2 ∧ y.2.1.2 ≤ maxLen}) (fun y => [(2, .slice none 0 0), (6, .slice A0 l.length c0), (7, .int .i64 (l.length : Nat)), (8, .int .i64 ((y.1.1 : Nat) : Int)), (3, .slice y.1.2.1.1 y.1.2.2.length y.1.2.1.2)]) (fun y => Pm w [.row (.slice y.1.2.1.1 y.1.2.2.length y.1.2.1.2) 65 17 y.1.2.2.length (flat Rs.cells y.1.2.2)]) (fun y => l.length - y.1.1) (⟨(0, (none, 0), []), Nat.zero_le _, rfl, Nat.le_refl _, Nat.le_refl _, Nat.zero_le _⟩) ⟨rfl, rfl, rfl, rfl, rfl, trivial⟩ (fun w1 hw => hw) ?_
 rintro ⟨⟨i, ⟨Ao, co⟩, out⟩, hi, hout, houtl, houtc, houtm⟩
 dsimp only at hi hout houtl houtc houtm ⊢
 refine zSG ?_
 refine TL.vsplit rfl rfl rfl (gives_bin rfl rfl rfl (fun w => bin_lss w)) (fun h9 => ?_) (fun h9 => ?_)
 ·have q9 := of_decide_eq_true h9
  refine zET (zS (zc (zk (zT (zS (zB (zSG ?_)))))))
  have hi10 : i < l.length := by omega
  obtain ⟨x10, hx10⟩ := ex_at hi10
  obtain ⟨b10, o10, hA10, hbb10, hc10⟩ := hr.ad (by omega) (by decide)
  refine TL.val rfl rfl rfl (gA (i := i) Tryz.underlying23 prssz65 rfl rfl rfl rfl hA10 (by omega)) ?_
  refine TL.v (gR rs_cel prsag65 prssz65 hbb10 hx10 hc10) ?_
  refine TL.pnew rfl rfl rfl (exec_alloc (cs := [.int .i64 0, .int .i64 0, .int .i64 0, .int .i64 0, .int .u32 0, .int .i64 0, .int .i64 0, .int .i64 0, .bool false, .bool false, .int .i64 0, .int .u32 0, .int .i64 0, .int .i64 0, .int .i64 0, .int .i64 0, .int .i64 0]) rfl arpzv65 rfl) (fun g5 => ?_)
  refine TL.pstore (k := 0) (vs := x10.cells) rfl rfl rfl rfl rfl rfl rfl prssz65 (rs_cel.one _) (by show 17 ≤ 17; decide) (L' := [.blk g5 65 x10.cells, .row (.slice Ao out.length co) 65 17 out.length (flat Rs.cells out)]) rfl ?_
  refine zET (zSG (TL.v (gV 0 (.agg (x10.cells).toArray) prsag65 prssz65) ?_))
  refine TL.callsplit rfl rfl rfl rfl rfl Tryz.func70 (by decide) rfl (fun w1 hw => vldRs_any x10 w1) (fun h13 => ?_) (fun h13 => ?_)
  ·refine zET (zc (zG (TL.mv ?_)))
   refine TL.v (gV 0 (.agg (x10.cells).toArray) prsag65 prssz65) ?_
   refine TL.prowS (e := 65) (size := 17) (cs := flat Rs.cells [x10]) rfl rfl rfl rfl rfl (fun w => porbs23_1_99505 _ _ _ _ _ _ _ _ _ _ _ _ _ _ _ _ _ w) (by decide) rfl (fun g16 => ?_)
   refine TL.appendT (k := 2) rfl rfl rfl rfl Tryz.underlying23 porel23 rfl rfl rfl (fun w1 hw => pm_reads hw (k := 0) rfl) (flat_one rs_cel _) (by show _ * 128 ≤ _; omega) ((out ++ [x10]).length) (by rw [List.length_append]; rfl) (flat Rs.cells (out ++ [x10])) ((flat_app _ _).symm) (fun A17 c17 hA171 hA172 => ?_)
   refine TL.as_ ?_
   refine zE (zN (zT (zG (TL.v (gD ((i + 1 : Nat) : Int)) ?_))))
   refine TL.mv ?_
   refine zE ?_
   exact TX.round (⟨(i + 1, (A17, c17), out ++ [x10]), by dsimp only; omega, filt_snoc_t hx10 h13 hout, by dsimp only; rw [List.length_append]; show out.length + 1 ≤ _; omega, hA171, hA172⟩) (by show l.length - (i + 1) < l.length - i; omega) ⟨rfl, rfl, rfl, rfl, rfl, trivial⟩ (fun w1 hw => hw.pick [2] (by decide) rfl)
  refine zET (zd (zk (zN (zT (zG (TL.v (gD ((i + 1 : Nat) : Int)) ?_))))))
  refine TL.mv ?_
  refine zE ?_
  exact TX.round (⟨(i + 1, (Ao, co), out), by dsimp only; omega, filt_snoc_f hx10 h13 hout, by dsimp only; omega, houtc, houtm⟩) (by show l.length - (i + 1) < l.length - i; omega) ⟨rfl, rfl, rfl, rfl, rfl, trivial⟩ (fun w1 hw => hw.pick [1] (by decide) rfl)
 have q9 := of_decide_eq_false h9
 refine zET (zS (zd (zx (zX (zX (zM (zT (zSG (TL.mv ?_)))))))))
 refine TL.turnRowD (k := 0) (fun ys => Sorted cmpRs out ys) rfl rfl rfl rfl rfl Tryz.func132 (by decide) rfl rfl (fun w1 hw hr9 => sortRs hr9 (rfl) (by omega)) (fun srt20 hS20 => ?_)
 try dsimp only [List.set_cons_zero, List.set_cons_succ]
 refine zET (zSG (TL.mv ?_))
 refine TL.turnRow2 (q := 0) (ys := cptG srt20) rfl rfl rfl rfl rfl Tryz.func134 (by decide) rfl rfl (fun w1 hw hr9 => compactRs hr9 (hS20.1.length_eq) (by omega)) ?_
 try dsimp only [List.set_cons_zero, List.set_cons_succ]
 refine TL.as_ ?_
 refine zET (zr ?_)
 have hle : (cptG srt20).length ≤ out.length := Nat.le_trans (cptG_le _) (Nat.le_of_eq hS20.1.length_eq)
 exact ret_tmp Tryz.results88 rfl (fun w1 hw => ⟨⟨((Ao, co), cptG srt20), isOrd_of hok (by rw [List.take_of_length_le (by omega)] at hout; exact hout) hS20, by dsimp only; omega, houtm⟩, rfl, hw.pick [0] (by decide) rfl⟩)
section
variable {P : Program}
theorem run_copy_at (w : World) (dT sT ty elem : TypeId) (g off dLen dCap : Nat) (a : Addr) (sLen sCap size : Nat) (cur : Array Value) (t : TypeId) (cs : List Value) (hu : P.underlying dT = some (.slice elem)) (hs : ∀ w : World, (sizeOf elem).run P w = .ok size w)
    (hg : w.heap[g]? = some (.cells cur t (0, 0))) (hn : cs.length = Nat.min sLen dLen * size) (hsrc : ∀ j v, cs[j]? = some v → w.cell? (a.add j) = some v) (hfit : off + cs.length ≤ cur.size) (h1 : ∀ v ∈ cs, v.oneCell' = true) :
    (Builtin.copy_ #[dT, sT] ty #[.slice (some ⟨g, off, none⟩) dLen dCap, .slice (some a) sLen sCap]).run P w =
      .ok (goInt (Nat.min sLen dLen)) (w.setRow g (cur.toList.take off ++ cs ++ cur.toList.drop (off + cs.length)).toArray) := by
  have hfo := run_firstCells_some (P := P) w size (Nat.min sLen dLen) a sLen sCap cs hn hsrc
  have hst := run_storeCells_at P g off t cs 0 cur w hg (by simpa using hfit) h1
  simp only [Nat.add_zero] at hst
  have hmin : Nat.min sLen dLen = min sLen dLen := rfl
  rw [hmin] at hfo ⊢
  simp [Builtin.copy_, run_underlying hu, Builtin.lenOf, hs, hfo, hst]
variable {N : Fr} {Q : Exit → Act → World → Prop} {E : Env} {w0 : Base} {L : List Pc} {ops : Array Oper} {l : List Oper} {o : Oper}
theorem TL.copyRow {d k n c g off dl dc sl sc size : Nat} {s x : Operand} {t u e : TypeId} {ad : Addr} {xs cs xs' : List Value} (hg : o.guard = none) (hd : o.dst = some d) (hN : Nat.blt d N.n = true)
    (ho : o.op = .call { callee := .builtin .copy, args := #[s, x], argTypes := #[t, u] }) (ht : P.underlying t = some (.slice e)) (hz : ∀ w : World, (sizeOf e).run P w = .ok size w) (hs : ev E s = some (.slice (some ⟨g, off, none⟩) dl dc)) (hx : ev E x = some (.slice (some ad) sl sc))
    (hk : L[k]? = some (.row (.slice (some ⟨g, 0, none⟩) n c) e size n xs)) (hsrc : ∀ w, Pm w0 L w → ∀ j v, cs[j]? = some v → w.cell? (ad.add j) = some v) {m : Nat} (hm : Nat.min sl dl = m) (hn : cs.length = m * size) (hl : off + cs.length ≤ xs.length) (h1 : ∀ v ∈ cs, v.oneCell' = true)
    (hL : xs.take off ++ cs ++ xs.drop (off + cs.length) = xs')
    (h : TL P N ops Q l ((d, .int .i64 ((m : Nat) : Int)) :: E) (Pm w0 (L.set k (.row (.slice (some ⟨g, 0, none⟩) n c) e size n xs')))) : TL P N ops Q (o :: l) E (Pm w0 L) := by
  subst hL hm
  refine TL.run (α := Unit) (r := fun _ => .int .i64 ((Nat.min sl dl : Nat) : Int)) (I' := fun _ => Pm w0 (L.set k (.row (.slice (some ⟨g, 0, none⟩) n c) e size n (xs.take off ++ cs ++ xs.drop (off + cs.length))))) hg hd hN (fun a w ha hw => ?_) (fun _ => h)
  obtain ⟨cur, hcur, hfit, hown⟩ := row_put (hw.at_ hk) hl
  have hrun := run_copy_at (P := P) w t u o.type e g off dl dc ad sl sc size cur e cs ht hz hcur hn (hsrc w hw) hfit h1
  refine ⟨(), _, ?_, hw.turn hk (grown_setRow _ _) hown (fun g' hg' => .inl hg') (fun k o e => by cases e)⟩
  unfold execOp; rw [ho]
  simp only [resolve, invoke, builtin, Sem.run_bind, Sem.run_pure, Result.andThen_ok, List.map_toArray, List.map_cons, List.map_nil, ha.eval hs, ha.eval hx, hrun]
  rfl
def shiftL {α : Type} (xs : List α) (k : Nat) : List α := xs.take (k + 1) ++ (xs.drop k).take (xs.length - (k + 1))
theorem shiftL_len {α : Type} (xs : List α) (k : Nat) (hk : k < xs.length) : (shiftL xs k).length = xs.length := by
  simp only [shiftL, List.length_append, List.length_take, List.length_drop]; omega
theorem shiftL_at {α : Type} (o : List α) (y x : α) (k : Nat) (hk : k ≤ o.length) : (shiftL (o ++ [y]) k).set k x = o.take k ++ x :: o.drop k := by
  unfold shiftL
  have e1 : (o ++ [y]).take (k + 1) = o.take k ++ [((o ++ [y])[k]?).getD y] := by
    rw [List.take_add_one, List.take_append_of_le_length hk]
    have : k < (o ++ [y]).length := by simp; omega
    rw [List.getElem?_eq_getElem this]
    rfl
  have e2 : ((o ++ [y]).drop k).take ((o ++ [y]).length - (k + 1)) = o.drop k := by
    rw [List.drop_append_of_le_length hk, List.length_append, List.length_singleton, Nat.add_sub_add_right, List.take_append_of_le_length (by simp), List.take_of_length_le (by simp)]
  have e3 : (o.take k).length = k := by rw [List.length_take]; omega
  rw [e1, e2, List.append_assoc, List.set_append_right _ _ (by omega), e3, Nat.sub_self]
  rfl
theorem min_gap (n k : Nat) : Nat.min (n - k) (n - (k + 1)) = n - (k + 1) := Nat.min_eq_right (by omega)
theorem TL.shiftF {α : Type} {cc : α → List Value} {size : Nat} (K : Cel cc size) {d kk k n c g : Nat} {s x : Operand} {t u e : TypeId} {xs : List α} (hg : o.guard = none) (hd : o.dst = some d) (hN : Nat.blt d N.n = true)
    (ho : o.op = .call { callee := .builtin .copy, args := #[s, x], argTypes := #[t, u] }) (ht : P.underlying t = some (.slice e)) (hz : ∀ w : World, (sizeOf e).run P w = .ok size w)
    (hs : ev E s = some (.slice (if c = k + 1 then some ⟨g, 0, none⟩ else (some (⟨g, 0, none⟩ : Addr)).map (·.add ((k + 1) * size))) (n - (k + 1)) (c - (k + 1)))) (hx : ev E x = some (.slice (some ⟨g, k * size, none⟩) (n - k) (c - k)))
    (hk : L[kk]? = some (.row (.slice (some ⟨g, 0, none⟩) n c) e size n (flat cc xs))) (hn : xs.length = n) (hq : k < n) (hc : n ≤ c)
    (h : TL P N ops Q l ((d, .int .i64 ((n - (k + 1) : Nat) : Int)) :: E) (Pm w0 (L.set kk (.row (.slice (some ⟨g, 0, none⟩) n c) e size n (flat cc (shiftL xs k)))))) : TL P N ops Q (o :: l) E (Pm w0 L) := by
  subst hn
  have hcs : (flat cc ((xs.drop k).take (xs.length - (k + 1)))).length = (xs.length - (k + 1)) * size := by rw [flat_len K, List.length_take, List.length_drop, Nat.min_eq_left (by omega)]
  have hlen : (flat cc xs).length = xs.length * size := flat_len K xs
  have hsz : (k + 1) * size ≤ xs.length * size := Nat.mul_le_mul_right _ (by omega)
  have hsum : (k + 1) * size + (xs.length - (k + 1)) * size = xs.length * size := by rw [← Nat.add_mul]; congr 1; omega
  have hsrc : ∀ w, Pm w0 L w → ∀ j v, (flat cc ((xs.drop k).take (xs.length - (k + 1))))[j]? = some v → w.cell? ((⟨g, k * size, none⟩ : Addr).add j) = some v := fun w hw j v hj => by
    have e1 : (⟨g, k * size, none⟩ : Addr).add j = ⟨g, k * size + j, none⟩ := by unfold Addr.add; split <;> simp_all
    rw [e1]
    have hjl := (List.getElem?_eq_some_iff.1 hj).1
    rw [hcs] at hjl
    refine pm_row hw hk ?_
    rw [← flat_take K, List.getElem?_take_of_lt hjl, ← flat_drop K, List.getElem?_drop] at hj
    exact hj
  by_cases e : c = k + 1
  · have hnk : xs.length = k + 1 := by omega
    rw [if_pos e] at hs
    refine TL.copyRow (cs := flat cc ((xs.drop k).take (xs.length - (k + 1)))) (m := xs.length - (k + 1)) hg hd hN ho ht hz hs hx hk hsrc (min_gap _ _) hcs (by rw [hcs, hlen]; omega) (flat_one K _) (xs' := flat cc (shiftL xs k)) ?_ h
    have e0 : xs.length - (k + 1) = 0 := by omega
    have e2 : shiftL xs k = xs := by unfold shiftL; rw [e0, List.take_zero, List.append_nil, List.take_of_length_le (by omega)]
    rw [e2, e0, List.take_zero]
    simp [flat]
  · rw [if_neg e] at hs
    have e1 : (some (⟨g, 0, none⟩ : Addr)).map (·.add ((k + 1) * size)) = some ⟨g, (k + 1) * size, none⟩ := by
      show some ((⟨g, 0, none⟩ : Addr).add ((k + 1) * size)) = _
      congr 1
      unfold Addr.add; split <;> simp_all
    rw [e1] at hs
    refine TL.copyRow (cs := flat cc ((xs.drop k).take (xs.length - (k + 1)))) (m := xs.length - (k + 1)) hg hd hN ho ht hz hs hx hk hsrc (min_gap _ _) hcs (by rw [hcs, hlen]; omega) (flat_one K _) (xs' := flat cc (shiftL xs k)) ?_ h
    have e3 : (flat cc xs).drop ((k + 1) * size + (flat cc ((xs.drop k).take (xs.length - (k + 1)))).length) = [] := List.drop_of_length_le (by rw [hcs, hsum, hlen]; exact Nat.le_refl _)
    rw [e3, List.append_nil, flat_take K, ← flat_app]
    rfl
end
set_option maxRecDepth 20000
theorem IsOrd.nil : IsOrd [] [] := ⟨List.Pairwise.nil, fun x => by simp⟩
theorem mem_take_snoc {α : Type} {l : List α} {i : Nat} {x z : α} (hx : l[i]? = some x) : z ∈ l.take (i + 1) ↔ z ∈ l.take i ∨ z = x := by
 rw [List.take_add_one, hx, List.mem_append]
 simp
theorem IsOrd.skip {l o : List Rs} {i : Nat} {x : Rs} (h : IsOrd (l.take i) o) (hx : l[i]? = some x) (hv : vldRs x = false) : IsOrd (l.take (i + 1)) o := ⟨h.1, fun z => by
 rw [h.2, mem_take_snoc hx]
 constructor
 ·exact fun hh => ⟨.inl hh.1, hh.2⟩
 rintro ⟨h1 | h1, h2⟩
 ·exact ⟨h1, h2⟩
 subst h1; rw [hv] at h2; cases h2⟩
theorem IsOrd.dup {l o : List Rs} {i q : Nat} {x y : Rs} (h : IsOrd (l.take i) o) (hx : l[i]? = some x) (hv : vldRs x = true) (hok : ∀ r ∈ l, r.Ok) (hy : o[q]? = some y) (hc : cmpRs y x = 0) : IsOrd (l.take (i + 1)) o := by
 have hym := List.mem_of_getElem? hy
 have e : y = x := keys_inj (hok y (List.mem_of_mem_take ((h.2 y).1 hym).1)) (hok x (List.mem_of_getElem? hx)) ((lexI_zero (a := y.keys) (b := x.keys) rfl).1 hc)
 subst e
 refine ⟨h.1, fun z => ?_⟩
 rw [h.2, mem_take_snoc hx]
 constructor
 ·exact fun hh => ⟨.inl hh.1, hh.2⟩
 rintro ⟨h1 | h1, h2⟩
 ·exact ⟨h1, h2⟩
 rw [h1]; exact (h.2 y).1 hym
theorem IsOrd.put {l o : List Rs} {i q : Nat} {x : Rs} (h : IsOrd (l.take i) o) (hx : l[i]? = some x) (hv : vldRs x = true) (h1 : ∀ y ∈ o.take q, lexI y.keys x.keys < 0) (h2 : ∀ y ∈ o.drop q, lexI x.keys y.keys < 0) : IsOrd (l.take (i + 1)) (o.take q ++ x :: o.drop q) := by
 refine ⟨ascK_put keys_len h.1 h1 h2, fun z => ?_⟩
 rw [mem_put, h.2, mem_take_snoc hx]
 constructor
 ·rintro (hh | hh)
  ·exact ⟨.inl hh.1, hh.2⟩
  rw [hh]; exact ⟨.inr rfl, hv⟩
 rintro ⟨h3 | h3, h4⟩
 ·exact .inl ⟨h3, h4⟩
 exact .inr h3
theorem rord_any (A0 : Option Addr) (c0 : Nat) (l : List Rs) (w : World) (hr : Reads w w.heap.size 17 A0 l.length (flat Rs.cells l)) (hl1 : l.length ≤ 100000) (hok : ∀ r ∈ l, r.Ok) :
  Calls Tryz.prog 95 #[.slice A0 l.length c0] w fun e w' => ∃ x : {y : (Option Addr × Nat) × List Rs // IsOrd l y.2 ∧ y.2.length ≤ y.1.2 ∧ y.1.2 ≤ maxLen}, e = .returned (.slice x.1.1.1 x.1.2.length x.1.1.2) ∧ Pm w [.row (.slice x.1.1.1 x.1.2.length x.1.1.2) 65 17 x.1.2.length (flat Rs.cells x.1.2)] w' := by
 refine begin_ (vs := [.slice A0 l.length c0]) Tryz.func95 rfl rfl rfl ?_ (Pm.start w)
 refine zSG (TL.as_ ?_)
 refine zET (zSG (TL.as_ ?_))
 refine zET (zS (zSG (TL.as_ ?_)))
 refine zET (zB (TC.nilrow 65 17 ?_))
 refine TC.loop_ (α := {y : Nat × (Option Addr × Nat) × Nat × List Rs // y.1 ≤ l.length ∧ (IsOrd (l.take y.1) y.2.2.2) ∧ y.2.2.1 ≤ y.1 ∧ y.2.2.1 ≤ y.2.1.2 ∧ y.2.1.2 ≤ maxLen ∧ y.2.2.2.length = y.2.2.1}) (fun y => [(0, .slice A0 l.length c0), (2, .slice none 0 0), (4, .int .i64 ((y.1.1 : Nat) : Int)), (3, .slice y.1.2.1.1 y.1.2.2.1 y.1.2.1.2)]) (fun y => Pm w [.row (.slice y.1.2.1.1 y.1.2.2.1 y.1.2.1.2) 65 17 y.1.2.2.1 (flat Rs.cells y.1.2.2.2)]) (fun y => l.length - y.1.1) (⟨(0, (none, 0), 0, []), Nat.zero_le _, IsOrd.nil, Nat.le_refl _, Nat.le_refl _, Nat.zero_le _, rfl⟩) ⟨rfl, rfl, rfl, rfl, trivial⟩ (fun w1 hw => hw) ?_
 rintro ⟨⟨i, ⟨Ao, co⟩, m, out⟩, hi, hout, houtl, houtc, houtm, houtn⟩
 dsimp only at hi hout houtl houtc houtm houtn ⊢
 refine zS (zSG (TL.rn 2 rfl (TL.v (gN Tryz.underlying23) ?_)))
 refine TL.vsplit rfl rfl rfl (gives_bin rfl rfl rfl (fun w => bin_lss w)) (fun h9 => ?_) (fun h9 => ?_)
 ·have q9 := of_decide_eq_true h9
  refine zET (zc (zk (zT (zS (zB (zS (zSG (TL.rn 2 rfl ?_))))))))
  have hi14 : i < l.length := by omega
  obtain ⟨x14, hx14⟩ := ex_at hi14
  obtain ⟨b14, o14, hA14, hbb14, hc14⟩ := hr.ad (by omega) (by decide)
  refine TL.val rfl rfl rfl (gA (i := i) Tryz.underlying23 prssz65 rfl rfl rfl rfl hA14 (by omega)) ?_
  refine TL.v (gR rs_cel prsag65 prssz65 hbb14 hx14 hc14) ?_
  refine TL.callsplit rfl rfl rfl rfl rfl Tryz.func71 (by decide) rfl (fun w1 hw => rvldRs_any x14 w1) (fun h16 => ?_) (fun h16 => ?_)
  ·refine TL.val rfl rfl rfl (gives_boolnot rfl rfl) ?_
   refine zET (zd (zk (zT (zSG (TL.mv ?_)))))
   refine TL.v (gN Tryz.underlying23) ?_
   refine TL.as_ ?_
   refine zET (zS (zB ?_))
   refine TC.loop_ (α := {k : Nat // k ≤ out.length ∧ ∀ z ∈ out.drop k, lexI x14.keys z.keys < 0}) (fun y => [(0, .slice A0 l.length c0), (2, .slice none 0 0), (3, .slice Ao m co), (4, .int .i64 ((i : Nat) : Int)), (5, .int .i64 ((y.1 : Nat) : Int))]) (fun y => Pm w [.row (.slice Ao m co) 65 17 m (flat Rs.cells out)]) (fun y => y.1) (⟨m, by omega, fun z hz => by rw [List.drop_of_length_le (by omega)] at hz; cases hz⟩) ⟨rfl, rfl, rfl, rfl, rfl, trivial⟩ (fun w1 hw => hw) ?_
   rintro ⟨k, hk, hgt⟩
   try dsimp only at hk hgt ⊢
   refine zS (zS ?_)
   by_cases hk0 : k = 0
   ·refine TC.quietQ (by kernel_rfl) (by kernel_rfl) (fun w hw => hw.drawn _) ?_
    refine TQ.val rfl rfl rfl (gives_move rfl rfl) ?_
    refine TQ.val rfl rfl rfl (gives_bin rfl rfl rfl (fun w => bin_gtr_f (by omega) w)) ?_
    refine TQ.rn 13 rfl ?_
    refine TQ.fin ?_
    refine zT (zd (zx (zX (zX (zM (zT (zS (zS ?_))))))))
    ·refine TC.quietQ (by kernel_rfl) (by kernel_rfl) (fun w hw => hw.drawn _) ?_
     refine TQ.val rfl rfl rfl (gives_move rfl rfl) ?_
     refine TQ.val rfl rfl rfl (gives_bin rfl rfl rfl (fun w => bin_gtr_f (by omega) w)) ?_
     refine TQ.rn 13 rfl ?_
     refine TQ.fin ?_
     refine zT (zd (zk (zT (zSG (TL.rn 3 rfl ?_)))))
     refine TL.val rfl rfl rfl (gA (i := i) Tryz.underlying23 prssz65 rfl rfl rfl rfl hA14 (by omega)) ?_
     refine TL.v (gR rs_cel prsag65 prssz65 hbb14 hx14 hc14) ?_
     refine TL.prowS (e := 65) (size := 17) (cs := flat Rs.cells [x14]) rfl rfl rfl rfl rfl (fun w => porbs23_1_99505 _ _ _ _ _ _ _ _ _ _ _ _ _ _ _ _ _ w) (by decide) rfl (fun g57 => ?_)
     refine TL.appendT (k := 1) rfl rfl rfl rfl Tryz.underlying23 porel23 rfl rfl rfl (fun w1 hw => pm_reads hw (k := 0) rfl) (flat_one rs_cel _) (by show _ * 128 ≤ _; omega) (m + 1) (rfl) (flat Rs.cells (out ++ [x14])) ((flat_app _ _).symm) (fun A58 c58 hA581 hA582 => ?_)
     refine TL.as_ ?_
     refine zET (zS ?_)
     have hn1 : (out ++ [x14]).length = out.length + 1 := by simp
     have hn2 : (shiftL (out ++ [x14]) k).length = out.length + 1 := by rw [shiftL_len _ _ (by omega), hn1]
     refine TC.fact (p := ∃ g, A58 = some ⟨g, 0, none⟩) (fun w1 hw => rowA hw (k := 1) rfl (by simp)) ?_
     rintro ⟨g_A58, rfl⟩
     refine TC.tail 7 (by kernel_rfl) (by kernel_rfl) (fun w hw => hw.drawn _) ?_
     refine TS.val rfl rfl rfl (gives_move rfl rfl) ?_
     refine TS.val rfl rfl rfl (gives_move rfl rfl) ?_
     refine TS.v (gD ((k + 1 : Nat) : Int)) ?_
     refine TS.val rfl rfl rfl (gives_sliceL (v := .slice (if c58 = k + 1 then some ⟨g_A58, 0, none⟩ else (some (⟨g_A58, 0, none⟩ : Addr)).map (·.add ((k + 1) * 17))) ((m + 1) - (k + 1)) (c58 - (k + 1))) rfl rfl rfl (fun w => cut_lo Tryz.underlying23 prssz65 _ _ _ (k + 1) rfl (by omega) w)) ?_
     refine TS.val rfl rfl rfl (gives_move rfl rfl) ?_
     refine TS.val rfl rfl rfl (gives_move rfl rfl) ?_
     refine TS.val rfl rfl rfl (gives_tailF (q := k) rfl rfl rfl rfl Tryz.underlying23 prssz65 (by omega) (by omega)) ?_
     refine TS.end_ ?_
     refine TL.shiftF rs_cel (kk := 1) (k := k) rfl rfl rfl rfl Tryz.underlying23 prssz65 rfl rfl rfl (by omega) (by omega) (by omega) ?_
     try dsimp only [List.set_cons_zero, List.set_cons_succ]
     refine zET (zG (TL.rn 4 rfl ?_))
     refine TL.val rfl rfl rfl (gA (i := i) Tryz.underlying23 prssz65 rfl rfl rfl rfl hA14 (by omega)) ?_
     refine TL.v (gR rs_cel prsag65 prssz65 hbb14 hx14 hc14) ?_
     have hi73 : k < (shiftL (out ++ [x14]) k).length := by omega
     obtain ⟨x73, hx73⟩ := ex_at hi73
     refine TL.val rfl rfl rfl (gA (i := k) Tryz.underlying23 prssz65 rfl rfl rfl rfl rfl (by omega)) ?_
     refine TL.rowset (k := 1) (vs := x14.cells) (xs' := flat Rs.cells ((shiftL (out ++ [x14]) k).set k x14)) rfl rfl rfl rfl rfl rfl rfl prssz65 (rs_cel.one _) (by rw [flat_len rs_cel]; show 0 + k * 17 + 17 ≤ _; omega) (flat_put rs_cel (q := 0) (y := x14) hx73 (by show 0 + 17 ≤ 17; decide) rfl) ?_
     try dsimp only [List.set_cons_zero, List.set_cons_succ]
     refine zE (zN (zT (zG (TL.mv ?_))))
     refine TL.v (gD ((i + 1 : Nat) : Int)) ?_
     refine TL.as_ ?_
     refine zE ?_
     exact TX.round (⟨(i + 1, ((some ⟨g_A58, 0, none⟩), c58), m + 1, (shiftL (out ++ [x14]) k).set k x14), by dsimp only; omega, by dsimp only; rw [shiftL_at _ _ _ _ (by omega)]; exact hout.put hx14 h16 (fun z hz => by rw [hk0, List.take_zero] at hz; cases hz) hgt, by dsimp only; omega, hA581, hA582, by dsimp only; rw [List.length_set]; omega⟩) (by show l.length - (i + 1) < l.length - i; omega) ⟨rfl, rfl, rfl, rfl, trivial⟩ (fun w1 hw => hw.pick [1] (by decide) rfl)
   refine TC.fact (p := ∃ g, Ao = some ⟨g, 0, none⟩) (fun w1 hw => rowA hw (k := 0) rfl (by omega)) ?_
   rintro ⟨g_Ao, rfl⟩
   refine TC.quietQ (by kernel_rfl) (by kernel_rfl) (fun w hw => hw.drawn _) ?_
   refine TQ.val rfl rfl rfl (gives_move rfl rfl) ?_
   refine TQ.val rfl rfl rfl (gives_bin rfl rfl rfl (fun w => bin_gtr_t (by omega) w)) ?_
   refine TQ.rn 3 rfl ?_
   refine TQ.on rfl rfl rfl ?_
   refine TQ.val rfl rfl rfl (gives_bin rfl rfl rfl (fun w => bin_sub_ (r := ((k - 1 : Nat) : Int)) (by simp only [IntKind.wrap_i64]; omega) w)) ?_
   refine TQ.on rfl rfl rfl ?_
   have hi26 : k - 1 < out.length := by omega
   obtain ⟨x26, hx26⟩ := ex_at hi26
   refine TQ.val rfl rfl rfl (gA (i := (k - 1)) Tryz.underlying23 prssz65 rfl rfl rfl rfl rfl (by omega)) ?_
   refine TQ.on rfl rfl rfl ?_
   refine TQ.val rfl rfl rfl (gives_loadR (off := 0 + (k - 1) * 17) rfl rfl prsag65 prssz65 (rs_cel.len x26) (fun w1 hw j9 u9 h9 => flat_row rs_cel hw (q := 0) rfl hx26 j9 u9 h9)) ?_
   refine TQ.rn 2 rfl ?_
   refine TQ.on rfl rfl rfl ?_
   refine TQ.val rfl rfl rfl (gA (i := i) Tryz.underlying23 prssz65 rfl rfl rfl rfl hA14 (by omega)) ?_
   refine TQ.ov (gR rs_cel prsag65 prssz65 hbb14 hx14 hc14) ?_
   refine TQ.on rfl rfl rfl ?_
   refine TQ.call (v := .int .i64 (cmpRs x26 x14)) rfl rfl rfl rfl rfl Tryz.func147 (by decide) rfl (fun w1 hw => (rcmpRs_any x26 x14 w1).mono fun en w2 ⟨h1, h2⟩ => ⟨h1, hw.below h2⟩) ?_
   refine TQ.on rfl rfl rfl ?_
   refine TQ.sp bin_gtr (fun q33 => ?_) (fun q33 => ?_)
   ·have hgt2 : ∀ z ∈ out.drop (k - 1), lexI x14.keys z.keys < 0 := ascK_behind keys_len hout.1 hx26 ((posK keys_len).1 q33)
    refine TQ.val rfl rfl rfl (gives_pick rfl rfl rfl) ?_
    refine TQ.fin ?_
    refine zT (zc (zk (zT (zB (zG (TL.mv ?_))))))
    refine TL.val rfl rfl rfl (gives_bin rfl rfl rfl (fun w => bin_sub_ (r := ((k - 1 : Nat) : Int)) (by simp only [IntKind.wrap_i64]; omega) w)) ?_
    refine TL.as_ ?_
    refine zE (zN ?_)
    exact TX.round (⟨k - 1, by omega, hgt2⟩) (by show k - 1 < k; omega) ⟨rfl, rfl, rfl, rfl, rfl, trivial⟩ (fun w1 hw => hw)
   refine TQ.val rfl rfl rfl (gives_pick rfl rfl rfl) ?_
   refine TQ.fin ?_
   refine zT (zd (zx (zX (zX (zM (zT (zS (zS ?_))))))))
   ·refine TC.quietQ (by kernel_rfl) (by kernel_rfl) (fun w hw => hw.drawn _) ?_
    refine TQ.val rfl rfl rfl (gives_move rfl rfl) ?_
    refine TQ.val rfl rfl rfl (gives_bin rfl rfl rfl (fun w => bin_gtr_t (by omega) w)) ?_
    refine TQ.rn 3 rfl ?_
    refine TQ.on rfl rfl rfl ?_
    refine TQ.val rfl rfl rfl (gives_bin rfl rfl rfl (fun w => bin_sub_ (r := ((k - 1 : Nat) : Int)) (by simp only [IntKind.wrap_i64]; omega) w)) ?_
    refine TQ.on rfl rfl rfl ?_
    refine TQ.val rfl rfl rfl (gA (i := (k - 1)) Tryz.underlying23 prssz65 rfl rfl rfl rfl rfl (by omega)) ?_
    refine TQ.on rfl rfl rfl ?_
    refine TQ.val rfl rfl rfl (gives_loadR (off := 0 + (k - 1) * 17) rfl rfl prsag65 prssz65 (rs_cel.len x26) (fun w1 hw j9 u9 h9 => flat_row rs_cel hw (q := 0) rfl hx26 j9 u9 h9)) ?_
    refine TQ.rn 2 rfl ?_
    refine TQ.on rfl rfl rfl ?_
    refine TQ.val rfl rfl rfl (gA (i := i) Tryz.underlying23 prssz65 rfl rfl rfl rfl hA14 (by omega)) ?_
    refine TQ.ov (gR rs_cel prsag65 prssz65 hbb14 hx14 hc14) ?_
    refine TQ.on rfl rfl rfl ?_
    refine TQ.call (v := .int .i64 (cmpRs x26 x14)) rfl rfl rfl rfl rfl Tryz.func147 (by decide) rfl (fun w1 hw => (rcmpRs_any x26 x14 w1).mono fun en w2 ⟨h1, h2⟩ => ⟨h1, hw.below h2⟩) ?_
    refine TQ.on rfl rfl rfl ?_
    refine TQ.sp bin_eql (fun q50 => ?_) (fun q50 => ?_)
    ·refine TQ.val rfl rfl rfl (gives_pick rfl rfl rfl) ?_
     refine TQ.fin ?_
     refine zT (zc (zx (zX (zM (zT (zG (TL.mv ?_)))))))
     refine TL.v (gD ((i + 1 : Nat) : Int)) ?_
     refine TL.as_ ?_
     refine zE ?_
     exact TX.round (⟨(i + 1, ((some ⟨g_Ao, 0, none⟩), co), m, out), by dsimp only; omega, hout.dup hx14 h16 hok hx26 (by exact q50), by dsimp only; omega, houtc, houtm, houtn⟩) (by show l.length - (i + 1) < l.length - i; omega) ⟨rfl, rfl, rfl, rfl, trivial⟩ (fun w1 hw => hw)
    refine TQ.val rfl rfl rfl (gives_pick rfl rfl rfl) ?_
    refine TQ.fin ?_
    refine zT (zd (zk (zT (zSG (TL.rn 3 rfl ?_)))))
    refine TL.val rfl rfl rfl (gA (i := i) Tryz.underlying23 prssz65 rfl rfl rfl rfl hA14 (by omega)) ?_
    refine TL.v (gR rs_cel prsag65 prssz65 hbb14 hx14 hc14) ?_
    refine TL.prowS (e := 65) (size := 17) (cs := flat Rs.cells [x14]) rfl rfl rfl rfl rfl (fun w => porbs23_1_99505 _ _ _ _ _ _ _ _ _ _ _ _ _ _ _ _ _ w) (by decide) rfl (fun g57 => ?_)
    refine TL.appendT (k := 1) rfl rfl rfl rfl Tryz.underlying23 porel23 rfl rfl rfl (fun w1 hw => pm_reads hw (k := 0) rfl) (flat_one rs_cel _) (by show _ * 128 ≤ _; omega) (m + 1) (rfl) (flat Rs.cells (out ++ [x14])) ((flat_app _ _).symm) (fun A58 c58 hA581 hA582 => ?_)
    refine TL.as_ ?_
    refine zET (zS ?_)
    have hn1 : (out ++ [x14]).length = out.length + 1 := by simp
    have hn2 : (shiftL (out ++ [x14]) k).length = out.length + 1 := by rw [shiftL_len _ _ (by omega), hn1]
    refine TC.fact (p := ∃ g, A58 = some ⟨g, 0, none⟩) (fun w1 hw => rowA hw (k := 1) rfl (by simp)) ?_
    rintro ⟨g_A58, rfl⟩
    refine TC.tail 7 (by kernel_rfl) (by kernel_rfl) (fun w hw => hw.drawn _) ?_
    refine TS.val rfl rfl rfl (gives_move rfl rfl) ?_
    refine TS.val rfl rfl rfl (gives_move rfl rfl) ?_
    refine TS.v (gD ((k + 1 : Nat) : Int)) ?_
    refine TS.val rfl rfl rfl (gives_sliceL (v := .slice (if c58 = k + 1 then some ⟨g_A58, 0, none⟩ else (some (⟨g_A58, 0, none⟩ : Addr)).map (·.add ((k + 1) * 17))) ((m + 1) - (k + 1)) (c58 - (k + 1))) rfl rfl rfl (fun w => cut_lo Tryz.underlying23 prssz65 _ _ _ (k + 1) rfl (by omega) w)) ?_
    refine TS.val rfl rfl rfl (gives_move rfl rfl) ?_
    refine TS.val rfl rfl rfl (gives_move rfl rfl) ?_
    refine TS.val rfl rfl rfl (gives_tailF (q := k) rfl rfl rfl rfl Tryz.underlying23 prssz65 (by omega) (by omega)) ?_
    refine TS.end_ ?_
    refine TL.shiftF rs_cel (kk := 1) (k := k) rfl rfl rfl rfl Tryz.underlying23 prssz65 rfl rfl rfl (by omega) (by omega) (by omega) ?_
    try dsimp only [List.set_cons_zero, List.set_cons_succ]
    refine zET (zG (TL.rn 4 rfl ?_))
    refine TL.val rfl rfl rfl (gA (i := i) Tryz.underlying23 prssz65 rfl rfl rfl rfl hA14 (by omega)) ?_
    refine TL.v (gR rs_cel prsag65 prssz65 hbb14 hx14 hc14) ?_
    have hi73 : k < (shiftL (out ++ [x14]) k).length := by omega
    obtain ⟨x73, hx73⟩ := ex_at hi73
    refine TL.val rfl rfl rfl (gA (i := k) Tryz.underlying23 prssz65 rfl rfl rfl rfl rfl (by omega)) ?_
    refine TL.rowset (k := 1) (vs := x14.cells) (xs' := flat Rs.cells ((shiftL (out ++ [x14]) k).set k x14)) rfl rfl rfl rfl rfl rfl rfl prssz65 (rs_cel.one _) (by rw [flat_len rs_cel]; show 0 + k * 17 + 17 ≤ _; omega) (flat_put rs_cel (q := 0) (y := x14) hx73 (by show 0 + 17 ≤ 17; decide) rfl) ?_
    try dsimp only [List.set_cons_zero, List.set_cons_succ]
    refine zE (zN (zT (zG (TL.mv ?_))))
    refine TL.v (gD ((i + 1 : Nat) : Int)) ?_
    refine TL.as_ ?_
    refine zE ?_
    exact TX.round (⟨(i + 1, ((some ⟨g_A58, 0, none⟩), c58), m + 1, (shiftL (out ++ [x14]) k).set k x14), by dsimp only; omega, by dsimp only; rw [shiftL_at _ _ _ _ (by omega)]; exact hout.put hx14 h16 (fun z hz => ascK_ahead keys_len hout.1 hx26 (by have := q33; have := q50; show cmpRs _ _ < 0; omega) z (by rwa [Nat.sub_add_cancel (by omega)])) hgt, by dsimp only; omega, hA581, hA582, by dsimp only; rw [List.length_set]; omega⟩) (by show l.length - (i + 1) < l.length - i; omega) ⟨rfl, rfl, rfl, rfl, trivial⟩ (fun w1 hw => hw.pick [1] (by decide) rfl)
  refine TL.val rfl rfl rfl (gives_boolnot rfl rfl) ?_
  refine zET (zc (zx (zX (zM (zT (zG (TL.mv ?_)))))))
  refine TL.v (gD ((i + 1 : Nat) : Int)) ?_
  refine TL.as_ ?_
  refine zE ?_
  exact TX.round (⟨(i + 1, (Ao, co), m, out), by dsimp only; omega, hout.skip hx14 h16, by dsimp only; omega, houtc, houtm, houtn⟩) (by show l.length - (i + 1) < l.length - i; omega) ⟨rfl, rfl, rfl, rfl, trivial⟩ (fun w1 hw => hw)
 have q9 := of_decide_eq_false h9
 refine zET (zd (zx (zX (zX (zM (zT (zSG (TL.rn 2 rfl (zET (zr ?_))))))))))
 subst houtn
 exact ret_tmp Tryz.results95 rfl (fun w1 hw => ⟨⟨((Ao, co), out), by rw [List.take_of_length_le (by omega)] at hout; exact hout, by dsimp only; omega, houtm⟩, rfl, hw.pick [0] (by decide) rfl⟩)
end Go.Proofs.YtijmpjfafpodhaaGreat
