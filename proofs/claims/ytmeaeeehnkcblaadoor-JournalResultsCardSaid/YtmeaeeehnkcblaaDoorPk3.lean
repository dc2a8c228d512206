/-
  Texts of the proof, joined: JrSm, REq, SymCall, JrDec, DgMacLaw, SymEl, Concat, JrSegLaw, Draw, DgWords, DgComp2, ChunkMake, Chunk, DgSum, Spo.
-/
import Derived.Test.YtmeaeeehnkcblaaDoorPk2
import Derived.Test.YtmeaeeehnkcblaaDoorPk1
import Derived.Test.YtmeaeeehnkcblaaDoorProg
import Derived.Laws.BytesArg
import Derived.Test.YtmeaeeehnkcblaaDoorRows
import Derived.Deep.WholeRow
import Derived.StillTailTactics
import Derived.Deep.DeepCutAuto
import Derived.Deep.DeepFit
import Derived.KernelRfl
import Derived.RangeFuncNested
import Derived.RangeFuncBound
import Derived.RangeFuncCalls
import Derived.RangeFuncLeaves
import Derived.Shelf.Abstract
import Derived.Shelf.RegionOpen
import Derived.WalkKit
import Derived.OwnWalkIn
import Derived.TacticsInMore
import Derived.LoopNIn
import Derived.LoopIn
import Derived.Sort.QuietIn
namespace Go.Proofs.YtmeaeeehnkcblaaDoor
open Go.RowKit
set_option linter.unusedVariables false
set_option linter.unusedSimpArgs false
set_option maxRecDepth 20000
def rsj : List Int := [82, 83, 74, 49]
def headOk (l : List Int) : Prop := l.take 4 = rsj ∧ getN l 8 1 ≤ 64
instance (l : List Int) : Decidable (headOk l) := by unfold headOk; infer_instance
def lenN (l : List Int) : Int := if l.length < 41 then 0 else if ¬ headOk l then 0 else 41 + 37 * getN l 8 1 + 32
def lenE (l : List Int) : Int := if l.length < 41 then 3 else if ¬ headOk l then 2 else 0
theorem rsj_bs : Bs rsj := by intro x hx; simp only [rsj, List.mem_cons, List.not_mem_nil, or_false] at hx; omega
theorem len_short {l : List Int} (h : l.length < 41) : lenN l = 0 ∧ lenE l = 3 := ⟨if_pos h, if_pos h⟩
theorem len_form {l : List Int} (h : ¬ l.length < 41) (hx : ¬ headOk l) : lenN l = 0 ∧ lenE l = 2 := ⟨by rw [lenN, if_neg h, if_pos hx], by rw [lenE, if_neg h, if_pos hx]⟩
theorem len_ok {l : List Int} (h : ¬ l.length < 41) (hx : headOk l) : lenN l = 41 + 37 * getN l 8 1 + 32 ∧ lenE l = 0 := ⟨by rw [lenN, if_neg h, if_neg (fun hh => hh hx)], by rw [lenE, if_neg h, if_neg (fun hh => hh hx)]⟩
theorem get1 {l : List Int} {i : Nat} {y : Int} (h : l[i]? = some y) : getN l i 1 = y := by
 have e : (l.drop i).take 1 = [y] := by
  have : (l.drop i)[0]? = some y := by rw [List.getElem?_drop]; exact h
  cases hd : l.drop i with
  | nil => rw [hd] at this; cases this
  | cons a t => rw [hd] at this; cases this; rfl
 unfold getN
 rw [e]
 simp [be]
theorem cut_hi4 (b0 o n c : Nat) (h : 4 ≤ c) (w : World) : (Instr.sliceAt 28 (.slice (some ⟨b0, o, none⟩) n c) none (some (.int .i64 4)) none).run Tryd.prog w = .ok (.slice (some ⟨b0, o, none⟩) 4 c) w :=
 cut_hi (size := 1) Tryd.underlying28 (fun w => rfl) _ n c 4 rfl h w
theorem jsmnm56 : (Tryd.f56.name == "runtime.NumGoroutine") = false := by decide
theorem jsmbd56 : Tryd.f56.body.isNone = false := rfl
theorem jsmfld45_0 (g o : Nat) (w : World) : (Instr.fieldAt 45 (.pointer (some ⟨g, o, none⟩)) 0).run Tryd.prog w = .ok (.pointer (some ⟨g, o + 0, none⟩)) w := by kernel_rfl
theorem jsmag3 (w : World) : (isAgg 3).run Tryd.prog w = .ok false w := rfl
theorem jsmfld45_1 (g o : Nat) (w : World) : (Instr.fieldAt 45 (.pointer (some ⟨g, o, none⟩)) 1).run Tryd.prog w = .ok (.pointer (some ⟨g, o + 1, none⟩)) w := by kernel_rfl
theorem jsmfld45_2 (g o : Nat) (w : World) : (Instr.fieldAt 45 (.pointer (some ⟨g, o, none⟩)) 2).run Tryd.prog w = .ok (.pointer (some ⟨g, o + 2, none⟩)) w := by kernel_rfl
theorem jsmfld45_3 (g o : Nat) (w : World) : (Instr.fieldAt 45 (.pointer (some ⟨g, o, none⟩)) 3).run Tryd.prog w = .ok (.pointer (some ⟨g, o + 3, none⟩)) w := by kernel_rfl
theorem jsmag28 (w : World) : (isAgg 28).run Tryd.prog w = .ok false w := rfl
theorem jsmfld27_0 (g o : Nat) (w : World) : (Instr.fieldAt 27 (.pointer (some ⟨g, o, none⟩)) 0).run Tryd.prog w = .ok (.pointer (some ⟨g, o + 0, none⟩)) w := by kernel_rfl
theorem jsmfld27_1 (g o : Nat) (w : World) : (Instr.fieldAt 27 (.pointer (some ⟨g, o, none⟩)) 1).run Tryd.prog w = .ok (.pointer (some ⟨g, o + 1, none⟩)) w := by kernel_rfl
theorem jsmfld27_2 (g o : Nat) (w : World) : (Instr.fieldAt 27 (.pointer (some ⟨g, o, none⟩)) 2).run Tryd.prog w = .ok (.pointer (some ⟨g, o + 2, none⟩)) w := by kernel_rfl
theorem bequal (A1 A2 : Option Addr) (n1 c1 n2 c2 : Nat) (l1 l2 : List Int) (w : World) (h1 : Byt w w.heap.size A1 n1 l1) (h2 : Byt w w.heap.size A2 n2 l2) :
  Calls Tryd.prog 56 #[.slice A1 n1 c1, .slice A2 n2 c2] w fun e w' => e = .returned (.bool (decide (l1 = l2))) ∧ Below w.heap.size w w' := by
 refine begin_ (vs := [.slice A1 n1 c1, .slice A2 n2 c2]) Tryd.func56 rfl rfl rfl ?_ (Pm.start w)
 refine TC.seq_ (TC.region ?_)
 refine TL.val rfl rfl rfl (gives_assign rfl rfl) ?_
 refine TL.end_ (TX.then_ (TC.seq_ (TC.region ?_)))
 refine TL.val rfl rfl rfl (gives_move rfl rfl) ?_
 refine TL.val rfl rfl rfl (gives_strB (l := l1) rfl rfl Tryd.underlying28 Tryd.underlying5 Tryd.underlying9 (fun w1 hw => ⟨_, h1.below hw.bel⟩)) ?_
 refine TL.val rfl rfl rfl (gives_move rfl rfl) ?_
 refine TL.val rfl rfl rfl (gives_strB (l := l2) rfl rfl Tryd.underlying28 Tryd.underlying5 Tryd.underlying9 (fun w1 hw => ⟨_, h2.below hw.bel⟩)) ?_
 refine TL.val rfl rfl rfl (gives_bin2 (v := .bool (decide (l1 = l2))) rfl rfl rfl (fun w => bin_streq h1.2 h2.2 w)) ?_
 refine TL.val rfl rfl rfl (gives_assign rfl rfl) ?_
 refine TL.end_ (TX.then_ (TC.ret_ ?_))
 exact ret_tmp Tryd.results56 rfl (fun w1 hw => ⟨rfl, hw.bel⟩)
theorem wequal (A1 A2 : Option Addr) (n1 c1 n2 c2 : Nat) (l1 l2 : List Int) (w : World) (h1 : Byt w w.heap.size A1 n1 l1) (h2 : Byt w w.heap.size A2 n2 l2) :
  Calls Tryd.prog 28 #[.slice A1 n1 c1, .slice A2 n2 c2] w fun e w' => e = .returned (.bool (decide (l1 = l2))) ∧ Below w.heap.size w w' := by
 refine begin_ (vs := [.slice A1 n1 c1, .slice A2 n2 c2]) Tryd.func28 rfl rfl rfl ?_ (Pm.start w)
 refine TC.seq_ (TC.region ?_)
 refine TL.val rfl rfl rfl (gives_assign rfl rfl) ?_
 refine TL.end_ (TX.then_ (TC.seq_ (TC.region ?_)))
 refine TL.val rfl rfl rfl (gives_move rfl rfl) ?_
 refine TL.val rfl rfl rfl (gives_move rfl rfl) ?_
 refine TL.pcall1 (r := .bool (decide (l1 = l2))) rfl rfl rfl rfl rfl Tryd.func56 jsmnm56 jsmbd56 (fun w1 hw => bequal A1 A2 n1 c1 n2 c2 l1 l2 w1 ((h1.below hw.bel).more hw.bel.size) ((h2.below hw.bel).more hw.bel.size)) ?_
 refine TL.val rfl rfl rfl (gives_assign rfl rfl) ?_
 refine TL.end_ (TX.then_ (TC.ret_ ?_))
 exact ret_tmp Tryd.results28 rfl (fun w1 hw => ⟨rfl, hw.bel⟩)
def emptyC (v run n : Int) (m : Nat) : Bool := decide (v = 0 ∧ run = 0 ∧ n = 0 ∧ m = 0)
theorem empty_any (v run n : Int) (A : Option Addr) (m c : Nat) (w : World) :
  Calls Tryd.prog 68 #[.agg #[.int .i64 v, .int .i64 run, .int .i64 n, .slice A m c]] w fun e w' => e = .returned (.bool (emptyC v run n m)) ∧ Below w.heap.size w w' := by
 refine begin_ (vs := [.agg #[.int .i64 v, .int .i64 run, .int .i64 n, .slice A m c]]) Tryd.func68 rfl rfl rfl ?_ (Pm.start w)
 refine TC.seq_ (TC.region ?_)
 refine TL.pnew rfl rfl rfl (exec_box (cs := [.int .i64 v, .int .i64 run, .int .i64 n, .slice A m c]) rfl rfl rfl) (fun g1 => ?_)
 refine TL.val rfl rfl rfl (gives_assign rfl rfl) ?_
 refine TL.end_ (TX.then_ (TC.seq_ (TC.region ?_)))
 refine TL.val rfl rfl rfl (gives_field (v := .pointer (some ⟨g1, 0, none⟩)) rfl rfl (fun w => jsmfld45_0 _ _ w)) ?_
 refine TL.val rfl rfl rfl (pm_load (k := 0) (i := 0) rfl rfl jsmag3 rfl rfl) ?_
 refine TL.vsplit rfl rfl rfl (gives_bin rfl rfl rfl (fun w => bin_eql w)) (fun h5 => ?_) (fun h5 => ?_)
 ·have q5 := of_decide_eq_true h5
  refine TL.val rfl rfl rfl (gives_move rfl rfl) ?_
  refine TL.on rfl rfl rfl ?_
  refine TL.val rfl rfl rfl (gives_field (v := .pointer (some ⟨g1, 1, none⟩)) rfl rfl (fun w => jsmfld45_1 _ _ w)) ?_
  refine TL.on rfl rfl rfl ?_
  refine TL.val rfl rfl rfl (pm_load (k := 0) (i := 1) rfl rfl jsmag3 rfl rfl) ?_
  refine TL.on rfl rfl rfl ?_
  refine TL.vsplit rfl rfl rfl (gives_bin rfl rfl rfl (fun w => bin_eql w)) (fun h9 => ?_) (fun h9 => ?_)
  ·have q9 := of_decide_eq_true h9
   refine TL.val rfl rfl rfl (gives_pick rfl rfl rfl) ?_
   refine TL.val rfl rfl rfl (gives_move rfl rfl) ?_
   refine TL.on rfl rfl rfl ?_
   refine TL.val rfl rfl rfl (gives_field (v := .pointer (some ⟨g1, 2, none⟩)) rfl rfl (fun w => jsmfld45_2 _ _ w)) ?_
   refine TL.on rfl rfl rfl ?_
   refine TL.val rfl rfl rfl (pm_load (k := 0) (i := 2) rfl rfl jsmag3 rfl rfl) ?_
   refine TL.on rfl rfl rfl ?_
   refine TL.vsplit rfl rfl rfl (gives_bin rfl rfl rfl (fun w => bin_eql w)) (fun h14 => ?_) (fun h14 => ?_)
   ·have q14 := of_decide_eq_true h14
    refine TL.val rfl rfl rfl (gives_pick rfl rfl rfl) ?_
    refine TL.val rfl rfl rfl (gives_move rfl rfl) ?_
    refine TL.on rfl rfl rfl ?_
    refine TL.val rfl rfl rfl (gives_field (v := .pointer (some ⟨g1, 3, none⟩)) rfl rfl (fun w => jsmfld45_3 _ _ w)) ?_
    refine TL.on rfl rfl rfl ?_
    refine TL.val rfl rfl rfl (pm_load (k := 0) (i := 3) rfl rfl jsmag28 rfl rfl) ?_
    refine TL.on rfl rfl rfl ?_
    refine TL.val rfl rfl rfl (gives_len rfl Tryd.underlying28 rfl) ?_
    refine TL.on rfl rfl rfl ?_
    refine TL.vsplit rfl rfl rfl (gives_bin rfl rfl rfl (fun w => bin_eql w)) (fun h20 => ?_) (fun h20 => ?_)
    ·have q20 := of_decide_eq_true h20
     refine TL.val rfl rfl rfl (gives_pick rfl rfl rfl) ?_
     refine TL.val rfl rfl rfl (gives_assign rfl rfl) ?_
     refine TL.end_ (TX.then_ (TC.ret_ ?_))
     exact ret_tmp Tryd.results68 rfl (fun w1 hw => ⟨by rw [emptyC]; congr; exact (decide_eq_true (by omega)).symm, hw.bel⟩)
    ·have q20 := of_decide_eq_false h20
     refine TL.val rfl rfl rfl (gives_pick rfl rfl rfl) ?_
     refine TL.val rfl rfl rfl (gives_assign rfl rfl) ?_
     refine TL.end_ (TX.then_ (TC.ret_ ?_))
     exact ret_tmp Tryd.results68 rfl (fun w1 hw => ⟨by rw [emptyC]; congr; exact (decide_eq_false (by omega)).symm, hw.bel⟩)
   ·have q14 := of_decide_eq_false h14
    iterate 8 (first | refine TL.off rfl rfl rfl rfl rfl rfl ?_ | refine TL.val rfl rfl rfl (gives_pick rfl rfl rfl) ?_ | refine TL.val rfl rfl rfl (gives_move rfl rfl) ?_ | refine TL.val rfl rfl rfl (gives_assign rfl rfl) ?_)
    refine TL.end_ (TX.then_ (TC.ret_ ?_))
    exact ret_tmp Tryd.results68 rfl (fun w1 hw => ⟨by rw [emptyC]; congr; exact (decide_eq_false (by omega)).symm, hw.bel⟩)
  ·have q9 := of_decide_eq_false h9
   iterate 13 (first | refine TL.off rfl rfl rfl rfl rfl rfl ?_ | refine TL.val rfl rfl rfl (gives_pick rfl rfl rfl) ?_ | refine TL.val rfl rfl rfl (gives_move rfl rfl) ?_ | refine TL.val rfl rfl rfl (gives_assign rfl rfl) ?_)
   refine TL.end_ (TX.then_ (TC.ret_ ?_))
   exact ret_tmp Tryd.results68 rfl (fun w1 hw => ⟨by rw [emptyC]; congr; exact (decide_eq_false (by omega)).symm, hw.bel⟩)
 ·have q5 := of_decide_eq_false h5
  iterate 17 (first | refine TL.off rfl rfl rfl rfl rfl rfl ?_ | refine TL.val rfl rfl rfl (gives_move rfl rfl) ?_ | refine TL.val rfl rfl rfl (gives_pick rfl rfl rfl) ?_ | refine TL.val rfl rfl rfl (gives_assign rfl rfl) ?_)
  refine TL.end_ (TX.then_ (TC.ret_ ?_))
  exact ret_tmp Tryd.results68 rfl (fun w1 hw => ⟨by rw [emptyC]; congr; exact (decide_eq_false (by omega)).symm, hw.bel⟩)
theorem zero_any (v run n : Int) (A : Option Addr) (m c : Nat) (w : World) :
  Calls Tryd.prog 55 #[.agg #[.int .i64 v, .int .i64 run, .int .i64 n, .slice A m c]] w fun e w' => e = .returned (.bool (emptyC v run n m)) ∧ Below w.heap.size w w' := by
 refine begin_ (vs := [.agg #[.int .i64 v, .int .i64 run, .int .i64 n, .slice A m c]]) Tryd.func55 rfl rfl rfl ?_ (Pm.start w)
 refine TC.seq_ (TC.region ?_)
 refine TL.pnew rfl rfl rfl (exec_box (cs := [.int .i64 v, .int .i64 run, .int .i64 n, .slice A m c]) rfl rfl rfl) (fun g1 => ?_)
 refine TL.val rfl rfl rfl (gives_assign rfl rfl) ?_
 refine TL.end_ (TX.then_ (TC.seq_ (TC.region ?_)))
 refine TL.val rfl rfl rfl (gives_field (v := .pointer (some ⟨g1, 0, none⟩)) rfl rfl (fun w => jsmfld45_0 _ _ w)) ?_
 refine TL.val rfl rfl rfl (pm_load (k := 0) (i := 0) rfl rfl jsmag3 rfl rfl) ?_
 refine TL.vsplit rfl rfl rfl (gives_bin rfl rfl rfl (fun w => bin_eql w)) (fun h5 => ?_) (fun h5 => ?_)
 ·have q5 := of_decide_eq_true h5
  refine TL.val rfl rfl rfl (gives_move rfl rfl) ?_
  refine TL.on rfl rfl rfl ?_
  refine TL.val rfl rfl rfl (gives_field (v := .pointer (some ⟨g1, 1, none⟩)) rfl rfl (fun w => jsmfld45_1 _ _ w)) ?_
  refine TL.on rfl rfl rfl ?_
  refine TL.val rfl rfl rfl (pm_load (k := 0) (i := 1) rfl rfl jsmag3 rfl rfl) ?_
  refine TL.on rfl rfl rfl ?_
  refine TL.vsplit rfl rfl rfl (gives_bin rfl rfl rfl (fun w => bin_eql w)) (fun h9 => ?_) (fun h9 => ?_)
  ·have q9 := of_decide_eq_true h9
   refine TL.val rfl rfl rfl (gives_pick rfl rfl rfl) ?_
   refine TL.val rfl rfl rfl (gives_move rfl rfl) ?_
   refine TL.on rfl rfl rfl ?_
   refine TL.val rfl rfl rfl (gives_field (v := .pointer (some ⟨g1, 2, none⟩)) rfl rfl (fun w => jsmfld45_2 _ _ w)) ?_
   refine TL.on rfl rfl rfl ?_
   refine TL.val rfl rfl rfl (pm_load (k := 0) (i := 2) rfl rfl jsmag3 rfl rfl) ?_
   refine TL.on rfl rfl rfl ?_
   refine TL.vsplit rfl rfl rfl (gives_bin rfl rfl rfl (fun w => bin_eql w)) (fun h14 => ?_) (fun h14 => ?_)
   ·have q14 := of_decide_eq_true h14
    refine TL.val rfl rfl rfl (gives_pick rfl rfl rfl) ?_
    refine TL.val rfl rfl rfl (gives_move rfl rfl) ?_
    refine TL.on rfl rfl rfl ?_
    refine TL.val rfl rfl rfl (gives_field (v := .pointer (some ⟨g1, 3, none⟩)) rfl rfl (fun w => jsmfld45_3 _ _ w)) ?_
    refine TL.on rfl rfl rfl ?_
    refine TL.val rfl rfl rfl (pm_load (k := 0) (i := 3) rfl rfl jsmag28 rfl rfl) ?_
    refine TL.on rfl rfl rfl ?_
    refine TL.val rfl rfl rfl (gives_len rfl Tryd.underlying28 rfl) ?_
    refine TL.on rfl rfl rfl ?_
    refine TL.vsplit rfl rfl rfl (gives_bin rfl rfl rfl (fun w => bin_eql w)) (fun h20 => ?_) (fun h20 => ?_)
    ·have q20 := of_decide_eq_true h20
     refine TL.val rfl rfl rfl (gives_pick rfl rfl rfl) ?_
     refine TL.val rfl rfl rfl (gives_assign rfl rfl) ?_
     refine TL.end_ (TX.then_ (TC.ret_ ?_))
     exact ret_tmp Tryd.results55 rfl (fun w1 hw => ⟨by rw [emptyC]; congr; exact (decide_eq_true (by omega)).symm, hw.bel⟩)
    ·have q20 := of_decide_eq_false h20
     refine TL.val rfl rfl rfl (gives_pick rfl rfl rfl) ?_
     refine TL.val rfl rfl rfl (gives_assign rfl rfl) ?_
     refine TL.end_ (TX.then_ (TC.ret_ ?_))
     exact ret_tmp Tryd.results55 rfl (fun w1 hw => ⟨by rw [emptyC]; congr; exact (decide_eq_false (by omega)).symm, hw.bel⟩)
   ·have q14 := of_decide_eq_false h14
    iterate 8 (first | refine TL.off rfl rfl rfl rfl rfl rfl ?_ | refine TL.val rfl rfl rfl (gives_pick rfl rfl rfl) ?_ | refine TL.val rfl rfl rfl (gives_move rfl rfl) ?_ | refine TL.val rfl rfl rfl (gives_assign rfl rfl) ?_)
    refine TL.end_ (TX.then_ (TC.ret_ ?_))
    exact ret_tmp Tryd.results55 rfl (fun w1 hw => ⟨by rw [emptyC]; congr; exact (decide_eq_false (by omega)).symm, hw.bel⟩)
  ·have q9 := of_decide_eq_false h9
   iterate 13 (first | refine TL.off rfl rfl rfl rfl rfl rfl ?_ | refine TL.val rfl rfl rfl (gives_pick rfl rfl rfl) ?_ | refine TL.val rfl rfl rfl (gives_move rfl rfl) ?_ | refine TL.val rfl rfl rfl (gives_assign rfl rfl) ?_)
   refine TL.end_ (TX.then_ (TC.ret_ ?_))
   exact ret_tmp Tryd.results55 rfl (fun w1 hw => ⟨by rw [emptyC]; congr; exact (decide_eq_false (by omega)).symm, hw.bel⟩)
 ·have q5 := of_decide_eq_false h5
  iterate 17 (first | refine TL.off rfl rfl rfl rfl rfl rfl ?_ | refine TL.val rfl rfl rfl (gives_move rfl rfl) ?_ | refine TL.val rfl rfl rfl (gives_pick rfl rfl rfl) ?_ | refine TL.val rfl rfl rfl (gives_assign rfl rfl) ?_)
  refine TL.end_ (TX.then_ (TC.ret_ ?_))
  exact ret_tmp Tryd.results55 rfl (fun w1 hw => ⟨by rw [emptyC]; congr; exact (decide_eq_false (by omega)).symm, hw.bel⟩)
def followsC (v run n i : Int) (r : Rs) : Bool := decide (r.v = v ∧ r.run = run ∧ r.num = n + i)
theorem follows_any (v run n i : Int) (A : Option Addr) (m c : Nat) (r : Rs) (w : World) (h : -9223372036854775808 ≤ n + i ∧ n + i ≤ 9223372036854775807) :
  Calls Tryd.prog 62 #[.agg #[.int .i64 v, .int .i64 run, .int .i64 n, .slice A m c], .int .i64 i, .agg r.cells.toArray] w fun e w' => e = .returned (.bool (followsC v run n i r)) ∧ Below w.heap.size w w' := by
 refine begin_ (vs := [.agg #[.int .i64 v, .int .i64 run, .int .i64 n, .slice A m c], .int .i64 i, .agg r.cells.toArray]) Tryd.func62 rfl rfl rfl ?_ (Pm.start w)
 refine TC.seq_ (TC.region ?_)
 refine TL.pnew rfl rfl rfl (exec_box (cs := [.int .i64 v, .int .i64 run, .int .i64 n, .slice A m c]) rfl rfl rfl) (fun g3 => ?_)
 refine TL.pnew rfl rfl rfl (exec_box (cs := r.cells) rfl rfl rfl) (fun g5 => ?_)
 refine TL.val rfl rfl rfl (gives_assign rfl rfl) ?_
 refine TL.end_ (TX.then_ (TC.seq_ (TC.region ?_)))
 refine TL.val rfl rfl rfl (gives_field (v := .pointer (some ⟨g5, 0, none⟩)) rfl rfl (fun w => jsmfld27_0 _ _ w)) ?_
 refine TL.val rfl rfl rfl (pm_load (k := 0) (i := 0) rfl rfl jsmag3 rfl rfl) ?_
 refine TL.val rfl rfl rfl (gives_field (v := .pointer (some ⟨g3, 0, none⟩)) rfl rfl (fun w => jsmfld45_0 _ _ w)) ?_
 refine TL.val rfl rfl rfl (pm_load (k := 1) (i := 0) rfl rfl jsmag3 rfl rfl) ?_
 refine TL.vsplit rfl rfl rfl (gives_bin rfl rfl rfl (fun w => bin_eql w)) (fun h11 => ?_) (fun h11 => ?_)
 ·have q11 := of_decide_eq_true h11
  refine TL.val rfl rfl rfl (gives_move rfl rfl) ?_
  refine TL.on rfl rfl rfl ?_
  refine TL.val rfl rfl rfl (gives_field (v := .pointer (some ⟨g5, 1, none⟩)) rfl rfl (fun w => jsmfld27_1 _ _ w)) ?_
  refine TL.on rfl rfl rfl ?_
  refine TL.val rfl rfl rfl (pm_load (k := 0) (i := 1) rfl rfl jsmag3 rfl rfl) ?_
  refine TL.on rfl rfl rfl ?_
  refine TL.val rfl rfl rfl (gives_field (v := .pointer (some ⟨g3, 1, none⟩)) rfl rfl (fun w => jsmfld45_1 _ _ w)) ?_
  refine TL.on rfl rfl rfl ?_
  refine TL.val rfl rfl rfl (pm_load (k := 1) (i := 1) rfl rfl jsmag3 rfl rfl) ?_
  refine TL.on rfl rfl rfl ?_
  refine TL.vsplit rfl rfl rfl (gives_bin rfl rfl rfl (fun w => bin_eql w)) (fun h17 => ?_) (fun h17 => ?_)
  ·have q17 := of_decide_eq_true h17
   refine TL.val rfl rfl rfl (gives_pick rfl rfl rfl) ?_
   refine TL.val rfl rfl rfl (gives_move rfl rfl) ?_
   refine TL.on rfl rfl rfl ?_
   refine TL.val rfl rfl rfl (gives_field (v := .pointer (some ⟨g5, 2, none⟩)) rfl rfl (fun w => jsmfld27_2 _ _ w)) ?_
   refine TL.on rfl rfl rfl ?_
   refine TL.val rfl rfl rfl (pm_load (k := 0) (i := 2) rfl rfl jsmag3 rfl rfl) ?_
   refine TL.on rfl rfl rfl ?_
   refine TL.val rfl rfl rfl (gives_field (v := .pointer (some ⟨g3, 2, none⟩)) rfl rfl (fun w => jsmfld45_2 _ _ w)) ?_
   refine TL.on rfl rfl rfl ?_
   refine TL.val rfl rfl rfl (pm_load (k := 1) (i := 2) rfl rfl jsmag3 rfl rfl) ?_
   refine TL.on rfl rfl rfl ?_
   refine TL.val rfl rfl rfl (gives_move rfl rfl) ?_
   refine TL.on rfl rfl rfl ?_
   refine TL.val rfl rfl rfl (gives_bin rfl rfl rfl (fun w => bin_add_ (r := n + i) (by simp only [IntKind.wrap_i64]; omega) w)) ?_
   refine TL.on rfl rfl rfl ?_
   refine TL.vsplit rfl rfl rfl (gives_bin rfl rfl rfl (fun w => bin_eql w)) (fun h26 => ?_) (fun h26 => ?_)
   ·have q26 := of_decide_eq_true h26
    refine TL.val rfl rfl rfl (gives_pick rfl rfl rfl) ?_
    refine TL.val rfl rfl rfl (gives_assign rfl rfl) ?_
    refine TL.end_ (TX.then_ (TC.ret_ ?_))
    exact ret_tmp Tryd.results62 rfl (fun w1 hw => ⟨by rw [followsC]; congr; exact (decide_eq_true (by omega)).symm, hw.bel⟩)
   ·have q26 := of_decide_eq_false h26
    refine TL.val rfl rfl rfl (gives_pick rfl rfl rfl) ?_
    refine TL.val rfl rfl rfl (gives_assign rfl rfl) ?_
    refine TL.end_ (TX.then_ (TC.ret_ ?_))
    exact ret_tmp Tryd.results62 rfl (fun w1 hw => ⟨by rw [followsC]; congr; exact (decide_eq_false (by omega)).symm, hw.bel⟩)
  ·have q17 := of_decide_eq_false h17
   iterate 11 (first | refine TL.off rfl rfl rfl rfl rfl rfl ?_ | refine TL.val rfl rfl rfl (gives_pick rfl rfl rfl) ?_ | refine TL.val rfl rfl rfl (gives_move rfl rfl) ?_ | refine TL.val rfl rfl rfl (gives_assign rfl rfl) ?_)
   refine TL.end_ (TX.then_ (TC.ret_ ?_))
   exact ret_tmp Tryd.results62 rfl (fun w1 hw => ⟨by rw [followsC]; congr; exact (decide_eq_false (by omega)).symm, hw.bel⟩)
 ·have q11 := of_decide_eq_false h11
  iterate 17 (first | refine TL.off rfl rfl rfl rfl rfl rfl ?_ | refine TL.val rfl rfl rfl (gives_move rfl rfl) ?_ | refine TL.val rfl rfl rfl (gives_pick rfl rfl rfl) ?_ | refine TL.val rfl rfl rfl (gives_assign rfl rfl) ?_)
  refine TL.end_ (TX.then_ (TC.ret_ ?_))
  exact ret_tmp Tryd.results62 rfl (fun w1 hw => ⟨by rw [followsC]; congr; exact (decide_eq_false (by omega)).symm, hw.bel⟩)
theorem length_any (A : Option Addr) (n c : Nat) (l : List Int) (w : World) (hb : Byt w w.heap.size A n l) (hnc : n ≤ c) :
  Calls Tryd.prog 24 #[.slice A n c] w fun e w' => e = .returned (.tuple #[.int .i64 (lenN l), .int .i64 (lenE l)]) ∧ Below w.heap.size w w' := by
 have hln := hb.len
 refine begin_ (vs := [.slice A n c]) Tryd.func24 rfl rfl rfl ?_ (Pm.start w)
 refine TC.seq_ (TC.region ?_)
 refine TL.val rfl rfl rfl (gives_assign rfl rfl) ?_
 refine TL.val rfl rfl rfl (gives_assign rfl rfl) ?_
 refine TL.end_ (TX.then_ (TC.seq_ (TC.seq_ (TC.region ?_))))
 refine TL.val rfl rfl rfl (gives_move rfl rfl) ?_
 refine TL.val rfl rfl rfl (gives_len rfl Tryd.underlying28 rfl) ?_
 refine TL.vsplit rfl rfl rfl (gives_bin rfl rfl rfl (fun w => bin_lss w)) (fun h7 => ?_) (fun h7 => ?_)
 ·have q7 := of_decide_eq_true h7
  refine TL.end_ (TX.then_ (TC.condT rfl (TC.seq_ (TC.region ?_))))
  refine TL.val rfl rfl rfl (gives_assign rfl rfl) ?_
  refine TL.val rfl rfl rfl (gives_assign rfl rfl) ?_
  refine TL.end_ (TX.then_ (TC.ret_ (TX.then_ret ?_)))
  exact ret_pair (v1 := .int .i64 0) (v2 := .int .i64 3) Tryd.results24 rfl rfl (fun w1 hw => ⟨by rw [(len_short (by omega)).1, (len_short (by omega)).2], hw.bel⟩)
 ·have q7 := of_decide_eq_false h7
  obtain ⟨b0, o, y, rfl, hbB, hl, hy0, hy1, hy⟩ := hb.at' (k := 8) (by omega)
  have hg8 : getN l 8 1 = y := get1 hl
  have hln := hb.len
  refine TL.end_ (TX.then_ (TC.condF rfl (TC.skip_ (TX.then_ (TC.seq_ (TC.region ?_))))))
  refine TL.val rfl rfl rfl (gives_move rfl rfl) ?_
  refine TL.val rfl rfl rfl (gives_at (v := .pointer (some ⟨b0, o + 8, none⟩)) rfl rfl rfl (fun w => at_u8 b0 o n c 8 (by omega) w)) ?_
  refine TL.val rfl rfl rfl (gives_load (v := .int .u8 y) rfl rfl (fun w => rfl) (fun w1 hw => (hw.bel.cell (p := ⟨b0, o + 8, none⟩) hbB).trans hy)) ?_
  refine TL.val rfl rfl rfl (gives_conv rfl rfl (fun w => conv_fit (k := .u8) Tryd.underlying3 Tryd.underlying5 (by simp only [IntKind.wrap_i64]; omega) w)) ?_
  refine TL.val rfl rfl rfl (gives_assign rfl rfl) ?_
  refine TL.end_ (TX.then_ (TC.seq_ (TC.seq_ (TC.region ?_))))
  refine TL.val rfl rfl rfl (gives_move rfl rfl) ?_
  refine TL.val rfl rfl rfl (gives_sliceH (v := .slice (some ⟨b0, o, none⟩) 4 c) rfl rfl rfl (fun w => cut_hi4 b0 o n c (by omega) w)) ?_
  refine TL.val rfl rfl rfl (gives_strB (l := (l.take 4)) rfl rfl Tryd.underlying28 Tryd.underlying5 Tryd.underlying9 (fun w1 hw => ⟨_, (hb.below hw.bel).head (by omega)⟩)) ?_
  refine TL.vsplit rfl rfl rfl (gives_bin2 (v := .bool (!decide (l.take 4 = rsj))) (vy := sv rsj) rfl rfl rfl (fun w => bin_strne (hb.2.take 4) rsj_bs w)) (fun h15 => ?_) (fun h15 => ?_)
  ·have hl15 : ¬ l.take 4 = rsj := by simpa using h15
   have hx : ¬ headOk l := fun hh => hl15 hh.1
   iterate 4 (first | refine TL.off rfl rfl rfl rfl rfl rfl ?_ | refine TL.val rfl rfl rfl (gives_move rfl rfl) ?_ | refine TL.val rfl rfl rfl (gives_pick rfl rfl rfl) ?_)
   refine TL.end_ (TX.then_ (TC.condT rfl (TC.seq_ (TC.region ?_))))
   refine TL.val rfl rfl rfl (gives_assign rfl rfl) ?_
   refine TL.val rfl rfl rfl (gives_assign rfl rfl) ?_
   refine TL.end_ (TX.then_ (TC.ret_ (TX.then_ret ?_)))
   exact ret_pair (v1 := .int .i64 0) (v2 := .int .i64 2) Tryd.results24 rfl rfl (fun w1 hw => ⟨by rw [(len_form (by omega) hx).1, (len_form (by omega) hx).2], hw.bel⟩)
  ·have hl15 : l.take 4 = rsj := by simpa using h15
   iterate 4 (first | refine TL.on rfl rfl rfl ?_ | refine TL.val rfl rfl rfl (gives_move rfl rfl) ?_)
   refine TL.vsplit rfl rfl rfl (gives_bin rfl rfl rfl (fun w => bin_gtr w)) (fun h18 => ?_) (fun h18 => ?_)
   ·have q18 := of_decide_eq_true h18
    have hx : ¬ headOk l := fun hh => by have := hh.2; rw [hg8] at this; omega
    refine TL.val rfl rfl rfl (gives_pick rfl rfl rfl) ?_
    refine TL.end_ (TX.then_ (TC.condT rfl (TC.seq_ (TC.region ?_))))
    refine TL.val rfl rfl rfl (gives_assign rfl rfl) ?_
    refine TL.val rfl rfl rfl (gives_assign rfl rfl) ?_
    refine TL.end_ (TX.then_ (TC.ret_ (TX.then_ret ?_)))
    exact ret_pair (v1 := .int .i64 0) (v2 := .int .i64 2) Tryd.results24 rfl rfl (fun w1 hw => ⟨by rw [(len_form (by omega) hx).1, (len_form (by omega) hx).2], hw.bel⟩)
   ·have q18 := of_decide_eq_false h18
    have hx : headOk l := ⟨hl15, by rw [hg8]; omega⟩
    refine TL.val rfl rfl rfl (gives_pick rfl rfl rfl) ?_
    refine TL.end_ (TX.then_ (TC.condF rfl (TC.skip_ (TX.then_ (TC.seq_ (TC.region ?_))))))
    refine TL.val rfl rfl rfl (gives_move rfl rfl) ?_
    refine TL.val rfl rfl rfl (gives_bin rfl rfl rfl (fun w => bin_mul_ (r := 37 * y) (by simp only [IntKind.wrap_i64]; omega) w)) ?_
    refine TL.val rfl rfl rfl (gives_bin rfl rfl rfl (fun w => bin_add_ (r := 41 + (37 * y)) (by simp only [IntKind.wrap_i64]; omega) w)) ?_
    refine TL.val rfl rfl rfl (gives_bin rfl rfl rfl (fun w => bin_add_ (r := (41 + (37 * y)) + 32) (by simp only [IntKind.wrap_i64]; omega) w)) ?_
    refine TL.val rfl rfl rfl (gives_assign rfl rfl) ?_
    refine TL.val rfl rfl rfl (gives_assign rfl rfl) ?_
    refine TL.end_ (TX.then_ (TC.ret_ ?_))
    exact ret_pair (v1 := .int .i64 ((41 + (37 * y)) + 32)) (v2 := .int .i64 0) Tryd.results24 rfl rfl (fun w1 hw => ⟨by rw [(len_ok (by omega) hx).1, (len_ok (by omega) hx).2, hg8], hw.bel⟩)
theorem rlength_any (A : Option Addr) (n c : Nat) (l : List Int) (w : World) (hb : Byt w w.heap.size A n l) (hnc : n ≤ c) :
  Calls Tryd.prog 25 #[.slice A n c] w fun e w' => e = .returned (.tuple #[.int .i64 (lenN l), .int .i64 (lenE l)]) ∧ Below w.heap.size w w' := by
 have hln := hb.len
 refine begin_ (vs := [.slice A n c]) Tryd.func25 rfl rfl rfl ?_ (Pm.start w)
 refine TC.seq_ (TC.region ?_)
 refine TL.val rfl rfl rfl (gives_assign rfl rfl) ?_
 refine TL.val rfl rfl rfl (gives_assign rfl rfl) ?_
 refine TL.end_ (TX.then_ (TC.seq_ (TC.seq_ (TC.region ?_))))
 refine TL.val rfl rfl rfl (gives_move rfl rfl) ?_
 refine TL.val rfl rfl rfl (gives_len rfl Tryd.underlying28 rfl) ?_
 refine TL.vsplit rfl rfl rfl (gives_bin rfl rfl rfl (fun w => bin_lss w)) (fun h6 => ?_) (fun h6 => ?_)
 ·have q6 := of_decide_eq_true h6
  refine TL.end_ (TX.then_ (TC.condT rfl (TC.seq_ (TC.region ?_))))
  refine TL.val rfl rfl rfl (gives_assign rfl rfl) ?_
  refine TL.val rfl rfl rfl (gives_assign rfl rfl) ?_
  refine TL.end_ (TX.then_ (TC.ret_ (TX.then_ret ?_)))
  exact ret_pair (v1 := .int .i64 0) (v2 := .int .i64 3) Tryd.results25 rfl rfl (fun w1 hw => ⟨by rw [(len_short (by omega)).1, (len_short (by omega)).2], hw.bel⟩)
 ·have q6 := of_decide_eq_false h6
  obtain ⟨b0, o, y, rfl, hbB, hl, hy0, hy1, hy⟩ := hb.at' (k := 8) (by omega)
  have hg8 : getN l 8 1 = y := get1 hl
  have hln := hb.len
  refine TL.end_ (TX.then_ (TC.condF rfl (TC.skip_ (TX.then_ (TC.seq_ (TC.seq_ (TC.region ?_)))))))
  refine TL.val rfl rfl rfl (gives_move rfl rfl) ?_
  refine TL.val rfl rfl rfl (gives_sliceH (v := .slice (some ⟨b0, o, none⟩) 4 c) rfl rfl rfl (fun w => cut_hi4 b0 o n c (by omega) w)) ?_
  refine TL.val rfl rfl rfl (gives_strB (l := (l.take 4)) rfl rfl Tryd.underlying28 Tryd.underlying5 Tryd.underlying9 (fun w1 hw => ⟨_, (hb.below hw.bel).head (by omega)⟩)) ?_
  refine TL.vsplit rfl rfl rfl (gives_bin2 (v := .bool (!decide (l.take 4 = rsj))) (vy := sv rsj) rfl rfl rfl (fun w => bin_strne (hb.2.take 4) rsj_bs w)) (fun h10 => ?_) (fun h10 => ?_)
  ·have hl10 : ¬ l.take 4 = rsj := by simpa using h10
   have hx : ¬ headOk l := fun hh => hl10 hh.1
   iterate 7 (first | refine TL.off rfl rfl rfl rfl rfl rfl ?_ | refine TL.val rfl rfl rfl (gives_move rfl rfl) ?_ | refine TL.val rfl rfl rfl (gives_pick rfl rfl rfl) ?_)
   refine TL.end_ (TX.then_ (TC.condT rfl (TC.seq_ (TC.region ?_))))
   refine TL.val rfl rfl rfl (gives_assign rfl rfl) ?_
   refine TL.val rfl rfl rfl (gives_assign rfl rfl) ?_
   refine TL.end_ (TX.then_ (TC.ret_ (TX.then_ret ?_)))
   exact ret_pair (v1 := .int .i64 0) (v2 := .int .i64 2) Tryd.results25 rfl rfl (fun w1 hw => ⟨by rw [(len_form (by omega) hx).1, (len_form (by omega) hx).2], hw.bel⟩)
  ·have hl10 : l.take 4 = rsj := by simpa using h10
   iterate 4 (first | refine TL.on rfl rfl rfl ?_ | refine TL.val rfl rfl rfl (gives_move rfl rfl) ?_)
   refine TL.val rfl rfl rfl (gives_at (v := .pointer (some ⟨b0, o + 8, none⟩)) rfl rfl rfl (fun w => at_u8 b0 o n c 8 (by omega) w)) ?_
   refine TL.on rfl rfl rfl ?_
   refine TL.val rfl rfl rfl (gives_load (v := .int .u8 y) rfl rfl (fun w => rfl) (fun w1 hw => (hw.bel.cell (p := ⟨b0, o + 8, none⟩) hbB).trans hy)) ?_
   refine TL.on rfl rfl rfl ?_
   refine TL.val rfl rfl rfl (gives_conv rfl rfl (fun w => conv_fit (k := .u8) Tryd.underlying3 Tryd.underlying5 (by simp only [IntKind.wrap_i64]; omega) w)) ?_
   refine TL.on rfl rfl rfl ?_
   refine TL.vsplit rfl rfl rfl (gives_bin rfl rfl rfl (fun w => bin_gtr w)) (fun h16 => ?_) (fun h16 => ?_)
   ·have q16 := of_decide_eq_true h16
    have hx : ¬ headOk l := fun hh => by have := hh.2; rw [hg8] at this; omega
    refine TL.val rfl rfl rfl (gives_pick rfl rfl rfl) ?_
    refine TL.end_ (TX.then_ (TC.condT rfl (TC.seq_ (TC.region ?_))))
    refine TL.val rfl rfl rfl (gives_assign rfl rfl) ?_
    refine TL.val rfl rfl rfl (gives_assign rfl rfl) ?_
    refine TL.end_ (TX.then_ (TC.ret_ (TX.then_ret ?_)))
    exact ret_pair (v1 := .int .i64 0) (v2 := .int .i64 2) Tryd.results25 rfl rfl (fun w1 hw => ⟨by rw [(len_form (by omega) hx).1, (len_form (by omega) hx).2], hw.bel⟩)
   ·have q16 := of_decide_eq_false h16
    have hx : headOk l := ⟨hl10, by rw [hg8]; omega⟩
    refine TL.val rfl rfl rfl (gives_pick rfl rfl rfl) ?_
    refine TL.end_ (TX.then_ (TC.condF rfl (TC.skip_ (TX.then_ (TC.seq_ (TC.region ?_))))))
    refine TL.val rfl rfl rfl (gives_move rfl rfl) ?_
    refine TL.val rfl rfl rfl (gives_at (v := .pointer (some ⟨b0, o + 8, none⟩)) rfl rfl rfl (fun w => at_u8 b0 o n c 8 (by omega) w)) ?_
    refine TL.val rfl rfl rfl (gives_load (v := .int .u8 y) rfl rfl (fun w => rfl) (fun w1 hw => (hw.bel.cell (p := ⟨b0, o + 8, none⟩) hbB).trans hy)) ?_
    refine TL.val rfl rfl rfl (gives_conv rfl rfl (fun w => conv_fit (k := .u8) Tryd.underlying3 Tryd.underlying5 (by simp only [IntKind.wrap_i64]; omega) w)) ?_
    refine TL.val rfl rfl rfl (gives_bin rfl rfl rfl (fun w => bin_mul_ (r := y * 37) (by simp only [IntKind.wrap_i64]; omega) w)) ?_
    refine TL.val rfl rfl rfl (gives_bin rfl rfl rfl (fun w => bin_add_ (r := 41 + (y * 37)) (by simp only [IntKind.wrap_i64]; omega) w)) ?_
    refine TL.val rfl rfl rfl (gives_bin rfl rfl rfl (fun w => bin_add_ (r := (41 + (y * 37)) + 32) (by simp only [IntKind.wrap_i64]; omega) w)) ?_
    refine TL.val rfl rfl rfl (gives_assign rfl rfl) ?_
    refine TL.val rfl rfl rfl (gives_assign rfl rfl) ?_
    refine TL.end_ (TX.then_ (TC.ret_ ?_))
    exact ret_pair (v1 := .int .i64 ((41 + (y * 37)) + 32)) (v2 := .int .i64 0) Tryd.results25 rfl rfl (fun w1 hw => ⟨by rw [(len_ok (by omega) hx).1, (len_ok (by omega) hx).2, hg8, Int.mul_comm 37 y], hw.bel⟩)
end Go.Proofs.YtmeaeeehnkcblaaDoor

namespace Go.Proofs.YtmeaeeehnkcblaaDoor
open Go.RowKit
set_option linter.unusedVariables false
set_option linter.unusedSimpArgs false
set_option maxRecDepth 20000

def eqB (a b : List Int) : Bool := decide (a = b)

theorem requal_len (A1 A2 : Option Addr) (n1 c1 n2 c2 : Nat) (w : World) (h : n1 ≠ n2) (hn1 : n1 ≤ 140737488355328) (hn2 : n2 ≤ 140737488355328) :
    Calls Tryd.prog 16 #[.slice A1 n1 c1, .slice A2 n2 c2] w fun e w' => e = .returned (.bool false) ∧ ∃ q, w' = w.drewN q := by
  have hb : ((n1 : Int) != n2) = true := by simp; omega
  clear h
  go_enter Tryd.func16, Tryd.ntmps16
  go_wp2
  go_ret
  exact ⟨rfl, 0, rfl⟩
theorem requal_same (A1 A2 : Option Addr) (n c1 c2 : Nat) (l1 l2 : List Int) (w : World) (B : Nat) (h1 : Byt w B A1 n l1) (h2 : Byt w B A2 n l2) (hn : n ≤ 140737488355328) :
    Calls Tryd.prog 16 #[.slice A1 n c1, .slice A2 n c2] w fun e w' => e = .returned (.bool (eqB l1 l2)) ∧ ∃ q, w' = w.drewN q := by
  have HL : Hid (l1.length = n ∧ l2.length = n) := ⟨h1.len, h2.len⟩
  go_enter Tryd.func16, Tryd.ntmps16
  go_wp2
  go_loopw [5] (fun i wr => ∃ k q : Nat, k ≤ n ∧ i = .int .i64 k ∧ l1.take k = l2.take k ∧ wr = w.drewN q) (fun i _ => n - (intOf i).toNat)
  case atStart => exact ⟨0, 0, Nat.zero_le _, rfl, rfl, rfl⟩
  case round =>
    obtain ⟨k, q, hk, rfl, he, rfl⟩ := hrel
    have HE := Lib.hid he
    clear he
    by_cases hlt : k < n
    · obtain ⟨b, o, x, rfl, _, hx, hx0, hx1, hc⟩ := h1.at' hlt
      obtain ⟨b', o', y, rfl, _, hy, hy0, hy1, hc1⟩ := h2.at' hlt
      have HX : Hid (l1[k]? = some x ∧ l2[k]? = some y) := ⟨hx, hy⟩
      clear hx hy
      by_cases hxy : x = y
      · subst hxy
        go_wp2
        go_quiet (fail)
        go_wp2
        go_roundw
        case rel => exact ⟨k + 1, _, by omega, by go_num, by rw [List.take_add_one, List.take_add_one, HE.out, HX.out.1, HX.out.2], rfl⟩
        case measure => simp [intOf]; omega
      · have hb : (x != y) = true := by simp [hxy]
        have HN := Lib.hid hxy
        clear hxy
        go_wp2
        go_quiet (fail)
        go_wp2
        go_ret
        refine ⟨ret_bool ?_, _, World.drewN_drewN _ _ _⟩
        unfold eqB
        rw [decide_eq_false]
        intro e
        have := HX.out
        rw [e] at this
        rw [this.1] at this
        exact HN.out (Option.some.inj this.2)
    · go_wp2
      go_ret
      refine ⟨ret_bool ?_, _, rfl⟩
      have h := HL.out
      have e := HE.out
      rw [List.take_of_length_le (by omega), List.take_of_length_le (by omega)] at e
      unfold eqB
      rw [decide_eq_true e]
theorem requal_any (A1 A2 : Option Addr) (n1 c1 n2 c2 : Nat) (l1 l2 : List Int) (w : World) (B : Nat) (h1 : Byt w B A1 n1 l1) (h2 : Byt w B A2 n2 l2) (hn1 : n1 ≤ 140737488355328) (hn2 : n2 ≤ 140737488355328) :
    Calls Tryd.prog 16 #[.slice A1 n1 c1, .slice A2 n2 c2] w fun e w' => e = .returned (.bool (eqB l1 l2)) ∧ ∃ q, w' = w.drewN q := by
  by_cases h : n1 = n2
  · subst h
    exact requal_same _ _ _ _ _ _ _ _ _ h1 h2 hn1
  · have : eqB l1 l2 = false := decide_eq_false (fun e => h (by rw [← h1.len, ← h2.len, e]))
    rw [this]
    exact requal_len _ _ _ _ _ _ _ h hn1 hn2
end Go.Proofs.YtmeaeeehnkcblaaDoor

namespace Go.Proofs.YtmeaeeehnkcblaaDoor
open Go.RowKit
set_option linter.unusedVariables false
set_option linter.unusedSimpArgs false
section
variable {P : Program} {ops : Array Oper} {S : World → Prop} {Q : Exit → Act → World → Prop}
/-- the call o hands back v and leaves the world, from every world of S -/
def StillC (P : Program) (ops : Array Oper) (S : World → Prop) (o : Oper) (v : Value) (a : Act) : Prop :=
  Region.wanted o (yielded ops a.tmps) = true ∧ ∀ w, S w → ∃ f args, (execOp a.eval o).run P w = .ok (.enter f args) w ∧ Calls P f args w fun e w' => e = .returned v ∧ w' = w
theorem StillC.go {i : Nat} {o : Oper} {v : Value} {a : Act} {K : Act → World → Prop} {w : World} (h : StillC P ops S o v a) (hi : ops[i]? = some o) (hS : S w) (hK : K (a.put o.dst v) w) : wpOp P ops Q i K a w := by
  obtain ⟨h1, h2⟩ := h
  obtain ⟨f, args, he, hc⟩ := h2 w hS
  unfold wpOp
  rw [hi]
  simp only [h1, if_true]
  left
  unfold Oper.wp
  rw [he]
  simp only [Oper.upon]
  refine hc.mono ?_
  rintro e w' ⟨rfl, rfl⟩
  exact hK
theorem StillC.like {o : Oper} {v : Value} {a b : Act} (h : StillC P ops S o v a) (he : execOp b.eval o = execOp a.eval o) (hw : Region.wanted o (yielded ops b.tmps) = Region.wanted o (yielded ops a.tmps)) : StillC P ops S o v b :=
  ⟨hw.trans h.1, fun w hS => by rw [he]; exact h.2 w hS⟩
/-- another operation, apart from the call: it does the same whether the call has come up or not, and leaves the call what it was -/
theorem StillC.across {j : Nat} {o oj : Oper} {v : Value} {a : Act} {K : Act → World → Prop} {w : World} (hy : StillC P ops S o v a) (hj : ops[j]? = some oj) (hap : o.apart ops oj = true) (hs : ∀ cs b, o.op ≠ .select cs b) (hsj : ∀ cs b, oj.op ≠ .select cs b)
    (h : wpOp P ops (NoPanic Q) j K (a.put o.dst v) w) : wpOp P ops (NoPanic Q) j (fun b w' => StillC P ops S o v b ∧ K (b.put o.dst v) w') a w := by
  obtain ⟨p1, p2, p3⟩ := Oper.apart_spec hap
  have stay : ∀ (b : Act) (u : Value), StillC P ops S o v b → StillC P ops S o v (b.put oj.dst u) := fun b u hb => hb.like (execOp_put o hs b oj.dst u p3) (wanted_put o b oj.dst u p3)
  have swap : ∀ (b : Act) (u : Value), (b.put oj.dst u).put o.dst v = (b.put o.dst v).put oj.dst u := fun b u => (Act.put_comm b v u p2).symm
  unfold wpOp at h ⊢
  rw [hj] at h ⊢
  dsimp only at h ⊢
  rw [wanted_put oj a o.dst v p1] at h
  by_cases hw : Region.wanted oj (yielded ops a.tmps) = true
  · rw [if_pos hw] at h ⊢
    rcases h with h | ⟨k1, k2⟩
    · left
      unfold Oper.wp at h ⊢
      rw [execOp_put oj hsj a o.dst v p1] at h
      cases hr : (execOp a.eval oj).run P w with
      | halt x w' =>
        rw [hr] at h
        cases x <;> simp only [Oper.upon] at h ⊢
        case panic u => exact h
      | ok n w' =>
        rw [hr] at h
        cases n <;> simp only [Oper.upon] at h ⊢
        case value u => exact ⟨stay a u hy, by rw [swap]; exact h⟩
        case skip => exact ⟨stay a _ hy, by rw [swap]; exact h⟩
        case defer d =>
          refine ⟨stay _ _ (hy.like (b := { a with defers := d :: a.defers }) rfl rfl), ?_⟩
          rw [swap, ← Act.put_defers]
          exact h
        case enter f args =>
          refine Calls.mono h fun e w2 he => ?_
          cases e with
          | returned u => exact ⟨stay a u hy, by rw [swap]; exact he⟩
          | panicked c => exact he
          | outgrown => exact he
        case row r args => exact Rows.mono h fun u w2 he => ⟨stay a u hy, by rw [swap]; exact he⟩
    · right
      refine ⟨?_, k2⟩
      unfold Oper.asks at k1 ⊢
      rw [execOp_put oj hsj a o.dst v p1] at k1
      exact k1
  · rw [if_neg hw] at h ⊢
    exact ⟨stay a _ hy, by rw [swap]; exact h⟩
theorem held_call {i : Nat} {o : Oper} {v : Value} (hi : ops[i]? = some o) (hsel : ∀ (j : Nat) (o : Oper) cs b, ops[j]? = some o → o.op ≠ .select cs b) : ∀ (f : Nat) (listed : Array Bool) (a : Act) (w : World),
    (∀ j oj, ops[j]? = some oj → j ≠ i → listed.getD j true = false → (∀ e ∈ oj.after, Region.binds .any e = true → e.on ≠ i) → o.apart ops oj = true) → i ∈ Region.ready .any ops listed → StillC P ops S o v a → S w →
    wpAnyH P .any ops (NoPanic Q) S f (listed.setIfInBounds i true) (a.put o.dst v) w → wpAnyH P .any ops (NoPanic Q) S (f + 1) listed a w := by
  intro f
  induction f with
  | zero =>
    intro listed a w _ hr hy hS H
    refine ⟨fun h0 => (by rw [h0] at hr; cases hr), fun j hj => ?_⟩
    rcases Decidable.em (j = i) with e | e
    · exact e ▸ hy.go hi hS ⟨hS, H⟩
    · have h1 := ready_mono hj e
      rw [H.1] at h1
      cases h1
  | succ f ih =>
    intro listed a w hfree hr hy hS H
    refine ⟨fun h0 => (by rw [h0] at hr; cases hr), fun j hj => ?_⟩
    rcases Decidable.em (j = i) with e | e
    · exact e ▸ hy.go hi hS ⟨hS, H⟩
    · obtain ⟨hun, oj, hoj, hall⟩ := mem_ready.1 hj
      have hno : ∀ e ∈ oj.after, Region.binds .any e = true → e.on ≠ i := by
        intro e he hb hon
        have h1 := hall e he hb
        have h0 := (mem_ready.1 hr).1
        rw [hon] at h1
        rcases Nat.lt_or_ge i listed.size with hlt | hge
        · simp [hlt] at h0 h1
          rw [h0] at h1
          cases h1
        · simp [Array.getElem?_eq_none hge] at h1
      have h2 := hy.across hoj (hfree j oj hoj e hun hno) (fun cs b => hsel i o cs b hi) (fun cs b => hsel j oj cs b hoj) (H.2 j (ready_mono hj e))
      refine wpOp_mono (fun b w' h3 => ⟨h3.2.1, ih _ b w' (fun k ok hk hki hkl hkn => hfree k ok hk hki ?_ hkn) (ready_mono hr (Ne.symm e)) h3.1 h3.2.1 ?_⟩) h2
      · rcases Decidable.em (j = k) with e2 | e2
        · exact e2 ▸ hun
        · rwa [getD_set_ne true e2] at hkl
      · rw [Array.setIfInBounds_comm _ _ e]
        exact h3.2.2
end
section
variable {P : Program} {N : Fr} {Q : Exit → Act → World → Prop} {E : Env} {I S : World → Prop} {ops : Array Oper} {f : Nat} {listed : Array Bool}
theorem TH.takeC {o : Oper} {d : Nat} {r : Value} {g : FuncId} {fn : Func} {xs : List Operand} {ts : Array TypeId} {vs : List Value} {listed' : Array Bool} (i : Nat) (hi : ops[i]? = some o) (hs : Region.noSelect ops = true) (hf : Region.free .any ops listed i = true) (hr : (Region.ready .any ops listed).contains i = true) (hl : listed.setIfInBounds i true = listed')
    (hg : o.guard = none) (hd : o.dst = some d) (hN : Nat.blt d N.n = true) (ho : o.op = .call { callee := .value (.func g), args := xs.toArray, argTypes := ts }) (hx : evs E xs = some vs) (hfn : P.funcs[g]? = some fn) (hn : (fn.name == "runtime.NumGoroutine") = false) (hb : fn.body.isNone = false)
    (hc : ∀ w, S w → Calls P g vs.toArray w fun e w' => e = .returned r ∧ w' = w) (hS : ∀ w, I w → S w)
    (h : TH P N ops S Q f listed' ((d, r) :: E) I) : TH P N ops S Q (f + 1) listed E I := fun a w ha hw => by
  subst hl
  refine held_call hi (Region.noSelect_spec hs) f listed a w (Region.free_spec hi hf) (by simpa using hr) (v := r) ⟨by simp [Region.wanted, hg], fun w' hw' => ⟨g, vs.toArray, enters ha ho hx hfn hn hb, hc w' hw'⟩⟩ (hS w hw) ?_
  exact h (a.put o.dst r) w (hd ▸ ha.put d r (by simpa [Nat.blt_eq] using hN)) hw
/-! operations with a guard -/
theorem op_of_list' {o : Oper} {i : Nat} {K : Act → World → Prop} {a : Act} {w : World} (hi : ops[i]? = some o) (h : wpList P ops (Exit.then K (NoPanic Q)) [o] a w) : wpOp P ops (NoPanic Q) i K a w := by
  unfold wpOp
  rw [hi]
  unfold wpList at h
  dsimp only
  by_cases hw : Region.wanted o (yielded ops a.tmps) = true
  · simp only [hw, if_true] at h ⊢
    rcases h with h | ⟨h1, h2⟩
    · left
      unfold Oper.wp at h ⊢
      generalize (execOp a.eval o).run P w = r at *
      cases r with
      | ok n w' => cases n <;> exact h
      | halt x w' => cases x <;> exact h
    · exact .inr ⟨h1, h2⟩
  · rw [if_neg hw] at h ⊢
    exact h
theorem TH.only' {o : Oper} {listed' : Array Bool} (i : Nat) (hi : ops[i]? = some o) (hr : Region.ready .any ops listed = [i]) (hl : listed.setIfInBounds i true = listed')
    (h : TL P N ops (Exit.then (Hd P ops S Q f listed') (NoPanic Q)) [o] E I) : TH P N ops S Q (f + 1) listed E I := fun a w ha hw => by
  subst hl
  refine wpAnyH_all hr (by simp) fun j hj => ?_
  have : j = i := by simpa using hj
  subst this
  exact op_of_list' hi (h a w ha hw)
theorem TH.two' {o o' : Oper} {listed1 listed2 : Array Bool} (i j : Nat) (hi : ops[i]? = some o) (hj : ops[j]? = some o') (hr : Region.ready .any ops listed = [i, j]) (hl1 : listed.setIfInBounds i true = listed1) (hl2 : listed.setIfInBounds j true = listed2)
    (h : TL P N ops (Exit.then (Hd P ops S Q f listed1) (NoPanic Q)) [o] E I) (h' : TL P N ops (Exit.then (Hd P ops S Q f listed2) (NoPanic Q)) [o'] E I) : TH P N ops S Q (f + 1) listed E I := fun a w ha hw => by
  subst hl1 hl2
  refine wpAnyH_all hr (by simp) fun k hk => ?_
  have : k = i ∨ k = j := by simpa using hk
  rcases this with rfl | rfl
  · exact op_of_list' hi (h a w ha hw)
  · exact op_of_list' hj (h' a w ha hw)
theorem TH.takeG {o : Oper} {d j dg : Nat} {b : Bool} {v : Value} {listed' : Array Bool} (i : Nat) (hi : ops[i]? = some o) (hs : Region.noSelect ops = true) (hf : Region.free .any ops listed i = true) (hr : (Region.ready .any ops listed).contains i = true) (hl : listed.setIfInBounds i true = listed')
    (hg : o.guard = some (j, b)) (hgd : (ops[j]?).bind (·.dst) = some dg) (hgE : look E dg = some (.bool b)) (hd : o.dst = some d) (hN : Nat.blt d N.n = true) (hv : Gives P N o E S v) (hS : ∀ w, I w → S w)
    (h : TH P N ops S Q f listed' ((d, v) :: E) I) : TH P N ops S Q (f + 1) listed E I := fun a w ha hw => by
  subst hl
  refine wpAnyH_take hi hs hf hr (fun c a w h => h) (v := v) (.inl ⟨by rw [wanted_of ha hg hgd hgE]; simp, fun w' hw' => hv a w' ha hw'⟩) (hS w hw) ?_
  exact h (a.put o.dst v) w (hd ▸ ha.put d v (by simpa [Nat.blt_eq] using hN)) hw
theorem TH.off {o : Oper} {d j dg : Nat} {b b' : Bool} {listed' : Array Bool} (i : Nat) (hi : ops[i]? = some o) (hs : Region.noSelect ops = true) (hf : Region.free .any ops listed i = true) (hr : (Region.ready .any ops listed).contains i = true) (hl : listed.setIfInBounds i true = listed')
    (hg : o.guard = some (j, b')) (hgd : (ops[j]?).bind (·.dst) = some dg) (hgE : look E dg = some (.bool b)) (hne : (b == b') = false) (hd : o.dst = some d) (hN : Nat.blt d N.n = true) (hS : ∀ w, I w → S w)
    (h : TH P N ops S Q f listed' ((d, undef) :: E) I) : TH P N ops S Q (f + 1) listed E I := fun a w ha hw => by
  subst hl
  refine wpAnyH_take hi hs hf hr (fun c a w h => h) (v := undef) (.inr ⟨by rw [wanted_of ha hg hgd hgE, hne], rfl⟩) (hS w hw) ?_
  exact h (a.put o.dst undef) w (hd ▸ ha.put d undef (by simpa [Nat.blt_eq] using hN)) hw
theorem TH.offU {o : Oper} {d j dg : Nat} {b' : Bool} {listed' : Array Bool} (i : Nat) (hi : ops[i]? = some o) (hs : Region.noSelect ops = true) (hf : Region.free .any ops listed i = true) (hr : (Region.ready .any ops listed).contains i = true) (hl : listed.setIfInBounds i true = listed')
    (hg : o.guard = some (j, b')) (hgd : (ops[j]?).bind (·.dst) = some dg) (hgE : look E dg = some undef) (hd : o.dst = some d) (hN : Nat.blt d N.n = true) (hS : ∀ w, I w → S w)
    (h : TH P N ops S Q f listed' ((d, undef) :: E) I) : TH P N ops S Q (f + 1) listed E I := fun a w ha hw => by
  subst hl
  have h1 : yielded ops a.tmps j = none := by
    have := ha.slot dg _ hgE
    simp [yielded, hgd, this, undef]
  have hw1 : Region.wanted o (yielded ops a.tmps) = false := by
    unfold Region.wanted
    rw [hg]
    simp [h1]
  refine wpAnyH_take hi hs hf hr (fun c a w h => h) (v := undef) (.inr ⟨hw1, rfl⟩) (hS w hw) ?_
  exact h (a.put o.dst undef) w (hd ▸ ha.put d undef (by simpa [Nat.blt_eq] using hN)) hw
end
end Go.Proofs.YtmeaeeehnkcblaaDoor

namespace Go.Proofs.YtmeaeeehnkcblaaDoor
open Go.RowKit
set_option linter.unusedVariables false
set_option linter.unusedSimpArgs false
set_option maxRecDepth 20000
def eAt (l : List Int) (p : Nat) : Int := if l.length < p then 3 else 0
theorem e0_ {l : List Int} : (0 : Int) = eAt l 0 := (if_neg (Nat.not_lt_zero _)).symm
theorem eAt_next (l : List Int) (p k : Nat) : (if eAt l p = 0 then getJE l p k else eAt l p) = eAt l (p + k) := by
 unfold eAt getJE
 by_cases h : l.length < p
 ·rw [if_pos h, if_neg (by decide), if_pos (by omega)]
 ·rw [if_neg h, if_pos rfl]
theorem cnext' (g : Nat) (A : Option Addr) (n c : Nat) (l : List Int) (p k : Nat) (e0 : Int) (w : World) (hg : Blk w g 82 #[.slice A n c, .int .i64 (p : Int), .int .i64 e0]) (hb : Byt w w.heap.size A n l) (hne : 0 < n → ∀ ad, A = some ad → ad.block ≠ g) (hnc : n ≤ c) (hlim : n ≤ 140737488355328) (hk1 : 1 ≤ k) (hk7 : k ≤ 7) (hp9 : p ≤ 1000000000) (he : e0 = eAt l p) :
  Calls Tryd.prog 49 #[.pointer (some ⟨g, 0, none⟩), .int .i64 (k : Int)] w fun e w' => ∃ y : Unit, e = .returned (.int .i64 (getJ l p k)) ∧ Chg g 82 [.slice A n c, .int .i64 ((p + k : Nat) : Int), .int .i64 (eAt l (p + k))] w [] w' := by
 have h := cnext g A n c l p k e0 w hg hb hne hnc hlim hk1 hk7 hp9
 rw [he, eAt_next] at h
 exact h
theorem getJ_ok {l : List Int} (p k : Nat) (h : p + k ≤ l.length) : getJ l p k = getN l p k := if_neg (by omega)
theorem fit4 {l : List Int} (hl : Bs l) (p : Nat) : getJ l p 4 % 4294967296 = getJ l p 4 := by
 unfold getJ
 split
 ·rfl
 ·have hb : Bs ((l.drop p).take 4) := (hl.drop p).take 4
  have h1 := be_bd _ hb
  have hn : ((l.drop p).take 4).length = 4 := by simp; omega
  rw [hn] at h1
  unfold getN
  simp only [Int.pow_succ, Int.pow_zero] at h1
  omega
theorem flagI : ∀ x : Fin 256, decide (bits .and .i64 (x.val : Int) 1 = 1) = decide ((x.val : Int) % 2 = 1) ∧ decide (bits .and .i64 (x.val : Int) 2 = 2) = decide ((x.val : Int) / 2 % 2 = 1) := by decide +kernel
theorem flagU : ∀ x : Fin 256, decide (bits .and .u8 (x.val : Int) 1 = 1) = decide ((x.val : Int) % 2 = 1) ∧ decide (bits .and .u8 (x.val : Int) 2 = 2) = decide ((x.val : Int) / 2 % 2 = 1) := by decide +kernel
theorem fin_of {x : Int} (h0 : 0 ≤ x) (h1 : x ≤ 255) : ∃ y : Fin 256, x = (y.val : Int) := ⟨⟨x.toNat, by omega⟩, by simp; omega⟩
theorem byte_at {l : List Int} (hl : Bs l) (p : Nat) (h : p < l.length) : l[p]? = some (getN l p 1) ∧ 0 ≤ getN l p 1 ∧ getN l p 1 ≤ 255 := by
 have e : l[p]? = some l[p] := List.getElem?_eq_getElem h
 rw [get1 e]
 exact ⟨e, hl _ (List.getElem_mem h)⟩
theorem encO_bs (r : Rs) : Bs (encO r) := by unfold encO; split; exact encP_bs _; exact Bs.nil
theorem encO_len (r : Rs) : (encO r).length = if chkR r = 0 then 37 else 0 := by unfold encO; split; exact encR_len r; rfl
theorem drewN_below {w : World} (q : Nat) : Below w.heap.size w (w.drewN q) := ⟨rfl, rfl, rfl, Nat.le_refl _, fun _ _ => rfl⟩
theorem dec_short {l : List Int} (h : l.length < 37) : decR l = Rs.zero ∧ decE l = 3 := by
 have e : decE l = 3 := if_pos h
 exact ⟨by rw [decR, if_neg (by rw [e]; decide)], e⟩
theorem dec_form {l : List Int} (h : ¬ l.length < 37) (hx : ¬ (chkR (rdR l) = 0 ∧ encO (rdR l) = l)) : decR l = Rs.zero ∧ decE l = 2 := by
 have e : decE l = 2 := by
  rw [decE, if_neg h, if_pos]
  by_cases hz : chkR (rdR l) = 0
  ·right; intro he; exact hx ⟨hz, by rw [encO, if_pos hz, he]⟩
  ·exact .inl hz
 exact ⟨by rw [decR, if_neg (by rw [e]; decide)], e⟩
theorem dec_ok {l : List Int} (h : ¬ l.length < 37) (hz : chkR (rdR l) = 0) (hx : encO (rdR l) = l) : decR l = rdR l ∧ decE l = 0 := by
 have e : decE l = 0 := by
  rw [encO, if_pos hz] at hx
  rw [decE, if_neg h, if_neg (by rintro (h | h); exact h hz; exact h hx)]
 exact ⟨by rw [decR, if_pos e], e⟩
theorem cells_j {l : List Int} (hl : Bs l) (h : 37 ≤ l.length) : [.int .i64 (getJ l 0 1), .int .i64 (getJ l 1 1), .int .i64 (getJ l 2 2), .int .i64 (getJ l 4 7), .int .u32 (getJ l 11 4), .int .i64 (getJ l 15 1), .int .i64 (getJ l 16 2), .int .i64 (getJ l 18 1), .bool (decide (bits .and .i64 (getJ l 19 1) 1 = 1)), .bool (decide (bits .and .i64 (getJ l 19 1) 2 = 2)), .int .i64 (getJ l 20 7), .int .u32 (getJ l 27 4), .int .i64 (getJ l 31 1), .int .i64 (getJ l 32 1), .int .i64 (getJ l 33 1), .int .i64 (getJ l 34 2), .int .i64 (getJ l 36 1)] = (rdR l).cells := by
 obtain ⟨_, b0, b1⟩ := byte_at hl 19 (by omega)
 obtain ⟨y, hy⟩ := fin_of b0 b1
 simp only [getJ_ok _ _ (show 0 + 1 ≤ l.length by omega), getJ_ok _ _ (show 1 + 1 ≤ l.length by omega), getJ_ok _ _ (show 2 + 2 ≤ l.length by omega), getJ_ok _ _ (show 4 + 7 ≤ l.length by omega), getJ_ok _ _ (show 11 + 4 ≤ l.length by omega), getJ_ok _ _ (show 15 + 1 ≤ l.length by omega), getJ_ok _ _ (show 16 + 2 ≤ l.length by omega), getJ_ok _ _ (show 18 + 1 ≤ l.length by omega), getJ_ok _ _ (show 19 + 1 ≤ l.length by omega), getJ_ok _ _ (show 20 + 7 ≤ l.length by omega), getJ_ok _ _ (show 27 + 4 ≤ l.length by omega), getJ_ok _ _ (show 31 + 1 ≤ l.length by omega), getJ_ok _ _ (show 32 + 1 ≤ l.length by omega), getJ_ok _ _ (show 33 + 1 ≤ l.length by omega), getJ_ok _ _ (show 34 + 2 ≤ l.length by omega), getJ_ok _ _ (show 36 + 1 ≤ l.length by omega), hy, flagI]
 rw [← hy]
 rfl
theorem cells_r {l : List Int} {x : Int} (hl : Bs l) (h : 37 ≤ l.length) (hx : l[19]? = some x) : [.int .i64 (getJ l 0 1), .int .i64 (getJ l 1 1), .int .i64 (getJ l 2 2), .int .i64 (getJ l 4 7), .int .u32 (getJ l 11 4), .int .i64 (getJ l 15 1), .int .i64 (getJ l 16 2), .int .i64 (getJ l 18 1), .bool (decide (bits .and .u8 x 1 = 1)), .bool (decide (bits .and .u8 x 2 = 2)), .int .i64 (getJ l 20 7), .int .u32 (getJ l 27 4), .int .i64 (getJ l 31 1), .int .i64 (getJ l 32 1), .int .i64 (getJ l 33 1), .int .i64 (getJ l 34 2), .int .i64 (getJ l 36 1)] = (rdR l).cells := by
 obtain ⟨e, b0, b1⟩ := byte_at hl 19 (by omega)
 rw [e] at hx
 obtain rfl := Option.some.inj hx
 obtain ⟨y, hy⟩ := fin_of b0 b1
 rw [← cells_j hl h, getJ_ok 19 1 (by omega), hy]
 simp only [flagI, flagU]
theorem jdeczv27 (w : World) : (zeroValue 27).run Tryd.prog w = .ok (.agg #[.int .i64 0, .int .i64 0, .int .i64 0, .int .i64 0, .int .u32 0, .int .i64 0, .int .i64 0, .int .i64 0, .bool false, .bool false, .int .i64 0, .int .u32 0, .int .i64 0, .int .i64 0, .int .i64 0, .int .i64 0, .int .i64 0]) w := rfl
theorem jdecbld82_67801 (a0_0 : Option Addr) (a0_0n a0_0c : Nat) (w : World) : (Instr.build 82 #[(0, .slice a0_0 a0_0n a0_0c)]).run Tryd.prog w = .ok (.agg #[.slice a0_0 a0_0n a0_0c, .int .i64 0, .int .i64 0]) w := by kernel_rfl
theorem jdecnm49 : (Tryd.f49.name == "runtime.NumGoroutine") = false := by decide
theorem jdecbd49 : Tryd.f49.body.isNone = false := rfl
theorem jdecbld27_74771 (a0_0 : Int) (a1_0 : Int) (a2_0 : Int) (a3_0 : Int) (a4_0 : Int) (a5_0 : Int) (a6_0 : Int) (a7_0 : Int) (w : World) : (Instr.build 27 #[(0, .int .i64 a0_0), (1, .int .i64 a1_0), (2, .int .i64 a2_0), (3, .int .i64 a3_0), (4, .int .u32 a4_0), (5, .int .i64 a5_0), (6, .int .i64 a6_0), (7, .int .i64 a7_0)]).run Tryd.prog w = .ok (.agg #[.int .i64 a0_0, .int .i64 a1_0, .int .i64 a2_0, .int .i64 a3_0, .int .u32 a4_0, .int .i64 a5_0, .int .i64 a6_0, .int .i64 a7_0, .bool false, .bool false, .int .i64 0, .int .u32 0, .int .i64 0, .int .i64 0, .int .i64 0, .int .i64 0, .int .i64 0]) w := by kernel_rfl
theorem jdecsz27 (w : World) : (sizeOf 27).run Tryd.prog w = .ok 17 w := rfl
theorem jdecone_i64i64i64i64u32i64i64i64bbi64u32i64i64i64i64i64 {a0 : Int} {a1 : Int} {a2 : Int} {a3 : Int} {a4 : Int} {a5 : Int} {a6 : Int} {a7 : Int} {a8 : Bool} {a9 : Bool} {a10 : Int} {a11 : Int} {a12 : Int} {a13 : Int} {a14 : Int} {a15 : Int} {a16 : Int} : ∀ u ∈ [(.int .i64 a0 : Value), .int .i64 a1, .int .i64 a2, .int .i64 a3, .int .u32 a4, .int .i64 a5, .int .i64 a6, .int .i64 a7, .bool a8, .bool a9, .int .i64 a10, .int .u32 a11, .int .i64 a12, .int .i64 a13, .int .i64 a14, .int .i64 a15, .int .i64 a16], u.oneCell' = true := by
 intro u hu
 simp only [List.mem_cons, List.not_mem_nil, or_false] at hu
 rcases hu with rfl | rfl | rfl | rfl | rfl | rfl | rfl | rfl | rfl | rfl | rfl | rfl | rfl | rfl | rfl | rfl | rfl <;> rfl
theorem jdecfld27_8 (g o : Nat) (w : World) : (Instr.fieldAt 27 (.pointer (some ⟨g, o, none⟩)) 8).run Tryd.prog w = .ok (.pointer (some ⟨g, o + 8, none⟩)) w := by kernel_rfl
theorem jdecsz4 (w : World) : (sizeOf 4).run Tryd.prog w = .ok 1 w := rfl
theorem jdecone_b {a0 : Bool} : ∀ u ∈ [(.bool a0 : Value)], u.oneCell' = true := by
 intro u hu
 rw [List.mem_singleton] at hu
 subst hu; rfl
theorem jdecfld27_9 (g o : Nat) (w : World) : (Instr.fieldAt 27 (.pointer (some ⟨g, o, none⟩)) 9).run Tryd.prog w = .ok (.pointer (some ⟨g, o + 9, none⟩)) w := by kernel_rfl
theorem jdecfld27_10 (g o : Nat) (w : World) : (Instr.fieldAt 27 (.pointer (some ⟨g, o, none⟩)) 10).run Tryd.prog w = .ok (.pointer (some ⟨g, o + 10, none⟩)) w := by kernel_rfl
theorem jdecsz3 (w : World) : (sizeOf 3).run Tryd.prog w = .ok 1 w := rfl
theorem jdecone_i64 {a0 : Int} : ∀ u ∈ [(.int .i64 a0 : Value)], u.oneCell' = true := by
 intro u hu
 rw [List.mem_singleton] at hu
 subst hu; rfl
theorem jdecbld25_14255 (a0_0 : Int) (a1_0 : Int) (a2_0 : Int) (a3_0 : Int) (a4_0 : Int) (a5_0 : Int) (w : World) : (Instr.build 25 #[(0, .int .u32 a0_0), (1, .int .i64 a1_0), (2, .int .i64 a2_0), (3, .int .i64 a3_0), (4, .int .i64 a4_0), (5, .int .i64 a5_0)]).run Tryd.prog w = .ok (.agg #[.int .u32 a0_0, .int .i64 a1_0, .int .i64 a2_0, .int .i64 a3_0, .int .i64 a4_0, .int .i64 a5_0]) w := by kernel_rfl
theorem jdecfld27_11 (g o : Nat) (w : World) : (Instr.fieldAt 27 (.pointer (some ⟨g, o, none⟩)) 11).run Tryd.prog w = .ok (.pointer (some ⟨g, o + 11, none⟩)) w := by kernel_rfl
theorem jdecsz25 (w : World) : (sizeOf 25).run Tryd.prog w = .ok 6 w := rfl
theorem jdecone_u32i64i64i64i64i64 {a0 : Int} {a1 : Int} {a2 : Int} {a3 : Int} {a4 : Int} {a5 : Int} : ∀ u ∈ [(.int .u32 a0 : Value), .int .i64 a1, .int .i64 a2, .int .i64 a3, .int .i64 a4, .int .i64 a5], u.oneCell' = true := by
 intro u hu
 simp only [List.mem_cons, List.not_mem_nil, or_false] at hu
 rcases hu with rfl | rfl | rfl | rfl | rfl | rfl <;> rfl
theorem jdecfld82_2 (g o : Nat) (w : World) : (Instr.fieldAt 82 (.pointer (some ⟨g, o, none⟩)) 2).run Tryd.prog w = .ok (.pointer (some ⟨g, o + 2, none⟩)) w := by kernel_rfl
theorem jdecag34 (w : World) : (isAgg 34).run Tryd.prog w = .ok false w := rfl
theorem jdecbld27_532  (w : World) : (Instr.build 27 #[]).run Tryd.prog w = .ok (.agg #[.int .i64 0, .int .i64 0, .int .i64 0, .int .i64 0, .int .u32 0, .int .i64 0, .int .i64 0, .int .i64 0, .bool false, .bool false, .int .i64 0, .int .u32 0, .int .i64 0, .int .i64 0, .int .i64 0, .int .i64 0, .int .i64 0]) w := by kernel_rfl
theorem jdecag27 (w : World) : (isAgg 27).run Tryd.prog w = .ok true w := rfl
theorem jdecnm12 : (Tryd.f12.name == "runtime.NumGoroutine") = false := by decide
theorem jdecbd12 : Tryd.f12.body.isNone = false := rfl
theorem jdecnm28 : (Tryd.f28.name == "runtime.NumGoroutine") = false := by decide
theorem jdecbd28 : Tryd.f28.body.isNone = false := rfl
theorem jdecnm50 : (Tryd.f50.name == "runtime.NumGoroutine") = false := by decide
theorem jdecbd50 : Tryd.f50.body.isNone = false := rfl
theorem jdecbld27_33074 (a0_0 : Int) (a1_0 : Int) (a2_0 : Int) (a3_0 : Int) (a4_0 : Int) (a5_0 : Int) (a6_0 : Int) (a7_0 : Int) (a8_0 : Bool) (a9_0 : Bool) (a10_0 : Int) (w : World) : (Instr.build 27 #[(0, .int .i64 a0_0), (1, .int .i64 a1_0), (2, .int .i64 a2_0), (3, .int .i64 a3_0), (4, .int .u32 a4_0), (5, .int .i64 a5_0), (6, .int .i64 a6_0), (7, .int .i64 a7_0), (8, .bool a8_0), (9, .bool a9_0), (10, .int .i64 a10_0)]).run Tryd.prog w = .ok (.agg #[.int .i64 a0_0, .int .i64 a1_0, .int .i64 a2_0, .int .i64 a3_0, .int .u32 a4_0, .int .i64 a5_0, .int .i64 a6_0, .int .i64 a7_0, .bool a8_0, .bool a9_0, .int .i64 a10_0, .int .u32 0, .int .i64 0, .int .i64 0, .int .i64 0, .int .i64 0, .int .i64 0]) w := by kernel_rfl
theorem jdecnm13 : (Tryd.f13.name == "runtime.NumGoroutine") = false := by decide
theorem jdecbd13 : Tryd.f13.body.isNone = false := rfl
theorem jdecnm16 : (Tryd.f16.name == "runtime.NumGoroutine") = false := by decide
theorem jdecbd16 : Tryd.f16.body.isNone = false := rfl
set_option maxHeartbeats 2000000 in
theorem decode_any (A : Option Addr) (n c : Nat) (l : List Int) (w : World) (hb : Byt w w.heap.size A n l) (hnc : n ≤ c) (hlim : n ≤ 140737488355328) :
  Calls Tryd.prog 18 #[.slice A n c] w fun e w' => e = .returned (.tuple #[.agg (decR l).cells.toArray, .int .i64 (decE l)]) ∧ Below w.heap.size w w' := by
 have hln := hb.len
 refine begin_ (vs := [.slice A n c]) Tryd.func18 rfl rfl rfl ?_ (Pm.start w)
 refine TC.seq_ (TC.region ?_)
 refine TL.pnew rfl rfl rfl (exec_alloc (cs := [.int .i64 0, .int .i64 0, .int .i64 0, .int .i64 0, .int .u32 0, .int .i64 0, .int .i64 0, .int .i64 0, .bool false, .bool false, .int .i64 0, .int .u32 0, .int .i64 0, .int .i64 0, .int .i64 0, .int .i64 0, .int .i64 0]) rfl jdeczv27 rfl) (fun g2 => ?_)
 refine TL.val rfl rfl rfl (gives_assign rfl rfl) ?_
 refine TL.end_ (TX.then_ (TC.seq_ (TC.region ?_)))
 refine TL.val rfl rfl rfl (gives_move rfl rfl) ?_
 refine TL.val rfl rfl rfl (gives_build (v := .agg #[.slice A n c, .int .i64 0, .int .i64 0]) rfl rfl (fun w => jdecbld82_67801 _ _ _ w)) ?_
 refine TL.pnew rfl rfl rfl (exec_box (cs := [.slice A n c, .int .i64 0, .int .i64 0]) rfl rfl rfl) (fun g11 => ?_)
 refine TL.val rfl rfl rfl (gives_assign rfl rfl) ?_
 refine TL.end_ (TX.then_ (TC.seq_ (TC.region ?_)))
 refine TL.val rfl rfl rfl (gives_move rfl rfl) ?_
 refine TL.pcallChg (k := 0) (α := Unit) (fun _ => .int .i64 (getJ l 0 1)) (fun _ => [.slice A n c, .int .i64 1, .int .i64 (eAt l 1)]) (fun _ => []) rfl rfl rfl rfl rfl Tryd.func49 jdecnm49 jdecbd49 rfl (fun w1 hw => cnext' g11 A n c l 0 1 _ w1 (hw.at_ (k := 0) rfl).1 ((hb.below hw.bel).more hw.bel.size) (byt_ne ((hb.below hw.bel)) (hw.at_ (k := 0) rfl).2) hnc hlim (by decide) (by decide) (by decide) e0_) ?_
 rintro _
 dsimp only [List.cons_append, List.nil_append, List.set]
 refine TL.val rfl rfl rfl (gives_move rfl rfl) ?_
 refine TL.pcallChg (k := 0) (α := Unit) (fun _ => .int .i64 (getJ l 1 1)) (fun _ => [.slice A n c, .int .i64 2, .int .i64 (eAt l 2)]) (fun _ => []) rfl rfl rfl rfl rfl Tryd.func49 jdecnm49 jdecbd49 rfl (fun w1 hw => cnext' g11 A n c l 1 1 _ w1 (hw.at_ (k := 0) rfl).1 ((hb.below hw.bel).more hw.bel.size) (byt_ne ((hb.below hw.bel)) (hw.at_ (k := 0) rfl).2) hnc hlim (by decide) (by decide) (by decide) rfl) ?_
 rintro _
 dsimp only [List.cons_append, List.nil_append, List.set]
 refine TL.val rfl rfl rfl (gives_move rfl rfl) ?_
 refine TL.pcallChg (k := 0) (α := Unit) (fun _ => .int .i64 (getJ l 2 2)) (fun _ => [.slice A n c, .int .i64 4, .int .i64 (eAt l 4)]) (fun _ => []) rfl rfl rfl rfl rfl Tryd.func49 jdecnm49 jdecbd49 rfl (fun w1 hw => cnext' g11 A n c l 2 2 _ w1 (hw.at_ (k := 0) rfl).1 ((hb.below hw.bel).more hw.bel.size) (byt_ne ((hb.below hw.bel)) (hw.at_ (k := 0) rfl).2) hnc hlim (by decide) (by decide) (by decide) rfl) ?_
 rintro _
 dsimp only [List.cons_append, List.nil_append, List.set]
 refine TL.val rfl rfl rfl (gives_move rfl rfl) ?_
 refine TL.pcallChg (k := 0) (α := Unit) (fun _ => .int .i64 (getJ l 4 7)) (fun _ => [.slice A n c, .int .i64 11, .int .i64 (eAt l 11)]) (fun _ => []) rfl rfl rfl rfl rfl Tryd.func49 jdecnm49 jdecbd49 rfl (fun w1 hw => cnext' g11 A n c l 4 7 _ w1 (hw.at_ (k := 0) rfl).1 ((hb.below hw.bel).more hw.bel.size) (byt_ne ((hb.below hw.bel)) (hw.at_ (k := 0) rfl).2) hnc hlim (by decide) (by decide) (by decide) rfl) ?_
 rintro _
 dsimp only [List.cons_append, List.nil_append, List.set]
 refine TL.val rfl rfl rfl (gives_move rfl rfl) ?_
 refine TL.pcallChg (k := 0) (α := Unit) (fun _ => .int .i64 (getJ l 11 4)) (fun _ => [.slice A n c, .int .i64 15, .int .i64 (eAt l 15)]) (fun _ => []) rfl rfl rfl rfl rfl Tryd.func49 jdecnm49 jdecbd49 rfl (fun w1 hw => cnext' g11 A n c l 11 4 _ w1 (hw.at_ (k := 0) rfl).1 ((hb.below hw.bel).more hw.bel.size) (byt_ne ((hb.below hw.bel)) (hw.at_ (k := 0) rfl).2) hnc hlim (by decide) (by decide) (by decide) rfl) ?_
 rintro _
 dsimp only [List.cons_append, List.nil_append, List.set]
 refine TL.val rfl rfl rfl (gives_conv rfl rfl (fun w => conv_fit (k := .i64) Tryd.underlying23 Tryd.underlying3 (by simp only [IntKind.wrap_u32]; exact fit4 hb.2 11) w)) ?_
 refine TL.val rfl rfl rfl (gives_move rfl rfl) ?_
 refine TL.pcallChg (k := 0) (α := Unit) (fun _ => .int .i64 (getJ l 15 1)) (fun _ => [.slice A n c, .int .i64 16, .int .i64 (eAt l 16)]) (fun _ => []) rfl rfl rfl rfl rfl Tryd.func49 jdecnm49 jdecbd49 rfl (fun w1 hw => cnext' g11 A n c l 15 1 _ w1 (hw.at_ (k := 0) rfl).1 ((hb.below hw.bel).more hw.bel.size) (byt_ne ((hb.below hw.bel)) (hw.at_ (k := 0) rfl).2) hnc hlim (by decide) (by decide) (by decide) rfl) ?_
 rintro _
 dsimp only [List.cons_append, List.nil_append, List.set]
 refine TL.val rfl rfl rfl (gives_move rfl rfl) ?_
 refine TL.pcallChg (k := 0) (α := Unit) (fun _ => .int .i64 (getJ l 16 2)) (fun _ => [.slice A n c, .int .i64 18, .int .i64 (eAt l 18)]) (fun _ => []) rfl rfl rfl rfl rfl Tryd.func49 jdecnm49 jdecbd49 rfl (fun w1 hw => cnext' g11 A n c l 16 2 _ w1 (hw.at_ (k := 0) rfl).1 ((hb.below hw.bel).more hw.bel.size) (byt_ne ((hb.below hw.bel)) (hw.at_ (k := 0) rfl).2) hnc hlim (by decide) (by decide) (by decide) rfl) ?_
 rintro _
 dsimp only [List.cons_append, List.nil_append, List.set]
 refine TL.val rfl rfl rfl (gives_move rfl rfl) ?_
 refine TL.pcallChg (k := 0) (α := Unit) (fun _ => .int .i64 (getJ l 18 1)) (fun _ => [.slice A n c, .int .i64 19, .int .i64 (eAt l 19)]) (fun _ => []) rfl rfl rfl rfl rfl Tryd.func49 jdecnm49 jdecbd49 rfl (fun w1 hw => cnext' g11 A n c l 18 1 _ w1 (hw.at_ (k := 0) rfl).1 ((hb.below hw.bel).more hw.bel.size) (byt_ne ((hb.below hw.bel)) (hw.at_ (k := 0) rfl).2) hnc hlim (by decide) (by decide) (by decide) rfl) ?_
 rintro _
 dsimp only [List.cons_append, List.nil_append, List.set]
 refine TL.val rfl rfl rfl (gives_build (v := .agg #[.int .i64 (getJ l 0 1), .int .i64 (getJ l 1 1), .int .i64 (getJ l 2 2), .int .i64 (getJ l 4 7), .int .u32 (getJ l 11 4), .int .i64 (getJ l 15 1), .int .i64 (getJ l 16 2), .int .i64 (getJ l 18 1), .bool false, .bool false, .int .i64 0, .int .u32 0, .int .i64 0, .int .i64 0, .int .i64 0, .int .i64 0, .int .i64 0]) rfl rfl (fun w => jdecbld27_74771 _ _ _ _ _ _ _ _ w)) ?_
 refine TL.pnew rfl rfl rfl (exec_alloc (cs := [.int .i64 0, .int .i64 0, .int .i64 0, .int .i64 0, .int .u32 0, .int .i64 0, .int .i64 0, .int .i64 0, .bool false, .bool false, .int .i64 0, .int .u32 0, .int .i64 0, .int .i64 0, .int .i64 0, .int .i64 0, .int .i64 0]) rfl jdeczv27 rfl) (fun g5 => ?_)
 refine TL.pstore (k := 0) (vs := [.int .i64 (getJ l 0 1), .int .i64 (getJ l 1 1), .int .i64 (getJ l 2 2), .int .i64 (getJ l 4 7), .int .u32 (getJ l 11 4), .int .i64 (getJ l 15 1), .int .i64 (getJ l 16 2), .int .i64 (getJ l 18 1), .bool false, .bool false, .int .i64 0, .int .u32 0, .int .i64 0, .int .i64 0, .int .i64 0, .int .i64 0, .int .i64 0]) rfl rfl rfl rfl rfl rfl rfl jdecsz27 jdecone_i64i64i64i64u32i64i64i64bbi64u32i64i64i64i64i64 (by show 17 ≤ 17; decide) (L' := [.blk g5 27 [.int .i64 (getJ l 0 1), .int .i64 (getJ l 1 1), .int .i64 (getJ l 2 2), .int .i64 (getJ l 4 7), .int .u32 (getJ l 11 4), .int .i64 (getJ l 15 1), .int .i64 (getJ l 16 2), .int .i64 (getJ l 18 1), .bool false, .bool false, .int .i64 0, .int .u32 0, .int .i64 0, .int .i64 0, .int .i64 0, .int .i64 0, .int .i64 0], .blk g11 82 [.slice A n c, .int .i64 19, .int .i64 (eAt l 19)], .blk g2 27 [.int .i64 0, .int .i64 0, .int .i64 0, .int .i64 0, .int .u32 0, .int .i64 0, .int .i64 0, .int .i64 0, .bool false, .bool false, .int .i64 0, .int .u32 0, .int .i64 0, .int .i64 0, .int .i64 0, .int .i64 0, .int .i64 0]]) rfl ?_
 refine TL.end_ (TX.then_ (TC.seq_ (TC.region ?_)))
 refine TL.val rfl rfl rfl (gives_move rfl rfl) ?_
 refine TL.pcallChg (k := 1) (α := Unit) (fun _ => .int .i64 (getJ l 19 1)) (fun _ => [.slice A n c, .int .i64 20, .int .i64 (eAt l 20)]) (fun _ => []) rfl rfl rfl rfl rfl Tryd.func49 jdecnm49 jdecbd49 rfl (fun w1 hw => cnext' g11 A n c l 19 1 _ w1 (hw.at_ (k := 1) rfl).1 ((hb.below hw.bel).more hw.bel.size) (byt_ne ((hb.below hw.bel)) (hw.at_ (k := 1) rfl).2) hnc hlim (by decide) (by decide) (by decide) rfl) ?_
 rintro _
 dsimp only [List.cons_append, List.nil_append, List.set]
 refine TL.val rfl rfl rfl (gives_assign rfl rfl) ?_
 refine TL.end_ (TX.then_ (TC.seq_ (TC.region ?_)))
 refine TL.val rfl rfl rfl (gives_move rfl rfl) ?_
 refine TL.val rfl rfl rfl (gives_bin rfl rfl rfl (fun w => bin_bits (.inl rfl) w)) ?_
 refine TL.val rfl rfl rfl (gives_bin rfl rfl rfl (fun w => bin_eql w)) ?_
 refine TL.val rfl rfl rfl (gives_move rfl rfl) ?_
 refine TL.val rfl rfl rfl (gives_bin rfl rfl rfl (fun w => bin_bits (.inl rfl) w)) ?_
 refine TL.val rfl rfl rfl (gives_bin rfl rfl rfl (fun w => bin_eql w)) ?_
 refine TL.val rfl rfl rfl (gives_field (v := .pointer (some ⟨g5, 8, none⟩)) rfl rfl (fun w => jdecfld27_8 _ _ w)) ?_
 refine TL.pstore (k := 0) (vs := [.bool (decide (bits .and .i64 (getJ l 19 1) 1 = 1))]) rfl rfl rfl rfl rfl rfl rfl jdecsz4 jdecone_b (by show 9 ≤ 17; decide) (L' := [.blk g5 27 [.int .i64 (getJ l 0 1), .int .i64 (getJ l 1 1), .int .i64 (getJ l 2 2), .int .i64 (getJ l 4 7), .int .u32 (getJ l 11 4), .int .i64 (getJ l 15 1), .int .i64 (getJ l 16 2), .int .i64 (getJ l 18 1), .bool (decide (bits .and .i64 (getJ l 19 1) 1 = 1)), .bool false, .int .i64 0, .int .u32 0, .int .i64 0, .int .i64 0, .int .i64 0, .int .i64 0, .int .i64 0], .blk g11 82 [.slice A n c, .int .i64 20, .int .i64 (eAt l 20)], .blk g2 27 [.int .i64 0, .int .i64 0, .int .i64 0, .int .i64 0, .int .u32 0, .int .i64 0, .int .i64 0, .int .i64 0, .bool false, .bool false, .int .i64 0, .int .u32 0, .int .i64 0, .int .i64 0, .int .i64 0, .int .i64 0, .int .i64 0]]) rfl ?_
 refine TL.val rfl rfl rfl (gives_field (v := .pointer (some ⟨g5, 9, none⟩)) rfl rfl (fun w => jdecfld27_9 _ _ w)) ?_
 refine TL.pstore (k := 0) (vs := [.bool (decide (bits .and .i64 (getJ l 19 1) 2 = 2))]) rfl rfl rfl rfl rfl rfl rfl jdecsz4 jdecone_b (by show 10 ≤ 17; decide) (L' := [.blk g5 27 [.int .i64 (getJ l 0 1), .int .i64 (getJ l 1 1), .int .i64 (getJ l 2 2), .int .i64 (getJ l 4 7), .int .u32 (getJ l 11 4), .int .i64 (getJ l 15 1), .int .i64 (getJ l 16 2), .int .i64 (getJ l 18 1), .bool (decide (bits .and .i64 (getJ l 19 1) 1 = 1)), .bool (decide (bits .and .i64 (getJ l 19 1) 2 = 2)), .int .i64 0, .int .u32 0, .int .i64 0, .int .i64 0, .int .i64 0, .int .i64 0, .int .i64 0], .blk g11 82 [.slice A n c, .int .i64 20, .int .i64 (eAt l 20)], .blk g2 27 [.int .i64 0, .int .i64 0, .int .i64 0, .int .i64 0, .int .u32 0, .int .i64 0, .int .i64 0, .int .i64 0, .bool false, .bool false, .int .i64 0, .int .u32 0, .int .i64 0, .int .i64 0, .int .i64 0, .int .i64 0, .int .i64 0]]) rfl ?_
 refine TL.end_ (TX.then_ (TC.seq_ (TC.region ?_)))
 refine TL.val rfl rfl rfl (gives_move rfl rfl) ?_
 refine TL.pcallChg (k := 1) (α := Unit) (fun _ => .int .i64 (getJ l 20 7)) (fun _ => [.slice A n c, .int .i64 27, .int .i64 (eAt l 27)]) (fun _ => []) rfl rfl rfl rfl rfl Tryd.func49 jdecnm49 jdecbd49 rfl (fun w1 hw => cnext' g11 A n c l 20 7 _ w1 (hw.at_ (k := 1) rfl).1 ((hb.below hw.bel).more hw.bel.size) (byt_ne ((hb.below hw.bel)) (hw.at_ (k := 1) rfl).2) hnc hlim (by decide) (by decide) (by decide) rfl) ?_
 rintro _
 dsimp only [List.cons_append, List.nil_append, List.set]
 refine TL.val rfl rfl rfl (gives_field (v := .pointer (some ⟨g5, 10, none⟩)) rfl rfl (fun w => jdecfld27_10 _ _ w)) ?_
 refine TL.pstore (k := 0) (vs := [.int .i64 (getJ l 20 7)]) rfl rfl rfl rfl rfl rfl rfl jdecsz3 jdecone_i64 (by show 11 ≤ 17; decide) (L' := [.blk g5 27 [.int .i64 (getJ l 0 1), .int .i64 (getJ l 1 1), .int .i64 (getJ l 2 2), .int .i64 (getJ l 4 7), .int .u32 (getJ l 11 4), .int .i64 (getJ l 15 1), .int .i64 (getJ l 16 2), .int .i64 (getJ l 18 1), .bool (decide (bits .and .i64 (getJ l 19 1) 1 = 1)), .bool (decide (bits .and .i64 (getJ l 19 1) 2 = 2)), .int .i64 (getJ l 20 7), .int .u32 0, .int .i64 0, .int .i64 0, .int .i64 0, .int .i64 0, .int .i64 0], .blk g11 82 [.slice A n c, .int .i64 27, .int .i64 (eAt l 27)], .blk g2 27 [.int .i64 0, .int .i64 0, .int .i64 0, .int .i64 0, .int .u32 0, .int .i64 0, .int .i64 0, .int .i64 0, .bool false, .bool false, .int .i64 0, .int .u32 0, .int .i64 0, .int .i64 0, .int .i64 0, .int .i64 0, .int .i64 0]]) rfl ?_
 refine TL.end_ (TX.then_ (TC.seq_ (TC.region ?_)))
 refine TL.val rfl rfl rfl (gives_move rfl rfl) ?_
 refine TL.pcallChg (k := 1) (α := Unit) (fun _ => .int .i64 (getJ l 27 4)) (fun _ => [.slice A n c, .int .i64 31, .int .i64 (eAt l 31)]) (fun _ => []) rfl rfl rfl rfl rfl Tryd.func49 jdecnm49 jdecbd49 rfl (fun w1 hw => cnext' g11 A n c l 27 4 _ w1 (hw.at_ (k := 1) rfl).1 ((hb.below hw.bel).more hw.bel.size) (byt_ne ((hb.below hw.bel)) (hw.at_ (k := 1) rfl).2) hnc hlim (by decide) (by decide) (by decide) rfl) ?_
 rintro _
 dsimp only [List.cons_append, List.nil_append, List.set]
 refine TL.val rfl rfl rfl (gives_conv rfl rfl (fun w => conv_fit (k := .i64) Tryd.underlying23 Tryd.underlying3 (by simp only [IntKind.wrap_u32]; exact fit4 hb.2 27) w)) ?_
 refine TL.val rfl rfl rfl (gives_move rfl rfl) ?_
 refine TL.pcallChg (k := 1) (α := Unit) (fun _ => .int .i64 (getJ l 31 1)) (fun _ => [.slice A n c, .int .i64 32, .int .i64 (eAt l 32)]) (fun _ => []) rfl rfl rfl rfl rfl Tryd.func49 jdecnm49 jdecbd49 rfl (fun w1 hw => cnext' g11 A n c l 31 1 _ w1 (hw.at_ (k := 1) rfl).1 ((hb.below hw.bel).more hw.bel.size) (byt_ne ((hb.below hw.bel)) (hw.at_ (k := 1) rfl).2) hnc hlim (by decide) (by decide) (by decide) rfl) ?_
 rintro _
 dsimp only [List.cons_append, List.nil_append, List.set]
 refine TL.val rfl rfl rfl (gives_move rfl rfl) ?_
 refine TL.pcallChg (k := 1) (α := Unit) (fun _ => .int .i64 (getJ l 32 1)) (fun _ => [.slice A n c, .int .i64 33, .int .i64 (eAt l 33)]) (fun _ => []) rfl rfl rfl rfl rfl Tryd.func49 jdecnm49 jdecbd49 rfl (fun w1 hw => cnext' g11 A n c l 32 1 _ w1 (hw.at_ (k := 1) rfl).1 ((hb.below hw.bel).more hw.bel.size) (byt_ne ((hb.below hw.bel)) (hw.at_ (k := 1) rfl).2) hnc hlim (by decide) (by decide) (by decide) rfl) ?_
 rintro _
 dsimp only [List.cons_append, List.nil_append, List.set]
 refine TL.val rfl rfl rfl (gives_move rfl rfl) ?_
 refine TL.pcallChg (k := 1) (α := Unit) (fun _ => .int .i64 (getJ l 33 1)) (fun _ => [.slice A n c, .int .i64 34, .int .i64 (eAt l 34)]) (fun _ => []) rfl rfl rfl rfl rfl Tryd.func49 jdecnm49 jdecbd49 rfl (fun w1 hw => cnext' g11 A n c l 33 1 _ w1 (hw.at_ (k := 1) rfl).1 ((hb.below hw.bel).more hw.bel.size) (byt_ne ((hb.below hw.bel)) (hw.at_ (k := 1) rfl).2) hnc hlim (by decide) (by decide) (by decide) rfl) ?_
 rintro _
 dsimp only [List.cons_append, List.nil_append, List.set]
 refine TL.val rfl rfl rfl (gives_move rfl rfl) ?_
 refine TL.pcallChg (k := 1) (α := Unit) (fun _ => .int .i64 (getJ l 34 2)) (fun _ => [.slice A n c, .int .i64 36, .int .i64 (eAt l 36)]) (fun _ => []) rfl rfl rfl rfl rfl Tryd.func49 jdecnm49 jdecbd49 rfl (fun w1 hw => cnext' g11 A n c l 34 2 _ w1 (hw.at_ (k := 1) rfl).1 ((hb.below hw.bel).more hw.bel.size) (byt_ne ((hb.below hw.bel)) (hw.at_ (k := 1) rfl).2) hnc hlim (by decide) (by decide) (by decide) rfl) ?_
 rintro _
 dsimp only [List.cons_append, List.nil_append, List.set]
 refine TL.val rfl rfl rfl (gives_move rfl rfl) ?_
 refine TL.pcallChg (k := 1) (α := Unit) (fun _ => .int .i64 (getJ l 36 1)) (fun _ => [.slice A n c, .int .i64 37, .int .i64 (eAt l 37)]) (fun _ => []) rfl rfl rfl rfl rfl Tryd.func49 jdecnm49 jdecbd49 rfl (fun w1 hw => cnext' g11 A n c l 36 1 _ w1 (hw.at_ (k := 1) rfl).1 ((hb.below hw.bel).more hw.bel.size) (byt_ne ((hb.below hw.bel)) (hw.at_ (k := 1) rfl).2) hnc hlim (by decide) (by decide) (by decide) rfl) ?_
 rintro _
 dsimp only [List.cons_append, List.nil_append, List.set]
 refine TL.val rfl rfl rfl (gives_build (v := .agg #[.int .u32 (getJ l 27 4), .int .i64 (getJ l 31 1), .int .i64 (getJ l 32 1), .int .i64 (getJ l 33 1), .int .i64 (getJ l 34 2), .int .i64 (getJ l 36 1)]) rfl rfl (fun w => jdecbld25_14255 _ _ _ _ _ _ w)) ?_
 refine TL.val rfl rfl rfl (gives_field (v := .pointer (some ⟨g5, 11, none⟩)) rfl rfl (fun w => jdecfld27_11 _ _ w)) ?_
 refine TL.pstore (k := 0) (vs := [.int .u32 (getJ l 27 4), .int .i64 (getJ l 31 1), .int .i64 (getJ l 32 1), .int .i64 (getJ l 33 1), .int .i64 (getJ l 34 2), .int .i64 (getJ l 36 1)]) rfl rfl rfl rfl rfl rfl rfl jdecsz25 jdecone_u32i64i64i64i64i64 (by show 17 ≤ 17; decide) (L' := [.blk g5 27 [.int .i64 (getJ l 0 1), .int .i64 (getJ l 1 1), .int .i64 (getJ l 2 2), .int .i64 (getJ l 4 7), .int .u32 (getJ l 11 4), .int .i64 (getJ l 15 1), .int .i64 (getJ l 16 2), .int .i64 (getJ l 18 1), .bool (decide (bits .and .i64 (getJ l 19 1) 1 = 1)), .bool (decide (bits .and .i64 (getJ l 19 1) 2 = 2)), .int .i64 (getJ l 20 7), .int .u32 (getJ l 27 4), .int .i64 (getJ l 31 1), .int .i64 (getJ l 32 1), .int .i64 (getJ l 33 1), .int .i64 (getJ l 34 2), .int .i64 (getJ l 36 1)], .blk g11 82 [.slice A n c, .int .i64 37, .int .i64 (eAt l 37)], .blk g2 27 [.int .i64 0, .int .i64 0, .int .i64 0, .int .i64 0, .int .u32 0, .int .i64 0, .int .i64 0, .int .i64 0, .bool false, .bool false, .int .i64 0, .int .u32 0, .int .i64 0, .int .i64 0, .int .i64 0, .int .i64 0, .int .i64 0]]) rfl ?_
 refine TL.end_ (TX.then_ (TC.seq_ (TC.seq_ (TC.region ?_))))
 refine TL.val rfl rfl rfl (gives_move rfl rfl) ?_
 refine TL.val rfl rfl rfl (gives_nilCheck rfl rfl) ?_
 refine TL.val rfl rfl rfl (gives_field (v := .pointer (some ⟨g11, 2, none⟩)) rfl rfl (fun w => jdecfld82_2 _ _ w)) ?_
 refine TL.val rfl rfl rfl (pm_load (k := 1) (i := 2) rfl rfl jdecag34 rfl rfl) ?_
 refine TL.vsplit rfl rfl rfl (gives_bin rfl rfl rfl (fun w => bin_neq w)) (fun h62 => ?_) (fun h62 => ?_)
 ·have q62 := of_decide_eq_true h62
  have hl : l.length < 37 := Decidable.byContradiction fun hl => q62 (if_neg hl)
  refine TL.end_ (TX.then_ (TC.condT rfl (TC.seq_ (TC.region ?_))))
  refine TL.val rfl rfl rfl (gives_build (v := .agg #[.int .i64 0, .int .i64 0, .int .i64 0, .int .i64 0, .int .u32 0, .int .i64 0, .int .i64 0, .int .i64 0, .bool false, .bool false, .int .i64 0, .int .u32 0, .int .i64 0, .int .i64 0, .int .i64 0, .int .i64 0, .int .i64 0]) rfl rfl (fun w => jdecbld27_532  w)) ?_
  refine TL.pstore (k := 2) (vs := [.int .i64 0, .int .i64 0, .int .i64 0, .int .i64 0, .int .u32 0, .int .i64 0, .int .i64 0, .int .i64 0, .bool false, .bool false, .int .i64 0, .int .u32 0, .int .i64 0, .int .i64 0, .int .i64 0, .int .i64 0, .int .i64 0]) rfl rfl rfl rfl rfl rfl rfl jdecsz27 jdecone_i64i64i64i64u32i64i64i64bbi64u32i64i64i64i64i64 (by show 17 ≤ 17; decide) (L' := [.blk g5 27 [.int .i64 (getJ l 0 1), .int .i64 (getJ l 1 1), .int .i64 (getJ l 2 2), .int .i64 (getJ l 4 7), .int .u32 (getJ l 11 4), .int .i64 (getJ l 15 1), .int .i64 (getJ l 16 2), .int .i64 (getJ l 18 1), .bool (decide (bits .and .i64 (getJ l 19 1) 1 = 1)), .bool (decide (bits .and .i64 (getJ l 19 1) 2 = 2)), .int .i64 (getJ l 20 7), .int .u32 (getJ l 27 4), .int .i64 (getJ l 31 1), .int .i64 (getJ l 32 1), .int .i64 (getJ l 33 1), .int .i64 (getJ l 34 2), .int .i64 (getJ l 36 1)], .blk g11 82 [.slice A n c, .int .i64 37, .int .i64 (eAt l 37)], .blk g2 27 [.int .i64 0, .int .i64 0, .int .i64 0, .int .i64 0, .int .u32 0, .int .i64 0, .int .i64 0, .int .i64 0, .bool false, .bool false, .int .i64 0, .int .u32 0, .int .i64 0, .int .i64 0, .int .i64 0, .int .i64 0, .int .i64 0]]) rfl ?_
  refine TL.val rfl rfl rfl (gives_assign rfl rfl) ?_
  refine TL.end_ (TX.then_ (TC.ret_ (TX.then_ret ?_)))
  exact ret_cell2 (k := 2) (v := .int .i64 3) Tryd.results18 rfl rfl rfl Tryd.underlying27 rfl rfl (fun w1 hw => ⟨by rw [(dec_short (by omega)).1, (dec_short (by omega)).2]; rfl, hw.bel⟩)
 ·have q62 := of_decide_eq_false h62
  have hl : ¬ l.length < 37 := fun hl => by rw [eAt, if_pos hl] at q62; exact q62 (by decide)
  refine TL.end_ (TX.then_ (TC.condF rfl (TC.skip_ (TX.then_ (TC.seq_ (TC.seq_ ?_))))))
  have hcells : [.int .i64 (getJ l 0 1), .int .i64 (getJ l 1 1), .int .i64 (getJ l 2 2), .int .i64 (getJ l 4 7), .int .u32 (getJ l 11 4), .int .i64 (getJ l 15 1), .int .i64 (getJ l 16 2), .int .i64 (getJ l 18 1), .bool (decide (bits .and .i64 (getJ l 19 1) 1 = 1)), .bool (decide (bits .and .i64 (getJ l 19 1) 2 = 2)), .int .i64 (getJ l 20 7), .int .u32 (getJ l 27 4), .int .i64 (getJ l 31 1), .int .i64 (getJ l 32 1), .int .i64 (getJ l 33 1), .int .i64 (getJ l 34 2), .int .i64 (getJ l 36 1)] = (rdR l).cells := cells_j hb.2 (by omega)
  refine TC.mem (I' := Pm w [.blk g5 27 (rdR l).cells, .blk g11 82 [.slice A n c, .int .i64 37, .int .i64 (eAt l 37)], .blk g2 27 [.int .i64 0, .int .i64 0, .int .i64 0, .int .i64 0, .int .u32 0, .int .i64 0, .int .i64 0, .int .i64 0, .bool false, .bool false, .int .i64 0, .int .u32 0, .int .i64 0, .int .i64 0, .int .i64 0, .int .i64 0, .int .i64 0]]) (fun w1 hw => by rw [← hcells]; exact hw) ?_
  refine TC.region ?_
  refine TL.val rfl rfl rfl (pm_loadV (k := 0) (i := 0) (n := 17) (v := .agg ((rdR l).cells).toArray) rfl rfl jdecag27 jdecsz27 rfl (by show 17 ≤ 17; decide) rfl) ?_
  refine TL.pcallPair (n := (encO (rdR l)).length) (ys := bv (encO (rdR l))) (v := .int .i64 (chkR (rdR l))) rfl rfl rfl rfl rfl Tryd.func12 jdecnm12 jdecbd12 (fun w1 hw => encode_any (rdR l) (rd_ok l hb.2) w1) (fun A66 c66 hA661 hA662 => ?_)
  iterate 5 (first | refine TL.val rfl rfl rfl (gives_assign rfl rfl) ?_ | refine TL.val rfl rfl rfl (gives_extract rfl rfl rfl) ?_ | refine TL.val rfl rfl rfl (gives_move rfl rfl) ?_)
  refine TL.end_ (TX.then_ (TC.seq_ (TC.region ?_)))
  refine TL.val rfl rfl rfl (gives_move rfl rfl) ?_
  refine TL.vsplit rfl rfl rfl (gives_bin rfl rfl rfl (fun w => bin_neq w)) (fun h70 => ?_) (fun h70 => ?_)
  ·have q70 := of_decide_eq_true h70
   have hx : ¬ (chkR (rdR l) = 0 ∧ encO (rdR l) = l) := fun hh => q70 hh.1
   iterate 6 (first | refine TL.off rfl rfl rfl rfl rfl rfl ?_ | refine TL.val rfl rfl rfl (gives_move rfl rfl) ?_ | refine TL.val rfl rfl rfl (gives_pick rfl rfl rfl) ?_)
   refine TL.end_ (TX.then_ (TC.condT rfl (TC.seq_ (TC.region ?_))))
   refine TL.val rfl rfl rfl (gives_build (v := .agg #[.int .i64 0, .int .i64 0, .int .i64 0, .int .i64 0, .int .u32 0, .int .i64 0, .int .i64 0, .int .i64 0, .bool false, .bool false, .int .i64 0, .int .u32 0, .int .i64 0, .int .i64 0, .int .i64 0, .int .i64 0, .int .i64 0]) rfl rfl (fun w => jdecbld27_532  w)) ?_
   refine TL.pstore (k := 3) (vs := [.int .i64 0, .int .i64 0, .int .i64 0, .int .i64 0, .int .u32 0, .int .i64 0, .int .i64 0, .int .i64 0, .bool false, .bool false, .int .i64 0, .int .u32 0, .int .i64 0, .int .i64 0, .int .i64 0, .int .i64 0, .int .i64 0]) rfl rfl rfl rfl rfl rfl rfl jdecsz27 jdecone_i64i64i64i64u32i64i64i64bbi64u32i64i64i64i64i64 (by show 17 ≤ 17; decide) (L' := [.row (.slice A66 ((encO (rdR l)).length) c66) 5 1 ((encO (rdR l)).length) (bv (encO (rdR l))), .blk g5 27 (rdR l).cells, .blk g11 82 [.slice A n c, .int .i64 37, .int .i64 (eAt l 37)], .blk g2 27 [.int .i64 0, .int .i64 0, .int .i64 0, .int .i64 0, .int .u32 0, .int .i64 0, .int .i64 0, .int .i64 0, .bool false, .bool false, .int .i64 0, .int .u32 0, .int .i64 0, .int .i64 0, .int .i64 0, .int .i64 0, .int .i64 0]]) rfl ?_
   refine TL.val rfl rfl rfl (gives_assign rfl rfl) ?_
   refine TL.end_ (TX.then_ (TC.ret_ (TX.then_ret ?_)))
   exact ret_cell2 (k := 3) (v := .int .i64 2) Tryd.results18 rfl rfl rfl Tryd.underlying27 rfl rfl (fun w1 hw => ⟨by rw [(dec_form (by omega) hx).1, (dec_form (by omega) hx).2]; rfl, hw.bel⟩)
  ·have q70 := of_decide_eq_false h70
   have hz : chkR (rdR l) = 0 := Decidable.not_not.1 q70
   iterate 6 (first | refine TL.on rfl rfl rfl ?_ | refine TL.val rfl rfl rfl (gives_move rfl rfl) ?_)
   refine TL.callsplit rfl rfl rfl rfl rfl Tryd.func28 jdecnm28 jdecbd28 (fun w1 hw => wequal A66 A (encO (rdR l)).length c66 n c (encO (rdR l)) l w1 (byt_own (hw.at_ (k := 0) rfl) (encO_bs _)) ((hb.below hw.bel).more hw.bel.size)) (fun h74 => ?_) (fun h74 => ?_)
   ·have hx : chkR (rdR l) = 0 ∧ encO (rdR l) = l := ⟨hz, of_decide_eq_true h74⟩
    refine TL.on rfl rfl rfl ?_
    refine TL.val rfl rfl rfl (gives_boolnot rfl rfl) ?_
    refine TL.val rfl rfl rfl (gives_pick rfl rfl rfl) ?_
    refine TL.end_ (TX.then_ (TC.condF rfl (TC.skip_ (TX.then_ (TC.seq_ (TC.region ?_))))))
    refine TL.val rfl rfl rfl (pm_loadV (k := 1) (i := 0) (n := 17) (v := .agg ((rdR l).cells).toArray) rfl rfl jdecag27 jdecsz27 rfl (by show 17 ≤ 17; decide) rfl) ?_
    refine TL.pstore (k := 3) (vs := (rdR l).cells) rfl rfl rfl rfl rfl rfl rfl jdecsz27 jdecone_i64i64i64i64u32i64i64i64bbi64u32i64i64i64i64i64 (by show 17 ≤ 17; decide) (L' := [.row (.slice A66 ((encO (rdR l)).length) c66) 5 1 ((encO (rdR l)).length) (bv (encO (rdR l))), .blk g5 27 (rdR l).cells, .blk g11 82 [.slice A n c, .int .i64 37, .int .i64 (eAt l 37)], .blk g2 27 (rdR l).cells]) rfl ?_
    refine TL.val rfl rfl rfl (gives_assign rfl rfl) ?_
    refine TL.end_ (TX.then_ (TC.ret_ ?_))
    exact ret_cell2 (k := 3) (v := .int .i64 0) Tryd.results18 rfl rfl rfl Tryd.underlying27 rfl rfl (fun w1 hw => ⟨by rw [(dec_ok (by omega) hx.1 hx.2).1, (dec_ok (by omega) hx.1 hx.2).2], hw.bel⟩)
   ·have hx : ¬ (chkR (rdR l) = 0 ∧ encO (rdR l) = l) := fun hh => absurd hh.2 (of_decide_eq_false h74)
    refine TL.on rfl rfl rfl ?_
    refine TL.val rfl rfl rfl (gives_boolnot rfl rfl) ?_
    refine TL.val rfl rfl rfl (gives_pick rfl rfl rfl) ?_
    refine TL.end_ (TX.then_ (TC.condT rfl (TC.seq_ (TC.region ?_))))
    refine TL.val rfl rfl rfl (gives_build (v := .agg #[.int .i64 0, .int .i64 0, .int .i64 0, .int .i64 0, .int .u32 0, .int .i64 0, .int .i64 0, .int .i64 0, .bool false, .bool false, .int .i64 0, .int .u32 0, .int .i64 0, .int .i64 0, .int .i64 0, .int .i64 0, .int .i64 0]) rfl rfl (fun w => jdecbld27_532  w)) ?_
    refine TL.pstore (k := 3) (vs := [.int .i64 0, .int .i64 0, .int .i64 0, .int .i64 0, .int .u32 0, .int .i64 0, .int .i64 0, .int .i64 0, .bool false, .bool false, .int .i64 0, .int .u32 0, .int .i64 0, .int .i64 0, .int .i64 0, .int .i64 0, .int .i64 0]) rfl rfl rfl rfl rfl rfl rfl jdecsz27 jdecone_i64i64i64i64u32i64i64i64bbi64u32i64i64i64i64i64 (by show 17 ≤ 17; decide) (L' := [.row (.slice A66 ((encO (rdR l)).length) c66) 5 1 ((encO (rdR l)).length) (bv (encO (rdR l))), .blk g5 27 (rdR l).cells, .blk g11 82 [.slice A n c, .int .i64 37, .int .i64 (eAt l 37)], .blk g2 27 [.int .i64 0, .int .i64 0, .int .i64 0, .int .i64 0, .int .u32 0, .int .i64 0, .int .i64 0, .int .i64 0, .bool false, .bool false, .int .i64 0, .int .u32 0, .int .i64 0, .int .i64 0, .int .i64 0, .int .i64 0, .int .i64 0]]) rfl ?_
    refine TL.val rfl rfl rfl (gives_assign rfl rfl) ?_
    refine TL.end_ (TX.then_ (TC.ret_ (TX.then_ret ?_)))
    exact ret_cell2 (k := 3) (v := .int .i64 2) Tryd.results18 rfl rfl rfl Tryd.underlying27 rfl rfl (fun w1 hw => ⟨by rw [(dec_form (by omega) hx).1, (dec_form (by omega) hx).2]; rfl, hw.bel⟩)
set_option maxHeartbeats 2000000 in
theorem rdecode_any (A : Option Addr) (n c : Nat) (l : List Int) (w : World) (hb : Byt w w.heap.size A n l) (hnc : n ≤ c) (hlim : n ≤ 140737488355328) :
  Calls Tryd.prog 19 #[.slice A n c] w fun e w' => e = .returned (.tuple #[.agg (decR l).cells.toArray, .int .i64 (decE l)]) ∧ Below w.heap.size w w' := by
 have hln := hb.len
 refine begin_ (vs := [.slice A n c]) Tryd.func19 rfl rfl rfl ?_ (Pm.start w)
 refine TC.seq_ (TC.region ?_)
 refine TL.pnew rfl rfl rfl (exec_alloc (cs := [.int .i64 0, .int .i64 0, .int .i64 0, .int .i64 0, .int .u32 0, .int .i64 0, .int .i64 0, .int .i64 0, .bool false, .bool false, .int .i64 0, .int .u32 0, .int .i64 0, .int .i64 0, .int .i64 0, .int .i64 0, .int .i64 0]) rfl jdeczv27 rfl) (fun g2 => ?_)
 refine TL.val rfl rfl rfl (gives_assign rfl rfl) ?_
 refine TL.end_ (TX.then_ (TC.seq_ (TC.seq_ (TC.region ?_))))
 refine TL.val rfl rfl rfl (gives_move rfl rfl) ?_
 refine TL.val rfl rfl rfl (gives_len rfl Tryd.underlying28 rfl) ?_
 refine TL.vsplit rfl rfl rfl (gives_bin rfl rfl rfl (fun w => bin_lss w)) (fun h9 => ?_) (fun h9 => ?_)
 ·have q9 := of_decide_eq_true h9
  have hl : l.length < 37 := by omega
  refine TL.end_ (TX.then_ (TC.condT rfl (TC.seq_ (TC.region ?_))))
  refine TL.val rfl rfl rfl (gives_build (v := .agg #[.int .i64 0, .int .i64 0, .int .i64 0, .int .i64 0, .int .u32 0, .int .i64 0, .int .i64 0, .int .i64 0, .bool false, .bool false, .int .i64 0, .int .u32 0, .int .i64 0, .int .i64 0, .int .i64 0, .int .i64 0, .int .i64 0]) rfl rfl (fun w => jdecbld27_532  w)) ?_
  refine TL.pstore (k := 0) (vs := [.int .i64 0, .int .i64 0, .int .i64 0, .int .i64 0, .int .u32 0, .int .i64 0, .int .i64 0, .int .i64 0, .bool false, .bool false, .int .i64 0, .int .u32 0, .int .i64 0, .int .i64 0, .int .i64 0, .int .i64 0, .int .i64 0]) rfl rfl rfl rfl rfl rfl rfl jdecsz27 jdecone_i64i64i64i64u32i64i64i64bbi64u32i64i64i64i64i64 (by show 17 ≤ 17; decide) (L' := [.blk g2 27 [.int .i64 0, .int .i64 0, .int .i64 0, .int .i64 0, .int .u32 0, .int .i64 0, .int .i64 0, .int .i64 0, .bool false, .bool false, .int .i64 0, .int .u32 0, .int .i64 0, .int .i64 0, .int .i64 0, .int .i64 0, .int .i64 0]]) rfl ?_
  refine TL.val rfl rfl rfl (gives_assign rfl rfl) ?_
  refine TL.end_ (TX.then_ (TC.ret_ (TX.then_ret ?_)))
  exact ret_cell2 (k := 0) (v := .int .i64 3) Tryd.results19 rfl rfl rfl Tryd.underlying27 rfl rfl (fun w1 hw => ⟨by rw [(dec_short (by omega)).1, (dec_short (by omega)).2]; rfl, hw.bel⟩)
 ·have q9 := of_decide_eq_false h9
  have hl : ¬ l.length < 37 := by omega
  obtain ⟨b0, o, y, rfl, hbB, hl19, hy0, hy1, hy⟩ := hb.at' (k := 19) (by omega)
  refine TL.end_ (TX.then_ (TC.condF rfl (TC.skip_ (TX.then_ (TC.seq_ ?_)))))
  refine TC.held (ls := #[false, false, false, false, false, false, false, false, false, false, false, false, false, false, false, false, false, false, false, false, false, false, false, false, false, false, false, false, false, false, false, false]) (Pm w [.blk g2 27 [.int .i64 0, .int .i64 0, .int .i64 0, .int .i64 0, .int .u32 0, .int .i64 0, .int .i64 0, .int .i64 0, .bool false, .bool false, .int .i64 0, .int .u32 0, .int .i64 0, .int .i64 0, .int .i64 0, .int .i64 0, .int .i64 0]]) (by kernel_rfl) rfl rfl (fun w hw => hw.drawn _) ?_
  refine TH.take (listed' := #[true, false, false, false, false, false, false, false, false, false, false, false, false, false, false, false, false, false, false, false, false, false, false, false, false, false, false, false, false, false, false, false]) 0 rfl (by kernel_rfl) (by kernel_rfl) (by kernel_rfl) rfl rfl rfl rfl (gives_move rfl rfl) (fun w1 hw => hw) ?_
  refine TH.takeC (r := .int .i64 (getJ l 0 1)) (listed' := #[true, true, false, false, false, false, false, false, false, false, false, false, false, false, false, false, false, false, false, false, false, false, false, false, false, false, false, false, false, false, false, false]) 1 rfl (by kernel_rfl) (by kernel_rfl) (by kernel_rfl) rfl rfl rfl rfl rfl rfl Tryd.func50 jdecnm50 jdecbd50 (fun w1 hw => sat _ n c l 0 1 w1 ((hb.below hw.bel).more hw.bel.size) hnc hlim (by decide) (by decide) (by decide)) (fun w1 hw => hw) ?_
  refine TH.take (listed' := #[true, true, true, false, false, false, false, false, false, false, false, false, false, false, false, false, false, false, false, false, false, false, false, false, false, false, false, false, false, false, false, false]) 2 rfl (by kernel_rfl) (by kernel_rfl) (by kernel_rfl) rfl rfl rfl rfl (gives_move rfl rfl) (fun w1 hw => hw) ?_
  refine TH.takeC (r := .int .i64 (getJ l 1 1)) (listed' := #[true, true, true, true, false, false, false, false, false, false, false, false, false, false, false, false, false, false, false, false, false, false, false, false, false, false, false, false, false, false, false, false]) 3 rfl (by kernel_rfl) (by kernel_rfl) (by kernel_rfl) rfl rfl rfl rfl rfl rfl Tryd.func50 jdecnm50 jdecbd50 (fun w1 hw => sat _ n c l 1 1 w1 ((hb.below hw.bel).more hw.bel.size) hnc hlim (by decide) (by decide) (by decide)) (fun w1 hw => hw) ?_
  refine TH.take (listed' := #[true, true, true, true, true, false, false, false, false, false, false, false, false, false, false, false, false, false, false, false, false, false, false, false, false, false, false, false, false, false, false, false]) 4 rfl (by kernel_rfl) (by kernel_rfl) (by kernel_rfl) rfl rfl rfl rfl (gives_move rfl rfl) (fun w1 hw => hw) ?_
  refine TH.takeC (r := .int .i64 (getJ l 2 2)) (listed' := #[true, true, true, true, true, true, false, false, false, false, false, false, false, false, false, false, false, false, false, false, false, false, false, false, false, false, false, false, false, false, false, false]) 5 rfl (by kernel_rfl) (by kernel_rfl) (by kernel_rfl) rfl rfl rfl rfl rfl rfl Tryd.func50 jdecnm50 jdecbd50 (fun w1 hw => sat _ n c l 2 2 w1 ((hb.below hw.bel).more hw.bel.size) hnc hlim (by decide) (by decide) (by decide)) (fun w1 hw => hw) ?_
  refine TH.take (listed' := #[true, true, true, true, true, true, true, false, false, false, false, false, false, false, false, false, false, false, false, false, false, false, false, false, false, false, false, false, false, false, false, false]) 6 rfl (by kernel_rfl) (by kernel_rfl) (by kernel_rfl) rfl rfl rfl rfl (gives_move rfl rfl) (fun w1 hw => hw) ?_
  refine TH.takeC (r := .int .i64 (getJ l 4 7)) (listed' := #[true, true, true, true, true, true, true, true, false, false, false, false, false, false, false, false, false, false, false, false, false, false, false, false, false, false, false, false, false, false, false, false]) 7 rfl (by kernel_rfl) (by kernel_rfl) (by kernel_rfl) rfl rfl rfl rfl rfl rfl Tryd.func50 jdecnm50 jdecbd50 (fun w1 hw => sat _ n c l 4 7 w1 ((hb.below hw.bel).more hw.bel.size) hnc hlim (by decide) (by decide) (by decide)) (fun w1 hw => hw) ?_
  refine TH.take (listed' := #[true, true, true, true, true, true, true, true, true, false, false, false, false, false, false, false, false, false, false, false, false, false, false, false, false, false, false, false, false, false, false, false]) 8 rfl (by kernel_rfl) (by kernel_rfl) (by kernel_rfl) rfl rfl rfl rfl (gives_move rfl rfl) (fun w1 hw => hw) ?_
  refine TH.takeC (r := .int .i64 (getJ l 11 4)) (listed' := #[true, true, true, true, true, true, true, true, true, true, false, false, false, false, false, false, false, false, false, false, false, false, false, false, false, false, false, false, false, false, false, false]) 9 rfl (by kernel_rfl) (by kernel_rfl) (by kernel_rfl) rfl rfl rfl rfl rfl rfl Tryd.func50 jdecnm50 jdecbd50 (fun w1 hw => sat _ n c l 11 4 w1 ((hb.below hw.bel).more hw.bel.size) hnc hlim (by decide) (by decide) (by decide)) (fun w1 hw => hw) ?_
  refine TH.take (listed' := #[true, true, true, true, true, true, true, true, true, true, true, false, false, false, false, false, false, false, false, false, false, false, false, false, false, false, false, false, false, false, false, false]) 10 rfl (by kernel_rfl) (by kernel_rfl) (by kernel_rfl) rfl rfl rfl rfl (gives_conv rfl rfl (fun w => conv_fit (k := .i64) Tryd.underlying23 Tryd.underlying3 (by simp only [IntKind.wrap_u32]; exact fit4 hb.2 11) w)) (fun w1 hw => hw) ?_
  refine TH.take (listed' := #[true, true, true, true, true, true, true, true, true, true, true, true, false, false, false, false, false, false, false, false, false, false, false, false, false, false, false, false, false, false, false, false]) 11 rfl (by kernel_rfl) (by kernel_rfl) (by kernel_rfl) rfl rfl rfl rfl (gives_move rfl rfl) (fun w1 hw => hw) ?_
  refine TH.takeC (r := .int .i64 (getJ l 15 1)) (listed' := #[true, true, true, true, true, true, true, true, true, true, true, true, true, false, false, false, false, false, false, false, false, false, false, false, false, false, false, false, false, false, false, false]) 12 rfl (by kernel_rfl) (by kernel_rfl) (by kernel_rfl) rfl rfl rfl rfl rfl rfl Tryd.func50 jdecnm50 jdecbd50 (fun w1 hw => sat _ n c l 15 1 w1 ((hb.below hw.bel).more hw.bel.size) hnc hlim (by decide) (by decide) (by decide)) (fun w1 hw => hw) ?_
  refine TH.take (listed' := #[true, true, true, true, true, true, true, true, true, true, true, true, true, true, false, false, false, false, false, false, false, false, false, false, false, false, false, false, false, false, false, false]) 13 rfl (by kernel_rfl) (by kernel_rfl) (by kernel_rfl) rfl rfl rfl rfl (gives_move rfl rfl) (fun w1 hw => hw) ?_
  refine TH.takeC (r := .int .i64 (getJ l 16 2)) (listed' := #[true, true, true, true, true, true, true, true, true, true, true, true, true, true, true, false, false, false, false, false, false, false, false, false, false, false, false, false, false, false, false, false]) 14 rfl (by kernel_rfl) (by kernel_rfl) (by kernel_rfl) rfl rfl rfl rfl rfl rfl Tryd.func50 jdecnm50 jdecbd50 (fun w1 hw => sat _ n c l 16 2 w1 ((hb.below hw.bel).more hw.bel.size) hnc hlim (by decide) (by decide) (by decide)) (fun w1 hw => hw) ?_
  refine TH.take (listed' := #[true, true, true, true, true, true, true, true, true, true, true, true, true, true, true, true, false, false, false, false, false, false, false, false, false, false, false, false, false, false, false, false]) 15 rfl (by kernel_rfl) (by kernel_rfl) (by kernel_rfl) rfl rfl rfl rfl (gives_move rfl rfl) (fun w1 hw => hw) ?_
  refine TH.takeC (r := .int .i64 (getJ l 18 1)) (listed' := #[true, true, true, true, true, true, true, true, true, true, true, true, true, true, true, true, true, false, false, false, false, false, false, false, false, false, false, false, false, false, false, false]) 16 rfl (by kernel_rfl) (by kernel_rfl) (by kernel_rfl) rfl rfl rfl rfl rfl rfl Tryd.func50 jdecnm50 jdecbd50 (fun w1 hw => sat _ n c l 18 1 w1 ((hb.below hw.bel).more hw.bel.size) hnc hlim (by decide) (by decide) (by decide)) (fun w1 hw => hw) ?_
  refine TH.take (listed' := #[true, true, true, true, true, true, true, true, true, true, true, true, true, true, true, true, true, true, false, false, false, false, false, false, false, false, false, false, false, false, false, false]) 17 rfl (by kernel_rfl) (by kernel_rfl) (by kernel_rfl) rfl rfl rfl rfl (gives_move rfl rfl) (fun w1 hw => hw) ?_
  refine TH.take (listed' := #[true, true, true, true, true, true, true, true, true, true, true, true, true, true, true, true, true, true, true, false, false, false, false, false, false, false, false, false, false, false, false, false]) 18 rfl (by kernel_rfl) (by kernel_rfl) (by kernel_rfl) rfl rfl rfl rfl (gives_at (v := .pointer (some ⟨b0, o + 19, none⟩)) rfl rfl rfl (fun w => at_u8 b0 o n c 19 (by omega) w)) (fun w1 hw => hw) ?_
  refine TH.take (listed' := #[true, true, true, true, true, true, true, true, true, true, true, true, true, true, true, true, true, true, true, true, false, false, false, false, false, false, false, false, false, false, false, false]) 19 rfl (by kernel_rfl) (by kernel_rfl) (by kernel_rfl) rfl rfl rfl rfl (gives_load (v := .int .u8 y) rfl rfl (fun w => rfl) (fun w1 hw => (hw.bel.cell (p := ⟨b0, o + 19, none⟩) hbB).trans hy)) (fun w1 hw => hw) ?_
  refine TH.take (listed' := #[true, true, true, true, true, true, true, true, true, true, true, true, true, true, true, true, true, true, true, true, true, false, false, false, false, false, false, false, false, false, false, false]) 20 rfl (by kernel_rfl) (by kernel_rfl) (by kernel_rfl) rfl rfl rfl rfl (gives_bin rfl rfl rfl (fun w => bin_bits (.inl rfl) w)) (fun w1 hw => hw) ?_
  refine TH.take (listed' := #[true, true, true, true, true, true, true, true, true, true, true, true, true, true, true, true, true, true, true, true, true, true, false, false, false, false, false, false, false, false, false, false]) 21 rfl (by kernel_rfl) (by kernel_rfl) (by kernel_rfl) rfl rfl rfl rfl (gives_bin rfl rfl rfl (fun w => bin_eql w)) (fun w1 hw => hw) ?_
  refine TH.take (listed' := #[true, true, true, true, true, true, true, true, true, true, true, true, true, true, true, true, true, true, true, true, true, true, true, false, false, false, false, false, false, false, false, false]) 22 rfl (by kernel_rfl) (by kernel_rfl) (by kernel_rfl) rfl rfl rfl rfl (gives_move rfl rfl) (fun w1 hw => hw) ?_
  refine TH.take (listed' := #[true, true, true, true, true, true, true, true, true, true, true, true, true, true, true, true, true, true, true, true, true, true, true, true, false, false, false, false, false, false, false, false]) 23 rfl (by kernel_rfl) (by kernel_rfl) (by kernel_rfl) rfl rfl rfl rfl (gives_at (v := .pointer (some ⟨b0, o + 19, none⟩)) rfl rfl rfl (fun w => at_u8 b0 o n c 19 (by omega) w)) (fun w1 hw => hw) ?_
  refine TH.take (listed' := #[true, true, true, true, true, true, true, true, true, true, true, true, true, true, true, true, true, true, true, true, true, true, true, true, true, false, false, false, false, false, false, false]) 24 rfl (by kernel_rfl) (by kernel_rfl) (by kernel_rfl) rfl rfl rfl rfl (gives_load (v := .int .u8 y) rfl rfl (fun w => rfl) (fun w1 hw => (hw.bel.cell (p := ⟨b0, o + 19, none⟩) hbB).trans hy)) (fun w1 hw => hw) ?_
  refine TH.take (listed' := #[true, true, true, true, true, true, true, true, true, true, true, true, true, true, true, true, true, true, true, true, true, true, true, true, true, true, false, false, false, false, false, false]) 25 rfl (by kernel_rfl) (by kernel_rfl) (by kernel_rfl) rfl rfl rfl rfl (gives_bin rfl rfl rfl (fun w => bin_bits (.inl rfl) w)) (fun w1 hw => hw) ?_
  refine TH.take (listed' := #[true, true, true, true, true, true, true, true, true, true, true, true, true, true, true, true, true, true, true, true, true, true, true, true, true, true, true, false, false, false, false, false]) 26 rfl (by kernel_rfl) (by kernel_rfl) (by kernel_rfl) rfl rfl rfl rfl (gives_bin rfl rfl rfl (fun w => bin_eql w)) (fun w1 hw => hw) ?_
  refine TH.take (listed' := #[true, true, true, true, true, true, true, true, true, true, true, true, true, true, true, true, true, true, true, true, true, true, true, true, true, true, true, true, false, false, false, false]) 27 rfl (by kernel_rfl) (by kernel_rfl) (by kernel_rfl) rfl rfl rfl rfl (gives_move rfl rfl) (fun w1 hw => hw) ?_
  refine TH.takeC (r := .int .i64 (getJ l 20 7)) (listed' := #[true, true, true, true, true, true, true, true, true, true, true, true, true, true, true, true, true, true, true, true, true, true, true, true, true, true, true, true, true, false, false, false]) 28 rfl (by kernel_rfl) (by kernel_rfl) (by kernel_rfl) rfl rfl rfl rfl rfl rfl Tryd.func50 jdecnm50 jdecbd50 (fun w1 hw => sat _ n c l 20 7 w1 ((hb.below hw.bel).more hw.bel.size) hnc hlim (by decide) (by decide) (by decide)) (fun w1 hw => hw) ?_
  refine TH.take (listed' := #[true, true, true, true, true, true, true, true, true, true, true, true, true, true, true, true, true, true, true, true, true, true, true, true, true, true, true, true, true, true, false, false]) 29 rfl (by kernel_rfl) (by kernel_rfl) (by kernel_rfl) rfl rfl rfl rfl (gives_build (v := .agg #[.int .i64 (getJ l 0 1), .int .i64 (getJ l 1 1), .int .i64 (getJ l 2 2), .int .i64 (getJ l 4 7), .int .u32 (getJ l 11 4), .int .i64 (getJ l 15 1), .int .i64 (getJ l 16 2), .int .i64 (getJ l 18 1), .bool (decide (bits .and .u8 y 1 = 1)), .bool (decide (bits .and .u8 y 2 = 2)), .int .i64 (getJ l 20 7), .int .u32 0, .int .i64 0, .int .i64 0, .int .i64 0, .int .i64 0, .int .i64 0]) rfl rfl (fun w => jdecbld27_33074 _ _ _ _ _ _ _ _ _ _ _ w)) (fun w1 hw => hw) ?_
  refine TH.only' (listed' := #[true, true, true, true, true, true, true, true, true, true, true, true, true, true, true, true, true, true, true, true, true, true, true, true, true, true, true, true, true, true, true, false]) 30 rfl (by kernel_rfl) rfl ?_
  refine TL.pnew rfl rfl rfl (exec_alloc (cs := [.int .i64 0, .int .i64 0, .int .i64 0, .int .i64 0, .int .u32 0, .int .i64 0, .int .i64 0, .int .i64 0, .bool false, .bool false, .int .i64 0, .int .u32 0, .int .i64 0, .int .i64 0, .int .i64 0, .int .i64 0, .int .i64 0]) rfl jdeczv27 rfl) (fun g4 => ?_)
  refine TL.end_ ?_
  refine TX.held (fun w1 hw => hw.pick [1] (by decide) rfl) ?_
  refine TH.only' (listed' := #[true, true, true, true, true, true, true, true, true, true, true, true, true, true, true, true, true, true, true, true, true, true, true, true, true, true, true, true, true, true, true, true]) 31 rfl (by kernel_rfl) rfl ?_
  refine TL.pstore (k := 0) (vs := [.int .i64 (getJ l 0 1), .int .i64 (getJ l 1 1), .int .i64 (getJ l 2 2), .int .i64 (getJ l 4 7), .int .u32 (getJ l 11 4), .int .i64 (getJ l 15 1), .int .i64 (getJ l 16 2), .int .i64 (getJ l 18 1), .bool (decide (bits .and .u8 y 1 = 1)), .bool (decide (bits .and .u8 y 2 = 2)), .int .i64 (getJ l 20 7), .int .u32 0, .int .i64 0, .int .i64 0, .int .i64 0, .int .i64 0, .int .i64 0]) rfl rfl rfl rfl rfl rfl rfl jdecsz27 jdecone_i64i64i64i64u32i64i64i64bbi64u32i64i64i64i64i64 (by show 17 ≤ 17; decide) (L' := [.blk g4 27 [.int .i64 (getJ l 0 1), .int .i64 (getJ l 1 1), .int .i64 (getJ l 2 2), .int .i64 (getJ l 4 7), .int .u32 (getJ l 11 4), .int .i64 (getJ l 15 1), .int .i64 (getJ l 16 2), .int .i64 (getJ l 18 1), .bool (decide (bits .and .u8 y 1 = 1)), .bool (decide (bits .and .u8 y 2 = 2)), .int .i64 (getJ l 20 7), .int .u32 0, .int .i64 0, .int .i64 0, .int .i64 0, .int .i64 0, .int .i64 0], .blk g2 27 [.int .i64 0, .int .i64 0, .int .i64 0, .int .i64 0, .int .u32 0, .int .i64 0, .int .i64 0, .int .i64 0, .bool false, .bool false, .int .i64 0, .int .u32 0, .int .i64 0, .int .i64 0, .int .i64 0, .int .i64 0, .int .i64 0]]) rfl ?_
  refine TL.end_ ?_
  refine TX.held (fun w1 hw => hw.pick [1] (by decide) rfl) ?_
  refine TH.done (by kernel_rfl) ?_
  refine TX.then_ (TC.seq_ (TC.region ?_))
  refine TL.val rfl rfl rfl (gives_move rfl rfl) ?_
  refine TL.pcall1 (r := .int .i64 (getJ l 27 4)) rfl rfl rfl rfl rfl Tryd.func50 jdecnm50 jdecbd50 (fun w1 hw => jat _ n c l 27 4 w1 ((hb.below hw.bel).more hw.bel.size) hnc hlim (by decide) (by decide) (by decide)) ?_
  refine TL.val rfl rfl rfl (gives_conv rfl rfl (fun w => conv_fit (k := .i64) Tryd.underlying23 Tryd.underlying3 (by simp only [IntKind.wrap_u32]; exact fit4 hb.2 27) w)) ?_
  refine TL.val rfl rfl rfl (gives_move rfl rfl) ?_
  refine TL.pcall1 (r := .int .i64 (getJ l 31 1)) rfl rfl rfl rfl rfl Tryd.func50 jdecnm50 jdecbd50 (fun w1 hw => jat _ n c l 31 1 w1 ((hb.below hw.bel).more hw.bel.size) hnc hlim (by decide) (by decide) (by decide)) ?_
  refine TL.val rfl rfl rfl (gives_move rfl rfl) ?_
  refine TL.pcall1 (r := .int .i64 (getJ l 32 1)) rfl rfl rfl rfl rfl Tryd.func50 jdecnm50 jdecbd50 (fun w1 hw => jat _ n c l 32 1 w1 ((hb.below hw.bel).more hw.bel.size) hnc hlim (by decide) (by decide) (by decide)) ?_
  refine TL.val rfl rfl rfl (gives_move rfl rfl) ?_
  refine TL.pcall1 (r := .int .i64 (getJ l 33 1)) rfl rfl rfl rfl rfl Tryd.func50 jdecnm50 jdecbd50 (fun w1 hw => jat _ n c l 33 1 w1 ((hb.below hw.bel).more hw.bel.size) hnc hlim (by decide) (by decide) (by decide)) ?_
  refine TL.val rfl rfl rfl (gives_move rfl rfl) ?_
  refine TL.pcall1 (r := .int .i64 (getJ l 34 2)) rfl rfl rfl rfl rfl Tryd.func50 jdecnm50 jdecbd50 (fun w1 hw => jat _ n c l 34 2 w1 ((hb.below hw.bel).more hw.bel.size) hnc hlim (by decide) (by decide) (by decide)) ?_
  refine TL.val rfl rfl rfl (gives_move rfl rfl) ?_
  refine TL.pcall1 (r := .int .i64 (getJ l 36 1)) rfl rfl rfl rfl rfl Tryd.func50 jdecnm50 jdecbd50 (fun w1 hw => jat _ n c l 36 1 w1 ((hb.below hw.bel).more hw.bel.size) hnc hlim (by decide) (by decide) (by decide)) ?_
  refine TL.val rfl rfl rfl (gives_build (v := .agg #[.int .u32 (getJ l 27 4), .int .i64 (getJ l 31 1), .int .i64 (getJ l 32 1), .int .i64 (getJ l 33 1), .int .i64 (getJ l 34 2), .int .i64 (getJ l 36 1)]) rfl rfl (fun w => jdecbld25_14255 _ _ _ _ _ _ w)) ?_
  refine TL.val rfl rfl rfl (gives_field (v := .pointer (some ⟨g4, 11, none⟩)) rfl rfl (fun w => jdecfld27_11 _ _ w)) ?_
  refine TL.pstore (k := 0) (vs := [.int .u32 (getJ l 27 4), .int .i64 (getJ l 31 1), .int .i64 (getJ l 32 1), .int .i64 (getJ l 33 1), .int .i64 (getJ l 34 2), .int .i64 (getJ l 36 1)]) rfl rfl rfl rfl rfl rfl rfl jdecsz25 jdecone_u32i64i64i64i64i64 (by show 17 ≤ 17; decide) (L' := [.blk g4 27 [.int .i64 (getJ l 0 1), .int .i64 (getJ l 1 1), .int .i64 (getJ l 2 2), .int .i64 (getJ l 4 7), .int .u32 (getJ l 11 4), .int .i64 (getJ l 15 1), .int .i64 (getJ l 16 2), .int .i64 (getJ l 18 1), .bool (decide (bits .and .u8 y 1 = 1)), .bool (decide (bits .and .u8 y 2 = 2)), .int .i64 (getJ l 20 7), .int .u32 (getJ l 27 4), .int .i64 (getJ l 31 1), .int .i64 (getJ l 32 1), .int .i64 (getJ l 33 1), .int .i64 (getJ l 34 2), .int .i64 (getJ l 36 1)], .blk g2 27 [.int .i64 0, .int .i64 0, .int .i64 0, .int .i64 0, .int .u32 0, .int .i64 0, .int .i64 0, .int .i64 0, .bool false, .bool false, .int .i64 0, .int .u32 0, .int .i64 0, .int .i64 0, .int .i64 0, .int .i64 0, .int .i64 0]]) rfl ?_
  refine TL.end_ (TX.then_ (TC.seq_ ?_))
  have hcells : [.int .i64 (getJ l 0 1), .int .i64 (getJ l 1 1), .int .i64 (getJ l 2 2), .int .i64 (getJ l 4 7), .int .u32 (getJ l 11 4), .int .i64 (getJ l 15 1), .int .i64 (getJ l 16 2), .int .i64 (getJ l 18 1), .bool (decide (bits .and .u8 y 1 = 1)), .bool (decide (bits .and .u8 y 2 = 2)), .int .i64 (getJ l 20 7), .int .u32 (getJ l 27 4), .int .i64 (getJ l 31 1), .int .i64 (getJ l 32 1), .int .i64 (getJ l 33 1), .int .i64 (getJ l 34 2), .int .i64 (getJ l 36 1)] = (rdR l).cells := cells_r hb.2 (by omega) hl19
  refine TC.mem (I' := Pm w [.blk g4 27 (rdR l).cells, .blk g2 27 [.int .i64 0, .int .i64 0, .int .i64 0, .int .i64 0, .int .u32 0, .int .i64 0, .int .i64 0, .int .i64 0, .bool false, .bool false, .int .i64 0, .int .u32 0, .int .i64 0, .int .i64 0, .int .i64 0, .int .i64 0, .int .i64 0]]) (fun w1 hw => by rw [← hcells]; exact hw) ?_
  refine TC.region ?_
  refine TL.val rfl rfl rfl (pm_loadV (k := 0) (i := 0) (n := 17) (v := .agg ((rdR l).cells).toArray) rfl rfl jdecag27 jdecsz27 rfl (by show 17 ≤ 17; decide) rfl) ?_
  refine TL.pcallPair (n := (encO (rdR l)).length) (ys := bv (encO (rdR l))) (v := .int .i64 (chkR (rdR l))) rfl rfl rfl rfl rfl Tryd.func13 jdecnm13 jdecbd13 (fun w1 hw => rencode_any (rdR l) (rd_ok l hb.2) w1) (fun A58 c58 hA581 hA582 => ?_)
  iterate 5 (first | refine TL.val rfl rfl rfl (gives_assign rfl rfl) ?_ | refine TL.val rfl rfl rfl (gives_extract rfl rfl rfl) ?_ | refine TL.val rfl rfl rfl (gives_move rfl rfl) ?_)
  refine TL.end_ (TX.then_ (TC.seq_ (TC.seq_ (TC.region ?_))))
  refine TL.val rfl rfl rfl (gives_move rfl rfl) ?_
  refine TL.vsplit rfl rfl rfl (gives_bin rfl rfl rfl (fun w => bin_neq w)) (fun h62 => ?_) (fun h62 => ?_)
  ·have q62 := of_decide_eq_true h62
   have hx : ¬ (chkR (rdR l) = 0 ∧ encO (rdR l) = l) := fun hh => q62 hh.1
   iterate 6 (first | refine TL.off rfl rfl rfl rfl rfl rfl ?_ | refine TL.val rfl rfl rfl (gives_move rfl rfl) ?_ | refine TL.val rfl rfl rfl (gives_pick rfl rfl rfl) ?_)
   refine TL.end_ (TX.then_ (TC.condT rfl (TC.seq_ (TC.region ?_))))
   refine TL.val rfl rfl rfl (gives_build (v := .agg #[.int .i64 0, .int .i64 0, .int .i64 0, .int .i64 0, .int .u32 0, .int .i64 0, .int .i64 0, .int .i64 0, .bool false, .bool false, .int .i64 0, .int .u32 0, .int .i64 0, .int .i64 0, .int .i64 0, .int .i64 0, .int .i64 0]) rfl rfl (fun w => jdecbld27_532  w)) ?_
   refine TL.pstore (k := 2) (vs := [.int .i64 0, .int .i64 0, .int .i64 0, .int .i64 0, .int .u32 0, .int .i64 0, .int .i64 0, .int .i64 0, .bool false, .bool false, .int .i64 0, .int .u32 0, .int .i64 0, .int .i64 0, .int .i64 0, .int .i64 0, .int .i64 0]) rfl rfl rfl rfl rfl rfl rfl jdecsz27 jdecone_i64i64i64i64u32i64i64i64bbi64u32i64i64i64i64i64 (by show 17 ≤ 17; decide) (L' := [.row (.slice A58 ((encO (rdR l)).length) c58) 5 1 ((encO (rdR l)).length) (bv (encO (rdR l))), .blk g4 27 (rdR l).cells, .blk g2 27 [.int .i64 0, .int .i64 0, .int .i64 0, .int .i64 0, .int .u32 0, .int .i64 0, .int .i64 0, .int .i64 0, .bool false, .bool false, .int .i64 0, .int .u32 0, .int .i64 0, .int .i64 0, .int .i64 0, .int .i64 0, .int .i64 0]]) rfl ?_
   refine TL.val rfl rfl rfl (gives_assign rfl rfl) ?_
   refine TL.end_ (TX.then_ (TC.ret_ (TX.then_ret ?_)))
   exact ret_cell2 (k := 2) (v := .int .i64 2) Tryd.results19 rfl rfl rfl Tryd.underlying27 rfl rfl (fun w1 hw => ⟨by rw [(dec_form (by omega) hx).1, (dec_form (by omega) hx).2]; rfl, hw.bel⟩)
  ·have q62 := of_decide_eq_false h62
   have hz : chkR (rdR l) = 0 := Decidable.not_not.1 q62
   iterate 6 (first | refine TL.on rfl rfl rfl ?_ | refine TL.val rfl rfl rfl (gives_move rfl rfl) ?_)
   refine TL.callsplit rfl rfl rfl rfl rfl Tryd.func16 jdecnm16 jdecbd16 (fun w1 hw => (requal_any A58 (some ⟨b0, o, none⟩) (encO (rdR l)).length c58 n c (encO (rdR l)) l w1 w1.heap.size (byt_own (hw.at_ (k := 0) rfl) (encO_bs _)) ((hb.below hw.bel).more hw.bel.size) (by rw [encO_len]; split <;> omega) (by omega)).mono fun e w2 ⟨h1, q, h2⟩ => ⟨h1, h2 ▸ drewN_below q⟩) (fun h66 => ?_) (fun h66 => ?_)
   ·have hx : chkR (rdR l) = 0 ∧ encO (rdR l) = l := ⟨hz, of_decide_eq_true h66⟩
    refine TL.on rfl rfl rfl ?_
    refine TL.val rfl rfl rfl (gives_boolnot rfl rfl) ?_
    refine TL.val rfl rfl rfl (gives_pick rfl rfl rfl) ?_
    refine TL.end_ (TX.then_ (TC.condF rfl (TC.skip_ (TX.then_ (TC.seq_ (TC.region ?_))))))
    refine TL.val rfl rfl rfl (pm_loadV (k := 1) (i := 0) (n := 17) (v := .agg ((rdR l).cells).toArray) rfl rfl jdecag27 jdecsz27 rfl (by show 17 ≤ 17; decide) rfl) ?_
    refine TL.pstore (k := 2) (vs := (rdR l).cells) rfl rfl rfl rfl rfl rfl rfl jdecsz27 jdecone_i64i64i64i64u32i64i64i64bbi64u32i64i64i64i64i64 (by show 17 ≤ 17; decide) (L' := [.row (.slice A58 ((encO (rdR l)).length) c58) 5 1 ((encO (rdR l)).length) (bv (encO (rdR l))), .blk g4 27 (rdR l).cells, .blk g2 27 (rdR l).cells]) rfl ?_
    refine TL.val rfl rfl rfl (gives_assign rfl rfl) ?_
    refine TL.end_ (TX.then_ (TC.ret_ ?_))
    exact ret_cell2 (k := 2) (v := .int .i64 0) Tryd.results19 rfl rfl rfl Tryd.underlying27 rfl rfl (fun w1 hw => ⟨by rw [(dec_ok (by omega) hx.1 hx.2).1, (dec_ok (by omega) hx.1 hx.2).2], hw.bel⟩)
   ·have hx : ¬ (chkR (rdR l) = 0 ∧ encO (rdR l) = l) := fun hh => absurd hh.2 (of_decide_eq_false h66)
    refine TL.on rfl rfl rfl ?_
    refine TL.val rfl rfl rfl (gives_boolnot rfl rfl) ?_
    refine TL.val rfl rfl rfl (gives_pick rfl rfl rfl) ?_
    refine TL.end_ (TX.then_ (TC.condT rfl (TC.seq_ (TC.region ?_))))
    refine TL.val rfl rfl rfl (gives_build (v := .agg #[.int .i64 0, .int .i64 0, .int .i64 0, .int .i64 0, .int .u32 0, .int .i64 0, .int .i64 0, .int .i64 0, .bool false, .bool false, .int .i64 0, .int .u32 0, .int .i64 0, .int .i64 0, .int .i64 0, .int .i64 0, .int .i64 0]) rfl rfl (fun w => jdecbld27_532  w)) ?_
    refine TL.pstore (k := 2) (vs := [.int .i64 0, .int .i64 0, .int .i64 0, .int .i64 0, .int .u32 0, .int .i64 0, .int .i64 0, .int .i64 0, .bool false, .bool false, .int .i64 0, .int .u32 0, .int .i64 0, .int .i64 0, .int .i64 0, .int .i64 0, .int .i64 0]) rfl rfl rfl rfl rfl rfl rfl jdecsz27 jdecone_i64i64i64i64u32i64i64i64bbi64u32i64i64i64i64i64 (by show 17 ≤ 17; decide) (L' := [.row (.slice A58 ((encO (rdR l)).length) c58) 5 1 ((encO (rdR l)).length) (bv (encO (rdR l))), .blk g4 27 (rdR l).cells, .blk g2 27 [.int .i64 0, .int .i64 0, .int .i64 0, .int .i64 0, .int .u32 0, .int .i64 0, .int .i64 0, .int .i64 0, .bool false, .bool false, .int .i64 0, .int .u32 0, .int .i64 0, .int .i64 0, .int .i64 0, .int .i64 0, .int .i64 0]]) rfl ?_
    refine TL.val rfl rfl rfl (gives_assign rfl rfl) ?_
    refine TL.end_ (TX.then_ (TC.ret_ (TX.then_ret ?_)))
    exact ret_cell2 (k := 2) (v := .int .i64 2) Tryd.results19 rfl rfl rfl Tryd.underlying27 rfl rfl (fun w1 hw => ⟨by rw [(dec_form (by omega) hx).1, (dec_form (by omega) hx).2]; rfl, hw.bel⟩)
end Go.Proofs.YtmeaeeehnkcblaaDoor

namespace Go.Proofs.YtmeaeeehnkcblaaDoor
open Go.RowKit
set_option linter.unusedVariables false
set_option linter.unusedSimpArgs false
set_option maxRecDepth 20000
def macKey (k : List Int) : List Int := if k.length > 64 then shaF k else k
theorem macKey_le (k : List Int) : (macKey k).length ≤ 64 := by
  unfold macKey; split
  · rw [shaF_len]; omega
  · omega
theorem macKey_bs (k : List Int) (h : Bs k) : Bs (macKey k) := by
  unfold macKey; split
  · exact shaF_bs k
  · exact h
def padK (k : List Int) : List Int := k ++ List.replicate (64 - k.length) 0
theorem padK_len (k : List Int) (h : k.length ≤ 64) : (padK k).length = 64 := by simp [padK]; omega
theorem padK_at (k : List Int) {i : Nat} {y : Int} (h : k[i]? = some y) : (padK k).getD i 0 = y := by
  have hlt := (List.getElem?_eq_some_iff.1 h).1
  simp [padK, List.getD_eq_getElem?_getD, List.getElem?_append_left hlt, h]
theorem padK_out (k : List Int) {i : Nat} (h : k.length ≤ i) : (padK k).getD i 0 = 0 := by
  simp only [padK, List.getD_eq_getElem?_getD, List.getElem?_append_right h, List.getElem?_replicate]
  split <;> rfl
theorem padK_bs (k : List Int) (h : Bs k) : Bs (padK k) := by
  refine h.app fun x hx => ?_
  have := (List.mem_replicate.1 hx).2
  omega
def xorL (k : List Int) (c : Int) : List Int := k.map fun x => bits .xor .u8 x c
theorem xorL_len (k : List Int) (c : Int) : (xorL k c).length = k.length := by simp [xorL]
theorem xorL_bs (k : List Int) (c : Int) : Bs (xorL k c) := by
  intro x hx
  simp only [xorL, List.mem_map] at hx
  obtain ⟨y, _, rfl⟩ := hx
  unfold bits
  simp only [IntKind.wrap_u8]
  omega
theorem xorL_at (k : List Int) (c : Int) {i : Nat} (h : i < k.length) : (xorL k c)[i]? = some (bits .xor .u8 (k.getD i 0) c) := by
  simp [xorL, List.getElem?_map, List.getElem?_eq_getElem h, List.getD_eq_getElem?_getD]
def macF (k d : List Int) : List Int := shaF (xorL (padK (macKey k)) 92 ++ shaF (xorL (padK (macKey k)) 54 ++ d))
theorem macF_len (k d : List Int) : (macF k d).length = 32 := shaF_len _
theorem macF_bs (k d : List Int) : Bs (macF k d) := shaF_bs _
/-- 64 cells, of which the first i are filled -/
def arr64 (q : List Int) (i : Nat) : List Value := bv (q.take i) ++ List.replicate (64 - i) (.int .u8 0)
theorem arr64_zero (q : List Int) : List.replicate 64 (Value.int .u8 0) = arr64 q 0 := by simp [arr64, bv]
theorem arr64_len (q : List Int) (hq : q.length = 64) {i : Nat} (h : i ≤ 64) : (arr64 q i).length = 64 := by simp [arr64, bv]; omega
theorem arr64_all (q : List Int) (hq : q.length = 64) : arr64 q 64 = bv q := by simp [arr64, List.take_of_length_le (Nat.le_of_eq hq)]
theorem arr64_put (q : List Int) (hq : q.length = 64) {i : Nat} {x : Int} (h : q[i]? = some x) : (arr64 q i).take (0 + i) ++ [Value.int .u8 x] ++ (arr64 q i).drop (0 + i + 1) = arr64 q (i + 1) := by
  have hlt : i < 64 := by rw [← hq]; exact (List.getElem?_eq_some_iff.1 h).1
  have hl : (bv (q.take i)).length = i := by simp [bv]; omega
  unfold arr64
  rw [Nat.zero_add, List.take_append_of_le_length (by omega), List.take_of_length_le (by omega), List.drop_append, List.drop_of_length_le (by omega), hl, List.drop_replicate, List.take_add_one, h]
  simp only [List.nil_append, bv, List.map_append, Option.toList_some, List.map_cons, List.map_nil]
  rw [show 64 - i - (i + 1 - i) = 64 - (i + 1) by omega]
end Go.Proofs.YtmeaeeehnkcblaaDoor

namespace Go.Proofs.YtmeaeeehnkcblaaDoor
open Go.RowKit
set_option linter.unusedVariables false
set_option linter.unusedSimpArgs false
/-- where the cells of a slice that is not empty lie -/
theorem Reads.ad {w : World} {B size n : Nat} {A : Option Addr} {xs : List Value} (h : Reads w B size A n xs) (hn : 0 < n) (hs : 0 < size) : ∃ b o, A = some ⟨b, o, none⟩ ∧ b < B ∧ ∀ (j : Nat) (u : Value), xs[j]? = some u → w.cell? ⟨b, o + j, none⟩ = some u := by
  obtain ⟨⟨b, o, sp⟩, hA, hb, hc⟩ := h.2 hn
  have hl : 0 < xs.length := by rw [h.1]; exact Nat.mul_pos hn hs
  have hsp : sp = none := by
    have := hc 0 xs[0] (List.getElem?_eq_getElem hl)
    simpa [Addr.add] using World.cell?_spot this
  subst hsp
  refine ⟨b, o, hA, hb, fun j u hu => ?_⟩
  have e : (⟨b, o, none⟩ : Addr).add j = ⟨b, o + j, none⟩ := by unfold Addr.add; split <;> simp_all
  rw [← e]
  exact hc j u hu
section
variable {P : Program} {N : Fr} {Q : Exit → Act → World → Prop} {E : Env} {w0 : Base} {L : List Pc} {ops : Array Oper} {l : List Oper} {o : Oper} {I : World → Prop}
theorem at_el {t e : TypeId} {size : Nat} (ht : P.underlying t = some (.slice e)) (hs : ∀ w : World, (sizeOf e).run P w = .ok size w) {A : Option Addr} {b off : Nat} (hA : A = some ⟨b, off, none⟩) (n c i : Nat) (hi : i < n) {z : Int} (hz : z = (i : Int)) (w : World) :
    (Instr.indexAt t (.slice A n c) (.int .i64 z)).run P w = .ok (.pointer (some ⟨b, off + i * size, none⟩)) w := by
  subst hA hz
  have h1 : (0 : Int) ≤ (i : Int) ∧ (i : Int) < n := by omega
  have hadd : (⟨b, off, none⟩ : Addr).add (i * size) = ⟨b, off + i * size, none⟩ := by unfold Addr.add; split <;> simp_all
  simp [Instr.indexAt, run_underlying ht, asIntOf, hs, h1, hadd, go_sem]
  try (intro hh; exact absurd hh (by omega))
theorem append_types {t u e e' : TypeId} (ht : P.underlying t = some (.slice e)) (hu : P.underlying u = some (.slice e')) (ty : TypeId) (vs : Array Value) (w : World) : (Builtin.append_ #[t, u] ty vs).run P w = (Builtin.append_ #[t, t] ty vs).run P w := by
  unfold Builtin.append_
  cases h0 : vs[0]? with
  | none => simp [h0]
  | some s =>
    cases h1 : vs[1]? with
    | none => simp [h0, h1]
    | some x =>
      cases s <;> simp [h0, h1, Sem.run_bind, run_underlying ht, run_underlying hu]
/-- append to row number k; what comes of it, by a name -/
theorem TL.appendT {d k : Nat} {s x : Operand} {t u e e' : TypeId} {size bytes n c m cc : Nat} {A0 A : Option Addr} {olds news : List Value} (hg : o.guard = none) (hd : o.dst = some d) (hN : Nat.blt d N.n = true)
    (ho : o.op = .call { callee := .builtin .append, args := #[s, x], argTypes := #[t, u] }) (hu : P.underlying u = some (.slice e')) (hE : Elem P t e size bytes) (hs : ev E s = some (.slice A0 n c)) (hx : ev E x = some (.slice A m cc))
    (hk : L[k]? = some (.row (.slice A0 n c) e size n olds)) (hr : ∀ w, Pm w0 L w → ∃ B, Reads w B size A m news) (h1 : ∀ u ∈ news, u.oneCell' = true) (hlim : (n + m) * bytes ≤ 140737488355328) (M : Nat) (hM : M = n + m) (res : List Value) (hres : olds ++ news = res)
    (h : ∀ A' c', M ≤ c' → c' ≤ maxLen → TL P N ops Q l ((d, .slice A' M c') :: E) (Pm w0 (L.set k (.row (.slice A' M c') e size M res)))) : TL P N ops Q (o :: l) E (Pm w0 L) := by
  subst hM hres
  refine TL.run (α := { p : Option Addr × Nat // n + m ≤ p.2 ∧ p.2 ≤ maxLen }) (r := fun p => .slice p.1.1 (n + m) p.1.2) (I' := fun p => Pm w0 (L.set k (.row (.slice p.1.1 (n + m) p.1.2) e size (n + m) (olds ++ news)))) hg hd hN (fun a w ha hw => ?_) (fun p => h p.1.1 p.1.2 p.2.1 p.2.2)
  obtain ⟨i, z, hi, hz, hsz, hby, hzs⟩ := hE.info
  obtain ⟨B, hrd⟩ := hr w hw
  have hmx : n + m ≤ maxLen := by
    have : n + m ≤ (n + m) * bytes := Nat.le_mul_of_pos_right _ hE.big
    unfold maxLen; omega
  obtain ⟨v', w', hrun, hown', hgr, hkey⟩ := run_append_any (P := P) w w0.b t o.type e i z size bytes hE.und hi hz hsz hby hzs hE.pos _ n olds (hw.at_ hk) B A m cc news hrd h1 hmx hlim hw.base
  rw [← append_types hE.und hu] at hrun
  obtain ⟨A', c', rfl, hc1, hc2⟩ := own_shape hown'
  refine ⟨⟨(A', c'), hc1, hc2⟩, w', ?_, hw.turn hk hgr hown' (fun g hg => ?_) (fun k o e => ?_)⟩
  · unfold execOp; rw [ho]
    simp only [resolve, invoke, builtin, Sem.run_bind, Sem.run_pure, Result.andThen_ok, List.map_toArray, List.map_cons, List.map_nil, ha.eval hs, ha.eval hx, hrun]
  · rcases hkey with hkey | hkey
    · exact .inl (hkey.symm.trans hg)
    · right
      have : (Value.slice A' (n + m) c').ownBlock = some g := hg
      rw [hkey] at this
      injection this with this
      omega
  · cases e
/-! guards in a quiet drawn region -/
theorem TQ.on {R : Act → Prop} {j d : Nat} {b : Bool} (hg : o.guard = some (j, b)) (hd : (ops[j]?).bind (·.dst) = some d) (hE : look E d = some (.bool b)) (h : TQ P N ops R ({ o with guard := none } :: l) E I) : TQ P N ops R (o :: l) E I := fun a ha => by
  have hw1 := wanted_of ha hg hd hE
  have := h a ha
  unfold wpQuiet at this ⊢
  rw [if_pos (by simp [Region.wanted])] at this
  rw [if_pos (by simp [hw1])]
  exact this
theorem TQ.off {R : Act → Prop} {j d t : Nat} {b b' : Bool} (hg : o.guard = some (j, b')) (hd : (ops[j]?).bind (·.dst) = some d) (hE : look E d = some (.bool b)) (hne : (b == b') = false) (ht : o.dst = some t) (hN : Nat.blt t N.n = true) (h : TQ P N ops R l ((t, undef) :: E) I) : TQ P N ops R (o :: l) E I := fun a ha => by
  have hw1 := wanted_of ha hg hd hE
  unfold wpQuiet
  rw [if_neg (by rw [hw1, hne]; decide), ht]
  exact h _ (ha.put t undef (by simpa [Nat.blt_eq] using hN))
theorem TQ.offU {R : Act → Prop} {j d t : Nat} {b' : Bool} (hg : o.guard = some (j, b')) (hd : (ops[j]?).bind (·.dst) = some d) (hE : look E d = some undef) (ht : o.dst = some t) (hN : Nat.blt t N.n = true) (h : TQ P N ops R l ((t, undef) :: E) I) : TQ P N ops R (o :: l) E I := fun a ha => by
  have h1 : yielded ops a.tmps j = none := by
    have := ha.slot d _ hE
    simp [yielded, hd, this, undef]
  have hw1 : Region.wanted o (yielded ops a.tmps) = false := by
    unfold Region.wanted
    rw [hg]
    simp [h1]
  unfold wpQuiet
  rw [if_neg (by rw [hw1]; decide), ht]
  exact h _ (ha.put t undef (by simpa [Nat.blt_eq] using hN))
/-- a struct that is read -/
theorem gives_loadR {t : TypeId} {x : Operand} {b off size : Nat} {cs : List Value} (ho : o.op = .load t x) (hx : ev E x = some (.pointer (some ⟨b, off, none⟩))) (hag : ∀ w : World, (isAgg t).run P w = .ok true w) (hs : ∀ w : World, (sizeOf t).run P w = .ok size w) (hlen : cs.length = size)
    (hc : ∀ w, I w → ∀ (j : Nat) (u : Value), cs[j]? = some u → w.cell? ⟨b, off + j, none⟩ = some u) : Gives P N o E I (.agg cs.toArray) := fun a w ha hw => by
  unfold execOp; rw [ho]
  simp only [ha.eval hx]
  have hl := run_loadCells_list (P := P) w ⟨b, off, none⟩ cs (fun j v hj => by
    have hadd : (⟨b, off, none⟩ : Addr).add j = ⟨b, off + j, none⟩ := by unfold Addr.add; split <;> simp_all
    rw [hadd]
    exact hc w hw j v hj)
  rw [hlen] at hl
  simp only [Instr.loadAt, Instr.sureAddr, Sem.run_bind, Sem.run_pure, Result.andThen_ok, loadVar, hag, hs, hl, if_true]
end
end Go.Proofs.YtmeaeeehnkcblaaDoor

namespace Go.Proofs.YtmeaeeehnkcblaaDoor
open Go.RowKit
set_option linter.unusedVariables false
set_option linter.unusedSimpArgs false
set_option maxRecDepth 20000
def zeroL (m : Nat) : List Int := List.replicate m 0
theorem zeroL_bs (m : Nat) : Bs (zeroL m) := by
 intro x hx
 have := (List.mem_replicate.1 hx).2
 omega
theorem zeroCells1 (v : Value) (hv : v.cells = #[v]) (m : Nat) : (Builtin.zeroCells v.cells m).toList = List.replicate m v := by
 rw [hv]
 simp only [Builtin.zeroCells, List.size_toArray, List.length_singleton, Nat.mul_one, Array.toList_map, Array.toList_range]
 refine List.ext_getElem (by simp) fun i h1 h2 => ?_
 simp [Nat.mod_one]
theorem zero_cells (m : Nat) : (Builtin.zeroCells (Value.int .u8 0).cells m).toList = bv (zeroL m) := by
 rw [zeroCells1 _ rfl]; simp [bv, zeroL]
theorem zero_one : ∀ k, ∀ u ∈ (Builtin.zeroCells (Value.int .u8 0).cells k).toList, u.oneCell' = true := by
 intro k u hu
 rw [zeroCells1 _ rfl] at hu
 rw [(List.mem_replicate.1 hu).2]; rfl
theorem bv_append (a b : List Int) : bv (a ++ b) = bv a ++ bv b := by simp [bv]
/-- a slice of bytes, and what it reads as -/
structure Sl where
 A : Option Addr
 n : Nat
 c : Nat
 l : List Int
abbrev Sl.val (s : Sl) : Value := .slice s.A s.n s.c
def sumN (ss : List Sl) (k : Nat) : Nat := ((ss.take k).map (·.n)).sum
def catL (ss : List Sl) (k : Nat) : List Int := (ss.take k).flatMap (·.l)
theorem sumN_succ {ss : List Sl} {i : Nat} {s : Sl} (h : ss[i]? = some s) : sumN ss (i + 1) = sumN ss i + s.n := by
 unfold sumN; rw [List.take_add_one, h]; simp
theorem catL_succ {ss : List Sl} {i : Nat} {s : Sl} (h : ss[i]? = some s) : catL ss (i + 1) = catL ss i ++ s.l := by
 unfold catL; rw [List.take_add_one, h]; simp
theorem sumN_le (ss : List Sl) (i : Nat) : sumN ss i ≤ sumN ss ss.length := by
 have h : ss.map (·.n) = (ss.take i).map (·.n) ++ (ss.drop i).map (·.n) := by rw [← List.map_append, List.take_append_drop]
 unfold sumN
 rw [List.take_length, h, List.sum_append]
 omega
theorem concat_at {w : World} {B g K : Nat} {ss : List Sl} (hs : Reads w B 1 (some ⟨g, 0, none⟩) K (ss.map Sl.val)) (hb : ∀ s ∈ ss, Byt w B s.A s.n s.l) {i : Nat} (hi : i < K) :
  ∃ s, ss[i]? = some s ∧ w.cell? ⟨g, 0 + i, none⟩ = some s.val ∧ g < B ∧ Byt w B s.A s.n s.l := by
 have hlen : ss.length = K := by have := hs.1; simpa using this
 obtain ⟨ad, hA, hg, hc⟩ := hs.2 (by omega)
 cases hA
 refine ⟨ss[i], List.getElem?_eq_getElem (by omega), ?_, hg, hb _ (List.getElem_mem _)⟩
 have := hc i (ss[i]).val (by rw [List.getElem?_map, List.getElem?_eq_getElem (by omega)]; rfl)
 rw [← this]
 congr 1
 unfold Addr.add; split <;> simp_all
theorem at_s60 (g off n c j : Nat) (hj : j < n) (w : World) : (Instr.indexAt 40 (.slice (some ⟨g, off, none⟩) n c) (.int .i64 (j : Int))).run Tryd.prog w = .ok (.pointer (some ⟨g, off + j, none⟩)) w := by
 have hs : ∀ w : World, (sizeOf 28).run Tryd.prog w = .ok 1 w := fun w => rfl
 have h1 : (0 : Int) ≤ (j : Int) ∧ (j : Int) < n := by omega
 have hadd : (⟨g, off, none⟩ : Addr).add j = ⟨g, off + j, none⟩ := by unfold Addr.add; split <;> simp_all
 simp [Instr.indexAt, run_underlying Tryd.underlying40, asIntOf, hs, h1, hadd, go_sem]
 try (intro hh; exact absurd hh (by omega))
theorem nmGrow : (Tryd.f73.name == "runtime.NumGoroutine") = false := by decide
theorem bdGrow : Tryd.f73.body.isNone = false := rfl
theorem grow_nil (n : Nat) (w : World) (hlim : n ≤ 140737488355328) :
  Calls Tryd.prog 73 #[.slice none 0 0, .int .i64 (n : Int)] w fun e w' => ∃ A c, e = .returned (.slice A 0 c) ∧ n ≤ c ∧ c ≤ maxLen ∧ w'.ownsRow w.heap.size 5 1 (.slice A 0 c) 0 [] ∧ Below w.heap.size w w' := by
 refine begin_ (vs := [.slice none 0 0, .int .i64 (n : Int)]) Tryd.func73 rfl rfl rfl ?_ (Pm.start w)
 refine TC.seq_ (TC.region ?_)
 refine TL.val rfl rfl rfl (gives_assign rfl rfl) ?_
 refine TL.end_ (TX.then_ (TC.seq_ (TC.seq_ (TC.region ?_))))
 refine TL.val rfl rfl rfl (gives_move rfl rfl) ?_
 refine TL.val rfl rfl rfl (gives_bin rfl rfl rfl (fun w => bin_lss w)) ?_
 refine TL.end_ (TX.then_ ?_)
 refine TC.split rfl (fun hc6 => ?_) (fun hc6 => ?_)
 ·exact absurd (of_decide_eq_true hc6) (by omega)
 ·refine TC.skip_ (TX.then_ (TC.seq_ (TC.seq_ (TC.region ?_))))
  refine TL.val rfl rfl rfl (gives_move rfl rfl) ?_
  refine TL.val rfl rfl rfl (gives_move rfl rfl) ?_
  refine TL.val rfl rfl rfl (gives_cap rfl Tryd.underlying28 rfl) ?_
  refine TL.val rfl rfl rfl (gives_move rfl rfl) ?_
  refine TL.val rfl rfl rfl (gives_len rfl Tryd.underlying28 rfl) ?_
  refine TL.val rfl rfl rfl (gives_bin rfl rfl rfl (fun w => bin_sub_ (r := 0) rfl w)) ?_
  refine TL.val rfl rfl rfl (gives_bin rfl rfl rfl (fun w => bin_sub_ (r := (n : Int)) (by simp only [IntKind.wrap_i64]; omega) w)) ?_
  refine TL.val rfl rfl rfl (gives_assign rfl rfl) ?_
  refine TL.end_ (TX.then_ (TC.seq_ (TC.region ?_)))
  refine TL.val rfl rfl rfl (gives_move rfl rfl) ?_
  refine TL.val rfl rfl rfl (gives_bin rfl rfl rfl (fun w => bin_gtr w)) ?_
  refine TL.end_ (TX.then_ ?_)
  refine TC.split rfl (fun hc16 => ?_) (fun hc16 => ?_)
  ·refine TC.region ?_
   refine TL.val rfl rfl rfl (gives_move rfl rfl) ?_
   refine TL.val rfl rfl rfl (gives_move rfl rfl) ?_
   refine TL.val rfl rfl rfl (gives_cap rfl Tryd.underlying28 rfl) ?_
   refine TL.nilrow 5 1 ?_
   refine TL.rowhead (k := 0) (hi := 0) (xs' := []) rfl rfl rfl rfl rfl rfl Tryd.underlying28 (fun w => rfl) rfl (Nat.le_refl _) (Nat.le_refl _) rfl ?_
   refine TL.val rfl rfl rfl (gives_move rfl rfl) ?_
   refine TL.zeros (k := 0) (m := n) rfl rfl rfl rfl elU8 Tryd.underlying3 rfl rfl rfl (z := .int .u8 0) (by kernel_rfl) (zs := bv (zeroL n)) (zero_cells n) zero_one (by rw [Nat.mul_one]; omega) n (by omega) (fun A2 c2 hA21 hA22 => ?_)
   refine TL.val rfl rfl rfl (gives_move rfl rfl) ?_
   refine TL.val rfl rfl rfl (gives_len rfl Tryd.underlying28 rfl) ?_
   refine TL.rowhead (k := 0) (hi := 0) (xs' := []) rfl rfl rfl rfl rfl rfl Tryd.underlying28 (fun w => rfl) rfl (Nat.zero_le _) hA21 rfl ?_
   refine TL.val rfl rfl rfl (gives_assign rfl rfl) ?_
   refine TL.end_ (TX.then_ (TC.seq_ (TC.region ?_)))
   refine TL.val rfl rfl rfl (gives_move rfl rfl) ?_
   refine TL.val rfl rfl rfl (gives_assign rfl rfl) ?_
   refine TL.end_ (TX.then_ (TC.ret_ ?_))
   exact pm_ret_row (k := 0) Tryd.results73 rfl rfl (fun w1 hown hbel => ⟨A2, c2, rfl, hA21, hA22, hown, hbel⟩)
  ·have hn0 : n = 0 := by have := of_decide_eq_false hc16; omega
   subst hn0
   refine TC.skip_ (TX.then_ (TC.seq_ (TC.region ?_)))
   refine TL.val rfl rfl rfl (gives_move rfl rfl) ?_
   refine TL.val rfl rfl rfl (gives_assign rfl rfl) ?_
   refine TL.end_ (TX.then_ (TC.ret_ ?_))
   refine TX.nilrow 5 1 ?_
   exact pm_ret_row (k := 0) Tryd.results73 rfl rfl (fun w1 hown hbel => ⟨none, 0, rfl, Nat.le_refl _, Nat.zero_le _, hown, hbel⟩)
theorem concat_any (ss : List Sl) (g K c : Nat) (w : World) (hs : Reads w w.heap.size 1 (some ⟨g, 0, none⟩) K (ss.map Sl.val)) (hb : ∀ s ∈ ss, Byt w w.heap.size s.A s.n s.l) (hlim : sumN ss K ≤ 140737488355328) (hK : K ≤ 1000000) :
  Calls Tryd.prog 58 #[.slice (some ⟨g, 0, none⟩) K c] w fun e w' => ∃ A' c', e = .returned (.slice A' (sumN ss K) c') ∧ sumN ss K ≤ c' ∧ c' ≤ maxLen ∧ w'.ownsRow w.heap.size 5 1 (.slice A' (sumN ss K) c') (sumN ss K) (bv (catL ss K)) ∧ Below w.heap.size w w' := by
 have hlen : ss.length = K := by have := hs.1; simpa using this
 have hle0 := sumN_le ss K
 have hall : ∀ i, sumN ss i ≤ sumN ss K := fun i => hlen ▸ sumN_le ss i
 refine begin_ (vs := [.slice (some ⟨g, 0, none⟩) K c]) Tryd.func58 rfl rfl rfl ?_ (Pm.start w)
 refine TC.seq_ (TC.region ?_)
 refine TL.val rfl rfl rfl (gives_assign rfl rfl) ?_
 refine TL.end_ (TX.then_ (TC.seq_ (TC.region ?_)))
 refine TL.val rfl rfl rfl (gives_assign rfl rfl) ?_
 refine TL.end_ (TX.then_ (TC.seq_ (TC.seq_ (TC.region ?_))))
 refine TL.val rfl rfl rfl (gives_move rfl rfl) ?_
 refine TL.val rfl rfl rfl (gives_len rfl Tryd.underlying40 rfl) ?_
 refine TL.val rfl rfl rfl (gives_move rfl rfl) ?_
 refine TL.end_ (TX.then_ (TC.block ?_))
 refine TC.loop_ (α := {i : Nat // i ≤ K}) (fun x => [(0, .slice (some ⟨g, 0, none⟩) K c), (9, .slice (some ⟨g, 0, none⟩) K c), (10, .int .i64 (K : Int)), (11, .int .i64 (x.1 : Int)), (3, .int .i64 ((sumN ss x.1 : Nat) : Int))]) (fun x => Pm w []) (fun x => K - x.1) (⟨0, Nat.zero_le _⟩) ⟨rfl, rfl, rfl, rfl, rfl, trivial⟩ (fun w hw => hw) ?_
 rintro ⟨i, hi⟩
 dsimp only at hi ⊢
 refine TC.seq_ (TC.region ?_)
 refine TL.val rfl rfl rfl (gives_bin rfl rfl rfl (fun w => bin_lss w)) ?_
 refine TL.end_ (TX.then_ (TC.seq_ ?_))
 refine TC.split rfl (fun hc12 => ?_) (fun hc12 => ?_)
 ·have hi2 : i < K := by have := of_decide_eq_true hc12; omega
  obtain ⟨⟨sA, sn, sc, sl⟩, hsi, hcell, hg, hbs⟩ := concat_at hs hb hi2
  have hsum := sumN_succ hsi
  dsimp only [Sl.val] at hcell hbs hsum
  have hle := hall (i + 1)
  refine TC.skip_ (TX.then_ (TC.seq_ (TC.block (TC.seq_ (TC.region ?_)))))
  refine TL.val rfl rfl rfl (gives_at rfl rfl rfl (fun w => at_s60 g 0 K c i hi2 w)) ?_
  refine TL.val rfl rfl rfl (gives_load rfl rfl (fun w => rfl) (fun w1 hw => (hw.bel.cell (p := ⟨g, 0 + i, none⟩) hg).trans hcell)) ?_
  refine TL.val rfl rfl rfl (gives_assign rfl rfl) ?_
  refine TL.end_ (TX.then_ (TC.seq_ (TC.region ?_)))
  refine TL.val rfl rfl rfl (gives_move rfl rfl) ?_
  refine TL.val rfl rfl rfl (gives_move rfl rfl) ?_
  refine TL.val rfl rfl rfl (gives_len rfl Tryd.underlying28 rfl) ?_
  refine TL.val rfl rfl rfl (gives_bin rfl rfl rfl (fun w => bin_add_ (r := ((sumN ss (i + 1) : Nat) : Int)) (by rw [hsum]; simp only [IntKind.wrap_i64]; omega) w)) ?_
  refine TL.val rfl rfl rfl (gives_assign rfl rfl) ?_
  refine TL.end_ (TX.then_ (TC.seq_ (TC.region ?_)))
  refine TL.val rfl rfl rfl (gives_move rfl rfl) ?_
  refine TL.val rfl rfl rfl (gives_bin rfl rfl rfl (fun w => bin_lss w)) ?_
  refine TL.end_ (TX.then_ ?_)
  refine TC.split rfl (fun hc20 => ?_) (fun hc20 => ?_)
  ·exact absurd (of_decide_eq_true hc20) (by omega)
  ·refine TC.skip_ (TX.in_normal (TX.then_ (TC.region ?_)))
   refine TL.val rfl rfl rfl (gives_bin rfl rfl rfl (fun w => bin_add_ (r := ((i + 1 : Nat) : Int)) (by simp only [IntKind.wrap_i64]; omega) w)) ?_
   refine TL.val rfl rfl rfl (gives_move rfl rfl) ?_
   refine TL.end_ ?_
   exact TX.round (⟨i + 1, hi2⟩) (by show K - (i + 1) < K - i; omega) ⟨rfl, rfl, rfl, rfl, rfl, trivial⟩ (fun w hw => hw)
 ·have hi2 : K = i := by have := of_decide_eq_false hc12; omega
  subst hi2
  refine TC.exit_ (TX.then_exit (TX.then_exit (TX.in_same (TX.then_ (TC.seq_ (TC.region ?_))))))
  refine TL.val rfl rfl rfl (gives_move rfl rfl) ?_
  refine TL.pcallRow (n := 0) (ys := []) rfl rfl rfl rfl rfl Tryd.func73 nmGrow bdGrow (fun w1 hw => (grow_nil (sumN ss K) w1 (by omega)).mono fun e w2 ⟨A1, c1, h1, h2, h3, h4, h5⟩ => ⟨A1, c1, h1, Nat.zero_le _, h3, h4, h5⟩) (fun A1 c1 hA11 hA12 => ?_)
  refine TL.val rfl rfl rfl (gives_assign rfl rfl) ?_
  refine TL.end_ (TX.then_ (TC.seq_ (TC.seq_ (TC.region ?_))))
  refine TL.val rfl rfl rfl (gives_move rfl rfl) ?_
  refine TL.val rfl rfl rfl (gives_len rfl Tryd.underlying40 rfl) ?_
  refine TL.val rfl rfl rfl (gives_move rfl rfl) ?_
  refine TL.end_ (TX.then_ (TC.block ?_))
  refine TC.loop_ (α := {x : Nat × Option Addr × Nat // x.1 ≤ K ∧ sumN ss x.1 ≤ x.2.2 ∧ x.2.2 ≤ maxLen}) (fun x => [(25, .slice (some ⟨g, 0, none⟩) K c), (26, .int .i64 (K : Int)), (27, .int .i64 (x.1.1 : Int)), (6, .slice x.1.2.1 (sumN ss x.1.1) x.1.2.2)]) (fun x => Pm w [.row (.slice x.1.2.1 (sumN ss x.1.1) x.1.2.2) 5 1 (sumN ss x.1.1) (bv (catL ss x.1.1))]) (fun x => K - x.1.1) (⟨(0, A1, c1), Nat.zero_le _, Nat.zero_le _, hA12⟩) ⟨rfl, rfl, rfl, rfl, trivial⟩ (fun w hw => hw) ?_
  rintro ⟨⟨i, A2, c2⟩, hi, hcc⟩
  dsimp only at hi hcc ⊢
  refine TC.seq_ (TC.region ?_)
  refine TL.val rfl rfl rfl (gives_bin rfl rfl rfl (fun w => bin_lss w)) ?_
  refine TL.end_ (TX.then_ (TC.seq_ ?_))
  refine TC.split rfl (fun hc28 => ?_) (fun hc28 => ?_)
  ·have hi2 : i < K := by have := of_decide_eq_true hc28; omega
   obtain ⟨⟨sA, sn, sc, sl⟩, hsi, hcell, hg, hbs⟩ := concat_at hs hb hi2
   have hsum := sumN_succ hsi
   dsimp only [Sl.val] at hcell hbs hsum
   have hle := hall (i + 1)
   refine TC.skip_ (TX.then_ (TC.seq_ (TC.block (TC.seq_ (TC.region ?_)))))
   refine TL.val rfl rfl rfl (gives_at rfl rfl rfl (fun w => at_s60 g 0 K c i hi2 w)) ?_
   refine TL.val rfl rfl rfl (gives_load rfl rfl (fun w => rfl) (fun w1 hw => (hw.bel.cell (p := ⟨g, 0 + i, none⟩) hg).trans hcell)) ?_
   refine TL.val rfl rfl rfl (gives_assign rfl rfl) ?_
   refine TL.end_ (TX.then_ (TC.region ?_))
   refine TL.val rfl rfl rfl (gives_move rfl rfl) ?_
   refine TL.val rfl rfl rfl (gives_move rfl rfl) ?_
   refine TL.append (k := 0) rfl rfl rfl rfl elU8 rfl rfl rfl (fun w hw => pm_byt hw hbs) (bv_one _) (by rw [Nat.mul_one]; omega) (sumN ss (i + 1)) hsum (fun A3 c3 hA31 hA32 => ?_)
   refine TL.val rfl rfl rfl (gives_assign rfl rfl) ?_
   refine TL.end_ (TX.in_normal (TX.then_ (TC.region ?_)))
   refine TL.val rfl rfl rfl (gives_bin rfl rfl rfl (fun w => bin_add_ (r := ((i + 1 : Nat) : Int)) (by simp only [IntKind.wrap_i64]; omega) w)) ?_
   refine TL.val rfl rfl rfl (gives_move rfl rfl) ?_
   refine TL.end_ ?_
   exact TX.round (⟨(i + 1, A3, c3), hi2, hA31, hA32⟩) (by show K - (i + 1) < K - i; omega) ⟨rfl, rfl, rfl, rfl, trivial⟩ (fun w hw => by rw [catL_succ hsi, bv_append]; exact hw)
  ·have hi2 : K = i := by have := of_decide_eq_false hc28; omega
   subst hi2
   refine TC.exit_ (TX.then_exit (TX.then_exit (TX.in_same (TX.then_ (TC.seq_ (TC.region ?_))))))
   refine TL.val rfl rfl rfl (gives_move rfl rfl) ?_
   refine TL.val rfl rfl rfl (gives_assign rfl rfl) ?_
   refine TL.end_ (TX.then_ (TC.ret_ ?_))
   exact pm_ret_row (k := 0) Tryd.results58 rfl rfl (fun w1 hown hbel => ⟨A2, c2, rfl, hcc.1, hcc.2, hown, hbel⟩)
end Go.Proofs.YtmeaeeehnkcblaaDoor

namespace Go.Proofs.YtmeaeeehnkcblaaDoor
open Go.RowKit
set_option linter.unusedVariables false
set_option linter.unusedSimpArgs false
/-- the cells of results -/
def rcs (rl : List Rs) : List Value := rl.flatMap Rs.cells
theorem rcs_len (rl : List Rs) : (rcs rl).length = rl.length * 17 := by
  induction rl with
  | nil => rfl
  | cons r rl ih => simp only [rcs, List.flatMap_cons, List.length_append] at ih ⊢; rw [ih]; simp only [Rs.cells, List.length_cons, List.length_nil]; omega
theorem rcs_app (a b : List Rs) : rcs (a ++ b) = rcs a ++ rcs b := by simp [rcs]
theorem rcs_ix : ∀ {rl : List Rs} {i : Nat} {r : Rs} (h : rl[i]? = some r) (k : Nat) (hk : k < 17), (rcs rl)[i * 17 + k]? = r.cells[k]?
  | [], _, _, h, _, _ => by cases h
  | x :: rl, 0, r, h, k, hk => by
    obtain rfl : x = r := by simpa using h
    show (x.cells ++ rcs rl)[0 * 17 + k]? = _
    rw [Nat.zero_mul, Nat.zero_add, List.getElem?_append_left (by simpa [Rs.cells] using hk)]
  | x :: rl, i + 1, r, h, k, hk => by
    show (x.cells ++ rcs rl)[(i + 1) * 17 + k]? = _
    rw [List.getElem?_append_right (by simp [Rs.cells]; omega), show (i + 1) * 17 + k - x.cells.length = i * 17 + k by simp [Rs.cells]; omega]
    exact rcs_ix (by simpa using h) k hk
theorem rcs_cell {rl : List Rs} {i : Nat} {r : Rs} (h : rl[i]? = some r) {w : World} {b o : Nat} (hc : ∀ (j : Nat) (u : Value), (rcs rl)[j]? = some u → w.cell? ⟨b, o + j, none⟩ = some u) (j : Nat) (u : Value) (hu : r.cells[j]? = some u) : w.cell? ⟨b, o + i * 17 + j, none⟩ = some u := by
  have hj : j < 17 := by have := (List.getElem?_eq_some_iff.1 hu).1; simpa [Rs.cells] using this
  rw [Nat.add_assoc]
  exact hc _ u (by rw [rcs_ix h j hj]; exact hu)
theorem rs_cells_len (r : Rs) : r.cells.length = 17 := rfl
theorem rcs_one (rl : List Rs) : ∀ u ∈ rcs rl, u.oneCell' = true := by
  intro u hu
  simp only [rcs, List.mem_flatMap] at hu
  obtain ⟨r, _, hu⟩ := hu
  simp only [Rs.cells, List.mem_cons, List.not_mem_nil, or_false] at hu
  rcases hu with rfl | rfl | rfl | rfl | rfl | rfl | rfl | rfl | rfl | rfl | rfl | rfl | rfl | rfl | rfl | rfl | rfl <;> rfl
theorem rs_one (r : Rs) : ∀ u ∈ r.cells, u.oneCell' = true := fun u hu => rcs_one [r] u (by simpa [rcs] using hu)
/-- the bytes of results -/
def encs (rl : List Rs) : List Int := rl.flatMap encO
theorem encs_bs (rl : List Rs) : Bs (encs rl) := by
  intro x hx
  simp only [encs, List.mem_flatMap] at hx
  obtain ⟨r, _, hx⟩ := hx
  exact encO_bs r x hx
theorem encs_succ {rl : List Rs} {i : Nat} {r : Rs} (h : rl[i]? = some r) : encs (rl.take (i + 1)) = encs (rl.take i) ++ encO r := by
  rw [List.take_add_one, h]
  simp [encs]
theorem encs_le (rl : List Rs) : (encs rl).length ≤ rl.length * 37 := by
  induction rl with
  | nil => simp [encs]
  | cons r rl ih =>
    have := encO_len r
    simp only [encs, List.flatMap_cons, List.length_append, List.length_cons] at ih ⊢
    split at this <;> omega
theorem encs_len {rl : List Rs} (h : ∀ r ∈ rl, chkR r = 0) : (encs rl).length = rl.length * 37 := by
  induction rl with
  | nil => simp [encs]
  | cons r rl ih =>
    have h1 := encO_len r
    rw [if_pos (h r List.mem_cons_self)] at h1
    have h2 := ih (fun x hx => h x (List.mem_cons_of_mem _ hx))
    simp only [encs, List.flatMap_cons, List.length_append, List.length_cons] at h2 ⊢
    omega
/-- a segment ahead of its results -/
def segH (v run n m : Int) : List Int := rsj ++ enc v 1 ++ enc run 1 ++ enc n 2 ++ enc m 1
theorem segH_len (v run n m : Int) : (segH v run n m).length = 9 := by simp [segH, rsj, enc_len]
theorem segH_bs (v run n m : Int) : Bs (segH v run n m) := (((rsj_bs.app (enc_bs _ _)).app (enc_bs _ _)).app (enc_bs _ _)).app (enc_bs _ _)
/-- ahead of its code, i of its results -/
def segW (v run n m : Int) (d : List Int) (rl : List Rs) (i : Nat) : List Int := segH v run n m ++ d ++ encs (rl.take i)
theorem segW_bs (v run n m : Int) {d : List Int} (hd : Bs d) (rl : List Rs) (i : Nat) : Bs (segW v run n m d rl i) := ((segH_bs _ _ _ _).app hd).app (encs_bs _)
theorem segW_zero (v run n m : Int) (d : List Int) (rl : List Rs) : segW v run n m d rl 0 = segH v run n m ++ d := by simp [segW, encs]
theorem segW_succ {v run n m : Int} {d : List Int} {rl : List Rs} {i : Nat} {r : Rs} (h : rl[i]? = some r) : segW v run n m d rl (i + 1) = segW v run n m d rl i ++ encO r := by
  unfold segW; rw [encs_succ h]; simp only [List.append_assoc]
theorem segW_le (v run n m : Int) (d : List Int) (rl : List Rs) (i : Nat) : (segW v run n m d rl i).length ≤ 9 + d.length + rl.length * 37 := by
  unfold segW
  rw [List.length_append, List.length_append, segH_len]
  have h1 := encs_le (rl.take i)
  have h2 : (rl.take i).length ≤ rl.length := by rw [List.length_take]; omega
  omega
/-- a segment -/
def segB (v run n : Int) (d : List Int) (rl : List Rs) : List Int := segW v run n rl.length d rl rl.length
def segL (v run n : Int) (d : List Int) (rl : List Rs) (key : List Int) : List Int := segB v run n d rl ++ macF key (segB v run n d rl)
theorem segB_bs (v run n : Int) {d : List Int} (hd : Bs d) (rl : List Rs) : Bs (segB v run n d rl) := segW_bs _ _ _ _ hd _ _
theorem segL_bs (v run n : Int) {d : List Int} (hd : Bs d) (rl : List Rs) (key : List Int) : Bs (segL v run n d rl key) := (segB_bs v run n hd rl).app (macF_bs _ _)
theorem segL_len (v run n : Int) (d : List Int) (rl : List Rs) (key : List Int) : (segL v run n d rl key).length = (segB v run n d rl).length + 32 := by rw [segL, List.length_append, macF_len]
theorem segL_le (v run n : Int) (d : List Int) (rl : List Rs) (key : List Int) : (segL v run n d rl key).length ≤ 41 + d.length + rl.length * 37 := by
  have := segW_le v run n rl.length d rl rl.length
  rw [segL_len]
  unfold segB
  omega
end Go.Proofs.YtmeaeeehnkcblaaDoor

namespace Go.Proofs.YtmeaeeehnkcblaaDoor
open Go.RowKit
set_option linter.unusedVariables false
set_option linter.unusedSimpArgs false
set_option maxRecDepth 20000

/-- block cb holds choices: a slice of bytes that lies below cb, and a place in it -/
def Cod (w : World) (cb : Nat) : Prop :=
  ∃ A m c l k, Blk w cb 69 #[.slice A m c, .int .i64 ((k : Nat) : Int)] ∧ k ≤ m ∧ m ≤ 1000000 ∧ Byt w cb A m l

theorem Cod.lt {w : World} {cb : Nat} (h : Cod w cb) : cb < w.heap.size := by
  obtain ⟨A, m, c, l, k, hb, _⟩ := h
  exact hb.lt
theorem Cod.keep {w w' : World} {cb : Nat} (h : Cod w cb) (hk : ∀ b, b ≤ cb → w'.heap[b]? = w.heap[b]?) : Cod w' cb := by
  obtain ⟨A, m, c, l, k, hb, h1, h2, h3⟩ := h
  exact ⟨A, m, c, l, k, (hk cb (Nat.le_refl _)).trans hb, h1, h2, h3.keep fun p hp => World.cell?_of_block (hk _ (Nat.le_of_lt hp))⟩
theorem Cod.below {w w' : World} {cb B : Nat} (h : Cod w cb) (hb : Below B w w') (hB : cb < B) : Cod w' cb := h.keep fun b hb' => hb.block b (by omega)
theorem Cod.alloc {w : World} {cb : Nat} (h : Cod w cb) (o : Obj) : Cod (w.alloc o) cb := h.keep fun b hb' => Below.heap_alloc w o b (Nat.lt_of_le_of_lt hb' h.lt)
theorem Cod.drewN {w : World} {cb : Nat} (h : Cod w cb) (n : Nat) : Cod (w.drewN n) cb := h

theorem new_any (A : Option Addr) (n c : Nat) (l : List Int) (w : World) (mo : Int) (h : Byt w w.heap.size A n l) (hc : n ≤ c) (hn : (n : Int) ≤ 9223372036854775807) (h0 : 0 ≤ mo) (h1 : mo ≤ 1000000) :
    Calls Tryd.prog 10 #[.slice A n c, .int .i64 mo] w fun e w' => e = .returned (.pointer (some ⟨w.heap.size, 0, none⟩)) ∧ Cod w' w.heap.size ∧ Below w.heap.size w w' ∧ w'.heap.size = w.heap.size + 1 := by
  obtain ⟨mo, rfl⟩ := Int.eq_ofNat_of_zero_le h0
  have key : ∀ (m : Nat), m ≤ 1000000 → m ≤ n → Cod (w.alloc (.cells #[.slice A m c, .int .i64 0] 69)) w.heap.size := fun m hm hmn =>
    ⟨A, m, c, l.take m, 0, Blk.new _ _ _, Nat.zero_le _, hm, (h.head hmn).alloc (Nat.le_refl _) _⟩
  have hb : ∀ o, Below w.heap.size w (w.alloc o) := fun o => (Below.refl _ _).alloc (Nat.le_refl _) o
  by_cases hlt : mo < n
  · have k1 := Lib.hid (key mo (by omega) (by omega))
    clear key
    go_enter Tryd.func10, Tryd.ntmps10
    go_wp2
    go_ret
    exact ⟨rfl, k1.out, hb _, by simp⟩
  · have k1 := Lib.hid (key n (by omega) (by omega))
    clear key
    go_enter Tryd.func10, Tryd.ntmps10
    go_wp2
    go_ret
    exact ⟨rfl, k1.out, hb _, by simp⟩

theorem next_end (cb : Nat) (w : World) (n : Int) (A : Option Addr) (m c : Nat) (k : Nat) (hb : Blk w cb 69 #[.slice A m c, .int .i64 k]) (hk : k ≤ 1000000) (h : m ≤ k ∨ n < 1) :
    Calls Tryd.prog 21 #[.pointer (some ⟨cb, 0, none⟩), .int .i64 n] w fun e w' => e = .returned (.int .i64 0) ∧ ∃ q, w' = w.drewN q := by
  have hc0 := hb.cell 0
  have hc1 := hb.cell 1
  simp at hc0 hc1
  by_cases hm : m ≤ k
  · clear h
    go_enter Tryd.func21, Tryd.ntmps21
    go_wp2
    go_quiet (fail)
    go_wp2
    go_ret
    exact ⟨rfl, _, rfl⟩
  · have h : n < 1 := by omega
    go_enter Tryd.func21, Tryd.ntmps21
    go_wp2
    go_quiet (fail)
    go_wp2
    go_ret
    exact ⟨rfl, _, rfl⟩

theorem next_small (cb : Nat) (w : World) (n : Int) (ad : Addr) (m c : Nat) (k : Nat) (x : Int) (hb : Blk w cb 69 #[.slice (some ad) m c, .int .i64 k]) (hk : k < m) (hm : m ≤ 1000000) (h0 : 1 ≤ n) (h1 : n ≤ 256)
    (hx : w.cell? (ad.add k) = some (.int .u8 x)) (hx0 : 0 ≤ x) (hx1 : x ≤ 255) :
    Calls Tryd.prog 21 #[.pointer (some ⟨cb, 0, none⟩), .int .i64 n] w fun e w' => e = .returned (.int .i64 (x % n)) ∧ ∃ q, w' = (w.drewN q).setCell ⟨cb, 1, none⟩ (.int .i64 ((k + 1 : Nat) : Int)) := by
  have hc0 := hb.cell 0
  have hc1 := hb.cell 1
  have hf0 := hb.frozen 0
  have hf1 := hb.frozen 1
  simp at hc0 hc1
  go_enter Tryd.func21, Tryd.ntmps21
  go_wp2
  go_quiet (fail)
  go_wp2
  go_quiet (fail)
  go_wp2
  go_ret
  exact ⟨rfl, _, rfl⟩

/-- what a choice leaves: block cb alone has turned -/
theorem Cod.moved {w : World} {cb : Nat} {A : Option Addr} {m c k : Nat} {l : List Int} (hb : Blk w cb 69 #[.slice A m c, .int .i64 k]) (hk : k + 1 ≤ m) (hm : m ≤ 1000000) (hl : Byt w cb A m l) (q : Nat) :
    Cod ((w.drewN q).setCell ⟨cb, 1, none⟩ (.int .i64 ((k + 1 : Nat) : Int))) cb ∧ w.grownBy ((w.drewN q).setCell ⟨cb, 1, none⟩ (.int .i64 ((k + 1 : Nat) : Int))) (some cb) := by
  refine ⟨⟨A, m, c, l, k + 1, ?_, hk, hm, ?_⟩, ?_⟩
  · exact (hb.drewN q).set_ 1 _
  · exact (hl.drewN q).keep fun p hp => World.cell?_setCell_other _ _ _ _ (fun e => by subst e; simp at hp)
  · refine ⟨rfl, rfl, rfl, by simp, fun i hi hne => ?_⟩
    exact (Below.heap_setCell (w.drewN q) _ _ i (fun e => hne (by rw [e])))

def Chosen (n : Int) (w : World) (cb : Nat) (e : Ending) (w' : World) : Prop :=
  ∃ x : Int, e = .returned (.int .i64 x) ∧ 0 ≤ x ∧ x ≤ 65535 ∧ (1 ≤ n → x < n) ∧ Cod w' cb ∧ w.grownBy w' (some cb) ∧ w'.heap.size ≤ w.heap.size

theorem next_256 (cb : Nat) (w : World) (n : Int) (h : Cod w cb) (hn : n ≤ 256) :
    Calls Tryd.prog 21 #[.pointer (some ⟨cb, 0, none⟩), .int .i64 n] w (Chosen n w cb) := by
  obtain ⟨A, m, c, l, k, hb, hk, hm, hl⟩ := h
  by_cases hd : m ≤ k ∨ n < 1
  · refine (next_end cb w n A m c k hb (by omega) hd).mono fun e w' ⟨he, q, hw⟩ => ?_
    subst hw
    refine ⟨0, he, by omega, by omega, by omega, ⟨A, m, c, l, k, hb.drewN q, hk, hm, hl.drewN q⟩, ⟨rfl, rfl, rfl, Nat.le_refl _, fun _ _ _ => rfl⟩, Nat.le_refl _⟩
  · have hkm : k < m := by omega
    obtain ⟨ad, x, rfl, _, _, hx0, hx1, hc⟩ := hl.at_ hkm
    refine (next_small cb w n ad m c k x hb hkm hm (by omega) hn hc hx0 hx1).mono fun e w' ⟨he, q, hw⟩ => ?_
    subst hw
    obtain ⟨m1, m2⟩ := Cod.moved hb hkm hm hl q
    have e1 : 0 ≤ x % n := Int.emod_nonneg _ (by omega)
    have e2 : x % n < n := Int.emod_lt_of_pos _ (by omega)
    exact ⟨x % n, he, e1, by omega, fun _ => e2, m1, m2, by simp⟩

theorem next_big (cb : Nat) (w : World) (n : Int) (ad : Addr) (m c : Nat) (k : Nat) (x : Int) (hb : Blk w cb 69 #[.slice (some ad) m c, .int .i64 k]) (hk : k < m) (hm : m ≤ 1000000) (h1 : 256 < n)
    (hx : w.cell? (ad.add k) = some (.int .u8 x)) (hx0 : 0 ≤ x) (hx1 : x ≤ 255) (hC : ∀ q, Cod ((w.drewN q).setCell ⟨cb, 1, none⟩ (.int .i64 ((k + 1 : Nat) : Int))) cb) :
    Calls Tryd.prog 21 #[.pointer (some ⟨cb, 0, none⟩), .int .i64 n] w fun e w' => ∃ y q, e = .returned (.int .i64 ((256 * x + y) % n)) ∧ 0 ≤ y ∧ y ≤ 255 ∧ Cod w' cb ∧ ((w.drewN q).setCell ⟨cb, 1, none⟩ (.int .i64 ((k + 1 : Nat) : Int))).grownBy w' (some cb) ∧ w'.heap.size ≤ w.heap.size := by
  have hc0 := hb.cell 0
  have hc1 := hb.cell 1
  have hf0 := hb.frozen 0
  have hf1 := hb.frozen 1
  simp at hc0 hc1
  have HC := Lib.hid hC
  clear hC
  go_enter Tryd.func21, Tryd.ntmps21
  go_wp2_with fail
  go_quiet (fail)
  go_wp2_with fail
  go_quiet (fail)
  go_wp2_with fail
  refine (next_256 cb _ 256 (HC.out _) (by omega)).mono ?_
  rintro e w' ⟨y, rfl, hy0, _, hy1, hy2, hy3, hy4⟩
  have hy1 := hy1 (by omega)
  go_wp2_with fail
  go_ret
  exact ⟨y, _, rfl, hy0, by omega, hy2, hy3, Nat.le_trans hy4 (by simp)⟩

theorem next_any (cb : Nat) (w : World) (n : Int) (h : Cod w cb) :
    Calls Tryd.prog 21 #[.pointer (some ⟨cb, 0, none⟩), .int .i64 n] w (Chosen n w cb) := by
  by_cases hn : n ≤ 256
  · exact next_256 cb w n h hn
  · obtain ⟨A, m, c, l, k, hb, hk, hm, hl⟩ := h
    by_cases hd : m ≤ k
    · refine (next_end cb w n A m c k hb (by omega) (.inl hd)).mono fun e w' ⟨he, q, hw⟩ => ?_
      subst hw
      refine ⟨0, he, by omega, by omega, by omega, ⟨A, m, c, l, k, hb.drewN q, hk, hm, hl.drewN q⟩, ⟨rfl, rfl, rfl, Nat.le_refl _, fun _ _ _ => rfl⟩, Nat.le_refl _⟩
    · have hkm : k < m := by omega
      obtain ⟨ad, x, rfl, _, _, hx0, hx1, hc⟩ := hl.at_ hkm
      refine (next_big cb w n ad m c k x hb hkm hm (by omega) hc hx0 hx1 (fun q => (Cod.moved hb hkm hm hl q).1)).mono fun e w' ⟨y, q, he, hy0, hy1, hC, hg, hs⟩ => ?_
      have g := (Cod.moved hb hkm hm hl q).2
      have e1 : 0 ≤ (256 * x + y) % n := Int.emod_nonneg _ (by omega)
      have e2 : (256 * x + y) % n < n := Int.emod_lt_of_pos _ (by omega)
      have e3 : (256 * x + y) % n ≤ 65535 := by
        by_cases hlt : 256 * x + y < n
        · rw [Int.emod_eq_of_lt (by omega) hlt]; omega
        · omega
      refine ⟨_, he, e1, e3, fun _ => e2, hC, ⟨hg.os.trans g.os, hg.tape.trans g.tape, hg.output.trans g.output, Nat.le_trans g.size hg.size, fun i hi hne => ?_⟩, hs⟩
      exact (hg.block i (Nat.lt_of_lt_of_le hi g.size) hne).trans (g.block i hi hne)
end Go.Proofs.YtmeaeeehnkcblaaDoor

namespace Go.Proofs.YtmeaeeehnkcblaaDoor
open Go.RowKit
set_option linter.unusedVariables false
set_option linter.unusedSimpArgs false
set_option maxRecDepth 20000

set_option maxRecDepth 10000 in
theorem cut_mid (A : Option Addr) (n c lo : Nat) (a b : Int) (ha : a = lo) (hb : b = ((lo + 4 : Nat) : Int)) (h : lo + 4 ≤ c) (h1 : c ≠ lo) (w : World) : (Instr.sliceAt 28 (.slice A n c) (some (.int .i64 a)) (some (.int .i64 b)) none).run Tryd.prog w = .ok (.slice (A.map (·.add lo)) 4 (c - lo)) w := by
 subst ha hb
 rw [run_sliceAt_slice w 28 _ _ _ _ Tryd.underlying28, run_slice_lh w 28 A n c Tryd.underlying28 .i64 .i64 lo ((lo + 4 : Nat) : Int) (by omega) (by omega) (by omega)]
 have hs : (sizeOf (Tryd.prog.elem 28)).run Tryd.prog w = .ok 1 w := rfl
 have h1 : ((lo + 4 : Nat) : Int).toNat = lo + 4 := rfl
 simp only [hs, Result.andThen, sliced, Int.toNat_natCast, h1]
 rw [if_neg (by omega), Nat.mul_one, Nat.add_sub_cancel_left]
theorem byt_cell_at {w : World} {B b0 o n k : Nat} {l : List Int} (h : Byt w B (some ⟨b0, o, none⟩) n l) (hk : k < n) : ∃ x, l[k]? = some x ∧ 0 ≤ x ∧ x ≤ 255 ∧ w.cell? ⟨b0, o + k, none⟩ = some (.int .u8 x) := by
 obtain ⟨b', o', x, hA, _, h1, h2, h3, h4⟩ := h.at' hk
 injection hA with e
 injection e with e1 e2
 subst e1 e2
 exact ⟨x, h1, h2, h3, h4⟩
theorem be_bd3 (l : List Int) (h : Bs l) (hl : l.length ≤ 3) : 0 ≤ be l ∧ be l ≤ 16777215 := by
 have := be_bd l h
 have h2 : (256 : Int) ^ l.length ≤ 16777216 := by
  rcases (by omega : l.length = 0 ∨ l.length = 1 ∨ l.length = 2 ∨ l.length = 3) with e | e | e | e <;> (rw [e]; decide)
 omega
theorem arrOf_nil : #[.int .u32 0, .int .u32 0, .int .u32 0, .int .u32 0, .int .u32 0, .int .u32 0, .int .u32 0, .int .u32 0, .int .u32 0, .int .u32 0, .int .u32 0, .int .u32 0, .int .u32 0, .int .u32 0, .int .u32 0, .int .u32 0, .int .u32 0, .int .u32 0, .int .u32 0, .int .u32 0, .int .u32 0, .int .u32 0, .int .u32 0, .int .u32 0, .int .u32 0, .int .u32 0, .int .u32 0, .int .u32 0, .int .u32 0, .int .u32 0, .int .u32 0, .int .u32 0, .int .u32 0, .int .u32 0, .int .u32 0, .int .u32 0, .int .u32 0, .int .u32 0, .int .u32 0, .int .u32 0, .int .u32 0, .int .u32 0, .int .u32 0, .int .u32 0, .int .u32 0, .int .u32 0, .int .u32 0, .int .u32 0, .int .u32 0, .int .u32 0, .int .u32 0, .int .u32 0, .int .u32 0, .int .u32 0, .int .u32 0, .int .u32 0, .int .u32 0, .int .u32 0, .int .u32 0, .int .u32 0, .int .u32 0, .int .u32 0, .int .u32 0, .int .u32 0] = arrOf [] := rfl
theorem add_at (b o k : Nat) : (⟨b, o, none⟩ : Addr).add k = ⟨b, o + k, none⟩ := by unfold Addr.add; split <;> simp_all
set_option maxRecDepth 100000 in
set_option maxHeartbeats 4000000 in
theorem words_any (b0 o c : Nat) (b : List Int) (w : World) (hb : Byt w w.heap.size (some ⟨b0, o, none⟩) 64 b) (hc : 64 ≤ c) (hc2 : c ≤ maxLen) :
  Calls Tryd.prog 75 #[.slice (some ⟨b0, o, none⟩) 64 c] w fun e w' => e = .returned (.agg (arrOf (wList b 48))) ∧ Below w.heap.size w w' := by
 unfold maxLen at hc2
 have R0 := (Blk.new w 111 #[.int .u32 0, .int .u32 0, .int .u32 0, .int .u32 0, .int .u32 0, .int .u32 0, .int .u32 0, .int .u32 0, .int .u32 0, .int .u32 0, .int .u32 0, .int .u32 0, .int .u32 0, .int .u32 0, .int .u32 0, .int .u32 0, .int .u32 0, .int .u32 0, .int .u32 0, .int .u32 0, .int .u32 0, .int .u32 0, .int .u32 0, .int .u32 0, .int .u32 0, .int .u32 0, .int .u32 0, .int .u32 0, .int .u32 0, .int .u32 0, .int .u32 0, .int .u32 0, .int .u32 0, .int .u32 0, .int .u32 0, .int .u32 0, .int .u32 0, .int .u32 0, .int .u32 0, .int .u32 0, .int .u32 0, .int .u32 0, .int .u32 0, .int .u32 0, .int .u32 0, .int .u32 0, .int .u32 0, .int .u32 0, .int .u32 0, .int .u32 0, .int .u32 0, .int .u32 0, .int .u32 0, .int .u32 0, .int .u32 0, .int .u32 0, .int .u32 0, .int .u32 0, .int .u32 0, .int .u32 0, .int .u32 0, .int .u32 0, .int .u32 0, .int .u32 0]).alloc (.cells #[.int .u32 0, .int .u32 0, .int .u32 0, .int .u32 0, .int .u32 0, .int .u32 0, .int .u32 0, .int .u32 0, .int .u32 0, .int .u32 0, .int .u32 0, .int .u32 0, .int .u32 0, .int .u32 0, .int .u32 0, .int .u32 0, .int .u32 0, .int .u32 0, .int .u32 0, .int .u32 0, .int .u32 0, .int .u32 0, .int .u32 0, .int .u32 0, .int .u32 0, .int .u32 0, .int .u32 0, .int .u32 0, .int .u32 0, .int .u32 0, .int .u32 0, .int .u32 0, .int .u32 0, .int .u32 0, .int .u32 0, .int .u32 0, .int .u32 0, .int .u32 0, .int .u32 0, .int .u32 0, .int .u32 0, .int .u32 0, .int .u32 0, .int .u32 0, .int .u32 0, .int .u32 0, .int .u32 0, .int .u32 0, .int .u32 0, .int .u32 0, .int .u32 0, .int .u32 0, .int .u32 0, .int .u32 0, .int .u32 0, .int .u32 0, .int .u32 0, .int .u32 0, .int .u32 0, .int .u32 0, .int .u32 0, .int .u32 0, .int .u32 0, .int .u32 0] 111)
 have X0 : Blk ((w.alloc (.cells #[.int .u32 0, .int .u32 0, .int .u32 0, .int .u32 0, .int .u32 0, .int .u32 0, .int .u32 0, .int .u32 0, .int .u32 0, .int .u32 0, .int .u32 0, .int .u32 0, .int .u32 0, .int .u32 0, .int .u32 0, .int .u32 0, .int .u32 0, .int .u32 0, .int .u32 0, .int .u32 0, .int .u32 0, .int .u32 0, .int .u32 0, .int .u32 0, .int .u32 0, .int .u32 0, .int .u32 0, .int .u32 0, .int .u32 0, .int .u32 0, .int .u32 0, .int .u32 0, .int .u32 0, .int .u32 0, .int .u32 0, .int .u32 0, .int .u32 0, .int .u32 0, .int .u32 0, .int .u32 0, .int .u32 0, .int .u32 0, .int .u32 0, .int .u32 0, .int .u32 0, .int .u32 0, .int .u32 0, .int .u32 0, .int .u32 0, .int .u32 0, .int .u32 0, .int .u32 0, .int .u32 0, .int .u32 0, .int .u32 0, .int .u32 0, .int .u32 0, .int .u32 0, .int .u32 0, .int .u32 0, .int .u32 0, .int .u32 0, .int .u32 0, .int .u32 0] 111)).alloc (.cells #[.int .u32 0, .int .u32 0, .int .u32 0, .int .u32 0, .int .u32 0, .int .u32 0, .int .u32 0, .int .u32 0, .int .u32 0, .int .u32 0, .int .u32 0, .int .u32 0, .int .u32 0, .int .u32 0, .int .u32 0, .int .u32 0, .int .u32 0, .int .u32 0, .int .u32 0, .int .u32 0, .int .u32 0, .int .u32 0, .int .u32 0, .int .u32 0, .int .u32 0, .int .u32 0, .int .u32 0, .int .u32 0, .int .u32 0, .int .u32 0, .int .u32 0, .int .u32 0, .int .u32 0, .int .u32 0, .int .u32 0, .int .u32 0, .int .u32 0, .int .u32 0, .int .u32 0, .int .u32 0, .int .u32 0, .int .u32 0, .int .u32 0, .int .u32 0, .int .u32 0, .int .u32 0, .int .u32 0, .int .u32 0, .int .u32 0, .int .u32 0, .int .u32 0, .int .u32 0, .int .u32 0, .int .u32 0, .int .u32 0, .int .u32 0, .int .u32 0, .int .u32 0, .int .u32 0, .int .u32 0, .int .u32 0, .int .u32 0, .int .u32 0, .int .u32 0] 111)) (w.heap.size + 1) 111 #[.int .u32 0, .int .u32 0, .int .u32 0, .int .u32 0, .int .u32 0, .int .u32 0, .int .u32 0, .int .u32 0, .int .u32 0, .int .u32 0, .int .u32 0, .int .u32 0, .int .u32 0, .int .u32 0, .int .u32 0, .int .u32 0, .int .u32 0, .int .u32 0, .int .u32 0, .int .u32 0, .int .u32 0, .int .u32 0, .int .u32 0, .int .u32 0, .int .u32 0, .int .u32 0, .int .u32 0, .int .u32 0, .int .u32 0, .int .u32 0, .int .u32 0, .int .u32 0, .int .u32 0, .int .u32 0, .int .u32 0, .int .u32 0, .int .u32 0, .int .u32 0, .int .u32 0, .int .u32 0, .int .u32 0, .int .u32 0, .int .u32 0, .int .u32 0, .int .u32 0, .int .u32 0, .int .u32 0, .int .u32 0, .int .u32 0, .int .u32 0, .int .u32 0, .int .u32 0, .int .u32 0, .int .u32 0, .int .u32 0, .int .u32 0, .int .u32 0, .int .u32 0, .int .u32 0, .int .u32 0, .int .u32 0, .int .u32 0, .int .u32 0, .int .u32 0] := by
  have := Blk.new (w.alloc (.cells #[.int .u32 0, .int .u32 0, .int .u32 0, .int .u32 0, .int .u32 0, .int .u32 0, .int .u32 0, .int .u32 0, .int .u32 0, .int .u32 0, .int .u32 0, .int .u32 0, .int .u32 0, .int .u32 0, .int .u32 0, .int .u32 0, .int .u32 0, .int .u32 0, .int .u32 0, .int .u32 0, .int .u32 0, .int .u32 0, .int .u32 0, .int .u32 0, .int .u32 0, .int .u32 0, .int .u32 0, .int .u32 0, .int .u32 0, .int .u32 0, .int .u32 0, .int .u32 0, .int .u32 0, .int .u32 0, .int .u32 0, .int .u32 0, .int .u32 0, .int .u32 0, .int .u32 0, .int .u32 0, .int .u32 0, .int .u32 0, .int .u32 0, .int .u32 0, .int .u32 0, .int .u32 0, .int .u32 0, .int .u32 0, .int .u32 0, .int .u32 0, .int .u32 0, .int .u32 0, .int .u32 0, .int .u32 0, .int .u32 0, .int .u32 0, .int .u32 0, .int .u32 0, .int .u32 0, .int .u32 0, .int .u32 0, .int .u32 0, .int .u32 0, .int .u32 0] 111)) 111 #[.int .u32 0, .int .u32 0, .int .u32 0, .int .u32 0, .int .u32 0, .int .u32 0, .int .u32 0, .int .u32 0, .int .u32 0, .int .u32 0, .int .u32 0, .int .u32 0, .int .u32 0, .int .u32 0, .int .u32 0, .int .u32 0, .int .u32 0, .int .u32 0, .int .u32 0, .int .u32 0, .int .u32 0, .int .u32 0, .int .u32 0, .int .u32 0, .int .u32 0, .int .u32 0, .int .u32 0, .int .u32 0, .int .u32 0, .int .u32 0, .int .u32 0, .int .u32 0, .int .u32 0, .int .u32 0, .int .u32 0, .int .u32 0, .int .u32 0, .int .u32 0, .int .u32 0, .int .u32 0, .int .u32 0, .int .u32 0, .int .u32 0, .int .u32 0, .int .u32 0, .int .u32 0, .int .u32 0, .int .u32 0, .int .u32 0, .int .u32 0, .int .u32 0, .int .u32 0, .int .u32 0, .int .u32 0, .int .u32 0, .int .u32 0, .int .u32 0, .int .u32 0, .int .u32 0, .int .u32 0, .int .u32 0, .int .u32 0, .int .u32 0, .int .u32 0]
  rw [show (w.alloc (.cells #[.int .u32 0, .int .u32 0, .int .u32 0, .int .u32 0, .int .u32 0, .int .u32 0, .int .u32 0, .int .u32 0, .int .u32 0, .int .u32 0, .int .u32 0, .int .u32 0, .int .u32 0, .int .u32 0, .int .u32 0, .int .u32 0, .int .u32 0, .int .u32 0, .int .u32 0, .int .u32 0, .int .u32 0, .int .u32 0, .int .u32 0, .int .u32 0, .int .u32 0, .int .u32 0, .int .u32 0, .int .u32 0, .int .u32 0, .int .u32 0, .int .u32 0, .int .u32 0, .int .u32 0, .int .u32 0, .int .u32 0, .int .u32 0, .int .u32 0, .int .u32 0, .int .u32 0, .int .u32 0, .int .u32 0, .int .u32 0, .int .u32 0, .int .u32 0, .int .u32 0, .int .u32 0, .int .u32 0, .int .u32 0, .int .u32 0, .int .u32 0, .int .u32 0, .int .u32 0, .int .u32 0, .int .u32 0, .int .u32 0, .int .u32 0, .int .u32 0, .int .u32 0, .int .u32 0, .int .u32 0, .int .u32 0, .int .u32 0, .int .u32 0, .int .u32 0] 111)).heap.size = w.heap.size + 1 by simp] at this
  exact this
 have W0 := ((Below.refl w.heap.size w).alloc (Nat.le_refl _) (.cells #[.int .u32 0, .int .u32 0, .int .u32 0, .int .u32 0, .int .u32 0, .int .u32 0, .int .u32 0, .int .u32 0, .int .u32 0, .int .u32 0, .int .u32 0, .int .u32 0, .int .u32 0, .int .u32 0, .int .u32 0, .int .u32 0, .int .u32 0, .int .u32 0, .int .u32 0, .int .u32 0, .int .u32 0, .int .u32 0, .int .u32 0, .int .u32 0, .int .u32 0, .int .u32 0, .int .u32 0, .int .u32 0, .int .u32 0, .int .u32 0, .int .u32 0, .int .u32 0, .int .u32 0, .int .u32 0, .int .u32 0, .int .u32 0, .int .u32 0, .int .u32 0, .int .u32 0, .int .u32 0, .int .u32 0, .int .u32 0, .int .u32 0, .int .u32 0, .int .u32 0, .int .u32 0, .int .u32 0, .int .u32 0, .int .u32 0, .int .u32 0, .int .u32 0, .int .u32 0, .int .u32 0, .int .u32 0, .int .u32 0, .int .u32 0, .int .u32 0, .int .u32 0, .int .u32 0, .int .u32 0, .int .u32 0, .int .u32 0, .int .u32 0, .int .u32 0] 111)).alloc (by simp) (.cells #[.int .u32 0, .int .u32 0, .int .u32 0, .int .u32 0, .int .u32 0, .int .u32 0, .int .u32 0, .int .u32 0, .int .u32 0, .int .u32 0, .int .u32 0, .int .u32 0, .int .u32 0, .int .u32 0, .int .u32 0, .int .u32 0, .int .u32 0, .int .u32 0, .int .u32 0, .int .u32 0, .int .u32 0, .int .u32 0, .int .u32 0, .int .u32 0, .int .u32 0, .int .u32 0, .int .u32 0, .int .u32 0, .int .u32 0, .int .u32 0, .int .u32 0, .int .u32 0, .int .u32 0, .int .u32 0, .int .u32 0, .int .u32 0, .int .u32 0, .int .u32 0, .int .u32 0, .int .u32 0, .int .u32 0, .int .u32 0, .int .u32 0, .int .u32 0, .int .u32 0, .int .u32 0, .int .u32 0, .int .u32 0, .int .u32 0, .int .u32 0, .int .u32 0, .int .u32 0, .int .u32 0, .int .u32 0, .int .u32 0, .int .u32 0, .int .u32 0, .int .u32 0, .int .u32 0, .int .u32 0, .int .u32 0, .int .u32 0, .int .u32 0, .int .u32 0] 111)
 replace R0 : Blk _ _ _ (arrOf []) := R0
 replace X0 : Blk _ _ _ (arrOf []) := X0
 go_enter Tryd.func75, Tryd.ntmps75
 go_upto_region 2 with fail
 generalize (w.alloc (.cells #[.int .u32 0, .int .u32 0, .int .u32 0, .int .u32 0, .int .u32 0, .int .u32 0, .int .u32 0, .int .u32 0, .int .u32 0, .int .u32 0, .int .u32 0, .int .u32 0, .int .u32 0, .int .u32 0, .int .u32 0, .int .u32 0, .int .u32 0, .int .u32 0, .int .u32 0, .int .u32 0, .int .u32 0, .int .u32 0, .int .u32 0, .int .u32 0, .int .u32 0, .int .u32 0, .int .u32 0, .int .u32 0, .int .u32 0, .int .u32 0, .int .u32 0, .int .u32 0, .int .u32 0, .int .u32 0, .int .u32 0, .int .u32 0, .int .u32 0, .int .u32 0, .int .u32 0, .int .u32 0, .int .u32 0, .int .u32 0, .int .u32 0, .int .u32 0, .int .u32 0, .int .u32 0, .int .u32 0, .int .u32 0, .int .u32 0, .int .u32 0, .int .u32 0, .int .u32 0, .int .u32 0, .int .u32 0, .int .u32 0, .int .u32 0, .int .u32 0, .int .u32 0, .int .u32 0, .int .u32 0, .int .u32 0, .int .u32 0, .int .u32 0, .int .u32 0] 111)).alloc (.cells #[.int .u32 0, .int .u32 0, .int .u32 0, .int .u32 0, .int .u32 0, .int .u32 0, .int .u32 0, .int .u32 0, .int .u32 0, .int .u32 0, .int .u32 0, .int .u32 0, .int .u32 0, .int .u32 0, .int .u32 0, .int .u32 0, .int .u32 0, .int .u32 0, .int .u32 0, .int .u32 0, .int .u32 0, .int .u32 0, .int .u32 0, .int .u32 0, .int .u32 0, .int .u32 0, .int .u32 0, .int .u32 0, .int .u32 0, .int .u32 0, .int .u32 0, .int .u32 0, .int .u32 0, .int .u32 0, .int .u32 0, .int .u32 0, .int .u32 0, .int .u32 0, .int .u32 0, .int .u32 0, .int .u32 0, .int .u32 0, .int .u32 0, .int .u32 0, .int .u32 0, .int .u32 0, .int .u32 0, .int .u32 0, .int .u32 0, .int .u32 0, .int .u32 0, .int .u32 0, .int .u32 0, .int .u32 0, .int .u32 0, .int .u32 0, .int .u32 0, .int .u32 0, .int .u32 0, .int .u32 0, .int .u32 0, .int .u32 0, .int .u32 0, .int .u32 0] 111) = w1 at *
 go_wp2_with fail
 go_loopw [12] (fun s12 wr => ∃ i : Nat, i ≤ 16 ∧ s12 = .int .i64 i ∧ Blk wr w.heap.size 111 (arrOf []) ∧ Blk wr (w.heap.size + 1) 111 (arrOf (w16 b i)) ∧ Below w.heap.size w wr) (fun s12 _ => 16 - (intOf s12).toNat)
 case atStart => exact ⟨0, by omega, rfl, R0, X0, W0⟩
 case round =>
  obtain ⟨i, hi, rfl, R1, X1, W1⟩ := hrel
  clear R0 X0 W0
  by_cases hlt : i < 16
  ·have hcut : ∀ wx : World, (Instr.sliceAt 28 (.slice (some ⟨b0, o, none⟩) 64 c) (some (.int .i64 (4 * (i : Int)))) (some (.int .i64 (4 * (i : Int) + 4))) none).run Tryd.prog wx = .ok (.slice (some ⟨b0, o + 4 * i, none⟩) 4 (c - 4 * i)) wx := by
    intro wx
    have := cut_mid (some ⟨b0, o, none⟩) 64 c (4 * i) (4 * (i : Int)) (4 * (i : Int) + 4) (by omega) (by omega) (by omega) (by omega) wx
    rw [this, Option.map_some, add_at]
   have hx := (hb.below W1)
   rw [arrOf_grow _ (by rw [w16_len]; omega)] at X1
   go_wp2_with fail
   obtain ⟨wo, rfl⟩ : ∃ wo : World, wo = wr := ⟨_, rfl⟩
   go_loopw [23] (fun s23 wr => ∃ k : Nat, k ≤ 4 ∧ s23 = .int .i64 k ∧ Blk wr w.heap.size 111 (arrOf []) ∧ Blk wr (w.heap.size + 1) 111 (arrOf (w16 b i ++ [be (((b.drop (4 * i)).take 4).take k)])) ∧ Below w.heap.size w wr) (fun s23 _ => 4 - (intOf s23).toNat)
   case atStart => exact ⟨0, by omega, rfl, R1, X1, W1⟩
   case round =>
    obtain ⟨k, hk, rfl, R2, X2, W2⟩ := hrel
    clear R1 X1 W1
    by_cases hlt2 : k < 4
    ·obtain ⟨x, hxm, hx0, hx1, hxc⟩ := byt_cell_at (hb.below W2) (k := 4 * i + k) (by omega)
     have hxk : (((b.drop (4 * i)).take 4)[k]?) = some x := by rw [List.getElem?_take, if_pos hlt2, List.getElem?_drop]; exact hxm
     have hbt := be_take _ k x hxk
     have hv := be_bd7 (((b.drop (4 * i)).take 4).take k) (((hb.2.drop _).take _).take _) (by simp; omega)
     have hv3 := be_bd3 (((b.drop (4 * i)).take 4).take k) (((hb.2.drop _).take _).take _) (by simp; omega)
     rw [← Nat.add_assoc] at hxc
     have HT := Lib.hid hbt
     clear hbt hxm hxk
     generalize be (((b.drop (4 * i)).take 4).take k) = v at *
     have hor := or_byte v x hv3.1 hv3.2 hx0 hx1
     have hw : (v * 256) % 4294967296 = v * 256 := by omega
     have hlen : (w16 b i).length = i := w16_len b i
     have q1 : wr.cell? ⟨w.heap.size + 1, i, none⟩ = some (.int .u32 v) := by
      rw [X2.cell i, arrOf_at _ _ (by simp [hlen])]
      simp [List.getD_eq_getElem?_getD, List.getElem?_append_right, hlen]
     have q2 : wr.frozen? ⟨w.heap.size + 1, i, none⟩ = false := X2.frozen i
     have X3 := X2.set_ i (.int .u32 (v * 256 + x))
     have hset := arrOf_set (w16 b i) v (v * 256 + x) (by omega)
     rw [hlen] at hset
     rw [hset, ← HT.out] at X3
     have R3 := R2.far (p := ⟨w.heap.size + 1, i, none⟩) (by simp) (.int .u32 (v * 256 + x))
     have W3 := W2.setCell (p := ⟨w.heap.size + 1, i, none⟩) (by simp) (.int .u32 (v * 256 + x))
     rw [HT.out] at X3
     clear hset hlen X2 R2 W2
     go_wp2_with fail
     go_roundw
     case rel => exact ⟨k + 1, by omega, by go_num, R3, by rw [HT.out]; exact X3, W3⟩
     case measure => simp [intOf]; omega
    ·have h4 : ((b.drop (4 * i)).take 4).take k = (b.drop (4 * i)).take 4 := List.take_of_length_le (by simp; omega)
     rw [h4, ← w16_succ] at X2
     clear h4
     go_wp2_with fail
     go_roundw
     case rel => exact ⟨i + 1, by omega, by go_num, R2, X2, W2⟩
     case measure => simp [intOf]; omega
  ·obtain rfl : i = 16 := by omega
   rw [show ((16 : Nat) : Int) = 16 from rfl]
   go_wp2_with fail
   obtain ⟨wo, rfl⟩ : ∃ wo : World, wo = wr := ⟨_, rfl⟩
   go_loopw [7] (fun s7 wr => ∃ j : Nat, j ≤ 48 ∧ s7 = .int .i64 (16 + (j : Int)) ∧ Blk wr w.heap.size 111 (arrOf []) ∧ Blk wr (w.heap.size + 1) 111 (arrOf (wList b j)) ∧ Below w.heap.size w wr) (fun s7 _ => 64 - (intOf s7).toNat)
   case atStart => exact ⟨0, by omega, rfl, R1, X1, W1⟩
   case round =>
    obtain ⟨j, hj, rfl, R2, X2, W2⟩ := hrel
    clear R1 X1 W1
    by_cases hlt2 : j < 48
    ·have hlen := wList_len b j
     obtain ⟨a15, h15⟩ : ∃ a, a = j + 1 := ⟨_, rfl⟩
     obtain ⟨a2, h2⟩ : ∃ a, a = j + 14 := ⟨_, rfl⟩
     obtain ⟨a7, h7⟩ : ∃ a, a = j + 9 := ⟨_, rfl⟩
     obtain ⟨ai, hi'⟩ : ∃ a, a = 16 + j := ⟨_, rfl⟩
     have hnx : wNext (wList b j) = addW (addW (addW ((wList b j).getD j 0) (sig0 ((wList b j).getD a15 0))) ((wList b j).getD a7 0)) (sig1 ((wList b j).getD a2 0)) := by
      unfold wNext; rw [hlen, h15, h2, h7, show 16 + j - 16 = j by omega, show 16 + j - 15 = j + 1 by omega, show 16 + j - 7 = j + 9 by omega, show 16 + j - 2 = j + 14 by omega]
     have hset : (arrOf (wList b j ++ [0])).setIfInBounds ai (.int .u32 (wNext (wList b j))) = arrOf (wList b (j + 1)) := by
      have := arrOf_set (wList b j) 0 (wNext (wList b j)) (by omega)
      rw [hlen, ← hi'] at this
      exact this
     have w15 := wList_w b hb.2 j a15
     have w2 := wList_w b hb.2 j a2
     have q15 : wr.cell? ⟨w.heap.size + 1, a15, none⟩ = some (.int .u32 ((wList b j).getD a15 0)) := by rw [X2.cell a15, arrOf_at _ _ (by omega)]
     have q2 : wr.cell? ⟨w.heap.size + 1, a2, none⟩ = some (.int .u32 ((wList b j).getD a2 0)) := by rw [X2.cell a2, arrOf_at _ _ (by omega)]
     have e15 : IntKind.i64.wrap (16 + (j : Int) - 15) = (a15 : Int) := by rw [IntWalk.i64_in _ (by omega)]; omega
     have e2 : IntKind.i64.wrap (16 + (j : Int) - 2) = (a2 : Int) := by rw [IntWalk.i64_in _ (by omega)]; omega
     have e7 : IntKind.i64.wrap (16 + (j : Int) - 7) = (a7 : Int) := by rw [IntWalk.i64_in _ (by omega)]; omega
     have e16 : IntKind.i64.wrap (16 + (j : Int) - 16) = (j : Int) := by rw [IntWalk.i64_in _ (by omega)]; omega
     have ei : (16 + (j : Int)).toNat = ai := by omega
     have b15 : (a15 : Int) < 64 := by omega
     have b2 : (a2 : Int) < 64 := by omega
     have b7 : (a7 : Int) < 64 := by omega
     have b16 : (j : Int) < 64 := by omega
     have bi : 16 + (j : Int) < 64 := by omega
     have HN := Lib.hid hnx
     have HL := Lib.hid (And.intro hlen (And.intro h15 (And.intro h2 (And.intro h7 (And.intro hi' hset)))))
     clear hset hnx h15 h2 h7 hi' hlen
     obtain ⟨x, hx⟩ : ∃ x, (wList b j).getD a15 0 = x := ⟨_, rfl⟩
     obtain ⟨y, hy⟩ : ∃ y, (wList b j).getD a2 0 = y := ⟨_, rfl⟩
     rw [hx] at w15 q15
     rw [hy] at w2 q2
     have HX := Lib.hid (And.intro hx hy)
     clear hx hy
     go_wp2_with fail
     go_quiet (fail)
     go_wp2_with (first
      | (go_at_call 76; refine (turn_7 _ w15 _).mono ?_; rintro e w' ⟨rfl, rfl⟩)
      | (go_at_call 76; refine (turn_18 _ w15 _).mono ?_; rintro e w' ⟨rfl, rfl⟩)
      | (go_at_call 76; refine (turn_17 _ w2 _).mono ?_; rintro e w' ⟨rfl, rfl⟩)
      | (go_at_call 76; refine (turn_19 _ w2 _).mono ?_; rintro e w' ⟨rfl, rfl⟩)
      | fail)
     generalize hs : bits .xor .u32 (bits .xor .u32 (rotW x 7) (rotW x 18)) (x / 8) = s
     generalize ht : bits .xor .u32 (bits .xor .u32 (rotW y 17) (rotW y 19)) (y / 1024) = t
     have Xq : Blk (wr.drewN nq) (w.heap.size + 1) 111 (arrOf (wList b j)) := X2.drewN nq
     have Rq : Blk (wr.drewN nq) w.heap.size 111 (arrOf []) := R2.drewN nq
     have Wq : Below w.heap.size w (wr.drewN nq) := below_drewN W2 nq
     generalize wr.drewN nq = wq at *
     obtain ⟨hlen, h15, h2, h7, hi', hset⟩ := HL.out
     have X3 : Blk wq (w.heap.size + 1) 111 (arrOf (wList b j ++ [0])) := by rw [← arrOf_grow _ (by omega)]; exact Xq
     have q7 : wq.cell? ⟨w.heap.size + 1, a7, none⟩ = some (.int .u32 ((wList b j).getD a7 0)) := by rw [Xq.cell a7, arrOf_at _ _ (by omega)]
     have q16 : wq.cell? ⟨w.heap.size + 1, j, none⟩ = some (.int .u32 ((wList b j).getD j 0)) := by rw [Xq.cell j, arrOf_at _ _ (by omega)]
     have qi : wq.cell? ⟨w.heap.size + 1, ai, none⟩ = some (.int .u32 0) := by
      rw [X3.cell ai, arrOf_at _ _ (by simp [hlen]; omega)]
      simp [List.getD_eq_getElem?_getD, List.getElem?_append_right, hlen, hi']
     have qf : wq.frozen? ⟨w.heap.size + 1, ai, none⟩ = false := X3.frozen ai
     have hnx := HN.out
     rw [HX.out.1, HX.out.2] at hnx
     obtain ⟨z, hz⟩ : ∃ z, (wList b j).getD a7 0 = z := ⟨_, rfl⟩
     obtain ⟨u, hu⟩ : ∃ u, (wList b j).getD j 0 = u := ⟨_, rfl⟩
     rw [hz] at q7 hnx
     rw [hu] at q16 hnx
     have X4 : Blk (wq.setCell ⟨w.heap.size + 1, ai, none⟩ (.int .u32 (wNext (wList b j)))).drew _ _ _ := (X3.set_ ai (.int .u32 (wNext (wList b j)))).drew
     rw [hset] at X4
     have R4 : Blk (wq.setCell ⟨w.heap.size + 1, ai, none⟩ (.int .u32 (wNext (wList b j)))).drew _ _ _ := (Rq.far (p := ⟨w.heap.size + 1, ai, none⟩) (by simp) (.int .u32 (wNext (wList b j)))).drew
     have W4 := (Wq.setCell (p := ⟨w.heap.size + 1, ai, none⟩) (by simp) (.int .u32 (wNext (wList b j)))).drew
     have hs1 : sig0 x = s := hs
     have ht1 : sig1 y = t := ht
     have hfin : wNext (wList b j) = (u + s + z + t) % 4294967296 := by rw [hnx, hs1, ht1]; unfold addW; omega
     clear hs1 ht1
     rw [hfin] at X4 R4 W4
     clear hfin hnx hz hu hset hlen h15 h2 h7 hi' HL HN HX hs ht X3 Xq Rq Wq X2 R2 W2
     go_region
     all_goals go_wp2_with fail
     all_goals go_roundw
     case rel => exact ⟨j + 1, by omega, vint (by omega), R4, X4, W4⟩
     case measure => simp [intOf]; omega
    ·obtain rfl : j = 48 := by omega
     go_upto_region 18 with fail
     have hsz : (arrOf (wList b 48)).size = 64 := arrOf_size _ (by rw [wList_len]; omega)
     refine wp_region_lit ?_
     refine wpList_load_row rfl 111 (.tmp 3) rfl (w.heap.size + 1) rfl 111 _ (0, 0) _ X2 Tryd.underlying111 rfl (by rw [hsz]; rfl) ?_
     refine wpList_store_row rfl 111 (.tmp 2) (.tmp 81) rfl w.heap.size (arrOf (wList b 48)) rfl rfl 111 _ R2 (by rw [hsz]; rfl) (by rw [hsz]; rfl) (arrOf_one _) ?_
     refine wpList_nil ?_
     have R5 : Blk (wr.setRow w.heap.size (arrOf (wList b 48))) w.heap.size 111 (arrOf (wList b 48)) := setRow_heap wr _ _ _ _ _ R2
     have W5 : Below w.heap.size w (wr.setRow w.heap.size (arrOf (wList b 48))) := ⟨W2.os, W2.tape, W2.output, by simp; exact W2.size, fun k hk => (setRow_other _ _ _ _ (by omega)).trans (W2.block k hk)⟩
     go_wp2_with fail
     exact bodyPost_ret (results_cell_row (P := Tryd.prog) Tryd.results75 _ _ w.heap.size 111 _ (0, 0) _ rfl R5 Tryd.underlying111 rfl (by rw [hsz]; rfl)) rfl ⟨rfl, W5⟩
end Go.Proofs.YtmeaeeehnkcblaaDoor

namespace Go.Proofs.YtmeaeeehnkcblaaDoor
open Go.RowKit
set_option linter.unusedVariables false
set_option linter.unusedSimpArgs false
set_option maxRecDepth 20000

theorem sz1 (w : World) : (sizeOf 22).run Tryd.prog w = .ok 1 w := rfl
theorem ag1 (w : World) : (isAgg 22).run Tryd.prog w = .ok false w := rfl
theorem sz8 (w : World) : (sizeOf 104).run Tryd.prog w = .ok 8 w := rfl
theorem ag8 (w : World) : (isAgg 104).run Tryd.prog w = .ok true w := rfl
theorem nmTurn : (Tryd.f76.name == "runtime.NumGoroutine") = false := by decide
theorem bdTurn : Tryd.f76.body.isNone = false := rfl
def arrL (L : List Int) : List Value := (L.map (Value.int .u32)) ++ List.replicate (64 - L.length) (Value.int .u32 0)
theorem arrL_at (L : List Int) (i : Nat) (h : i < L.length) : (arrL L)[i]? = some (.int .u32 (L.getD i 0)) := by
 have := arrOf_at L i h
 unfold arrOf at this
 simpa [arrL] using this
theorem index64 (L : List Int) (hL : L.length = 64) (i : Nat) (h : i < 64) (w : World) : (Instr.index 111 (.agg (arrOf L)) (.int .i64 (i : Int))).run Tryd.prog w = .ok (.int .u32 (L.getD i 0)) w := by
 have hA := arrOf_at L i (by omega)
 have h1 : (0 : Int) ≤ (i : Int) ∧ (i : Int) < 64 := by omega
 simp [Instr.index, run_underlying Tryd.underlying111, asIntOf, sz1, ag1, part, h1, hA, go_sem]
 try (intro hh; exact absurd hh (by omega))
theorem build8 (a b c d e f g h : Int) (w : World) : (Instr.build 104 #[(0, .int .u32 a), (1, .int .u32 b), (2, .int .u32 c), (3, .int .u32 d), (4, .int .u32 e), (5, .int .u32 f), (6, .int .u32 g), (7, .int .u32 h)]).run Tryd.prog w = .ok (.agg #[.int .u32 a, .int .u32 b, .int .u32 c, .int .u32 d, .int .u32 e, .int .u32 f, .int .u32 g, .int .u32 h]) w := by kernel_rfl
theorem one8 (a b c d e f g h : Int) : ∀ u ∈ [Value.int .u32 a, .int .u32 b, .int .u32 c, .int .u32 d, .int .u32 e, .int .u32 f, .int .u32 g, .int .u32 h], u.oneCell' = true := by
 intro u hu
 simp only [List.mem_cons, List.not_mem_nil, or_false] at hu
 rcases hu with rfl | rfl | rfl | rfl | rfl | rfl | rfl | rfl <;> rfl
theorem arrL_one (L : List Int) : ∀ u ∈ arrL L, u.oneCell' = true := by
 intro u hu
 simp only [arrL, List.mem_append, List.mem_map, List.mem_replicate] at hu
 rcases hu with ⟨x, _, rfl⟩ | ⟨_, rfl⟩ <;> rfl
theorem zero64 (w : World) : (zeroValue 111).run Tryd.prog w = .ok (.agg (arrOf [])) w := rfl
theorem zero8 (w : World) : (zeroValue 104).run Tryd.prog w = .ok (.agg #[.int .u32 0, .int .u32 0, .int .u32 0, .int .u32 0, .int .u32 0, .int .u32 0, .int .u32 0, .int .u32 0]) w := rfl
theorem sz64 (w : World) : (sizeOf 111).run Tryd.prog w = .ok 64 w := rfl
def mixC (a b : S8) (j : Nat) : List Value := (a.list.take j ++ b.list.drop j).map (Value.int .u32)
theorem mix_get (a b : S8) (j : Nat) (h : j < 8) : (mixC a b j)[0 + j]? = some (.int .u32 (b.list.getD j 0)) := by
 match j, h with
 | 0, _ => rfl
 | 1, _ => rfl
 | 2, _ => rfl
 | 3, _ => rfl
 | 4, _ => rfl
 | 5, _ => rfl
 | 6, _ => rfl
 | 7, _ => rfl
 | j + 8, h => omega
theorem cell_get (a : S8) (j : Nat) (h : j < 8) : a.cells.toList[0 + j]? = some (.int .u32 (a.list.getD j 0)) := by
 match j, h with
 | 0, _ => rfl
 | 1, _ => rfl
 | 2, _ => rfl
 | 3, _ => rfl
 | 4, _ => rfl
 | 5, _ => rfl
 | 6, _ => rfl
 | 7, _ => rfl
 | j + 8, h => omega
theorem mix_put (a b : S8) (j : Nat) (h : j < 8) : (mixC (sumS a b) a j).take (0 + j) ++ [Value.int .u32 (IntKind.u32.wrap (a.list.getD j 0 + b.list.getD j 0))] ++ (mixC (sumS a b) a j).drop (0 + j + 1) = mixC (sumS a b) a (j + 1) := by
 match j, h with
 | 0, _ => rfl
 | 1, _ => rfl
 | 2, _ => rfl
 | 3, _ => rfl
 | 4, _ => rfl
 | 5, _ => rfl
 | 6, _ => rfl
 | 7, _ => rfl
 | j + 8, h => omega
theorem mix_len (a b : S8) (j : Nat) (h : j ≤ 8) : (mixC a b j).length = 8 := by simp [mixC, S8.list]; omega
theorem one1 (x : Int) : ∀ u ∈ [Value.int .u32 x], u.oneCell' = true := by
 intro u hu
 simp only [List.mem_cons, List.not_mem_nil, or_false] at hu
 subst hu; rfl
theorem nmWords : (Tryd.f75.name == "runtime.NumGoroutine") = false := by decide
theorem bdWords : Tryd.f75.body.isNone = false := rfl
theorem arrL_len (L : List Int) (h : L.length = 64) : (arrL L).length = 64 := by simp [arrL, h]
theorem set_all (cs vs : List Value) (h : vs.length = cs.length) : cs.take 0 ++ vs ++ cs.drop (0 + vs.length) = vs := by simp [h]
theorem compress_any (s0 : S8) (hok : s0.Ok) (b0 o c : Nat) (b : List Int) (w : World) (hb : Byt w w.heap.size (some ⟨b0, o, none⟩) 64 b) (hc : 64 ≤ c) (hc2 : c ≤ maxLen) {tk : TypeId} (hk : Blk w 1 tk (arrOf keysL)) :
  Calls Tryd.prog 71 #[.agg #[.int .u32 s0.a, .int .u32 s0.b, .int .u32 s0.c, .int .u32 s0.d, .int .u32 s0.e, .int .u32 s0.f, .int .u32 s0.g, .int .u32 s0.h], .slice (some ⟨b0, o, none⟩) 64 c] w fun e w' => e = .returned (.agg (blockF s0 b).cells) ∧ Below w.heap.size w w' := by
 obtain ⟨ws, hwsd⟩ : ∃ ws, ws = wList b 48 := ⟨_, rfl⟩
 have hws : ws.length = 64 := by rw [hwsd]; exact wList_len b 48
 refine begin_ (N := 110) (vs := [.agg #[.int .u32 s0.a, .int .u32 s0.b, .int .u32 s0.c, .int .u32 s0.d, .int .u32 s0.e, .int .u32 s0.f, .int .u32 s0.g, .int .u32 s0.h], .slice (some ⟨b0, o, none⟩) 64 c]) (I := Mem w []) Tryd.func71 rfl rfl rfl ?_ (Mem.start w)
 refine TC.seq_ (TC.region ?_)
 refine TL.new rfl rfl rfl (exec_box (cs := [.int .u32 s0.a, .int .u32 s0.b, .int .u32 s0.c, .int .u32 s0.d, .int .u32 s0.e, .int .u32 s0.f, .int .u32 s0.g, .int .u32 s0.h]) rfl rfl rfl) (fun g2 => ?_)
 refine TL.new rfl rfl rfl (exec_alloc (cs := [.int .u32 0, .int .u32 0, .int .u32 0, .int .u32 0, .int .u32 0, .int .u32 0, .int .u32 0, .int .u32 0]) rfl zero8 rfl) (fun g4 => ?_)
 refine TL.nil_then ?_
 refine TC.seq_ (TC.region ?_)
 refine TL.val rfl rfl rfl (gives_move rfl rfl) ?_
 refine TL.call1 (r := .agg (arrOf ws)) rfl rfl rfl rfl rfl Tryd.func75 nmWords bdWords (fun w1 hw => by rw [hwsd]; exact words_any b0 o c b w1 ((hb.below hw.bel).more hw.bel.size) hc hc2) ?_
 refine TL.new rfl rfl rfl (exec_alloc (cs := arrL []) rfl zero64 rfl) (fun g5 => ?_)
 refine TL.store (k := 0) (vs := arrL ws) rfl rfl rfl rfl rfl rfl rfl (by rw [arrL_len ws hws]; exact sz64) (arrL_one ws) (by rw [arrL_len ws hws]; decide) (L' := [(g5, 111, arrL ws), (g4, 104, [.int .u32 0, .int .u32 0, .int .u32 0, .int .u32 0, .int .u32 0, .int .u32 0, .int .u32 0, .int .u32 0]), (g2, 104, [.int .u32 s0.a, .int .u32 s0.b, .int .u32 s0.c, .int .u32 s0.d, .int .u32 s0.e, .int .u32 s0.f, .int .u32 s0.g, .int .u32 s0.h])]) (by rw [set_all _ _ (by rw [arrL_len ws hws]; rfl)]; rfl) ?_
 refine TL.nil_then ?_
 refine TC.seq_ (TC.region ?_)
 refine TL.val rfl rfl rfl (mem_loadAgg (k := 2) (n := 8) rfl rfl ag8 sz8 rfl (Nat.le_refl 8)) ?_
 refine TL.new rfl rfl rfl (exec_alloc (cs := [.int .u32 0, .int .u32 0, .int .u32 0, .int .u32 0, .int .u32 0, .int .u32 0, .int .u32 0, .int .u32 0]) rfl zero8 rfl) (fun g6 => ?_)
 refine TL.store (k := 0) (vs := [.int .u32 s0.a, .int .u32 s0.b, .int .u32 s0.c, .int .u32 s0.d, .int .u32 s0.e, .int .u32 s0.f, .int .u32 s0.g, .int .u32 s0.h]) rfl rfl rfl rfl rfl rfl rfl sz8 (one8 _ _ _ _ _ _ _ _) (Nat.le_refl 8) (L' := [(g6, 104, [.int .u32 s0.a, .int .u32 s0.b, .int .u32 s0.c, .int .u32 s0.d, .int .u32 s0.e, .int .u32 s0.f, .int .u32 s0.g, .int .u32 s0.h]), (g5, 111, arrL ws), (g4, 104, [.int .u32 0, .int .u32 0, .int .u32 0, .int .u32 0, .int .u32 0, .int .u32 0, .int .u32 0, .int .u32 0]), (g2, 104, [.int .u32 s0.a, .int .u32 s0.b, .int .u32 s0.c, .int .u32 s0.d, .int .u32 s0.e, .int .u32 s0.f, .int .u32 s0.g, .int .u32 s0.h])]) rfl ?_
 refine TL.nil_then ?_
 refine TC.seq_ (TC.seq_ (TC.region ?_))
 refine TL.val rfl rfl rfl (old_loadAgg rfl rfl hk Tryd.underlying111 rfl (by rw [arrOf_size _ (by rw [keysL_len]; omega)]; rfl)) ?_
 refine TL.val rfl rfl rfl (gives_move rfl rfl) ?_
 refine TL.nil_then ?_
 refine TC.block ?_
 refine TC.loop (α := Fin 65) (fun i => [(2, .pointer (some ⟨g2, 0, none⟩)), (4, .pointer (some ⟨g4, 0, none⟩)), (5, .pointer (some ⟨g5, 0, none⟩)), (6, .pointer (some ⟨g6, 0, none⟩)), (17, .agg (arrOf keysL)), (18, .int .i64 (i.val : Int))]) (fun i => Mem w [(g6, 104, (roundsF ws s0 i.val).cells.toList), (g5, 111, arrL ws), (g4, 104, [.int .u32 0, .int .u32 0, .int .u32 0, .int .u32 0, .int .u32 0, .int .u32 0, .int .u32 0, .int .u32 0]), (g2, 104, [.int .u32 s0.a, .int .u32 s0.b, .int .u32 s0.c, .int .u32 s0.d, .int .u32 s0.e, .int .u32 s0.f, .int .u32 s0.g, .int .u32 s0.h])]) (fun i => 64 - i.val) 0 (fun a w1 ha hw => ⟨ha.of_list ⟨rfl, rfl, rfl, rfl, rfl, rfl, trivial⟩, hw⟩) ?_
 intro ⟨i, hi65⟩
 refine TC.seq_ (TC.region ?_)
 refine TL.val rfl rfl rfl (gives_bin rfl rfl rfl (fun w => bin_lss w)) ?_
 refine TL.nil_then ?_
 refine TC.seq_ ?_
 refine TC.split rfl (fun ht => ?_) (fun hf => ?_)
 ·have hi : (i : Int) < 64 := of_decide_eq_true ht
  replace hi : i < 64 := by omega
  refine TC.skip_then ?_
  have hx := roundsF_ok ws s0 hok i
  have hnx : roundsF ws s0 (i + 1) = roundF (roundsF ws s0 i) (keysL.getD i 0) (ws.getD i 0) := rfl
  have hwv : (arrL ws)[0 + i]? = some (.int .u32 (ws.getD i 0)) := by rw [Nat.zero_add]; exact arrL_at ws i (by omega)
  generalize roundsF ws s0 i = x at *
  generalize ws.getD i 0 = wv at *
  obtain ⟨xa, xb, xc, xd, xe, xf, xg, xh⟩ := x
  obtain ⟨oa, ob, oc, od, oe, of', og, oh⟩ := hx
  refine TC.seq_ (TC.block (TC.seq_ (TC.region ?_)))
  refine TL.val rfl rfl rfl (gives_move rfl rfl) ?_
  refine TL.val rfl rfl rfl (gives_index rfl rfl rfl (fun w => index64 keysL keysL_len i hi w)) ?_
  refine TL.val rfl rfl rfl (gives_assign rfl rfl) ?_
  refine TL.val rfl rfl rfl (gives_assign rfl rfl) ?_
  refine TL.nil_then ?_
  refine TC.seq_ ?_
  refine TC.quiet_then (E' := [(2, .pointer (some ⟨g2, 0, none⟩)), (4, .pointer (some ⟨g4, 0, none⟩)), (5, .pointer (some ⟨g5, 0, none⟩)), (6, .pointer (some ⟨g6, 0, none⟩)), (17, .agg (arrOf keysL)), (18, .int .i64 (i : Int)), (7, .int .i64 (i : Int)), (8, .int .u32 (keysL.getD i 0)), (9, .int .u32 xa), (10, .int .u32 xe)]) (by kernel_rfl) (by kernel_rfl) (fun w hw => hw.drawn _) ?_ ?_
  ·refine TQ.val rfl rfl rfl (gives_at rfl rfl rfl (fun w => at_arr Tryd.underlying104 sz1 _ 0 _ 0 (by decide) w)) ?_
   refine TQ.val rfl rfl rfl (mem_load (k := 0) rfl rfl ag1 rfl rfl) ?_
   refine TQ.val rfl rfl rfl (gives_at rfl rfl rfl (fun w => at_arr Tryd.underlying104 sz1 _ 0 _ 4 (by decide) w)) ?_
   refine TQ.val rfl rfl rfl (mem_load (k := 0) rfl rfl ag1 rfl rfl) ?_
   refine TQ.val rfl rfl rfl (gives_assign rfl rfl) ?_
   refine TQ.val rfl rfl rfl (gives_assign rfl rfl) ?_
   exact TQ.nil (fun a ha => ha.of_list ⟨rfl, rfl, rfl, rfl, rfl, rfl, rfl, rfl, rfl, rfl, trivial⟩)
  refine TC.seq_ ?_
  refine TC.quiet_then (E' := [(2, .pointer (some ⟨g2, 0, none⟩)), (4, .pointer (some ⟨g4, 0, none⟩)), (5, .pointer (some ⟨g5, 0, none⟩)), (6, .pointer (some ⟨g6, 0, none⟩)), (17, .agg (arrOf keysL)), (18, .int .i64 (i : Int)), (7, .int .i64 (i : Int)), (8, .int .u32 (keysL.getD i 0)), (9, .int .u32 xa), (10, .int .u32 xe), (11, .int .u32 (t1F ⟨xa, xb, xc, xd, xe, xf, xg, xh⟩ (keysL.getD i 0) wv))]) (by kernel_rfl) (by kernel_rfl) (fun w hw => hw.drawn _) ?_ ?_
  ·refine TQ.val rfl rfl rfl (gives_at rfl rfl rfl (fun w => at_arr Tryd.underlying104 sz1 _ 0 _ 7 (by decide) w)) ?_
   refine TQ.val rfl rfl rfl (mem_load (k := 0) rfl rfl ag1 rfl rfl) ?_
   refine TQ.val rfl rfl rfl (gives_move rfl rfl) ?_
   refine TQ.call rfl rfl rfl rfl rfl Tryd.func76 nmTurn bdTurn (fun w hw => (turn_6 xe oe w).mono (fun e w2 ⟨he, hh⟩ => ⟨he, hh ▸ hw⟩)) ?_
   refine TQ.val rfl rfl rfl (gives_move rfl rfl) ?_
   refine TQ.call rfl rfl rfl rfl rfl Tryd.func76 nmTurn bdTurn (fun w hw => (turn_11 xe oe w).mono (fun e w2 ⟨he, hh⟩ => ⟨he, hh ▸ hw⟩)) ?_
   refine TQ.val rfl rfl rfl (gives_bin rfl rfl rfl (fun w => bin_bits (.inr (.inr rfl)) w)) ?_
   refine TQ.val rfl rfl rfl (gives_move rfl rfl) ?_
   refine TQ.call rfl rfl rfl rfl rfl Tryd.func76 nmTurn bdTurn (fun w hw => (turn_25 xe oe w).mono (fun e w2 ⟨he, hh⟩ => ⟨he, hh ▸ hw⟩)) ?_
   refine TQ.val rfl rfl rfl (gives_bin rfl rfl rfl (fun w => bin_bits (.inr (.inr rfl)) w)) ?_
   refine TQ.val rfl rfl rfl (gives_bin rfl rfl rfl (fun w => bin_add w)) ?_
   refine TQ.val rfl rfl rfl (gives_move rfl rfl) ?_
   refine TQ.val rfl rfl rfl (gives_at rfl rfl rfl (fun w => at_arr Tryd.underlying104 sz1 _ 0 _ 5 (by decide) w)) ?_
   refine TQ.val rfl rfl rfl (mem_load (k := 0) rfl rfl ag1 rfl rfl) ?_
   refine TQ.val rfl rfl rfl (gives_bin rfl rfl rfl (fun w => bin_bits (.inl rfl) w)) ?_
   refine TQ.val rfl rfl rfl (gives_move rfl rfl) ?_
   refine TQ.val rfl rfl rfl (gives_not rfl rfl) ?_
   refine TQ.val rfl rfl rfl (gives_at rfl rfl rfl (fun w => at_arr Tryd.underlying104 sz1 _ 0 _ 6 (by decide) w)) ?_
   refine TQ.val rfl rfl rfl (mem_load (k := 0) rfl rfl ag1 rfl rfl) ?_
   refine TQ.val rfl rfl rfl (gives_bin rfl rfl rfl (fun w => bin_bits (.inl rfl) w)) ?_
   refine TQ.val rfl rfl rfl (gives_bin rfl rfl rfl (fun w => bin_bits (.inr (.inr rfl)) w)) ?_
   refine TQ.val rfl rfl rfl (gives_bin rfl rfl rfl (fun w => bin_add w)) ?_
   refine TQ.val rfl rfl rfl (gives_move rfl rfl) ?_
   refine TQ.val rfl rfl rfl (gives_bin rfl rfl rfl (fun w => bin_add w)) ?_
   refine TQ.val rfl rfl rfl (gives_move rfl rfl) ?_
   refine TQ.val rfl rfl rfl (gives_at rfl rfl rfl (fun w => at_arr Tryd.underlying111 sz1 _ 0 _ i hi w)) ?_
   refine TQ.val rfl rfl rfl (mem_load (k := 1) rfl rfl ag1 rfl hwv) ?_
   refine TQ.val rfl rfl rfl (gives_bin rfl rfl rfl (fun w => bin_add w)) ?_
   refine TQ.val rfl rfl rfl (gives_assign rfl rfl) ?_
   exact TQ.nil (fun a ha => ha.of_list ⟨rfl, rfl, rfl, rfl, rfl, rfl, rfl, rfl, rfl, rfl, rfl, trivial⟩)
  refine TC.seq_ ?_
  refine TC.quiet_then (E' := [(2, .pointer (some ⟨g2, 0, none⟩)), (4, .pointer (some ⟨g4, 0, none⟩)), (5, .pointer (some ⟨g5, 0, none⟩)), (6, .pointer (some ⟨g6, 0, none⟩)), (17, .agg (arrOf keysL)), (18, .int .i64 (i : Int)), (7, .int .i64 (i : Int)), (8, .int .u32 (keysL.getD i 0)), (9, .int .u32 xa), (10, .int .u32 xe), (11, .int .u32 (t1F ⟨xa, xb, xc, xd, xe, xf, xg, xh⟩ (keysL.getD i 0) wv)), (12, .int .u32 (t2F ⟨xa, xb, xc, xd, xe, xf, xg, xh⟩))]) (by kernel_rfl) (by kernel_rfl) (fun w hw => hw.drawn _) ?_ ?_
  ·refine TQ.val rfl rfl rfl (gives_move rfl rfl) ?_
   refine TQ.call rfl rfl rfl rfl rfl Tryd.func76 nmTurn bdTurn (fun w hw => (turn_2 xa oa w).mono (fun e w2 ⟨he, hh⟩ => ⟨he, hh ▸ hw⟩)) ?_
   refine TQ.val rfl rfl rfl (gives_move rfl rfl) ?_
   refine TQ.call rfl rfl rfl rfl rfl Tryd.func76 nmTurn bdTurn (fun w hw => (turn_13 xa oa w).mono (fun e w2 ⟨he, hh⟩ => ⟨he, hh ▸ hw⟩)) ?_
   refine TQ.val rfl rfl rfl (gives_bin rfl rfl rfl (fun w => bin_bits (.inr (.inr rfl)) w)) ?_
   refine TQ.val rfl rfl rfl (gives_move rfl rfl) ?_
   refine TQ.call rfl rfl rfl rfl rfl Tryd.func76 nmTurn bdTurn (fun w hw => (turn_22 xa oa w).mono (fun e w2 ⟨he, hh⟩ => ⟨he, hh ▸ hw⟩)) ?_
   refine TQ.val rfl rfl rfl (gives_bin rfl rfl rfl (fun w => bin_bits (.inr (.inr rfl)) w)) ?_
   refine TQ.val rfl rfl rfl (gives_move rfl rfl) ?_
   refine TQ.val rfl rfl rfl (gives_at rfl rfl rfl (fun w => at_arr Tryd.underlying104 sz1 _ 0 _ 1 (by decide) w)) ?_
   refine TQ.val rfl rfl rfl (mem_load (k := 0) rfl rfl ag1 rfl rfl) ?_
   refine TQ.val rfl rfl rfl (gives_bin rfl rfl rfl (fun w => bin_bits (.inl rfl) w)) ?_
   refine TQ.val rfl rfl rfl (gives_move rfl rfl) ?_
   refine TQ.val rfl rfl rfl (gives_at rfl rfl rfl (fun w => at_arr Tryd.underlying104 sz1 _ 0 _ 2 (by decide) w)) ?_
   refine TQ.val rfl rfl rfl (mem_load (k := 0) rfl rfl ag1 rfl rfl) ?_
   refine TQ.val rfl rfl rfl (gives_bin rfl rfl rfl (fun w => bin_bits (.inl rfl) w)) ?_
   refine TQ.val rfl rfl rfl (gives_bin rfl rfl rfl (fun w => bin_bits (.inr (.inr rfl)) w)) ?_
   refine TQ.val rfl rfl rfl (gives_at rfl rfl rfl (fun w => at_arr Tryd.underlying104 sz1 _ 0 _ 1 (by decide) w)) ?_
   refine TQ.val rfl rfl rfl (mem_load (k := 0) rfl rfl ag1 rfl rfl) ?_
   refine TQ.val rfl rfl rfl (gives_at rfl rfl rfl (fun w => at_arr Tryd.underlying104 sz1 _ 0 _ 2 (by decide) w)) ?_
   refine TQ.val rfl rfl rfl (mem_load (k := 0) rfl rfl ag1 rfl rfl) ?_
   refine TQ.val rfl rfl rfl (gives_bin rfl rfl rfl (fun w => bin_bits (.inl rfl) w)) ?_
   refine TQ.val rfl rfl rfl (gives_bin rfl rfl rfl (fun w => bin_bits (.inr (.inr rfl)) w)) ?_
   refine TQ.val rfl rfl rfl (gives_bin rfl rfl rfl (fun w => bin_add w)) ?_
   refine TQ.val rfl rfl rfl (gives_assign rfl rfl) ?_
   exact TQ.nil (fun a ha => ha.of_list ⟨rfl, rfl, rfl, rfl, rfl, rfl, rfl, rfl, rfl, rfl, rfl, rfl, trivial⟩)
  refine TC.region ?_
  refine TL.val rfl rfl rfl (gives_move rfl rfl) ?_
  refine TL.val rfl rfl rfl (gives_move rfl rfl) ?_
  refine TL.val rfl rfl rfl (gives_bin rfl rfl rfl (fun w => bin_add w)) ?_
  refine TL.val rfl rfl rfl (gives_move rfl rfl) ?_
  refine TL.val rfl rfl rfl (gives_at rfl rfl rfl (fun w => at_arr Tryd.underlying104 sz1 _ 0 _ 1 (by decide) w)) ?_
  refine TL.val rfl rfl rfl (mem_load (k := 0) rfl rfl ag1 rfl rfl) ?_
  refine TL.val rfl rfl rfl (gives_at rfl rfl rfl (fun w => at_arr Tryd.underlying104 sz1 _ 0 _ 2 (by decide) w)) ?_
  refine TL.val rfl rfl rfl (mem_load (k := 0) rfl rfl ag1 rfl rfl) ?_
  refine TL.val rfl rfl rfl (gives_at rfl rfl rfl (fun w => at_arr Tryd.underlying104 sz1 _ 0 _ 3 (by decide) w)) ?_
  refine TL.val rfl rfl rfl (mem_load (k := 0) rfl rfl ag1 rfl rfl) ?_
  refine TL.val rfl rfl rfl (gives_move rfl rfl) ?_
  refine TL.val rfl rfl rfl (gives_bin rfl rfl rfl (fun w => bin_add w)) ?_
  refine TL.val rfl rfl rfl (gives_move rfl rfl) ?_
  refine TL.val rfl rfl rfl (gives_at rfl rfl rfl (fun w => at_arr Tryd.underlying104 sz1 _ 0 _ 5 (by decide) w)) ?_
  refine TL.val rfl rfl rfl (mem_load (k := 0) rfl rfl ag1 rfl rfl) ?_
  refine TL.val rfl rfl rfl (gives_at rfl rfl rfl (fun w => at_arr Tryd.underlying104 sz1 _ 0 _ 6 (by decide) w)) ?_
  refine TL.val rfl rfl rfl (mem_load (k := 0) rfl rfl ag1 rfl rfl) ?_
  refine TL.val rfl rfl rfl (gives_build rfl rfl (fun w => build8 _ _ _ _ _ _ _ _ w)) ?_
  refine TL.store (k := 0) (vs := [.int .u32 (IntKind.u32.wrap (t1F ⟨xa, xb, xc, xd, xe, xf, xg, xh⟩ (keysL.getD i 0) wv + t2F ⟨xa, xb, xc, xd, xe, xf, xg, xh⟩)), .int .u32 xa, .int .u32 xb, .int .u32 xc, .int .u32 (IntKind.u32.wrap (xd + t1F ⟨xa, xb, xc, xd, xe, xf, xg, xh⟩ (keysL.getD i 0) wv)), .int .u32 xe, .int .u32 xf, .int .u32 xg]) rfl rfl rfl rfl rfl rfl rfl sz8 (one8 _ _ _ _ _ _ _ _) (Nat.le_refl 8) (L' := [(g6, 104, [.int .u32 (IntKind.u32.wrap (t1F ⟨xa, xb, xc, xd, xe, xf, xg, xh⟩ (keysL.getD i 0) wv + t2F ⟨xa, xb, xc, xd, xe, xf, xg, xh⟩)), .int .u32 xa, .int .u32 xb, .int .u32 xc, .int .u32 (IntKind.u32.wrap (xd + t1F ⟨xa, xb, xc, xd, xe, xf, xg, xh⟩ (keysL.getD i 0) wv)), .int .u32 xe, .int .u32 xf, .int .u32 xg]), (g5, 111, arrL ws), (g4, 104, [.int .u32 0, .int .u32 0, .int .u32 0, .int .u32 0, .int .u32 0, .int .u32 0, .int .u32 0, .int .u32 0]), (g2, 104, [.int .u32 s0.a, .int .u32 s0.b, .int .u32 s0.c, .int .u32 s0.d, .int .u32 s0.e, .int .u32 s0.f, .int .u32 s0.g, .int .u32 s0.h])]) rfl ?_
  refine TL.nil_block ?_
  refine TC.region ?_
  refine TL.val rfl rfl rfl (gives_bin rfl rfl rfl (fun w => bin_add w)) ?_
  refine TL.val rfl rfl rfl (gives_move rfl rfl) ?_
  have hcl : [.int .u32 (IntKind.u32.wrap (t1F ⟨xa, xb, xc, xd, xe, xf, xg, xh⟩ (keysL.getD i 0) wv + t2F ⟨xa, xb, xc, xd, xe, xf, xg, xh⟩)), .int .u32 xa, .int .u32 xb, .int .u32 xc, .int .u32 (IntKind.u32.wrap (xd + t1F ⟨xa, xb, xc, xd, xe, xf, xg, xh⟩ (keysL.getD i 0) wv)), .int .u32 xe, .int .u32 xf, .int .u32 xg] = (roundsF ws s0 (i + 1)).cells.toList := by rw [hnx]; rfl
  refine TL.nil (fun a w1 ha hw => ⟨⟨i + 1, by omega⟩, by show 64 - (i + 1) < 64 - i; omega, ha.of_list ⟨rfl, rfl, rfl, rfl, rfl, congrArg some (vint (by show IntKind.i64.wrap ((i : Int) + 1) = ((i + 1 : Nat) : Int); rw [IntWalk.i64_in _ (by omega)]; omega)), trivial⟩, ?_⟩)
  rw [hcl] at hw
  exact hw
 ·have hi : i = 64 := by have : ¬ ((i : Int) < 64) := of_decide_eq_false hf; omega
  subst hi
  refine TC.exit (fun a w1 ha hw => ?_)
  simp only [Exit.then, Exit.inBlock, if_true]
  refine (?_ : TC _ 110 _ _ [(2, .pointer (some ⟨g2, 0, none⟩)), (4, .pointer (some ⟨g4, 0, none⟩)), (6, .pointer (some ⟨g6, 0, none⟩))] (Mem w [(g6, 104, (roundsF ws s0 64).cells.toList), (g5, 111, arrL ws), (g4, 104, [.int .u32 0, .int .u32 0, .int .u32 0, .int .u32 0, .int .u32 0, .int .u32 0, .int .u32 0, .int .u32 0]), (g2, 104, mixC (sumS s0 (roundsF ws s0 64)) s0 0)])) a w1 (ha.of_list ⟨rfl, rfl, rfl, trivial⟩) hw
  clear ha hw a w1
  refine TC.seq_ (TC.seq_ (TC.region ?_))
  refine TL.val rfl rfl rfl (gives_move rfl rfl) ?_
  refine TL.nil_then ?_
  refine TC.block ?_
  refine TC.loop (α := Fin 9) (fun j => [(2, .pointer (some ⟨g2, 0, none⟩)), (4, .pointer (some ⟨g4, 0, none⟩)), (6, .pointer (some ⟨g6, 0, none⟩)), (97, .int .i64 (j.val : Int))]) (fun j => Mem w [(g6, 104, (roundsF ws s0 64).cells.toList), (g5, 111, arrL ws), (g4, 104, [.int .u32 0, .int .u32 0, .int .u32 0, .int .u32 0, .int .u32 0, .int .u32 0, .int .u32 0, .int .u32 0]), (g2, 104, mixC (sumS s0 (roundsF ws s0 64)) s0 j.val)]) (fun j => 8 - j.val) 0 (fun a w1 ha hw => ⟨ha.of_list ⟨rfl, rfl, rfl, rfl, trivial⟩, hw⟩) ?_
  intro ⟨j, hj9⟩
  refine TC.seq_ (TC.region ?_)
  refine TL.val rfl rfl rfl (gives_bin rfl rfl rfl (fun w => bin_lss w)) ?_
  refine TL.nil_then ?_
  refine TC.seq_ ?_
  refine TC.split rfl (fun ht => ?_) (fun hf => ?_)
  ·have hj : (j : Int) < 8 := of_decide_eq_true ht
   replace hj : j < 8 := by omega
   refine TC.skip_then ?_
   refine TC.seq_ (TC.block (TC.seq_ (TC.region ?_)))
   refine TL.val rfl rfl rfl (gives_move rfl rfl) ?_
   refine TL.val rfl rfl rfl (gives_assign rfl rfl) ?_
   refine TL.nil_then ?_
   refine TC.tail 8 (by kernel_rfl) (by kernel_rfl) (fun w hw => hw.drawn _) ?_
   refine TS.val rfl rfl rfl (gives_move rfl rfl) ?_
   refine TS.val rfl rfl rfl (gives_at rfl rfl rfl (fun w => at_arr Tryd.underlying104 sz1 _ 0 _ j hj w)) ?_
   refine TS.val rfl rfl rfl (mem_load (k := 3) rfl rfl ag1 rfl (mix_get _ _ j hj)) ?_
   refine TS.val rfl rfl rfl (gives_move rfl rfl) ?_
   refine TS.val rfl rfl rfl (gives_at rfl rfl rfl (fun w => at_arr Tryd.underlying104 sz1 _ 0 _ j hj w)) ?_
   refine TS.val rfl rfl rfl (mem_load (k := 0) rfl rfl ag1 rfl (cell_get _ j hj)) ?_
   refine TS.val rfl rfl rfl (gives_bin rfl rfl rfl (fun w => bin_add w)) ?_
   refine TS.val rfl rfl rfl (gives_at rfl rfl rfl (fun w => at_arr Tryd.underlying104 sz1 _ 0 _ j hj w)) ?_
   refine TS.nil (?_ : TL _ 110 _ _ _ _ _)
   refine TL.store (k := 3) (vs := [.int .u32 (IntKind.u32.wrap (s0.list.getD j 0 + (roundsF ws s0 64).list.getD j 0))]) rfl rfl rfl rfl rfl rfl rfl sz1 (one1 _) (by rw [mix_len _ _ _ (by omega)]; show 0 + j + 1 ≤ 8; omega) (L' := [(g6, 104, (roundsF ws s0 64).cells.toList), (g5, 111, arrL ws), (g4, 104, [.int .u32 0, .int .u32 0, .int .u32 0, .int .u32 0, .int .u32 0, .int .u32 0, .int .u32 0, .int .u32 0]), (g2, 104, mixC (sumS s0 (roundsF ws s0 64)) s0 (j + 1))]) (congrArg (fun q => [(g6, 104, (roundsF ws s0 64).cells.toList), (g5, 111, arrL ws), (g4, 104, [.int .u32 0, .int .u32 0, .int .u32 0, .int .u32 0, .int .u32 0, .int .u32 0, .int .u32 0, .int .u32 0]), (g2, 104, q)]) (mix_put s0 _ j hj)) ?_
   refine TL.nil_block ?_
   refine TC.region ?_
   refine TL.val rfl rfl rfl (gives_bin rfl rfl rfl (fun w => bin_add w)) ?_
   refine TL.val rfl rfl rfl (gives_move rfl rfl) ?_
   refine TL.nil (fun a w1 ha hw => ⟨⟨j + 1, by omega⟩, by show 8 - (j + 1) < 8 - j; omega, ha.of_list ⟨rfl, rfl, rfl, congrArg some (vint (by show IntKind.i64.wrap ((j : Int) + 1) = ((j + 1 : Nat) : Int); rw [IntWalk.i64_in _ (by omega)]; omega)), trivial⟩, hw⟩)
  ·have hj : j = 8 := by have : ¬ ((j : Int) < 8) := of_decide_eq_false hf; omega
   subst hj
   refine TC.exit (fun a w1 ha hw => ?_)
   simp only [Exit.then, Exit.inBlock, if_true]
   refine (?_ : TC _ 110 _ _ [(2, .pointer (some ⟨g2, 0, none⟩)), (4, .pointer (some ⟨g4, 0, none⟩)), (6, .pointer (some ⟨g6, 0, none⟩))] (Mem w [(g6, 104, (roundsF ws s0 64).cells.toList), (g5, 111, arrL ws), (g4, 104, [.int .u32 0, .int .u32 0, .int .u32 0, .int .u32 0, .int .u32 0, .int .u32 0, .int .u32 0, .int .u32 0]), (g2, 104, (sumS s0 (roundsF ws s0 64)).cells.toList)])) a w1 (ha.of_list ⟨rfl, rfl, rfl, trivial⟩) hw
   clear ha hw a w1
   refine TC.seq_ (TC.region ?_)
   refine TL.val rfl rfl rfl (mem_loadAgg (k := 3) (n := 8) rfl rfl ag8 sz8 rfl (Nat.le_refl 8)) ?_
   refine TL.store (k := 2) (vs := (sumS s0 (roundsF ws s0 64)).cells.toList) rfl rfl rfl rfl rfl rfl rfl sz8 (one8 _ _ _ _ _ _ _ _) (Nat.le_refl 8) (L' := [(g6, 104, (roundsF ws s0 64).cells.toList), (g5, 111, arrL ws), (g4, 104, (sumS s0 (roundsF ws s0 64)).cells.toList), (g2, 104, (sumS s0 (roundsF ws s0 64)).cells.toList)]) rfl ?_
   refine TL.nil_then ?_
   refine TC.ret (ret_cell (k := 2) Tryd.results71 rfl rfl Tryd.underlying104 rfl rfl (fun w1 hw => ⟨by rw [hwsd]; rfl, hw.bel⟩))
end Go.Proofs.YtmeaeeehnkcblaaDoor

namespace Go.Proofs.YtmeaeeehnkcblaaDoor
open Go.RowKit
set_option linter.unusedVariables false
set_option linter.unusedSimpArgs false
set_option maxRecDepth 20000
theorem gives_mkfunc {P : Program} {N : Fr} {E : Env} {I : World → Prop} {o : Oper} {fn : Fn} {xs : List Operand} {vs : List Value} (ho : o.op = .makeFunc fn #[] xs.toArray) (hx : evs E xs = some vs) : Gives P N o E I (.func fn #[] vs.toArray) := fun a w ha _ => by
  unfold execOp; rw [ho]
  have : xs.toArray.map a.eval = vs.toArray := by rw [List.map_toArray, ha.evals hx]
  simp [Instr.makeFunc, this, go_sem]
theorem agInt (w : World) : (isAgg 3).run Tryd.prog w = .ok false w := rfl
theorem mkchunk_any (A : Option Addr) (n c : Nat) (w : World) :
    Calls Tryd.prog 70 #[.slice A n c, .int .i64 64] w fun e w' => ∃ b2 b3, e = .returned (.func (.func 74) #[] #[.pointer (some ⟨b2, 0, none⟩), .pointer (some ⟨b3, 0, none⟩)]) ∧
      Pm w [.blk b3 3 [.int .i64 64], .blk b2 28 [.slice A n c]] w' := by
  refine begin_ (vs := [.slice A n c, .int .i64 64]) Tryd.func70 rfl rfl rfl ?_ (Pm.start w)
  refine TC.seq_ ?_
  refine TC.region ?_
  refine TL.pnew rfl rfl rfl (exec_box (cs := [.slice A n c]) rfl rfl rfl) (fun b2 => ?_)
  refine TL.pnew rfl rfl rfl (exec_box (cs := [.int .i64 64]) rfl rfl rfl) (fun b3 => ?_)
  refine TL.val rfl rfl rfl (gives_assign rfl rfl) ?_
  refine TL.end_ ?_
  refine TX.then_ ?_
  refine TC.seq_ ?_
  refine TC.seq_ ?_
  refine TC.region ?_
  refine TL.val rfl rfl rfl (pm_load (k := 0) (i := 0) rfl rfl agInt rfl rfl) ?_
  refine TL.val rfl rfl rfl (gives_bin rfl rfl rfl (fun w => bin_lss w)) ?_
  refine TL.end_ ?_
  refine TX.then_ ?_
  refine TC.split rfl (fun hc6 => ?_) (fun hc6 => ?_)
  · exact absurd (of_decide_eq_true hc6) (by decide)
  · refine TC.skip_ ?_
    refine TX.then_ ?_
    refine TC.seq_ ?_
    refine TC.region ?_
    refine TL.val rfl rfl rfl (gives_mkfunc rfl rfl) ?_
    refine TL.val rfl rfl rfl (gives_assign rfl rfl) ?_
    refine TL.end_ ?_
    refine TX.then_ ?_
    refine TC.ret_ ?_
    exact ret_tmp Tryd.results70 rfl (fun w1 hw => ⟨b2, b3, rfl, hw⟩)
end Go.Proofs.YtmeaeeehnkcblaaDoor

namespace Go.Proofs.YtmeaeeehnkcblaaDoor
open Go.RowKit Go.Shelf
attribute [local go_sem] Oper.semAt_some
set_option linter.unusedVariables false
set_option linter.unusedSimpArgs false
set_option maxRecDepth 20000
def chunksTo (K k : Nat) : List (Fin K) := (List.finRange K).take k
theorem chunksTo_succ (K k : Nat) (h : k < K) : chunksTo K (k + 1) = chunksTo K k ++ [⟨k, h⟩] := by
  unfold chunksTo
  rw [List.take_add_one]
  simp [h]
theorem chunksTo_len (K k : Nat) (h : k ≤ K) : (chunksTo K k).length = k := by simp [chunksTo]; omega
def KeepsCell (b2 b3 : Nat) (W W' : World) : Prop := (∀ v, W.cell? ⟨b2, 0, none⟩ = some v → W'.cell? ⟨b2, 0, none⟩ = some v) ∧ (∀ v, W.cell? ⟨b3, 0, none⟩ = some v → W'.cell? ⟨b3, 0, none⟩ = some v)
set_option maxRecDepth 100000 in
set_option maxHeartbeats 2000000 in
theorem chunk_in (n : Nat) (hn : 1 ≤ n) (l b2 b3 b0 o K c : Nat) (hKc : 64 * K ≤ c) (hcm : c ≤ maxLen) (J Jx : List (Fin K) → World → Prop)
    (hY : ∀ pre x W, J pre W → pre.length < K → YieldAt Fence.wide (n - 1) Tryd.prog l #[.slice (some ⟨b0, o + 64 * x.1, none⟩) 64 64] W fun e W' =>
      (e = .returned (.bool true) ∧ J (pre ++ [x]) W' ∧ KeepsCell b2 b3 W W') ∨ (e = .returned (.bool false) ∧ Jx (pre ++ [x]) W'))
    (W : World) (h2 : W.cell? ⟨b2, 0, none⟩ = some (.slice (some ⟨b0, o, none⟩) (64 * K) c)) (h3 : W.cell? ⟨b3, 0, none⟩ = some (.int .i64 64)) (hJa : AbidesFrom W.heap.size J) (h0 : J [] W) :
    CallsIn Fence.wide n Tryd.prog 74 #[.func (.yield l) #[] #[], .pointer (some ⟨b2, 0, none⟩), .pointer (some ⟨b3, 0, none⟩)] W fun e W' => (∃ v, e = .returned v) ∧
      ((∃ ys, ys = List.finRange K ∧ J ys W') ∨ (∃ pre, pre <+: List.finRange K ∧ Jx pre W')) := by
  refine callsIn_of_wp Tryd.func74 rfl trivial ?_ rfl
  simp only [Tryd.ntmps74, List.size_toArray, List.length_cons, List.length_nil, Nat.reduceAdd, Nat.reduceSub, Array.replicate_succ, Array.replicate_zero, List.push_toArray, List.append_toArray, List.nil_append, List.cons_append]
  gi_wp2
  gi_loopw [4] (fun i wr => ∃ k : Nat, k ≤ K ∧ i = .int .i64 ((64 * k : Nat) : Int) ∧ J (chunksTo K k) wr ∧ KeepsCell b2 b3 W wr)
    (fun i _ => 64 * K - (intOf i).toNat)
  case atStart => exact ⟨0, Nat.zero_le _, rfl, h0, fun v h => h, fun v h => h⟩
  case round =>
    obtain ⟨k, hk, rfl, hJs, hk2, hk30⟩ := hrel
    have hc2 := hk2 _ h2
    have hc3 := hk30 _ h3
    by_cases hlt : k < K
    · gi_wp2
      gi_quiet (fail)
      rename_i nq
      have hJ2 : J (chunksTo K k) (wr.drewN nq) := hJa _ _ _ none hJs ⟨rfl, rfl, rfl, Nat.le_refl _, fun _ _ _ => rfl⟩ (fun r e => by cases e)
      have hd2 : (wr.drewN nq).cell? ⟨b2, 0, none⟩ = some (.slice (some ⟨b0, o, none⟩) (64 * K) c) := hc2
      have hd3 : (wr.drewN nq).cell? ⟨b3, 0, none⟩ = some (.int .i64 64) := hc3
      have hk2' : ∀ v, W.cell? ⟨b2, 0, none⟩ = some v → (wr.drewN nq).cell? ⟨b2, 0, none⟩ = some v := hk2
      have hk3' : ∀ v, W.cell? ⟨b3, 0, none⟩ = some v → (wr.drewN nq).cell? ⟨b3, 0, none⟩ = some v := hk30
      generalize wr.drewN nq = wn at *
      obtain ⟨fn, tmps, assign, body, hy, hR⟩ := hY _ ⟨k, hlt⟩ wn hJ2 (by rw [chunksTo_len K k hk]; exact hlt)
      have hkc : 64 * (k : Int) + 64 ≤ (c : Int) := by omega
      have hml : c ≤ 9223372036854775807 := hcm
      have hwr : wrap64 (64 * (k : Int) + 64) = 64 * (k : Int) + 64 := by unfold wrap64; omega
      gi_wp2
      refine hR.mono ?_
      rintro e W3 (⟨rfl, hJ3, hk3⟩ | ⟨rfl, hJx3⟩)
      · have hk64 : wrap64 (64 * (k : Int) + 64) = 64 * ((k : Int) + 1) := by rw [hwr]; omega
        have he3 := hk3.2 _ hd3
        gi_wp2
        go_roundw
        case rel => exact ⟨k + 1, by omega, by simp; omega, by rw [chunksTo_succ K k hlt]; exact hJ3, fun v h => hk3.1 _ (hk2' v h), fun v h => hk3.2 _ (hk3' v h)⟩
        case measure => simp [intOf]; omega
      · gi_wp2
        refine bodyPost_ret (results_none rfl _ _ _) rfl ?_
        exact ⟨⟨_, rfl⟩, .inr ⟨_, by rw [← chunksTo_succ K k hlt]; exact List.take_prefix _ _, hJx3⟩⟩
    · obtain rfl : k = K := by omega
      gi_wp2
      go_end0
      exact ⟨⟨_, rfl⟩, .inl ⟨_, List.take_of_length_le (by simp), hJs⟩⟩
theorem chunk_stops (n : Nat) (hn : 1 ≤ n) (b2 b3 b0 o K c : Nat) (hKc : 64 * K ≤ c) (hcm : c ≤ maxLen) (w : World) (hb2 : b2 < w.heap.size) (hb3 : b3 < w.heap.size)
    (h2 : w.cell? ⟨b2, 0, none⟩ = some (.slice (some ⟨b0, o, none⟩) (64 * K) c)) (h3 : w.cell? ⟨b3, 0, none⟩ = some (.int .i64 64)) :
    SeqStopsK Fence.wide n Tryd.prog 74 #[.pointer (some ⟨b2, 0, none⟩), .pointer (some ⟨b3, 0, none⟩)] (fun x : Fin K => #[.slice (some ⟨b0, o + 64 * x.1, none⟩) 64 64]) (KeepsCell b2 b3) (fun ys => ys = List.finRange K) (fun pre => pre <+: List.finRange K) K w :=
  fun l J Jx W hW hJ hJx hY h0 => chunk_in n hn l b2 b3 b0 o K c hKc hcm J Jx hY W ((hW.cell (p := ⟨b2, 0, none⟩) hb2).trans h2) ((hW.cell (p := ⟨b3, 0, none⟩) hb3).trans h3) hJ h0
theorem keepsCell_t {b2 b3 : Nat} {A B C : World} (h : KeepsCell b2 b3 A B) (k : KeepsCell b2 b3 B C) : KeepsCell b2 b3 A C := ⟨fun v e => k.1 v (h.1 v e), fun v e => k.2 v (h.2 v e)⟩
theorem keepsCell_b {b2 b3 : Nat} (W : World) (l : Nat) (o o' : Obj) (h : W.heap[l]? = some o) (hc : o.isCells = false) : KeepsCell b2 b3 W (W.putObj l o') :=
  ⟨fun v e => cell_kept e (grownBy_putObj' W l o') (fun r he => by cases he; exact ⟨o, h, hc⟩), fun v e => cell_kept e (grownBy_putObj' W l o') (fun r he => by cases he; exact ⟨o, h, hc⟩)⟩
end Go.Proofs.YtmeaeeehnkcblaaDoor

namespace Go.Proofs.YtmeaeeehnkcblaaDoor
open Go.RowKit
set_option linter.unusedVariables false
set_option linter.unusedSimpArgs false
set_option maxRecDepth 20000
theorem szero8 (w : World) : (zeroValue 104).run Tryd.prog w = .ok (.agg #[.int .u32 0, .int .u32 0, .int .u32 0, .int .u32 0, .int .u32 0, .int .u32 0, .int .u32 0, .int .u32 0]) w := rfl
theorem ssz8 (w : World) : (sizeOf 104).run Tryd.prog w = .ok 8 w := rfl
theorem sag8 (w : World) : (isAgg 104).run Tryd.prog w = .ok true w := rfl
theorem nmChunk : (Tryd.f70.name == "runtime.NumGoroutine") = false := by decide
theorem bdChunk : Tryd.f70.body.isNone = false := rfl
theorem nmChunk1 : (Tryd.f74.name == "runtime.NumGoroutine") = false := by decide
theorem bdChunk1 : Tryd.f74.body.isNone = false := rfl
theorem nmComp : (Tryd.f71.name == "runtime.NumGoroutine") = false := by decide
theorem bdComp : Tryd.f71.body.isNone = false := rfl
theorem padv_zero0 (l : List Int) : bv l ++ [Value.int .u8 128] = bv (padv l 0) := by simp [padv, bv]
theorem padF_bv (l : List Int) {n : Nat} (h : l.length = n) : bv (padv l (padZ n)) ++ bv (lenB n 8) = bv (padF l) := by subst h; simp [padF, bv]
theorem addr_add (g off j : Nat) : (⟨g, off, none⟩ : Addr).add j = ⟨g, off + j, none⟩ := by unfold Addr.add; split <;> simp_all
theorem row_some {w : World} {base : Nat} {e : TypeId} {size n c : Nat} {A : Option Addr} {xs : List Value} (h : w.ownsRow base e size (.slice A n c) n xs) (hn : 0 < n) : ∃ b, A = some ⟨b, 0, none⟩ := by
 rcases h.2 with ⟨e, h2⟩ | ⟨g, cap, cur, a, r⟩
 ·cases e; omega
 ·cases a; exact ⟨g, rfl⟩
theorem index8 (s : S8) (j : Nat) (h : j < 8) (w : World) : (Instr.index 104 (.agg s.cells) (.int .i64 (j : Int))).run Tryd.prog w = .ok (.int .u32 (s.list.getD j 0)) w := by
 match j, h with
 | 0, _ => rfl
 | 1, _ => rfl
 | 2, _ => rfl
 | 3, _ => rfl
 | 4, _ => rfl
 | 5, _ => rfl
 | 6, _ => rfl
 | 7, _ => rfl
 | j + 8, h => omega
/-- the words after some blocks -/
def foldX {K : Nat} (b : List Int) (s : S8) (xs : List (Fin K)) : S8 := xs.foldl (fun s x => blockF s ((b.drop (64 * x.1)).take 64)) s
theorem foldX_succ {K : Nat} (b : List Int) (s : S8) (xs : List (Fin K)) (x : Fin K) : foldX b s (xs ++ [x]) = blockF (foldX b s xs) ((b.drop (64 * x.1)).take 64) := by simp [foldX]
theorem foldX_ok {K : Nat} (b : List Int) (s : S8) (hs : s.Ok) (xs : List (Fin K)) : (foldX b s xs).Ok := by
 rcases List.eq_nil_or_concat xs with rfl | ⟨ys, y, rfl⟩
 ·exact hs
 ·rw [List.concat_eq_append, foldX_succ]
  exact sumS_ok _ _
theorem foldX_to (K k : Nat) (b : List Int) (s : S8) (h : k ≤ K) : foldX b s (chunksTo K k) = foldB b s k := by
 induction k with
 | zero => rfl
 | succ k ih => rw [chunksTo_succ K k (by omega), foldX_succ, ih (by omega)]; rfl
theorem foldX_all (K : Nat) (b : List Int) (s : S8) : foldX b s (List.finRange K) = foldB b s K := by
 rw [← foldX_to K K b s (Nat.le_refl _), chunksTo, List.take_of_length_le (by simp)]
theorem sum_any (A : Option Addr) (n c : Nat) (l : List Int) (w : World) (hb : Byt w w.heap.size A n l) (hlim : n + 100 ≤ 140737488355328) {ts tk : TypeId} (hst : Blk w 0 ts start8.cells) (hky : Blk w 1 tk (arrOf keysL)) :
  Calls Tryd.prog 54 #[.slice A n c] w fun e w' => ∃ A' c', e = .returned (.slice A' 32 c') ∧ 32 ≤ c' ∧ c' ≤ maxLen ∧ w'.ownsRow w.heap.size 5 1 (.slice A' 32 c') 32 (bv (shaF l)) ∧ Below w.heap.size w w' := by
 have hln : l.length = n := hb.len
 have hpz := padZ_le n
 have hpm := padZ_mod n
 have hpl := padF_len l
 rw [hln] at hpl
 obtain ⟨K, hK⟩ : ∃ K, K = (padF l).length / 64 := ⟨_, rfl⟩
 have hK2 : n + 1 + padZ n + 8 = 64 * K := by omega
 have hsh : shaF l = outB (foldB (padF l) start8 K) 8 := by rw [hK]; rfl
 refine beginM_ (vs := [.slice A n c]) 3 Tryd.func54 rfl rfl rfl ?_ (Pm.start w)
 refine TC.seq_ (TC.region ?_)
 refine TL.val rfl rfl rfl (gives_assign rfl rfl) ?_
 refine TL.end_ (TX.then_ (TC.seq_ (TC.region ?_)))
 refine TL.val rfl rfl rfl (gives_move rfl rfl) ?_
 refine TL.pcallRow (n := n) (ys := bv l) rfl rfl rfl rfl rfl Tryd.func69 nmClone bdClone (fun w1 hw => (clone_any A n c l w1 ((hb.below hw.bel).more hw.bel.size) (by omega))) (fun A1 c1 hA11 hA12 => ?_)
 refine TL.prow (cs := [.int .u8 128]) rfl rfl rfl rfl rfl (fun w => row1 _ w) (by decide) rfl (fun g1 => ?_)
 refine TL.append (k := 1) rfl rfl rfl rfl elU8 rfl rfl rfl (fun w hw => pm_reads hw (k := 0) rfl) (one1b _) (by rw [Nat.mul_one]; omega) (n + 1) (by omega) (fun A2 c2 hA21 hA22 => ?_)
 refine TL.val rfl rfl rfl (gives_assign rfl rfl) ?_
 refine TL.end_ (TX.then_ (TC.seq_ (TC.block ?_)))
 refine TC.loop_ (α := {x : Nat × Option Addr × Nat // x.1 ≤ padZ n ∧ n + 1 + x.1 ≤ x.2.2 ∧ x.2.2 ≤ maxLen}) (fun x => [(0, .slice A n c), (3, .slice x.1.2.1 (n + 1 + x.1.1) x.1.2.2)]) (fun x => Pm w [.row (.slice x.1.2.1 (n + 1 + x.1.1) x.1.2.2) 5 1 (n + 1 + x.1.1) (bv (padv l x.1.1))]) (fun x => padZ n - x.1.1) (⟨(0, A2, c2), Nat.zero_le _, hA21, hA22⟩) ⟨rfl, rfl, trivial⟩ (fun w hw => by have h := Pm.tail hw; rw [padv_zero0] at h; exact h) ?_
 rintro ⟨⟨z, A3, c3⟩, hz, hcc⟩
 dsimp only at hz hcc ⊢
 refine TC.seq_ (TC.seq_ (TC.region ?_))
 refine TL.val rfl rfl rfl (gives_move rfl rfl) ?_
 refine TL.val rfl rfl rfl (gives_len rfl Tryd.underlying28 rfl) ?_
 refine TL.val rfl rfl rfl (gives_bin rfl rfl rfl (fun w => bin_remi (by omega) (by omega) w)) ?_
 refine TL.val rfl rfl rfl (gives_bin rfl rfl rfl (fun w => bin_neq w)) ?_
 refine TL.end_ (TX.then_ ?_)
 refine TC.split rfl (fun hc17 => ?_) (fun hc17 => ?_)
 ·have hz2 : z < padZ n := by have := of_decide_eq_true hc17; unfold padZ at *; omega
  refine TC.skip_ (TX.then_ (TC.block (TC.region ?_)))
  refine TL.val rfl rfl rfl (gives_move rfl rfl) ?_
  refine TL.prow (cs := [.int .u8 0]) rfl rfl rfl rfl rfl (fun w => row1 _ w) (by decide) rfl (fun g2 => ?_)
  refine TL.append (k := 1) rfl rfl rfl rfl elU8 rfl rfl rfl (fun w hw => pm_reads hw (k := 0) rfl) (one1b _) (by rw [Nat.mul_one]; omega) (n + 1 + (z + 1)) (by omega) (fun A3 c3 hA31 hA32 => ?_)
  refine TL.val rfl rfl rfl (gives_assign rfl rfl) ?_
  refine TL.end_ (TX.in_normal ?_)
  exact TX.round (⟨(z + 1, A3, c3), hz2, hA31, hA32⟩) (by show padZ n - (z + 1) < padZ n - z; omega) ⟨rfl, rfl, trivial⟩ (fun w hw => by have h := Pm.tail hw; rw [padv_succ] at h; exact h)
 ·have hz2 : z = padZ n := by have := of_decide_eq_false hc17; unfold padZ at *; omega
  subst hz2
  refine TC.exit_ (TX.then_exit (TX.then_exit (TX.in_same (TX.then_ (TC.seq_ (TC.seq_ (TC.region ?_)))))))
  refine TL.val rfl rfl rfl (gives_assign rfl rfl) ?_
  refine TL.end_ (TX.then_ (TC.block ?_))
  refine TC.loop_ (α := {x : Nat × Option Addr × Nat // x.1 ≤ 8 ∧ n + 1 + padZ n + x.1 ≤ x.2.2 ∧ x.2.2 ≤ maxLen}) (fun x => [(0, .slice A n c), (3, .slice x.1.2.1 (n + 1 + padZ n + x.1.1) x.1.2.2), (4, .int .i64 (56 - 8 * (x.1.1 : Int)))]) (fun x => Pm w [.row (.slice x.1.2.1 (n + 1 + padZ n + x.1.1) x.1.2.2) 5 1 (n + 1 + padZ n + x.1.1) (bv (padv l (padZ n)) ++ bv (lenB n x.1.1))]) (fun x => 8 - x.1.1) (⟨(0, A3, c3), Nat.zero_le _, hcc⟩) ⟨rfl, rfl, rfl, trivial⟩ (fun w hw => by rw [← List.append_nil (bv (padv l (padZ n)))] at hw; exact hw) ?_
  rintro ⟨⟨j, A5, c5⟩, hj, hcc5⟩
  dsimp only at hj hcc5 ⊢
  refine TC.seq_ (TC.seq_ (TC.region ?_))
  refine TL.val rfl rfl rfl (gives_move rfl rfl) ?_
  refine TL.val rfl rfl rfl (gives_bin rfl rfl rfl (fun w => bin_geq w)) ?_
  refine TL.end_ (TX.then_ ?_)
  refine TC.split rfl (fun hc22 => ?_) (fun hc22 => ?_)
  ·have hj2 : j ≤ 7 := by have := of_decide_eq_true hc22; omega
   refine TC.skip_ (TX.then_ (TC.seq_ (TC.block (TC.region ?_))))
   refine TL.val rfl rfl rfl (gives_move rfl rfl) ?_
   refine TL.val rfl rfl rfl (gives_move rfl rfl) ?_
   refine TL.val rfl rfl rfl (gives_len rfl Tryd.underlying28 rfl) ?_
   refine TL.val rfl rfl rfl (gives_conv rfl rfl (fun w => conv_fit Tryd.underlying102 Tryd.underlying3 (by simp only [IntKind.wrap_u64]; omega) w)) ?_
   refine TL.val rfl rfl rfl (gives_bin rfl rfl rfl (fun w => bin_shl 8 (by decide) (by decide) rfl w)) ?_
   refine TL.val rfl rfl rfl (gives_move rfl rfl) ?_
   refine TL.val rfl rfl rfl (gives_bin rfl rfl rfl (fun w => bin_shr (2 ^ (56 - 8 * j)) (by omega) (by show (_ : Int) ≤ 64; omega) (by rw [show (56 - 8 * (j : Int)).toNat = 56 - 8 * j by omega]) w)) ?_
   refine TL.val rfl rfl rfl (gives_conv rfl rfl (fun w => conv_int Tryd.underlying5 Tryd.underlying102 w)) ?_
   refine TL.prow (cs := [.int .u8 (IntKind.u8.wrap (lenW n / 2 ^ (56 - 8 * j)))]) rfl rfl rfl rfl rfl (fun w => row1 _ w) (by decide) rfl (fun g3 => ?_)
   refine TL.append (k := 1) rfl rfl rfl rfl elU8 rfl rfl rfl (fun w hw => pm_reads hw (k := 0) rfl) (one1b _) (by rw [Nat.mul_one]; omega) (n + 1 + padZ n + (j + 1)) (by omega) (fun A4 c4 hA41 hA42 => ?_)
   refine TL.val rfl rfl rfl (gives_assign rfl rfl) ?_
   refine TL.end_ (TX.in_normal (TX.then_ (TC.region ?_)))
   refine TL.val rfl rfl rfl (gives_move rfl rfl) ?_
   refine TL.val rfl rfl rfl (gives_bin rfl rfl rfl (fun w => bin_sub_ (r := 56 - 8 * ((j + 1 : Nat) : Int)) (by simp only [IntKind.wrap_i64]; omega) w)) ?_
   refine TL.val rfl rfl rfl (gives_assign rfl rfl) ?_
   refine TL.end_ ?_
   exact TX.round (⟨(j + 1, A4, c4), by omega, hA41, hA42⟩) (by show 8 - (j + 1) < 8 - j; omega) ⟨rfl, rfl, rfl, trivial⟩ (fun w hw => by have h := Pm.tail hw; rw [List.append_assoc, ← lenB_succ] at h; exact h)
  ·have hj2 : j = 8 := by have := of_decide_eq_false hc22; omega
   subst hj2
   rw [hK2] at hcc5
   refine TC.cut [(3, .slice A5 (64 * K) c5)] (Pm w [.row (.slice A5 (64 * K) c5) 5 1 (64 * K) (bv (padF l))]) ⟨by rw [← hK2]; rfl, trivial⟩ (fun w hw => by rw [padF_bv l hln, hK2] at hw; exact hw) ?_
   refine TC.fact (p := ∃ b5, A5 = some ⟨b5, 0, none⟩) (fun w1 hw => row_some (hw.at_ (k := 0) rfl) (by omega)) (fun hb5 => ?_)
   refine TC.exit_ (TX.then_exit (TX.then_exit (TX.in_same (TX.then_ (TC.seq_ ?_)))))
   obtain ⟨b5, rfl⟩ := hb5
   refine TC.region ?_
   refine TL.val rfl rfl rfl (pm_oldAgg rfl rfl hst hst.lt Tryd.underlying104 rfl rfl) ?_
   refine TL.pnew rfl rfl rfl (exec_alloc (cs := [.int .u32 0, .int .u32 0, .int .u32 0, .int .u32 0, .int .u32 0, .int .u32 0, .int .u32 0, .int .u32 0]) rfl szero8 rfl) (fun g5 => ?_)
   refine TL.pstore (k := 0) (vs := start8.cells.toList) rfl rfl rfl rfl rfl rfl rfl ssz8 (one8 _ _ _ _ _ _ _ _) (Nat.le_refl 8) (L' := [.blk g5 104 start8.cells.toList, .row (.slice (some ⟨b5, 0, none⟩) (64 * K) c5) 5 1 (64 * K) (bv (padF l))]) rfl ?_
   refine TL.end_ (TX.then_ (TC.seq_ (TC.seq_ (TC.region ?_))))
   refine TL.val rfl rfl rfl (gives_move rfl rfl) ?_
   refine TL.pcallPm (α := Nat × Nat) (fun x => .func (.func 74) #[] #[.pointer (some ⟨x.1, 0, none⟩), .pointer (some ⟨x.2, 0, none⟩)]) (fun x => [.blk x.2 3 [.int .i64 64], .blk x.1 28 [.slice (some ⟨b5, 0, none⟩) (64 * K) c5]]) rfl rfl rfl rfl rfl Tryd.func70 nmChunk bdChunk (fun w1 hw => ((mkchunk_any (some ⟨b5, 0, none⟩) (64 * K) c5 w1).mono fun e w2 ⟨b2, b3, he, h2⟩ => ⟨(b2, b3), he, h2⟩)) ?_
   rintro ⟨b2, b3⟩
   dsimp only [List.cons_append, List.nil_append]
   refine TL.end_ (TX.then_ (TC.block ?_))
   refine TC.rangeF 3 (by omega) rfl Tryd.func74 nmChunk1 bdChunk1 rfl (fun x : Fin K => .slice (some ⟨b5, 0 + 64 * x.1, none⟩) 64 64) (KeepsCell b2 b3) (fun ys => ys = List.finRange K) (fun pre => pre <+: List.finRange K) K (fun pre => [.blk b3 3 [.int .i64 64], .blk b2 28 [.slice (some ⟨b5, 0, none⟩) (64 * K) c5], .blk g5 104 (foldX (padF l) start8 pre).cells.toList, .row (.slice (some ⟨b5, 0, none⟩) (64 * K) c5) 5 1 (64 * K) (bv (padF l))]) (fun _ => rfl) (fun w1 hw => ?_) keepsCell_t keepsCell_b (fun pre pre' b W W' h1 h2 => ?_) (fun x => [(6, .slice (some ⟨b5, 0 + 64 * x.1, none⟩) 64 64), (5, .pointer (some ⟨g5, 0, none⟩))]) rfl (fun x Q' I h => ?_) (fun lr pre x W hW hlen => ?_) (fun D xs hxs => ?_)
   ·exact chunk_stops 2 (by omega) b2 b3 b5 0 K c5 hcc5.1 hcc5.2 w1 (Pc.lt (hw.at_ (k := 1) rfl) b2 rfl).2 (Pc.lt (hw.at_ (k := 0) rfl) b3 rfl).2 (hw.cell (k := 1) rfl 0) (hw.cell (k := 0) rfl 0)
   ·exact ⟨fun v e => by rw [h1.cell (k := 1) rfl 0] at e; rw [h2.cell (k := 1) rfl 0]; exact e, fun v e => by rw [h1.cell (k := 0) rfl 0] at e; rw [h2.cell (k := 0) rfl 0]; exact e⟩
   ·refine TL.val rfl rfl rfl (gives_assign rfl rfl) ?_
    exact TL.end_ (TX.cut [(6, .slice (some ⟨b5, 0 + 64 * x.1, none⟩) 64 64), (5, .pointer (some ⟨g5, 0, none⟩))] I ⟨rfl, rfl, trivial⟩ (fun w hw => hw) h)
   ·refine TR.block ?_
    refine TR.region (fun ⟨a, w, h⟩ => by cases h.1) rfl ?_
    refine TL.val rfl rfl rfl (pm_loadAgg (k := 2) (n := 8) rfl rfl sag8 ssz8 rfl (Nat.le_refl 8)) ?_
    refine TL.val rfl rfl rfl (gives_move rfl rfl) ?_
    refine TL.pcall1 (r := .agg (foldX (padF l) start8 (pre ++ [x])).cells) rfl rfl rfl rfl rfl Tryd.func71 nmComp bdComp (fun w1 hw => ?_) ?_
    ·have hby : Byt w1 w1.heap.size (some ⟨b5, 0, none⟩) (64 * K) (padF l) := byt_own (hw.at_ (k := 3) rfl) (padF_bs l hb.2)
     have hx := x.2
     have hcu := (hby.cut (k := 64 * x.1) (cap := c5) (by omega) hcc5.1).head (k := 64) (by omega)
     have hne : ¬ c5 = 64 * x.1 := by have := hcc5.1; omega
     rw [if_neg hne, show Option.map (fun a : Addr => a.add (64 * x.1)) (some ⟨b5, 0, none⟩) = some ⟨b5, 0 + 64 * x.1, none⟩ from by simp only [Option.map_some, addr_add]] at hcu
     rw [foldX_succ]
     exact compress_any (foldX (padF l) start8 pre) (foldX_ok _ _ start8_ok pre) b5 (0 + 64 * x.1) 64 _ w1 hcu (by omega) (by decide) ((hky.below hW.bel hky.lt).below hw.bel hky.lt)
    refine TL.pstore (k := 2) (vs := (foldX (padF l) start8 (pre ++ [x])).cells.toList) rfl rfl rfl rfl rfl rfl rfl ssz8 (one8 _ _ _ _ _ _ _ _) (Nat.le_refl 8) rfl ?_
    refine TL.end_ (TX.in_normal ?_)
    exact TX.roundQ (fun w hw => hw)
   refine TX.in_normal (TX.then_ (TC.seq_ (TC.region ?_)))
   refine TL.val rfl rfl rfl (gives_assign rfl rfl) ?_
   refine TL.end_ (TX.then_ (TC.seq_ (TC.seq_ (TC.region ?_))))
   refine TL.val rfl rfl rfl (pm_loadAgg (k := 3) (n := 8) rfl rfl sag8 ssz8 rfl (Nat.le_refl 8)) ?_
   refine TL.val rfl rfl rfl (gives_move rfl rfl) ?_
   refine TL.end_ (TX.then_ (TC.block ?_))
   refine TC.loop_ (α := {x : Nat × Option Addr × Nat // x.1 ≤ 8 ∧ 4 * x.1 ≤ x.2.2 ∧ x.2.2 ≤ maxLen}) (fun x => [(42, .agg (foldX (padF l) start8 xs).cells), (7, .slice x.1.2.1 (4 * x.1.1) x.1.2.2), (43, .int .i64 (x.1.1 : Int))]) (fun x => Pm w [.row (.slice x.1.2.1 (4 * x.1.1) x.1.2.2) 5 1 (4 * x.1.1) (bv (outB (foldX (padF l) start8 xs) x.1.1)), .oth D (.deferred (some []))]) (fun x => 8 - x.1.1) (⟨(0, none, 0), Nat.zero_le _, Nat.zero_le _, Nat.zero_le _⟩) ⟨rfl, rfl, rfl, trivial⟩ (fun w hw => (hw.sel (.cons_cons _ (List.nil_sublist _))).nilrow 5 1) ?_
   rintro ⟨⟨j, A6, c6⟩, hj, hcc6⟩
   dsimp only at hj hcc6 ⊢
   refine TC.seq_ (TC.region ?_)
   refine TL.val rfl rfl rfl (gives_bin rfl rfl rfl (fun w => bin_lss w)) ?_
   refine TL.end_ (TX.then_ (TC.seq_ ?_))
   refine TC.split rfl (fun hc44 => ?_) (fun hc44 => ?_)
   ·have hj2 : j < 8 := by have := of_decide_eq_true hc44; omega
    refine TC.skip_ (TX.then_ (TC.seq_ (TC.block (TC.seq_ (TC.region ?_)))))
    refine TL.val rfl rfl rfl (gives_index rfl rfl rfl (fun w => index8 (foldX (padF l) start8 xs) j hj2 w)) ?_
    refine TL.val rfl rfl rfl (gives_assign rfl rfl) ?_
    refine TL.end_ (TX.then_ (TC.region ?_))
    refine TL.val rfl rfl rfl (gives_move rfl rfl) ?_
    refine TL.val rfl rfl rfl (gives_move rfl rfl) ?_
    refine TL.val rfl rfl rfl (gives_bin rfl rfl rfl (fun w => bin_shr 16777216 (by decide) (by decide) rfl w)) ?_
    refine TL.val rfl rfl rfl (gives_conv rfl rfl (fun w => conv_int Tryd.underlying5 Tryd.underlying22 w)) ?_
    refine TL.val rfl rfl rfl (gives_move rfl rfl) ?_
    refine TL.val rfl rfl rfl (gives_bin rfl rfl rfl (fun w => bin_shr 65536 (by decide) (by decide) rfl w)) ?_
    refine TL.val rfl rfl rfl (gives_conv rfl rfl (fun w => conv_int Tryd.underlying5 Tryd.underlying22 w)) ?_
    refine TL.val rfl rfl rfl (gives_move rfl rfl) ?_
    refine TL.val rfl rfl rfl (gives_bin rfl rfl rfl (fun w => bin_shr 256 (by decide) (by decide) rfl w)) ?_
    refine TL.val rfl rfl rfl (gives_conv rfl rfl (fun w => conv_int Tryd.underlying5 Tryd.underlying22 w)) ?_
    refine TL.val rfl rfl rfl (gives_move rfl rfl) ?_
    refine TL.val rfl rfl rfl (gives_conv rfl rfl (fun w => conv_int Tryd.underlying5 Tryd.underlying22 w)) ?_
    refine TL.prow (cs := bv (word4 ((foldX (padF l) start8 xs).list.getD j 0))) rfl rfl rfl rfl rfl (fun w => row4 _ _ _ _ w) (by decide) rfl (fun g7 => ?_)
    refine TL.append (k := 1) rfl rfl rfl rfl elU8 rfl rfl rfl (fun w hw => pm_reads hw (k := 0) rfl) (bv_one _) (by rw [Nat.mul_one]; omega) (4 * (j + 1)) (by omega) (fun A7 c7 hA71 hA72 => ?_)
    refine TL.val rfl rfl rfl (gives_assign rfl rfl) ?_
    refine TL.end_ (TX.in_normal (TX.then_ (TC.region ?_)))
    refine TL.val rfl rfl rfl (gives_bin rfl rfl rfl (fun w => bin_add_ (r := ((j + 1 : Nat) : Int)) (by simp only [IntKind.wrap_i64]; omega) w)) ?_
    refine TL.val rfl rfl rfl (gives_move rfl rfl) ?_
    refine TL.end_ ?_
    exact TX.round (⟨(j + 1, A7, c7), hj2, hA71, hA72⟩) (by show 8 - (j + 1) < 8 - j; omega) ⟨rfl, rfl, rfl, trivial⟩ (fun w hw => by have h := Pm.tail hw; rw [outB_succ] at h; exact h)
   ·have hj2 : j = 8 := by have := of_decide_eq_false hc44; omega
    subst hj2
    refine TC.exit_ (TX.then_exit (TX.then_exit (TX.in_same (TX.then_ (TC.seq_ (TC.region ?_))))))
    refine TL.val rfl rfl rfl (gives_move rfl rfl) ?_
    refine TL.val rfl rfl rfl (gives_assign rfl rfl) ?_
    refine TL.end_ (TX.then_ (TC.ret_ ?_))
    subst hxs
    have hfx : outB (foldX (padF l) start8 (List.finRange K)) 8 = shaF l := by rw [foldX_all, ← hsh]
    rw [hfx]
    exact retM_row (k := 0) (kD := 1) Tryd.results54 rfl rfl rfl rfl (fun w1 hown hbel => ⟨A6, c6, rfl, hcc6.1, hcc6.2, hown, hbel⟩)
end Go.Proofs.YtmeaeeehnkcblaaDoor

namespace Go.Proofs.YtmeaeeehnkcblaaDoor
open Go.RowKit
set_option linter.unusedVariables false
set_option linter.unusedSimpArgs false
set_option maxRecDepth 20000
theorem cod_stab (cb : Nat) : Stab cb (fun w => Cod w cb) := fun w1 w2 h hs => h.keep fun b hb => hs b (by omega)
theorem cod_cells {w : World} {cb : Nat} (h : Cod w cb) : CellsAt w cb := by
 obtain ⟨A, m, c, l, k, hb, _⟩ := h
 exact ⟨_, hb, rfl⟩
theorem nmNext : (Tryd.f21.name == "runtime.NumGoroutine") = false := by decide
theorem bdNext : Tryd.f21.body.isNone = false := rfl
theorem next_cod (cb : Nat) (w : World) (n : Int) (h : Cod w cb) :
  Calls Tryd.prog 21 #[.pointer (some ⟨cb, 0, none⟩), .int .i64 n] w fun e w' => ∃ x : {x : Nat // x ≤ 65535 ∧ (1 ≤ n → (x : Int) < n)}, e = .returned (.int .i64 (x.1 : Int)) ∧ Codr (fun w => Cod w cb) cb w [] w' :=
 (next_any cb w n h).mono fun e w' ⟨x, he, h0, h1, h2, hc, hg, _⟩ => by
  obtain ⟨k, rfl⟩ := Int.eq_ofNat_of_zero_le h0
  exact ⟨⟨k, by omega, h2⟩, he, hc, hg, cod_cells hc, (fun q hq => absurd hq List.not_mem_nil), List.Pairwise.nil⟩
theorem bs_one {x : Int} (h : 0 ≤ x ∧ x ≤ 255) : Bs [x] := by
 intro y hy
 rw [List.mem_singleton] at hy
 subst hy
 exact h
theorem u8_bits (op : BinOp) (a b : Int) : 0 ≤ bits op .u8 a b ∧ bits op .u8 a b ≤ 255 := by
 unfold bits
 simp only [IntKind.wrap_u8]
 omega
theorem spoilt_cod (cb : Nat) (w : World) (A : Option Addr) (n c : Nat) (l : List Int) (hC : Cod w cb) (hl : Byt w w.heap.size A n l) (hne : ∀ ad, A = some ad → ad.block ≠ cb) (hnc : n ≤ c) (h5 : n ≤ 1000000) :
  Calls Tryd.prog 17 #[.pointer (some ⟨cb, 0, none⟩), .slice A n c] w fun e w' => ∃ A' m c' l', e = .returned (.slice A' m c') ∧ m ≤ c' ∧ c' ≤ maxLen ∧ m ≤ n + 1 ∧ Bs l' ∧ Codr (fun w => Cod w cb) cb w [.row (.slice A' m c') 5 1 m (bv l')] w' := by
 have hln : l.length = n := hl.len
 have hsrc : ∀ (w1 : World) (L : List Pc), Pm ⟨w, cb⟩ L w1 → (∀ q ∈ oths cb w, q ∈ L) → Byt w1 w1.heap.size A n l := fun w1 L h hs => byt_grown hl hne (h.kept hs)
 refine begin_ (vs := [.pointer (some ⟨cb, 0, none⟩), .slice A n c]) (I := Pm ⟨w, cb⟩ (.abs cb (fun w => Cod w cb) :: oths cb w)) Tryd.func17 rfl rfl rfl ?_ (Pm.codes hC (cod_cells hC) (cod_stab cb))
 refine TC.seq_ (TC.region ?_)
 refine TL.val rfl rfl rfl (gives_assign rfl rfl) ?_
 refine TL.end_ (TX.then_ (TC.seq_ (TC.region ?_)))
 refine TL.val rfl rfl rfl (gives_move rfl rfl) ?_
 refine TL.nilrow 5 1 ?_
 refine TL.append (k := 0) rfl rfl rfl rfl elU8 rfl rfl rfl (fun w1 hw => ⟨_, (hsrc w1 _ hw (fun q hq => by simp [hq])).1⟩) (bv_one l) (by rw [Nat.mul_one]; omega) n (by omega) (fun A2 c2 hA21 hA22 => ?_)
 refine TL.val rfl rfl rfl (gives_assign rfl rfl) ?_
 refine TL.end_ (TX.then_ (TC.seq_ (TC.seq_ (TC.region ?_))))
 refine TL.val rfl rfl rfl (gives_move rfl rfl) ?_
 refine TL.val rfl rfl rfl (gives_len rfl Tryd.underlying28 rfl) ?_
 refine TL.val rfl rfl rfl (gives_bin rfl rfl rfl (fun w => bin_eql w)) ?_
 refine TL.end_ (TX.then_ ?_)
 refine TC.split rfl (fun hc11 => ?_) (fun hc11 => ?_)
 ·have hn0 : n = 0 := by have := of_decide_eq_true hc11; omega
  refine TC.seq_ (TC.region ?_)
  refine TL.val rfl rfl rfl (gives_move rfl rfl) ?_
  refine TL.pcallCod (k := 1) (α := {x : Nat // x ≤ 65535 ∧ (1 ≤ (256 : Int) → (x : Int) < 256)}) (fun x => .int .i64 (x.1 : Int)) (fun _ => []) rfl rfl rfl rfl rfl Tryd.func21 nmNext bdNext rfl (fun w1 hw hC1 => next_cod cb w1 256 hC1) ?_
  rintro ⟨x, hx1, hx2⟩
  dsimp only [List.nil_append] at hx1 hx2 ⊢
  refine TL.val rfl rfl rfl (gives_conv rfl rfl (fun w => conv_fit Tryd.underlying5 Tryd.underlying3 (by simp only [IntKind.wrap_u8]; omega) w)) ?_
  refine TL.prow (cs := bv [(x : Int)]) rfl rfl rfl rfl rfl (fun w => row1 _ w) (by decide) rfl (fun g1 => ?_)
  refine TL.val rfl rfl rfl (gives_assign rfl rfl) ?_
  refine TL.end_ (TX.then_ (TC.ret_ (TX.then_ret ?_)))
  exact ret_tmp Tryd.results17 (v := .slice (some ⟨g1, 0, none⟩) (1) 1) rfl (fun w1 hw => ⟨(some ⟨g1, 0, none⟩), 1, 1, [(x : Int)], rfl, Nat.le_refl _, by decide, by omega, bs_one (by omega), Pm.codr [_] (hw.sel (.cons_cons _ (.cons _ (List.Sublist.refl _)))) rfl⟩)
 ·have hn0 : 1 ≤ n := by have := of_decide_eq_false hc11; omega
  refine TC.skip_ (TX.then_ (TC.seq_ (TC.region ?_)))
  refine TL.val rfl rfl rfl (gives_move rfl rfl) ?_
  refine TL.val rfl rfl rfl (gives_move rfl rfl) ?_
  refine TL.val rfl rfl rfl (gives_len rfl Tryd.underlying28 rfl) ?_
  refine TL.pcallCod (k := 1) (α := {x : Nat // x ≤ 65535 ∧ (1 ≤ (n : Int) → (x : Int) < n)}) (fun x => .int .i64 (x.1 : Int)) (fun _ => []) rfl rfl rfl rfl rfl Tryd.func21 nmNext bdNext rfl (fun w1 hw hC1 => next_cod cb w1 n hC1) ?_
  rintro ⟨p, hp1, hp2⟩
  dsimp only [List.nil_append] at hp1 hp2 ⊢
  refine TL.val rfl rfl rfl (gives_assign rfl rfl) ?_
  refine TL.end_ (TX.then_ (TC.seq_ (TC.seq_ (TC.region ?_))))
  refine TL.val rfl rfl rfl (gives_move rfl rfl) ?_
  refine TL.pcallCod (k := 1) (α := {x : Nat // x ≤ 65535 ∧ (1 ≤ (4 : Int) → (x : Int) < 4)}) (fun x => .int .i64 (x.1 : Int)) (fun _ => []) rfl rfl rfl rfl rfl Tryd.func21 nmNext bdNext rfl (fun w1 hw hC1 => next_cod cb w1 4 hC1) ?_
  rintro ⟨q, hq1, hq2⟩
  dsimp only [List.nil_append] at hq1 hq2 ⊢
  refine TL.end_ (TX.then_ (TC.block (TC.seq_ (TC.region ?_))))
  refine TL.val rfl rfl rfl (gives_bin rfl rfl rfl (fun w => bin_eql w)) ?_
  refine TL.val rfl rfl rfl (gives_assign rfl rfl) ?_
  refine TL.end_ (TX.then_ ?_)
  refine TC.split rfl (fun hc22 => ?_) (fun hc22 => ?_)
  ·refine TC.seq_ ?_
   refine TC.held (ls := #[false, false, false, false, false, false, false, false, false]) (fun _ => True) (by kernel_rfl) rfl rfl (fun w hw => hw.drawn _) ?_
   refine TH.take (listed' := #[true, false, false, false, false, false, false, false, false]) 0 rfl (by kernel_rfl) (by kernel_rfl) (by kernel_rfl) rfl rfl rfl rfl (gives_move rfl rfl) (fun w hw => trivial) ?_
   refine TH.take (listed' := #[true, true, false, false, false, false, false, false, false]) 1 rfl (by kernel_rfl) (by kernel_rfl) (by kernel_rfl) rfl rfl rfl rfl (gives_move rfl rfl) (fun w hw => trivial) ?_
   refine TH.take (listed' := #[true, true, false, true, false, false, false, false, false]) 3 rfl (by kernel_rfl) (by kernel_rfl) (by kernel_rfl) rfl rfl rfl rfl (gives_move rfl rfl) (fun w hw => trivial) ?_
   refine TH.take (listed' := #[true, true, false, true, true, false, false, false, false]) 4 rfl (by kernel_rfl) (by kernel_rfl) (by kernel_rfl) rfl rfl rfl rfl (gives_move rfl rfl) (fun w hw => trivial) ?_
   refine TH.take (listed' := #[true, true, false, true, true, true, false, false, false]) 5 rfl (by kernel_rfl) (by kernel_rfl) (by kernel_rfl) rfl rfl rfl rfl (gives_bin rfl rfl rfl (fun w => bin_add_ (r := ((p + 1 : Nat) : Int)) (by simp only [IntKind.wrap_i64]; omega) w)) (fun w hw => trivial) ?_
   refine TH.take (listed' := #[true, true, false, true, true, true, true, false, false]) 6 rfl (by kernel_rfl) (by kernel_rfl) (by kernel_rfl) rfl rfl rfl rfl (gives_sliceL rfl rfl rfl (fun w => cut_lo1 (lo := p + 1) Tryd.underlying28 (fun w => rfl) _ _ _ rfl (by omega) w)) (fun w hw => trivial) ?_
   refine TH.only (listed' := #[true, true, true, true, true, true, true, false, false]) 2 rfl (by kernel_rfl) rfl rfl ?_
   refine TL.rowhead (k := 0) (size := 1) (hi := p) (xs' := bv (l.take p)) rfl rfl rfl rfl rfl rfl Tryd.underlying28 (fun w => rfl) rfl (by omega) hA21 (by rw [Nat.mul_one]; simp [bv, List.map_take]) ?_
   refine TL.end_ ?_
   refine TX.held (fun w hw => trivial) ?_
   refine TH.only (listed' := #[true, true, true, true, true, true, true, true, false]) 7 rfl (by kernel_rfl) rfl rfl ?_
   refine TL.append (k := 0) rfl rfl rfl rfl elU8 rfl rfl rfl (fun w1 hw => ⟨_, ((hsrc w1 _ hw (fun q hq => by simp [hq])).cut (k := p + 1) (cap := c) (by omega) hnc).1⟩) (bv_one _) (by rw [Nat.mul_one]; omega) (p + (n - (p + 1))) rfl (fun A3 c3 hA31 hA32 => ?_)
   refine TL.end_ ?_
   refine TX.held (fun w hw => trivial) ?_
   refine TH.take (listed' := #[true, true, true, true, true, true, true, true, true]) 8 rfl (by kernel_rfl) (by kernel_rfl) (by kernel_rfl) rfl rfl rfl rfl (gives_assign rfl rfl) (fun w hw => trivial) ?_
   refine TH.done (by kernel_rfl) ?_
   refine TX.then_ (TC.ret_ (TX.in_ret (TX.then_ret ?_)))
   refine TX.cut [(4, .slice A3 (p + (n - (p + 1))) c3)] (Pm ⟨w, cb⟩ (.row (.slice A3 (p + (n - (p + 1))) c3) 5 1 (p + (n - (p + 1))) (bv (l.take p ++ l.drop (p + 1))) :: .abs cb (fun w => Cod w cb) :: oths cb w)) ⟨rfl, trivial⟩ (fun w1 hw => by rw [bv_app]; exact hw) ?_
   exact ret_tmp Tryd.results17 (v := .slice A3 (p + (n - (p + 1))) c3) rfl (fun w1 hw => ⟨A3, p + (n - (p + 1)), c3, l.take p ++ l.drop (p + 1), rfl, hA31, hA32, by omega, ((hl.2.take p).app (hl.2.drop (p + 1))), Pm.codr [_] (hw.sel (List.Sublist.refl _)) rfl⟩)
  ·refine TC.seq_ (TC.region ?_)
   refine TL.val rfl rfl rfl (gives_bin rfl rfl rfl (fun w => bin_eql w)) ?_
   refine TL.val rfl rfl rfl (gives_assign rfl rfl) ?_
   refine TL.end_ (TX.then_ ?_)
   refine TC.split rfl (fun hc32 => ?_) (fun hc32 => ?_)
   ·refine TC.seq_ (TC.region ?_)
    refine TL.val rfl rfl rfl (gives_move rfl rfl) ?_
    refine TL.val rfl rfl rfl (gives_move rfl rfl) ?_
    refine TL.pcallCod (k := 1) (α := {x : Nat // x ≤ 65535 ∧ (1 ≤ (256 : Int) → (x : Int) < 256)}) (fun x => .int .i64 (x.1 : Int)) (fun _ => []) rfl rfl rfl rfl rfl Tryd.func21 nmNext bdNext rfl (fun w1 hw hC1 => next_cod cb w1 256 hC1) ?_
    rintro ⟨x, hx1, hx2⟩
    dsimp only [List.nil_append] at hx1 hx2 ⊢
    refine TL.val rfl rfl rfl (gives_conv rfl rfl (fun w => conv_fit Tryd.underlying5 Tryd.underlying3 (by simp only [IntKind.wrap_u8]; omega) w)) ?_
    refine TL.prow (cs := bv [(x : Int)]) rfl rfl rfl rfl rfl (fun w => row1 _ w) (by decide) rfl (fun g1 => ?_)
    refine TL.append (k := 1) rfl rfl rfl rfl elU8 rfl rfl rfl (fun w1 hw => pm_reads hw (k := 0) rfl) (bv_one _) (by rw [Nat.mul_one]; omega) (n + 1) rfl (fun A3 c3 hA31 hA32 => ?_)
    refine TL.val rfl rfl rfl (gives_assign rfl rfl) ?_
    refine TL.end_ (TX.then_ (TC.ret_ (TX.in_ret (TX.then_ret ?_))))
    refine TX.cut [(4, .slice A3 (n + 1) c3)] (Pm ⟨w, cb⟩ (.row (.slice A3 (n + 1) c3) 5 1 (n + 1) (bv (l ++ [(x : Int)])) :: .abs cb (fun w => Cod w cb) :: oths cb w)) ⟨rfl, trivial⟩ (fun w1 hw => by rw [bv_app]; exact Pm.tail hw) ?_
    exact ret_tmp Tryd.results17 (v := .slice A3 (n + 1) c3) rfl (fun w1 hw => ⟨A3, n + 1, c3, l ++ [(x : Int)], rfl, hA31, hA32, by omega, (hl.2.app (bs_one (by omega))), Pm.codr [_] (hw.sel (List.Sublist.refl _)) rfl⟩)
   ·refine TC.skip_ (TX.in_normal (TX.then_ (TC.seq_ ?_)))
    refine TC.fact (p := ∃ g2, A2 = some ⟨g2, 0, none⟩) (fun w1 hw => row_some (hw.at_ (k := 0) rfl) (by omega)) (fun hg2 => ?_)
    obtain ⟨g2, rfl⟩ := hg2
    obtain ⟨y, hy0⟩ : ∃ y, l[p]? = some y := ⟨_, List.getElem?_eq_getElem (by omega)⟩
    have hy : (bv l)[0 + p]? = some (.int .u8 y) := by rw [Nat.zero_add]; simp [bv, hy0]
    refine TC.held (ls := #[false, false, false, false, false, false, false, false, false, false, false]) (fun _ => True) (by kernel_rfl) rfl rfl (fun w hw => hw.drawn _) ?_
    refine TH.take (listed' := #[true, false, false, false, false, false, false, false, false, false, false]) 0 rfl (by kernel_rfl) (by kernel_rfl) (by kernel_rfl) rfl rfl rfl rfl (gives_move rfl rfl) (fun w hw => trivial) ?_
    refine TH.take (listed' := #[true, true, false, false, false, false, false, false, false, false, false]) 1 rfl (by kernel_rfl) (by kernel_rfl) (by kernel_rfl) rfl rfl rfl rfl (gives_move rfl rfl) (fun w hw => trivial) ?_
    refine TH.take (listed' := #[true, true, true, false, false, false, false, false, false, false, false]) 2 rfl (by kernel_rfl) (by kernel_rfl) (by kernel_rfl) rfl rfl rfl rfl (gives_at rfl rfl rfl (fun w => at_u8 g2 0 n c2 p (by omega) w)) (fun w hw => trivial) ?_
    refine TH.take (listed' := #[true, true, true, false, true, false, false, false, false, false, false]) 4 rfl (by kernel_rfl) (by kernel_rfl) (by kernel_rfl) rfl rfl rfl rfl (gives_move rfl rfl) (fun w hw => trivial) ?_
    refine TH.two (listed1 := #[true, true, true, true, true, false, false, false, false, false, false]) (listed2 := #[true, true, true, false, true, true, false, false, false, false, false]) 3 5 rfl rfl (by kernel_rfl) rfl rfl rfl rfl ?_ ?_
    ·refine TL.val rfl rfl rfl (pm_loadRow (k := 0) (v := .int .u8 y) rfl rfl (fun w => rfl) rfl hy) ?_
     refine TL.end_ ?_
     refine TX.held (fun w hw => trivial) ?_
     refine TH.only (listed' := #[true, true, true, true, true, true, false, false, false, false, false]) 5 rfl (by kernel_rfl) rfl rfl ?_
     refine TL.pcallCod (k := 1) (α := {x : Nat // x ≤ 65535 ∧ (1 ≤ (255 : Int) → (x : Int) < 255)}) (fun x => .int .i64 (x.1 : Int)) (fun _ => []) rfl rfl rfl rfl rfl Tryd.func21 nmNext bdNext rfl (fun w1 hw hC1 => next_cod cb w1 255 hC1) ?_
     rintro ⟨x, hx1, hx2⟩
     dsimp only [List.nil_append] at hx1 hx2 ⊢
     refine TL.end_ ?_
     refine TX.held (fun w hw => trivial) ?_
     refine TH.take (listed' := #[true, true, true, true, true, true, true, false, false, false, false]) 6 rfl (by kernel_rfl) (by kernel_rfl) (by kernel_rfl) rfl rfl rfl rfl (gives_bin rfl rfl rfl (fun w => bin_add_ (r := 1 + (x : Int)) (by simp only [IntKind.wrap_i64]; omega) w)) (fun w hw => trivial) ?_
     refine TH.take (listed' := #[true, true, true, true, true, true, true, true, false, false, false]) 7 rfl (by kernel_rfl) (by kernel_rfl) (by kernel_rfl) rfl rfl rfl rfl (gives_conv rfl rfl (fun w => conv_fit Tryd.underlying5 Tryd.underlying3 (by simp only [IntKind.wrap_u8]; omega) w)) (fun w hw => trivial) ?_
     refine TH.take (listed' := #[true, true, true, true, true, true, true, true, true, false, false]) 8 rfl (by kernel_rfl) (by kernel_rfl) (by kernel_rfl) rfl rfl rfl rfl (gives_bin rfl rfl rfl (fun w => bin_bits (.inr (.inr rfl)) w)) (fun w hw => trivial) ?_
     refine TH.take (listed' := #[true, true, true, true, true, true, true, true, true, true, false]) 9 rfl (by kernel_rfl) (by kernel_rfl) (by kernel_rfl) rfl rfl rfl rfl (gives_at rfl rfl rfl (fun w => at_u8 g2 0 n c2 p (by omega) w)) (fun w hw => trivial) ?_
     refine TH.only (listed' := #[true, true, true, true, true, true, true, true, true, true, true]) 10 rfl (by kernel_rfl) rfl rfl ?_
     refine TL.rowset (k := 0) (vs := [.int .u8 (bits .xor .u8 y (1 + (x : Int)))]) rfl rfl rfl rfl rfl rfl rfl (fun w => rfl) (one1b _) (by simp only [bv_len, List.length_singleton]; omega) (xs' := bv (l.take p ++ [bits .xor .u8 y (1 + (x : Int))] ++ l.drop (p + 1))) (by rw [Nat.zero_add]; simp [bv, List.map_take, List.map_drop]) ?_
     refine TL.end_ ?_
     refine TX.held (fun w hw => trivial) ?_
     refine TH.done (by kernel_rfl) ?_
     refine TX.then_ (TC.seq_ (TC.region ?_))
     refine TL.val rfl rfl rfl (gives_move rfl rfl) ?_
     refine TL.val rfl rfl rfl (gives_assign rfl rfl) ?_
     refine TL.end_ (TX.then_ (TC.ret_ ?_))
     exact ret_tmp Tryd.results17 (v := .slice (some ⟨g2, 0, none⟩) (n) c2) rfl (fun w1 hw => ⟨(some ⟨g2, 0, none⟩), n, c2, _, rfl, hA21, hA22, by omega, (((hl.2.take p).app (bs_one (u8_bits _ _ _))).app (hl.2.drop (p + 1))), Pm.codr [_] (hw.sel (List.Sublist.refl _)) rfl⟩)
    ·refine TL.pcallCod (k := 1) (α := {x : Nat // x ≤ 65535 ∧ (1 ≤ (255 : Int) → (x : Int) < 255)}) (fun x => .int .i64 (x.1 : Int)) (fun _ => []) rfl rfl rfl rfl rfl Tryd.func21 nmNext bdNext rfl (fun w1 hw hC1 => next_cod cb w1 255 hC1) ?_
     rintro ⟨x, hx1, hx2⟩
     dsimp only [List.nil_append] at hx1 hx2 ⊢
     refine TL.end_ ?_
     refine TX.held (fun w hw => trivial) ?_
     refine TH.take (listed' := #[true, true, true, false, true, true, true, false, false, false, false]) 6 rfl (by kernel_rfl) (by kernel_rfl) (by kernel_rfl) rfl rfl rfl rfl (gives_bin rfl rfl rfl (fun w => bin_add_ (r := 1 + (x : Int)) (by simp only [IntKind.wrap_i64]; omega) w)) (fun w hw => trivial) ?_
     refine TH.take (listed' := #[true, true, true, false, true, true, true, true, false, false, false]) 7 rfl (by kernel_rfl) (by kernel_rfl) (by kernel_rfl) rfl rfl rfl rfl (gives_conv rfl rfl (fun w => conv_fit Tryd.underlying5 Tryd.underlying3 (by simp only [IntKind.wrap_u8]; omega) w)) (fun w hw => trivial) ?_
     refine TH.only (listed' := #[true, true, true, true, true, true, true, true, false, false, false]) 3 rfl (by kernel_rfl) rfl rfl ?_
     refine TL.val rfl rfl rfl (pm_loadRow (k := 0) (v := .int .u8 y) rfl rfl (fun w => rfl) rfl hy) ?_
     refine TL.end_ ?_
     refine TX.held (fun w hw => trivial) ?_
     refine TH.take (listed' := #[true, true, true, true, true, true, true, true, true, false, false]) 8 rfl (by kernel_rfl) (by kernel_rfl) (by kernel_rfl) rfl rfl rfl rfl (gives_bin rfl rfl rfl (fun w => bin_bits (.inr (.inr rfl)) w)) (fun w hw => trivial) ?_
     refine TH.take (listed' := #[true, true, true, true, true, true, true, true, true, true, false]) 9 rfl (by kernel_rfl) (by kernel_rfl) (by kernel_rfl) rfl rfl rfl rfl (gives_at rfl rfl rfl (fun w => at_u8 g2 0 n c2 p (by omega) w)) (fun w hw => trivial) ?_
     refine TH.only (listed' := #[true, true, true, true, true, true, true, true, true, true, true]) 10 rfl (by kernel_rfl) rfl rfl ?_
     refine TL.rowset (k := 0) (vs := [.int .u8 (bits .xor .u8 y (1 + (x : Int)))]) rfl rfl rfl rfl rfl rfl rfl (fun w => rfl) (one1b _) (by simp only [bv_len, List.length_singleton]; omega) (xs' := bv (l.take p ++ [bits .xor .u8 y (1 + (x : Int))] ++ l.drop (p + 1))) (by rw [Nat.zero_add]; simp [bv, List.map_take, List.map_drop]) ?_
     refine TL.end_ ?_
     refine TX.held (fun w hw => trivial) ?_
     refine TH.done (by kernel_rfl) ?_
     refine TX.then_ (TC.seq_ (TC.region ?_))
     refine TL.val rfl rfl rfl (gives_move rfl rfl) ?_
     refine TL.val rfl rfl rfl (gives_assign rfl rfl) ?_
     refine TL.end_ (TX.then_ (TC.ret_ ?_))
     exact ret_tmp Tryd.results17 (v := .slice (some ⟨g2, 0, none⟩) (n) c2) rfl (fun w1 hw => ⟨(some ⟨g2, 0, none⟩), n, c2, _, rfl, hA21, hA22, by omega, (((hl.2.take p).app (bs_one (u8_bits _ _ _))).app (hl.2.drop (p + 1))), Pm.codr [_] (hw.sel (List.Sublist.refl _)) rfl⟩)
end Go.Proofs.YtmeaeeehnkcblaaDoor
