/-
  The walk of JournalResults.
-/
import Derived.Test.YtmeaeeehnkcblaaDoorPk4
import Derived.Test.YtmeaeeehnkcblaaDoorPk5
import Derived.Test.YtmeaeeehnkcblaaDoorPk3
namespace Go.Proofs.YtmeaeeehnkcblaaDoor
open Go.RowKit
set_option linter.unusedVariables false
set_option linter.unusedSimpArgs false
set_option maxRecDepth 20000
theorem own_cell {w : World} {base g n c size : Nat} {e : TypeId} {xs : List Value} (h : w.ownsRow base e size (.slice (some ⟨g, 0, none⟩) n c) n xs) (j : Nat) (u : Value) (hu : xs[j]? = some u) : w.cell? ⟨g, 0 + j, none⟩ = some u := by
 have e1 : (⟨g, 0, none⟩ : Addr).add j = ⟨g, 0 + j, none⟩ := by unfold Addr.add; split <;> simp_all
 rw [← e1]
 exact h.cells (g := g) rfl j u hu
theorem blk_cell {w : World} {g : Nat} {t : TypeId} {cs : List Value} (h : Blk w g t cs.toArray) {j : Nat} {u : Value} (hu : cs[j]? = some u) : w.cell? ⟨g, 0 + j, none⟩ = some u := by
 rw [Nat.zero_add, h.cell j]
 simpa using hu
theorem encO_len37 (x : Rs) : (encO x).length ≤ 37 := by rw [encO_len]; split <;> omega
theorem three_at {a b c : Rs} (ha : a.Ok) (hb : b.Ok) (hc : c.Ok) (i : Nat) (hi : i < 3) : ∃ x, [a, b, c][i]? = some x ∧ x.Ok := by
 match i, hi with
 | 0, _ => exact ⟨a, rfl, ha⟩
 | 1, _ => exact ⟨b, rfl, hb⟩
 | 2, _ => exact ⟨c, rfl, hc⟩
theorem jlrag27 (w : World) : (isAgg 27).run Tryd.prog w = .ok true w := rfl
theorem jlrsz27 (w : World) : (sizeOf 27).run Tryd.prog w = .ok 17 w := rfl
theorem jlrnm9 : (Tryd.f9.name == "runtime.NumGoroutine") = false := by decide
theorem jlrbd9 : Tryd.f9.body.isNone = false := rfl
theorem jlrnm10 : (Tryd.f10.name == "runtime.NumGoroutine") = false := by decide
theorem jlrbd10 : Tryd.f10.body.isNone = false := rfl
theorem jlrnm11 : (Tryd.f11.name == "runtime.NumGoroutine") = false := by decide
theorem jlrbd11 : Tryd.f11.body.isNone = false := rfl
theorem jlrbs33_3_88864 (a0_0 : Int) (a0_1 : Int) (a0_2 : Int) (a0_3 : Int) (a0_4 : Int) (a0_5 : Int) (a0_6 : Int) (a0_7 : Int) (a0_8 : Bool) (a0_9 : Bool) (a0_10 : Int) (a0_11 : Int) (a0_12 : Int) (a0_13 : Int) (a0_14 : Int) (a0_15 : Int) (a0_16 : Int) (a1_0 : Int) (a1_1 : Int) (a1_2 : Int) (a1_3 : Int) (a1_4 : Int) (a1_5 : Int) (a1_6 : Int) (a1_7 : Int) (a1_8 : Bool) (a1_9 : Bool) (a1_10 : Int) (a1_11 : Int) (a1_12 : Int) (a1_13 : Int) (a1_14 : Int) (a1_15 : Int) (a1_16 : Int) (a2_0 : Int) (a2_1 : Int) (a2_2 : Int) (a2_3 : Int) (a2_4 : Int) (a2_5 : Int) (a2_6 : Int) (a2_7 : Int) (a2_8 : Bool) (a2_9 : Bool) (a2_10 : Int) (a2_11 : Int) (a2_12 : Int) (a2_13 : Int) (a2_14 : Int) (a2_15 : Int) (a2_16 : Int) (w : World) : (Instr.buildSlice 33 3 #[(0, .agg #[.int .i64 a0_0, .int .i64 a0_1, .int .i64 a0_2, .int .i64 a0_3, .int .u32 a0_4, .int .i64 a0_5, .int .i64 a0_6, .int .i64 a0_7, .bool a0_8, .bool a0_9, .int .i64 a0_10, .int .u32 a0_11, .int .i64 a0_12, .int .i64 a0_13, .int .i64 a0_14, .int .i64 a0_15, .int .i64 a0_16]), (1, .agg #[.int .i64 a1_0, .int .i64 a1_1, .int .i64 a1_2, .int .i64 a1_3, .int .u32 a1_4, .int .i64 a1_5, .int .i64 a1_6, .int .i64 a1_7, .bool a1_8, .bool a1_9, .int .i64 a1_10, .int .u32 a1_11, .int .i64 a1_12, .int .i64 a1_13, .int .i64 a1_14, .int .i64 a1_15, .int .i64 a1_16]), (2, .agg #[.int .i64 a2_0, .int .i64 a2_1, .int .i64 a2_2, .int .i64 a2_3, .int .u32 a2_4, .int .i64 a2_5, .int .i64 a2_6, .int .i64 a2_7, .bool a2_8, .bool a2_9, .int .i64 a2_10, .int .u32 a2_11, .int .i64 a2_12, .int .i64 a2_13, .int .i64 a2_14, .int .i64 a2_15, .int .i64 a2_16])]).run Tryd.prog w = .ok (.slice (some ⟨w.heap.size, 0, none⟩) 3 3) (w.alloc (.cells [.int .i64 a0_0, .int .i64 a0_1, .int .i64 a0_2, .int .i64 a0_3, .int .u32 a0_4, .int .i64 a0_5, .int .i64 a0_6, .int .i64 a0_7, .bool a0_8, .bool a0_9, .int .i64 a0_10, .int .u32 a0_11, .int .i64 a0_12, .int .i64 a0_13, .int .i64 a0_14, .int .i64 a0_15, .int .i64 a0_16, .int .i64 a1_0, .int .i64 a1_1, .int .i64 a1_2, .int .i64 a1_3, .int .u32 a1_4, .int .i64 a1_5, .int .i64 a1_6, .int .i64 a1_7, .bool a1_8, .bool a1_9, .int .i64 a1_10, .int .u32 a1_11, .int .i64 a1_12, .int .i64 a1_13, .int .i64 a1_14, .int .i64 a1_15, .int .i64 a1_16, .int .i64 a2_0, .int .i64 a2_1, .int .i64 a2_2, .int .i64 a2_3, .int .u32 a2_4, .int .i64 a2_5, .int .i64 a2_6, .int .i64 a2_7, .bool a2_8, .bool a2_9, .int .i64 a2_10, .int .u32 a2_11, .int .i64 a2_12, .int .i64 a2_13, .int .i64 a2_14, .int .i64 a2_15, .int .i64 a2_16].toArray 27)) := by kernel_rfl
theorem jlrzv27 (w : World) : (zeroValue 27).run Tryd.prog w = .ok (.agg #[.int .i64 0, .int .i64 0, .int .i64 0, .int .i64 0, .int .u32 0, .int .i64 0, .int .i64 0, .int .i64 0, .bool false, .bool false, .int .i64 0, .int .u32 0, .int .i64 0, .int .i64 0, .int .i64 0, .int .i64 0, .int .i64 0]) w := rfl
theorem jlrnm12 : (Tryd.f12.name == "runtime.NumGoroutine") = false := by decide
theorem jlrbd12 : Tryd.f12.body.isNone = false := rfl
theorem jlrnm13 : (Tryd.f13.name == "runtime.NumGoroutine") = false := by decide
theorem jlrbd13 : Tryd.f13.body.isNone = false := rfl
theorem jlrnm14 : (Tryd.f14.name == "runtime.NumGoroutine") = false := by decide
theorem jlrbd14 : Tryd.f14.body.isNone = false := rfl
theorem jlrnm15 : (Tryd.f15.name == "runtime.NumGoroutine") = false := by decide
theorem jlrbd15 : Tryd.f15.body.isNone = false := rfl
theorem jlrnm16 : (Tryd.f16.name == "runtime.NumGoroutine") = false := by decide
theorem jlrbd16 : Tryd.f16.body.isNone = false := rfl
theorem jlrnm17 : (Tryd.f17.name == "runtime.NumGoroutine") = false := by decide
theorem jlrbd17 : Tryd.f17.body.isNone = false := rfl
theorem jlrbs40_3_22048 (a0_0 : Option Addr) (a0_0n a0_0c : Nat) (a1_0 : Option Addr) (a1_0n a1_0c : Nat) (a2_0 : Option Addr) (a2_0n a2_0c : Nat) (w : World) : (Instr.buildSlice 40 3 #[(0, .slice a0_0 a0_0n a0_0c), (1, .slice a1_0 a1_0n a1_0c), (2, .slice a2_0 a2_0n a2_0c)]).run Tryd.prog w = .ok (.slice (some ⟨w.heap.size, 0, none⟩) 3 3) (w.alloc (.cells [.slice a0_0 a0_0n a0_0c, .slice a1_0 a1_0n a1_0c, .slice a2_0 a2_0n a2_0c].toArray 28)) := by kernel_rfl
theorem jlrnm18 : (Tryd.f18.name == "runtime.NumGoroutine") = false := by decide
theorem jlrbd18 : Tryd.f18.body.isNone = false := rfl
theorem jlrone_i64i64i64i64u32i64i64i64bbi64u32i64i64i64i64i64 {a0 : Int} {a1 : Int} {a2 : Int} {a3 : Int} {a4 : Int} {a5 : Int} {a6 : Int} {a7 : Int} {a8 : Bool} {a9 : Bool} {a10 : Int} {a11 : Int} {a12 : Int} {a13 : Int} {a14 : Int} {a15 : Int} {a16 : Int} : ∀ u ∈ [(.int .i64 a0 : Value), .int .i64 a1, .int .i64 a2, .int .i64 a3, .int .u32 a4, .int .i64 a5, .int .i64 a6, .int .i64 a7, .bool a8, .bool a9, .int .i64 a10, .int .u32 a11, .int .i64 a12, .int .i64 a13, .int .i64 a14, .int .i64 a15, .int .i64 a16], u.oneCell' = true := by
 intro u hu
 simp only [List.mem_cons, List.not_mem_nil, or_false] at hu
 rcases hu with rfl | rfl | rfl | rfl | rfl | rfl | rfl | rfl | rfl | rfl | rfl | rfl | rfl | rfl | rfl | rfl | rfl <;> rfl
theorem jlrnm19 : (Tryd.f19.name == "runtime.NumGoroutine") = false := by decide
theorem jlrbd19 : Tryd.f19.body.isNone = false := rfl
set_option maxHeartbeats 4000000 in
set_option maxRecDepth 100000 in
theorem journalResults_walk (r : Rs) (A1 : Option Addr) (n1 c1 : Nat) (l1 : List Int) (A2 : Option Addr) (n2 c2 : Nat) (l2 : List Int) (w : World) (hro : r.Ok) (hb1 : Byt w w.heap.size A1 n1 l1) (hnc1 : n1 ≤ c1) (hm1 : c1 ≤ maxLen) (hb2 : Byt w w.heap.size A2 n2 l2) (hnc2 : n2 ≤ c2) (hm2 : c2 ≤ maxLen) {ts tk : TypeId} (hst : Blk w 0 ts start8.cells) (hky : Blk w 1 tk (arrOf keysL)) :
  Calls Tryd.prog 3 #[.agg r.cells.toArray, .slice A1 n1 c1, .slice A2 n2 c2] w fun e w' => e = .returned (.bool true) ∧ Below w.heap.size w w' := by
 refine begin_ (vs := [.agg r.cells.toArray, .slice A1 n1 c1, .slice A2 n2 c2]) Tryd.func3 rfl rfl rfl ?_ (Pm.start w)
 refine TC.seq_ (TC.region ?_)
 refine TL.pnew rfl rfl rfl (exec_box (cs := r.cells) rfl rfl rfl) (fun g3 => ?_)
 refine TL.val rfl rfl rfl (gives_assign rfl rfl) ?_
 refine TL.end_ (TX.then_ (TC.seq_ (TC.seq_ (TC.region ?_))))
 refine TL.pcall1 (r := .bool true) rfl rfl rfl rfl rfl Tryd.func9 jlrnm9 jlrbd9 (fun w1 hw => awake_any w1 (hst.below hw.bel hst.lt) (hky.below hw.bel hky.lt)) ?_
 iterate 5 (first | refine TL.on rfl rfl rfl ?_ | refine TL.val rfl rfl rfl (gives_move rfl rfl) ?_ | refine TL.val rfl rfl rfl (gives_boolnot rfl rfl) ?_)
 refine TL.val rfl rfl rfl (gives_len rfl Tryd.underlying28 rfl) ?_
 refine TL.on rfl rfl rfl ?_
 refine TL.vsplit rfl rfl rfl (gives_bin rfl rfl rfl (fun w => bin_gtr w)) (fun h27 => ?_) (fun h27 => ?_)
 ·have q27 := of_decide_eq_true h27
  refine TL.val rfl rfl rfl (gives_pick rfl rfl rfl) ?_
  refine TL.end_ (TX.then_ (TC.condT rfl (TC.seq_ (TC.region ?_))))
  refine TL.val rfl rfl rfl (gives_move rfl rfl) ?_
  refine TL.val rfl rfl rfl (gives_len rfl Tryd.underlying28 rfl) ?_
  refine TL.val rfl rfl rfl (gives_bin rfl rfl rfl (fun w => bin_gtr_t (by omega) w)) ?_
  refine TL.val rfl rfl rfl (gives_assign rfl rfl) ?_
  refine TL.end_ (TX.then_ (TC.ret_ (TX.then_ret ?_)))
  exact ret_tmp Tryd.results3 rfl (fun w1 hw => ⟨rfl, hw.bel⟩)
 ·have q27 := of_decide_eq_false h27
  have hmx : n1 ≤ 140737488355328 := by omega
  refine TL.val rfl rfl rfl (gives_pick rfl rfl rfl) ?_
  refine TL.end_ (TX.then_ (TC.condF rfl (TC.skip_ (TX.then_ (TC.seq_ (TC.region ?_))))))
  refine TL.val rfl rfl rfl (gives_move rfl rfl) ?_
  refine TL.callNew (I := Pm w [.blk g3 27 r.cells]) (p := fun cb w => Cod w cb) rfl rfl rfl rfl rfl Tryd.func10 jlrnm10 jlrbd10 (fun w1 hw => (new_any A2 n2 c2 l2 w1 100 ((hb2.below hw.bel).more hw.bel.size) hnc2 (by have := hm2; unfold maxLen at this; omega) (by decide) (by decide)).mono fun e w2 ⟨h1, h2, h3, _⟩ => ⟨h1, h2, cod_cells h2, h3⟩) cod_stab (fun wn hwn => ?_)
  have hg3 := (hwn.at_ (k := 0) rfl).1
  have hl3 := hg3.lt
  have hb1n := (hb1.below hwn.bel).more hwn.bel.size
  refine TL.val rfl rfl rfl (gives_assign rfl rfl) ?_
  refine TL.end_ (TX.then_ (TC.seq_ (TC.seq_ ?_)))
  refine TC.held (ls := #[false, false, false, false, false, false, false, false]) (Pm wn [.abs wn.heap.size (fun w => Cod w wn.heap.size)]) (by kernel_rfl) rfl rfl (fun w hw => hw.drawn _) ?_
  refine TH.take (listed' := #[true, false, false, false, false, false, false, false]) 0 rfl (by kernel_rfl) (by kernel_rfl) (by kernel_rfl) rfl rfl rfl rfl (gives_loadR rfl rfl jlrag27 jlrsz27 (rs_cells_len r) (fun w2 hw j u hu => (hw.bel.cell hl3).trans (blk_cell hg3 hu))) (fun w1 hw => hw) ?_
  refine TH.take (listed' := #[true, true, false, false, false, false, false, false]) 1 rfl (by kernel_rfl) (by kernel_rfl) (by kernel_rfl) rfl rfl rfl rfl (gives_move rfl rfl) (fun w1 hw => hw) ?_
  refine TH.take (listed' := #[true, true, false, true, false, false, false, false]) 3 rfl (by kernel_rfl) (by kernel_rfl) (by kernel_rfl) rfl rfl rfl rfl (gives_move rfl rfl) (fun w1 hw => hw) ?_
  refine TH.take (listed' := #[true, true, false, true, false, false, false, true]) 7 rfl (by kernel_rfl) (by kernel_rfl) (by kernel_rfl) rfl rfl rfl rfl (gives_move rfl rfl) (fun w1 hw => hw) ?_
  refine TH.only' (listed' := #[true, true, true, true, false, false, false, true]) 2 rfl (by kernel_rfl) rfl ?_
  refine TL.pcallCod (k := 0) (α := {x : Rs // x.Ok}) (fun y => .agg (y.1.cells).toArray) (fun y => []) rfl rfl rfl rfl rfl Tryd.func11 jlrnm11 jlrbd11 rfl (fun w1 hw hC1 => result_cod wn.heap.size w1 hC1) ?_
  rintro ⟨r36, hr36⟩
  dsimp only [List.cons_append, List.nil_append] at hr36 ⊢
  refine TL.end_ ?_
  refine TX.held (fun w1 hw => hw) ?_
  refine TH.only' (listed' := #[true, true, true, true, true, false, false, true]) 4 rfl (by kernel_rfl) rfl ?_
  refine TL.pcallCod (k := 0) (α := {x : Rs // x.Ok}) (fun y => .agg (y.1.cells).toArray) (fun y => []) rfl rfl rfl rfl rfl Tryd.func11 jlrnm11 jlrbd11 rfl (fun w1 hw hC1 => result_cod wn.heap.size w1 hC1) ?_
  rintro ⟨r38, hr38⟩
  dsimp only [List.cons_append, List.nil_append] at hr38 ⊢
  refine TL.end_ ?_
  refine TX.held (fun w1 hw => hw) ?_
  refine TH.only' (listed' := #[true, true, true, true, true, true, false, true]) 5 rfl (by kernel_rfl) rfl ?_
  refine TL.prowS (e := 27) (size := 17) (cs := rcs [r, r36, r38]) rfl rfl rfl rfl rfl (fun w => jlrbs33_3_88864 _ _ _ _ _ _ _ _ _ _ _ _ _ _ _ _ _ _ _ _ _ _ _ _ _ _ _ _ _ _ _ _ _ _ _ _ _ _ _ _ _ _ _ _ _ _ _ _ _ _ _ w) (by decide) rfl (fun g39 => ?_)
  refine TL.end_ ?_
  refine TX.held (fun w1 hw => hw.pick [1] (by decide) rfl) ?_
  refine TH.take (listed' := #[true, true, true, true, true, true, true, true]) 6 rfl (by kernel_rfl) (by kernel_rfl) (by kernel_rfl) rfl rfl rfl rfl (gives_len rfl Tryd.underlying33 rfl) (fun w1 hw => hw.pick [1] (by decide) rfl) ?_
  refine TH.done (by kernel_rfl) ?_
  refine TX.then_ (TC.block ?_)
  refine TC.loop_ (α := {i : Nat // i ≤ 3}) (fun y => [(1, .slice A1 n1 c1), (7, .pointer (some ⟨wn.heap.size, 0, none⟩)), (39, .slice (some ⟨g39, 0, none⟩) 3 3), (40, .int .i64 3), (41, .int .i64 (y.1 : Nat))]) (fun y => Pm wn [.row (.slice (some ⟨g39, 0, none⟩) 3 3) 27 17 3 (rcs [r, r36, r38]), .abs wn.heap.size (fun w => Cod w wn.heap.size)]) (fun y => 3 - y.1) (⟨0, Nat.zero_le _⟩) ⟨rfl, rfl, rfl, rfl, rfl, trivial⟩ (fun w1 hw => hw) ?_
  rintro ⟨i, hi⟩
  dsimp only at hi ⊢
  refine TC.seq_ (TC.region ?_)
  refine TL.vsplit rfl rfl rfl (gives_bin rfl rfl rfl (fun w => bin_lss w)) (fun h42 => ?_) (fun h42 => ?_)
  ·have q42 := of_decide_eq_true h42
   have hi2 : i < 3 := by omega
   obtain ⟨x, hxr, hxo⟩ := three_at hro hr36 hr38 i hi2
   have hel := encO_len37 x
   refine TL.end_ (TX.then_ (TC.seq_ (TC.condT rfl (TC.skip_ (TX.then_ (TC.seq_ (TC.block (TC.seq_ (TC.region ?_)))))))))
   refine TL.val rfl rfl rfl (gives_at (v := .pointer (some ⟨g39, 0 + i * 17, none⟩)) rfl rfl rfl (fun w => at_el Tryd.underlying33 jlrsz27 rfl 3 3 i hi2 rfl w)) ?_
   refine TL.val rfl rfl rfl (gives_loadR rfl rfl jlrag27 jlrsz27 (rs_cells_len x) (fun w2 hw j u hu => rcs_cell hxr (own_cell (hw.at_ (k := 0) rfl)) j u hu)) ?_
   refine TL.pnew rfl rfl rfl (exec_alloc (cs := [.int .i64 0, .int .i64 0, .int .i64 0, .int .i64 0, .int .u32 0, .int .i64 0, .int .i64 0, .int .i64 0, .bool false, .bool false, .int .i64 0, .int .u32 0, .int .i64 0, .int .i64 0, .int .i64 0, .int .i64 0, .int .i64 0]) rfl jlrzv27 rfl) (fun g9 => ?_)
   refine TL.pstore (k := 0) (vs := x.cells) rfl rfl rfl rfl rfl rfl rfl jlrsz27 (rs_one x) (by show 17 ≤ 17; decide) (L' := [.blk g9 27 x.cells, .row (.slice (some ⟨g39, 0, none⟩) 3 3) 27 17 3 (rcs [r, r36, r38]), .abs wn.heap.size (fun w => Cod w wn.heap.size)]) rfl ?_
   refine TL.end_ (TX.then_ (TC.seq_ (TC.region ?_)))
   refine TL.val rfl rfl rfl (pm_loadV (k := 0) (i := 0) (n := 17) (v := .agg (x.cells).toArray) rfl rfl jlrag27 jlrsz27 rfl (by show 17 ≤ 17; decide) rfl) ?_
   refine TL.pcallPair (n := (encO x).length) (ys := bv (encO x)) (v := .int .i64 (chkR x)) rfl rfl rfl rfl rfl Tryd.func12 jlrnm12 jlrbd12 (fun w1 hw => encode_any x hxo w1) (fun A47 c47 hA471 hA472 => ?_)
   iterate 5 (first | refine TL.val rfl rfl rfl (gives_assign rfl rfl) ?_ | refine TL.val rfl rfl rfl (gives_extract rfl rfl rfl) ?_ | refine TL.val rfl rfl rfl (gives_move rfl rfl) ?_)
   refine TL.end_ (TX.then_ (TC.seq_ (TC.region ?_)))
   refine TL.val rfl rfl rfl (pm_loadV (k := 1) (i := 0) (n := 17) (v := .agg (x.cells).toArray) rfl rfl jlrag27 jlrsz27 rfl (by show 17 ≤ 17; decide) rfl) ?_
   refine TL.pcallPair (n := (encO x).length) (ys := bv (encO x)) (v := .int .i64 (chkR x)) rfl rfl rfl rfl rfl Tryd.func13 jlrnm13 jlrbd13 (fun w1 hw => rencode_any x hxo w1) (fun A52 c52 hA521 hA522 => ?_)
   iterate 5 (first | refine TL.val rfl rfl rfl (gives_assign rfl rfl) ?_ | refine TL.val rfl rfl rfl (gives_extract rfl rfl rfl) ?_ | refine TL.val rfl rfl rfl (gives_move rfl rfl) ?_)
   refine TL.end_ (TX.then_ (TC.seq_ (TC.seq_ ?_)))
   refine TC.held (ls := #[false, false, false, false, false, false, false, false, false, false, false, false, false, false, false, false]) (Pm wn [.blk g9 27 x.cells]) (by kernel_rfl) rfl rfl (fun w hw => hw.drawn _) ?_
   refine TH.take (listed' := #[true, false, false, false, false, false, false, false, false, false, false, false, false, false, false, false]) 0 rfl (by kernel_rfl) (by kernel_rfl) (by kernel_rfl) rfl rfl rfl rfl (pm_loadV (k := 0) (i := 0) (n := 17) (v := .agg (x.cells).toArray) rfl rfl jlrag27 jlrsz27 rfl (by show 17 ≤ 17; decide) rfl) (fun w1 hw => hw.pick [2] (by decide) rfl) ?_
   refine TH.take (listed' := #[true, false, true, false, false, false, false, false, false, false, false, false, false, false, false, false]) 2 rfl (by kernel_rfl) (by kernel_rfl) (by kernel_rfl) rfl rfl rfl rfl (pm_loadV (k := 0) (i := 0) (n := 17) (v := .agg (x.cells).toArray) rfl rfl jlrag27 jlrsz27 rfl (by show 17 ≤ 17; decide) rfl) (fun w1 hw => hw.pick [2] (by decide) rfl) ?_
   refine TH.only' (listed' := #[true, true, true, false, false, false, false, false, false, false, false, false, false, false, false, false]) 1 rfl (by kernel_rfl) rfl ?_
   refine TL.pcall1 (r := .int .i64 (chkR x)) rfl rfl rfl rfl rfl Tryd.func14 jlrnm14 jlrbd14 (fun w1 hw => check_any x w1) ?_
   refine TL.end_ ?_
   refine TX.held (fun w1 hw => hw.pick [2] (by decide) rfl) ?_
   refine TH.only' (listed' := #[true, true, true, true, false, false, false, false, false, false, false, false, false, false, false, false]) 3 rfl (by kernel_rfl) rfl ?_
   refine TL.pcall1 (r := .int .i64 (chkR x)) rfl rfl rfl rfl rfl Tryd.func15 jlrnm15 jlrbd15 (fun w1 hw => rcheck_any x w1) ?_
   refine TL.end_ ?_
   refine TX.held (fun w1 hw => hw.pick [2] (by decide) rfl) ?_
   refine TH.take (listed' := #[true, true, true, true, true, false, false, false, false, false, false, false, false, false, false, false]) 4 rfl (by kernel_rfl) (by kernel_rfl) (by kernel_rfl) rfl rfl rfl rfl (gives_bin rfl rfl rfl (fun w => bin_neq_f (rfl) w)) (fun w1 hw => hw.pick [2] (by decide) rfl) ?_
   refine TH.take (listed' := #[true, true, true, true, true, true, false, false, false, false, false, false, false, false, false, false]) 5 rfl (by kernel_rfl) (by kernel_rfl) (by kernel_rfl) rfl rfl rfl rfl (gives_move rfl rfl) (fun w1 hw => hw.pick [2] (by decide) rfl) ?_
   refine TH.takeG (listed' := #[true, true, true, true, true, true, true, false, false, false, false, false, false, false, false, false]) 6 rfl (by kernel_rfl) (by kernel_rfl) (by kernel_rfl) rfl rfl rfl rfl rfl rfl (gives_move rfl rfl) (fun w1 hw => hw.pick [2] (by decide) rfl) ?_
   refine TH.takeG (listed' := #[true, true, true, true, true, true, true, true, false, false, false, false, false, false, false, false]) 7 rfl (by kernel_rfl) (by kernel_rfl) (by kernel_rfl) rfl rfl rfl rfl rfl rfl (gives_move rfl rfl) (fun w1 hw => hw.pick [2] (by decide) rfl) ?_
   refine TH.takeG (listed' := #[true, true, true, true, true, true, true, true, true, false, false, false, false, false, false, false]) 8 rfl (by kernel_rfl) (by kernel_rfl) (by kernel_rfl) rfl rfl rfl rfl rfl rfl (gives_bin rfl rfl rfl (fun w => bin_neq_f (rfl) w)) (fun w1 hw => hw.pick [2] (by decide) rfl) ?_
   refine TH.take (listed' := #[true, true, true, true, true, true, true, true, true, true, false, false, false, false, false, false]) 9 rfl (by kernel_rfl) (by kernel_rfl) (by kernel_rfl) rfl rfl rfl rfl (gives_pick rfl rfl rfl) (fun w1 hw => hw.pick [2] (by decide) rfl) ?_
   refine TH.take (listed' := #[true, true, true, true, true, true, true, true, true, true, true, false, false, false, false, false]) 10 rfl (by kernel_rfl) (by kernel_rfl) (by kernel_rfl) rfl rfl rfl rfl (gives_move rfl rfl) (fun w1 hw => hw.pick [2] (by decide) rfl) ?_
   refine TH.takeG (listed' := #[true, true, true, true, true, true, true, true, true, true, true, true, false, false, false, false]) 11 rfl (by kernel_rfl) (by kernel_rfl) (by kernel_rfl) rfl rfl rfl rfl rfl rfl (gives_move rfl rfl) (fun w1 hw => hw.pick [2] (by decide) rfl) ?_
   refine TH.takeG (listed' := #[true, true, true, true, true, true, true, true, true, true, true, true, true, false, false, false]) 12 rfl (by kernel_rfl) (by kernel_rfl) (by kernel_rfl) rfl rfl rfl rfl rfl rfl (gives_move rfl rfl) (fun w1 hw => hw.pick [2] (by decide) rfl) ?_
   refine TH.only' (listed' := #[true, true, true, true, true, true, true, true, true, true, true, true, true, true, false, false]) 13 rfl (by kernel_rfl) rfl ?_
   refine TL.on rfl rfl rfl ?_
   refine TL.pcall1 (r := .bool true) rfl rfl rfl rfl rfl Tryd.func16 jlrnm16 jlrbd16 (fun w1 hw => retb_lit (decide_eq_true rfl) ((requal_any _ _ _ _ _ _ (encO x) (encO x) w1 w1.heap.size (byt_own (hw.at_ (k := 1) rfl) (encO_bs _)) (byt_own (hw.at_ (k := 0) rfl) (encO_bs _)) (by have := hel; omega) (by have := hel; omega)).mono fun e w2 ⟨h1, q, h2⟩ => ⟨h1, h2 ▸ drewN_below q⟩)) ?_
   refine TL.end_ ?_
   refine TX.held (fun w1 hw => hw.pick [2] (by decide) rfl) ?_
   refine TH.takeG (listed' := #[true, true, true, true, true, true, true, true, true, true, true, true, true, true, true, false]) 14 rfl (by kernel_rfl) (by kernel_rfl) (by kernel_rfl) rfl rfl rfl rfl rfl rfl (gives_boolnot rfl rfl) (fun w1 hw => hw.pick [2] (by decide) rfl) ?_
   refine TH.take (listed' := #[true, true, true, true, true, true, true, true, true, true, true, true, true, true, true, true]) 15 rfl (by kernel_rfl) (by kernel_rfl) (by kernel_rfl) rfl rfl rfl rfl (gives_pick rfl rfl rfl) (fun w1 hw => hw.pick [2] (by decide) rfl) ?_
   refine TH.done (by kernel_rfl) ?_
   refine TX.then_ (TC.condF rfl (TC.skip_ (TX.then_ (TC.seq_ (TC.seq_ (TC.region ?_))))))
   iterate 4 (first | refine TL.val rfl rfl rfl (gives_move rfl rfl) ?_)
   refine TL.pcallCod (k := 4) (α := {s : Sl // s.n ≤ s.c ∧ s.c ≤ maxLen ∧ s.n ≤ (encO x).length + 1 ∧ Bs s.l}) (fun y => .slice y.1.A y.1.n y.1.c) (fun y => [.row (.slice y.1.A y.1.n y.1.c) 5 1 y.1.n (bv y.1.l)]) rfl rfl rfl rfl rfl Tryd.func17 jlrnm17 jlrbd17 rfl (fun w1 hw hC1 => (spoilt_cod wn.heap.size w1 A52 (encO x).length c52 (encO x) hC1 (byt_own (hw.at_ (k := 0) rfl) (encO_bs _)) (fun ad e hg => hw.neq (i := 0) (j := 4) rfl rfl (by decide) ad.block (by first | (subst e; rfl) | (cases e; rfl)) (congrArg some hg.symm)) hA521 (by have := hel; omega)).mono fun e w3 ⟨A', m, c', l', h1, h2, h3, h4, h5, h6⟩ => ⟨⟨⟨A', m, c', l'⟩, h2, h3, h4, h5⟩, h1, h6⟩) ?_
   rintro ⟨⟨A5, m5, c5, l5⟩, hm51, hm52, hm53, hm54⟩
   dsimp only [List.cons_append, List.nil_append] at hm51 hm52 hm53 hm54 ⊢
   refine TL.prowS (e := 28) (size := 1) (cs := [.slice A1 n1 c1, .slice A52 (encO x).length c52, .slice A5 m5 c5]) rfl rfl rfl rfl rfl (fun w => jlrbs40_3_22048 _ _ _ _ _ _ _ _ _ w) (by decide) rfl (fun g76 => ?_)
   refine TL.val rfl rfl rfl (gives_len rfl Tryd.underlying40 rfl) ?_
   refine TL.val rfl rfl rfl (gives_move rfl rfl) ?_
   refine TL.end_ (TX.then_ (TC.block ?_))
   refine TC.loop_ (α := {j : Nat // j ≤ 3}) (fun y => [(1, .slice A1 n1 c1), (7, .pointer (some ⟨wn.heap.size, 0, none⟩)), (9, .pointer (some ⟨g9, 0, none⟩)), (10, .slice A47 ((encO x).length) c47), (11, .int .i64 (chkR x)), (39, .slice (some ⟨g39, 0, none⟩) 3 3), (40, .int .i64 3), (41, .int .i64 (i : Nat)), (76, .slice (some ⟨g76, 0, none⟩) 3 3), (77, .int .i64 3), (78, .int .i64 (y.1 : Nat))]) (fun y => Pm wn [.row (.slice (some ⟨g76, 0, none⟩) 3 3) 28 1 3 ([.slice A1 n1 c1, .slice A52 (encO x).length c52, .slice A5 m5 c5]), .row (.slice A5 m5 c5) 5 1 m5 (bv l5), .row (.slice A52 ((encO x).length) c52) 5 1 ((encO x).length) (bv (encO x)), .row (.slice A47 ((encO x).length) c47) 5 1 ((encO x).length) (bv (encO x)), .blk g9 27 x.cells, .row (.slice (some ⟨g39, 0, none⟩) 3 3) 27 17 3 (rcs [r, r36, r38]), .abs wn.heap.size (fun w => Cod w wn.heap.size)]) (fun y => 3 - y.1) (⟨0, Nat.zero_le _⟩) ⟨rfl, rfl, rfl, rfl, rfl, rfl, rfl, rfl, rfl, rfl, rfl, trivial⟩ (fun w1 hw => hw) ?_
   rintro ⟨j, hj⟩
   dsimp only at hj ⊢
   refine TC.seq_ (TC.region ?_)
   refine TL.vsplit rfl rfl rfl (gives_bin rfl rfl rfl (fun w => bin_lss w)) (fun h79 => ?_) (fun h79 => ?_)
   ·have q79 := of_decide_eq_true h79
    have hj3 : j < 3 := by omega
    refine TL.end_ (TX.then_ (TC.seq_ (TC.condT rfl (TC.skip_ (TX.then_ (TC.seq_ (TC.block (TC.seq_ ?_))))))))
    rcases (by omega : j = 0 ∨ j = 1 ∨ j = 2) with hj2 | hj2 | hj2
    ·refine TC.region ?_
     refine TL.val rfl rfl rfl (gives_at (v := .pointer (some ⟨g76, 0 + 0 * 1, none⟩)) rfl rfl rfl (fun w => at_el Tryd.underlying40 (fun w => rfl) rfl 3 3 0 (by omega) (by omega) w)) ?_
     refine TL.val rfl rfl rfl (pm_loadRow (k := 0) (v := .slice A1 n1 c1) rfl rfl (fun w => rfl) rfl rfl) ?_
     refine TL.val rfl rfl rfl (gives_assign rfl rfl) ?_
     refine TL.end_ (TX.then_ (TC.seq_ (TC.region ?_)))
     refine TL.val rfl rfl rfl (gives_move rfl rfl) ?_
     refine TL.pcall1 (r := .tuple #[.agg ((decR l1).cells).toArray, .int .i64 (decE l1)]) rfl rfl rfl rfl rfl Tryd.func18 jlrnm18 jlrbd18 (fun w1 hw => decode_any A1 n1 c1 l1 w1 ((hb1n.below hw.bel).more hw.bel.size) hnc1 (by have := hel; have := hmx; omega)) ?_
     refine TL.val rfl rfl rfl (gives_move rfl rfl) ?_
     refine TL.val rfl rfl rfl (gives_extract rfl rfl rfl) ?_
     refine TL.val rfl rfl rfl (gives_extract rfl rfl rfl) ?_
     refine TL.pnew rfl rfl rfl (exec_alloc (cs := [.int .i64 0, .int .i64 0, .int .i64 0, .int .i64 0, .int .u32 0, .int .i64 0, .int .i64 0, .int .i64 0, .bool false, .bool false, .int .i64 0, .int .u32 0, .int .i64 0, .int .i64 0, .int .i64 0, .int .i64 0, .int .i64 0]) rfl jlrzv27 rfl) (fun g16 => ?_)
     refine TL.pstore (k := 0) (vs := (decR l1).cells) rfl rfl rfl rfl rfl rfl rfl jlrsz27 jlrone_i64i64i64i64u32i64i64i64bbi64u32i64i64i64i64i64 (by show 17 ≤ 17; decide) (L' := [.blk g16 27 (decR l1).cells, .row (.slice (some ⟨g76, 0, none⟩) 3 3) 28 1 3 ([.slice A1 n1 c1, .slice A52 (encO x).length c52, .slice A5 m5 c5]), .row (.slice A5 m5 c5) 5 1 m5 (bv l5), .row (.slice A52 ((encO x).length) c52) 5 1 ((encO x).length) (bv (encO x)), .row (.slice A47 ((encO x).length) c47) 5 1 ((encO x).length) (bv (encO x)), .blk g9 27 x.cells, .row (.slice (some ⟨g39, 0, none⟩) 3 3) 27 17 3 (rcs [r, r36, r38]), .abs wn.heap.size (fun w => Cod w wn.heap.size)]) rfl ?_
     refine TL.val rfl rfl rfl (gives_assign rfl rfl) ?_
     refine TL.end_ (TX.then_ (TC.seq_ (TC.region ?_)))
     refine TL.val rfl rfl rfl (gives_move rfl rfl) ?_
     refine TL.pcall1 (r := .tuple #[.agg ((decR l1).cells).toArray, .int .i64 (decE l1)]) rfl rfl rfl rfl rfl Tryd.func19 jlrnm19 jlrbd19 (fun w1 hw => rdecode_any A1 n1 c1 l1 w1 ((hb1n.below hw.bel).more hw.bel.size) hnc1 (by have := hel; have := hmx; omega)) ?_
     refine TL.val rfl rfl rfl (gives_move rfl rfl) ?_
     refine TL.val rfl rfl rfl (gives_extract rfl rfl rfl) ?_
     refine TL.val rfl rfl rfl (gives_extract rfl rfl rfl) ?_
     refine TL.pnew rfl rfl rfl (exec_alloc (cs := [.int .i64 0, .int .i64 0, .int .i64 0, .int .i64 0, .int .u32 0, .int .i64 0, .int .i64 0, .int .i64 0, .bool false, .bool false, .int .i64 0, .int .u32 0, .int .i64 0, .int .i64 0, .int .i64 0, .int .i64 0, .int .i64 0]) rfl jlrzv27 rfl) (fun g18 => ?_)
     refine TL.pstore (k := 0) (vs := (decR l1).cells) rfl rfl rfl rfl rfl rfl rfl jlrsz27 jlrone_i64i64i64i64u32i64i64i64bbi64u32i64i64i64i64i64 (by show 17 ≤ 17; decide) (L' := [.blk g18 27 (decR l1).cells, .blk g16 27 (decR l1).cells, .row (.slice (some ⟨g76, 0, none⟩) 3 3) 28 1 3 ([.slice A1 n1 c1, .slice A52 (encO x).length c52, .slice A5 m5 c5]), .row (.slice A5 m5 c5) 5 1 m5 (bv l5), .row (.slice A52 ((encO x).length) c52) 5 1 ((encO x).length) (bv (encO x)), .row (.slice A47 ((encO x).length) c47) 5 1 ((encO x).length) (bv (encO x)), .blk g9 27 x.cells, .row (.slice (some ⟨g39, 0, none⟩) 3 3) 27 17 3 (rcs [r, r36, r38]), .abs wn.heap.size (fun w => Cod w wn.heap.size)]) rfl ?_
     refine TL.val rfl rfl rfl (gives_assign rfl rfl) ?_
     refine TL.end_ (TX.then_ (TC.seq_ (TC.region ?_)))
     refine TL.val rfl rfl rfl (pm_loadV (k := 1) (i := 0) (n := 17) (v := .agg ((decR l1).cells).toArray) rfl rfl jlrag27 jlrsz27 rfl (by show 17 ≤ 17; decide) rfl) ?_
     refine TL.val rfl rfl rfl (pm_loadV (k := 0) (i := 0) (n := 17) (v := .agg ((decR l1).cells).toArray) rfl rfl jlrag27 jlrsz27 rfl (by show 17 ≤ 17; decide) rfl) ?_
     refine TL.val rfl rfl rfl (gives_bin2 (v := .bool false) rfl rfl rfl (fun w => neqR_f (rfl) w)) ?_
     iterate 6 (first | refine TL.on rfl rfl rfl ?_ | refine TL.val rfl rfl rfl (gives_move rfl rfl) ?_)
     refine TL.val rfl rfl rfl (gives_bin rfl rfl rfl (fun w => bin_neq_f (rfl) w)) ?_
     refine TL.val rfl rfl rfl (gives_pick rfl rfl rfl) ?_
     refine TL.end_ (TX.then_ (TC.condF rfl (TC.skip_ (TX.in_normal (TX.then_ (TC.region ?_))))))
     refine TL.val rfl rfl rfl (gives_bin rfl rfl rfl (fun w => bin_add_ (r := ((j + 1 : Nat) : Int)) (by simp only [IntKind.wrap_i64]; omega) w)) ?_
     refine TL.val rfl rfl rfl (gives_move rfl rfl) ?_
     refine TL.end_ ?_
     exact TX.round (⟨j + 1, by omega⟩) (by show 3 - (j + 1) < 3 - j; omega) ⟨rfl, rfl, rfl, rfl, rfl, rfl, rfl, rfl, rfl, rfl, rfl, trivial⟩ (fun w1 hw => hw.pick [2, 3, 4, 5, 6, 7, 8] (by decide) rfl)
    ·refine TC.region ?_
     refine TL.val rfl rfl rfl (gives_at (v := .pointer (some ⟨g76, 0 + 1 * 1, none⟩)) rfl rfl rfl (fun w => at_el Tryd.underlying40 (fun w => rfl) rfl 3 3 1 (by omega) (by omega) w)) ?_
     refine TL.val rfl rfl rfl (pm_loadRow (k := 0) (v := .slice A52 ((encO x).length) c52) rfl rfl (fun w => rfl) rfl rfl) ?_
     refine TL.val rfl rfl rfl (gives_assign rfl rfl) ?_
     refine TL.end_ (TX.then_ (TC.seq_ (TC.region ?_)))
     refine TL.val rfl rfl rfl (gives_move rfl rfl) ?_
     refine TL.pcall1 (r := .tuple #[.agg ((decR (encO x)).cells).toArray, .int .i64 (decE (encO x))]) rfl rfl rfl rfl rfl Tryd.func18 jlrnm18 jlrbd18 (fun w1 hw => decode_any A52 (encO x).length c52 (encO x) w1 (byt_own (hw.at_ (k := 2) rfl) (encO_bs _)) hA521 (by have := hel; have := hmx; omega)) ?_
     refine TL.val rfl rfl rfl (gives_move rfl rfl) ?_
     refine TL.val rfl rfl rfl (gives_extract rfl rfl rfl) ?_
     refine TL.val rfl rfl rfl (gives_extract rfl rfl rfl) ?_
     refine TL.pnew rfl rfl rfl (exec_alloc (cs := [.int .i64 0, .int .i64 0, .int .i64 0, .int .i64 0, .int .u32 0, .int .i64 0, .int .i64 0, .int .i64 0, .bool false, .bool false, .int .i64 0, .int .u32 0, .int .i64 0, .int .i64 0, .int .i64 0, .int .i64 0, .int .i64 0]) rfl jlrzv27 rfl) (fun g16 => ?_)
     refine TL.pstore (k := 0) (vs := (decR (encO x)).cells) rfl rfl rfl rfl rfl rfl rfl jlrsz27 jlrone_i64i64i64i64u32i64i64i64bbi64u32i64i64i64i64i64 (by show 17 ≤ 17; decide) (L' := [.blk g16 27 (decR (encO x)).cells, .row (.slice (some ⟨g76, 0, none⟩) 3 3) 28 1 3 ([.slice A1 n1 c1, .slice A52 (encO x).length c52, .slice A5 m5 c5]), .row (.slice A5 m5 c5) 5 1 m5 (bv l5), .row (.slice A52 ((encO x).length) c52) 5 1 ((encO x).length) (bv (encO x)), .row (.slice A47 ((encO x).length) c47) 5 1 ((encO x).length) (bv (encO x)), .blk g9 27 x.cells, .row (.slice (some ⟨g39, 0, none⟩) 3 3) 27 17 3 (rcs [r, r36, r38]), .abs wn.heap.size (fun w => Cod w wn.heap.size)]) rfl ?_
     refine TL.val rfl rfl rfl (gives_assign rfl rfl) ?_
     refine TL.end_ (TX.then_ (TC.seq_ (TC.region ?_)))
     refine TL.val rfl rfl rfl (gives_move rfl rfl) ?_
     refine TL.pcall1 (r := .tuple #[.agg ((decR (encO x)).cells).toArray, .int .i64 (decE (encO x))]) rfl rfl rfl rfl rfl Tryd.func19 jlrnm19 jlrbd19 (fun w1 hw => rdecode_any A52 (encO x).length c52 (encO x) w1 (byt_own (hw.at_ (k := 3) rfl) (encO_bs _)) hA521 (by have := hel; have := hmx; omega)) ?_
     refine TL.val rfl rfl rfl (gives_move rfl rfl) ?_
     refine TL.val rfl rfl rfl (gives_extract rfl rfl rfl) ?_
     refine TL.val rfl rfl rfl (gives_extract rfl rfl rfl) ?_
     refine TL.pnew rfl rfl rfl (exec_alloc (cs := [.int .i64 0, .int .i64 0, .int .i64 0, .int .i64 0, .int .u32 0, .int .i64 0, .int .i64 0, .int .i64 0, .bool false, .bool false, .int .i64 0, .int .u32 0, .int .i64 0, .int .i64 0, .int .i64 0, .int .i64 0, .int .i64 0]) rfl jlrzv27 rfl) (fun g18 => ?_)
     refine TL.pstore (k := 0) (vs := (decR (encO x)).cells) rfl rfl rfl rfl rfl rfl rfl jlrsz27 jlrone_i64i64i64i64u32i64i64i64bbi64u32i64i64i64i64i64 (by show 17 ≤ 17; decide) (L' := [.blk g18 27 (decR (encO x)).cells, .blk g16 27 (decR (encO x)).cells, .row (.slice (some ⟨g76, 0, none⟩) 3 3) 28 1 3 ([.slice A1 n1 c1, .slice A52 (encO x).length c52, .slice A5 m5 c5]), .row (.slice A5 m5 c5) 5 1 m5 (bv l5), .row (.slice A52 ((encO x).length) c52) 5 1 ((encO x).length) (bv (encO x)), .row (.slice A47 ((encO x).length) c47) 5 1 ((encO x).length) (bv (encO x)), .blk g9 27 x.cells, .row (.slice (some ⟨g39, 0, none⟩) 3 3) 27 17 3 (rcs [r, r36, r38]), .abs wn.heap.size (fun w => Cod w wn.heap.size)]) rfl ?_
     refine TL.val rfl rfl rfl (gives_assign rfl rfl) ?_
     refine TL.end_ (TX.then_ (TC.seq_ (TC.region ?_)))
     refine TL.val rfl rfl rfl (pm_loadV (k := 1) (i := 0) (n := 17) (v := .agg ((decR (encO x)).cells).toArray) rfl rfl jlrag27 jlrsz27 rfl (by show 17 ≤ 17; decide) rfl) ?_
     refine TL.val rfl rfl rfl (pm_loadV (k := 0) (i := 0) (n := 17) (v := .agg ((decR (encO x)).cells).toArray) rfl rfl jlrag27 jlrsz27 rfl (by show 17 ≤ 17; decide) rfl) ?_
     refine TL.val rfl rfl rfl (gives_bin2 (v := .bool false) rfl rfl rfl (fun w => neqR_f (rfl) w)) ?_
     iterate 6 (first | refine TL.on rfl rfl rfl ?_ | refine TL.val rfl rfl rfl (gives_move rfl rfl) ?_)
     refine TL.val rfl rfl rfl (gives_bin rfl rfl rfl (fun w => bin_neq_f (rfl) w)) ?_
     refine TL.val rfl rfl rfl (gives_pick rfl rfl rfl) ?_
     refine TL.end_ (TX.then_ (TC.condF rfl (TC.skip_ (TX.in_normal (TX.then_ (TC.region ?_))))))
     refine TL.val rfl rfl rfl (gives_bin rfl rfl rfl (fun w => bin_add_ (r := ((j + 1 : Nat) : Int)) (by simp only [IntKind.wrap_i64]; omega) w)) ?_
     refine TL.val rfl rfl rfl (gives_move rfl rfl) ?_
     refine TL.end_ ?_
     exact TX.round (⟨j + 1, by omega⟩) (by show 3 - (j + 1) < 3 - j; omega) ⟨rfl, rfl, rfl, rfl, rfl, rfl, rfl, rfl, rfl, rfl, rfl, trivial⟩ (fun w1 hw => hw.pick [2, 3, 4, 5, 6, 7, 8] (by decide) rfl)
    ·refine TC.region ?_
     refine TL.val rfl rfl rfl (gives_at (v := .pointer (some ⟨g76, 0 + 2 * 1, none⟩)) rfl rfl rfl (fun w => at_el Tryd.underlying40 (fun w => rfl) rfl 3 3 2 (by omega) (by omega) w)) ?_
     refine TL.val rfl rfl rfl (pm_loadRow (k := 0) (v := .slice A5 m5 c5) rfl rfl (fun w => rfl) rfl rfl) ?_
     refine TL.val rfl rfl rfl (gives_assign rfl rfl) ?_
     refine TL.end_ (TX.then_ (TC.seq_ (TC.region ?_)))
     refine TL.val rfl rfl rfl (gives_move rfl rfl) ?_
     refine TL.pcall1 (r := .tuple #[.agg ((decR l5).cells).toArray, .int .i64 (decE l5)]) rfl rfl rfl rfl rfl Tryd.func18 jlrnm18 jlrbd18 (fun w1 hw => decode_any A5 m5 c5 l5 w1 (byt_own (hw.at_ (k := 1) rfl) hm54) hm51 (by have := hel; have := hmx; omega)) ?_
     refine TL.val rfl rfl rfl (gives_move rfl rfl) ?_
     refine TL.val rfl rfl rfl (gives_extract rfl rfl rfl) ?_
     refine TL.val rfl rfl rfl (gives_extract rfl rfl rfl) ?_
     refine TL.pnew rfl rfl rfl (exec_alloc (cs := [.int .i64 0, .int .i64 0, .int .i64 0, .int .i64 0, .int .u32 0, .int .i64 0, .int .i64 0, .int .i64 0, .bool false, .bool false, .int .i64 0, .int .u32 0, .int .i64 0, .int .i64 0, .int .i64 0, .int .i64 0, .int .i64 0]) rfl jlrzv27 rfl) (fun g16 => ?_)
     refine TL.pstore (k := 0) (vs := (decR l5).cells) rfl rfl rfl rfl rfl rfl rfl jlrsz27 jlrone_i64i64i64i64u32i64i64i64bbi64u32i64i64i64i64i64 (by show 17 ≤ 17; decide) (L' := [.blk g16 27 (decR l5).cells, .row (.slice (some ⟨g76, 0, none⟩) 3 3) 28 1 3 ([.slice A1 n1 c1, .slice A52 (encO x).length c52, .slice A5 m5 c5]), .row (.slice A5 m5 c5) 5 1 m5 (bv l5), .row (.slice A52 ((encO x).length) c52) 5 1 ((encO x).length) (bv (encO x)), .row (.slice A47 ((encO x).length) c47) 5 1 ((encO x).length) (bv (encO x)), .blk g9 27 x.cells, .row (.slice (some ⟨g39, 0, none⟩) 3 3) 27 17 3 (rcs [r, r36, r38]), .abs wn.heap.size (fun w => Cod w wn.heap.size)]) rfl ?_
     refine TL.val rfl rfl rfl (gives_assign rfl rfl) ?_
     refine TL.end_ (TX.then_ (TC.seq_ (TC.region ?_)))
     refine TL.val rfl rfl rfl (gives_move rfl rfl) ?_
     refine TL.pcall1 (r := .tuple #[.agg ((decR l5).cells).toArray, .int .i64 (decE l5)]) rfl rfl rfl rfl rfl Tryd.func19 jlrnm19 jlrbd19 (fun w1 hw => rdecode_any A5 m5 c5 l5 w1 (byt_own (hw.at_ (k := 2) rfl) hm54) hm51 (by have := hel; have := hmx; omega)) ?_
     refine TL.val rfl rfl rfl (gives_move rfl rfl) ?_
     refine TL.val rfl rfl rfl (gives_extract rfl rfl rfl) ?_
     refine TL.val rfl rfl rfl (gives_extract rfl rfl rfl) ?_
     refine TL.pnew rfl rfl rfl (exec_alloc (cs := [.int .i64 0, .int .i64 0, .int .i64 0, .int .i64 0, .int .u32 0, .int .i64 0, .int .i64 0, .int .i64 0, .bool false, .bool false, .int .i64 0, .int .u32 0, .int .i64 0, .int .i64 0, .int .i64 0, .int .i64 0, .int .i64 0]) rfl jlrzv27 rfl) (fun g18 => ?_)
     refine TL.pstore (k := 0) (vs := (decR l5).cells) rfl rfl rfl rfl rfl rfl rfl jlrsz27 jlrone_i64i64i64i64u32i64i64i64bbi64u32i64i64i64i64i64 (by show 17 ≤ 17; decide) (L' := [.blk g18 27 (decR l5).cells, .blk g16 27 (decR l5).cells, .row (.slice (some ⟨g76, 0, none⟩) 3 3) 28 1 3 ([.slice A1 n1 c1, .slice A52 (encO x).length c52, .slice A5 m5 c5]), .row (.slice A5 m5 c5) 5 1 m5 (bv l5), .row (.slice A52 ((encO x).length) c52) 5 1 ((encO x).length) (bv (encO x)), .row (.slice A47 ((encO x).length) c47) 5 1 ((encO x).length) (bv (encO x)), .blk g9 27 x.cells, .row (.slice (some ⟨g39, 0, none⟩) 3 3) 27 17 3 (rcs [r, r36, r38]), .abs wn.heap.size (fun w => Cod w wn.heap.size)]) rfl ?_
     refine TL.val rfl rfl rfl (gives_assign rfl rfl) ?_
     refine TL.end_ (TX.then_ (TC.seq_ (TC.region ?_)))
     refine TL.val rfl rfl rfl (pm_loadV (k := 1) (i := 0) (n := 17) (v := .agg ((decR l5).cells).toArray) rfl rfl jlrag27 jlrsz27 rfl (by show 17 ≤ 17; decide) rfl) ?_
     refine TL.val rfl rfl rfl (pm_loadV (k := 0) (i := 0) (n := 17) (v := .agg ((decR l5).cells).toArray) rfl rfl jlrag27 jlrsz27 rfl (by show 17 ≤ 17; decide) rfl) ?_
     refine TL.val rfl rfl rfl (gives_bin2 (v := .bool false) rfl rfl rfl (fun w => neqR_f (rfl) w)) ?_
     iterate 6 (first | refine TL.on rfl rfl rfl ?_ | refine TL.val rfl rfl rfl (gives_move rfl rfl) ?_)
     refine TL.val rfl rfl rfl (gives_bin rfl rfl rfl (fun w => bin_neq_f (rfl) w)) ?_
     refine TL.val rfl rfl rfl (gives_pick rfl rfl rfl) ?_
     refine TL.end_ (TX.then_ (TC.condF rfl (TC.skip_ (TX.in_normal (TX.then_ (TC.region ?_))))))
     refine TL.val rfl rfl rfl (gives_bin rfl rfl rfl (fun w => bin_add_ (r := ((j + 1 : Nat) : Int)) (by simp only [IntKind.wrap_i64]; omega) w)) ?_
     refine TL.val rfl rfl rfl (gives_move rfl rfl) ?_
     refine TL.end_ ?_
     exact TX.round (⟨j + 1, by omega⟩) (by show 3 - (j + 1) < 3 - j; omega) ⟨rfl, rfl, rfl, rfl, rfl, rfl, rfl, rfl, rfl, rfl, rfl, trivial⟩ (fun w1 hw => hw.pick [2, 3, 4, 5, 6, 7, 8] (by decide) rfl)
   ·have q79 := of_decide_eq_false h79
    refine TL.end_ (TX.then_ (TC.seq_ (TC.condF rfl (TC.exit_ (TX.then_exit (TX.then_exit (TX.in_same (TX.then_ (TC.seq_ (TC.region ?_))))))))))
    refine TL.val rfl rfl rfl (gives_move rfl rfl) ?_
    refine TL.pcall1 (r := .tuple #[.agg ((decR (encO x)).cells).toArray, .int .i64 (decE (encO x))]) rfl rfl rfl rfl rfl Tryd.func18 jlrnm18 jlrbd18 (fun w1 hw => decode_any A47 (encO x).length c47 (encO x) w1 (byt_own (hw.at_ (k := 3) rfl) (encO_bs _)) hA471 (by have := hel; have := hmx; omega)) ?_
    refine TL.val rfl rfl rfl (gives_move rfl rfl) ?_
    refine TL.val rfl rfl rfl (gives_extract rfl rfl rfl) ?_
    refine TL.val rfl rfl rfl (gives_extract rfl rfl rfl) ?_
    refine TL.pnew rfl rfl rfl (exec_alloc (cs := [.int .i64 0, .int .i64 0, .int .i64 0, .int .i64 0, .int .u32 0, .int .i64 0, .int .i64 0, .int .i64 0, .bool false, .bool false, .int .i64 0, .int .u32 0, .int .i64 0, .int .i64 0, .int .i64 0, .int .i64 0, .int .i64 0]) rfl jlrzv27 rfl) (fun g20 => ?_)
    refine TL.pstore (k := 0) (vs := (decR (encO x)).cells) rfl rfl rfl rfl rfl rfl rfl jlrsz27 jlrone_i64i64i64i64u32i64i64i64bbi64u32i64i64i64i64i64 (by show 17 ≤ 17; decide) (L' := [.blk g20 27 (decR (encO x)).cells, .row (.slice (some ⟨g76, 0, none⟩) 3 3) 28 1 3 ([.slice A1 n1 c1, .slice A52 (encO x).length c52, .slice A5 m5 c5]), .row (.slice A5 m5 c5) 5 1 m5 (bv l5), .row (.slice A52 ((encO x).length) c52) 5 1 ((encO x).length) (bv (encO x)), .row (.slice A47 ((encO x).length) c47) 5 1 ((encO x).length) (bv (encO x)), .blk g9 27 x.cells, .row (.slice (some ⟨g39, 0, none⟩) 3 3) 27 17 3 (rcs [r, r36, r38]), .abs wn.heap.size (fun w => Cod w wn.heap.size)]) rfl ?_
    refine TL.val rfl rfl rfl (gives_assign rfl rfl) ?_
    refine TL.end_ (TX.then_ (TC.seq_ (TC.region ?_)))
    refine TL.val rfl rfl rfl (gives_move rfl rfl) ?_
    refine TL.vsplit rfl rfl rfl (gives_bin rfl rfl rfl (fun w => bin_eql w)) (fun h107 => ?_) (fun h107 => ?_)
    ·have q107 := of_decide_eq_true h107
     have hdd : decE (encO x) = 0 ∧ decR (encO x) = x := by rw [encO_ok q107]; exact dec_enc x q107 hxo
     iterate 4 (first | refine TL.on rfl rfl rfl ?_ | refine TL.val rfl rfl rfl (gives_move rfl rfl) ?_)
     refine TL.val rfl rfl rfl (gives_bin rfl rfl rfl (fun w => bin_neq_f (hdd.1) w)) ?_
     refine TL.on rfl rfl rfl ?_
     refine TL.val rfl rfl rfl (gives_move rfl rfl) ?_
     refine TL.on rfl rfl rfl ?_
     refine TL.val rfl rfl rfl (pm_loadV (k := 0) (i := 0) (n := 17) (v := .agg ((decR (encO x)).cells).toArray) rfl rfl jlrag27 jlrsz27 rfl (by show 17 ≤ 17; decide) rfl) ?_
     refine TL.on rfl rfl rfl ?_
     refine TL.val rfl rfl rfl (pm_loadV (k := 5) (i := 0) (n := 17) (v := .agg (x.cells).toArray) rfl rfl jlrag27 jlrsz27 rfl (by show 17 ≤ 17; decide) rfl) ?_
     refine TL.on rfl rfl rfl ?_
     refine TL.val rfl rfl rfl (gives_bin2 (v := .bool false) rfl rfl rfl (fun w => neqR_f (hdd.2) w)) ?_
     refine TL.on rfl rfl rfl ?_
     refine TL.val rfl rfl rfl (gives_pick rfl rfl rfl) ?_
     refine TL.val rfl rfl rfl (gives_pick rfl rfl rfl) ?_
     refine TL.end_ (TX.then_ (TC.condF rfl (TC.skip_ (TX.in_normal (TX.then_ (TC.region ?_))))))
     refine TL.val rfl rfl rfl (gives_bin rfl rfl rfl (fun w => bin_add_ (r := ((i + 1 : Nat) : Int)) (by simp only [IntKind.wrap_i64]; omega) w)) ?_
     refine TL.val rfl rfl rfl (gives_move rfl rfl) ?_
     refine TL.end_ ?_
     exact TX.round (⟨i + 1, hi2⟩) (by show 3 - (i + 1) < 3 - i; omega) ⟨rfl, rfl, rfl, rfl, rfl, trivial⟩ (fun w1 hw => hw.pick [6, 7] (by decide) rfl)
    ·have q107 := of_decide_eq_false h107
     iterate 9 (first | refine TL.off rfl rfl rfl rfl rfl rfl ?_ | refine TL.offU rfl rfl rfl rfl rfl ?_ | refine TL.val rfl rfl rfl (gives_move rfl rfl) ?_ | refine TL.val rfl rfl rfl (gives_pick rfl rfl rfl) ?_)
     refine TL.end_ (TX.then_ (TC.condF rfl (TC.skip_ (TX.in_normal (TX.then_ (TC.region ?_))))))
     refine TL.val rfl rfl rfl (gives_bin rfl rfl rfl (fun w => bin_add_ (r := ((i + 1 : Nat) : Int)) (by simp only [IntKind.wrap_i64]; omega) w)) ?_
     refine TL.val rfl rfl rfl (gives_move rfl rfl) ?_
     refine TL.end_ ?_
     exact TX.round (⟨i + 1, hi2⟩) (by show 3 - (i + 1) < 3 - i; omega) ⟨rfl, rfl, rfl, rfl, rfl, trivial⟩ (fun w1 hw => hw.pick [6, 7] (by decide) rfl)
  ·have q42 := of_decide_eq_false h42
   refine TL.end_ (TX.then_ (TC.seq_ (TC.condF rfl (TC.exit_ (TX.then_exit (TX.then_exit (TX.in_same (TX.then_ (TC.seq_ (TC.region ?_))))))))))
   refine TL.val rfl rfl rfl (gives_assign rfl rfl) ?_
   refine TL.end_ (TX.then_ (TC.ret_ ?_))
   exact ret_tmp Tryd.results3 rfl (fun w1 hw => ⟨rfl, hwn.bel.trans (hw.bel.mono hwn.bel.size)⟩)
end Go.Proofs.YtmeaeeehnkcblaaDoor
