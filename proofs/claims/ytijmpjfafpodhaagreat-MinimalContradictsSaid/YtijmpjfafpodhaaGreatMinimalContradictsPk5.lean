/-
  Texts of the proof, joined: MnAwk, SymFld, DcRs, MnLaw2, MnLaw, MnLaw3, MnLaw4, EpKey, SymScp, EpCut, MnLaw8, PtFnd, BdRad, BdRX, MnLC.
-/
import Derived.Test.YtijmpjfafpodhaaGreatMinimalContradictsPk4
import Derived.Test.YtijmpjfafpodhaaGreatMinimalContradictsPk1
import Derived.Test.YtijmpjfafpodhaaGreatMinimalContradictsPk3
import Derived.Test.YtijmpjfafpodhaaGreatMinimalContradictsPk2
import Derived.Laws.StructEq
import Derived.Laws.Tables
import Derived.Laws.Small
import Derived.Laws.Pointers
import Derived.Laws.Cover2
import Derived.WalkKit
import Derived.KernelRfl
import Derived.DeepKeys5
import Derived.Scope
set_option linter.unusedVariables false
set_option linter.unusedSimpArgs false
namespace Go.Proofs.YtijmpjfafpodhaaGreat
set_option maxHeartbeats 1000000
open Go.RowKit
set_option maxRecDepth 20000
theorem mawbld63_27255 (a0_0 : Int) (a1_0 : Int) (w : World) : (Instr.build 63 #[(0, .int .u32 a0_0), (1, .int .i64 a1_0)]).run Tryz.prog w = .ok (.agg #[.int .u32 a0_0, .int .i64 a1_0, .int .i64 0, .int .i64 0, .int .i64 0, .int .i64 0]) w := by kernel_rfl
theorem mawbld65_66110 (a4_0 : Int) (a5_0 : Int) (a7_0 : Int) (a8_0 : Bool) (a10_0 : Int) (a11_0 : Int) (a11_1 : Int) (a11_2 : Int) (a11_3 : Int) (a11_4 : Int) (a11_5 : Int) (w : World) : (Instr.build 65 #[(4, .int .u32 a4_0), (5, .int .i64 a5_0), (7, .int .i64 a7_0), (8, .bool a8_0), (10, .int .i64 a10_0), (11, .agg #[.int .u32 a11_0, .int .i64 a11_1, .int .i64 a11_2, .int .i64 a11_3, .int .i64 a11_4, .int .i64 a11_5])]).run Tryz.prog w = .ok (.agg #[.int .i64 0, .int .i64 0, .int .i64 0, .int .i64 0, .int .u32 a4_0, .int .i64 a5_0, .int .i64 0, .int .i64 a7_0, .bool a8_0, .bool false, .int .i64 a10_0, .int .u32 a11_0, .int .i64 a11_1, .int .i64 a11_2, .int .i64 a11_3, .int .i64 a11_4, .int .i64 a11_5]) w := by kernel_rfl
theorem mawbld65_18414 (a2_0 : Int) (a3_0 : Int) (a4_0 : Int) (a5_0 : Int) (a7_0 : Int) (a10_0 : Int) (w : World) : (Instr.build 65 #[(2, .int .i64 a2_0), (3, .int .i64 a3_0), (4, .int .u32 a4_0), (5, .int .i64 a5_0), (7, .int .i64 a7_0), (10, .int .i64 a10_0)]).run Tryz.prog w = .ok (.agg #[.int .i64 0, .int .i64 0, .int .i64 a2_0, .int .i64 a3_0, .int .u32 a4_0, .int .i64 a5_0, .int .i64 0, .int .i64 a7_0, .bool false, .bool false, .int .i64 a10_0, .int .u32 0, .int .i64 0, .int .i64 0, .int .i64 0, .int .i64 0, .int .i64 0]) w := by kernel_rfl
theorem mawbs23_4_93202 (a0_0 : Int) (a0_1 : Int) (a0_2 : Int) (a0_3 : Int) (a0_4 : Int) (a0_5 : Int) (a0_6 : Int) (a0_7 : Int) (a0_8 : Bool) (a0_9 : Bool) (a0_10 : Int) (a0_11 : Int) (a0_12 : Int) (a0_13 : Int) (a0_14 : Int) (a0_15 : Int) (a0_16 : Int) (a1_0 : Int) (a1_1 : Int) (a1_2 : Int) (a1_3 : Int) (a1_4 : Int) (a1_5 : Int) (a1_6 : Int) (a1_7 : Int) (a1_8 : Bool) (a1_9 : Bool) (a1_10 : Int) (a1_11 : Int) (a1_12 : Int) (a1_13 : Int) (a1_14 : Int) (a1_15 : Int) (a1_16 : Int) (a2_0 : Int) (a2_1 : Int) (a2_2 : Int) (a2_3 : Int) (a2_4 : Int) (a2_5 : Int) (a2_6 : Int) (a2_7 : Int) (a2_8 : Bool) (a2_9 : Bool) (a2_10 : Int) (a2_11 : Int) (a2_12 : Int) (a2_13 : Int) (a2_14 : Int) (a2_15 : Int) (a2_16 : Int) (a3_0 : Int) (a3_1 : Int) (a3_2 : Int) (a3_3 : Int) (a3_4 : Int) (a3_5 : Int) (a3_6 : Int) (a3_7 : Int) (a3_8 : Bool) (a3_9 : Bool) (a3_10 : Int) (a3_11 : Int) (a3_12 : Int) (a3_13 : Int) (a3_14 : Int) (a3_15 : Int) (a3_16 : Int) (w : World) : (Instr.buildSlice 23 4 #[(0, .agg #[.int .i64 a0_0, .int .i64 a0_1, .int .i64 a0_2, .int .i64 a0_3, .int .u32 a0_4, .int .i64 a0_5, .int .i64 a0_6, .int .i64 a0_7, .bool a0_8, .bool a0_9, .int .i64 a0_10, .int .u32 a0_11, .int .i64 a0_12, .int .i64 a0_13, .int .i64 a0_14, .int .i64 a0_15, .int .i64 a0_16]), (1, .agg #[.int .i64 a1_0, .int .i64 a1_1, .int .i64 a1_2, .int .i64 a1_3, .int .u32 a1_4, .int .i64 a1_5, .int .i64 a1_6, .int .i64 a1_7, .bool a1_8, .bool a1_9, .int .i64 a1_10, .int .u32 a1_11, .int .i64 a1_12, .int .i64 a1_13, .int .i64 a1_14, .int .i64 a1_15, .int .i64 a1_16]), (2, .agg #[.int .i64 a2_0, .int .i64 a2_1, .int .i64 a2_2, .int .i64 a2_3, .int .u32 a2_4, .int .i64 a2_5, .int .i64 a2_6, .int .i64 a2_7, .bool a2_8, .bool a2_9, .int .i64 a2_10, .int .u32 a2_11, .int .i64 a2_12, .int .i64 a2_13, .int .i64 a2_14, .int .i64 a2_15, .int .i64 a2_16]), (3, .agg #[.int .i64 a3_0, .int .i64 a3_1, .int .i64 a3_2, .int .i64 a3_3, .int .u32 a3_4, .int .i64 a3_5, .int .i64 a3_6, .int .i64 a3_7, .bool a3_8, .bool a3_9, .int .i64 a3_10, .int .u32 a3_11, .int .i64 a3_12, .int .i64 a3_13, .int .i64 a3_14, .int .i64 a3_15, .int .i64 a3_16])]).run Tryz.prog w = .ok (.slice (some ⟨w.heap.size, 0, none⟩) 4 4) (w.alloc (.cells [.int .i64 a0_0, .int .i64 a0_1, .int .i64 a0_2, .int .i64 a0_3, .int .u32 a0_4, .int .i64 a0_5, .int .i64 a0_6, .int .i64 a0_7, .bool a0_8, .bool a0_9, .int .i64 a0_10, .int .u32 a0_11, .int .i64 a0_12, .int .i64 a0_13, .int .i64 a0_14, .int .i64 a0_15, .int .i64 a0_16, .int .i64 a1_0, .int .i64 a1_1, .int .i64 a1_2, .int .i64 a1_3, .int .u32 a1_4, .int .i64 a1_5, .int .i64 a1_6, .int .i64 a1_7, .bool a1_8, .bool a1_9, .int .i64 a1_10, .int .u32 a1_11, .int .i64 a1_12, .int .i64 a1_13, .int .i64 a1_14, .int .i64 a1_15, .int .i64 a1_16, .int .i64 a2_0, .int .i64 a2_1, .int .i64 a2_2, .int .i64 a2_3, .int .u32 a2_4, .int .i64 a2_5, .int .i64 a2_6, .int .i64 a2_7, .bool a2_8, .bool a2_9, .int .i64 a2_10, .int .u32 a2_11, .int .i64 a2_12, .int .i64 a2_13, .int .i64 a2_14, .int .i64 a2_15, .int .i64 a2_16, .int .i64 a3_0, .int .i64 a3_1, .int .i64 a3_2, .int .i64 a3_3, .int .u32 a3_4, .int .i64 a3_5, .int .i64 a3_6, .int .i64 a3_7, .bool a3_8, .bool a3_9, .int .i64 a3_10, .int .u32 a3_11, .int .i64 a3_12, .int .i64 a3_13, .int .i64 a3_14, .int .i64 a3_15, .int .i64 a3_16].toArray 65)) := by kernel_rfl
theorem mawbld28_57323 (a0_0 : Int) (a1_0 : Int) (a2_0 : Int) (w : World) : (Instr.build 28 #[(0, .int .i64 a0_0), (1, .int .i64 a1_0), (2, .int .i64 a2_0)]).run Tryz.prog w = .ok (.agg #[.int .i64 a0_0, .int .i64 a1_0, .int .i64 a2_0]) w := by kernel_rfl
theorem mawbld32_27275 (a1_0 : Int) (a2_0 : Int) (w : World) : (Instr.build 32 #[(1, .int .u32 a1_0), (2, .int .i64 a2_0)]).run Tryz.prog w = .ok (.agg #[.int .i64 0, .int .u32 a1_0, .int .i64 a2_0]) w := by kernel_rfl
theorem mawbld34_50796 (a0_0 : Int) (a1_0 : Int) (a1_1 : Int) (a1_2 : Int) (a4_0 : Int) (w : World) : (Instr.build 34 #[(0, .int .i64 a0_0), (1, .agg #[.int .i64 a1_0, .int .u32 a1_1, .int .i64 a1_2]), (4, .int .i64 a4_0)]).run Tryz.prog w = .ok (.agg #[.int .i64 a0_0, .int .i64 a1_0, .int .u32 a1_1, .int .i64 a1_2, .int .i64 0, .int .i64 0, .int .i64 a4_0, .int .i64 0]) w := by kernel_rfl
theorem mawbld26_530  (w : World) : (Instr.build 26 #[]).run Tryz.prog w = .ok (.agg #[.slice none 0 0]) w := by kernel_rfl
theorem mawfld73_2 : FA Tryz.prog 73 2 2 := fun g o w => by kernel_rfl
theorem three_any  (w : World) :
  Calls Tryz.prog 99 #[] w fun e w' => ∃ x : {y : Option Addr × Nat // awF.length ≤ y.2 ∧ y.2 ≤ maxLen}, e = .returned (.slice x.1.1 awF.length x.1.2) ∧ Pm w [.row (.slice x.1.1 awF.length x.1.2) 65 17 awF.length (flat Rs.cells awF)] w' := by
 refine begin_ (vs := []) Tryz.func99 rfl rfl rfl ?_ (Pm.start w)
 refine zSG (TL.as_ ?_)
 refine zET (zSG ?_)
 refine TL.val rfl rfl rfl (gives_build (v := .agg #[.int .u32 9, .int .i64 3, .int .i64 0, .int .i64 0, .int .i64 0, .int .i64 0]) rfl rfl (fun w => mawbld63_27255 _ _ w)) ?_
 refine TL.val rfl rfl rfl (gives_build (v := .agg #[.int .i64 0, .int .i64 0, .int .i64 0, .int .i64 0, .int .u32 9, .int .i64 17, .int .i64 0, .int .i64 3, .bool true, .bool false, .int .i64 50, .int .u32 9, .int .i64 3, .int .i64 0, .int .i64 0, .int .i64 0, .int .i64 0]) rfl rfl (fun w => mawbld65_66110 _ _ _ _ _ _ _ _ _ _ _ w)) ?_
 refine TL.val rfl rfl rfl (gives_build (v := .agg #[.int .i64 0, .int .i64 0, .int .i64 1, .int .i64 60, .int .u32 9, .int .i64 17, .int .i64 0, .int .i64 3, .bool false, .bool false, .int .i64 70, .int .u32 0, .int .i64 0, .int .i64 0, .int .i64 0, .int .i64 0, .int .i64 0]) rfl rfl (fun w => mawbld65_18414 _ _ _ _ _ _ w)) ?_
 refine TL.val rfl rfl rfl (gives_build (v := .agg #[.int .i64 0, .int .i64 0, .int .i64 2, .int .i64 80, .int .u32 9, .int .i64 17, .int .i64 0, .int .i64 3, .bool false, .bool false, .int .i64 90, .int .u32 0, .int .i64 0, .int .i64 0, .int .i64 0, .int .i64 0, .int .i64 0]) rfl rfl (fun w => mawbld65_18414 _ _ _ _ _ _ w)) ?_
 refine TL.val rfl rfl rfl (gives_build (v := .agg #[.int .i64 0, .int .i64 0, .int .i64 3, .int .i64 100, .int .u32 9, .int .i64 17, .int .i64 0, .int .i64 3, .bool false, .bool false, .int .i64 110, .int .u32 0, .int .i64 0, .int .i64 0, .int .i64 0, .int .i64 0, .int .i64 0]) rfl rfl (fun w => mawbld65_18414 _ _ _ _ _ _ w)) ?_
 refine TL.prowS (e := 65) (size := 17) (cs := flat Rs.cells awF) rfl rfl rfl rfl rfl (fun w => mawbs23_4_93202 _ _ _ _ _ _ _ _ _ _ _ _ _ _ _ _ _ _ _ _ _ _ _ _ _ _ _ _ _ _ _ _ _ _ _ _ _ _ _ _ _ _ _ _ _ _ _ _ _ _ _ _ _ _ _ _ _ _ _ _ _ _ _ _ _ _ _ _ w) (by decide) rfl (fun g6 => ?_)
 refine TL.as_ ?_
 refine zET (zr ?_)
 exact ret_tmp Tryz.results99 rfl (fun w1 hw => ⟨⟨((some ⟨g6, 0, none⟩), 4), Nat.le_refl 4, (by show 4 ≤ maxLen; decide)⟩, rfl, hw.pick [0] (by decide) rfl⟩)
theorem awake42_true  (w : World) :
  Calls Tryz.prog 43 #[] w fun e w' => e = .returned (.bool true) ∧ Below w.heap.size w w' := by
 refine begin_ (vs := []) Tryz.func43 rfl rfl rfl ?_ (Pm.start w)
 refine zSG (TL.as_ ?_)
 refine zET (zSG ?_)
 refine TL.val rfl rfl rfl (gives_build (v := .agg #[.int .i64 2, .int .i64 1, .int .i64 1]) rfl rfl (fun w => mawbld28_57323 _ _ _ w)) ?_
 refine TL.pnew rfl rfl rfl (exec_alloc (cs := [.int .i64 0, .int .i64 0, .int .i64 0]) rfl adrzv28 rfl) (fun g1 => ?_)
 refine TL.pstore (k := 0) (vs := [.int .i64 2, .int .i64 1, .int .i64 1]) rfl rfl rfl rfl rfl rfl rfl aprsz28 prsone_i64i64i64 (by show 3 ≤ 3; decide) rfl ?_
 refine zET (zSG ?_)
 refine TL.val rfl rfl rfl (gives_build (v := .agg #[.int .i64 0, .int .u32 9, .int .i64 17]) rfl rfl (fun w => mawbld32_27275 _ _ w)) ?_
 refine TL.val rfl rfl rfl (gives_build (v := .agg #[.int .i64 1, .int .i64 0, .int .u32 9, .int .i64 17, .int .i64 0, .int .i64 0, .int .i64 60, .int .i64 0]) rfl rfl (fun w => mawbld34_50796 _ _ _ _ _ w)) ?_
 refine TL.pnew rfl rfl rfl (exec_alloc (cs := [.int .i64 0, .int .i64 0, .int .u32 0, .int .i64 0, .int .i64 0, .int .i64 0, .int .i64 0, .int .i64 0]) rfl asezv34 rfl) (fun g2 => ?_)
 refine TL.pstore (k := 0) (vs := [.int .i64 1, .int .i64 0, .int .u32 9, .int .i64 17, .int .i64 0, .int .i64 0, .int .i64 60, .int .i64 0]) rfl rfl rfl rfl rfl rfl rfl aprsz34 aseone_i64i64u32i64i64i64i64i64 (by show 8 ≤ 8; decide) rfl ?_
 refine zET (zS (TC.held (ls := #[Ff,Ff,Ff,Ff,Ff,Ff,Ff,Ff,Ff,Ff]) (Pm w [.blk g2 34 [.int .i64 1, .int .i64 0, .int .u32 9, .int .i64 17, .int .i64 0, .int .i64 0, .int .i64 60, .int .i64 0], .blk g1 28 [.int .i64 2, .int .i64 1, .int .i64 1]]) (by kernel_rfl) rfl rfl (fun w hw => hw.drawn _) ?_))
 refine TH.tk 1 rfl rfl rfl (gives_build (v := .agg #[.slice none 0 0]) rfl rfl (fun w => mawbld26_530  w)) (fun w1 hw => hw) ?_
 refine TH.tk 2 rfl rfl rfl (gV 1 (.agg #[.int .i64 2, .int .i64 1, .int .i64 1]) aprag28 aprsz28) (fun w1 hw => hw) ?_
 refine TH.tk 3 rfl rfl rfl (gV 0 (.agg #[.int .i64 1, .int .i64 0, .int .u32 9, .int .i64 17, .int .i64 0, .int .i64 0, .int .i64 60, .int .i64 0]) aprag34 aprsz34) (fun w1 hw => hw) ?_
 refine TH.only' 0 rfl (by kernel_rfl) rfl ?_
 refine TL.pcallPm (α := {y : Option Addr × Nat // awF.length ≤ y.2 ∧ y.2 ≤ maxLen}) (fun x => .slice x.1.1 awF.length x.1.2) (fun x => [.row (.slice x.1.1 awF.length x.1.2) 65 17 awF.length (flat Rs.cells awF)]) rfl rfl rfl rfl rfl Tryz.func99 (by decide) rfl (fun w1 hw => three_any w1) ?_
 rintro ⟨⟨At9, ct9⟩, ht91, ht92⟩
 dsimp only [List.cons_append, List.nil_append]
 refine zE ?_
 refine TX.held (fun w1 hw => hw.pick [1, 2] (by decide) rfl) ?_
 refine TH.only' 4 rfl (by kernel_rfl) rfl ?_
 refine TL.pcallPm (α := {y : ((Option Addr × Nat) × List Idn) × Int // MinOk ([] : List En) awF (⟨2, 1, 1⟩ : Ru) (⟨1, 0, 9, 17, 0, 0, 60, 0⟩ : Rp) y.1.2 y.2 ∧ y.1.2.length ≤ 512 ∧ y.1.2.length ≤ y.1.1.2 ∧ y.1.1.2 ≤ maxLen}) (fun x => .tuple #[.slice x.1.1.1.1 x.1.1.2.length x.1.1.1.2, .int .i64 x.1.2]) (fun x => [.row (.slice x.1.1.1.1 x.1.1.2.length x.1.1.1.2) 73 3 x.1.1.2.length (flat Idn.cells x.1.1.2)]) rfl rfl rfl rfl rfl Tryz.func44 (by decide) rfl (fun w1 hw => min_any At9 ct9 awF none 0 ([] : List En) (⟨2, 1, 1⟩ : Ru) (⟨1, 0, 9, 17, 0, 0, 60, 0⟩ : Rp) w1 (pm_rd hw (k := 0) rfl) (by decide) awF_ok Reads.none_) ?_
 rintro ⟨⟨⟨⟨Ams, cms⟩, ms⟩, ems⟩, hms, hmsl, hmsc, hmsm⟩
 dsimp only [List.cons_append, List.nil_append]
 dsimp only at hms hmsl hmsc hmsm ⊢
 obtain ⟨rfl, rfl⟩ := aw_minok hms
 have hlp : awIds.length = 3 := rfl
 have hlt : (awIds.take 2).length = 2 := rfl
 refine zE ?_
 refine TX.he (fun w1 hw => hw.pick [2, 3] (by decide) rfl) fun hS => ?_
 refine TH.t 5 rfl (gives_move rfl rfl) hS ?_
 refine TH.t 6 rfl (gives_extract rfl rfl rfl) hS ?_
 refine TH.t 7 rfl (gives_extract rfl rfl rfl) hS ?_
 refine TH.t 8 rfl (gives_assign rfl rfl) hS ?_
 refine TH.t 9 rfl (gives_assign rfl rfl) hS ?_
 refine TH.done (by kernel_rfl) ?_
 refine zT (zS (TC.fact (p := ∃ g, Ams = some ⟨g, 0, none⟩) (fun w1 hw => rowA hw (k := 0) rfl (by omega)) ?_))
 rintro ⟨g_Ams, rfl⟩
 refine TC.held (ls := #[Ff,Ff,Ff,Ff,Ff,Ff,Ff,Ff,Ff,Ff,Ff,Ff,Ff,Ff,Ff,Ff,Ff,Ff,Ff,Ff,Ff,Ff,Ff,Ff,Ff,Ff,Ff,Ff,Ff,Ff,Ff,Ff,Ff,Ff,Ff,Ff,Ff,Ff,Ff,Ff,Ff,Ff,Ff,Ff,Ff,Ff]) (Pm w [.row (.slice (some ⟨g_Ams, 0, none⟩) awIds.length cms) 73 3 awIds.length (flat Idn.cells awIds), .row (.slice At9 awF.length ct9) 65 17 awF.length (flat Rs.cells awF), .blk g2 34 [.int .i64 1, .int .i64 0, .int .u32 9, .int .i64 17, .int .i64 0, .int .i64 0, .int .i64 60, .int .i64 0], .blk g1 28 [.int .i64 2, .int .i64 1, .int .i64 1]]) (by kernel_rfl) rfl rfl (fun w hw => hw.drawn _) ?_
 refine TH.tk 0 rfl rfl rfl (gives_move rfl rfl) (fun w1 hw => hw) ?_
 refine TH.tk 1 rfl rfl rfl (gives_bin rfl rfl rfl (fun w => bin_eql_t (rfl) w)) (fun w1 hw => hw) ?_
 refine TH.tk 2 rfl rfl rfl (gives_move rfl rfl) (fun w1 hw => hw) ?_
 refine TH.takeG 3 rfl (by kernel_rfl) (by kernel_rfl) (by kernel_rfl) rfl rfl rfl rfl rfl rfl (gives_move rfl rfl) (fun w1 hw => hw) ?_
 refine TH.takeG 4 rfl (by kernel_rfl) (by kernel_rfl) (by kernel_rfl) rfl rfl rfl rfl rfl rfl (gN Tryz.underlying67) (fun w1 hw => hw) ?_
 refine TH.takeG 5 rfl (by kernel_rfl) (by kernel_rfl) (by kernel_rfl) rfl rfl rfl rfl rfl rfl (gives_bin rfl rfl rfl (fun w => bin_eql_t (rfl) w)) (fun w1 hw => hw) ?_
 refine TH.tk 6 rfl rfl rfl (gives_pick rfl rfl rfl) (fun w1 hw => hw) ?_
 refine TH.tk 7 rfl rfl rfl (gives_move rfl rfl) (fun w1 hw => hw) ?_
 refine TH.takeG 8 rfl (by kernel_rfl) (by kernel_rfl) (by kernel_rfl) rfl rfl rfl rfl rfl rfl (gives_move rfl rfl) (fun w1 hw => hw) ?_
 have hi25 : 2 < awIds.length := by omega
 obtain ⟨x25, hx25⟩ := ex_at hi25
 have hx25e : x25 = (⟨0, 0, 2⟩ : Idn) := (Option.some.inj hx25).symm
 refine TH.takeG 9 rfl (by kernel_rfl) (by kernel_rfl) (by kernel_rfl) rfl rfl rfl rfl rfl rfl (gA (i := 2) Tryz.underlying67 prssz73 rfl rfl rfl rfl rfl (by omega)) (fun w1 hw => hw) ?_
 refine TH.takeG 10 rfl (by kernel_rfl) (by kernel_rfl) (by kernel_rfl) rfl rfl rfl rfl rfl rfl (gF mawfld73_2) (fun w1 hw => hw) ?_
 refine TH.takeG 11 rfl (by kernel_rfl) (by kernel_rfl) (by kernel_rfl) rfl rfl rfl rfl rfl rfl (gives_load (v := .int .i64 x25.num) rfl rfl pcmag3 (fun w1 hw => flat_row idn_cel hw (q := 0) rfl hx25 2 _ rfl)) (fun w1 hw => hw) ?_
 refine TH.takeG 12 rfl (by kernel_rfl) (by kernel_rfl) (by kernel_rfl) rfl rfl rfl rfl rfl rfl (gives_bin rfl rfl rfl (fun w => bin_eql_t (by rw [hx25e]) w)) (fun w1 hw => hw) ?_
 refine TH.tk 13 rfl rfl rfl (gives_pick rfl rfl rfl) (fun w1 hw => hw) ?_
 refine TH.tk 14 rfl rfl rfl (gives_move rfl rfl) (fun w1 hw => hw) ?_
 refine TH.takeG 15 rfl (by kernel_rfl) (by kernel_rfl) (by kernel_rfl) rfl rfl rfl rfl rfl rfl (gV 3 (.agg #[.int .i64 2, .int .i64 1, .int .i64 1]) aprag28 aprsz28) (fun w1 hw => hw) ?_
 refine TH.takeG 16 rfl (by kernel_rfl) (by kernel_rfl) (by kernel_rfl) rfl rfl rfl rfl rfl rfl (gV 2 (.agg #[.int .i64 1, .int .i64 0, .int .u32 9, .int .i64 17, .int .i64 0, .int .i64 0, .int .i64 60, .int .i64 0]) aprag34 aprsz34) (fun w1 hw => hw) ?_
 refine TH.only' 17 rfl (by kernel_rfl) rfl ?_
 refine TL.gu ?_
 refine TL.pcall1 (r := .int .i64 3) rfl rfl rfl rfl rfl Tryz.func45 (by decide) rfl (fun w1 hw => calls_i (size42_any (⟨2, 1, 1⟩ : Ru) (⟨1, 0, 9, 17, 0, 0, 60, 0⟩ : Rp) w1) (by decide +kernel)) ?_
 refine zE ?_
 refine TX.held (fun w1 hw => hw) ?_
 refine TH.takeG 18 rfl (by kernel_rfl) (by kernel_rfl) (by kernel_rfl) rfl rfl rfl rfl rfl rfl (gives_bin rfl rfl rfl (fun w => bin_eql_t (rfl) w)) (fun w1 hw => hw) ?_
 refine TH.tk 19 rfl rfl rfl (gives_pick rfl rfl rfl) (fun w1 hw => hw) ?_
 refine TH.tk 20 rfl rfl rfl (gives_move rfl rfl) (fun w1 hw => hw) ?_
 refine TH.takeG 22 rfl (by kernel_rfl) (by kernel_rfl) (by kernel_rfl) rfl rfl rfl rfl rfl rfl (gives_build (v := .agg #[.slice none 0 0]) rfl rfl (fun w => mawbld26_530  w)) (fun w1 hw => hw) ?_
 refine TH.takeG 23 rfl (by kernel_rfl) (by kernel_rfl) (by kernel_rfl) rfl rfl rfl rfl rfl rfl (gV 3 (.agg #[.int .i64 2, .int .i64 1, .int .i64 1]) aprag28 aprsz28) (fun w1 hw => hw) ?_
 refine TH.takeG 24 rfl (by kernel_rfl) (by kernel_rfl) (by kernel_rfl) rfl rfl rfl rfl rfl rfl (gV 2 (.agg #[.int .i64 1, .int .i64 0, .int .u32 9, .int .i64 17, .int .i64 0, .int .i64 0, .int .i64 60, .int .i64 0]) aprag34 aprsz34) (fun w1 hw => hw) ?_
 refine TH.takeG 25 rfl (by kernel_rfl) (by kernel_rfl) (by kernel_rfl) rfl rfl rfl rfl rfl rfl (gives_move rfl rfl) (fun w1 hw => hw) ?_
 refine TH.only' 21 rfl (by kernel_rfl) rfl ?_
 refine TL.gu ?_
 refine TL.pcallPm (α := {y : Option Addr × Nat // awF.length ≤ y.2 ∧ y.2 ≤ maxLen}) (fun x => .slice x.1.1 awF.length x.1.2) (fun x => [.row (.slice x.1.1 awF.length x.1.2) 65 17 awF.length (flat Rs.cells awF)]) rfl rfl rfl rfl rfl Tryz.func99 (by decide) rfl (fun w1 hw => three_any w1) ?_
 rintro ⟨⟨At37, ct37⟩, ht371, ht372⟩
 dsimp only [List.cons_append, List.nil_append]
 refine zE ?_
 refine TX.held (fun w1 hw => hw.pick [1, 2, 3, 4] (by decide) rfl) ?_
 refine TH.only' 26 rfl (by kernel_rfl) rfl ?_
 refine TL.gu ?_
 refine TL.pcall1 (r := .bool true) rfl rfl rfl rfl rfl Tryz.func46 (by decide) rfl (fun w1 hw => calls_t (check42_any At37 ct37 awF none 0 ([] : List En) (⟨2, 1, 1⟩ : Ru) (⟨1, 0, 9, 17, 0, 0, 60, 0⟩ : Rp) (some ⟨g_Ams, 0, none⟩) cms awIds w1 (pm_rd hw (k := 0) rfl) (by decide) awF_ok Reads.none_ (pm_rd hw (k := 1) rfl) (by decide) awIds_ok) aw_ck) ?_
 refine zE ?_
 refine TX.he (fun w1 hw => hw.pick [1, 2, 3, 4] (by decide) rfl) fun hS => ?_
 refine TH.t 27 rfl (gives_pick rfl rfl rfl) hS ?_
 refine TH.t 28 rfl (gives_move rfl rfl) hS ?_
 refine TH.takeG 30 rfl (by kernel_rfl) (by kernel_rfl) (by kernel_rfl) rfl rfl rfl rfl rfl rfl (gives_build (v := .agg #[.slice none 0 0]) rfl rfl (fun w => mawbld26_530  w)) (fun w1 hw => hw.pick [1, 2, 3, 4] (by decide) rfl) ?_
 refine TH.takeG 31 rfl (by kernel_rfl) (by kernel_rfl) (by kernel_rfl) rfl rfl rfl rfl rfl rfl (gV 3 (.agg #[.int .i64 2, .int .i64 1, .int .i64 1]) aprag28 aprsz28) (fun w1 hw => hw.pick [1, 2, 3, 4] (by decide) rfl) ?_
 refine TH.takeG 32 rfl (by kernel_rfl) (by kernel_rfl) (by kernel_rfl) rfl rfl rfl rfl rfl rfl (gV 2 (.agg #[.int .i64 1, .int .i64 0, .int .u32 9, .int .i64 17, .int .i64 0, .int .i64 0, .int .i64 60, .int .i64 0]) aprag34 aprsz34) (fun w1 hw => hw.pick [1, 2, 3, 4] (by decide) rfl) ?_
 refine TH.takeG 33 rfl (by kernel_rfl) (by kernel_rfl) (by kernel_rfl) rfl rfl rfl rfl rfl rfl (gives_move rfl rfl) (fun w1 hw => hw.pick [1, 2, 3, 4] (by decide) rfl) ?_
 refine TH.takeG 34 rfl (by kernel_rfl) (by kernel_rfl) (by kernel_rfl) rfl rfl rfl rfl rfl rfl (gives_sliceH (v := .slice (some ⟨g_Ams, 0, none⟩) 2 cms) rfl rfl rfl (fun w => cut_hi Tryz.underlying67 prssz73 _ _ _ 2 rfl (by omega) w)) (fun w1 hw => hw.pick [1, 2, 3, 4] (by decide) rfl) ?_
 refine TH.only' 29 rfl (by kernel_rfl) rfl ?_
 refine TL.gu ?_
 refine TL.pcallPm (α := {y : Option Addr × Nat // awF.length ≤ y.2 ∧ y.2 ≤ maxLen}) (fun x => .slice x.1.1 awF.length x.1.2) (fun x => [.row (.slice x.1.1 awF.length x.1.2) 65 17 awF.length (flat Rs.cells awF)]) rfl rfl rfl rfl rfl Tryz.func99 (by decide) rfl (fun w1 hw => three_any w1) ?_
 rintro ⟨⟨At45, ct45⟩, ht451, ht452⟩
 dsimp only [List.cons_append, List.nil_append]
 refine zE ?_
 refine TX.held (fun w1 hw => hw.pick [2, 3, 4, 5] (by decide) rfl) ?_
 refine TH.only' 35 rfl (by kernel_rfl) rfl ?_
 refine TL.gu ?_
 refine TL.pcall1 (r := .bool false) rfl rfl rfl rfl rfl Tryz.func46 (by decide) rfl (fun w1 hw => calls_f (check42_any At45 ct45 awF none 0 ([] : List En) (⟨2, 1, 1⟩ : Ru) (⟨1, 0, 9, 17, 0, 0, 60, 0⟩ : Rp) (some ⟨g_Ams, 0, none⟩) cms (awIds.take 2) w1 (pm_rd hw (k := 0) rfl) (by decide) awF_ok Reads.none_ (show Reads w1 w1.heap.size 3 (some ⟨g_Ams, 0, none⟩) 2 (flat Idn.cells (awIds.take 2)) from Reads.headF idn_cel (pm_rd hw (k := 2) rfl) (by omega)) (by decide) (fun a h => awIds_ok a (List.mem_of_mem_take h))) aw_ck2) ?_
 refine zE ?_
 refine TX.held (fun w1 hw => hw.pick [2, 3, 4, 5] (by decide) rfl) ?_
 refine TH.takeG 36 rfl (by kernel_rfl) (by kernel_rfl) (by kernel_rfl) rfl rfl rfl rfl rfl rfl (gives_boolnot rfl rfl) (fun w1 hw => hw.pick [2, 3, 4, 5] (by decide) rfl) ?_
 refine TH.tk 37 rfl rfl rfl (gives_pick rfl rfl rfl) (fun w1 hw => hw.pick [2, 3, 4, 5] (by decide) rfl) ?_
 refine TH.tk 38 rfl rfl rfl (gives_move rfl rfl) (fun w1 hw => hw.pick [2, 3, 4, 5] (by decide) rfl) ?_
 refine TH.takeG 40 rfl (by kernel_rfl) (by kernel_rfl) (by kernel_rfl) rfl rfl rfl rfl rfl rfl (gives_move rfl rfl) (fun w1 hw => hw.pick [2, 3, 4, 5] (by decide) rfl) ?_
 refine TH.only' 39 rfl (by kernel_rfl) rfl ?_
 refine TL.gu ?_
 refine TL.pcallPm (α := {y : Option Addr × Nat // awF.length ≤ y.2 ∧ y.2 ≤ maxLen}) (fun x => .slice x.1.1 awF.length x.1.2) (fun x => [.row (.slice x.1.1 awF.length x.1.2) 65 17 awF.length (flat Rs.cells awF)]) rfl rfl rfl rfl rfl Tryz.func99 (by decide) rfl (fun w1 hw => three_any w1) ?_
 rintro ⟨⟨At55, ct55⟩, ht551, ht552⟩
 dsimp only [List.cons_append, List.nil_append]
 refine zE ?_
 refine TX.held (fun w1 hw => hw.pick [3, 4, 5, 6] (by decide) rfl) ?_
 refine TH.only' 41 rfl (by kernel_rfl) rfl ?_
 refine TL.gu ?_
 refine TL.pcallPm (α := {y : (Option Addr × Nat) × List Rs // WoP awF awIds y.2 ∧ y.2.length ≤ y.1.2 ∧ y.1.2 ≤ maxLen}) (fun x => .slice x.1.1.1 x.1.2.length x.1.1.2) (fun x => [.row (.slice x.1.1.1 x.1.2.length x.1.1.2) 65 17 x.1.2.length (flat Rs.cells x.1.2)]) rfl rfl rfl rfl rfl Tryz.func56 (by decide) rfl (fun w1 hw => without_any At55 ct55 awF (some ⟨g_Ams, 0, none⟩) cms awIds w1 (pm_rd hw (k := 0) rfl) (by decide) awF_ok (pm_rd hw (k := 3) rfl) (by decide)) ?_
 rintro ⟨⟨⟨R57, rc57⟩, wo57⟩, hP57, hR571, hR572⟩
 dsimp only [List.cons_append, List.nil_append]
 dsimp only at hP57 hR571 hR572 ⊢
 refine zE ?_
 refine TX.held (fun w1 hw => hw.pick [4, 5, 6, 7] (by decide) rfl) ?_
 refine TH.takeG 42 rfl (by kernel_rfl) (by kernel_rfl) (by kernel_rfl) rfl rfl rfl rfl rfl rfl (gN Tryz.underlying23) (fun w1 hw => hw.pick [4, 5, 6, 7] (by decide) rfl) ?_
 refine TH.takeG 43 rfl (by kernel_rfl) (by kernel_rfl) (by kernel_rfl) rfl rfl rfl rfl rfl rfl (gives_bin rfl rfl rfl (fun w => bin_eql_t (by rw [aw_wo hP57]; rfl) w)) (fun w1 hw => hw.pick [4, 5, 6, 7] (by decide) rfl) ?_
 refine TH.tk 44 rfl rfl rfl (gives_pick rfl rfl rfl) (fun w1 hw => hw.pick [4, 5, 6, 7] (by decide) rfl) ?_
 refine TH.tk 45 rfl rfl rfl (gives_assign rfl rfl) (fun w1 hw => hw.pick [4, 5, 6, 7] (by decide) rfl) ?_
 refine TH.done (by kernel_rfl) ?_
 refine zT (zr ?_)
 exact ret_tmp Tryz.results43 rfl (fun w1 hw => ⟨rfl, hw.bel⟩)
section
variable {P : Program} {N : Fr} {E : Env} {o : Oper} {I : World → Prop}
theorem gives_fieldV {t : TypeId} {x : Operand} {i : Nat} {vx v : Value} (ho : o.op = .field t x i) (hx : ev E x = some vx) (hv : ∀ w : World, (Instr.field t vx i).run P w = .ok v w) : Gives P N o E I v := fun a w ha _ => by
  unfold execOp; rw [ho]
  simp only [ha.eval hx, Sem.run_bind, hv, Result.andThen_ok, Sem.run_pure]
end
set_option maxRecDepth 20000
def NetsOk (ns : List Nt) (PP : List (Sg (Sg Int))) : Prop := 1 ≤ ns.length ∧ ns.length ≤ 2 ∧ ∀ n ∈ ns, NtOk n ∧ n.ps ∈ PP
def netsP (PP : List (Sg (Sg Int))) : List Pc := segG 96 1 (flat sgc) PP ++ segG 30 1 (flat (ic .u32)) (PP.flatMap (·.l))
theorem Pm.netIn {w0 : Base} {w : World} {p : Sg (Sg Int)} {P O : List Pc} {PP : List (Sg (Sg Int))} (h : Pm w0 (netP p ++ (P ++ (netsP PP ++ O))) w) : Pm w0 (P ++ (netsP (p :: PP) ++ O)) w := by
 refine h.permute ?_
 have e : netsP (p :: PP) = .row (.slice p.A p.l.length p.c) 96 1 p.l.length (flat sgc p.l) :: (segG 96 1 (flat sgc) PP ++ (segG 30 1 (flat (ic .u32)) p.l ++ segG 30 1 (flat (ic .u32)) (PP.flatMap (·.l)))) := by
  unfold netsP segG
  rw [List.flatMap_cons, List.map_append]
  rfl
 have h1 : (netP p ++ netsP PP).Perm (netsP (p :: PP)) := by
  rw [e]
  unfold netP netsP
  rw [List.cons_append]
  refine List.Perm.cons _ ?_
  rw [← List.append_assoc, ← List.append_assoc]
  exact List.Perm.append_right _ List.perm_append_comm
 have h2 : (netP p ++ (P ++ (netsP PP ++ O))).Perm (P ++ ((netP p ++ netsP PP) ++ O)) := by
  rw [← List.append_assoc, List.append_assoc (netP p) (netsP PP) O, ← List.append_assoc P]
  exact List.Perm.append_right _ List.perm_append_comm
 exact h2.trans (List.Perm.append_left P (List.Perm.append_right O h1))
theorem nets_mem1 {p : Sg (Sg Int)} {PP : List (Sg (Sg Int))} {T : List Pc} (h : p ∈ PP) : Pc.row (.slice p.A p.l.length p.c) 96 1 p.l.length (flat sgc p.l) ∈ netsP PP ++ T :=
 List.mem_append_left _ (List.mem_append_left _ (List.mem_map_of_mem (f := Sg.pc 96 1 (flat sgc)) h))
theorem nets_mem2 {p : Sg (Sg Int)} {s : Sg Int} {PP : List (Sg (Sg Int))} {T : List Pc} (h : p ∈ PP) (hs : s ∈ p.l) : Pc.row (.slice s.A s.l.length s.c) 30 1 s.l.length (flat (ic .u32) s.l) ∈ netsP PP ++ T :=
 List.mem_append_left _ (List.mem_append_right _ (List.mem_map_of_mem (f := Sg.pc 30 1 (flat (ic .u32))) (List.mem_flatMap.2 ⟨p, h, hs⟩)))
theorem nets_one {n : Nt} (h : NtOk n) : NetsOk [n] [n.ps] := ⟨Nat.le_refl _, by show 1 ≤ 2; decide, fun x hx => by rw [List.mem_singleton.1 hx]; exact ⟨h, List.mem_cons_self⟩⟩
theorem nets_two {n n' : Nt} (h : NtOk n) (h' : NtOk n') : NetsOk ([n] ++ [n']) [n'.ps, n.ps] := ⟨by show 1 ≤ 2; decide, Nat.le_refl _, fun x hx => by
 rcases List.mem_append.1 hx with hx | hx
 ·rw [List.mem_singleton.1 hx]; exact ⟨h, List.mem_cons_of_mem _ List.mem_cons_self⟩
 rw [List.mem_singleton.1 hx]; exact ⟨h', List.mem_cons_self⟩⟩
theorem nets_set {ns : List Nt} {PP : List (Sg (Sg Int))} {x y : Nt} {i : Nat} (h : NetsOk ns PP) (hx : ns[i]? = some x) (hy : NtOk y) : NetsOk (ns.set i ⟨x.v, x.dst, x.proto, y.ps, x.last⟩) (y.ps :: PP) := by
 refine ⟨by rw [List.length_set]; exact h.1, by rw [List.length_set]; exact h.2.1, fun z hz => ?_⟩
 rcases List.mem_or_eq_of_mem_set hz with h1 | h1
 ·exact ⟨(h.2.2 z h1).1, List.mem_cons_of_mem _ (h.2.2 z h1).2⟩
 rw [h1]
 obtain ⟨⟨h2, h3, _⟩, _⟩ := h.2.2 x (List.mem_of_getElem? hx)
 exact ⟨⟨h2, h3, hy.2.2⟩, List.mem_cons_self⟩
def AnsP (ans dbl : Bool) (src kind left id quo : Int) : Prop := (ans = false ∧ dbl = false ∧ src = 0 ∧ kind = 0 ∧ left = 0 ∧ id = 0 ∧ quo = 0) ∨ (ans = true ∧ 1 ≤ src ∧ src ≤ 167774466 ∧ 1 ≤ kind ∧ kind ≤ 3 ∧ left = 60 ∧ 0 ≤ id ∧ id ≤ 65535 ∧ quo = 1)
def DrR (r : Rs) : Prop := vldRs r = true ∧ r.Ok ∧ r.run = 0 ∧ TrOk ⟨r.v, r.dst, r.proto⟩ ∧ (0 ≤ r.num ∧ r.num ≤ 99) ∧ (0 ≤ r.flow ∧ r.flow ≤ 2) ∧ (1 ≤ r.ttl ∧ r.ttl ≤ 4) ∧ (0 ≤ r.at_ ∧ r.back ≤ 20000) ∧ AnsP r.ans r.dbl r.src r.kind r.left r.id r.quo ∧ r.code = 0
def DrOrd (a b : Rs) : Prop := a.back < b.at_ ∧ (a.v = b.v → a.num < b.num)
def DrawnOk (m : Nat) (l : List Rs) : Prop := (∀ r ∈ l, DrR r) ∧ l.Pairwise DrOrd ∧ l.length ≤ m
def OutOk (l : List Rs) (at_ n0 n1 : Nat) : Prop := (∀ r ∈ l, DrR r ∧ r.back ≤ (at_ : Int) ∧ (r.v = 0 → r.num < (n0 : Int)) ∧ (r.v = 1 → r.num < (n1 : Int))) ∧ l.Pairwise DrOrd ∧ n0 + n1 = l.length
theorem OutOk.nil (a : Nat) : OutOk [] a 0 0 := ⟨fun r hr => absurd hr List.not_mem_nil, .nil, rfl⟩
theorem OutOk.ok {l : List Rs} {a n0 n1 m : Nat} (h : OutOk l a n0 n1) (hm : l.length ≤ m) : DrawnOk m l := ⟨fun r hr => (h.1 r hr).1, h.2.1, hm⟩
theorem ans_vld {r : Rs} (h : r.inRange) (hd : r.dst ≠ 0) (hp : r.proto = 17 ∨ r.proto = 1 ∨ r.proto = 6) (ha : AnsP r.ans r.dbl r.src r.kind r.left r.id r.quo) (hc : r.code = 0) : vldRs r = true := by
 have h1 : chkR r = 0 := by
  unfold chkR
  rw [if_neg (fun h1 => h1 h), if_neg (fun h1 => h1 (by omega))]
  rcases ha with ⟨a1, a2, a3, a4, a5, a6, a7⟩ | ⟨a1, a2, a3, a4, a5, a6, a7, a8, a9⟩
  ·have hn : r.noAns = true := by unfold Rs.noAns; simp [a3, a4, a5, a6, a7, hc]
   rw [if_neg (by rw [a1, a2, hn]; simp), if_neg (by rw [a1]; simp)]
  have ho : r.ansOk := by unfold Rs.ansOk; omega
  rw [if_neg (by rw [a1]; simp), if_neg (fun h2 => h2.2 ho)]
 unfold vldRs
 simp only [h1, decide_true, Bool.true_and, Bool.and_eq_true, decide_eq_true_eq, Bool.or_eq_true, Bool.not_eq_true']
 refine ⟨hd, ?_⟩
 rcases ha with ⟨a1, _⟩ | ⟨a1, a2, _⟩
 ·exact .inl a1
 exact .inr (by omega)
theorem OutOk.snoc {l : List Rs} {at0 at1 n0 n1 n2 n3 num f tq bq : Nat} {v dst proto : Int} {an db : Bool} {sr kd lf ie qu : Int} (h : OutOk l at0 n0 n1) (ht : TrOk ⟨v, dst, proto⟩)
  (hnum : (v = 0 ∧ num = n0) ∨ (v = 1 ∧ num = n1)) (hn : (v = 0 ∧ n2 = n0 + 1 ∧ n3 = n1) ∨ (v = 1 ∧ n2 = n0 ∧ n3 = n1 + 1)) (ha : AnsP an db sr kd lf ie qu) (hat : at0 < at1) (hf : f ≤ 2) (htq : tq ≤ 3) (hb : bq ≤ 3) (hbd : at1 ≤ 19000 ∧ l.length ≤ 99) :
  OutOk (l ++ [⟨v, 0, (num : Int), (at1 : Int), dst, proto, (f : Int), ((1 + tq : Nat) : Int), an, db, ((at1 + 5 * (1 + tq) + bq : Nat) : Int), sr, kd, 0, lf, ie, qu⟩]) (at1 + 5 * (1 + tq) + bq) n2 n3 := by
 have ht2 := ht
 unfold TrOk at ht2
 dsimp only at ht2
 have hl := h.2.2
 have hso : 0 ≤ sr ∧ sr ≤ 4294967295 := by
  rcases ha with ⟨_, _, a3, _⟩ | ⟨_, a2, a3, _⟩ <;> omega
 have hnew : DrR ⟨v, 0, (num : Int), (at1 : Int), dst, proto, (f : Int), ((1 + tq : Nat) : Int), an, db, ((at1 + 5 * (1 + tq) + bq : Nat) : Int), sr, kd, 0, lf, ie, qu⟩ := by
  refine ⟨ans_vld ?_ (by dsimp only; omega) (by dsimp only; omega) ha rfl, ?_, rfl, ht, ?_, ?_, ?_, ?_, ha, rfl⟩
  ·unfold Rs.inRange; dsimp only; omega
  ·unfold Rs.Ok; dsimp only; omega
  ·dsimp only; omega
  ·dsimp only; omega
  ·dsimp only; omega
  dsimp only; omega
 refine ⟨fun r hr => ?_, List.pairwise_append.2 ⟨h.2.1, List.pairwise_singleton _ _, fun a ha2 b hb2 => ?_⟩, by rw [List.length_append]; show n2 + n3 = l.length + 1; omega⟩
 ·rcases List.mem_append.1 hr with hr | hr
  ·obtain ⟨h1, h2, h3, h4⟩ := h.1 r hr
   exact ⟨h1, by omega, fun e => by have := h3 e; omega, fun e => by have := h4 e; omega⟩
  rw [List.mem_singleton.1 hr]
  refine ⟨hnew, Int.le_refl _, fun e => ?_, fun e => ?_⟩
  ·dsimp only at e ⊢; omega
  dsimp only at e ⊢; omega
 rw [List.mem_singleton.1 hb2]
 obtain ⟨h1, h2, h3, h4⟩ := h.1 a ha2
 refine ⟨by dsimp only; omega, fun e => ?_⟩
 dsimp only at e ⊢
 rcases hnum with ⟨e1, e2⟩ | ⟨e1, e2⟩
 ·have := h3 (by omega); omega
 have := h4 (by omega); omega
theorem drebs121_1_73147 (a0_0 : Int) (a0_1 : Int) (a0_2 : Int) (a0_3 : Option Addr) (a0_3n a0_3c : Nat) (a0_4 : Int) (w : World) : (Instr.buildSlice 94 1 #[(0, .agg #[.int .i64 a0_0, .int .u32 a0_1, .int .i64 a0_2, .slice a0_3 a0_3n a0_3c, .int .u32 a0_4])]).run Tryz.prog w = .ok (.slice (some ⟨w.heap.size, 0, none⟩) 1 1) (w.alloc (.cells [.int .i64 a0_0, .int .u32 a0_1, .int .i64 a0_2, .slice a0_3 a0_3n a0_3c, .int .u32 a0_4].toArray 92)) := by kernel_rfl
theorem dreel121 : Elem Tryz.prog 94 92 5 56 := Elem.mk' Tryz.underlying94 (z := .agg #[.int .i64 0, .int .u32 0, .int .i64 0, .slice none 0 0, .int .u32 0]) (by kernel_rfl) rfl (by omega) (by omega)
theorem drezv122 (w : World) : (zeroValue 95).run Tryz.prog w = .ok (.agg #[.int .i64 0, .int .i64 0, .int .i64 0, .int .i64 0, .int .i64 0, .int .i64 0, .int .i64 0, .int .i64 0, .int .i64 0, .int .i64 0, .int .i64 0, .int .i64 0, .int .i64 0, .int .i64 0, .int .i64 0, .int .i64 0]) w := rfl
theorem drefv119_1_92971 (a0 : Int) (a1 : Int) (a2 : Int) (a3 : Option Addr) (a3n a3c : Nat) (a4 : Int) (w : World) : (Instr.field 92 (.agg #[.int .i64 a0, .int .u32 a1, .int .i64 a2, .slice a3 a3n a3c, .int .u32 a4]) 1).run Tryz.prog w = .ok (.slice a3 a3n a3c) w := by kernel_rfl
theorem drebld47_74773 (a0_0 : Int) (a1_0 : Int) (a2_0 : Int) (a3_0 : Int) (a4_0 : Int) (a5_0 : Int) (a6_0 : Int) (a7_0 : Int) (w : World) : (Instr.build 65 #[(0, .int .i64 a0_0), (1, .int .i64 a1_0), (2, .int .i64 a2_0), (3, .int .i64 a3_0), (4, .int .u32 a4_0), (5, .int .i64 a5_0), (6, .int .i64 a6_0), (7, .int .i64 a7_0)]).run Tryz.prog w = .ok (.agg #[.int .i64 a0_0, .int .i64 a1_0, .int .i64 a2_0, .int .i64 a3_0, .int .u32 a4_0, .int .i64 a5_0, .int .i64 a6_0, .int .i64 a7_0, .bool false, .bool false, .int .i64 0, .int .u32 0, .int .i64 0, .int .i64 0, .int .i64 0, .int .i64 0, .int .i64 0]) w := by kernel_rfl
theorem dresz4 (w : World) : (sizeOf 4).run Tryz.prog w = .ok 1 w := rfl
theorem dreone_b {a0 : Bool} : ∀ u ∈ [(.bool a0 : Value)], u.oneCell' = true := by
 intro u hu
 rw [List.mem_singleton] at hu
 subst hu; rfl
theorem drebld45_50928 (a0_0 : Int) (a1_0 : Int) (a3_0 : Int) (a4_0 : Int) (a5_0 : Int) (w : World) : (Instr.build 63 #[(0, .int .u32 a0_0), (1, .int .i64 a1_0), (3, .int .i64 a3_0), (4, .int .i64 a4_0), (5, .int .i64 a5_0)]).run Tryz.prog w = .ok (.agg #[.int .u32 a0_0, .int .i64 a1_0, .int .i64 0, .int .i64 a3_0, .int .i64 a4_0, .int .i64 a5_0]) w := by kernel_rfl
theorem dresz45 (w : World) : (sizeOf 63).run Tryz.prog w = .ok 6 w := rfl
theorem dreone_u32i64i64i64i64i64 {a0 : Int} {a1 : Int} {a2 : Int} {a3 : Int} {a4 : Int} {a5 : Int} : ∀ u ∈ [(.int .u32 a0 : Value), .int .i64 a1, .int .i64 a2, .int .i64 a3, .int .i64 a4, .int .i64 a5], u.oneCell' = true := by
 intro u hu
 simp only [List.mem_cons, List.not_mem_nil, or_false] at hu
 rcases hu with rfl | rfl | rfl | rfl | rfl | rfl <;> rfl
theorem results_cod (cb : Nat) (w : World) (hC : Cod w cb) (m : Nat) (stb : Bool) (hm : m ≤ 100) :
  Calls Tryz.prog 17 #[.pointer (some ⟨cb, 0, none⟩), .int .i64 ((m : Nat) : Int), .bool stb] w fun e w' => ∃ x : {y : (Option Addr × Nat) × List Rs // DrawnOk m y.2 ∧ y.2.length ≤ y.1.2 ∧ y.1.2 ≤ maxLen}, e = .returned (.slice x.1.1.1 x.1.2.length x.1.1.2) ∧ Codr (fun w => Cod w cb) cb w ([.row (.slice x.1.1.1 x.1.2.length x.1.1.2) 65 17 x.1.2.length (flat Rs.cells x.1.2)]) w' := by
 refine begin_ (vs := [.pointer (some ⟨cb, 0, none⟩), .int .i64 ((m : Nat) : Int), .bool stb]) (I := Pm ⟨w, cb⟩ (.abs cb (fun w => Cod w cb) :: oths cb w)) Tryz.func17 rfl rfl rfl ?_ (Pm.codes hC (cod_cells hC) (cod_stab cb))
 refine zSG (TL.as_ ?_)
 refine zET (zSG (TL.mv ?_))
 refine TL.call (α := {y : Nt // NtOk y}) (r := fun x => .agg x.1.cells.toArray) (I' := fun x => Pm ⟨w, cb⟩ ([.abs cb (fun w => Cod w cb)] ++ (netsP (x.1.ps :: ([])) ++ oths cb w))) rfl rfl rfl rfl rfl Tryz.func63 (by decide) rfl (fun w1 hw => (scene_cod cb w1 (hw.at_ (k := 0) rfl).1).mono fun e w2 ⟨x, h1, h2⟩ => ⟨x, h1, Pm.netIn (P := [.abs cb (fun w => Cod w cb)]) (PP := ([])) (O := oths cb w) (hw.cods (k := 0) rfl h2 (netP_noAbs _))⟩) ?_
 rintro ⟨sc0, hsc0⟩
 dsimp only
 refine TL.prowS (e := 92) (size := 5) (cs := flat Nt.cells [sc0]) rfl rfl rfl rfl rfl (fun w => drebs121_1_73147 _ _ _ _ _ _ _ w) (by decide) rfl (fun g21 => ?_)
 refine TL.as_ ?_
 refine zET ?_
 refine TC.join (α := {y : (Option Addr × Nat) × List Nt × List (Sg (Sg Int)) // NetsOk y.2.1 y.2.2 ∧ y.2.1.length ≤ y.1.2 ∧ y.1.2 ≤ maxLen}) (fun y => [(0, .pointer (some ⟨cb, 0, none⟩)), (1, .int .i64 ((m : Nat) : Int)), (2, .bool stb), (6, .slice none 0 0), (7, .slice y.1.1.1 y.1.2.1.length y.1.1.2)]) (fun y => Pm ⟨w, cb⟩ ([.row (.slice y.1.1.1 y.1.2.1.length y.1.1.2) 92 5 y.1.2.1.length (flat Nt.cells y.1.2.1), .abs cb (fun w => Cod w cb)] ++ (netsP y.1.2.2 ++ oths cb w))) ?_ ?_
 ·refine zSG (TL.mv ?_)
  refine TL.pcallCod (k := 1) (α := Bool) (fun x => .bool x) (fun x => []) rfl rfl rfl rfl rfl Tryz.func18 (by decide) rfl rfl (fun w1 hw hC1 => dbool_cod cb w1 hC1 3 (by decide)) ?_
  rintro b0
  dsimp only [List.cons_append, List.nil_append]
  refine zET ?_
  refine TC.split (t := b0) rfl (fun c23 => ?_) (fun c23 => ?_)
  ·refine zG (TL.rn 2 rfl ?_)
   refine TL.call (α := {y : Nt // NtOk y}) (r := fun x => .agg x.1.cells.toArray) (I' := fun x => Pm ⟨w, cb⟩ ([.row (.slice (some ⟨g21, 0, none⟩) 1 1) 92 5 1 (flat Nt.cells [sc0]), .abs cb (fun w => Cod w cb)] ++ (netsP (x.1.ps :: (sc0.ps :: ([]))) ++ oths cb w))) rfl rfl rfl rfl rfl Tryz.func63 (by decide) rfl (fun w1 hw => (scene_cod cb w1 (hw.at_ (k := 1) rfl).1).mono fun e w2 ⟨x, h1, h2⟩ => ⟨x, h1, Pm.netIn (P := [.row (.slice (some ⟨g21, 0, none⟩) 1 1) 92 5 1 (flat Nt.cells [sc0]), .abs cb (fun w => Cod w cb)]) (PP := (sc0.ps :: ([]))) (O := oths cb w) (hw.cods (k := 1) rfl h2 (netP_noAbs _))⟩) ?_
   rintro ⟨sc1, hsc1⟩
   dsimp only
   refine TL.prowS (e := 92) (size := 5) (cs := flat Nt.cells [sc1]) rfl rfl rfl rfl rfl (fun w => drebs121_1_73147 _ _ _ _ _ _ _ w) (by decide) rfl (fun g27 => ?_)
   refine TL.appendT (k := 1) rfl rfl rfl rfl Tryz.underlying94 dreel121 rfl rfl rfl (fun w1 hw => pm_reads hw (k := 0) rfl) (flat_one nt_cel _) (by show _ * 56 ≤ _; omega) (1 + 1) (rfl) (flat Nt.cells (([sc0]) ++ [sc1])) ((flat_app _ _).symm) (fun A28 c28 hA281 hA282 => ?_)
   refine TL.as_ ?_
   refine zE ?_
   exact TX.joined (⟨((A28, c28), ([sc0]) ++ [sc1], (sc1.ps :: (sc0.ps :: ([])))), nets_two hsc0 hsc1, hA281, hA282⟩) (⟨rfl, rfl, rfl, rfl, rfl, trivial⟩) (fun w1 hw => hw.sel (.cons _ (.cons_cons _ (.cons_cons _ (List.Sublist.refl _)))))
  refine zk ?_
  exact TX.joined (⟨(((some ⟨g21, 0, none⟩), 1), [sc0], (sc0.ps :: ([]))), nets_one hsc0, by show 1 ≤ 1; decide, by show 1 ≤ maxLen; unfold maxLen; decide⟩) (⟨rfl, rfl, rfl, rfl, rfl, trivial⟩) (fun w1 hw => hw)
 rintro ⟨⟨⟨An, cn⟩, ns, PP⟩, hns, hnc, hnm⟩
 dsimp only at hns hnc hnm ⊢
 have hn1 := hns.1
 have hn2 := hns.2.1
 refine zS (TC.fact (p := ∃ g, An = some ⟨g, 0, none⟩) (fun w1 hw => rowA hw (k := 0) rfl (by omega)) ?_)
 rintro ⟨g_An, rfl⟩
 refine zG (TL.as_ ?_)
 refine zET (zSG (TL.mv ?_))
 refine TL.pcallCod (k := 1) (α := {q9 : Nat // q9 ≤ 65535 ∧ (1 ≤ (50 : Int) → (q9 : Int) < 50)}) (fun q9 => .int .i64 ((q9.1 : Nat) : Int)) (fun q9 => []) rfl rfl rfl rfl rfl Tryz.func21 (by decide) rfl rfl (fun w1 hw hC1 => next_cod cb w1 50 hC1) ?_
 rintro ⟨a0, ha01, ha02⟩
 dsimp only [List.cons_append, List.nil_append]
 refine TL.mv ?_
 refine TL.pcallCod (k := 1) (α := {q9 : Nat // q9 ≤ 65535 ∧ (1 ≤ (700 : Int) → (q9 : Int) < 700)}) (fun q9 => .int .i64 ((q9.1 : Nat) : Int)) (fun q9 => []) rfl rfl rfl rfl rfl Tryz.func21 (by decide) rfl rfl (fun w1 hw hC1 => next_cod cb w1 700 hC1) ?_
 rintro ⟨i0, hi01, hi02⟩
 dsimp only [List.cons_append, List.nil_append]
 refine TL.val rfl rfl rfl (gives_bin rfl rfl rfl (fun w => bin_mul_ (r := ((100 * i0 : Nat) : Int)) (by simp only [IntKind.wrap_i64]; omega) w)) ?_
 refine TL.rn 2 rfl (zET (zSG ?_))
 refine TL.pnew rfl rfl rfl (exec_alloc (cs := [.int .i64 0, .int .i64 0, .int .i64 0, .int .i64 0, .int .i64 0, .int .i64 0, .int .i64 0, .int .i64 0, .int .i64 0, .int .i64 0, .int .i64 0, .int .i64 0, .int .i64 0, .int .i64 0, .int .i64 0, .int .i64 0]) rfl drezv122 rfl) (fun g11 => ?_)
 refine zET (zS (zSG (TL.rn 2 rfl (TL.v (gD ((m + 1 : Nat) : Int)) ?_))))
 refine TL.pcallCod (k := 2) (α := {q9 : Nat // q9 ≤ 65535 ∧ (1 ≤ (((m + 1 : Nat) : Int) : Int) → (q9 : Int) < ((m + 1 : Nat) : Int))}) (fun q9 => .int .i64 ((q9.1 : Nat) : Int)) (fun q9 => []) rfl rfl rfl rfl rfl Tryz.func21 (by decide) rfl rfl (fun w1 hw hC1 => next_cod cb w1 ((m + 1 : Nat) : Int) hC1) ?_
 rintro ⟨k0, hk01, hk02⟩
 dsimp only [List.cons_append, List.nil_append]
 refine TL.as_ ?_
 refine zET (zB (TC.nilrow 65 17 ?_))
 refine TC.loop_ (α := {y : Nat × Nat × Nat × (Nat × Nat) × (Option Addr × Nat) × List Rs × List Nt × List (Sg (Sg Int)) // (y.1 + y.2.2.2.2.2.1.length ≤ m ∧ y.2.1 ≤ 100 + 100 * y.2.2.2.2.2.1.length ∧ y.2.2.1 ≤ 70000 + 100 * y.2.2.2.2.2.1.length) ∧ OutOk y.2.2.2.2.2.1 y.2.1 y.2.2.2.1.1 y.2.2.2.1.2 ∧ NetsOk y.2.2.2.2.2.2.1 y.2.2.2.2.2.2.2 ∧ y.2.2.2.2.2.2.1.length = ns.length ∧ y.2.2.2.2.2.1.length ≤ y.2.2.2.2.1.2 ∧ y.2.2.2.2.1.2 ≤ maxLen}) (fun y => [(0, .pointer (some ⟨cb, 0, none⟩)), (2, .bool stb), (7, .slice (some ⟨g_An, 0, none⟩) ns.length cn), (8, .slice y.1.2.2.2.2.1.1 y.1.2.2.2.2.2.1.length y.1.2.2.2.2.1.2), (9, .int .i64 ((y.1.2.1 : Nat) : Int)), (10, .int .i64 ((y.1.2.2.1 : Nat) : Int)), (12, .int .i64 ((y.1.1 : Nat) : Int)), (11, .pointer (some ⟨g11, 0, none⟩))]) (fun y => Pm ⟨w, cb⟩ ([.row (.slice y.1.2.2.2.2.1.1 y.1.2.2.2.2.2.1.length y.1.2.2.2.2.1.2) 65 17 y.1.2.2.2.2.2.1.length (flat Rs.cells y.1.2.2.2.2.2.1), .blk g11 95 [.int .i64 ((y.1.2.2.2.1.1 : Nat) : Int), .int .i64 ((y.1.2.2.2.1.2 : Nat) : Int), .int .i64 0, .int .i64 0, .int .i64 0, .int .i64 0, .int .i64 0, .int .i64 0, .int .i64 0, .int .i64 0, .int .i64 0, .int .i64 0, .int .i64 0, .int .i64 0, .int .i64 0, .int .i64 0], .row (.slice (some ⟨g_An, 0, none⟩) ns.length cn) 92 5 ns.length (flat Nt.cells y.1.2.2.2.2.2.2.1), .abs cb (fun w => Cod w cb)] ++ (netsP y.1.2.2.2.2.2.2.2 ++ oths cb w))) (fun y => y.1.1) (⟨(k0, a0, 100 * i0, (0, 0), (none, 0), [], ns, PP), ⟨by dsimp only [List.length_nil]; omega, by dsimp only [List.length_nil]; omega, by dsimp only [List.length_nil]; omega⟩, OutOk.nil _, hns, rfl, Nat.le_refl _, Nat.zero_le _⟩) ⟨rfl, rfl, rfl, rfl, rfl, rfl, rfl, rfl, trivial⟩ (fun w1 hw => hw) ?_
 rintro ⟨⟨k, at0, idn, ⟨n0, n1⟩, ⟨Ar, cr⟩, out, ns1, P1⟩, ⟨hk, hat, hid⟩, hout, hns1, hnl1, hrc, hrm⟩
 dsimp only at hk hat hid hout hns1 hnl1 hrc hrm ⊢
 refine zS (zSG (TL.mv ?_))
 refine TL.sp bin_gtr (fun q39 => ?_) (fun q39 => ?_)
 ·refine zET (zc (zk (zT (zS (zB (zSG (TL.rn 2 rfl (TL.v (gN Tryz.underlying94) ?_))))))))
  refine TL.pcallCod (k := 3) (α := {q9 : Nat // q9 ≤ 65535 ∧ (1 ≤ ((ns.length : Nat) : Int) → (q9 : Int) < (ns.length : Nat))}) (fun q9 => .int .i64 ((q9.1 : Nat) : Int)) (fun q9 => []) rfl rfl rfl rfl rfl Tryz.func21 (by decide) rfl rfl (fun w1 hw hC1 => next_cod cb w1 (ns.length : Nat) hC1) ?_
  rintro ⟨ix, hix1, hix2⟩
  dsimp only [List.cons_append, List.nil_append]
  refine TL.as_ ?_
  refine zET ?_
  refine TC.join (α := {y : List Nt × List (Sg (Sg Int)) // NetsOk y.1 y.2 ∧ y.1.length = ns.length}) (fun y => [(0, .pointer (some ⟨cb, 0, none⟩)), (2, .bool stb), (7, .slice (some ⟨g_An, 0, none⟩) ns.length cn), (8, .slice Ar out.length cr), (9, .int .i64 ((at0 : Nat) : Int)), (10, .int .i64 ((idn : Nat) : Int)), (11, .pointer (some ⟨g11, 0, none⟩)), (12, .int .i64 ((k : Nat) : Int)), (13, .int .i64 ((ix : Nat) : Int))]) (fun y => Pm ⟨w, cb⟩ ([.row (.slice Ar out.length cr) 65 17 out.length (flat Rs.cells out), .blk g11 95 [.int .i64 ((n0 : Nat) : Int), .int .i64 ((n1 : Nat) : Int), .int .i64 0, .int .i64 0, .int .i64 0, .int .i64 0, .int .i64 0, .int .i64 0, .int .i64 0, .int .i64 0, .int .i64 0, .int .i64 0, .int .i64 0, .int .i64 0, .int .i64 0, .int .i64 0], .row (.slice (some ⟨g_An, 0, none⟩) ns.length cn) 92 5 ns.length (flat Nt.cells y.1.1), .abs cb (fun w => Cod w cb)] ++ (netsP y.1.2 ++ oths cb w))) ?_ ?_
  ·refine zSG (TL.mv ?_)
   cases stb with
   | true =>
    refine TL.rn 5 rfl (zET (zd (zk ?_)))
    exact TX.joined (⟨(ns1, P1), hns1, hnl1⟩) (⟨rfl, rfl, rfl, rfl, rfl, rfl, rfl, rfl, rfl, trivial⟩) (fun w1 hw => hw)
   | false =>
    refine TL.rn 3 rfl (TL.gu ?_)
    refine TL.pcallCod (k := 3) (α := Bool) (fun x => .bool x) (fun x => []) rfl rfl rfl rfl rfl Tryz.func18 (by decide) rfl rfl (fun w1 hw hC1 => dbool_cod cb w1 hC1 12 (by decide)) ?_
    rintro b1
    dsimp only [List.cons_append, List.nil_append]
    refine TL.pk ?_
    refine zET ?_
    refine TC.split (t := b1) rfl (fun c51 => ?_) (fun c51 => ?_)
    ·refine zG (TL.rn 3 rfl ?_)
     refine TL.call (α := {y : Nt // NtOk y}) (r := fun x => .agg x.1.cells.toArray) (I' := fun x => Pm ⟨w, cb⟩ ([.row (.slice Ar out.length cr) 65 17 out.length (flat Rs.cells out), .blk g11 95 [.int .i64 ((n0 : Nat) : Int), .int .i64 ((n1 : Nat) : Int), .int .i64 0, .int .i64 0, .int .i64 0, .int .i64 0, .int .i64 0, .int .i64 0, .int .i64 0, .int .i64 0, .int .i64 0, .int .i64 0, .int .i64 0, .int .i64 0, .int .i64 0, .int .i64 0], .row (.slice (some ⟨g_An, 0, none⟩) ns.length cn) 92 5 ns.length (flat Nt.cells ns1), .abs cb (fun w => Cod w cb)] ++ (netsP (x.1.ps :: P1) ++ oths cb w))) rfl rfl rfl rfl rfl Tryz.func63 (by decide) rfl (fun w1 hw => (scene_cod cb w1 (hw.at_ (k := 3) rfl).1).mono fun e w2 ⟨x, h1, h2⟩ => ⟨x, h1, Pm.netIn (P := [.row (.slice Ar out.length cr) 65 17 out.length (flat Rs.cells out), .blk g11 95 [.int .i64 ((n0 : Nat) : Int), .int .i64 ((n1 : Nat) : Int), .int .i64 0, .int .i64 0, .int .i64 0, .int .i64 0, .int .i64 0, .int .i64 0, .int .i64 0, .int .i64 0, .int .i64 0, .int .i64 0, .int .i64 0, .int .i64 0, .int .i64 0, .int .i64 0], .row (.slice (some ⟨g_An, 0, none⟩) ns.length cn) 92 5 ns.length (flat Nt.cells ns1), .abs cb (fun w => Cod w cb)]) (PP := P1) (O := oths cb w) (hw.cods (k := 3) rfl h2 (netP_noAbs _))⟩) ?_
     rintro ⟨sc2, hsc2⟩
     dsimp only
     refine TL.val rfl rfl rfl (gives_fieldV (v := .slice sc2.ps.A sc2.ps.l.length sc2.ps.c) rfl rfl (fun w => drefv119_1_92971 _ _ _ _ _ _ _ w)) ?_
     have hi57 : ix < ns1.length := by omega
     obtain ⟨x57, hx57⟩ := ex_at hi57
     refine TL.val rfl rfl rfl (gA (i := ix) Tryz.underlying94 dntsz119 rfl rfl rfl rfl rfl (by omega)) ?_
     refine TL.v (gF dntfld119_1) ?_
     refine TL.rowset (k := 2) (vs := [.slice sc2.ps.A sc2.ps.l.length sc2.ps.c]) (xs' := flat Nt.cells (ns1.set ix (⟨x57.v, x57.dst, x57.proto, sc2.ps, x57.last⟩ : Nt))) rfl rfl rfl rfl rfl rfl rfl dntsz117 dntone_s (by rw [flat_len nt_cel]; show 0 + ix * 5 + 3 + 1 ≤ _; omega) (flat_put nt_cel (q := 3) (y := (⟨x57.v, x57.dst, x57.proto, sc2.ps, x57.last⟩ : Nt)) hx57 (by show 3 + 1 ≤ 5; decide) rfl) ?_
     try dsimp only [List.set_cons_zero, List.set_cons_succ]
     refine zE ?_
     exact TX.joined (⟨(ns1.set ix (⟨x57.v, x57.dst, x57.proto, sc2.ps, x57.last⟩ : Nt), (sc2.ps :: P1)), nets_set hns1 hx57 hsc2, by dsimp only; rw [List.length_set]; exact hnl1⟩) (⟨rfl, rfl, rfl, rfl, rfl, rfl, rfl, rfl, rfl, trivial⟩) (fun w1 hw => hw)
    refine zk ?_
    exact TX.joined (⟨(ns1, P1), hns1, hnl1⟩) (⟨rfl, rfl, rfl, rfl, rfl, rfl, rfl, rfl, rfl, trivial⟩) (fun w1 hw => hw)
  rintro ⟨⟨ns2, P2⟩, hns2, hnl2⟩
  dsimp only at hns2 hnl2 ⊢
  refine zSG (TL.rn 2 rfl ?_)
  have hi61 : ix < ns2.length := by omega
  obtain ⟨x61, hx61⟩ := ex_at hi61
  refine TL.val rfl rfl rfl (gA (i := ix) Tryz.underlying94 dntsz119 rfl rfl rfl rfl rfl (by omega)) ?_
  refine TL.val rfl rfl rfl (gives_loadR (off := 0 + ix * 5) rfl rfl dntag119 dntsz119 (nt_cel.len x61) (fun w1 hw j9 u9 h9 => flat_row nt_cel hw (q := 2) rfl hx61 j9 u9 h9)) ?_
  refine TL.pnew rfl rfl rfl (exec_alloc (cs := [.int .i64 0, .int .u32 0, .int .i64 0, .slice none 0 0, .int .u32 0]) rfl dntzv119 rfl) (fun g14 => ?_)
  refine TL.pstore (k := 0) (vs := x61.cells) rfl rfl rfl rfl rfl rfl rfl dntsz119 (nt_cel.one _) (by show 5 ≤ 5; decide) (L' := ([.blk g14 92 x61.cells, .row (.slice Ar out.length cr) 65 17 out.length (flat Rs.cells out), .blk g11 95 [.int .i64 ((n0 : Nat) : Int), .int .i64 ((n1 : Nat) : Int), .int .i64 0, .int .i64 0, .int .i64 0, .int .i64 0, .int .i64 0, .int .i64 0, .int .i64 0, .int .i64 0, .int .i64 0, .int .i64 0, .int .i64 0, .int .i64 0, .int .i64 0, .int .i64 0], .row (.slice (some ⟨g_An, 0, none⟩) ns.length cn) 92 5 ns.length (flat Nt.cells ns2), .abs cb (fun w => Cod w cb)] ++ (netsP P2 ++ oths cb w))) rfl ?_
  refine zET (zS ?_)
  have hnn := hout.2.2
  obtain ⟨hx61k, hx61p⟩ := hns2.2.2 x61 (List.mem_of_getElem? hx61)
  obtain ⟨hx61t, hx61l, lg, hlg1, hlg3, hps1, hps3, hlgw⟩ := hx61k
  have hx61t2 := hx61t
  unfold TrOk at hx61t2
  dsimp only at hx61t2
  have hv61 : x61.v = 0 ∨ x61.v = 1 := by omega
  refine zG (TL.mv ?_)
  refine TL.v (gF dntfld119_1) ?_
  refine TL.v (gL 0 dntag117) ?_
  refine TL.v (gN Tryz.underlying90) ?_
  refine TL.pcallCod (k := 4) (α := {q9 : Nat // q9 ≤ 65535 ∧ (1 ≤ ((x61.ps.l.length : Nat) : Int) → (q9 : Int) < (x61.ps.l.length : Nat))}) (fun q9 => .int .i64 ((q9.1 : Nat) : Int)) (fun q9 => []) rfl rfl rfl rfl rfl Tryz.func21 (by decide) rfl rfl (fun w1 hw hC1 => next_cod cb w1 (x61.ps.l.length : Nat) hC1) ?_
  rintro ⟨f, hf1, hf2⟩
  dsimp only [List.cons_append, List.nil_append]
  refine TL.as_ ?_
  refine zET (zSG (TL.v (gF dntfld119_1) ?_))
  refine TL.v (gL 0 dntag117) ?_
  refine TL.mv ?_
  have hmm71 := nets_mem1 (T := oths cb w) hx61p
  refine TL.fact (p := ∃ g, x61.ps.A = some ⟨g, 0, none⟩) (fun w1 hw => segA hw (List.mem_of_mem_drop (i := 5) (by exact hmm71)) (by omega)) ?_
  rintro ⟨gx71, hgx71⟩
  obtain ⟨p71, hp71⟩ : ∃ z, x61.ps.l[f]? = some z := ⟨_, List.getElem?_eq_getElem (by omega)⟩
  refine TL.val rfl rfl rfl (gA (i := f) Tryz.underlying90 dntsz64 rfl rfl rfl rfl hgx71 (by omega)) ?_
  refine TL.val rfl rfl rfl (gives_load (v := .slice p71.A p71.l.length p71.c) rfl rfl dntag64 (fun w1 hw => seg_cell sgc_cel hw (List.mem_of_mem_drop (i := 5) (by exact hmm71)) hgx71 hp71 0 _ rfl)) ?_
  have hpw71 := hlgw p71 (List.mem_of_getElem? hp71)
  have hp71l := hpw71.1
  refine TL.as_ ?_
  refine zET (zSG (TL.rn 2 rfl ?_))
  refine TL.pcallCod (k := 4) (α := {q9 : Nat // q9 ≤ 65535 ∧ (1 ≤ (40 : Int) → (q9 : Int) < 40)}) (fun q9 => .int .i64 ((q9.1 : Nat) : Int)) (fun q9 => []) rfl rfl rfl rfl rfl Tryz.func21 (by decide) rfl rfl (fun w1 hw hC1 => next_cod cb w1 40 hC1) ?_
  rintro ⟨dq, hdq1, hdq2⟩
  dsimp only [List.cons_append, List.nil_append]
  refine TL.v (gD ((1 + dq : Nat) : Int)) ?_
  refine TL.v (gD ((at0 + (1 + dq) : Nat) : Int)) ?_
  refine TL.as_ ?_
  refine zET ?_
  refine TC.join (α := {y : (Nat × Nat) × Nat // ((x61.v = 0 ∧ y.1.2 = n0) ∨ (x61.v = 1 ∧ y.1.2 = n1)) ∧ y.2 ≤ p71.l.length}) (fun y => [(0, .pointer (some ⟨cb, 0, none⟩)), (2, .bool stb), (7, .slice (some ⟨g_An, 0, none⟩) ns.length cn), (8, .slice Ar out.length cr), (9, .int .i64 ((at0 + (1 + dq) : Nat) : Int)), (10, .int .i64 ((idn : Nat) : Int)), (11, .pointer (some ⟨g11, 0, none⟩)), (12, .int .i64 ((k : Nat) : Int)), (14, .pointer (some ⟨g14, 0, none⟩)), (15, .int .i64 ((f : Nat) : Int)), (16, .slice p71.A p71.l.length p71.c), (17, .pointer (some ⟨y.1.1.1, 0, none⟩))]) (fun y => Pm ⟨w, cb⟩ ([.blk y.1.1.1 65 [.int .i64 x61.v, .int .i64 0, .int .i64 ((y.1.1.2 : Nat) : Int), .int .i64 ((at0 + (1 + dq) : Nat) : Int), .int .u32 x61.dst, .int .i64 x61.proto, .int .i64 ((f : Nat) : Int), .int .i64 ((1 + y.1.2 : Nat) : Int), .bool false, .bool false, .int .i64 0, .int .u32 0, .int .i64 0, .int .i64 0, .int .i64 0, .int .i64 0, .int .i64 0], .blk g14 92 x61.cells, .row (.slice Ar out.length cr) 65 17 out.length (flat Rs.cells out), .blk g11 95 [.int .i64 ((n0 : Nat) : Int), .int .i64 ((n1 : Nat) : Int), .int .i64 0, .int .i64 0, .int .i64 0, .int .i64 0, .int .i64 0, .int .i64 0, .int .i64 0, .int .i64 0, .int .i64 0, .int .i64 0, .int .i64 0, .int .i64 0, .int .i64 0, .int .i64 0], .row (.slice (some ⟨g_An, 0, none⟩) ns.length cn) 92 5 ns.length (flat Nt.cells ns2), .abs cb (fun w => Cod w cb)] ++ (netsP P2 ++ oths cb w))) ?_ ?_
  ·rcases hv61 with hv0 | hv1
   ·refine TC.cut [(0, .pointer (some ⟨cb, 0, none⟩)), (2, .bool stb), (7, .slice (some ⟨g_An, 0, none⟩) ns.length cn), (8, .slice Ar out.length cr), (9, .int .i64 ((at0 + (1 + dq) : Nat) : Int)), (10, .int .i64 ((idn : Nat) : Int)), (11, .pointer (some ⟨g11, 0, none⟩)), (12, .int .i64 ((k : Nat) : Int)), (13, .int .i64 ((ix : Nat) : Int)), (59, .slice (some ⟨g_An, 0, none⟩) ns.length cn), (60, .int .i64 ((ix : Nat) : Int)), (61, .pointer (some ⟨g_An, 0 + ix * 5, none⟩)), (62, .agg (x61.cells).toArray), (14, .pointer (some ⟨g14, 0, none⟩)), (63, .pointer (some ⟨cb, 0, none⟩)), (64, .pointer (some ⟨g14, 3, none⟩)), (65, .slice x61.ps.A x61.ps.l.length x61.ps.c), (66, .int .i64 (x61.ps.l.length : Nat)), (67, .int .i64 ((f : Nat) : Int)), (15, .int .i64 ((f : Nat) : Int)), (68, .pointer (some ⟨g14, 3, none⟩)), (69, .slice x61.ps.A x61.ps.l.length x61.ps.c), (70, .int .i64 ((f : Nat) : Int)), (71, .pointer (some ⟨gx71, 0 + f * 1, none⟩)), (72, .slice p71.A p71.l.length p71.c), (16, .slice p71.A p71.l.length p71.c), (73, .int .i64 ((at0 : Nat) : Int)), (74, .pointer (some ⟨cb, 0, none⟩)), (75, .int .i64 ((dq : Nat) : Int)), (76, .int .i64 ((1 + dq : Nat) : Int)), (77, .int .i64 ((at0 + (1 + dq) : Nat) : Int))] (Pm ⟨w, cb⟩ ([.blk g14 92 x61.cells, .row (.slice Ar out.length cr) 65 17 out.length (flat Rs.cells out), .blk g11 95 [.int .i64 ((n0 : Nat) : Int), .int .i64 ((n1 : Nat) : Int), .int .i64 0, .int .i64 0, .int .i64 0, .int .i64 0, .int .i64 0, .int .i64 0, .int .i64 0, .int .i64 0, .int .i64 0, .int .i64 0, .int .i64 0, .int .i64 0, .int .i64 0, .int .i64 0], .row (.slice (some ⟨g_An, 0, none⟩) ns.length cn) 92 5 ns.length (flat Nt.cells ns2), .abs cb (fun w => Cod w cb)] ++ (netsP P2 ++ oths cb w))) ⟨rfl, rfl, rfl, rfl, rfl, rfl, rfl, rfl, rfl, rfl, rfl, rfl, rfl, rfl, rfl, rfl, rfl, rfl, rfl, rfl, rfl, rfl, rfl, rfl, rfl, rfl, rfl, rfl, rfl, rfl, rfl, trivial⟩ (fun w1 hw => hw) ?_
    refine TC.held (ls := #[Ff,Ff,Ff,Ff,Ff,Ff,Ff,Ff,Ff,Ff,Ff,Ff,Ff,Ff,Ff,Ff,Ff,Ff,Ff,Ff,Ff,Ff,Ff,Ff,Ff]) (Pm ⟨w, cb⟩ [.blk g14 92 x61.cells, .blk g11 95 [.int .i64 ((n0 : Nat) : Int), .int .i64 ((n1 : Nat) : Int), .int .i64 0, .int .i64 0, .int .i64 0, .int .i64 0, .int .i64 0, .int .i64 0, .int .i64 0, .int .i64 0, .int .i64 0, .int .i64 0, .int .i64 0, .int .i64 0, .int .i64 0, .int .i64 0]]) (by kernel_rfl) rfl rfl (fun w hw => hw.drawn _) ?_
    refine TH.tk 0 rfl rfl rfl (gF dntfld119_0) (fun w1 hw => hw.pick [0, 2] (by decide) rfl) ?_
    refine TH.tk 1 rfl rfl rfl (gF pcmfld32_0) (fun w1 hw => hw.pick [0, 2] (by decide) rfl) ?_
    refine TH.tk 2 rfl rfl rfl (gL 0 pcmag3) (fun w1 hw => hw.pick [0, 2] (by decide) rfl) ?_
    refine TH.tk 3 rfl rfl rfl (gF dntfld119_0) (fun w1 hw => hw.pick [0, 2] (by decide) rfl) ?_
    refine TH.tk 4 rfl rfl rfl (gF pcmfld32_0) (fun w1 hw => hw.pick [0, 2] (by decide) rfl) ?_
    refine TH.tk 5 rfl rfl rfl (show Gives _ _ _ _ _ (Value.int .i64 0) from by rw [show (Value.int .i64 0) = .int .i64 x61.v by rw [hv0]]; exact pm_load (k := 0) (i := 0) rfl rfl pcmag3 rfl rfl) (fun w1 hw => hw.pick [0, 2] (by decide) rfl) ?_
    refine TH.tk 6 rfl rfl rfl (gives_at (v := .pointer (some ⟨g11, 0, none⟩)) rfl rfl rfl (fun w => at_arr Tryz.underlying95 pcmsz3 g11 0 _ 0 (by decide) w)) (fun w1 hw => hw.pick [0, 2] (by decide) rfl) ?_
    refine TH.tk 7 rfl rfl rfl (gL 1 pcmag3) (fun w1 hw => hw.pick [0, 2] (by decide) rfl) ?_
    refine TH.tk 8 rfl rfl rfl (gives_move rfl rfl) (fun w1 hw => hw.pick [0, 2] (by decide) rfl) ?_
    refine TH.tk 9 rfl rfl rfl (gF dntfld119_0) (fun w1 hw => hw.pick [0, 2] (by decide) rfl) ?_
    refine TH.tk 10 rfl rfl rfl (gF pcmfld32_1) (fun w1 hw => hw.pick [0, 2] (by decide) rfl) ?_
    refine TH.tk 11 rfl rfl rfl (gL 0 pcmag30) (fun w1 hw => hw.pick [0, 2] (by decide) rfl) ?_
    refine TH.tk 12 rfl rfl rfl (gF dntfld119_0) (fun w1 hw => hw.pick [0, 2] (by decide) rfl) ?_
    refine TH.tk 13 rfl rfl rfl (gF pcmfld32_2) (fun w1 hw => hw.pick [0, 2] (by decide) rfl) ?_
    refine TH.tk 14 rfl rfl rfl (gL 0 pcmag3) (fun w1 hw => hw.pick [0, 2] (by decide) rfl) ?_
    refine TH.tk 15 rfl rfl rfl (gives_move rfl rfl) (fun w1 hw => hw.pick [0, 2] (by decide) rfl) ?_
    refine TH.tk 16 rfl rfl rfl (gives_move rfl rfl) (fun w1 hw => hw.pick [0, 2] (by decide) rfl) ?_
    refine TH.tk 17 rfl rfl rfl (gives_move rfl rfl) (fun w1 hw => hw.pick [0, 2] (by decide) rfl) ?_
    refine TH.tk 18 rfl rfl rfl (gN Tryz.underlying96) (fun w1 hw => hw.pick [0, 2] (by decide) rfl) ?_
    refine TH.tk 19 rfl rfl rfl (gD ((p71.l.length + 1 : Nat) : Int)) (fun w1 hw => hw.pick [0, 2] (by decide) rfl) ?_
    refine TH.two' (listed1 := #[Tt,Tt,Tt,Tt,Tt,Tt,Tt,Tt,Tt,Tt,Tt,Tt,Tt,Tt,Tt,Tt,Tt,Tt,Tt,Tt,Tt,Ff,Ff,Ff,Ff]) (listed2 := #[Tt,Tt,Tt,Tt,Tt,Tt,Tt,Tt,Tt,Tt,Tt,Tt,Tt,Tt,Tt,Tt,Tt,Tt,Tt,Tt,Ff,Ff,Ff,Tt,Ff]) 20 23 rfl rfl (by kernel_rfl) rfl rfl ?_ ?_
    ·refine TL.pcallCod (k := 4) (α := {q9 : Nat // q9 ≤ 65535 ∧ (1 ≤ (((p71.l.length + 1 : Nat) : Int) : Int) → (q9 : Int) < ((p71.l.length + 1 : Nat) : Int))}) (fun q9 => .int .i64 ((q9.1 : Nat) : Int)) (fun q9 => []) rfl rfl rfl rfl rfl Tryz.func21 (by decide) rfl rfl (fun w1 hw hC1 => next_cod cb w1 ((p71.l.length + 1 : Nat) : Int) hC1) ?_
     rintro ⟨tq, htq1, htq2⟩
     dsimp only [List.cons_append, List.nil_append]
     refine zE ?_
     refine TX.he (fun w1 hw => hw.pick [0, 2] (by decide) rfl) fun hS => ?_
     refine TH.t 21 rfl (gD ((1 + tq : Nat) : Int)) hS ?_
     refine TH.t 22 rfl (gives_build (v := .agg #[.int .i64 x61.v, .int .i64 0, .int .i64 ((n0 : Nat) : Int), .int .i64 ((at0 + (1 + dq) : Nat) : Int), .int .u32 x61.dst, .int .i64 x61.proto, .int .i64 ((f : Nat) : Int), .int .i64 ((1 + tq : Nat) : Int), .bool false, .bool false, .int .i64 0, .int .u32 0, .int .i64 0, .int .i64 0, .int .i64 0, .int .i64 0, .int .i64 0]) rfl rfl (fun w => drebld47_74773 _ _ _ _ _ _ _ _ w)) hS ?_
     refine TH.only' 23 rfl (by kernel_rfl) rfl ?_
     refine TL.pnew rfl rfl rfl (exec_alloc (cs := [.int .i64 0, .int .i64 0, .int .i64 0, .int .i64 0, .int .u32 0, .int .i64 0, .int .i64 0, .int .i64 0, .bool false, .bool false, .int .i64 0, .int .u32 0, .int .i64 0, .int .i64 0, .int .i64 0, .int .i64 0, .int .i64 0]) rfl arpzv65 rfl) (fun g17 => ?_)
     refine zE ?_
     refine TX.held (fun w1 hw => hw.pick [1, 3] (by decide) rfl) ?_
     refine TH.only' 24 rfl (by kernel_rfl) rfl ?_
     refine TL.pstore (k := 0) (vs := [.int .i64 x61.v, .int .i64 0, .int .i64 ((n0 : Nat) : Int), .int .i64 ((at0 + (1 + dq) : Nat) : Int), .int .u32 x61.dst, .int .i64 x61.proto, .int .i64 ((f : Nat) : Int), .int .i64 ((1 + tq : Nat) : Int), .bool false, .bool false, .int .i64 0, .int .u32 0, .int .i64 0, .int .i64 0, .int .i64 0, .int .i64 0, .int .i64 0]) rfl rfl rfl rfl rfl rfl rfl prssz65 arpone_i64i64i64i64u32i64i64i64bbi64u32i64i64i64i64i64 (by show 17 ≤ 17; decide) rfl ?_
     refine zE ?_
     refine TX.held (fun w1 hw => hw.pick [1, 3] (by decide) rfl) ?_
     refine TH.done (by kernel_rfl) ?_
     exact TX.joined (⟨((g17, n0), tq), by dsimp only; omega, by dsimp only; omega⟩) (⟨rfl, rfl, rfl, rfl, rfl, rfl, rfl, rfl, rfl, rfl, rfl, rfl, trivial⟩) (fun w1 hw => hw)
    refine TL.pnew rfl rfl rfl (exec_alloc (cs := [.int .i64 0, .int .i64 0, .int .i64 0, .int .i64 0, .int .u32 0, .int .i64 0, .int .i64 0, .int .i64 0, .bool false, .bool false, .int .i64 0, .int .u32 0, .int .i64 0, .int .i64 0, .int .i64 0, .int .i64 0, .int .i64 0]) rfl arpzv65 rfl) (fun g17 => ?_)
    refine zE ?_
    refine TX.held (fun w1 hw => hw.pick [1, 3] (by decide) rfl) ?_
    refine TH.only' 20 rfl (by kernel_rfl) rfl ?_
    refine TL.pcallCod (k := 5) (α := {q9 : Nat // q9 ≤ 65535 ∧ (1 ≤ (((p71.l.length + 1 : Nat) : Int) : Int) → (q9 : Int) < ((p71.l.length + 1 : Nat) : Int))}) (fun q9 => .int .i64 ((q9.1 : Nat) : Int)) (fun q9 => []) rfl rfl rfl rfl rfl Tryz.func21 (by decide) rfl rfl (fun w1 hw hC1 => next_cod cb w1 ((p71.l.length + 1 : Nat) : Int) hC1) ?_
    rintro ⟨tq, htq1, htq2⟩
    dsimp only [List.cons_append, List.nil_append]
    refine zE ?_
    refine TX.he (fun w1 hw => hw.pick [1, 3] (by decide) rfl) fun hS => ?_
    refine TH.t 21 rfl (gD ((1 + tq : Nat) : Int)) hS ?_
    refine TH.t 22 rfl (gives_build (v := .agg #[.int .i64 x61.v, .int .i64 0, .int .i64 ((n0 : Nat) : Int), .int .i64 ((at0 + (1 + dq) : Nat) : Int), .int .u32 x61.dst, .int .i64 x61.proto, .int .i64 ((f : Nat) : Int), .int .i64 ((1 + tq : Nat) : Int), .bool false, .bool false, .int .i64 0, .int .u32 0, .int .i64 0, .int .i64 0, .int .i64 0, .int .i64 0, .int .i64 0]) rfl rfl (fun w => drebld47_74773 _ _ _ _ _ _ _ _ w)) hS ?_
    refine TH.only' 24 rfl (by kernel_rfl) rfl ?_
    refine TL.pstore (k := 0) (vs := [.int .i64 x61.v, .int .i64 0, .int .i64 ((n0 : Nat) : Int), .int .i64 ((at0 + (1 + dq) : Nat) : Int), .int .u32 x61.dst, .int .i64 x61.proto, .int .i64 ((f : Nat) : Int), .int .i64 ((1 + tq : Nat) : Int), .bool false, .bool false, .int .i64 0, .int .u32 0, .int .i64 0, .int .i64 0, .int .i64 0, .int .i64 0, .int .i64 0]) rfl rfl rfl rfl rfl rfl rfl prssz65 arpone_i64i64i64i64u32i64i64i64bbi64u32i64i64i64i64i64 (by show 17 ≤ 17; decide) rfl ?_
    refine zE ?_
    refine TX.held (fun w1 hw => hw.pick [1, 3] (by decide) rfl) ?_
    refine TH.done (by kernel_rfl) ?_
    exact TX.joined (⟨((g17, n0), tq), by dsimp only; omega, by dsimp only; omega⟩) (⟨rfl, rfl, rfl, rfl, rfl, rfl, rfl, rfl, rfl, rfl, rfl, rfl, trivial⟩) (fun w1 hw => hw)
   refine TC.cut [(0, .pointer (some ⟨cb, 0, none⟩)), (2, .bool stb), (7, .slice (some ⟨g_An, 0, none⟩) ns.length cn), (8, .slice Ar out.length cr), (9, .int .i64 ((at0 + (1 + dq) : Nat) : Int)), (10, .int .i64 ((idn : Nat) : Int)), (11, .pointer (some ⟨g11, 0, none⟩)), (12, .int .i64 ((k : Nat) : Int)), (13, .int .i64 ((ix : Nat) : Int)), (59, .slice (some ⟨g_An, 0, none⟩) ns.length cn), (60, .int .i64 ((ix : Nat) : Int)), (61, .pointer (some ⟨g_An, 0 + ix * 5, none⟩)), (62, .agg (x61.cells).toArray), (14, .pointer (some ⟨g14, 0, none⟩)), (63, .pointer (some ⟨cb, 0, none⟩)), (64, .pointer (some ⟨g14, 3, none⟩)), (65, .slice x61.ps.A x61.ps.l.length x61.ps.c), (66, .int .i64 (x61.ps.l.length : Nat)), (67, .int .i64 ((f : Nat) : Int)), (15, .int .i64 ((f : Nat) : Int)), (68, .pointer (some ⟨g14, 3, none⟩)), (69, .slice x61.ps.A x61.ps.l.length x61.ps.c), (70, .int .i64 ((f : Nat) : Int)), (71, .pointer (some ⟨gx71, 0 + f * 1, none⟩)), (72, .slice p71.A p71.l.length p71.c), (16, .slice p71.A p71.l.length p71.c), (73, .int .i64 ((at0 : Nat) : Int)), (74, .pointer (some ⟨cb, 0, none⟩)), (75, .int .i64 ((dq : Nat) : Int)), (76, .int .i64 ((1 + dq : Nat) : Int)), (77, .int .i64 ((at0 + (1 + dq) : Nat) : Int))] (Pm ⟨w, cb⟩ ([.blk g14 92 x61.cells, .row (.slice Ar out.length cr) 65 17 out.length (flat Rs.cells out), .blk g11 95 [.int .i64 ((n0 : Nat) : Int), .int .i64 ((n1 : Nat) : Int), .int .i64 0, .int .i64 0, .int .i64 0, .int .i64 0, .int .i64 0, .int .i64 0, .int .i64 0, .int .i64 0, .int .i64 0, .int .i64 0, .int .i64 0, .int .i64 0, .int .i64 0, .int .i64 0], .row (.slice (some ⟨g_An, 0, none⟩) ns.length cn) 92 5 ns.length (flat Nt.cells ns2), .abs cb (fun w => Cod w cb)] ++ (netsP P2 ++ oths cb w))) ⟨rfl, rfl, rfl, rfl, rfl, rfl, rfl, rfl, rfl, rfl, rfl, rfl, rfl, rfl, rfl, rfl, rfl, rfl, rfl, rfl, rfl, rfl, rfl, rfl, rfl, rfl, rfl, rfl, rfl, rfl, rfl, trivial⟩ (fun w1 hw => hw) ?_
   refine TC.held (ls := #[Ff,Ff,Ff,Ff,Ff,Ff,Ff,Ff,Ff,Ff,Ff,Ff,Ff,Ff,Ff,Ff,Ff,Ff,Ff,Ff,Ff,Ff,Ff,Ff,Ff]) (Pm ⟨w, cb⟩ [.blk g14 92 x61.cells, .blk g11 95 [.int .i64 ((n0 : Nat) : Int), .int .i64 ((n1 : Nat) : Int), .int .i64 0, .int .i64 0, .int .i64 0, .int .i64 0, .int .i64 0, .int .i64 0, .int .i64 0, .int .i64 0, .int .i64 0, .int .i64 0, .int .i64 0, .int .i64 0, .int .i64 0, .int .i64 0]]) (by kernel_rfl) rfl rfl (fun w hw => hw.drawn _) ?_
   refine TH.tk 0 rfl rfl rfl (gF dntfld119_0) (fun w1 hw => hw.pick [0, 2] (by decide) rfl) ?_
   refine TH.tk 1 rfl rfl rfl (gF pcmfld32_0) (fun w1 hw => hw.pick [0, 2] (by decide) rfl) ?_
   refine TH.tk 2 rfl rfl rfl (gL 0 pcmag3) (fun w1 hw => hw.pick [0, 2] (by decide) rfl) ?_
   refine TH.tk 3 rfl rfl rfl (gF dntfld119_0) (fun w1 hw => hw.pick [0, 2] (by decide) rfl) ?_
   refine TH.tk 4 rfl rfl rfl (gF pcmfld32_0) (fun w1 hw => hw.pick [0, 2] (by decide) rfl) ?_
   refine TH.tk 5 rfl rfl rfl (show Gives _ _ _ _ _ (Value.int .i64 1) from by rw [show (Value.int .i64 1) = .int .i64 x61.v by rw [hv1]]; exact pm_load (k := 0) (i := 0) rfl rfl pcmag3 rfl rfl) (fun w1 hw => hw.pick [0, 2] (by decide) rfl) ?_
   refine TH.tk 6 rfl rfl rfl (gives_at (v := .pointer (some ⟨g11, 1, none⟩)) rfl rfl rfl (fun w => at_arr Tryz.underlying95 pcmsz3 g11 0 _ 1 (by decide) w)) (fun w1 hw => hw.pick [0, 2] (by decide) rfl) ?_
   refine TH.tk 7 rfl rfl rfl (gL 1 pcmag3) (fun w1 hw => hw.pick [0, 2] (by decide) rfl) ?_
   refine TH.tk 8 rfl rfl rfl (gives_move rfl rfl) (fun w1 hw => hw.pick [0, 2] (by decide) rfl) ?_
   refine TH.tk 9 rfl rfl rfl (gF dntfld119_0) (fun w1 hw => hw.pick [0, 2] (by decide) rfl) ?_
   refine TH.tk 10 rfl rfl rfl (gF pcmfld32_1) (fun w1 hw => hw.pick [0, 2] (by decide) rfl) ?_
   refine TH.tk 11 rfl rfl rfl (gL 0 pcmag30) (fun w1 hw => hw.pick [0, 2] (by decide) rfl) ?_
   refine TH.tk 12 rfl rfl rfl (gF dntfld119_0) (fun w1 hw => hw.pick [0, 2] (by decide) rfl) ?_
   refine TH.tk 13 rfl rfl rfl (gF pcmfld32_2) (fun w1 hw => hw.pick [0, 2] (by decide) rfl) ?_
   refine TH.tk 14 rfl rfl rfl (gL 0 pcmag3) (fun w1 hw => hw.pick [0, 2] (by decide) rfl) ?_
   refine TH.tk 15 rfl rfl rfl (gives_move rfl rfl) (fun w1 hw => hw.pick [0, 2] (by decide) rfl) ?_
   refine TH.tk 16 rfl rfl rfl (gives_move rfl rfl) (fun w1 hw => hw.pick [0, 2] (by decide) rfl) ?_
   refine TH.tk 17 rfl rfl rfl (gives_move rfl rfl) (fun w1 hw => hw.pick [0, 2] (by decide) rfl) ?_
   refine TH.tk 18 rfl rfl rfl (gN Tryz.underlying96) (fun w1 hw => hw.pick [0, 2] (by decide) rfl) ?_
   refine TH.tk 19 rfl rfl rfl (gD ((p71.l.length + 1 : Nat) : Int)) (fun w1 hw => hw.pick [0, 2] (by decide) rfl) ?_
   refine TH.two' (listed1 := #[Tt,Tt,Tt,Tt,Tt,Tt,Tt,Tt,Tt,Tt,Tt,Tt,Tt,Tt,Tt,Tt,Tt,Tt,Tt,Tt,Tt,Ff,Ff,Ff,Ff]) (listed2 := #[Tt,Tt,Tt,Tt,Tt,Tt,Tt,Tt,Tt,Tt,Tt,Tt,Tt,Tt,Tt,Tt,Tt,Tt,Tt,Tt,Ff,Ff,Ff,Tt,Ff]) 20 23 rfl rfl (by kernel_rfl) rfl rfl ?_ ?_
   ·refine TL.pcallCod (k := 4) (α := {q9 : Nat // q9 ≤ 65535 ∧ (1 ≤ (((p71.l.length + 1 : Nat) : Int) : Int) → (q9 : Int) < ((p71.l.length + 1 : Nat) : Int))}) (fun q9 => .int .i64 ((q9.1 : Nat) : Int)) (fun q9 => []) rfl rfl rfl rfl rfl Tryz.func21 (by decide) rfl rfl (fun w1 hw hC1 => next_cod cb w1 ((p71.l.length + 1 : Nat) : Int) hC1) ?_
    rintro ⟨tq, htq1, htq2⟩
    dsimp only [List.cons_append, List.nil_append]
    refine zE ?_
    refine TX.he (fun w1 hw => hw.pick [0, 2] (by decide) rfl) fun hS => ?_
    refine TH.t 21 rfl (gD ((1 + tq : Nat) : Int)) hS ?_
    refine TH.t 22 rfl (gives_build (v := .agg #[.int .i64 x61.v, .int .i64 0, .int .i64 ((n1 : Nat) : Int), .int .i64 ((at0 + (1 + dq) : Nat) : Int), .int .u32 x61.dst, .int .i64 x61.proto, .int .i64 ((f : Nat) : Int), .int .i64 ((1 + tq : Nat) : Int), .bool false, .bool false, .int .i64 0, .int .u32 0, .int .i64 0, .int .i64 0, .int .i64 0, .int .i64 0, .int .i64 0]) rfl rfl (fun w => drebld47_74773 _ _ _ _ _ _ _ _ w)) hS ?_
    refine TH.only' 23 rfl (by kernel_rfl) rfl ?_
    refine TL.pnew rfl rfl rfl (exec_alloc (cs := [.int .i64 0, .int .i64 0, .int .i64 0, .int .i64 0, .int .u32 0, .int .i64 0, .int .i64 0, .int .i64 0, .bool false, .bool false, .int .i64 0, .int .u32 0, .int .i64 0, .int .i64 0, .int .i64 0, .int .i64 0, .int .i64 0]) rfl arpzv65 rfl) (fun g17 => ?_)
    refine zE ?_
    refine TX.held (fun w1 hw => hw.pick [1, 3] (by decide) rfl) ?_
    refine TH.only' 24 rfl (by kernel_rfl) rfl ?_
    refine TL.pstore (k := 0) (vs := [.int .i64 x61.v, .int .i64 0, .int .i64 ((n1 : Nat) : Int), .int .i64 ((at0 + (1 + dq) : Nat) : Int), .int .u32 x61.dst, .int .i64 x61.proto, .int .i64 ((f : Nat) : Int), .int .i64 ((1 + tq : Nat) : Int), .bool false, .bool false, .int .i64 0, .int .u32 0, .int .i64 0, .int .i64 0, .int .i64 0, .int .i64 0, .int .i64 0]) rfl rfl rfl rfl rfl rfl rfl prssz65 arpone_i64i64i64i64u32i64i64i64bbi64u32i64i64i64i64i64 (by show 17 ≤ 17; decide) rfl ?_
    refine zE ?_
    refine TX.held (fun w1 hw => hw.pick [1, 3] (by decide) rfl) ?_
    refine TH.done (by kernel_rfl) ?_
    exact TX.joined (⟨((g17, n1), tq), by dsimp only; omega, by dsimp only; omega⟩) (⟨rfl, rfl, rfl, rfl, rfl, rfl, rfl, rfl, rfl, rfl, rfl, rfl, trivial⟩) (fun w1 hw => hw)
   refine TL.pnew rfl rfl rfl (exec_alloc (cs := [.int .i64 0, .int .i64 0, .int .i64 0, .int .i64 0, .int .u32 0, .int .i64 0, .int .i64 0, .int .i64 0, .bool false, .bool false, .int .i64 0, .int .u32 0, .int .i64 0, .int .i64 0, .int .i64 0, .int .i64 0, .int .i64 0]) rfl arpzv65 rfl) (fun g17 => ?_)
   refine zE ?_
   refine TX.held (fun w1 hw => hw.pick [1, 3] (by decide) rfl) ?_
   refine TH.only' 20 rfl (by kernel_rfl) rfl ?_
   refine TL.pcallCod (k := 5) (α := {q9 : Nat // q9 ≤ 65535 ∧ (1 ≤ (((p71.l.length + 1 : Nat) : Int) : Int) → (q9 : Int) < ((p71.l.length + 1 : Nat) : Int))}) (fun q9 => .int .i64 ((q9.1 : Nat) : Int)) (fun q9 => []) rfl rfl rfl rfl rfl Tryz.func21 (by decide) rfl rfl (fun w1 hw hC1 => next_cod cb w1 ((p71.l.length + 1 : Nat) : Int) hC1) ?_
   rintro ⟨tq, htq1, htq2⟩
   dsimp only [List.cons_append, List.nil_append]
   refine zE ?_
   refine TX.he (fun w1 hw => hw.pick [1, 3] (by decide) rfl) fun hS => ?_
   refine TH.t 21 rfl (gD ((1 + tq : Nat) : Int)) hS ?_
   refine TH.t 22 rfl (gives_build (v := .agg #[.int .i64 x61.v, .int .i64 0, .int .i64 ((n1 : Nat) : Int), .int .i64 ((at0 + (1 + dq) : Nat) : Int), .int .u32 x61.dst, .int .i64 x61.proto, .int .i64 ((f : Nat) : Int), .int .i64 ((1 + tq : Nat) : Int), .bool false, .bool false, .int .i64 0, .int .u32 0, .int .i64 0, .int .i64 0, .int .i64 0, .int .i64 0, .int .i64 0]) rfl rfl (fun w => drebld47_74773 _ _ _ _ _ _ _ _ w)) hS ?_
   refine TH.only' 24 rfl (by kernel_rfl) rfl ?_
   refine TL.pstore (k := 0) (vs := [.int .i64 x61.v, .int .i64 0, .int .i64 ((n1 : Nat) : Int), .int .i64 ((at0 + (1 + dq) : Nat) : Int), .int .u32 x61.dst, .int .i64 x61.proto, .int .i64 ((f : Nat) : Int), .int .i64 ((1 + tq : Nat) : Int), .bool false, .bool false, .int .i64 0, .int .u32 0, .int .i64 0, .int .i64 0, .int .i64 0, .int .i64 0, .int .i64 0]) rfl rfl rfl rfl rfl rfl rfl prssz65 arpone_i64i64i64i64u32i64i64i64bbi64u32i64i64i64i64i64 (by show 17 ≤ 17; decide) rfl ?_
   refine zE ?_
   refine TX.held (fun w1 hw => hw.pick [1, 3] (by decide) rfl) ?_
   refine TH.done (by kernel_rfl) ?_
   exact TX.joined (⟨((g17, n1), tq), by dsimp only; omega, by dsimp only; omega⟩) (⟨rfl, rfl, rfl, rfl, rfl, rfl, rfl, rfl, rfl, rfl, rfl, rfl, trivial⟩) (fun w1 hw => hw)
  rintro ⟨⟨⟨gR, num⟩, tq⟩, hnum, htq⟩
  dsimp only at hnum htq ⊢
  refine TC.join (α := {y : Nat × Nat // (x61.v = 0 ∧ y.1 = n0 + 1 ∧ y.2 = n1) ∨ (x61.v = 1 ∧ y.1 = n0 ∧ y.2 = n1 + 1)}) (fun y => [(0, .pointer (some ⟨cb, 0, none⟩)), (2, .bool stb), (7, .slice (some ⟨g_An, 0, none⟩) ns.length cn), (8, .slice Ar out.length cr), (9, .int .i64 ((at0 + (1 + dq) : Nat) : Int)), (10, .int .i64 ((idn : Nat) : Int)), (11, .pointer (some ⟨g11, 0, none⟩)), (12, .int .i64 ((k : Nat) : Int)), (14, .pointer (some ⟨g14, 0, none⟩)), (15, .int .i64 ((f : Nat) : Int)), (16, .slice p71.A p71.l.length p71.c), (17, .pointer (some ⟨gR, 0, none⟩))]) (fun y => Pm ⟨w, cb⟩ ([.blk gR 65 [.int .i64 x61.v, .int .i64 0, .int .i64 ((num : Nat) : Int), .int .i64 ((at0 + (1 + dq) : Nat) : Int), .int .u32 x61.dst, .int .i64 x61.proto, .int .i64 ((f : Nat) : Int), .int .i64 ((1 + tq : Nat) : Int), .bool false, .bool false, .int .i64 0, .int .u32 0, .int .i64 0, .int .i64 0, .int .i64 0, .int .i64 0, .int .i64 0], .blk g14 92 x61.cells, .row (.slice Ar out.length cr) 65 17 out.length (flat Rs.cells out), .blk g11 95 [.int .i64 ((y.1.1 : Nat) : Int), .int .i64 ((y.1.2 : Nat) : Int), .int .i64 0, .int .i64 0, .int .i64 0, .int .i64 0, .int .i64 0, .int .i64 0, .int .i64 0, .int .i64 0, .int .i64 0, .int .i64 0, .int .i64 0, .int .i64 0, .int .i64 0, .int .i64 0], .row (.slice (some ⟨g_An, 0, none⟩) ns.length cn) 92 5 ns.length (flat Nt.cells ns2), .abs cb (fun w => Cod w cb)] ++ (netsP P2 ++ oths cb w))) ?_ ?_
  ·rcases hv61 with hv0 | hv1
   ·refine zG (TL.v (gF dntfld119_0) ?_)
    refine TL.v (gF pcmfld32_0) ?_
    refine TL.val rfl rfl rfl (show Gives _ _ _ _ _ (Value.int .i64 0) from by rw [show (Value.int .i64 0) = .int .i64 x61.v by rw [hv0]]; exact pm_load (k := 1) (i := 0) rfl rfl pcmag3 rfl rfl) ?_
    refine TL.val rfl rfl rfl (gives_at (v := .pointer (some ⟨g11, 0, none⟩)) rfl rfl rfl (fun w => at_arr Tryz.underlying95 pcmsz3 g11 0 _ 0 (by decide) w)) ?_
    refine TL.v (gL 3 pcmag3) ?_
    refine TL.v (gD ((n0 + 1 : Nat) : Int)) ?_
    refine TL.val rfl rfl rfl (gives_at (v := .pointer (some ⟨g11, 0, none⟩)) rfl rfl rfl (fun w => at_arr Tryz.underlying95 pcmsz3 g11 0 _ 0 (by decide) w)) ?_
    refine TL.pstore (k := 3) (vs := [.int .i64 ((n0 + 1 : Nat) : Int)]) rfl rfl rfl rfl rfl rfl rfl pcmsz3 aeaone_i64 (by show 1 ≤ 16; decide) rfl ?_
    refine zE ?_
    exact TX.joined (⟨(n0 + 1, n1), by dsimp only; omega⟩) (⟨rfl, rfl, rfl, rfl, rfl, rfl, rfl, rfl, rfl, rfl, rfl, rfl, trivial⟩) (fun w1 hw => hw)
   refine zG (TL.v (gF dntfld119_0) ?_)
   refine TL.v (gF pcmfld32_0) ?_
   refine TL.val rfl rfl rfl (show Gives _ _ _ _ _ (Value.int .i64 1) from by rw [show (Value.int .i64 1) = .int .i64 x61.v by rw [hv1]]; exact pm_load (k := 1) (i := 0) rfl rfl pcmag3 rfl rfl) ?_
   refine TL.val rfl rfl rfl (gives_at (v := .pointer (some ⟨g11, 1, none⟩)) rfl rfl rfl (fun w => at_arr Tryz.underlying95 pcmsz3 g11 0 _ 1 (by decide) w)) ?_
   refine TL.v (gL 3 pcmag3) ?_
   refine TL.v (gD ((n1 + 1 : Nat) : Int)) ?_
   refine TL.val rfl rfl rfl (gives_at (v := .pointer (some ⟨g11, 1, none⟩)) rfl rfl rfl (fun w => at_arr Tryz.underlying95 pcmsz3 g11 0 _ 1 (by decide) w)) ?_
   refine TL.pstore (k := 3) (vs := [.int .i64 ((n1 + 1 : Nat) : Int)]) rfl rfl rfl rfl rfl rfl rfl pcmsz3 aeaone_i64 (by show 2 ≤ 16; decide) rfl ?_
   refine zE ?_
   exact TX.joined (⟨(n0, n1 + 1), by dsimp only; omega⟩) (⟨rfl, rfl, rfl, rfl, rfl, rfl, rfl, rfl, rfl, rfl, rfl, rfl, trivial⟩) (fun w1 hw => hw)
  rintro ⟨⟨n2, n3⟩, hn23⟩
  dsimp only at hn23 ⊢
  refine zS (TC.held (ls := #[Ff,Ff,Ff,Ff,Ff,Ff,Ff,Ff,Ff,Ff,Ff]) (fun w1 => ∃ b : Int, Pm ⟨w, cb⟩ [.blk gR 65 [.int .i64 x61.v, .int .i64 0, .int .i64 ((num : Nat) : Int), .int .i64 ((at0 + (1 + dq) : Nat) : Int), .int .u32 x61.dst, .int .i64 x61.proto, .int .i64 ((f : Nat) : Int), .int .i64 ((1 + tq : Nat) : Int), .bool false, .bool false, .int .i64 b, .int .u32 0, .int .i64 0, .int .i64 0, .int .i64 0, .int .i64 0, .int .i64 0]] w1) (by kernel_rfl) rfl rfl (fun w hw => hw.drawn _) ?_)
  refine TH.tk 0 rfl rfl rfl (gF prsfld65_3) (fun w1 hw => ⟨_, hw.pick [0] (by decide) rfl⟩) ?_
  refine TH.tk 1 rfl rfl rfl (gives_load (v := .int .i64 ((at0 + (1 + dq) : Nat) : Int)) rfl rfl pcmag3 (fun w1 hw => by obtain ⟨b, hw⟩ := hw; exact (hw.cell (k := 0) rfl 3).trans rfl)) (fun w1 hw => ⟨_, hw.pick [0] (by decide) rfl⟩) ?_
  refine TH.tk 2 rfl rfl rfl (gF prsfld65_7) (fun w1 hw => ⟨_, hw.pick [0] (by decide) rfl⟩) ?_
  refine TH.tk 3 rfl rfl rfl (gives_load (v := .int .i64 ((1 + tq : Nat) : Int)) rfl rfl pcmag3 (fun w1 hw => by obtain ⟨b, hw⟩ := hw; exact (hw.cell (k := 0) rfl 7).trans rfl)) (fun w1 hw => ⟨_, hw.pick [0] (by decide) rfl⟩) ?_
  refine TH.tk 4 rfl rfl rfl (gives_bin rfl rfl rfl (fun w => bin_mul_ (r := ((5 * (1 + tq) : Nat) : Int)) (by simp only [IntKind.wrap_i64]; omega) w)) (fun w1 hw => ⟨_, hw.pick [0] (by decide) rfl⟩) ?_
  refine TH.tk 5 rfl rfl rfl (gD ((at0 + (1 + dq) + 5 * (1 + tq) : Nat) : Int)) (fun w1 hw => ⟨_, hw.pick [0] (by decide) rfl⟩) ?_
  refine TH.tk 6 rfl rfl rfl (gives_move rfl rfl) (fun w1 hw => ⟨_, hw.pick [0] (by decide) rfl⟩) ?_
  refine TH.only' 7 rfl (by kernel_rfl) rfl ?_
  refine TL.pcallCod (k := 5) (α := {q9 : Nat // q9 ≤ 65535 ∧ (1 ≤ (4 : Int) → (q9 : Int) < 4)}) (fun q9 => .int .i64 ((q9.1 : Nat) : Int)) (fun q9 => []) rfl rfl rfl rfl rfl Tryz.func21 (by decide) rfl rfl (fun w1 hw hC1 => next_cod cb w1 4 hC1) ?_
  rintro ⟨bq, hbq1, hbq2⟩
  dsimp only [List.cons_append, List.nil_append]
  refine zE ?_
  refine TX.he (fun w1 hw => ⟨_, hw.pick [0] (by decide) rfl⟩) fun hS => ?_
  refine TH.t 8 rfl (gD ((at0 + (1 + dq) + 5 * (1 + tq) + bq : Nat) : Int)) hS ?_
  refine TH.t 9 rfl (gF prsfld65_10) hS ?_
  refine TH.only' 10 rfl (by kernel_rfl) rfl ?_
  refine TL.pstore (k := 0) (vs := [.int .i64 ((at0 + (1 + dq) + 5 * (1 + tq) + bq : Nat) : Int)]) rfl rfl rfl rfl rfl rfl rfl pcmsz3 aeaone_i64 (by show 11 ≤ 17; decide) rfl ?_
  refine zE ?_
  refine TX.held (fun w1 hw => ⟨_, hw.pick [0] (by decide) rfl⟩) ?_
  refine TH.done (by kernel_rfl) ?_
  refine zT (zSG (TL.rn 2 rfl ?_))
  refine TL.pcallCod (k := 5) (α := {q9 : Nat // q9 ≤ 65535 ∧ (1 ≤ (5 : Int) → (q9 : Int) < 5)}) (fun q9 => .int .i64 ((q9.1 : Nat) : Int)) (fun q9 => []) rfl rfl rfl rfl rfl Tryz.func21 (by decide) rfl rfl (fun w1 hw hC1 => next_cod cb w1 5 hC1) ?_
  rintro ⟨ec, hec1, hec2⟩
  dsimp only [List.cons_append, List.nil_append]
  refine TL.v (gD ((1 + ec : Nat) : Int)) ?_
  refine TL.v (gD ((idn + (1 + ec) : Nat) : Int)) ?_
  refine TL.as_ ?_
  refine zET (zSG (TL.v (gF dntfld119_2) ?_))
  refine TL.v (gL 1 pcmag30) ?_
  refine TL.as_ ?_
  refine zET ?_
  refine TC.join (α := {a : Int // 0 ≤ a ∧ a ≤ 167774466}) (fun y => [(0, .pointer (some ⟨cb, 0, none⟩)), (2, .bool stb), (7, .slice (some ⟨g_An, 0, none⟩) ns.length cn), (8, .slice Ar out.length cr), (9, .int .i64 ((at0 + (1 + dq) : Nat) : Int)), (10, .int .i64 ((idn + (1 + ec) : Nat) : Int)), (11, .pointer (some ⟨g11, 0, none⟩)), (12, .int .i64 ((k : Nat) : Int)), (16, .slice p71.A p71.l.length p71.c), (17, .pointer (some ⟨gR, 0, none⟩)), (18, .int .u32 y.1)]) (fun y => Pm ⟨w, cb⟩ ([.blk gR 65 [.int .i64 x61.v, .int .i64 0, .int .i64 ((num : Nat) : Int), .int .i64 ((at0 + (1 + dq) : Nat) : Int), .int .u32 x61.dst, .int .i64 x61.proto, .int .i64 ((f : Nat) : Int), .int .i64 ((1 + tq : Nat) : Int), .bool false, .bool false, .int .i64 ((at0 + (1 + dq) + 5 * (1 + tq) + bq : Nat) : Int), .int .u32 0, .int .i64 0, .int .i64 0, .int .i64 0, .int .i64 0, .int .i64 0], .blk g14 92 x61.cells, .row (.slice Ar out.length cr) 65 17 out.length (flat Rs.cells out), .blk g11 95 [.int .i64 ((n2 : Nat) : Int), .int .i64 ((n3 : Nat) : Int), .int .i64 0, .int .i64 0, .int .i64 0, .int .i64 0, .int .i64 0, .int .i64 0, .int .i64 0, .int .i64 0, .int .i64 0, .int .i64 0, .int .i64 0, .int .i64 0, .int .i64 0, .int .i64 0], .row (.slice (some ⟨g_An, 0, none⟩) ns.length cn) 92 5 ns.length (flat Nt.cells ns2), .abs cb (fun w => Cod w cb)] ++ (netsP P2 ++ oths cb w))) ?_ ?_
  ·refine zSG (TL.v (gF prsfld65_7) ?_)
   refine TL.v (gL 0 pcmag3) ?_
   refine TL.mv ?_
   refine TL.v (gN Tryz.underlying96) ?_
   refine TL.sp bin_leq (fun q129 => ?_) (fun q129 => ?_)
   ·refine zET (zc (zG (TL.mv ?_)))
    refine TL.v (gF prsfld65_7) ?_
    refine TL.v (gL 0 pcmag3) ?_
    refine TL.val rfl rfl rfl (gives_bin rfl rfl rfl (fun w => bin_sub_ (r := ((tq : Nat) : Int)) (by simp only [IntKind.wrap_i64]; omega) w)) ?_
    have hmm134 := nets_mem2 (T := oths cb w) hx61p (List.mem_of_getElem? hp71)
    refine TL.fact (p := ∃ g, p71.A = some ⟨g, 0, none⟩) (fun w1 hw => segA hw (List.mem_of_mem_drop (i := 6) (by exact hmm134)) (by omega)) ?_
    rintro ⟨gx134, hgx134⟩
    obtain ⟨z134, hz134⟩ : ∃ z, p71.l[tq]? = some z := ⟨_, List.getElem?_eq_getElem (by omega)⟩
    refine TL.val rfl rfl rfl (gA (i := tq) Tryz.underlying96 dntsz30 rfl rfl rfl rfl hgx134 (by omega)) ?_
    refine TL.val rfl rfl rfl (gives_load (v := .int .u32 z134) rfl rfl pcmag30 (fun w1 hw => seg_cell (ic_cel .u32) hw (List.mem_of_mem_drop (i := 6) (by exact hmm134)) hgx134 hz134 0 _ rfl)) ?_
    have hz134r := hpw71.2 z134 (List.mem_of_getElem? hz134)
    refine TL.as_ ?_
    refine zE ?_
    exact TX.joined (⟨z134, by omega⟩) (⟨rfl, rfl, rfl, rfl, rfl, rfl, rfl, rfl, rfl, rfl, rfl, trivial⟩) (fun w1 hw => hw)
   refine zET (zd (zk ?_))
   exact TX.joined (⟨x61.last, by omega⟩) (⟨rfl, rfl, rfl, rfl, rfl, rfl, rfl, rfl, rfl, rfl, rfl, trivial⟩) (fun w1 hw => hw)
  rintro ⟨fa, hfa⟩
  dsimp only at hfa ⊢
  refine TC.join (α := {y : (Bool × Bool) × (Int × Int) × (Int × Int × Int) // AnsP y.1.1 y.1.2 y.2.1.1 y.2.1.2 y.2.2.1 y.2.2.2.1 y.2.2.2.2}) (fun y => [(0, .pointer (some ⟨cb, 0, none⟩)), (2, .bool stb), (7, .slice (some ⟨g_An, 0, none⟩) ns.length cn), (8, .slice Ar out.length cr), (9, .int .i64 ((at0 + (1 + dq) : Nat) : Int)), (10, .int .i64 ((idn + (1 + ec) : Nat) : Int)), (11, .pointer (some ⟨g11, 0, none⟩)), (12, .int .i64 ((k : Nat) : Int)), (16, .slice p71.A p71.l.length p71.c), (17, .pointer (some ⟨gR, 0, none⟩))]) (fun y => Pm ⟨w, cb⟩ ([.blk gR 65 [.int .i64 x61.v, .int .i64 0, .int .i64 ((num : Nat) : Int), .int .i64 ((at0 + (1 + dq) : Nat) : Int), .int .u32 x61.dst, .int .i64 x61.proto, .int .i64 ((f : Nat) : Int), .int .i64 ((1 + tq : Nat) : Int), .bool y.1.1.1, .bool y.1.1.2, .int .i64 ((at0 + (1 + dq) + 5 * (1 + tq) + bq : Nat) : Int), .int .u32 y.1.2.1.1, .int .i64 y.1.2.1.2, .int .i64 0, .int .i64 y.1.2.2.1, .int .i64 y.1.2.2.2.1, .int .i64 y.1.2.2.2.2], .blk g14 92 x61.cells, .row (.slice Ar out.length cr) 65 17 out.length (flat Rs.cells out), .blk g11 95 [.int .i64 ((n2 : Nat) : Int), .int .i64 ((n3 : Nat) : Int), .int .i64 0, .int .i64 0, .int .i64 0, .int .i64 0, .int .i64 0, .int .i64 0, .int .i64 0, .int .i64 0, .int .i64 0, .int .i64 0, .int .i64 0, .int .i64 0, .int .i64 0, .int .i64 0], .row (.slice (some ⟨g_An, 0, none⟩) ns.length cn) 92 5 ns.length (flat Nt.cells ns2), .abs cb (fun w => Cod w cb)] ++ (netsP P2 ++ oths cb w))) ?_ ?_
  ·refine zSG (TL.mv ?_)
   refine TL.sp bin_neq (fun q137 => ?_) (fun q137 => ?_)
   ·refine TL.rn 2 rfl (TL.gu ?_)
    refine TL.pcallCod (k := 5) (α := Bool) (fun x => .bool x) (fun x => []) rfl rfl rfl rfl rfl Tryz.func18 (by decide) rfl rfl (fun w1 hw hC1 => dbool_cod cb w1 hC1 5 (by decide)) ?_
    rintro b2
    dsimp only [List.cons_append, List.nil_append]
    cases b2 with
    | true =>
     refine TL.rn 2 rfl (zET (zd (zk ?_)))
     exact TX.joined (⟨((false, false), (0, 0), (0, 0, 0)), .inl ⟨rfl, rfl, rfl, rfl, rfl, rfl, rfl⟩⟩) (⟨rfl, rfl, rfl, rfl, rfl, rfl, rfl, rfl, rfl, rfl, trivial⟩) (fun w1 hw => hw)
    | false =>
     refine TL.rn 2 rfl (zET (zc (zSG (TL.mv ?_))))
     refine TL.pcallCod (k := 5) (α := Bool) (fun x => .bool x) (fun x => []) rfl rfl rfl rfl rfl Tryz.func18 (by decide) rfl rfl (fun w1 hw hC1 => dbool_cod cb w1 hC1 30 (by decide)) ?_
     rintro b3
     dsimp only [List.cons_append, List.nil_append]
     refine TL.v (gF prsfld65_8) ?_
     refine TL.pstore (k := 0) (vs := [.bool true]) rfl rfl rfl rfl rfl rfl rfl dresz4 dreone_b (by show 9 ≤ 17; decide) rfl ?_
     refine TL.v (gF prsfld65_9) ?_
     refine TL.pstore (k := 0) (vs := [.bool b3]) rfl rfl rfl rfl rfl rfl rfl dresz4 dreone_b (by show 10 ≤ 17; decide) rfl ?_
     refine zET (zSG (TL.rn 2 rfl ?_))
     refine TL.val rfl rfl rfl (gives_bin (v := .int .i64 ((((idn + (1 + ec)) % 65536 : Nat) : Nat) : Int)) rfl rfl rfl (fun w => by rw [bin_remk (by omega) (by decide) w]; rfl)) ?_
     refine TL.val rfl rfl rfl (gives_build (v := .agg #[.int .u32 fa, .int .i64 1, .int .i64 0, .int .i64 60, .int .i64 (((idn + (1 + ec)) % 65536 : Nat) : Int), .int .i64 1]) rfl rfl (fun w => drebld45_50928 _ _ _ _ _ w)) ?_
     refine TL.v (gF prsfld65_11) ?_
     refine TL.pstore (k := 0) (vs := [.int .u32 fa, .int .i64 1, .int .i64 0, .int .i64 60, .int .i64 (((idn + (1 + ec)) % 65536 : Nat) : Int), .int .i64 1]) rfl rfl rfl rfl rfl rfl rfl dresz45 dreone_u32i64i64i64i64i64 (by show 17 ≤ 17; decide) rfl ?_
     refine zET (zS (zSG (TL.v (gF prsfld65_7) ?_)))
     refine TL.v (gL 0 pcmag3) ?_
     refine TL.mv ?_
     refine TL.v (gN Tryz.underlying96) ?_
     refine TL.sp bin_gtr (fun q156 => ?_) (fun q156 => ?_)
     ·refine zET (zc (zG (TL.mv ?_)))
      refine TL.prowS (e := 3) (size := 1) (cs := flat (ic .i64) [3, 3, 2]) rfl rfl rfl rfl rfl (fun w => pcmbs106_3_44640 _ _ _ w) (by decide) rfl (fun g158 => ?_)
      refine TL.pcallCod (k := 6) (α := {v : Int // v ∈ ([3, 3, 2] : List Int)}) (fun x => .int .i64 x.1) (fun x => []) rfl rfl rfl rfl rfl Tryz.func22 (by decide) rfl rfl (fun w1 hw hC1 => pick_cod cb w1 hC1 g158 3 ([3, 3, 2]) (hw.neq (i := 0) (j := 6) rfl rfl (by decide) g158 rfl <| congrArg some ·.symm) (Pc.lt (hw.at_ (k := 0) rfl) g158 rfl).2 (by show 0 < ([3, 3, 2] : List Int).length; simp) (fun i v hi => flat_row1 hw (q := 0) rfl hi)) ?_
      rintro ⟨pk, hpk⟩
      dsimp only [List.cons_append, List.nil_append]
      have hpkb : pk = 3 ∨ pk = 2 := by simp only [List.mem_cons, List.not_mem_nil, or_false] at hpk; omega
      refine TL.v (gF prsfld65_11) ?_
      refine TL.v (gF prsfld63_1) ?_
      refine TL.pstore (k := 1) (vs := [.int .i64 pk]) rfl rfl rfl rfl rfl rfl rfl pcmsz3 aeaone_i64 (by show 13 ≤ 17; decide) rfl ?_
      refine zET (zSG (TL.mv ?_))
      refine TL.pcallCod (k := 6) (α := Bool) (fun x => .bool x) (fun x => []) rfl rfl rfl rfl rfl Tryz.func18 (by decide) rfl rfl (fun w1 hw hC1 => dbool_cod cb w1 hC1 5 (by decide)) ?_
      rintro b4
      dsimp only [List.cons_append, List.nil_append]
      refine zET ?_
      refine TC.split (t := b4) rfl (fun c163 => ?_) (fun c163 => ?_)
      ·refine zG (TL.mv ?_)
       refine TL.pcallCod (k := 6) (α := {q9 : Nat // q9 ≤ 65535 ∧ (1 ≤ (65536 : Int) → (q9 : Int) < 65536)}) (fun q9 => .int .i64 ((q9.1 : Nat) : Int)) (fun q9 => []) rfl rfl rfl rfl rfl Tryz.func21 (by decide) rfl rfl (fun w1 hw hC1 => next_cod cb w1 65536 hC1) ?_
       rintro ⟨ie0, hie01, hie02⟩
       dsimp only [List.cons_append, List.nil_append]
       refine TL.v (gF prsfld65_11) ?_
       refine TL.v (gF prsfld63_4) ?_
       refine TL.pstore (k := 1) (vs := [.int .i64 ((ie0 : Nat) : Int)]) rfl rfl rfl rfl rfl rfl rfl pcmsz3 aeaone_i64 (by show 16 ≤ 17; decide) rfl ?_
       refine zE ?_
       exact TX.joined (⟨((true, b3), (fa, pk), (60, ((ie0 : Nat) : Int), 1)), .inr ⟨rfl, by dsimp only; omega, by dsimp only; omega, by dsimp only; omega, by dsimp only; omega, rfl, by dsimp only; omega, by dsimp only; omega, rfl⟩⟩) (⟨rfl, rfl, rfl, rfl, rfl, rfl, rfl, rfl, rfl, rfl, trivial⟩) (fun w1 hw => hw.sel (.cons _ (.cons_cons _ (.cons_cons _ (.cons_cons _ (.cons_cons _ (.cons_cons _ (.cons_cons _ (List.Sublist.refl _)))))))))
      refine zk ?_
      exact TX.joined (⟨((true, b3), (fa, pk), (60, (((idn + (1 + ec)) % 65536 : Nat) : Int), 1)), .inr ⟨rfl, by dsimp only; omega, by dsimp only; omega, by dsimp only; omega, by dsimp only; omega, rfl, by dsimp only; omega, by dsimp only; omega, rfl⟩⟩) (⟨rfl, rfl, rfl, rfl, rfl, rfl, rfl, rfl, rfl, rfl, trivial⟩) (fun w1 hw => hw.sel (.cons _ (.cons_cons _ (.cons_cons _ (.cons_cons _ (.cons_cons _ (.cons_cons _ (.cons_cons _ (List.Sublist.refl _)))))))))
     refine zET (zd (zk (zT (zSG (TL.mv ?_)))))
     refine TL.pcallCod (k := 5) (α := Bool) (fun x => .bool x) (fun x => []) rfl rfl rfl rfl rfl Tryz.func18 (by decide) rfl rfl (fun w1 hw hC1 => dbool_cod cb w1 hC1 5 (by decide)) ?_
     rintro b4
     dsimp only [List.cons_append, List.nil_append]
     refine zET ?_
     refine TC.split (t := b4) rfl (fun c163 => ?_) (fun c163 => ?_)
     ·refine zG (TL.mv ?_)
      refine TL.pcallCod (k := 5) (α := {q9 : Nat // q9 ≤ 65535 ∧ (1 ≤ (65536 : Int) → (q9 : Int) < 65536)}) (fun q9 => .int .i64 ((q9.1 : Nat) : Int)) (fun q9 => []) rfl rfl rfl rfl rfl Tryz.func21 (by decide) rfl rfl (fun w1 hw hC1 => next_cod cb w1 65536 hC1) ?_
      rintro ⟨ie0, hie01, hie02⟩
      dsimp only [List.cons_append, List.nil_append]
      refine TL.v (gF prsfld65_11) ?_
      refine TL.v (gF prsfld63_4) ?_
      refine TL.pstore (k := 0) (vs := [.int .i64 ((ie0 : Nat) : Int)]) rfl rfl rfl rfl rfl rfl rfl pcmsz3 aeaone_i64 (by show 16 ≤ 17; decide) rfl ?_
      refine zE ?_
      exact TX.joined (⟨((true, b3), (fa, 1), (60, ((ie0 : Nat) : Int), 1)), .inr ⟨rfl, by dsimp only; omega, by dsimp only; omega, by dsimp only; omega, by dsimp only; omega, rfl, by dsimp only; omega, by dsimp only; omega, rfl⟩⟩) (⟨rfl, rfl, rfl, rfl, rfl, rfl, rfl, rfl, rfl, rfl, trivial⟩) (fun w1 hw => hw)
     refine zk ?_
     exact TX.joined (⟨((true, b3), (fa, 1), (60, (((idn + (1 + ec)) % 65536 : Nat) : Int), 1)), .inr ⟨rfl, by dsimp only; omega, by dsimp only; omega, by dsimp only; omega, by dsimp only; omega, rfl, by dsimp only; omega, by dsimp only; omega, rfl⟩⟩) (⟨rfl, rfl, rfl, rfl, rfl, rfl, rfl, rfl, rfl, rfl, trivial⟩) (fun w1 hw => hw)
   refine TL.rn 5 rfl (zET (zd (zk ?_)))
   exact TX.joined (⟨((false, false), (0, 0), (0, 0, 0)), .inl ⟨rfl, rfl, rfl, rfl, rfl, rfl, rfl⟩⟩) (⟨rfl, rfl, rfl, rfl, rfl, rfl, rfl, rfl, rfl, rfl, trivial⟩) (fun w1 hw => hw)
  rintro ⟨⟨⟨an, db⟩, ⟨sr, kd⟩, lf, ie, qu⟩, han⟩
  dsimp only at han ⊢
  refine zS ?_
  have hout2 := hout.snoc hx61t hnum hn23 han (by omega : at0 < at0 + (1 + dq)) (show f ≤ 2 by omega) (show tq ≤ 3 by omega) (show bq ≤ 3 by omega) (by omega)
  refine zG (TL.v (gF prsfld65_10) ?_)
  refine TL.v (gL 0 pcmag3) ?_
  refine TL.as_ ?_
  refine zET (zG (TL.mv ?_))
  refine TL.v (gV 0 (.agg #[.int .i64 x61.v, .int .i64 0, .int .i64 ((num : Nat) : Int), .int .i64 ((at0 + (1 + dq) : Nat) : Int), .int .u32 x61.dst, .int .i64 x61.proto, .int .i64 ((f : Nat) : Int), .int .i64 ((1 + tq : Nat) : Int), .bool an, .bool db, .int .i64 ((at0 + (1 + dq) + 5 * (1 + tq) + bq : Nat) : Int), .int .u32 sr, .int .i64 kd, .int .i64 0, .int .i64 lf, .int .i64 ie, .int .i64 qu]) prsag65 prssz65) ?_
  refine TL.prowS (e := 65) (size := 17) (cs := flat Rs.cells [(⟨x61.v, 0, ((num : Nat) : Int), ((at0 + (1 + dq) : Nat) : Int), x61.dst, x61.proto, ((f : Nat) : Int), ((1 + tq : Nat) : Int), an, db, ((at0 + (1 + dq) + 5 * (1 + tq) + bq : Nat) : Int), sr, kd, 0, lf, ie, qu⟩ : Rs)]) rfl rfl rfl rfl rfl (fun w => porbs23_1_99505 _ _ _ _ _ _ _ _ _ _ _ _ _ _ _ _ _ w) (by decide) rfl (fun g172 => ?_)
  refine TL.appendT (k := 3) rfl rfl rfl rfl Tryz.underlying23 porel23 rfl rfl rfl (fun w1 hw => pm_reads hw (k := 0) rfl) (flat_one rs_cel _) (by show _ * 128 ≤ _; omega) ((out ++ [(⟨x61.v, 0, ((num : Nat) : Int), ((at0 + (1 + dq) : Nat) : Int), x61.dst, x61.proto, ((f : Nat) : Int), ((1 + tq : Nat) : Int), an, db, ((at0 + (1 + dq) + 5 * (1 + tq) + bq : Nat) : Int), sr, kd, 0, lf, ie, qu⟩ : Rs)]).length) (by rw [List.length_append]; rfl) (flat Rs.cells (out ++ [(⟨x61.v, 0, ((num : Nat) : Int), ((at0 + (1 + dq) : Nat) : Int), x61.dst, x61.proto, ((f : Nat) : Int), ((1 + tq : Nat) : Int), an, db, ((at0 + (1 + dq) + 5 * (1 + tq) + bq : Nat) : Int), sr, kd, 0, lf, ie, qu⟩ : Rs)])) ((flat_app _ _).symm) (fun A173 c173 hA1731 hA1732 => ?_)
  refine TL.as_ ?_
  refine zE (zN (zT (zG (TL.mv ?_))))
  refine TL.val rfl rfl rfl (gives_bin rfl rfl rfl (fun w => bin_sub_ (r := ((k - 1 : Nat) : Int)) (by simp only [IntKind.wrap_i64]; omega) w)) ?_
  refine TL.as_ ?_
  refine zE ?_
  exact TX.round (⟨(k - 1, at0 + (1 + dq) + 5 * (1 + tq) + bq, idn + (1 + ec), (n2, n3), (A173, c173), out ++ [(⟨x61.v, 0, ((num : Nat) : Int), ((at0 + (1 + dq) : Nat) : Int), x61.dst, x61.proto, ((f : Nat) : Int), ((1 + tq : Nat) : Int), an, db, ((at0 + (1 + dq) + 5 * (1 + tq) + bq : Nat) : Int), sr, kd, 0, lf, ie, qu⟩ : Rs)], ns2, P2), ⟨by dsimp only; rw [List.length_append]; show k - 1 + (out.length + 1) ≤ m; omega, by dsimp only; rw [List.length_append]; show _ ≤ 100 + 100 * (out.length + 1); omega, by dsimp only; rw [List.length_append]; show _ ≤ 70000 + 100 * (out.length + 1); omega⟩, hout2, hns2, by dsimp only; omega, hA1731, hA1732⟩) (by show k - 1 < k; omega) ⟨rfl, rfl, rfl, rfl, rfl, rfl, rfl, rfl, trivial⟩ (fun w1 hw => hw.sel (.cons _ (.cons _ (.cons _ (.cons_cons _ (.cons_cons _ (.cons_cons _ (.cons_cons _ (List.Sublist.refl _)))))))))
 refine zET (zd (zx (zX (zX (zM (zT (zSG (TL.rn 2 rfl (zET (zr ?_))))))))))
 exact ret_tmp Tryz.results17 rfl (fun w1 hw => ⟨⟨((Ar, cr), out), hout.ok (by omega), hrc, hrm⟩, rfl, Pm.codr [_] ((hw.sel (.cons_cons _ (.cons _ (.cons _ (.cons_cons _ (List.Sublist.refl _)))))).sel (.cons_cons _ (.cons_cons _ (List.sublist_append_right _ _)))) rfl⟩)
section
variable {es : List En} {u : Ru} {p : Rp} {o : List Rs}
theorem remI_app {a t : List Rs} {k q : Nat} (ha : a.length = k) : remI (a ++ t) (k + q) = a ++ remI t q := by
  unfold remI
  rw [List.take_append, List.drop_append, ha, List.take_of_length_le (by omega), List.drop_of_length_le (by omega), show k + q - k = q by omega, show k + q + 1 - k = q + 1 by omega]
  simp
theorem remI_sub (t : List Rs) (q : Nat) : (remI t q).Sublist t := by
  unfold remI
  conv => rhs; rw [← List.take_append_drop q t]
  refine List.Sublist.append (List.Sublist.refl _) ?_
  rw [← List.drop_drop]
  exact List.drop_sublist 1 (t.drop q)
def MInv (es : List En) (u : Ru) (p : Rp) (o : List Rs) (k : Nat) (y : List Rs) : Prop :=
  ∃ t, y = o.take k ++ t ∧ t.Sublist (o.drop k) ∧ PrP es (o.take k ++ t) u p ∧ ∀ q, q < t.length → ¬ PrP es (o.take k ++ remI t q) u p
theorem minv_step (hok : ∀ r ∈ o, r.Ok) {k : Nat} (hk : k < o.length) {y : List Rs} (h : MInv es u p o (k + 1) y) : MInv es u p o k (mstep es u p y k) := by
  obtain ⟨t, rfl, h2, h3, h4⟩ := h
  have hx : o[k]? = some o[k] := List.getElem?_eq_getElem hk
  have e1 : o.take (k + 1) = o.take k ++ [o[k]] := by rw [List.take_add_one, hx]; rfl
  have e2 : o.drop k = o[k] :: o.drop (k + 1) := List.drop_eq_getElem_cons hk
  have hl : (o.take k).length = k := by rw [List.length_take]; omega
  have er : remI (o.take (k + 1) ++ t) k = o.take k ++ t := by
    have := remI_app (a := o.take k) (t := o[k] :: t) (q := 0) hl
    rw [e1, List.append_assoc]
    exact this
  have hm : ∀ {s : List Rs}, s.Sublist t → ∀ r ∈ o.take (k + 1) ++ s, r ∈ o := fun hs r hr => by
    rcases List.mem_append.1 hr with h5 | h5
    · exact List.mem_of_mem_take h5
    · exact List.mem_of_mem_drop (h2.subset (hs.subset h5))
  by_cases hp : PrP es (o.take k ++ t) u p
  · rw [show mstep es u p (o.take (k + 1) ++ t) k = remI (o.take (k + 1) ++ t) k from if_pos (by rw [er]; exact pdec_iff.2 hp), er]
    refine ⟨t, rfl, e2 ▸ h2.cons _, hp, fun q hq h5 => h4 q hq (h5.mono (fun r hr => ?_) (fun r hr => hok r (hm (remI_sub t q) r hr)))⟩
    rw [e1]
    rcases List.mem_append.1 hr with h6 | h6
    · exact List.mem_append_left _ (List.mem_append_left _ h6)
    · exact List.mem_append_right _ h6
  · rw [show mstep es u p (o.take (k + 1) ++ t) k = o.take (k + 1) ++ t from if_neg (by rw [er]; exact fun h => hp (pdec_iff.1 h))]
    refine ⟨o[k] :: t, by rw [e1, List.append_assoc]; rfl, by rw [e2]; exact h2.cons_cons _, by rw [e1, List.append_assoc] at h3; exact h3, fun q hq => ?_⟩
    cases q with
    | zero => exact hp
    | succ q =>
      have h5 := h4 q (by simpa using hq)
      rw [e1, List.append_assoc] at h5
      exact h5
theorem minv_all (hok : ∀ r ∈ o, r.Ok) (hp : PrP es o u p) : ∀ j k, j + k = o.length → MInv es u p o k ((revTo o.length k).foldl (fun y i => mstep es u p y i.1) o)
  | 0, k, h => by
    obtain rfl : k = o.length := by omega
    have e : revTo o.length o.length = [] := by unfold revTo; rw [Nat.sub_self]; exact List.take_zero
    rw [e]
    exact ⟨[], by rw [List.take_length, List.append_nil]; rfl, List.nil_sublist _, by rw [List.take_length, List.append_nil]; exact hp, fun q hq => absurd hq (by simp)⟩
  | j + 1, k, h => by
    have ih := minv_all hok hp j (k + 1) (by omega)
    rw [revTo_step (by omega), List.foldl_append]
    exact minv_step hok (by omega) ih
theorem minS_ok (hok : ∀ r ∈ o, r.Ok) (hp : PrP es o u p) : (minS es u p o).Sublist o ∧ PrP es (minS es u p o) u p ∧ ∀ q, q < (minS es u p o).length → ¬ PrP es (remI (minS es u p o) q) u p := by
  obtain ⟨t, h1, h2, h3, h4⟩ := minv_all hok hp o.length 0 (by omega)
  rw [revTo_zero] at h1
  have e : minS es u p o = t := by unfold minS; rw [h1, List.take_zero]; rfl
  rw [List.drop_zero] at h2
  rw [List.take_zero] at h3
  rw [e]
  exact ⟨h2, h3, fun q hq => by have := h4 q hq; rwa [List.take_zero] at this⟩
end
theorem drawn_inj {m : Nat} {l : List Rs} (h : DrawnOk m l) : ∀ a ∈ l, ∀ b ∈ l, idnR a = idnR b → a = b := fun a ha b hb e => by
  obtain ⟨i, hi⟩ := List.getElem?_of_mem ha
  obtain ⟨j, hj⟩ := List.getElem?_of_mem hb
  obtain ⟨hi1, rfl⟩ := List.getElem?_eq_some_iff.1 hi
  obtain ⟨hj1, rfl⟩ := List.getElem?_eq_some_iff.1 hj
  unfold idnR at e
  injection e with e1 e2 e3
  rcases Nat.lt_trichotomy i j with h1 | h1 | h1
  · have := ((List.pairwise_iff_getElem.1 h.2.1) i j hi1 hj1 h1).2 e1; omega
  · subst h1; rfl
  · have := ((List.pairwise_iff_getElem.1 h.2.1) j i hj1 hi1 h1).2 e1.symm; omega
theorem onF_id : ∀ (n : Nat) (o : List Rs), o.length = n → o.Nodup → (∀ a ∈ o, ∀ b ∈ o, idnR a = idnR b → a = b) → onF o = o
  | 0, o, h, _, _ => by
    obtain rfl : o = [] := List.eq_nil_of_length_eq_zero h
    rfl
  | n + 1, o, h, hn, hi => by
    have hne : o ≠ [] := fun e => by rw [e] at h; cases h
    have e := List.dropLast_concat_getLast hne
    have hs : ∀ {r}, r ∈ o.dropLast → r ∈ o := fun hr => List.dropLast_subset _ hr
    have ih := onF_id n o.dropLast (by rw [List.length_dropLast]; omega) (List.Nodup.sublist (List.dropLast_sublist _) hn) fun a ha b hb => hi a (hs ha) b (hs hb)
    rw [← e, onF_snoc, ih, if_neg fun hm => ?_]
    obtain ⟨r, hr, h1⟩ := List.mem_map.1 hm
    have h2 := hi r (hs hr) (o.getLast hne) (List.getLast_mem hne) h1
    rw [← e] at hn
    exact (List.nodup_append.1 hn).2.2 r hr _ (List.mem_singleton.2 rfl) h2
theorem asc_nodup {o : List Rs} (h : AscK Rs.keys o) : o.Nodup := h.imp fun {a b} hab e => by subst e; exact ltK_irrefl _ hab
theorem onc_of {l o : List Rs} (ho : AscK Rs.keys o) (hm : ∀ x, x ∈ o ↔ x ∈ l ∧ vldRs x = true) (hi : ∀ a ∈ l, ∀ b ∈ l, idnR a = idnR b → a = b) : OncP l o :=
  ⟨o, ⟨ho, hm⟩, (onF_id _ o rfl (asc_nodup ho) fun a ha b hb => hi a ((hm a).1 ha).1 b ((hm b).1 hb).1).symm⟩
theorem filt_lt {α : Type} {p : α → Bool} : ∀ {l : List α} {x : α}, x ∈ l → p x = false → (l.filter p).length + 1 ≤ l.length
  | y :: l, x, h, hp => by
    rw [List.filter_cons]
    rcases List.mem_cons.1 h with rfl | h
    · rw [hp]
      have := List.length_filter_le p l
      simp; omega
    · have := filt_lt h hp
      split <;> simp <;> omega
theorem two_le {α : Type} {l : List α} {a b : α} (ha : a ∈ l) (hb : b ∈ l) (hn : b ≠ a) : 2 ≤ l.length := by
  match l, ha, hb with
  | [x], ha, hb => exact absurd ((List.mem_singleton.1 hb).trans (List.mem_singleton.1 ha).symm) hn
  | x :: y :: l, _, _ => simp
theorem filt_two {α : Type} {p q : α → Bool} : ∀ l : List α, (l.filter p).length + (l.filter fun x => !p x && q x).length ≤ l.length
  | [] => Nat.le_refl _
  | x :: l => by
    have := filt_two (p := p) (q := q) l
    rw [List.filter_cons, List.filter_cons]
    cases hp : p x <;> cases hq : q x <;> simp <;> omega
theorem size_le {es : List En} {l : List Rs} {u : Ru} {p : Rp} (h : PrP es l u p) : sizeP u p ≤ l.length := by
  obtain ⟨h1, h2, _, h3⟩ := h
  unfold sizeP
  rw [h1, h2, if_pos (by rfl)]
  rcases h3 with ⟨hk, y, hy, h4⟩ | ⟨hk, y, hy, h4⟩ | ⟨hk, h4⟩
  · rw [if_pos hk]
    obtain ⟨x, hx, hf, _, hl⟩ := bh_iff.1 h4
    have hle := hy.le
    have hna : lostR x.ttl p.at_ x = false := by
      unfold finRs at hf
      unfold lostR
      simp only [Bool.and_eq_true] at hf
      rw [hf.1.1]; rfl
    have := filt_lt (p := lostR x.ttl p.at_) hx hna
    unfold lostN at hl
    omega
  · rw [if_neg (by omega), if_pos hk]
    obtain ⟨a, ha, _, b, hb, hb2⟩ := h4
    have hle := hy.le
    have := two_le (List.mem_filter.1 ha).1 (List.mem_filter.1 hb).1 (fun e => hb2.2.2 (by rw [e]))
    omega
  · rw [if_neg (by omega), if_neg (by omega)]
    have hv : 1 ≤ u.prb := by unfold vldRu at h1; have := of_decide_eq_true h1; omega
    rcases h4 with h4 | ⟨y, hy, e, _, h5, h6⟩
    · omega
    · have hle := hy.le
      have h7 := List.length_filter_le (fun z => decide (z ≤ e)) (eaL (atL y p.ttl) p.at_)
      have h8 := List.length_filter_le (fun z => decide (u.gro ≤ z - e)) (laL (atL y p.ttl) p.at_)
      have h9 : (eaL (atL y p.ttl) p.at_).length + (laL (atL y p.ttl) p.at_).length ≤ (atL y p.ttl).length := by
        unfold eaL laL
        rw [List.length_map, List.length_map]
        exact filt_two _
      have h10 := List.length_filter_le (fun r : Rs => r.ans && decide (r.ttl = p.ttl)) y
      have h11 : (atL y p.ttl).length ≤ y.length := h10
      omega
section
variable {es : List En} {u : Ru} {p : Rp}
theorem min_good {l o : List Rs} {a : List Idn} {z : Int} (h : MinOk es l u p a z) (ho : IsOrd l o) (hv : ∀ r ∈ l, vldRs r = true) (hok : ∀ r ∈ l, r.Ok) (hi : ∀ a ∈ l, ∀ b ∈ l, idnR a = idnR b → a = b) (hl : o.length ≤ 512) (hp : PrP es l u p) : z = 0 ∧ a = (minS es u p o).map idnR ∧ PrP es o u p := by
  have hon : OncP l o := onc_of ho.1 ho.2 hi
  have hpo : PrP es o u p := hp.mono (fun r hr => (ho.2 r).2 ⟨hr, hv r hr⟩) fun r hr => hok r ((ho.2 r).1 hr).1
  rcases h with ⟨_, _, h⟩ | ⟨_, o', h1, h2⟩
  · exact absurd ⟨hv, hp.2.2.1, hp.1, hp.2.1⟩ h
  · obtain rfl := hon.eq h1
    rcases h2 with ⟨_, _, h3⟩ | ⟨_, ⟨_, _, h3⟩ | ⟨rfl, _, rfl⟩⟩
    · omega
    · exact absurd hpo h3
    · exact ⟨rfl, rfl, hpo⟩
end
theorem nodup_le {α : Type} : ∀ {s l : List α}, s.Nodup → (∀ x ∈ s, x ∈ l) → s.length ≤ l.length
  | [], l, _, _ => Nat.zero_le _
  | x :: s, l, hn, h => by
    obtain ⟨a, b, rfl⟩ := List.append_of_mem (h x List.mem_cons_self)
    have hn2 := List.nodup_cons.1 hn
    have := nodup_le (l := a ++ b) hn2.2 fun y hy => by
      rcases List.mem_append.1 (h y (List.mem_cons_of_mem _ hy)) with h1 | h1
      · exact List.mem_append_left _ h1
      · rcases List.mem_cons.1 h1 with rfl | h1
        · exact absurd hy hn2.1
        · exact List.mem_append_right _ h1
    rw [List.length_append] at this ⊢
    simp only [List.length_cons]; omega
theorem pick_n {α : Type} {F : List α} {x : α} {n : Nat} (hF : F.Nodup) (hx : x ∈ F) (hn : n + 1 ≤ F.length) : ∃ S : List α, S.Nodup ∧ (∀ y ∈ S, y ∈ F) ∧ S.length = n + 1 ∧ x ∈ S := by
  obtain ⟨a, b, rfl⟩ := List.append_of_mem hx
  have hp : (x :: (a ++ b)).Nodup := List.perm_middle.nodup_iff.1 hF
  have hp2 := List.nodup_cons.1 hp
  have hl : n ≤ (a ++ b).length := by rw [List.length_append] at hn ⊢; simp only [List.length_cons] at hn; omega
  refine ⟨x :: (a ++ b).take n, List.nodup_cons.2 ⟨fun h => hp2.1 (List.mem_of_mem_take h), List.Nodup.sublist (List.take_sublist _ _) hp2.2⟩, fun y hy => ?_, by rw [List.length_cons, List.length_take]; omega, List.mem_cons_self⟩
  rcases List.mem_cons.1 hy with rfl | hy
  · exact hx
  · rcases List.mem_append.1 (List.mem_of_mem_take hy) with h | h
    · exact List.mem_append_left _ h
    · exact List.mem_append_right _ (List.mem_cons_of_mem _ h)
section
variable {es : List En} {u : Ru} {p : Rp} {l M : List Rs}
theorem ea_len {y : List Rs} {t e : Int} : ((eaL y t).filter fun z => decide (z ≤ e)).length = ((y.filter fun r => decide (r.back < t)).filter fun r => decide (r.back - r.at_ ≤ e)).length := by
  unfold eaL; rw [List.filter_map, List.length_map]; rfl
theorem la_len {y : List Rs} {t e g : Int} : ((laL y t).filter fun z => decide (g ≤ z - e)).length = ((y.filter fun r => !decide (r.back < t) && decide (t ≤ r.at_)).filter fun r => decide (g ≤ r.back - r.at_ - e)).length := by
  unfold laL; rw [List.filter_map, List.length_map]; rfl
theorem size_ge (hok : ∀ r ∈ l, r.Ok) (h : PrP es l u p) : ∃ S : List Rs, (∀ r ∈ S, r ∈ l) ∧ (S.length : Int) ≤ sizeP u p ∧ PrP es S u p := by
  obtain ⟨h1, h2, h0, h3⟩ := h
  have hv : 1 ≤ u.prb ∧ 0 ≤ u.los := by unfold vldRu at h1; have := of_decide_eq_true h1; omega
  unfold sizeP
  rw [h1, h2, if_pos (by rfl)]
  have key : ∀ {y S : List Rs}, IsSt l p.trc p.flow y → (∀ r ∈ S, r ∈ y) → ∃ y', IsSt S p.trc p.flow y' ∧ ∀ r ∈ S, r ∈ y' := fun {y S} hy hS => by
    obtain ⟨y', hy'⟩ := st_ex (l := S) (fun r hr => hok r ((hy.mem r).1 (hS r hr)).1) p.trc p.flow
    exact ⟨y', hy', fun r hr => (hy'.mem r).2 ⟨hr, ((hy.mem r).1 (hS r hr)).2⟩⟩
  rcases h3 with ⟨hk, y, hy, h4⟩ | ⟨hk, y, hy, h4⟩ | ⟨hk, h4⟩
  · rw [if_pos hk]
    obtain ⟨x, hx, hf, hb, hl⟩ := bh_iff.1 h4
    have hyn : (y.filter (lostR x.ttl p.at_)).Nodup := (asc_nodup hy.asc).sublist List.filter_sublist
    have hS : ∀ r ∈ x :: (y.filter (lostR x.ttl p.at_)).take u.los.toNat, r ∈ y := fun r hr => by
      rcases List.mem_cons.1 hr with rfl | hr
      · exact hx
      · exact (List.mem_filter.1 (List.mem_of_mem_take hr)).1
    obtain ⟨y', hy', hi⟩ := key hy hS
    refine ⟨_, fun r hr => ((hy.mem r).1 (hS r hr)).1, ?_, h1, h2, h0, .inl ⟨hk, y', hy', bh_iff.2 ⟨x, hi x List.mem_cons_self, hf, hb, ?_⟩⟩⟩
    · rw [List.length_cons, List.length_take]; omega
    · have := nodup_le (s := (y.filter (lostR x.ttl p.at_)).take u.los.toNat) (l := y'.filter (lostR x.ttl p.at_)) (hyn.sublist (List.take_sublist _ _)) fun r hr => List.mem_filter.2 ⟨hi r (List.mem_cons_of_mem _ hr), (List.mem_filter.1 (List.mem_of_mem_take hr)).2⟩
      rw [List.length_take] at this
      unfold lostN at hl ⊢
      omega
  · rw [if_neg (by omega), if_pos hk]
    obtain ⟨a, ha, ha2, b, hb, hb2⟩ := h4
    have ha3 := List.mem_filter.1 ha
    have hb3 := List.mem_filter.1 hb
    have hS : ∀ r ∈ [a, b], r ∈ y := fun r hr => by
      rcases List.mem_cons.1 hr with rfl | hr
      · exact ha3.1
      · rw [List.mem_singleton.1 hr]; exact hb3.1
    obtain ⟨y', hy', hi⟩ := key hy hS
    exact ⟨_, fun r hr => ((hy.mem r).1 (hS r hr)).1, Int.le_refl _, h1, h2, h0, .inr (.inl ⟨hk, y', hy', a, List.mem_filter.2 ⟨hi a List.mem_cons_self, ha3.2⟩, ha2, b, List.mem_filter.2 ⟨hi b (List.mem_cons_of_mem _ List.mem_cons_self), hb3.2⟩, hb2⟩)⟩
  · rw [if_neg (by omega), if_neg (by omega)]
    rcases h4 with h4 | ⟨y, hy, e, he, h5, h6⟩
    · omega
    · rw [ea_len] at h5
      rw [la_len] at h6
      have hyn := asc_nodup hy.asc
      obtain ⟨x, hx, hxe⟩ := List.mem_map.1 he
      have hE : (((atL y p.ttl).filter fun r => decide (r.back < p.at_)).filter fun r => decide (r.back - r.at_ ≤ e)).Nodup := ((hyn.sublist List.filter_sublist).sublist List.filter_sublist).sublist List.filter_sublist
      have hL : (((atL y p.ttl).filter fun r => !decide (r.back < p.at_) && decide (p.at_ ≤ r.at_)).filter fun r => decide (u.gro ≤ r.back - r.at_ - e)).Nodup := ((hyn.sublist List.filter_sublist).sublist List.filter_sublist).sublist List.filter_sublist
      obtain ⟨n, hn⟩ : ∃ n : Nat, u.prb = n + 1 := ⟨(u.prb - 1).toNat, by omega⟩
      obtain ⟨S1, s1, s2, s3, s4⟩ := pick_n (n := n) hE (List.mem_filter.2 ⟨hx, decide_eq_true (Int.le_of_eq hxe)⟩) (by omega)
      have hS : ∀ r ∈ S1 ++ (((atL y p.ttl).filter fun r => !decide (r.back < p.at_) && decide (p.at_ ≤ r.at_)).filter fun r => decide (u.gro ≤ r.back - r.at_ - e)).take (n + 1), r ∈ atL y p.ttl := fun r hr => by
        rcases List.mem_append.1 hr with hr | hr
        · exact (List.mem_filter.1 (List.mem_filter.1 (s2 r hr)).1).1
        · exact (List.mem_filter.1 (List.mem_filter.1 (List.mem_of_mem_take hr)).1).1
      obtain ⟨y', hy', hi⟩ := key hy fun r hr => (List.mem_filter.1 (hS r hr)).1
      have hi2 : ∀ r ∈ S1 ++ (((atL y p.ttl).filter fun r => !decide (r.back < p.at_) && decide (p.at_ ≤ r.at_)).filter fun r => decide (u.gro ≤ r.back - r.at_ - e)).take (n + 1), r ∈ atL y' p.ttl := fun r hr => List.mem_filter.2 ⟨hi r hr, (List.mem_filter.1 (hS r hr)).2⟩
      refine ⟨_, fun r hr => ((hy.mem r).1 (List.mem_filter.1 (hS r hr)).1).1, ?_, h1, h2, h0, .inr (.inr ⟨hk, .inr ⟨y', hy', e, ?_, ?_, ?_⟩⟩)⟩
      · rw [List.length_append, List.length_take, s3]; omega
      · exact List.mem_map.2 ⟨x, List.mem_filter.2 ⟨hi2 x (List.mem_append_left _ s4), (List.mem_filter.1 hx).2⟩, hxe⟩
      · rw [ea_len]
        have := nodup_le s1 (l := ((atL y' p.ttl).filter fun r => decide (r.back < p.at_)).filter fun r => decide (r.back - r.at_ ≤ e)) fun r hr => List.mem_filter.2 ⟨List.mem_filter.2 ⟨hi2 r (List.mem_append_left _ hr), (List.mem_filter.1 (List.mem_filter.1 (s2 r hr)).1).2⟩, (List.mem_filter.1 (s2 r hr)).2⟩
        omega
      · rw [la_len]
        have := nodup_le (hL.sublist (List.take_sublist (n + 1) _)) (l := ((atL y' p.ttl).filter fun r => !decide (r.back < p.at_) && decide (p.at_ ≤ r.at_)).filter fun r => decide (u.gro ≤ r.back - r.at_ - e)) fun r hr => List.mem_filter.2 ⟨List.mem_filter.2 ⟨hi2 r (List.mem_append_right _ hr), (List.mem_filter.1 (List.mem_filter.1 (List.mem_of_mem_take hr)).1).2⟩, (List.mem_filter.1 (List.mem_of_mem_take hr)).2⟩
        rw [List.length_take] at this
        omega
theorem min_size (hok : ∀ r ∈ M, r.Ok) (hn : M.Nodup) (h : PrP es M u p) (hm : ∀ q, q < M.length → ¬ PrP es (remI M q) u p) : (M.length : Int) = sizeP u p := by
  have h1 := size_le h
  obtain ⟨S, h2, h3, h4⟩ := size_ge hok h
  refine Int.le_antisymm (Int.not_lt.1 fun h5 => ?_) h1
  have h6 : ∃ x, x ∈ M ∧ x ∉ S := Classical.byContradiction fun h7 => by
    have := nodup_le hn (l := S) fun x hx => Classical.byContradiction fun h8 => h7 ⟨x, hx, h8⟩
    omega
  obtain ⟨x, hx, hxS⟩ := h6
  obtain ⟨q, hq⟩ := List.getElem?_of_mem hx
  obtain ⟨hql, rfl⟩ := List.getElem?_eq_some_iff.1 hq
  refine hm q hql (h4.mono (fun r hr => ?_) fun r hr => hok r (remI_mem hr))
  unfold remI
  have h9 := h2 r hr
  rw [← List.take_append_drop q M, List.drop_eq_getElem_cons hql] at h9
  rcases List.mem_append.1 h9 with h9 | h9
  · exact List.mem_append_left _ h9
  · rcases List.mem_cons.1 h9 with rfl | h9
    · exact absurd hr hxS
    · exact List.mem_append_right _ h9
theorem find_got {u : Idn} : ∀ (h : List Rs) (v : Rs × Bool), (v.2 = true ∨ ∃ r ∈ h, idnR r = u ∧ vldRs r = true) → (h.foldl (stepF u) v).2 = true
  | [], v, h => h.elim id fun ⟨r, hr, _⟩ => absurd hr List.not_mem_nil
  | x :: h, v, h1 => by
    refine find_got h (stepF u v x) ?_
    unfold stepF
    by_cases hf : fitF u v x = true
    · rw [if_pos hf]; exact .inl rfl
    · rw [if_neg hf]
      rcases h1 with h1 | ⟨r, hr, h2, h3⟩
      · exact .inl h1
      · rcases List.mem_cons.1 hr with rfl | hr
        · refine .inl (Classical.byContradiction fun h4 => hf ?_)
          unfold fitF
          rw [h2, h3, Bool.eq_false_iff.2 h4]; simp
        · exact .inr ⟨r, hr, h2, h3⟩
theorem findS_idn (hi : ∀ a ∈ l, ∀ b ∈ l, idnR a = idnR b → a = b) (hv : ∀ r ∈ l, vldRs r = true) {r : Rs} (hr : r ∈ l) : findS l (idnR r) = (r, true) := by
  have h1 : (findS l (idnR r)).2 = true := find_got l _ (.inr ⟨r, hr, rfl, hv r hr⟩)
  have h2 := findS_in h1
  exact Prod.ext (hi _ h2.1 r hr h2.2.2) h1
theorem ownS_map (hi : ∀ a ∈ l, ∀ b ∈ l, idnR a = idnR b → a = b) (hv : ∀ r ∈ l, vldRs r = true) (hM : ∀ r ∈ M, r ∈ l) : ownS l (M.map idnR) = M := by
  unfold ownS
  rw [List.map_map]
  conv => rhs; rw [← List.map_id M]
  exact List.map_congr_left fun r hr => by show (findS l (idnR r)).1 = r; rw [findS_idn hi hv (hM r hr)]
theorem proves_law {m : Nat} {xs : List Rs} {a : List Idn} {f : Int} (hxs : DrawnOk m xs) (hm : m ≤ 512) (hp : PrP es xs u p) (ha : MinOk es xs u p a f) : f = 0 ∧ (a.length : Int) = sizeP u p ∧ CkP es xs u p a ∧ (∀ x ∈ a, x.Ok) ∧ ∀ s : List Rs, s.length < a.length → ¬ PrP es s u p := by
  have hok : ∀ r ∈ xs, r.Ok := fun r hr => (hxs.1 r hr).2.1
  have hv : ∀ r ∈ xs, vldRs r = true := fun r hr => (hxs.1 r hr).1
  have hi := drawn_inj hxs
  obtain ⟨o, ho⟩ := ord_ex hok
  have hol : o.length ≤ 512 := by have := ho.le; have := hxs.2.2; omega
  obtain ⟨e1, rfl, hpo⟩ := min_good ha ho hv hok hi hol hp
  have hox : ∀ r ∈ o, r ∈ xs := fun r hr => ((ho.2 r).1 hr).1
  have hoo : ∀ r ∈ o, r.Ok := fun r hr => hok r (hox r hr)
  obtain ⟨k1, k2, k3⟩ := minS_ok hoo hpo
  have hMx : ∀ r ∈ minS es u p o, r ∈ xs := fun r hr => hox r (k1.subset hr)
  have hMn : (minS es u p o).Nodup := (asc_nodup ho.1).sublist k1
  have hsz := min_size (fun r hr => hok r (hMx r hr)) hMn k2 k3
  have hown := ownS_map hi hv hMx
  refine ⟨e1, by rw [List.length_map]; exact hsz, ⟨fun x hx => ?_, ?_, by rw [hown]; exact k2, by rw [hown]; exact k3⟩, fun x hx => ?_, fun s hs h => ?_⟩
  · obtain ⟨r, hr, rfl⟩ := List.mem_map.1 hx
    rw [findS_idn hi hv (hMx r hr)]
  · exact List.pairwise_map.2 ((List.Pairwise.and_mem.1 hMn).imp fun {x y} h e => h.2.2 (hi x (hMx x h.1) y (hMx y h.2.1) e))
  · obtain ⟨r, hr, rfl⟩ := List.mem_map.1 hx
    exact idn_ok (hv r (hMx r hr))
  · have := size_le h
    rw [List.length_map] at hs
    omega
end
open Go Go.RowKit
set_option maxRecDepth 20000
structure ESp where
  v : Int
  dst : Int
  proto : Int
  flow : Int
  ttl : Int
deriving DecidableEq
def ESp.cells (r : ESp) : List Value := [.int .i64 r.v, .int .u32 r.dst, .int .i64 r.proto, .int .i64 r.flow, .int .i64 r.ttl]
theorem esp_cel : Cel ESp.cells 5 := ⟨fun _ => rfl, fun r u hu => by
  simp only [ESp.cells, List.mem_cons, List.not_mem_nil, or_false] at hu
  rcases hu with rfl | rfl | rfl | rfl | rfl <;> rfl⟩
def ESp.Ok (s : ESp) : Prop := (Lit.int .i64 s.v).wf = true ∧ (Lit.int .u32 s.dst).wf = true ∧ (Lit.int .i64 s.proto).wf = true ∧ (Lit.int .i64 s.flow).wf = true ∧ (Lit.int .i64 s.ttl).wf = true
theorem esp_lits (d : Nat) (a0 : Int) (a1 : Int) (a2 : Int) (a3 : Int) (a4 : Int) (h0 : (Lit.int .i64 a0).wf = true) (h1 : (Lit.int .u32 a1).wf = true) (h2 : (Lit.int .i64 a2).wf = true) (h3 : (Lit.int .i64 a3).wf = true) (h4 : (Lit.int .i64 a4).wf = true) : Tryz.prog.keyLits (d + 3) 149 [.int .i64 a0, .int .u32 a1, .int .i64 a2, .int .i64 a3, .int .i64 a4] = some [.int .i64 a0, .int .u32 a1, .int .i64 a2, .int .i64 a3, .int .i64 a4] := by
  have hc : Tryz.prog.cellsOf 149 = 5 := by kernel_rfl
  have hc3 : Tryz.prog.cellsOf 3 = 1 := by kernel_rfl
  have hu3 := Tryz.underlying3
  have hc30 : Tryz.prog.cellsOf 30 = 1 := by kernel_rfl
  have hu30 := Tryz.underlying30
  have hc32 : Tryz.prog.cellsOf 32 = 3 := by kernel_rfl
  have hu32 := Tryz.underlying32
  simp [Program.keyLits, Tryz.underlying149, hc, hc3, hu3, hc30, hu30, hc32, hu32, h0, h1, h2, h3, h4]
  rw [if_pos (by decide)]; rfl
theorem esp_lit (s : ESp) (h : s.Ok) : ∃ l, keyOf Tryz.prog 149 (.agg s.cells.toArray) = some l := by
  have hkt : Tryz.prog.keyType 149 = true := by kernel_rfl
  have hc : Tryz.prog.cellsOf 149 = 5 := by kernel_rfl
  have hf : (Value.agg s.cells.toArray).formed Tryz.prog 149 = true := by simp [Value.formed, Tryz.underlying149, hc, ESp.cells]
  have hp : 1 < Tryz.prog.types.size := of_decide_eq_true (by kernel_rfl)
  have hl := esp_lits (Tryz.prog.types.size - 2) s.v s.dst s.proto s.flow s.ttl h.1 h.2.1 h.2.2.1 h.2.2.2.1 h.2.2.2.2
  rw [show Tryz.prog.types.size - 2 + 3 = Tryz.prog.types.size + 1 by omega] at hl
  refine ⟨.string (keyBytes [.int .i64 s.v, .int .u32 s.dst, .int .i64 s.proto, .int .i64 s.flow, .int .i64 s.ttl]), ?_⟩
  unfold keyOf
  rw [Tryz.underlying149]
  simp only [hkt, hf, Bool.and_self, if_true]
  show Option.map _ (Tryz.prog.keyLits _ _ [.int .i64 s.v, .int .u32 s.dst, .int .i64 s.proto, .int .i64 s.flow, .int .i64 s.ttl]) = _
  rw [hl]
  rfl
theorem esp_key : MKey Tryz.prog 149 (fun s : ESp => .agg s.cells.toArray) ESp.Ok where
  keyed := Maps.Keyed.of_law (deep_law (m := 3) (by omega) (by kernel_rfl) (by kernel_rfl) (by rw [Tryz.underlying149]))
  lit := esp_lit
  inj := fun a b h => by
    cases a; cases b
    simpa [ESp.cells] using h
theorem esp_eqn (a0 b0 : Int) (a1 b1 : Int) (a2 b2 : Int) (a3 b3 : Int) (a4 b4 : Int) (w : World) : (Op.equalIn 10000 149 (.agg #[.int .i64 a0, .int .u32 a1, .int .i64 a2, .int .i64 a3, .int .i64 a4]) (.agg #[.int .i64 b0, .int .u32 b1, .int .i64 b2, .int .i64 b3, .int .i64 b4])).run Tryz.prog w = .ok (decide (a0 = b0 ∧ a1 = b1 ∧ a2 = b2 ∧ a3 = b3 ∧ a4 = b4)) w := by
  have hS : Tryz.prog.underlying 149 = some (.struct (Tryz.prog.fieldsOf 149)) := by kernel_rfl
  have hp : Tryz.prog.stoodInHeld 149 = false := by kernel_rfl
  rw [show (10000 : Nat) = 9999 + 1 from rfl, run_equalIn_agg w 9999 149 _ _ hS hp]
  simp only [Program.fieldsOf, Tryz.underlying149]
  have uI := Tryz.underlying3
  have aI := Tryz.isAgg3
  have zI := Tryz.sizeOf3
  have aT := Tryz.isAgg32
  have zT := Tryz.sizeOf32
  have eT := fun x y x1 y1 x2 y2 => trc_eqn x y x1 y1 x2 y2 9997
  go_simp
  by_cases h3 : a3 = b3
  rotate_left
  · simp [h3]
  subst h3
  by_cases h0 : a0 = b0 <;> by_cases h1 : a1 = b1 <;> by_cases h2 : a2 = b2 <;> by_cases h4 : a4 = b4 <;> simp [h0, h1, h2, h4]
theorem esp_eq (x y : ESp) : (x = y) ↔ x.v = y.v ∧ x.dst = y.dst ∧ x.proto = y.proto ∧ x.flow = y.flow ∧ x.ttl = y.ttl := by
  cases x; cases y; simp
theorem esp_eql (x y : ESp) (ox oy : Operand) (w : World) : (do eqGuard .eql 149 ox oy (.agg x.cells.toArray) (.agg y.cells.toArray); binOp .eql 149 (.agg x.cells.toArray) (.agg y.cells.toArray) : Sem Value).run Tryz.prog w = .ok (.bool (decide (x = y))) w := by
  rw [Sem.run_bind, run_eqGuard_agg w .eql 149 ox oy _ _ (by kernel_rfl), Result.andThen_ok, run_eql_struct]
  have h := esp_eqn x.v y.v x.dst y.dst x.proto y.proto x.flow y.flow x.ttl y.ttl w
  have h2 : (Op.equalIn 10000 149 (.agg x.cells.toArray) (.agg y.cells.toArray)).run Tryz.prog w = .ok (decide (x.v = y.v ∧ x.dst = y.dst ∧ x.proto = y.proto ∧ x.flow = y.flow ∧ x.ttl = y.ttl)) w := h
  rw [h2, Result.andThen_ok, decide_eq_decide.2 (esp_eq x y)]
section
variable {P : Program} {N : Fr} {Q : Exit → Act → World → Prop} {E : Env} {I : World → Prop} {i l : Nat} {c : Code}
theorem TC.scope_ (h : TC P N (Exit.noGoto Q) c E I) : TC P N Q (.scope c) E I := fun a w ha hw => wp_scope_straight (h a w ha hw)
theorem TC.label_ (h : TX N Q .normal E I) : TC P N Q (.label l) E I := fun a w ha hw => wp_label (h a w ha hw)
theorem TX.scope_r (h : TX N Q .ret E I) : TX N (Exit.noGoto Q) .ret E I := h
end
set_option maxRecDepth 20000
structure Eps where
 first : Int
 last : Int
deriving DecidableEq
def Eps.cells (r : Eps) : List Value := [.int .i64 r.first, .int .i64 r.last]
theorem eps_cel : Cel Eps.cells 2 := ⟨fun _ => rfl, fun r u hu => by
 simp only [Eps.cells, List.mem_cons, List.not_mem_nil, or_false] at hu
 rcases hu with rfl | rfl <;> rfl⟩
def spotE (r : Rs) : ESp := ⟨r.v, r.dst, r.proto, r.flow, r.ttl⟩
def placed (r : Rs) : Bool := r.ans && usbRs r
def ctrE (a b : Rs) : Bool := placed a && placed b && decide (spotE a = spotE b) && decide (a.src ≠ b.src)
def CutP (l : List Rs) (n : Nat) (z : Int) : Prop := (∀ r ∈ l, vldRs r = true) → (∀ o, IsOrd l o → o.length ≤ 512) → (∀ t, IsTrc l t → t.length ≤ 1) → z = 0 ∧ ((∃ a ∈ l, ∃ b ∈ l, ctrE a b = true) → 2 ≤ n)
theorem vld_proto {r : Rs} (h : vldRs r = true) : r.proto = 1 ∨ r.proto = 6 ∨ r.proto = 17 := by
 unfold vldRs at h
 simp only [Bool.and_eq_true, decide_eq_true_eq] at h
 refine Decidable.by_contra fun h1 => ?_
 have h2 := h.1.1
 unfold chkR at h2
 rw [if_pos h1] at h2
 split at h2 <;> omega
theorem spotE_ok {r : Rs} (h : placed r = true) (ho : r.Ok) : (spotE r).Ok := by
 unfold placed usbRs at h
 simp only [Bool.and_eq_true] at h
 have h1 := vld_in h.2.2
 have h2 := vld_proto h.2.2
 unfold Rs.inRange at h1
 unfold Rs.Ok at ho
 unfold ESp.Ok spotE
 dsimp only
 refine ⟨?_, ?_, ?_, ?_, ?_⟩ <;> (simp [Lit.wf, IntKind.min, IntKind.max, IntKind.signed, IntKind.bits]; omega)
theorem IsTrc.ordr {l o : List Rs} {t : List Trc} (h : IsTrc o t) (ho : IsOrd l o) : IsTrc l t := ⟨h.1, fun x => by
 rw [h.2]
 constructor
 ·rintro ⟨r, hr, h1, h2⟩
  exact ⟨r, ((ho.2 r).1 hr).1, h1, h2⟩
 rintro ⟨r, hr, h1, h2⟩
 exact ⟨r, (ho.2 r).2 ⟨hr, h1⟩, h1, h2⟩⟩
def CtI (o : List Rs) (fr i : Nat) (fs : ESp → Option Int) : Prop := (∀ (j : Nat) (r : Rs), fr ≤ j → j < i → o[j]? = some r → placed r = true → fs (spotE r) = some r.src) ∧ (i = fr → ∀ s, fs s = none)
theorem ct_new (o : List Rs) (fr : Nat) : CtI o fr fr (fun _ => none) := ⟨fun j r h1 h2 => absurd h2 (by omega), fun _ _ => rfl⟩
def updE (f : ESp → Option Int) (a : ESp) (v : Int) : ESp → Option Int := fun x => if x = a then some v else f x
theorem updE_map (f : ESp → Option Int) (a : ESp) (v : Int) : (fun x => if x = a then some (Value.int .u32 v) else (f x).map (Value.int .u32)) = fun x => (updE f a v x).map (Value.int .u32) := by
 funext x
 unfold updE
 split <;> rfl
section
variable {o : List Rs} {fr i : Nat} {fs : ESp → Option Int} {x : Rs}
theorem ct_lt {s : ESp} (h : CtI o fr i fs) (hk : (fs s).isSome = true) (hfi : fr ≤ i := by omega) : fr < i := by
 rcases Nat.lt_or_ge fr i with h1 | h1
 ·exact h1
 rw [h.2 (by omega) s] at hk; cases hk
theorem ct_skip (h : CtI o fr i fs) (hx : o[i]? = some x) (hp : placed x = false) (hfi : fr ≤ i := by omega) : CtI o fr (i + 1) fs := ⟨fun j r h1 h2 h3 h4 => (by
 rcases Nat.lt_or_ge j i with h5 | h5
 ·exact h.1 j r h1 h5 h3 h4
 obtain rfl : j = i := by omega
 rw [hx] at h3; cases h3
 rw [hp] at h4; cases h4), fun e => absurd e (by omega)⟩
theorem ct_step (h : CtI o fr i fs) (hx : o[i]? = some x) (hk : (fs (spotE x)).isSome = false ∨ (fs (spotE x)).getD 0 = x.src) (hfi : fr ≤ i := by omega) : CtI o fr (i + 1) (updE fs (spotE x) x.src) := ⟨fun j r h1 h2 h3 h4 => (by
 unfold updE
 rcases Nat.lt_or_ge j i with h5 | h5
 ·have h6 := h.1 j r h1 h5 h3 h4
  split
  ·rename_i e
   rw [e] at h6
   rcases hk with hk | hk
   ·rw [h6] at hk; cases hk
   rw [h6] at hk
   rw [← hk]; rfl
  exact h6
 obtain rfl : j = i := by omega
 rw [hx] at h3; cases h3
 rw [if_pos rfl]), fun e => absurd e (by omega)⟩
theorem ct_none {a b : Rs} (h : CtI o fr i fs) (hf : fr = 0) (hi : o.length ≤ i) (ha : a ∈ o) (hb : b ∈ o) : ¬ ctrE a b = true := fun hc => by
 unfold ctrE at hc
 simp only [Bool.and_eq_true, decide_eq_true_eq] at hc
 obtain ⟨⟨⟨h1, h2⟩, h3⟩, h4⟩ := hc
 obtain ⟨j, hj⟩ := List.getElem?_of_mem ha
 obtain ⟨k, hk⟩ := List.getElem?_of_mem hb
 have l1 := (List.getElem?_eq_some_iff.1 hj).1
 have l2 := (List.getElem?_eq_some_iff.1 hk).1
 have e1 := h.1 j a (by omega) (by omega) hj h1
 have e2 := h.1 k b (by omega) (by omega) hk h2
 rw [h3, e2] at e1
 exact h4 (Option.some.inj e1).symm
end
theorem epszv149 (w : World) : (zeroValue 149).run Tryz.prog w = .ok (.agg #[.int .i64 0, .int .u32 0, .int .i64 0, .int .i64 0, .int .i64 0]) w := rfl
theorem epsbld149_55075 (a0_0 : Int) (a0_1 : Int) (a0_2 : Int) (a1_0 : Int) (a2_0 : Int) (w : World) : (Instr.build 149 #[(0, .agg #[.int .i64 a0_0, .int .u32 a0_1, .int .i64 a0_2]), (1, .int .i64 a1_0), (2, .int .i64 a2_0)]).run Tryz.prog w = .ok (.agg #[.int .i64 a0_0, .int .u32 a0_1, .int .i64 a0_2, .int .i64 a1_0, .int .i64 a2_0]) w := by kernel_rfl
theorem epssz149 (w : World) : (sizeOf 149).run Tryz.prog w = .ok 5 w := rfl
theorem epsone_i64u32i64i64i64 {a0 : Int} {a1 : Int} {a2 : Int} {a3 : Int} {a4 : Int} : ∀ u ∈ [(.int .i64 a0 : Value), .int .u32 a1, .int .i64 a2, .int .i64 a3, .int .i64 a4], u.oneCell' = true := by
 intro u hu
 simp only [List.mem_cons, List.not_mem_nil, or_false] at hu
 rcases hu with rfl | rfl | rfl | rfl | rfl <;> rfl
theorem epsag149 (w : World) : (isAgg 149).run Tryz.prog w = .ok true w := rfl
theorem epsbld181_29171 (a0_0 : Int) (a1_0 : Int) (w : World) : (Instr.build 181 #[(0, .int .i64 a0_0), (1, .int .i64 a1_0)]).run Tryz.prog w = .ok (.agg #[.int .i64 a0_0, .int .i64 a1_0]) w := by kernel_rfl
theorem epsbs145_1_20251 (a0_0 : Int) (a0_1 : Int) (w : World) : (Instr.buildSlice 145 1 #[(0, .agg #[.int .i64 a0_0, .int .i64 a0_1])]).run Tryz.prog w = .ok (.slice (some ⟨w.heap.size, 0, none⟩) 1 1) (w.alloc (.cells [.int .i64 a0_0, .int .i64 a0_1].toArray 181)) := by kernel_rfl
theorem epsel145 : Elem Tryz.prog 145 181 2 16 := Elem.mk' Tryz.underlying145 (z := .agg #[.int .i64 0, .int .i64 0]) (by kernel_rfl) rfl (by omega) (by omega)
theorem place_any (r : Rs) (w : World) :
  Calls Tryz.prog 112 #[.agg r.cells.toArray] w fun e w' => e = .returned (.tuple #[.agg (spotE r).cells.toArray, .bool (placed r)]) ∧ Below w.heap.size w w' := by
 refine begin_ (vs := [.agg r.cells.toArray]) Tryz.func112 rfl rfl rfl ?_ (Pm.start w)
 refine zSG ?_
 refine TL.pnew rfl rfl rfl (exec_box (cs := r.cells) rfl rfl rfl) (fun g1 => ?_)
 refine TL.pnew rfl rfl rfl (exec_alloc (cs := [.int .i64 0, .int .u32 0, .int .i64 0, .int .i64 0, .int .i64 0]) rfl epszv149 rfl) (fun g2 => ?_)
 refine TL.as_ ?_
 refine zET (zS ?_)
 rcases hans : r.ans with _ | _
 ·refine TC.held (ls := #[Ff,Ff,Ff,Ff,Ff,Ff,Ff,Ff,Ff,Ff,Ff,Ff,Ff,Ff,Ff]) (Pm w [.blk g1 65 r.cells]) (by kernel_rfl) rfl rfl (fun w hw => hw.drawn _) ?_
  refine TH.tk 0 rfl rfl rfl (gV 0 (.agg (r.cells).toArray) prsag65 prssz65) (fun w1 hw => hw.pick [1] (by decide) rfl) ?_
  refine TH.tk 2 rfl rfl rfl (gF prsfld65_6) (fun w1 hw => hw.pick [1] (by decide) rfl) ?_
  refine TH.tk 3 rfl rfl rfl (gL 0 pcmag3) (fun w1 hw => hw.pick [1] (by decide) rfl) ?_
  refine TH.tk 4 rfl rfl rfl (gF prsfld65_7) (fun w1 hw => hw.pick [1] (by decide) rfl) ?_
  refine TH.tk 5 rfl rfl rfl (gL 0 pcmag3) (fun w1 hw => hw.pick [1] (by decide) rfl) ?_
  refine TH.tk 7 rfl rfl rfl (gF prsfld65_8) (fun w1 hw => hw.pick [1] (by decide) rfl) ?_
  refine TH.tk 8 rfl rfl rfl ((show Gives _ _ _ _ _ (Value.bool false) from by rw [show Value.bool false = Value.bool r.ans by rw [hans]]; exact pm_load (k := 0) (i := 8) rfl rfl prsag4 rfl rfl)) (fun w1 hw => hw.pick [1] (by decide) rfl) ?_
  refine TH.only' 1 rfl (by kernel_rfl) rfl ?_
  refine TL.pcall1 (r := .agg ((trcR r).cells).toArray) rfl rfl rfl rfl rfl Tryz.func135 (by decide) rfl (fun w1 hw => trc_any r w1) ?_
  refine zE ?_
  refine TX.he (fun w1 hw => hw.pick [1] (by decide) rfl) fun hS => ?_
  refine TH.t 6 rfl (gives_build (v := .agg #[.int .i64 ((trcR r).v), .int .u32 ((trcR r).dst), .int .i64 ((trcR r).proto), .int .i64 r.flow, .int .i64 r.ttl]) rfl rfl (fun w => epsbld149_55075 _ _ _ _ _ w)) hS ?_
  refine TH.t 9 rfl (gives_move rfl rfl) hS ?_
  refine TH.off 10 rfl (by kernel_rfl) (by kernel_rfl) (by kernel_rfl) rfl rfl rfl rfl rfl rfl rfl (fun w1 hw => hw.pick [1] (by decide) rfl) ?_
  refine TH.off 11 rfl (by kernel_rfl) (by kernel_rfl) (by kernel_rfl) rfl rfl rfl rfl rfl rfl rfl (fun w1 hw => hw.pick [1] (by decide) rfl) ?_
  refine TH.tk 12 rfl rfl rfl (gives_pick rfl rfl rfl) (fun w1 hw => hw.pick [1] (by decide) rfl) ?_
  refine TH.only' 13 rfl (by kernel_rfl) rfl ?_
  refine TL.pstore (k := 0) (vs := [.int .i64 ((trcR r).v), .int .u32 ((trcR r).dst), .int .i64 ((trcR r).proto), .int .i64 r.flow, .int .i64 r.ttl]) rfl rfl rfl rfl rfl rfl rfl epssz149 epsone_i64u32i64i64i64 (by show 5 ≤ 5; decide) (L' := [.blk g2 149 [.int .i64 ((trcR r).v), .int .u32 ((trcR r).dst), .int .i64 ((trcR r).proto), .int .i64 r.flow, .int .i64 r.ttl], .blk g1 65 r.cells]) rfl ?_
  refine zE ?_
  refine TX.he (fun w1 hw => hw.pick [1] (by decide) rfl) fun hS => ?_
  refine TH.t 14 rfl (gives_assign rfl rfl) hS ?_
  refine TH.done (by kernel_rfl) ?_
  refine zT (zr ?_)
  exact ret_cell2 (k := 0) (v := .bool false) Tryz.results112 rfl rfl rfl Tryz.underlying149 rfl rfl (fun w1 hw => ⟨by unfold placed; rw [hans]; rfl, hw.bel⟩)
 refine TC.held (ls := #[Ff,Ff,Ff,Ff,Ff,Ff,Ff,Ff,Ff,Ff,Ff,Ff,Ff,Ff,Ff]) (Pm w [.blk g1 65 r.cells]) (by kernel_rfl) rfl rfl (fun w hw => hw.drawn _) ?_
 refine TH.tk 0 rfl rfl rfl (gV 0 (.agg (r.cells).toArray) prsag65 prssz65) (fun w1 hw => hw.pick [1] (by decide) rfl) ?_
 refine TH.tk 2 rfl rfl rfl (gF prsfld65_6) (fun w1 hw => hw.pick [1] (by decide) rfl) ?_
 refine TH.tk 3 rfl rfl rfl (gL 0 pcmag3) (fun w1 hw => hw.pick [1] (by decide) rfl) ?_
 refine TH.tk 4 rfl rfl rfl (gF prsfld65_7) (fun w1 hw => hw.pick [1] (by decide) rfl) ?_
 refine TH.tk 5 rfl rfl rfl (gL 0 pcmag3) (fun w1 hw => hw.pick [1] (by decide) rfl) ?_
 refine TH.tk 7 rfl rfl rfl (gF prsfld65_8) (fun w1 hw => hw.pick [1] (by decide) rfl) ?_
 refine TH.tk 8 rfl rfl rfl ((show Gives _ _ _ _ _ (Value.bool true) from by rw [show Value.bool true = Value.bool r.ans by rw [hans]]; exact pm_load (k := 0) (i := 8) rfl rfl prsag4 rfl rfl)) (fun w1 hw => hw.pick [1] (by decide) rfl) ?_
 refine TH.only' 1 rfl (by kernel_rfl) rfl ?_
 refine TL.pcall1 (r := .agg ((trcR r).cells).toArray) rfl rfl rfl rfl rfl Tryz.func135 (by decide) rfl (fun w1 hw => trc_any r w1) ?_
 refine zE ?_
 refine TX.he (fun w1 hw => hw.pick [1] (by decide) rfl) fun hS => ?_
 refine TH.t 6 rfl (gives_build (v := .agg #[.int .i64 ((trcR r).v), .int .u32 ((trcR r).dst), .int .i64 ((trcR r).proto), .int .i64 r.flow, .int .i64 r.ttl]) rfl rfl (fun w => epsbld149_55075 _ _ _ _ _ w)) hS ?_
 refine TH.t 9 rfl (gives_move rfl rfl) hS ?_
 refine TH.takeG 10 rfl (by kernel_rfl) (by kernel_rfl) (by kernel_rfl) rfl rfl rfl rfl rfl rfl (gV 0 (.agg (r.cells).toArray) prsag65 prssz65) (fun w1 hw => hw.pick [1] (by decide) rfl) ?_
 refine TH.only' 11 rfl (by kernel_rfl) rfl ?_
 refine TL.gu ?_
 refine TL.pcall1 (r := .bool (usbRs r)) rfl rfl rfl rfl rfl Tryz.func91 (by decide) rfl (fun w1 hw => usbRs_any r w1) ?_
 refine zE ?_
 refine TX.he (fun w1 hw => hw.pick [1] (by decide) rfl) fun hS => ?_
 refine TH.t 12 rfl (gives_pick rfl rfl rfl) hS ?_
 refine TH.only' 13 rfl (by kernel_rfl) rfl ?_
 refine TL.pstore (k := 0) (vs := [.int .i64 ((trcR r).v), .int .u32 ((trcR r).dst), .int .i64 ((trcR r).proto), .int .i64 r.flow, .int .i64 r.ttl]) rfl rfl rfl rfl rfl rfl rfl epssz149 epsone_i64u32i64i64i64 (by show 5 ≤ 5; decide) (L' := [.blk g2 149 [.int .i64 ((trcR r).v), .int .u32 ((trcR r).dst), .int .i64 ((trcR r).proto), .int .i64 r.flow, .int .i64 r.ttl], .blk g1 65 r.cells]) rfl ?_
 refine zE ?_
 refine TX.he (fun w1 hw => hw.pick [1] (by decide) rfl) fun hS => ?_
 refine TH.t 14 rfl (gives_assign rfl rfl) hS ?_
 refine TH.done (by kernel_rfl) ?_
 refine zT (zr ?_)
 exact ret_cell2 (k := 0) (v := .bool (usbRs r)) Tryz.results112 rfl rfl rfl Tryz.underlying149 rfl rfl (fun w1 hw => ⟨by unfold placed; rw [hans]; rfl, hw.bel⟩)
theorem ctrE_any (a b : Rs) (w : World) :
  Calls Tryz.prog 61 #[.agg a.cells.toArray, .agg b.cells.toArray] w fun e w' => e = .returned (.bool (ctrE a b)) ∧ Below w.heap.size w w' := by
 refine begin_ (vs := [.agg a.cells.toArray, .agg b.cells.toArray]) Tryz.func61 rfl rfl rfl ?_ (Pm.start w)
 refine zSG ?_
 refine TL.pnew rfl rfl rfl (exec_box (cs := a.cells) rfl rfl rfl) (fun g2 => ?_)
 refine TL.pnew rfl rfl rfl (exec_box (cs := b.cells) rfl rfl rfl) (fun g3 => ?_)
 refine TL.as_ ?_
 refine zET (zSG (TL.v (gV 1 (.agg (a.cells).toArray) prsag65 prssz65) ?_))
 obtain ⟨pa, hpa⟩ : ∃ z9, placed a = z9 := ⟨_, rfl⟩
 refine TL.pcall1 (r := .tuple #[.agg (spotE a).cells.toArray, .bool pa]) rfl rfl rfl rfl rfl Tryz.func112 (by decide) rfl (fun w1 hw => by rw [← hpa]; exact place_any a w1) ?_
 refine TL.rn 3 rfl ?_
 refine TL.pnew rfl rfl rfl (exec_alloc (cs := [.int .i64 0, .int .u32 0, .int .i64 0, .int .i64 0, .int .i64 0]) rfl epszv149 rfl) (fun g5 => ?_)
 refine TL.pstore (k := 0) (vs := (spotE a).cells) rfl rfl rfl rfl rfl rfl rfl epssz149 (esp_cel.one _) (by show 5 ≤ 5; decide) (L' := [.blk g5 149 (spotE a).cells, .blk g3 65 b.cells, .blk g2 65 a.cells]) rfl ?_
 refine TL.as_ ?_
 refine zET (zSG (TL.v (gV 1 (.agg (b.cells).toArray) prsag65 prssz65) ?_))
 obtain ⟨pb, hpb⟩ : ∃ z9, placed b = z9 := ⟨_, rfl⟩
 refine TL.pcall1 (r := .tuple #[.agg (spotE b).cells.toArray, .bool pb]) rfl rfl rfl rfl rfl Tryz.func112 (by decide) rfl (fun w1 hw => by rw [← hpb]; exact place_any b w1) ?_
 refine TL.rn 3 rfl ?_
 refine TL.pnew rfl rfl rfl (exec_alloc (cs := [.int .i64 0, .int .u32 0, .int .i64 0, .int .i64 0, .int .i64 0]) rfl epszv149 rfl) (fun g7 => ?_)
 refine TL.pstore (k := 0) (vs := (spotE b).cells) rfl rfl rfl rfl rfl rfl rfl epssz149 (esp_cel.one _) (by show 5 ≤ 5; decide) (L' := [.blk g7 149 (spotE b).cells, .blk g5 149 (spotE a).cells, .blk g3 65 b.cells, .blk g2 65 a.cells]) rfl ?_
 refine TL.as_ ?_
 refine zET (zS ?_)
 cases pa with
 | true =>
  cases pb with
  | true =>
   refine zG (TL.rn 5 rfl (TL.ov (gV 1 (.agg ((spotE a).cells).toArray) epsag149 epssz149) ?_))
   refine TL.ov (gV 0 (.agg ((spotE b).cells).toArray) epsag149 epssz149) ?_
   refine TL.gu ?_
   refine TL.vsplit rfl rfl rfl (gives_bin2 rfl rfl rfl (fun w => esp_eql (spotE a) (spotE b) _ _ w)) (fun h26 => ?_) (fun h26 => ?_)
   ·have q26 := of_decide_eq_true h26
    refine TL.rn 2 rfl (TL.ov (gF prsfld65_11) ?_)
    refine TL.ov (gF prsfld63_0) ?_
    refine TL.ov (gL 3 pcmag30) ?_
    refine TL.ov (gF prsfld65_11) ?_
    refine TL.ov (gF prsfld63_0) ?_
    refine TL.ov (gL 2 pcmag30) ?_
    refine TL.gu ?_
    refine TL.sp bin_neq (fun q35 => ?_) (fun q35 => ?_)
    ·refine TL.rn 2 rfl (zET (zr ?_))
     have hE : ctrE a b = true := (by simp [ctrE, hpa, hpb, q26, q35])
     exact ret_tmp Tryz.results61 rfl (fun w1 hw => ⟨by rw [hE], hw.bel⟩)
    refine TL.rn 2 rfl (zET (zr ?_))
    have hE : ctrE a b = false := (by simp [ctrE, hpa, hpb, q26, q35])
    exact ret_tmp Tryz.results61 rfl (fun w1 hw => ⟨by rw [hE], hw.bel⟩)
   have q26 := of_decide_eq_false h26
   refine TL.rn 11 rfl (zET (zr ?_))
   have hE : ctrE a b = false := (by simp [ctrE, hpa, hpb, q26])
   exact ret_tmp Tryz.results61 rfl (fun w1 hw => ⟨by rw [hE], hw.bel⟩)
  | false =>
   refine zG (TL.rn 19 rfl (zET (zr ?_)))
   have hE : ctrE a b = false := (by simp [ctrE, hpa, hpb])
   exact ret_tmp Tryz.results61 rfl (fun w1 hw => ⟨by rw [hE], hw.bel⟩)
 | false =>
  cases pb with
  | true =>
   refine zG (TL.rn 19 rfl (zET (zr ?_)))
   have hE : ctrE a b = false := (by simp [ctrE, hpa, hpb])
   exact ret_tmp Tryz.results61 rfl (fun w1 hw => ⟨by rw [hE], hw.bel⟩)
  | false =>
   refine zG (TL.rn 19 rfl (zET (zr ?_)))
   have hE : ctrE a b = false := (by simp [ctrE, hpa, hpb])
   exact ret_tmp Tryz.results61 rfl (fun w1 hw => ⟨by rw [hE], hw.bel⟩)
theorem cut1_any (r : Rs) (w : World) :
  Calls Tryz.prog 153 #[.agg r.cells.toArray] w fun e w' => e = .returned (.bool (!vldRs r)) ∧ Below w.heap.size w w' := by
 refine begin_ (vs := [.agg r.cells.toArray]) Tryz.func153 rfl rfl rfl ?_ (Pm.start w)
 refine zSG ?_
 refine TL.pnew rfl rfl rfl (exec_box (cs := r.cells) rfl rfl rfl) (fun g1 => ?_)
 refine TL.as_ ?_
 refine zET (zSG (TL.v (gV 0 (.agg (r.cells).toArray) prsag65 prssz65) ?_))
 refine TL.callsplit rfl rfl rfl rfl rfl Tryz.func70 (by decide) rfl (fun w1 hw => vldRs_any r w1) (fun h4 => ?_) (fun h4 => ?_)
 ·refine TL.rn 2 rfl (zET (zr ?_))
  have hE : (!vldRs r) = false := (by simp [Bool.not_eq_true, h4])
  exact ret_tmp Tryz.results153 rfl (fun w1 hw => ⟨by rw [hE]; try rfl, hw.bel⟩)
 refine TL.rn 2 rfl (zET (zr ?_))
 have hE : (!vldRs r) = true := (by simp [Bool.not_eq_true, h4])
 exact ret_tmp Tryz.results153 rfl (fun w1 hw => ⟨by rw [hE]; try rfl, hw.bel⟩)
theorem cut_any (A0 : Option Addr) (c0 : Nat) (l : List Rs) (w : World) (hr : Reads w w.heap.size 17 A0 l.length (flat Rs.cells l)) (hl1 : l.length ≤ 100000) (hok : ∀ r ∈ l, r.Ok) :
  Calls Tryz.prog 111 #[.slice A0 l.length c0] w fun e w' => ∃ x : {y : ((Option Addr × Nat) × List Eps) × Int // CutP l y.1.2.length y.2 ∧ y.1.2.length ≤ y.1.1.2 ∧ y.1.1.2 ≤ maxLen}, e = .returned (.tuple #[.slice x.1.1.1.1 x.1.1.2.length x.1.1.1.2, .int .i64 x.1.2]) ∧ Pm w [.row (.slice x.1.1.1.1 x.1.1.2.length x.1.1.1.2) 181 2 x.1.1.2.length (flat Eps.cells x.1.1.2)] w' := by
 refine begin_ (vs := [.slice A0 l.length c0]) Tryz.func111 rfl rfl rfl ?_ (Pm.start w)
 refine zSG (TL.rn 2 rfl (zET (TC.scope_ ?_)))
 refine zS (zSG (TL.mv ?_))
 refine TL.callsplit rfl rfl rfl rfl rfl Tryz.func86 (by decide) rfl (fun w1 hw => ctG_any A0 c0 l (fun r : Rs => !vldRs r) 153 _ #[] w1 (hr.up hw.bel) hl1 Tryz.func153 (by decide) rfl (fun x w2 hb => cut1_any x w2)) (fun h14 => ?_) (fun h14 => ?_)
 ·refine zET (zc (zSG (TL.rn 2 rfl (zET (zr (zR ?_))))))
  refine TX.scope_r ?_
  exact ret_pair (v1 := .slice none 0 0) (v2 := .int .i64 1) Tryz.results111 rfl rfl (fun w1 hw => ⟨⟨(((none, 0), []), 1), fun hv _ _ => (by rw [List.any_eq_true] at h14; obtain ⟨r, hr, h9⟩ := h14; rw [hv r hr] at h9; cases h9), Nat.le_refl _, Nat.zero_le _⟩, rfl, (hw.pick [] (by decide) rfl).nilrow _ _⟩)
 refine zET (zd (zk (zT (zSG (TL.mv ?_)))))
 refine TL.pcallPm (α := {y : (Option Addr × Nat) × List Rs // IsOrd l y.2 ∧ y.2.length ≤ y.1.2 ∧ y.1.2 ≤ maxLen}) (fun x => .slice x.1.1.1 x.1.2.length x.1.1.2) (fun x => [.row (.slice x.1.1.1 x.1.2.length x.1.1.2) 65 17 x.1.2.length (flat Rs.cells x.1.2)]) rfl rfl rfl rfl rfl Tryz.func88 (by decide) rfl (fun w1 hw => ord_any A0 c0 l w1 (hr.up hw.bel) hl1 hok) ?_
 rintro ⟨⟨⟨R16, rc16⟩, o16⟩, hP16, hR161, hR162⟩
 dsimp only [List.cons_append, List.nil_append]
 dsimp only at hP16 hR161 hR162 ⊢
 refine TL.as_ ?_
 refine zET (zS (zSG (TL.mv ?_)))
 refine TL.v (gN Tryz.underlying23) ?_
 refine TL.sp bin_gtr (fun q19 => ?_) (fun q19 => ?_)
 ·refine zET (zc (zSG (TL.rn 2 rfl (zET (zr (zR ?_))))))
  refine TX.scope_r ?_
  exact ret_pair (v1 := .slice none 0 0) (v2 := .int .i64 5) Tryz.results111 rfl rfl (fun w1 hw => ⟨⟨(((none, 0), []), 5), fun _ ho _ => absurd (ho _ hP16) (by omega), Nat.le_refl _, Nat.zero_le _⟩, rfl, (hw.pick [] (by decide) rfl).nilrow _ _⟩)
 refine zET (zd (zk (zT (zS (zSG (TL.mv ?_))))))
 refine TL.pcallPm (α := {y : (Option Addr × Nat) × List Trc // IsTrc o16 y.2 ∧ y.2.length ≤ y.1.2 ∧ y.1.2 ≤ maxLen}) (fun x => .slice x.1.1.1 x.1.2.length x.1.1.2) (fun x => [.row (.slice x.1.1.1 x.1.2.length x.1.1.2) 32 3 x.1.2.length (flat Trc.cells x.1.2)]) rfl rfl rfl rfl rfl Tryz.func89 (by decide) rfl (fun w1 hw => trs_any R16 rc16 o16 w1 (pm_rd hw (k := 0) rfl) (by have h9 := hP16.le; omega)) ?_
 rintro ⟨⟨⟨R21, rc21⟩, tr21⟩, hP21, hR211, hR212⟩
 dsimp only [List.cons_append, List.nil_append]
 dsimp only at hP21 hR211 hR212 ⊢
 refine TL.v (gN Tryz.underlying128) ?_
 refine TL.sp bin_gtr (fun q23 => ?_) (fun q23 => ?_)
 ·refine zET (zc (zSG (TL.rn 2 rfl (zET (zr (zR ?_))))))
  refine TX.scope_r ?_
  exact ret_pair (v1 := .slice none 0 0) (v2 := .int .i64 35) Tryz.results111 rfl rfl (fun w1 hw => ⟨⟨(((none, 0), []), 35), fun hv _ ht => absurd (ht _ (hP21.ordr hP16)) (by omega), Nat.le_refl _, Nat.zero_le _⟩, rfl, (hw.pick [] (by decide) rfl).nilrow _ _⟩)
 refine zET (zd (zk (zT (zSG (TL.as_ ?_)))))
 refine zET (zS (TC.label_ ?_))
 refine zT (zS (zSG (TL.as_ ?_)))
 refine zET (zB (TC.nilrow 181 2 ?_))
 refine TC.loop_ (α := {y : Nat × (Option Addr × Nat) × List Eps // y.1 ≤ o16.length ∧ ((y.1 = 0 ∧ y.2.2.length = 0) ∨ (0 < y.1 ∧ 1 ≤ y.2.2.length ∧ y.1 < o16.length)) ∧ y.2.2.length ≤ y.1 ∧ y.2.2.length ≤ y.2.1.2 ∧ y.2.1.2 ≤ maxLen}) (fun y => [(4, .slice R16 o16.length rc16), (6, .int .i64 ((y.1.1 : Nat) : Int)), (5, .slice y.1.2.1.1 y.1.2.2.length y.1.2.1.2)]) (fun y => Pm w [.row (.slice y.1.2.1.1 y.1.2.2.length y.1.2.1.2) 181 2 y.1.2.2.length (flat Eps.cells y.1.2.2), .row (.slice R21 tr21.length rc21) 32 3 tr21.length (flat Trc.cells tr21), .row (.slice R16 o16.length rc16) 65 17 o16.length (flat Rs.cells o16)]) (fun y => o16.length - y.1.1) (⟨(0, (none, 0), []), Nat.zero_le _, .inl ⟨rfl, rfl⟩, Nat.le_refl _, Nat.le_refl _, Nat.zero_le _⟩) ⟨rfl, rfl, rfl, trivial⟩ (fun w1 hw => hw) ?_
 rintro ⟨⟨fr, ⟨Ao, co⟩, out⟩, hf, hfr, hof, hoc, hom⟩
 dsimp only at hf hfr hof hoc hom ⊢
 refine zS (zSG (TL.rn 2 rfl (TL.v (gN Tryz.underlying23) ?_)))
 refine TL.sp bin_lss (fun q27 => ?_) (fun q27 => ?_)
 ·refine zET (zc (zk (zT (zB (zSG ?_)))))
  refine TL.mkmap rfl rfl rfl rfl (fun gm hgm => ?_)
  refine TL.as_ ?_
  refine zET (zS (zSG (TL.rn 2 rfl (zET (zB (TC.loop_ (α := {y : Nat × Obj // y.1 ≤ o16.length ∧ fr ≤ y.1 ∧ ∃ fs : ESp → Option Int, MapG (fun s : ESp => Value.agg s.cells.toArray) ESp.Ok y.2 (fun s => (fs s).map (Value.int .u32)) ∧ CtI o16 fr y.1 fs}) (fun y => [(4, .slice R16 o16.length rc16), (5, .slice Ao out.length co), (6, .int .i64 ((fr : Nat) : Int)), (7, .map (some gm)), (8, .int .i64 ((y.1.1 : Nat) : Int))]) (fun y => Pm w [.oth gm y.1.2, .row (.slice Ao out.length co) 181 2 out.length (flat Eps.cells out), .row (.slice R21 tr21.length rc21) 32 3 tr21.length (flat Trc.cells tr21), .row (.slice R16 o16.length rc16) 65 17 o16.length (flat Rs.cells o16)]) (fun y => o16.length - y.1.1) (⟨(fr, .map #[] 0), hf, Nat.le_refl _, fun _ => none, mapG_new _ _, ct_new _ _⟩) ⟨rfl, rfl, rfl, rfl, rfl, trivial⟩ (fun w1 hw => hw) ?_))))))
  rintro ⟨⟨i, om⟩, hi, hfi, fs, hmf, hSn⟩
  dsimp only at hi hfi hmf hSn ⊢
  refine zS (zSG (TL.rn 2 rfl (TL.v (gN Tryz.underlying23) ?_)))
  refine TL.sp bin_lss (fun q33 => ?_) (fun q33 => ?_)
  ·refine zET (zc (zk (zT (zS (zB (zSG (TL.rn 2 rfl ?_)))))))
   refine TL.fact (p := ∃ g, R16 = some ⟨g, 0, none⟩) (fun w1 hw => rowA hw (k := 3) rfl (by omega)) ?_
   rintro ⟨g_R16, rfl⟩
   have hi39 : i < o16.length := by omega
   obtain ⟨x39, hx39⟩ := ex_at hi39
   refine TL.val rfl rfl rfl (gA (i := i) Tryz.underlying23 prssz65 rfl rfl rfl rfl rfl (by omega)) ?_
   refine TL.val rfl rfl rfl (gives_loadR (off := 0 + i * 17) rfl rfl prsag65 prssz65 (rs_cel.len x39) (fun w1 hw j9 u9 h9 => flat_row rs_cel hw (q := 3) rfl hx39 j9 u9 h9)) ?_
   obtain ⟨pb, hpb⟩ : ∃ b, placed x39 = b := ⟨_, rfl⟩
   refine TL.pcall1 (r := .tuple #[.agg (spotE x39).cells.toArray, .bool pb]) rfl rfl rfl rfl rfl Tryz.func112 (by decide) rfl (fun w1 hw => by rw [← hpb]; exact place_any x39 w1) ?_
   refine TL.rn 3 rfl ?_
   refine TL.pnew rfl rfl rfl (exec_alloc (cs := [.int .i64 0, .int .u32 0, .int .i64 0, .int .i64 0, .int .i64 0]) rfl epszv149 rfl) (fun g9 => ?_)
   refine TL.pstore (k := 0) (vs := (spotE x39).cells) rfl rfl rfl rfl rfl rfl rfl epssz149 (esp_cel.one _) (by show 5 ≤ 5; decide) (L' := [.blk g9 149 (spotE x39).cells, .oth gm om, .row (.slice Ao out.length co) 181 2 out.length (flat Eps.cells out), .row (.slice R21 tr21.length rc21) 32 3 tr21.length (flat Trc.cells tr21), .row (.slice (some ⟨g_R16, 0, none⟩) o16.length rc16) 65 17 o16.length (flat Rs.cells o16)]) rfl ?_
   refine TL.as_ ?_
   refine zET (zS (zS ?_))
   cases pb with
   | true =>
    refine zG (TL.rn 2 rfl (zET (zd (zk (zT (zS (zS ?_)))))))
    have hsk : (spotE x39).Ok := spotE_ok hpb (hok x39 ((hP16.2 x39).1 (List.mem_of_getElem? hx39)).1)
    obtain ⟨kb, hkb⟩ : ∃ b, (fs (spotE x39)).isSome = b := ⟨_, rfl⟩
    refine zG (TL.mv ?_)
    refine TL.v (gV 0 (.agg ((spotE x39).cells).toArray) epsag149 epssz149) ?_
    refine TL.val rfl rfl rfl (gives_lookGOk (i := 1) (a := (spotE x39)) (v := .int .u32 ((fs (spotE x39)).getD 0)) (b := kb) rfl rfl rfl esp_key Tryz.underlying178 (fun w => rfl) rfl hmf hsk (by cases h9 : fs (spotE x39) <;> rfl) (by rw [← hkb]; cases h9 : fs (spotE x39) <;> rfl)) ?_
    refine TL.rn 5 rfl (zET (zS ?_))
    cases kb with
    | true =>
     refine zG (TL.rn 5 rfl (TL.gu ?_))
     refine TL.val rfl rfl rfl (gA (i := i) Tryz.underlying23 prssz65 rfl rfl rfl rfl rfl (by omega)) ?_
     refine TL.ov (gF prsfld65_11) ?_
     refine TL.ov (gF prsfld63_0) ?_
     refine TL.gu ?_
     refine TL.val rfl rfl rfl (gives_load (v := .int .u32 x39.src) rfl rfl pcmag30 (fun w1 hw => flat_row rs_cel hw (q := 4) rfl hx39 11 _ rfl)) ?_
     refine TL.gu ?_
     refine TL.sp bin_neq (fun q61 => ?_) (fun q61 => ?_)
     ·refine TL.pk ?_
      refine zET (zc (zSG (TL.rn 3 rfl ?_)))
      refine TL.val rfl rfl rfl (gives_build (v := .agg #[.int .i64 ((fr : Nat) : Int), .int .i64 ((i : Nat) : Int)]) rfl rfl (fun w => epsbld181_29171 _ _ w)) ?_
      refine TL.prowS (e := 181) (size := 2) (cs := flat Eps.cells [(⟨((fr : Nat) : Int), ((i : Nat) : Int)⟩ : Eps)]) rfl rfl rfl rfl rfl (fun w => epsbs145_1_20251 _ _ w) (by decide) rfl (fun g67 => ?_)
      refine TL.appendT (k := 3) rfl rfl rfl rfl Tryz.underlying145 epsel145 rfl rfl rfl (fun w1 hw => pm_reads hw (k := 0) rfl) (flat_one eps_cel _) (by show _ * 16 ≤ _; omega) ((out ++ [(⟨((fr : Nat) : Int), ((i : Nat) : Int)⟩ : Eps)]).length) (by rw [List.length_append]; rfl) (flat Eps.cells (out ++ [(⟨((fr : Nat) : Int), ((i : Nat) : Int)⟩ : Eps)])) ((flat_app _ _).symm) (fun A68 c68 hA681 hA682 => ?_)
      refine TL.as_ ?_
      refine zET (zSG (TL.rn 2 rfl (zET (zx (zX (zO (zX (zX (zO (zX (zM ?_)))))))))))
      exact TX.round (⟨(i, (A68, c68), out ++ [(⟨((fr : Nat) : Int), ((i : Nat) : Int)⟩ : Eps)]), by dsimp only; omega, .inr ⟨by have h9 := ct_lt hSn hkb; dsimp only; omega, by dsimp only; rw [List.length_append]; show 1 ≤ _ + 1; omega, by dsimp only; omega⟩, by have h9 := ct_lt hSn hkb; dsimp only; rw [List.length_append]; show _ + 1 ≤ i; omega, hA681, hA682⟩) (by have h9 := ct_lt hSn hkb; show o16.length - i < o16.length - fr; omega) ⟨rfl, rfl, rfl, trivial⟩ (fun w1 hw => hw.pick [3, 4, 5] (by decide) rfl)
     refine TL.pk ?_
     refine zET (zd (zk (zT (TC.tail 8 (by kernel_rfl) (by kernel_rfl) (fun w hw => hw.drawn _) ?_))))
     refine TS.val rfl rfl rfl (gives_move rfl rfl) ?_
     refine TS.v (gV 0 (.agg ((spotE x39).cells).toArray) epsag149 epssz149) ?_
     refine TS.val rfl rfl rfl (gives_move rfl rfl) ?_
     refine TS.val rfl rfl rfl (gives_move rfl rfl) ?_
     refine TS.val rfl rfl rfl (gA (i := i) Tryz.underlying23 prssz65 rfl rfl rfl rfl rfl (by omega)) ?_
     refine TS.v (gF prsfld65_11) ?_
     refine TS.v (gF prsfld63_0) ?_
     refine TS.val rfl rfl rfl (gives_load (v := .int .u32 x39.src) rfl rfl pcmag30 (fun w1 hw => flat_row rs_cel hw (q := 4) rfl hx39 11 _ rfl)) ?_
     refine TS.end_ ?_
     refine TL.mapsetG (enc := fun s : ESp => .agg s.cells.toArray) (a := (spotE x39)) (i := 1) rfl rfl rfl rfl rfl rfl esp_key Tryz.underlying178 rfl hgm hmf hsk (fun ob2 hm2 => ?_)
     try dsimp only [List.set_cons_zero, List.set_cons_succ]
     refine zE (zN (zT (zG (TL.mv ?_))))
     refine TL.v (gD ((i + 1 : Nat) : Int)) ?_
     refine TL.as_ ?_
     refine zE ?_
     exact TX.round (⟨(i + 1, ob2), by dsimp only; omega, by dsimp only; omega, _, by rw [updE_map] at hm2; exact hm2, ct_step hSn hx39 (.inr (Decidable.not_not.1 q61))⟩) (by show o16.length - (i + 1) < o16.length - i; omega) ⟨rfl, rfl, rfl, rfl, rfl, trivial⟩ (fun w1 hw => hw.pick [1, 2, 3, 4] (by decide) rfl)
    | false =>
     refine zG (TL.rn 11 rfl (zET (zd (zk (zT (TC.tail 8 (by kernel_rfl) (by kernel_rfl) (fun w hw => hw.drawn _) ?_))))))
     refine TS.val rfl rfl rfl (gives_move rfl rfl) ?_
     refine TS.v (gV 0 (.agg ((spotE x39).cells).toArray) epsag149 epssz149) ?_
     refine TS.val rfl rfl rfl (gives_move rfl rfl) ?_
     refine TS.val rfl rfl rfl (gives_move rfl rfl) ?_
     refine TS.val rfl rfl rfl (gA (i := i) Tryz.underlying23 prssz65 rfl rfl rfl rfl rfl (by omega)) ?_
     refine TS.v (gF prsfld65_11) ?_
     refine TS.v (gF prsfld63_0) ?_
     refine TS.val rfl rfl rfl (gives_load (v := .int .u32 x39.src) rfl rfl pcmag30 (fun w1 hw => flat_row rs_cel hw (q := 4) rfl hx39 11 _ rfl)) ?_
     refine TS.end_ ?_
     refine TL.mapsetG (enc := fun s : ESp => .agg s.cells.toArray) (a := (spotE x39)) (i := 1) rfl rfl rfl rfl rfl rfl esp_key Tryz.underlying178 rfl hgm hmf hsk (fun ob2 hm2 => ?_)
     try dsimp only [List.set_cons_zero, List.set_cons_succ]
     refine zE (zN (zT (zG (TL.mv ?_))))
     refine TL.v (gD ((i + 1 : Nat) : Int)) ?_
     refine TL.as_ ?_
     refine zE ?_
     exact TX.round (⟨(i + 1, ob2), by dsimp only; omega, by dsimp only; omega, _, by rw [updE_map] at hm2; exact hm2, ct_step hSn hx39 (.inl hkb)⟩) (by show o16.length - (i + 1) < o16.length - i; omega) ⟨rfl, rfl, rfl, rfl, rfl, trivial⟩ (fun w1 hw => hw.pick [1, 2, 3, 4] (by decide) rfl)
   | false =>
    refine zG (TL.rn 2 rfl (zET (zc (zx (zX (zM (zT (zG (TL.mv ?_)))))))))
    refine TL.v (gD ((i + 1 : Nat) : Int)) ?_
    refine TL.as_ ?_
    refine zE ?_
    exact TX.round (⟨(i + 1, om), by dsimp only; omega, by dsimp only; omega, fs, hmf, ct_skip hSn hx39 hpb⟩) (by show o16.length - (i + 1) < o16.length - i; omega) ⟨rfl, rfl, rfl, rfl, rfl, trivial⟩ (fun w1 hw => hw.pick [1, 2, 3, 4] (by decide) rfl)
  refine zET (zd (zx (zX (zX (zM (zT (zSG (TL.rn 3 rfl (TL.v (gN Tryz.underlying23) ?_)))))))))
  refine TL.val rfl rfl rfl (gives_build (v := .agg #[.int .i64 ((fr : Nat) : Int), .int .i64 (o16.length : Nat)]) rfl rfl (fun w => epsbld181_29171 _ _ w)) ?_
  refine TL.prowS (e := 181) (size := 2) (cs := flat Eps.cells [(⟨((fr : Nat) : Int), (o16.length : Nat)⟩ : Eps)]) rfl rfl rfl rfl rfl (fun w => epsbs145_1_20251 _ _ w) (by decide) rfl (fun g83 => ?_)
  refine TL.appendT (k := 2) rfl rfl rfl rfl Tryz.underlying145 epsel145 rfl rfl rfl (fun w1 hw => pm_reads hw (k := 0) rfl) (flat_one eps_cel _) (by show _ * 16 ≤ _; omega) ((out ++ [(⟨((fr : Nat) : Int), (o16.length : Nat)⟩ : Eps)]).length) (by rw [List.length_append]; rfl) (flat Eps.cells (out ++ [(⟨((fr : Nat) : Int), (o16.length : Nat)⟩ : Eps)])) ((flat_app _ _).symm) (fun A84 c84 hA841 hA842 => ?_)
  refine TL.as_ ?_
  refine zET (zx (zO (zX (zM (zT (zSG (TL.rn 3 rfl (zET (zr ?_)))))))))
  refine TX.scope_r ?_
  exact ret_pair (v1 := .slice A84 (out ++ [(⟨((fr : Nat) : Int), (o16.length : Nat)⟩ : Eps)]).length c84) (v2 := .int .i64 0) Tryz.results111 rfl rfl (fun w1 hw => ⟨⟨(((A84, c84), out ++ [(⟨((fr : Nat) : Int), (o16.length : Nat)⟩ : Eps)]), 0), fun hv _ _ => ⟨rfl, fun h => (by obtain ⟨a, ha, b, hb, hc⟩ := h; exact hfr.elim (fun ⟨h1, h2⟩ => absurd hc (ct_none hSn h1 (by omega) ((hP16.2 a).2 ⟨ha, hv a ha⟩) ((hP16.2 b).2 ⟨hb, hv b hb⟩))) (fun ⟨h1, h2, h3⟩ => (by dsimp only; rw [List.length_append]; show 2 ≤ _ + 1; omega)))⟩, hA841, hA842⟩, rfl, hw.pick [2] (by decide) rfl⟩)
 refine zET (zd (zx (zX (zX (zM (zT (zSG (TL.rn 3 rfl (zET (zr ?_))))))))))
 refine TX.scope_r ?_
 exact ret_pair (v1 := .slice Ao (out).length co) (v2 := .int .i64 0) Tryz.results111 rfl rfl (fun w1 hw => ⟨⟨(((Ao, co), out), 0), fun hv _ _ => ⟨rfl, fun h => (by obtain ⟨a, ha, b, hb, hc⟩ := h; exact hfr.elim (fun ⟨h1, h2⟩ => (by have h4 : o16 = [] := List.eq_nil_of_length_eq_zero (by omega); have h5 := (hP16.2 a).2 ⟨ha, hv a ha⟩; rw [h4] at h5; cases h5)) (fun ⟨h1, h2, h3⟩ => absurd h3 (by omega)))⟩, hoc, hom⟩, rfl, hw.pick [0] (by decide) rfl⟩)
theorem few_any (A0 : Option Addr) (c0 : Nat) (l : List Rs) (w : World) (hr : Reads w w.heap.size 17 A0 l.length (flat Rs.cells l)) (hl1 : l.length ≤ 100000) (hok : ∀ r ∈ l, r.Ok) :
  Calls Tryz.prog 59 #[.slice A0 l.length c0] w fun e w' => ∃ x : {y : Nat × Int // CutP l y.1 y.2}, e = .returned (.tuple #[.int .i64 ((x.1.1 : Nat) : Int), .int .i64 x.1.2]) ∧ Below w.heap.size w w' := by
 refine begin_ (vs := [.slice A0 l.length c0]) Tryz.func59 rfl rfl rfl ?_ (Pm.start w)
 refine zSG (TL.rn 2 rfl (zET (zSG (TL.mv ?_))))
 refine TL.pcallPm (α := {y : ((Option Addr × Nat) × List Eps) × Int // CutP l y.1.2.length y.2 ∧ y.1.2.length ≤ y.1.1.2 ∧ y.1.1.2 ≤ maxLen}) (fun x => .tuple #[.slice x.1.1.1.1 x.1.1.2.length x.1.1.1.2, .int .i64 x.1.2]) (fun x => [.row (.slice x.1.1.1.1 x.1.1.2.length x.1.1.1.2) 181 2 x.1.1.2.length (flat Eps.cells x.1.1.2)]) rfl rfl rfl rfl rfl Tryz.func111 (by decide) rfl (fun w1 hw => cut_any A0 c0 l w1 (hr.up hw.bel) hl1 hok) ?_
 rintro ⟨⟨⟨⟨Ac, cc⟩, cs⟩, z⟩, hcs, hcc, hcm⟩
 dsimp only [List.cons_append, List.nil_append]
 dsimp only at hcs hcc hcm ⊢
 refine TL.rn 5 rfl (zET (zSG (TL.mv ?_)))
 refine TL.v (gN Tryz.underlying145) ?_
 refine TL.rn 3 rfl (zET (zr ?_))
 exact ret_pair (v1 := .int .i64 ((cs.length : Nat) : Int)) (v2 := .int .i64 z) Tryz.results59 rfl rfl (fun w1 hw => ⟨⟨(cs.length, z), hcs⟩, rfl, hw.bel⟩)
theorem len_two {α : Type} : ∀ {l : List α}, l.length = 2 → ∃ a b, l = [a, b]
  | [a, b], _ => ⟨a, b, rfl⟩
section
variable {es : List En} {u : Ru} {p : Rp}
theorem ctrE_symm {a b : Rs} (h : ctrE a b = true) : ctrE b a = true := by
  unfold ctrE at h ⊢
  simp only [Bool.and_eq_true, decide_eq_true_eq] at h ⊢
  exact ⟨⟨⟨h.1.1.2, h.1.1.1⟩, h.1.2.symm⟩, fun e => h.2 e.symm⟩
theorem dt_pair {l : List Rs} (h : DtP es l p) : ∃ a ∈ l, ∃ b ∈ l, ctrE a b = true ∧ trcR a = p.trc ∧ trcR b = p.trc ∧ a.src ≠ b.src := by
  obtain ⟨_, y, ⟨x, ⟨o, ho, rfl⟩, rfl⟩, a, ha, _, b, hb, _, _, hn⟩ := h
  unfold atL at ha hb
  simp only [List.mem_filter, Bool.and_eq_true, decide_eq_true_eq] at ha hb
  obtain ⟨⟨⟨a1, a2⟩, a3, a4⟩, a5, a6⟩ := ha
  obtain ⟨⟨⟨b1, b2⟩, b3, b4⟩, b5, b6⟩ := hb
  refine ⟨a, ((ho.2 a).1 a1).1, b, ((ho.2 b).1 b1).1, ?_, a2, b2, fun e => hn e.symm⟩
  have e := a2.trans b2.symm
  unfold trcR at e
  simp only [Trc.mk.injEq] at e
  unfold ctrE placed
  rw [a5, a3, b5, b3]
  have : spotE a = spotE b := by unfold spotE; rw [e.1, e.2.1, e.2.2, a4, b4, a6, b6]
  rw [this]
  simp only [Bool.and_self, Bool.and_true, Bool.true_and, decide_true, decide_eq_true_eq]
  exact fun e => hn e.symm
theorem contra_law {m : Nat} {xs : List Rs} {a : List Idn} {f : Int} (hxs : DrawnOk m xs) (hm : m ≤ 512) (hp : PrP es xs u p) (hk : p.kind = 2) (ha : MinOk es xs u p a f) :
    f = 0 ∧ ∃ r0 r1, a = [idnR r0, idnR r1] ∧ r0 ∈ xs ∧ r1 ∈ xs ∧ ctrE r0 r1 = true ∧ trcR r0 = p.trc ∧ trcR r1 = p.trc := by
  have hok : ∀ r ∈ xs, r.Ok := fun r hr => (hxs.1 r hr).2.1
  have hv : ∀ r ∈ xs, vldRs r = true := fun r hr => (hxs.1 r hr).1
  have hi := drawn_inj hxs
  obtain ⟨o, ho⟩ := ord_ex hok
  have hol : o.length ≤ 512 := by have := ho.le; have := hxs.2.2; omega
  have hlen := (proves_law hxs hm hp ha).2.1
  obtain ⟨e1, e2, hpo⟩ := min_good ha ho hv hok hi hol hp
  have hox : ∀ r ∈ o, r ∈ xs := fun r hr => ((ho.2 r).1 hr).1
  obtain ⟨k1, k2, k3⟩ := minS_ok (fun r hr => hok r (hox r hr)) hpo
  have hsz : sizeP u p = 2 := by
    unfold sizeP
    rw [hp.1, hp.2.1, if_pos (by rfl), hk]; rfl
  rw [hsz, e2, List.length_map] at hlen
  have hl2 : (minS es u p o).length = 2 := by omega
  obtain ⟨r0, r1, hM⟩ := len_two hl2
  have hD : DtP es (minS es u p o) p := by
    obtain ⟨_, _, _, h | h | h⟩ := k2
    · have := h.1; omega
    · exact h
    · have := h.1; omega
  obtain ⟨x, hx, y, hy, hc, tx, ty, hn⟩ := dt_pair hD
  have hMx : ∀ r ∈ minS es u p o, r ∈ xs := fun r hr => hox r (k1.subset hr)
  rw [hM] at hx hy hMx
  refine ⟨e1, r0, r1, by rw [e2, hM]; rfl, hMx r0 (by simp), hMx r1 (by simp), ?_⟩
  simp only [List.mem_cons, List.not_mem_nil, or_false] at hx hy
  rcases hx with rfl | rfl <;> rcases hy with rfl | rfl
  · exact absurd rfl hn
  · exact ⟨hc, tx, ty⟩
  · exact ⟨ctrE_symm hc, ty, tx⟩
  · exact absurd rfl hn
theorem few_law {m : Nat} {xs y : List Rs} {t : Trc} {n : Nat} {z : Int} {r0 r1 : Rs} (hxs : DrawnOk m xs) (hm : m ≤ 512) (hy : IsOf xs t y) (h0 : r0 ∈ xs) (h1 : r1 ∈ xs) (t0 : trcR r0 = t) (t1 : trcR r1 = t) (hc : ctrE r0 r1 = true) (h : CutP y n z) : z = 0 ∧ 2 ≤ n := by
  have hv : ∀ r ∈ xs, vldRs r = true := fun r hr => (hxs.1 r hr).1
  have hle := hy.le_
  have hl := hxs.2.2
  obtain ⟨o, ho, rfl⟩ := hy
  have hmem : ∀ r, r ∈ (o.filter fun r => decide (trcR r = t)) ↔ r ∈ xs ∧ trcR r = t := fun r => by
    rw [List.mem_filter, ho.2, decide_eq_true_eq]
    exact ⟨fun h => ⟨h.1.1, h.2⟩, fun h => ⟨⟨h.1, hv r h.1⟩, h.2⟩⟩
  obtain ⟨k1, k2⟩ := h (fun r hr => hv r ((hmem r).1 hr).1) (fun o' ho' => by have := ho'.le; omega) (fun ts hts => by
    match ts, hts with
    | [], _ => exact Nat.zero_le _
    | [_], _ => exact Nat.le_refl _
    | a :: b :: l, hts =>
      obtain ⟨r, hr, _, ea⟩ := (hts.2 a).1 (by simp)
      obtain ⟨s, hs, _, eb⟩ := (hts.2 b).1 (by simp)
      have e : a = b := by rw [← ea, ← eb, ((hmem r).1 hr).2, ((hmem s).1 hs).2]
      have h9 := (List.pairwise_cons.1 hts.1).1 b (by simp)
      rw [e] at h9
      exact absurd h9 (ltK_irrefl (key := trk) b))
  exact ⟨k1, k2 ⟨r0, (hmem r0).2 ⟨h0, t0⟩, r1, (hmem r1).2 ⟨h1, t1⟩, hc⟩⟩
end
def FInv (u : Idn) (l : List Rs) (p : Rs × Bool) : Prop := (p = (Rs.zero, false) ∧ ∀ r ∈ l, vldRs r = true → idnR r ≠ u) ∨ (p.2 = true ∧ (p.1 ∈ l ∧ vldRs p.1 = true ∧ idnR p.1 = u) ∧ ∀ r ∈ l, vldRs r = true → idnR r = u → ¬ cmpRs r p.1 < 0)
theorem finv_all (u : Idn) : ∀ (h p : List Rs) (v : Rs × Bool), FInv u p v → FInv u (p ++ h) (h.foldl (stepF u) v)
  | [], p, v, hv => by rw [List.append_nil]; exact hv
  | r :: h, p, v, hv => by
    have hs : FInv u (p ++ [r]) (stepF u v r) := by
      have hm : ∀ {x : Rs}, x ∈ p ++ [r] ↔ x ∈ p ∨ x = r := by intro x; rw [List.mem_append, List.mem_singleton]
      unfold stepF
      by_cases hf : fitF u v r = true
      · rw [if_pos hf]
        unfold fitF at hf
        simp only [Bool.and_eq_true, decide_eq_true_eq, Bool.or_eq_true, Bool.not_eq_true'] at hf
        obtain ⟨⟨h1, h2⟩, h3⟩ := hf
        refine .inr ⟨rfl, ⟨hm.2 (.inr rfl), h3, h1⟩, fun x hx hx1 hx2 hx3 => ?_⟩
        rcases hm.1 hx with h4 | h4
        · rcases hv with ⟨rfl, k1⟩ | ⟨k1, ⟨k2, k3, k4⟩, k5⟩
          · exact k1 x h4 hx1 hx2
          · rcases h2 with h2 | h2
            · rw [k1] at h2; cases h2
            · exact k5 x h4 hx1 hx2 (ltK_trans (key := Rs.keys) keys_len hx3 h2)
        · rw [h4] at hx3; exact ltK_irrefl (key := Rs.keys) r hx3
      · rw [if_neg hf]
        unfold fitF at hf
        simp only [Bool.and_eq_true, decide_eq_true_eq, Bool.or_eq_true, Bool.not_eq_true'] at hf
        rcases hv with ⟨rfl, k1⟩ | ⟨k1, ⟨k2, k3, k4⟩, k5⟩
        · refine .inl ⟨rfl, fun x hx hx1 hx2 => ?_⟩
          rcases hm.1 hx with h4 | h4
          · exact k1 x h4 hx1 hx2
          · rw [h4] at hx1 hx2; exact hf ⟨⟨hx2, .inl rfl⟩, hx1⟩
        · refine .inr ⟨k1, ⟨hm.2 (.inl k2), k3, k4⟩, fun x hx hx1 hx2 hx3 => ?_⟩
          rcases hm.1 hx with h4 | h4
          · exact k5 x h4 hx1 hx2 hx3
          · rw [h4] at hx1 hx2 hx3; exact hf ⟨⟨hx2, .inr hx3⟩, hx1⟩
    have := finv_all u h (p ++ [r]) (stepF u v r) hs
    rwa [List.append_assoc] at this
theorem finv (l : List Rs) (u : Idn) : FInv u l (findS l u) := finv_all u l [] (Rs.zero, false) (.inl ⟨rfl, fun r hr => absurd hr List.not_mem_nil⟩)
theorem find_eq {l o : List Rs} {u : Idn} (h : IsOrd l o) : rfindS o u = findS l u := by
  unfold rfindS
  rcases hf : o.find? (fun r => decide (idnR r = u)) with _ | r
  · rcases finv l u with ⟨e, _⟩ | ⟨_, ⟨h2, h3, h4⟩, _⟩
    · exact e.symm
    · have := List.find?_eq_none.1 hf _ ((h.2 _).2 ⟨h2, h3⟩)
      exact absurd (decide_eq_true h4) this
  · have h1 := List.find?_some hf
    have h2 := of_decide_eq_true h1
    obtain ⟨ys, zs, ho, has⟩ := (List.find?_eq_some_iff_append.1 hf).2
    have hr : r ∈ o := by rw [ho]; exact List.mem_append_right _ List.mem_cons_self
    have hr2 := (h.2 r).1 hr
    rcases finv l u with ⟨_, k⟩ | ⟨k1, ⟨k2, k3, k4⟩, k5⟩
    · exact absurd h2 (k r hr2.1 hr2.2)
    · have hb : (findS l u).1 ∈ o := (h.2 _).2 ⟨k2, k3⟩
      have e : (findS l u).1 = r := by
        rw [ho] at hb
        rcases List.mem_append.1 hb with h5 | h5
        · have h6 := has _ h5
          simp [k4] at h6
        · rcases List.mem_cons.1 h5 with h5 | h5
          · exact h5
          · have h6 := h.1
            rw [ho] at h6
            have h7 := (List.pairwise_cons.1 (List.pairwise_append.1 h6).2.1).1 _ h5
            exact absurd h7 (k5 r hr2.1 hr2.2 h2)
      show (r, true) = findS l u
      rw [← e, ← k1]
set_option maxRecDepth 20000
theorem mem_ins {es : List En} {k : Nat} {x z : En} (h : z ∈ es.take k ++ [x] ++ es.drop k) : z ∈ es ∨ z = x := by
 rcases List.mem_append.1 h with h | h
 ·rcases List.mem_append.1 h with h | h
  ·exact .inl (List.mem_of_mem_take h)
  exact .inr (List.mem_singleton.1 h)
 exact .inl (List.mem_of_mem_drop h)
def shlF (a n : Int) : Int := IntKind.u32.wrap (a / 2 ^ (32 - n).toNat * 2 ^ (32 - n).toNat)
def lens : List Int := [8, 24, 28, 29, 30, 30, 31, 32]
def EnG (e : En) : Prop := (167772160 ≤ e.addr ∧ e.addr < 184549376) ∧ e.len ∈ lens ∧ 1 ≤ e.prov ∧ e.prov ≤ 4
theorem EnG.ok {e : En} (h : EnG e) : e.Ok := ⟨by have := h.1.1; omega, by have := h.1.2; omega⟩
theorem shl_rng {a n : Int} (ha : 167772161 ≤ a ∧ a ≤ 167772173) (hn : n ∈ lens) : 167772160 ≤ shlF a n ∧ shlF a n < 184549376 := by
 have key : ∀ k : Int, 0 < k → k ≤ 16777216 → 167772160 % k = 0 → 167772160 ≤ IntKind.u32.wrap (a / k * k) ∧ IntKind.u32.wrap (a / k * k) < 184549376 := fun k h0 h1 h2 => by
  have e1 : a / k * k ≤ a := Int.ediv_mul_le a (by omega)
  have e2 : 167772160 ≤ a / k * k := by
   have h3 : 167772160 / k * k = 167772160 := Int.ediv_mul_cancel (Int.dvd_of_emod_eq_zero h2)
   have h4 : 167772160 / k ≤ a / k := Int.ediv_le_ediv h0 (by omega)
   have h5 := Int.mul_le_mul_of_nonneg_right h4 (Int.le_of_lt h0)
   omega
  rw [IntKind.wrap_u32]
  omega
 simp only [lens, List.mem_cons, List.not_mem_nil, or_false] at hn
 unfold shlF
 rcases hn with rfl | rfl | rfl | rfl | rfl | rfl | rfl | rfl
 ·exact key 16777216 (by decide) (by decide) (by decide)
 ·exact key 256 (by decide) (by decide) (by decide)
 ·exact key 16 (by decide) (by decide) (by decide)
 ·exact key 8 (by decide) (by decide) (by decide)
 ·exact key 4 (by decide) (by decide) (by decide)
 ·exact key 4 (by decide) (by decide) (by decide)
 ·exact key 2 (by decide) (by decide) (by decide)
 exact key 1 (by decide) (by decide) (by decide)
theorem EnG.mk_ {a n f t : Int} {p : Nat} (ha : 167772161 ≤ a ∧ a ≤ 167772173) (hn : n ∈ lens) (hp : p < 4) : EnG ⟨shlF a n, n, 1 + ((p : Nat) : Int), f, t⟩ :=
 ⟨shl_rng ha hn, hn, by show 1 ≤ 1 + (p : Int); omega, by show 1 + (p : Int) ≤ 4; omega⟩
theorem brabld100_29152 (a0_0 : Int) (a1_0 : Int) (w : World) : (Instr.build 100 #[(0, .int .u32 a0_0), (1, .int .i64 a1_0)]).run Tryz.prog w = .ok (.agg #[.int .u32 a0_0, .int .i64 a1_0]) w := by kernel_rfl
theorem brabs106_5_22075 (a0_0 : Int) (a1_0 : Int) (a2_0 : Int) (a3_0 : Int) (a4_0 : Int) (w : World) : (Instr.buildSlice 106 5 #[(0, .int .i64 a0_0), (1, .int .i64 a1_0), (2, .int .i64 a2_0), (3, .int .i64 a3_0), (4, .int .i64 a4_0)]).run Tryz.prog w = .ok (.slice (some ⟨w.heap.size, 0, none⟩) 5 5) (w.alloc (.cells [.int .i64 a0_0, .int .i64 a1_0, .int .i64 a2_0, .int .i64 a3_0, .int .i64 a4_0].toArray 3)) := by kernel_rfl
theorem brabld102_2016 (a0_0 : Int) (a0_1 : Int) (a1_0 : Int) (a2_0 : Int) (w : World) : (Instr.build 102 #[(0, .agg #[.int .u32 a0_0, .int .i64 a0_1]), (1, .int .i64 a1_0), (2, .int .i64 a2_0)]).run Tryz.prog w = .ok (.agg #[.int .u32 a0_0, .int .i64 a0_1, .int .i64 a1_0, .int .i64 a2_0, .int .i64 0]) w := by kernel_rfl
theorem brabs106_4_78574 (a0_0 : Int) (a1_0 : Int) (a2_0 : Int) (a3_0 : Int) (w : World) : (Instr.buildSlice 106 4 #[(0, .int .i64 a0_0), (1, .int .i64 a1_0), (2, .int .i64 a2_0), (3, .int .i64 a3_0)]).run Tryz.prog w = .ok (.slice (some ⟨w.heap.size, 0, none⟩) 4 4) (w.alloc (.cells [.int .i64 a0_0, .int .i64 a1_0, .int .i64 a2_0, .int .i64 a3_0].toArray 3)) := by kernel_rfl
theorem entry_cod (cb : Nat) (w : World) (hC : Cod w cb) :
  Calls Tryz.prog 65 #[.pointer (some ⟨cb, 0, none⟩)] w fun e w' => ∃ x : {y : En // EnG y}, e = .returned (.agg x.1.cells.toArray) ∧ Codr (fun w => Cod w cb) cb w ([]) w' := by
 refine begin_ (vs := [.pointer (some ⟨cb, 0, none⟩)]) (I := Pm ⟨w, cb⟩ (.abs cb (fun w => Cod w cb) :: oths cb w)) Tryz.func65 rfl rfl rfl ?_ (Pm.codes hC (cod_cells hC) (cod_stab cb))
 refine zSG ?_
 refine TL.pnew rfl rfl rfl (exec_alloc (cs := [.int .u32 0, .int .i64 0, .int .i64 0, .int .i64 0, .int .i64 0]) rfl brezv102 rfl) (fun g2 => ?_)
 refine zET (zSG (TL.mv ?_))
 refine TL.prowS (e := 3) (size := 1) (cs := flat (ic .i64) [8, 24, 28, 29, 30, 30, 31, 32]) rfl rfl rfl rfl rfl (fun w => arpbs106_8_10220 _ _ _ _ _ _ _ _ w) (by decide) rfl (fun g7 => ?_)
 refine TL.pcallCod (k := 2) (α := {v : Int // v ∈ ([8, 24, 28, 29, 30, 30, 31, 32] : List Int)}) (fun x => .int .i64 x.1) (fun x => []) rfl rfl rfl rfl rfl Tryz.func22 (by decide) rfl rfl (fun w1 hw hC1 => pick_cod cb w1 hC1 g7 8 ([8, 24, 28, 29, 30, 30, 31, 32]) (hw.neq (i := 0) (j := 2) rfl rfl (by decide) g7 rfl <| congrArg some ·.symm) (Pc.lt (hw.at_ (k := 0) rfl) g7 rfl).2 (by show 0 < ([8, 24, 28, 29, 30, 30, 31, 32] : List Int).length; simp) (fun i v hi => flat_row1 hw (q := 0) rfl hi)) ?_
 rintro ⟨n, hn⟩
 dsimp only [List.cons_append, List.nil_append]
 have hn8 : 8 ≤ n ∧ n ≤ 32 := by simp only [List.mem_cons, List.not_mem_nil, or_false] at hn; omega
 refine TL.as_ ?_
 refine zET (zSG (TL.mv ?_))
 refine TL.pcallCod (k := 2) (α := {a : Int // 167772161 ≤ a ∧ a ≤ 167772173}) (fun x => .int .u32 x.1) (fun x => []) rfl rfl rfl rfl rfl Tryz.func67 (by decide) rfl rfl (fun w1 hw hC1 => daddr_cod cb w1 hC1) ?_
 rintro ⟨a, ha1, ha2⟩
 dsimp only [List.cons_append, List.nil_append]
 refine TL.as_ ?_
 refine zET ?_
 refine TC.join (α := {y : Nat × Nat × Int // y.2.1 < 4}) (fun y => [(0, .pointer (some ⟨cb, 0, none⟩)), (2, .pointer (some ⟨g2, 0, none⟩)), (5, .pointer (some ⟨y.1.1, 0, none⟩))]) (fun y => Pm ⟨w, cb⟩ ([.blk y.1.1 102 [.int .u32 (shlF a n), .int .i64 n, .int .i64 (1 + ((y.1.2.1 : Nat) : Int)), .int .i64 y.1.2.2, .int .i64 0], .blk g2 102 [.int .u32 0, .int .i64 0, .int .i64 0, .int .i64 0, .int .i64 0], .abs cb (fun w => Cod w cb)] ++ oths cb w)) ?_ ?_
 ·refine TC.held (ls := #[Ff,Ff,Ff,Ff,Ff,Ff,Ff,Ff,Ff,Ff,Ff,Ff,Ff,Ff,Ff,Ff,Ff,Ff]) (Pm ⟨w, cb⟩ []) (by kernel_rfl) rfl rfl (fun w hw => hw.drawn _) ?_
  refine TH.tk 0 rfl rfl rfl (gives_move rfl rfl) (fun w1 hw => hw.pick [] (by decide) rfl) ?_
  refine TH.tk 1 rfl rfl rfl (gives_move rfl rfl) (fun w1 hw => hw.pick [] (by decide) rfl) ?_
  refine TH.tk 2 rfl rfl rfl (gives_bin rfl rfl rfl (fun w => bin_sub_ (r := 32 - n) (by simp only [IntKind.wrap_i64]; omega) w)) (fun w1 hw => hw.pick [] (by decide) rfl) ?_
  refine TH.tk 3 rfl rfl rfl (gives_bin (v := .int .u32 (a / 2 ^ (32 - n).toNat)) rfl rfl rfl (fun w => bin_shr (2 ^ (32 - n).toNat) (by omega) (by simp only [IntKind.bits]; omega) rfl w)) (fun w1 hw => hw.pick [] (by decide) rfl) ?_
  refine TH.tk 4 rfl rfl rfl (gives_move rfl rfl) (fun w1 hw => hw.pick [] (by decide) rfl) ?_
  refine TH.tk 5 rfl rfl rfl (gives_bin rfl rfl rfl (fun w => bin_sub_ (r := 32 - n) (by simp only [IntKind.wrap_i64]; omega) w)) (fun w1 hw => hw.pick [] (by decide) rfl) ?_
  refine TH.tk 6 rfl rfl rfl (gives_bin (v := .int .u32 (shlF a n)) rfl rfl rfl (fun w => bin_shl (2 ^ (32 - n).toNat) (by omega) (by simp only [IntKind.bits]; omega) rfl w)) (fun w1 hw => hw.pick [] (by decide) rfl) ?_
  refine TH.tk 7 rfl rfl rfl (gives_move rfl rfl) (fun w1 hw => hw.pick [] (by decide) rfl) ?_
  refine TH.tk 8 rfl rfl rfl (gives_build (v := .agg #[.int .u32 (shlF a n), .int .i64 n]) rfl rfl (fun w => brabld100_29152 _ _ w)) (fun w1 hw => hw.pick [] (by decide) rfl) ?_
  refine TH.tk 9 rfl rfl rfl (gives_move rfl rfl) (fun w1 hw => hw.pick [] (by decide) rfl) ?_
  refine TH.tk 12 rfl rfl rfl (gives_move rfl rfl) (fun w1 hw => hw.pick [] (by decide) rfl) ?_
  refine TH.three (l1 := #[Tt,Tt,Tt,Tt,Tt,Tt,Tt,Tt,Tt,Tt,Tt,Ff,Tt,Ff,Ff,Ff,Ff,Ff]) (l2 := #[Tt,Tt,Tt,Tt,Tt,Tt,Tt,Tt,Tt,Tt,Ff,Ff,Tt,Tt,Ff,Ff,Ff,Ff]) (l3 := #[Tt,Tt,Tt,Tt,Tt,Tt,Tt,Tt,Tt,Tt,Ff,Ff,Tt,Ff,Ff,Ff,Tt,Ff]) 10 13 16 rfl rfl rfl (by kernel_rfl) rfl rfl rfl rfl rfl rfl ?_ ?_ ?_
  ·refine TL.pcallCod (k := 2) (α := {q9 : Nat // q9 ≤ 65535 ∧ (1 ≤ (4 : Int) → (q9 : Int) < 4)}) (fun q9 => .int .i64 ((q9.1 : Nat) : Int)) (fun q9 => []) rfl rfl rfl rfl rfl Tryz.func21 (by decide) rfl rfl (fun w1 hw hC1 => next_cod cb w1 4 hC1) ?_
   rintro ⟨k21, hk211, hk212⟩
   dsimp only [List.cons_append, List.nil_append]
   refine zE ?_
   refine TX.he (fun w1 hw => hw.pick [] (by decide) rfl) fun hS => ?_
   refine TH.t 11 rfl (gD (1 + ((k21 : Nat) : Int))) hS ?_
   refine TH.two' (listed1 := #[Tt,Tt,Tt,Tt,Tt,Tt,Tt,Tt,Tt,Tt,Tt,Tt,Tt,Tt,Ff,Ff,Ff,Ff]) (listed2 := #[Tt,Tt,Tt,Tt,Tt,Tt,Tt,Tt,Tt,Tt,Tt,Tt,Tt,Ff,Ff,Ff,Tt,Ff]) 13 16 rfl rfl (by kernel_rfl) rfl rfl ?_ ?_
   ·refine TL.prowS (e := 3) (size := 1) (cs := flat (ic .i64) [0, 0, 0, 50, 300]) rfl rfl rfl rfl rfl (fun w => brabs106_5_22075 _ _ _ _ _ w) (by decide) rfl (fun g24 => ?_)
    refine zE ?_
    refine TX.held (fun w1 hw => hw.pick [] (by decide) rfl) ?_
    refine TH.two' (listed1 := #[Tt,Tt,Tt,Tt,Tt,Tt,Tt,Tt,Tt,Tt,Tt,Tt,Tt,Tt,Tt,Ff,Ff,Ff]) (listed2 := #[Tt,Tt,Tt,Tt,Tt,Tt,Tt,Tt,Tt,Tt,Tt,Tt,Tt,Tt,Ff,Ff,Tt,Ff]) 14 16 rfl rfl (by kernel_rfl) rfl rfl ?_ ?_
    ·refine TL.pcallCod (k := 3) (α := {v : Int // v ∈ ([0, 0, 0, 50, 300] : List Int)}) (fun x => .int .i64 x.1) (fun x => []) rfl rfl rfl rfl rfl Tryz.func22 (by decide) rfl rfl (fun w1 hw hC1 => pick_cod cb w1 hC1 g24 5 ([0, 0, 0, 50, 300]) (hw.neq (i := 0) (j := 3) rfl rfl (by decide) g24 rfl <| congrArg some ·.symm) (Pc.lt (hw.at_ (k := 0) rfl) g24 rfl).2 (by show 0 < ([0, 0, 0, 50, 300] : List Int).length; simp) (fun i v hi => flat_row1 hw (q := 0) rfl hi)) ?_
     rintro ⟨v25, hv25⟩
     dsimp only [List.cons_append, List.nil_append]
     refine zE ?_
     refine TX.he (fun w1 hw => hw.pick [] (by decide) rfl) fun hS => ?_
     refine TH.t 15 rfl (gives_build (v := .agg #[.int .u32 (shlF a n), .int .i64 n, .int .i64 (1 + ((k21 : Nat) : Int)), .int .i64 v25, .int .i64 0]) rfl rfl (fun w => brabld102_2016 _ _ _ _ w)) hS ?_
     refine TH.only' 16 rfl (by kernel_rfl) rfl ?_
     refine TL.pnew rfl rfl rfl (exec_alloc (cs := [.int .u32 0, .int .i64 0, .int .i64 0, .int .i64 0, .int .i64 0]) rfl brezv102 rfl) (fun g5 => ?_)
     refine zE ?_
     refine TX.held (fun w1 hw => hw.pick [] (by decide) rfl) ?_
     refine TH.only' 17 rfl (by kernel_rfl) rfl ?_
     refine TL.pstore (k := 0) (vs := [.int .u32 (shlF a n), .int .i64 n, .int .i64 (1 + ((k21 : Nat) : Int)), .int .i64 v25, .int .i64 0]) rfl rfl rfl rfl rfl rfl rfl bresz102 breone_u32i64i64i64i64 (by show 5 ≤ 5; decide) rfl ?_
     refine zE ?_
     refine TX.held (fun w1 hw => hw.pick [] (by decide) rfl) ?_
     refine TH.done (by kernel_rfl) ?_
     exact TX.joined (⟨(g5, k21, v25), by dsimp only; omega⟩) (⟨rfl, rfl, rfl, trivial⟩) (fun w1 hw => hw.sel (.cons_cons _ (.cons _ (.cons _ (.cons_cons _ (.cons_cons _ (List.Sublist.refl _)))))))
    refine TL.pnew rfl rfl rfl (exec_alloc (cs := [.int .u32 0, .int .i64 0, .int .i64 0, .int .i64 0, .int .i64 0]) rfl brezv102 rfl) (fun g5 => ?_)
    refine zE ?_
    refine TX.held (fun w1 hw => hw.pick [] (by decide) rfl) ?_
    refine TH.only' 14 rfl (by kernel_rfl) rfl ?_
    refine TL.pcallCod (k := 4) (α := {v : Int // v ∈ ([0, 0, 0, 50, 300] : List Int)}) (fun x => .int .i64 x.1) (fun x => []) rfl rfl rfl rfl rfl Tryz.func22 (by decide) rfl rfl (fun w1 hw hC1 => pick_cod cb w1 hC1 g24 5 ([0, 0, 0, 50, 300]) (hw.neq (i := 1) (j := 4) rfl rfl (by decide) g24 rfl <| congrArg some ·.symm) (Pc.lt (hw.at_ (k := 1) rfl) g24 rfl).2 (by show 0 < ([0, 0, 0, 50, 300] : List Int).length; simp) (fun i v hi => flat_row1 hw (q := 1) rfl hi)) ?_
    rintro ⟨v25, hv25⟩
    dsimp only [List.cons_append, List.nil_append]
    refine zE ?_
    refine TX.he (fun w1 hw => hw.pick [] (by decide) rfl) fun hS => ?_
    refine TH.t 15 rfl (gives_build (v := .agg #[.int .u32 (shlF a n), .int .i64 n, .int .i64 (1 + ((k21 : Nat) : Int)), .int .i64 v25, .int .i64 0]) rfl rfl (fun w => brabld102_2016 _ _ _ _ w)) hS ?_
    refine TH.only' 17 rfl (by kernel_rfl) rfl ?_
    refine TL.pstore (k := 0) (vs := [.int .u32 (shlF a n), .int .i64 n, .int .i64 (1 + ((k21 : Nat) : Int)), .int .i64 v25, .int .i64 0]) rfl rfl rfl rfl rfl rfl rfl bresz102 breone_u32i64i64i64i64 (by show 5 ≤ 5; decide) rfl ?_
    refine zE ?_
    refine TX.held (fun w1 hw => hw.pick [] (by decide) rfl) ?_
    refine TH.done (by kernel_rfl) ?_
    exact TX.joined (⟨(g5, k21, v25), by dsimp only; omega⟩) (⟨rfl, rfl, rfl, trivial⟩) (fun w1 hw => hw.sel (.cons_cons _ (.cons _ (.cons _ (.cons_cons _ (.cons_cons _ (List.Sublist.refl _)))))))
   refine TL.pnew rfl rfl rfl (exec_alloc (cs := [.int .u32 0, .int .i64 0, .int .i64 0, .int .i64 0, .int .i64 0]) rfl brezv102 rfl) (fun g5 => ?_)
   refine zE ?_
   refine TX.held (fun w1 hw => hw.pick [] (by decide) rfl) ?_
   refine TH.only' 13 rfl (by kernel_rfl) rfl ?_
   refine TL.prowS (e := 3) (size := 1) (cs := flat (ic .i64) [0, 0, 0, 50, 300]) rfl rfl rfl rfl rfl (fun w => brabs106_5_22075 _ _ _ _ _ w) (by decide) rfl (fun g24 => ?_)
   refine zE ?_
   refine TX.held (fun w1 hw => hw.pick [] (by decide) rfl) ?_
   refine TH.only' 14 rfl (by kernel_rfl) rfl ?_
   refine TL.pcallCod (k := 4) (α := {v : Int // v ∈ ([0, 0, 0, 50, 300] : List Int)}) (fun x => .int .i64 x.1) (fun x => []) rfl rfl rfl rfl rfl Tryz.func22 (by decide) rfl rfl (fun w1 hw hC1 => pick_cod cb w1 hC1 g24 5 ([0, 0, 0, 50, 300]) (hw.neq (i := 0) (j := 4) rfl rfl (by decide) g24 rfl <| congrArg some ·.symm) (Pc.lt (hw.at_ (k := 0) rfl) g24 rfl).2 (by show 0 < ([0, 0, 0, 50, 300] : List Int).length; simp) (fun i v hi => flat_row1 hw (q := 0) rfl hi)) ?_
   rintro ⟨v25, hv25⟩
   dsimp only [List.cons_append, List.nil_append]
   refine zE ?_
   refine TX.he (fun w1 hw => hw.pick [] (by decide) rfl) fun hS => ?_
   refine TH.t 15 rfl (gives_build (v := .agg #[.int .u32 (shlF a n), .int .i64 n, .int .i64 (1 + ((k21 : Nat) : Int)), .int .i64 v25, .int .i64 0]) rfl rfl (fun w => brabld102_2016 _ _ _ _ w)) hS ?_
   refine TH.only' 17 rfl (by kernel_rfl) rfl ?_
   refine TL.pstore (k := 1) (vs := [.int .u32 (shlF a n), .int .i64 n, .int .i64 (1 + ((k21 : Nat) : Int)), .int .i64 v25, .int .i64 0]) rfl rfl rfl rfl rfl rfl rfl bresz102 breone_u32i64i64i64i64 (by show 5 ≤ 5; decide) rfl ?_
   refine zE ?_
   refine TX.held (fun w1 hw => hw.pick [] (by decide) rfl) ?_
   refine TH.done (by kernel_rfl) ?_
   exact TX.joined (⟨(g5, k21, v25), by dsimp only; omega⟩) (⟨rfl, rfl, rfl, trivial⟩) (fun w1 hw => hw.sel (.cons _ (.cons_cons _ (.cons _ (.cons_cons _ (.cons_cons _ (List.Sublist.refl _)))))))
  ·refine TL.prowS (e := 3) (size := 1) (cs := flat (ic .i64) [0, 0, 0, 50, 300]) rfl rfl rfl rfl rfl (fun w => brabs106_5_22075 _ _ _ _ _ w) (by decide) rfl (fun g24 => ?_)
   refine zE ?_
   refine TX.held (fun w1 hw => hw.pick [] (by decide) rfl) ?_
   refine TH.two' (listed1 := #[Tt,Tt,Tt,Tt,Tt,Tt,Tt,Tt,Tt,Tt,Tt,Ff,Tt,Tt,Ff,Ff,Ff,Ff]) (listed2 := #[Tt,Tt,Tt,Tt,Tt,Tt,Tt,Tt,Tt,Tt,Ff,Ff,Tt,Tt,Ff,Ff,Tt,Ff]) 10 16 rfl rfl (by kernel_rfl) rfl rfl ?_ ?_
   ·refine TL.pcallCod (k := 3) (α := {q9 : Nat // q9 ≤ 65535 ∧ (1 ≤ (4 : Int) → (q9 : Int) < 4)}) (fun q9 => .int .i64 ((q9.1 : Nat) : Int)) (fun q9 => []) rfl rfl rfl rfl rfl Tryz.func21 (by decide) rfl rfl (fun w1 hw hC1 => next_cod cb w1 4 hC1) ?_
    rintro ⟨k21, hk211, hk212⟩
    dsimp only [List.cons_append, List.nil_append]
    refine zE ?_
    refine TX.he (fun w1 hw => hw.pick [] (by decide) rfl) fun hS => ?_
    refine TH.t 11 rfl (gD (1 + ((k21 : Nat) : Int))) hS ?_
    refine TH.two' (listed1 := #[Tt,Tt,Tt,Tt,Tt,Tt,Tt,Tt,Tt,Tt,Tt,Tt,Tt,Tt,Tt,Ff,Ff,Ff]) (listed2 := #[Tt,Tt,Tt,Tt,Tt,Tt,Tt,Tt,Tt,Tt,Tt,Tt,Tt,Tt,Ff,Ff,Tt,Ff]) 14 16 rfl rfl (by kernel_rfl) rfl rfl ?_ ?_
    ·refine TL.pcallCod (k := 3) (α := {v : Int // v ∈ ([0, 0, 0, 50, 300] : List Int)}) (fun x => .int .i64 x.1) (fun x => []) rfl rfl rfl rfl rfl Tryz.func22 (by decide) rfl rfl (fun w1 hw hC1 => pick_cod cb w1 hC1 g24 5 ([0, 0, 0, 50, 300]) (hw.neq (i := 0) (j := 3) rfl rfl (by decide) g24 rfl <| congrArg some ·.symm) (Pc.lt (hw.at_ (k := 0) rfl) g24 rfl).2 (by show 0 < ([0, 0, 0, 50, 300] : List Int).length; simp) (fun i v hi => flat_row1 hw (q := 0) rfl hi)) ?_
     rintro ⟨v25, hv25⟩
     dsimp only [List.cons_append, List.nil_append]
     refine zE ?_
     refine TX.he (fun w1 hw => hw.pick [] (by decide) rfl) fun hS => ?_
     refine TH.t 15 rfl (gives_build (v := .agg #[.int .u32 (shlF a n), .int .i64 n, .int .i64 (1 + ((k21 : Nat) : Int)), .int .i64 v25, .int .i64 0]) rfl rfl (fun w => brabld102_2016 _ _ _ _ w)) hS ?_
     refine TH.only' 16 rfl (by kernel_rfl) rfl ?_
     refine TL.pnew rfl rfl rfl (exec_alloc (cs := [.int .u32 0, .int .i64 0, .int .i64 0, .int .i64 0, .int .i64 0]) rfl brezv102 rfl) (fun g5 => ?_)
     refine zE ?_
     refine TX.held (fun w1 hw => hw.pick [] (by decide) rfl) ?_
     refine TH.only' 17 rfl (by kernel_rfl) rfl ?_
     refine TL.pstore (k := 0) (vs := [.int .u32 (shlF a n), .int .i64 n, .int .i64 (1 + ((k21 : Nat) : Int)), .int .i64 v25, .int .i64 0]) rfl rfl rfl rfl rfl rfl rfl bresz102 breone_u32i64i64i64i64 (by show 5 ≤ 5; decide) rfl ?_
     refine zE ?_
     refine TX.held (fun w1 hw => hw.pick [] (by decide) rfl) ?_
     refine TH.done (by kernel_rfl) ?_
     exact TX.joined (⟨(g5, k21, v25), by dsimp only; omega⟩) (⟨rfl, rfl, rfl, trivial⟩) (fun w1 hw => hw.sel (.cons_cons _ (.cons _ (.cons _ (.cons_cons _ (.cons_cons _ (List.Sublist.refl _)))))))
    refine TL.pnew rfl rfl rfl (exec_alloc (cs := [.int .u32 0, .int .i64 0, .int .i64 0, .int .i64 0, .int .i64 0]) rfl brezv102 rfl) (fun g5 => ?_)
    refine zE ?_
    refine TX.held (fun w1 hw => hw.pick [] (by decide) rfl) ?_
    refine TH.only' 14 rfl (by kernel_rfl) rfl ?_
    refine TL.pcallCod (k := 4) (α := {v : Int // v ∈ ([0, 0, 0, 50, 300] : List Int)}) (fun x => .int .i64 x.1) (fun x => []) rfl rfl rfl rfl rfl Tryz.func22 (by decide) rfl rfl (fun w1 hw hC1 => pick_cod cb w1 hC1 g24 5 ([0, 0, 0, 50, 300]) (hw.neq (i := 1) (j := 4) rfl rfl (by decide) g24 rfl <| congrArg some ·.symm) (Pc.lt (hw.at_ (k := 1) rfl) g24 rfl).2 (by show 0 < ([0, 0, 0, 50, 300] : List Int).length; simp) (fun i v hi => flat_row1 hw (q := 1) rfl hi)) ?_
    rintro ⟨v25, hv25⟩
    dsimp only [List.cons_append, List.nil_append]
    refine zE ?_
    refine TX.he (fun w1 hw => hw.pick [] (by decide) rfl) fun hS => ?_
    refine TH.t 15 rfl (gives_build (v := .agg #[.int .u32 (shlF a n), .int .i64 n, .int .i64 (1 + ((k21 : Nat) : Int)), .int .i64 v25, .int .i64 0]) rfl rfl (fun w => brabld102_2016 _ _ _ _ w)) hS ?_
    refine TH.only' 17 rfl (by kernel_rfl) rfl ?_
    refine TL.pstore (k := 0) (vs := [.int .u32 (shlF a n), .int .i64 n, .int .i64 (1 + ((k21 : Nat) : Int)), .int .i64 v25, .int .i64 0]) rfl rfl rfl rfl rfl rfl rfl bresz102 breone_u32i64i64i64i64 (by show 5 ≤ 5; decide) rfl ?_
    refine zE ?_
    refine TX.held (fun w1 hw => hw.pick [] (by decide) rfl) ?_
    refine TH.done (by kernel_rfl) ?_
    exact TX.joined (⟨(g5, k21, v25), by dsimp only; omega⟩) (⟨rfl, rfl, rfl, trivial⟩) (fun w1 hw => hw.sel (.cons_cons _ (.cons _ (.cons _ (.cons_cons _ (.cons_cons _ (List.Sublist.refl _)))))))
   refine TL.pnew rfl rfl rfl (exec_alloc (cs := [.int .u32 0, .int .i64 0, .int .i64 0, .int .i64 0, .int .i64 0]) rfl brezv102 rfl) (fun g5 => ?_)
   refine zE ?_
   refine TX.held (fun w1 hw => hw.pick [] (by decide) rfl) ?_
   refine TH.only' 10 rfl (by kernel_rfl) rfl ?_
   refine TL.pcallCod (k := 4) (α := {q9 : Nat // q9 ≤ 65535 ∧ (1 ≤ (4 : Int) → (q9 : Int) < 4)}) (fun q9 => .int .i64 ((q9.1 : Nat) : Int)) (fun q9 => []) rfl rfl rfl rfl rfl Tryz.func21 (by decide) rfl rfl (fun w1 hw hC1 => next_cod cb w1 4 hC1) ?_
   rintro ⟨k21, hk211, hk212⟩
   dsimp only [List.cons_append, List.nil_append]
   refine zE ?_
   refine TX.he (fun w1 hw => hw.pick [] (by decide) rfl) fun hS => ?_
   refine TH.t 11 rfl (gD (1 + ((k21 : Nat) : Int))) hS ?_
   refine TH.only' 14 rfl (by kernel_rfl) rfl ?_
   refine TL.pcallCod (k := 4) (α := {v : Int // v ∈ ([0, 0, 0, 50, 300] : List Int)}) (fun x => .int .i64 x.1) (fun x => []) rfl rfl rfl rfl rfl Tryz.func22 (by decide) rfl rfl (fun w1 hw hC1 => pick_cod cb w1 hC1 g24 5 ([0, 0, 0, 50, 300]) (hw.neq (i := 1) (j := 4) rfl rfl (by decide) g24 rfl <| congrArg some ·.symm) (Pc.lt (hw.at_ (k := 1) rfl) g24 rfl).2 (by show 0 < ([0, 0, 0, 50, 300] : List Int).length; simp) (fun i v hi => flat_row1 hw (q := 1) rfl hi)) ?_
   rintro ⟨v25, hv25⟩
   dsimp only [List.cons_append, List.nil_append]
   refine zE ?_
   refine TX.he (fun w1 hw => hw.pick [] (by decide) rfl) fun hS => ?_
   refine TH.t 15 rfl (gives_build (v := .agg #[.int .u32 (shlF a n), .int .i64 n, .int .i64 (1 + ((k21 : Nat) : Int)), .int .i64 v25, .int .i64 0]) rfl rfl (fun w => brabld102_2016 _ _ _ _ w)) hS ?_
   refine TH.only' 17 rfl (by kernel_rfl) rfl ?_
   refine TL.pstore (k := 0) (vs := [.int .u32 (shlF a n), .int .i64 n, .int .i64 (1 + ((k21 : Nat) : Int)), .int .i64 v25, .int .i64 0]) rfl rfl rfl rfl rfl rfl rfl bresz102 breone_u32i64i64i64i64 (by show 5 ≤ 5; decide) rfl ?_
   refine zE ?_
   refine TX.held (fun w1 hw => hw.pick [] (by decide) rfl) ?_
   refine TH.done (by kernel_rfl) ?_
   exact TX.joined (⟨(g5, k21, v25), by dsimp only; omega⟩) (⟨rfl, rfl, rfl, trivial⟩) (fun w1 hw => hw.sel (.cons_cons _ (.cons _ (.cons _ (.cons_cons _ (.cons_cons _ (List.Sublist.refl _)))))))
  refine TL.pnew rfl rfl rfl (exec_alloc (cs := [.int .u32 0, .int .i64 0, .int .i64 0, .int .i64 0, .int .i64 0]) rfl brezv102 rfl) (fun g5 => ?_)
  refine zE ?_
  refine TX.held (fun w1 hw => hw.pick [] (by decide) rfl) ?_
  refine TH.two' (listed1 := #[Tt,Tt,Tt,Tt,Tt,Tt,Tt,Tt,Tt,Tt,Tt,Ff,Tt,Ff,Ff,Ff,Tt,Ff]) (listed2 := #[Tt,Tt,Tt,Tt,Tt,Tt,Tt,Tt,Tt,Tt,Ff,Ff,Tt,Tt,Ff,Ff,Tt,Ff]) 10 13 rfl rfl (by kernel_rfl) rfl rfl ?_ ?_
  ·refine TL.pcallCod (k := 3) (α := {q9 : Nat // q9 ≤ 65535 ∧ (1 ≤ (4 : Int) → (q9 : Int) < 4)}) (fun q9 => .int .i64 ((q9.1 : Nat) : Int)) (fun q9 => []) rfl rfl rfl rfl rfl Tryz.func21 (by decide) rfl rfl (fun w1 hw hC1 => next_cod cb w1 4 hC1) ?_
   rintro ⟨k21, hk211, hk212⟩
   dsimp only [List.cons_append, List.nil_append]
   refine zE ?_
   refine TX.he (fun w1 hw => hw.pick [] (by decide) rfl) fun hS => ?_
   refine TH.t 11 rfl (gD (1 + ((k21 : Nat) : Int))) hS ?_
   refine TH.only' 13 rfl (by kernel_rfl) rfl ?_
   refine TL.prowS (e := 3) (size := 1) (cs := flat (ic .i64) [0, 0, 0, 50, 300]) rfl rfl rfl rfl rfl (fun w => brabs106_5_22075 _ _ _ _ _ w) (by decide) rfl (fun g24 => ?_)
   refine zE ?_
   refine TX.held (fun w1 hw => hw.pick [] (by decide) rfl) ?_
   refine TH.only' 14 rfl (by kernel_rfl) rfl ?_
   refine TL.pcallCod (k := 4) (α := {v : Int // v ∈ ([0, 0, 0, 50, 300] : List Int)}) (fun x => .int .i64 x.1) (fun x => []) rfl rfl rfl rfl rfl Tryz.func22 (by decide) rfl rfl (fun w1 hw hC1 => pick_cod cb w1 hC1 g24 5 ([0, 0, 0, 50, 300]) (hw.neq (i := 0) (j := 4) rfl rfl (by decide) g24 rfl <| congrArg some ·.symm) (Pc.lt (hw.at_ (k := 0) rfl) g24 rfl).2 (by show 0 < ([0, 0, 0, 50, 300] : List Int).length; simp) (fun i v hi => flat_row1 hw (q := 0) rfl hi)) ?_
   rintro ⟨v25, hv25⟩
   dsimp only [List.cons_append, List.nil_append]
   refine zE ?_
   refine TX.he (fun w1 hw => hw.pick [] (by decide) rfl) fun hS => ?_
   refine TH.t 15 rfl (gives_build (v := .agg #[.int .u32 (shlF a n), .int .i64 n, .int .i64 (1 + ((k21 : Nat) : Int)), .int .i64 v25, .int .i64 0]) rfl rfl (fun w => brabld102_2016 _ _ _ _ w)) hS ?_
   refine TH.only' 17 rfl (by kernel_rfl) rfl ?_
   refine TL.pstore (k := 1) (vs := [.int .u32 (shlF a n), .int .i64 n, .int .i64 (1 + ((k21 : Nat) : Int)), .int .i64 v25, .int .i64 0]) rfl rfl rfl rfl rfl rfl rfl bresz102 breone_u32i64i64i64i64 (by show 5 ≤ 5; decide) rfl ?_
   refine zE ?_
   refine TX.held (fun w1 hw => hw.pick [] (by decide) rfl) ?_
   refine TH.done (by kernel_rfl) ?_
   exact TX.joined (⟨(g5, k21, v25), by dsimp only; omega⟩) (⟨rfl, rfl, rfl, trivial⟩) (fun w1 hw => hw.sel (.cons _ (.cons_cons _ (.cons _ (.cons_cons _ (.cons_cons _ (List.Sublist.refl _)))))))
  refine TL.prowS (e := 3) (size := 1) (cs := flat (ic .i64) [0, 0, 0, 50, 300]) rfl rfl rfl rfl rfl (fun w => brabs106_5_22075 _ _ _ _ _ w) (by decide) rfl (fun g24 => ?_)
  refine zE ?_
  refine TX.held (fun w1 hw => hw.pick [] (by decide) rfl) ?_
  refine TH.only' 10 rfl (by kernel_rfl) rfl ?_
  refine TL.pcallCod (k := 4) (α := {q9 : Nat // q9 ≤ 65535 ∧ (1 ≤ (4 : Int) → (q9 : Int) < 4)}) (fun q9 => .int .i64 ((q9.1 : Nat) : Int)) (fun q9 => []) rfl rfl rfl rfl rfl Tryz.func21 (by decide) rfl rfl (fun w1 hw hC1 => next_cod cb w1 4 hC1) ?_
  rintro ⟨k21, hk211, hk212⟩
  dsimp only [List.cons_append, List.nil_append]
  refine zE ?_
  refine TX.he (fun w1 hw => hw.pick [] (by decide) rfl) fun hS => ?_
  refine TH.t 11 rfl (gD (1 + ((k21 : Nat) : Int))) hS ?_
  refine TH.only' 14 rfl (by kernel_rfl) rfl ?_
  refine TL.pcallCod (k := 4) (α := {v : Int // v ∈ ([0, 0, 0, 50, 300] : List Int)}) (fun x => .int .i64 x.1) (fun x => []) rfl rfl rfl rfl rfl Tryz.func22 (by decide) rfl rfl (fun w1 hw hC1 => pick_cod cb w1 hC1 g24 5 ([0, 0, 0, 50, 300]) (hw.neq (i := 0) (j := 4) rfl rfl (by decide) g24 rfl <| congrArg some ·.symm) (Pc.lt (hw.at_ (k := 0) rfl) g24 rfl).2 (by show 0 < ([0, 0, 0, 50, 300] : List Int).length; simp) (fun i v hi => flat_row1 hw (q := 0) rfl hi)) ?_
  rintro ⟨v25, hv25⟩
  dsimp only [List.cons_append, List.nil_append]
  refine zE ?_
  refine TX.he (fun w1 hw => hw.pick [] (by decide) rfl) fun hS => ?_
  refine TH.t 15 rfl (gives_build (v := .agg #[.int .u32 (shlF a n), .int .i64 n, .int .i64 (1 + ((k21 : Nat) : Int)), .int .i64 v25, .int .i64 0]) rfl rfl (fun w => brabld102_2016 _ _ _ _ w)) hS ?_
  refine TH.only' 17 rfl (by kernel_rfl) rfl ?_
  refine TL.pstore (k := 1) (vs := [.int .u32 (shlF a n), .int .i64 n, .int .i64 (1 + ((k21 : Nat) : Int)), .int .i64 v25, .int .i64 0]) rfl rfl rfl rfl rfl rfl rfl bresz102 breone_u32i64i64i64i64 (by show 5 ≤ 5; decide) rfl ?_
  refine zE ?_
  refine TX.held (fun w1 hw => hw.pick [] (by decide) rfl) ?_
  refine TH.done (by kernel_rfl) ?_
  exact TX.joined (⟨(g5, k21, v25), by dsimp only; omega⟩) (⟨rfl, rfl, rfl, trivial⟩) (fun w1 hw => hw.sel (.cons _ (.cons_cons _ (.cons _ (.cons_cons _ (.cons_cons _ (List.Sublist.refl _)))))))
 rintro ⟨⟨g5, pv, fr⟩, hpv⟩
 dsimp only at hpv ⊢
 refine zS (TC.held (ls := #[Ff,Ff,Ff,Ff,Ff,Ff,Ff,Ff,Ff,Ff,Ff]) (fun _ => True) (by kernel_rfl) rfl rfl (fun w hw => hw.drawn _) ?_)
 refine TH.tk 0 rfl rfl rfl (gives_move rfl rfl) (fun _ _ => trivial) ?_
 refine TH.tk 1 rfl rfl rfl (gF brefld102_2) (fun _ _ => trivial) ?_
 refine TH.tk 4 rfl rfl rfl (gives_move rfl rfl) (fun _ _ => trivial) ?_
 refine TH.two' (listed1 := #[Tt,Tt,Tt,Ff,Tt,Ff,Ff,Ff,Ff,Ff,Ff]) (listed2 := #[Tt,Tt,Ff,Ff,Tt,Tt,Ff,Ff,Ff,Ff,Ff]) 2 5 rfl rfl (by kernel_rfl) rfl rfl ?_ ?_
 ·refine TL.v (gL 0 pcmag3) ?_
  refine zE ?_
  refine TX.held (fun _ _ => trivial) ?_
  refine TH.tk 3 rfl rfl rfl (gives_bin rfl rfl rfl (fun w => bin_add_ (r := IntKind.i64.wrap (fr + 1)) (rfl) w)) (fun _ _ => trivial) ?_
  refine TH.only' 5 rfl (by kernel_rfl) rfl ?_
  refine TL.pcallCod (k := 2) (α := {q9 : Nat // q9 ≤ 65535 ∧ (1 ≤ (600 : Int) → (q9 : Int) < 600)}) (fun q9 => .int .i64 ((q9.1 : Nat) : Int)) (fun q9 => []) rfl rfl rfl rfl rfl Tryz.func21 (by decide) rfl rfl (fun w1 hw hC1 => next_cod cb w1 600 hC1) ?_
  rintro ⟨k32, hk321, hk322⟩
  dsimp only [List.cons_append, List.nil_append]
  refine zE ?_
  refine TX.held (fun _ _ => trivial) ?_
  refine TH.tk 6 rfl rfl rfl (gives_bin rfl rfl rfl (fun w => bin_add_ (r := IntKind.i64.wrap (IntKind.i64.wrap (fr + 1) + ((k32 : Nat) : Int))) (rfl) w)) (fun _ _ => trivial) ?_
  refine TH.only' 7 rfl (by kernel_rfl) rfl ?_
  refine TL.prowS (e := 3) (size := 1) (cs := flat (ic .i64) [1125899906842624, 1125899906842624, 1125899906842624, IntKind.i64.wrap (IntKind.i64.wrap (fr + 1) + ((k32 : Nat) : Int))]) rfl rfl rfl rfl rfl (fun w => brabs106_4_78574 _ _ _ _ w) (by decide) rfl (fun g34 => ?_)
  refine zE ?_
  refine TX.held (fun _ _ => trivial) ?_
  refine TH.only' 8 rfl (by kernel_rfl) rfl ?_
  refine TL.pcallCod (k := 3) (α := {v : Int // v ∈ ([1125899906842624, 1125899906842624, 1125899906842624, IntKind.i64.wrap (IntKind.i64.wrap (fr + 1) + ((k32 : Nat) : Int))] : List Int)}) (fun x => .int .i64 x.1) (fun x => []) rfl rfl rfl rfl rfl Tryz.func22 (by decide) rfl rfl (fun w1 hw hC1 => pick_cod cb w1 hC1 g34 4 ([1125899906842624, 1125899906842624, 1125899906842624, IntKind.i64.wrap (IntKind.i64.wrap (fr + 1) + ((k32 : Nat) : Int))]) (hw.neq (i := 0) (j := 3) rfl rfl (by decide) g34 rfl <| congrArg some ·.symm) (Pc.lt (hw.at_ (k := 0) rfl) g34 rfl).2 (by show 0 < ([1125899906842624, 1125899906842624, 1125899906842624, IntKind.i64.wrap (IntKind.i64.wrap (fr + 1) + ((k32 : Nat) : Int))] : List Int).length; simp) (fun i v hi => flat_row1 hw (q := 0) rfl hi)) ?_
  rintro ⟨to, hto⟩
  dsimp only [List.cons_append, List.nil_append]
  refine zE ?_
  refine TX.held (fun _ _ => trivial) ?_
  refine TH.tk 9 rfl rfl rfl (gF brefld102_3) (fun _ _ => trivial) ?_
  refine TH.only' 10 rfl (by kernel_rfl) rfl ?_
  refine TL.pstore (k := 1) (vs := [.int .i64 to]) rfl rfl rfl rfl rfl rfl rfl pcmsz3 aeaone_i64 (by show 5 ≤ 5; decide) rfl ?_
  refine zE ?_
  refine TX.held (fun _ _ => trivial) ?_
  refine TH.done (by kernel_rfl) ?_
  refine zT (zSG (TL.v (gV 1 (.agg #[.int .u32 (shlF a n), .int .i64 n, .int .i64 (1 + ((pv : Nat) : Int)), .int .i64 fr, .int .i64 to]) breag102 bresz102) ?_))
  refine TL.pstore (k := 2) (vs := [.int .u32 (shlF a n), .int .i64 n, .int .i64 (1 + ((pv : Nat) : Int)), .int .i64 fr, .int .i64 to]) rfl rfl rfl rfl rfl rfl rfl bresz102 breone_u32i64i64i64i64 (by show 5 ≤ 5; decide) rfl ?_
  refine zET (zr ?_)
  exact pm_ret_cell (k := 2) Tryz.results65 rfl rfl Tryz.underlying102 rfl rfl (fun w1 hw => ⟨⟨⟨shlF a n, n, 1 + ((pv : Nat) : Int), fr, to⟩, EnG.mk_ (by omega) hn hpv⟩, rfl, Pm.codr [] (hw.sel (.cons _ (.cons _ (.cons _ (.cons_cons _ (List.Sublist.refl _)))))) rfl⟩)
 refine TL.pcallCod (k := 2) (α := {q9 : Nat // q9 ≤ 65535 ∧ (1 ≤ (600 : Int) → (q9 : Int) < 600)}) (fun q9 => .int .i64 ((q9.1 : Nat) : Int)) (fun q9 => []) rfl rfl rfl rfl rfl Tryz.func21 (by decide) rfl rfl (fun w1 hw hC1 => next_cod cb w1 600 hC1) ?_
 rintro ⟨k32, hk321, hk322⟩
 dsimp only [List.cons_append, List.nil_append]
 refine zE ?_
 refine TX.held (fun _ _ => trivial) ?_
 refine TH.only' 2 rfl (by kernel_rfl) rfl ?_
 refine TL.v (gL 0 pcmag3) ?_
 refine zE ?_
 refine TX.held (fun _ _ => trivial) ?_
 refine TH.tk 3 rfl rfl rfl (gives_bin rfl rfl rfl (fun w => bin_add_ (r := IntKind.i64.wrap (fr + 1)) (rfl) w)) (fun _ _ => trivial) ?_
 refine TH.tk 6 rfl rfl rfl (gives_bin rfl rfl rfl (fun w => bin_add_ (r := IntKind.i64.wrap (IntKind.i64.wrap (fr + 1) + ((k32 : Nat) : Int))) (rfl) w)) (fun _ _ => trivial) ?_
 refine TH.only' 7 rfl (by kernel_rfl) rfl ?_
 refine TL.prowS (e := 3) (size := 1) (cs := flat (ic .i64) [1125899906842624, 1125899906842624, 1125899906842624, IntKind.i64.wrap (IntKind.i64.wrap (fr + 1) + ((k32 : Nat) : Int))]) rfl rfl rfl rfl rfl (fun w => brabs106_4_78574 _ _ _ _ w) (by decide) rfl (fun g34 => ?_)
 refine zE ?_
 refine TX.held (fun _ _ => trivial) ?_
 refine TH.only' 8 rfl (by kernel_rfl) rfl ?_
 refine TL.pcallCod (k := 3) (α := {v : Int // v ∈ ([1125899906842624, 1125899906842624, 1125899906842624, IntKind.i64.wrap (IntKind.i64.wrap (fr + 1) + ((k32 : Nat) : Int))] : List Int)}) (fun x => .int .i64 x.1) (fun x => []) rfl rfl rfl rfl rfl Tryz.func22 (by decide) rfl rfl (fun w1 hw hC1 => pick_cod cb w1 hC1 g34 4 ([1125899906842624, 1125899906842624, 1125899906842624, IntKind.i64.wrap (IntKind.i64.wrap (fr + 1) + ((k32 : Nat) : Int))]) (hw.neq (i := 0) (j := 3) rfl rfl (by decide) g34 rfl <| congrArg some ·.symm) (Pc.lt (hw.at_ (k := 0) rfl) g34 rfl).2 (by show 0 < ([1125899906842624, 1125899906842624, 1125899906842624, IntKind.i64.wrap (IntKind.i64.wrap (fr + 1) + ((k32 : Nat) : Int))] : List Int).length; simp) (fun i v hi => flat_row1 hw (q := 0) rfl hi)) ?_
 rintro ⟨to, hto⟩
 dsimp only [List.cons_append, List.nil_append]
 refine zE ?_
 refine TX.held (fun _ _ => trivial) ?_
 refine TH.tk 9 rfl rfl rfl (gF brefld102_3) (fun _ _ => trivial) ?_
 refine TH.only' 10 rfl (by kernel_rfl) rfl ?_
 refine TL.pstore (k := 1) (vs := [.int .i64 to]) rfl rfl rfl rfl rfl rfl rfl pcmsz3 aeaone_i64 (by show 5 ≤ 5; decide) rfl ?_
 refine zE ?_
 refine TX.held (fun _ _ => trivial) ?_
 refine TH.done (by kernel_rfl) ?_
 refine zT (zSG (TL.v (gV 1 (.agg #[.int .u32 (shlF a n), .int .i64 n, .int .i64 (1 + ((pv : Nat) : Int)), .int .i64 fr, .int .i64 to]) breag102 bresz102) ?_))
 refine TL.pstore (k := 2) (vs := [.int .u32 (shlF a n), .int .i64 n, .int .i64 (1 + ((pv : Nat) : Int)), .int .i64 fr, .int .i64 to]) rfl rfl rfl rfl rfl rfl rfl bresz102 breone_u32i64i64i64i64 (by show 5 ≤ 5; decide) rfl ?_
 refine zET (zr ?_)
 exact pm_ret_cell (k := 2) Tryz.results65 rfl rfl Tryz.underlying102 rfl rfl (fun w1 hw => ⟨⟨⟨shlF a n, n, 1 + ((pv : Nat) : Int), fr, to⟩, EnG.mk_ (by omega) hn hpv⟩, rfl, Pm.codr [] (hw.sel (.cons _ (.cons _ (.cons _ (.cons_cons _ (List.Sublist.refl _)))))) rfl⟩)
set_option maxRecDepth 20000
def CmpE (x y : En) (z : Int) : Prop := (z < 0 → cmpP x.addr x.len y.addr y.len < 0 ∨ (cmpP x.addr x.len y.addr y.len = 0 ∧ x.frm ≤ y.frm)) ∧ (0 ≤ z → 0 < cmpP x.addr x.len y.addr y.len ∨ (cmpP x.addr x.len y.addr y.len = 0 ∧ y.frm ≤ x.frm))
def OvE (b x : En) : Prop := cmpP b.addr b.len x.addr x.len = 0 ∧ b.frm < x.to_ ∧ x.frm < b.to_
def LtE (b x : En) : Prop := cmpP b.addr b.len x.addr x.len < 0 ∨ (cmpP b.addr b.len x.addr x.len = 0 ∧ b.frm ≤ x.frm)
def GeE (b x : En) : Prop := 0 < cmpP b.addr b.len x.addr x.len ∨ (cmpP b.addr b.len x.addr x.len = 0 ∧ x.frm ≤ b.frm)
def AddK (es : List En) (x : En) (i k : Nat) : Prop := (k = 0 ∨ ∃ b, es[k - 1]? = some b ∧ LtE b x) ∧ (∀ j, k ≤ j → j < i → ∀ z, es[j]? = some z → GeE z x) ∧ ∀ j, j < i → ∀ z, es[j]? = some z → ¬ OvE z x
theorem AddK.start (es : List En) (x : En) : AddK es x 0 0 := ⟨.inl rfl, fun j _ h => absurd h (Nat.not_lt_zero _), fun j h => absurd h (Nat.not_lt_zero _)⟩
theorem AddK.step_ge {es : List En} {x z : En} {i k : Nat} (h : AddK es x i k) (hz : es[i]? = some z) (hk : k ≤ i) (hg : k ≤ i → GeE z x) (ho : ¬ OvE z x) : AddK es x (i + 1) k := by
 refine ⟨h.1, fun j h1 h2 y hy => ?_, fun j h2 y hy => ?_⟩
 ·by_cases e : j = i
  ·subst e; rw [hz] at hy; injection hy with hy; rw [← hy]; exact hg hk
  exact h.2.1 j h1 (by omega) y hy
 by_cases e : j = i
 ·subst e; rw [hz] at hy; injection hy with hy; rw [← hy]; exact ho
 exact h.2.2 j (by omega) y hy
theorem AddK.step_lt {es : List En} {x z : En} {i k : Nat} (h : AddK es x i k) (hz : es[i]? = some z) (hl : LtE z x) (ho : ¬ OvE z x) : AddK es x (i + 1) (i + 1) := by
 refine ⟨.inr ⟨z, by rw [Nat.add_sub_cancel]; exact hz, hl⟩, fun j h1 h2 => absurd h1 (by omega), fun j h2 y hy => ?_⟩
 by_cases e : j = i
 ·subst e; rw [hz] at hy; injection hy with hy; rw [← hy]; exact ho
 exact h.2.2 j (by omega) y hy
theorem cmpI_flip (a b : Int) : cmpI b a = - cmpI a b := by unfold cmpI; split <;> split <;> (try split) <;> omega
theorem cmpP_neg (a n b m : Int) : cmpP b m a n = - cmpP a n b m := by
 unfold cmpP
 rw [cmpI_flip a b, cmpI_flip n m]
 split <;> split <;> omega
theorem validR_at {es : List En} (h : validR es = true) {j : Nat} {z : En} (hz : es[j]? = some z) : validE z = true ∧ (j = 0 ∨ ∀ b, es[j - 1]? = some b → badP b z = false) := by
 simp only [validR, Bool.and_eq_true, decide_eq_true_eq, List.all_eq_true, List.mem_range] at h
 have h2 := h.2 j (List.getElem?_eq_some_iff.1 hz).1
 unfold okAt at h2
 rw [hz] at h2
 simp only [Bool.and_eq_true, Bool.or_eq_true, decide_eq_true_eq] at h2
 refine ⟨h2.1, h2.2.imp id fun h3 b hb => ?_⟩
 rw [hb] at h3
 simpa using h3
theorem okAt_of {es : List En} {j : Nat} {z : En} (hz : es[j]? = some z) (hv : validE z = true) (h : j = 0 ∨ ∀ b, es[j - 1]? = some b → badP b z = false) : okAt es j = true := by
 unfold okAt
 rw [hz]
 simp only [hv, Bool.true_and, Bool.or_eq_true, decide_eq_true_eq]
 rcases h with h | h
 ·exact .inl h
 right
 cases hb : es[j - 1]? with
 | none => rfl
 | some b => simp [h b hb]
theorem ins_valid {es : List En} {x : En} {k : Nat} (hv : validR es = true) (hx : validE x = true) (hl : es.length < 1024) (hb : k = 0 ∨ ∃ b, es[k - 1]? = some b ∧ LtE b x) (ha : ∀ z : En, es[k]? = some z → GeE z x) (ho : ∀ (j : Nat) (z : En), es[j]? = some z → ¬ OvE z x) : validR (es.take k ++ [x] ++ es.drop k) = true := by
 have hk : k ≤ es.length := by
  rcases hb with h | ⟨b, h, _⟩
  ·omega
  have := (List.getElem?_eq_some_iff.1 h).1; omega
 have hlen : (es.take k ++ [x] ++ es.drop k).length = es.length + 1 := by simp only [List.length_append, List.length_take, List.length_drop, List.length_cons, List.length_nil]; omega
 have htk : (es.take k).length = k := by rw [List.length_take]; omega
 have g1 : ∀ j, j < k → (es.take k ++ [x] ++ es.drop k)[j]? = es[j]? := fun j hj => by
  rw [List.append_assoc, List.getElem?_append_left (by omega), List.getElem?_take_of_lt hj]
 have g2 : (es.take k ++ [x] ++ es.drop k)[k]? = some x := by
  rw [List.append_assoc, List.getElem?_append_right (by omega), htk, Nat.sub_self]; rfl
 have g3 : ∀ j, k ≤ j → (es.take k ++ [x] ++ es.drop k)[j + 1]? = es[j]? := fun j hj => by
  rw [List.getElem?_append_right (by rw [List.length_append, htk]; show k + 1 ≤ _; omega), List.length_append, htk, List.getElem?_drop]
  congr 1; show k + (j + 1 - (k + 1)) = j; omega
 refine validR_true (by omega) fun j hj => ?_
 have hxf : x.frm < x.to_ := by unfold validE at hx; simp only [Bool.and_eq_true, decide_eq_true_eq] at hx; omega
 rcases Nat.lt_trichotomy j k with h | h | h
 ·obtain ⟨z, hz⟩ : ∃ z, es[j]? = some z := ⟨_, List.getElem?_eq_getElem (by omega)⟩
  obtain ⟨a1, a2⟩ := validR_at hv hz
  exact okAt_of (by rw [g1 j h]; exact hz) a1 (by rw [g1 (j - 1) (by omega)]; exact a2)
 ·subst h
  refine okAt_of g2 hx ?_
  rcases hb with h | ⟨b, h, h1⟩
  ·exact .inl h
  by_cases h0 : j = 0
  ·exact .inl h0
  refine .inr fun c hc => ?_
  rw [g1 (j - 1) (by omega), h] at hc
  injection hc with hc
  rw [← hc]
  have h2 := ho _ _ h
  unfold OvE at h2
  unfold LtE at h1
  unfold badP
  rw [Bool.or_eq_false_iff, Bool.and_eq_false_iff, decide_eq_false_iff_not, decide_eq_false_iff_not, decide_eq_false_iff_not]
  rcases h1 with h1 | h1
  ·exact ⟨by omega, .inl (by omega)⟩
  refine ⟨by omega, .inr fun h4 => h2 ⟨h1.1, by omega, h4⟩⟩
 obtain ⟨q, rfl⟩ : ∃ q, j = q + 1 := ⟨j - 1, by omega⟩
 obtain ⟨z, hz⟩ : ∃ z, es[q]? = some z := ⟨_, List.getElem?_eq_getElem (by omega)⟩
 obtain ⟨a1, a2⟩ := validR_at hv hz
 refine okAt_of (by rw [g3 q (by omega)]; exact hz) a1 (.inr ?_)
 rw [Nat.add_sub_cancel]
 by_cases e : q = k
 ·subst e
  intro c hc
  rw [g2] at hc
  injection hc with hc
  rw [← hc]
  have h1 := ha z hz
  have h2 := ho _ _ hz
  have hzf : z.frm < z.to_ := by have a3 := a1; unfold validE at a3; simp only [Bool.and_eq_true, decide_eq_true_eq] at a3; omega
  have hng := cmpP_neg z.addr z.len x.addr x.len
  unfold OvE at h2
  unfold GeE at h1
  unfold badP
  rw [Bool.or_eq_false_iff, Bool.and_eq_false_iff, decide_eq_false_iff_not, decide_eq_false_iff_not, decide_eq_false_iff_not]
  rcases h1 with h1 | h1
  ·exact ⟨by omega, .inl (by omega)⟩
  refine ⟨by omega, .inr fun h4 => ?_⟩
  exact h2 ⟨h1.1, h4, by omega⟩
 obtain ⟨p, rfl⟩ : ∃ p, q = p + 1 := ⟨q - 1, by omega⟩
 rw [g3 p (by omega)]
 rcases a2 with a2 | a2
 ·omega
 rw [Nat.add_sub_cancel] at a2; exact a2
theorem brxbld183_19252 (a0_0 : Int) (a0_1 : Int) (a1_0 : Int) (a1_1 : Int) (a2_0 : Int) (a2_1 : Int) (w : World) : (Instr.build 183 #[(0, .agg #[.int .i64 a0_0, .int .i64 a0_1]), (1, .agg #[.int .i64 a1_0, .int .i64 a1_1]), (2, .agg #[.int .i64 a2_0, .int .i64 a2_1])]).run Tryz.prog w = .ok (.agg #[.int .i64 a0_0, .int .i64 a0_1, .int .i64 a1_0, .int .i64 a1_1, .int .i64 a2_0, .int .i64 a2_1]) w := by kernel_rfl
theorem brxone_i64i64 {a0 : Int} {a1 : Int} : ∀ u ∈ [(.int .i64 a0 : Value), .int .i64 a1], u.oneCell' = true := by
 intro u hu
 simp only [List.mem_cons, List.not_mem_nil, or_false] at hu
 rcases hu with rfl | rfl <;> rfl
theorem brxzv26 (w : World) : (zeroValue 26).run Tryz.prog w = .ok (.agg #[.slice none 0 0]) w := rfl
theorem brxel24 : Elem Tryz.prog 24 102 5 40 := Elem.mk' Tryz.underlying24 (z := .agg #[.int .u32 0, .int .i64 0, .int .i64 0, .int .i64 0, .int .i64 0]) (by kernel_rfl) rfl (by omega) (by omega)
theorem brxbs24_1_22095 (a0_0 : Int) (a0_1 : Int) (a0_2 : Int) (a0_3 : Int) (a0_4 : Int) (w : World) : (Instr.buildSlice 24 1 #[(0, .agg #[.int .u32 a0_0, .int .i64 a0_1, .int .i64 a0_2, .int .i64 a0_3, .int .i64 a0_4])]).run Tryz.prog w = .ok (.slice (some ⟨w.heap.size, 0, none⟩) 1 1) (w.alloc (.cells [.int .u32 a0_0, .int .i64 a0_1, .int .i64 a0_2, .int .i64 a0_3, .int .i64 a0_4].toArray 102)) := by kernel_rfl
theorem brxbld26_67803 (a0_0 : Option Addr) (a0_0n a0_0c : Nat) (w : World) : (Instr.build 26 #[(0, .slice a0_0 a0_0n a0_0c)]).run Tryz.prog w = .ok (.agg #[.slice a0_0 a0_0n a0_0c]) w := by kernel_rfl
theorem rcmpX_any (x y : En) (hx : x.Ok) (hy : y.Ok) (w : World) :
  Calls Tryz.prog 115 #[.agg x.cells.toArray, .agg y.cells.toArray] w fun e w' => ∃ z : {z : Int // CmpE x y z}, e = .returned (.int .i64 z.1) ∧ Below w.heap.size w w' := by
 refine begin_ (vs := [.agg x.cells.toArray, .agg y.cells.toArray]) Tryz.func115 rfl rfl rfl ?_ (Pm.start w)
 refine zSG ?_
 refine TL.pnew rfl rfl rfl (exec_box (cs := x.cells) rfl rfl rfl) (fun g2 => ?_)
 refine TL.pnew rfl rfl rfl (exec_box (cs := y.cells) rfl rfl rfl) (fun g3 => ?_)
 refine TL.as_ ?_
 refine zET (zS (zSG (TL.v (gF brefld102_0) ?_)))
 refine TL.v (gV 1 (.agg #[.int .u32 x.addr, .int .i64 x.len]) badag100 badsz100) ?_
 refine TL.v (gF brefld102_0) ?_
 refine TL.v (gV 0 (.agg #[.int .u32 y.addr, .int .i64 y.len]) badag100 badsz100) ?_
 refine TL.pcall1 (r := .int .i64 (cmpP x.addr x.len y.addr y.len)) rfl rfl rfl rfl rfl Tryz.func114 (by decide) rfl (fun w1 hw => rcmpP_any x.addr x.len y.addr y.len hx hy w1) ?_
 refine TL.as_ ?_
 refine zET (zSG (TL.mv ?_))
 refine TL.sp bin_neq (fun q14 => ?_) (fun q14 => ?_)
 ·refine zET (zc (zSG (TL.rn 2 rfl (zET (zr (zR ?_))))))
  exact ret_tmp Tryz.results115 rfl (fun w1 hw => ⟨⟨cmpP x.addr x.len y.addr y.len, ⟨fun h => .inl h, fun h => .inl (by omega)⟩⟩, rfl, hw.bel⟩)
 refine zET (zd (zk (zT (zS (zSG (TL.v (gF brefld102_2) ?_))))))
 refine TL.v (gL 1 pcmag3) ?_
 refine TL.v (gF brefld102_2) ?_
 refine TL.v (gL 0 pcmag3) ?_
 refine TL.val rfl rfl rfl (gives_build (v := .agg #[.int .i64 x.frm, .int .i64 y.frm]) rfl rfl (fun w => prsbld120_29156 _ _ w)) ?_
 refine TL.v (gF brefld102_3) ?_
 refine TL.v (gL 1 pcmag3) ?_
 refine TL.v (gF brefld102_3) ?_
 refine TL.v (gL 0 pcmag3) ?_
 refine TL.val rfl rfl rfl (gives_build (v := .agg #[.int .i64 x.to_, .int .i64 y.to_]) rfl rfl (fun w => prsbld120_29156 _ _ w)) ?_
 refine TL.v (gF brefld102_1) ?_
 refine TL.v (gL 1 pcmag3) ?_
 refine TL.v (gF brefld102_1) ?_
 refine TL.v (gL 0 pcmag3) ?_
 refine TL.val rfl rfl rfl (gives_build (v := .agg #[.int .i64 x.prov, .int .i64 y.prov]) rfl rfl (fun w => prsbld120_29156 _ _ w)) ?_
 refine TL.val rfl rfl rfl (gives_build (v := .agg #[.int .i64 x.frm, .int .i64 y.frm, .int .i64 x.to_, .int .i64 y.to_, .int .i64 x.prov, .int .i64 y.prov]) rfl rfl (fun w => brxbld183_19252 _ _ _ _ _ _ w)) ?_
 refine TL.mv ?_
 refine zET (zB (TC.loop_ (α := {i : Nat // i ≤ 3 ∧ (0 < i → x.frm = y.frm)}) (fun z => [(31, .agg #[.int .i64 x.frm, .int .i64 y.frm, .int .i64 x.to_, .int .i64 y.to_, .int .i64 x.prov, .int .i64 y.prov]), (32, .int .i64 ((z.1 : Nat) : Int))]) (fun z => Pm w [.blk g3 102 y.cells, .blk g2 102 x.cells]) (fun z => 3 - z.1) (⟨0, Nat.zero_le _, fun h => absurd h (by decide)⟩) ⟨rfl, rfl, trivial⟩ (fun w1 hw => hw) ?_))
 rintro ⟨i, hi, hfr⟩
 try dsimp only at hi hfr ⊢
 refine zSG ?_
 refine TL.sp bin_lss (fun q33 => ?_) (fun q33 => ?_)
 ·have hi2 : i < 3 := by omega
  obtain ⟨p, q, hp0, hpq⟩ : ∃ p q : Int, (i = 0 → p = x.frm ∧ q = y.frm) ∧ ∀ w : World, (Instr.index 183 (.agg #[.int .i64 x.frm, .int .i64 y.frm, .int .i64 x.to_, .int .i64 y.to_, .int .i64 x.prov, .int .i64 y.prov]) (.int .i64 ((i : Nat) : Int))).run Tryz.prog w = .ok (.agg #[.int .i64 p, .int .i64 q]) w := by
   have h3 : i = 0 ∨ i = 1 ∨ i = 2 := by omega
   rcases h3 with rfl | rfl | rfl
   ·exact ⟨x.frm, y.frm, fun _ => ⟨rfl, rfl⟩, fun w => by kernel_rfl⟩
   ·exact ⟨x.to_, y.to_, fun h => absurd h (by decide), fun w => by kernel_rfl⟩
   exact ⟨x.prov, y.prov, fun h => absurd h (by decide), fun w => by kernel_rfl⟩
  refine zET (zS (zc (zk (zT (zS (zB (zSG ?_)))))))
  refine TL.val rfl rfl rfl (gives_index (v := .agg #[.int .i64 p, .int .i64 q]) rfl rfl rfl hpq) ?_
  refine TL.pnew rfl rfl rfl (exec_alloc (cs := [.int .i64 0, .int .i64 0]) rfl prszv120 rfl) (fun g7 => ?_)
  refine TL.pstore (k := 0) (vs := [.int .i64 p, .int .i64 q]) rfl rfl rfl rfl rfl rfl rfl prssz120 brxone_i64i64 (by show 2 ≤ 2; decide) rfl ?_
  refine zET (zS (zSG ?_))
  refine TL.val rfl rfl rfl (gives_at (v := .pointer (some ⟨g7, 0, none⟩)) rfl rfl rfl (fun w => at_arr Tryz.underlying120 pcmsz3 g7 0 _ 0 (by decide) w)) ?_
  refine TL.v (gL 0 pcmag3) ?_
  refine TL.val rfl rfl rfl (gives_at (v := .pointer (some ⟨g7, 1, none⟩)) rfl rfl rfl (fun w => at_arr Tryz.underlying120 pcmsz3 g7 0 _ 1 (by decide) w)) ?_
  refine TL.v (gL 0 pcmag3) ?_
  refine TL.sp bin_lss (fun q39 => ?_) (fun q39 => ?_)
  ·refine zET (zc (zSG (TL.as_ ?_)))
   refine zET (zr (zR (zRR (zR (zRR ?_)))))
   exact ret_tmp Tryz.results115 rfl (fun w1 hw => ⟨⟨-1, ⟨fun _ => .inr ⟨by omega, by by_cases h0 : i = 0; (have := hp0 h0; omega); (have := hfr (by omega); omega)⟩, fun h => absurd h (by decide)⟩⟩, rfl, hw.bel⟩)
  refine zET (zd (zk (zT (zSG ?_))))
  refine TL.val rfl rfl rfl (gives_at (v := .pointer (some ⟨g7, 0, none⟩)) rfl rfl rfl (fun w => at_arr Tryz.underlying120 pcmsz3 g7 0 _ 0 (by decide) w)) ?_
  refine TL.v (gL 0 pcmag3) ?_
  refine TL.val rfl rfl rfl (gives_at (v := .pointer (some ⟨g7, 1, none⟩)) rfl rfl rfl (fun w => at_arr Tryz.underlying120 pcmsz3 g7 0 _ 1 (by decide) w)) ?_
  refine TL.v (gL 0 pcmag3) ?_
  refine TL.sp bin_gtr (fun q44 => ?_) (fun q44 => ?_)
  ·refine zET (zc (zSG (TL.as_ ?_)))
   refine zET (zr (zRR (zR (zRR ?_))))
   exact ret_tmp Tryz.results115 rfl (fun w1 hw => ⟨⟨1, ⟨fun h => absurd h (by decide), fun _ => .inr ⟨by omega, by by_cases h0 : i = 0; (have := hp0 h0; omega); (have := hfr (by omega); omega)⟩⟩⟩, rfl, hw.bel⟩)
  have hfr2 : x.frm = y.frm := by by_cases h0 : i = 0; (have := hp0 h0; omega); exact hfr (by omega)
  refine zET (zd (zk (zN (zT (zG (TL.v (gD ((i + 1 : Nat) : Int)) ?_))))))
  refine TL.mv ?_
  refine zE ?_
  exact TX.round (⟨i + 1, by omega, fun _ => hfr2⟩) (by show 3 - (i + 1) < 3 - i; omega) ⟨rfl, rfl, trivial⟩ (fun w1 hw => hw.pick [1, 2] (by decide) rfl)
 refine zET (zS (zd (zx (zX (zX (zM (zT (zSG (TL.as_ ?_)))))))))
 refine zET (zr ?_)
 exact ret_tmp Tryz.results115 rfl (fun w1 hw => ⟨⟨0, ⟨fun h => absurd h (by decide), fun _ => .inr ⟨by omega, by have := hfr (by omega); omega⟩⟩⟩, rfl, hw.bel⟩)
theorem raddX_any (A0 : Option Addr) (c0 : Nat) (es : List En) (x : En) (hx : x.Ok) (w : World) (hr : Reads w w.heap.size 5 A0 es.length (flat En.cells es)) (hl1 : es.length ≤ 10000) (hlc : es.length ≤ c0) (hok : ∀ z ∈ es, z.Ok) :
  Calls Tryz.prog 64 #[.agg #[.slice A0 es.length c0], .agg x.cells.toArray] w fun e w' => ∃ y : {y : (Option Addr × Nat) × List En × Int // (y.2.2 = 0 → (∀ z ∈ y.2.1, z ∈ es ∨ z = x) ∧ validR y.2.1 = true) ∧ y.2.1.length ≤ es.length + 1 ∧ y.2.1.length ≤ y.1.2 ∧ y.1.2 ≤ maxLen}, e = .returned (.tuple #[.agg #[.slice y.1.1.1 y.1.2.1.length y.1.1.2], .int .i64 y.1.2.2]) ∧ Pm w [.row (.slice y.1.1.1 y.1.2.1.length y.1.1.2) 102 5 y.1.2.1.length (flat En.cells y.1.2.1)] w' := by
 refine begin_ (vs := [.agg #[.slice A0 es.length c0], .agg x.cells.toArray]) Tryz.func64 rfl rfl rfl ?_ (Pm.start w)
 refine zSG ?_
 refine TL.pnew rfl rfl rfl (exec_box (cs := [.slice A0 es.length c0]) rfl rfl rfl) (fun g2 => ?_)
 refine TL.pnew rfl rfl rfl (exec_box (cs := x.cells) rfl rfl rfl) (fun g3 => ?_)
 refine TL.pnew rfl rfl rfl (exec_alloc (cs := [.slice none 0 0]) rfl brxzv26 rfl) (fun g4 => ?_)
 refine TL.as_ ?_
 refine zET (zS (zSG (TL.v (gV 2 (.agg #[.slice A0 es.length c0]) breag26 bresz26) ?_)))
 refine TL.callsplit rfl rfl rfl rfl rfl Tryz.func85 (by decide) rfl (fun w1 hw => rvalX_any A0 c0 es w1 (hr.up hw.bel) (by omega) hok) (fun h10 => ?_) (fun h10 => ?_)
 ·refine TL.rn 2 rfl (TL.ov (gV 1 (.agg (x.cells).toArray) breag102 bresz102) ?_)
  refine TL.gu ?_
  refine TL.callsplit rfl rfl rfl rfl rfl Tryz.func113 (by decide) rfl (fun w1 hw => rvalE_any x hx w1) (fun h14 => ?_) (fun h14 => ?_)
  ·refine TL.rn 2 rfl (zET (zd (zk (zT (zSG (TL.as_ ?_))))))
   refine zET (zS (zSG (TL.as_ ?_)))
   refine zET (zB (TC.loop_ (α := {y : Nat × Nat // y.1 ≤ es.length ∧ y.2 ≤ y.1 ∧ AddK es x y.1 y.2}) (fun y => [(2, .pointer (some ⟨g2, 0, none⟩)), (3, .pointer (some ⟨g3, 0, none⟩)), (4, .pointer (some ⟨g4, 0, none⟩)), (7, .int .i64 ((y.1.1 : Nat) : Int)), (6, .int .i64 ((y.1.2 : Nat) : Int))]) (fun y => Pm w [.blk g4 26 [.slice none 0 0], .blk g3 102 x.cells, .blk g2 26 [.slice A0 es.length c0]]) (fun y => es.length - y.1.1) (⟨(0, 0), Nat.zero_le _, Nat.le_refl _, AddK.start es x⟩) ⟨rfl, rfl, rfl, rfl, rfl, trivial⟩ (fun w1 hw => hw) ?_))
   rintro ⟨⟨i, k⟩, hi, hk, hK⟩
   dsimp only at hi hk hK ⊢
   refine zS (zSG (TL.mv ?_))
   refine TL.v (gF brefld26_0) ?_
   refine TL.v (gL 2 breag24) ?_
   refine TL.v (gN Tryz.underlying24) ?_
   refine TL.sp bin_lss (fun q22 => ?_) (fun q22 => ?_)
   ·refine zET (zc (zk (zT (zS (zB (zSG (TL.v (gF brefld26_0) ?_)))))))
    refine TL.v (gL 2 breag24) ?_
    refine TL.mv ?_
    have hi28 : i < es.length := by omega
    obtain ⟨x28, hx28⟩ := ex_at hi28
    obtain ⟨b28, o28, hA28, hbb28, hc28⟩ := hr.ad (by omega) (by decide)
    refine TL.val rfl rfl rfl (gA (i := i) Tryz.underlying24 bresz102 rfl rfl rfl rfl hA28 (by omega)) ?_
    refine TL.v (gR en_cel breag102 bresz102 hbb28 hx28 hc28) ?_
    refine TL.pnew rfl rfl rfl (exec_alloc (cs := [.int .u32 0, .int .i64 0, .int .i64 0, .int .i64 0, .int .i64 0]) rfl brezv102 rfl) (fun g8 => ?_)
    refine TL.pstore (k := 0) (vs := x28.cells) rfl rfl rfl rfl rfl rfl rfl bresz102 (en_cel.one _) (by show 5 ≤ 5; decide) (L' := [.blk g8 102 x28.cells, .blk g4 26 [.slice none 0 0], .blk g3 102 x.cells, .blk g2 26 [.slice A0 es.length c0]]) rfl ?_
    refine zET (zS (zSG (TL.v (gF brefld102_0) ?_)))
    refine TL.v (gV 0 (.agg #[.int .u32 x28.addr, .int .i64 x28.len]) badag100 badsz100) ?_
    refine TL.v (gF brefld102_0) ?_
    refine TL.v (gV 2 (.agg #[.int .u32 x.addr, .int .i64 x.len]) badag100 badsz100) ?_
    refine TL.pcall1 (r := .int .i64 (cmpP x28.addr x28.len x.addr x.len)) rfl rfl rfl rfl rfl Tryz.func114 (by decide) rfl (fun w1 hw => rcmpP_any x28.addr x28.len x.addr x.len (hok x28 (List.mem_of_getElem? hx28)) hx w1) ?_
    refine TL.sp bin_eql (fun q35 => ?_) (fun q35 => ?_)
    ·refine TL.mv ?_
     refine TL.ov (gF brefld102_2) ?_
     refine TL.ov (gL 0 pcmag3) ?_
     refine TL.ov (gF brefld102_3) ?_
     refine TL.ov (gL 2 pcmag3) ?_
     refine TL.gu ?_
     refine TL.sp bin_lss (fun q41 => ?_) (fun q41 => ?_)
     ·refine TL.rn 2 rfl (TL.ov (gF brefld102_2) ?_)
      refine TL.ov (gL 2 pcmag3) ?_
      refine TL.ov (gF brefld102_3) ?_
      refine TL.ov (gL 0 pcmag3) ?_
      refine TL.gu ?_
      refine TL.sp bin_lss (fun q48 => ?_) (fun q48 => ?_)
      ·refine TL.pk ?_
       refine zET (zc (zSG ?_))
       refine TL.val rfl rfl rfl (gives_build (v := .agg #[.slice none 0 0]) rfl rfl (fun w => mawbld26_530  w)) ?_
       refine TL.pstore (k := 1) (vs := [.slice none 0 0]) rfl rfl rfl rfl rfl rfl rfl bresz26 dntone_s (by show 1 ≤ 1; decide) (L' := [.blk g8 102 x28.cells, .blk g4 26 [.slice none 0 0], .blk g3 102 x.cells, .blk g2 26 [.slice A0 es.length c0]]) rfl ?_
       refine TL.as_ ?_
       refine zET (zr (zR (zRR (zR (zRR ?_)))))
       exact ret_cell2 (k := 1) (v := .int .i64 9) Tryz.results64 rfl rfl rfl Tryz.underlying26 rfl rfl (fun w1 hw => ⟨⟨((none, 0), ([], 9)), fun h => absurd h (by decide), Nat.zero_le _, Nat.le_refl _, Nat.zero_le _⟩, rfl, (hw.pick [] (by decide) rfl).nilrow _ _⟩)
      refine TL.pk ?_
      refine zET (zd (zk (zT (zSG (TL.v (gV 0 (.agg (x28.cells).toArray) breag102 bresz102) ?_)))))
      refine TL.v (gV 2 (.agg (x.cells).toArray) breag102 bresz102) ?_
      refine TL.call (α := {z : Int // CmpE x28 x z}) (r := fun z => .int .i64 z.1) (I' := fun _ => Pm w [.blk g8 102 x28.cells, .blk g4 26 [.slice none 0 0], .blk g3 102 x.cells, .blk g2 26 [.slice A0 es.length c0]]) rfl rfl rfl rfl rfl Tryz.func115 (by decide) rfl (fun w1 hw => (rcmpX_any x28 x (hok x28 (List.mem_of_getElem? hx28)) hx w1).mono fun e w2 ⟨b, h1, h2⟩ => ⟨b, h1, hw.below h2⟩) ?_
      rintro ⟨z53, hz53⟩
      dsimp only
      refine TL.sp bin_lss (fun q54 => ?_) (fun q54 => ?_)
      ·refine zET (zc (zG (TL.mv ?_)))
       refine TL.v (gD ((i + 1 : Nat) : Int)) ?_
       refine TL.as_ ?_
       refine zE (zN (zT (zG (TL.mv ?_))))
       refine TL.v (gD ((i + 1 : Nat) : Int)) ?_
       refine TL.as_ ?_
       refine zE ?_
       exact TX.round (⟨(i + 1, i + 1), by dsimp only; omega, by dsimp only; omega, hK.step_lt hx28 (hz53.1 (by omega)) (by simp [OvE, q22, q35, q41, q48, q54]; try omega)⟩) (by show es.length - (i + 1) < es.length - i; omega) ⟨rfl, rfl, rfl, rfl, rfl, trivial⟩ (fun w1 hw => hw.pick [1, 2, 3] (by decide) rfl)
      refine zET (zd (zk (zN (zT (zG (TL.mv ?_))))))
      refine TL.v (gD ((i + 1 : Nat) : Int)) ?_
      refine TL.as_ ?_
      refine zE ?_
      exact TX.round (⟨(i + 1, k), by dsimp only; omega, by dsimp only; omega, hK.step_ge hx28 (by omega) (fun h => (hz53.2 (by omega))) (by simp [OvE, q22, q35, q41, q48, q54]; try omega)⟩) (by show es.length - (i + 1) < es.length - i; omega) ⟨rfl, rfl, rfl, rfl, rfl, trivial⟩ (fun w1 hw => hw.pick [1, 2, 3] (by decide) rfl)
     refine TL.rn 8 rfl (zET (zd (zk (zT (zSG (TL.v (gV 0 (.agg (x28.cells).toArray) breag102 bresz102) ?_))))))
     refine TL.v (gV 2 (.agg (x.cells).toArray) breag102 bresz102) ?_
     refine TL.call (α := {z : Int // CmpE x28 x z}) (r := fun z => .int .i64 z.1) (I' := fun _ => Pm w [.blk g8 102 x28.cells, .blk g4 26 [.slice none 0 0], .blk g3 102 x.cells, .blk g2 26 [.slice A0 es.length c0]]) rfl rfl rfl rfl rfl Tryz.func115 (by decide) rfl (fun w1 hw => (rcmpX_any x28 x (hok x28 (List.mem_of_getElem? hx28)) hx w1).mono fun e w2 ⟨b, h1, h2⟩ => ⟨b, h1, hw.below h2⟩) ?_
     rintro ⟨z53, hz53⟩
     dsimp only
     refine TL.sp bin_lss (fun q54 => ?_) (fun q54 => ?_)
     ·refine zET (zc (zG (TL.mv ?_)))
      refine TL.v (gD ((i + 1 : Nat) : Int)) ?_
      refine TL.as_ ?_
      refine zE (zN (zT (zG (TL.mv ?_))))
      refine TL.v (gD ((i + 1 : Nat) : Int)) ?_
      refine TL.as_ ?_
      refine zE ?_
      exact TX.round (⟨(i + 1, i + 1), by dsimp only; omega, by dsimp only; omega, hK.step_lt hx28 (hz53.1 (by omega)) (by simp [OvE, q22, q35, q41, q54]; try omega)⟩) (by show es.length - (i + 1) < es.length - i; omega) ⟨rfl, rfl, rfl, rfl, rfl, trivial⟩ (fun w1 hw => hw.pick [1, 2, 3] (by decide) rfl)
     refine zET (zd (zk (zN (zT (zG (TL.mv ?_))))))
     refine TL.v (gD ((i + 1 : Nat) : Int)) ?_
     refine TL.as_ ?_
     refine zE ?_
     exact TX.round (⟨(i + 1, k), by dsimp only; omega, by dsimp only; omega, hK.step_ge hx28 (by omega) (fun h => (hz53.2 (by omega))) (by simp [OvE, q22, q35, q41, q54]; try omega)⟩) (by show es.length - (i + 1) < es.length - i; omega) ⟨rfl, rfl, rfl, rfl, rfl, trivial⟩ (fun w1 hw => hw.pick [1, 2, 3] (by decide) rfl)
    refine TL.rn 14 rfl (zET (zd (zk (zT (zSG (TL.v (gV 0 (.agg (x28.cells).toArray) breag102 bresz102) ?_))))))
    refine TL.v (gV 2 (.agg (x.cells).toArray) breag102 bresz102) ?_
    refine TL.call (α := {z : Int // CmpE x28 x z}) (r := fun z => .int .i64 z.1) (I' := fun _ => Pm w [.blk g8 102 x28.cells, .blk g4 26 [.slice none 0 0], .blk g3 102 x.cells, .blk g2 26 [.slice A0 es.length c0]]) rfl rfl rfl rfl rfl Tryz.func115 (by decide) rfl (fun w1 hw => (rcmpX_any x28 x (hok x28 (List.mem_of_getElem? hx28)) hx w1).mono fun e w2 ⟨b, h1, h2⟩ => ⟨b, h1, hw.below h2⟩) ?_
    rintro ⟨z53, hz53⟩
    dsimp only
    refine TL.sp bin_lss (fun q54 => ?_) (fun q54 => ?_)
    ·refine zET (zc (zG (TL.mv ?_)))
     refine TL.v (gD ((i + 1 : Nat) : Int)) ?_
     refine TL.as_ ?_
     refine zE (zN (zT (zG (TL.mv ?_))))
     refine TL.v (gD ((i + 1 : Nat) : Int)) ?_
     refine TL.as_ ?_
     refine zE ?_
     exact TX.round (⟨(i + 1, i + 1), by dsimp only; omega, by dsimp only; omega, hK.step_lt hx28 (hz53.1 (by omega)) (by simp [OvE, q22, q35, q54]; try omega)⟩) (by show es.length - (i + 1) < es.length - i; omega) ⟨rfl, rfl, rfl, rfl, rfl, trivial⟩ (fun w1 hw => hw.pick [1, 2, 3] (by decide) rfl)
    refine zET (zd (zk (zN (zT (zG (TL.mv ?_))))))
    refine TL.v (gD ((i + 1 : Nat) : Int)) ?_
    refine TL.as_ ?_
    refine zE ?_
    exact TX.round (⟨(i + 1, k), by dsimp only; omega, by dsimp only; omega, hK.step_ge hx28 (by omega) (fun h => (hz53.2 (by omega))) (by simp [OvE, q22, q35, q54]; try omega)⟩) (by show es.length - (i + 1) < es.length - i; omega) ⟨rfl, rfl, rfl, rfl, rfl, trivial⟩ (fun w1 hw => hw.pick [1, 2, 3] (by decide) rfl)
   refine zET (zd (zx (zX (zX (zM (zT (zS (zSG (TL.v (gF brefld26_0) ?_)))))))))
   refine TL.v (gL 2 breag24) ?_
   refine TL.v (gN Tryz.underlying24) ?_
   refine TL.sp bin_geq (fun q60 => ?_) (fun q60 => ?_)
   ·refine zET (zc (zSG ?_))
    refine TL.val rfl rfl rfl (gives_build (v := .agg #[.slice none 0 0]) rfl rfl (fun w => mawbld26_530  w)) ?_
    refine TL.pstore (k := 0) (vs := [.slice none 0 0]) rfl rfl rfl rfl rfl rfl rfl bresz26 dntone_s (by show 1 ≤ 1; decide) (L' := [.blk g4 26 [.slice none 0 0], .blk g3 102 x.cells, .blk g2 26 [.slice A0 es.length c0]]) rfl ?_
    refine TL.as_ ?_
    refine zET (zr (zR ?_))
    exact ret_cell2 (k := 0) (v := .int .i64 5) Tryz.results64 rfl rfl rfl Tryz.underlying26 rfl rfl (fun w1 hw => ⟨⟨((none, 0), ([], 5)), fun h => absurd h (by decide), Nat.zero_le _, Nat.le_refl _, Nat.zero_le _⟩, rfl, (hw.pick [] (by decide) rfl).nilrow _ _⟩)
   refine zET (zd (zk (zT (zS (TC.held (ls := #[Ff,Ff,Ff,Ff,Ff,Ff,Ff,Ff,Ff,Ff,Ff,Ff,Ff,Ff,Ff,Ff]) (Pm w [.blk g3 102 x.cells, .blk g2 26 [.slice A0 es.length c0]]) (by kernel_rfl) rfl rfl (fun w hw => hw.drawn _) ?_)))))
   refine TH.tk 0 rfl rfl rfl (gF brefld26_0) (fun w1 hw => hw.pick [1, 2] (by decide) rfl) ?_
   refine TH.tk 1 rfl rfl rfl (gL 1 breag24) (fun w1 hw => hw.pick [1, 2] (by decide) rfl) ?_
   refine TH.tk 2 rfl rfl rfl (gives_move rfl rfl) (fun w1 hw => hw.pick [1, 2] (by decide) rfl) ?_
   refine TH.tk 3 rfl rfl rfl (gives_sliceH (v := .slice A0 k c0) rfl rfl rfl (fun w => cut_hi Tryz.underlying24 bresz102 _ _ _ k rfl (by omega) w)) (fun w1 hw => hw.pick [1, 2] (by decide) rfl) ?_
   refine TH.tk 5 rfl rfl rfl (gV 0 (.agg (x.cells).toArray) breag102 bresz102) (fun w1 hw => hw.pick [1, 2] (by decide) rfl) ?_
   refine TH.tk 8 rfl rfl rfl (gF brefld26_0) (fun w1 hw => hw.pick [1, 2] (by decide) rfl) ?_
   refine TH.tk 9 rfl rfl rfl (gL 1 breag24) (fun w1 hw => hw.pick [1, 2] (by decide) rfl) ?_
   refine TH.tk 10 rfl rfl rfl (gives_move rfl rfl) (fun w1 hw => hw.pick [1, 2] (by decide) rfl) ?_
   refine TH.tk 11 rfl rfl rfl (gives_sliceL (v := .slice (if c0 = k then A0 else A0.map (·.add (k * 5))) (es.length - k) (c0 - k)) rfl rfl rfl (fun w => cut_lo Tryz.underlying24 bresz102 _ _ _ k rfl (by omega) w)) (fun w1 hw => hw.pick [1, 2] (by decide) rfl) ?_
   refine TH.two' (listed1 := #[Tt,Tt,Tt,Tt,Tt,Tt,Ff,Ff,Tt,Tt,Tt,Tt,Ff,Ff,Ff,Ff]) (listed2 := #[Tt,Tt,Tt,Tt,Ff,Tt,Tt,Ff,Tt,Tt,Tt,Tt,Ff,Ff,Ff,Ff]) 4 6 rfl rfl (by kernel_rfl) rfl rfl ?_ ?_
   ·refine TL.nilrow 102 5 ?_
    refine TL.appendT (k := 0) rfl rfl rfl rfl Tryz.underlying24 brxel24 rfl rfl rfl (fun w1 hw => ⟨_, (Reads.headF en_cel (hr.up hw.bel) (by omega))⟩) (flat_one en_cel _) (by show _ * 40 ≤ _; omega) (k) ((Nat.zero_add _).symm) (flat En.cells (es.take k)) (rfl) (fun A66 c66 hA661 hA662 => ?_)
    refine zE ?_
    refine TX.held (fun w1 hw => hw.pick [2, 3] (by decide) rfl) ?_
    refine TH.only' 6 rfl (by kernel_rfl) rfl ?_
    refine TL.prowS (e := 102) (size := 5) (cs := flat En.cells [x]) rfl rfl rfl rfl rfl (fun w => brxbs24_1_22095 _ _ _ _ _ w) (by decide) rfl (fun g68 => ?_)
    refine zE ?_
    refine TX.held (fun w1 hw => hw.pick [3, 4] (by decide) rfl) ?_
    refine TH.only' 7 rfl (by kernel_rfl) rfl ?_
    refine TL.appendT (k := 1) rfl rfl rfl rfl Tryz.underlying24 brxel24 rfl rfl rfl (fun w1 hw => pm_reads hw (k := 0) rfl) (flat_one en_cel _) (by show _ * 40 ≤ _; omega) (k + 1) (rfl) (flat En.cells ((es.take k) ++ [x])) ((flat_app _ _).symm) (fun A69 c69 hA691 hA692 => ?_)
    refine zE ?_
    refine TX.held (fun w1 hw => hw.pick [3, 4] (by decide) rfl) ?_
    refine TH.only' 12 rfl (by kernel_rfl) rfl ?_
    refine TL.appendT (k := 1) rfl rfl rfl rfl Tryz.underlying24 brxel24 rfl rfl rfl (fun w1 hw => ⟨_, (Reads.tailF en_cel (hr.up hw.bel) (by omega) (by omega))⟩) (flat_one en_cel _) (by show _ * 40 ≤ _; omega) (k + 1 + (es.length - k)) (rfl) (flat En.cells (((es.take k) ++ [x]) ++ (es.drop k))) ((flat_app _ _).symm) (fun A74 c74 hA741 hA742 => ?_)
    refine zE ?_
    refine TX.he (fun w1 hw => hw.pick [3, 4] (by decide) rfl) fun hS => ?_
    refine TH.t 13 rfl (gives_build (v := .agg #[.slice A74 (k + 1 + (es.length - k)) c74]) rfl rfl (fun w => brxbld26_67803 _ _ _ w)) hS ?_
    refine TH.only' 14 rfl (by kernel_rfl) rfl ?_
    refine TL.pstore (k := 2) (vs := [.slice A74 (k + 1 + (es.length - k)) c74]) rfl rfl rfl rfl rfl rfl rfl bresz26 dntone_s (by show 1 ≤ 1; decide) (L' := [.row (.slice (some ⟨g68, 0, none⟩) 1 1) 102 5 1 (flat En.cells [x]), .row (.slice A74 (k + 1 + (es.length - k)) c74) 102 5 (k + 1 + (es.length - k)) (flat En.cells (((es.take k) ++ [x]) ++ (es.drop k))), .blk g4 26 [.slice A74 (k + 1 + (es.length - k)) c74], .blk g3 102 x.cells, .blk g2 26 [.slice A0 es.length c0]]) rfl ?_
    refine zE ?_
    refine TX.he (fun w1 hw => hw.pick [3, 4] (by decide) rfl) fun hS => ?_
    refine TH.t 15 rfl (gives_assign rfl rfl) hS ?_
    refine TH.done (by kernel_rfl) ?_
    refine zT (zr ?_)
    have hle : (((es.take k) ++ [x]) ++ (es.drop k)).length = k + 1 + (es.length - k) := by simp only [List.length_append, List.length_take, List.length_drop, List.length_cons, List.length_nil]; omega
    have hva : validR (((es.take k) ++ [x]) ++ (es.drop k)) = true := ins_valid h10 (by rw [← rvalidE_eq hx]; exact h14) (by omega) hK.1 (fun z hz => hK.2.1 k (Nat.le_refl _) (by have := (List.getElem?_eq_some_iff.1 hz).1; omega) z hz) (fun j z hz => hK.2.2 j (by have := (List.getElem?_eq_some_iff.1 hz).1; omega) z hz)
    exact ret_cell2 (k := 2) (v := .int .i64 0) Tryz.results64 rfl rfl rfl Tryz.underlying26 rfl rfl (fun w1 hw => ⟨⟨((A74, c74), (((es.take k) ++ [x]) ++ (es.drop k), 0)), fun _ => ⟨fun z h => mem_ins h, hva⟩, by dsimp only; omega, by dsimp only; omega, hA742⟩, by dsimp only; rw [hle], by dsimp only; rw [hle]; exact hw.pick [1] (by decide) rfl⟩)
   refine TL.prowS (e := 102) (size := 5) (cs := flat En.cells [x]) rfl rfl rfl rfl rfl (fun w => brxbs24_1_22095 _ _ _ _ _ w) (by decide) rfl (fun g68 => ?_)
   refine zE ?_
   refine TX.held (fun w1 hw => hw.pick [2, 3] (by decide) rfl) ?_
   refine TH.only' 4 rfl (by kernel_rfl) rfl ?_
   refine TL.nilrow 102 5 ?_
   refine TL.appendT (k := 0) rfl rfl rfl rfl Tryz.underlying24 brxel24 rfl rfl rfl (fun w1 hw => ⟨_, (Reads.headF en_cel (hr.up hw.bel) (by omega))⟩) (flat_one en_cel _) (by show _ * 40 ≤ _; omega) (k) ((Nat.zero_add _).symm) (flat En.cells (es.take k)) (rfl) (fun A66 c66 hA661 hA662 => ?_)
   refine zE ?_
   refine TX.held (fun w1 hw => hw.pick [3, 4] (by decide) rfl) ?_
   refine TH.only' 7 rfl (by kernel_rfl) rfl ?_
   refine TL.appendT (k := 0) rfl rfl rfl rfl Tryz.underlying24 brxel24 rfl rfl rfl (fun w1 hw => pm_reads hw (k := 1) rfl) (flat_one en_cel _) (by show _ * 40 ≤ _; omega) (k + 1) (rfl) (flat En.cells ((es.take k) ++ [x])) ((flat_app _ _).symm) (fun A69 c69 hA691 hA692 => ?_)
   refine zE ?_
   refine TX.held (fun w1 hw => hw.pick [3, 4] (by decide) rfl) ?_
   refine TH.only' 12 rfl (by kernel_rfl) rfl ?_
   refine TL.appendT (k := 0) rfl rfl rfl rfl Tryz.underlying24 brxel24 rfl rfl rfl (fun w1 hw => ⟨_, (Reads.tailF en_cel (hr.up hw.bel) (by omega) (by omega))⟩) (flat_one en_cel _) (by show _ * 40 ≤ _; omega) (k + 1 + (es.length - k)) (rfl) (flat En.cells (((es.take k) ++ [x]) ++ (es.drop k))) ((flat_app _ _).symm) (fun A74 c74 hA741 hA742 => ?_)
   refine zE ?_
   refine TX.he (fun w1 hw => hw.pick [3, 4] (by decide) rfl) fun hS => ?_
   refine TH.t 13 rfl (gives_build (v := .agg #[.slice A74 (k + 1 + (es.length - k)) c74]) rfl rfl (fun w => brxbld26_67803 _ _ _ w)) hS ?_
   refine TH.only' 14 rfl (by kernel_rfl) rfl ?_
   refine TL.pstore (k := 2) (vs := [.slice A74 (k + 1 + (es.length - k)) c74]) rfl rfl rfl rfl rfl rfl rfl bresz26 dntone_s (by show 1 ≤ 1; decide) (L' := [.row (.slice A74 (k + 1 + (es.length - k)) c74) 102 5 (k + 1 + (es.length - k)) (flat En.cells (((es.take k) ++ [x]) ++ (es.drop k))), .row (.slice (some ⟨g68, 0, none⟩) 1 1) 102 5 1 (flat En.cells [x]), .blk g4 26 [.slice A74 (k + 1 + (es.length - k)) c74], .blk g3 102 x.cells, .blk g2 26 [.slice A0 es.length c0]]) rfl ?_
   refine zE ?_
   refine TX.he (fun w1 hw => hw.pick [3, 4] (by decide) rfl) fun hS => ?_
   refine TH.t 15 rfl (gives_assign rfl rfl) hS ?_
   refine TH.done (by kernel_rfl) ?_
   refine zT (zr ?_)
   have hle : (((es.take k) ++ [x]) ++ (es.drop k)).length = k + 1 + (es.length - k) := by simp only [List.length_append, List.length_take, List.length_drop, List.length_cons, List.length_nil]; omega
   have hva : validR (((es.take k) ++ [x]) ++ (es.drop k)) = true := ins_valid h10 (by rw [← rvalidE_eq hx]; exact h14) (by omega) hK.1 (fun z hz => hK.2.1 k (Nat.le_refl _) (by have := (List.getElem?_eq_some_iff.1 hz).1; omega) z hz) (fun j z hz => hK.2.2 j (by have := (List.getElem?_eq_some_iff.1 hz).1; omega) z hz)
   exact ret_cell2 (k := 2) (v := .int .i64 0) Tryz.results64 rfl rfl rfl Tryz.underlying26 rfl rfl (fun w1 hw => ⟨⟨((A74, c74), (((es.take k) ++ [x]) ++ (es.drop k), 0)), fun _ => ⟨fun z h => mem_ins h, hva⟩, by dsimp only; omega, by dsimp only; omega, hA742⟩, by dsimp only; rw [hle], by dsimp only; rw [hle]; exact hw.pick [0] (by decide) rfl⟩)
  refine TL.rn 2 rfl (zET (zc (zSG ?_)))
  refine TL.val rfl rfl rfl (gives_build (v := .agg #[.slice none 0 0]) rfl rfl (fun w => mawbld26_530  w)) ?_
  refine TL.pstore (k := 0) (vs := [.slice none 0 0]) rfl rfl rfl rfl rfl rfl rfl bresz26 dntone_s (by show 1 ≤ 1; decide) (L' := [.blk g4 26 [.slice none 0 0], .blk g3 102 x.cells, .blk g2 26 [.slice A0 es.length c0]]) rfl ?_
  refine TL.as_ ?_
  refine zET (zr (zR ?_))
  exact ret_cell2 (k := 0) (v := .int .i64 1) Tryz.results64 rfl rfl rfl Tryz.underlying26 rfl rfl (fun w1 hw => ⟨⟨((none, 0), ([], 1)), fun h => absurd h (by decide), Nat.zero_le _, Nat.le_refl _, Nat.zero_le _⟩, rfl, (hw.pick [] (by decide) rfl).nilrow _ _⟩)
 refine TL.rn 6 rfl (zET (zc (zSG ?_)))
 refine TL.val rfl rfl rfl (gives_build (v := .agg #[.slice none 0 0]) rfl rfl (fun w => mawbld26_530  w)) ?_
 refine TL.pstore (k := 0) (vs := [.slice none 0 0]) rfl rfl rfl rfl rfl rfl rfl bresz26 dntone_s (by show 1 ≤ 1; decide) (L' := [.blk g4 26 [.slice none 0 0], .blk g3 102 x.cells, .blk g2 26 [.slice A0 es.length c0]]) rfl ?_
 refine TL.as_ ?_
 refine zET (zr (zR ?_))
 exact ret_cell2 (k := 0) (v := .int .i64 1) Tryz.results64 rfl rfl rfl Tryz.underlying26 rfl rfl (fun w1 hw => ⟨⟨((none, 0), ([], 1)), fun h => absurd h (by decide), Nat.zero_le _, Nat.le_refl _, Nat.zero_le _⟩, rfl, (hw.pick [] (by decide) rfl).nilrow _ _⟩)
theorem registryX_cod (cb : Nat) (w : World) (hC : Cod w cb) (m : Nat) (hm : m ≤ 100) :
  Calls Tryz.prog 19 #[.pointer (some ⟨cb, 0, none⟩), .int .i64 ((m : Nat) : Int)] w fun e w' => ∃ x : {y : (Option Addr × Nat) × List En // ((∀ e ∈ y.2, EnG e) ∧ validR y.2 = true) ∧ y.2.length ≤ m ∧ y.2.length ≤ y.1.2 ∧ y.1.2 ≤ maxLen}, e = .returned (.agg #[.slice x.1.1.1 x.1.2.length x.1.1.2]) ∧ Codr (fun w => Cod w cb) cb w ([.row (.slice x.1.1.1 x.1.2.length x.1.1.2) 102 5 x.1.2.length (flat En.cells x.1.2)]) w' := by
 refine begin_ (vs := [.pointer (some ⟨cb, 0, none⟩), .int .i64 ((m : Nat) : Int)]) (I := Pm ⟨w, cb⟩ (.abs cb (fun w => Cod w cb) :: oths cb w)) Tryz.func19 rfl rfl rfl ?_ (Pm.codes hC (cod_cells hC) (cod_stab cb))
 refine zSG ?_
 refine TL.pnew rfl rfl rfl (exec_alloc (cs := [.slice none 0 0]) rfl brxzv26 rfl) (fun g4 => ?_)
 refine zET (zSG ?_)
 refine TL.pnew rfl rfl rfl (exec_alloc (cs := [.slice none 0 0]) rfl brxzv26 rfl) (fun g5 => ?_)
 refine zET (zS (zSG (TL.rn 2 rfl (TL.v (gD ((m + 1 : Nat) : Int)) ?_))))
 refine TL.pcallCod (k := 2) (α := {q9 : Nat // q9 ≤ 65535 ∧ (1 ≤ (((m + 1 : Nat) : Int) : Int) → (q9 : Int) < ((m + 1 : Nat) : Int))}) (fun q9 => .int .i64 ((q9.1 : Nat) : Int)) (fun q9 => []) rfl rfl rfl rfl rfl Tryz.func21 (by decide) rfl rfl (fun w1 hw hC1 => next_cod cb w1 ((m + 1 : Nat) : Int) hC1) ?_
 rintro ⟨k0, hk01, hk02⟩
 dsimp only [List.cons_append, List.nil_append]
 refine TL.as_ ?_
 refine zET (zB (TC.nilrow 102 5 ?_))
 refine TC.loop_ (α := {y : Nat × (Option Addr × Nat) × List En // y.1 + y.2.2.length ≤ m ∧ ((∀ e ∈ y.2.2, EnG e) ∧ validR y.2.2 = true) ∧ y.2.2.length ≤ y.2.1.2 ∧ y.2.1.2 ≤ maxLen}) (fun y => [(0, .pointer (some ⟨cb, 0, none⟩)), (4, .pointer (some ⟨g4, 0, none⟩)), (5, .pointer (some ⟨g5, 0, none⟩)), (6, .int .i64 ((y.1.1 : Nat) : Int))]) (fun y => Pm ⟨w, cb⟩ ([.row (.slice y.1.2.1.1 y.1.2.2.length y.1.2.1.2) 102 5 y.1.2.2.length (flat En.cells y.1.2.2), .blk g5 26 [.slice y.1.2.1.1 y.1.2.2.length y.1.2.1.2], .blk g4 26 [.slice none 0 0], .abs cb (fun w => Cod w cb)] ++ oths cb w)) (fun y => y.1.1) (⟨(k0, (none, 0), []), by dsimp only [List.length_nil]; omega, ⟨fun e he => absurd he List.not_mem_nil, rfl⟩, Nat.le_refl _, Nat.zero_le _⟩) ⟨rfl, rfl, rfl, rfl, trivial⟩ (fun w1 hw => hw) ?_
 rintro ⟨⟨k, ⟨A, c⟩, es⟩, hk, hEn, hoc, hom⟩
 dsimp only at hk hEn hoc hom ⊢
 refine zS (zSG (TL.mv ?_))
 refine TL.sp bin_gtr (fun q14 => ?_) (fun q14 => ?_)
 ·refine zET (zc (zk (zT (zS (zB ?_)))))
  refine TC.join (α := {y : Nat × (Option Addr × Nat) × List En × Int // (y.2.2.2 = 0 → ((∀ e ∈ y.2.2.1, EnG e) ∧ validR y.2.2.1 = true) ∧ y.2.2.1.length ≤ es.length + 1) ∧ y.2.2.1.length ≤ y.2.1.2 ∧ y.2.1.2 ≤ maxLen}) (fun y => [(0, .pointer (some ⟨cb, 0, none⟩)), (4, .pointer (some ⟨g4, 0, none⟩)), (5, .pointer (some ⟨g5, 0, none⟩)), (6, .int .i64 ((k : Nat) : Int)), (7, .pointer (some ⟨y.1.1, 0, none⟩)), (8, .int .i64 y.1.2.2.2)]) (fun y => Pm ⟨w, cb⟩ ([.row (.slice y.1.2.1.1 y.1.2.2.1.length y.1.2.1.2) 102 5 y.1.2.2.1.length (flat En.cells y.1.2.2.1), .blk y.1.1 26 [.slice y.1.2.1.1 y.1.2.2.1.length y.1.2.1.2], .row (.slice A es.length c) 102 5 es.length (flat En.cells es), .blk g5 26 [.slice A es.length c], .blk g4 26 [.slice none 0 0], .abs cb (fun w => Cod w cb)] ++ oths cb w)) ?_ ?_
  ·refine TC.held (ls := #[Ff,Ff,Ff,Ff,Ff,Ff,Ff,Ff,Ff,Ff]) (Pm ⟨w, cb⟩ [.blk g5 26 [.slice A es.length c]]) (by kernel_rfl) rfl rfl (fun w hw => hw.drawn _) ?_
   refine TH.tk 0 rfl rfl rfl (gV 0 (.agg #[.slice A es.length c]) breag26 bresz26) (fun w1 hw => hw.pick [1] (by decide) rfl) ?_
   refine TH.tk 1 rfl rfl rfl (gives_move rfl rfl) (fun w1 hw => hw.pick [1] (by decide) rfl) ?_
   refine TH.two' (listed1 := #[Tt,Tt,Tt,Ff,Ff,Ff,Ff,Ff,Ff,Ff]) (listed2 := #[Tt,Tt,Ff,Ff,Ff,Ff,Ff,Tt,Ff,Ff]) 2 7 rfl rfl (by kernel_rfl) rfl rfl ?_ ?_
   ·refine TL.pcallCod (k := 3) (α := {y : En // EnG y}) (fun x => .agg (x.1.cells).toArray) (fun x => []) rfl rfl rfl rfl rfl Tryz.func65 (by decide) rfl rfl (fun w1 hw hC1 => entry_cod cb w1 hC1) ?_
    rintro ⟨x20, hx20⟩
    dsimp only [List.cons_append, List.nil_append]
    refine zE ?_
    refine TX.held (fun w1 hw => hw.pick [1] (by decide) rfl) ?_
    refine TH.two' (listed1 := #[Tt,Tt,Tt,Tt,Ff,Ff,Ff,Ff,Ff,Ff]) (listed2 := #[Tt,Tt,Tt,Ff,Ff,Ff,Ff,Tt,Ff,Ff]) 3 7 rfl rfl (by kernel_rfl) rfl rfl ?_ ?_
    ·refine TL.pcallPm (α := {y : (Option Addr × Nat) × List En × Int // (y.2.2 = 0 → (∀ z ∈ y.2.1, z ∈ es ∨ z = x20) ∧ validR y.2.1 = true) ∧ y.2.1.length ≤ es.length + 1 ∧ y.2.1.length ≤ y.1.2 ∧ y.1.2 ≤ maxLen}) (fun y => .tuple #[.agg #[.slice y.1.1.1 y.1.2.1.length y.1.1.2], .int .i64 y.1.2.2]) (fun y => [.row (.slice y.1.1.1 y.1.2.1.length y.1.1.2) 102 5 y.1.2.1.length (flat En.cells y.1.2.1)]) rfl rfl rfl rfl rfl Tryz.func64 (by decide) rfl (fun w1 hw => raddX_any A c es x20 hx20.ok w1 (pm_rd hw (k := 0) rfl) (by omega) hoc (fun z hz => (hEn.1 z hz).ok)) ?_
     rintro ⟨⟨⟨Ar, cr⟩, rs, er⟩, hrs, hrl, hrc, hrd⟩
     dsimp only [List.cons_append, List.nil_append] at hrs hrl hrc hrd ⊢
     refine zE ?_
     refine TX.he (fun w1 hw => hw.pick [2] (by decide) rfl) fun hS => ?_
     refine TH.t 4 rfl (gives_move rfl rfl) hS ?_
     refine TH.t 5 rfl (gives_extract rfl rfl rfl) hS ?_
     refine TH.t 6 rfl (gives_extract rfl rfl rfl) hS ?_
     refine TH.only' 7 rfl (by kernel_rfl) rfl ?_
     refine TL.pnew rfl rfl rfl (exec_alloc (cs := [.slice none 0 0]) rfl brxzv26 rfl) (fun g7 => ?_)
     refine zE ?_
     refine TX.held (fun w1 hw => hw.pick [3] (by decide) rfl) ?_
     refine TH.only' 8 rfl (by kernel_rfl) rfl ?_
     refine TL.pstore (k := 0) (vs := [.slice Ar rs.length cr]) rfl rfl rfl rfl rfl rfl rfl bresz26 dntone_s (by show 1 ≤ 1; decide) rfl ?_
     refine zE ?_
     refine TX.he (fun w1 hw => hw.pick [3] (by decide) rfl) fun hS => ?_
     refine TH.t 9 rfl (gives_assign rfl rfl) hS ?_
     refine TH.done (by kernel_rfl) ?_
     exact TX.joined (⟨(g7, (Ar, cr), rs, er), fun h0 => ⟨⟨fun e he => ((hrs h0).1 e he).elim (hEn.1 e) (fun h1 => by rw [h1]; exact hx20), (hrs h0).2⟩, hrl⟩, hrc, hrd⟩) (⟨rfl, rfl, rfl, rfl, rfl, rfl, trivial⟩) (fun w1 hw => (show Pm ⟨w, cb⟩ ([.row (.slice Ar rs.length cr) 102 5 rs.length (flat En.cells rs), .blk g7 26 [.slice Ar rs.length cr], .row (.slice A es.length c) 102 5 es.length (flat En.cells es), .blk g5 26 [.slice A es.length c], .blk g4 26 [.slice none 0 0], .abs cb (fun w => Cod w cb)] ++ oths cb w) w1 from hw.pickT 6 [1, 0, 2, 3, 4, 5] (by decide) (by decide) rfl rfl))
    refine TL.pnew rfl rfl rfl (exec_alloc (cs := [.slice none 0 0]) rfl brxzv26 rfl) (fun g7 => ?_)
    refine zE ?_
    refine TX.held (fun w1 hw => hw.pick [2] (by decide) rfl) ?_
    refine TH.only' 3 rfl (by kernel_rfl) rfl ?_
    refine TL.pcallPm (α := {y : (Option Addr × Nat) × List En × Int // (y.2.2 = 0 → (∀ z ∈ y.2.1, z ∈ es ∨ z = x20) ∧ validR y.2.1 = true) ∧ y.2.1.length ≤ es.length + 1 ∧ y.2.1.length ≤ y.1.2 ∧ y.1.2 ≤ maxLen}) (fun y => .tuple #[.agg #[.slice y.1.1.1 y.1.2.1.length y.1.1.2], .int .i64 y.1.2.2]) (fun y => [.row (.slice y.1.1.1 y.1.2.1.length y.1.1.2) 102 5 y.1.2.1.length (flat En.cells y.1.2.1)]) rfl rfl rfl rfl rfl Tryz.func64 (by decide) rfl (fun w1 hw => raddX_any A c es x20 hx20.ok w1 (pm_rd hw (k := 1) rfl) (by omega) hoc (fun z hz => (hEn.1 z hz).ok)) ?_
    rintro ⟨⟨⟨Ar, cr⟩, rs, er⟩, hrs, hrl, hrc, hrd⟩
    dsimp only [List.cons_append, List.nil_append] at hrs hrl hrc hrd ⊢
    refine zE ?_
    refine TX.he (fun w1 hw => hw.pick [3] (by decide) rfl) fun hS => ?_
    refine TH.t 4 rfl (gives_move rfl rfl) hS ?_
    refine TH.t 5 rfl (gives_extract rfl rfl rfl) hS ?_
    refine TH.t 6 rfl (gives_extract rfl rfl rfl) hS ?_
    refine TH.only' 8 rfl (by kernel_rfl) rfl ?_
    refine TL.pstore (k := 1) (vs := [.slice Ar rs.length cr]) rfl rfl rfl rfl rfl rfl rfl bresz26 dntone_s (by show 1 ≤ 1; decide) rfl ?_
    refine zE ?_
    refine TX.he (fun w1 hw => hw.pick [3] (by decide) rfl) fun hS => ?_
    refine TH.t 9 rfl (gives_assign rfl rfl) hS ?_
    refine TH.done (by kernel_rfl) ?_
    exact TX.joined (⟨(g7, (Ar, cr), rs, er), fun h0 => ⟨⟨fun e he => ((hrs h0).1 e he).elim (hEn.1 e) (fun h1 => by rw [h1]; exact hx20), (hrs h0).2⟩, hrl⟩, hrc, hrd⟩) (⟨rfl, rfl, rfl, rfl, rfl, rfl, trivial⟩) (fun w1 hw => hw)
   refine TL.pnew rfl rfl rfl (exec_alloc (cs := [.slice none 0 0]) rfl brxzv26 rfl) (fun g7 => ?_)
   refine zE ?_
   refine TX.held (fun w1 hw => hw.pick [2] (by decide) rfl) ?_
   refine TH.only' 2 rfl (by kernel_rfl) rfl ?_
   refine TL.pcallCod (k := 4) (α := {y : En // EnG y}) (fun x => .agg (x.1.cells).toArray) (fun x => []) rfl rfl rfl rfl rfl Tryz.func65 (by decide) rfl rfl (fun w1 hw hC1 => entry_cod cb w1 hC1) ?_
   rintro ⟨x20, hx20⟩
   dsimp only [List.cons_append, List.nil_append]
   refine zE ?_
   refine TX.held (fun w1 hw => hw.pick [2] (by decide) rfl) ?_
   refine TH.only' 3 rfl (by kernel_rfl) rfl ?_
   refine TL.pcallPm (α := {y : (Option Addr × Nat) × List En × Int // (y.2.2 = 0 → (∀ z ∈ y.2.1, z ∈ es ∨ z = x20) ∧ validR y.2.1 = true) ∧ y.2.1.length ≤ es.length + 1 ∧ y.2.1.length ≤ y.1.2 ∧ y.1.2 ≤ maxLen}) (fun y => .tuple #[.agg #[.slice y.1.1.1 y.1.2.1.length y.1.1.2], .int .i64 y.1.2.2]) (fun y => [.row (.slice y.1.1.1 y.1.2.1.length y.1.1.2) 102 5 y.1.2.1.length (flat En.cells y.1.2.1)]) rfl rfl rfl rfl rfl Tryz.func64 (by decide) rfl (fun w1 hw => raddX_any A c es x20 hx20.ok w1 (pm_rd hw (k := 1) rfl) (by omega) hoc (fun z hz => (hEn.1 z hz).ok)) ?_
   rintro ⟨⟨⟨Ar, cr⟩, rs, er⟩, hrs, hrl, hrc, hrd⟩
   dsimp only [List.cons_append, List.nil_append] at hrs hrl hrc hrd ⊢
   refine zE ?_
   refine TX.he (fun w1 hw => hw.pick [3] (by decide) rfl) fun hS => ?_
   refine TH.t 4 rfl (gives_move rfl rfl) hS ?_
   refine TH.t 5 rfl (gives_extract rfl rfl rfl) hS ?_
   refine TH.t 6 rfl (gives_extract rfl rfl rfl) hS ?_
   refine TH.only' 8 rfl (by kernel_rfl) rfl ?_
   refine TL.pstore (k := 1) (vs := [.slice Ar rs.length cr]) rfl rfl rfl rfl rfl rfl rfl bresz26 dntone_s (by show 1 ≤ 1; decide) rfl ?_
   refine zE ?_
   refine TX.he (fun w1 hw => hw.pick [3] (by decide) rfl) fun hS => ?_
   refine TH.t 9 rfl (gives_assign rfl rfl) hS ?_
   refine TH.done (by kernel_rfl) ?_
   exact TX.joined (⟨(g7, (Ar, cr), rs, er), fun h0 => ⟨⟨fun e he => ((hrs h0).1 e he).elim (hEn.1 e) (fun h1 => by rw [h1]; exact hx20), (hrs h0).2⟩, hrl⟩, hrc, hrd⟩) (⟨rfl, rfl, rfl, rfl, rfl, rfl, trivial⟩) (fun w1 hw => hw)
  rintro ⟨⟨g7, ⟨Ar, cr⟩, rs, er⟩, hrs, hrc, hrd⟩
  dsimp only at hrs hrc hrd ⊢
  refine zSG (TL.mv ?_)
  refine TL.sp bin_eql (fun q25 => ?_) (fun q25 => ?_)
  ·refine zET (zc (zG (TL.v (gV 1 (.agg #[.slice Ar rs.length cr]) breag26 bresz26) ?_)))
   refine TL.pstore (k := 3) (vs := [.slice Ar rs.length cr]) rfl rfl rfl rfl rfl rfl rfl bresz26 dntone_s (by show 1 ≤ 1; decide) rfl ?_
   refine zE (zN (zT (zG (TL.mv ?_))))
   refine TL.val rfl rfl rfl (gives_bin rfl rfl rfl (fun w => bin_sub_ (r := ((k - 1 : Nat) : Int)) (by simp only [IntKind.wrap_i64]; omega) w)) ?_
   refine TL.as_ ?_
   refine zE ?_
   exact TX.round (⟨(k - 1, (Ar, cr), rs), by dsimp only; have := (hrs q25).2; omega, (hrs q25).1, hrc, hrd⟩) (by show k - 1 < k; omega) ⟨rfl, rfl, rfl, rfl, trivial⟩ (fun w1 hw => hw.sel (.cons_cons _ (.cons _ (.cons _ (.cons_cons _ (.cons_cons _ (.cons_cons _ (List.Sublist.refl _))))))))
  refine zET (zd (zk (zN (zT (zG (TL.mv ?_))))))
  refine TL.val rfl rfl rfl (gives_bin rfl rfl rfl (fun w => bin_sub_ (r := ((k - 1 : Nat) : Int)) (by simp only [IntKind.wrap_i64]; omega) w)) ?_
  refine TL.as_ ?_
  refine zE ?_
  exact TX.round (⟨(k - 1, (A, c), es), by dsimp only; omega, hEn, hoc, hom⟩) (by show k - 1 < k; omega) ⟨rfl, rfl, rfl, rfl, trivial⟩ (fun w1 hw => hw.sel (.cons _ (.cons _ (.cons_cons _ (.cons_cons _ (.cons_cons _ (.cons_cons _ (List.Sublist.refl _))))))))
 refine zET (zd (zx (zX (zX (zM (zT (zSG (TL.v (gV 1 (.agg #[.slice A es.length c]) breag26 bresz26) ?_))))))))
 refine TL.pstore (k := 2) (vs := [.slice A es.length c]) rfl rfl rfl rfl rfl rfl rfl bresz26 dntone_s (by show 1 ≤ 1; decide) rfl ?_
 refine zET (zr ?_)
 exact pm_ret_cell (k := 2) Tryz.results19 rfl rfl Tryz.underlying26 rfl rfl (fun w1 hw => ⟨⟨((A, c), es), hEn, by dsimp only; omega, hoc, hom⟩, rfl, Pm.codr [_] (hw.sel (.cons_cons _ (.cons _ (.cons _ (.cons_cons _ (List.Sublist.refl _)))))) rfl⟩)
set_option maxRecDepth 20000
theorem of_sub {l y : List Rs} {t : Trc} (h : IsOf l t y) : ∀ r ∈ y, r ∈ l := fun r hr => by
 obtain ⟨o, ho, rfl⟩ := h
 exact ((ho.2 r).1 (List.mem_filter.1 hr).1).1
theorem rfind_is (A0 : Option Addr) (c0 : Nat) (l : List Rs) (u : Idn) (r : Rs) (w : World) (hr : Reads w w.heap.size 17 A0 l.length (flat Rs.cells l)) (hl1 : l.length ≤ 100000) (hok : ∀ r ∈ l, r.Ok) (hu : findS l u = (r, true)) :
  Calls Tryz.prog 58 #[.slice A0 l.length c0, .agg u.cells.toArray] w fun e w' => e = .returned (.tuple #[.agg r.cells.toArray, .bool true]) ∧ Below w.heap.size w w' :=
 (rfind_any A0 c0 l u w hr hl1 hok).mono fun e w' ⟨⟨p, o, h1, h2⟩, h3, h4⟩ => ⟨by
  have h5 := h2.symm.trans ((find_eq h1).trans hu)
  subst h5
  exact h3, h4⟩
theorem minimalContradicts_walk (A0 : Option Addr) (n0 c0 : Nat) (l0 : List Int) (w : World) (hb0 : Byt w w.heap.size A0 n0 l0) (hc0 : n0 ≤ c0) (hm0 : c0 ≤ maxLen) :
  Calls Tryz.prog 14 #[.slice A0 n0 c0] w fun e w' => e = .returned (.bool true) ∧ Below w.heap.size w w' := by
 have hn0 : (n0 : Int) ≤ 9223372036854775807 := by unfold maxLen at hm0; omega
 refine begin_ (vs := [.slice A0 n0 c0]) Tryz.func14 rfl rfl rfl ?_ (Pm.start w)
 refine zSG (TL.as_ ?_)
 refine zET (zS (zSG ?_))
 refine TL.pcall1 (r := .bool true) rfl rfl rfl rfl rfl Tryz.func43 (by decide) rfl (fun w1 hw => awake42_true w1) ?_
 refine TL.val rfl rfl rfl (gives_boolnot rfl rfl) ?_
 refine zET (zd (zk (zT (zSG (TL.mv ?_)))))
 refine TL.callNew (I := Pm w []) (p := fun cb w => Cod w cb) rfl rfl rfl rfl rfl Tryz.func16 (by decide) rfl (fun w1 hw => (roll_any A0 n0 c0 l0 w1 ((hb0.below hw.bel).more hw.bel.size) hc0 hn0).mono fun e w2 ⟨h1, h2, h3⟩ => ⟨h1, h2, cod_cells h2, h3⟩) cod_stab (fun wn hwn => ?_)
 have hwb := hwn.bel
 refine TL.as_ ?_
 refine zET (zSG (TL.rn 2 rfl ?_))
 refine TL.pcallCod (k := 0) (α := Bool) (fun x => .bool x) (fun x => []) rfl rfl rfl rfl rfl Tryz.func18 (by decide) rfl rfl (fun w1 hw hC1 => dbool_cod wn.heap.size w1 hC1 2 (by decide)) ?_
 rintro b0
 dsimp only [List.cons_append, List.nil_append]
 refine TL.val rfl rfl rfl (gives_boolnot (b := b0) rfl rfl) ?_
 refine TL.pcallCod (k := 0) (α := {y : (Option Addr × Nat) × List Rs // DrawnOk 28 y.2 ∧ y.2.length ≤ y.1.2 ∧ y.1.2 ≤ maxLen}) (fun x => .slice x.1.1.1 x.1.2.length x.1.1.2) (fun x => [.row (.slice x.1.1.1 x.1.2.length x.1.1.2) 65 17 x.1.2.length (flat Rs.cells x.1.2)]) rfl rfl rfl rfl rfl Tryz.func17 (by decide) rfl rfl (fun w1 hw hC1 => results_cod wn.heap.size w1 hC1 28 (!b0) (by decide)) ?_
 rintro ⟨⟨⟨Axs, cxs⟩, xs⟩, hxs, hxsc, hxsm⟩
 dsimp only [List.cons_append, List.nil_append]
 dsimp only at hxs hxsc hxsm ⊢
 have hxslen := hxs.2.2
 have hxsok : ∀ r ∈ xs, r.Ok := fun r hr => (hxs.1 r hr).2.1
 have hxsv : ∀ r ∈ xs, vldRs r = true := fun r hr => (hxs.1 r hr).1
 refine TL.mv ?_
 refine TL.pcallCod (k := 1) (α := {y : (Option Addr × Nat) × List En // ((∀ e ∈ y.2, EnG e) ∧ validR y.2 = true) ∧ y.2.length ≤ 10 ∧ y.2.length ≤ y.1.2 ∧ y.1.2 ≤ maxLen}) (fun x => .agg #[.slice x.1.1.1 x.1.2.length x.1.1.2]) (fun x => [.row (.slice x.1.1.1 x.1.2.length x.1.1.2) 102 5 x.1.2.length (flat En.cells x.1.2)]) rfl rfl rfl rfl rfl Tryz.func19 (by decide) rfl rfl (fun w1 hw hC1 => registryX_cod wn.heap.size w1 hC1 10 (by decide)) ?_
 rintro ⟨⟨⟨Areg, creg⟩, reg⟩, hreg, hregl, hregc, hregm⟩
 dsimp only [List.cons_append, List.nil_append]
 dsimp only at hreg hregl hregc hregm ⊢
 have hregok : ∀ z ∈ reg, z.Ok := fun z hz => (hreg.1 z hz).ok
 refine TL.mv ?_
 refine TL.pcallCod (k := 2) (α := {u : Ru // RuG u}) (fun x => .agg (x.1.cells).toArray) (fun x => []) rfl rfl rfl rfl rfl Tryz.func20 (by decide) rfl rfl (fun w1 hw hC1 => drule_cod wn.heap.size w1 hC1) ?_
 rintro ⟨ru, hru⟩
 dsimp only [List.cons_append, List.nil_append]
 refine TL.pnew rfl rfl rfl (exec_alloc (cs := [.slice none 0 0]) rfl brxzv26 rfl) (fun g5 => ?_)
 refine TL.pnew rfl rfl rfl (exec_alloc (cs := [.int .i64 0, .int .i64 0, .int .i64 0]) rfl adrzv28 rfl) (fun g6 => ?_)
 refine TL.as_ ?_
 refine TL.pstore (k := 1) (vs := [.slice Areg reg.length creg]) rfl rfl rfl rfl rfl rfl rfl bresz26 dntone_s (by show 1 ≤ 1; decide) rfl ?_
 refine TL.pstore (k := 0) (vs := ru.cells) rfl rfl rfl rfl rfl rfl rfl aprsz28 (by first | exact idn_cel.one _ | exact ru_cel.one _) (by show 3 ≤ 3; decide) (L' := [.blk g6 28 ru.cells, .blk g5 26 [.slice Areg reg.length creg], .row (.slice Areg reg.length creg) 102 5 reg.length (flat En.cells reg), .row (.slice Axs xs.length cxs) 65 17 xs.length (flat Rs.cells xs), .abs wn.heap.size (fun w => Cod w wn.heap.size)]) rfl ?_
 refine zET (zSG (TL.mv ?_))
 refine TL.v (gV 1 (.agg #[.slice Areg reg.length creg]) breag26 bresz26) ?_
 refine TL.v (gV 0 (.agg (ru.cells).toArray) aprag28 aprsz28) ?_
 refine TL.pcallPm (α := {y : ((Option Addr × Nat) × List Rp) × Int // FndOk reg xs ru y.1.2 y.2 ∧ y.1.2.length ≤ 100000000000 ∧ y.1.2.length ≤ y.1.1.2 ∧ y.1.1.2 ≤ maxLen}) (fun x => .tuple #[.slice x.1.1.1.1 x.1.1.2.length x.1.1.1.2, .int .i64 x.1.2]) (fun x => [.row (.slice x.1.1.1.1 x.1.1.2.length x.1.1.1.2) 34 8 x.1.1.2.length (flat Rp.cells x.1.1.2)]) rfl rfl rfl rfl rfl Tryz.func39 (by decide) rfl (fun w1 hw => fnd_any Axs cxs xs Areg creg reg ru w1 (pm_rd hw (k := 3) rfl) (by omega) hxsok (pm_rd hw (k := 2) rfl)) ?_
 rintro ⟨⟨⟨⟨Afo, cfo⟩, fo⟩, efo⟩, hfo, hfol, hfoc, hfom⟩
 dsimp only [List.cons_append, List.nil_append]
 dsimp only at hfo hfol hfoc hfom ⊢
 obtain ⟨hfz, hfd⟩ := hfo.good hxsv hreg.2 hru.vld (by omega)
 refine TL.rn 5 rfl (zET (zS (zSG (TL.mv ?_))))
 refine TL.val rfl rfl rfl (gives_bin rfl rfl rfl (fun w => bin_neq_f (hfz) w)) ?_
 refine zET (zd (zk (zT (zS (zSG (TL.mv ?_))))))
 refine TL.v (gN Tryz.underlying49) ?_
 refine TL.mv ?_
 refine zET (zB (TC.loop_ (α := {k : Nat // k ≤ fo.length}) (fun y => [(3, .pointer (some ⟨wn.heap.size, 0, none⟩)), (4, .slice Axs xs.length cxs), (5, .pointer (some ⟨g5, 0, none⟩)), (6, .pointer (some ⟨g6, 0, none⟩)), (41, .slice Afo fo.length cfo), (42, .int .i64 (fo.length : Nat)), (43, .int .i64 ((y.1 : Nat) : Int))]) (fun y => Pm wn [.row (.slice Afo fo.length cfo) 34 8 fo.length (flat Rp.cells fo), .blk g6 28 ru.cells, .blk g5 26 [.slice Areg reg.length creg], .row (.slice Areg reg.length creg) 102 5 reg.length (flat En.cells reg), .row (.slice Axs xs.length cxs) 65 17 xs.length (flat Rs.cells xs), .abs wn.heap.size (fun w => Cod w wn.heap.size)]) (fun y => fo.length - y.1) (⟨0, Nat.zero_le _⟩) ⟨rfl, rfl, rfl, rfl, rfl, rfl, rfl, trivial⟩ (fun w1 hw => hw) ?_))
 rintro ⟨k, hk⟩
 try dsimp only at hk ⊢
 refine zSG ?_
 refine TL.sp bin_lss (fun q44 => ?_) (fun q44 => ?_)
 ·refine zET (zS (zc (zk (zT (zS (zB (zSG ?_)))))))
  refine TL.fact (p := ∃ g, Afo = some ⟨g, 0, none⟩) (fun w1 hw => rowA hw (k := 0) rfl (by omega)) ?_
  rintro ⟨g_Afo, rfl⟩
  have hi45 : k < fo.length := by omega
  obtain ⟨x45, hx45⟩ := ex_at hi45
  refine TL.val rfl rfl rfl (gA (i := k) Tryz.underlying49 aprsz34 rfl rfl rfl rfl rfl (by omega)) ?_
  refine TL.val rfl rfl rfl (gives_loadR (off := 0 + k * 8) rfl rfl aprag34 aprsz34 (rp_cel.len x45) (fun w1 hw j9 u9 h9 => flat_row rp_cel hw (q := 0) rfl hx45 j9 u9 h9)) ?_
  refine TL.pnew rfl rfl rfl (exec_alloc (cs := [.int .i64 0, .int .i64 0, .int .u32 0, .int .i64 0, .int .i64 0, .int .i64 0, .int .i64 0, .int .i64 0]) rfl asezv34 rfl) (fun g10 => ?_)
  refine TL.pstore (k := 0) (vs := x45.cells) rfl rfl rfl rfl rfl rfl rfl aprsz34 (rp_cel.one _) (by show 8 ≤ 8; decide) (L' := [.blk g10 34 x45.cells, .row (.slice (some ⟨g_Afo, 0, none⟩) fo.length cfo) 34 8 fo.length (flat Rp.cells fo), .blk g6 28 ru.cells, .blk g5 26 [.slice Areg reg.length creg], .row (.slice Areg reg.length creg) 102 5 reg.length (flat En.cells reg), .row (.slice Axs xs.length cxs) 65 17 xs.length (flat Rs.cells xs), .abs wn.heap.size (fun w => Cod w wn.heap.size)]) rfl ?_
  refine zET (zS (zSG (TL.v (gF arpfld34_0) ?_)))
  refine TL.v (gL 0 pcmag3) ?_
  refine TL.sp bin_neq (fun q49 => ?_) (fun q49 => ?_)
  ·refine zET (zc (zx (zX (zM (zT (zG (TL.v (gD ((k + 1 : Nat) : Int)) ?_)))))))
   refine TL.mv ?_
   refine zE ?_
   exact TX.round (⟨k + 1, by omega⟩) (by show fo.length - (k + 1) < fo.length - k; omega) ⟨rfl, rfl, rfl, rfl, rfl, rfl, rfl, trivial⟩ (fun w1 hw => hw.pick [1, 2, 3, 4, 5, 6] (by decide) rfl)
  refine zET (zd (zk (zT (zSG (TL.mv ?_)))))
  refine TL.v (gV 3 (.agg #[.slice Areg reg.length creg]) breag26 bresz26) ?_
  refine TL.v (gV 2 (.agg (ru.cells).toArray) aprag28 aprsz28) ?_
  refine TL.v (gV 0 (.agg (x45.cells).toArray) aprag34 aprsz34) ?_
  refine TL.pcallPm (α := {y : ((Option Addr × Nat) × List Idn) × Int // MinOk reg xs ru x45 y.1.2 y.2 ∧ y.1.2.length ≤ 512 ∧ y.1.2.length ≤ y.1.1.2 ∧ y.1.1.2 ≤ maxLen}) (fun x => .tuple #[.slice x.1.1.1.1 x.1.1.2.length x.1.1.1.2, .int .i64 x.1.2]) (fun x => [.row (.slice x.1.1.1.1 x.1.1.2.length x.1.1.1.2) 73 3 x.1.1.2.length (flat Idn.cells x.1.1.2)]) rfl rfl rfl rfl rfl Tryz.func44 (by decide) rfl (fun w1 hw => min_any Axs cxs xs Areg creg reg ru x45 w1 (pm_rd hw (k := 5) rfl) (by omega) hxsok (pm_rd hw (k := 4) rfl)) ?_
  rintro ⟨⟨⟨⟨Ams, cms⟩, ms⟩, ems⟩, hms, hmsl, hmsc, hmsm⟩
  dsimp only [List.cons_append, List.nil_append]
  dsimp only at hms hmsl hmsc hmsm ⊢
  obtain ⟨hcz, r0, r1, hms2, hr0, hr1, hct, ht0, ht1⟩ := contra_law hxs (by decide) (hfd.prP (List.mem_of_getElem? hx45)) (Decidable.not_not.1 q49) hms
  have hl2 : ms.length = 2 := by rw [hms2]; rfl
  refine TL.rn 5 rfl (zET (zS (zSG (TL.mv ?_))))
  refine TL.val rfl rfl rfl (gives_bin rfl rfl rfl (fun w => bin_neq_f (hcz) w)) ?_
  refine TL.rn 2 rfl (TL.ov (gN Tryz.underlying67) ?_)
  refine TL.gu ?_
  refine TL.val rfl rfl rfl (gives_bin rfl rfl rfl (fun w => bin_neq_f ((by omega)) w)) ?_
  refine TL.pk ?_
  refine zET (zd (zk (zT (zSG (TL.rn 2 rfl ?_)))))
  refine TL.fact (p := ∃ g, Ams = some ⟨g, 0, none⟩) (fun w1 hw => rowA hw (k := 0) rfl (by omega)) ?_
  rintro ⟨g_Ams, rfl⟩
  have hi68 : 0 < ms.length := by omega
  obtain ⟨x68, hx68⟩ := ex_at hi68
  have ex68 : x68 = idnR r0 := by rw [hms2] at hx68; exact (Option.some.inj hx68).symm
  refine TL.val rfl rfl rfl (gA (i := 0) Tryz.underlying67 prssz73 rfl rfl rfl rfl rfl (by omega)) ?_
  refine TL.val rfl rfl rfl (gives_loadR (off := 0 + 0 * 3) rfl rfl pofag73 prssz73 (idn_cel.len x68) (fun w1 hw j9 u9 h9 => flat_row idn_cel hw (q := 0) rfl hx68 j9 u9 h9)) ?_
  refine TL.pcall1 (r := .tuple #[.agg (r0.cells).toArray, .bool true]) rfl rfl rfl rfl rfl Tryz.func58 (by decide) rfl (fun w1 hw => rfind_is Axs cxs xs x68 r0 w1 (pm_rd hw (k := 6) rfl) (by omega) hxsok (by rw [ex68]; exact findS_idn (drawn_inj hxs) hxsv hr0)) ?_
  refine TL.rn 3 rfl ?_
  refine TL.pnew rfl rfl rfl (exec_alloc (cs := [.int .i64 0, .int .i64 0, .int .i64 0, .int .i64 0, .int .u32 0, .int .i64 0, .int .i64 0, .int .i64 0, .bool false, .bool false, .int .i64 0, .int .u32 0, .int .i64 0, .int .i64 0, .int .i64 0, .int .i64 0, .int .i64 0]) rfl arpzv65 rfl) (fun g13 => ?_)
  refine TL.pstore (k := 0) (vs := r0.cells) rfl rfl rfl rfl rfl rfl rfl prssz65 (rs_cel.one _) (by show 17 ≤ 17; decide) (L' := [.blk g13 65 r0.cells, .row (.slice (some ⟨g_Ams, 0, none⟩) ms.length cms) 73 3 ms.length (flat Idn.cells ms), .blk g10 34 x45.cells, .row (.slice (some ⟨g_Afo, 0, none⟩) fo.length cfo) 34 8 fo.length (flat Rp.cells fo), .blk g6 28 ru.cells, .blk g5 26 [.slice Areg reg.length creg], .row (.slice Areg reg.length creg) 102 5 reg.length (flat En.cells reg), .row (.slice Axs xs.length cxs) 65 17 xs.length (flat Rs.cells xs), .abs wn.heap.size (fun w => Cod w wn.heap.size)]) rfl ?_
  refine TL.as_ ?_
  refine zET (zSG (TL.rn 2 rfl ?_))
  have hi76 : 1 < ms.length := by omega
  obtain ⟨x76, hx76⟩ := ex_at hi76
  have ex76 : x76 = idnR r1 := by rw [hms2] at hx76; exact (Option.some.inj hx76).symm
  refine TL.val rfl rfl rfl (gA (i := 1) Tryz.underlying67 prssz73 rfl rfl rfl rfl rfl (by omega)) ?_
  refine TL.val rfl rfl rfl (gives_loadR (off := 0 + 1 * 3) rfl rfl pofag73 prssz73 (idn_cel.len x76) (fun w1 hw j9 u9 h9 => flat_row idn_cel hw (q := 1) rfl hx76 j9 u9 h9)) ?_
  refine TL.pcall1 (r := .tuple #[.agg (r1.cells).toArray, .bool true]) rfl rfl rfl rfl rfl Tryz.func58 (by decide) rfl (fun w1 hw => rfind_is Axs cxs xs x76 r1 w1 (pm_rd hw (k := 7) rfl) (by omega) hxsok (by rw [ex76]; exact findS_idn (drawn_inj hxs) hxsv hr1)) ?_
  refine TL.rn 3 rfl ?_
  refine TL.pnew rfl rfl rfl (exec_alloc (cs := [.int .i64 0, .int .i64 0, .int .i64 0, .int .i64 0, .int .u32 0, .int .i64 0, .int .i64 0, .int .i64 0, .bool false, .bool false, .int .i64 0, .int .u32 0, .int .i64 0, .int .i64 0, .int .i64 0, .int .i64 0, .int .i64 0]) rfl arpzv65 rfl) (fun g15 => ?_)
  refine TL.pstore (k := 0) (vs := r1.cells) rfl rfl rfl rfl rfl rfl rfl prssz65 (rs_cel.one _) (by show 17 ≤ 17; decide) (L' := [.blk g15 65 r1.cells, .blk g13 65 r0.cells, .row (.slice (some ⟨g_Ams, 0, none⟩) ms.length cms) 73 3 ms.length (flat Idn.cells ms), .blk g10 34 x45.cells, .row (.slice (some ⟨g_Afo, 0, none⟩) fo.length cfo) 34 8 fo.length (flat Rp.cells fo), .blk g6 28 ru.cells, .blk g5 26 [.slice Areg reg.length creg], .row (.slice Areg reg.length creg) 102 5 reg.length (flat En.cells reg), .row (.slice Axs xs.length cxs) 65 17 xs.length (flat Rs.cells xs), .abs wn.heap.size (fun w => Cod w wn.heap.size)]) rfl ?_
  refine TL.as_ ?_
  refine zET (zSG (TL.mv ?_))
  refine TL.v (gF arpfld34_1) ?_
  refine TL.v (gV 3 (.agg #[.int .i64 x45.v, .int .u32 x45.dst, .int .i64 x45.proto]) pcpag32 prssz32) ?_
  refine TL.pcallPm (α := {y : (Option Addr × Nat) × List Rs // IsOf xs x45.trc y.2 ∧ y.2.length ≤ y.1.2 ∧ y.1.2 ≤ maxLen}) (fun x => .slice x.1.1.1 x.1.2.length x.1.1.2) (fun x => [.row (.slice x.1.1.1 x.1.2.length x.1.1.2) 65 17 x.1.2.length (flat Rs.cells x.1.2)]) rfl rfl rfl rfl rfl Tryz.func60 (by decide) rfl (fun w1 hw => rof_any Axs cxs xs x45.trc w1 (pm_rd hw (k := 8) rfl) (by omega) hxsok) ?_
  rintro ⟨⟨⟨R85, rc85⟩, of85⟩, hP85, hR851, hR852⟩
  dsimp only [List.cons_append, List.nil_append]
  dsimp only at hP85 hR851 hR852 ⊢
  refine TL.pcallPm (α := {y : Nat × Int // CutP of85 y.1 y.2}) (fun x => .tuple #[.int .i64 ((x.1.1 : Nat) : Int), .int .i64 x.1.2]) (fun x => []) rfl rfl rfl rfl rfl Tryz.func59 (by decide) rfl (fun w1 hw => (few_any R85 rc85 of85 w1 (pm_rd hw (k := 0) rfl) (by have h9 := hP85.le_; omega) (fun r hr => hxsok r (of_sub hP85 r hr))).mono fun en w2 ⟨x, h1, h2⟩ => ⟨x, h1, (Pm.start w1).below h2⟩) ?_
  rintro ⟨⟨fn, fz⟩, hfw⟩
  dsimp only [List.cons_append, List.nil_append]
  dsimp only at hfw ⊢
  obtain ⟨hz0, hn2⟩ := few_law hxs (by decide) hP85 hr0 hr1 ht0 ht1 hct hfw
  refine TL.rn 5 rfl (zET (zSG (TL.rn 7 rfl (TL.ov (gV 2 (.agg (r0.cells).toArray) prsag65 prssz65) ?_))))
  refine TL.ov (gV 1 (.agg (r1.cells).toArray) prsag65 prssz65) ?_
  refine TL.gu ?_
  refine TL.pcall1 (r := .bool true) rfl rfl rfl rfl rfl Tryz.func61 (by decide) rfl (fun w1 hw => calls_b (ctrE_any r0 r1 w1) hct) ?_
  refine TL.rn 4 rfl (TL.gu ?_)
  refine TL.val rfl rfl rfl (gives_bin rfl rfl rfl (fun w => bin_neq_f (hz0) w)) ?_
  refine TL.rn 3 rfl (TL.gu ?_)
  refine TL.val rfl rfl rfl (gives_bin rfl rfl rfl (fun w => bin_lss_f ((by omega)) w)) ?_
  refine TL.pk ?_
  refine zET (zd (zk (zN (zT (zG (TL.v (gD ((k + 1 : Nat) : Int)) ?_))))))
  refine TL.mv ?_
  refine zE ?_
  exact TX.round (⟨k + 1, by omega⟩) (by show fo.length - (k + 1) < fo.length - k; omega) ⟨rfl, rfl, rfl, rfl, rfl, rfl, rfl, trivial⟩ (fun w1 hw => hw.pick [5, 6, 7, 8, 9, 10] (by decide) rfl)
 refine zET (zS (zd (zx (zX (zX (zM (zT (zSG (TL.as_ ?_)))))))))
 refine zET (zr ?_)
 exact ret_tmp Tryz.results14 rfl (fun w1 hw => ⟨rfl, hwb.trans (hw.bel.mono hwb.size)⟩)
end Go.Proofs.YtijmpjfafpodhaaGreat
