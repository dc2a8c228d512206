/-
  Texts of the proof, joined: JrSeg, JrAp, JrRAc, JrBook, JrRecLaw, JrJrnLaw, JrAc, JrSame, JrJoin, JrLawH, DgLaid, Frame.
-/
import Derived.Test.YtmeaeeehnkcblaaDoorPr3
import Derived.Test.YtmeaeeehnkcblaaDoorPr4
import Derived.Test.YtmeaeeehnkcblaaDoorPr2
import Derived.Test.YtmeaeeehnkcblaaDoorPr1
import Derived.Test.YtmeaeeehnkcblaaDoorRows
import Derived.ProofKit
import Derived.LaidMore
import Derived.OpenShut
import Derived.Stop.Joined
set_option linter.unusedVariables false
set_option linter.unusedSimpArgs false
namespace Go.Proofs.YtmeaeeehnkcblaaDoor
open Go.RowKit
set_option maxRecDepth 20000
theorem jsegsz27 (w : World) : (sizeOf 27).run Tryd.prog w = .ok 17 w := rfl
theorem jsegag27 (w : World) : (isAgg 27).run Tryd.prog w = .ok true w := rfl
theorem jsegbs72_4_78574 (a0_0 : Int) (a1_0 : Int) (a2_0 : Int) (a3_0 : Int) (w : World) : (Instr.buildSlice 72 4 #[(0, .int .u8 a0_0), (1, .int .u8 a1_0), (2, .int .u8 a2_0), (3, .int .u8 a3_0)]).run Tryd.prog w = .ok (.slice (some ⟨w.heap.size, 0, none⟩) 4 4) (w.alloc (.cells [.int .u8 a0_0, .int .u8 a1_0, .int .u8 a2_0, .int .u8 a3_0].toArray 5)) := by kernel_rfl
theorem jsegzv72 (w : World) : (zeroValue 72).run Tryd.prog w = .ok (.slice none 0 0) w := rfl
theorem jsegsz72 (w : World) : (sizeOf 72).run Tryd.prog w = .ok 1 w := rfl
theorem jsegone_s {a0 : Option Addr} {n0 c0 : Nat} : ∀ u ∈ [(.slice a0 n0 c0 : Value)], u.oneCell' = true := by
 intro u hu
 rw [List.mem_singleton] at hu
 subst hu; rfl
theorem jsegfld45_0 (g o : Nat) (w : World) : (Instr.fieldAt 45 (.pointer (some ⟨g, o, none⟩)) 0).run Tryd.prog w = .ok (.pointer (some ⟨g, o + 0, none⟩)) w := by kernel_rfl
theorem jsegag3 (w : World) : (isAgg 3).run Tryd.prog w = .ok false w := rfl
theorem jsegnm43 : (Tryd.f43.name == "runtime.NumGoroutine") = false := by decide
theorem jsegbd43 : Tryd.f43.body.isNone = false := rfl
theorem jsegfld45_1 (g o : Nat) (w : World) : (Instr.fieldAt 45 (.pointer (some ⟨g, o, none⟩)) 1).run Tryd.prog w = .ok (.pointer (some ⟨g, o + 1, none⟩)) w := by kernel_rfl
theorem jsegfld45_2 (g o : Nat) (w : World) : (Instr.fieldAt 45 (.pointer (some ⟨g, o, none⟩)) 2).run Tryd.prog w = .ok (.pointer (some ⟨g, o + 2, none⟩)) w := by kernel_rfl
theorem jsegag72 (w : World) : (isAgg 72).run Tryd.prog w = .ok false w := rfl
theorem jsegel72 : Elem Tryd.prog 72 5 1 1 := Elem.mk' Tryd.underlying72 (z := .int .u8 0) (by kernel_rfl) rfl (by omega) (by omega)
theorem jsegzv27 (w : World) : (zeroValue 27).run Tryd.prog w = .ok (.agg #[.int .i64 0, .int .i64 0, .int .i64 0, .int .i64 0, .int .u32 0, .int .i64 0, .int .i64 0, .int .i64 0, .bool false, .bool false, .int .i64 0, .int .u32 0, .int .i64 0, .int .i64 0, .int .i64 0, .int .i64 0, .int .i64 0]) w := rfl
theorem jsegnm12 : (Tryd.f12.name == "runtime.NumGoroutine") = false := by decide
theorem jsegbd12 : Tryd.f12.body.isNone = false := rfl
theorem jsegnm30 : (Tryd.f30.name == "runtime.NumGoroutine") = false := by decide
theorem jsegbd30 : Tryd.f30.body.isNone = false := rfl
theorem jsegzv45 (w : World) : (zeroValue 45).run Tryd.prog w = .ok (.agg #[.int .i64 0, .int .i64 0, .int .i64 0, .slice none 0 0]) w := rfl
theorem jsegbs28_4_78574 (a0_0 : Int) (a1_0 : Int) (a2_0 : Int) (a3_0 : Int) (w : World) : (Instr.buildSlice 28 4 #[(0, .int .u8 a0_0), (1, .int .u8 a1_0), (2, .int .u8 a2_0), (3, .int .u8 a3_0)]).run Tryd.prog w = .ok (.slice (some ⟨w.heap.size, 0, none⟩) 4 4) (w.alloc (.cells [.int .u8 a0_0, .int .u8 a1_0, .int .u8 a2_0, .int .u8 a3_0].toArray 5)) := by kernel_rfl
theorem jsegnm44 : (Tryd.f44.name == "runtime.NumGoroutine") = false := by decide
theorem jsegbd44 : Tryd.f44.body.isNone = false := rfl
theorem jsegfld45_3 (g o : Nat) (w : World) : (Instr.fieldAt 45 (.pointer (some ⟨g, o, none⟩)) 3).run Tryd.prog w = .ok (.pointer (some ⟨g, o + 3, none⟩)) w := by kernel_rfl
theorem jsegag28 (w : World) : (isAgg 28).run Tryd.prog w = .ok false w := rfl
theorem jsegel28 : Elem Tryd.prog 28 5 1 1 := Elem.mk' Tryd.underlying28 (z := .int .u8 0) (by kernel_rfl) rfl (by omega) (by omega)
theorem jsegnm13 : (Tryd.f13.name == "runtime.NumGoroutine") = false := by decide
theorem jsegbd13 : Tryd.f13.body.isNone = false := rfl
theorem jsegnm29 : (Tryd.f29.name == "runtime.NumGoroutine") = false := by decide
theorem jsegbd29 : Tryd.f29.body.isNone = false := rfl
theorem jsegsz3 (w : World) : (sizeOf 3).run Tryd.prog w = .ok 1 w := rfl
theorem jsegone_i64 {a0 : Int} : ∀ u ∈ [(.int .i64 a0 : Value)], u.oneCell' = true := by
 intro u hu
 rw [List.mem_singleton] at hu
 subst hu; rfl
theorem jsegnm57 : (Tryd.f57.name == "runtime.NumGoroutine") = false := by decide
theorem jsegbd57 : Tryd.f57.body.isNone = false := rfl
theorem jsegsz28 (w : World) : (sizeOf 28).run Tryd.prog w = .ok 1 w := rfl
theorem jsegag45 (w : World) : (isAgg 45).run Tryd.prog w = .ok true w := rfl
theorem jsegsz45 (w : World) : (sizeOf 45).run Tryd.prog w = .ok 4 w := rfl
theorem jsegone_i64i64i64s {a0 : Int} {a1 : Int} {a2 : Int} {a3 : Option Addr} {n3 c3 : Nat} : ∀ u ∈ [(.int .i64 a0 : Value), .int .i64 a1, .int .i64 a2, .slice a3 n3 c3], u.oneCell' = true := by
 intro u hu
 simp only [List.mem_cons, List.not_mem_nil, or_false] at hu
 rcases hu with rfl | rfl | rfl | rfl <;> rfl
set_option maxHeartbeats 2000000 in
theorem seg_any (v run n : Int) (A0 : Option Addr) (n0 c0 : Nat) (A1 : Option Addr) (n1 c1 : Nat) (d : List Int) (A2 : Option Addr) (c2 : Nat) (rl : List Rs) (A3 : Option Addr) (n3 c3 : Nat) (key : List Int) (w : World) (hb1 : Byt w w.heap.size A1 n1 d) (hr2 : Reads w w.heap.size 17 A2 rl.length (rcs rl)) (hb3 : Byt w w.heap.size A3 n3 key) (hv0 : 0 ≤ v) (hv1 : v ≤ 255) (hr0 : 0 ≤ run) (hr1 : run ≤ 255) (hn0 : 0 ≤ n) (hn1 : n ≤ 65535) (hm : rl.length ≤ 255) (hd : d.length ≤ 10000) (hk : n3 ≤ 1000000000) (hOk : ∀ r ∈ rl, r.Ok) {ts tk : TypeId} (hst : Blk w 0 ts start8.cells) (hky : Blk w 1 tk (arrOf keysL)) :
  Calls Tryd.prog 59 #[.agg #[.int .i64 v, .int .i64 run, .int .i64 n, .slice A0 n0 c0], .slice A1 n1 c1, .slice A2 rl.length c2, .slice A3 n3 c3] w fun e w' => ∃ A c, e = .returned (.slice A (segL v run n d rl key).length c) ∧ (segL v run n d rl key).length ≤ c ∧ c ≤ maxLen ∧ w'.ownsRow w.heap.size 5 1 (.slice A (segL v run n d rl key).length c) (segL v run n d rl key).length (bv (segL v run n d rl key)) ∧ Below w.heap.size w w' := by
 have hl1 := hb1.len
 refine begin_ (vs := [.agg #[.int .i64 v, .int .i64 run, .int .i64 n, .slice A0 n0 c0], .slice A1 n1 c1, .slice A2 rl.length c2, .slice A3 n3 c3]) Tryd.func59 rfl rfl rfl ?_ (Pm.start w)
 refine TC.seq_ (TC.region ?_)
 refine TL.pnew rfl rfl rfl (exec_box (cs := [.int .i64 v, .int .i64 run, .int .i64 n, .slice A0 n0 c0]) rfl rfl rfl) (fun g4 => ?_)
 refine TL.as_ ?_
 refine TL.end_ (TX.then_ (TC.seq_ (TC.region ?_)))
 refine TL.prowS (e := 5) (size := 1) (cs := bv rsj) rfl rfl rfl rfl rfl (fun w => jsegbs72_4_78574 _ _ _ _ w) (by decide) rfl (fun g14 => ?_)
 refine TL.mark (k := 0) rfl rfl rfl rfl rfl Tryd.underlying72 Tryd.underlying5 rfl ?_
 refine TL.pnew rfl rfl rfl (exec_alloc (cs := [.slice none 0 0]) rfl jsegzv72 rfl) (fun g9 => ?_)
 refine TL.pstore (k := 0) (vs := [.slice (some ⟨g14, 0, none⟩) 4 4]) rfl rfl rfl rfl rfl rfl rfl jsegsz72 jsegone_s (by show 1 ≤ 1; decide) (L' := [.blk g9 72 [.slice (some ⟨g14, 0, none⟩) 4 4], .oth g14 (.cells (bv rsj).toArray 5 (4, 4 + 1)), .blk g4 45 [.int .i64 v, .int .i64 run, .int .i64 n, .slice A0 n0 c0]]) rfl ?_
 refine TL.end_ (TX.then_ (TC.seq_ (TC.region ?_)))
 refine TL.val rfl rfl rfl (gives_field (v := .pointer (some ⟨g4, 0, none⟩)) rfl rfl (fun w => jsegfld45_0 _ _ w)) ?_
 refine TL.val rfl rfl rfl (pm_load (k := 2) (i := 0) rfl rfl jsegag3 rfl rfl) ?_
 refine TL.pcallChg (k := 0) (α := {p : Option Addr × Nat // 5 ≤ p.2 ∧ p.2 ≤ maxLen}) (fun y => .tuple #[]) (fun y => [.slice y.1.1 5 y.1.2]) (fun y => [.row (.slice y.1.1 5 y.1.2) 5 1 5 (bv (rsj ++ enc v 1))]) rfl rfl rfl rfl rfl Tryd.func43 jsegnm43 jsegbd43 rfl (fun w1 hw => wput g9 (some ⟨g14, 0, none⟩) 4 4 (rsj) v 1 w1 (hw.at_ (k := 0) rfl).1 (byt_oth (hw.at_ (k := 1) rfl).1 rsj_bs rfl) (fun _ ad e hg => hw.neq (i := 1) (j := 0) rfl rfl (by decide) ad.block (by first | (subst e; rfl) | (cases e; rfl)) (congrArg some hg.symm)) (by omega) hv0 (by simp only [Int.pow_succ, Int.pow_zero]; omega) (by decide) (by decide)) ?_
 rintro ⟨⟨A18, c18⟩, hA181, hA182⟩
 dsimp only [List.cons_append, List.nil_append, List.set]
 dsimp only at hA181 hA182
 refine TL.end_ (TX.then_ (TC.seq_ (TC.region ?_)))
 refine TL.val rfl rfl rfl (gives_field (v := .pointer (some ⟨g4, 1, none⟩)) rfl rfl (fun w => jsegfld45_1 _ _ w)) ?_
 refine TL.val rfl rfl rfl (pm_load (k := 3) (i := 1) rfl rfl jsegag3 rfl rfl) ?_
 refine TL.pcallChg (k := 1) (α := {p : Option Addr × Nat // 6 ≤ p.2 ∧ p.2 ≤ maxLen}) (fun y => .tuple #[]) (fun y => [.slice y.1.1 6 y.1.2]) (fun y => [.row (.slice y.1.1 6 y.1.2) 5 1 6 (bv ((rsj ++ enc v 1) ++ enc run 1))]) rfl rfl rfl rfl rfl Tryd.func43 jsegnm43 jsegbd43 rfl (fun w1 hw => wput g9 A18 5 c18 (rsj ++ enc v 1) run 1 w1 (hw.at_ (k := 1) rfl).1 (byt_own (hw.at_ (k := 0) rfl) (rsj_bs.app (enc_bs _ _))) (fun _ ad e hg => hw.neq (i := 0) (j := 1) rfl rfl (by decide) ad.block (by first | (subst e; rfl) | (cases e; rfl)) (congrArg some hg.symm)) (by omega) hr0 (by simp only [Int.pow_succ, Int.pow_zero]; omega) (by decide) (by decide)) ?_
 rintro ⟨⟨A21, c21⟩, hA211, hA212⟩
 dsimp only [List.cons_append, List.nil_append, List.set]
 dsimp only at hA211 hA212
 refine TL.end_ (TX.then_ (TC.seq_ (TC.region ?_)))
 refine TL.val rfl rfl rfl (gives_field (v := .pointer (some ⟨g4, 2, none⟩)) rfl rfl (fun w => jsegfld45_2 _ _ w)) ?_
 refine TL.val rfl rfl rfl (pm_load (k := 4) (i := 2) rfl rfl jsegag3 rfl rfl) ?_
 refine TL.pcallChg (k := 2) (α := {p : Option Addr × Nat // 8 ≤ p.2 ∧ p.2 ≤ maxLen}) (fun y => .tuple #[]) (fun y => [.slice y.1.1 8 y.1.2]) (fun y => [.row (.slice y.1.1 8 y.1.2) 5 1 8 (bv (((rsj ++ enc v 1) ++ enc run 1) ++ enc n 2))]) rfl rfl rfl rfl rfl Tryd.func43 jsegnm43 jsegbd43 rfl (fun w1 hw => wput g9 A21 6 c21 ((rsj ++ enc v 1) ++ enc run 1) n 2 w1 (hw.at_ (k := 2) rfl).1 (byt_own (hw.at_ (k := 0) rfl) ((rsj_bs.app (enc_bs _ _)).app (enc_bs _ _))) (fun _ ad e hg => hw.neq (i := 0) (j := 2) rfl rfl (by decide) ad.block (by first | (subst e; rfl) | (cases e; rfl)) (congrArg some hg.symm)) (by omega) hn0 (by simp only [Int.pow_succ, Int.pow_zero]; omega) (by decide) (by decide)) ?_
 rintro ⟨⟨A24, c24⟩, hA241, hA242⟩
 dsimp only [List.cons_append, List.nil_append, List.set]
 dsimp only at hA241 hA242
 refine TL.end_ (TX.then_ (TC.seq_ (TC.region ?_)))
 refine TL.mv ?_
 refine TL.val rfl rfl rfl (gives_len rfl Tryd.underlying33 rfl) ?_
 refine TL.pcallChg (k := 3) (α := {p : Option Addr × Nat // 9 ≤ p.2 ∧ p.2 ≤ maxLen}) (fun y => .tuple #[]) (fun y => [.slice y.1.1 9 y.1.2]) (fun y => [.row (.slice y.1.1 9 y.1.2) 5 1 9 (bv ((((rsj ++ enc v 1) ++ enc run 1) ++ enc n 2) ++ enc (rl.length : Nat) 1))]) rfl rfl rfl rfl rfl Tryd.func43 jsegnm43 jsegbd43 rfl (fun w1 hw => wput g9 A24 8 c24 (((rsj ++ enc v 1) ++ enc run 1) ++ enc n 2) (rl.length : Nat) 1 w1 (hw.at_ (k := 3) rfl).1 (byt_own (hw.at_ (k := 0) rfl) (((rsj_bs.app (enc_bs _ _)).app (enc_bs _ _)).app (enc_bs _ _))) (fun _ ad e hg => hw.neq (i := 0) (j := 3) rfl rfl (by decide) ad.block (by first | (subst e; rfl) | (cases e; rfl)) (congrArg some hg.symm)) (by omega) (by omega) (by simp only [Int.pow_succ, Int.pow_zero]; omega) (by decide) (by decide)) ?_
 rintro ⟨⟨A27, c27⟩, hA271, hA272⟩
 dsimp only [List.cons_append, List.nil_append, List.set]
 dsimp only at hA271 hA272
 refine TL.end_ (TX.then_ (TC.seq_ (TC.region ?_)))
 refine TL.val rfl rfl rfl (pm_load (k := 4) (i := 0) rfl rfl jsegag72 rfl rfl) ?_
 refine TL.mv ?_
 refine TL.appendT (k := 0) rfl rfl rfl rfl Tryd.underlying28 jsegel72 rfl rfl rfl (fun w1 hw => ⟨_, (hb1.below hw.bel).1⟩) (bv_one _) (by have := hb1.len; omega) ((segW v run n rl.length d rl 0).length) (by rw [segW_zero, List.length_append, segH_len, hb1.len]) (bv (segW v run n rl.length d rl 0)) (by rw [segW_zero, bv_app]; rfl) (fun A30 c30 hA301 hA302 => ?_)
 refine TL.pstore (k := 4) (vs := [.slice A30 ((segW v run n rl.length d rl 0).length) c30]) rfl rfl rfl rfl rfl rfl rfl jsegsz72 jsegone_s (by show 1 ≤ 1; decide) (L' := [.row (.slice A30 ((segW v run n rl.length d rl 0).length) c30) 5 1 ((segW v run n rl.length d rl 0).length) (bv (segW v run n rl.length d rl 0)), .row (.slice A24 8 c24) 5 1 8 (bv (((rsj ++ enc v 1) ++ enc run 1) ++ enc n 2)), .row (.slice A21 6 c21) 5 1 6 (bv ((rsj ++ enc v 1) ++ enc run 1)), .row (.slice A18 5 c18) 5 1 5 (bv (rsj ++ enc v 1)), .blk g9 72 [.slice A30 ((segW v run n rl.length d rl 0).length) c30], .oth g14 (.cells (bv rsj).toArray 5 (4, 4 + 1)), .blk g4 45 [.int .i64 v, .int .i64 run, .int .i64 n, .slice A0 n0 c0]]) rfl ?_
 refine TL.end_ (TX.then_ (TC.seq_ (TC.seq_ (TC.region ?_))))
 refine TL.mv ?_
 refine TL.val rfl rfl rfl (gives_len rfl Tryd.underlying33 rfl) ?_
 refine TL.mv ?_
 refine TL.end_ (TX.then_ (TC.block ?_))
 refine TC.loop_ (α := {y : Nat × Option Addr × Nat // y.1 ≤ rl.length ∧ (segW v run n rl.length d rl y.1).length ≤ y.2.2 ∧ y.2.2 ≤ maxLen}) (fun y => [(3, .slice A3 n3 c3), (9, .pointer (some ⟨g9, 0, none⟩)), (31, .slice A2 rl.length c2), (32, .int .i64 (rl.length : Nat)), (33, .int .i64 (y.1.1 : Nat))]) (fun y => Pm w [.row (.slice y.1.2.1 ((segW v run n rl.length d rl y.1.1).length) y.1.2.2) 5 1 ((segW v run n rl.length d rl y.1.1).length) (bv (segW v run n rl.length d rl y.1.1)), .blk g9 72 [.slice y.1.2.1 ((segW v run n rl.length d rl y.1.1).length) y.1.2.2]]) (fun y => rl.length - y.1.1) (⟨(0, A30, c30), Nat.zero_le _, hA301, hA302⟩) ⟨rfl, rfl, rfl, rfl, rfl, trivial⟩ (fun w1 hw => hw.pick [0, 4] (by decide) rfl) ?_
 rintro ⟨⟨i, A, c⟩, hi, hc, hc9⟩
 dsimp only at hi hc hc9 ⊢
 refine TC.seq_ (TC.region ?_)
 refine TL.vsplit rfl rfl rfl (gives_bin rfl rfl rfl (fun w => bin_lss w)) (fun h34 => ?_) (fun h34 => ?_)
 ·have q34 := of_decide_eq_true h34
  have hi2 : i < rl.length := by omega
  obtain ⟨r, hxr⟩ : ∃ r, rl[i]? = some r := ⟨_, List.getElem?_eq_getElem hi2⟩
  obtain ⟨b2, o2, hA2, hbb2, hc2⟩ := hr2.ad (by omega) (by decide)
  have hro := hOk r (List.mem_of_getElem? hxr)
  have hle := segW_le v run n rl.length d rl i
  have hle2 := segW_le v run n rl.length d rl (i + 1)
  have hen := encO_len r
  have hen2 : (encO r).length ≤ 37 := by rw [hen]; split <;> omega
  refine TL.end_ (TX.then_ (TC.seq_ (TC.condT rfl (TC.skip_ (TX.then_ (TC.seq_ (TC.block (TC.seq_ (TC.region ?_)))))))))
  refine TL.val rfl rfl rfl (gives_at (v := .pointer (some ⟨b2, o2 + i * 17, none⟩)) rfl rfl rfl (fun w => at_el Tryd.underlying33 jsegsz27 hA2 _ _ i hi2 rfl w)) ?_
  refine TL.val rfl rfl rfl (gives_loadR rfl rfl jsegag27 jsegsz27 (rs_cells_len r) (fun w1 hw j u hu => (hw.bel.cell hbb2).trans (rcs_cell hxr hc2 j u hu))) ?_
  refine TL.pnew rfl rfl rfl (exec_alloc (cs := [.int .i64 0, .int .i64 0, .int .i64 0, .int .i64 0, .int .u32 0, .int .i64 0, .int .i64 0, .int .i64 0, .bool false, .bool false, .int .i64 0, .int .u32 0, .int .i64 0, .int .i64 0, .int .i64 0, .int .i64 0, .int .i64 0]) rfl jsegzv27 rfl) (fun g11 => ?_)
  refine TL.pstore (k := 0) (vs := r.cells) rfl rfl rfl rfl rfl rfl rfl jsegsz27 (rs_one r) (by show 17 ≤ 17; decide) (L' := [.blk g11 27 r.cells, .row (.slice A ((segW v run n rl.length d rl i).length) c) 5 1 ((segW v run n rl.length d rl i).length) (bv (segW v run n rl.length d rl i)), .blk g9 72 [.slice A ((segW v run n rl.length d rl i).length) c]]) rfl ?_
  refine TL.end_ (TX.then_ (TC.seq_ (TC.region ?_)))
  refine TL.val rfl rfl rfl (pm_loadV (k := 0) (i := 0) (n := 17) (v := .agg (r.cells).toArray) rfl rfl jsegag27 jsegsz27 rfl (by show 17 ≤ 17; decide) rfl) ?_
  refine TL.pcallPair (n := (encO r).length) (ys := bv (encO r)) (v := .int .i64 (chkR r)) rfl rfl rfl rfl rfl Tryd.func12 jsegnm12 jsegbd12 (fun w1 hw => encode_any r hro w1) (fun A39 c39 hA391 hA392 => ?_)
  iterate 5 (first | refine TL.as_ ?_ | refine TL.ex ?_ | refine TL.mv ?_)
  refine TL.end_ (TX.then_ (TC.region ?_))
  refine TL.val rfl rfl rfl (pm_load (k := 3) (i := 0) rfl rfl jsegag72 rfl rfl) ?_
  refine TL.mv ?_
  refine TL.appendT (k := 2) rfl rfl rfl rfl Tryd.underlying28 jsegel72 rfl rfl rfl (fun w1 hw => pm_reads hw (k := 0) rfl) (bv_one _) (by omega) ((segW v run n rl.length d rl (i + 1)).length) (by rw [segW_succ hxr, List.length_append]) (bv (segW v run n rl.length d rl (i + 1))) (by rw [segW_succ hxr, bv_app]) (fun A44 c44 hA441 hA442 => ?_)
  refine TL.pstore (k := 3) (vs := [.slice A44 ((segW v run n rl.length d rl (i + 1)).length) c44]) rfl rfl rfl rfl rfl rfl rfl jsegsz72 jsegone_s (by show 1 ≤ 1; decide) (L' := [.row (.slice A39 ((encO r).length) c39) 5 1 ((encO r).length) (bv (encO r)), .blk g11 27 r.cells, .row (.slice A44 ((segW v run n rl.length d rl (i + 1)).length) c44) 5 1 ((segW v run n rl.length d rl (i + 1)).length) (bv (segW v run n rl.length d rl (i + 1))), .blk g9 72 [.slice A44 ((segW v run n rl.length d rl (i + 1)).length) c44]]) rfl ?_
  refine TL.end_ (TX.in_normal (TX.then_ (TC.region ?_)))
  refine TL.val rfl rfl rfl (gives_bin rfl rfl rfl (fun w => bin_add_ (r := ((i + 1 : Nat) : Int)) (by simp only [IntKind.wrap_i64]; omega) w)) ?_
  refine TL.mv ?_
  refine TL.end_ ?_
  exact TX.round (⟨(i + 1, A44, c44), hi2, hA441, hA442⟩) (by show rl.length - (i + 1) < rl.length - i; omega) ⟨rfl, rfl, rfl, rfl, rfl, trivial⟩ (fun w1 hw => hw.pick [2, 3] (by decide) rfl)
 ·have q34 := of_decide_eq_false h34
  have hi2 : i = rl.length := by omega
  subst hi2
  have hle := segW_le v run n rl.length d rl rl.length
  refine TL.end_ (TX.then_ (TC.seq_ (TC.condF rfl (TC.exit_ (TX.then_exit (TX.then_exit (TX.in_same (TX.then_ (TC.seq_ ?_)))))))))
  refine TC.held (ls := #[Ff,Ff,Ff,Ff,Ff,Ff]) (Pm w [.blk g9 72 [.slice A ((segW v run n rl.length d rl rl.length).length) c]]) (by kernel_rfl) rfl rfl (fun w hw => hw.drawn _) ?_
  refine TH.tk (listed' := #[Tt,Ff,Ff,Ff,Ff,Ff]) 0 rfl rfl rfl (pm_load (k := 0) (i := 0) rfl rfl jsegag72 rfl rfl) (fun w1 hw => hw.pick [1] (by decide) rfl) ?_
  refine TH.tk (listed' := #[Tt,Tt,Ff,Ff,Ff,Ff]) 1 rfl rfl rfl (gives_move rfl rfl) (fun w1 hw => hw.pick [1] (by decide) rfl) ?_
  refine TH.tk (listed' := #[Tt,Tt,Tt,Ff,Ff,Ff]) 2 rfl rfl rfl (pm_load (k := 0) (i := 0) rfl rfl jsegag72 rfl rfl) (fun w1 hw => hw.pick [1] (by decide) rfl) ?_
  refine TH.only' (listed' := #[Tt,Tt,Tt,Tt,Ff,Ff]) 3 rfl (by kernel_rfl) rfl ?_
  refine TL.pcallRow (n := 32) (ys := bv (macF key (segW v run n rl.length d rl rl.length))) rfl rfl rfl rfl rfl Tryd.func30 jsegnm30 jsegbd30 (fun w1 hw => mac_any _ _ _ key _ _ _ (segW v run n rl.length d rl rl.length) w1 ((hb3.below hw.bel).more hw.bel.size) (byt_own (hw.at_ (k := 0) rfl) (segW_bs v run n rl.length hb1.2 rl _)) (by omega) (by omega) (hst.below hw.bel hst.lt) (hky.below hw.bel hky.lt)) (fun A49 c49 hA491 hA492 => ?_)
  refine TL.end_ ?_
  refine TX.held (fun w1 hw => hw.pick [2] (by decide) rfl) ?_
  refine TH.only' (listed' := #[Tt,Tt,Tt,Tt,Tt,Ff]) 4 rfl (by kernel_rfl) rfl ?_
  refine TL.appendT (k := 1) rfl rfl rfl rfl Tryd.underlying28 jsegel72 rfl rfl rfl (fun w1 hw => pm_reads hw (k := 0) rfl) (bv_one _) (by omega) ((segL v run n d rl key).length) (segL_len v run n d rl key) (bv (segL v run n d rl key)) (by rw [segL, bv_app]; rfl) (fun A50 c50 hA501 hA502 => ?_)
  refine TL.end_ ?_
  refine TX.held (fun w1 hw => hw.pick [2] (by decide) rfl) ?_
  refine TH.tk (listed' := #[Tt,Tt,Tt,Tt,Tt,Tt]) 5 rfl rfl rfl (gives_assign rfl rfl) (fun w1 hw => hw.pick [2] (by decide) rfl) ?_
  refine TH.done (by kernel_rfl) ?_
  refine TX.then_ (TC.ret_ ?_)
  exact ret_tmp Tryd.results59 rfl (fun w1 hw => ⟨A50, c50, rfl, hA501, hA502, hw.at_ (k := 1) rfl, hw.bel⟩)
set_option maxHeartbeats 2000000 in
theorem rseg_any (v run n : Int) (A0 : Option Addr) (n0 c0 : Nat) (d : List Int) (A2 : Option Addr) (c2 : Nat) (rl : List Rs) (A3 : Option Addr) (n3 c3 : Nat) (key : List Int) (w : World) (hb0 : Byt w w.heap.size A0 n0 d) (hr2 : Reads w w.heap.size 17 A2 rl.length (rcs rl)) (hb3 : Byt w w.heap.size A3 n3 key) (hv0 : 0 ≤ v) (hv1 : v ≤ 255) (hr0 : 0 ≤ run) (hr1 : run ≤ 255) (hn0 : 0 ≤ n) (hn1 : n ≤ 65535) (hm : rl.length ≤ 255) (hd : d.length ≤ 10000) (hk : n3 ≤ 1000000000) (hOk : ∀ r ∈ rl, r.Ok) :
  Calls Tryd.prog 60 #[.agg #[.int .i64 v, .int .i64 run, .int .i64 n, .slice A0 n0 c0], .slice A2 rl.length c2, .slice A3 n3 c3] w fun e w' => ∃ y : {p : (Option Addr × Nat) × (Option Addr × Nat) // ((segL v run n d rl key).length ≤ p.1.2 ∧ p.1.2 ≤ maxLen) ∧ (32 ≤ p.2.2 ∧ p.2.2 ≤ maxLen)}, e = .returned (.tuple #[.agg #[.int .i64 v, .int .i64 run, .int .i64 (n + (rl.length : Nat)), .slice y.1.2.1 32 y.1.2.2], .slice y.1.1.1 (segL v run n d rl key).length y.1.1.2]) ∧ Pm w [.row (.slice y.1.1.1 (segL v run n d rl key).length y.1.1.2) 5 1 (segL v run n d rl key).length (bv (segL v run n d rl key)), .row (.slice y.1.2.1 32 y.1.2.2) 5 1 32 (bv (shaF (segL v run n d rl key)))] w' := by
 have hl0 := hb0.len
 refine begin_ (vs := [.agg #[.int .i64 v, .int .i64 run, .int .i64 n, .slice A0 n0 c0], .slice A2 rl.length c2, .slice A3 n3 c3]) Tryd.func60 rfl rfl rfl ?_ (Pm.start w)
 refine TC.seq_ (TC.region ?_)
 refine TL.pnew rfl rfl rfl (exec_box (cs := [.int .i64 v, .int .i64 run, .int .i64 n, .slice A0 n0 c0]) rfl rfl rfl) (fun g3 => ?_)
 refine TL.pnew rfl rfl rfl (exec_alloc (cs := [.int .i64 0, .int .i64 0, .int .i64 0, .slice none 0 0]) rfl jsegzv45 rfl) (fun g6 => ?_)
 refine TL.as_ ?_
 refine TL.end_ (TX.then_ (TC.seq_ (TC.region ?_)))
 refine TL.prowS (e := 5) (size := 1) (cs := bv rsj) rfl rfl rfl rfl rfl (fun w => jsegbs28_4_78574 _ _ _ _ w) (by decide) rfl (fun g12 => ?_)
 refine TL.mark (k := 0) rfl rfl rfl rfl rfl Tryd.underlying28 Tryd.underlying5 rfl ?_
 refine TL.as_ ?_
 refine TL.end_ (TX.then_ (TC.seq_ (TC.region ?_)))
 refine TL.mv ?_
 refine TL.val rfl rfl rfl (gives_field (v := .pointer (some ⟨g3, 0, none⟩)) rfl rfl (fun w => jsegfld45_0 _ _ w)) ?_
 refine TL.val rfl rfl rfl (pm_load (k := 2) (i := 0) rfl rfl jsegag3 rfl rfl) ?_
 refine TL.pcallRow (n := 5) (ys := bv (rsj ++ enc v 1)) rfl rfl rfl rfl rfl Tryd.func44 jsegnm44 jsegbd44 (fun w1 hw => jpush (some ⟨g12, 0, none⟩) 4 4 (rsj) v 1 w1 (byt_oth (hw.at_ (k := 0) rfl).1 rsj_bs rfl) (by omega) hv0 (by simp only [Int.pow_succ, Int.pow_zero]; omega) (by decide) (by decide)) (fun A17 c17 hA171 hA172 => ?_)
 refine TL.as_ ?_
 refine TL.end_ (TX.then_ (TC.seq_ (TC.region ?_)))
 refine TL.mv ?_
 refine TL.val rfl rfl rfl (gives_field (v := .pointer (some ⟨g3, 1, none⟩)) rfl rfl (fun w => jsegfld45_1 _ _ w)) ?_
 refine TL.val rfl rfl rfl (pm_load (k := 3) (i := 1) rfl rfl jsegag3 rfl rfl) ?_
 refine TL.pcallRow (n := 6) (ys := bv ((rsj ++ enc v 1) ++ enc run 1)) rfl rfl rfl rfl rfl Tryd.func44 jsegnm44 jsegbd44 (fun w1 hw => jpush A17 5 c17 (rsj ++ enc v 1) run 1 w1 (byt_own (hw.at_ (k := 0) rfl) (rsj_bs.app (enc_bs _ _))) (by omega) hr0 (by simp only [Int.pow_succ, Int.pow_zero]; omega) (by decide) (by decide)) (fun A21 c21 hA211 hA212 => ?_)
 refine TL.as_ ?_
 refine TL.end_ (TX.then_ (TC.seq_ (TC.region ?_)))
 refine TL.mv ?_
 refine TL.val rfl rfl rfl (gives_field (v := .pointer (some ⟨g3, 2, none⟩)) rfl rfl (fun w => jsegfld45_2 _ _ w)) ?_
 refine TL.val rfl rfl rfl (pm_load (k := 4) (i := 2) rfl rfl jsegag3 rfl rfl) ?_
 refine TL.pcallRow (n := 8) (ys := bv (((rsj ++ enc v 1) ++ enc run 1) ++ enc n 2)) rfl rfl rfl rfl rfl Tryd.func44 jsegnm44 jsegbd44 (fun w1 hw => jpush A21 6 c21 ((rsj ++ enc v 1) ++ enc run 1) n 2 w1 (byt_own (hw.at_ (k := 0) rfl) ((rsj_bs.app (enc_bs _ _)).app (enc_bs _ _))) (by omega) hn0 (by simp only [Int.pow_succ, Int.pow_zero]; omega) (by decide) (by decide)) (fun A25 c25 hA251 hA252 => ?_)
 refine TL.as_ ?_
 refine TL.end_ (TX.then_ (TC.seq_ (TC.region ?_)))
 refine TL.mv ?_
 refine TL.mv ?_
 refine TL.val rfl rfl rfl (gives_len rfl Tryd.underlying33 rfl) ?_
 refine TL.pcallRow (n := 9) (ys := bv ((((rsj ++ enc v 1) ++ enc run 1) ++ enc n 2) ++ enc (rl.length : Nat) 1)) rfl rfl rfl rfl rfl Tryd.func44 jsegnm44 jsegbd44 (fun w1 hw => jpush A25 8 c25 (((rsj ++ enc v 1) ++ enc run 1) ++ enc n 2) (rl.length : Nat) 1 w1 (byt_own (hw.at_ (k := 0) rfl) (((rsj_bs.app (enc_bs _ _)).app (enc_bs _ _)).app (enc_bs _ _))) (by omega) (by omega) (by simp only [Int.pow_succ, Int.pow_zero]; omega) (by decide) (by decide)) (fun A29 c29 hA291 hA292 => ?_)
 refine TL.as_ ?_
 refine TL.end_ (TX.then_ (TC.seq_ (TC.region ?_)))
 refine TL.mv ?_
 refine TL.val rfl rfl rfl (gives_field (v := .pointer (some ⟨g3, 3, none⟩)) rfl rfl (fun w => jsegfld45_3 _ _ w)) ?_
 refine TL.val rfl rfl rfl (pm_load (k := 6) (i := 3) rfl rfl jsegag28 rfl rfl) ?_
 refine TL.appendT (k := 0) rfl rfl rfl rfl Tryd.underlying28 jsegel28 rfl rfl rfl (fun w1 hw => ⟨_, (hb0.below hw.bel).1⟩) (bv_one _) (by have := hb0.len; omega) ((segW v run n rl.length d rl 0).length) (by rw [segW_zero, List.length_append, segH_len, hb0.len]) (bv (segW v run n rl.length d rl 0)) (by rw [segW_zero, bv_app]; rfl) (fun A33 c33 hA331 hA332 => ?_)
 refine TL.as_ ?_
 refine TL.end_ (TX.then_ (TC.seq_ (TC.seq_ (TC.region ?_))))
 refine TL.as_ ?_
 refine TL.end_ (TX.then_ (TC.block ?_))
 refine TC.loop_ (α := {y : Nat × Option Addr × Nat // y.1 ≤ rl.length ∧ (segW v run n rl.length d rl y.1).length ≤ y.2.2 ∧ y.2.2 ≤ maxLen}) (fun y => [(1, .slice A2 rl.length c2), (2, .slice A3 n3 c3), (3, .pointer (some ⟨g3, 0, none⟩)), (6, .pointer (some ⟨g6, 0, none⟩)), (8, .slice y.1.2.1 ((segW v run n rl.length d rl y.1.1).length) y.1.2.2), (9, .int .i64 (y.1.1 : Nat))]) (fun y => Pm w [.row (.slice y.1.2.1 ((segW v run n rl.length d rl y.1.1).length) y.1.2.2) 5 1 ((segW v run n rl.length d rl y.1.1).length) (bv (segW v run n rl.length d rl y.1.1)), .blk g3 45 [.int .i64 v, .int .i64 run, .int .i64 n, .slice A0 n0 c0], .blk g6 45 [.int .i64 0, .int .i64 0, .int .i64 0, .slice none 0 0]]) (fun y => rl.length - y.1.1) (⟨(0, A33, c33), Nat.zero_le _, hA331, hA332⟩) ⟨rfl, rfl, rfl, rfl, rfl, rfl, trivial⟩ (fun w1 hw => hw.pick [0, 6, 5] (by decide) rfl) ?_
 rintro ⟨⟨i, A, c⟩, hi, hc, hc9⟩
 dsimp only at hi hc hc9 ⊢
 refine TC.seq_ (TC.seq_ (TC.region ?_))
 refine TL.mv ?_
 refine TL.mv ?_
 refine TL.val rfl rfl rfl (gives_len rfl Tryd.underlying33 rfl) ?_
 refine TL.vsplit rfl rfl rfl (gives_bin rfl rfl rfl (fun w => bin_lss w)) (fun h37 => ?_) (fun h37 => ?_)
 ·have q37 := of_decide_eq_true h37
  have hi2 : i < rl.length := by omega
  obtain ⟨r, hxr⟩ : ∃ r, rl[i]? = some r := ⟨_, List.getElem?_eq_getElem hi2⟩
  obtain ⟨b2, o2, hA2, hbb2, hc2⟩ := hr2.ad (by omega) (by decide)
  have hro := hOk r (List.mem_of_getElem? hxr)
  have hle := segW_le v run n rl.length d rl i
  have hle2 := segW_le v run n rl.length d rl (i + 1)
  have hen := encO_len r
  have hen2 : (encO r).length ≤ 37 := by rw [hen]; split <;> omega
  refine TL.end_ (TX.then_ (TC.condT rfl (TC.skip_ (TX.then_ (TC.seq_ (TC.block (TC.seq_ (TC.region ?_))))))))
  refine TL.mv ?_
  refine TL.mv ?_
  refine TL.val rfl rfl rfl (gives_at (v := .pointer (some ⟨b2, o2 + i * 17, none⟩)) rfl rfl rfl (fun w => at_el Tryd.underlying33 jsegsz27 hA2 _ _ i hi2 rfl w)) ?_
  refine TL.val rfl rfl rfl (gives_loadR rfl rfl jsegag27 jsegsz27 (rs_cells_len r) (fun w1 hw j u hu => (hw.bel.cell hbb2).trans (rcs_cell hxr hc2 j u hu))) ?_
  refine TL.pcallPair (n := (encO r).length) (ys := bv (encO r)) (v := .int .i64 (chkR r)) rfl rfl rfl rfl rfl Tryd.func13 jsegnm13 jsegbd13 (fun w1 hw => rencode_any r hro w1) (fun A45 c45 hA451 hA452 => ?_)
  iterate 5 (first | refine TL.as_ ?_ | refine TL.ex ?_ | refine TL.mv ?_)
  refine TL.end_ (TX.then_ (TC.region ?_))
  refine TL.mv ?_
  refine TL.mv ?_
  refine TL.appendT (k := 1) rfl rfl rfl rfl Tryd.underlying28 jsegel28 rfl rfl rfl (fun w1 hw => pm_reads hw (k := 0) rfl) (bv_one _) (by omega) ((segW v run n rl.length d rl (i + 1)).length) (by rw [segW_succ hxr, List.length_append]) (bv (segW v run n rl.length d rl (i + 1))) (by rw [segW_succ hxr, bv_app]) (fun A50 c50 hA501 hA502 => ?_)
  refine TL.as_ ?_
  refine TL.end_ (TX.in_normal (TX.then_ (TC.region ?_)))
  refine TL.mv ?_
  refine TL.val rfl rfl rfl (gives_bin rfl rfl rfl (fun w => bin_add_ (r := ((i + 1 : Nat) : Int)) (by simp only [IntKind.wrap_i64]; omega) w)) ?_
  refine TL.as_ ?_
  refine TL.end_ ?_
  exact TX.round (⟨(i + 1, A50, c50), hi2, hA501, hA502⟩) (by show rl.length - (i + 1) < rl.length - i; omega) ⟨rfl, rfl, rfl, rfl, rfl, rfl, trivial⟩ (fun w1 hw => hw.pick [1, 2, 3] (by decide) rfl)
 ·have q37 := of_decide_eq_false h37
  have hi2 : i = rl.length := by omega
  subst hi2
  have hle := segW_le v run n rl.length d rl rl.length
  refine TL.end_ (TX.then_ (TC.condF rfl (TC.exit_ (TX.then_exit (TX.then_exit (TX.in_same (TX.then_ (TC.seq_ (TC.region ?_)))))))))
  refine TL.mv ?_
  refine TL.mv ?_
  refine TL.mv ?_
  refine TL.pcallRow (n := 32) (ys := bv (macF key (segW v run n rl.length d rl rl.length))) rfl rfl rfl rfl rfl Tryd.func29 jsegnm29 jsegbd29 (fun w1 hw => rmac_any _ _ _ key _ _ _ (segW v run n rl.length d rl rl.length) w1 ((hb3.below hw.bel).more hw.bel.size) (byt_own (hw.at_ (k := 0) rfl) (segW_bs v run n rl.length hb0.2 rl _)) (by omega) (by omega)) (fun A54 c54 hA541 hA542 => ?_)
  refine TL.appendT (k := 1) rfl rfl rfl rfl Tryd.underlying28 jsegel28 rfl rfl rfl (fun w1 hw => pm_reads hw (k := 0) rfl) (bv_one _) (by omega) ((segL v run n d rl key).length) (segL_len v run n d rl key) (bv (segL v run n d rl key)) (by rw [segL, bv_app]; rfl) (fun A55 c55 hA551 hA552 => ?_)
  refine TL.as_ ?_
  refine TL.end_ (TX.then_ (TC.seq_ (TC.region ?_)))
  refine TL.val rfl rfl rfl (gives_field (v := .pointer (some ⟨g3, 2, none⟩)) rfl rfl (fun w => jsegfld45_2 _ _ w)) ?_
  refine TL.val rfl rfl rfl (pm_load (k := 2) (i := 2) rfl rfl jsegag3 rfl rfl) ?_
  refine TL.mv ?_
  refine TL.val rfl rfl rfl (gives_len rfl Tryd.underlying33 rfl) ?_
  refine TL.val rfl rfl rfl (gives_bin rfl rfl rfl (fun w => bin_add_ (r := n + (rl.length : Nat)) (by simp only [IntKind.wrap_i64]; omega) w)) ?_
  refine TL.val rfl rfl rfl (gives_field (v := .pointer (some ⟨g3, 2, none⟩)) rfl rfl (fun w => jsegfld45_2 _ _ w)) ?_
  refine TL.pstore (k := 2) (vs := [.int .i64 (n + (rl.length : Nat))]) rfl rfl rfl rfl rfl rfl rfl jsegsz3 jsegone_i64 (by show 3 ≤ 4; decide) (L' := [.row (.slice A54 32 c54) 5 1 32 (bv (macF key (segW v run n rl.length d rl rl.length))), .row (.slice A55 ((segL v run n d rl key).length) c55) 5 1 ((segL v run n d rl key).length) (bv (segL v run n d rl key)), .blk g3 45 [.int .i64 v, .int .i64 run, .int .i64 (n + (rl.length : Nat)), .slice A0 n0 c0], .blk g6 45 [.int .i64 0, .int .i64 0, .int .i64 0, .slice none 0 0]]) rfl ?_
  refine TL.end_ (TX.then_ (TC.seq_ (TC.region ?_)))
  refine TL.mv ?_
  refine TL.pcallRow (n := 32) (ys := bv (shaF (segL v run n d rl key))) rfl rfl rfl rfl rfl Tryd.func57 jsegnm57 jsegbd57 (fun w1 hw => rsum_all _ _ _ (segL v run n d rl key) w1 (byt_own (hw.at_ (k := 1) rfl) (segL_bs v run n hb0.2 rl key)) (by have := segL_le v run n d rl key; have := hb0.len; omega)) (fun A63 c63 hA631 hA632 => ?_)
  refine TL.val rfl rfl rfl (gives_field (v := .pointer (some ⟨g3, 3, none⟩)) rfl rfl (fun w => jsegfld45_3 _ _ w)) ?_
  refine TL.pstore (k := 3) (vs := [.slice A63 32 c63]) rfl rfl rfl rfl rfl rfl rfl jsegsz28 jsegone_s (by show 4 ≤ 4; decide) (L' := [.row (.slice A63 32 c63) 5 1 32 (bv (shaF (segL v run n d rl key))), .row (.slice A54 32 c54) 5 1 32 (bv (macF key (segW v run n rl.length d rl rl.length))), .row (.slice A55 ((segL v run n d rl key).length) c55) 5 1 ((segL v run n d rl key).length) (bv (segL v run n d rl key)), .blk g3 45 [.int .i64 v, .int .i64 run, .int .i64 (n + (rl.length : Nat)), .slice A63 32 c63], .blk g6 45 [.int .i64 0, .int .i64 0, .int .i64 0, .slice none 0 0]]) rfl ?_
  refine TL.end_ (TX.then_ (TC.seq_ (TC.region ?_)))
  refine TL.val rfl rfl rfl (pm_loadV (k := 3) (i := 0) (n := 4) (v := .agg #[.int .i64 v, .int .i64 run, .int .i64 (n + (rl.length : Nat)), .slice A63 32 c63]) rfl rfl jsegag45 jsegsz45 rfl (by show 4 ≤ 4; decide) rfl) ?_
  refine TL.mv ?_
  refine TL.pstore (k := 4) (vs := [.int .i64 v, .int .i64 run, .int .i64 (n + (rl.length : Nat)), .slice A63 32 c63]) rfl rfl rfl rfl rfl rfl rfl jsegsz45 jsegone_i64i64i64s (by show 4 ≤ 4; decide) (L' := [.row (.slice A63 32 c63) 5 1 32 (bv (shaF (segL v run n d rl key))), .row (.slice A54 32 c54) 5 1 32 (bv (macF key (segW v run n rl.length d rl rl.length))), .row (.slice A55 ((segL v run n d rl key).length) c55) 5 1 ((segL v run n d rl key).length) (bv (segL v run n d rl key)), .blk g3 45 [.int .i64 v, .int .i64 run, .int .i64 (n + (rl.length : Nat)), .slice A63 32 c63], .blk g6 45 [.int .i64 v, .int .i64 run, .int .i64 (n + (rl.length : Nat)), .slice A63 32 c63]]) rfl ?_
  refine TL.as_ ?_
  refine TL.end_ (TX.then_ (TC.ret_ ?_))
  exact ret_cell2 (k := 4) (v := .slice A55 ((segL v run n d rl key).length) c55) Tryd.results60 rfl rfl rfl Tryd.underlying45 rfl rfl (fun w1 hw => ⟨⟨((A55, c55), (A63, c63)), ⟨hA551, hA552⟩, ⟨hA631, hA632⟩⟩, rfl, hw.pick [2, 0] (by decide) rfl⟩)
end Go.Proofs.YtmeaeeehnkcblaaDoor

namespace Go.Proofs.YtmeaeeehnkcblaaDoor
open Go.RowKit
set_option maxRecDepth 20000
theorem japzv45 (w : World) : (zeroValue 45).run Tryd.prog w = .ok (.agg #[.int .i64 0, .int .i64 0, .int .i64 0, .slice none 0 0]) w := rfl
theorem japnm45 : (Tryd.f45.name == "runtime.NumGoroutine") = false := by decide
theorem japbd45 : Tryd.f45.body.isNone = false := rfl
theorem japbld45_27257 (a0_0 : Int) (a1_0 : Int) (w : World) : (Instr.build 45 #[(0, .int .i64 a0_0), (1, .int .i64 a1_0)]).run Tryd.prog w = .ok (.agg #[.int .i64 a0_0, .int .i64 a1_0, .int .i64 0, .slice none 0 0]) w := by kernel_rfl
theorem japsz45 (w : World) : (sizeOf 45).run Tryd.prog w = .ok 4 w := rfl
theorem japone_i64i64i64s {a0 : Int} {a1 : Int} {a2 : Int} {a3 : Option Addr} {n3 c3 : Nat} : ∀ u ∈ [(.int .i64 a0 : Value), .int .i64 a1, .int .i64 a2, .slice a3 n3 c3], u.oneCell' = true := by
 intro u hu
 simp only [List.mem_cons, List.not_mem_nil, or_false] at hu
 rcases hu with rfl | rfl | rfl | rfl <;> rfl
theorem japag45 (w : World) : (isAgg 45).run Tryd.prog w = .ok true w := rfl
theorem japel28 : Elem Tryd.prog 28 5 1 1 := Elem.mk' Tryd.underlying28 (z := .int .u8 0) (by kernel_rfl) rfl (by omega) (by omega)
theorem japnm59 : (Tryd.f59.name == "runtime.NumGoroutine") = false := by decide
theorem japbd59 : Tryd.f59.body.isNone = false := rfl
theorem japnm54 : (Tryd.f54.name == "runtime.NumGoroutine") = false := by decide
theorem japbd54 : Tryd.f54.body.isNone = false := rfl
theorem japfld45_3 (g o : Nat) (w : World) : (Instr.fieldAt 45 (.pointer (some ⟨g, o, none⟩)) 3).run Tryd.prog w = .ok (.pointer (some ⟨g, o + 3, none⟩)) w := by kernel_rfl
theorem japsz28 (w : World) : (sizeOf 28).run Tryd.prog w = .ok 1 w := rfl
theorem japone_s {a0 : Option Addr} {n0 c0 : Nat} : ∀ u ∈ [(.slice a0 n0 c0 : Value)], u.oneCell' = true := by
 intro u hu
 rw [List.mem_singleton] at hu
 subst hu; rfl
theorem japbld45_530  (w : World) : (Instr.build 45 #[]).run Tryd.prog w = .ok (.agg #[.int .i64 0, .int .i64 0, .int .i64 0, .slice none 0 0]) w := by kernel_rfl
theorem japnm47 : (Tryd.f47.name == "runtime.NumGoroutine") = false := by decide
theorem japbd47 : Tryd.f47.body.isNone = false := rfl
theorem japbld45_71501 (a0_0 : Int) (a1_0 : Int) (a3_0 : Option Addr) (a3_0n a3_0c : Nat) (w : World) : (Instr.build 45 #[(0, .int .i64 a0_0), (1, .int .i64 a1_0), (3, .slice a3_0 a3_0n a3_0c)]).run Tryd.prog w = .ok (.agg #[.int .i64 a0_0, .int .i64 a1_0, .int .i64 0, .slice a3_0 a3_0n a3_0c]) w := by kernel_rfl
theorem japnm60 : (Tryd.f60.name == "runtime.NumGoroutine") = false := by decide
theorem japbd60 : Tryd.f60.body.isNone = false := rfl
theorem japsz27 (w : World) : (sizeOf 27).run Tryd.prog w = .ok 17 w := rfl
theorem japag27 (w : World) : (isAgg 27).run Tryd.prog w = .ok true w := rfl
theorem japfld45_2 (g o : Nat) (w : World) : (Instr.fieldAt 45 (.pointer (some ⟨g, o, none⟩)) 2).run Tryd.prog w = .ok (.pointer (some ⟨g, o + 2, none⟩)) w := by kernel_rfl
theorem japag3 (w : World) : (isAgg 3).run Tryd.prog w = .ok false w := rfl
theorem japzv27 (w : World) : (zeroValue 27).run Tryd.prog w = .ok (.agg #[.int .i64 0, .int .i64 0, .int .i64 0, .int .i64 0, .int .u32 0, .int .i64 0, .int .i64 0, .int .i64 0, .bool false, .bool false, .int .i64 0, .int .u32 0, .int .i64 0, .int .i64 0, .int .i64 0, .int .i64 0, .int .i64 0]) w := rfl
theorem japnm14 : (Tryd.f14.name == "runtime.NumGoroutine") = false := by decide
theorem japbd14 : Tryd.f14.body.isNone = false := rfl
theorem japnm62 : (Tryd.f62.name == "runtime.NumGoroutine") = false := by decide
theorem japbd62 : Tryd.f62.body.isNone = false := rfl
theorem japag28 (w : World) : (isAgg 28).run Tryd.prog w = .ok false w := rfl
theorem japsz3 (w : World) : (sizeOf 3).run Tryd.prog w = .ok 1 w := rfl
theorem japone_i64 {a0 : Int} : ∀ u ∈ [(.int .i64 a0 : Value)], u.oneCell' = true := by
 intro u hu
 rw [List.mem_singleton] at hu
 subst hu; rfl
theorem japnm15 : (Tryd.f15.name == "runtime.NumGoroutine") = false := by decide
theorem japbd15 : Tryd.f15.body.isNone = false := rfl
theorem japfld27_0 (g o : Nat) (w : World) : (Instr.fieldAt 27 (.pointer (some ⟨g, o, none⟩)) 0).run Tryd.prog w = .ok (.pointer (some ⟨g, o + 0, none⟩)) w := by kernel_rfl
theorem japfld45_0 (g o : Nat) (w : World) : (Instr.fieldAt 45 (.pointer (some ⟨g, o, none⟩)) 0).run Tryd.prog w = .ok (.pointer (some ⟨g, o + 0, none⟩)) w := by kernel_rfl
theorem japfld27_1 (g o : Nat) (w : World) : (Instr.fieldAt 27 (.pointer (some ⟨g, o, none⟩)) 1).run Tryd.prog w = .ok (.pointer (some ⟨g, o + 1, none⟩)) w := by kernel_rfl
theorem japfld45_1 (g o : Nat) (w : World) : (Instr.fieldAt 45 (.pointer (some ⟨g, o, none⟩)) 1).run Tryd.prog w = .ok (.pointer (some ⟨g, o + 1, none⟩)) w := by kernel_rfl
theorem japfld27_2 (g o : Nat) (w : World) : (Instr.fieldAt 27 (.pointer (some ⟨g, o, none⟩)) 2).run Tryd.prog w = .ok (.pointer (some ⟨g, o + 2, none⟩)) w := by kernel_rfl
set_option maxHeartbeats 1000000 in
theorem begin_any (id run : Int) (A3 : Option Addr) (n3 c3 : Nat) (key : List Int) (w : World) (hb3 : Byt w w.heap.size A3 n3 key) (hk : n3 ≤ 1000000000) {ts tk : TypeId} (hst : Blk w 0 ts start8.cells) (hky : Blk w 1 tk (arrOf keysL)) :
  Calls Tryd.prog 33 #[.int .i64 id, .int .i64 run, .slice A3 n3 c3] w fun e w' => SegR (bgC id run key) (bgS id run key) (bgE id run) w e w' := by
 refine begin_ (vs := [.int .i64 id, .int .i64 run, .slice A3 n3 c3]) Tryd.func33 rfl rfl rfl ?_ (Pm.start w)
 refine TC.seq_ (TC.region ?_)
 refine TL.pnew rfl rfl rfl (exec_alloc (cs := [.int .i64 0, .int .i64 0, .int .i64 0, .slice none 0 0]) rfl japzv45 rfl) (fun g6 => ?_)
 refine TL.as_ ?_
 refine TL.as_ ?_
 refine TL.end_ (TX.then_ (TC.seq_ (TC.seq_ (TC.region ?_))))
 refine TL.mv ?_
 refine TL.mv ?_
 refine TL.callsplit rfl rfl rfl rfl rfl Tryd.func45 japnm45 japbd45 (fun w1 hw => run_any id run w1) (fun h13 => ?_) (fun h13 => ?_)
 ·have hx : idOk id run := of_decide_eq_true h13
  have hx2 : 0 ≤ id ∧ id ≤ 15 ∧ 0 ≤ run ∧ run ≤ 63 := hx
  have hsl := segL_le id run 0 (zeroL 32) [] key
  have hz32 : (zeroL 32).length = 32 := rfl
  have hz0 : ([] : List Rs).length = 0 := rfl
  refine TL.val rfl rfl rfl (gives_boolnot rfl rfl) ?_
  refine TL.end_ (TX.then_ (TC.condF rfl (TC.skip_ (TX.then_ (TC.seq_ (TC.region ?_))))))
  refine TL.mv ?_
  refine TL.mv ?_
  refine TL.val rfl rfl rfl (gives_build (v := .agg #[.int .i64 id, .int .i64 run, .int .i64 0, .slice none 0 0]) rfl rfl (fun w => japbld45_27257 _ _ w)) ?_
  refine TL.pnew rfl rfl rfl (exec_alloc (cs := [.int .i64 0, .int .i64 0, .int .i64 0, .slice none 0 0]) rfl japzv45 rfl) (fun g9 => ?_)
  refine TL.pstore (k := 0) (vs := [.int .i64 id, .int .i64 run, .int .i64 0, .slice none 0 0]) rfl rfl rfl rfl rfl rfl rfl japsz45 japone_i64i64i64s (by show 4 ≤ 4; decide) (L' := [.blk g9 45 [.int .i64 id, .int .i64 run, .int .i64 0, .slice none 0 0], .blk g6 45 [.int .i64 0, .int .i64 0, .int .i64 0, .slice none 0 0]]) rfl ?_
  refine TL.end_ (TX.then_ (TC.seq_ ?_))
  refine TC.held (ls := #[Ff,Ff,Ff,Ff,Ff]) (Pm w [.blk g9 45 [.int .i64 id, .int .i64 run, .int .i64 0, .slice none 0 0]]) (by kernel_rfl) rfl rfl (fun w hw => hw.drawn _) ?_
  refine TH.tk (listed' := #[Tt,Ff,Ff,Ff,Ff]) 0 rfl rfl rfl (pm_loadV (k := 0) (i := 0) (n := 4) (v := .agg #[.int .i64 id, .int .i64 run, .int .i64 0, .slice none 0 0]) rfl rfl japag45 japsz45 rfl (by show 4 ≤ 4; decide) rfl) (fun w1 hw => hw.pick [0] (by decide) rfl) ?_
  refine TH.tk (listed' := #[Tt,Ff,Tt,Ff,Ff]) 2 rfl rfl rfl (gives_move rfl rfl) (fun w1 hw => hw.pick [0] (by decide) rfl) ?_
  refine TH.only' (listed' := #[Tt,Tt,Tt,Ff,Ff]) 1 rfl (by kernel_rfl) rfl ?_
  refine TL.mkrow (m := 32) rfl rfl rfl rfl rfl rfl japel28 (z := .int .u8 0) (by kernel_rfl) (zs := bv (zeroL 32)) ((made_one _ rfl 32).trans rfl) (by decide) (fun g20 => ?_)
  refine TL.end_ ?_
  refine TX.held (fun w1 hw => hw.pick [1] (by decide) rfl) ?_
  refine TH.only' (listed' := #[Tt,Tt,Tt,Tt,Ff]) 3 rfl (by kernel_rfl) rfl ?_
  refine TL.pcallRow (n := (segL id run 0 (zeroL 32) ([]) key).length) (ys := bv (segL id run 0 (zeroL 32) ([]) key)) rfl rfl rfl rfl rfl Tryd.func59 japnm59 japbd59 (fun w1 hw => seg_any id run 0 _ _ _ _ _ _ (zeroL 32) _ _ ([]) _ _ _ key w1 (byt_own (hw.at_ (k := 0) rfl) (zeroL_bs _)) ⟨rfl, fun h => absurd h (by decide)⟩ ((hb3.below hw.bel).more hw.bel.size) (by first | omega | decide | exact (by simp [zeroL])) (by first | omega | decide | exact (by simp [zeroL])) (by first | omega | decide | exact (by simp [zeroL])) (by first | omega | decide | exact (by simp [zeroL])) (by first | omega | decide | exact (by simp [zeroL])) (by first | omega | decide | exact (by simp [zeroL])) (by first | omega | decide | exact (by simp [zeroL])) (by first | omega | decide | exact (by simp [zeroL])) (by first | omega | decide | exact (by simp [zeroL])) (fun r hr => by cases hr) (hst.below hw.bel hst.lt) (hky.below hw.bel hky.lt)) (fun A22 c22 hA221 hA222 => ?_)
  refine TL.end_ ?_
  refine TX.held (fun w1 hw => hw.pick [2] (by decide) rfl) ?_
  refine TH.tk (listed' := #[Tt,Tt,Tt,Tt,Tt]) 4 rfl rfl rfl (gives_assign rfl rfl) (fun w1 hw => hw.pick [2] (by decide) rfl) ?_
  refine TH.done (by kernel_rfl) ?_
  refine TX.then_ (TC.seq_ (TC.region ?_))
  refine TL.mv ?_
  refine TL.pcallRow (n := 32) (ys := bv (shaF (segL id run 0 (zeroL 32) ([]) key))) rfl rfl rfl rfl rfl Tryd.func54 japnm54 japbd54 (fun w1 hw => sum_any _ _ _ (segL id run 0 (zeroL 32) ([]) key) w1 (byt_own (hw.at_ (k := 0) rfl) (segL_bs _ _ _ (zeroL_bs _) _ _)) (by omega) (hst.below hw.bel hst.lt) (hky.below hw.bel hky.lt)) (fun A24 c24 hA241 hA242 => ?_)
  refine TL.val rfl rfl rfl (gives_field (v := .pointer (some ⟨g9, 3, none⟩)) rfl rfl (fun w => japfld45_3 _ _ w)) ?_
  refine TL.pstore (k := 3) (vs := [.slice A24 32 c24]) rfl rfl rfl rfl rfl rfl rfl japsz28 japone_s (by show 4 ≤ 4; decide) (L' := [.row (.slice A24 32 c24) 5 1 32 (bv (shaF (segL id run 0 (zeroL 32) ([]) key))), .row (.slice A22 ((segL id run 0 (zeroL 32) ([]) key).length) c22) 5 1 ((segL id run 0 (zeroL 32) ([]) key).length) (bv (segL id run 0 (zeroL 32) ([]) key)), .row (.slice (some ⟨g20, 0, none⟩) 32 32) 5 1 32 (bv (zeroL 32)), .blk g9 45 [.int .i64 id, .int .i64 run, .int .i64 0, .slice A24 32 c24], .blk g6 45 [.int .i64 0, .int .i64 0, .int .i64 0, .slice none 0 0]]) rfl ?_
  refine TL.end_ (TX.then_ (TC.seq_ (TC.region ?_)))
  refine TL.val rfl rfl rfl (pm_loadV (k := 3) (i := 0) (n := 4) (v := .agg #[.int .i64 id, .int .i64 run, .int .i64 0, .slice A24 32 c24]) rfl rfl japag45 japsz45 rfl (by show 4 ≤ 4; decide) rfl) ?_
  refine TL.mv ?_
  refine TL.pstore (k := 4) (vs := [.int .i64 id, .int .i64 run, .int .i64 0, .slice A24 32 c24]) rfl rfl rfl rfl rfl rfl rfl japsz45 japone_i64i64i64s (by show 4 ≤ 4; decide) (L' := [.row (.slice A24 32 c24) 5 1 32 (bv (shaF (segL id run 0 (zeroL 32) ([]) key))), .row (.slice A22 ((segL id run 0 (zeroL 32) ([]) key).length) c22) 5 1 ((segL id run 0 (zeroL 32) ([]) key).length) (bv (segL id run 0 (zeroL 32) ([]) key)), .row (.slice (some ⟨g20, 0, none⟩) 32 32) 5 1 32 (bv (zeroL 32)), .blk g9 45 [.int .i64 id, .int .i64 run, .int .i64 0, .slice A24 32 c24], .blk g6 45 [.int .i64 id, .int .i64 run, .int .i64 0, .slice A24 32 c24]]) rfl ?_
  refine TL.as_ ?_
  refine TL.as_ ?_
  refine TL.end_ (TX.then_ (TC.ret_ ?_))
  exact ret_cell3 (k := 4) (v := .slice A22 ((segL id run 0 (zeroL 32) ([]) key).length) c22) (v2 := .int .i64 0) Tryd.results33 rfl rfl rfl rfl Tryd.underlying45 rfl rfl (fun w1 hw => by rw [(bg_ok hx key).1, (bg_ok hx key).2.1, (bg_ok hx key).2.2]; exact ⟨A22, c22, A24, c24, _, _, rfl, shaF_len _, hA221, hA222, hA241, hA242, rfl, hw.pick [1, 0] (by decide) rfl⟩)
 ·have hx : ¬ idOk id run := of_decide_eq_false h13
  refine TL.val rfl rfl rfl (gives_boolnot rfl rfl) ?_
  refine TL.end_ (TX.then_ (TC.condT rfl (TC.seq_ (TC.region ?_))))
  refine TL.val rfl rfl rfl (gives_build (v := .agg #[.int .i64 0, .int .i64 0, .int .i64 0, .slice none 0 0]) rfl rfl (fun w => japbld45_530  w)) ?_
  refine TL.pstore (k := 0) (vs := [.int .i64 0, .int .i64 0, .int .i64 0, .slice none 0 0]) rfl rfl rfl rfl rfl rfl rfl japsz45 japone_i64i64i64s (by show 4 ≤ 4; decide) (L' := [.blk g6 45 [.int .i64 0, .int .i64 0, .int .i64 0, .slice none 0 0]]) rfl ?_
  refine TL.as_ ?_
  refine TL.as_ ?_
  refine TL.end_ (TX.then_ (TC.ret_ (TX.then_ret ?_)))
  exact ret_cell3 (k := 0) (v := .slice none 0 0) (v2 := .int .i64 1) Tryd.results33 rfl rfl rfl rfl Tryd.underlying45 rfl rfl (fun w1 hw => by rw [(bg_bad hx key).1, (bg_bad hx key).2.1, (bg_bad hx key).2.2]; exact SegR.none_ hw)
set_option maxHeartbeats 1000000 in
theorem rbegin_any (id run : Int) (A3 : Option Addr) (n3 c3 : Nat) (key : List Int) (w : World) (hb3 : Byt w w.heap.size A3 n3 key) (hk : n3 ≤ 1000000000) :
  Calls Tryd.prog 34 #[.int .i64 id, .int .i64 run, .slice A3 n3 c3] w fun e w' => SegR (bgC id run key) (bgS id run key) (bgE id run) w e w' := by
 refine begin_ (vs := [.int .i64 id, .int .i64 run, .slice A3 n3 c3]) Tryd.func34 rfl rfl rfl ?_ (Pm.start w)
 refine TC.seq_ (TC.region ?_)
 refine TL.pnew rfl rfl rfl (exec_alloc (cs := [.int .i64 0, .int .i64 0, .int .i64 0, .slice none 0 0]) rfl japzv45 rfl) (fun g6 => ?_)
 refine TL.as_ ?_
 refine TL.as_ ?_
 refine TL.end_ (TX.then_ (TC.seq_ (TC.seq_ (TC.region ?_))))
 refine TL.mv ?_
 refine TL.mv ?_
 refine TL.callsplit rfl rfl rfl rfl rfl Tryd.func47 japnm47 japbd47 (fun w1 hw => ident_any id run w1) (fun h13 => ?_) (fun h13 => ?_)
 ·have hx : idOk id run := of_decide_eq_true h13
  have hx2 : 0 ≤ id ∧ id ≤ 15 ∧ 0 ≤ run ∧ run ≤ 63 := hx
  have hsl := segL_le id run 0 (zeroL 32) [] key
  have hz32 : (zeroL 32).length = 32 := rfl
  have hz0 : ([] : List Rs).length = 0 := rfl
  refine TL.val rfl rfl rfl (gives_boolnot rfl rfl) ?_
  refine TL.end_ (TX.then_ (TC.condF rfl (TC.skip_ (TX.then_ (TC.seq_ (TC.region ?_))))))
  refine TL.mv ?_
  refine TL.mv ?_
  refine TL.mkrow (m := 32) rfl rfl rfl rfl rfl rfl japel28 (z := .int .u8 0) (by kernel_rfl) (zs := bv (zeroL 32)) ((made_one _ rfl 32).trans rfl) (by decide) (fun g19 => ?_)
  refine TL.val rfl rfl rfl (gives_build (v := .agg #[.int .i64 id, .int .i64 run, .int .i64 0, .slice (some ⟨g19, 0, none⟩) 32 32]) rfl rfl (fun w => japbld45_71501 _ _ _ _ _ w)) ?_
  refine TL.mv ?_
  refine TL.pcallPm (α := {p : (Option Addr × Nat) × (Option Addr × Nat) // ((segL id run 0 (zeroL 32) ([]) key).length ≤ p.1.2 ∧ p.1.2 ≤ maxLen) ∧ (32 ≤ p.2.2 ∧ p.2.2 ≤ maxLen)}) (fun y => .tuple #[.agg #[.int .i64 id, .int .i64 run, .int .i64 (0 + (([] : List Rs).length : Nat)), .slice y.1.2.1 32 y.1.2.2], .slice y.1.1.1 ((segL id run 0 (zeroL 32) ([]) key).length) y.1.1.2]) (fun y => [.row (.slice y.1.1.1 ((segL id run 0 (zeroL 32) ([]) key).length) y.1.1.2) 5 1 ((segL id run 0 (zeroL 32) ([]) key).length) (bv (segL id run 0 (zeroL 32) ([]) key)), .row (.slice y.1.2.1 32 y.1.2.2) 5 1 32 (bv (shaF (segL id run 0 (zeroL 32) ([]) key)))]) rfl rfl rfl rfl rfl Tryd.func60 japnm60 japbd60 (fun w1 hw => rseg_any id run 0 _ _ _ (zeroL 32) _ _ ([]) _ _ _ key w1 (byt_own (hw.at_ (k := 0) rfl) (zeroL_bs _)) ⟨rfl, fun h => absurd h (by decide)⟩ ((hb3.below hw.bel).more hw.bel.size) (by first | omega | decide | exact (by simp [zeroL])) (by first | omega | decide | exact (by simp [zeroL])) (by first | omega | decide | exact (by simp [zeroL])) (by first | omega | decide | exact (by simp [zeroL])) (by first | omega | decide | exact (by simp [zeroL])) (by first | omega | decide | exact (by simp [zeroL])) (by first | omega | decide | exact (by simp [zeroL])) (by first | omega | decide | exact (by simp [zeroL])) (by first | omega | decide | exact (by simp [zeroL])) (fun r hr => by cases hr)) ?_
  rintro ⟨⟨⟨A22, c22⟩, ⟨D22, e22⟩⟩, ⟨hA221, hA222⟩, ⟨hD221, hD222⟩⟩
  dsimp only [List.cons_append, List.nil_append]
  dsimp only at hA221 hA222 hD221 hD222
  refine TL.mv ?_
  refine TL.ex ?_
  refine TL.ex ?_
  refine TL.pnew rfl rfl rfl (exec_alloc (cs := [.int .i64 0, .int .i64 0, .int .i64 0, .slice none 0 0]) rfl japzv45 rfl) (fun g9 => ?_)
  refine TL.pstore (k := 0) (vs := [.int .i64 id, .int .i64 run, .int .i64 (0 + (([] : List Rs).length : Nat)), .slice D22 32 e22]) rfl rfl rfl rfl rfl rfl rfl japsz45 japone_i64i64i64s (by show 4 ≤ 4; decide) (L' := [.blk g9 45 [.int .i64 id, .int .i64 run, .int .i64 (0 + (([] : List Rs).length : Nat)), .slice D22 32 e22], .row (.slice A22 ((segL id run 0 (zeroL 32) ([]) key).length) c22) 5 1 ((segL id run 0 (zeroL 32) ([]) key).length) (bv (segL id run 0 (zeroL 32) ([]) key)), .row (.slice D22 32 e22) 5 1 32 (bv (shaF (segL id run 0 (zeroL 32) ([]) key))), .row (.slice (some ⟨g19, 0, none⟩) 32 32) 5 1 32 (bv (zeroL 32)), .blk g6 45 [.int .i64 0, .int .i64 0, .int .i64 0, .slice none 0 0]]) rfl ?_
  refine TL.as_ ?_
  refine TL.end_ (TX.then_ (TC.seq_ (TC.region ?_)))
  refine TL.val rfl rfl rfl (pm_loadV (k := 0) (i := 0) (n := 4) (v := .agg #[.int .i64 id, .int .i64 run, .int .i64 (0 + (([] : List Rs).length : Nat)), .slice D22 32 e22]) rfl rfl japag45 japsz45 rfl (by show 4 ≤ 4; decide) rfl) ?_
  refine TL.mv ?_
  refine TL.pstore (k := 4) (vs := [.int .i64 id, .int .i64 run, .int .i64 (0 + (([] : List Rs).length : Nat)), .slice D22 32 e22]) rfl rfl rfl rfl rfl rfl rfl japsz45 japone_i64i64i64s (by show 4 ≤ 4; decide) (L' := [.blk g9 45 [.int .i64 id, .int .i64 run, .int .i64 (0 + (([] : List Rs).length : Nat)), .slice D22 32 e22], .row (.slice A22 ((segL id run 0 (zeroL 32) ([]) key).length) c22) 5 1 ((segL id run 0 (zeroL 32) ([]) key).length) (bv (segL id run 0 (zeroL 32) ([]) key)), .row (.slice D22 32 e22) 5 1 32 (bv (shaF (segL id run 0 (zeroL 32) ([]) key))), .row (.slice (some ⟨g19, 0, none⟩) 32 32) 5 1 32 (bv (zeroL 32)), .blk g6 45 [.int .i64 id, .int .i64 run, .int .i64 (0 + (([] : List Rs).length : Nat)), .slice D22 32 e22]]) rfl ?_
  refine TL.as_ ?_
  refine TL.as_ ?_
  refine TL.end_ (TX.then_ (TC.ret_ ?_))
  exact ret_cell3 (k := 4) (v := .slice A22 ((segL id run 0 (zeroL 32) ([]) key).length) c22) (v2 := .int .i64 0) Tryd.results34 rfl rfl rfl rfl Tryd.underlying45 rfl rfl (fun w1 hw => by rw [(bg_ok hx key).1, (bg_ok hx key).2.1, (bg_ok hx key).2.2]; exact ⟨A22, c22, D22, e22, _, _, rfl, shaF_len _, hA221, hA222, hD221, hD222, rfl, hw.pick [1, 2] (by decide) rfl⟩)
 ·have hx : ¬ idOk id run := of_decide_eq_false h13
  refine TL.val rfl rfl rfl (gives_boolnot rfl rfl) ?_
  refine TL.end_ (TX.then_ (TC.condT rfl (TC.seq_ (TC.region ?_))))
  refine TL.val rfl rfl rfl (gives_build (v := .agg #[.int .i64 0, .int .i64 0, .int .i64 0, .slice none 0 0]) rfl rfl (fun w => japbld45_530  w)) ?_
  refine TL.pstore (k := 0) (vs := [.int .i64 0, .int .i64 0, .int .i64 0, .slice none 0 0]) rfl rfl rfl rfl rfl rfl rfl japsz45 japone_i64i64i64s (by show 4 ≤ 4; decide) (L' := [.blk g6 45 [.int .i64 0, .int .i64 0, .int .i64 0, .slice none 0 0]]) rfl ?_
  refine TL.as_ ?_
  refine TL.as_ ?_
  refine TL.end_ (TX.then_ (TC.ret_ (TX.then_ret ?_)))
  exact ret_cell3 (k := 0) (v := .slice none 0 0) (v2 := .int .i64 1) Tryd.results34 rfl rfl rfl rfl Tryd.underlying45 rfl rfl (fun w1 hw => by rw [(bg_bad hx key).1, (bg_bad hx key).2.1, (bg_bad hx key).2.2]; exact SegR.none_ hw)
set_option maxHeartbeats 2000000 in
theorem append_any (A0 : Option Addr) (n0 c0 : Nat) (ch : Chn) (A2 : Option Addr) (c2 : Nat) (rl : List Rs) (A3 : Option Addr) (n3 c3 : Nat) (key : List Int) (w : World) (hb3 : Byt w w.heap.size A3 n3 key) (hk : n3 ≤ 1000000000) (hb0 : Byt w w.heap.size A0 n0 ch.dg) (hr2 : Reads w w.heap.size 17 A2 rl.length (rcs rl)) (hn0 : -1000000 ≤ ch.n) (hn1 : ch.n ≤ 1000000) (hd : ch.dg.length ≤ 10000) (hrl : rl.length ≤ 1000000000) (hOk : ∀ r ∈ rl, r.Ok) {ts tk : TypeId} (hst : Blk w 0 ts start8.cells) (hky : Blk w 1 tk (arrOf keysL)) :
  Calls Tryd.prog 36 #[.agg #[.int .i64 ch.v, .int .i64 ch.run, .int .i64 ch.n, .slice A0 n0 c0], .slice A2 rl.length c2, .slice A3 n3 c3] w fun e w' => SegR (apC ch rl key) (apS ch rl key) (apE ch rl) w e w' := by
 have hl0 := hb0.len
 refine begin_ (vs := [.agg #[.int .i64 ch.v, .int .i64 ch.run, .int .i64 ch.n, .slice A0 n0 c0], .slice A2 rl.length c2, .slice A3 n3 c3]) Tryd.func36 rfl rfl rfl ?_ (Pm.start w)
 refine TC.seq_ (TC.region ?_)
 refine TL.pnew rfl rfl rfl (exec_box (cs := [.int .i64 ch.v, .int .i64 ch.run, .int .i64 ch.n, .slice A0 n0 c0]) rfl rfl rfl) (fun g3 => ?_)
 refine TL.pnew rfl rfl rfl (exec_alloc (cs := [.int .i64 0, .int .i64 0, .int .i64 0, .slice none 0 0]) rfl japzv45 rfl) (fun g6 => ?_)
 refine TL.as_ ?_
 refine TL.as_ ?_
 refine TL.end_ (TX.then_ (TC.seq_ (TC.seq_ (TC.region ?_))))
 refine TL.mv ?_
 refine TL.val rfl rfl rfl (gives_len rfl Tryd.underlying33 rfl) ?_
 refine TL.vsplit rfl rfl rfl (gives_bin rfl rfl rfl (fun w => bin_lss w)) (fun h15 => ?_) (fun h15 => ?_)
 ·have q15 := of_decide_eq_true h15
  have hbig : apBig ch rl := by unfold apBig; omega
  iterate 13 (first | refine TL.of ?_ | refine TL.mv ?_ | refine TL.pk ?_)
  refine TL.end_ (TX.then_ (TC.condT rfl (TC.seq_ (TC.region ?_))))
  refine TL.val rfl rfl rfl (gives_build (v := .agg #[.int .i64 0, .int .i64 0, .int .i64 0, .slice none 0 0]) rfl rfl (fun w => japbld45_530  w)) ?_
  refine TL.pstore (k := 0) (vs := [.int .i64 0, .int .i64 0, .int .i64 0, .slice none 0 0]) rfl rfl rfl rfl rfl rfl rfl japsz45 japone_i64i64i64s (by show 4 ≤ 4; decide) (L' := [.blk g6 45 [.int .i64 0, .int .i64 0, .int .i64 0, .slice none 0 0], .blk g3 45 [.int .i64 ch.v, .int .i64 ch.run, .int .i64 ch.n, .slice A0 n0 c0]]) rfl ?_
  refine TL.as_ ?_
  refine TL.as_ ?_
  refine TL.end_ (TX.then_ (TC.ret_ (TX.then_ret ?_)))
  exact ret_cell3 (k := 0) (v := .slice none 0 0) (v2 := .int .i64 5) Tryd.results36 rfl rfl rfl rfl Tryd.underlying45 rfl rfl (fun w1 hw => by rw [(ap_bad (apE_big hbig) (by decide) key).1, (ap_bad (apE_big hbig) (by decide) key).2.1, (ap_bad (apE_big hbig) (by decide) key).2.2]; exact SegR.none_ hw)
 ·have q15 := of_decide_eq_false h15
  iterate 4 (first | refine TL.gu ?_ | refine TL.mv ?_)
  refine TL.val rfl rfl rfl (gives_len rfl Tryd.underlying33 rfl) ?_
  refine TL.gu ?_
  refine TL.vsplit rfl rfl rfl (gives_bin rfl rfl rfl (fun w => bin_gtr w)) (fun h19 => ?_) (fun h19 => ?_)
  ·have q19 := of_decide_eq_true h19
   have hbig : apBig ch rl := by unfold apBig; omega
   iterate 9 (first | refine TL.of ?_ | refine TL.pk ?_ | refine TL.mv ?_)
   refine TL.end_ (TX.then_ (TC.condT rfl (TC.seq_ (TC.region ?_))))
   refine TL.val rfl rfl rfl (gives_build (v := .agg #[.int .i64 0, .int .i64 0, .int .i64 0, .slice none 0 0]) rfl rfl (fun w => japbld45_530  w)) ?_
   refine TL.pstore (k := 0) (vs := [.int .i64 0, .int .i64 0, .int .i64 0, .slice none 0 0]) rfl rfl rfl rfl rfl rfl rfl japsz45 japone_i64i64i64s (by show 4 ≤ 4; decide) (L' := [.blk g6 45 [.int .i64 0, .int .i64 0, .int .i64 0, .slice none 0 0], .blk g3 45 [.int .i64 ch.v, .int .i64 ch.run, .int .i64 ch.n, .slice A0 n0 c0]]) rfl ?_
   refine TL.as_ ?_
   refine TL.as_ ?_
   refine TL.end_ (TX.then_ (TC.ret_ (TX.then_ret ?_)))
   exact ret_cell3 (k := 0) (v := .slice none 0 0) (v2 := .int .i64 5) Tryd.results36 rfl rfl rfl rfl Tryd.underlying45 rfl rfl (fun w1 hw => by rw [(ap_bad (apE_big hbig) (by decide) key).1, (ap_bad (apE_big hbig) (by decide) key).2.1, (ap_bad (apE_big hbig) (by decide) key).2.2]; exact SegR.none_ hw)
  ·have q19 := of_decide_eq_false h19
   refine TL.pk ?_
   refine TL.mv ?_
   refine TL.gu ?_
   refine TL.val rfl rfl rfl (gives_field (v := .pointer (some ⟨g3, 2, none⟩)) rfl rfl (fun w => japfld45_2 _ _ w)) ?_
   refine TL.gu ?_
   refine TL.val rfl rfl rfl (pm_load (k := 1) (i := 2) rfl rfl japag3 rfl rfl) ?_
   refine TL.gu ?_
   refine TL.mv ?_
   refine TL.gu ?_
   refine TL.val rfl rfl rfl (gives_len rfl Tryd.underlying33 rfl) ?_
   refine TL.gu ?_
   refine TL.val rfl rfl rfl (gives_bin rfl rfl rfl (fun w => bin_sub_ (r := 1000 - (rl.length : Nat)) (by simp only [IntKind.wrap_i64]; omega) w)) ?_
   refine TL.gu ?_
   refine TL.vsplit rfl rfl rfl (gives_bin rfl rfl rfl (fun w => bin_gtr w)) (fun h27 => ?_) (fun h27 => ?_)
   ·have q27 := of_decide_eq_true h27
    have hbig : apBig ch rl := by unfold apBig; omega
    refine TL.pk ?_
    refine TL.end_ (TX.then_ (TC.condT rfl (TC.seq_ (TC.region ?_))))
    refine TL.val rfl rfl rfl (gives_build (v := .agg #[.int .i64 0, .int .i64 0, .int .i64 0, .slice none 0 0]) rfl rfl (fun w => japbld45_530  w)) ?_
    refine TL.pstore (k := 0) (vs := [.int .i64 0, .int .i64 0, .int .i64 0, .slice none 0 0]) rfl rfl rfl rfl rfl rfl rfl japsz45 japone_i64i64i64s (by show 4 ≤ 4; decide) (L' := [.blk g6 45 [.int .i64 0, .int .i64 0, .int .i64 0, .slice none 0 0], .blk g3 45 [.int .i64 ch.v, .int .i64 ch.run, .int .i64 ch.n, .slice A0 n0 c0]]) rfl ?_
    refine TL.as_ ?_
    refine TL.as_ ?_
    refine TL.end_ (TX.then_ (TC.ret_ (TX.then_ret ?_)))
    exact ret_cell3 (k := 0) (v := .slice none 0 0) (v2 := .int .i64 5) Tryd.results36 rfl rfl rfl rfl Tryd.underlying45 rfl rfl (fun w1 hw => by rw [(ap_bad (apE_big hbig) (by decide) key).1, (ap_bad (apE_big hbig) (by decide) key).2.1, (ap_bad (apE_big hbig) (by decide) key).2.2]; exact SegR.none_ hw)
   ·have q27 := of_decide_eq_false h27
    have hbig : ¬ apBig ch rl := by unfold apBig; omega
    refine TL.pk ?_
    refine TL.end_ (TX.then_ (TC.condF rfl (TC.skip_ (TX.then_ (TC.seq_ (TC.seq_ (TC.region ?_)))))))
    refine TL.mv ?_
    refine TL.val rfl rfl rfl (gives_len rfl Tryd.underlying33 rfl) ?_
    refine TL.mv ?_
    refine TL.end_ (TX.then_ (TC.block ?_))
    refine TC.loop_ (α := {i : Nat // i ≤ rl.length ∧ badR ch rl 0 = badR ch (rl.drop i) i}) (fun y => [(1, .slice A2 rl.length c2), (2, .slice A3 n3 c3), (3, .pointer (some ⟨g3, 0, none⟩)), (6, .pointer (some ⟨g6, 0, none⟩)), (30, .slice A2 rl.length c2), (31, .int .i64 (rl.length : Nat)), (32, .int .i64 (y.1 : Nat))]) (fun y => Pm w [.blk g3 45 [.int .i64 ch.v, .int .i64 ch.run, .int .i64 ch.n, .slice A0 n0 c0], .blk g6 45 [.int .i64 0, .int .i64 0, .int .i64 0, .slice none 0 0]]) (fun y => rl.length - y.1) (⟨0, Nat.zero_le _, by rw [List.drop_zero]⟩) ⟨rfl, rfl, rfl, rfl, rfl, rfl, rfl, trivial⟩ (fun w1 hw => hw.pick [1, 0] (by decide) rfl) ?_
    rintro ⟨i, hi, hinv⟩
    dsimp only at hi hinv ⊢
    refine TC.seq_ (TC.region ?_)
    refine TL.vsplit rfl rfl rfl (gives_bin rfl rfl rfl (fun w => bin_lss w)) (fun h33 => ?_) (fun h33 => ?_)
    ·have q33 := of_decide_eq_true h33
     have hi2 : i < rl.length := by omega
     obtain ⟨r, hxr⟩ : ∃ r, rl[i]? = some r := ⟨_, List.getElem?_eq_getElem hi2⟩
     obtain ⟨b2, o2, hA2, hbb2, hc2⟩ := hr2.ad (by omega) (by decide)
     refine TL.end_ (TX.then_ (TC.seq_ (TC.condT rfl (TC.skip_ (TX.then_ (TC.seq_ (TC.block (TC.seq_ (TC.region ?_)))))))))
     refine TL.mv ?_
     refine TL.val rfl rfl rfl (gives_at (v := .pointer (some ⟨b2, o2 + i * 17, none⟩)) rfl rfl rfl (fun w => at_el Tryd.underlying33 japsz27 hA2 _ _ i hi2 rfl w)) ?_
     refine TL.val rfl rfl rfl (gives_loadR rfl rfl japag27 japsz27 (rs_cells_len r) (fun w1 hw j u hu => (hw.bel.cell hbb2).trans (rcs_cell hxr hc2 j u hu))) ?_
     refine TL.pnew rfl rfl rfl (exec_alloc (cs := [.int .i64 0, .int .i64 0, .int .i64 0, .int .i64 0, .int .u32 0, .int .i64 0, .int .i64 0, .int .i64 0, .bool false, .bool false, .int .i64 0, .int .u32 0, .int .i64 0, .int .i64 0, .int .i64 0, .int .i64 0, .int .i64 0]) rfl japzv27 rfl) (fun g10 => ?_)
     refine TL.as_ ?_
     refine TL.pstore (k := 0) (vs := r.cells) rfl rfl rfl rfl rfl rfl rfl japsz27 (rs_one r) (by show 17 ≤ 17; decide) (L' := [.blk g10 27 r.cells, .blk g3 45 [.int .i64 ch.v, .int .i64 ch.run, .int .i64 ch.n, .slice A0 n0 c0], .blk g6 45 [.int .i64 0, .int .i64 0, .int .i64 0, .slice none 0 0]]) rfl ?_
     refine TL.end_ (TX.then_ (TC.seq_ (TC.seq_ (TC.region ?_))))
     refine TL.val rfl rfl rfl (pm_loadV (k := 0) (i := 0) (n := 17) (v := .agg (r.cells).toArray) rfl rfl japag27 japsz27 rfl (by show 17 ≤ 17; decide) rfl) ?_
     refine TL.pcall1 (r := .int .i64 (chkR r)) rfl rfl rfl rfl rfl Tryd.func14 japnm14 japbd14 (fun w1 hw => check_any r w1) ?_
     refine TL.as_ ?_
     refine TL.end_ (TX.then_ (TC.seq_ (TC.region ?_)))
     refine TL.mv ?_
     refine TL.vsplit rfl rfl rfl (gives_bin rfl rfl rfl (fun w => bin_neq w)) (fun h40 => ?_) (fun h40 => ?_)
     ·have q40 := of_decide_eq_true h40
      have hq : chkR r ≠ 0 := q40
      have hE : apE ch rl = chkR r := by rw [apE, if_neg hbig, hinv, badR_chk hxr hq]
      refine TL.end_ (TX.then_ (TC.condT rfl (TC.seq_ (TC.region ?_))))
      refine TL.val rfl rfl rfl (gives_build (v := .agg #[.int .i64 0, .int .i64 0, .int .i64 0, .slice none 0 0]) rfl rfl (fun w => japbld45_530  w)) ?_
      refine TL.mv ?_
      refine TL.pstore (k := 2) (vs := [.int .i64 0, .int .i64 0, .int .i64 0, .slice none 0 0]) rfl rfl rfl rfl rfl rfl rfl japsz45 japone_i64i64i64s (by show 4 ≤ 4; decide) (L' := [.blk g10 27 r.cells, .blk g3 45 [.int .i64 ch.v, .int .i64 ch.run, .int .i64 ch.n, .slice A0 n0 c0], .blk g6 45 [.int .i64 0, .int .i64 0, .int .i64 0, .slice none 0 0]]) rfl ?_
      refine TL.as_ ?_
      refine TL.as_ ?_
      refine TL.end_ (TX.then_ (TC.ret_ (TX.then_ret (TX.in_ret (TX.then_ret (TX.then_ret (TX.in_ret (TX.then_ret ?_))))))))
      exact ret_cell3 (k := 2) (v := .slice none 0 0) (v2 := .int .i64 (chkR r)) Tryd.results36 rfl rfl rfl rfl Tryd.underlying45 rfl rfl (fun w1 hw => by rw [(ap_bad hE hq key).1, (ap_bad hE hq key).2.1, (ap_bad hE hq key).2.2]; exact SegR.none_ hw)
     ·have q40 := of_decide_eq_false h40
      have hc0 : chkR r = 0 := Decidable.not_not.1 q40
      refine TL.end_ (TX.then_ (TC.condF rfl (TC.skip_ (TX.then_ (TC.seq_ (TC.region ?_))))))
      refine TL.val rfl rfl rfl (pm_loadV (k := 1) (i := 0) (n := 4) (v := .agg #[.int .i64 ch.v, .int .i64 ch.run, .int .i64 ch.n, .slice A0 n0 c0]) rfl rfl japag45 japsz45 rfl (by show 4 ≤ 4; decide) rfl) ?_
      refine TL.mv ?_
      refine TL.val rfl rfl rfl (pm_loadV (k := 0) (i := 0) (n := 17) (v := .agg (r.cells).toArray) rfl rfl japag27 japsz27 rfl (by show 17 ≤ 17; decide) rfl) ?_
      refine TL.callsplit rfl rfl rfl rfl rfl Tryd.func62 japnm62 japbd62 (fun w1 hw => follows_any ch.v ch.run ch.n (i : Nat) A0 n0 c0 r w1 (by omega)) (fun h46 => ?_) (fun h46 => ?_)
      ·refine TL.val rfl rfl rfl (gives_boolnot rfl rfl) ?_
       refine TL.end_ (TX.then_ (TC.condF rfl (TC.skip_ (TX.in_normal (TX.then_ (TC.region ?_))))))
       refine TL.val rfl rfl rfl (gives_bin rfl rfl rfl (fun w => bin_add_ (r := ((i + 1 : Nat) : Int)) (by simp only [IntKind.wrap_i64]; omega) w)) ?_
       refine TL.mv ?_
       refine TL.end_ ?_
       exact TX.round (⟨i + 1, hi2, by rw [hinv, badR_next hxr hc0 h46]⟩) (by show rl.length - (i + 1) < rl.length - i; omega) ⟨rfl, rfl, rfl, rfl, rfl, rfl, rfl, trivial⟩ (fun w1 hw => hw.pick [1, 2] (by decide) rfl)
      ·have hE : apE ch rl = 18 := by rw [apE, if_neg hbig, hinv, badR_fol hxr hc0 h46]
       refine TL.val rfl rfl rfl (gives_boolnot rfl rfl) ?_
       refine TL.end_ (TX.then_ (TC.condT rfl (TC.seq_ (TC.region ?_))))
       refine TL.val rfl rfl rfl (gives_build (v := .agg #[.int .i64 0, .int .i64 0, .int .i64 0, .slice none 0 0]) rfl rfl (fun w => japbld45_530  w)) ?_
       refine TL.pstore (k := 2) (vs := [.int .i64 0, .int .i64 0, .int .i64 0, .slice none 0 0]) rfl rfl rfl rfl rfl rfl rfl japsz45 japone_i64i64i64s (by show 4 ≤ 4; decide) (L' := [.blk g10 27 r.cells, .blk g3 45 [.int .i64 ch.v, .int .i64 ch.run, .int .i64 ch.n, .slice A0 n0 c0], .blk g6 45 [.int .i64 0, .int .i64 0, .int .i64 0, .slice none 0 0]]) rfl ?_
       refine TL.as_ ?_
       refine TL.as_ ?_
       refine TL.end_ (TX.then_ (TC.ret_ (TX.in_ret (TX.then_ret (TX.then_ret (TX.in_ret (TX.then_ret ?_)))))))
       exact ret_cell3 (k := 2) (v := .slice none 0 0) (v2 := .int .i64 18) Tryd.results36 rfl rfl rfl rfl Tryd.underlying45 rfl rfl (fun w1 hw => by rw [(ap_bad hE (by decide) key).1, (ap_bad hE (by decide) key).2.1, (ap_bad hE (by decide) key).2.2]; exact SegR.none_ hw)
    ·have q33 := of_decide_eq_false h33
     have hi2 : i = rl.length := by omega
     subst hi2
     have hE : apE ch rl = 0 := by rw [apE, if_neg hbig, hinv, List.drop_length]; rfl
     obtain ⟨g1, g2, g3_, g4, g5, g6_, g7, g8, g9, g10⟩ := ap_id hE
     have hsl := segL_le ch.v ch.run ch.n ch.dg rl key
     refine TL.end_ (TX.then_ (TC.seq_ (TC.condF rfl (TC.exit_ (TX.then_exit (TX.then_exit (TX.in_same (TX.then_ (TC.seq_ (TC.region ?_))))))))))
     refine TL.val rfl rfl rfl (pm_loadV (k := 0) (i := 0) (n := 4) (v := .agg #[.int .i64 ch.v, .int .i64 ch.run, .int .i64 ch.n, .slice A0 n0 c0]) rfl rfl japag45 japsz45 rfl (by show 4 ≤ 4; decide) rfl) ?_
     refine TL.val rfl rfl rfl (gives_field (v := .pointer (some ⟨g3, 3, none⟩)) rfl rfl (fun w => japfld45_3 _ _ w)) ?_
     refine TL.val rfl rfl rfl (pm_load (k := 0) (i := 3) rfl rfl japag28 rfl rfl) ?_
     refine TL.mv ?_
     refine TL.mv ?_
     refine TL.pcallRow (n := (segL ch.v ch.run ch.n ch.dg rl key).length) (ys := bv (segL ch.v ch.run ch.n ch.dg rl key)) rfl rfl rfl rfl rfl Tryd.func59 japnm59 japbd59 (fun w1 hw => seg_any ch.v ch.run ch.n _ _ _ _ _ _ ch.dg _ _ rl _ _ _ key w1 ((hb0.below hw.bel).more hw.bel.size) ((hr2.below hw.bel).more hw.bel.size) ((hb3.below hw.bel).more hw.bel.size) (by first | omega | decide | exact (by simp [zeroL])) (by first | omega | decide | exact (by simp [zeroL])) (by first | omega | decide | exact (by simp [zeroL])) (by first | omega | decide | exact (by simp [zeroL])) (by first | omega | decide | exact (by simp [zeroL])) (by first | omega | decide | exact (by simp [zeroL])) (by first | omega | decide | exact (by simp [zeroL])) (by first | omega | decide | exact (by simp [zeroL])) (by first | omega | decide | exact (by simp [zeroL])) hOk (hst.below hw.bel hst.lt) (hky.below hw.bel hky.lt)) (fun A55 c55 hA551 hA552 => ?_)
     refine TL.as_ ?_
     refine TL.end_ (TX.then_ (TC.seq_ (TC.region ?_)))
     refine TL.val rfl rfl rfl (gives_field (v := .pointer (some ⟨g3, 2, none⟩)) rfl rfl (fun w => japfld45_2 _ _ w)) ?_
     refine TL.val rfl rfl rfl (pm_load (k := 1) (i := 2) rfl rfl japag3 rfl rfl) ?_
     refine TL.mv ?_
     refine TL.val rfl rfl rfl (gives_len rfl Tryd.underlying33 rfl) ?_
     refine TL.val rfl rfl rfl (gives_bin rfl rfl rfl (fun w => bin_add_ (r := ch.n + (rl.length : Nat)) (by simp only [IntKind.wrap_i64]; omega) w)) ?_
     refine TL.val rfl rfl rfl (gives_field (v := .pointer (some ⟨g3, 2, none⟩)) rfl rfl (fun w => japfld45_2 _ _ w)) ?_
     refine TL.pstore (k := 1) (vs := [.int .i64 (ch.n + (rl.length : Nat))]) rfl rfl rfl rfl rfl rfl rfl japsz3 japone_i64 (by show 3 ≤ 4; decide) (L' := [.row (.slice A55 ((segL ch.v ch.run ch.n ch.dg rl key).length) c55) 5 1 ((segL ch.v ch.run ch.n ch.dg rl key).length) (bv (segL ch.v ch.run ch.n ch.dg rl key)), .blk g3 45 [.int .i64 ch.v, .int .i64 ch.run, .int .i64 (ch.n + (rl.length : Nat)), .slice A0 n0 c0], .blk g6 45 [.int .i64 0, .int .i64 0, .int .i64 0, .slice none 0 0]]) rfl ?_
     refine TL.end_ (TX.then_ (TC.seq_ (TC.region ?_)))
     refine TL.mv ?_
     refine TL.pcallRow (n := 32) (ys := bv (shaF (segL ch.v ch.run ch.n ch.dg rl key))) rfl rfl rfl rfl rfl Tryd.func54 japnm54 japbd54 (fun w1 hw => sum_any _ _ _ (segL ch.v ch.run ch.n ch.dg rl key) w1 (byt_own (hw.at_ (k := 0) rfl) (segL_bs _ _ _ hb0.2 _ _)) (by omega) (hst.below hw.bel hst.lt) (hky.below hw.bel hky.lt)) (fun A63 c63 hA631 hA632 => ?_)
     refine TL.val rfl rfl rfl (gives_field (v := .pointer (some ⟨g3, 3, none⟩)) rfl rfl (fun w => japfld45_3 _ _ w)) ?_
     refine TL.pstore (k := 2) (vs := [.slice A63 32 c63]) rfl rfl rfl rfl rfl rfl rfl japsz28 japone_s (by show 4 ≤ 4; decide) (L' := [.row (.slice A63 32 c63) 5 1 32 (bv (shaF (segL ch.v ch.run ch.n ch.dg rl key))), .row (.slice A55 ((segL ch.v ch.run ch.n ch.dg rl key).length) c55) 5 1 ((segL ch.v ch.run ch.n ch.dg rl key).length) (bv (segL ch.v ch.run ch.n ch.dg rl key)), .blk g3 45 [.int .i64 ch.v, .int .i64 ch.run, .int .i64 (ch.n + (rl.length : Nat)), .slice A63 32 c63], .blk g6 45 [.int .i64 0, .int .i64 0, .int .i64 0, .slice none 0 0]]) rfl ?_
     refine TL.end_ (TX.then_ (TC.seq_ (TC.region ?_)))
     refine TL.val rfl rfl rfl (pm_loadV (k := 2) (i := 0) (n := 4) (v := .agg #[.int .i64 ch.v, .int .i64 ch.run, .int .i64 (ch.n + (rl.length : Nat)), .slice A63 32 c63]) rfl rfl japag45 japsz45 rfl (by show 4 ≤ 4; decide) rfl) ?_
     refine TL.mv ?_
     refine TL.pstore (k := 3) (vs := [.int .i64 ch.v, .int .i64 ch.run, .int .i64 (ch.n + (rl.length : Nat)), .slice A63 32 c63]) rfl rfl rfl rfl rfl rfl rfl japsz45 japone_i64i64i64s (by show 4 ≤ 4; decide) (L' := [.row (.slice A63 32 c63) 5 1 32 (bv (shaF (segL ch.v ch.run ch.n ch.dg rl key))), .row (.slice A55 ((segL ch.v ch.run ch.n ch.dg rl key).length) c55) 5 1 ((segL ch.v ch.run ch.n ch.dg rl key).length) (bv (segL ch.v ch.run ch.n ch.dg rl key)), .blk g3 45 [.int .i64 ch.v, .int .i64 ch.run, .int .i64 (ch.n + (rl.length : Nat)), .slice A63 32 c63], .blk g6 45 [.int .i64 ch.v, .int .i64 ch.run, .int .i64 (ch.n + (rl.length : Nat)), .slice A63 32 c63]]) rfl ?_
     refine TL.as_ ?_
     refine TL.as_ ?_
     refine TL.end_ (TX.then_ (TC.ret_ ?_))
     exact ret_cell3 (k := 3) (v := .slice A55 ((segL ch.v ch.run ch.n ch.dg rl key).length) c55) (v2 := .int .i64 0) Tryd.results36 rfl rfl rfl rfl Tryd.underlying45 rfl rfl (fun w1 hw => by rw [(ap_ok hE key).1, (ap_ok hE key).2.1, (ap_ok hE key).2.2]; exact ⟨A55, c55, A63, c63, _, _, rfl, shaF_len _, hA551, hA552, hA631, hA632, rfl, hw.pick [1, 0] (by decide) rfl⟩)
set_option maxHeartbeats 2000000 in
theorem rappend_any (A0 : Option Addr) (n0 c0 : Nat) (ch : Chn) (A2 : Option Addr) (c2 : Nat) (rl : List Rs) (A3 : Option Addr) (n3 c3 : Nat) (key : List Int) (w : World) (hb3 : Byt w w.heap.size A3 n3 key) (hk : n3 ≤ 1000000000) (hb0 : Byt w w.heap.size A0 n0 ch.dg) (hr2 : Reads w w.heap.size 17 A2 rl.length (rcs rl)) (hn0 : -1000000 ≤ ch.n) (hn1 : ch.n ≤ 1000000) (hd : ch.dg.length ≤ 10000) (hrl : rl.length ≤ 1000000000) (hOk : ∀ r ∈ rl, r.Ok) :
  Calls Tryd.prog 37 #[.agg #[.int .i64 ch.v, .int .i64 ch.run, .int .i64 ch.n, .slice A0 n0 c0], .slice A2 rl.length c2, .slice A3 n3 c3] w fun e w' => SegR (apC ch rl key) (apS ch rl key) (apE ch rl) w e w' := by
 have hl0 := hb0.len
 refine begin_ (vs := [.agg #[.int .i64 ch.v, .int .i64 ch.run, .int .i64 ch.n, .slice A0 n0 c0], .slice A2 rl.length c2, .slice A3 n3 c3]) Tryd.func37 rfl rfl rfl ?_ (Pm.start w)
 refine TC.seq_ (TC.region ?_)
 refine TL.pnew rfl rfl rfl (exec_box (cs := [.int .i64 ch.v, .int .i64 ch.run, .int .i64 ch.n, .slice A0 n0 c0]) rfl rfl rfl) (fun g3 => ?_)
 refine TL.pnew rfl rfl rfl (exec_alloc (cs := [.int .i64 0, .int .i64 0, .int .i64 0, .slice none 0 0]) rfl japzv45 rfl) (fun g6 => ?_)
 refine TL.as_ ?_
 refine TL.as_ ?_
 refine TL.end_ (TX.then_ (TC.seq_ (TC.seq_ (TC.region ?_))))
 refine TL.mv ?_
 refine TL.val rfl rfl rfl (gives_len rfl Tryd.underlying33 rfl) ?_
 refine TL.vsplit rfl rfl rfl (gives_bin rfl rfl rfl (fun w => bin_lss w)) (fun h14 => ?_) (fun h14 => ?_)
 ·have q14 := of_decide_eq_true h14
  have hbig : apBig ch rl := by unfold apBig; omega
  iterate 13 (first | refine TL.of ?_ | refine TL.mv ?_ | refine TL.pk ?_)
  refine TL.end_ (TX.then_ (TC.condT rfl (TC.seq_ (TC.region ?_))))
  refine TL.val rfl rfl rfl (gives_build (v := .agg #[.int .i64 0, .int .i64 0, .int .i64 0, .slice none 0 0]) rfl rfl (fun w => japbld45_530  w)) ?_
  refine TL.pstore (k := 0) (vs := [.int .i64 0, .int .i64 0, .int .i64 0, .slice none 0 0]) rfl rfl rfl rfl rfl rfl rfl japsz45 japone_i64i64i64s (by show 4 ≤ 4; decide) (L' := [.blk g6 45 [.int .i64 0, .int .i64 0, .int .i64 0, .slice none 0 0], .blk g3 45 [.int .i64 ch.v, .int .i64 ch.run, .int .i64 ch.n, .slice A0 n0 c0]]) rfl ?_
  refine TL.as_ ?_
  refine TL.as_ ?_
  refine TL.end_ (TX.then_ (TC.ret_ (TX.then_ret ?_)))
  exact ret_cell3 (k := 0) (v := .slice none 0 0) (v2 := .int .i64 5) Tryd.results37 rfl rfl rfl rfl Tryd.underlying45 rfl rfl (fun w1 hw => by rw [(ap_bad (apE_big hbig) (by decide) key).1, (ap_bad (apE_big hbig) (by decide) key).2.1, (ap_bad (apE_big hbig) (by decide) key).2.2]; exact SegR.none_ hw)
 ·have q14 := of_decide_eq_false h14
  iterate 4 (first | refine TL.gu ?_ | refine TL.mv ?_)
  refine TL.val rfl rfl rfl (gives_len rfl Tryd.underlying33 rfl) ?_
  refine TL.gu ?_
  refine TL.vsplit rfl rfl rfl (gives_bin rfl rfl rfl (fun w => bin_gtr w)) (fun h18 => ?_) (fun h18 => ?_)
  ·have q18 := of_decide_eq_true h18
   have hbig : apBig ch rl := by unfold apBig; omega
   iterate 9 (first | refine TL.of ?_ | refine TL.pk ?_ | refine TL.mv ?_)
   refine TL.end_ (TX.then_ (TC.condT rfl (TC.seq_ (TC.region ?_))))
   refine TL.val rfl rfl rfl (gives_build (v := .agg #[.int .i64 0, .int .i64 0, .int .i64 0, .slice none 0 0]) rfl rfl (fun w => japbld45_530  w)) ?_
   refine TL.pstore (k := 0) (vs := [.int .i64 0, .int .i64 0, .int .i64 0, .slice none 0 0]) rfl rfl rfl rfl rfl rfl rfl japsz45 japone_i64i64i64s (by show 4 ≤ 4; decide) (L' := [.blk g6 45 [.int .i64 0, .int .i64 0, .int .i64 0, .slice none 0 0], .blk g3 45 [.int .i64 ch.v, .int .i64 ch.run, .int .i64 ch.n, .slice A0 n0 c0]]) rfl ?_
   refine TL.as_ ?_
   refine TL.as_ ?_
   refine TL.end_ (TX.then_ (TC.ret_ (TX.then_ret ?_)))
   exact ret_cell3 (k := 0) (v := .slice none 0 0) (v2 := .int .i64 5) Tryd.results37 rfl rfl rfl rfl Tryd.underlying45 rfl rfl (fun w1 hw => by rw [(ap_bad (apE_big hbig) (by decide) key).1, (ap_bad (apE_big hbig) (by decide) key).2.1, (ap_bad (apE_big hbig) (by decide) key).2.2]; exact SegR.none_ hw)
  ·have q18 := of_decide_eq_false h18
   refine TL.pk ?_
   refine TL.mv ?_
   refine TL.gu ?_
   refine TL.val rfl rfl rfl (gives_field (v := .pointer (some ⟨g3, 2, none⟩)) rfl rfl (fun w => japfld45_2 _ _ w)) ?_
   refine TL.gu ?_
   refine TL.val rfl rfl rfl (pm_load (k := 1) (i := 2) rfl rfl japag3 rfl rfl) ?_
   refine TL.gu ?_
   refine TL.mv ?_
   refine TL.gu ?_
   refine TL.val rfl rfl rfl (gives_len rfl Tryd.underlying33 rfl) ?_
   refine TL.gu ?_
   refine TL.val rfl rfl rfl (gives_bin rfl rfl rfl (fun w => bin_add_ (r := ch.n + (rl.length : Nat)) (by simp only [IntKind.wrap_i64]; omega) w)) ?_
   refine TL.gu ?_
   refine TL.vsplit rfl rfl rfl (gives_bin rfl rfl rfl (fun w => bin_gtr w)) (fun h26 => ?_) (fun h26 => ?_)
   ·have q26 := of_decide_eq_true h26
    have hbig : apBig ch rl := by unfold apBig; omega
    refine TL.pk ?_
    refine TL.end_ (TX.then_ (TC.condT rfl (TC.seq_ (TC.region ?_))))
    refine TL.val rfl rfl rfl (gives_build (v := .agg #[.int .i64 0, .int .i64 0, .int .i64 0, .slice none 0 0]) rfl rfl (fun w => japbld45_530  w)) ?_
    refine TL.pstore (k := 0) (vs := [.int .i64 0, .int .i64 0, .int .i64 0, .slice none 0 0]) rfl rfl rfl rfl rfl rfl rfl japsz45 japone_i64i64i64s (by show 4 ≤ 4; decide) (L' := [.blk g6 45 [.int .i64 0, .int .i64 0, .int .i64 0, .slice none 0 0], .blk g3 45 [.int .i64 ch.v, .int .i64 ch.run, .int .i64 ch.n, .slice A0 n0 c0]]) rfl ?_
    refine TL.as_ ?_
    refine TL.as_ ?_
    refine TL.end_ (TX.then_ (TC.ret_ (TX.then_ret ?_)))
    exact ret_cell3 (k := 0) (v := .slice none 0 0) (v2 := .int .i64 5) Tryd.results37 rfl rfl rfl rfl Tryd.underlying45 rfl rfl (fun w1 hw => by rw [(ap_bad (apE_big hbig) (by decide) key).1, (ap_bad (apE_big hbig) (by decide) key).2.1, (ap_bad (apE_big hbig) (by decide) key).2.2]; exact SegR.none_ hw)
   ·have q26 := of_decide_eq_false h26
    have hbig : ¬ apBig ch rl := by unfold apBig; omega
    refine TL.pk ?_
    refine TL.end_ (TX.then_ (TC.condF rfl (TC.skip_ (TX.then_ (TC.seq_ (TC.seq_ (TC.region ?_)))))))
    refine TL.as_ ?_
    refine TL.end_ (TX.then_ (TC.block ?_))
    refine TC.loop_ (α := {i : Nat // i ≤ rl.length ∧ badR ch rl 0 = badR ch (rl.drop i) i}) (fun y => [(1, .slice A2 rl.length c2), (2, .slice A3 n3 c3), (3, .pointer (some ⟨g3, 0, none⟩)), (6, .pointer (some ⟨g6, 0, none⟩)), (9, .int .i64 (y.1 : Nat))]) (fun y => Pm w [.blk g3 45 [.int .i64 ch.v, .int .i64 ch.run, .int .i64 ch.n, .slice A0 n0 c0], .blk g6 45 [.int .i64 0, .int .i64 0, .int .i64 0, .slice none 0 0]]) (fun y => rl.length - y.1) (⟨0, Nat.zero_le _, by rw [List.drop_zero]⟩) ⟨rfl, rfl, rfl, rfl, rfl, trivial⟩ (fun w1 hw => hw.pick [1, 0] (by decide) rfl) ?_
    rintro ⟨i, hi, hinv⟩
    dsimp only at hi hinv ⊢
    refine TC.seq_ (TC.seq_ (TC.region ?_))
    refine TL.mv ?_
    refine TL.mv ?_
    refine TL.val rfl rfl rfl (gives_len rfl Tryd.underlying33 rfl) ?_
    refine TL.vsplit rfl rfl rfl (gives_bin rfl rfl rfl (fun w => bin_lss w)) (fun h32 => ?_) (fun h32 => ?_)
    ·have q32 := of_decide_eq_true h32
     have hi2 : i < rl.length := by omega
     obtain ⟨r, hxr⟩ : ∃ r, rl[i]? = some r := ⟨_, List.getElem?_eq_getElem hi2⟩
     obtain ⟨b2, o2, hA2, hbb2, hc2⟩ := hr2.ad (by omega) (by decide)
     refine TL.end_ (TX.then_ (TC.condT rfl (TC.skip_ (TX.then_ (TC.seq_ (TC.block (TC.seq_ (TC.seq_ (TC.region ?_)))))))))
     refine TL.mv ?_
     refine TL.mv ?_
     refine TL.val rfl rfl rfl (gives_at (v := .pointer (some ⟨b2, o2 + i * 17, none⟩)) rfl rfl rfl (fun w => at_el Tryd.underlying33 japsz27 hA2 _ _ i hi2 rfl w)) ?_
     refine TL.val rfl rfl rfl (gives_loadR rfl rfl japag27 japsz27 (rs_cells_len r) (fun w1 hw j u hu => (hw.bel.cell hbb2).trans (rcs_cell hxr hc2 j u hu))) ?_
     refine TL.pcall1 (r := .int .i64 (chkR r)) rfl rfl rfl rfl rfl Tryd.func15 japnm15 japbd15 (fun w1 hw => rcheck_any r w1) ?_
     refine TL.as_ ?_
     refine TL.end_ (TX.then_ (TC.seq_ (TC.region ?_)))
     refine TL.mv ?_
     refine TL.vsplit rfl rfl rfl (gives_bin rfl rfl rfl (fun w => bin_neq w)) (fun h41 => ?_) (fun h41 => ?_)
     ·have q41 := of_decide_eq_true h41
      have hq : chkR r ≠ 0 := q41
      have hE : apE ch rl = chkR r := by rw [apE, if_neg hbig, hinv, badR_chk hxr hq]
      refine TL.end_ (TX.then_ (TC.condT rfl (TC.seq_ (TC.region ?_))))
      refine TL.val rfl rfl rfl (gives_build (v := .agg #[.int .i64 0, .int .i64 0, .int .i64 0, .slice none 0 0]) rfl rfl (fun w => japbld45_530  w)) ?_
      refine TL.mv ?_
      refine TL.pstore (k := 1) (vs := [.int .i64 0, .int .i64 0, .int .i64 0, .slice none 0 0]) rfl rfl rfl rfl rfl rfl rfl japsz45 japone_i64i64i64s (by show 4 ≤ 4; decide) (L' := [.blk g3 45 [.int .i64 ch.v, .int .i64 ch.run, .int .i64 ch.n, .slice A0 n0 c0], .blk g6 45 [.int .i64 0, .int .i64 0, .int .i64 0, .slice none 0 0]]) rfl ?_
      refine TL.as_ ?_
      refine TL.as_ ?_
      refine TL.end_ (TX.then_ (TC.ret_ (TX.then_ret (TX.in_ret (TX.then_ret (TX.then_ret (TX.in_ret (TX.then_ret ?_))))))))
      exact ret_cell3 (k := 1) (v := .slice none 0 0) (v2 := .int .i64 (chkR r)) Tryd.results37 rfl rfl rfl rfl Tryd.underlying45 rfl rfl (fun w1 hw => by rw [(ap_bad hE hq key).1, (ap_bad hE hq key).2.1, (ap_bad hE hq key).2.2]; exact SegR.none_ hw)
     ·have q41 := of_decide_eq_false h41
      have hc0 : chkR r = 0 := Decidable.not_not.1 q41
      refine TL.end_ (TX.then_ (TC.condF rfl (TC.skip_ (TX.then_ (TC.seq_ ?_)))))
      rcases (by omega : (¬ r.v = ch.v) ∨ (r.v = ch.v ∧ ¬ r.run = ch.run) ∨ (r.v = ch.v ∧ r.run = ch.run ∧ ¬ r.num = ch.n + (i : Nat)) ∨ (r.v = ch.v ∧ r.run = ch.run ∧ r.num = ch.n + (i : Nat))) with p1 | ⟨p1, p2⟩ | ⟨p1, p2, p3⟩ | ⟨p1, p2, p3⟩
      ·have hf : followsC ch.v ch.run ch.n i r = false := decide_eq_false (by rintro ⟨x1, x2, x3⟩; omega)
       have hE : apE ch rl = 18 := by rw [apE, if_neg hbig, hinv, badR_fol hxr hc0 hf]
       refine TC.quiet_ (E' := ?_) (by kernel_rfl) (by kernel_rfl) (fun w hw => hw.drawn _) ?_ ?_
       rotate_left
       ·refine TQ.val rfl rfl rfl (gives_move rfl rfl) ?_
        refine TQ.val rfl rfl rfl (gives_move rfl rfl) ?_
        refine TQ.val rfl rfl rfl (gives_at (v := .pointer (some ⟨b2, o2 + i * 17, none⟩)) rfl rfl rfl (fun w => at_el Tryd.underlying33 japsz27 hA2 _ _ i hi2 rfl w)) ?_
        refine TQ.val rfl rfl rfl (gives_field (v := .pointer (some ⟨b2, o2 + i * 17 + 0, none⟩)) rfl rfl (fun w => japfld27_0 _ _ w)) ?_
        refine TQ.val rfl rfl rfl (gives_load (v := .int .i64 r.v) rfl rfl (fun w => rfl) (fun w1 hw => (hw.bel.cell hbb2).trans (rcs_cell hxr hc2 0 _ rfl))) ?_
        refine TQ.val rfl rfl rfl (gives_field (v := .pointer (some ⟨g3, 0, none⟩)) rfl rfl (fun w => japfld45_0 _ _ w)) ?_
        refine TQ.val rfl rfl rfl (pm_load (k := 0) (i := 0) rfl rfl japag3 rfl rfl) ?_
        refine TQ.val rfl rfl rfl (gives_bin rfl rfl rfl (fun w => bin_neq_t (p1) w)) ?_
        iterate 22 (first | refine TQ.off rfl rfl rfl rfl rfl rfl ?_ | refine TQ.val rfl rfl rfl (gives_move rfl rfl) ?_ | refine TQ.val rfl rfl rfl (gives_pick rfl rfl rfl) ?_)
        exact TQ.end_
       refine TX.then_ (TC.condT rfl (TC.seq_ (TC.region ?_)))
       refine TL.val rfl rfl rfl (gives_build (v := .agg #[.int .i64 0, .int .i64 0, .int .i64 0, .slice none 0 0]) rfl rfl (fun w => japbld45_530  w)) ?_
       refine TL.pstore (k := 1) (vs := [.int .i64 0, .int .i64 0, .int .i64 0, .slice none 0 0]) rfl rfl rfl rfl rfl rfl rfl japsz45 japone_i64i64i64s (by show 4 ≤ 4; decide) (L' := [.blk g3 45 [.int .i64 ch.v, .int .i64 ch.run, .int .i64 ch.n, .slice A0 n0 c0], .blk g6 45 [.int .i64 0, .int .i64 0, .int .i64 0, .slice none 0 0]]) rfl ?_
       refine TL.as_ ?_
       refine TL.as_ ?_
       refine TL.end_ (TX.then_ (TC.ret_ (TX.in_ret (TX.then_ret (TX.then_ret (TX.in_ret (TX.then_ret ?_)))))))
       exact ret_cell3 (k := 1) (v := .slice none 0 0) (v2 := .int .i64 18) Tryd.results37 rfl rfl rfl rfl Tryd.underlying45 rfl rfl (fun w1 hw => by rw [(ap_bad hE (by decide) key).1, (ap_bad hE (by decide) key).2.1, (ap_bad hE (by decide) key).2.2]; exact SegR.none_ hw)
      ·have hf : followsC ch.v ch.run ch.n i r = false := decide_eq_false (by rintro ⟨x1, x2, x3⟩; omega)
       have hE : apE ch rl = 18 := by rw [apE, if_neg hbig, hinv, badR_fol hxr hc0 hf]
       refine TC.quiet_ (E' := ?_) (by kernel_rfl) (by kernel_rfl) (fun w hw => hw.drawn _) ?_ ?_
       rotate_left
       ·refine TQ.val rfl rfl rfl (gives_move rfl rfl) ?_
        refine TQ.val rfl rfl rfl (gives_move rfl rfl) ?_
        refine TQ.val rfl rfl rfl (gives_at (v := .pointer (some ⟨b2, o2 + i * 17, none⟩)) rfl rfl rfl (fun w => at_el Tryd.underlying33 japsz27 hA2 _ _ i hi2 rfl w)) ?_
        refine TQ.val rfl rfl rfl (gives_field (v := .pointer (some ⟨b2, o2 + i * 17 + 0, none⟩)) rfl rfl (fun w => japfld27_0 _ _ w)) ?_
        refine TQ.val rfl rfl rfl (gives_load (v := .int .i64 r.v) rfl rfl (fun w => rfl) (fun w1 hw => (hw.bel.cell hbb2).trans (rcs_cell hxr hc2 0 _ rfl))) ?_
        refine TQ.val rfl rfl rfl (gives_field (v := .pointer (some ⟨g3, 0, none⟩)) rfl rfl (fun w => japfld45_0 _ _ w)) ?_
        refine TQ.val rfl rfl rfl (pm_load (k := 0) (i := 0) rfl rfl japag3 rfl rfl) ?_
        refine TQ.val rfl rfl rfl (gives_bin rfl rfl rfl (fun w => bin_neq_f (p1) w)) ?_
        iterate 6 (first | refine TQ.val rfl rfl rfl (gives_move rfl rfl) ?_ | refine TQ.on rfl rfl rfl ?_)
        refine TQ.val rfl rfl rfl (gives_at (v := .pointer (some ⟨b2, o2 + i * 17, none⟩)) rfl rfl rfl (fun w => at_el Tryd.underlying33 japsz27 hA2 _ _ i hi2 rfl w)) ?_
        refine TQ.on rfl rfl rfl ?_
        refine TQ.val rfl rfl rfl (gives_field (v := .pointer (some ⟨b2, o2 + i * 17 + 1, none⟩)) rfl rfl (fun w => japfld27_1 _ _ w)) ?_
        refine TQ.on rfl rfl rfl ?_
        refine TQ.val rfl rfl rfl (gives_load (v := .int .i64 r.run) rfl rfl (fun w => rfl) (fun w1 hw => (hw.bel.cell hbb2).trans (rcs_cell hxr hc2 1 _ rfl))) ?_
        refine TQ.on rfl rfl rfl ?_
        refine TQ.val rfl rfl rfl (gives_field (v := .pointer (some ⟨g3, 1, none⟩)) rfl rfl (fun w => japfld45_1 _ _ w)) ?_
        refine TQ.on rfl rfl rfl ?_
        refine TQ.val rfl rfl rfl (pm_load (k := 0) (i := 1) rfl rfl japag3 rfl rfl) ?_
        refine TQ.on rfl rfl rfl ?_
        refine TQ.val rfl rfl rfl (gives_bin rfl rfl rfl (fun w => bin_neq_t (p2) w)) ?_
        iterate 13 (first | refine TQ.off rfl rfl rfl rfl rfl rfl ?_ | refine TQ.val rfl rfl rfl (gives_pick rfl rfl rfl) ?_ | refine TQ.val rfl rfl rfl (gives_move rfl rfl) ?_)
        exact TQ.end_
       refine TX.then_ (TC.condT rfl (TC.seq_ (TC.region ?_)))
       refine TL.val rfl rfl rfl (gives_build (v := .agg #[.int .i64 0, .int .i64 0, .int .i64 0, .slice none 0 0]) rfl rfl (fun w => japbld45_530  w)) ?_
       refine TL.pstore (k := 1) (vs := [.int .i64 0, .int .i64 0, .int .i64 0, .slice none 0 0]) rfl rfl rfl rfl rfl rfl rfl japsz45 japone_i64i64i64s (by show 4 ≤ 4; decide) (L' := [.blk g3 45 [.int .i64 ch.v, .int .i64 ch.run, .int .i64 ch.n, .slice A0 n0 c0], .blk g6 45 [.int .i64 0, .int .i64 0, .int .i64 0, .slice none 0 0]]) rfl ?_
       refine TL.as_ ?_
       refine TL.as_ ?_
       refine TL.end_ (TX.then_ (TC.ret_ (TX.in_ret (TX.then_ret (TX.then_ret (TX.in_ret (TX.then_ret ?_)))))))
       exact ret_cell3 (k := 1) (v := .slice none 0 0) (v2 := .int .i64 18) Tryd.results37 rfl rfl rfl rfl Tryd.underlying45 rfl rfl (fun w1 hw => by rw [(ap_bad hE (by decide) key).1, (ap_bad hE (by decide) key).2.1, (ap_bad hE (by decide) key).2.2]; exact SegR.none_ hw)
      ·have hf : followsC ch.v ch.run ch.n i r = false := decide_eq_false (by rintro ⟨x1, x2, x3⟩; omega)
       have hE : apE ch rl = 18 := by rw [apE, if_neg hbig, hinv, badR_fol hxr hc0 hf]
       refine TC.quiet_ (E' := ?_) (by kernel_rfl) (by kernel_rfl) (fun w hw => hw.drawn _) ?_ ?_
       rotate_left
       ·refine TQ.val rfl rfl rfl (gives_move rfl rfl) ?_
        refine TQ.val rfl rfl rfl (gives_move rfl rfl) ?_
        refine TQ.val rfl rfl rfl (gives_at (v := .pointer (some ⟨b2, o2 + i * 17, none⟩)) rfl rfl rfl (fun w => at_el Tryd.underlying33 japsz27 hA2 _ _ i hi2 rfl w)) ?_
        refine TQ.val rfl rfl rfl (gives_field (v := .pointer (some ⟨b2, o2 + i * 17 + 0, none⟩)) rfl rfl (fun w => japfld27_0 _ _ w)) ?_
        refine TQ.val rfl rfl rfl (gives_load (v := .int .i64 r.v) rfl rfl (fun w => rfl) (fun w1 hw => (hw.bel.cell hbb2).trans (rcs_cell hxr hc2 0 _ rfl))) ?_
        refine TQ.val rfl rfl rfl (gives_field (v := .pointer (some ⟨g3, 0, none⟩)) rfl rfl (fun w => japfld45_0 _ _ w)) ?_
        refine TQ.val rfl rfl rfl (pm_load (k := 0) (i := 0) rfl rfl japag3 rfl rfl) ?_
        refine TQ.val rfl rfl rfl (gives_bin rfl rfl rfl (fun w => bin_neq_f (p1) w)) ?_
        iterate 6 (first | refine TQ.val rfl rfl rfl (gives_move rfl rfl) ?_ | refine TQ.on rfl rfl rfl ?_)
        refine TQ.val rfl rfl rfl (gives_at (v := .pointer (some ⟨b2, o2 + i * 17, none⟩)) rfl rfl rfl (fun w => at_el Tryd.underlying33 japsz27 hA2 _ _ i hi2 rfl w)) ?_
        refine TQ.on rfl rfl rfl ?_
        refine TQ.val rfl rfl rfl (gives_field (v := .pointer (some ⟨b2, o2 + i * 17 + 1, none⟩)) rfl rfl (fun w => japfld27_1 _ _ w)) ?_
        refine TQ.on rfl rfl rfl ?_
        refine TQ.val rfl rfl rfl (gives_load (v := .int .i64 r.run) rfl rfl (fun w => rfl) (fun w1 hw => (hw.bel.cell hbb2).trans (rcs_cell hxr hc2 1 _ rfl))) ?_
        refine TQ.on rfl rfl rfl ?_
        refine TQ.val rfl rfl rfl (gives_field (v := .pointer (some ⟨g3, 1, none⟩)) rfl rfl (fun w => japfld45_1 _ _ w)) ?_
        refine TQ.on rfl rfl rfl ?_
        refine TQ.val rfl rfl rfl (pm_load (k := 0) (i := 1) rfl rfl japag3 rfl rfl) ?_
        refine TQ.on rfl rfl rfl ?_
        refine TQ.val rfl rfl rfl (gives_bin rfl rfl rfl (fun w => bin_neq_f (p2) w)) ?_
        iterate 7 (first | refine TQ.val rfl rfl rfl (gives_move rfl rfl) ?_ | refine TQ.on rfl rfl rfl ?_ | refine TQ.val rfl rfl rfl (gives_pick rfl rfl rfl) ?_)
        refine TQ.val rfl rfl rfl (gives_at (v := .pointer (some ⟨b2, o2 + i * 17, none⟩)) rfl rfl rfl (fun w => at_el Tryd.underlying33 japsz27 hA2 _ _ i hi2 rfl w)) ?_
        refine TQ.on rfl rfl rfl ?_
        refine TQ.val rfl rfl rfl (gives_field (v := .pointer (some ⟨b2, o2 + i * 17 + 2, none⟩)) rfl rfl (fun w => japfld27_2 _ _ w)) ?_
        refine TQ.on rfl rfl rfl ?_
        refine TQ.val rfl rfl rfl (gives_load (v := .int .i64 r.num) rfl rfl (fun w => rfl) (fun w1 hw => (hw.bel.cell hbb2).trans (rcs_cell hxr hc2 2 _ rfl))) ?_
        refine TQ.on rfl rfl rfl ?_
        refine TQ.val rfl rfl rfl (gives_field (v := .pointer (some ⟨g3, 2, none⟩)) rfl rfl (fun w => japfld45_2 _ _ w)) ?_
        refine TQ.on rfl rfl rfl ?_
        refine TQ.val rfl rfl rfl (pm_load (k := 0) (i := 2) rfl rfl japag3 rfl rfl) ?_
        refine TQ.on rfl rfl rfl ?_
        refine TQ.val rfl rfl rfl (gives_move rfl rfl) ?_
        refine TQ.on rfl rfl rfl ?_
        refine TQ.val rfl rfl rfl (gives_bin rfl rfl rfl (fun w => bin_add_ (r := ch.n + (i : Nat)) (by simp only [IntKind.wrap_i64]; omega) w)) ?_
        refine TQ.on rfl rfl rfl ?_
        refine TQ.val rfl rfl rfl (gives_bin rfl rfl rfl (fun w => bin_neq_t (p3) w)) ?_
        refine TQ.val rfl rfl rfl (gives_pick rfl rfl rfl) ?_
        exact TQ.end_
       refine TX.then_ (TC.condT rfl (TC.seq_ (TC.region ?_)))
       refine TL.val rfl rfl rfl (gives_build (v := .agg #[.int .i64 0, .int .i64 0, .int .i64 0, .slice none 0 0]) rfl rfl (fun w => japbld45_530  w)) ?_
       refine TL.pstore (k := 1) (vs := [.int .i64 0, .int .i64 0, .int .i64 0, .slice none 0 0]) rfl rfl rfl rfl rfl rfl rfl japsz45 japone_i64i64i64s (by show 4 ≤ 4; decide) (L' := [.blk g3 45 [.int .i64 ch.v, .int .i64 ch.run, .int .i64 ch.n, .slice A0 n0 c0], .blk g6 45 [.int .i64 0, .int .i64 0, .int .i64 0, .slice none 0 0]]) rfl ?_
       refine TL.as_ ?_
       refine TL.as_ ?_
       refine TL.end_ (TX.then_ (TC.ret_ (TX.in_ret (TX.then_ret (TX.then_ret (TX.in_ret (TX.then_ret ?_)))))))
       exact ret_cell3 (k := 1) (v := .slice none 0 0) (v2 := .int .i64 18) Tryd.results37 rfl rfl rfl rfl Tryd.underlying45 rfl rfl (fun w1 hw => by rw [(ap_bad hE (by decide) key).1, (ap_bad hE (by decide) key).2.1, (ap_bad hE (by decide) key).2.2]; exact SegR.none_ hw)
      ·have hf : followsC ch.v ch.run ch.n i r = true := decide_eq_true (⟨p1, p2, p3⟩)
       refine TC.quiet_ (E' := ?_) (by kernel_rfl) (by kernel_rfl) (fun w hw => hw.drawn _) ?_ ?_
       rotate_left
       ·refine TQ.val rfl rfl rfl (gives_move rfl rfl) ?_
        refine TQ.val rfl rfl rfl (gives_move rfl rfl) ?_
        refine TQ.val rfl rfl rfl (gives_at (v := .pointer (some ⟨b2, o2 + i * 17, none⟩)) rfl rfl rfl (fun w => at_el Tryd.underlying33 japsz27 hA2 _ _ i hi2 rfl w)) ?_
        refine TQ.val rfl rfl rfl (gives_field (v := .pointer (some ⟨b2, o2 + i * 17 + 0, none⟩)) rfl rfl (fun w => japfld27_0 _ _ w)) ?_
        refine TQ.val rfl rfl rfl (gives_load (v := .int .i64 r.v) rfl rfl (fun w => rfl) (fun w1 hw => (hw.bel.cell hbb2).trans (rcs_cell hxr hc2 0 _ rfl))) ?_
        refine TQ.val rfl rfl rfl (gives_field (v := .pointer (some ⟨g3, 0, none⟩)) rfl rfl (fun w => japfld45_0 _ _ w)) ?_
        refine TQ.val rfl rfl rfl (pm_load (k := 0) (i := 0) rfl rfl japag3 rfl rfl) ?_
        refine TQ.val rfl rfl rfl (gives_bin rfl rfl rfl (fun w => bin_neq_f (p1) w)) ?_
        iterate 6 (first | refine TQ.val rfl rfl rfl (gives_move rfl rfl) ?_ | refine TQ.on rfl rfl rfl ?_)
        refine TQ.val rfl rfl rfl (gives_at (v := .pointer (some ⟨b2, o2 + i * 17, none⟩)) rfl rfl rfl (fun w => at_el Tryd.underlying33 japsz27 hA2 _ _ i hi2 rfl w)) ?_
        refine TQ.on rfl rfl rfl ?_
        refine TQ.val rfl rfl rfl (gives_field (v := .pointer (some ⟨b2, o2 + i * 17 + 1, none⟩)) rfl rfl (fun w => japfld27_1 _ _ w)) ?_
        refine TQ.on rfl rfl rfl ?_
        refine TQ.val rfl rfl rfl (gives_load (v := .int .i64 r.run) rfl rfl (fun w => rfl) (fun w1 hw => (hw.bel.cell hbb2).trans (rcs_cell hxr hc2 1 _ rfl))) ?_
        refine TQ.on rfl rfl rfl ?_
        refine TQ.val rfl rfl rfl (gives_field (v := .pointer (some ⟨g3, 1, none⟩)) rfl rfl (fun w => japfld45_1 _ _ w)) ?_
        refine TQ.on rfl rfl rfl ?_
        refine TQ.val rfl rfl rfl (pm_load (k := 0) (i := 1) rfl rfl japag3 rfl rfl) ?_
        refine TQ.on rfl rfl rfl ?_
        refine TQ.val rfl rfl rfl (gives_bin rfl rfl rfl (fun w => bin_neq_f (p2) w)) ?_
        iterate 7 (first | refine TQ.val rfl rfl rfl (gives_move rfl rfl) ?_ | refine TQ.on rfl rfl rfl ?_ | refine TQ.val rfl rfl rfl (gives_pick rfl rfl rfl) ?_)
        refine TQ.val rfl rfl rfl (gives_at (v := .pointer (some ⟨b2, o2 + i * 17, none⟩)) rfl rfl rfl (fun w => at_el Tryd.underlying33 japsz27 hA2 _ _ i hi2 rfl w)) ?_
        refine TQ.on rfl rfl rfl ?_
        refine TQ.val rfl rfl rfl (gives_field (v := .pointer (some ⟨b2, o2 + i * 17 + 2, none⟩)) rfl rfl (fun w => japfld27_2 _ _ w)) ?_
        refine TQ.on rfl rfl rfl ?_
        refine TQ.val rfl rfl rfl (gives_load (v := .int .i64 r.num) rfl rfl (fun w => rfl) (fun w1 hw => (hw.bel.cell hbb2).trans (rcs_cell hxr hc2 2 _ rfl))) ?_
        refine TQ.on rfl rfl rfl ?_
        refine TQ.val rfl rfl rfl (gives_field (v := .pointer (some ⟨g3, 2, none⟩)) rfl rfl (fun w => japfld45_2 _ _ w)) ?_
        refine TQ.on rfl rfl rfl ?_
        refine TQ.val rfl rfl rfl (pm_load (k := 0) (i := 2) rfl rfl japag3 rfl rfl) ?_
        refine TQ.on rfl rfl rfl ?_
        refine TQ.val rfl rfl rfl (gives_move rfl rfl) ?_
        refine TQ.on rfl rfl rfl ?_
        refine TQ.val rfl rfl rfl (gives_bin rfl rfl rfl (fun w => bin_add_ (r := ch.n + (i : Nat)) (by simp only [IntKind.wrap_i64]; omega) w)) ?_
        refine TQ.on rfl rfl rfl ?_
        refine TQ.val rfl rfl rfl (gives_bin rfl rfl rfl (fun w => bin_neq_f (p3) w)) ?_
        refine TQ.val rfl rfl rfl (gives_pick rfl rfl rfl) ?_
        exact TQ.end_
       refine TX.then_ (TC.condF rfl (TC.skip_ (TX.in_normal (TX.then_ (TC.region ?_)))))
       refine TL.mv ?_
       refine TL.val rfl rfl rfl (gives_bin rfl rfl rfl (fun w => bin_add_ (r := ((i + 1 : Nat) : Int)) (by simp only [IntKind.wrap_i64]; omega) w)) ?_
       refine TL.as_ ?_
       refine TL.end_ ?_
       exact TX.round (⟨i + 1, hi2, by rw [hinv, badR_next hxr hc0 hf]⟩) (by show rl.length - (i + 1) < rl.length - i; omega) ⟨rfl, rfl, rfl, rfl, rfl, trivial⟩ (fun w1 hw => hw)
    ·have q32 := of_decide_eq_false h32
     have hi2 : i = rl.length := by omega
     subst hi2
     have hE : apE ch rl = 0 := by rw [apE, if_neg hbig, hinv, List.drop_length]; rfl
     obtain ⟨g1, g2, g3_, g4, g5, g6_, g7, g8, g9, g10⟩ := ap_id hE
     have hsl := segL_le ch.v ch.run ch.n ch.dg rl key
     refine TL.end_ (TX.then_ (TC.condF rfl (TC.exit_ (TX.then_exit (TX.then_exit (TX.in_same (TX.then_ (TC.seq_ (TC.region ?_)))))))))
     refine TL.val rfl rfl rfl (pm_loadV (k := 0) (i := 0) (n := 4) (v := .agg #[.int .i64 ch.v, .int .i64 ch.run, .int .i64 ch.n, .slice A0 n0 c0]) rfl rfl japag45 japsz45 rfl (by show 4 ≤ 4; decide) rfl) ?_
     refine TL.mv ?_
     refine TL.mv ?_
     refine TL.pcallPm (α := {p : (Option Addr × Nat) × (Option Addr × Nat) // ((segL ch.v ch.run ch.n ch.dg rl key).length ≤ p.1.2 ∧ p.1.2 ≤ maxLen) ∧ (32 ≤ p.2.2 ∧ p.2.2 ≤ maxLen)}) (fun y => .tuple #[.agg #[.int .i64 ch.v, .int .i64 ch.run, .int .i64 (ch.n + (rl.length : Nat)), .slice y.1.2.1 32 y.1.2.2], .slice y.1.1.1 ((segL ch.v ch.run ch.n ch.dg rl key).length) y.1.1.2]) (fun y => [.row (.slice y.1.1.1 ((segL ch.v ch.run ch.n ch.dg rl key).length) y.1.1.2) 5 1 ((segL ch.v ch.run ch.n ch.dg rl key).length) (bv (segL ch.v ch.run ch.n ch.dg rl key)), .row (.slice y.1.2.1 32 y.1.2.2) 5 1 32 (bv (shaF (segL ch.v ch.run ch.n ch.dg rl key)))]) rfl rfl rfl rfl rfl Tryd.func60 japnm60 japbd60 (fun w1 hw => rseg_any ch.v ch.run ch.n _ _ _ ch.dg _ _ rl _ _ _ key w1 ((hb0.below hw.bel).more hw.bel.size) ((hr2.below hw.bel).more hw.bel.size) ((hb3.below hw.bel).more hw.bel.size) (by first | omega | decide | exact (by simp [zeroL])) (by first | omega | decide | exact (by simp [zeroL])) (by first | omega | decide | exact (by simp [zeroL])) (by first | omega | decide | exact (by simp [zeroL])) (by first | omega | decide | exact (by simp [zeroL])) (by first | omega | decide | exact (by simp [zeroL])) (by first | omega | decide | exact (by simp [zeroL])) (by first | omega | decide | exact (by simp [zeroL])) (by first | omega | decide | exact (by simp [zeroL])) hOk) ?_
     rintro ⟨⟨⟨A79, c79⟩, ⟨D79, e79⟩⟩, ⟨hA791, hA792⟩, ⟨hD791, hD792⟩⟩
     dsimp only [List.cons_append, List.nil_append]
     dsimp only at hA791 hA792 hD791 hD792
     refine TL.mv ?_
     refine TL.ex ?_
     refine TL.ex ?_
     refine TL.pstore (k := 2) (vs := [.int .i64 ch.v, .int .i64 ch.run, .int .i64 (ch.n + (rl.length : Nat)), .slice D79 32 e79]) rfl rfl rfl rfl rfl rfl rfl japsz45 japone_i64i64i64s (by show 4 ≤ 4; decide) (L' := [.row (.slice A79 ((segL ch.v ch.run ch.n ch.dg rl key).length) c79) 5 1 ((segL ch.v ch.run ch.n ch.dg rl key).length) (bv (segL ch.v ch.run ch.n ch.dg rl key)), .row (.slice D79 32 e79) 5 1 32 (bv (shaF (segL ch.v ch.run ch.n ch.dg rl key))), .blk g3 45 [.int .i64 ch.v, .int .i64 ch.run, .int .i64 (ch.n + (rl.length : Nat)), .slice D79 32 e79], .blk g6 45 [.int .i64 0, .int .i64 0, .int .i64 0, .slice none 0 0]]) rfl ?_
     refine TL.as_ ?_
     refine TL.end_ (TX.then_ (TC.seq_ (TC.region ?_)))
     refine TL.val rfl rfl rfl (pm_loadV (k := 2) (i := 0) (n := 4) (v := .agg #[.int .i64 ch.v, .int .i64 ch.run, .int .i64 (ch.n + (rl.length : Nat)), .slice D79 32 e79]) rfl rfl japag45 japsz45 rfl (by show 4 ≤ 4; decide) rfl) ?_
     refine TL.mv ?_
     refine TL.pstore (k := 3) (vs := [.int .i64 ch.v, .int .i64 ch.run, .int .i64 (ch.n + (rl.length : Nat)), .slice D79 32 e79]) rfl rfl rfl rfl rfl rfl rfl japsz45 japone_i64i64i64s (by show 4 ≤ 4; decide) (L' := [.row (.slice A79 ((segL ch.v ch.run ch.n ch.dg rl key).length) c79) 5 1 ((segL ch.v ch.run ch.n ch.dg rl key).length) (bv (segL ch.v ch.run ch.n ch.dg rl key)), .row (.slice D79 32 e79) 5 1 32 (bv (shaF (segL ch.v ch.run ch.n ch.dg rl key))), .blk g3 45 [.int .i64 ch.v, .int .i64 ch.run, .int .i64 (ch.n + (rl.length : Nat)), .slice D79 32 e79], .blk g6 45 [.int .i64 ch.v, .int .i64 ch.run, .int .i64 (ch.n + (rl.length : Nat)), .slice D79 32 e79]]) rfl ?_
     refine TL.as_ ?_
     refine TL.as_ ?_
     refine TL.end_ (TX.then_ (TC.ret_ ?_))
     exact ret_cell3 (k := 3) (v := .slice A79 ((segL ch.v ch.run ch.n ch.dg rl key).length) c79) (v2 := .int .i64 0) Tryd.results37 rfl rfl rfl rfl Tryd.underlying45 rfl rfl (fun w1 hw => by rw [(ap_ok hE key).1, (ap_ok hE key).2.1, (ap_ok hE key).2.2]; exact ⟨A79, c79, D79, e79, _, _, rfl, shaF_len _, hA791, hA792, hD791, hD792, rfl, hw.pick [0, 1] (by decide) rfl⟩)
end Go.Proofs.YtmeaeeehnkcblaaDoor

namespace Go.Proofs.YtmeaeeehnkcblaaDoor
open Go.RowKit
set_option maxRecDepth 20000
theorem byt_num {w : World} {B b0 o n : Nat} {l : List Int} (h : Byt w B (some ⟨b0, o, none⟩) n l) {k : Nat} (hk : k < n) : 0 ≤ getN l k 1 ∧ getN l k 1 ≤ 255 ∧ w.cell? ⟨b0, o + k, none⟩ = some (.int .u8 (getN l k 1)) := by
 obtain ⟨b1, o1, y, e, _, h1, h2, h3, h4⟩ := h.at' hk
 injection e with e
 injection e with e1 e2
 subst e1 e2
 rw [get1 h1]
 exact ⟨h2, h3, h4⟩
theorem bgS_bs (v run : Int) (key : List Int) : Bs (bgS v run key) := by
 unfold bgS; split
 ·exact segL_bs _ _ _ (zeroL_bs _) _ _
 ·exact Bs.nil
theorem bgS_le (v run : Int) (key : List Int) : (bgS v run key).length ≤ 100 := by
 unfold bgS; split
 ·have := segL_le v run 0 (zeroL 32) [] key
  have h32 : (zeroL 32).length = 32 := rfl
  have h0 : ([] : List Rs).length = 0 := rfl
  omega
 ·exact Nat.zero_le _
theorem apS_bs {c : Chn} (hd : Bs c.dg) (rl : List Rs) (key : List Int) : Bs (apS c rl key) := by
 unfold apS; split
 ·exact segL_bs _ _ _ hd _ _
 ·exact Bs.nil
theorem apS_le (c : Chn) (rl : List Rs) (key : List Int) : (apS c rl key).length ≤ 41 + c.dg.length + rl.length * 37 := by
 unfold apS; split
 ·exact segL_le _ _ _ _ _ _
 ·exact Nat.zero_le _
theorem rappend_cnt (A0 : Option Addr) (n0 c0 : Nat) (ch : Chn) (A2 : Option Addr) (c2 : Nat) (l : List Int) (A3 : Option Addr) (n3 c3 : Nat) (key : List Int) (w : World) (hb3 : Byt w w.heap.size A3 n3 key) (hk : n3 ≤ 1000000000) (hb0 : Byt w w.heap.size A0 n0 ch.dg) (hr2 : Reads w w.heap.size 17 A2 (cnt l) (rcs (rlB l))) (hn0 : -1000000 ≤ ch.n) (hn1 : ch.n ≤ 1000000) (hd : ch.dg.length ≤ 10000) (hc : cnt l ≤ 64) (hb : Bs l) (hok : okB l) :
  Calls Tryd.prog 37 #[.agg #[.int .i64 ch.v, .int .i64 ch.run, .int .i64 ch.n, .slice A0 n0 c0], .slice A2 (cnt l) c2, .slice A3 n3 c3] w fun e w' => SegR (apC ch (rlB l) key) (apS ch (rlB l) key) (apE ch (rlB l)) w e w' := by
 have hr : Reads w w.heap.size 17 A2 (rlB l).length (rcs (rlB l)) := by rw [rlB_len]; exact hr2
 have := rappend_any A0 n0 c0 ch A2 c2 (rlB l) A3 n3 c3 key w hb3 hk hb0 hr hn0 hn1 hd (by rw [rlB_len]; omega) (fun r h => (rlB_ok hb hok r h).2)
 rw [rlB_len] at this
 exact this
theorem jraczv45 (w : World) : (zeroValue 45).run Tryd.prog w = .ok (.agg #[.int .i64 0, .int .i64 0, .int .i64 0, .slice none 0 0]) w := rfl
theorem jracnm25 : (Tryd.f25.name == "runtime.NumGoroutine") = false := by decide
theorem jracbd25 : Tryd.f25.body.isNone = false := rfl
theorem jracbld45_530  (w : World) : (Instr.build 45 #[]).run Tryd.prog w = .ok (.agg #[.int .i64 0, .int .i64 0, .int .i64 0, .slice none 0 0]) w := by kernel_rfl
theorem jracsz45 (w : World) : (sizeOf 45).run Tryd.prog w = .ok 4 w := rfl
theorem jracone_i64i64i64s {a0 : Int} {a1 : Int} {a2 : Int} {a3 : Option Addr} {n3 c3 : Nat} : ∀ u ∈ [(.int .i64 a0 : Value), .int .i64 a1, .int .i64 a2, .slice a3 n3 c3], u.oneCell' = true := by
 intro u hu
 simp only [List.mem_cons, List.not_mem_nil, or_false] at hu
 rcases hu with rfl | rfl | rfl | rfl <;> rfl
theorem jracnm19 : (Tryd.f19.name == "runtime.NumGoroutine") = false := by decide
theorem jracbd19 : Tryd.f19.body.isNone = false := rfl
theorem jraczv27 (w : World) : (zeroValue 27).run Tryd.prog w = .ok (.agg #[.int .i64 0, .int .i64 0, .int .i64 0, .int .i64 0, .int .u32 0, .int .i64 0, .int .i64 0, .int .i64 0, .bool false, .bool false, .int .i64 0, .int .u32 0, .int .i64 0, .int .i64 0, .int .i64 0, .int .i64 0, .int .i64 0]) w := rfl
theorem jracsz27 (w : World) : (sizeOf 27).run Tryd.prog w = .ok 17 w := rfl
theorem jracag27 (w : World) : (isAgg 27).run Tryd.prog w = .ok true w := rfl
theorem jracbs33_1_99505 (a0_0 : Int) (a0_1 : Int) (a0_2 : Int) (a0_3 : Int) (a0_4 : Int) (a0_5 : Int) (a0_6 : Int) (a0_7 : Int) (a0_8 : Bool) (a0_9 : Bool) (a0_10 : Int) (a0_11 : Int) (a0_12 : Int) (a0_13 : Int) (a0_14 : Int) (a0_15 : Int) (a0_16 : Int) (w : World) : (Instr.buildSlice 33 1 #[(0, .agg #[.int .i64 a0_0, .int .i64 a0_1, .int .i64 a0_2, .int .i64 a0_3, .int .u32 a0_4, .int .i64 a0_5, .int .i64 a0_6, .int .i64 a0_7, .bool a0_8, .bool a0_9, .int .i64 a0_10, .int .u32 a0_11, .int .i64 a0_12, .int .i64 a0_13, .int .i64 a0_14, .int .i64 a0_15, .int .i64 a0_16])]).run Tryd.prog w = .ok (.slice (some ⟨w.heap.size, 0, none⟩) 1 1) (w.alloc (.cells [.int .i64 a0_0, .int .i64 a0_1, .int .i64 a0_2, .int .i64 a0_3, .int .u32 a0_4, .int .i64 a0_5, .int .i64 a0_6, .int .i64 a0_7, .bool a0_8, .bool a0_9, .int .i64 a0_10, .int .u32 a0_11, .int .i64 a0_12, .int .i64 a0_13, .int .i64 a0_14, .int .i64 a0_15, .int .i64 a0_16].toArray 27)) := by kernel_rfl
theorem jracel33 : Elem Tryd.prog 33 27 17 128 := Elem.mk' Tryd.underlying33 (z := .agg #[.int .i64 0, .int .i64 0, .int .i64 0, .int .i64 0, .int .u32 0, .int .i64 0, .int .i64 0, .int .i64 0, .bool false, .bool false, .int .i64 0, .int .u32 0, .int .i64 0, .int .i64 0, .int .i64 0, .int .i64 0, .int .i64 0]) (by kernel_rfl) rfl (by omega) (by omega)
theorem jracnm29 : (Tryd.f29.name == "runtime.NumGoroutine") = false := by decide
theorem jracbd29 : Tryd.f29.body.isNone = false := rfl
theorem jracnm16 : (Tryd.f16.name == "runtime.NumGoroutine") = false := by decide
theorem jracbd16 : Tryd.f16.body.isNone = false := rfl
theorem jracag45 (w : World) : (isAgg 45).run Tryd.prog w = .ok true w := rfl
theorem jracnm55 : (Tryd.f55.name == "runtime.NumGoroutine") = false := by decide
theorem jracbd55 : Tryd.f55.body.isNone = false := rfl
theorem jracnm34 : (Tryd.f34.name == "runtime.NumGoroutine") = false := by decide
theorem jracbd34 : Tryd.f34.body.isNone = false := rfl
theorem jracnm37 : (Tryd.f37.name == "runtime.NumGoroutine") = false := by decide
theorem jracbd37 : Tryd.f37.body.isNone = false := rfl
set_option maxHeartbeats 400000 in
theorem raccept_any (A0 : Option Addr) (n0 c0 : Nat) (ch : Chn) (A1 : Option Addr) (n1 c1 : Nat) (l : List Int) (A2 : Option Addr) (n2 c2 : Nat) (key : List Int) (w : World) (hb0 : Byt w w.heap.size A0 n0 ch.dg) (hb1 : Byt w w.heap.size A1 n1 l) (hb2 : Byt w w.heap.size A2 n2 key) (hnc : n1 ≤ c1) (hn1l : n1 ≤ 1000000000) (hn2l : n2 ≤ 1000000000) (hn0 : -1000000 ≤ ch.n) (hn1 : ch.n ≤ 1000000) (hd : ch.dg.length ≤ 10000) :
  Calls Tryd.prog 23 #[.agg #[.int .i64 ch.v, .int .i64 ch.run, .int .i64 ch.n, .slice A0 n0 c0], .slice A1 n1 c1, .slice A2 n2 c2] w fun e w' => AccR (accC ch l key) (accL ch l key) (accE ch l key) w e w' := by
 obtain rfl : n1 = l.length := hb1.len.symm
 have hl0 := hb0.len
 refine begin_ (vs := [.agg #[.int .i64 ch.v, .int .i64 ch.run, .int .i64 ch.n, .slice A0 n0 c0], .slice A1 l.length c1, .slice A2 n2 c2]) Tryd.func23 rfl rfl rfl ?_ (Pm.start w)
 refine TC.seq_ (TC.region ?_)
 refine TL.pnew rfl rfl rfl (exec_box (cs := [.int .i64 ch.v, .int .i64 ch.run, .int .i64 ch.n, .slice A0 n0 c0]) rfl rfl rfl) (fun g3 => ?_)
 refine TL.pnew rfl rfl rfl (exec_alloc (cs := [.int .i64 0, .int .i64 0, .int .i64 0, .slice none 0 0]) rfl jraczv45 rfl) (fun g6 => ?_)
 refine TL.as_ ?_
 refine TL.as_ ?_
 refine TL.end_ (TX.then_ (TC.seq_ (TC.region ?_)))
 refine TL.mv ?_
 refine TL.pcall1 (r := .tuple #[.int .i64 (lenN l), .int .i64 (lenE l)]) rfl rfl rfl rfl rfl Tryd.func25 jracnm25 jracbd25 (fun w1 hw => rlength_any A1 _ c1 l w1 ((hb1.below hw.bel).more hw.bel.size) hnc) ?_
 iterate 5 (first | refine TL.as_ ?_ | refine TL.ex ?_ | refine TL.mv ?_)
 refine TL.end_ (TX.then_ (TC.seq_ (TC.seq_ (TC.region ?_))))
 refine TL.mv ?_
 refine TL.vsplit rfl rfl rfl (gives_bin rfl rfl rfl (fun w => bin_neq w)) (fun h27 => ?_) (fun h27 => ?_)
 ·have q27 := of_decide_eq_true h27
  have hE := acR_bad (c := ch) (key := key) (acc_len q27) q27
  refine TL.end_ (TX.then_ (TC.condT rfl (TC.seq_ (TC.region ?_))))
  refine TL.val rfl rfl rfl (gives_build (v := .agg #[.int .i64 0, .int .i64 0, .int .i64 0, .slice none 0 0]) rfl rfl (fun w => jracbld45_530  w)) ?_
  refine TL.mv ?_
  refine TL.pstore (k := 0) (vs := [.int .i64 0, .int .i64 0, .int .i64 0, .slice none 0 0]) rfl rfl rfl rfl rfl rfl rfl jracsz45 jracone_i64i64i64s (by show 4 ≤ 4; decide) (L' := [.blk g6 45 [.int .i64 0, .int .i64 0, .int .i64 0, .slice none 0 0], .blk g3 45 [.int .i64 ch.v, .int .i64 ch.run, .int .i64 ch.n, .slice A0 n0 c0]]) rfl ?_
  refine TL.as_ ?_
  refine TL.as_ ?_
  refine TL.end_ (TX.then_ (TC.ret_ (TX.then_ret ?_)))
  exact ret_cell3 (k := 0) (v := .slice none 0 0) (v2 := .int .i64 (lenE l)) Tryd.results23 rfl rfl rfl rfl Tryd.underlying45 rfl rfl (fun w1 hw => by rw [hE.1, hE.2.1, hE.2.2]; exact AccR.none_ hw)
 ·have q27 := of_decide_eq_false h27
  have h0 : lenE l = 0 := Decidable.not_not.1 q27
  refine TL.end_ (TX.then_ (TC.condF rfl (TC.skip_ (TX.then_ (TC.seq_ (TC.seq_ (TC.region ?_)))))))
  refine TL.mv ?_
  refine TL.val rfl rfl rfl (gives_len rfl Tryd.underlying28 rfl) ?_
  refine TL.mv ?_
  refine TL.vsplit rfl rfl rfl (gives_bin rfl rfl rfl (fun w => bin_lss w)) (fun h33 => ?_) (fun h33 => ?_)
  ·have q33 := of_decide_eq_true h33
   have hE := acR_bad (c := ch) (key := key) (acc_short h0 (by omega)) (by decide)
   refine TL.end_ (TX.then_ (TC.condT rfl (TC.seq_ (TC.region ?_))))
   refine TL.val rfl rfl rfl (gives_build (v := .agg #[.int .i64 0, .int .i64 0, .int .i64 0, .slice none 0 0]) rfl rfl (fun w => jracbld45_530  w)) ?_
   refine TL.pstore (k := 0) (vs := [.int .i64 0, .int .i64 0, .int .i64 0, .slice none 0 0]) rfl rfl rfl rfl rfl rfl rfl jracsz45 jracone_i64i64i64s (by show 4 ≤ 4; decide) (L' := [.blk g6 45 [.int .i64 0, .int .i64 0, .int .i64 0, .slice none 0 0], .blk g3 45 [.int .i64 ch.v, .int .i64 ch.run, .int .i64 ch.n, .slice A0 n0 c0]]) rfl ?_
   refine TL.as_ ?_
   refine TL.as_ ?_
   refine TL.end_ (TX.then_ (TC.ret_ (TX.then_ret ?_)))
   exact ret_cell3 (k := 0) (v := .slice none 0 0) (v2 := .int .i64 3) Tryd.results23 rfl rfl rfl rfl Tryd.underlying45 rfl rfl (fun w1 hw => by rw [hE.1, hE.2.1, hE.2.2]; exact AccR.none_ hw)
  ·have q33 := of_decide_eq_false h33
   have h1 : ¬ (l.length : Int) < lenN l := by omega
   refine TL.end_ (TX.then_ (TC.condF rfl (TC.skip_ (TX.then_ (TC.seq_ (TC.seq_ (TC.region ?_)))))))
   refine TL.mv ?_
   refine TL.val rfl rfl rfl (gives_len rfl Tryd.underlying28 rfl) ?_
   refine TL.mv ?_
   refine TL.vsplit rfl rfl rfl (gives_bin rfl rfl rfl (fun w => bin_gtr w)) (fun h38 => ?_) (fun h38 => ?_)
   ·have q38 := of_decide_eq_true h38
    have hE := acR_bad (c := ch) (key := key) (acc_long h0 h1 (by omega)) (by decide)
    refine TL.end_ (TX.then_ (TC.condT rfl (TC.seq_ (TC.region ?_))))
    refine TL.val rfl rfl rfl (gives_build (v := .agg #[.int .i64 0, .int .i64 0, .int .i64 0, .slice none 0 0]) rfl rfl (fun w => jracbld45_530  w)) ?_
    refine TL.pstore (k := 0) (vs := [.int .i64 0, .int .i64 0, .int .i64 0, .slice none 0 0]) rfl rfl rfl rfl rfl rfl rfl jracsz45 jracone_i64i64i64s (by show 4 ≤ 4; decide) (L' := [.blk g6 45 [.int .i64 0, .int .i64 0, .int .i64 0, .slice none 0 0], .blk g3 45 [.int .i64 ch.v, .int .i64 ch.run, .int .i64 ch.n, .slice A0 n0 c0]]) rfl ?_
    refine TL.as_ ?_
    refine TL.as_ ?_
    refine TL.end_ (TX.then_ (TC.ret_ (TX.then_ret ?_)))
    exact ret_cell3 (k := 0) (v := .slice none 0 0) (v2 := .int .i64 2) Tryd.results23 rfl rfl rfl rfl Tryd.underlying45 rfl rfl (fun w1 hw => by rw [hE.1, hE.2.1, hE.2.2]; exact AccR.none_ hw)
   ·have q38 := of_decide_eq_false h38
    have h2 : ¬ (l.length : Int) > lenN l := by omega
    have hwh := whole_of h0 h1 h2
    obtain ⟨hc1, hc2, hc3, hc4, hc5⟩ := whole_cnt hb1.2 hwh
    obtain ⟨m, hm⟩ : ∃ m, l.length = m + 32 := ⟨41 + 37 * cnt l, by omega⟩
    have hm2 : l.length - 32 = m := by omega
    obtain ⟨b0, o, y8, rfl, hbB, _, _, _, _⟩ := hb1.at' (k := 8) (by omega)
    obtain ⟨hp4, hq4, hy4⟩ := byt_num hb1 (k := 4) (by omega)
    obtain ⟨hp5, hq5, hy5⟩ := byt_num hb1 (k := 5) (by omega)
    obtain ⟨hp8, hq8, hy8⟩ := byt_num hb1 (k := 8) (by omega)
    have hp4b : 0 ≤ pid l ∧ pid l ≤ 255 := ⟨hp4, hq4⟩
    have hp5b : 0 ≤ prun l ∧ prun l ≤ 255 := ⟨hp5, hq5⟩
    refine TL.end_ (TX.then_ (TC.condF rfl (TC.skip_ (TX.then_ (TC.seq_ (TC.region ?_))))))
    refine TL.as_ ?_
    refine TL.end_ (TX.then_ (TC.seq_ (TC.seq_ (TC.region ?_))))
    refine TL.as_ ?_
    refine TL.end_ (TX.then_ (TC.block ?_))
    refine TC.nilrow 27 17 ?_
    refine TC.loop_ (α := {y : Nat × Option Addr × Nat // y.1 ≤ cnt l ∧ okN l y.1 ∧ y.1 ≤ y.2.2 ∧ y.2.2 ≤ maxLen}) (fun y => [(1, .slice (some ⟨b0, o, none⟩) l.length c1), (2, .slice A2 n2 c2), (3, .pointer (some ⟨g3, 0, none⟩)), (6, .pointer (some ⟨g6, 0, none⟩)), (9, .int .i64 (lenN l)), (11, .slice y.1.2.1 y.1.1 y.1.2.2), (12, .int .i64 (y.1.1 : Nat))]) (fun y => Pm w [.row (.slice y.1.2.1 y.1.1 y.1.2.2) 27 17 y.1.1 (rcs (rlN l y.1.1)), .blk g3 45 [.int .i64 ch.v, .int .i64 ch.run, .int .i64 ch.n, .slice A0 n0 c0], .blk g6 45 [.int .i64 0, .int .i64 0, .int .i64 0, .slice none 0 0]]) (fun y => cnt l - y.1.1) (⟨(0, none, 0), Nat.zero_le _, (fun i hi => absurd hi (Nat.not_lt_zero i)), Nat.zero_le _, Nat.zero_le _⟩) ⟨rfl, rfl, rfl, rfl, rfl, rfl, rfl, trivial⟩ (fun w1 hw => hw.pick [0, 2, 1] (by decide) rfl) ?_
    rintro ⟨⟨i, Ar, cr⟩, hi, hokN, hcr, hcr2⟩
    dsimp only at hi hokN hcr hcr2 ⊢
    refine TC.seq_ (TC.seq_ (TC.region ?_))
    refine TL.mv ?_
    refine TL.mv ?_
    refine TL.val rfl rfl rfl (gives_at (v := .pointer (some ⟨b0, o + 8, none⟩)) rfl rfl rfl (fun w => at_u8 b0 o l.length c1 8 (by omega) w)) ?_
    refine TL.val rfl rfl rfl (gives_load (v := .int .u8 (getN l 8 1)) rfl rfl (fun w => rfl) (fun w1 hw => (hw.bel.cell (p := ⟨b0, o + 8, none⟩) hbB).trans hy8)) ?_
    refine TL.val rfl rfl rfl (gives_conv rfl rfl (fun w => conv_fit (k := .u8) Tryd.underlying3 Tryd.underlying5 (by simp only [IntKind.wrap_i64]; omega) w)) ?_
    refine TL.vsplit rfl rfl rfl (gives_bin rfl rfl rfl (fun w => bin_lss w)) (fun h45 => ?_) (fun h45 => ?_)
    ·have q45 := of_decide_eq_true h45
     have hi2 : i < cnt l := by omega
     refine TL.end_ (TX.then_ (TC.condT rfl (TC.skip_ (TX.then_ (TC.seq_ (TC.block (TC.seq_ (TC.region ?_))))))))
     refine TL.mv ?_
     refine TL.mv ?_
     refine TL.val rfl rfl rfl (gives_bin rfl rfl rfl (fun w => bin_mul_ (r := ((37 * i : Nat) : Int)) (by simp only [IntKind.wrap_i64]; omega) w)) ?_
     refine TL.val rfl rfl rfl (gives_bin rfl rfl rfl (fun w => bin_add_ (r := ((41 + 37 * i : Nat) : Int)) (by simp only [IntKind.wrap_i64]; omega) w)) ?_
     refine TL.mv ?_
     refine TL.val rfl rfl rfl (gives_bin rfl rfl rfl (fun w => bin_add_ (r := ((i + 1 : Nat) : Int)) (by simp only [IntKind.wrap_i64]; omega) w)) ?_
     refine TL.val rfl rfl rfl (gives_bin rfl rfl rfl (fun w => bin_mul_ (r := ((37 * (i + 1) : Nat) : Int)) (by simp only [IntKind.wrap_i64]; omega) w)) ?_
     refine TL.val rfl rfl rfl (gives_bin rfl rfl rfl (fun w => bin_add_ (r := ((41 + 37 * i + 37 : Nat) : Int)) (by simp only [IntKind.wrap_i64]; omega) w)) ?_
     refine TL.val rfl rfl rfl (gives_slice (v := .slice (if c1 = (41 + 37 * i) then (some ⟨b0, o, none⟩) else Option.map (fun a : Addr => a.add (41 + 37 * i)) (some ⟨b0, o, none⟩)) 37 (c1 - (41 + 37 * i))) rfl rfl rfl rfl (fun w => cut_pA (some ⟨b0, o, none⟩) l.length c1 (41 + 37 * i) 37 (by omega) w)) ?_
     refine TL.pcall1 (r := .tuple #[.agg ((decR (rsAt l i)).cells).toArray, .int .i64 (decE (rsAt l i))]) rfl rfl rfl rfl rfl Tryd.func19 jracnm19 jracbd19 (fun w1 hw => rdecode_any _ 37 _ (rsAt l i) w1 (byt_cutP ((hb1.below hw.bel).more hw.bel.size) (by omega) hnc) (by omega) (by decide)) ?_
     refine TL.mv ?_
     refine TL.ex ?_
     refine TL.ex ?_
     refine TL.pnew rfl rfl rfl (exec_alloc (cs := [.int .i64 0, .int .i64 0, .int .i64 0, .int .i64 0, .int .u32 0, .int .i64 0, .int .i64 0, .int .i64 0, .bool false, .bool false, .int .i64 0, .int .u32 0, .int .i64 0, .int .i64 0, .int .i64 0, .int .i64 0, .int .i64 0]) rfl jraczv27 rfl) (fun g13 => ?_)
     refine TL.pstore (k := 0) (vs := (decR (rsAt l i)).cells) rfl rfl rfl rfl rfl rfl rfl jracsz27 (rs_one _) (by show 17 ≤ 17; decide) (L' := [.blk g13 27 (decR (rsAt l i)).cells, .row (.slice Ar i cr) 27 17 i (rcs (rlN l i)), .blk g3 45 [.int .i64 ch.v, .int .i64 ch.run, .int .i64 ch.n, .slice A0 n0 c0], .blk g6 45 [.int .i64 0, .int .i64 0, .int .i64 0, .slice none 0 0]]) rfl ?_
     refine TL.as_ ?_
     refine TL.end_ (TX.then_ (TC.seq_ (TC.seq_ (TC.region ?_))))
     refine TL.mv ?_
     refine TL.vsplit rfl rfl rfl (gives_bin rfl rfl rfl (fun w => bin_neq w)) (fun h62 => ?_) (fun h62 => ?_)
     ·have q62 := of_decide_eq_true h62
      have hok : ¬ okB l := fun hh => q62 (hh i hi2)
      have hE := acR_bad (c := ch) (key := key) (acc_form h0 h1 h2 hok) (by decide)
      refine TL.end_ (TX.then_ (TC.condT rfl (TC.seq_ (TC.region ?_))))
      refine TL.val rfl rfl rfl (gives_build (v := .agg #[.int .i64 0, .int .i64 0, .int .i64 0, .slice none 0 0]) rfl rfl (fun w => jracbld45_530  w)) ?_
      refine TL.pstore (k := 3) (vs := [.int .i64 0, .int .i64 0, .int .i64 0, .slice none 0 0]) rfl rfl rfl rfl rfl rfl rfl jracsz45 jracone_i64i64i64s (by show 4 ≤ 4; decide) (L' := [.blk g13 27 (decR (rsAt l i)).cells, .row (.slice Ar i cr) 27 17 i (rcs (rlN l i)), .blk g3 45 [.int .i64 ch.v, .int .i64 ch.run, .int .i64 ch.n, .slice A0 n0 c0], .blk g6 45 [.int .i64 0, .int .i64 0, .int .i64 0, .slice none 0 0]]) rfl ?_
      refine TL.as_ ?_
      refine TL.as_ ?_
      refine TL.end_ (TX.then_ (TC.ret_ (TX.then_ret (TX.in_ret (TX.then_ret (TX.then_ret (TX.in_ret (TX.then_ret ?_))))))))
      exact ret_cell3 (k := 3) (v := .slice none 0 0) (v2 := .int .i64 2) Tryd.results23 rfl rfl rfl rfl Tryd.underlying45 rfl rfl (fun w1 hw => by rw [hE.1, hE.2.1, hE.2.2]; exact AccR.none_ hw)
     ·have q62 := of_decide_eq_false h62
      have hz : decE (rsAt l i) = 0 := Decidable.not_not.1 q62
      refine TL.end_ (TX.then_ (TC.condF rfl (TC.skip_ (TX.then_ (TC.region ?_)))))
      refine TL.mv ?_
      refine TL.val rfl rfl rfl (pm_loadV (k := 0) (i := 0) (n := 17) (v := .agg ((decR (rsAt l i)).cells).toArray) rfl rfl jracag27 jracsz27 rfl (by show 17 ≤ 17; decide) rfl) ?_
      refine TL.prowS (e := 27) (size := 17) (cs := rcs [decR (rsAt l i)]) rfl rfl rfl rfl rfl (fun w => jracbs33_1_99505 _ _ _ _ _ _ _ _ _ _ _ _ _ _ _ _ _ w) (by decide) rfl (fun g66 => ?_)
      refine TL.appendT (k := 2) rfl rfl rfl rfl Tryd.underlying33 jracel33 rfl rfl rfl (fun w1 hw => pm_reads hw (k := 0) rfl) (rcs_one _) (by omega) (i + 1) (rfl) (rcs (rlN l (i + 1))) (by rw [rlN_succ, rcs_app]) (fun A67 c67 hA671 hA672 => ?_)
      refine TL.as_ ?_
      refine TL.end_ (TX.in_normal (TX.then_ (TC.region ?_)))
      refine TL.mv ?_
      refine TL.val rfl rfl rfl (gives_bin rfl rfl rfl (fun w => bin_add_ (r := ((i + 1 : Nat) : Int)) (by simp only [IntKind.wrap_i64]; omega) w)) ?_
      refine TL.as_ ?_
      refine TL.end_ ?_
      exact TX.round (⟨(i + 1, A67, c67), hi2, okN_succ hokN hz, hA671, hA672⟩) (by show cnt l - (i + 1) < cnt l - i; omega) ⟨rfl, rfl, rfl, rfl, rfl, rfl, rfl, trivial⟩ (fun w1 hw => hw.pick [2, 3, 4] (by decide) rfl)
    ·have q45 := of_decide_eq_false h45
     have hi2 : i = cnt l := by omega
     subst hi2
     have hok : okB l := hokN
     refine TL.end_ (TX.then_ (TC.condF rfl (TC.exit_ (TX.then_exit (TX.then_exit (TX.in_same (TX.then_ (TC.seq_ (TC.seq_ ?_)))))))))
     by_cases hs : sigB l key
     ·have hs2 : l.drop m = macF key (l.take m) := hm2 ▸ hs
      have hs' : macF key (l.take m) = l.drop m := hs2.symm
      refine TC.held (ls := #[Ff,Ff,Ff,Ff,Ff,Ff,Ff,Ff,Ff,Ff,Ff,Ff]) (Pm w []) (by kernel_rfl) rfl rfl (fun w hw => hw.drawn _) ?_
      refine TH.tk (listed' := #[Tt,Ff,Ff,Ff,Ff,Ff,Ff,Ff,Ff,Ff,Ff,Ff]) 0 rfl rfl rfl (gives_move rfl rfl) (fun w1 hw => hw.pick [] (by decide) rfl) ?_
      refine TH.tk (listed' := #[Tt,Tt,Ff,Ff,Ff,Ff,Ff,Ff,Ff,Ff,Ff,Ff]) 1 rfl rfl rfl (gives_move rfl rfl) (fun w1 hw => hw.pick [] (by decide) rfl) ?_
      refine TH.tk (listed' := #[Tt,Tt,Tt,Ff,Ff,Ff,Ff,Ff,Ff,Ff,Ff,Ff]) 2 rfl rfl rfl (gives_move rfl rfl) (fun w1 hw => hw.pick [] (by decide) rfl) ?_
      refine TH.tk (listed' := #[Tt,Tt,Tt,Tt,Ff,Ff,Ff,Ff,Ff,Ff,Ff,Ff]) 3 rfl rfl rfl (gives_bin rfl rfl rfl (fun w => bin_sub_ (r := ((m : Nat) : Int)) (by simp only [IntKind.wrap_i64]; omega) w)) (fun w1 hw => hw.pick [] (by decide) rfl) ?_
      refine TH.tk (listed' := #[Tt,Tt,Tt,Tt,Tt,Ff,Ff,Ff,Ff,Ff,Ff,Ff]) 4 rfl rfl rfl (gives_sliceH (v := .slice (some ⟨b0, o, none⟩) m c1) rfl rfl rfl (fun w => cut_hi Tryd.underlying28 (fun w => rfl) (some ⟨b0, o, none⟩) l.length c1 m rfl (by omega) w)) (fun w1 hw => hw.pick [] (by decide) rfl) ?_
      refine TH.tk (listed' := #[Tt,Tt,Tt,Tt,Tt,Ff,Tt,Ff,Ff,Ff,Ff,Ff]) 6 rfl rfl rfl (gives_move rfl rfl) (fun w1 hw => hw.pick [] (by decide) rfl) ?_
      refine TH.tk (listed' := #[Tt,Tt,Tt,Tt,Tt,Ff,Tt,Tt,Ff,Ff,Ff,Ff]) 7 rfl rfl rfl (gives_move rfl rfl) (fun w1 hw => hw.pick [] (by decide) rfl) ?_
      refine TH.tk (listed' := #[Tt,Tt,Tt,Tt,Tt,Ff,Tt,Tt,Tt,Ff,Ff,Ff]) 8 rfl rfl rfl (gives_bin rfl rfl rfl (fun w => bin_sub_ (r := ((m : Nat) : Int)) (by simp only [IntKind.wrap_i64]; omega) w)) (fun w1 hw => hw.pick [] (by decide) rfl) ?_
      refine TH.tk (listed' := #[Tt,Tt,Tt,Tt,Tt,Ff,Tt,Tt,Tt,Tt,Ff,Ff]) 9 rfl rfl rfl (gives_sliceL (v := .slice (if c1 = m then (some ⟨b0, o, none⟩) else Option.map (fun a : Addr => a.add m) (some ⟨b0, o, none⟩)) (l.length - m) (c1 - m)) rfl rfl rfl (fun w => cut_lo1 Tryd.underlying28 (fun w => rfl) (some ⟨b0, o, none⟩) l.length c1 m rfl (by omega) w)) (fun w1 hw => hw.pick [] (by decide) rfl) ?_
      refine TH.only' (listed' := #[Tt,Tt,Tt,Tt,Tt,Tt,Tt,Tt,Tt,Tt,Ff,Ff]) 5 rfl (by kernel_rfl) rfl ?_
      refine TL.pcallRow (n := 32) (ys := bv (macF key (l.take m))) rfl rfl rfl rfl rfl Tryd.func29 jracnm29 jracbd29 (fun w1 hw => rmac_any _ _ _ key _ _ _ (l.take m) w1 ((hb2.below hw.bel).more hw.bel.size) (((hb1.below hw.bel).more hw.bel.size).head (by omega)) (by omega) (by omega)) (fun A73 c73 hA731 hA732 => ?_)
      refine TL.end_ ?_
      refine TX.held (fun w1 hw => hw.pick [] (by decide) rfl) ?_
      refine TH.only' (listed' := #[Tt,Tt,Tt,Tt,Tt,Tt,Tt,Tt,Tt,Tt,Tt,Ff]) 10 rfl (by kernel_rfl) rfl ?_
      refine TL.pcall1 (r := .bool true) rfl rfl rfl rfl rfl Tryd.func16 jracnm16 jracbd16 (fun w1 hw => retb_lit (decide_eq_true hs') ((requal_any _ _ _ _ _ _ (macF key (l.take m)) (l.drop m) w1 w1.heap.size (byt_own (hw.at_ (k := 0) rfl) (macF_bs _ _)) (((hb1.below hw.bel).more hw.bel.size).cut (by omega) hnc) (by omega) (by omega)).mono fun e w2 ⟨h1, q, h2⟩ => ⟨h1, h2 ▸ drewN_below q⟩)) ?_
      refine TL.end_ ?_
      refine TX.held (fun w1 hw => hw.pick [] (by decide) rfl) ?_
      refine TH.tk (listed' := #[Tt,Tt,Tt,Tt,Tt,Tt,Tt,Tt,Tt,Tt,Tt,Tt]) 11 rfl rfl rfl (gives_boolnot rfl rfl) (fun w1 hw => hw.pick [] (by decide) rfl) ?_
      refine TH.done (by kernel_rfl) ?_
      refine TX.then_ (TC.condF rfl (TC.skip_ (TX.then_ (TC.seq_ (TC.seq_ (TC.region ?_))))))
      refine TL.val rfl rfl rfl (pm_loadV (k := 2) (i := 0) (n := 4) (v := .agg #[.int .i64 ch.v, .int .i64 ch.run, .int .i64 ch.n, .slice A0 n0 c0]) rfl rfl jracag45 jracsz45 rfl (by show 4 ≤ 4; decide) rfl) ?_
      refine TL.callsplit rfl rfl rfl rfl rfl Tryd.func55 jracnm55 jracbd55 (fun w1 hw => zero_any ch.v ch.run ch.n A0 n0 c0 w1) (fun h82 => ?_) (fun h82 => ?_)
      ·have hK : emptyK ch := by unfold emptyK; have := of_decide_eq_true h82; omega
       refine TL.end_ (TX.then_ (TC.condT rfl (TC.seq_ ?_)))
       refine TC.held (ls := #[Ff,Ff,Ff,Ff,Ff,Ff,Ff,Ff,Ff,Ff,Ff,Ff,Ff,Ff,Ff,Ff,Ff,Ff]) (Pm w []) (by kernel_rfl) rfl rfl (fun w hw => hw.drawn _) ?_
       refine TH.tk (listed' := #[Tt,Ff,Ff,Ff,Ff,Ff,Ff,Ff,Ff,Ff,Ff,Ff,Ff,Ff,Ff,Ff,Ff,Ff]) 0 rfl rfl rfl (gives_move rfl rfl) (fun w1 hw => hw.pick [] (by decide) rfl) ?_
       refine TH.tk (listed' := #[Tt,Tt,Ff,Ff,Ff,Ff,Ff,Ff,Ff,Ff,Ff,Ff,Ff,Ff,Ff,Ff,Ff,Ff]) 1 rfl rfl rfl (gives_at (v := .pointer (some ⟨b0, o + 4, none⟩)) rfl rfl rfl (fun w => at_u8 b0 o l.length c1 4 (by omega) w)) (fun w1 hw => hw.pick [] (by decide) rfl) ?_
       refine TH.tk (listed' := #[Tt,Tt,Tt,Ff,Ff,Ff,Ff,Ff,Ff,Ff,Ff,Ff,Ff,Ff,Ff,Ff,Ff,Ff]) 2 rfl rfl rfl (gives_load (v := .int .u8 (pid l)) rfl rfl (fun w => rfl) (fun w1 hw => (hw.bel.cell (p := ⟨b0, o + 4, none⟩) hbB).trans hy4)) (fun w1 hw => hw.pick [] (by decide) rfl) ?_
       refine TH.tk (listed' := #[Tt,Tt,Tt,Tt,Ff,Ff,Ff,Ff,Ff,Ff,Ff,Ff,Ff,Ff,Ff,Ff,Ff,Ff]) 3 rfl rfl rfl (gives_conv rfl rfl (fun w => conv_fit (k := .u8) Tryd.underlying3 Tryd.underlying5 (by simp only [IntKind.wrap_i64]; omega) w)) (fun w1 hw => hw.pick [] (by decide) rfl) ?_
       refine TH.tk (listed' := #[Tt,Tt,Tt,Tt,Tt,Ff,Ff,Ff,Ff,Ff,Ff,Ff,Ff,Ff,Ff,Ff,Ff,Ff]) 4 rfl rfl rfl (gives_move rfl rfl) (fun w1 hw => hw.pick [] (by decide) rfl) ?_
       refine TH.tk (listed' := #[Tt,Tt,Tt,Tt,Tt,Tt,Ff,Ff,Ff,Ff,Ff,Ff,Ff,Ff,Ff,Ff,Ff,Ff]) 5 rfl rfl rfl (gives_at (v := .pointer (some ⟨b0, o + 5, none⟩)) rfl rfl rfl (fun w => at_u8 b0 o l.length c1 5 (by omega) w)) (fun w1 hw => hw.pick [] (by decide) rfl) ?_
       refine TH.tk (listed' := #[Tt,Tt,Tt,Tt,Tt,Tt,Tt,Ff,Ff,Ff,Ff,Ff,Ff,Ff,Ff,Ff,Ff,Ff]) 6 rfl rfl rfl (gives_load (v := .int .u8 (prun l)) rfl rfl (fun w => rfl) (fun w1 hw => (hw.bel.cell (p := ⟨b0, o + 5, none⟩) hbB).trans hy5)) (fun w1 hw => hw.pick [] (by decide) rfl) ?_
       refine TH.tk (listed' := #[Tt,Tt,Tt,Tt,Tt,Tt,Tt,Tt,Ff,Ff,Ff,Ff,Ff,Ff,Ff,Ff,Ff,Ff]) 7 rfl rfl rfl (gives_conv rfl rfl (fun w => conv_fit (k := .u8) Tryd.underlying3 Tryd.underlying5 (by simp only [IntKind.wrap_i64]; omega) w)) (fun w1 hw => hw.pick [] (by decide) rfl) ?_
       refine TH.tk (listed' := #[Tt,Tt,Tt,Tt,Tt,Tt,Tt,Tt,Tt,Ff,Ff,Ff,Ff,Ff,Ff,Ff,Ff,Ff]) 8 rfl rfl rfl (gives_move rfl rfl) (fun w1 hw => hw.pick [] (by decide) rfl) ?_
       refine TH.two' (listed1 := #[Tt,Tt,Tt,Tt,Tt,Tt,Tt,Tt,Tt,Tt,Ff,Ff,Ff,Ff,Ff,Ff,Ff,Ff]) (listed2 := #[Tt,Tt,Tt,Tt,Tt,Tt,Tt,Tt,Tt,Ff,Ff,Ff,Ff,Ff,Tt,Ff,Ff,Ff]) 9 14 rfl rfl (by kernel_rfl) rfl rfl ?_ ?_
       ·refine TL.pcallPm (α := SegY (bgC (pid l) (prun l) key) (bgS (pid l) (prun l) key)) (fun y => .tuple #[.agg #[.int .i64 ((bgC (pid l) (prun l) key).v), .int .i64 ((bgC (pid l) (prun l) key).run), .int .i64 ((bgC (pid l) (prun l) key).n), .slice y.1.2.1 ((bgC (pid l) (prun l) key).dg.length) y.1.2.2], .slice y.1.1.1 ((bgS (pid l) (prun l) key).length) y.1.1.2, .int .i64 (bgE (pid l) (prun l))]) (fun y => [.row (.slice y.1.1.1 ((bgS (pid l) (prun l) key).length) y.1.1.2) 5 1 ((bgS (pid l) (prun l) key).length) (bv (bgS (pid l) (prun l) key)), .row (.slice y.1.2.1 ((bgC (pid l) (prun l) key).dg.length) y.1.2.2) 5 1 ((bgC (pid l) (prun l) key).dg.length) (bv (bgC (pid l) (prun l) key).dg)]) rfl rfl rfl rfl rfl Tryd.func34 jracnm34 jracbd34 (fun w1 hw => (rbegin_any (pid l) (prun l) A2 n2 c2 key w1 ((hb2.below hw.bel).more hw.bel.size) hn2l).mono fun e w2 h => h.use) ?_
        rintro ⟨⟨⟨AB, cB⟩, ⟨DB, eB⟩⟩, ⟨hAB1, hAB2⟩, ⟨hDB1, hDB2⟩⟩
        dsimp only [List.cons_append, List.nil_append]
        dsimp only at hAB1 hAB2 hDB1 hDB2
        refine TL.end_ ?_
        refine TX.held (fun w1 hw => hw.pick [] (by decide) rfl) ?_
        refine TH.tk (listed' := #[Tt,Tt,Tt,Tt,Tt,Tt,Tt,Tt,Tt,Tt,Tt,Ff,Ff,Ff,Ff,Ff,Ff,Ff]) 10 rfl rfl rfl (gives_move rfl rfl) (fun w1 hw => hw.pick [] (by decide) rfl) ?_
        refine TH.tk (listed' := #[Tt,Tt,Tt,Tt,Tt,Tt,Tt,Tt,Tt,Tt,Tt,Tt,Ff,Ff,Ff,Ff,Ff,Ff]) 11 rfl rfl rfl (gives_extract rfl rfl rfl) (fun w1 hw => hw.pick [] (by decide) rfl) ?_
        refine TH.tk (listed' := #[Tt,Tt,Tt,Tt,Tt,Tt,Tt,Tt,Tt,Tt,Tt,Tt,Tt,Ff,Ff,Ff,Ff,Ff]) 12 rfl rfl rfl (gives_extract rfl rfl rfl) (fun w1 hw => hw.pick [] (by decide) rfl) ?_
        refine TH.tk (listed' := #[Tt,Tt,Tt,Tt,Tt,Tt,Tt,Tt,Tt,Tt,Tt,Tt,Tt,Tt,Ff,Ff,Ff,Ff]) 13 rfl rfl rfl (gives_extract rfl rfl rfl) (fun w1 hw => hw.pick [] (by decide) rfl) ?_
        refine TH.only' (listed' := #[Tt,Tt,Tt,Tt,Tt,Tt,Tt,Tt,Tt,Tt,Tt,Tt,Tt,Tt,Tt,Ff,Ff,Ff]) 14 rfl (by kernel_rfl) rfl ?_
        refine TL.pnew rfl rfl rfl (exec_alloc (cs := [.int .i64 0, .int .i64 0, .int .i64 0, .slice none 0 0]) rfl jraczv45 rfl) (fun g15 => ?_)
        refine TL.end_ ?_
        refine TX.held (fun w1 hw => hw.pick [] (by decide) rfl) ?_
        refine TH.only' (listed' := #[Tt,Tt,Tt,Tt,Tt,Tt,Tt,Tt,Tt,Tt,Tt,Tt,Tt,Tt,Tt,Tt,Ff,Ff]) 15 rfl (by kernel_rfl) rfl ?_
        refine TL.pstore (k := 0) (vs := [.int .i64 ((bgC (pid l) (prun l) key).v), .int .i64 ((bgC (pid l) (prun l) key).run), .int .i64 ((bgC (pid l) (prun l) key).n), .slice DB ((bgC (pid l) (prun l) key).dg.length) eB]) rfl rfl rfl rfl rfl rfl rfl jracsz45 jracone_i64i64i64s (by show 4 ≤ 4; decide) (L' := [.blk g15 45 [.int .i64 ((bgC (pid l) (prun l) key).v), .int .i64 ((bgC (pid l) (prun l) key).run), .int .i64 ((bgC (pid l) (prun l) key).n), .slice DB ((bgC (pid l) (prun l) key).dg.length) eB], .row (.slice AB ((bgS (pid l) (prun l) key).length) cB) 5 1 ((bgS (pid l) (prun l) key).length) (bv (bgS (pid l) (prun l) key)), .row (.slice DB ((bgC (pid l) (prun l) key).dg.length) eB) 5 1 ((bgC (pid l) (prun l) key).dg.length) (bv (bgC (pid l) (prun l) key).dg), .row (.slice A73 32 c73) 5 1 32 (bv (macF key (l.take m))), .row (.slice Ar (cnt l) cr) 27 17 (cnt l) (rcs (rlN l (cnt l))), .blk g3 45 [.int .i64 ch.v, .int .i64 ch.run, .int .i64 ch.n, .slice A0 n0 c0], .blk g6 45 [.int .i64 0, .int .i64 0, .int .i64 0, .slice none 0 0]]) rfl ?_
        refine TL.end_ ?_
        refine TX.held (fun w1 hw => hw.pick [] (by decide) rfl) ?_
        refine TH.tk (listed' := #[Tt,Tt,Tt,Tt,Tt,Tt,Tt,Tt,Tt,Tt,Tt,Tt,Tt,Tt,Tt,Tt,Tt,Ff]) 16 rfl rfl rfl (gives_assign rfl rfl) (fun w1 hw => hw.pick [] (by decide) rfl) ?_
        refine TH.tk (listed' := #[Tt,Tt,Tt,Tt,Tt,Tt,Tt,Tt,Tt,Tt,Tt,Tt,Tt,Tt,Tt,Tt,Tt,Tt]) 17 rfl rfl rfl (gives_assign rfl rfl) (fun w1 hw => hw.pick [] (by decide) rfl) ?_
        refine TH.done (by kernel_rfl) ?_
        refine TX.then_ (TC.seq_ (TC.seq_ (TC.region ?_)))
        refine TL.mv ?_
        refine TL.vsplit rfl rfl rfl (gives_bin rfl rfl rfl (fun w => bin_neq w)) (fun h98 => ?_) (fun h98 => ?_)
        ·have q98 := of_decide_eq_true h98
         have hE := acc_nbg hb1.2 h0 h1 h2 hok hs hK (fun h => q98 h.1)
         iterate 6 (first | refine TL.of ?_ | refine TL.mv ?_ | refine TL.pk ?_)
         refine TL.end_ (TX.then_ (TC.condT rfl (TC.seq_ (TC.region ?_))))
         refine TL.val rfl rfl rfl (gives_build (v := .agg #[.int .i64 0, .int .i64 0, .int .i64 0, .slice none 0 0]) rfl rfl (fun w => jracbld45_530  w)) ?_
         refine TL.pstore (k := 6) (vs := [.int .i64 0, .int .i64 0, .int .i64 0, .slice none 0 0]) rfl rfl rfl rfl rfl rfl rfl jracsz45 jracone_i64i64i64s (by show 4 ≤ 4; decide) (L' := [.blk g15 45 [.int .i64 ((bgC (pid l) (prun l) key).v), .int .i64 ((bgC (pid l) (prun l) key).run), .int .i64 ((bgC (pid l) (prun l) key).n), .slice DB ((bgC (pid l) (prun l) key).dg.length) eB], .row (.slice AB ((bgS (pid l) (prun l) key).length) cB) 5 1 ((bgS (pid l) (prun l) key).length) (bv (bgS (pid l) (prun l) key)), .row (.slice DB ((bgC (pid l) (prun l) key).dg.length) eB) 5 1 ((bgC (pid l) (prun l) key).dg.length) (bv (bgC (pid l) (prun l) key).dg), .row (.slice A73 32 c73) 5 1 32 (bv (macF key (l.take m))), .row (.slice Ar (cnt l) cr) 27 17 (cnt l) (rcs (rlN l (cnt l))), .blk g3 45 [.int .i64 ch.v, .int .i64 ch.run, .int .i64 ch.n, .slice A0 n0 c0], .blk g6 45 [.int .i64 0, .int .i64 0, .int .i64 0, .slice none 0 0]]) rfl ?_
         refine TL.as_ ?_
         refine TL.as_ ?_
         refine TL.end_ (TX.then_ (TC.ret_ (TX.then_ret (TX.then_ret ?_))))
         exact ret_cell3 (k := 6) (v := .slice none 0 0) (v2 := .int .i64 18) Tryd.results23 rfl rfl rfl rfl Tryd.underlying45 rfl rfl (fun w1 hw => by rw [hE.1, hE.2.1, hE.2.2]; exact AccR.none_ hw)
        ·have q98 := of_decide_eq_false h98
         iterate 6 (first | refine TL.gu ?_ | refine TL.mv ?_)
         refine TL.callsplit rfl rfl rfl rfl rfl Tryd.func16 jracnm16 jracbd16 (fun w1 hw => (requal_any AB (some ⟨b0, o, none⟩) (bgS (pid l) (prun l) key).length cB l.length c1 (bgS (pid l) (prun l) key) l w1 w1.heap.size (byt_own (hw.at_ (k := 1) rfl) (bgS_bs _ _ _)) ((hb1.below hw.bel).more hw.bel.size) (by have := bgS_le (pid l) (prun l) key; omega) (by omega)).mono fun e w2 ⟨h1, q, h2⟩ => ⟨h1, h2 ▸ drewN_below q⟩) (fun h102 => ?_) (fun h102 => ?_)
         ·have q102 := of_decide_eq_true h102
          have hE := acc_bg hb1.2 h0 h1 h2 hok hs hK ⟨Decidable.not_not.1 q98, q102⟩
          refine TL.gu ?_
          refine TL.val rfl rfl rfl (gives_boolnot rfl rfl) ?_
          refine TL.pk ?_
          refine TL.end_ (TX.then_ (TC.condF rfl (TC.skip_ (TX.then_ (TC.seq_ (TC.region ?_))))))
          refine TL.val rfl rfl rfl (pm_loadV (k := 0) (i := 0) (n := 4) (v := .agg #[.int .i64 ((bgC (pid l) (prun l) key).v), .int .i64 ((bgC (pid l) (prun l) key).run), .int .i64 ((bgC (pid l) (prun l) key).n), .slice DB ((bgC (pid l) (prun l) key).dg.length) eB]) rfl rfl jracag45 jracsz45 rfl (by show 4 ≤ 4; decide) rfl) ?_
          refine TL.pstore (k := 6) (vs := [.int .i64 ((bgC (pid l) (prun l) key).v), .int .i64 ((bgC (pid l) (prun l) key).run), .int .i64 ((bgC (pid l) (prun l) key).n), .slice DB ((bgC (pid l) (prun l) key).dg.length) eB]) rfl rfl rfl rfl rfl rfl rfl jracsz45 jracone_i64i64i64s (by show 4 ≤ 4; decide) (L' := [.blk g15 45 [.int .i64 ((bgC (pid l) (prun l) key).v), .int .i64 ((bgC (pid l) (prun l) key).run), .int .i64 ((bgC (pid l) (prun l) key).n), .slice DB ((bgC (pid l) (prun l) key).dg.length) eB], .row (.slice AB ((bgS (pid l) (prun l) key).length) cB) 5 1 ((bgS (pid l) (prun l) key).length) (bv (bgS (pid l) (prun l) key)), .row (.slice DB ((bgC (pid l) (prun l) key).dg.length) eB) 5 1 ((bgC (pid l) (prun l) key).dg.length) (bv (bgC (pid l) (prun l) key).dg), .row (.slice A73 32 c73) 5 1 32 (bv (macF key (l.take m))), .row (.slice Ar (cnt l) cr) 27 17 (cnt l) (rcs (rlN l (cnt l))), .blk g3 45 [.int .i64 ch.v, .int .i64 ch.run, .int .i64 ch.n, .slice A0 n0 c0], .blk g6 45 [.int .i64 ((bgC (pid l) (prun l) key).v), .int .i64 ((bgC (pid l) (prun l) key).run), .int .i64 ((bgC (pid l) (prun l) key).n), .slice DB ((bgC (pid l) (prun l) key).dg.length) eB]]) rfl ?_
          refine TL.as_ ?_
          refine TL.as_ ?_
          refine TL.end_ (TX.then_ (TC.ret_ (TX.then_ret ?_)))
          exact ret_cell3 (k := 6) (v := .slice none 0 0) (v2 := .int .i64 0) Tryd.results23 rfl rfl rfl rfl Tryd.underlying45 rfl rfl (fun w1 hw => by rw [hE.1, hE.2.1, hE.2.2]; exact ⟨none, 0, DB, eB, 0, _, rfl, rfl, Nat.le_refl _, Nat.zero_le _, hDB1, hDB2, rfl, (hw.pick [2] (by decide) rfl).nilrow _ 17⟩)
         ·have q102 := of_decide_eq_false h102
          have hE := acc_nbg hb1.2 h0 h1 h2 hok hs hK (fun h => q102 h.2)
          refine TL.gu ?_
          refine TL.val rfl rfl rfl (gives_boolnot rfl rfl) ?_
          refine TL.pk ?_
          refine TL.end_ (TX.then_ (TC.condT rfl (TC.seq_ (TC.region ?_))))
          refine TL.val rfl rfl rfl (gives_build (v := .agg #[.int .i64 0, .int .i64 0, .int .i64 0, .slice none 0 0]) rfl rfl (fun w => jracbld45_530  w)) ?_
          refine TL.pstore (k := 6) (vs := [.int .i64 0, .int .i64 0, .int .i64 0, .slice none 0 0]) rfl rfl rfl rfl rfl rfl rfl jracsz45 jracone_i64i64i64s (by show 4 ≤ 4; decide) (L' := [.blk g15 45 [.int .i64 ((bgC (pid l) (prun l) key).v), .int .i64 ((bgC (pid l) (prun l) key).run), .int .i64 ((bgC (pid l) (prun l) key).n), .slice DB ((bgC (pid l) (prun l) key).dg.length) eB], .row (.slice AB ((bgS (pid l) (prun l) key).length) cB) 5 1 ((bgS (pid l) (prun l) key).length) (bv (bgS (pid l) (prun l) key)), .row (.slice DB ((bgC (pid l) (prun l) key).dg.length) eB) 5 1 ((bgC (pid l) (prun l) key).dg.length) (bv (bgC (pid l) (prun l) key).dg), .row (.slice A73 32 c73) 5 1 32 (bv (macF key (l.take m))), .row (.slice Ar (cnt l) cr) 27 17 (cnt l) (rcs (rlN l (cnt l))), .blk g3 45 [.int .i64 ch.v, .int .i64 ch.run, .int .i64 ch.n, .slice A0 n0 c0], .blk g6 45 [.int .i64 0, .int .i64 0, .int .i64 0, .slice none 0 0]]) rfl ?_
          refine TL.as_ ?_
          refine TL.as_ ?_
          refine TL.end_ (TX.then_ (TC.ret_ (TX.then_ret (TX.then_ret ?_))))
          exact ret_cell3 (k := 6) (v := .slice none 0 0) (v2 := .int .i64 18) Tryd.results23 rfl rfl rfl rfl Tryd.underlying45 rfl rfl (fun w1 hw => by rw [hE.1, hE.2.1, hE.2.2]; exact AccR.none_ hw)
       ·refine TL.pnew rfl rfl rfl (exec_alloc (cs := [.int .i64 0, .int .i64 0, .int .i64 0, .slice none 0 0]) rfl jraczv45 rfl) (fun g15 => ?_)
        refine TL.end_ ?_
        refine TX.held (fun w1 hw => hw.pick [] (by decide) rfl) ?_
        refine TH.only' (listed' := #[Tt,Tt,Tt,Tt,Tt,Tt,Tt,Tt,Tt,Tt,Ff,Ff,Ff,Ff,Tt,Ff,Ff,Ff]) 9 rfl (by kernel_rfl) rfl ?_
        refine TL.pcallPm (α := SegY (bgC (pid l) (prun l) key) (bgS (pid l) (prun l) key)) (fun y => .tuple #[.agg #[.int .i64 ((bgC (pid l) (prun l) key).v), .int .i64 ((bgC (pid l) (prun l) key).run), .int .i64 ((bgC (pid l) (prun l) key).n), .slice y.1.2.1 ((bgC (pid l) (prun l) key).dg.length) y.1.2.2], .slice y.1.1.1 ((bgS (pid l) (prun l) key).length) y.1.1.2, .int .i64 (bgE (pid l) (prun l))]) (fun y => [.row (.slice y.1.1.1 ((bgS (pid l) (prun l) key).length) y.1.1.2) 5 1 ((bgS (pid l) (prun l) key).length) (bv (bgS (pid l) (prun l) key)), .row (.slice y.1.2.1 ((bgC (pid l) (prun l) key).dg.length) y.1.2.2) 5 1 ((bgC (pid l) (prun l) key).dg.length) (bv (bgC (pid l) (prun l) key).dg)]) rfl rfl rfl rfl rfl Tryd.func34 jracnm34 jracbd34 (fun w1 hw => (rbegin_any (pid l) (prun l) A2 n2 c2 key w1 ((hb2.below hw.bel).more hw.bel.size) hn2l).mono fun e w2 h => h.use) ?_
        rintro ⟨⟨⟨AB, cB⟩, ⟨DB, eB⟩⟩, ⟨hAB1, hAB2⟩, ⟨hDB1, hDB2⟩⟩
        dsimp only [List.cons_append, List.nil_append]
        dsimp only at hAB1 hAB2 hDB1 hDB2
        refine TL.end_ ?_
        refine TX.held (fun w1 hw => hw.pick [] (by decide) rfl) ?_
        refine TH.tk (listed' := #[Tt,Tt,Tt,Tt,Tt,Tt,Tt,Tt,Tt,Tt,Tt,Ff,Ff,Ff,Tt,Ff,Ff,Ff]) 10 rfl rfl rfl (gives_move rfl rfl) (fun w1 hw => hw.pick [] (by decide) rfl) ?_
        refine TH.tk (listed' := #[Tt,Tt,Tt,Tt,Tt,Tt,Tt,Tt,Tt,Tt,Tt,Tt,Ff,Ff,Tt,Ff,Ff,Ff]) 11 rfl rfl rfl (gives_extract rfl rfl rfl) (fun w1 hw => hw.pick [] (by decide) rfl) ?_
        refine TH.tk (listed' := #[Tt,Tt,Tt,Tt,Tt,Tt,Tt,Tt,Tt,Tt,Tt,Tt,Tt,Ff,Tt,Ff,Ff,Ff]) 12 rfl rfl rfl (gives_extract rfl rfl rfl) (fun w1 hw => hw.pick [] (by decide) rfl) ?_
        refine TH.tk (listed' := #[Tt,Tt,Tt,Tt,Tt,Tt,Tt,Tt,Tt,Tt,Tt,Tt,Tt,Tt,Tt,Ff,Ff,Ff]) 13 rfl rfl rfl (gives_extract rfl rfl rfl) (fun w1 hw => hw.pick [] (by decide) rfl) ?_
        refine TH.only' (listed' := #[Tt,Tt,Tt,Tt,Tt,Tt,Tt,Tt,Tt,Tt,Tt,Tt,Tt,Tt,Tt,Tt,Ff,Ff]) 15 rfl (by kernel_rfl) rfl ?_
        refine TL.pstore (k := 2) (vs := [.int .i64 ((bgC (pid l) (prun l) key).v), .int .i64 ((bgC (pid l) (prun l) key).run), .int .i64 ((bgC (pid l) (prun l) key).n), .slice DB ((bgC (pid l) (prun l) key).dg.length) eB]) rfl rfl rfl rfl rfl rfl rfl jracsz45 jracone_i64i64i64s (by show 4 ≤ 4; decide) (L' := [.row (.slice AB ((bgS (pid l) (prun l) key).length) cB) 5 1 ((bgS (pid l) (prun l) key).length) (bv (bgS (pid l) (prun l) key)), .row (.slice DB ((bgC (pid l) (prun l) key).dg.length) eB) 5 1 ((bgC (pid l) (prun l) key).dg.length) (bv (bgC (pid l) (prun l) key).dg), .blk g15 45 [.int .i64 ((bgC (pid l) (prun l) key).v), .int .i64 ((bgC (pid l) (prun l) key).run), .int .i64 ((bgC (pid l) (prun l) key).n), .slice DB ((bgC (pid l) (prun l) key).dg.length) eB], .row (.slice A73 32 c73) 5 1 32 (bv (macF key (l.take m))), .row (.slice Ar (cnt l) cr) 27 17 (cnt l) (rcs (rlN l (cnt l))), .blk g3 45 [.int .i64 ch.v, .int .i64 ch.run, .int .i64 ch.n, .slice A0 n0 c0], .blk g6 45 [.int .i64 0, .int .i64 0, .int .i64 0, .slice none 0 0]]) rfl ?_
        refine TL.end_ ?_
        refine TX.held (fun w1 hw => hw.pick [] (by decide) rfl) ?_
        refine TH.tk (listed' := #[Tt,Tt,Tt,Tt,Tt,Tt,Tt,Tt,Tt,Tt,Tt,Tt,Tt,Tt,Tt,Tt,Tt,Ff]) 16 rfl rfl rfl (gives_assign rfl rfl) (fun w1 hw => hw.pick [] (by decide) rfl) ?_
        refine TH.tk (listed' := #[Tt,Tt,Tt,Tt,Tt,Tt,Tt,Tt,Tt,Tt,Tt,Tt,Tt,Tt,Tt,Tt,Tt,Tt]) 17 rfl rfl rfl (gives_assign rfl rfl) (fun w1 hw => hw.pick [] (by decide) rfl) ?_
        refine TH.done (by kernel_rfl) ?_
        refine TX.then_ (TC.seq_ (TC.seq_ (TC.region ?_)))
        refine TL.mv ?_
        refine TL.vsplit rfl rfl rfl (gives_bin rfl rfl rfl (fun w => bin_neq w)) (fun h98 => ?_) (fun h98 => ?_)
        ·have q98 := of_decide_eq_true h98
         have hE := acc_nbg hb1.2 h0 h1 h2 hok hs hK (fun h => q98 h.1)
         iterate 6 (first | refine TL.of ?_ | refine TL.mv ?_ | refine TL.pk ?_)
         refine TL.end_ (TX.then_ (TC.condT rfl (TC.seq_ (TC.region ?_))))
         refine TL.val rfl rfl rfl (gives_build (v := .agg #[.int .i64 0, .int .i64 0, .int .i64 0, .slice none 0 0]) rfl rfl (fun w => jracbld45_530  w)) ?_
         refine TL.pstore (k := 6) (vs := [.int .i64 0, .int .i64 0, .int .i64 0, .slice none 0 0]) rfl rfl rfl rfl rfl rfl rfl jracsz45 jracone_i64i64i64s (by show 4 ≤ 4; decide) (L' := [.row (.slice AB ((bgS (pid l) (prun l) key).length) cB) 5 1 ((bgS (pid l) (prun l) key).length) (bv (bgS (pid l) (prun l) key)), .row (.slice DB ((bgC (pid l) (prun l) key).dg.length) eB) 5 1 ((bgC (pid l) (prun l) key).dg.length) (bv (bgC (pid l) (prun l) key).dg), .blk g15 45 [.int .i64 ((bgC (pid l) (prun l) key).v), .int .i64 ((bgC (pid l) (prun l) key).run), .int .i64 ((bgC (pid l) (prun l) key).n), .slice DB ((bgC (pid l) (prun l) key).dg.length) eB], .row (.slice A73 32 c73) 5 1 32 (bv (macF key (l.take m))), .row (.slice Ar (cnt l) cr) 27 17 (cnt l) (rcs (rlN l (cnt l))), .blk g3 45 [.int .i64 ch.v, .int .i64 ch.run, .int .i64 ch.n, .slice A0 n0 c0], .blk g6 45 [.int .i64 0, .int .i64 0, .int .i64 0, .slice none 0 0]]) rfl ?_
         refine TL.as_ ?_
         refine TL.as_ ?_
         refine TL.end_ (TX.then_ (TC.ret_ (TX.then_ret (TX.then_ret ?_))))
         exact ret_cell3 (k := 6) (v := .slice none 0 0) (v2 := .int .i64 18) Tryd.results23 rfl rfl rfl rfl Tryd.underlying45 rfl rfl (fun w1 hw => by rw [hE.1, hE.2.1, hE.2.2]; exact AccR.none_ hw)
        ·have q98 := of_decide_eq_false h98
         iterate 6 (first | refine TL.gu ?_ | refine TL.mv ?_)
         refine TL.callsplit rfl rfl rfl rfl rfl Tryd.func16 jracnm16 jracbd16 (fun w1 hw => (requal_any AB (some ⟨b0, o, none⟩) (bgS (pid l) (prun l) key).length cB l.length c1 (bgS (pid l) (prun l) key) l w1 w1.heap.size (byt_own (hw.at_ (k := 0) rfl) (bgS_bs _ _ _)) ((hb1.below hw.bel).more hw.bel.size) (by have := bgS_le (pid l) (prun l) key; omega) (by omega)).mono fun e w2 ⟨h1, q, h2⟩ => ⟨h1, h2 ▸ drewN_below q⟩) (fun h102 => ?_) (fun h102 => ?_)
         ·have q102 := of_decide_eq_true h102
          have hE := acc_bg hb1.2 h0 h1 h2 hok hs hK ⟨Decidable.not_not.1 q98, q102⟩
          refine TL.gu ?_
          refine TL.val rfl rfl rfl (gives_boolnot rfl rfl) ?_
          refine TL.pk ?_
          refine TL.end_ (TX.then_ (TC.condF rfl (TC.skip_ (TX.then_ (TC.seq_ (TC.region ?_))))))
          refine TL.val rfl rfl rfl (pm_loadV (k := 2) (i := 0) (n := 4) (v := .agg #[.int .i64 ((bgC (pid l) (prun l) key).v), .int .i64 ((bgC (pid l) (prun l) key).run), .int .i64 ((bgC (pid l) (prun l) key).n), .slice DB ((bgC (pid l) (prun l) key).dg.length) eB]) rfl rfl jracag45 jracsz45 rfl (by show 4 ≤ 4; decide) rfl) ?_
          refine TL.pstore (k := 6) (vs := [.int .i64 ((bgC (pid l) (prun l) key).v), .int .i64 ((bgC (pid l) (prun l) key).run), .int .i64 ((bgC (pid l) (prun l) key).n), .slice DB ((bgC (pid l) (prun l) key).dg.length) eB]) rfl rfl rfl rfl rfl rfl rfl jracsz45 jracone_i64i64i64s (by show 4 ≤ 4; decide) (L' := [.row (.slice AB ((bgS (pid l) (prun l) key).length) cB) 5 1 ((bgS (pid l) (prun l) key).length) (bv (bgS (pid l) (prun l) key)), .row (.slice DB ((bgC (pid l) (prun l) key).dg.length) eB) 5 1 ((bgC (pid l) (prun l) key).dg.length) (bv (bgC (pid l) (prun l) key).dg), .blk g15 45 [.int .i64 ((bgC (pid l) (prun l) key).v), .int .i64 ((bgC (pid l) (prun l) key).run), .int .i64 ((bgC (pid l) (prun l) key).n), .slice DB ((bgC (pid l) (prun l) key).dg.length) eB], .row (.slice A73 32 c73) 5 1 32 (bv (macF key (l.take m))), .row (.slice Ar (cnt l) cr) 27 17 (cnt l) (rcs (rlN l (cnt l))), .blk g3 45 [.int .i64 ch.v, .int .i64 ch.run, .int .i64 ch.n, .slice A0 n0 c0], .blk g6 45 [.int .i64 ((bgC (pid l) (prun l) key).v), .int .i64 ((bgC (pid l) (prun l) key).run), .int .i64 ((bgC (pid l) (prun l) key).n), .slice DB ((bgC (pid l) (prun l) key).dg.length) eB]]) rfl ?_
          refine TL.as_ ?_
          refine TL.as_ ?_
          refine TL.end_ (TX.then_ (TC.ret_ (TX.then_ret ?_)))
          exact ret_cell3 (k := 6) (v := .slice none 0 0) (v2 := .int .i64 0) Tryd.results23 rfl rfl rfl rfl Tryd.underlying45 rfl rfl (fun w1 hw => by rw [hE.1, hE.2.1, hE.2.2]; exact ⟨none, 0, DB, eB, 0, _, rfl, rfl, Nat.le_refl _, Nat.zero_le _, hDB1, hDB2, rfl, (hw.pick [1] (by decide) rfl).nilrow _ 17⟩)
         ·have q102 := of_decide_eq_false h102
          have hE := acc_nbg hb1.2 h0 h1 h2 hok hs hK (fun h => q102 h.2)
          refine TL.gu ?_
          refine TL.val rfl rfl rfl (gives_boolnot rfl rfl) ?_
          refine TL.pk ?_
          refine TL.end_ (TX.then_ (TC.condT rfl (TC.seq_ (TC.region ?_))))
          refine TL.val rfl rfl rfl (gives_build (v := .agg #[.int .i64 0, .int .i64 0, .int .i64 0, .slice none 0 0]) rfl rfl (fun w => jracbld45_530  w)) ?_
          refine TL.pstore (k := 6) (vs := [.int .i64 0, .int .i64 0, .int .i64 0, .slice none 0 0]) rfl rfl rfl rfl rfl rfl rfl jracsz45 jracone_i64i64i64s (by show 4 ≤ 4; decide) (L' := [.row (.slice AB ((bgS (pid l) (prun l) key).length) cB) 5 1 ((bgS (pid l) (prun l) key).length) (bv (bgS (pid l) (prun l) key)), .row (.slice DB ((bgC (pid l) (prun l) key).dg.length) eB) 5 1 ((bgC (pid l) (prun l) key).dg.length) (bv (bgC (pid l) (prun l) key).dg), .blk g15 45 [.int .i64 ((bgC (pid l) (prun l) key).v), .int .i64 ((bgC (pid l) (prun l) key).run), .int .i64 ((bgC (pid l) (prun l) key).n), .slice DB ((bgC (pid l) (prun l) key).dg.length) eB], .row (.slice A73 32 c73) 5 1 32 (bv (macF key (l.take m))), .row (.slice Ar (cnt l) cr) 27 17 (cnt l) (rcs (rlN l (cnt l))), .blk g3 45 [.int .i64 ch.v, .int .i64 ch.run, .int .i64 ch.n, .slice A0 n0 c0], .blk g6 45 [.int .i64 0, .int .i64 0, .int .i64 0, .slice none 0 0]]) rfl ?_
          refine TL.as_ ?_
          refine TL.as_ ?_
          refine TL.end_ (TX.then_ (TC.ret_ (TX.then_ret (TX.then_ret ?_))))
          exact ret_cell3 (k := 6) (v := .slice none 0 0) (v2 := .int .i64 18) Tryd.results23 rfl rfl rfl rfl Tryd.underlying45 rfl rfl (fun w1 hw => by rw [hE.1, hE.2.1, hE.2.2]; exact AccR.none_ hw)
      ·have hK : ¬ emptyK ch := by unfold emptyK; have := of_decide_eq_false h82; omega
       refine TL.end_ (TX.then_ (TC.condF rfl (TC.skip_ (TX.then_ (TC.seq_ (TC.region ?_))))))
       refine TL.val rfl rfl rfl (pm_loadV (k := 2) (i := 0) (n := 4) (v := .agg #[.int .i64 ch.v, .int .i64 ch.run, .int .i64 ch.n, .slice A0 n0 c0]) rfl rfl jracag45 jracsz45 rfl (by show 4 ≤ 4; decide) rfl) ?_
       refine TL.mv ?_
       refine TL.mv ?_
       refine TL.pcallPm (α := SegY (apC ch (rlB l) key) (apS ch (rlB l) key)) (fun y => .tuple #[.agg #[.int .i64 ((apC ch (rlB l) key).v), .int .i64 ((apC ch (rlB l) key).run), .int .i64 ((apC ch (rlB l) key).n), .slice y.1.2.1 ((apC ch (rlB l) key).dg.length) y.1.2.2], .slice y.1.1.1 ((apS ch (rlB l) key).length) y.1.1.2, .int .i64 (apE ch (rlB l))]) (fun y => [.row (.slice y.1.1.1 ((apS ch (rlB l) key).length) y.1.1.2) 5 1 ((apS ch (rlB l) key).length) (bv (apS ch (rlB l) key)), .row (.slice y.1.2.1 ((apC ch (rlB l) key).dg.length) y.1.2.2) 5 1 ((apC ch (rlB l) key).dg.length) (bv (apC ch (rlB l) key).dg)]) rfl rfl rfl rfl rfl Tryd.func37 jracnm37 jracbd37 (fun w1 hw => (rappend_cnt A0 n0 c0 ch Ar cr l A2 n2 c2 key w1 ((hb2.below hw.bel).more hw.bel.size) hn2l ((hb0.below hw.bel).more hw.bel.size) (Reads.of_own (hw.at_ (k := 1) rfl)) hn0 hn1 hd hc2 hb1.2 hok).mono fun e w2 h => h.use) ?_
       rintro ⟨⟨⟨AP, cP⟩, ⟨DP, eP⟩⟩, ⟨hAP1, hAP2⟩, ⟨hDP1, hDP2⟩⟩
       dsimp only [List.cons_append, List.nil_append]
       dsimp only at hAP1 hAP2 hDP1 hDP2
       iterate 4 (first | refine TL.ex ?_ | refine TL.mv ?_)
       refine TL.pnew rfl rfl rfl (exec_alloc (cs := [.int .i64 0, .int .i64 0, .int .i64 0, .slice none 0 0]) rfl jraczv45 rfl) (fun g18 => ?_)
       refine TL.pstore (k := 0) (vs := [.int .i64 ((apC ch (rlB l) key).v), .int .i64 ((apC ch (rlB l) key).run), .int .i64 ((apC ch (rlB l) key).n), .slice DP ((apC ch (rlB l) key).dg.length) eP]) rfl rfl rfl rfl rfl rfl rfl jracsz45 jracone_i64i64i64s (by show 4 ≤ 4; decide) (L' := [.blk g18 45 [.int .i64 ((apC ch (rlB l) key).v), .int .i64 ((apC ch (rlB l) key).run), .int .i64 ((apC ch (rlB l) key).n), .slice DP ((apC ch (rlB l) key).dg.length) eP], .row (.slice AP ((apS ch (rlB l) key).length) cP) 5 1 ((apS ch (rlB l) key).length) (bv (apS ch (rlB l) key)), .row (.slice DP ((apC ch (rlB l) key).dg.length) eP) 5 1 ((apC ch (rlB l) key).dg.length) (bv (apC ch (rlB l) key).dg), .row (.slice A73 32 c73) 5 1 32 (bv (macF key (l.take m))), .row (.slice Ar (cnt l) cr) 27 17 (cnt l) (rcs (rlN l (cnt l))), .blk g3 45 [.int .i64 ch.v, .int .i64 ch.run, .int .i64 ch.n, .slice A0 n0 c0], .blk g6 45 [.int .i64 0, .int .i64 0, .int .i64 0, .slice none 0 0]]) rfl ?_
       refine TL.as_ ?_
       refine TL.as_ ?_
       refine TL.end_ (TX.then_ (TC.seq_ (TC.seq_ (TC.region ?_))))
       refine TL.mv ?_
       refine TL.vsplit rfl rfl rfl (gives_bin rfl rfl rfl (fun w => bin_neq w)) (fun h116 => ?_) (fun h116 => ?_)
       ·have q116 := of_decide_eq_true h116
        have hE := acc_nap hb1.2 h0 h1 h2 hok hs hK (fun h => q116 h.1)
        iterate 6 (first | refine TL.of ?_ | refine TL.mv ?_ | refine TL.pk ?_)
        refine TL.end_ (TX.then_ (TC.condT rfl (TC.seq_ (TC.region ?_))))
        refine TL.val rfl rfl rfl (gives_build (v := .agg #[.int .i64 0, .int .i64 0, .int .i64 0, .slice none 0 0]) rfl rfl (fun w => jracbld45_530  w)) ?_
        refine TL.pstore (k := 6) (vs := [.int .i64 0, .int .i64 0, .int .i64 0, .slice none 0 0]) rfl rfl rfl rfl rfl rfl rfl jracsz45 jracone_i64i64i64s (by show 4 ≤ 4; decide) (L' := [.blk g18 45 [.int .i64 ((apC ch (rlB l) key).v), .int .i64 ((apC ch (rlB l) key).run), .int .i64 ((apC ch (rlB l) key).n), .slice DP ((apC ch (rlB l) key).dg.length) eP], .row (.slice AP ((apS ch (rlB l) key).length) cP) 5 1 ((apS ch (rlB l) key).length) (bv (apS ch (rlB l) key)), .row (.slice DP ((apC ch (rlB l) key).dg.length) eP) 5 1 ((apC ch (rlB l) key).dg.length) (bv (apC ch (rlB l) key).dg), .row (.slice A73 32 c73) 5 1 32 (bv (macF key (l.take m))), .row (.slice Ar (cnt l) cr) 27 17 (cnt l) (rcs (rlN l (cnt l))), .blk g3 45 [.int .i64 ch.v, .int .i64 ch.run, .int .i64 ch.n, .slice A0 n0 c0], .blk g6 45 [.int .i64 0, .int .i64 0, .int .i64 0, .slice none 0 0]]) rfl ?_
        refine TL.as_ ?_
        refine TL.as_ ?_
        refine TL.end_ (TX.then_ (TC.ret_ (TX.then_ret ?_)))
        exact ret_cell3 (k := 6) (v := .slice none 0 0) (v2 := .int .i64 18) Tryd.results23 rfl rfl rfl rfl Tryd.underlying45 rfl rfl (fun w1 hw => by rw [hE.1, hE.2.1, hE.2.2]; exact AccR.none_ hw)
       ·have q116 := of_decide_eq_false h116
        iterate 6 (first | refine TL.gu ?_ | refine TL.mv ?_)
        refine TL.callsplit rfl rfl rfl rfl rfl Tryd.func16 jracnm16 jracbd16 (fun w1 hw => (requal_any AP (some ⟨b0, o, none⟩) (apS ch (rlB l) key).length cP l.length c1 (apS ch (rlB l) key) l w1 w1.heap.size (byt_own (hw.at_ (k := 1) rfl) (apS_bs hb0.2 _ _)) ((hb1.below hw.bel).more hw.bel.size) (by have := apS_le ch (rlB l) key; have := rlB_len l; omega) (by omega)).mono fun e w2 ⟨h1, q, h2⟩ => ⟨h1, h2 ▸ drewN_below q⟩) (fun h120 => ?_) (fun h120 => ?_)
        ·have q120 := of_decide_eq_true h120
         have hE := acc_ap hb1.2 h0 h1 h2 hok hs hK ⟨Decidable.not_not.1 q116, q120⟩
         refine TL.gu ?_
         refine TL.val rfl rfl rfl (gives_boolnot rfl rfl) ?_
         refine TL.pk ?_
         refine TL.end_ (TX.then_ (TC.condF rfl (TC.skip_ (TX.then_ (TC.seq_ (TC.region ?_))))))
         refine TL.val rfl rfl rfl (pm_loadV (k := 0) (i := 0) (n := 4) (v := .agg #[.int .i64 ((apC ch (rlB l) key).v), .int .i64 ((apC ch (rlB l) key).run), .int .i64 ((apC ch (rlB l) key).n), .slice DP ((apC ch (rlB l) key).dg.length) eP]) rfl rfl jracag45 jracsz45 rfl (by show 4 ≤ 4; decide) rfl) ?_
         refine TL.mv ?_
         refine TL.pstore (k := 6) (vs := [.int .i64 ((apC ch (rlB l) key).v), .int .i64 ((apC ch (rlB l) key).run), .int .i64 ((apC ch (rlB l) key).n), .slice DP ((apC ch (rlB l) key).dg.length) eP]) rfl rfl rfl rfl rfl rfl rfl jracsz45 jracone_i64i64i64s (by show 4 ≤ 4; decide) (L' := [.blk g18 45 [.int .i64 ((apC ch (rlB l) key).v), .int .i64 ((apC ch (rlB l) key).run), .int .i64 ((apC ch (rlB l) key).n), .slice DP ((apC ch (rlB l) key).dg.length) eP], .row (.slice AP ((apS ch (rlB l) key).length) cP) 5 1 ((apS ch (rlB l) key).length) (bv (apS ch (rlB l) key)), .row (.slice DP ((apC ch (rlB l) key).dg.length) eP) 5 1 ((apC ch (rlB l) key).dg.length) (bv (apC ch (rlB l) key).dg), .row (.slice A73 32 c73) 5 1 32 (bv (macF key (l.take m))), .row (.slice Ar (cnt l) cr) 27 17 (cnt l) (rcs (rlN l (cnt l))), .blk g3 45 [.int .i64 ch.v, .int .i64 ch.run, .int .i64 ch.n, .slice A0 n0 c0], .blk g6 45 [.int .i64 ((apC ch (rlB l) key).v), .int .i64 ((apC ch (rlB l) key).run), .int .i64 ((apC ch (rlB l) key).n), .slice DP ((apC ch (rlB l) key).dg.length) eP]]) rfl ?_
         refine TL.as_ ?_
         refine TL.as_ ?_
         refine TL.end_ (TX.then_ (TC.ret_ ?_))
         exact ret_cell3 (k := 6) (v := .slice Ar (cnt l) cr) (v2 := .int .i64 0) Tryd.results23 rfl rfl rfl rfl Tryd.underlying45 rfl rfl (fun w1 hw => by rw [hE.1, hE.2.1, hE.2.2]; exact ⟨Ar, cr, DP, eP, _, _, rlB_len l, rfl, hcr, hcr2, hDP1, hDP2, rfl, hw.pick [4, 2] (by decide) rfl⟩)
        ·have q120 := of_decide_eq_false h120
         have hE := acc_nap hb1.2 h0 h1 h2 hok hs hK (fun h => q120 h.2)
         refine TL.gu ?_
         refine TL.val rfl rfl rfl (gives_boolnot rfl rfl) ?_
         refine TL.pk ?_
         refine TL.end_ (TX.then_ (TC.condT rfl (TC.seq_ (TC.region ?_))))
         refine TL.val rfl rfl rfl (gives_build (v := .agg #[.int .i64 0, .int .i64 0, .int .i64 0, .slice none 0 0]) rfl rfl (fun w => jracbld45_530  w)) ?_
         refine TL.pstore (k := 6) (vs := [.int .i64 0, .int .i64 0, .int .i64 0, .slice none 0 0]) rfl rfl rfl rfl rfl rfl rfl jracsz45 jracone_i64i64i64s (by show 4 ≤ 4; decide) (L' := [.blk g18 45 [.int .i64 ((apC ch (rlB l) key).v), .int .i64 ((apC ch (rlB l) key).run), .int .i64 ((apC ch (rlB l) key).n), .slice DP ((apC ch (rlB l) key).dg.length) eP], .row (.slice AP ((apS ch (rlB l) key).length) cP) 5 1 ((apS ch (rlB l) key).length) (bv (apS ch (rlB l) key)), .row (.slice DP ((apC ch (rlB l) key).dg.length) eP) 5 1 ((apC ch (rlB l) key).dg.length) (bv (apC ch (rlB l) key).dg), .row (.slice A73 32 c73) 5 1 32 (bv (macF key (l.take m))), .row (.slice Ar (cnt l) cr) 27 17 (cnt l) (rcs (rlN l (cnt l))), .blk g3 45 [.int .i64 ch.v, .int .i64 ch.run, .int .i64 ch.n, .slice A0 n0 c0], .blk g6 45 [.int .i64 0, .int .i64 0, .int .i64 0, .slice none 0 0]]) rfl ?_
         refine TL.as_ ?_
         refine TL.as_ ?_
         refine TL.end_ (TX.then_ (TC.ret_ (TX.then_ret ?_)))
         exact ret_cell3 (k := 6) (v := .slice none 0 0) (v2 := .int .i64 18) Tryd.results23 rfl rfl rfl rfl Tryd.underlying45 rfl rfl (fun w1 hw => by rw [hE.1, hE.2.1, hE.2.2]; exact AccR.none_ hw)
     ·have hs2 : ¬ l.drop m = macF key (l.take m) := hm2 ▸ hs
      have hs' : ¬ macF key (l.take m) = l.drop m := fun h => hs2 h.symm
      have hE := acR_bad (c := ch) (key := key) (acc_sig h0 h1 h2 hok hs) (by decide)
      refine TC.held (ls := #[Ff,Ff,Ff,Ff,Ff,Ff,Ff,Ff,Ff,Ff,Ff,Ff]) (Pm w []) (by kernel_rfl) rfl rfl (fun w hw => hw.drawn _) ?_
      refine TH.tk (listed' := #[Tt,Ff,Ff,Ff,Ff,Ff,Ff,Ff,Ff,Ff,Ff,Ff]) 0 rfl rfl rfl (gives_move rfl rfl) (fun w1 hw => hw.pick [] (by decide) rfl) ?_
      refine TH.tk (listed' := #[Tt,Tt,Ff,Ff,Ff,Ff,Ff,Ff,Ff,Ff,Ff,Ff]) 1 rfl rfl rfl (gives_move rfl rfl) (fun w1 hw => hw.pick [] (by decide) rfl) ?_
      refine TH.tk (listed' := #[Tt,Tt,Tt,Ff,Ff,Ff,Ff,Ff,Ff,Ff,Ff,Ff]) 2 rfl rfl rfl (gives_move rfl rfl) (fun w1 hw => hw.pick [] (by decide) rfl) ?_
      refine TH.tk (listed' := #[Tt,Tt,Tt,Tt,Ff,Ff,Ff,Ff,Ff,Ff,Ff,Ff]) 3 rfl rfl rfl (gives_bin rfl rfl rfl (fun w => bin_sub_ (r := ((m : Nat) : Int)) (by simp only [IntKind.wrap_i64]; omega) w)) (fun w1 hw => hw.pick [] (by decide) rfl) ?_
      refine TH.tk (listed' := #[Tt,Tt,Tt,Tt,Tt,Ff,Ff,Ff,Ff,Ff,Ff,Ff]) 4 rfl rfl rfl (gives_sliceH (v := .slice (some ⟨b0, o, none⟩) m c1) rfl rfl rfl (fun w => cut_hi Tryd.underlying28 (fun w => rfl) (some ⟨b0, o, none⟩) l.length c1 m rfl (by omega) w)) (fun w1 hw => hw.pick [] (by decide) rfl) ?_
      refine TH.tk (listed' := #[Tt,Tt,Tt,Tt,Tt,Ff,Tt,Ff,Ff,Ff,Ff,Ff]) 6 rfl rfl rfl (gives_move rfl rfl) (fun w1 hw => hw.pick [] (by decide) rfl) ?_
      refine TH.tk (listed' := #[Tt,Tt,Tt,Tt,Tt,Ff,Tt,Tt,Ff,Ff,Ff,Ff]) 7 rfl rfl rfl (gives_move rfl rfl) (fun w1 hw => hw.pick [] (by decide) rfl) ?_
      refine TH.tk (listed' := #[Tt,Tt,Tt,Tt,Tt,Ff,Tt,Tt,Tt,Ff,Ff,Ff]) 8 rfl rfl rfl (gives_bin rfl rfl rfl (fun w => bin_sub_ (r := ((m : Nat) : Int)) (by simp only [IntKind.wrap_i64]; omega) w)) (fun w1 hw => hw.pick [] (by decide) rfl) ?_
      refine TH.tk (listed' := #[Tt,Tt,Tt,Tt,Tt,Ff,Tt,Tt,Tt,Tt,Ff,Ff]) 9 rfl rfl rfl (gives_sliceL (v := .slice (if c1 = m then (some ⟨b0, o, none⟩) else Option.map (fun a : Addr => a.add m) (some ⟨b0, o, none⟩)) (l.length - m) (c1 - m)) rfl rfl rfl (fun w => cut_lo1 Tryd.underlying28 (fun w => rfl) (some ⟨b0, o, none⟩) l.length c1 m rfl (by omega) w)) (fun w1 hw => hw.pick [] (by decide) rfl) ?_
      refine TH.only' (listed' := #[Tt,Tt,Tt,Tt,Tt,Tt,Tt,Tt,Tt,Tt,Ff,Ff]) 5 rfl (by kernel_rfl) rfl ?_
      refine TL.pcallRow (n := 32) (ys := bv (macF key (l.take m))) rfl rfl rfl rfl rfl Tryd.func29 jracnm29 jracbd29 (fun w1 hw => rmac_any _ _ _ key _ _ _ (l.take m) w1 ((hb2.below hw.bel).more hw.bel.size) (((hb1.below hw.bel).more hw.bel.size).head (by omega)) (by omega) (by omega)) (fun A73 c73 hA731 hA732 => ?_)
      refine TL.end_ ?_
      refine TX.held (fun w1 hw => hw.pick [] (by decide) rfl) ?_
      refine TH.only' (listed' := #[Tt,Tt,Tt,Tt,Tt,Tt,Tt,Tt,Tt,Tt,Tt,Ff]) 10 rfl (by kernel_rfl) rfl ?_
      refine TL.pcall1 (r := .bool false) rfl rfl rfl rfl rfl Tryd.func16 jracnm16 jracbd16 (fun w1 hw => retb_lit (decide_eq_false hs') ((requal_any _ _ _ _ _ _ (macF key (l.take m)) (l.drop m) w1 w1.heap.size (byt_own (hw.at_ (k := 0) rfl) (macF_bs _ _)) (((hb1.below hw.bel).more hw.bel.size).cut (by omega) hnc) (by omega) (by omega)).mono fun e w2 ⟨h1, q, h2⟩ => ⟨h1, h2 ▸ drewN_below q⟩)) ?_
      refine TL.end_ ?_
      refine TX.held (fun w1 hw => hw.pick [] (by decide) rfl) ?_
      refine TH.tk (listed' := #[Tt,Tt,Tt,Tt,Tt,Tt,Tt,Tt,Tt,Tt,Tt,Tt]) 11 rfl rfl rfl (gives_boolnot rfl rfl) (fun w1 hw => hw.pick [] (by decide) rfl) ?_
      refine TH.done (by kernel_rfl) ?_
      refine TX.then_ (TC.condT rfl (TC.seq_ (TC.region ?_)))
      refine TL.val rfl rfl rfl (gives_build (v := .agg #[.int .i64 0, .int .i64 0, .int .i64 0, .slice none 0 0]) rfl rfl (fun w => jracbld45_530  w)) ?_
      refine TL.pstore (k := 3) (vs := [.int .i64 0, .int .i64 0, .int .i64 0, .slice none 0 0]) rfl rfl rfl rfl rfl rfl rfl jracsz45 jracone_i64i64i64s (by show 4 ≤ 4; decide) (L' := [.row (.slice A73 32 c73) 5 1 32 (bv (macF key (l.take m))), .row (.slice Ar (cnt l) cr) 27 17 (cnt l) (rcs (rlN l (cnt l))), .blk g3 45 [.int .i64 ch.v, .int .i64 ch.run, .int .i64 ch.n, .slice A0 n0 c0], .blk g6 45 [.int .i64 0, .int .i64 0, .int .i64 0, .slice none 0 0]]) rfl ?_
      refine TL.as_ ?_
      refine TL.as_ ?_
      refine TL.end_ (TX.then_ (TC.ret_ (TX.then_ret ?_)))
      exact ret_cell3 (k := 3) (v := .slice none 0 0) (v2 := .int .i64 19) Tryd.results23 rfl rfl rfl rfl Tryd.underlying45 rfl rfl (fun w1 hw => by rw [hE.1, hE.2.1, hE.2.2]; exact AccR.none_ hw)
end Go.Proofs.YtmeaeeehnkcblaaDoor

namespace Go.Proofs.YtmeaeeehnkcblaaDoor
open Go.RowKit
set_option maxRecDepth 20000
def bookV (b : Bk) : Value := .tuple #[.slice b.As b.ss.length b.cs, .slice b.Aa b.all.length b.ca, .agg #[.int .i64 b.ch.v, .int .i64 b.ch.run, .int .i64 b.ch.n, .slice b.Ad b.ch.dg.length b.cd], .slice b.Ak b.key.length b.ck]
def bookL (b : Bk) : List Pc := [.row (.slice b.As b.ss.length b.cs) 28 1 b.ss.length (b.ss.map Sl.val), .row (.slice b.Aa b.all.length b.ca) 27 17 b.all.length (rcs b.all), .row (.slice b.Ad b.ch.dg.length b.cd) 5 1 b.ch.dg.length (bv b.ch.dg), .row (.slice b.Ak b.key.length b.ck) 5 1 b.key.length (bv b.key)]
theorem svals_one (ss : List Sl) : ∀ u ∈ ss.map Sl.val, u.oneCell' = true := by intro u hu; obtain ⟨s, _, rfl⟩ := List.mem_map.1 hu; rfl
theorem noAbs_app {a b : List Pc} (ha : noAbs a = true) (hb : noAbs b = true) : noAbs (a ++ b) = true := by
 simp only [noAbs, List.all_append, Bool.and_eq_true] at ha hb ⊢
 exact ⟨ha, hb⟩
theorem book_perm (a : List Pc) (x : Pc) (b c : List Pc) : ((a ++ [x]) ++ (b ++ c)).Perm ((a ++ b) ++ (x :: c)) := by
 rw [List.append_assoc, List.append_assoc]
 refine List.Perm.append_left a ?_
 rw [List.singleton_append]
 exact List.perm_middle.symm
theorem jbkzv45 (w : World) : (zeroValue 45).run Tryd.prog w = .ok (.agg #[.int .i64 0, .int .i64 0, .int .i64 0, .slice none 0 0]) w := rfl
theorem jbknm51 : (Tryd.f51.name == "runtime.NumGoroutine") = false := by decide
theorem jbkbd51 : Tryd.f51.body.isNone = false := rfl
theorem jbknm21 : (Tryd.f21.name == "runtime.NumGoroutine") = false := by decide
theorem jbkbd21 : Tryd.f21.body.isNone = false := rfl
theorem jbknm34 : (Tryd.f34.name == "runtime.NumGoroutine") = false := by decide
theorem jbkbd34 : Tryd.f34.body.isNone = false := rfl
theorem jbksz45 (w : World) : (sizeOf 45).run Tryd.prog w = .ok 4 w := rfl
theorem jbkone_i64i64i64s {a0 : Int} {a1 : Int} {a2 : Int} {a3 : Option Addr} {n3 c3 : Nat} : ∀ u ∈ [(.int .i64 a0 : Value), .int .i64 a1, .int .i64 a2, .slice a3 n3 c3], u.oneCell' = true := by
 intro u hu
 simp only [List.mem_cons, List.not_mem_nil, or_false] at hu
 rcases hu with rfl | rfl | rfl | rfl <;> rfl
theorem jbkbs40_1_58639 (a0_0 : Option Addr) (a0_0n a0_0c : Nat) (w : World) : (Instr.buildSlice 40 1 #[(0, .slice a0_0 a0_0n a0_0c)]).run Tryd.prog w = .ok (.slice (some ⟨w.heap.size, 0, none⟩) 1 1) (w.alloc (.cells [.slice a0_0 a0_0n a0_0c].toArray 28)) := by kernel_rfl
theorem jbkag45 (w : World) : (isAgg 45).run Tryd.prog w = .ok true w := rfl
theorem jbknm35 : (Tryd.f35.name == "runtime.NumGoroutine") = false := by decide
theorem jbkbd35 : Tryd.f35.body.isNone = false := rfl
theorem jbknm37 : (Tryd.f37.name == "runtime.NumGoroutine") = false := by decide
theorem jbkbd37 : Tryd.f37.body.isNone = false := rfl
theorem jbkel40 : Elem Tryd.prog 40 28 1 24 := Elem.mk' Tryd.underlying40 (z := .slice none 0 0) (by kernel_rfl) rfl (by omega) (by omega)
theorem jbkel33 : Elem Tryd.prog 33 27 17 128 := Elem.mk' Tryd.underlying33 (z := .agg #[.int .i64 0, .int .i64 0, .int .i64 0, .int .i64 0, .int .u32 0, .int .i64 0, .int .i64 0, .int .i64 0, .bool false, .bool false, .int .i64 0, .int .u32 0, .int .i64 0, .int .i64 0, .int .i64 0, .int .i64 0, .int .i64 0]) (by kernel_rfl) rfl (by omega) (by omega)
set_option maxHeartbeats 4000000 in
theorem book_cod (cb : Nat) (w : World) (hC : Cod w cb) :
  Calls Tryd.prog 20 #[.pointer (some ⟨cb, 0, none⟩)] w fun e w' => ∃ x : {b : Bk // BkI b ∧ b.ss.length ≤ 5}, e = .returned (bookV x.1) ∧ Codr (fun w => Cod w cb) cb w (bookL x.1 ++ segP x.1.ss) w' := by
 refine begin_ (vs := [.pointer (some ⟨cb, 0, none⟩)]) (I := Pm ⟨w, cb⟩ (.abs cb (fun w => Cod w cb) :: oths cb w)) Tryd.func20 rfl rfl rfl ?_ (Pm.codes hC (cod_cells hC) (cod_stab cb))
 refine TC.seq_ (TC.region ?_)
 refine TL.as_ ?_
 refine TL.as_ ?_
 refine TL.pnew rfl rfl rfl (exec_alloc (cs := [.int .i64 0, .int .i64 0, .int .i64 0, .slice none 0 0]) rfl jbkzv45 rfl) (fun g4 => ?_)
 refine TL.as_ ?_
 refine TL.end_ (TX.then_ (TC.seq_ (TC.region ?_)))
 refine TL.mv ?_
 refine TL.pcallCod (k := 1) (α := {y : (Option Addr × Nat) × List Int // y.2.length ≤ y.1.2 ∧ y.1.2 ≤ maxLen ∧ y.2.length ≤ 8 ∧ Bs y.2}) (fun y => .slice y.1.1.1 y.1.2.length y.1.1.2) (fun y => [.row (.slice y.1.1.1 y.1.2.length y.1.1.2) 5 1 y.1.2.length (bv y.1.2)]) rfl rfl rfl rfl rfl Tryd.func51 jbknm51 jbkbd51 rfl (fun w1 hw hC1 => bytes_cod cb 8 w1 hC1 (by omega)) ?_
 rintro ⟨⟨⟨A18, c18⟩, l18⟩, hA181, hA182, hA183, hA184⟩
 dsimp only [List.cons_append, List.nil_append] at hA181 hA182 hA183 hA184 ⊢
 refine TL.as_ ?_
 refine TL.end_ (TX.then_ (TC.seq_ (TC.region ?_)))
 refine TL.mv ?_
 refine TL.pcallCod (k := 2) (α := {x : Nat // x ≤ 65535 ∧ (1 ≤ (16 : Int) → (x : Int) < 16)}) (fun y => .int .i64 (y.1 : Int)) (fun y => []) rfl rfl rfl rfl rfl Tryd.func21 jbknm21 jbkbd21 rfl (fun w1 hw hC1 => next_cod cb w1 16 hC1) ?_
 rintro ⟨x21, hx211, hx212⟩
 dsimp only [List.cons_append, List.nil_append] at hx211 hx212 ⊢
 replace hx212 := hx212 (by omega)
 refine TL.mv ?_
 refine TL.pcallCod (k := 2) (α := {x : Nat // x ≤ 65535 ∧ (1 ≤ (64 : Int) → (x : Int) < 64)}) (fun y => .int .i64 (y.1 : Int)) (fun y => []) rfl rfl rfl rfl rfl Tryd.func21 jbknm21 jbkbd21 rfl (fun w1 hw hC1 => next_cod cb w1 64 hC1) ?_
 rintro ⟨x23, hx231, hx232⟩
 dsimp only [List.cons_append, List.nil_append] at hx231 hx232 ⊢
 replace hx232 := hx232 (by omega)
 refine TL.mv ?_
 have hid : idOk ((x21 : Nat) : Int) ((x23 : Nat) : Int) := by unfold idOk; omega
 have hg := bg_ok hid l18
 refine TL.pcallPm (α := SegY (bgC ((x21 : Nat) : Int) ((x23 : Nat) : Int) l18) (bgS ((x21 : Nat) : Int) ((x23 : Nat) : Int) l18)) (fun y => .tuple #[.agg #[.int .i64 ((bgC ((x21 : Nat) : Int) ((x23 : Nat) : Int) l18).v), .int .i64 ((bgC ((x21 : Nat) : Int) ((x23 : Nat) : Int) l18).run), .int .i64 ((bgC ((x21 : Nat) : Int) ((x23 : Nat) : Int) l18).n), .slice y.1.2.1 ((bgC ((x21 : Nat) : Int) ((x23 : Nat) : Int) l18).dg.length) y.1.2.2], .slice y.1.1.1 ((bgS ((x21 : Nat) : Int) ((x23 : Nat) : Int) l18).length) y.1.1.2, .int .i64 0]) (fun y => [.row (.slice y.1.1.1 ((bgS ((x21 : Nat) : Int) ((x23 : Nat) : Int) l18).length) y.1.1.2) 5 1 ((bgS ((x21 : Nat) : Int) ((x23 : Nat) : Int) l18).length) (bv (bgS ((x21 : Nat) : Int) ((x23 : Nat) : Int) l18)), .row (.slice y.1.2.1 ((bgC ((x21 : Nat) : Int) ((x23 : Nat) : Int) l18).dg.length) y.1.2.2) 5 1 ((bgC ((x21 : Nat) : Int) ((x23 : Nat) : Int) l18).dg.length) (bv (bgC ((x21 : Nat) : Int) ((x23 : Nat) : Int) l18).dg)]) rfl rfl rfl rfl rfl Tryd.func34 jbknm34 jbkbd34 (fun w1 hw => (rbegin_any ((x21 : Nat) : Int) ((x23 : Nat) : Int) _ _ _ l18 w1 (byt_own (hw.at_ (k := 0) rfl) hA184) (by omega)).mono fun e w2 h => by rw [hg.2.2] at h; exact h.use) ?_
 rintro ⟨⟨⟨AB, cB⟩, ⟨DB, eB⟩⟩, ⟨hAB1, hAB2⟩, ⟨hDB1, hDB2⟩⟩
 dsimp only [List.cons_append, List.nil_append]
 dsimp only at hAB1 hAB2 hDB1 hDB2
 iterate 4 (first | refine TL.ex ?_ | refine TL.mv ?_)
 refine TL.pnew rfl rfl rfl (exec_alloc (cs := [.int .i64 0, .int .i64 0, .int .i64 0, .slice none 0 0]) rfl jbkzv45 rfl) (fun g7 => ?_)
 refine TL.pstore (k := 0) (vs := [.int .i64 ((bgC ((x21 : Nat) : Int) ((x23 : Nat) : Int) l18).v), .int .i64 ((bgC ((x21 : Nat) : Int) ((x23 : Nat) : Int) l18).run), .int .i64 ((bgC ((x21 : Nat) : Int) ((x23 : Nat) : Int) l18).n), .slice DB ((bgC ((x21 : Nat) : Int) ((x23 : Nat) : Int) l18).dg.length) eB]) rfl rfl rfl rfl rfl rfl rfl jbksz45 jbkone_i64i64i64s (by show 4 ≤ 4; decide) (L' := ([.blk g7 45 [.int .i64 ((bgC ((x21 : Nat) : Int) ((x23 : Nat) : Int) l18).v), .int .i64 ((bgC ((x21 : Nat) : Int) ((x23 : Nat) : Int) l18).run), .int .i64 ((bgC ((x21 : Nat) : Int) ((x23 : Nat) : Int) l18).n), .slice DB ((bgC ((x21 : Nat) : Int) ((x23 : Nat) : Int) l18).dg.length) eB], .row (.slice AB ((bgS ((x21 : Nat) : Int) ((x23 : Nat) : Int) l18).length) cB) 5 1 ((bgS ((x21 : Nat) : Int) ((x23 : Nat) : Int) l18).length) (bv (bgS ((x21 : Nat) : Int) ((x23 : Nat) : Int) l18)), .row (.slice DB ((bgC ((x21 : Nat) : Int) ((x23 : Nat) : Int) l18).dg.length) eB) 5 1 ((bgC ((x21 : Nat) : Int) ((x23 : Nat) : Int) l18).dg.length) (bv (bgC ((x21 : Nat) : Int) ((x23 : Nat) : Int) l18).dg), .row (.slice A18 l18.length c18) 5 1 l18.length (bv l18), .blk g4 45 [.int .i64 0, .int .i64 0, .int .i64 0, .slice none 0 0], .abs cb (fun w => Cod w cb)] ++ oths cb w)) rfl ?_
 refine TL.as_ ?_
 refine TL.as_ ?_
 refine TL.end_ (TX.then_ (TC.seq_ (TC.region ?_)))
 refine TL.mv ?_
 refine TL.prowS (e := 28) (size := 1) (cs := [(⟨AB, (bgS ((x21 : Nat) : Int) ((x23 : Nat) : Int) l18).length, cB, (bgS ((x21 : Nat) : Int) ((x23 : Nat) : Int) l18)⟩ : Sl)].map Sl.val) rfl rfl rfl rfl rfl (fun w => jbkbs40_1_58639 _ _ _ w) (by decide) rfl (fun g30 => ?_)
 refine TL.as_ ?_
 refine TL.end_ (TX.then_ (TC.seq_ (TC.region ?_)))
 refine TL.as_ ?_
 refine TL.end_ (TX.then_ (TC.seq_ (TC.seq_ (TC.region ?_))))
 refine TL.mv ?_
 refine TL.pcallCod (k := 6) (α := {x : Nat // x ≤ 65535 ∧ (1 ≤ (5 : Int) → (x : Int) < 5)}) (fun y => .int .i64 (y.1 : Int)) (fun y => []) rfl rfl rfl rfl rfl Tryd.func21 jbknm21 jbkbd21 rfl (fun w1 hw hC1 => next_cod cb w1 5 hC1) ?_
 rintro ⟨x32, hx321, hx322⟩
 dsimp only [List.cons_append, List.nil_append] at hx321 hx322 ⊢
 replace hx322 := hx322 (by omega)
 refine TL.as_ ?_
 refine TL.end_ (TX.then_ (TC.block ?_))
 refine TC.nilrow 27 17 ?_
 refine TC.loop_ (α := {y : Nat × Bk // y.1 + y.2.ss.length ≤ 5 ∧ BkI y.2}) (fun y => [(0, .pointer (some ⟨cb, 0, none⟩)), (4, .pointer (some ⟨g4, 0, none⟩)), (6, .slice y.1.2.Ak y.1.2.key.length y.1.2.ck), (7, .pointer (some ⟨g7, 0, none⟩)), (10, .slice y.1.2.As y.1.2.ss.length y.1.2.cs), (11, .slice y.1.2.Aa y.1.2.all.length y.1.2.ca), (12, .int .i64 (y.1.1 : Nat))]) (fun y => Pm ⟨w, cb⟩ ([.row (.slice y.1.2.As y.1.2.ss.length y.1.2.cs) 28 1 y.1.2.ss.length (y.1.2.ss.map Sl.val), .row (.slice y.1.2.Aa y.1.2.all.length y.1.2.ca) 27 17 y.1.2.all.length (rcs y.1.2.all), .row (.slice y.1.2.Ad y.1.2.ch.dg.length y.1.2.cd) 5 1 y.1.2.ch.dg.length (bv y.1.2.ch.dg), .row (.slice y.1.2.Ak y.1.2.key.length y.1.2.ck) 5 1 y.1.2.key.length (bv y.1.2.key), .blk g7 45 [.int .i64 y.1.2.ch.v, .int .i64 y.1.2.ch.run, .int .i64 y.1.2.ch.n, .slice y.1.2.Ad y.1.2.ch.dg.length y.1.2.cd], .blk g4 45 [.int .i64 0, .int .i64 0, .int .i64 0, .slice none 0 0], .abs cb (fun w => Cod w cb)] ++ (segP y.1.2.ss ++ oths cb w))) (fun y => y.1.1) (⟨(x32, ⟨(some ⟨g30, 0, none⟩), 1, [(⟨AB, (bgS ((x21 : Nat) : Int) ((x23 : Nat) : Int) l18).length, cB, (bgS ((x21 : Nat) : Int) ((x23 : Nat) : Int) l18)⟩ : Sl)], none, 0, ([] : List Rs), DB, eB, (bgC ((x21 : Nat) : Int) ((x23 : Nat) : Int) l18), A18, c18, l18⟩), by show x32 + 1 ≤ 5; omega, Bk.start hid (Nat.le_refl 1) (by unfold maxLen; omega) hDB1 hDB2 hA181 hA182 hA184 hA183 hAB1 hAB2⟩) ⟨rfl, rfl, rfl, rfl, rfl, rfl, rfl, trivial⟩ (fun w1 hw => Pm.tuck (s := (⟨AB, (bgS ((x21 : Nat) : Int) ((x23 : Nat) : Int) l18).length, cB, (bgS ((x21 : Nat) : Int) ((x23 : Nat) : Int) l18)⟩ : Sl)) (S := []) (T := oths cb w) (hw.pickT 8 [3, 1, 0, 4, 5, 2, 6, 7] (by decide) (by decide) rfl rfl)) ?_
 rintro ⟨⟨k, ⟨As, cs, ss, Aa, ca, all, Ad, cd, ch, Ak, ck, key⟩⟩, hk5, hB⟩
 dsimp only at hk5 hB ⊢
 have hJ := jrn_inv hB.jr
 have hal := hB.al
 dsimp only at hJ hal
 have hss5 : ss.length ≤ 5 := by omega
 refine TC.seq_ (TC.seq_ (TC.region ?_))
 refine TL.mv ?_
 refine TL.vsplit rfl rfl rfl (gives_bin rfl rfl rfl (fun w => bin_gtr w)) (fun h34 => ?_) (fun h34 => ?_)
 ·have q34 := of_decide_eq_true h34
  have hk0 : 0 < k := by omega
  refine TL.end_ (TX.then_ (TC.condT rfl (TC.skip_ (TX.then_ (TC.seq_ (TC.block (TC.seq_ (TC.region ?_))))))))
  refine TL.mv ?_
  refine TL.val rfl rfl rfl (pm_loadV (k := 4) (i := 0) (n := 4) (v := .agg #[.int .i64 ch.v, .int .i64 ch.run, .int .i64 ch.n, .slice Ad ch.dg.length cd]) rfl rfl jbkag45 jbksz45 rfl (by show 4 ≤ 4; decide) rfl) ?_
  refine TL.pcallCod (k := 6) (α := {y : (Option Addr × Nat) × List Rs // y.2.length ≤ y.1.2 ∧ y.1.2 ≤ maxLen ∧ y.2.length ≤ 4 ∧ ∀ r ∈ y.2, r.Ok}) (fun y => .slice y.1.1.1 y.1.2.length y.1.1.2) (fun y => [.row (.slice y.1.1.1 y.1.2.length y.1.1.2) 27 17 y.1.2.length (rcs y.1.2)]) rfl rfl rfl rfl rfl Tryd.func35 jbknm35 jbkbd35 rfl (fun w1 hw hC1 => lawresults_cod cb 4 ch.v ch.run ch.n _ _ _ w1 hC1 (by omega) (by omega) (by omega)) ?_
  rintro ⟨⟨⟨A39, c39⟩, l39⟩, hA391, hA392, hA393, hA394⟩
  dsimp only [List.cons_append, List.nil_append] at hA391 hA392 hA393 hA394 ⊢
  refine TL.as_ ?_
  refine TL.end_ (TX.then_ (TC.seq_ (TC.region ?_)))
  refine TL.val rfl rfl rfl (pm_loadV (k := 5) (i := 0) (n := 4) (v := .agg #[.int .i64 ch.v, .int .i64 ch.run, .int .i64 ch.n, .slice Ad ch.dg.length cd]) rfl rfl jbkag45 jbksz45 rfl (by show 4 ≤ 4; decide) rfl) ?_
  refine TL.mv ?_
  refine TL.mv ?_
  refine TL.pcallPm (α := SegY (apC ch l39 key) (apS ch l39 key)) (fun y => .tuple #[.agg #[.int .i64 ((apC ch l39 key).v), .int .i64 ((apC ch l39 key).run), .int .i64 ((apC ch l39 key).n), .slice y.1.2.1 ((apC ch l39 key).dg.length) y.1.2.2], .slice y.1.1.1 ((apS ch l39 key).length) y.1.1.2, .int .i64 (apE ch l39)]) (fun y => [.row (.slice y.1.1.1 ((apS ch l39 key).length) y.1.1.2) 5 1 ((apS ch l39 key).length) (bv (apS ch l39 key)), .row (.slice y.1.2.1 ((apC ch l39 key).dg.length) y.1.2.2) 5 1 ((apC ch l39 key).dg.length) (bv (apC ch l39 key).dg)]) rfl rfl rfl rfl rfl Tryd.func37 jbknm37 jbkbd37 (fun w1 hw => (rappend_any Ad _ cd ch A39 c39 l39 _ _ _ key w1 (byt_own (hw.at_ (k := 4) rfl) hB.kb) (by have := hB.k8; dsimp only at this; omega) (byt_own (hw.at_ (k := 3) rfl) hJ.2.2.2) (Reads.of_own (hw.at_ (k := 0) rfl)) (by omega) (by omega) (by omega) (by omega) hA394).mono fun e w2 h => h.use) ?_
  rintro ⟨⟨⟨AP, cP⟩, ⟨DP, eP⟩⟩, ⟨hAP1, hAP2⟩, ⟨hDP1, hDP2⟩⟩
  dsimp only [List.cons_append, List.nil_append]
  dsimp only at hAP1 hAP2 hDP1 hDP2
  iterate 4 (first | refine TL.ex ?_ | refine TL.mv ?_)
  refine TL.pnew rfl rfl rfl (exec_alloc (cs := [.int .i64 0, .int .i64 0, .int .i64 0, .slice none 0 0]) rfl jbkzv45 rfl) (fun g14 => ?_)
  refine TL.pstore (k := 0) (vs := [.int .i64 ((apC ch l39 key).v), .int .i64 ((apC ch l39 key).run), .int .i64 ((apC ch l39 key).n), .slice DP ((apC ch l39 key).dg.length) eP]) rfl rfl rfl rfl rfl rfl rfl jbksz45 jbkone_i64i64i64s (by show 4 ≤ 4; decide) (L' := ([.blk g14 45 [.int .i64 ((apC ch l39 key).v), .int .i64 ((apC ch l39 key).run), .int .i64 ((apC ch l39 key).n), .slice DP ((apC ch l39 key).dg.length) eP], .row (.slice AP ((apS ch l39 key).length) cP) 5 1 ((apS ch l39 key).length) (bv (apS ch l39 key)), .row (.slice DP ((apC ch l39 key).dg.length) eP) 5 1 ((apC ch l39 key).dg.length) (bv (apC ch l39 key).dg), .row (.slice A39 l39.length c39) 27 17 l39.length (rcs l39), .row (.slice As ss.length cs) 28 1 ss.length (ss.map Sl.val), .row (.slice Aa all.length ca) 27 17 all.length (rcs all), .row (.slice Ad ch.dg.length cd) 5 1 ch.dg.length (bv ch.dg), .row (.slice Ak key.length ck) 5 1 key.length (bv key), .blk g7 45 [.int .i64 ch.v, .int .i64 ch.run, .int .i64 ch.n, .slice Ad ch.dg.length cd], .blk g4 45 [.int .i64 0, .int .i64 0, .int .i64 0, .slice none 0 0], .abs cb (fun w => Cod w cb)] ++ (segP ss ++ oths cb w))) rfl ?_
  refine TL.as_ ?_
  refine TL.as_ ?_
  refine TL.end_ (TX.then_ (TC.seq_ (TC.region ?_)))
  refine TL.mv ?_
  refine TL.vsplit rfl rfl rfl (gives_bin rfl rfl rfl (fun w => bin_eql w)) (fun h49 => ?_) (fun h49 => ?_)
  ·have q49 := of_decide_eq_true h49
   have hE : apE ch l39 = 0 := q49
   refine TL.end_ (TX.then_ (TC.condT rfl ?_))
   refine TC.held (ls := #[Ff,Ff,Ff,Ff,Ff,Ff,Ff,Ff,Ff,Ff,Ff]) (Pm ⟨w, cb⟩ [.blk g14 45 [.int .i64 ((apC ch l39 key).v), .int .i64 ((apC ch l39 key).run), .int .i64 ((apC ch l39 key).n), .slice DP ((apC ch l39 key).dg.length) eP]]) (by kernel_rfl) rfl rfl (fun w hw => hw.drawn _) ?_
   refine TH.tk (listed' := #[Tt,Ff,Ff,Ff,Ff,Ff,Ff,Ff,Ff,Ff,Ff]) 0 rfl rfl rfl (pm_loadV (k := 0) (i := 0) (n := 4) (v := .agg #[.int .i64 ((apC ch l39 key).v), .int .i64 ((apC ch l39 key).run), .int .i64 ((apC ch l39 key).n), .slice DP ((apC ch l39 key).dg.length) eP]) rfl rfl jbkag45 jbksz45 rfl (by show 4 ≤ 4; decide) rfl) (fun w1 hw => hw.pick [0] (by decide) rfl) ?_
   refine TH.tk (listed' := #[Tt,Tt,Ff,Ff,Ff,Ff,Ff,Ff,Ff,Ff,Ff]) 1 rfl rfl rfl (gives_move rfl rfl) (fun w1 hw => hw.pick [0] (by decide) rfl) ?_
   refine TH.tk (listed' := #[Tt,Tt,Tt,Ff,Ff,Ff,Ff,Ff,Ff,Ff,Ff]) 2 rfl rfl rfl (gives_move rfl rfl) (fun w1 hw => hw.pick [0] (by decide) rfl) ?_
   refine TH.tk (listed' := #[Tt,Tt,Tt,Ff,Ff,Tt,Ff,Ff,Ff,Ff,Ff]) 5 rfl rfl rfl (gives_move rfl rfl) (fun w1 hw => hw.pick [0] (by decide) rfl) ?_
   refine TH.tk (listed' := #[Tt,Tt,Tt,Ff,Ff,Tt,Tt,Ff,Ff,Ff,Ff]) 6 rfl rfl rfl (gives_move rfl rfl) (fun w1 hw => hw.pick [0] (by decide) rfl) ?_
   refine TH.only' (listed' := #[Tt,Tt,Tt,Tt,Ff,Tt,Tt,Ff,Ff,Ff,Ff]) 3 rfl (by kernel_rfl) rfl ?_
   refine TL.prowS (e := 28) (size := 1) (cs := [(⟨AP, (apS ch l39 key).length, cP, (apS ch l39 key)⟩ : Sl)].map Sl.val) rfl rfl rfl rfl rfl (fun w => jbkbs40_1_58639 _ _ _ w) (by decide) rfl (fun g53 => ?_)
   refine TL.end_ ?_
   refine TX.held (fun w1 hw => hw.pick [1] (by decide) rfl) ?_
   refine TH.only' (listed' := #[Tt,Tt,Tt,Tt,Tt,Tt,Tt,Ff,Ff,Ff,Ff]) 4 rfl (by kernel_rfl) rfl ?_
   refine TL.appendT (k := 5) rfl rfl rfl rfl Tryd.underlying40 jbkel40 rfl rfl rfl (fun w1 hw => pm_reads hw (k := 0) rfl) (svals_one _) (by have := hB.al; have := hss5; omega) ((ss ++ [(⟨AP, (apS ch l39 key).length, cP, (apS ch l39 key)⟩ : Sl)]).length) (by rw [List.length_append]; rfl) ((ss ++ [(⟨AP, (apS ch l39 key).length, cP, (apS ch l39 key)⟩ : Sl)]).map Sl.val) (by rw [List.map_append]) (fun A54 c54 hA541 hA542 => ?_)
   refine TL.end_ ?_
   refine TX.held (fun w1 hw => hw.pick [1] (by decide) rfl) ?_
   refine TH.only' (listed' := #[Tt,Tt,Tt,Tt,Tt,Tt,Tt,Tt,Ff,Ff,Ff]) 7 rfl (by kernel_rfl) rfl ?_
   refine TL.appendT (k := 6) rfl rfl rfl rfl Tryd.underlying33 jbkel33 rfl rfl rfl (fun w1 hw => pm_reads hw (k := 4) rfl) (rcs_one _) (by have := hal; omega) ((all ++ l39).length) (by rw [List.length_append]) (rcs (all ++ l39)) (by rw [rcs_app]) (fun A57 c57 hA571 hA572 => ?_)
   refine TL.end_ ?_
   refine TX.held (fun w1 hw => hw.pick [1] (by decide) rfl) ?_
   refine TH.only' (listed' := #[Tt,Tt,Tt,Tt,Tt,Tt,Tt,Tt,Tt,Ff,Ff]) 8 rfl (by kernel_rfl) rfl ?_
   refine TL.pstore (k := 9) (vs := [.int .i64 ((apC ch l39 key).v), .int .i64 ((apC ch l39 key).run), .int .i64 ((apC ch l39 key).n), .slice DP ((apC ch l39 key).dg.length) eP]) rfl rfl rfl rfl rfl rfl rfl jbksz45 jbkone_i64i64i64s (by show 4 ≤ 4; decide) (L' := ([.row (.slice (some ⟨g53, 0, none⟩) 1 1) 28 1 1 ([(⟨AP, (apS ch l39 key).length, cP, (apS ch l39 key)⟩ : Sl)].map Sl.val), .blk g14 45 [.int .i64 ((apC ch l39 key).v), .int .i64 ((apC ch l39 key).run), .int .i64 ((apC ch l39 key).n), .slice DP ((apC ch l39 key).dg.length) eP], .row (.slice AP ((apS ch l39 key).length) cP) 5 1 ((apS ch l39 key).length) (bv (apS ch l39 key)), .row (.slice DP ((apC ch l39 key).dg.length) eP) 5 1 ((apC ch l39 key).dg.length) (bv (apC ch l39 key).dg), .row (.slice A39 l39.length c39) 27 17 l39.length (rcs l39), .row (.slice A54 ((ss ++ [(⟨AP, (apS ch l39 key).length, cP, (apS ch l39 key)⟩ : Sl)]).length) c54) 28 1 ((ss ++ [(⟨AP, (apS ch l39 key).length, cP, (apS ch l39 key)⟩ : Sl)]).length) ((ss ++ [(⟨AP, (apS ch l39 key).length, cP, (apS ch l39 key)⟩ : Sl)]).map Sl.val), .row (.slice A57 ((all ++ l39).length) c57) 27 17 ((all ++ l39).length) (rcs (all ++ l39)), .row (.slice Ad ch.dg.length cd) 5 1 ch.dg.length (bv ch.dg), .row (.slice Ak key.length ck) 5 1 key.length (bv key), .blk g7 45 [.int .i64 ((apC ch l39 key).v), .int .i64 ((apC ch l39 key).run), .int .i64 ((apC ch l39 key).n), .slice DP ((apC ch l39 key).dg.length) eP], .blk g4 45 [.int .i64 0, .int .i64 0, .int .i64 0, .slice none 0 0], .abs cb (fun w => Cod w cb)] ++ (segP ss ++ oths cb w))) rfl ?_
   refine TL.end_ ?_
   refine TX.held (fun w1 hw => hw.pick [1] (by decide) rfl) ?_
   refine TH.tk (listed' := #[Tt,Tt,Tt,Tt,Tt,Tt,Tt,Tt,Tt,Tt,Ff]) 9 rfl rfl rfl (gives_assign rfl rfl) (fun w1 hw => hw.pick [1] (by decide) rfl) ?_
   refine TH.tk (listed' := #[Tt,Tt,Tt,Tt,Tt,Tt,Tt,Tt,Tt,Tt,Tt]) 10 rfl rfl rfl (gives_assign rfl rfl) (fun w1 hw => hw.pick [1] (by decide) rfl) ?_
   refine TH.done (by kernel_rfl) ?_
   refine TX.in_normal (TX.then_ (TC.region ?_))
   refine TL.mv ?_
   refine TL.val rfl rfl rfl (gives_bin rfl rfl rfl (fun w => bin_sub_ (r := ((k - 1 : Nat) : Int)) (by simp only [IntKind.wrap_i64]; omega) w)) ?_
   refine TL.as_ ?_
   refine TL.end_ ?_
   exact TX.round (⟨(k - 1, ⟨A54, c54, (ss ++ [(⟨AP, (apS ch l39 key).length, cP, (apS ch l39 key)⟩ : Sl)]), A57, c57, (all ++ l39), DP, eP, (apC ch l39 key), Ak, ck, key⟩), by show k - 1 + (ss ++ [_]).length ≤ 5; rw [List.length_append, List.length_singleton]; omega, Bk.more hB hE hA394 hA393 hA541 hA542 hA571 hA572 hDP1 hDP2 hAP1 hAP2⟩) (by show k - 1 < k; omega) ⟨rfl, rfl, rfl, rfl, rfl, rfl, rfl, trivial⟩ (fun w1 hw => (show Pm ⟨w, cb⟩ ([.row (.slice A54 ((ss ++ [(⟨AP, (apS ch l39 key).length, cP, (apS ch l39 key)⟩ : Sl)]).length) c54) 28 1 ((ss ++ [(⟨AP, (apS ch l39 key).length, cP, (apS ch l39 key)⟩ : Sl)]).length) ((ss ++ [(⟨AP, (apS ch l39 key).length, cP, (apS ch l39 key)⟩ : Sl)]).map Sl.val), .row (.slice A57 ((all ++ l39).length) c57) 27 17 ((all ++ l39).length) (rcs (all ++ l39)), .row (.slice DP ((apC ch l39 key).dg.length) eP) 5 1 ((apC ch l39 key).dg.length) (bv (apC ch l39 key).dg), .row (.slice Ak key.length ck) 5 1 key.length (bv key), .blk g7 45 [.int .i64 ((apC ch l39 key).v), .int .i64 ((apC ch l39 key).run), .int .i64 ((apC ch l39 key).n), .slice DP ((apC ch l39 key).dg.length) eP], .blk g4 45 [.int .i64 0, .int .i64 0, .int .i64 0, .slice none 0 0], .abs cb (fun w => Cod w cb)] ++ (segP (ss ++ [(⟨AP, (apS ch l39 key).length, cP, (apS ch l39 key)⟩ : Sl)]) ++ oths cb w)) w1 from Pm.tuck (s := (⟨AP, (apS ch l39 key).length, cP, (apS ch l39 key)⟩ : Sl)) (S := ss) (hw.pickT 12 [2, 5, 6, 3, 8, 9, 10, 11] (by decide) (by decide) rfl rfl)))
  ·have q49 := of_decide_eq_false h49
   refine TL.end_ (TX.then_ (TC.condF rfl (TC.skip_ (TX.in_normal (TX.then_ (TC.region ?_))))))
   refine TL.mv ?_
   refine TL.val rfl rfl rfl (gives_bin rfl rfl rfl (fun w => bin_sub_ (r := ((k - 1 : Nat) : Int)) (by simp only [IntKind.wrap_i64]; omega) w)) ?_
   refine TL.as_ ?_
   refine TL.end_ ?_
   exact TX.round (⟨(k - 1, ⟨As, cs, ss, Aa, ca, all, Ad, cd, ch, Ak, ck, key⟩), by dsimp only; omega, hB⟩) (by show k - 1 < k; omega) ⟨rfl, rfl, rfl, rfl, rfl, rfl, rfl, trivial⟩ (fun w1 hw => hw.sel (.cons _ (.cons _ (.cons _ (.cons _ (.cons_cons _ (.cons_cons _ (.cons_cons _ (.cons_cons _ (.cons_cons _ (.cons_cons _ (.cons_cons _ (List.Sublist.refl _)))))))))))))
 ·have q34 := of_decide_eq_false h34
  refine TL.end_ (TX.then_ (TC.condF rfl (TC.exit_ (TX.then_exit (TX.then_exit (TX.in_same (TX.then_ (TC.seq_ ?_))))))))
  refine TC.held (ls := #[Ff,Ff,Ff,Ff,Ff,Ff,Ff,Ff]) (Pm ⟨w, cb⟩ [.blk g7 45 [.int .i64 ch.v, .int .i64 ch.run, .int .i64 ch.n, .slice Ad ch.dg.length cd]]) (by kernel_rfl) rfl rfl (fun w hw => hw.drawn _) ?_
  refine TH.tk (listed' := #[Tt,Ff,Ff,Ff,Ff,Ff,Ff,Ff]) 0 rfl rfl rfl (gives_move rfl rfl) (fun w1 hw => hw.pick [4] (by decide) rfl) ?_
  refine TH.tk (listed' := #[Tt,Tt,Ff,Ff,Ff,Ff,Ff,Ff]) 1 rfl rfl rfl (gives_move rfl rfl) (fun w1 hw => hw.pick [4] (by decide) rfl) ?_
  refine TH.tk (listed' := #[Tt,Tt,Tt,Ff,Ff,Ff,Ff,Ff]) 2 rfl rfl rfl (pm_loadV (k := 0) (i := 0) (n := 4) (v := .agg #[.int .i64 ch.v, .int .i64 ch.run, .int .i64 ch.n, .slice Ad ch.dg.length cd]) rfl rfl jbkag45 jbksz45 rfl (by show 4 ≤ 4; decide) rfl) (fun w1 hw => hw.pick [4] (by decide) rfl) ?_
  refine TH.tk (listed' := #[Tt,Tt,Tt,Tt,Ff,Ff,Ff,Ff]) 3 rfl rfl rfl (gives_move rfl rfl) (fun w1 hw => hw.pick [4] (by decide) rfl) ?_
  refine TH.tk (listed' := #[Tt,Tt,Tt,Tt,Tt,Ff,Ff,Ff]) 4 rfl rfl rfl (gives_assign rfl rfl) (fun w1 hw => hw.pick [4] (by decide) rfl) ?_
  refine TH.tk (listed' := #[Tt,Tt,Tt,Tt,Tt,Tt,Ff,Ff]) 5 rfl rfl rfl (gives_assign rfl rfl) (fun w1 hw => hw.pick [4] (by decide) rfl) ?_
  refine TH.only' (listed' := #[Tt,Tt,Tt,Tt,Tt,Tt,Tt,Ff]) 6 rfl (by kernel_rfl) rfl ?_
  refine TL.pstore (k := 5) (vs := [.int .i64 ch.v, .int .i64 ch.run, .int .i64 ch.n, .slice Ad ch.dg.length cd]) rfl rfl rfl rfl rfl rfl rfl jbksz45 jbkone_i64i64i64s (by show 4 ≤ 4; decide) (L' := ([.row (.slice As ss.length cs) 28 1 ss.length (ss.map Sl.val), .row (.slice Aa all.length ca) 27 17 all.length (rcs all), .row (.slice Ad ch.dg.length cd) 5 1 ch.dg.length (bv ch.dg), .row (.slice Ak key.length ck) 5 1 key.length (bv key), .blk g7 45 [.int .i64 ch.v, .int .i64 ch.run, .int .i64 ch.n, .slice Ad ch.dg.length cd], .blk g4 45 [.int .i64 ch.v, .int .i64 ch.run, .int .i64 ch.n, .slice Ad ch.dg.length cd], .abs cb (fun w => Cod w cb)] ++ (segP ss ++ oths cb w))) rfl ?_
  refine TL.end_ ?_
  refine TX.held (fun w1 hw => hw.pick [4] (by decide) rfl) ?_
  refine TH.tk (listed' := #[Tt,Tt,Tt,Tt,Tt,Tt,Tt,Tt]) 7 rfl rfl rfl (gives_assign rfl rfl) (fun w1 hw => hw.pick [4] (by decide) rfl) ?_
  refine TH.done (by kernel_rfl) ?_
  refine TX.then_ (TC.ret_ ?_)
  exact ret_cell4 (k := 5) (v := .slice As ss.length cs) (v2 := .slice Aa all.length ca) (v3 := .slice Ak key.length ck) Tryd.results20 rfl rfl rfl rfl rfl Tryd.underlying45 rfl rfl (fun w1 hw => ⟨⟨⟨As, cs, ss, Aa, ca, all, Ad, cd, ch, Ak, ck, key⟩, hB, hss5⟩, rfl, Pm.codr (bookL _ ++ segP ss) (by have h1 := hw.pickT 7 [0, 1, 2, 3, 6] (by decide) (by decide) rfl rfl (P' := bookL ⟨As, cs, ss, Aa, ca, all, Ad, cd, ch, Ak, ck, key⟩ ++ [.abs cb (fun w => Cod w cb)]) (T := segP ss ++ oths cb w); exact h1.perm (book_perm _ _ _ _)) (noAbs_app rfl (segP_noAbs ss))⟩)
end Go.Proofs.YtmeaeeehnkcblaaDoor

namespace Go.Proofs.YtmeaeeehnkcblaaDoor
open Go.RowKit
def rcv (key : List Int) : Nat → Chn → List Rs → Nat → List Int → Chn × List Rs × Nat
 | 0, c, rl, p, _ => (c, rl, p)
 | f + 1, c, rl, p, b => if lenE b = 0 ∧ lenN b ≤ b.length ∧ accE c (b.take (lenN b).toNat) key = 0 then rcv key f (accC c (b.take (lenN b).toNat) key) (rl ++ accL c (b.take (lenN b).toNat) key) (p + (lenN b).toNat) (b.drop (lenN b).toNat) else (c, rl, p)
def rcvF (b key : List Int) : Chn × List Rs × Nat := rcv key (b.length + 1) Chn.zero [] 0 b
theorem rcv_stop {key : List Int} {f : Nat} {c : Chn} {rl : List Rs} {p : Nat} {b : List Int} (h : ¬ (lenE b = 0 ∧ lenN b ≤ b.length ∧ accE c (b.take (lenN b).toNat) key = 0)) : rcv key f c rl p b = (c, rl, p) := by
 cases f with
 | zero => rfl
 | succ f => rw [rcv, if_neg h]
theorem rcv_go {key : List Int} {f : Nat} {c : Chn} {rl : List Rs} {p m : Nat} {b : List Int} (h1 : lenE b = 0) (hm : lenN b = (m : Nat)) (h2 : m ≤ b.length) (h3 : accE c (b.take m) key = 0) : rcv key (f + 1) c rl p b = rcv key f (accC c (b.take m) key) (rl ++ accL c (b.take m) key) (p + m) (b.drop m) := by
 have e : (lenN b).toNat = m := by omega
 rw [rcv, e, if_pos ⟨h1, by omega, h3⟩]
structure RcI (l key : List Int) (c : Chn) (rl : List Rs) (p f : Nat) (cr cd : Nat) : Prop where
 pl : p ≤ l.length
 fu : l.length - p < f
 eq : rcvF l key = rcv key f c rl p (l.drop p)
 n0 : 0 ≤ c.n
 n1 : c.n ≤ 1000
 dl : c.dg.length ≤ 32
 db : Bs c.dg
 rp : rl.length ≤ p
 r1 : rl.length ≤ cr
 r2 : cr ≤ maxLen
 d1 : c.dg.length ≤ cd
 d2 : cd ≤ maxLen
theorem RcI.start (l key : List Int) : RcI l key Chn.zero [] 0 (l.length + 1) 0 0 := ⟨Nat.zero_le _, by omega, by rw [rcvF, List.drop_zero], Int.le_refl _, by decide, Nat.zero_le _, Bs.nil, Nat.le_refl _, Nat.le_refl _, Nat.zero_le _, Nat.le_refl _, Nat.zero_le _⟩
theorem RcI.stop {l key : List Int} {c : Chn} {rl : List Rs} {p f cr cd : Nat} (h : RcI l key c rl p f cr cd) (hs : ¬ (lenE (l.drop p) = 0 ∧ lenN (l.drop p) ≤ (l.drop p).length ∧ accE c ((l.drop p).take (lenN (l.drop p)).toNat) key = 0)) : rcvF l key = (c, rl, p) := h.eq.trans (rcv_stop hs)
theorem acc_inv {c : Chn} {b key : List Int} (h : accE c b key = 0) (h0 : 0 ≤ c.n) (h1 : c.n ≤ 1000) : 0 ≤ (accC c b key).n ∧ (accC c b key).n ≤ 1000 ∧ (accC c b key).dg.length = 32 ∧ Bs (accC c b key).dg := by
 have hl : lnk c b := by
  rw [accE] at h
  split at h
  ·rename_i hh; exact absurd h hh
  split at h
  ·exact absurd h (by decide)
  split at h
  ·exact absurd h (by decide)
  split at h
  ·exact absurd h (by decide)
  split at h
  ·exact absurd h (by decide)
  split at h
  ·exact absurd h (by decide)
  ·rename_i hh; exact Decidable.not_not.1 hh
 rw [(acR_ok h).1]
 refine ⟨by show 0 ≤ c.n + (cnt b : Int); omega, ?_, shaF_len _, shaF_bs _⟩
 show c.n + (cnt b : Int) ≤ 1000
 rw [lnk] at hl
 split at hl
 ·have := hl.2.1; omega
 ·exact hl.2.2.2.2.2.1
theorem RcI.next {l key : List Int} {c : Chn} {rl : List Rs} {p f cr cd m cr' cd' : Nat} (h : RcI l key c rl p f cr cd) (hbl : Bs l) (h1 : lenE (l.drop p) = 0) (hm : lenN (l.drop p) = (m : Nat)) (h2 : m ≤ (l.drop p).length) (h3 : accE c ((l.drop p).take m) key = 0)
  (r1 : (rl ++ accL c ((l.drop p).take m) key).length ≤ cr') (r2 : cr' ≤ maxLen) (d1 : (accC c ((l.drop p).take m) key).dg.length ≤ cd') (d2 : cd' ≤ maxLen) : RcI l key (accC c ((l.drop p).take m) key) (rl ++ accL c ((l.drop p).take m) key) (p + m) (f - 1) cr' cd' := by
 have hd := len_dec h1
 have hb : Bs (l.drop p) := hbl.drop p
 obtain ⟨_, y0, y1⟩ := byte_at hb 8 (by omega)
 have hp := h.pl
 have hdl : (l.drop p).length = l.length - p := List.length_drop ..
 have hi := acc_inv h3 h.n0 h.n1
 have hfu := h.fu
 have hrp := h.rp
 have hll : (accL c ((l.drop p).take m) key).length ≤ m := by
  rw [(acR_ok h3).2.1, rlB_len]
  have hw : lenE ((l.drop p).take m) = 0 := Decidable.byContradiction fun hh => by rw [acc_len hh] at h3; exact hh h3
  have hd2 := len_dec hw
  have hb2 : Bs ((l.drop p).take m) := hb.take m
  obtain ⟨_, z0, z1⟩ := byte_at hb2 8 (by omega)
  have hlt : ¬ (((l.drop p).take m).length : Int) < lenN ((l.drop p).take m) := fun hh => by rw [acc_short hw hh] at h3; exact absurd h3 (by decide)
  have hl2 : ((l.drop p).take m).length ≤ m := by rw [List.length_take]; omega
  unfold cnt
  omega
 refine ⟨by omega, by omega, ?_, hi.1, hi.2.1, by omega, hi.2.2.2, by rw [List.length_append]; omega, r1, r2, d1, d2⟩
 rw [h.eq]
 obtain ⟨f', rfl⟩ : ∃ f', f = f' + 1 := ⟨f - 1, by omega⟩
 rw [rcv_go h1 hm h2 h3, List.drop_drop]
 rfl
end Go.Proofs.YtmeaeeehnkcblaaDoor

namespace Go.Proofs.YtmeaeeehnkcblaaDoor
open Go.RowKit
def stF (key : List Int) (x : Chn × List Rs) (s : List Int) : Chn × List Rs := (accC x.1 s key, x.2 ++ accL x.1 s key)
def foldS (key : List Int) (ls : List (List Int)) : Chn × List Rs := ls.foldl (stF key) (Chn.zero, [])
theorem foldS_snoc (key : List Int) (ls : List (List Int)) (s : List Int) : foldS key (ls ++ [s]) = stF key (foldS key ls) s := by simp [foldS]
theorem fold_take {key : List Int} {ls : List (List Int)} {i : Nat} {s : List Int} (h : ls[i]? = some s) : foldS key (ls.take (i + 1)) = stF key (foldS key (ls.take i)) s := by
 rw [List.take_add_one, h]; exact foldS_snoc _ _ _
theorem jrn_fold {key : List Int} {ls : List (List Int)} {all : List Rs} {c : Chn} (h : Jrn key ls all c) : foldS key ls = (c, all) ∧ ∀ i s, ls[i]? = some s → accE (foldS key (ls.take i)).1 s key = 0 := by
 induction h with
 | start v run h =>
  have hE := acc_begin h key
  refine ⟨?_, fun i s hs => ?_⟩
  ·show (accC Chn.zero (bgS v run key) key, [] ++ accL Chn.zero (bgS v run key) key) = _
   rw [hE.1, hE.2.1]
   rfl
  ·cases i with
   | zero =>
    obtain rfl : bgS v run key = s := by simpa using hs
    exact hE.2.2
   | succ i => simp at hs
 | more hj h ho ih =>
  rename_i ls all c rl
  have hi := jrn_inv hj
  have hE := acc_append h hi.2.2.1 hi.2.2.2 ho key
  refine ⟨?_, fun i s hs => ?_⟩
  ·rw [foldS_snoc, ih.1]
   show (accC c (apS c rl key) key, all ++ accL c (apS c rl key) key) = _
   rw [hE.1, hE.2.1]
  ·rcases Nat.lt_or_ge i ls.length with hi | hi
   ·rw [List.getElem?_append_left hi] at hs
    rw [List.take_append_of_le_length (Nat.le_of_lt hi)]
    exact ih.2 i s hs
   ·rw [List.getElem?_append_right hi] at hs
    have h0 : i - ls.length = 0 := by have := (List.getElem?_eq_some_iff.1 hs).1; simp at this; omega
    rw [h0] at hs
    obtain rfl : apS c rl key = s := by simpa using hs
    rw [List.take_append_of_le_length (by omega), List.take_of_length_le hi, ih.1]
    exact hE.2.2
theorem jrn_seg {key : List Int} {ls : List (List Int)} {all : List Rs} {c : Chn} (h : Jrn key ls all c) : ∀ s ∈ ls, wholeB s ∧ Bs s := by
 induction h with
 | start v run h =>
  intro s hs
  rw [List.mem_singleton] at hs
  subst hs
  rw [(bg_ok h key).2.1]
  exact ⟨seg_whole zero32 (by decide) (fun r hr => by cases hr), segL_bs _ _ _ (zeroL_bs _) _ _⟩
 | more hj h ho ih =>
  intro s hs
  rcases List.mem_append.1 hs with hs | hs
  ·exact ih s hs
  ·rw [List.mem_singleton] at hs
   subst hs
   obtain ⟨_, _, _, _, _, _, _, g8, _, g10⟩ := ap_id h
   have hi := jrn_inv hj
   rw [(ap_ok h key).2.1]
   exact ⟨seg_whole hi.2.2.1 g8 g10, segL_bs _ _ _ hi.2.2.2 _ _⟩
theorem jrn_pos {key : List Int} {ls : List (List Int)} {all : List Rs} {c : Chn} (h : Jrn key ls all c) : 0 < ls.length := by
 cases h with
 | start => exact Nat.one_pos
 | more => simp
theorem fold_inv {key : List Int} {ls : List (List Int)} (he : ∀ i s, ls[i]? = some s → accE (foldS key (ls.take i)).1 s key = 0) (hs : ∀ s ∈ ls, wholeB s ∧ Bs s) : ∀ i, i ≤ ls.length → 0 ≤ (foldS key (ls.take i)).1.n ∧ (foldS key (ls.take i)).1.n ≤ 1000 ∧ (foldS key (ls.take i)).1.dg.length ≤ 32 ∧ Bs (foldS key (ls.take i)).1.dg ∧ (foldS key (ls.take i)).2.length ≤ 64 * i
 | 0, _ => ⟨Int.le_refl _, (by decide : (0 : Int) ≤ 1000), Nat.zero_le _, Bs.nil, Nat.le_refl _⟩
 | i + 1, hi => by
  have ih := fold_inv he hs i (by omega)
  have h := List.getElem?_eq_getElem (show i < ls.length by omega)
  have h0 := he i _ h
  have hm := hs _ (List.mem_of_getElem? h)
  generalize ls[i]'(by omega) = s at h h0 hm
  rw [fold_take h]
  have h1 := acc_inv h0 ih.1 ih.2.1
  refine ⟨h1.1, h1.2.1, by show (accC _ s key).dg.length ≤ 32; omega, h1.2.2.2, ?_⟩
  show ((foldS key (ls.take i)).2 ++ accL _ s key).length ≤ 64 * (i + 1)
  have h2 := (whole_cnt hm.2 hm.1).2.1
  rw [List.length_append, (acR_ok h0).2.1, rlB_len]
  omega
theorem len_app {s : List Int} (hb : Bs s) (hw : wholeB s) (t : List Int) : lenE (s ++ t) = 0 ∧ lenN (s ++ t) = (s.length : Nat) := by
 obtain ⟨h1, h2, h3⟩ := hw
 have e4 : (s ++ t).take 4 = s.take 4 := List.take_append_of_le_length (by omega)
 have e8 : getN (s ++ t) 8 1 = getN s 8 1 := by
  unfold getN
  rw [List.drop_append_of_le_length (by omega), List.take_append_of_le_length (by rw [List.length_drop]; omega)]
 have hk : headOk (s ++ t) := ⟨e4.trans h2.1, by rw [e8]; exact h2.2⟩
 have := len_ok (l := s ++ t) (by rw [List.length_append]; omega) hk
 refine ⟨this.2, ?_⟩
 rw [this.1, e8]
 exact h3.symm
theorem rcv_segs (key : List Int) : ∀ (ls : List (List Int)) (f : Nat) (c : Chn) (rl : List Rs) (p : Nat) (T : List Int), (∀ s ∈ ls, wholeB s ∧ Bs s) → (∀ i s, ls[i]? = some s → accE ((ls.take i).foldl (stF key) (c, rl)).1 s key = 0) → ls.length ≤ f →
  rcv key f c rl p (ls.flatten ++ T) = rcv key (f - ls.length) (ls.foldl (stF key) (c, rl)).1 (ls.foldl (stF key) (c, rl)).2 (p + ls.flatten.length) T
 | [], f, c, rl, p, T, _, _, _ => rfl
 | s :: ls, f, c, rl, p, T, hs, he, hf => by
  obtain ⟨f', rfl⟩ : ∃ f', f = f' + 1 := ⟨f - 1, by rw [List.length_cons] at hf; omega⟩
  have hm := hs s List.mem_cons_self
  have hl := len_app hm.2 hm.1 (ls.flatten ++ T)
  have h0 : accE c s key = 0 := he 0 s rfl
  rw [List.flatten_cons, List.append_assoc]
  have et : (s ++ (ls.flatten ++ T)).take s.length = s := List.take_left' rfl
  have ed : (s ++ (ls.flatten ++ T)).drop s.length = ls.flatten ++ T := List.drop_left' rfl
  rw [rcv_go hl.1 hl.2 (by rw [List.length_append]; omega) (by rw [et]; exact h0), et, ed]
  have ih := rcv_segs key ls f' (accC c s key) (rl ++ accL c s key) (p + s.length) T (fun x hx => hs x (List.mem_cons_of_mem _ hx)) (fun i x hx => he (i + 1) x hx) (by rw [List.length_cons] at hf; omega)
  rw [ih, List.length_append, List.length_cons, show f' + 1 - (ls.length + 1) = f' - ls.length by omega, Nat.add_assoc]
  rfl
theorem flat_len {ls : List (List Int)} (hs : ∀ s ∈ ls, wholeB s ∧ Bs s) : 41 * ls.length ≤ ls.flatten.length := by
 induction ls with
 | nil => exact Nat.le_refl _
 | cons s ls ih =>
  have h1 := (hs s List.mem_cons_self).1.1
  have h2 := ih fun x hx => hs x (List.mem_cons_of_mem _ hx)
  rw [List.flatten_cons, List.length_append, List.length_cons]
  omega
theorem rcvF_segs {key : List Int} {ls : List (List Int)} (hs : ∀ s ∈ ls, wholeB s ∧ Bs s) (he : ∀ i s, ls[i]? = some s → accE (foldS key (ls.take i)).1 s key = 0) (T : List Int) :
  rcvF (ls.flatten ++ T) key = rcv key ((ls.flatten ++ T).length + 1 - ls.length) (foldS key ls).1 (foldS key ls).2 ls.flatten.length T := by
 have h := flat_len hs
 rw [rcvF, rcv_segs key ls _ Chn.zero [] 0 T hs he (by rw [List.length_append]; omega), Nat.zero_add]
 rfl
theorem rcvF_stop {key : List Int} {ls : List (List Int)} (hs : ∀ s ∈ ls, wholeB s ∧ Bs s) (he : ∀ i s, ls[i]? = some s → accE (foldS key (ls.take i)).1 s key = 0) {T : List Int} (hT : lenE T ≠ 0 ∨ (T.length : Int) < lenN T) :
  rcvF (ls.flatten ++ T) key = ((foldS key ls).1, (foldS key ls).2, ls.flatten.length) := by
 rw [rcvF_segs hs he]
 refine rcv_stop fun h => ?_
 rcases hT with h1 | h1
 ·exact h1 h.1
 ·omega
theorem rcv_ge (key : List Int) : ∀ (f : Nat) (c : Chn) (rl : List Rs) (p : Nat) (b : List Int), p ≤ (rcv key f c rl p b).2.2
 | 0, _, _, _, _ => Nat.le_refl _
 | f + 1, c, rl, p, b => by
  rw [rcv]
  split
  ·exact Nat.le_trans (Nat.le_add_right _ _) (rcv_ge key f _ _ _ _)
  ·exact Nat.le_refl _
theorem rcvF_ge {key : List Int} {ls : List (List Int)} (hs : ∀ s ∈ ls, wholeB s ∧ Bs s) (he : ∀ i s, ls[i]? = some s → accE (foldS key (ls.take i)).1 s key = 0) (T : List Int) : ls.flatten.length ≤ (rcvF (ls.flatten ++ T) key).2.2 := by
 rw [rcvF_segs hs he]
 exact rcv_ge _ _ _ _ _ _
theorem lenE_nil : lenE [] ≠ 0 := by decide
theorem rcvF_jrn {key : List Int} {ls : List (List Int)} {all : List Rs} {c : Chn} (h : Jrn key ls all c) : rcvF ls.flatten key = (c, all, ls.flatten.length) := by
 have hf := jrn_fold h
 have := rcvF_stop (T := []) (jrn_seg h) hf.2 (.inl lenE_nil)
 rw [List.append_nil, hf.1] at this
 exact this
theorem part_stop {s : List Int} (hw : wholeB s) {k : Nat} (hk : k < s.length) : lenE (s.take k) ≠ 0 ∨ ((s.take k).length : Int) < lenN (s.take k) := by
 obtain ⟨h1, h2, h3⟩ := hw
 have hl : (s.take k).length = k := by rw [List.length_take]; omega
 by_cases hk41 : k < 41
 ·left
  rw [(len_short (by omega)).2]
  decide
 ·right
  have e4 : (s.take k).take 4 = s.take 4 := by rw [List.take_take]; congr 1; omega
  have e8 : getN (s.take k) 8 1 = getN s 8 1 := by
   unfold getN
   rw [List.drop_take, List.take_take]
   congr 2
   omega
  have hk2 : headOk (s.take k) := ⟨e4.trans h2.1, by rw [e8]; exact h2.2⟩
  rw [(len_ok (by omega) hk2).1, e8]
  omega
end Go.Proofs.YtmeaeeehnkcblaaDoor

namespace Go.Proofs.YtmeaeeehnkcblaaDoor
open Go.RowKit
set_option maxRecDepth 20000
theorem read_ok (A : Option Addr) (n c : Nat) (l : List Int) (w : World) (hb : Byt w w.heap.size A n l) (hnc : n ≤ c) (hlim : n ≤ 140737488355328) (hwh : wholeB l) (hok : okB l) :
  Calls Tryd.prog 52 #[.slice A n c] w fun e w' => ∃ y : PartY l, e = .returned (.tuple #[.agg #[.int .i64 (pid l), .int .i64 (prun l), .int .i64 (pfirst l), .int .i64 (getN l 8 1), .slice y.1.1.1 32 y.1.1.2, .slice y.1.2.1 (cnt l) y.1.2.2], .int .i64 0]) ∧ Pm w [.row (.slice y.1.1.1 32 y.1.1.2) 5 1 32 (bv (pbef l)), .row (.slice y.1.2.1 (cnt l) y.1.2.2) 27 17 (cnt l) (rcs (rlB l))] w' :=
 (read_any A n c l w hb hnc hlim hwh).mono fun e w' h => by
  rcases h with ⟨_, h⟩ | ⟨h, _⟩
  ·exact h
  ·exact absurd hok h
theorem read_bad (A : Option Addr) (n c : Nat) (l : List Int) (w : World) (hb : Byt w w.heap.size A n l) (hnc : n ≤ c) (hlim : n ≤ 140737488355328) (hwh : wholeB l) (hok : ¬ okB l) :
  Calls Tryd.prog 52 #[.slice A n c] w fun e w' => e = .returned (.tuple #[.agg #[.int .i64 0, .int .i64 0, .int .i64 0, .int .i64 0, .slice none 0 0, .slice none 0 0], .int .i64 2]) ∧ Below w.heap.size w w' :=
 (read_any A n c l w hb hnc hlim hwh).mono fun e w' h => by
  rcases h with ⟨h, _⟩ | ⟨_, h⟩
  ·exact absurd h hok
  ·exact h
theorem jaczv45 (w : World) : (zeroValue 45).run Tryd.prog w = .ok (.agg #[.int .i64 0, .int .i64 0, .int .i64 0, .slice none 0 0]) w := rfl
theorem jacnm24 : (Tryd.f24.name == "runtime.NumGoroutine") = false := by decide
theorem jacbd24 : Tryd.f24.body.isNone = false := rfl
theorem jacbld45_530  (w : World) : (Instr.build 45 #[]).run Tryd.prog w = .ok (.agg #[.int .i64 0, .int .i64 0, .int .i64 0, .slice none 0 0]) w := by kernel_rfl
theorem jacsz45 (w : World) : (sizeOf 45).run Tryd.prog w = .ok 4 w := rfl
theorem jacone_i64i64i64s {a0 : Int} {a1 : Int} {a2 : Int} {a3 : Option Addr} {n3 c3 : Nat} : ∀ u ∈ [(.int .i64 a0 : Value), .int .i64 a1, .int .i64 a2, .slice a3 n3 c3], u.oneCell' = true := by
 intro u hu
 simp only [List.mem_cons, List.not_mem_nil, or_false] at hu
 rcases hu with rfl | rfl | rfl | rfl <;> rfl
theorem jacnm52 : (Tryd.f52.name == "runtime.NumGoroutine") = false := by decide
theorem jacbd52 : Tryd.f52.body.isNone = false := rfl
theorem jaczv86 (w : World) : (zeroValue 86).run Tryd.prog w = .ok (.agg #[.int .i64 0, .int .i64 0, .int .i64 0, .int .i64 0, .slice none 0 0, .slice none 0 0]) w := rfl
theorem jacsz86 (w : World) : (sizeOf 86).run Tryd.prog w = .ok 6 w := rfl
theorem jacone_i64i64i64i64ss {a0 : Int} {a1 : Int} {a2 : Int} {a3 : Int} {a4 : Option Addr} {n4 c4 : Nat} {a5 : Option Addr} {n5 c5 : Nat} : ∀ u ∈ [(.int .i64 a0 : Value), .int .i64 a1, .int .i64 a2, .int .i64 a3, .slice a4 n4 c4, .slice a5 n5 c5], u.oneCell' = true := by
 intro u hu
 simp only [List.mem_cons, List.not_mem_nil, or_false] at hu
 rcases hu with rfl | rfl | rfl | rfl | rfl | rfl <;> rfl
theorem jacnm30 : (Tryd.f30.name == "runtime.NumGoroutine") = false := by decide
theorem jacbd30 : Tryd.f30.body.isNone = false := rfl
theorem jacnm28 : (Tryd.f28.name == "runtime.NumGoroutine") = false := by decide
theorem jacbd28 : Tryd.f28.body.isNone = false := rfl
theorem jacag45 (w : World) : (isAgg 45).run Tryd.prog w = .ok true w := rfl
theorem jacag86 (w : World) : (isAgg 86).run Tryd.prog w = .ok true w := rfl
theorem jacnm53 : (Tryd.f53.name == "runtime.NumGoroutine") = false := by decide
theorem jacbd53 : Tryd.f53.body.isNone = false := rfl
theorem jacfld86_0 (g o : Nat) (w : World) : (Instr.fieldAt 86 (.pointer (some ⟨g, o, none⟩)) 0).run Tryd.prog w = .ok (.pointer (some ⟨g, o + 0, none⟩)) w := by kernel_rfl
theorem jacag3 (w : World) : (isAgg 3).run Tryd.prog w = .ok false w := rfl
theorem jacfld86_1 (g o : Nat) (w : World) : (Instr.fieldAt 86 (.pointer (some ⟨g, o, none⟩)) 1).run Tryd.prog w = .ok (.pointer (some ⟨g, o + 1, none⟩)) w := by kernel_rfl
theorem jacfld45_2 (g o : Nat) (w : World) : (Instr.fieldAt 45 (.pointer (some ⟨g, o, none⟩)) 2).run Tryd.prog w = .ok (.pointer (some ⟨g, o + 2, none⟩)) w := by kernel_rfl
theorem jacfld86_3 (g o : Nat) (w : World) : (Instr.fieldAt 86 (.pointer (some ⟨g, o, none⟩)) 3).run Tryd.prog w = .ok (.pointer (some ⟨g, o + 3, none⟩)) w := by kernel_rfl
theorem jacfld86_5 (g o : Nat) (w : World) : (Instr.fieldAt 86 (.pointer (some ⟨g, o, none⟩)) 5).run Tryd.prog w = .ok (.pointer (some ⟨g, o + 5, none⟩)) w := by kernel_rfl
theorem jacag33 (w : World) : (isAgg 33).run Tryd.prog w = .ok false w := rfl
theorem jacnm54 : (Tryd.f54.name == "runtime.NumGoroutine") = false := by decide
theorem jacbd54 : Tryd.f54.body.isNone = false := rfl
theorem jacbld45_39861 (a0_0 : Int) (a1_0 : Int) (a2_0 : Int) (a3_0 : Option Addr) (a3_0n a3_0c : Nat) (w : World) : (Instr.build 45 #[(0, .int .i64 a0_0), (1, .int .i64 a1_0), (2, .int .i64 a2_0), (3, .slice a3_0 a3_0n a3_0c)]).run Tryd.prog w = .ok (.agg #[.int .i64 a0_0, .int .i64 a1_0, .int .i64 a2_0, .slice a3_0 a3_0n a3_0c]) w := by kernel_rfl
set_option maxHeartbeats 2000000 in
theorem accept_any (A0 : Option Addr) (n0 c0 : Nat) (ch : Chn) (A1 : Option Addr) (n1 c1 : Nat) (l : List Int) (A2 : Option Addr) (n2 c2 : Nat) (key : List Int) (w : World) (hb0 : Byt w w.heap.size A0 n0 ch.dg) (hb1 : Byt w w.heap.size A1 n1 l) (hb2 : Byt w w.heap.size A2 n2 key) (hnc : n1 ≤ c1) (hn1l : n1 ≤ 1000000000) (hn2l : n2 ≤ 1000000000) (hn0 : -1000000 ≤ ch.n) (hn1 : ch.n ≤ 1000000) {ts tk : TypeId} (hst : Blk w 0 ts start8.cells) (hky : Blk w 1 tk (arrOf keysL)) :
  Calls Tryd.prog 22 #[.agg #[.int .i64 ch.v, .int .i64 ch.run, .int .i64 ch.n, .slice A0 n0 c0], .slice A1 n1 c1, .slice A2 n2 c2] w fun e w' => AccR (accC ch l key) (accL ch l key) (accE ch l key) w e w' := by
 obtain rfl : n1 = l.length := hb1.len.symm
 refine begin_ (vs := [.agg #[.int .i64 ch.v, .int .i64 ch.run, .int .i64 ch.n, .slice A0 n0 c0], .slice A1 l.length c1, .slice A2 n2 c2]) Tryd.func22 rfl rfl rfl ?_ (Pm.start w)
 refine TC.seq_ (TC.region ?_)
 refine TL.pnew rfl rfl rfl (exec_box (cs := [.int .i64 ch.v, .int .i64 ch.run, .int .i64 ch.n, .slice A0 n0 c0]) rfl rfl rfl) (fun g3 => ?_)
 refine TL.pnew rfl rfl rfl (exec_alloc (cs := [.int .i64 0, .int .i64 0, .int .i64 0, .slice none 0 0]) rfl jaczv45 rfl) (fun g6 => ?_)
 refine TL.as_ ?_
 refine TL.as_ ?_
 refine TL.end_ (TX.then_ (TC.seq_ (TC.region ?_)))
 refine TL.mv ?_
 refine TL.pcall1 (r := .tuple #[.int .i64 (lenN l), .int .i64 (lenE l)]) rfl rfl rfl rfl rfl Tryd.func24 jacnm24 jacbd24 (fun w1 hw => length_any A1 _ c1 l w1 ((hb1.below hw.bel).more hw.bel.size) hnc) ?_
 iterate 5 (first | refine TL.as_ ?_ | refine TL.ex ?_ | refine TL.mv ?_)
 refine TL.end_ (TX.then_ (TC.seq_ (TC.block (TC.seq_ (TC.region ?_)))))
 refine TL.mv ?_
 refine TL.vsplit rfl rfl rfl (gives_bin rfl rfl rfl (fun w => bin_neq w)) (fun h19 => ?_) (fun h19 => ?_)
 ·have q19 := of_decide_eq_true h19
  have hE := acR_bad (c := ch) (key := key) (acc_len q19) q19
  refine TL.as_ ?_
  refine TL.end_ (TX.then_ (TC.condT rfl (TC.seq_ (TC.region ?_))))
  refine TL.val rfl rfl rfl (gives_build (v := .agg #[.int .i64 0, .int .i64 0, .int .i64 0, .slice none 0 0]) rfl rfl (fun w => jacbld45_530  w)) ?_
  refine TL.mv ?_
  refine TL.pstore (k := 0) (vs := [.int .i64 0, .int .i64 0, .int .i64 0, .slice none 0 0]) rfl rfl rfl rfl rfl rfl rfl jacsz45 jacone_i64i64i64s (by show 4 ≤ 4; decide) (L' := [.blk g6 45 [.int .i64 0, .int .i64 0, .int .i64 0, .slice none 0 0], .blk g3 45 [.int .i64 ch.v, .int .i64 ch.run, .int .i64 ch.n, .slice A0 n0 c0]]) rfl ?_
  refine TL.as_ ?_
  refine TL.as_ ?_
  refine TL.end_ (TX.then_ (TC.ret_ (TX.in_ret (TX.then_ret ?_))))
  exact ret_cell3 (k := 0) (v := .slice none 0 0) (v2 := .int .i64 (lenE l)) Tryd.results22 rfl rfl rfl rfl Tryd.underlying45 rfl rfl (fun w1 hw => by rw [hE.1, hE.2.1, hE.2.2]; exact AccR.none_ hw)
 ·have q19 := of_decide_eq_false h19
  have h0 : lenE l = 0 := Decidable.not_not.1 q19
  refine TL.as_ ?_
  refine TL.end_ (TX.then_ (TC.condF rfl (TC.seq_ (TC.region ?_))))
  refine TL.mv ?_
  refine TL.val rfl rfl rfl (gives_len rfl Tryd.underlying28 rfl) ?_
  refine TL.mv ?_
  refine TL.vsplit rfl rfl rfl (gives_bin rfl rfl rfl (fun w => bin_lss w)) (fun h26 => ?_) (fun h26 => ?_)
  ·have q26 := of_decide_eq_true h26
   have hE := acR_bad (c := ch) (key := key) (acc_short h0 (by omega)) (by decide)
   refine TL.as_ ?_
   refine TL.end_ (TX.then_ (TC.condT rfl (TC.seq_ (TC.region ?_))))
   refine TL.val rfl rfl rfl (gives_build (v := .agg #[.int .i64 0, .int .i64 0, .int .i64 0, .slice none 0 0]) rfl rfl (fun w => jacbld45_530  w)) ?_
   refine TL.pstore (k := 0) (vs := [.int .i64 0, .int .i64 0, .int .i64 0, .slice none 0 0]) rfl rfl rfl rfl rfl rfl rfl jacsz45 jacone_i64i64i64s (by show 4 ≤ 4; decide) (L' := [.blk g6 45 [.int .i64 0, .int .i64 0, .int .i64 0, .slice none 0 0], .blk g3 45 [.int .i64 ch.v, .int .i64 ch.run, .int .i64 ch.n, .slice A0 n0 c0]]) rfl ?_
   refine TL.as_ ?_
   refine TL.as_ ?_
   refine TL.end_ (TX.then_ (TC.ret_ (TX.in_ret (TX.then_ret ?_))))
   exact ret_cell3 (k := 0) (v := .slice none 0 0) (v2 := .int .i64 3) Tryd.results22 rfl rfl rfl rfl Tryd.underlying45 rfl rfl (fun w1 hw => by rw [hE.1, hE.2.1, hE.2.2]; exact AccR.none_ hw)
  ·have q26 := of_decide_eq_false h26
   have h1 : ¬ (l.length : Int) < lenN l := by omega
   refine TL.as_ ?_
   refine TL.end_ (TX.then_ (TC.condF rfl (TC.seq_ (TC.region ?_))))
   refine TL.mv ?_
   refine TL.val rfl rfl rfl (gives_len rfl Tryd.underlying28 rfl) ?_
   refine TL.mv ?_
   refine TL.vsplit rfl rfl rfl (gives_bin rfl rfl rfl (fun w => bin_gtr w)) (fun h32 => ?_) (fun h32 => ?_)
   ·have q32 := of_decide_eq_true h32
    have hE := acR_bad (c := ch) (key := key) (acc_long h0 h1 (by omega)) (by decide)
    refine TL.as_ ?_
    refine TL.end_ (TX.then_ (TC.condT rfl (TC.seq_ (TC.region ?_))))
    refine TL.val rfl rfl rfl (gives_build (v := .agg #[.int .i64 0, .int .i64 0, .int .i64 0, .slice none 0 0]) rfl rfl (fun w => jacbld45_530  w)) ?_
    refine TL.pstore (k := 0) (vs := [.int .i64 0, .int .i64 0, .int .i64 0, .slice none 0 0]) rfl rfl rfl rfl rfl rfl rfl jacsz45 jacone_i64i64i64s (by show 4 ≤ 4; decide) (L' := [.blk g6 45 [.int .i64 0, .int .i64 0, .int .i64 0, .slice none 0 0], .blk g3 45 [.int .i64 ch.v, .int .i64 ch.run, .int .i64 ch.n, .slice A0 n0 c0]]) rfl ?_
    refine TL.as_ ?_
    refine TL.as_ ?_
    refine TL.end_ (TX.then_ (TC.ret_ (TX.in_ret (TX.then_ret ?_))))
    exact ret_cell3 (k := 0) (v := .slice none 0 0) (v2 := .int .i64 2) Tryd.results22 rfl rfl rfl rfl Tryd.underlying45 rfl rfl (fun w1 hw => by rw [hE.1, hE.2.1, hE.2.2]; exact AccR.none_ hw)
   ·have q32 := of_decide_eq_false h32
    have h2 : ¬ (l.length : Int) > lenN l := by omega
    have hwh := whole_of h0 h1 h2
    obtain ⟨hc1, hc2, hc3, hc4, hc5⟩ := whole_cnt hb1.2 hwh
    obtain ⟨m, hm⟩ : ∃ m, l.length = m + 32 := ⟨41 + 37 * cnt l, by omega⟩
    have hm2 : l.length - 32 = m := by omega
    refine TL.as_ ?_
    refine TL.end_ (TX.then_ (TC.condF rfl (TC.skip_ (TX.in_normal (TX.then_ (TC.seq_ ?_))))))
    by_cases hok : okB l
    ·refine TC.region ?_
     refine TL.mv ?_
     refine TL.pcallPm (α := PartY l) (fun y => .tuple #[.agg #[.int .i64 (pid l), .int .i64 (prun l), .int .i64 (pfirst l), .int .i64 (getN l 8 1), .slice y.1.1.1 32 y.1.1.2, .slice y.1.2.1 (cnt l) y.1.2.2], .int .i64 0]) (fun y => [.row (.slice y.1.1.1 32 y.1.1.2) 5 1 32 (bv (pbef l)), .row (.slice y.1.2.1 (cnt l) y.1.2.2) 27 17 (cnt l) (rcs (rlB l))]) rfl rfl rfl rfl rfl Tryd.func52 jacnm52 jacbd52 (fun w1 hw => read_ok A1 _ c1 l w1 ((hb1.below hw.bel).more hw.bel.size) hnc (by omega) hwh hok) ?_
     rintro ⟨⟨⟨AP, cP⟩, ⟨AR, cR⟩⟩, ⟨hAP1, hAP2⟩, ⟨hAR1, hAR2⟩⟩
     dsimp only [List.cons_append, List.nil_append]
     dsimp only at hAP1 hAP2 hAR1 hAR2
     refine TL.mv ?_
     refine TL.ex ?_
     refine TL.ex ?_
     refine TL.pnew rfl rfl rfl (exec_alloc (cs := [.int .i64 0, .int .i64 0, .int .i64 0, .int .i64 0, .slice none 0 0, .slice none 0 0]) rfl jaczv86 rfl) (fun g11 => ?_)
     refine TL.pstore (k := 0) (vs := [.int .i64 (pid l), .int .i64 (prun l), .int .i64 (pfirst l), .int .i64 (getN l 8 1), .slice AP 32 cP, .slice AR (cnt l) cR]) rfl rfl rfl rfl rfl rfl rfl jacsz86 jacone_i64i64i64i64ss (by show 6 ≤ 6; decide) (L' := [.blk g11 86 [.int .i64 (pid l), .int .i64 (prun l), .int .i64 (pfirst l), .int .i64 (getN l 8 1), .slice AP 32 cP, .slice AR (cnt l) cR], .row (.slice AP 32 cP) 5 1 32 (bv (pbef l)), .row (.slice AR (cnt l) cR) 27 17 (cnt l) (rcs (rlB l)), .blk g6 45 [.int .i64 0, .int .i64 0, .int .i64 0, .slice none 0 0], .blk g3 45 [.int .i64 ch.v, .int .i64 ch.run, .int .i64 ch.n, .slice A0 n0 c0]]) rfl ?_
     refine TL.as_ ?_
     refine TL.end_ (TX.then_ (TC.seq_ (TC.seq_ (TC.region ?_))))
     refine TL.mv ?_
     refine TL.val rfl rfl rfl (gives_bin rfl rfl rfl (fun w => bin_neq_f (by decide) w)) ?_
     refine TL.end_ (TX.then_ (TC.condF rfl (TC.skip_ (TX.then_ (TC.seq_ (TC.seq_ ?_))))))
     by_cases hs : sigB l key
     ·have hs2 : l.drop m = macF key (l.take m) := hm2 ▸ hs
      refine TC.held (ls := #[Ff,Ff,Ff,Ff,Ff,Ff,Ff,Ff,Ff,Ff,Ff,Ff]) (Pm w []) (by kernel_rfl) rfl rfl (fun w hw => hw.drawn _) ?_
      refine TH.tk (listed' := #[Tt,Ff,Ff,Ff,Ff,Ff,Ff,Ff,Ff,Ff,Ff,Ff]) 0 rfl rfl rfl (gives_move rfl rfl) (fun w1 hw => hw.pick [] (by decide) rfl) ?_
      refine TH.tk (listed' := #[Tt,Tt,Ff,Ff,Ff,Ff,Ff,Ff,Ff,Ff,Ff,Ff]) 1 rfl rfl rfl (gives_move rfl rfl) (fun w1 hw => hw.pick [] (by decide) rfl) ?_
      refine TH.tk (listed' := #[Tt,Tt,Tt,Ff,Ff,Ff,Ff,Ff,Ff,Ff,Ff,Ff]) 2 rfl rfl rfl (gives_bin rfl rfl rfl (fun w => bin_sub_ (r := ((m : Nat) : Int)) (by simp only [IntKind.wrap_i64]; omega) w)) (fun w1 hw => hw.pick [] (by decide) rfl) ?_
      refine TH.tk (listed' := #[Tt,Tt,Tt,Tt,Ff,Ff,Ff,Ff,Ff,Ff,Ff,Ff]) 3 rfl rfl rfl (gives_sliceL (v := .slice (if c1 = m then A1 else A1.map (·.add m)) (l.length - m) (c1 - m)) rfl rfl rfl (fun w => cut_lo1 Tryd.underlying28 (fun w => rfl) A1 l.length c1 m rfl (by omega) w)) (fun w1 hw => hw.pick [] (by decide) rfl) ?_
      refine TH.tk (listed' := #[Tt,Tt,Tt,Tt,Tt,Ff,Ff,Ff,Ff,Ff,Ff,Ff]) 4 rfl rfl rfl (gives_move rfl rfl) (fun w1 hw => hw.pick [] (by decide) rfl) ?_
      refine TH.tk (listed' := #[Tt,Tt,Tt,Tt,Tt,Tt,Ff,Ff,Ff,Ff,Ff,Ff]) 5 rfl rfl rfl (gives_move rfl rfl) (fun w1 hw => hw.pick [] (by decide) rfl) ?_
      refine TH.tk (listed' := #[Tt,Tt,Tt,Tt,Tt,Tt,Tt,Ff,Ff,Ff,Ff,Ff]) 6 rfl rfl rfl (gives_move rfl rfl) (fun w1 hw => hw.pick [] (by decide) rfl) ?_
      refine TH.tk (listed' := #[Tt,Tt,Tt,Tt,Tt,Tt,Tt,Tt,Ff,Ff,Ff,Ff]) 7 rfl rfl rfl (gives_bin rfl rfl rfl (fun w => bin_sub_ (r := ((m : Nat) : Int)) (by simp only [IntKind.wrap_i64]; omega) w)) (fun w1 hw => hw.pick [] (by decide) rfl) ?_
      refine TH.tk (listed' := #[Tt,Tt,Tt,Tt,Tt,Tt,Tt,Tt,Tt,Ff,Ff,Ff]) 8 rfl rfl rfl (gives_sliceH (v := .slice A1 m c1) rfl rfl rfl (fun w => cut_hi Tryd.underlying28 (fun w => rfl) A1 l.length c1 m rfl (by omega) w)) (fun w1 hw => hw.pick [] (by decide) rfl) ?_
      refine TH.only' (listed' := #[Tt,Tt,Tt,Tt,Tt,Tt,Tt,Tt,Tt,Tt,Ff,Ff]) 9 rfl (by kernel_rfl) rfl ?_
      refine TL.pcallRow (n := 32) (ys := bv (macF key (l.take m))) rfl rfl rfl rfl rfl Tryd.func30 jacnm30 jacbd30 (fun w1 hw => mac_any _ _ _ key _ _ _ (l.take m) w1 ((hb2.below hw.bel).more hw.bel.size) (((hb1.below hw.bel).more hw.bel.size).head (by omega)) (by omega) (by omega) (hst.below hw.bel hst.lt) (hky.below hw.bel hky.lt)) (fun A51 c51 hA511 hA512 => ?_)
      refine TL.end_ ?_
      refine TX.held (fun w1 hw => hw.pick [] (by decide) rfl) ?_
      refine TH.only' (listed' := #[Tt,Tt,Tt,Tt,Tt,Tt,Tt,Tt,Tt,Tt,Tt,Ff]) 10 rfl (by kernel_rfl) rfl ?_
      refine TL.pcall1 (r := .bool true) rfl rfl rfl rfl rfl Tryd.func28 jacnm28 jacbd28 (fun w1 hw => retb_lit (decide_eq_true hs2) (wequal _ _ _ _ _ _ (l.drop m) (macF key (l.take m)) w1 (((hb1.below hw.bel).more hw.bel.size).cut (by omega) hnc) (byt_own (hw.at_ (k := 0) rfl) (macF_bs _ _)))) ?_
      refine TL.end_ ?_
      refine TX.held (fun w1 hw => hw.pick [] (by decide) rfl) ?_
      refine TH.tk (listed' := #[Tt,Tt,Tt,Tt,Tt,Tt,Tt,Tt,Tt,Tt,Tt,Tt]) 11 rfl rfl rfl (gives_boolnot rfl rfl) (fun w1 hw => hw.pick [] (by decide) rfl) ?_
      refine TH.done (by kernel_rfl) ?_
      refine TX.then_ (TC.condF rfl (TC.skip_ (TX.then_ (TC.seq_ (TC.seq_ (TC.region ?_))))))
      refine TL.val rfl rfl rfl (pm_loadV (k := 5) (i := 0) (n := 4) (v := .agg #[.int .i64 ch.v, .int .i64 ch.run, .int .i64 ch.n, .slice A0 n0 c0]) rfl rfl jacag45 jacsz45 rfl (by show 4 ≤ 4; decide) rfl) ?_
      refine TL.val rfl rfl rfl (pm_loadV (k := 1) (i := 0) (n := 6) (v := .agg #[.int .i64 (pid l), .int .i64 (prun l), .int .i64 (pfirst l), .int .i64 (getN l 8 1), .slice AP 32 cP, .slice AR (cnt l) cR]) rfl rfl jacag86 jacsz86 rfl (by show 6 ≤ 6; decide) rfl) ?_
      refine TL.callsplit rfl rfl rfl rfl rfl Tryd.func53 jacnm53 jacbd53 (fun w1 hw => linked_any A0 n0 c0 ch AP cP AR cR l w1 ((hb0.below hw.bel).more hw.bel.size) (byt_own (hw.at_ (k := 2) rfl) ((hb1.2.drop _).take _)) (Reads.of_own (hw.at_ (k := 3) rfl)) hc1 hc2 hn0 hn1) (fun h57 => ?_) (fun h57 => ?_)
      ·have hE := acR_ok (c := ch) (key := key) (acc_ok h0 h1 h2 hok hs (of_decide_eq_true h57))
       refine TL.val rfl rfl rfl (gives_boolnot rfl rfl) ?_
       refine TL.end_ (TX.then_ (TC.condF rfl (TC.skip_ (TX.then_ (TC.seq_ ?_)))))
       refine TC.held (ls := #[Ff,Ff,Ff,Ff,Ff,Ff,Ff,Ff,Ff,Ff,Ff,Ff,Ff,Ff,Ff,Ff,Ff]) (Pm w [.blk g11 86 [.int .i64 (pid l), .int .i64 (prun l), .int .i64 (pfirst l), .int .i64 (getN l 8 1), .slice AP 32 cP, .slice AR (cnt l) cR], .blk g3 45 [.int .i64 ch.v, .int .i64 ch.run, .int .i64 ch.n, .slice A0 n0 c0]]) (by kernel_rfl) rfl rfl (fun w hw => hw.drawn _) ?_
       refine TH.tk (listed' := #[Tt,Ff,Ff,Ff,Ff,Ff,Ff,Ff,Ff,Ff,Ff,Ff,Ff,Ff,Ff,Ff,Ff]) 0 rfl rfl rfl (gives_field (v := .pointer (some ⟨g11, 0, none⟩)) rfl rfl (fun w => jacfld86_0 _ _ w)) (fun w1 hw => hw.pick [1, 5] (by decide) rfl) ?_
       refine TH.tk (listed' := #[Tt,Tt,Ff,Ff,Ff,Ff,Ff,Ff,Ff,Ff,Ff,Ff,Ff,Ff,Ff,Ff,Ff]) 1 rfl rfl rfl (pm_load (k := 0) (i := 0) rfl rfl jacag3 rfl rfl) (fun w1 hw => hw.pick [1, 5] (by decide) rfl) ?_
       refine TH.tk (listed' := #[Tt,Tt,Tt,Ff,Ff,Ff,Ff,Ff,Ff,Ff,Ff,Ff,Ff,Ff,Ff,Ff,Ff]) 2 rfl rfl rfl (gives_field (v := .pointer (some ⟨g11, 1, none⟩)) rfl rfl (fun w => jacfld86_1 _ _ w)) (fun w1 hw => hw.pick [1, 5] (by decide) rfl) ?_
       refine TH.tk (listed' := #[Tt,Tt,Tt,Tt,Ff,Ff,Ff,Ff,Ff,Ff,Ff,Ff,Ff,Ff,Ff,Ff,Ff]) 3 rfl rfl rfl (pm_load (k := 0) (i := 1) rfl rfl jacag3 rfl rfl) (fun w1 hw => hw.pick [1, 5] (by decide) rfl) ?_
       refine TH.tk (listed' := #[Tt,Tt,Tt,Tt,Tt,Ff,Ff,Ff,Ff,Ff,Ff,Ff,Ff,Ff,Ff,Ff,Ff]) 4 rfl rfl rfl (gives_field (v := .pointer (some ⟨g3, 2, none⟩)) rfl rfl (fun w => jacfld45_2 _ _ w)) (fun w1 hw => hw.pick [1, 5] (by decide) rfl) ?_
       refine TH.tk (listed' := #[Tt,Tt,Tt,Tt,Tt,Tt,Ff,Ff,Ff,Ff,Ff,Ff,Ff,Ff,Ff,Ff,Ff]) 5 rfl rfl rfl (pm_load (k := 1) (i := 2) rfl rfl jacag3 rfl rfl) (fun w1 hw => hw.pick [1, 5] (by decide) rfl) ?_
       refine TH.tk (listed' := #[Tt,Tt,Tt,Tt,Tt,Tt,Tt,Ff,Ff,Ff,Ff,Ff,Ff,Ff,Ff,Ff,Ff]) 6 rfl rfl rfl (gives_field (v := .pointer (some ⟨g11, 3, none⟩)) rfl rfl (fun w => jacfld86_3 _ _ w)) (fun w1 hw => hw.pick [1, 5] (by decide) rfl) ?_
       refine TH.tk (listed' := #[Tt,Tt,Tt,Tt,Tt,Tt,Tt,Tt,Ff,Ff,Ff,Ff,Ff,Ff,Ff,Ff,Ff]) 7 rfl rfl rfl (pm_load (k := 0) (i := 3) rfl rfl jacag3 rfl rfl) (fun w1 hw => hw.pick [1, 5] (by decide) rfl) ?_
       refine TH.tk (listed' := #[Tt,Tt,Tt,Tt,Tt,Tt,Tt,Tt,Tt,Ff,Ff,Ff,Ff,Ff,Ff,Ff,Ff]) 8 rfl rfl rfl (gives_bin rfl rfl rfl (fun w => bin_add_ (r := ch.n + (cnt l : Nat)) (by simp only [IntKind.wrap_i64]; omega) w)) (fun w1 hw => hw.pick [1, 5] (by decide) rfl) ?_
       refine TH.tk (listed' := #[Tt,Tt,Tt,Tt,Tt,Tt,Tt,Tt,Tt,Tt,Ff,Ff,Ff,Ff,Ff,Ff,Ff]) 9 rfl rfl rfl (gives_move rfl rfl) (fun w1 hw => hw.pick [1, 5] (by decide) rfl) ?_
       refine TH.tk (listed' := #[Tt,Tt,Tt,Tt,Tt,Tt,Tt,Tt,Tt,Tt,Ff,Ff,Tt,Ff,Ff,Ff,Ff]) 12 rfl rfl rfl (gives_field (v := .pointer (some ⟨g11, 5, none⟩)) rfl rfl (fun w => jacfld86_5 _ _ w)) (fun w1 hw => hw.pick [1, 5] (by decide) rfl) ?_
       refine TH.tk (listed' := #[Tt,Tt,Tt,Tt,Tt,Tt,Tt,Tt,Tt,Tt,Ff,Ff,Tt,Tt,Ff,Ff,Ff]) 13 rfl rfl rfl (pm_load (k := 0) (i := 5) rfl rfl jacag33 rfl rfl) (fun w1 hw => hw.pick [1, 5] (by decide) rfl) ?_
       refine TH.only' (listed' := #[Tt,Tt,Tt,Tt,Tt,Tt,Tt,Tt,Tt,Tt,Tt,Ff,Tt,Tt,Ff,Ff,Ff]) 10 rfl (by kernel_rfl) rfl ?_
       refine TL.pcallRow (n := 32) (ys := bv (shaF l)) rfl rfl rfl rfl rfl Tryd.func54 jacnm54 jacbd54 (fun w1 hw => sum_any _ _ _ l w1 ((hb1.below hw.bel).more hw.bel.size) (by omega) (hst.below hw.bel hst.lt) (hky.below hw.bel hky.lt)) (fun A70 c70 hA701 hA702 => ?_)
       refine TL.end_ ?_
       refine TX.held (fun w1 hw => hw.pick [2, 6] (by decide) rfl) ?_
       refine TH.tk (listed' := #[Tt,Tt,Tt,Tt,Tt,Tt,Tt,Tt,Tt,Tt,Tt,Tt,Tt,Tt,Ff,Ff,Ff]) 11 rfl rfl rfl (gives_build (v := .agg #[.int .i64 (pid l), .int .i64 (prun l), .int .i64 (ch.n + (cnt l : Nat)), .slice A70 32 c70]) rfl rfl (fun w => jacbld45_39861 _ _ _ _ _ _ w)) (fun w1 hw => hw.pick [2, 6] (by decide) rfl) ?_
       refine TH.only' (listed' := #[Tt,Tt,Tt,Tt,Tt,Tt,Tt,Tt,Tt,Tt,Tt,Tt,Tt,Tt,Tt,Ff,Ff]) 14 rfl (by kernel_rfl) rfl ?_
       refine TL.pstore (k := 5) (vs := [.int .i64 (pid l), .int .i64 (prun l), .int .i64 (ch.n + (cnt l : Nat)), .slice A70 32 c70]) rfl rfl rfl rfl rfl rfl rfl jacsz45 jacone_i64i64i64s (by show 4 ≤ 4; decide) (L' := [.row (.slice A70 32 c70) 5 1 32 (bv (shaF l)), .row (.slice A51 32 c51) 5 1 32 (bv (macF key (l.take m))), .blk g11 86 [.int .i64 (pid l), .int .i64 (prun l), .int .i64 (pfirst l), .int .i64 (getN l 8 1), .slice AP 32 cP, .slice AR (cnt l) cR], .row (.slice AP 32 cP) 5 1 32 (bv (pbef l)), .row (.slice AR (cnt l) cR) 27 17 (cnt l) (rcs (rlB l)), .blk g6 45 [.int .i64 (pid l), .int .i64 (prun l), .int .i64 (ch.n + (cnt l : Nat)), .slice A70 32 c70], .blk g3 45 [.int .i64 ch.v, .int .i64 ch.run, .int .i64 ch.n, .slice A0 n0 c0]]) rfl ?_
       refine TL.end_ ?_
       refine TX.held (fun w1 hw => hw.pick [2, 6] (by decide) rfl) ?_
       refine TH.tk (listed' := #[Tt,Tt,Tt,Tt,Tt,Tt,Tt,Tt,Tt,Tt,Tt,Tt,Tt,Tt,Tt,Tt,Ff]) 15 rfl rfl rfl (gives_assign rfl rfl) (fun w1 hw => hw.pick [2, 6] (by decide) rfl) ?_
       refine TH.tk (listed' := #[Tt,Tt,Tt,Tt,Tt,Tt,Tt,Tt,Tt,Tt,Tt,Tt,Tt,Tt,Tt,Tt,Tt]) 16 rfl rfl rfl (gives_assign rfl rfl) (fun w1 hw => hw.pick [2, 6] (by decide) rfl) ?_
       refine TH.done (by kernel_rfl) ?_
       refine TX.then_ (TC.ret_ ?_)
       exact ret_cell3 (k := 5) (v := .slice AR (cnt l) cR) (v2 := .int .i64 0) Tryd.results22 rfl rfl rfl rfl Tryd.underlying45 rfl rfl (fun w1 hw => by rw [hE.1, hE.2.1, hE.2.2]; exact ⟨AR, cR, A70, c70, _, _, rlB_len l, shaF_len _, hAR1, hAR2, hA701, hA702, rfl, hw.pick [4, 0] (by decide) rfl⟩)
      ·have hE := acR_bad (c := ch) (key := key) (acc_chain h0 h1 h2 hok hs (of_decide_eq_false h57)) (by decide)
       refine TL.val rfl rfl rfl (gives_boolnot rfl rfl) ?_
       refine TL.end_ (TX.then_ (TC.condT rfl (TC.seq_ (TC.region ?_))))
       refine TL.val rfl rfl rfl (gives_build (v := .agg #[.int .i64 0, .int .i64 0, .int .i64 0, .slice none 0 0]) rfl rfl (fun w => jacbld45_530  w)) ?_
       refine TL.pstore (k := 4) (vs := [.int .i64 0, .int .i64 0, .int .i64 0, .slice none 0 0]) rfl rfl rfl rfl rfl rfl rfl jacsz45 jacone_i64i64i64s (by show 4 ≤ 4; decide) (L' := [.row (.slice A51 32 c51) 5 1 32 (bv (macF key (l.take m))), .blk g11 86 [.int .i64 (pid l), .int .i64 (prun l), .int .i64 (pfirst l), .int .i64 (getN l 8 1), .slice AP 32 cP, .slice AR (cnt l) cR], .row (.slice AP 32 cP) 5 1 32 (bv (pbef l)), .row (.slice AR (cnt l) cR) 27 17 (cnt l) (rcs (rlB l)), .blk g6 45 [.int .i64 0, .int .i64 0, .int .i64 0, .slice none 0 0], .blk g3 45 [.int .i64 ch.v, .int .i64 ch.run, .int .i64 ch.n, .slice A0 n0 c0]]) rfl ?_
       refine TL.as_ ?_
       refine TL.as_ ?_
       refine TL.end_ (TX.then_ (TC.ret_ (TX.then_ret ?_)))
       exact ret_cell3 (k := 4) (v := .slice none 0 0) (v2 := .int .i64 18) Tryd.results22 rfl rfl rfl rfl Tryd.underlying45 rfl rfl (fun w1 hw => by rw [hE.1, hE.2.1, hE.2.2]; exact AccR.none_ hw)
     ·have hs2 : ¬ l.drop m = macF key (l.take m) := hm2 ▸ hs
      have hE := acR_bad (c := ch) (key := key) (acc_sig h0 h1 h2 hok hs) (by decide)
      refine TC.held (ls := #[Ff,Ff,Ff,Ff,Ff,Ff,Ff,Ff,Ff,Ff,Ff,Ff]) (Pm w []) (by kernel_rfl) rfl rfl (fun w hw => hw.drawn _) ?_
      refine TH.tk (listed' := #[Tt,Ff,Ff,Ff,Ff,Ff,Ff,Ff,Ff,Ff,Ff,Ff]) 0 rfl rfl rfl (gives_move rfl rfl) (fun w1 hw => hw.pick [] (by decide) rfl) ?_
      refine TH.tk (listed' := #[Tt,Tt,Ff,Ff,Ff,Ff,Ff,Ff,Ff,Ff,Ff,Ff]) 1 rfl rfl rfl (gives_move rfl rfl) (fun w1 hw => hw.pick [] (by decide) rfl) ?_
      refine TH.tk (listed' := #[Tt,Tt,Tt,Ff,Ff,Ff,Ff,Ff,Ff,Ff,Ff,Ff]) 2 rfl rfl rfl (gives_bin rfl rfl rfl (fun w => bin_sub_ (r := ((m : Nat) : Int)) (by simp only [IntKind.wrap_i64]; omega) w)) (fun w1 hw => hw.pick [] (by decide) rfl) ?_
      refine TH.tk (listed' := #[Tt,Tt,Tt,Tt,Ff,Ff,Ff,Ff,Ff,Ff,Ff,Ff]) 3 rfl rfl rfl (gives_sliceL (v := .slice (if c1 = m then A1 else A1.map (·.add m)) (l.length - m) (c1 - m)) rfl rfl rfl (fun w => cut_lo1 Tryd.underlying28 (fun w => rfl) A1 l.length c1 m rfl (by omega) w)) (fun w1 hw => hw.pick [] (by decide) rfl) ?_
      refine TH.tk (listed' := #[Tt,Tt,Tt,Tt,Tt,Ff,Ff,Ff,Ff,Ff,Ff,Ff]) 4 rfl rfl rfl (gives_move rfl rfl) (fun w1 hw => hw.pick [] (by decide) rfl) ?_
      refine TH.tk (listed' := #[Tt,Tt,Tt,Tt,Tt,Tt,Ff,Ff,Ff,Ff,Ff,Ff]) 5 rfl rfl rfl (gives_move rfl rfl) (fun w1 hw => hw.pick [] (by decide) rfl) ?_
      refine TH.tk (listed' := #[Tt,Tt,Tt,Tt,Tt,Tt,Tt,Ff,Ff,Ff,Ff,Ff]) 6 rfl rfl rfl (gives_move rfl rfl) (fun w1 hw => hw.pick [] (by decide) rfl) ?_
      refine TH.tk (listed' := #[Tt,Tt,Tt,Tt,Tt,Tt,Tt,Tt,Ff,Ff,Ff,Ff]) 7 rfl rfl rfl (gives_bin rfl rfl rfl (fun w => bin_sub_ (r := ((m : Nat) : Int)) (by simp only [IntKind.wrap_i64]; omega) w)) (fun w1 hw => hw.pick [] (by decide) rfl) ?_
      refine TH.tk (listed' := #[Tt,Tt,Tt,Tt,Tt,Tt,Tt,Tt,Tt,Ff,Ff,Ff]) 8 rfl rfl rfl (gives_sliceH (v := .slice A1 m c1) rfl rfl rfl (fun w => cut_hi Tryd.underlying28 (fun w => rfl) A1 l.length c1 m rfl (by omega) w)) (fun w1 hw => hw.pick [] (by decide) rfl) ?_
      refine TH.only' (listed' := #[Tt,Tt,Tt,Tt,Tt,Tt,Tt,Tt,Tt,Tt,Ff,Ff]) 9 rfl (by kernel_rfl) rfl ?_
      refine TL.pcallRow (n := 32) (ys := bv (macF key (l.take m))) rfl rfl rfl rfl rfl Tryd.func30 jacnm30 jacbd30 (fun w1 hw => mac_any _ _ _ key _ _ _ (l.take m) w1 ((hb2.below hw.bel).more hw.bel.size) (((hb1.below hw.bel).more hw.bel.size).head (by omega)) (by omega) (by omega) (hst.below hw.bel hst.lt) (hky.below hw.bel hky.lt)) (fun A51 c51 hA511 hA512 => ?_)
      refine TL.end_ ?_
      refine TX.held (fun w1 hw => hw.pick [] (by decide) rfl) ?_
      refine TH.only' (listed' := #[Tt,Tt,Tt,Tt,Tt,Tt,Tt,Tt,Tt,Tt,Tt,Ff]) 10 rfl (by kernel_rfl) rfl ?_
      refine TL.pcall1 (r := .bool false) rfl rfl rfl rfl rfl Tryd.func28 jacnm28 jacbd28 (fun w1 hw => retb_lit (decide_eq_false hs2) (wequal _ _ _ _ _ _ (l.drop m) (macF key (l.take m)) w1 (((hb1.below hw.bel).more hw.bel.size).cut (by omega) hnc) (byt_own (hw.at_ (k := 0) rfl) (macF_bs _ _)))) ?_
      refine TL.end_ ?_
      refine TX.held (fun w1 hw => hw.pick [] (by decide) rfl) ?_
      refine TH.tk (listed' := #[Tt,Tt,Tt,Tt,Tt,Tt,Tt,Tt,Tt,Tt,Tt,Tt]) 11 rfl rfl rfl (gives_boolnot rfl rfl) (fun w1 hw => hw.pick [] (by decide) rfl) ?_
      refine TH.done (by kernel_rfl) ?_
      refine TX.then_ (TC.condT rfl (TC.seq_ (TC.region ?_)))
      refine TL.val rfl rfl rfl (gives_build (v := .agg #[.int .i64 0, .int .i64 0, .int .i64 0, .slice none 0 0]) rfl rfl (fun w => jacbld45_530  w)) ?_
      refine TL.pstore (k := 4) (vs := [.int .i64 0, .int .i64 0, .int .i64 0, .slice none 0 0]) rfl rfl rfl rfl rfl rfl rfl jacsz45 jacone_i64i64i64s (by show 4 ≤ 4; decide) (L' := [.row (.slice A51 32 c51) 5 1 32 (bv (macF key (l.take m))), .blk g11 86 [.int .i64 (pid l), .int .i64 (prun l), .int .i64 (pfirst l), .int .i64 (getN l 8 1), .slice AP 32 cP, .slice AR (cnt l) cR], .row (.slice AP 32 cP) 5 1 32 (bv (pbef l)), .row (.slice AR (cnt l) cR) 27 17 (cnt l) (rcs (rlB l)), .blk g6 45 [.int .i64 0, .int .i64 0, .int .i64 0, .slice none 0 0], .blk g3 45 [.int .i64 ch.v, .int .i64 ch.run, .int .i64 ch.n, .slice A0 n0 c0]]) rfl ?_
      refine TL.as_ ?_
      refine TL.as_ ?_
      refine TL.end_ (TX.then_ (TC.ret_ (TX.then_ret ?_)))
      exact ret_cell3 (k := 4) (v := .slice none 0 0) (v2 := .int .i64 19) Tryd.results22 rfl rfl rfl rfl Tryd.underlying45 rfl rfl (fun w1 hw => by rw [hE.1, hE.2.1, hE.2.2]; exact AccR.none_ hw)
    ·have hE := acR_bad (c := ch) (key := key) (acc_form h0 h1 h2 hok) (by decide)
     refine TC.region ?_
     refine TL.mv ?_
     refine TL.pcall1 (r := .tuple #[.agg #[.int .i64 0, .int .i64 0, .int .i64 0, .int .i64 0, .slice none 0 0, .slice none 0 0], .int .i64 2]) rfl rfl rfl rfl rfl Tryd.func52 jacnm52 jacbd52 (fun w1 hw => read_bad A1 _ c1 l w1 ((hb1.below hw.bel).more hw.bel.size) hnc (by omega) hwh hok) ?_
     refine TL.mv ?_
     refine TL.ex ?_
     refine TL.ex ?_
     refine TL.pnew rfl rfl rfl (exec_alloc (cs := [.int .i64 0, .int .i64 0, .int .i64 0, .int .i64 0, .slice none 0 0, .slice none 0 0]) rfl jaczv86 rfl) (fun g11 => ?_)
     refine TL.pstore (k := 0) (vs := [.int .i64 0, .int .i64 0, .int .i64 0, .int .i64 0, .slice none 0 0, .slice none 0 0]) rfl rfl rfl rfl rfl rfl rfl jacsz86 jacone_i64i64i64i64ss (by show 6 ≤ 6; decide) (L' := [.blk g11 86 [.int .i64 0, .int .i64 0, .int .i64 0, .int .i64 0, .slice none 0 0, .slice none 0 0], .blk g6 45 [.int .i64 0, .int .i64 0, .int .i64 0, .slice none 0 0], .blk g3 45 [.int .i64 ch.v, .int .i64 ch.run, .int .i64 ch.n, .slice A0 n0 c0]]) rfl ?_
     refine TL.as_ ?_
     refine TL.end_ (TX.then_ (TC.seq_ (TC.seq_ (TC.region ?_))))
     refine TL.mv ?_
     refine TL.val rfl rfl rfl (gives_bin rfl rfl rfl (fun w => bin_neq_t (by decide) w)) ?_
     refine TL.end_ (TX.then_ (TC.condT rfl (TC.seq_ (TC.region ?_))))
     refine TL.val rfl rfl rfl (gives_build (v := .agg #[.int .i64 0, .int .i64 0, .int .i64 0, .slice none 0 0]) rfl rfl (fun w => jacbld45_530  w)) ?_
     refine TL.pstore (k := 1) (vs := [.int .i64 0, .int .i64 0, .int .i64 0, .slice none 0 0]) rfl rfl rfl rfl rfl rfl rfl jacsz45 jacone_i64i64i64s (by show 4 ≤ 4; decide) (L' := [.blk g11 86 [.int .i64 0, .int .i64 0, .int .i64 0, .int .i64 0, .slice none 0 0, .slice none 0 0], .blk g6 45 [.int .i64 0, .int .i64 0, .int .i64 0, .slice none 0 0], .blk g3 45 [.int .i64 ch.v, .int .i64 ch.run, .int .i64 ch.n, .slice A0 n0 c0]]) rfl ?_
     refine TL.as_ ?_
     refine TL.as_ ?_
     refine TL.end_ (TX.then_ (TC.ret_ (TX.then_ret ?_)))
     exact ret_cell3 (k := 1) (v := .slice none 0 0) (v2 := .int .i64 2) Tryd.results22 rfl rfl rfl rfl Tryd.underlying45 rfl rfl (fun w1 hw => by rw [hE.1, hE.2.1, hE.2.2]; exact AccR.none_ hw)
end Go.Proofs.YtmeaeeehnkcblaaDoor

namespace Go.Proofs.YtmeaeeehnkcblaaDoor
open Go.RowKit
set_option maxRecDepth 20000
theorem chn_eq {x y : Chn} (h1 : x.v = y.v) (h2 : x.run = y.run) (h3 : x.n = y.n) (h4 : x.dg = y.dg) : x = y := by
 cases x; cases y
 simp only at h1 h2 h3 h4
 rw [h1, h2, h3, h4]
theorem rs_dec (r s : Rs) : decide (r.v = s.v ∧ r.run = s.run ∧ r.num = s.num ∧ r.at_ = s.at_ ∧ r.dst = s.dst ∧ r.proto = s.proto ∧ r.flow = s.flow ∧ r.ttl = s.ttl ∧ r.ans = s.ans ∧ r.dbl = s.dbl ∧ r.back = s.back ∧ r.src = s.src ∧ r.kind = s.kind ∧ r.code = s.code ∧ r.left = s.left ∧ r.id = s.id ∧ r.quo = s.quo) = decide (r = s) := by
 refine decide_eq_decide.2 ⟨fun h => ?_, fun h => by subst h; exact ⟨rfl, rfl, rfl, rfl, rfl, rfl, rfl, rfl, rfl, rfl, rfl, rfl, rfl, rfl, rfl, rfl, rfl⟩⟩
 cases r; cases s
 simp only at h
 obtain ⟨rfl, rfl, rfl, rfl, rfl, rfl, rfl, rfl, rfl, rfl, rfl, rfl, rfl, rfl, rfl, rfl, rfl⟩ := h
 rfl
theorem neqR (r s : Rs) {x y : Operand} (w : World) : (do eqGuard .neq 27 x y (.agg r.cells.toArray) (.agg s.cells.toArray); binOp .neq 27 (.agg r.cells.toArray) (.agg s.cells.toArray) : Sem Value).run Tryd.prog w = .ok (.bool (!decide (r = s))) w := by
 have hm : Tryd.prog.eqGuardType Tryd.prog.depth 27 = false := by kernel_rfl
 have h := eqR r.v r.run r.num r.at_ r.dst r.proto r.flow r.ttl r.back r.src r.kind r.code r.left r.id r.quo s.v s.run s.num s.at_ s.dst s.proto s.flow s.ttl s.back s.src s.kind s.code s.left s.id s.quo r.ans r.dbl s.ans s.dbl w
 rw [rs_dec] at h
 simp only [Sem.run_bind, run_eqGuard_agg w .neq 27 x y _ _ hm, Result.andThen_ok, run_neq_struct]
 exact (congrArg (fun q => Result.andThen q _) h).trans rfl
theorem neqR_t {r s : Rs} (h : ¬ r = s) {x y : Operand} (w : World) : (do eqGuard .neq 27 x y (.agg r.cells.toArray) (.agg s.cells.toArray); binOp .neq 27 (.agg r.cells.toArray) (.agg s.cells.toArray) : Sem Value).run Tryd.prog w = .ok (.bool true) w := by
 rw [neqR, decide_eq_false h]; rfl
theorem neqR_f {r s : Rs} (h : r = s) {x y : Operand} (w : World) : (do eqGuard .neq 27 x y (.agg r.cells.toArray) (.agg s.cells.toArray); binOp .neq 27 (.agg r.cells.toArray) (.agg s.cells.toArray) : Sem Value).run Tryd.prog w = .ok (.bool false) w := by
 rw [neqR, decide_eq_true h]; rfl
def keyB : List Int := [107, 101, 121]
theorem keyB_bs : Bs keyB := by intro x hx; simp only [keyB, List.mem_cons, List.not_mem_nil, or_false] at hx; omega
theorem jsamefld45_0 (g o : Nat) (w : World) : (Instr.fieldAt 45 (.pointer (some ⟨g, o, none⟩)) 0).run Tryd.prog w = .ok (.pointer (some ⟨g, o + 0, none⟩)) w := by kernel_rfl
theorem jsameag3 (w : World) : (isAgg 3).run Tryd.prog w = .ok false w := rfl
theorem jsamefld45_1 (g o : Nat) (w : World) : (Instr.fieldAt 45 (.pointer (some ⟨g, o, none⟩)) 1).run Tryd.prog w = .ok (.pointer (some ⟨g, o + 1, none⟩)) w := by kernel_rfl
theorem jsamefld45_2 (g o : Nat) (w : World) : (Instr.fieldAt 45 (.pointer (some ⟨g, o, none⟩)) 2).run Tryd.prog w = .ok (.pointer (some ⟨g, o + 2, none⟩)) w := by kernel_rfl
theorem jsamefld45_3 (g o : Nat) (w : World) : (Instr.fieldAt 45 (.pointer (some ⟨g, o, none⟩)) 3).run Tryd.prog w = .ok (.pointer (some ⟨g, o + 3, none⟩)) w := by kernel_rfl
theorem jsameag28 (w : World) : (isAgg 28).run Tryd.prog w = .ok false w := rfl
theorem jsamenm16 : (Tryd.f16.name == "runtime.NumGoroutine") = false := by decide
theorem jsamebd16 : Tryd.f16.body.isNone = false := rfl
theorem jsamesz27 (w : World) : (sizeOf 27).run Tryd.prog w = .ok 17 w := rfl
theorem jsameag27 (w : World) : (isAgg 27).run Tryd.prog w = .ok true w := rfl
theorem jsamebs28_3_44640 (a0_0 : Int) (a1_0 : Int) (a2_0 : Int) (w : World) : (Instr.buildSlice 28 3 #[(0, .int .u8 a0_0), (1, .int .u8 a1_0), (2, .int .u8 a2_0)]).run Tryd.prog w = .ok (.slice (some ⟨w.heap.size, 0, none⟩) 3 3) (w.alloc (.cells [.int .u8 a0_0, .int .u8 a1_0, .int .u8 a2_0].toArray 5)) := by kernel_rfl
theorem jsamenm33 : (Tryd.f33.name == "runtime.NumGoroutine") = false := by decide
theorem jsamebd33 : Tryd.f33.body.isNone = false := rfl
theorem jsamezv45 (w : World) : (zeroValue 45).run Tryd.prog w = .ok (.agg #[.int .i64 0, .int .i64 0, .int .i64 0, .slice none 0 0]) w := rfl
theorem jsamesz45 (w : World) : (sizeOf 45).run Tryd.prog w = .ok 4 w := rfl
theorem jsameone_i64i64i64s {a0 : Int} {a1 : Int} {a2 : Int} {a3 : Option Addr} {n3 c3 : Nat} : ∀ u ∈ [(.int .i64 a0 : Value), .int .i64 a1, .int .i64 a2, .slice a3 n3 c3], u.oneCell' = true := by
 intro u hu
 simp only [List.mem_cons, List.not_mem_nil, or_false] at hu
 rcases hu with rfl | rfl | rfl | rfl <;> rfl
theorem jsamebld45_530  (w : World) : (Instr.build 45 #[]).run Tryd.prog w = .ok (.agg #[.int .i64 0, .int .i64 0, .int .i64 0, .slice none 0 0]) w := by kernel_rfl
theorem jsamenm22 : (Tryd.f22.name == "runtime.NumGoroutine") = false := by decide
theorem jsamebd22 : Tryd.f22.body.isNone = false := rfl
theorem jsameag45 (w : World) : (isAgg 45).run Tryd.prog w = .ok true w := rfl
theorem jsamenm26 : (Tryd.f26.name == "runtime.NumGoroutine") = false := by decide
theorem jsamebd26 : Tryd.f26.body.isNone = false := rfl
theorem samechain_any (x y : Chn) (A0 : Option Addr) (n0 c0 : Nat) (A1 : Option Addr) (n1 c1 : Nat) (w : World) (hb0 : Byt w w.heap.size A0 n0 x.dg) (hb1 : Byt w w.heap.size A1 n1 y.dg) (hd0 : x.dg.length ≤ 10000) (hd1 : y.dg.length ≤ 10000) :
  Calls Tryd.prog 26 #[.agg #[.int .i64 x.v, .int .i64 x.run, .int .i64 x.n, .slice A0 n0 c0], .agg #[.int .i64 y.v, .int .i64 y.run, .int .i64 y.n, .slice A1 n1 c1]] w fun e w' => e = .returned (.bool (decide (x = y))) ∧ Below w.heap.size w w' := by
 have hl0 := hb0.len
 have hl1 := hb1.len
 refine begin_ (vs := [.agg #[.int .i64 x.v, .int .i64 x.run, .int .i64 x.n, .slice A0 n0 c0], .agg #[.int .i64 y.v, .int .i64 y.run, .int .i64 y.n, .slice A1 n1 c1]]) Tryd.func26 rfl rfl rfl ?_ (Pm.start w)
 refine TC.seq_ (TC.region ?_)
 refine TL.pnew rfl rfl rfl (exec_box (cs := [.int .i64 x.v, .int .i64 x.run, .int .i64 x.n, .slice A0 n0 c0]) rfl rfl rfl) (fun g2 => ?_)
 refine TL.pnew rfl rfl rfl (exec_box (cs := [.int .i64 y.v, .int .i64 y.run, .int .i64 y.n, .slice A1 n1 c1]) rfl rfl rfl) (fun g3 => ?_)
 refine TL.as_ ?_
 refine TL.end_ (TX.then_ (TC.seq_ (TC.region ?_)))
 refine TL.val rfl rfl rfl (gives_field (v := .pointer (some ⟨g2, 0, none⟩)) rfl rfl (fun w => jsamefld45_0 _ _ w)) ?_
 refine TL.val rfl rfl rfl (pm_load (k := 1) (i := 0) rfl rfl jsameag3 rfl rfl) ?_
 refine TL.val rfl rfl rfl (gives_field (v := .pointer (some ⟨g3, 0, none⟩)) rfl rfl (fun w => jsamefld45_0 _ _ w)) ?_
 refine TL.val rfl rfl rfl (pm_load (k := 0) (i := 0) rfl rfl jsameag3 rfl rfl) ?_
 refine TL.vsplit rfl rfl rfl (gives_bin rfl rfl rfl (fun w => bin_eql w)) (fun h9 => ?_) (fun h9 => ?_)
 ·have q9 := of_decide_eq_true h9
  refine TL.mv ?_
  refine TL.gu ?_
  refine TL.val rfl rfl rfl (gives_field (v := .pointer (some ⟨g2, 1, none⟩)) rfl rfl (fun w => jsamefld45_1 _ _ w)) ?_
  refine TL.gu ?_
  refine TL.val rfl rfl rfl (pm_load (k := 1) (i := 1) rfl rfl jsameag3 rfl rfl) ?_
  refine TL.gu ?_
  refine TL.val rfl rfl rfl (gives_field (v := .pointer (some ⟨g3, 1, none⟩)) rfl rfl (fun w => jsamefld45_1 _ _ w)) ?_
  refine TL.gu ?_
  refine TL.val rfl rfl rfl (pm_load (k := 0) (i := 1) rfl rfl jsameag3 rfl rfl) ?_
  refine TL.gu ?_
  refine TL.vsplit rfl rfl rfl (gives_bin rfl rfl rfl (fun w => bin_eql w)) (fun h15 => ?_) (fun h15 => ?_)
  ·have q15 := of_decide_eq_true h15
   refine TL.pk ?_
   refine TL.mv ?_
   refine TL.gu ?_
   refine TL.val rfl rfl rfl (gives_field (v := .pointer (some ⟨g2, 2, none⟩)) rfl rfl (fun w => jsamefld45_2 _ _ w)) ?_
   refine TL.gu ?_
   refine TL.val rfl rfl rfl (pm_load (k := 1) (i := 2) rfl rfl jsameag3 rfl rfl) ?_
   refine TL.gu ?_
   refine TL.val rfl rfl rfl (gives_field (v := .pointer (some ⟨g3, 2, none⟩)) rfl rfl (fun w => jsamefld45_2 _ _ w)) ?_
   refine TL.gu ?_
   refine TL.val rfl rfl rfl (pm_load (k := 0) (i := 2) rfl rfl jsameag3 rfl rfl) ?_
   refine TL.gu ?_
   refine TL.vsplit rfl rfl rfl (gives_bin rfl rfl rfl (fun w => bin_eql w)) (fun h22 => ?_) (fun h22 => ?_)
   ·have q22 := of_decide_eq_true h22
    refine TL.pk ?_
    refine TL.mv ?_
    refine TL.gu ?_
    refine TL.val rfl rfl rfl (gives_field (v := .pointer (some ⟨g2, 3, none⟩)) rfl rfl (fun w => jsamefld45_3 _ _ w)) ?_
    refine TL.gu ?_
    refine TL.val rfl rfl rfl (pm_load (k := 1) (i := 3) rfl rfl jsameag28 rfl rfl) ?_
    refine TL.gu ?_
    refine TL.val rfl rfl rfl (gives_field (v := .pointer (some ⟨g3, 3, none⟩)) rfl rfl (fun w => jsamefld45_3 _ _ w)) ?_
    refine TL.gu ?_
    refine TL.val rfl rfl rfl (pm_load (k := 0) (i := 3) rfl rfl jsameag28 rfl rfl) ?_
    refine TL.gu ?_
    refine TL.callsplit rfl rfl rfl rfl rfl Tryd.func16 jsamenm16 jsamebd16 (fun w1 hw => (requal_any A0 A1 n0 c0 n1 c1 x.dg y.dg w1 w1.heap.size ((hb0.below hw.bel).more hw.bel.size) ((hb1.below hw.bel).more hw.bel.size) (by omega) (by omega)).mono fun e w2 ⟨h1, q, h2⟩ => ⟨h1, h2 ▸ drewN_below q⟩) (fun h29 => ?_) (fun h29 => ?_)
    ·have q29 := of_decide_eq_true h29
     have hR : x = y := chn_eq q9 q15 q22 q29
     refine TL.pk ?_
     refine TL.as_ ?_
     refine TL.end_ (TX.then_ (TC.ret_ ?_))
     exact ret_tmp Tryd.results26 rfl (fun w1 hw => ⟨by rw [decide_eq_true hR], hw.bel⟩)
    ·have q29 := of_decide_eq_false h29
     have hR : ¬ x = y := fun h => q29 (by rw [h])
     refine TL.pk ?_
     refine TL.as_ ?_
     refine TL.end_ (TX.then_ (TC.ret_ ?_))
     exact ret_tmp Tryd.results26 rfl (fun w1 hw => ⟨by rw [decide_eq_false hR], hw.bel⟩)
   ·have q22 := of_decide_eq_false h22
    have hR : ¬ x = y := fun h => q22 (by rw [h])
    iterate 9 (first | refine TL.of ?_ | refine TL.pk ?_ | refine TL.mv ?_ | refine TL.as_ ?_)
    refine TL.end_ (TX.then_ (TC.ret_ ?_))
    exact ret_tmp Tryd.results26 rfl (fun w1 hw => ⟨by rw [decide_eq_false hR], hw.bel⟩)
  ·have q15 := of_decide_eq_false h15
   have hR : ¬ x = y := fun h => q15 (by rw [h])
   iterate 16 (first | refine TL.of ?_ | refine TL.pk ?_ | refine TL.mv ?_ | refine TL.as_ ?_)
   refine TL.end_ (TX.then_ (TC.ret_ ?_))
   exact ret_tmp Tryd.results26 rfl (fun w1 hw => ⟨by rw [decide_eq_false hR], hw.bel⟩)
 ·have q9 := of_decide_eq_false h9
  have hR : ¬ x = y := fun h => q9 (by rw [h])
  iterate 22 (first | refine TL.of ?_ | refine TL.mv ?_ | refine TL.pk ?_ | refine TL.as_ ?_)
  refine TL.end_ (TX.then_ (TC.ret_ ?_))
  exact ret_tmp Tryd.results26 rfl (fun w1 hw => ⟨by rw [decide_eq_false hR], hw.bel⟩)
theorem sameresults_any (A1 : Option Addr) (n1 c1 : Nat) (l1 : List Rs) (A2 : Option Addr) (n2 c2 : Nat) (l2 : List Rs) (w : World) (hr1 : Reads w w.heap.size 17 A1 n1 (rcs l1)) (hr2 : Reads w w.heap.size 17 A2 n2 (rcs l2)) (e1 : l1.length = n1) (e2 : l2.length = n2) (hm1 : n1 ≤ 1000000000) (hm2 : n2 ≤ 1000000000) :
  Calls Tryd.prog 27 #[.slice A1 n1 c1, .slice A2 n2 c2] w fun e w' => e = .returned (.bool (decide (l1 = l2))) ∧ Below w.heap.size w w' := by
 subst e1 e2
 refine begin_ (vs := [.slice A1 l1.length c1, .slice A2 l2.length c2]) Tryd.func27 rfl rfl rfl ?_ (Pm.start w)
 refine TC.seq_ (TC.region ?_)
 refine TL.as_ ?_
 refine TL.end_ (TX.then_ (TC.seq_ (TC.seq_ (TC.region ?_))))
 refine TL.mv ?_
 refine TL.val rfl rfl rfl (gives_len rfl Tryd.underlying33 rfl) ?_
 refine TL.mv ?_
 refine TL.val rfl rfl rfl (gives_len rfl Tryd.underlying33 rfl) ?_
 refine TL.vsplit rfl rfl rfl (gives_bin rfl rfl rfl (fun w => bin_neq w)) (fun h10 => ?_) (fun h10 => ?_)
 ·have q10 := of_decide_eq_true h10
  have hR : ¬ l1 = l2 := fun h => by rw [h] at q10; exact q10 rfl
  refine TL.end_ (TX.then_ (TC.condT rfl (TC.seq_ (TC.region ?_))))
  refine TL.as_ ?_
  refine TL.end_ (TX.then_ (TC.ret_ (TX.then_ret ?_)))
  exact ret_tmp Tryd.results27 rfl (fun w1 hw => ⟨by rw [decide_eq_false hR], hw.bel⟩)
 ·have q10 := of_decide_eq_false h10
  have hll : l1.length = l2.length := by omega
  refine TL.end_ (TX.then_ (TC.condF rfl (TC.skip_ (TX.then_ (TC.seq_ (TC.seq_ (TC.region ?_)))))))
  refine TL.as_ ?_
  refine TL.end_ (TX.then_ (TC.block ?_))
  refine TC.loop_ (α := {i : Nat // i ≤ l1.length ∧ l1.take i = l2.take i}) (fun y => [(0, .slice A1 l1.length c1), (1, .slice A2 l2.length c2), (5, .int .i64 (y.1 : Nat))]) (fun y => Pm w []) (fun y => l1.length - y.1) (⟨0, Nat.zero_le _, rfl⟩) ⟨rfl, rfl, rfl, trivial⟩ (fun w1 hw => hw) ?_
  rintro ⟨i, hi, hinv⟩
  dsimp only at hi hinv ⊢
  refine TC.seq_ (TC.seq_ (TC.region ?_))
  refine TL.mv ?_
  refine TL.mv ?_
  refine TL.val rfl rfl rfl (gives_len rfl Tryd.underlying33 rfl) ?_
  refine TL.vsplit rfl rfl rfl (gives_bin rfl rfl rfl (fun w => bin_lss w)) (fun h14 => ?_) (fun h14 => ?_)
  ·have q14 := of_decide_eq_true h14
   have hi2 : i < l1.length := by omega
   obtain ⟨r, hxr⟩ : ∃ r, l1[i]? = some r := ⟨_, List.getElem?_eq_getElem hi2⟩
   obtain ⟨s, hxs⟩ : ∃ s, l2[i]? = some s := ⟨_, List.getElem?_eq_getElem (by omega)⟩
   obtain ⟨b1, o1, hA1, hbb1, hc1⟩ := hr1.ad (by omega) (by decide)
   obtain ⟨b2, o2, hA2, hbb2, hc2⟩ := hr2.ad (by omega) (by decide)
   refine TL.end_ (TX.then_ (TC.condT rfl (TC.skip_ (TX.then_ (TC.seq_ (TC.block (TC.seq_ ?_)))))))
   by_cases he : r = s
   ·refine TC.quiet_ (E' := ?_) (by kernel_rfl) (by kernel_rfl) (fun w hw => hw.drawn _) ?_ ?_
    rotate_left
    ·refine TQ.val rfl rfl rfl (gives_move rfl rfl) ?_
     refine TQ.val rfl rfl rfl (gives_move rfl rfl) ?_
     refine TQ.val rfl rfl rfl (gives_at (v := .pointer (some ⟨b1, o1 + i * 17, none⟩)) rfl rfl rfl (fun w => at_el Tryd.underlying33 jsamesz27 hA1 _ _ i hi2 rfl w)) ?_
     refine TQ.val rfl rfl rfl (gives_loadR rfl rfl jsameag27 jsamesz27 (rs_cells_len r) (fun w1 hw j u hu => (hw.bel.cell hbb1).trans (rcs_cell hxr hc1 j u hu))) ?_
     refine TQ.val rfl rfl rfl (gives_move rfl rfl) ?_
     refine TQ.val rfl rfl rfl (gives_move rfl rfl) ?_
     refine TQ.val rfl rfl rfl (gives_at (v := .pointer (some ⟨b2, o2 + i * 17, none⟩)) rfl rfl rfl (fun w => at_el Tryd.underlying33 jsamesz27 hA2 _ _ i (by omega) rfl w)) ?_
     refine TQ.val rfl rfl rfl (gives_loadR rfl rfl jsameag27 jsamesz27 (rs_cells_len s) (fun w1 hw j u hu => (hw.bel.cell hbb2).trans (rcs_cell hxs hc2 j u hu))) ?_
     refine TQ.val rfl rfl rfl (gives_bin2 (v := .bool false) rfl rfl rfl (fun w => neqR_f he w)) ?_
     exact TQ.end_
    refine TX.then_ (TC.condF rfl (TC.skip_ (TX.in_normal (TX.then_ (TC.region ?_)))))
    refine TL.mv ?_
    refine TL.val rfl rfl rfl (gives_bin rfl rfl rfl (fun w => bin_add_ (r := ((i + 1 : Nat) : Int)) (by simp only [IntKind.wrap_i64]; omega) w)) ?_
    refine TL.as_ ?_
    refine TL.end_ ?_
    exact TX.round (⟨i + 1, hi2, by rw [List.take_add_one, List.take_add_one, hinv, hxr, hxs, he]⟩) (by show l1.length - (i + 1) < l1.length - i; omega) ⟨rfl, rfl, rfl, trivial⟩ (fun w1 hw => hw)
   ·have hR : ¬ l1 = l2 := fun h => by rw [h, hxs] at hxr; exact he (Option.some.inj hxr).symm
    refine TC.quiet_ (E' := ?_) (by kernel_rfl) (by kernel_rfl) (fun w hw => hw.drawn _) ?_ ?_
    rotate_left
    ·refine TQ.val rfl rfl rfl (gives_move rfl rfl) ?_
     refine TQ.val rfl rfl rfl (gives_move rfl rfl) ?_
     refine TQ.val rfl rfl rfl (gives_at (v := .pointer (some ⟨b1, o1 + i * 17, none⟩)) rfl rfl rfl (fun w => at_el Tryd.underlying33 jsamesz27 hA1 _ _ i hi2 rfl w)) ?_
     refine TQ.val rfl rfl rfl (gives_loadR rfl rfl jsameag27 jsamesz27 (rs_cells_len r) (fun w1 hw j u hu => (hw.bel.cell hbb1).trans (rcs_cell hxr hc1 j u hu))) ?_
     refine TQ.val rfl rfl rfl (gives_move rfl rfl) ?_
     refine TQ.val rfl rfl rfl (gives_move rfl rfl) ?_
     refine TQ.val rfl rfl rfl (gives_at (v := .pointer (some ⟨b2, o2 + i * 17, none⟩)) rfl rfl rfl (fun w => at_el Tryd.underlying33 jsamesz27 hA2 _ _ i (by omega) rfl w)) ?_
     refine TQ.val rfl rfl rfl (gives_loadR rfl rfl jsameag27 jsamesz27 (rs_cells_len s) (fun w1 hw j u hu => (hw.bel.cell hbb2).trans (rcs_cell hxs hc2 j u hu))) ?_
     refine TQ.val rfl rfl rfl (gives_bin2 (v := .bool true) rfl rfl rfl (fun w => neqR_t he w)) ?_
     exact TQ.end_
    refine TX.then_ (TC.condT rfl (TC.seq_ (TC.region ?_)))
    refine TL.as_ ?_
    refine TL.end_ (TX.then_ (TC.ret_ (TX.in_ret (TX.then_ret (TX.then_ret (TX.in_ret (TX.then_ret ?_)))))))
    exact ret_tmp Tryd.results27 rfl (fun w1 hw => ⟨by rw [decide_eq_false hR], hw.bel⟩)
  ·have q14 := of_decide_eq_false h14
   have hi2 : i = l1.length := by omega
   subst hi2
   have hR : l1 = l2 := by rw [List.take_of_length_le (Nat.le_refl _), hll, List.take_of_length_le (Nat.le_refl _)] at hinv; exact hinv
   refine TL.end_ (TX.then_ (TC.condF rfl (TC.exit_ (TX.then_exit (TX.then_exit (TX.in_same (TX.then_ (TC.seq_ (TC.region ?_)))))))))
   refine TL.as_ ?_
   refine TL.end_ (TX.then_ (TC.ret_ ?_))
   exact ret_tmp Tryd.results27 rfl (fun w1 hw => ⟨by rw [decide_eq_true hR], hw.bel⟩)
set_option maxHeartbeats 1000000 in
theorem awake_any (w : World) {ts tk : TypeId} (hst : Blk w 0 ts start8.cells) (hky : Blk w 1 tk (arrOf keysL)) :
  Calls Tryd.prog 9 #[] w fun e w' => e = .returned (.bool true) ∧ Below w.heap.size w w' := by
 have hid : idOk 1 2 := by decide
 have hg := bg_ok hid keyB
 have hE := acc_begin hid keyB
 have hbs : Bs (bgS 1 2 keyB) := by rw [hg.2.1]; exact segL_bs _ _ _ (zeroL_bs _) _ _
 have hln : (bgS 1 2 keyB).length = 73 := by rw [hg.2.1]; exact seg_len (rl := []) zero32 (fun r hr => by cases hr)
 have hdg : Bs (bgC 1 2 keyB).dg := by rw [hg.1]; exact shaF_bs _
 have hdl : (bgC 1 2 keyB).dg.length = 32 := by rw [hg.1]; exact shaF_len _
 refine begin_ (vs := []) Tryd.func9 rfl rfl rfl ?_ (Pm.start w)
 refine TC.seq_ (TC.region ?_)
 refine TL.as_ ?_
 refine TL.end_ (TX.then_ (TC.seq_ (TC.region ?_)))
 refine TL.prowS (e := 5) (size := 1) (cs := bv keyB) rfl rfl rfl rfl rfl (fun w => jsamebs28_3_44640 _ _ _ w) (by decide) rfl (fun g8 => ?_)
 refine TL.mark (k := 0) rfl rfl rfl rfl rfl Tryd.underlying28 Tryd.underlying5 rfl ?_
 refine TL.pcallPm (α := SegY (bgC 1 2 keyB) (bgS 1 2 keyB)) (fun y => .tuple #[.agg #[.int .i64 ((bgC 1 2 keyB).v), .int .i64 ((bgC 1 2 keyB).run), .int .i64 ((bgC 1 2 keyB).n), .slice y.1.2.1 ((bgC 1 2 keyB).dg.length) y.1.2.2], .slice y.1.1.1 ((bgS 1 2 keyB).length) y.1.1.2, .int .i64 0]) (fun y => [.row (.slice y.1.1.1 ((bgS 1 2 keyB).length) y.1.1.2) 5 1 ((bgS 1 2 keyB).length) (bv (bgS 1 2 keyB)), .row (.slice y.1.2.1 ((bgC 1 2 keyB).dg.length) y.1.2.2) 5 1 ((bgC 1 2 keyB).dg.length) (bv (bgC 1 2 keyB).dg)]) rfl rfl rfl rfl rfl Tryd.func33 jsamenm33 jsamebd33 (fun w1 hw => (begin_any 1 2 _ _ _ keyB w1 (byt_oth (hw.at_ (k := 0) rfl).1 keyB_bs rfl) (by decide) (hst.below hw.bel hst.lt) (hky.below hw.bel hky.lt)).mono fun e w2 h => by rw [hg.2.2] at h; exact h.use) ?_
 rintro ⟨⟨⟨AB, cB⟩, ⟨DB, eB⟩⟩, ⟨hAB1, hAB2⟩, ⟨hDB1, hDB2⟩⟩
 dsimp only [List.cons_append, List.nil_append]
 dsimp only at hAB1 hAB2 hDB1 hDB2
 iterate 4 (first | refine TL.ex ?_ | refine TL.mv ?_)
 refine TL.pnew rfl rfl rfl (exec_alloc (cs := [.int .i64 0, .int .i64 0, .int .i64 0, .slice none 0 0]) rfl jsamezv45 rfl) (fun g1 => ?_)
 refine TL.pstore (k := 0) (vs := [.int .i64 ((bgC 1 2 keyB).v), .int .i64 ((bgC 1 2 keyB).run), .int .i64 ((bgC 1 2 keyB).n), .slice DB ((bgC 1 2 keyB).dg.length) eB]) rfl rfl rfl rfl rfl rfl rfl jsamesz45 jsameone_i64i64i64s (by show 4 ≤ 4; decide) (L' := [.blk g1 45 [.int .i64 ((bgC 1 2 keyB).v), .int .i64 ((bgC 1 2 keyB).run), .int .i64 ((bgC 1 2 keyB).n), .slice DB ((bgC 1 2 keyB).dg.length) eB], .row (.slice AB ((bgS 1 2 keyB).length) cB) 5 1 ((bgS 1 2 keyB).length) (bv (bgS 1 2 keyB)), .row (.slice DB ((bgC 1 2 keyB).dg.length) eB) 5 1 ((bgC 1 2 keyB).dg.length) (bv (bgC 1 2 keyB).dg), .oth g8 (.cells (bv keyB).toArray 5 (3, 3 + 1))]) rfl ?_
 refine TL.as_ ?_
 refine TL.as_ ?_
 refine TL.end_ (TX.then_ (TC.seq_ (TC.region ?_)))
 refine TL.val rfl rfl rfl (gives_build (v := .agg #[.int .i64 0, .int .i64 0, .int .i64 0, .slice none 0 0]) rfl rfl (fun w => jsamebld45_530  w)) ?_
 refine TL.mv ?_
 refine TL.prowS (e := 5) (size := 1) (cs := bv keyB) rfl rfl rfl rfl rfl (fun w => jsamebs28_3_44640 _ _ _ w) (by decide) rfl (fun g17 => ?_)
 refine TL.mark (k := 0) rfl rfl rfl rfl rfl Tryd.underlying28 Tryd.underlying5 rfl ?_
 refine TL.pcallPm (α := AccY (bgC 1 2 keyB) ([] : List Rs)) (fun y => .tuple #[.agg #[.int .i64 ((bgC 1 2 keyB).v), .int .i64 ((bgC 1 2 keyB).run), .int .i64 ((bgC 1 2 keyB).n), .slice y.1.2.1 ((bgC 1 2 keyB).dg.length) y.1.2.2], .slice y.1.1.1 (([] : List Rs).length) y.1.1.2, .int .i64 0]) (fun y => [.row (.slice y.1.1.1 (([] : List Rs).length) y.1.1.2) 27 17 (([] : List Rs).length) (rcs ([] : List Rs)), .row (.slice y.1.2.1 ((bgC 1 2 keyB).dg.length) y.1.2.2) 5 1 ((bgC 1 2 keyB).dg.length) (bv (bgC 1 2 keyB).dg)]) rfl rfl rfl rfl rfl Tryd.func22 jsamenm22 jsamebd22 (fun w1 hw => (accept_any none 0 0 Chn.zero AB _ cB (bgS 1 2 keyB) _ _ _ keyB w1 (byt_nil w1) (byt_own (hw.at_ (k := 2) rfl) hbs) (byt_oth (hw.at_ (k := 0) rfl).1 keyB_bs rfl) hAB1 (by omega) (by decide) (by decide) (by decide) (hst.below hw.bel hst.lt) (hky.below hw.bel hky.lt)).mono fun e w2 h => by rw [hE.1, hE.2.1, hE.2.2] at h; exact h.use) ?_
 rintro ⟨⟨⟨AR, cR⟩, ⟨DR, eR⟩⟩, ⟨hAR1, hAR2⟩, ⟨hDR1, hDR2⟩⟩
 dsimp only [List.cons_append, List.nil_append]
 dsimp only at hAR1 hAR2 hDR1 hDR2
 iterate 4 (first | refine TL.ex ?_ | refine TL.mv ?_)
 refine TL.pnew rfl rfl rfl (exec_alloc (cs := [.int .i64 0, .int .i64 0, .int .i64 0, .slice none 0 0]) rfl jsamezv45 rfl) (fun g4 => ?_)
 refine TL.pstore (k := 0) (vs := [.int .i64 ((bgC 1 2 keyB).v), .int .i64 ((bgC 1 2 keyB).run), .int .i64 ((bgC 1 2 keyB).n), .slice DR ((bgC 1 2 keyB).dg.length) eR]) rfl rfl rfl rfl rfl rfl rfl jsamesz45 jsameone_i64i64i64s (by show 4 ≤ 4; decide) (L' := [.blk g4 45 [.int .i64 ((bgC 1 2 keyB).v), .int .i64 ((bgC 1 2 keyB).run), .int .i64 ((bgC 1 2 keyB).n), .slice DR ((bgC 1 2 keyB).dg.length) eR], .row (.slice AR (([] : List Rs).length) cR) 27 17 (([] : List Rs).length) (rcs ([] : List Rs)), .row (.slice DR ((bgC 1 2 keyB).dg.length) eR) 5 1 ((bgC 1 2 keyB).dg.length) (bv (bgC 1 2 keyB).dg), .oth g17 (.cells (bv keyB).toArray 5 (3, 3 + 1)), .blk g1 45 [.int .i64 ((bgC 1 2 keyB).v), .int .i64 ((bgC 1 2 keyB).run), .int .i64 ((bgC 1 2 keyB).n), .slice DB ((bgC 1 2 keyB).dg.length) eB], .row (.slice AB ((bgS 1 2 keyB).length) cB) 5 1 ((bgS 1 2 keyB).length) (bv (bgS 1 2 keyB)), .row (.slice DB ((bgC 1 2 keyB).dg.length) eB) 5 1 ((bgC 1 2 keyB).dg.length) (bv (bgC 1 2 keyB).dg), .oth g8 (.cells (bv keyB).toArray 5 (3, 3 + 1))]) rfl ?_
 refine TL.as_ ?_
 refine TL.as_ ?_
 refine TL.end_ (TX.then_ (TC.seq_ (TC.region ?_)))
 refine TL.mv ?_
 refine TL.val rfl rfl rfl (gives_bin rfl rfl rfl (fun w => bin_eql_t (by decide) w)) ?_
 iterate 4 (first | refine TL.gu ?_ | refine TL.mv ?_)
 refine TL.val rfl rfl rfl (gives_len rfl Tryd.underlying28 rfl) ?_
 refine TL.gu ?_
 refine TL.val rfl rfl rfl (gives_bin rfl rfl rfl (fun w => bin_eql_t (by omega) w)) ?_
 iterate 5 (first | refine TL.gu ?_ | refine TL.mv ?_ | refine TL.pk ?_)
 refine TL.val rfl rfl rfl (gives_bin rfl rfl rfl (fun w => bin_eql_t (by decide) w)) ?_
 iterate 5 (first | refine TL.gu ?_ | refine TL.mv ?_ | refine TL.pk ?_)
 refine TL.val rfl rfl rfl (gives_len rfl Tryd.underlying33 rfl) ?_
 refine TL.gu ?_
 refine TL.val rfl rfl rfl (gives_bin rfl rfl rfl (fun w => bin_eql_t (by rfl) w)) ?_
 refine TL.pk ?_
 refine TL.mv ?_
 refine TL.gu ?_
 refine TL.val rfl rfl rfl (pm_loadV (k := 4) (i := 0) (n := 4) (v := .agg #[.int .i64 ((bgC 1 2 keyB).v), .int .i64 ((bgC 1 2 keyB).run), .int .i64 ((bgC 1 2 keyB).n), .slice DB ((bgC 1 2 keyB).dg.length) eB]) rfl rfl jsameag45 jsamesz45 rfl (by show 4 ≤ 4; decide) rfl) ?_
 refine TL.gu ?_
 refine TL.val rfl rfl rfl (pm_loadV (k := 0) (i := 0) (n := 4) (v := .agg #[.int .i64 ((bgC 1 2 keyB).v), .int .i64 ((bgC 1 2 keyB).run), .int .i64 ((bgC 1 2 keyB).n), .slice DR ((bgC 1 2 keyB).dg.length) eR]) rfl rfl jsameag45 jsamesz45 rfl (by show 4 ≤ 4; decide) rfl) ?_
 refine TL.gu ?_
 refine TL.pcall1 (r := .bool true) rfl rfl rfl rfl rfl Tryd.func26 jsamenm26 jsamebd26 (fun w1 hw => retb_lit (decide_eq_true rfl) (samechain_any (bgC 1 2 keyB) (bgC 1 2 keyB) DB _ eB DR _ eR w1 (byt_own (hw.at_ (k := 6) rfl) hdg) (byt_own (hw.at_ (k := 2) rfl) hdg) (by omega) (by omega))) ?_
 refine TL.pk ?_
 refine TL.mv ?_
 refine TL.gu ?_
 refine TL.val rfl rfl rfl (gives_field (v := .pointer (some ⟨g1, 1, none⟩)) rfl rfl (fun w => jsamefld45_1 _ _ w)) ?_
 refine TL.gu ?_
 refine TL.val rfl rfl rfl (pm_load (k := 4) (i := 1) rfl rfl jsameag3 rfl rfl) ?_
 refine TL.gu ?_
 refine TL.val rfl rfl rfl (gives_bin rfl rfl rfl (fun w => bin_eql_t (by rw [hg.1]) w)) ?_
 refine TL.pk ?_
 refine TL.as_ ?_
 refine TL.end_ (TX.then_ (TC.ret_ ?_))
 exact ret_tmp Tryd.results9 rfl (fun w1 hw => ⟨rfl, hw.bel⟩)
end Go.Proofs.YtmeaeeehnkcblaaDoor

namespace Go.Proofs.YtmeaeeehnkcblaaDoor
open Go.RowKit
set_option maxRecDepth 20000
def joinB (ss : List Sl) : List Int := ss.flatMap (·.l)
theorem join_succ {ss : List Sl} {i : Nat} {s : Sl} (h : ss[i]? = some s) : joinB (ss.take (i + 1)) = joinB (ss.take i) ++ s.l := by
 rw [List.take_add_one, h]; simp [joinB]
theorem join_len {ss : List Sl} (h : ∀ s ∈ ss, s.l.length ≤ 300) : (joinB ss).length ≤ 300 * ss.length := by
 induction ss with
 | nil => exact Nat.le_refl _
 | cons s ss ih =>
  have h1 := h s List.mem_cons_self
  have h2 := ih fun x hx => h x (List.mem_cons_of_mem _ hx)
  simp only [joinB, List.flatMap_cons, List.length_append, List.length_cons] at h2 ⊢
  omega
theorem join_le {ss : List Sl} (h : ∀ s ∈ ss, s.l.length ≤ 300) {i : Nat} : (joinB (ss.take i)).length ≤ 300 * ss.length := by
 have h1 := join_len (ss := ss.take i) fun s hs => h s (List.mem_of_mem_take hs)
 have h2 : (ss.take i).length ≤ ss.length := by rw [List.length_take]; omega
 omega
def r2 (v run nn : Int) : Rs := ⟨v, run, nn, 0, 0, 17, 0, 1, false, false, 0, 0, 0, 0, 0, 0, 0⟩
theorem jjoel28 : Elem Tryd.prog 28 5 1 1 := Elem.mk' Tryd.underlying28 (z := .int .u8 0) (by kernel_rfl) rfl (by omega) (by omega)
theorem jjofld45_0 (g o : Nat) (w : World) : (Instr.fieldAt 45 (.pointer (some ⟨g, o, none⟩)) 0).run Tryd.prog w = .ok (.pointer (some ⟨g, o + 0, none⟩)) w := by kernel_rfl
theorem jjoag3 (w : World) : (isAgg 3).run Tryd.prog w = .ok false w := rfl
theorem jjofld45_1 (g o : Nat) (w : World) : (Instr.fieldAt 45 (.pointer (some ⟨g, o, none⟩)) 1).run Tryd.prog w = .ok (.pointer (some ⟨g, o + 1, none⟩)) w := by kernel_rfl
theorem jjofld45_2 (g o : Nat) (w : World) : (Instr.fieldAt 45 (.pointer (some ⟨g, o, none⟩)) 2).run Tryd.prog w = .ok (.pointer (some ⟨g, o + 2, none⟩)) w := by kernel_rfl
theorem jjobld27_51059 (a0_0 : Int) (a1_0 : Int) (a2_0 : Int) (a5_0 : Int) (a7_0 : Int) (w : World) : (Instr.build 27 #[(0, .int .i64 a0_0), (1, .int .i64 a1_0), (2, .int .i64 a2_0), (5, .int .i64 a5_0), (7, .int .i64 a7_0)]).run Tryd.prog w = .ok (.agg #[.int .i64 a0_0, .int .i64 a1_0, .int .i64 a2_0, .int .i64 0, .int .u32 0, .int .i64 a5_0, .int .i64 0, .int .i64 a7_0, .bool false, .bool false, .int .i64 0, .int .u32 0, .int .i64 0, .int .i64 0, .int .i64 0, .int .i64 0, .int .i64 0]) w := by kernel_rfl
theorem jjobs33_1_99505 (a0_0 : Int) (a0_1 : Int) (a0_2 : Int) (a0_3 : Int) (a0_4 : Int) (a0_5 : Int) (a0_6 : Int) (a0_7 : Int) (a0_8 : Bool) (a0_9 : Bool) (a0_10 : Int) (a0_11 : Int) (a0_12 : Int) (a0_13 : Int) (a0_14 : Int) (a0_15 : Int) (a0_16 : Int) (w : World) : (Instr.buildSlice 33 1 #[(0, .agg #[.int .i64 a0_0, .int .i64 a0_1, .int .i64 a0_2, .int .i64 a0_3, .int .u32 a0_4, .int .i64 a0_5, .int .i64 a0_6, .int .i64 a0_7, .bool a0_8, .bool a0_9, .int .i64 a0_10, .int .u32 a0_11, .int .i64 a0_12, .int .i64 a0_13, .int .i64 a0_14, .int .i64 a0_15, .int .i64 a0_16])]).run Tryd.prog w = .ok (.slice (some ⟨w.heap.size, 0, none⟩) 1 1) (w.alloc (.cells [.int .i64 a0_0, .int .i64 a0_1, .int .i64 a0_2, .int .i64 a0_3, .int .u32 a0_4, .int .i64 a0_5, .int .i64 a0_6, .int .i64 a0_7, .bool a0_8, .bool a0_9, .int .i64 a0_10, .int .u32 a0_11, .int .i64 a0_12, .int .i64 a0_13, .int .i64 a0_14, .int .i64 a0_15, .int .i64 a0_16].toArray 27)) := by kernel_rfl
theorem joined_any (As : Option Addr) (cs : Nat) (ss : List Sl) (w : World) (hr : Reads w w.heap.size 1 As ss.length (ss.map Sl.val)) (hb : ∀ s ∈ ss, Byt w w.heap.size s.A s.n s.l) (hn : ∀ s ∈ ss, s.l.length ≤ 300) (hl : ∀ s ∈ ss, s.l.length ≤ 300) (h5 : ss.length ≤ 100) :
  Calls Tryd.prog 31 #[.slice As ss.length cs] w fun e w' => ∃ A c, e = .returned (.slice A (joinB ss).length c) ∧ (joinB ss).length ≤ c ∧ c ≤ maxLen ∧ w'.ownsRow w.heap.size 5 1 (.slice A (joinB ss).length c) (joinB ss).length (bv (joinB ss)) ∧ Below w.heap.size w w' := by
 refine begin_ (vs := [.slice As ss.length cs]) Tryd.func31 rfl rfl rfl ?_ (Pm.start w)
 refine TC.seq_ (TC.region ?_)
 refine TL.as_ ?_
 refine TL.end_ (TX.then_ (TC.seq_ (TC.region ?_)))
 refine TL.as_ ?_
 refine TL.end_ (TX.then_ (TC.seq_ (TC.seq_ (TC.region ?_))))
 refine TL.as_ ?_
 refine TL.end_ (TX.then_ (TC.block ?_))
 refine TC.nilrow 5 1 ?_
 refine TC.loop_ (α := {y : Nat × Option Addr × Nat // y.1 ≤ ss.length ∧ (joinB (ss.take y.1)).length ≤ y.2.2 ∧ y.2.2 ≤ maxLen}) (fun y => [(0, .slice As ss.length cs), (3, .slice y.1.2.1 ((joinB (ss.take y.1.1)).length) y.1.2.2), (4, .int .i64 (y.1.1 : Nat))]) (fun y => Pm w [.row (.slice y.1.2.1 ((joinB (ss.take y.1.1)).length) y.1.2.2) 5 1 ((joinB (ss.take y.1.1)).length) (bv (joinB (ss.take y.1.1)))]) (fun y => ss.length - y.1.1) (⟨(0, none, 0), Nat.zero_le _, Nat.le_refl _, Nat.zero_le _⟩) ⟨rfl, rfl, rfl, trivial⟩ (fun w1 hw => hw) ?_
 rintro ⟨⟨i, A, c⟩, hi, hc, hc9⟩
 dsimp only at hi hc hc9 ⊢
 refine TC.seq_ (TC.seq_ (TC.region ?_))
 refine TL.mv ?_
 refine TL.mv ?_
 refine TL.val rfl rfl rfl (gives_len rfl Tryd.underlying40 rfl) ?_
 refine TL.vsplit rfl rfl rfl (gives_bin rfl rfl rfl (fun w => bin_lss w)) (fun h8 => ?_) (fun h8 => ?_)
 ·have q8 := of_decide_eq_true h8
  have hi2 : i < ss.length := by omega
  obtain ⟨s, hs⟩ : ∃ s, ss[i]? = some s := ⟨_, List.getElem?_eq_getElem hi2⟩
  obtain ⟨b2, o2, hA2, hbb2, hc2⟩ := hr.ad (by omega) (by decide)
  have hsb := hb s (List.mem_of_getElem? hs)
  have hsn := hn s (List.mem_of_getElem? hs)
  have hsc : (ss.map Sl.val)[i * 1]? = some s.val := by rw [Nat.mul_one, List.getElem?_map, hs]; rfl
  have hj := join_le hl (i := i)
  have hj2 := join_succ hs
  have hsl := hsb.len
  refine TL.end_ (TX.then_ (TC.condT rfl (TC.skip_ (TX.then_ (TC.seq_ (TC.block (TC.region ?_)))))))
  refine TL.mv ?_
  refine TL.mv ?_
  refine TL.mv ?_
  refine TL.val rfl rfl rfl (gives_at (v := .pointer (some ⟨b2, o2 + i * 1, none⟩)) rfl rfl rfl (fun w => at_el Tryd.underlying40 (fun w => rfl) hA2 _ _ i hi2 rfl w)) ?_
  refine TL.val rfl rfl rfl (gives_load (v := s.val) rfl rfl (fun w => rfl) (fun w1 hw => (hw.bel.cell (p := ⟨b2, o2 + i * 1, none⟩) hbb2).trans (hc2 _ _ hsc))) ?_
  refine TL.appendT (k := 0) rfl rfl rfl rfl Tryd.underlying28 jjoel28 rfl rfl rfl (fun w1 hw => ⟨_, (hsb.below hw.bel).1⟩) (bv_one _) (by omega) ((joinB (ss.take (i + 1))).length) (by rw [hj2, List.length_append, hsl]) (bv (joinB (ss.take (i + 1)))) (by rw [hj2, bv_app]) (fun A16 c16 hA161 hA162 => ?_)
  refine TL.as_ ?_
  refine TL.end_ (TX.in_normal (TX.then_ (TC.region ?_)))
  refine TL.mv ?_
  refine TL.val rfl rfl rfl (gives_bin rfl rfl rfl (fun w => bin_add_ (r := ((i + 1 : Nat) : Int)) (by simp only [IntKind.wrap_i64]; omega) w)) ?_
  refine TL.as_ ?_
  refine TL.end_ ?_
  exact TX.round (⟨(i + 1, A16, c16), hi2, hA161, hA162⟩) (by show ss.length - (i + 1) < ss.length - i; omega) ⟨rfl, rfl, rfl, trivial⟩ (fun w1 hw => hw)
 ·have q8 := of_decide_eq_false h8
  have hi2 : i = ss.length := by omega
  subst hi2
  refine TL.end_ (TX.then_ (TC.condF rfl (TC.exit_ (TX.then_exit (TX.then_exit (TX.in_same (TX.then_ (TC.seq_ (TC.region ?_)))))))))
  refine TL.mv ?_
  refine TL.as_ ?_
  refine TL.end_ (TX.then_ (TC.ret_ ?_))
  rw [List.take_length] at hc ⊢
  exact ret_tmp Tryd.results31 rfl (fun w1 hw => ⟨A, c, rfl, hc, hc9, hw.at_ (k := 0) rfl, hw.bel⟩)
theorem results2_any (v run nn : Int) (A0 : Option Addr) (n0 c0 : Nat) (w : World) :
  Calls Tryd.prog 39 #[.agg #[.int .i64 v, .int .i64 run, .int .i64 nn, .slice A0 n0 c0]] w fun e w' => ∃ A c, e = .returned (.slice A 1 c) ∧ 1 ≤ c ∧ c ≤ maxLen ∧ w'.ownsRow w.heap.size 27 17 (.slice A 1 c) 1 (rcs [r2 v run nn]) ∧ Below w.heap.size w w' := by
 refine begin_ (vs := [.agg #[.int .i64 v, .int .i64 run, .int .i64 nn, .slice A0 n0 c0]]) Tryd.func39 rfl rfl rfl ?_ (Pm.start w)
 refine TC.seq_ (TC.region ?_)
 refine TL.pnew rfl rfl rfl (exec_box (cs := [.int .i64 v, .int .i64 run, .int .i64 nn, .slice A0 n0 c0]) rfl rfl rfl) (fun g1 => ?_)
 refine TL.as_ ?_
 refine TL.end_ (TX.then_ (TC.seq_ (TC.region ?_)))
 refine TL.val rfl rfl rfl (gives_field (v := .pointer (some ⟨g1, 0, none⟩)) rfl rfl (fun w => jjofld45_0 _ _ w)) ?_
 refine TL.val rfl rfl rfl (pm_load (k := 0) (i := 0) rfl rfl jjoag3 rfl rfl) ?_
 refine TL.val rfl rfl rfl (gives_field (v := .pointer (some ⟨g1, 1, none⟩)) rfl rfl (fun w => jjofld45_1 _ _ w)) ?_
 refine TL.val rfl rfl rfl (pm_load (k := 0) (i := 1) rfl rfl jjoag3 rfl rfl) ?_
 refine TL.val rfl rfl rfl (gives_field (v := .pointer (some ⟨g1, 2, none⟩)) rfl rfl (fun w => jjofld45_2 _ _ w)) ?_
 refine TL.val rfl rfl rfl (pm_load (k := 0) (i := 2) rfl rfl jjoag3 rfl rfl) ?_
 refine TL.val rfl rfl rfl (gives_build (v := .agg #[.int .i64 v, .int .i64 run, .int .i64 nn, .int .i64 0, .int .u32 0, .int .i64 17, .int .i64 0, .int .i64 1, .bool false, .bool false, .int .i64 0, .int .u32 0, .int .i64 0, .int .i64 0, .int .i64 0, .int .i64 0, .int .i64 0]) rfl rfl (fun w => jjobld27_51059 _ _ _ _ _ w)) ?_
 refine TL.prowS (e := 27) (size := 17) (cs := rcs [r2 v run nn]) rfl rfl rfl rfl rfl (fun w => jjobs33_1_99505 _ _ _ _ _ _ _ _ _ _ _ _ _ _ _ _ _ w) (by decide) rfl (fun g10 => ?_)
 refine TL.as_ ?_
 refine TL.end_ (TX.then_ (TC.ret_ ?_))
 exact ret_tmp Tryd.results39 rfl (fun w1 hw => ⟨_, _, rfl, Nat.le_refl _, by decide, hw.at_ (k := 0) rfl, hw.bel⟩)
end Go.Proofs.YtmeaeeehnkcblaaDoor

namespace Go.Proofs.YtmeaeeehnkcblaaDoor
open Go.RowKit
set_option maxRecDepth 20000
theorem perm3 (a b c : List Pc) : ((a ++ b) ++ c).Perm ((a ++ c) ++ b) := by
  rw [List.append_assoc, List.append_assoc]
  exact List.Perm.append_left a List.perm_append_comm
theorem perm4 (a b c d : List Pc) : ((a ++ b) ++ (c ++ d)).Perm ((a ++ c) ++ (b ++ d)) := by
  rw [List.append_assoc, List.append_assoc]
  refine List.Perm.append_left a ?_
  rw [← List.append_assoc, ← List.append_assoc]
  exact List.Perm.append_right d List.perm_append_comm
theorem Pm.seg {w0 : Base} {w : World} {L T : List Pc} {s : Sl} (h : Pm w0 L w) (n : Nat) (hT : L.drop n = T) (hm : Pc.row s.val 5 1 s.n (bv s.l) ∈ T) (hb : Bs s.l) : Byt w w.heap.size s.A s.n s.l :=
  by
  have h1 : Pc.ok w0.b w (.row s.val 5 1 s.n (bv s.l)) := h.own _ (List.mem_of_mem_drop (i := n) (by rw [hT]; exact hm))
  exact byt_own h1 hb
theorem joinB_eq (ss : List Sl) : joinB ss = (ss.map fun s => s.l).flatten := by simp [joinB, List.flatMap_def]
end Go.Proofs.YtmeaeeehnkcblaaDoor

namespace Go.Proofs.YtmeaeeehnkcblaaDoor
open Go.ChangeShapes Go.WideShapes Go.ChangeAt Go.WideMaps Go.WideElems Go.RowKit
theorem ints_of_trod {P : Program} {W : World} {t e : TypeId} {n fuel : Nat} {k : IntKind} {cs : List Value} {L : List Int} {p : List MemPlace} {held : Bool} {spare : Nat → Bool} (ht : P.underlying t = some (.array n e)) (he : P.underlying e = some (.int k)) (hce : P.cellsOf e = 1) (hct : P.cellsOf t = n)
  (h : DataW.trod (fun _ => ()) P W 0 spare held fuel t cs = some (.agg (L.map fun x => .lit (.int k x)), p)) : cs = L.map (Value.int k) := by
 obtain ⟨xs, m, rfl, hx, hlen, hn, hel⟩ := DataW.trod_array ht h
 simp only [Prod.mk.injEq, DataW.agg.injEq] at hx
 have hx1 := hx.1
 have hll : L.length = xs.length := by have := congrArg List.length hx1; simpa using this
 refine List.ext_getElem? fun i => ?_
 by_cases hi : i < n
 ·have h0 := hel i hi
  rw [hce, Nat.mul_one, List.getElem?_eq_getElem (by omega)] at h0
  obtain ⟨q, e1, e2, _⟩ := DataW.trod_int he h0
  have hq := congrArg (fun l => l[i]?) hx1
  simp only [List.getElem?_map] at hq
  rw [List.getElem?_eq_getElem (show i < xs.length by omega), List.getElem?_eq_getElem (show i < L.length by omega)] at hq
  simp only [Option.map_some, Option.some.injEq] at hq
  rw [e2] at hq
  have hq2 : L[i] = q := by
   injection hq with hq
   injection hq with _ hq
  have hc : cs[i]? = some (.int k q) := by
   have := congrArg (fun l => l[0]?) e1
   simp only [List.getElem?_take, List.getElem?_drop] at this
   simpa using this
  rw [hc, List.getElem?_map, List.getElem?_eq_getElem (show i < L.length by omega), hq2]
  rfl
 ·rw [List.getElem?_eq_none (by omega), List.getElem?_eq_none (by simp; omega)]
abbrev laidL : List (String × DataW Unit) := [("routescope/digest.start", Rows.laid_routescope_digest_start), ("routescope/digest.keys", Rows.laid_routescope_digest_keys)]
theorem gStart : Tryd.prog.globalNamed "routescope/digest.start" = some 0 := by kernel_rfl
theorem gKeys : Tryd.prog.globalNamed "routescope/digest.keys" = some 1 := by kernel_rfl
theorem tStart : (Tryd.prog.globals[0]?).map (·.type) = some 104 := by kernel_rfl
theorem tKeys : (Tryd.prog.globals[1]?).map (·.type) = some 111 := by kernel_rfl
set_option maxRecDepth 100000 in
theorem door_met (os : Os) (args : Array Value) : laidMetH Tryd.prog laidL ((World.doorLaid Tryd.prog 400 os).forCall (fun _ _ => 0) ⟨#[], args, []⟩).memory :=
 laidMetH_of_parts3 (fuel := 8) (laidMet_of_run' 8 (by kernel_rfl) (by kernel_rfl)) (by kernel_rfl) (by kernel_rfl)
theorem row_mem {g n : Nat} (h : 0 < n) : MemPlace.cell g 0 ∈ MemPlace.row ⟨g, 0, none⟩ n := by
 simp [MemPlace.row]
 omega
theorem arrOf_keys : arrOf keysL = (keysL.map (Value.int .u32)).toArray := by kernel_rfl
theorem of_laid {W : World} (h : laidMetH Tryd.prog laidL W) : ∃ ts tk, Blk W 0 ts start8.cells ∧ Blk W 1 tk (arrOf keysL) := by
 rw [MakeChecks.laidMetH_plain _ _ _ (by kernel_rfl)] at h
 obtain ⟨ps, ⟨g0, t0, cs0, f0, p0, q0, hg0, ht0, hv0, hd0, ⟨g1, t1, cs1, f1, p1, q1, hg1, ht1, hv1, hd1, hr1, hq0⟩, hps⟩, hnd, hpl⟩ := h
 obtain rfl := Option.some.inj (gStart.symm.trans hg0)
 obtain rfl := Option.some.inj (gKeys.symm.trans hg1)
 obtain rfl := Option.some.inj (tStart.symm.trans ht0)
 obtain rfl := Option.some.inj (tKeys.symm.trans ht1)
 have e0 : cs0.toList = start8.list.map (Value.int .u32) := ints_of_trod Tryd.underlying104 Tryd.underlying22 (by kernel_rfl) (by kernel_rfl) hd0
 have e1 : cs1.toList = keysL.map (Value.int .u32) := ints_of_trod Tryd.underlying111 Tryd.underlying22 (by kernel_rfl) (by kernel_rfl) hd1
 have s0 : cs0 = start8.cells := by rw [← Array.toList_inj, e0]; rfl
 have s1 : cs1 = arrOf keysL := by rw [← Array.toList_inj, e1, arrOf_keys]
 obtain ⟨⟨c0, u0, h0⟩, _⟩ := hpl 0 0 (by rw [hps]; exact List.mem_append_left _ (List.mem_append_left _ (row_mem (by rw [s0]; decide))))
 obtain ⟨⟨c1, u1, h1⟩, _⟩ := hpl 1 0 (by rw [hps, hq0]; exact List.mem_append_right _ (List.mem_append_left _ (List.mem_append_left _ (row_mem (by rw [s1, arrOf_keys]; decide)))))
 have v0 : c0 = cs0 := by
  have := hv0
  simp only [World.var?, gStart, Option.bind_some, h0, Option.some.injEq] at this
  exact this
 have v1 : c1 = cs1 := by
  have := hv1
  simp only [World.var?, gKeys, Option.bind_some, h1, Option.some.injEq] at this
  exact this
 rw [v0, s0] at h0
 rw [v1, s1] at h1
 exact ⟨u0, u1, h0, h1⟩
end Go.Proofs.YtmeaeeehnkcblaaDoor

namespace Go.Proofs.YtmeaeeehnkcblaaDoor
open Go.ChangeShapes Go.WideShapes Go.ChangeAt Go.RowKit
theorem own : ownKnob Tryd.prog.godebug = none := by kernel_rfl
theorem laidOut : laidOutB Tryd.prog = true := by kernel_rfl
theorem wf_u8 {x : Int} (h : (Lit.int .u8 x).wf = true) : 0 ≤ x ∧ x ≤ 255 := by simpa [Lit.wf, IntKind.min, IntKind.max, IntKind.signed, IntKind.bits] using h
theorem wf_u16 {x : Int} (h : (Lit.int .u16 x).wf = true) : 0 ≤ x ∧ x ≤ 65535 := by simpa [Lit.wf, IntKind.min, IntKind.max, IntKind.signed, IntKind.bits] using h
theorem wf_u32 {x : Int} (h : (Lit.int .u32 x).wf = true) : 0 ≤ x ∧ x ≤ 4294967295 := by simpa [Lit.wf, IntKind.min, IntKind.max, IntKind.signed, IntKind.bits] using h
theorem wf_i64 {x : Int} (h : (Lit.int .i64 x).wf = true) : -9223372036854775808 ≤ x ∧ x ≤ 9223372036854775807 := by simpa [Lit.wf, IntKind.min, IntKind.max, IntKind.signed, IntKind.bits] using h
theorem byt_of_cells {w : World} {a : Addr} {len cap : Nat} {zs : List Int} (hl : len ≤ cap) (hz : zs.length = cap) (hb : 0 < len → a.block < w.heap.size) (hc : ∀ i, i < zs.length → w.cell? (a.add i) = some (.int .u8 (zs.getD i 0)))
  (hw : ∀ n ∈ zs, (Lit.int .u8 n).wf = true) : Byt w w.heap.size (some a) len (zs.take len) := by
 refine ⟨⟨by simp [bv]; omega, fun hn => ⟨a, rfl, hb hn, fun j u hu => ?_⟩⟩, fun x hx => wf_u8 (hw x (List.mem_of_mem_take hx))⟩
 simp only [bv, List.getElem?_map, List.getElem?_take] at hu
 split at hu
 ·rename_i hj
  have hjl : j < zs.length := by omega
  rw [List.getElem?_eq_getElem hjl] at hu
  rw [hc j hjl]
  simp only [Option.map_some, Option.some.injEq] at hu
  rw [← hu]
  simp [List.getD, List.getElem?_eq_getElem hjl]
 ·simp at hu
section
variable {H : Type} {enc : TypeId × Value → H} {P : Program} {W : World}
theorem open_byt {t e : TypeId} {base : Nat} {v : Value} {d : DataW H} {p : List MemPlace} (ht : P.underlying t = some (.slice e)) (he : P.underlying e = some (.int .u8)) (hC : P.cellsOf e = 1)
  (hok : Value.okWide P W .any base t v) (h : DataW.Trod enc P W 0 (fun _ => true) true t v d p) : ∃ A n c l, v = .slice A n c ∧ n ≤ c ∧ c ≤ maxLen ∧ Byt W W.heap.size A n l := by
 obtain ⟨a0, len0, cap0, rfl⟩ := okWide_slice ht hok
 obtain ⟨fuel, hf⟩ := h
 rcases open_ints ht he hC hf with ⟨hcs, _⟩ | ⟨x, l, c, zs, hcs, _, hl, hm, hz, _, hcell, hwz⟩
 ·simp [Value.cells] at hcs
  obtain ⟨rfl, rfl, rfl⟩ := hcs
  exact ⟨none, 0, 0, [], rfl, Nat.le_refl _, Nat.zero_le _, Byt.none_ _ _⟩
 ·simp [Value.cells] at hcs
  obtain ⟨rfl, rfl, rfl⟩ := hcs
  have hz' : zs.length = cap0 := by simpa using hz
  refine ⟨_, len0, cap0, zs.take len0, rfl, hl, hm, byt_of_cells hl hz' (fun hn => ?_) hcell hwz⟩
  have := World.block_lt_of_cell? W _ (hcell 0 (by omega))
  rwa [block_of_add] at this
end
end Go.Proofs.YtmeaeeehnkcblaaDoor
