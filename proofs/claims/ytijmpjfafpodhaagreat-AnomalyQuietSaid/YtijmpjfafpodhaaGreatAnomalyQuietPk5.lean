/-
  Texts of the proof, joined: AnSe, AnFd, SymFld, DcRs, DcShu, DcRes, SymRdA, DcRep, AnAwk, AqLaw, BdRad, BdRX, AnLQ.
-/
import Derived.Test.YtijmpjfafpodhaaGreatAnomalyQuietPk4
import Derived.Test.YtijmpjfafpodhaaGreatAnomalyQuietPk2
import Derived.Test.YtijmpjfafpodhaaGreatAnomalyQuietPk1
import Derived.Test.YtijmpjfafpodhaaGreatAnomalyQuietPk3
set_option linter.unusedVariables false
set_option linter.unusedSimpArgs false
namespace Go.Proofs.YtijmpjfafpodhaaGreat
open Go.RowKit
set_option maxRecDepth 20000
noncomputable def pdec (Q : Prop) : Bool := @decide Q (Classical.propDecidable Q)
theorem pdec_iff {Q : Prop} : pdec Q = true ↔ Q := by unfold pdec; exact @decide_eq_true_iff Q (Classical.propDecidable Q)
theorem pdec_of {Q : Prop} {b : Bool} (h : b = true ↔ Q) : b = pdec Q := by
  rw [Bool.eq_iff_iff, h, pdec_iff]
theorem asenm139 : (Tryz.f139.name == "runtime.NumGoroutine") = false := by decide
theorem asebd139 : Tryz.f139.body.isNone = false := rfl
theorem asebld34_50680 (a0_0 : Int) (a1_0 : Int) (a1_1 : Int) (a1_2 : Int) (a2_0 : Int) (w : World) : (Instr.build 34 #[(0, .int .i64 a0_0), (1, .agg #[.int .i64 a1_0, .int .u32 a1_1, .int .i64 a1_2]), (2, .int .i64 a2_0)]).run Tryz.prog w = .ok (.agg #[.int .i64 a0_0, .int .i64 a1_0, .int .u32 a1_1, .int .i64 a1_2, .int .i64 a2_0, .int .i64 0, .int .i64 0, .int .i64 0]) w := by kernel_rfl
theorem asezv34 (w : World) : (zeroValue 34).run Tryz.prog w = .ok (.agg #[.int .i64 0, .int .i64 0, .int .u32 0, .int .i64 0, .int .i64 0, .int .i64 0, .int .i64 0, .int .i64 0]) w := rfl
theorem aseone_i64i64u32i64i64i64i64i64 {a0 : Int} {a1 : Int} {a2 : Int} {a3 : Int} {a4 : Int} {a5 : Int} {a6 : Int} {a7 : Int} : ∀ u ∈ [(.int .i64 a0 : Value), .int .i64 a1, .int .u32 a2, .int .i64 a3, .int .i64 a4, .int .i64 a5, .int .i64 a6, .int .i64 a7], u.oneCell' = true := by
  intro u hu
  simp only [List.mem_cons, List.not_mem_nil, or_false] at hu
  rcases hu with rfl | rfl | rfl | rfl | rfl | rfl | rfl | rfl <;> rfl
theorem asenm140 : (Tryz.f140.name == "runtime.NumGoroutine") = false := by decide
theorem asebd140 : Tryz.f140.body.isNone = false := rfl
theorem asenm141 : (Tryz.f141.name == "runtime.NumGoroutine") = false := by decide
theorem asebd141 : Tryz.f141.body.isNone = false := rfl
theorem asenm77 : (Tryz.f77.name == "runtime.NumGoroutine") = false := by decide
theorem asebd77 : Tryz.f77.body.isNone = false := rfl
theorem asezv23 (w : World) : (zeroValue 23).run Tryz.prog w = .ok (.slice none 0 0) w := rfl
theorem asesz23 (w : World) : (sizeOf 23).run Tryz.prog w = .ok 1 w := rfl
theorem aseone_s {a0 : Option Addr} {n0 c0 : Nat} : ∀ u ∈ [(.slice a0 n0 c0 : Value)], u.oneCell' = true := by
  intro u hu
  rw [List.mem_singleton] at hu
  subst hu; rfl
theorem asenm142 : (Tryz.f142.name == "runtime.NumGoroutine") = false := by decide
theorem asebd142 : Tryz.f142.body.isNone = false := rfl
theorem aseel49 : Elem Tryz.prog 49 34 8 64 := Elem.mk' Tryz.underlying49 (z := .agg #[.int .i64 0, .int .i64 0, .int .u32 0, .int .i64 0, .int .i64 0, .int .i64 0, .int .i64 0, .int .i64 0]) (by kernel_rfl) rfl (by omega) (by omega)
theorem asenm82 : (Tryz.f82.name == "runtime.NumGoroutine") = false := by decide
theorem asebd82 : Tryz.f82.body.isNone = false := rfl
theorem asezv106 (w : World) : (zeroValue 106).run Tryz.prog w = .ok (.slice none 0 0) w := rfl
theorem asesz106 (w : World) : (sizeOf 106).run Tryz.prog w = .ok 1 w := rfl
theorem asenm143 : (Tryz.f143.name == "runtime.NumGoroutine") = false := by decide
theorem asebd143 : Tryz.f143.body.isNone = false := rfl
theorem asenm144 : (Tryz.f144.name == "runtime.NumGoroutine") = false := by decide
theorem asebd144 : Tryz.f144.body.isNone = false := rfl
set_option maxHeartbeats 1000000 in
theorem search_any (A0 : Option Addr) (c0 : Nat) (l : List Rs) (A1 : Option Addr) (c1 : Nat) (es : List En) (u : Ru) (r0 : Rs) (w : World) (hr : Reads w w.heap.size 17 A0 l.length (flat Rs.cells l)) (hl1 : l.length ≤ 100000) (hr1 : Reads w w.heap.size 5 A1 es.length (flat En.cells es)) (hl5 : l.length ≤ 512) (h0 : l[0]? = some r0) (hin : ∀ r ∈ l, r.inRange) (hu : 1 ≤ u.prb) :
    Calls Tryz.prog 92 #[.slice A0 l.length c0, .agg #[.slice A1 es.length c1], .agg u.cells.toArray] w fun e w' => ∃ x : {y : (Option Addr × Nat) × List Rp // (MinU (PrS es l u) (TmS r0 l) y.2 ∧ y.2.length ≤ 262657) ∧ y.2.length ≤ y.1.2 ∧ y.1.2 ≤ maxLen}, e = .returned (.slice x.1.1.1 x.1.2.length x.1.1.2) ∧ Pm w [.row (.slice x.1.1.1 x.1.2.length x.1.1.2) 34 8 x.1.2.length (flat Rp.cells x.1.2)] w' := by
  have hl0 : 0 < l.length := (List.getElem?_eq_some_iff.1 h0).1
  refine begin_ (vs := [.slice A0 l.length c0, .agg #[.slice A1 es.length c1], .agg u.cells.toArray]) Tryz.func92 rfl rfl rfl ?_ (Pm.start w)
  refine TC.seq_ ?_
  refine TC.region ?_
  refine TL.pnew rfl rfl rfl (exec_box (cs := [.slice A0 l.length c0]) rfl rfl rfl) (fun g3 => ?_)
  refine TL.pnew rfl rfl rfl (exec_box (cs := [.slice A1 es.length c1]) rfl rfl rfl) (fun g4 => ?_)
  refine TL.pnew rfl rfl rfl (exec_box (cs := u.cells) rfl rfl rfl) (fun g5 => ?_)
  refine TL.val rfl rfl rfl (gives_assign rfl rfl) ?_
  refine TL.end_ ?_
  refine TX.then_ ?_
  refine TC.seq_ ?_
  refine TC.region ?_
  refine TL.val rfl rfl rfl (gives_assign rfl rfl) ?_
  refine TL.val rfl rfl rfl (gives_assign rfl rfl) ?_
  refine TL.end_ ?_
  refine TX.then_ ?_
  refine TC.seq_ ?_
  refine TC.seq_ ?_
  refine TC.region ?_
  refine TL.val rfl rfl rfl (pm_load (k := 2) (i := 0) rfl rfl aeaag23 rfl rfl) ?_
  refine TL.val rfl rfl rfl (gives_len rfl Tryz.underlying23 rfl) ?_
  refine TL.val rfl rfl rfl (gives_move rfl rfl) ?_
  refine TL.end_ ?_
  refine TX.then_ ?_
  refine TC.block ?_
  refine TC.nilrow 3 1 ?_
  refine TC.nilrow 3 1 ?_
  refine TC.loop_ (α := {y : Nat × (Option Addr × Nat) × (Option Addr × Nat) × List Int × List Int // y.1 ≤ l.length ∧ (l.take y.1).map (fun s : Rs => s.at_) = y.2.2.2.1 ∧ (l.take y.1).map (fun s : Rs => s.ttl) = y.2.2.2.2 ∧ y.2.2.2.1.length ≤ y.2.1.2 ∧ y.2.1.2 ≤ maxLen ∧ y.2.2.2.2.length ≤ y.2.2.1.2 ∧ y.2.2.1.2 ≤ maxLen}) (fun y => [(3, .pointer (some ⟨g3, 0, none⟩)), (4, .pointer (some ⟨g4, 0, none⟩)), (5, .pointer (some ⟨g5, 0, none⟩)), (18, .slice A0 l.length c0), (19, .int .i64 (l.length : Nat)), (20, .int .i64 ((y.1.1 : Nat) : Int)), (7, .slice y.1.2.1.1 y.1.2.2.2.1.length y.1.2.1.2), (8, .slice y.1.2.2.1.1 y.1.2.2.2.2.length y.1.2.2.1.2)]) (fun y => Pm w [.row (.slice y.1.2.1.1 y.1.2.2.2.1.length y.1.2.1.2) 3 1 y.1.2.2.2.1.length (flat (ic .i64) y.1.2.2.2.1), .row (.slice y.1.2.2.1.1 y.1.2.2.2.2.length y.1.2.2.1.2) 3 1 y.1.2.2.2.2.length (flat (ic .i64) y.1.2.2.2.2), .blk g5 28 u.cells, .blk g4 26 [.slice A1 es.length c1], .blk g3 23 [.slice A0 l.length c0]]) (fun y => l.length - y.1.1) (⟨(0, (none, 0), (none, 0), [], []), Nat.zero_le _, rfl, rfl, Nat.le_refl _, Nat.zero_le _, Nat.le_refl _, Nat.zero_le _⟩) ⟨rfl, rfl, rfl, rfl, rfl, rfl, rfl, rfl, trivial⟩ (fun w1 hw => hw) ?_
  rintro ⟨⟨i, ⟨At, ct⟩, ⟨Al, cl⟩, tm, tt⟩, hi, hT, hL, hc1, hc2, hc3, hc4⟩
  dsimp only at hi hT hL hc1 hc2 hc3 hc4 ⊢
  have htl : tm.length ≤ 512 := by rw [← hT, List.length_map, List.length_take]; omega
  have hll : tt.length ≤ 512 := by rw [← hL, List.length_map, List.length_take]; omega
  refine TC.seq_ ?_
  refine TC.region ?_
  refine TL.vsplit rfl rfl rfl (gives_bin rfl rfl rfl (fun w => bin_lss w)) (fun h21 => ?_) (fun h21 => ?_)
  · have q21 := of_decide_eq_true h21
    refine TL.end_ ?_
    refine TX.then_ ?_
    refine TC.seq_ ?_
    refine TC.condT rfl ?_
    refine TC.skip_ ?_
    refine TX.then_ ?_
    refine TC.seq_ ?_
    refine TC.block ?_
    refine TC.seq_ ?_
    refine TC.region ?_
    have hi22 : i < l.length := by omega
    obtain ⟨x22, hx22⟩ : ∃ x22, l[i]? = some x22 := ⟨_, List.getElem?_eq_getElem hi22⟩
    obtain ⟨b22, o22, hA22, hbb22, hc22⟩ := hr.ad (by omega) (by decide)
    refine TL.val rfl rfl rfl (gives_at (v := .pointer (some ⟨b22, o22 + i * 17, none⟩)) rfl rfl rfl (fun w => at_el Tryz.underlying23 prssz65 hA22 _ _ i (by omega) rfl w)) ?_
    refine TL.val rfl rfl rfl (gives_loadR (off := o22 + i * 17) rfl rfl prsag65 prssz65 (rs_cel.len x22) (fun w1 hw j9 u9 h9 => (hw.bel.cell hbb22).trans <| flat_cell rs_cel hx22 hc22 j9 u9 h9)) ?_
    refine TL.pnew rfl rfl rfl (exec_alloc (cs := [.int .i64 0, .int .i64 0, .int .i64 0, .int .i64 0, .int .u32 0, .int .i64 0, .int .i64 0, .int .i64 0, .bool false, .bool false, .int .i64 0, .int .u32 0, .int .i64 0, .int .i64 0, .int .i64 0, .int .i64 0, .int .i64 0]) rfl arpzv65 rfl) (fun g10 => ?_)
    refine TL.pstore (k := 0) (vs := x22.cells) rfl rfl rfl rfl rfl rfl rfl prssz65 (rs_cel.one _) (by show 17 ≤ 17; decide) (L' := [.blk g10 65 x22.cells, .row (.slice At tm.length ct) 3 1 tm.length (flat (ic .i64) tm), .row (.slice Al tt.length cl) 3 1 tt.length (flat (ic .i64) tt), .blk g5 28 u.cells, .blk g4 26 [.slice A1 es.length c1], .blk g3 23 [.slice A0 l.length c0]]) rfl ?_
    refine TL.end_ ?_
    refine TX.then_ ?_
    refine TC.held (ls := #[false, false, false, false, false, false, false, false, false, false, false, false]) (Pm w [.blk g10 65 x22.cells]) (by kernel_rfl) rfl rfl (fun w hw => hw.drawn _) ?_
    refine TH.take (listed' := #[true, false, false, false, false, false, false, false, false, false, false, false]) 0 rfl (by kernel_rfl) (by kernel_rfl) (by kernel_rfl) rfl rfl rfl rfl (gives_move rfl rfl) (fun w1 hw => hw.pick [0] (by decide) rfl) ?_
    refine TH.take (listed' := #[true, true, false, false, false, false, false, false, false, false, false, false]) 1 rfl (by kernel_rfl) (by kernel_rfl) (by kernel_rfl) rfl rfl rfl rfl (gives_field (v := .pointer (some ⟨g10, 3, none⟩)) rfl rfl (fun w => prsfld65_3 _ _ w)) (fun w1 hw => hw.pick [0] (by decide) rfl) ?_
    refine TH.take (listed' := #[true, true, true, false, false, false, false, false, false, false, false, false]) 2 rfl (by kernel_rfl) (by kernel_rfl) (by kernel_rfl) rfl rfl rfl rfl (pm_load (k := 0) (i := 3) rfl rfl pcmag3 rfl rfl) (fun w1 hw => hw.pick [0] (by decide) rfl) ?_
    refine TH.take (listed' := #[true, true, true, false, false, true, false, false, false, false, false, false]) 5 rfl (by kernel_rfl) (by kernel_rfl) (by kernel_rfl) rfl rfl rfl rfl (gives_move rfl rfl) (fun w1 hw => hw.pick [0] (by decide) rfl) ?_
    refine TH.take (listed' := #[true, true, true, false, false, true, true, false, false, false, false, false]) 6 rfl (by kernel_rfl) (by kernel_rfl) (by kernel_rfl) rfl rfl rfl rfl (gives_field (v := .pointer (some ⟨g10, 7, none⟩)) rfl rfl (fun w => prsfld65_7 _ _ w)) (fun w1 hw => hw.pick [0] (by decide) rfl) ?_
    refine TH.take (listed' := #[true, true, true, false, false, true, true, true, false, false, false, false]) 7 rfl (by kernel_rfl) (by kernel_rfl) (by kernel_rfl) rfl rfl rfl rfl (pm_load (k := 0) (i := 7) rfl rfl pcmag3 rfl rfl) (fun w1 hw => hw.pick [0] (by decide) rfl) ?_
    refine TH.two' (listed1 := #[true, true, true, true, false, true, true, true, false, false, false, false]) (listed2 := #[true, true, true, false, false, true, true, true, true, false, false, false]) 3 8 rfl rfl (by kernel_rfl) rfl rfl ?_ ?_
    · refine TL.prowS (e := 3) (size := 1) (cs := flat (ic .i64) [x22.at_]) rfl rfl rfl rfl rfl (fun w => adtbs106_1_5377 _ w) (by decide) rfl (fun g27 => ?_)
      refine TL.end_ ?_
      refine TX.held (fun w1 hw => hw.pick [1] (by decide) rfl) ?_
      refine TH.two' (listed1 := #[true, true, true, true, true, true, true, true, false, false, false, false]) (listed2 := #[true, true, true, true, false, true, true, true, true, false, false, false]) 4 8 rfl rfl (by kernel_rfl) rfl rfl ?_ ?_
      · refine TL.appendT (k := 2) rfl rfl rfl rfl Tryz.underlying106 adtel106 rfl rfl rfl (fun w1 hw => pm_reads hw (k := 0) rfl) (flat_one (ic_cel .i64) _) (by show _ * 8 ≤ _; omega) ((tm ++ [x22.at_]).length) (by rw [List.length_append]; rfl) (flat (ic .i64) (tm ++ [x22.at_])) ((flat_app _ _).symm) (fun A28 c28 hA281 hA282 => ?_)
        refine TL.end_ ?_
        refine TX.held (fun w1 hw => hw.pick [1] (by decide) rfl) ?_
        refine TH.only' (listed' := #[true, true, true, true, true, true, true, true, true, false, false, false]) 8 rfl (by kernel_rfl) rfl ?_
        refine TL.prowS (e := 3) (size := 1) (cs := flat (ic .i64) [x22.ttl]) rfl rfl rfl rfl rfl (fun w => adtbs106_1_5377 _ w) (by decide) rfl (fun g32 => ?_)
        refine TL.end_ ?_
        refine TX.held (fun w1 hw => hw.pick [2] (by decide) rfl) ?_
        refine TH.only' (listed' := #[true, true, true, true, true, true, true, true, true, true, false, false]) 9 rfl (by kernel_rfl) rfl ?_
        refine TL.appendT (k := 4) rfl rfl rfl rfl Tryz.underlying106 adtel106 rfl rfl rfl (fun w1 hw => pm_reads hw (k := 0) rfl) (flat_one (ic_cel .i64) _) (by show _ * 8 ≤ _; omega) ((tt ++ [x22.ttl]).length) (by rw [List.length_append]; rfl) (flat (ic .i64) (tt ++ [x22.ttl])) ((flat_app _ _).symm) (fun A33 c33 hA331 hA332 => ?_)
        refine TL.end_ ?_
        refine TX.held (fun w1 hw => hw.pick [2] (by decide) rfl) ?_
        refine TH.take (listed' := #[true, true, true, true, true, true, true, true, true, true, true, false]) 10 rfl (by kernel_rfl) (by kernel_rfl) (by kernel_rfl) rfl rfl rfl rfl (gives_assign rfl rfl) (fun w1 hw => hw.pick [2] (by decide) rfl) ?_
        refine TH.take (listed' := #[true, true, true, true, true, true, true, true, true, true, true, true]) 11 rfl (by kernel_rfl) (by kernel_rfl) (by kernel_rfl) rfl rfl rfl rfl (gives_assign rfl rfl) (fun w1 hw => hw.pick [2] (by decide) rfl) ?_
        refine TH.done (by kernel_rfl) ?_
        refine TX.in_normal ?_
        refine TX.then_ ?_
        refine TC.region ?_
        refine TL.val rfl rfl rfl (gives_bin rfl rfl rfl (fun w => bin_add_ (r := ((i + 1 : Nat) : Int)) (by simp only [IntKind.wrap_i64]; omega) w)) ?_
        refine TL.val rfl rfl rfl (gives_move rfl rfl) ?_
        refine TL.end_ ?_
        exact TX.round (⟨(i + 1, (A28, c28), (A33, c33), tm ++ [x22.at_], tt ++ [x22.ttl]), by dsimp only; omega, mapt_snoc (f := fun s : Rs => s.at_) hx22 hT, mapt_snoc (f := fun s : Rs => s.ttl) hx22 hL, hA281, hA282, hA331, hA332⟩) (by show l.length - (i + 1) < l.length - i; omega) ⟨rfl, rfl, rfl, rfl, rfl, rfl, rfl, rfl, trivial⟩ (fun w1 hw => hw.pick [3, 4, 5, 6, 7] (by decide) rfl)
      · refine TL.prowS (e := 3) (size := 1) (cs := flat (ic .i64) [x22.ttl]) rfl rfl rfl rfl rfl (fun w => adtbs106_1_5377 _ w) (by decide) rfl (fun g32 => ?_)
        refine TL.end_ ?_
        refine TX.held (fun w1 hw => hw.pick [2] (by decide) rfl) ?_
        refine TH.only' (listed' := #[true, true, true, true, true, true, true, true, true, false, false, false]) 4 rfl (by kernel_rfl) rfl ?_
        refine TL.appendT (k := 3) rfl rfl rfl rfl Tryz.underlying106 adtel106 rfl rfl rfl (fun w1 hw => pm_reads hw (k := 1) rfl) (flat_one (ic_cel .i64) _) (by show _ * 8 ≤ _; omega) ((tm ++ [x22.at_]).length) (by rw [List.length_append]; rfl) (flat (ic .i64) (tm ++ [x22.at_])) ((flat_app _ _).symm) (fun A28 c28 hA281 hA282 => ?_)
        refine TL.end_ ?_
        refine TX.held (fun w1 hw => hw.pick [2] (by decide) rfl) ?_
        refine TH.only' (listed' := #[true, true, true, true, true, true, true, true, true, true, false, false]) 9 rfl (by kernel_rfl) rfl ?_
        refine TL.appendT (k := 4) rfl rfl rfl rfl Tryz.underlying106 adtel106 rfl rfl rfl (fun w1 hw => pm_reads hw (k := 0) rfl) (flat_one (ic_cel .i64) _) (by show _ * 8 ≤ _; omega) ((tt ++ [x22.ttl]).length) (by rw [List.length_append]; rfl) (flat (ic .i64) (tt ++ [x22.ttl])) ((flat_app _ _).symm) (fun A33 c33 hA331 hA332 => ?_)
        refine TL.end_ ?_
        refine TX.held (fun w1 hw => hw.pick [2] (by decide) rfl) ?_
        refine TH.take (listed' := #[true, true, true, true, true, true, true, true, true, true, true, false]) 10 rfl (by kernel_rfl) (by kernel_rfl) (by kernel_rfl) rfl rfl rfl rfl (gives_assign rfl rfl) (fun w1 hw => hw.pick [2] (by decide) rfl) ?_
        refine TH.take (listed' := #[true, true, true, true, true, true, true, true, true, true, true, true]) 11 rfl (by kernel_rfl) (by kernel_rfl) (by kernel_rfl) rfl rfl rfl rfl (gives_assign rfl rfl) (fun w1 hw => hw.pick [2] (by decide) rfl) ?_
        refine TH.done (by kernel_rfl) ?_
        refine TX.in_normal ?_
        refine TX.then_ ?_
        refine TC.region ?_
        refine TL.val rfl rfl rfl (gives_bin rfl rfl rfl (fun w => bin_add_ (r := ((i + 1 : Nat) : Int)) (by simp only [IntKind.wrap_i64]; omega) w)) ?_
        refine TL.val rfl rfl rfl (gives_move rfl rfl) ?_
        refine TL.end_ ?_
        exact TX.round (⟨(i + 1, (A28, c28), (A33, c33), tm ++ [x22.at_], tt ++ [x22.ttl]), by dsimp only; omega, mapt_snoc (f := fun s : Rs => s.at_) hx22 hT, mapt_snoc (f := fun s : Rs => s.ttl) hx22 hL, hA281, hA282, hA331, hA332⟩) (by show l.length - (i + 1) < l.length - i; omega) ⟨rfl, rfl, rfl, rfl, rfl, rfl, rfl, rfl, trivial⟩ (fun w1 hw => hw.pick [3, 4, 5, 6, 7] (by decide) rfl)
    · refine TL.prowS (e := 3) (size := 1) (cs := flat (ic .i64) [x22.ttl]) rfl rfl rfl rfl rfl (fun w => adtbs106_1_5377 _ w) (by decide) rfl (fun g32 => ?_)
      refine TL.end_ ?_
      refine TX.held (fun w1 hw => hw.pick [1] (by decide) rfl) ?_
      refine TH.only' (listed' := #[true, true, true, true, false, true, true, true, true, false, false, false]) 3 rfl (by kernel_rfl) rfl ?_
      refine TL.prowS (e := 3) (size := 1) (cs := flat (ic .i64) [x22.at_]) rfl rfl rfl rfl rfl (fun w => adtbs106_1_5377 _ w) (by decide) rfl (fun g27 => ?_)
      refine TL.end_ ?_
      refine TX.held (fun w1 hw => hw.pick [2] (by decide) rfl) ?_
      refine TH.only' (listed' := #[true, true, true, true, true, true, true, true, true, false, false, false]) 4 rfl (by kernel_rfl) rfl ?_
      refine TL.appendT (k := 3) rfl rfl rfl rfl Tryz.underlying106 adtel106 rfl rfl rfl (fun w1 hw => pm_reads hw (k := 0) rfl) (flat_one (ic_cel .i64) _) (by show _ * 8 ≤ _; omega) ((tm ++ [x22.at_]).length) (by rw [List.length_append]; rfl) (flat (ic .i64) (tm ++ [x22.at_])) ((flat_app _ _).symm) (fun A28 c28 hA281 hA282 => ?_)
      refine TL.end_ ?_
      refine TX.held (fun w1 hw => hw.pick [2] (by decide) rfl) ?_
      refine TH.only' (listed' := #[true, true, true, true, true, true, true, true, true, true, false, false]) 9 rfl (by kernel_rfl) rfl ?_
      refine TL.appendT (k := 4) rfl rfl rfl rfl Tryz.underlying106 adtel106 rfl rfl rfl (fun w1 hw => pm_reads hw (k := 1) rfl) (flat_one (ic_cel .i64) _) (by show _ * 8 ≤ _; omega) ((tt ++ [x22.ttl]).length) (by rw [List.length_append]; rfl) (flat (ic .i64) (tt ++ [x22.ttl])) ((flat_app _ _).symm) (fun A33 c33 hA331 hA332 => ?_)
      refine TL.end_ ?_
      refine TX.held (fun w1 hw => hw.pick [2] (by decide) rfl) ?_
      refine TH.take (listed' := #[true, true, true, true, true, true, true, true, true, true, true, false]) 10 rfl (by kernel_rfl) (by kernel_rfl) (by kernel_rfl) rfl rfl rfl rfl (gives_assign rfl rfl) (fun w1 hw => hw.pick [2] (by decide) rfl) ?_
      refine TH.take (listed' := #[true, true, true, true, true, true, true, true, true, true, true, true]) 11 rfl (by kernel_rfl) (by kernel_rfl) (by kernel_rfl) rfl rfl rfl rfl (gives_assign rfl rfl) (fun w1 hw => hw.pick [2] (by decide) rfl) ?_
      refine TH.done (by kernel_rfl) ?_
      refine TX.in_normal ?_
      refine TX.then_ ?_
      refine TC.region ?_
      refine TL.val rfl rfl rfl (gives_bin rfl rfl rfl (fun w => bin_add_ (r := ((i + 1 : Nat) : Int)) (by simp only [IntKind.wrap_i64]; omega) w)) ?_
      refine TL.val rfl rfl rfl (gives_move rfl rfl) ?_
      refine TL.end_ ?_
      exact TX.round (⟨(i + 1, (A28, c28), (A33, c33), tm ++ [x22.at_], tt ++ [x22.ttl]), by dsimp only; omega, mapt_snoc (f := fun s : Rs => s.at_) hx22 hT, mapt_snoc (f := fun s : Rs => s.ttl) hx22 hL, hA281, hA282, hA331, hA332⟩) (by show l.length - (i + 1) < l.length - i; omega) ⟨rfl, rfl, rfl, rfl, rfl, rfl, rfl, rfl, trivial⟩ (fun w1 hw => hw.pick [3, 4, 5, 6, 7] (by decide) rfl)
  · have q21 := of_decide_eq_false h21
    refine TL.end_ ?_
    refine TX.then_ ?_
    refine TC.seq_ ?_
    refine TC.condF rfl ?_
    refine TC.exit_ ?_
    refine TX.then_exit ?_
    refine TX.then_exit ?_
    refine TX.in_same ?_
    refine TX.then_ ?_
    refine TC.seq_ ?_
    have hT2 : l.map (fun s : Rs => s.at_) = tm := by rw [List.take_of_length_le (by omega)] at hT; exact hT
    have hL2 : l.map (fun s : Rs => s.ttl) = tt := by rw [List.take_of_length_le (by omega)] at hL; exact hL
    have html : tm.length = l.length := by rw [← hT2, List.length_map]
    have httl : tt.length = l.length := by rw [← hL2, List.length_map]
    refine TC.region ?_
    refine TL.val rfl rfl rfl (gives_move rfl rfl) ?_
    refine TL.turnRowD (k := 0) (fun ys => SortedI tm ys) rfl rfl rfl rfl rfl Tryz.func124 acgnm124 acgbd124 rfl (fun w1 hw hr9 => sortInt hr9 rfl (by omega)) (fun sT hsT => ?_)
    try dsimp only [List.set_cons_zero, List.set_cons_succ]
    have hsTl : sT.length = tm.length := hsT.1.length_eq
    have hsTc : (cptG sT).length ≤ sT.length := cptG_le sT
    refine TL.end_ ?_
    refine TX.then_ ?_
    refine TC.seq_ ?_
    refine TC.region ?_
    refine TL.val rfl rfl rfl (gives_move rfl rfl) ?_
    refine TL.turnRowD (k := 1) (fun ys => SortedI tt ys) rfl rfl rfl rfl rfl Tryz.func124 acgnm124 acgbd124 rfl (fun w1 hw hr9 => sortInt hr9 rfl (by omega)) (fun sL hsL => ?_)
    try dsimp only [List.set_cons_zero, List.set_cons_succ]
    have hsLl : sL.length = tt.length := hsL.1.length_eq
    have hsLc : (cptG sL).length ≤ sL.length := cptG_le sL
    refine TL.end_ ?_
    refine TX.then_ ?_
    refine TC.seq_ ?_
    have hnT : IsNum (l.map (fun s : Rs => s.at_)) (cptG sT) := by rw [hT2]; exact isNum_of hsT
    have hnL : IsNum (l.map (fun s : Rs => s.ttl)) (cptG sL) := by rw [hL2]; exact isNum_of hsL
    refine TC.region ?_
    refine TL.val rfl rfl rfl (gives_move rfl rfl) ?_
    refine TL.turnRow2 (q := 0) (ys := cptG sT) rfl rfl rfl rfl rfl Tryz.func139 asenm139 asebd139 rfl (fun w1 hw hr9 => compactInt hr9 (hsTl) (by omega)) ?_
    try dsimp only [List.set_cons_zero, List.set_cons_succ]
    refine TL.val rfl rfl rfl (gives_move rfl rfl) ?_
    refine TL.turnRow2 (q := 1) (ys := cptG sL) rfl rfl rfl rfl rfl Tryz.func139 asenm139 asebd139 rfl (fun w1 hw hr9 => compactInt hr9 (hsLl) (by omega)) ?_
    try dsimp only [List.set_cons_zero, List.set_cons_succ]
    refine TL.val rfl rfl rfl (gives_assign rfl rfl) ?_
    refine TL.val rfl rfl rfl (gives_assign rfl rfl) ?_
    refine TL.end_ ?_
    refine TX.then_ ?_
    obtain ⟨b44, o44, hA44, hbb44, hc44⟩ := hr.ad (by omega) (by decide)
    have hx44 := h0
    refine TC.join (α := Nat) (fun y => [(3, .pointer (some ⟨g3, 0, none⟩)), (4, .pointer (some ⟨g4, 0, none⟩)), (5, .pointer (some ⟨g5, 0, none⟩)), (7, .slice At ((cptG sT).length) ct), (8, .slice Al ((cptG sL).length) cl), (11, .pointer (some ⟨y, 0, none⟩))]) (fun y => Pm w [.blk y 34 [.int .i64 1, .int .i64 r0.v, .int .u32 r0.dst, .int .i64 r0.proto, .int .i64 r0.flow, .int .i64 0, .int .i64 0, .int .i64 0], .row (.slice At ((cptG sT).length) ct) 3 1 ((cptG sT).length) (flat (ic .i64) (cptG sT)), .row (.slice Al ((cptG sL).length) cl) 3 1 ((cptG sL).length) (flat (ic .i64) (cptG sL)), .blk g5 28 u.cells, .blk g4 26 [.slice A1 es.length c1], .blk g3 23 [.slice A0 l.length c0]]) ?_ ?_
    · refine TC.held (ls := #[false, false, false, false, false, false, false, false, false, false, false]) (Pm w [.blk g3 23 [.slice A0 l.length c0]]) (by kernel_rfl) rfl rfl (fun w hw => hw.drawn _) ?_
      refine TH.take (listed' := #[true, false, false, false, false, false, false, false, false, false, false]) 0 rfl (by kernel_rfl) (by kernel_rfl) (by kernel_rfl) rfl rfl rfl rfl (pm_load (k := 0) (i := 0) rfl rfl aeaag23 rfl rfl) (fun w1 hw => hw.pick [4] (by decide) rfl) ?_
      refine TH.take (listed' := #[true, true, false, false, false, false, false, false, false, false, false]) 1 rfl (by kernel_rfl) (by kernel_rfl) (by kernel_rfl) rfl rfl rfl rfl (gives_at (v := .pointer (some ⟨b44, o44 + 0 * 17, none⟩)) rfl rfl rfl (fun w => at_el Tryz.underlying23 prssz65 hA44 _ _ 0 (by omega) rfl w)) (fun w1 hw => hw.pick [4] (by decide) rfl) ?_
      refine TH.take (listed' := #[true, true, true, false, false, false, false, false, false, false, false]) 2 rfl (by kernel_rfl) (by kernel_rfl) (by kernel_rfl) rfl rfl rfl rfl (gives_loadR (off := o44 + 0 * 17) rfl rfl prsag65 prssz65 (rs_cel.len r0) (fun w1 hw j9 u9 h9 => (hw.bel.cell hbb44).trans <| flat_cell rs_cel hx44 hc44 j9 u9 h9)) (fun w1 hw => hw.pick [4] (by decide) rfl) ?_
      refine TH.take (listed' := #[true, true, true, false, true, false, false, false, false, false, false]) 4 rfl (by kernel_rfl) (by kernel_rfl) (by kernel_rfl) rfl rfl rfl rfl (pm_load (k := 0) (i := 0) rfl rfl aeaag23 rfl rfl) (fun w1 hw => hw.pick [4] (by decide) rfl) ?_
      refine TH.take (listed' := #[true, true, true, false, true, true, false, false, false, false, false]) 5 rfl (by kernel_rfl) (by kernel_rfl) (by kernel_rfl) rfl rfl rfl rfl (gives_at (v := .pointer (some ⟨b44, o44 + 0 * 17, none⟩)) rfl rfl rfl (fun w => at_el Tryz.underlying23 prssz65 hA44 _ _ 0 (by omega) rfl w)) (fun w1 hw => hw.pick [4] (by decide) rfl) ?_
      refine TH.take (listed' := #[true, true, true, false, true, true, true, false, false, false, false]) 6 rfl (by kernel_rfl) (by kernel_rfl) (by kernel_rfl) rfl rfl rfl rfl (gives_field (v := .pointer (some ⟨b44, o44 + 0 * 17 + 6, none⟩)) rfl rfl (fun w => prsfld65_6 _ _ w)) (fun w1 hw => hw.pick [4] (by decide) rfl) ?_
      refine TH.take (listed' := #[true, true, true, false, true, true, true, true, false, false, false]) 7 rfl (by kernel_rfl) (by kernel_rfl) (by kernel_rfl) rfl rfl rfl rfl (gives_load (v := .int .i64 r0.flow) rfl rfl pcmag3 (fun w1 hw => (hw.bel.cell hbb44).trans <| flat_cell rs_cel hx44 hc44 6 _ rfl)) (fun w1 hw => hw.pick [4] (by decide) rfl) ?_
      refine TH.two' (listed1 := #[true, true, true, true, true, true, true, true, false, false, false]) (listed2 := #[true, true, true, false, true, true, true, true, false, true, false]) 3 9 rfl rfl (by kernel_rfl) rfl rfl ?_ ?_
      · refine TL.pcall1 (r := .agg ((trcR r0).cells).toArray) rfl rfl rfl rfl rfl Tryz.func135 ptrnm135 ptrbd135 (fun w1 hw => trc_any r0 w1) ?_
        refine TL.end_ ?_
        refine TX.held (fun w1 hw => hw.pick [4] (by decide) rfl) ?_
        refine TH.take (listed' := #[true, true, true, true, true, true, true, true, true, false, false]) 8 rfl (by kernel_rfl) (by kernel_rfl) (by kernel_rfl) rfl rfl rfl rfl (gives_build (v := .agg #[.int .i64 1, .int .i64 ((trcR r0).v), .int .u32 ((trcR r0).dst), .int .i64 ((trcR r0).proto), .int .i64 r0.flow, .int .i64 0, .int .i64 0, .int .i64 0]) rfl rfl (fun w => asebld34_50680 _ _ _ _ _ w)) (fun w1 hw => hw.pick [4] (by decide) rfl) ?_
        refine TH.only' (listed' := #[true, true, true, true, true, true, true, true, true, true, false]) 9 rfl (by kernel_rfl) rfl ?_
        refine TL.pnew rfl rfl rfl (exec_alloc (cs := [.int .i64 0, .int .i64 0, .int .u32 0, .int .i64 0, .int .i64 0, .int .i64 0, .int .i64 0, .int .i64 0]) rfl asezv34 rfl) (fun g11 => ?_)
        refine TL.end_ ?_
        refine TX.held (fun w1 hw => hw.pick [5] (by decide) rfl) ?_
        refine TH.only' (listed' := #[true, true, true, true, true, true, true, true, true, true, true]) 10 rfl (by kernel_rfl) rfl ?_
        refine TL.pstore (k := 0) (vs := [.int .i64 1, .int .i64 ((trcR r0).v), .int .u32 ((trcR r0).dst), .int .i64 ((trcR r0).proto), .int .i64 r0.flow, .int .i64 0, .int .i64 0, .int .i64 0]) rfl rfl rfl rfl rfl rfl rfl aprsz34 aseone_i64i64u32i64i64i64i64i64 (by show 8 ≤ 8; decide) (L' := [.blk g11 34 [.int .i64 1, .int .i64 ((trcR r0).v), .int .u32 ((trcR r0).dst), .int .i64 ((trcR r0).proto), .int .i64 r0.flow, .int .i64 0, .int .i64 0, .int .i64 0], .row (.slice At ((cptG sT).length) ct) 3 1 ((cptG sT).length) (flat (ic .i64) (cptG sT)), .row (.slice Al ((cptG sL).length) cl) 3 1 ((cptG sL).length) (flat (ic .i64) (cptG sL)), .blk g5 28 u.cells, .blk g4 26 [.slice A1 es.length c1], .blk g3 23 [.slice A0 l.length c0]]) rfl ?_
        refine TL.end_ ?_
        refine TX.held (fun w1 hw => hw.pick [5] (by decide) rfl) ?_
        refine TH.done (by kernel_rfl) ?_
        exact TX.joined (g11) (⟨rfl, rfl, rfl, rfl, rfl, rfl, trivial⟩) (fun w1 hw => hw)
      · refine TL.pnew rfl rfl rfl (exec_alloc (cs := [.int .i64 0, .int .i64 0, .int .u32 0, .int .i64 0, .int .i64 0, .int .i64 0, .int .i64 0, .int .i64 0]) rfl asezv34 rfl) (fun g11 => ?_)
        refine TL.end_ ?_
        refine TX.held (fun w1 hw => hw.pick [5] (by decide) rfl) ?_
        refine TH.only' (listed' := #[true, true, true, true, true, true, true, true, false, true, false]) 3 rfl (by kernel_rfl) rfl ?_
        refine TL.pcall1 (r := .agg ((trcR r0).cells).toArray) rfl rfl rfl rfl rfl Tryz.func135 ptrnm135 ptrbd135 (fun w1 hw => trc_any r0 w1) ?_
        refine TL.end_ ?_
        refine TX.held (fun w1 hw => hw.pick [5] (by decide) rfl) ?_
        refine TH.take (listed' := #[true, true, true, true, true, true, true, true, true, true, false]) 8 rfl (by kernel_rfl) (by kernel_rfl) (by kernel_rfl) rfl rfl rfl rfl (gives_build (v := .agg #[.int .i64 1, .int .i64 ((trcR r0).v), .int .u32 ((trcR r0).dst), .int .i64 ((trcR r0).proto), .int .i64 r0.flow, .int .i64 0, .int .i64 0, .int .i64 0]) rfl rfl (fun w => asebld34_50680 _ _ _ _ _ w)) (fun w1 hw => hw.pick [5] (by decide) rfl) ?_
        refine TH.only' (listed' := #[true, true, true, true, true, true, true, true, true, true, true]) 10 rfl (by kernel_rfl) rfl ?_
        refine TL.pstore (k := 0) (vs := [.int .i64 1, .int .i64 ((trcR r0).v), .int .u32 ((trcR r0).dst), .int .i64 ((trcR r0).proto), .int .i64 r0.flow, .int .i64 0, .int .i64 0, .int .i64 0]) rfl rfl rfl rfl rfl rfl rfl aprsz34 aseone_i64i64u32i64i64i64i64i64 (by show 8 ≤ 8; decide) (L' := [.blk g11 34 [.int .i64 1, .int .i64 ((trcR r0).v), .int .u32 ((trcR r0).dst), .int .i64 ((trcR r0).proto), .int .i64 r0.flow, .int .i64 0, .int .i64 0, .int .i64 0], .row (.slice At ((cptG sT).length) ct) 3 1 ((cptG sT).length) (flat (ic .i64) (cptG sT)), .row (.slice Al ((cptG sL).length) cl) 3 1 ((cptG sL).length) (flat (ic .i64) (cptG sL)), .blk g5 28 u.cells, .blk g4 26 [.slice A1 es.length c1], .blk g3 23 [.slice A0 l.length c0]]) rfl ?_
        refine TL.end_ ?_
        refine TX.held (fun w1 hw => hw.pick [5] (by decide) rfl) ?_
        refine TH.done (by kernel_rfl) ?_
        exact TX.joined (g11) (⟨rfl, rfl, rfl, rfl, rfl, rfl, trivial⟩) (fun w1 hw => hw)
    · rintro g11
      refine TC.seq_ ?_
      refine TC.region ?_
      refine TL.val rfl rfl rfl (pm_loadV (k := 0) (i := 0) (n := 8) (v := .agg #[.int .i64 1, .int .i64 r0.v, .int .u32 r0.dst, .int .i64 r0.proto, .int .i64 r0.flow, .int .i64 0, .int .i64 0, .int .i64 0]) rfl rfl aprag34 aprsz34 rfl (by show 8 ≤ 8; decide) rfl) ?_
      refine TL.val rfl rfl rfl (gives_move rfl rfl) ?_
      refine TL.val rfl rfl rfl (gives_makeFunc rfl rfl rfl) ?_
      refine TL.call (α := {y : (Option Addr × Nat) × List Rp // EarB (fun t => bhF l u.los t) (cB r0) (cptG sT) y.2 ∧ y.2.length ≤ 1 ∧ y.2.length ≤ y.1.2 ∧ y.1.2 ≤ maxLen}) (r := fun y => .slice y.1.1.1 y.1.2.length y.1.1.2) (I' := fun y => Pm w [.row (.slice y.1.1.1 y.1.2.length y.1.1.2) 34 8 y.1.2.length (flat Rp.cells y.1.2), .row (.slice At ((cptG sT).length) ct) 3 1 ((cptG sT).length) (flat (ic .i64) (cptG sT)), .blk g11 34 [.int .i64 1, .int .i64 r0.v, .int .u32 r0.dst, .int .i64 r0.proto, .int .i64 r0.flow, .int .i64 0, .int .i64 0, .int .i64 0], .row (.slice Al ((cptG sL).length) cl) 3 1 ((cptG sL).length) (flat (ic .i64) (cptG sL)), .blk g5 28 u.cells, .blk g4 26 [.slice A1 es.length c1], .blk g3 23 [.slice A0 l.length c0]]) rfl rfl rfl rfl rfl Tryz.func140 asenm140 asebd140 (fun w1 hw => earliest_any w [.blk g11 34 [.int .i64 1, .int .i64 r0.v, .int .u32 r0.dst, .int .i64 r0.proto, .int .i64 r0.flow, .int .i64 0, .int .i64 0, .int .i64 0], .row (.slice Al ((cptG sL).length) cl) 3 1 ((cptG sL).length) (flat (ic .i64) (cptG sL)), .blk g5 28 u.cells, .blk g4 26 [.slice A1 es.length c1], .blk g3 23 [.slice A0 l.length c0]] At ct (cptG sT) (cB r0) (fun t => bhF l u.los t) 141 _ #[.pointer (some ⟨g3, 0, none⟩), .pointer (some ⟨g5, 0, none⟩)] w1 (hw.pick [1, 0, 2, 3, 4, 5] (by decide) rfl) (by omega) Tryz.func141 asenm141 asebd141 (fun t w1 ⟨L1, h9⟩ => by have h8 : Pm w [.blk g11 34 [.int .i64 1, .int .i64 r0.v, .int .u32 r0.dst, .int .i64 r0.proto, .int .i64 r0.flow, .int .i64 0, .int .i64 0, .int .i64 0], .row (.slice Al ((cptG sL).length) cl) 3 1 ((cptG sL).length) (flat (ic .i64) (cptG sL)), .blk g5 28 u.cells, .blk g4 26 [.slice A1 es.length c1], .blk g3 23 [.slice A0 l.length c0]] w1 := h9.sel (List.sublist_append_right L1 _); exact srch1_any A0 c0 l u t g3 g5 w1 (hr.up h8.bel) hl1 (Pc.lt (h8.at_ (k := 4) rfl) g3 rfl).2 (h8.cell (k := 4) rfl 0) (Pc.lt (h8.at_ (k := 2) rfl) g5 rfl).2 (h8.cell (k := 2) rfl 0))) ?_
      rintro ⟨⟨⟨R55, rc55⟩, o55⟩, hP55, hl55, hc55, hm55⟩
      dsimp only at hP55 hl55 hc55 hm55 ⊢
      refine TL.val rfl rfl rfl (gives_assign rfl rfl) ?_
      refine TL.end_ ?_
      refine TX.then_ ?_
      refine TC.seq_ ?_
      refine TC.seq_ ?_
      have hM0 := sa_start hP55 hnT.1 (fun t => rfl) (es := es)
      refine TC.region ?_
      refine TL.val rfl rfl rfl (gives_move rfl rfl) ?_
      refine TL.val rfl rfl rfl (gives_len rfl Tryz.underlying106 rfl) ?_
      refine TL.val rfl rfl rfl (gives_move rfl rfl) ?_
      refine TL.end_ ?_
      refine TX.then_ ?_
      refine TC.block ?_
      refine TC.loop_ (α := {y : Nat × (Option Addr × Nat) × List Rp × Int × Int × Int // y.1 ≤ (cptG sL).length ∧ MinU (PrS es l u) (SA es r0 l (cptG sT) ((cptG sL).take y.1)) y.2.2.1 ∧ y.2.2.1.length ≤ 1 + 513 * y.1 ∧ y.2.2.1.length ≤ y.2.1.2 ∧ y.2.1.2 ≤ maxLen}) (fun y => [(3, .pointer (some ⟨g3, 0, none⟩)), (4, .pointer (some ⟨g4, 0, none⟩)), (5, .pointer (some ⟨g5, 0, none⟩)), (7, .slice At ((cptG sT).length) ct), (8, .slice Al ((cptG sL).length) cl), (11, .pointer (some ⟨g11, 0, none⟩)), (56, .slice Al ((cptG sL).length) cl), (57, .int .i64 ((cptG sL).length : Nat)), (58, .int .i64 ((y.1.1 : Nat) : Int)), (12, .slice y.1.2.1.1 y.1.2.2.1.length y.1.2.1.2)]) (fun y => Pm w [.row (.slice y.1.2.1.1 y.1.2.2.1.length y.1.2.1.2) 34 8 y.1.2.2.1.length (flat Rp.cells y.1.2.2.1), .row (.slice At ((cptG sT).length) ct) 3 1 ((cptG sT).length) (flat (ic .i64) (cptG sT)), .blk g11 34 [.int .i64 y.1.2.2.2.1, .int .i64 r0.v, .int .u32 r0.dst, .int .i64 r0.proto, .int .i64 r0.flow, .int .i64 y.1.2.2.2.2.1, .int .i64 0, .int .i64 y.1.2.2.2.2.2], .row (.slice Al ((cptG sL).length) cl) 3 1 ((cptG sL).length) (flat (ic .i64) (cptG sL)), .blk g5 28 u.cells, .blk g4 26 [.slice A1 es.length c1], .blk g3 23 [.slice A0 l.length c0]]) (fun y => (cptG sL).length - y.1.1) (⟨(0, (R55, rc55), o55, 1, 0, 0), Nat.zero_le _, by rw [List.take_zero]; exact hM0, by dsimp only; omega, hc55, hm55⟩) ⟨rfl, rfl, rfl, rfl, rfl, rfl, rfl, rfl, rfl, rfl, trivial⟩ (fun w1 hw => hw) ?_
      rintro ⟨⟨i2, ⟨Ao, co⟩, out, kd, tl, pv⟩, hi2, hM, hol, hoc, hom⟩
      dsimp only at hi2 hM hol hoc hom ⊢
      refine TC.seq_ ?_
      refine TC.region ?_
      refine TL.vsplit rfl rfl rfl (gives_bin rfl rfl rfl (fun w => bin_lss w)) (fun h59 => ?_) (fun h59 => ?_)
      · have q59 := of_decide_eq_true h59
        refine TL.end_ ?_
        refine TX.then_ ?_
        refine TC.seq_ ?_
        refine TC.condT rfl ?_
        refine TC.skip_ ?_
        refine TX.then_ ?_
        refine TC.seq_ ?_
        refine TC.block ?_
        refine TC.seq_ ?_
        refine TC.region ?_
        refine TL.fact (p := ∃ g, Al = some ⟨g, 0, none⟩) (fun w1 hw => rowA hw (k := 3) rfl (by omega)) ?_
        rintro ⟨g_Al, rfl⟩
        have hi60 : i2 < (cptG sL).length := by omega
        obtain ⟨x60, hx60⟩ : ∃ x60, (cptG sL)[i2]? = some x60 := ⟨_, List.getElem?_eq_getElem hi60⟩
        refine TL.val rfl rfl rfl (gives_at (v := .pointer (some ⟨g_Al, 0 + i2 * 1, none⟩)) rfl rfl rfl (fun w => at_el Tryz.underlying106 pcmsz3 rfl _ _ i2 (by omega) rfl w)) ?_
        refine TL.val rfl rfl rfl (gives_load (v := .int .i64 x60) rfl rfl pcmag3 (fun w1 hw => flat_row (ic_cel .i64) hw (q := 3) rfl hx60 0 _ rfl)) ?_
        refine TL.val rfl rfl rfl (gives_assign rfl rfl) ?_
        refine TL.end_ ?_
        refine TX.then_ ?_
        refine TC.seq_ ?_
        refine TC.region ?_
        refine TL.val rfl rfl rfl (gives_move rfl rfl) ?_
        refine TL.val rfl rfl rfl (gives_field (v := .pointer (some ⟨g11, 5, none⟩)) rfl rfl (fun w => arpfld34_3 _ _ w)) ?_
        refine TL.pstore (k := 2) (vs := [.int .i64 x60]) rfl rfl rfl rfl rfl rfl rfl pcmsz3 aeaone_i64 (by show 6 ≤ 8; decide) (L' := [.row (.slice Ao out.length co) 34 8 out.length (flat Rp.cells out), .row (.slice At ((cptG sT).length) ct) 3 1 ((cptG sT).length) (flat (ic .i64) (cptG sT)), .blk g11 34 [.int .i64 kd, .int .i64 r0.v, .int .u32 r0.dst, .int .i64 r0.proto, .int .i64 r0.flow, .int .i64 x60, .int .i64 0, .int .i64 pv], .row (.slice (some ⟨g_Al, 0, none⟩) ((cptG sL).length) cl) 3 1 ((cptG sL).length) (flat (ic .i64) (cptG sL)), .blk g5 28 u.cells, .blk g4 26 [.slice A1 es.length c1], .blk g3 23 [.slice A0 l.length c0]]) rfl ?_
        refine TL.val rfl rfl rfl (gives_field (v := .pointer (some ⟨g11, 7, none⟩)) rfl rfl (fun w => arpfld34_5 _ _ w)) ?_
        refine TL.pstore (k := 2) (vs := [.int .i64 0]) rfl rfl rfl rfl rfl rfl rfl pcmsz3 aeaone_i64 (by show 8 ≤ 8; decide) (L' := [.row (.slice Ao out.length co) 34 8 out.length (flat Rp.cells out), .row (.slice At ((cptG sT).length) ct) 3 1 ((cptG sT).length) (flat (ic .i64) (cptG sT)), .blk g11 34 [.int .i64 kd, .int .i64 r0.v, .int .u32 r0.dst, .int .i64 r0.proto, .int .i64 r0.flow, .int .i64 x60, .int .i64 0, .int .i64 0], .row (.slice (some ⟨g_Al, 0, none⟩) ((cptG sL).length) cl) 3 1 ((cptG sL).length) (flat (ic .i64) (cptG sL)), .blk g5 28 u.cells, .blk g4 26 [.slice A1 es.length c1], .blk g3 23 [.slice A0 l.length c0]]) rfl ?_
        refine TL.val rfl rfl rfl (gives_field (v := .pointer (some ⟨g11, 0, none⟩)) rfl rfl (fun w => arpfld34_0 _ _ w)) ?_
        refine TL.pstore (k := 2) (vs := [.int .i64 3]) rfl rfl rfl rfl rfl rfl rfl pcmsz3 aeaone_i64 (by show 1 ≤ 8; decide) (L' := [.row (.slice Ao out.length co) 34 8 out.length (flat Rp.cells out), .row (.slice At ((cptG sT).length) ct) 3 1 ((cptG sT).length) (flat (ic .i64) (cptG sT)), .blk g11 34 [.int .i64 3, .int .i64 r0.v, .int .u32 r0.dst, .int .i64 r0.proto, .int .i64 r0.flow, .int .i64 x60, .int .i64 0, .int .i64 0], .row (.slice (some ⟨g_Al, 0, none⟩) ((cptG sL).length) cl) 3 1 ((cptG sL).length) (flat (ic .i64) (cptG sL)), .blk g5 28 u.cells, .blk g4 26 [.slice A1 es.length c1], .blk g3 23 [.slice A0 l.length c0]]) rfl ?_
        refine TL.end_ ?_
        refine TX.then_ ?_
        refine TC.seq_ ?_
        refine TC.region ?_
        refine TL.val rfl rfl rfl (pm_load (k := 6) (i := 0) rfl rfl aeaag23 rfl rfl) ?_
        refine TL.val rfl rfl rfl (gives_move rfl rfl) ?_
        refine TL.pcallPm (α := {y : (Option Addr × Nat) × List Rs // y.2 = atL l x60 ∧ y.2.length ≤ y.1.2 ∧ y.1.2 ≤ maxLen}) (fun x => .slice x.1.1.1 x.1.2.length x.1.1.2) (fun x => [.row (.slice x.1.1.1 x.1.2.length x.1.1.2) 65 17 x.1.2.length (flat Rs.cells x.1.2)]) rfl rfl rfl rfl rfl Tryz.func77 asenm77 asebd77 (fun w1 hw => atl_any A0 c0 l x60 w1 (hr.up hw.bel) hl1) ?_
        rintro ⟨⟨⟨R68, rc68⟩, at68⟩, hP68, hR681, hR682⟩
        dsimp only [List.cons_append, List.nil_append]
        dsimp only at hP68 hR681 hR682 ⊢
        refine TL.pnew rfl rfl rfl (exec_alloc (cs := [.slice none 0 0]) rfl asezv23 rfl) (fun g15 => ?_)
        refine TL.pstore (k := 0) (vs := [.slice R68 at68.length rc68]) rfl rfl rfl rfl rfl rfl rfl asesz23 aseone_s (by show 1 ≤ 1; decide) (L' := [.blk g15 23 [.slice R68 at68.length rc68], .row (.slice R68 at68.length rc68) 65 17 at68.length (flat Rs.cells at68), .row (.slice Ao out.length co) 34 8 out.length (flat Rp.cells out), .row (.slice At ((cptG sT).length) ct) 3 1 ((cptG sT).length) (flat (ic .i64) (cptG sT)), .blk g11 34 [.int .i64 3, .int .i64 r0.v, .int .u32 r0.dst, .int .i64 r0.proto, .int .i64 r0.flow, .int .i64 x60, .int .i64 0, .int .i64 0], .row (.slice (some ⟨g_Al, 0, none⟩) ((cptG sL).length) cl) 3 1 ((cptG sL).length) (flat (ic .i64) (cptG sL)), .blk g5 28 u.cells, .blk g4 26 [.slice A1 es.length c1], .blk g3 23 [.slice A0 l.length c0]]) rfl ?_
        refine TL.end_ ?_
        refine TX.then_ ?_
        refine TC.seq_ ?_
        have hat : at68.length ≤ l.length := by rw [hP68]; exact List.length_filter_le _ _
        refine TC.region ?_
        refine TL.val rfl rfl rfl (gives_move rfl rfl) ?_
        refine TL.val rfl rfl rfl (pm_loadV (k := 4) (i := 0) (n := 8) (v := .agg #[.int .i64 3, .int .i64 r0.v, .int .u32 r0.dst, .int .i64 r0.proto, .int .i64 r0.flow, .int .i64 x60, .int .i64 0, .int .i64 0]) rfl rfl aprag34 aprsz34 rfl (by show 8 ≤ 8; decide) rfl) ?_
        refine TL.val rfl rfl rfl (gives_move rfl rfl) ?_
        refine TL.val rfl rfl rfl (gives_makeFunc rfl rfl rfl) ?_
        refine TL.call (α := {y : (Option Addr × Nat) × List Rp // EarB (fun t => pdec (u.prb < 1 ∨ CgF (eaL (atL l x60) t) (laL (atL l x60) t) u.prb u.gro)) (cC r0 x60) (cptG sT) y.2 ∧ y.2.length ≤ 1 ∧ y.2.length ≤ y.1.2 ∧ y.1.2 ≤ maxLen}) (r := fun y => .slice y.1.1.1 y.1.2.length y.1.1.2) (I' := fun y => Pm w [.row (.slice y.1.1.1 y.1.2.length y.1.1.2) 34 8 y.1.2.length (flat Rp.cells y.1.2), .row (.slice At ((cptG sT).length) ct) 3 1 ((cptG sT).length) (flat (ic .i64) (cptG sT)), .blk g15 23 [.slice R68 at68.length rc68], .row (.slice R68 at68.length rc68) 65 17 at68.length (flat Rs.cells at68), .row (.slice Ao out.length co) 34 8 out.length (flat Rp.cells out), .blk g11 34 [.int .i64 3, .int .i64 r0.v, .int .u32 r0.dst, .int .i64 r0.proto, .int .i64 r0.flow, .int .i64 x60, .int .i64 0, .int .i64 0], .row (.slice (some ⟨g_Al, 0, none⟩) ((cptG sL).length) cl) 3 1 ((cptG sL).length) (flat (ic .i64) (cptG sL)), .blk g5 28 u.cells, .blk g4 26 [.slice A1 es.length c1], .blk g3 23 [.slice A0 l.length c0]]) rfl rfl rfl rfl rfl Tryz.func140 asenm140 asebd140 (fun w1 hw => earliest_any w [.blk g15 23 [.slice R68 at68.length rc68], .row (.slice R68 at68.length rc68) 65 17 at68.length (flat Rs.cells at68), .row (.slice Ao out.length co) 34 8 out.length (flat Rp.cells out), .blk g11 34 [.int .i64 3, .int .i64 r0.v, .int .u32 r0.dst, .int .i64 r0.proto, .int .i64 r0.flow, .int .i64 x60, .int .i64 0, .int .i64 0], .row (.slice (some ⟨g_Al, 0, none⟩) ((cptG sL).length) cl) 3 1 ((cptG sL).length) (flat (ic .i64) (cptG sL)), .blk g5 28 u.cells, .blk g4 26 [.slice A1 es.length c1], .blk g3 23 [.slice A0 l.length c0]] At ct (cptG sT) (cC r0 x60) (fun t => pdec (u.prb < 1 ∨ CgF (eaL (atL l x60) t) (laL (atL l x60) t) u.prb u.gro)) 142 _ #[.pointer (some ⟨g15, 0, none⟩), .pointer (some ⟨g5, 0, none⟩)] w1 (hw.pick [3, 0, 1, 2, 4, 5, 6, 7, 8] (by decide) rfl) (by omega) Tryz.func142 asenm142 asebd142 (fun t w1 ⟨L1, h9⟩ => by have h8 : Pm w [.blk g15 23 [.slice R68 at68.length rc68], .row (.slice R68 at68.length rc68) 65 17 at68.length (flat Rs.cells at68), .row (.slice Ao out.length co) 34 8 out.length (flat Rp.cells out), .blk g11 34 [.int .i64 3, .int .i64 r0.v, .int .u32 r0.dst, .int .i64 r0.proto, .int .i64 r0.flow, .int .i64 x60, .int .i64 0, .int .i64 0], .row (.slice (some ⟨g_Al, 0, none⟩) ((cptG sL).length) cl) 3 1 ((cptG sL).length) (flat (ic .i64) (cptG sL)), .blk g5 28 u.cells, .blk g4 26 [.slice A1 es.length c1], .blk g3 23 [.slice A0 l.length c0]] w1 := h9.sel (List.sublist_append_right L1 _); exact (srch2_any R68 rc68 at68 u t g15 g5 w1 (pm_rd h8 (k := 1) rfl) (by omega) (fun r hr => hin r (mem_atL.1 (hP68 ▸ hr)).1) (Pc.lt (h8.at_ (k := 0) rfl) g15 rfl).2 (h8.cell (k := 0) rfl 0) (Pc.lt (h8.at_ (k := 5) rfl) g5 rfl).2 (fun j v hv => by rw [Nat.zero_add, h8.cell (k := 5) rfl j]; exact hv)).mono fun en w2 ⟨x, h1, h2⟩ => ⟨by rw [h1, pdec_of x.2, hP68], h2⟩)) ?_
        rintro ⟨⟨⟨R73, rc73⟩, o73⟩, hP73, hl73, hc73, hm73⟩
        dsimp only at hP73 hl73 hc73 hm73 ⊢
        refine TL.appendT (k := 4) rfl rfl rfl rfl Tryz.underlying49 aseel49 rfl rfl rfl (fun w1 hw => pm_reads hw (k := 0) rfl) (flat_one rp_cel _) (by show _ * 64 ≤ _; omega) ((out ++ o73).length) (List.length_append) (flat Rp.cells (out ++ o73)) ((flat_app _ _).symm) (fun A74 c74 hA741 hA742 => ?_)
        refine TL.val rfl rfl rfl (gives_assign rfl rfl) ?_
        refine TL.end_ ?_
        refine TX.then_ ?_
        refine TC.seq_ ?_
        have hM1 := sb_start hM hx60 hnL.1 hP73 hnT.1 hu (fun t => pdec_iff)
        refine TC.region ?_
        refine TL.val rfl rfl rfl (pm_load (k := 2) (i := 0) rfl rfl aeaag23 rfl rfl) ?_
        refine TL.val rfl rfl rfl (pm_loadV (k := 8) (i := 0) (n := 1) (v := .agg #[.slice A1 es.length c1]) rfl rfl breag26 bresz26 rfl (by show 1 ≤ 1; decide) rfl) ?_
        refine TL.pcallPm (α := {y : (Option Addr × Nat) × List Int // y.2 = at68.map (fun r : Rs => provR es r.src r.back) ∧ y.2.length ≤ y.1.2 ∧ y.1.2 ≤ maxLen}) (fun x => .slice x.1.1.1 x.1.2.length x.1.1.2) (fun x => [.row (.slice x.1.1.1 x.1.2.length x.1.1.2) 3 1 x.1.2.length (flat (ic .i64) x.1.2)]) rfl rfl rfl rfl rfl Tryz.func82 asenm82 asebd82 (fun w1 hw => providers_any R68 rc68 at68 A1 c1 es w1 (pm_rd hw (k := 3) rfl) (by omega) (hr1.up hw.bel)) ?_
        rintro ⟨⟨⟨R77, rc77⟩, pv77⟩, hP77, hR771, hR772⟩
        dsimp only [List.cons_append, List.nil_append]
        dsimp only at hP77 hR771 hR772 ⊢
        refine TL.pnew rfl rfl rfl (exec_alloc (cs := [.slice none 0 0]) rfl asezv106 rfl) (fun g16 => ?_)
        refine TL.pstore (k := 0) (vs := [.slice R77 pv77.length rc77]) rfl rfl rfl rfl rfl rfl rfl asesz106 aseone_s (by show 1 ≤ 1; decide) (L' := [.blk g16 106 [.slice R77 pv77.length rc77], .row (.slice R77 pv77.length rc77) 3 1 pv77.length (flat (ic .i64) pv77), .row (.slice R73 o73.length rc73) 34 8 o73.length (flat Rp.cells o73), .row (.slice At ((cptG sT).length) ct) 3 1 ((cptG sT).length) (flat (ic .i64) (cptG sT)), .blk g15 23 [.slice R68 at68.length rc68], .row (.slice R68 at68.length rc68) 65 17 at68.length (flat Rs.cells at68), .row (.slice A74 ((out ++ o73).length) c74) 34 8 ((out ++ o73).length) (flat Rp.cells (out ++ o73)), .blk g11 34 [.int .i64 3, .int .i64 r0.v, .int .u32 r0.dst, .int .i64 r0.proto, .int .i64 r0.flow, .int .i64 x60, .int .i64 0, .int .i64 0], .row (.slice (some ⟨g_Al, 0, none⟩) ((cptG sL).length) cl) 3 1 ((cptG sL).length) (flat (ic .i64) (cptG sL)), .blk g5 28 u.cells, .blk g4 26 [.slice A1 es.length c1], .blk g3 23 [.slice A0 l.length c0]]) rfl ?_
        refine TL.end_ ?_
        refine TX.then_ ?_
        refine TC.seq_ ?_
        have hpv : pv77.length = at68.length := by rw [hP77, List.length_map]
        refine TC.region ?_
        refine TL.val rfl rfl rfl (pm_load (k := 0) (i := 0) rfl rfl aeaag106 rfl rfl) ?_
        refine TL.pcallPm (α := {p : Option Addr × Nat // (pv77).length ≤ p.2 ∧ p.2 ≤ maxLen}) (fun x => .slice x.1.1 ((pv77).length) x.1.2) (fun x => [.row (.slice x.1.1 ((pv77).length) x.1.2) 3 1 ((pv77).length) (flat (ic .i64) pv77)]) rfl rfl rfl rfl rfl Tryz.func143 asenm143 asebd143 (fun w1 hw => cloneI_any R77 rc77 pv77 w1 (pm_rd hw (k := 1) rfl) (by omega)) ?_
        rintro ⟨⟨R79, rc79⟩, hR791, hR792⟩
        dsimp only [List.cons_append, List.nil_append]
        refine TL.val rfl rfl rfl (gives_assign rfl rfl) ?_
        refine TL.end_ ?_
        refine TX.then_ ?_
        refine TC.seq_ ?_
        refine TC.region ?_
        refine TL.val rfl rfl rfl (gives_move rfl rfl) ?_
        refine TL.turnRowD (k := 0) (fun ys => SortedI pv77 ys) rfl rfl rfl rfl rfl Tryz.func124 acgnm124 acgbd124 rfl (fun w1 hw hr9 => sortInt hr9 rfl (by omega)) (fun sO hsO => ?_)
        try dsimp only [List.set_cons_zero, List.set_cons_succ]
        have hsOl : sO.length = pv77.length := hsO.1.length_eq
        have hsOc : (cptG sO).length ≤ sO.length := cptG_le sO
        refine TL.end_ ?_
        refine TX.then_ ?_
        refine TC.seq_ ?_
        have hnO : IsNum ((atL l x60).map (fun r : Rs => provR es r.src r.back)) (cptG sO) := by rw [← hP68, ← hP77]; exact isNum_of hsO
        refine TC.region ?_
        refine TL.val rfl rfl rfl (gives_move rfl rfl) ?_
        refine TL.turnRow2 (q := 0) (ys := cptG sO) rfl rfl rfl rfl rfl Tryz.func139 asenm139 asebd139 rfl (fun w1 hw hr9 => compactInt hr9 (hsOl) (by omega)) ?_
        try dsimp only [List.set_cons_zero, List.set_cons_succ]
        refine TL.val rfl rfl rfl (gives_len rfl Tryz.underlying106 rfl) ?_
        refine TL.val rfl rfl rfl (gives_move rfl rfl) ?_
        refine TL.end_ ?_
        refine TX.then_ ?_
        refine TC.block ?_
        refine TC.loop_ (α := {y : Nat × (Option Addr × Nat) × List Rp × Int × Int // y.1 ≤ (cptG sO).length ∧ MinU (PrS es l u) (SB es r0 l (cptG sT) ((cptG sL).take i2) x60 ((cptG sO).take y.1)) y.2.2.1 ∧ y.2.2.1.length ≤ 2 + 513 * i2 + y.1 ∧ y.2.2.1.length ≤ y.2.1.2 ∧ y.2.1.2 ≤ maxLen}) (fun y => [(3, .pointer (some ⟨g3, 0, none⟩)), (4, .pointer (some ⟨g4, 0, none⟩)), (5, .pointer (some ⟨g5, 0, none⟩)), (7, .slice At ((cptG sT).length) ct), (8, .slice (some ⟨g_Al, 0, none⟩) ((cptG sL).length) cl), (11, .pointer (some ⟨g11, 0, none⟩)), (56, .slice (some ⟨g_Al, 0, none⟩) ((cptG sL).length) cl), (57, .int .i64 ((cptG sL).length : Nat)), (58, .int .i64 ((i2 : Nat) : Int)), (14, .int .i64 x60), (15, .pointer (some ⟨g15, 0, none⟩)), (16, .pointer (some ⟨g16, 0, none⟩)), (83, .slice R79 ((cptG sO).length) rc79), (84, .int .i64 ((cptG sO).length : Nat)), (85, .int .i64 ((y.1.1 : Nat) : Int)), (12, .slice y.1.2.1.1 y.1.2.2.1.length y.1.2.1.2)]) (fun y => Pm w [.row (.slice R79 ((cptG sO).length) rc79) 3 1 ((cptG sO).length) (flat (ic .i64) (cptG sO)), .blk g16 106 [.slice R77 pv77.length rc77], .row (.slice R77 pv77.length rc77) 3 1 pv77.length (flat (ic .i64) pv77), .row (.slice R73 o73.length rc73) 34 8 o73.length (flat Rp.cells o73), .row (.slice At ((cptG sT).length) ct) 3 1 ((cptG sT).length) (flat (ic .i64) (cptG sT)), .blk g15 23 [.slice R68 at68.length rc68], .row (.slice R68 at68.length rc68) 65 17 at68.length (flat Rs.cells at68), .row (.slice y.1.2.1.1 y.1.2.2.1.length y.1.2.1.2) 34 8 y.1.2.2.1.length (flat Rp.cells y.1.2.2.1), .blk g11 34 [.int .i64 y.1.2.2.2.1, .int .i64 r0.v, .int .u32 r0.dst, .int .i64 r0.proto, .int .i64 r0.flow, .int .i64 x60, .int .i64 0, .int .i64 y.1.2.2.2.2], .row (.slice (some ⟨g_Al, 0, none⟩) ((cptG sL).length) cl) 3 1 ((cptG sL).length) (flat (ic .i64) (cptG sL)), .blk g5 28 u.cells, .blk g4 26 [.slice A1 es.length c1], .blk g3 23 [.slice A0 l.length c0]]) (fun y => (cptG sO).length - y.1.1) (⟨(0, (A74, c74), out ++ o73, 3, 0), Nat.zero_le _, by rw [List.take_zero]; exact hM1, by dsimp only; rw [List.length_append]; omega, hA741, hA742⟩) ⟨rfl, rfl, rfl, rfl, rfl, rfl, rfl, rfl, rfl, rfl, rfl, rfl, rfl, rfl, rfl, rfl, trivial⟩ (fun w1 hw => hw) ?_
        rintro ⟨⟨j, ⟨Ao2, co2⟩, out2, kd2, pv2⟩, hj, hM2, hol2, hoc2, hom2⟩
        dsimp only at hj hM2 hol2 hoc2 hom2 ⊢
        refine TC.seq_ ?_
        refine TC.region ?_
        refine TL.vsplit rfl rfl rfl (gives_bin rfl rfl rfl (fun w => bin_lss w)) (fun h86 => ?_) (fun h86 => ?_)
        · have q86 := of_decide_eq_true h86
          refine TL.end_ ?_
          refine TX.then_ ?_
          refine TC.seq_ ?_
          refine TC.condT rfl ?_
          refine TC.skip_ ?_
          refine TX.then_ ?_
          refine TC.seq_ ?_
          refine TC.block ?_
          refine TC.seq_ ?_
          refine TC.region ?_
          refine TL.fact (p := ∃ g, R79 = some ⟨g, 0, none⟩) (fun w1 hw => rowA hw (k := 0) rfl (by omega)) ?_
          rintro ⟨g_R79, rfl⟩
          have hi87 : j < (cptG sO).length := by omega
          obtain ⟨x87, hx87⟩ : ∃ x87, (cptG sO)[j]? = some x87 := ⟨_, List.getElem?_eq_getElem hi87⟩
          refine TL.val rfl rfl rfl (gives_at (v := .pointer (some ⟨g_R79, 0 + j * 1, none⟩)) rfl rfl rfl (fun w => at_el Tryz.underlying106 pcmsz3 rfl _ _ j (by omega) rfl w)) ?_
          refine TL.val rfl rfl rfl (gives_load (v := .int .i64 x87) rfl rfl pcmag3 (fun w1 hw => flat_row (ic_cel .i64) hw (q := 0) rfl hx87 0 _ rfl)) ?_
          refine TL.val rfl rfl rfl (gives_field (v := .pointer (some ⟨g11, 7, none⟩)) rfl rfl (fun w => arpfld34_5 _ _ w)) ?_
          refine TL.pstore (k := 8) (vs := [.int .i64 x87]) rfl rfl rfl rfl rfl rfl rfl pcmsz3 aeaone_i64 (by show 8 ≤ 8; decide) (L' := [.row (.slice (some ⟨g_R79, 0, none⟩) ((cptG sO).length) rc79) 3 1 ((cptG sO).length) (flat (ic .i64) (cptG sO)), .blk g16 106 [.slice R77 pv77.length rc77], .row (.slice R77 pv77.length rc77) 3 1 pv77.length (flat (ic .i64) pv77), .row (.slice R73 o73.length rc73) 34 8 o73.length (flat Rp.cells o73), .row (.slice At ((cptG sT).length) ct) 3 1 ((cptG sT).length) (flat (ic .i64) (cptG sT)), .blk g15 23 [.slice R68 at68.length rc68], .row (.slice R68 at68.length rc68) 65 17 at68.length (flat Rs.cells at68), .row (.slice Ao2 out2.length co2) 34 8 out2.length (flat Rp.cells out2), .blk g11 34 [.int .i64 kd2, .int .i64 r0.v, .int .u32 r0.dst, .int .i64 r0.proto, .int .i64 r0.flow, .int .i64 x60, .int .i64 0, .int .i64 x87], .row (.slice (some ⟨g_Al, 0, none⟩) ((cptG sL).length) cl) 3 1 ((cptG sL).length) (flat (ic .i64) (cptG sL)), .blk g5 28 u.cells, .blk g4 26 [.slice A1 es.length c1], .blk g3 23 [.slice A0 l.length c0]]) rfl ?_
          refine TL.end_ ?_
          refine TX.then_ ?_
          refine TC.seq_ ?_
          refine TC.seq_ ?_
          refine TC.region ?_
          refine TL.val rfl rfl rfl (gives_field (v := .pointer (some ⟨g11, 7, none⟩)) rfl rfl (fun w => arpfld34_5 _ _ w)) ?_
          refine TL.val rfl rfl rfl (pm_load (k := 8) (i := 7) rfl rfl pcmag3 rfl rfl) ?_
          refine TL.vsplit rfl rfl rfl (gives_bin rfl rfl rfl (fun w => bin_eql w)) (fun h92 => ?_) (fun h92 => ?_)
          · have q92 := of_decide_eq_true h92
            refine TL.end_ ?_
            refine TX.then_ ?_
            refine TC.condT rfl ?_
            refine TC.exit_ ?_
            refine TX.then_exit ?_
            refine TX.in_same ?_
            refine TX.then_ ?_
            refine TC.region ?_
            refine TL.val rfl rfl rfl (gives_bin rfl rfl rfl (fun w => bin_add_ (r := ((j + 1 : Nat) : Int)) (by simp only [IntKind.wrap_i64]; omega) w)) ?_
            refine TL.val rfl rfl rfl (gives_move rfl rfl) ?_
            refine TL.end_ ?_
            exact TX.round (⟨(j + 1, (Ao2, co2), out2, kd2, x87), by dsimp only; omega, sb_zero hM2 hx87 q92, by dsimp only; omega, hoc2, hom2⟩) (by show (cptG sO).length - (j + 1) < (cptG sO).length - j; omega) ⟨rfl, rfl, rfl, rfl, rfl, rfl, rfl, rfl, rfl, rfl, rfl, rfl, rfl, rfl, rfl, rfl, trivial⟩ (fun w1 hw => hw)
          · have q92 := of_decide_eq_false h92
            refine TL.end_ ?_
            refine TX.then_ ?_
            refine TC.condF rfl ?_
            refine TC.skip_ ?_
            refine TX.then_ ?_
            refine TC.seq_ ?_
            refine TC.region ?_
            refine TL.val rfl rfl rfl (gives_field (v := .pointer (some ⟨g11, 0, none⟩)) rfl rfl (fun w => arpfld34_0 _ _ w)) ?_
            refine TL.pstore (k := 8) (vs := [.int .i64 2]) rfl rfl rfl rfl rfl rfl rfl pcmsz3 aeaone_i64 (by show 1 ≤ 8; decide) (L' := [.row (.slice (some ⟨g_R79, 0, none⟩) ((cptG sO).length) rc79) 3 1 ((cptG sO).length) (flat (ic .i64) (cptG sO)), .blk g16 106 [.slice R77 pv77.length rc77], .row (.slice R77 pv77.length rc77) 3 1 pv77.length (flat (ic .i64) pv77), .row (.slice R73 o73.length rc73) 34 8 o73.length (flat Rp.cells o73), .row (.slice At ((cptG sT).length) ct) 3 1 ((cptG sT).length) (flat (ic .i64) (cptG sT)), .blk g15 23 [.slice R68 at68.length rc68], .row (.slice R68 at68.length rc68) 65 17 at68.length (flat Rs.cells at68), .row (.slice Ao2 out2.length co2) 34 8 out2.length (flat Rp.cells out2), .blk g11 34 [.int .i64 2, .int .i64 r0.v, .int .u32 r0.dst, .int .i64 r0.proto, .int .i64 r0.flow, .int .i64 x60, .int .i64 0, .int .i64 x87], .row (.slice (some ⟨g_Al, 0, none⟩) ((cptG sL).length) cl) 3 1 ((cptG sL).length) (flat (ic .i64) (cptG sL)), .blk g5 28 u.cells, .blk g4 26 [.slice A1 es.length c1], .blk g3 23 [.slice A0 l.length c0]]) rfl ?_
            refine TL.end_ ?_
            refine TX.then_ ?_
            refine TC.region ?_
            refine TL.val rfl rfl rfl (gives_move rfl rfl) ?_
            refine TL.val rfl rfl rfl (pm_loadV (k := 8) (i := 0) (n := 8) (v := .agg #[.int .i64 2, .int .i64 r0.v, .int .u32 r0.dst, .int .i64 r0.proto, .int .i64 r0.flow, .int .i64 x60, .int .i64 0, .int .i64 x87]) rfl rfl aprag34 aprsz34 rfl (by show 8 ≤ 8; decide) rfl) ?_
            refine TL.val rfl rfl rfl (gives_move rfl rfl) ?_
            refine TL.val rfl rfl rfl (gives_makeFunc rfl rfl rfl) ?_
            refine TL.call (α := {y : (Option Addr × Nat) × List Rp // EarB (fun t => pdec (DtF (fun r : Rs => provR es r.src r.back) (atL l x60) x87 t)) (cD r0 x60 x87) (cptG sT) y.2 ∧ y.2.length ≤ 1 ∧ y.2.length ≤ y.1.2 ∧ y.1.2 ≤ maxLen}) (r := fun y => .slice y.1.1.1 y.1.2.length y.1.1.2) (I' := fun y => Pm w [.row (.slice y.1.1.1 y.1.2.length y.1.1.2) 34 8 y.1.2.length (flat Rp.cells y.1.2), .row (.slice At ((cptG sT).length) ct) 3 1 ((cptG sT).length) (flat (ic .i64) (cptG sT)), .row (.slice (some ⟨g_R79, 0, none⟩) ((cptG sO).length) rc79) 3 1 ((cptG sO).length) (flat (ic .i64) (cptG sO)), .blk g16 106 [.slice R77 pv77.length rc77], .row (.slice R77 pv77.length rc77) 3 1 pv77.length (flat (ic .i64) pv77), .row (.slice R73 o73.length rc73) 34 8 o73.length (flat Rp.cells o73), .blk g15 23 [.slice R68 at68.length rc68], .row (.slice R68 at68.length rc68) 65 17 at68.length (flat Rs.cells at68), .row (.slice Ao2 out2.length co2) 34 8 out2.length (flat Rp.cells out2), .blk g11 34 [.int .i64 2, .int .i64 r0.v, .int .u32 r0.dst, .int .i64 r0.proto, .int .i64 r0.flow, .int .i64 x60, .int .i64 0, .int .i64 x87], .row (.slice (some ⟨g_Al, 0, none⟩) ((cptG sL).length) cl) 3 1 ((cptG sL).length) (flat (ic .i64) (cptG sL)), .blk g5 28 u.cells, .blk g4 26 [.slice A1 es.length c1], .blk g3 23 [.slice A0 l.length c0]]) rfl rfl rfl rfl rfl Tryz.func140 asenm140 asebd140 (fun w1 hw => earliest_any w [.row (.slice (some ⟨g_R79, 0, none⟩) ((cptG sO).length) rc79) 3 1 ((cptG sO).length) (flat (ic .i64) (cptG sO)), .blk g16 106 [.slice R77 pv77.length rc77], .row (.slice R77 pv77.length rc77) 3 1 pv77.length (flat (ic .i64) pv77), .row (.slice R73 o73.length rc73) 34 8 o73.length (flat Rp.cells o73), .blk g15 23 [.slice R68 at68.length rc68], .row (.slice R68 at68.length rc68) 65 17 at68.length (flat Rs.cells at68), .row (.slice Ao2 out2.length co2) 34 8 out2.length (flat Rp.cells out2), .blk g11 34 [.int .i64 2, .int .i64 r0.v, .int .u32 r0.dst, .int .i64 r0.proto, .int .i64 r0.flow, .int .i64 x60, .int .i64 0, .int .i64 x87], .row (.slice (some ⟨g_Al, 0, none⟩) ((cptG sL).length) cl) 3 1 ((cptG sL).length) (flat (ic .i64) (cptG sL)), .blk g5 28 u.cells, .blk g4 26 [.slice A1 es.length c1], .blk g3 23 [.slice A0 l.length c0]] At ct (cptG sT) (cD r0 x60 x87) (fun t => pdec (DtF (fun r : Rs => provR es r.src r.back) (atL l x60) x87 t)) 144 _ #[.pointer (some ⟨g15, 0, none⟩), .pointer (some ⟨g16, 0, none⟩), .pointer (some ⟨g11, 0, none⟩)] w1 (hw.pick [4, 0, 1, 2, 3, 5, 6, 7, 8, 9, 10, 11, 12] (by decide) rfl) (by omega) Tryz.func144 asenm144 asebd144 (fun t w1 ⟨L1, h9⟩ => by have h8 : Pm w [.row (.slice (some ⟨g_R79, 0, none⟩) ((cptG sO).length) rc79) 3 1 ((cptG sO).length) (flat (ic .i64) (cptG sO)), .blk g16 106 [.slice R77 pv77.length rc77], .row (.slice R77 pv77.length rc77) 3 1 pv77.length (flat (ic .i64) pv77), .row (.slice R73 o73.length rc73) 34 8 o73.length (flat Rp.cells o73), .blk g15 23 [.slice R68 at68.length rc68], .row (.slice R68 at68.length rc68) 65 17 at68.length (flat Rs.cells at68), .row (.slice Ao2 out2.length co2) 34 8 out2.length (flat Rp.cells out2), .blk g11 34 [.int .i64 2, .int .i64 r0.v, .int .u32 r0.dst, .int .i64 r0.proto, .int .i64 r0.flow, .int .i64 x60, .int .i64 0, .int .i64 x87], .row (.slice (some ⟨g_Al, 0, none⟩) ((cptG sL).length) cl) 3 1 ((cptG sL).length) (flat (ic .i64) (cptG sL)), .blk g5 28 u.cells, .blk g4 26 [.slice A1 es.length c1], .blk g3 23 [.slice A0 l.length c0]] w1 := h9.sel (List.sublist_append_right L1 _); exact (srch3_any R68 rc68 at68 R77 rc77 pv77 (fun r : Rs => provR es r.src r.back) x87 t g15 g16 g11 w1 (pm_rd h8 (k := 5) rfl) (by omega) (pm_rd h8 (k := 2) rfl) hP77 (Pc.lt (h8.at_ (k := 4) rfl) g15 rfl).2 (h8.cell (k := 4) rfl 0) (Pc.lt (h8.at_ (k := 1) rfl) g16 rfl).2 (h8.cell (k := 1) rfl 0) (Pc.lt (h8.at_ (k := 7) rfl) g11 rfl).2 (h8.cell (k := 7) rfl 7)).mono fun en w2 ⟨x, h1, h2⟩ => ⟨by rw [h1, pdec_of x.2, hP68], h2⟩)) ?_
            rintro ⟨⟨⟨R98, rc98⟩, o98⟩, hP98, hl98, hc98, hm98⟩
            dsimp only at hP98 hl98 hc98 hm98 ⊢
            refine TL.appendT (k := 8) rfl rfl rfl rfl Tryz.underlying49 aseel49 rfl rfl rfl (fun w1 hw => pm_reads hw (k := 0) rfl) (flat_one rp_cel _) (by show _ * 64 ≤ _; omega) ((out2 ++ o98).length) (List.length_append) (flat Rp.cells (out2 ++ o98)) ((flat_app _ _).symm) (fun A99 c99 hA991 hA992 => ?_)
            refine TL.val rfl rfl rfl (gives_assign rfl rfl) ?_
            refine TL.end_ ?_
            refine TX.in_normal ?_
            refine TX.then_ ?_
            refine TC.region ?_
            refine TL.val rfl rfl rfl (gives_bin rfl rfl rfl (fun w => bin_add_ (r := ((j + 1 : Nat) : Int)) (by simp only [IntKind.wrap_i64]; omega) w)) ?_
            refine TL.val rfl rfl rfl (gives_move rfl rfl) ?_
            refine TL.end_ ?_
            exact TX.round (⟨(j + 1, (A99, c99), out2 ++ o98, 2, x87), by dsimp only; omega, sb_next hM2 hx60 hnL.1 hx87 hnO.1 q92 hP98 hnT.1 (fun t => pdec_iff), by dsimp only; rw [List.length_append]; omega, hA991, hA992⟩) (by show (cptG sO).length - (j + 1) < (cptG sO).length - j; omega) ⟨rfl, rfl, rfl, rfl, rfl, rfl, rfl, rfl, rfl, rfl, rfl, rfl, rfl, rfl, rfl, rfl, trivial⟩ (fun w1 hw => hw.pick [2, 3, 4, 5, 1, 6, 7, 8, 9, 10, 11, 12, 13] (by decide) rfl)
        · have q86 := of_decide_eq_false h86
          refine TL.end_ ?_
          refine TX.then_ ?_
          refine TC.seq_ ?_
          refine TC.condF rfl ?_
          refine TC.exit_ ?_
          refine TX.then_exit ?_
          refine TX.then_exit ?_
          refine TX.in_same ?_
          refine TX.in_normal ?_
          refine TX.then_ ?_
          refine TC.region ?_
          refine TL.val rfl rfl rfl (gives_bin rfl rfl rfl (fun w => bin_add_ (r := ((i2 + 1 : Nat) : Int)) (by simp only [IntKind.wrap_i64]; omega) w)) ?_
          refine TL.val rfl rfl rfl (gives_move rfl rfl) ?_
          refine TL.end_ ?_
          exact TX.round (⟨(i2 + 1, (Ao2, co2), out2, kd2, x60, pv2), by dsimp only; omega, sb_end hM2 (by omega) hnO hx60, by dsimp only; omega, hoc2, hom2⟩) (by show (cptG sL).length - (i2 + 1) < (cptG sL).length - i2; omega) ⟨rfl, rfl, rfl, rfl, rfl, rfl, rfl, rfl, rfl, rfl, trivial⟩ (fun w1 hw => hw.pick [7, 4, 8, 9, 10, 11, 12] (by decide) rfl)
      · have q59 := of_decide_eq_false h59
        refine TL.end_ ?_
        refine TX.then_ ?_
        refine TC.seq_ ?_
        refine TC.condF rfl ?_
        refine TC.exit_ ?_
        refine TX.then_exit ?_
        refine TX.then_exit ?_
        refine TX.in_same ?_
        refine TX.then_ ?_
        refine TC.seq_ ?_
        refine TC.region ?_
        refine TL.val rfl rfl rfl (gives_move rfl rfl) ?_
        refine TL.val rfl rfl rfl (gives_assign rfl rfl) ?_
        refine TL.end_ ?_
        refine TX.then_ ?_
        refine TC.ret_ ?_
        exact ret_tmp Tryz.results92 rfl (fun w1 hw => ⟨⟨((Ao, co), out), ⟨sa_end hM (by omega) hnT hnL hu, by dsimp only; omega⟩, hoc, hom⟩, rfl, hw.pick [0] (by decide) rfl⟩)
end Go.Proofs.YtijmpjfafpodhaaGreat

namespace Go.Proofs.YtijmpjfafpodhaaGreat
open Go.RowKit
set_option maxRecDepth 20000
theorem ix_any {p : Rs → Bool} {l : List Rs} {z : Int} (h : IxOk p l z) : l.any p = decide (z ≥ 0) := by
  rcases h with ⟨rfl, h⟩ | ⟨i, rfl, _, _, y, hy, hp⟩
  · rw [List.any_eq_false.2 fun r hr => by rw [h r hr]; decide]; rfl
  · rw [List.any_eq_true.2 ⟨y, List.mem_of_getElem? hy, hp⟩]; exact (decide_eq_true (by omega)).symm
theorem afdnm87 : (Tryz.f87.name == "runtime.NumGoroutine") = false := by decide
theorem afdbd87 : Tryz.f87.body.isNone = false := rfl
theorem afdnm86 : (Tryz.f86.name == "runtime.NumGoroutine") = false := by decide
theorem afdbd86 : Tryz.f86.body.isNone = false := rfl
theorem afdnm89 : (Tryz.f89.name == "runtime.NumGoroutine") = false := by decide
theorem afdbd89 : Tryz.f89.body.isNone = false := rfl
theorem afdnm92 : (Tryz.f92.name == "runtime.NumGoroutine") = false := by decide
theorem afdbd92 : Tryz.f92.body.isNone = false := rfl
theorem afdnm93 : (Tryz.f93.name == "runtime.NumGoroutine") = false := by decide
theorem afdbd93 : Tryz.f93.body.isNone = false := rfl
set_option maxHeartbeats 1000000 in
theorem fnd1_any (r : Rs) (w : World) :
    Calls Tryz.prog 87 #[.agg r.cells.toArray] w fun e w' => e = .returned (.bool (!vldRs r)) ∧ Below w.heap.size w w' := by
  refine begin_ (vs := [.agg r.cells.toArray]) Tryz.func87 rfl rfl rfl ?_ (Pm.start w)
  refine TC.seq_ ?_
  refine TC.region ?_
  refine TL.pnew rfl rfl rfl (exec_box (cs := r.cells) rfl rfl rfl) (fun g1 => ?_)
  refine TL.val rfl rfl rfl (gives_assign rfl rfl) ?_
  refine TL.end_ ?_
  refine TX.then_ ?_
  refine TC.seq_ ?_
  refine TC.region ?_
  refine TL.val rfl rfl rfl (pm_loadV (k := 0) (i := 0) (n := 17) (v := .agg (r.cells).toArray) rfl rfl prsag65 prssz65 rfl (by show 17 ≤ 17; decide) rfl) ?_
  refine TL.callsplit rfl rfl rfl rfl rfl Tryz.func70 prsnm70 prsbd70 (fun w1 hw => vldRs_any r w1) (fun h4 => ?_) (fun h4 => ?_)
  · refine TL.val rfl rfl rfl (gives_boolnot rfl rfl) ?_
    refine TL.val rfl rfl rfl (gives_assign rfl rfl) ?_
    refine TL.end_ ?_
    refine TX.then_ ?_
    refine TC.ret_ ?_
    have hE : (!vldRs r) = false := (by simp [Bool.not_eq_true, h4])
    exact ret_tmp Tryz.results87 rfl (fun w1 hw => ⟨by rw [hE]; try rfl, hw.bel⟩)
  · refine TL.val rfl rfl rfl (gives_boolnot rfl rfl) ?_
    refine TL.val rfl rfl rfl (gives_assign rfl rfl) ?_
    refine TL.end_ ?_
    refine TX.then_ ?_
    refine TC.ret_ ?_
    have hE : (!vldRs r) = true := (by simp [Bool.not_eq_true, h4])
    exact ret_tmp Tryz.results87 rfl (fun w1 hw => ⟨by rw [hE]; try rfl, hw.bel⟩)
set_option maxHeartbeats 1000000 in
theorem ctG_any (A0 : Option Addr) (c0 : Nat) (l : List Rs) (p : Rs → Bool) (f : FuncId) (fn : Func) (cap : Array Value) (w : World) (hr : Reads w w.heap.size 17 A0 l.length (flat Rs.cells l)) (hl1 : l.length ≤ 100000) (hfn : Tryz.prog.funcs[f]? = some fn) (hnm : (fn.name == "runtime.NumGoroutine") = false) (hbd : fn.body.isNone = false) (hf : ∀ (x : Rs) (w1 : World), Below w.heap.size w w1 → Calls Tryz.prog f (#[] ++ [Value.agg x.cells.toArray].toArray ++ cap) w1 fun e w' => e = .returned (.bool (p x)) ∧ Below w1.heap.size w1 w') :
    Calls Tryz.prog 86 #[.slice A0 l.length c0, .func (.func f) #[] cap] w fun e w' => e = .returned (.bool (l.any p)) ∧ Below w.heap.size w w' := by
  refine begin_ (vs := [.slice A0 l.length c0, .func (.func f) #[] cap]) Tryz.func86 rfl rfl rfl ?_ (Pm.start w)
  refine TC.seq_ ?_
  refine TC.region ?_
  refine TL.val rfl rfl rfl (gives_assign rfl rfl) ?_
  refine TL.end_ ?_
  refine TX.then_ ?_
  refine TC.seq_ ?_
  refine TC.region ?_
  refine TL.val rfl rfl rfl (gives_move rfl rfl) ?_
  refine TL.val rfl rfl rfl (gives_move rfl rfl) ?_
  refine TL.pcallPm (α := {z : Int // IxOk p l z}) (fun x => .int .i64 x.1) (fun x => []) rfl rfl rfl rfl rfl Tryz.func131 adenm131 adebd131 (fun w1 hw => (ixG_any A0 c0 l p f fn cap w1 (hr.up hw.bel) hl1 hfn hnm hbd (fun x w2 hb => hf x w2 (hw.bel.trans (hb.mono hw.bel.size)))).mono fun en w2 ⟨x, h1, h2⟩ => ⟨x, h1, (Pm.start w1).below h2⟩) ?_
  rintro ⟨z, hz⟩
  dsimp only [List.cons_append, List.nil_append]
  refine TL.vsplit rfl rfl rfl (gives_bin rfl rfl rfl (fun w => bin_geq w)) (fun h8 => ?_) (fun h8 => ?_)
  · have q8 := of_decide_eq_true h8
    refine TL.val rfl rfl rfl (gives_assign rfl rfl) ?_
    refine TL.end_ ?_
    refine TX.then_ ?_
    refine TC.ret_ ?_
    exact ret_tmp Tryz.results86 rfl (fun w1 hw => ⟨by rw [ix_any hz, decide_eq_true q8], hw.bel⟩)
  · have q8 := of_decide_eq_false h8
    refine TL.val rfl rfl rfl (gives_assign rfl rfl) ?_
    refine TL.end_ ?_
    refine TX.then_ ?_
    refine TC.ret_ ?_
    exact ret_tmp Tryz.results86 rfl (fun w1 hw => ⟨by rw [ix_any hz, decide_eq_false q8], hw.bel⟩)
set_option maxHeartbeats 1000000 in
theorem fnd_any (A0 : Option Addr) (c0 : Nat) (l : List Rs) (A1 : Option Addr) (c1 : Nat) (es : List En) (u : Ru) (w : World) (hr : Reads w w.heap.size 17 A0 l.length (flat Rs.cells l)) (hl1 : l.length ≤ 100000) (hok : ∀ r ∈ l, r.Ok) (hr1 : Reads w w.heap.size 5 A1 es.length (flat En.cells es)) :
    Calls Tryz.prog 39 #[.slice A0 l.length c0, .agg #[.slice A1 es.length c1], .agg u.cells.toArray] w fun e w' => ∃ y : {y : ((Option Addr × Nat) × List Rp) × Int // FndOk es l u y.1.2 y.2 ∧ y.1.2.length ≤ 100000000000 ∧ y.1.2.length ≤ y.1.1.2 ∧ y.1.1.2 ≤ maxLen}, e = .returned (.tuple #[.slice y.1.1.1.1 y.1.1.2.length y.1.1.1.2, .int .i64 y.1.2]) ∧ Pm w [.row (.slice y.1.1.1.1 y.1.1.2.length y.1.1.1.2) 34 8 y.1.1.2.length (flat Rp.cells y.1.1.2)] w' := by
  refine begin_ (vs := [.slice A0 l.length c0, .agg #[.slice A1 es.length c1], .agg u.cells.toArray]) Tryz.func39 rfl rfl rfl ?_ (Pm.start w)
  refine TC.seq_ ?_
  refine TC.region ?_
  refine TL.pnew rfl rfl rfl (exec_box (cs := [.slice A1 es.length c1]) rfl rfl rfl) (fun g4 => ?_)
  refine TL.pnew rfl rfl rfl (exec_box (cs := u.cells) rfl rfl rfl) (fun g5 => ?_)
  refine TL.val rfl rfl rfl (gives_assign rfl rfl) ?_
  refine TL.val rfl rfl rfl (gives_assign rfl rfl) ?_
  refine TL.end_ ?_
  refine TX.then_ ?_
  refine TC.seq_ ?_
  refine TC.seq_ ?_
  refine TC.region ?_
  refine TL.val rfl rfl rfl (pm_loadV (k := 0) (i := 0) (n := 3) (v := .agg (u.cells).toArray) rfl rfl aprag28 aprsz28 rfl (by show 3 ≤ 3; decide) rfl) ?_
  refine TL.callsplit rfl rfl rfl rfl rfl Tryz.func24 aprnm24 aprbd24 (fun w1 hw => vldRu_any u w1) (fun h15 => ?_) (fun h15 => ?_)
  · refine TL.val rfl rfl rfl (gives_boolnot rfl rfl) ?_
    refine TL.val rfl rfl rfl (gives_move rfl rfl) ?_
    refine TL.on rfl rfl rfl ?_
    refine TL.val rfl rfl rfl (pm_loadV (k := 1) (i := 0) (n := 1) (v := .agg #[.slice A1 es.length c1]) rfl rfl breag26 bresz26 rfl (by show 1 ≤ 1; decide) rfl) ?_
    refine TL.on rfl rfl rfl ?_
    refine TL.callsplit rfl rfl rfl rfl rfl Tryz.func84 brenm84 brebd84 (fun w1 hw => validR_any A1 c1 es w1 (hr1.up hw.bel)) (fun h19 => ?_) (fun h19 => ?_)
    · refine TL.on rfl rfl rfl ?_
      refine TL.val rfl rfl rfl (gives_boolnot rfl rfl) ?_
      refine TL.val rfl rfl rfl (gives_pick rfl rfl rfl) ?_
      refine TL.val rfl rfl rfl (gives_move rfl rfl) ?_
      refine TL.on rfl rfl rfl ?_
      refine TL.val rfl rfl rfl (gives_move rfl rfl) ?_
      refine TL.on rfl rfl rfl ?_
      refine TL.callsplit rfl rfl rfl rfl rfl Tryz.func86 afdnm86 afdbd86 (fun w1 hw => ctG_any A0 c0 l (fun r : Rs => !vldRs r) 87 _ #[] w1 (hr.up hw.bel) hl1 Tryz.func87 afdnm87 afdbd87 (fun x w2 hb => fnd1_any x w2)) (fun h24 => ?_) (fun h24 => ?_)
      · refine TL.val rfl rfl rfl (gives_pick rfl rfl rfl) ?_
        refine TL.end_ ?_
        refine TX.then_ ?_
        refine TC.condT rfl ?_
        refine TC.seq_ ?_
        refine TC.region ?_
        refine TL.val rfl rfl rfl (gives_assign rfl rfl) ?_
        refine TL.val rfl rfl rfl (gives_assign rfl rfl) ?_
        refine TL.end_ ?_
        refine TX.then_ ?_
        refine TC.ret_ ?_
        refine TX.then_ret ?_
        exact ret_pair (v1 := .slice none 0 0) (v2 := .int .i64 1) Tryz.results39 rfl rfl (fun w1 hw => ⟨⟨(((none, 0), []), 1), .inl ⟨rfl, rfl, fun h => by rw [List.any_eq_true] at h24; obtain ⟨r, hr, h9⟩ := h24; rw [h.1 r hr] at h9; cases h9⟩, Nat.zero_le _, Nat.le_refl _, Nat.zero_le _⟩, rfl, (hw.pick [] (by decide) rfl).nilrow _ _⟩)
      · refine TL.val rfl rfl rfl (gives_pick rfl rfl rfl) ?_
        refine TL.end_ ?_
        refine TX.then_ ?_
        refine TC.condF rfl ?_
        refine TC.skip_ ?_
        refine TX.then_ ?_
        refine TC.seq_ ?_
        refine TC.seq_ ?_
        have hva : ∀ r ∈ l, vldRs r = true := fun r hr => by rw [List.any_eq_false] at h24; have := h24 r hr; simpa using this
        have hprb : 1 ≤ u.prb := by have h9 := h15; unfold vldRu at h9; exact (of_decide_eq_true h9).2.2.1
        refine TC.region ?_
        refine TL.val rfl rfl rfl (gives_move rfl rfl) ?_
        refine TL.pcallPm (α := {y : (Option Addr × Nat) × List Rs // IsOrd l y.2 ∧ y.2.length ≤ y.1.2 ∧ y.1.2 ≤ maxLen}) (fun x => .slice x.1.1.1 x.1.2.length x.1.1.2) (fun x => [.row (.slice x.1.1.1 x.1.2.length x.1.1.2) 65 17 x.1.2.length (flat Rs.cells x.1.2)]) rfl rfl rfl rfl rfl Tryz.func88 pofnm88 pofbd88 (fun w1 hw => ord_any A0 c0 l w1 (hr.up hw.bel) hl1 hok) ?_
        rintro ⟨⟨⟨R27, rc27⟩, o27⟩, hP27, hR271, hR272⟩
        dsimp only [List.cons_append, List.nil_append]
        dsimp only at hP27 hR271 hR272 ⊢
        refine TL.val rfl rfl rfl (gives_len rfl Tryz.underlying23 rfl) ?_
        refine TL.vsplit rfl rfl rfl (gives_bin rfl rfl rfl (fun w => bin_gtr w)) (fun h29 => ?_) (fun h29 => ?_)
        · have q29 := of_decide_eq_true h29
          refine TL.end_ ?_
          refine TX.then_ ?_
          refine TC.condT rfl ?_
          refine TC.seq_ ?_
          refine TC.region ?_
          refine TL.val rfl rfl rfl (gives_assign rfl rfl) ?_
          refine TL.val rfl rfl rfl (gives_assign rfl rfl) ?_
          refine TL.end_ ?_
          refine TX.then_ ?_
          refine TC.ret_ ?_
          refine TX.then_ret ?_
          exact ret_pair (v1 := .slice none 0 0) (v2 := .int .i64 5) Tryz.results39 rfl rfl (fun w1 hw => ⟨⟨(((none, 0), []), 5), .inr (.inl ⟨rfl, rfl, ⟨hva, h19, h15⟩, o27, hP27, by omega⟩), Nat.zero_le _, Nat.le_refl _, Nat.zero_le _⟩, rfl, (hw.pick [] (by decide) rfl).nilrow _ _⟩)
        · have q29 := of_decide_eq_false h29
          refine TL.end_ ?_
          refine TX.then_ ?_
          refine TC.condF rfl ?_
          refine TC.skip_ ?_
          refine TX.then_ ?_
          refine TC.seq_ ?_
          have hol : o27.length ≤ 512 := by omega
          refine TC.region ?_
          refine TL.val rfl rfl rfl (gives_assign rfl rfl) ?_
          refine TL.end_ ?_
          refine TX.then_ ?_
          refine TC.seq_ ?_
          refine TC.seq_ ?_
          refine TC.region ?_
          refine TL.val rfl rfl rfl (gives_move rfl rfl) ?_
          refine TL.pcallPm (α := {y : (Option Addr × Nat) × List Trc // IsTrc l y.2 ∧ y.2.length ≤ y.1.2 ∧ y.1.2 ≤ maxLen}) (fun x => .slice x.1.1.1 x.1.2.length x.1.1.2) (fun x => [.row (.slice x.1.1.1 x.1.2.length x.1.1.2) 32 3 x.1.2.length (flat Trc.cells x.1.2)]) rfl rfl rfl rfl rfl Tryz.func89 afdnm89 afdbd89 (fun w1 hw => trs_any A0 c0 l w1 (hr.up hw.bel) hl1) ?_
          rintro ⟨⟨⟨R31, rc31⟩, tr31⟩, hP31, hR311, hR312⟩
          dsimp only [List.cons_append, List.nil_append]
          dsimp only at hP31 hR311 hR312 ⊢
          refine TL.val rfl rfl rfl (gives_len rfl Tryz.underlying128 rfl) ?_
          refine TL.val rfl rfl rfl (gives_move rfl rfl) ?_
          refine TL.end_ ?_
          refine TX.then_ ?_
          refine TC.block ?_
          refine TC.nilrow 34 8 ?_
          refine TC.loop_ (α := {y : Nat × (Option Addr × Nat) × List Rp // y.1 ≤ tr31.length ∧ MinU (PrP es l u) (FSA l (tr31.take y.1)) y.2.2 ∧ y.2.2.length ≤ 134480384 * y.1 ∧ y.2.2.length ≤ y.2.1.2 ∧ y.2.1.2 ≤ maxLen}) (fun y => [(0, .slice A0 l.length c0), (4, .pointer (some ⟨g4, 0, none⟩)), (5, .pointer (some ⟨g5, 0, none⟩)), (31, .slice R31 tr31.length rc31), (32, .int .i64 (tr31.length : Nat)), (33, .int .i64 ((y.1.1 : Nat) : Int)), (8, .slice y.1.2.1.1 y.1.2.2.length y.1.2.1.2)]) (fun y => Pm w [.row (.slice y.1.2.1.1 y.1.2.2.length y.1.2.1.2) 34 8 y.1.2.2.length (flat Rp.cells y.1.2.2), .row (.slice R31 tr31.length rc31) 32 3 tr31.length (flat Trc.cells tr31), .row (.slice R27 o27.length rc27) 65 17 o27.length (flat Rs.cells o27), .blk g5 28 u.cells, .blk g4 26 [.slice A1 es.length c1]]) (fun y => tr31.length - y.1.1) (⟨(0, (none, 0), []), Nat.zero_le _, fa_zero, Nat.zero_le _, Nat.le_refl _, Nat.zero_le _⟩) ⟨rfl, rfl, rfl, rfl, rfl, rfl, rfl, trivial⟩ (fun w1 hw => hw) ?_
          rintro ⟨⟨i, ⟨Ao, co⟩, out⟩, hi, hM, hos, hoc, hom⟩
          dsimp only at hi hM hos hoc hom ⊢
          have htl31 : tr31.length ≤ 512 := Nat.le_trans (trc_le hP31 hP27) hol
          refine TC.seq_ ?_
          refine TC.region ?_
          refine TL.vsplit rfl rfl rfl (gives_bin rfl rfl rfl (fun w => bin_lss w)) (fun h34 => ?_) (fun h34 => ?_)
          · have q34 := of_decide_eq_true h34
            refine TL.end_ ?_
            refine TX.then_ ?_
            refine TC.seq_ ?_
            refine TC.condT rfl ?_
            refine TC.skip_ ?_
            refine TX.then_ ?_
            refine TC.seq_ ?_
            refine TC.block ?_
            refine TC.seq_ ?_
            refine TC.region ?_
            refine TL.fact (p := ∃ g, R31 = some ⟨g, 0, none⟩) (fun w1 hw => rowA hw (k := 1) rfl (by omega)) ?_
            rintro ⟨g_R31, rfl⟩
            have hi35 : i < tr31.length := by omega
            obtain ⟨x35, hx35⟩ : ∃ x35, tr31[i]? = some x35 := ⟨_, List.getElem?_eq_getElem hi35⟩
            refine TL.val rfl rfl rfl (gives_at (v := .pointer (some ⟨g_R31, 0 + i * 3, none⟩)) rfl rfl rfl (fun w => at_el Tryz.underlying128 prssz32 rfl _ _ i (by omega) rfl w)) ?_
            refine TL.val rfl rfl rfl (gives_loadR (off := 0 + i * 3) rfl rfl pcpag32 prssz32 (trc_cel.len x35) (fun w1 hw j9 u9 h9 => flat_row trc_cel hw (q := 1) rfl hx35 j9 u9 h9)) ?_
            refine TL.pnew rfl rfl rfl (exec_alloc (cs := [.int .i64 0, .int .u32 0, .int .i64 0]) rfl prszv32 rfl) (fun g10 => ?_)
            refine TL.pstore (k := 0) (vs := x35.cells) rfl rfl rfl rfl rfl rfl rfl prssz32 (trc_cel.one _) (by show 3 ≤ 3; decide) (L' := [.blk g10 32 x35.cells, .row (.slice Ao out.length co) 34 8 out.length (flat Rp.cells out), .row (.slice (some ⟨g_R31, 0, none⟩) tr31.length rc31) 32 3 tr31.length (flat Trc.cells tr31), .row (.slice R27 o27.length rc27) 65 17 o27.length (flat Rs.cells o27), .blk g5 28 u.cells, .blk g4 26 [.slice A1 es.length c1]]) rfl ?_
            refine TL.end_ ?_
            refine TX.then_ ?_
            refine TC.seq_ ?_
            refine TC.region ?_
            refine TL.mkmap rfl rfl rfl rfl (fun gm hgm => ?_)
            refine TL.val rfl rfl rfl (gives_assign rfl rfl) ?_
            refine TL.end_ ?_
            refine TX.then_ ?_
            refine TC.seq_ ?_
            refine TC.region ?_
            refine TL.val rfl rfl rfl (gives_move rfl rfl) ?_
            refine TL.val rfl rfl rfl (pm_loadV (k := 1) (i := 0) (n := 3) (v := .agg (x35.cells).toArray) rfl rfl pcpag32 prssz32 rfl (by show 3 ≤ 3; decide) rfl) ?_
            refine TL.pcallPm (α := {y : (Option Addr × Nat) × List Rs // IsOf l x35 y.2 ∧ y.2.length ≤ y.1.2 ∧ y.1.2 ≤ maxLen}) (fun x => .slice x.1.1.1 x.1.2.length x.1.1.2) (fun x => [.row (.slice x.1.1.1 x.1.2.length x.1.1.2) 65 17 x.1.2.length (flat Rs.cells x.1.2)]) rfl rfl rfl rfl rfl Tryz.func90 astnm90 astbd90 (fun w1 hw => of_any A0 c0 l x35 w1 (hr.up hw.bel) hl1 hok) ?_
            rintro ⟨⟨⟨R40, rc40⟩, of40⟩, hP40, hR401, hR402⟩
            dsimp only [List.cons_append, List.nil_append]
            dsimp only at hP40 hR401 hR402 ⊢
            refine TL.val rfl rfl rfl (gives_len rfl Tryz.underlying23 rfl) ?_
            refine TL.val rfl rfl rfl (gives_move rfl rfl) ?_
            refine TL.end_ ?_
            refine TX.then_ ?_
            refine TC.block ?_
            refine TC.loop_ (α := {y : Nat × (Option Addr × Nat) × List Rp × Obj // y.1 ≤ of40.length ∧ MinU (PrP es l u) (FSB l (tr31.take i) x35 (fls (of40.take y.1))) y.2.2.1 ∧ FlM y.2.2.2 (fls (of40.take y.1)) ∧ y.2.2.1.length ≤ 134480384 * i + 262657 * y.1 ∧ y.2.2.1.length ≤ y.2.1.2 ∧ y.2.1.2 ≤ maxLen}) (fun y => [(0, .slice A0 l.length c0), (4, .pointer (some ⟨g4, 0, none⟩)), (5, .pointer (some ⟨g5, 0, none⟩)), (10, .pointer (some ⟨g10, 0, none⟩)), (11, .map (some gm)), (31, .slice (some ⟨g_R31, 0, none⟩) tr31.length rc31), (32, .int .i64 (tr31.length : Nat)), (33, .int .i64 ((i : Nat) : Int)), (40, .slice R40 of40.length rc40), (41, .int .i64 (of40.length : Nat)), (42, .int .i64 ((y.1.1 : Nat) : Int)), (8, .slice y.1.2.1.1 y.1.2.2.1.length y.1.2.1.2)]) (fun y => Pm w [.row (.slice R40 of40.length rc40) 65 17 of40.length (flat Rs.cells of40), .oth gm y.1.2.2.2, .blk g10 32 x35.cells, .row (.slice y.1.2.1.1 y.1.2.2.1.length y.1.2.1.2) 34 8 y.1.2.2.1.length (flat Rp.cells y.1.2.2.1), .row (.slice (some ⟨g_R31, 0, none⟩) tr31.length rc31) 32 3 tr31.length (flat Trc.cells tr31), .row (.slice R27 o27.length rc27) 65 17 o27.length (flat Rs.cells o27), .blk g5 28 u.cells, .blk g4 26 [.slice A1 es.length c1]]) (fun y => of40.length - y.1.1) (⟨(0, (Ao, co), out, .map #[] 0), Nat.zero_le _, fb_start hM, by dsimp only; rw [List.take_zero]; exact FlM.new, by dsimp only; omega, hoc, hom⟩) ⟨rfl, rfl, rfl, rfl, rfl, rfl, rfl, rfl, rfl, rfl, rfl, rfl, trivial⟩ (fun w1 hw => hw) ?_
            rintro ⟨⟨j, ⟨Ao2, co2⟩, out2, om⟩, hj, hM2, hFl, hos2, hoc2, hom2⟩
            dsimp only at hj hM2 hFl hos2 hoc2 hom2 ⊢
            obtain ⟨fm, hmf, hff⟩ := id hFl
            have hofl : of40.length ≤ 512 := Nat.le_trans (of_le hP40 hP27) hol
            refine TC.seq_ ?_
            refine TC.region ?_
            refine TL.vsplit rfl rfl rfl (gives_bin rfl rfl rfl (fun w => bin_lss w)) (fun h43 => ?_) (fun h43 => ?_)
            · have q43 := of_decide_eq_true h43
              refine TL.end_ ?_
              refine TX.then_ ?_
              refine TC.seq_ ?_
              refine TC.condT rfl ?_
              refine TC.skip_ ?_
              refine TX.then_ ?_
              refine TC.seq_ ?_
              refine TC.block ?_
              refine TC.seq_ ?_
              refine TC.region ?_
              refine TL.fact (p := ∃ g, R40 = some ⟨g, 0, none⟩) (fun w1 hw => rowA hw (k := 0) rfl (by omega)) ?_
              rintro ⟨g_R40, rfl⟩
              have hi44 : j < of40.length := by omega
              obtain ⟨x44, hx44⟩ : ∃ x44, of40[j]? = some x44 := ⟨_, List.getElem?_eq_getElem hi44⟩
              refine TL.val rfl rfl rfl (gives_at (v := .pointer (some ⟨g_R40, 0 + j * 17, none⟩)) rfl rfl rfl (fun w => at_el Tryz.underlying23 prssz65 rfl _ _ j (by omega) rfl w)) ?_
              refine TL.val rfl rfl rfl (gives_loadR (off := 0 + j * 17) rfl rfl prsag65 prssz65 (rs_cel.len x44) (fun w1 hw j9 u9 h9 => flat_row rs_cel hw (q := 0) rfl hx44 j9 u9 h9)) ?_
              refine TL.pnew rfl rfl rfl (exec_alloc (cs := [.int .i64 0, .int .i64 0, .int .i64 0, .int .i64 0, .int .u32 0, .int .i64 0, .int .i64 0, .int .i64 0, .bool false, .bool false, .int .i64 0, .int .u32 0, .int .i64 0, .int .i64 0, .int .i64 0, .int .i64 0, .int .i64 0]) rfl arpzv65 rfl) (fun g13 => ?_)
              refine TL.pstore (k := 0) (vs := x44.cells) rfl rfl rfl rfl rfl rfl rfl prssz65 (rs_cel.one _) (by show 17 ≤ 17; decide) (L' := [.blk g13 65 x44.cells, .row (.slice (some ⟨g_R40, 0, none⟩) of40.length rc40) 65 17 of40.length (flat Rs.cells of40), .oth gm om, .blk g10 32 x35.cells, .row (.slice Ao2 out2.length co2) 34 8 out2.length (flat Rp.cells out2), .row (.slice (some ⟨g_R31, 0, none⟩) tr31.length rc31) 32 3 tr31.length (flat Trc.cells tr31), .row (.slice R27 o27.length rc27) 65 17 o27.length (flat Rs.cells o27), .blk g5 28 u.cells, .blk g4 26 [.slice A1 es.length c1]]) rfl ?_
              refine TL.end_ ?_
              refine TX.then_ ?_
              refine TC.seq_ ?_
              refine TC.seq_ ?_
              have hv44 : vldRs x44 = true := by have h9 := List.mem_of_getElem? hx44; obtain ⟨o9, h10, rfl⟩ := hP40; exact ((h10.2 x44).1 (List.mem_filter.1 h9).1).2
              obtain ⟨mb, hmb⟩ : ∃ b, decide (x44.flow ∈ fls (of40.take j)) = b := ⟨_, rfl⟩
              refine TC.region ?_
              refine TL.val rfl rfl rfl (gives_move rfl rfl) ?_
              refine TL.val rfl rfl rfl (gives_field (v := .pointer (some ⟨g13, 6, none⟩)) rfl rfl (fun w => prsfld65_6 _ _ w)) ?_
              refine TL.val rfl rfl rfl (pm_load (k := 0) (i := 6) rfl rfl pcmag3 rfl rfl) ?_
              refine TL.val rfl rfl rfl (gives_lookG (i := 2) (a := x44.flow) (v := .bool mb) rfl rfl rfl (mkey_int Tryz.underlying3) Tryz.underlying130 (fun w => rfl) rfl hmf (wf_flow hv44) (by rw [hff _ (wf_flow hv44), hmb])) ?_
              refine TL.val rfl rfl rfl (gives_move rfl rfl) ?_
              cases mb with
              | true =>
                refine TL.off rfl rfl rfl rfl rfl rfl ?_
                refine TL.off rfl rfl rfl rfl rfl rfl ?_
                refine TL.off rfl rfl rfl rfl rfl rfl ?_
                refine TL.val rfl rfl rfl (gives_pick rfl rfl rfl) ?_
                refine TL.end_ ?_
                refine TX.then_ ?_
                refine TC.condT rfl ?_
                refine TC.exit_ ?_
                refine TX.then_exit ?_
                refine TX.in_same ?_
                refine TX.then_ ?_
                refine TC.region ?_
                refine TL.val rfl rfl rfl (gives_bin rfl rfl rfl (fun w => bin_add_ (r := ((j + 1 : Nat) : Int)) (by simp only [IntKind.wrap_i64]; omega) w)) ?_
                refine TL.val rfl rfl rfl (gives_move rfl rfl) ?_
                refine TL.end_ ?_
                exact TX.round (⟨(j + 1, (Ao2, co2), out2, om), by dsimp only; omega, (fb_skip hM2 hx44 (.inl (of_decide_eq_true hmb))).2, hFl.same (fb_skip hM2 hx44 (.inl (of_decide_eq_true hmb))).1, by dsimp only; omega, hoc2, hom2⟩) (by show of40.length - (j + 1) < of40.length - j; omega) ⟨rfl, rfl, rfl, rfl, rfl, rfl, rfl, rfl, rfl, rfl, rfl, rfl, trivial⟩ (fun w1 hw => hw.pick [1, 2, 3, 4, 5, 6, 7, 8] (by decide) rfl)
              | false =>
                refine TL.on rfl rfl rfl ?_
                refine TL.val rfl rfl rfl (pm_loadV (k := 0) (i := 0) (n := 17) (v := .agg (x44.cells).toArray) rfl rfl prsag65 prssz65 rfl (by show 17 ≤ 17; decide) rfl) ?_
                refine TL.on rfl rfl rfl ?_
                refine TL.callsplit rfl rfl rfl rfl rfl Tryz.func91 prsnm91 prsbd91 (fun w1 hw => usbRs_any x44 w1) (fun h52 => ?_) (fun h52 => ?_)
                · refine TL.on rfl rfl rfl ?_
                  refine TL.val rfl rfl rfl (gives_boolnot rfl rfl) ?_
                  refine TL.val rfl rfl rfl (gives_pick rfl rfl rfl) ?_
                  refine TL.end_ ?_
                  refine TX.then_ ?_
                  refine TC.condF rfl ?_
                  refine TC.skip_ ?_
                  refine TX.then_ ?_
                  refine TC.seq_ ?_
                  have hu44 : usbRs x44 = true := h52
                  have hnm44 : x44.flow ∉ fls (of40.take j) := of_decide_eq_false hmb
                  refine TC.region ?_
                  refine TL.val rfl rfl rfl (gives_move rfl rfl) ?_
                  refine TL.val rfl rfl rfl (gives_field (v := .pointer (some ⟨g13, 6, none⟩)) rfl rfl (fun w => prsfld65_6 _ _ w)) ?_
                  refine TL.val rfl rfl rfl (pm_load (k := 0) (i := 6) rfl rfl pcmag3 rfl rfl) ?_
                  refine TL.mapsetG (i := 2) rfl rfl rfl rfl rfl rfl (mkey_int Tryz.underlying3) Tryz.underlying130 rfl hgm hmf (wf_flow hv44) (fun ob2 hm2 => ?_)
                  try dsimp only [List.set_cons_zero, List.set_cons_succ]
                  have hFl2 := FlM.set hff hm2
                  refine TL.end_ ?_
                  refine TX.then_ ?_
                  refine TC.held (ls := #[false, false, false, false, false, false, false, false, false, false, false]) (Pm w [.blk g13 65 x44.cells, .blk g10 32 x35.cells, .blk g5 28 u.cells, .blk g4 26 [.slice A1 es.length c1]]) (by kernel_rfl) rfl rfl (fun w hw => hw.drawn _) ?_
                  refine TH.take (listed' := #[true, false, false, false, false, false, false, false, false, false, false]) 0 rfl (by kernel_rfl) (by kernel_rfl) (by kernel_rfl) rfl rfl rfl rfl (gives_move rfl rfl) (fun w1 hw => hw.pick [0, 3, 7, 8] (by decide) rfl) ?_
                  refine TH.take (listed' := #[true, true, false, false, false, false, false, false, false, false, false]) 1 rfl (by kernel_rfl) (by kernel_rfl) (by kernel_rfl) rfl rfl rfl rfl (gives_move rfl rfl) (fun w1 hw => hw.pick [0, 3, 7, 8] (by decide) rfl) ?_
                  refine TH.take (listed' := #[true, true, true, false, false, false, false, false, false, false, false]) 2 rfl (by kernel_rfl) (by kernel_rfl) (by kernel_rfl) rfl rfl rfl rfl (pm_loadV (k := 1) (i := 0) (n := 3) (v := .agg (x35.cells).toArray) rfl rfl pcpag32 prssz32 rfl (by show 3 ≤ 3; decide) rfl) (fun w1 hw => hw.pick [0, 3, 7, 8] (by decide) rfl) ?_
                  refine TH.take (listed' := #[true, true, true, true, false, false, false, false, false, false, false]) 3 rfl (by kernel_rfl) (by kernel_rfl) (by kernel_rfl) rfl rfl rfl rfl (gives_field (v := .pointer (some ⟨g13, 6, none⟩)) rfl rfl (fun w => prsfld65_6 _ _ w)) (fun w1 hw => hw.pick [0, 3, 7, 8] (by decide) rfl) ?_
                  refine TH.take (listed' := #[true, true, true, true, true, false, false, false, false, false, false]) 4 rfl (by kernel_rfl) (by kernel_rfl) (by kernel_rfl) rfl rfl rfl rfl (pm_load (k := 0) (i := 6) rfl rfl pcmag3 rfl rfl) (fun w1 hw => hw.pick [0, 3, 7, 8] (by decide) rfl) ?_
                  refine TH.take (listed' := #[true, true, true, true, true, false, true, false, false, false, false]) 6 rfl (by kernel_rfl) (by kernel_rfl) (by kernel_rfl) rfl rfl rfl rfl (pm_loadV (k := 3) (i := 0) (n := 1) (v := .agg #[.slice A1 es.length c1]) rfl rfl breag26 bresz26 rfl (by show 1 ≤ 1; decide) rfl) (fun w1 hw => hw.pick [0, 3, 7, 8] (by decide) rfl) ?_
                  refine TH.take (listed' := #[true, true, true, true, true, false, true, true, false, false, false]) 7 rfl (by kernel_rfl) (by kernel_rfl) (by kernel_rfl) rfl rfl rfl rfl (pm_loadV (k := 2) (i := 0) (n := 3) (v := .agg (u.cells).toArray) rfl rfl aprag28 aprsz28 rfl (by show 3 ≤ 3; decide) rfl) (fun w1 hw => hw.pick [0, 3, 7, 8] (by decide) rfl) ?_
                  refine TH.only' (listed' := #[true, true, true, true, true, true, true, true, false, false, false]) 5 rfl (by kernel_rfl) rfl ?_
                  refine TL.pcallPm (α := {y : (Option Addr × Nat) × List Rs // IsSt l x35 x44.flow y.2 ∧ y.2.length ≤ y.1.2 ∧ y.1.2 ≤ maxLen}) (fun x => .slice x.1.1.1 x.1.2.length x.1.1.2) (fun x => [.row (.slice x.1.1.1 x.1.2.length x.1.1.2) 65 17 x.1.2.length (flat Rs.cells x.1.2)]) rfl rfl rfl rfl rfl Tryz.func73 abhnm73 abhbd73 (fun w1 hw => stream_any A0 c0 l x35 x44.flow w1 (hr.up hw.bel) hl1 hok) ?_
                  rintro ⟨⟨⟨R63, rc63⟩, st63⟩, hP63, hR631, hR632⟩
                  dsimp only [List.cons_append, List.nil_append]
                  dsimp only at hP63 hR631 hR632 ⊢
                  have hstl : st63.length ≤ 512 := Nat.le_trans (hP63.leo hP27) hol
                  have hin63 := stream_ne hP40 hx44 hu44 hP63
                  obtain ⟨r0, hr0⟩ : ∃ r0, st63[0]? = some r0 := ⟨_, List.getElem?_eq_getElem (List.length_pos_of_mem hin63)⟩
                  refine TL.end_ ?_
                  refine TX.held (fun w1 hw => hw.pick [1, 4, 8, 9] (by decide) rfl) ?_
                  refine TH.only' (listed' := #[true, true, true, true, true, true, true, true, true, false, false]) 8 rfl (by kernel_rfl) rfl ?_
                  refine TL.pcallPm (α := {y : (Option Addr × Nat) × List Rp // (MinU (PrS es st63 u) (TmS r0 st63) y.2 ∧ y.2.length ≤ 262657) ∧ y.2.length ≤ y.1.2 ∧ y.1.2 ≤ maxLen}) (fun x => .slice x.1.1.1 x.1.2.length x.1.1.2) (fun x => [.row (.slice x.1.1.1 x.1.2.length x.1.1.2) 34 8 x.1.2.length (flat Rp.cells x.1.2)]) rfl rfl rfl rfl rfl Tryz.func92 afdnm92 afdbd92 (fun w1 hw => search_any R63 rc63 st63 A1 c1 es u r0 w1 (pm_rd hw (k := 0) rfl) (by omega) (hr1.up hw.bel) hstl hr0 (fun r hr => vld_in (hva r ((hP63.mem r).1 hr).1)) hprb) ?_
                  rintro ⟨⟨⟨R66, rc66⟩, o66⟩, hP66, hR661, hR662⟩
                  dsimp only [List.cons_append, List.nil_append]
                  dsimp only at hP66 hR661 hR662 ⊢
                  refine TL.end_ ?_
                  refine TX.held (fun w1 hw => hw.pick [2, 5, 9, 10] (by decide) rfl) ?_
                  refine TH.only' (listed' := #[true, true, true, true, true, true, true, true, true, true, false]) 9 rfl (by kernel_rfl) rfl ?_
                  refine TL.appendT (k := 6) rfl rfl rfl rfl Tryz.underlying49 aseel49 rfl rfl rfl (fun w1 hw => pm_reads hw (k := 0) rfl) (flat_one rp_cel _) (by show _ * 64 ≤ _; omega) ((out2 ++ o66).length) (List.length_append) (flat Rp.cells (out2 ++ o66)) ((flat_app _ _).symm) (fun A67 c67 hA671 hA672 => ?_)
                  refine TL.end_ ?_
                  refine TX.held (fun w1 hw => hw.pick [2, 5, 9, 10] (by decide) rfl) ?_
                  refine TH.take (listed' := #[true, true, true, true, true, true, true, true, true, true, true]) 10 rfl (by kernel_rfl) (by kernel_rfl) (by kernel_rfl) rfl rfl rfl rfl (gives_assign rfl rfl) (fun w1 hw => hw.pick [2, 5, 9, 10] (by decide) rfl) ?_
                  refine TH.done (by kernel_rfl) ?_
                  refine TX.in_normal ?_
                  refine TX.then_ ?_
                  refine TC.region ?_
                  refine TL.val rfl rfl rfl (gives_bin rfl rfl rfl (fun w => bin_add_ (r := ((j + 1 : Nat) : Int)) (by simp only [IntKind.wrap_i64]; omega) w)) ?_
                  refine TL.val rfl rfl rfl (gives_move rfl rfl) ?_
                  refine TL.end_ ?_
                  exact TX.round (⟨(j + 1, (A67, c67), out2 ++ o66, ob2), by dsimp only; omega, fb_step hM2 hx35 hP31 hx44 hu44 hnm44 hP63 hr0 h15 h19 hP66.1, by dsimp only; rw [fls_snoc_t hx44 hu44]; exact hFl2, by dsimp only; rw [List.length_append]; omega, hA671, hA672⟩) (by show of40.length - (j + 1) < of40.length - j; omega) ⟨rfl, rfl, rfl, rfl, rfl, rfl, rfl, rfl, rfl, rfl, rfl, rfl, trivial⟩ (fun w1 hw => hw.pick [3, 4, 5, 6, 7, 8, 9, 10] (by decide) rfl)
                · refine TL.on rfl rfl rfl ?_
                  refine TL.val rfl rfl rfl (gives_boolnot rfl rfl) ?_
                  refine TL.val rfl rfl rfl (gives_pick rfl rfl rfl) ?_
                  refine TL.end_ ?_
                  refine TX.then_ ?_
                  refine TC.condT rfl ?_
                  refine TC.exit_ ?_
                  refine TX.then_exit ?_
                  refine TX.in_same ?_
                  refine TX.then_ ?_
                  refine TC.region ?_
                  refine TL.val rfl rfl rfl (gives_bin rfl rfl rfl (fun w => bin_add_ (r := ((j + 1 : Nat) : Int)) (by simp only [IntKind.wrap_i64]; omega) w)) ?_
                  refine TL.val rfl rfl rfl (gives_move rfl rfl) ?_
                  refine TL.end_ ?_
                  exact TX.round (⟨(j + 1, (Ao2, co2), out2, om), by dsimp only; omega, (fb_skip hM2 hx44 (.inr h52)).2, hFl.same (fb_skip hM2 hx44 (.inr h52)).1, by dsimp only; omega, hoc2, hom2⟩) (by show of40.length - (j + 1) < of40.length - j; omega) ⟨rfl, rfl, rfl, rfl, rfl, rfl, rfl, rfl, rfl, rfl, rfl, rfl, trivial⟩ (fun w1 hw => hw.pick [1, 2, 3, 4, 5, 6, 7, 8] (by decide) rfl)
            · have q43 := of_decide_eq_false h43
              refine TL.end_ ?_
              refine TX.then_ ?_
              refine TC.seq_ ?_
              refine TC.condF rfl ?_
              refine TC.exit_ ?_
              refine TX.then_exit ?_
              refine TX.then_exit ?_
              refine TX.in_same ?_
              refine TX.in_normal ?_
              refine TX.then_ ?_
              refine TC.region ?_
              refine TL.val rfl rfl rfl (gives_bin rfl rfl rfl (fun w => bin_add_ (r := ((i + 1 : Nat) : Int)) (by simp only [IntKind.wrap_i64]; omega) w)) ?_
              refine TL.val rfl rfl rfl (gives_move rfl rfl) ?_
              refine TL.end_ ?_
              exact TX.round (⟨(i + 1, (Ao2, co2), out2), by dsimp only; omega, fb_end hM2 (by omega) hP40 hx35, by dsimp only; omega, hoc2, hom2⟩) (by show tr31.length - (i + 1) < tr31.length - i; omega) ⟨rfl, rfl, rfl, rfl, rfl, rfl, rfl, trivial⟩ (fun w1 hw => hw.pick [3, 4, 5, 6, 7] (by decide) rfl)
          · have q34 := of_decide_eq_false h34
            refine TL.end_ ?_
            refine TX.then_ ?_
            refine TC.seq_ ?_
            refine TC.condF rfl ?_
            refine TC.exit_ ?_
            refine TX.then_exit ?_
            refine TX.then_exit ?_
            refine TX.in_same ?_
            refine TX.then_ ?_
            refine TC.seq_ ?_
            refine TC.region ?_
            refine TL.val rfl rfl rfl (gives_move rfl rfl) ?_
            refine TL.turnRowD (k := 0) (fun ys => Sorted cmpRp out ys) rfl rfl rfl rfl rfl Tryz.func93 afdnm93 afdbd93 rfl (fun w1 hw hr9 => sortRp hr9 (rfl) (by omega)) (fun srt71 hS71 => ?_)
            try dsimp only [List.set_cons_zero, List.set_cons_succ]
            refine TL.end_ ?_
            refine TX.then_ ?_
            refine TC.seq_ ?_
            refine TC.region ?_
            refine TL.val rfl rfl rfl (gives_move rfl rfl) ?_
            refine TL.val rfl rfl rfl (gives_assign rfl rfl) ?_
            refine TL.val rfl rfl rfl (gives_assign rfl rfl) ?_
            refine TL.end_ ?_
            refine TX.then_ ?_
            refine TC.ret_ ?_
            have hfe := fa_end hM (by omega) hP31 hS71
            have hsl := hS71.1.length_eq
            exact ret_pair (v1 := .slice Ao out.length co) (v2 := .int .i64 0) Tryz.results39 rfl rfl (fun w1 hw => ⟨⟨(((Ao, co), srt71), 0), .inr (.inr ⟨rfl, hfe, ⟨hva, h19, h15⟩, o27, hP27, hol⟩), by dsimp only; omega, by dsimp only; omega, hom⟩, (by dsimp only; rw [hsl]), (by dsimp only; rw [hsl]; exact hw.pick [0] (by decide) rfl)⟩)
    · refine TL.on rfl rfl rfl ?_
      refine TL.val rfl rfl rfl (gives_boolnot rfl rfl) ?_
      refine TL.val rfl rfl rfl (gives_pick rfl rfl rfl) ?_
      refine TL.val rfl rfl rfl (gives_move rfl rfl) ?_
      refine TL.off rfl rfl rfl rfl rfl rfl ?_
      refine TL.off rfl rfl rfl rfl rfl rfl ?_
      refine TL.val rfl rfl rfl (gives_pick rfl rfl rfl) ?_
      refine TL.end_ ?_
      refine TX.then_ ?_
      refine TC.condT rfl ?_
      refine TC.seq_ ?_
      refine TC.region ?_
      refine TL.val rfl rfl rfl (gives_assign rfl rfl) ?_
      refine TL.val rfl rfl rfl (gives_assign rfl rfl) ?_
      refine TL.end_ ?_
      refine TX.then_ ?_
      refine TC.ret_ ?_
      refine TX.then_ret ?_
      exact ret_pair (v1 := .slice none 0 0) (v2 := .int .i64 1) Tryz.results39 rfl rfl (fun w1 hw => ⟨⟨(((none, 0), []), 1), .inl ⟨rfl, rfl, fun h => by have h9 := h.2.1; rw [h19] at h9; cases h9⟩, Nat.zero_le _, Nat.le_refl _, Nat.zero_le _⟩, rfl, (hw.pick [] (by decide) rfl).nilrow _ _⟩)
  · refine TL.val rfl rfl rfl (gives_boolnot rfl rfl) ?_
    refine TL.val rfl rfl rfl (gives_move rfl rfl) ?_
    refine TL.off rfl rfl rfl rfl rfl rfl ?_
    refine TL.off rfl rfl rfl rfl rfl rfl ?_
    refine TL.off rfl rfl rfl rfl rfl rfl ?_
    refine TL.val rfl rfl rfl (gives_pick rfl rfl rfl) ?_
    refine TL.val rfl rfl rfl (gives_move rfl rfl) ?_
    refine TL.off rfl rfl rfl rfl rfl rfl ?_
    refine TL.off rfl rfl rfl rfl rfl rfl ?_
    refine TL.val rfl rfl rfl (gives_pick rfl rfl rfl) ?_
    refine TL.end_ ?_
    refine TX.then_ ?_
    refine TC.condT rfl ?_
    refine TC.seq_ ?_
    refine TC.region ?_
    refine TL.val rfl rfl rfl (gives_assign rfl rfl) ?_
    refine TL.val rfl rfl rfl (gives_assign rfl rfl) ?_
    refine TL.end_ ?_
    refine TX.then_ ?_
    refine TC.ret_ ?_
    refine TX.then_ret ?_
    exact ret_pair (v1 := .slice none 0 0) (v2 := .int .i64 1) Tryz.results39 rfl rfl (fun w1 hw => ⟨⟨(((none, 0), []), 1), .inl ⟨rfl, rfl, fun h => by have h9 := h.2.2; rw [h15] at h9; cases h9⟩, Nat.zero_le _, Nat.le_refl _, Nat.zero_le _⟩, rfl, (hw.pick [] (by decide) rfl).nilrow _ _⟩)
end Go.Proofs.YtijmpjfafpodhaaGreat

namespace Go.Proofs.YtijmpjfafpodhaaGreat
open Go.RowKit
section
variable {P : Program} {N : Fr} {E : Env} {o : Oper} {I : World → Prop}
end
end Go.Proofs.YtijmpjfafpodhaaGreat

namespace Go.Proofs.YtijmpjfafpodhaaGreat
open Go.RowKit
set_option maxRecDepth 20000
def AnsP (ans dbl : Bool) (src kind left id quo : Int) : Prop := (ans = false ∧ dbl = false ∧ src = 0 ∧ kind = 0 ∧ left = 0 ∧ id = 0 ∧ quo = 0) ∨ (ans = true ∧ 1 ≤ src ∧ src ≤ 167774466 ∧ 1 ≤ kind ∧ kind ≤ 3 ∧ left = 60 ∧ 0 ≤ id ∧ id ≤ 65535 ∧ quo = 1)
def DrR (r : Rs) : Prop := vldRs r = true ∧ r.Ok ∧ r.run = 0 ∧ TrOk ⟨r.v, r.dst, r.proto⟩ ∧ (0 ≤ r.num ∧ r.num ≤ 99) ∧ (0 ≤ r.flow ∧ r.flow ≤ 2) ∧ (1 ≤ r.ttl ∧ r.ttl ≤ 4) ∧ (0 ≤ r.at_ ∧ r.back ≤ 20000) ∧ AnsP r.ans r.dbl r.src r.kind r.left r.id r.quo ∧ r.code = 0
def DrOrd (a b : Rs) : Prop := a.back < b.at_ ∧ (a.v = b.v → a.num < b.num)
def DrawnOk (m : Nat) (l : List Rs) : Prop := (∀ r ∈ l, DrR r) ∧ l.Pairwise DrOrd ∧ l.length ≤ m
def OutOk (l : List Rs) (at_ n0 n1 : Nat) : Prop := (∀ r ∈ l, DrR r ∧ r.back ≤ (at_ : Int) ∧ (r.v = 0 → r.num < (n0 : Int)) ∧ (r.v = 1 → r.num < (n1 : Int))) ∧ l.Pairwise DrOrd ∧ n0 + n1 = l.length
theorem OutOk.nil (a : Nat) : OutOk [] a 0 0 := ⟨fun r hr => absurd hr List.not_mem_nil, .nil, rfl⟩
theorem OutOk.ok {l : List Rs} {a n0 n1 m : Nat} (h : OutOk l a n0 n1) (hm : l.length ≤ m) : DrawnOk m l := ⟨fun r hr => (h.1 r hr).1, h.2.1, hm⟩
end Go.Proofs.YtijmpjfafpodhaaGreat

namespace Go.Proofs.YtijmpjfafpodhaaGreat
open Go.RowKit
set_option maxRecDepth 20000
def ShufOk (l o : List Rs) : Prop := (∀ r, r ∈ o ↔ r ∈ l) ∧ o.length ≤ 2 * l.length
theorem ShufOk.nil {l : List Rs} : ShufOk (l.take 0) [] := ⟨fun r => by rw [List.take_zero], Nat.zero_le _⟩
end Go.Proofs.YtijmpjfafpodhaaGreat

namespace Go.Proofs.YtijmpjfafpodhaaGreat
open Go.RowKit
set_option maxRecDepth 20000
end Go.Proofs.YtijmpjfafpodhaaGreat

namespace Go.Proofs.YtijmpjfafpodhaaGreat
open Go.RowKit
def adB (A : Option Addr) : Nat := match A with
  | some a => a.block
  | none => 0
def adO (A : Option Addr) : Nat := match A with
  | some a => a.off
  | none => 0
section
variable {α : Type} {c : α → List Value} {k : Nat}
theorem Reads.addr {w : World} {B size n : Nat} {A : Option Addr} {xs : List Value} (h : Reads w B size A n xs) (hn : 0 < n) (hs : 0 < size) : A = some ⟨adB A, adO A, none⟩ := by
  obtain ⟨b, o, hA, _, _⟩ := h.ad hn hs
  rw [hA]; rfl
end
end Go.Proofs.YtijmpjfafpodhaaGreat

namespace Go.Proofs.YtijmpjfafpodhaaGreat
open Go.RowKit
set_option maxRecDepth 20000
end Go.Proofs.YtijmpjfafpodhaaGreat

namespace Go.Proofs.YtijmpjfafpodhaaGreat
open Go.RowKit
set_option maxRecDepth 20000
theorem aawbld63_27255 (a0_0 : Int) (a1_0 : Int) (w : World) : (Instr.build 63 #[(0, .int .u32 a0_0), (1, .int .i64 a1_0)]).run Tryz.prog w = .ok (.agg #[.int .u32 a0_0, .int .i64 a1_0, .int .i64 0, .int .i64 0, .int .i64 0, .int .i64 0]) w := by kernel_rfl
theorem aawbld65_66110 (a4_0 : Int) (a5_0 : Int) (a7_0 : Int) (a8_0 : Bool) (a10_0 : Int) (a11_0 : Int) (a11_1 : Int) (a11_2 : Int) (a11_3 : Int) (a11_4 : Int) (a11_5 : Int) (w : World) : (Instr.build 65 #[(4, .int .u32 a4_0), (5, .int .i64 a5_0), (7, .int .i64 a7_0), (8, .bool a8_0), (10, .int .i64 a10_0), (11, .agg #[.int .u32 a11_0, .int .i64 a11_1, .int .i64 a11_2, .int .i64 a11_3, .int .i64 a11_4, .int .i64 a11_5])]).run Tryz.prog w = .ok (.agg #[.int .i64 0, .int .i64 0, .int .i64 0, .int .i64 0, .int .u32 a4_0, .int .i64 a5_0, .int .i64 0, .int .i64 a7_0, .bool a8_0, .bool false, .int .i64 a10_0, .int .u32 a11_0, .int .i64 a11_1, .int .i64 a11_2, .int .i64 a11_3, .int .i64 a11_4, .int .i64 a11_5]) w := by kernel_rfl
theorem aawbld65_18414 (a2_0 : Int) (a3_0 : Int) (a4_0 : Int) (a5_0 : Int) (a7_0 : Int) (a10_0 : Int) (w : World) : (Instr.build 65 #[(2, .int .i64 a2_0), (3, .int .i64 a3_0), (4, .int .u32 a4_0), (5, .int .i64 a5_0), (7, .int .i64 a7_0), (10, .int .i64 a10_0)]).run Tryz.prog w = .ok (.agg #[.int .i64 0, .int .i64 0, .int .i64 a2_0, .int .i64 a3_0, .int .u32 a4_0, .int .i64 a5_0, .int .i64 0, .int .i64 a7_0, .bool false, .bool false, .int .i64 a10_0, .int .u32 0, .int .i64 0, .int .i64 0, .int .i64 0, .int .i64 0, .int .i64 0]) w := by kernel_rfl
theorem aawbs23_3_88864 (a0_0 : Int) (a0_1 : Int) (a0_2 : Int) (a0_3 : Int) (a0_4 : Int) (a0_5 : Int) (a0_6 : Int) (a0_7 : Int) (a0_8 : Bool) (a0_9 : Bool) (a0_10 : Int) (a0_11 : Int) (a0_12 : Int) (a0_13 : Int) (a0_14 : Int) (a0_15 : Int) (a0_16 : Int) (a1_0 : Int) (a1_1 : Int) (a1_2 : Int) (a1_3 : Int) (a1_4 : Int) (a1_5 : Int) (a1_6 : Int) (a1_7 : Int) (a1_8 : Bool) (a1_9 : Bool) (a1_10 : Int) (a1_11 : Int) (a1_12 : Int) (a1_13 : Int) (a1_14 : Int) (a1_15 : Int) (a1_16 : Int) (a2_0 : Int) (a2_1 : Int) (a2_2 : Int) (a2_3 : Int) (a2_4 : Int) (a2_5 : Int) (a2_6 : Int) (a2_7 : Int) (a2_8 : Bool) (a2_9 : Bool) (a2_10 : Int) (a2_11 : Int) (a2_12 : Int) (a2_13 : Int) (a2_14 : Int) (a2_15 : Int) (a2_16 : Int) (w : World) : (Instr.buildSlice 23 3 #[(0, .agg #[.int .i64 a0_0, .int .i64 a0_1, .int .i64 a0_2, .int .i64 a0_3, .int .u32 a0_4, .int .i64 a0_5, .int .i64 a0_6, .int .i64 a0_7, .bool a0_8, .bool a0_9, .int .i64 a0_10, .int .u32 a0_11, .int .i64 a0_12, .int .i64 a0_13, .int .i64 a0_14, .int .i64 a0_15, .int .i64 a0_16]), (1, .agg #[.int .i64 a1_0, .int .i64 a1_1, .int .i64 a1_2, .int .i64 a1_3, .int .u32 a1_4, .int .i64 a1_5, .int .i64 a1_6, .int .i64 a1_7, .bool a1_8, .bool a1_9, .int .i64 a1_10, .int .u32 a1_11, .int .i64 a1_12, .int .i64 a1_13, .int .i64 a1_14, .int .i64 a1_15, .int .i64 a1_16]), (2, .agg #[.int .i64 a2_0, .int .i64 a2_1, .int .i64 a2_2, .int .i64 a2_3, .int .u32 a2_4, .int .i64 a2_5, .int .i64 a2_6, .int .i64 a2_7, .bool a2_8, .bool a2_9, .int .i64 a2_10, .int .u32 a2_11, .int .i64 a2_12, .int .i64 a2_13, .int .i64 a2_14, .int .i64 a2_15, .int .i64 a2_16])]).run Tryz.prog w = .ok (.slice (some ⟨w.heap.size, 0, none⟩) 3 3) (w.alloc (.cells [.int .i64 a0_0, .int .i64 a0_1, .int .i64 a0_2, .int .i64 a0_3, .int .u32 a0_4, .int .i64 a0_5, .int .i64 a0_6, .int .i64 a0_7, .bool a0_8, .bool a0_9, .int .i64 a0_10, .int .u32 a0_11, .int .i64 a0_12, .int .i64 a0_13, .int .i64 a0_14, .int .i64 a0_15, .int .i64 a0_16, .int .i64 a1_0, .int .i64 a1_1, .int .i64 a1_2, .int .i64 a1_3, .int .u32 a1_4, .int .i64 a1_5, .int .i64 a1_6, .int .i64 a1_7, .bool a1_8, .bool a1_9, .int .i64 a1_10, .int .u32 a1_11, .int .i64 a1_12, .int .i64 a1_13, .int .i64 a1_14, .int .i64 a1_15, .int .i64 a1_16, .int .i64 a2_0, .int .i64 a2_1, .int .i64 a2_2, .int .i64 a2_3, .int .u32 a2_4, .int .i64 a2_5, .int .i64 a2_6, .int .i64 a2_7, .bool a2_8, .bool a2_9, .int .i64 a2_10, .int .u32 a2_11, .int .i64 a2_12, .int .i64 a2_13, .int .i64 a2_14, .int .i64 a2_15, .int .i64 a2_16].toArray 65)) := by kernel_rfl
theorem aawbld28_57323 (a0_0 : Int) (a1_0 : Int) (a2_0 : Int) (w : World) : (Instr.build 28 #[(0, .int .i64 a0_0), (1, .int .i64 a1_0), (2, .int .i64 a2_0)]).run Tryz.prog w = .ok (.agg #[.int .i64 a0_0, .int .i64 a1_0, .int .i64 a2_0]) w := by kernel_rfl
theorem aawbld26_530  (w : World) : (Instr.build 26 #[]).run Tryz.prog w = .ok (.agg #[.slice none 0 0]) w := by kernel_rfl
theorem aawnm39 : (Tryz.f39.name == "runtime.NumGoroutine") = false := by decide
theorem aawbd39 : Tryz.f39.body.isNone = false := rfl
theorem aawnm37 : (Tryz.f37.name == "runtime.NumGoroutine") = false := by decide
theorem aawbd37 : Tryz.f37.body.isNone = false := rfl
set_option maxHeartbeats 1000000 in
theorem awake_true  (w : World) :
    Calls Tryz.prog 15 #[] w fun e w' => e = .returned (.bool true) ∧ Below w.heap.size w w' := by
  refine begin_ (vs := []) Tryz.func15 rfl rfl rfl ?_ (Pm.start w)
  refine TC.seq_ ?_
  refine TC.region ?_
  refine TL.val rfl rfl rfl (gives_assign rfl rfl) ?_
  refine TL.end_ ?_
  refine TX.then_ ?_
  refine TC.seq_ ?_
  refine TC.region ?_
  refine TL.val rfl rfl rfl (gives_build (v := .agg #[.int .u32 9, .int .i64 3, .int .i64 0, .int .i64 0, .int .i64 0, .int .i64 0]) rfl rfl (fun w => aawbld63_27255 _ _ w)) ?_
  refine TL.val rfl rfl rfl (gives_build (v := .agg #[.int .i64 0, .int .i64 0, .int .i64 0, .int .i64 0, .int .u32 9, .int .i64 17, .int .i64 0, .int .i64 3, .bool true, .bool false, .int .i64 50, .int .u32 9, .int .i64 3, .int .i64 0, .int .i64 0, .int .i64 0, .int .i64 0]) rfl rfl (fun w => aawbld65_66110 _ _ _ _ _ _ _ _ _ _ _ w)) ?_
  refine TL.val rfl rfl rfl (gives_build (v := .agg #[.int .i64 0, .int .i64 0, .int .i64 1, .int .i64 60, .int .u32 9, .int .i64 17, .int .i64 0, .int .i64 3, .bool false, .bool false, .int .i64 70, .int .u32 0, .int .i64 0, .int .i64 0, .int .i64 0, .int .i64 0, .int .i64 0]) rfl rfl (fun w => aawbld65_18414 _ _ _ _ _ _ w)) ?_
  refine TL.val rfl rfl rfl (gives_build (v := .agg #[.int .i64 0, .int .i64 0, .int .i64 2, .int .i64 80, .int .u32 9, .int .i64 17, .int .i64 0, .int .i64 3, .bool false, .bool false, .int .i64 90, .int .u32 0, .int .i64 0, .int .i64 0, .int .i64 0, .int .i64 0, .int .i64 0]) rfl rfl (fun w => aawbld65_18414 _ _ _ _ _ _ w)) ?_
  refine TL.prowS (e := 65) (size := 17) (cs := flat Rs.cells awL) rfl rfl rfl rfl rfl (fun w => aawbs23_3_88864 _ _ _ _ _ _ _ _ _ _ _ _ _ _ _ _ _ _ _ _ _ _ _ _ _ _ _ _ _ _ _ _ _ _ _ _ _ _ _ _ _ _ _ _ _ _ _ _ _ _ _ w) (by decide) rfl (fun g9 => ?_)
  refine TL.val rfl rfl rfl (gives_assign rfl rfl) ?_
  refine TL.end_ ?_
  refine TX.then_ ?_
  refine TC.seq_ ?_
  refine TC.region ?_
  refine TL.val rfl rfl rfl (gives_build (v := .agg #[.int .i64 2, .int .i64 1, .int .i64 1]) rfl rfl (fun w => aawbld28_57323 _ _ _ w)) ?_
  refine TL.pnew rfl rfl rfl (exec_alloc (cs := [.int .i64 0, .int .i64 0, .int .i64 0]) rfl adrzv28 rfl) (fun g2 => ?_)
  refine TL.pstore (k := 0) (vs := [.int .i64 2, .int .i64 1, .int .i64 1]) rfl rfl rfl rfl rfl rfl rfl aprsz28 adrone_i64i64i64 (by show 3 ≤ 3; decide) (L' := [.blk g2 28 [.int .i64 2, .int .i64 1, .int .i64 1], .row (.slice (some ⟨g9, 0, none⟩) 3 3) 65 17 3 (flat Rs.cells awL)]) rfl ?_
  refine TL.end_ ?_
  refine TX.then_ ?_
  refine TC.seq_ ?_
  refine TC.region ?_
  refine TL.val rfl rfl rfl (gives_move rfl rfl) ?_
  refine TL.val rfl rfl rfl (gives_build (v := .agg #[.slice none 0 0]) rfl rfl (fun w => aawbld26_530  w)) ?_
  refine TL.val rfl rfl rfl (pm_loadV (k := 0) (i := 0) (n := 3) (v := .agg #[.int .i64 2, .int .i64 1, .int .i64 1]) rfl rfl aprag28 aprsz28 rfl (by show 3 ≤ 3; decide) rfl) ?_
  refine TL.pcallPm (α := {y : ((Option Addr × Nat) × List Rp) × Int // FndOk ([] : List En) awL (⟨2, 1, 1⟩ : Ru) y.1.2 y.2 ∧ y.1.2.length ≤ 100000000000 ∧ y.1.2.length ≤ y.1.1.2 ∧ y.1.1.2 ≤ maxLen}) (fun x => .tuple #[.slice x.1.1.1.1 x.1.1.2.length x.1.1.1.2, .int .i64 x.1.2]) (fun x => [.row (.slice x.1.1.1.1 x.1.1.2.length x.1.1.1.2) 34 8 x.1.1.2.length (flat Rp.cells x.1.1.2)]) rfl rfl rfl rfl rfl Tryz.func39 aawnm39 aawbd39 (fun w1 hw => fnd_any (some ⟨g9, 0, none⟩) 3 awL none 0 ([] : List En) (⟨2, 1, 1⟩ : Ru) w1 (pm_rd hw (k := 1) rfl) (by decide) awL_ok Reads.none_) ?_
  rintro ⟨⟨⟨⟨Afo, cfo⟩, fo⟩, efo⟩, hfo, hfol, hfoc, hfom⟩
  dsimp only [List.cons_append, List.nil_append]
  dsimp only at hfo hfol hfoc hfom ⊢
  obtain ⟨rfl, rfl⟩ := aw_fnd hfo
  have hlp : [awP].length = 1 := rfl
  have hlw : awL.length = 3 := rfl
  have hlt : (awL.take 2).length = 2 := rfl
  refine TL.val rfl rfl rfl (gives_move rfl rfl) ?_
  refine TL.val rfl rfl rfl (gives_extract rfl rfl rfl) ?_
  refine TL.val rfl rfl rfl (gives_extract rfl rfl rfl) ?_
  refine TL.val rfl rfl rfl (gives_assign rfl rfl) ?_
  refine TL.val rfl rfl rfl (gives_assign rfl rfl) ?_
  refine TL.end_ ?_
  refine TX.then_ ?_
  refine TC.seq_ ?_
  refine TC.fact (p := ∃ g, Afo = some ⟨g, 0, none⟩) (fun w1 hw => rowA hw (k := 0) rfl (by omega)) ?_
  rintro ⟨g_Afo, rfl⟩
  refine TC.quietP (by kernel_rfl) (by kernel_rfl) (fun w hw => hw.drawn _) ?_
  refine TQ.val rfl rfl rfl (gives_move rfl rfl) ?_
  refine TQ.val rfl rfl rfl (gives_bin rfl rfl rfl (fun w => bin_eql_t (rfl) w)) ?_
  refine TQ.val rfl rfl rfl (gives_move rfl rfl) ?_
  refine TQ.on rfl rfl rfl ?_
  refine TQ.val rfl rfl rfl (gives_move rfl rfl) ?_
  refine TQ.on rfl rfl rfl ?_
  refine TQ.val rfl rfl rfl (gives_len rfl Tryz.underlying49 rfl) ?_
  refine TQ.on rfl rfl rfl ?_
  refine TQ.val rfl rfl rfl (gives_bin rfl rfl rfl (fun w => bin_eql_t (rfl) w)) ?_
  refine TQ.val rfl rfl rfl (gives_pick rfl rfl rfl) ?_
  refine TQ.val rfl rfl rfl (gives_move rfl rfl) ?_
  refine TQ.on rfl rfl rfl ?_
  refine TQ.val rfl rfl rfl (gives_move rfl rfl) ?_
  refine TQ.on rfl rfl rfl ?_
  have hi27 : 0 < ([awP]).length := by simp
  obtain ⟨x27, hx27⟩ : ∃ x27, ([awP])[0]? = some x27 := ⟨_, List.getElem?_eq_getElem hi27⟩
  have hx27e : x27 = awP := (Option.some.inj hx27).symm
  refine TQ.val rfl rfl rfl (gives_at (v := .pointer (some ⟨g_Afo, 0 + 0 * 8, none⟩)) rfl rfl rfl (fun w => at_el Tryz.underlying49 aprsz34 rfl _ _ 0 (by omega) rfl w)) ?_
  refine TQ.on rfl rfl rfl ?_
  refine TQ.val rfl rfl rfl (gives_field (v := .pointer (some ⟨g_Afo, 0 + 0 * 8 + 0, none⟩)) rfl rfl (fun w => arpfld34_0 _ _ w)) ?_
  refine TQ.on rfl rfl rfl ?_
  refine TQ.val rfl rfl rfl (gives_load (v := .int .i64 x27.kind) rfl rfl pcmag3 (fun w1 hw => flat_row rp_cel hw (q := 0) rfl hx27 0 _ rfl)) ?_
  refine TQ.on rfl rfl rfl ?_
  refine TQ.val rfl rfl rfl (gives_bin rfl rfl rfl (fun w => bin_eql_t (by rw [hx27e]; rfl) w)) ?_
  refine TQ.val rfl rfl rfl (gives_pick rfl rfl rfl) ?_
  refine TQ.val rfl rfl rfl (gives_move rfl rfl) ?_
  refine TQ.on rfl rfl rfl ?_
  refine TQ.val rfl rfl rfl (gives_move rfl rfl) ?_
  refine TQ.on rfl rfl rfl ?_
  refine TQ.val rfl rfl rfl (gives_at (v := .pointer (some ⟨g_Afo, 0 + 0 * 8, none⟩)) rfl rfl rfl (fun w => at_el Tryz.underlying49 aprsz34 rfl _ _ 0 (by omega) rfl w)) ?_
  refine TQ.on rfl rfl rfl ?_
  refine TQ.val rfl rfl rfl (gives_field (v := .pointer (some ⟨g_Afo, 0 + 0 * 8 + 6, none⟩)) rfl rfl (fun w => arpfld34_4 _ _ w)) ?_
  refine TQ.on rfl rfl rfl ?_
  refine TQ.val rfl rfl rfl (gives_load (v := .int .i64 x27.at_) rfl rfl pcmag3 (fun w1 hw => flat_row rp_cel hw (q := 0) rfl hx27 6 _ rfl)) ?_
  refine TQ.on rfl rfl rfl ?_
  refine TQ.val rfl rfl rfl (gives_bin rfl rfl rfl (fun w => bin_eql_t (by rw [hx27e]; rfl) w)) ?_
  refine TQ.val rfl rfl rfl (gives_pick rfl rfl rfl) ?_
  refine TQ.val rfl rfl rfl (gives_move rfl rfl) ?_
  refine TQ.on rfl rfl rfl ?_
  refine TQ.val rfl rfl rfl (gives_move rfl rfl) ?_
  refine TQ.on rfl rfl rfl ?_
  refine TQ.val rfl rfl rfl (gives_at (v := .pointer (some ⟨g_Afo, 0 + 0 * 8, none⟩)) rfl rfl rfl (fun w => at_el Tryz.underlying49 aprsz34 rfl _ _ 0 (by omega) rfl w)) ?_
  refine TQ.on rfl rfl rfl ?_
  refine TQ.val rfl rfl rfl (gives_loadR (off := 0 + 0 * 8) rfl rfl aprag34 aprsz34 (rp_cel.len x27) (fun w1 hw j9 u9 h9 => flat_row rp_cel hw (q := 0) rfl hx27 j9 u9 h9)) ?_
  refine TQ.on rfl rfl rfl ?_
  refine TQ.call (v := .bool true) rfl rfl rfl rfl rfl Tryz.func27 aprnm27 aprbd27 (fun w1 hw => (calls_b (vldRp_any x27 w1) (by rw [hx27e]; decide +kernel)).mono fun en w2 ⟨h1, h2⟩ => ⟨h1, hw.below h2⟩) ?_
  refine TQ.val rfl rfl rfl (gives_pick rfl rfl rfl) ?_
  refine TQ.val rfl rfl rfl (gives_move rfl rfl) ?_
  refine TQ.on rfl rfl rfl ?_
  refine TQ.val rfl rfl rfl (gives_move rfl rfl) ?_
  refine TQ.on rfl rfl rfl ?_
  refine TQ.val rfl rfl rfl (gives_build (v := .agg #[.slice none 0 0]) rfl rfl (fun w => aawbld26_530  w)) ?_
  refine TQ.on rfl rfl rfl ?_
  refine TQ.val rfl rfl rfl (pm_loadV (k := 1) (i := 0) (n := 3) (v := .agg #[.int .i64 2, .int .i64 1, .int .i64 1]) rfl rfl aprag28 aprsz28 rfl (by show 3 ≤ 3; decide) rfl) ?_
  refine TQ.on rfl rfl rfl ?_
  refine TQ.val rfl rfl rfl (gives_move rfl rfl) ?_
  refine TQ.on rfl rfl rfl ?_
  refine TQ.val rfl rfl rfl (gives_at (v := .pointer (some ⟨g_Afo, 0 + 0 * 8, none⟩)) rfl rfl rfl (fun w => at_el Tryz.underlying49 aprsz34 rfl _ _ 0 (by omega) rfl w)) ?_
  refine TQ.on rfl rfl rfl ?_
  refine TQ.val rfl rfl rfl (gives_loadR (off := 0 + 0 * 8) rfl rfl aprag34 aprsz34 (rp_cel.len x27) (fun w1 hw j9 u9 h9 => flat_row rp_cel hw (q := 0) rfl hx27 j9 u9 h9)) ?_
  refine TQ.on rfl rfl rfl ?_
  refine TQ.call (v := .bool true) rfl rfl rfl rfl rfl Tryz.func37 aawnm37 aawbd37 (fun w1 hw => (calls_t (proves_any (some ⟨g9, 0, none⟩) 3 awL none 0 ([] : List En) (⟨2, 1, 1⟩ : Ru) x27 w1 (pm_rd hw (k := 2) rfl) (by decide) awL_ok Reads.none_) (by rw [hx27e]; exact aw_pr)).mono fun en w2 ⟨h1, h2⟩ => ⟨h1, hw.below h2⟩) ?_
  refine TQ.val rfl rfl rfl (gives_pick rfl rfl rfl) ?_
  refine TQ.val rfl rfl rfl (gives_move rfl rfl) ?_
  refine TQ.on rfl rfl rfl ?_
  refine TQ.val rfl rfl rfl (gives_move rfl rfl) ?_
  refine TQ.on rfl rfl rfl ?_
  refine TQ.val rfl rfl rfl (gives_sliceH (v := .slice (some ⟨g9, 0, none⟩) 2 3) rfl rfl rfl (fun w => cut_hi Tryz.underlying23 prssz65 _ _ _ 2 rfl (by omega) w)) ?_
  refine TQ.on rfl rfl rfl ?_
  refine TQ.val rfl rfl rfl (gives_build (v := .agg #[.slice none 0 0]) rfl rfl (fun w => aawbld26_530  w)) ?_
  refine TQ.on rfl rfl rfl ?_
  refine TQ.val rfl rfl rfl (pm_loadV (k := 1) (i := 0) (n := 3) (v := .agg #[.int .i64 2, .int .i64 1, .int .i64 1]) rfl rfl aprag28 aprsz28 rfl (by show 3 ≤ 3; decide) rfl) ?_
  refine TQ.on rfl rfl rfl ?_
  refine TQ.val rfl rfl rfl (gives_move rfl rfl) ?_
  refine TQ.on rfl rfl rfl ?_
  refine TQ.val rfl rfl rfl (gives_at (v := .pointer (some ⟨g_Afo, 0 + 0 * 8, none⟩)) rfl rfl rfl (fun w => at_el Tryz.underlying49 aprsz34 rfl _ _ 0 (by omega) rfl w)) ?_
  refine TQ.on rfl rfl rfl ?_
  refine TQ.val rfl rfl rfl (gives_loadR (off := 0 + 0 * 8) rfl rfl aprag34 aprsz34 (rp_cel.len x27) (fun w1 hw j9 u9 h9 => flat_row rp_cel hw (q := 0) rfl hx27 j9 u9 h9)) ?_
  refine TQ.on rfl rfl rfl ?_
  refine TQ.call (v := .bool false) rfl rfl rfl rfl rfl Tryz.func37 aawnm37 aawbd37 (fun w1 hw => (calls_f (proves_any (some ⟨g9, 0, none⟩) 3 (awL.take 2) none 0 ([] : List En) (⟨2, 1, 1⟩ : Ru) x27 w1 (Reads.headF rs_cel (pm_rd hw (k := 2) rfl) (by omega)) (by decide) awT_ok Reads.none_) (by rw [hx27e]; exact aw_pr2)).mono fun en w2 ⟨h1, h2⟩ => ⟨h1, hw.below h2⟩) ?_
  refine TQ.on rfl rfl rfl ?_
  refine TQ.val rfl rfl rfl (gives_boolnot rfl rfl) ?_
  refine TQ.val rfl rfl rfl (gives_pick rfl rfl rfl) ?_
  refine TQ.val rfl rfl rfl (gives_move rfl rfl) ?_
  refine TQ.on rfl rfl rfl ?_
  refine TQ.val rfl rfl rfl (pm_loadV (k := 1) (i := 0) (n := 3) (v := .agg #[.int .i64 2, .int .i64 1, .int .i64 1]) rfl rfl aprag28 aprsz28 rfl (by show 3 ≤ 3; decide) rfl) ?_
  refine TQ.on rfl rfl rfl ?_
  refine TQ.call (v := .bool true) rfl rfl rfl rfl rfl Tryz.func24 aprnm24 aprbd24 (fun w1 hw => (calls_b (vldRu_any awU w1) (by decide +kernel)).mono fun en w2 ⟨h1, h2⟩ => ⟨h1, hw.below h2⟩) ?_
  refine TQ.val rfl rfl rfl (gives_pick rfl rfl rfl) ?_
  refine TQ.val rfl rfl rfl (gives_assign rfl rfl) ?_
  refine TQ.fin ?_
  refine TX.then_ ?_
  refine TC.ret_ ?_
  exact ret_tmp Tryz.results15 rfl (fun w1 hw => ⟨rfl, hw.bel⟩)
end Go.Proofs.YtijmpjfafpodhaaGreat

namespace Go.Proofs.YtijmpjfafpodhaaGreat
open Go.RowKit
def QzP (r : Rs) : Prop := vldRs r = true ∧ r.Ok ∧ r.kind = 1 ∧ r.src = 167772160 + r.ttl ∧ 10 * r.ttl ≤ r.back - r.at_ ∧ r.back - r.at_ ≤ 10 * r.ttl + 3
theorem qz_one {n fl tt d : Nat} (hn : n ≤ 20) (hf : fl ≤ 1) (ht : tt ≤ 2) (hd : d ≤ 3) : QzP ⟨0, 0, (n : Int), 50 * (n : Int), 9, 17, (fl : Int), 1 + (tt : Int), true, false, 50 * (n : Int) + 10 * (1 + (tt : Int)) + (d : Int), 167772160 + (1 + (tt : Int)), 1, 0, 0, 0, 0⟩ := by
  refine ⟨?_, ?_, rfl, rfl, ?_, ?_⟩
  · have h1 : chkR ⟨0, 0, (n : Int), 50 * (n : Int), 9, 17, (fl : Int), 1 + (tt : Int), true, false, 50 * (n : Int) + 10 * (1 + (tt : Int)) + (d : Int), 167772160 + (1 + (tt : Int)), 1, 0, 0, 0, 0⟩ = 0 := by
      unfold chkR
      rw [if_neg (fun h1 => h1 (by unfold Rs.inRange; dsimp only; omega)), if_neg (fun h1 => h1 (by dsimp only; omega))]
      simp [Rs.ansOk]
      try omega
    unfold vldRs
    rw [h1]
    simp
    try omega
  · unfold Rs.Ok; dsimp only; omega
  · dsimp only; omega
  · dsimp only; omega
theorem qz_none {es : List En} {l : List Rs} {u : Ru} {p : Rp} (hl : ∀ r ∈ l, QzP r) (hg : 4 ≤ u.gro) : ¬ PrP es l u p := by
  rintro ⟨hu, _, _, h⟩
  have hb : 1 ≤ u.prb := by unfold vldRu at hu; have := of_decide_eq_true hu; omega
  have hm : ∀ {y : List Rs} {r : Rs}, IsSt l p.trc p.flow y → r ∈ y → QzP r := fun hy hr => hl _ ((hy.mem _).1 hr).1
  have ha : ∀ {y : List Rs} {r : Rs}, IsSt l p.trc p.flow y → r ∈ atL y p.ttl → QzP r ∧ r.ttl = p.ttl := fun hy hr => by
    have h1 := List.mem_filter.1 hr
    have h2 := h1.2
    simp only [Bool.and_eq_true, decide_eq_true_eq] at h2
    exact ⟨hm hy h1.1, h2.2⟩
  rcases h with ⟨_, y, hy, h⟩ | ⟨_, y, hy, a, h1, _, b, h2, h3⟩ | ⟨_, h⟩
  · obtain ⟨x, h1, h2, _⟩ := bh_iff.1 h
    have h3 := (hm hy h1).2.2.1
    unfold finRs at h2
    rw [h3] at h2
    simp at h2
  · have h4 := ha hy h1
    have h5 := ha hy h2
    exact h3.2.2 (by rw [h4.1.2.2.2.1, h5.1.2.2.2.1, h4.2, h5.2])
  · rcases h with h | ⟨y, hy, e, h1, _, h2⟩
    · omega
    · obtain ⟨a, ha1, rfl⟩ := List.mem_map.1 h1
      have h4 := ha hy (List.mem_filter.1 ha1).1
      have h5 : (laL (atL y p.ttl) p.at_).filter (fun z => decide (u.gro ≤ z - (a.back - a.at_))) = [] := by
        rw [List.filter_eq_nil_iff]
        intro z hz
        obtain ⟨b, hb1, rfl⟩ := List.mem_map.1 hz
        have h6 := ha hy (List.mem_filter.1 hb1).1
        have h7 := h4.1.2.2.2.2
        have h8 := h6.1.2.2.2.2
        rw [h4.2] at h7
        rw [h6.2] at h8
        simp only [decide_eq_true_eq]
        omega
      rw [h5] at h2
      have : u.prb ≤ 0 := h2
      omega
theorem qz_fnd {es : List En} {l : List Rs} {u : Ru} {out : List Rp} (h : IsFnd es l u out) (hl : ∀ r ∈ l, QzP r) (hg : 4 ≤ u.gro) : out = [] :=
  List.eq_nil_iff_forall_not_mem.2 fun p hp => qz_none hl hg (h.prP hp)
theorem qz_snoc {l : List Rs} {r : Rs} (h : ∀ r ∈ l, QzP r) (hr : QzP r) : ∀ x ∈ l ++ [r], QzP x := fun x hx => by
  rcases List.mem_append.1 hx with h1 | h1
  · exact h x h1
  · rw [List.mem_singleton.1 h1]; exact hr
end Go.Proofs.YtijmpjfafpodhaaGreat

namespace Go.Proofs.YtijmpjfafpodhaaGreat
open Go.RowKit
set_option maxRecDepth 20000
theorem mem_ins {es : List En} {k : Nat} {x z : En} (h : z ∈ es.take k ++ [x] ++ es.drop k) : z ∈ es ∨ z = x := by
  rcases List.mem_append.1 h with h | h
  · rcases List.mem_append.1 h with h | h
    · exact .inl (List.mem_of_mem_take h)
    · exact .inr (List.mem_singleton.1 h)
  · exact .inl (List.mem_of_mem_drop h)
def shlF (a n : Int) : Int := IntKind.u32.wrap (a / 2 ^ (32 - n).toNat * 2 ^ (32 - n).toNat)
def lens : List Int := [8, 24, 28, 29, 30, 30, 31, 32]
def EnG (e : En) : Prop := (167772160 ≤ e.addr ∧ e.addr < 184549376) ∧ e.len ∈ lens ∧ 1 ≤ e.prov ∧ e.prov ≤ 4
theorem EnG.ok {e : En} (h : EnG e) : e.Ok := ⟨by have := h.1.1; omega, by have := h.1.2; omega⟩
theorem shl_rng {a n : Int} (ha : 167772161 ≤ a ∧ a ≤ 167772173) (hn : n ∈ lens) : 167772160 ≤ shlF a n ∧ shlF a n < 184549376 := by
  have key : ∀ k : Int, 0 < k → k ≤ 16777216 → 167772160 % k = 0 → 167772160 ≤ IntKind.u32.wrap (a / k * k) ∧ IntKind.u32.wrap (a / k * k) < 184549376 := fun k h0 h1 h2 => by
    have e1 : a / k * k ≤ a := Int.ediv_mul_le a (by omega)
    have e2 : 167772160 ≤ a / k * k := by
      have h3 : 167772160 / k * k = 167772160 := Int.ediv_mul_cancel (Int.dvd_of_emod_eq_zero h2)
      have h4 : 167772160 / k ≤ a / k := Int.ediv_le_ediv h0 (by omega)
      have h5 := Int.mul_le_mul_of_nonneg_right h4 (Int.le_of_lt h0)
      omega
    rw [IntKind.wrap_u32]
    omega
  simp only [lens, List.mem_cons, List.not_mem_nil, or_false] at hn
  unfold shlF
  rcases hn with rfl | rfl | rfl | rfl | rfl | rfl | rfl | rfl
  · exact key 16777216 (by decide) (by decide) (by decide)
  · exact key 256 (by decide) (by decide) (by decide)
  · exact key 16 (by decide) (by decide) (by decide)
  · exact key 8 (by decide) (by decide) (by decide)
  · exact key 4 (by decide) (by decide) (by decide)
  · exact key 4 (by decide) (by decide) (by decide)
  · exact key 2 (by decide) (by decide) (by decide)
  · exact key 1 (by decide) (by decide) (by decide)
theorem EnG.mk_ {a n f t : Int} {p : Nat} (ha : 167772161 ≤ a ∧ a ≤ 167772173) (hn : n ∈ lens) (hp : p < 4) : EnG ⟨shlF a n, n, 1 + ((p : Nat) : Int), f, t⟩ :=
  ⟨shl_rng ha hn, hn, by show 1 ≤ 1 + (p : Int); omega, by show 1 + (p : Int) ≤ 4; omega⟩
theorem branm67 : (Tryz.f67.name == "runtime.NumGoroutine") = false := by decide
theorem brabd67 : Tryz.f67.body.isNone = false := rfl
theorem brabld100_29152 (a0_0 : Int) (a1_0 : Int) (w : World) : (Instr.build 100 #[(0, .int .u32 a0_0), (1, .int .i64 a1_0)]).run Tryz.prog w = .ok (.agg #[.int .u32 a0_0, .int .i64 a1_0]) w := by kernel_rfl
theorem brabs106_5_22075 (a0_0 : Int) (a1_0 : Int) (a2_0 : Int) (a3_0 : Int) (a4_0 : Int) (w : World) : (Instr.buildSlice 106 5 #[(0, .int .i64 a0_0), (1, .int .i64 a1_0), (2, .int .i64 a2_0), (3, .int .i64 a3_0), (4, .int .i64 a4_0)]).run Tryz.prog w = .ok (.slice (some ⟨w.heap.size, 0, none⟩) 5 5) (w.alloc (.cells [.int .i64 a0_0, .int .i64 a1_0, .int .i64 a2_0, .int .i64 a3_0, .int .i64 a4_0].toArray 3)) := by kernel_rfl
theorem brabld102_2016 (a0_0 : Int) (a0_1 : Int) (a1_0 : Int) (a2_0 : Int) (w : World) : (Instr.build 102 #[(0, .agg #[.int .u32 a0_0, .int .i64 a0_1]), (1, .int .i64 a1_0), (2, .int .i64 a2_0)]).run Tryz.prog w = .ok (.agg #[.int .u32 a0_0, .int .i64 a0_1, .int .i64 a1_0, .int .i64 a2_0, .int .i64 0]) w := by kernel_rfl
theorem brabs106_4_78574 (a0_0 : Int) (a1_0 : Int) (a2_0 : Int) (a3_0 : Int) (w : World) : (Instr.buildSlice 106 4 #[(0, .int .i64 a0_0), (1, .int .i64 a1_0), (2, .int .i64 a2_0), (3, .int .i64 a3_0)]).run Tryz.prog w = .ok (.slice (some ⟨w.heap.size, 0, none⟩) 4 4) (w.alloc (.cells [.int .i64 a0_0, .int .i64 a1_0, .int .i64 a2_0, .int .i64 a3_0].toArray 3)) := by kernel_rfl
set_option maxHeartbeats 1000000 in
theorem entry_cod (cb : Nat) (w : World) (hC : Cod w cb) :
    Calls Tryz.prog 65 #[.pointer (some ⟨cb, 0, none⟩)] w fun e w' => ∃ x : {y : En // EnG y}, e = .returned (.agg x.1.cells.toArray) ∧ Codr (fun w => Cod w cb) cb w ([]) w' := by
  refine begin_ (vs := [.pointer (some ⟨cb, 0, none⟩)]) (I := Pm ⟨w, cb⟩ (.abs cb (fun w => Cod w cb) :: oths cb w)) Tryz.func65 rfl rfl rfl ?_ (Pm.codes hC (cod_cells hC) (cod_stab cb))
  refine TC.seq_ ?_
  refine TC.region ?_
  refine TL.pnew rfl rfl rfl (exec_alloc (cs := [.int .u32 0, .int .i64 0, .int .i64 0, .int .i64 0, .int .i64 0]) rfl brezv102 rfl) (fun g2 => ?_)
  refine TL.end_ ?_
  refine TX.then_ ?_
  refine TC.seq_ ?_
  refine TC.region ?_
  refine TL.val rfl rfl rfl (gives_move rfl rfl) ?_
  refine TL.prowS (e := 3) (size := 1) (cs := flat (ic .i64) [8, 24, 28, 29, 30, 30, 31, 32]) rfl rfl rfl rfl rfl (fun w => arpbs106_8_10220 _ _ _ _ _ _ _ _ w) (by decide) rfl (fun g7 => ?_)
  refine TL.pcallCod (k := 2) (α := {v : Int // v ∈ ([8, 24, 28, 29, 30, 30, 31, 32] : List Int)}) (fun x => .int .i64 x.1) (fun x => []) rfl rfl rfl rfl rfl Tryz.func22 ddrnm75 ddrbd75 rfl (fun w1 hw hC1 => pick_cod cb w1 hC1 g7 8 ([8, 24, 28, 29, 30, 30, 31, 32]) (hw.neq (i := 0) (j := 2) rfl rfl (by decide) g7 rfl <| congrArg some ·.symm) (Pc.lt (hw.at_ (k := 0) rfl) g7 rfl).2 (by show 0 < ([8, 24, 28, 29, 30, 30, 31, 32] : List Int).length; simp) (fun i v hi => flat_row1 hw (q := 0) rfl hi)) ?_
  rintro ⟨n, hn⟩
  dsimp only [List.cons_append, List.nil_append]
  have hn8 : 8 ≤ n ∧ n ≤ 32 := by simp only [List.mem_cons, List.not_mem_nil, or_false] at hn; omega
  refine TL.val rfl rfl rfl (gives_assign rfl rfl) ?_
  refine TL.end_ ?_
  refine TX.then_ ?_
  refine TC.seq_ ?_
  refine TC.region ?_
  refine TL.val rfl rfl rfl (gives_move rfl rfl) ?_
  refine TL.pcallCod (k := 2) (α := {a : Int // 167772161 ≤ a ∧ a ≤ 167772173}) (fun x => .int .u32 x.1) (fun x => []) rfl rfl rfl rfl rfl Tryz.func67 branm67 brabd67 rfl (fun w1 hw hC1 => daddr_cod cb w1 hC1) ?_
  rintro ⟨a, ha1, ha2⟩
  dsimp only [List.cons_append, List.nil_append]
  refine TL.val rfl rfl rfl (gives_assign rfl rfl) ?_
  refine TL.end_ ?_
  refine TX.then_ ?_
  refine TC.join (α := {y : Nat × Nat × Int // y.2.1 < 4}) (fun y => [(0, .pointer (some ⟨cb, 0, none⟩)), (2, .pointer (some ⟨g2, 0, none⟩)), (5, .pointer (some ⟨y.1.1, 0, none⟩))]) (fun y => Pm ⟨w, cb⟩ ([.blk y.1.1 102 [.int .u32 (shlF a n), .int .i64 n, .int .i64 (1 + ((y.1.2.1 : Nat) : Int)), .int .i64 y.1.2.2, .int .i64 0], .blk g2 102 [.int .u32 0, .int .i64 0, .int .i64 0, .int .i64 0, .int .i64 0], .abs cb (fun w => Cod w cb)] ++ oths cb w)) ?_ ?_
  · refine TC.held (ls := #[false, false, false, false, false, false, false, false, false, false, false, false, false, false, false, false, false, false]) (Pm ⟨w, cb⟩ []) (by kernel_rfl) rfl rfl (fun w hw => hw.drawn _) ?_
    refine TH.take (listed' := #[true, false, false, false, false, false, false, false, false, false, false, false, false, false, false, false, false, false]) 0 rfl (by kernel_rfl) (by kernel_rfl) (by kernel_rfl) rfl rfl rfl rfl (gives_move rfl rfl) (fun w1 hw => hw.pick [] (by decide) rfl) ?_
    refine TH.take (listed' := #[true, true, false, false, false, false, false, false, false, false, false, false, false, false, false, false, false, false]) 1 rfl (by kernel_rfl) (by kernel_rfl) (by kernel_rfl) rfl rfl rfl rfl (gives_move rfl rfl) (fun w1 hw => hw.pick [] (by decide) rfl) ?_
    refine TH.take (listed' := #[true, true, true, false, false, false, false, false, false, false, false, false, false, false, false, false, false, false]) 2 rfl (by kernel_rfl) (by kernel_rfl) (by kernel_rfl) rfl rfl rfl rfl (gives_bin rfl rfl rfl (fun w => bin_sub_ (r := 32 - n) (by simp only [IntKind.wrap_i64]; omega) w)) (fun w1 hw => hw.pick [] (by decide) rfl) ?_
    refine TH.take (listed' := #[true, true, true, true, false, false, false, false, false, false, false, false, false, false, false, false, false, false]) 3 rfl (by kernel_rfl) (by kernel_rfl) (by kernel_rfl) rfl rfl rfl rfl (gives_bin (v := .int .u32 (a / 2 ^ (32 - n).toNat)) rfl rfl rfl (fun w => bin_shr (2 ^ (32 - n).toNat) (by omega) (by simp only [IntKind.bits]; omega) rfl w)) (fun w1 hw => hw.pick [] (by decide) rfl) ?_
    refine TH.take (listed' := #[true, true, true, true, true, false, false, false, false, false, false, false, false, false, false, false, false, false]) 4 rfl (by kernel_rfl) (by kernel_rfl) (by kernel_rfl) rfl rfl rfl rfl (gives_move rfl rfl) (fun w1 hw => hw.pick [] (by decide) rfl) ?_
    refine TH.take (listed' := #[true, true, true, true, true, true, false, false, false, false, false, false, false, false, false, false, false, false]) 5 rfl (by kernel_rfl) (by kernel_rfl) (by kernel_rfl) rfl rfl rfl rfl (gives_bin rfl rfl rfl (fun w => bin_sub_ (r := 32 - n) (by simp only [IntKind.wrap_i64]; omega) w)) (fun w1 hw => hw.pick [] (by decide) rfl) ?_
    refine TH.take (listed' := #[true, true, true, true, true, true, true, false, false, false, false, false, false, false, false, false, false, false]) 6 rfl (by kernel_rfl) (by kernel_rfl) (by kernel_rfl) rfl rfl rfl rfl (gives_bin (v := .int .u32 (shlF a n)) rfl rfl rfl (fun w => bin_shl (2 ^ (32 - n).toNat) (by omega) (by simp only [IntKind.bits]; omega) rfl w)) (fun w1 hw => hw.pick [] (by decide) rfl) ?_
    refine TH.take (listed' := #[true, true, true, true, true, true, true, true, false, false, false, false, false, false, false, false, false, false]) 7 rfl (by kernel_rfl) (by kernel_rfl) (by kernel_rfl) rfl rfl rfl rfl (gives_move rfl rfl) (fun w1 hw => hw.pick [] (by decide) rfl) ?_
    refine TH.take (listed' := #[true, true, true, true, true, true, true, true, true, false, false, false, false, false, false, false, false, false]) 8 rfl (by kernel_rfl) (by kernel_rfl) (by kernel_rfl) rfl rfl rfl rfl (gives_build (v := .agg #[.int .u32 (shlF a n), .int .i64 n]) rfl rfl (fun w => brabld100_29152 _ _ w)) (fun w1 hw => hw.pick [] (by decide) rfl) ?_
    refine TH.take (listed' := #[true, true, true, true, true, true, true, true, true, true, false, false, false, false, false, false, false, false]) 9 rfl (by kernel_rfl) (by kernel_rfl) (by kernel_rfl) rfl rfl rfl rfl (gives_move rfl rfl) (fun w1 hw => hw.pick [] (by decide) rfl) ?_
    refine TH.take (listed' := #[true, true, true, true, true, true, true, true, true, true, false, false, true, false, false, false, false, false]) 12 rfl (by kernel_rfl) (by kernel_rfl) (by kernel_rfl) rfl rfl rfl rfl (gives_move rfl rfl) (fun w1 hw => hw.pick [] (by decide) rfl) ?_
    refine TH.three (l1 := #[true, true, true, true, true, true, true, true, true, true, true, false, true, false, false, false, false, false]) (l2 := #[true, true, true, true, true, true, true, true, true, true, false, false, true, true, false, false, false, false]) (l3 := #[true, true, true, true, true, true, true, true, true, true, false, false, true, false, false, false, true, false]) 10 13 16 rfl rfl rfl (by kernel_rfl) rfl rfl rfl rfl rfl rfl ?_ ?_ ?_
    · refine TL.pcallCod (k := 2) (α := {q9 : Nat // q9 ≤ 65535 ∧ (1 ≤ (4 : Int) → (q9 : Int) < 4)}) (fun q9 => .int .i64 ((q9.1 : Nat) : Int)) (fun q9 => []) rfl rfl rfl rfl rfl Tryz.func21 ddrnm25 ddrbd25 rfl (fun w1 hw hC1 => next_cod cb w1 4 hC1) ?_
      rintro ⟨k21, hk211, hk212⟩
      dsimp only [List.cons_append, List.nil_append]
      refine TL.end_ ?_
      refine TX.held (fun w1 hw => hw.pick [] (by decide) rfl) ?_
      refine TH.take (listed' := #[true, true, true, true, true, true, true, true, true, true, true, true, true, false, false, false, false, false]) 11 rfl (by kernel_rfl) (by kernel_rfl) (by kernel_rfl) rfl rfl rfl rfl (gives_bin rfl rfl rfl (fun w => bin_add_ (r := 1 + ((k21 : Nat) : Int)) (by simp only [IntKind.wrap_i64]; omega) w)) (fun w1 hw => hw.pick [] (by decide) rfl) ?_
      refine TH.two' (listed1 := #[true, true, true, true, true, true, true, true, true, true, true, true, true, true, false, false, false, false]) (listed2 := #[true, true, true, true, true, true, true, true, true, true, true, true, true, false, false, false, true, false]) 13 16 rfl rfl (by kernel_rfl) rfl rfl ?_ ?_
      · refine TL.prowS (e := 3) (size := 1) (cs := flat (ic .i64) [0, 0, 0, 50, 300]) rfl rfl rfl rfl rfl (fun w => brabs106_5_22075 _ _ _ _ _ w) (by decide) rfl (fun g24 => ?_)
        refine TL.end_ ?_
        refine TX.held (fun w1 hw => hw.pick [] (by decide) rfl) ?_
        refine TH.two' (listed1 := #[true, true, true, true, true, true, true, true, true, true, true, true, true, true, true, false, false, false]) (listed2 := #[true, true, true, true, true, true, true, true, true, true, true, true, true, true, false, false, true, false]) 14 16 rfl rfl (by kernel_rfl) rfl rfl ?_ ?_
        · refine TL.pcallCod (k := 3) (α := {v : Int // v ∈ ([0, 0, 0, 50, 300] : List Int)}) (fun x => .int .i64 x.1) (fun x => []) rfl rfl rfl rfl rfl Tryz.func22 ddrnm75 ddrbd75 rfl (fun w1 hw hC1 => pick_cod cb w1 hC1 g24 5 ([0, 0, 0, 50, 300]) (hw.neq (i := 0) (j := 3) rfl rfl (by decide) g24 rfl <| congrArg some ·.symm) (Pc.lt (hw.at_ (k := 0) rfl) g24 rfl).2 (by show 0 < ([0, 0, 0, 50, 300] : List Int).length; simp) (fun i v hi => flat_row1 hw (q := 0) rfl hi)) ?_
          rintro ⟨v25, hv25⟩
          dsimp only [List.cons_append, List.nil_append]
          refine TL.end_ ?_
          refine TX.held (fun w1 hw => hw.pick [] (by decide) rfl) ?_
          refine TH.take (listed' := #[true, true, true, true, true, true, true, true, true, true, true, true, true, true, true, true, false, false]) 15 rfl (by kernel_rfl) (by kernel_rfl) (by kernel_rfl) rfl rfl rfl rfl (gives_build (v := .agg #[.int .u32 (shlF a n), .int .i64 n, .int .i64 (1 + ((k21 : Nat) : Int)), .int .i64 v25, .int .i64 0]) rfl rfl (fun w => brabld102_2016 _ _ _ _ w)) (fun w1 hw => hw.pick [] (by decide) rfl) ?_
          refine TH.only' (listed' := #[true, true, true, true, true, true, true, true, true, true, true, true, true, true, true, true, true, false]) 16 rfl (by kernel_rfl) rfl ?_
          refine TL.pnew rfl rfl rfl (exec_alloc (cs := [.int .u32 0, .int .i64 0, .int .i64 0, .int .i64 0, .int .i64 0]) rfl brezv102 rfl) (fun g5 => ?_)
          refine TL.end_ ?_
          refine TX.held (fun w1 hw => hw.pick [] (by decide) rfl) ?_
          refine TH.only' (listed' := #[true, true, true, true, true, true, true, true, true, true, true, true, true, true, true, true, true, true]) 17 rfl (by kernel_rfl) rfl ?_
          refine TL.pstore (k := 0) (vs := [.int .u32 (shlF a n), .int .i64 n, .int .i64 (1 + ((k21 : Nat) : Int)), .int .i64 v25, .int .i64 0]) rfl rfl rfl rfl rfl rfl rfl bresz102 breone_u32i64i64i64i64 (by show 5 ≤ 5; decide) (L' := ([.blk g5 102 [.int .u32 (shlF a n), .int .i64 n, .int .i64 (1 + ((k21 : Nat) : Int)), .int .i64 v25, .int .i64 0], .row (.slice (some ⟨g24, 0, none⟩) 5 5) 3 1 5 (flat (ic .i64) [0, 0, 0, 50, 300]), .row (.slice (some ⟨g7, 0, none⟩) 8 8) 3 1 8 (flat (ic .i64) [8, 24, 28, 29, 30, 30, 31, 32]), .blk g2 102 [.int .u32 0, .int .i64 0, .int .i64 0, .int .i64 0, .int .i64 0], .abs cb (fun w => Cod w cb)] ++ oths cb w)) rfl ?_
          refine TL.end_ ?_
          refine TX.held (fun w1 hw => hw.pick [] (by decide) rfl) ?_
          refine TH.done (by kernel_rfl) ?_
          exact TX.joined (⟨(g5, k21, v25), by dsimp only; omega⟩) (⟨rfl, rfl, rfl, trivial⟩) (fun w1 hw => hw.sel (.cons_cons _ (.cons _ (.cons _ (.cons_cons _ (.cons_cons _ (List.Sublist.refl _)))))))
        · refine TL.pnew rfl rfl rfl (exec_alloc (cs := [.int .u32 0, .int .i64 0, .int .i64 0, .int .i64 0, .int .i64 0]) rfl brezv102 rfl) (fun g5 => ?_)
          refine TL.end_ ?_
          refine TX.held (fun w1 hw => hw.pick [] (by decide) rfl) ?_
          refine TH.only' (listed' := #[true, true, true, true, true, true, true, true, true, true, true, true, true, true, true, false, true, false]) 14 rfl (by kernel_rfl) rfl ?_
          refine TL.pcallCod (k := 4) (α := {v : Int // v ∈ ([0, 0, 0, 50, 300] : List Int)}) (fun x => .int .i64 x.1) (fun x => []) rfl rfl rfl rfl rfl Tryz.func22 ddrnm75 ddrbd75 rfl (fun w1 hw hC1 => pick_cod cb w1 hC1 g24 5 ([0, 0, 0, 50, 300]) (hw.neq (i := 1) (j := 4) rfl rfl (by decide) g24 rfl <| congrArg some ·.symm) (Pc.lt (hw.at_ (k := 1) rfl) g24 rfl).2 (by show 0 < ([0, 0, 0, 50, 300] : List Int).length; simp) (fun i v hi => flat_row1 hw (q := 1) rfl hi)) ?_
          rintro ⟨v25, hv25⟩
          dsimp only [List.cons_append, List.nil_append]
          refine TL.end_ ?_
          refine TX.held (fun w1 hw => hw.pick [] (by decide) rfl) ?_
          refine TH.take (listed' := #[true, true, true, true, true, true, true, true, true, true, true, true, true, true, true, true, true, false]) 15 rfl (by kernel_rfl) (by kernel_rfl) (by kernel_rfl) rfl rfl rfl rfl (gives_build (v := .agg #[.int .u32 (shlF a n), .int .i64 n, .int .i64 (1 + ((k21 : Nat) : Int)), .int .i64 v25, .int .i64 0]) rfl rfl (fun w => brabld102_2016 _ _ _ _ w)) (fun w1 hw => hw.pick [] (by decide) rfl) ?_
          refine TH.only' (listed' := #[true, true, true, true, true, true, true, true, true, true, true, true, true, true, true, true, true, true]) 17 rfl (by kernel_rfl) rfl ?_
          refine TL.pstore (k := 0) (vs := [.int .u32 (shlF a n), .int .i64 n, .int .i64 (1 + ((k21 : Nat) : Int)), .int .i64 v25, .int .i64 0]) rfl rfl rfl rfl rfl rfl rfl bresz102 breone_u32i64i64i64i64 (by show 5 ≤ 5; decide) (L' := ([.blk g5 102 [.int .u32 (shlF a n), .int .i64 n, .int .i64 (1 + ((k21 : Nat) : Int)), .int .i64 v25, .int .i64 0], .row (.slice (some ⟨g24, 0, none⟩) 5 5) 3 1 5 (flat (ic .i64) [0, 0, 0, 50, 300]), .row (.slice (some ⟨g7, 0, none⟩) 8 8) 3 1 8 (flat (ic .i64) [8, 24, 28, 29, 30, 30, 31, 32]), .blk g2 102 [.int .u32 0, .int .i64 0, .int .i64 0, .int .i64 0, .int .i64 0], .abs cb (fun w => Cod w cb)] ++ oths cb w)) rfl ?_
          refine TL.end_ ?_
          refine TX.held (fun w1 hw => hw.pick [] (by decide) rfl) ?_
          refine TH.done (by kernel_rfl) ?_
          exact TX.joined (⟨(g5, k21, v25), by dsimp only; omega⟩) (⟨rfl, rfl, rfl, trivial⟩) (fun w1 hw => hw.sel (.cons_cons _ (.cons _ (.cons _ (.cons_cons _ (.cons_cons _ (List.Sublist.refl _)))))))
      · refine TL.pnew rfl rfl rfl (exec_alloc (cs := [.int .u32 0, .int .i64 0, .int .i64 0, .int .i64 0, .int .i64 0]) rfl brezv102 rfl) (fun g5 => ?_)
        refine TL.end_ ?_
        refine TX.held (fun w1 hw => hw.pick [] (by decide) rfl) ?_
        refine TH.only' (listed' := #[true, true, true, true, true, true, true, true, true, true, true, true, true, true, false, false, true, false]) 13 rfl (by kernel_rfl) rfl ?_
        refine TL.prowS (e := 3) (size := 1) (cs := flat (ic .i64) [0, 0, 0, 50, 300]) rfl rfl rfl rfl rfl (fun w => brabs106_5_22075 _ _ _ _ _ w) (by decide) rfl (fun g24 => ?_)
        refine TL.end_ ?_
        refine TX.held (fun w1 hw => hw.pick [] (by decide) rfl) ?_
        refine TH.only' (listed' := #[true, true, true, true, true, true, true, true, true, true, true, true, true, true, true, false, true, false]) 14 rfl (by kernel_rfl) rfl ?_
        refine TL.pcallCod (k := 4) (α := {v : Int // v ∈ ([0, 0, 0, 50, 300] : List Int)}) (fun x => .int .i64 x.1) (fun x => []) rfl rfl rfl rfl rfl Tryz.func22 ddrnm75 ddrbd75 rfl (fun w1 hw hC1 => pick_cod cb w1 hC1 g24 5 ([0, 0, 0, 50, 300]) (hw.neq (i := 0) (j := 4) rfl rfl (by decide) g24 rfl <| congrArg some ·.symm) (Pc.lt (hw.at_ (k := 0) rfl) g24 rfl).2 (by show 0 < ([0, 0, 0, 50, 300] : List Int).length; simp) (fun i v hi => flat_row1 hw (q := 0) rfl hi)) ?_
        rintro ⟨v25, hv25⟩
        dsimp only [List.cons_append, List.nil_append]
        refine TL.end_ ?_
        refine TX.held (fun w1 hw => hw.pick [] (by decide) rfl) ?_
        refine TH.take (listed' := #[true, true, true, true, true, true, true, true, true, true, true, true, true, true, true, true, true, false]) 15 rfl (by kernel_rfl) (by kernel_rfl) (by kernel_rfl) rfl rfl rfl rfl (gives_build (v := .agg #[.int .u32 (shlF a n), .int .i64 n, .int .i64 (1 + ((k21 : Nat) : Int)), .int .i64 v25, .int .i64 0]) rfl rfl (fun w => brabld102_2016 _ _ _ _ w)) (fun w1 hw => hw.pick [] (by decide) rfl) ?_
        refine TH.only' (listed' := #[true, true, true, true, true, true, true, true, true, true, true, true, true, true, true, true, true, true]) 17 rfl (by kernel_rfl) rfl ?_
        refine TL.pstore (k := 1) (vs := [.int .u32 (shlF a n), .int .i64 n, .int .i64 (1 + ((k21 : Nat) : Int)), .int .i64 v25, .int .i64 0]) rfl rfl rfl rfl rfl rfl rfl bresz102 breone_u32i64i64i64i64 (by show 5 ≤ 5; decide) (L' := ([.row (.slice (some ⟨g24, 0, none⟩) 5 5) 3 1 5 (flat (ic .i64) [0, 0, 0, 50, 300]), .blk g5 102 [.int .u32 (shlF a n), .int .i64 n, .int .i64 (1 + ((k21 : Nat) : Int)), .int .i64 v25, .int .i64 0], .row (.slice (some ⟨g7, 0, none⟩) 8 8) 3 1 8 (flat (ic .i64) [8, 24, 28, 29, 30, 30, 31, 32]), .blk g2 102 [.int .u32 0, .int .i64 0, .int .i64 0, .int .i64 0, .int .i64 0], .abs cb (fun w => Cod w cb)] ++ oths cb w)) rfl ?_
        refine TL.end_ ?_
        refine TX.held (fun w1 hw => hw.pick [] (by decide) rfl) ?_
        refine TH.done (by kernel_rfl) ?_
        exact TX.joined (⟨(g5, k21, v25), by dsimp only; omega⟩) (⟨rfl, rfl, rfl, trivial⟩) (fun w1 hw => hw.sel (.cons _ (.cons_cons _ (.cons _ (.cons_cons _ (.cons_cons _ (List.Sublist.refl _)))))))
    · refine TL.prowS (e := 3) (size := 1) (cs := flat (ic .i64) [0, 0, 0, 50, 300]) rfl rfl rfl rfl rfl (fun w => brabs106_5_22075 _ _ _ _ _ w) (by decide) rfl (fun g24 => ?_)
      refine TL.end_ ?_
      refine TX.held (fun w1 hw => hw.pick [] (by decide) rfl) ?_
      refine TH.two' (listed1 := #[true, true, true, true, true, true, true, true, true, true, true, false, true, true, false, false, false, false]) (listed2 := #[true, true, true, true, true, true, true, true, true, true, false, false, true, true, false, false, true, false]) 10 16 rfl rfl (by kernel_rfl) rfl rfl ?_ ?_
      · refine TL.pcallCod (k := 3) (α := {q9 : Nat // q9 ≤ 65535 ∧ (1 ≤ (4 : Int) → (q9 : Int) < 4)}) (fun q9 => .int .i64 ((q9.1 : Nat) : Int)) (fun q9 => []) rfl rfl rfl rfl rfl Tryz.func21 ddrnm25 ddrbd25 rfl (fun w1 hw hC1 => next_cod cb w1 4 hC1) ?_
        rintro ⟨k21, hk211, hk212⟩
        dsimp only [List.cons_append, List.nil_append]
        refine TL.end_ ?_
        refine TX.held (fun w1 hw => hw.pick [] (by decide) rfl) ?_
        refine TH.take (listed' := #[true, true, true, true, true, true, true, true, true, true, true, true, true, true, false, false, false, false]) 11 rfl (by kernel_rfl) (by kernel_rfl) (by kernel_rfl) rfl rfl rfl rfl (gives_bin rfl rfl rfl (fun w => bin_add_ (r := 1 + ((k21 : Nat) : Int)) (by simp only [IntKind.wrap_i64]; omega) w)) (fun w1 hw => hw.pick [] (by decide) rfl) ?_
        refine TH.two' (listed1 := #[true, true, true, true, true, true, true, true, true, true, true, true, true, true, true, false, false, false]) (listed2 := #[true, true, true, true, true, true, true, true, true, true, true, true, true, true, false, false, true, false]) 14 16 rfl rfl (by kernel_rfl) rfl rfl ?_ ?_
        · refine TL.pcallCod (k := 3) (α := {v : Int // v ∈ ([0, 0, 0, 50, 300] : List Int)}) (fun x => .int .i64 x.1) (fun x => []) rfl rfl rfl rfl rfl Tryz.func22 ddrnm75 ddrbd75 rfl (fun w1 hw hC1 => pick_cod cb w1 hC1 g24 5 ([0, 0, 0, 50, 300]) (hw.neq (i := 0) (j := 3) rfl rfl (by decide) g24 rfl <| congrArg some ·.symm) (Pc.lt (hw.at_ (k := 0) rfl) g24 rfl).2 (by show 0 < ([0, 0, 0, 50, 300] : List Int).length; simp) (fun i v hi => flat_row1 hw (q := 0) rfl hi)) ?_
          rintro ⟨v25, hv25⟩
          dsimp only [List.cons_append, List.nil_append]
          refine TL.end_ ?_
          refine TX.held (fun w1 hw => hw.pick [] (by decide) rfl) ?_
          refine TH.take (listed' := #[true, true, true, true, true, true, true, true, true, true, true, true, true, true, true, true, false, false]) 15 rfl (by kernel_rfl) (by kernel_rfl) (by kernel_rfl) rfl rfl rfl rfl (gives_build (v := .agg #[.int .u32 (shlF a n), .int .i64 n, .int .i64 (1 + ((k21 : Nat) : Int)), .int .i64 v25, .int .i64 0]) rfl rfl (fun w => brabld102_2016 _ _ _ _ w)) (fun w1 hw => hw.pick [] (by decide) rfl) ?_
          refine TH.only' (listed' := #[true, true, true, true, true, true, true, true, true, true, true, true, true, true, true, true, true, false]) 16 rfl (by kernel_rfl) rfl ?_
          refine TL.pnew rfl rfl rfl (exec_alloc (cs := [.int .u32 0, .int .i64 0, .int .i64 0, .int .i64 0, .int .i64 0]) rfl brezv102 rfl) (fun g5 => ?_)
          refine TL.end_ ?_
          refine TX.held (fun w1 hw => hw.pick [] (by decide) rfl) ?_
          refine TH.only' (listed' := #[true, true, true, true, true, true, true, true, true, true, true, true, true, true, true, true, true, true]) 17 rfl (by kernel_rfl) rfl ?_
          refine TL.pstore (k := 0) (vs := [.int .u32 (shlF a n), .int .i64 n, .int .i64 (1 + ((k21 : Nat) : Int)), .int .i64 v25, .int .i64 0]) rfl rfl rfl rfl rfl rfl rfl bresz102 breone_u32i64i64i64i64 (by show 5 ≤ 5; decide) (L' := ([.blk g5 102 [.int .u32 (shlF a n), .int .i64 n, .int .i64 (1 + ((k21 : Nat) : Int)), .int .i64 v25, .int .i64 0], .row (.slice (some ⟨g24, 0, none⟩) 5 5) 3 1 5 (flat (ic .i64) [0, 0, 0, 50, 300]), .row (.slice (some ⟨g7, 0, none⟩) 8 8) 3 1 8 (flat (ic .i64) [8, 24, 28, 29, 30, 30, 31, 32]), .blk g2 102 [.int .u32 0, .int .i64 0, .int .i64 0, .int .i64 0, .int .i64 0], .abs cb (fun w => Cod w cb)] ++ oths cb w)) rfl ?_
          refine TL.end_ ?_
          refine TX.held (fun w1 hw => hw.pick [] (by decide) rfl) ?_
          refine TH.done (by kernel_rfl) ?_
          exact TX.joined (⟨(g5, k21, v25), by dsimp only; omega⟩) (⟨rfl, rfl, rfl, trivial⟩) (fun w1 hw => hw.sel (.cons_cons _ (.cons _ (.cons _ (.cons_cons _ (.cons_cons _ (List.Sublist.refl _)))))))
        · refine TL.pnew rfl rfl rfl (exec_alloc (cs := [.int .u32 0, .int .i64 0, .int .i64 0, .int .i64 0, .int .i64 0]) rfl brezv102 rfl) (fun g5 => ?_)
          refine TL.end_ ?_
          refine TX.held (fun w1 hw => hw.pick [] (by decide) rfl) ?_
          refine TH.only' (listed' := #[true, true, true, true, true, true, true, true, true, true, true, true, true, true, true, false, true, false]) 14 rfl (by kernel_rfl) rfl ?_
          refine TL.pcallCod (k := 4) (α := {v : Int // v ∈ ([0, 0, 0, 50, 300] : List Int)}) (fun x => .int .i64 x.1) (fun x => []) rfl rfl rfl rfl rfl Tryz.func22 ddrnm75 ddrbd75 rfl (fun w1 hw hC1 => pick_cod cb w1 hC1 g24 5 ([0, 0, 0, 50, 300]) (hw.neq (i := 1) (j := 4) rfl rfl (by decide) g24 rfl <| congrArg some ·.symm) (Pc.lt (hw.at_ (k := 1) rfl) g24 rfl).2 (by show 0 < ([0, 0, 0, 50, 300] : List Int).length; simp) (fun i v hi => flat_row1 hw (q := 1) rfl hi)) ?_
          rintro ⟨v25, hv25⟩
          dsimp only [List.cons_append, List.nil_append]
          refine TL.end_ ?_
          refine TX.held (fun w1 hw => hw.pick [] (by decide) rfl) ?_
          refine TH.take (listed' := #[true, true, true, true, true, true, true, true, true, true, true, true, true, true, true, true, true, false]) 15 rfl (by kernel_rfl) (by kernel_rfl) (by kernel_rfl) rfl rfl rfl rfl (gives_build (v := .agg #[.int .u32 (shlF a n), .int .i64 n, .int .i64 (1 + ((k21 : Nat) : Int)), .int .i64 v25, .int .i64 0]) rfl rfl (fun w => brabld102_2016 _ _ _ _ w)) (fun w1 hw => hw.pick [] (by decide) rfl) ?_
          refine TH.only' (listed' := #[true, true, true, true, true, true, true, true, true, true, true, true, true, true, true, true, true, true]) 17 rfl (by kernel_rfl) rfl ?_
          refine TL.pstore (k := 0) (vs := [.int .u32 (shlF a n), .int .i64 n, .int .i64 (1 + ((k21 : Nat) : Int)), .int .i64 v25, .int .i64 0]) rfl rfl rfl rfl rfl rfl rfl bresz102 breone_u32i64i64i64i64 (by show 5 ≤ 5; decide) (L' := ([.blk g5 102 [.int .u32 (shlF a n), .int .i64 n, .int .i64 (1 + ((k21 : Nat) : Int)), .int .i64 v25, .int .i64 0], .row (.slice (some ⟨g24, 0, none⟩) 5 5) 3 1 5 (flat (ic .i64) [0, 0, 0, 50, 300]), .row (.slice (some ⟨g7, 0, none⟩) 8 8) 3 1 8 (flat (ic .i64) [8, 24, 28, 29, 30, 30, 31, 32]), .blk g2 102 [.int .u32 0, .int .i64 0, .int .i64 0, .int .i64 0, .int .i64 0], .abs cb (fun w => Cod w cb)] ++ oths cb w)) rfl ?_
          refine TL.end_ ?_
          refine TX.held (fun w1 hw => hw.pick [] (by decide) rfl) ?_
          refine TH.done (by kernel_rfl) ?_
          exact TX.joined (⟨(g5, k21, v25), by dsimp only; omega⟩) (⟨rfl, rfl, rfl, trivial⟩) (fun w1 hw => hw.sel (.cons_cons _ (.cons _ (.cons _ (.cons_cons _ (.cons_cons _ (List.Sublist.refl _)))))))
      · refine TL.pnew rfl rfl rfl (exec_alloc (cs := [.int .u32 0, .int .i64 0, .int .i64 0, .int .i64 0, .int .i64 0]) rfl brezv102 rfl) (fun g5 => ?_)
        refine TL.end_ ?_
        refine TX.held (fun w1 hw => hw.pick [] (by decide) rfl) ?_
        refine TH.only' (listed' := #[true, true, true, true, true, true, true, true, true, true, true, false, true, true, false, false, true, false]) 10 rfl (by kernel_rfl) rfl ?_
        refine TL.pcallCod (k := 4) (α := {q9 : Nat // q9 ≤ 65535 ∧ (1 ≤ (4 : Int) → (q9 : Int) < 4)}) (fun q9 => .int .i64 ((q9.1 : Nat) : Int)) (fun q9 => []) rfl rfl rfl rfl rfl Tryz.func21 ddrnm25 ddrbd25 rfl (fun w1 hw hC1 => next_cod cb w1 4 hC1) ?_
        rintro ⟨k21, hk211, hk212⟩
        dsimp only [List.cons_append, List.nil_append]
        refine TL.end_ ?_
        refine TX.held (fun w1 hw => hw.pick [] (by decide) rfl) ?_
        refine TH.take (listed' := #[true, true, true, true, true, true, true, true, true, true, true, true, true, true, false, false, true, false]) 11 rfl (by kernel_rfl) (by kernel_rfl) (by kernel_rfl) rfl rfl rfl rfl (gives_bin rfl rfl rfl (fun w => bin_add_ (r := 1 + ((k21 : Nat) : Int)) (by simp only [IntKind.wrap_i64]; omega) w)) (fun w1 hw => hw.pick [] (by decide) rfl) ?_
        refine TH.only' (listed' := #[true, true, true, true, true, true, true, true, true, true, true, true, true, true, true, false, true, false]) 14 rfl (by kernel_rfl) rfl ?_
        refine TL.pcallCod (k := 4) (α := {v : Int // v ∈ ([0, 0, 0, 50, 300] : List Int)}) (fun x => .int .i64 x.1) (fun x => []) rfl rfl rfl rfl rfl Tryz.func22 ddrnm75 ddrbd75 rfl (fun w1 hw hC1 => pick_cod cb w1 hC1 g24 5 ([0, 0, 0, 50, 300]) (hw.neq (i := 1) (j := 4) rfl rfl (by decide) g24 rfl <| congrArg some ·.symm) (Pc.lt (hw.at_ (k := 1) rfl) g24 rfl).2 (by show 0 < ([0, 0, 0, 50, 300] : List Int).length; simp) (fun i v hi => flat_row1 hw (q := 1) rfl hi)) ?_
        rintro ⟨v25, hv25⟩
        dsimp only [List.cons_append, List.nil_append]
        refine TL.end_ ?_
        refine TX.held (fun w1 hw => hw.pick [] (by decide) rfl) ?_
        refine TH.take (listed' := #[true, true, true, true, true, true, true, true, true, true, true, true, true, true, true, true, true, false]) 15 rfl (by kernel_rfl) (by kernel_rfl) (by kernel_rfl) rfl rfl rfl rfl (gives_build (v := .agg #[.int .u32 (shlF a n), .int .i64 n, .int .i64 (1 + ((k21 : Nat) : Int)), .int .i64 v25, .int .i64 0]) rfl rfl (fun w => brabld102_2016 _ _ _ _ w)) (fun w1 hw => hw.pick [] (by decide) rfl) ?_
        refine TH.only' (listed' := #[true, true, true, true, true, true, true, true, true, true, true, true, true, true, true, true, true, true]) 17 rfl (by kernel_rfl) rfl ?_
        refine TL.pstore (k := 0) (vs := [.int .u32 (shlF a n), .int .i64 n, .int .i64 (1 + ((k21 : Nat) : Int)), .int .i64 v25, .int .i64 0]) rfl rfl rfl rfl rfl rfl rfl bresz102 breone_u32i64i64i64i64 (by show 5 ≤ 5; decide) (L' := ([.blk g5 102 [.int .u32 (shlF a n), .int .i64 n, .int .i64 (1 + ((k21 : Nat) : Int)), .int .i64 v25, .int .i64 0], .row (.slice (some ⟨g24, 0, none⟩) 5 5) 3 1 5 (flat (ic .i64) [0, 0, 0, 50, 300]), .row (.slice (some ⟨g7, 0, none⟩) 8 8) 3 1 8 (flat (ic .i64) [8, 24, 28, 29, 30, 30, 31, 32]), .blk g2 102 [.int .u32 0, .int .i64 0, .int .i64 0, .int .i64 0, .int .i64 0], .abs cb (fun w => Cod w cb)] ++ oths cb w)) rfl ?_
        refine TL.end_ ?_
        refine TX.held (fun w1 hw => hw.pick [] (by decide) rfl) ?_
        refine TH.done (by kernel_rfl) ?_
        exact TX.joined (⟨(g5, k21, v25), by dsimp only; omega⟩) (⟨rfl, rfl, rfl, trivial⟩) (fun w1 hw => hw.sel (.cons_cons _ (.cons _ (.cons _ (.cons_cons _ (.cons_cons _ (List.Sublist.refl _)))))))
    · refine TL.pnew rfl rfl rfl (exec_alloc (cs := [.int .u32 0, .int .i64 0, .int .i64 0, .int .i64 0, .int .i64 0]) rfl brezv102 rfl) (fun g5 => ?_)
      refine TL.end_ ?_
      refine TX.held (fun w1 hw => hw.pick [] (by decide) rfl) ?_
      refine TH.two' (listed1 := #[true, true, true, true, true, true, true, true, true, true, true, false, true, false, false, false, true, false]) (listed2 := #[true, true, true, true, true, true, true, true, true, true, false, false, true, true, false, false, true, false]) 10 13 rfl rfl (by kernel_rfl) rfl rfl ?_ ?_
      · refine TL.pcallCod (k := 3) (α := {q9 : Nat // q9 ≤ 65535 ∧ (1 ≤ (4 : Int) → (q9 : Int) < 4)}) (fun q9 => .int .i64 ((q9.1 : Nat) : Int)) (fun q9 => []) rfl rfl rfl rfl rfl Tryz.func21 ddrnm25 ddrbd25 rfl (fun w1 hw hC1 => next_cod cb w1 4 hC1) ?_
        rintro ⟨k21, hk211, hk212⟩
        dsimp only [List.cons_append, List.nil_append]
        refine TL.end_ ?_
        refine TX.held (fun w1 hw => hw.pick [] (by decide) rfl) ?_
        refine TH.take (listed' := #[true, true, true, true, true, true, true, true, true, true, true, true, true, false, false, false, true, false]) 11 rfl (by kernel_rfl) (by kernel_rfl) (by kernel_rfl) rfl rfl rfl rfl (gives_bin rfl rfl rfl (fun w => bin_add_ (r := 1 + ((k21 : Nat) : Int)) (by simp only [IntKind.wrap_i64]; omega) w)) (fun w1 hw => hw.pick [] (by decide) rfl) ?_
        refine TH.only' (listed' := #[true, true, true, true, true, true, true, true, true, true, true, true, true, true, false, false, true, false]) 13 rfl (by kernel_rfl) rfl ?_
        refine TL.prowS (e := 3) (size := 1) (cs := flat (ic .i64) [0, 0, 0, 50, 300]) rfl rfl rfl rfl rfl (fun w => brabs106_5_22075 _ _ _ _ _ w) (by decide) rfl (fun g24 => ?_)
        refine TL.end_ ?_
        refine TX.held (fun w1 hw => hw.pick [] (by decide) rfl) ?_
        refine TH.only' (listed' := #[true, true, true, true, true, true, true, true, true, true, true, true, true, true, true, false, true, false]) 14 rfl (by kernel_rfl) rfl ?_
        refine TL.pcallCod (k := 4) (α := {v : Int // v ∈ ([0, 0, 0, 50, 300] : List Int)}) (fun x => .int .i64 x.1) (fun x => []) rfl rfl rfl rfl rfl Tryz.func22 ddrnm75 ddrbd75 rfl (fun w1 hw hC1 => pick_cod cb w1 hC1 g24 5 ([0, 0, 0, 50, 300]) (hw.neq (i := 0) (j := 4) rfl rfl (by decide) g24 rfl <| congrArg some ·.symm) (Pc.lt (hw.at_ (k := 0) rfl) g24 rfl).2 (by show 0 < ([0, 0, 0, 50, 300] : List Int).length; simp) (fun i v hi => flat_row1 hw (q := 0) rfl hi)) ?_
        rintro ⟨v25, hv25⟩
        dsimp only [List.cons_append, List.nil_append]
        refine TL.end_ ?_
        refine TX.held (fun w1 hw => hw.pick [] (by decide) rfl) ?_
        refine TH.take (listed' := #[true, true, true, true, true, true, true, true, true, true, true, true, true, true, true, true, true, false]) 15 rfl (by kernel_rfl) (by kernel_rfl) (by kernel_rfl) rfl rfl rfl rfl (gives_build (v := .agg #[.int .u32 (shlF a n), .int .i64 n, .int .i64 (1 + ((k21 : Nat) : Int)), .int .i64 v25, .int .i64 0]) rfl rfl (fun w => brabld102_2016 _ _ _ _ w)) (fun w1 hw => hw.pick [] (by decide) rfl) ?_
        refine TH.only' (listed' := #[true, true, true, true, true, true, true, true, true, true, true, true, true, true, true, true, true, true]) 17 rfl (by kernel_rfl) rfl ?_
        refine TL.pstore (k := 1) (vs := [.int .u32 (shlF a n), .int .i64 n, .int .i64 (1 + ((k21 : Nat) : Int)), .int .i64 v25, .int .i64 0]) rfl rfl rfl rfl rfl rfl rfl bresz102 breone_u32i64i64i64i64 (by show 5 ≤ 5; decide) (L' := ([.row (.slice (some ⟨g24, 0, none⟩) 5 5) 3 1 5 (flat (ic .i64) [0, 0, 0, 50, 300]), .blk g5 102 [.int .u32 (shlF a n), .int .i64 n, .int .i64 (1 + ((k21 : Nat) : Int)), .int .i64 v25, .int .i64 0], .row (.slice (some ⟨g7, 0, none⟩) 8 8) 3 1 8 (flat (ic .i64) [8, 24, 28, 29, 30, 30, 31, 32]), .blk g2 102 [.int .u32 0, .int .i64 0, .int .i64 0, .int .i64 0, .int .i64 0], .abs cb (fun w => Cod w cb)] ++ oths cb w)) rfl ?_
        refine TL.end_ ?_
        refine TX.held (fun w1 hw => hw.pick [] (by decide) rfl) ?_
        refine TH.done (by kernel_rfl) ?_
        exact TX.joined (⟨(g5, k21, v25), by dsimp only; omega⟩) (⟨rfl, rfl, rfl, trivial⟩) (fun w1 hw => hw.sel (.cons _ (.cons_cons _ (.cons _ (.cons_cons _ (.cons_cons _ (List.Sublist.refl _)))))))
      · refine TL.prowS (e := 3) (size := 1) (cs := flat (ic .i64) [0, 0, 0, 50, 300]) rfl rfl rfl rfl rfl (fun w => brabs106_5_22075 _ _ _ _ _ w) (by decide) rfl (fun g24 => ?_)
        refine TL.end_ ?_
        refine TX.held (fun w1 hw => hw.pick [] (by decide) rfl) ?_
        refine TH.only' (listed' := #[true, true, true, true, true, true, true, true, true, true, true, false, true, true, false, false, true, false]) 10 rfl (by kernel_rfl) rfl ?_
        refine TL.pcallCod (k := 4) (α := {q9 : Nat // q9 ≤ 65535 ∧ (1 ≤ (4 : Int) → (q9 : Int) < 4)}) (fun q9 => .int .i64 ((q9.1 : Nat) : Int)) (fun q9 => []) rfl rfl rfl rfl rfl Tryz.func21 ddrnm25 ddrbd25 rfl (fun w1 hw hC1 => next_cod cb w1 4 hC1) ?_
        rintro ⟨k21, hk211, hk212⟩
        dsimp only [List.cons_append, List.nil_append]
        refine TL.end_ ?_
        refine TX.held (fun w1 hw => hw.pick [] (by decide) rfl) ?_
        refine TH.take (listed' := #[true, true, true, true, true, true, true, true, true, true, true, true, true, true, false, false, true, false]) 11 rfl (by kernel_rfl) (by kernel_rfl) (by kernel_rfl) rfl rfl rfl rfl (gives_bin rfl rfl rfl (fun w => bin_add_ (r := 1 + ((k21 : Nat) : Int)) (by simp only [IntKind.wrap_i64]; omega) w)) (fun w1 hw => hw.pick [] (by decide) rfl) ?_
        refine TH.only' (listed' := #[true, true, true, true, true, true, true, true, true, true, true, true, true, true, true, false, true, false]) 14 rfl (by kernel_rfl) rfl ?_
        refine TL.pcallCod (k := 4) (α := {v : Int // v ∈ ([0, 0, 0, 50, 300] : List Int)}) (fun x => .int .i64 x.1) (fun x => []) rfl rfl rfl rfl rfl Tryz.func22 ddrnm75 ddrbd75 rfl (fun w1 hw hC1 => pick_cod cb w1 hC1 g24 5 ([0, 0, 0, 50, 300]) (hw.neq (i := 0) (j := 4) rfl rfl (by decide) g24 rfl <| congrArg some ·.symm) (Pc.lt (hw.at_ (k := 0) rfl) g24 rfl).2 (by show 0 < ([0, 0, 0, 50, 300] : List Int).length; simp) (fun i v hi => flat_row1 hw (q := 0) rfl hi)) ?_
        rintro ⟨v25, hv25⟩
        dsimp only [List.cons_append, List.nil_append]
        refine TL.end_ ?_
        refine TX.held (fun w1 hw => hw.pick [] (by decide) rfl) ?_
        refine TH.take (listed' := #[true, true, true, true, true, true, true, true, true, true, true, true, true, true, true, true, true, false]) 15 rfl (by kernel_rfl) (by kernel_rfl) (by kernel_rfl) rfl rfl rfl rfl (gives_build (v := .agg #[.int .u32 (shlF a n), .int .i64 n, .int .i64 (1 + ((k21 : Nat) : Int)), .int .i64 v25, .int .i64 0]) rfl rfl (fun w => brabld102_2016 _ _ _ _ w)) (fun w1 hw => hw.pick [] (by decide) rfl) ?_
        refine TH.only' (listed' := #[true, true, true, true, true, true, true, true, true, true, true, true, true, true, true, true, true, true]) 17 rfl (by kernel_rfl) rfl ?_
        refine TL.pstore (k := 1) (vs := [.int .u32 (shlF a n), .int .i64 n, .int .i64 (1 + ((k21 : Nat) : Int)), .int .i64 v25, .int .i64 0]) rfl rfl rfl rfl rfl rfl rfl bresz102 breone_u32i64i64i64i64 (by show 5 ≤ 5; decide) (L' := ([.row (.slice (some ⟨g24, 0, none⟩) 5 5) 3 1 5 (flat (ic .i64) [0, 0, 0, 50, 300]), .blk g5 102 [.int .u32 (shlF a n), .int .i64 n, .int .i64 (1 + ((k21 : Nat) : Int)), .int .i64 v25, .int .i64 0], .row (.slice (some ⟨g7, 0, none⟩) 8 8) 3 1 8 (flat (ic .i64) [8, 24, 28, 29, 30, 30, 31, 32]), .blk g2 102 [.int .u32 0, .int .i64 0, .int .i64 0, .int .i64 0, .int .i64 0], .abs cb (fun w => Cod w cb)] ++ oths cb w)) rfl ?_
        refine TL.end_ ?_
        refine TX.held (fun w1 hw => hw.pick [] (by decide) rfl) ?_
        refine TH.done (by kernel_rfl) ?_
        exact TX.joined (⟨(g5, k21, v25), by dsimp only; omega⟩) (⟨rfl, rfl, rfl, trivial⟩) (fun w1 hw => hw.sel (.cons _ (.cons_cons _ (.cons _ (.cons_cons _ (.cons_cons _ (List.Sublist.refl _)))))))
  · rintro ⟨⟨g5, pv, fr⟩, hpv⟩
    dsimp only at hpv ⊢
    refine TC.seq_ ?_
    refine TC.held (ls := #[false, false, false, false, false, false, false, false, false, false, false]) (fun _ => True) (by kernel_rfl) rfl rfl (fun w hw => hw.drawn _) ?_
    refine TH.take (listed' := #[true, false, false, false, false, false, false, false, false, false, false]) 0 rfl (by kernel_rfl) (by kernel_rfl) (by kernel_rfl) rfl rfl rfl rfl (gives_move rfl rfl) (fun _ _ => trivial) ?_
    refine TH.take (listed' := #[true, true, false, false, false, false, false, false, false, false, false]) 1 rfl (by kernel_rfl) (by kernel_rfl) (by kernel_rfl) rfl rfl rfl rfl (gives_field (v := .pointer (some ⟨g5, 3, none⟩)) rfl rfl (fun w => brefld102_2 _ _ w)) (fun _ _ => trivial) ?_
    refine TH.take (listed' := #[true, true, false, false, true, false, false, false, false, false, false]) 4 rfl (by kernel_rfl) (by kernel_rfl) (by kernel_rfl) rfl rfl rfl rfl (gives_move rfl rfl) (fun _ _ => trivial) ?_
    refine TH.two' (listed1 := #[true, true, true, false, true, false, false, false, false, false, false]) (listed2 := #[true, true, false, false, true, true, false, false, false, false, false]) 2 5 rfl rfl (by kernel_rfl) rfl rfl ?_ ?_
    · refine TL.val rfl rfl rfl (pm_load (k := 0) (i := 3) rfl rfl pcmag3 rfl rfl) ?_
      refine TL.end_ ?_
      refine TX.held (fun _ _ => trivial) ?_
      refine TH.take (listed' := #[true, true, true, true, true, false, false, false, false, false, false]) 3 rfl (by kernel_rfl) (by kernel_rfl) (by kernel_rfl) rfl rfl rfl rfl (gives_bin rfl rfl rfl (fun w => bin_add_ (r := IntKind.i64.wrap (fr + 1)) (rfl) w)) (fun _ _ => trivial) ?_
      refine TH.only' (listed' := #[true, true, true, true, true, true, false, false, false, false, false]) 5 rfl (by kernel_rfl) rfl ?_
      refine TL.pcallCod (k := 2) (α := {q9 : Nat // q9 ≤ 65535 ∧ (1 ≤ (600 : Int) → (q9 : Int) < 600)}) (fun q9 => .int .i64 ((q9.1 : Nat) : Int)) (fun q9 => []) rfl rfl rfl rfl rfl Tryz.func21 ddrnm25 ddrbd25 rfl (fun w1 hw hC1 => next_cod cb w1 600 hC1) ?_
      rintro ⟨k32, hk321, hk322⟩
      dsimp only [List.cons_append, List.nil_append]
      refine TL.end_ ?_
      refine TX.held (fun _ _ => trivial) ?_
      refine TH.take (listed' := #[true, true, true, true, true, true, true, false, false, false, false]) 6 rfl (by kernel_rfl) (by kernel_rfl) (by kernel_rfl) rfl rfl rfl rfl (gives_bin rfl rfl rfl (fun w => bin_add_ (r := IntKind.i64.wrap (IntKind.i64.wrap (fr + 1) + ((k32 : Nat) : Int))) (rfl) w)) (fun _ _ => trivial) ?_
      refine TH.only' (listed' := #[true, true, true, true, true, true, true, true, false, false, false]) 7 rfl (by kernel_rfl) rfl ?_
      refine TL.prowS (e := 3) (size := 1) (cs := flat (ic .i64) [1125899906842624, 1125899906842624, 1125899906842624, IntKind.i64.wrap (IntKind.i64.wrap (fr + 1) + ((k32 : Nat) : Int))]) rfl rfl rfl rfl rfl (fun w => brabs106_4_78574 _ _ _ _ w) (by decide) rfl (fun g34 => ?_)
      refine TL.end_ ?_
      refine TX.held (fun _ _ => trivial) ?_
      refine TH.only' (listed' := #[true, true, true, true, true, true, true, true, true, false, false]) 8 rfl (by kernel_rfl) rfl ?_
      refine TL.pcallCod (k := 3) (α := {v : Int // v ∈ ([1125899906842624, 1125899906842624, 1125899906842624, IntKind.i64.wrap (IntKind.i64.wrap (fr + 1) + ((k32 : Nat) : Int))] : List Int)}) (fun x => .int .i64 x.1) (fun x => []) rfl rfl rfl rfl rfl Tryz.func22 ddrnm75 ddrbd75 rfl (fun w1 hw hC1 => pick_cod cb w1 hC1 g34 4 ([1125899906842624, 1125899906842624, 1125899906842624, IntKind.i64.wrap (IntKind.i64.wrap (fr + 1) + ((k32 : Nat) : Int))]) (hw.neq (i := 0) (j := 3) rfl rfl (by decide) g34 rfl <| congrArg some ·.symm) (Pc.lt (hw.at_ (k := 0) rfl) g34 rfl).2 (by show 0 < ([1125899906842624, 1125899906842624, 1125899906842624, IntKind.i64.wrap (IntKind.i64.wrap (fr + 1) + ((k32 : Nat) : Int))] : List Int).length; simp) (fun i v hi => flat_row1 hw (q := 0) rfl hi)) ?_
      rintro ⟨to, hto⟩
      dsimp only [List.cons_append, List.nil_append]
      refine TL.end_ ?_
      refine TX.held (fun _ _ => trivial) ?_
      refine TH.take (listed' := #[true, true, true, true, true, true, true, true, true, true, false]) 9 rfl (by kernel_rfl) (by kernel_rfl) (by kernel_rfl) rfl rfl rfl rfl (gives_field (v := .pointer (some ⟨g5, 4, none⟩)) rfl rfl (fun w => brefld102_3 _ _ w)) (fun _ _ => trivial) ?_
      refine TH.only' (listed' := #[true, true, true, true, true, true, true, true, true, true, true]) 10 rfl (by kernel_rfl) rfl ?_
      refine TL.pstore (k := 1) (vs := [.int .i64 to]) rfl rfl rfl rfl rfl rfl rfl pcmsz3 aeaone_i64 (by show 5 ≤ 5; decide) (L' := ([.row (.slice (some ⟨g34, 0, none⟩) 4 4) 3 1 4 (flat (ic .i64) [1125899906842624, 1125899906842624, 1125899906842624, IntKind.i64.wrap (IntKind.i64.wrap (fr + 1) + ((k32 : Nat) : Int))]), .blk g5 102 [.int .u32 (shlF a n), .int .i64 n, .int .i64 (1 + ((pv : Nat) : Int)), .int .i64 fr, .int .i64 to], .blk g2 102 [.int .u32 0, .int .i64 0, .int .i64 0, .int .i64 0, .int .i64 0], .abs cb (fun w => Cod w cb)] ++ oths cb w)) rfl ?_
      refine TL.end_ ?_
      refine TX.held (fun _ _ => trivial) ?_
      refine TH.done (by kernel_rfl) ?_
      refine TX.then_ ?_
      refine TC.seq_ ?_
      refine TC.region ?_
      refine TL.val rfl rfl rfl (pm_loadV (k := 1) (i := 0) (n := 5) (v := .agg #[.int .u32 (shlF a n), .int .i64 n, .int .i64 (1 + ((pv : Nat) : Int)), .int .i64 fr, .int .i64 to]) rfl rfl breag102 bresz102 rfl (by show 5 ≤ 5; decide) rfl) ?_
      refine TL.pstore (k := 2) (vs := [.int .u32 (shlF a n), .int .i64 n, .int .i64 (1 + ((pv : Nat) : Int)), .int .i64 fr, .int .i64 to]) rfl rfl rfl rfl rfl rfl rfl bresz102 breone_u32i64i64i64i64 (by show 5 ≤ 5; decide) (L' := ([.row (.slice (some ⟨g34, 0, none⟩) 4 4) 3 1 4 (flat (ic .i64) [1125899906842624, 1125899906842624, 1125899906842624, IntKind.i64.wrap (IntKind.i64.wrap (fr + 1) + ((k32 : Nat) : Int))]), .blk g5 102 [.int .u32 (shlF a n), .int .i64 n, .int .i64 (1 + ((pv : Nat) : Int)), .int .i64 fr, .int .i64 to], .blk g2 102 [.int .u32 (shlF a n), .int .i64 n, .int .i64 (1 + ((pv : Nat) : Int)), .int .i64 fr, .int .i64 to], .abs cb (fun w => Cod w cb)] ++ oths cb w)) rfl ?_
      refine TL.end_ ?_
      refine TX.then_ ?_
      refine TC.ret_ ?_
      exact pm_ret_cell (k := 2) Tryz.results65 rfl rfl Tryz.underlying102 rfl rfl (fun w1 hw => ⟨⟨⟨shlF a n, n, 1 + ((pv : Nat) : Int), fr, to⟩, EnG.mk_ (by omega) hn hpv⟩, rfl, Pm.codr [] (hw.sel (.cons _ (.cons _ (.cons _ (.cons_cons _ (List.Sublist.refl _)))))) rfl⟩)
    · refine TL.pcallCod (k := 2) (α := {q9 : Nat // q9 ≤ 65535 ∧ (1 ≤ (600 : Int) → (q9 : Int) < 600)}) (fun q9 => .int .i64 ((q9.1 : Nat) : Int)) (fun q9 => []) rfl rfl rfl rfl rfl Tryz.func21 ddrnm25 ddrbd25 rfl (fun w1 hw hC1 => next_cod cb w1 600 hC1) ?_
      rintro ⟨k32, hk321, hk322⟩
      dsimp only [List.cons_append, List.nil_append]
      refine TL.end_ ?_
      refine TX.held (fun _ _ => trivial) ?_
      refine TH.only' (listed' := #[true, true, true, false, true, true, false, false, false, false, false]) 2 rfl (by kernel_rfl) rfl ?_
      refine TL.val rfl rfl rfl (pm_load (k := 0) (i := 3) rfl rfl pcmag3 rfl rfl) ?_
      refine TL.end_ ?_
      refine TX.held (fun _ _ => trivial) ?_
      refine TH.take (listed' := #[true, true, true, true, true, true, false, false, false, false, false]) 3 rfl (by kernel_rfl) (by kernel_rfl) (by kernel_rfl) rfl rfl rfl rfl (gives_bin rfl rfl rfl (fun w => bin_add_ (r := IntKind.i64.wrap (fr + 1)) (rfl) w)) (fun _ _ => trivial) ?_
      refine TH.take (listed' := #[true, true, true, true, true, true, true, false, false, false, false]) 6 rfl (by kernel_rfl) (by kernel_rfl) (by kernel_rfl) rfl rfl rfl rfl (gives_bin rfl rfl rfl (fun w => bin_add_ (r := IntKind.i64.wrap (IntKind.i64.wrap (fr + 1) + ((k32 : Nat) : Int))) (rfl) w)) (fun _ _ => trivial) ?_
      refine TH.only' (listed' := #[true, true, true, true, true, true, true, true, false, false, false]) 7 rfl (by kernel_rfl) rfl ?_
      refine TL.prowS (e := 3) (size := 1) (cs := flat (ic .i64) [1125899906842624, 1125899906842624, 1125899906842624, IntKind.i64.wrap (IntKind.i64.wrap (fr + 1) + ((k32 : Nat) : Int))]) rfl rfl rfl rfl rfl (fun w => brabs106_4_78574 _ _ _ _ w) (by decide) rfl (fun g34 => ?_)
      refine TL.end_ ?_
      refine TX.held (fun _ _ => trivial) ?_
      refine TH.only' (listed' := #[true, true, true, true, true, true, true, true, true, false, false]) 8 rfl (by kernel_rfl) rfl ?_
      refine TL.pcallCod (k := 3) (α := {v : Int // v ∈ ([1125899906842624, 1125899906842624, 1125899906842624, IntKind.i64.wrap (IntKind.i64.wrap (fr + 1) + ((k32 : Nat) : Int))] : List Int)}) (fun x => .int .i64 x.1) (fun x => []) rfl rfl rfl rfl rfl Tryz.func22 ddrnm75 ddrbd75 rfl (fun w1 hw hC1 => pick_cod cb w1 hC1 g34 4 ([1125899906842624, 1125899906842624, 1125899906842624, IntKind.i64.wrap (IntKind.i64.wrap (fr + 1) + ((k32 : Nat) : Int))]) (hw.neq (i := 0) (j := 3) rfl rfl (by decide) g34 rfl <| congrArg some ·.symm) (Pc.lt (hw.at_ (k := 0) rfl) g34 rfl).2 (by show 0 < ([1125899906842624, 1125899906842624, 1125899906842624, IntKind.i64.wrap (IntKind.i64.wrap (fr + 1) + ((k32 : Nat) : Int))] : List Int).length; simp) (fun i v hi => flat_row1 hw (q := 0) rfl hi)) ?_
      rintro ⟨to, hto⟩
      dsimp only [List.cons_append, List.nil_append]
      refine TL.end_ ?_
      refine TX.held (fun _ _ => trivial) ?_
      refine TH.take (listed' := #[true, true, true, true, true, true, true, true, true, true, false]) 9 rfl (by kernel_rfl) (by kernel_rfl) (by kernel_rfl) rfl rfl rfl rfl (gives_field (v := .pointer (some ⟨g5, 4, none⟩)) rfl rfl (fun w => brefld102_3 _ _ w)) (fun _ _ => trivial) ?_
      refine TH.only' (listed' := #[true, true, true, true, true, true, true, true, true, true, true]) 10 rfl (by kernel_rfl) rfl ?_
      refine TL.pstore (k := 1) (vs := [.int .i64 to]) rfl rfl rfl rfl rfl rfl rfl pcmsz3 aeaone_i64 (by show 5 ≤ 5; decide) (L' := ([.row (.slice (some ⟨g34, 0, none⟩) 4 4) 3 1 4 (flat (ic .i64) [1125899906842624, 1125899906842624, 1125899906842624, IntKind.i64.wrap (IntKind.i64.wrap (fr + 1) + ((k32 : Nat) : Int))]), .blk g5 102 [.int .u32 (shlF a n), .int .i64 n, .int .i64 (1 + ((pv : Nat) : Int)), .int .i64 fr, .int .i64 to], .blk g2 102 [.int .u32 0, .int .i64 0, .int .i64 0, .int .i64 0, .int .i64 0], .abs cb (fun w => Cod w cb)] ++ oths cb w)) rfl ?_
      refine TL.end_ ?_
      refine TX.held (fun _ _ => trivial) ?_
      refine TH.done (by kernel_rfl) ?_
      refine TX.then_ ?_
      refine TC.seq_ ?_
      refine TC.region ?_
      refine TL.val rfl rfl rfl (pm_loadV (k := 1) (i := 0) (n := 5) (v := .agg #[.int .u32 (shlF a n), .int .i64 n, .int .i64 (1 + ((pv : Nat) : Int)), .int .i64 fr, .int .i64 to]) rfl rfl breag102 bresz102 rfl (by show 5 ≤ 5; decide) rfl) ?_
      refine TL.pstore (k := 2) (vs := [.int .u32 (shlF a n), .int .i64 n, .int .i64 (1 + ((pv : Nat) : Int)), .int .i64 fr, .int .i64 to]) rfl rfl rfl rfl rfl rfl rfl bresz102 breone_u32i64i64i64i64 (by show 5 ≤ 5; decide) (L' := ([.row (.slice (some ⟨g34, 0, none⟩) 4 4) 3 1 4 (flat (ic .i64) [1125899906842624, 1125899906842624, 1125899906842624, IntKind.i64.wrap (IntKind.i64.wrap (fr + 1) + ((k32 : Nat) : Int))]), .blk g5 102 [.int .u32 (shlF a n), .int .i64 n, .int .i64 (1 + ((pv : Nat) : Int)), .int .i64 fr, .int .i64 to], .blk g2 102 [.int .u32 (shlF a n), .int .i64 n, .int .i64 (1 + ((pv : Nat) : Int)), .int .i64 fr, .int .i64 to], .abs cb (fun w => Cod w cb)] ++ oths cb w)) rfl ?_
      refine TL.end_ ?_
      refine TX.then_ ?_
      refine TC.ret_ ?_
      exact pm_ret_cell (k := 2) Tryz.results65 rfl rfl Tryz.underlying102 rfl rfl (fun w1 hw => ⟨⟨⟨shlF a n, n, 1 + ((pv : Nat) : Int), fr, to⟩, EnG.mk_ (by omega) hn hpv⟩, rfl, Pm.codr [] (hw.sel (.cons _ (.cons _ (.cons _ (.cons_cons _ (List.Sublist.refl _)))))) rfl⟩)
end Go.Proofs.YtijmpjfafpodhaaGreat

namespace Go.Proofs.YtijmpjfafpodhaaGreat
open Go.RowKit
set_option maxRecDepth 20000
def CmpE (x y : En) (z : Int) : Prop := (z < 0 → cmpP x.addr x.len y.addr y.len < 0 ∨ (cmpP x.addr x.len y.addr y.len = 0 ∧ x.frm ≤ y.frm)) ∧ (0 ≤ z → 0 < cmpP x.addr x.len y.addr y.len ∨ (cmpP x.addr x.len y.addr y.len = 0 ∧ y.frm ≤ x.frm))
def OvE (b x : En) : Prop := cmpP b.addr b.len x.addr x.len = 0 ∧ b.frm < x.to_ ∧ x.frm < b.to_
def LtE (b x : En) : Prop := cmpP b.addr b.len x.addr x.len < 0 ∨ (cmpP b.addr b.len x.addr x.len = 0 ∧ b.frm ≤ x.frm)
def GeE (b x : En) : Prop := 0 < cmpP b.addr b.len x.addr x.len ∨ (cmpP b.addr b.len x.addr x.len = 0 ∧ x.frm ≤ b.frm)
def AddK (es : List En) (x : En) (i k : Nat) : Prop := (k = 0 ∨ ∃ b, es[k - 1]? = some b ∧ LtE b x) ∧ (∀ j, k ≤ j → j < i → ∀ z, es[j]? = some z → GeE z x) ∧ ∀ j, j < i → ∀ z, es[j]? = some z → ¬ OvE z x
theorem AddK.start (es : List En) (x : En) : AddK es x 0 0 := ⟨.inl rfl, fun j _ h => absurd h (Nat.not_lt_zero _), fun j h => absurd h (Nat.not_lt_zero _)⟩
theorem AddK.step_ge {es : List En} {x z : En} {i k : Nat} (h : AddK es x i k) (hz : es[i]? = some z) (hk : k ≤ i) (hg : k ≤ i → GeE z x) (ho : ¬ OvE z x) : AddK es x (i + 1) k := by
  refine ⟨h.1, fun j h1 h2 y hy => ?_, fun j h2 y hy => ?_⟩
  · by_cases e : j = i
    · subst e; rw [hz] at hy; injection hy with hy; rw [← hy]; exact hg hk
    · exact h.2.1 j h1 (by omega) y hy
  · by_cases e : j = i
    · subst e; rw [hz] at hy; injection hy with hy; rw [← hy]; exact ho
    · exact h.2.2 j (by omega) y hy
theorem AddK.step_lt {es : List En} {x z : En} {i k : Nat} (h : AddK es x i k) (hz : es[i]? = some z) (hl : LtE z x) (ho : ¬ OvE z x) : AddK es x (i + 1) (i + 1) := by
  refine ⟨.inr ⟨z, by rw [Nat.add_sub_cancel]; exact hz, hl⟩, fun j h1 h2 => absurd h1 (by omega), fun j h2 y hy => ?_⟩
  by_cases e : j = i
  · subst e; rw [hz] at hy; injection hy with hy; rw [← hy]; exact ho
  · exact h.2.2 j (by omega) y hy
theorem cmpI_flip (a b : Int) : cmpI b a = - cmpI a b := by unfold cmpI; split <;> split <;> (try split) <;> omega
theorem cmpP_neg (a n b m : Int) : cmpP b m a n = - cmpP a n b m := by
  unfold cmpP
  rw [cmpI_flip a b, cmpI_flip n m]
  split <;> split <;> omega
theorem validR_at {es : List En} (h : validR es = true) {j : Nat} {z : En} (hz : es[j]? = some z) : validE z = true ∧ (j = 0 ∨ ∀ b, es[j - 1]? = some b → badP b z = false) := by
  simp only [validR, Bool.and_eq_true, decide_eq_true_eq, List.all_eq_true, List.mem_range] at h
  have h2 := h.2 j (List.getElem?_eq_some_iff.1 hz).1
  unfold okAt at h2
  rw [hz] at h2
  simp only [Bool.and_eq_true, Bool.or_eq_true, decide_eq_true_eq] at h2
  refine ⟨h2.1, h2.2.imp id fun h3 b hb => ?_⟩
  rw [hb] at h3
  simpa using h3
theorem okAt_of {es : List En} {j : Nat} {z : En} (hz : es[j]? = some z) (hv : validE z = true) (h : j = 0 ∨ ∀ b, es[j - 1]? = some b → badP b z = false) : okAt es j = true := by
  unfold okAt
  rw [hz]
  simp only [hv, Bool.true_and, Bool.or_eq_true, decide_eq_true_eq]
  rcases h with h | h
  · exact .inl h
  · right
    cases hb : es[j - 1]? with
    | none => rfl
    | some b => simp [h b hb]
theorem ins_valid {es : List En} {x : En} {k : Nat} (hv : validR es = true) (hx : validE x = true) (hl : es.length < 1024) (hb : k = 0 ∨ ∃ b, es[k - 1]? = some b ∧ LtE b x) (ha : ∀ z : En, es[k]? = some z → GeE z x) (ho : ∀ (j : Nat) (z : En), es[j]? = some z → ¬ OvE z x) : validR (es.take k ++ [x] ++ es.drop k) = true := by
  have hk : k ≤ es.length := by
    rcases hb with h | ⟨b, h, _⟩
    · omega
    · have := (List.getElem?_eq_some_iff.1 h).1; omega
  have hlen : (es.take k ++ [x] ++ es.drop k).length = es.length + 1 := by simp only [List.length_append, List.length_take, List.length_drop, List.length_cons, List.length_nil]; omega
  have htk : (es.take k).length = k := by rw [List.length_take]; omega
  have g1 : ∀ j, j < k → (es.take k ++ [x] ++ es.drop k)[j]? = es[j]? := fun j hj => by
    rw [List.append_assoc, List.getElem?_append_left (by omega), List.getElem?_take_of_lt hj]
  have g2 : (es.take k ++ [x] ++ es.drop k)[k]? = some x := by
    rw [List.append_assoc, List.getElem?_append_right (by omega), htk, Nat.sub_self]; rfl
  have g3 : ∀ j, k ≤ j → (es.take k ++ [x] ++ es.drop k)[j + 1]? = es[j]? := fun j hj => by
    rw [List.getElem?_append_right (by rw [List.length_append, htk]; show k + 1 ≤ _; omega), List.length_append, htk, List.getElem?_drop]
    congr 1; show k + (j + 1 - (k + 1)) = j; omega
  refine validR_true (by omega) fun j hj => ?_
  have hxf : x.frm < x.to_ := by unfold validE at hx; simp only [Bool.and_eq_true, decide_eq_true_eq] at hx; omega
  rcases Nat.lt_trichotomy j k with h | h | h
  · obtain ⟨z, hz⟩ : ∃ z, es[j]? = some z := ⟨_, List.getElem?_eq_getElem (by omega)⟩
    obtain ⟨a1, a2⟩ := validR_at hv hz
    exact okAt_of (by rw [g1 j h]; exact hz) a1 (by rw [g1 (j - 1) (by omega)]; exact a2)
  · subst h
    refine okAt_of g2 hx ?_
    rcases hb with h | ⟨b, h, h1⟩
    · exact .inl h
    · by_cases h0 : j = 0
      · exact .inl h0
      · refine .inr fun c hc => ?_
        rw [g1 (j - 1) (by omega), h] at hc
        injection hc with hc
        rw [← hc]
        have h2 := ho _ _ h
        unfold OvE at h2
        unfold LtE at h1
        unfold badP
        rw [Bool.or_eq_false_iff, Bool.and_eq_false_iff, decide_eq_false_iff_not, decide_eq_false_iff_not, decide_eq_false_iff_not]
        rcases h1 with h1 | h1
        · exact ⟨by omega, .inl (by omega)⟩
        · refine ⟨by omega, .inr fun h4 => h2 ⟨h1.1, by omega, h4⟩⟩
  · obtain ⟨q, rfl⟩ : ∃ q, j = q + 1 := ⟨j - 1, by omega⟩
    obtain ⟨z, hz⟩ : ∃ z, es[q]? = some z := ⟨_, List.getElem?_eq_getElem (by omega)⟩
    obtain ⟨a1, a2⟩ := validR_at hv hz
    refine okAt_of (by rw [g3 q (by omega)]; exact hz) a1 (.inr ?_)
    rw [Nat.add_sub_cancel]
    by_cases e : q = k
    · subst e
      intro c hc
      rw [g2] at hc
      injection hc with hc
      rw [← hc]
      have h1 := ha z hz
      have h2 := ho _ _ hz
      have hzf : z.frm < z.to_ := by have a3 := a1; unfold validE at a3; simp only [Bool.and_eq_true, decide_eq_true_eq] at a3; omega
      have hng := cmpP_neg z.addr z.len x.addr x.len
      unfold OvE at h2
      unfold GeE at h1
      unfold badP
      rw [Bool.or_eq_false_iff, Bool.and_eq_false_iff, decide_eq_false_iff_not, decide_eq_false_iff_not, decide_eq_false_iff_not]
      rcases h1 with h1 | h1
      · exact ⟨by omega, .inl (by omega)⟩
      · refine ⟨by omega, .inr fun h4 => ?_⟩
        exact h2 ⟨h1.1, h4, by omega⟩
    · obtain ⟨p, rfl⟩ : ∃ p, q = p + 1 := ⟨q - 1, by omega⟩
      rw [g3 p (by omega)]
      rcases a2 with a2 | a2
      · omega
      · rw [Nat.add_sub_cancel] at a2; exact a2
theorem brxbld183_19252 (a0_0 : Int) (a0_1 : Int) (a1_0 : Int) (a1_1 : Int) (a2_0 : Int) (a2_1 : Int) (w : World) : (Instr.build 183 #[(0, .agg #[.int .i64 a0_0, .int .i64 a0_1]), (1, .agg #[.int .i64 a1_0, .int .i64 a1_1]), (2, .agg #[.int .i64 a2_0, .int .i64 a2_1])]).run Tryz.prog w = .ok (.agg #[.int .i64 a0_0, .int .i64 a0_1, .int .i64 a1_0, .int .i64 a1_1, .int .i64 a2_0, .int .i64 a2_1]) w := by kernel_rfl
theorem brxone_i64i64 {a0 : Int} {a1 : Int} : ∀ u ∈ [(.int .i64 a0 : Value), .int .i64 a1], u.oneCell' = true := by
  intro u hu
  simp only [List.mem_cons, List.not_mem_nil, or_false] at hu
  rcases hu with rfl | rfl <;> rfl
theorem brxzv26 (w : World) : (zeroValue 26).run Tryz.prog w = .ok (.agg #[.slice none 0 0]) w := rfl
theorem brxnm85 : (Tryz.f85.name == "runtime.NumGoroutine") = false := by decide
theorem brxbd85 : Tryz.f85.body.isNone = false := rfl
theorem brxnm115 : (Tryz.f115.name == "runtime.NumGoroutine") = false := by decide
theorem brxbd115 : Tryz.f115.body.isNone = false := rfl
theorem brxel24 : Elem Tryz.prog 24 102 5 40 := Elem.mk' Tryz.underlying24 (z := .agg #[.int .u32 0, .int .i64 0, .int .i64 0, .int .i64 0, .int .i64 0]) (by kernel_rfl) rfl (by omega) (by omega)
theorem brxbs24_1_22095 (a0_0 : Int) (a0_1 : Int) (a0_2 : Int) (a0_3 : Int) (a0_4 : Int) (w : World) : (Instr.buildSlice 24 1 #[(0, .agg #[.int .u32 a0_0, .int .i64 a0_1, .int .i64 a0_2, .int .i64 a0_3, .int .i64 a0_4])]).run Tryz.prog w = .ok (.slice (some ⟨w.heap.size, 0, none⟩) 1 1) (w.alloc (.cells [.int .u32 a0_0, .int .i64 a0_1, .int .i64 a0_2, .int .i64 a0_3, .int .i64 a0_4].toArray 102)) := by kernel_rfl
theorem brxbld26_67803 (a0_0 : Option Addr) (a0_0n a0_0c : Nat) (w : World) : (Instr.build 26 #[(0, .slice a0_0 a0_0n a0_0c)]).run Tryz.prog w = .ok (.agg #[.slice a0_0 a0_0n a0_0c]) w := by kernel_rfl
theorem brxnm65 : (Tryz.f65.name == "runtime.NumGoroutine") = false := by decide
theorem brxbd65 : Tryz.f65.body.isNone = false := rfl
theorem brxnm64 : (Tryz.f64.name == "runtime.NumGoroutine") = false := by decide
theorem brxbd64 : Tryz.f64.body.isNone = false := rfl
set_option maxHeartbeats 1000000 in
theorem rcmpX_any (x y : En) (hx : x.Ok) (hy : y.Ok) (w : World) :
    Calls Tryz.prog 115 #[.agg x.cells.toArray, .agg y.cells.toArray] w fun e w' => ∃ z : {z : Int // CmpE x y z}, e = .returned (.int .i64 z.1) ∧ Below w.heap.size w w' := by
  refine begin_ (vs := [.agg x.cells.toArray, .agg y.cells.toArray]) Tryz.func115 rfl rfl rfl ?_ (Pm.start w)
  refine TC.seq_ ?_
  refine TC.region ?_
  refine TL.pnew rfl rfl rfl (exec_box (cs := x.cells) rfl rfl rfl) (fun g2 => ?_)
  refine TL.pnew rfl rfl rfl (exec_box (cs := y.cells) rfl rfl rfl) (fun g3 => ?_)
  refine TL.val rfl rfl rfl (gives_assign rfl rfl) ?_
  refine TL.end_ ?_
  refine TX.then_ ?_
  refine TC.seq_ ?_
  refine TC.seq_ ?_
  refine TC.region ?_
  refine TL.val rfl rfl rfl (gives_field (v := .pointer (some ⟨g2, 0, none⟩)) rfl rfl (fun w => brefld102_0 _ _ w)) ?_
  refine TL.val rfl rfl rfl (pm_loadV (k := 1) (i := 0) (n := 2) (v := .agg #[.int .u32 x.addr, .int .i64 x.len]) rfl rfl badag100 badsz100 rfl (by show 2 ≤ 5; decide) rfl) ?_
  refine TL.val rfl rfl rfl (gives_field (v := .pointer (some ⟨g3, 0, none⟩)) rfl rfl (fun w => brefld102_0 _ _ w)) ?_
  refine TL.val rfl rfl rfl (pm_loadV (k := 0) (i := 0) (n := 2) (v := .agg #[.int .u32 y.addr, .int .i64 y.len]) rfl rfl badag100 badsz100 rfl (by show 2 ≤ 5; decide) rfl) ?_
  refine TL.pcall1 (r := .int .i64 (cmpP x.addr x.len y.addr y.len)) rfl rfl rfl rfl rfl Tryz.func114 brrnm114 brrbd114 (fun w1 hw => rcmpP_any x.addr x.len y.addr y.len hx hy w1) ?_
  refine TL.val rfl rfl rfl (gives_assign rfl rfl) ?_
  refine TL.end_ ?_
  refine TX.then_ ?_
  refine TC.seq_ ?_
  refine TC.region ?_
  refine TL.val rfl rfl rfl (gives_move rfl rfl) ?_
  refine TL.vsplit rfl rfl rfl (gives_bin rfl rfl rfl (fun w => bin_neq w)) (fun h14 => ?_) (fun h14 => ?_)
  · have q14 := of_decide_eq_true h14
    refine TL.end_ ?_
    refine TX.then_ ?_
    refine TC.condT rfl ?_
    refine TC.seq_ ?_
    refine TC.region ?_
    refine TL.val rfl rfl rfl (gives_move rfl rfl) ?_
    refine TL.val rfl rfl rfl (gives_assign rfl rfl) ?_
    refine TL.end_ ?_
    refine TX.then_ ?_
    refine TC.ret_ ?_
    refine TX.then_ret ?_
    exact ret_tmp Tryz.results115 rfl (fun w1 hw => ⟨⟨cmpP x.addr x.len y.addr y.len, ⟨fun h => .inl h, fun h => .inl (by omega)⟩⟩, rfl, hw.bel⟩)
  · have q14 := of_decide_eq_false h14
    refine TL.end_ ?_
    refine TX.then_ ?_
    refine TC.condF rfl ?_
    refine TC.skip_ ?_
    refine TX.then_ ?_
    refine TC.seq_ ?_
    refine TC.seq_ ?_
    refine TC.region ?_
    refine TL.val rfl rfl rfl (gives_field (v := .pointer (some ⟨g2, 3, none⟩)) rfl rfl (fun w => brefld102_2 _ _ w)) ?_
    refine TL.val rfl rfl rfl (pm_load (k := 1) (i := 3) rfl rfl pcmag3 rfl rfl) ?_
    refine TL.val rfl rfl rfl (gives_field (v := .pointer (some ⟨g3, 3, none⟩)) rfl rfl (fun w => brefld102_2 _ _ w)) ?_
    refine TL.val rfl rfl rfl (pm_load (k := 0) (i := 3) rfl rfl pcmag3 rfl rfl) ?_
    refine TL.val rfl rfl rfl (gives_build (v := .agg #[.int .i64 x.frm, .int .i64 y.frm]) rfl rfl (fun w => prsbld120_29156 _ _ w)) ?_
    refine TL.val rfl rfl rfl (gives_field (v := .pointer (some ⟨g2, 4, none⟩)) rfl rfl (fun w => brefld102_3 _ _ w)) ?_
    refine TL.val rfl rfl rfl (pm_load (k := 1) (i := 4) rfl rfl pcmag3 rfl rfl) ?_
    refine TL.val rfl rfl rfl (gives_field (v := .pointer (some ⟨g3, 4, none⟩)) rfl rfl (fun w => brefld102_3 _ _ w)) ?_
    refine TL.val rfl rfl rfl (pm_load (k := 0) (i := 4) rfl rfl pcmag3 rfl rfl) ?_
    refine TL.val rfl rfl rfl (gives_build (v := .agg #[.int .i64 x.to_, .int .i64 y.to_]) rfl rfl (fun w => prsbld120_29156 _ _ w)) ?_
    refine TL.val rfl rfl rfl (gives_field (v := .pointer (some ⟨g2, 2, none⟩)) rfl rfl (fun w => brefld102_1 _ _ w)) ?_
    refine TL.val rfl rfl rfl (pm_load (k := 1) (i := 2) rfl rfl pcmag3 rfl rfl) ?_
    refine TL.val rfl rfl rfl (gives_field (v := .pointer (some ⟨g3, 2, none⟩)) rfl rfl (fun w => brefld102_1 _ _ w)) ?_
    refine TL.val rfl rfl rfl (pm_load (k := 0) (i := 2) rfl rfl pcmag3 rfl rfl) ?_
    refine TL.val rfl rfl rfl (gives_build (v := .agg #[.int .i64 x.prov, .int .i64 y.prov]) rfl rfl (fun w => prsbld120_29156 _ _ w)) ?_
    refine TL.val rfl rfl rfl (gives_build (v := .agg #[.int .i64 x.frm, .int .i64 y.frm, .int .i64 x.to_, .int .i64 y.to_, .int .i64 x.prov, .int .i64 y.prov]) rfl rfl (fun w => brxbld183_19252 _ _ _ _ _ _ w)) ?_
    refine TL.val rfl rfl rfl (gives_move rfl rfl) ?_
    refine TL.end_ ?_
    refine TX.then_ ?_
    refine TC.block ?_
    refine TC.loop_ (α := {i : Nat // i ≤ 3 ∧ (0 < i → x.frm = y.frm)}) (fun z => [(31, .agg #[.int .i64 x.frm, .int .i64 y.frm, .int .i64 x.to_, .int .i64 y.to_, .int .i64 x.prov, .int .i64 y.prov]), (32, .int .i64 ((z.1 : Nat) : Int))]) (fun z => Pm w [.blk g3 102 y.cells, .blk g2 102 x.cells]) (fun z => 3 - z.1) (⟨0, Nat.zero_le _, fun h => absurd h (by decide)⟩) ⟨rfl, rfl, trivial⟩ (fun w1 hw => hw) ?_
    rintro ⟨i, hi, hfr⟩
    try dsimp only at hi hfr ⊢
    refine TC.seq_ ?_
    refine TC.region ?_
    refine TL.vsplit rfl rfl rfl (gives_bin rfl rfl rfl (fun w => bin_lss w)) (fun h33 => ?_) (fun h33 => ?_)
    · have q33 := of_decide_eq_true h33
      have hi2 : i < 3 := by omega
      obtain ⟨p, q, hp0, hpq⟩ : ∃ p q : Int, (i = 0 → p = x.frm ∧ q = y.frm) ∧ ∀ w : World, (Instr.index 183 (.agg #[.int .i64 x.frm, .int .i64 y.frm, .int .i64 x.to_, .int .i64 y.to_, .int .i64 x.prov, .int .i64 y.prov]) (.int .i64 ((i : Nat) : Int))).run Tryz.prog w = .ok (.agg #[.int .i64 p, .int .i64 q]) w := by
        have h3 : i = 0 ∨ i = 1 ∨ i = 2 := by omega
        rcases h3 with rfl | rfl | rfl
        · exact ⟨x.frm, y.frm, fun _ => ⟨rfl, rfl⟩, fun w => by kernel_rfl⟩
        · exact ⟨x.to_, y.to_, fun h => absurd h (by decide), fun w => by kernel_rfl⟩
        · exact ⟨x.prov, y.prov, fun h => absurd h (by decide), fun w => by kernel_rfl⟩
      refine TL.end_ ?_
      refine TX.then_ ?_
      refine TC.seq_ ?_
      refine TC.condT rfl ?_
      refine TC.skip_ ?_
      refine TX.then_ ?_
      refine TC.seq_ ?_
      refine TC.block ?_
      refine TC.seq_ ?_
      refine TC.region ?_
      refine TL.val rfl rfl rfl (gives_index (v := .agg #[.int .i64 p, .int .i64 q]) rfl rfl rfl hpq) ?_
      refine TL.pnew rfl rfl rfl (exec_alloc (cs := [.int .i64 0, .int .i64 0]) rfl prszv120 rfl) (fun g7 => ?_)
      refine TL.pstore (k := 0) (vs := [.int .i64 p, .int .i64 q]) rfl rfl rfl rfl rfl rfl rfl prssz120 brxone_i64i64 (by show 2 ≤ 2; decide) (L' := [.blk g7 120 [.int .i64 p, .int .i64 q], .blk g3 102 y.cells, .blk g2 102 x.cells]) rfl ?_
      refine TL.end_ ?_
      refine TX.then_ ?_
      refine TC.seq_ ?_
      refine TC.seq_ ?_
      refine TC.region ?_
      refine TL.val rfl rfl rfl (gives_at (v := .pointer (some ⟨g7, 0, none⟩)) rfl rfl rfl (fun w => at_arr Tryz.underlying120 pcmsz3 g7 0 _ 0 (by decide) w)) ?_
      refine TL.val rfl rfl rfl (pm_load (k := 0) (i := 0) rfl rfl pcmag3 rfl rfl) ?_
      refine TL.val rfl rfl rfl (gives_at (v := .pointer (some ⟨g7, 1, none⟩)) rfl rfl rfl (fun w => at_arr Tryz.underlying120 pcmsz3 g7 0 _ 1 (by decide) w)) ?_
      refine TL.val rfl rfl rfl (pm_load (k := 0) (i := 1) rfl rfl pcmag3 rfl rfl) ?_
      refine TL.vsplit rfl rfl rfl (gives_bin rfl rfl rfl (fun w => bin_lss w)) (fun h39 => ?_) (fun h39 => ?_)
      · have q39 := of_decide_eq_true h39
        refine TL.end_ ?_
        refine TX.then_ ?_
        refine TC.condT rfl ?_
        refine TC.seq_ ?_
        refine TC.region ?_
        refine TL.val rfl rfl rfl (gives_assign rfl rfl) ?_
        refine TL.end_ ?_
        refine TX.then_ ?_
        refine TC.ret_ ?_
        refine TX.then_ret ?_
        refine TX.in_ret ?_
        refine TX.then_ret ?_
        refine TX.then_ret ?_
        refine TX.in_ret ?_
        refine TX.then_ret ?_
        exact ret_tmp Tryz.results115 rfl (fun w1 hw => ⟨⟨-1, ⟨fun _ => .inr ⟨by omega, by by_cases h0 : i = 0; (have := hp0 h0; omega); (have := hfr (by omega); omega)⟩, fun h => absurd h (by decide)⟩⟩, rfl, hw.bel⟩)
      · have q39 := of_decide_eq_false h39
        refine TL.end_ ?_
        refine TX.then_ ?_
        refine TC.condF rfl ?_
        refine TC.skip_ ?_
        refine TX.then_ ?_
        refine TC.seq_ ?_
        refine TC.region ?_
        refine TL.val rfl rfl rfl (gives_at (v := .pointer (some ⟨g7, 0, none⟩)) rfl rfl rfl (fun w => at_arr Tryz.underlying120 pcmsz3 g7 0 _ 0 (by decide) w)) ?_
        refine TL.val rfl rfl rfl (pm_load (k := 0) (i := 0) rfl rfl pcmag3 rfl rfl) ?_
        refine TL.val rfl rfl rfl (gives_at (v := .pointer (some ⟨g7, 1, none⟩)) rfl rfl rfl (fun w => at_arr Tryz.underlying120 pcmsz3 g7 0 _ 1 (by decide) w)) ?_
        refine TL.val rfl rfl rfl (pm_load (k := 0) (i := 1) rfl rfl pcmag3 rfl rfl) ?_
        refine TL.vsplit rfl rfl rfl (gives_bin rfl rfl rfl (fun w => bin_gtr w)) (fun h44 => ?_) (fun h44 => ?_)
        · have q44 := of_decide_eq_true h44
          refine TL.end_ ?_
          refine TX.then_ ?_
          refine TC.condT rfl ?_
          refine TC.seq_ ?_
          refine TC.region ?_
          refine TL.val rfl rfl rfl (gives_assign rfl rfl) ?_
          refine TL.end_ ?_
          refine TX.then_ ?_
          refine TC.ret_ ?_
          refine TX.in_ret ?_
          refine TX.then_ret ?_
          refine TX.then_ret ?_
          refine TX.in_ret ?_
          refine TX.then_ret ?_
          exact ret_tmp Tryz.results115 rfl (fun w1 hw => ⟨⟨1, ⟨fun h => absurd h (by decide), fun _ => .inr ⟨by omega, by by_cases h0 : i = 0; (have := hp0 h0; omega); (have := hfr (by omega); omega)⟩⟩⟩, rfl, hw.bel⟩)
        · have q44 := of_decide_eq_false h44
          have hfr2 : x.frm = y.frm := by by_cases h0 : i = 0; (have := hp0 h0; omega); exact hfr (by omega)
          refine TL.end_ ?_
          refine TX.then_ ?_
          refine TC.condF rfl ?_
          refine TC.skip_ ?_
          refine TX.in_normal ?_
          refine TX.then_ ?_
          refine TC.region ?_
          refine TL.val rfl rfl rfl (gives_bin rfl rfl rfl (fun w => bin_add_ (r := ((i + 1 : Nat) : Int)) (by simp only [IntKind.wrap_i64]; omega) w)) ?_
          refine TL.val rfl rfl rfl (gives_move rfl rfl) ?_
          refine TL.end_ ?_
          exact TX.round (⟨i + 1, by omega, fun _ => hfr2⟩) (by show 3 - (i + 1) < 3 - i; omega) ⟨rfl, rfl, trivial⟩ (fun w1 hw => hw.pick [1, 2] (by decide) rfl)
    · have q33 := of_decide_eq_false h33
      refine TL.end_ ?_
      refine TX.then_ ?_
      refine TC.seq_ ?_
      refine TC.condF rfl ?_
      refine TC.exit_ ?_
      refine TX.then_exit ?_
      refine TX.then_exit ?_
      refine TX.in_same ?_
      refine TX.then_ ?_
      refine TC.seq_ ?_
      refine TC.region ?_
      refine TL.val rfl rfl rfl (gives_assign rfl rfl) ?_
      refine TL.end_ ?_
      refine TX.then_ ?_
      refine TC.ret_ ?_
      exact ret_tmp Tryz.results115 rfl (fun w1 hw => ⟨⟨0, ⟨fun h => absurd h (by decide), fun _ => .inr ⟨by omega, by have := hfr (by omega); omega⟩⟩⟩, rfl, hw.bel⟩)
set_option maxHeartbeats 1000000 in
theorem raddX_any (A0 : Option Addr) (c0 : Nat) (es : List En) (x : En) (hx : x.Ok) (w : World) (hr : Reads w w.heap.size 5 A0 es.length (flat En.cells es)) (hl1 : es.length ≤ 10000) (hlc : es.length ≤ c0) (hok : ∀ z ∈ es, z.Ok) :
    Calls Tryz.prog 64 #[.agg #[.slice A0 es.length c0], .agg x.cells.toArray] w fun e w' => ∃ y : {y : (Option Addr × Nat) × List En × Int // (y.2.2 = 0 → (∀ z ∈ y.2.1, z ∈ es ∨ z = x) ∧ validR y.2.1 = true) ∧ y.2.1.length ≤ es.length + 1 ∧ y.2.1.length ≤ y.1.2 ∧ y.1.2 ≤ maxLen}, e = .returned (.tuple #[.agg #[.slice y.1.1.1 y.1.2.1.length y.1.1.2], .int .i64 y.1.2.2]) ∧ Pm w [.row (.slice y.1.1.1 y.1.2.1.length y.1.1.2) 102 5 y.1.2.1.length (flat En.cells y.1.2.1)] w' := by
  refine begin_ (vs := [.agg #[.slice A0 es.length c0], .agg x.cells.toArray]) Tryz.func64 rfl rfl rfl ?_ (Pm.start w)
  refine TC.seq_ ?_
  refine TC.region ?_
  refine TL.pnew rfl rfl rfl (exec_box (cs := [.slice A0 es.length c0]) rfl rfl rfl) (fun g2 => ?_)
  refine TL.pnew rfl rfl rfl (exec_box (cs := x.cells) rfl rfl rfl) (fun g3 => ?_)
  refine TL.pnew rfl rfl rfl (exec_alloc (cs := [.slice none 0 0]) rfl brxzv26 rfl) (fun g4 => ?_)
  refine TL.val rfl rfl rfl (gives_assign rfl rfl) ?_
  refine TL.end_ ?_
  refine TX.then_ ?_
  refine TC.seq_ ?_
  refine TC.seq_ ?_
  refine TC.region ?_
  refine TL.val rfl rfl rfl (pm_loadV (k := 2) (i := 0) (n := 1) (v := .agg #[.slice A0 es.length c0]) rfl rfl breag26 bresz26 rfl (by show 1 ≤ 1; decide) rfl) ?_
  refine TL.callsplit rfl rfl rfl rfl rfl Tryz.func85 brxnm85 brxbd85 (fun w1 hw => rvalX_any A0 c0 es w1 (hr.up hw.bel) (by omega) hok) (fun h10 => ?_) (fun h10 => ?_)
  · refine TL.val rfl rfl rfl (gives_boolnot rfl rfl) ?_
    refine TL.val rfl rfl rfl (gives_move rfl rfl) ?_
    refine TL.on rfl rfl rfl ?_
    refine TL.val rfl rfl rfl (pm_loadV (k := 1) (i := 0) (n := 5) (v := .agg (x.cells).toArray) rfl rfl breag102 bresz102 rfl (by show 5 ≤ 5; decide) rfl) ?_
    refine TL.on rfl rfl rfl ?_
    refine TL.callsplit rfl rfl rfl rfl rfl Tryz.func113 brrnm113 brrbd113 (fun w1 hw => rvalE_any x hx w1) (fun h14 => ?_) (fun h14 => ?_)
    · refine TL.on rfl rfl rfl ?_
      refine TL.val rfl rfl rfl (gives_boolnot rfl rfl) ?_
      refine TL.val rfl rfl rfl (gives_pick rfl rfl rfl) ?_
      refine TL.end_ ?_
      refine TX.then_ ?_
      refine TC.condF rfl ?_
      refine TC.skip_ ?_
      refine TX.then_ ?_
      refine TC.seq_ ?_
      refine TC.region ?_
      refine TL.val rfl rfl rfl (gives_assign rfl rfl) ?_
      refine TL.end_ ?_
      refine TX.then_ ?_
      refine TC.seq_ ?_
      refine TC.seq_ ?_
      refine TC.region ?_
      refine TL.val rfl rfl rfl (gives_assign rfl rfl) ?_
      refine TL.end_ ?_
      refine TX.then_ ?_
      refine TC.block ?_
      refine TC.loop_ (α := {y : Nat × Nat // y.1 ≤ es.length ∧ y.2 ≤ y.1 ∧ AddK es x y.1 y.2}) (fun y => [(2, .pointer (some ⟨g2, 0, none⟩)), (3, .pointer (some ⟨g3, 0, none⟩)), (4, .pointer (some ⟨g4, 0, none⟩)), (7, .int .i64 ((y.1.1 : Nat) : Int)), (6, .int .i64 ((y.1.2 : Nat) : Int))]) (fun y => Pm w [.blk g4 26 [.slice none 0 0], .blk g3 102 x.cells, .blk g2 26 [.slice A0 es.length c0]]) (fun y => es.length - y.1.1) (⟨(0, 0), Nat.zero_le _, Nat.le_refl _, AddK.start es x⟩) ⟨rfl, rfl, rfl, rfl, rfl, trivial⟩ (fun w1 hw => hw) ?_
      rintro ⟨⟨i, k⟩, hi, hk, hK⟩
      dsimp only at hi hk hK ⊢
      refine TC.seq_ ?_
      refine TC.seq_ ?_
      refine TC.region ?_
      refine TL.val rfl rfl rfl (gives_move rfl rfl) ?_
      refine TL.val rfl rfl rfl (gives_field (v := .pointer (some ⟨g2, 0, none⟩)) rfl rfl (fun w => brefld26_0 _ _ w)) ?_
      refine TL.val rfl rfl rfl (pm_load (k := 2) (i := 0) rfl rfl breag24 rfl rfl) ?_
      refine TL.val rfl rfl rfl (gives_len rfl Tryz.underlying24 rfl) ?_
      refine TL.vsplit rfl rfl rfl (gives_bin rfl rfl rfl (fun w => bin_lss w)) (fun h22 => ?_) (fun h22 => ?_)
      · have q22 := of_decide_eq_true h22
        refine TL.end_ ?_
        refine TX.then_ ?_
        refine TC.condT rfl ?_
        refine TC.skip_ ?_
        refine TX.then_ ?_
        refine TC.seq_ ?_
        refine TC.block ?_
        refine TC.seq_ ?_
        refine TC.region ?_
        refine TL.val rfl rfl rfl (gives_field (v := .pointer (some ⟨g2, 0, none⟩)) rfl rfl (fun w => brefld26_0 _ _ w)) ?_
        refine TL.val rfl rfl rfl (pm_load (k := 2) (i := 0) rfl rfl breag24 rfl rfl) ?_
        refine TL.val rfl rfl rfl (gives_move rfl rfl) ?_
        have hi28 : i < es.length := by omega
        obtain ⟨x28, hx28⟩ : ∃ x28, es[i]? = some x28 := ⟨_, List.getElem?_eq_getElem hi28⟩
        obtain ⟨b28, o28, hA28, hbb28, hc28⟩ := hr.ad (by omega) (by decide)
        refine TL.val rfl rfl rfl (gives_at (v := .pointer (some ⟨b28, o28 + i * 5, none⟩)) rfl rfl rfl (fun w => at_el Tryz.underlying24 bresz102 hA28 _ _ i (by omega) rfl w)) ?_
        refine TL.val rfl rfl rfl (gives_loadR (off := o28 + i * 5) rfl rfl breag102 bresz102 (en_cel.len x28) (fun w1 hw j9 u9 h9 => (hw.bel.cell hbb28).trans <| flat_cell en_cel hx28 hc28 j9 u9 h9)) ?_
        refine TL.pnew rfl rfl rfl (exec_alloc (cs := [.int .u32 0, .int .i64 0, .int .i64 0, .int .i64 0, .int .i64 0]) rfl brezv102 rfl) (fun g8 => ?_)
        refine TL.pstore (k := 0) (vs := x28.cells) rfl rfl rfl rfl rfl rfl rfl bresz102 (en_cel.one _) (by show 5 ≤ 5; decide) (L' := [.blk g8 102 x28.cells, .blk g4 26 [.slice none 0 0], .blk g3 102 x.cells, .blk g2 26 [.slice A0 es.length c0]]) rfl ?_
        refine TL.end_ ?_
        refine TX.then_ ?_
        refine TC.seq_ ?_
        refine TC.seq_ ?_
        refine TC.region ?_
        refine TL.val rfl rfl rfl (gives_field (v := .pointer (some ⟨g8, 0, none⟩)) rfl rfl (fun w => brefld102_0 _ _ w)) ?_
        refine TL.val rfl rfl rfl (pm_loadV (k := 0) (i := 0) (n := 2) (v := .agg #[.int .u32 x28.addr, .int .i64 x28.len]) rfl rfl badag100 badsz100 rfl (by show 2 ≤ 5; decide) rfl) ?_
        refine TL.val rfl rfl rfl (gives_field (v := .pointer (some ⟨g3, 0, none⟩)) rfl rfl (fun w => brefld102_0 _ _ w)) ?_
        refine TL.val rfl rfl rfl (pm_loadV (k := 2) (i := 0) (n := 2) (v := .agg #[.int .u32 x.addr, .int .i64 x.len]) rfl rfl badag100 badsz100 rfl (by show 2 ≤ 5; decide) rfl) ?_
        refine TL.pcall1 (r := .int .i64 (cmpP x28.addr x28.len x.addr x.len)) rfl rfl rfl rfl rfl Tryz.func114 brrnm114 brrbd114 (fun w1 hw => rcmpP_any x28.addr x28.len x.addr x.len (hok x28 (List.mem_of_getElem? hx28)) hx w1) ?_
        refine TL.vsplit rfl rfl rfl (gives_bin rfl rfl rfl (fun w => bin_eql w)) (fun h35 => ?_) (fun h35 => ?_)
        · have q35 := of_decide_eq_true h35
          refine TL.val rfl rfl rfl (gives_move rfl rfl) ?_
          refine TL.on rfl rfl rfl ?_
          refine TL.val rfl rfl rfl (gives_field (v := .pointer (some ⟨g8, 3, none⟩)) rfl rfl (fun w => brefld102_2 _ _ w)) ?_
          refine TL.on rfl rfl rfl ?_
          refine TL.val rfl rfl rfl (pm_load (k := 0) (i := 3) rfl rfl pcmag3 rfl rfl) ?_
          refine TL.on rfl rfl rfl ?_
          refine TL.val rfl rfl rfl (gives_field (v := .pointer (some ⟨g3, 4, none⟩)) rfl rfl (fun w => brefld102_3 _ _ w)) ?_
          refine TL.on rfl rfl rfl ?_
          refine TL.val rfl rfl rfl (pm_load (k := 2) (i := 4) rfl rfl pcmag3 rfl rfl) ?_
          refine TL.on rfl rfl rfl ?_
          refine TL.vsplit rfl rfl rfl (gives_bin rfl rfl rfl (fun w => bin_lss w)) (fun h41 => ?_) (fun h41 => ?_)
          · have q41 := of_decide_eq_true h41
            refine TL.val rfl rfl rfl (gives_pick rfl rfl rfl) ?_
            refine TL.val rfl rfl rfl (gives_move rfl rfl) ?_
            refine TL.on rfl rfl rfl ?_
            refine TL.val rfl rfl rfl (gives_field (v := .pointer (some ⟨g3, 3, none⟩)) rfl rfl (fun w => brefld102_2 _ _ w)) ?_
            refine TL.on rfl rfl rfl ?_
            refine TL.val rfl rfl rfl (pm_load (k := 2) (i := 3) rfl rfl pcmag3 rfl rfl) ?_
            refine TL.on rfl rfl rfl ?_
            refine TL.val rfl rfl rfl (gives_field (v := .pointer (some ⟨g8, 4, none⟩)) rfl rfl (fun w => brefld102_3 _ _ w)) ?_
            refine TL.on rfl rfl rfl ?_
            refine TL.val rfl rfl rfl (pm_load (k := 0) (i := 4) rfl rfl pcmag3 rfl rfl) ?_
            refine TL.on rfl rfl rfl ?_
            refine TL.vsplit rfl rfl rfl (gives_bin rfl rfl rfl (fun w => bin_lss w)) (fun h48 => ?_) (fun h48 => ?_)
            · have q48 := of_decide_eq_true h48
              refine TL.val rfl rfl rfl (gives_pick rfl rfl rfl) ?_
              refine TL.end_ ?_
              refine TX.then_ ?_
              refine TC.condT rfl ?_
              refine TC.seq_ ?_
              refine TC.region ?_
              refine TL.val rfl rfl rfl (gives_build (v := .agg #[.slice none 0 0]) rfl rfl (fun w => aawbld26_530  w)) ?_
              refine TL.pstore (k := 1) (vs := [.slice none 0 0]) rfl rfl rfl rfl rfl rfl rfl bresz26 aseone_s (by show 1 ≤ 1; decide) (L' := [.blk g8 102 x28.cells, .blk g4 26 [.slice none 0 0], .blk g3 102 x.cells, .blk g2 26 [.slice A0 es.length c0]]) rfl ?_
              refine TL.val rfl rfl rfl (gives_assign rfl rfl) ?_
              refine TL.end_ ?_
              refine TX.then_ ?_
              refine TC.ret_ ?_
              refine TX.then_ret ?_
              refine TX.in_ret ?_
              refine TX.then_ret ?_
              refine TX.then_ret ?_
              refine TX.in_ret ?_
              refine TX.then_ret ?_
              exact ret_cell2 (k := 1) (v := .int .i64 9) Tryz.results64 rfl rfl rfl Tryz.underlying26 rfl rfl (fun w1 hw => ⟨⟨((none, 0), ([], 9)), fun h => absurd h (by decide), Nat.zero_le _, Nat.le_refl _, Nat.zero_le _⟩, rfl, (hw.pick [] (by decide) rfl).nilrow _ _⟩)
            · have q48 := of_decide_eq_false h48
              refine TL.val rfl rfl rfl (gives_pick rfl rfl rfl) ?_
              refine TL.end_ ?_
              refine TX.then_ ?_
              refine TC.condF rfl ?_
              refine TC.skip_ ?_
              refine TX.then_ ?_
              refine TC.seq_ ?_
              refine TC.region ?_
              refine TL.val rfl rfl rfl (pm_loadV (k := 0) (i := 0) (n := 5) (v := .agg (x28.cells).toArray) rfl rfl breag102 bresz102 rfl (by show 5 ≤ 5; decide) rfl) ?_
              refine TL.val rfl rfl rfl (pm_loadV (k := 2) (i := 0) (n := 5) (v := .agg (x.cells).toArray) rfl rfl breag102 bresz102 rfl (by show 5 ≤ 5; decide) rfl) ?_
              refine TL.call (α := {z : Int // CmpE x28 x z}) (r := fun z => .int .i64 z.1) (I' := fun _ => Pm w [.blk g8 102 x28.cells, .blk g4 26 [.slice none 0 0], .blk g3 102 x.cells, .blk g2 26 [.slice A0 es.length c0]]) rfl rfl rfl rfl rfl Tryz.func115 brxnm115 brxbd115 (fun w1 hw => (rcmpX_any x28 x (hok x28 (List.mem_of_getElem? hx28)) hx w1).mono fun e w2 ⟨b, h1, h2⟩ => ⟨b, h1, hw.below h2⟩) ?_
              rintro ⟨z53, hz53⟩
              dsimp only
              refine TL.vsplit rfl rfl rfl (gives_bin rfl rfl rfl (fun w => bin_lss w)) (fun h54 => ?_) (fun h54 => ?_)
              · have q54 := of_decide_eq_true h54
                refine TL.end_ ?_
                refine TX.then_ ?_
                refine TC.condT rfl ?_
                refine TC.region ?_
                refine TL.val rfl rfl rfl (gives_move rfl rfl) ?_
                refine TL.val rfl rfl rfl (gives_bin rfl rfl rfl (fun w => bin_add_ (r := ((i + 1 : Nat) : Int)) (by simp only [IntKind.wrap_i64]; omega) w)) ?_
                refine TL.val rfl rfl rfl (gives_assign rfl rfl) ?_
                refine TL.end_ ?_
                refine TX.in_normal ?_
                refine TX.then_ ?_
                refine TC.region ?_
                refine TL.val rfl rfl rfl (gives_move rfl rfl) ?_
                refine TL.val rfl rfl rfl (gives_bin rfl rfl rfl (fun w => bin_add_ (r := ((i + 1 : Nat) : Int)) (by simp only [IntKind.wrap_i64]; omega) w)) ?_
                refine TL.val rfl rfl rfl (gives_assign rfl rfl) ?_
                refine TL.end_ ?_
                exact TX.round (⟨(i + 1, i + 1), by dsimp only; omega, by dsimp only; omega, hK.step_lt hx28 (hz53.1 (by omega)) (by simp [OvE, q22, q35, q41, q48, q54]; try omega)⟩) (by show es.length - (i + 1) < es.length - i; omega) ⟨rfl, rfl, rfl, rfl, rfl, trivial⟩ (fun w1 hw => hw.pick [1, 2, 3] (by decide) rfl)
              · have q54 := of_decide_eq_false h54
                refine TL.end_ ?_
                refine TX.then_ ?_
                refine TC.condF rfl ?_
                refine TC.skip_ ?_
                refine TX.in_normal ?_
                refine TX.then_ ?_
                refine TC.region ?_
                refine TL.val rfl rfl rfl (gives_move rfl rfl) ?_
                refine TL.val rfl rfl rfl (gives_bin rfl rfl rfl (fun w => bin_add_ (r := ((i + 1 : Nat) : Int)) (by simp only [IntKind.wrap_i64]; omega) w)) ?_
                refine TL.val rfl rfl rfl (gives_assign rfl rfl) ?_
                refine TL.end_ ?_
                exact TX.round (⟨(i + 1, k), by dsimp only; omega, by dsimp only; omega, hK.step_ge hx28 (by omega) (fun h => (hz53.2 (by omega))) (by simp [OvE, q22, q35, q41, q48, q54]; try omega)⟩) (by show es.length - (i + 1) < es.length - i; omega) ⟨rfl, rfl, rfl, rfl, rfl, trivial⟩ (fun w1 hw => hw.pick [1, 2, 3] (by decide) rfl)
          · have q41 := of_decide_eq_false h41
            refine TL.val rfl rfl rfl (gives_pick rfl rfl rfl) ?_
            refine TL.val rfl rfl rfl (gives_move rfl rfl) ?_
            refine TL.off rfl rfl rfl rfl rfl rfl ?_
            refine TL.off rfl rfl rfl rfl rfl rfl ?_
            refine TL.off rfl rfl rfl rfl rfl rfl ?_
            refine TL.off rfl rfl rfl rfl rfl rfl ?_
            refine TL.off rfl rfl rfl rfl rfl rfl ?_
            refine TL.val rfl rfl rfl (gives_pick rfl rfl rfl) ?_
            refine TL.end_ ?_
            refine TX.then_ ?_
            refine TC.condF rfl ?_
            refine TC.skip_ ?_
            refine TX.then_ ?_
            refine TC.seq_ ?_
            refine TC.region ?_
            refine TL.val rfl rfl rfl (pm_loadV (k := 0) (i := 0) (n := 5) (v := .agg (x28.cells).toArray) rfl rfl breag102 bresz102 rfl (by show 5 ≤ 5; decide) rfl) ?_
            refine TL.val rfl rfl rfl (pm_loadV (k := 2) (i := 0) (n := 5) (v := .agg (x.cells).toArray) rfl rfl breag102 bresz102 rfl (by show 5 ≤ 5; decide) rfl) ?_
            refine TL.call (α := {z : Int // CmpE x28 x z}) (r := fun z => .int .i64 z.1) (I' := fun _ => Pm w [.blk g8 102 x28.cells, .blk g4 26 [.slice none 0 0], .blk g3 102 x.cells, .blk g2 26 [.slice A0 es.length c0]]) rfl rfl rfl rfl rfl Tryz.func115 brxnm115 brxbd115 (fun w1 hw => (rcmpX_any x28 x (hok x28 (List.mem_of_getElem? hx28)) hx w1).mono fun e w2 ⟨b, h1, h2⟩ => ⟨b, h1, hw.below h2⟩) ?_
            rintro ⟨z53, hz53⟩
            dsimp only
            refine TL.vsplit rfl rfl rfl (gives_bin rfl rfl rfl (fun w => bin_lss w)) (fun h54 => ?_) (fun h54 => ?_)
            · have q54 := of_decide_eq_true h54
              refine TL.end_ ?_
              refine TX.then_ ?_
              refine TC.condT rfl ?_
              refine TC.region ?_
              refine TL.val rfl rfl rfl (gives_move rfl rfl) ?_
              refine TL.val rfl rfl rfl (gives_bin rfl rfl rfl (fun w => bin_add_ (r := ((i + 1 : Nat) : Int)) (by simp only [IntKind.wrap_i64]; omega) w)) ?_
              refine TL.val rfl rfl rfl (gives_assign rfl rfl) ?_
              refine TL.end_ ?_
              refine TX.in_normal ?_
              refine TX.then_ ?_
              refine TC.region ?_
              refine TL.val rfl rfl rfl (gives_move rfl rfl) ?_
              refine TL.val rfl rfl rfl (gives_bin rfl rfl rfl (fun w => bin_add_ (r := ((i + 1 : Nat) : Int)) (by simp only [IntKind.wrap_i64]; omega) w)) ?_
              refine TL.val rfl rfl rfl (gives_assign rfl rfl) ?_
              refine TL.end_ ?_
              exact TX.round (⟨(i + 1, i + 1), by dsimp only; omega, by dsimp only; omega, hK.step_lt hx28 (hz53.1 (by omega)) (by simp [OvE, q22, q35, q41, q54]; try omega)⟩) (by show es.length - (i + 1) < es.length - i; omega) ⟨rfl, rfl, rfl, rfl, rfl, trivial⟩ (fun w1 hw => hw.pick [1, 2, 3] (by decide) rfl)
            · have q54 := of_decide_eq_false h54
              refine TL.end_ ?_
              refine TX.then_ ?_
              refine TC.condF rfl ?_
              refine TC.skip_ ?_
              refine TX.in_normal ?_
              refine TX.then_ ?_
              refine TC.region ?_
              refine TL.val rfl rfl rfl (gives_move rfl rfl) ?_
              refine TL.val rfl rfl rfl (gives_bin rfl rfl rfl (fun w => bin_add_ (r := ((i + 1 : Nat) : Int)) (by simp only [IntKind.wrap_i64]; omega) w)) ?_
              refine TL.val rfl rfl rfl (gives_assign rfl rfl) ?_
              refine TL.end_ ?_
              exact TX.round (⟨(i + 1, k), by dsimp only; omega, by dsimp only; omega, hK.step_ge hx28 (by omega) (fun h => (hz53.2 (by omega))) (by simp [OvE, q22, q35, q41, q54]; try omega)⟩) (by show es.length - (i + 1) < es.length - i; omega) ⟨rfl, rfl, rfl, rfl, rfl, trivial⟩ (fun w1 hw => hw.pick [1, 2, 3] (by decide) rfl)
        · have q35 := of_decide_eq_false h35
          refine TL.val rfl rfl rfl (gives_move rfl rfl) ?_
          refine TL.off rfl rfl rfl rfl rfl rfl ?_
          refine TL.off rfl rfl rfl rfl rfl rfl ?_
          refine TL.off rfl rfl rfl rfl rfl rfl ?_
          refine TL.off rfl rfl rfl rfl rfl rfl ?_
          refine TL.off rfl rfl rfl rfl rfl rfl ?_
          refine TL.val rfl rfl rfl (gives_pick rfl rfl rfl) ?_
          refine TL.val rfl rfl rfl (gives_move rfl rfl) ?_
          refine TL.off rfl rfl rfl rfl rfl rfl ?_
          refine TL.off rfl rfl rfl rfl rfl rfl ?_
          refine TL.off rfl rfl rfl rfl rfl rfl ?_
          refine TL.off rfl rfl rfl rfl rfl rfl ?_
          refine TL.off rfl rfl rfl rfl rfl rfl ?_
          refine TL.val rfl rfl rfl (gives_pick rfl rfl rfl) ?_
          refine TL.end_ ?_
          refine TX.then_ ?_
          refine TC.condF rfl ?_
          refine TC.skip_ ?_
          refine TX.then_ ?_
          refine TC.seq_ ?_
          refine TC.region ?_
          refine TL.val rfl rfl rfl (pm_loadV (k := 0) (i := 0) (n := 5) (v := .agg (x28.cells).toArray) rfl rfl breag102 bresz102 rfl (by show 5 ≤ 5; decide) rfl) ?_
          refine TL.val rfl rfl rfl (pm_loadV (k := 2) (i := 0) (n := 5) (v := .agg (x.cells).toArray) rfl rfl breag102 bresz102 rfl (by show 5 ≤ 5; decide) rfl) ?_
          refine TL.call (α := {z : Int // CmpE x28 x z}) (r := fun z => .int .i64 z.1) (I' := fun _ => Pm w [.blk g8 102 x28.cells, .blk g4 26 [.slice none 0 0], .blk g3 102 x.cells, .blk g2 26 [.slice A0 es.length c0]]) rfl rfl rfl rfl rfl Tryz.func115 brxnm115 brxbd115 (fun w1 hw => (rcmpX_any x28 x (hok x28 (List.mem_of_getElem? hx28)) hx w1).mono fun e w2 ⟨b, h1, h2⟩ => ⟨b, h1, hw.below h2⟩) ?_
          rintro ⟨z53, hz53⟩
          dsimp only
          refine TL.vsplit rfl rfl rfl (gives_bin rfl rfl rfl (fun w => bin_lss w)) (fun h54 => ?_) (fun h54 => ?_)
          · have q54 := of_decide_eq_true h54
            refine TL.end_ ?_
            refine TX.then_ ?_
            refine TC.condT rfl ?_
            refine TC.region ?_
            refine TL.val rfl rfl rfl (gives_move rfl rfl) ?_
            refine TL.val rfl rfl rfl (gives_bin rfl rfl rfl (fun w => bin_add_ (r := ((i + 1 : Nat) : Int)) (by simp only [IntKind.wrap_i64]; omega) w)) ?_
            refine TL.val rfl rfl rfl (gives_assign rfl rfl) ?_
            refine TL.end_ ?_
            refine TX.in_normal ?_
            refine TX.then_ ?_
            refine TC.region ?_
            refine TL.val rfl rfl rfl (gives_move rfl rfl) ?_
            refine TL.val rfl rfl rfl (gives_bin rfl rfl rfl (fun w => bin_add_ (r := ((i + 1 : Nat) : Int)) (by simp only [IntKind.wrap_i64]; omega) w)) ?_
            refine TL.val rfl rfl rfl (gives_assign rfl rfl) ?_
            refine TL.end_ ?_
            exact TX.round (⟨(i + 1, i + 1), by dsimp only; omega, by dsimp only; omega, hK.step_lt hx28 (hz53.1 (by omega)) (by simp [OvE, q22, q35, q54]; try omega)⟩) (by show es.length - (i + 1) < es.length - i; omega) ⟨rfl, rfl, rfl, rfl, rfl, trivial⟩ (fun w1 hw => hw.pick [1, 2, 3] (by decide) rfl)
          · have q54 := of_decide_eq_false h54
            refine TL.end_ ?_
            refine TX.then_ ?_
            refine TC.condF rfl ?_
            refine TC.skip_ ?_
            refine TX.in_normal ?_
            refine TX.then_ ?_
            refine TC.region ?_
            refine TL.val rfl rfl rfl (gives_move rfl rfl) ?_
            refine TL.val rfl rfl rfl (gives_bin rfl rfl rfl (fun w => bin_add_ (r := ((i + 1 : Nat) : Int)) (by simp only [IntKind.wrap_i64]; omega) w)) ?_
            refine TL.val rfl rfl rfl (gives_assign rfl rfl) ?_
            refine TL.end_ ?_
            exact TX.round (⟨(i + 1, k), by dsimp only; omega, by dsimp only; omega, hK.step_ge hx28 (by omega) (fun h => (hz53.2 (by omega))) (by simp [OvE, q22, q35, q54]; try omega)⟩) (by show es.length - (i + 1) < es.length - i; omega) ⟨rfl, rfl, rfl, rfl, rfl, trivial⟩ (fun w1 hw => hw.pick [1, 2, 3] (by decide) rfl)
      · have q22 := of_decide_eq_false h22
        refine TL.end_ ?_
        refine TX.then_ ?_
        refine TC.condF rfl ?_
        refine TC.exit_ ?_
        refine TX.then_exit ?_
        refine TX.then_exit ?_
        refine TX.in_same ?_
        refine TX.then_ ?_
        refine TC.seq_ ?_
        refine TC.seq_ ?_
        refine TC.region ?_
        refine TL.val rfl rfl rfl (gives_field (v := .pointer (some ⟨g2, 0, none⟩)) rfl rfl (fun w => brefld26_0 _ _ w)) ?_
        refine TL.val rfl rfl rfl (pm_load (k := 2) (i := 0) rfl rfl breag24 rfl rfl) ?_
        refine TL.val rfl rfl rfl (gives_len rfl Tryz.underlying24 rfl) ?_
        refine TL.vsplit rfl rfl rfl (gives_bin rfl rfl rfl (fun w => bin_geq w)) (fun h60 => ?_) (fun h60 => ?_)
        · have q60 := of_decide_eq_true h60
          refine TL.end_ ?_
          refine TX.then_ ?_
          refine TC.condT rfl ?_
          refine TC.seq_ ?_
          refine TC.region ?_
          refine TL.val rfl rfl rfl (gives_build (v := .agg #[.slice none 0 0]) rfl rfl (fun w => aawbld26_530  w)) ?_
          refine TL.pstore (k := 0) (vs := [.slice none 0 0]) rfl rfl rfl rfl rfl rfl rfl bresz26 aseone_s (by show 1 ≤ 1; decide) (L' := [.blk g4 26 [.slice none 0 0], .blk g3 102 x.cells, .blk g2 26 [.slice A0 es.length c0]]) rfl ?_
          refine TL.val rfl rfl rfl (gives_assign rfl rfl) ?_
          refine TL.end_ ?_
          refine TX.then_ ?_
          refine TC.ret_ ?_
          refine TX.then_ret ?_
          exact ret_cell2 (k := 0) (v := .int .i64 5) Tryz.results64 rfl rfl rfl Tryz.underlying26 rfl rfl (fun w1 hw => ⟨⟨((none, 0), ([], 5)), fun h => absurd h (by decide), Nat.zero_le _, Nat.le_refl _, Nat.zero_le _⟩, rfl, (hw.pick [] (by decide) rfl).nilrow _ _⟩)
        · have q60 := of_decide_eq_false h60
          refine TL.end_ ?_
          refine TX.then_ ?_
          refine TC.condF rfl ?_
          refine TC.skip_ ?_
          refine TX.then_ ?_
          refine TC.seq_ ?_
          refine TC.held (ls := #[false, false, false, false, false, false, false, false, false, false, false, false, false, false, false, false]) (Pm w [.blk g3 102 x.cells, .blk g2 26 [.slice A0 es.length c0]]) (by kernel_rfl) rfl rfl (fun w hw => hw.drawn _) ?_
          refine TH.take (listed' := #[true, false, false, false, false, false, false, false, false, false, false, false, false, false, false, false]) 0 rfl (by kernel_rfl) (by kernel_rfl) (by kernel_rfl) rfl rfl rfl rfl (gives_field (v := .pointer (some ⟨g2, 0, none⟩)) rfl rfl (fun w => brefld26_0 _ _ w)) (fun w1 hw => hw.pick [1, 2] (by decide) rfl) ?_
          refine TH.take (listed' := #[true, true, false, false, false, false, false, false, false, false, false, false, false, false, false, false]) 1 rfl (by kernel_rfl) (by kernel_rfl) (by kernel_rfl) rfl rfl rfl rfl (pm_load (k := 1) (i := 0) rfl rfl breag24 rfl rfl) (fun w1 hw => hw.pick [1, 2] (by decide) rfl) ?_
          refine TH.take (listed' := #[true, true, true, false, false, false, false, false, false, false, false, false, false, false, false, false]) 2 rfl (by kernel_rfl) (by kernel_rfl) (by kernel_rfl) rfl rfl rfl rfl (gives_move rfl rfl) (fun w1 hw => hw.pick [1, 2] (by decide) rfl) ?_
          refine TH.take (listed' := #[true, true, true, true, false, false, false, false, false, false, false, false, false, false, false, false]) 3 rfl (by kernel_rfl) (by kernel_rfl) (by kernel_rfl) rfl rfl rfl rfl (gives_sliceH (v := .slice A0 k c0) rfl rfl rfl (fun w => cut_hi Tryz.underlying24 bresz102 _ _ _ k rfl (by omega) w)) (fun w1 hw => hw.pick [1, 2] (by decide) rfl) ?_
          refine TH.take (listed' := #[true, true, true, true, false, true, false, false, false, false, false, false, false, false, false, false]) 5 rfl (by kernel_rfl) (by kernel_rfl) (by kernel_rfl) rfl rfl rfl rfl (pm_loadV (k := 0) (i := 0) (n := 5) (v := .agg (x.cells).toArray) rfl rfl breag102 bresz102 rfl (by show 5 ≤ 5; decide) rfl) (fun w1 hw => hw.pick [1, 2] (by decide) rfl) ?_
          refine TH.take (listed' := #[true, true, true, true, false, true, false, false, true, false, false, false, false, false, false, false]) 8 rfl (by kernel_rfl) (by kernel_rfl) (by kernel_rfl) rfl rfl rfl rfl (gives_field (v := .pointer (some ⟨g2, 0, none⟩)) rfl rfl (fun w => brefld26_0 _ _ w)) (fun w1 hw => hw.pick [1, 2] (by decide) rfl) ?_
          refine TH.take (listed' := #[true, true, true, true, false, true, false, false, true, true, false, false, false, false, false, false]) 9 rfl (by kernel_rfl) (by kernel_rfl) (by kernel_rfl) rfl rfl rfl rfl (pm_load (k := 1) (i := 0) rfl rfl breag24 rfl rfl) (fun w1 hw => hw.pick [1, 2] (by decide) rfl) ?_
          refine TH.take (listed' := #[true, true, true, true, false, true, false, false, true, true, true, false, false, false, false, false]) 10 rfl (by kernel_rfl) (by kernel_rfl) (by kernel_rfl) rfl rfl rfl rfl (gives_move rfl rfl) (fun w1 hw => hw.pick [1, 2] (by decide) rfl) ?_
          refine TH.take (listed' := #[true, true, true, true, false, true, false, false, true, true, true, true, false, false, false, false]) 11 rfl (by kernel_rfl) (by kernel_rfl) (by kernel_rfl) rfl rfl rfl rfl (gives_sliceL (v := .slice (if c0 = k then A0 else A0.map (·.add (k * 5))) (es.length - k) (c0 - k)) rfl rfl rfl (fun w => cut_lo Tryz.underlying24 bresz102 _ _ _ k rfl (by omega) w)) (fun w1 hw => hw.pick [1, 2] (by decide) rfl) ?_
          refine TH.two' (listed1 := #[true, true, true, true, true, true, false, false, true, true, true, true, false, false, false, false]) (listed2 := #[true, true, true, true, false, true, true, false, true, true, true, true, false, false, false, false]) 4 6 rfl rfl (by kernel_rfl) rfl rfl ?_ ?_
          · refine TL.nilrow 102 5 ?_
            refine TL.appendT (k := 0) rfl rfl rfl rfl Tryz.underlying24 brxel24 rfl rfl rfl (fun w1 hw => ⟨_, (Reads.headF en_cel (hr.up hw.bel) (by omega))⟩) (flat_one en_cel _) (by show _ * 40 ≤ _; omega) (k) ((Nat.zero_add _).symm) (flat En.cells (es.take k)) (rfl) (fun A66 c66 hA661 hA662 => ?_)
            refine TL.end_ ?_
            refine TX.held (fun w1 hw => hw.pick [2, 3] (by decide) rfl) ?_
            refine TH.only' (listed' := #[true, true, true, true, true, true, true, false, true, true, true, true, false, false, false, false]) 6 rfl (by kernel_rfl) rfl ?_
            refine TL.prowS (e := 102) (size := 5) (cs := flat En.cells [x]) rfl rfl rfl rfl rfl (fun w => brxbs24_1_22095 _ _ _ _ _ w) (by decide) rfl (fun g68 => ?_)
            refine TL.end_ ?_
            refine TX.held (fun w1 hw => hw.pick [3, 4] (by decide) rfl) ?_
            refine TH.only' (listed' := #[true, true, true, true, true, true, true, true, true, true, true, true, false, false, false, false]) 7 rfl (by kernel_rfl) rfl ?_
            refine TL.appendT (k := 1) rfl rfl rfl rfl Tryz.underlying24 brxel24 rfl rfl rfl (fun w1 hw => pm_reads hw (k := 0) rfl) (flat_one en_cel _) (by show _ * 40 ≤ _; omega) (k + 1) (rfl) (flat En.cells ((es.take k) ++ [x])) ((flat_app _ _).symm) (fun A69 c69 hA691 hA692 => ?_)
            refine TL.end_ ?_
            refine TX.held (fun w1 hw => hw.pick [3, 4] (by decide) rfl) ?_
            refine TH.only' (listed' := #[true, true, true, true, true, true, true, true, true, true, true, true, true, false, false, false]) 12 rfl (by kernel_rfl) rfl ?_
            refine TL.appendT (k := 1) rfl rfl rfl rfl Tryz.underlying24 brxel24 rfl rfl rfl (fun w1 hw => ⟨_, (Reads.tailF en_cel (hr.up hw.bel) (by omega) (by omega))⟩) (flat_one en_cel _) (by show _ * 40 ≤ _; omega) (k + 1 + (es.length - k)) (rfl) (flat En.cells (((es.take k) ++ [x]) ++ (es.drop k))) ((flat_app _ _).symm) (fun A74 c74 hA741 hA742 => ?_)
            refine TL.end_ ?_
            refine TX.held (fun w1 hw => hw.pick [3, 4] (by decide) rfl) ?_
            refine TH.take (listed' := #[true, true, true, true, true, true, true, true, true, true, true, true, true, true, false, false]) 13 rfl (by kernel_rfl) (by kernel_rfl) (by kernel_rfl) rfl rfl rfl rfl (gives_build (v := .agg #[.slice A74 (k + 1 + (es.length - k)) c74]) rfl rfl (fun w => brxbld26_67803 _ _ _ w)) (fun w1 hw => hw.pick [3, 4] (by decide) rfl) ?_
            refine TH.only' (listed' := #[true, true, true, true, true, true, true, true, true, true, true, true, true, true, true, false]) 14 rfl (by kernel_rfl) rfl ?_
            refine TL.pstore (k := 2) (vs := [.slice A74 (k + 1 + (es.length - k)) c74]) rfl rfl rfl rfl rfl rfl rfl bresz26 aseone_s (by show 1 ≤ 1; decide) (L' := [.row (.slice (some ⟨g68, 0, none⟩) 1 1) 102 5 1 (flat En.cells [x]), .row (.slice A74 (k + 1 + (es.length - k)) c74) 102 5 (k + 1 + (es.length - k)) (flat En.cells (((es.take k) ++ [x]) ++ (es.drop k))), .blk g4 26 [.slice A74 (k + 1 + (es.length - k)) c74], .blk g3 102 x.cells, .blk g2 26 [.slice A0 es.length c0]]) rfl ?_
            refine TL.end_ ?_
            refine TX.held (fun w1 hw => hw.pick [3, 4] (by decide) rfl) ?_
            refine TH.take (listed' := #[true, true, true, true, true, true, true, true, true, true, true, true, true, true, true, true]) 15 rfl (by kernel_rfl) (by kernel_rfl) (by kernel_rfl) rfl rfl rfl rfl (gives_assign rfl rfl) (fun w1 hw => hw.pick [3, 4] (by decide) rfl) ?_
            refine TH.done (by kernel_rfl) ?_
            refine TX.then_ ?_
            refine TC.ret_ ?_
            have hle : (((es.take k) ++ [x]) ++ (es.drop k)).length = k + 1 + (es.length - k) := by simp only [List.length_append, List.length_take, List.length_drop, List.length_cons, List.length_nil]; omega
            have hva : validR (((es.take k) ++ [x]) ++ (es.drop k)) = true := ins_valid h10 (by rw [← rvalidE_eq hx]; exact h14) (by omega) hK.1 (fun z hz => hK.2.1 k (Nat.le_refl _) (by have := (List.getElem?_eq_some_iff.1 hz).1; omega) z hz) (fun j z hz => hK.2.2 j (by have := (List.getElem?_eq_some_iff.1 hz).1; omega) z hz)
            exact ret_cell2 (k := 2) (v := .int .i64 0) Tryz.results64 rfl rfl rfl Tryz.underlying26 rfl rfl (fun w1 hw => ⟨⟨((A74, c74), (((es.take k) ++ [x]) ++ (es.drop k), 0)), fun _ => ⟨fun z h => mem_ins h, hva⟩, by dsimp only; omega, by dsimp only; omega, hA742⟩, by dsimp only; rw [hle], by dsimp only; rw [hle]; exact hw.pick [1] (by decide) rfl⟩)
          · refine TL.prowS (e := 102) (size := 5) (cs := flat En.cells [x]) rfl rfl rfl rfl rfl (fun w => brxbs24_1_22095 _ _ _ _ _ w) (by decide) rfl (fun g68 => ?_)
            refine TL.end_ ?_
            refine TX.held (fun w1 hw => hw.pick [2, 3] (by decide) rfl) ?_
            refine TH.only' (listed' := #[true, true, true, true, true, true, true, false, true, true, true, true, false, false, false, false]) 4 rfl (by kernel_rfl) rfl ?_
            refine TL.nilrow 102 5 ?_
            refine TL.appendT (k := 0) rfl rfl rfl rfl Tryz.underlying24 brxel24 rfl rfl rfl (fun w1 hw => ⟨_, (Reads.headF en_cel (hr.up hw.bel) (by omega))⟩) (flat_one en_cel _) (by show _ * 40 ≤ _; omega) (k) ((Nat.zero_add _).symm) (flat En.cells (es.take k)) (rfl) (fun A66 c66 hA661 hA662 => ?_)
            refine TL.end_ ?_
            refine TX.held (fun w1 hw => hw.pick [3, 4] (by decide) rfl) ?_
            refine TH.only' (listed' := #[true, true, true, true, true, true, true, true, true, true, true, true, false, false, false, false]) 7 rfl (by kernel_rfl) rfl ?_
            refine TL.appendT (k := 0) rfl rfl rfl rfl Tryz.underlying24 brxel24 rfl rfl rfl (fun w1 hw => pm_reads hw (k := 1) rfl) (flat_one en_cel _) (by show _ * 40 ≤ _; omega) (k + 1) (rfl) (flat En.cells ((es.take k) ++ [x])) ((flat_app _ _).symm) (fun A69 c69 hA691 hA692 => ?_)
            refine TL.end_ ?_
            refine TX.held (fun w1 hw => hw.pick [3, 4] (by decide) rfl) ?_
            refine TH.only' (listed' := #[true, true, true, true, true, true, true, true, true, true, true, true, true, false, false, false]) 12 rfl (by kernel_rfl) rfl ?_
            refine TL.appendT (k := 0) rfl rfl rfl rfl Tryz.underlying24 brxel24 rfl rfl rfl (fun w1 hw => ⟨_, (Reads.tailF en_cel (hr.up hw.bel) (by omega) (by omega))⟩) (flat_one en_cel _) (by show _ * 40 ≤ _; omega) (k + 1 + (es.length - k)) (rfl) (flat En.cells (((es.take k) ++ [x]) ++ (es.drop k))) ((flat_app _ _).symm) (fun A74 c74 hA741 hA742 => ?_)
            refine TL.end_ ?_
            refine TX.held (fun w1 hw => hw.pick [3, 4] (by decide) rfl) ?_
            refine TH.take (listed' := #[true, true, true, true, true, true, true, true, true, true, true, true, true, true, false, false]) 13 rfl (by kernel_rfl) (by kernel_rfl) (by kernel_rfl) rfl rfl rfl rfl (gives_build (v := .agg #[.slice A74 (k + 1 + (es.length - k)) c74]) rfl rfl (fun w => brxbld26_67803 _ _ _ w)) (fun w1 hw => hw.pick [3, 4] (by decide) rfl) ?_
            refine TH.only' (listed' := #[true, true, true, true, true, true, true, true, true, true, true, true, true, true, true, false]) 14 rfl (by kernel_rfl) rfl ?_
            refine TL.pstore (k := 2) (vs := [.slice A74 (k + 1 + (es.length - k)) c74]) rfl rfl rfl rfl rfl rfl rfl bresz26 aseone_s (by show 1 ≤ 1; decide) (L' := [.row (.slice A74 (k + 1 + (es.length - k)) c74) 102 5 (k + 1 + (es.length - k)) (flat En.cells (((es.take k) ++ [x]) ++ (es.drop k))), .row (.slice (some ⟨g68, 0, none⟩) 1 1) 102 5 1 (flat En.cells [x]), .blk g4 26 [.slice A74 (k + 1 + (es.length - k)) c74], .blk g3 102 x.cells, .blk g2 26 [.slice A0 es.length c0]]) rfl ?_
            refine TL.end_ ?_
            refine TX.held (fun w1 hw => hw.pick [3, 4] (by decide) rfl) ?_
            refine TH.take (listed' := #[true, true, true, true, true, true, true, true, true, true, true, true, true, true, true, true]) 15 rfl (by kernel_rfl) (by kernel_rfl) (by kernel_rfl) rfl rfl rfl rfl (gives_assign rfl rfl) (fun w1 hw => hw.pick [3, 4] (by decide) rfl) ?_
            refine TH.done (by kernel_rfl) ?_
            refine TX.then_ ?_
            refine TC.ret_ ?_
            have hle : (((es.take k) ++ [x]) ++ (es.drop k)).length = k + 1 + (es.length - k) := by simp only [List.length_append, List.length_take, List.length_drop, List.length_cons, List.length_nil]; omega
            have hva : validR (((es.take k) ++ [x]) ++ (es.drop k)) = true := ins_valid h10 (by rw [← rvalidE_eq hx]; exact h14) (by omega) hK.1 (fun z hz => hK.2.1 k (Nat.le_refl _) (by have := (List.getElem?_eq_some_iff.1 hz).1; omega) z hz) (fun j z hz => hK.2.2 j (by have := (List.getElem?_eq_some_iff.1 hz).1; omega) z hz)
            exact ret_cell2 (k := 2) (v := .int .i64 0) Tryz.results64 rfl rfl rfl Tryz.underlying26 rfl rfl (fun w1 hw => ⟨⟨((A74, c74), (((es.take k) ++ [x]) ++ (es.drop k), 0)), fun _ => ⟨fun z h => mem_ins h, hva⟩, by dsimp only; omega, by dsimp only; omega, hA742⟩, by dsimp only; rw [hle], by dsimp only; rw [hle]; exact hw.pick [0] (by decide) rfl⟩)
    · refine TL.on rfl rfl rfl ?_
      refine TL.val rfl rfl rfl (gives_boolnot rfl rfl) ?_
      refine TL.val rfl rfl rfl (gives_pick rfl rfl rfl) ?_
      refine TL.end_ ?_
      refine TX.then_ ?_
      refine TC.condT rfl ?_
      refine TC.seq_ ?_
      refine TC.region ?_
      refine TL.val rfl rfl rfl (gives_build (v := .agg #[.slice none 0 0]) rfl rfl (fun w => aawbld26_530  w)) ?_
      refine TL.pstore (k := 0) (vs := [.slice none 0 0]) rfl rfl rfl rfl rfl rfl rfl bresz26 aseone_s (by show 1 ≤ 1; decide) (L' := [.blk g4 26 [.slice none 0 0], .blk g3 102 x.cells, .blk g2 26 [.slice A0 es.length c0]]) rfl ?_
      refine TL.val rfl rfl rfl (gives_assign rfl rfl) ?_
      refine TL.end_ ?_
      refine TX.then_ ?_
      refine TC.ret_ ?_
      refine TX.then_ret ?_
      exact ret_cell2 (k := 0) (v := .int .i64 1) Tryz.results64 rfl rfl rfl Tryz.underlying26 rfl rfl (fun w1 hw => ⟨⟨((none, 0), ([], 1)), fun h => absurd h (by decide), Nat.zero_le _, Nat.le_refl _, Nat.zero_le _⟩, rfl, (hw.pick [] (by decide) rfl).nilrow _ _⟩)
  · refine TL.val rfl rfl rfl (gives_boolnot rfl rfl) ?_
    refine TL.val rfl rfl rfl (gives_move rfl rfl) ?_
    refine TL.off rfl rfl rfl rfl rfl rfl ?_
    refine TL.off rfl rfl rfl rfl rfl rfl ?_
    refine TL.off rfl rfl rfl rfl rfl rfl ?_
    refine TL.val rfl rfl rfl (gives_pick rfl rfl rfl) ?_
    refine TL.end_ ?_
    refine TX.then_ ?_
    refine TC.condT rfl ?_
    refine TC.seq_ ?_
    refine TC.region ?_
    refine TL.val rfl rfl rfl (gives_build (v := .agg #[.slice none 0 0]) rfl rfl (fun w => aawbld26_530  w)) ?_
    refine TL.pstore (k := 0) (vs := [.slice none 0 0]) rfl rfl rfl rfl rfl rfl rfl bresz26 aseone_s (by show 1 ≤ 1; decide) (L' := [.blk g4 26 [.slice none 0 0], .blk g3 102 x.cells, .blk g2 26 [.slice A0 es.length c0]]) rfl ?_
    refine TL.val rfl rfl rfl (gives_assign rfl rfl) ?_
    refine TL.end_ ?_
    refine TX.then_ ?_
    refine TC.ret_ ?_
    refine TX.then_ret ?_
    exact ret_cell2 (k := 0) (v := .int .i64 1) Tryz.results64 rfl rfl rfl Tryz.underlying26 rfl rfl (fun w1 hw => ⟨⟨((none, 0), ([], 1)), fun h => absurd h (by decide), Nat.zero_le _, Nat.le_refl _, Nat.zero_le _⟩, rfl, (hw.pick [] (by decide) rfl).nilrow _ _⟩)
set_option maxHeartbeats 1000000 in
theorem registryX_cod (cb : Nat) (w : World) (hC : Cod w cb) (m : Nat) (hm : m ≤ 100) :
    Calls Tryz.prog 19 #[.pointer (some ⟨cb, 0, none⟩), .int .i64 ((m : Nat) : Int)] w fun e w' => ∃ x : {y : (Option Addr × Nat) × List En // ((∀ e ∈ y.2, EnG e) ∧ validR y.2 = true) ∧ y.2.length ≤ m ∧ y.2.length ≤ y.1.2 ∧ y.1.2 ≤ maxLen}, e = .returned (.agg #[.slice x.1.1.1 x.1.2.length x.1.1.2]) ∧ Codr (fun w => Cod w cb) cb w ([.row (.slice x.1.1.1 x.1.2.length x.1.1.2) 102 5 x.1.2.length (flat En.cells x.1.2)]) w' := by
  refine begin_ (vs := [.pointer (some ⟨cb, 0, none⟩), .int .i64 ((m : Nat) : Int)]) (I := Pm ⟨w, cb⟩ (.abs cb (fun w => Cod w cb) :: oths cb w)) Tryz.func19 rfl rfl rfl ?_ (Pm.codes hC (cod_cells hC) (cod_stab cb))
  refine TC.seq_ ?_
  refine TC.region ?_
  refine TL.pnew rfl rfl rfl (exec_alloc (cs := [.slice none 0 0]) rfl brxzv26 rfl) (fun g4 => ?_)
  refine TL.end_ ?_
  refine TX.then_ ?_
  refine TC.seq_ ?_
  refine TC.region ?_
  refine TL.pnew rfl rfl rfl (exec_alloc (cs := [.slice none 0 0]) rfl brxzv26 rfl) (fun g5 => ?_)
  refine TL.end_ ?_
  refine TX.then_ ?_
  refine TC.seq_ ?_
  refine TC.seq_ ?_
  refine TC.region ?_
  refine TL.val rfl rfl rfl (gives_move rfl rfl) ?_
  refine TL.val rfl rfl rfl (gives_move rfl rfl) ?_
  refine TL.val rfl rfl rfl (gives_bin rfl rfl rfl (fun w => bin_add_ (r := ((m + 1 : Nat) : Int)) (by simp only [IntKind.wrap_i64]; omega) w)) ?_
  refine TL.pcallCod (k := 2) (α := {q9 : Nat // q9 ≤ 65535 ∧ (1 ≤ (((m + 1 : Nat) : Int) : Int) → (q9 : Int) < ((m + 1 : Nat) : Int))}) (fun q9 => .int .i64 ((q9.1 : Nat) : Int)) (fun q9 => []) rfl rfl rfl rfl rfl Tryz.func21 ddrnm25 ddrbd25 rfl (fun w1 hw hC1 => next_cod cb w1 ((m + 1 : Nat) : Int) hC1) ?_
  rintro ⟨k0, hk01, hk02⟩
  dsimp only [List.cons_append, List.nil_append]
  refine TL.val rfl rfl rfl (gives_assign rfl rfl) ?_
  refine TL.end_ ?_
  refine TX.then_ ?_
  refine TC.block ?_
  refine TC.nilrow 102 5 ?_
  refine TC.loop_ (α := {y : Nat × (Option Addr × Nat) × List En // y.1 + y.2.2.length ≤ m ∧ ((∀ e ∈ y.2.2, EnG e) ∧ validR y.2.2 = true) ∧ y.2.2.length ≤ y.2.1.2 ∧ y.2.1.2 ≤ maxLen}) (fun y => [(0, .pointer (some ⟨cb, 0, none⟩)), (4, .pointer (some ⟨g4, 0, none⟩)), (5, .pointer (some ⟨g5, 0, none⟩)), (6, .int .i64 ((y.1.1 : Nat) : Int))]) (fun y => Pm ⟨w, cb⟩ ([.row (.slice y.1.2.1.1 y.1.2.2.length y.1.2.1.2) 102 5 y.1.2.2.length (flat En.cells y.1.2.2), .blk g5 26 [.slice y.1.2.1.1 y.1.2.2.length y.1.2.1.2], .blk g4 26 [.slice none 0 0], .abs cb (fun w => Cod w cb)] ++ oths cb w)) (fun y => y.1.1) (⟨(k0, (none, 0), []), by dsimp only [List.length_nil]; omega, ⟨fun e he => absurd he List.not_mem_nil, rfl⟩, Nat.le_refl _, Nat.zero_le _⟩) ⟨rfl, rfl, rfl, rfl, trivial⟩ (fun w1 hw => hw) ?_
  rintro ⟨⟨k, ⟨A, c⟩, es⟩, hk, hEn, hoc, hom⟩
  dsimp only at hk hEn hoc hom ⊢
  refine TC.seq_ ?_
  refine TC.seq_ ?_
  refine TC.region ?_
  refine TL.val rfl rfl rfl (gives_move rfl rfl) ?_
  refine TL.vsplit rfl rfl rfl (gives_bin rfl rfl rfl (fun w => bin_gtr w)) (fun h14 => ?_) (fun h14 => ?_)
  · have q14 := of_decide_eq_true h14
    refine TL.end_ ?_
    refine TX.then_ ?_
    refine TC.condT rfl ?_
    refine TC.skip_ ?_
    refine TX.then_ ?_
    refine TC.seq_ ?_
    refine TC.block ?_
    refine TC.join (α := {y : Nat × (Option Addr × Nat) × List En × Int // (y.2.2.2 = 0 → ((∀ e ∈ y.2.2.1, EnG e) ∧ validR y.2.2.1 = true) ∧ y.2.2.1.length ≤ es.length + 1) ∧ y.2.2.1.length ≤ y.2.1.2 ∧ y.2.1.2 ≤ maxLen}) (fun y => [(0, .pointer (some ⟨cb, 0, none⟩)), (4, .pointer (some ⟨g4, 0, none⟩)), (5, .pointer (some ⟨g5, 0, none⟩)), (6, .int .i64 ((k : Nat) : Int)), (7, .pointer (some ⟨y.1.1, 0, none⟩)), (8, .int .i64 y.1.2.2.2)]) (fun y => Pm ⟨w, cb⟩ ([.row (.slice y.1.2.1.1 y.1.2.2.1.length y.1.2.1.2) 102 5 y.1.2.2.1.length (flat En.cells y.1.2.2.1), .blk y.1.1 26 [.slice y.1.2.1.1 y.1.2.2.1.length y.1.2.1.2], .row (.slice A es.length c) 102 5 es.length (flat En.cells es), .blk g5 26 [.slice A es.length c], .blk g4 26 [.slice none 0 0], .abs cb (fun w => Cod w cb)] ++ oths cb w)) ?_ ?_
    · refine TC.held (ls := #[false, false, false, false, false, false, false, false, false, false]) (Pm ⟨w, cb⟩ [.blk g5 26 [.slice A es.length c]]) (by kernel_rfl) rfl rfl (fun w hw => hw.drawn _) ?_
      refine TH.take (listed' := #[true, false, false, false, false, false, false, false, false, false]) 0 rfl (by kernel_rfl) (by kernel_rfl) (by kernel_rfl) rfl rfl rfl rfl (pm_loadV (k := 0) (i := 0) (n := 1) (v := .agg #[.slice A es.length c]) rfl rfl breag26 bresz26 rfl (by show 1 ≤ 1; decide) rfl) (fun w1 hw => hw.pick [1] (by decide) rfl) ?_
      refine TH.take (listed' := #[true, true, false, false, false, false, false, false, false, false]) 1 rfl (by kernel_rfl) (by kernel_rfl) (by kernel_rfl) rfl rfl rfl rfl (gives_move rfl rfl) (fun w1 hw => hw.pick [1] (by decide) rfl) ?_
      refine TH.two' (listed1 := #[true, true, true, false, false, false, false, false, false, false]) (listed2 := #[true, true, false, false, false, false, false, true, false, false]) 2 7 rfl rfl (by kernel_rfl) rfl rfl ?_ ?_
      · refine TL.pcallCod (k := 3) (α := {y : En // EnG y}) (fun x => .agg (x.1.cells).toArray) (fun x => []) rfl rfl rfl rfl rfl Tryz.func65 brxnm65 brxbd65 rfl (fun w1 hw hC1 => entry_cod cb w1 hC1) ?_
        rintro ⟨x20, hx20⟩
        dsimp only [List.cons_append, List.nil_append]
        refine TL.end_ ?_
        refine TX.held (fun w1 hw => hw.pick [1] (by decide) rfl) ?_
        refine TH.two' (listed1 := #[true, true, true, true, false, false, false, false, false, false]) (listed2 := #[true, true, true, false, false, false, false, true, false, false]) 3 7 rfl rfl (by kernel_rfl) rfl rfl ?_ ?_
        · refine TL.pcallPm (α := {y : (Option Addr × Nat) × List En × Int // (y.2.2 = 0 → (∀ z ∈ y.2.1, z ∈ es ∨ z = x20) ∧ validR y.2.1 = true) ∧ y.2.1.length ≤ es.length + 1 ∧ y.2.1.length ≤ y.1.2 ∧ y.1.2 ≤ maxLen}) (fun y => .tuple #[.agg #[.slice y.1.1.1 y.1.2.1.length y.1.1.2], .int .i64 y.1.2.2]) (fun y => [.row (.slice y.1.1.1 y.1.2.1.length y.1.1.2) 102 5 y.1.2.1.length (flat En.cells y.1.2.1)]) rfl rfl rfl rfl rfl Tryz.func64 brxnm64 brxbd64 (fun w1 hw => raddX_any A c es x20 hx20.ok w1 (pm_rd hw (k := 0) rfl) (by omega) hoc (fun z hz => (hEn.1 z hz).ok)) ?_
          rintro ⟨⟨⟨Ar, cr⟩, rs, er⟩, hrs, hrl, hrc, hrd⟩
          dsimp only [List.cons_append, List.nil_append] at hrs hrl hrc hrd ⊢
          refine TL.end_ ?_
          refine TX.held (fun w1 hw => hw.pick [2] (by decide) rfl) ?_
          refine TH.take (listed' := #[true, true, true, true, true, false, false, false, false, false]) 4 rfl (by kernel_rfl) (by kernel_rfl) (by kernel_rfl) rfl rfl rfl rfl (gives_move rfl rfl) (fun w1 hw => hw.pick [2] (by decide) rfl) ?_
          refine TH.take (listed' := #[true, true, true, true, true, true, false, false, false, false]) 5 rfl (by kernel_rfl) (by kernel_rfl) (by kernel_rfl) rfl rfl rfl rfl (gives_extract rfl rfl rfl) (fun w1 hw => hw.pick [2] (by decide) rfl) ?_
          refine TH.take (listed' := #[true, true, true, true, true, true, true, false, false, false]) 6 rfl (by kernel_rfl) (by kernel_rfl) (by kernel_rfl) rfl rfl rfl rfl (gives_extract rfl rfl rfl) (fun w1 hw => hw.pick [2] (by decide) rfl) ?_
          refine TH.only' (listed' := #[true, true, true, true, true, true, true, true, false, false]) 7 rfl (by kernel_rfl) rfl ?_
          refine TL.pnew rfl rfl rfl (exec_alloc (cs := [.slice none 0 0]) rfl brxzv26 rfl) (fun g7 => ?_)
          refine TL.end_ ?_
          refine TX.held (fun w1 hw => hw.pick [3] (by decide) rfl) ?_
          refine TH.only' (listed' := #[true, true, true, true, true, true, true, true, true, false]) 8 rfl (by kernel_rfl) rfl ?_
          refine TL.pstore (k := 0) (vs := [.slice Ar rs.length cr]) rfl rfl rfl rfl rfl rfl rfl bresz26 aseone_s (by show 1 ≤ 1; decide) (L' := ([.blk g7 26 [.slice Ar rs.length cr], .row (.slice Ar rs.length cr) 102 5 rs.length (flat En.cells rs), .row (.slice A es.length c) 102 5 es.length (flat En.cells es), .blk g5 26 [.slice A es.length c], .blk g4 26 [.slice none 0 0], .abs cb (fun w => Cod w cb)] ++ oths cb w)) rfl ?_
          refine TL.end_ ?_
          refine TX.held (fun w1 hw => hw.pick [3] (by decide) rfl) ?_
          refine TH.take (listed' := #[true, true, true, true, true, true, true, true, true, true]) 9 rfl (by kernel_rfl) (by kernel_rfl) (by kernel_rfl) rfl rfl rfl rfl (gives_assign rfl rfl) (fun w1 hw => hw.pick [3] (by decide) rfl) ?_
          refine TH.done (by kernel_rfl) ?_
          exact TX.joined (⟨(g7, (Ar, cr), rs, er), fun h0 => ⟨⟨fun e he => ((hrs h0).1 e he).elim (hEn.1 e) (fun h1 => by rw [h1]; exact hx20), (hrs h0).2⟩, hrl⟩, hrc, hrd⟩) (⟨rfl, rfl, rfl, rfl, rfl, rfl, trivial⟩) (fun w1 hw => (show Pm ⟨w, cb⟩ ([.row (.slice Ar rs.length cr) 102 5 rs.length (flat En.cells rs), .blk g7 26 [.slice Ar rs.length cr], .row (.slice A es.length c) 102 5 es.length (flat En.cells es), .blk g5 26 [.slice A es.length c], .blk g4 26 [.slice none 0 0], .abs cb (fun w => Cod w cb)] ++ oths cb w) w1 from hw.pickT 6 [1, 0, 2, 3, 4, 5] (by decide) (by decide) rfl rfl))
        · refine TL.pnew rfl rfl rfl (exec_alloc (cs := [.slice none 0 0]) rfl brxzv26 rfl) (fun g7 => ?_)
          refine TL.end_ ?_
          refine TX.held (fun w1 hw => hw.pick [2] (by decide) rfl) ?_
          refine TH.only' (listed' := #[true, true, true, true, false, false, false, true, false, false]) 3 rfl (by kernel_rfl) rfl ?_
          refine TL.pcallPm (α := {y : (Option Addr × Nat) × List En × Int // (y.2.2 = 0 → (∀ z ∈ y.2.1, z ∈ es ∨ z = x20) ∧ validR y.2.1 = true) ∧ y.2.1.length ≤ es.length + 1 ∧ y.2.1.length ≤ y.1.2 ∧ y.1.2 ≤ maxLen}) (fun y => .tuple #[.agg #[.slice y.1.1.1 y.1.2.1.length y.1.1.2], .int .i64 y.1.2.2]) (fun y => [.row (.slice y.1.1.1 y.1.2.1.length y.1.1.2) 102 5 y.1.2.1.length (flat En.cells y.1.2.1)]) rfl rfl rfl rfl rfl Tryz.func64 brxnm64 brxbd64 (fun w1 hw => raddX_any A c es x20 hx20.ok w1 (pm_rd hw (k := 1) rfl) (by omega) hoc (fun z hz => (hEn.1 z hz).ok)) ?_
          rintro ⟨⟨⟨Ar, cr⟩, rs, er⟩, hrs, hrl, hrc, hrd⟩
          dsimp only [List.cons_append, List.nil_append] at hrs hrl hrc hrd ⊢
          refine TL.end_ ?_
          refine TX.held (fun w1 hw => hw.pick [3] (by decide) rfl) ?_
          refine TH.take (listed' := #[true, true, true, true, true, false, false, true, false, false]) 4 rfl (by kernel_rfl) (by kernel_rfl) (by kernel_rfl) rfl rfl rfl rfl (gives_move rfl rfl) (fun w1 hw => hw.pick [3] (by decide) rfl) ?_
          refine TH.take (listed' := #[true, true, true, true, true, true, false, true, false, false]) 5 rfl (by kernel_rfl) (by kernel_rfl) (by kernel_rfl) rfl rfl rfl rfl (gives_extract rfl rfl rfl) (fun w1 hw => hw.pick [3] (by decide) rfl) ?_
          refine TH.take (listed' := #[true, true, true, true, true, true, true, true, false, false]) 6 rfl (by kernel_rfl) (by kernel_rfl) (by kernel_rfl) rfl rfl rfl rfl (gives_extract rfl rfl rfl) (fun w1 hw => hw.pick [3] (by decide) rfl) ?_
          refine TH.only' (listed' := #[true, true, true, true, true, true, true, true, true, false]) 8 rfl (by kernel_rfl) rfl ?_
          refine TL.pstore (k := 1) (vs := [.slice Ar rs.length cr]) rfl rfl rfl rfl rfl rfl rfl bresz26 aseone_s (by show 1 ≤ 1; decide) (L' := ([.row (.slice Ar rs.length cr) 102 5 rs.length (flat En.cells rs), .blk g7 26 [.slice Ar rs.length cr], .row (.slice A es.length c) 102 5 es.length (flat En.cells es), .blk g5 26 [.slice A es.length c], .blk g4 26 [.slice none 0 0], .abs cb (fun w => Cod w cb)] ++ oths cb w)) rfl ?_
          refine TL.end_ ?_
          refine TX.held (fun w1 hw => hw.pick [3] (by decide) rfl) ?_
          refine TH.take (listed' := #[true, true, true, true, true, true, true, true, true, true]) 9 rfl (by kernel_rfl) (by kernel_rfl) (by kernel_rfl) rfl rfl rfl rfl (gives_assign rfl rfl) (fun w1 hw => hw.pick [3] (by decide) rfl) ?_
          refine TH.done (by kernel_rfl) ?_
          exact TX.joined (⟨(g7, (Ar, cr), rs, er), fun h0 => ⟨⟨fun e he => ((hrs h0).1 e he).elim (hEn.1 e) (fun h1 => by rw [h1]; exact hx20), (hrs h0).2⟩, hrl⟩, hrc, hrd⟩) (⟨rfl, rfl, rfl, rfl, rfl, rfl, trivial⟩) (fun w1 hw => hw)
      · refine TL.pnew rfl rfl rfl (exec_alloc (cs := [.slice none 0 0]) rfl brxzv26 rfl) (fun g7 => ?_)
        refine TL.end_ ?_
        refine TX.held (fun w1 hw => hw.pick [2] (by decide) rfl) ?_
        refine TH.only' (listed' := #[true, true, true, false, false, false, false, true, false, false]) 2 rfl (by kernel_rfl) rfl ?_
        refine TL.pcallCod (k := 4) (α := {y : En // EnG y}) (fun x => .agg (x.1.cells).toArray) (fun x => []) rfl rfl rfl rfl rfl Tryz.func65 brxnm65 brxbd65 rfl (fun w1 hw hC1 => entry_cod cb w1 hC1) ?_
        rintro ⟨x20, hx20⟩
        dsimp only [List.cons_append, List.nil_append]
        refine TL.end_ ?_
        refine TX.held (fun w1 hw => hw.pick [2] (by decide) rfl) ?_
        refine TH.only' (listed' := #[true, true, true, true, false, false, false, true, false, false]) 3 rfl (by kernel_rfl) rfl ?_
        refine TL.pcallPm (α := {y : (Option Addr × Nat) × List En × Int // (y.2.2 = 0 → (∀ z ∈ y.2.1, z ∈ es ∨ z = x20) ∧ validR y.2.1 = true) ∧ y.2.1.length ≤ es.length + 1 ∧ y.2.1.length ≤ y.1.2 ∧ y.1.2 ≤ maxLen}) (fun y => .tuple #[.agg #[.slice y.1.1.1 y.1.2.1.length y.1.1.2], .int .i64 y.1.2.2]) (fun y => [.row (.slice y.1.1.1 y.1.2.1.length y.1.1.2) 102 5 y.1.2.1.length (flat En.cells y.1.2.1)]) rfl rfl rfl rfl rfl Tryz.func64 brxnm64 brxbd64 (fun w1 hw => raddX_any A c es x20 hx20.ok w1 (pm_rd hw (k := 1) rfl) (by omega) hoc (fun z hz => (hEn.1 z hz).ok)) ?_
        rintro ⟨⟨⟨Ar, cr⟩, rs, er⟩, hrs, hrl, hrc, hrd⟩
        dsimp only [List.cons_append, List.nil_append] at hrs hrl hrc hrd ⊢
        refine TL.end_ ?_
        refine TX.held (fun w1 hw => hw.pick [3] (by decide) rfl) ?_
        refine TH.take (listed' := #[true, true, true, true, true, false, false, true, false, false]) 4 rfl (by kernel_rfl) (by kernel_rfl) (by kernel_rfl) rfl rfl rfl rfl (gives_move rfl rfl) (fun w1 hw => hw.pick [3] (by decide) rfl) ?_
        refine TH.take (listed' := #[true, true, true, true, true, true, false, true, false, false]) 5 rfl (by kernel_rfl) (by kernel_rfl) (by kernel_rfl) rfl rfl rfl rfl (gives_extract rfl rfl rfl) (fun w1 hw => hw.pick [3] (by decide) rfl) ?_
        refine TH.take (listed' := #[true, true, true, true, true, true, true, true, false, false]) 6 rfl (by kernel_rfl) (by kernel_rfl) (by kernel_rfl) rfl rfl rfl rfl (gives_extract rfl rfl rfl) (fun w1 hw => hw.pick [3] (by decide) rfl) ?_
        refine TH.only' (listed' := #[true, true, true, true, true, true, true, true, true, false]) 8 rfl (by kernel_rfl) rfl ?_
        refine TL.pstore (k := 1) (vs := [.slice Ar rs.length cr]) rfl rfl rfl rfl rfl rfl rfl bresz26 aseone_s (by show 1 ≤ 1; decide) (L' := ([.row (.slice Ar rs.length cr) 102 5 rs.length (flat En.cells rs), .blk g7 26 [.slice Ar rs.length cr], .row (.slice A es.length c) 102 5 es.length (flat En.cells es), .blk g5 26 [.slice A es.length c], .blk g4 26 [.slice none 0 0], .abs cb (fun w => Cod w cb)] ++ oths cb w)) rfl ?_
        refine TL.end_ ?_
        refine TX.held (fun w1 hw => hw.pick [3] (by decide) rfl) ?_
        refine TH.take (listed' := #[true, true, true, true, true, true, true, true, true, true]) 9 rfl (by kernel_rfl) (by kernel_rfl) (by kernel_rfl) rfl rfl rfl rfl (gives_assign rfl rfl) (fun w1 hw => hw.pick [3] (by decide) rfl) ?_
        refine TH.done (by kernel_rfl) ?_
        exact TX.joined (⟨(g7, (Ar, cr), rs, er), fun h0 => ⟨⟨fun e he => ((hrs h0).1 e he).elim (hEn.1 e) (fun h1 => by rw [h1]; exact hx20), (hrs h0).2⟩, hrl⟩, hrc, hrd⟩) (⟨rfl, rfl, rfl, rfl, rfl, rfl, trivial⟩) (fun w1 hw => hw)
    · rintro ⟨⟨g7, ⟨Ar, cr⟩, rs, er⟩, hrs, hrc, hrd⟩
      dsimp only at hrs hrc hrd ⊢
      refine TC.seq_ ?_
      refine TC.region ?_
      refine TL.val rfl rfl rfl (gives_move rfl rfl) ?_
      refine TL.vsplit rfl rfl rfl (gives_bin rfl rfl rfl (fun w => bin_eql w)) (fun h25 => ?_) (fun h25 => ?_)
      · have q25 := of_decide_eq_true h25
        refine TL.end_ ?_
        refine TX.then_ ?_
        refine TC.condT rfl ?_
        refine TC.region ?_
        refine TL.val rfl rfl rfl (pm_loadV (k := 1) (i := 0) (n := 1) (v := .agg #[.slice Ar rs.length cr]) rfl rfl breag26 bresz26 rfl (by show 1 ≤ 1; decide) rfl) ?_
        refine TL.pstore (k := 3) (vs := [.slice Ar rs.length cr]) rfl rfl rfl rfl rfl rfl rfl bresz26 aseone_s (by show 1 ≤ 1; decide) (L' := ([.row (.slice Ar rs.length cr) 102 5 rs.length (flat En.cells rs), .blk g7 26 [.slice Ar rs.length cr], .row (.slice A es.length c) 102 5 es.length (flat En.cells es), .blk g5 26 [.slice Ar rs.length cr], .blk g4 26 [.slice none 0 0], .abs cb (fun w => Cod w cb)] ++ oths cb w)) rfl ?_
        refine TL.end_ ?_
        refine TX.in_normal ?_
        refine TX.then_ ?_
        refine TC.region ?_
        refine TL.val rfl rfl rfl (gives_move rfl rfl) ?_
        refine TL.val rfl rfl rfl (gives_bin rfl rfl rfl (fun w => bin_sub_ (r := ((k - 1 : Nat) : Int)) (by simp only [IntKind.wrap_i64]; omega) w)) ?_
        refine TL.val rfl rfl rfl (gives_assign rfl rfl) ?_
        refine TL.end_ ?_
        exact TX.round (⟨(k - 1, (Ar, cr), rs), by dsimp only; have := (hrs q25).2; omega, (hrs q25).1, hrc, hrd⟩) (by show k - 1 < k; omega) ⟨rfl, rfl, rfl, rfl, trivial⟩ (fun w1 hw => hw.sel (.cons_cons _ (.cons _ (.cons _ (.cons_cons _ (.cons_cons _ (.cons_cons _ (List.Sublist.refl _))))))))
      · have q25 := of_decide_eq_false h25
        refine TL.end_ ?_
        refine TX.then_ ?_
        refine TC.condF rfl ?_
        refine TC.skip_ ?_
        refine TX.in_normal ?_
        refine TX.then_ ?_
        refine TC.region ?_
        refine TL.val rfl rfl rfl (gives_move rfl rfl) ?_
        refine TL.val rfl rfl rfl (gives_bin rfl rfl rfl (fun w => bin_sub_ (r := ((k - 1 : Nat) : Int)) (by simp only [IntKind.wrap_i64]; omega) w)) ?_
        refine TL.val rfl rfl rfl (gives_assign rfl rfl) ?_
        refine TL.end_ ?_
        exact TX.round (⟨(k - 1, (A, c), es), by dsimp only; omega, hEn, hoc, hom⟩) (by show k - 1 < k; omega) ⟨rfl, rfl, rfl, rfl, trivial⟩ (fun w1 hw => hw.sel (.cons _ (.cons _ (.cons_cons _ (.cons_cons _ (.cons_cons _ (.cons_cons _ (List.Sublist.refl _))))))))
  · have q14 := of_decide_eq_false h14
    refine TL.end_ ?_
    refine TX.then_ ?_
    refine TC.condF rfl ?_
    refine TC.exit_ ?_
    refine TX.then_exit ?_
    refine TX.then_exit ?_
    refine TX.in_same ?_
    refine TX.then_ ?_
    refine TC.seq_ ?_
    refine TC.region ?_
    refine TL.val rfl rfl rfl (pm_loadV (k := 1) (i := 0) (n := 1) (v := .agg #[.slice A es.length c]) rfl rfl breag26 bresz26 rfl (by show 1 ≤ 1; decide) rfl) ?_
    refine TL.pstore (k := 2) (vs := [.slice A es.length c]) rfl rfl rfl rfl rfl rfl rfl bresz26 aseone_s (by show 1 ≤ 1; decide) (L' := ([.row (.slice A es.length c) 102 5 es.length (flat En.cells es), .blk g5 26 [.slice A es.length c], .blk g4 26 [.slice A es.length c], .abs cb (fun w => Cod w cb)] ++ oths cb w)) rfl ?_
    refine TL.end_ ?_
    refine TX.then_ ?_
    refine TC.ret_ ?_
    exact pm_ret_cell (k := 2) Tryz.results19 rfl rfl Tryz.underlying26 rfl rfl (fun w1 hw => ⟨⟨((A, c), es), hEn, by dsimp only; omega, hoc, hom⟩, rfl, Pm.codr [_] (hw.sel (.cons_cons _ (.cons _ (.cons _ (.cons_cons _ (List.Sublist.refl _)))))) rfl⟩)
end Go.Proofs.YtijmpjfafpodhaaGreat

namespace Go.Proofs.YtijmpjfafpodhaaGreat
open Go.RowKit
set_option maxRecDepth 20000
theorem alqnm15 : (Tryz.f15.name == "runtime.NumGoroutine") = false := by decide
theorem alqbd15 : Tryz.f15.body.isNone = false := rfl
theorem alqnm16 : (Tryz.f16.name == "runtime.NumGoroutine") = false := by decide
theorem alqbd16 : Tryz.f16.body.isNone = false := rfl
theorem alqbld65_6429 (a2_0 : Int) (a3_0 : Int) (a4_0 : Int) (a5_0 : Int) (a6_0 : Int) (a7_0 : Int) (a8_0 : Bool) (a10_0 : Int) (a11_0 : Int) (a11_1 : Int) (a11_2 : Int) (a11_3 : Int) (a11_4 : Int) (a11_5 : Int) (w : World) : (Instr.build 65 #[(2, .int .i64 a2_0), (3, .int .i64 a3_0), (4, .int .u32 a4_0), (5, .int .i64 a5_0), (6, .int .i64 a6_0), (7, .int .i64 a7_0), (8, .bool a8_0), (10, .int .i64 a10_0), (11, .agg #[.int .u32 a11_0, .int .i64 a11_1, .int .i64 a11_2, .int .i64 a11_3, .int .i64 a11_4, .int .i64 a11_5])]).run Tryz.prog w = .ok (.agg #[.int .i64 0, .int .i64 0, .int .i64 a2_0, .int .i64 a3_0, .int .u32 a4_0, .int .i64 a5_0, .int .i64 a6_0, .int .i64 a7_0, .bool a8_0, .bool false, .int .i64 a10_0, .int .u32 a11_0, .int .i64 a11_1, .int .i64 a11_2, .int .i64 a11_3, .int .i64 a11_4, .int .i64 a11_5]) w := by kernel_rfl
theorem alqnm20 : (Tryz.f20.name == "runtime.NumGoroutine") = false := by decide
theorem alqbd20 : Tryz.f20.body.isNone = false := rfl
theorem alqnm19 : (Tryz.f19.name == "runtime.NumGoroutine") = false := by decide
theorem alqbd19 : Tryz.f19.body.isNone = false := rfl
set_option maxHeartbeats 1000000 in
theorem anomalyQuiet_walk (A0 : Option Addr) (n0 c0 : Nat) (l0 : List Int) (w : World) (hb0 : Byt w w.heap.size A0 n0 l0) (hc0 : n0 ≤ c0) (hm0 : c0 ≤ maxLen) :
    Calls Tryz.prog 8 #[.slice A0 n0 c0] w fun e w' => e = .returned (.bool true) ∧ Below w.heap.size w w' := by
  have hn0 : (n0 : Int) ≤ 9223372036854775807 := by unfold maxLen at hm0; omega
  refine begin_ (vs := [.slice A0 n0 c0]) Tryz.func8 rfl rfl rfl ?_ (Pm.start w)
  refine TC.seq_ ?_
  refine TC.region ?_
  refine TL.val rfl rfl rfl (gives_assign rfl rfl) ?_
  refine TL.end_ ?_
  refine TX.then_ ?_
  refine TC.seq_ ?_
  refine TC.seq_ ?_
  refine TC.region ?_
  refine TL.pcall1 (r := .bool true) rfl rfl rfl rfl rfl Tryz.func15 alqnm15 alqbd15 (fun w1 hw => awake_true w1) ?_
  refine TL.val rfl rfl rfl (gives_boolnot rfl rfl) ?_
  refine TL.end_ ?_
  refine TX.then_ ?_
  refine TC.condF rfl ?_
  refine TC.skip_ ?_
  refine TX.then_ ?_
  refine TC.seq_ ?_
  refine TC.region ?_
  refine TL.val rfl rfl rfl (gives_move rfl rfl) ?_
  refine TL.callNew (I := Pm w []) (p := fun cb w => Cod w cb) rfl rfl rfl rfl rfl Tryz.func16 alqnm16 alqbd16 (fun w1 hw => (roll_any A0 n0 c0 l0 w1 ((hb0.below hw.bel).more hw.bel.size) hc0 hn0).mono fun e w2 ⟨h1, h2, h3⟩ => ⟨h1, h2, cod_cells h2, h3⟩) cod_stab (fun wn hwn => ?_)
  have hwb := hwn.bel
  refine TL.val rfl rfl rfl (gives_assign rfl rfl) ?_
  refine TL.end_ ?_
  refine TX.then_ ?_
  refine TC.seq_ ?_
  refine TC.region ?_
  refine TL.val rfl rfl rfl (gives_assign rfl rfl) ?_
  refine TL.end_ ?_
  refine TX.then_ ?_
  refine TC.seq_ ?_
  refine TC.seq_ ?_
  refine TC.region ?_
  refine TL.val rfl rfl rfl (gives_move rfl rfl) ?_
  refine TL.pcallCod (k := 0) (α := {q9 : Nat // q9 ≤ 65535 ∧ (1 ≤ (20 : Int) → (q9 : Int) < 20)}) (fun q9 => .int .i64 ((q9.1 : Nat) : Int)) (fun q9 => []) rfl rfl rfl rfl rfl Tryz.func21 ddrnm25 ddrbd25 rfl (fun w1 hw hC1 => next_cod wn.heap.size w1 20 hC1) ?_
  rintro ⟨k0, hk01, hk02⟩
  dsimp only [List.cons_append, List.nil_append]
  refine TL.val rfl rfl rfl (gives_assign rfl rfl) ?_
  refine TL.end_ ?_
  refine TX.then_ ?_
  refine TC.block ?_
  refine TC.nilrow 65 17 ?_
  refine TC.loop_ (α := {y : Nat × (Option Addr × Nat) × List Rs // y.1 + y.2.2.length ≤ 19 ∧ (∀ r ∈ y.2.2, QzP r) ∧ y.2.2.length ≤ y.2.1.2 ∧ y.2.1.2 ≤ maxLen}) (fun y => [(3, .pointer (some ⟨wn.heap.size, 0, none⟩)), (5, .int .i64 ((y.1.1 : Nat) : Int)), (4, .slice y.1.2.1.1 y.1.2.2.length y.1.2.1.2)]) (fun y => Pm wn [.row (.slice y.1.2.1.1 y.1.2.2.length y.1.2.1.2) 65 17 y.1.2.2.length (flat Rs.cells y.1.2.2), .abs wn.heap.size (fun w => Cod w wn.heap.size)]) (fun y => y.1.1) (⟨(k0, (none, 0), []), by dsimp only [List.length_nil]; omega, fun e he => absurd he List.not_mem_nil, Nat.le_refl _, Nat.zero_le _⟩) ⟨rfl, rfl, rfl, trivial⟩ (fun w1 hw => hw) ?_
  rintro ⟨⟨k, ⟨Al, cl⟩, l⟩, hk, hq, hlc, hlm⟩
  dsimp only at hk hq hlc hlm ⊢
  refine TC.seq_ ?_
  refine TC.seq_ ?_
  refine TC.region ?_
  refine TL.val rfl rfl rfl (gives_move rfl rfl) ?_
  refine TL.vsplit rfl rfl rfl (gives_bin rfl rfl rfl (fun w => bin_gtr w)) (fun h18 => ?_) (fun h18 => ?_)
  · have q18 := of_decide_eq_true h18
    refine TL.end_ ?_
    refine TX.then_ ?_
    refine TC.condT rfl ?_
    refine TC.skip_ ?_
    refine TX.then_ ?_
    refine TC.seq_ ?_
    refine TC.block ?_
    refine TC.seq_ ?_
    refine TC.region ?_
    refine TL.val rfl rfl rfl (gives_move rfl rfl) ?_
    refine TL.pcallCod (k := 1) (α := {q9 : Nat // q9 ≤ 65535 ∧ (1 ≤ (3 : Int) → (q9 : Int) < 3)}) (fun q9 => .int .i64 ((q9.1 : Nat) : Int)) (fun q9 => []) rfl rfl rfl rfl rfl Tryz.func21 ddrnm25 ddrbd25 rfl (fun w1 hw hC1 => next_cod wn.heap.size w1 3 hC1) ?_
    rintro ⟨tt, htt1, htt2⟩
    dsimp only [List.cons_append, List.nil_append]
    refine TL.val rfl rfl rfl (gives_bin rfl rfl rfl (fun w => bin_add_ (r := 1 + ((tt : Nat) : Int)) (by simp only [IntKind.wrap_i64]; omega) w)) ?_
    refine TL.val rfl rfl rfl (gives_assign rfl rfl) ?_
    refine TL.end_ ?_
    refine TX.then_ ?_
    refine TC.seq_ ?_
    refine TC.region ?_
    refine TL.val rfl rfl rfl (gives_move rfl rfl) ?_
    refine TL.val rfl rfl rfl (gives_len rfl Tryz.underlying23 rfl) ?_
    refine TL.val rfl rfl rfl (gives_move rfl rfl) ?_
    refine TL.val rfl rfl rfl (gives_len rfl Tryz.underlying23 rfl) ?_
    refine TL.val rfl rfl rfl (gives_bin rfl rfl rfl (fun w => bin_mul_ (r := 50 * ((l.length : Nat) : Int)) (by simp only [IntKind.wrap_i64]; omega) w)) ?_
    refine TL.val rfl rfl rfl (gives_move rfl rfl) ?_
    refine TL.pcallCod (k := 1) (α := {q9 : Nat // q9 ≤ 65535 ∧ (1 ≤ (2 : Int) → (q9 : Int) < 2)}) (fun q9 => .int .i64 ((q9.1 : Nat) : Int)) (fun q9 => []) rfl rfl rfl rfl rfl Tryz.func21 ddrnm25 ddrbd25 rfl (fun w1 hw hC1 => next_cod wn.heap.size w1 2 hC1) ?_
    rintro ⟨fl, hfl1, hfl2⟩
    dsimp only [List.cons_append, List.nil_append]
    refine TL.val rfl rfl rfl (gives_move rfl rfl) ?_
    refine TL.val rfl rfl rfl (gives_move rfl rfl) ?_
    refine TL.val rfl rfl rfl (gives_len rfl Tryz.underlying23 rfl) ?_
    refine TL.val rfl rfl rfl (gives_bin rfl rfl rfl (fun w => bin_mul_ (r := 50 * ((l.length : Nat) : Int)) (by simp only [IntKind.wrap_i64]; omega) w)) ?_
    refine TL.val rfl rfl rfl (gives_move rfl rfl) ?_
    refine TL.val rfl rfl rfl (gives_bin rfl rfl rfl (fun w => bin_mul_ (r := 10 * (1 + ((tt : Nat) : Int))) (by simp only [IntKind.wrap_i64]; omega) w)) ?_
    refine TL.val rfl rfl rfl (gives_bin rfl rfl rfl (fun w => bin_add_ (r := 50 * ((l.length : Nat) : Int) + 10 * (1 + ((tt : Nat) : Int))) (by simp only [IntKind.wrap_i64]; omega) w)) ?_
    refine TL.val rfl rfl rfl (gives_move rfl rfl) ?_
    refine TL.pcallCod (k := 1) (α := {q9 : Nat // q9 ≤ 65535 ∧ (1 ≤ (4 : Int) → (q9 : Int) < 4)}) (fun q9 => .int .i64 ((q9.1 : Nat) : Int)) (fun q9 => []) rfl rfl rfl rfl rfl Tryz.func21 ddrnm25 ddrbd25 rfl (fun w1 hw hC1 => next_cod wn.heap.size w1 4 hC1) ?_
    rintro ⟨dd, hdd1, hdd2⟩
    dsimp only [List.cons_append, List.nil_append]
    refine TL.val rfl rfl rfl (gives_bin rfl rfl rfl (fun w => bin_add_ (r := 50 * ((l.length : Nat) : Int) + 10 * (1 + ((tt : Nat) : Int)) + ((dd : Nat) : Int)) (by simp only [IntKind.wrap_i64]; omega) w)) ?_
    refine TL.val rfl rfl rfl (gives_move rfl rfl) ?_
    refine TL.val rfl rfl rfl (gives_bin rfl rfl rfl (fun w => bin_add_ (r := 167772160 + (1 + ((tt : Nat) : Int))) (by simp only [IntKind.wrap_i64]; omega) w)) ?_
    refine TL.val rfl rfl rfl (gives_conv rfl rfl (fun w => conv_fit (k := .i64) Tryz.underlying30 Tryz.underlying3 (by simp only [IntKind.wrap_u32]; omega) w)) ?_
    refine TL.val rfl rfl rfl (gives_build (v := .agg #[.int .u32 (167772160 + (1 + ((tt : Nat) : Int))), .int .i64 1, .int .i64 0, .int .i64 0, .int .i64 0, .int .i64 0]) rfl rfl (fun w => aawbld63_27255 _ _ w)) ?_
    refine TL.val rfl rfl rfl (gives_build (v := .agg #[.int .i64 0, .int .i64 0, .int .i64 (l.length : Nat), .int .i64 (50 * ((l.length : Nat) : Int)), .int .u32 9, .int .i64 17, .int .i64 ((fl : Nat) : Int), .int .i64 (1 + ((tt : Nat) : Int)), .bool true, .bool false, .int .i64 (50 * ((l.length : Nat) : Int) + 10 * (1 + ((tt : Nat) : Int)) + ((dd : Nat) : Int)), .int .u32 (167772160 + (1 + ((tt : Nat) : Int))), .int .i64 1, .int .i64 0, .int .i64 0, .int .i64 0, .int .i64 0]) rfl rfl (fun w => alqbld65_6429 _ _ _ _ _ _ _ _ _ _ _ _ _ _ w)) ?_
    refine TL.pnew rfl rfl rfl (exec_alloc (cs := [.int .i64 0, .int .i64 0, .int .i64 0, .int .i64 0, .int .u32 0, .int .i64 0, .int .i64 0, .int .i64 0, .bool false, .bool false, .int .i64 0, .int .u32 0, .int .i64 0, .int .i64 0, .int .i64 0, .int .i64 0, .int .i64 0]) rfl arpzv65 rfl) (fun g7 => ?_)
    refine TL.pstore (k := 0) (vs := [.int .i64 0, .int .i64 0, .int .i64 (l.length : Nat), .int .i64 (50 * ((l.length : Nat) : Int)), .int .u32 9, .int .i64 17, .int .i64 ((fl : Nat) : Int), .int .i64 (1 + ((tt : Nat) : Int)), .bool true, .bool false, .int .i64 (50 * ((l.length : Nat) : Int) + 10 * (1 + ((tt : Nat) : Int)) + ((dd : Nat) : Int)), .int .u32 (167772160 + (1 + ((tt : Nat) : Int))), .int .i64 1, .int .i64 0, .int .i64 0, .int .i64 0, .int .i64 0]) rfl rfl rfl rfl rfl rfl rfl prssz65 arpone_i64i64i64i64u32i64i64i64bbi64u32i64i64i64i64i64 (by show 17 ≤ 17; decide) (L' := [.blk g7 65 [.int .i64 0, .int .i64 0, .int .i64 (l.length : Nat), .int .i64 (50 * ((l.length : Nat) : Int)), .int .u32 9, .int .i64 17, .int .i64 ((fl : Nat) : Int), .int .i64 (1 + ((tt : Nat) : Int)), .bool true, .bool false, .int .i64 (50 * ((l.length : Nat) : Int) + 10 * (1 + ((tt : Nat) : Int)) + ((dd : Nat) : Int)), .int .u32 (167772160 + (1 + ((tt : Nat) : Int))), .int .i64 1, .int .i64 0, .int .i64 0, .int .i64 0, .int .i64 0], .row (.slice Al l.length cl) 65 17 l.length (flat Rs.cells l), .abs wn.heap.size (fun w => Cod w wn.heap.size)]) rfl ?_
    refine TL.end_ ?_
    refine TX.then_ ?_
    refine TC.region ?_
    refine TL.val rfl rfl rfl (gives_move rfl rfl) ?_
    refine TL.val rfl rfl rfl (pm_loadV (k := 0) (i := 0) (n := 17) (v := .agg #[.int .i64 0, .int .i64 0, .int .i64 (l.length : Nat), .int .i64 (50 * ((l.length : Nat) : Int)), .int .u32 9, .int .i64 17, .int .i64 ((fl : Nat) : Int), .int .i64 (1 + ((tt : Nat) : Int)), .bool true, .bool false, .int .i64 (50 * ((l.length : Nat) : Int) + 10 * (1 + ((tt : Nat) : Int)) + ((dd : Nat) : Int)), .int .u32 (167772160 + (1 + ((tt : Nat) : Int))), .int .i64 1, .int .i64 0, .int .i64 0, .int .i64 0, .int .i64 0]) rfl rfl prsag65 prssz65 rfl (by show 17 ≤ 17; decide) rfl) ?_
    refine TL.prowS (e := 65) (size := 17) (cs := flat Rs.cells [(⟨0, 0, (l.length : Nat), 50 * ((l.length : Nat) : Int), 9, 17, ((fl : Nat) : Int), 1 + ((tt : Nat) : Int), true, false, 50 * ((l.length : Nat) : Int) + 10 * (1 + ((tt : Nat) : Int)) + ((dd : Nat) : Int), 167772160 + (1 + ((tt : Nat) : Int)), 1, 0, 0, 0, 0⟩ : Rs)]) rfl rfl rfl rfl rfl (fun w => porbs23_1_99505 _ _ _ _ _ _ _ _ _ _ _ _ _ _ _ _ _ w) (by decide) rfl (fun g48 => ?_)
    refine TL.appendT (k := 2) rfl rfl rfl rfl Tryz.underlying23 porel23 rfl rfl rfl (fun w1 hw => pm_reads hw (k := 0) rfl) (flat_one rs_cel _) (by show _ * 128 ≤ _; omega) ((l ++ [(⟨0, 0, (l.length : Nat), 50 * ((l.length : Nat) : Int), 9, 17, ((fl : Nat) : Int), 1 + ((tt : Nat) : Int), true, false, 50 * ((l.length : Nat) : Int) + 10 * (1 + ((tt : Nat) : Int)) + ((dd : Nat) : Int), 167772160 + (1 + ((tt : Nat) : Int)), 1, 0, 0, 0, 0⟩ : Rs)]).length) (by rw [List.length_append]; rfl) (flat Rs.cells (l ++ [(⟨0, 0, (l.length : Nat), 50 * ((l.length : Nat) : Int), 9, 17, ((fl : Nat) : Int), 1 + ((tt : Nat) : Int), true, false, 50 * ((l.length : Nat) : Int) + 10 * (1 + ((tt : Nat) : Int)) + ((dd : Nat) : Int), 167772160 + (1 + ((tt : Nat) : Int)), 1, 0, 0, 0, 0⟩ : Rs)])) ((flat_app _ _).symm) (fun A49 c49 hA491 hA492 => ?_)
    refine TL.val rfl rfl rfl (gives_assign rfl rfl) ?_
    refine TL.end_ ?_
    refine TX.in_normal ?_
    refine TX.then_ ?_
    refine TC.region ?_
    refine TL.val rfl rfl rfl (gives_move rfl rfl) ?_
    refine TL.val rfl rfl rfl (gives_bin rfl rfl rfl (fun w => bin_sub_ (r := ((k - 1 : Nat) : Int)) (by simp only [IntKind.wrap_i64]; omega) w)) ?_
    refine TL.val rfl rfl rfl (gives_assign rfl rfl) ?_
    refine TL.end_ ?_
    exact TX.round (⟨(k - 1, (A49, c49), l ++ [(⟨0, 0, (l.length : Nat), 50 * ((l.length : Nat) : Int), 9, 17, ((fl : Nat) : Int), 1 + ((tt : Nat) : Int), true, false, 50 * ((l.length : Nat) : Int) + 10 * (1 + ((tt : Nat) : Int)) + ((dd : Nat) : Int), 167772160 + (1 + ((tt : Nat) : Int)), 1, 0, 0, 0, 0⟩ : Rs)]), by dsimp only; rw [List.length_append]; show k - 1 + (l.length + 1) ≤ _; omega, qz_snoc hq (qz_one (by omega) (by omega) (by omega) (by omega)), hA491, hA492⟩) (by show k - 1 < k; omega) ⟨rfl, rfl, rfl, trivial⟩ (fun w1 hw => hw.pick [2, 3] (by decide) rfl)
  · have q18 := of_decide_eq_false h18
    refine TL.end_ ?_
    refine TX.then_ ?_
    refine TC.condF rfl ?_
    refine TC.exit_ ?_
    refine TX.then_exit ?_
    refine TX.then_exit ?_
    refine TX.in_same ?_
    refine TX.then_ ?_
    refine TC.seq_ ?_
    have hlok : ∀ r ∈ l, r.Ok := fun r hr => (hq r hr).2.1
    have hlv : ∀ r ∈ l, vldRs r = true := fun r hr => (hq r hr).1
    refine TC.region ?_
    refine TL.val rfl rfl rfl (gives_move rfl rfl) ?_
    refine TL.pcallCod (k := 1) (α := {u : Ru // RuG u}) (fun x => .agg (x.1.cells).toArray) (fun x => []) rfl rfl rfl rfl rfl Tryz.func20 alqnm20 alqbd20 rfl (fun w1 hw hC1 => drule_cod wn.heap.size w1 hC1) ?_
    rintro ⟨ru, hru⟩
    dsimp only [List.cons_append, List.nil_append]
    refine TL.pnew rfl rfl rfl (exec_alloc (cs := [.int .i64 0, .int .i64 0, .int .i64 0]) rfl adrzv28 rfl) (fun g8 => ?_)
    refine TL.pstore (k := 0) (vs := ru.cells) rfl rfl rfl rfl rfl rfl rfl aprsz28 (by first | exact idn_cel.one _ | exact ru_cel.one _) (by show 3 ≤ 3; decide) (L' := [.blk g8 28 ru.cells, .row (.slice Al l.length cl) 65 17 l.length (flat Rs.cells l), .abs wn.heap.size (fun w => Cod w wn.heap.size)]) rfl ?_
    refine TL.end_ ?_
    refine TX.then_ ?_
    refine TC.seq_ ?_
    have hru0 := hru
    unfold RuG at hru0
    have hvu : vldRu ⟨ru.los, ru.gro + 4, ru.prb⟩ = true := by unfold vldRu; exact decide_eq_true (by dsimp only; omega)
    refine TC.region ?_
    refine TL.val rfl rfl rfl (gives_field (v := .pointer (some ⟨g8, 1, none⟩)) rfl rfl (fun w => arpfld28_1 _ _ w)) ?_
    refine TL.val rfl rfl rfl (pm_load (k := 0) (i := 1) rfl rfl pcmag3 rfl rfl) ?_
    refine TL.val rfl rfl rfl (gives_bin rfl rfl rfl (fun w => bin_add_ (r := ru.gro + 4) (by simp only [IntKind.wrap_i64]; omega) w)) ?_
    refine TL.val rfl rfl rfl (gives_field (v := .pointer (some ⟨g8, 1, none⟩)) rfl rfl (fun w => arpfld28_1 _ _ w)) ?_
    refine TL.pstore (k := 0) (vs := [.int .i64 (ru.gro + 4)]) rfl rfl rfl rfl rfl rfl rfl pcmsz3 aeaone_i64 (by show 2 ≤ 3; decide) (L' := [.blk g8 28 [.int .i64 ru.los, .int .i64 (ru.gro + 4), .int .i64 ru.prb], .row (.slice Al l.length cl) 65 17 l.length (flat Rs.cells l), .abs wn.heap.size (fun w => Cod w wn.heap.size)]) rfl ?_
    refine TL.end_ ?_
    refine TX.then_ ?_
    refine TC.seq_ ?_
    refine TC.held (ls := #[false, false, false, false, false, false, false, false, false, false]) (Pm wn [.blk g8 28 [.int .i64 ru.los, .int .i64 (ru.gro + 4), .int .i64 ru.prb]]) (by kernel_rfl) rfl rfl (fun w hw => hw.drawn _) ?_
    refine TH.take (listed' := #[true, false, false, false, false, false, false, false, false, false]) 0 rfl (by kernel_rfl) (by kernel_rfl) (by kernel_rfl) rfl rfl rfl rfl (gives_move rfl rfl) (fun w1 hw => hw.pick [0] (by decide) rfl) ?_
    refine TH.take (listed' := #[true, true, false, false, false, false, false, false, false, false]) 1 rfl (by kernel_rfl) (by kernel_rfl) (by kernel_rfl) rfl rfl rfl rfl (gives_move rfl rfl) (fun w1 hw => hw.pick [0] (by decide) rfl) ?_
    refine TH.take (listed' := #[true, true, false, true, false, false, false, false, false, false]) 3 rfl (by kernel_rfl) (by kernel_rfl) (by kernel_rfl) rfl rfl rfl rfl (pm_loadV (k := 0) (i := 0) (n := 3) (v := .agg #[.int .i64 ru.los, .int .i64 (ru.gro + 4), .int .i64 ru.prb]) rfl rfl aprag28 aprsz28 rfl (by show 3 ≤ 3; decide) rfl) (fun w1 hw => hw.pick [0] (by decide) rfl) ?_
    refine TH.only' (listed' := #[true, true, true, true, false, false, false, false, false, false]) 2 rfl (by kernel_rfl) rfl ?_
    refine TL.pcallCod (k := 2) (α := {y : (Option Addr × Nat) × List En // ((∀ e ∈ y.2, EnG e) ∧ validR y.2 = true) ∧ y.2.length ≤ 8 ∧ y.2.length ≤ y.1.2 ∧ y.1.2 ≤ maxLen}) (fun x => .agg #[.slice x.1.1.1 x.1.2.length x.1.1.2]) (fun x => [.row (.slice x.1.1.1 x.1.2.length x.1.1.2) 102 5 x.1.2.length (flat En.cells x.1.2)]) rfl rfl rfl rfl rfl Tryz.func19 alqnm19 alqbd19 rfl (fun w1 hw hC1 => registryX_cod wn.heap.size w1 hC1 8 (by decide)) ?_
    rintro ⟨⟨⟨Areg, creg⟩, reg⟩, hreg, hregl, hregc, hregm⟩
    dsimp only [List.cons_append, List.nil_append]
    dsimp only at hreg hregl hregc hregm ⊢
    have hregok : ∀ z ∈ reg, z.Ok := fun z hz => (hreg.1 z hz).ok
    refine TL.end_ ?_
    refine TX.held (fun w1 hw => hw.pick [1] (by decide) rfl) ?_
    refine TH.only' (listed' := #[true, true, true, true, true, false, false, false, false, false]) 4 rfl (by kernel_rfl) rfl ?_
    refine TL.pcallPm (α := {y : ((Option Addr × Nat) × List Rp) × Int // FndOk reg l (⟨ru.los, ru.gro + 4, ru.prb⟩ : Ru) y.1.2 y.2 ∧ y.1.2.length ≤ 100000000000 ∧ y.1.2.length ≤ y.1.1.2 ∧ y.1.1.2 ≤ maxLen}) (fun x => .tuple #[.slice x.1.1.1.1 x.1.1.2.length x.1.1.1.2, .int .i64 x.1.2]) (fun x => [.row (.slice x.1.1.1.1 x.1.1.2.length x.1.1.1.2) 34 8 x.1.1.2.length (flat Rp.cells x.1.1.2)]) rfl rfl rfl rfl rfl Tryz.func39 aawnm39 aawbd39 (fun w1 hw => fnd_any Al cl l Areg creg reg (⟨ru.los, ru.gro + 4, ru.prb⟩ : Ru) w1 (pm_rd hw (k := 2) rfl) (by omega) hlok (pm_rd hw (k := 0) rfl)) ?_
    rintro ⟨⟨⟨⟨Afo, cfo⟩, fo⟩, efo⟩, hfo, hfol, hfoc, hfom⟩
    dsimp only [List.cons_append, List.nil_append]
    dsimp only at hfo hfol hfoc hfom ⊢
    obtain ⟨hfz, hfd⟩ := hfo.good hlv hreg.2 hvu (by omega)
    have hfe := qz_fnd hfd hq (by dsimp only; omega)
    refine TL.end_ ?_
    refine TX.held (fun w1 hw => hw.pick [2] (by decide) rfl) ?_
    refine TH.take (listed' := #[true, true, true, true, true, true, false, false, false, false]) 5 rfl (by kernel_rfl) (by kernel_rfl) (by kernel_rfl) rfl rfl rfl rfl (gives_move rfl rfl) (fun w1 hw => hw.pick [2] (by decide) rfl) ?_
    refine TH.take (listed' := #[true, true, true, true, true, true, true, false, false, false]) 6 rfl (by kernel_rfl) (by kernel_rfl) (by kernel_rfl) rfl rfl rfl rfl (gives_extract rfl rfl rfl) (fun w1 hw => hw.pick [2] (by decide) rfl) ?_
    refine TH.take (listed' := #[true, true, true, true, true, true, true, true, false, false]) 7 rfl (by kernel_rfl) (by kernel_rfl) (by kernel_rfl) rfl rfl rfl rfl (gives_extract rfl rfl rfl) (fun w1 hw => hw.pick [2] (by decide) rfl) ?_
    refine TH.take (listed' := #[true, true, true, true, true, true, true, true, true, false]) 8 rfl (by kernel_rfl) (by kernel_rfl) (by kernel_rfl) rfl rfl rfl rfl (gives_assign rfl rfl) (fun w1 hw => hw.pick [2] (by decide) rfl) ?_
    refine TH.take (listed' := #[true, true, true, true, true, true, true, true, true, true]) 9 rfl (by kernel_rfl) (by kernel_rfl) (by kernel_rfl) rfl rfl rfl rfl (gives_assign rfl rfl) (fun w1 hw => hw.pick [2] (by decide) rfl) ?_
    refine TH.done (by kernel_rfl) ?_
    refine TX.then_ ?_
    refine TC.seq_ ?_
    refine TC.region ?_
    refine TL.val rfl rfl rfl (gives_move rfl rfl) ?_
    refine TL.val rfl rfl rfl (gives_bin rfl rfl rfl (fun w => bin_eql_t (hfz) w)) ?_
    refine TL.val rfl rfl rfl (gives_move rfl rfl) ?_
    refine TL.on rfl rfl rfl ?_
    refine TL.val rfl rfl rfl (gives_move rfl rfl) ?_
    refine TL.on rfl rfl rfl ?_
    refine TL.val rfl rfl rfl (gives_len rfl Tryz.underlying49 rfl) ?_
    refine TL.on rfl rfl rfl ?_
    refine TL.val rfl rfl rfl (gives_bin rfl rfl rfl (fun w => bin_eql_t (by rw [hfe]; rfl) w)) ?_
    refine TL.val rfl rfl rfl (gives_pick rfl rfl rfl) ?_
    refine TL.val rfl rfl rfl (gives_assign rfl rfl) ?_
    refine TL.end_ ?_
    refine TX.then_ ?_
    refine TC.ret_ ?_
    exact ret_tmp Tryz.results8 rfl (fun w1 hw => ⟨rfl, hwb.trans (hw.bel.mono hwb.size)⟩)
end Go.Proofs.YtijmpjfafpodhaaGreat
