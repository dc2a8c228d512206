/-
  Texts of the proof, joined: AnSe, AnFd, SymFld, DcRs, DcShu, DcRes, SymRdA, DcRep, AnAwk, BdRad.
-/
import Derived.Test.YtijmpjfafpodhaaGreatAnomalyMonotonePk3
import Derived.Test.YtijmpjfafpodhaaGreatAnomalyMonotonePk2
import Derived.Test.YtijmpjfafpodhaaGreatAnomalyMonotonePk1
set_option linter.unusedVariables false
set_option linter.unusedSimpArgs false
namespace Go.Proofs.YtijmpjfafpodhaaGreat
set_option maxHeartbeats 1000000
open Go.RowKit
set_option maxRecDepth 20000
noncomputable def pdec (Q : Prop) : Bool := @decide Q (Classical.propDecidable Q)
theorem pdec_iff {Q : Prop} : pdec Q = true ↔ Q := by unfold pdec; exact @decide_eq_true_iff Q (Classical.propDecidable Q)
theorem pdec_of {Q : Prop} {b : Bool} (h : b = true ↔ Q) : b = pdec Q := by
 rw [Bool.eq_iff_iff, h, pdec_iff]
theorem asebld34_50680 (a0_0 : Int) (a1_0 : Int) (a1_1 : Int) (a1_2 : Int) (a2_0 : Int) (w : World) : (Instr.build 34 #[(0, .int .i64 a0_0), (1, .agg #[.int .i64 a1_0, .int .u32 a1_1, .int .i64 a1_2]), (2, .int .i64 a2_0)]).run Tryz.prog w = .ok (.agg #[.int .i64 a0_0, .int .i64 a1_0, .int .u32 a1_1, .int .i64 a1_2, .int .i64 a2_0, .int .i64 0, .int .i64 0, .int .i64 0]) w := by kernel_rfl
theorem asezv34 (w : World) : (zeroValue 34).run Tryz.prog w = .ok (.agg #[.int .i64 0, .int .i64 0, .int .u32 0, .int .i64 0, .int .i64 0, .int .i64 0, .int .i64 0, .int .i64 0]) w := rfl
theorem aseone_i64i64u32i64i64i64i64i64 {a0 : Int} {a1 : Int} {a2 : Int} {a3 : Int} {a4 : Int} {a5 : Int} {a6 : Int} {a7 : Int} : ∀ u ∈ [(.int .i64 a0 : Value), .int .i64 a1, .int .u32 a2, .int .i64 a3, .int .i64 a4, .int .i64 a5, .int .i64 a6, .int .i64 a7], u.oneCell' = true := by
 intro u hu
 simp only [List.mem_cons, List.not_mem_nil, or_false] at hu
 rcases hu with rfl | rfl | rfl | rfl | rfl | rfl | rfl | rfl <;> rfl
theorem asezv23 (w : World) : (zeroValue 23).run Tryz.prog w = .ok (.slice none 0 0) w := rfl
theorem asesz23 (w : World) : (sizeOf 23).run Tryz.prog w = .ok 1 w := rfl
theorem aseel49 : Elem Tryz.prog 49 34 8 64 := Elem.mk' Tryz.underlying49 (z := .agg #[.int .i64 0, .int .i64 0, .int .u32 0, .int .i64 0, .int .i64 0, .int .i64 0, .int .i64 0, .int .i64 0]) (by kernel_rfl) rfl (by omega) (by omega)
theorem asezv106 (w : World) : (zeroValue 106).run Tryz.prog w = .ok (.slice none 0 0) w := rfl
theorem asesz106 (w : World) : (sizeOf 106).run Tryz.prog w = .ok 1 w := rfl
theorem search_any (A0 : Option Addr) (c0 : Nat) (l : List Rs) (A1 : Option Addr) (c1 : Nat) (es : List En) (u : Ru) (r0 : Rs) (w : World) (hr : Reads w w.heap.size 17 A0 l.length (flat Rs.cells l)) (hl1 : l.length ≤ 100000) (hr1 : Reads w w.heap.size 5 A1 es.length (flat En.cells es)) (hl5 : l.length ≤ 512) (h0 : l[0]? = some r0) (hin : ∀ r ∈ l, r.inRange) (hu : 1 ≤ u.prb) :
  Calls Tryz.prog 92 #[.slice A0 l.length c0, .agg #[.slice A1 es.length c1], .agg u.cells.toArray] w fun e w' => ∃ x : {y : (Option Addr × Nat) × List Rp // (MinU (PrS es l u) (TmS r0 l) y.2 ∧ y.2.length ≤ 262657) ∧ y.2.length ≤ y.1.2 ∧ y.1.2 ≤ maxLen}, e = .returned (.slice x.1.1.1 x.1.2.length x.1.1.2) ∧ Pm w [.row (.slice x.1.1.1 x.1.2.length x.1.1.2) 34 8 x.1.2.length (flat Rp.cells x.1.2)] w' := by
 have hl0 : 0 < l.length := (List.getElem?_eq_some_iff.1 h0).1
 refine begin_ (vs := [.slice A0 l.length c0, .agg #[.slice A1 es.length c1], .agg u.cells.toArray]) Tryz.func92 rfl rfl rfl ?_ (Pm.start w)
 refine zSG ?_
 refine TL.pnew rfl rfl rfl (exec_box (cs := [.slice A0 l.length c0]) rfl rfl rfl) (fun g3 => ?_)
 refine TL.pnew rfl rfl rfl (exec_box (cs := [.slice A1 es.length c1]) rfl rfl rfl) (fun g4 => ?_)
 refine TL.pnew rfl rfl rfl (exec_box (cs := u.cells) rfl rfl rfl) (fun g5 => ?_)
 refine TL.as_ ?_
 refine zET (zSG (TL.rn 2 rfl (zET (zS (zSG (TL.v (gL 2 aeaag23) ?_))))))
 refine TL.v (gN Tryz.underlying23) ?_
 refine TL.mv ?_
 refine zET (zB (TC.nilrow 3 1 ?_))
 refine TC.nilrow 3 1 ?_
 refine TC.loop_ (α := {y : Nat × (Option Addr × Nat) × (Option Addr × Nat) × List Int × List Int // y.1 ≤ l.length ∧ (l.take y.1).map (fun s : Rs => s.at_) = y.2.2.2.1 ∧ (l.take y.1).map (fun s : Rs => s.ttl) = y.2.2.2.2 ∧ y.2.2.2.1.length ≤ y.2.1.2 ∧ y.2.1.2 ≤ maxLen ∧ y.2.2.2.2.length ≤ y.2.2.1.2 ∧ y.2.2.1.2 ≤ maxLen}) (fun y => [(3, .pointer (some ⟨g3, 0, none⟩)), (4, .pointer (some ⟨g4, 0, none⟩)), (5, .pointer (some ⟨g5, 0, none⟩)), (18, .slice A0 l.length c0), (19, .int .i64 (l.length : Nat)), (20, .int .i64 ((y.1.1 : Nat) : Int)), (7, .slice y.1.2.1.1 y.1.2.2.2.1.length y.1.2.1.2), (8, .slice y.1.2.2.1.1 y.1.2.2.2.2.length y.1.2.2.1.2)]) (fun y => Pm w [.row (.slice y.1.2.1.1 y.1.2.2.2.1.length y.1.2.1.2) 3 1 y.1.2.2.2.1.length (flat (ic .i64) y.1.2.2.2.1), .row (.slice y.1.2.2.1.1 y.1.2.2.2.2.length y.1.2.2.1.2) 3 1 y.1.2.2.2.2.length (flat (ic .i64) y.1.2.2.2.2), .blk g5 28 u.cells, .blk g4 26 [.slice A1 es.length c1], .blk g3 23 [.slice A0 l.length c0]]) (fun y => l.length - y.1.1) (⟨(0, (none, 0), (none, 0), [], []), Nat.zero_le _, rfl, rfl, Nat.le_refl _, Nat.zero_le _, Nat.le_refl _, Nat.zero_le _⟩) ⟨rfl, rfl, rfl, rfl, rfl, rfl, rfl, rfl, trivial⟩ (fun w1 hw => hw) ?_
 rintro ⟨⟨i, ⟨At, ct⟩, ⟨Al, cl⟩, tm, tt⟩, hi, hT, hL, hc1, hc2, hc3, hc4⟩
 dsimp only at hi hT hL hc1 hc2 hc3 hc4 ⊢
 have htl : tm.length ≤ 512 := by rw [← hT, List.length_map, List.length_take]; omega
 have hll : tt.length ≤ 512 := by rw [← hL, List.length_map, List.length_take]; omega
 refine zSG ?_
 refine TL.sp bin_lss (fun q21 => ?_) (fun q21 => ?_)
 ·refine zET (zS (zc (zk (zT (zS (zB (zSG ?_)))))))
  have hi22 : i < l.length := by omega
  obtain ⟨x22, hx22⟩ := ex_at hi22
  obtain ⟨b22, o22, hA22, hbb22, hc22⟩ := hr.ad (by omega) (by decide)
  refine TL.val rfl rfl rfl (gA (i := i) Tryz.underlying23 prssz65 rfl rfl rfl rfl hA22 (by omega)) ?_
  refine TL.v (gR rs_cel prsag65 prssz65 hbb22 hx22 hc22) ?_
  refine TL.pnew rfl rfl rfl (exec_alloc (cs := [.int .i64 0, .int .i64 0, .int .i64 0, .int .i64 0, .int .u32 0, .int .i64 0, .int .i64 0, .int .i64 0, .bool false, .bool false, .int .i64 0, .int .u32 0, .int .i64 0, .int .i64 0, .int .i64 0, .int .i64 0, .int .i64 0]) rfl arpzv65 rfl) (fun g10 => ?_)
  refine TL.pstore (k := 0) (vs := x22.cells) rfl rfl rfl rfl rfl rfl rfl prssz65 (rs_cel.one _) (by show 17 ≤ 17; decide) (L' := [.blk g10 65 x22.cells, .row (.slice At tm.length ct) 3 1 tm.length (flat (ic .i64) tm), .row (.slice Al tt.length cl) 3 1 tt.length (flat (ic .i64) tt), .blk g5 28 u.cells, .blk g4 26 [.slice A1 es.length c1], .blk g3 23 [.slice A0 l.length c0]]) rfl ?_
  refine zET (TC.held (ls := #[Ff,Ff,Ff,Ff,Ff,Ff,Ff,Ff,Ff,Ff,Ff,Ff]) (Pm w [.blk g10 65 x22.cells]) (by kernel_rfl) rfl rfl (fun w hw => hw.drawn _) ?_)
  refine TH.tk 0 rfl rfl rfl (gives_move rfl rfl) (fun w1 hw => hw.pick [0] (by decide) rfl) ?_
  refine TH.tk 1 rfl rfl rfl (gF prsfld65_3) (fun w1 hw => hw.pick [0] (by decide) rfl) ?_
  refine TH.tk 2 rfl rfl rfl (gL 0 pcmag3) (fun w1 hw => hw.pick [0] (by decide) rfl) ?_
  refine TH.tk 5 rfl rfl rfl (gives_move rfl rfl) (fun w1 hw => hw.pick [0] (by decide) rfl) ?_
  refine TH.tk 6 rfl rfl rfl (gF prsfld65_7) (fun w1 hw => hw.pick [0] (by decide) rfl) ?_
  refine TH.tk 7 rfl rfl rfl (gL 0 pcmag3) (fun w1 hw => hw.pick [0] (by decide) rfl) ?_
  refine TH.two' (listed1 := #[Tt,Tt,Tt,Tt,Ff,Tt,Tt,Tt,Ff,Ff,Ff,Ff]) (listed2 := #[Tt,Tt,Tt,Ff,Ff,Tt,Tt,Tt,Tt,Ff,Ff,Ff]) 3 8 rfl rfl (by kernel_rfl) rfl rfl ?_ ?_
  ·refine TL.prowS (e := 3) (size := 1) (cs := flat (ic .i64) [x22.at_]) rfl rfl rfl rfl rfl (fun w => adtbs106_1_5377 _ w) (by decide) rfl (fun g27 => ?_)
   refine zE ?_
   refine TX.held (fun w1 hw => hw.pick [1] (by decide) rfl) ?_
   refine TH.two' (listed1 := #[Tt,Tt,Tt,Tt,Tt,Tt,Tt,Tt,Ff,Ff,Ff,Ff]) (listed2 := #[Tt,Tt,Tt,Tt,Ff,Tt,Tt,Tt,Tt,Ff,Ff,Ff]) 4 8 rfl rfl (by kernel_rfl) rfl rfl ?_ ?_
   ·refine TL.appendT (k := 2) rfl rfl rfl rfl Tryz.underlying106 adtel106 rfl rfl rfl (fun w1 hw => pm_reads hw (k := 0) rfl) (flat_one (ic_cel .i64) _) (by show _ * 8 ≤ _; omega) ((tm ++ [x22.at_]).length) (by rw [List.length_append]; rfl) (flat (ic .i64) (tm ++ [x22.at_])) ((flat_app _ _).symm) (fun A28 c28 hA281 hA282 => ?_)
    refine zE ?_
    refine TX.held (fun w1 hw => hw.pick [1] (by decide) rfl) ?_
    refine TH.only' 8 rfl (by kernel_rfl) rfl ?_
    refine TL.prowS (e := 3) (size := 1) (cs := flat (ic .i64) [x22.ttl]) rfl rfl rfl rfl rfl (fun w => adtbs106_1_5377 _ w) (by decide) rfl (fun g32 => ?_)
    refine zE ?_
    refine TX.held (fun w1 hw => hw.pick [2] (by decide) rfl) ?_
    refine TH.only' 9 rfl (by kernel_rfl) rfl ?_
    refine TL.appendT (k := 4) rfl rfl rfl rfl Tryz.underlying106 adtel106 rfl rfl rfl (fun w1 hw => pm_reads hw (k := 0) rfl) (flat_one (ic_cel .i64) _) (by show _ * 8 ≤ _; omega) ((tt ++ [x22.ttl]).length) (by rw [List.length_append]; rfl) (flat (ic .i64) (tt ++ [x22.ttl])) ((flat_app _ _).symm) (fun A33 c33 hA331 hA332 => ?_)
    refine zE ?_
    refine TX.he (fun w1 hw => hw.pick [2] (by decide) rfl) fun hS => ?_
    refine TH.t 10 rfl (gives_assign rfl rfl) hS ?_
    refine TH.t 11 rfl (gives_assign rfl rfl) hS ?_
    refine TH.done (by kernel_rfl) ?_
    refine zN (zT (zG (TL.v (gD ((i + 1 : Nat) : Int)) ?_)))
    refine TL.mv ?_
    refine zE ?_
    exact TX.round (⟨(i + 1, (A28, c28), (A33, c33), tm ++ [x22.at_], tt ++ [x22.ttl]), by dsimp only; omega, mapt_snoc (f := fun s : Rs => s.at_) hx22 hT, mapt_snoc (f := fun s : Rs => s.ttl) hx22 hL, hA281, hA282, hA331, hA332⟩) (by show l.length - (i + 1) < l.length - i; omega) ⟨rfl, rfl, rfl, rfl, rfl, rfl, rfl, rfl, trivial⟩ (fun w1 hw => hw.pick [3, 4, 5, 6, 7] (by decide) rfl)
   refine TL.prowS (e := 3) (size := 1) (cs := flat (ic .i64) [x22.ttl]) rfl rfl rfl rfl rfl (fun w => adtbs106_1_5377 _ w) (by decide) rfl (fun g32 => ?_)
   refine zE ?_
   refine TX.held (fun w1 hw => hw.pick [2] (by decide) rfl) ?_
   refine TH.only' 4 rfl (by kernel_rfl) rfl ?_
   refine TL.appendT (k := 3) rfl rfl rfl rfl Tryz.underlying106 adtel106 rfl rfl rfl (fun w1 hw => pm_reads hw (k := 1) rfl) (flat_one (ic_cel .i64) _) (by show _ * 8 ≤ _; omega) ((tm ++ [x22.at_]).length) (by rw [List.length_append]; rfl) (flat (ic .i64) (tm ++ [x22.at_])) ((flat_app _ _).symm) (fun A28 c28 hA281 hA282 => ?_)
   refine zE ?_
   refine TX.held (fun w1 hw => hw.pick [2] (by decide) rfl) ?_
   refine TH.only' 9 rfl (by kernel_rfl) rfl ?_
   refine TL.appendT (k := 4) rfl rfl rfl rfl Tryz.underlying106 adtel106 rfl rfl rfl (fun w1 hw => pm_reads hw (k := 0) rfl) (flat_one (ic_cel .i64) _) (by show _ * 8 ≤ _; omega) ((tt ++ [x22.ttl]).length) (by rw [List.length_append]; rfl) (flat (ic .i64) (tt ++ [x22.ttl])) ((flat_app _ _).symm) (fun A33 c33 hA331 hA332 => ?_)
   refine zE ?_
   refine TX.he (fun w1 hw => hw.pick [2] (by decide) rfl) fun hS => ?_
   refine TH.t 10 rfl (gives_assign rfl rfl) hS ?_
   refine TH.t 11 rfl (gives_assign rfl rfl) hS ?_
   refine TH.done (by kernel_rfl) ?_
   refine zN (zT (zG (TL.v (gD ((i + 1 : Nat) : Int)) ?_)))
   refine TL.mv ?_
   refine zE ?_
   exact TX.round (⟨(i + 1, (A28, c28), (A33, c33), tm ++ [x22.at_], tt ++ [x22.ttl]), by dsimp only; omega, mapt_snoc (f := fun s : Rs => s.at_) hx22 hT, mapt_snoc (f := fun s : Rs => s.ttl) hx22 hL, hA281, hA282, hA331, hA332⟩) (by show l.length - (i + 1) < l.length - i; omega) ⟨rfl, rfl, rfl, rfl, rfl, rfl, rfl, rfl, trivial⟩ (fun w1 hw => hw.pick [3, 4, 5, 6, 7] (by decide) rfl)
  refine TL.prowS (e := 3) (size := 1) (cs := flat (ic .i64) [x22.ttl]) rfl rfl rfl rfl rfl (fun w => adtbs106_1_5377 _ w) (by decide) rfl (fun g32 => ?_)
  refine zE ?_
  refine TX.held (fun w1 hw => hw.pick [1] (by decide) rfl) ?_
  refine TH.only' 3 rfl (by kernel_rfl) rfl ?_
  refine TL.prowS (e := 3) (size := 1) (cs := flat (ic .i64) [x22.at_]) rfl rfl rfl rfl rfl (fun w => adtbs106_1_5377 _ w) (by decide) rfl (fun g27 => ?_)
  refine zE ?_
  refine TX.held (fun w1 hw => hw.pick [2] (by decide) rfl) ?_
  refine TH.only' 4 rfl (by kernel_rfl) rfl ?_
  refine TL.appendT (k := 3) rfl rfl rfl rfl Tryz.underlying106 adtel106 rfl rfl rfl (fun w1 hw => pm_reads hw (k := 0) rfl) (flat_one (ic_cel .i64) _) (by show _ * 8 ≤ _; omega) ((tm ++ [x22.at_]).length) (by rw [List.length_append]; rfl) (flat (ic .i64) (tm ++ [x22.at_])) ((flat_app _ _).symm) (fun A28 c28 hA281 hA282 => ?_)
  refine zE ?_
  refine TX.held (fun w1 hw => hw.pick [2] (by decide) rfl) ?_
  refine TH.only' 9 rfl (by kernel_rfl) rfl ?_
  refine TL.appendT (k := 4) rfl rfl rfl rfl Tryz.underlying106 adtel106 rfl rfl rfl (fun w1 hw => pm_reads hw (k := 1) rfl) (flat_one (ic_cel .i64) _) (by show _ * 8 ≤ _; omega) ((tt ++ [x22.ttl]).length) (by rw [List.length_append]; rfl) (flat (ic .i64) (tt ++ [x22.ttl])) ((flat_app _ _).symm) (fun A33 c33 hA331 hA332 => ?_)
  refine zE ?_
  refine TX.he (fun w1 hw => hw.pick [2] (by decide) rfl) fun hS => ?_
  refine TH.t 10 rfl (gives_assign rfl rfl) hS ?_
  refine TH.t 11 rfl (gives_assign rfl rfl) hS ?_
  refine TH.done (by kernel_rfl) ?_
  refine zN (zT (zG (TL.v (gD ((i + 1 : Nat) : Int)) ?_)))
  refine TL.mv ?_
  refine zE ?_
  exact TX.round (⟨(i + 1, (A28, c28), (A33, c33), tm ++ [x22.at_], tt ++ [x22.ttl]), by dsimp only; omega, mapt_snoc (f := fun s : Rs => s.at_) hx22 hT, mapt_snoc (f := fun s : Rs => s.ttl) hx22 hL, hA281, hA282, hA331, hA332⟩) (by show l.length - (i + 1) < l.length - i; omega) ⟨rfl, rfl, rfl, rfl, rfl, rfl, rfl, rfl, trivial⟩ (fun w1 hw => hw.pick [3, 4, 5, 6, 7] (by decide) rfl)
 refine zET (zS (zd (zx (zX (zX (zM (zT (zS ?_))))))))
 have hT2 : l.map (fun s : Rs => s.at_) = tm := by rw [List.take_of_length_le (by omega)] at hT; exact hT
 have hL2 : l.map (fun s : Rs => s.ttl) = tt := by rw [List.take_of_length_le (by omega)] at hL; exact hL
 have html : tm.length = l.length := by rw [← hT2, List.length_map]
 have httl : tt.length = l.length := by rw [← hL2, List.length_map]
 refine zG (TL.mv ?_)
 refine TL.turnRowD (k := 0) (fun ys => SortedI tm ys) rfl rfl rfl rfl rfl Tryz.func124 (by decide) rfl rfl (fun w1 hw hr9 => sortInt hr9 rfl (by omega)) (fun sT hsT => ?_)
 try dsimp only [List.set_cons_zero, List.set_cons_succ]
 have hsTl : sT.length = tm.length := hsT.1.length_eq
 have hsTc : (cptG sT).length ≤ sT.length := cptG_le sT
 refine zET (zSG (TL.mv ?_))
 refine TL.turnRowD (k := 1) (fun ys => SortedI tt ys) rfl rfl rfl rfl rfl Tryz.func124 (by decide) rfl rfl (fun w1 hw hr9 => sortInt hr9 rfl (by omega)) (fun sL hsL => ?_)
 try dsimp only [List.set_cons_zero, List.set_cons_succ]
 have hsLl : sL.length = tt.length := hsL.1.length_eq
 have hsLc : (cptG sL).length ≤ sL.length := cptG_le sL
 refine zET (zS ?_)
 have hnT : IsNum (l.map (fun s : Rs => s.at_)) (cptG sT) := by rw [hT2]; exact isNum_of hsT
 have hnL : IsNum (l.map (fun s : Rs => s.ttl)) (cptG sL) := by rw [hL2]; exact isNum_of hsL
 refine zG (TL.mv ?_)
 refine TL.turnRow2 (q := 0) (ys := cptG sT) rfl rfl rfl rfl rfl Tryz.func139 (by decide) rfl rfl (fun w1 hw hr9 => compactInt hr9 (hsTl) (by omega)) ?_
 try dsimp only [List.set_cons_zero, List.set_cons_succ]
 refine TL.mv ?_
 refine TL.turnRow2 (q := 1) (ys := cptG sL) rfl rfl rfl rfl rfl Tryz.func139 (by decide) rfl rfl (fun w1 hw hr9 => compactInt hr9 (hsLl) (by omega)) ?_
 try dsimp only [List.set_cons_zero, List.set_cons_succ]
 refine TL.rn 2 rfl (zET ?_)
 obtain ⟨b44, o44, hA44, hbb44, hc44⟩ := hr.ad (by omega) (by decide)
 have hx44 := h0
 refine TC.join (α := Nat) (fun y => [(3, .pointer (some ⟨g3, 0, none⟩)), (4, .pointer (some ⟨g4, 0, none⟩)), (5, .pointer (some ⟨g5, 0, none⟩)), (7, .slice At ((cptG sT).length) ct), (8, .slice Al ((cptG sL).length) cl), (11, .pointer (some ⟨y, 0, none⟩))]) (fun y => Pm w [.blk y 34 [.int .i64 1, .int .i64 r0.v, .int .u32 r0.dst, .int .i64 r0.proto, .int .i64 r0.flow, .int .i64 0, .int .i64 0, .int .i64 0], .row (.slice At ((cptG sT).length) ct) 3 1 ((cptG sT).length) (flat (ic .i64) (cptG sT)), .row (.slice Al ((cptG sL).length) cl) 3 1 ((cptG sL).length) (flat (ic .i64) (cptG sL)), .blk g5 28 u.cells, .blk g4 26 [.slice A1 es.length c1], .blk g3 23 [.slice A0 l.length c0]]) ?_ ?_
 ·refine TC.held (ls := #[Ff,Ff,Ff,Ff,Ff,Ff,Ff,Ff,Ff,Ff,Ff]) (Pm w [.blk g3 23 [.slice A0 l.length c0]]) (by kernel_rfl) rfl rfl (fun w hw => hw.drawn _) ?_
  refine TH.tk 0 rfl rfl rfl (gL 0 aeaag23) (fun w1 hw => hw.pick [4] (by decide) rfl) ?_
  refine TH.tk 1 rfl rfl rfl (gA (i := 0) Tryz.underlying23 prssz65 rfl rfl rfl rfl hA44 (by omega)) (fun w1 hw => hw.pick [4] (by decide) rfl) ?_
  refine TH.tk 2 rfl rfl rfl (gR rs_cel prsag65 prssz65 hbb44 hx44 hc44) (fun w1 hw => hw.pick [4] (by decide) rfl) ?_
  refine TH.tk 4 rfl rfl rfl (gL 0 aeaag23) (fun w1 hw => hw.pick [4] (by decide) rfl) ?_
  refine TH.tk 5 rfl rfl rfl (gA (i := 0) Tryz.underlying23 prssz65 rfl rfl rfl rfl hA44 (by omega)) (fun w1 hw => hw.pick [4] (by decide) rfl) ?_
  refine TH.tk 6 rfl rfl rfl (gF prsfld65_6) (fun w1 hw => hw.pick [4] (by decide) rfl) ?_
  refine TH.tk 7 rfl rfl rfl (gS 6 rs_cel pcmag3 hbb44 hx44 hc44) (fun w1 hw => hw.pick [4] (by decide) rfl) ?_
  refine TH.two' (listed1 := #[Tt,Tt,Tt,Tt,Tt,Tt,Tt,Tt,Ff,Ff,Ff]) (listed2 := #[Tt,Tt,Tt,Ff,Tt,Tt,Tt,Tt,Ff,Tt,Ff]) 3 9 rfl rfl (by kernel_rfl) rfl rfl ?_ ?_
  ·refine TL.pcall1 (r := .agg ((trcR r0).cells).toArray) rfl rfl rfl rfl rfl Tryz.func135 (by decide) rfl (fun w1 hw => trc_any r0 w1) ?_
   refine zE ?_
   refine TX.he (fun w1 hw => hw.pick [4] (by decide) rfl) fun hS => ?_
   refine TH.t 8 rfl (gives_build (v := .agg #[.int .i64 1, .int .i64 ((trcR r0).v), .int .u32 ((trcR r0).dst), .int .i64 ((trcR r0).proto), .int .i64 r0.flow, .int .i64 0, .int .i64 0, .int .i64 0]) rfl rfl (fun w => asebld34_50680 _ _ _ _ _ w)) hS ?_
   refine TH.only' 9 rfl (by kernel_rfl) rfl ?_
   refine TL.pnew rfl rfl rfl (exec_alloc (cs := [.int .i64 0, .int .i64 0, .int .u32 0, .int .i64 0, .int .i64 0, .int .i64 0, .int .i64 0, .int .i64 0]) rfl asezv34 rfl) (fun g11 => ?_)
   refine zE ?_
   refine TX.held (fun w1 hw => hw.pick [5] (by decide) rfl) ?_
   refine TH.only' 10 rfl (by kernel_rfl) rfl ?_
   refine TL.pstore (k := 0) (vs := [.int .i64 1, .int .i64 ((trcR r0).v), .int .u32 ((trcR r0).dst), .int .i64 ((trcR r0).proto), .int .i64 r0.flow, .int .i64 0, .int .i64 0, .int .i64 0]) rfl rfl rfl rfl rfl rfl rfl aprsz34 aseone_i64i64u32i64i64i64i64i64 (by show 8 ≤ 8; decide) rfl ?_
   refine zE ?_
   refine TX.held (fun w1 hw => hw.pick [5] (by decide) rfl) ?_
   refine TH.done (by kernel_rfl) ?_
   exact TX.joined (g11) (⟨rfl, rfl, rfl, rfl, rfl, rfl, trivial⟩) (fun w1 hw => hw)
  refine TL.pnew rfl rfl rfl (exec_alloc (cs := [.int .i64 0, .int .i64 0, .int .u32 0, .int .i64 0, .int .i64 0, .int .i64 0, .int .i64 0, .int .i64 0]) rfl asezv34 rfl) (fun g11 => ?_)
  refine zE ?_
  refine TX.held (fun w1 hw => hw.pick [5] (by decide) rfl) ?_
  refine TH.only' 3 rfl (by kernel_rfl) rfl ?_
  refine TL.pcall1 (r := .agg ((trcR r0).cells).toArray) rfl rfl rfl rfl rfl Tryz.func135 (by decide) rfl (fun w1 hw => trc_any r0 w1) ?_
  refine zE ?_
  refine TX.he (fun w1 hw => hw.pick [5] (by decide) rfl) fun hS => ?_
  refine TH.t 8 rfl (gives_build (v := .agg #[.int .i64 1, .int .i64 ((trcR r0).v), .int .u32 ((trcR r0).dst), .int .i64 ((trcR r0).proto), .int .i64 r0.flow, .int .i64 0, .int .i64 0, .int .i64 0]) rfl rfl (fun w => asebld34_50680 _ _ _ _ _ w)) hS ?_
  refine TH.only' 10 rfl (by kernel_rfl) rfl ?_
  refine TL.pstore (k := 0) (vs := [.int .i64 1, .int .i64 ((trcR r0).v), .int .u32 ((trcR r0).dst), .int .i64 ((trcR r0).proto), .int .i64 r0.flow, .int .i64 0, .int .i64 0, .int .i64 0]) rfl rfl rfl rfl rfl rfl rfl aprsz34 aseone_i64i64u32i64i64i64i64i64 (by show 8 ≤ 8; decide) rfl ?_
  refine zE ?_
  refine TX.held (fun w1 hw => hw.pick [5] (by decide) rfl) ?_
  refine TH.done (by kernel_rfl) ?_
  exact TX.joined (g11) (⟨rfl, rfl, rfl, rfl, rfl, rfl, trivial⟩) (fun w1 hw => hw)
 rintro g11
 refine zSG (TL.v (gV 0 (.agg #[.int .i64 1, .int .i64 r0.v, .int .u32 r0.dst, .int .i64 r0.proto, .int .i64 r0.flow, .int .i64 0, .int .i64 0, .int .i64 0]) aprag34 aprsz34) ?_)
 refine TL.mv ?_
 refine TL.val rfl rfl rfl (gives_makeFunc rfl rfl rfl) ?_
 refine TL.call (α := {y : (Option Addr × Nat) × List Rp // EarB (fun t => bhF l u.los t) (cB r0) (cptG sT) y.2 ∧ y.2.length ≤ 1 ∧ y.2.length ≤ y.1.2 ∧ y.1.2 ≤ maxLen}) (r := fun y => .slice y.1.1.1 y.1.2.length y.1.1.2) (I' := fun y => Pm w [.row (.slice y.1.1.1 y.1.2.length y.1.1.2) 34 8 y.1.2.length (flat Rp.cells y.1.2), .row (.slice At ((cptG sT).length) ct) 3 1 ((cptG sT).length) (flat (ic .i64) (cptG sT)), .blk g11 34 [.int .i64 1, .int .i64 r0.v, .int .u32 r0.dst, .int .i64 r0.proto, .int .i64 r0.flow, .int .i64 0, .int .i64 0, .int .i64 0], .row (.slice Al ((cptG sL).length) cl) 3 1 ((cptG sL).length) (flat (ic .i64) (cptG sL)), .blk g5 28 u.cells, .blk g4 26 [.slice A1 es.length c1], .blk g3 23 [.slice A0 l.length c0]]) rfl rfl rfl rfl rfl Tryz.func140 (by decide) rfl (fun w1 hw => earliest_any w [.blk g11 34 [.int .i64 1, .int .i64 r0.v, .int .u32 r0.dst, .int .i64 r0.proto, .int .i64 r0.flow, .int .i64 0, .int .i64 0, .int .i64 0], .row (.slice Al ((cptG sL).length) cl) 3 1 ((cptG sL).length) (flat (ic .i64) (cptG sL)), .blk g5 28 u.cells, .blk g4 26 [.slice A1 es.length c1], .blk g3 23 [.slice A0 l.length c0]] At ct (cptG sT) (cB r0) (fun t => bhF l u.los t) 141 _ #[.pointer (some ⟨g3, 0, none⟩), .pointer (some ⟨g5, 0, none⟩)] w1 (hw.pick [1, 0, 2, 3, 4, 5] (by decide) rfl) (by omega) Tryz.func141 (by decide) rfl (fun t w1 ⟨L1, h9⟩ => by have h8 : Pm w [.blk g11 34 [.int .i64 1, .int .i64 r0.v, .int .u32 r0.dst, .int .i64 r0.proto, .int .i64 r0.flow, .int .i64 0, .int .i64 0, .int .i64 0], .row (.slice Al ((cptG sL).length) cl) 3 1 ((cptG sL).length) (flat (ic .i64) (cptG sL)), .blk g5 28 u.cells, .blk g4 26 [.slice A1 es.length c1], .blk g3 23 [.slice A0 l.length c0]] w1 := h9.sel (List.sublist_append_right L1 _); exact srch1_any A0 c0 l u t g3 g5 w1 (hr.up h8.bel) hl1 (Pc.lt (h8.at_ (k := 4) rfl) g3 rfl).2 (h8.cell (k := 4) rfl 0) (Pc.lt (h8.at_ (k := 2) rfl) g5 rfl).2 (h8.cell (k := 2) rfl 0))) ?_
 rintro ⟨⟨⟨R55, rc55⟩, o55⟩, hP55, hl55, hc55, hm55⟩
 dsimp only at hP55 hl55 hc55 hm55 ⊢
 refine TL.as_ ?_
 refine zET (zS (zS ?_))
 have hM0 := sa_start hP55 hnT.1 (fun t => rfl) (es := es)
 refine zG (TL.mv ?_)
 refine TL.v (gN Tryz.underlying106) ?_
 refine TL.mv ?_
 refine zET (zB ?_)
 refine TC.loop_ (α := {y : Nat × (Option Addr × Nat) × List Rp × Int × Int × Int // y.1 ≤ (cptG sL).length ∧ MinU (PrS es l u) (SA es r0 l (cptG sT) ((cptG sL).take y.1)) y.2.2.1 ∧ y.2.2.1.length ≤ 1 + 513 * y.1 ∧ y.2.2.1.length ≤ y.2.1.2 ∧ y.2.1.2 ≤ maxLen}) (fun y => [(3, .pointer (some ⟨g3, 0, none⟩)), (4, .pointer (some ⟨g4, 0, none⟩)), (5, .pointer (some ⟨g5, 0, none⟩)), (7, .slice At ((cptG sT).length) ct), (8, .slice Al ((cptG sL).length) cl), (11, .pointer (some ⟨g11, 0, none⟩)), (56, .slice Al ((cptG sL).length) cl), (57, .int .i64 ((cptG sL).length : Nat)), (58, .int .i64 ((y.1.1 : Nat) : Int)), (12, .slice y.1.2.1.1 y.1.2.2.1.length y.1.2.1.2)]) (fun y => Pm w [.row (.slice y.1.2.1.1 y.1.2.2.1.length y.1.2.1.2) 34 8 y.1.2.2.1.length (flat Rp.cells y.1.2.2.1), .row (.slice At ((cptG sT).length) ct) 3 1 ((cptG sT).length) (flat (ic .i64) (cptG sT)), .blk g11 34 [.int .i64 y.1.2.2.2.1, .int .i64 r0.v, .int .u32 r0.dst, .int .i64 r0.proto, .int .i64 r0.flow, .int .i64 y.1.2.2.2.2.1, .int .i64 0, .int .i64 y.1.2.2.2.2.2], .row (.slice Al ((cptG sL).length) cl) 3 1 ((cptG sL).length) (flat (ic .i64) (cptG sL)), .blk g5 28 u.cells, .blk g4 26 [.slice A1 es.length c1], .blk g3 23 [.slice A0 l.length c0]]) (fun y => (cptG sL).length - y.1.1) (⟨(0, (R55, rc55), o55, 1, 0, 0), Nat.zero_le _, by rw [List.take_zero]; exact hM0, by dsimp only; omega, hc55, hm55⟩) ⟨rfl, rfl, rfl, rfl, rfl, rfl, rfl, rfl, rfl, rfl, trivial⟩ (fun w1 hw => hw) ?_
 rintro ⟨⟨i2, ⟨Ao, co⟩, out, kd, tl, pv⟩, hi2, hM, hol, hoc, hom⟩
 dsimp only at hi2 hM hol hoc hom ⊢
 refine zSG ?_
 refine TL.sp bin_lss (fun q59 => ?_) (fun q59 => ?_)
 ·refine zET (zS (zc (zk (zT (zS (zB (zSG ?_)))))))
  refine TL.fact (p := ∃ g, Al = some ⟨g, 0, none⟩) (fun w1 hw => rowA hw (k := 3) rfl (by omega)) ?_
  rintro ⟨g_Al, rfl⟩
  have hi60 : i2 < (cptG sL).length := by omega
  obtain ⟨x60, hx60⟩ := ex_at hi60
  refine TL.val rfl rfl rfl (gA (i := i2) Tryz.underlying106 pcmsz3 rfl rfl rfl rfl rfl (by omega)) ?_
  refine TL.val rfl rfl rfl (gives_load (v := .int .i64 x60) rfl rfl pcmag3 (fun w1 hw => flat_row (ic_cel .i64) hw (q := 3) rfl hx60 0 _ rfl)) ?_
  refine TL.as_ ?_
  refine zET (zSG (TL.mv ?_))
  refine TL.v (gF arpfld34_3) ?_
  refine TL.pstore (k := 2) (vs := [.int .i64 x60]) rfl rfl rfl rfl rfl rfl rfl pcmsz3 aeaone_i64 (by show 6 ≤ 8; decide) rfl ?_
  refine TL.v (gF arpfld34_5) ?_
  refine TL.pstore (k := 2) (vs := [.int .i64 0]) rfl rfl rfl rfl rfl rfl rfl pcmsz3 aeaone_i64 (by show 8 ≤ 8; decide) rfl ?_
  refine TL.v (gF arpfld34_0) ?_
  refine TL.pstore (k := 2) (vs := [.int .i64 3]) rfl rfl rfl rfl rfl rfl rfl pcmsz3 aeaone_i64 (by show 1 ≤ 8; decide) rfl ?_
  refine zET (zSG (TL.v (gL 6 aeaag23) ?_))
  refine TL.mv ?_
  refine TL.pcallPm (α := {y : (Option Addr × Nat) × List Rs // y.2 = atL l x60 ∧ y.2.length ≤ y.1.2 ∧ y.1.2 ≤ maxLen}) (fun x => .slice x.1.1.1 x.1.2.length x.1.1.2) (fun x => [.row (.slice x.1.1.1 x.1.2.length x.1.1.2) 65 17 x.1.2.length (flat Rs.cells x.1.2)]) rfl rfl rfl rfl rfl Tryz.func77 (by decide) rfl (fun w1 hw => atl_any A0 c0 l x60 w1 (hr.up hw.bel) hl1) ?_
  rintro ⟨⟨⟨R68, rc68⟩, at68⟩, hP68, hR681, hR682⟩
  dsimp only [List.cons_append, List.nil_append]
  dsimp only at hP68 hR681 hR682 ⊢
  refine TL.pnew rfl rfl rfl (exec_alloc (cs := [.slice none 0 0]) rfl asezv23 rfl) (fun g15 => ?_)
  refine TL.pstore (k := 0) (vs := [.slice R68 at68.length rc68]) rfl rfl rfl rfl rfl rfl rfl asesz23 dntone_s (by show 1 ≤ 1; decide) rfl ?_
  refine zET (zS ?_)
  have hat : at68.length ≤ l.length := by rw [hP68]; exact List.length_filter_le _ _
  refine zG (TL.mv ?_)
  refine TL.v (gV 4 (.agg #[.int .i64 3, .int .i64 r0.v, .int .u32 r0.dst, .int .i64 r0.proto, .int .i64 r0.flow, .int .i64 x60, .int .i64 0, .int .i64 0]) aprag34 aprsz34) ?_
  refine TL.mv ?_
  refine TL.val rfl rfl rfl (gives_makeFunc rfl rfl rfl) ?_
  refine TL.call (α := {y : (Option Addr × Nat) × List Rp // EarB (fun t => pdec (u.prb < 1 ∨ CgF (eaL (atL l x60) t) (laL (atL l x60) t) u.prb u.gro)) (cC r0 x60) (cptG sT) y.2 ∧ y.2.length ≤ 1 ∧ y.2.length ≤ y.1.2 ∧ y.1.2 ≤ maxLen}) (r := fun y => .slice y.1.1.1 y.1.2.length y.1.1.2) (I' := fun y => Pm w [.row (.slice y.1.1.1 y.1.2.length y.1.1.2) 34 8 y.1.2.length (flat Rp.cells y.1.2), .row (.slice At ((cptG sT).length) ct) 3 1 ((cptG sT).length) (flat (ic .i64) (cptG sT)), .blk g15 23 [.slice R68 at68.length rc68], .row (.slice R68 at68.length rc68) 65 17 at68.length (flat Rs.cells at68), .row (.slice Ao out.length co) 34 8 out.length (flat Rp.cells out), .blk g11 34 [.int .i64 3, .int .i64 r0.v, .int .u32 r0.dst, .int .i64 r0.proto, .int .i64 r0.flow, .int .i64 x60, .int .i64 0, .int .i64 0], .row (.slice (some ⟨g_Al, 0, none⟩) ((cptG sL).length) cl) 3 1 ((cptG sL).length) (flat (ic .i64) (cptG sL)), .blk g5 28 u.cells, .blk g4 26 [.slice A1 es.length c1], .blk g3 23 [.slice A0 l.length c0]]) rfl rfl rfl rfl rfl Tryz.func140 (by decide) rfl (fun w1 hw => earliest_any w [.blk g15 23 [.slice R68 at68.length rc68], .row (.slice R68 at68.length rc68) 65 17 at68.length (flat Rs.cells at68), .row (.slice Ao out.length co) 34 8 out.length (flat Rp.cells out), .blk g11 34 [.int .i64 3, .int .i64 r0.v, .int .u32 r0.dst, .int .i64 r0.proto, .int .i64 r0.flow, .int .i64 x60, .int .i64 0, .int .i64 0], .row (.slice (some ⟨g_Al, 0, none⟩) ((cptG sL).length) cl) 3 1 ((cptG sL).length) (flat (ic .i64) (cptG sL)), .blk g5 28 u.cells, .blk g4 26 [.slice A1 es.length c1], .blk g3 23 [.slice A0 l.length c0]] At ct (cptG sT) (cC r0 x60) (fun t => pdec (u.prb < 1 ∨ CgF (eaL (atL l x60) t) (laL (atL l x60) t) u.prb u.gro)) 142 _ #[.pointer (some ⟨g15, 0, none⟩), .pointer (some ⟨g5, 0, none⟩)] w1 (hw.pick [3, 0, 1, 2, 4, 5, 6, 7, 8] (by decide) rfl) (by omega) Tryz.func142 (by decide) rfl (fun t w1 ⟨L1, h9⟩ => by have h8 : Pm w [.blk g15 23 [.slice R68 at68.length rc68], .row (.slice R68 at68.length rc68) 65 17 at68.length (flat Rs.cells at68), .row (.slice Ao out.length co) 34 8 out.length (flat Rp.cells out), .blk g11 34 [.int .i64 3, .int .i64 r0.v, .int .u32 r0.dst, .int .i64 r0.proto, .int .i64 r0.flow, .int .i64 x60, .int .i64 0, .int .i64 0], .row (.slice (some ⟨g_Al, 0, none⟩) ((cptG sL).length) cl) 3 1 ((cptG sL).length) (flat (ic .i64) (cptG sL)), .blk g5 28 u.cells, .blk g4 26 [.slice A1 es.length c1], .blk g3 23 [.slice A0 l.length c0]] w1 := h9.sel (List.sublist_append_right L1 _); exact (srch2_any R68 rc68 at68 u t g15 g5 w1 (pm_rd h8 (k := 1) rfl) (by omega) (fun r hr => hin r (mem_atL.1 (hP68 ▸ hr)).1) (Pc.lt (h8.at_ (k := 0) rfl) g15 rfl).2 (h8.cell (k := 0) rfl 0) (Pc.lt (h8.at_ (k := 5) rfl) g5 rfl).2 (fun j v hv => by rw [Nat.zero_add, h8.cell (k := 5) rfl j]; exact hv)).mono fun en w2 ⟨x, h1, h2⟩ => ⟨by rw [h1, pdec_of x.2, hP68], h2⟩)) ?_
  rintro ⟨⟨⟨R73, rc73⟩, o73⟩, hP73, hl73, hc73, hm73⟩
  dsimp only at hP73 hl73 hc73 hm73 ⊢
  refine TL.appendT (k := 4) rfl rfl rfl rfl Tryz.underlying49 aseel49 rfl rfl rfl (fun w1 hw => pm_reads hw (k := 0) rfl) (flat_one rp_cel _) (by show _ * 64 ≤ _; omega) ((out ++ o73).length) (List.length_append) (flat Rp.cells (out ++ o73)) ((flat_app _ _).symm) (fun A74 c74 hA741 hA742 => ?_)
  refine TL.as_ ?_
  refine zET (zS ?_)
  have hM1 := sb_start hM hx60 hnL.1 hP73 hnT.1 hu (fun t => pdec_iff)
  refine zG (TL.v (gL 2 aeaag23) ?_)
  refine TL.v (gV 8 (.agg #[.slice A1 es.length c1]) breag26 bresz26) ?_
  refine TL.pcallPm (α := {y : (Option Addr × Nat) × List Int // y.2 = at68.map (fun r : Rs => provR es r.src r.back) ∧ y.2.length ≤ y.1.2 ∧ y.1.2 ≤ maxLen}) (fun x => .slice x.1.1.1 x.1.2.length x.1.1.2) (fun x => [.row (.slice x.1.1.1 x.1.2.length x.1.1.2) 3 1 x.1.2.length (flat (ic .i64) x.1.2)]) rfl rfl rfl rfl rfl Tryz.func82 (by decide) rfl (fun w1 hw => providers_any R68 rc68 at68 A1 c1 es w1 (pm_rd hw (k := 3) rfl) (by omega) (hr1.up hw.bel)) ?_
  rintro ⟨⟨⟨R77, rc77⟩, pv77⟩, hP77, hR771, hR772⟩
  dsimp only [List.cons_append, List.nil_append]
  dsimp only at hP77 hR771 hR772 ⊢
  refine TL.pnew rfl rfl rfl (exec_alloc (cs := [.slice none 0 0]) rfl asezv106 rfl) (fun g16 => ?_)
  refine TL.pstore (k := 0) (vs := [.slice R77 pv77.length rc77]) rfl rfl rfl rfl rfl rfl rfl asesz106 dntone_s (by show 1 ≤ 1; decide) rfl ?_
  refine zET (zS ?_)
  have hpv : pv77.length = at68.length := by rw [hP77, List.length_map]
  refine zG (TL.v (gL 0 aeaag106) ?_)
  refine TL.pcallPm (α := {p : Option Addr × Nat // (pv77).length ≤ p.2 ∧ p.2 ≤ maxLen}) (fun x => .slice x.1.1 ((pv77).length) x.1.2) (fun x => [.row (.slice x.1.1 ((pv77).length) x.1.2) 3 1 ((pv77).length) (flat (ic .i64) pv77)]) rfl rfl rfl rfl rfl Tryz.func143 (by decide) rfl (fun w1 hw => cloneI_any R77 rc77 pv77 w1 (pm_rd hw (k := 1) rfl) (by omega)) ?_
  rintro ⟨⟨R79, rc79⟩, hR791, hR792⟩
  dsimp only [List.cons_append, List.nil_append]
  refine TL.as_ ?_
  refine zET (zSG (TL.mv ?_))
  refine TL.turnRowD (k := 0) (fun ys => SortedI pv77 ys) rfl rfl rfl rfl rfl Tryz.func124 (by decide) rfl rfl (fun w1 hw hr9 => sortInt hr9 rfl (by omega)) (fun sO hsO => ?_)
  try dsimp only [List.set_cons_zero, List.set_cons_succ]
  have hsOl : sO.length = pv77.length := hsO.1.length_eq
  have hsOc : (cptG sO).length ≤ sO.length := cptG_le sO
  refine zET (zS ?_)
  have hnO : IsNum ((atL l x60).map (fun r : Rs => provR es r.src r.back)) (cptG sO) := by rw [← hP68, ← hP77]; exact isNum_of hsO
  refine zG (TL.mv ?_)
  refine TL.turnRow2 (q := 0) (ys := cptG sO) rfl rfl rfl rfl rfl Tryz.func139 (by decide) rfl rfl (fun w1 hw hr9 => compactInt hr9 (hsOl) (by omega)) ?_
  try dsimp only [List.set_cons_zero, List.set_cons_succ]
  refine TL.v (gN Tryz.underlying106) ?_
  refine TL.mv ?_
  refine zET (zB ?_)
  refine TC.loop_ (α := {y : Nat × (Option Addr × Nat) × List Rp × Int × Int // y.1 ≤ (cptG sO).length ∧ MinU (PrS es l u) (SB es r0 l (cptG sT) ((cptG sL).take i2) x60 ((cptG sO).take y.1)) y.2.2.1 ∧ y.2.2.1.length ≤ 2 + 513 * i2 + y.1 ∧ y.2.2.1.length ≤ y.2.1.2 ∧ y.2.1.2 ≤ maxLen}) (fun y => [(3, .pointer (some ⟨g3, 0, none⟩)), (4, .pointer (some ⟨g4, 0, none⟩)), (5, .pointer (some ⟨g5, 0, none⟩)), (7, .slice At ((cptG sT).length) ct), (8, .slice (some ⟨g_Al, 0, none⟩) ((cptG sL).length) cl), (11, .pointer (some ⟨g11, 0, none⟩)), (56, .slice (some ⟨g_Al, 0, none⟩) ((cptG sL).length) cl), (57, .int .i64 ((cptG sL).length : Nat)), (58, .int .i64 ((i2 : Nat) : Int)), (14, .int .i64 x60), (15, .pointer (some ⟨g15, 0, none⟩)), (16, .pointer (some ⟨g16, 0, none⟩)), (83, .slice R79 ((cptG sO).length) rc79), (84, .int .i64 ((cptG sO).length : Nat)), (85, .int .i64 ((y.1.1 : Nat) : Int)), (12, .slice y.1.2.1.1 y.1.2.2.1.length y.1.2.1.2)]) (fun y => Pm w [.row (.slice R79 ((cptG sO).length) rc79) 3 1 ((cptG sO).length) (flat (ic .i64) (cptG sO)), .blk g16 106 [.slice R77 pv77.length rc77], .row (.slice R77 pv77.length rc77) 3 1 pv77.length (flat (ic .i64) pv77), .row (.slice R73 o73.length rc73) 34 8 o73.length (flat Rp.cells o73), .row (.slice At ((cptG sT).length) ct) 3 1 ((cptG sT).length) (flat (ic .i64) (cptG sT)), .blk g15 23 [.slice R68 at68.length rc68], .row (.slice R68 at68.length rc68) 65 17 at68.length (flat Rs.cells at68), .row (.slice y.1.2.1.1 y.1.2.2.1.length y.1.2.1.2) 34 8 y.1.2.2.1.length (flat Rp.cells y.1.2.2.1), .blk g11 34 [.int .i64 y.1.2.2.2.1, .int .i64 r0.v, .int .u32 r0.dst, .int .i64 r0.proto, .int .i64 r0.flow, .int .i64 x60, .int .i64 0, .int .i64 y.1.2.2.2.2], .row (.slice (some ⟨g_Al, 0, none⟩) ((cptG sL).length) cl) 3 1 ((cptG sL).length) (flat (ic .i64) (cptG sL)), .blk g5 28 u.cells, .blk g4 26 [.slice A1 es.length c1], .blk g3 23 [.slice A0 l.length c0]]) (fun y => (cptG sO).length - y.1.1) (⟨(0, (A74, c74), out ++ o73, 3, 0), Nat.zero_le _, by rw [List.take_zero]; exact hM1, by dsimp only; rw [List.length_append]; omega, hA741, hA742⟩) ⟨rfl, rfl, rfl, rfl, rfl, rfl, rfl, rfl, rfl, rfl, rfl, rfl, rfl, rfl, rfl, rfl, trivial⟩ (fun w1 hw => hw) ?_
  rintro ⟨⟨j, ⟨Ao2, co2⟩, out2, kd2, pv2⟩, hj, hM2, hol2, hoc2, hom2⟩
  dsimp only at hj hM2 hol2 hoc2 hom2 ⊢
  refine zSG ?_
  refine TL.sp bin_lss (fun q86 => ?_) (fun q86 => ?_)
  ·refine zET (zS (zc (zk (zT (zS (zB (zSG ?_)))))))
   refine TL.fact (p := ∃ g, R79 = some ⟨g, 0, none⟩) (fun w1 hw => rowA hw (k := 0) rfl (by omega)) ?_
   rintro ⟨g_R79, rfl⟩
   have hi87 : j < (cptG sO).length := by omega
   obtain ⟨x87, hx87⟩ := ex_at hi87
   refine TL.val rfl rfl rfl (gA (i := j) Tryz.underlying106 pcmsz3 rfl rfl rfl rfl rfl (by omega)) ?_
   refine TL.val rfl rfl rfl (gives_load (v := .int .i64 x87) rfl rfl pcmag3 (fun w1 hw => flat_row (ic_cel .i64) hw (q := 0) rfl hx87 0 _ rfl)) ?_
   refine TL.v (gF arpfld34_5) ?_
   refine TL.pstore (k := 8) (vs := [.int .i64 x87]) rfl rfl rfl rfl rfl rfl rfl pcmsz3 aeaone_i64 (by show 8 ≤ 8; decide) rfl ?_
   refine zET (zS (zSG (TL.v (gF arpfld34_5) ?_)))
   refine TL.v (gL 8 pcmag3) ?_
   refine TL.sp bin_eql (fun q92 => ?_) (fun q92 => ?_)
   ·refine zET (zc (zx (zX (zM (zT (zG (TL.v (gD ((j + 1 : Nat) : Int)) ?_)))))))
    refine TL.mv ?_
    refine zE ?_
    exact TX.round (⟨(j + 1, (Ao2, co2), out2, kd2, x87), by dsimp only; omega, sb_zero hM2 hx87 q92, by dsimp only; omega, hoc2, hom2⟩) (by show (cptG sO).length - (j + 1) < (cptG sO).length - j; omega) ⟨rfl, rfl, rfl, rfl, rfl, rfl, rfl, rfl, rfl, rfl, rfl, rfl, rfl, rfl, rfl, rfl, trivial⟩ (fun w1 hw => hw)
   refine zET (zd (zk (zT (zSG (TL.v (gF arpfld34_0) ?_)))))
   refine TL.pstore (k := 8) (vs := [.int .i64 2]) rfl rfl rfl rfl rfl rfl rfl pcmsz3 aeaone_i64 (by show 1 ≤ 8; decide) rfl ?_
   refine zET (zG (TL.mv ?_))
   refine TL.v (gV 8 (.agg #[.int .i64 2, .int .i64 r0.v, .int .u32 r0.dst, .int .i64 r0.proto, .int .i64 r0.flow, .int .i64 x60, .int .i64 0, .int .i64 x87]) aprag34 aprsz34) ?_
   refine TL.mv ?_
   refine TL.val rfl rfl rfl (gives_makeFunc rfl rfl rfl) ?_
   refine TL.call (α := {y : (Option Addr × Nat) × List Rp // EarB (fun t => pdec (DtF (fun r : Rs => provR es r.src r.back) (atL l x60) x87 t)) (cD r0 x60 x87) (cptG sT) y.2 ∧ y.2.length ≤ 1 ∧ y.2.length ≤ y.1.2 ∧ y.1.2 ≤ maxLen}) (r := fun y => .slice y.1.1.1 y.1.2.length y.1.1.2) (I' := fun y => Pm w [.row (.slice y.1.1.1 y.1.2.length y.1.1.2) 34 8 y.1.2.length (flat Rp.cells y.1.2), .row (.slice At ((cptG sT).length) ct) 3 1 ((cptG sT).length) (flat (ic .i64) (cptG sT)), .row (.slice (some ⟨g_R79, 0, none⟩) ((cptG sO).length) rc79) 3 1 ((cptG sO).length) (flat (ic .i64) (cptG sO)), .blk g16 106 [.slice R77 pv77.length rc77], .row (.slice R77 pv77.length rc77) 3 1 pv77.length (flat (ic .i64) pv77), .row (.slice R73 o73.length rc73) 34 8 o73.length (flat Rp.cells o73), .blk g15 23 [.slice R68 at68.length rc68], .row (.slice R68 at68.length rc68) 65 17 at68.length (flat Rs.cells at68), .row (.slice Ao2 out2.length co2) 34 8 out2.length (flat Rp.cells out2), .blk g11 34 [.int .i64 2, .int .i64 r0.v, .int .u32 r0.dst, .int .i64 r0.proto, .int .i64 r0.flow, .int .i64 x60, .int .i64 0, .int .i64 x87], .row (.slice (some ⟨g_Al, 0, none⟩) ((cptG sL).length) cl) 3 1 ((cptG sL).length) (flat (ic .i64) (cptG sL)), .blk g5 28 u.cells, .blk g4 26 [.slice A1 es.length c1], .blk g3 23 [.slice A0 l.length c0]]) rfl rfl rfl rfl rfl Tryz.func140 (by decide) rfl (fun w1 hw => earliest_any w [.row (.slice (some ⟨g_R79, 0, none⟩) ((cptG sO).length) rc79) 3 1 ((cptG sO).length) (flat (ic .i64) (cptG sO)), .blk g16 106 [.slice R77 pv77.length rc77], .row (.slice R77 pv77.length rc77) 3 1 pv77.length (flat (ic .i64) pv77), .row (.slice R73 o73.length rc73) 34 8 o73.length (flat Rp.cells o73), .blk g15 23 [.slice R68 at68.length rc68], .row (.slice R68 at68.length rc68) 65 17 at68.length (flat Rs.cells at68), .row (.slice Ao2 out2.length co2) 34 8 out2.length (flat Rp.cells out2), .blk g11 34 [.int .i64 2, .int .i64 r0.v, .int .u32 r0.dst, .int .i64 r0.proto, .int .i64 r0.flow, .int .i64 x60, .int .i64 0, .int .i64 x87], .row (.slice (some ⟨g_Al, 0, none⟩) ((cptG sL).length) cl) 3 1 ((cptG sL).length) (flat (ic .i64) (cptG sL)), .blk g5 28 u.cells, .blk g4 26 [.slice A1 es.length c1], .blk g3 23 [.slice A0 l.length c0]] At ct (cptG sT) (cD r0 x60 x87) (fun t => pdec (DtF (fun r : Rs => provR es r.src r.back) (atL l x60) x87 t)) 144 _ #[.pointer (some ⟨g15, 0, none⟩), .pointer (some ⟨g16, 0, none⟩), .pointer (some ⟨g11, 0, none⟩)] w1 (hw.pick [4, 0, 1, 2, 3, 5, 6, 7, 8, 9, 10, 11, 12] (by decide) rfl) (by omega) Tryz.func144 (by decide) rfl (fun t w1 ⟨L1, h9⟩ => by have h8 : Pm w [.row (.slice (some ⟨g_R79, 0, none⟩) ((cptG sO).length) rc79) 3 1 ((cptG sO).length) (flat (ic .i64) (cptG sO)), .blk g16 106 [.slice R77 pv77.length rc77], .row (.slice R77 pv77.length rc77) 3 1 pv77.length (flat (ic .i64) pv77), .row (.slice R73 o73.length rc73) 34 8 o73.length (flat Rp.cells o73), .blk g15 23 [.slice R68 at68.length rc68], .row (.slice R68 at68.length rc68) 65 17 at68.length (flat Rs.cells at68), .row (.slice Ao2 out2.length co2) 34 8 out2.length (flat Rp.cells out2), .blk g11 34 [.int .i64 2, .int .i64 r0.v, .int .u32 r0.dst, .int .i64 r0.proto, .int .i64 r0.flow, .int .i64 x60, .int .i64 0, .int .i64 x87], .row (.slice (some ⟨g_Al, 0, none⟩) ((cptG sL).length) cl) 3 1 ((cptG sL).length) (flat (ic .i64) (cptG sL)), .blk g5 28 u.cells, .blk g4 26 [.slice A1 es.length c1], .blk g3 23 [.slice A0 l.length c0]] w1 := h9.sel (List.sublist_append_right L1 _); exact (srch3_any R68 rc68 at68 R77 rc77 pv77 (fun r : Rs => provR es r.src r.back) x87 t g15 g16 g11 w1 (pm_rd h8 (k := 5) rfl) (by omega) (pm_rd h8 (k := 2) rfl) hP77 (Pc.lt (h8.at_ (k := 4) rfl) g15 rfl).2 (h8.cell (k := 4) rfl 0) (Pc.lt (h8.at_ (k := 1) rfl) g16 rfl).2 (h8.cell (k := 1) rfl 0) (Pc.lt (h8.at_ (k := 7) rfl) g11 rfl).2 (h8.cell (k := 7) rfl 7)).mono fun en w2 ⟨x, h1, h2⟩ => ⟨by rw [h1, pdec_of x.2, hP68], h2⟩)) ?_
   rintro ⟨⟨⟨R98, rc98⟩, o98⟩, hP98, hl98, hc98, hm98⟩
   dsimp only at hP98 hl98 hc98 hm98 ⊢
   refine TL.appendT (k := 8) rfl rfl rfl rfl Tryz.underlying49 aseel49 rfl rfl rfl (fun w1 hw => pm_reads hw (k := 0) rfl) (flat_one rp_cel _) (by show _ * 64 ≤ _; omega) ((out2 ++ o98).length) (List.length_append) (flat Rp.cells (out2 ++ o98)) ((flat_app _ _).symm) (fun A99 c99 hA991 hA992 => ?_)
   refine TL.as_ ?_
   refine zE (zN (zT (zG (TL.v (gD ((j + 1 : Nat) : Int)) ?_))))
   refine TL.mv ?_
   refine zE ?_
   exact TX.round (⟨(j + 1, (A99, c99), out2 ++ o98, 2, x87), by dsimp only; omega, sb_next hM2 hx60 hnL.1 hx87 hnO.1 q92 hP98 hnT.1 (fun t => pdec_iff), by dsimp only; rw [List.length_append]; omega, hA991, hA992⟩) (by show (cptG sO).length - (j + 1) < (cptG sO).length - j; omega) ⟨rfl, rfl, rfl, rfl, rfl, rfl, rfl, rfl, rfl, rfl, rfl, rfl, rfl, rfl, rfl, rfl, trivial⟩ (fun w1 hw => hw.pick [2, 3, 4, 5, 1, 6, 7, 8, 9, 10, 11, 12, 13] (by decide) rfl)
  refine zET (zS (zd (zx (zX (zX (zM (zN (zT (zG (TL.v (gD ((i2 + 1 : Nat) : Int)) ?_))))))))))
  refine TL.mv ?_
  refine zE ?_
  exact TX.round (⟨(i2 + 1, (Ao2, co2), out2, kd2, x60, pv2), by dsimp only; omega, sb_end hM2 (by omega) hnO hx60, by dsimp only; omega, hoc2, hom2⟩) (by show (cptG sL).length - (i2 + 1) < (cptG sL).length - i2; omega) ⟨rfl, rfl, rfl, rfl, rfl, rfl, rfl, rfl, rfl, rfl, trivial⟩ (fun w1 hw => hw.pick [7, 4, 8, 9, 10, 11, 12] (by decide) rfl)
 refine zET (zS (zd (zx (zX (zX (zM (zT (zSG (TL.rn 2 rfl (zET (zr ?_)))))))))))
 exact ret_tmp Tryz.results92 rfl (fun w1 hw => ⟨⟨((Ao, co), out), ⟨sa_end hM (by omega) hnT hnL hu, by dsimp only; omega⟩, hoc, hom⟩, rfl, hw.pick [0] (by decide) rfl⟩)
set_option maxRecDepth 20000
theorem ix_any {p : Rs → Bool} {l : List Rs} {z : Int} (h : IxOk p l z) : l.any p = decide (z ≥ 0) := by
 rcases h with ⟨rfl, h⟩ | ⟨i, rfl, _, _, y, hy, hp⟩
 ·rw [List.any_eq_false.2 fun r hr => by rw [h r hr]; decide]; rfl
 rw [List.any_eq_true.2 ⟨y, List.mem_of_getElem? hy, hp⟩]; exact (decide_eq_true (by omega)).symm
theorem fnd1_any (r : Rs) (w : World) :
  Calls Tryz.prog 87 #[.agg r.cells.toArray] w fun e w' => e = .returned (.bool (!vldRs r)) ∧ Below w.heap.size w w' := by
 refine begin_ (vs := [.agg r.cells.toArray]) Tryz.func87 rfl rfl rfl ?_ (Pm.start w)
 refine zSG ?_
 refine TL.pnew rfl rfl rfl (exec_box (cs := r.cells) rfl rfl rfl) (fun g1 => ?_)
 refine TL.as_ ?_
 refine zET (zSG (TL.v (gV 0 (.agg (r.cells).toArray) prsag65 prssz65) ?_))
 refine TL.callsplit rfl rfl rfl rfl rfl Tryz.func70 (by decide) rfl (fun w1 hw => vldRs_any r w1) (fun h4 => ?_) (fun h4 => ?_)
 ·refine TL.rn 2 rfl (zET (zr ?_))
  have hE : (!vldRs r) = false := (by simp [Bool.not_eq_true, h4])
  exact ret_tmp Tryz.results87 rfl (fun w1 hw => ⟨by rw [hE]; try rfl, hw.bel⟩)
 refine TL.rn 2 rfl (zET (zr ?_))
 have hE : (!vldRs r) = true := (by simp [Bool.not_eq_true, h4])
 exact ret_tmp Tryz.results87 rfl (fun w1 hw => ⟨by rw [hE]; try rfl, hw.bel⟩)
theorem ctG_any (A0 : Option Addr) (c0 : Nat) (l : List Rs) (p : Rs → Bool) (f : FuncId) (fn : Func) (cap : Array Value) (w : World) (hr : Reads w w.heap.size 17 A0 l.length (flat Rs.cells l)) (hl1 : l.length ≤ 100000) (hfn : Tryz.prog.funcs[f]? = some fn) (hnm : (fn.name == "runtime.NumGoroutine") = false) (hbd : fn.body.isNone = false) (hf : ∀ (x : Rs) (w1 : World), Below w.heap.size w w1 → Calls Tryz.prog f (#[] ++ [Value.agg x.cells.toArray].toArray ++ cap) w1 fun e w' => e = .returned (.bool (p x)) ∧ Below w1.heap.size w1 w') :
  Calls Tryz.prog 86 #[.slice A0 l.length c0, .func (.func f) #[] cap] w fun e w' => e = .returned (.bool (l.any p)) ∧ Below w.heap.size w w' := by
 refine begin_ (vs := [.slice A0 l.length c0, .func (.func f) #[] cap]) Tryz.func86 rfl rfl rfl ?_ (Pm.start w)
 refine zSG (TL.as_ ?_)
 refine zET (zSG (TL.rn 2 rfl ?_))
 refine TL.pcallPm (α := {z : Int // IxOk p l z}) (fun x => .int .i64 x.1) (fun x => []) rfl rfl rfl rfl rfl Tryz.func131 (by decide) rfl (fun w1 hw => (ixG_any A0 c0 l p f fn cap w1 (hr.up hw.bel) hl1 hfn hnm hbd (fun x w2 hb => hf x w2 (hw.bel.trans (hb.mono hw.bel.size)))).mono fun en w2 ⟨x, h1, h2⟩ => ⟨x, h1, (Pm.start w1).below h2⟩) ?_
 rintro ⟨z, hz⟩
 dsimp only [List.cons_append, List.nil_append]
 refine TL.sp bin_geq (fun q8 => ?_) (fun q8 => ?_)
 ·refine TL.as_ ?_
  refine zET (zr ?_)
  exact ret_tmp Tryz.results86 rfl (fun w1 hw => ⟨by rw [ix_any hz, decide_eq_true q8], hw.bel⟩)
 refine TL.as_ ?_
 refine zET (zr ?_)
 exact ret_tmp Tryz.results86 rfl (fun w1 hw => ⟨by rw [ix_any hz, decide_eq_false q8], hw.bel⟩)
theorem fnd_any (A0 : Option Addr) (c0 : Nat) (l : List Rs) (A1 : Option Addr) (c1 : Nat) (es : List En) (u : Ru) (w : World) (hr : Reads w w.heap.size 17 A0 l.length (flat Rs.cells l)) (hl1 : l.length ≤ 100000) (hok : ∀ r ∈ l, r.Ok) (hr1 : Reads w w.heap.size 5 A1 es.length (flat En.cells es)) :
  Calls Tryz.prog 39 #[.slice A0 l.length c0, .agg #[.slice A1 es.length c1], .agg u.cells.toArray] w fun e w' => ∃ y : {y : ((Option Addr × Nat) × List Rp) × Int // FndOk es l u y.1.2 y.2 ∧ y.1.2.length ≤ 100000000000 ∧ y.1.2.length ≤ y.1.1.2 ∧ y.1.1.2 ≤ maxLen}, e = .returned (.tuple #[.slice y.1.1.1.1 y.1.1.2.length y.1.1.1.2, .int .i64 y.1.2]) ∧ Pm w [.row (.slice y.1.1.1.1 y.1.1.2.length y.1.1.1.2) 34 8 y.1.1.2.length (flat Rp.cells y.1.1.2)] w' := by
 refine begin_ (vs := [.slice A0 l.length c0, .agg #[.slice A1 es.length c1], .agg u.cells.toArray]) Tryz.func39 rfl rfl rfl ?_ (Pm.start w)
 refine zSG ?_
 refine TL.pnew rfl rfl rfl (exec_box (cs := [.slice A1 es.length c1]) rfl rfl rfl) (fun g4 => ?_)
 refine TL.pnew rfl rfl rfl (exec_box (cs := u.cells) rfl rfl rfl) (fun g5 => ?_)
 refine TL.rn 2 rfl (zET (zS (zSG (TL.v (gV 0 (.agg (u.cells).toArray) aprag28 aprsz28) ?_))))
 refine TL.callsplit rfl rfl rfl rfl rfl Tryz.func24 (by decide) rfl (fun w1 hw => vldRu_any u w1) (fun h15 => ?_) (fun h15 => ?_)
 ·refine TL.rn 2 rfl (TL.ov (gV 1 (.agg #[.slice A1 es.length c1]) breag26 bresz26) ?_)
  refine TL.gu ?_
  refine TL.callsplit rfl rfl rfl rfl rfl Tryz.func84 (by decide) rfl (fun w1 hw => validR_any A1 c1 es w1 (hr1.up hw.bel)) (fun h19 => ?_) (fun h19 => ?_)
  ·refine TL.rn 4 rfl (TL.gu ?_)
   refine TL.callsplit rfl rfl rfl rfl rfl Tryz.func86 (by decide) rfl (fun w1 hw => ctG_any A0 c0 l (fun r : Rs => !vldRs r) 87 _ #[] w1 (hr.up hw.bel) hl1 Tryz.func87 (by decide) rfl (fun x w2 hb => fnd1_any x w2)) (fun h24 => ?_) (fun h24 => ?_)
   ·refine TL.pk ?_
    refine zET (zc (zSG (TL.rn 2 rfl (zET (zr (zR ?_))))))
    exact ret_pair (v1 := .slice none 0 0) (v2 := .int .i64 1) Tryz.results39 rfl rfl (fun w1 hw => ⟨⟨(((none, 0), []), 1), .inl ⟨rfl, rfl, fun h => by rw [List.any_eq_true] at h24; obtain ⟨r, hr, h9⟩ := h24; rw [h.1 r hr] at h9; cases h9⟩, Nat.zero_le _, Nat.le_refl _, Nat.zero_le _⟩, rfl, (hw.pick [] (by decide) rfl).nilrow _ _⟩)
   refine TL.pk ?_
   refine zET (zd (zk (zT (zS (zS ?_)))))
   have hva : ∀ r ∈ l, vldRs r = true := fun r hr => by rw [List.any_eq_false] at h24; have := h24 r hr; simpa using this
   have hprb : 1 ≤ u.prb := by have h9 := h15; unfold vldRu at h9; exact (of_decide_eq_true h9).2.2.1
   refine zG (TL.mv ?_)
   refine TL.pcallPm (α := {y : (Option Addr × Nat) × List Rs // IsOrd l y.2 ∧ y.2.length ≤ y.1.2 ∧ y.1.2 ≤ maxLen}) (fun x => .slice x.1.1.1 x.1.2.length x.1.1.2) (fun x => [.row (.slice x.1.1.1 x.1.2.length x.1.1.2) 65 17 x.1.2.length (flat Rs.cells x.1.2)]) rfl rfl rfl rfl rfl Tryz.func88 (by decide) rfl (fun w1 hw => ord_any A0 c0 l w1 (hr.up hw.bel) hl1 hok) ?_
   rintro ⟨⟨⟨R27, rc27⟩, o27⟩, hP27, hR271, hR272⟩
   dsimp only [List.cons_append, List.nil_append]
   dsimp only at hP27 hR271 hR272 ⊢
   refine TL.v (gN Tryz.underlying23) ?_
   refine TL.sp bin_gtr (fun q29 => ?_) (fun q29 => ?_)
   ·refine zET (zc (zSG (TL.rn 2 rfl (zET (zr (zR ?_))))))
    exact ret_pair (v1 := .slice none 0 0) (v2 := .int .i64 5) Tryz.results39 rfl rfl (fun w1 hw => ⟨⟨(((none, 0), []), 5), .inr (.inl ⟨rfl, rfl, ⟨hva, h19, h15⟩, o27, hP27, by omega⟩), Nat.zero_le _, Nat.le_refl _, Nat.zero_le _⟩, rfl, (hw.pick [] (by decide) rfl).nilrow _ _⟩)
   refine zET (zd (zk (zT (zS ?_))))
   have hol : o27.length ≤ 512 := by omega
   refine zG (TL.as_ ?_)
   refine zET (zS (zSG (TL.mv ?_)))
   refine TL.pcallPm (α := {y : (Option Addr × Nat) × List Trc // IsTrc l y.2 ∧ y.2.length ≤ y.1.2 ∧ y.1.2 ≤ maxLen}) (fun x => .slice x.1.1.1 x.1.2.length x.1.1.2) (fun x => [.row (.slice x.1.1.1 x.1.2.length x.1.1.2) 32 3 x.1.2.length (flat Trc.cells x.1.2)]) rfl rfl rfl rfl rfl Tryz.func89 (by decide) rfl (fun w1 hw => trs_any A0 c0 l w1 (hr.up hw.bel) hl1) ?_
   rintro ⟨⟨⟨R31, rc31⟩, tr31⟩, hP31, hR311, hR312⟩
   dsimp only [List.cons_append, List.nil_append]
   dsimp only at hP31 hR311 hR312 ⊢
   refine TL.v (gN Tryz.underlying128) ?_
   refine TL.mv ?_
   refine zET (zB (TC.nilrow 34 8 ?_))
   refine TC.loop_ (α := {y : Nat × (Option Addr × Nat) × List Rp // y.1 ≤ tr31.length ∧ MinU (PrP es l u) (FSA l (tr31.take y.1)) y.2.2 ∧ y.2.2.length ≤ 134480384 * y.1 ∧ y.2.2.length ≤ y.2.1.2 ∧ y.2.1.2 ≤ maxLen}) (fun y => [(0, .slice A0 l.length c0), (4, .pointer (some ⟨g4, 0, none⟩)), (5, .pointer (some ⟨g5, 0, none⟩)), (31, .slice R31 tr31.length rc31), (32, .int .i64 (tr31.length : Nat)), (33, .int .i64 ((y.1.1 : Nat) : Int)), (8, .slice y.1.2.1.1 y.1.2.2.length y.1.2.1.2)]) (fun y => Pm w [.row (.slice y.1.2.1.1 y.1.2.2.length y.1.2.1.2) 34 8 y.1.2.2.length (flat Rp.cells y.1.2.2), .row (.slice R31 tr31.length rc31) 32 3 tr31.length (flat Trc.cells tr31), .row (.slice R27 o27.length rc27) 65 17 o27.length (flat Rs.cells o27), .blk g5 28 u.cells, .blk g4 26 [.slice A1 es.length c1]]) (fun y => tr31.length - y.1.1) (⟨(0, (none, 0), []), Nat.zero_le _, fa_zero, Nat.zero_le _, Nat.le_refl _, Nat.zero_le _⟩) ⟨rfl, rfl, rfl, rfl, rfl, rfl, rfl, trivial⟩ (fun w1 hw => hw) ?_
   rintro ⟨⟨i, ⟨Ao, co⟩, out⟩, hi, hM, hos, hoc, hom⟩
   dsimp only at hi hM hos hoc hom ⊢
   have htl31 : tr31.length ≤ 512 := Nat.le_trans (trc_le hP31 hP27) hol
   refine zSG ?_
   refine TL.sp bin_lss (fun q34 => ?_) (fun q34 => ?_)
   ·refine zET (zS (zc (zk (zT (zS (zB (zSG ?_)))))))
    refine TL.fact (p := ∃ g, R31 = some ⟨g, 0, none⟩) (fun w1 hw => rowA hw (k := 1) rfl (by omega)) ?_
    rintro ⟨g_R31, rfl⟩
    have hi35 : i < tr31.length := by omega
    obtain ⟨x35, hx35⟩ := ex_at hi35
    refine TL.val rfl rfl rfl (gA (i := i) Tryz.underlying128 prssz32 rfl rfl rfl rfl rfl (by omega)) ?_
    refine TL.val rfl rfl rfl (gives_loadR (off := 0 + i * 3) rfl rfl pcpag32 prssz32 (trc_cel.len x35) (fun w1 hw j9 u9 h9 => flat_row trc_cel hw (q := 1) rfl hx35 j9 u9 h9)) ?_
    refine TL.pnew rfl rfl rfl (exec_alloc (cs := [.int .i64 0, .int .u32 0, .int .i64 0]) rfl prszv32 rfl) (fun g10 => ?_)
    refine TL.pstore (k := 0) (vs := x35.cells) rfl rfl rfl rfl rfl rfl rfl prssz32 (trc_cel.one _) (by show 3 ≤ 3; decide) (L' := [.blk g10 32 x35.cells, .row (.slice Ao out.length co) 34 8 out.length (flat Rp.cells out), .row (.slice (some ⟨g_R31, 0, none⟩) tr31.length rc31) 32 3 tr31.length (flat Trc.cells tr31), .row (.slice R27 o27.length rc27) 65 17 o27.length (flat Rs.cells o27), .blk g5 28 u.cells, .blk g4 26 [.slice A1 es.length c1]]) rfl ?_
    refine zET (zSG ?_)
    refine TL.mkmap rfl rfl rfl rfl (fun gm hgm => ?_)
    refine TL.as_ ?_
    refine zET (zSG (TL.mv ?_))
    refine TL.v (gV 1 (.agg (x35.cells).toArray) pcpag32 prssz32) ?_
    refine TL.pcallPm (α := {y : (Option Addr × Nat) × List Rs // IsOf l x35 y.2 ∧ y.2.length ≤ y.1.2 ∧ y.1.2 ≤ maxLen}) (fun x => .slice x.1.1.1 x.1.2.length x.1.1.2) (fun x => [.row (.slice x.1.1.1 x.1.2.length x.1.1.2) 65 17 x.1.2.length (flat Rs.cells x.1.2)]) rfl rfl rfl rfl rfl Tryz.func90 (by decide) rfl (fun w1 hw => of_any A0 c0 l x35 w1 (hr.up hw.bel) hl1 hok) ?_
    rintro ⟨⟨⟨R40, rc40⟩, of40⟩, hP40, hR401, hR402⟩
    dsimp only [List.cons_append, List.nil_append]
    dsimp only at hP40 hR401 hR402 ⊢
    refine TL.v (gN Tryz.underlying23) ?_
    refine TL.mv ?_
    refine zET (zB ?_)
    refine TC.loop_ (α := {y : Nat × (Option Addr × Nat) × List Rp × Obj // y.1 ≤ of40.length ∧ MinU (PrP es l u) (FSB l (tr31.take i) x35 (fls (of40.take y.1))) y.2.2.1 ∧ FlM y.2.2.2 (fls (of40.take y.1)) ∧ y.2.2.1.length ≤ 134480384 * i + 262657 * y.1 ∧ y.2.2.1.length ≤ y.2.1.2 ∧ y.2.1.2 ≤ maxLen}) (fun y => [(0, .slice A0 l.length c0), (4, .pointer (some ⟨g4, 0, none⟩)), (5, .pointer (some ⟨g5, 0, none⟩)), (10, .pointer (some ⟨g10, 0, none⟩)), (11, .map (some gm)), (31, .slice (some ⟨g_R31, 0, none⟩) tr31.length rc31), (32, .int .i64 (tr31.length : Nat)), (33, .int .i64 ((i : Nat) : Int)), (40, .slice R40 of40.length rc40), (41, .int .i64 (of40.length : Nat)), (42, .int .i64 ((y.1.1 : Nat) : Int)), (8, .slice y.1.2.1.1 y.1.2.2.1.length y.1.2.1.2)]) (fun y => Pm w [.row (.slice R40 of40.length rc40) 65 17 of40.length (flat Rs.cells of40), .oth gm y.1.2.2.2, .blk g10 32 x35.cells, .row (.slice y.1.2.1.1 y.1.2.2.1.length y.1.2.1.2) 34 8 y.1.2.2.1.length (flat Rp.cells y.1.2.2.1), .row (.slice (some ⟨g_R31, 0, none⟩) tr31.length rc31) 32 3 tr31.length (flat Trc.cells tr31), .row (.slice R27 o27.length rc27) 65 17 o27.length (flat Rs.cells o27), .blk g5 28 u.cells, .blk g4 26 [.slice A1 es.length c1]]) (fun y => of40.length - y.1.1) (⟨(0, (Ao, co), out, .map #[] 0), Nat.zero_le _, fb_start hM, by dsimp only; rw [List.take_zero]; exact FlM.new, by dsimp only; omega, hoc, hom⟩) ⟨rfl, rfl, rfl, rfl, rfl, rfl, rfl, rfl, rfl, rfl, rfl, rfl, trivial⟩ (fun w1 hw => hw) ?_
    rintro ⟨⟨j, ⟨Ao2, co2⟩, out2, om⟩, hj, hM2, hFl, hos2, hoc2, hom2⟩
    dsimp only at hj hM2 hFl hos2 hoc2 hom2 ⊢
    obtain ⟨fm, hmf, hff⟩ := id hFl
    have hofl : of40.length ≤ 512 := Nat.le_trans (of_le hP40 hP27) hol
    refine zSG ?_
    refine TL.sp bin_lss (fun q43 => ?_) (fun q43 => ?_)
    ·refine zET (zS (zc (zk (zT (zS (zB (zSG ?_)))))))
     refine TL.fact (p := ∃ g, R40 = some ⟨g, 0, none⟩) (fun w1 hw => rowA hw (k := 0) rfl (by omega)) ?_
     rintro ⟨g_R40, rfl⟩
     have hi44 : j < of40.length := by omega
     obtain ⟨x44, hx44⟩ := ex_at hi44
     refine TL.val rfl rfl rfl (gA (i := j) Tryz.underlying23 prssz65 rfl rfl rfl rfl rfl (by omega)) ?_
     refine TL.val rfl rfl rfl (gives_loadR (off := 0 + j * 17) rfl rfl prsag65 prssz65 (rs_cel.len x44) (fun w1 hw j9 u9 h9 => flat_row rs_cel hw (q := 0) rfl hx44 j9 u9 h9)) ?_
     refine TL.pnew rfl rfl rfl (exec_alloc (cs := [.int .i64 0, .int .i64 0, .int .i64 0, .int .i64 0, .int .u32 0, .int .i64 0, .int .i64 0, .int .i64 0, .bool false, .bool false, .int .i64 0, .int .u32 0, .int .i64 0, .int .i64 0, .int .i64 0, .int .i64 0, .int .i64 0]) rfl arpzv65 rfl) (fun g13 => ?_)
     refine TL.pstore (k := 0) (vs := x44.cells) rfl rfl rfl rfl rfl rfl rfl prssz65 (rs_cel.one _) (by show 17 ≤ 17; decide) (L' := [.blk g13 65 x44.cells, .row (.slice (some ⟨g_R40, 0, none⟩) of40.length rc40) 65 17 of40.length (flat Rs.cells of40), .oth gm om, .blk g10 32 x35.cells, .row (.slice Ao2 out2.length co2) 34 8 out2.length (flat Rp.cells out2), .row (.slice (some ⟨g_R31, 0, none⟩) tr31.length rc31) 32 3 tr31.length (flat Trc.cells tr31), .row (.slice R27 o27.length rc27) 65 17 o27.length (flat Rs.cells o27), .blk g5 28 u.cells, .blk g4 26 [.slice A1 es.length c1]]) rfl ?_
     refine zET (zS (zS ?_))
     have hv44 : vldRs x44 = true := by have h9 := List.mem_of_getElem? hx44; obtain ⟨o9, h10, rfl⟩ := hP40; exact ((h10.2 x44).1 (List.mem_filter.1 h9).1).2
     obtain ⟨mb, hmb⟩ : ∃ b, decide (x44.flow ∈ fls (of40.take j)) = b := ⟨_, rfl⟩
     refine zG (TL.mv ?_)
     refine TL.v (gF prsfld65_6) ?_
     refine TL.v (gL 0 pcmag3) ?_
     refine TL.val rfl rfl rfl (gives_lookG (i := 2) (a := x44.flow) (v := .bool mb) rfl rfl rfl (mkey_int Tryz.underlying3) Tryz.underlying130 (fun w => rfl) rfl hmf (wf_flow hv44) (by rw [hff _ (wf_flow hv44), hmb])) ?_
     refine TL.mv ?_
     cases mb with
     | true =>
      refine TL.rn 4 rfl (zET (zc (zx (zX (zM (zT (zG (TL.v (gD ((j + 1 : Nat) : Int)) ?_))))))))
      refine TL.mv ?_
      refine zE ?_
      exact TX.round (⟨(j + 1, (Ao2, co2), out2, om), by dsimp only; omega, (fb_skip hM2 hx44 (.inl (of_decide_eq_true hmb))).2, hFl.same (fb_skip hM2 hx44 (.inl (of_decide_eq_true hmb))).1, by dsimp only; omega, hoc2, hom2⟩) (by show of40.length - (j + 1) < of40.length - j; omega) ⟨rfl, rfl, rfl, rfl, rfl, rfl, rfl, rfl, rfl, rfl, rfl, rfl, trivial⟩ (fun w1 hw => hw.pick [1, 2, 3, 4, 5, 6, 7, 8] (by decide) rfl)
     | false =>
      refine TL.ov (gV 0 (.agg (x44.cells).toArray) prsag65 prssz65) ?_
      refine TL.gu ?_
      refine TL.callsplit rfl rfl rfl rfl rfl Tryz.func91 (by decide) rfl (fun w1 hw => usbRs_any x44 w1) (fun h52 => ?_) (fun h52 => ?_)
      ·refine TL.rn 2 rfl (zET (zd (zk (zT (zS ?_)))))
       have hu44 : usbRs x44 = true := h52
       have hnm44 : x44.flow ∉ fls (of40.take j) := of_decide_eq_false hmb
       refine zG (TL.mv ?_)
       refine TL.v (gF prsfld65_6) ?_
       refine TL.v (gL 0 pcmag3) ?_
       refine TL.mapsetG (i := 2) rfl rfl rfl rfl rfl rfl (mkey_int Tryz.underlying3) Tryz.underlying130 rfl hgm hmf (wf_flow hv44) (fun ob2 hm2 => ?_)
       try dsimp only [List.set_cons_zero, List.set_cons_succ]
       have hFl2 := FlM.set hff hm2
       refine zET (TC.held (ls := #[Ff,Ff,Ff,Ff,Ff,Ff,Ff,Ff,Ff,Ff,Ff]) (Pm w [.blk g13 65 x44.cells, .blk g10 32 x35.cells, .blk g5 28 u.cells, .blk g4 26 [.slice A1 es.length c1]]) (by kernel_rfl) rfl rfl (fun w hw => hw.drawn _) ?_)
       refine TH.tk 0 rfl rfl rfl (gives_move rfl rfl) (fun w1 hw => hw.pick [0, 3, 7, 8] (by decide) rfl) ?_
       refine TH.tk 1 rfl rfl rfl (gives_move rfl rfl) (fun w1 hw => hw.pick [0, 3, 7, 8] (by decide) rfl) ?_
       refine TH.tk 2 rfl rfl rfl (gV 1 (.agg (x35.cells).toArray) pcpag32 prssz32) (fun w1 hw => hw.pick [0, 3, 7, 8] (by decide) rfl) ?_
       refine TH.tk 3 rfl rfl rfl (gF prsfld65_6) (fun w1 hw => hw.pick [0, 3, 7, 8] (by decide) rfl) ?_
       refine TH.tk 4 rfl rfl rfl (gL 0 pcmag3) (fun w1 hw => hw.pick [0, 3, 7, 8] (by decide) rfl) ?_
       refine TH.tk 6 rfl rfl rfl (gV 3 (.agg #[.slice A1 es.length c1]) breag26 bresz26) (fun w1 hw => hw.pick [0, 3, 7, 8] (by decide) rfl) ?_
       refine TH.tk 7 rfl rfl rfl (gV 2 (.agg (u.cells).toArray) aprag28 aprsz28) (fun w1 hw => hw.pick [0, 3, 7, 8] (by decide) rfl) ?_
       refine TH.only' 5 rfl (by kernel_rfl) rfl ?_
       refine TL.pcallPm (α := {y : (Option Addr × Nat) × List Rs // IsSt l x35 x44.flow y.2 ∧ y.2.length ≤ y.1.2 ∧ y.1.2 ≤ maxLen}) (fun x => .slice x.1.1.1 x.1.2.length x.1.1.2) (fun x => [.row (.slice x.1.1.1 x.1.2.length x.1.1.2) 65 17 x.1.2.length (flat Rs.cells x.1.2)]) rfl rfl rfl rfl rfl Tryz.func73 (by decide) rfl (fun w1 hw => stream_any A0 c0 l x35 x44.flow w1 (hr.up hw.bel) hl1 hok) ?_
       rintro ⟨⟨⟨R63, rc63⟩, st63⟩, hP63, hR631, hR632⟩
       dsimp only [List.cons_append, List.nil_append]
       dsimp only at hP63 hR631 hR632 ⊢
       have hstl : st63.length ≤ 512 := Nat.le_trans (hP63.leo hP27) hol
       have hin63 := stream_ne hP40 hx44 hu44 hP63
       obtain ⟨r0, hr0⟩ : ∃ r0, st63[0]? = some r0 := ⟨_, List.getElem?_eq_getElem (List.length_pos_of_mem hin63)⟩
       refine zE ?_
       refine TX.held (fun w1 hw => hw.pick [1, 4, 8, 9] (by decide) rfl) ?_
       refine TH.only' 8 rfl (by kernel_rfl) rfl ?_
       refine TL.pcallPm (α := {y : (Option Addr × Nat) × List Rp // (MinU (PrS es st63 u) (TmS r0 st63) y.2 ∧ y.2.length ≤ 262657) ∧ y.2.length ≤ y.1.2 ∧ y.1.2 ≤ maxLen}) (fun x => .slice x.1.1.1 x.1.2.length x.1.1.2) (fun x => [.row (.slice x.1.1.1 x.1.2.length x.1.1.2) 34 8 x.1.2.length (flat Rp.cells x.1.2)]) rfl rfl rfl rfl rfl Tryz.func92 (by decide) rfl (fun w1 hw => search_any R63 rc63 st63 A1 c1 es u r0 w1 (pm_rd hw (k := 0) rfl) (by omega) (hr1.up hw.bel) hstl hr0 (fun r hr => vld_in (hva r ((hP63.mem r).1 hr).1)) hprb) ?_
       rintro ⟨⟨⟨R66, rc66⟩, o66⟩, hP66, hR661, hR662⟩
       dsimp only [List.cons_append, List.nil_append]
       dsimp only at hP66 hR661 hR662 ⊢
       refine zE ?_
       refine TX.held (fun w1 hw => hw.pick [2, 5, 9, 10] (by decide) rfl) ?_
       refine TH.only' 9 rfl (by kernel_rfl) rfl ?_
       refine TL.appendT (k := 6) rfl rfl rfl rfl Tryz.underlying49 aseel49 rfl rfl rfl (fun w1 hw => pm_reads hw (k := 0) rfl) (flat_one rp_cel _) (by show _ * 64 ≤ _; omega) ((out2 ++ o66).length) (List.length_append) (flat Rp.cells (out2 ++ o66)) ((flat_app _ _).symm) (fun A67 c67 hA671 hA672 => ?_)
       refine zE ?_
       refine TX.he (fun w1 hw => hw.pick [2, 5, 9, 10] (by decide) rfl) fun hS => ?_
       refine TH.t 10 rfl (gives_assign rfl rfl) hS ?_
       refine TH.done (by kernel_rfl) ?_
       refine zN (zT (zG (TL.v (gD ((j + 1 : Nat) : Int)) ?_)))
       refine TL.mv ?_
       refine zE ?_
       exact TX.round (⟨(j + 1, (A67, c67), out2 ++ o66, ob2), by dsimp only; omega, fb_step hM2 hx35 hP31 hx44 hu44 hnm44 hP63 hr0 h15 h19 hP66.1, by dsimp only; rw [fls_snoc_t hx44 hu44]; exact hFl2, by dsimp only; rw [List.length_append]; omega, hA671, hA672⟩) (by show of40.length - (j + 1) < of40.length - j; omega) ⟨rfl, rfl, rfl, rfl, rfl, rfl, rfl, rfl, rfl, rfl, rfl, rfl, trivial⟩ (fun w1 hw => hw.pick [3, 4, 5, 6, 7, 8, 9, 10] (by decide) rfl)
      refine TL.rn 2 rfl (zET (zc (zx (zX (zM (zT (zG (TL.v (gD ((j + 1 : Nat) : Int)) ?_))))))))
      refine TL.mv ?_
      refine zE ?_
      exact TX.round (⟨(j + 1, (Ao2, co2), out2, om), by dsimp only; omega, (fb_skip hM2 hx44 (.inr h52)).2, hFl.same (fb_skip hM2 hx44 (.inr h52)).1, by dsimp only; omega, hoc2, hom2⟩) (by show of40.length - (j + 1) < of40.length - j; omega) ⟨rfl, rfl, rfl, rfl, rfl, rfl, rfl, rfl, rfl, rfl, rfl, rfl, trivial⟩ (fun w1 hw => hw.pick [1, 2, 3, 4, 5, 6, 7, 8] (by decide) rfl)
    refine zET (zS (zd (zx (zX (zX (zM (zN (zT (zG (TL.v (gD ((i + 1 : Nat) : Int)) ?_))))))))))
    refine TL.mv ?_
    refine zE ?_
    exact TX.round (⟨(i + 1, (Ao2, co2), out2), by dsimp only; omega, fb_end hM2 (by omega) hP40 hx35, by dsimp only; omega, hoc2, hom2⟩) (by show tr31.length - (i + 1) < tr31.length - i; omega) ⟨rfl, rfl, rfl, rfl, rfl, rfl, rfl, trivial⟩ (fun w1 hw => hw.pick [3, 4, 5, 6, 7] (by decide) rfl)
   refine zET (zS (zd (zx (zX (zX (zM (zT (zSG (TL.mv ?_)))))))))
   refine TL.turnRowD (k := 0) (fun ys => Sorted cmpRp out ys) rfl rfl rfl rfl rfl Tryz.func93 (by decide) rfl rfl (fun w1 hw hr9 => sortRp hr9 (rfl) (by omega)) (fun srt71 hS71 => ?_)
   try dsimp only [List.set_cons_zero, List.set_cons_succ]
   refine zET (zSG (TL.rn 3 rfl (zET (zr ?_))))
   have hfe := fa_end hM (by omega) hP31 hS71
   have hsl := hS71.1.length_eq
   exact ret_pair (v1 := .slice Ao out.length co) (v2 := .int .i64 0) Tryz.results39 rfl rfl (fun w1 hw => ⟨⟨(((Ao, co), srt71), 0), .inr (.inr ⟨rfl, hfe, ⟨hva, h19, h15⟩, o27, hP27, hol⟩), by dsimp only; omega, by dsimp only; omega, hom⟩, (by dsimp only; rw [hsl]), (by dsimp only; rw [hsl]; exact hw.pick [0] (by decide) rfl)⟩)
  refine TL.rn 6 rfl (zET (zc (zSG (TL.rn 2 rfl (zET (zr (zR ?_)))))))
  exact ret_pair (v1 := .slice none 0 0) (v2 := .int .i64 1) Tryz.results39 rfl rfl (fun w1 hw => ⟨⟨(((none, 0), []), 1), .inl ⟨rfl, rfl, fun h => by have h9 := h.2.1; rw [h19] at h9; cases h9⟩, Nat.zero_le _, Nat.le_refl _, Nat.zero_le _⟩, rfl, (hw.pick [] (by decide) rfl).nilrow _ _⟩)
 refine TL.rn 10 rfl (zET (zc (zSG (TL.rn 2 rfl (zET (zr (zR ?_)))))))
 exact ret_pair (v1 := .slice none 0 0) (v2 := .int .i64 1) Tryz.results39 rfl rfl (fun w1 hw => ⟨⟨(((none, 0), []), 1), .inl ⟨rfl, rfl, fun h => by have h9 := h.2.2; rw [h15] at h9; cases h9⟩, Nat.zero_le _, Nat.le_refl _, Nat.zero_le _⟩, rfl, (hw.pick [] (by decide) rfl).nilrow _ _⟩)
section
variable {P : Program} {N : Fr} {E : Env} {o : Oper} {I : World → Prop}
theorem gives_fieldV {t : TypeId} {x : Operand} {i : Nat} {vx v : Value} (ho : o.op = .field t x i) (hx : ev E x = some vx) (hv : ∀ w : World, (Instr.field t vx i).run P w = .ok v w) : Gives P N o E I v := fun a w ha _ => by
  unfold execOp; rw [ho]
  simp only [ha.eval hx, Sem.run_bind, hv, Result.andThen_ok, Sem.run_pure]
end
set_option maxRecDepth 20000
def NetsOk (ns : List Nt) (PP : List (Sg (Sg Int))) : Prop := 1 ≤ ns.length ∧ ns.length ≤ 2 ∧ ∀ n ∈ ns, NtOk n ∧ n.ps ∈ PP
def netsP (PP : List (Sg (Sg Int))) : List Pc := segG 96 1 (flat sgc) PP ++ segG 30 1 (flat (ic .u32)) (PP.flatMap (·.l))
theorem Pm.netIn {w0 : Base} {w : World} {p : Sg (Sg Int)} {P O : List Pc} {PP : List (Sg (Sg Int))} (h : Pm w0 (netP p ++ (P ++ (netsP PP ++ O))) w) : Pm w0 (P ++ (netsP (p :: PP) ++ O)) w := by
 refine h.permute ?_
 have e : netsP (p :: PP) = .row (.slice p.A p.l.length p.c) 96 1 p.l.length (flat sgc p.l) :: (segG 96 1 (flat sgc) PP ++ (segG 30 1 (flat (ic .u32)) p.l ++ segG 30 1 (flat (ic .u32)) (PP.flatMap (·.l)))) := by
  unfold netsP segG
  rw [List.flatMap_cons, List.map_append]
  rfl
 have h1 : (netP p ++ netsP PP).Perm (netsP (p :: PP)) := by
  rw [e]
  unfold netP netsP
  rw [List.cons_append]
  refine List.Perm.cons _ ?_
  rw [← List.append_assoc, ← List.append_assoc]
  exact List.Perm.append_right _ List.perm_append_comm
 have h2 : (netP p ++ (P ++ (netsP PP ++ O))).Perm (P ++ ((netP p ++ netsP PP) ++ O)) := by
  rw [← List.append_assoc, List.append_assoc (netP p) (netsP PP) O, ← List.append_assoc P]
  exact List.Perm.append_right _ List.perm_append_comm
 exact h2.trans (List.Perm.append_left P (List.Perm.append_right O h1))
theorem nets_mem1 {p : Sg (Sg Int)} {PP : List (Sg (Sg Int))} {T : List Pc} (h : p ∈ PP) : Pc.row (.slice p.A p.l.length p.c) 96 1 p.l.length (flat sgc p.l) ∈ netsP PP ++ T :=
 List.mem_append_left _ (List.mem_append_left _ (List.mem_map_of_mem (f := Sg.pc 96 1 (flat sgc)) h))
theorem nets_mem2 {p : Sg (Sg Int)} {s : Sg Int} {PP : List (Sg (Sg Int))} {T : List Pc} (h : p ∈ PP) (hs : s ∈ p.l) : Pc.row (.slice s.A s.l.length s.c) 30 1 s.l.length (flat (ic .u32) s.l) ∈ netsP PP ++ T :=
 List.mem_append_left _ (List.mem_append_right _ (List.mem_map_of_mem (f := Sg.pc 30 1 (flat (ic .u32))) (List.mem_flatMap.2 ⟨p, h, hs⟩)))
theorem nets_one {n : Nt} (h : NtOk n) : NetsOk [n] [n.ps] := ⟨Nat.le_refl _, by show 1 ≤ 2; decide, fun x hx => by rw [List.mem_singleton.1 hx]; exact ⟨h, List.mem_cons_self⟩⟩
theorem nets_two {n n' : Nt} (h : NtOk n) (h' : NtOk n') : NetsOk ([n] ++ [n']) [n'.ps, n.ps] := ⟨by show 1 ≤ 2; decide, Nat.le_refl _, fun x hx => by
 rcases List.mem_append.1 hx with hx | hx
 ·rw [List.mem_singleton.1 hx]; exact ⟨h, List.mem_cons_of_mem _ List.mem_cons_self⟩
 rw [List.mem_singleton.1 hx]; exact ⟨h', List.mem_cons_self⟩⟩
theorem nets_set {ns : List Nt} {PP : List (Sg (Sg Int))} {x y : Nt} {i : Nat} (h : NetsOk ns PP) (hx : ns[i]? = some x) (hy : NtOk y) : NetsOk (ns.set i ⟨x.v, x.dst, x.proto, y.ps, x.last⟩) (y.ps :: PP) := by
 refine ⟨by rw [List.length_set]; exact h.1, by rw [List.length_set]; exact h.2.1, fun z hz => ?_⟩
 rcases List.mem_or_eq_of_mem_set hz with h1 | h1
 ·exact ⟨(h.2.2 z h1).1, List.mem_cons_of_mem _ (h.2.2 z h1).2⟩
 rw [h1]
 obtain ⟨⟨h2, h3, _⟩, _⟩ := h.2.2 x (List.mem_of_getElem? hx)
 exact ⟨⟨h2, h3, hy.2.2⟩, List.mem_cons_self⟩
def AnsP (ans dbl : Bool) (src kind left id quo : Int) : Prop := (ans = false ∧ dbl = false ∧ src = 0 ∧ kind = 0 ∧ left = 0 ∧ id = 0 ∧ quo = 0) ∨ (ans = true ∧ 1 ≤ src ∧ src ≤ 167774466 ∧ 1 ≤ kind ∧ kind ≤ 3 ∧ left = 60 ∧ 0 ≤ id ∧ id ≤ 65535 ∧ quo = 1)
def DrR (r : Rs) : Prop := vldRs r = true ∧ r.Ok ∧ r.run = 0 ∧ TrOk ⟨r.v, r.dst, r.proto⟩ ∧ (0 ≤ r.num ∧ r.num ≤ 99) ∧ (0 ≤ r.flow ∧ r.flow ≤ 2) ∧ (1 ≤ r.ttl ∧ r.ttl ≤ 4) ∧ (0 ≤ r.at_ ∧ r.back ≤ 20000) ∧ AnsP r.ans r.dbl r.src r.kind r.left r.id r.quo ∧ r.code = 0
def DrOrd (a b : Rs) : Prop := a.back < b.at_ ∧ (a.v = b.v → a.num < b.num)
def DrawnOk (m : Nat) (l : List Rs) : Prop := (∀ r ∈ l, DrR r) ∧ l.Pairwise DrOrd ∧ l.length ≤ m
def OutOk (l : List Rs) (at_ n0 n1 : Nat) : Prop := (∀ r ∈ l, DrR r ∧ r.back ≤ (at_ : Int) ∧ (r.v = 0 → r.num < (n0 : Int)) ∧ (r.v = 1 → r.num < (n1 : Int))) ∧ l.Pairwise DrOrd ∧ n0 + n1 = l.length
theorem OutOk.nil (a : Nat) : OutOk [] a 0 0 := ⟨fun r hr => absurd hr List.not_mem_nil, .nil, rfl⟩
theorem OutOk.ok {l : List Rs} {a n0 n1 m : Nat} (h : OutOk l a n0 n1) (hm : l.length ≤ m) : DrawnOk m l := ⟨fun r hr => (h.1 r hr).1, h.2.1, hm⟩
theorem ans_vld {r : Rs} (h : r.inRange) (hd : r.dst ≠ 0) (hp : r.proto = 17 ∨ r.proto = 1 ∨ r.proto = 6) (ha : AnsP r.ans r.dbl r.src r.kind r.left r.id r.quo) (hc : r.code = 0) : vldRs r = true := by
 have h1 : chkR r = 0 := by
  unfold chkR
  rw [if_neg (fun h1 => h1 h), if_neg (fun h1 => h1 (by omega))]
  rcases ha with ⟨a1, a2, a3, a4, a5, a6, a7⟩ | ⟨a1, a2, a3, a4, a5, a6, a7, a8, a9⟩
  ·have hn : r.noAns = true := by unfold Rs.noAns; simp [a3, a4, a5, a6, a7, hc]
   rw [if_neg (by rw [a1, a2, hn]; simp), if_neg (by rw [a1]; simp)]
  have ho : r.ansOk := by unfold Rs.ansOk; omega
  rw [if_neg (by rw [a1]; simp), if_neg (fun h2 => h2.2 ho)]
 unfold vldRs
 simp only [h1, decide_true, Bool.true_and, Bool.and_eq_true, decide_eq_true_eq, Bool.or_eq_true, Bool.not_eq_true']
 refine ⟨hd, ?_⟩
 rcases ha with ⟨a1, _⟩ | ⟨a1, a2, _⟩
 ·exact .inl a1
 exact .inr (by omega)
theorem OutOk.snoc {l : List Rs} {at0 at1 n0 n1 n2 n3 num f tq bq : Nat} {v dst proto : Int} {an db : Bool} {sr kd lf ie qu : Int} (h : OutOk l at0 n0 n1) (ht : TrOk ⟨v, dst, proto⟩)
  (hnum : (v = 0 ∧ num = n0) ∨ (v = 1 ∧ num = n1)) (hn : (v = 0 ∧ n2 = n0 + 1 ∧ n3 = n1) ∨ (v = 1 ∧ n2 = n0 ∧ n3 = n1 + 1)) (ha : AnsP an db sr kd lf ie qu) (hat : at0 < at1) (hf : f ≤ 2) (htq : tq ≤ 3) (hb : bq ≤ 3) (hbd : at1 ≤ 19000 ∧ l.length ≤ 99) :
  OutOk (l ++ [⟨v, 0, (num : Int), (at1 : Int), dst, proto, (f : Int), ((1 + tq : Nat) : Int), an, db, ((at1 + 5 * (1 + tq) + bq : Nat) : Int), sr, kd, 0, lf, ie, qu⟩]) (at1 + 5 * (1 + tq) + bq) n2 n3 := by
 have ht2 := ht
 unfold TrOk at ht2
 dsimp only at ht2
 have hl := h.2.2
 have hso : 0 ≤ sr ∧ sr ≤ 4294967295 := by
  rcases ha with ⟨_, _, a3, _⟩ | ⟨_, a2, a3, _⟩ <;> omega
 have hnew : DrR ⟨v, 0, (num : Int), (at1 : Int), dst, proto, (f : Int), ((1 + tq : Nat) : Int), an, db, ((at1 + 5 * (1 + tq) + bq : Nat) : Int), sr, kd, 0, lf, ie, qu⟩ := by
  refine ⟨ans_vld ?_ (by dsimp only; omega) (by dsimp only; omega) ha rfl, ?_, rfl, ht, ?_, ?_, ?_, ?_, ha, rfl⟩
  ·unfold Rs.inRange; dsimp only; omega
  ·unfold Rs.Ok; dsimp only; omega
  ·dsimp only; omega
  ·dsimp only; omega
  ·dsimp only; omega
  dsimp only; omega
 refine ⟨fun r hr => ?_, List.pairwise_append.2 ⟨h.2.1, List.pairwise_singleton _ _, fun a ha2 b hb2 => ?_⟩, by rw [List.length_append]; show n2 + n3 = l.length + 1; omega⟩
 ·rcases List.mem_append.1 hr with hr | hr
  ·obtain ⟨h1, h2, h3, h4⟩ := h.1 r hr
   exact ⟨h1, by omega, fun e => by have := h3 e; omega, fun e => by have := h4 e; omega⟩
  rw [List.mem_singleton.1 hr]
  refine ⟨hnew, Int.le_refl _, fun e => ?_, fun e => ?_⟩
  ·dsimp only at e ⊢; omega
  dsimp only at e ⊢; omega
 rw [List.mem_singleton.1 hb2]
 obtain ⟨h1, h2, h3, h4⟩ := h.1 a ha2
 refine ⟨by dsimp only; omega, fun e => ?_⟩
 dsimp only at e ⊢
 rcases hnum with ⟨e1, e2⟩ | ⟨e1, e2⟩
 ·have := h3 (by omega); omega
 have := h4 (by omega); omega
theorem drebs121_1_73147 (a0_0 : Int) (a0_1 : Int) (a0_2 : Int) (a0_3 : Option Addr) (a0_3n a0_3c : Nat) (a0_4 : Int) (w : World) : (Instr.buildSlice 94 1 #[(0, .agg #[.int .i64 a0_0, .int .u32 a0_1, .int .i64 a0_2, .slice a0_3 a0_3n a0_3c, .int .u32 a0_4])]).run Tryz.prog w = .ok (.slice (some ⟨w.heap.size, 0, none⟩) 1 1) (w.alloc (.cells [.int .i64 a0_0, .int .u32 a0_1, .int .i64 a0_2, .slice a0_3 a0_3n a0_3c, .int .u32 a0_4].toArray 92)) := by kernel_rfl
theorem dreel121 : Elem Tryz.prog 94 92 5 56 := Elem.mk' Tryz.underlying94 (z := .agg #[.int .i64 0, .int .u32 0, .int .i64 0, .slice none 0 0, .int .u32 0]) (by kernel_rfl) rfl (by omega) (by omega)
theorem drezv122 (w : World) : (zeroValue 95).run Tryz.prog w = .ok (.agg #[.int .i64 0, .int .i64 0, .int .i64 0, .int .i64 0, .int .i64 0, .int .i64 0, .int .i64 0, .int .i64 0, .int .i64 0, .int .i64 0, .int .i64 0, .int .i64 0, .int .i64 0, .int .i64 0, .int .i64 0, .int .i64 0]) w := rfl
theorem drefv119_1_92971 (a0 : Int) (a1 : Int) (a2 : Int) (a3 : Option Addr) (a3n a3c : Nat) (a4 : Int) (w : World) : (Instr.field 92 (.agg #[.int .i64 a0, .int .u32 a1, .int .i64 a2, .slice a3 a3n a3c, .int .u32 a4]) 1).run Tryz.prog w = .ok (.slice a3 a3n a3c) w := by kernel_rfl
theorem drebld47_74773 (a0_0 : Int) (a1_0 : Int) (a2_0 : Int) (a3_0 : Int) (a4_0 : Int) (a5_0 : Int) (a6_0 : Int) (a7_0 : Int) (w : World) : (Instr.build 65 #[(0, .int .i64 a0_0), (1, .int .i64 a1_0), (2, .int .i64 a2_0), (3, .int .i64 a3_0), (4, .int .u32 a4_0), (5, .int .i64 a5_0), (6, .int .i64 a6_0), (7, .int .i64 a7_0)]).run Tryz.prog w = .ok (.agg #[.int .i64 a0_0, .int .i64 a1_0, .int .i64 a2_0, .int .i64 a3_0, .int .u32 a4_0, .int .i64 a5_0, .int .i64 a6_0, .int .i64 a7_0, .bool false, .bool false, .int .i64 0, .int .u32 0, .int .i64 0, .int .i64 0, .int .i64 0, .int .i64 0, .int .i64 0]) w := by kernel_rfl
theorem dresz4 (w : World) : (sizeOf 4).run Tryz.prog w = .ok 1 w := rfl
theorem dreone_b {a0 : Bool} : ∀ u ∈ [(.bool a0 : Value)], u.oneCell' = true := by
 intro u hu
 rw [List.mem_singleton] at hu
 subst hu; rfl
theorem drebld45_50928 (a0_0 : Int) (a1_0 : Int) (a3_0 : Int) (a4_0 : Int) (a5_0 : Int) (w : World) : (Instr.build 63 #[(0, .int .u32 a0_0), (1, .int .i64 a1_0), (3, .int .i64 a3_0), (4, .int .i64 a4_0), (5, .int .i64 a5_0)]).run Tryz.prog w = .ok (.agg #[.int .u32 a0_0, .int .i64 a1_0, .int .i64 0, .int .i64 a3_0, .int .i64 a4_0, .int .i64 a5_0]) w := by kernel_rfl
theorem dresz45 (w : World) : (sizeOf 63).run Tryz.prog w = .ok 6 w := rfl
theorem dreone_u32i64i64i64i64i64 {a0 : Int} {a1 : Int} {a2 : Int} {a3 : Int} {a4 : Int} {a5 : Int} : ∀ u ∈ [(.int .u32 a0 : Value), .int .i64 a1, .int .i64 a2, .int .i64 a3, .int .i64 a4, .int .i64 a5], u.oneCell' = true := by
 intro u hu
 simp only [List.mem_cons, List.not_mem_nil, or_false] at hu
 rcases hu with rfl | rfl | rfl | rfl | rfl | rfl <;> rfl
theorem results_cod (cb : Nat) (w : World) (hC : Cod w cb) (m : Nat) (stb : Bool) (hm : m ≤ 100) :
  Calls Tryz.prog 17 #[.pointer (some ⟨cb, 0, none⟩), .int .i64 ((m : Nat) : Int), .bool stb] w fun e w' => ∃ x : {y : (Option Addr × Nat) × List Rs // DrawnOk m y.2 ∧ y.2.length ≤ y.1.2 ∧ y.1.2 ≤ maxLen}, e = .returned (.slice x.1.1.1 x.1.2.length x.1.1.2) ∧ Codr (fun w => Cod w cb) cb w ([.row (.slice x.1.1.1 x.1.2.length x.1.1.2) 65 17 x.1.2.length (flat Rs.cells x.1.2)]) w' := by
 refine begin_ (vs := [.pointer (some ⟨cb, 0, none⟩), .int .i64 ((m : Nat) : Int), .bool stb]) (I := Pm ⟨w, cb⟩ (.abs cb (fun w => Cod w cb) :: oths cb w)) Tryz.func17 rfl rfl rfl ?_ (Pm.codes hC (cod_cells hC) (cod_stab cb))
 refine zSG (TL.as_ ?_)
 refine zET (zSG (TL.mv ?_))
 refine TL.call (α := {y : Nt // NtOk y}) (r := fun x => .agg x.1.cells.toArray) (I' := fun x => Pm ⟨w, cb⟩ ([.abs cb (fun w => Cod w cb)] ++ (netsP (x.1.ps :: ([])) ++ oths cb w))) rfl rfl rfl rfl rfl Tryz.func63 (by decide) rfl (fun w1 hw => (scene_cod cb w1 (hw.at_ (k := 0) rfl).1).mono fun e w2 ⟨x, h1, h2⟩ => ⟨x, h1, Pm.netIn (P := [.abs cb (fun w => Cod w cb)]) (PP := ([])) (O := oths cb w) (hw.cods (k := 0) rfl h2 (netP_noAbs _))⟩) ?_
 rintro ⟨sc0, hsc0⟩
 dsimp only
 refine TL.prowS (e := 92) (size := 5) (cs := flat Nt.cells [sc0]) rfl rfl rfl rfl rfl (fun w => drebs121_1_73147 _ _ _ _ _ _ _ w) (by decide) rfl (fun g21 => ?_)
 refine TL.as_ ?_
 refine zET ?_
 refine TC.join (α := {y : (Option Addr × Nat) × List Nt × List (Sg (Sg Int)) // NetsOk y.2.1 y.2.2 ∧ y.2.1.length ≤ y.1.2 ∧ y.1.2 ≤ maxLen}) (fun y => [(0, .pointer (some ⟨cb, 0, none⟩)), (1, .int .i64 ((m : Nat) : Int)), (2, .bool stb), (6, .slice none 0 0), (7, .slice y.1.1.1 y.1.2.1.length y.1.1.2)]) (fun y => Pm ⟨w, cb⟩ ([.row (.slice y.1.1.1 y.1.2.1.length y.1.1.2) 92 5 y.1.2.1.length (flat Nt.cells y.1.2.1), .abs cb (fun w => Cod w cb)] ++ (netsP y.1.2.2 ++ oths cb w))) ?_ ?_
 ·refine zSG (TL.mv ?_)
  refine TL.pcallCod (k := 1) (α := Bool) (fun x => .bool x) (fun x => []) rfl rfl rfl rfl rfl Tryz.func18 (by decide) rfl rfl (fun w1 hw hC1 => dbool_cod cb w1 hC1 3 (by decide)) ?_
  rintro b0
  dsimp only [List.cons_append, List.nil_append]
  refine zET ?_
  refine TC.split (t := b0) rfl (fun c23 => ?_) (fun c23 => ?_)
  ·refine zG (TL.rn 2 rfl ?_)
   refine TL.call (α := {y : Nt // NtOk y}) (r := fun x => .agg x.1.cells.toArray) (I' := fun x => Pm ⟨w, cb⟩ ([.row (.slice (some ⟨g21, 0, none⟩) 1 1) 92 5 1 (flat Nt.cells [sc0]), .abs cb (fun w => Cod w cb)] ++ (netsP (x.1.ps :: (sc0.ps :: ([]))) ++ oths cb w))) rfl rfl rfl rfl rfl Tryz.func63 (by decide) rfl (fun w1 hw => (scene_cod cb w1 (hw.at_ (k := 1) rfl).1).mono fun e w2 ⟨x, h1, h2⟩ => ⟨x, h1, Pm.netIn (P := [.row (.slice (some ⟨g21, 0, none⟩) 1 1) 92 5 1 (flat Nt.cells [sc0]), .abs cb (fun w => Cod w cb)]) (PP := (sc0.ps :: ([]))) (O := oths cb w) (hw.cods (k := 1) rfl h2 (netP_noAbs _))⟩) ?_
   rintro ⟨sc1, hsc1⟩
   dsimp only
   refine TL.prowS (e := 92) (size := 5) (cs := flat Nt.cells [sc1]) rfl rfl rfl rfl rfl (fun w => drebs121_1_73147 _ _ _ _ _ _ _ w) (by decide) rfl (fun g27 => ?_)
   refine TL.appendT (k := 1) rfl rfl rfl rfl Tryz.underlying94 dreel121 rfl rfl rfl (fun w1 hw => pm_reads hw (k := 0) rfl) (flat_one nt_cel _) (by show _ * 56 ≤ _; omega) (1 + 1) (rfl) (flat Nt.cells (([sc0]) ++ [sc1])) ((flat_app _ _).symm) (fun A28 c28 hA281 hA282 => ?_)
   refine TL.as_ ?_
   refine zE ?_
   exact TX.joined (⟨((A28, c28), ([sc0]) ++ [sc1], (sc1.ps :: (sc0.ps :: ([])))), nets_two hsc0 hsc1, hA281, hA282⟩) (⟨rfl, rfl, rfl, rfl, rfl, trivial⟩) (fun w1 hw => hw.sel (.cons _ (.cons_cons _ (.cons_cons _ (List.Sublist.refl _)))))
  refine zk ?_
  exact TX.joined (⟨(((some ⟨g21, 0, none⟩), 1), [sc0], (sc0.ps :: ([]))), nets_one hsc0, by show 1 ≤ 1; decide, by show 1 ≤ maxLen; unfold maxLen; decide⟩) (⟨rfl, rfl, rfl, rfl, rfl, trivial⟩) (fun w1 hw => hw)
 rintro ⟨⟨⟨An, cn⟩, ns, PP⟩, hns, hnc, hnm⟩
 dsimp only at hns hnc hnm ⊢
 have hn1 := hns.1
 have hn2 := hns.2.1
 refine zS (TC.fact (p := ∃ g, An = some ⟨g, 0, none⟩) (fun w1 hw => rowA hw (k := 0) rfl (by omega)) ?_)
 rintro ⟨g_An, rfl⟩
 refine zG (TL.as_ ?_)
 refine zET (zSG (TL.mv ?_))
 refine TL.pcallCod (k := 1) (α := {q9 : Nat // q9 ≤ 65535 ∧ (1 ≤ (50 : Int) → (q9 : Int) < 50)}) (fun q9 => .int .i64 ((q9.1 : Nat) : Int)) (fun q9 => []) rfl rfl rfl rfl rfl Tryz.func21 (by decide) rfl rfl (fun w1 hw hC1 => next_cod cb w1 50 hC1) ?_
 rintro ⟨a0, ha01, ha02⟩
 dsimp only [List.cons_append, List.nil_append]
 refine TL.mv ?_
 refine TL.pcallCod (k := 1) (α := {q9 : Nat // q9 ≤ 65535 ∧ (1 ≤ (700 : Int) → (q9 : Int) < 700)}) (fun q9 => .int .i64 ((q9.1 : Nat) : Int)) (fun q9 => []) rfl rfl rfl rfl rfl Tryz.func21 (by decide) rfl rfl (fun w1 hw hC1 => next_cod cb w1 700 hC1) ?_
 rintro ⟨i0, hi01, hi02⟩
 dsimp only [List.cons_append, List.nil_append]
 refine TL.val rfl rfl rfl (gives_bin rfl rfl rfl (fun w => bin_mul_ (r := ((100 * i0 : Nat) : Int)) (by simp only [IntKind.wrap_i64]; omega) w)) ?_
 refine TL.rn 2 rfl (zET (zSG ?_))
 refine TL.pnew rfl rfl rfl (exec_alloc (cs := [.int .i64 0, .int .i64 0, .int .i64 0, .int .i64 0, .int .i64 0, .int .i64 0, .int .i64 0, .int .i64 0, .int .i64 0, .int .i64 0, .int .i64 0, .int .i64 0, .int .i64 0, .int .i64 0, .int .i64 0, .int .i64 0]) rfl drezv122 rfl) (fun g11 => ?_)
 refine zET (zS (zSG (TL.rn 2 rfl (TL.v (gD ((m + 1 : Nat) : Int)) ?_))))
 refine TL.pcallCod (k := 2) (α := {q9 : Nat // q9 ≤ 65535 ∧ (1 ≤ (((m + 1 : Nat) : Int) : Int) → (q9 : Int) < ((m + 1 : Nat) : Int))}) (fun q9 => .int .i64 ((q9.1 : Nat) : Int)) (fun q9 => []) rfl rfl rfl rfl rfl Tryz.func21 (by decide) rfl rfl (fun w1 hw hC1 => next_cod cb w1 ((m + 1 : Nat) : Int) hC1) ?_
 rintro ⟨k0, hk01, hk02⟩
 dsimp only [List.cons_append, List.nil_append]
 refine TL.as_ ?_
 refine zET (zB (TC.nilrow 65 17 ?_))
 refine TC.loop_ (α := {y : Nat × Nat × Nat × (Nat × Nat) × (Option Addr × Nat) × List Rs × List Nt × List (Sg (Sg Int)) // (y.1 + y.2.2.2.2.2.1.length ≤ m ∧ y.2.1 ≤ 100 + 100 * y.2.2.2.2.2.1.length ∧ y.2.2.1 ≤ 70000 + 100 * y.2.2.2.2.2.1.length) ∧ OutOk y.2.2.2.2.2.1 y.2.1 y.2.2.2.1.1 y.2.2.2.1.2 ∧ NetsOk y.2.2.2.2.2.2.1 y.2.2.2.2.2.2.2 ∧ y.2.2.2.2.2.2.1.length = ns.length ∧ y.2.2.2.2.2.1.length ≤ y.2.2.2.2.1.2 ∧ y.2.2.2.2.1.2 ≤ maxLen}) (fun y => [(0, .pointer (some ⟨cb, 0, none⟩)), (2, .bool stb), (7, .slice (some ⟨g_An, 0, none⟩) ns.length cn), (8, .slice y.1.2.2.2.2.1.1 y.1.2.2.2.2.2.1.length y.1.2.2.2.2.1.2), (9, .int .i64 ((y.1.2.1 : Nat) : Int)), (10, .int .i64 ((y.1.2.2.1 : Nat) : Int)), (12, .int .i64 ((y.1.1 : Nat) : Int)), (11, .pointer (some ⟨g11, 0, none⟩))]) (fun y => Pm ⟨w, cb⟩ ([.row (.slice y.1.2.2.2.2.1.1 y.1.2.2.2.2.2.1.length y.1.2.2.2.2.1.2) 65 17 y.1.2.2.2.2.2.1.length (flat Rs.cells y.1.2.2.2.2.2.1), .blk g11 95 [.int .i64 ((y.1.2.2.2.1.1 : Nat) : Int), .int .i64 ((y.1.2.2.2.1.2 : Nat) : Int), .int .i64 0, .int .i64 0, .int .i64 0, .int .i64 0, .int .i64 0, .int .i64 0, .int .i64 0, .int .i64 0, .int .i64 0, .int .i64 0, .int .i64 0, .int .i64 0, .int .i64 0, .int .i64 0], .row (.slice (some ⟨g_An, 0, none⟩) ns.length cn) 92 5 ns.length (flat Nt.cells y.1.2.2.2.2.2.2.1), .abs cb (fun w => Cod w cb)] ++ (netsP y.1.2.2.2.2.2.2.2 ++ oths cb w))) (fun y => y.1.1) (⟨(k0, a0, 100 * i0, (0, 0), (none, 0), [], ns, PP), ⟨by dsimp only [List.length_nil]; omega, by dsimp only [List.length_nil]; omega, by dsimp only [List.length_nil]; omega⟩, OutOk.nil _, hns, rfl, Nat.le_refl _, Nat.zero_le _⟩) ⟨rfl, rfl, rfl, rfl, rfl, rfl, rfl, rfl, trivial⟩ (fun w1 hw => hw) ?_
 rintro ⟨⟨k, at0, idn, ⟨n0, n1⟩, ⟨Ar, cr⟩, out, ns1, P1⟩, ⟨hk, hat, hid⟩, hout, hns1, hnl1, hrc, hrm⟩
 dsimp only at hk hat hid hout hns1 hnl1 hrc hrm ⊢
 refine zS (zSG (TL.mv ?_))
 refine TL.sp bin_gtr (fun q39 => ?_) (fun q39 => ?_)
 ·refine zET (zc (zk (zT (zS (zB (zSG (TL.rn 2 rfl (TL.v (gN Tryz.underlying94) ?_))))))))
  refine TL.pcallCod (k := 3) (α := {q9 : Nat // q9 ≤ 65535 ∧ (1 ≤ ((ns.length : Nat) : Int) → (q9 : Int) < (ns.length : Nat))}) (fun q9 => .int .i64 ((q9.1 : Nat) : Int)) (fun q9 => []) rfl rfl rfl rfl rfl Tryz.func21 (by decide) rfl rfl (fun w1 hw hC1 => next_cod cb w1 (ns.length : Nat) hC1) ?_
  rintro ⟨ix, hix1, hix2⟩
  dsimp only [List.cons_append, List.nil_append]
  refine TL.as_ ?_
  refine zET ?_
  refine TC.join (α := {y : List Nt × List (Sg (Sg Int)) // NetsOk y.1 y.2 ∧ y.1.length = ns.length}) (fun y => [(0, .pointer (some ⟨cb, 0, none⟩)), (2, .bool stb), (7, .slice (some ⟨g_An, 0, none⟩) ns.length cn), (8, .slice Ar out.length cr), (9, .int .i64 ((at0 : Nat) : Int)), (10, .int .i64 ((idn : Nat) : Int)), (11, .pointer (some ⟨g11, 0, none⟩)), (12, .int .i64 ((k : Nat) : Int)), (13, .int .i64 ((ix : Nat) : Int))]) (fun y => Pm ⟨w, cb⟩ ([.row (.slice Ar out.length cr) 65 17 out.length (flat Rs.cells out), .blk g11 95 [.int .i64 ((n0 : Nat) : Int), .int .i64 ((n1 : Nat) : Int), .int .i64 0, .int .i64 0, .int .i64 0, .int .i64 0, .int .i64 0, .int .i64 0, .int .i64 0, .int .i64 0, .int .i64 0, .int .i64 0, .int .i64 0, .int .i64 0, .int .i64 0, .int .i64 0], .row (.slice (some ⟨g_An, 0, none⟩) ns.length cn) 92 5 ns.length (flat Nt.cells y.1.1), .abs cb (fun w => Cod w cb)] ++ (netsP y.1.2 ++ oths cb w))) ?_ ?_
  ·refine zSG (TL.mv ?_)
   cases stb with
   | true =>
    refine TL.rn 5 rfl (zET (zd (zk ?_)))
    exact TX.joined (⟨(ns1, P1), hns1, hnl1⟩) (⟨rfl, rfl, rfl, rfl, rfl, rfl, rfl, rfl, rfl, trivial⟩) (fun w1 hw => hw)
   | false =>
    refine TL.rn 3 rfl (TL.gu ?_)
    refine TL.pcallCod (k := 3) (α := Bool) (fun x => .bool x) (fun x => []) rfl rfl rfl rfl rfl Tryz.func18 (by decide) rfl rfl (fun w1 hw hC1 => dbool_cod cb w1 hC1 12 (by decide)) ?_
    rintro b1
    dsimp only [List.cons_append, List.nil_append]
    refine TL.pk ?_
    refine zET ?_
    refine TC.split (t := b1) rfl (fun c51 => ?_) (fun c51 => ?_)
    ·refine zG (TL.rn 3 rfl ?_)
     refine TL.call (α := {y : Nt // NtOk y}) (r := fun x => .agg x.1.cells.toArray) (I' := fun x => Pm ⟨w, cb⟩ ([.row (.slice Ar out.length cr) 65 17 out.length (flat Rs.cells out), .blk g11 95 [.int .i64 ((n0 : Nat) : Int), .int .i64 ((n1 : Nat) : Int), .int .i64 0, .int .i64 0, .int .i64 0, .int .i64 0, .int .i64 0, .int .i64 0, .int .i64 0, .int .i64 0, .int .i64 0, .int .i64 0, .int .i64 0, .int .i64 0, .int .i64 0, .int .i64 0], .row (.slice (some ⟨g_An, 0, none⟩) ns.length cn) 92 5 ns.length (flat Nt.cells ns1), .abs cb (fun w => Cod w cb)] ++ (netsP (x.1.ps :: P1) ++ oths cb w))) rfl rfl rfl rfl rfl Tryz.func63 (by decide) rfl (fun w1 hw => (scene_cod cb w1 (hw.at_ (k := 3) rfl).1).mono fun e w2 ⟨x, h1, h2⟩ => ⟨x, h1, Pm.netIn (P := [.row (.slice Ar out.length cr) 65 17 out.length (flat Rs.cells out), .blk g11 95 [.int .i64 ((n0 : Nat) : Int), .int .i64 ((n1 : Nat) : Int), .int .i64 0, .int .i64 0, .int .i64 0, .int .i64 0, .int .i64 0, .int .i64 0, .int .i64 0, .int .i64 0, .int .i64 0, .int .i64 0, .int .i64 0, .int .i64 0, .int .i64 0, .int .i64 0], .row (.slice (some ⟨g_An, 0, none⟩) ns.length cn) 92 5 ns.length (flat Nt.cells ns1), .abs cb (fun w => Cod w cb)]) (PP := P1) (O := oths cb w) (hw.cods (k := 3) rfl h2 (netP_noAbs _))⟩) ?_
     rintro ⟨sc2, hsc2⟩
     dsimp only
     refine TL.val rfl rfl rfl (gives_fieldV (v := .slice sc2.ps.A sc2.ps.l.length sc2.ps.c) rfl rfl (fun w => drefv119_1_92971 _ _ _ _ _ _ _ w)) ?_
     have hi57 : ix < ns1.length := by omega
     obtain ⟨x57, hx57⟩ := ex_at hi57
     refine TL.val rfl rfl rfl (gA (i := ix) Tryz.underlying94 dntsz119 rfl rfl rfl rfl rfl (by omega)) ?_
     refine TL.v (gF dntfld119_1) ?_
     refine TL.rowset (k := 2) (vs := [.slice sc2.ps.A sc2.ps.l.length sc2.ps.c]) (xs' := flat Nt.cells (ns1.set ix (⟨x57.v, x57.dst, x57.proto, sc2.ps, x57.last⟩ : Nt))) rfl rfl rfl rfl rfl rfl rfl dntsz117 dntone_s (by rw [flat_len nt_cel]; show 0 + ix * 5 + 3 + 1 ≤ _; omega) (flat_put nt_cel (q := 3) (y := (⟨x57.v, x57.dst, x57.proto, sc2.ps, x57.last⟩ : Nt)) hx57 (by show 3 + 1 ≤ 5; decide) rfl) ?_
     try dsimp only [List.set_cons_zero, List.set_cons_succ]
     refine zE ?_
     exact TX.joined (⟨(ns1.set ix (⟨x57.v, x57.dst, x57.proto, sc2.ps, x57.last⟩ : Nt), (sc2.ps :: P1)), nets_set hns1 hx57 hsc2, by dsimp only; rw [List.length_set]; exact hnl1⟩) (⟨rfl, rfl, rfl, rfl, rfl, rfl, rfl, rfl, rfl, trivial⟩) (fun w1 hw => hw)
    refine zk ?_
    exact TX.joined (⟨(ns1, P1), hns1, hnl1⟩) (⟨rfl, rfl, rfl, rfl, rfl, rfl, rfl, rfl, rfl, trivial⟩) (fun w1 hw => hw)
  rintro ⟨⟨ns2, P2⟩, hns2, hnl2⟩
  dsimp only at hns2 hnl2 ⊢
  refine zSG (TL.rn 2 rfl ?_)
  have hi61 : ix < ns2.length := by omega
  obtain ⟨x61, hx61⟩ := ex_at hi61
  refine TL.val rfl rfl rfl (gA (i := ix) Tryz.underlying94 dntsz119 rfl rfl rfl rfl rfl (by omega)) ?_
  refine TL.val rfl rfl rfl (gives_loadR (off := 0 + ix * 5) rfl rfl dntag119 dntsz119 (nt_cel.len x61) (fun w1 hw j9 u9 h9 => flat_row nt_cel hw (q := 2) rfl hx61 j9 u9 h9)) ?_
  refine TL.pnew rfl rfl rfl (exec_alloc (cs := [.int .i64 0, .int .u32 0, .int .i64 0, .slice none 0 0, .int .u32 0]) rfl dntzv119 rfl) (fun g14 => ?_)
  refine TL.pstore (k := 0) (vs := x61.cells) rfl rfl rfl rfl rfl rfl rfl dntsz119 (nt_cel.one _) (by show 5 ≤ 5; decide) (L' := ([.blk g14 92 x61.cells, .row (.slice Ar out.length cr) 65 17 out.length (flat Rs.cells out), .blk g11 95 [.int .i64 ((n0 : Nat) : Int), .int .i64 ((n1 : Nat) : Int), .int .i64 0, .int .i64 0, .int .i64 0, .int .i64 0, .int .i64 0, .int .i64 0, .int .i64 0, .int .i64 0, .int .i64 0, .int .i64 0, .int .i64 0, .int .i64 0, .int .i64 0, .int .i64 0], .row (.slice (some ⟨g_An, 0, none⟩) ns.length cn) 92 5 ns.length (flat Nt.cells ns2), .abs cb (fun w => Cod w cb)] ++ (netsP P2 ++ oths cb w))) rfl ?_
  refine zET (zS ?_)
  have hnn := hout.2.2
  obtain ⟨hx61k, hx61p⟩ := hns2.2.2 x61 (List.mem_of_getElem? hx61)
  obtain ⟨hx61t, hx61l, lg, hlg1, hlg3, hps1, hps3, hlgw⟩ := hx61k
  have hx61t2 := hx61t
  unfold TrOk at hx61t2
  dsimp only at hx61t2
  have hv61 : x61.v = 0 ∨ x61.v = 1 := by omega
  refine zG (TL.mv ?_)
  refine TL.v (gF dntfld119_1) ?_
  refine TL.v (gL 0 dntag117) ?_
  refine TL.v (gN Tryz.underlying90) ?_
  refine TL.pcallCod (k := 4) (α := {q9 : Nat // q9 ≤ 65535 ∧ (1 ≤ ((x61.ps.l.length : Nat) : Int) → (q9 : Int) < (x61.ps.l.length : Nat))}) (fun q9 => .int .i64 ((q9.1 : Nat) : Int)) (fun q9 => []) rfl rfl rfl rfl rfl Tryz.func21 (by decide) rfl rfl (fun w1 hw hC1 => next_cod cb w1 (x61.ps.l.length : Nat) hC1) ?_
  rintro ⟨f, hf1, hf2⟩
  dsimp only [List.cons_append, List.nil_append]
  refine TL.as_ ?_
  refine zET (zSG (TL.v (gF dntfld119_1) ?_))
  refine TL.v (gL 0 dntag117) ?_
  refine TL.mv ?_
  have hmm71 := nets_mem1 (T := oths cb w) hx61p
  refine TL.fact (p := ∃ g, x61.ps.A = some ⟨g, 0, none⟩) (fun w1 hw => segA hw (List.mem_of_mem_drop (i := 5) (by exact hmm71)) (by omega)) ?_
  rintro ⟨gx71, hgx71⟩
  obtain ⟨p71, hp71⟩ : ∃ z, x61.ps.l[f]? = some z := ⟨_, List.getElem?_eq_getElem (by omega)⟩
  refine TL.val rfl rfl rfl (gA (i := f) Tryz.underlying90 dntsz64 rfl rfl rfl rfl hgx71 (by omega)) ?_
  refine TL.val rfl rfl rfl (gives_load (v := .slice p71.A p71.l.length p71.c) rfl rfl dntag64 (fun w1 hw => seg_cell sgc_cel hw (List.mem_of_mem_drop (i := 5) (by exact hmm71)) hgx71 hp71 0 _ rfl)) ?_
  have hpw71 := hlgw p71 (List.mem_of_getElem? hp71)
  have hp71l := hpw71.1
  refine TL.as_ ?_
  refine zET (zSG (TL.rn 2 rfl ?_))
  refine TL.pcallCod (k := 4) (α := {q9 : Nat // q9 ≤ 65535 ∧ (1 ≤ (40 : Int) → (q9 : Int) < 40)}) (fun q9 => .int .i64 ((q9.1 : Nat) : Int)) (fun q9 => []) rfl rfl rfl rfl rfl Tryz.func21 (by decide) rfl rfl (fun w1 hw hC1 => next_cod cb w1 40 hC1) ?_
  rintro ⟨dq, hdq1, hdq2⟩
  dsimp only [List.cons_append, List.nil_append]
  refine TL.v (gD ((1 + dq : Nat) : Int)) ?_
  refine TL.v (gD ((at0 + (1 + dq) : Nat) : Int)) ?_
  refine TL.as_ ?_
  refine zET ?_
  refine TC.join (α := {y : (Nat × Nat) × Nat // ((x61.v = 0 ∧ y.1.2 = n0) ∨ (x61.v = 1 ∧ y.1.2 = n1)) ∧ y.2 ≤ p71.l.length}) (fun y => [(0, .pointer (some ⟨cb, 0, none⟩)), (2, .bool stb), (7, .slice (some ⟨g_An, 0, none⟩) ns.length cn), (8, .slice Ar out.length cr), (9, .int .i64 ((at0 + (1 + dq) : Nat) : Int)), (10, .int .i64 ((idn : Nat) : Int)), (11, .pointer (some ⟨g11, 0, none⟩)), (12, .int .i64 ((k : Nat) : Int)), (14, .pointer (some ⟨g14, 0, none⟩)), (15, .int .i64 ((f : Nat) : Int)), (16, .slice p71.A p71.l.length p71.c), (17, .pointer (some ⟨y.1.1.1, 0, none⟩))]) (fun y => Pm ⟨w, cb⟩ ([.blk y.1.1.1 65 [.int .i64 x61.v, .int .i64 0, .int .i64 ((y.1.1.2 : Nat) : Int), .int .i64 ((at0 + (1 + dq) : Nat) : Int), .int .u32 x61.dst, .int .i64 x61.proto, .int .i64 ((f : Nat) : Int), .int .i64 ((1 + y.1.2 : Nat) : Int), .bool false, .bool false, .int .i64 0, .int .u32 0, .int .i64 0, .int .i64 0, .int .i64 0, .int .i64 0, .int .i64 0], .blk g14 92 x61.cells, .row (.slice Ar out.length cr) 65 17 out.length (flat Rs.cells out), .blk g11 95 [.int .i64 ((n0 : Nat) : Int), .int .i64 ((n1 : Nat) : Int), .int .i64 0, .int .i64 0, .int .i64 0, .int .i64 0, .int .i64 0, .int .i64 0, .int .i64 0, .int .i64 0, .int .i64 0, .int .i64 0, .int .i64 0, .int .i64 0, .int .i64 0, .int .i64 0], .row (.slice (some ⟨g_An, 0, none⟩) ns.length cn) 92 5 ns.length (flat Nt.cells ns2), .abs cb (fun w => Cod w cb)] ++ (netsP P2 ++ oths cb w))) ?_ ?_
  ·rcases hv61 with hv0 | hv1
   ·refine TC.cut [(0, .pointer (some ⟨cb, 0, none⟩)), (2, .bool stb), (7, .slice (some ⟨g_An, 0, none⟩) ns.length cn), (8, .slice Ar out.length cr), (9, .int .i64 ((at0 + (1 + dq) : Nat) : Int)), (10, .int .i64 ((idn : Nat) : Int)), (11, .pointer (some ⟨g11, 0, none⟩)), (12, .int .i64 ((k : Nat) : Int)), (13, .int .i64 ((ix : Nat) : Int)), (59, .slice (some ⟨g_An, 0, none⟩) ns.length cn), (60, .int .i64 ((ix : Nat) : Int)), (61, .pointer (some ⟨g_An, 0 + ix * 5, none⟩)), (62, .agg (x61.cells).toArray), (14, .pointer (some ⟨g14, 0, none⟩)), (63, .pointer (some ⟨cb, 0, none⟩)), (64, .pointer (some ⟨g14, 3, none⟩)), (65, .slice x61.ps.A x61.ps.l.length x61.ps.c), (66, .int .i64 (x61.ps.l.length : Nat)), (67, .int .i64 ((f : Nat) : Int)), (15, .int .i64 ((f : Nat) : Int)), (68, .pointer (some ⟨g14, 3, none⟩)), (69, .slice x61.ps.A x61.ps.l.length x61.ps.c), (70, .int .i64 ((f : Nat) : Int)), (71, .pointer (some ⟨gx71, 0 + f * 1, none⟩)), (72, .slice p71.A p71.l.length p71.c), (16, .slice p71.A p71.l.length p71.c), (73, .int .i64 ((at0 : Nat) : Int)), (74, .pointer (some ⟨cb, 0, none⟩)), (75, .int .i64 ((dq : Nat) : Int)), (76, .int .i64 ((1 + dq : Nat) : Int)), (77, .int .i64 ((at0 + (1 + dq) : Nat) : Int))] (Pm ⟨w, cb⟩ ([.blk g14 92 x61.cells, .row (.slice Ar out.length cr) 65 17 out.length (flat Rs.cells out), .blk g11 95 [.int .i64 ((n0 : Nat) : Int), .int .i64 ((n1 : Nat) : Int), .int .i64 0, .int .i64 0, .int .i64 0, .int .i64 0, .int .i64 0, .int .i64 0, .int .i64 0, .int .i64 0, .int .i64 0, .int .i64 0, .int .i64 0, .int .i64 0, .int .i64 0, .int .i64 0], .row (.slice (some ⟨g_An, 0, none⟩) ns.length cn) 92 5 ns.length (flat Nt.cells ns2), .abs cb (fun w => Cod w cb)] ++ (netsP P2 ++ oths cb w))) ⟨rfl, rfl, rfl, rfl, rfl, rfl, rfl, rfl, rfl, rfl, rfl, rfl, rfl, rfl, rfl, rfl, rfl, rfl, rfl, rfl, rfl, rfl, rfl, rfl, rfl, rfl, rfl, rfl, rfl, rfl, rfl, trivial⟩ (fun w1 hw => hw) ?_
    refine TC.held (ls := #[Ff,Ff,Ff,Ff,Ff,Ff,Ff,Ff,Ff,Ff,Ff,Ff,Ff,Ff,Ff,Ff,Ff,Ff,Ff,Ff,Ff,Ff,Ff,Ff,Ff]) (Pm ⟨w, cb⟩ [.blk g14 92 x61.cells, .blk g11 95 [.int .i64 ((n0 : Nat) : Int), .int .i64 ((n1 : Nat) : Int), .int .i64 0, .int .i64 0, .int .i64 0, .int .i64 0, .int .i64 0, .int .i64 0, .int .i64 0, .int .i64 0, .int .i64 0, .int .i64 0, .int .i64 0, .int .i64 0, .int .i64 0, .int .i64 0]]) (by kernel_rfl) rfl rfl (fun w hw => hw.drawn _) ?_
    refine TH.tk 0 rfl rfl rfl (gF dntfld119_0) (fun w1 hw => hw.pick [0, 2] (by decide) rfl) ?_
    refine TH.tk 1 rfl rfl rfl (gF pcmfld32_0) (fun w1 hw => hw.pick [0, 2] (by decide) rfl) ?_
    refine TH.tk 2 rfl rfl rfl (gL 0 pcmag3) (fun w1 hw => hw.pick [0, 2] (by decide) rfl) ?_
    refine TH.tk 3 rfl rfl rfl (gF dntfld119_0) (fun w1 hw => hw.pick [0, 2] (by decide) rfl) ?_
    refine TH.tk 4 rfl rfl rfl (gF pcmfld32_0) (fun w1 hw => hw.pick [0, 2] (by decide) rfl) ?_
    refine TH.tk 5 rfl rfl rfl (show Gives _ _ _ _ _ (Value.int .i64 0) from by rw [show (Value.int .i64 0) = .int .i64 x61.v by rw [hv0]]; exact pm_load (k := 0) (i := 0) rfl rfl pcmag3 rfl rfl) (fun w1 hw => hw.pick [0, 2] (by decide) rfl) ?_
    refine TH.tk 6 rfl rfl rfl (gives_at (v := .pointer (some ⟨g11, 0, none⟩)) rfl rfl rfl (fun w => at_arr Tryz.underlying95 pcmsz3 g11 0 _ 0 (by decide) w)) (fun w1 hw => hw.pick [0, 2] (by decide) rfl) ?_
    refine TH.tk 7 rfl rfl rfl (gL 1 pcmag3) (fun w1 hw => hw.pick [0, 2] (by decide) rfl) ?_
    refine TH.tk 8 rfl rfl rfl (gives_move rfl rfl) (fun w1 hw => hw.pick [0, 2] (by decide) rfl) ?_
    refine TH.tk 9 rfl rfl rfl (gF dntfld119_0) (fun w1 hw => hw.pick [0, 2] (by decide) rfl) ?_
    refine TH.tk 10 rfl rfl rfl (gF pcmfld32_1) (fun w1 hw => hw.pick [0, 2] (by decide) rfl) ?_
    refine TH.tk 11 rfl rfl rfl (gL 0 pcmag30) (fun w1 hw => hw.pick [0, 2] (by decide) rfl) ?_
    refine TH.tk 12 rfl rfl rfl (gF dntfld119_0) (fun w1 hw => hw.pick [0, 2] (by decide) rfl) ?_
    refine TH.tk 13 rfl rfl rfl (gF pcmfld32_2) (fun w1 hw => hw.pick [0, 2] (by decide) rfl) ?_
    refine TH.tk 14 rfl rfl rfl (gL 0 pcmag3) (fun w1 hw => hw.pick [0, 2] (by decide) rfl) ?_
    refine TH.tk 15 rfl rfl rfl (gives_move rfl rfl) (fun w1 hw => hw.pick [0, 2] (by decide) rfl) ?_
    refine TH.tk 16 rfl rfl rfl (gives_move rfl rfl) (fun w1 hw => hw.pick [0, 2] (by decide) rfl) ?_
    refine TH.tk 17 rfl rfl rfl (gives_move rfl rfl) (fun w1 hw => hw.pick [0, 2] (by decide) rfl) ?_
    refine TH.tk 18 rfl rfl rfl (gN Tryz.underlying96) (fun w1 hw => hw.pick [0, 2] (by decide) rfl) ?_
    refine TH.tk 19 rfl rfl rfl (gD ((p71.l.length + 1 : Nat) : Int)) (fun w1 hw => hw.pick [0, 2] (by decide) rfl) ?_
    refine TH.two' (listed1 := #[Tt,Tt,Tt,Tt,Tt,Tt,Tt,Tt,Tt,Tt,Tt,Tt,Tt,Tt,Tt,Tt,Tt,Tt,Tt,Tt,Tt,Ff,Ff,Ff,Ff]) (listed2 := #[Tt,Tt,Tt,Tt,Tt,Tt,Tt,Tt,Tt,Tt,Tt,Tt,Tt,Tt,Tt,Tt,Tt,Tt,Tt,Tt,Ff,Ff,Ff,Tt,Ff]) 20 23 rfl rfl (by kernel_rfl) rfl rfl ?_ ?_
    ·refine TL.pcallCod (k := 4) (α := {q9 : Nat // q9 ≤ 65535 ∧ (1 ≤ (((p71.l.length + 1 : Nat) : Int) : Int) → (q9 : Int) < ((p71.l.length + 1 : Nat) : Int))}) (fun q9 => .int .i64 ((q9.1 : Nat) : Int)) (fun q9 => []) rfl rfl rfl rfl rfl Tryz.func21 (by decide) rfl rfl (fun w1 hw hC1 => next_cod cb w1 ((p71.l.length + 1 : Nat) : Int) hC1) ?_
     rintro ⟨tq, htq1, htq2⟩
     dsimp only [List.cons_append, List.nil_append]
     refine zE ?_
     refine TX.he (fun w1 hw => hw.pick [0, 2] (by decide) rfl) fun hS => ?_
     refine TH.t 21 rfl (gD ((1 + tq : Nat) : Int)) hS ?_
     refine TH.t 22 rfl (gives_build (v := .agg #[.int .i64 x61.v, .int .i64 0, .int .i64 ((n0 : Nat) : Int), .int .i64 ((at0 + (1 + dq) : Nat) : Int), .int .u32 x61.dst, .int .i64 x61.proto, .int .i64 ((f : Nat) : Int), .int .i64 ((1 + tq : Nat) : Int), .bool false, .bool false, .int .i64 0, .int .u32 0, .int .i64 0, .int .i64 0, .int .i64 0, .int .i64 0, .int .i64 0]) rfl rfl (fun w => drebld47_74773 _ _ _ _ _ _ _ _ w)) hS ?_
     refine TH.only' 23 rfl (by kernel_rfl) rfl ?_
     refine TL.pnew rfl rfl rfl (exec_alloc (cs := [.int .i64 0, .int .i64 0, .int .i64 0, .int .i64 0, .int .u32 0, .int .i64 0, .int .i64 0, .int .i64 0, .bool false, .bool false, .int .i64 0, .int .u32 0, .int .i64 0, .int .i64 0, .int .i64 0, .int .i64 0, .int .i64 0]) rfl arpzv65 rfl) (fun g17 => ?_)
     refine zE ?_
     refine TX.held (fun w1 hw => hw.pick [1, 3] (by decide) rfl) ?_
     refine TH.only' 24 rfl (by kernel_rfl) rfl ?_
     refine TL.pstore (k := 0) (vs := [.int .i64 x61.v, .int .i64 0, .int .i64 ((n0 : Nat) : Int), .int .i64 ((at0 + (1 + dq) : Nat) : Int), .int .u32 x61.dst, .int .i64 x61.proto, .int .i64 ((f : Nat) : Int), .int .i64 ((1 + tq : Nat) : Int), .bool false, .bool false, .int .i64 0, .int .u32 0, .int .i64 0, .int .i64 0, .int .i64 0, .int .i64 0, .int .i64 0]) rfl rfl rfl rfl rfl rfl rfl prssz65 arpone_i64i64i64i64u32i64i64i64bbi64u32i64i64i64i64i64 (by show 17 ≤ 17; decide) rfl ?_
     refine zE ?_
     refine TX.held (fun w1 hw => hw.pick [1, 3] (by decide) rfl) ?_
     refine TH.done (by kernel_rfl) ?_
     exact TX.joined (⟨((g17, n0), tq), by dsimp only; omega, by dsimp only; omega⟩) (⟨rfl, rfl, rfl, rfl, rfl, rfl, rfl, rfl, rfl, rfl, rfl, rfl, trivial⟩) (fun w1 hw => hw)
    refine TL.pnew rfl rfl rfl (exec_alloc (cs := [.int .i64 0, .int .i64 0, .int .i64 0, .int .i64 0, .int .u32 0, .int .i64 0, .int .i64 0, .int .i64 0, .bool false, .bool false, .int .i64 0, .int .u32 0, .int .i64 0, .int .i64 0, .int .i64 0, .int .i64 0, .int .i64 0]) rfl arpzv65 rfl) (fun g17 => ?_)
    refine zE ?_
    refine TX.held (fun w1 hw => hw.pick [1, 3] (by decide) rfl) ?_
    refine TH.only' 20 rfl (by kernel_rfl) rfl ?_
    refine TL.pcallCod (k := 5) (α := {q9 : Nat // q9 ≤ 65535 ∧ (1 ≤ (((p71.l.length + 1 : Nat) : Int) : Int) → (q9 : Int) < ((p71.l.length + 1 : Nat) : Int))}) (fun q9 => .int .i64 ((q9.1 : Nat) : Int)) (fun q9 => []) rfl rfl rfl rfl rfl Tryz.func21 (by decide) rfl rfl (fun w1 hw hC1 => next_cod cb w1 ((p71.l.length + 1 : Nat) : Int) hC1) ?_
    rintro ⟨tq, htq1, htq2⟩
    dsimp only [List.cons_append, List.nil_append]
    refine zE ?_
    refine TX.he (fun w1 hw => hw.pick [1, 3] (by decide) rfl) fun hS => ?_
    refine TH.t 21 rfl (gD ((1 + tq : Nat) : Int)) hS ?_
    refine TH.t 22 rfl (gives_build (v := .agg #[.int .i64 x61.v, .int .i64 0, .int .i64 ((n0 : Nat) : Int), .int .i64 ((at0 + (1 + dq) : Nat) : Int), .int .u32 x61.dst, .int .i64 x61.proto, .int .i64 ((f : Nat) : Int), .int .i64 ((1 + tq : Nat) : Int), .bool false, .bool false, .int .i64 0, .int .u32 0, .int .i64 0, .int .i64 0, .int .i64 0, .int .i64 0, .int .i64 0]) rfl rfl (fun w => drebld47_74773 _ _ _ _ _ _ _ _ w)) hS ?_
    refine TH.only' 24 rfl (by kernel_rfl) rfl ?_
    refine TL.pstore (k := 0) (vs := [.int .i64 x61.v, .int .i64 0, .int .i64 ((n0 : Nat) : Int), .int .i64 ((at0 + (1 + dq) : Nat) : Int), .int .u32 x61.dst, .int .i64 x61.proto, .int .i64 ((f : Nat) : Int), .int .i64 ((1 + tq : Nat) : Int), .bool false, .bool false, .int .i64 0, .int .u32 0, .int .i64 0, .int .i64 0, .int .i64 0, .int .i64 0, .int .i64 0]) rfl rfl rfl rfl rfl rfl rfl prssz65 arpone_i64i64i64i64u32i64i64i64bbi64u32i64i64i64i64i64 (by show 17 ≤ 17; decide) rfl ?_
    refine zE ?_
    refine TX.held (fun w1 hw => hw.pick [1, 3] (by decide) rfl) ?_
    refine TH.done (by kernel_rfl) ?_
    exact TX.joined (⟨((g17, n0), tq), by dsimp only; omega, by dsimp only; omega⟩) (⟨rfl, rfl, rfl, rfl, rfl, rfl, rfl, rfl, rfl, rfl, rfl, rfl, trivial⟩) (fun w1 hw => hw)
   refine TC.cut [(0, .pointer (some ⟨cb, 0, none⟩)), (2, .bool stb), (7, .slice (some ⟨g_An, 0, none⟩) ns.length cn), (8, .slice Ar out.length cr), (9, .int .i64 ((at0 + (1 + dq) : Nat) : Int)), (10, .int .i64 ((idn : Nat) : Int)), (11, .pointer (some ⟨g11, 0, none⟩)), (12, .int .i64 ((k : Nat) : Int)), (13, .int .i64 ((ix : Nat) : Int)), (59, .slice (some ⟨g_An, 0, none⟩) ns.length cn), (60, .int .i64 ((ix : Nat) : Int)), (61, .pointer (some ⟨g_An, 0 + ix * 5, none⟩)), (62, .agg (x61.cells).toArray), (14, .pointer (some ⟨g14, 0, none⟩)), (63, .pointer (some ⟨cb, 0, none⟩)), (64, .pointer (some ⟨g14, 3, none⟩)), (65, .slice x61.ps.A x61.ps.l.length x61.ps.c), (66, .int .i64 (x61.ps.l.length : Nat)), (67, .int .i64 ((f : Nat) : Int)), (15, .int .i64 ((f : Nat) : Int)), (68, .pointer (some ⟨g14, 3, none⟩)), (69, .slice x61.ps.A x61.ps.l.length x61.ps.c), (70, .int .i64 ((f : Nat) : Int)), (71, .pointer (some ⟨gx71, 0 + f * 1, none⟩)), (72, .slice p71.A p71.l.length p71.c), (16, .slice p71.A p71.l.length p71.c), (73, .int .i64 ((at0 : Nat) : Int)), (74, .pointer (some ⟨cb, 0, none⟩)), (75, .int .i64 ((dq : Nat) : Int)), (76, .int .i64 ((1 + dq : Nat) : Int)), (77, .int .i64 ((at0 + (1 + dq) : Nat) : Int))] (Pm ⟨w, cb⟩ ([.blk g14 92 x61.cells, .row (.slice Ar out.length cr) 65 17 out.length (flat Rs.cells out), .blk g11 95 [.int .i64 ((n0 : Nat) : Int), .int .i64 ((n1 : Nat) : Int), .int .i64 0, .int .i64 0, .int .i64 0, .int .i64 0, .int .i64 0, .int .i64 0, .int .i64 0, .int .i64 0, .int .i64 0, .int .i64 0, .int .i64 0, .int .i64 0, .int .i64 0, .int .i64 0], .row (.slice (some ⟨g_An, 0, none⟩) ns.length cn) 92 5 ns.length (flat Nt.cells ns2), .abs cb (fun w => Cod w cb)] ++ (netsP P2 ++ oths cb w))) ⟨rfl, rfl, rfl, rfl, rfl, rfl, rfl, rfl, rfl, rfl, rfl, rfl, rfl, rfl, rfl, rfl, rfl, rfl, rfl, rfl, rfl, rfl, rfl, rfl, rfl, rfl, rfl, rfl, rfl, rfl, rfl, trivial⟩ (fun w1 hw => hw) ?_
   refine TC.held (ls := #[Ff,Ff,Ff,Ff,Ff,Ff,Ff,Ff,Ff,Ff,Ff,Ff,Ff,Ff,Ff,Ff,Ff,Ff,Ff,Ff,Ff,Ff,Ff,Ff,Ff]) (Pm ⟨w, cb⟩ [.blk g14 92 x61.cells, .blk g11 95 [.int .i64 ((n0 : Nat) : Int), .int .i64 ((n1 : Nat) : Int), .int .i64 0, .int .i64 0, .int .i64 0, .int .i64 0, .int .i64 0, .int .i64 0, .int .i64 0, .int .i64 0, .int .i64 0, .int .i64 0, .int .i64 0, .int .i64 0, .int .i64 0, .int .i64 0]]) (by kernel_rfl) rfl rfl (fun w hw => hw.drawn _) ?_
   refine TH.tk 0 rfl rfl rfl (gF dntfld119_0) (fun w1 hw => hw.pick [0, 2] (by decide) rfl) ?_
   refine TH.tk 1 rfl rfl rfl (gF pcmfld32_0) (fun w1 hw => hw.pick [0, 2] (by decide) rfl) ?_
   refine TH.tk 2 rfl rfl rfl (gL 0 pcmag3) (fun w1 hw => hw.pick [0, 2] (by decide) rfl) ?_
   refine TH.tk 3 rfl rfl rfl (gF dntfld119_0) (fun w1 hw => hw.pick [0, 2] (by decide) rfl) ?_
   refine TH.tk 4 rfl rfl rfl (gF pcmfld32_0) (fun w1 hw => hw.pick [0, 2] (by decide) rfl) ?_
   refine TH.tk 5 rfl rfl rfl (show Gives _ _ _ _ _ (Value.int .i64 1) from by rw [show (Value.int .i64 1) = .int .i64 x61.v by rw [hv1]]; exact pm_load (k := 0) (i := 0) rfl rfl pcmag3 rfl rfl) (fun w1 hw => hw.pick [0, 2] (by decide) rfl) ?_
   refine TH.tk 6 rfl rfl rfl (gives_at (v := .pointer (some ⟨g11, 1, none⟩)) rfl rfl rfl (fun w => at_arr Tryz.underlying95 pcmsz3 g11 0 _ 1 (by decide) w)) (fun w1 hw => hw.pick [0, 2] (by decide) rfl) ?_
   refine TH.tk 7 rfl rfl rfl (gL 1 pcmag3) (fun w1 hw => hw.pick [0, 2] (by decide) rfl) ?_
   refine TH.tk 8 rfl rfl rfl (gives_move rfl rfl) (fun w1 hw => hw.pick [0, 2] (by decide) rfl) ?_
   refine TH.tk 9 rfl rfl rfl (gF dntfld119_0) (fun w1 hw => hw.pick [0, 2] (by decide) rfl) ?_
   refine TH.tk 10 rfl rfl rfl (gF pcmfld32_1) (fun w1 hw => hw.pick [0, 2] (by decide) rfl) ?_
   refine TH.tk 11 rfl rfl rfl (gL 0 pcmag30) (fun w1 hw => hw.pick [0, 2] (by decide) rfl) ?_
   refine TH.tk 12 rfl rfl rfl (gF dntfld119_0) (fun w1 hw => hw.pick [0, 2] (by decide) rfl) ?_
   refine TH.tk 13 rfl rfl rfl (gF pcmfld32_2) (fun w1 hw => hw.pick [0, 2] (by decide) rfl) ?_
   refine TH.tk 14 rfl rfl rfl (gL 0 pcmag3) (fun w1 hw => hw.pick [0, 2] (by decide) rfl) ?_
   refine TH.tk 15 rfl rfl rfl (gives_move rfl rfl) (fun w1 hw => hw.pick [0, 2] (by decide) rfl) ?_
   refine TH.tk 16 rfl rfl rfl (gives_move rfl rfl) (fun w1 hw => hw.pick [0, 2] (by decide) rfl) ?_
   refine TH.tk 17 rfl rfl rfl (gives_move rfl rfl) (fun w1 hw => hw.pick [0, 2] (by decide) rfl) ?_
   refine TH.tk 18 rfl rfl rfl (gN Tryz.underlying96) (fun w1 hw => hw.pick [0, 2] (by decide) rfl) ?_
   refine TH.tk 19 rfl rfl rfl (gD ((p71.l.length + 1 : Nat) : Int)) (fun w1 hw => hw.pick [0, 2] (by decide) rfl) ?_
   refine TH.two' (listed1 := #[Tt,Tt,Tt,Tt,Tt,Tt,Tt,Tt,Tt,Tt,Tt,Tt,Tt,Tt,Tt,Tt,Tt,Tt,Tt,Tt,Tt,Ff,Ff,Ff,Ff]) (listed2 := #[Tt,Tt,Tt,Tt,Tt,Tt,Tt,Tt,Tt,Tt,Tt,Tt,Tt,Tt,Tt,Tt,Tt,Tt,Tt,Tt,Ff,Ff,Ff,Tt,Ff]) 20 23 rfl rfl (by kernel_rfl) rfl rfl ?_ ?_
   ·refine TL.pcallCod (k := 4) (α := {q9 : Nat // q9 ≤ 65535 ∧ (1 ≤ (((p71.l.length + 1 : Nat) : Int) : Int) → (q9 : Int) < ((p71.l.length + 1 : Nat) : Int))}) (fun q9 => .int .i64 ((q9.1 : Nat) : Int)) (fun q9 => []) rfl rfl rfl rfl rfl Tryz.func21 (by decide) rfl rfl (fun w1 hw hC1 => next_cod cb w1 ((p71.l.length + 1 : Nat) : Int) hC1) ?_
    rintro ⟨tq, htq1, htq2⟩
    dsimp only [List.cons_append, List.nil_append]
    refine zE ?_
    refine TX.he (fun w1 hw => hw.pick [0, 2] (by decide) rfl) fun hS => ?_
    refine TH.t 21 rfl (gD ((1 + tq : Nat) : Int)) hS ?_
    refine TH.t 22 rfl (gives_build (v := .agg #[.int .i64 x61.v, .int .i64 0, .int .i64 ((n1 : Nat) : Int), .int .i64 ((at0 + (1 + dq) : Nat) : Int), .int .u32 x61.dst, .int .i64 x61.proto, .int .i64 ((f : Nat) : Int), .int .i64 ((1 + tq : Nat) : Int), .bool false, .bool false, .int .i64 0, .int .u32 0, .int .i64 0, .int .i64 0, .int .i64 0, .int .i64 0, .int .i64 0]) rfl rfl (fun w => drebld47_74773 _ _ _ _ _ _ _ _ w)) hS ?_
    refine TH.only' 23 rfl (by kernel_rfl) rfl ?_
    refine TL.pnew rfl rfl rfl (exec_alloc (cs := [.int .i64 0, .int .i64 0, .int .i64 0, .int .i64 0, .int .u32 0, .int .i64 0, .int .i64 0, .int .i64 0, .bool false, .bool false, .int .i64 0, .int .u32 0, .int .i64 0, .int .i64 0, .int .i64 0, .int .i64 0, .int .i64 0]) rfl arpzv65 rfl) (fun g17 => ?_)
    refine zE ?_
    refine TX.held (fun w1 hw => hw.pick [1, 3] (by decide) rfl) ?_
    refine TH.only' 24 rfl (by kernel_rfl) rfl ?_
    refine TL.pstore (k := 0) (vs := [.int .i64 x61.v, .int .i64 0, .int .i64 ((n1 : Nat) : Int), .int .i64 ((at0 + (1 + dq) : Nat) : Int), .int .u32 x61.dst, .int .i64 x61.proto, .int .i64 ((f : Nat) : Int), .int .i64 ((1 + tq : Nat) : Int), .bool false, .bool false, .int .i64 0, .int .u32 0, .int .i64 0, .int .i64 0, .int .i64 0, .int .i64 0, .int .i64 0]) rfl rfl rfl rfl rfl rfl rfl prssz65 arpone_i64i64i64i64u32i64i64i64bbi64u32i64i64i64i64i64 (by show 17 ≤ 17; decide) rfl ?_
    refine zE ?_
    refine TX.held (fun w1 hw => hw.pick [1, 3] (by decide) rfl) ?_
    refine TH.done (by kernel_rfl) ?_
    exact TX.joined (⟨((g17, n1), tq), by dsimp only; omega, by dsimp only; omega⟩) (⟨rfl, rfl, rfl, rfl, rfl, rfl, rfl, rfl, rfl, rfl, rfl, rfl, trivial⟩) (fun w1 hw => hw)
   refine TL.pnew rfl rfl rfl (exec_alloc (cs := [.int .i64 0, .int .i64 0, .int .i64 0, .int .i64 0, .int .u32 0, .int .i64 0, .int .i64 0, .int .i64 0, .bool false, .bool false, .int .i64 0, .int .u32 0, .int .i64 0, .int .i64 0, .int .i64 0, .int .i64 0, .int .i64 0]) rfl arpzv65 rfl) (fun g17 => ?_)
   refine zE ?_
   refine TX.held (fun w1 hw => hw.pick [1, 3] (by decide) rfl) ?_
   refine TH.only' 20 rfl (by kernel_rfl) rfl ?_
   refine TL.pcallCod (k := 5) (α := {q9 : Nat // q9 ≤ 65535 ∧ (1 ≤ (((p71.l.length + 1 : Nat) : Int) : Int) → (q9 : Int) < ((p71.l.length + 1 : Nat) : Int))}) (fun q9 => .int .i64 ((q9.1 : Nat) : Int)) (fun q9 => []) rfl rfl rfl rfl rfl Tryz.func21 (by decide) rfl rfl (fun w1 hw hC1 => next_cod cb w1 ((p71.l.length + 1 : Nat) : Int) hC1) ?_
   rintro ⟨tq, htq1, htq2⟩
   dsimp only [List.cons_append, List.nil_append]
   refine zE ?_
   refine TX.he (fun w1 hw => hw.pick [1, 3] (by decide) rfl) fun hS => ?_
   refine TH.t 21 rfl (gD ((1 + tq : Nat) : Int)) hS ?_
   refine TH.t 22 rfl (gives_build (v := .agg #[.int .i64 x61.v, .int .i64 0, .int .i64 ((n1 : Nat) : Int), .int .i64 ((at0 + (1 + dq) : Nat) : Int), .int .u32 x61.dst, .int .i64 x61.proto, .int .i64 ((f : Nat) : Int), .int .i64 ((1 + tq : Nat) : Int), .bool false, .bool false, .int .i64 0, .int .u32 0, .int .i64 0, .int .i64 0, .int .i64 0, .int .i64 0, .int .i64 0]) rfl rfl (fun w => drebld47_74773 _ _ _ _ _ _ _ _ w)) hS ?_
   refine TH.only' 24 rfl (by kernel_rfl) rfl ?_
   refine TL.pstore (k := 0) (vs := [.int .i64 x61.v, .int .i64 0, .int .i64 ((n1 : Nat) : Int), .int .i64 ((at0 + (1 + dq) : Nat) : Int), .int .u32 x61.dst, .int .i64 x61.proto, .int .i64 ((f : Nat) : Int), .int .i64 ((1 + tq : Nat) : Int), .bool false, .bool false, .int .i64 0, .int .u32 0, .int .i64 0, .int .i64 0, .int .i64 0, .int .i64 0, .int .i64 0]) rfl rfl rfl rfl rfl rfl rfl prssz65 arpone_i64i64i64i64u32i64i64i64bbi64u32i64i64i64i64i64 (by show 17 ≤ 17; decide) rfl ?_
   refine zE ?_
   refine TX.held (fun w1 hw => hw.pick [1, 3] (by decide) rfl) ?_
   refine TH.done (by kernel_rfl) ?_
   exact TX.joined (⟨((g17, n1), tq), by dsimp only; omega, by dsimp only; omega⟩) (⟨rfl, rfl, rfl, rfl, rfl, rfl, rfl, rfl, rfl, rfl, rfl, rfl, trivial⟩) (fun w1 hw => hw)
  rintro ⟨⟨⟨gR, num⟩, tq⟩, hnum, htq⟩
  dsimp only at hnum htq ⊢
  refine TC.join (α := {y : Nat × Nat // (x61.v = 0 ∧ y.1 = n0 + 1 ∧ y.2 = n1) ∨ (x61.v = 1 ∧ y.1 = n0 ∧ y.2 = n1 + 1)}) (fun y => [(0, .pointer (some ⟨cb, 0, none⟩)), (2, .bool stb), (7, .slice (some ⟨g_An, 0, none⟩) ns.length cn), (8, .slice Ar out.length cr), (9, .int .i64 ((at0 + (1 + dq) : Nat) : Int)), (10, .int .i64 ((idn : Nat) : Int)), (11, .pointer (some ⟨g11, 0, none⟩)), (12, .int .i64 ((k : Nat) : Int)), (14, .pointer (some ⟨g14, 0, none⟩)), (15, .int .i64 ((f : Nat) : Int)), (16, .slice p71.A p71.l.length p71.c), (17, .pointer (some ⟨gR, 0, none⟩))]) (fun y => Pm ⟨w, cb⟩ ([.blk gR 65 [.int .i64 x61.v, .int .i64 0, .int .i64 ((num : Nat) : Int), .int .i64 ((at0 + (1 + dq) : Nat) : Int), .int .u32 x61.dst, .int .i64 x61.proto, .int .i64 ((f : Nat) : Int), .int .i64 ((1 + tq : Nat) : Int), .bool false, .bool false, .int .i64 0, .int .u32 0, .int .i64 0, .int .i64 0, .int .i64 0, .int .i64 0, .int .i64 0], .blk g14 92 x61.cells, .row (.slice Ar out.length cr) 65 17 out.length (flat Rs.cells out), .blk g11 95 [.int .i64 ((y.1.1 : Nat) : Int), .int .i64 ((y.1.2 : Nat) : Int), .int .i64 0, .int .i64 0, .int .i64 0, .int .i64 0, .int .i64 0, .int .i64 0, .int .i64 0, .int .i64 0, .int .i64 0, .int .i64 0, .int .i64 0, .int .i64 0, .int .i64 0, .int .i64 0], .row (.slice (some ⟨g_An, 0, none⟩) ns.length cn) 92 5 ns.length (flat Nt.cells ns2), .abs cb (fun w => Cod w cb)] ++ (netsP P2 ++ oths cb w))) ?_ ?_
  ·rcases hv61 with hv0 | hv1
   ·refine zG (TL.v (gF dntfld119_0) ?_)
    refine TL.v (gF pcmfld32_0) ?_
    refine TL.val rfl rfl rfl (show Gives _ _ _ _ _ (Value.int .i64 0) from by rw [show (Value.int .i64 0) = .int .i64 x61.v by rw [hv0]]; exact pm_load (k := 1) (i := 0) rfl rfl pcmag3 rfl rfl) ?_
    refine TL.val rfl rfl rfl (gives_at (v := .pointer (some ⟨g11, 0, none⟩)) rfl rfl rfl (fun w => at_arr Tryz.underlying95 pcmsz3 g11 0 _ 0 (by decide) w)) ?_
    refine TL.v (gL 3 pcmag3) ?_
    refine TL.v (gD ((n0 + 1 : Nat) : Int)) ?_
    refine TL.val rfl rfl rfl (gives_at (v := .pointer (some ⟨g11, 0, none⟩)) rfl rfl rfl (fun w => at_arr Tryz.underlying95 pcmsz3 g11 0 _ 0 (by decide) w)) ?_
    refine TL.pstore (k := 3) (vs := [.int .i64 ((n0 + 1 : Nat) : Int)]) rfl rfl rfl rfl rfl rfl rfl pcmsz3 aeaone_i64 (by show 1 ≤ 16; decide) rfl ?_
    refine zE ?_
    exact TX.joined (⟨(n0 + 1, n1), by dsimp only; omega⟩) (⟨rfl, rfl, rfl, rfl, rfl, rfl, rfl, rfl, rfl, rfl, rfl, rfl, trivial⟩) (fun w1 hw => hw)
   refine zG (TL.v (gF dntfld119_0) ?_)
   refine TL.v (gF pcmfld32_0) ?_
   refine TL.val rfl rfl rfl (show Gives _ _ _ _ _ (Value.int .i64 1) from by rw [show (Value.int .i64 1) = .int .i64 x61.v by rw [hv1]]; exact pm_load (k := 1) (i := 0) rfl rfl pcmag3 rfl rfl) ?_
   refine TL.val rfl rfl rfl (gives_at (v := .pointer (some ⟨g11, 1, none⟩)) rfl rfl rfl (fun w => at_arr Tryz.underlying95 pcmsz3 g11 0 _ 1 (by decide) w)) ?_
   refine TL.v (gL 3 pcmag3) ?_
   refine TL.v (gD ((n1 + 1 : Nat) : Int)) ?_
   refine TL.val rfl rfl rfl (gives_at (v := .pointer (some ⟨g11, 1, none⟩)) rfl rfl rfl (fun w => at_arr Tryz.underlying95 pcmsz3 g11 0 _ 1 (by decide) w)) ?_
   refine TL.pstore (k := 3) (vs := [.int .i64 ((n1 + 1 : Nat) : Int)]) rfl rfl rfl rfl rfl rfl rfl pcmsz3 aeaone_i64 (by show 2 ≤ 16; decide) rfl ?_
   refine zE ?_
   exact TX.joined (⟨(n0, n1 + 1), by dsimp only; omega⟩) (⟨rfl, rfl, rfl, rfl, rfl, rfl, rfl, rfl, rfl, rfl, rfl, rfl, trivial⟩) (fun w1 hw => hw)
  rintro ⟨⟨n2, n3⟩, hn23⟩
  dsimp only at hn23 ⊢
  refine zS (TC.held (ls := #[Ff,Ff,Ff,Ff,Ff,Ff,Ff,Ff,Ff,Ff,Ff]) (fun w1 => ∃ b : Int, Pm ⟨w, cb⟩ [.blk gR 65 [.int .i64 x61.v, .int .i64 0, .int .i64 ((num : Nat) : Int), .int .i64 ((at0 + (1 + dq) : Nat) : Int), .int .u32 x61.dst, .int .i64 x61.proto, .int .i64 ((f : Nat) : Int), .int .i64 ((1 + tq : Nat) : Int), .bool false, .bool false, .int .i64 b, .int .u32 0, .int .i64 0, .int .i64 0, .int .i64 0, .int .i64 0, .int .i64 0]] w1) (by kernel_rfl) rfl rfl (fun w hw => hw.drawn _) ?_)
  refine TH.tk 0 rfl rfl rfl (gF prsfld65_3) (fun w1 hw => ⟨_, hw.pick [0] (by decide) rfl⟩) ?_
  refine TH.tk 1 rfl rfl rfl (gives_load (v := .int .i64 ((at0 + (1 + dq) : Nat) : Int)) rfl rfl pcmag3 (fun w1 hw => by obtain ⟨b, hw⟩ := hw; exact (hw.cell (k := 0) rfl 3).trans rfl)) (fun w1 hw => ⟨_, hw.pick [0] (by decide) rfl⟩) ?_
  refine TH.tk 2 rfl rfl rfl (gF prsfld65_7) (fun w1 hw => ⟨_, hw.pick [0] (by decide) rfl⟩) ?_
  refine TH.tk 3 rfl rfl rfl (gives_load (v := .int .i64 ((1 + tq : Nat) : Int)) rfl rfl pcmag3 (fun w1 hw => by obtain ⟨b, hw⟩ := hw; exact (hw.cell (k := 0) rfl 7).trans rfl)) (fun w1 hw => ⟨_, hw.pick [0] (by decide) rfl⟩) ?_
  refine TH.tk 4 rfl rfl rfl (gives_bin rfl rfl rfl (fun w => bin_mul_ (r := ((5 * (1 + tq) : Nat) : Int)) (by simp only [IntKind.wrap_i64]; omega) w)) (fun w1 hw => ⟨_, hw.pick [0] (by decide) rfl⟩) ?_
  refine TH.tk 5 rfl rfl rfl (gD ((at0 + (1 + dq) + 5 * (1 + tq) : Nat) : Int)) (fun w1 hw => ⟨_, hw.pick [0] (by decide) rfl⟩) ?_
  refine TH.tk 6 rfl rfl rfl (gives_move rfl rfl) (fun w1 hw => ⟨_, hw.pick [0] (by decide) rfl⟩) ?_
  refine TH.only' 7 rfl (by kernel_rfl) rfl ?_
  refine TL.pcallCod (k := 5) (α := {q9 : Nat // q9 ≤ 65535 ∧ (1 ≤ (4 : Int) → (q9 : Int) < 4)}) (fun q9 => .int .i64 ((q9.1 : Nat) : Int)) (fun q9 => []) rfl rfl rfl rfl rfl Tryz.func21 (by decide) rfl rfl (fun w1 hw hC1 => next_cod cb w1 4 hC1) ?_
  rintro ⟨bq, hbq1, hbq2⟩
  dsimp only [List.cons_append, List.nil_append]
  refine zE ?_
  refine TX.he (fun w1 hw => ⟨_, hw.pick [0] (by decide) rfl⟩) fun hS => ?_
  refine TH.t 8 rfl (gD ((at0 + (1 + dq) + 5 * (1 + tq) + bq : Nat) : Int)) hS ?_
  refine TH.t 9 rfl (gF prsfld65_10) hS ?_
  refine TH.only' 10 rfl (by kernel_rfl) rfl ?_
  refine TL.pstore (k := 0) (vs := [.int .i64 ((at0 + (1 + dq) + 5 * (1 + tq) + bq : Nat) : Int)]) rfl rfl rfl rfl rfl rfl rfl pcmsz3 aeaone_i64 (by show 11 ≤ 17; decide) rfl ?_
  refine zE ?_
  refine TX.held (fun w1 hw => ⟨_, hw.pick [0] (by decide) rfl⟩) ?_
  refine TH.done (by kernel_rfl) ?_
  refine zT (zSG (TL.rn 2 rfl ?_))
  refine TL.pcallCod (k := 5) (α := {q9 : Nat // q9 ≤ 65535 ∧ (1 ≤ (5 : Int) → (q9 : Int) < 5)}) (fun q9 => .int .i64 ((q9.1 : Nat) : Int)) (fun q9 => []) rfl rfl rfl rfl rfl Tryz.func21 (by decide) rfl rfl (fun w1 hw hC1 => next_cod cb w1 5 hC1) ?_
  rintro ⟨ec, hec1, hec2⟩
  dsimp only [List.cons_append, List.nil_append]
  refine TL.v (gD ((1 + ec : Nat) : Int)) ?_
  refine TL.v (gD ((idn + (1 + ec) : Nat) : Int)) ?_
  refine TL.as_ ?_
  refine zET (zSG (TL.v (gF dntfld119_2) ?_))
  refine TL.v (gL 1 pcmag30) ?_
  refine TL.as_ ?_
  refine zET ?_
  refine TC.join (α := {a : Int // 0 ≤ a ∧ a ≤ 167774466}) (fun y => [(0, .pointer (some ⟨cb, 0, none⟩)), (2, .bool stb), (7, .slice (some ⟨g_An, 0, none⟩) ns.length cn), (8, .slice Ar out.length cr), (9, .int .i64 ((at0 + (1 + dq) : Nat) : Int)), (10, .int .i64 ((idn + (1 + ec) : Nat) : Int)), (11, .pointer (some ⟨g11, 0, none⟩)), (12, .int .i64 ((k : Nat) : Int)), (16, .slice p71.A p71.l.length p71.c), (17, .pointer (some ⟨gR, 0, none⟩)), (18, .int .u32 y.1)]) (fun y => Pm ⟨w, cb⟩ ([.blk gR 65 [.int .i64 x61.v, .int .i64 0, .int .i64 ((num : Nat) : Int), .int .i64 ((at0 + (1 + dq) : Nat) : Int), .int .u32 x61.dst, .int .i64 x61.proto, .int .i64 ((f : Nat) : Int), .int .i64 ((1 + tq : Nat) : Int), .bool false, .bool false, .int .i64 ((at0 + (1 + dq) + 5 * (1 + tq) + bq : Nat) : Int), .int .u32 0, .int .i64 0, .int .i64 0, .int .i64 0, .int .i64 0, .int .i64 0], .blk g14 92 x61.cells, .row (.slice Ar out.length cr) 65 17 out.length (flat Rs.cells out), .blk g11 95 [.int .i64 ((n2 : Nat) : Int), .int .i64 ((n3 : Nat) : Int), .int .i64 0, .int .i64 0, .int .i64 0, .int .i64 0, .int .i64 0, .int .i64 0, .int .i64 0, .int .i64 0, .int .i64 0, .int .i64 0, .int .i64 0, .int .i64 0, .int .i64 0, .int .i64 0], .row (.slice (some ⟨g_An, 0, none⟩) ns.length cn) 92 5 ns.length (flat Nt.cells ns2), .abs cb (fun w => Cod w cb)] ++ (netsP P2 ++ oths cb w))) ?_ ?_
  ·refine zSG (TL.v (gF prsfld65_7) ?_)
   refine TL.v (gL 0 pcmag3) ?_
   refine TL.mv ?_
   refine TL.v (gN Tryz.underlying96) ?_
   refine TL.sp bin_leq (fun q129 => ?_) (fun q129 => ?_)
   ·refine zET (zc (zG (TL.mv ?_)))
    refine TL.v (gF prsfld65_7) ?_
    refine TL.v (gL 0 pcmag3) ?_
    refine TL.val rfl rfl rfl (gives_bin rfl rfl rfl (fun w => bin_sub_ (r := ((tq : Nat) : Int)) (by simp only [IntKind.wrap_i64]; omega) w)) ?_
    have hmm134 := nets_mem2 (T := oths cb w) hx61p (List.mem_of_getElem? hp71)
    refine TL.fact (p := ∃ g, p71.A = some ⟨g, 0, none⟩) (fun w1 hw => segA hw (List.mem_of_mem_drop (i := 6) (by exact hmm134)) (by omega)) ?_
    rintro ⟨gx134, hgx134⟩
    obtain ⟨z134, hz134⟩ : ∃ z, p71.l[tq]? = some z := ⟨_, List.getElem?_eq_getElem (by omega)⟩
    refine TL.val rfl rfl rfl (gA (i := tq) Tryz.underlying96 dntsz30 rfl rfl rfl rfl hgx134 (by omega)) ?_
    refine TL.val rfl rfl rfl (gives_load (v := .int .u32 z134) rfl rfl pcmag30 (fun w1 hw => seg_cell (ic_cel .u32) hw (List.mem_of_mem_drop (i := 6) (by exact hmm134)) hgx134 hz134 0 _ rfl)) ?_
    have hz134r := hpw71.2 z134 (List.mem_of_getElem? hz134)
    refine TL.as_ ?_
    refine zE ?_
    exact TX.joined (⟨z134, by omega⟩) (⟨rfl, rfl, rfl, rfl, rfl, rfl, rfl, rfl, rfl, rfl, rfl, trivial⟩) (fun w1 hw => hw)
   refine zET (zd (zk ?_))
   exact TX.joined (⟨x61.last, by omega⟩) (⟨rfl, rfl, rfl, rfl, rfl, rfl, rfl, rfl, rfl, rfl, rfl, trivial⟩) (fun w1 hw => hw)
  rintro ⟨fa, hfa⟩
  dsimp only at hfa ⊢
  refine TC.join (α := {y : (Bool × Bool) × (Int × Int) × (Int × Int × Int) // AnsP y.1.1 y.1.2 y.2.1.1 y.2.1.2 y.2.2.1 y.2.2.2.1 y.2.2.2.2}) (fun y => [(0, .pointer (some ⟨cb, 0, none⟩)), (2, .bool stb), (7, .slice (some ⟨g_An, 0, none⟩) ns.length cn), (8, .slice Ar out.length cr), (9, .int .i64 ((at0 + (1 + dq) : Nat) : Int)), (10, .int .i64 ((idn + (1 + ec) : Nat) : Int)), (11, .pointer (some ⟨g11, 0, none⟩)), (12, .int .i64 ((k : Nat) : Int)), (16, .slice p71.A p71.l.length p71.c), (17, .pointer (some ⟨gR, 0, none⟩))]) (fun y => Pm ⟨w, cb⟩ ([.blk gR 65 [.int .i64 x61.v, .int .i64 0, .int .i64 ((num : Nat) : Int), .int .i64 ((at0 + (1 + dq) : Nat) : Int), .int .u32 x61.dst, .int .i64 x61.proto, .int .i64 ((f : Nat) : Int), .int .i64 ((1 + tq : Nat) : Int), .bool y.1.1.1, .bool y.1.1.2, .int .i64 ((at0 + (1 + dq) + 5 * (1 + tq) + bq : Nat) : Int), .int .u32 y.1.2.1.1, .int .i64 y.1.2.1.2, .int .i64 0, .int .i64 y.1.2.2.1, .int .i64 y.1.2.2.2.1, .int .i64 y.1.2.2.2.2], .blk g14 92 x61.cells, .row (.slice Ar out.length cr) 65 17 out.length (flat Rs.cells out), .blk g11 95 [.int .i64 ((n2 : Nat) : Int), .int .i64 ((n3 : Nat) : Int), .int .i64 0, .int .i64 0, .int .i64 0, .int .i64 0, .int .i64 0, .int .i64 0, .int .i64 0, .int .i64 0, .int .i64 0, .int .i64 0, .int .i64 0, .int .i64 0, .int .i64 0, .int .i64 0], .row (.slice (some ⟨g_An, 0, none⟩) ns.length cn) 92 5 ns.length (flat Nt.cells ns2), .abs cb (fun w => Cod w cb)] ++ (netsP P2 ++ oths cb w))) ?_ ?_
  ·refine zSG (TL.mv ?_)
   refine TL.sp bin_neq (fun q137 => ?_) (fun q137 => ?_)
   ·refine TL.rn 2 rfl (TL.gu ?_)
    refine TL.pcallCod (k := 5) (α := Bool) (fun x => .bool x) (fun x => []) rfl rfl rfl rfl rfl Tryz.func18 (by decide) rfl rfl (fun w1 hw hC1 => dbool_cod cb w1 hC1 5 (by decide)) ?_
    rintro b2
    dsimp only [List.cons_append, List.nil_append]
    cases b2 with
    | true =>
     refine TL.rn 2 rfl (zET (zd (zk ?_)))
     exact TX.joined (⟨((false, false), (0, 0), (0, 0, 0)), .inl ⟨rfl, rfl, rfl, rfl, rfl, rfl, rfl⟩⟩) (⟨rfl, rfl, rfl, rfl, rfl, rfl, rfl, rfl, rfl, rfl, trivial⟩) (fun w1 hw => hw)
    | false =>
     refine TL.rn 2 rfl (zET (zc (zSG (TL.mv ?_))))
     refine TL.pcallCod (k := 5) (α := Bool) (fun x => .bool x) (fun x => []) rfl rfl rfl rfl rfl Tryz.func18 (by decide) rfl rfl (fun w1 hw hC1 => dbool_cod cb w1 hC1 30 (by decide)) ?_
     rintro b3
     dsimp only [List.cons_append, List.nil_append]
     refine TL.v (gF prsfld65_8) ?_
     refine TL.pstore (k := 0) (vs := [.bool true]) rfl rfl rfl rfl rfl rfl rfl dresz4 dreone_b (by show 9 ≤ 17; decide) rfl ?_
     refine TL.v (gF prsfld65_9) ?_
     refine TL.pstore (k := 0) (vs := [.bool b3]) rfl rfl rfl rfl rfl rfl rfl dresz4 dreone_b (by show 10 ≤ 17; decide) rfl ?_
     refine zET (zSG (TL.rn 2 rfl ?_))
     refine TL.val rfl rfl rfl (gives_bin (v := .int .i64 ((((idn + (1 + ec)) % 65536 : Nat) : Nat) : Int)) rfl rfl rfl (fun w => by rw [bin_remk (by omega) (by decide) w]; rfl)) ?_
     refine TL.val rfl rfl rfl (gives_build (v := .agg #[.int .u32 fa, .int .i64 1, .int .i64 0, .int .i64 60, .int .i64 (((idn + (1 + ec)) % 65536 : Nat) : Int), .int .i64 1]) rfl rfl (fun w => drebld45_50928 _ _ _ _ _ w)) ?_
     refine TL.v (gF prsfld65_11) ?_
     refine TL.pstore (k := 0) (vs := [.int .u32 fa, .int .i64 1, .int .i64 0, .int .i64 60, .int .i64 (((idn + (1 + ec)) % 65536 : Nat) : Int), .int .i64 1]) rfl rfl rfl rfl rfl rfl rfl dresz45 dreone_u32i64i64i64i64i64 (by show 17 ≤ 17; decide) rfl ?_
     refine zET (zS (zSG (TL.v (gF prsfld65_7) ?_)))
     refine TL.v (gL 0 pcmag3) ?_
     refine TL.mv ?_
     refine TL.v (gN Tryz.underlying96) ?_
     refine TL.sp bin_gtr (fun q156 => ?_) (fun q156 => ?_)
     ·refine zET (zc (zG (TL.mv ?_)))
      refine TL.prowS (e := 3) (size := 1) (cs := flat (ic .i64) [3, 3, 2]) rfl rfl rfl rfl rfl (fun w => pcmbs106_3_44640 _ _ _ w) (by decide) rfl (fun g158 => ?_)
      refine TL.pcallCod (k := 6) (α := {v : Int // v ∈ ([3, 3, 2] : List Int)}) (fun x => .int .i64 x.1) (fun x => []) rfl rfl rfl rfl rfl Tryz.func22 (by decide) rfl rfl (fun w1 hw hC1 => pick_cod cb w1 hC1 g158 3 ([3, 3, 2]) (hw.neq (i := 0) (j := 6) rfl rfl (by decide) g158 rfl <| congrArg some ·.symm) (Pc.lt (hw.at_ (k := 0) rfl) g158 rfl).2 (by show 0 < ([3, 3, 2] : List Int).length; simp) (fun i v hi => flat_row1 hw (q := 0) rfl hi)) ?_
      rintro ⟨pk, hpk⟩
      dsimp only [List.cons_append, List.nil_append]
      have hpkb : pk = 3 ∨ pk = 2 := by simp only [List.mem_cons, List.not_mem_nil, or_false] at hpk; omega
      refine TL.v (gF prsfld65_11) ?_
      refine TL.v (gF prsfld63_1) ?_
      refine TL.pstore (k := 1) (vs := [.int .i64 pk]) rfl rfl rfl rfl rfl rfl rfl pcmsz3 aeaone_i64 (by show 13 ≤ 17; decide) rfl ?_
      refine zET (zSG (TL.mv ?_))
      refine TL.pcallCod (k := 6) (α := Bool) (fun x => .bool x) (fun x => []) rfl rfl rfl rfl rfl Tryz.func18 (by decide) rfl rfl (fun w1 hw hC1 => dbool_cod cb w1 hC1 5 (by decide)) ?_
      rintro b4
      dsimp only [List.cons_append, List.nil_append]
      refine zET ?_
      refine TC.split (t := b4) rfl (fun c163 => ?_) (fun c163 => ?_)
      ·refine zG (TL.mv ?_)
       refine TL.pcallCod (k := 6) (α := {q9 : Nat // q9 ≤ 65535 ∧ (1 ≤ (65536 : Int) → (q9 : Int) < 65536)}) (fun q9 => .int .i64 ((q9.1 : Nat) : Int)) (fun q9 => []) rfl rfl rfl rfl rfl Tryz.func21 (by decide) rfl rfl (fun w1 hw hC1 => next_cod cb w1 65536 hC1) ?_
       rintro ⟨ie0, hie01, hie02⟩
       dsimp only [List.cons_append, List.nil_append]
       refine TL.v (gF prsfld65_11) ?_
       refine TL.v (gF prsfld63_4) ?_
       refine TL.pstore (k := 1) (vs := [.int .i64 ((ie0 : Nat) : Int)]) rfl rfl rfl rfl rfl rfl rfl pcmsz3 aeaone_i64 (by show 16 ≤ 17; decide) rfl ?_
       refine zE ?_
       exact TX.joined (⟨((true, b3), (fa, pk), (60, ((ie0 : Nat) : Int), 1)), .inr ⟨rfl, by dsimp only; omega, by dsimp only; omega, by dsimp only; omega, by dsimp only; omega, rfl, by dsimp only; omega, by dsimp only; omega, rfl⟩⟩) (⟨rfl, rfl, rfl, rfl, rfl, rfl, rfl, rfl, rfl, rfl, trivial⟩) (fun w1 hw => hw.sel (.cons _ (.cons_cons _ (.cons_cons _ (.cons_cons _ (.cons_cons _ (.cons_cons _ (.cons_cons _ (List.Sublist.refl _)))))))))
      refine zk ?_
      exact TX.joined (⟨((true, b3), (fa, pk), (60, (((idn + (1 + ec)) % 65536 : Nat) : Int), 1)), .inr ⟨rfl, by dsimp only; omega, by dsimp only; omega, by dsimp only; omega, by dsimp only; omega, rfl, by dsimp only; omega, by dsimp only; omega, rfl⟩⟩) (⟨rfl, rfl, rfl, rfl, rfl, rfl, rfl, rfl, rfl, rfl, trivial⟩) (fun w1 hw => hw.sel (.cons _ (.cons_cons _ (.cons_cons _ (.cons_cons _ (.cons_cons _ (.cons_cons _ (.cons_cons _ (List.Sublist.refl _)))))))))
     refine zET (zd (zk (zT (zSG (TL.mv ?_)))))
     refine TL.pcallCod (k := 5) (α := Bool) (fun x => .bool x) (fun x => []) rfl rfl rfl rfl rfl Tryz.func18 (by decide) rfl rfl (fun w1 hw hC1 => dbool_cod cb w1 hC1 5 (by decide)) ?_
     rintro b4
     dsimp only [List.cons_append, List.nil_append]
     refine zET ?_
     refine TC.split (t := b4) rfl (fun c163 => ?_) (fun c163 => ?_)
     ·refine zG (TL.mv ?_)
      refine TL.pcallCod (k := 5) (α := {q9 : Nat // q9 ≤ 65535 ∧ (1 ≤ (65536 : Int) → (q9 : Int) < 65536)}) (fun q9 => .int .i64 ((q9.1 : Nat) : Int)) (fun q9 => []) rfl rfl rfl rfl rfl Tryz.func21 (by decide) rfl rfl (fun w1 hw hC1 => next_cod cb w1 65536 hC1) ?_
      rintro ⟨ie0, hie01, hie02⟩
      dsimp only [List.cons_append, List.nil_append]
      refine TL.v (gF prsfld65_11) ?_
      refine TL.v (gF prsfld63_4) ?_
      refine TL.pstore (k := 0) (vs := [.int .i64 ((ie0 : Nat) : Int)]) rfl rfl rfl rfl rfl rfl rfl pcmsz3 aeaone_i64 (by show 16 ≤ 17; decide) rfl ?_
      refine zE ?_
      exact TX.joined (⟨((true, b3), (fa, 1), (60, ((ie0 : Nat) : Int), 1)), .inr ⟨rfl, by dsimp only; omega, by dsimp only; omega, by dsimp only; omega, by dsimp only; omega, rfl, by dsimp only; omega, by dsimp only; omega, rfl⟩⟩) (⟨rfl, rfl, rfl, rfl, rfl, rfl, rfl, rfl, rfl, rfl, trivial⟩) (fun w1 hw => hw)
     refine zk ?_
     exact TX.joined (⟨((true, b3), (fa, 1), (60, (((idn + (1 + ec)) % 65536 : Nat) : Int), 1)), .inr ⟨rfl, by dsimp only; omega, by dsimp only; omega, by dsimp only; omega, by dsimp only; omega, rfl, by dsimp only; omega, by dsimp only; omega, rfl⟩⟩) (⟨rfl, rfl, rfl, rfl, rfl, rfl, rfl, rfl, rfl, rfl, trivial⟩) (fun w1 hw => hw)
   refine TL.rn 5 rfl (zET (zd (zk ?_)))
   exact TX.joined (⟨((false, false), (0, 0), (0, 0, 0)), .inl ⟨rfl, rfl, rfl, rfl, rfl, rfl, rfl⟩⟩) (⟨rfl, rfl, rfl, rfl, rfl, rfl, rfl, rfl, rfl, rfl, trivial⟩) (fun w1 hw => hw)
  rintro ⟨⟨⟨an, db⟩, ⟨sr, kd⟩, lf, ie, qu⟩, han⟩
  dsimp only at han ⊢
  refine zS ?_
  have hout2 := hout.snoc hx61t hnum hn23 han (by omega : at0 < at0 + (1 + dq)) (show f ≤ 2 by omega) (show tq ≤ 3 by omega) (show bq ≤ 3 by omega) (by omega)
  refine zG (TL.v (gF prsfld65_10) ?_)
  refine TL.v (gL 0 pcmag3) ?_
  refine TL.as_ ?_
  refine zET (zG (TL.mv ?_))
  refine TL.v (gV 0 (.agg #[.int .i64 x61.v, .int .i64 0, .int .i64 ((num : Nat) : Int), .int .i64 ((at0 + (1 + dq) : Nat) : Int), .int .u32 x61.dst, .int .i64 x61.proto, .int .i64 ((f : Nat) : Int), .int .i64 ((1 + tq : Nat) : Int), .bool an, .bool db, .int .i64 ((at0 + (1 + dq) + 5 * (1 + tq) + bq : Nat) : Int), .int .u32 sr, .int .i64 kd, .int .i64 0, .int .i64 lf, .int .i64 ie, .int .i64 qu]) prsag65 prssz65) ?_
  refine TL.prowS (e := 65) (size := 17) (cs := flat Rs.cells [(⟨x61.v, 0, ((num : Nat) : Int), ((at0 + (1 + dq) : Nat) : Int), x61.dst, x61.proto, ((f : Nat) : Int), ((1 + tq : Nat) : Int), an, db, ((at0 + (1 + dq) + 5 * (1 + tq) + bq : Nat) : Int), sr, kd, 0, lf, ie, qu⟩ : Rs)]) rfl rfl rfl rfl rfl (fun w => porbs23_1_99505 _ _ _ _ _ _ _ _ _ _ _ _ _ _ _ _ _ w) (by decide) rfl (fun g172 => ?_)
  refine TL.appendT (k := 3) rfl rfl rfl rfl Tryz.underlying23 porel23 rfl rfl rfl (fun w1 hw => pm_reads hw (k := 0) rfl) (flat_one rs_cel _) (by show _ * 128 ≤ _; omega) ((out ++ [(⟨x61.v, 0, ((num : Nat) : Int), ((at0 + (1 + dq) : Nat) : Int), x61.dst, x61.proto, ((f : Nat) : Int), ((1 + tq : Nat) : Int), an, db, ((at0 + (1 + dq) + 5 * (1 + tq) + bq : Nat) : Int), sr, kd, 0, lf, ie, qu⟩ : Rs)]).length) (by rw [List.length_append]; rfl) (flat Rs.cells (out ++ [(⟨x61.v, 0, ((num : Nat) : Int), ((at0 + (1 + dq) : Nat) : Int), x61.dst, x61.proto, ((f : Nat) : Int), ((1 + tq : Nat) : Int), an, db, ((at0 + (1 + dq) + 5 * (1 + tq) + bq : Nat) : Int), sr, kd, 0, lf, ie, qu⟩ : Rs)])) ((flat_app _ _).symm) (fun A173 c173 hA1731 hA1732 => ?_)
  refine TL.as_ ?_
  refine zE (zN (zT (zG (TL.mv ?_))))
  refine TL.val rfl rfl rfl (gives_bin rfl rfl rfl (fun w => bin_sub_ (r := ((k - 1 : Nat) : Int)) (by simp only [IntKind.wrap_i64]; omega) w)) ?_
  refine TL.as_ ?_
  refine zE ?_
  exact TX.round (⟨(k - 1, at0 + (1 + dq) + 5 * (1 + tq) + bq, idn + (1 + ec), (n2, n3), (A173, c173), out ++ [(⟨x61.v, 0, ((num : Nat) : Int), ((at0 + (1 + dq) : Nat) : Int), x61.dst, x61.proto, ((f : Nat) : Int), ((1 + tq : Nat) : Int), an, db, ((at0 + (1 + dq) + 5 * (1 + tq) + bq : Nat) : Int), sr, kd, 0, lf, ie, qu⟩ : Rs)], ns2, P2), ⟨by dsimp only; rw [List.length_append]; show k - 1 + (out.length + 1) ≤ m; omega, by dsimp only; rw [List.length_append]; show _ ≤ 100 + 100 * (out.length + 1); omega, by dsimp only; rw [List.length_append]; show _ ≤ 70000 + 100 * (out.length + 1); omega⟩, hout2, hns2, by dsimp only; omega, hA1731, hA1732⟩) (by show k - 1 < k; omega) ⟨rfl, rfl, rfl, rfl, rfl, rfl, rfl, rfl, trivial⟩ (fun w1 hw => hw.sel (.cons _ (.cons _ (.cons _ (.cons_cons _ (.cons_cons _ (.cons_cons _ (.cons_cons _ (List.Sublist.refl _)))))))))
 refine zET (zd (zx (zX (zX (zM (zT (zSG (TL.rn 2 rfl (zET (zr ?_))))))))))
 exact ret_tmp Tryz.results17 rfl (fun w1 hw => ⟨⟨((Ar, cr), out), hout.ok (by omega), hrc, hrm⟩, rfl, Pm.codr [_] ((hw.sel (.cons_cons _ (.cons _ (.cons _ (.cons_cons _ (List.Sublist.refl _)))))).sel (.cons_cons _ (.cons_cons _ (List.sublist_append_right _ _)))) rfl⟩)
set_option maxRecDepth 20000
def ShufOk (l o : List Rs) : Prop := (∀ r, r ∈ o ↔ r ∈ l) ∧ o.length ≤ 2 * l.length
theorem ShufOk.nil {l : List Rs} : ShufOk (l.take 0) [] := ⟨fun r => by rw [List.take_zero], Nat.zero_le _⟩
theorem put_len {o : List Rs} {k : Nat} {x : Rs} : (o.take k ++ x :: o.drop k).length = o.length + 1 := by
 have e : (o.take k ++ o.drop k).length = o.length := by rw [List.take_append_drop]
 rw [List.length_append] at e
 rw [List.length_append, List.length_cons]; omega
theorem shuf_put {l o : List Rs} {i k : Nat} {x : Rs} (h : ShufOk (l.take i) o) (hx : l[i]? = some x) : ShufOk (l.take (i + 1)) (o.take k ++ x :: o.drop k) := by
 have hlt := (List.getElem?_eq_some_iff.1 hx).1
 refine ⟨fun r => by rw [mem_put, mem_take_snoc hx, h.1], ?_⟩
 have h2 := h.2
 rw [List.length_take] at h2 ⊢
 rw [put_len]
 omega
theorem shuf_two {l o : List Rs} {i k : Nat} {x y : Rs} (h : ShufOk (l.take i) o) (hx : l[i]? = some x) (hy : l[i]? = some y) : ShufOk (l.take (i + 1)) (o.take k ++ x :: o.drop k ++ [y]) := by
 have hlt := (List.getElem?_eq_some_iff.1 hx).1
 rw [hx] at hy; cases hy
 refine ⟨fun r => ?_, ?_⟩
 ·rw [List.mem_append, List.mem_singleton, (shuf_put (k := k) h hx).1, mem_take_snoc hx]
  constructor
  ·rintro ((h1 | h1) | h1)
   ·exact .inl h1
   ·exact .inr h1
   exact .inr h1
  exact fun h1 => .inl h1
 have h2 := h.2
 rw [List.length_append, put_len]
 rw [List.length_take] at h2 ⊢
 show o.length + 1 + 1 ≤ _
 omega
theorem dshbld65_532  (w : World) : (Instr.build 65 #[]).run Tryz.prog w = .ok (.agg #[.int .i64 0, .int .i64 0, .int .i64 0, .int .i64 0, .int .u32 0, .int .i64 0, .int .i64 0, .int .i64 0, .bool false, .bool false, .int .i64 0, .int .u32 0, .int .i64 0, .int .i64 0, .int .i64 0, .int .i64 0, .int .i64 0]) w := by kernel_rfl
theorem shuf_fr (w0 : Base) (F : List Pc) (cb : Nat) (A0 : Option Addr) (m c0 : Nat) (l : List Rs) (w : World) (hw0 : Pm w0 ([.abs cb (fun w => Cod w cb), .row (.slice A0 m c0) 65 17 m (flat Rs.cells l)] ++ F) w) (hm : l.length = m) (hm1 : m ≤ 10000) :
  Calls Tryz.prog 42 #[.pointer (some ⟨cb, 0, none⟩), .slice A0 m c0] w fun e w' => ∃ x : {y : (Option Addr × Nat) × List Rs // ShufOk l y.2 ∧ y.2.length ≤ y.1.2 ∧ y.1.2 ≤ maxLen}, e = .returned (.slice x.1.1.1 x.1.2.length x.1.1.2) ∧ Pm w0 (.row (.slice x.1.1.1 x.1.2.length x.1.1.2) 65 17 x.1.2.length (flat Rs.cells x.1.2) :: [.abs cb (fun w => Cod w cb), .row (.slice A0 m c0) 65 17 m (flat Rs.cells l)] ++ F) w' := by
 refine begin_ (vs := [.pointer (some ⟨cb, 0, none⟩), .slice A0 m c0]) (I := Pm w0 ([.abs cb (fun w => Cod w cb), .row (.slice A0 m c0) 65 17 m (flat Rs.cells l)] ++ F)) Tryz.func42 rfl rfl rfl ?_ hw0
 refine zSG (TL.as_ ?_)
 refine zET (zSG (TL.as_ ?_))
 refine zET (zS (zSG (TL.as_ ?_)))
 refine zET (zB (TC.nilrow 65 17 ?_))
 refine TC.loop_ (α := {y : Nat × (Option Addr × Nat) × Nat × List Rs // y.1 ≤ m ∧ ShufOk (l.take y.1) y.2.2.2 ∧ y.2.2.1 ≤ y.2.1.2 ∧ y.2.1.2 ≤ maxLen ∧ y.2.2.2.length = y.2.2.1}) (fun y => [(0, .pointer (some ⟨cb, 0, none⟩)), (1, .slice A0 m c0), (6, .int .i64 ((y.1.1 : Nat) : Int)), (5, .slice y.1.2.1.1 y.1.2.2.1 y.1.2.1.2)]) (fun y => Pm w0 ([.row (.slice y.1.2.1.1 y.1.2.2.1 y.1.2.1.2) 65 17 y.1.2.2.1 (flat Rs.cells y.1.2.2.2), .abs cb (fun w => Cod w cb), .row (.slice A0 m c0) 65 17 m (flat Rs.cells l)] ++ F)) (fun y => m - y.1.1) (⟨(0, (none, 0), 0, []), Nat.zero_le _, ShufOk.nil, Nat.le_refl _, Nat.zero_le _, rfl⟩) ⟨rfl, rfl, rfl, rfl, trivial⟩ (fun w1 hw => hw) ?_
 rintro ⟨⟨i, ⟨Ao, co⟩, mo, out⟩, hi, hout, houtc, houtm, hon⟩
 dsimp only at hi hout houtc houtm hon ⊢
 have hsl := hout.2
 have htl : (l.take i).length ≤ m := by rw [List.length_take]; omega
 refine zS (zSG (TL.rn 2 rfl (TL.v (gN Tryz.underlying23) ?_)))
 refine TL.sp bin_lss (fun q11 => ?_) (fun q11 => ?_)
 ·refine zET (zc (zk (zT (zS (zB (zSG (TL.rn 2 rfl (TL.v (gN Tryz.underlying23) ?_))))))))
  refine TL.v (gD ((mo + 1 : Nat) : Int)) ?_
  refine TL.pcallCod (k := 1) (α := {q9 : Nat // q9 ≤ 65535 ∧ (1 ≤ (((mo + 1 : Nat) : Int) : Int) → (q9 : Int) < ((mo + 1 : Nat) : Int))}) (fun q9 => .int .i64 ((q9.1 : Nat) : Int)) (fun q9 => []) rfl rfl rfl rfl rfl Tryz.func21 (by decide) rfl rfl (fun w1 hw hC1 => next_cod cb w1 ((mo + 1 : Nat) : Int) hC1) ?_
  rintro ⟨k, hk1, hk2⟩
  dsimp only [List.cons_append, List.nil_append]
  refine TL.as_ ?_
  refine zET (zSG (TL.mv ?_))
  refine TL.val rfl rfl rfl (gives_build (v := .agg (Rs.zero.cells).toArray) rfl rfl (fun w => dshbld65_532  w)) ?_
  refine TL.prowS (e := 65) (size := 17) (cs := flat Rs.cells [Rs.zero]) rfl rfl rfl rfl rfl (fun w => porbs23_1_99505 _ _ _ _ _ _ _ _ _ _ _ _ _ _ _ _ _ w) (by decide) rfl (fun g21 => ?_)
  refine TL.appendT (k := 1) rfl rfl rfl rfl Tryz.underlying23 porel23 rfl rfl rfl (fun w1 hw => pm_reads hw (k := 0) rfl) (flat_one rs_cel _) (by show _ * 128 ≤ _; omega) (mo + 1) (rfl) (flat Rs.cells (out ++ [Rs.zero])) ((flat_app _ _).symm) (fun A22 c22 hA221 hA222 => ?_)
  refine TL.as_ ?_
  refine zET (zS ?_)
  have hkm : k ≤ mo := by omega
  have hn1 : (out ++ [Rs.zero]).length = out.length + 1 := by simp
  have hn2 : (shiftL (out ++ [Rs.zero]) k).length = out.length + 1 := by rw [shiftL_len _ _ (by omega), hn1]
  refine TC.fact (p := ∃ g, A22 = some ⟨g, 0, none⟩) (fun w1 hw => rowA hw (k := 1) rfl (by omega)) ?_
  rintro ⟨g_A22, rfl⟩
  refine TC.tail 7 (by kernel_rfl) (by kernel_rfl) (fun w hw => hw.drawn _) ?_
  refine TS.val rfl rfl rfl (gives_move rfl rfl) ?_
  refine TS.val rfl rfl rfl (gives_move rfl rfl) ?_
  refine TS.v (gD ((k + 1 : Nat) : Int)) ?_
  refine TS.val rfl rfl rfl (gives_sliceL (v := .slice (if c22 = k + 1 then some ⟨g_A22, 0, none⟩ else (some (⟨g_A22, 0, none⟩ : Addr)).map (·.add ((k + 1) * 17))) ((mo + 1) - (k + 1)) (c22 - (k + 1))) rfl rfl rfl (fun w => cut_lo Tryz.underlying23 prssz65 _ _ _ (k + 1) rfl (by omega) w)) ?_
  refine TS.val rfl rfl rfl (gives_move rfl rfl) ?_
  refine TS.val rfl rfl rfl (gives_move rfl rfl) ?_
  refine TS.val rfl rfl rfl (gives_tailF (q := k) rfl rfl rfl rfl Tryz.underlying23 prssz65 (by omega) (by omega)) ?_
  refine TS.end_ ?_
  refine TL.shiftF rs_cel (kk := 1) (k := k) rfl rfl rfl rfl Tryz.underlying23 prssz65 rfl rfl rfl (by omega) (by omega) (by omega) ?_
  try dsimp only [List.set_cons_zero, List.set_cons_succ]
  refine zET (zSG (TL.rn 4 rfl ?_))
  refine TL.fact (p := ∃ g, A0 = some ⟨g, 0, none⟩) (fun w1 hw => rowA hw (k := 3) rfl (by omega)) ?_
  rintro ⟨g_A0, rfl⟩
  have hi35 : i < l.length := by omega
  obtain ⟨x35, hx35⟩ := ex_at hi35
  refine TL.val rfl rfl rfl (gA (i := i) Tryz.underlying23 prssz65 rfl rfl rfl rfl rfl (by omega)) ?_
  refine TL.val rfl rfl rfl (gives_loadR (off := 0 + i * 17) rfl rfl prsag65 prssz65 (rs_cel.len x35) (fun w1 hw j9 u9 h9 => flat_row rs_cel hw (q := 3) rfl hx35 j9 u9 h9)) ?_
  have hi37 : k < (shiftL (out ++ [Rs.zero]) k).length := by omega
  obtain ⟨x37, hx37⟩ := ex_at hi37
  refine TL.val rfl rfl rfl (gA (i := k) Tryz.underlying23 prssz65 rfl rfl rfl rfl rfl (by omega)) ?_
  refine TL.rowset (k := 1) (vs := x35.cells) (xs' := flat Rs.cells ((shiftL (out ++ [Rs.zero]) k).set k x35)) rfl rfl rfl rfl rfl rfl rfl prssz65 (rs_cel.one _) (by rw [flat_len rs_cel]; show 0 + k * 17 + 17 ≤ _; omega) (flat_put rs_cel (q := 0) (y := x35) hx37 (by show 0 + 17 ≤ 17; decide) rfl) ?_
  try dsimp only [List.set_cons_zero, List.set_cons_succ]
  refine zET (zSG (TL.mv ?_))
  refine TL.pcallCod (k := 2) (α := Bool) (fun x => .bool x) (fun x => []) rfl rfl rfl rfl rfl Tryz.func18 (by decide) rfl rfl (fun w1 hw hC1 => dbool_cod cb w1 hC1 8 (by decide)) ?_
  rintro b1
  dsimp only [List.cons_append, List.nil_append]
  refine zET ?_
  refine TC.split (t := b1) rfl (fun c39 => ?_) (fun c39 => ?_)
  ·refine zG (TL.rn 3 rfl ?_)
   have hi43 : i < l.length := by omega
   obtain ⟨x43, hx43⟩ := ex_at hi43
   refine TL.val rfl rfl rfl (gA (i := i) Tryz.underlying23 prssz65 rfl rfl rfl rfl rfl (by omega)) ?_
   refine TL.val rfl rfl rfl (gives_loadR (off := 0 + i * 17) rfl rfl prsag65 prssz65 (rs_cel.len x43) (fun w1 hw j9 u9 h9 => flat_row rs_cel hw (q := 3) rfl hx43 j9 u9 h9)) ?_
   refine TL.prowS (e := 65) (size := 17) (cs := flat Rs.cells [x43]) rfl rfl rfl rfl rfl (fun w => porbs23_1_99505 _ _ _ _ _ _ _ _ _ _ _ _ _ _ _ _ _ w) (by decide) rfl (fun g45 => ?_)
   refine TL.appendT (k := 2) rfl rfl rfl rfl Tryz.underlying23 porel23 rfl rfl rfl (fun w1 hw => pm_reads hw (k := 0) rfl) (flat_one rs_cel _) (by show _ * 128 ≤ _; omega) (mo + 1 + 1) (rfl) (flat Rs.cells (((shiftL (out ++ [Rs.zero]) k).set k x35) ++ [x43])) ((flat_app _ _).symm) (fun A46 c46 hA461 hA462 => ?_)
   refine TL.as_ ?_
   refine zE (zN (zT (zG (TL.mv ?_))))
   refine TL.v (gD ((i + 1 : Nat) : Int)) ?_
   refine TL.as_ ?_
   refine zE ?_
   exact TX.round (⟨(i + 1, (A46, c46), mo + 1 + 1, ((shiftL (out ++ [Rs.zero]) k).set k x35) ++ [x43]), by dsimp only; omega, by dsimp only; rw [shiftL_at _ _ _ _ (by omega)]; exact shuf_two hout hx35 hx43, hA461, hA462, by dsimp only; simp only [List.length_append, List.length_set, hn2, hon, List.length_singleton]⟩) (by show m - (i + 1) < m - i; omega) ⟨rfl, rfl, rfl, rfl, trivial⟩ (fun w1 hw => hw.sel (.cons _ (.cons _ (.cons_cons _ (.cons_cons _ (.cons_cons _ (List.Sublist.refl _)))))))
  refine zk (zN (zT (zG ?_)))
  refine TL.mv ?_
  refine TL.v (gD ((i + 1 : Nat) : Int)) ?_
  refine TL.as_ ?_
  refine zE ?_
  exact TX.round (⟨(i + 1, ((some ⟨g_A22, 0, none⟩), c22), mo + 1, (shiftL (out ++ [Rs.zero]) k).set k x35), by dsimp only; omega, by dsimp only; rw [shiftL_at _ _ _ _ (by omega)]; exact shuf_put hout hx35, hA221, hA222, by dsimp only; simp only [List.length_append, List.length_set, hn2, hon, List.length_singleton]⟩) (by show m - (i + 1) < m - i; omega) ⟨rfl, rfl, rfl, rfl, trivial⟩ (fun w1 hw => hw.sel (.cons _ (.cons_cons _ (.cons_cons _ (.cons_cons _ (List.Sublist.refl _))))))
 refine zET (zd (zx (zX (zX (zM (zT (zSG (TL.rn 2 rfl (zET (zr ?_))))))))))
 subst hon
 exact ret_tmp Tryz.results42 rfl (fun w1 hw => ⟨⟨((Ao, co), out), by rw [List.take_of_length_le (by omega)] at hout; exact hout, by dsimp only; omega, houtm⟩, rfl, hw⟩)
set_option maxRecDepth 20000
def adB (A : Option Addr) : Nat := match A with
  | some a => a.block
  | none => 0
def adO (A : Option Addr) : Nat := match A with
  | some a => a.off
  | none => 0
section
variable {α : Type} {c : α → List Value} {k : Nat}
theorem Reads.addr {w : World} {B size n : Nat} {A : Option Addr} {xs : List Value} (h : Reads w B size A n xs) (hn : 0 < n) (hs : 0 < size) : A = some ⟨adB A, adO A, none⟩ := by
  obtain ⟨b, o, hA, _, _⟩ := h.ad hn hs
  rw [hA]; rfl
theorem reads_cell (K : Cel c k) {w : World} {B n g o i : Nat} {A : Option Addr} {l : List α} {x : α} (h : Reads w B k A n (flat c l)) (hA : A = some ⟨g, o, none⟩) (hx : l[i]? = some x) (j : Nat) (u : Value) (hu : (c x)[j]? = some u) : w.cell? ⟨g, o + i * k + j, none⟩ = some u := by
  have hk : 0 < k := by
    have := (List.getElem?_eq_some_iff.1 hu).1
    rw [K.len] at this; omega
  have hn : 0 < n := by
    have h1 := h.1
    have h2 := (List.getElem?_eq_some_iff.1 hx).1
    rw [flat_len K] at h1
    rcases Nat.eq_zero_or_pos n with h3 | h3
    · subst h3
      rw [Nat.zero_mul] at h1
      have := Nat.mul_pos (show 0 < l.length by omega) hk
      omega
    · exact h3
  obtain ⟨b, o', hA', _, hc⟩ := h.ad hn hk
  rw [hA] at hA'
  cases hA'
  exact flat_cell K hx hc j u hu
end
set_option maxRecDepth 20000
theorem drpbld34_74152 (a0_0 : Int) (a1_0 : Int) (a1_1 : Int) (a1_2 : Int) (a2_0 : Int) (a3_0 : Int) (a4_0 : Int) (a5_0 : Int) (w : World) : (Instr.build 34 #[(0, .int .i64 a0_0), (1, .agg #[.int .i64 a1_0, .int .u32 a1_1, .int .i64 a1_2]), (2, .int .i64 a2_0), (3, .int .i64 a3_0), (4, .int .i64 a4_0), (5, .int .i64 a5_0)]).run Tryz.prog w = .ok (.agg #[.int .i64 a0_0, .int .i64 a1_0, .int .u32 a1_1, .int .i64 a1_2, .int .i64 a2_0, .int .i64 a3_0, .int .i64 a4_0, .int .i64 a5_0]) w := by kernel_rfl
theorem drpbs106_5_22075 (a0_0 : Int) (a1_0 : Int) (a2_0 : Int) (a3_0 : Int) (a4_0 : Int) (w : World) : (Instr.buildSlice 106 5 #[(0, .int .i64 a0_0), (1, .int .i64 a1_0), (2, .int .i64 a2_0), (3, .int .i64 a3_0), (4, .int .i64 a4_0)]).run Tryz.prog w = .ok (.slice (some ⟨w.heap.size, 0, none⟩) 5 5) (w.alloc (.cells [.int .i64 a0_0, .int .i64 a1_0, .int .i64 a2_0, .int .i64 a3_0, .int .i64 a4_0].toArray 3)) := by kernel_rfl
theorem rep_fr (w0 : Base) (F : List Pc) (cb : Nat) (A0 : Option Addr) (c0 : Nat) (l : List Rs) (hR : ∀ w1, Pm w0 ([.abs cb (fun w => Cod w cb)] ++ F) w1 → Reads w1 w1.heap.size 17 A0 l.length (flat Rs.cells l)) (hl : l.length ≤ 10000) (hok : ∀ r ∈ l, r.Ok) (w : World) (hw0 : Pm w0 ([.abs cb (fun w => Cod w cb)] ++ F) w) :
  Calls Tryz.prog 26 #[.pointer (some ⟨cb, 0, none⟩), .slice A0 l.length c0] w fun e w' => ∃ x : {y : Rp // y.Ok}, e = .returned (.agg x.1.cells.toArray) ∧ Pm w0 ([.abs cb (fun w => Cod w cb)] ++ F) w' := by
 have hA0 : 0 < l.length → A0 = some ⟨adB A0, adO A0, none⟩ := fun h => (hR w hw0).addr h (by decide)
 refine begin_ (vs := [.pointer (some ⟨cb, 0, none⟩), .slice A0 l.length c0]) (I := Pm w0 ([.abs cb (fun w => Cod w cb)] ++ F)) Tryz.func26 rfl rfl rfl ?_ hw0
 refine zSG ?_
 refine TL.pnew rfl rfl rfl (exec_alloc (cs := [.int .i64 0, .int .i64 0, .int .u32 0, .int .i64 0, .int .i64 0, .int .i64 0, .int .i64 0, .int .i64 0]) rfl asezv34 rfl) (fun g4 => ?_)
 refine zET (zSG (TL.mv ?_))
 refine TL.pcallCod (k := 1) (α := {q9 : Nat // q9 ≤ 65535 ∧ (1 ≤ (3 : Int) → (q9 : Int) < 3)}) (fun q9 => .int .i64 ((q9.1 : Nat) : Int)) (fun q9 => []) rfl rfl rfl rfl rfl Tryz.func21 (by decide) rfl rfl (fun w1 hw hC1 => next_cod cb w1 3 hC1) ?_
 rintro ⟨k0, hk01, hk02⟩
 dsimp only [List.cons_append, List.nil_append]
 refine TL.v (gD ((1 + k0 : Nat) : Int)) ?_
 refine TL.mv ?_
 refine TL.pcallCod (k := 1) (α := {t : Trc // TrOk t}) (fun x => .agg (x.1.cells).toArray) (fun x => []) rfl rfl rfl rfl rfl Tryz.func68 (by decide) rfl rfl (fun w1 hw hC1 => dtrace_cod cb w1 hC1) ?_
 rintro ⟨tr, htr⟩
 dsimp only [List.cons_append, List.nil_append]
 refine TL.mv ?_
 refine TL.pcallCod (k := 1) (α := {q9 : Nat // q9 ≤ 65535 ∧ (1 ≤ (3 : Int) → (q9 : Int) < 3)}) (fun q9 => .int .i64 ((q9.1 : Nat) : Int)) (fun q9 => []) rfl rfl rfl rfl rfl Tryz.func21 (by decide) rfl rfl (fun w1 hw hC1 => next_cod cb w1 3 hC1) ?_
 rintro ⟨fl, hfl1, hfl2⟩
 dsimp only [List.cons_append, List.nil_append]
 refine TL.mv ?_
 refine TL.pcallCod (k := 1) (α := {q9 : Nat // q9 ≤ 65535 ∧ (1 ≤ (3 : Int) → (q9 : Int) < 3)}) (fun q9 => .int .i64 ((q9.1 : Nat) : Int)) (fun q9 => []) rfl rfl rfl rfl rfl Tryz.func21 (by decide) rfl rfl (fun w1 hw hC1 => next_cod cb w1 3 hC1) ?_
 rintro ⟨tt, htt1, htt2⟩
 dsimp only [List.cons_append, List.nil_append]
 refine TL.v (gD ((1 + tt : Nat) : Int)) ?_
 refine TL.mv ?_
 refine TL.pcallCod (k := 1) (α := {q9 : Nat // q9 ≤ 65535 ∧ (1 ≤ (400 : Int) → (q9 : Int) < 400)}) (fun q9 => .int .i64 ((q9.1 : Nat) : Int)) (fun q9 => []) rfl rfl rfl rfl rfl Tryz.func21 (by decide) rfl rfl (fun w1 hw hC1 => next_cod cb w1 400 hC1) ?_
 rintro ⟨at0, hat01, hat02⟩
 dsimp only [List.cons_append, List.nil_append]
 refine TL.mv ?_
 refine TL.pcallCod (k := 1) (α := {q9 : Nat // q9 ≤ 65535 ∧ (1 ≤ (4 : Int) → (q9 : Int) < 4)}) (fun q9 => .int .i64 ((q9.1 : Nat) : Int)) (fun q9 => []) rfl rfl rfl rfl rfl Tryz.func21 (by decide) rfl rfl (fun w1 hw hC1 => next_cod cb w1 4 hC1) ?_
 rintro ⟨pv, hpv1, hpv2⟩
 dsimp only [List.cons_append, List.nil_append]
 refine TL.v (gD ((1 + pv : Nat) : Int)) ?_
 refine TL.val rfl rfl rfl (gives_build (v := .agg #[.int .i64 ((1 + k0 : Nat) : Int), .int .i64 tr.v, .int .u32 tr.dst, .int .i64 tr.proto, .int .i64 ((fl : Nat) : Int), .int .i64 ((1 + tt : Nat) : Int), .int .i64 ((at0 : Nat) : Int), .int .i64 ((1 + pv : Nat) : Int)]) rfl rfl (fun w => drpbld34_74152 _ _ _ _ _ _ _ _ w)) ?_
 refine TL.pnew rfl rfl rfl (exec_alloc (cs := [.int .i64 0, .int .i64 0, .int .u32 0, .int .i64 0, .int .i64 0, .int .i64 0, .int .i64 0, .int .i64 0]) rfl asezv34 rfl) (fun g5 => ?_)
 refine TL.pstore (k := 0) (vs := [.int .i64 ((1 + k0 : Nat) : Int), .int .i64 tr.v, .int .u32 tr.dst, .int .i64 tr.proto, .int .i64 ((fl : Nat) : Int), .int .i64 ((1 + tt : Nat) : Int), .int .i64 ((at0 : Nat) : Int), .int .i64 ((1 + pv : Nat) : Int)]) rfl rfl rfl rfl rfl rfl rfl aprsz34 aseone_i64i64u32i64i64i64i64i64 (by show 8 ≤ 8; decide) rfl ?_
 refine zET (zS (zS ?_))
 have htr0 := htr
 unfold TrOk at htr0
 refine zG (TL.mv ?_)
 refine TL.v (gN Tryz.underlying23) ?_
 refine TL.sp bin_gtr (fun q25 => ?_) (fun q25 => ?_)
 ·refine zET (zc (zSG (TL.rn 3 rfl (TL.v (gN Tryz.underlying23) ?_))))
  refine TL.pcallCod (k := 2) (α := {q9 : Nat // q9 ≤ 65535 ∧ (1 ≤ ((l.length : Nat) : Int) → (q9 : Int) < (l.length : Nat))}) (fun q9 => .int .i64 ((q9.1 : Nat) : Int)) (fun q9 => []) rfl rfl rfl rfl rfl Tryz.func21 (by decide) rfl rfl (fun w1 hw hC1 => next_cod cb w1 (l.length : Nat) hC1) ?_
  rintro ⟨i, hi1, hi2⟩
  dsimp only [List.cons_append, List.nil_append]
  have hi31 : i < l.length := by omega
  obtain ⟨x31, hx31⟩ := ex_at hi31
  have hA31 := hA0 (by omega)
  have hokx31 := hok x31 (List.mem_of_getElem? hx31)
  unfold Rs.Ok at hokx31
  refine TL.val rfl rfl rfl (gA (i := i) Tryz.underlying23 prssz65 rfl rfl rfl rfl hA31 (by omega)) ?_
  refine TL.val rfl rfl rfl (gives_loadR (off := (adO A0) + i * 17) rfl rfl prsag65 prssz65 (rs_cel.len x31) (fun w1 hw j9 u9 h9 => reads_cell rs_cel (hR w1 (hw.sel (.cons _ (.cons _ (.cons_cons _ (List.Sublist.refl _)))))) hA31 hx31 j9 u9 h9)) ?_
  refine TL.pnew rfl rfl rfl (exec_alloc (cs := [.int .i64 0, .int .i64 0, .int .i64 0, .int .i64 0, .int .u32 0, .int .i64 0, .int .i64 0, .int .i64 0, .bool false, .bool false, .int .i64 0, .int .u32 0, .int .i64 0, .int .i64 0, .int .i64 0, .int .i64 0, .int .i64 0]) rfl arpzv65 rfl) (fun g6 => ?_)
  refine TL.pstore (k := 0) (vs := x31.cells) rfl rfl rfl rfl rfl rfl rfl prssz65 (rs_cel.one _) (by show 17 ≤ 17; decide) (L' := ([.blk g6 65 x31.cells, .blk g5 34 [.int .i64 ((1 + k0 : Nat) : Int), .int .i64 tr.v, .int .u32 tr.dst, .int .i64 tr.proto, .int .i64 ((fl : Nat) : Int), .int .i64 ((1 + tt : Nat) : Int), .int .i64 ((at0 : Nat) : Int), .int .i64 ((1 + pv : Nat) : Int)], .blk g4 34 [.int .i64 0, .int .i64 0, .int .u32 0, .int .i64 0, .int .i64 0, .int .i64 0, .int .i64 0, .int .i64 0], .abs cb (fun w => Cod w cb)] ++ F)) rfl ?_
  refine zET (TC.held (ls := #[Ff,Ff,Ff,Ff,Ff,Ff,Ff,Ff,Ff,Ff,Ff,Ff,Ff,Ff,Ff,Ff,Ff,Ff,Ff,Ff,Ff,Ff,Ff,Ff,Ff]) (Pm w0 ([.blk g6 65 x31.cells, .abs cb (fun w => Cod w cb)] ++ F)) (by kernel_rfl) rfl rfl (fun w hw => hw.drawn _) ?_)
  refine TH.tk 0 rfl rfl rfl (gV 0 (.agg (x31.cells).toArray) prsag65 prssz65) (fun w1 hw => hw.sel (.cons_cons _ (.cons _ (.cons _ (.cons_cons _ (List.Sublist.refl _)))))) ?_
  refine TH.tk 2 rfl rfl rfl (gF prsfld65_6) (fun w1 hw => hw.sel (.cons_cons _ (.cons _ (.cons _ (.cons_cons _ (List.Sublist.refl _)))))) ?_
  refine TH.tk 3 rfl rfl rfl (gL 0 pcmag3) (fun w1 hw => hw.sel (.cons_cons _ (.cons _ (.cons _ (.cons_cons _ (List.Sublist.refl _)))))) ?_
  refine TH.tk 4 rfl rfl rfl (gF prsfld65_7) (fun w1 hw => hw.sel (.cons_cons _ (.cons _ (.cons _ (.cons_cons _ (List.Sublist.refl _)))))) ?_
  refine TH.tk 5 rfl rfl rfl (gL 0 pcmag3) (fun w1 hw => hw.sel (.cons_cons _ (.cons _ (.cons _ (.cons_cons _ (List.Sublist.refl _)))))) ?_
  refine TH.tk 6 rfl rfl rfl (gives_move rfl rfl) (fun w1 hw => hw.sel (.cons_cons _ (.cons _ (.cons _ (.cons_cons _ (List.Sublist.refl _)))))) ?_
  refine TH.tk 7 rfl rfl rfl (gives_move rfl rfl) (fun w1 hw => hw.sel (.cons_cons _ (.cons _ (.cons _ (.cons_cons _ (List.Sublist.refl _)))))) ?_
  refine TH.tk 8 rfl rfl rfl (gives_move rfl rfl) (fun w1 hw => hw.sel (.cons_cons _ (.cons _ (.cons _ (.cons_cons _ (List.Sublist.refl _)))))) ?_
  refine TH.tk 9 rfl rfl rfl (gN Tryz.underlying23) (fun w1 hw => hw.sel (.cons_cons _ (.cons _ (.cons _ (.cons_cons _ (List.Sublist.refl _)))))) ?_
  refine TH.tk 14 rfl rfl rfl (gives_move rfl rfl) (fun w1 hw => hw.sel (.cons_cons _ (.cons _ (.cons _ (.cons_cons _ (List.Sublist.refl _)))))) ?_
  refine TH.only' 1 rfl (by kernel_rfl) rfl ?_
  refine TL.pcall1 (r := .agg ((trcR x31).cells).toArray) rfl rfl rfl rfl rfl Tryz.func69 (by decide) rfl (fun w1 hw => rtrc_any x31 w1) ?_
  refine zE ?_
  refine TX.he (fun w1 hw => hw.sel (.cons_cons _ (.cons _ (.cons _ (.cons_cons _ (List.Sublist.refl _)))))) fun hS => ?_
  refine TH.t 17 rfl (gF arpfld34_1) hS ?_
  refine TH.only' 10 rfl (by kernel_rfl) rfl ?_
  refine TL.pcallCod (k := 3) (α := {q9 : Nat // q9 ≤ 65535 ∧ (1 ≤ ((l.length : Nat) : Int) → (q9 : Int) < (l.length : Nat))}) (fun q9 => .int .i64 ((q9.1 : Nat) : Int)) (fun q9 => []) rfl rfl rfl rfl rfl Tryz.func21 (by decide) rfl rfl (fun w1 hw hC1 => next_cod cb w1 (l.length : Nat) hC1) ?_
  rintro ⟨k, hk1, hk2⟩
  dsimp only [List.cons_append, List.nil_append]
  refine zE ?_
  refine TX.held (fun w1 hw => hw.sel (.cons_cons _ (.cons _ (.cons _ (.cons_cons _ (List.Sublist.refl _)))))) ?_
  have hi44 : k < l.length := by omega
  obtain ⟨x44, hx44⟩ := ex_at hi44
  have hA44 := hA0 (by omega)
  have hokx44 := hok x44 (List.mem_of_getElem? hx44)
  unfold Rs.Ok at hokx44
  refine TH.tk 11 rfl rfl rfl (gA (i := k) Tryz.underlying23 prssz65 rfl rfl rfl rfl hA44 (by omega)) (fun w1 hw => hw.sel (.cons_cons _ (.cons _ (.cons _ (.cons_cons _ (List.Sublist.refl _)))))) ?_
  refine TH.tk 12 rfl rfl rfl (gF prsfld65_3) (fun w1 hw => hw.sel (.cons_cons _ (.cons _ (.cons _ (.cons_cons _ (List.Sublist.refl _)))))) ?_
  refine TH.tk 13 rfl rfl rfl (gives_load (v := .int .i64 x44.at_) rfl rfl pcmag3 (fun w1 hw => reads_cell rs_cel (hR w1 (hw.sel (.cons _ (.cons_cons _ (List.Sublist.refl _))))) hA44 hx44 3 _ rfl)) (fun w1 hw => hw.sel (.cons_cons _ (.cons _ (.cons _ (.cons_cons _ (List.Sublist.refl _)))))) ?_
  refine TH.only' 15 rfl (by kernel_rfl) rfl ?_
  refine TL.pcallCod (k := 3) (α := {q9 : Nat // q9 ≤ 65535 ∧ (1 ≤ (2 : Int) → (q9 : Int) < 2)}) (fun q9 => .int .i64 ((q9.1 : Nat) : Int)) (fun q9 => []) rfl rfl rfl rfl rfl Tryz.func21 (by decide) rfl rfl (fun w1 hw hC1 => next_cod cb w1 2 hC1) ?_
  rintro ⟨b, hb1, hb2⟩
  dsimp only [List.cons_append, List.nil_append]
  refine zE ?_
  refine TX.he (fun w1 hw => hw.sel (.cons_cons _ (.cons _ (.cons _ (.cons_cons _ (List.Sublist.refl _)))))) fun hS => ?_
  refine TH.t 16 rfl (gives_bin rfl rfl rfl (fun w => bin_add_ (r := IntKind.i64.wrap (x44.at_ + ((b : Nat) : Int))) (rfl) w)) hS ?_
  refine TH.only' 18 rfl (by kernel_rfl) rfl ?_
  refine TL.pstore (k := 1) (vs := (trcR x31).cells) rfl rfl rfl rfl rfl rfl rfl prssz32 (trc_cel.one _) (by show 4 ≤ 8; decide) (L' := ([.blk g6 65 x31.cells, .blk g5 34 [.int .i64 ((1 + k0 : Nat) : Int), .int .i64 ((trcR x31).v), .int .u32 ((trcR x31).dst), .int .i64 ((trcR x31).proto), .int .i64 ((fl : Nat) : Int), .int .i64 ((1 + tt : Nat) : Int), .int .i64 ((at0 : Nat) : Int), .int .i64 ((1 + pv : Nat) : Int)], .blk g4 34 [.int .i64 0, .int .i64 0, .int .u32 0, .int .i64 0, .int .i64 0, .int .i64 0, .int .i64 0, .int .i64 0], .abs cb (fun w => Cod w cb)] ++ F)) rfl ?_
  refine zE ?_
  refine TX.he (fun w1 hw => hw.sel (.cons_cons _ (.cons _ (.cons _ (.cons_cons _ (List.Sublist.refl _)))))) fun hS => ?_
  refine TH.t 19 rfl (gF arpfld34_2) hS ?_
  refine TH.only' 20 rfl (by kernel_rfl) rfl ?_
  refine TL.pstore (k := 1) (vs := [.int .i64 x31.flow]) rfl rfl rfl rfl rfl rfl rfl pcmsz3 aeaone_i64 (by show 5 ≤ 8; decide) rfl ?_
  refine zE ?_
  refine TX.he (fun w1 hw => hw.sel (.cons_cons _ (.cons _ (.cons _ (.cons_cons _ (List.Sublist.refl _)))))) fun hS => ?_
  refine TH.t 21 rfl (gF arpfld34_3) hS ?_
  refine TH.only' 22 rfl (by kernel_rfl) rfl ?_
  refine TL.pstore (k := 1) (vs := [.int .i64 x31.ttl]) rfl rfl rfl rfl rfl rfl rfl pcmsz3 aeaone_i64 (by show 6 ≤ 8; decide) rfl ?_
  refine zE ?_
  refine TX.he (fun w1 hw => hw.sel (.cons_cons _ (.cons _ (.cons _ (.cons_cons _ (List.Sublist.refl _)))))) fun hS => ?_
  refine TH.t 23 rfl (gF arpfld34_4) hS ?_
  refine TH.only' 24 rfl (by kernel_rfl) rfl ?_
  refine TL.pstore (k := 1) (vs := [.int .i64 (IntKind.i64.wrap (x44.at_ + ((b : Nat) : Int)))]) rfl rfl rfl rfl rfl rfl rfl pcmsz3 aeaone_i64 (by show 7 ≤ 8; decide) rfl ?_
  refine zE ?_
  refine TX.held (fun w1 hw => hw.sel (.cons_cons _ (.cons _ (.cons _ (.cons_cons _ (List.Sublist.refl _)))))) ?_
  refine TH.done (by kernel_rfl) ?_
  refine zT (zS (zSG (TL.v (gF arpfld34_0) ?_)))
  refine TL.v (gL 1 pcmag3) ?_
  refine TL.sp bin_eql (fun q56 => ?_) (fun q56 => ?_)
  ·refine zET (zc (zG (TL.v (gF arpfld34_3) ?_)))
   refine TL.pstore (k := 1) (vs := [.int .i64 0]) rfl rfl rfl rfl rfl rfl rfl pcmsz3 aeaone_i64 (by show 6 ≤ 8; decide) rfl ?_
   refine zET (zS (zSG (TL.v (gF arpfld34_0) ?_)))
   refine TL.v (gL 1 pcmag3) ?_
   refine TL.sp bin_neq (fun q60 => ?_) (fun q60 => ?_)
   ·refine zET (zc (zG (TL.v (gF arpfld34_5) ?_)))
    refine TL.pstore (k := 1) (vs := [.int .i64 0]) rfl rfl rfl rfl rfl rfl rfl pcmsz3 aeaone_i64 (by show 8 ≤ 8; decide) rfl ?_
    refine zET (zS (zSG (TL.mv ?_)))
    refine TL.pcallCod (k := 3) (α := {q9 : Nat // q9 ≤ 65535 ∧ (1 ≤ (12 : Int) → (q9 : Int) < 12)}) (fun q9 => .int .i64 ((q9.1 : Nat) : Int)) (fun q9 => []) rfl rfl rfl rfl rfl Tryz.func21 (by decide) rfl rfl (fun w1 hw hC1 => next_cod cb w1 12 hC1) ?_
    rintro ⟨sw, hsw1, hsw2⟩
    dsimp only [List.cons_append, List.nil_append]
    refine zET (zB (zSG ?_))
    refine TL.sp bin_eql (fun q65 => ?_) (fun q65 => ?_)
    ·refine TL.as_ ?_
     refine zET (zc (zG (TL.mv ?_)))
     refine TL.prowS (e := 3) (size := 1) (cs := flat (ic .i64) [0, 4, -1]) rfl rfl rfl rfl rfl (fun w => pcmbs106_3_44640 _ _ _ w) (by decide) rfl (fun g67 => ?_)
     refine TL.pcallCod (k := 4) (α := {v : Int // v ∈ ([0, 4, -1] : List Int)}) (fun x => .int .i64 x.1) (fun x => []) rfl rfl rfl rfl rfl Tryz.func22 (by decide) rfl rfl (fun w1 hw hC1 => pick_cod cb w1 hC1 g67 3 ([0, 4, -1]) (hw.neq (i := 0) (j := 4) rfl rfl (by decide) g67 rfl <| congrArg some ·.symm) (Pc.lt (hw.at_ (k := 0) rfl) g67 rfl).2 (by show 0 < ([0, 4, -1] : List Int).length; simp) (fun i v hi => flat_row1 hw (q := 0) rfl hi)) ?_
     rintro ⟨pk, hpk⟩
     dsimp only [List.cons_append, List.nil_append]
     refine TL.v (gF arpfld34_0) ?_
     refine TL.pstore (k := 2) (vs := [.int .i64 pk]) rfl rfl rfl rfl rfl rfl rfl pcmsz3 aeaone_i64 (by show 1 ≤ 8; decide) rfl ?_
     refine zE (zN (zT (zSG (TL.v (gV 2 (.agg #[.int .i64 pk, .int .i64 ((trcR x31).v), .int .u32 ((trcR x31).dst), .int .i64 ((trcR x31).proto), .int .i64 x31.flow, .int .i64 0, .int .i64 (IntKind.i64.wrap (x44.at_ + ((b : Nat) : Int))), .int .i64 0]) aprag34 aprsz34) ?_))))
     refine TL.pstore (k := 3) (vs := [.int .i64 pk, .int .i64 ((trcR x31).v), .int .u32 ((trcR x31).dst), .int .i64 ((trcR x31).proto), .int .i64 x31.flow, .int .i64 0, .int .i64 (IntKind.i64.wrap (x44.at_ + ((b : Nat) : Int))), .int .i64 0]) rfl rfl rfl rfl rfl rfl rfl aprsz34 aseone_i64i64u32i64i64i64i64i64 (by show 8 ≤ 8; decide) rfl ?_
     refine zET (zr ?_)
     exact pm_ret_cell (k := 3) Tryz.results26 rfl rfl Tryz.underlying34 rfl rfl (fun w1 hw => ⟨⟨⟨pk, (trcR x31).v, (trcR x31).dst, (trcR x31).proto, x31.flow, 0, IntKind.i64.wrap (x44.at_ + ((b : Nat) : Int)), 0⟩, (by unfold Rp.Ok; dsimp only [trcR]; omega)⟩, rfl, hw.sel (.cons _ (.cons _ (.cons _ (.cons _ (.cons_cons _ (List.Sublist.refl _))))))⟩)
    refine TL.as_ ?_
    refine zET (zd (zSG ?_))
    refine TL.sp bin_eql (fun q71 => ?_) (fun q71 => ?_)
    ·refine TL.as_ ?_
     refine zET (zc (zG (TL.mv ?_)))
     refine TL.prowS (e := 3) (size := 1) (cs := flat (ic .i64) [-1, 0, 1, 255, 256]) rfl rfl rfl rfl rfl (fun w => drpbs106_5_22075 _ _ _ _ _ w) (by decide) rfl (fun g73 => ?_)
     refine TL.pcallCod (k := 4) (α := {v : Int // v ∈ ([-1, 0, 1, 255, 256] : List Int)}) (fun x => .int .i64 x.1) (fun x => []) rfl rfl rfl rfl rfl Tryz.func22 (by decide) rfl rfl (fun w1 hw hC1 => pick_cod cb w1 hC1 g73 5 ([-1, 0, 1, 255, 256]) (hw.neq (i := 0) (j := 4) rfl rfl (by decide) g73 rfl <| congrArg some ·.symm) (Pc.lt (hw.at_ (k := 0) rfl) g73 rfl).2 (by show 0 < ([-1, 0, 1, 255, 256] : List Int).length; simp) (fun i v hi => flat_row1 hw (q := 0) rfl hi)) ?_
     rintro ⟨pk, hpk⟩
     dsimp only [List.cons_append, List.nil_append]
     refine TL.v (gF arpfld34_3) ?_
     refine TL.pstore (k := 2) (vs := [.int .i64 pk]) rfl rfl rfl rfl rfl rfl rfl pcmsz3 aeaone_i64 (by show 6 ≤ 8; decide) rfl ?_
     refine zE (zN (zT (zSG (TL.v (gV 2 (.agg #[.int .i64 ((1 + k0 : Nat) : Int), .int .i64 ((trcR x31).v), .int .u32 ((trcR x31).dst), .int .i64 ((trcR x31).proto), .int .i64 x31.flow, .int .i64 pk, .int .i64 (IntKind.i64.wrap (x44.at_ + ((b : Nat) : Int))), .int .i64 0]) aprag34 aprsz34) ?_))))
     refine TL.pstore (k := 3) (vs := [.int .i64 ((1 + k0 : Nat) : Int), .int .i64 ((trcR x31).v), .int .u32 ((trcR x31).dst), .int .i64 ((trcR x31).proto), .int .i64 x31.flow, .int .i64 pk, .int .i64 (IntKind.i64.wrap (x44.at_ + ((b : Nat) : Int))), .int .i64 0]) rfl rfl rfl rfl rfl rfl rfl aprsz34 aseone_i64i64u32i64i64i64i64i64 (by show 8 ≤ 8; decide) rfl ?_
     refine zET (zr ?_)
     exact pm_ret_cell (k := 3) Tryz.results26 rfl rfl Tryz.underlying34 rfl rfl (fun w1 hw => ⟨⟨⟨((1 + k0 : Nat) : Int), (trcR x31).v, (trcR x31).dst, (trcR x31).proto, x31.flow, pk, IntKind.i64.wrap (x44.at_ + ((b : Nat) : Int)), 0⟩, (by unfold Rp.Ok; dsimp only [trcR]; omega)⟩, rfl, hw.sel (.cons _ (.cons _ (.cons _ (.cons _ (.cons_cons _ (List.Sublist.refl _))))))⟩)
    refine TL.as_ ?_
    refine zET (zd (zSG ?_))
    refine TL.sp bin_eql (fun q77 => ?_) (fun q77 => ?_)
    ·refine TL.as_ ?_
     refine zET (zc (zG (TL.mv ?_)))
     refine TL.prowS (e := 3) (size := 1) (cs := flat (ic .i64) [-1, 2251799813685248, 2251799813685249]) rfl rfl rfl rfl rfl (fun w => pcmbs106_3_44640 _ _ _ w) (by decide) rfl (fun g79 => ?_)
     refine TL.pcallCod (k := 4) (α := {v : Int // v ∈ ([-1, 2251799813685248, 2251799813685249] : List Int)}) (fun x => .int .i64 x.1) (fun x => []) rfl rfl rfl rfl rfl Tryz.func22 (by decide) rfl rfl (fun w1 hw hC1 => pick_cod cb w1 hC1 g79 3 ([-1, 2251799813685248, 2251799813685249]) (hw.neq (i := 0) (j := 4) rfl rfl (by decide) g79 rfl <| congrArg some ·.symm) (Pc.lt (hw.at_ (k := 0) rfl) g79 rfl).2 (by show 0 < ([-1, 2251799813685248, 2251799813685249] : List Int).length; simp) (fun i v hi => flat_row1 hw (q := 0) rfl hi)) ?_
     rintro ⟨pk, hpk⟩
     dsimp only [List.cons_append, List.nil_append]
     refine TL.v (gF arpfld34_4) ?_
     refine TL.pstore (k := 2) (vs := [.int .i64 pk]) rfl rfl rfl rfl rfl rfl rfl pcmsz3 aeaone_i64 (by show 7 ≤ 8; decide) rfl ?_
     refine zE (zN (zT (zSG (TL.v (gV 2 (.agg #[.int .i64 ((1 + k0 : Nat) : Int), .int .i64 ((trcR x31).v), .int .u32 ((trcR x31).dst), .int .i64 ((trcR x31).proto), .int .i64 x31.flow, .int .i64 0, .int .i64 pk, .int .i64 0]) aprag34 aprsz34) ?_))))
     refine TL.pstore (k := 3) (vs := [.int .i64 ((1 + k0 : Nat) : Int), .int .i64 ((trcR x31).v), .int .u32 ((trcR x31).dst), .int .i64 ((trcR x31).proto), .int .i64 x31.flow, .int .i64 0, .int .i64 pk, .int .i64 0]) rfl rfl rfl rfl rfl rfl rfl aprsz34 aseone_i64i64u32i64i64i64i64i64 (by show 8 ≤ 8; decide) rfl ?_
     refine zET (zr ?_)
     exact pm_ret_cell (k := 3) Tryz.results26 rfl rfl Tryz.underlying34 rfl rfl (fun w1 hw => ⟨⟨⟨((1 + k0 : Nat) : Int), (trcR x31).v, (trcR x31).dst, (trcR x31).proto, x31.flow, 0, pk, 0⟩, (by unfold Rp.Ok; dsimp only [trcR]; omega)⟩, rfl, hw.sel (.cons _ (.cons _ (.cons _ (.cons _ (.cons_cons _ (List.Sublist.refl _))))))⟩)
    refine TL.as_ ?_
    refine zET (zd (zk (zN (zT (zSG (TL.v (gV 1 (.agg #[.int .i64 ((1 + k0 : Nat) : Int), .int .i64 ((trcR x31).v), .int .u32 ((trcR x31).dst), .int .i64 ((trcR x31).proto), .int .i64 x31.flow, .int .i64 0, .int .i64 (IntKind.i64.wrap (x44.at_ + ((b : Nat) : Int))), .int .i64 0]) aprag34 aprsz34) ?_))))))
    refine TL.pstore (k := 2) (vs := [.int .i64 ((1 + k0 : Nat) : Int), .int .i64 ((trcR x31).v), .int .u32 ((trcR x31).dst), .int .i64 ((trcR x31).proto), .int .i64 x31.flow, .int .i64 0, .int .i64 (IntKind.i64.wrap (x44.at_ + ((b : Nat) : Int))), .int .i64 0]) rfl rfl rfl rfl rfl rfl rfl aprsz34 aseone_i64i64u32i64i64i64i64i64 (by show 8 ≤ 8; decide) rfl ?_
    refine zET (zr ?_)
    exact pm_ret_cell (k := 2) Tryz.results26 rfl rfl Tryz.underlying34 rfl rfl (fun w1 hw => ⟨⟨⟨((1 + k0 : Nat) : Int), (trcR x31).v, (trcR x31).dst, (trcR x31).proto, x31.flow, 0, IntKind.i64.wrap (x44.at_ + ((b : Nat) : Int)), 0⟩, (by unfold Rp.Ok; dsimp only [trcR]; omega)⟩, rfl, hw.sel (.cons _ (.cons _ (.cons _ (.cons_cons _ (List.Sublist.refl _)))))⟩)
   refine zET (zd (zk (zT (zS (zSG (TL.mv ?_))))))
   refine TL.pcallCod (k := 3) (α := {q9 : Nat // q9 ≤ 65535 ∧ (1 ≤ (12 : Int) → (q9 : Int) < 12)}) (fun q9 => .int .i64 ((q9.1 : Nat) : Int)) (fun q9 => []) rfl rfl rfl rfl rfl Tryz.func21 (by decide) rfl rfl (fun w1 hw hC1 => next_cod cb w1 12 hC1) ?_
   rintro ⟨sw, hsw1, hsw2⟩
   dsimp only [List.cons_append, List.nil_append]
   refine zET (zB (zSG ?_))
   refine TL.sp bin_eql (fun q65 => ?_) (fun q65 => ?_)
   ·refine TL.as_ ?_
    refine zET (zc (zG (TL.mv ?_)))
    refine TL.prowS (e := 3) (size := 1) (cs := flat (ic .i64) [0, 4, -1]) rfl rfl rfl rfl rfl (fun w => pcmbs106_3_44640 _ _ _ w) (by decide) rfl (fun g67 => ?_)
    refine TL.pcallCod (k := 4) (α := {v : Int // v ∈ ([0, 4, -1] : List Int)}) (fun x => .int .i64 x.1) (fun x => []) rfl rfl rfl rfl rfl Tryz.func22 (by decide) rfl rfl (fun w1 hw hC1 => pick_cod cb w1 hC1 g67 3 ([0, 4, -1]) (hw.neq (i := 0) (j := 4) rfl rfl (by decide) g67 rfl <| congrArg some ·.symm) (Pc.lt (hw.at_ (k := 0) rfl) g67 rfl).2 (by show 0 < ([0, 4, -1] : List Int).length; simp) (fun i v hi => flat_row1 hw (q := 0) rfl hi)) ?_
    rintro ⟨pk, hpk⟩
    dsimp only [List.cons_append, List.nil_append]
    refine TL.v (gF arpfld34_0) ?_
    refine TL.pstore (k := 2) (vs := [.int .i64 pk]) rfl rfl rfl rfl rfl rfl rfl pcmsz3 aeaone_i64 (by show 1 ≤ 8; decide) rfl ?_
    refine zE (zN (zT (zSG (TL.v (gV 2 (.agg #[.int .i64 pk, .int .i64 ((trcR x31).v), .int .u32 ((trcR x31).dst), .int .i64 ((trcR x31).proto), .int .i64 x31.flow, .int .i64 0, .int .i64 (IntKind.i64.wrap (x44.at_ + ((b : Nat) : Int))), .int .i64 ((1 + pv : Nat) : Int)]) aprag34 aprsz34) ?_))))
    refine TL.pstore (k := 3) (vs := [.int .i64 pk, .int .i64 ((trcR x31).v), .int .u32 ((trcR x31).dst), .int .i64 ((trcR x31).proto), .int .i64 x31.flow, .int .i64 0, .int .i64 (IntKind.i64.wrap (x44.at_ + ((b : Nat) : Int))), .int .i64 ((1 + pv : Nat) : Int)]) rfl rfl rfl rfl rfl rfl rfl aprsz34 aseone_i64i64u32i64i64i64i64i64 (by show 8 ≤ 8; decide) rfl ?_
    refine zET (zr ?_)
    exact pm_ret_cell (k := 3) Tryz.results26 rfl rfl Tryz.underlying34 rfl rfl (fun w1 hw => ⟨⟨⟨pk, (trcR x31).v, (trcR x31).dst, (trcR x31).proto, x31.flow, 0, IntKind.i64.wrap (x44.at_ + ((b : Nat) : Int)), ((1 + pv : Nat) : Int)⟩, (by unfold Rp.Ok; dsimp only [trcR]; omega)⟩, rfl, hw.sel (.cons _ (.cons _ (.cons _ (.cons _ (.cons_cons _ (List.Sublist.refl _))))))⟩)
   refine TL.as_ ?_
   refine zET (zd (zSG ?_))
   refine TL.sp bin_eql (fun q71 => ?_) (fun q71 => ?_)
   ·refine TL.as_ ?_
    refine zET (zc (zG (TL.mv ?_)))
    refine TL.prowS (e := 3) (size := 1) (cs := flat (ic .i64) [-1, 0, 1, 255, 256]) rfl rfl rfl rfl rfl (fun w => drpbs106_5_22075 _ _ _ _ _ w) (by decide) rfl (fun g73 => ?_)
    refine TL.pcallCod (k := 4) (α := {v : Int // v ∈ ([-1, 0, 1, 255, 256] : List Int)}) (fun x => .int .i64 x.1) (fun x => []) rfl rfl rfl rfl rfl Tryz.func22 (by decide) rfl rfl (fun w1 hw hC1 => pick_cod cb w1 hC1 g73 5 ([-1, 0, 1, 255, 256]) (hw.neq (i := 0) (j := 4) rfl rfl (by decide) g73 rfl <| congrArg some ·.symm) (Pc.lt (hw.at_ (k := 0) rfl) g73 rfl).2 (by show 0 < ([-1, 0, 1, 255, 256] : List Int).length; simp) (fun i v hi => flat_row1 hw (q := 0) rfl hi)) ?_
    rintro ⟨pk, hpk⟩
    dsimp only [List.cons_append, List.nil_append]
    refine TL.v (gF arpfld34_3) ?_
    refine TL.pstore (k := 2) (vs := [.int .i64 pk]) rfl rfl rfl rfl rfl rfl rfl pcmsz3 aeaone_i64 (by show 6 ≤ 8; decide) rfl ?_
    refine zE (zN (zT (zSG (TL.v (gV 2 (.agg #[.int .i64 ((1 + k0 : Nat) : Int), .int .i64 ((trcR x31).v), .int .u32 ((trcR x31).dst), .int .i64 ((trcR x31).proto), .int .i64 x31.flow, .int .i64 pk, .int .i64 (IntKind.i64.wrap (x44.at_ + ((b : Nat) : Int))), .int .i64 ((1 + pv : Nat) : Int)]) aprag34 aprsz34) ?_))))
    refine TL.pstore (k := 3) (vs := [.int .i64 ((1 + k0 : Nat) : Int), .int .i64 ((trcR x31).v), .int .u32 ((trcR x31).dst), .int .i64 ((trcR x31).proto), .int .i64 x31.flow, .int .i64 pk, .int .i64 (IntKind.i64.wrap (x44.at_ + ((b : Nat) : Int))), .int .i64 ((1 + pv : Nat) : Int)]) rfl rfl rfl rfl rfl rfl rfl aprsz34 aseone_i64i64u32i64i64i64i64i64 (by show 8 ≤ 8; decide) rfl ?_
    refine zET (zr ?_)
    exact pm_ret_cell (k := 3) Tryz.results26 rfl rfl Tryz.underlying34 rfl rfl (fun w1 hw => ⟨⟨⟨((1 + k0 : Nat) : Int), (trcR x31).v, (trcR x31).dst, (trcR x31).proto, x31.flow, pk, IntKind.i64.wrap (x44.at_ + ((b : Nat) : Int)), ((1 + pv : Nat) : Int)⟩, (by unfold Rp.Ok; dsimp only [trcR]; omega)⟩, rfl, hw.sel (.cons _ (.cons _ (.cons _ (.cons _ (.cons_cons _ (List.Sublist.refl _))))))⟩)
   refine TL.as_ ?_
   refine zET (zd (zSG ?_))
   refine TL.sp bin_eql (fun q77 => ?_) (fun q77 => ?_)
   ·refine TL.as_ ?_
    refine zET (zc (zG (TL.mv ?_)))
    refine TL.prowS (e := 3) (size := 1) (cs := flat (ic .i64) [-1, 2251799813685248, 2251799813685249]) rfl rfl rfl rfl rfl (fun w => pcmbs106_3_44640 _ _ _ w) (by decide) rfl (fun g79 => ?_)
    refine TL.pcallCod (k := 4) (α := {v : Int // v ∈ ([-1, 2251799813685248, 2251799813685249] : List Int)}) (fun x => .int .i64 x.1) (fun x => []) rfl rfl rfl rfl rfl Tryz.func22 (by decide) rfl rfl (fun w1 hw hC1 => pick_cod cb w1 hC1 g79 3 ([-1, 2251799813685248, 2251799813685249]) (hw.neq (i := 0) (j := 4) rfl rfl (by decide) g79 rfl <| congrArg some ·.symm) (Pc.lt (hw.at_ (k := 0) rfl) g79 rfl).2 (by show 0 < ([-1, 2251799813685248, 2251799813685249] : List Int).length; simp) (fun i v hi => flat_row1 hw (q := 0) rfl hi)) ?_
    rintro ⟨pk, hpk⟩
    dsimp only [List.cons_append, List.nil_append]
    refine TL.v (gF arpfld34_4) ?_
    refine TL.pstore (k := 2) (vs := [.int .i64 pk]) rfl rfl rfl rfl rfl rfl rfl pcmsz3 aeaone_i64 (by show 7 ≤ 8; decide) rfl ?_
    refine zE (zN (zT (zSG (TL.v (gV 2 (.agg #[.int .i64 ((1 + k0 : Nat) : Int), .int .i64 ((trcR x31).v), .int .u32 ((trcR x31).dst), .int .i64 ((trcR x31).proto), .int .i64 x31.flow, .int .i64 0, .int .i64 pk, .int .i64 ((1 + pv : Nat) : Int)]) aprag34 aprsz34) ?_))))
    refine TL.pstore (k := 3) (vs := [.int .i64 ((1 + k0 : Nat) : Int), .int .i64 ((trcR x31).v), .int .u32 ((trcR x31).dst), .int .i64 ((trcR x31).proto), .int .i64 x31.flow, .int .i64 0, .int .i64 pk, .int .i64 ((1 + pv : Nat) : Int)]) rfl rfl rfl rfl rfl rfl rfl aprsz34 aseone_i64i64u32i64i64i64i64i64 (by show 8 ≤ 8; decide) rfl ?_
    refine zET (zr ?_)
    exact pm_ret_cell (k := 3) Tryz.results26 rfl rfl Tryz.underlying34 rfl rfl (fun w1 hw => ⟨⟨⟨((1 + k0 : Nat) : Int), (trcR x31).v, (trcR x31).dst, (trcR x31).proto, x31.flow, 0, pk, ((1 + pv : Nat) : Int)⟩, (by unfold Rp.Ok; dsimp only [trcR]; omega)⟩, rfl, hw.sel (.cons _ (.cons _ (.cons _ (.cons _ (.cons_cons _ (List.Sublist.refl _))))))⟩)
   refine TL.as_ ?_
   refine zET (zd (zk (zN (zT (zSG (TL.v (gV 1 (.agg #[.int .i64 ((1 + k0 : Nat) : Int), .int .i64 ((trcR x31).v), .int .u32 ((trcR x31).dst), .int .i64 ((trcR x31).proto), .int .i64 x31.flow, .int .i64 0, .int .i64 (IntKind.i64.wrap (x44.at_ + ((b : Nat) : Int))), .int .i64 ((1 + pv : Nat) : Int)]) aprag34 aprsz34) ?_))))))
   refine TL.pstore (k := 2) (vs := [.int .i64 ((1 + k0 : Nat) : Int), .int .i64 ((trcR x31).v), .int .u32 ((trcR x31).dst), .int .i64 ((trcR x31).proto), .int .i64 x31.flow, .int .i64 0, .int .i64 (IntKind.i64.wrap (x44.at_ + ((b : Nat) : Int))), .int .i64 ((1 + pv : Nat) : Int)]) rfl rfl rfl rfl rfl rfl rfl aprsz34 aseone_i64i64u32i64i64i64i64i64 (by show 8 ≤ 8; decide) rfl ?_
   refine zET (zr ?_)
   exact pm_ret_cell (k := 2) Tryz.results26 rfl rfl Tryz.underlying34 rfl rfl (fun w1 hw => ⟨⟨⟨((1 + k0 : Nat) : Int), (trcR x31).v, (trcR x31).dst, (trcR x31).proto, x31.flow, 0, IntKind.i64.wrap (x44.at_ + ((b : Nat) : Int)), ((1 + pv : Nat) : Int)⟩, (by unfold Rp.Ok; dsimp only [trcR]; omega)⟩, rfl, hw.sel (.cons _ (.cons _ (.cons _ (.cons_cons _ (List.Sublist.refl _)))))⟩)
  refine zET (zd (zk (zT (zS (zSG (TL.v (gF arpfld34_0) ?_))))))
  refine TL.v (gL 1 pcmag3) ?_
  refine TL.sp bin_neq (fun q60 => ?_) (fun q60 => ?_)
  ·refine zET (zc (zG (TL.v (gF arpfld34_5) ?_)))
   refine TL.pstore (k := 1) (vs := [.int .i64 0]) rfl rfl rfl rfl rfl rfl rfl pcmsz3 aeaone_i64 (by show 8 ≤ 8; decide) rfl ?_
   refine zET (zS (zSG (TL.mv ?_)))
   refine TL.pcallCod (k := 3) (α := {q9 : Nat // q9 ≤ 65535 ∧ (1 ≤ (12 : Int) → (q9 : Int) < 12)}) (fun q9 => .int .i64 ((q9.1 : Nat) : Int)) (fun q9 => []) rfl rfl rfl rfl rfl Tryz.func21 (by decide) rfl rfl (fun w1 hw hC1 => next_cod cb w1 12 hC1) ?_
   rintro ⟨sw, hsw1, hsw2⟩
   dsimp only [List.cons_append, List.nil_append]
   refine zET (zB (zSG ?_))
   refine TL.sp bin_eql (fun q65 => ?_) (fun q65 => ?_)
   ·refine TL.as_ ?_
    refine zET (zc (zG (TL.mv ?_)))
    refine TL.prowS (e := 3) (size := 1) (cs := flat (ic .i64) [0, 4, -1]) rfl rfl rfl rfl rfl (fun w => pcmbs106_3_44640 _ _ _ w) (by decide) rfl (fun g67 => ?_)
    refine TL.pcallCod (k := 4) (α := {v : Int // v ∈ ([0, 4, -1] : List Int)}) (fun x => .int .i64 x.1) (fun x => []) rfl rfl rfl rfl rfl Tryz.func22 (by decide) rfl rfl (fun w1 hw hC1 => pick_cod cb w1 hC1 g67 3 ([0, 4, -1]) (hw.neq (i := 0) (j := 4) rfl rfl (by decide) g67 rfl <| congrArg some ·.symm) (Pc.lt (hw.at_ (k := 0) rfl) g67 rfl).2 (by show 0 < ([0, 4, -1] : List Int).length; simp) (fun i v hi => flat_row1 hw (q := 0) rfl hi)) ?_
    rintro ⟨pk, hpk⟩
    dsimp only [List.cons_append, List.nil_append]
    refine TL.v (gF arpfld34_0) ?_
    refine TL.pstore (k := 2) (vs := [.int .i64 pk]) rfl rfl rfl rfl rfl rfl rfl pcmsz3 aeaone_i64 (by show 1 ≤ 8; decide) rfl ?_
    refine zE (zN (zT (zSG (TL.v (gV 2 (.agg #[.int .i64 pk, .int .i64 ((trcR x31).v), .int .u32 ((trcR x31).dst), .int .i64 ((trcR x31).proto), .int .i64 x31.flow, .int .i64 x31.ttl, .int .i64 (IntKind.i64.wrap (x44.at_ + ((b : Nat) : Int))), .int .i64 0]) aprag34 aprsz34) ?_))))
    refine TL.pstore (k := 3) (vs := [.int .i64 pk, .int .i64 ((trcR x31).v), .int .u32 ((trcR x31).dst), .int .i64 ((trcR x31).proto), .int .i64 x31.flow, .int .i64 x31.ttl, .int .i64 (IntKind.i64.wrap (x44.at_ + ((b : Nat) : Int))), .int .i64 0]) rfl rfl rfl rfl rfl rfl rfl aprsz34 aseone_i64i64u32i64i64i64i64i64 (by show 8 ≤ 8; decide) rfl ?_
    refine zET (zr ?_)
    exact pm_ret_cell (k := 3) Tryz.results26 rfl rfl Tryz.underlying34 rfl rfl (fun w1 hw => ⟨⟨⟨pk, (trcR x31).v, (trcR x31).dst, (trcR x31).proto, x31.flow, x31.ttl, IntKind.i64.wrap (x44.at_ + ((b : Nat) : Int)), 0⟩, (by unfold Rp.Ok; dsimp only [trcR]; omega)⟩, rfl, hw.sel (.cons _ (.cons _ (.cons _ (.cons _ (.cons_cons _ (List.Sublist.refl _))))))⟩)
   refine TL.as_ ?_
   refine zET (zd (zSG ?_))
   refine TL.sp bin_eql (fun q71 => ?_) (fun q71 => ?_)
   ·refine TL.as_ ?_
    refine zET (zc (zG (TL.mv ?_)))
    refine TL.prowS (e := 3) (size := 1) (cs := flat (ic .i64) [-1, 0, 1, 255, 256]) rfl rfl rfl rfl rfl (fun w => drpbs106_5_22075 _ _ _ _ _ w) (by decide) rfl (fun g73 => ?_)
    refine TL.pcallCod (k := 4) (α := {v : Int // v ∈ ([-1, 0, 1, 255, 256] : List Int)}) (fun x => .int .i64 x.1) (fun x => []) rfl rfl rfl rfl rfl Tryz.func22 (by decide) rfl rfl (fun w1 hw hC1 => pick_cod cb w1 hC1 g73 5 ([-1, 0, 1, 255, 256]) (hw.neq (i := 0) (j := 4) rfl rfl (by decide) g73 rfl <| congrArg some ·.symm) (Pc.lt (hw.at_ (k := 0) rfl) g73 rfl).2 (by show 0 < ([-1, 0, 1, 255, 256] : List Int).length; simp) (fun i v hi => flat_row1 hw (q := 0) rfl hi)) ?_
    rintro ⟨pk, hpk⟩
    dsimp only [List.cons_append, List.nil_append]
    refine TL.v (gF arpfld34_3) ?_
    refine TL.pstore (k := 2) (vs := [.int .i64 pk]) rfl rfl rfl rfl rfl rfl rfl pcmsz3 aeaone_i64 (by show 6 ≤ 8; decide) rfl ?_
    refine zE (zN (zT (zSG (TL.v (gV 2 (.agg #[.int .i64 ((1 + k0 : Nat) : Int), .int .i64 ((trcR x31).v), .int .u32 ((trcR x31).dst), .int .i64 ((trcR x31).proto), .int .i64 x31.flow, .int .i64 pk, .int .i64 (IntKind.i64.wrap (x44.at_ + ((b : Nat) : Int))), .int .i64 0]) aprag34 aprsz34) ?_))))
    refine TL.pstore (k := 3) (vs := [.int .i64 ((1 + k0 : Nat) : Int), .int .i64 ((trcR x31).v), .int .u32 ((trcR x31).dst), .int .i64 ((trcR x31).proto), .int .i64 x31.flow, .int .i64 pk, .int .i64 (IntKind.i64.wrap (x44.at_ + ((b : Nat) : Int))), .int .i64 0]) rfl rfl rfl rfl rfl rfl rfl aprsz34 aseone_i64i64u32i64i64i64i64i64 (by show 8 ≤ 8; decide) rfl ?_
    refine zET (zr ?_)
    exact pm_ret_cell (k := 3) Tryz.results26 rfl rfl Tryz.underlying34 rfl rfl (fun w1 hw => ⟨⟨⟨((1 + k0 : Nat) : Int), (trcR x31).v, (trcR x31).dst, (trcR x31).proto, x31.flow, pk, IntKind.i64.wrap (x44.at_ + ((b : Nat) : Int)), 0⟩, (by unfold Rp.Ok; dsimp only [trcR]; omega)⟩, rfl, hw.sel (.cons _ (.cons _ (.cons _ (.cons _ (.cons_cons _ (List.Sublist.refl _))))))⟩)
   refine TL.as_ ?_
   refine zET (zd (zSG ?_))
   refine TL.sp bin_eql (fun q77 => ?_) (fun q77 => ?_)
   ·refine TL.as_ ?_
    refine zET (zc (zG (TL.mv ?_)))
    refine TL.prowS (e := 3) (size := 1) (cs := flat (ic .i64) [-1, 2251799813685248, 2251799813685249]) rfl rfl rfl rfl rfl (fun w => pcmbs106_3_44640 _ _ _ w) (by decide) rfl (fun g79 => ?_)
    refine TL.pcallCod (k := 4) (α := {v : Int // v ∈ ([-1, 2251799813685248, 2251799813685249] : List Int)}) (fun x => .int .i64 x.1) (fun x => []) rfl rfl rfl rfl rfl Tryz.func22 (by decide) rfl rfl (fun w1 hw hC1 => pick_cod cb w1 hC1 g79 3 ([-1, 2251799813685248, 2251799813685249]) (hw.neq (i := 0) (j := 4) rfl rfl (by decide) g79 rfl <| congrArg some ·.symm) (Pc.lt (hw.at_ (k := 0) rfl) g79 rfl).2 (by show 0 < ([-1, 2251799813685248, 2251799813685249] : List Int).length; simp) (fun i v hi => flat_row1 hw (q := 0) rfl hi)) ?_
    rintro ⟨pk, hpk⟩
    dsimp only [List.cons_append, List.nil_append]
    refine TL.v (gF arpfld34_4) ?_
    refine TL.pstore (k := 2) (vs := [.int .i64 pk]) rfl rfl rfl rfl rfl rfl rfl pcmsz3 aeaone_i64 (by show 7 ≤ 8; decide) rfl ?_
    refine zE (zN (zT (zSG (TL.v (gV 2 (.agg #[.int .i64 ((1 + k0 : Nat) : Int), .int .i64 ((trcR x31).v), .int .u32 ((trcR x31).dst), .int .i64 ((trcR x31).proto), .int .i64 x31.flow, .int .i64 x31.ttl, .int .i64 pk, .int .i64 0]) aprag34 aprsz34) ?_))))
    refine TL.pstore (k := 3) (vs := [.int .i64 ((1 + k0 : Nat) : Int), .int .i64 ((trcR x31).v), .int .u32 ((trcR x31).dst), .int .i64 ((trcR x31).proto), .int .i64 x31.flow, .int .i64 x31.ttl, .int .i64 pk, .int .i64 0]) rfl rfl rfl rfl rfl rfl rfl aprsz34 aseone_i64i64u32i64i64i64i64i64 (by show 8 ≤ 8; decide) rfl ?_
    refine zET (zr ?_)
    exact pm_ret_cell (k := 3) Tryz.results26 rfl rfl Tryz.underlying34 rfl rfl (fun w1 hw => ⟨⟨⟨((1 + k0 : Nat) : Int), (trcR x31).v, (trcR x31).dst, (trcR x31).proto, x31.flow, x31.ttl, pk, 0⟩, (by unfold Rp.Ok; dsimp only [trcR]; omega)⟩, rfl, hw.sel (.cons _ (.cons _ (.cons _ (.cons _ (.cons_cons _ (List.Sublist.refl _))))))⟩)
   refine TL.as_ ?_
   refine zET (zd (zk (zN (zT (zSG (TL.v (gV 1 (.agg #[.int .i64 ((1 + k0 : Nat) : Int), .int .i64 ((trcR x31).v), .int .u32 ((trcR x31).dst), .int .i64 ((trcR x31).proto), .int .i64 x31.flow, .int .i64 x31.ttl, .int .i64 (IntKind.i64.wrap (x44.at_ + ((b : Nat) : Int))), .int .i64 0]) aprag34 aprsz34) ?_))))))
   refine TL.pstore (k := 2) (vs := [.int .i64 ((1 + k0 : Nat) : Int), .int .i64 ((trcR x31).v), .int .u32 ((trcR x31).dst), .int .i64 ((trcR x31).proto), .int .i64 x31.flow, .int .i64 x31.ttl, .int .i64 (IntKind.i64.wrap (x44.at_ + ((b : Nat) : Int))), .int .i64 0]) rfl rfl rfl rfl rfl rfl rfl aprsz34 aseone_i64i64u32i64i64i64i64i64 (by show 8 ≤ 8; decide) rfl ?_
   refine zET (zr ?_)
   exact pm_ret_cell (k := 2) Tryz.results26 rfl rfl Tryz.underlying34 rfl rfl (fun w1 hw => ⟨⟨⟨((1 + k0 : Nat) : Int), (trcR x31).v, (trcR x31).dst, (trcR x31).proto, x31.flow, x31.ttl, IntKind.i64.wrap (x44.at_ + ((b : Nat) : Int)), 0⟩, (by unfold Rp.Ok; dsimp only [trcR]; omega)⟩, rfl, hw.sel (.cons _ (.cons _ (.cons _ (.cons_cons _ (List.Sublist.refl _)))))⟩)
  refine zET (zd (zk (zT (zS (zSG (TL.mv ?_))))))
  refine TL.pcallCod (k := 3) (α := {q9 : Nat // q9 ≤ 65535 ∧ (1 ≤ (12 : Int) → (q9 : Int) < 12)}) (fun q9 => .int .i64 ((q9.1 : Nat) : Int)) (fun q9 => []) rfl rfl rfl rfl rfl Tryz.func21 (by decide) rfl rfl (fun w1 hw hC1 => next_cod cb w1 12 hC1) ?_
  rintro ⟨sw, hsw1, hsw2⟩
  dsimp only [List.cons_append, List.nil_append]
  refine zET (zB (zSG ?_))
  refine TL.sp bin_eql (fun q65 => ?_) (fun q65 => ?_)
  ·refine TL.as_ ?_
   refine zET (zc (zG (TL.mv ?_)))
   refine TL.prowS (e := 3) (size := 1) (cs := flat (ic .i64) [0, 4, -1]) rfl rfl rfl rfl rfl (fun w => pcmbs106_3_44640 _ _ _ w) (by decide) rfl (fun g67 => ?_)
   refine TL.pcallCod (k := 4) (α := {v : Int // v ∈ ([0, 4, -1] : List Int)}) (fun x => .int .i64 x.1) (fun x => []) rfl rfl rfl rfl rfl Tryz.func22 (by decide) rfl rfl (fun w1 hw hC1 => pick_cod cb w1 hC1 g67 3 ([0, 4, -1]) (hw.neq (i := 0) (j := 4) rfl rfl (by decide) g67 rfl <| congrArg some ·.symm) (Pc.lt (hw.at_ (k := 0) rfl) g67 rfl).2 (by show 0 < ([0, 4, -1] : List Int).length; simp) (fun i v hi => flat_row1 hw (q := 0) rfl hi)) ?_
   rintro ⟨pk, hpk⟩
   dsimp only [List.cons_append, List.nil_append]
   refine TL.v (gF arpfld34_0) ?_
   refine TL.pstore (k := 2) (vs := [.int .i64 pk]) rfl rfl rfl rfl rfl rfl rfl pcmsz3 aeaone_i64 (by show 1 ≤ 8; decide) rfl ?_
   refine zE (zN (zT (zSG (TL.v (gV 2 (.agg #[.int .i64 pk, .int .i64 ((trcR x31).v), .int .u32 ((trcR x31).dst), .int .i64 ((trcR x31).proto), .int .i64 x31.flow, .int .i64 x31.ttl, .int .i64 (IntKind.i64.wrap (x44.at_ + ((b : Nat) : Int))), .int .i64 ((1 + pv : Nat) : Int)]) aprag34 aprsz34) ?_))))
   refine TL.pstore (k := 3) (vs := [.int .i64 pk, .int .i64 ((trcR x31).v), .int .u32 ((trcR x31).dst), .int .i64 ((trcR x31).proto), .int .i64 x31.flow, .int .i64 x31.ttl, .int .i64 (IntKind.i64.wrap (x44.at_ + ((b : Nat) : Int))), .int .i64 ((1 + pv : Nat) : Int)]) rfl rfl rfl rfl rfl rfl rfl aprsz34 aseone_i64i64u32i64i64i64i64i64 (by show 8 ≤ 8; decide) rfl ?_
   refine zET (zr ?_)
   exact pm_ret_cell (k := 3) Tryz.results26 rfl rfl Tryz.underlying34 rfl rfl (fun w1 hw => ⟨⟨⟨pk, (trcR x31).v, (trcR x31).dst, (trcR x31).proto, x31.flow, x31.ttl, IntKind.i64.wrap (x44.at_ + ((b : Nat) : Int)), ((1 + pv : Nat) : Int)⟩, (by unfold Rp.Ok; dsimp only [trcR]; omega)⟩, rfl, hw.sel (.cons _ (.cons _ (.cons _ (.cons _ (.cons_cons _ (List.Sublist.refl _))))))⟩)
  refine TL.as_ ?_
  refine zET (zd (zSG ?_))
  refine TL.sp bin_eql (fun q71 => ?_) (fun q71 => ?_)
  ·refine TL.as_ ?_
   refine zET (zc (zG (TL.mv ?_)))
   refine TL.prowS (e := 3) (size := 1) (cs := flat (ic .i64) [-1, 0, 1, 255, 256]) rfl rfl rfl rfl rfl (fun w => drpbs106_5_22075 _ _ _ _ _ w) (by decide) rfl (fun g73 => ?_)
   refine TL.pcallCod (k := 4) (α := {v : Int // v ∈ ([-1, 0, 1, 255, 256] : List Int)}) (fun x => .int .i64 x.1) (fun x => []) rfl rfl rfl rfl rfl Tryz.func22 (by decide) rfl rfl (fun w1 hw hC1 => pick_cod cb w1 hC1 g73 5 ([-1, 0, 1, 255, 256]) (hw.neq (i := 0) (j := 4) rfl rfl (by decide) g73 rfl <| congrArg some ·.symm) (Pc.lt (hw.at_ (k := 0) rfl) g73 rfl).2 (by show 0 < ([-1, 0, 1, 255, 256] : List Int).length; simp) (fun i v hi => flat_row1 hw (q := 0) rfl hi)) ?_
   rintro ⟨pk, hpk⟩
   dsimp only [List.cons_append, List.nil_append]
   refine TL.v (gF arpfld34_3) ?_
   refine TL.pstore (k := 2) (vs := [.int .i64 pk]) rfl rfl rfl rfl rfl rfl rfl pcmsz3 aeaone_i64 (by show 6 ≤ 8; decide) rfl ?_
   refine zE (zN (zT (zSG (TL.v (gV 2 (.agg #[.int .i64 ((1 + k0 : Nat) : Int), .int .i64 ((trcR x31).v), .int .u32 ((trcR x31).dst), .int .i64 ((trcR x31).proto), .int .i64 x31.flow, .int .i64 pk, .int .i64 (IntKind.i64.wrap (x44.at_ + ((b : Nat) : Int))), .int .i64 ((1 + pv : Nat) : Int)]) aprag34 aprsz34) ?_))))
   refine TL.pstore (k := 3) (vs := [.int .i64 ((1 + k0 : Nat) : Int), .int .i64 ((trcR x31).v), .int .u32 ((trcR x31).dst), .int .i64 ((trcR x31).proto), .int .i64 x31.flow, .int .i64 pk, .int .i64 (IntKind.i64.wrap (x44.at_ + ((b : Nat) : Int))), .int .i64 ((1 + pv : Nat) : Int)]) rfl rfl rfl rfl rfl rfl rfl aprsz34 aseone_i64i64u32i64i64i64i64i64 (by show 8 ≤ 8; decide) rfl ?_
   refine zET (zr ?_)
   exact pm_ret_cell (k := 3) Tryz.results26 rfl rfl Tryz.underlying34 rfl rfl (fun w1 hw => ⟨⟨⟨((1 + k0 : Nat) : Int), (trcR x31).v, (trcR x31).dst, (trcR x31).proto, x31.flow, pk, IntKind.i64.wrap (x44.at_ + ((b : Nat) : Int)), ((1 + pv : Nat) : Int)⟩, (by unfold Rp.Ok; dsimp only [trcR]; omega)⟩, rfl, hw.sel (.cons _ (.cons _ (.cons _ (.cons _ (.cons_cons _ (List.Sublist.refl _))))))⟩)
  refine TL.as_ ?_
  refine zET (zd (zSG ?_))
  refine TL.sp bin_eql (fun q77 => ?_) (fun q77 => ?_)
  ·refine TL.as_ ?_
   refine zET (zc (zG (TL.mv ?_)))
   refine TL.prowS (e := 3) (size := 1) (cs := flat (ic .i64) [-1, 2251799813685248, 2251799813685249]) rfl rfl rfl rfl rfl (fun w => pcmbs106_3_44640 _ _ _ w) (by decide) rfl (fun g79 => ?_)
   refine TL.pcallCod (k := 4) (α := {v : Int // v ∈ ([-1, 2251799813685248, 2251799813685249] : List Int)}) (fun x => .int .i64 x.1) (fun x => []) rfl rfl rfl rfl rfl Tryz.func22 (by decide) rfl rfl (fun w1 hw hC1 => pick_cod cb w1 hC1 g79 3 ([-1, 2251799813685248, 2251799813685249]) (hw.neq (i := 0) (j := 4) rfl rfl (by decide) g79 rfl <| congrArg some ·.symm) (Pc.lt (hw.at_ (k := 0) rfl) g79 rfl).2 (by show 0 < ([-1, 2251799813685248, 2251799813685249] : List Int).length; simp) (fun i v hi => flat_row1 hw (q := 0) rfl hi)) ?_
   rintro ⟨pk, hpk⟩
   dsimp only [List.cons_append, List.nil_append]
   refine TL.v (gF arpfld34_4) ?_
   refine TL.pstore (k := 2) (vs := [.int .i64 pk]) rfl rfl rfl rfl rfl rfl rfl pcmsz3 aeaone_i64 (by show 7 ≤ 8; decide) rfl ?_
   refine zE (zN (zT (zSG (TL.v (gV 2 (.agg #[.int .i64 ((1 + k0 : Nat) : Int), .int .i64 ((trcR x31).v), .int .u32 ((trcR x31).dst), .int .i64 ((trcR x31).proto), .int .i64 x31.flow, .int .i64 x31.ttl, .int .i64 pk, .int .i64 ((1 + pv : Nat) : Int)]) aprag34 aprsz34) ?_))))
   refine TL.pstore (k := 3) (vs := [.int .i64 ((1 + k0 : Nat) : Int), .int .i64 ((trcR x31).v), .int .u32 ((trcR x31).dst), .int .i64 ((trcR x31).proto), .int .i64 x31.flow, .int .i64 x31.ttl, .int .i64 pk, .int .i64 ((1 + pv : Nat) : Int)]) rfl rfl rfl rfl rfl rfl rfl aprsz34 aseone_i64i64u32i64i64i64i64i64 (by show 8 ≤ 8; decide) rfl ?_
   refine zET (zr ?_)
   exact pm_ret_cell (k := 3) Tryz.results26 rfl rfl Tryz.underlying34 rfl rfl (fun w1 hw => ⟨⟨⟨((1 + k0 : Nat) : Int), (trcR x31).v, (trcR x31).dst, (trcR x31).proto, x31.flow, x31.ttl, pk, ((1 + pv : Nat) : Int)⟩, (by unfold Rp.Ok; dsimp only [trcR]; omega)⟩, rfl, hw.sel (.cons _ (.cons _ (.cons _ (.cons _ (.cons_cons _ (List.Sublist.refl _))))))⟩)
  refine TL.as_ ?_
  refine zET (zd (zk (zN (zT (zSG (TL.v (gV 1 (.agg #[.int .i64 ((1 + k0 : Nat) : Int), .int .i64 ((trcR x31).v), .int .u32 ((trcR x31).dst), .int .i64 ((trcR x31).proto), .int .i64 x31.flow, .int .i64 x31.ttl, .int .i64 (IntKind.i64.wrap (x44.at_ + ((b : Nat) : Int))), .int .i64 ((1 + pv : Nat) : Int)]) aprag34 aprsz34) ?_))))))
  refine TL.pstore (k := 2) (vs := [.int .i64 ((1 + k0 : Nat) : Int), .int .i64 ((trcR x31).v), .int .u32 ((trcR x31).dst), .int .i64 ((trcR x31).proto), .int .i64 x31.flow, .int .i64 x31.ttl, .int .i64 (IntKind.i64.wrap (x44.at_ + ((b : Nat) : Int))), .int .i64 ((1 + pv : Nat) : Int)]) rfl rfl rfl rfl rfl rfl rfl aprsz34 aseone_i64i64u32i64i64i64i64i64 (by show 8 ≤ 8; decide) rfl ?_
  refine zET (zr ?_)
  exact pm_ret_cell (k := 2) Tryz.results26 rfl rfl Tryz.underlying34 rfl rfl (fun w1 hw => ⟨⟨⟨((1 + k0 : Nat) : Int), (trcR x31).v, (trcR x31).dst, (trcR x31).proto, x31.flow, x31.ttl, IntKind.i64.wrap (x44.at_ + ((b : Nat) : Int)), ((1 + pv : Nat) : Int)⟩, (by unfold Rp.Ok; dsimp only [trcR]; omega)⟩, rfl, hw.sel (.cons _ (.cons _ (.cons _ (.cons_cons _ (List.Sublist.refl _)))))⟩)
 refine zET (zd (zk (zT (zS (zSG (TL.v (gF arpfld34_0) ?_))))))
 refine TL.v (gL 0 pcmag3) ?_
 refine TL.sp bin_eql (fun q56 => ?_) (fun q56 => ?_)
 ·refine zET (zc (zG (TL.v (gF arpfld34_3) ?_)))
  refine TL.pstore (k := 0) (vs := [.int .i64 0]) rfl rfl rfl rfl rfl rfl rfl pcmsz3 aeaone_i64 (by show 6 ≤ 8; decide) rfl ?_
  refine zET (zS (zSG (TL.v (gF arpfld34_0) ?_)))
  refine TL.v (gL 0 pcmag3) ?_
  refine TL.sp bin_neq (fun q60 => ?_) (fun q60 => ?_)
  ·refine zET (zc (zG (TL.v (gF arpfld34_5) ?_)))
   refine TL.pstore (k := 0) (vs := [.int .i64 0]) rfl rfl rfl rfl rfl rfl rfl pcmsz3 aeaone_i64 (by show 8 ≤ 8; decide) rfl ?_
   refine zET (zS (zSG (TL.mv ?_)))
   refine TL.pcallCod (k := 2) (α := {q9 : Nat // q9 ≤ 65535 ∧ (1 ≤ (12 : Int) → (q9 : Int) < 12)}) (fun q9 => .int .i64 ((q9.1 : Nat) : Int)) (fun q9 => []) rfl rfl rfl rfl rfl Tryz.func21 (by decide) rfl rfl (fun w1 hw hC1 => next_cod cb w1 12 hC1) ?_
   rintro ⟨sw, hsw1, hsw2⟩
   dsimp only [List.cons_append, List.nil_append]
   refine zET (zB (zSG ?_))
   refine TL.sp bin_eql (fun q65 => ?_) (fun q65 => ?_)
   ·refine TL.as_ ?_
    refine zET (zc (zG (TL.mv ?_)))
    refine TL.prowS (e := 3) (size := 1) (cs := flat (ic .i64) [0, 4, -1]) rfl rfl rfl rfl rfl (fun w => pcmbs106_3_44640 _ _ _ w) (by decide) rfl (fun g67 => ?_)
    refine TL.pcallCod (k := 3) (α := {v : Int // v ∈ ([0, 4, -1] : List Int)}) (fun x => .int .i64 x.1) (fun x => []) rfl rfl rfl rfl rfl Tryz.func22 (by decide) rfl rfl (fun w1 hw hC1 => pick_cod cb w1 hC1 g67 3 ([0, 4, -1]) (hw.neq (i := 0) (j := 3) rfl rfl (by decide) g67 rfl <| congrArg some ·.symm) (Pc.lt (hw.at_ (k := 0) rfl) g67 rfl).2 (by show 0 < ([0, 4, -1] : List Int).length; simp) (fun i v hi => flat_row1 hw (q := 0) rfl hi)) ?_
    rintro ⟨pk, hpk⟩
    dsimp only [List.cons_append, List.nil_append]
    refine TL.v (gF arpfld34_0) ?_
    refine TL.pstore (k := 1) (vs := [.int .i64 pk]) rfl rfl rfl rfl rfl rfl rfl pcmsz3 aeaone_i64 (by show 1 ≤ 8; decide) rfl ?_
    refine zE (zN (zT (zSG (TL.v (gV 1 (.agg #[.int .i64 pk, .int .i64 tr.v, .int .u32 tr.dst, .int .i64 tr.proto, .int .i64 ((fl : Nat) : Int), .int .i64 0, .int .i64 ((at0 : Nat) : Int), .int .i64 0]) aprag34 aprsz34) ?_))))
    refine TL.pstore (k := 2) (vs := [.int .i64 pk, .int .i64 tr.v, .int .u32 tr.dst, .int .i64 tr.proto, .int .i64 ((fl : Nat) : Int), .int .i64 0, .int .i64 ((at0 : Nat) : Int), .int .i64 0]) rfl rfl rfl rfl rfl rfl rfl aprsz34 aseone_i64i64u32i64i64i64i64i64 (by show 8 ≤ 8; decide) rfl ?_
    refine zET (zr ?_)
    exact pm_ret_cell (k := 2) Tryz.results26 rfl rfl Tryz.underlying34 rfl rfl (fun w1 hw => ⟨⟨⟨pk, tr.v, tr.dst, tr.proto, ((fl : Nat) : Int), 0, ((at0 : Nat) : Int), 0⟩, (by unfold Rp.Ok; dsimp only [trcR]; omega)⟩, rfl, hw.sel (.cons _ (.cons _ (.cons _ (.cons_cons _ (List.Sublist.refl _)))))⟩)
   refine TL.as_ ?_
   refine zET (zd (zSG ?_))
   refine TL.sp bin_eql (fun q71 => ?_) (fun q71 => ?_)
   ·refine TL.as_ ?_
    refine zET (zc (zG (TL.mv ?_)))
    refine TL.prowS (e := 3) (size := 1) (cs := flat (ic .i64) [-1, 0, 1, 255, 256]) rfl rfl rfl rfl rfl (fun w => drpbs106_5_22075 _ _ _ _ _ w) (by decide) rfl (fun g73 => ?_)
    refine TL.pcallCod (k := 3) (α := {v : Int // v ∈ ([-1, 0, 1, 255, 256] : List Int)}) (fun x => .int .i64 x.1) (fun x => []) rfl rfl rfl rfl rfl Tryz.func22 (by decide) rfl rfl (fun w1 hw hC1 => pick_cod cb w1 hC1 g73 5 ([-1, 0, 1, 255, 256]) (hw.neq (i := 0) (j := 3) rfl rfl (by decide) g73 rfl <| congrArg some ·.symm) (Pc.lt (hw.at_ (k := 0) rfl) g73 rfl).2 (by show 0 < ([-1, 0, 1, 255, 256] : List Int).length; simp) (fun i v hi => flat_row1 hw (q := 0) rfl hi)) ?_
    rintro ⟨pk, hpk⟩
    dsimp only [List.cons_append, List.nil_append]
    refine TL.v (gF arpfld34_3) ?_
    refine TL.pstore (k := 1) (vs := [.int .i64 pk]) rfl rfl rfl rfl rfl rfl rfl pcmsz3 aeaone_i64 (by show 6 ≤ 8; decide) rfl ?_
    refine zE (zN (zT (zSG (TL.v (gV 1 (.agg #[.int .i64 ((1 + k0 : Nat) : Int), .int .i64 tr.v, .int .u32 tr.dst, .int .i64 tr.proto, .int .i64 ((fl : Nat) : Int), .int .i64 pk, .int .i64 ((at0 : Nat) : Int), .int .i64 0]) aprag34 aprsz34) ?_))))
    refine TL.pstore (k := 2) (vs := [.int .i64 ((1 + k0 : Nat) : Int), .int .i64 tr.v, .int .u32 tr.dst, .int .i64 tr.proto, .int .i64 ((fl : Nat) : Int), .int .i64 pk, .int .i64 ((at0 : Nat) : Int), .int .i64 0]) rfl rfl rfl rfl rfl rfl rfl aprsz34 aseone_i64i64u32i64i64i64i64i64 (by show 8 ≤ 8; decide) rfl ?_
    refine zET (zr ?_)
    exact pm_ret_cell (k := 2) Tryz.results26 rfl rfl Tryz.underlying34 rfl rfl (fun w1 hw => ⟨⟨⟨((1 + k0 : Nat) : Int), tr.v, tr.dst, tr.proto, ((fl : Nat) : Int), pk, ((at0 : Nat) : Int), 0⟩, (by unfold Rp.Ok; dsimp only [trcR]; omega)⟩, rfl, hw.sel (.cons _ (.cons _ (.cons _ (.cons_cons _ (List.Sublist.refl _)))))⟩)
   refine TL.as_ ?_
   refine zET (zd (zSG ?_))
   refine TL.sp bin_eql (fun q77 => ?_) (fun q77 => ?_)
   ·refine TL.as_ ?_
    refine zET (zc (zG (TL.mv ?_)))
    refine TL.prowS (e := 3) (size := 1) (cs := flat (ic .i64) [-1, 2251799813685248, 2251799813685249]) rfl rfl rfl rfl rfl (fun w => pcmbs106_3_44640 _ _ _ w) (by decide) rfl (fun g79 => ?_)
    refine TL.pcallCod (k := 3) (α := {v : Int // v ∈ ([-1, 2251799813685248, 2251799813685249] : List Int)}) (fun x => .int .i64 x.1) (fun x => []) rfl rfl rfl rfl rfl Tryz.func22 (by decide) rfl rfl (fun w1 hw hC1 => pick_cod cb w1 hC1 g79 3 ([-1, 2251799813685248, 2251799813685249]) (hw.neq (i := 0) (j := 3) rfl rfl (by decide) g79 rfl <| congrArg some ·.symm) (Pc.lt (hw.at_ (k := 0) rfl) g79 rfl).2 (by show 0 < ([-1, 2251799813685248, 2251799813685249] : List Int).length; simp) (fun i v hi => flat_row1 hw (q := 0) rfl hi)) ?_
    rintro ⟨pk, hpk⟩
    dsimp only [List.cons_append, List.nil_append]
    refine TL.v (gF arpfld34_4) ?_
    refine TL.pstore (k := 1) (vs := [.int .i64 pk]) rfl rfl rfl rfl rfl rfl rfl pcmsz3 aeaone_i64 (by show 7 ≤ 8; decide) rfl ?_
    refine zE (zN (zT (zSG (TL.v (gV 1 (.agg #[.int .i64 ((1 + k0 : Nat) : Int), .int .i64 tr.v, .int .u32 tr.dst, .int .i64 tr.proto, .int .i64 ((fl : Nat) : Int), .int .i64 0, .int .i64 pk, .int .i64 0]) aprag34 aprsz34) ?_))))
    refine TL.pstore (k := 2) (vs := [.int .i64 ((1 + k0 : Nat) : Int), .int .i64 tr.v, .int .u32 tr.dst, .int .i64 tr.proto, .int .i64 ((fl : Nat) : Int), .int .i64 0, .int .i64 pk, .int .i64 0]) rfl rfl rfl rfl rfl rfl rfl aprsz34 aseone_i64i64u32i64i64i64i64i64 (by show 8 ≤ 8; decide) rfl ?_
    refine zET (zr ?_)
    exact pm_ret_cell (k := 2) Tryz.results26 rfl rfl Tryz.underlying34 rfl rfl (fun w1 hw => ⟨⟨⟨((1 + k0 : Nat) : Int), tr.v, tr.dst, tr.proto, ((fl : Nat) : Int), 0, pk, 0⟩, (by unfold Rp.Ok; dsimp only [trcR]; omega)⟩, rfl, hw.sel (.cons _ (.cons _ (.cons _ (.cons_cons _ (List.Sublist.refl _)))))⟩)
   refine TL.as_ ?_
   refine zET (zd (zk (zN (zT (zSG (TL.v (gV 0 (.agg #[.int .i64 ((1 + k0 : Nat) : Int), .int .i64 tr.v, .int .u32 tr.dst, .int .i64 tr.proto, .int .i64 ((fl : Nat) : Int), .int .i64 0, .int .i64 ((at0 : Nat) : Int), .int .i64 0]) aprag34 aprsz34) ?_))))))
   refine TL.pstore (k := 1) (vs := [.int .i64 ((1 + k0 : Nat) : Int), .int .i64 tr.v, .int .u32 tr.dst, .int .i64 tr.proto, .int .i64 ((fl : Nat) : Int), .int .i64 0, .int .i64 ((at0 : Nat) : Int), .int .i64 0]) rfl rfl rfl rfl rfl rfl rfl aprsz34 aseone_i64i64u32i64i64i64i64i64 (by show 8 ≤ 8; decide) rfl ?_
   refine zET (zr ?_)
   exact pm_ret_cell (k := 1) Tryz.results26 rfl rfl Tryz.underlying34 rfl rfl (fun w1 hw => ⟨⟨⟨((1 + k0 : Nat) : Int), tr.v, tr.dst, tr.proto, ((fl : Nat) : Int), 0, ((at0 : Nat) : Int), 0⟩, (by unfold Rp.Ok; dsimp only [trcR]; omega)⟩, rfl, hw.sel (.cons _ (.cons _ (.cons_cons _ (List.Sublist.refl _))))⟩)
  refine zET (zd (zk (zT (zS (zSG (TL.mv ?_))))))
  refine TL.pcallCod (k := 2) (α := {q9 : Nat // q9 ≤ 65535 ∧ (1 ≤ (12 : Int) → (q9 : Int) < 12)}) (fun q9 => .int .i64 ((q9.1 : Nat) : Int)) (fun q9 => []) rfl rfl rfl rfl rfl Tryz.func21 (by decide) rfl rfl (fun w1 hw hC1 => next_cod cb w1 12 hC1) ?_
  rintro ⟨sw, hsw1, hsw2⟩
  dsimp only [List.cons_append, List.nil_append]
  refine zET (zB (zSG ?_))
  refine TL.sp bin_eql (fun q65 => ?_) (fun q65 => ?_)
  ·refine TL.as_ ?_
   refine zET (zc (zG (TL.mv ?_)))
   refine TL.prowS (e := 3) (size := 1) (cs := flat (ic .i64) [0, 4, -1]) rfl rfl rfl rfl rfl (fun w => pcmbs106_3_44640 _ _ _ w) (by decide) rfl (fun g67 => ?_)
   refine TL.pcallCod (k := 3) (α := {v : Int // v ∈ ([0, 4, -1] : List Int)}) (fun x => .int .i64 x.1) (fun x => []) rfl rfl rfl rfl rfl Tryz.func22 (by decide) rfl rfl (fun w1 hw hC1 => pick_cod cb w1 hC1 g67 3 ([0, 4, -1]) (hw.neq (i := 0) (j := 3) rfl rfl (by decide) g67 rfl <| congrArg some ·.symm) (Pc.lt (hw.at_ (k := 0) rfl) g67 rfl).2 (by show 0 < ([0, 4, -1] : List Int).length; simp) (fun i v hi => flat_row1 hw (q := 0) rfl hi)) ?_
   rintro ⟨pk, hpk⟩
   dsimp only [List.cons_append, List.nil_append]
   refine TL.v (gF arpfld34_0) ?_
   refine TL.pstore (k := 1) (vs := [.int .i64 pk]) rfl rfl rfl rfl rfl rfl rfl pcmsz3 aeaone_i64 (by show 1 ≤ 8; decide) rfl ?_
   refine zE (zN (zT (zSG (TL.v (gV 1 (.agg #[.int .i64 pk, .int .i64 tr.v, .int .u32 tr.dst, .int .i64 tr.proto, .int .i64 ((fl : Nat) : Int), .int .i64 0, .int .i64 ((at0 : Nat) : Int), .int .i64 ((1 + pv : Nat) : Int)]) aprag34 aprsz34) ?_))))
   refine TL.pstore (k := 2) (vs := [.int .i64 pk, .int .i64 tr.v, .int .u32 tr.dst, .int .i64 tr.proto, .int .i64 ((fl : Nat) : Int), .int .i64 0, .int .i64 ((at0 : Nat) : Int), .int .i64 ((1 + pv : Nat) : Int)]) rfl rfl rfl rfl rfl rfl rfl aprsz34 aseone_i64i64u32i64i64i64i64i64 (by show 8 ≤ 8; decide) rfl ?_
   refine zET (zr ?_)
   exact pm_ret_cell (k := 2) Tryz.results26 rfl rfl Tryz.underlying34 rfl rfl (fun w1 hw => ⟨⟨⟨pk, tr.v, tr.dst, tr.proto, ((fl : Nat) : Int), 0, ((at0 : Nat) : Int), ((1 + pv : Nat) : Int)⟩, (by unfold Rp.Ok; dsimp only [trcR]; omega)⟩, rfl, hw.sel (.cons _ (.cons _ (.cons _ (.cons_cons _ (List.Sublist.refl _)))))⟩)
  refine TL.as_ ?_
  refine zET (zd (zSG ?_))
  refine TL.sp bin_eql (fun q71 => ?_) (fun q71 => ?_)
  ·refine TL.as_ ?_
   refine zET (zc (zG (TL.mv ?_)))
   refine TL.prowS (e := 3) (size := 1) (cs := flat (ic .i64) [-1, 0, 1, 255, 256]) rfl rfl rfl rfl rfl (fun w => drpbs106_5_22075 _ _ _ _ _ w) (by decide) rfl (fun g73 => ?_)
   refine TL.pcallCod (k := 3) (α := {v : Int // v ∈ ([-1, 0, 1, 255, 256] : List Int)}) (fun x => .int .i64 x.1) (fun x => []) rfl rfl rfl rfl rfl Tryz.func22 (by decide) rfl rfl (fun w1 hw hC1 => pick_cod cb w1 hC1 g73 5 ([-1, 0, 1, 255, 256]) (hw.neq (i := 0) (j := 3) rfl rfl (by decide) g73 rfl <| congrArg some ·.symm) (Pc.lt (hw.at_ (k := 0) rfl) g73 rfl).2 (by show 0 < ([-1, 0, 1, 255, 256] : List Int).length; simp) (fun i v hi => flat_row1 hw (q := 0) rfl hi)) ?_
   rintro ⟨pk, hpk⟩
   dsimp only [List.cons_append, List.nil_append]
   refine TL.v (gF arpfld34_3) ?_
   refine TL.pstore (k := 1) (vs := [.int .i64 pk]) rfl rfl rfl rfl rfl rfl rfl pcmsz3 aeaone_i64 (by show 6 ≤ 8; decide) rfl ?_
   refine zE (zN (zT (zSG (TL.v (gV 1 (.agg #[.int .i64 ((1 + k0 : Nat) : Int), .int .i64 tr.v, .int .u32 tr.dst, .int .i64 tr.proto, .int .i64 ((fl : Nat) : Int), .int .i64 pk, .int .i64 ((at0 : Nat) : Int), .int .i64 ((1 + pv : Nat) : Int)]) aprag34 aprsz34) ?_))))
   refine TL.pstore (k := 2) (vs := [.int .i64 ((1 + k0 : Nat) : Int), .int .i64 tr.v, .int .u32 tr.dst, .int .i64 tr.proto, .int .i64 ((fl : Nat) : Int), .int .i64 pk, .int .i64 ((at0 : Nat) : Int), .int .i64 ((1 + pv : Nat) : Int)]) rfl rfl rfl rfl rfl rfl rfl aprsz34 aseone_i64i64u32i64i64i64i64i64 (by show 8 ≤ 8; decide) rfl ?_
   refine zET (zr ?_)
   exact pm_ret_cell (k := 2) Tryz.results26 rfl rfl Tryz.underlying34 rfl rfl (fun w1 hw => ⟨⟨⟨((1 + k0 : Nat) : Int), tr.v, tr.dst, tr.proto, ((fl : Nat) : Int), pk, ((at0 : Nat) : Int), ((1 + pv : Nat) : Int)⟩, (by unfold Rp.Ok; dsimp only [trcR]; omega)⟩, rfl, hw.sel (.cons _ (.cons _ (.cons _ (.cons_cons _ (List.Sublist.refl _)))))⟩)
  refine TL.as_ ?_
  refine zET (zd (zSG ?_))
  refine TL.sp bin_eql (fun q77 => ?_) (fun q77 => ?_)
  ·refine TL.as_ ?_
   refine zET (zc (zG (TL.mv ?_)))
   refine TL.prowS (e := 3) (size := 1) (cs := flat (ic .i64) [-1, 2251799813685248, 2251799813685249]) rfl rfl rfl rfl rfl (fun w => pcmbs106_3_44640 _ _ _ w) (by decide) rfl (fun g79 => ?_)
   refine TL.pcallCod (k := 3) (α := {v : Int // v ∈ ([-1, 2251799813685248, 2251799813685249] : List Int)}) (fun x => .int .i64 x.1) (fun x => []) rfl rfl rfl rfl rfl Tryz.func22 (by decide) rfl rfl (fun w1 hw hC1 => pick_cod cb w1 hC1 g79 3 ([-1, 2251799813685248, 2251799813685249]) (hw.neq (i := 0) (j := 3) rfl rfl (by decide) g79 rfl <| congrArg some ·.symm) (Pc.lt (hw.at_ (k := 0) rfl) g79 rfl).2 (by show 0 < ([-1, 2251799813685248, 2251799813685249] : List Int).length; simp) (fun i v hi => flat_row1 hw (q := 0) rfl hi)) ?_
   rintro ⟨pk, hpk⟩
   dsimp only [List.cons_append, List.nil_append]
   refine TL.v (gF arpfld34_4) ?_
   refine TL.pstore (k := 1) (vs := [.int .i64 pk]) rfl rfl rfl rfl rfl rfl rfl pcmsz3 aeaone_i64 (by show 7 ≤ 8; decide) rfl ?_
   refine zE (zN (zT (zSG (TL.v (gV 1 (.agg #[.int .i64 ((1 + k0 : Nat) : Int), .int .i64 tr.v, .int .u32 tr.dst, .int .i64 tr.proto, .int .i64 ((fl : Nat) : Int), .int .i64 0, .int .i64 pk, .int .i64 ((1 + pv : Nat) : Int)]) aprag34 aprsz34) ?_))))
   refine TL.pstore (k := 2) (vs := [.int .i64 ((1 + k0 : Nat) : Int), .int .i64 tr.v, .int .u32 tr.dst, .int .i64 tr.proto, .int .i64 ((fl : Nat) : Int), .int .i64 0, .int .i64 pk, .int .i64 ((1 + pv : Nat) : Int)]) rfl rfl rfl rfl rfl rfl rfl aprsz34 aseone_i64i64u32i64i64i64i64i64 (by show 8 ≤ 8; decide) rfl ?_
   refine zET (zr ?_)
   exact pm_ret_cell (k := 2) Tryz.results26 rfl rfl Tryz.underlying34 rfl rfl (fun w1 hw => ⟨⟨⟨((1 + k0 : Nat) : Int), tr.v, tr.dst, tr.proto, ((fl : Nat) : Int), 0, pk, ((1 + pv : Nat) : Int)⟩, (by unfold Rp.Ok; dsimp only [trcR]; omega)⟩, rfl, hw.sel (.cons _ (.cons _ (.cons _ (.cons_cons _ (List.Sublist.refl _)))))⟩)
  refine TL.as_ ?_
  refine zET (zd (zk (zN (zT (zSG (TL.v (gV 0 (.agg #[.int .i64 ((1 + k0 : Nat) : Int), .int .i64 tr.v, .int .u32 tr.dst, .int .i64 tr.proto, .int .i64 ((fl : Nat) : Int), .int .i64 0, .int .i64 ((at0 : Nat) : Int), .int .i64 ((1 + pv : Nat) : Int)]) aprag34 aprsz34) ?_))))))
  refine TL.pstore (k := 1) (vs := [.int .i64 ((1 + k0 : Nat) : Int), .int .i64 tr.v, .int .u32 tr.dst, .int .i64 tr.proto, .int .i64 ((fl : Nat) : Int), .int .i64 0, .int .i64 ((at0 : Nat) : Int), .int .i64 ((1 + pv : Nat) : Int)]) rfl rfl rfl rfl rfl rfl rfl aprsz34 aseone_i64i64u32i64i64i64i64i64 (by show 8 ≤ 8; decide) rfl ?_
  refine zET (zr ?_)
  exact pm_ret_cell (k := 1) Tryz.results26 rfl rfl Tryz.underlying34 rfl rfl (fun w1 hw => ⟨⟨⟨((1 + k0 : Nat) : Int), tr.v, tr.dst, tr.proto, ((fl : Nat) : Int), 0, ((at0 : Nat) : Int), ((1 + pv : Nat) : Int)⟩, (by unfold Rp.Ok; dsimp only [trcR]; omega)⟩, rfl, hw.sel (.cons _ (.cons _ (.cons_cons _ (List.Sublist.refl _))))⟩)
 refine zET (zd (zk (zT (zS (zSG (TL.v (gF arpfld34_0) ?_))))))
 refine TL.v (gL 0 pcmag3) ?_
 refine TL.sp bin_neq (fun q60 => ?_) (fun q60 => ?_)
 ·refine zET (zc (zG (TL.v (gF arpfld34_5) ?_)))
  refine TL.pstore (k := 0) (vs := [.int .i64 0]) rfl rfl rfl rfl rfl rfl rfl pcmsz3 aeaone_i64 (by show 8 ≤ 8; decide) rfl ?_
  refine zET (zS (zSG (TL.mv ?_)))
  refine TL.pcallCod (k := 2) (α := {q9 : Nat // q9 ≤ 65535 ∧ (1 ≤ (12 : Int) → (q9 : Int) < 12)}) (fun q9 => .int .i64 ((q9.1 : Nat) : Int)) (fun q9 => []) rfl rfl rfl rfl rfl Tryz.func21 (by decide) rfl rfl (fun w1 hw hC1 => next_cod cb w1 12 hC1) ?_
  rintro ⟨sw, hsw1, hsw2⟩
  dsimp only [List.cons_append, List.nil_append]
  refine zET (zB (zSG ?_))
  refine TL.sp bin_eql (fun q65 => ?_) (fun q65 => ?_)
  ·refine TL.as_ ?_
   refine zET (zc (zG (TL.mv ?_)))
   refine TL.prowS (e := 3) (size := 1) (cs := flat (ic .i64) [0, 4, -1]) rfl rfl rfl rfl rfl (fun w => pcmbs106_3_44640 _ _ _ w) (by decide) rfl (fun g67 => ?_)
   refine TL.pcallCod (k := 3) (α := {v : Int // v ∈ ([0, 4, -1] : List Int)}) (fun x => .int .i64 x.1) (fun x => []) rfl rfl rfl rfl rfl Tryz.func22 (by decide) rfl rfl (fun w1 hw hC1 => pick_cod cb w1 hC1 g67 3 ([0, 4, -1]) (hw.neq (i := 0) (j := 3) rfl rfl (by decide) g67 rfl <| congrArg some ·.symm) (Pc.lt (hw.at_ (k := 0) rfl) g67 rfl).2 (by show 0 < ([0, 4, -1] : List Int).length; simp) (fun i v hi => flat_row1 hw (q := 0) rfl hi)) ?_
   rintro ⟨pk, hpk⟩
   dsimp only [List.cons_append, List.nil_append]
   refine TL.v (gF arpfld34_0) ?_
   refine TL.pstore (k := 1) (vs := [.int .i64 pk]) rfl rfl rfl rfl rfl rfl rfl pcmsz3 aeaone_i64 (by show 1 ≤ 8; decide) rfl ?_
   refine zE (zN (zT (zSG (TL.v (gV 1 (.agg #[.int .i64 pk, .int .i64 tr.v, .int .u32 tr.dst, .int .i64 tr.proto, .int .i64 ((fl : Nat) : Int), .int .i64 ((1 + tt : Nat) : Int), .int .i64 ((at0 : Nat) : Int), .int .i64 0]) aprag34 aprsz34) ?_))))
   refine TL.pstore (k := 2) (vs := [.int .i64 pk, .int .i64 tr.v, .int .u32 tr.dst, .int .i64 tr.proto, .int .i64 ((fl : Nat) : Int), .int .i64 ((1 + tt : Nat) : Int), .int .i64 ((at0 : Nat) : Int), .int .i64 0]) rfl rfl rfl rfl rfl rfl rfl aprsz34 aseone_i64i64u32i64i64i64i64i64 (by show 8 ≤ 8; decide) rfl ?_
   refine zET (zr ?_)
   exact pm_ret_cell (k := 2) Tryz.results26 rfl rfl Tryz.underlying34 rfl rfl (fun w1 hw => ⟨⟨⟨pk, tr.v, tr.dst, tr.proto, ((fl : Nat) : Int), ((1 + tt : Nat) : Int), ((at0 : Nat) : Int), 0⟩, (by unfold Rp.Ok; dsimp only [trcR]; omega)⟩, rfl, hw.sel (.cons _ (.cons _ (.cons _ (.cons_cons _ (List.Sublist.refl _)))))⟩)
  refine TL.as_ ?_
  refine zET (zd (zSG ?_))
  refine TL.sp bin_eql (fun q71 => ?_) (fun q71 => ?_)
  ·refine TL.as_ ?_
   refine zET (zc (zG (TL.mv ?_)))
   refine TL.prowS (e := 3) (size := 1) (cs := flat (ic .i64) [-1, 0, 1, 255, 256]) rfl rfl rfl rfl rfl (fun w => drpbs106_5_22075 _ _ _ _ _ w) (by decide) rfl (fun g73 => ?_)
   refine TL.pcallCod (k := 3) (α := {v : Int // v ∈ ([-1, 0, 1, 255, 256] : List Int)}) (fun x => .int .i64 x.1) (fun x => []) rfl rfl rfl rfl rfl Tryz.func22 (by decide) rfl rfl (fun w1 hw hC1 => pick_cod cb w1 hC1 g73 5 ([-1, 0, 1, 255, 256]) (hw.neq (i := 0) (j := 3) rfl rfl (by decide) g73 rfl <| congrArg some ·.symm) (Pc.lt (hw.at_ (k := 0) rfl) g73 rfl).2 (by show 0 < ([-1, 0, 1, 255, 256] : List Int).length; simp) (fun i v hi => flat_row1 hw (q := 0) rfl hi)) ?_
   rintro ⟨pk, hpk⟩
   dsimp only [List.cons_append, List.nil_append]
   refine TL.v (gF arpfld34_3) ?_
   refine TL.pstore (k := 1) (vs := [.int .i64 pk]) rfl rfl rfl rfl rfl rfl rfl pcmsz3 aeaone_i64 (by show 6 ≤ 8; decide) rfl ?_
   refine zE (zN (zT (zSG (TL.v (gV 1 (.agg #[.int .i64 ((1 + k0 : Nat) : Int), .int .i64 tr.v, .int .u32 tr.dst, .int .i64 tr.proto, .int .i64 ((fl : Nat) : Int), .int .i64 pk, .int .i64 ((at0 : Nat) : Int), .int .i64 0]) aprag34 aprsz34) ?_))))
   refine TL.pstore (k := 2) (vs := [.int .i64 ((1 + k0 : Nat) : Int), .int .i64 tr.v, .int .u32 tr.dst, .int .i64 tr.proto, .int .i64 ((fl : Nat) : Int), .int .i64 pk, .int .i64 ((at0 : Nat) : Int), .int .i64 0]) rfl rfl rfl rfl rfl rfl rfl aprsz34 aseone_i64i64u32i64i64i64i64i64 (by show 8 ≤ 8; decide) rfl ?_
   refine zET (zr ?_)
   exact pm_ret_cell (k := 2) Tryz.results26 rfl rfl Tryz.underlying34 rfl rfl (fun w1 hw => ⟨⟨⟨((1 + k0 : Nat) : Int), tr.v, tr.dst, tr.proto, ((fl : Nat) : Int), pk, ((at0 : Nat) : Int), 0⟩, (by unfold Rp.Ok; dsimp only [trcR]; omega)⟩, rfl, hw.sel (.cons _ (.cons _ (.cons _ (.cons_cons _ (List.Sublist.refl _)))))⟩)
  refine TL.as_ ?_
  refine zET (zd (zSG ?_))
  refine TL.sp bin_eql (fun q77 => ?_) (fun q77 => ?_)
  ·refine TL.as_ ?_
   refine zET (zc (zG (TL.mv ?_)))
   refine TL.prowS (e := 3) (size := 1) (cs := flat (ic .i64) [-1, 2251799813685248, 2251799813685249]) rfl rfl rfl rfl rfl (fun w => pcmbs106_3_44640 _ _ _ w) (by decide) rfl (fun g79 => ?_)
   refine TL.pcallCod (k := 3) (α := {v : Int // v ∈ ([-1, 2251799813685248, 2251799813685249] : List Int)}) (fun x => .int .i64 x.1) (fun x => []) rfl rfl rfl rfl rfl Tryz.func22 (by decide) rfl rfl (fun w1 hw hC1 => pick_cod cb w1 hC1 g79 3 ([-1, 2251799813685248, 2251799813685249]) (hw.neq (i := 0) (j := 3) rfl rfl (by decide) g79 rfl <| congrArg some ·.symm) (Pc.lt (hw.at_ (k := 0) rfl) g79 rfl).2 (by show 0 < ([-1, 2251799813685248, 2251799813685249] : List Int).length; simp) (fun i v hi => flat_row1 hw (q := 0) rfl hi)) ?_
   rintro ⟨pk, hpk⟩
   dsimp only [List.cons_append, List.nil_append]
   refine TL.v (gF arpfld34_4) ?_
   refine TL.pstore (k := 1) (vs := [.int .i64 pk]) rfl rfl rfl rfl rfl rfl rfl pcmsz3 aeaone_i64 (by show 7 ≤ 8; decide) rfl ?_
   refine zE (zN (zT (zSG (TL.v (gV 1 (.agg #[.int .i64 ((1 + k0 : Nat) : Int), .int .i64 tr.v, .int .u32 tr.dst, .int .i64 tr.proto, .int .i64 ((fl : Nat) : Int), .int .i64 ((1 + tt : Nat) : Int), .int .i64 pk, .int .i64 0]) aprag34 aprsz34) ?_))))
   refine TL.pstore (k := 2) (vs := [.int .i64 ((1 + k0 : Nat) : Int), .int .i64 tr.v, .int .u32 tr.dst, .int .i64 tr.proto, .int .i64 ((fl : Nat) : Int), .int .i64 ((1 + tt : Nat) : Int), .int .i64 pk, .int .i64 0]) rfl rfl rfl rfl rfl rfl rfl aprsz34 aseone_i64i64u32i64i64i64i64i64 (by show 8 ≤ 8; decide) rfl ?_
   refine zET (zr ?_)
   exact pm_ret_cell (k := 2) Tryz.results26 rfl rfl Tryz.underlying34 rfl rfl (fun w1 hw => ⟨⟨⟨((1 + k0 : Nat) : Int), tr.v, tr.dst, tr.proto, ((fl : Nat) : Int), ((1 + tt : Nat) : Int), pk, 0⟩, (by unfold Rp.Ok; dsimp only [trcR]; omega)⟩, rfl, hw.sel (.cons _ (.cons _ (.cons _ (.cons_cons _ (List.Sublist.refl _)))))⟩)
  refine TL.as_ ?_
  refine zET (zd (zk (zN (zT (zSG (TL.v (gV 0 (.agg #[.int .i64 ((1 + k0 : Nat) : Int), .int .i64 tr.v, .int .u32 tr.dst, .int .i64 tr.proto, .int .i64 ((fl : Nat) : Int), .int .i64 ((1 + tt : Nat) : Int), .int .i64 ((at0 : Nat) : Int), .int .i64 0]) aprag34 aprsz34) ?_))))))
  refine TL.pstore (k := 1) (vs := [.int .i64 ((1 + k0 : Nat) : Int), .int .i64 tr.v, .int .u32 tr.dst, .int .i64 tr.proto, .int .i64 ((fl : Nat) : Int), .int .i64 ((1 + tt : Nat) : Int), .int .i64 ((at0 : Nat) : Int), .int .i64 0]) rfl rfl rfl rfl rfl rfl rfl aprsz34 aseone_i64i64u32i64i64i64i64i64 (by show 8 ≤ 8; decide) rfl ?_
  refine zET (zr ?_)
  exact pm_ret_cell (k := 1) Tryz.results26 rfl rfl Tryz.underlying34 rfl rfl (fun w1 hw => ⟨⟨⟨((1 + k0 : Nat) : Int), tr.v, tr.dst, tr.proto, ((fl : Nat) : Int), ((1 + tt : Nat) : Int), ((at0 : Nat) : Int), 0⟩, (by unfold Rp.Ok; dsimp only [trcR]; omega)⟩, rfl, hw.sel (.cons _ (.cons _ (.cons_cons _ (List.Sublist.refl _))))⟩)
 refine zET (zd (zk (zT (zS (zSG (TL.mv ?_))))))
 refine TL.pcallCod (k := 2) (α := {q9 : Nat // q9 ≤ 65535 ∧ (1 ≤ (12 : Int) → (q9 : Int) < 12)}) (fun q9 => .int .i64 ((q9.1 : Nat) : Int)) (fun q9 => []) rfl rfl rfl rfl rfl Tryz.func21 (by decide) rfl rfl (fun w1 hw hC1 => next_cod cb w1 12 hC1) ?_
 rintro ⟨sw, hsw1, hsw2⟩
 dsimp only [List.cons_append, List.nil_append]
 refine zET (zB (zSG ?_))
 refine TL.sp bin_eql (fun q65 => ?_) (fun q65 => ?_)
 ·refine TL.as_ ?_
  refine zET (zc (zG (TL.mv ?_)))
  refine TL.prowS (e := 3) (size := 1) (cs := flat (ic .i64) [0, 4, -1]) rfl rfl rfl rfl rfl (fun w => pcmbs106_3_44640 _ _ _ w) (by decide) rfl (fun g67 => ?_)
  refine TL.pcallCod (k := 3) (α := {v : Int // v ∈ ([0, 4, -1] : List Int)}) (fun x => .int .i64 x.1) (fun x => []) rfl rfl rfl rfl rfl Tryz.func22 (by decide) rfl rfl (fun w1 hw hC1 => pick_cod cb w1 hC1 g67 3 ([0, 4, -1]) (hw.neq (i := 0) (j := 3) rfl rfl (by decide) g67 rfl <| congrArg some ·.symm) (Pc.lt (hw.at_ (k := 0) rfl) g67 rfl).2 (by show 0 < ([0, 4, -1] : List Int).length; simp) (fun i v hi => flat_row1 hw (q := 0) rfl hi)) ?_
  rintro ⟨pk, hpk⟩
  dsimp only [List.cons_append, List.nil_append]
  refine TL.v (gF arpfld34_0) ?_
  refine TL.pstore (k := 1) (vs := [.int .i64 pk]) rfl rfl rfl rfl rfl rfl rfl pcmsz3 aeaone_i64 (by show 1 ≤ 8; decide) rfl ?_
  refine zE (zN (zT (zSG (TL.v (gV 1 (.agg #[.int .i64 pk, .int .i64 tr.v, .int .u32 tr.dst, .int .i64 tr.proto, .int .i64 ((fl : Nat) : Int), .int .i64 ((1 + tt : Nat) : Int), .int .i64 ((at0 : Nat) : Int), .int .i64 ((1 + pv : Nat) : Int)]) aprag34 aprsz34) ?_))))
  refine TL.pstore (k := 2) (vs := [.int .i64 pk, .int .i64 tr.v, .int .u32 tr.dst, .int .i64 tr.proto, .int .i64 ((fl : Nat) : Int), .int .i64 ((1 + tt : Nat) : Int), .int .i64 ((at0 : Nat) : Int), .int .i64 ((1 + pv : Nat) : Int)]) rfl rfl rfl rfl rfl rfl rfl aprsz34 aseone_i64i64u32i64i64i64i64i64 (by show 8 ≤ 8; decide) rfl ?_
  refine zET (zr ?_)
  exact pm_ret_cell (k := 2) Tryz.results26 rfl rfl Tryz.underlying34 rfl rfl (fun w1 hw => ⟨⟨⟨pk, tr.v, tr.dst, tr.proto, ((fl : Nat) : Int), ((1 + tt : Nat) : Int), ((at0 : Nat) : Int), ((1 + pv : Nat) : Int)⟩, (by unfold Rp.Ok; dsimp only [trcR]; omega)⟩, rfl, hw.sel (.cons _ (.cons _ (.cons _ (.cons_cons _ (List.Sublist.refl _)))))⟩)
 refine TL.as_ ?_
 refine zET (zd (zSG ?_))
 refine TL.sp bin_eql (fun q71 => ?_) (fun q71 => ?_)
 ·refine TL.as_ ?_
  refine zET (zc (zG (TL.mv ?_)))
  refine TL.prowS (e := 3) (size := 1) (cs := flat (ic .i64) [-1, 0, 1, 255, 256]) rfl rfl rfl rfl rfl (fun w => drpbs106_5_22075 _ _ _ _ _ w) (by decide) rfl (fun g73 => ?_)
  refine TL.pcallCod (k := 3) (α := {v : Int // v ∈ ([-1, 0, 1, 255, 256] : List Int)}) (fun x => .int .i64 x.1) (fun x => []) rfl rfl rfl rfl rfl Tryz.func22 (by decide) rfl rfl (fun w1 hw hC1 => pick_cod cb w1 hC1 g73 5 ([-1, 0, 1, 255, 256]) (hw.neq (i := 0) (j := 3) rfl rfl (by decide) g73 rfl <| congrArg some ·.symm) (Pc.lt (hw.at_ (k := 0) rfl) g73 rfl).2 (by show 0 < ([-1, 0, 1, 255, 256] : List Int).length; simp) (fun i v hi => flat_row1 hw (q := 0) rfl hi)) ?_
  rintro ⟨pk, hpk⟩
  dsimp only [List.cons_append, List.nil_append]
  refine TL.v (gF arpfld34_3) ?_
  refine TL.pstore (k := 1) (vs := [.int .i64 pk]) rfl rfl rfl rfl rfl rfl rfl pcmsz3 aeaone_i64 (by show 6 ≤ 8; decide) rfl ?_
  refine zE (zN (zT (zSG (TL.v (gV 1 (.agg #[.int .i64 ((1 + k0 : Nat) : Int), .int .i64 tr.v, .int .u32 tr.dst, .int .i64 tr.proto, .int .i64 ((fl : Nat) : Int), .int .i64 pk, .int .i64 ((at0 : Nat) : Int), .int .i64 ((1 + pv : Nat) : Int)]) aprag34 aprsz34) ?_))))
  refine TL.pstore (k := 2) (vs := [.int .i64 ((1 + k0 : Nat) : Int), .int .i64 tr.v, .int .u32 tr.dst, .int .i64 tr.proto, .int .i64 ((fl : Nat) : Int), .int .i64 pk, .int .i64 ((at0 : Nat) : Int), .int .i64 ((1 + pv : Nat) : Int)]) rfl rfl rfl rfl rfl rfl rfl aprsz34 aseone_i64i64u32i64i64i64i64i64 (by show 8 ≤ 8; decide) rfl ?_
  refine zET (zr ?_)
  exact pm_ret_cell (k := 2) Tryz.results26 rfl rfl Tryz.underlying34 rfl rfl (fun w1 hw => ⟨⟨⟨((1 + k0 : Nat) : Int), tr.v, tr.dst, tr.proto, ((fl : Nat) : Int), pk, ((at0 : Nat) : Int), ((1 + pv : Nat) : Int)⟩, (by unfold Rp.Ok; dsimp only [trcR]; omega)⟩, rfl, hw.sel (.cons _ (.cons _ (.cons _ (.cons_cons _ (List.Sublist.refl _)))))⟩)
 refine TL.as_ ?_
 refine zET (zd (zSG ?_))
 refine TL.sp bin_eql (fun q77 => ?_) (fun q77 => ?_)
 ·refine TL.as_ ?_
  refine zET (zc (zG (TL.mv ?_)))
  refine TL.prowS (e := 3) (size := 1) (cs := flat (ic .i64) [-1, 2251799813685248, 2251799813685249]) rfl rfl rfl rfl rfl (fun w => pcmbs106_3_44640 _ _ _ w) (by decide) rfl (fun g79 => ?_)
  refine TL.pcallCod (k := 3) (α := {v : Int // v ∈ ([-1, 2251799813685248, 2251799813685249] : List Int)}) (fun x => .int .i64 x.1) (fun x => []) rfl rfl rfl rfl rfl Tryz.func22 (by decide) rfl rfl (fun w1 hw hC1 => pick_cod cb w1 hC1 g79 3 ([-1, 2251799813685248, 2251799813685249]) (hw.neq (i := 0) (j := 3) rfl rfl (by decide) g79 rfl <| congrArg some ·.symm) (Pc.lt (hw.at_ (k := 0) rfl) g79 rfl).2 (by show 0 < ([-1, 2251799813685248, 2251799813685249] : List Int).length; simp) (fun i v hi => flat_row1 hw (q := 0) rfl hi)) ?_
  rintro ⟨pk, hpk⟩
  dsimp only [List.cons_append, List.nil_append]
  refine TL.v (gF arpfld34_4) ?_
  refine TL.pstore (k := 1) (vs := [.int .i64 pk]) rfl rfl rfl rfl rfl rfl rfl pcmsz3 aeaone_i64 (by show 7 ≤ 8; decide) rfl ?_
  refine zE (zN (zT (zSG (TL.v (gV 1 (.agg #[.int .i64 ((1 + k0 : Nat) : Int), .int .i64 tr.v, .int .u32 tr.dst, .int .i64 tr.proto, .int .i64 ((fl : Nat) : Int), .int .i64 ((1 + tt : Nat) : Int), .int .i64 pk, .int .i64 ((1 + pv : Nat) : Int)]) aprag34 aprsz34) ?_))))
  refine TL.pstore (k := 2) (vs := [.int .i64 ((1 + k0 : Nat) : Int), .int .i64 tr.v, .int .u32 tr.dst, .int .i64 tr.proto, .int .i64 ((fl : Nat) : Int), .int .i64 ((1 + tt : Nat) : Int), .int .i64 pk, .int .i64 ((1 + pv : Nat) : Int)]) rfl rfl rfl rfl rfl rfl rfl aprsz34 aseone_i64i64u32i64i64i64i64i64 (by show 8 ≤ 8; decide) rfl ?_
  refine zET (zr ?_)
  exact pm_ret_cell (k := 2) Tryz.results26 rfl rfl Tryz.underlying34 rfl rfl (fun w1 hw => ⟨⟨⟨((1 + k0 : Nat) : Int), tr.v, tr.dst, tr.proto, ((fl : Nat) : Int), ((1 + tt : Nat) : Int), pk, ((1 + pv : Nat) : Int)⟩, (by unfold Rp.Ok; dsimp only [trcR]; omega)⟩, rfl, hw.sel (.cons _ (.cons _ (.cons _ (.cons_cons _ (List.Sublist.refl _)))))⟩)
 refine TL.as_ ?_
 refine zET (zd (zk (zN (zT (zSG (TL.v (gV 0 (.agg #[.int .i64 ((1 + k0 : Nat) : Int), .int .i64 tr.v, .int .u32 tr.dst, .int .i64 tr.proto, .int .i64 ((fl : Nat) : Int), .int .i64 ((1 + tt : Nat) : Int), .int .i64 ((at0 : Nat) : Int), .int .i64 ((1 + pv : Nat) : Int)]) aprag34 aprsz34) ?_))))))
 refine TL.pstore (k := 1) (vs := [.int .i64 ((1 + k0 : Nat) : Int), .int .i64 tr.v, .int .u32 tr.dst, .int .i64 tr.proto, .int .i64 ((fl : Nat) : Int), .int .i64 ((1 + tt : Nat) : Int), .int .i64 ((at0 : Nat) : Int), .int .i64 ((1 + pv : Nat) : Int)]) rfl rfl rfl rfl rfl rfl rfl aprsz34 aseone_i64i64u32i64i64i64i64i64 (by show 8 ≤ 8; decide) rfl ?_
 refine zET (zr ?_)
 exact pm_ret_cell (k := 1) Tryz.results26 rfl rfl Tryz.underlying34 rfl rfl (fun w1 hw => ⟨⟨⟨((1 + k0 : Nat) : Int), tr.v, tr.dst, tr.proto, ((fl : Nat) : Int), ((1 + tt : Nat) : Int), ((at0 : Nat) : Int), ((1 + pv : Nat) : Int)⟩, (by unfold Rp.Ok; dsimp only [trcR]; omega)⟩, rfl, hw.sel (.cons _ (.cons _ (.cons_cons _ (List.Sublist.refl _))))⟩)
set_option maxRecDepth 20000
theorem aawbld63_27255 (a0_0 : Int) (a1_0 : Int) (w : World) : (Instr.build 63 #[(0, .int .u32 a0_0), (1, .int .i64 a1_0)]).run Tryz.prog w = .ok (.agg #[.int .u32 a0_0, .int .i64 a1_0, .int .i64 0, .int .i64 0, .int .i64 0, .int .i64 0]) w := by kernel_rfl
theorem aawbld65_66110 (a4_0 : Int) (a5_0 : Int) (a7_0 : Int) (a8_0 : Bool) (a10_0 : Int) (a11_0 : Int) (a11_1 : Int) (a11_2 : Int) (a11_3 : Int) (a11_4 : Int) (a11_5 : Int) (w : World) : (Instr.build 65 #[(4, .int .u32 a4_0), (5, .int .i64 a5_0), (7, .int .i64 a7_0), (8, .bool a8_0), (10, .int .i64 a10_0), (11, .agg #[.int .u32 a11_0, .int .i64 a11_1, .int .i64 a11_2, .int .i64 a11_3, .int .i64 a11_4, .int .i64 a11_5])]).run Tryz.prog w = .ok (.agg #[.int .i64 0, .int .i64 0, .int .i64 0, .int .i64 0, .int .u32 a4_0, .int .i64 a5_0, .int .i64 0, .int .i64 a7_0, .bool a8_0, .bool false, .int .i64 a10_0, .int .u32 a11_0, .int .i64 a11_1, .int .i64 a11_2, .int .i64 a11_3, .int .i64 a11_4, .int .i64 a11_5]) w := by kernel_rfl
theorem aawbld65_18414 (a2_0 : Int) (a3_0 : Int) (a4_0 : Int) (a5_0 : Int) (a7_0 : Int) (a10_0 : Int) (w : World) : (Instr.build 65 #[(2, .int .i64 a2_0), (3, .int .i64 a3_0), (4, .int .u32 a4_0), (5, .int .i64 a5_0), (7, .int .i64 a7_0), (10, .int .i64 a10_0)]).run Tryz.prog w = .ok (.agg #[.int .i64 0, .int .i64 0, .int .i64 a2_0, .int .i64 a3_0, .int .u32 a4_0, .int .i64 a5_0, .int .i64 0, .int .i64 a7_0, .bool false, .bool false, .int .i64 a10_0, .int .u32 0, .int .i64 0, .int .i64 0, .int .i64 0, .int .i64 0, .int .i64 0]) w := by kernel_rfl
theorem aawbs23_3_88864 (a0_0 : Int) (a0_1 : Int) (a0_2 : Int) (a0_3 : Int) (a0_4 : Int) (a0_5 : Int) (a0_6 : Int) (a0_7 : Int) (a0_8 : Bool) (a0_9 : Bool) (a0_10 : Int) (a0_11 : Int) (a0_12 : Int) (a0_13 : Int) (a0_14 : Int) (a0_15 : Int) (a0_16 : Int) (a1_0 : Int) (a1_1 : Int) (a1_2 : Int) (a1_3 : Int) (a1_4 : Int) (a1_5 : Int) (a1_6 : Int) (a1_7 : Int) (a1_8 : Bool) (a1_9 : Bool) (a1_10 : Int) (a1_11 : Int) (a1_12 : Int) (a1_13 : Int) (a1_14 : Int) (a1_15 : Int) (a1_16 : Int) (a2_0 : Int) (a2_1 : Int) (a2_2 : Int) (a2_3 : Int) (a2_4 : Int) (a2_5 : Int) (a2_6 : Int) (a2_7 : Int) (a2_8 : Bool) (a2_9 : Bool) (a2_10 : Int) (a2_11 : Int) (a2_12 : Int) (a2_13 : Int) (a2_14 : Int) (a2_15 : Int) (a2_16 : Int) (w : World) : (Instr.buildSlice 23 3 #[(0, .agg #[.int .i64 a0_0, .int .i64 a0_1, .int .i64 a0_2, .int .i64 a0_3, .int .u32 a0_4, .int .i64 a0_5, .int .i64 a0_6, .int .i64 a0_7, .bool a0_8, .bool a0_9, .int .i64 a0_10, .int .u32 a0_11, .int .i64 a0_12, .int .i64 a0_13, .int .i64 a0_14, .int .i64 a0_15, .int .i64 a0_16]), (1, .agg #[.int .i64 a1_0, .int .i64 a1_1, .int .i64 a1_2, .int .i64 a1_3, .int .u32 a1_4, .int .i64 a1_5, .int .i64 a1_6, .int .i64 a1_7, .bool a1_8, .bool a1_9, .int .i64 a1_10, .int .u32 a1_11, .int .i64 a1_12, .int .i64 a1_13, .int .i64 a1_14, .int .i64 a1_15, .int .i64 a1_16]), (2, .agg #[.int .i64 a2_0, .int .i64 a2_1, .int .i64 a2_2, .int .i64 a2_3, .int .u32 a2_4, .int .i64 a2_5, .int .i64 a2_6, .int .i64 a2_7, .bool a2_8, .bool a2_9, .int .i64 a2_10, .int .u32 a2_11, .int .i64 a2_12, .int .i64 a2_13, .int .i64 a2_14, .int .i64 a2_15, .int .i64 a2_16])]).run Tryz.prog w = .ok (.slice (some ⟨w.heap.size, 0, none⟩) 3 3) (w.alloc (.cells [.int .i64 a0_0, .int .i64 a0_1, .int .i64 a0_2, .int .i64 a0_3, .int .u32 a0_4, .int .i64 a0_5, .int .i64 a0_6, .int .i64 a0_7, .bool a0_8, .bool a0_9, .int .i64 a0_10, .int .u32 a0_11, .int .i64 a0_12, .int .i64 a0_13, .int .i64 a0_14, .int .i64 a0_15, .int .i64 a0_16, .int .i64 a1_0, .int .i64 a1_1, .int .i64 a1_2, .int .i64 a1_3, .int .u32 a1_4, .int .i64 a1_5, .int .i64 a1_6, .int .i64 a1_7, .bool a1_8, .bool a1_9, .int .i64 a1_10, .int .u32 a1_11, .int .i64 a1_12, .int .i64 a1_13, .int .i64 a1_14, .int .i64 a1_15, .int .i64 a1_16, .int .i64 a2_0, .int .i64 a2_1, .int .i64 a2_2, .int .i64 a2_3, .int .u32 a2_4, .int .i64 a2_5, .int .i64 a2_6, .int .i64 a2_7, .bool a2_8, .bool a2_9, .int .i64 a2_10, .int .u32 a2_11, .int .i64 a2_12, .int .i64 a2_13, .int .i64 a2_14, .int .i64 a2_15, .int .i64 a2_16].toArray 65)) := by kernel_rfl
theorem aawbld28_57323 (a0_0 : Int) (a1_0 : Int) (a2_0 : Int) (w : World) : (Instr.build 28 #[(0, .int .i64 a0_0), (1, .int .i64 a1_0), (2, .int .i64 a2_0)]).run Tryz.prog w = .ok (.agg #[.int .i64 a0_0, .int .i64 a1_0, .int .i64 a2_0]) w := by kernel_rfl
theorem aawbld26_530  (w : World) : (Instr.build 26 #[]).run Tryz.prog w = .ok (.agg #[.slice none 0 0]) w := by kernel_rfl
theorem awake_true  (w : World) :
  Calls Tryz.prog 15 #[] w fun e w' => e = .returned (.bool true) ∧ Below w.heap.size w w' := by
 refine begin_ (vs := []) Tryz.func15 rfl rfl rfl ?_ (Pm.start w)
 refine zSG (TL.as_ ?_)
 refine zET (zSG ?_)
 refine TL.val rfl rfl rfl (gives_build (v := .agg #[.int .u32 9, .int .i64 3, .int .i64 0, .int .i64 0, .int .i64 0, .int .i64 0]) rfl rfl (fun w => aawbld63_27255 _ _ w)) ?_
 refine TL.val rfl rfl rfl (gives_build (v := .agg #[.int .i64 0, .int .i64 0, .int .i64 0, .int .i64 0, .int .u32 9, .int .i64 17, .int .i64 0, .int .i64 3, .bool true, .bool false, .int .i64 50, .int .u32 9, .int .i64 3, .int .i64 0, .int .i64 0, .int .i64 0, .int .i64 0]) rfl rfl (fun w => aawbld65_66110 _ _ _ _ _ _ _ _ _ _ _ w)) ?_
 refine TL.val rfl rfl rfl (gives_build (v := .agg #[.int .i64 0, .int .i64 0, .int .i64 1, .int .i64 60, .int .u32 9, .int .i64 17, .int .i64 0, .int .i64 3, .bool false, .bool false, .int .i64 70, .int .u32 0, .int .i64 0, .int .i64 0, .int .i64 0, .int .i64 0, .int .i64 0]) rfl rfl (fun w => aawbld65_18414 _ _ _ _ _ _ w)) ?_
 refine TL.val rfl rfl rfl (gives_build (v := .agg #[.int .i64 0, .int .i64 0, .int .i64 2, .int .i64 80, .int .u32 9, .int .i64 17, .int .i64 0, .int .i64 3, .bool false, .bool false, .int .i64 90, .int .u32 0, .int .i64 0, .int .i64 0, .int .i64 0, .int .i64 0, .int .i64 0]) rfl rfl (fun w => aawbld65_18414 _ _ _ _ _ _ w)) ?_
 refine TL.prowS (e := 65) (size := 17) (cs := flat Rs.cells awL) rfl rfl rfl rfl rfl (fun w => aawbs23_3_88864 _ _ _ _ _ _ _ _ _ _ _ _ _ _ _ _ _ _ _ _ _ _ _ _ _ _ _ _ _ _ _ _ _ _ _ _ _ _ _ _ _ _ _ _ _ _ _ _ _ _ _ w) (by decide) rfl (fun g9 => ?_)
 refine TL.as_ ?_
 refine zET (zSG ?_)
 refine TL.val rfl rfl rfl (gives_build (v := .agg #[.int .i64 2, .int .i64 1, .int .i64 1]) rfl rfl (fun w => aawbld28_57323 _ _ _ w)) ?_
 refine TL.pnew rfl rfl rfl (exec_alloc (cs := [.int .i64 0, .int .i64 0, .int .i64 0]) rfl adrzv28 rfl) (fun g2 => ?_)
 refine TL.pstore (k := 0) (vs := [.int .i64 2, .int .i64 1, .int .i64 1]) rfl rfl rfl rfl rfl rfl rfl aprsz28 adrone_i64i64i64 (by show 3 ≤ 3; decide) rfl ?_
 refine zET (zSG (TL.mv ?_))
 refine TL.val rfl rfl rfl (gives_build (v := .agg #[.slice none 0 0]) rfl rfl (fun w => aawbld26_530  w)) ?_
 refine TL.v (gV 0 (.agg #[.int .i64 2, .int .i64 1, .int .i64 1]) aprag28 aprsz28) ?_
 refine TL.pcallPm (α := {y : ((Option Addr × Nat) × List Rp) × Int // FndOk ([] : List En) awL (⟨2, 1, 1⟩ : Ru) y.1.2 y.2 ∧ y.1.2.length ≤ 100000000000 ∧ y.1.2.length ≤ y.1.1.2 ∧ y.1.1.2 ≤ maxLen}) (fun x => .tuple #[.slice x.1.1.1.1 x.1.1.2.length x.1.1.1.2, .int .i64 x.1.2]) (fun x => [.row (.slice x.1.1.1.1 x.1.1.2.length x.1.1.1.2) 34 8 x.1.1.2.length (flat Rp.cells x.1.1.2)]) rfl rfl rfl rfl rfl Tryz.func39 (by decide) rfl (fun w1 hw => fnd_any (some ⟨g9, 0, none⟩) 3 awL none 0 ([] : List En) (⟨2, 1, 1⟩ : Ru) w1 (pm_rd hw (k := 1) rfl) (by decide) awL_ok Reads.none_) ?_
 rintro ⟨⟨⟨⟨Afo, cfo⟩, fo⟩, efo⟩, hfo, hfol, hfoc, hfom⟩
 dsimp only [List.cons_append, List.nil_append]
 dsimp only at hfo hfol hfoc hfom ⊢
 obtain ⟨rfl, rfl⟩ := aw_fnd hfo
 have hlp : [awP].length = 1 := rfl
 have hlw : awL.length = 3 := rfl
 have hlt : (awL.take 2).length = 2 := rfl
 refine TL.rn 5 rfl (zET (zS (TC.fact (p := ∃ g, Afo = some ⟨g, 0, none⟩) (fun w1 hw => rowA hw (k := 0) rfl (by omega)) ?_)))
 rintro ⟨g_Afo, rfl⟩
 refine TC.quietP (by kernel_rfl) (by kernel_rfl) (fun w hw => hw.drawn _) ?_
 refine TQ.val rfl rfl rfl (gives_move rfl rfl) ?_
 refine TQ.val rfl rfl rfl (gives_bin rfl rfl rfl (fun w => bin_eql_t (rfl) w)) ?_
 refine TQ.rn 2 rfl (TQ.ov (gN Tryz.underlying49) ?_)
 refine TQ.on rfl rfl rfl ?_
 refine TQ.val rfl rfl rfl (gives_bin rfl rfl rfl (fun w => bin_eql_t (rfl) w)) ?_
 refine TQ.rn 3 rfl ?_
 refine TQ.on rfl rfl rfl ?_
 have hi27 : 0 < ([awP]).length := by simp
 obtain ⟨x27, hx27⟩ := ex_at hi27
 have hx27e : x27 = awP := (Option.some.inj hx27).symm
 refine TQ.val rfl rfl rfl (gA (i := 0) Tryz.underlying49 aprsz34 rfl rfl rfl rfl rfl (by omega)) ?_
 refine TQ.ov (gF arpfld34_0) ?_
 refine TQ.on rfl rfl rfl ?_
 refine TQ.val rfl rfl rfl (gives_load (v := .int .i64 x27.kind) rfl rfl pcmag3 (fun w1 hw => flat_row rp_cel hw (q := 0) rfl hx27 0 _ rfl)) ?_
 refine TQ.on rfl rfl rfl ?_
 refine TQ.val rfl rfl rfl (gives_bin rfl rfl rfl (fun w => bin_eql_t (by rw [hx27e]; rfl) w)) ?_
 refine TQ.rn 3 rfl ?_
 refine TQ.on rfl rfl rfl ?_
 refine TQ.val rfl rfl rfl (gA (i := 0) Tryz.underlying49 aprsz34 rfl rfl rfl rfl rfl (by omega)) ?_
 refine TQ.ov (gF arpfld34_4) ?_
 refine TQ.on rfl rfl rfl ?_
 refine TQ.val rfl rfl rfl (gives_load (v := .int .i64 x27.at_) rfl rfl pcmag3 (fun w1 hw => flat_row rp_cel hw (q := 0) rfl hx27 6 _ rfl)) ?_
 refine TQ.on rfl rfl rfl ?_
 refine TQ.val rfl rfl rfl (gives_bin rfl rfl rfl (fun w => bin_eql_t (by rw [hx27e]; rfl) w)) ?_
 refine TQ.rn 3 rfl ?_
 refine TQ.on rfl rfl rfl ?_
 refine TQ.val rfl rfl rfl (gA (i := 0) Tryz.underlying49 aprsz34 rfl rfl rfl rfl rfl (by omega)) ?_
 refine TQ.on rfl rfl rfl ?_
 refine TQ.val rfl rfl rfl (gives_loadR (off := 0 + 0 * 8) rfl rfl aprag34 aprsz34 (rp_cel.len x27) (fun w1 hw j9 u9 h9 => flat_row rp_cel hw (q := 0) rfl hx27 j9 u9 h9)) ?_
 refine TQ.on rfl rfl rfl ?_
 refine TQ.call (v := .bool true) rfl rfl rfl rfl rfl Tryz.func27 (by decide) rfl (fun w1 hw => (calls_b (vldRp_any x27 w1) (by rw [hx27e]; decide +kernel)).mono fun en w2 ⟨h1, h2⟩ => ⟨h1, hw.below h2⟩) ?_
 refine TQ.rn 3 rfl ?_
 refine TQ.on rfl rfl rfl ?_
 refine TQ.val rfl rfl rfl (gives_build (v := .agg #[.slice none 0 0]) rfl rfl (fun w => aawbld26_530  w)) ?_
 refine TQ.ov (gV 1 (.agg #[.int .i64 2, .int .i64 1, .int .i64 1]) aprag28 aprsz28) ?_
 refine TQ.rn 1 rfl ?_
 refine TQ.on rfl rfl rfl ?_
 refine TQ.val rfl rfl rfl (gA (i := 0) Tryz.underlying49 aprsz34 rfl rfl rfl rfl rfl (by omega)) ?_
 refine TQ.on rfl rfl rfl ?_
 refine TQ.val rfl rfl rfl (gives_loadR (off := 0 + 0 * 8) rfl rfl aprag34 aprsz34 (rp_cel.len x27) (fun w1 hw j9 u9 h9 => flat_row rp_cel hw (q := 0) rfl hx27 j9 u9 h9)) ?_
 refine TQ.on rfl rfl rfl ?_
 refine TQ.call (v := .bool true) rfl rfl rfl rfl rfl Tryz.func37 (by decide) rfl (fun w1 hw => (calls_t (proves_any (some ⟨g9, 0, none⟩) 3 awL none 0 ([] : List En) (⟨2, 1, 1⟩ : Ru) x27 w1 (pm_rd hw (k := 2) rfl) (by decide) awL_ok Reads.none_) (by rw [hx27e]; exact aw_pr)).mono fun en w2 ⟨h1, h2⟩ => ⟨h1, hw.below h2⟩) ?_
 refine TQ.rn 3 rfl ?_
 refine TQ.on rfl rfl rfl ?_
 refine TQ.val rfl rfl rfl (gives_sliceH (v := .slice (some ⟨g9, 0, none⟩) 2 3) rfl rfl rfl (fun w => cut_hi Tryz.underlying23 prssz65 _ _ _ 2 rfl (by omega) w)) ?_
 refine TQ.on rfl rfl rfl ?_
 refine TQ.val rfl rfl rfl (gives_build (v := .agg #[.slice none 0 0]) rfl rfl (fun w => aawbld26_530  w)) ?_
 refine TQ.ov (gV 1 (.agg #[.int .i64 2, .int .i64 1, .int .i64 1]) aprag28 aprsz28) ?_
 refine TQ.rn 1 rfl ?_
 refine TQ.on rfl rfl rfl ?_
 refine TQ.val rfl rfl rfl (gA (i := 0) Tryz.underlying49 aprsz34 rfl rfl rfl rfl rfl (by omega)) ?_
 refine TQ.on rfl rfl rfl ?_
 refine TQ.val rfl rfl rfl (gives_loadR (off := 0 + 0 * 8) rfl rfl aprag34 aprsz34 (rp_cel.len x27) (fun w1 hw j9 u9 h9 => flat_row rp_cel hw (q := 0) rfl hx27 j9 u9 h9)) ?_
 refine TQ.on rfl rfl rfl ?_
 refine TQ.call (v := .bool false) rfl rfl rfl rfl rfl Tryz.func37 (by decide) rfl (fun w1 hw => (calls_f (proves_any (some ⟨g9, 0, none⟩) 3 (awL.take 2) none 0 ([] : List En) (⟨2, 1, 1⟩ : Ru) x27 w1 (Reads.headF rs_cel (pm_rd hw (k := 2) rfl) (by omega)) (by decide) awT_ok Reads.none_) (by rw [hx27e]; exact aw_pr2)).mono fun en w2 ⟨h1, h2⟩ => ⟨h1, hw.below h2⟩) ?_
 refine TQ.rn 3 rfl (TQ.ov (gV 1 (.agg #[.int .i64 2, .int .i64 1, .int .i64 1]) aprag28 aprsz28) ?_)
 refine TQ.on rfl rfl rfl ?_
 refine TQ.call (v := .bool true) rfl rfl rfl rfl rfl Tryz.func24 (by decide) rfl (fun w1 hw => (calls_b (vldRu_any awU w1) (by decide +kernel)).mono fun en w2 ⟨h1, h2⟩ => ⟨h1, hw.below h2⟩) ?_
 refine TQ.rn 2 rfl ?_
 refine TQ.fin ?_
 refine zT (zr ?_)
 exact ret_tmp Tryz.results15 rfl (fun w1 hw => ⟨rfl, hw.bel⟩)
set_option maxRecDepth 20000
theorem mem_ins {es : List En} {k : Nat} {x z : En} (h : z ∈ es.take k ++ [x] ++ es.drop k) : z ∈ es ∨ z = x := by
 rcases List.mem_append.1 h with h | h
 ·rcases List.mem_append.1 h with h | h
  ·exact .inl (List.mem_of_mem_take h)
  exact .inr (List.mem_singleton.1 h)
 exact .inl (List.mem_of_mem_drop h)
def shlF (a n : Int) : Int := IntKind.u32.wrap (a / 2 ^ (32 - n).toNat * 2 ^ (32 - n).toNat)
def lens : List Int := [8, 24, 28, 29, 30, 30, 31, 32]
def EnG (e : En) : Prop := (167772160 ≤ e.addr ∧ e.addr < 184549376) ∧ e.len ∈ lens ∧ 1 ≤ e.prov ∧ e.prov ≤ 4
theorem EnG.ok {e : En} (h : EnG e) : e.Ok := ⟨by have := h.1.1; omega, by have := h.1.2; omega⟩
theorem shl_rng {a n : Int} (ha : 167772161 ≤ a ∧ a ≤ 167772173) (hn : n ∈ lens) : 167772160 ≤ shlF a n ∧ shlF a n < 184549376 := by
 have key : ∀ k : Int, 0 < k → k ≤ 16777216 → 167772160 % k = 0 → 167772160 ≤ IntKind.u32.wrap (a / k * k) ∧ IntKind.u32.wrap (a / k * k) < 184549376 := fun k h0 h1 h2 => by
  have e1 : a / k * k ≤ a := Int.ediv_mul_le a (by omega)
  have e2 : 167772160 ≤ a / k * k := by
   have h3 : 167772160 / k * k = 167772160 := Int.ediv_mul_cancel (Int.dvd_of_emod_eq_zero h2)
   have h4 : 167772160 / k ≤ a / k := Int.ediv_le_ediv h0 (by omega)
   have h5 := Int.mul_le_mul_of_nonneg_right h4 (Int.le_of_lt h0)
   omega
  rw [IntKind.wrap_u32]
  omega
 simp only [lens, List.mem_cons, List.not_mem_nil, or_false] at hn
 unfold shlF
 rcases hn with rfl | rfl | rfl | rfl | rfl | rfl | rfl | rfl
 ·exact key 16777216 (by decide) (by decide) (by decide)
 ·exact key 256 (by decide) (by decide) (by decide)
 ·exact key 16 (by decide) (by decide) (by decide)
 ·exact key 8 (by decide) (by decide) (by decide)
 ·exact key 4 (by decide) (by decide) (by decide)
 ·exact key 4 (by decide) (by decide) (by decide)
 ·exact key 2 (by decide) (by decide) (by decide)
 exact key 1 (by decide) (by decide) (by decide)
theorem EnG.mk_ {a n f t : Int} {p : Nat} (ha : 167772161 ≤ a ∧ a ≤ 167772173) (hn : n ∈ lens) (hp : p < 4) : EnG ⟨shlF a n, n, 1 + ((p : Nat) : Int), f, t⟩ :=
 ⟨shl_rng ha hn, hn, by show 1 ≤ 1 + (p : Int); omega, by show 1 + (p : Int) ≤ 4; omega⟩
theorem brabld100_29152 (a0_0 : Int) (a1_0 : Int) (w : World) : (Instr.build 100 #[(0, .int .u32 a0_0), (1, .int .i64 a1_0)]).run Tryz.prog w = .ok (.agg #[.int .u32 a0_0, .int .i64 a1_0]) w := by kernel_rfl
theorem brabld102_2016 (a0_0 : Int) (a0_1 : Int) (a1_0 : Int) (a2_0 : Int) (w : World) : (Instr.build 102 #[(0, .agg #[.int .u32 a0_0, .int .i64 a0_1]), (1, .int .i64 a1_0), (2, .int .i64 a2_0)]).run Tryz.prog w = .ok (.agg #[.int .u32 a0_0, .int .i64 a0_1, .int .i64 a1_0, .int .i64 a2_0, .int .i64 0]) w := by kernel_rfl
theorem brabs106_4_78574 (a0_0 : Int) (a1_0 : Int) (a2_0 : Int) (a3_0 : Int) (w : World) : (Instr.buildSlice 106 4 #[(0, .int .i64 a0_0), (1, .int .i64 a1_0), (2, .int .i64 a2_0), (3, .int .i64 a3_0)]).run Tryz.prog w = .ok (.slice (some ⟨w.heap.size, 0, none⟩) 4 4) (w.alloc (.cells [.int .i64 a0_0, .int .i64 a1_0, .int .i64 a2_0, .int .i64 a3_0].toArray 3)) := by kernel_rfl
theorem entry_cod (cb : Nat) (w : World) (hC : Cod w cb) :
  Calls Tryz.prog 65 #[.pointer (some ⟨cb, 0, none⟩)] w fun e w' => ∃ x : {y : En // EnG y}, e = .returned (.agg x.1.cells.toArray) ∧ Codr (fun w => Cod w cb) cb w ([]) w' := by
 refine begin_ (vs := [.pointer (some ⟨cb, 0, none⟩)]) (I := Pm ⟨w, cb⟩ (.abs cb (fun w => Cod w cb) :: oths cb w)) Tryz.func65 rfl rfl rfl ?_ (Pm.codes hC (cod_cells hC) (cod_stab cb))
 refine zSG ?_
 refine TL.pnew rfl rfl rfl (exec_alloc (cs := [.int .u32 0, .int .i64 0, .int .i64 0, .int .i64 0, .int .i64 0]) rfl brezv102 rfl) (fun g2 => ?_)
 refine zET (zSG (TL.mv ?_))
 refine TL.prowS (e := 3) (size := 1) (cs := flat (ic .i64) [8, 24, 28, 29, 30, 30, 31, 32]) rfl rfl rfl rfl rfl (fun w => arpbs106_8_10220 _ _ _ _ _ _ _ _ w) (by decide) rfl (fun g7 => ?_)
 refine TL.pcallCod (k := 2) (α := {v : Int // v ∈ ([8, 24, 28, 29, 30, 30, 31, 32] : List Int)}) (fun x => .int .i64 x.1) (fun x => []) rfl rfl rfl rfl rfl Tryz.func22 (by decide) rfl rfl (fun w1 hw hC1 => pick_cod cb w1 hC1 g7 8 ([8, 24, 28, 29, 30, 30, 31, 32]) (hw.neq (i := 0) (j := 2) rfl rfl (by decide) g7 rfl <| congrArg some ·.symm) (Pc.lt (hw.at_ (k := 0) rfl) g7 rfl).2 (by show 0 < ([8, 24, 28, 29, 30, 30, 31, 32] : List Int).length; simp) (fun i v hi => flat_row1 hw (q := 0) rfl hi)) ?_
 rintro ⟨n, hn⟩
 dsimp only [List.cons_append, List.nil_append]
 have hn8 : 8 ≤ n ∧ n ≤ 32 := by simp only [List.mem_cons, List.not_mem_nil, or_false] at hn; omega
 refine TL.as_ ?_
 refine zET (zSG (TL.mv ?_))
 refine TL.pcallCod (k := 2) (α := {a : Int // 167772161 ≤ a ∧ a ≤ 167772173}) (fun x => .int .u32 x.1) (fun x => []) rfl rfl rfl rfl rfl Tryz.func67 (by decide) rfl rfl (fun w1 hw hC1 => daddr_cod cb w1 hC1) ?_
 rintro ⟨a, ha1, ha2⟩
 dsimp only [List.cons_append, List.nil_append]
 refine TL.as_ ?_
 refine zET ?_
 refine TC.join (α := {y : Nat × Nat × Int // y.2.1 < 4}) (fun y => [(0, .pointer (some ⟨cb, 0, none⟩)), (2, .pointer (some ⟨g2, 0, none⟩)), (5, .pointer (some ⟨y.1.1, 0, none⟩))]) (fun y => Pm ⟨w, cb⟩ ([.blk y.1.1 102 [.int .u32 (shlF a n), .int .i64 n, .int .i64 (1 + ((y.1.2.1 : Nat) : Int)), .int .i64 y.1.2.2, .int .i64 0], .blk g2 102 [.int .u32 0, .int .i64 0, .int .i64 0, .int .i64 0, .int .i64 0], .abs cb (fun w => Cod w cb)] ++ oths cb w)) ?_ ?_
 ·refine TC.held (ls := #[Ff,Ff,Ff,Ff,Ff,Ff,Ff,Ff,Ff,Ff,Ff,Ff,Ff,Ff,Ff,Ff,Ff,Ff]) (Pm ⟨w, cb⟩ []) (by kernel_rfl) rfl rfl (fun w hw => hw.drawn _) ?_
  refine TH.tk 0 rfl rfl rfl (gives_move rfl rfl) (fun w1 hw => hw.pick [] (by decide) rfl) ?_
  refine TH.tk 1 rfl rfl rfl (gives_move rfl rfl) (fun w1 hw => hw.pick [] (by decide) rfl) ?_
  refine TH.tk 2 rfl rfl rfl (gives_bin rfl rfl rfl (fun w => bin_sub_ (r := 32 - n) (by simp only [IntKind.wrap_i64]; omega) w)) (fun w1 hw => hw.pick [] (by decide) rfl) ?_
  refine TH.tk 3 rfl rfl rfl (gives_bin (v := .int .u32 (a / 2 ^ (32 - n).toNat)) rfl rfl rfl (fun w => bin_shr (2 ^ (32 - n).toNat) (by omega) (by simp only [IntKind.bits]; omega) rfl w)) (fun w1 hw => hw.pick [] (by decide) rfl) ?_
  refine TH.tk 4 rfl rfl rfl (gives_move rfl rfl) (fun w1 hw => hw.pick [] (by decide) rfl) ?_
  refine TH.tk 5 rfl rfl rfl (gives_bin rfl rfl rfl (fun w => bin_sub_ (r := 32 - n) (by simp only [IntKind.wrap_i64]; omega) w)) (fun w1 hw => hw.pick [] (by decide) rfl) ?_
  refine TH.tk 6 rfl rfl rfl (gives_bin (v := .int .u32 (shlF a n)) rfl rfl rfl (fun w => bin_shl (2 ^ (32 - n).toNat) (by omega) (by simp only [IntKind.bits]; omega) rfl w)) (fun w1 hw => hw.pick [] (by decide) rfl) ?_
  refine TH.tk 7 rfl rfl rfl (gives_move rfl rfl) (fun w1 hw => hw.pick [] (by decide) rfl) ?_
  refine TH.tk 8 rfl rfl rfl (gives_build (v := .agg #[.int .u32 (shlF a n), .int .i64 n]) rfl rfl (fun w => brabld100_29152 _ _ w)) (fun w1 hw => hw.pick [] (by decide) rfl) ?_
  refine TH.tk 9 rfl rfl rfl (gives_move rfl rfl) (fun w1 hw => hw.pick [] (by decide) rfl) ?_
  refine TH.tk 12 rfl rfl rfl (gives_move rfl rfl) (fun w1 hw => hw.pick [] (by decide) rfl) ?_
  refine TH.three (l1 := #[Tt,Tt,Tt,Tt,Tt,Tt,Tt,Tt,Tt,Tt,Tt,Ff,Tt,Ff,Ff,Ff,Ff,Ff]) (l2 := #[Tt,Tt,Tt,Tt,Tt,Tt,Tt,Tt,Tt,Tt,Ff,Ff,Tt,Tt,Ff,Ff,Ff,Ff]) (l3 := #[Tt,Tt,Tt,Tt,Tt,Tt,Tt,Tt,Tt,Tt,Ff,Ff,Tt,Ff,Ff,Ff,Tt,Ff]) 10 13 16 rfl rfl rfl (by kernel_rfl) rfl rfl rfl rfl rfl rfl ?_ ?_ ?_
  ·refine TL.pcallCod (k := 2) (α := {q9 : Nat // q9 ≤ 65535 ∧ (1 ≤ (4 : Int) → (q9 : Int) < 4)}) (fun q9 => .int .i64 ((q9.1 : Nat) : Int)) (fun q9 => []) rfl rfl rfl rfl rfl Tryz.func21 (by decide) rfl rfl (fun w1 hw hC1 => next_cod cb w1 4 hC1) ?_
   rintro ⟨k21, hk211, hk212⟩
   dsimp only [List.cons_append, List.nil_append]
   refine zE ?_
   refine TX.he (fun w1 hw => hw.pick [] (by decide) rfl) fun hS => ?_
   refine TH.t 11 rfl (gD (1 + ((k21 : Nat) : Int))) hS ?_
   refine TH.two' (listed1 := #[Tt,Tt,Tt,Tt,Tt,Tt,Tt,Tt,Tt,Tt,Tt,Tt,Tt,Tt,Ff,Ff,Ff,Ff]) (listed2 := #[Tt,Tt,Tt,Tt,Tt,Tt,Tt,Tt,Tt,Tt,Tt,Tt,Tt,Ff,Ff,Ff,Tt,Ff]) 13 16 rfl rfl (by kernel_rfl) rfl rfl ?_ ?_
   ·refine TL.prowS (e := 3) (size := 1) (cs := flat (ic .i64) [0, 0, 0, 50, 300]) rfl rfl rfl rfl rfl (fun w => drpbs106_5_22075 _ _ _ _ _ w) (by decide) rfl (fun g24 => ?_)
    refine zE ?_
    refine TX.held (fun w1 hw => hw.pick [] (by decide) rfl) ?_
    refine TH.two' (listed1 := #[Tt,Tt,Tt,Tt,Tt,Tt,Tt,Tt,Tt,Tt,Tt,Tt,Tt,Tt,Tt,Ff,Ff,Ff]) (listed2 := #[Tt,Tt,Tt,Tt,Tt,Tt,Tt,Tt,Tt,Tt,Tt,Tt,Tt,Tt,Ff,Ff,Tt,Ff]) 14 16 rfl rfl (by kernel_rfl) rfl rfl ?_ ?_
    ·refine TL.pcallCod (k := 3) (α := {v : Int // v ∈ ([0, 0, 0, 50, 300] : List Int)}) (fun x => .int .i64 x.1) (fun x => []) rfl rfl rfl rfl rfl Tryz.func22 (by decide) rfl rfl (fun w1 hw hC1 => pick_cod cb w1 hC1 g24 5 ([0, 0, 0, 50, 300]) (hw.neq (i := 0) (j := 3) rfl rfl (by decide) g24 rfl <| congrArg some ·.symm) (Pc.lt (hw.at_ (k := 0) rfl) g24 rfl).2 (by show 0 < ([0, 0, 0, 50, 300] : List Int).length; simp) (fun i v hi => flat_row1 hw (q := 0) rfl hi)) ?_
     rintro ⟨v25, hv25⟩
     dsimp only [List.cons_append, List.nil_append]
     refine zE ?_
     refine TX.he (fun w1 hw => hw.pick [] (by decide) rfl) fun hS => ?_
     refine TH.t 15 rfl (gives_build (v := .agg #[.int .u32 (shlF a n), .int .i64 n, .int .i64 (1 + ((k21 : Nat) : Int)), .int .i64 v25, .int .i64 0]) rfl rfl (fun w => brabld102_2016 _ _ _ _ w)) hS ?_
     refine TH.only' 16 rfl (by kernel_rfl) rfl ?_
     refine TL.pnew rfl rfl rfl (exec_alloc (cs := [.int .u32 0, .int .i64 0, .int .i64 0, .int .i64 0, .int .i64 0]) rfl brezv102 rfl) (fun g5 => ?_)
     refine zE ?_
     refine TX.held (fun w1 hw => hw.pick [] (by decide) rfl) ?_
     refine TH.only' 17 rfl (by kernel_rfl) rfl ?_
     refine TL.pstore (k := 0) (vs := [.int .u32 (shlF a n), .int .i64 n, .int .i64 (1 + ((k21 : Nat) : Int)), .int .i64 v25, .int .i64 0]) rfl rfl rfl rfl rfl rfl rfl bresz102 breone_u32i64i64i64i64 (by show 5 ≤ 5; decide) rfl ?_
     refine zE ?_
     refine TX.held (fun w1 hw => hw.pick [] (by decide) rfl) ?_
     refine TH.done (by kernel_rfl) ?_
     exact TX.joined (⟨(g5, k21, v25), by dsimp only; omega⟩) (⟨rfl, rfl, rfl, trivial⟩) (fun w1 hw => hw.sel (.cons_cons _ (.cons _ (.cons _ (.cons_cons _ (.cons_cons _ (List.Sublist.refl _)))))))
    refine TL.pnew rfl rfl rfl (exec_alloc (cs := [.int .u32 0, .int .i64 0, .int .i64 0, .int .i64 0, .int .i64 0]) rfl brezv102 rfl) (fun g5 => ?_)
    refine zE ?_
    refine TX.held (fun w1 hw => hw.pick [] (by decide) rfl) ?_
    refine TH.only' 14 rfl (by kernel_rfl) rfl ?_
    refine TL.pcallCod (k := 4) (α := {v : Int // v ∈ ([0, 0, 0, 50, 300] : List Int)}) (fun x => .int .i64 x.1) (fun x => []) rfl rfl rfl rfl rfl Tryz.func22 (by decide) rfl rfl (fun w1 hw hC1 => pick_cod cb w1 hC1 g24 5 ([0, 0, 0, 50, 300]) (hw.neq (i := 1) (j := 4) rfl rfl (by decide) g24 rfl <| congrArg some ·.symm) (Pc.lt (hw.at_ (k := 1) rfl) g24 rfl).2 (by show 0 < ([0, 0, 0, 50, 300] : List Int).length; simp) (fun i v hi => flat_row1 hw (q := 1) rfl hi)) ?_
    rintro ⟨v25, hv25⟩
    dsimp only [List.cons_append, List.nil_append]
    refine zE ?_
    refine TX.he (fun w1 hw => hw.pick [] (by decide) rfl) fun hS => ?_
    refine TH.t 15 rfl (gives_build (v := .agg #[.int .u32 (shlF a n), .int .i64 n, .int .i64 (1 + ((k21 : Nat) : Int)), .int .i64 v25, .int .i64 0]) rfl rfl (fun w => brabld102_2016 _ _ _ _ w)) hS ?_
    refine TH.only' 17 rfl (by kernel_rfl) rfl ?_
    refine TL.pstore (k := 0) (vs := [.int .u32 (shlF a n), .int .i64 n, .int .i64 (1 + ((k21 : Nat) : Int)), .int .i64 v25, .int .i64 0]) rfl rfl rfl rfl rfl rfl rfl bresz102 breone_u32i64i64i64i64 (by show 5 ≤ 5; decide) rfl ?_
    refine zE ?_
    refine TX.held (fun w1 hw => hw.pick [] (by decide) rfl) ?_
    refine TH.done (by kernel_rfl) ?_
    exact TX.joined (⟨(g5, k21, v25), by dsimp only; omega⟩) (⟨rfl, rfl, rfl, trivial⟩) (fun w1 hw => hw.sel (.cons_cons _ (.cons _ (.cons _ (.cons_cons _ (.cons_cons _ (List.Sublist.refl _)))))))
   refine TL.pnew rfl rfl rfl (exec_alloc (cs := [.int .u32 0, .int .i64 0, .int .i64 0, .int .i64 0, .int .i64 0]) rfl brezv102 rfl) (fun g5 => ?_)
   refine zE ?_
   refine TX.held (fun w1 hw => hw.pick [] (by decide) rfl) ?_
   refine TH.only' 13 rfl (by kernel_rfl) rfl ?_
   refine TL.prowS (e := 3) (size := 1) (cs := flat (ic .i64) [0, 0, 0, 50, 300]) rfl rfl rfl rfl rfl (fun w => drpbs106_5_22075 _ _ _ _ _ w) (by decide) rfl (fun g24 => ?_)
   refine zE ?_
   refine TX.held (fun w1 hw => hw.pick [] (by decide) rfl) ?_
   refine TH.only' 14 rfl (by kernel_rfl) rfl ?_
   refine TL.pcallCod (k := 4) (α := {v : Int // v ∈ ([0, 0, 0, 50, 300] : List Int)}) (fun x => .int .i64 x.1) (fun x => []) rfl rfl rfl rfl rfl Tryz.func22 (by decide) rfl rfl (fun w1 hw hC1 => pick_cod cb w1 hC1 g24 5 ([0, 0, 0, 50, 300]) (hw.neq (i := 0) (j := 4) rfl rfl (by decide) g24 rfl <| congrArg some ·.symm) (Pc.lt (hw.at_ (k := 0) rfl) g24 rfl).2 (by show 0 < ([0, 0, 0, 50, 300] : List Int).length; simp) (fun i v hi => flat_row1 hw (q := 0) rfl hi)) ?_
   rintro ⟨v25, hv25⟩
   dsimp only [List.cons_append, List.nil_append]
   refine zE ?_
   refine TX.he (fun w1 hw => hw.pick [] (by decide) rfl) fun hS => ?_
   refine TH.t 15 rfl (gives_build (v := .agg #[.int .u32 (shlF a n), .int .i64 n, .int .i64 (1 + ((k21 : Nat) : Int)), .int .i64 v25, .int .i64 0]) rfl rfl (fun w => brabld102_2016 _ _ _ _ w)) hS ?_
   refine TH.only' 17 rfl (by kernel_rfl) rfl ?_
   refine TL.pstore (k := 1) (vs := [.int .u32 (shlF a n), .int .i64 n, .int .i64 (1 + ((k21 : Nat) : Int)), .int .i64 v25, .int .i64 0]) rfl rfl rfl rfl rfl rfl rfl bresz102 breone_u32i64i64i64i64 (by show 5 ≤ 5; decide) rfl ?_
   refine zE ?_
   refine TX.held (fun w1 hw => hw.pick [] (by decide) rfl) ?_
   refine TH.done (by kernel_rfl) ?_
   exact TX.joined (⟨(g5, k21, v25), by dsimp only; omega⟩) (⟨rfl, rfl, rfl, trivial⟩) (fun w1 hw => hw.sel (.cons _ (.cons_cons _ (.cons _ (.cons_cons _ (.cons_cons _ (List.Sublist.refl _)))))))
  ·refine TL.prowS (e := 3) (size := 1) (cs := flat (ic .i64) [0, 0, 0, 50, 300]) rfl rfl rfl rfl rfl (fun w => drpbs106_5_22075 _ _ _ _ _ w) (by decide) rfl (fun g24 => ?_)
   refine zE ?_
   refine TX.held (fun w1 hw => hw.pick [] (by decide) rfl) ?_
   refine TH.two' (listed1 := #[Tt,Tt,Tt,Tt,Tt,Tt,Tt,Tt,Tt,Tt,Tt,Ff,Tt,Tt,Ff,Ff,Ff,Ff]) (listed2 := #[Tt,Tt,Tt,Tt,Tt,Tt,Tt,Tt,Tt,Tt,Ff,Ff,Tt,Tt,Ff,Ff,Tt,Ff]) 10 16 rfl rfl (by kernel_rfl) rfl rfl ?_ ?_
   ·refine TL.pcallCod (k := 3) (α := {q9 : Nat // q9 ≤ 65535 ∧ (1 ≤ (4 : Int) → (q9 : Int) < 4)}) (fun q9 => .int .i64 ((q9.1 : Nat) : Int)) (fun q9 => []) rfl rfl rfl rfl rfl Tryz.func21 (by decide) rfl rfl (fun w1 hw hC1 => next_cod cb w1 4 hC1) ?_
    rintro ⟨k21, hk211, hk212⟩
    dsimp only [List.cons_append, List.nil_append]
    refine zE ?_
    refine TX.he (fun w1 hw => hw.pick [] (by decide) rfl) fun hS => ?_
    refine TH.t 11 rfl (gD (1 + ((k21 : Nat) : Int))) hS ?_
    refine TH.two' (listed1 := #[Tt,Tt,Tt,Tt,Tt,Tt,Tt,Tt,Tt,Tt,Tt,Tt,Tt,Tt,Tt,Ff,Ff,Ff]) (listed2 := #[Tt,Tt,Tt,Tt,Tt,Tt,Tt,Tt,Tt,Tt,Tt,Tt,Tt,Tt,Ff,Ff,Tt,Ff]) 14 16 rfl rfl (by kernel_rfl) rfl rfl ?_ ?_
    ·refine TL.pcallCod (k := 3) (α := {v : Int // v ∈ ([0, 0, 0, 50, 300] : List Int)}) (fun x => .int .i64 x.1) (fun x => []) rfl rfl rfl rfl rfl Tryz.func22 (by decide) rfl rfl (fun w1 hw hC1 => pick_cod cb w1 hC1 g24 5 ([0, 0, 0, 50, 300]) (hw.neq (i := 0) (j := 3) rfl rfl (by decide) g24 rfl <| congrArg some ·.symm) (Pc.lt (hw.at_ (k := 0) rfl) g24 rfl).2 (by show 0 < ([0, 0, 0, 50, 300] : List Int).length; simp) (fun i v hi => flat_row1 hw (q := 0) rfl hi)) ?_
     rintro ⟨v25, hv25⟩
     dsimp only [List.cons_append, List.nil_append]
     refine zE ?_
     refine TX.he (fun w1 hw => hw.pick [] (by decide) rfl) fun hS => ?_
     refine TH.t 15 rfl (gives_build (v := .agg #[.int .u32 (shlF a n), .int .i64 n, .int .i64 (1 + ((k21 : Nat) : Int)), .int .i64 v25, .int .i64 0]) rfl rfl (fun w => brabld102_2016 _ _ _ _ w)) hS ?_
     refine TH.only' 16 rfl (by kernel_rfl) rfl ?_
     refine TL.pnew rfl rfl rfl (exec_alloc (cs := [.int .u32 0, .int .i64 0, .int .i64 0, .int .i64 0, .int .i64 0]) rfl brezv102 rfl) (fun g5 => ?_)
     refine zE ?_
     refine TX.held (fun w1 hw => hw.pick [] (by decide) rfl) ?_
     refine TH.only' 17 rfl (by kernel_rfl) rfl ?_
     refine TL.pstore (k := 0) (vs := [.int .u32 (shlF a n), .int .i64 n, .int .i64 (1 + ((k21 : Nat) : Int)), .int .i64 v25, .int .i64 0]) rfl rfl rfl rfl rfl rfl rfl bresz102 breone_u32i64i64i64i64 (by show 5 ≤ 5; decide) rfl ?_
     refine zE ?_
     refine TX.held (fun w1 hw => hw.pick [] (by decide) rfl) ?_
     refine TH.done (by kernel_rfl) ?_
     exact TX.joined (⟨(g5, k21, v25), by dsimp only; omega⟩) (⟨rfl, rfl, rfl, trivial⟩) (fun w1 hw => hw.sel (.cons_cons _ (.cons _ (.cons _ (.cons_cons _ (.cons_cons _ (List.Sublist.refl _)))))))
    refine TL.pnew rfl rfl rfl (exec_alloc (cs := [.int .u32 0, .int .i64 0, .int .i64 0, .int .i64 0, .int .i64 0]) rfl brezv102 rfl) (fun g5 => ?_)
    refine zE ?_
    refine TX.held (fun w1 hw => hw.pick [] (by decide) rfl) ?_
    refine TH.only' 14 rfl (by kernel_rfl) rfl ?_
    refine TL.pcallCod (k := 4) (α := {v : Int // v ∈ ([0, 0, 0, 50, 300] : List Int)}) (fun x => .int .i64 x.1) (fun x => []) rfl rfl rfl rfl rfl Tryz.func22 (by decide) rfl rfl (fun w1 hw hC1 => pick_cod cb w1 hC1 g24 5 ([0, 0, 0, 50, 300]) (hw.neq (i := 1) (j := 4) rfl rfl (by decide) g24 rfl <| congrArg some ·.symm) (Pc.lt (hw.at_ (k := 1) rfl) g24 rfl).2 (by show 0 < ([0, 0, 0, 50, 300] : List Int).length; simp) (fun i v hi => flat_row1 hw (q := 1) rfl hi)) ?_
    rintro ⟨v25, hv25⟩
    dsimp only [List.cons_append, List.nil_append]
    refine zE ?_
    refine TX.he (fun w1 hw => hw.pick [] (by decide) rfl) fun hS => ?_
    refine TH.t 15 rfl (gives_build (v := .agg #[.int .u32 (shlF a n), .int .i64 n, .int .i64 (1 + ((k21 : Nat) : Int)), .int .i64 v25, .int .i64 0]) rfl rfl (fun w => brabld102_2016 _ _ _ _ w)) hS ?_
    refine TH.only' 17 rfl (by kernel_rfl) rfl ?_
    refine TL.pstore (k := 0) (vs := [.int .u32 (shlF a n), .int .i64 n, .int .i64 (1 + ((k21 : Nat) : Int)), .int .i64 v25, .int .i64 0]) rfl rfl rfl rfl rfl rfl rfl bresz102 breone_u32i64i64i64i64 (by show 5 ≤ 5; decide) rfl ?_
    refine zE ?_
    refine TX.held (fun w1 hw => hw.pick [] (by decide) rfl) ?_
    refine TH.done (by kernel_rfl) ?_
    exact TX.joined (⟨(g5, k21, v25), by dsimp only; omega⟩) (⟨rfl, rfl, rfl, trivial⟩) (fun w1 hw => hw.sel (.cons_cons _ (.cons _ (.cons _ (.cons_cons _ (.cons_cons _ (List.Sublist.refl _)))))))
   refine TL.pnew rfl rfl rfl (exec_alloc (cs := [.int .u32 0, .int .i64 0, .int .i64 0, .int .i64 0, .int .i64 0]) rfl brezv102 rfl) (fun g5 => ?_)
   refine zE ?_
   refine TX.held (fun w1 hw => hw.pick [] (by decide) rfl) ?_
   refine TH.only' 10 rfl (by kernel_rfl) rfl ?_
   refine TL.pcallCod (k := 4) (α := {q9 : Nat // q9 ≤ 65535 ∧ (1 ≤ (4 : Int) → (q9 : Int) < 4)}) (fun q9 => .int .i64 ((q9.1 : Nat) : Int)) (fun q9 => []) rfl rfl rfl rfl rfl Tryz.func21 (by decide) rfl rfl (fun w1 hw hC1 => next_cod cb w1 4 hC1) ?_
   rintro ⟨k21, hk211, hk212⟩
   dsimp only [List.cons_append, List.nil_append]
   refine zE ?_
   refine TX.he (fun w1 hw => hw.pick [] (by decide) rfl) fun hS => ?_
   refine TH.t 11 rfl (gD (1 + ((k21 : Nat) : Int))) hS ?_
   refine TH.only' 14 rfl (by kernel_rfl) rfl ?_
   refine TL.pcallCod (k := 4) (α := {v : Int // v ∈ ([0, 0, 0, 50, 300] : List Int)}) (fun x => .int .i64 x.1) (fun x => []) rfl rfl rfl rfl rfl Tryz.func22 (by decide) rfl rfl (fun w1 hw hC1 => pick_cod cb w1 hC1 g24 5 ([0, 0, 0, 50, 300]) (hw.neq (i := 1) (j := 4) rfl rfl (by decide) g24 rfl <| congrArg some ·.symm) (Pc.lt (hw.at_ (k := 1) rfl) g24 rfl).2 (by show 0 < ([0, 0, 0, 50, 300] : List Int).length; simp) (fun i v hi => flat_row1 hw (q := 1) rfl hi)) ?_
   rintro ⟨v25, hv25⟩
   dsimp only [List.cons_append, List.nil_append]
   refine zE ?_
   refine TX.he (fun w1 hw => hw.pick [] (by decide) rfl) fun hS => ?_
   refine TH.t 15 rfl (gives_build (v := .agg #[.int .u32 (shlF a n), .int .i64 n, .int .i64 (1 + ((k21 : Nat) : Int)), .int .i64 v25, .int .i64 0]) rfl rfl (fun w => brabld102_2016 _ _ _ _ w)) hS ?_
   refine TH.only' 17 rfl (by kernel_rfl) rfl ?_
   refine TL.pstore (k := 0) (vs := [.int .u32 (shlF a n), .int .i64 n, .int .i64 (1 + ((k21 : Nat) : Int)), .int .i64 v25, .int .i64 0]) rfl rfl rfl rfl rfl rfl rfl bresz102 breone_u32i64i64i64i64 (by show 5 ≤ 5; decide) rfl ?_
   refine zE ?_
   refine TX.held (fun w1 hw => hw.pick [] (by decide) rfl) ?_
   refine TH.done (by kernel_rfl) ?_
   exact TX.joined (⟨(g5, k21, v25), by dsimp only; omega⟩) (⟨rfl, rfl, rfl, trivial⟩) (fun w1 hw => hw.sel (.cons_cons _ (.cons _ (.cons _ (.cons_cons _ (.cons_cons _ (List.Sublist.refl _)))))))
  refine TL.pnew rfl rfl rfl (exec_alloc (cs := [.int .u32 0, .int .i64 0, .int .i64 0, .int .i64 0, .int .i64 0]) rfl brezv102 rfl) (fun g5 => ?_)
  refine zE ?_
  refine TX.held (fun w1 hw => hw.pick [] (by decide) rfl) ?_
  refine TH.two' (listed1 := #[Tt,Tt,Tt,Tt,Tt,Tt,Tt,Tt,Tt,Tt,Tt,Ff,Tt,Ff,Ff,Ff,Tt,Ff]) (listed2 := #[Tt,Tt,Tt,Tt,Tt,Tt,Tt,Tt,Tt,Tt,Ff,Ff,Tt,Tt,Ff,Ff,Tt,Ff]) 10 13 rfl rfl (by kernel_rfl) rfl rfl ?_ ?_
  ·refine TL.pcallCod (k := 3) (α := {q9 : Nat // q9 ≤ 65535 ∧ (1 ≤ (4 : Int) → (q9 : Int) < 4)}) (fun q9 => .int .i64 ((q9.1 : Nat) : Int)) (fun q9 => []) rfl rfl rfl rfl rfl Tryz.func21 (by decide) rfl rfl (fun w1 hw hC1 => next_cod cb w1 4 hC1) ?_
   rintro ⟨k21, hk211, hk212⟩
   dsimp only [List.cons_append, List.nil_append]
   refine zE ?_
   refine TX.he (fun w1 hw => hw.pick [] (by decide) rfl) fun hS => ?_
   refine TH.t 11 rfl (gD (1 + ((k21 : Nat) : Int))) hS ?_
   refine TH.only' 13 rfl (by kernel_rfl) rfl ?_
   refine TL.prowS (e := 3) (size := 1) (cs := flat (ic .i64) [0, 0, 0, 50, 300]) rfl rfl rfl rfl rfl (fun w => drpbs106_5_22075 _ _ _ _ _ w) (by decide) rfl (fun g24 => ?_)
   refine zE ?_
   refine TX.held (fun w1 hw => hw.pick [] (by decide) rfl) ?_
   refine TH.only' 14 rfl (by kernel_rfl) rfl ?_
   refine TL.pcallCod (k := 4) (α := {v : Int // v ∈ ([0, 0, 0, 50, 300] : List Int)}) (fun x => .int .i64 x.1) (fun x => []) rfl rfl rfl rfl rfl Tryz.func22 (by decide) rfl rfl (fun w1 hw hC1 => pick_cod cb w1 hC1 g24 5 ([0, 0, 0, 50, 300]) (hw.neq (i := 0) (j := 4) rfl rfl (by decide) g24 rfl <| congrArg some ·.symm) (Pc.lt (hw.at_ (k := 0) rfl) g24 rfl).2 (by show 0 < ([0, 0, 0, 50, 300] : List Int).length; simp) (fun i v hi => flat_row1 hw (q := 0) rfl hi)) ?_
   rintro ⟨v25, hv25⟩
   dsimp only [List.cons_append, List.nil_append]
   refine zE ?_
   refine TX.he (fun w1 hw => hw.pick [] (by decide) rfl) fun hS => ?_
   refine TH.t 15 rfl (gives_build (v := .agg #[.int .u32 (shlF a n), .int .i64 n, .int .i64 (1 + ((k21 : Nat) : Int)), .int .i64 v25, .int .i64 0]) rfl rfl (fun w => brabld102_2016 _ _ _ _ w)) hS ?_
   refine TH.only' 17 rfl (by kernel_rfl) rfl ?_
   refine TL.pstore (k := 1) (vs := [.int .u32 (shlF a n), .int .i64 n, .int .i64 (1 + ((k21 : Nat) : Int)), .int .i64 v25, .int .i64 0]) rfl rfl rfl rfl rfl rfl rfl bresz102 breone_u32i64i64i64i64 (by show 5 ≤ 5; decide) rfl ?_
   refine zE ?_
   refine TX.held (fun w1 hw => hw.pick [] (by decide) rfl) ?_
   refine TH.done (by kernel_rfl) ?_
   exact TX.joined (⟨(g5, k21, v25), by dsimp only; omega⟩) (⟨rfl, rfl, rfl, trivial⟩) (fun w1 hw => hw.sel (.cons _ (.cons_cons _ (.cons _ (.cons_cons _ (.cons_cons _ (List.Sublist.refl _)))))))
  refine TL.prowS (e := 3) (size := 1) (cs := flat (ic .i64) [0, 0, 0, 50, 300]) rfl rfl rfl rfl rfl (fun w => drpbs106_5_22075 _ _ _ _ _ w) (by decide) rfl (fun g24 => ?_)
  refine zE ?_
  refine TX.held (fun w1 hw => hw.pick [] (by decide) rfl) ?_
  refine TH.only' 10 rfl (by kernel_rfl) rfl ?_
  refine TL.pcallCod (k := 4) (α := {q9 : Nat // q9 ≤ 65535 ∧ (1 ≤ (4 : Int) → (q9 : Int) < 4)}) (fun q9 => .int .i64 ((q9.1 : Nat) : Int)) (fun q9 => []) rfl rfl rfl rfl rfl Tryz.func21 (by decide) rfl rfl (fun w1 hw hC1 => next_cod cb w1 4 hC1) ?_
  rintro ⟨k21, hk211, hk212⟩
  dsimp only [List.cons_append, List.nil_append]
  refine zE ?_
  refine TX.he (fun w1 hw => hw.pick [] (by decide) rfl) fun hS => ?_
  refine TH.t 11 rfl (gD (1 + ((k21 : Nat) : Int))) hS ?_
  refine TH.only' 14 rfl (by kernel_rfl) rfl ?_
  refine TL.pcallCod (k := 4) (α := {v : Int // v ∈ ([0, 0, 0, 50, 300] : List Int)}) (fun x => .int .i64 x.1) (fun x => []) rfl rfl rfl rfl rfl Tryz.func22 (by decide) rfl rfl (fun w1 hw hC1 => pick_cod cb w1 hC1 g24 5 ([0, 0, 0, 50, 300]) (hw.neq (i := 0) (j := 4) rfl rfl (by decide) g24 rfl <| congrArg some ·.symm) (Pc.lt (hw.at_ (k := 0) rfl) g24 rfl).2 (by show 0 < ([0, 0, 0, 50, 300] : List Int).length; simp) (fun i v hi => flat_row1 hw (q := 0) rfl hi)) ?_
  rintro ⟨v25, hv25⟩
  dsimp only [List.cons_append, List.nil_append]
  refine zE ?_
  refine TX.he (fun w1 hw => hw.pick [] (by decide) rfl) fun hS => ?_
  refine TH.t 15 rfl (gives_build (v := .agg #[.int .u32 (shlF a n), .int .i64 n, .int .i64 (1 + ((k21 : Nat) : Int)), .int .i64 v25, .int .i64 0]) rfl rfl (fun w => brabld102_2016 _ _ _ _ w)) hS ?_
  refine TH.only' 17 rfl (by kernel_rfl) rfl ?_
  refine TL.pstore (k := 1) (vs := [.int .u32 (shlF a n), .int .i64 n, .int .i64 (1 + ((k21 : Nat) : Int)), .int .i64 v25, .int .i64 0]) rfl rfl rfl rfl rfl rfl rfl bresz102 breone_u32i64i64i64i64 (by show 5 ≤ 5; decide) rfl ?_
  refine zE ?_
  refine TX.held (fun w1 hw => hw.pick [] (by decide) rfl) ?_
  refine TH.done (by kernel_rfl) ?_
  exact TX.joined (⟨(g5, k21, v25), by dsimp only; omega⟩) (⟨rfl, rfl, rfl, trivial⟩) (fun w1 hw => hw.sel (.cons _ (.cons_cons _ (.cons _ (.cons_cons _ (.cons_cons _ (List.Sublist.refl _)))))))
 rintro ⟨⟨g5, pv, fr⟩, hpv⟩
 dsimp only at hpv ⊢
 refine zS (TC.held (ls := #[Ff,Ff,Ff,Ff,Ff,Ff,Ff,Ff,Ff,Ff,Ff]) (fun _ => True) (by kernel_rfl) rfl rfl (fun w hw => hw.drawn _) ?_)
 refine TH.tk 0 rfl rfl rfl (gives_move rfl rfl) (fun _ _ => trivial) ?_
 refine TH.tk 1 rfl rfl rfl (gF brefld102_2) (fun _ _ => trivial) ?_
 refine TH.tk 4 rfl rfl rfl (gives_move rfl rfl) (fun _ _ => trivial) ?_
 refine TH.two' (listed1 := #[Tt,Tt,Tt,Ff,Tt,Ff,Ff,Ff,Ff,Ff,Ff]) (listed2 := #[Tt,Tt,Ff,Ff,Tt,Tt,Ff,Ff,Ff,Ff,Ff]) 2 5 rfl rfl (by kernel_rfl) rfl rfl ?_ ?_
 ·refine TL.v (gL 0 pcmag3) ?_
  refine zE ?_
  refine TX.held (fun _ _ => trivial) ?_
  refine TH.tk 3 rfl rfl rfl (gives_bin rfl rfl rfl (fun w => bin_add_ (r := IntKind.i64.wrap (fr + 1)) (rfl) w)) (fun _ _ => trivial) ?_
  refine TH.only' 5 rfl (by kernel_rfl) rfl ?_
  refine TL.pcallCod (k := 2) (α := {q9 : Nat // q9 ≤ 65535 ∧ (1 ≤ (600 : Int) → (q9 : Int) < 600)}) (fun q9 => .int .i64 ((q9.1 : Nat) : Int)) (fun q9 => []) rfl rfl rfl rfl rfl Tryz.func21 (by decide) rfl rfl (fun w1 hw hC1 => next_cod cb w1 600 hC1) ?_
  rintro ⟨k32, hk321, hk322⟩
  dsimp only [List.cons_append, List.nil_append]
  refine zE ?_
  refine TX.held (fun _ _ => trivial) ?_
  refine TH.tk 6 rfl rfl rfl (gives_bin rfl rfl rfl (fun w => bin_add_ (r := IntKind.i64.wrap (IntKind.i64.wrap (fr + 1) + ((k32 : Nat) : Int))) (rfl) w)) (fun _ _ => trivial) ?_
  refine TH.only' 7 rfl (by kernel_rfl) rfl ?_
  refine TL.prowS (e := 3) (size := 1) (cs := flat (ic .i64) [1125899906842624, 1125899906842624, 1125899906842624, IntKind.i64.wrap (IntKind.i64.wrap (fr + 1) + ((k32 : Nat) : Int))]) rfl rfl rfl rfl rfl (fun w => brabs106_4_78574 _ _ _ _ w) (by decide) rfl (fun g34 => ?_)
  refine zE ?_
  refine TX.held (fun _ _ => trivial) ?_
  refine TH.only' 8 rfl (by kernel_rfl) rfl ?_
  refine TL.pcallCod (k := 3) (α := {v : Int // v ∈ ([1125899906842624, 1125899906842624, 1125899906842624, IntKind.i64.wrap (IntKind.i64.wrap (fr + 1) + ((k32 : Nat) : Int))] : List Int)}) (fun x => .int .i64 x.1) (fun x => []) rfl rfl rfl rfl rfl Tryz.func22 (by decide) rfl rfl (fun w1 hw hC1 => pick_cod cb w1 hC1 g34 4 ([1125899906842624, 1125899906842624, 1125899906842624, IntKind.i64.wrap (IntKind.i64.wrap (fr + 1) + ((k32 : Nat) : Int))]) (hw.neq (i := 0) (j := 3) rfl rfl (by decide) g34 rfl <| congrArg some ·.symm) (Pc.lt (hw.at_ (k := 0) rfl) g34 rfl).2 (by show 0 < ([1125899906842624, 1125899906842624, 1125899906842624, IntKind.i64.wrap (IntKind.i64.wrap (fr + 1) + ((k32 : Nat) : Int))] : List Int).length; simp) (fun i v hi => flat_row1 hw (q := 0) rfl hi)) ?_
  rintro ⟨to, hto⟩
  dsimp only [List.cons_append, List.nil_append]
  refine zE ?_
  refine TX.held (fun _ _ => trivial) ?_
  refine TH.tk 9 rfl rfl rfl (gF brefld102_3) (fun _ _ => trivial) ?_
  refine TH.only' 10 rfl (by kernel_rfl) rfl ?_
  refine TL.pstore (k := 1) (vs := [.int .i64 to]) rfl rfl rfl rfl rfl rfl rfl pcmsz3 aeaone_i64 (by show 5 ≤ 5; decide) rfl ?_
  refine zE ?_
  refine TX.held (fun _ _ => trivial) ?_
  refine TH.done (by kernel_rfl) ?_
  refine zT (zSG (TL.v (gV 1 (.agg #[.int .u32 (shlF a n), .int .i64 n, .int .i64 (1 + ((pv : Nat) : Int)), .int .i64 fr, .int .i64 to]) breag102 bresz102) ?_))
  refine TL.pstore (k := 2) (vs := [.int .u32 (shlF a n), .int .i64 n, .int .i64 (1 + ((pv : Nat) : Int)), .int .i64 fr, .int .i64 to]) rfl rfl rfl rfl rfl rfl rfl bresz102 breone_u32i64i64i64i64 (by show 5 ≤ 5; decide) rfl ?_
  refine zET (zr ?_)
  exact pm_ret_cell (k := 2) Tryz.results65 rfl rfl Tryz.underlying102 rfl rfl (fun w1 hw => ⟨⟨⟨shlF a n, n, 1 + ((pv : Nat) : Int), fr, to⟩, EnG.mk_ (by omega) hn hpv⟩, rfl, Pm.codr [] (hw.sel (.cons _ (.cons _ (.cons _ (.cons_cons _ (List.Sublist.refl _)))))) rfl⟩)
 refine TL.pcallCod (k := 2) (α := {q9 : Nat // q9 ≤ 65535 ∧ (1 ≤ (600 : Int) → (q9 : Int) < 600)}) (fun q9 => .int .i64 ((q9.1 : Nat) : Int)) (fun q9 => []) rfl rfl rfl rfl rfl Tryz.func21 (by decide) rfl rfl (fun w1 hw hC1 => next_cod cb w1 600 hC1) ?_
 rintro ⟨k32, hk321, hk322⟩
 dsimp only [List.cons_append, List.nil_append]
 refine zE ?_
 refine TX.held (fun _ _ => trivial) ?_
 refine TH.only' 2 rfl (by kernel_rfl) rfl ?_
 refine TL.v (gL 0 pcmag3) ?_
 refine zE ?_
 refine TX.held (fun _ _ => trivial) ?_
 refine TH.tk 3 rfl rfl rfl (gives_bin rfl rfl rfl (fun w => bin_add_ (r := IntKind.i64.wrap (fr + 1)) (rfl) w)) (fun _ _ => trivial) ?_
 refine TH.tk 6 rfl rfl rfl (gives_bin rfl rfl rfl (fun w => bin_add_ (r := IntKind.i64.wrap (IntKind.i64.wrap (fr + 1) + ((k32 : Nat) : Int))) (rfl) w)) (fun _ _ => trivial) ?_
 refine TH.only' 7 rfl (by kernel_rfl) rfl ?_
 refine TL.prowS (e := 3) (size := 1) (cs := flat (ic .i64) [1125899906842624, 1125899906842624, 1125899906842624, IntKind.i64.wrap (IntKind.i64.wrap (fr + 1) + ((k32 : Nat) : Int))]) rfl rfl rfl rfl rfl (fun w => brabs106_4_78574 _ _ _ _ w) (by decide) rfl (fun g34 => ?_)
 refine zE ?_
 refine TX.held (fun _ _ => trivial) ?_
 refine TH.only' 8 rfl (by kernel_rfl) rfl ?_
 refine TL.pcallCod (k := 3) (α := {v : Int // v ∈ ([1125899906842624, 1125899906842624, 1125899906842624, IntKind.i64.wrap (IntKind.i64.wrap (fr + 1) + ((k32 : Nat) : Int))] : List Int)}) (fun x => .int .i64 x.1) (fun x => []) rfl rfl rfl rfl rfl Tryz.func22 (by decide) rfl rfl (fun w1 hw hC1 => pick_cod cb w1 hC1 g34 4 ([1125899906842624, 1125899906842624, 1125899906842624, IntKind.i64.wrap (IntKind.i64.wrap (fr + 1) + ((k32 : Nat) : Int))]) (hw.neq (i := 0) (j := 3) rfl rfl (by decide) g34 rfl <| congrArg some ·.symm) (Pc.lt (hw.at_ (k := 0) rfl) g34 rfl).2 (by show 0 < ([1125899906842624, 1125899906842624, 1125899906842624, IntKind.i64.wrap (IntKind.i64.wrap (fr + 1) + ((k32 : Nat) : Int))] : List Int).length; simp) (fun i v hi => flat_row1 hw (q := 0) rfl hi)) ?_
 rintro ⟨to, hto⟩
 dsimp only [List.cons_append, List.nil_append]
 refine zE ?_
 refine TX.held (fun _ _ => trivial) ?_
 refine TH.tk 9 rfl rfl rfl (gF brefld102_3) (fun _ _ => trivial) ?_
 refine TH.only' 10 rfl (by kernel_rfl) rfl ?_
 refine TL.pstore (k := 1) (vs := [.int .i64 to]) rfl rfl rfl rfl rfl rfl rfl pcmsz3 aeaone_i64 (by show 5 ≤ 5; decide) rfl ?_
 refine zE ?_
 refine TX.held (fun _ _ => trivial) ?_
 refine TH.done (by kernel_rfl) ?_
 refine zT (zSG (TL.v (gV 1 (.agg #[.int .u32 (shlF a n), .int .i64 n, .int .i64 (1 + ((pv : Nat) : Int)), .int .i64 fr, .int .i64 to]) breag102 bresz102) ?_))
 refine TL.pstore (k := 2) (vs := [.int .u32 (shlF a n), .int .i64 n, .int .i64 (1 + ((pv : Nat) : Int)), .int .i64 fr, .int .i64 to]) rfl rfl rfl rfl rfl rfl rfl bresz102 breone_u32i64i64i64i64 (by show 5 ≤ 5; decide) rfl ?_
 refine zET (zr ?_)
 exact pm_ret_cell (k := 2) Tryz.results65 rfl rfl Tryz.underlying102 rfl rfl (fun w1 hw => ⟨⟨⟨shlF a n, n, 1 + ((pv : Nat) : Int), fr, to⟩, EnG.mk_ (by omega) hn hpv⟩, rfl, Pm.codr [] (hw.sel (.cons _ (.cons _ (.cons _ (.cons_cons _ (List.Sublist.refl _)))))) rfl⟩)
end Go.Proofs.YtijmpjfafpodhaaGreat
