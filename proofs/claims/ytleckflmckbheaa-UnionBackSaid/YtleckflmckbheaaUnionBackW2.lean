/-
  The walk of Insert.
-/
import Derived.Test.YtleckflmckbheaaPu5
import Derived.Test.YtleckflmckbheaaUnionBackW1
namespace Go.Proofs.Ytleckflmckbheaa
open Go.RowKit
set_option linter.unusedVariables false
set_option linter.unusedSimpArgs false
set_option maxRecDepth 20000
theorem RwG.far0 {e : TypeId} {size : Nat} {w w1 : World} {k n c : Nat} {L : List Pc} {xs : List Value} (h : Pm w L w1) (hv : RwG e size w k n c xs) : RwG e size w1 k n c xs := by
 refine ⟨hv.1, ?_⟩
 rcases hv.2 with ⟨e1, _⟩ | ⟨g', cap, cur, a1, hb, hgg, r⟩
 ·cases e1
 ·cases a1
  exact .inr ⟨k, c, cur, rfl, hb, (h.bel.block k (Array.getElem?_eq_some_iff.1 hgg).1).trans hgg, r⟩
theorem app_nil_of {A B : List Value} (h : B = []) : A ++ B = A := by rw [h, List.append_nil]
theorem ins_take (l : List Fc) {i : Nat} (hi : i ≤ l.length) : (fcs (l.take i)).length = i * 3 := by rw [fcs_len, List.length_take, Nat.min_eq_left hi]
theorem ins_fin (l : List Fc) (x : Fc) (i : Nat) : fcs (l.take i ++ x :: l.drop i) = fcs (l.take i) ++ x.cells ++ fcs (l.drop i) := by
 rw [fcs_app, List.append_assoc]
 rfl
theorem ins_b1 (l : List Fc) (x : Fc) {i : Nat} (hi : i ≤ l.length) (zs : List Value) : (fcs (l.take i) ++ zs).take (i * 3) ++ x.cells ++ (fcs (l.take i) ++ zs).drop (i * 3 + x.cells.length) = fcs (l.take i) ++ x.cells ++ zs.drop 3 := by
 have h1 := ins_take l hi
 rw [List.take_left' h1, List.drop_append, fc_cells_len, h1, List.drop_eq_nil_of_le (by omega), List.nil_append, show i * 3 + 3 - i * 3 = 3 by omega]
theorem ins_b2 (l : List Fc) (x : Fc) {i : Nat} (hi : i ≤ l.length) (zs : List Value) (hz : zs.length = (l.length + 1 - i) * 3) : (fcs (l.take i) ++ x.cells ++ zs.drop 3).take ((i + 1) * 3) ++ fcs (l.drop i) ++ (fcs (l.take i) ++ x.cells ++ zs.drop 3).drop ((i + 1) * 3 + (fcs (l.drop i)).length) = fcs (l.take i ++ x :: l.drop i) := by
 have h1 := ins_take l hi
 have h2 : (fcs (l.take i) ++ x.cells).length = (i + 1) * 3 := by rw [List.length_append, h1, fc_cells_len]; omega
 refine (app_nil_of (List.drop_eq_nil_of_le (by rw [List.length_append, h2, List.length_drop, hz, fcs_len, List.length_drop]; omega))).trans ?_
 rw [List.take_left' h2, ins_fin]
theorem ins_c1 (l : List Fc) {i : Nat} (hi : i < l.length) (us : List Value) (hu : us.length = 3) : (fcs l ++ us).take ((i + 1) * 3) ++ fcs (l.drop i) ++ (fcs l ++ us).drop ((i + 1) * 3 + (fcs (l.drop i)).length) = (fcs l ++ us).take ((i + 1) * 3) ++ fcs (l.drop i) := by
 exact app_nil_of (List.drop_eq_nil_of_le (by rw [List.length_append, fcs_len, fcs_len, List.length_drop, hu]; omega))
theorem ins_c2 (l : List Fc) (x : Fc) {i : Nat} (hi : i < l.length) (us : List Value) (hu : us.length = 3) : ((fcs l ++ us).take ((i + 1) * 3) ++ fcs (l.drop i)).take (i * 3) ++ x.cells ++ ((fcs l ++ us).take ((i + 1) * 3) ++ fcs (l.drop i)).drop (i * 3 + x.cells.length) = fcs (l.take i ++ x :: l.drop i) := by
 have h2 : ((fcs l ++ us).take ((i + 1) * 3)).length = (i + 1) * 3 := by rw [List.length_take, List.length_append, fcs_len, hu]; omega
 rw [show i * 3 + x.cells.length = (i + 1) * 3 by rw [fc_cells_len]; omega, List.drop_left' h2, List.take_append_of_le_length (by omega), List.take_take, Nat.min_eq_left (by omega), List.take_append_of_le_length (by rw [fcs_len]; omega), fcs_take, ins_fin]
theorem uinsz42 (w : World) : (sizeOf 42).run Try.prog w = .ok 3 w := rfl
theorem uinel26 : Elem Try.prog 26 42 3 16 := Elem.mk' Try.underlying26 (z := .agg #[.int .i64 0, .int .u32 0, .int .u32 0]) (by kernel_rfl) rfl (by omega) (by omega)
set_option maxHeartbeats 1000000 in
theorem insf_some (g c i vb vc : Nat) (l : List Fc) (x : Fc) (w : World) (h : RwG 42 3 w g l.length c (fcs l)) (hv : RwG 42 3 w vb 1 vc x.cells) (hne : vb ≠ g) (hi : i ≤ l.length) (hl1 : l.length ≤ 100000) : Calls Try.prog 48 #[.slice (some ⟨g, 0, none⟩) l.length c, .int .i64 ((i : Nat) : Int), .slice (some ⟨vb, 0, none⟩) 1 vc] w fun e w' => ∃ y : {p : Option Addr × Nat // l.length + 1 ≤ p.2 ∧ p.2 ≤ maxLen}, e = .returned (.slice y.1.1 (l.length + 1) y.1.2) ∧ w'.ownsRow g 42 3 (.slice y.1.1 (l.length + 1) y.1.2) (l.length + 1) (fcs (l.take i ++ x :: l.drop i)) ∧ w.grownBy w' (some g) ∧ ∀ g', (Value.slice y.1.1 (l.length + 1) y.1.2).ownBlock = some g' → g' = g ∨ w.heap.size ≤ g' := by
 obtain ⟨_, hnc, hcm⟩ := h.obj
 refine begin_ (vs := [.slice (some ⟨g, 0, none⟩) l.length c, .int .i64 ((i : Nat) : Int), .slice (some ⟨vb, 0, none⟩) 1 vc]) (I := Pm ⟨wbut w g, g⟩ (.row (.slice (some ⟨g, 0, none⟩) l.length c) 42 3 l.length (fcs l) :: oths g w)) Try.func48 rfl rfl rfl ?_ (Pm.rowStartG h)
 refine TC.seq_ (TC.region ?_)
 refine TL.val rfl rfl rfl (gives_assign rfl rfl) ?_
 refine TL.end_ (TX.then_ (TC.seq_ (TC.region ?_)))
 refine TL.val rfl rfl rfl (gives_move rfl rfl) ?_
 refine TL.val rfl rfl rfl (gives_move rfl rfl) ?_
 refine TL.val rfl rfl rfl (gives_sliceL (v := .slice (if c = i then (some ⟨g, 0, none⟩ : Option Addr) else (some ⟨g, 0, none⟩ : Option Addr).map (·.add (i * 3))) (l.length - i) (c - i)) rfl rfl rfl (fun w => cut_lo Try.underlying26 uinsz42 _ _ _ i rfl hi w)) ?_
 refine TL.end_ (TX.then_ (TC.seq_ (TC.region ?_)))
 refine TL.val rfl rfl rfl (gives_move rfl rfl) ?_
 refine TL.val rfl rfl rfl (gives_len rfl Try.underlying26 rfl) ?_
 refine TL.val rfl rfl rfl (gives_assign rfl rfl) ?_
 refine TL.end_ (TX.then_ (TC.seq_ (TC.seq_ (TC.region ?_))))
 refine TL.val rfl rfl rfl (gives_move rfl rfl) ?_
 refine TL.val rfl rfl rfl (gives_bin rfl rfl rfl (fun w => bin_eql_f (by omega) w)) ?_
 refine TL.end_ (TX.then_ (TC.condF rfl (TC.skip_ (TX.then_ (TC.seq_ (TC.region ?_))))))
 refine TL.val rfl rfl rfl (gives_move rfl rfl) ?_
 refine TL.val rfl rfl rfl (gives_len rfl Try.underlying26 rfl) ?_
 refine TL.val rfl rfl rfl (gives_assign rfl rfl) ?_
 refine TL.end_ (TX.then_ (TC.seq_ (TC.seq_ (TC.region ?_))))
 refine TL.val rfl rfl rfl (gives_move rfl rfl) ?_
 refine TL.val rfl rfl rfl (gives_move rfl rfl) ?_
 refine TL.vsplit rfl rfl rfl (gives_bin rfl rfl rfl (fun w => bin_eql w)) (fun h22 => ?_) (fun h22 => ?_)
 ·have q22 := of_decide_eq_true h22
  have hin : i = l.length := by omega
  refine TL.end_ (TX.then_ (TC.condT rfl (TC.seq_ (TC.region ?_))))
  refine TL.val rfl rfl rfl (gives_move rfl rfl) ?_
  refine TL.val rfl rfl rfl (gives_move rfl rfl) ?_
  refine TL.appendT (k := 0) rfl rfl rfl rfl Try.underlying26 uinel26 rfl rfl rfl (fun w1 hw => ⟨_, Reads.of_own (RwG.far hw (fun q hq => by simp [hq]) hne hv)⟩) (fc_one x) (by show _ * 16 ≤ _; omega) (l.length + 1) (rfl) (fcs (l.take i ++ x :: l.drop i)) (by rw [hin, List.take_length, List.drop_length, fcs_app]; rfl) (fun A25 c25 hA251 hA252 => ?_)
  refine TL.val rfl rfl rfl (gives_assign rfl rfl) ?_
  refine TL.end_ (TX.then_ (TC.ret_ (TX.then_ret ?_)))
  exact ret_tmp Try.results48 rfl (fun w1 hw => ⟨⟨(A25, c25), hA251, hA252⟩, rfl, hw.at_ (k := 0) rfl, hw.mapEnd (fun q hq => by simp [hq]), fun g' hg' => key_new hw (fun q hq => by simp [hq]) hg'⟩)
 ·have q22 := of_decide_eq_false h22
  have hil : i < l.length := by omega
  refine TL.end_ (TX.then_ (TC.condF rfl (TC.skip_ (TX.then_ (TC.seq_ (TC.seq_ (TC.region ?_)))))))
  refine TL.val rfl rfl rfl (gives_move rfl rfl) ?_
  refine TL.val rfl rfl rfl (gives_move rfl rfl) ?_
  refine TL.val rfl rfl rfl (gives_bin rfl rfl rfl (fun w => bin_add_ (r := ((l.length + 1 : Nat) : Int)) (by simp only [IntKind.wrap_i64]; omega) w)) ?_
  refine TL.val rfl rfl rfl (gives_move rfl rfl) ?_
  refine TL.val rfl rfl rfl (gives_cap rfl Try.underlying26 rfl) ?_
  refine TL.vsplit rfl rfl rfl (gives_bin rfl rfl rfl (fun w => bin_gtr w)) (fun h31 => ?_) (fun h31 => ?_)
  ·have q31 := of_decide_eq_true h31
   have hgrow : c < l.length + 1 := by omega
   refine TL.end_ (TX.then_ (TC.condT rfl (TC.seq_ (TC.region ?_))))
   refine TL.val rfl rfl rfl (gives_move rfl rfl) ?_
   refine TL.val rfl rfl rfl (gives_move rfl rfl) ?_
   refine TL.val rfl rfl rfl (gives_sliceH (v := .slice (some ⟨g, 0, none⟩) i c) rfl rfl rfl (fun w => cut_hi Try.underlying26 uinsz42 _ _ _ i rfl (by omega) w)) ?_
   refine TL.val rfl rfl rfl (gives_move rfl rfl) ?_
   refine TL.val rfl rfl rfl (gives_move rfl rfl) ?_
   refine TL.val rfl rfl rfl (gives_bin rfl rfl rfl (fun w => bin_add_ (r := ((l.length + 1 : Nat) : Int)) (by simp only [IntKind.wrap_i64]; omega) w)) ?_
   refine TL.val rfl rfl rfl (gives_move rfl rfl) ?_
   refine TL.val rfl rfl rfl (gives_bin rfl rfl rfl (fun w => bin_sub_ (r := ((l.length + 1 - i : Nat) : Int)) (by simp only [IntKind.wrap_i64]; omega) w)) ?_
   obtain ⟨zs, hzs⟩ : ∃ zs, (Builtin.zeroCells (Value.agg #[.int .i64 0, .int .u32 0, .int .u32 0]).cells (l.length + 1 - i)).toList = zs := ⟨_, rfl⟩
   have hzl : zs.length = (l.length + 1 - i) * 3 := by rw [← hzs, Array.length_toList, size_zeroCells]; rfl
   refine TL.zerosGrow (k := 0) (i := i) (m := l.length + 1 - i) (M := l.length + 1) (z := .agg #[.int .i64 0, .int .u32 0, .int .u32 0]) rfl rfl rfl rfl uinel26 Try.underlying3 rfl rfl rfl hi (by omega) (by omega) (by kernel_rfl) hzs (by show _ * 16 ≤ _; omega) (by omega) (fcs_take l i) (fun g9 c9 hc91 hc92 => ?_)
   refine TL.val rfl rfl rfl (gives_assign rfl rfl) ?_
   refine TL.end_ (TX.then_ (TC.seq_ (TC.region ?_)))
   refine TL.val rfl rfl rfl (gives_move rfl rfl) ?_
   refine TL.val rfl rfl rfl (gives_move rfl rfl) ?_
   refine TL.val rfl rfl rfl (gives_tailS (k := i) rfl rfl rfl (by omega) Try.underlying26 uinsz42 (by omega) (by omega)) ?_
   refine TL.val rfl rfl rfl (gives_move rfl rfl) ?_
   refine TL.copyRow (k := 0) (cs := x.cells) (m := 1) (xs' := fcs (l.take i) ++ x.cells ++ zs.drop 3) rfl rfl rfl rfl Try.underlying26 uinsz42 rfl rfl rfl (fun w1 hw => by obtain ⟨cu, hcu, _, hct⟩ := (RwG.far hw (fun q hq => by simp [hq]) hne hv).plain; exact plain_cell hcu hct) (by simp only [Nat.min_def]; split <;> omega) rfl (by rw [List.length_append, fcs_len, List.length_take, hzl, fc_cells_len]; omega) (fc_one x) (ins_b1 l x hi zs) ?_
   try dsimp only [List.set_cons_zero, List.set_cons_succ]
   refine TL.end_ (TX.then_ (TC.seq_ ?_))
   refine TC.tail 8 (by kernel_rfl) (by kernel_rfl) (fun w hw => hw.drawn _) ?_
   refine TS.val rfl rfl rfl (gives_move rfl rfl) ?_
   refine TS.val rfl rfl rfl (gives_move rfl rfl) ?_
   refine TS.val rfl rfl rfl (gives_move rfl rfl) ?_
   refine TS.val rfl rfl rfl (gives_bin rfl rfl rfl (fun w => bin_add_ (r := ((i + 1 : Nat) : Int)) (by simp only [IntKind.wrap_i64]; omega) w)) ?_
   refine TS.val rfl rfl rfl (gives_tailS (k := i + 1) rfl rfl rfl (by omega) Try.underlying26 uinsz42 (by omega) (by omega)) ?_
   refine TS.val rfl rfl rfl (gives_move rfl rfl) ?_
   refine TS.val rfl rfl rfl (gives_move rfl rfl) ?_
   refine TS.val rfl rfl rfl (gives_tailS (k := i) rfl rfl rfl (by omega) Try.underlying26 uinsz42 (by omega) (by omega)) ?_
   refine TS.end_ ?_
   refine TL.copyRow (k := 0) (cs := fcs (l.drop i)) (m := l.length - i) (xs' := fcs (l.take i ++ x :: l.drop i)) rfl rfl rfl rfl Try.underlying26 uinsz42 rfl rfl rfl (fun w1 hw j v hj => by rw [show (⟨g, i * 3, none⟩ : Addr).add j = ⟨g, i * 3 + j, none⟩ by unfold Addr.add; split <;> simp_all]; exact pm_row hw (k := 1) rfl (by rw [← fcs_drop, List.getElem?_drop] at hj; exact hj)) (by simp only [Nat.min_def]; split <;> omega) (by rw [fcs_len, List.length_drop]) (by rw [List.length_append, List.length_append, fcs_len, fcs_len, List.length_take, List.length_drop, List.length_drop, hzl, fc_cells_len]; omega) (fcs_one _) (ins_b2 l x hi zs hzl) ?_
   try dsimp only [List.set_cons_zero, List.set_cons_succ]
   refine TL.end_ (TX.then_ (TC.seq_ (TC.region ?_)))
   refine TL.val rfl rfl rfl (gives_move rfl rfl) ?_
   refine TL.val rfl rfl rfl (gives_assign rfl rfl) ?_
   refine TL.end_ (TX.then_ (TC.ret_ (TX.then_ret ?_)))
   exact ret_tmp Try.results48 rfl (fun w1 hw => ⟨⟨((some ⟨g9, 0, none⟩), c9), hc91, hc92⟩, rfl, hw.at_ (k := 0) rfl, hw.mapEnd (fun q hq => by simp [hq]), fun g' hg' => key_new hw (fun q hq => by simp [hq]) hg'⟩)
  ·have q31 := of_decide_eq_false h31
   have hroom : l.length + 1 ≤ c := by omega
   refine TL.end_ (TX.then_ (TC.condF rfl (TC.skip_ (TX.then_ (TC.seq_ (TC.region ?_))))))
   refine TL.val rfl rfl rfl (gives_move rfl rfl) ?_
   refine TL.val rfl rfl rfl (gives_move rfl rfl) ?_
   refine TL.val rfl rfl rfl (gives_move rfl rfl) ?_
   refine TL.val rfl rfl rfl (gives_bin rfl rfl rfl (fun w => bin_add_ (r := ((l.length + 1 : Nat) : Int)) (by simp only [IntKind.wrap_i64]; omega) w)) ?_
   refine TL.rowgrow (k := 0) (hi := l.length + 1) rfl rfl rfl rfl rfl rfl Try.underlying26 uinsz42 rfl (by omega) (by omega) (fun us hus => ?_)
   have hul : us.length = 3 := by rw [hus]; omega
   try dsimp only [List.set_cons_zero]
   refine TL.val rfl rfl rfl (gives_assign rfl rfl) ?_
   refine TL.end_ (TX.then_ (TC.seq_ (TC.seq_ (TC.region ?_))))
   iterate 4 (first | refine TL.val rfl rfl rfl (gives_move rfl rfl) ?_)
   refine TL.val rfl rfl rfl (gives_bin rfl rfl rfl (fun w => bin_add_ (r := ((i + 1 : Nat) : Int)) (by simp only [IntKind.wrap_i64]; omega) w)) ?_
   refine TL.val rfl rfl rfl (gives_tailS (k := i + 1) rfl rfl rfl (by omega) Try.underlying26 uinsz42 (by omega) (by omega)) ?_
   refine TL.val rfl rfl rfl (gives_externI (v := .bool false) (e := Extern.SlicesOverlaps.overlaps #[26, 26] #[4]) rfl rfl Try.func56 (by kernel_rfl) (by kernel_rfl) (by kernel_rfl) (by kernel_rfl) (fun w1 hw => by obtain ⟨cg, hcg, hcs, _⟩ := (pm_rowAtG hw (k := 0) rfl).plain; obtain ⟨cv, hcv, hcvs, _⟩ := (RwG.far hw (fun q hq => by simp [hq]) hne hv).plain; have hp := plain_shape hcv; have hq := plain_shape hcg; exact Lib.run_overlaps_apart w1 _ _ _ Try.underlying26 3 uinsz42 ⟨vb, 0, none⟩ ⟨g, (i + 1) * 3, none⟩ _ _ _ _ hne _ _ _ _ hp.1 hq.1 (by rw [hcs]; omega) (hp.2 0) (hp.2 _))) ?_
   refine TL.val rfl rfl rfl (gives_boolnot rfl rfl) ?_
   refine TL.end_ (TX.then_ (TC.condT rfl (TC.seq_ ?_)))
   refine TC.tail 8 (by kernel_rfl) (by kernel_rfl) (fun w hw => hw.drawn _) ?_
   refine TS.val rfl rfl rfl (gives_move rfl rfl) ?_
   refine TS.val rfl rfl rfl (gives_move rfl rfl) ?_
   refine TS.val rfl rfl rfl (gives_move rfl rfl) ?_
   refine TS.val rfl rfl rfl (gives_bin rfl rfl rfl (fun w => bin_add_ (r := ((i + 1 : Nat) : Int)) (by simp only [IntKind.wrap_i64]; omega) w)) ?_
   refine TS.val rfl rfl rfl (gives_tailS (k := i + 1) rfl rfl rfl (by omega) Try.underlying26 uinsz42 (by omega) (by omega)) ?_
   refine TS.val rfl rfl rfl (gives_move rfl rfl) ?_
   refine TS.val rfl rfl rfl (gives_move rfl rfl) ?_
   refine TS.val rfl rfl rfl (gives_tailS (k := i) rfl rfl rfl (by omega) Try.underlying26 uinsz42 (by omega) (by omega)) ?_
   refine TS.end_ ?_
   refine TL.copyRow (k := 0) (cs := fcs (l.drop i)) (m := l.length - i) (xs' := (fcs l ++ us).take ((i + 1) * 3) ++ fcs (l.drop i)) rfl rfl rfl rfl Try.underlying26 uinsz42 rfl rfl rfl (fun w1 hw j v hj => by rw [show (⟨g, i * 3, none⟩ : Addr).add j = ⟨g, i * 3 + j, none⟩ by unfold Addr.add; split <;> simp_all]; exact pm_row hw (k := 0) rfl (by rw [← fcs_drop, List.getElem?_drop] at hj; exact (List.getElem?_append_left (List.getElem?_eq_some_iff.1 hj).1).trans hj)) (by simp only [Nat.min_def]; split <;> omega) (by rw [fcs_len, List.length_drop]) (by rw [List.length_append, fcs_len, fcs_len, List.length_drop, hul]; omega) (fcs_one _) (ins_c1 l hil us hul) ?_
   try dsimp only [List.set_cons_zero, List.set_cons_succ]
   refine TL.end_ (TX.then_ (TC.seq_ (TC.region ?_)))
   refine TL.val rfl rfl rfl (gives_move rfl rfl) ?_
   refine TL.val rfl rfl rfl (gives_move rfl rfl) ?_
   refine TL.val rfl rfl rfl (gives_tailS (k := i) rfl rfl rfl (by omega) Try.underlying26 uinsz42 (by omega) (by omega)) ?_
   refine TL.val rfl rfl rfl (gives_move rfl rfl) ?_
   refine TL.copyRow (k := 0) (cs := x.cells) (m := 1) (xs' := fcs (l.take i ++ x :: l.drop i)) rfl rfl rfl rfl Try.underlying26 uinsz42 rfl rfl rfl (fun w1 hw => by obtain ⟨cu, hcu, _, hct⟩ := (RwG.far hw (fun q hq => by simp [hq]) hne hv).plain; exact plain_cell hcu hct) (by simp only [Nat.min_def]; split <;> omega) rfl (by rw [List.length_append, List.length_take, List.length_append, fcs_len, fcs_len, List.length_drop, hul, fc_cells_len]; omega) (fc_one x) (ins_c2 l x hil us hul) ?_
   try dsimp only [List.set_cons_zero, List.set_cons_succ]
   refine TL.end_ (TX.then_ (TC.seq_ (TC.region ?_)))
   refine TL.val rfl rfl rfl (gives_move rfl rfl) ?_
   refine TL.val rfl rfl rfl (gives_assign rfl rfl) ?_
   refine TL.end_ (TX.then_ (TC.ret_ (TX.then_ret ?_)))
   exact ret_tmp Try.results48 rfl (fun w1 hw => ⟨⟨((some ⟨g, 0, none⟩), c), by omega, hcm⟩, rfl, hw.at_ (k := 0) rfl, hw.mapEnd (fun q hq => by simp [hq]), fun g' hg' => key_new hw (fun q hq => by simp [hq]) hg'⟩)
set_option maxHeartbeats 1000000 in
theorem insf_nil (vb vc : Nat) (x : Fc) (w : World) (hv : RwG 42 3 w vb 1 vc x.cells) : Calls Try.prog 48 #[.slice none 0 0, .int .i64 0, .slice (some ⟨vb, 0, none⟩) 1 vc] w fun e w' => ∃ y : {p : Option Addr × Nat // 1 ≤ p.2 ∧ p.2 ≤ maxLen}, e = .returned (.slice y.1.1 1 y.1.2) ∧ Pm w [.row (.slice y.1.1 1 y.1.2) 42 3 1 x.cells] w' := by
 refine begin_ (vs := [.slice none 0 0, .int .i64 0, .slice (some ⟨vb, 0, none⟩) 1 vc]) Try.func48 rfl rfl rfl ?_ (Pm.start w)
 refine TC.seq_ (TC.region ?_)
 refine TL.val rfl rfl rfl (gives_assign rfl rfl) ?_
 refine TL.end_ (TX.then_ (TC.seq_ (TC.region ?_)))
 refine TL.val rfl rfl rfl (gives_move rfl rfl) ?_
 refine TL.val rfl rfl rfl (gives_move rfl rfl) ?_
 refine TL.val rfl rfl rfl (gives_sliceL (v := .slice none 0 0) rfl rfl rfl (fun w => (cut_lo (a := 0) Try.underlying26 uinsz42 none 0 0 0 rfl (Nat.le_refl 0) w).trans rfl)) ?_
 refine TL.end_ (TX.then_ (TC.seq_ (TC.region ?_)))
 refine TL.val rfl rfl rfl (gives_move rfl rfl) ?_
 refine TL.val rfl rfl rfl (gives_len rfl Try.underlying26 rfl) ?_
 refine TL.val rfl rfl rfl (gives_assign rfl rfl) ?_
 refine TL.end_ (TX.then_ (TC.seq_ (TC.seq_ (TC.region ?_))))
 refine TL.val rfl rfl rfl (gives_move rfl rfl) ?_
 refine TL.val rfl rfl rfl (gives_bin rfl rfl rfl (fun w => bin_eql_f (by omega) w)) ?_
 refine TL.end_ (TX.then_ (TC.condF rfl (TC.skip_ (TX.then_ (TC.seq_ (TC.region ?_))))))
 refine TL.val rfl rfl rfl (gives_move rfl rfl) ?_
 refine TL.val rfl rfl rfl (gives_len rfl Try.underlying26 rfl) ?_
 refine TL.val rfl rfl rfl (gives_assign rfl rfl) ?_
 refine TL.end_ (TX.then_ (TC.seq_ (TC.seq_ (TC.region ?_))))
 refine TL.val rfl rfl rfl (gives_move rfl rfl) ?_
 refine TL.val rfl rfl rfl (gives_move rfl rfl) ?_
 refine TL.val rfl rfl rfl (gives_bin rfl rfl rfl (fun w => bin_eql_t (rfl) w)) ?_
 refine TL.end_ (TX.then_ (TC.condT rfl (TC.seq_ (TC.region ?_))))
 refine TL.val rfl rfl rfl (gives_move rfl rfl) ?_
 refine TL.val rfl rfl rfl (gives_move rfl rfl) ?_
 refine TL.nilrow 42 3 ?_
 refine TL.appendT (k := 0) rfl rfl rfl rfl Try.underlying26 uinel26 rfl rfl rfl (fun w1 hw => ⟨_, Reads.of_own (RwG.far0 hw hv)⟩) (fc_one x) (by show _ * 16 ≤ _; omega) (1) (rfl) (x.cells) (rfl) (fun A25 c25 hA251 hA252 => ?_)
 refine TL.val rfl rfl rfl (gives_assign rfl rfl) ?_
 refine TL.end_ (TX.then_ (TC.ret_ (TX.then_ret ?_)))
 exact ret_tmp Try.results48 rfl (fun w1 hw => ⟨⟨(A25, c25), hA251, hA252⟩, rfl, hw⟩)
theorem insf_any (B : Nat) (A : Option Addr) (c i vb vc : Nat) (l : List Fc) (x : Fc) (w : World) (h : w.ownsRow B 42 3 (.slice A l.length c) l.length (fcs l)) (hB : B ≤ w.heap.size) (hv : RwG 42 3 w vb 1 vc x.cells) (hne : ∀ g, A = some ⟨g, 0, none⟩ → vb ≠ g) (hi : i ≤ l.length) (hl1 : l.length ≤ 100000) :
  Calls Try.prog 48 #[.slice A l.length c, .int .i64 ((i : Nat) : Int), .slice (some ⟨vb, 0, none⟩) 1 vc] w fun e w' => ∃ y : {p : Option Addr × Nat // l.length + 1 ≤ p.2 ∧ p.2 ≤ maxLen}, e = .returned (.slice y.1.1 (l.length + 1) y.1.2) ∧ w'.ownsRow B 42 3 (.slice y.1.1 (l.length + 1) y.1.2) (l.length + 1) (fcs (l.take i ++ x :: l.drop i)) ∧ w.grownBy w' (Value.slice A l.length c).ownBlock ∧ ∀ g', (Value.slice y.1.1 (l.length + 1) y.1.2).ownBlock = some g' → (Value.slice A l.length c).ownBlock = some g' ∨ w.heap.size ≤ g' := by
 rcases h.2 with ⟨e1, h2⟩ | ⟨g, cap, cur, a1, hb, hgg, r⟩
 ·injection e1 with e1 e2 e3
  subst e1 e3
  have h0 : l = [] := List.eq_nil_of_length_eq_zero e2
  subst h0
  have hi0 : i = 0 := by simpa using hi
  subst hi0
  refine (insf_nil vb vc x w hv).mono fun e w1 ⟨y, he, hp⟩ => ⟨y, he, ?_, ?_, fun g' hg' => .inr ?_⟩
  ·exact own_base (hp.at_ (k := 0) rfl) hB
  ·exact ⟨hp.bel.os, hp.bel.tape, hp.bel.output, hp.bel.size, fun k hk _ => hp.bel.block k hk⟩
  ·exact (Pc.lt (hp.at_ (k := 0) rfl) g' hg').1
 ·cases a1
  refine (insf_some g c i vb vc l x w ⟨h.1, .inr ⟨g, c, cur, rfl, Nat.le_refl _, hgg, r⟩⟩ hv (hne g rfl) hi hl1).mono fun e w1 ⟨y, he, h1, h2, h3⟩ => ⟨y, he, own_base h1 hb, h2, fun g' hg' => (h3 g' hg').imp (fun e => by rw [e]; rfl) id⟩

end Go.Proofs.Ytleckflmckbheaa
