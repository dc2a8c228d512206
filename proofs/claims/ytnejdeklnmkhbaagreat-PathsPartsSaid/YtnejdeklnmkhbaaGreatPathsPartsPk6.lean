/-
  Texts of the proof, joined: PtLP.
-/
import Derived.Test.YtnejdeklnmkhbaaGreatPathsPartsPk5
set_option linter.unusedVariables false
set_option linter.unusedSimpArgs false
namespace Go.Proofs.YtnejdeklnmkhbaaGreat
open Go.RowKit
set_option maxRecDepth 20000
theorem plpnm10 : (Tryz.f10.name == "runtime.NumGoroutine") = false := by decide
theorem plpbd10 : Tryz.f10.body.isNone = false := rfl
theorem plpnm11 : (Tryz.f11.name == "runtime.NumGoroutine") = false := by decide
theorem plpbd11 : Tryz.f11.body.isNone = false := rfl
theorem plpnm12 : (Tryz.f12.name == "runtime.NumGoroutine") = false := by decide
theorem plpbd12 : Tryz.f12.body.isNone = false := rfl
theorem plpnm14 : (Tryz.f14.name == "runtime.NumGoroutine") = false := by decide
theorem plpbd14 : Tryz.f14.body.isNone = false := rfl
theorem plpzv36 (w : World) : (zeroValue 36).run Tryz.prog w = .ok (.agg #[.int .i64 0, .int .u32 0, .int .i64 0, .int .i64 0, .slice none 0 0, .slice none 0 0]) w := rfl
theorem plpsz36 (w : World) : (sizeOf 36).run Tryz.prog w = .ok 6 w := rfl
theorem plpone_i64u32i64i64ss {a0 : Int} {a1 : Int} {a2 : Int} {a3 : Int} {a4 : Option Addr} {n4 c4 : Nat} {a5 : Option Addr} {n5 c5 : Nat} : ∀ u ∈ [(.int .i64 a0 : Value), .int .u32 a1, .int .i64 a2, .int .i64 a3, .slice a4 n4 c4, .slice a5 n5 c5], u.oneCell' = true := by
 intro u hu
 simp only [List.mem_cons, List.not_mem_nil, or_false] at hu
 rcases hu with rfl | rfl | rfl | rfl | rfl | rfl <;> rfl
theorem plpfld36_2 (g o : Nat) (w : World) : (Instr.fieldAt 36 (.pointer (some ⟨g, o, none⟩)) 2).run Tryz.prog w = .ok (.pointer (some ⟨g, o + 4, none⟩)) w := by kernel_rfl
theorem plpag33 (w : World) : (isAgg 33).run Tryz.prog w = .ok false w := rfl
theorem plpsz50 (w : World) : (sizeOf 50).run Tryz.prog w = .ok 3 w := rfl
theorem plpag50 (w : World) : (isAgg 50).run Tryz.prog w = .ok true w := rfl
theorem plpzv50 (w : World) : (zeroValue 50).run Tryz.prog w = .ok (.agg #[.int .i64 0, .int .u32 0, .slice none 0 0]) w := rfl
theorem plpfld50_0 (g o : Nat) (w : World) : (Instr.fieldAt 50 (.pointer (some ⟨g, o, none⟩)) 0).run Tryz.prog w = .ok (.pointer (some ⟨g, o + 0, none⟩)) w := by kernel_rfl
theorem plpag3 (w : World) : (isAgg 3).run Tryz.prog w = .ok false w := rfl
theorem plpfld50_2 (g o : Nat) (w : World) : (Instr.fieldAt 50 (.pointer (some ⟨g, o, none⟩)) 2).run Tryz.prog w = .ok (.pointer (some ⟨g, o + 2, none⟩)) w := by kernel_rfl
theorem plpag48 (w : World) : (isAgg 48).run Tryz.prog w = .ok false w := rfl
theorem plpsz3 (w : World) : (sizeOf 3).run Tryz.prog w = .ok 1 w := rfl
theorem plpnm21 : (Tryz.f21.name == "runtime.NumGoroutine") = false := by decide
theorem plpbd21 : Tryz.f21.body.isNone = false := rfl
theorem plpfld50_1 (g o : Nat) (w : World) : (Instr.fieldAt 50 (.pointer (some ⟨g, o, none⟩)) 1).run Tryz.prog w = .ok (.pointer (some ⟨g, o + 1, none⟩)) w := by kernel_rfl
theorem plpag30 (w : World) : (isAgg 30).run Tryz.prog w = .ok false w := rfl
theorem plpfld36_3 (g o : Nat) (w : World) : (Instr.fieldAt 36 (.pointer (some ⟨g, o, none⟩)) 3).run Tryz.prog w = .ok (.pointer (some ⟨g, o + 5, none⟩)) w := by kernel_rfl
theorem plpag34 (w : World) : (isAgg 34).run Tryz.prog w = .ok false w := rfl
theorem plpsz63 (w : World) : (sizeOf 63).run Tryz.prog w = .ok 4 w := rfl
theorem plpag63 (w : World) : (isAgg 63).run Tryz.prog w = .ok true w := rfl
theorem plpzv63 (w : World) : (zeroValue 63).run Tryz.prog w = .ok (.agg #[.int .i64 0, .int .u32 0, .int .u32 0, .slice none 0 0]) w := rfl
theorem plpfld63_3 (g o : Nat) (w : World) : (Instr.fieldAt 63 (.pointer (some ⟨g, o, none⟩)) 3).run Tryz.prog w = .ok (.pointer (some ⟨g, o + 3, none⟩)) w := by kernel_rfl
theorem plpfld63_0 (g o : Nat) (w : World) : (Instr.fieldAt 63 (.pointer (some ⟨g, o, none⟩)) 0).run Tryz.prog w = .ok (.pointer (some ⟨g, o + 0, none⟩)) w := by kernel_rfl
theorem plpfld63_1 (g o : Nat) (w : World) : (Instr.fieldAt 63 (.pointer (some ⟨g, o, none⟩)) 1).run Tryz.prog w = .ok (.pointer (some ⟨g, o + 1, none⟩)) w := by kernel_rfl
theorem plpfld63_2 (g o : Nat) (w : World) : (Instr.fieldAt 63 (.pointer (some ⟨g, o, none⟩)) 2).run Tryz.prog w = .ok (.pointer (some ⟨g, o + 2, none⟩)) w := by kernel_rfl
theorem plpnm22 : (Tryz.f22.name == "runtime.NumGoroutine") = false := by decide
theorem plpbd22 : Tryz.f22.body.isNone = false := rfl
theorem plpsz30 (w : World) : (sizeOf 30).run Tryz.prog w = .ok 1 w := rfl
set_option maxHeartbeats 1000000 in
theorem pathsParts_walk (A0 : Option Addr) (n0 c0 : Nat) (l0 : List Int) (w : World) (hb0 : Byt w w.heap.size A0 n0 l0) (hc0 : n0 ≤ c0) (hm0 : c0 ≤ maxLen) :
  Calls Tryz.prog 7 #[.slice A0 n0 c0] w fun e w' => e = .returned (.bool true) ∧ Below w.heap.size w w' := by
 have hn0 : (n0 : Int) ≤ 9223372036854775807 := by unfold maxLen at hm0; omega
 refine begin_ (vs := [.slice A0 n0 c0]) Tryz.func7 rfl rfl rfl ?_ (Pm.start w)
 refine TC.seq_ (TC.region ?_)
 refine TL.as_ ?_
 refine TL.end_ (TX.then_ (TC.seq_ (TC.seq_ (TC.region ?_))))
 refine TL.pcall1 (r := .bool true) rfl rfl rfl rfl rfl Tryz.func10 plpnm10 plpbd10 (fun w1 hw => awake_true w1) ?_
 refine TL.val rfl rfl rfl (gives_boolnot rfl rfl) ?_
 refine TL.end_ (TX.then_ (TC.condF rfl (TC.skip_ (TX.then_ (TC.seq_ (TC.region ?_))))))
 refine TL.mv ?_
 refine TL.callNew (I := Pm w []) (p := fun cb w => Cod w cb) rfl rfl rfl rfl rfl Tryz.func11 plpnm11 plpbd11 (fun w1 hw => (roll_any A0 n0 c0 l0 w1 ((hb0.below hw.bel).more hw.bel.size) hc0 hn0).mono fun e w2 ⟨h1, h2, h3⟩ => ⟨h1, h2, cod_cells h2, h3⟩) cod_stab (fun wn hwn => ?_)
 have hwb := hwn.bel
 refine TL.as_ ?_
 refine TL.end_ (TX.then_ (TC.seq_ (TC.region ?_)))
 refine TL.mv ?_
 refine TL.pcallCod (k := 0) (α := {y : (Option Addr × Nat) × List Rs // OneOk 24 true y.2 ∧ y.2.length ≤ y.1.2 ∧ y.1.2 ≤ maxLen}) (fun x => .slice x.1.1.1 x.1.2.length x.1.1.2) (fun x => [.row (.slice x.1.1.1 x.1.2.length x.1.1.2) 47 17 x.1.2.length (flat Rs.cells x.1.2)]) rfl rfl rfl rfl rfl Tryz.func12 plpnm12 plpbd12 rfl (fun w1 hw hC1 => one_cod wn.heap.size w1 hC1 24 true (by decide)) ?_
 rintro ⟨⟨⟨Axs, cxs⟩, xs⟩, hxs, hxsc, hxsm⟩
 dsimp only [List.cons_append, List.nil_append]
 dsimp only at hxs hxsc hxsm ⊢
 have hxslen := hxs.2.2.2.1
 have hxsok : ∀ r ∈ xs, r.Ok := fun r hr => (hxs.1 r hr).2.1
 refine TL.as_ ?_
 refine TL.end_ (TX.then_ (TC.seq_ (TC.region ?_)))
 refine TL.mv ?_
 refine TL.call (α := {y : Mp × Int // BuildOk xs y.1 y.2}) (r := fun x => .tuple #[.agg x.1.1.cells.toArray, .int .i64 x.1.2]) (I' := fun x => Pm wn ([.row (.slice Axs xs.length cxs) 47 17 xs.length (flat Rs.cells xs), .abs wn.heap.size (fun w => Cod w wn.heap.size)] ++ mpsP (x.1.1 :: []))) rfl rfl rfl rfl rfl Tryz.func14 plpnm14 plpbd14 (fun w1 hw => (build_any Axs cxs xs w1 (pm_rd hw (k := 0) rfl) (by omega) hxsok).mono fun e w2 ⟨x, h1, h2⟩ => ⟨x, h1, Pm.mpsIn (P := [.row (.slice Axs xs.length cxs) 47 17 xs.length (flat Rs.cells xs), .abs wn.heap.size (fun w => Cod w wn.heap.size)]) (ms := []) (hw.addAll h2 (pcs_noAbs _))⟩) ?_
 rintro ⟨⟨m, em⟩, hbm⟩
 dsimp only at hbm ⊢
 have hml := build_len hxsok hbm
 refine TL.fact (p := MpA m) (fun w1 hw => MpA.of hw (fun q hq => List.mem_of_mem_drop (i := 2) (by exact mps_mem (by simp) hq))) (fun hmA => ?_)
 refine TL.mv ?_
 refine TL.ex ?_
 refine TL.ex ?_
 refine TL.pnew rfl rfl rfl (exec_alloc (cs := [.int .i64 0, .int .u32 0, .int .i64 0, .int .i64 0, .slice none 0 0, .slice none 0 0]) rfl plpzv36 rfl) (fun g5 => ?_)
 refine TL.pstore (k := 0) (vs := m.cells) rfl rfl rfl rfl rfl rfl rfl plpsz36 plpone_i64u32i64i64ss (by show 6 ≤ 6; decide) (L' := ([.blk g5 36 m.cells, .row (.slice Axs xs.length cxs) 47 17 xs.length (flat Rs.cells xs), .abs wn.heap.size (fun w => Cod w wn.heap.size)] ++ mpsP [m])) rfl ?_
 refine TL.as_ ?_
 refine TL.end_ (TX.then_ (TC.seq_ (TC.seq_ ?_)))
 have hem := one_err hxs (by decide) hbm.1
 refine TC.region ?_
 refine TL.mv ?_
 refine TL.val rfl rfl rfl (gives_bin rfl rfl rfl (fun w => bin_neq_f (by omega) w)) ?_
 refine TL.end_ (TX.then_ (TC.condF rfl (TC.skip_ (TX.then_ (TC.seq_ (TC.seq_ ?_))))))
 have hmh := hml.hops
 obtain ⟨hgh, hge⟩ := build_ok hbm hem
 have hn3 := no_three hbm.1 hem
 refine TC.region ?_
 refine TL.val rfl rfl rfl (gives_field (v := .pointer (some ⟨g5, 4, none⟩)) rfl rfl (fun w => plpfld36_2 _ _ w)) ?_
 refine TL.val rfl rfl rfl (pm_load (k := 0) (i := 4) rfl rfl plpag33 rfl rfl) ?_
 refine TL.val rfl rfl rfl (gives_len rfl Tryz.underlying33 rfl) ?_
 refine TL.mv ?_
 refine TL.end_ (TX.then_ (TC.block ?_))
 refine TC.loop_ (α := {i : Nat // i ≤ m.hops.l.length}) (fun y => [(3, .pointer (some ⟨wn.heap.size, 0, none⟩)), (4, .slice Axs xs.length cxs), (5, .pointer (some ⟨g5, 0, none⟩)), (42, .slice m.hops.A m.hops.l.length m.hops.c), (43, .int .i64 (m.hops.l.length : Nat)), (44, .int .i64 ((y.1 : Nat) : Int))]) (fun y => Pm wn ([.blk g5 36 m.cells, .row (.slice Axs xs.length cxs) 47 17 xs.length (flat Rs.cells xs), .abs wn.heap.size (fun w => Cod w wn.heap.size)] ++ mpsP [m])) (fun y => m.hops.l.length - y.1) (⟨0, Nat.zero_le _⟩) ⟨rfl, rfl, rfl, rfl, rfl, rfl, trivial⟩ (fun w1 hw => hw) ?_
 rintro ⟨i, hi⟩
 try dsimp only at hi ⊢
 refine TC.seq_ (TC.region ?_)
 refine TL.vsplit rfl rfl rfl (gives_bin rfl rfl rfl (fun w => bin_lss w)) (fun h45 => ?_) (fun h45 => ?_)
 ·have q45 := of_decide_eq_true h45
  refine TL.end_ (TX.then_ (TC.seq_ (TC.condT rfl (TC.skip_ (TX.then_ (TC.seq_ (TC.block (TC.seq_ (TC.region ?_)))))))))
  refine TL.mv ?_
  have hi47 : i < m.hops.l.length := by omega
  obtain ⟨x47, hx47⟩ : ∃ x47, m.hops.l[i]? = some x47 := ⟨_, List.getElem?_eq_getElem hi47⟩
  have hA47 := hmA.hops (by omega)
  refine TL.val rfl rfl rfl (gives_at (v := .pointer (some ⟨(blkOf m.hops.A), 0 + i * 3, none⟩)) rfl rfl rfl (fun w => at_el Tryz.underlying33 plpsz50 hA47 _ _ i (by omega) rfl w)) ?_
  refine TL.val rfl rfl rfl (gives_loadR (off := 0 + i * 3) rfl rfl plpag50 plpsz50 (hp_cel.len x47) (fun w1 hw j9 u9 h9 => flat_rowM hp_cel hw (List.mem_of_mem_drop (i := 3) (by exact mps_hops (by simp))) hA47 hx47 j9 u9 h9)) ?_
  refine TL.pnew rfl rfl rfl (exec_alloc (cs := [.int .i64 0, .int .u32 0, .slice none 0 0]) rfl plpzv50 rfl) (fun g8 => ?_)
  refine TL.as_ ?_
  refine TL.pstore (k := 0) (vs := x47.cells) rfl rfl rfl rfl rfl rfl rfl plpsz50 (hp_cel.one _) (by show 3 ≤ 3; decide) (L' := ([.blk g8 50 x47.cells, .blk g5 36 m.cells, .row (.slice Axs xs.length cxs) 47 17 xs.length (flat Rs.cells xs), .abs wn.heap.size (fun w => Cod w wn.heap.size)] ++ mpsP [m])) rfl ?_
  refine TL.end_ (TX.then_ (TC.seq_ (TC.seq_ (TC.region ?_))))
  refine TL.val rfl rfl rfl (gives_field (v := .pointer (some ⟨g5, 4, none⟩)) rfl rfl (fun w => plpfld36_2 _ _ w)) ?_
  refine TL.val rfl rfl rfl (pm_load (k := 1) (i := 4) rfl rfl plpag33 rfl rfl) ?_
  refine TL.val rfl rfl rfl (gives_len rfl Tryz.underlying33 rfl) ?_
  refine TL.mv ?_
  refine TL.end_ (TX.then_ (TC.block ?_))
  refine TC.loop_ (α := {k : Nat // k ≤ m.hops.l.length}) (fun y => [(3, .pointer (some ⟨wn.heap.size, 0, none⟩)), (4, .slice Axs xs.length cxs), (5, .pointer (some ⟨g5, 0, none⟩)), (7, .int .i64 ((i : Nat) : Int)), (8, .pointer (some ⟨g8, 0, none⟩)), (42, .slice m.hops.A m.hops.l.length m.hops.c), (43, .int .i64 (m.hops.l.length : Nat)), (44, .int .i64 ((i : Nat) : Int)), (50, .slice m.hops.A m.hops.l.length m.hops.c), (51, .int .i64 (m.hops.l.length : Nat)), (52, .int .i64 ((y.1 : Nat) : Int))]) (fun y => Pm wn ([.blk g8 50 x47.cells, .blk g5 36 m.cells, .row (.slice Axs xs.length cxs) 47 17 xs.length (flat Rs.cells xs), .abs wn.heap.size (fun w => Cod w wn.heap.size)] ++ mpsP [m])) (fun y => m.hops.l.length - y.1) (⟨0, Nat.zero_le _⟩) ⟨rfl, rfl, rfl, rfl, rfl, rfl, rfl, rfl, rfl, rfl, rfl, trivial⟩ (fun w1 hw => hw) ?_
  rintro ⟨k, hk⟩
  try dsimp only at hk ⊢
  refine TC.seq_ (TC.region ?_)
  refine TL.vsplit rfl rfl rfl (gives_bin rfl rfl rfl (fun w => bin_lss w)) (fun h53 => ?_) (fun h53 => ?_)
  ·have q53 := of_decide_eq_true h53
   refine TL.end_ (TX.then_ (TC.seq_ (TC.condT rfl (TC.skip_ (TX.then_ (TC.seq_ (TC.block (TC.seq_ (TC.region ?_)))))))))
   refine TL.mv ?_
   have hi55 : k < m.hops.l.length := by omega
   obtain ⟨x55, hx55⟩ : ∃ x55, m.hops.l[k]? = some x55 := ⟨_, List.getElem?_eq_getElem hi55⟩
   have hA55 := hmA.hops (by omega)
   refine TL.val rfl rfl rfl (gives_at (v := .pointer (some ⟨(blkOf m.hops.A), 0 + k * 3, none⟩)) rfl rfl rfl (fun w => at_el Tryz.underlying33 plpsz50 hA55 _ _ k (by omega) rfl w)) ?_
   refine TL.val rfl rfl rfl (gives_loadR (off := 0 + k * 3) rfl rfl plpag50 plpsz50 (hp_cel.len x55) (fun w1 hw j9 u9 h9 => flat_rowM hp_cel hw (List.mem_of_mem_drop (i := 4) (by exact mps_hops (by simp))) hA55 hx55 j9 u9 h9)) ?_
   refine TL.pnew rfl rfl rfl (exec_alloc (cs := [.int .i64 0, .int .u32 0, .slice none 0 0]) rfl plpzv50 rfl) (fun g10 => ?_)
   refine TL.as_ ?_
   refine TL.pstore (k := 0) (vs := x55.cells) rfl rfl rfl rfl rfl rfl rfl plpsz50 (hp_cel.one _) (by show 3 ≤ 3; decide) (L' := ([.blk g10 50 x55.cells, .blk g8 50 x47.cells, .blk g5 36 m.cells, .row (.slice Axs xs.length cxs) 47 17 xs.length (flat Rs.cells xs), .abs wn.heap.size (fun w => Cod w wn.heap.size)] ++ mpsP [m])) rfl ?_
   refine TL.end_ (TX.then_ (TC.seq_ (TC.seq_ (TC.region ?_))))
   refine TL.mv ?_
   refine TL.mv ?_
   refine TL.vsplit rfl rfl rfl (gives_bin rfl rfl rfl (fun w => bin_eql w)) (fun h59 => ?_) (fun h59 => ?_)
   ·have q59 := of_decide_eq_true h59
    iterate 7 (first | refine TL.of ?_ | refine TL.mv ?_ | refine TL.pk ?_)
    refine TL.end_ (TX.then_ (TC.condT rfl (TC.exit_ (TX.then_exit (TX.in_same (TX.then_ (TC.region ?_)))))))
    refine TL.val rfl rfl rfl (gives_bin rfl rfl rfl (fun w => bin_add_ (r := ((k + 1 : Nat) : Int)) (by simp only [IntKind.wrap_i64]; omega) w)) ?_
    refine TL.mv ?_
    refine TL.end_ ?_
    exact TX.round (⟨k + 1, by omega⟩) (by show m.hops.l.length - (k + 1) < m.hops.l.length - k; omega) ⟨rfl, rfl, rfl, rfl, rfl, rfl, rfl, rfl, rfl, rfl, rfl, trivial⟩ (fun w1 hw => hw.sel (.cons _ (.cons_cons _ (.cons_cons _ (.cons_cons _ (.cons_cons _ (List.Sublist.refl _)))))))
   ·have q59 := of_decide_eq_false h59
    refine TL.mv ?_
    refine TL.gu ?_
    refine TL.val rfl rfl rfl (gives_field (v := .pointer (some ⟨g8, 0, none⟩)) rfl rfl (fun w => plpfld50_0 _ _ w)) ?_
    refine TL.gu ?_
    refine TL.val rfl rfl rfl (pm_load (k := 1) (i := 0) rfl rfl plpag3 rfl rfl) ?_
    refine TL.gu ?_
    refine TL.val rfl rfl rfl (gives_field (v := .pointer (some ⟨g10, 0, none⟩)) rfl rfl (fun w => plpfld50_0 _ _ w)) ?_
    refine TL.gu ?_
    refine TL.val rfl rfl rfl (pm_load (k := 0) (i := 0) rfl rfl plpag3 rfl rfl) ?_
    refine TL.gu ?_
    refine TL.vsplit rfl rfl rfl (gives_bin rfl rfl rfl (fun w => bin_neq w)) (fun h65 => ?_) (fun h65 => ?_)
    ·have q65 := of_decide_eq_true h65
     refine TL.pk ?_
     refine TL.end_ (TX.then_ (TC.condT rfl (TC.exit_ (TX.then_exit (TX.in_same (TX.then_ (TC.region ?_)))))))
     refine TL.val rfl rfl rfl (gives_bin rfl rfl rfl (fun w => bin_add_ (r := ((k + 1 : Nat) : Int)) (by simp only [IntKind.wrap_i64]; omega) w)) ?_
     refine TL.mv ?_
     refine TL.end_ ?_
     exact TX.round (⟨k + 1, by omega⟩) (by show m.hops.l.length - (k + 1) < m.hops.l.length - k; omega) ⟨rfl, rfl, rfl, rfl, rfl, rfl, rfl, rfl, rfl, rfl, rfl, trivial⟩ (fun w1 hw => hw.sel (.cons _ (.cons_cons _ (.cons_cons _ (.cons_cons _ (.cons_cons _ (List.Sublist.refl _)))))))
    ·have q65 := of_decide_eq_false h65
     refine TL.pk ?_
     refine TL.end_ (TX.then_ (TC.condF rfl (TC.skip_ (TX.then_ (TC.seq_ ?_)))))
     have hfl7 := (hml.fh x47 (List.mem_of_getElem? hx47)).1
     have hfl8 := (hml.fh x55 (List.mem_of_getElem? hx55)).1
     refine TC.region ?_
     refine TL.val rfl rfl rfl (gives_field (v := .pointer (some ⟨g8, 2, none⟩)) rfl rfl (fun w => plpfld50_2 _ _ w)) ?_
     refine TL.val rfl rfl rfl (pm_load (k := 1) (i := 2) rfl rfl plpag48 rfl rfl) ?_
     refine TL.val rfl rfl rfl (gives_len rfl Tryz.underlying48 rfl) ?_
     refine TL.mv ?_
     refine TL.end_ (TX.then_ (TC.block ?_))
     refine TC.loop_ (α := {p : Nat // p ≤ x47.fl.l.length}) (fun y => [(3, .pointer (some ⟨wn.heap.size, 0, none⟩)), (4, .slice Axs xs.length cxs), (5, .pointer (some ⟨g5, 0, none⟩)), (7, .int .i64 ((i : Nat) : Int)), (8, .pointer (some ⟨g8, 0, none⟩)), (9, .int .i64 ((k : Nat) : Int)), (10, .pointer (some ⟨g10, 0, none⟩)), (42, .slice m.hops.A m.hops.l.length m.hops.c), (43, .int .i64 (m.hops.l.length : Nat)), (44, .int .i64 ((i : Nat) : Int)), (50, .slice m.hops.A m.hops.l.length m.hops.c), (51, .int .i64 (m.hops.l.length : Nat)), (52, .int .i64 ((k : Nat) : Int)), (68, .slice x47.fl.A x47.fl.l.length x47.fl.c), (69, .int .i64 (x47.fl.l.length : Nat)), (70, .int .i64 ((y.1 : Nat) : Int))]) (fun y => Pm wn ([.blk g10 50 x55.cells, .blk g8 50 x47.cells, .blk g5 36 m.cells, .row (.slice Axs xs.length cxs) 47 17 xs.length (flat Rs.cells xs), .abs wn.heap.size (fun w => Cod w wn.heap.size)] ++ mpsP [m])) (fun y => x47.fl.l.length - y.1) (⟨0, Nat.zero_le _⟩) ⟨rfl, rfl, rfl, rfl, rfl, rfl, rfl, rfl, rfl, rfl, rfl, rfl, rfl, rfl, rfl, rfl, trivial⟩ (fun w1 hw => hw) ?_
     rintro ⟨p, hp⟩
     try dsimp only at hp ⊢
     refine TC.seq_ (TC.region ?_)
     refine TL.vsplit rfl rfl rfl (gives_bin rfl rfl rfl (fun w => bin_lss w)) (fun h71 => ?_) (fun h71 => ?_)
     ·have q71 := of_decide_eq_true h71
      refine TL.end_ (TX.then_ (TC.seq_ (TC.condT rfl (TC.skip_ (TX.then_ (TC.seq_ (TC.block (TC.seq_ (TC.region ?_)))))))))
      have hi72 : p < x47.fl.l.length := by omega
      obtain ⟨x72, hx72⟩ : ∃ x72, x47.fl.l[p]? = some x72 := ⟨_, List.getElem?_eq_getElem hi72⟩
      have hA72 := hmA.fh x47 (List.mem_of_getElem? hx47) (by omega)
      refine TL.val rfl rfl rfl (gives_at (v := .pointer (some ⟨(blkOf x47.fl.A), 0 + p * 1, none⟩)) rfl rfl rfl (fun w => at_el Tryz.underlying48 plpsz3 hA72 _ _ p (by omega) rfl w)) ?_
      refine TL.val rfl rfl rfl (gives_load (v := .int .i64 x72) rfl rfl plpag3 (fun w1 hw => flat_rowM (ic_cel .i64) hw (List.mem_of_mem_drop (i := 5) (by exact mps_flh (by simp) (List.mem_of_getElem? hx47))) hA72 hx72 0 _ rfl)) ?_
      refine TL.as_ ?_
      refine TL.end_ (TX.then_ (TC.seq_ (TC.region ?_)))
      refine TL.val rfl rfl rfl (gives_field (v := .pointer (some ⟨g10, 2, none⟩)) rfl rfl (fun w => plpfld50_2 _ _ w)) ?_
      refine TL.val rfl rfl rfl (pm_load (k := 0) (i := 2) rfl rfl plpag48 rfl rfl) ?_
      refine TL.val rfl rfl rfl (gives_len rfl Tryz.underlying48 rfl) ?_
      refine TL.mv ?_
      refine TL.end_ (TX.then_ (TC.block ?_))
      refine TC.loop_ (α := {q : Nat // q ≤ x55.fl.l.length}) (fun y => [(3, .pointer (some ⟨wn.heap.size, 0, none⟩)), (4, .slice Axs xs.length cxs), (5, .pointer (some ⟨g5, 0, none⟩)), (7, .int .i64 ((i : Nat) : Int)), (8, .pointer (some ⟨g8, 0, none⟩)), (9, .int .i64 ((k : Nat) : Int)), (10, .pointer (some ⟨g10, 0, none⟩)), (12, .int .i64 x72), (42, .slice m.hops.A m.hops.l.length m.hops.c), (43, .int .i64 (m.hops.l.length : Nat)), (44, .int .i64 ((i : Nat) : Int)), (50, .slice m.hops.A m.hops.l.length m.hops.c), (51, .int .i64 (m.hops.l.length : Nat)), (52, .int .i64 ((k : Nat) : Int)), (68, .slice x47.fl.A x47.fl.l.length x47.fl.c), (69, .int .i64 (x47.fl.l.length : Nat)), (70, .int .i64 ((p : Nat) : Int)), (75, .slice x55.fl.A x55.fl.l.length x55.fl.c), (76, .int .i64 (x55.fl.l.length : Nat)), (77, .int .i64 ((y.1 : Nat) : Int))]) (fun y => Pm wn ([.blk g10 50 x55.cells, .blk g8 50 x47.cells, .blk g5 36 m.cells, .row (.slice Axs xs.length cxs) 47 17 xs.length (flat Rs.cells xs), .abs wn.heap.size (fun w => Cod w wn.heap.size)] ++ mpsP [m])) (fun y => x55.fl.l.length - y.1) (⟨0, Nat.zero_le _⟩) ⟨rfl, rfl, rfl, rfl, rfl, rfl, rfl, rfl, rfl, rfl, rfl, rfl, rfl, rfl, rfl, rfl, rfl, rfl, rfl, rfl, trivial⟩ (fun w1 hw => hw) ?_
      rintro ⟨q, hq⟩
      try dsimp only at hq ⊢
      refine TC.seq_ (TC.region ?_)
      refine TL.vsplit rfl rfl rfl (gives_bin rfl rfl rfl (fun w => bin_lss w)) (fun h78 => ?_) (fun h78 => ?_)
      ·have q78 := of_decide_eq_true h78
       refine TL.end_ (TX.then_ (TC.seq_ (TC.condT rfl (TC.skip_ (TX.then_ (TC.seq_ (TC.block (TC.seq_ (TC.region ?_)))))))))
       have hi79 : q < x55.fl.l.length := by omega
       obtain ⟨x79, hx79⟩ : ∃ x79, x55.fl.l[q]? = some x79 := ⟨_, List.getElem?_eq_getElem hi79⟩
       have hA79 := hmA.fh x55 (List.mem_of_getElem? hx55) (by omega)
       refine TL.val rfl rfl rfl (gives_at (v := .pointer (some ⟨(blkOf x55.fl.A), 0 + q * 1, none⟩)) rfl rfl rfl (fun w => at_el Tryz.underlying48 plpsz3 hA79 _ _ q (by omega) rfl w)) ?_
       refine TL.val rfl rfl rfl (gives_load (v := .int .i64 x79) rfl rfl plpag3 (fun w1 hw => flat_rowM (ic_cel .i64) hw (List.mem_of_mem_drop (i := 5) (by exact mps_flh (by simp) (List.mem_of_getElem? hx55))) hA79 hx79 0 _ rfl)) ?_
       refine TL.as_ ?_
       refine TL.end_ (TX.then_ (TC.seq_ (TC.region ?_)))
       refine TL.mv ?_
       refine TL.mv ?_
       refine TL.vsplit rfl rfl rfl (gives_bin rfl rfl rfl (fun w => bin_eql w)) (fun h83 => ?_) (fun h83 => ?_)
       ·have q83 := of_decide_eq_true h83
        exfalso; exact hop_apart hgh hx47 hx55 (by omega) (by omega) (List.mem_of_getElem? hx72) (by rw [q83]; exact List.mem_of_getElem? hx79)
       ·have q83 := of_decide_eq_false h83
        refine TL.end_ (TX.then_ (TC.condF rfl (TC.skip_ (TX.in_normal (TX.then_ (TC.region ?_))))))
        refine TL.val rfl rfl rfl (gives_bin rfl rfl rfl (fun w => bin_add_ (r := ((q + 1 : Nat) : Int)) (by simp only [IntKind.wrap_i64]; omega) w)) ?_
        refine TL.mv ?_
        refine TL.end_ ?_
        exact TX.round (⟨q + 1, by omega⟩) (by show x55.fl.l.length - (q + 1) < x55.fl.l.length - q; omega) ⟨rfl, rfl, rfl, rfl, rfl, rfl, rfl, rfl, rfl, rfl, rfl, rfl, rfl, rfl, rfl, rfl, rfl, rfl, rfl, rfl, trivial⟩ (fun w1 hw => hw)
      ·have q78 := of_decide_eq_false h78
       refine TL.end_ (TX.then_ (TC.seq_ (TC.condF rfl (TC.exit_ (TX.then_exit (TX.then_exit (TX.in_same (TX.in_normal (TX.then_ (TC.region ?_))))))))))
       refine TL.val rfl rfl rfl (gives_bin rfl rfl rfl (fun w => bin_add_ (r := ((p + 1 : Nat) : Int)) (by simp only [IntKind.wrap_i64]; omega) w)) ?_
       refine TL.mv ?_
       refine TL.end_ ?_
       exact TX.round (⟨p + 1, by omega⟩) (by show x47.fl.l.length - (p + 1) < x47.fl.l.length - p; omega) ⟨rfl, rfl, rfl, rfl, rfl, rfl, rfl, rfl, rfl, rfl, rfl, rfl, rfl, rfl, rfl, rfl, trivial⟩ (fun w1 hw => hw)
     ·have q71 := of_decide_eq_false h71
      refine TL.end_ (TX.then_ (TC.seq_ (TC.condF rfl (TC.exit_ (TX.then_exit (TX.then_exit (TX.in_same (TX.in_normal (TX.then_ (TC.region ?_))))))))))
      refine TL.val rfl rfl rfl (gives_bin rfl rfl rfl (fun w => bin_add_ (r := ((k + 1 : Nat) : Int)) (by simp only [IntKind.wrap_i64]; omega) w)) ?_
      refine TL.mv ?_
      refine TL.end_ ?_
      exact TX.round (⟨k + 1, by omega⟩) (by show m.hops.l.length - (k + 1) < m.hops.l.length - k; omega) ⟨rfl, rfl, rfl, rfl, rfl, rfl, rfl, rfl, rfl, rfl, rfl, trivial⟩ (fun w1 hw => hw.sel (.cons _ (.cons_cons _ (.cons_cons _ (.cons_cons _ (.cons_cons _ (List.Sublist.refl _)))))))
  ·have q53 := of_decide_eq_false h53
   refine TL.end_ (TX.then_ (TC.seq_ (TC.condF rfl (TC.exit_ (TX.then_exit (TX.then_exit (TX.in_same (TX.then_ (TC.seq_ ?_)))))))))
   have hfl6 := (hml.fh x47 (List.mem_of_getElem? hx47)).1
   refine TC.region ?_
   refine TL.val rfl rfl rfl (gives_field (v := .pointer (some ⟨g8, 2, none⟩)) rfl rfl (fun w => plpfld50_2 _ _ w)) ?_
   refine TL.val rfl rfl rfl (pm_load (k := 0) (i := 2) rfl rfl plpag48 rfl rfl) ?_
   refine TL.val rfl rfl rfl (gives_len rfl Tryz.underlying48 rfl) ?_
   refine TL.mv ?_
   refine TL.end_ (TX.then_ (TC.block ?_))
   refine TC.loop_ (α := {p : Nat // p ≤ x47.fl.l.length}) (fun y => [(3, .pointer (some ⟨wn.heap.size, 0, none⟩)), (4, .slice Axs xs.length cxs), (5, .pointer (some ⟨g5, 0, none⟩)), (7, .int .i64 ((i : Nat) : Int)), (8, .pointer (some ⟨g8, 0, none⟩)), (42, .slice m.hops.A m.hops.l.length m.hops.c), (43, .int .i64 (m.hops.l.length : Nat)), (44, .int .i64 ((i : Nat) : Int)), (88, .slice x47.fl.A x47.fl.l.length x47.fl.c), (89, .int .i64 (x47.fl.l.length : Nat)), (90, .int .i64 ((y.1 : Nat) : Int))]) (fun y => Pm wn ([.blk g8 50 x47.cells, .blk g5 36 m.cells, .row (.slice Axs xs.length cxs) 47 17 xs.length (flat Rs.cells xs), .abs wn.heap.size (fun w => Cod w wn.heap.size)] ++ mpsP [m])) (fun y => x47.fl.l.length - y.1) (⟨0, Nat.zero_le _⟩) ⟨rfl, rfl, rfl, rfl, rfl, rfl, rfl, rfl, rfl, rfl, rfl, trivial⟩ (fun w1 hw => hw) ?_
   rintro ⟨p, hp⟩
   try dsimp only at hp ⊢
   refine TC.seq_ (TC.region ?_)
   refine TL.vsplit rfl rfl rfl (gives_bin rfl rfl rfl (fun w => bin_lss w)) (fun h91 => ?_) (fun h91 => ?_)
   ·have q91 := of_decide_eq_true h91
    refine TL.end_ (TX.then_ (TC.seq_ (TC.condT rfl (TC.skip_ (TX.then_ (TC.seq_ (TC.block (TC.seq_ (TC.region ?_)))))))))
    have hi92 : p < x47.fl.l.length := by omega
    obtain ⟨x92, hx92⟩ : ∃ x92, x47.fl.l[p]? = some x92 := ⟨_, List.getElem?_eq_getElem hi92⟩
    have hA92 := hmA.fh x47 (List.mem_of_getElem? hx47) (by omega)
    refine TL.val rfl rfl rfl (gives_at (v := .pointer (some ⟨(blkOf x47.fl.A), 0 + p * 1, none⟩)) rfl rfl rfl (fun w => at_el Tryz.underlying48 plpsz3 hA92 _ _ p (by omega) rfl w)) ?_
    refine TL.val rfl rfl rfl (gives_load (v := .int .i64 x92) rfl rfl plpag3 (fun w1 hw => flat_rowM (ic_cel .i64) hw (List.mem_of_mem_drop (i := 4) (by exact mps_flh (by simp) (List.mem_of_getElem? hx47))) hA92 hx92 0 _ rfl)) ?_
    refine TL.as_ ?_
    refine TL.end_ (TX.then_ (TC.seq_ ?_))
    have hho := hop_at hxsok hn3 hgh (List.mem_of_getElem? hx47) (List.mem_of_getElem? hx92)
    refine TC.region ?_
    refine TL.mv ?_
    refine TL.mv ?_
    refine TL.val rfl rfl rfl (gives_field (v := .pointer (some ⟨g8, 0, none⟩)) rfl rfl (fun w => plpfld50_0 _ _ w)) ?_
    refine TL.val rfl rfl rfl (pm_load (k := 0) (i := 0) rfl rfl plpag3 rfl rfl) ?_
    refine TL.pcall1 (r := .tuple #[.int .u32 (atA xs x92 x47.ttl), .int .i64 (atS xs x92 x47.ttl)]) rfl rfl rfl rfl rfl Tryz.func21 plpnm21 plpbd21 (fun w1 hw => at_any Axs cxs xs x92 x47.ttl w1 (pm_rd hw (k := 2) rfl) (by omega) hxsok hho.2.1) ?_
    iterate 5 (first | refine TL.as_ ?_ | refine TL.ex ?_ | refine TL.mv ?_)
    refine TL.end_ (TX.then_ (TC.seq_ (TC.region ?_)))
    refine TL.mv ?_
    refine TL.val rfl rfl rfl (gives_field (v := .pointer (some ⟨g8, 1, none⟩)) rfl rfl (fun w => plpfld50_1 _ _ w)) ?_
    refine TL.val rfl rfl rfl (pm_load (k := 0) (i := 1) rfl rfl plpag30 rfl rfl) ?_
    refine TL.vsplit rfl rfl rfl (gives_bin rfl rfl rfl (fun w => bin_neq w)) (fun h105 => ?_) (fun h105 => ?_)
    ·have q105 := of_decide_eq_true h105
     iterate 15 (first | refine TL.of ?_ | refine TL.offU rfl rfl rfl rfl rfl ?_ | refine TL.mv ?_ | refine TL.pk ?_)
     refine TL.end_ (TX.then_ (TC.condT rfl (TC.seq_ (TC.region ?_))))
     refine TL.as_ ?_
     refine TL.end_ (TX.then_ (TC.ret_ (TX.in_ret (TX.then_ret (TX.then_ret (TX.in_ret (TX.in_ret (TX.then_ret (TX.then_ret (TX.in_ret (TX.then_ret ?_)))))))))))
     exfalso
     omega
    ·have q105 := of_decide_eq_false h105
     iterate 4 (first | refine TL.gu ?_ | refine TL.mv ?_)
     refine TL.vsplit rfl rfl rfl (gives_bin rfl rfl rfl (fun w => bin_neq w)) (fun h108 => ?_) (fun h108 => ?_)
     ·have q108 := of_decide_eq_true h108
      iterate 5 (first | refine TL.gu ?_ | refine TL.mv ?_)
      refine TL.vsplit rfl rfl rfl (gives_bin rfl rfl rfl (fun w => bin_neq w)) (fun h111 => ?_) (fun h111 => ?_)
      ·have q111 := of_decide_eq_true h111
       iterate 10 (first | refine TL.of ?_ | refine TL.pk ?_ | refine TL.gu ?_ | refine TL.mv ?_)
       refine TL.end_ (TX.then_ (TC.condT rfl (TC.seq_ (TC.region ?_))))
       refine TL.as_ ?_
       refine TL.end_ (TX.then_ (TC.ret_ (TX.in_ret (TX.then_ret (TX.then_ret (TX.in_ret (TX.in_ret (TX.then_ret (TX.then_ret (TX.in_ret (TX.then_ret ?_)))))))))))
       exfalso
       omega
      ·have q111 := of_decide_eq_false h111
       iterate 7 (first | refine TL.gu ?_ | refine TL.mv ?_ | refine TL.pk ?_)
       refine TL.vsplit rfl rfl rfl (gives_bin rfl rfl rfl (fun w => bin_eql w)) (fun h116 => ?_) (fun h116 => ?_)
       ·have q116 := of_decide_eq_true h116
        refine TL.gu ?_
        refine TL.mv ?_
        refine TL.gu ?_
        refine TL.vsplit rfl rfl rfl (gives_bin rfl rfl rfl (fun w => bin_eql w)) (fun h118 => ?_) (fun h118 => ?_)
        ·have q118 := of_decide_eq_true h118
         refine TL.gu ?_
         refine TL.val rfl rfl rfl (gives_bin2 (v := .bool false) rfl rfl rfl (fun w => bin_neb Tryz.underlying4 true true w)) ?_
         refine TL.pk ?_
         refine TL.end_ (TX.then_ (TC.condF rfl (TC.skip_ (TX.in_normal (TX.then_ (TC.region ?_))))))
         refine TL.val rfl rfl rfl (gives_bin rfl rfl rfl (fun w => bin_add_ (r := ((p + 1 : Nat) : Int)) (by simp only [IntKind.wrap_i64]; omega) w)) ?_
         refine TL.mv ?_
         refine TL.end_ ?_
         exact TX.round (⟨p + 1, by omega⟩) (by show x47.fl.l.length - (p + 1) < x47.fl.l.length - p; omega) ⟨rfl, rfl, rfl, rfl, rfl, rfl, rfl, rfl, rfl, rfl, rfl, trivial⟩ (fun w1 hw => hw)
        ·have q118 := of_decide_eq_false h118
         refine TL.gu ?_
         refine TL.val rfl rfl rfl (gives_bin2 (v := .bool true) rfl rfl rfl (fun w => bin_neb Tryz.underlying4 true false w)) ?_
         refine TL.pk ?_
         refine TL.end_ (TX.then_ (TC.condT rfl (TC.seq_ (TC.region ?_))))
         refine TL.as_ ?_
         refine TL.end_ (TX.then_ (TC.ret_ (TX.in_ret (TX.then_ret (TX.then_ret (TX.in_ret (TX.in_ret (TX.then_ret (TX.then_ret (TX.in_ret (TX.then_ret ?_)))))))))))
         exfalso
         omega
       ·have q116 := of_decide_eq_false h116
        refine TL.gu ?_
        refine TL.mv ?_
        refine TL.gu ?_
        refine TL.vsplit rfl rfl rfl (gives_bin rfl rfl rfl (fun w => bin_eql w)) (fun h118 => ?_) (fun h118 => ?_)
        ·have q118 := of_decide_eq_true h118
         refine TL.gu ?_
         refine TL.val rfl rfl rfl (gives_bin2 (v := .bool true) rfl rfl rfl (fun w => bin_neb Tryz.underlying4 false true w)) ?_
         refine TL.pk ?_
         refine TL.end_ (TX.then_ (TC.condT rfl (TC.seq_ (TC.region ?_))))
         refine TL.as_ ?_
         refine TL.end_ (TX.then_ (TC.ret_ (TX.in_ret (TX.then_ret (TX.then_ret (TX.in_ret (TX.in_ret (TX.then_ret (TX.then_ret (TX.in_ret (TX.then_ret ?_)))))))))))
         exfalso
         omega
        ·have q118 := of_decide_eq_false h118
         refine TL.gu ?_
         refine TL.val rfl rfl rfl (gives_bin2 (v := .bool false) rfl rfl rfl (fun w => bin_neb Tryz.underlying4 false false w)) ?_
         refine TL.pk ?_
         refine TL.end_ (TX.then_ (TC.condF rfl (TC.skip_ (TX.in_normal (TX.then_ (TC.region ?_))))))
         refine TL.val rfl rfl rfl (gives_bin rfl rfl rfl (fun w => bin_add_ (r := ((p + 1 : Nat) : Int)) (by simp only [IntKind.wrap_i64]; omega) w)) ?_
         refine TL.mv ?_
         refine TL.end_ ?_
         exact TX.round (⟨p + 1, by omega⟩) (by show x47.fl.l.length - (p + 1) < x47.fl.l.length - p; omega) ⟨rfl, rfl, rfl, rfl, rfl, rfl, rfl, rfl, rfl, rfl, rfl, trivial⟩ (fun w1 hw => hw)
     ·have q108 := of_decide_eq_false h108
      iterate 11 (first | refine TL.gu ?_ | refine TL.mv ?_ | refine TL.of ?_ | refine TL.pk ?_)
      refine TL.vsplit rfl rfl rfl (gives_bin rfl rfl rfl (fun w => bin_eql w)) (fun h116 => ?_) (fun h116 => ?_)
      ·have q116 := of_decide_eq_true h116
       refine TL.gu ?_
       refine TL.mv ?_
       refine TL.gu ?_
       refine TL.vsplit rfl rfl rfl (gives_bin rfl rfl rfl (fun w => bin_eql w)) (fun h118 => ?_) (fun h118 => ?_)
       ·have q118 := of_decide_eq_true h118
        refine TL.gu ?_
        refine TL.val rfl rfl rfl (gives_bin2 (v := .bool false) rfl rfl rfl (fun w => bin_neb Tryz.underlying4 true true w)) ?_
        refine TL.pk ?_
        refine TL.end_ (TX.then_ (TC.condF rfl (TC.skip_ (TX.in_normal (TX.then_ (TC.region ?_))))))
        refine TL.val rfl rfl rfl (gives_bin rfl rfl rfl (fun w => bin_add_ (r := ((p + 1 : Nat) : Int)) (by simp only [IntKind.wrap_i64]; omega) w)) ?_
        refine TL.mv ?_
        refine TL.end_ ?_
        exact TX.round (⟨p + 1, by omega⟩) (by show x47.fl.l.length - (p + 1) < x47.fl.l.length - p; omega) ⟨rfl, rfl, rfl, rfl, rfl, rfl, rfl, rfl, rfl, rfl, rfl, trivial⟩ (fun w1 hw => hw)
       ·have q118 := of_decide_eq_false h118
        refine TL.gu ?_
        refine TL.val rfl rfl rfl (gives_bin2 (v := .bool true) rfl rfl rfl (fun w => bin_neb Tryz.underlying4 true false w)) ?_
        refine TL.pk ?_
        refine TL.end_ (TX.then_ (TC.condT rfl (TC.seq_ (TC.region ?_))))
        refine TL.as_ ?_
        refine TL.end_ (TX.then_ (TC.ret_ (TX.in_ret (TX.then_ret (TX.then_ret (TX.in_ret (TX.in_ret (TX.then_ret (TX.then_ret (TX.in_ret (TX.then_ret ?_)))))))))))
        exfalso
        omega
      ·have q116 := of_decide_eq_false h116
       refine TL.gu ?_
       refine TL.mv ?_
       refine TL.gu ?_
       refine TL.vsplit rfl rfl rfl (gives_bin rfl rfl rfl (fun w => bin_eql w)) (fun h118 => ?_) (fun h118 => ?_)
       ·have q118 := of_decide_eq_true h118
        refine TL.gu ?_
        refine TL.val rfl rfl rfl (gives_bin2 (v := .bool true) rfl rfl rfl (fun w => bin_neb Tryz.underlying4 false true w)) ?_
        refine TL.pk ?_
        refine TL.end_ (TX.then_ (TC.condT rfl (TC.seq_ (TC.region ?_))))
        refine TL.as_ ?_
        refine TL.end_ (TX.then_ (TC.ret_ (TX.in_ret (TX.then_ret (TX.then_ret (TX.in_ret (TX.in_ret (TX.then_ret (TX.then_ret (TX.in_ret (TX.then_ret ?_)))))))))))
        exfalso
        omega
       ·have q118 := of_decide_eq_false h118
        refine TL.gu ?_
        refine TL.val rfl rfl rfl (gives_bin2 (v := .bool false) rfl rfl rfl (fun w => bin_neb Tryz.underlying4 false false w)) ?_
        refine TL.pk ?_
        refine TL.end_ (TX.then_ (TC.condF rfl (TC.skip_ (TX.in_normal (TX.then_ (TC.region ?_))))))
        refine TL.val rfl rfl rfl (gives_bin rfl rfl rfl (fun w => bin_add_ (r := ((p + 1 : Nat) : Int)) (by simp only [IntKind.wrap_i64]; omega) w)) ?_
        refine TL.mv ?_
        refine TL.end_ ?_
        exact TX.round (⟨p + 1, by omega⟩) (by show x47.fl.l.length - (p + 1) < x47.fl.l.length - p; omega) ⟨rfl, rfl, rfl, rfl, rfl, rfl, rfl, rfl, rfl, rfl, rfl, trivial⟩ (fun w1 hw => hw)
   ·have q91 := of_decide_eq_false h91
    refine TL.end_ (TX.then_ (TC.seq_ (TC.condF rfl (TC.exit_ (TX.then_exit (TX.then_exit (TX.in_same (TX.in_normal (TX.then_ (TC.region ?_))))))))))
    refine TL.val rfl rfl rfl (gives_bin rfl rfl rfl (fun w => bin_add_ (r := ((i + 1 : Nat) : Int)) (by simp only [IntKind.wrap_i64]; omega) w)) ?_
    refine TL.mv ?_
    refine TL.end_ ?_
    exact TX.round (⟨i + 1, by omega⟩) (by show m.hops.l.length - (i + 1) < m.hops.l.length - i; omega) ⟨rfl, rfl, rfl, rfl, rfl, rfl, trivial⟩ (fun w1 hw => hw.sel (.cons _ (.cons_cons _ (.cons_cons _ (.cons_cons _ (List.Sublist.refl _))))))
 ·have q45 := of_decide_eq_false h45
  refine TL.end_ (TX.then_ (TC.seq_ (TC.condF rfl (TC.exit_ (TX.then_exit (TX.then_exit (TX.in_same (TX.then_ (TC.seq_ (TC.seq_ ?_))))))))))
  have hme := hml.edges
  refine TC.region ?_
  refine TL.val rfl rfl rfl (gives_field (v := .pointer (some ⟨g5, 5, none⟩)) rfl rfl (fun w => plpfld36_3 _ _ w)) ?_
  refine TL.val rfl rfl rfl (pm_load (k := 0) (i := 5) rfl rfl plpag34 rfl rfl) ?_
  refine TL.val rfl rfl rfl (gives_len rfl Tryz.underlying34 rfl) ?_
  refine TL.mv ?_
  refine TL.end_ (TX.then_ (TC.block ?_))
  refine TC.loop_ (α := {e : Nat // e ≤ m.edges.l.length}) (fun y => [(3, .pointer (some ⟨wn.heap.size, 0, none⟩)), (4, .slice Axs xs.length cxs), (5, .pointer (some ⟨g5, 0, none⟩)), (124, .slice m.edges.A m.edges.l.length m.edges.c), (125, .int .i64 (m.edges.l.length : Nat)), (126, .int .i64 ((y.1 : Nat) : Int))]) (fun y => Pm wn ([.blk g5 36 m.cells, .row (.slice Axs xs.length cxs) 47 17 xs.length (flat Rs.cells xs), .abs wn.heap.size (fun w => Cod w wn.heap.size)] ++ mpsP [m])) (fun y => m.edges.l.length - y.1) (⟨0, Nat.zero_le _⟩) ⟨rfl, rfl, rfl, rfl, rfl, rfl, trivial⟩ (fun w1 hw => hw) ?_
  rintro ⟨e, he⟩
  try dsimp only at he ⊢
  refine TC.seq_ (TC.region ?_)
  refine TL.vsplit rfl rfl rfl (gives_bin rfl rfl rfl (fun w => bin_lss w)) (fun h127 => ?_) (fun h127 => ?_)
  ·have q127 := of_decide_eq_true h127
   refine TL.end_ (TX.then_ (TC.seq_ (TC.condT rfl (TC.skip_ (TX.then_ (TC.seq_ (TC.block (TC.seq_ (TC.region ?_)))))))))
   have hi128 : e < m.edges.l.length := by omega
   obtain ⟨x128, hx128⟩ : ∃ x128, m.edges.l[e]? = some x128 := ⟨_, List.getElem?_eq_getElem hi128⟩
   have hA128 := hmA.edges (by omega)
   refine TL.val rfl rfl rfl (gives_at (v := .pointer (some ⟨(blkOf m.edges.A), 0 + e * 4, none⟩)) rfl rfl rfl (fun w => at_el Tryz.underlying34 plpsz63 hA128 _ _ e (by omega) rfl w)) ?_
   refine TL.val rfl rfl rfl (gives_loadR (off := 0 + e * 4) rfl rfl plpag63 plpsz63 (ed_cel.len x128) (fun w1 hw j9 u9 h9 => flat_rowM ed_cel hw (List.mem_of_mem_drop (i := 3) (by exact mps_edges (by simp))) hA128 hx128 j9 u9 h9)) ?_
   refine TL.pnew rfl rfl rfl (exec_alloc (cs := [.int .i64 0, .int .u32 0, .int .u32 0, .slice none 0 0]) rfl plpzv63 rfl) (fun g20 => ?_)
   refine TL.pstore (k := 0) (vs := x128.cells) rfl rfl rfl rfl rfl rfl rfl plpsz63 (ed_cel.one _) (by show 4 ≤ 4; decide) (L' := ([.blk g20 63 x128.cells, .blk g5 36 m.cells, .row (.slice Axs xs.length cxs) 47 17 xs.length (flat Rs.cells xs), .abs wn.heap.size (fun w => Cod w wn.heap.size)] ++ mpsP [m])) rfl ?_
   refine TL.end_ (TX.then_ (TC.seq_ (TC.seq_ ?_)))
   have hef := hge.2.1 x128 (List.mem_of_getElem? hx128)
   refine TC.region ?_
   refine TL.val rfl rfl rfl (gives_field (v := .pointer (some ⟨g20, 3, none⟩)) rfl rfl (fun w => plpfld63_3 _ _ w)) ?_
   refine TL.val rfl rfl rfl (pm_load (k := 0) (i := 3) rfl rfl plpag48 rfl rfl) ?_
   refine TL.val rfl rfl rfl (gives_len rfl Tryz.underlying48 rfl) ?_
   refine TL.val rfl rfl rfl (gives_bin rfl rfl rfl (fun w => bin_eql_f (fun h9 => hef.2 (List.eq_nil_of_length_eq_zero (by omega))) w)) ?_
   refine TL.end_ (TX.then_ (TC.condF rfl (TC.skip_ (TX.then_ (TC.seq_ ?_)))))
   have hfl5 := (hml.fe x128 (List.mem_of_getElem? hx128)).1
   refine TC.region ?_
   refine TL.val rfl rfl rfl (gives_field (v := .pointer (some ⟨g20, 3, none⟩)) rfl rfl (fun w => plpfld63_3 _ _ w)) ?_
   refine TL.val rfl rfl rfl (pm_load (k := 0) (i := 3) rfl rfl plpag48 rfl rfl) ?_
   refine TL.val rfl rfl rfl (gives_len rfl Tryz.underlying48 rfl) ?_
   refine TL.mv ?_
   refine TL.end_ (TX.then_ (TC.block ?_))
   refine TC.loop_ (α := {p : Nat // p ≤ x128.fl.l.length}) (fun y => [(3, .pointer (some ⟨wn.heap.size, 0, none⟩)), (4, .slice Axs xs.length cxs), (5, .pointer (some ⟨g5, 0, none⟩)), (20, .pointer (some ⟨g20, 0, none⟩)), (124, .slice m.edges.A m.edges.l.length m.edges.c), (125, .int .i64 (m.edges.l.length : Nat)), (126, .int .i64 ((e : Nat) : Int)), (135, .slice x128.fl.A x128.fl.l.length x128.fl.c), (136, .int .i64 (x128.fl.l.length : Nat)), (137, .int .i64 ((y.1 : Nat) : Int))]) (fun y => Pm wn ([.blk g20 63 x128.cells, .blk g5 36 m.cells, .row (.slice Axs xs.length cxs) 47 17 xs.length (flat Rs.cells xs), .abs wn.heap.size (fun w => Cod w wn.heap.size)] ++ mpsP [m])) (fun y => x128.fl.l.length - y.1) (⟨0, Nat.zero_le _⟩) ⟨rfl, rfl, rfl, rfl, rfl, rfl, rfl, rfl, rfl, rfl, trivial⟩ (fun w1 hw => hw) ?_
   rintro ⟨p, hp⟩
   try dsimp only at hp ⊢
   refine TC.seq_ (TC.region ?_)
   refine TL.vsplit rfl rfl rfl (gives_bin rfl rfl rfl (fun w => bin_lss w)) (fun h138 => ?_) (fun h138 => ?_)
   ·have q138 := of_decide_eq_true h138
    refine TL.end_ (TX.then_ (TC.seq_ (TC.condT rfl (TC.skip_ (TX.then_ (TC.seq_ (TC.block (TC.seq_ (TC.region ?_)))))))))
    have hi139 : p < x128.fl.l.length := by omega
    obtain ⟨x139, hx139⟩ : ∃ x139, x128.fl.l[p]? = some x139 := ⟨_, List.getElem?_eq_getElem hi139⟩
    have hA139 := hmA.fe x128 (List.mem_of_getElem? hx128) (by omega)
    refine TL.val rfl rfl rfl (gives_at (v := .pointer (some ⟨(blkOf x128.fl.A), 0 + p * 1, none⟩)) rfl rfl rfl (fun w => at_el Tryz.underlying48 plpsz3 hA139 _ _ p (by omega) rfl w)) ?_
    refine TL.val rfl rfl rfl (gives_load (v := .int .i64 x139) rfl rfl plpag3 (fun w1 hw => flat_rowM (ic_cel .i64) hw (List.mem_of_mem_drop (i := 4) (by exact mps_fle (by simp) (List.mem_of_getElem? hx128))) hA139 hx139 0 _ rfl)) ?_
    refine TL.as_ ?_
    refine TL.end_ (TX.then_ (TC.seq_ ?_))
    have heo := edge_at hge (List.mem_of_getElem? hx128) (List.mem_of_getElem? hx139)
    have hfl9 := (hml.fe x128 (List.mem_of_getElem? hx128)).1
    refine TC.region ?_
    refine TL.mv ?_
    refine TL.mv ?_
    refine TL.val rfl rfl rfl (gives_field (v := .pointer (some ⟨g20, 0, none⟩)) rfl rfl (fun w => plpfld63_0 _ _ w)) ?_
    refine TL.val rfl rfl rfl (pm_load (k := 0) (i := 0) rfl rfl plpag3 rfl rfl) ?_
    refine TL.pcall1 (r := .tuple #[.int .u32 (atA xs x139 x128.ttl), .int .i64 (atS xs x139 x128.ttl)]) rfl rfl rfl rfl rfl Tryz.func21 plpnm21 plpbd21 (fun w1 hw => at_any Axs cxs xs x139 x128.ttl w1 (pm_rd hw (k := 2) rfl) (by omega) hxsok heo.2.2.1) ?_
    iterate 5 (first | refine TL.as_ ?_ | refine TL.ex ?_ | refine TL.mv ?_)
    refine TL.end_ (TX.then_ (TC.seq_ (TC.region ?_)))
    refine TL.mv ?_
    refine TL.mv ?_
    refine TL.val rfl rfl rfl (gives_field (v := .pointer (some ⟨g20, 0, none⟩)) rfl rfl (fun w => plpfld63_0 _ _ w)) ?_
    refine TL.val rfl rfl rfl (pm_load (k := 0) (i := 0) rfl rfl plpag3 rfl rfl) ?_
    refine TL.val rfl rfl rfl (gives_bin rfl rfl rfl (fun w => bin_add_ (r := x128.ttl + 1) (by simp only [IntKind.wrap_i64]; omega) w)) ?_
    refine TL.pcall1 (r := .tuple #[.int .u32 (atA xs x139 (x128.ttl + 1)), .int .i64 (atS xs x139 (x128.ttl + 1))]) rfl rfl rfl rfl rfl Tryz.func21 plpnm21 plpbd21 (fun w1 hw => at_any Axs cxs xs x139 (x128.ttl + 1) w1 (pm_rd hw (k := 2) rfl) (by omega) hxsok heo.2.2.2.1) ?_
    iterate 5 (first | refine TL.as_ ?_ | refine TL.ex ?_ | refine TL.mv ?_)
    refine TL.end_ (TX.then_ (TC.seq_ (TC.seq_ (TC.region ?_))))
    refine TL.mv ?_
    refine TL.val rfl rfl rfl (gives_field (v := .pointer (some ⟨g20, 1, none⟩)) rfl rfl (fun w => plpfld63_1 _ _ w)) ?_
    refine TL.val rfl rfl rfl (pm_load (k := 0) (i := 1) rfl rfl plpag30 rfl rfl) ?_
    refine TL.vsplit rfl rfl rfl (gives_bin rfl rfl rfl (fun w => bin_neq w)) (fun h161 => ?_) (fun h161 => ?_)
    ·have q161 := of_decide_eq_true h161
     iterate 6 (first | refine TL.of ?_ | refine TL.mv ?_ | refine TL.pk ?_)
     refine TL.end_ (TX.then_ (TC.condT rfl (TC.seq_ (TC.region ?_))))
     refine TL.as_ ?_
     refine TL.end_ (TX.then_ (TC.ret_ (TX.then_ret (TX.in_ret (TX.then_ret (TX.then_ret (TX.in_ret (TX.in_ret (TX.then_ret (TX.then_ret (TX.in_ret (TX.then_ret ?_))))))))))))
     exfalso
     omega
    ·have q161 := of_decide_eq_false h161
     iterate 4 (first | refine TL.gu ?_ | refine TL.mv ?_)
     refine TL.val rfl rfl rfl (gives_field (v := .pointer (some ⟨g20, 2, none⟩)) rfl rfl (fun w => plpfld63_2 _ _ w)) ?_
     refine TL.gu ?_
     refine TL.val rfl rfl rfl (pm_load (k := 0) (i := 2) rfl rfl plpag30 rfl rfl) ?_
     refine TL.gu ?_
     refine TL.vsplit rfl rfl rfl (gives_bin rfl rfl rfl (fun w => bin_neq w)) (fun h166 => ?_) (fun h166 => ?_)
     ·have q166 := of_decide_eq_true h166
      refine TL.pk ?_
      refine TL.end_ (TX.then_ (TC.condT rfl (TC.seq_ (TC.region ?_))))
      refine TL.as_ ?_
      refine TL.end_ (TX.then_ (TC.ret_ (TX.then_ret (TX.in_ret (TX.then_ret (TX.then_ret (TX.in_ret (TX.in_ret (TX.then_ret (TX.then_ret (TX.in_ret (TX.then_ret ?_))))))))))))
      exfalso
      omega
     ·have q166 := of_decide_eq_false h166
      refine TL.pk ?_
      refine TL.end_ (TX.then_ (TC.condF rfl (TC.skip_ (TX.then_ (TC.seq_ (TC.region ?_))))))
      refine TL.mv ?_
      refine TL.mv ?_
      refine TL.pcallPm (α := {y : (Option Addr × Nat) × List Int // PathOk xs x139 y.2 ∧ y.2.length ≤ y.1.2 ∧ y.1.2 ≤ maxLen}) (fun x => .slice x.1.1.1 x.1.2.length x.1.1.2) (fun x => [.row (.slice x.1.1.1 x.1.2.length x.1.1.2) 30 1 x.1.2.length (flat (ic .u32) x.1.2)]) rfl rfl rfl rfl rfl Tryz.func22 plpnm22 plpbd22 (fun w1 hw => path_any Axs cxs xs x139 w1 (pm_rd hw (k := 2) rfl) (by omega) hxsok heo.2.2.1.1) ?_
      rintro ⟨⟨⟨R170, rc170⟩, ph170⟩, hP170, hR1701, hR1702⟩
      dsimp only [List.cons_append, List.nil_append]
      dsimp only at hP170 hR1701 hR1702 ⊢
      refine TL.as_ ?_
      refine TL.end_ (TX.then_ (TC.seq_ (TC.region ?_)))
      refine TL.mv ?_
      refine TL.val rfl rfl rfl (gives_len rfl Tryz.underlying64 rfl) ?_
      refine TL.val rfl rfl rfl (gives_field (v := .pointer (some ⟨g20, 0, none⟩)) rfl rfl (fun w => plpfld63_0 _ _ w)) ?_
      refine TL.val rfl rfl rfl (pm_load (k := 1) (i := 0) rfl rfl plpag3 rfl rfl) ?_
      refine TL.vsplit rfl rfl rfl (gives_bin rfl rfl rfl (fun w => bin_gtr w)) (fun h175 => ?_) (fun h175 => ?_)
      ·have q175 := of_decide_eq_true h175
       iterate 4 (first | refine TL.gu ?_ | refine TL.mv ?_)
       refine TL.val rfl rfl rfl (gives_field (v := .pointer (some ⟨g20, 0, none⟩)) rfl rfl (fun w => plpfld63_0 _ _ w)) ?_
       refine TL.gu ?_
       refine TL.val rfl rfl rfl (pm_load (k := 1) (i := 0) rfl rfl plpag3 rfl rfl) ?_
       refine TL.gu ?_
       refine TL.val rfl rfl rfl (gives_bin rfl rfl rfl (fun w => bin_sub_ (r := ((x128.ttl.toNat - 1 : Nat) : Int)) (by simp only [IntKind.wrap_i64]; omega) w)) ?_
       refine TL.gu ?_
       refine TL.fact (p := ∃ g, R170 = some ⟨g, 0, none⟩) (fun w1 hw => rowA hw (k := 0) rfl (by omega)) ?_
       rintro ⟨g_R170, rfl⟩
       have hi181 : x128.ttl.toNat - 1 < ph170.length := by omega
       obtain ⟨x181, hx181⟩ : ∃ x181, ph170[x128.ttl.toNat - 1]? = some x181 := ⟨_, List.getElem?_eq_getElem hi181⟩
       have hp_x181 := path_at hP170 hx181 (t := x128.ttl) (by omega)
       refine TL.val rfl rfl rfl (gives_at (v := .pointer (some ⟨g_R170, 0 + (x128.ttl.toNat - 1) * 1, none⟩)) rfl rfl rfl (fun w => at_el Tryz.underlying64 plpsz30 rfl _ _ (x128.ttl.toNat - 1) (by omega) rfl w)) ?_
       refine TL.gu ?_
       refine TL.val rfl rfl rfl (gives_load (v := .int .u32 x181) rfl rfl plpag30 (fun w1 hw => flat_row (ic_cel .u32) hw (q := 0) rfl hx181 0 _ rfl)) ?_
       refine TL.gu ?_
       refine TL.mv ?_
       refine TL.gu ?_
       refine TL.vsplit rfl rfl rfl (gives_bin rfl rfl rfl (fun w => bin_neq w)) (fun h184 => ?_) (fun h184 => ?_)
       ·have q184 := of_decide_eq_true h184
        iterate 12 (first | refine TL.of ?_ | refine TL.gu ?_ | refine TL.pk ?_ | refine TL.mv ?_)
        refine TL.end_ (TX.then_ (TC.condT rfl (TC.seq_ (TC.region ?_))))
        refine TL.as_ ?_
        refine TL.end_ (TX.then_ (TC.ret_ (TX.in_ret (TX.then_ret (TX.then_ret (TX.in_ret (TX.in_ret (TX.then_ret (TX.then_ret (TX.in_ret (TX.then_ret ?_)))))))))))
        exfalso
        omega
       ·have q184 := of_decide_eq_false h184
        iterate 5 (first | refine TL.gu ?_ | refine TL.mv ?_)
        refine TL.val rfl rfl rfl (gives_field (v := .pointer (some ⟨g20, 0, none⟩)) rfl rfl (fun w => plpfld63_0 _ _ w)) ?_
        refine TL.gu ?_
        refine TL.val rfl rfl rfl (show Gives _ _ _ _ _ (Value.int .i64 ((x128.ttl.toNat : Nat) : Int)) from by rw [show ((x128.ttl.toNat : Nat) : Int) = x128.ttl by omega]; exact pm_load (k := 1) (i := 0) rfl rfl plpag3 rfl rfl) ?_
        refine TL.gu ?_
        have hi189 : x128.ttl.toNat < ph170.length := by omega
        obtain ⟨x189, hx189⟩ : ∃ x189, ph170[x128.ttl.toNat]? = some x189 := ⟨_, List.getElem?_eq_getElem hi189⟩
        have hp_x189 := path_at hP170 hx189 (t := x128.ttl + 1) (by omega)
        refine TL.val rfl rfl rfl (gives_at (v := .pointer (some ⟨g_R170, 0 + x128.ttl.toNat * 1, none⟩)) rfl rfl rfl (fun w => at_el Tryz.underlying64 plpsz30 rfl _ _ x128.ttl.toNat (by omega) rfl w)) ?_
        refine TL.gu ?_
        refine TL.val rfl rfl rfl (gives_load (v := .int .u32 x189) rfl rfl plpag30 (fun w1 hw => flat_row (ic_cel .u32) hw (q := 0) rfl hx189 0 _ rfl)) ?_
        refine TL.gu ?_
        refine TL.mv ?_
        refine TL.gu ?_
        refine TL.vsplit rfl rfl rfl (gives_bin rfl rfl rfl (fun w => bin_neq w)) (fun h192 => ?_) (fun h192 => ?_)
        ·have q192 := of_decide_eq_true h192
         refine TL.gu ?_
         refine TL.pk ?_
         refine TL.pk ?_
         refine TL.end_ (TX.then_ (TC.condT rfl (TC.seq_ (TC.region ?_))))
         refine TL.as_ ?_
         refine TL.end_ (TX.then_ (TC.ret_ (TX.in_ret (TX.then_ret (TX.then_ret (TX.in_ret (TX.in_ret (TX.then_ret (TX.then_ret (TX.in_ret (TX.then_ret ?_)))))))))))
         exfalso
         omega
        ·have q192 := of_decide_eq_false h192
         refine TL.gu ?_
         refine TL.pk ?_
         refine TL.pk ?_
         refine TL.end_ (TX.then_ (TC.condF rfl (TC.skip_ (TX.in_normal (TX.then_ (TC.region ?_))))))
         refine TL.val rfl rfl rfl (gives_bin rfl rfl rfl (fun w => bin_add_ (r := ((p + 1 : Nat) : Int)) (by simp only [IntKind.wrap_i64]; omega) w)) ?_
         refine TL.mv ?_
         refine TL.end_ ?_
         exact TX.round (⟨p + 1, by omega⟩) (by show x128.fl.l.length - (p + 1) < x128.fl.l.length - p; omega) ⟨rfl, rfl, rfl, rfl, rfl, rfl, rfl, rfl, rfl, rfl, trivial⟩ (fun w1 hw => hw.sel (.cons _ (.cons_cons _ (.cons_cons _ (.cons_cons _ (.cons_cons _ (List.Sublist.refl _)))))))
      ·have q175 := of_decide_eq_false h175
       iterate 19 (first | refine TL.of ?_ | refine TL.offU rfl rfl rfl rfl rfl ?_ | refine TL.mv ?_ | refine TL.pk ?_)
       refine TL.end_ (TX.then_ (TC.condF rfl (TC.skip_ (TX.in_normal (TX.then_ (TC.region ?_))))))
       refine TL.val rfl rfl rfl (gives_bin rfl rfl rfl (fun w => bin_add_ (r := ((p + 1 : Nat) : Int)) (by simp only [IntKind.wrap_i64]; omega) w)) ?_
       refine TL.mv ?_
       refine TL.end_ ?_
       exact TX.round (⟨p + 1, by omega⟩) (by show x128.fl.l.length - (p + 1) < x128.fl.l.length - p; omega) ⟨rfl, rfl, rfl, rfl, rfl, rfl, rfl, rfl, rfl, rfl, trivial⟩ (fun w1 hw => hw.sel (.cons _ (.cons_cons _ (.cons_cons _ (.cons_cons _ (.cons_cons _ (List.Sublist.refl _)))))))
   ·have q138 := of_decide_eq_false h138
    refine TL.end_ (TX.then_ (TC.seq_ (TC.condF rfl (TC.exit_ (TX.then_exit (TX.then_exit (TX.in_same (TX.in_normal (TX.then_ (TC.region ?_))))))))))
    refine TL.val rfl rfl rfl (gives_bin rfl rfl rfl (fun w => bin_add_ (r := ((e + 1 : Nat) : Int)) (by simp only [IntKind.wrap_i64]; omega) w)) ?_
    refine TL.mv ?_
    refine TL.end_ ?_
    exact TX.round (⟨e + 1, by omega⟩) (by show m.edges.l.length - (e + 1) < m.edges.l.length - e; omega) ⟨rfl, rfl, rfl, rfl, rfl, rfl, trivial⟩ (fun w1 hw => hw.sel (.cons _ (.cons_cons _ (.cons_cons _ (.cons_cons _ (List.Sublist.refl _))))))
  ·have q127 := of_decide_eq_false h127
   refine TL.end_ (TX.then_ (TC.seq_ (TC.condF rfl (TC.exit_ (TX.then_exit (TX.then_exit (TX.in_same (TX.then_ (TC.seq_ (TC.region ?_))))))))))
   refine TL.as_ ?_
   refine TL.end_ (TX.then_ (TC.ret_ ?_))
   exact ret_tmp Tryz.results7 rfl (fun w1 hw => ⟨rfl, hwb.trans (hw.bel.mono hwb.size)⟩)
end Go.Proofs.YtnejdeklnmkhbaaGreat
