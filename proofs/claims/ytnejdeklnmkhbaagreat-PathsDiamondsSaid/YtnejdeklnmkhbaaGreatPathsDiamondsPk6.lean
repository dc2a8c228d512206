/-
  Texts of the proof, joined: PtLDi.
-/
import Derived.Test.YtnejdeklnmkhbaaGreatPathsDiamondsPk5
set_option linter.unusedVariables false
set_option linter.unusedSimpArgs false
namespace Go.Proofs.YtnejdeklnmkhbaaGreat
open Go.RowKit
set_option maxRecDepth 20000
theorem mxn_ge {W : Int → Nat} {b : Int} : ∀ {n j : Nat}, 1 ≤ j → j ≤ n → W (b + j) ≤ mxn W b n
 | 0, j, h1, h2 => by omega
 | n + 1, j, h1, h2 => by
  simp only [mxn]
  rcases Nat.lt_or_ge n j with h3 | h3
  ·obtain rfl : j = n + 1 := by omega
   rw [show b + ((n + 1 : Nat) : Int) = b + n + 1 by omega]; omega
  ·have := mxn_ge (W := W) (b := b) (n := n) h1 h3; omega
theorem isD_at {W : Int → Nat} {d : Dm} (h : IsD W d) (t : Int) (h1 : d.frm ≤ t) (h2 : t ≤ d.to_) : (t = d.frm → W t = 1) ∧ (t = d.to_ → W t = 1) ∧ (t ≠ d.frm → t ≠ d.to_ → 1 < W t ∧ (W t : Int) ≤ d.wid) := by
 obtain ⟨n, h3, h4, h5, h6, h7, h8⟩ := h
 refine ⟨fun e => by rw [e]; exact h4, fun e => by rw [e]; exact h7, fun e1 e2 => ?_⟩
 have h9 := h6 (t - d.frm).toNat (by omega) (by omega)
 have h10 := mxn_ge (W := W) (b := d.frm) (n := n) (j := (t - d.frm).toNat) (by omega) (by omega)
 rw [show d.frm + ((t - d.frm).toNat : Int) = t by omega] at h9 h10
 exact ⟨h9, by omega⟩
theorem isD_facts {hs : List Hpx} {d : Dm} (hr : ∀ h ∈ hs, 1 ≤ h.ttl ∧ h.ttl ≤ 255) (h : IsD (wid hs) d) : (1 ≤ d.frm ∧ d.frm ≤ 255) ∧ (1 ≤ d.to_ ∧ d.to_ ≤ 255) ∧ d.frm + 2 ≤ d.to_ ∧ 2 ≤ d.wid := by
 have h' := h
 obtain ⟨n, h3, h4, h5, h6, h7, h8⟩ := h
 refine ⟨wid_rng hr (by omega), wid_rng hr (by omega), by omega, ?_⟩
 have := (isD_at h' (d.frm + 1) (by omega) (by omega)).2.2 (by omega) (by omega)
 omega
theorem dm_len {hs : List Hpx} {ds : List Dm} (h : IsDm (wid hs) ds) : ds.length ≤ hs.length := by
 have := nodup_len (p := ds.map (·.frm)) (F := tlH hs) (List.pairwise_map.2 (h.1.imp fun {a b} hab e => by omega)) fun f hf => by
  obtain ⟨d, hd, rfl⟩ := List.mem_map.1 hf
  obtain ⟨n, _, h1, _⟩ := (h.2 d).1 hd
  rw [wid_cnt] at h1
  exact cnt_pos.1 (by omega)
 rwa [List.length_map, tlH_len] at this
theorem dm_apart {hs : List Hpx} {ds : List Dm} {i : Nat} {x y : Dm} (h : IsDm (wid hs) ds) (hy : ds[i - 1]? = some y) (hx : ds[i]? = some x) (hi : 0 < i) : y.to_ ≤ x.frm := by
 obtain ⟨i1, i2⟩ := List.getElem?_eq_some_iff.1 hy
 obtain ⟨j1, j2⟩ := List.getElem?_eq_some_iff.1 hx
 have h1 := List.pairwise_iff_getElem.1 h.1 (i - 1) i i1 j1 (by omega)
 rw [i2, j2] at h1
 have hdx := (h.2 x).1 (List.mem_of_getElem? hx)
 have hdy := (h.2 y).1 (List.mem_of_getElem? hy)
 refine Int.not_lt.1 fun h2 => ?_
 have h3 := (isD_at hdy x.frm (by omega) (by omega)).2.2 (by omega) (by omega)
 obtain ⟨n, _, h4, _⟩ := hdx
 omega
theorem plinm10 : (Tryz.f10.name == "runtime.NumGoroutine") = false := by decide
theorem plibd10 : Tryz.f10.body.isNone = false := rfl
theorem plinm11 : (Tryz.f11.name == "runtime.NumGoroutine") = false := by decide
theorem plibd11 : Tryz.f11.body.isNone = false := rfl
theorem plinm12 : (Tryz.f12.name == "runtime.NumGoroutine") = false := by decide
theorem plibd12 : Tryz.f12.body.isNone = false := rfl
theorem plinm14 : (Tryz.f14.name == "runtime.NumGoroutine") = false := by decide
theorem plibd14 : Tryz.f14.body.isNone = false := rfl
theorem plizv36 (w : World) : (zeroValue 36).run Tryz.prog w = .ok (.agg #[.int .i64 0, .int .u32 0, .int .i64 0, .int .i64 0, .slice none 0 0, .slice none 0 0]) w := rfl
theorem plisz36 (w : World) : (sizeOf 36).run Tryz.prog w = .ok 6 w := rfl
theorem plione_i64u32i64i64ss {a0 : Int} {a1 : Int} {a2 : Int} {a3 : Int} {a4 : Option Addr} {n4 c4 : Nat} {a5 : Option Addr} {n5 c5 : Nat} : ∀ u ∈ [(.int .i64 a0 : Value), .int .u32 a1, .int .i64 a2, .int .i64 a3, .slice a4 n4 c4, .slice a5 n5 c5], u.oneCell' = true := by
 intro u hu
 simp only [List.mem_cons, List.not_mem_nil, or_false] at hu
 rcases hu with rfl | rfl | rfl | rfl | rfl | rfl <;> rfl
theorem pliag36 (w : World) : (isAgg 36).run Tryz.prog w = .ok true w := rfl
theorem plinm19 : (Tryz.f19.name == "runtime.NumGoroutine") = false := by decide
theorem plibd19 : Tryz.f19.body.isNone = false := rfl
theorem plisz58 (w : World) : (sizeOf 58).run Tryz.prog w = .ok 3 w := rfl
theorem plifld58_1 (g o : Nat) (w : World) : (Instr.fieldAt 58 (.pointer (some ⟨g, o, none⟩)) 1).run Tryz.prog w = .ok (.pointer (some ⟨g, o + 1, none⟩)) w := by kernel_rfl
theorem pliag3 (w : World) : (isAgg 3).run Tryz.prog w = .ok false w := rfl
theorem plifld58_0 (g o : Nat) (w : World) : (Instr.fieldAt 58 (.pointer (some ⟨g, o, none⟩)) 0).run Tryz.prog w = .ok (.pointer (some ⟨g, o + 0, none⟩)) w := by kernel_rfl
theorem plifld58_2 (g o : Nat) (w : World) : (Instr.fieldAt 58 (.pointer (some ⟨g, o, none⟩)) 2).run Tryz.prog w = .ok (.pointer (some ⟨g, o + 2, none⟩)) w := by kernel_rfl
theorem plifld36_2 (g o : Nat) (w : World) : (Instr.fieldAt 36 (.pointer (some ⟨g, o, none⟩)) 2).run Tryz.prog w = .ok (.pointer (some ⟨g, o + 4, none⟩)) w := by kernel_rfl
theorem pliag33 (w : World) : (isAgg 33).run Tryz.prog w = .ok false w := rfl
theorem plisz50 (w : World) : (sizeOf 50).run Tryz.prog w = .ok 3 w := rfl
theorem pliag50 (w : World) : (isAgg 50).run Tryz.prog w = .ok true w := rfl
theorem plizv50 (w : World) : (zeroValue 50).run Tryz.prog w = .ok (.agg #[.int .i64 0, .int .u32 0, .slice none 0 0]) w := rfl
theorem plifld50_0 (g o : Nat) (w : World) : (Instr.fieldAt 50 (.pointer (some ⟨g, o, none⟩)) 0).run Tryz.prog w = .ok (.pointer (some ⟨g, o + 0, none⟩)) w := by kernel_rfl
set_option maxHeartbeats 1000000 in
theorem pathsDiamonds_walk (A0 : Option Addr) (n0 c0 : Nat) (l0 : List Int) (w : World) (hb0 : Byt w w.heap.size A0 n0 l0) (hc0 : n0 ≤ c0) (hm0 : c0 ≤ maxLen) :
  Calls Tryz.prog 5 #[.slice A0 n0 c0] w fun e w' => e = .returned (.bool true) ∧ Below w.heap.size w w' := by
 have hn0 : (n0 : Int) ≤ 9223372036854775807 := by unfold maxLen at hm0; omega
 refine begin_ (vs := [.slice A0 n0 c0]) Tryz.func5 rfl rfl rfl ?_ (Pm.start w)
 refine TC.seq_ (TC.region ?_)
 refine TL.as_ ?_
 refine TL.end_ (TX.then_ (TC.seq_ (TC.seq_ (TC.region ?_))))
 refine TL.pcall1 (r := .bool true) rfl rfl rfl rfl rfl Tryz.func10 plinm10 plibd10 (fun w1 hw => awake_true w1) ?_
 refine TL.val rfl rfl rfl (gives_boolnot rfl rfl) ?_
 refine TL.end_ (TX.then_ (TC.condF rfl (TC.skip_ (TX.then_ (TC.seq_ (TC.region ?_))))))
 refine TL.mv ?_
 refine TL.callNew (I := Pm w []) (p := fun cb w => Cod w cb) rfl rfl rfl rfl rfl Tryz.func11 plinm11 plibd11 (fun w1 hw => (roll_any A0 n0 c0 l0 w1 ((hb0.below hw.bel).more hw.bel.size) hc0 hn0).mono fun e w2 ⟨h1, h2, h3⟩ => ⟨h1, h2, cod_cells h2, h3⟩) cod_stab (fun wn hwn => ?_)
 have hwb := hwn.bel
 refine TL.as_ ?_
 refine TL.end_ (TX.then_ (TC.seq_ (TC.region ?_)))
 refine TL.mv ?_
 refine TL.pcallCod (k := 0) (α := {y : (Option Addr × Nat) × List Rs // OneOk 30 true y.2 ∧ y.2.length ≤ y.1.2 ∧ y.1.2 ≤ maxLen}) (fun x => .slice x.1.1.1 x.1.2.length x.1.1.2) (fun x => [.row (.slice x.1.1.1 x.1.2.length x.1.1.2) 47 17 x.1.2.length (flat Rs.cells x.1.2)]) rfl rfl rfl rfl rfl Tryz.func12 plinm12 plibd12 rfl (fun w1 hw hC1 => one_cod wn.heap.size w1 hC1 30 true (by decide)) ?_
 rintro ⟨⟨⟨Axs, cxs⟩, xs⟩, hxs, hxsc, hxsm⟩
 dsimp only [List.cons_append, List.nil_append]
 dsimp only at hxs hxsc hxsm ⊢
 have hxslen := hxs.2.2.2.1
 have hxsok : ∀ r ∈ xs, r.Ok := fun r hr => (hxs.1 r hr).2.1
 refine TL.call (α := {y : Mp × Int // BuildOk xs y.1 y.2}) (r := fun x => .tuple #[.agg x.1.1.cells.toArray, .int .i64 x.1.2]) (I' := fun x => Pm wn ([.row (.slice Axs xs.length cxs) 47 17 xs.length (flat Rs.cells xs), .abs wn.heap.size (fun w => Cod w wn.heap.size)] ++ mpsP (x.1.1 :: []))) rfl rfl rfl rfl rfl Tryz.func14 plinm14 plibd14 (fun w1 hw => (build_any Axs cxs xs w1 (pm_rd hw (k := 0) rfl) (by omega) hxsok).mono fun e w2 ⟨x, h1, h2⟩ => ⟨x, h1, Pm.mpsIn (P := [.row (.slice Axs xs.length cxs) 47 17 xs.length (flat Rs.cells xs), .abs wn.heap.size (fun w => Cod w wn.heap.size)]) (ms := []) (hw.addAll h2 (pcs_noAbs _))⟩) ?_
 rintro ⟨⟨m, em⟩, hbm⟩
 dsimp only at hbm ⊢
 have hml := build_len hxsok hbm
 refine TL.fact (p := MpA m) (fun w1 hw => MpA.of hw (fun q hq => List.mem_of_mem_drop (i := 2) (by exact mps_mem (by simp) hq))) (fun hmA => ?_)
 refine TL.mv ?_
 refine TL.ex ?_
 refine TL.ex ?_
 refine TL.pnew rfl rfl rfl (exec_alloc (cs := [.int .i64 0, .int .u32 0, .int .i64 0, .int .i64 0, .slice none 0 0, .slice none 0 0]) rfl plizv36 rfl) (fun g4 => ?_)
 refine TL.pstore (k := 0) (vs := m.cells) rfl rfl rfl rfl rfl rfl rfl plisz36 plione_i64u32i64i64ss (by show 6 ≤ 6; decide) (L' := ([.blk g4 36 m.cells, .row (.slice Axs xs.length cxs) 47 17 xs.length (flat Rs.cells xs), .abs wn.heap.size (fun w => Cod w wn.heap.size)] ++ mpsP [m])) rfl ?_
 refine TL.as_ ?_
 refine TL.end_ (TX.then_ (TC.seq_ (TC.seq_ ?_)))
 have hem := one_err hxs (by decide) hbm.1
 refine TC.region ?_
 refine TL.mv ?_
 refine TL.val rfl rfl rfl (gives_bin rfl rfl rfl (fun w => bin_neq_f (by omega) w)) ?_
 refine TL.end_ (TX.then_ (TC.condF rfl (TC.skip_ (TX.then_ (TC.seq_ ?_)))))
 have hmh := hml.hops
 have hmr : ∀ x ∈ m.hops.l, 1 ≤ x.ttl ∧ x.ttl ≤ 255 := fun x hx => ⟨(hml.fh x hx).2.1, (hml.fh x hx).2.2.1⟩
 refine TC.region ?_
 refine TL.val rfl rfl rfl (pm_loadV (k := 0) (i := 0) (n := 6) (v := .agg (m.cells).toArray) rfl rfl pliag36 plisz36 rfl (by show 6 ≤ 6; decide) rfl) ?_
 refine TL.pcallPm (α := {y : (Option Addr × Nat) × List Dm // IsDm (wid m.hops.l) y.2 ∧ y.2.length ≤ y.1.2 ∧ y.1.2 ≤ maxLen}) (fun x => .slice x.1.1.1 x.1.2.length x.1.1.2) (fun x => [.row (.slice x.1.1.1 x.1.2.length x.1.1.2) 58 3 x.1.2.length (flat Dm.cells x.1.2)]) rfl rfl rfl rfl rfl Tryz.func19 plinm19 plibd19 (fun w1 hw => diamonds_any m w1 ((MpR.of (hml) (by omega) hw (fun q hq => List.mem_of_mem_drop (i := 3) (by exact mps_mem (by simp) hq)))).hops ((MpR.of (hml) (by omega) hw (fun q hq => List.mem_of_mem_drop (i := 3) (by exact mps_mem (by simp) hq)))).nhops (fun x hx => ⟨(hml.fh x hx).2.1, (hml.fh x hx).2.2.1⟩)) ?_
 rintro ⟨⟨⟨R26, rc26⟩, dm26⟩, hP26, hR261, hR262⟩
 dsimp only [List.cons_append, List.nil_append]
 dsimp only at hP26 hR261 hR262 ⊢
 refine TL.as_ ?_
 refine TL.end_ (TX.then_ (TC.seq_ (TC.seq_ ?_)))
 have hdl := dm_len hP26
 refine TC.region ?_
 refine TL.mv ?_
 refine TL.val rfl rfl rfl (gives_len rfl Tryz.underlying55 rfl) ?_
 refine TL.mv ?_
 refine TL.end_ (TX.then_ (TC.block ?_))
 refine TC.loop_ (α := {i : Nat // i ≤ dm26.length}) (fun y => [(4, .pointer (some ⟨g4, 0, none⟩)), (6, .slice R26 dm26.length rc26), (28, .int .i64 (dm26.length : Nat)), (29, .int .i64 ((y.1 : Nat) : Int))]) (fun y => Pm wn ([.row (.slice R26 dm26.length rc26) 58 3 dm26.length (flat Dm.cells dm26), .blk g4 36 m.cells, .row (.slice Axs xs.length cxs) 47 17 xs.length (flat Rs.cells xs), .abs wn.heap.size (fun w => Cod w wn.heap.size)] ++ mpsP [m])) (fun y => dm26.length - y.1) (⟨0, Nat.zero_le _⟩) ⟨rfl, rfl, rfl, rfl, trivial⟩ (fun w1 hw => hw) ?_
 rintro ⟨i, hi⟩
 try dsimp only at hi ⊢
 refine TC.seq_ (TC.region ?_)
 refine TL.vsplit rfl rfl rfl (gives_bin rfl rfl rfl (fun w => bin_lss w)) (fun h30 => ?_) (fun h30 => ?_)
 ·have q30 := of_decide_eq_true h30
  refine TL.end_ (TX.then_ (TC.seq_ (TC.condT rfl (TC.skip_ (TX.then_ (TC.seq_ (TC.block (TC.seq_ (TC.region ?_)))))))))
  refine TL.mv ?_
  refine TL.as_ ?_
  refine TL.end_ (TX.then_ (TC.seq_ (TC.seq_ ?_)))
  refine TC.fact (p := ∃ g, R26 = some ⟨g, 0, none⟩) (fun w1 hw => rowA hw (k := 0) rfl (by omega)) ?_
  rintro ⟨g_R26, rfl⟩
  refine TC.quietQ (by kernel_rfl) (by kernel_rfl) (fun w hw => hw.drawn _) ?_
  refine TQ.val rfl rfl rfl (gives_move rfl rfl) ?_
  refine TQ.val rfl rfl rfl (gives_move rfl rfl) ?_
  have hi34 : i < dm26.length := by omega
  obtain ⟨x34, hx34⟩ : ∃ x34, dm26[i]? = some x34 := ⟨_, List.getElem?_eq_getElem hi34⟩
  have hd34 := (hP26.2 x34).1 (List.mem_of_getElem? hx34)
  have hf34 := isD_facts hmr hd34
  refine TQ.val rfl rfl rfl (gives_at (v := .pointer (some ⟨g_R26, 0 + i * 3, none⟩)) rfl rfl rfl (fun w => at_el Tryz.underlying55 plisz58 rfl _ _ i (by omega) rfl w)) ?_
  refine TQ.val rfl rfl rfl (gives_field (v := .pointer (some ⟨g_R26, 0 + i * 3 + 1, none⟩)) rfl rfl (fun w => plifld58_1 _ _ w)) ?_
  refine TQ.val rfl rfl rfl (gives_load (v := .int .i64 x34.to_) rfl rfl pliag3 (fun w1 hw => flat_row dm_cel hw (q := 0) rfl hx34 1 _ rfl)) ?_
  refine TQ.val rfl rfl rfl (gives_move rfl rfl) ?_
  refine TQ.val rfl rfl rfl (gives_move rfl rfl) ?_
  refine TQ.val rfl rfl rfl (gives_at (v := .pointer (some ⟨g_R26, 0 + i * 3, none⟩)) rfl rfl rfl (fun w => at_el Tryz.underlying55 plisz58 rfl _ _ i (by omega) rfl w)) ?_
  refine TQ.val rfl rfl rfl (gives_field (v := .pointer (some ⟨g_R26, 0 + i * 3 + 0, none⟩)) rfl rfl (fun w => plifld58_0 _ _ w)) ?_
  refine TQ.val rfl rfl rfl (gives_load (v := .int .i64 x34.frm) rfl rfl pliag3 (fun w1 hw => flat_row dm_cel hw (q := 0) rfl hx34 0 _ rfl)) ?_
  refine TQ.val rfl rfl rfl (gives_bin rfl rfl rfl (fun w => bin_add_ (r := x34.frm + 2) (by simp only [IntKind.wrap_i64]; omega) w)) ?_
  refine TQ.val rfl rfl rfl (gives_bin rfl rfl rfl (fun w => bin_lss_f (by omega) w)) ?_
  iterate 6 (first | refine TQ.val rfl rfl rfl (gives_move rfl rfl) ?_ | refine TQ.on rfl rfl rfl ?_)
  refine TQ.val rfl rfl rfl (gives_at (v := .pointer (some ⟨g_R26, 0 + i * 3, none⟩)) rfl rfl rfl (fun w => at_el Tryz.underlying55 plisz58 rfl _ _ i (by omega) rfl w)) ?_
  refine TQ.on rfl rfl rfl ?_
  refine TQ.val rfl rfl rfl (gives_field (v := .pointer (some ⟨g_R26, 0 + i * 3 + 2, none⟩)) rfl rfl (fun w => plifld58_2 _ _ w)) ?_
  refine TQ.on rfl rfl rfl ?_
  refine TQ.val rfl rfl rfl (gives_load (v := .int .i64 x34.wid) rfl rfl pliag3 (fun w1 hw => flat_row dm_cel hw (q := 0) rfl hx34 2 _ rfl)) ?_
  refine TQ.on rfl rfl rfl ?_
  refine TQ.val rfl rfl rfl (gives_bin rfl rfl rfl (fun w => bin_lss_f (by omega) w)) ?_
  iterate 5 (first | refine TQ.val rfl rfl rfl (gives_move rfl rfl) ?_ | refine TQ.on rfl rfl rfl ?_ | refine TQ.val rfl rfl rfl (gives_pick rfl rfl rfl) ?_)
  refine TQ.vsplit rfl rfl rfl (gives_bin rfl rfl rfl (fun w => bin_gtr w)) (fun h54 => ?_) (fun h54 => ?_)
  ·have q54 := of_decide_eq_true h54
   iterate 7 (first | refine TQ.on rfl rfl rfl ?_ | refine TQ.val rfl rfl rfl (gives_move rfl rfl) ?_)
   refine TQ.val rfl rfl rfl (gives_at (v := .pointer (some ⟨g_R26, 0 + i * 3, none⟩)) rfl rfl rfl (fun w => at_el Tryz.underlying55 plisz58 rfl _ _ i (by omega) rfl w)) ?_
   refine TQ.on rfl rfl rfl ?_
   refine TQ.val rfl rfl rfl (gives_field (v := .pointer (some ⟨g_R26, 0 + i * 3 + 0, none⟩)) rfl rfl (fun w => plifld58_0 _ _ w)) ?_
   refine TQ.on rfl rfl rfl ?_
   refine TQ.val rfl rfl rfl (gives_load (v := .int .i64 x34.frm) rfl rfl pliag3 (fun w1 hw => flat_row dm_cel hw (q := 0) rfl hx34 0 _ rfl)) ?_
   iterate 5 (first | refine TQ.on rfl rfl rfl ?_ | refine TQ.val rfl rfl rfl (gives_move rfl rfl) ?_)
   refine TQ.val rfl rfl rfl (gives_bin rfl rfl rfl (fun w => bin_sub_ (r := ((i - 1 : Nat) : Int)) (by simp only [IntKind.wrap_i64]; omega) w)) ?_
   refine TQ.on rfl rfl rfl ?_
   have hi64 : i - 1 < dm26.length := by omega
   obtain ⟨x64, hx64⟩ : ∃ x64, dm26[i - 1]? = some x64 := ⟨_, List.getElem?_eq_getElem hi64⟩
   refine TQ.val rfl rfl rfl (gives_at (v := .pointer (some ⟨g_R26, 0 + (i - 1) * 3, none⟩)) rfl rfl rfl (fun w => at_el Tryz.underlying55 plisz58 rfl _ _ (i - 1) (by omega) rfl w)) ?_
   refine TQ.on rfl rfl rfl ?_
   refine TQ.val rfl rfl rfl (gives_field (v := .pointer (some ⟨g_R26, 0 + (i - 1) * 3 + 1, none⟩)) rfl rfl (fun w => plifld58_1 _ _ w)) ?_
   refine TQ.on rfl rfl rfl ?_
   refine TQ.val rfl rfl rfl (gives_load (v := .int .i64 x64.to_) rfl rfl pliag3 (fun w1 hw => flat_row dm_cel hw (q := 0) rfl hx64 1 _ rfl)) ?_
   refine TQ.on rfl rfl rfl ?_
   refine TQ.val rfl rfl rfl (gives_bin rfl rfl rfl (fun w => bin_lss_f (by have := dm_apart hP26 hx64 hx34 (by omega); omega) w)) ?_
   refine TQ.on rfl rfl rfl ?_
   refine TQ.val rfl rfl rfl (gives_pick rfl rfl rfl) ?_
   refine TQ.val rfl rfl rfl (gives_pick rfl rfl rfl) ?_
   refine TQ.fin ?_
   refine TX.then_ (TC.condF rfl (TC.skip_ (TX.then_ (TC.seq_ (TC.region ?_)))))
   refine TL.mv ?_
   refine TL.mv ?_
   refine TL.val rfl rfl rfl (gives_at (v := .pointer (some ⟨g_R26, 0 + i * 3, none⟩)) rfl rfl rfl (fun w => at_el Tryz.underlying55 plisz58 rfl _ _ i (by omega) rfl w)) ?_
   refine TL.val rfl rfl rfl (gives_field (v := .pointer (some ⟨g_R26, 0 + i * 3 + 0, none⟩)) rfl rfl (fun w => plifld58_0 _ _ w)) ?_
   refine TL.val rfl rfl rfl (gives_load (v := .int .i64 x34.frm) rfl rfl pliag3 (fun w1 hw => flat_row dm_cel hw (q := 0) rfl hx34 0 _ rfl)) ?_
   refine TL.as_ ?_
   refine TL.end_ (TX.then_ (TC.block ?_))
   refine TC.loop_ (α := {z : Int // x34.frm ≤ z ∧ z ≤ x34.to_ + 1}) (fun y => [(4, .pointer (some ⟨g4, 0, none⟩)), (6, .slice (some ⟨g_R26, 0, none⟩) dm26.length rc26), (7, .int .i64 ((i : Nat) : Int)), (28, .int .i64 (dm26.length : Nat)), (29, .int .i64 ((i : Nat) : Int)), (8, .int .i64 y.1)]) (fun y => Pm wn ([.row (.slice (some ⟨g_R26, 0, none⟩) dm26.length rc26) 58 3 dm26.length (flat Dm.cells dm26), .blk g4 36 m.cells, .row (.slice Axs xs.length cxs) 47 17 xs.length (flat Rs.cells xs), .abs wn.heap.size (fun w => Cod w wn.heap.size)] ++ mpsP [m])) (fun y => (x34.to_ + 1 - y.1).toNat) (⟨x34.frm, Int.le_refl _, by omega⟩) ⟨rfl, rfl, rfl, rfl, rfl, rfl, trivial⟩ (fun w1 hw => hw) ?_
   rintro ⟨t, ht1, ht2⟩
   try dsimp only at ht1 ht2 ⊢
   refine TC.seq_ (TC.seq_ (TC.region ?_))
   refine TL.mv ?_
   refine TL.mv ?_
   refine TL.mv ?_
   refine TL.val rfl rfl rfl (gives_at (v := .pointer (some ⟨g_R26, 0 + i * 3, none⟩)) rfl rfl rfl (fun w => at_el Tryz.underlying55 plisz58 rfl _ _ i (by omega) rfl w)) ?_
   refine TL.val rfl rfl rfl (gives_field (v := .pointer (some ⟨g_R26, 0 + i * 3 + 1, none⟩)) rfl rfl (fun w => plifld58_1 _ _ w)) ?_
   refine TL.val rfl rfl rfl (gives_load (v := .int .i64 x34.to_) rfl rfl pliag3 (fun w1 hw => flat_row dm_cel hw (q := 0) rfl hx34 1 _ rfl)) ?_
   refine TL.vsplit rfl rfl rfl (gives_bin rfl rfl rfl (fun w => bin_leq w)) (fun h81 => ?_) (fun h81 => ?_)
   ·have q81 := of_decide_eq_true h81
    refine TL.end_ (TX.then_ (TC.condT rfl (TC.skip_ (TX.then_ (TC.seq_ (TC.block (TC.seq_ (TC.region ?_))))))))
    refine TL.as_ ?_
    refine TL.end_ (TX.then_ (TC.seq_ (TC.seq_ (TC.region ?_))))
    refine TL.val rfl rfl rfl (gives_field (v := .pointer (some ⟨g4, 4, none⟩)) rfl rfl (fun w => plifld36_2 _ _ w)) ?_
    refine TL.val rfl rfl rfl (pm_load (k := 1) (i := 4) rfl rfl pliag33 rfl rfl) ?_
    refine TL.val rfl rfl rfl (gives_len rfl Tryz.underlying33 rfl) ?_
    refine TL.mv ?_
    refine TL.end_ (TX.then_ (TC.block ?_))
    refine TC.loop_ (α := {y : Nat × Nat // y.1 ≤ m.hops.l.length ∧ wid (m.hops.l.take y.1) t = y.2 ∧ y.2 ≤ y.1}) (fun y => [(4, .pointer (some ⟨g4, 0, none⟩)), (6, .slice (some ⟨g_R26, 0, none⟩) dm26.length rc26), (7, .int .i64 ((i : Nat) : Int)), (8, .int .i64 t), (28, .int .i64 (dm26.length : Nat)), (29, .int .i64 ((i : Nat) : Int)), (85, .slice m.hops.A m.hops.l.length m.hops.c), (86, .int .i64 (m.hops.l.length : Nat)), (87, .int .i64 ((y.1.1 : Nat) : Int)), (9, .int .i64 ((y.1.2 : Nat) : Int))]) (fun y => Pm wn ([.row (.slice (some ⟨g_R26, 0, none⟩) dm26.length rc26) 58 3 dm26.length (flat Dm.cells dm26), .blk g4 36 m.cells, .row (.slice Axs xs.length cxs) 47 17 xs.length (flat Rs.cells xs), .abs wn.heap.size (fun w => Cod w wn.heap.size)] ++ mpsP [m])) (fun y => m.hops.l.length - y.1.1) (⟨(0, 0), Nat.zero_le _, rfl, Nat.le_refl _⟩) ⟨rfl, rfl, rfl, rfl, rfl, rfl, rfl, rfl, rfl, rfl, trivial⟩ (fun w1 hw => hw) ?_
    rintro ⟨⟨k, c⟩, hk, hc, hck⟩
    dsimp only at hk hc hck ⊢
    refine TC.seq_ (TC.region ?_)
    refine TL.vsplit rfl rfl rfl (gives_bin rfl rfl rfl (fun w => bin_lss w)) (fun h88 => ?_) (fun h88 => ?_)
    ·have q88 := of_decide_eq_true h88
     refine TL.end_ (TX.then_ (TC.seq_ (TC.condT rfl (TC.skip_ (TX.then_ (TC.seq_ (TC.block (TC.seq_ (TC.region ?_)))))))))
     have hi89 : k < m.hops.l.length := by omega
     obtain ⟨x89, hx89⟩ : ∃ x89, m.hops.l[k]? = some x89 := ⟨_, List.getElem?_eq_getElem hi89⟩
     have hA89 := hmA.hops (by omega)
     refine TL.val rfl rfl rfl (gives_at (v := .pointer (some ⟨(blkOf m.hops.A), 0 + k * 3, none⟩)) rfl rfl rfl (fun w => at_el Tryz.underlying33 plisz50 hA89 _ _ k (by omega) rfl w)) ?_
     refine TL.val rfl rfl rfl (gives_loadR (off := 0 + k * 3) rfl rfl pliag50 plisz50 (hp_cel.len x89) (fun w1 hw j9 u9 h9 => flat_rowM hp_cel hw (List.mem_of_mem_drop (i := 4) (by exact mps_hops (by simp))) hA89 hx89 j9 u9 h9)) ?_
     refine TL.pnew rfl rfl rfl (exec_alloc (cs := [.int .i64 0, .int .u32 0, .slice none 0 0]) rfl plizv50 rfl) (fun g11 => ?_)
     refine TL.pstore (k := 0) (vs := x89.cells) rfl rfl rfl rfl rfl rfl rfl plisz50 (hp_cel.one _) (by show 3 ≤ 3; decide) (L' := ([.blk g11 50 x89.cells, .row (.slice (some ⟨g_R26, 0, none⟩) dm26.length rc26) 58 3 dm26.length (flat Dm.cells dm26), .blk g4 36 m.cells, .row (.slice Axs xs.length cxs) 47 17 xs.length (flat Rs.cells xs), .abs wn.heap.size (fun w => Cod w wn.heap.size)] ++ mpsP [m])) rfl ?_
     refine TL.end_ (TX.then_ (TC.seq_ (TC.region ?_)))
     refine TL.val rfl rfl rfl (gives_field (v := .pointer (some ⟨g11, 0, none⟩)) rfl rfl (fun w => plifld50_0 _ _ w)) ?_
     refine TL.val rfl rfl rfl (pm_load (k := 0) (i := 0) rfl rfl pliag3 rfl rfl) ?_
     refine TL.mv ?_
     refine TL.vsplit rfl rfl rfl (gives_bin rfl rfl rfl (fun w => bin_eql w)) (fun h94 => ?_) (fun h94 => ?_)
     ·have q94 := of_decide_eq_true h94
      refine TL.end_ (TX.then_ (TC.condT rfl (TC.region ?_)))
      refine TL.mv ?_
      refine TL.val rfl rfl rfl (gives_bin rfl rfl rfl (fun w => bin_add_ (r := ((c + 1 : Nat) : Int)) (by simp only [IntKind.wrap_i64]; omega) w)) ?_
      refine TL.as_ ?_
      refine TL.end_ (TX.in_normal (TX.then_ (TC.region ?_)))
      refine TL.val rfl rfl rfl (gives_bin rfl rfl rfl (fun w => bin_add_ (r := ((k + 1 : Nat) : Int)) (by simp only [IntKind.wrap_i64]; omega) w)) ?_
      refine TL.mv ?_
      refine TL.end_ ?_
      exact TX.round (⟨(k + 1, c + 1), by dsimp only; omega, wid_t hx89 (by omega) hc, by dsimp only; omega⟩) (by show m.hops.l.length - (k + 1) < m.hops.l.length - k; omega) ⟨rfl, rfl, rfl, rfl, rfl, rfl, rfl, rfl, rfl, rfl, trivial⟩ (fun w1 hw => hw.sel (.cons _ (.cons_cons _ (.cons_cons _ (.cons_cons _ (.cons_cons _ (List.Sublist.refl _)))))))
     ·have q94 := of_decide_eq_false h94
      refine TL.end_ (TX.then_ (TC.condF rfl (TC.skip_ (TX.in_normal (TX.then_ (TC.region ?_))))))
      refine TL.val rfl rfl rfl (gives_bin rfl rfl rfl (fun w => bin_add_ (r := ((k + 1 : Nat) : Int)) (by simp only [IntKind.wrap_i64]; omega) w)) ?_
      refine TL.mv ?_
      refine TL.end_ ?_
      exact TX.round (⟨(k + 1, c), by dsimp only; omega, wid_f hx89 (by omega) hc, by dsimp only; omega⟩) (by show m.hops.l.length - (k + 1) < m.hops.l.length - k; omega) ⟨rfl, rfl, rfl, rfl, rfl, rfl, rfl, rfl, rfl, rfl, trivial⟩ (fun w1 hw => hw.sel (.cons _ (.cons_cons _ (.cons_cons _ (.cons_cons _ (.cons_cons _ (List.Sublist.refl _)))))))
    ·have q88 := of_decide_eq_false h88
     refine TL.end_ (TX.then_ (TC.seq_ (TC.condF rfl (TC.exit_ (TX.then_exit (TX.then_exit (TX.in_same (TX.then_ (TC.seq_ (TC.region ?_))))))))))
     refine TL.mv ?_
     refine TL.mv ?_
     refine TL.mv ?_
     refine TL.val rfl rfl rfl (gives_at (v := .pointer (some ⟨g_R26, 0 + i * 3, none⟩)) rfl rfl rfl (fun w => at_el Tryz.underlying55 plisz58 rfl _ _ i (by omega) rfl w)) ?_
     refine TL.val rfl rfl rfl (gives_field (v := .pointer (some ⟨g_R26, 0 + i * 3 + 0, none⟩)) rfl rfl (fun w => plifld58_0 _ _ w)) ?_
     refine TL.val rfl rfl rfl (gives_load (v := .int .i64 x34.frm) rfl rfl pliag3 (fun w1 hw => flat_row dm_cel hw (q := 0) rfl hx34 0 _ rfl)) ?_
     refine TL.vsplit rfl rfl rfl (gives_bin rfl rfl rfl (fun w => bin_eql w)) (fun h104 => ?_) (fun h104 => ?_)
     ·have q104 := of_decide_eq_true h104
      iterate 10 (first | refine TL.of ?_ | refine TL.mv ?_ | refine TL.pk ?_ | refine TL.as_ ?_)
      refine TL.end_ (TX.then_ (TC.seq_ ?_))
      have hwt : wid m.hops.l t = c := by rw [List.take_of_length_le (by omega)] at hc; exact hc
      have hdt := isD_at hd34 t (by omega) (by omega)
      rw [hwt] at hdt
      refine TC.region ?_
      refine TL.mv ?_
      refine TL.mv ?_
      refine TL.vsplit rfl rfl rfl (gives_bin rfl rfl rfl (fun w => bin_eql w)) (fun h116 => ?_) (fun h116 => ?_)
      ·have q116 := of_decide_eq_true h116
       refine TL.val rfl rfl rfl (gives_bin2 (v := .bool false) rfl rfl rfl (fun w => bin_neb Tryz.underlying4 true true w)) ?_
       iterate 4 (first | refine TL.gu ?_ | refine TL.mv ?_)
       refine TL.vsplit rfl rfl rfl (gives_bin rfl rfl rfl (fun w => bin_eql w)) (fun h120 => ?_) (fun h120 => ?_)
       ·have q120 := of_decide_eq_true h120
        iterate 14 (first | refine TL.of ?_ | refine TL.offU rfl rfl rfl rfl rfl ?_ | refine TL.pk ?_ | refine TL.mv ?_)
        refine TL.end_ (TX.then_ (TC.condT rfl (TC.seq_ (TC.region ?_))))
        refine TL.as_ ?_
        refine TL.end_ (TX.then_ (TC.ret_ (TX.in_ret (TX.then_ret (TX.then_ret (TX.in_ret (TX.in_ret (TX.then_ret (TX.then_ret (TX.in_ret (TX.then_ret ?_)))))))))))
        exfalso
        omega
       ·have q120 := of_decide_eq_false h120
        iterate 9 (first | refine TL.gu ?_ | refine TL.mv ?_ | refine TL.pk ?_)
        refine TL.val rfl rfl rfl (gives_at (v := .pointer (some ⟨g_R26, 0 + i * 3, none⟩)) rfl rfl rfl (fun w => at_el Tryz.underlying55 plisz58 rfl _ _ i (by omega) rfl w)) ?_
        refine TL.gu ?_
        refine TL.val rfl rfl rfl (gives_field (v := .pointer (some ⟨g_R26, 0 + i * 3 + 2, none⟩)) rfl rfl (fun w => plifld58_2 _ _ w)) ?_
        refine TL.gu ?_
        refine TL.val rfl rfl rfl (gives_load (v := .int .i64 x34.wid) rfl rfl pliag3 (fun w1 hw => flat_row dm_cel hw (q := 0) rfl hx34 2 _ rfl)) ?_
        refine TL.gu ?_
        refine TL.vsplit rfl rfl rfl (gives_bin rfl rfl rfl (fun w => bin_gtr w)) (fun h129 => ?_) (fun h129 => ?_)
        ·have q129 := of_decide_eq_true h129
         iterate 9 (first | refine TL.gu ?_ | refine TL.mv ?_ | refine TL.pk ?_ | refine TL.val rfl rfl rfl (gives_boolnot rfl rfl) ?_)
         refine TL.end_ (TX.then_ (TC.condF rfl (TC.skip_ (TX.in_normal (TX.then_ (TC.region ?_))))))
         refine TL.mv ?_
         refine TL.val rfl rfl rfl (gives_bin rfl rfl rfl (fun w => bin_add_ (r := t + 1) (by simp only [IntKind.wrap_i64]; omega) w)) ?_
         refine TL.as_ ?_
         refine TL.end_ ?_
         exact TX.round (⟨t + 1, by omega, by omega⟩) (by show (x34.to_ + 1 - (t + 1)).toNat < (x34.to_ + 1 - t).toNat; omega) ⟨rfl, rfl, rfl, rfl, rfl, rfl, trivial⟩ (fun w1 hw => hw)
        ·have q129 := of_decide_eq_false h129
         iterate 7 (first | refine TL.of ?_ | refine TL.gu ?_ | refine TL.pk ?_ | refine TL.mv ?_)
         refine TL.end_ (TX.then_ (TC.condF rfl (TC.skip_ (TX.in_normal (TX.then_ (TC.region ?_))))))
         refine TL.mv ?_
         refine TL.val rfl rfl rfl (gives_bin rfl rfl rfl (fun w => bin_add_ (r := t + 1) (by simp only [IntKind.wrap_i64]; omega) w)) ?_
         refine TL.as_ ?_
         refine TL.end_ ?_
         exact TX.round (⟨t + 1, by omega, by omega⟩) (by show (x34.to_ + 1 - (t + 1)).toNat < (x34.to_ + 1 - t).toNat; omega) ⟨rfl, rfl, rfl, rfl, rfl, rfl, trivial⟩ (fun w1 hw => hw)
      ·have q116 := of_decide_eq_false h116
       refine TL.val rfl rfl rfl (gives_bin2 (v := .bool true) rfl rfl rfl (fun w => bin_neb Tryz.underlying4 true false w)) ?_
       iterate 17 (first | refine TL.of ?_ | refine TL.offU rfl rfl rfl rfl rfl ?_ | refine TL.mv ?_ | refine TL.pk ?_)
       refine TL.end_ (TX.then_ (TC.condT rfl (TC.seq_ (TC.region ?_))))
       refine TL.as_ ?_
       refine TL.end_ (TX.then_ (TC.ret_ (TX.in_ret (TX.then_ret (TX.then_ret (TX.in_ret (TX.in_ret (TX.then_ret (TX.then_ret (TX.in_ret (TX.then_ret ?_)))))))))))
       exfalso
       omega
     ·have q104 := of_decide_eq_false h104
      iterate 8 (first | refine TL.gu ?_ | refine TL.mv ?_)
      refine TL.val rfl rfl rfl (gives_at (v := .pointer (some ⟨g_R26, 0 + i * 3, none⟩)) rfl rfl rfl (fun w => at_el Tryz.underlying55 plisz58 rfl _ _ i (by omega) rfl w)) ?_
      refine TL.gu ?_
      refine TL.val rfl rfl rfl (gives_field (v := .pointer (some ⟨g_R26, 0 + i * 3 + 1, none⟩)) rfl rfl (fun w => plifld58_1 _ _ w)) ?_
      refine TL.gu ?_
      refine TL.val rfl rfl rfl (gives_load (v := .int .i64 x34.to_) rfl rfl pliag3 (fun w1 hw => flat_row dm_cel hw (q := 0) rfl hx34 1 _ rfl)) ?_
      refine TL.gu ?_
      refine TL.vsplit rfl rfl rfl (gives_bin rfl rfl rfl (fun w => bin_eql w)) (fun h112 => ?_) (fun h112 => ?_)
      ·have q112 := of_decide_eq_true h112
       refine TL.pk ?_
       refine TL.as_ ?_
       refine TL.end_ (TX.then_ (TC.seq_ ?_))
       have hwt : wid m.hops.l t = c := by rw [List.take_of_length_le (by omega)] at hc; exact hc
       have hdt := isD_at hd34 t (by omega) (by omega)
       rw [hwt] at hdt
       refine TC.region ?_
       refine TL.mv ?_
       refine TL.mv ?_
       refine TL.vsplit rfl rfl rfl (gives_bin rfl rfl rfl (fun w => bin_eql w)) (fun h116 => ?_) (fun h116 => ?_)
       ·have q116 := of_decide_eq_true h116
        refine TL.val rfl rfl rfl (gives_bin2 (v := .bool false) rfl rfl rfl (fun w => bin_neb Tryz.underlying4 true true w)) ?_
        iterate 4 (first | refine TL.gu ?_ | refine TL.mv ?_)
        refine TL.vsplit rfl rfl rfl (gives_bin rfl rfl rfl (fun w => bin_eql w)) (fun h120 => ?_) (fun h120 => ?_)
        ·have q120 := of_decide_eq_true h120
         iterate 14 (first | refine TL.of ?_ | refine TL.offU rfl rfl rfl rfl rfl ?_ | refine TL.pk ?_ | refine TL.mv ?_)
         refine TL.end_ (TX.then_ (TC.condT rfl (TC.seq_ (TC.region ?_))))
         refine TL.as_ ?_
         refine TL.end_ (TX.then_ (TC.ret_ (TX.in_ret (TX.then_ret (TX.then_ret (TX.in_ret (TX.in_ret (TX.then_ret (TX.then_ret (TX.in_ret (TX.then_ret ?_)))))))))))
         exfalso
         omega
        ·have q120 := of_decide_eq_false h120
         iterate 9 (first | refine TL.gu ?_ | refine TL.mv ?_ | refine TL.pk ?_)
         refine TL.val rfl rfl rfl (gives_at (v := .pointer (some ⟨g_R26, 0 + i * 3, none⟩)) rfl rfl rfl (fun w => at_el Tryz.underlying55 plisz58 rfl _ _ i (by omega) rfl w)) ?_
         refine TL.gu ?_
         refine TL.val rfl rfl rfl (gives_field (v := .pointer (some ⟨g_R26, 0 + i * 3 + 2, none⟩)) rfl rfl (fun w => plifld58_2 _ _ w)) ?_
         refine TL.gu ?_
         refine TL.val rfl rfl rfl (gives_load (v := .int .i64 x34.wid) rfl rfl pliag3 (fun w1 hw => flat_row dm_cel hw (q := 0) rfl hx34 2 _ rfl)) ?_
         refine TL.gu ?_
         refine TL.vsplit rfl rfl rfl (gives_bin rfl rfl rfl (fun w => bin_gtr w)) (fun h129 => ?_) (fun h129 => ?_)
         ·have q129 := of_decide_eq_true h129
          iterate 9 (first | refine TL.gu ?_ | refine TL.mv ?_ | refine TL.pk ?_ | refine TL.val rfl rfl rfl (gives_boolnot rfl rfl) ?_)
          refine TL.end_ (TX.then_ (TC.condF rfl (TC.skip_ (TX.in_normal (TX.then_ (TC.region ?_))))))
          refine TL.mv ?_
          refine TL.val rfl rfl rfl (gives_bin rfl rfl rfl (fun w => bin_add_ (r := t + 1) (by simp only [IntKind.wrap_i64]; omega) w)) ?_
          refine TL.as_ ?_
          refine TL.end_ ?_
          exact TX.round (⟨t + 1, by omega, by omega⟩) (by show (x34.to_ + 1 - (t + 1)).toNat < (x34.to_ + 1 - t).toNat; omega) ⟨rfl, rfl, rfl, rfl, rfl, rfl, trivial⟩ (fun w1 hw => hw)
         ·have q129 := of_decide_eq_false h129
          iterate 7 (first | refine TL.of ?_ | refine TL.gu ?_ | refine TL.pk ?_ | refine TL.mv ?_)
          refine TL.end_ (TX.then_ (TC.condF rfl (TC.skip_ (TX.in_normal (TX.then_ (TC.region ?_))))))
          refine TL.mv ?_
          refine TL.val rfl rfl rfl (gives_bin rfl rfl rfl (fun w => bin_add_ (r := t + 1) (by simp only [IntKind.wrap_i64]; omega) w)) ?_
          refine TL.as_ ?_
          refine TL.end_ ?_
          exact TX.round (⟨t + 1, by omega, by omega⟩) (by show (x34.to_ + 1 - (t + 1)).toNat < (x34.to_ + 1 - t).toNat; omega) ⟨rfl, rfl, rfl, rfl, rfl, rfl, trivial⟩ (fun w1 hw => hw)
       ·have q116 := of_decide_eq_false h116
        refine TL.val rfl rfl rfl (gives_bin2 (v := .bool true) rfl rfl rfl (fun w => bin_neb Tryz.underlying4 true false w)) ?_
        iterate 17 (first | refine TL.of ?_ | refine TL.offU rfl rfl rfl rfl rfl ?_ | refine TL.mv ?_ | refine TL.pk ?_)
        refine TL.end_ (TX.then_ (TC.condT rfl (TC.seq_ (TC.region ?_))))
        refine TL.as_ ?_
        refine TL.end_ (TX.then_ (TC.ret_ (TX.in_ret (TX.then_ret (TX.then_ret (TX.in_ret (TX.in_ret (TX.then_ret (TX.then_ret (TX.in_ret (TX.then_ret ?_)))))))))))
        exfalso
        omega
      ·have q112 := of_decide_eq_false h112
       refine TL.pk ?_
       refine TL.as_ ?_
       refine TL.end_ (TX.then_ (TC.seq_ ?_))
       have hwt : wid m.hops.l t = c := by rw [List.take_of_length_le (by omega)] at hc; exact hc
       have hdt := isD_at hd34 t (by omega) (by omega)
       rw [hwt] at hdt
       refine TC.region ?_
       refine TL.mv ?_
       refine TL.mv ?_
       refine TL.vsplit rfl rfl rfl (gives_bin rfl rfl rfl (fun w => bin_eql w)) (fun h116 => ?_) (fun h116 => ?_)
       ·have q116 := of_decide_eq_true h116
        refine TL.val rfl rfl rfl (gives_bin2 (v := .bool true) rfl rfl rfl (fun w => bin_neb Tryz.underlying4 false true w)) ?_
        iterate 17 (first | refine TL.of ?_ | refine TL.offU rfl rfl rfl rfl rfl ?_ | refine TL.mv ?_ | refine TL.pk ?_)
        refine TL.end_ (TX.then_ (TC.condT rfl (TC.seq_ (TC.region ?_))))
        refine TL.as_ ?_
        refine TL.end_ (TX.then_ (TC.ret_ (TX.in_ret (TX.then_ret (TX.then_ret (TX.in_ret (TX.in_ret (TX.then_ret (TX.then_ret (TX.in_ret (TX.then_ret ?_)))))))))))
        exfalso
        omega
       ·have q116 := of_decide_eq_false h116
        refine TL.val rfl rfl rfl (gives_bin2 (v := .bool false) rfl rfl rfl (fun w => bin_neb Tryz.underlying4 false false w)) ?_
        iterate 4 (first | refine TL.gu ?_ | refine TL.mv ?_)
        refine TL.vsplit rfl rfl rfl (gives_bin rfl rfl rfl (fun w => bin_eql w)) (fun h120 => ?_) (fun h120 => ?_)
        ·have q120 := of_decide_eq_true h120
         iterate 14 (first | refine TL.of ?_ | refine TL.offU rfl rfl rfl rfl rfl ?_ | refine TL.pk ?_ | refine TL.mv ?_)
         refine TL.end_ (TX.then_ (TC.condT rfl (TC.seq_ (TC.region ?_))))
         refine TL.as_ ?_
         refine TL.end_ (TX.then_ (TC.ret_ (TX.in_ret (TX.then_ret (TX.then_ret (TX.in_ret (TX.in_ret (TX.then_ret (TX.then_ret (TX.in_ret (TX.then_ret ?_)))))))))))
         exfalso
         omega
        ·have q120 := of_decide_eq_false h120
         iterate 9 (first | refine TL.gu ?_ | refine TL.mv ?_ | refine TL.pk ?_)
         refine TL.val rfl rfl rfl (gives_at (v := .pointer (some ⟨g_R26, 0 + i * 3, none⟩)) rfl rfl rfl (fun w => at_el Tryz.underlying55 plisz58 rfl _ _ i (by omega) rfl w)) ?_
         refine TL.gu ?_
         refine TL.val rfl rfl rfl (gives_field (v := .pointer (some ⟨g_R26, 0 + i * 3 + 2, none⟩)) rfl rfl (fun w => plifld58_2 _ _ w)) ?_
         refine TL.gu ?_
         refine TL.val rfl rfl rfl (gives_load (v := .int .i64 x34.wid) rfl rfl pliag3 (fun w1 hw => flat_row dm_cel hw (q := 0) rfl hx34 2 _ rfl)) ?_
         refine TL.gu ?_
         refine TL.vsplit rfl rfl rfl (gives_bin rfl rfl rfl (fun w => bin_gtr w)) (fun h129 => ?_) (fun h129 => ?_)
         ·have q129 := of_decide_eq_true h129
          iterate 9 (first | refine TL.gu ?_ | refine TL.mv ?_ | refine TL.pk ?_ | refine TL.val rfl rfl rfl (gives_boolnot rfl rfl) ?_)
          refine TL.end_ (TX.then_ (TC.condT rfl (TC.seq_ (TC.region ?_))))
          refine TL.as_ ?_
          refine TL.end_ (TX.then_ (TC.ret_ (TX.in_ret (TX.then_ret (TX.then_ret (TX.in_ret (TX.in_ret (TX.then_ret (TX.then_ret (TX.in_ret (TX.then_ret ?_)))))))))))
          exfalso
          omega
         ·have q129 := of_decide_eq_false h129
          iterate 7 (first | refine TL.of ?_ | refine TL.gu ?_ | refine TL.pk ?_ | refine TL.mv ?_)
          refine TL.end_ (TX.then_ (TC.condF rfl (TC.skip_ (TX.in_normal (TX.then_ (TC.region ?_))))))
          refine TL.mv ?_
          refine TL.val rfl rfl rfl (gives_bin rfl rfl rfl (fun w => bin_add_ (r := t + 1) (by simp only [IntKind.wrap_i64]; omega) w)) ?_
          refine TL.as_ ?_
          refine TL.end_ ?_
          exact TX.round (⟨t + 1, by omega, by omega⟩) (by show (x34.to_ + 1 - (t + 1)).toNat < (x34.to_ + 1 - t).toNat; omega) ⟨rfl, rfl, rfl, rfl, rfl, rfl, trivial⟩ (fun w1 hw => hw)
   ·have q81 := of_decide_eq_false h81
    refine TL.end_ (TX.then_ (TC.condF rfl (TC.exit_ (TX.then_exit (TX.then_exit (TX.in_same (TX.in_normal (TX.then_ (TC.region ?_)))))))))
    refine TL.val rfl rfl rfl (gives_bin rfl rfl rfl (fun w => bin_add_ (r := ((i + 1 : Nat) : Int)) (by simp only [IntKind.wrap_i64]; omega) w)) ?_
    refine TL.mv ?_
    refine TL.end_ ?_
    exact TX.round (⟨i + 1, by omega⟩) (by show dm26.length - (i + 1) < dm26.length - i; omega) ⟨rfl, rfl, rfl, rfl, trivial⟩ (fun w1 hw => hw)
  ·have q54 := of_decide_eq_false h54
   iterate 17 (first | refine TQ.off rfl rfl rfl rfl rfl rfl ?_ | refine TQ.on rfl rfl rfl ?_ | refine TQ.val rfl rfl rfl (gives_pick rfl rfl rfl) ?_ | refine TQ.val rfl rfl rfl (gives_move rfl rfl) ?_)
   refine TQ.fin ?_
   refine TX.then_ (TC.condF rfl (TC.skip_ (TX.then_ (TC.seq_ (TC.region ?_)))))
   refine TL.mv ?_
   refine TL.mv ?_
   refine TL.val rfl rfl rfl (gives_at (v := .pointer (some ⟨g_R26, 0 + i * 3, none⟩)) rfl rfl rfl (fun w => at_el Tryz.underlying55 plisz58 rfl _ _ i (by omega) rfl w)) ?_
   refine TL.val rfl rfl rfl (gives_field (v := .pointer (some ⟨g_R26, 0 + i * 3 + 0, none⟩)) rfl rfl (fun w => plifld58_0 _ _ w)) ?_
   refine TL.val rfl rfl rfl (gives_load (v := .int .i64 x34.frm) rfl rfl pliag3 (fun w1 hw => flat_row dm_cel hw (q := 0) rfl hx34 0 _ rfl)) ?_
   refine TL.as_ ?_
   refine TL.end_ (TX.then_ (TC.block ?_))
   refine TC.loop_ (α := {z : Int // x34.frm ≤ z ∧ z ≤ x34.to_ + 1}) (fun y => [(4, .pointer (some ⟨g4, 0, none⟩)), (6, .slice (some ⟨g_R26, 0, none⟩) dm26.length rc26), (7, .int .i64 ((i : Nat) : Int)), (28, .int .i64 (dm26.length : Nat)), (29, .int .i64 ((i : Nat) : Int)), (8, .int .i64 y.1)]) (fun y => Pm wn ([.row (.slice (some ⟨g_R26, 0, none⟩) dm26.length rc26) 58 3 dm26.length (flat Dm.cells dm26), .blk g4 36 m.cells, .row (.slice Axs xs.length cxs) 47 17 xs.length (flat Rs.cells xs), .abs wn.heap.size (fun w => Cod w wn.heap.size)] ++ mpsP [m])) (fun y => (x34.to_ + 1 - y.1).toNat) (⟨x34.frm, Int.le_refl _, by omega⟩) ⟨rfl, rfl, rfl, rfl, rfl, rfl, trivial⟩ (fun w1 hw => hw) ?_
   rintro ⟨t, ht1, ht2⟩
   try dsimp only at ht1 ht2 ⊢
   refine TC.seq_ (TC.seq_ (TC.region ?_))
   refine TL.mv ?_
   refine TL.mv ?_
   refine TL.mv ?_
   refine TL.val rfl rfl rfl (gives_at (v := .pointer (some ⟨g_R26, 0 + i * 3, none⟩)) rfl rfl rfl (fun w => at_el Tryz.underlying55 plisz58 rfl _ _ i (by omega) rfl w)) ?_
   refine TL.val rfl rfl rfl (gives_field (v := .pointer (some ⟨g_R26, 0 + i * 3 + 1, none⟩)) rfl rfl (fun w => plifld58_1 _ _ w)) ?_
   refine TL.val rfl rfl rfl (gives_load (v := .int .i64 x34.to_) rfl rfl pliag3 (fun w1 hw => flat_row dm_cel hw (q := 0) rfl hx34 1 _ rfl)) ?_
   refine TL.vsplit rfl rfl rfl (gives_bin rfl rfl rfl (fun w => bin_leq w)) (fun h81 => ?_) (fun h81 => ?_)
   ·have q81 := of_decide_eq_true h81
    refine TL.end_ (TX.then_ (TC.condT rfl (TC.skip_ (TX.then_ (TC.seq_ (TC.block (TC.seq_ (TC.region ?_))))))))
    refine TL.as_ ?_
    refine TL.end_ (TX.then_ (TC.seq_ (TC.seq_ (TC.region ?_))))
    refine TL.val rfl rfl rfl (gives_field (v := .pointer (some ⟨g4, 4, none⟩)) rfl rfl (fun w => plifld36_2 _ _ w)) ?_
    refine TL.val rfl rfl rfl (pm_load (k := 1) (i := 4) rfl rfl pliag33 rfl rfl) ?_
    refine TL.val rfl rfl rfl (gives_len rfl Tryz.underlying33 rfl) ?_
    refine TL.mv ?_
    refine TL.end_ (TX.then_ (TC.block ?_))
    refine TC.loop_ (α := {y : Nat × Nat // y.1 ≤ m.hops.l.length ∧ wid (m.hops.l.take y.1) t = y.2 ∧ y.2 ≤ y.1}) (fun y => [(4, .pointer (some ⟨g4, 0, none⟩)), (6, .slice (some ⟨g_R26, 0, none⟩) dm26.length rc26), (7, .int .i64 ((i : Nat) : Int)), (8, .int .i64 t), (28, .int .i64 (dm26.length : Nat)), (29, .int .i64 ((i : Nat) : Int)), (85, .slice m.hops.A m.hops.l.length m.hops.c), (86, .int .i64 (m.hops.l.length : Nat)), (87, .int .i64 ((y.1.1 : Nat) : Int)), (9, .int .i64 ((y.1.2 : Nat) : Int))]) (fun y => Pm wn ([.row (.slice (some ⟨g_R26, 0, none⟩) dm26.length rc26) 58 3 dm26.length (flat Dm.cells dm26), .blk g4 36 m.cells, .row (.slice Axs xs.length cxs) 47 17 xs.length (flat Rs.cells xs), .abs wn.heap.size (fun w => Cod w wn.heap.size)] ++ mpsP [m])) (fun y => m.hops.l.length - y.1.1) (⟨(0, 0), Nat.zero_le _, rfl, Nat.le_refl _⟩) ⟨rfl, rfl, rfl, rfl, rfl, rfl, rfl, rfl, rfl, rfl, trivial⟩ (fun w1 hw => hw) ?_
    rintro ⟨⟨k, c⟩, hk, hc, hck⟩
    dsimp only at hk hc hck ⊢
    refine TC.seq_ (TC.region ?_)
    refine TL.vsplit rfl rfl rfl (gives_bin rfl rfl rfl (fun w => bin_lss w)) (fun h88 => ?_) (fun h88 => ?_)
    ·have q88 := of_decide_eq_true h88
     refine TL.end_ (TX.then_ (TC.seq_ (TC.condT rfl (TC.skip_ (TX.then_ (TC.seq_ (TC.block (TC.seq_ (TC.region ?_)))))))))
     have hi89 : k < m.hops.l.length := by omega
     obtain ⟨x89, hx89⟩ : ∃ x89, m.hops.l[k]? = some x89 := ⟨_, List.getElem?_eq_getElem hi89⟩
     have hA89 := hmA.hops (by omega)
     refine TL.val rfl rfl rfl (gives_at (v := .pointer (some ⟨(blkOf m.hops.A), 0 + k * 3, none⟩)) rfl rfl rfl (fun w => at_el Tryz.underlying33 plisz50 hA89 _ _ k (by omega) rfl w)) ?_
     refine TL.val rfl rfl rfl (gives_loadR (off := 0 + k * 3) rfl rfl pliag50 plisz50 (hp_cel.len x89) (fun w1 hw j9 u9 h9 => flat_rowM hp_cel hw (List.mem_of_mem_drop (i := 4) (by exact mps_hops (by simp))) hA89 hx89 j9 u9 h9)) ?_
     refine TL.pnew rfl rfl rfl (exec_alloc (cs := [.int .i64 0, .int .u32 0, .slice none 0 0]) rfl plizv50 rfl) (fun g11 => ?_)
     refine TL.pstore (k := 0) (vs := x89.cells) rfl rfl rfl rfl rfl rfl rfl plisz50 (hp_cel.one _) (by show 3 ≤ 3; decide) (L' := ([.blk g11 50 x89.cells, .row (.slice (some ⟨g_R26, 0, none⟩) dm26.length rc26) 58 3 dm26.length (flat Dm.cells dm26), .blk g4 36 m.cells, .row (.slice Axs xs.length cxs) 47 17 xs.length (flat Rs.cells xs), .abs wn.heap.size (fun w => Cod w wn.heap.size)] ++ mpsP [m])) rfl ?_
     refine TL.end_ (TX.then_ (TC.seq_ (TC.region ?_)))
     refine TL.val rfl rfl rfl (gives_field (v := .pointer (some ⟨g11, 0, none⟩)) rfl rfl (fun w => plifld50_0 _ _ w)) ?_
     refine TL.val rfl rfl rfl (pm_load (k := 0) (i := 0) rfl rfl pliag3 rfl rfl) ?_
     refine TL.mv ?_
     refine TL.vsplit rfl rfl rfl (gives_bin rfl rfl rfl (fun w => bin_eql w)) (fun h94 => ?_) (fun h94 => ?_)
     ·have q94 := of_decide_eq_true h94
      refine TL.end_ (TX.then_ (TC.condT rfl (TC.region ?_)))
      refine TL.mv ?_
      refine TL.val rfl rfl rfl (gives_bin rfl rfl rfl (fun w => bin_add_ (r := ((c + 1 : Nat) : Int)) (by simp only [IntKind.wrap_i64]; omega) w)) ?_
      refine TL.as_ ?_
      refine TL.end_ (TX.in_normal (TX.then_ (TC.region ?_)))
      refine TL.val rfl rfl rfl (gives_bin rfl rfl rfl (fun w => bin_add_ (r := ((k + 1 : Nat) : Int)) (by simp only [IntKind.wrap_i64]; omega) w)) ?_
      refine TL.mv ?_
      refine TL.end_ ?_
      exact TX.round (⟨(k + 1, c + 1), by dsimp only; omega, wid_t hx89 (by omega) hc, by dsimp only; omega⟩) (by show m.hops.l.length - (k + 1) < m.hops.l.length - k; omega) ⟨rfl, rfl, rfl, rfl, rfl, rfl, rfl, rfl, rfl, rfl, trivial⟩ (fun w1 hw => hw.sel (.cons _ (.cons_cons _ (.cons_cons _ (.cons_cons _ (.cons_cons _ (List.Sublist.refl _)))))))
     ·have q94 := of_decide_eq_false h94
      refine TL.end_ (TX.then_ (TC.condF rfl (TC.skip_ (TX.in_normal (TX.then_ (TC.region ?_))))))
      refine TL.val rfl rfl rfl (gives_bin rfl rfl rfl (fun w => bin_add_ (r := ((k + 1 : Nat) : Int)) (by simp only [IntKind.wrap_i64]; omega) w)) ?_
      refine TL.mv ?_
      refine TL.end_ ?_
      exact TX.round (⟨(k + 1, c), by dsimp only; omega, wid_f hx89 (by omega) hc, by dsimp only; omega⟩) (by show m.hops.l.length - (k + 1) < m.hops.l.length - k; omega) ⟨rfl, rfl, rfl, rfl, rfl, rfl, rfl, rfl, rfl, rfl, trivial⟩ (fun w1 hw => hw.sel (.cons _ (.cons_cons _ (.cons_cons _ (.cons_cons _ (.cons_cons _ (List.Sublist.refl _)))))))
    ·have q88 := of_decide_eq_false h88
     refine TL.end_ (TX.then_ (TC.seq_ (TC.condF rfl (TC.exit_ (TX.then_exit (TX.then_exit (TX.in_same (TX.then_ (TC.seq_ (TC.region ?_))))))))))
     refine TL.mv ?_
     refine TL.mv ?_
     refine TL.mv ?_
     refine TL.val rfl rfl rfl (gives_at (v := .pointer (some ⟨g_R26, 0 + i * 3, none⟩)) rfl rfl rfl (fun w => at_el Tryz.underlying55 plisz58 rfl _ _ i (by omega) rfl w)) ?_
     refine TL.val rfl rfl rfl (gives_field (v := .pointer (some ⟨g_R26, 0 + i * 3 + 0, none⟩)) rfl rfl (fun w => plifld58_0 _ _ w)) ?_
     refine TL.val rfl rfl rfl (gives_load (v := .int .i64 x34.frm) rfl rfl pliag3 (fun w1 hw => flat_row dm_cel hw (q := 0) rfl hx34 0 _ rfl)) ?_
     refine TL.vsplit rfl rfl rfl (gives_bin rfl rfl rfl (fun w => bin_eql w)) (fun h104 => ?_) (fun h104 => ?_)
     ·have q104 := of_decide_eq_true h104
      iterate 10 (first | refine TL.of ?_ | refine TL.mv ?_ | refine TL.pk ?_ | refine TL.as_ ?_)
      refine TL.end_ (TX.then_ (TC.seq_ ?_))
      have hwt : wid m.hops.l t = c := by rw [List.take_of_length_le (by omega)] at hc; exact hc
      have hdt := isD_at hd34 t (by omega) (by omega)
      rw [hwt] at hdt
      refine TC.region ?_
      refine TL.mv ?_
      refine TL.mv ?_
      refine TL.vsplit rfl rfl rfl (gives_bin rfl rfl rfl (fun w => bin_eql w)) (fun h116 => ?_) (fun h116 => ?_)
      ·have q116 := of_decide_eq_true h116
       refine TL.val rfl rfl rfl (gives_bin2 (v := .bool false) rfl rfl rfl (fun w => bin_neb Tryz.underlying4 true true w)) ?_
       iterate 4 (first | refine TL.gu ?_ | refine TL.mv ?_)
       refine TL.vsplit rfl rfl rfl (gives_bin rfl rfl rfl (fun w => bin_eql w)) (fun h120 => ?_) (fun h120 => ?_)
       ·have q120 := of_decide_eq_true h120
        iterate 14 (first | refine TL.of ?_ | refine TL.offU rfl rfl rfl rfl rfl ?_ | refine TL.pk ?_ | refine TL.mv ?_)
        refine TL.end_ (TX.then_ (TC.condT rfl (TC.seq_ (TC.region ?_))))
        refine TL.as_ ?_
        refine TL.end_ (TX.then_ (TC.ret_ (TX.in_ret (TX.then_ret (TX.then_ret (TX.in_ret (TX.in_ret (TX.then_ret (TX.then_ret (TX.in_ret (TX.then_ret ?_)))))))))))
        exfalso
        omega
       ·have q120 := of_decide_eq_false h120
        iterate 9 (first | refine TL.gu ?_ | refine TL.mv ?_ | refine TL.pk ?_)
        refine TL.val rfl rfl rfl (gives_at (v := .pointer (some ⟨g_R26, 0 + i * 3, none⟩)) rfl rfl rfl (fun w => at_el Tryz.underlying55 plisz58 rfl _ _ i (by omega) rfl w)) ?_
        refine TL.gu ?_
        refine TL.val rfl rfl rfl (gives_field (v := .pointer (some ⟨g_R26, 0 + i * 3 + 2, none⟩)) rfl rfl (fun w => plifld58_2 _ _ w)) ?_
        refine TL.gu ?_
        refine TL.val rfl rfl rfl (gives_load (v := .int .i64 x34.wid) rfl rfl pliag3 (fun w1 hw => flat_row dm_cel hw (q := 0) rfl hx34 2 _ rfl)) ?_
        refine TL.gu ?_
        refine TL.vsplit rfl rfl rfl (gives_bin rfl rfl rfl (fun w => bin_gtr w)) (fun h129 => ?_) (fun h129 => ?_)
        ·have q129 := of_decide_eq_true h129
         iterate 9 (first | refine TL.gu ?_ | refine TL.mv ?_ | refine TL.pk ?_ | refine TL.val rfl rfl rfl (gives_boolnot rfl rfl) ?_)
         refine TL.end_ (TX.then_ (TC.condF rfl (TC.skip_ (TX.in_normal (TX.then_ (TC.region ?_))))))
         refine TL.mv ?_
         refine TL.val rfl rfl rfl (gives_bin rfl rfl rfl (fun w => bin_add_ (r := t + 1) (by simp only [IntKind.wrap_i64]; omega) w)) ?_
         refine TL.as_ ?_
         refine TL.end_ ?_
         exact TX.round (⟨t + 1, by omega, by omega⟩) (by show (x34.to_ + 1 - (t + 1)).toNat < (x34.to_ + 1 - t).toNat; omega) ⟨rfl, rfl, rfl, rfl, rfl, rfl, trivial⟩ (fun w1 hw => hw)
        ·have q129 := of_decide_eq_false h129
         iterate 7 (first | refine TL.of ?_ | refine TL.gu ?_ | refine TL.pk ?_ | refine TL.mv ?_)
         refine TL.end_ (TX.then_ (TC.condF rfl (TC.skip_ (TX.in_normal (TX.then_ (TC.region ?_))))))
         refine TL.mv ?_
         refine TL.val rfl rfl rfl (gives_bin rfl rfl rfl (fun w => bin_add_ (r := t + 1) (by simp only [IntKind.wrap_i64]; omega) w)) ?_
         refine TL.as_ ?_
         refine TL.end_ ?_
         exact TX.round (⟨t + 1, by omega, by omega⟩) (by show (x34.to_ + 1 - (t + 1)).toNat < (x34.to_ + 1 - t).toNat; omega) ⟨rfl, rfl, rfl, rfl, rfl, rfl, trivial⟩ (fun w1 hw => hw)
      ·have q116 := of_decide_eq_false h116
       refine TL.val rfl rfl rfl (gives_bin2 (v := .bool true) rfl rfl rfl (fun w => bin_neb Tryz.underlying4 true false w)) ?_
       iterate 17 (first | refine TL.of ?_ | refine TL.offU rfl rfl rfl rfl rfl ?_ | refine TL.mv ?_ | refine TL.pk ?_)
       refine TL.end_ (TX.then_ (TC.condT rfl (TC.seq_ (TC.region ?_))))
       refine TL.as_ ?_
       refine TL.end_ (TX.then_ (TC.ret_ (TX.in_ret (TX.then_ret (TX.then_ret (TX.in_ret (TX.in_ret (TX.then_ret (TX.then_ret (TX.in_ret (TX.then_ret ?_)))))))))))
       exfalso
       omega
     ·have q104 := of_decide_eq_false h104
      iterate 8 (first | refine TL.gu ?_ | refine TL.mv ?_)
      refine TL.val rfl rfl rfl (gives_at (v := .pointer (some ⟨g_R26, 0 + i * 3, none⟩)) rfl rfl rfl (fun w => at_el Tryz.underlying55 plisz58 rfl _ _ i (by omega) rfl w)) ?_
      refine TL.gu ?_
      refine TL.val rfl rfl rfl (gives_field (v := .pointer (some ⟨g_R26, 0 + i * 3 + 1, none⟩)) rfl rfl (fun w => plifld58_1 _ _ w)) ?_
      refine TL.gu ?_
      refine TL.val rfl rfl rfl (gives_load (v := .int .i64 x34.to_) rfl rfl pliag3 (fun w1 hw => flat_row dm_cel hw (q := 0) rfl hx34 1 _ rfl)) ?_
      refine TL.gu ?_
      refine TL.vsplit rfl rfl rfl (gives_bin rfl rfl rfl (fun w => bin_eql w)) (fun h112 => ?_) (fun h112 => ?_)
      ·have q112 := of_decide_eq_true h112
       refine TL.pk ?_
       refine TL.as_ ?_
       refine TL.end_ (TX.then_ (TC.seq_ ?_))
       have hwt : wid m.hops.l t = c := by rw [List.take_of_length_le (by omega)] at hc; exact hc
       have hdt := isD_at hd34 t (by omega) (by omega)
       rw [hwt] at hdt
       refine TC.region ?_
       refine TL.mv ?_
       refine TL.mv ?_
       refine TL.vsplit rfl rfl rfl (gives_bin rfl rfl rfl (fun w => bin_eql w)) (fun h116 => ?_) (fun h116 => ?_)
       ·have q116 := of_decide_eq_true h116
        refine TL.val rfl rfl rfl (gives_bin2 (v := .bool false) rfl rfl rfl (fun w => bin_neb Tryz.underlying4 true true w)) ?_
        iterate 4 (first | refine TL.gu ?_ | refine TL.mv ?_)
        refine TL.vsplit rfl rfl rfl (gives_bin rfl rfl rfl (fun w => bin_eql w)) (fun h120 => ?_) (fun h120 => ?_)
        ·have q120 := of_decide_eq_true h120
         iterate 14 (first | refine TL.of ?_ | refine TL.offU rfl rfl rfl rfl rfl ?_ | refine TL.pk ?_ | refine TL.mv ?_)
         refine TL.end_ (TX.then_ (TC.condT rfl (TC.seq_ (TC.region ?_))))
         refine TL.as_ ?_
         refine TL.end_ (TX.then_ (TC.ret_ (TX.in_ret (TX.then_ret (TX.then_ret (TX.in_ret (TX.in_ret (TX.then_ret (TX.then_ret (TX.in_ret (TX.then_ret ?_)))))))))))
         exfalso
         omega
        ·have q120 := of_decide_eq_false h120
         iterate 9 (first | refine TL.gu ?_ | refine TL.mv ?_ | refine TL.pk ?_)
         refine TL.val rfl rfl rfl (gives_at (v := .pointer (some ⟨g_R26, 0 + i * 3, none⟩)) rfl rfl rfl (fun w => at_el Tryz.underlying55 plisz58 rfl _ _ i (by omega) rfl w)) ?_
         refine TL.gu ?_
         refine TL.val rfl rfl rfl (gives_field (v := .pointer (some ⟨g_R26, 0 + i * 3 + 2, none⟩)) rfl rfl (fun w => plifld58_2 _ _ w)) ?_
         refine TL.gu ?_
         refine TL.val rfl rfl rfl (gives_load (v := .int .i64 x34.wid) rfl rfl pliag3 (fun w1 hw => flat_row dm_cel hw (q := 0) rfl hx34 2 _ rfl)) ?_
         refine TL.gu ?_
         refine TL.vsplit rfl rfl rfl (gives_bin rfl rfl rfl (fun w => bin_gtr w)) (fun h129 => ?_) (fun h129 => ?_)
         ·have q129 := of_decide_eq_true h129
          iterate 9 (first | refine TL.gu ?_ | refine TL.mv ?_ | refine TL.pk ?_ | refine TL.val rfl rfl rfl (gives_boolnot rfl rfl) ?_)
          refine TL.end_ (TX.then_ (TC.condF rfl (TC.skip_ (TX.in_normal (TX.then_ (TC.region ?_))))))
          refine TL.mv ?_
          refine TL.val rfl rfl rfl (gives_bin rfl rfl rfl (fun w => bin_add_ (r := t + 1) (by simp only [IntKind.wrap_i64]; omega) w)) ?_
          refine TL.as_ ?_
          refine TL.end_ ?_
          exact TX.round (⟨t + 1, by omega, by omega⟩) (by show (x34.to_ + 1 - (t + 1)).toNat < (x34.to_ + 1 - t).toNat; omega) ⟨rfl, rfl, rfl, rfl, rfl, rfl, trivial⟩ (fun w1 hw => hw)
         ·have q129 := of_decide_eq_false h129
          iterate 7 (first | refine TL.of ?_ | refine TL.gu ?_ | refine TL.pk ?_ | refine TL.mv ?_)
          refine TL.end_ (TX.then_ (TC.condF rfl (TC.skip_ (TX.in_normal (TX.then_ (TC.region ?_))))))
          refine TL.mv ?_
          refine TL.val rfl rfl rfl (gives_bin rfl rfl rfl (fun w => bin_add_ (r := t + 1) (by simp only [IntKind.wrap_i64]; omega) w)) ?_
          refine TL.as_ ?_
          refine TL.end_ ?_
          exact TX.round (⟨t + 1, by omega, by omega⟩) (by show (x34.to_ + 1 - (t + 1)).toNat < (x34.to_ + 1 - t).toNat; omega) ⟨rfl, rfl, rfl, rfl, rfl, rfl, trivial⟩ (fun w1 hw => hw)
       ·have q116 := of_decide_eq_false h116
        refine TL.val rfl rfl rfl (gives_bin2 (v := .bool true) rfl rfl rfl (fun w => bin_neb Tryz.underlying4 true false w)) ?_
        iterate 17 (first | refine TL.of ?_ | refine TL.offU rfl rfl rfl rfl rfl ?_ | refine TL.mv ?_ | refine TL.pk ?_)
        refine TL.end_ (TX.then_ (TC.condT rfl (TC.seq_ (TC.region ?_))))
        refine TL.as_ ?_
        refine TL.end_ (TX.then_ (TC.ret_ (TX.in_ret (TX.then_ret (TX.then_ret (TX.in_ret (TX.in_ret (TX.then_ret (TX.then_ret (TX.in_ret (TX.then_ret ?_)))))))))))
        exfalso
        omega
      ·have q112 := of_decide_eq_false h112
       refine TL.pk ?_
       refine TL.as_ ?_
       refine TL.end_ (TX.then_ (TC.seq_ ?_))
       have hwt : wid m.hops.l t = c := by rw [List.take_of_length_le (by omega)] at hc; exact hc
       have hdt := isD_at hd34 t (by omega) (by omega)
       rw [hwt] at hdt
       refine TC.region ?_
       refine TL.mv ?_
       refine TL.mv ?_
       refine TL.vsplit rfl rfl rfl (gives_bin rfl rfl rfl (fun w => bin_eql w)) (fun h116 => ?_) (fun h116 => ?_)
       ·have q116 := of_decide_eq_true h116
        refine TL.val rfl rfl rfl (gives_bin2 (v := .bool true) rfl rfl rfl (fun w => bin_neb Tryz.underlying4 false true w)) ?_
        iterate 17 (first | refine TL.of ?_ | refine TL.offU rfl rfl rfl rfl rfl ?_ | refine TL.mv ?_ | refine TL.pk ?_)
        refine TL.end_ (TX.then_ (TC.condT rfl (TC.seq_ (TC.region ?_))))
        refine TL.as_ ?_
        refine TL.end_ (TX.then_ (TC.ret_ (TX.in_ret (TX.then_ret (TX.then_ret (TX.in_ret (TX.in_ret (TX.then_ret (TX.then_ret (TX.in_ret (TX.then_ret ?_)))))))))))
        exfalso
        omega
       ·have q116 := of_decide_eq_false h116
        refine TL.val rfl rfl rfl (gives_bin2 (v := .bool false) rfl rfl rfl (fun w => bin_neb Tryz.underlying4 false false w)) ?_
        iterate 4 (first | refine TL.gu ?_ | refine TL.mv ?_)
        refine TL.vsplit rfl rfl rfl (gives_bin rfl rfl rfl (fun w => bin_eql w)) (fun h120 => ?_) (fun h120 => ?_)
        ·have q120 := of_decide_eq_true h120
         iterate 14 (first | refine TL.of ?_ | refine TL.offU rfl rfl rfl rfl rfl ?_ | refine TL.pk ?_ | refine TL.mv ?_)
         refine TL.end_ (TX.then_ (TC.condT rfl (TC.seq_ (TC.region ?_))))
         refine TL.as_ ?_
         refine TL.end_ (TX.then_ (TC.ret_ (TX.in_ret (TX.then_ret (TX.then_ret (TX.in_ret (TX.in_ret (TX.then_ret (TX.then_ret (TX.in_ret (TX.then_ret ?_)))))))))))
         exfalso
         omega
        ·have q120 := of_decide_eq_false h120
         iterate 9 (first | refine TL.gu ?_ | refine TL.mv ?_ | refine TL.pk ?_)
         refine TL.val rfl rfl rfl (gives_at (v := .pointer (some ⟨g_R26, 0 + i * 3, none⟩)) rfl rfl rfl (fun w => at_el Tryz.underlying55 plisz58 rfl _ _ i (by omega) rfl w)) ?_
         refine TL.gu ?_
         refine TL.val rfl rfl rfl (gives_field (v := .pointer (some ⟨g_R26, 0 + i * 3 + 2, none⟩)) rfl rfl (fun w => plifld58_2 _ _ w)) ?_
         refine TL.gu ?_
         refine TL.val rfl rfl rfl (gives_load (v := .int .i64 x34.wid) rfl rfl pliag3 (fun w1 hw => flat_row dm_cel hw (q := 0) rfl hx34 2 _ rfl)) ?_
         refine TL.gu ?_
         refine TL.vsplit rfl rfl rfl (gives_bin rfl rfl rfl (fun w => bin_gtr w)) (fun h129 => ?_) (fun h129 => ?_)
         ·have q129 := of_decide_eq_true h129
          iterate 9 (first | refine TL.gu ?_ | refine TL.mv ?_ | refine TL.pk ?_ | refine TL.val rfl rfl rfl (gives_boolnot rfl rfl) ?_)
          refine TL.end_ (TX.then_ (TC.condT rfl (TC.seq_ (TC.region ?_))))
          refine TL.as_ ?_
          refine TL.end_ (TX.then_ (TC.ret_ (TX.in_ret (TX.then_ret (TX.then_ret (TX.in_ret (TX.in_ret (TX.then_ret (TX.then_ret (TX.in_ret (TX.then_ret ?_)))))))))))
          exfalso
          omega
         ·have q129 := of_decide_eq_false h129
          iterate 7 (first | refine TL.of ?_ | refine TL.gu ?_ | refine TL.pk ?_ | refine TL.mv ?_)
          refine TL.end_ (TX.then_ (TC.condF rfl (TC.skip_ (TX.in_normal (TX.then_ (TC.region ?_))))))
          refine TL.mv ?_
          refine TL.val rfl rfl rfl (gives_bin rfl rfl rfl (fun w => bin_add_ (r := t + 1) (by simp only [IntKind.wrap_i64]; omega) w)) ?_
          refine TL.as_ ?_
          refine TL.end_ ?_
          exact TX.round (⟨t + 1, by omega, by omega⟩) (by show (x34.to_ + 1 - (t + 1)).toNat < (x34.to_ + 1 - t).toNat; omega) ⟨rfl, rfl, rfl, rfl, rfl, rfl, trivial⟩ (fun w1 hw => hw)
   ·have q81 := of_decide_eq_false h81
    refine TL.end_ (TX.then_ (TC.condF rfl (TC.exit_ (TX.then_exit (TX.then_exit (TX.in_same (TX.in_normal (TX.then_ (TC.region ?_)))))))))
    refine TL.val rfl rfl rfl (gives_bin rfl rfl rfl (fun w => bin_add_ (r := ((i + 1 : Nat) : Int)) (by simp only [IntKind.wrap_i64]; omega) w)) ?_
    refine TL.mv ?_
    refine TL.end_ ?_
    exact TX.round (⟨i + 1, by omega⟩) (by show dm26.length - (i + 1) < dm26.length - i; omega) ⟨rfl, rfl, rfl, rfl, trivial⟩ (fun w1 hw => hw)
 ·have q30 := of_decide_eq_false h30
  refine TL.end_ (TX.then_ (TC.seq_ (TC.condF rfl (TC.exit_ (TX.then_exit (TX.then_exit (TX.in_same (TX.then_ (TC.seq_ (TC.region ?_))))))))))
  refine TL.as_ ?_
  refine TL.end_ (TX.then_ (TC.ret_ ?_))
  exact ret_tmp Tryz.results5 rfl (fun w1 hw => ⟨rfl, hwb.trans (hw.bel.mono hwb.size)⟩)
end Go.Proofs.YtnejdeklnmkhbaaGreat
