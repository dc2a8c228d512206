/-
  Texts of the proof, joined: PtLG.
-/
import Derived.Test.YtnejdeklnmkhbaaGreatPathsGrowPk5
set_option linter.unusedVariables false
set_option linter.unusedSimpArgs false
namespace Go.Proofs.YtnejdeklnmkhbaaGreat
open Go.RowKit
set_option maxRecDepth 20000
theorem build_n (A0 : Option Addr) (c0 : Nat) (l : List Rs) (n : Nat) (hn : l.length = n) (w : World) (hr : Reads w w.heap.size 17 A0 n (flat Rs.cells l)) (hl1 : n ≤ 100000) (hok : ∀ r ∈ l, r.Ok) :
  Calls Tryz.prog 14 #[.slice A0 n c0] w fun e w' => ∃ x : {y : Mp × Int // BuildOk l y.1 y.2}, e = .returned (.tuple #[.agg x.1.1.cells.toArray, .int .i64 x.1.2]) ∧ Pm w x.1.1.pcs w' := by
 subst hn
 exact build_any A0 c0 l w hr hl1 hok
theorem no_snoc {α : Type} {l : List α} {p : α → Prop} {k : Nat} {x : α} (h : ∀ (j : Nat) (g : α), j < k → l[j]? = some g → ¬ p g) (hx : l[k]? = some x) (hp : ¬ p x) : ∀ (j : Nat) (g : α), j < k + 1 → l[j]? = some g → ¬ p g := fun j g hj hg => by
 rcases Nat.lt_or_ge j k with h1 | h1
 ·exact h j g h1 hg
 ·obtain rfl : j = k := by omega
  rw [hx] at hg; cases hg; exact hp
theorem OneOk.take {m : Nat} {l : List Rs} (h : OneOk m true l) (n : Nat) : OneOk m true (l.take n) := by
 obtain ⟨h1, h2, ⟨t, h3⟩, h4, h5, h6⟩ := h
 refine ⟨fun r hr => h1 r (List.mem_of_mem_take hr), h2.sublist (List.take_sublist _ _), ⟨t, fun r hr => h3 r (List.mem_of_mem_take hr)⟩, by rw [List.length_take]; omega, h5.sublist (List.take_sublist _ _), fun _ j i x y hij hx hy => ?_⟩
 have e1 : ∀ {q : Nat} {z : Rs}, (l.take n)[q]? = some z → l[q]? = some z := by
  intro q z hz
  have h7 := (List.getElem?_eq_some_iff.1 hz).1
  rw [List.length_take] at h7
  rwa [List.getElem?_take_of_lt (by omega)] at hz
 exact h6 rfl j i x y hij (e1 hx) (e1 hy)
theorem grow_vw {y xs : List Rs} {s : Spot} {a : Int} (hs : ∀ r ∈ y, r ∈ xs) (he : endT y = endT xs) (hn : (vwS (endT xs) xs s).2 ≠ 3) (h : vwS (endT y) y s = (a, 2)) : vwS (endT xs) xs s = (a, 2) := by
 rcases vinv (endT y) y s with ⟨e, _⟩ | ⟨e, _⟩ | ⟨b, e, ⟨r, hr, h1, h2⟩, _⟩ | ⟨e, _⟩
 ·rw [e] at h; exact absurd (congrArg Prod.snd h) (show ¬ ((0 : Int) = 2) by decide)
 ·rw [e] at h; exact absurd (congrArg Prod.snd h) (show ¬ ((1 : Int) = 2) by decide)
 ·have hb : b = a := by rw [e] at h; exact congrArg Prod.fst h
  have hr2 := List.mem_filter.1 hr
  rw [he] at hr2
  have hr3 : r ∈ xs.filter (hitS (endT xs) s) := List.mem_filter.2 ⟨hs r hr2.1, hr2.2⟩
  rcases vinv (endT xs) xs s with ⟨_, k⟩ | ⟨_, _, k⟩ | ⟨b', e', _, k⟩ | ⟨e', _⟩
  ·rw [k] at hr3; cases hr3
  ·rw [k r hr3] at h1; cases h1
  ·rw [e', ← k r hr3 h1, h2, hb]
  ·rw [e'] at hn; exact absurd rfl hn
 ·rw [e] at h; exact absurd (congrArg Prod.snd h) (show ¬ ((3 : Int) = 2) by decide)
theorem vw_nz {l : List Rs} {s : Spot} (h : (vwS (endT l) l s).1 ≠ 0) : vwS (endT l) l s = ((vwS (endT l) l s).1, 2) := by
 rcases vinv (endT l) l s with ⟨e, _⟩ | ⟨e, _⟩ | ⟨b, e, _⟩ | ⟨e, _⟩
 ·rw [e] at h; exact absurd rfl h
 ·rw [e] at h; exact absurd rfl h
 ·rw [e]
 ·rw [e] at h; exact absurd rfl h
theorem wr_len {es : List Ed} {o : List Wre} (h : IsWr es o) : o.length ≤ es.length := by
 have := nodup_len (p := o) (F := es.map edW) (h.1.imp fun {a b} hab e => by rw [e] at hab; exact absurd hab (ltK_irrefl b)) fun x hx => by
  obtain ⟨e, he, _, h2⟩ := (h.2 x).1 hx
  exact List.mem_map.2 ⟨e, he, h2⟩
 rwa [List.length_map] at this
theorem grow {n : Nat} {xs : List Rs} {x : Rs} {m z : Mp} {e e' : Int} (h : OneOk n true xs) (hx : xs[xs.length - 1]? = some x) (hf : finRs x = false) (hm : BuildOk (xs.take (xs.length - 1)) m e) (he : e = 0) (hz : BuildOk xs z e') (he' : e' = 0) :
  (∀ g ∈ m.hops.l, g.addr ≠ 0 → ∃ (j : Nat) (g' : Hpx), z.hops.l[j]? = some g' ∧ g'.ttl = g.ttl ∧ g'.addr = g.addr) ∧ ∀ o o', IsWr m.edges.l o → IsWr z.edges.l o' → ∀ v ∈ o, v ∈ o' := by
 have hs : ∀ r ∈ xs.take (xs.length - 1), r ∈ xs := fun r hr => List.mem_of_mem_take hr
 have hend : endT (xs.take (xs.length - 1)) = endT xs := (isEnd _).eq (isEnd _) fun r hr => by
  refine ⟨fun h1 => hs r h1, fun h1 => ?_⟩
  have h2 := (mem_take_snoc (i := xs.length - 1) (z := r) hx).1 (by rw [List.take_of_length_le (by omega)]; exact h1)
  rcases h2 with h2 | h2
  ·exact h2
  ·rw [h2, hf] at hr; cases hr
 have hn3 := no_three hz.1 he'
 obtain ⟨g1, g2⟩ := build_ok hm he
 obtain ⟨k1, k2⟩ := build_ok hz he'
 refine ⟨fun g hg ha => ?_, fun o o' ho ho' v hv => ?_⟩
 ·obtain ⟨f, hfl⟩ := List.exists_mem_of_ne_nil _ (g1.2.1 g hg).2
  obtain ⟨h1, h2⟩ := hop_flow g1 hg hfl
  have h3 := grow_vw hs hend (hn3 ⟨f, g.ttl⟩) (vw_nz (l := xs.take (xs.length - 1)) (s := ⟨f, g.ttl⟩) (by rw [h2]; exact ha))
  rw [h2] at h3
  obtain ⟨y, hy, e1, hfy⟩ := ((hops_gr k1).2.2 [g.ttl, g.addr] f).2 ⟨g.ttl, g.addr, rfl, by rw [h3]; exact (show (2 : Int) ≠ 0 by decide), by rw [h3]⟩
  obtain ⟨j, hj⟩ := List.getElem?_of_mem hy
  simp only [hpk, List.cons.injEq, and_true] at e1
  exact ⟨j, y, hj, e1.1, e1.2⟩
 ·obtain ⟨g, hg, hw, rfl⟩ := (ho.2 v).1 hv
  unfold wireE at hw
  simp only [Bool.and_eq_true, Bool.not_eq_true', decide_eq_false_iff_not] at hw
  obtain ⟨f, hfl⟩ := List.exists_mem_of_ne_nil _ (g2.2.1 g hg).2
  obtain ⟨h1, _, h2, h3⟩ := edge_flow g2 hg hfl
  have h4 := grow_vw hs hend (hn3 ⟨f, g.ttl⟩) (vw_nz (l := xs.take (xs.length - 1)) (s := ⟨f, g.ttl⟩) (by rw [h2]; exact hw.1))
  have h5 := grow_vw hs hend (hn3 ⟨f, g.ttl + 1⟩) (vw_nz (l := xs.take (xs.length - 1)) (s := ⟨f, g.ttl + 1⟩) (by rw [h3]; exact hw.2))
  rw [h2] at h4
  rw [h3] at h5
  obtain ⟨y, hy, e1, _⟩ := ((edges_gr k2).2.2 [g.ttl, g.frm, g.to_] f).2 ⟨g.ttl, g.frm, g.to_, rfl, by rw [h4]; exact (show (2 : Int) ≠ 0 by decide), .inl (by rw [h5]), by rw [h4], by rw [h5]⟩
  simp only [edk, List.cons.injEq, and_true] at e1
  refine (ho'.2 _).2 ⟨y, hy, ?_, ?_⟩
  ·simp [wireE, e1.2.1, e1.2.2, hw.1, hw.2]
  ·unfold edW; rw [e1.2.1, e1.2.2]
theorem plgnm10 : (Tryz.f10.name == "runtime.NumGoroutine") = false := by decide
theorem plgbd10 : Tryz.f10.body.isNone = false := rfl
theorem plgnm11 : (Tryz.f11.name == "runtime.NumGoroutine") = false := by decide
theorem plgbd11 : Tryz.f11.body.isNone = false := rfl
theorem plgnm12 : (Tryz.f12.name == "runtime.NumGoroutine") = false := by decide
theorem plgbd12 : Tryz.f12.body.isNone = false := rfl
theorem plgsz47 (w : World) : (sizeOf 47).run Tryz.prog w = .ok 17 w := rfl
theorem plgag47 (w : World) : (isAgg 47).run Tryz.prog w = .ok true w := rfl
theorem plgnm17 : (Tryz.f17.name == "runtime.NumGoroutine") = false := by decide
theorem plgbd17 : Tryz.f17.body.isNone = false := rfl
theorem plgnm14 : (Tryz.f14.name == "runtime.NumGoroutine") = false := by decide
theorem plgbd14 : Tryz.f14.body.isNone = false := rfl
theorem plgzv36 (w : World) : (zeroValue 36).run Tryz.prog w = .ok (.agg #[.int .i64 0, .int .u32 0, .int .i64 0, .int .i64 0, .slice none 0 0, .slice none 0 0]) w := rfl
theorem plgsz36 (w : World) : (sizeOf 36).run Tryz.prog w = .ok 6 w := rfl
theorem plgone_i64u32i64i64ss {a0 : Int} {a1 : Int} {a2 : Int} {a3 : Int} {a4 : Option Addr} {n4 c4 : Nat} {a5 : Option Addr} {n5 c5 : Nat} : ∀ u ∈ [(.int .i64 a0 : Value), .int .u32 a1, .int .i64 a2, .int .i64 a3, .slice a4 n4 c4, .slice a5 n5 c5], u.oneCell' = true := by
 intro u hu
 simp only [List.mem_cons, List.not_mem_nil, or_false] at hu
 rcases hu with rfl | rfl | rfl | rfl | rfl | rfl <;> rfl
theorem plgfld36_2 (g o : Nat) (w : World) : (Instr.fieldAt 36 (.pointer (some ⟨g, o, none⟩)) 2).run Tryz.prog w = .ok (.pointer (some ⟨g, o + 4, none⟩)) w := by kernel_rfl
theorem plgag33 (w : World) : (isAgg 33).run Tryz.prog w = .ok false w := rfl
theorem plgsz50 (w : World) : (sizeOf 50).run Tryz.prog w = .ok 3 w := rfl
theorem plgag50 (w : World) : (isAgg 50).run Tryz.prog w = .ok true w := rfl
theorem plgzv50 (w : World) : (zeroValue 50).run Tryz.prog w = .ok (.agg #[.int .i64 0, .int .u32 0, .slice none 0 0]) w := rfl
theorem plgfld50_1 (g o : Nat) (w : World) : (Instr.fieldAt 50 (.pointer (some ⟨g, o, none⟩)) 1).run Tryz.prog w = .ok (.pointer (some ⟨g, o + 1, none⟩)) w := by kernel_rfl
theorem plgag30 (w : World) : (isAgg 30).run Tryz.prog w = .ok false w := rfl
theorem plgfld50_0 (g o : Nat) (w : World) : (Instr.fieldAt 50 (.pointer (some ⟨g, o, none⟩)) 0).run Tryz.prog w = .ok (.pointer (some ⟨g, o + 0, none⟩)) w := by kernel_rfl
theorem plgag3 (w : World) : (isAgg 3).run Tryz.prog w = .ok false w := rfl
theorem plgag36 (w : World) : (isAgg 36).run Tryz.prog w = .ok true w := rfl
theorem plgnm18 : (Tryz.f18.name == "runtime.NumGoroutine") = false := by decide
theorem plgbd18 : Tryz.f18.body.isNone = false := rfl
theorem plgsz54 (w : World) : (sizeOf 54).run Tryz.prog w = .ok 2 w := rfl
theorem plgag54 (w : World) : (isAgg 54).run Tryz.prog w = .ok true w := rfl
theorem plgzv54 (w : World) : (zeroValue 54).run Tryz.prog w = .ok (.agg #[.int .u32 0, .int .u32 0]) w := rfl
set_option maxHeartbeats 1000000 in
theorem pathsGrow_walk (A0 : Option Addr) (n0 c0 : Nat) (l0 : List Int) (w : World) (hb0 : Byt w w.heap.size A0 n0 l0) (hc0 : n0 ≤ c0) (hm0 : c0 ≤ maxLen) :
  Calls Tryz.prog 4 #[.slice A0 n0 c0] w fun e w' => e = .returned (.bool true) ∧ Below w.heap.size w w' := by
 have hn0 : (n0 : Int) ≤ 9223372036854775807 := by unfold maxLen at hm0; omega
 refine begin_ (vs := [.slice A0 n0 c0]) Tryz.func4 rfl rfl rfl ?_ (Pm.start w)
 refine TC.seq_ (TC.region ?_)
 refine TL.as_ ?_
 refine TL.end_ (TX.then_ (TC.seq_ (TC.seq_ (TC.region ?_))))
 refine TL.pcall1 (r := .bool true) rfl rfl rfl rfl rfl Tryz.func10 plgnm10 plgbd10 (fun w1 hw => awake_true w1) ?_
 refine TL.val rfl rfl rfl (gives_boolnot rfl rfl) ?_
 refine TL.end_ (TX.then_ (TC.condF rfl (TC.skip_ (TX.then_ (TC.seq_ (TC.region ?_))))))
 refine TL.mv ?_
 refine TL.callNew (I := Pm w []) (p := fun cb w => Cod w cb) rfl rfl rfl rfl rfl Tryz.func11 plgnm11 plgbd11 (fun w1 hw => (roll_any A0 n0 c0 l0 w1 ((hb0.below hw.bel).more hw.bel.size) hc0 hn0).mono fun e w2 ⟨h1, h2, h3⟩ => ⟨h1, h2, cod_cells h2, h3⟩) cod_stab (fun wn hwn => ?_)
 have hwb := hwn.bel
 refine TL.as_ ?_
 refine TL.end_ (TX.then_ (TC.seq_ (TC.region ?_)))
 refine TL.mv ?_
 refine TL.pcallCod (k := 0) (α := {y : (Option Addr × Nat) × List Rs // OneOk 20 true y.2 ∧ y.2.length ≤ y.1.2 ∧ y.1.2 ≤ maxLen}) (fun x => .slice x.1.1.1 x.1.2.length x.1.1.2) (fun x => [.row (.slice x.1.1.1 x.1.2.length x.1.1.2) 47 17 x.1.2.length (flat Rs.cells x.1.2)]) rfl rfl rfl rfl rfl Tryz.func12 plgnm12 plgbd12 rfl (fun w1 hw hC1 => one_cod wn.heap.size w1 hC1 20 true (by decide)) ?_
 rintro ⟨⟨⟨Axs, cxs⟩, xs⟩, hxs, hxsc, hxsm⟩
 dsimp only [List.cons_append, List.nil_append]
 dsimp only at hxs hxsc hxsm ⊢
 have hxslen := hxs.2.2.2.1
 have hxsok : ∀ r ∈ xs, r.Ok := fun r hr => (hxs.1 r hr).2.1
 refine TL.as_ ?_
 refine TL.end_ (TX.then_ (TC.seq_ (TC.seq_ (TC.region ?_))))
 refine TL.mv ?_
 refine TL.val rfl rfl rfl (gives_len rfl Tryz.underlying26 rfl) ?_
 refine TL.vsplit rfl rfl rfl (gives_bin rfl rfl rfl (fun w => bin_eql w)) (fun h28 => ?_) (fun h28 => ?_)
 ·have q28 := of_decide_eq_true h28
  refine TL.end_ (TX.then_ (TC.condT rfl (TC.seq_ (TC.region ?_))))
  refine TL.as_ ?_
  refine TL.end_ (TX.then_ (TC.ret_ (TX.then_ret ?_)))
  exact ret_tmp Tryz.results4 rfl (fun w1 hw => ⟨rfl, hwb.trans (hw.bel.mono hwb.size)⟩)
 ·have q28 := of_decide_eq_false h28
  refine TL.end_ (TX.then_ (TC.condF rfl (TC.skip_ (TX.then_ (TC.seq_ (TC.region ?_))))))
  refine TL.mv ?_
  refine TL.val rfl rfl rfl (gives_len rfl Tryz.underlying26 rfl) ?_
  refine TL.val rfl rfl rfl (gives_bin rfl rfl rfl (fun w => bin_sub_ (r := ((xs.length - 1 : Nat) : Int)) (by simp only [IntKind.wrap_i64]; omega) w)) ?_
  refine TL.as_ ?_
  refine TL.end_ (TX.then_ (TC.seq_ (TC.seq_ (TC.region ?_))))
  refine TL.mv ?_
  refine TL.mv ?_
  refine TL.fact (p := ∃ g, Axs = some ⟨g, 0, none⟩) (fun w1 hw => rowA hw (k := 0) rfl (by omega)) ?_
  rintro ⟨g_Axs, rfl⟩
  have hi34 : xs.length - 1 < xs.length := by omega
  obtain ⟨x34, hx34⟩ : ∃ x34, xs[xs.length - 1]? = some x34 := ⟨_, List.getElem?_eq_getElem hi34⟩
  refine TL.val rfl rfl rfl (gives_at (v := .pointer (some ⟨g_Axs, 0 + (xs.length - 1) * 17, none⟩)) rfl rfl rfl (fun w => at_el Tryz.underlying26 plgsz47 rfl _ _ (xs.length - 1) (by omega) rfl w)) ?_
  refine TL.val rfl rfl rfl (gives_loadR (off := 0 + (xs.length - 1) * 17) rfl rfl plgag47 plgsz47 (rs_cel.len x34) (fun w1 hw j9 u9 h9 => flat_row rs_cel hw (q := 0) rfl hx34 j9 u9 h9)) ?_
  refine TL.callsplit rfl rfl rfl rfl rfl Tryz.func17 plgnm17 plgbd17 (fun w1 hw => finRs_any x34 w1) (fun h36 => ?_) (fun h36 => ?_)
  ·refine TL.end_ (TX.then_ (TC.condT rfl (TC.seq_ (TC.region ?_))))
   refine TL.as_ ?_
   refine TL.end_ (TX.then_ (TC.ret_ (TX.then_ret ?_)))
   exact ret_tmp Tryz.results4 rfl (fun w1 hw => ⟨rfl, hwb.trans (hw.bel.mono hwb.size)⟩)
  ·refine TL.end_ (TX.then_ (TC.condF rfl (TC.skip_ (TX.then_ (TC.seq_ ?_)))))
   have hyl : (xs.take (xs.length - 1)).length = xs.length - 1 := by rw [List.length_take]; omega
   have hysok : ∀ r ∈ (xs.take (xs.length - 1)), r.Ok := fun r hr => hxsok r (List.mem_of_mem_take hr)
   have hys := hxs.take (xs.length - 1)
   refine TC.region ?_
   refine TL.mv ?_
   refine TL.mv ?_
   refine TL.val rfl rfl rfl (gives_sliceH (v := .slice (some ⟨g_Axs, 0, none⟩) (xs.length - 1) cxs) rfl rfl rfl (fun w => cut_hi Tryz.underlying26 plgsz47 _ _ _ (xs.length - 1) rfl (by omega) w)) ?_
   refine TL.call (α := {y : Mp × Int // BuildOk (xs.take (xs.length - 1)) y.1 y.2}) (r := fun x => .tuple #[.agg x.1.1.cells.toArray, .int .i64 x.1.2]) (I' := fun x => Pm wn ([.row (.slice (some ⟨g_Axs, 0, none⟩) xs.length cxs) 47 17 xs.length (flat Rs.cells xs), .abs wn.heap.size (fun w => Cod w wn.heap.size)] ++ mpsP (x.1.1 :: []))) rfl rfl rfl rfl rfl Tryz.func14 plgnm14 plgbd14 (fun w1 hw => (build_n (some ⟨g_Axs, 0, none⟩) cxs (xs.take (xs.length - 1)) (xs.length - 1) hyl w1 (Reads.headF rs_cel (pm_rd hw (k := 0) rfl) (by omega)) (by omega) hysok).mono fun e w2 ⟨x, h1, h2⟩ => ⟨x, h1, Pm.mpsIn (P := [.row (.slice (some ⟨g_Axs, 0, none⟩) xs.length cxs) 47 17 xs.length (flat Rs.cells xs), .abs wn.heap.size (fun w => Cod w wn.heap.size)]) (ms := []) (hw.addAll h2 (pcs_noAbs _))⟩) ?_
   rintro ⟨⟨m, em⟩, hbm⟩
   dsimp only at hbm ⊢
   have hml := build_len hysok hbm
   refine TL.fact (p := MpA m) (fun w1 hw => MpA.of hw (fun q hq => List.mem_of_mem_drop (i := 2) (by exact mps_mem (by simp) hq))) (fun hmA => ?_)
   refine TL.mv ?_
   refine TL.ex ?_
   refine TL.ex ?_
   refine TL.pnew rfl rfl rfl (exec_alloc (cs := [.int .i64 0, .int .u32 0, .int .i64 0, .int .i64 0, .slice none 0 0, .slice none 0 0]) rfl plgzv36 rfl) (fun g6 => ?_)
   refine TL.pstore (k := 0) (vs := m.cells) rfl rfl rfl rfl rfl rfl rfl plgsz36 plgone_i64u32i64i64ss (by show 6 ≤ 6; decide) (L' := ([.blk g6 36 m.cells, .row (.slice (some ⟨g_Axs, 0, none⟩) xs.length cxs) 47 17 xs.length (flat Rs.cells xs), .abs wn.heap.size (fun w => Cod w wn.heap.size)] ++ mpsP [m])) rfl ?_
   refine TL.as_ ?_
   refine TL.end_ (TX.then_ (TC.seq_ (TC.region ?_)))
   refine TL.mv ?_
   refine TL.call (α := {y : Mp × Int // BuildOk xs y.1 y.2}) (r := fun x => .tuple #[.agg x.1.1.cells.toArray, .int .i64 x.1.2]) (I' := fun x => Pm wn ([.blk g6 36 m.cells, .row (.slice (some ⟨g_Axs, 0, none⟩) xs.length cxs) 47 17 xs.length (flat Rs.cells xs), .abs wn.heap.size (fun w => Cod w wn.heap.size)] ++ mpsP (x.1.1 :: [m]))) rfl rfl rfl rfl rfl Tryz.func14 plgnm14 plgbd14 (fun w1 hw => (build_any (some ⟨g_Axs, 0, none⟩) cxs xs w1 (pm_rd hw (k := 1) rfl) (by omega) hxsok).mono fun e w2 ⟨x, h1, h2⟩ => ⟨x, h1, Pm.mpsIn (P := [.blk g6 36 m.cells, .row (.slice (some ⟨g_Axs, 0, none⟩) xs.length cxs) 47 17 xs.length (flat Rs.cells xs), .abs wn.heap.size (fun w => Cod w wn.heap.size)]) (ms := [m]) (hw.addAll h2 (pcs_noAbs _))⟩) ?_
   rintro ⟨⟨z, ez⟩, hbz⟩
   dsimp only at hbz ⊢
   have hzl := build_len hxsok hbz
   refine TL.fact (p := MpA z) (fun w1 hw => MpA.of hw (fun q hq => List.mem_of_mem_drop (i := 3) (by exact mps_mem (by simp) hq))) (fun hzA => ?_)
   refine TL.mv ?_
   refine TL.ex ?_
   refine TL.ex ?_
   refine TL.pnew rfl rfl rfl (exec_alloc (cs := [.int .i64 0, .int .u32 0, .int .i64 0, .int .i64 0, .slice none 0 0, .slice none 0 0]) rfl plgzv36 rfl) (fun g8 => ?_)
   refine TL.pstore (k := 0) (vs := z.cells) rfl rfl rfl rfl rfl rfl rfl plgsz36 plgone_i64u32i64i64ss (by show 6 ≤ 6; decide) (L' := ([.blk g8 36 z.cells, .blk g6 36 m.cells, .row (.slice (some ⟨g_Axs, 0, none⟩) xs.length cxs) 47 17 xs.length (flat Rs.cells xs), .abs wn.heap.size (fun w => Cod w wn.heap.size)] ++ mpsP [z, m])) rfl ?_
   refine TL.as_ ?_
   refine TL.end_ (TX.then_ (TC.seq_ (TC.seq_ ?_)))
   have hem := one_err hys (by decide) hbm.1
   have hez := one_err hxs (by decide) hbz.1
   have hgr := grow hxs hx34 h36 hbm hem hbz hez
   have hmh := hml.hops
   have hzh := hzl.hops
   have hme := hml.edges
   have hze := hzl.edges
   refine TC.region ?_
   refine TL.mv ?_
   refine TL.val rfl rfl rfl (gives_bin rfl rfl rfl (fun w => bin_neq_f (by omega) w)) ?_
   iterate 4 (first | refine TL.gu ?_ | refine TL.mv ?_)
   refine TL.val rfl rfl rfl (gives_bin rfl rfl rfl (fun w => bin_neq_f (by omega) w)) ?_
   refine TL.pk ?_
   refine TL.end_ (TX.then_ (TC.condF rfl (TC.skip_ (TX.then_ (TC.seq_ (TC.seq_ (TC.region ?_)))))))
   refine TL.val rfl rfl rfl (gives_field (v := .pointer (some ⟨g6, 4, none⟩)) rfl rfl (fun w => plgfld36_2 _ _ w)) ?_
   refine TL.val rfl rfl rfl (pm_load (k := 1) (i := 4) rfl rfl plgag33 rfl rfl) ?_
   refine TL.val rfl rfl rfl (gives_len rfl Tryz.underlying33 rfl) ?_
   refine TL.mv ?_
   refine TL.end_ (TX.then_ (TC.block ?_))
   refine TC.loop_ (α := {i : Nat // i ≤ m.hops.l.length}) (fun y => [(3, .pointer (some ⟨wn.heap.size, 0, none⟩)), (4, .slice (some ⟨g_Axs, 0, none⟩) xs.length cxs), (6, .pointer (some ⟨g6, 0, none⟩)), (8, .pointer (some ⟨g8, 0, none⟩)), (56, .slice m.hops.A m.hops.l.length m.hops.c), (57, .int .i64 (m.hops.l.length : Nat)), (58, .int .i64 ((y.1 : Nat) : Int))]) (fun y => Pm wn ([.blk g8 36 z.cells, .blk g6 36 m.cells, .row (.slice (some ⟨g_Axs, 0, none⟩) xs.length cxs) 47 17 xs.length (flat Rs.cells xs), .abs wn.heap.size (fun w => Cod w wn.heap.size)] ++ mpsP [z, m])) (fun y => m.hops.l.length - y.1) (⟨0, Nat.zero_le _⟩) ⟨rfl, rfl, rfl, rfl, rfl, rfl, rfl, trivial⟩ (fun w1 hw => hw) ?_
   rintro ⟨i, hi⟩
   try dsimp only at hi ⊢
   refine TC.seq_ (TC.region ?_)
   refine TL.vsplit rfl rfl rfl (gives_bin rfl rfl rfl (fun w => bin_lss w)) (fun h59 => ?_) (fun h59 => ?_)
   ·have q59 := of_decide_eq_true h59
    refine TL.end_ (TX.then_ (TC.seq_ (TC.condT rfl (TC.skip_ (TX.then_ (TC.seq_ (TC.block (TC.seq_ (TC.region ?_)))))))))
    have hi60 : i < m.hops.l.length := by omega
    obtain ⟨x60, hx60⟩ : ∃ x60, m.hops.l[i]? = some x60 := ⟨_, List.getElem?_eq_getElem hi60⟩
    have hA60 := hmA.hops (by omega)
    refine TL.val rfl rfl rfl (gives_at (v := .pointer (some ⟨(blkOf m.hops.A), 0 + i * 3, none⟩)) rfl rfl rfl (fun w => at_el Tryz.underlying33 plgsz50 hA60 _ _ i (by omega) rfl w)) ?_
    refine TL.val rfl rfl rfl (gives_loadR (off := 0 + i * 3) rfl rfl plgag50 plgsz50 (hp_cel.len x60) (fun w1 hw j9 u9 h9 => flat_rowM hp_cel hw (List.mem_of_mem_drop (i := 4) (by exact mps_hops (by simp))) hA60 hx60 j9 u9 h9)) ?_
    refine TL.pnew rfl rfl rfl (exec_alloc (cs := [.int .i64 0, .int .u32 0, .slice none 0 0]) rfl plgzv50 rfl) (fun g11 => ?_)
    refine TL.pstore (k := 0) (vs := x60.cells) rfl rfl rfl rfl rfl rfl rfl plgsz50 (hp_cel.one _) (by show 3 ≤ 3; decide) (L' := ([.blk g11 50 x60.cells, .blk g8 36 z.cells, .blk g6 36 m.cells, .row (.slice (some ⟨g_Axs, 0, none⟩) xs.length cxs) 47 17 xs.length (flat Rs.cells xs), .abs wn.heap.size (fun w => Cod w wn.heap.size)] ++ mpsP [z, m])) rfl ?_
    refine TL.end_ (TX.then_ (TC.seq_ (TC.region ?_)))
    refine TL.val rfl rfl rfl (gives_field (v := .pointer (some ⟨g11, 1, none⟩)) rfl rfl (fun w => plgfld50_1 _ _ w)) ?_
    refine TL.val rfl rfl rfl (pm_load (k := 0) (i := 1) rfl rfl plgag30 rfl rfl) ?_
    refine TL.vsplit rfl rfl rfl (gives_bin rfl rfl rfl (fun w => bin_eql w)) (fun h64 => ?_) (fun h64 => ?_)
    ·have q64 := of_decide_eq_true h64
     refine TL.as_ ?_
     refine TL.end_ (TX.then_ (TC.seq_ (TC.seq_ (TC.region ?_))))
     refine TL.val rfl rfl rfl (gives_field (v := .pointer (some ⟨g8, 4, none⟩)) rfl rfl (fun w => plgfld36_2 _ _ w)) ?_
     refine TL.val rfl rfl rfl (pm_load (k := 1) (i := 4) rfl rfl plgag33 rfl rfl) ?_
     refine TL.val rfl rfl rfl (gives_len rfl Tryz.underlying33 rfl) ?_
     refine TL.mv ?_
     refine TL.end_ (TX.then_ (TC.block ?_))
     refine TC.loop_ (α := {y : Nat × Bool // y.1 ≤ z.hops.l.length ∧ (y.2 = false → x60.addr ≠ 0 ∧ ∀ (j : Nat) (g : Hpx), j < y.1 → z.hops.l[j]? = some g → ¬ (g.ttl = x60.ttl ∧ g.addr = x60.addr))}) (fun y => [(3, .pointer (some ⟨wn.heap.size, 0, none⟩)), (4, .slice (some ⟨g_Axs, 0, none⟩) xs.length cxs), (6, .pointer (some ⟨g6, 0, none⟩)), (8, .pointer (some ⟨g8, 0, none⟩)), (11, .pointer (some ⟨g11, 0, none⟩)), (56, .slice m.hops.A m.hops.l.length m.hops.c), (57, .int .i64 (m.hops.l.length : Nat)), (58, .int .i64 ((i : Nat) : Int)), (66, .slice z.hops.A z.hops.l.length z.hops.c), (67, .int .i64 (z.hops.l.length : Nat)), (68, .int .i64 ((y.1.1 : Nat) : Int)), (12, .bool y.1.2)]) (fun y => Pm wn ([.blk g11 50 x60.cells, .blk g8 36 z.cells, .blk g6 36 m.cells, .row (.slice (some ⟨g_Axs, 0, none⟩) xs.length cxs) 47 17 xs.length (flat Rs.cells xs), .abs wn.heap.size (fun w => Cod w wn.heap.size)] ++ mpsP [z, m])) (fun y => z.hops.l.length - y.1.1) (⟨(0, true), Nat.zero_le _, fun h => by cases h⟩) ⟨rfl, rfl, rfl, rfl, rfl, rfl, rfl, rfl, rfl, rfl, rfl, rfl, trivial⟩ (fun w1 hw => hw) ?_
     rintro ⟨⟨k, fd⟩, hk, hfd⟩
     dsimp only at hk hfd ⊢
     refine TC.seq_ (TC.region ?_)
     refine TL.vsplit rfl rfl rfl (gives_bin rfl rfl rfl (fun w => bin_lss w)) (fun h69 => ?_) (fun h69 => ?_)
     ·have q69 := of_decide_eq_true h69
      refine TL.end_ (TX.then_ (TC.seq_ (TC.condT rfl (TC.skip_ (TX.then_ (TC.seq_ (TC.block (TC.seq_ (TC.region ?_)))))))))
      have hi70 : k < z.hops.l.length := by omega
      obtain ⟨x70, hx70⟩ : ∃ x70, z.hops.l[k]? = some x70 := ⟨_, List.getElem?_eq_getElem hi70⟩
      have hA70 := hzA.hops (by omega)
      refine TL.val rfl rfl rfl (gives_at (v := .pointer (some ⟨(blkOf z.hops.A), 0 + k * 3, none⟩)) rfl rfl rfl (fun w => at_el Tryz.underlying33 plgsz50 hA70 _ _ k (by omega) rfl w)) ?_
      refine TL.val rfl rfl rfl (gives_loadR (off := 0 + k * 3) rfl rfl plgag50 plgsz50 (hp_cel.len x70) (fun w1 hw j9 u9 h9 => flat_rowM hp_cel hw (List.mem_of_mem_drop (i := 5) (by exact mps_hops (by simp))) hA70 hx70 j9 u9 h9)) ?_
      refine TL.pnew rfl rfl rfl (exec_alloc (cs := [.int .i64 0, .int .u32 0, .slice none 0 0]) rfl plgzv50 rfl) (fun g14 => ?_)
      refine TL.pstore (k := 0) (vs := x70.cells) rfl rfl rfl rfl rfl rfl rfl plgsz50 (hp_cel.one _) (by show 3 ≤ 3; decide) (L' := ([.blk g14 50 x70.cells, .blk g11 50 x60.cells, .blk g8 36 z.cells, .blk g6 36 m.cells, .row (.slice (some ⟨g_Axs, 0, none⟩) xs.length cxs) 47 17 xs.length (flat Rs.cells xs), .abs wn.heap.size (fun w => Cod w wn.heap.size)] ++ mpsP [z, m])) rfl ?_
      refine TL.end_ (TX.then_ ?_)
      cases fd with
      | true =>
       refine TC.region ?_
       iterate 16 (first | refine TL.of ?_ | refine TL.offU rfl rfl rfl rfl rfl ?_ | refine TL.mv ?_ | refine TL.pk ?_ | refine TL.as_ ?_)
       refine TL.end_ (TX.in_normal (TX.then_ (TC.region ?_)))
       refine TL.val rfl rfl rfl (gives_bin rfl rfl rfl (fun w => bin_add_ (r := ((k + 1 : Nat) : Int)) (by simp only [IntKind.wrap_i64]; omega) w)) ?_
       refine TL.mv ?_
       refine TL.end_ ?_
       exact TX.round (⟨(k + 1, true), by dsimp only; omega, fun h => by cases h⟩) (by show z.hops.l.length - (k + 1) < z.hops.l.length - k; omega) ⟨rfl, rfl, rfl, rfl, rfl, rfl, rfl, rfl, rfl, rfl, rfl, rfl, trivial⟩ (fun w1 hw => hw.sel (.cons _ (.cons_cons _ (.cons_cons _ (.cons_cons _ (.cons_cons _ (.cons_cons _ (List.Sublist.refl _))))))))
      | false =>
       refine TC.region ?_
       refine TL.mv ?_
       refine TL.mv ?_
       refine TL.gu ?_
       refine TL.val rfl rfl rfl (gives_field (v := .pointer (some ⟨g14, 0, none⟩)) rfl rfl (fun w => plgfld50_0 _ _ w)) ?_
       refine TL.gu ?_
       refine TL.val rfl rfl rfl (pm_load (k := 0) (i := 0) rfl rfl plgag3 rfl rfl) ?_
       refine TL.gu ?_
       refine TL.val rfl rfl rfl (gives_field (v := .pointer (some ⟨g11, 0, none⟩)) rfl rfl (fun w => plgfld50_0 _ _ w)) ?_
       refine TL.gu ?_
       refine TL.val rfl rfl rfl (pm_load (k := 1) (i := 0) rfl rfl plgag3 rfl rfl) ?_
       refine TL.gu ?_
       refine TL.vsplit rfl rfl rfl (gives_bin rfl rfl rfl (fun w => bin_eql w)) (fun h78 => ?_) (fun h78 => ?_)
       ·have q78 := of_decide_eq_true h78
        refine TL.gu ?_
        refine TL.mv ?_
        refine TL.gu ?_
        refine TL.val rfl rfl rfl (gives_field (v := .pointer (some ⟨g14, 1, none⟩)) rfl rfl (fun w => plgfld50_1 _ _ w)) ?_
        refine TL.gu ?_
        refine TL.val rfl rfl rfl (pm_load (k := 0) (i := 1) rfl rfl plgag30 rfl rfl) ?_
        refine TL.gu ?_
        refine TL.val rfl rfl rfl (gives_field (v := .pointer (some ⟨g11, 1, none⟩)) rfl rfl (fun w => plgfld50_1 _ _ w)) ?_
        refine TL.gu ?_
        refine TL.val rfl rfl rfl (pm_load (k := 1) (i := 1) rfl rfl plgag30 rfl rfl) ?_
        refine TL.gu ?_
        refine TL.vsplit rfl rfl rfl (gives_bin rfl rfl rfl (fun w => bin_eql w)) (fun h84 => ?_) (fun h84 => ?_)
        ·have q84 := of_decide_eq_true h84
         iterate 4 (first | refine TL.pk ?_ | refine TL.gu ?_ | refine TL.as_ ?_)
         refine TL.end_ (TX.in_normal (TX.then_ (TC.region ?_)))
         refine TL.val rfl rfl rfl (gives_bin rfl rfl rfl (fun w => bin_add_ (r := ((k + 1 : Nat) : Int)) (by simp only [IntKind.wrap_i64]; omega) w)) ?_
         refine TL.mv ?_
         refine TL.end_ ?_
         exact TX.round (⟨(k + 1, true), by dsimp only; omega, fun h => by cases h⟩) (by show z.hops.l.length - (k + 1) < z.hops.l.length - k; omega) ⟨rfl, rfl, rfl, rfl, rfl, rfl, rfl, rfl, rfl, rfl, rfl, rfl, trivial⟩ (fun w1 hw => hw.sel (.cons _ (.cons_cons _ (.cons_cons _ (.cons_cons _ (.cons_cons _ (.cons_cons _ (List.Sublist.refl _))))))))
        ·have q84 := of_decide_eq_false h84
         iterate 4 (first | refine TL.pk ?_ | refine TL.gu ?_ | refine TL.as_ ?_)
         refine TL.end_ (TX.in_normal (TX.then_ (TC.region ?_)))
         refine TL.val rfl rfl rfl (gives_bin rfl rfl rfl (fun w => bin_add_ (r := ((k + 1 : Nat) : Int)) (by simp only [IntKind.wrap_i64]; omega) w)) ?_
         refine TL.mv ?_
         refine TL.end_ ?_
         exact TX.round (⟨(k + 1, false), by dsimp only; omega, fun _ => ⟨(hfd rfl).1, no_snoc (hfd rfl).2 hx70 (by rintro ⟨e1, e2⟩; first | exact q78 e1 | exact q84 e2)⟩⟩) (by show z.hops.l.length - (k + 1) < z.hops.l.length - k; omega) ⟨rfl, rfl, rfl, rfl, rfl, rfl, rfl, rfl, rfl, rfl, rfl, rfl, trivial⟩ (fun w1 hw => hw.sel (.cons _ (.cons_cons _ (.cons_cons _ (.cons_cons _ (.cons_cons _ (.cons_cons _ (List.Sublist.refl _))))))))
       ·have q78 := of_decide_eq_false h78
        iterate 11 (first | refine TL.of ?_ | refine TL.gu ?_ | refine TL.pk ?_ | refine TL.mv ?_ | refine TL.as_ ?_)
        refine TL.end_ (TX.in_normal (TX.then_ (TC.region ?_)))
        refine TL.val rfl rfl rfl (gives_bin rfl rfl rfl (fun w => bin_add_ (r := ((k + 1 : Nat) : Int)) (by simp only [IntKind.wrap_i64]; omega) w)) ?_
        refine TL.mv ?_
        refine TL.end_ ?_
        exact TX.round (⟨(k + 1, false), by dsimp only; omega, fun _ => ⟨(hfd rfl).1, no_snoc (hfd rfl).2 hx70 (by rintro ⟨e1, e2⟩; first | exact q78 e1 | exact q84 e2)⟩⟩) (by show z.hops.l.length - (k + 1) < z.hops.l.length - k; omega) ⟨rfl, rfl, rfl, rfl, rfl, rfl, rfl, rfl, rfl, rfl, rfl, rfl, trivial⟩ (fun w1 hw => hw.sel (.cons _ (.cons_cons _ (.cons_cons _ (.cons_cons _ (.cons_cons _ (.cons_cons _ (List.Sublist.refl _))))))))
     ·have q69 := of_decide_eq_false h69
      refine TL.end_ (TX.then_ (TC.seq_ (TC.condF rfl (TC.exit_ (TX.then_exit (TX.then_exit (TX.in_same (TX.then_ (TC.seq_ ?_)))))))))
      cases fd with
      | true =>
       refine TC.region ?_
       refine TL.mv ?_
       refine TL.val rfl rfl rfl (gives_boolnot rfl rfl) ?_
       refine TL.end_ (TX.then_ (TC.condF rfl (TC.skip_ (TX.in_normal (TX.then_ (TC.region ?_))))))
       refine TL.val rfl rfl rfl (gives_bin rfl rfl rfl (fun w => bin_add_ (r := ((i + 1 : Nat) : Int)) (by simp only [IntKind.wrap_i64]; omega) w)) ?_
       refine TL.mv ?_
       refine TL.end_ ?_
       exact TX.round (⟨i + 1, by omega⟩) (by show m.hops.l.length - (i + 1) < m.hops.l.length - i; omega) ⟨rfl, rfl, rfl, rfl, rfl, rfl, rfl, trivial⟩ (fun w1 hw => hw.sel (.cons _ (.cons_cons _ (.cons_cons _ (.cons_cons _ (.cons_cons _ (List.Sublist.refl _)))))))
      | false =>
       exfalso
       obtain ⟨j, g, hg, e1, e2⟩ := hgr.1 x60 (List.mem_of_getElem? hx60) (hfd rfl).1
       exact (hfd rfl).2 j g (by have := (List.getElem?_eq_some_iff.1 hg).1; omega) hg ⟨e1, e2⟩
    ·have q64 := of_decide_eq_false h64
     refine TL.as_ ?_
     refine TL.end_ (TX.then_ (TC.seq_ (TC.seq_ (TC.region ?_))))
     refine TL.val rfl rfl rfl (gives_field (v := .pointer (some ⟨g8, 4, none⟩)) rfl rfl (fun w => plgfld36_2 _ _ w)) ?_
     refine TL.val rfl rfl rfl (pm_load (k := 1) (i := 4) rfl rfl plgag33 rfl rfl) ?_
     refine TL.val rfl rfl rfl (gives_len rfl Tryz.underlying33 rfl) ?_
     refine TL.mv ?_
     refine TL.end_ (TX.then_ (TC.block ?_))
     refine TC.loop_ (α := {y : Nat × Bool // y.1 ≤ z.hops.l.length ∧ (y.2 = false → x60.addr ≠ 0 ∧ ∀ (j : Nat) (g : Hpx), j < y.1 → z.hops.l[j]? = some g → ¬ (g.ttl = x60.ttl ∧ g.addr = x60.addr))}) (fun y => [(3, .pointer (some ⟨wn.heap.size, 0, none⟩)), (4, .slice (some ⟨g_Axs, 0, none⟩) xs.length cxs), (6, .pointer (some ⟨g6, 0, none⟩)), (8, .pointer (some ⟨g8, 0, none⟩)), (11, .pointer (some ⟨g11, 0, none⟩)), (56, .slice m.hops.A m.hops.l.length m.hops.c), (57, .int .i64 (m.hops.l.length : Nat)), (58, .int .i64 ((i : Nat) : Int)), (66, .slice z.hops.A z.hops.l.length z.hops.c), (67, .int .i64 (z.hops.l.length : Nat)), (68, .int .i64 ((y.1.1 : Nat) : Int)), (12, .bool y.1.2)]) (fun y => Pm wn ([.blk g11 50 x60.cells, .blk g8 36 z.cells, .blk g6 36 m.cells, .row (.slice (some ⟨g_Axs, 0, none⟩) xs.length cxs) 47 17 xs.length (flat Rs.cells xs), .abs wn.heap.size (fun w => Cod w wn.heap.size)] ++ mpsP [z, m])) (fun y => z.hops.l.length - y.1.1) (⟨(0, false), Nat.zero_le _, fun _ => ⟨q64, fun j g hj => absurd hj (Nat.not_lt_zero _)⟩⟩) ⟨rfl, rfl, rfl, rfl, rfl, rfl, rfl, rfl, rfl, rfl, rfl, rfl, trivial⟩ (fun w1 hw => hw) ?_
     rintro ⟨⟨k, fd⟩, hk, hfd⟩
     dsimp only at hk hfd ⊢
     refine TC.seq_ (TC.region ?_)
     refine TL.vsplit rfl rfl rfl (gives_bin rfl rfl rfl (fun w => bin_lss w)) (fun h69 => ?_) (fun h69 => ?_)
     ·have q69 := of_decide_eq_true h69
      refine TL.end_ (TX.then_ (TC.seq_ (TC.condT rfl (TC.skip_ (TX.then_ (TC.seq_ (TC.block (TC.seq_ (TC.region ?_)))))))))
      have hi70 : k < z.hops.l.length := by omega
      obtain ⟨x70, hx70⟩ : ∃ x70, z.hops.l[k]? = some x70 := ⟨_, List.getElem?_eq_getElem hi70⟩
      have hA70 := hzA.hops (by omega)
      refine TL.val rfl rfl rfl (gives_at (v := .pointer (some ⟨(blkOf z.hops.A), 0 + k * 3, none⟩)) rfl rfl rfl (fun w => at_el Tryz.underlying33 plgsz50 hA70 _ _ k (by omega) rfl w)) ?_
      refine TL.val rfl rfl rfl (gives_loadR (off := 0 + k * 3) rfl rfl plgag50 plgsz50 (hp_cel.len x70) (fun w1 hw j9 u9 h9 => flat_rowM hp_cel hw (List.mem_of_mem_drop (i := 5) (by exact mps_hops (by simp))) hA70 hx70 j9 u9 h9)) ?_
      refine TL.pnew rfl rfl rfl (exec_alloc (cs := [.int .i64 0, .int .u32 0, .slice none 0 0]) rfl plgzv50 rfl) (fun g14 => ?_)
      refine TL.pstore (k := 0) (vs := x70.cells) rfl rfl rfl rfl rfl rfl rfl plgsz50 (hp_cel.one _) (by show 3 ≤ 3; decide) (L' := ([.blk g14 50 x70.cells, .blk g11 50 x60.cells, .blk g8 36 z.cells, .blk g6 36 m.cells, .row (.slice (some ⟨g_Axs, 0, none⟩) xs.length cxs) 47 17 xs.length (flat Rs.cells xs), .abs wn.heap.size (fun w => Cod w wn.heap.size)] ++ mpsP [z, m])) rfl ?_
      refine TL.end_ (TX.then_ ?_)
      cases fd with
      | true =>
       refine TC.region ?_
       iterate 16 (first | refine TL.of ?_ | refine TL.offU rfl rfl rfl rfl rfl ?_ | refine TL.mv ?_ | refine TL.pk ?_ | refine TL.as_ ?_)
       refine TL.end_ (TX.in_normal (TX.then_ (TC.region ?_)))
       refine TL.val rfl rfl rfl (gives_bin rfl rfl rfl (fun w => bin_add_ (r := ((k + 1 : Nat) : Int)) (by simp only [IntKind.wrap_i64]; omega) w)) ?_
       refine TL.mv ?_
       refine TL.end_ ?_
       exact TX.round (⟨(k + 1, true), by dsimp only; omega, fun h => by cases h⟩) (by show z.hops.l.length - (k + 1) < z.hops.l.length - k; omega) ⟨rfl, rfl, rfl, rfl, rfl, rfl, rfl, rfl, rfl, rfl, rfl, rfl, trivial⟩ (fun w1 hw => hw.sel (.cons _ (.cons_cons _ (.cons_cons _ (.cons_cons _ (.cons_cons _ (.cons_cons _ (List.Sublist.refl _))))))))
      | false =>
       refine TC.region ?_
       refine TL.mv ?_
       refine TL.mv ?_
       refine TL.gu ?_
       refine TL.val rfl rfl rfl (gives_field (v := .pointer (some ⟨g14, 0, none⟩)) rfl rfl (fun w => plgfld50_0 _ _ w)) ?_
       refine TL.gu ?_
       refine TL.val rfl rfl rfl (pm_load (k := 0) (i := 0) rfl rfl plgag3 rfl rfl) ?_
       refine TL.gu ?_
       refine TL.val rfl rfl rfl (gives_field (v := .pointer (some ⟨g11, 0, none⟩)) rfl rfl (fun w => plgfld50_0 _ _ w)) ?_
       refine TL.gu ?_
       refine TL.val rfl rfl rfl (pm_load (k := 1) (i := 0) rfl rfl plgag3 rfl rfl) ?_
       refine TL.gu ?_
       refine TL.vsplit rfl rfl rfl (gives_bin rfl rfl rfl (fun w => bin_eql w)) (fun h78 => ?_) (fun h78 => ?_)
       ·have q78 := of_decide_eq_true h78
        refine TL.gu ?_
        refine TL.mv ?_
        refine TL.gu ?_
        refine TL.val rfl rfl rfl (gives_field (v := .pointer (some ⟨g14, 1, none⟩)) rfl rfl (fun w => plgfld50_1 _ _ w)) ?_
        refine TL.gu ?_
        refine TL.val rfl rfl rfl (pm_load (k := 0) (i := 1) rfl rfl plgag30 rfl rfl) ?_
        refine TL.gu ?_
        refine TL.val rfl rfl rfl (gives_field (v := .pointer (some ⟨g11, 1, none⟩)) rfl rfl (fun w => plgfld50_1 _ _ w)) ?_
        refine TL.gu ?_
        refine TL.val rfl rfl rfl (pm_load (k := 1) (i := 1) rfl rfl plgag30 rfl rfl) ?_
        refine TL.gu ?_
        refine TL.vsplit rfl rfl rfl (gives_bin rfl rfl rfl (fun w => bin_eql w)) (fun h84 => ?_) (fun h84 => ?_)
        ·have q84 := of_decide_eq_true h84
         iterate 4 (first | refine TL.pk ?_ | refine TL.gu ?_ | refine TL.as_ ?_)
         refine TL.end_ (TX.in_normal (TX.then_ (TC.region ?_)))
         refine TL.val rfl rfl rfl (gives_bin rfl rfl rfl (fun w => bin_add_ (r := ((k + 1 : Nat) : Int)) (by simp only [IntKind.wrap_i64]; omega) w)) ?_
         refine TL.mv ?_
         refine TL.end_ ?_
         exact TX.round (⟨(k + 1, true), by dsimp only; omega, fun h => by cases h⟩) (by show z.hops.l.length - (k + 1) < z.hops.l.length - k; omega) ⟨rfl, rfl, rfl, rfl, rfl, rfl, rfl, rfl, rfl, rfl, rfl, rfl, trivial⟩ (fun w1 hw => hw.sel (.cons _ (.cons_cons _ (.cons_cons _ (.cons_cons _ (.cons_cons _ (.cons_cons _ (List.Sublist.refl _))))))))
        ·have q84 := of_decide_eq_false h84
         iterate 4 (first | refine TL.pk ?_ | refine TL.gu ?_ | refine TL.as_ ?_)
         refine TL.end_ (TX.in_normal (TX.then_ (TC.region ?_)))
         refine TL.val rfl rfl rfl (gives_bin rfl rfl rfl (fun w => bin_add_ (r := ((k + 1 : Nat) : Int)) (by simp only [IntKind.wrap_i64]; omega) w)) ?_
         refine TL.mv ?_
         refine TL.end_ ?_
         exact TX.round (⟨(k + 1, false), by dsimp only; omega, fun _ => ⟨(hfd rfl).1, no_snoc (hfd rfl).2 hx70 (by rintro ⟨e1, e2⟩; first | exact q78 e1 | exact q84 e2)⟩⟩) (by show z.hops.l.length - (k + 1) < z.hops.l.length - k; omega) ⟨rfl, rfl, rfl, rfl, rfl, rfl, rfl, rfl, rfl, rfl, rfl, rfl, trivial⟩ (fun w1 hw => hw.sel (.cons _ (.cons_cons _ (.cons_cons _ (.cons_cons _ (.cons_cons _ (.cons_cons _ (List.Sublist.refl _))))))))
       ·have q78 := of_decide_eq_false h78
        iterate 11 (first | refine TL.of ?_ | refine TL.gu ?_ | refine TL.pk ?_ | refine TL.mv ?_ | refine TL.as_ ?_)
        refine TL.end_ (TX.in_normal (TX.then_ (TC.region ?_)))
        refine TL.val rfl rfl rfl (gives_bin rfl rfl rfl (fun w => bin_add_ (r := ((k + 1 : Nat) : Int)) (by simp only [IntKind.wrap_i64]; omega) w)) ?_
        refine TL.mv ?_
        refine TL.end_ ?_
        exact TX.round (⟨(k + 1, false), by dsimp only; omega, fun _ => ⟨(hfd rfl).1, no_snoc (hfd rfl).2 hx70 (by rintro ⟨e1, e2⟩; first | exact q78 e1 | exact q84 e2)⟩⟩) (by show z.hops.l.length - (k + 1) < z.hops.l.length - k; omega) ⟨rfl, rfl, rfl, rfl, rfl, rfl, rfl, rfl, rfl, rfl, rfl, rfl, trivial⟩ (fun w1 hw => hw.sel (.cons _ (.cons_cons _ (.cons_cons _ (.cons_cons _ (.cons_cons _ (.cons_cons _ (List.Sublist.refl _))))))))
     ·have q69 := of_decide_eq_false h69
      refine TL.end_ (TX.then_ (TC.seq_ (TC.condF rfl (TC.exit_ (TX.then_exit (TX.then_exit (TX.in_same (TX.then_ (TC.seq_ ?_)))))))))
      cases fd with
      | true =>
       refine TC.region ?_
       refine TL.mv ?_
       refine TL.val rfl rfl rfl (gives_boolnot rfl rfl) ?_
       refine TL.end_ (TX.then_ (TC.condF rfl (TC.skip_ (TX.in_normal (TX.then_ (TC.region ?_))))))
       refine TL.val rfl rfl rfl (gives_bin rfl rfl rfl (fun w => bin_add_ (r := ((i + 1 : Nat) : Int)) (by simp only [IntKind.wrap_i64]; omega) w)) ?_
       refine TL.mv ?_
       refine TL.end_ ?_
       exact TX.round (⟨i + 1, by omega⟩) (by show m.hops.l.length - (i + 1) < m.hops.l.length - i; omega) ⟨rfl, rfl, rfl, rfl, rfl, rfl, rfl, trivial⟩ (fun w1 hw => hw.sel (.cons _ (.cons_cons _ (.cons_cons _ (.cons_cons _ (.cons_cons _ (List.Sublist.refl _)))))))
      | false =>
       exfalso
       obtain ⟨j, g, hg, e1, e2⟩ := hgr.1 x60 (List.mem_of_getElem? hx60) (hfd rfl).1
       exact (hfd rfl).2 j g (by have := (List.getElem?_eq_some_iff.1 hg).1; omega) hg ⟨e1, e2⟩
   ·have q59 := of_decide_eq_false h59
    refine TL.end_ (TX.then_ (TC.seq_ (TC.condF rfl (TC.exit_ (TX.then_exit (TX.then_exit (TX.in_same (TX.then_ (TC.seq_ (TC.seq_ (TC.region ?_)))))))))))
    refine TL.val rfl rfl rfl (pm_loadV (k := 1) (i := 0) (n := 6) (v := .agg (m.cells).toArray) rfl rfl plgag36 plgsz36 rfl (by show 6 ≤ 6; decide) rfl) ?_
    refine TL.pcallPm (α := {y : (Option Addr × Nat) × List Wre // IsWr m.edges.l y.2 ∧ y.2.length ≤ y.1.2 ∧ y.1.2 ≤ maxLen}) (fun x => .slice x.1.1.1 x.1.2.length x.1.1.2) (fun x => [.row (.slice x.1.1.1 x.1.2.length x.1.1.2) 54 2 x.1.2.length (flat Wre.cells x.1.2)]) rfl rfl rfl rfl rfl Tryz.func18 plgnm18 plgbd18 (fun w1 hw => wires_any m w1 ((MpR.of (hml) (by omega) hw (fun q hq => List.mem_of_mem_drop (i := 4) (by exact mps_mem (by simp) hq)))).edges ((MpR.of (hml) (by omega) hw (fun q hq => List.mem_of_mem_drop (i := 4) (by exact mps_mem (by simp) hq)))).nedges) ?_
    rintro ⟨⟨⟨R92, rc92⟩, wr92⟩, hP92, hR921, hR922⟩
    dsimp only [List.cons_append, List.nil_append]
    dsimp only at hP92 hR921 hR922 ⊢
    refine TL.val rfl rfl rfl (gives_len rfl Tryz.underlying51 rfl) ?_
    refine TL.mv ?_
    refine TL.end_ (TX.then_ (TC.block ?_))
    refine TC.loop_ (α := {i : Nat // i ≤ wr92.length}) (fun y => [(3, .pointer (some ⟨wn.heap.size, 0, none⟩)), (4, .slice (some ⟨g_Axs, 0, none⟩) xs.length cxs), (6, .pointer (some ⟨g6, 0, none⟩)), (8, .pointer (some ⟨g8, 0, none⟩)), (92, .slice R92 wr92.length rc92), (93, .int .i64 (wr92.length : Nat)), (94, .int .i64 ((y.1 : Nat) : Int))]) (fun y => Pm wn ([.row (.slice R92 wr92.length rc92) 54 2 wr92.length (flat Wre.cells wr92), .blk g8 36 z.cells, .blk g6 36 m.cells, .row (.slice (some ⟨g_Axs, 0, none⟩) xs.length cxs) 47 17 xs.length (flat Rs.cells xs), .abs wn.heap.size (fun w => Cod w wn.heap.size)] ++ mpsP [z, m])) (fun y => wr92.length - y.1) (⟨0, Nat.zero_le _⟩) ⟨rfl, rfl, rfl, rfl, rfl, rfl, rfl, trivial⟩ (fun w1 hw => hw) ?_
    rintro ⟨i, hi⟩
    try dsimp only at hi ⊢
    refine TC.seq_ ?_
    have hw92 := wr_len hP92
    refine TC.region ?_
    refine TL.vsplit rfl rfl rfl (gives_bin rfl rfl rfl (fun w => bin_lss w)) (fun h95 => ?_) (fun h95 => ?_)
    ·have q95 := of_decide_eq_true h95
     refine TL.end_ (TX.then_ (TC.seq_ (TC.condT rfl (TC.skip_ (TX.then_ (TC.seq_ (TC.block (TC.seq_ (TC.region ?_)))))))))
     refine TL.fact (p := ∃ g, R92 = some ⟨g, 0, none⟩) (fun w1 hw => rowA hw (k := 0) rfl (by omega)) ?_
     rintro ⟨g_R92, rfl⟩
     have hi96 : i < wr92.length := by omega
     obtain ⟨x96, hx96⟩ : ∃ x96, wr92[i]? = some x96 := ⟨_, List.getElem?_eq_getElem hi96⟩
     refine TL.val rfl rfl rfl (gives_at (v := .pointer (some ⟨g_R92, 0 + i * 2, none⟩)) rfl rfl rfl (fun w => at_el Tryz.underlying51 plgsz54 rfl _ _ i (by omega) rfl w)) ?_
     refine TL.val rfl rfl rfl (gives_loadR (off := 0 + i * 2) rfl rfl plgag54 plgsz54 (wre_cel.len x96) (fun w1 hw j9 u9 h9 => flat_row wre_cel hw (q := 0) rfl hx96 j9 u9 h9)) ?_
     refine TL.pnew rfl rfl rfl (exec_alloc (cs := [.int .u32 0, .int .u32 0]) rfl plgzv54 rfl) (fun g16 => ?_)
     refine TL.pstore (k := 0) (vs := x96.cells) rfl rfl rfl rfl rfl rfl rfl plgsz54 (wre_cel.one _) (by show 2 ≤ 2; decide) (L' := ([.blk g16 54 x96.cells, .row (.slice (some ⟨g_R92, 0, none⟩) wr92.length rc92) 54 2 wr92.length (flat Wre.cells wr92), .blk g8 36 z.cells, .blk g6 36 m.cells, .row (.slice (some ⟨g_Axs, 0, none⟩) xs.length cxs) 47 17 xs.length (flat Rs.cells xs), .abs wn.heap.size (fun w => Cod w wn.heap.size)] ++ mpsP [z, m])) rfl ?_
     refine TL.end_ (TX.then_ (TC.seq_ (TC.region ?_)))
     refine TL.as_ ?_
     refine TL.end_ (TX.then_ (TC.seq_ (TC.seq_ (TC.region ?_))))
     refine TL.val rfl rfl rfl (pm_loadV (k := 2) (i := 0) (n := 6) (v := .agg (z.cells).toArray) rfl rfl plgag36 plgsz36 rfl (by show 6 ≤ 6; decide) rfl) ?_
     refine TL.pcallPm (α := {y : (Option Addr × Nat) × List Wre // IsWr z.edges.l y.2 ∧ y.2.length ≤ y.1.2 ∧ y.1.2 ≤ maxLen}) (fun x => .slice x.1.1.1 x.1.2.length x.1.1.2) (fun x => [.row (.slice x.1.1.1 x.1.2.length x.1.1.2) 54 2 x.1.2.length (flat Wre.cells x.1.2)]) rfl rfl rfl rfl rfl Tryz.func18 plgnm18 plgbd18 (fun w1 hw => wires_any z w1 ((MpR.of (hzl) (by omega) hw (fun q hq => List.mem_of_mem_drop (i := 6) (by exact mps_mem (by simp) hq)))).edges ((MpR.of (hzl) (by omega) hw (fun q hq => List.mem_of_mem_drop (i := 6) (by exact mps_mem (by simp) hq)))).nedges) ?_
     rintro ⟨⟨⟨R99, rc99⟩, wr99⟩, hP99, hR991, hR992⟩
     dsimp only [List.cons_append, List.nil_append]
     dsimp only at hP99 hR991 hR992 ⊢
     refine TL.val rfl rfl rfl (gives_len rfl Tryz.underlying51 rfl) ?_
     refine TL.mv ?_
     refine TL.end_ (TX.then_ (TC.block ?_))
     refine TC.loop_ (α := {y : Nat × Bool // y.1 ≤ wr99.length ∧ (y.2 = false → ∀ (j : Nat) (g : Wre), j < y.1 → wr99[j]? = some g → ¬ g = x96)}) (fun y => [(3, .pointer (some ⟨wn.heap.size, 0, none⟩)), (4, .slice (some ⟨g_Axs, 0, none⟩) xs.length cxs), (6, .pointer (some ⟨g6, 0, none⟩)), (8, .pointer (some ⟨g8, 0, none⟩)), (16, .pointer (some ⟨g16, 0, none⟩)), (92, .slice (some ⟨g_R92, 0, none⟩) wr92.length rc92), (93, .int .i64 (wr92.length : Nat)), (94, .int .i64 ((i : Nat) : Int)), (99, .slice R99 wr99.length rc99), (100, .int .i64 (wr99.length : Nat)), (101, .int .i64 ((y.1.1 : Nat) : Int)), (17, .bool y.1.2)]) (fun y => Pm wn ([.row (.slice R99 wr99.length rc99) 54 2 wr99.length (flat Wre.cells wr99), .blk g16 54 x96.cells, .row (.slice (some ⟨g_R92, 0, none⟩) wr92.length rc92) 54 2 wr92.length (flat Wre.cells wr92), .blk g8 36 z.cells, .blk g6 36 m.cells, .row (.slice (some ⟨g_Axs, 0, none⟩) xs.length cxs) 47 17 xs.length (flat Rs.cells xs), .abs wn.heap.size (fun w => Cod w wn.heap.size)] ++ mpsP [z, m])) (fun y => wr99.length - y.1.1) (⟨(0, false), Nat.zero_le _, fun _ j g hj => absurd hj (Nat.not_lt_zero _)⟩) ⟨rfl, rfl, rfl, rfl, rfl, rfl, rfl, rfl, rfl, rfl, rfl, rfl, trivial⟩ (fun w1 hw => hw) ?_
     rintro ⟨⟨k, fd⟩, hk, hfd⟩
     dsimp only at hk hfd ⊢
     refine TC.seq_ ?_
     have hw99 := wr_len hP99
     refine TC.region ?_
     refine TL.vsplit rfl rfl rfl (gives_bin rfl rfl rfl (fun w => bin_lss w)) (fun h102 => ?_) (fun h102 => ?_)
     ·have q102 := of_decide_eq_true h102
      refine TL.end_ (TX.then_ (TC.seq_ (TC.condT rfl (TC.skip_ (TX.then_ (TC.seq_ (TC.block (TC.seq_ (TC.region ?_)))))))))
      refine TL.fact (p := ∃ g, R99 = some ⟨g, 0, none⟩) (fun w1 hw => rowA hw (k := 0) rfl (by omega)) ?_
      rintro ⟨g_R99, rfl⟩
      have hi103 : k < wr99.length := by omega
      obtain ⟨x103, hx103⟩ : ∃ x103, wr99[k]? = some x103 := ⟨_, List.getElem?_eq_getElem hi103⟩
      refine TL.val rfl rfl rfl (gives_at (v := .pointer (some ⟨g_R99, 0 + k * 2, none⟩)) rfl rfl rfl (fun w => at_el Tryz.underlying51 plgsz54 rfl _ _ k (by omega) rfl w)) ?_
      refine TL.val rfl rfl rfl (gives_loadR (off := 0 + k * 2) rfl rfl plgag54 plgsz54 (wre_cel.len x103) (fun w1 hw j9 u9 h9 => flat_row wre_cel hw (q := 0) rfl hx103 j9 u9 h9)) ?_
      refine TL.pnew rfl rfl rfl (exec_alloc (cs := [.int .u32 0, .int .u32 0]) rfl plgzv54 rfl) (fun g19 => ?_)
      refine TL.pstore (k := 0) (vs := x103.cells) rfl rfl rfl rfl rfl rfl rfl plgsz54 (wre_cel.one _) (by show 2 ≤ 2; decide) (L' := ([.blk g19 54 x103.cells, .row (.slice (some ⟨g_R99, 0, none⟩) wr99.length rc99) 54 2 wr99.length (flat Wre.cells wr99), .blk g16 54 x96.cells, .row (.slice (some ⟨g_R92, 0, none⟩) wr92.length rc92) 54 2 wr92.length (flat Wre.cells wr92), .blk g8 36 z.cells, .blk g6 36 m.cells, .row (.slice (some ⟨g_Axs, 0, none⟩) xs.length cxs) 47 17 xs.length (flat Rs.cells xs), .abs wn.heap.size (fun w => Cod w wn.heap.size)] ++ mpsP [z, m])) rfl ?_
      refine TL.end_ (TX.then_ ?_)
      cases fd with
      | true =>
       refine TC.region ?_
       iterate 7 (first | refine TL.of ?_ | refine TL.mv ?_ | refine TL.pk ?_ | refine TL.as_ ?_)
       refine TL.end_ (TX.in_normal (TX.then_ (TC.region ?_)))
       refine TL.val rfl rfl rfl (gives_bin rfl rfl rfl (fun w => bin_add_ (r := ((k + 1 : Nat) : Int)) (by simp only [IntKind.wrap_i64]; omega) w)) ?_
       refine TL.mv ?_
       refine TL.end_ ?_
       exact TX.round (⟨(k + 1, true), by dsimp only; omega, fun h => by cases h⟩) (by show wr99.length - (k + 1) < wr99.length - k; omega) ⟨rfl, rfl, rfl, rfl, rfl, rfl, rfl, rfl, rfl, rfl, rfl, rfl, trivial⟩ (fun w1 hw => hw.sel (.cons _ (.cons_cons _ (.cons_cons _ (.cons_cons _ (.cons_cons _ (.cons_cons _ (.cons_cons _ (.cons_cons _ (List.Sublist.refl _))))))))))
      | false =>
       refine TC.region ?_
       refine TL.mv ?_
       refine TL.mv ?_
       refine TL.gu ?_
       refine TL.val rfl rfl rfl (pm_loadV (k := 0) (i := 0) (n := 2) (v := .agg (x103.cells).toArray) rfl rfl plgag54 plgsz54 rfl (by show 2 ≤ 2; decide) rfl) ?_
       refine TL.gu ?_
       refine TL.val rfl rfl rfl (pm_loadV (k := 2) (i := 0) (n := 2) (v := .agg (x96.cells).toArray) rfl rfl plgag54 plgsz54 rfl (by show 2 ≤ 2; decide) rfl) ?_
       refine TL.gu ?_
       refine TL.vsplit rfl rfl rfl (gives_bin2 rfl rfl rfl (fun w => wre_eql x103 x96 _ _ w)) (fun h109 => ?_) (fun h109 => ?_)
       ·have q109 := of_decide_eq_true h109
        refine TL.pk ?_
        refine TL.as_ ?_
        refine TL.end_ (TX.in_normal (TX.then_ (TC.region ?_)))
        refine TL.val rfl rfl rfl (gives_bin rfl rfl rfl (fun w => bin_add_ (r := ((k + 1 : Nat) : Int)) (by simp only [IntKind.wrap_i64]; omega) w)) ?_
        refine TL.mv ?_
        refine TL.end_ ?_
        exact TX.round (⟨(k + 1, true), by dsimp only; omega, fun h => by cases h⟩) (by show wr99.length - (k + 1) < wr99.length - k; omega) ⟨rfl, rfl, rfl, rfl, rfl, rfl, rfl, rfl, rfl, rfl, rfl, rfl, trivial⟩ (fun w1 hw => hw.sel (.cons _ (.cons_cons _ (.cons_cons _ (.cons_cons _ (.cons_cons _ (.cons_cons _ (.cons_cons _ (.cons_cons _ (List.Sublist.refl _))))))))))
       ·have q109 := of_decide_eq_false h109
        refine TL.pk ?_
        refine TL.as_ ?_
        refine TL.end_ (TX.in_normal (TX.then_ (TC.region ?_)))
        refine TL.val rfl rfl rfl (gives_bin rfl rfl rfl (fun w => bin_add_ (r := ((k + 1 : Nat) : Int)) (by simp only [IntKind.wrap_i64]; omega) w)) ?_
        refine TL.mv ?_
        refine TL.end_ ?_
        exact TX.round (⟨(k + 1, false), by dsimp only; omega, fun _ => no_snoc (hfd rfl) hx103 q109⟩) (by show wr99.length - (k + 1) < wr99.length - k; omega) ⟨rfl, rfl, rfl, rfl, rfl, rfl, rfl, rfl, rfl, rfl, rfl, rfl, trivial⟩ (fun w1 hw => hw.sel (.cons _ (.cons_cons _ (.cons_cons _ (.cons_cons _ (.cons_cons _ (.cons_cons _ (.cons_cons _ (.cons_cons _ (List.Sublist.refl _))))))))))
     ·have q102 := of_decide_eq_false h102
      refine TL.end_ (TX.then_ (TC.seq_ (TC.condF rfl (TC.exit_ (TX.then_exit (TX.then_exit (TX.in_same (TX.then_ (TC.seq_ ?_)))))))))
      cases fd with
      | true =>
       refine TC.region ?_
       refine TL.mv ?_
       refine TL.val rfl rfl rfl (gives_boolnot rfl rfl) ?_
       refine TL.end_ (TX.then_ (TC.condF rfl (TC.skip_ (TX.in_normal (TX.then_ (TC.region ?_))))))
       refine TL.val rfl rfl rfl (gives_bin rfl rfl rfl (fun w => bin_add_ (r := ((i + 1 : Nat) : Int)) (by simp only [IntKind.wrap_i64]; omega) w)) ?_
       refine TL.mv ?_
       refine TL.end_ ?_
       exact TX.round (⟨i + 1, by omega⟩) (by show wr92.length - (i + 1) < wr92.length - i; omega) ⟨rfl, rfl, rfl, rfl, rfl, rfl, rfl, trivial⟩ (fun w1 hw => hw.sel (.cons _ (.cons _ (.cons_cons _ (.cons_cons _ (.cons_cons _ (.cons_cons _ (.cons_cons _ (List.Sublist.refl _)))))))))
      | false =>
       exfalso
       obtain ⟨j, hg⟩ := List.getElem?_of_mem (hgr.2 wr92 wr99 hP92 hP99 x96 (List.mem_of_getElem? hx96))
       exact hfd rfl j x96 (by have := (List.getElem?_eq_some_iff.1 hg).1; omega) hg rfl
    ·have q95 := of_decide_eq_false h95
     refine TL.end_ (TX.then_ (TC.seq_ (TC.condF rfl (TC.exit_ (TX.then_exit (TX.then_exit (TX.in_same (TX.then_ (TC.seq_ (TC.region ?_))))))))))
     refine TL.as_ ?_
     refine TL.end_ (TX.then_ (TC.ret_ ?_))
     exact ret_tmp Tryz.results4 rfl (fun w1 hw => ⟨rfl, hwb.trans (hw.bel.mono hwb.size)⟩)
end Go.Proofs.YtnejdeklnmkhbaaGreat
