/-
  Texts of the proof, joined: JrLW, OpenRes.
-/
import Derived.Test.YtmeaeeehnkcblaaDoorPq5
import Derived.Test.YtmeaeeehnkcblaaDoorPq3
import Derived.DataElems
namespace Go.Proofs.YtmeaeeehnkcblaaDoor
open Go.RowKit
set_option linter.unusedVariables false
set_option linter.unusedSimpArgs false
set_option maxRecDepth 20000
def ChI (c : Chn) : Prop := 0 ≤ c.n ∧ c.n ≤ 1000 ∧ c.dg.length ≤ 32 ∧ Bs c.dg
theorem bgC_bs (v run : Int) (key : List Int) : Bs (bgC v run key).dg := by
 unfold bgC; split
 ·exact shaF_bs _
 ·exact Bs.nil
theorem bgC_le (v run : Int) (key : List Int) : (bgC v run key).dg.length ≤ 10000 := by
 unfold bgC; split
 ·show (shaF _).length ≤ 10000
  rw [shaF_len]; decide
 ·exact Nat.zero_le _
theorem apC_bs (c : Chn) (rl : List Rs) (key : List Int) : Bs (apC c rl key).dg := by
 unfold apC; split
 ·exact shaF_bs _
 ·exact Bs.nil
theorem apC_le (c : Chn) (rl : List Rs) (key : List Int) : (apC c rl key).dg.length ≤ 10000 := by
 unfold apC; split
 ·show (shaF _).length ≤ 10000
  rw [shaF_len]; decide
 ·exact Nat.zero_le _
theorem bgC_inv {v run : Int} (h : idOk v run) (key : List Int) : ChI (bgC v run key) := by
 rw [(bg_ok h key).1]
 exact ⟨Int.le_refl _, (by decide : (0 : Int) ≤ 1000), by show (shaF _).length ≤ 32; rw [shaF_len]; exact Nat.le_refl _, shaF_bs _⟩
theorem apC_inv {c : Chn} {rl : List Rs} {key : List Int} (h : apE c rl = 0) : ChI (apC c rl key) := by
 obtain ⟨g1, g2, g3, g4, g5, g6, g7, g8, g9, _⟩ := ap_id h
 rw [(ap_ok h key).1]
 exact ⟨by show 0 ≤ c.n + (rl.length : Int); omega, by show c.n + (rl.length : Int) ≤ 1000; omega, by show (shaF _).length ≤ 32; rw [shaF_len]; exact Nat.le_refl _, shaF_bs _⟩
/-- results that are read: a row of one's own, or what lay there before -/
def LstOk (wn : World) (A : Option Addr) (c n : Nat) (rl : List Rs) (ex : List Pc) : Prop := ex = [.row (.slice A n c) 27 17 n (rcs rl)] ∨ (ex = [] ∧ Reads wn wn.heap.size 17 A n (rcs rl))
theorem lst_reads {wn w1 : World} {L ex : List Pc} {A : Option Addr} {c : Nat} {rl : List Rs} (h : Pm ⟨wn, wn.heap.size⟩ L w1) (n : Nat) (hT : L.drop n = ex) (hl : LstOk wn A c rl.length rl ex) : Reads w1 w1.heap.size 17 A rl.length (rcs rl) := by
 rcases hl with hl | ⟨_, hl⟩
 ·have h1 : Pc.ok wn.heap.size w1 (.row (.slice A rl.length c) 27 17 rl.length (rcs rl)) := h.own _ (List.mem_of_mem_drop (i := n) (by rw [hT, hl]; exact List.mem_cons_self))
  exact Reads.of_own h1
 ·exact (hl.below h.bel).more h.bel.size
theorem rcs_setw {l : List Rs} {i : Nat} {r : Rs} (hi : i < l.length) : (rcs l).take (0 + i * 17) ++ r.cells ++ (rcs l).drop (0 + i * 17 + r.cells.length) = rcs (l.set i r) := by
 have e : l = l.take i ++ l[i] :: l.drop (i + 1) := by rw [← List.drop_eq_getElem_cons hi, List.take_append_drop]
 have hlen : (rcs (l.take i)).length = i * 17 := by rw [rcs_len, List.length_take]; congr 1; omega
 have e2 : rcs l = rcs (l.take i) ++ (l[i].cells ++ rcs (l.drop (i + 1))) := by
  conv => lhs; rw [e]
  rw [rcs_app]; rfl
 rw [List.set_eq_take_append_cons_drop, if_pos hi, rcs_app, Nat.zero_add, e2, List.take_left' hlen, ← List.drop_drop, List.drop_left' hlen, List.drop_left' (by rw [rs_cells_len, rs_cells_len]), List.append_assoc]
 rfl
theorem jlwsz27 (w : World) : (sizeOf 27).run Tryd.prog w = .ok 17 w := rfl
theorem jlwnm9 : (Tryd.f9.name == "runtime.NumGoroutine") = false := by decide
theorem jlwbd9 : Tryd.f9.body.isNone = false := rfl
theorem jlwnm10 : (Tryd.f10.name == "runtime.NumGoroutine") = false := by decide
theorem jlwbd10 : Tryd.f10.body.isNone = false := rfl
theorem jlwnm33 : (Tryd.f33.name == "runtime.NumGoroutine") = false := by decide
theorem jlwbd33 : Tryd.f33.body.isNone = false := rfl
theorem jlwzv45 (w : World) : (zeroValue 45).run Tryd.prog w = .ok (.agg #[.int .i64 0, .int .i64 0, .int .i64 0, .slice none 0 0]) w := rfl
theorem jlwsz45 (w : World) : (sizeOf 45).run Tryd.prog w = .ok 4 w := rfl
theorem jlwone_i64i64i64s {a0 : Int} {a1 : Int} {a2 : Int} {a3 : Option Addr} {n3 c3 : Nat} : ∀ u ∈ [(.int .i64 a0 : Value), .int .i64 a1, .int .i64 a2, .slice a3 n3 c3], u.oneCell' = true := by
 intro u hu
 simp only [List.mem_cons, List.not_mem_nil, or_false] at hu
 rcases hu with rfl | rfl | rfl | rfl <;> rfl
theorem jlwnm34 : (Tryd.f34.name == "runtime.NumGoroutine") = false := by decide
theorem jlwbd34 : Tryd.f34.body.isNone = false := rfl
theorem jlwag45 (w : World) : (isAgg 45).run Tryd.prog w = .ok true w := rfl
theorem jlwnm26 : (Tryd.f26.name == "runtime.NumGoroutine") = false := by decide
theorem jlwbd26 : Tryd.f26.body.isNone = false := rfl
theorem jlwnm16 : (Tryd.f16.name == "runtime.NumGoroutine") = false := by decide
theorem jlwbd16 : Tryd.f16.body.isNone = false := rfl
theorem jlwnm21 : (Tryd.f21.name == "runtime.NumGoroutine") = false := by decide
theorem jlwbd21 : Tryd.f21.body.isNone = false := rfl
theorem jlwnm35 : (Tryd.f35.name == "runtime.NumGoroutine") = false := by decide
theorem jlwbd35 : Tryd.f35.body.isNone = false := rfl
theorem jlwnm11 : (Tryd.f11.name == "runtime.NumGoroutine") = false := by decide
theorem jlwbd11 : Tryd.f11.body.isNone = false := rfl
theorem jlwnm36 : (Tryd.f36.name == "runtime.NumGoroutine") = false := by decide
theorem jlwbd36 : Tryd.f36.body.isNone = false := rfl
theorem jlwnm37 : (Tryd.f37.name == "runtime.NumGoroutine") = false := by decide
theorem jlwbd37 : Tryd.f37.body.isNone = false := rfl
set_option maxHeartbeats 4000000 in
set_option maxRecDepth 100000 in
theorem journalWrites_walk (A0 : Option Addr) (n0 c0 : Nat) (l0 : List Int) (id run : Int) (A3 : Option Addr) (n3 c3 : Nat) (key : List Int) (A4 : Option Addr) (c4 : Nat) (raw : List Rs) (w : World) (hb0 : Byt w w.heap.size A0 n0 l0) (hnc0 : n0 ≤ c0) (hm0 : c0 ≤ maxLen) (hw1 : (Lit.int .i64 id).wf = true) (hw2 : (Lit.int .i64 run).wf = true) (hb3 : Byt w w.heap.size A3 n3 key) (hnc3 : n3 ≤ c3) (hm3 : c3 ≤ maxLen) (hnc4 : raw.length ≤ c4) (hm4 : c4 ≤ maxLen) (hr4 : Reads w w.heap.size 17 A4 raw.length (rcs raw)) (hOk4 : ∀ r ∈ raw, r.Ok) {ts tk : TypeId} (hst : Blk w 0 ts start8.cells) (hky : Blk w 1 tk (arrOf keysL)) :
  Calls Tryd.prog 7 #[.slice A0 n0 c0, .int .i64 id, .int .i64 run, .slice A3 n3 c3, .slice A4 raw.length c4] w fun e w' => e = .returned (.bool true) ∧ Below w.heap.size w w' := by
 refine begin_ (vs := [.slice A0 n0 c0, .int .i64 id, .int .i64 run, .slice A3 n3 c3, .slice A4 raw.length c4]) Tryd.func7 rfl rfl rfl ?_ (Pm.start w)
 refine TC.seq_ (TC.region ?_)
 refine TL.as_ ?_
 refine TL.end_ (TX.then_ (TC.seq_ (TC.seq_ (TC.region ?_))))
 refine TL.pcall1 (r := .bool true) rfl rfl rfl rfl rfl Tryd.func9 jlwnm9 jlwbd9 (fun w1 hw => awake_any w1 (hst.below hw.bel hst.lt) (hky.below hw.bel hky.lt)) ?_
 iterate 5 (first | refine TL.gu ?_ | refine TL.mv ?_ | refine TL.val rfl rfl rfl (gives_boolnot rfl rfl) ?_)
 refine TL.val rfl rfl rfl (gives_len rfl Tryd.underlying28 rfl) ?_
 refine TL.gu ?_
 refine TL.vsplit rfl rfl rfl (gives_bin rfl rfl rfl (fun w => bin_gtr w)) (fun h31 => ?_) (fun h31 => ?_)
 ·have q31 := of_decide_eq_true h31
  iterate 6 (first | refine TL.of ?_ | refine TL.pk ?_ | refine TL.mv ?_)
  refine TL.end_ (TX.then_ (TC.condT rfl (TC.seq_ (TC.region ?_))))
  refine TL.mv ?_
  refine TL.val rfl rfl rfl (gives_len rfl Tryd.underlying28 rfl) ?_
  refine TL.vsplit rfl rfl rfl (gives_bin rfl rfl rfl (fun w => bin_gtr w)) (fun h40 => ?_) (fun h40 => ?_)
  ·have q40 := of_decide_eq_true h40
   iterate 6 (first | refine TL.of ?_ | refine TL.mv ?_ | refine TL.pk ?_ | refine TL.as_ ?_)
   refine TL.end_ (TX.then_ (TC.ret_ (TX.then_ret ?_)))
   exact ret_tmp Tryd.results7 rfl (fun w1 hw => ⟨rfl, hw.bel⟩)
  ·have q40 := of_decide_eq_false h40
   iterate 4 (first | refine TL.gu ?_ | refine TL.mv ?_)
   refine TL.val rfl rfl rfl (gives_len rfl Tryd.underlying33 rfl) ?_
   refine TL.gu ?_
   refine TL.vsplit rfl rfl rfl (gives_bin rfl rfl rfl (fun w => bin_gtr w)) (fun h44 => ?_) (fun h44 => ?_)
   ·have q44 := of_decide_eq_true h44
    refine TL.pk ?_
    refine TL.as_ ?_
    refine TL.end_ (TX.then_ (TC.ret_ (TX.then_ret ?_)))
    exact ret_tmp Tryd.results7 rfl (fun w1 hw => ⟨rfl, hw.bel⟩)
   ·have q44 := of_decide_eq_false h44
    refine TL.pk ?_
    refine TL.as_ ?_
    refine TL.end_ (TX.then_ (TC.ret_ (TX.then_ret ?_)))
    exfalso; omega
 ·have q31 := of_decide_eq_false h31
  iterate 5 (first | refine TL.gu ?_ | refine TL.mv ?_ | refine TL.pk ?_)
  refine TL.val rfl rfl rfl (gives_len rfl Tryd.underlying33 rfl) ?_
  refine TL.gu ?_
  refine TL.vsplit rfl rfl rfl (gives_bin rfl rfl rfl (fun w => bin_gtr w)) (fun h36 => ?_) (fun h36 => ?_)
  ·have q36 := of_decide_eq_true h36
   refine TL.pk ?_
   refine TL.end_ (TX.then_ (TC.condT rfl (TC.seq_ (TC.region ?_))))
   refine TL.mv ?_
   refine TL.val rfl rfl rfl (gives_len rfl Tryd.underlying28 rfl) ?_
   refine TL.vsplit rfl rfl rfl (gives_bin rfl rfl rfl (fun w => bin_gtr w)) (fun h40 => ?_) (fun h40 => ?_)
   ·have q40 := of_decide_eq_true h40
    iterate 6 (first | refine TL.of ?_ | refine TL.mv ?_ | refine TL.pk ?_ | refine TL.as_ ?_)
    refine TL.end_ (TX.then_ (TC.ret_ (TX.then_ret ?_)))
    exact ret_tmp Tryd.results7 rfl (fun w1 hw => ⟨rfl, hw.bel⟩)
   ·have q40 := of_decide_eq_false h40
    iterate 4 (first | refine TL.gu ?_ | refine TL.mv ?_)
    refine TL.val rfl rfl rfl (gives_len rfl Tryd.underlying33 rfl) ?_
    refine TL.gu ?_
    refine TL.vsplit rfl rfl rfl (gives_bin rfl rfl rfl (fun w => bin_gtr w)) (fun h44 => ?_) (fun h44 => ?_)
    ·have q44 := of_decide_eq_true h44
     refine TL.pk ?_
     refine TL.as_ ?_
     refine TL.end_ (TX.then_ (TC.ret_ (TX.then_ret ?_)))
     exact ret_tmp Tryd.results7 rfl (fun w1 hw => ⟨rfl, hw.bel⟩)
    ·have q44 := of_decide_eq_false h44
     refine TL.pk ?_
     refine TL.as_ ?_
     refine TL.end_ (TX.then_ (TC.ret_ (TX.then_ret ?_)))
     exfalso; omega
  ·have q36 := of_decide_eq_false h36
   have hbl := bgS_le id run key
   refine TL.pk ?_
   refine TL.end_ (TX.then_ (TC.condF rfl (TC.skip_ (TX.then_ (TC.seq_ (TC.region ?_))))))
   refine TL.mv ?_
   refine TL.callNew (I := Pm w []) (p := fun cb w => Cod w cb) rfl rfl rfl rfl rfl Tryd.func10 jlwnm10 jlwbd10 (fun w1 hw => (new_any A0 n0 c0 l0 w1 300 ((hb0.below hw.bel).more hw.bel.size) hnc0 (by have := hm0; unfold maxLen at this; omega) (by decide) (by decide)).mono fun e w2 ⟨h1, h2, h3, _⟩ => ⟨h1, h2, cod_cells h2, h3⟩) cod_stab (fun wn hwn => ?_)
   replace hst := hst.below hwn.bel hst.lt
   replace hky := hky.below hwn.bel hky.lt
   have hb3n := (hb3.below hwn.bel).more hwn.bel.size
   have hr4n := (hr4.below hwn.bel).more hwn.bel.size
   refine TL.as_ ?_
   refine TL.end_ (TX.then_ (TC.seq_ (TC.region ?_)))
   refine TL.mv ?_
   refine TL.mv ?_
   refine TL.mv ?_
   refine TL.pcallPm (α := SegY (bgC id run key) (bgS id run key)) (fun y => .tuple #[.agg #[.int .i64 ((bgC id run key).v), .int .i64 ((bgC id run key).run), .int .i64 ((bgC id run key).n), .slice y.1.2.1 ((bgC id run key).dg.length) y.1.2.2], .slice y.1.1.1 ((bgS id run key).length) y.1.1.2, .int .i64 (bgE id run)]) (fun y => [.row (.slice y.1.1.1 ((bgS id run key).length) y.1.1.2) 5 1 ((bgS id run key).length) (bv (bgS id run key)), .row (.slice y.1.2.1 ((bgC id run key).dg.length) y.1.2.2) 5 1 ((bgC id run key).dg.length) (bv (bgC id run key).dg)]) rfl rfl rfl rfl rfl Tryd.func33 jlwnm33 jlwbd33 (fun w1 hw => (begin_any id run A3 n3 c3 key w1 ((hb3n.below hw.bel).more hw.bel.size) (by omega) (hst.below hw.bel hst.lt) (hky.below hw.bel hky.lt)).mono fun e w2 h => h.use) ?_
   rintro ⟨⟨⟨AB1, cB1⟩, ⟨DB1, eB1⟩⟩, ⟨hAB11, hAB12⟩, ⟨hDB11, hDB12⟩⟩
   dsimp only [List.cons_append, List.nil_append]
   dsimp only at hAB11 hAB12 hDB11 hDB12
   iterate 4 (first | refine TL.ex ?_ | refine TL.mv ?_)
   refine TL.pnew rfl rfl rfl (exec_alloc (cs := [.int .i64 0, .int .i64 0, .int .i64 0, .slice none 0 0]) rfl jlwzv45 rfl) (fun g12 => ?_)
   refine TL.pstore (k := 0) (vs := [.int .i64 ((bgC id run key).v), .int .i64 ((bgC id run key).run), .int .i64 ((bgC id run key).n), .slice DB1 ((bgC id run key).dg.length) eB1]) rfl rfl rfl rfl rfl rfl rfl jlwsz45 jlwone_i64i64i64s (by show 4 ≤ 4; decide) (L' := [.blk g12 45 [.int .i64 ((bgC id run key).v), .int .i64 ((bgC id run key).run), .int .i64 ((bgC id run key).n), .slice DB1 ((bgC id run key).dg.length) eB1], .row (.slice AB1 ((bgS id run key).length) cB1) 5 1 ((bgS id run key).length) (bv (bgS id run key)), .row (.slice DB1 ((bgC id run key).dg.length) eB1) 5 1 ((bgC id run key).dg.length) (bv (bgC id run key).dg), .abs wn.heap.size (fun w => Cod w wn.heap.size)]) rfl ?_
   refine TL.as_ ?_
   refine TL.as_ ?_
   refine TL.end_ (TX.then_ (TC.seq_ (TC.region ?_)))
   refine TL.mv ?_
   refine TL.mv ?_
   refine TL.mv ?_
   refine TL.pcallPm (α := SegY (bgC id run key) (bgS id run key)) (fun y => .tuple #[.agg #[.int .i64 ((bgC id run key).v), .int .i64 ((bgC id run key).run), .int .i64 ((bgC id run key).n), .slice y.1.2.1 ((bgC id run key).dg.length) y.1.2.2], .slice y.1.1.1 ((bgS id run key).length) y.1.1.2, .int .i64 (bgE id run)]) (fun y => [.row (.slice y.1.1.1 ((bgS id run key).length) y.1.1.2) 5 1 ((bgS id run key).length) (bv (bgS id run key)), .row (.slice y.1.2.1 ((bgC id run key).dg.length) y.1.2.2) 5 1 ((bgC id run key).dg.length) (bv (bgC id run key).dg)]) rfl rfl rfl rfl rfl Tryd.func34 jlwnm34 jlwbd34 (fun w1 hw => (rbegin_any id run A3 n3 c3 key w1 ((hb3n.below hw.bel).more hw.bel.size) (by omega)).mono fun e w2 h => h.use) ?_
   rintro ⟨⟨⟨AB2, cB2⟩, ⟨DB2, eB2⟩⟩, ⟨hAB21, hAB22⟩, ⟨hDB21, hDB22⟩⟩
   dsimp only [List.cons_append, List.nil_append]
   dsimp only at hAB21 hAB22 hDB21 hDB22
   iterate 4 (first | refine TL.ex ?_ | refine TL.mv ?_)
   refine TL.pnew rfl rfl rfl (exec_alloc (cs := [.int .i64 0, .int .i64 0, .int .i64 0, .slice none 0 0]) rfl jlwzv45 rfl) (fun g15 => ?_)
   refine TL.pstore (k := 0) (vs := [.int .i64 ((bgC id run key).v), .int .i64 ((bgC id run key).run), .int .i64 ((bgC id run key).n), .slice DB2 ((bgC id run key).dg.length) eB2]) rfl rfl rfl rfl rfl rfl rfl jlwsz45 jlwone_i64i64i64s (by show 4 ≤ 4; decide) (L' := [.blk g15 45 [.int .i64 ((bgC id run key).v), .int .i64 ((bgC id run key).run), .int .i64 ((bgC id run key).n), .slice DB2 ((bgC id run key).dg.length) eB2], .row (.slice AB2 ((bgS id run key).length) cB2) 5 1 ((bgS id run key).length) (bv (bgS id run key)), .row (.slice DB2 ((bgC id run key).dg.length) eB2) 5 1 ((bgC id run key).dg.length) (bv (bgC id run key).dg), .blk g12 45 [.int .i64 ((bgC id run key).v), .int .i64 ((bgC id run key).run), .int .i64 ((bgC id run key).n), .slice DB1 ((bgC id run key).dg.length) eB1], .row (.slice AB1 ((bgS id run key).length) cB1) 5 1 ((bgS id run key).length) (bv (bgS id run key)), .row (.slice DB1 ((bgC id run key).dg.length) eB1) 5 1 ((bgC id run key).dg.length) (bv (bgC id run key).dg), .abs wn.heap.size (fun w => Cod w wn.heap.size)]) rfl ?_
   refine TL.as_ ?_
   refine TL.as_ ?_
   refine TL.end_ (TX.then_ (TC.seq_ (TC.seq_ (TC.region ?_))))
   refine TL.mv ?_
   refine TL.mv ?_
   refine TL.val rfl rfl rfl (gives_bin rfl rfl rfl (fun w => bin_neq_f (rfl) w)) ?_
   refine TL.mv ?_
   refine TL.gu ?_
   refine TL.val rfl rfl rfl (pm_loadV (k := 3) (i := 0) (n := 4) (v := .agg #[.int .i64 ((bgC id run key).v), .int .i64 ((bgC id run key).run), .int .i64 ((bgC id run key).n), .slice DB1 ((bgC id run key).dg.length) eB1]) rfl rfl jlwag45 jlwsz45 rfl (by show 4 ≤ 4; decide) rfl) ?_
   refine TL.gu ?_
   refine TL.val rfl rfl rfl (pm_loadV (k := 0) (i := 0) (n := 4) (v := .agg #[.int .i64 ((bgC id run key).v), .int .i64 ((bgC id run key).run), .int .i64 ((bgC id run key).n), .slice DB2 ((bgC id run key).dg.length) eB2]) rfl rfl jlwag45 jlwsz45 rfl (by show 4 ≤ 4; decide) rfl) ?_
   refine TL.gu ?_
   refine TL.pcall1 (r := .bool true) rfl rfl rfl rfl rfl Tryd.func26 jlwnm26 jlwbd26 (fun w1 hw => retb_lit (decide_eq_true rfl) (samechain_any (bgC id run key) (bgC id run key) DB1 _ _ DB2 _ _ w1 (byt_own (hw.at_ (k := 5) rfl) (bgC_bs _ _ _)) (byt_own (hw.at_ (k := 2) rfl) (bgC_bs _ _ _)) (bgC_le _ _ _) (bgC_le _ _ _))) ?_
   iterate 9 (first | refine TL.gu ?_ | refine TL.mv ?_ | refine TL.pk ?_ | refine TL.val rfl rfl rfl (gives_boolnot rfl rfl) ?_)
   refine TL.pcall1 (r := .bool true) rfl rfl rfl rfl rfl Tryd.func16 jlwnm16 jlwbd16 (fun w1 hw => retb_lit (decide_eq_true rfl) ((requal_any _ _ _ _ _ _ (bgS id run key) (bgS id run key) w1 w1.heap.size (byt_own (hw.at_ (k := 4) rfl) (bgS_bs _ _ _)) (byt_own (hw.at_ (k := 1) rfl) (bgS_bs _ _ _)) (by omega) (by omega)).mono fun e w2 ⟨h1, q, h2⟩ => ⟨h1, h2 ▸ drewN_below q⟩)) ?_
   refine TL.gu ?_
   refine TL.val rfl rfl rfl (gives_boolnot rfl rfl) ?_
   refine TL.pk ?_
   refine TL.end_ (TX.then_ (TC.condF rfl (TC.skip_ (TX.then_ (TC.seq_ (TC.region ?_))))))
   refine TL.mv ?_
   refine TL.pcallCod (k := 6) (α := {x : Nat // x ≤ 65535 ∧ (1 ≤ (16 : Int) → (x : Int) < 16)}) (fun y => .int .i64 (y.1 : Int)) (fun y => []) rfl rfl rfl rfl rfl Tryd.func21 jlwnm21 jlwbd21 rfl (fun w1 hw hC1 => next_cod wn.heap.size w1 16 hC1) ?_
   rintro ⟨x81, hx811, hx812⟩
   dsimp only [List.cons_append, List.nil_append] at hx811 hx812 ⊢
   replace hx812 := hx812 (by omega)
   refine TL.mv ?_
   refine TL.pcallCod (k := 6) (α := {x : Nat // x ≤ 65535 ∧ (1 ≤ (64 : Int) → (x : Int) < 64)}) (fun y => .int .i64 (y.1 : Int)) (fun y => []) rfl rfl rfl rfl rfl Tryd.func21 jlwnm21 jlwbd21 rfl (fun w1 hw hC1 => next_cod wn.heap.size w1 64 hC1) ?_
   rintro ⟨x83, hx831, hx832⟩
   dsimp only [List.cons_append, List.nil_append] at hx831 hx832 ⊢
   replace hx832 := hx832 (by omega)
   refine TL.mv ?_
   refine TL.pcallPm (α := SegY (bgC ((x81 : Nat) : Int) ((x83 : Nat) : Int) key) (bgS ((x81 : Nat) : Int) ((x83 : Nat) : Int) key)) (fun y => .tuple #[.agg #[.int .i64 ((bgC ((x81 : Nat) : Int) ((x83 : Nat) : Int) key).v), .int .i64 ((bgC ((x81 : Nat) : Int) ((x83 : Nat) : Int) key).run), .int .i64 ((bgC ((x81 : Nat) : Int) ((x83 : Nat) : Int) key).n), .slice y.1.2.1 ((bgC ((x81 : Nat) : Int) ((x83 : Nat) : Int) key).dg.length) y.1.2.2], .slice y.1.1.1 ((bgS ((x81 : Nat) : Int) ((x83 : Nat) : Int) key).length) y.1.1.2, .int .i64 (bgE ((x81 : Nat) : Int) ((x83 : Nat) : Int))]) (fun y => [.row (.slice y.1.1.1 ((bgS ((x81 : Nat) : Int) ((x83 : Nat) : Int) key).length) y.1.1.2) 5 1 ((bgS ((x81 : Nat) : Int) ((x83 : Nat) : Int) key).length) (bv (bgS ((x81 : Nat) : Int) ((x83 : Nat) : Int) key)), .row (.slice y.1.2.1 ((bgC ((x81 : Nat) : Int) ((x83 : Nat) : Int) key).dg.length) y.1.2.2) 5 1 ((bgC ((x81 : Nat) : Int) ((x83 : Nat) : Int) key).dg.length) (bv (bgC ((x81 : Nat) : Int) ((x83 : Nat) : Int) key).dg)]) rfl rfl rfl rfl rfl Tryd.func34 jlwnm34 jlwbd34 (fun w1 hw => (rbegin_any ((x81 : Nat) : Int) ((x83 : Nat) : Int) A3 n3 c3 key w1 ((hb3n.below hw.bel).more hw.bel.size) (by omega)).mono fun e w2 h => h.use) ?_
   rintro ⟨⟨⟨AB3, cB3⟩, ⟨DB3, eB3⟩⟩, ⟨hAB31, hAB32⟩, ⟨hDB31, hDB32⟩⟩
   dsimp only [List.cons_append, List.nil_append]
   dsimp only at hAB31 hAB32 hDB31 hDB32
   iterate 4 (first | refine TL.ex ?_ | refine TL.mv ?_)
   refine TL.pstore (k := 5) (vs := [.int .i64 ((bgC ((x81 : Nat) : Int) ((x83 : Nat) : Int) key).v), .int .i64 ((bgC ((x81 : Nat) : Int) ((x83 : Nat) : Int) key).run), .int .i64 ((bgC ((x81 : Nat) : Int) ((x83 : Nat) : Int) key).n), .slice DB3 ((bgC ((x81 : Nat) : Int) ((x83 : Nat) : Int) key).dg.length) eB3]) rfl rfl rfl rfl rfl rfl rfl jlwsz45 jlwone_i64i64i64s (by show 4 ≤ 4; decide) (L' := [.row (.slice AB3 ((bgS ((x81 : Nat) : Int) ((x83 : Nat) : Int) key).length) cB3) 5 1 ((bgS ((x81 : Nat) : Int) ((x83 : Nat) : Int) key).length) (bv (bgS ((x81 : Nat) : Int) ((x83 : Nat) : Int) key)), .row (.slice DB3 ((bgC ((x81 : Nat) : Int) ((x83 : Nat) : Int) key).dg.length) eB3) 5 1 ((bgC ((x81 : Nat) : Int) ((x83 : Nat) : Int) key).dg.length) (bv (bgC ((x81 : Nat) : Int) ((x83 : Nat) : Int) key).dg), .blk g15 45 [.int .i64 ((bgC id run key).v), .int .i64 ((bgC id run key).run), .int .i64 ((bgC id run key).n), .slice DB2 ((bgC id run key).dg.length) eB2], .row (.slice AB2 ((bgS id run key).length) cB2) 5 1 ((bgS id run key).length) (bv (bgS id run key)), .row (.slice DB2 ((bgC id run key).dg.length) eB2) 5 1 ((bgC id run key).dg.length) (bv (bgC id run key).dg), .blk g12 45 [.int .i64 ((bgC ((x81 : Nat) : Int) ((x83 : Nat) : Int) key).v), .int .i64 ((bgC ((x81 : Nat) : Int) ((x83 : Nat) : Int) key).run), .int .i64 ((bgC ((x81 : Nat) : Int) ((x83 : Nat) : Int) key).n), .slice DB3 ((bgC ((x81 : Nat) : Int) ((x83 : Nat) : Int) key).dg.length) eB3], .row (.slice AB1 ((bgS id run key).length) cB1) 5 1 ((bgS id run key).length) (bv (bgS id run key)), .row (.slice DB1 ((bgC id run key).dg.length) eB1) 5 1 ((bgC id run key).dg.length) (bv (bgC id run key).dg), .abs wn.heap.size (fun w => Cod w wn.heap.size)]) rfl ?_
   refine TL.end_ (TX.then_ (TC.seq_ (TC.seq_ (TC.region ?_))))
   refine TL.as_ ?_
   refine TL.end_ (TX.then_ (TC.block ?_))
   refine TC.loop_ (α := {y : (Nat × Chn) × (Option Addr × Nat) // y.1.1 ≤ 4 ∧ ChI y.1.2 ∧ y.1.2.dg.length ≤ y.2.2 ∧ y.2.2 ≤ maxLen}) (fun y => [(3, .slice A3 n3 c3), (4, .slice A4 raw.length c4), (11, .pointer (some ⟨wn.heap.size, 0, none⟩)), (12, .pointer (some ⟨g12, 0, none⟩)), (18, .int .i64 (y.1.1.1 : Nat))]) (fun y => Pm wn [.abs wn.heap.size (fun w => Cod w wn.heap.size), .row (.slice y.1.2.1 y.1.1.2.dg.length y.1.2.2) 5 1 y.1.1.2.dg.length (bv y.1.1.2.dg), .blk g12 45 [.int .i64 y.1.1.2.v, .int .i64 y.1.1.2.run, .int .i64 y.1.1.2.n, .slice y.1.2.1 y.1.1.2.dg.length y.1.2.2]]) (fun y => 4 - y.1.1.1) (⟨((0, (bgC ((x81 : Nat) : Int) ((x83 : Nat) : Int) key)), (DB3, eB3)), Nat.zero_le _, bgC_inv (by unfold idOk; omega) key, hDB31, hDB32⟩) ⟨rfl, rfl, rfl, rfl, rfl, trivial⟩ (fun w1 hw => hw.pick [8, 1, 5] (by decide) rfl) ?_
   rintro ⟨⟨⟨k, c⟩, ⟨A2, c2⟩⟩, hk4, hci, hd1, hd2⟩
   dsimp only at hk4 hci hd1 hd2 ⊢
   have hci2 := hci
   obtain ⟨hc0, hc1, hcl, hcb⟩ := hci2
   refine TC.seq_ (TC.seq_ (TC.region ?_))
   refine TL.mv ?_
   refine TL.vsplit rfl rfl rfl (gives_bin rfl rfl rfl (fun w => bin_lss w)) (fun h90 => ?_) (fun h90 => ?_)
   ·have q90 := of_decide_eq_true h90
    have hk2 : k < 4 := by omega
    refine TL.end_ (TX.then_ (TC.condT rfl (TC.skip_ (TX.then_ (TC.seq_ (TC.block (TC.seq_ (TC.region ?_))))))))
    refine TL.mv ?_
    refine TL.val rfl rfl rfl (pm_loadV (k := 2) (i := 0) (n := 4) (v := .agg #[.int .i64 c.v, .int .i64 c.run, .int .i64 c.n, .slice A2 c.dg.length c2]) rfl rfl jlwag45 jlwsz45 rfl (by show 4 ≤ 4; decide) rfl) ?_
    refine TL.pcallCod (k := 0) (α := {y : (Option Addr × Nat) × List Rs // y.2.length ≤ y.1.2 ∧ y.1.2 ≤ maxLen ∧ y.2.length ≤ 5 ∧ ∀ r ∈ y.2, r.Ok}) (fun y => .slice y.1.1.1 y.1.2.length y.1.1.2) (fun y => [.row (.slice y.1.1.1 y.1.2.length y.1.1.2) 27 17 y.1.2.length (rcs y.1.2)]) rfl rfl rfl rfl rfl Tryd.func35 jlwnm35 jlwbd35 rfl (fun w1 hw hC1 => lawresults_cod wn.heap.size 5 c.v c.run c.n _ _ _ w1 hC1 (by omega) (by omega) (by omega)) ?_
    rintro ⟨⟨⟨A95, c95⟩, l95⟩, hA951, hA952, hA953, hA954⟩
    dsimp only [List.cons_append, List.nil_append] at hA951 hA952 hA953 hA954 ⊢
    refine TL.as_ ?_
    refine TL.end_ (TX.then_ ?_)
    refine TC.join (α := {y : List Rs × Nat × List Pc × (Option Addr × Nat) // y.1.length = y.2.1 ∧ y.1.length ≤ 70 ∧ (∀ r ∈ y.1, r.Ok) ∧ LstOk wn y.2.2.2.1 y.2.2.2.2 y.2.1 y.1 y.2.2.1}) (fun y => [(3, .slice A3 n3 c3), (4, .slice A4 raw.length c4), (11, .pointer (some ⟨wn.heap.size, 0, none⟩)), (12, .pointer (some ⟨g12, 0, none⟩)), (18, .int .i64 (k : Nat)), (19, .slice y.1.2.2.2.1 y.1.2.1 y.1.2.2.2.2)]) (fun y => Pm wn ([.abs wn.heap.size (fun w => Cod w wn.heap.size), .row (.slice A2 c.dg.length c2) 5 1 c.dg.length (bv c.dg), .blk g12 45 [.int .i64 c.v, .int .i64 c.run, .int .i64 c.n, .slice A2 c.dg.length c2]] ++ y.1.2.2.1)) ?_ ?_
    ·refine TC.seq_ (TC.region ?_)
     refine TL.mv ?_
     refine TL.pcallCod (k := 1) (α := {x : Nat // x ≤ 65535 ∧ (1 ≤ (6 : Int) → (x : Int) < 6)}) (fun y => .int .i64 (y.1 : Int)) (fun y => []) rfl rfl rfl rfl rfl Tryd.func21 jlwnm21 jlwbd21 rfl (fun w1 hw hC1 => next_cod wn.heap.size w1 6 hC1) ?_
     rintro ⟨x97, hx971, hx972⟩
     dsimp only [List.cons_append, List.nil_append] at hx971 hx972 ⊢
     replace hx972 := hx972 (by omega)
     refine TL.end_ (TX.then_ (TC.block (TC.seq_ (TC.region ?_))))
     refine TL.vsplit rfl rfl rfl (gives_bin rfl rfl rfl (fun w => bin_eql w)) (fun h99 => ?_) (fun h99 => ?_)
     ·have q99 := of_decide_eq_true h99
      refine TL.as_ ?_
      refine TL.end_ (TX.then_ (TC.condT rfl (TC.region ?_)))
      refine TL.mv ?_
      refine TL.as_ ?_
      refine TL.end_ (TX.in_normal ?_)
      exact TX.joined (⟨(raw, raw.length, [], (A4, c4)), rfl, by dsimp only; omega, hOk4, .inr ⟨rfl, hr4n⟩⟩) (⟨rfl, rfl, rfl, rfl, rfl, rfl, trivial⟩) (fun w1 hw => (show Pm wn ([.abs wn.heap.size (fun w => Cod w wn.heap.size), .row (.slice A2 c.dg.length c2) 5 1 c.dg.length (bv c.dg), .blk g12 45 [.int .i64 c.v, .int .i64 c.run, .int .i64 c.n, .slice A2 c.dg.length c2]] ++ ([] : List Pc)) w1 from (hw.pick [1, 2, 3] (by decide) rfl : Pm wn [.abs wn.heap.size (fun w => Cod w wn.heap.size), .row (.slice A2 c.dg.length c2) 5 1 c.dg.length (bv c.dg), .blk g12 45 [.int .i64 c.v, .int .i64 c.run, .int .i64 c.n, .slice A2 c.dg.length c2]] w1)))
     ·have q99 := of_decide_eq_false h99
      refine TL.as_ ?_
      refine TL.end_ (TX.then_ (TC.condF rfl (TC.seq_ (TC.region ?_))))
      refine TL.vsplit rfl rfl rfl (gives_bin rfl rfl rfl (fun w => bin_eql w)) (fun h102 => ?_) (fun h102 => ?_)
      ·have q102 := of_decide_eq_true h102
       refine TL.as_ ?_
       refine TL.end_ (TX.then_ (TC.condT rfl (TC.seq_ (TC.region ?_))))
       refine TL.mv ?_
       refine TL.val rfl rfl rfl (gives_len rfl Tryd.underlying33 rfl) ?_
       refine TL.vsplit rfl rfl rfl (gives_bin rfl rfl rfl (fun w => bin_gtr w)) (fun h105 => ?_) (fun h105 => ?_)
       ·have q105 := of_decide_eq_true h105
        refine TL.fact (p := ∃ g, A95 = some ⟨g, 0, none⟩) (fun w1 hw => row_some (hw.at_ (k := 0) rfl) (by omega)) (fun hg => ?_)
        obtain ⟨gL, rfl⟩ := hg
        refine TL.end_ (TX.then_ (TC.condT rfl (TC.region ?_)))
        refine TL.mv ?_
        refine TL.mv ?_
        refine TL.mv ?_
        refine TL.val rfl rfl rfl (gives_len rfl Tryd.underlying33 rfl) ?_
        refine TL.pcallCod (k := 1) (α := {x : Nat // x ≤ 65535 ∧ (1 ≤ ((l95.length : Nat) : Int) → (x : Int) < (l95.length : Nat))}) (fun y => .int .i64 (y.1 : Int)) (fun y => []) rfl rfl rfl rfl rfl Tryd.func21 jlwnm21 jlwbd21 rfl (fun w1 hw hC1 => next_cod wn.heap.size w1 (l95.length : Nat) hC1) ?_
        rintro ⟨x110, hx1101, hx1102⟩
        dsimp only [List.cons_append, List.nil_append] at hx1101 hx1102 ⊢
        replace hx1102 := hx1102 (by omega)
        refine TL.mv ?_
        refine TL.pcallCod (k := 1) (α := {x : Rs // x.Ok}) (fun y => .agg (y.1.cells).toArray) (fun y => []) rfl rfl rfl rfl rfl Tryd.func11 jlwnm11 jlwbd11 rfl (fun w1 hw hC1 => result_cod wn.heap.size w1 hC1) ?_
        rintro ⟨r112, hr112⟩
        dsimp only [List.cons_append, List.nil_append] at hr112 ⊢
        refine TL.val rfl rfl rfl (gives_at (v := .pointer (some ⟨gL, 0 + x110 * 17, none⟩)) rfl rfl rfl (fun w => at_el Tryd.underlying33 jlwsz27 rfl _ c95 x110 (by omega) rfl w)) ?_
        refine TL.rowset (k := 0) (off := 0 + x110 * 17) (vs := r112.cells) rfl rfl rfl rfl rfl rfl rfl (fun w => rfl) (rs_one r112) (by rw [rcs_len, rs_cells_len]; omega) (xs' := rcs (l95.set x110 r112)) (rcs_setw (by omega)) ?_
        refine TL.end_ (TX.in_normal ?_)
        exact TX.joined (⟨((l95.set x110 r112), l95.length, [.row (.slice (some ⟨gL, 0, none⟩) l95.length c95) 27 17 l95.length (rcs (l95.set x110 r112))], ((some ⟨gL, 0, none⟩), c95)), List.length_set .., by dsimp only; rw [List.length_set]; omega, (fun q hq => (List.mem_or_eq_of_mem_set hq).elim (hA954 q) (fun h => h ▸ hr112)), .inl rfl⟩) (⟨rfl, rfl, rfl, rfl, rfl, rfl, trivial⟩) (fun w1 hw => (show Pm wn ([.abs wn.heap.size (fun w => Cod w wn.heap.size), .row (.slice A2 c.dg.length c2) 5 1 c.dg.length (bv c.dg), .blk g12 45 [.int .i64 c.v, .int .i64 c.run, .int .i64 c.n, .slice A2 c.dg.length c2]] ++ ([.row (.slice (some ⟨gL, 0, none⟩) l95.length c95) 27 17 l95.length (rcs (l95.set x110 r112))] : List Pc)) w1 from (hw.pick [1, 2, 3, 0] (by decide) rfl : Pm wn [.abs wn.heap.size (fun w => Cod w wn.heap.size), .row (.slice A2 c.dg.length c2) 5 1 c.dg.length (bv c.dg), .blk g12 45 [.int .i64 c.v, .int .i64 c.run, .int .i64 c.n, .slice A2 c.dg.length c2], .row (.slice (some ⟨gL, 0, none⟩) l95.length c95) 27 17 l95.length (rcs (l95.set x110 r112))] w1)))
       ·have q105 := of_decide_eq_false h105
        refine TL.end_ (TX.then_ (TC.condF rfl (TC.skip_ (TX.in_normal ?_))))
        exact TX.joined (⟨(l95, l95.length, [.row (.slice A95 l95.length c95) 27 17 l95.length (rcs l95)], (A95, c95)), rfl, by dsimp only; omega, hA954, .inl rfl⟩) (⟨rfl, rfl, rfl, rfl, rfl, rfl, trivial⟩) (fun w1 hw => (show Pm wn ([.abs wn.heap.size (fun w => Cod w wn.heap.size), .row (.slice A2 c.dg.length c2) 5 1 c.dg.length (bv c.dg), .blk g12 45 [.int .i64 c.v, .int .i64 c.run, .int .i64 c.n, .slice A2 c.dg.length c2]] ++ ([.row (.slice A95 l95.length c95) 27 17 l95.length (rcs l95)] : List Pc)) w1 from (hw.pick [1, 2, 3, 0] (by decide) rfl : Pm wn [.abs wn.heap.size (fun w => Cod w wn.heap.size), .row (.slice A2 c.dg.length c2) 5 1 c.dg.length (bv c.dg), .blk g12 45 [.int .i64 c.v, .int .i64 c.run, .int .i64 c.n, .slice A2 c.dg.length c2], .row (.slice A95 l95.length c95) 27 17 l95.length (rcs l95)] w1)))
      ·have q102 := of_decide_eq_false h102
       refine TL.as_ ?_
       refine TL.end_ (TX.then_ (TC.condF rfl (TC.skip_ (TX.in_normal ?_))))
       exact TX.joined (⟨(l95, l95.length, [.row (.slice A95 l95.length c95) 27 17 l95.length (rcs l95)], (A95, c95)), rfl, by dsimp only; omega, hA954, .inl rfl⟩) (⟨rfl, rfl, rfl, rfl, rfl, rfl, trivial⟩) (fun w1 hw => (show Pm wn ([.abs wn.heap.size (fun w => Cod w wn.heap.size), .row (.slice A2 c.dg.length c2) 5 1 c.dg.length (bv c.dg), .blk g12 45 [.int .i64 c.v, .int .i64 c.run, .int .i64 c.n, .slice A2 c.dg.length c2]] ++ ([.row (.slice A95 l95.length c95) 27 17 l95.length (rcs l95)] : List Pc)) w1 from (hw.pick [1, 2, 3, 0] (by decide) rfl : Pm wn [.abs wn.heap.size (fun w => Cod w wn.heap.size), .row (.slice A2 c.dg.length c2) 5 1 c.dg.length (bv c.dg), .blk g12 45 [.int .i64 c.v, .int .i64 c.run, .int .i64 c.n, .slice A2 c.dg.length c2], .row (.slice A95 l95.length c95) 27 17 l95.length (rcs l95)] w1)))
    ·rintro ⟨⟨rl, n, ex, ⟨Al, cl⟩⟩, hln, hl70, hok, hlst⟩
     dsimp only at hln hl70 hok hlst ⊢
     subst hln
     have hsl := apS_le c rl key
     refine TC.seq_ (TC.region ?_)
     refine TL.val rfl rfl rfl (pm_loadV (k := 2) (i := 0) (n := 4) (v := .agg #[.int .i64 c.v, .int .i64 c.run, .int .i64 c.n, .slice A2 c.dg.length c2]) rfl rfl jlwag45 jlwsz45 rfl (by show 4 ≤ 4; decide) rfl) ?_
     refine TL.mv ?_
     refine TL.mv ?_
     refine TL.pcallPm (α := SegY (apC c rl key) (apS c rl key)) (fun y => .tuple #[.agg #[.int .i64 ((apC c rl key).v), .int .i64 ((apC c rl key).run), .int .i64 ((apC c rl key).n), .slice y.1.2.1 ((apC c rl key).dg.length) y.1.2.2], .slice y.1.1.1 ((apS c rl key).length) y.1.1.2, .int .i64 (apE c rl)]) (fun y => [.row (.slice y.1.1.1 ((apS c rl key).length) y.1.1.2) 5 1 ((apS c rl key).length) (bv (apS c rl key)), .row (.slice y.1.2.1 ((apC c rl key).dg.length) y.1.2.2) 5 1 ((apC c rl key).dg.length) (bv (apC c rl key).dg)]) rfl rfl rfl rfl rfl Tryd.func36 jlwnm36 jlwbd36 (fun w1 hw => (append_any A2 _ c2 c Al cl rl A3 n3 c3 key w1 ((hb3n.below hw.bel).more hw.bel.size) (by omega) (byt_own (hw.at_ (k := 1) rfl) hcb) (lst_reads hw 3 rfl hlst) (by omega) (by omega) (by omega) (by omega) hok (hst.below hw.bel hst.lt) (hky.below hw.bel hky.lt)).mono fun e w2 h => h.use) ?_
     rintro ⟨⟨⟨AB4, cB4⟩, ⟨DB4, eB4⟩⟩, ⟨hAB41, hAB42⟩, ⟨hDB41, hDB42⟩⟩
     dsimp only [List.cons_append, List.nil_append]
     dsimp only at hAB41 hAB42 hDB41 hDB42
     iterate 4 (first | refine TL.ex ?_ | refine TL.mv ?_)
     refine TL.pnew rfl rfl rfl (exec_alloc (cs := [.int .i64 0, .int .i64 0, .int .i64 0, .slice none 0 0]) rfl jlwzv45 rfl) (fun g20 => ?_)
     refine TL.pstore (k := 0) (vs := [.int .i64 ((apC c rl key).v), .int .i64 ((apC c rl key).run), .int .i64 ((apC c rl key).n), .slice DB4 ((apC c rl key).dg.length) eB4]) rfl rfl rfl rfl rfl rfl rfl jlwsz45 jlwone_i64i64i64s (by show 4 ≤ 4; decide) (L' := ([.blk g20 45 [.int .i64 ((apC c rl key).v), .int .i64 ((apC c rl key).run), .int .i64 ((apC c rl key).n), .slice DB4 ((apC c rl key).dg.length) eB4], .row (.slice AB4 ((apS c rl key).length) cB4) 5 1 ((apS c rl key).length) (bv (apS c rl key)), .row (.slice DB4 ((apC c rl key).dg.length) eB4) 5 1 ((apC c rl key).dg.length) (bv (apC c rl key).dg), .abs wn.heap.size (fun w => Cod w wn.heap.size), .row (.slice A2 c.dg.length c2) 5 1 c.dg.length (bv c.dg), .blk g12 45 [.int .i64 c.v, .int .i64 c.run, .int .i64 c.n, .slice A2 c.dg.length c2]] ++ ex)) rfl ?_
     refine TL.as_ ?_
     refine TL.as_ ?_
     refine TL.end_ (TX.then_ (TC.seq_ (TC.region ?_)))
     refine TL.val rfl rfl rfl (pm_loadV (k := 5) (i := 0) (n := 4) (v := .agg #[.int .i64 c.v, .int .i64 c.run, .int .i64 c.n, .slice A2 c.dg.length c2]) rfl rfl jlwag45 jlwsz45 rfl (by show 4 ≤ 4; decide) rfl) ?_
     refine TL.mv ?_
     refine TL.mv ?_
     refine TL.pcallPm (α := SegY (apC c rl key) (apS c rl key)) (fun y => .tuple #[.agg #[.int .i64 ((apC c rl key).v), .int .i64 ((apC c rl key).run), .int .i64 ((apC c rl key).n), .slice y.1.2.1 ((apC c rl key).dg.length) y.1.2.2], .slice y.1.1.1 ((apS c rl key).length) y.1.1.2, .int .i64 (apE c rl)]) (fun y => [.row (.slice y.1.1.1 ((apS c rl key).length) y.1.1.2) 5 1 ((apS c rl key).length) (bv (apS c rl key)), .row (.slice y.1.2.1 ((apC c rl key).dg.length) y.1.2.2) 5 1 ((apC c rl key).dg.length) (bv (apC c rl key).dg)]) rfl rfl rfl rfl rfl Tryd.func37 jlwnm37 jlwbd37 (fun w1 hw => (rappend_any A2 _ c2 c Al cl rl A3 n3 c3 key w1 ((hb3n.below hw.bel).more hw.bel.size) (by omega) (byt_own (hw.at_ (k := 4) rfl) hcb) (lst_reads hw 6 rfl hlst) (by omega) (by omega) (by omega) (by omega) hok ).mono fun e w2 h => h.use) ?_
     rintro ⟨⟨⟨AB5, cB5⟩, ⟨DB5, eB5⟩⟩, ⟨hAB51, hAB52⟩, ⟨hDB51, hDB52⟩⟩
     dsimp only [List.cons_append, List.nil_append]
     dsimp only at hAB51 hAB52 hDB51 hDB52
     iterate 4 (first | refine TL.ex ?_ | refine TL.mv ?_)
     refine TL.pnew rfl rfl rfl (exec_alloc (cs := [.int .i64 0, .int .i64 0, .int .i64 0, .slice none 0 0]) rfl jlwzv45 rfl) (fun g23 => ?_)
     refine TL.pstore (k := 0) (vs := [.int .i64 ((apC c rl key).v), .int .i64 ((apC c rl key).run), .int .i64 ((apC c rl key).n), .slice DB5 ((apC c rl key).dg.length) eB5]) rfl rfl rfl rfl rfl rfl rfl jlwsz45 jlwone_i64i64i64s (by show 4 ≤ 4; decide) (L' := ([.blk g23 45 [.int .i64 ((apC c rl key).v), .int .i64 ((apC c rl key).run), .int .i64 ((apC c rl key).n), .slice DB5 ((apC c rl key).dg.length) eB5], .row (.slice AB5 ((apS c rl key).length) cB5) 5 1 ((apS c rl key).length) (bv (apS c rl key)), .row (.slice DB5 ((apC c rl key).dg.length) eB5) 5 1 ((apC c rl key).dg.length) (bv (apC c rl key).dg), .blk g20 45 [.int .i64 ((apC c rl key).v), .int .i64 ((apC c rl key).run), .int .i64 ((apC c rl key).n), .slice DB4 ((apC c rl key).dg.length) eB4], .row (.slice AB4 ((apS c rl key).length) cB4) 5 1 ((apS c rl key).length) (bv (apS c rl key)), .row (.slice DB4 ((apC c rl key).dg.length) eB4) 5 1 ((apC c rl key).dg.length) (bv (apC c rl key).dg), .abs wn.heap.size (fun w => Cod w wn.heap.size), .row (.slice A2 c.dg.length c2) 5 1 c.dg.length (bv c.dg), .blk g12 45 [.int .i64 c.v, .int .i64 c.run, .int .i64 c.n, .slice A2 c.dg.length c2]] ++ ex)) rfl ?_
     refine TL.as_ ?_
     refine TL.as_ ?_
     refine TL.end_ (TX.then_ (TC.seq_ (TC.seq_ (TC.region ?_))))
     refine TL.mv ?_
     refine TL.mv ?_
     refine TL.val rfl rfl rfl (gives_bin rfl rfl rfl (fun w => bin_neq_f (rfl) w)) ?_
     refine TL.mv ?_
     refine TL.gu ?_
     refine TL.val rfl rfl rfl (pm_loadV (k := 3) (i := 0) (n := 4) (v := .agg #[.int .i64 ((apC c rl key).v), .int .i64 ((apC c rl key).run), .int .i64 ((apC c rl key).n), .slice DB4 ((apC c rl key).dg.length) eB4]) rfl rfl jlwag45 jlwsz45 rfl (by show 4 ≤ 4; decide) rfl) ?_
     refine TL.gu ?_
     refine TL.val rfl rfl rfl (pm_loadV (k := 0) (i := 0) (n := 4) (v := .agg #[.int .i64 ((apC c rl key).v), .int .i64 ((apC c rl key).run), .int .i64 ((apC c rl key).n), .slice DB5 ((apC c rl key).dg.length) eB5]) rfl rfl jlwag45 jlwsz45 rfl (by show 4 ≤ 4; decide) rfl) ?_
     refine TL.gu ?_
     refine TL.pcall1 (r := .bool true) rfl rfl rfl rfl rfl Tryd.func26 jlwnm26 jlwbd26 (fun w1 hw => retb_lit (decide_eq_true rfl) (samechain_any (apC c rl key) (apC c rl key) DB4 _ _ DB5 _ _ w1 (byt_own (hw.at_ (k := 5) rfl) (apC_bs _ _ _)) (byt_own (hw.at_ (k := 2) rfl) (apC_bs _ _ _)) (apC_le _ _ _) (apC_le _ _ _))) ?_
     iterate 9 (first | refine TL.gu ?_ | refine TL.mv ?_ | refine TL.pk ?_ | refine TL.val rfl rfl rfl (gives_boolnot rfl rfl) ?_)
     refine TL.pcall1 (r := .bool true) rfl rfl rfl rfl rfl Tryd.func16 jlwnm16 jlwbd16 (fun w1 hw => retb_lit (decide_eq_true rfl) ((requal_any _ _ _ _ _ _ (apS c rl key) (apS c rl key) w1 w1.heap.size (byt_own (hw.at_ (k := 4) rfl) (apS_bs hcb _ _)) (byt_own (hw.at_ (k := 1) rfl) (apS_bs hcb _ _)) (by omega) (by omega)).mono fun e w2 ⟨h1, q, h2⟩ => ⟨h1, h2 ▸ drewN_below q⟩)) ?_
     refine TL.gu ?_
     refine TL.val rfl rfl rfl (gives_boolnot rfl rfl) ?_
     refine TL.pk ?_
     refine TL.end_ (TX.then_ (TC.condF rfl (TC.skip_ (TX.then_ (TC.seq_ (TC.region ?_))))))
     refine TL.mv ?_
     refine TL.vsplit rfl rfl rfl (gives_bin rfl rfl rfl (fun w => bin_eql w)) (fun h146 => ?_) (fun h146 => ?_)
     ·have q146 := of_decide_eq_true h146
      have hE0 : apE c rl = 0 := q146
      refine TL.end_ (TX.then_ (TC.condT rfl (TC.region ?_)))
      refine TL.val rfl rfl rfl (pm_loadV (k := 0) (i := 0) (n := 4) (v := .agg #[.int .i64 ((apC c rl key).v), .int .i64 ((apC c rl key).run), .int .i64 ((apC c rl key).n), .slice DB5 ((apC c rl key).dg.length) eB5]) rfl rfl jlwag45 jlwsz45 rfl (by show 4 ≤ 4; decide) rfl) ?_
      refine TL.pstore (k := 8) (vs := [.int .i64 ((apC c rl key).v), .int .i64 ((apC c rl key).run), .int .i64 ((apC c rl key).n), .slice DB5 ((apC c rl key).dg.length) eB5]) rfl rfl rfl rfl rfl rfl rfl jlwsz45 jlwone_i64i64i64s (by show 4 ≤ 4; decide) (L' := ([.blk g23 45 [.int .i64 ((apC c rl key).v), .int .i64 ((apC c rl key).run), .int .i64 ((apC c rl key).n), .slice DB5 ((apC c rl key).dg.length) eB5], .row (.slice AB5 ((apS c rl key).length) cB5) 5 1 ((apS c rl key).length) (bv (apS c rl key)), .row (.slice DB5 ((apC c rl key).dg.length) eB5) 5 1 ((apC c rl key).dg.length) (bv (apC c rl key).dg), .blk g20 45 [.int .i64 ((apC c rl key).v), .int .i64 ((apC c rl key).run), .int .i64 ((apC c rl key).n), .slice DB4 ((apC c rl key).dg.length) eB4], .row (.slice AB4 ((apS c rl key).length) cB4) 5 1 ((apS c rl key).length) (bv (apS c rl key)), .row (.slice DB4 ((apC c rl key).dg.length) eB4) 5 1 ((apC c rl key).dg.length) (bv (apC c rl key).dg), .abs wn.heap.size (fun w => Cod w wn.heap.size), .row (.slice A2 c.dg.length c2) 5 1 c.dg.length (bv c.dg), .blk g12 45 [.int .i64 ((apC c rl key).v), .int .i64 ((apC c rl key).run), .int .i64 ((apC c rl key).n), .slice DB5 ((apC c rl key).dg.length) eB5]] ++ ex)) rfl ?_
      refine TL.end_ (TX.in_normal (TX.then_ (TC.region ?_)))
      refine TL.mv ?_
      refine TL.val rfl rfl rfl (gives_bin rfl rfl rfl (fun w => bin_add_ (r := ((k + 1 : Nat) : Int)) (by simp only [IntKind.wrap_i64]; omega) w)) ?_
      refine TL.as_ ?_
      refine TL.end_ ?_
      exact TX.round (⟨((k + 1, (apC c rl key)), (DB5, eB5)), by show k + 1 ≤ 4; omega, apC_inv hE0, hDB51, hDB52⟩) (by show 4 - (k + 1) < 4 - k; omega) ⟨rfl, rfl, rfl, rfl, rfl, trivial⟩ (fun w1 hw => hw.pick [6, 2, 8] (by decide) rfl)
     ·have q146 := of_decide_eq_false h146
      refine TL.end_ (TX.then_ (TC.condF rfl (TC.skip_ (TX.in_normal (TX.then_ (TC.region ?_))))))
      refine TL.mv ?_
      refine TL.val rfl rfl rfl (gives_bin rfl rfl rfl (fun w => bin_add_ (r := ((k + 1 : Nat) : Int)) (by simp only [IntKind.wrap_i64]; omega) w)) ?_
      refine TL.as_ ?_
      refine TL.end_ ?_
      exact TX.round (⟨((k + 1, c), (A2, c2)), by show k + 1 ≤ 4; omega, hci, hd1, hd2⟩) (by show 4 - (k + 1) < 4 - k; omega) ⟨rfl, rfl, rfl, rfl, rfl, trivial⟩ (fun w1 hw => hw.pick [6, 7, 8] (by decide) rfl)
   ·have q90 := of_decide_eq_false h90
    refine TL.end_ (TX.then_ (TC.condF rfl (TC.exit_ (TX.then_exit (TX.then_exit (TX.in_same (TX.then_ (TC.seq_ (TC.region ?_)))))))))
    refine TL.as_ ?_
    refine TL.end_ (TX.then_ (TC.ret_ ?_))
    exact ret_tmp Tryd.results7 rfl (fun w1 hw => ⟨rfl, hwn.bel.trans (hw.bel.mono hwn.bel.size)⟩)
end Go.Proofs.YtmeaeeehnkcblaaDoor

namespace Go.Proofs.YtmeaeeehnkcblaaDoor
open Go.ChangeShapes Go.WideShapes Go.RowKit
set_option linter.unusedVariables false
set_option linter.unusedSimpArgs false
set_option linter.constructorNameAsVariable false
set_option maxRecDepth 20000
theorem cell_of_cells {w : World} {base n : Nat} {a : Addr} {cs : List Value} (h : w.cells? base a n = some cs) (j : Nat) (u : Value) (hu : cs[j]? = some u) : w.cell? (a.add j) = some u := by
 unfold World.cells? at h
 split at h
 ·have hl := mapM_some_length h
  have hj := (List.getElem?_eq_some_iff.1 hu).1
  rw [List.length_range] at hl
  have := mapM_some_get h j j (by rw [List.getElem?_range (by omega)])
  exact this.trans hu
 ·cases h
theorem fields6 {H : Type} {enc : TypeId × Value → H} {P : Program} {w : World} {base : Nat} {spare : Nat → Bool} {held : Bool} {t : TypeId} {f0 f1 f2 f3 f4 f5 : Field} {fuel : Nat} {cs : List Value} {x : DataW H × List MemPlace} (hs : P.underlying t = some (.struct #[f0, f1, f2, f3, f4, f5])) (h : DataW.trod enc P w base spare held fuel t cs = some x) : ∃ (n : Nat) (y0 y1 y2 y3 y4 y5 : DataW H × List MemPlace), cs.length = P.cellsOf t ∧ DataW.trod enc P w base spare held n f0.type ((cs.drop f0.offset).take (P.cellsOf f0.type)) = some y0 ∧ DataW.trod enc P w base spare held n f1.type ((cs.drop f1.offset).take (P.cellsOf f1.type)) = some y1 ∧ DataW.trod enc P w base spare held n f2.type ((cs.drop f2.offset).take (P.cellsOf f2.type)) = some y2 ∧ DataW.trod enc P w base spare held n f3.type ((cs.drop f3.offset).take (P.cellsOf f3.type)) = some y3 ∧ DataW.trod enc P w base spare held n f4.type ((cs.drop f4.offset).take (P.cellsOf f4.type)) = some y4 ∧ DataW.trod enc P w base spare held n f5.type ((cs.drop f5.offset).take (P.cellsOf f5.type)) = some y5 := by
 obtain ⟨xs, n, _, _, hl, hlen, hf⟩ := DataW.trod_struct hs h
 match xs, hlen with
 | [y0, y1, y2, y3, y4, y5], _ => exact ⟨n, y0, y1, y2, y3, y4, y5, hl, hf 0 f0 rfl, hf 1 f1 rfl, hf 2 f2 rfl, hf 3 f3 rfl, hf 4 f4 rfl, hf 5 f5 rfl⟩
theorem fields12 {H : Type} {enc : TypeId × Value → H} {P : Program} {w : World} {base : Nat} {spare : Nat → Bool} {held : Bool} {t : TypeId} {f0 f1 f2 f3 f4 f5 f6 f7 f8 f9 f10 f11 : Field} {fuel : Nat} {cs : List Value} {x : DataW H × List MemPlace} (hs : P.underlying t = some (.struct #[f0, f1, f2, f3, f4, f5, f6, f7, f8, f9, f10, f11])) (h : DataW.trod enc P w base spare held fuel t cs = some x) : ∃ (n : Nat) (y0 y1 y2 y3 y4 y5 y6 y7 y8 y9 y10 y11 : DataW H × List MemPlace), cs.length = P.cellsOf t ∧ DataW.trod enc P w base spare held n f0.type ((cs.drop f0.offset).take (P.cellsOf f0.type)) = some y0 ∧ DataW.trod enc P w base spare held n f1.type ((cs.drop f1.offset).take (P.cellsOf f1.type)) = some y1 ∧ DataW.trod enc P w base spare held n f2.type ((cs.drop f2.offset).take (P.cellsOf f2.type)) = some y2 ∧ DataW.trod enc P w base spare held n f3.type ((cs.drop f3.offset).take (P.cellsOf f3.type)) = some y3 ∧ DataW.trod enc P w base spare held n f4.type ((cs.drop f4.offset).take (P.cellsOf f4.type)) = some y4 ∧ DataW.trod enc P w base spare held n f5.type ((cs.drop f5.offset).take (P.cellsOf f5.type)) = some y5 ∧ DataW.trod enc P w base spare held n f6.type ((cs.drop f6.offset).take (P.cellsOf f6.type)) = some y6 ∧ DataW.trod enc P w base spare held n f7.type ((cs.drop f7.offset).take (P.cellsOf f7.type)) = some y7 ∧ DataW.trod enc P w base spare held n f8.type ((cs.drop f8.offset).take (P.cellsOf f8.type)) = some y8 ∧ DataW.trod enc P w base spare held n f9.type ((cs.drop f9.offset).take (P.cellsOf f9.type)) = some y9 ∧ DataW.trod enc P w base spare held n f10.type ((cs.drop f10.offset).take (P.cellsOf f10.type)) = some y10 ∧ DataW.trod enc P w base spare held n f11.type ((cs.drop f11.offset).take (P.cellsOf f11.type)) = some y11 := by
 obtain ⟨xs, n, _, _, hl, hlen, hf⟩ := DataW.trod_struct hs h
 match xs, hlen with
 | [y0, y1, y2, y3, y4, y5, y6, y7, y8, y9, y10, y11], _ => exact ⟨n, y0, y1, y2, y3, y4, y5, y6, y7, y8, y9, y10, y11, hl, hf 0 f0 rfl, hf 1 f1 rfl, hf 2 f2 rfl, hf 3 f3 rfl, hf 4 f4 rfl, hf 5 f5 rfl, hf 6 f6 rfl, hf 7 f7 rfl, hf 8 f8 rfl, hf 9 f9 rfl, hf 10 f10 rfl, hf 11 f11 rfl⟩
section
variable {H : Type} {enc : TypeId × Value → H} {W : World} {base : Nat} {spare : Nat → Bool} {held : Bool}
theorem cInt : Tryd.prog.cellsOf 3 = 1 := by kernel_rfl
theorem cBool : Tryd.prog.cellsOf 4 = 1 := by kernel_rfl
theorem cAddr : Tryd.prog.cellsOf 23 = 1 := by kernel_rfl
theorem cAns : Tryd.prog.cellsOf 25 = 6 := by kernel_rfl
theorem cRes : Tryd.prog.cellsOf 27 = 17 := by kernel_rfl
theorem ans_trod {fuel : Nat} {c0 c1 c2 c3 c4 c5 : Value} {x : DataW H × List MemPlace} (h : DataW.trod enc Tryd.prog W base spare held fuel 25 [c0, c1, c2, c3, c4, c5] = some x) : ∃ (s k c l i q : Int), c0 = .int .u32 s ∧ c1 = .int .i64 k ∧ c2 = .int .i64 c ∧ c3 = .int .i64 l ∧ c4 = .int .i64 i ∧ c5 = .int .i64 q ∧ 0 ≤ s ∧ s ≤ 4294967295 := by
 obtain ⟨n, y0, y1, y2, y3, y4, y5, hl, h0, h1, h2, h3, h4, h5⟩ := fields6 Tryd.underlying25 h
 dsimp only at h0
 rw [cAddr] at h0
 obtain ⟨x0, qx0, _, wx0⟩ := DataW.trod_int (x := y0) Tryd.underlying23 h0
 have qx0 : [c0] = [Value.int .u32 x0] := qx0
 rw [List.cons.injEq] at qx0
 obtain ⟨rfl, _⟩ := qx0
 dsimp only at h1
 rw [cInt] at h1
 obtain ⟨x1, qx1, _, wx1⟩ := DataW.trod_int (x := y1) Tryd.underlying3 h1
 have qx1 : [c1] = [Value.int .i64 x1] := qx1
 rw [List.cons.injEq] at qx1
 obtain ⟨rfl, _⟩ := qx1
 dsimp only at h2
 rw [cInt] at h2
 obtain ⟨x2, qx2, _, wx2⟩ := DataW.trod_int (x := y2) Tryd.underlying3 h2
 have qx2 : [c2] = [Value.int .i64 x2] := qx2
 rw [List.cons.injEq] at qx2
 obtain ⟨rfl, _⟩ := qx2
 dsimp only at h3
 rw [cInt] at h3
 obtain ⟨x3, qx3, _, wx3⟩ := DataW.trod_int (x := y3) Tryd.underlying3 h3
 have qx3 : [c3] = [Value.int .i64 x3] := qx3
 rw [List.cons.injEq] at qx3
 obtain ⟨rfl, _⟩ := qx3
 dsimp only at h4
 rw [cInt] at h4
 obtain ⟨x4, qx4, _, wx4⟩ := DataW.trod_int (x := y4) Tryd.underlying3 h4
 have qx4 : [c4] = [Value.int .i64 x4] := qx4
 rw [List.cons.injEq] at qx4
 obtain ⟨rfl, _⟩ := qx4
 dsimp only at h5
 rw [cInt] at h5
 obtain ⟨x5, qx5, _, wx5⟩ := DataW.trod_int (x := y5) Tryd.underlying3 h5
 have qx5 : [c5] = [Value.int .i64 x5] := qx5
 rw [List.cons.injEq] at qx5
 obtain ⟨rfl, _⟩ := qx5
 exact ⟨x0, x1, x2, x3, x4, x5, rfl, rfl, rfl, rfl, rfl, rfl, (wf_u32 wx0).1, (wf_u32 wx0).2⟩
theorem res_trod {fuel : Nat} {cs : List Value} {x : DataW H × List MemPlace} (h : DataW.trod enc Tryd.prog W base spare held fuel 27 cs = some x) : ∃ r : Rs, cs = r.cells ∧ r.Ok := by
 obtain ⟨n, y0, y1, y2, y3, y4, y5, y6, y7, y8, y9, y10, y11, hl, h0, h1, h2, h3, h4, h5, h6, h7, h8, h9, h10, h11⟩ := fields12 Tryd.underlying27 h
 rw [cRes] at hl
 match cs, hl with
 | [c0, c1, c2, c3, c4, c5, c6, c7, c8, c9, c10, c11, c12, c13, c14, c15, c16], _ =>
  dsimp only at h0
  rw [cInt] at h0
  obtain ⟨x0, qx0, _, wx0⟩ := DataW.trod_int (x := y0) Tryd.underlying3 h0
  have qx0 : [c0] = [Value.int .i64 x0] := qx0
  rw [List.cons.injEq] at qx0
  obtain ⟨rfl, _⟩ := qx0
  dsimp only at h1
  rw [cInt] at h1
  obtain ⟨x1, qx1, _, wx1⟩ := DataW.trod_int (x := y1) Tryd.underlying3 h1
  have qx1 : [c1] = [Value.int .i64 x1] := qx1
  rw [List.cons.injEq] at qx1
  obtain ⟨rfl, _⟩ := qx1
  dsimp only at h2
  rw [cInt] at h2
  obtain ⟨x2, qx2, _, wx2⟩ := DataW.trod_int (x := y2) Tryd.underlying3 h2
  have qx2 : [c2] = [Value.int .i64 x2] := qx2
  rw [List.cons.injEq] at qx2
  obtain ⟨rfl, _⟩ := qx2
  dsimp only at h3
  rw [cInt] at h3
  obtain ⟨x3, qx3, _, wx3⟩ := DataW.trod_int (x := y3) Tryd.underlying3 h3
  have qx3 : [c3] = [Value.int .i64 x3] := qx3
  rw [List.cons.injEq] at qx3
  obtain ⟨rfl, _⟩ := qx3
  dsimp only at h4
  rw [cAddr] at h4
  obtain ⟨x4, qx4, _, wx4⟩ := DataW.trod_int (x := y4) Tryd.underlying23 h4
  have qx4 : [c4] = [Value.int .u32 x4] := qx4
  rw [List.cons.injEq] at qx4
  obtain ⟨rfl, _⟩ := qx4
  dsimp only at h5
  rw [cInt] at h5
  obtain ⟨x5, qx5, _, wx5⟩ := DataW.trod_int (x := y5) Tryd.underlying3 h5
  have qx5 : [c5] = [Value.int .i64 x5] := qx5
  rw [List.cons.injEq] at qx5
  obtain ⟨rfl, _⟩ := qx5
  dsimp only at h6
  rw [cInt] at h6
  obtain ⟨x6, qx6, _, wx6⟩ := DataW.trod_int (x := y6) Tryd.underlying3 h6
  have qx6 : [c6] = [Value.int .i64 x6] := qx6
  rw [List.cons.injEq] at qx6
  obtain ⟨rfl, _⟩ := qx6
  dsimp only at h7
  rw [cInt] at h7
  obtain ⟨x7, qx7, _, wx7⟩ := DataW.trod_int (x := y7) Tryd.underlying3 h7
  have qx7 : [c7] = [Value.int .i64 x7] := qx7
  rw [List.cons.injEq] at qx7
  obtain ⟨rfl, _⟩ := qx7
  dsimp only at h8
  rw [cBool] at h8
  obtain ⟨x8, qx8, _⟩ := DataW.trod_bool (x := y8) Tryd.underlying4 h8
  have qx8 : [c8] = [Value.bool x8] := qx8
  rw [List.cons.injEq] at qx8
  obtain ⟨rfl, _⟩ := qx8
  dsimp only at h9
  rw [cBool] at h9
  obtain ⟨x9, qx9, _⟩ := DataW.trod_bool (x := y9) Tryd.underlying4 h9
  have qx9 : [c9] = [Value.bool x9] := qx9
  rw [List.cons.injEq] at qx9
  obtain ⟨rfl, _⟩ := qx9
  dsimp only at h10
  rw [cInt] at h10
  obtain ⟨x10, qx10, _, wx10⟩ := DataW.trod_int (x := y10) Tryd.underlying3 h10
  have qx10 : [c10] = [Value.int .i64 x10] := qx10
  rw [List.cons.injEq] at qx10
  obtain ⟨rfl, _⟩ := qx10
  dsimp only at h11
  rw [cAns] at h11
  obtain ⟨s, k, c, l, i, q, rfl, rfl, rfl, rfl, rfl, rfl, hs0, hs1⟩ := ans_trod (x := y11) (c0 := c11) (c1 := c12) (c2 := c13) (c3 := c14) (c4 := c15) (c5 := c16) h11
  exact ⟨⟨x0, x1, x2, x3, x4, x5, x6, x7, x8, x9, x10, s, k, c, l, i, q⟩, rfl, (wf_u32 wx4).1, (wf_u32 wx4).2, hs0, hs1⟩
theorem open_res {r : Reach} {b0 : Nat} {v : Value} {d : DataW H} {p : List MemPlace} (hv : Value.okWide Tryd.prog W r b0 27 v) (h : DataW.Trod enc Tryd.prog W base spare held 27 v d p) : ∃ x : Rs, v = .agg x.cells.toArray ∧ x.Ok := by
 obtain ⟨cs, rfl, hsz⟩ := okWide_struct Tryd.underlying27 hv
 obtain ⟨fuel, hf⟩ := h
 obtain ⟨x, hx, ho⟩ := res_trod hf
 refine ⟨x, ?_, ho⟩
 have hx2 : cs.toList = x.cells := hx
 rw [← hx2]
end
theorem open_reslice {H : Type} {enc : TypeId × Value → H} {W : World} {b0 : Nat} {v : Value} {d : DataW H} {p : List MemPlace} (hok : Value.okWide Tryd.prog W .any b0 33 v) (h : DataW.Trod enc Tryd.prog W 0 (fun _ => true) true 33 v d p) :
  ∃ A c l, v = .slice A l.length c ∧ l.length ≤ c ∧ c ≤ maxLen ∧ Reads W W.heap.size 17 A l.length (rcs l) ∧ ∀ r ∈ l, r.Ok := by
 obtain ⟨a0, len0, cap0, rfl⟩ := okWide_slice Tryd.underlying33 hok
 obtain ⟨fuel, hf⟩ := h
 rcases DataW.trod_slice Tryd.underlying33 hf with ⟨hcs, _⟩ | ⟨a, len, cap, elems, rest, n, _, hcs, _, _, hlc, hcm, hel, hget, _, _⟩
 ·simp [Value.cells] at hcs
  obtain ⟨rfl, rfl, rfl⟩ := hcs
  exact ⟨none, 0, [], rfl, Nat.le_refl _, Nat.zero_le _, ⟨rfl, fun h => absurd h (by decide)⟩, fun r hr => by cases hr⟩
 ·simp [Value.cells] at hcs
  obtain ⟨rfl, rfl, rfl⟩ := hcs
  have key : ∀ i, i < len0 → ∃ r : Rs, W.cells? 0 (a.add (i * 17)) 17 = some r.cells ∧ r.Ok := fun i hi => by
   have hi2 := hget i hi
   rw [cRes, List.getElem?_eq_getElem (by omega), Option.bind_eq_some_iff] at hi2
   obtain ⟨cs, h1, h2⟩ := hi2
   obtain ⟨r, rfl, ho⟩ := res_trod h2
   exact ⟨r, h1, ho⟩
  have pick : ∀ m, m ≤ len0 → ∃ l : List Rs, l.length = m ∧ (∀ r ∈ l, r.Ok) ∧ ∀ i r, l[i]? = some r → W.cells? 0 (a.add (i * 17)) 17 = some r.cells := fun m => by
   induction m with
   | zero => exact fun _ => ⟨[], rfl, fun r hr => absurd hr List.not_mem_nil, fun i r hr => by simp at hr⟩
   | succ m ih =>
    intro hm
    obtain ⟨l, h1, h2, h3⟩ := ih (by omega)
    obtain ⟨r, h4, h5⟩ := key m (by omega)
    refine ⟨l ++ [r], by rw [List.length_append, h1]; rfl, fun q hq => (List.mem_append.1 hq).elim (h2 q) (fun h => by rw [List.mem_singleton] at h; subst h; exact h5), fun i q hq => ?_⟩
    rcases Nat.lt_or_ge i l.length with hi | hi
    ·rw [List.getElem?_append_left hi] at hq; exact h3 i q hq
    ·rw [List.getElem?_append_right hi] at hq
     obtain ⟨h6, h7⟩ := List.getElem?_eq_some_iff.1 hq
     simp only [List.length_singleton] at h6
     obtain rfl : i = m := by omega
     have h8 : r = q := by simpa [h1] using h7
     rw [← h8]; exact h4
  obtain ⟨l, h1, h2, h3⟩ := pick len0 (Nat.le_refl _)
  subst h1
  refine ⟨some a, cap0, l, rfl, hlc, hcm, ⟨rcs_len l, fun hn => ⟨a, rfl, ?_, fun j u hu => ?_⟩⟩, h2⟩
  ·have h4 := cell_of_cells (h3 0 l[0] (List.getElem?_eq_getElem hn)) 0 _ rfl
   have := World.block_lt_of_cell? W _ h4
   rwa [block_of_add, block_of_add] at this
  ·have hj : j < l.length * 17 := by have := (List.getElem?_eq_some_iff.1 hu).1; rwa [rcs_len] at this
   have hi : j / 17 < l.length := by omega
   have h4 := rcs_ix (List.getElem?_eq_getElem hi) (j % 17) (by omega)
   rw [show j / 17 * 17 + j % 17 = j by omega, hu] at h4
   have h5 := cell_of_cells (h3 _ _ (List.getElem?_eq_getElem hi)) (j % 17) u h4.symm
   rw [Addr.add_add, show j / 17 * 17 + j % 17 = j by omega] at h5
   exact h5
end Go.Proofs.YtmeaeeehnkcblaaDoor
