/-
  Texts of the proof, joined: JrRec, JrLB.
-/
import Derived.Test.YtmeaeeehnkcblaaDoorPq5
namespace Go.Proofs.YtmeaeeehnkcblaaDoor
open Go.RowKit
set_option linter.unusedVariables false
set_option linter.unusedSimpArgs false
set_option maxRecDepth 20000
theorem acc_cnt {c : Chn} {l key : List Int} {p m : Nat} (h3 : accE c ((l.drop p).take m) key = 0) (hb : Bs l) : (accL c ((l.drop p).take m) key).length ≤ m := by
 rw [(acR_ok h3).2.1, rlB_len]
 have hw : lenE ((l.drop p).take m) = 0 := Decidable.byContradiction fun hh => by rw [acc_len hh] at h3; exact hh h3
 have hd2 := len_dec hw
 obtain ⟨_, z0, z1⟩ := byte_at (show Bs ((l.drop p).take m) from (hb.drop p).take m) 8 (by omega)
 have hlt : ¬ (((l.drop p).take m).length : Int) < lenN ((l.drop p).take m) := fun hh => by rw [acc_short hw hh] at h3; exact absurd h3 (by decide)
 have hl2 : ((l.drop p).take m).length ≤ m := by rw [List.length_take]; omega
 unfold cnt
 omega
theorem jreczv45 (w : World) : (zeroValue 45).run Tryd.prog w = .ok (.agg #[.int .i64 0, .int .i64 0, .int .i64 0, .slice none 0 0]) w := rfl
theorem jrecnm24 : (Tryd.f24.name == "runtime.NumGoroutine") = false := by decide
theorem jrecbd24 : Tryd.f24.body.isNone = false := rfl
theorem jrecag45 (w : World) : (isAgg 45).run Tryd.prog w = .ok true w := rfl
theorem jrecsz45 (w : World) : (sizeOf 45).run Tryd.prog w = .ok 4 w := rfl
theorem jrecone_i64i64i64s {a0 : Int} {a1 : Int} {a2 : Int} {a3 : Option Addr} {n3 c3 : Nat} : ∀ u ∈ [(.int .i64 a0 : Value), .int .i64 a1, .int .i64 a2, .slice a3 n3 c3], u.oneCell' = true := by
 intro u hu
 simp only [List.mem_cons, List.not_mem_nil, or_false] at hu
 rcases hu with rfl | rfl | rfl | rfl <;> rfl
theorem jrecnm22 : (Tryd.f22.name == "runtime.NumGoroutine") = false := by decide
theorem jrecbd22 : Tryd.f22.body.isNone = false := rfl
theorem jrecel33 : Elem Tryd.prog 33 27 17 128 := Elem.mk' Tryd.underlying33 (z := .agg #[.int .i64 0, .int .i64 0, .int .i64 0, .int .i64 0, .int .u32 0, .int .i64 0, .int .i64 0, .int .i64 0, .bool false, .bool false, .int .i64 0, .int .u32 0, .int .i64 0, .int .i64 0, .int .i64 0, .int .i64 0, .int .i64 0]) (by kernel_rfl) rfl (by omega) (by omega)
theorem jrecnm25 : (Tryd.f25.name == "runtime.NumGoroutine") = false := by decide
theorem jrecbd25 : Tryd.f25.body.isNone = false := rfl
theorem jrecnm23 : (Tryd.f23.name == "runtime.NumGoroutine") = false := by decide
theorem jrecbd23 : Tryd.f23.body.isNone = false := rfl
set_option maxHeartbeats 2000000 in
theorem recover_any (A1 : Option Addr) (n1 c1 : Nat) (l : List Int) (A2 : Option Addr) (n2 c2 : Nat) (key : List Int) (w : World) (hb1 : Byt w w.heap.size A1 n1 l) (hb2 : Byt w w.heap.size A2 n2 key) (hnc : n1 ≤ c1) (hn1l : n1 ≤ 1000000) (hn2l : n2 ≤ 1000000000) {ts tk : TypeId} (hst : Blk w 0 ts start8.cells) (hky : Blk w 1 tk (arrOf keysL)) :
  Calls Tryd.prog 32 #[.slice A1 n1 c1, .slice A2 n2 c2] w fun e w' => AccR (rcvF l key).1 (rcvF l key).2.1 ((rcvF l key).2.2 : Nat) w e w' := by
 obtain rfl : n1 = l.length := hb1.len.symm
 refine begin_ (vs := [.slice A1 l.length c1, .slice A2 n2 c2]) Tryd.func32 rfl rfl rfl ?_ (Pm.start w)
 refine TC.seq_ (TC.region ?_)
 refine TL.pnew rfl rfl rfl (exec_alloc (cs := [.int .i64 0, .int .i64 0, .int .i64 0, .slice none 0 0]) rfl jreczv45 rfl) (fun g4 => ?_)
 refine TL.as_ ?_
 refine TL.as_ ?_
 refine TL.end_ (TX.then_ (TC.seq_ (TC.region ?_)))
 refine TL.pnew rfl rfl rfl (exec_alloc (cs := [.int .i64 0, .int .i64 0, .int .i64 0, .slice none 0 0]) rfl jreczv45 rfl) (fun g7 => ?_)
 refine TL.end_ (TX.then_ (TC.seq_ (TC.region ?_)))
 refine TL.as_ ?_
 refine TL.end_ (TX.then_ (TC.seq_ (TC.region ?_)))
 refine TL.as_ ?_
 refine TL.end_ (TX.then_ (TC.block ?_))
 refine TC.nilrow 27 17 ?_
 refine TC.nilrow 5 1 ?_
 refine TC.loop_ (α := {y : (Chn × List Rs × Nat × Nat) × (Option Addr × Nat) × (Option Addr × Nat) // RcI l key y.1.1 y.1.2.1 y.1.2.2.1 y.1.2.2.2 y.2.1.2 y.2.2.2}) (fun y => [(0, .slice A1 l.length c1), (1, .slice A2 n2 c2), (4, .pointer (some ⟨g4, 0, none⟩)), (7, .pointer (some ⟨g7, 0, none⟩)), (8, .slice y.1.2.1.1 y.1.1.2.1.length y.1.2.1.2), (9, .int .i64 (y.1.1.2.2.1 : Nat))]) (fun y => Pm w [.row (.slice y.1.2.2.1 y.1.1.1.dg.length y.1.2.2.2) 5 1 y.1.1.1.dg.length (bv y.1.1.1.dg), .row (.slice y.1.2.1.1 y.1.1.2.1.length y.1.2.1.2) 27 17 y.1.1.2.1.length (rcs y.1.1.2.1), .blk g7 45 [.int .i64 y.1.1.1.v, .int .i64 y.1.1.1.run, .int .i64 y.1.1.1.n, .slice y.1.2.2.1 y.1.1.1.dg.length y.1.2.2.2], .blk g4 45 [.int .i64 0, .int .i64 0, .int .i64 0, .slice none 0 0]]) (fun y => y.1.1.2.2.2) (⟨((Chn.zero, [], 0, l.length + 1), (none, 0), (none, 0)), RcI.start l key⟩) ⟨rfl, rfl, rfl, rfl, rfl, rfl, trivial⟩ (fun w1 hw => hw) ?_
 rintro ⟨⟨⟨c, rl, p, f⟩, ⟨Ar, cr⟩, ⟨Ad, cd⟩⟩, h⟩
 dsimp only at h ⊢
 have hpl := h.pl
 have hdl : (l.drop p).length = l.length - p := List.length_drop ..
 refine TC.block (TC.seq_ (TC.region ?_))
 refine TL.mv ?_
 refine TL.mv ?_
 refine TL.val rfl rfl rfl (gives_sliceL (v := .slice (if c1 = p then A1 else A1.map (·.add p)) (l.length - p) (c1 - p)) rfl rfl rfl (fun w => cut_lo1 Tryd.underlying28 (fun w => rfl) A1 l.length c1 p rfl (by have := h.pl; omega) w)) ?_
 refine TL.pcall1 (r := .tuple #[.int .i64 (lenN (l.drop p)), .int .i64 (lenE (l.drop p))]) rfl rfl rfl rfl rfl Tryd.func24 jrecnm24 jrecbd24 (fun w1 hw => length_any (if c1 = p then A1 else A1.map (·.add p)) (l.length - p) (c1 - p) (l.drop p) w1 (((hb1.below hw.bel).more hw.bel.size).cut h.pl hnc) (by omega)) ?_
 iterate 5 (first | refine TL.as_ ?_ | refine TL.ex ?_ | refine TL.mv ?_)
 refine TL.end_ (TX.then_ (TC.seq_ (TC.seq_ (TC.region ?_))))
 refine TL.mv ?_
 refine TL.vsplit rfl rfl rfl (gives_bin rfl rfl rfl (fun w => bin_neq w)) (fun h22 => ?_) (fun h22 => ?_)
 ·have q22 := of_decide_eq_true h22
  have hR := h.stop (fun hh => q22 hh.1)
  iterate 8 (first | refine TL.of ?_ | refine TL.mv ?_ | refine TL.pk ?_)
  refine TL.end_ (TX.then_ (TC.condT rfl (TC.seq_ (TC.region ?_))))
  refine TL.val rfl rfl rfl (pm_loadV (k := 2) (i := 0) (n := 4) (v := .agg #[.int .i64 c.v, .int .i64 c.run, .int .i64 c.n, .slice Ad c.dg.length cd]) rfl rfl jrecag45 jrecsz45 rfl (by show 4 ≤ 4; decide) rfl) ?_
  refine TL.mv ?_
  refine TL.mv ?_
  refine TL.pstore (k := 3) (vs := [.int .i64 c.v, .int .i64 c.run, .int .i64 c.n, .slice Ad c.dg.length cd]) rfl rfl rfl rfl rfl rfl rfl jrecsz45 jrecone_i64i64i64s (by show 4 ≤ 4; decide) (L' := [.row (.slice Ad c.dg.length cd) 5 1 c.dg.length (bv c.dg), .row (.slice Ar rl.length cr) 27 17 rl.length (rcs rl), .blk g7 45 [.int .i64 c.v, .int .i64 c.run, .int .i64 c.n, .slice Ad c.dg.length cd], .blk g4 45 [.int .i64 c.v, .int .i64 c.run, .int .i64 c.n, .slice Ad c.dg.length cd]]) rfl ?_
  refine TL.as_ ?_
  refine TL.as_ ?_
  refine TL.end_ (TX.then_ (TC.ret_ (TX.then_ret (TX.in_ret (TX.then_ret (TX.in_ret ?_))))))
  exact ret_cell3 (k := 3) (v := .slice Ar rl.length cr) (v2 := .int .i64 (p : Nat)) Tryd.results32 rfl rfl rfl rfl Tryd.underlying45 rfl rfl (fun w1 hw => by rw [hR]; exact ⟨Ar, cr, Ad, cd, _, _, rfl, rfl, h.r1, h.r2, h.d1, h.d2, rfl, hw.pick [1, 0] (by decide) rfl⟩)
 ·have q22 := of_decide_eq_false h22
  have he0 : lenE (l.drop p) = 0 := Decidable.not_not.1 q22
  iterate 6 (first | refine TL.gu ?_ | refine TL.mv ?_)
  refine TL.val rfl rfl rfl (gives_len rfl Tryd.underlying28 rfl) ?_
  refine TL.gu ?_
  refine TL.mv ?_
  refine TL.gu ?_
  refine TL.val rfl rfl rfl (gives_bin rfl rfl rfl (fun w => bin_sub_ (r := ((l.length - p : Nat) : Int)) (by simp only [IntKind.wrap_i64]; omega) w)) ?_
  refine TL.gu ?_
  refine TL.vsplit rfl rfl rfl (gives_bin rfl rfl rfl (fun w => bin_gtr w)) (fun h29 => ?_) (fun h29 => ?_)
  ·have q29 := of_decide_eq_true h29
   have hR := h.stop (fun hh => by have := hh.2.1; omega)
   refine TL.pk ?_
   refine TL.end_ (TX.then_ (TC.condT rfl (TC.seq_ (TC.region ?_))))
   refine TL.val rfl rfl rfl (pm_loadV (k := 2) (i := 0) (n := 4) (v := .agg #[.int .i64 c.v, .int .i64 c.run, .int .i64 c.n, .slice Ad c.dg.length cd]) rfl rfl jrecag45 jrecsz45 rfl (by show 4 ≤ 4; decide) rfl) ?_
   refine TL.mv ?_
   refine TL.mv ?_
   refine TL.pstore (k := 3) (vs := [.int .i64 c.v, .int .i64 c.run, .int .i64 c.n, .slice Ad c.dg.length cd]) rfl rfl rfl rfl rfl rfl rfl jrecsz45 jrecone_i64i64i64s (by show 4 ≤ 4; decide) (L' := [.row (.slice Ad c.dg.length cd) 5 1 c.dg.length (bv c.dg), .row (.slice Ar rl.length cr) 27 17 rl.length (rcs rl), .blk g7 45 [.int .i64 c.v, .int .i64 c.run, .int .i64 c.n, .slice Ad c.dg.length cd], .blk g4 45 [.int .i64 c.v, .int .i64 c.run, .int .i64 c.n, .slice Ad c.dg.length cd]]) rfl ?_
   refine TL.as_ ?_
   refine TL.as_ ?_
   refine TL.end_ (TX.then_ (TC.ret_ (TX.then_ret (TX.in_ret (TX.then_ret (TX.in_ret ?_))))))
   exact ret_cell3 (k := 3) (v := .slice Ar rl.length cr) (v2 := .int .i64 (p : Nat)) Tryd.results32 rfl rfl rfl rfl Tryd.underlying45 rfl rfl (fun w1 hw => by rw [hR]; exact ⟨Ar, cr, Ad, cd, _, _, rfl, rfl, h.r1, h.r2, h.d1, h.d2, rfl, hw.pick [1, 0] (by decide) rfl⟩)
  ·have q29 := of_decide_eq_false h29
   obtain ⟨hd1, hd2, hd3⟩ := len_dec he0
   obtain ⟨_, hy0, hy1⟩ := byte_at (hb1.2.drop p) 8 (by omega)
   obtain ⟨m, hm⟩ : ∃ m : Nat, lenN (l.drop p) = (m : Nat) := ⟨(lenN (l.drop p)).toNat, by omega⟩
   have hmt : (lenN (l.drop p)).toNat = m := by omega
   have hml : m ≤ (l.drop p).length := by omega
   refine TL.pk ?_
   refine TL.end_ (TX.then_ (TC.condF rfl (TC.skip_ (TX.then_ (TC.seq_ ?_)))))
   refine TC.held (ls := #[Ff,Ff,Ff,Ff,Ff,Ff,Ff,Ff,Ff,Ff,Ff,Ff,Ff,Ff,Ff,Ff,Ff]) (Pm w [.row (.slice Ad c.dg.length cd) 5 1 c.dg.length (bv c.dg), .row (.slice Ar rl.length cr) 27 17 rl.length (rcs rl), .blk g7 45 [.int .i64 c.v, .int .i64 c.run, .int .i64 c.n, .slice Ad c.dg.length cd], .blk g4 45 [.int .i64 0, .int .i64 0, .int .i64 0, .slice none 0 0]]) (by kernel_rfl) rfl rfl (fun w hw => hw.drawn _) ?_
   refine TH.tk (listed' := #[Tt,Ff,Ff,Ff,Ff,Ff,Ff,Ff,Ff,Ff,Ff,Ff,Ff,Ff,Ff,Ff,Ff]) 0 rfl rfl rfl (pm_loadV (k := 2) (i := 0) (n := 4) (v := .agg #[.int .i64 c.v, .int .i64 c.run, .int .i64 c.n, .slice Ad c.dg.length cd]) rfl rfl jrecag45 jrecsz45 rfl (by show 4 ≤ 4; decide) rfl) (fun w1 hw => hw) ?_
   refine TH.tk (listed' := #[Tt,Tt,Ff,Ff,Ff,Ff,Ff,Ff,Ff,Ff,Ff,Ff,Ff,Ff,Ff,Ff,Ff]) 1 rfl rfl rfl (gives_move rfl rfl) (fun w1 hw => hw) ?_
   refine TH.tk (listed' := #[Tt,Tt,Tt,Ff,Ff,Ff,Ff,Ff,Ff,Ff,Ff,Ff,Ff,Ff,Ff,Ff,Ff]) 2 rfl rfl rfl (gives_move rfl rfl) (fun w1 hw => hw) ?_
   refine TH.tk (listed' := #[Tt,Tt,Tt,Tt,Ff,Ff,Ff,Ff,Ff,Ff,Ff,Ff,Ff,Ff,Ff,Ff,Ff]) 3 rfl rfl rfl (gives_move rfl rfl) (fun w1 hw => hw) ?_
   refine TH.tk (listed' := #[Tt,Tt,Tt,Tt,Tt,Ff,Ff,Ff,Ff,Ff,Ff,Ff,Ff,Ff,Ff,Ff,Ff]) 4 rfl rfl rfl (gives_move rfl rfl) (fun w1 hw => hw) ?_
   refine TH.tk (listed' := #[Tt,Tt,Tt,Tt,Tt,Tt,Ff,Ff,Ff,Ff,Ff,Ff,Ff,Ff,Ff,Ff,Ff]) 5 rfl rfl rfl (gives_bin rfl rfl rfl (fun w => bin_add_ (r := ((p + m : Nat) : Int)) (by simp only [IntKind.wrap_i64]; omega) w)) (fun w1 hw => hw) ?_
   refine TH.tk (listed' := #[Tt,Tt,Tt,Tt,Tt,Tt,Tt,Ff,Ff,Ff,Ff,Ff,Ff,Ff,Ff,Ff,Ff]) 6 rfl rfl rfl (gives_slice (v := .slice (if c1 = p then A1 else A1.map (·.add p)) m (c1 - p)) rfl rfl rfl rfl (fun w => cut_pA A1 l.length c1 p m (by omega) w)) (fun w1 hw => hw) ?_
   refine TH.tk (listed' := #[Tt,Tt,Tt,Tt,Tt,Tt,Tt,Tt,Ff,Ff,Ff,Ff,Ff,Ff,Ff,Ff,Ff]) 7 rfl rfl rfl (gives_move rfl rfl) (fun w1 hw => hw) ?_
   refine TH.two' (listed1 := #[Tt,Tt,Tt,Tt,Tt,Tt,Tt,Tt,Tt,Ff,Ff,Ff,Ff,Ff,Ff,Ff,Ff]) (listed2 := #[Tt,Tt,Tt,Tt,Tt,Tt,Tt,Tt,Ff,Ff,Ff,Ff,Ff,Tt,Ff,Ff,Ff]) 8 13 rfl rfl (by kernel_rfl) rfl rfl ?_ ?_
   ·refine TL.pcallPm (α := AccY (accC c ((l.drop p).take m) key) (accL c ((l.drop p).take m) key)) (fun y => .tuple #[.agg #[.int .i64 ((accC c ((l.drop p).take m) key).v), .int .i64 ((accC c ((l.drop p).take m) key).run), .int .i64 ((accC c ((l.drop p).take m) key).n), .slice y.1.2.1 ((accC c ((l.drop p).take m) key).dg.length) y.1.2.2], .slice y.1.1.1 ((accL c ((l.drop p).take m) key).length) y.1.1.2, .int .i64 (accE c ((l.drop p).take m) key)]) (fun y => [.row (.slice y.1.1.1 ((accL c ((l.drop p).take m) key).length) y.1.1.2) 27 17 ((accL c ((l.drop p).take m) key).length) (rcs (accL c ((l.drop p).take m) key)), .row (.slice y.1.2.1 ((accC c ((l.drop p).take m) key).dg.length) y.1.2.2) 5 1 ((accC c ((l.drop p).take m) key).dg.length) (bv (accC c ((l.drop p).take m) key).dg)]) rfl rfl rfl rfl rfl Tryd.func22 jrecnm22 jrecbd22 (fun w1 hw => (accept_any Ad _ cd c _ m (c1 - p) ((l.drop p).take m) A2 n2 c2 key w1 (byt_own (hw.at_ (k := 0) rfl) h.db) (byt_cutP ((hb1.below hw.bel).more hw.bel.size) (by omega) hnc) ((hb2.below hw.bel).more hw.bel.size) (by omega) (by omega) hn2l (by have := h.n0; omega) (by have := h.n1; omega) (hst.below hw.bel hst.lt) (hky.below hw.bel hky.lt)).mono fun e w2 h => h.use) ?_
    rintro ⟨⟨⟨AR, cR⟩, ⟨DR, eR⟩⟩, ⟨hAR1, hAR2⟩, ⟨hDR1, hDR2⟩⟩
    dsimp only [List.cons_append, List.nil_append]
    dsimp only at hAR1 hAR2 hDR1 hDR2
    refine TL.end_ ?_
    refine TX.held (fun w1 hw => hw.pick [2, 3, 4, 5] (by decide) rfl) ?_
    refine TH.tk (listed' := #[Tt,Tt,Tt,Tt,Tt,Tt,Tt,Tt,Tt,Tt,Ff,Ff,Ff,Ff,Ff,Ff,Ff]) 9 rfl rfl rfl (gives_move rfl rfl) (fun w1 hw => hw.pick [2, 3, 4, 5] (by decide) rfl) ?_
    refine TH.tk (listed' := #[Tt,Tt,Tt,Tt,Tt,Tt,Tt,Tt,Tt,Tt,Tt,Ff,Ff,Ff,Ff,Ff,Ff]) 10 rfl rfl rfl (gives_extract rfl rfl rfl) (fun w1 hw => hw.pick [2, 3, 4, 5] (by decide) rfl) ?_
    refine TH.tk (listed' := #[Tt,Tt,Tt,Tt,Tt,Tt,Tt,Tt,Tt,Tt,Tt,Tt,Ff,Ff,Ff,Ff,Ff]) 11 rfl rfl rfl (gives_extract rfl rfl rfl) (fun w1 hw => hw.pick [2, 3, 4, 5] (by decide) rfl) ?_
    refine TH.tk (listed' := #[Tt,Tt,Tt,Tt,Tt,Tt,Tt,Tt,Tt,Tt,Tt,Tt,Tt,Ff,Ff,Ff,Ff]) 12 rfl rfl rfl (gives_extract rfl rfl rfl) (fun w1 hw => hw.pick [2, 3, 4, 5] (by decide) rfl) ?_
    refine TH.only' (listed' := #[Tt,Tt,Tt,Tt,Tt,Tt,Tt,Tt,Tt,Tt,Tt,Tt,Tt,Tt,Ff,Ff,Ff]) 13 rfl (by kernel_rfl) rfl ?_
    refine TL.pnew rfl rfl rfl (exec_alloc (cs := [.int .i64 0, .int .i64 0, .int .i64 0, .slice none 0 0]) rfl jreczv45 rfl) (fun g12 => ?_)
    refine TL.end_ ?_
    refine TX.held (fun w1 hw => hw.pick [3, 4, 5, 6] (by decide) rfl) ?_
    refine TH.only' (listed' := #[Tt,Tt,Tt,Tt,Tt,Tt,Tt,Tt,Tt,Tt,Tt,Tt,Tt,Tt,Tt,Ff,Ff]) 14 rfl (by kernel_rfl) rfl ?_
    refine TL.pstore (k := 0) (vs := [.int .i64 ((accC c ((l.drop p).take m) key).v), .int .i64 ((accC c ((l.drop p).take m) key).run), .int .i64 ((accC c ((l.drop p).take m) key).n), .slice DR ((accC c ((l.drop p).take m) key).dg.length) eR]) rfl rfl rfl rfl rfl rfl rfl jrecsz45 jrecone_i64i64i64s (by show 4 ≤ 4; decide) (L' := [.blk g12 45 [.int .i64 ((accC c ((l.drop p).take m) key).v), .int .i64 ((accC c ((l.drop p).take m) key).run), .int .i64 ((accC c ((l.drop p).take m) key).n), .slice DR ((accC c ((l.drop p).take m) key).dg.length) eR], .row (.slice AR ((accL c ((l.drop p).take m) key).length) cR) 27 17 ((accL c ((l.drop p).take m) key).length) (rcs (accL c ((l.drop p).take m) key)), .row (.slice DR ((accC c ((l.drop p).take m) key).dg.length) eR) 5 1 ((accC c ((l.drop p).take m) key).dg.length) (bv (accC c ((l.drop p).take m) key).dg), .row (.slice Ad c.dg.length cd) 5 1 c.dg.length (bv c.dg), .row (.slice Ar rl.length cr) 27 17 rl.length (rcs rl), .blk g7 45 [.int .i64 c.v, .int .i64 c.run, .int .i64 c.n, .slice Ad c.dg.length cd], .blk g4 45 [.int .i64 0, .int .i64 0, .int .i64 0, .slice none 0 0]]) rfl ?_
    refine TL.end_ ?_
    refine TX.held (fun w1 hw => hw.pick [3, 4, 5, 6] (by decide) rfl) ?_
    refine TH.tk (listed' := #[Tt,Tt,Tt,Tt,Tt,Tt,Tt,Tt,Tt,Tt,Tt,Tt,Tt,Tt,Tt,Tt,Ff]) 15 rfl rfl rfl (gives_assign rfl rfl) (fun w1 hw => hw.pick [3, 4, 5, 6] (by decide) rfl) ?_
    refine TH.tk (listed' := #[Tt,Tt,Tt,Tt,Tt,Tt,Tt,Tt,Tt,Tt,Tt,Tt,Tt,Tt,Tt,Tt,Tt]) 16 rfl rfl rfl (gives_assign rfl rfl) (fun w1 hw => hw.pick [3, 4, 5, 6] (by decide) rfl) ?_
    refine TH.done (by kernel_rfl) ?_
    refine TX.then_ (TC.seq_ (TC.seq_ (TC.region ?_)))
    refine TL.mv ?_
    refine TL.vsplit rfl rfl rfl (gives_bin rfl rfl rfl (fun w => bin_neq w)) (fun h48 => ?_) (fun h48 => ?_)
    ·have q48 := of_decide_eq_true h48
     have hR := h.stop (fun hh => by rw [hmt] at hh; exact q48 hh.2.2)
     refine TL.end_ (TX.then_ (TC.condT rfl (TC.seq_ (TC.region ?_))))
     refine TL.val rfl rfl rfl (pm_loadV (k := 5) (i := 0) (n := 4) (v := .agg #[.int .i64 c.v, .int .i64 c.run, .int .i64 c.n, .slice Ad c.dg.length cd]) rfl rfl jrecag45 jrecsz45 rfl (by show 4 ≤ 4; decide) rfl) ?_
     refine TL.mv ?_
     refine TL.mv ?_
     refine TL.pstore (k := 6) (vs := [.int .i64 c.v, .int .i64 c.run, .int .i64 c.n, .slice Ad c.dg.length cd]) rfl rfl rfl rfl rfl rfl rfl jrecsz45 jrecone_i64i64i64s (by show 4 ≤ 4; decide) (L' := [.blk g12 45 [.int .i64 ((accC c ((l.drop p).take m) key).v), .int .i64 ((accC c ((l.drop p).take m) key).run), .int .i64 ((accC c ((l.drop p).take m) key).n), .slice DR ((accC c ((l.drop p).take m) key).dg.length) eR], .row (.slice AR ((accL c ((l.drop p).take m) key).length) cR) 27 17 ((accL c ((l.drop p).take m) key).length) (rcs (accL c ((l.drop p).take m) key)), .row (.slice DR ((accC c ((l.drop p).take m) key).dg.length) eR) 5 1 ((accC c ((l.drop p).take m) key).dg.length) (bv (accC c ((l.drop p).take m) key).dg), .row (.slice Ad c.dg.length cd) 5 1 c.dg.length (bv c.dg), .row (.slice Ar rl.length cr) 27 17 rl.length (rcs rl), .blk g7 45 [.int .i64 c.v, .int .i64 c.run, .int .i64 c.n, .slice Ad c.dg.length cd], .blk g4 45 [.int .i64 c.v, .int .i64 c.run, .int .i64 c.n, .slice Ad c.dg.length cd]]) rfl ?_
     refine TL.as_ ?_
     refine TL.as_ ?_
     refine TL.end_ (TX.then_ (TC.ret_ (TX.then_ret (TX.in_ret (TX.then_ret (TX.in_ret ?_))))))
     exact ret_cell3 (k := 6) (v := .slice Ar rl.length cr) (v2 := .int .i64 (p : Nat)) Tryd.results32 rfl rfl rfl rfl Tryd.underlying45 rfl rfl (fun w1 hw => by rw [hR]; exact ⟨Ar, cr, Ad, cd, _, _, rfl, rfl, h.r1, h.r2, h.d1, h.d2, rfl, hw.pick [4, 3] (by decide) rfl⟩)
    ·have q48 := of_decide_eq_false h48
     have ha0 : accE c ((l.drop p).take m) key = 0 := Decidable.not_not.1 q48
     refine TL.end_ (TX.then_ (TC.condF rfl (TC.skip_ (TX.then_ ?_))))
     have hrl := acc_cnt (p := p) (m := m) ha0 hb1.2
     have hrp := h.rp
     refine TC.held (ls := #[Ff,Ff,Ff,Ff,Ff,Ff,Ff,Ff,Ff,Ff]) (Pm w [.blk g12 45 [.int .i64 ((accC c ((l.drop p).take m) key).v), .int .i64 ((accC c ((l.drop p).take m) key).run), .int .i64 ((accC c ((l.drop p).take m) key).n), .slice DR ((accC c ((l.drop p).take m) key).dg.length) eR]]) (by kernel_rfl) rfl rfl (fun w hw => hw.drawn _) ?_
     refine TH.tk (listed' := #[Tt,Ff,Ff,Ff,Ff,Ff,Ff,Ff,Ff,Ff]) 0 rfl rfl rfl (pm_loadV (k := 0) (i := 0) (n := 4) (v := .agg #[.int .i64 ((accC c ((l.drop p).take m) key).v), .int .i64 ((accC c ((l.drop p).take m) key).run), .int .i64 ((accC c ((l.drop p).take m) key).n), .slice DR ((accC c ((l.drop p).take m) key).dg.length) eR]) rfl rfl jrecag45 jrecsz45 rfl (by show 4 ≤ 4; decide) rfl) (fun w1 hw => hw.pick [0] (by decide) rfl) ?_
     refine TH.tk (listed' := #[Tt,Tt,Ff,Ff,Ff,Ff,Ff,Ff,Ff,Ff]) 1 rfl rfl rfl (gives_move rfl rfl) (fun w1 hw => hw.pick [0] (by decide) rfl) ?_
     refine TH.tk (listed' := #[Tt,Tt,Tt,Ff,Ff,Ff,Ff,Ff,Ff,Ff]) 2 rfl rfl rfl (gives_move rfl rfl) (fun w1 hw => hw.pick [0] (by decide) rfl) ?_
     refine TH.tk (listed' := #[Tt,Tt,Tt,Ff,Tt,Ff,Ff,Ff,Ff,Ff]) 4 rfl rfl rfl (gives_move rfl rfl) (fun w1 hw => hw.pick [0] (by decide) rfl) ?_
     refine TH.tk (listed' := #[Tt,Tt,Tt,Ff,Tt,Tt,Ff,Ff,Ff,Ff]) 5 rfl rfl rfl (gives_move rfl rfl) (fun w1 hw => hw.pick [0] (by decide) rfl) ?_
     refine TH.tk (listed' := #[Tt,Tt,Tt,Ff,Tt,Tt,Tt,Ff,Ff,Ff]) 6 rfl rfl rfl (gives_bin rfl rfl rfl (fun w => bin_add_ (r := ((p + m : Nat) : Int)) (by simp only [IntKind.wrap_i64]; omega) w)) (fun w1 hw => hw.pick [0] (by decide) rfl) ?_
     refine TH.only' (listed' := #[Tt,Tt,Tt,Tt,Tt,Tt,Tt,Ff,Ff,Ff]) 3 rfl (by kernel_rfl) rfl ?_
     refine TL.appendT (k := 4) rfl rfl rfl rfl Tryd.underlying33 jrecel33 rfl rfl rfl (fun w1 hw => pm_reads hw (k := 1) rfl) (rcs_one _) (by omega) ((rl ++ (accL c ((l.drop p).take m) key)).length) (by rw [List.length_append]) (rcs (rl ++ (accL c ((l.drop p).take m) key))) (by rw [rcs_app]) (fun A55 c55 hA551 hA552 => ?_)
     refine TL.end_ ?_
     refine TX.held (fun w1 hw => hw.pick [0] (by decide) rfl) ?_
     refine TH.only' (listed' := #[Tt,Tt,Tt,Tt,Tt,Tt,Tt,Tt,Ff,Ff]) 7 rfl (by kernel_rfl) rfl ?_
     refine TL.pstore (k := 5) (vs := [.int .i64 ((accC c ((l.drop p).take m) key).v), .int .i64 ((accC c ((l.drop p).take m) key).run), .int .i64 ((accC c ((l.drop p).take m) key).n), .slice DR ((accC c ((l.drop p).take m) key).dg.length) eR]) rfl rfl rfl rfl rfl rfl rfl jrecsz45 jrecone_i64i64i64s (by show 4 ≤ 4; decide) (L' := [.blk g12 45 [.int .i64 ((accC c ((l.drop p).take m) key).v), .int .i64 ((accC c ((l.drop p).take m) key).run), .int .i64 ((accC c ((l.drop p).take m) key).n), .slice DR ((accC c ((l.drop p).take m) key).dg.length) eR], .row (.slice AR ((accL c ((l.drop p).take m) key).length) cR) 27 17 ((accL c ((l.drop p).take m) key).length) (rcs (accL c ((l.drop p).take m) key)), .row (.slice DR ((accC c ((l.drop p).take m) key).dg.length) eR) 5 1 ((accC c ((l.drop p).take m) key).dg.length) (bv (accC c ((l.drop p).take m) key).dg), .row (.slice Ad c.dg.length cd) 5 1 c.dg.length (bv c.dg), .row (.slice A55 ((rl ++ (accL c ((l.drop p).take m) key)).length) c55) 27 17 ((rl ++ (accL c ((l.drop p).take m) key)).length) (rcs (rl ++ (accL c ((l.drop p).take m) key))), .blk g7 45 [.int .i64 ((accC c ((l.drop p).take m) key).v), .int .i64 ((accC c ((l.drop p).take m) key).run), .int .i64 ((accC c ((l.drop p).take m) key).n), .slice DR ((accC c ((l.drop p).take m) key).dg.length) eR], .blk g4 45 [.int .i64 0, .int .i64 0, .int .i64 0, .slice none 0 0]]) rfl ?_
     refine TL.end_ ?_
     refine TX.held (fun w1 hw => hw.pick [0] (by decide) rfl) ?_
     refine TH.tk (listed' := #[Tt,Tt,Tt,Tt,Tt,Tt,Tt,Tt,Tt,Ff]) 8 rfl rfl rfl (gives_assign rfl rfl) (fun w1 hw => hw.pick [0] (by decide) rfl) ?_
     refine TH.tk (listed' := #[Tt,Tt,Tt,Tt,Tt,Tt,Tt,Tt,Tt,Tt]) 9 rfl rfl rfl (gives_assign rfl rfl) (fun w1 hw => hw.pick [0] (by decide) rfl) ?_
     refine TH.done (by kernel_rfl) ?_
     refine TX.in_normal ?_
     exact TX.round (⟨(((accC c ((l.drop p).take m) key), rl ++ (accL c ((l.drop p).take m) key), p + m, f - 1), (A55, c55), (DR, eR)), h.next hb1.2 he0 hm hml ha0 hA551 hA552 hDR1 hDR2⟩) (by show f - 1 < f; have := h.fu; omega) ⟨rfl, rfl, rfl, rfl, rfl, rfl, trivial⟩ (fun w1 hw => hw.pick [2, 4, 5, 6] (by decide) rfl)
   ·refine TL.pnew rfl rfl rfl (exec_alloc (cs := [.int .i64 0, .int .i64 0, .int .i64 0, .slice none 0 0]) rfl jreczv45 rfl) (fun g12 => ?_)
    refine TL.end_ ?_
    refine TX.held (fun w1 hw => hw.pick [1, 2, 3, 4] (by decide) rfl) ?_
    refine TH.only' (listed' := #[Tt,Tt,Tt,Tt,Tt,Tt,Tt,Tt,Tt,Ff,Ff,Ff,Ff,Tt,Ff,Ff,Ff]) 8 rfl (by kernel_rfl) rfl ?_
    refine TL.pcallPm (α := AccY (accC c ((l.drop p).take m) key) (accL c ((l.drop p).take m) key)) (fun y => .tuple #[.agg #[.int .i64 ((accC c ((l.drop p).take m) key).v), .int .i64 ((accC c ((l.drop p).take m) key).run), .int .i64 ((accC c ((l.drop p).take m) key).n), .slice y.1.2.1 ((accC c ((l.drop p).take m) key).dg.length) y.1.2.2], .slice y.1.1.1 ((accL c ((l.drop p).take m) key).length) y.1.1.2, .int .i64 (accE c ((l.drop p).take m) key)]) (fun y => [.row (.slice y.1.1.1 ((accL c ((l.drop p).take m) key).length) y.1.1.2) 27 17 ((accL c ((l.drop p).take m) key).length) (rcs (accL c ((l.drop p).take m) key)), .row (.slice y.1.2.1 ((accC c ((l.drop p).take m) key).dg.length) y.1.2.2) 5 1 ((accC c ((l.drop p).take m) key).dg.length) (bv (accC c ((l.drop p).take m) key).dg)]) rfl rfl rfl rfl rfl Tryd.func22 jrecnm22 jrecbd22 (fun w1 hw => (accept_any Ad _ cd c _ m (c1 - p) ((l.drop p).take m) A2 n2 c2 key w1 (byt_own (hw.at_ (k := 1) rfl) h.db) (byt_cutP ((hb1.below hw.bel).more hw.bel.size) (by omega) hnc) ((hb2.below hw.bel).more hw.bel.size) (by omega) (by omega) hn2l (by have := h.n0; omega) (by have := h.n1; omega) (hst.below hw.bel hst.lt) (hky.below hw.bel hky.lt)).mono fun e w2 h => h.use) ?_
    rintro ⟨⟨⟨AR, cR⟩, ⟨DR, eR⟩⟩, ⟨hAR1, hAR2⟩, ⟨hDR1, hDR2⟩⟩
    dsimp only [List.cons_append, List.nil_append]
    dsimp only at hAR1 hAR2 hDR1 hDR2
    refine TL.end_ ?_
    refine TX.held (fun w1 hw => hw.pick [3, 4, 5, 6] (by decide) rfl) ?_
    refine TH.tk (listed' := #[Tt,Tt,Tt,Tt,Tt,Tt,Tt,Tt,Tt,Tt,Ff,Ff,Ff,Tt,Ff,Ff,Ff]) 9 rfl rfl rfl (gives_move rfl rfl) (fun w1 hw => hw.pick [3, 4, 5, 6] (by decide) rfl) ?_
    refine TH.tk (listed' := #[Tt,Tt,Tt,Tt,Tt,Tt,Tt,Tt,Tt,Tt,Tt,Ff,Ff,Tt,Ff,Ff,Ff]) 10 rfl rfl rfl (gives_extract rfl rfl rfl) (fun w1 hw => hw.pick [3, 4, 5, 6] (by decide) rfl) ?_
    refine TH.tk (listed' := #[Tt,Tt,Tt,Tt,Tt,Tt,Tt,Tt,Tt,Tt,Tt,Tt,Ff,Tt,Ff,Ff,Ff]) 11 rfl rfl rfl (gives_extract rfl rfl rfl) (fun w1 hw => hw.pick [3, 4, 5, 6] (by decide) rfl) ?_
    refine TH.tk (listed' := #[Tt,Tt,Tt,Tt,Tt,Tt,Tt,Tt,Tt,Tt,Tt,Tt,Tt,Tt,Ff,Ff,Ff]) 12 rfl rfl rfl (gives_extract rfl rfl rfl) (fun w1 hw => hw.pick [3, 4, 5, 6] (by decide) rfl) ?_
    refine TH.only' (listed' := #[Tt,Tt,Tt,Tt,Tt,Tt,Tt,Tt,Tt,Tt,Tt,Tt,Tt,Tt,Tt,Ff,Ff]) 14 rfl (by kernel_rfl) rfl ?_
    refine TL.pstore (k := 2) (vs := [.int .i64 ((accC c ((l.drop p).take m) key).v), .int .i64 ((accC c ((l.drop p).take m) key).run), .int .i64 ((accC c ((l.drop p).take m) key).n), .slice DR ((accC c ((l.drop p).take m) key).dg.length) eR]) rfl rfl rfl rfl rfl rfl rfl jrecsz45 jrecone_i64i64i64s (by show 4 ≤ 4; decide) (L' := [.row (.slice AR ((accL c ((l.drop p).take m) key).length) cR) 27 17 ((accL c ((l.drop p).take m) key).length) (rcs (accL c ((l.drop p).take m) key)), .row (.slice DR ((accC c ((l.drop p).take m) key).dg.length) eR) 5 1 ((accC c ((l.drop p).take m) key).dg.length) (bv (accC c ((l.drop p).take m) key).dg), .blk g12 45 [.int .i64 ((accC c ((l.drop p).take m) key).v), .int .i64 ((accC c ((l.drop p).take m) key).run), .int .i64 ((accC c ((l.drop p).take m) key).n), .slice DR ((accC c ((l.drop p).take m) key).dg.length) eR], .row (.slice Ad c.dg.length cd) 5 1 c.dg.length (bv c.dg), .row (.slice Ar rl.length cr) 27 17 rl.length (rcs rl), .blk g7 45 [.int .i64 c.v, .int .i64 c.run, .int .i64 c.n, .slice Ad c.dg.length cd], .blk g4 45 [.int .i64 0, .int .i64 0, .int .i64 0, .slice none 0 0]]) rfl ?_
    refine TL.end_ ?_
    refine TX.held (fun w1 hw => hw.pick [3, 4, 5, 6] (by decide) rfl) ?_
    refine TH.tk (listed' := #[Tt,Tt,Tt,Tt,Tt,Tt,Tt,Tt,Tt,Tt,Tt,Tt,Tt,Tt,Tt,Tt,Ff]) 15 rfl rfl rfl (gives_assign rfl rfl) (fun w1 hw => hw.pick [3, 4, 5, 6] (by decide) rfl) ?_
    refine TH.tk (listed' := #[Tt,Tt,Tt,Tt,Tt,Tt,Tt,Tt,Tt,Tt,Tt,Tt,Tt,Tt,Tt,Tt,Tt]) 16 rfl rfl rfl (gives_assign rfl rfl) (fun w1 hw => hw.pick [3, 4, 5, 6] (by decide) rfl) ?_
    refine TH.done (by kernel_rfl) ?_
    refine TX.then_ (TC.seq_ (TC.seq_ (TC.region ?_)))
    refine TL.mv ?_
    refine TL.vsplit rfl rfl rfl (gives_bin rfl rfl rfl (fun w => bin_neq w)) (fun h48 => ?_) (fun h48 => ?_)
    ·have q48 := of_decide_eq_true h48
     have hR := h.stop (fun hh => by rw [hmt] at hh; exact q48 hh.2.2)
     refine TL.end_ (TX.then_ (TC.condT rfl (TC.seq_ (TC.region ?_))))
     refine TL.val rfl rfl rfl (pm_loadV (k := 5) (i := 0) (n := 4) (v := .agg #[.int .i64 c.v, .int .i64 c.run, .int .i64 c.n, .slice Ad c.dg.length cd]) rfl rfl jrecag45 jrecsz45 rfl (by show 4 ≤ 4; decide) rfl) ?_
     refine TL.mv ?_
     refine TL.mv ?_
     refine TL.pstore (k := 6) (vs := [.int .i64 c.v, .int .i64 c.run, .int .i64 c.n, .slice Ad c.dg.length cd]) rfl rfl rfl rfl rfl rfl rfl jrecsz45 jrecone_i64i64i64s (by show 4 ≤ 4; decide) (L' := [.row (.slice AR ((accL c ((l.drop p).take m) key).length) cR) 27 17 ((accL c ((l.drop p).take m) key).length) (rcs (accL c ((l.drop p).take m) key)), .row (.slice DR ((accC c ((l.drop p).take m) key).dg.length) eR) 5 1 ((accC c ((l.drop p).take m) key).dg.length) (bv (accC c ((l.drop p).take m) key).dg), .blk g12 45 [.int .i64 ((accC c ((l.drop p).take m) key).v), .int .i64 ((accC c ((l.drop p).take m) key).run), .int .i64 ((accC c ((l.drop p).take m) key).n), .slice DR ((accC c ((l.drop p).take m) key).dg.length) eR], .row (.slice Ad c.dg.length cd) 5 1 c.dg.length (bv c.dg), .row (.slice Ar rl.length cr) 27 17 rl.length (rcs rl), .blk g7 45 [.int .i64 c.v, .int .i64 c.run, .int .i64 c.n, .slice Ad c.dg.length cd], .blk g4 45 [.int .i64 c.v, .int .i64 c.run, .int .i64 c.n, .slice Ad c.dg.length cd]]) rfl ?_
     refine TL.as_ ?_
     refine TL.as_ ?_
     refine TL.end_ (TX.then_ (TC.ret_ (TX.then_ret (TX.in_ret (TX.then_ret (TX.in_ret ?_))))))
     exact ret_cell3 (k := 6) (v := .slice Ar rl.length cr) (v2 := .int .i64 (p : Nat)) Tryd.results32 rfl rfl rfl rfl Tryd.underlying45 rfl rfl (fun w1 hw => by rw [hR]; exact ⟨Ar, cr, Ad, cd, _, _, rfl, rfl, h.r1, h.r2, h.d1, h.d2, rfl, hw.pick [4, 3] (by decide) rfl⟩)
    ·have q48 := of_decide_eq_false h48
     have ha0 : accE c ((l.drop p).take m) key = 0 := Decidable.not_not.1 q48
     refine TL.end_ (TX.then_ (TC.condF rfl (TC.skip_ (TX.then_ ?_))))
     have hrl := acc_cnt (p := p) (m := m) ha0 hb1.2
     have hrp := h.rp
     refine TC.held (ls := #[Ff,Ff,Ff,Ff,Ff,Ff,Ff,Ff,Ff,Ff]) (Pm w [.blk g12 45 [.int .i64 ((accC c ((l.drop p).take m) key).v), .int .i64 ((accC c ((l.drop p).take m) key).run), .int .i64 ((accC c ((l.drop p).take m) key).n), .slice DR ((accC c ((l.drop p).take m) key).dg.length) eR]]) (by kernel_rfl) rfl rfl (fun w hw => hw.drawn _) ?_
     refine TH.tk (listed' := #[Tt,Ff,Ff,Ff,Ff,Ff,Ff,Ff,Ff,Ff]) 0 rfl rfl rfl (pm_loadV (k := 0) (i := 0) (n := 4) (v := .agg #[.int .i64 ((accC c ((l.drop p).take m) key).v), .int .i64 ((accC c ((l.drop p).take m) key).run), .int .i64 ((accC c ((l.drop p).take m) key).n), .slice DR ((accC c ((l.drop p).take m) key).dg.length) eR]) rfl rfl jrecag45 jrecsz45 rfl (by show 4 ≤ 4; decide) rfl) (fun w1 hw => hw.pick [2] (by decide) rfl) ?_
     refine TH.tk (listed' := #[Tt,Tt,Ff,Ff,Ff,Ff,Ff,Ff,Ff,Ff]) 1 rfl rfl rfl (gives_move rfl rfl) (fun w1 hw => hw.pick [2] (by decide) rfl) ?_
     refine TH.tk (listed' := #[Tt,Tt,Tt,Ff,Ff,Ff,Ff,Ff,Ff,Ff]) 2 rfl rfl rfl (gives_move rfl rfl) (fun w1 hw => hw.pick [2] (by decide) rfl) ?_
     refine TH.tk (listed' := #[Tt,Tt,Tt,Ff,Tt,Ff,Ff,Ff,Ff,Ff]) 4 rfl rfl rfl (gives_move rfl rfl) (fun w1 hw => hw.pick [2] (by decide) rfl) ?_
     refine TH.tk (listed' := #[Tt,Tt,Tt,Ff,Tt,Tt,Ff,Ff,Ff,Ff]) 5 rfl rfl rfl (gives_move rfl rfl) (fun w1 hw => hw.pick [2] (by decide) rfl) ?_
     refine TH.tk (listed' := #[Tt,Tt,Tt,Ff,Tt,Tt,Tt,Ff,Ff,Ff]) 6 rfl rfl rfl (gives_bin rfl rfl rfl (fun w => bin_add_ (r := ((p + m : Nat) : Int)) (by simp only [IntKind.wrap_i64]; omega) w)) (fun w1 hw => hw.pick [2] (by decide) rfl) ?_
     refine TH.only' (listed' := #[Tt,Tt,Tt,Tt,Tt,Tt,Tt,Ff,Ff,Ff]) 3 rfl (by kernel_rfl) rfl ?_
     refine TL.appendT (k := 4) rfl rfl rfl rfl Tryd.underlying33 jrecel33 rfl rfl rfl (fun w1 hw => pm_reads hw (k := 0) rfl) (rcs_one _) (by omega) ((rl ++ (accL c ((l.drop p).take m) key)).length) (by rw [List.length_append]) (rcs (rl ++ (accL c ((l.drop p).take m) key))) (by rw [rcs_app]) (fun A55 c55 hA551 hA552 => ?_)
     refine TL.end_ ?_
     refine TX.held (fun w1 hw => hw.pick [2] (by decide) rfl) ?_
     refine TH.only' (listed' := #[Tt,Tt,Tt,Tt,Tt,Tt,Tt,Tt,Ff,Ff]) 7 rfl (by kernel_rfl) rfl ?_
     refine TL.pstore (k := 5) (vs := [.int .i64 ((accC c ((l.drop p).take m) key).v), .int .i64 ((accC c ((l.drop p).take m) key).run), .int .i64 ((accC c ((l.drop p).take m) key).n), .slice DR ((accC c ((l.drop p).take m) key).dg.length) eR]) rfl rfl rfl rfl rfl rfl rfl jrecsz45 jrecone_i64i64i64s (by show 4 ≤ 4; decide) (L' := [.row (.slice AR ((accL c ((l.drop p).take m) key).length) cR) 27 17 ((accL c ((l.drop p).take m) key).length) (rcs (accL c ((l.drop p).take m) key)), .row (.slice DR ((accC c ((l.drop p).take m) key).dg.length) eR) 5 1 ((accC c ((l.drop p).take m) key).dg.length) (bv (accC c ((l.drop p).take m) key).dg), .blk g12 45 [.int .i64 ((accC c ((l.drop p).take m) key).v), .int .i64 ((accC c ((l.drop p).take m) key).run), .int .i64 ((accC c ((l.drop p).take m) key).n), .slice DR ((accC c ((l.drop p).take m) key).dg.length) eR], .row (.slice Ad c.dg.length cd) 5 1 c.dg.length (bv c.dg), .row (.slice A55 ((rl ++ (accL c ((l.drop p).take m) key)).length) c55) 27 17 ((rl ++ (accL c ((l.drop p).take m) key)).length) (rcs (rl ++ (accL c ((l.drop p).take m) key))), .blk g7 45 [.int .i64 ((accC c ((l.drop p).take m) key).v), .int .i64 ((accC c ((l.drop p).take m) key).run), .int .i64 ((accC c ((l.drop p).take m) key).n), .slice DR ((accC c ((l.drop p).take m) key).dg.length) eR], .blk g4 45 [.int .i64 0, .int .i64 0, .int .i64 0, .slice none 0 0]]) rfl ?_
     refine TL.end_ ?_
     refine TX.held (fun w1 hw => hw.pick [2] (by decide) rfl) ?_
     refine TH.tk (listed' := #[Tt,Tt,Tt,Tt,Tt,Tt,Tt,Tt,Tt,Ff]) 8 rfl rfl rfl (gives_assign rfl rfl) (fun w1 hw => hw.pick [2] (by decide) rfl) ?_
     refine TH.tk (listed' := #[Tt,Tt,Tt,Tt,Tt,Tt,Tt,Tt,Tt,Tt]) 9 rfl rfl rfl (gives_assign rfl rfl) (fun w1 hw => hw.pick [2] (by decide) rfl) ?_
     refine TH.done (by kernel_rfl) ?_
     refine TX.in_normal ?_
     exact TX.round (⟨(((accC c ((l.drop p).take m) key), rl ++ (accL c ((l.drop p).take m) key), p + m, f - 1), (A55, c55), (DR, eR)), h.next hb1.2 he0 hm hml ha0 hA551 hA552 hDR1 hDR2⟩) (by show f - 1 < f; have := h.fu; omega) ⟨rfl, rfl, rfl, rfl, rfl, rfl, trivial⟩ (fun w1 hw => hw.pick [1, 4, 5, 6] (by decide) rfl)
set_option maxHeartbeats 2000000 in
theorem rrecover_any (A1 : Option Addr) (n1 c1 : Nat) (l : List Int) (A2 : Option Addr) (n2 c2 : Nat) (key : List Int) (w : World) (hb1 : Byt w w.heap.size A1 n1 l) (hb2 : Byt w w.heap.size A2 n2 key) (hnc : n1 ≤ c1) (hn1l : n1 ≤ 1000000) (hn2l : n2 ≤ 1000000000) :
  Calls Tryd.prog 38 #[.slice A1 n1 c1, .slice A2 n2 c2] w fun e w' => AccR (rcvF l key).1 (rcvF l key).2.1 ((rcvF l key).2.2 : Nat) w e w' := by
 obtain rfl : n1 = l.length := hb1.len.symm
 refine begin_ (vs := [.slice A1 l.length c1, .slice A2 n2 c2]) Tryd.func38 rfl rfl rfl ?_ (Pm.start w)
 refine TC.seq_ (TC.region ?_)
 refine TL.pnew rfl rfl rfl (exec_alloc (cs := [.int .i64 0, .int .i64 0, .int .i64 0, .slice none 0 0]) rfl jreczv45 rfl) (fun g4 => ?_)
 refine TL.as_ ?_
 refine TL.as_ ?_
 refine TL.end_ (TX.then_ (TC.seq_ (TC.region ?_)))
 refine TL.pnew rfl rfl rfl (exec_alloc (cs := [.int .i64 0, .int .i64 0, .int .i64 0, .slice none 0 0]) rfl jreczv45 rfl) (fun g7 => ?_)
 refine TL.end_ (TX.then_ (TC.seq_ (TC.region ?_)))
 refine TL.as_ ?_
 refine TL.end_ (TX.then_ (TC.seq_ (TC.region ?_)))
 refine TL.as_ ?_
 refine TL.end_ (TX.then_ (TC.block ?_))
 refine TC.nilrow 27 17 ?_
 refine TC.nilrow 5 1 ?_
 refine TC.loop_ (α := {y : (Chn × List Rs × Nat × Nat) × (Option Addr × Nat) × (Option Addr × Nat) // RcI l key y.1.1 y.1.2.1 y.1.2.2.1 y.1.2.2.2 y.2.1.2 y.2.2.2}) (fun y => [(0, .slice A1 l.length c1), (1, .slice A2 n2 c2), (4, .pointer (some ⟨g4, 0, none⟩)), (7, .pointer (some ⟨g7, 0, none⟩)), (8, .slice y.1.2.1.1 y.1.1.2.1.length y.1.2.1.2), (9, .int .i64 (y.1.1.2.2.1 : Nat))]) (fun y => Pm w [.row (.slice y.1.2.2.1 y.1.1.1.dg.length y.1.2.2.2) 5 1 y.1.1.1.dg.length (bv y.1.1.1.dg), .row (.slice y.1.2.1.1 y.1.1.2.1.length y.1.2.1.2) 27 17 y.1.1.2.1.length (rcs y.1.1.2.1), .blk g7 45 [.int .i64 y.1.1.1.v, .int .i64 y.1.1.1.run, .int .i64 y.1.1.1.n, .slice y.1.2.2.1 y.1.1.1.dg.length y.1.2.2.2], .blk g4 45 [.int .i64 0, .int .i64 0, .int .i64 0, .slice none 0 0]]) (fun y => y.1.1.2.2.2) (⟨((Chn.zero, [], 0, l.length + 1), (none, 0), (none, 0)), RcI.start l key⟩) ⟨rfl, rfl, rfl, rfl, rfl, rfl, trivial⟩ (fun w1 hw => hw) ?_
 rintro ⟨⟨⟨c, rl, p, f⟩, ⟨Ar, cr⟩, ⟨Ad, cd⟩⟩, h⟩
 dsimp only at h ⊢
 have hpl := h.pl
 have hdl : (l.drop p).length = l.length - p := List.length_drop ..
 refine TC.block (TC.seq_ (TC.region ?_))
 refine TL.mv ?_
 refine TL.mv ?_
 refine TL.val rfl rfl rfl (gives_sliceL (v := .slice (if c1 = p then A1 else A1.map (·.add p)) (l.length - p) (c1 - p)) rfl rfl rfl (fun w => cut_lo1 Tryd.underlying28 (fun w => rfl) A1 l.length c1 p rfl (by have := h.pl; omega) w)) ?_
 refine TL.pcall1 (r := .tuple #[.int .i64 (lenN (l.drop p)), .int .i64 (lenE (l.drop p))]) rfl rfl rfl rfl rfl Tryd.func25 jrecnm25 jrecbd25 (fun w1 hw => rlength_any (if c1 = p then A1 else A1.map (·.add p)) (l.length - p) (c1 - p) (l.drop p) w1 (((hb1.below hw.bel).more hw.bel.size).cut h.pl hnc) (by omega)) ?_
 iterate 5 (first | refine TL.as_ ?_ | refine TL.ex ?_ | refine TL.mv ?_)
 refine TL.end_ (TX.then_ (TC.seq_ (TC.seq_ (TC.region ?_))))
 refine TL.mv ?_
 refine TL.vsplit rfl rfl rfl (gives_bin rfl rfl rfl (fun w => bin_neq w)) (fun h23 => ?_) (fun h23 => ?_)
 ·have q23 := of_decide_eq_true h23
  have hR := h.stop (fun hh => q23 hh.1)
  iterate 8 (first | refine TL.of ?_ | refine TL.mv ?_ | refine TL.pk ?_)
  refine TL.end_ (TX.then_ (TC.condT rfl (TC.seq_ (TC.region ?_))))
  refine TL.val rfl rfl rfl (pm_loadV (k := 2) (i := 0) (n := 4) (v := .agg #[.int .i64 c.v, .int .i64 c.run, .int .i64 c.n, .slice Ad c.dg.length cd]) rfl rfl jrecag45 jrecsz45 rfl (by show 4 ≤ 4; decide) rfl) ?_
  refine TL.mv ?_
  refine TL.mv ?_
  refine TL.pstore (k := 3) (vs := [.int .i64 c.v, .int .i64 c.run, .int .i64 c.n, .slice Ad c.dg.length cd]) rfl rfl rfl rfl rfl rfl rfl jrecsz45 jrecone_i64i64i64s (by show 4 ≤ 4; decide) (L' := [.row (.slice Ad c.dg.length cd) 5 1 c.dg.length (bv c.dg), .row (.slice Ar rl.length cr) 27 17 rl.length (rcs rl), .blk g7 45 [.int .i64 c.v, .int .i64 c.run, .int .i64 c.n, .slice Ad c.dg.length cd], .blk g4 45 [.int .i64 c.v, .int .i64 c.run, .int .i64 c.n, .slice Ad c.dg.length cd]]) rfl ?_
  refine TL.as_ ?_
  refine TL.as_ ?_
  refine TL.end_ (TX.then_ (TC.ret_ (TX.then_ret (TX.in_ret (TX.then_ret (TX.in_ret ?_))))))
  exact ret_cell3 (k := 3) (v := .slice Ar rl.length cr) (v2 := .int .i64 (p : Nat)) Tryd.results38 rfl rfl rfl rfl Tryd.underlying45 rfl rfl (fun w1 hw => by rw [hR]; exact ⟨Ar, cr, Ad, cd, _, _, rfl, rfl, h.r1, h.r2, h.d1, h.d2, rfl, hw.pick [1, 0] (by decide) rfl⟩)
 ·have q23 := of_decide_eq_false h23
  have he0 : lenE (l.drop p) = 0 := Decidable.not_not.1 q23
  iterate 4 (first | refine TL.gu ?_ | refine TL.mv ?_)
  refine TL.val rfl rfl rfl (gives_len rfl Tryd.underlying28 rfl) ?_
  refine TL.gu ?_
  refine TL.mv ?_
  refine TL.gu ?_
  refine TL.val rfl rfl rfl (gives_bin rfl rfl rfl (fun w => bin_sub_ (r := ((l.length - p : Nat) : Int)) (by simp only [IntKind.wrap_i64]; omega) w)) ?_
  refine TL.gu ?_
  refine TL.mv ?_
  refine TL.gu ?_
  refine TL.vsplit rfl rfl rfl (gives_bin rfl rfl rfl (fun w => bin_lss w)) (fun h30 => ?_) (fun h30 => ?_)
  ·have q30 := of_decide_eq_true h30
   have hR := h.stop (fun hh => by have := hh.2.1; omega)
   refine TL.pk ?_
   refine TL.end_ (TX.then_ (TC.condT rfl (TC.seq_ (TC.region ?_))))
   refine TL.val rfl rfl rfl (pm_loadV (k := 2) (i := 0) (n := 4) (v := .agg #[.int .i64 c.v, .int .i64 c.run, .int .i64 c.n, .slice Ad c.dg.length cd]) rfl rfl jrecag45 jrecsz45 rfl (by show 4 ≤ 4; decide) rfl) ?_
   refine TL.mv ?_
   refine TL.mv ?_
   refine TL.pstore (k := 3) (vs := [.int .i64 c.v, .int .i64 c.run, .int .i64 c.n, .slice Ad c.dg.length cd]) rfl rfl rfl rfl rfl rfl rfl jrecsz45 jrecone_i64i64i64s (by show 4 ≤ 4; decide) (L' := [.row (.slice Ad c.dg.length cd) 5 1 c.dg.length (bv c.dg), .row (.slice Ar rl.length cr) 27 17 rl.length (rcs rl), .blk g7 45 [.int .i64 c.v, .int .i64 c.run, .int .i64 c.n, .slice Ad c.dg.length cd], .blk g4 45 [.int .i64 c.v, .int .i64 c.run, .int .i64 c.n, .slice Ad c.dg.length cd]]) rfl ?_
   refine TL.as_ ?_
   refine TL.as_ ?_
   refine TL.end_ (TX.then_ (TC.ret_ (TX.then_ret (TX.in_ret (TX.then_ret (TX.in_ret ?_))))))
   exact ret_cell3 (k := 3) (v := .slice Ar rl.length cr) (v2 := .int .i64 (p : Nat)) Tryd.results38 rfl rfl rfl rfl Tryd.underlying45 rfl rfl (fun w1 hw => by rw [hR]; exact ⟨Ar, cr, Ad, cd, _, _, rfl, rfl, h.r1, h.r2, h.d1, h.d2, rfl, hw.pick [1, 0] (by decide) rfl⟩)
  ·have q30 := of_decide_eq_false h30
   obtain ⟨hd1, hd2, hd3⟩ := len_dec he0
   obtain ⟨_, hy0, hy1⟩ := byte_at (hb1.2.drop p) 8 (by omega)
   obtain ⟨m, hm⟩ : ∃ m : Nat, lenN (l.drop p) = (m : Nat) := ⟨(lenN (l.drop p)).toNat, by omega⟩
   have hmt : (lenN (l.drop p)).toNat = m := by omega
   have hml : m ≤ (l.drop p).length := by omega
   refine TL.pk ?_
   refine TL.end_ (TX.then_ (TC.condF rfl (TC.skip_ (TX.then_ (TC.seq_ ?_)))))
   refine TC.held (ls := #[Ff,Ff,Ff,Ff,Ff,Ff,Ff,Ff,Ff,Ff,Ff,Ff,Ff,Ff,Ff,Ff,Ff]) (Pm w [.row (.slice Ad c.dg.length cd) 5 1 c.dg.length (bv c.dg), .row (.slice Ar rl.length cr) 27 17 rl.length (rcs rl), .blk g7 45 [.int .i64 c.v, .int .i64 c.run, .int .i64 c.n, .slice Ad c.dg.length cd], .blk g4 45 [.int .i64 0, .int .i64 0, .int .i64 0, .slice none 0 0]]) (by kernel_rfl) rfl rfl (fun w hw => hw.drawn _) ?_
   refine TH.tk (listed' := #[Tt,Ff,Ff,Ff,Ff,Ff,Ff,Ff,Ff,Ff,Ff,Ff,Ff,Ff,Ff,Ff,Ff]) 0 rfl rfl rfl (pm_loadV (k := 2) (i := 0) (n := 4) (v := .agg #[.int .i64 c.v, .int .i64 c.run, .int .i64 c.n, .slice Ad c.dg.length cd]) rfl rfl jrecag45 jrecsz45 rfl (by show 4 ≤ 4; decide) rfl) (fun w1 hw => hw) ?_
   refine TH.tk (listed' := #[Tt,Tt,Ff,Ff,Ff,Ff,Ff,Ff,Ff,Ff,Ff,Ff,Ff,Ff,Ff,Ff,Ff]) 1 rfl rfl rfl (gives_move rfl rfl) (fun w1 hw => hw) ?_
   refine TH.tk (listed' := #[Tt,Tt,Tt,Ff,Ff,Ff,Ff,Ff,Ff,Ff,Ff,Ff,Ff,Ff,Ff,Ff,Ff]) 2 rfl rfl rfl (gives_move rfl rfl) (fun w1 hw => hw) ?_
   refine TH.tk (listed' := #[Tt,Tt,Tt,Tt,Ff,Ff,Ff,Ff,Ff,Ff,Ff,Ff,Ff,Ff,Ff,Ff,Ff]) 3 rfl rfl rfl (gives_move rfl rfl) (fun w1 hw => hw) ?_
   refine TH.tk (listed' := #[Tt,Tt,Tt,Tt,Tt,Ff,Ff,Ff,Ff,Ff,Ff,Ff,Ff,Ff,Ff,Ff,Ff]) 4 rfl rfl rfl (gives_move rfl rfl) (fun w1 hw => hw) ?_
   refine TH.tk (listed' := #[Tt,Tt,Tt,Tt,Tt,Tt,Ff,Ff,Ff,Ff,Ff,Ff,Ff,Ff,Ff,Ff,Ff]) 5 rfl rfl rfl (gives_bin rfl rfl rfl (fun w => bin_add_ (r := ((p + m : Nat) : Int)) (by simp only [IntKind.wrap_i64]; omega) w)) (fun w1 hw => hw) ?_
   refine TH.tk (listed' := #[Tt,Tt,Tt,Tt,Tt,Tt,Tt,Ff,Ff,Ff,Ff,Ff,Ff,Ff,Ff,Ff,Ff]) 6 rfl rfl rfl (gives_slice (v := .slice (if c1 = p then A1 else A1.map (·.add p)) m (c1 - p)) rfl rfl rfl rfl (fun w => cut_pA A1 l.length c1 p m (by omega) w)) (fun w1 hw => hw) ?_
   refine TH.tk (listed' := #[Tt,Tt,Tt,Tt,Tt,Tt,Tt,Tt,Ff,Ff,Ff,Ff,Ff,Ff,Ff,Ff,Ff]) 7 rfl rfl rfl (gives_move rfl rfl) (fun w1 hw => hw) ?_
   refine TH.two' (listed1 := #[Tt,Tt,Tt,Tt,Tt,Tt,Tt,Tt,Tt,Ff,Ff,Ff,Ff,Ff,Ff,Ff,Ff]) (listed2 := #[Tt,Tt,Tt,Tt,Tt,Tt,Tt,Tt,Ff,Ff,Ff,Ff,Ff,Tt,Ff,Ff,Ff]) 8 13 rfl rfl (by kernel_rfl) rfl rfl ?_ ?_
   ·refine TL.pcallPm (α := AccY (accC c ((l.drop p).take m) key) (accL c ((l.drop p).take m) key)) (fun y => .tuple #[.agg #[.int .i64 ((accC c ((l.drop p).take m) key).v), .int .i64 ((accC c ((l.drop p).take m) key).run), .int .i64 ((accC c ((l.drop p).take m) key).n), .slice y.1.2.1 ((accC c ((l.drop p).take m) key).dg.length) y.1.2.2], .slice y.1.1.1 ((accL c ((l.drop p).take m) key).length) y.1.1.2, .int .i64 (accE c ((l.drop p).take m) key)]) (fun y => [.row (.slice y.1.1.1 ((accL c ((l.drop p).take m) key).length) y.1.1.2) 27 17 ((accL c ((l.drop p).take m) key).length) (rcs (accL c ((l.drop p).take m) key)), .row (.slice y.1.2.1 ((accC c ((l.drop p).take m) key).dg.length) y.1.2.2) 5 1 ((accC c ((l.drop p).take m) key).dg.length) (bv (accC c ((l.drop p).take m) key).dg)]) rfl rfl rfl rfl rfl Tryd.func23 jrecnm23 jrecbd23 (fun w1 hw => (raccept_any Ad _ cd c _ m (c1 - p) ((l.drop p).take m) A2 n2 c2 key w1 (byt_own (hw.at_ (k := 0) rfl) h.db) (byt_cutP ((hb1.below hw.bel).more hw.bel.size) (by omega) hnc) ((hb2.below hw.bel).more hw.bel.size) (by omega) (by omega) hn2l (by have := h.n0; omega) (by have := h.n1; omega) (by have := h.dl; omega)).mono fun e w2 h => h.use) ?_
    rintro ⟨⟨⟨AR, cR⟩, ⟨DR, eR⟩⟩, ⟨hAR1, hAR2⟩, ⟨hDR1, hDR2⟩⟩
    dsimp only [List.cons_append, List.nil_append]
    dsimp only at hAR1 hAR2 hDR1 hDR2
    refine TL.end_ ?_
    refine TX.held (fun w1 hw => hw.pick [2, 3, 4, 5] (by decide) rfl) ?_
    refine TH.tk (listed' := #[Tt,Tt,Tt,Tt,Tt,Tt,Tt,Tt,Tt,Tt,Ff,Ff,Ff,Ff,Ff,Ff,Ff]) 9 rfl rfl rfl (gives_move rfl rfl) (fun w1 hw => hw.pick [2, 3, 4, 5] (by decide) rfl) ?_
    refine TH.tk (listed' := #[Tt,Tt,Tt,Tt,Tt,Tt,Tt,Tt,Tt,Tt,Tt,Ff,Ff,Ff,Ff,Ff,Ff]) 10 rfl rfl rfl (gives_extract rfl rfl rfl) (fun w1 hw => hw.pick [2, 3, 4, 5] (by decide) rfl) ?_
    refine TH.tk (listed' := #[Tt,Tt,Tt,Tt,Tt,Tt,Tt,Tt,Tt,Tt,Tt,Tt,Ff,Ff,Ff,Ff,Ff]) 11 rfl rfl rfl (gives_extract rfl rfl rfl) (fun w1 hw => hw.pick [2, 3, 4, 5] (by decide) rfl) ?_
    refine TH.tk (listed' := #[Tt,Tt,Tt,Tt,Tt,Tt,Tt,Tt,Tt,Tt,Tt,Tt,Tt,Ff,Ff,Ff,Ff]) 12 rfl rfl rfl (gives_extract rfl rfl rfl) (fun w1 hw => hw.pick [2, 3, 4, 5] (by decide) rfl) ?_
    refine TH.only' (listed' := #[Tt,Tt,Tt,Tt,Tt,Tt,Tt,Tt,Tt,Tt,Tt,Tt,Tt,Tt,Ff,Ff,Ff]) 13 rfl (by kernel_rfl) rfl ?_
    refine TL.pnew rfl rfl rfl (exec_alloc (cs := [.int .i64 0, .int .i64 0, .int .i64 0, .slice none 0 0]) rfl jreczv45 rfl) (fun g12 => ?_)
    refine TL.end_ ?_
    refine TX.held (fun w1 hw => hw.pick [3, 4, 5, 6] (by decide) rfl) ?_
    refine TH.only' (listed' := #[Tt,Tt,Tt,Tt,Tt,Tt,Tt,Tt,Tt,Tt,Tt,Tt,Tt,Tt,Tt,Ff,Ff]) 14 rfl (by kernel_rfl) rfl ?_
    refine TL.pstore (k := 0) (vs := [.int .i64 ((accC c ((l.drop p).take m) key).v), .int .i64 ((accC c ((l.drop p).take m) key).run), .int .i64 ((accC c ((l.drop p).take m) key).n), .slice DR ((accC c ((l.drop p).take m) key).dg.length) eR]) rfl rfl rfl rfl rfl rfl rfl jrecsz45 jrecone_i64i64i64s (by show 4 ≤ 4; decide) (L' := [.blk g12 45 [.int .i64 ((accC c ((l.drop p).take m) key).v), .int .i64 ((accC c ((l.drop p).take m) key).run), .int .i64 ((accC c ((l.drop p).take m) key).n), .slice DR ((accC c ((l.drop p).take m) key).dg.length) eR], .row (.slice AR ((accL c ((l.drop p).take m) key).length) cR) 27 17 ((accL c ((l.drop p).take m) key).length) (rcs (accL c ((l.drop p).take m) key)), .row (.slice DR ((accC c ((l.drop p).take m) key).dg.length) eR) 5 1 ((accC c ((l.drop p).take m) key).dg.length) (bv (accC c ((l.drop p).take m) key).dg), .row (.slice Ad c.dg.length cd) 5 1 c.dg.length (bv c.dg), .row (.slice Ar rl.length cr) 27 17 rl.length (rcs rl), .blk g7 45 [.int .i64 c.v, .int .i64 c.run, .int .i64 c.n, .slice Ad c.dg.length cd], .blk g4 45 [.int .i64 0, .int .i64 0, .int .i64 0, .slice none 0 0]]) rfl ?_
    refine TL.end_ ?_
    refine TX.held (fun w1 hw => hw.pick [3, 4, 5, 6] (by decide) rfl) ?_
    refine TH.tk (listed' := #[Tt,Tt,Tt,Tt,Tt,Tt,Tt,Tt,Tt,Tt,Tt,Tt,Tt,Tt,Tt,Tt,Ff]) 15 rfl rfl rfl (gives_assign rfl rfl) (fun w1 hw => hw.pick [3, 4, 5, 6] (by decide) rfl) ?_
    refine TH.tk (listed' := #[Tt,Tt,Tt,Tt,Tt,Tt,Tt,Tt,Tt,Tt,Tt,Tt,Tt,Tt,Tt,Tt,Tt]) 16 rfl rfl rfl (gives_assign rfl rfl) (fun w1 hw => hw.pick [3, 4, 5, 6] (by decide) rfl) ?_
    refine TH.done (by kernel_rfl) ?_
    refine TX.then_ (TC.seq_ (TC.seq_ (TC.region ?_)))
    refine TL.mv ?_
    refine TL.vsplit rfl rfl rfl (gives_bin rfl rfl rfl (fun w => bin_neq w)) (fun h49 => ?_) (fun h49 => ?_)
    ·have q49 := of_decide_eq_true h49
     have hR := h.stop (fun hh => by rw [hmt] at hh; exact q49 hh.2.2)
     refine TL.end_ (TX.then_ (TC.condT rfl (TC.seq_ (TC.region ?_))))
     refine TL.val rfl rfl rfl (pm_loadV (k := 5) (i := 0) (n := 4) (v := .agg #[.int .i64 c.v, .int .i64 c.run, .int .i64 c.n, .slice Ad c.dg.length cd]) rfl rfl jrecag45 jrecsz45 rfl (by show 4 ≤ 4; decide) rfl) ?_
     refine TL.mv ?_
     refine TL.mv ?_
     refine TL.pstore (k := 6) (vs := [.int .i64 c.v, .int .i64 c.run, .int .i64 c.n, .slice Ad c.dg.length cd]) rfl rfl rfl rfl rfl rfl rfl jrecsz45 jrecone_i64i64i64s (by show 4 ≤ 4; decide) (L' := [.blk g12 45 [.int .i64 ((accC c ((l.drop p).take m) key).v), .int .i64 ((accC c ((l.drop p).take m) key).run), .int .i64 ((accC c ((l.drop p).take m) key).n), .slice DR ((accC c ((l.drop p).take m) key).dg.length) eR], .row (.slice AR ((accL c ((l.drop p).take m) key).length) cR) 27 17 ((accL c ((l.drop p).take m) key).length) (rcs (accL c ((l.drop p).take m) key)), .row (.slice DR ((accC c ((l.drop p).take m) key).dg.length) eR) 5 1 ((accC c ((l.drop p).take m) key).dg.length) (bv (accC c ((l.drop p).take m) key).dg), .row (.slice Ad c.dg.length cd) 5 1 c.dg.length (bv c.dg), .row (.slice Ar rl.length cr) 27 17 rl.length (rcs rl), .blk g7 45 [.int .i64 c.v, .int .i64 c.run, .int .i64 c.n, .slice Ad c.dg.length cd], .blk g4 45 [.int .i64 c.v, .int .i64 c.run, .int .i64 c.n, .slice Ad c.dg.length cd]]) rfl ?_
     refine TL.as_ ?_
     refine TL.as_ ?_
     refine TL.end_ (TX.then_ (TC.ret_ (TX.then_ret (TX.in_ret (TX.then_ret (TX.in_ret ?_))))))
     exact ret_cell3 (k := 6) (v := .slice Ar rl.length cr) (v2 := .int .i64 (p : Nat)) Tryd.results38 rfl rfl rfl rfl Tryd.underlying45 rfl rfl (fun w1 hw => by rw [hR]; exact ⟨Ar, cr, Ad, cd, _, _, rfl, rfl, h.r1, h.r2, h.d1, h.d2, rfl, hw.pick [4, 3] (by decide) rfl⟩)
    ·have q49 := of_decide_eq_false h49
     have ha0 : accE c ((l.drop p).take m) key = 0 := Decidable.not_not.1 q49
     refine TL.end_ (TX.then_ (TC.condF rfl (TC.skip_ (TX.then_ ?_))))
     have hrl := acc_cnt (p := p) (m := m) ha0 hb1.2
     have hrp := h.rp
     refine TC.held (ls := #[Ff,Ff,Ff,Ff,Ff,Ff,Ff,Ff,Ff,Ff]) (Pm w [.blk g12 45 [.int .i64 ((accC c ((l.drop p).take m) key).v), .int .i64 ((accC c ((l.drop p).take m) key).run), .int .i64 ((accC c ((l.drop p).take m) key).n), .slice DR ((accC c ((l.drop p).take m) key).dg.length) eR]]) (by kernel_rfl) rfl rfl (fun w hw => hw.drawn _) ?_
     refine TH.tk (listed' := #[Tt,Ff,Ff,Ff,Ff,Ff,Ff,Ff,Ff,Ff]) 0 rfl rfl rfl (pm_loadV (k := 0) (i := 0) (n := 4) (v := .agg #[.int .i64 ((accC c ((l.drop p).take m) key).v), .int .i64 ((accC c ((l.drop p).take m) key).run), .int .i64 ((accC c ((l.drop p).take m) key).n), .slice DR ((accC c ((l.drop p).take m) key).dg.length) eR]) rfl rfl jrecag45 jrecsz45 rfl (by show 4 ≤ 4; decide) rfl) (fun w1 hw => hw.pick [0] (by decide) rfl) ?_
     refine TH.tk (listed' := #[Tt,Tt,Ff,Ff,Ff,Ff,Ff,Ff,Ff,Ff]) 1 rfl rfl rfl (gives_move rfl rfl) (fun w1 hw => hw.pick [0] (by decide) rfl) ?_
     refine TH.tk (listed' := #[Tt,Tt,Tt,Ff,Ff,Ff,Ff,Ff,Ff,Ff]) 2 rfl rfl rfl (gives_move rfl rfl) (fun w1 hw => hw.pick [0] (by decide) rfl) ?_
     refine TH.tk (listed' := #[Tt,Tt,Tt,Ff,Tt,Ff,Ff,Ff,Ff,Ff]) 4 rfl rfl rfl (gives_move rfl rfl) (fun w1 hw => hw.pick [0] (by decide) rfl) ?_
     refine TH.tk (listed' := #[Tt,Tt,Tt,Ff,Tt,Tt,Ff,Ff,Ff,Ff]) 5 rfl rfl rfl (gives_move rfl rfl) (fun w1 hw => hw.pick [0] (by decide) rfl) ?_
     refine TH.tk (listed' := #[Tt,Tt,Tt,Ff,Tt,Tt,Tt,Ff,Ff,Ff]) 6 rfl rfl rfl (gives_bin rfl rfl rfl (fun w => bin_add_ (r := ((p + m : Nat) : Int)) (by simp only [IntKind.wrap_i64]; omega) w)) (fun w1 hw => hw.pick [0] (by decide) rfl) ?_
     refine TH.only' (listed' := #[Tt,Tt,Tt,Tt,Tt,Tt,Tt,Ff,Ff,Ff]) 3 rfl (by kernel_rfl) rfl ?_
     refine TL.appendT (k := 4) rfl rfl rfl rfl Tryd.underlying33 jrecel33 rfl rfl rfl (fun w1 hw => pm_reads hw (k := 1) rfl) (rcs_one _) (by omega) ((rl ++ (accL c ((l.drop p).take m) key)).length) (by rw [List.length_append]) (rcs (rl ++ (accL c ((l.drop p).take m) key))) (by rw [rcs_app]) (fun A56 c56 hA561 hA562 => ?_)
     refine TL.end_ ?_
     refine TX.held (fun w1 hw => hw.pick [0] (by decide) rfl) ?_
     refine TH.only' (listed' := #[Tt,Tt,Tt,Tt,Tt,Tt,Tt,Tt,Ff,Ff]) 7 rfl (by kernel_rfl) rfl ?_
     refine TL.pstore (k := 5) (vs := [.int .i64 ((accC c ((l.drop p).take m) key).v), .int .i64 ((accC c ((l.drop p).take m) key).run), .int .i64 ((accC c ((l.drop p).take m) key).n), .slice DR ((accC c ((l.drop p).take m) key).dg.length) eR]) rfl rfl rfl rfl rfl rfl rfl jrecsz45 jrecone_i64i64i64s (by show 4 ≤ 4; decide) (L' := [.blk g12 45 [.int .i64 ((accC c ((l.drop p).take m) key).v), .int .i64 ((accC c ((l.drop p).take m) key).run), .int .i64 ((accC c ((l.drop p).take m) key).n), .slice DR ((accC c ((l.drop p).take m) key).dg.length) eR], .row (.slice AR ((accL c ((l.drop p).take m) key).length) cR) 27 17 ((accL c ((l.drop p).take m) key).length) (rcs (accL c ((l.drop p).take m) key)), .row (.slice DR ((accC c ((l.drop p).take m) key).dg.length) eR) 5 1 ((accC c ((l.drop p).take m) key).dg.length) (bv (accC c ((l.drop p).take m) key).dg), .row (.slice Ad c.dg.length cd) 5 1 c.dg.length (bv c.dg), .row (.slice A56 ((rl ++ (accL c ((l.drop p).take m) key)).length) c56) 27 17 ((rl ++ (accL c ((l.drop p).take m) key)).length) (rcs (rl ++ (accL c ((l.drop p).take m) key))), .blk g7 45 [.int .i64 ((accC c ((l.drop p).take m) key).v), .int .i64 ((accC c ((l.drop p).take m) key).run), .int .i64 ((accC c ((l.drop p).take m) key).n), .slice DR ((accC c ((l.drop p).take m) key).dg.length) eR], .blk g4 45 [.int .i64 0, .int .i64 0, .int .i64 0, .slice none 0 0]]) rfl ?_
     refine TL.end_ ?_
     refine TX.held (fun w1 hw => hw.pick [0] (by decide) rfl) ?_
     refine TH.tk (listed' := #[Tt,Tt,Tt,Tt,Tt,Tt,Tt,Tt,Tt,Ff]) 8 rfl rfl rfl (gives_assign rfl rfl) (fun w1 hw => hw.pick [0] (by decide) rfl) ?_
     refine TH.tk (listed' := #[Tt,Tt,Tt,Tt,Tt,Tt,Tt,Tt,Tt,Tt]) 9 rfl rfl rfl (gives_assign rfl rfl) (fun w1 hw => hw.pick [0] (by decide) rfl) ?_
     refine TH.done (by kernel_rfl) ?_
     refine TX.in_normal ?_
     exact TX.round (⟨(((accC c ((l.drop p).take m) key), rl ++ (accL c ((l.drop p).take m) key), p + m, f - 1), (A56, c56), (DR, eR)), h.next hb1.2 he0 hm hml ha0 hA561 hA562 hDR1 hDR2⟩) (by show f - 1 < f; have := h.fu; omega) ⟨rfl, rfl, rfl, rfl, rfl, rfl, trivial⟩ (fun w1 hw => hw.pick [2, 4, 5, 6] (by decide) rfl)
   ·refine TL.pnew rfl rfl rfl (exec_alloc (cs := [.int .i64 0, .int .i64 0, .int .i64 0, .slice none 0 0]) rfl jreczv45 rfl) (fun g12 => ?_)
    refine TL.end_ ?_
    refine TX.held (fun w1 hw => hw.pick [1, 2, 3, 4] (by decide) rfl) ?_
    refine TH.only' (listed' := #[Tt,Tt,Tt,Tt,Tt,Tt,Tt,Tt,Tt,Ff,Ff,Ff,Ff,Tt,Ff,Ff,Ff]) 8 rfl (by kernel_rfl) rfl ?_
    refine TL.pcallPm (α := AccY (accC c ((l.drop p).take m) key) (accL c ((l.drop p).take m) key)) (fun y => .tuple #[.agg #[.int .i64 ((accC c ((l.drop p).take m) key).v), .int .i64 ((accC c ((l.drop p).take m) key).run), .int .i64 ((accC c ((l.drop p).take m) key).n), .slice y.1.2.1 ((accC c ((l.drop p).take m) key).dg.length) y.1.2.2], .slice y.1.1.1 ((accL c ((l.drop p).take m) key).length) y.1.1.2, .int .i64 (accE c ((l.drop p).take m) key)]) (fun y => [.row (.slice y.1.1.1 ((accL c ((l.drop p).take m) key).length) y.1.1.2) 27 17 ((accL c ((l.drop p).take m) key).length) (rcs (accL c ((l.drop p).take m) key)), .row (.slice y.1.2.1 ((accC c ((l.drop p).take m) key).dg.length) y.1.2.2) 5 1 ((accC c ((l.drop p).take m) key).dg.length) (bv (accC c ((l.drop p).take m) key).dg)]) rfl rfl rfl rfl rfl Tryd.func23 jrecnm23 jrecbd23 (fun w1 hw => (raccept_any Ad _ cd c _ m (c1 - p) ((l.drop p).take m) A2 n2 c2 key w1 (byt_own (hw.at_ (k := 1) rfl) h.db) (byt_cutP ((hb1.below hw.bel).more hw.bel.size) (by omega) hnc) ((hb2.below hw.bel).more hw.bel.size) (by omega) (by omega) hn2l (by have := h.n0; omega) (by have := h.n1; omega) (by have := h.dl; omega)).mono fun e w2 h => h.use) ?_
    rintro ⟨⟨⟨AR, cR⟩, ⟨DR, eR⟩⟩, ⟨hAR1, hAR2⟩, ⟨hDR1, hDR2⟩⟩
    dsimp only [List.cons_append, List.nil_append]
    dsimp only at hAR1 hAR2 hDR1 hDR2
    refine TL.end_ ?_
    refine TX.held (fun w1 hw => hw.pick [3, 4, 5, 6] (by decide) rfl) ?_
    refine TH.tk (listed' := #[Tt,Tt,Tt,Tt,Tt,Tt,Tt,Tt,Tt,Tt,Ff,Ff,Ff,Tt,Ff,Ff,Ff]) 9 rfl rfl rfl (gives_move rfl rfl) (fun w1 hw => hw.pick [3, 4, 5, 6] (by decide) rfl) ?_
    refine TH.tk (listed' := #[Tt,Tt,Tt,Tt,Tt,Tt,Tt,Tt,Tt,Tt,Tt,Ff,Ff,Tt,Ff,Ff,Ff]) 10 rfl rfl rfl (gives_extract rfl rfl rfl) (fun w1 hw => hw.pick [3, 4, 5, 6] (by decide) rfl) ?_
    refine TH.tk (listed' := #[Tt,Tt,Tt,Tt,Tt,Tt,Tt,Tt,Tt,Tt,Tt,Tt,Ff,Tt,Ff,Ff,Ff]) 11 rfl rfl rfl (gives_extract rfl rfl rfl) (fun w1 hw => hw.pick [3, 4, 5, 6] (by decide) rfl) ?_
    refine TH.tk (listed' := #[Tt,Tt,Tt,Tt,Tt,Tt,Tt,Tt,Tt,Tt,Tt,Tt,Tt,Tt,Ff,Ff,Ff]) 12 rfl rfl rfl (gives_extract rfl rfl rfl) (fun w1 hw => hw.pick [3, 4, 5, 6] (by decide) rfl) ?_
    refine TH.only' (listed' := #[Tt,Tt,Tt,Tt,Tt,Tt,Tt,Tt,Tt,Tt,Tt,Tt,Tt,Tt,Tt,Ff,Ff]) 14 rfl (by kernel_rfl) rfl ?_
    refine TL.pstore (k := 2) (vs := [.int .i64 ((accC c ((l.drop p).take m) key).v), .int .i64 ((accC c ((l.drop p).take m) key).run), .int .i64 ((accC c ((l.drop p).take m) key).n), .slice DR ((accC c ((l.drop p).take m) key).dg.length) eR]) rfl rfl rfl rfl rfl rfl rfl jrecsz45 jrecone_i64i64i64s (by show 4 ≤ 4; decide) (L' := [.row (.slice AR ((accL c ((l.drop p).take m) key).length) cR) 27 17 ((accL c ((l.drop p).take m) key).length) (rcs (accL c ((l.drop p).take m) key)), .row (.slice DR ((accC c ((l.drop p).take m) key).dg.length) eR) 5 1 ((accC c ((l.drop p).take m) key).dg.length) (bv (accC c ((l.drop p).take m) key).dg), .blk g12 45 [.int .i64 ((accC c ((l.drop p).take m) key).v), .int .i64 ((accC c ((l.drop p).take m) key).run), .int .i64 ((accC c ((l.drop p).take m) key).n), .slice DR ((accC c ((l.drop p).take m) key).dg.length) eR], .row (.slice Ad c.dg.length cd) 5 1 c.dg.length (bv c.dg), .row (.slice Ar rl.length cr) 27 17 rl.length (rcs rl), .blk g7 45 [.int .i64 c.v, .int .i64 c.run, .int .i64 c.n, .slice Ad c.dg.length cd], .blk g4 45 [.int .i64 0, .int .i64 0, .int .i64 0, .slice none 0 0]]) rfl ?_
    refine TL.end_ ?_
    refine TX.held (fun w1 hw => hw.pick [3, 4, 5, 6] (by decide) rfl) ?_
    refine TH.tk (listed' := #[Tt,Tt,Tt,Tt,Tt,Tt,Tt,Tt,Tt,Tt,Tt,Tt,Tt,Tt,Tt,Tt,Ff]) 15 rfl rfl rfl (gives_assign rfl rfl) (fun w1 hw => hw.pick [3, 4, 5, 6] (by decide) rfl) ?_
    refine TH.tk (listed' := #[Tt,Tt,Tt,Tt,Tt,Tt,Tt,Tt,Tt,Tt,Tt,Tt,Tt,Tt,Tt,Tt,Tt]) 16 rfl rfl rfl (gives_assign rfl rfl) (fun w1 hw => hw.pick [3, 4, 5, 6] (by decide) rfl) ?_
    refine TH.done (by kernel_rfl) ?_
    refine TX.then_ (TC.seq_ (TC.seq_ (TC.region ?_)))
    refine TL.mv ?_
    refine TL.vsplit rfl rfl rfl (gives_bin rfl rfl rfl (fun w => bin_neq w)) (fun h49 => ?_) (fun h49 => ?_)
    ·have q49 := of_decide_eq_true h49
     have hR := h.stop (fun hh => by rw [hmt] at hh; exact q49 hh.2.2)
     refine TL.end_ (TX.then_ (TC.condT rfl (TC.seq_ (TC.region ?_))))
     refine TL.val rfl rfl rfl (pm_loadV (k := 5) (i := 0) (n := 4) (v := .agg #[.int .i64 c.v, .int .i64 c.run, .int .i64 c.n, .slice Ad c.dg.length cd]) rfl rfl jrecag45 jrecsz45 rfl (by show 4 ≤ 4; decide) rfl) ?_
     refine TL.mv ?_
     refine TL.mv ?_
     refine TL.pstore (k := 6) (vs := [.int .i64 c.v, .int .i64 c.run, .int .i64 c.n, .slice Ad c.dg.length cd]) rfl rfl rfl rfl rfl rfl rfl jrecsz45 jrecone_i64i64i64s (by show 4 ≤ 4; decide) (L' := [.row (.slice AR ((accL c ((l.drop p).take m) key).length) cR) 27 17 ((accL c ((l.drop p).take m) key).length) (rcs (accL c ((l.drop p).take m) key)), .row (.slice DR ((accC c ((l.drop p).take m) key).dg.length) eR) 5 1 ((accC c ((l.drop p).take m) key).dg.length) (bv (accC c ((l.drop p).take m) key).dg), .blk g12 45 [.int .i64 ((accC c ((l.drop p).take m) key).v), .int .i64 ((accC c ((l.drop p).take m) key).run), .int .i64 ((accC c ((l.drop p).take m) key).n), .slice DR ((accC c ((l.drop p).take m) key).dg.length) eR], .row (.slice Ad c.dg.length cd) 5 1 c.dg.length (bv c.dg), .row (.slice Ar rl.length cr) 27 17 rl.length (rcs rl), .blk g7 45 [.int .i64 c.v, .int .i64 c.run, .int .i64 c.n, .slice Ad c.dg.length cd], .blk g4 45 [.int .i64 c.v, .int .i64 c.run, .int .i64 c.n, .slice Ad c.dg.length cd]]) rfl ?_
     refine TL.as_ ?_
     refine TL.as_ ?_
     refine TL.end_ (TX.then_ (TC.ret_ (TX.then_ret (TX.in_ret (TX.then_ret (TX.in_ret ?_))))))
     exact ret_cell3 (k := 6) (v := .slice Ar rl.length cr) (v2 := .int .i64 (p : Nat)) Tryd.results38 rfl rfl rfl rfl Tryd.underlying45 rfl rfl (fun w1 hw => by rw [hR]; exact ⟨Ar, cr, Ad, cd, _, _, rfl, rfl, h.r1, h.r2, h.d1, h.d2, rfl, hw.pick [4, 3] (by decide) rfl⟩)
    ·have q49 := of_decide_eq_false h49
     have ha0 : accE c ((l.drop p).take m) key = 0 := Decidable.not_not.1 q49
     refine TL.end_ (TX.then_ (TC.condF rfl (TC.skip_ (TX.then_ ?_))))
     have hrl := acc_cnt (p := p) (m := m) ha0 hb1.2
     have hrp := h.rp
     refine TC.held (ls := #[Ff,Ff,Ff,Ff,Ff,Ff,Ff,Ff,Ff,Ff]) (Pm w [.blk g12 45 [.int .i64 ((accC c ((l.drop p).take m) key).v), .int .i64 ((accC c ((l.drop p).take m) key).run), .int .i64 ((accC c ((l.drop p).take m) key).n), .slice DR ((accC c ((l.drop p).take m) key).dg.length) eR]]) (by kernel_rfl) rfl rfl (fun w hw => hw.drawn _) ?_
     refine TH.tk (listed' := #[Tt,Ff,Ff,Ff,Ff,Ff,Ff,Ff,Ff,Ff]) 0 rfl rfl rfl (pm_loadV (k := 0) (i := 0) (n := 4) (v := .agg #[.int .i64 ((accC c ((l.drop p).take m) key).v), .int .i64 ((accC c ((l.drop p).take m) key).run), .int .i64 ((accC c ((l.drop p).take m) key).n), .slice DR ((accC c ((l.drop p).take m) key).dg.length) eR]) rfl rfl jrecag45 jrecsz45 rfl (by show 4 ≤ 4; decide) rfl) (fun w1 hw => hw.pick [2] (by decide) rfl) ?_
     refine TH.tk (listed' := #[Tt,Tt,Ff,Ff,Ff,Ff,Ff,Ff,Ff,Ff]) 1 rfl rfl rfl (gives_move rfl rfl) (fun w1 hw => hw.pick [2] (by decide) rfl) ?_
     refine TH.tk (listed' := #[Tt,Tt,Tt,Ff,Ff,Ff,Ff,Ff,Ff,Ff]) 2 rfl rfl rfl (gives_move rfl rfl) (fun w1 hw => hw.pick [2] (by decide) rfl) ?_
     refine TH.tk (listed' := #[Tt,Tt,Tt,Ff,Tt,Ff,Ff,Ff,Ff,Ff]) 4 rfl rfl rfl (gives_move rfl rfl) (fun w1 hw => hw.pick [2] (by decide) rfl) ?_
     refine TH.tk (listed' := #[Tt,Tt,Tt,Ff,Tt,Tt,Ff,Ff,Ff,Ff]) 5 rfl rfl rfl (gives_move rfl rfl) (fun w1 hw => hw.pick [2] (by decide) rfl) ?_
     refine TH.tk (listed' := #[Tt,Tt,Tt,Ff,Tt,Tt,Tt,Ff,Ff,Ff]) 6 rfl rfl rfl (gives_bin rfl rfl rfl (fun w => bin_add_ (r := ((p + m : Nat) : Int)) (by simp only [IntKind.wrap_i64]; omega) w)) (fun w1 hw => hw.pick [2] (by decide) rfl) ?_
     refine TH.only' (listed' := #[Tt,Tt,Tt,Tt,Tt,Tt,Tt,Ff,Ff,Ff]) 3 rfl (by kernel_rfl) rfl ?_
     refine TL.appendT (k := 4) rfl rfl rfl rfl Tryd.underlying33 jrecel33 rfl rfl rfl (fun w1 hw => pm_reads hw (k := 0) rfl) (rcs_one _) (by omega) ((rl ++ (accL c ((l.drop p).take m) key)).length) (by rw [List.length_append]) (rcs (rl ++ (accL c ((l.drop p).take m) key))) (by rw [rcs_app]) (fun A56 c56 hA561 hA562 => ?_)
     refine TL.end_ ?_
     refine TX.held (fun w1 hw => hw.pick [2] (by decide) rfl) ?_
     refine TH.only' (listed' := #[Tt,Tt,Tt,Tt,Tt,Tt,Tt,Tt,Ff,Ff]) 7 rfl (by kernel_rfl) rfl ?_
     refine TL.pstore (k := 5) (vs := [.int .i64 ((accC c ((l.drop p).take m) key).v), .int .i64 ((accC c ((l.drop p).take m) key).run), .int .i64 ((accC c ((l.drop p).take m) key).n), .slice DR ((accC c ((l.drop p).take m) key).dg.length) eR]) rfl rfl rfl rfl rfl rfl rfl jrecsz45 jrecone_i64i64i64s (by show 4 ≤ 4; decide) (L' := [.row (.slice AR ((accL c ((l.drop p).take m) key).length) cR) 27 17 ((accL c ((l.drop p).take m) key).length) (rcs (accL c ((l.drop p).take m) key)), .row (.slice DR ((accC c ((l.drop p).take m) key).dg.length) eR) 5 1 ((accC c ((l.drop p).take m) key).dg.length) (bv (accC c ((l.drop p).take m) key).dg), .blk g12 45 [.int .i64 ((accC c ((l.drop p).take m) key).v), .int .i64 ((accC c ((l.drop p).take m) key).run), .int .i64 ((accC c ((l.drop p).take m) key).n), .slice DR ((accC c ((l.drop p).take m) key).dg.length) eR], .row (.slice Ad c.dg.length cd) 5 1 c.dg.length (bv c.dg), .row (.slice A56 ((rl ++ (accL c ((l.drop p).take m) key)).length) c56) 27 17 ((rl ++ (accL c ((l.drop p).take m) key)).length) (rcs (rl ++ (accL c ((l.drop p).take m) key))), .blk g7 45 [.int .i64 ((accC c ((l.drop p).take m) key).v), .int .i64 ((accC c ((l.drop p).take m) key).run), .int .i64 ((accC c ((l.drop p).take m) key).n), .slice DR ((accC c ((l.drop p).take m) key).dg.length) eR], .blk g4 45 [.int .i64 0, .int .i64 0, .int .i64 0, .slice none 0 0]]) rfl ?_
     refine TL.end_ ?_
     refine TX.held (fun w1 hw => hw.pick [2] (by decide) rfl) ?_
     refine TH.tk (listed' := #[Tt,Tt,Tt,Tt,Tt,Tt,Tt,Tt,Tt,Ff]) 8 rfl rfl rfl (gives_assign rfl rfl) (fun w1 hw => hw.pick [2] (by decide) rfl) ?_
     refine TH.tk (listed' := #[Tt,Tt,Tt,Tt,Tt,Tt,Tt,Tt,Tt,Tt]) 9 rfl rfl rfl (gives_assign rfl rfl) (fun w1 hw => hw.pick [2] (by decide) rfl) ?_
     refine TH.done (by kernel_rfl) ?_
     refine TX.in_normal ?_
     exact TX.round (⟨(((accC c ((l.drop p).take m) key), rl ++ (accL c ((l.drop p).take m) key), p + m, f - 1), (A56, c56), (DR, eR)), h.next hb1.2 he0 hm hml ha0 hA561 hA562 hDR1 hDR2⟩) (by show f - 1 < f; have := h.fu; omega) ⟨rfl, rfl, rfl, rfl, rfl, rfl, trivial⟩ (fun w1 hw => hw.pick [1, 4, 5, 6] (by decide) rfl)
end Go.Proofs.YtmeaeeehnkcblaaDoor

namespace Go.Proofs.YtmeaeeehnkcblaaDoor
open Go.RowKit
set_option linter.unusedVariables false
set_option linter.unusedSimpArgs false
set_option maxRecDepth 20000
theorem jlbnm9 : (Tryd.f9.name == "runtime.NumGoroutine") = false := by decide
theorem jlbbd9 : Tryd.f9.body.isNone = false := rfl
theorem jlbnm10 : (Tryd.f10.name == "runtime.NumGoroutine") = false := by decide
theorem jlbbd10 : Tryd.f10.body.isNone = false := rfl
theorem jlbnm20 : (Tryd.f20.name == "runtime.NumGoroutine") = false := by decide
theorem jlbbd20 : Tryd.f20.body.isNone = false := rfl
theorem jlbzv45 (w : World) : (zeroValue 45).run Tryd.prog w = .ok (.agg #[.int .i64 0, .int .i64 0, .int .i64 0, .slice none 0 0]) w := rfl
theorem jlbsz45 (w : World) : (sizeOf 45).run Tryd.prog w = .ok 4 w := rfl
theorem jlbone_i64i64i64s {a0 : Int} {a1 : Int} {a2 : Int} {a3 : Option Addr} {n3 c3 : Nat} : ∀ u ∈ [(.int .i64 a0 : Value), .int .i64 a1, .int .i64 a2, .slice a3 n3 c3], u.oneCell' = true := by
 intro u hu
 simp only [List.mem_cons, List.not_mem_nil, or_false] at hu
 rcases hu with rfl | rfl | rfl | rfl <;> rfl
theorem jlbag45 (w : World) : (isAgg 45).run Tryd.prog w = .ok true w := rfl
theorem jlbnm22 : (Tryd.f22.name == "runtime.NumGoroutine") = false := by decide
theorem jlbbd22 : Tryd.f22.body.isNone = false := rfl
theorem jlbel33 : Elem Tryd.prog 33 27 17 128 := Elem.mk' Tryd.underlying33 (z := .agg #[.int .i64 0, .int .i64 0, .int .i64 0, .int .i64 0, .int .u32 0, .int .i64 0, .int .i64 0, .int .i64 0, .bool false, .bool false, .int .i64 0, .int .u32 0, .int .i64 0, .int .i64 0, .int .i64 0, .int .i64 0, .int .i64 0]) (by kernel_rfl) rfl (by omega) (by omega)
theorem jlbnm31 : (Tryd.f31.name == "runtime.NumGoroutine") = false := by decide
theorem jlbbd31 : Tryd.f31.body.isNone = false := rfl
theorem jlbnm32 : (Tryd.f32.name == "runtime.NumGoroutine") = false := by decide
theorem jlbbd32 : Tryd.f32.body.isNone = false := rfl
theorem jlbnm26 : (Tryd.f26.name == "runtime.NumGoroutine") = false := by decide
theorem jlbbd26 : Tryd.f26.body.isNone = false := rfl
theorem jlbnm27 : (Tryd.f27.name == "runtime.NumGoroutine") = false := by decide
theorem jlbbd27 : Tryd.f27.body.isNone = false := rfl
set_option maxHeartbeats 4000000 in
set_option maxRecDepth 100000 in
theorem journalBack_walk (A0 : Option Addr) (n0 c0 : Nat) (l0 : List Int) (w : World) (hb0 : Byt w w.heap.size A0 n0 l0) (hnc0 : n0 ≤ c0) (hm0 : c0 ≤ maxLen) {ts tk : TypeId} (hst : Blk w 0 ts start8.cells) (hky : Blk w 1 tk (arrOf keysL)) :
  Calls Tryd.prog 6 #[.slice A0 n0 c0] w fun e w' => e = .returned (.bool true) ∧ Below w.heap.size w w' := by
 refine begin_ (vs := [.slice A0 n0 c0]) Tryd.func6 rfl rfl rfl ?_ (Pm.start w)
 refine TC.seq_ (TC.region ?_)
 refine TL.as_ ?_
 refine TL.end_ (TX.then_ (TC.seq_ (TC.seq_ (TC.region ?_))))
 refine TL.pcall1 (r := .bool true) rfl rfl rfl rfl rfl Tryd.func9 jlbnm9 jlbbd9 (fun w1 hw => awake_any w1 (hst.below hw.bel hst.lt) (hky.below hw.bel hky.lt)) ?_
 refine TL.val rfl rfl rfl (gives_boolnot rfl rfl) ?_
 refine TL.end_ (TX.then_ (TC.condF rfl (TC.skip_ (TX.then_ (TC.seq_ (TC.region ?_))))))
 refine TL.mv ?_
 refine TL.callNew (I := Pm w []) (p := fun cb w => Cod w cb) rfl rfl rfl rfl rfl Tryd.func10 jlbnm10 jlbbd10 (fun w1 hw => (new_any A0 n0 c0 l0 w1 400 ((hb0.below hw.bel).more hw.bel.size) hnc0 (by have := hm0; unfold maxLen at this; omega) (by decide) (by decide)).mono fun e w2 ⟨h1, h2, h3, _⟩ => ⟨h1, h2, cod_cells h2, h3⟩) cod_stab (fun wn hwn => ?_)
 replace hst := hst.below hwn.bel hst.lt
 replace hky := hky.below hwn.bel hky.lt
 refine TL.as_ ?_
 refine TL.end_ (TX.then_ (TC.seq_ (TC.region ?_)))
 refine TL.mv ?_
 refine TL.pcallCod (k := 0) (α := {b : Bk // BkI b ∧ b.ss.length ≤ 5}) (fun y => bookV y.1) (fun y => bookL y.1 ++ segP y.1.ss) rfl rfl rfl rfl rfl Tryd.func20 jlbnm20 jlbbd20 rfl (fun w1 hw hC1 => book_cod wn.heap.size w1 hC1) ?_ (fun y => noAbs_app rfl (segP_noAbs _))
 rintro ⟨⟨As, cs, ss, Aa, ca, all, Ad, cd, ch, Ak, ck, key⟩, hB, hss⟩
 dsimp only [bookV] at hB hss ⊢
 refine TL.mem (I' := Pm wn ([.row (.slice As ss.length cs) 28 1 ss.length (ss.map Sl.val), .row (.slice Aa all.length ca) 27 17 all.length (rcs all), .row (.slice Ad ch.dg.length cd) 5 1 ch.dg.length (bv ch.dg), .row (.slice Ak key.length ck) 5 1 key.length (bv key), .abs wn.heap.size (fun w => Cod w wn.heap.size)] ++ segP ss)) (fun w1 hw => hw.perm (perm3 _ _ _)) ?_
 have hj := hB.jr
 obtain ⟨ls, hls⟩ : ∃ ls, ss.map (fun s => s.l) = ls := ⟨_, rfl⟩
 dsimp only at hj
 rw [hls] at hj
 have hJ := jrn_inv hj
 have hf := jrn_fold hj
 have hsg := jrn_seg hj
 have hso : ∀ s ∈ ss, SlOk s := hB.so
 have hlen : ls.length = ss.length := by rw [← hls, List.length_map]
 have hpos : 0 < ss.length := by have := jrn_pos hj; omega
 have hal : all.length + 4 ≤ 4 * ss.length := hB.al
 have hk8 : key.length ≤ 8 := hB.k8
 refine TL.fact (p := ∃ g, As = some ⟨g, 0, none⟩) (fun w1 hw => row_some (hw.at_ (k := 0) rfl) hpos) (fun hg => ?_)
 obtain ⟨gS, rfl⟩ := hg
 iterate 5 (first | refine TL.ex ?_ | refine TL.mv ?_)
 refine TL.pnew rfl rfl rfl (exec_alloc (cs := [.int .i64 0, .int .i64 0, .int .i64 0, .slice none 0 0]) rfl jlbzv45 rfl) (fun g6 => ?_)
 refine TL.as_ ?_
 refine TL.as_ ?_
 refine TL.pstore (k := 0) (vs := [.int .i64 ch.v, .int .i64 ch.run, .int .i64 ch.n, .slice Ad ch.dg.length cd]) rfl rfl rfl rfl rfl rfl rfl jlbsz45 jlbone_i64i64i64s (by show 4 ≤ 4; decide) (L' := ([.blk g6 45 [.int .i64 ch.v, .int .i64 ch.run, .int .i64 ch.n, .slice Ad ch.dg.length cd], .row (.slice (some ⟨gS, 0, none⟩) ss.length cs) 28 1 ss.length (ss.map Sl.val), .row (.slice Aa all.length ca) 27 17 all.length (rcs all), .row (.slice Ad ch.dg.length cd) 5 1 ch.dg.length (bv ch.dg), .row (.slice Ak key.length ck) 5 1 key.length (bv key), .abs wn.heap.size (fun w => Cod w wn.heap.size)] ++ segP ss)) rfl ?_
 refine TL.as_ ?_
 refine TL.end_ (TX.then_ (TC.seq_ (TC.region ?_)))
 refine TL.pnew rfl rfl rfl (exec_alloc (cs := [.int .i64 0, .int .i64 0, .int .i64 0, .slice none 0 0]) rfl jlbzv45 rfl) (fun g8 => ?_)
 refine TL.end_ (TX.then_ (TC.seq_ (TC.region ?_)))
 refine TL.as_ ?_
 refine TL.end_ (TX.then_ (TC.seq_ (TC.seq_ (TC.region ?_))))
 refine TL.as_ ?_
 refine TL.end_ (TX.then_ (TC.block ?_))
 refine TC.nilrow 27 17 ?_
 refine TC.nilrow 5 1 ?_
 refine TC.loop_ (α := {y : (Nat × Chn × List Rs) × (Option Addr × Nat) × (Option Addr × Nat) // y.1.1 ≤ ss.length ∧ foldS key (ls.take y.1.1) = (y.1.2.1, y.1.2.2) ∧ y.1.2.2.length ≤ y.2.1.2 ∧ y.2.1.2 ≤ maxLen ∧ y.1.2.1.dg.length ≤ y.2.2.2 ∧ y.2.2.2 ≤ maxLen}) (fun y => [(3, .pointer (some ⟨wn.heap.size, 0, none⟩)), (4, .slice (some ⟨gS, 0, none⟩) ss.length cs), (5, .slice Aa all.length ca), (6, .pointer (some ⟨g6, 0, none⟩)), (7, .slice Ak key.length ck), (8, .pointer (some ⟨g8, 0, none⟩)), (9, .slice y.1.2.1.1 y.1.1.2.2.length y.1.2.1.2), (10, .int .i64 (y.1.1.1 : Nat))]) (fun y => Pm wn ([.row (.slice (some ⟨gS, 0, none⟩) ss.length cs) 28 1 ss.length (ss.map Sl.val), .row (.slice Aa all.length ca) 27 17 all.length (rcs all), .row (.slice Ad ch.dg.length cd) 5 1 ch.dg.length (bv ch.dg), .row (.slice Ak key.length ck) 5 1 key.length (bv key), .row (.slice y.1.2.2.1 y.1.1.2.1.dg.length y.1.2.2.2) 5 1 y.1.1.2.1.dg.length (bv y.1.1.2.1.dg), .row (.slice y.1.2.1.1 y.1.1.2.2.length y.1.2.1.2) 27 17 y.1.1.2.2.length (rcs y.1.1.2.2), .blk g8 45 [.int .i64 y.1.1.2.1.v, .int .i64 y.1.1.2.1.run, .int .i64 y.1.1.2.1.n, .slice y.1.2.2.1 y.1.1.2.1.dg.length y.1.2.2.2], .blk g6 45 [.int .i64 ch.v, .int .i64 ch.run, .int .i64 ch.n, .slice Ad ch.dg.length cd]] ++ segP ss)) (fun y => ss.length - y.1.1.1) (⟨((0, Chn.zero, []), (none, 0), (none, 0)), Nat.zero_le _, rfl, Nat.le_refl _, Nat.zero_le _, Nat.le_refl _, Nat.zero_le _⟩) ⟨rfl, rfl, rfl, rfl, rfl, rfl, rfl, rfl, trivial⟩ (fun w1 hw => hw.pickT 9 [4, 5, 6, 7, 0, 1, 2, 3] (by decide) (by decide) rfl rfl) ?_
 rintro ⟨⟨⟨i, c, rl⟩, ⟨Ar, cr⟩, ⟨A2, c2⟩⟩, hi, hfo, hr1, hr2, hd1, hd2⟩
 dsimp only at hi hfo hr1 hr2 hd1 hd2 ⊢
 obtain ⟨hi1, hi2_, hi3, hi4, hi5⟩ := fold_inv hf.2 hsg i (by omega)
 rw [hfo] at hi1 hi2_ hi3 hi4 hi5
 dsimp only at hi1 hi2_ hi3 hi4 hi5
 refine TC.seq_ (TC.seq_ (TC.region ?_))
 refine TL.mv ?_
 refine TL.mv ?_
 refine TL.val rfl rfl rfl (gives_len rfl Tryd.underlying40 rfl) ?_
 refine TL.vsplit rfl rfl rfl (gives_bin rfl rfl rfl (fun w => bin_lss w)) (fun h32 => ?_) (fun h32 => ?_)
 ·have q32 := of_decide_eq_true h32
  have hi2 : i < ss.length := by omega
  obtain ⟨s, hs_s⟩ : ∃ s, ss[i]? = some s := ⟨_, List.getElem?_eq_getElem (by omega)⟩
  have hm_s := List.mem_of_getElem? hs_s
  have hso_s := hso s hm_s
  have hsc_s : (ss.map Sl.val)[0 + i * 1]? = some s.val := by rw [Nat.zero_add, Nat.mul_one, List.getElem?_map, hs_s]; rfl
  have hsl_s : ls[i]? = some s.l := by rw [← hls, List.getElem?_map, hs_s]; rfl
  have ha0 : accE c s.l key = 0 := by have := hf.2 i s.l hsl_s; rw [hfo] at this; exact this
  have hcn : (accL c s.l key).length ≤ 64 := by rw [(acR_ok ha0).2.1, rlB_len]; have := (whole_cnt hso_s.2.2.2.1 (hsg s.l (List.mem_of_getElem? hsl_s)).1).2.1; omega
  refine TL.end_ (TX.then_ (TC.condT rfl (TC.skip_ (TX.then_ (TC.seq_ (TC.block (TC.seq_ ?_)))))))
  refine TC.held (ls := #[Ff,Ff,Ff,Ff,Ff,Ff,Ff,Ff,Ff,Ff,Ff,Ff,Ff,Ff,Ff]) (Pm wn [.row (.slice (some ⟨gS, 0, none⟩) ss.length cs) 28 1 ss.length (ss.map Sl.val), .blk g8 45 [.int .i64 c.v, .int .i64 c.run, .int .i64 c.n, .slice A2 c.dg.length c2]]) (by kernel_rfl) rfl rfl (fun w hw => hw.drawn _) ?_
  refine TH.tk (listed' := #[Tt,Ff,Ff,Ff,Ff,Ff,Ff,Ff,Ff,Ff,Ff,Ff,Ff,Ff,Ff]) 0 rfl rfl rfl (pm_loadV (k := 1) (i := 0) (n := 4) (v := .agg #[.int .i64 c.v, .int .i64 c.run, .int .i64 c.n, .slice A2 c.dg.length c2]) rfl rfl jlbag45 jlbsz45 rfl (by show 4 ≤ 4; decide) rfl) (fun w1 hw => hw.pick [0, 6] (by decide) rfl) ?_
  refine TH.tk (listed' := #[Tt,Tt,Ff,Ff,Ff,Ff,Ff,Ff,Ff,Ff,Ff,Ff,Ff,Ff,Ff]) 1 rfl rfl rfl (gives_move rfl rfl) (fun w1 hw => hw.pick [0, 6] (by decide) rfl) ?_
  refine TH.tk (listed' := #[Tt,Tt,Tt,Ff,Ff,Ff,Ff,Ff,Ff,Ff,Ff,Ff,Ff,Ff,Ff]) 2 rfl rfl rfl (gives_move rfl rfl) (fun w1 hw => hw.pick [0, 6] (by decide) rfl) ?_
  refine TH.tk (listed' := #[Tt,Tt,Tt,Tt,Ff,Ff,Ff,Ff,Ff,Ff,Ff,Ff,Ff,Ff,Ff]) 3 rfl rfl rfl (gives_at (v := .pointer (some ⟨gS, 0 + i * 1, none⟩)) rfl rfl rfl (fun w => at_el Tryd.underlying40 (fun w => rfl) rfl ss.length cs i hi2 rfl w)) (fun w1 hw => hw.pick [0, 6] (by decide) rfl) ?_
  refine TH.tk (listed' := #[Tt,Tt,Tt,Tt,Tt,Ff,Ff,Ff,Ff,Ff,Ff,Ff,Ff,Ff,Ff]) 4 rfl rfl rfl (pm_loadRow (k := 0) (v := s.val) rfl rfl (fun w => rfl) rfl hsc_s) (fun w1 hw => hw.pick [0, 6] (by decide) rfl) ?_
  refine TH.tk (listed' := #[Tt,Tt,Tt,Tt,Tt,Tt,Ff,Ff,Ff,Ff,Ff,Ff,Ff,Ff,Ff]) 5 rfl rfl rfl (gives_move rfl rfl) (fun w1 hw => hw.pick [0, 6] (by decide) rfl) ?_
  refine TH.two' (listed1 := #[Tt,Tt,Tt,Tt,Tt,Tt,Tt,Ff,Ff,Ff,Ff,Ff,Ff,Ff,Ff]) (listed2 := #[Tt,Tt,Tt,Tt,Tt,Tt,Ff,Ff,Ff,Ff,Ff,Tt,Ff,Ff,Ff]) 6 11 rfl rfl (by kernel_rfl) rfl rfl ?_ ?_
  ·refine TL.pcallPm (α := AccY (accC c s.l key) (accL c s.l key)) (fun y => .tuple #[.agg #[.int .i64 ((accC c s.l key).v), .int .i64 ((accC c s.l key).run), .int .i64 ((accC c s.l key).n), .slice y.1.2.1 ((accC c s.l key).dg.length) y.1.2.2], .slice y.1.1.1 ((accL c s.l key).length) y.1.1.2, .int .i64 0]) (fun y => [.row (.slice y.1.1.1 ((accL c s.l key).length) y.1.1.2) 27 17 ((accL c s.l key).length) (rcs (accL c s.l key)), .row (.slice y.1.2.1 ((accC c s.l key).dg.length) y.1.2.2) 5 1 ((accC c s.l key).dg.length) (bv (accC c s.l key).dg)]) rfl rfl rfl rfl rfl Tryd.func22 jlbnm22 jlbbd22 (fun w1 hw => (accept_any A2 _ c2 c s.A s.n s.c s.l Ak _ ck key w1 (byt_own (hw.at_ (k := 4) rfl) hi4) (hw.seg 8 rfl (segP_mem hm_s) hso_s.2.2.2.1) (byt_own (hw.at_ (k := 3) rfl) hB.kb) hso_s.2.1 (by have := hso_s.2.2.2.2.2; omega) (by omega) (by omega) (by omega) (hst.below hw.bel hst.lt) (hky.below hw.bel hky.lt)).mono fun e w2 h => by rw [ha0] at h; exact h.use) ?_
   rintro ⟨⟨⟨AR, cR⟩, ⟨DR, eR⟩⟩, ⟨hAR1, hAR2⟩, ⟨hDR1, hDR2⟩⟩
   dsimp only [List.cons_append, List.nil_append]
   dsimp only at hAR1 hAR2 hDR1 hDR2
   refine TL.end_ ?_
   refine TX.held (fun w1 hw => hw.pick [2, 8] (by decide) rfl) ?_
   refine TH.tk (listed' := #[Tt,Tt,Tt,Tt,Tt,Tt,Tt,Tt,Ff,Ff,Ff,Ff,Ff,Ff,Ff]) 7 rfl rfl rfl (gives_move rfl rfl) (fun w1 hw => hw.pick [2, 8] (by decide) rfl) ?_
   refine TH.tk (listed' := #[Tt,Tt,Tt,Tt,Tt,Tt,Tt,Tt,Tt,Ff,Ff,Ff,Ff,Ff,Ff]) 8 rfl rfl rfl (gives_extract rfl rfl rfl) (fun w1 hw => hw.pick [2, 8] (by decide) rfl) ?_
   refine TH.tk (listed' := #[Tt,Tt,Tt,Tt,Tt,Tt,Tt,Tt,Tt,Tt,Ff,Ff,Ff,Ff,Ff]) 9 rfl rfl rfl (gives_extract rfl rfl rfl) (fun w1 hw => hw.pick [2, 8] (by decide) rfl) ?_
   refine TH.tk (listed' := #[Tt,Tt,Tt,Tt,Tt,Tt,Tt,Tt,Tt,Tt,Tt,Ff,Ff,Ff,Ff]) 10 rfl rfl rfl (gives_extract rfl rfl rfl) (fun w1 hw => hw.pick [2, 8] (by decide) rfl) ?_
   refine TH.only' (listed' := #[Tt,Tt,Tt,Tt,Tt,Tt,Tt,Tt,Tt,Tt,Tt,Tt,Ff,Ff,Ff]) 11 rfl (by kernel_rfl) rfl ?_
   refine TL.pnew rfl rfl rfl (exec_alloc (cs := [.int .i64 0, .int .i64 0, .int .i64 0, .slice none 0 0]) rfl jlbzv45 rfl) (fun g11 => ?_)
   refine TL.end_ ?_
   refine TX.held (fun w1 hw => hw.pick [3, 9] (by decide) rfl) ?_
   refine TH.only' (listed' := #[Tt,Tt,Tt,Tt,Tt,Tt,Tt,Tt,Tt,Tt,Tt,Tt,Tt,Ff,Ff]) 12 rfl (by kernel_rfl) rfl ?_
   refine TL.pstore (k := 0) (vs := [.int .i64 ((accC c s.l key).v), .int .i64 ((accC c s.l key).run), .int .i64 ((accC c s.l key).n), .slice DR ((accC c s.l key).dg.length) eR]) rfl rfl rfl rfl rfl rfl rfl jlbsz45 jlbone_i64i64i64s (by show 4 ≤ 4; decide) (L' := ([.blk g11 45 [.int .i64 ((accC c s.l key).v), .int .i64 ((accC c s.l key).run), .int .i64 ((accC c s.l key).n), .slice DR ((accC c s.l key).dg.length) eR], .row (.slice AR ((accL c s.l key).length) cR) 27 17 ((accL c s.l key).length) (rcs (accL c s.l key)), .row (.slice DR ((accC c s.l key).dg.length) eR) 5 1 ((accC c s.l key).dg.length) (bv (accC c s.l key).dg), .row (.slice (some ⟨gS, 0, none⟩) ss.length cs) 28 1 ss.length (ss.map Sl.val), .row (.slice Aa all.length ca) 27 17 all.length (rcs all), .row (.slice Ad ch.dg.length cd) 5 1 ch.dg.length (bv ch.dg), .row (.slice Ak key.length ck) 5 1 key.length (bv key), .row (.slice A2 c.dg.length c2) 5 1 c.dg.length (bv c.dg), .row (.slice Ar rl.length cr) 27 17 rl.length (rcs rl), .blk g8 45 [.int .i64 c.v, .int .i64 c.run, .int .i64 c.n, .slice A2 c.dg.length c2], .blk g6 45 [.int .i64 ch.v, .int .i64 ch.run, .int .i64 ch.n, .slice Ad ch.dg.length cd]] ++ segP ss)) rfl ?_
   refine TL.end_ ?_
   refine TX.held (fun w1 hw => hw.pick [3, 9] (by decide) rfl) ?_
   refine TH.tk (listed' := #[Tt,Tt,Tt,Tt,Tt,Tt,Tt,Tt,Tt,Tt,Tt,Tt,Tt,Tt,Ff]) 13 rfl rfl rfl (gives_assign rfl rfl) (fun w1 hw => hw.pick [3, 9] (by decide) rfl) ?_
   refine TH.tk (listed' := #[Tt,Tt,Tt,Tt,Tt,Tt,Tt,Tt,Tt,Tt,Tt,Tt,Tt,Tt,Tt]) 14 rfl rfl rfl (gives_assign rfl rfl) (fun w1 hw => hw.pick [3, 9] (by decide) rfl) ?_
   refine TH.done (by kernel_rfl) ?_
   refine TX.then_ (TC.seq_ (TC.seq_ (TC.region ?_)))
   refine TL.mv ?_
   refine TL.val rfl rfl rfl (gives_bin rfl rfl rfl (fun w => bin_neq_f (by decide) w)) ?_
   refine TL.end_ (TX.then_ (TC.condF rfl (TC.skip_ (TX.then_ ?_))))
   refine TC.held (ls := #[Ff,Ff,Ff,Ff,Ff,Ff]) (Pm wn [.blk g11 45 [.int .i64 ((accC c s.l key).v), .int .i64 ((accC c s.l key).run), .int .i64 ((accC c s.l key).n), .slice DR ((accC c s.l key).dg.length) eR]]) (by kernel_rfl) rfl rfl (fun w hw => hw.drawn _) ?_
   refine TH.tk (listed' := #[Tt,Ff,Ff,Ff,Ff,Ff]) 0 rfl rfl rfl (pm_loadV (k := 0) (i := 0) (n := 4) (v := .agg #[.int .i64 ((accC c s.l key).v), .int .i64 ((accC c s.l key).run), .int .i64 ((accC c s.l key).n), .slice DR ((accC c s.l key).dg.length) eR]) rfl rfl jlbag45 jlbsz45 rfl (by show 4 ≤ 4; decide) rfl) (fun w1 hw => hw.pick [0] (by decide) rfl) ?_
   refine TH.tk (listed' := #[Tt,Tt,Ff,Ff,Ff,Ff]) 1 rfl rfl rfl (gives_move rfl rfl) (fun w1 hw => hw.pick [0] (by decide) rfl) ?_
   refine TH.tk (listed' := #[Tt,Tt,Tt,Ff,Ff,Ff]) 2 rfl rfl rfl (gives_move rfl rfl) (fun w1 hw => hw.pick [0] (by decide) rfl) ?_
   refine TH.only' (listed' := #[Tt,Tt,Tt,Tt,Ff,Ff]) 3 rfl (by kernel_rfl) rfl ?_
   refine TL.appendT (k := 8) rfl rfl rfl rfl Tryd.underlying33 jlbel33 rfl rfl rfl (fun w1 hw => pm_reads hw (k := 1) rfl) (rcs_one _) (by have := hi5; have := hcn; omega) ((rl ++ (accL c s.l key)).length) (by rw [List.length_append]) (rcs (rl ++ (accL c s.l key))) (by rw [rcs_app]) (fun A51 c51 hA511 hA512 => ?_)
   refine TL.end_ ?_
   refine TX.held (fun w1 hw => hw.pick [0] (by decide) rfl) ?_
   refine TH.only' (listed' := #[Tt,Tt,Tt,Tt,Tt,Ff]) 4 rfl (by kernel_rfl) rfl ?_
   refine TL.pstore (k := 9) (vs := [.int .i64 ((accC c s.l key).v), .int .i64 ((accC c s.l key).run), .int .i64 ((accC c s.l key).n), .slice DR ((accC c s.l key).dg.length) eR]) rfl rfl rfl rfl rfl rfl rfl jlbsz45 jlbone_i64i64i64s (by show 4 ≤ 4; decide) (L' := ([.blk g11 45 [.int .i64 ((accC c s.l key).v), .int .i64 ((accC c s.l key).run), .int .i64 ((accC c s.l key).n), .slice DR ((accC c s.l key).dg.length) eR], .row (.slice AR ((accL c s.l key).length) cR) 27 17 ((accL c s.l key).length) (rcs (accL c s.l key)), .row (.slice DR ((accC c s.l key).dg.length) eR) 5 1 ((accC c s.l key).dg.length) (bv (accC c s.l key).dg), .row (.slice (some ⟨gS, 0, none⟩) ss.length cs) 28 1 ss.length (ss.map Sl.val), .row (.slice Aa all.length ca) 27 17 all.length (rcs all), .row (.slice Ad ch.dg.length cd) 5 1 ch.dg.length (bv ch.dg), .row (.slice Ak key.length ck) 5 1 key.length (bv key), .row (.slice A2 c.dg.length c2) 5 1 c.dg.length (bv c.dg), .row (.slice A51 ((rl ++ (accL c s.l key)).length) c51) 27 17 ((rl ++ (accL c s.l key)).length) (rcs (rl ++ (accL c s.l key))), .blk g8 45 [.int .i64 ((accC c s.l key).v), .int .i64 ((accC c s.l key).run), .int .i64 ((accC c s.l key).n), .slice DR ((accC c s.l key).dg.length) eR], .blk g6 45 [.int .i64 ch.v, .int .i64 ch.run, .int .i64 ch.n, .slice Ad ch.dg.length cd]] ++ segP ss)) rfl ?_
   refine TL.end_ ?_
   refine TX.held (fun w1 hw => hw.pick [0] (by decide) rfl) ?_
   refine TH.tk (listed' := #[Tt,Tt,Tt,Tt,Tt,Tt]) 5 rfl rfl rfl (gives_assign rfl rfl) (fun w1 hw => hw.pick [0] (by decide) rfl) ?_
   refine TH.done (by kernel_rfl) ?_
   refine TX.in_normal (TX.then_ (TC.region ?_))
   refine TL.mv ?_
   refine TL.val rfl rfl rfl (gives_bin rfl rfl rfl (fun w => bin_add_ (r := ((i + 1 : Nat) : Int)) (by simp only [IntKind.wrap_i64]; omega) w)) ?_
   refine TL.as_ ?_
   refine TL.end_ ?_
   exact TX.round (⟨((i + 1, (accC c s.l key), rl ++ (accL c s.l key)), (A51, c51), (DR, eR)), hi2, by rw [fold_take hsl_s, hfo]; rfl, hA511, hA512, hDR1, hDR2⟩) (by show ss.length - (i + 1) < ss.length - i; omega) ⟨rfl, rfl, rfl, rfl, rfl, rfl, rfl, rfl, trivial⟩ (fun w1 hw => (show Pm wn ([.row (.slice (some ⟨gS, 0, none⟩) ss.length cs) 28 1 ss.length (ss.map Sl.val), .row (.slice Aa all.length ca) 27 17 all.length (rcs all), .row (.slice Ad ch.dg.length cd) 5 1 ch.dg.length (bv ch.dg), .row (.slice Ak key.length ck) 5 1 key.length (bv key), .row (.slice DR ((accC c s.l key).dg.length) eR) 5 1 ((accC c s.l key).dg.length) (bv (accC c s.l key).dg), .row (.slice A51 ((rl ++ (accL c s.l key)).length) c51) 27 17 ((rl ++ (accL c s.l key)).length) (rcs (rl ++ (accL c s.l key))), .blk g8 45 [.int .i64 ((accC c s.l key).v), .int .i64 ((accC c s.l key).run), .int .i64 ((accC c s.l key).n), .slice DR ((accC c s.l key).dg.length) eR], .blk g6 45 [.int .i64 ch.v, .int .i64 ch.run, .int .i64 ch.n, .slice Ad ch.dg.length cd]] ++ segP ss) w1 from hw.pickT 11 [3, 4, 5, 6, 2, 8, 9, 10] (by decide) (by decide) rfl rfl))
  ·refine TL.pnew rfl rfl rfl (exec_alloc (cs := [.int .i64 0, .int .i64 0, .int .i64 0, .slice none 0 0]) rfl jlbzv45 rfl) (fun g11 => ?_)
   refine TL.end_ ?_
   refine TX.held (fun w1 hw => hw.pick [1, 7] (by decide) rfl) ?_
   refine TH.only' (listed' := #[Tt,Tt,Tt,Tt,Tt,Tt,Tt,Ff,Ff,Ff,Ff,Tt,Ff,Ff,Ff]) 6 rfl (by kernel_rfl) rfl ?_
   refine TL.pcallPm (α := AccY (accC c s.l key) (accL c s.l key)) (fun y => .tuple #[.agg #[.int .i64 ((accC c s.l key).v), .int .i64 ((accC c s.l key).run), .int .i64 ((accC c s.l key).n), .slice y.1.2.1 ((accC c s.l key).dg.length) y.1.2.2], .slice y.1.1.1 ((accL c s.l key).length) y.1.1.2, .int .i64 0]) (fun y => [.row (.slice y.1.1.1 ((accL c s.l key).length) y.1.1.2) 27 17 ((accL c s.l key).length) (rcs (accL c s.l key)), .row (.slice y.1.2.1 ((accC c s.l key).dg.length) y.1.2.2) 5 1 ((accC c s.l key).dg.length) (bv (accC c s.l key).dg)]) rfl rfl rfl rfl rfl Tryd.func22 jlbnm22 jlbbd22 (fun w1 hw => (accept_any A2 _ c2 c s.A s.n s.c s.l Ak _ ck key w1 (byt_own (hw.at_ (k := 5) rfl) hi4) (hw.seg 9 rfl (segP_mem hm_s) hso_s.2.2.2.1) (byt_own (hw.at_ (k := 4) rfl) hB.kb) hso_s.2.1 (by have := hso_s.2.2.2.2.2; omega) (by omega) (by omega) (by omega) (hst.below hw.bel hst.lt) (hky.below hw.bel hky.lt)).mono fun e w2 h => by rw [ha0] at h; exact h.use) ?_
   rintro ⟨⟨⟨AR, cR⟩, ⟨DR, eR⟩⟩, ⟨hAR1, hAR2⟩, ⟨hDR1, hDR2⟩⟩
   dsimp only [List.cons_append, List.nil_append]
   dsimp only at hAR1 hAR2 hDR1 hDR2
   refine TL.end_ ?_
   refine TX.held (fun w1 hw => hw.pick [3, 9] (by decide) rfl) ?_
   refine TH.tk (listed' := #[Tt,Tt,Tt,Tt,Tt,Tt,Tt,Tt,Ff,Ff,Ff,Tt,Ff,Ff,Ff]) 7 rfl rfl rfl (gives_move rfl rfl) (fun w1 hw => hw.pick [3, 9] (by decide) rfl) ?_
   refine TH.tk (listed' := #[Tt,Tt,Tt,Tt,Tt,Tt,Tt,Tt,Tt,Ff,Ff,Tt,Ff,Ff,Ff]) 8 rfl rfl rfl (gives_extract rfl rfl rfl) (fun w1 hw => hw.pick [3, 9] (by decide) rfl) ?_
   refine TH.tk (listed' := #[Tt,Tt,Tt,Tt,Tt,Tt,Tt,Tt,Tt,Tt,Ff,Tt,Ff,Ff,Ff]) 9 rfl rfl rfl (gives_extract rfl rfl rfl) (fun w1 hw => hw.pick [3, 9] (by decide) rfl) ?_
   refine TH.tk (listed' := #[Tt,Tt,Tt,Tt,Tt,Tt,Tt,Tt,Tt,Tt,Tt,Tt,Ff,Ff,Ff]) 10 rfl rfl rfl (gives_extract rfl rfl rfl) (fun w1 hw => hw.pick [3, 9] (by decide) rfl) ?_
   refine TH.only' (listed' := #[Tt,Tt,Tt,Tt,Tt,Tt,Tt,Tt,Tt,Tt,Tt,Tt,Tt,Ff,Ff]) 12 rfl (by kernel_rfl) rfl ?_
   refine TL.pstore (k := 2) (vs := [.int .i64 ((accC c s.l key).v), .int .i64 ((accC c s.l key).run), .int .i64 ((accC c s.l key).n), .slice DR ((accC c s.l key).dg.length) eR]) rfl rfl rfl rfl rfl rfl rfl jlbsz45 jlbone_i64i64i64s (by show 4 ≤ 4; decide) (L' := ([.row (.slice AR ((accL c s.l key).length) cR) 27 17 ((accL c s.l key).length) (rcs (accL c s.l key)), .row (.slice DR ((accC c s.l key).dg.length) eR) 5 1 ((accC c s.l key).dg.length) (bv (accC c s.l key).dg), .blk g11 45 [.int .i64 ((accC c s.l key).v), .int .i64 ((accC c s.l key).run), .int .i64 ((accC c s.l key).n), .slice DR ((accC c s.l key).dg.length) eR], .row (.slice (some ⟨gS, 0, none⟩) ss.length cs) 28 1 ss.length (ss.map Sl.val), .row (.slice Aa all.length ca) 27 17 all.length (rcs all), .row (.slice Ad ch.dg.length cd) 5 1 ch.dg.length (bv ch.dg), .row (.slice Ak key.length ck) 5 1 key.length (bv key), .row (.slice A2 c.dg.length c2) 5 1 c.dg.length (bv c.dg), .row (.slice Ar rl.length cr) 27 17 rl.length (rcs rl), .blk g8 45 [.int .i64 c.v, .int .i64 c.run, .int .i64 c.n, .slice A2 c.dg.length c2], .blk g6 45 [.int .i64 ch.v, .int .i64 ch.run, .int .i64 ch.n, .slice Ad ch.dg.length cd]] ++ segP ss)) rfl ?_
   refine TL.end_ ?_
   refine TX.held (fun w1 hw => hw.pick [3, 9] (by decide) rfl) ?_
   refine TH.tk (listed' := #[Tt,Tt,Tt,Tt,Tt,Tt,Tt,Tt,Tt,Tt,Tt,Tt,Tt,Tt,Ff]) 13 rfl rfl rfl (gives_assign rfl rfl) (fun w1 hw => hw.pick [3, 9] (by decide) rfl) ?_
   refine TH.tk (listed' := #[Tt,Tt,Tt,Tt,Tt,Tt,Tt,Tt,Tt,Tt,Tt,Tt,Tt,Tt,Tt]) 14 rfl rfl rfl (gives_assign rfl rfl) (fun w1 hw => hw.pick [3, 9] (by decide) rfl) ?_
   refine TH.done (by kernel_rfl) ?_
   refine TX.then_ (TC.seq_ (TC.seq_ (TC.region ?_)))
   refine TL.mv ?_
   refine TL.val rfl rfl rfl (gives_bin rfl rfl rfl (fun w => bin_neq_f (by decide) w)) ?_
   refine TL.end_ (TX.then_ (TC.condF rfl (TC.skip_ (TX.then_ ?_))))
   refine TC.held (ls := #[Ff,Ff,Ff,Ff,Ff,Ff]) (Pm wn [.blk g11 45 [.int .i64 ((accC c s.l key).v), .int .i64 ((accC c s.l key).run), .int .i64 ((accC c s.l key).n), .slice DR ((accC c s.l key).dg.length) eR]]) (by kernel_rfl) rfl rfl (fun w hw => hw.drawn _) ?_
   refine TH.tk (listed' := #[Tt,Ff,Ff,Ff,Ff,Ff]) 0 rfl rfl rfl (pm_loadV (k := 0) (i := 0) (n := 4) (v := .agg #[.int .i64 ((accC c s.l key).v), .int .i64 ((accC c s.l key).run), .int .i64 ((accC c s.l key).n), .slice DR ((accC c s.l key).dg.length) eR]) rfl rfl jlbag45 jlbsz45 rfl (by show 4 ≤ 4; decide) rfl) (fun w1 hw => hw.pick [2] (by decide) rfl) ?_
   refine TH.tk (listed' := #[Tt,Tt,Ff,Ff,Ff,Ff]) 1 rfl rfl rfl (gives_move rfl rfl) (fun w1 hw => hw.pick [2] (by decide) rfl) ?_
   refine TH.tk (listed' := #[Tt,Tt,Tt,Ff,Ff,Ff]) 2 rfl rfl rfl (gives_move rfl rfl) (fun w1 hw => hw.pick [2] (by decide) rfl) ?_
   refine TH.only' (listed' := #[Tt,Tt,Tt,Tt,Ff,Ff]) 3 rfl (by kernel_rfl) rfl ?_
   refine TL.appendT (k := 8) rfl rfl rfl rfl Tryd.underlying33 jlbel33 rfl rfl rfl (fun w1 hw => pm_reads hw (k := 0) rfl) (rcs_one _) (by have := hi5; have := hcn; omega) ((rl ++ (accL c s.l key)).length) (by rw [List.length_append]) (rcs (rl ++ (accL c s.l key))) (by rw [rcs_app]) (fun A51 c51 hA511 hA512 => ?_)
   refine TL.end_ ?_
   refine TX.held (fun w1 hw => hw.pick [2] (by decide) rfl) ?_
   refine TH.only' (listed' := #[Tt,Tt,Tt,Tt,Tt,Ff]) 4 rfl (by kernel_rfl) rfl ?_
   refine TL.pstore (k := 9) (vs := [.int .i64 ((accC c s.l key).v), .int .i64 ((accC c s.l key).run), .int .i64 ((accC c s.l key).n), .slice DR ((accC c s.l key).dg.length) eR]) rfl rfl rfl rfl rfl rfl rfl jlbsz45 jlbone_i64i64i64s (by show 4 ≤ 4; decide) (L' := ([.row (.slice AR ((accL c s.l key).length) cR) 27 17 ((accL c s.l key).length) (rcs (accL c s.l key)), .row (.slice DR ((accC c s.l key).dg.length) eR) 5 1 ((accC c s.l key).dg.length) (bv (accC c s.l key).dg), .blk g11 45 [.int .i64 ((accC c s.l key).v), .int .i64 ((accC c s.l key).run), .int .i64 ((accC c s.l key).n), .slice DR ((accC c s.l key).dg.length) eR], .row (.slice (some ⟨gS, 0, none⟩) ss.length cs) 28 1 ss.length (ss.map Sl.val), .row (.slice Aa all.length ca) 27 17 all.length (rcs all), .row (.slice Ad ch.dg.length cd) 5 1 ch.dg.length (bv ch.dg), .row (.slice Ak key.length ck) 5 1 key.length (bv key), .row (.slice A2 c.dg.length c2) 5 1 c.dg.length (bv c.dg), .row (.slice A51 ((rl ++ (accL c s.l key)).length) c51) 27 17 ((rl ++ (accL c s.l key)).length) (rcs (rl ++ (accL c s.l key))), .blk g8 45 [.int .i64 ((accC c s.l key).v), .int .i64 ((accC c s.l key).run), .int .i64 ((accC c s.l key).n), .slice DR ((accC c s.l key).dg.length) eR], .blk g6 45 [.int .i64 ch.v, .int .i64 ch.run, .int .i64 ch.n, .slice Ad ch.dg.length cd]] ++ segP ss)) rfl ?_
   refine TL.end_ ?_
   refine TX.held (fun w1 hw => hw.pick [2] (by decide) rfl) ?_
   refine TH.tk (listed' := #[Tt,Tt,Tt,Tt,Tt,Tt]) 5 rfl rfl rfl (gives_assign rfl rfl) (fun w1 hw => hw.pick [2] (by decide) rfl) ?_
   refine TH.done (by kernel_rfl) ?_
   refine TX.in_normal (TX.then_ (TC.region ?_))
   refine TL.mv ?_
   refine TL.val rfl rfl rfl (gives_bin rfl rfl rfl (fun w => bin_add_ (r := ((i + 1 : Nat) : Int)) (by simp only [IntKind.wrap_i64]; omega) w)) ?_
   refine TL.as_ ?_
   refine TL.end_ ?_
   exact TX.round (⟨((i + 1, (accC c s.l key), rl ++ (accL c s.l key)), (A51, c51), (DR, eR)), hi2, by rw [fold_take hsl_s, hfo]; rfl, hA511, hA512, hDR1, hDR2⟩) (by show ss.length - (i + 1) < ss.length - i; omega) ⟨rfl, rfl, rfl, rfl, rfl, rfl, rfl, rfl, trivial⟩ (fun w1 hw => (show Pm wn ([.row (.slice (some ⟨gS, 0, none⟩) ss.length cs) 28 1 ss.length (ss.map Sl.val), .row (.slice Aa all.length ca) 27 17 all.length (rcs all), .row (.slice Ad ch.dg.length cd) 5 1 ch.dg.length (bv ch.dg), .row (.slice Ak key.length ck) 5 1 key.length (bv key), .row (.slice DR ((accC c s.l key).dg.length) eR) 5 1 ((accC c s.l key).dg.length) (bv (accC c s.l key).dg), .row (.slice A51 ((rl ++ (accL c s.l key)).length) c51) 27 17 ((rl ++ (accL c s.l key)).length) (rcs (rl ++ (accL c s.l key))), .blk g8 45 [.int .i64 ((accC c s.l key).v), .int .i64 ((accC c s.l key).run), .int .i64 ((accC c s.l key).n), .slice DR ((accC c s.l key).dg.length) eR], .blk g6 45 [.int .i64 ch.v, .int .i64 ch.run, .int .i64 ch.n, .slice Ad ch.dg.length cd]] ++ segP ss) w1 from hw.pickT 11 [3, 4, 5, 6, 1, 8, 9, 10] (by decide) (by decide) rfl rfl))
 ·have q32 := of_decide_eq_false h32
  have hi2 : i = ss.length := by omega
  rw [hi2, ← hlen, List.take_length, hf.1] at hfo
  have hcc : c = ch := (congrArg Prod.fst hfo).symm
  have hrr : rl = all := (congrArg Prod.snd hfo).symm
  have hrc : rcvF (joinB ss) key = (ch, all, (joinB ss).length) := by rw [joinB_eq, hls]; exact rcvF_jrn hj
  have hl300 : ∀ s ∈ ss, s.l.length ≤ 300 := fun s hm => by have := hso s hm; rw [this.1]; exact this.2.2.2.2.2
  have hjb : Bs (joinB ss) := fun x hx => by obtain ⟨s, hm, hx⟩ := List.mem_flatMap.1 hx; exact (hso s hm).2.2.2.1 x hx
  have hjl := join_len hl300
  have hrl : rl.length = all.length := by rw [hrr]
  refine TL.end_ (TX.then_ (TC.condF rfl (TC.exit_ (TX.then_exit (TX.then_exit (TX.in_same (TX.then_ (TC.seq_ (TC.region ?_)))))))))
  refine TL.mv ?_
  refine TL.pcallRow (n := (joinB ss).length) (ys := bv (joinB ss)) rfl rfl rfl rfl rfl Tryd.func31 jlbnm31 jlbbd31 (fun w1 hw => joined_any _ cs ss w1 (Reads.of_own (hw.at_ (k := 0) rfl)) (fun s hm => hw.seg 8 rfl (segP_mem hm) (hso s hm).2.2.2.1) hl300 hl300 (by omega)) (fun A53 c53 hA531 hA532 => ?_)
  refine TL.as_ ?_
  refine TL.end_ (TX.then_ (TC.seq_ (TC.region ?_)))
  refine TL.mv ?_
  refine TL.mv ?_
  refine TL.pcallPm (α := AccY ch all) (fun y => .tuple #[.agg #[.int .i64 ch.v, .int .i64 ch.run, .int .i64 ch.n, .slice y.1.2.1 ch.dg.length y.1.2.2], .slice y.1.1.1 all.length y.1.1.2, .int .i64 ((joinB ss).length : Nat)]) (fun y => [.row (.slice y.1.1.1 all.length y.1.1.2) 27 17 all.length (rcs all), .row (.slice y.1.2.1 ch.dg.length y.1.2.2) 5 1 ch.dg.length (bv ch.dg)]) rfl rfl rfl rfl rfl Tryd.func32 jlbnm32 jlbbd32 (fun w1 hw => (recover_any A53 _ c53 (joinB ss) Ak _ ck key w1 (byt_own (hw.at_ (k := 0) rfl) hjb) (byt_own (hw.at_ (k := 4) rfl) hB.kb) hA531 (by omega) (by omega) (hst.below hw.bel hst.lt) (hky.below hw.bel hky.lt)).mono fun e w2 h => by rw [hrc] at h; exact h.use) ?_
  rintro ⟨⟨⟨AR2, cR2⟩, ⟨DR2, eR2⟩⟩, ⟨hAR21, hAR22⟩, ⟨hDR21, hDR22⟩⟩
  dsimp only [List.cons_append, List.nil_append]
  dsimp only at hAR21 hAR22 hDR21 hDR22
  iterate 4 (first | refine TL.ex ?_ | refine TL.mv ?_)
  refine TL.pnew rfl rfl rfl (exec_alloc (cs := [.int .i64 0, .int .i64 0, .int .i64 0, .slice none 0 0]) rfl jlbzv45 rfl) (fun g15 => ?_)
  refine TL.pstore (k := 0) (vs := [.int .i64 ch.v, .int .i64 ch.run, .int .i64 ch.n, .slice DR2 ch.dg.length eR2]) rfl rfl rfl rfl rfl rfl rfl jlbsz45 jlbone_i64i64i64s (by show 4 ≤ 4; decide) (L' := ([.blk g15 45 [.int .i64 ch.v, .int .i64 ch.run, .int .i64 ch.n, .slice DR2 ch.dg.length eR2], .row (.slice AR2 all.length cR2) 27 17 all.length (rcs all), .row (.slice DR2 ch.dg.length eR2) 5 1 ch.dg.length (bv ch.dg), .row (.slice A53 ((joinB ss).length) c53) 5 1 ((joinB ss).length) (bv (joinB ss)), .row (.slice (some ⟨gS, 0, none⟩) ss.length cs) 28 1 ss.length (ss.map Sl.val), .row (.slice Aa all.length ca) 27 17 all.length (rcs all), .row (.slice Ad ch.dg.length cd) 5 1 ch.dg.length (bv ch.dg), .row (.slice Ak key.length ck) 5 1 key.length (bv key), .row (.slice A2 c.dg.length c2) 5 1 c.dg.length (bv c.dg), .row (.slice Ar rl.length cr) 27 17 rl.length (rcs rl), .blk g8 45 [.int .i64 c.v, .int .i64 c.run, .int .i64 c.n, .slice A2 c.dg.length c2], .blk g6 45 [.int .i64 ch.v, .int .i64 ch.run, .int .i64 ch.n, .slice Ad ch.dg.length cd]] ++ segP ss)) rfl ?_
  refine TL.as_ ?_
  refine TL.as_ ?_
  refine TL.end_ (TX.then_ (TC.seq_ (TC.region ?_)))
  refine TL.val rfl rfl rfl (pm_loadV (k := 10) (i := 0) (n := 4) (v := .agg #[.int .i64 c.v, .int .i64 c.run, .int .i64 c.n, .slice A2 c.dg.length c2]) rfl rfl jlbag45 jlbsz45 rfl (by show 4 ≤ 4; decide) rfl) ?_
  refine TL.val rfl rfl rfl (pm_loadV (k := 11) (i := 0) (n := 4) (v := .agg #[.int .i64 ch.v, .int .i64 ch.run, .int .i64 ch.n, .slice Ad ch.dg.length cd]) rfl rfl jlbag45 jlbsz45 rfl (by show 4 ≤ 4; decide) rfl) ?_
  refine TL.pcall1 (r := .bool true) rfl rfl rfl rfl rfl Tryd.func26 jlbnm26 jlbbd26 (fun w1 hw => retb_lit (decide_eq_true hcc) (samechain_any c ch A2 _ _ Ad _ _ w1 (byt_own (hw.at_ (k := 8) rfl) hi4) (byt_own (hw.at_ (k := 6) rfl) hJ.2.2.2) (by omega) (by omega))) ?_
  refine TL.mv ?_
  refine TL.gu ?_
  refine TL.val rfl rfl rfl (pm_loadV (k := 0) (i := 0) (n := 4) (v := .agg #[.int .i64 ch.v, .int .i64 ch.run, .int .i64 ch.n, .slice DR2 ch.dg.length eR2]) rfl rfl jlbag45 jlbsz45 rfl (by show 4 ≤ 4; decide) rfl) ?_
  refine TL.gu ?_
  refine TL.val rfl rfl rfl (pm_loadV (k := 11) (i := 0) (n := 4) (v := .agg #[.int .i64 ch.v, .int .i64 ch.run, .int .i64 ch.n, .slice Ad ch.dg.length cd]) rfl rfl jlbag45 jlbsz45 rfl (by show 4 ≤ 4; decide) rfl) ?_
  refine TL.gu ?_
  refine TL.pcall1 (r := .bool true) rfl rfl rfl rfl rfl Tryd.func26 jlbnm26 jlbbd26 (fun w1 hw => retb_lit (decide_eq_true rfl) (samechain_any ch ch DR2 _ _ Ad _ _ w1 (byt_own (hw.at_ (k := 2) rfl) hJ.2.2.2) (byt_own (hw.at_ (k := 6) rfl) hJ.2.2.2) (by omega) (by omega))) ?_
  iterate 7 (first | refine TL.gu ?_ | refine TL.mv ?_ | refine TL.pk ?_)
  refine TL.pcall1 (r := .bool true) rfl rfl rfl rfl rfl Tryd.func27 jlbnm27 jlbbd27 (fun w1 hw => retb_lit (decide_eq_true hrr) (sameresults_any Ar _ _ rl Aa _ _ all w1 (Reads.of_own (hw.at_ (k := 9) rfl)) (Reads.of_own (hw.at_ (k := 5) rfl)) rfl rfl (by omega) (by omega))) ?_
  iterate 7 (first | refine TL.gu ?_ | refine TL.mv ?_ | refine TL.pk ?_)
  refine TL.pcall1 (r := .bool true) rfl rfl rfl rfl rfl Tryd.func27 jlbnm27 jlbbd27 (fun w1 hw => retb_lit (decide_eq_true rfl) (sameresults_any AR2 _ _ all Aa _ _ all w1 (Reads.of_own (hw.at_ (k := 1) rfl)) (Reads.of_own (hw.at_ (k := 5) rfl)) rfl rfl (by omega) (by omega))) ?_
  iterate 7 (first | refine TL.gu ?_ | refine TL.mv ?_ | refine TL.pk ?_)
  refine TL.val rfl rfl rfl (gives_len rfl Tryd.underlying28 rfl) ?_
  refine TL.gu ?_
  refine TL.val rfl rfl rfl (gives_bin rfl rfl rfl (fun w => bin_eql_t (by rfl) w)) ?_
  refine TL.pk ?_
  refine TL.as_ ?_
  refine TL.end_ (TX.then_ (TC.ret_ ?_))
  exact ret_tmp Tryd.results6 rfl (fun w1 hw => ⟨rfl, hwn.bel.trans (hw.bel.mono hwn.bel.size)⟩)
end Go.Proofs.YtmeaeeehnkcblaaDoor
