/-
  Texts of the proof, joined: JrCutLaw, JrRec, JrLC.
-/
import Derived.Test.YtmeaeeehnkcblaaDoorPr5
set_option linter.unusedVariables false
set_option linter.unusedSimpArgs false
namespace Go.Proofs.YtmeaeeehnkcblaaDoor
open Go.RowKit
theorem jrn_take {key : List Int} {ls : List (List Int)} {all : List Rs} {c : Chn} (h : Jrn key ls all c) : ∀ i, 0 < i → i ≤ ls.length → ∃ all' c', Jrn key (ls.take i) all' c' := by
 induction h with
 | start v run h =>
  intro i h0 h1
  obtain rfl : i = 1 := by rw [List.length_singleton] at h1; omega
  exact ⟨_, _, .start v run h⟩
 | more hj h ho ih =>
  rename_i ls all c rl
  intro i h0 h1
  rcases Nat.lt_or_ge ls.length i with hi | hi
  ·rw [List.take_of_length_le (by rw [List.length_append, List.length_singleton]; omega)]
   exact ⟨_, _, .more hj h ho⟩
  ·rw [List.take_append_of_le_length hi]
   exact ih i h0 hi
theorem jrn_n {key : List Int} {ls : List (List Int)} {all : List Rs} {c : Chn} (h : Jrn key ls all c) : c.n = (all.length : Nat) := by
 induction h with
 | start v run h => rw [(bg_ok h key).1]; rfl
 | more hj h ho ih =>
  rw [(ap_ok h key).1]
  show _ + _ = _
  rw [ih, List.length_append]
  omega
theorem jrn_id {key : List Int} {ls : List (List Int)} {all : List Rs} {c : Chn} (h : Jrn key ls all c) : 0 ≤ c.v ∧ c.v ≤ 15 ∧ 0 ≤ c.run ∧ c.run ≤ 63 := by
 cases h with
 | start v run h =>
  rw [(bg_ok h key).1]
  exact h
 | more hj h ho =>
  obtain ⟨g1, g2, g3, g4, _⟩ := ap_id h
  rw [(ap_ok h key).1]
  exact ⟨g1, g2, g3, g4⟩
theorem foldl_more (key : List Int) : ∀ (xs : List (List Int)) (st : Chn × List Rs), ∃ t, (xs.foldl (stF key) st).2 = st.2 ++ t
 | [], st => ⟨[], by simp⟩
 | x :: xs, st => by
  obtain ⟨t, ht⟩ := foldl_more key xs (stF key st x)
  exact ⟨accL st.1 x key ++ t, by rw [List.foldl_cons, ht]; simp [stF]⟩
theorem fold_prefix (key : List Int) (ls : List (List Int)) (i : Nat) : (foldS key (ls.take i)).2 = (foldS key ls).2.take (foldS key (ls.take i)).2.length := by
 have e : foldS key ls = (ls.drop i).foldl (stF key) (foldS key (ls.take i)) := by
  unfold foldS
  rw [← List.foldl_append, List.take_append_drop]
 obtain ⟨t, ht⟩ := foldl_more key (ls.drop i) (foldS key (ls.take i))
 rw [e, ht, List.take_left' rfl]
theorem cut_parts {ls : List (List Int)} {i cut : Nat} (h1 : (ls.take i).flatten.length ≤ cut) (h3 : ∀ s, ls[i]? = some s → cut < (ls.take i).flatten.length + s.length) (hs : ∀ s ∈ ls, wholeB s ∧ Bs s) :
  ∃ T, ls.flatten.take cut = (ls.take i).flatten ++ T ∧ (lenE T ≠ 0 ∨ (T.length : Int) < lenN T) := by
 have e : ls.flatten = (ls.take i).flatten ++ (ls.drop i).flatten := by rw [← List.flatten_append, List.take_append_drop]
 refine ⟨((ls.drop i).flatten).take (cut - (ls.take i).flatten.length), ?_, ?_⟩
 ·conv => lhs; rw [e]
  rw [List.take_append, List.take_of_length_le h1]
 ·cases hx : ls[i]? with
  | none =>
   rw [List.drop_of_length_le (List.getElem?_eq_none_iff.1 hx)]
   left
   simpa using lenE_nil
  | some s =>
   obtain ⟨hi, he⟩ := List.getElem?_eq_some_iff.1 hx
   have hd : ls.drop i = s :: ls.drop (i + 1) := by rw [← he]; exact List.drop_eq_getElem_cons hi
   have hk := h3 s hx
   rw [hd, List.flatten_cons, List.take_append_of_le_length (by omega)]
   exact part_stop (hs s (List.mem_of_getElem? hx)).1 (by omega)
theorem take_acc {key : List Int} {ls : List (List Int)} (he : ∀ i s, ls[i]? = some s → accE (foldS key (ls.take i)).1 s key = 0) (i : Nat) : ∀ j s, (ls.take i)[j]? = some s → accE (foldS key ((ls.take i).take j)).1 s key = 0 := by
 intro j s h
 have hj : j < i := by
  have := (List.getElem?_eq_some_iff.1 h).1
  rw [List.length_take] at this
  omega
 rw [List.getElem?_take_of_lt hj] at h
 rw [List.take_take, Nat.min_eq_left (Nat.le_of_lt hj)]
 exact he j s h
theorem r2_ok {c : Chn} (h0 : 0 ≤ c.v) (h1 : c.v ≤ 15) (h2 : 0 ≤ c.run) (h3 : c.run ≤ 63) (h4 : 0 ≤ c.n) (h5 : c.n ≤ 900) : apE c [r2 c.v c.run c.n] = 0 ∧ ∀ r ∈ [r2 c.v c.run c.n], r.Ok := by
 have hc : chkR (r2 c.v c.run c.n) = 0 := by
  unfold chkR
  rw [if_neg (fun h => h (by unfold Rs.inRange r2; dsimp only; omega)), if_neg (by unfold r2; dsimp only; omega), if_neg (by simp [r2, Rs.noAns]), if_neg (by simp [r2])]
 refine ⟨?_, fun r hr => ?_⟩
 ·rw [apE, if_neg (by unfold apBig; simp only [List.length_singleton]; omega), badR, if_neg (by rw [hc]; simp), if_neg ?_]
  ·rfl
  ·have : followsC c.v c.run c.n ((0 : Nat) : Int) (r2 c.v c.run c.n) = true := decide_eq_true ⟨rfl, rfl, by show c.n = c.n + ((0 : Nat) : Int); omega⟩
   rw [this]; simp
 ·rw [List.mem_singleton] at hr
  subst hr
  exact ⟨Int.le_refl 0, (by decide : (0 : Int) ≤ 4294967295), Int.le_refl 0, (by decide : (0 : Int) ≤ 4294967295)⟩
theorem Reads.head {w : World} {B n k : Nat} {A : Option Addr} {l : List Rs} (h : Reads w B 17 A n (rcs l)) (hl : l.length = n) (hk : k ≤ n) : Reads w B 17 A k (rcs (l.take k)) := by
 refine ⟨by rw [rcs_len, List.length_take]; congr 1; omega, fun hk0 => ?_⟩
 obtain ⟨ad, hA, hb, hc⟩ := h.2 (by omega)
 refine ⟨ad, hA, hb, fun j u hu => hc j u ?_⟩
 have e : rcs l = rcs (l.take k) ++ rcs (l.drop k) := by rw [← rcs_app, List.take_append_drop]
 rw [e, List.getElem?_append_left (List.getElem?_eq_some_iff.1 hu).1]
 exact hu
end Go.Proofs.YtmeaeeehnkcblaaDoor

namespace Go.Proofs.YtmeaeeehnkcblaaDoor
open Go.RowKit
set_option maxRecDepth 20000
theorem acc_cnt {c : Chn} {l key : List Int} {p m : Nat} (h3 : accE c ((l.drop p).take m) key = 0) (hb : Bs l) : (accL c ((l.drop p).take m) key).length ≤ m := by
 rw [(acR_ok h3).2.1, rlB_len]
 have hw : lenE ((l.drop p).take m) = 0 := Decidable.byContradiction fun hh => by rw [acc_len hh] at h3; exact hh h3
 have hd2 := len_dec hw
 obtain ⟨_, z0, z1⟩ := byte_at (show Bs ((l.drop p).take m) from (hb.drop p).take m) 8 (by omega)
 have hlt : ¬ (((l.drop p).take m).length : Int) < lenN ((l.drop p).take m) := fun hh => by rw [acc_short hw hh] at h3; exact absurd h3 (by decide)
 have hl2 : ((l.drop p).take m).length ≤ m := by rw [List.length_take]; omega
 unfold cnt
 omega
theorem jreczv45 (w : World) : (zeroValue 45).run Tryd.prog w = .ok (.agg #[.int .i64 0, .int .i64 0, .int .i64 0, .slice none 0 0]) w := rfl
theorem jrecnm24 : (Tryd.f24.name == "runtime.NumGoroutine") = false := by decide
theorem jrecbd24 : Tryd.f24.body.isNone = false := rfl
theorem jrecag45 (w : World) : (isAgg 45).run Tryd.prog w = .ok true w := rfl
theorem jrecsz45 (w : World) : (sizeOf 45).run Tryd.prog w = .ok 4 w := rfl
theorem jrecone_i64i64i64s {a0 : Int} {a1 : Int} {a2 : Int} {a3 : Option Addr} {n3 c3 : Nat} : ∀ u ∈ [(.int .i64 a0 : Value), .int .i64 a1, .int .i64 a2, .slice a3 n3 c3], u.oneCell' = true := by
 intro u hu
 simp only [List.mem_cons, List.not_mem_nil, or_false] at hu
 rcases hu with rfl | rfl | rfl | rfl <;> rfl
theorem jrecnm22 : (Tryd.f22.name == "runtime.NumGoroutine") = false := by decide
theorem jrecbd22 : Tryd.f22.body.isNone = false := rfl
theorem jrecel33 : Elem Tryd.prog 33 27 17 128 := Elem.mk' Tryd.underlying33 (z := .agg #[.int .i64 0, .int .i64 0, .int .i64 0, .int .i64 0, .int .u32 0, .int .i64 0, .int .i64 0, .int .i64 0, .bool false, .bool false, .int .i64 0, .int .u32 0, .int .i64 0, .int .i64 0, .int .i64 0, .int .i64 0, .int .i64 0]) (by kernel_rfl) rfl (by omega) (by omega)
theorem jrecnm25 : (Tryd.f25.name == "runtime.NumGoroutine") = false := by decide
theorem jrecbd25 : Tryd.f25.body.isNone = false := rfl
theorem jrecnm23 : (Tryd.f23.name == "runtime.NumGoroutine") = false := by decide
theorem jrecbd23 : Tryd.f23.body.isNone = false := rfl
set_option maxHeartbeats 2000000 in
theorem recover_any (A1 : Option Addr) (n1 c1 : Nat) (l : List Int) (A2 : Option Addr) (n2 c2 : Nat) (key : List Int) (w : World) (hb1 : Byt w w.heap.size A1 n1 l) (hb2 : Byt w w.heap.size A2 n2 key) (hnc : n1 ≤ c1) (hn1l : n1 ≤ 1000000) (hn2l : n2 ≤ 1000000000) {ts tk : TypeId} (hst : Blk w 0 ts start8.cells) (hky : Blk w 1 tk (arrOf keysL)) :
  Calls Tryd.prog 32 #[.slice A1 n1 c1, .slice A2 n2 c2] w fun e w' => AccR (rcvF l key).1 (rcvF l key).2.1 ((rcvF l key).2.2 : Nat) w e w' := by
 obtain rfl : n1 = l.length := hb1.len.symm
 refine begin_ (vs := [.slice A1 l.length c1, .slice A2 n2 c2]) Tryd.func32 rfl rfl rfl ?_ (Pm.start w)
 refine TC.seq_ (TC.region ?_)
 refine TL.pnew rfl rfl rfl (exec_alloc (cs := [.int .i64 0, .int .i64 0, .int .i64 0, .slice none 0 0]) rfl jreczv45 rfl) (fun g4 => ?_)
 refine TL.as_ ?_
 refine TL.as_ ?_
 refine TL.end_ (TX.then_ (TC.seq_ (TC.region ?_)))
 refine TL.pnew rfl rfl rfl (exec_alloc (cs := [.int .i64 0, .int .i64 0, .int .i64 0, .slice none 0 0]) rfl jreczv45 rfl) (fun g7 => ?_)
 refine TL.end_ (TX.then_ (TC.seq_ (TC.region ?_)))
 refine TL.as_ ?_
 refine TL.end_ (TX.then_ (TC.seq_ (TC.region ?_)))
 refine TL.as_ ?_
 refine TL.end_ (TX.then_ (TC.block ?_))
 refine TC.nilrow 27 17 ?_
 refine TC.nilrow 5 1 ?_
 refine TC.loop_ (α := {y : (Chn × List Rs × Nat × Nat) × (Option Addr × Nat) × (Option Addr × Nat) // RcI l key y.1.1 y.1.2.1 y.1.2.2.1 y.1.2.2.2 y.2.1.2 y.2.2.2}) (fun y => [(0, .slice A1 l.length c1), (1, .slice A2 n2 c2), (4, .pointer (some ⟨g4, 0, none⟩)), (7, .pointer (some ⟨g7, 0, none⟩)), (8, .slice y.1.2.1.1 y.1.1.2.1.length y.1.2.1.2), (9, .int .i64 (y.1.1.2.2.1 : Nat))]) (fun y => Pm w [.row (.slice y.1.2.2.1 y.1.1.1.dg.length y.1.2.2.2) 5 1 y.1.1.1.dg.length (bv y.1.1.1.dg), .row (.slice y.1.2.1.1 y.1.1.2.1.length y.1.2.1.2) 27 17 y.1.1.2.1.length (rcs y.1.1.2.1), .blk g7 45 [.int .i64 y.1.1.1.v, .int .i64 y.1.1.1.run, .int .i64 y.1.1.1.n, .slice y.1.2.2.1 y.1.1.1.dg.length y.1.2.2.2], .blk g4 45 [.int .i64 0, .int .i64 0, .int .i64 0, .slice none 0 0]]) (fun y => y.1.1.2.2.2) (⟨((Chn.zero, [], 0, l.length + 1), (none, 0), (none, 0)), RcI.start l key⟩) ⟨rfl, rfl, rfl, rfl, rfl, rfl, trivial⟩ (fun w1 hw => hw) ?_
 rintro ⟨⟨⟨c, rl, p, f⟩, ⟨Ar, cr⟩, ⟨Ad, cd⟩⟩, h⟩
 dsimp only at h ⊢
 have hpl := h.pl
 have hdl : (l.drop p).length = l.length - p := List.length_drop ..
 refine TC.block (TC.seq_ (TC.region ?_))
 refine TL.mv ?_
 refine TL.mv ?_
 refine TL.val rfl rfl rfl (gives_sliceL (v := .slice (if c1 = p then A1 else A1.map (·.add p)) (l.length - p) (c1 - p)) rfl rfl rfl (fun w => cut_lo1 Tryd.underlying28 (fun w => rfl) A1 l.length c1 p rfl (by have := h.pl; omega) w)) ?_
 refine TL.pcall1 (r := .tuple #[.int .i64 (lenN (l.drop p)), .int .i64 (lenE (l.drop p))]) rfl rfl rfl rfl rfl Tryd.func24 jrecnm24 jrecbd24 (fun w1 hw => length_any (if c1 = p then A1 else A1.map (·.add p)) (l.length - p) (c1 - p) (l.drop p) w1 (((hb1.below hw.bel).more hw.bel.size).cut h.pl hnc) (by omega)) ?_
 iterate 5 (first | refine TL.as_ ?_ | refine TL.ex ?_ | refine TL.mv ?_)
 refine TL.end_ (TX.then_ (TC.seq_ (TC.seq_ (TC.region ?_))))
 refine TL.mv ?_
 refine TL.vsplit rfl rfl rfl (gives_bin rfl rfl rfl (fun w => bin_neq w)) (fun h22 => ?_) (fun h22 => ?_)
 ·have q22 := of_decide_eq_true h22
  have hR := h.stop (fun hh => q22 hh.1)
  iterate 8 (first | refine TL.of ?_ | refine TL.mv ?_ | refine TL.pk ?_)
  refine TL.end_ (TX.then_ (TC.condT rfl (TC.seq_ (TC.region ?_))))
  refine TL.val rfl rfl rfl (pm_loadV (k := 2) (i := 0) (n := 4) (v := .agg #[.int .i64 c.v, .int .i64 c.run, .int .i64 c.n, .slice Ad c.dg.length cd]) rfl rfl jrecag45 jrecsz45 rfl (by show 4 ≤ 4; decide) rfl) ?_
  refine TL.mv ?_
  refine TL.mv ?_
  refine TL.pstore (k := 3) (vs := [.int .i64 c.v, .int .i64 c.run, .int .i64 c.n, .slice Ad c.dg.length cd]) rfl rfl rfl rfl rfl rfl rfl jrecsz45 jrecone_i64i64i64s (by show 4 ≤ 4; decide) (L' := [.row (.slice Ad c.dg.length cd) 5 1 c.dg.length (bv c.dg), .row (.slice Ar rl.length cr) 27 17 rl.length (rcs rl), .blk g7 45 [.int .i64 c.v, .int .i64 c.run, .int .i64 c.n, .slice Ad c.dg.length cd], .blk g4 45 [.int .i64 c.v, .int .i64 c.run, .int .i64 c.n, .slice Ad c.dg.length cd]]) rfl ?_
  refine TL.as_ ?_
  refine TL.as_ ?_
  refine TL.end_ (TX.then_ (TC.ret_ (TX.then_ret (TX.in_ret (TX.then_ret (TX.in_ret ?_))))))
  exact ret_cell3 (k := 3) (v := .slice Ar rl.length cr) (v2 := .int .i64 (p : Nat)) Tryd.results32 rfl rfl rfl rfl Tryd.underlying45 rfl rfl (fun w1 hw => by rw [hR]; exact ⟨Ar, cr, Ad, cd, _, _, rfl, rfl, h.r1, h.r2, h.d1, h.d2, rfl, hw.pick [1, 0] (by decide) rfl⟩)
 ·have q22 := of_decide_eq_false h22
  have he0 : lenE (l.drop p) = 0 := Decidable.not_not.1 q22
  iterate 6 (first | refine TL.gu ?_ | refine TL.mv ?_)
  refine TL.val rfl rfl rfl (gives_len rfl Tryd.underlying28 rfl) ?_
  refine TL.gu ?_
  refine TL.mv ?_
  refine TL.gu ?_
  refine TL.val rfl rfl rfl (gives_bin rfl rfl rfl (fun w => bin_sub_ (r := ((l.length - p : Nat) : Int)) (by simp only [IntKind.wrap_i64]; omega) w)) ?_
  refine TL.gu ?_
  refine TL.vsplit rfl rfl rfl (gives_bin rfl rfl rfl (fun w => bin_gtr w)) (fun h29 => ?_) (fun h29 => ?_)
  ·have q29 := of_decide_eq_true h29
   have hR := h.stop (fun hh => by have := hh.2.1; omega)
   refine TL.pk ?_
   refine TL.end_ (TX.then_ (TC.condT rfl (TC.seq_ (TC.region ?_))))
   refine TL.val rfl rfl rfl (pm_loadV (k := 2) (i := 0) (n := 4) (v := .agg #[.int .i64 c.v, .int .i64 c.run, .int .i64 c.n, .slice Ad c.dg.length cd]) rfl rfl jrecag45 jrecsz45 rfl (by show 4 ≤ 4; decide) rfl) ?_
   refine TL.mv ?_
   refine TL.mv ?_
   refine TL.pstore (k := 3) (vs := [.int .i64 c.v, .int .i64 c.run, .int .i64 c.n, .slice Ad c.dg.length cd]) rfl rfl rfl rfl rfl rfl rfl jrecsz45 jrecone_i64i64i64s (by show 4 ≤ 4; decide) (L' := [.row (.slice Ad c.dg.length cd) 5 1 c.dg.length (bv c.dg), .row (.slice Ar rl.length cr) 27 17 rl.length (rcs rl), .blk g7 45 [.int .i64 c.v, .int .i64 c.run, .int .i64 c.n, .slice Ad c.dg.length cd], .blk g4 45 [.int .i64 c.v, .int .i64 c.run, .int .i64 c.n, .slice Ad c.dg.length cd]]) rfl ?_
   refine TL.as_ ?_
   refine TL.as_ ?_
   refine TL.end_ (TX.then_ (TC.ret_ (TX.then_ret (TX.in_ret (TX.then_ret (TX.in_ret ?_))))))
   exact ret_cell3 (k := 3) (v := .slice Ar rl.length cr) (v2 := .int .i64 (p : Nat)) Tryd.results32 rfl rfl rfl rfl Tryd.underlying45 rfl rfl (fun w1 hw => by rw [hR]; exact ⟨Ar, cr, Ad, cd, _, _, rfl, rfl, h.r1, h.r2, h.d1, h.d2, rfl, hw.pick [1, 0] (by decide) rfl⟩)
  ·have q29 := of_decide_eq_false h29
   obtain ⟨hd1, hd2, hd3⟩ := len_dec he0
   obtain ⟨_, hy0, hy1⟩ := byte_at (hb1.2.drop p) 8 (by omega)
   obtain ⟨m, hm⟩ : ∃ m : Nat, lenN (l.drop p) = (m : Nat) := ⟨(lenN (l.drop p)).toNat, by omega⟩
   have hmt : (lenN (l.drop p)).toNat = m := by omega
   have hml : m ≤ (l.drop p).length := by omega
   refine TL.pk ?_
   refine TL.end_ (TX.then_ (TC.condF rfl (TC.skip_ (TX.then_ ?_))))
   refine TC.join (α := Nat × AccY (accC c ((l.drop p).take m) key) (accL c ((l.drop p).take m) key)) (fun y => [(0, .slice A1 l.length c1), (1, .slice A2 n2 c2), (4, .pointer (some ⟨g4, 0, none⟩)), (7, .pointer (some ⟨g7, 0, none⟩)), (8, .slice Ar rl.length cr), (9, .int .i64 (p : Nat)), (10, .int .i64 (lenN (l.drop p))), (11, .int .i64 (accE c ((l.drop p).take m) key)), (12, .pointer (some ⟨y.1, 0, none⟩)), (13, .slice y.2.1.1.1 ((accL c ((l.drop p).take m) key).length) y.2.1.1.2)]) (fun y => Pm w [.row (.slice y.2.1.1.1 ((accL c ((l.drop p).take m) key).length) y.2.1.1.2) 27 17 ((accL c ((l.drop p).take m) key).length) (rcs (accL c ((l.drop p).take m) key)), .row (.slice y.2.1.2.1 ((accC c ((l.drop p).take m) key).dg.length) y.2.1.2.2) 5 1 ((accC c ((l.drop p).take m) key).dg.length) (bv (accC c ((l.drop p).take m) key).dg), .blk y.1 45 [.int .i64 ((accC c ((l.drop p).take m) key).v), .int .i64 ((accC c ((l.drop p).take m) key).run), .int .i64 ((accC c ((l.drop p).take m) key).n), .slice y.2.1.2.1 ((accC c ((l.drop p).take m) key).dg.length) y.2.1.2.2], .row (.slice Ad c.dg.length cd) 5 1 c.dg.length (bv c.dg), .row (.slice Ar rl.length cr) 27 17 rl.length (rcs rl), .blk g7 45 [.int .i64 c.v, .int .i64 c.run, .int .i64 c.n, .slice Ad c.dg.length cd], .blk g4 45 [.int .i64 0, .int .i64 0, .int .i64 0, .slice none 0 0]]) ?_ ?_
   ·refine TC.held (ls := #[Ff,Ff,Ff,Ff,Ff,Ff,Ff,Ff,Ff,Ff,Ff,Ff,Ff,Ff,Ff,Ff,Ff]) (Pm w [.row (.slice Ad c.dg.length cd) 5 1 c.dg.length (bv c.dg), .row (.slice Ar rl.length cr) 27 17 rl.length (rcs rl), .blk g7 45 [.int .i64 c.v, .int .i64 c.run, .int .i64 c.n, .slice Ad c.dg.length cd], .blk g4 45 [.int .i64 0, .int .i64 0, .int .i64 0, .slice none 0 0]]) (by kernel_rfl) rfl rfl (fun w hw => hw.drawn _) ?_
    refine TH.tk (listed' := #[Tt,Ff,Ff,Ff,Ff,Ff,Ff,Ff,Ff,Ff,Ff,Ff,Ff,Ff,Ff,Ff,Ff]) 0 rfl rfl rfl (pm_loadV (k := 2) (i := 0) (n := 4) (v := .agg #[.int .i64 c.v, .int .i64 c.run, .int .i64 c.n, .slice Ad c.dg.length cd]) rfl rfl jrecag45 jrecsz45 rfl (by show 4 ≤ 4; decide) rfl) (fun w1 hw => hw) ?_
    refine TH.tk (listed' := #[Tt,Tt,Ff,Ff,Ff,Ff,Ff,Ff,Ff,Ff,Ff,Ff,Ff,Ff,Ff,Ff,Ff]) 1 rfl rfl rfl (gives_move rfl rfl) (fun w1 hw => hw) ?_
    refine TH.tk (listed' := #[Tt,Tt,Tt,Ff,Ff,Ff,Ff,Ff,Ff,Ff,Ff,Ff,Ff,Ff,Ff,Ff,Ff]) 2 rfl rfl rfl (gives_move rfl rfl) (fun w1 hw => hw) ?_
    refine TH.tk (listed' := #[Tt,Tt,Tt,Tt,Ff,Ff,Ff,Ff,Ff,Ff,Ff,Ff,Ff,Ff,Ff,Ff,Ff]) 3 rfl rfl rfl (gives_move rfl rfl) (fun w1 hw => hw) ?_
    refine TH.tk (listed' := #[Tt,Tt,Tt,Tt,Tt,Ff,Ff,Ff,Ff,Ff,Ff,Ff,Ff,Ff,Ff,Ff,Ff]) 4 rfl rfl rfl (gives_move rfl rfl) (fun w1 hw => hw) ?_
    refine TH.tk (listed' := #[Tt,Tt,Tt,Tt,Tt,Tt,Ff,Ff,Ff,Ff,Ff,Ff,Ff,Ff,Ff,Ff,Ff]) 5 rfl rfl rfl (gives_bin rfl rfl rfl (fun w => bin_add_ (r := ((p + m : Nat) : Int)) (by simp only [IntKind.wrap_i64]; omega) w)) (fun w1 hw => hw) ?_
    refine TH.tk (listed' := #[Tt,Tt,Tt,Tt,Tt,Tt,Tt,Ff,Ff,Ff,Ff,Ff,Ff,Ff,Ff,Ff,Ff]) 6 rfl rfl rfl (gives_slice (v := .slice (if c1 = p then A1 else A1.map (·.add p)) m (c1 - p)) rfl rfl rfl rfl (fun w => cut_pA A1 l.length c1 p m (by omega) w)) (fun w1 hw => hw) ?_
    refine TH.tk (listed' := #[Tt,Tt,Tt,Tt,Tt,Tt,Tt,Tt,Ff,Ff,Ff,Ff,Ff,Ff,Ff,Ff,Ff]) 7 rfl rfl rfl (gives_move rfl rfl) (fun w1 hw => hw) ?_
    refine TH.two' (listed1 := #[Tt,Tt,Tt,Tt,Tt,Tt,Tt,Tt,Tt,Ff,Ff,Ff,Ff,Ff,Ff,Ff,Ff]) (listed2 := #[Tt,Tt,Tt,Tt,Tt,Tt,Tt,Tt,Ff,Ff,Ff,Ff,Ff,Tt,Ff,Ff,Ff]) 8 13 rfl rfl (by kernel_rfl) rfl rfl ?_ ?_
    ·refine TL.pcallPm (α := AccY (accC c ((l.drop p).take m) key) (accL c ((l.drop p).take m) key)) (fun y => .tuple #[.agg #[.int .i64 ((accC c ((l.drop p).take m) key).v), .int .i64 ((accC c ((l.drop p).take m) key).run), .int .i64 ((accC c ((l.drop p).take m) key).n), .slice y.1.2.1 ((accC c ((l.drop p).take m) key).dg.length) y.1.2.2], .slice y.1.1.1 ((accL c ((l.drop p).take m) key).length) y.1.1.2, .int .i64 (accE c ((l.drop p).take m) key)]) (fun y => [.row (.slice y.1.1.1 ((accL c ((l.drop p).take m) key).length) y.1.1.2) 27 17 ((accL c ((l.drop p).take m) key).length) (rcs (accL c ((l.drop p).take m) key)), .row (.slice y.1.2.1 ((accC c ((l.drop p).take m) key).dg.length) y.1.2.2) 5 1 ((accC c ((l.drop p).take m) key).dg.length) (bv (accC c ((l.drop p).take m) key).dg)]) rfl rfl rfl rfl rfl Tryd.func22 jrecnm22 jrecbd22 (fun w1 hw => (accept_any Ad _ cd c _ m (c1 - p) ((l.drop p).take m) A2 n2 c2 key w1 (byt_own (hw.at_ (k := 0) rfl) h.db) (byt_cutP ((hb1.below hw.bel).more hw.bel.size) (by omega) hnc) ((hb2.below hw.bel).more hw.bel.size) (by omega) (by omega) hn2l (by have := h.n0; omega) (by have := h.n1; omega) (hst.below hw.bel hst.lt) (hky.below hw.bel hky.lt)).mono fun e w2 h => h.use) ?_
     rintro ⟨⟨⟨AR, cR⟩, ⟨DR, eR⟩⟩, ⟨hAR1, hAR2⟩, ⟨hDR1, hDR2⟩⟩
     dsimp only [List.cons_append, List.nil_append]
     dsimp only at hAR1 hAR2 hDR1 hDR2
     refine TL.end_ ?_
     refine TX.held (fun w1 hw => hw.pick [2, 3, 4, 5] (by decide) rfl) ?_
     refine TH.tk (listed' := #[Tt,Tt,Tt,Tt,Tt,Tt,Tt,Tt,Tt,Tt,Ff,Ff,Ff,Ff,Ff,Ff,Ff]) 9 rfl rfl rfl (gives_move rfl rfl) (fun w1 hw => hw.pick [2, 3, 4, 5] (by decide) rfl) ?_
     refine TH.tk (listed' := #[Tt,Tt,Tt,Tt,Tt,Tt,Tt,Tt,Tt,Tt,Tt,Ff,Ff,Ff,Ff,Ff,Ff]) 10 rfl rfl rfl (gives_extract rfl rfl rfl) (fun w1 hw => hw.pick [2, 3, 4, 5] (by decide) rfl) ?_
     refine TH.tk (listed' := #[Tt,Tt,Tt,Tt,Tt,Tt,Tt,Tt,Tt,Tt,Tt,Tt,Ff,Ff,Ff,Ff,Ff]) 11 rfl rfl rfl (gives_extract rfl rfl rfl) (fun w1 hw => hw.pick [2, 3, 4, 5] (by decide) rfl) ?_
     refine TH.tk (listed' := #[Tt,Tt,Tt,Tt,Tt,Tt,Tt,Tt,Tt,Tt,Tt,Tt,Tt,Ff,Ff,Ff,Ff]) 12 rfl rfl rfl (gives_extract rfl rfl rfl) (fun w1 hw => hw.pick [2, 3, 4, 5] (by decide) rfl) ?_
     refine TH.only' (listed' := #[Tt,Tt,Tt,Tt,Tt,Tt,Tt,Tt,Tt,Tt,Tt,Tt,Tt,Tt,Ff,Ff,Ff]) 13 rfl (by kernel_rfl) rfl ?_
     refine TL.pnew rfl rfl rfl (exec_alloc (cs := [.int .i64 0, .int .i64 0, .int .i64 0, .slice none 0 0]) rfl jreczv45 rfl) (fun g12 => ?_)
     refine TL.end_ ?_
     refine TX.held (fun w1 hw => hw.pick [3, 4, 5, 6] (by decide) rfl) ?_
     refine TH.only' (listed' := #[Tt,Tt,Tt,Tt,Tt,Tt,Tt,Tt,Tt,Tt,Tt,Tt,Tt,Tt,Tt,Ff,Ff]) 14 rfl (by kernel_rfl) rfl ?_
     refine TL.pstore (k := 0) (vs := [.int .i64 ((accC c ((l.drop p).take m) key).v), .int .i64 ((accC c ((l.drop p).take m) key).run), .int .i64 ((accC c ((l.drop p).take m) key).n), .slice DR ((accC c ((l.drop p).take m) key).dg.length) eR]) rfl rfl rfl rfl rfl rfl rfl jrecsz45 jrecone_i64i64i64s (by show 4 ≤ 4; decide) (L' := [.blk g12 45 [.int .i64 ((accC c ((l.drop p).take m) key).v), .int .i64 ((accC c ((l.drop p).take m) key).run), .int .i64 ((accC c ((l.drop p).take m) key).n), .slice DR ((accC c ((l.drop p).take m) key).dg.length) eR], .row (.slice AR ((accL c ((l.drop p).take m) key).length) cR) 27 17 ((accL c ((l.drop p).take m) key).length) (rcs (accL c ((l.drop p).take m) key)), .row (.slice DR ((accC c ((l.drop p).take m) key).dg.length) eR) 5 1 ((accC c ((l.drop p).take m) key).dg.length) (bv (accC c ((l.drop p).take m) key).dg), .row (.slice Ad c.dg.length cd) 5 1 c.dg.length (bv c.dg), .row (.slice Ar rl.length cr) 27 17 rl.length (rcs rl), .blk g7 45 [.int .i64 c.v, .int .i64 c.run, .int .i64 c.n, .slice Ad c.dg.length cd], .blk g4 45 [.int .i64 0, .int .i64 0, .int .i64 0, .slice none 0 0]]) rfl ?_
     refine TL.end_ ?_
     refine TX.held (fun w1 hw => hw.pick [3, 4, 5, 6] (by decide) rfl) ?_
     refine TH.tk (listed' := #[Tt,Tt,Tt,Tt,Tt,Tt,Tt,Tt,Tt,Tt,Tt,Tt,Tt,Tt,Tt,Tt,Ff]) 15 rfl rfl rfl (gives_assign rfl rfl) (fun w1 hw => hw.pick [3, 4, 5, 6] (by decide) rfl) ?_
     refine TH.tk (listed' := #[Tt,Tt,Tt,Tt,Tt,Tt,Tt,Tt,Tt,Tt,Tt,Tt,Tt,Tt,Tt,Tt,Tt]) 16 rfl rfl rfl (gives_assign rfl rfl) (fun w1 hw => hw.pick [3, 4, 5, 6] (by decide) rfl) ?_
     refine TH.done (by kernel_rfl) ?_
     exact TX.joined (⟨g12, ⟨((AR, cR), (DR, eR)), ⟨hAR1, hAR2⟩, ⟨hDR1, hDR2⟩⟩⟩) (⟨rfl, rfl, rfl, rfl, rfl, rfl, rfl, rfl, rfl, rfl, trivial⟩) (fun w1 hw => hw.pick [1, 2, 0, 3, 4, 5, 6] (by decide) rfl)
    ·refine TL.pnew rfl rfl rfl (exec_alloc (cs := [.int .i64 0, .int .i64 0, .int .i64 0, .slice none 0 0]) rfl jreczv45 rfl) (fun g12 => ?_)
     refine TL.end_ ?_
     refine TX.held (fun w1 hw => hw.pick [1, 2, 3, 4] (by decide) rfl) ?_
     refine TH.only' (listed' := #[Tt,Tt,Tt,Tt,Tt,Tt,Tt,Tt,Tt,Ff,Ff,Ff,Ff,Tt,Ff,Ff,Ff]) 8 rfl (by kernel_rfl) rfl ?_
     refine TL.pcallPm (α := AccY (accC c ((l.drop p).take m) key) (accL c ((l.drop p).take m) key)) (fun y => .tuple #[.agg #[.int .i64 ((accC c ((l.drop p).take m) key).v), .int .i64 ((accC c ((l.drop p).take m) key).run), .int .i64 ((accC c ((l.drop p).take m) key).n), .slice y.1.2.1 ((accC c ((l.drop p).take m) key).dg.length) y.1.2.2], .slice y.1.1.1 ((accL c ((l.drop p).take m) key).length) y.1.1.2, .int .i64 (accE c ((l.drop p).take m) key)]) (fun y => [.row (.slice y.1.1.1 ((accL c ((l.drop p).take m) key).length) y.1.1.2) 27 17 ((accL c ((l.drop p).take m) key).length) (rcs (accL c ((l.drop p).take m) key)), .row (.slice y.1.2.1 ((accC c ((l.drop p).take m) key).dg.length) y.1.2.2) 5 1 ((accC c ((l.drop p).take m) key).dg.length) (bv (accC c ((l.drop p).take m) key).dg)]) rfl rfl rfl rfl rfl Tryd.func22 jrecnm22 jrecbd22 (fun w1 hw => (accept_any Ad _ cd c _ m (c1 - p) ((l.drop p).take m) A2 n2 c2 key w1 (byt_own (hw.at_ (k := 1) rfl) h.db) (byt_cutP ((hb1.below hw.bel).more hw.bel.size) (by omega) hnc) ((hb2.below hw.bel).more hw.bel.size) (by omega) (by omega) hn2l (by have := h.n0; omega) (by have := h.n1; omega) (hst.below hw.bel hst.lt) (hky.below hw.bel hky.lt)).mono fun e w2 h => h.use) ?_
     rintro ⟨⟨⟨AR, cR⟩, ⟨DR, eR⟩⟩, ⟨hAR1, hAR2⟩, ⟨hDR1, hDR2⟩⟩
     dsimp only [List.cons_append, List.nil_append]
     dsimp only at hAR1 hAR2 hDR1 hDR2
     refine TL.end_ ?_
     refine TX.held (fun w1 hw => hw.pick [3, 4, 5, 6] (by decide) rfl) ?_
     refine TH.tk (listed' := #[Tt,Tt,Tt,Tt,Tt,Tt,Tt,Tt,Tt,Tt,Ff,Ff,Ff,Tt,Ff,Ff,Ff]) 9 rfl rfl rfl (gives_move rfl rfl) (fun w1 hw => hw.pick [3, 4, 5, 6] (by decide) rfl) ?_
     refine TH.tk (listed' := #[Tt,Tt,Tt,Tt,Tt,Tt,Tt,Tt,Tt,Tt,Tt,Ff,Ff,Tt,Ff,Ff,Ff]) 10 rfl rfl rfl (gives_extract rfl rfl rfl) (fun w1 hw => hw.pick [3, 4, 5, 6] (by decide) rfl) ?_
     refine TH.tk (listed' := #[Tt,Tt,Tt,Tt,Tt,Tt,Tt,Tt,Tt,Tt,Tt,Tt,Ff,Tt,Ff,Ff,Ff]) 11 rfl rfl rfl (gives_extract rfl rfl rfl) (fun w1 hw => hw.pick [3, 4, 5, 6] (by decide) rfl) ?_
     refine TH.tk (listed' := #[Tt,Tt,Tt,Tt,Tt,Tt,Tt,Tt,Tt,Tt,Tt,Tt,Tt,Tt,Ff,Ff,Ff]) 12 rfl rfl rfl (gives_extract rfl rfl rfl) (fun w1 hw => hw.pick [3, 4, 5, 6] (by decide) rfl) ?_
     refine TH.only' (listed' := #[Tt,Tt,Tt,Tt,Tt,Tt,Tt,Tt,Tt,Tt,Tt,Tt,Tt,Tt,Tt,Ff,Ff]) 14 rfl (by kernel_rfl) rfl ?_
     refine TL.pstore (k := 2) (vs := [.int .i64 ((accC c ((l.drop p).take m) key).v), .int .i64 ((accC c ((l.drop p).take m) key).run), .int .i64 ((accC c ((l.drop p).take m) key).n), .slice DR ((accC c ((l.drop p).take m) key).dg.length) eR]) rfl rfl rfl rfl rfl rfl rfl jrecsz45 jrecone_i64i64i64s (by show 4 ≤ 4; decide) (L' := [.row (.slice AR ((accL c ((l.drop p).take m) key).length) cR) 27 17 ((accL c ((l.drop p).take m) key).length) (rcs (accL c ((l.drop p).take m) key)), .row (.slice DR ((accC c ((l.drop p).take m) key).dg.length) eR) 5 1 ((accC c ((l.drop p).take m) key).dg.length) (bv (accC c ((l.drop p).take m) key).dg), .blk g12 45 [.int .i64 ((accC c ((l.drop p).take m) key).v), .int .i64 ((accC c ((l.drop p).take m) key).run), .int .i64 ((accC c ((l.drop p).take m) key).n), .slice DR ((accC c ((l.drop p).take m) key).dg.length) eR], .row (.slice Ad c.dg.length cd) 5 1 c.dg.length (bv c.dg), .row (.slice Ar rl.length cr) 27 17 rl.length (rcs rl), .blk g7 45 [.int .i64 c.v, .int .i64 c.run, .int .i64 c.n, .slice Ad c.dg.length cd], .blk g4 45 [.int .i64 0, .int .i64 0, .int .i64 0, .slice none 0 0]]) rfl ?_
     refine TL.end_ ?_
     refine TX.held (fun w1 hw => hw.pick [3, 4, 5, 6] (by decide) rfl) ?_
     refine TH.tk (listed' := #[Tt,Tt,Tt,Tt,Tt,Tt,Tt,Tt,Tt,Tt,Tt,Tt,Tt,Tt,Tt,Tt,Ff]) 15 rfl rfl rfl (gives_assign rfl rfl) (fun w1 hw => hw.pick [3, 4, 5, 6] (by decide) rfl) ?_
     refine TH.tk (listed' := #[Tt,Tt,Tt,Tt,Tt,Tt,Tt,Tt,Tt,Tt,Tt,Tt,Tt,Tt,Tt,Tt,Tt]) 16 rfl rfl rfl (gives_assign rfl rfl) (fun w1 hw => hw.pick [3, 4, 5, 6] (by decide) rfl) ?_
     refine TH.done (by kernel_rfl) ?_
     exact TX.joined (⟨g12, ⟨((AR, cR), (DR, eR)), ⟨hAR1, hAR2⟩, ⟨hDR1, hDR2⟩⟩⟩) (⟨rfl, rfl, rfl, rfl, rfl, rfl, rfl, rfl, rfl, rfl, trivial⟩) (fun w1 hw => hw)
   ·rintro ⟨g12, ⟨⟨AR, cR⟩, ⟨DR, eR⟩⟩, ⟨hAR1, hAR2⟩, ⟨hDR1, hDR2⟩⟩
    dsimp only at hAR1 hAR2 hDR1 hDR2 ⊢
    refine TC.seq_ (TC.seq_ (TC.region ?_))
    refine TL.mv ?_
    refine TL.vsplit rfl rfl rfl (gives_bin rfl rfl rfl (fun w => bin_neq w)) (fun h48 => ?_) (fun h48 => ?_)
    ·have q48 := of_decide_eq_true h48
     have hR := h.stop (fun hh => by rw [hmt] at hh; exact q48 hh.2.2)
     refine TL.end_ (TX.then_ (TC.condT rfl (TC.seq_ (TC.region ?_))))
     refine TL.val rfl rfl rfl (pm_loadV (k := 5) (i := 0) (n := 4) (v := .agg #[.int .i64 c.v, .int .i64 c.run, .int .i64 c.n, .slice Ad c.dg.length cd]) rfl rfl jrecag45 jrecsz45 rfl (by show 4 ≤ 4; decide) rfl) ?_
     refine TL.mv ?_
     refine TL.mv ?_
     refine TL.pstore (k := 6) (vs := [.int .i64 c.v, .int .i64 c.run, .int .i64 c.n, .slice Ad c.dg.length cd]) rfl rfl rfl rfl rfl rfl rfl jrecsz45 jrecone_i64i64i64s (by show 4 ≤ 4; decide) (L' := [.row (.slice AR ((accL c ((l.drop p).take m) key).length) cR) 27 17 ((accL c ((l.drop p).take m) key).length) (rcs (accL c ((l.drop p).take m) key)), .row (.slice DR ((accC c ((l.drop p).take m) key).dg.length) eR) 5 1 ((accC c ((l.drop p).take m) key).dg.length) (bv (accC c ((l.drop p).take m) key).dg), .blk g12 45 [.int .i64 ((accC c ((l.drop p).take m) key).v), .int .i64 ((accC c ((l.drop p).take m) key).run), .int .i64 ((accC c ((l.drop p).take m) key).n), .slice DR ((accC c ((l.drop p).take m) key).dg.length) eR], .row (.slice Ad c.dg.length cd) 5 1 c.dg.length (bv c.dg), .row (.slice Ar rl.length cr) 27 17 rl.length (rcs rl), .blk g7 45 [.int .i64 c.v, .int .i64 c.run, .int .i64 c.n, .slice Ad c.dg.length cd], .blk g4 45 [.int .i64 c.v, .int .i64 c.run, .int .i64 c.n, .slice Ad c.dg.length cd]]) rfl ?_
     refine TL.as_ ?_
     refine TL.as_ ?_
     refine TL.end_ (TX.then_ (TC.ret_ (TX.then_ret (TX.in_ret (TX.then_ret (TX.in_ret ?_))))))
     exact ret_cell3 (k := 6) (v := .slice Ar rl.length cr) (v2 := .int .i64 (p : Nat)) Tryd.results32 rfl rfl rfl rfl Tryd.underlying45 rfl rfl (fun w1 hw => by rw [hR]; exact ⟨Ar, cr, Ad, cd, _, _, rfl, rfl, h.r1, h.r2, h.d1, h.d2, rfl, hw.pick [4, 3] (by decide) rfl⟩)
    ·have q48 := of_decide_eq_false h48
     have ha0 : accE c ((l.drop p).take m) key = 0 := Decidable.not_not.1 q48
     refine TL.end_ (TX.then_ (TC.condF rfl (TC.skip_ (TX.then_ ?_))))
     have hrl := acc_cnt (p := p) (m := m) ha0 hb1.2
     have hrp := h.rp
     refine TC.held (ls := #[Ff,Ff,Ff,Ff,Ff,Ff,Ff,Ff,Ff,Ff]) (Pm w [.blk g12 45 [.int .i64 ((accC c ((l.drop p).take m) key).v), .int .i64 ((accC c ((l.drop p).take m) key).run), .int .i64 ((accC c ((l.drop p).take m) key).n), .slice DR ((accC c ((l.drop p).take m) key).dg.length) eR]]) (by kernel_rfl) rfl rfl (fun w hw => hw.drawn _) ?_
     refine TH.tk (listed' := #[Tt,Ff,Ff,Ff,Ff,Ff,Ff,Ff,Ff,Ff]) 0 rfl rfl rfl (pm_loadV (k := 0) (i := 0) (n := 4) (v := .agg #[.int .i64 ((accC c ((l.drop p).take m) key).v), .int .i64 ((accC c ((l.drop p).take m) key).run), .int .i64 ((accC c ((l.drop p).take m) key).n), .slice DR ((accC c ((l.drop p).take m) key).dg.length) eR]) rfl rfl jrecag45 jrecsz45 rfl (by show 4 ≤ 4; decide) rfl) (fun w1 hw => hw.pick [2] (by decide) rfl) ?_
     refine TH.tk (listed' := #[Tt,Tt,Ff,Ff,Ff,Ff,Ff,Ff,Ff,Ff]) 1 rfl rfl rfl (gives_move rfl rfl) (fun w1 hw => hw.pick [2] (by decide) rfl) ?_
     refine TH.tk (listed' := #[Tt,Tt,Tt,Ff,Ff,Ff,Ff,Ff,Ff,Ff]) 2 rfl rfl rfl (gives_move rfl rfl) (fun w1 hw => hw.pick [2] (by decide) rfl) ?_
     refine TH.tk (listed' := #[Tt,Tt,Tt,Ff,Tt,Ff,Ff,Ff,Ff,Ff]) 4 rfl rfl rfl (gives_move rfl rfl) (fun w1 hw => hw.pick [2] (by decide) rfl) ?_
     refine TH.tk (listed' := #[Tt,Tt,Tt,Ff,Tt,Tt,Ff,Ff,Ff,Ff]) 5 rfl rfl rfl (gives_move rfl rfl) (fun w1 hw => hw.pick [2] (by decide) rfl) ?_
     refine TH.tk (listed' := #[Tt,Tt,Tt,Ff,Tt,Tt,Tt,Ff,Ff,Ff]) 6 rfl rfl rfl (gives_bin rfl rfl rfl (fun w => bin_add_ (r := ((p + m : Nat) : Int)) (by simp only [IntKind.wrap_i64]; omega) w)) (fun w1 hw => hw.pick [2] (by decide) rfl) ?_
     refine TH.only' (listed' := #[Tt,Tt,Tt,Tt,Tt,Tt,Tt,Ff,Ff,Ff]) 3 rfl (by kernel_rfl) rfl ?_
     refine TL.appendT (k := 4) rfl rfl rfl rfl Tryd.underlying33 jrecel33 rfl rfl rfl (fun w1 hw => pm_reads hw (k := 0) rfl) (rcs_one _) (by omega) ((rl ++ (accL c ((l.drop p).take m) key)).length) (by rw [List.length_append]) (rcs (rl ++ (accL c ((l.drop p).take m) key))) (by rw [rcs_app]) (fun A55 c55 hA551 hA552 => ?_)
     refine TL.end_ ?_
     refine TX.held (fun w1 hw => hw.pick [2] (by decide) rfl) ?_
     refine TH.only' (listed' := #[Tt,Tt,Tt,Tt,Tt,Tt,Tt,Tt,Ff,Ff]) 7 rfl (by kernel_rfl) rfl ?_
     refine TL.pstore (k := 5) (vs := [.int .i64 ((accC c ((l.drop p).take m) key).v), .int .i64 ((accC c ((l.drop p).take m) key).run), .int .i64 ((accC c ((l.drop p).take m) key).n), .slice DR ((accC c ((l.drop p).take m) key).dg.length) eR]) rfl rfl rfl rfl rfl rfl rfl jrecsz45 jrecone_i64i64i64s (by show 4 ≤ 4; decide) (L' := [.row (.slice AR ((accL c ((l.drop p).take m) key).length) cR) 27 17 ((accL c ((l.drop p).take m) key).length) (rcs (accL c ((l.drop p).take m) key)), .row (.slice DR ((accC c ((l.drop p).take m) key).dg.length) eR) 5 1 ((accC c ((l.drop p).take m) key).dg.length) (bv (accC c ((l.drop p).take m) key).dg), .blk g12 45 [.int .i64 ((accC c ((l.drop p).take m) key).v), .int .i64 ((accC c ((l.drop p).take m) key).run), .int .i64 ((accC c ((l.drop p).take m) key).n), .slice DR ((accC c ((l.drop p).take m) key).dg.length) eR], .row (.slice Ad c.dg.length cd) 5 1 c.dg.length (bv c.dg), .row (.slice A55 ((rl ++ (accL c ((l.drop p).take m) key)).length) c55) 27 17 ((rl ++ (accL c ((l.drop p).take m) key)).length) (rcs (rl ++ (accL c ((l.drop p).take m) key))), .blk g7 45 [.int .i64 ((accC c ((l.drop p).take m) key).v), .int .i64 ((accC c ((l.drop p).take m) key).run), .int .i64 ((accC c ((l.drop p).take m) key).n), .slice DR ((accC c ((l.drop p).take m) key).dg.length) eR], .blk g4 45 [.int .i64 0, .int .i64 0, .int .i64 0, .slice none 0 0]]) rfl ?_
     refine TL.end_ ?_
     refine TX.held (fun w1 hw => hw.pick [2] (by decide) rfl) ?_
     refine TH.tk (listed' := #[Tt,Tt,Tt,Tt,Tt,Tt,Tt,Tt,Tt,Ff]) 8 rfl rfl rfl (gives_assign rfl rfl) (fun w1 hw => hw.pick [2] (by decide) rfl) ?_
     refine TH.tk (listed' := #[Tt,Tt,Tt,Tt,Tt,Tt,Tt,Tt,Tt,Tt]) 9 rfl rfl rfl (gives_assign rfl rfl) (fun w1 hw => hw.pick [2] (by decide) rfl) ?_
     refine TH.done (by kernel_rfl) ?_
     refine TX.in_normal ?_
     exact TX.round (⟨(((accC c ((l.drop p).take m) key), rl ++ (accL c ((l.drop p).take m) key), p + m, f - 1), (A55, c55), (DR, eR)), h.next hb1.2 he0 hm hml ha0 hA551 hA552 hDR1 hDR2⟩) (by show f - 1 < f; have := h.fu; omega) ⟨rfl, rfl, rfl, rfl, rfl, rfl, trivial⟩ (fun w1 hw => hw.pick [1, 4, 5, 6] (by decide) rfl)
set_option maxHeartbeats 2000000 in
theorem rrecover_any (A1 : Option Addr) (n1 c1 : Nat) (l : List Int) (A2 : Option Addr) (n2 c2 : Nat) (key : List Int) (w : World) (hb1 : Byt w w.heap.size A1 n1 l) (hb2 : Byt w w.heap.size A2 n2 key) (hnc : n1 ≤ c1) (hn1l : n1 ≤ 1000000) (hn2l : n2 ≤ 1000000000) :
  Calls Tryd.prog 38 #[.slice A1 n1 c1, .slice A2 n2 c2] w fun e w' => AccR (rcvF l key).1 (rcvF l key).2.1 ((rcvF l key).2.2 : Nat) w e w' := by
 obtain rfl : n1 = l.length := hb1.len.symm
 refine begin_ (vs := [.slice A1 l.length c1, .slice A2 n2 c2]) Tryd.func38 rfl rfl rfl ?_ (Pm.start w)
 refine TC.seq_ (TC.region ?_)
 refine TL.pnew rfl rfl rfl (exec_alloc (cs := [.int .i64 0, .int .i64 0, .int .i64 0, .slice none 0 0]) rfl jreczv45 rfl) (fun g4 => ?_)
 refine TL.as_ ?_
 refine TL.as_ ?_
 refine TL.end_ (TX.then_ (TC.seq_ (TC.region ?_)))
 refine TL.pnew rfl rfl rfl (exec_alloc (cs := [.int .i64 0, .int .i64 0, .int .i64 0, .slice none 0 0]) rfl jreczv45 rfl) (fun g7 => ?_)
 refine TL.end_ (TX.then_ (TC.seq_ (TC.region ?_)))
 refine TL.as_ ?_
 refine TL.end_ (TX.then_ (TC.seq_ (TC.region ?_)))
 refine TL.as_ ?_
 refine TL.end_ (TX.then_ (TC.block ?_))
 refine TC.nilrow 27 17 ?_
 refine TC.nilrow 5 1 ?_
 refine TC.loop_ (α := {y : (Chn × List Rs × Nat × Nat) × (Option Addr × Nat) × (Option Addr × Nat) // RcI l key y.1.1 y.1.2.1 y.1.2.2.1 y.1.2.2.2 y.2.1.2 y.2.2.2}) (fun y => [(0, .slice A1 l.length c1), (1, .slice A2 n2 c2), (4, .pointer (some ⟨g4, 0, none⟩)), (7, .pointer (some ⟨g7, 0, none⟩)), (8, .slice y.1.2.1.1 y.1.1.2.1.length y.1.2.1.2), (9, .int .i64 (y.1.1.2.2.1 : Nat))]) (fun y => Pm w [.row (.slice y.1.2.2.1 y.1.1.1.dg.length y.1.2.2.2) 5 1 y.1.1.1.dg.length (bv y.1.1.1.dg), .row (.slice y.1.2.1.1 y.1.1.2.1.length y.1.2.1.2) 27 17 y.1.1.2.1.length (rcs y.1.1.2.1), .blk g7 45 [.int .i64 y.1.1.1.v, .int .i64 y.1.1.1.run, .int .i64 y.1.1.1.n, .slice y.1.2.2.1 y.1.1.1.dg.length y.1.2.2.2], .blk g4 45 [.int .i64 0, .int .i64 0, .int .i64 0, .slice none 0 0]]) (fun y => y.1.1.2.2.2) (⟨((Chn.zero, [], 0, l.length + 1), (none, 0), (none, 0)), RcI.start l key⟩) ⟨rfl, rfl, rfl, rfl, rfl, rfl, trivial⟩ (fun w1 hw => hw) ?_
 rintro ⟨⟨⟨c, rl, p, f⟩, ⟨Ar, cr⟩, ⟨Ad, cd⟩⟩, h⟩
 dsimp only at h ⊢
 have hpl := h.pl
 have hdl : (l.drop p).length = l.length - p := List.length_drop ..
 refine TC.block (TC.seq_ (TC.region ?_))
 refine TL.mv ?_
 refine TL.mv ?_
 refine TL.val rfl rfl rfl (gives_sliceL (v := .slice (if c1 = p then A1 else A1.map (·.add p)) (l.length - p) (c1 - p)) rfl rfl rfl (fun w => cut_lo1 Tryd.underlying28 (fun w => rfl) A1 l.length c1 p rfl (by have := h.pl; omega) w)) ?_
 refine TL.pcall1 (r := .tuple #[.int .i64 (lenN (l.drop p)), .int .i64 (lenE (l.drop p))]) rfl rfl rfl rfl rfl Tryd.func25 jrecnm25 jrecbd25 (fun w1 hw => rlength_any (if c1 = p then A1 else A1.map (·.add p)) (l.length - p) (c1 - p) (l.drop p) w1 (((hb1.below hw.bel).more hw.bel.size).cut h.pl hnc) (by omega)) ?_
 iterate 5 (first | refine TL.as_ ?_ | refine TL.ex ?_ | refine TL.mv ?_)
 refine TL.end_ (TX.then_ (TC.seq_ (TC.seq_ (TC.region ?_))))
 refine TL.mv ?_
 refine TL.vsplit rfl rfl rfl (gives_bin rfl rfl rfl (fun w => bin_neq w)) (fun h23 => ?_) (fun h23 => ?_)
 ·have q23 := of_decide_eq_true h23
  have hR := h.stop (fun hh => q23 hh.1)
  iterate 8 (first | refine TL.of ?_ | refine TL.mv ?_ | refine TL.pk ?_)
  refine TL.end_ (TX.then_ (TC.condT rfl (TC.seq_ (TC.region ?_))))
  refine TL.val rfl rfl rfl (pm_loadV (k := 2) (i := 0) (n := 4) (v := .agg #[.int .i64 c.v, .int .i64 c.run, .int .i64 c.n, .slice Ad c.dg.length cd]) rfl rfl jrecag45 jrecsz45 rfl (by show 4 ≤ 4; decide) rfl) ?_
  refine TL.mv ?_
  refine TL.mv ?_
  refine TL.pstore (k := 3) (vs := [.int .i64 c.v, .int .i64 c.run, .int .i64 c.n, .slice Ad c.dg.length cd]) rfl rfl rfl rfl rfl rfl rfl jrecsz45 jrecone_i64i64i64s (by show 4 ≤ 4; decide) (L' := [.row (.slice Ad c.dg.length cd) 5 1 c.dg.length (bv c.dg), .row (.slice Ar rl.length cr) 27 17 rl.length (rcs rl), .blk g7 45 [.int .i64 c.v, .int .i64 c.run, .int .i64 c.n, .slice Ad c.dg.length cd], .blk g4 45 [.int .i64 c.v, .int .i64 c.run, .int .i64 c.n, .slice Ad c.dg.length cd]]) rfl ?_
  refine TL.as_ ?_
  refine TL.as_ ?_
  refine TL.end_ (TX.then_ (TC.ret_ (TX.then_ret (TX.in_ret (TX.then_ret (TX.in_ret ?_))))))
  exact ret_cell3 (k := 3) (v := .slice Ar rl.length cr) (v2 := .int .i64 (p : Nat)) Tryd.results38 rfl rfl rfl rfl Tryd.underlying45 rfl rfl (fun w1 hw => by rw [hR]; exact ⟨Ar, cr, Ad, cd, _, _, rfl, rfl, h.r1, h.r2, h.d1, h.d2, rfl, hw.pick [1, 0] (by decide) rfl⟩)
 ·have q23 := of_decide_eq_false h23
  have he0 : lenE (l.drop p) = 0 := Decidable.not_not.1 q23
  iterate 4 (first | refine TL.gu ?_ | refine TL.mv ?_)
  refine TL.val rfl rfl rfl (gives_len rfl Tryd.underlying28 rfl) ?_
  refine TL.gu ?_
  refine TL.mv ?_
  refine TL.gu ?_
  refine TL.val rfl rfl rfl (gives_bin rfl rfl rfl (fun w => bin_sub_ (r := ((l.length - p : Nat) : Int)) (by simp only [IntKind.wrap_i64]; omega) w)) ?_
  refine TL.gu ?_
  refine TL.mv ?_
  refine TL.gu ?_
  refine TL.vsplit rfl rfl rfl (gives_bin rfl rfl rfl (fun w => bin_lss w)) (fun h30 => ?_) (fun h30 => ?_)
  ·have q30 := of_decide_eq_true h30
   have hR := h.stop (fun hh => by have := hh.2.1; omega)
   refine TL.pk ?_
   refine TL.end_ (TX.then_ (TC.condT rfl (TC.seq_ (TC.region ?_))))
   refine TL.val rfl rfl rfl (pm_loadV (k := 2) (i := 0) (n := 4) (v := .agg #[.int .i64 c.v, .int .i64 c.run, .int .i64 c.n, .slice Ad c.dg.length cd]) rfl rfl jrecag45 jrecsz45 rfl (by show 4 ≤ 4; decide) rfl) ?_
   refine TL.mv ?_
   refine TL.mv ?_
   refine TL.pstore (k := 3) (vs := [.int .i64 c.v, .int .i64 c.run, .int .i64 c.n, .slice Ad c.dg.length cd]) rfl rfl rfl rfl rfl rfl rfl jrecsz45 jrecone_i64i64i64s (by show 4 ≤ 4; decide) (L' := [.row (.slice Ad c.dg.length cd) 5 1 c.dg.length (bv c.dg), .row (.slice Ar rl.length cr) 27 17 rl.length (rcs rl), .blk g7 45 [.int .i64 c.v, .int .i64 c.run, .int .i64 c.n, .slice Ad c.dg.length cd], .blk g4 45 [.int .i64 c.v, .int .i64 c.run, .int .i64 c.n, .slice Ad c.dg.length cd]]) rfl ?_
   refine TL.as_ ?_
   refine TL.as_ ?_
   refine TL.end_ (TX.then_ (TC.ret_ (TX.then_ret (TX.in_ret (TX.then_ret (TX.in_ret ?_))))))
   exact ret_cell3 (k := 3) (v := .slice Ar rl.length cr) (v2 := .int .i64 (p : Nat)) Tryd.results38 rfl rfl rfl rfl Tryd.underlying45 rfl rfl (fun w1 hw => by rw [hR]; exact ⟨Ar, cr, Ad, cd, _, _, rfl, rfl, h.r1, h.r2, h.d1, h.d2, rfl, hw.pick [1, 0] (by decide) rfl⟩)
  ·have q30 := of_decide_eq_false h30
   obtain ⟨hd1, hd2, hd3⟩ := len_dec he0
   obtain ⟨_, hy0, hy1⟩ := byte_at (hb1.2.drop p) 8 (by omega)
   obtain ⟨m, hm⟩ : ∃ m : Nat, lenN (l.drop p) = (m : Nat) := ⟨(lenN (l.drop p)).toNat, by omega⟩
   have hmt : (lenN (l.drop p)).toNat = m := by omega
   have hml : m ≤ (l.drop p).length := by omega
   refine TL.pk ?_
   refine TL.end_ (TX.then_ (TC.condF rfl (TC.skip_ (TX.then_ ?_))))
   refine TC.join (α := Nat × AccY (accC c ((l.drop p).take m) key) (accL c ((l.drop p).take m) key)) (fun y => [(0, .slice A1 l.length c1), (1, .slice A2 n2 c2), (4, .pointer (some ⟨g4, 0, none⟩)), (7, .pointer (some ⟨g7, 0, none⟩)), (8, .slice Ar rl.length cr), (9, .int .i64 (p : Nat)), (10, .int .i64 (lenN (l.drop p))), (14, .int .i64 (accE c ((l.drop p).take m) key)), (12, .pointer (some ⟨y.1, 0, none⟩)), (13, .slice y.2.1.1.1 ((accL c ((l.drop p).take m) key).length) y.2.1.1.2)]) (fun y => Pm w [.row (.slice y.2.1.1.1 ((accL c ((l.drop p).take m) key).length) y.2.1.1.2) 27 17 ((accL c ((l.drop p).take m) key).length) (rcs (accL c ((l.drop p).take m) key)), .row (.slice y.2.1.2.1 ((accC c ((l.drop p).take m) key).dg.length) y.2.1.2.2) 5 1 ((accC c ((l.drop p).take m) key).dg.length) (bv (accC c ((l.drop p).take m) key).dg), .blk y.1 45 [.int .i64 ((accC c ((l.drop p).take m) key).v), .int .i64 ((accC c ((l.drop p).take m) key).run), .int .i64 ((accC c ((l.drop p).take m) key).n), .slice y.2.1.2.1 ((accC c ((l.drop p).take m) key).dg.length) y.2.1.2.2], .row (.slice Ad c.dg.length cd) 5 1 c.dg.length (bv c.dg), .row (.slice Ar rl.length cr) 27 17 rl.length (rcs rl), .blk g7 45 [.int .i64 c.v, .int .i64 c.run, .int .i64 c.n, .slice Ad c.dg.length cd], .blk g4 45 [.int .i64 0, .int .i64 0, .int .i64 0, .slice none 0 0]]) ?_ ?_
   ·refine TC.held (ls := #[Ff,Ff,Ff,Ff,Ff,Ff,Ff,Ff,Ff,Ff,Ff,Ff,Ff,Ff,Ff,Ff,Ff]) (Pm w [.row (.slice Ad c.dg.length cd) 5 1 c.dg.length (bv c.dg), .row (.slice Ar rl.length cr) 27 17 rl.length (rcs rl), .blk g7 45 [.int .i64 c.v, .int .i64 c.run, .int .i64 c.n, .slice Ad c.dg.length cd], .blk g4 45 [.int .i64 0, .int .i64 0, .int .i64 0, .slice none 0 0]]) (by kernel_rfl) rfl rfl (fun w hw => hw.drawn _) ?_
    refine TH.tk (listed' := #[Tt,Ff,Ff,Ff,Ff,Ff,Ff,Ff,Ff,Ff,Ff,Ff,Ff,Ff,Ff,Ff,Ff]) 0 rfl rfl rfl (pm_loadV (k := 2) (i := 0) (n := 4) (v := .agg #[.int .i64 c.v, .int .i64 c.run, .int .i64 c.n, .slice Ad c.dg.length cd]) rfl rfl jrecag45 jrecsz45 rfl (by show 4 ≤ 4; decide) rfl) (fun w1 hw => hw) ?_
    refine TH.tk (listed' := #[Tt,Tt,Ff,Ff,Ff,Ff,Ff,Ff,Ff,Ff,Ff,Ff,Ff,Ff,Ff,Ff,Ff]) 1 rfl rfl rfl (gives_move rfl rfl) (fun w1 hw => hw) ?_
    refine TH.tk (listed' := #[Tt,Tt,Tt,Ff,Ff,Ff,Ff,Ff,Ff,Ff,Ff,Ff,Ff,Ff,Ff,Ff,Ff]) 2 rfl rfl rfl (gives_move rfl rfl) (fun w1 hw => hw) ?_
    refine TH.tk (listed' := #[Tt,Tt,Tt,Tt,Ff,Ff,Ff,Ff,Ff,Ff,Ff,Ff,Ff,Ff,Ff,Ff,Ff]) 3 rfl rfl rfl (gives_move rfl rfl) (fun w1 hw => hw) ?_
    refine TH.tk (listed' := #[Tt,Tt,Tt,Tt,Tt,Ff,Ff,Ff,Ff,Ff,Ff,Ff,Ff,Ff,Ff,Ff,Ff]) 4 rfl rfl rfl (gives_move rfl rfl) (fun w1 hw => hw) ?_
    refine TH.tk (listed' := #[Tt,Tt,Tt,Tt,Tt,Tt,Ff,Ff,Ff,Ff,Ff,Ff,Ff,Ff,Ff,Ff,Ff]) 5 rfl rfl rfl (gives_bin rfl rfl rfl (fun w => bin_add_ (r := ((p + m : Nat) : Int)) (by simp only [IntKind.wrap_i64]; omega) w)) (fun w1 hw => hw) ?_
    refine TH.tk (listed' := #[Tt,Tt,Tt,Tt,Tt,Tt,Tt,Ff,Ff,Ff,Ff,Ff,Ff,Ff,Ff,Ff,Ff]) 6 rfl rfl rfl (gives_slice (v := .slice (if c1 = p then A1 else A1.map (·.add p)) m (c1 - p)) rfl rfl rfl rfl (fun w => cut_pA A1 l.length c1 p m (by omega) w)) (fun w1 hw => hw) ?_
    refine TH.tk (listed' := #[Tt,Tt,Tt,Tt,Tt,Tt,Tt,Tt,Ff,Ff,Ff,Ff,Ff,Ff,Ff,Ff,Ff]) 7 rfl rfl rfl (gives_move rfl rfl) (fun w1 hw => hw) ?_
    refine TH.two' (listed1 := #[Tt,Tt,Tt,Tt,Tt,Tt,Tt,Tt,Tt,Ff,Ff,Ff,Ff,Ff,Ff,Ff,Ff]) (listed2 := #[Tt,Tt,Tt,Tt,Tt,Tt,Tt,Tt,Ff,Ff,Ff,Ff,Ff,Tt,Ff,Ff,Ff]) 8 13 rfl rfl (by kernel_rfl) rfl rfl ?_ ?_
    ·refine TL.pcallPm (α := AccY (accC c ((l.drop p).take m) key) (accL c ((l.drop p).take m) key)) (fun y => .tuple #[.agg #[.int .i64 ((accC c ((l.drop p).take m) key).v), .int .i64 ((accC c ((l.drop p).take m) key).run), .int .i64 ((accC c ((l.drop p).take m) key).n), .slice y.1.2.1 ((accC c ((l.drop p).take m) key).dg.length) y.1.2.2], .slice y.1.1.1 ((accL c ((l.drop p).take m) key).length) y.1.1.2, .int .i64 (accE c ((l.drop p).take m) key)]) (fun y => [.row (.slice y.1.1.1 ((accL c ((l.drop p).take m) key).length) y.1.1.2) 27 17 ((accL c ((l.drop p).take m) key).length) (rcs (accL c ((l.drop p).take m) key)), .row (.slice y.1.2.1 ((accC c ((l.drop p).take m) key).dg.length) y.1.2.2) 5 1 ((accC c ((l.drop p).take m) key).dg.length) (bv (accC c ((l.drop p).take m) key).dg)]) rfl rfl rfl rfl rfl Tryd.func23 jrecnm23 jrecbd23 (fun w1 hw => (raccept_any Ad _ cd c _ m (c1 - p) ((l.drop p).take m) A2 n2 c2 key w1 (byt_own (hw.at_ (k := 0) rfl) h.db) (byt_cutP ((hb1.below hw.bel).more hw.bel.size) (by omega) hnc) ((hb2.below hw.bel).more hw.bel.size) (by omega) (by omega) hn2l (by have := h.n0; omega) (by have := h.n1; omega) (by have := h.dl; omega)).mono fun e w2 h => h.use) ?_
     rintro ⟨⟨⟨AR, cR⟩, ⟨DR, eR⟩⟩, ⟨hAR1, hAR2⟩, ⟨hDR1, hDR2⟩⟩
     dsimp only [List.cons_append, List.nil_append]
     dsimp only at hAR1 hAR2 hDR1 hDR2
     refine TL.end_ ?_
     refine TX.held (fun w1 hw => hw.pick [2, 3, 4, 5] (by decide) rfl) ?_
     refine TH.tk (listed' := #[Tt,Tt,Tt,Tt,Tt,Tt,Tt,Tt,Tt,Tt,Ff,Ff,Ff,Ff,Ff,Ff,Ff]) 9 rfl rfl rfl (gives_move rfl rfl) (fun w1 hw => hw.pick [2, 3, 4, 5] (by decide) rfl) ?_
     refine TH.tk (listed' := #[Tt,Tt,Tt,Tt,Tt,Tt,Tt,Tt,Tt,Tt,Tt,Ff,Ff,Ff,Ff,Ff,Ff]) 10 rfl rfl rfl (gives_extract rfl rfl rfl) (fun w1 hw => hw.pick [2, 3, 4, 5] (by decide) rfl) ?_
     refine TH.tk (listed' := #[Tt,Tt,Tt,Tt,Tt,Tt,Tt,Tt,Tt,Tt,Tt,Tt,Ff,Ff,Ff,Ff,Ff]) 11 rfl rfl rfl (gives_extract rfl rfl rfl) (fun w1 hw => hw.pick [2, 3, 4, 5] (by decide) rfl) ?_
     refine TH.tk (listed' := #[Tt,Tt,Tt,Tt,Tt,Tt,Tt,Tt,Tt,Tt,Tt,Tt,Tt,Ff,Ff,Ff,Ff]) 12 rfl rfl rfl (gives_extract rfl rfl rfl) (fun w1 hw => hw.pick [2, 3, 4, 5] (by decide) rfl) ?_
     refine TH.only' (listed' := #[Tt,Tt,Tt,Tt,Tt,Tt,Tt,Tt,Tt,Tt,Tt,Tt,Tt,Tt,Ff,Ff,Ff]) 13 rfl (by kernel_rfl) rfl ?_
     refine TL.pnew rfl rfl rfl (exec_alloc (cs := [.int .i64 0, .int .i64 0, .int .i64 0, .slice none 0 0]) rfl jreczv45 rfl) (fun g12 => ?_)
     refine TL.end_ ?_
     refine TX.held (fun w1 hw => hw.pick [3, 4, 5, 6] (by decide) rfl) ?_
     refine TH.only' (listed' := #[Tt,Tt,Tt,Tt,Tt,Tt,Tt,Tt,Tt,Tt,Tt,Tt,Tt,Tt,Tt,Ff,Ff]) 14 rfl (by kernel_rfl) rfl ?_
     refine TL.pstore (k := 0) (vs := [.int .i64 ((accC c ((l.drop p).take m) key).v), .int .i64 ((accC c ((l.drop p).take m) key).run), .int .i64 ((accC c ((l.drop p).take m) key).n), .slice DR ((accC c ((l.drop p).take m) key).dg.length) eR]) rfl rfl rfl rfl rfl rfl rfl jrecsz45 jrecone_i64i64i64s (by show 4 ≤ 4; decide) (L' := [.blk g12 45 [.int .i64 ((accC c ((l.drop p).take m) key).v), .int .i64 ((accC c ((l.drop p).take m) key).run), .int .i64 ((accC c ((l.drop p).take m) key).n), .slice DR ((accC c ((l.drop p).take m) key).dg.length) eR], .row (.slice AR ((accL c ((l.drop p).take m) key).length) cR) 27 17 ((accL c ((l.drop p).take m) key).length) (rcs (accL c ((l.drop p).take m) key)), .row (.slice DR ((accC c ((l.drop p).take m) key).dg.length) eR) 5 1 ((accC c ((l.drop p).take m) key).dg.length) (bv (accC c ((l.drop p).take m) key).dg), .row (.slice Ad c.dg.length cd) 5 1 c.dg.length (bv c.dg), .row (.slice Ar rl.length cr) 27 17 rl.length (rcs rl), .blk g7 45 [.int .i64 c.v, .int .i64 c.run, .int .i64 c.n, .slice Ad c.dg.length cd], .blk g4 45 [.int .i64 0, .int .i64 0, .int .i64 0, .slice none 0 0]]) rfl ?_
     refine TL.end_ ?_
     refine TX.held (fun w1 hw => hw.pick [3, 4, 5, 6] (by decide) rfl) ?_
     refine TH.tk (listed' := #[Tt,Tt,Tt,Tt,Tt,Tt,Tt,Tt,Tt,Tt,Tt,Tt,Tt,Tt,Tt,Tt,Ff]) 15 rfl rfl rfl (gives_assign rfl rfl) (fun w1 hw => hw.pick [3, 4, 5, 6] (by decide) rfl) ?_
     refine TH.tk (listed' := #[Tt,Tt,Tt,Tt,Tt,Tt,Tt,Tt,Tt,Tt,Tt,Tt,Tt,Tt,Tt,Tt,Tt]) 16 rfl rfl rfl (gives_assign rfl rfl) (fun w1 hw => hw.pick [3, 4, 5, 6] (by decide) rfl) ?_
     refine TH.done (by kernel_rfl) ?_
     exact TX.joined (⟨g12, ⟨((AR, cR), (DR, eR)), ⟨hAR1, hAR2⟩, ⟨hDR1, hDR2⟩⟩⟩) (⟨rfl, rfl, rfl, rfl, rfl, rfl, rfl, rfl, rfl, rfl, trivial⟩) (fun w1 hw => hw.pick [1, 2, 0, 3, 4, 5, 6] (by decide) rfl)
    ·refine TL.pnew rfl rfl rfl (exec_alloc (cs := [.int .i64 0, .int .i64 0, .int .i64 0, .slice none 0 0]) rfl jreczv45 rfl) (fun g12 => ?_)
     refine TL.end_ ?_
     refine TX.held (fun w1 hw => hw.pick [1, 2, 3, 4] (by decide) rfl) ?_
     refine TH.only' (listed' := #[Tt,Tt,Tt,Tt,Tt,Tt,Tt,Tt,Tt,Ff,Ff,Ff,Ff,Tt,Ff,Ff,Ff]) 8 rfl (by kernel_rfl) rfl ?_
     refine TL.pcallPm (α := AccY (accC c ((l.drop p).take m) key) (accL c ((l.drop p).take m) key)) (fun y => .tuple #[.agg #[.int .i64 ((accC c ((l.drop p).take m) key).v), .int .i64 ((accC c ((l.drop p).take m) key).run), .int .i64 ((accC c ((l.drop p).take m) key).n), .slice y.1.2.1 ((accC c ((l.drop p).take m) key).dg.length) y.1.2.2], .slice y.1.1.1 ((accL c ((l.drop p).take m) key).length) y.1.1.2, .int .i64 (accE c ((l.drop p).take m) key)]) (fun y => [.row (.slice y.1.1.1 ((accL c ((l.drop p).take m) key).length) y.1.1.2) 27 17 ((accL c ((l.drop p).take m) key).length) (rcs (accL c ((l.drop p).take m) key)), .row (.slice y.1.2.1 ((accC c ((l.drop p).take m) key).dg.length) y.1.2.2) 5 1 ((accC c ((l.drop p).take m) key).dg.length) (bv (accC c ((l.drop p).take m) key).dg)]) rfl rfl rfl rfl rfl Tryd.func23 jrecnm23 jrecbd23 (fun w1 hw => (raccept_any Ad _ cd c _ m (c1 - p) ((l.drop p).take m) A2 n2 c2 key w1 (byt_own (hw.at_ (k := 1) rfl) h.db) (byt_cutP ((hb1.below hw.bel).more hw.bel.size) (by omega) hnc) ((hb2.below hw.bel).more hw.bel.size) (by omega) (by omega) hn2l (by have := h.n0; omega) (by have := h.n1; omega) (by have := h.dl; omega)).mono fun e w2 h => h.use) ?_
     rintro ⟨⟨⟨AR, cR⟩, ⟨DR, eR⟩⟩, ⟨hAR1, hAR2⟩, ⟨hDR1, hDR2⟩⟩
     dsimp only [List.cons_append, List.nil_append]
     dsimp only at hAR1 hAR2 hDR1 hDR2
     refine TL.end_ ?_
     refine TX.held (fun w1 hw => hw.pick [3, 4, 5, 6] (by decide) rfl) ?_
     refine TH.tk (listed' := #[Tt,Tt,Tt,Tt,Tt,Tt,Tt,Tt,Tt,Tt,Ff,Ff,Ff,Tt,Ff,Ff,Ff]) 9 rfl rfl rfl (gives_move rfl rfl) (fun w1 hw => hw.pick [3, 4, 5, 6] (by decide) rfl) ?_
     refine TH.tk (listed' := #[Tt,Tt,Tt,Tt,Tt,Tt,Tt,Tt,Tt,Tt,Tt,Ff,Ff,Tt,Ff,Ff,Ff]) 10 rfl rfl rfl (gives_extract rfl rfl rfl) (fun w1 hw => hw.pick [3, 4, 5, 6] (by decide) rfl) ?_
     refine TH.tk (listed' := #[Tt,Tt,Tt,Tt,Tt,Tt,Tt,Tt,Tt,Tt,Tt,Tt,Ff,Tt,Ff,Ff,Ff]) 11 rfl rfl rfl (gives_extract rfl rfl rfl) (fun w1 hw => hw.pick [3, 4, 5, 6] (by decide) rfl) ?_
     refine TH.tk (listed' := #[Tt,Tt,Tt,Tt,Tt,Tt,Tt,Tt,Tt,Tt,Tt,Tt,Tt,Tt,Ff,Ff,Ff]) 12 rfl rfl rfl (gives_extract rfl rfl rfl) (fun w1 hw => hw.pick [3, 4, 5, 6] (by decide) rfl) ?_
     refine TH.only' (listed' := #[Tt,Tt,Tt,Tt,Tt,Tt,Tt,Tt,Tt,Tt,Tt,Tt,Tt,Tt,Tt,Ff,Ff]) 14 rfl (by kernel_rfl) rfl ?_
     refine TL.pstore (k := 2) (vs := [.int .i64 ((accC c ((l.drop p).take m) key).v), .int .i64 ((accC c ((l.drop p).take m) key).run), .int .i64 ((accC c ((l.drop p).take m) key).n), .slice DR ((accC c ((l.drop p).take m) key).dg.length) eR]) rfl rfl rfl rfl rfl rfl rfl jrecsz45 jrecone_i64i64i64s (by show 4 ≤ 4; decide) (L' := [.row (.slice AR ((accL c ((l.drop p).take m) key).length) cR) 27 17 ((accL c ((l.drop p).take m) key).length) (rcs (accL c ((l.drop p).take m) key)), .row (.slice DR ((accC c ((l.drop p).take m) key).dg.length) eR) 5 1 ((accC c ((l.drop p).take m) key).dg.length) (bv (accC c ((l.drop p).take m) key).dg), .blk g12 45 [.int .i64 ((accC c ((l.drop p).take m) key).v), .int .i64 ((accC c ((l.drop p).take m) key).run), .int .i64 ((accC c ((l.drop p).take m) key).n), .slice DR ((accC c ((l.drop p).take m) key).dg.length) eR], .row (.slice Ad c.dg.length cd) 5 1 c.dg.length (bv c.dg), .row (.slice Ar rl.length cr) 27 17 rl.length (rcs rl), .blk g7 45 [.int .i64 c.v, .int .i64 c.run, .int .i64 c.n, .slice Ad c.dg.length cd], .blk g4 45 [.int .i64 0, .int .i64 0, .int .i64 0, .slice none 0 0]]) rfl ?_
     refine TL.end_ ?_
     refine TX.held (fun w1 hw => hw.pick [3, 4, 5, 6] (by decide) rfl) ?_
     refine TH.tk (listed' := #[Tt,Tt,Tt,Tt,Tt,Tt,Tt,Tt,Tt,Tt,Tt,Tt,Tt,Tt,Tt,Tt,Ff]) 15 rfl rfl rfl (gives_assign rfl rfl) (fun w1 hw => hw.pick [3, 4, 5, 6] (by decide) rfl) ?_
     refine TH.tk (listed' := #[Tt,Tt,Tt,Tt,Tt,Tt,Tt,Tt,Tt,Tt,Tt,Tt,Tt,Tt,Tt,Tt,Tt]) 16 rfl rfl rfl (gives_assign rfl rfl) (fun w1 hw => hw.pick [3, 4, 5, 6] (by decide) rfl) ?_
     refine TH.done (by kernel_rfl) ?_
     exact TX.joined (⟨g12, ⟨((AR, cR), (DR, eR)), ⟨hAR1, hAR2⟩, ⟨hDR1, hDR2⟩⟩⟩) (⟨rfl, rfl, rfl, rfl, rfl, rfl, rfl, rfl, rfl, rfl, trivial⟩) (fun w1 hw => hw)
   ·rintro ⟨g12, ⟨⟨AR, cR⟩, ⟨DR, eR⟩⟩, ⟨hAR1, hAR2⟩, ⟨hDR1, hDR2⟩⟩
    dsimp only at hAR1 hAR2 hDR1 hDR2 ⊢
    refine TC.seq_ (TC.seq_ (TC.region ?_))
    refine TL.mv ?_
    refine TL.vsplit rfl rfl rfl (gives_bin rfl rfl rfl (fun w => bin_neq w)) (fun h49 => ?_) (fun h49 => ?_)
    ·have q49 := of_decide_eq_true h49
     have hR := h.stop (fun hh => by rw [hmt] at hh; exact q49 hh.2.2)
     refine TL.end_ (TX.then_ (TC.condT rfl (TC.seq_ (TC.region ?_))))
     refine TL.val rfl rfl rfl (pm_loadV (k := 5) (i := 0) (n := 4) (v := .agg #[.int .i64 c.v, .int .i64 c.run, .int .i64 c.n, .slice Ad c.dg.length cd]) rfl rfl jrecag45 jrecsz45 rfl (by show 4 ≤ 4; decide) rfl) ?_
     refine TL.mv ?_
     refine TL.mv ?_
     refine TL.pstore (k := 6) (vs := [.int .i64 c.v, .int .i64 c.run, .int .i64 c.n, .slice Ad c.dg.length cd]) rfl rfl rfl rfl rfl rfl rfl jrecsz45 jrecone_i64i64i64s (by show 4 ≤ 4; decide) (L' := [.row (.slice AR ((accL c ((l.drop p).take m) key).length) cR) 27 17 ((accL c ((l.drop p).take m) key).length) (rcs (accL c ((l.drop p).take m) key)), .row (.slice DR ((accC c ((l.drop p).take m) key).dg.length) eR) 5 1 ((accC c ((l.drop p).take m) key).dg.length) (bv (accC c ((l.drop p).take m) key).dg), .blk g12 45 [.int .i64 ((accC c ((l.drop p).take m) key).v), .int .i64 ((accC c ((l.drop p).take m) key).run), .int .i64 ((accC c ((l.drop p).take m) key).n), .slice DR ((accC c ((l.drop p).take m) key).dg.length) eR], .row (.slice Ad c.dg.length cd) 5 1 c.dg.length (bv c.dg), .row (.slice Ar rl.length cr) 27 17 rl.length (rcs rl), .blk g7 45 [.int .i64 c.v, .int .i64 c.run, .int .i64 c.n, .slice Ad c.dg.length cd], .blk g4 45 [.int .i64 c.v, .int .i64 c.run, .int .i64 c.n, .slice Ad c.dg.length cd]]) rfl ?_
     refine TL.as_ ?_
     refine TL.as_ ?_
     refine TL.end_ (TX.then_ (TC.ret_ (TX.then_ret (TX.in_ret (TX.then_ret (TX.in_ret ?_))))))
     exact ret_cell3 (k := 6) (v := .slice Ar rl.length cr) (v2 := .int .i64 (p : Nat)) Tryd.results38 rfl rfl rfl rfl Tryd.underlying45 rfl rfl (fun w1 hw => by rw [hR]; exact ⟨Ar, cr, Ad, cd, _, _, rfl, rfl, h.r1, h.r2, h.d1, h.d2, rfl, hw.pick [4, 3] (by decide) rfl⟩)
    ·have q49 := of_decide_eq_false h49
     have ha0 : accE c ((l.drop p).take m) key = 0 := Decidable.not_not.1 q49
     refine TL.end_ (TX.then_ (TC.condF rfl (TC.skip_ (TX.then_ ?_))))
     have hrl := acc_cnt (p := p) (m := m) ha0 hb1.2
     have hrp := h.rp
     refine TC.held (ls := #[Ff,Ff,Ff,Ff,Ff,Ff,Ff,Ff,Ff,Ff]) (Pm w [.blk g12 45 [.int .i64 ((accC c ((l.drop p).take m) key).v), .int .i64 ((accC c ((l.drop p).take m) key).run), .int .i64 ((accC c ((l.drop p).take m) key).n), .slice DR ((accC c ((l.drop p).take m) key).dg.length) eR]]) (by kernel_rfl) rfl rfl (fun w hw => hw.drawn _) ?_
     refine TH.tk (listed' := #[Tt,Ff,Ff,Ff,Ff,Ff,Ff,Ff,Ff,Ff]) 0 rfl rfl rfl (pm_loadV (k := 0) (i := 0) (n := 4) (v := .agg #[.int .i64 ((accC c ((l.drop p).take m) key).v), .int .i64 ((accC c ((l.drop p).take m) key).run), .int .i64 ((accC c ((l.drop p).take m) key).n), .slice DR ((accC c ((l.drop p).take m) key).dg.length) eR]) rfl rfl jrecag45 jrecsz45 rfl (by show 4 ≤ 4; decide) rfl) (fun w1 hw => hw.pick [2] (by decide) rfl) ?_
     refine TH.tk (listed' := #[Tt,Tt,Ff,Ff,Ff,Ff,Ff,Ff,Ff,Ff]) 1 rfl rfl rfl (gives_move rfl rfl) (fun w1 hw => hw.pick [2] (by decide) rfl) ?_
     refine TH.tk (listed' := #[Tt,Tt,Tt,Ff,Ff,Ff,Ff,Ff,Ff,Ff]) 2 rfl rfl rfl (gives_move rfl rfl) (fun w1 hw => hw.pick [2] (by decide) rfl) ?_
     refine TH.tk (listed' := #[Tt,Tt,Tt,Ff,Tt,Ff,Ff,Ff,Ff,Ff]) 4 rfl rfl rfl (gives_move rfl rfl) (fun w1 hw => hw.pick [2] (by decide) rfl) ?_
     refine TH.tk (listed' := #[Tt,Tt,Tt,Ff,Tt,Tt,Ff,Ff,Ff,Ff]) 5 rfl rfl rfl (gives_move rfl rfl) (fun w1 hw => hw.pick [2] (by decide) rfl) ?_
     refine TH.tk (listed' := #[Tt,Tt,Tt,Ff,Tt,Tt,Tt,Ff,Ff,Ff]) 6 rfl rfl rfl (gives_bin rfl rfl rfl (fun w => bin_add_ (r := ((p + m : Nat) : Int)) (by simp only [IntKind.wrap_i64]; omega) w)) (fun w1 hw => hw.pick [2] (by decide) rfl) ?_
     refine TH.only' (listed' := #[Tt,Tt,Tt,Tt,Tt,Tt,Tt,Ff,Ff,Ff]) 3 rfl (by kernel_rfl) rfl ?_
     refine TL.appendT (k := 4) rfl rfl rfl rfl Tryd.underlying33 jrecel33 rfl rfl rfl (fun w1 hw => pm_reads hw (k := 0) rfl) (rcs_one _) (by omega) ((rl ++ (accL c ((l.drop p).take m) key)).length) (by rw [List.length_append]) (rcs (rl ++ (accL c ((l.drop p).take m) key))) (by rw [rcs_app]) (fun A56 c56 hA561 hA562 => ?_)
     refine TL.end_ ?_
     refine TX.held (fun w1 hw => hw.pick [2] (by decide) rfl) ?_
     refine TH.only' (listed' := #[Tt,Tt,Tt,Tt,Tt,Tt,Tt,Tt,Ff,Ff]) 7 rfl (by kernel_rfl) rfl ?_
     refine TL.pstore (k := 5) (vs := [.int .i64 ((accC c ((l.drop p).take m) key).v), .int .i64 ((accC c ((l.drop p).take m) key).run), .int .i64 ((accC c ((l.drop p).take m) key).n), .slice DR ((accC c ((l.drop p).take m) key).dg.length) eR]) rfl rfl rfl rfl rfl rfl rfl jrecsz45 jrecone_i64i64i64s (by show 4 ≤ 4; decide) (L' := [.row (.slice AR ((accL c ((l.drop p).take m) key).length) cR) 27 17 ((accL c ((l.drop p).take m) key).length) (rcs (accL c ((l.drop p).take m) key)), .row (.slice DR ((accC c ((l.drop p).take m) key).dg.length) eR) 5 1 ((accC c ((l.drop p).take m) key).dg.length) (bv (accC c ((l.drop p).take m) key).dg), .blk g12 45 [.int .i64 ((accC c ((l.drop p).take m) key).v), .int .i64 ((accC c ((l.drop p).take m) key).run), .int .i64 ((accC c ((l.drop p).take m) key).n), .slice DR ((accC c ((l.drop p).take m) key).dg.length) eR], .row (.slice Ad c.dg.length cd) 5 1 c.dg.length (bv c.dg), .row (.slice A56 ((rl ++ (accL c ((l.drop p).take m) key)).length) c56) 27 17 ((rl ++ (accL c ((l.drop p).take m) key)).length) (rcs (rl ++ (accL c ((l.drop p).take m) key))), .blk g7 45 [.int .i64 ((accC c ((l.drop p).take m) key).v), .int .i64 ((accC c ((l.drop p).take m) key).run), .int .i64 ((accC c ((l.drop p).take m) key).n), .slice DR ((accC c ((l.drop p).take m) key).dg.length) eR], .blk g4 45 [.int .i64 0, .int .i64 0, .int .i64 0, .slice none 0 0]]) rfl ?_
     refine TL.end_ ?_
     refine TX.held (fun w1 hw => hw.pick [2] (by decide) rfl) ?_
     refine TH.tk (listed' := #[Tt,Tt,Tt,Tt,Tt,Tt,Tt,Tt,Tt,Ff]) 8 rfl rfl rfl (gives_assign rfl rfl) (fun w1 hw => hw.pick [2] (by decide) rfl) ?_
     refine TH.tk (listed' := #[Tt,Tt,Tt,Tt,Tt,Tt,Tt,Tt,Tt,Tt]) 9 rfl rfl rfl (gives_assign rfl rfl) (fun w1 hw => hw.pick [2] (by decide) rfl) ?_
     refine TH.done (by kernel_rfl) ?_
     refine TX.in_normal ?_
     exact TX.round (⟨(((accC c ((l.drop p).take m) key), rl ++ (accL c ((l.drop p).take m) key), p + m, f - 1), (A56, c56), (DR, eR)), h.next hb1.2 he0 hm hml ha0 hA561 hA562 hDR1 hDR2⟩) (by show f - 1 < f; have := h.fu; omega) ⟨rfl, rfl, rfl, rfl, rfl, rfl, trivial⟩ (fun w1 hw => hw.pick [1, 4, 5, 6] (by decide) rfl)
end Go.Proofs.YtmeaeeehnkcblaaDoor

namespace Go.Proofs.YtmeaeeehnkcblaaDoor
open Go.RowKit
set_option maxRecDepth 20000
theorem Pm.seg_some {w0 : Base} {w : World} {L T : List Pc} {s : Sl} (h : Pm w0 L w) (n : Nat) (hT : L.drop n = T) (hm : Pc.row s.val 5 1 s.n (bv s.l) ∈ T) (hn : 0 < s.n) : ∃ g, s.A = some ⟨g, 0, none⟩ := by
 have h1 : Pc.ok w0.b w (.row s.val 5 1 s.n (bv s.l)) := h.own _ (List.mem_of_mem_drop (i := n) (by rw [hT]; exact hm))
 exact row_some h1 hn
theorem rcv_inv (key : List Int) : ∀ (f : Nat) (c : Chn) (rl : List Rs) (p : Nat) (b : List Int), Bs b → 0 ≤ c.n → c.n ≤ 1000 → c.dg.length ≤ 32 → Bs c.dg → rl.length ≤ p → (rcv key f c rl p b).1.dg.length ≤ 32 ∧ Bs (rcv key f c rl p b).1.dg ∧ (rcv key f c rl p b).2.1.length ≤ p + b.length
 | 0, c, rl, p, b, _, _, _, h1, h2, h3 => ⟨h1, h2, by show rl.length ≤ p + b.length; omega⟩
 | f + 1, c, rl, p, b, hb, h5, h6, h1, h2, h3 => by
  rw [rcv]
  split
  ·rename_i hc
   obtain ⟨m, hm⟩ : ∃ m : Nat, (lenN b).toNat = m := ⟨_, rfl⟩
   rw [hm] at hc ⊢
   have hi := acc_inv hc.2.2 h5 h6
   have hd := len_dec hc.1
   obtain ⟨_, y0, y1⟩ := byte_at hb 8 (by omega)
   have hmb : m ≤ b.length := by have := hc.2.1; omega
   have hcn := acc_cnt (p := 0) (m := m) (l := b) (c := c) (key := key) (by rw [List.drop_zero]; exact hc.2.2) hb
   rw [List.drop_zero] at hcn
   have ih := rcv_inv key f (accC c (b.take m) key) (rl ++ accL c (b.take m) key) (p + m) (b.drop m) (hb.drop m) hi.1 hi.2.1 (by omega) hi.2.2.2 (by rw [List.length_append]; omega)
   refine ⟨ih.1, ih.2.1, Nat.le_trans ih.2.2 ?_⟩
   rw [List.length_drop]
   omega
  ·exact ⟨h1, h2, by show rl.length ≤ p + b.length; omega⟩
theorem rcvF_inv {b key : List Int} (hb : Bs b) : (rcvF b key).1.dg.length ≤ 32 ∧ Bs (rcvF b key).1.dg ∧ (rcvF b key).2.1.length ≤ b.length := by
 have := rcv_inv key (b.length + 1) Chn.zero [] 0 b hb (Int.le_refl _) (by decide) (Nat.zero_le _) Bs.nil (Nat.le_refl _)
 rw [Nat.zero_add] at this
 exact this
theorem rcvF_rl {b key : List Int} (hb : Bs b) (h : b.length ≤ 1000000000) : (rcvF b key).2.1.length ≤ 1000000000 := Nat.le_trans (rcvF_inv hb).2.2 h
theorem jlcnm9 : (Tryd.f9.name == "runtime.NumGoroutine") = false := by decide
theorem jlcbd9 : Tryd.f9.body.isNone = false := rfl
theorem jlcnm10 : (Tryd.f10.name == "runtime.NumGoroutine") = false := by decide
theorem jlcbd10 : Tryd.f10.body.isNone = false := rfl
theorem jlcnm20 : (Tryd.f20.name == "runtime.NumGoroutine") = false := by decide
theorem jlcbd20 : Tryd.f20.body.isNone = false := rfl
theorem jlczv45 (w : World) : (zeroValue 45).run Tryd.prog w = .ok (.agg #[.int .i64 0, .int .i64 0, .int .i64 0, .slice none 0 0]) w := rfl
theorem jlcsz45 (w : World) : (sizeOf 45).run Tryd.prog w = .ok 4 w := rfl
theorem jlcone_i64i64i64s {a0 : Int} {a1 : Int} {a2 : Int} {a3 : Option Addr} {n3 c3 : Nat} : ∀ u ∈ [(.int .i64 a0 : Value), .int .i64 a1, .int .i64 a2, .slice a3 n3 c3], u.oneCell' = true := by
 intro u hu
 simp only [List.mem_cons, List.not_mem_nil, or_false] at hu
 rcases hu with rfl | rfl | rfl | rfl <;> rfl
theorem jlcnm31 : (Tryd.f31.name == "runtime.NumGoroutine") = false := by decide
theorem jlcbd31 : Tryd.f31.body.isNone = false := rfl
theorem jlcnm32 : (Tryd.f32.name == "runtime.NumGoroutine") = false := by decide
theorem jlcbd32 : Tryd.f32.body.isNone = false := rfl
theorem jlcel28 : Elem Tryd.prog 28 5 1 1 := Elem.mk' Tryd.underlying28 (z := .int .u8 0) (by kernel_rfl) rfl (by omega) (by omega)
theorem jlcnm38 : (Tryd.f38.name == "runtime.NumGoroutine") = false := by decide
theorem jlcbd38 : Tryd.f38.body.isNone = false := rfl
theorem jlcnm27 : (Tryd.f27.name == "runtime.NumGoroutine") = false := by decide
theorem jlcbd27 : Tryd.f27.body.isNone = false := rfl
theorem jlcag45 (w : World) : (isAgg 45).run Tryd.prog w = .ok true w := rfl
theorem jlcnm26 : (Tryd.f26.name == "runtime.NumGoroutine") = false := by decide
theorem jlcbd26 : Tryd.f26.body.isNone = false := rfl
theorem jlcfld45_3 (g o : Nat) (w : World) : (Instr.fieldAt 45 (.pointer (some ⟨g, o, none⟩)) 3).run Tryd.prog w = .ok (.pointer (some ⟨g, o + 3, none⟩)) w := by kernel_rfl
theorem jlcag28 (w : World) : (isAgg 28).run Tryd.prog w = .ok false w := rfl
theorem jlcnm39 : (Tryd.f39.name == "runtime.NumGoroutine") = false := by decide
theorem jlcbd39 : Tryd.f39.body.isNone = false := rfl
theorem jlcnm36 : (Tryd.f36.name == "runtime.NumGoroutine") = false := by decide
theorem jlcbd36 : Tryd.f36.body.isNone = false := rfl
theorem jlcnm22 : (Tryd.f22.name == "runtime.NumGoroutine") = false := by decide
theorem jlcbd22 : Tryd.f22.body.isNone = false := rfl
set_option maxHeartbeats 4000000 in
set_option maxRecDepth 100000 in
theorem journalCuts_walk (A0 : Option Addr) (n0 c0 : Nat) (l0 : List Int) (at_ : Int) (A2 : Option Addr) (n2 c2 : Nat) (raw : List Int) (w : World) (hb0 : Byt w w.heap.size A0 n0 l0) (hnc0 : n0 ≤ c0) (hm0 : c0 ≤ maxLen) (hat0 : (Lit.int .u16 at_).wf = true) (hb2 : Byt w w.heap.size A2 n2 raw) (hnc2 : n2 ≤ c2) (hm2 : c2 ≤ maxLen) {ts tk : TypeId} (hst : Blk w 0 ts start8.cells) (hky : Blk w 1 tk (arrOf keysL)) :
  Calls Tryd.prog 8 #[.slice A0 n0 c0, .int .u16 at_, .slice A2 n2 c2] w fun e w' => e = .returned (.bool true) ∧ Below w.heap.size w w' := by
 have hat : 0 ≤ at_ ∧ at_ ≤ 65535 := wf_u16 hat0
 refine begin_ (vs := [.slice A0 n0 c0, .int .u16 at_, .slice A2 n2 c2]) Tryd.func8 rfl rfl rfl ?_ (Pm.start w)
 refine TC.seq_ (TC.region ?_)
 refine TL.as_ ?_
 refine TL.end_ (TX.then_ (TC.seq_ (TC.seq_ (TC.region ?_))))
 refine TL.pcall1 (r := .bool true) rfl rfl rfl rfl rfl Tryd.func9 jlcnm9 jlcbd9 (fun w1 hw => awake_any w1 (hst.below hw.bel hst.lt) (hky.below hw.bel hky.lt)) ?_
 iterate 5 (first | refine TL.gu ?_ | refine TL.mv ?_ | refine TL.val rfl rfl rfl (gives_boolnot rfl rfl) ?_)
 refine TL.val rfl rfl rfl (gives_len rfl Tryd.underlying28 rfl) ?_
 refine TL.gu ?_
 refine TL.vsplit rfl rfl rfl (gives_bin rfl rfl rfl (fun w => bin_gtr w)) (fun h38 => ?_) (fun h38 => ?_)
 ·have q38 := of_decide_eq_true h38
  refine TL.pk ?_
  refine TL.end_ (TX.then_ (TC.condT rfl (TC.seq_ (TC.region ?_))))
  refine TL.mv ?_
  refine TL.val rfl rfl rfl (gives_len rfl Tryd.underlying28 rfl) ?_
  refine TL.val rfl rfl rfl (gives_bin rfl rfl rfl (fun w => bin_gtr_t (by omega) w)) ?_
  refine TL.as_ ?_
  refine TL.end_ (TX.then_ (TC.ret_ (TX.then_ret ?_)))
  exact ret_tmp Tryd.results8 rfl (fun w1 hw => ⟨rfl, hw.bel⟩)
 ·have q38 := of_decide_eq_false h38
  have hn2r : n2 ≤ 500 := by omega
  refine TL.pk ?_
  refine TL.end_ (TX.then_ (TC.condF rfl (TC.skip_ (TX.then_ (TC.seq_ (TC.region ?_))))))
  refine TL.mv ?_
  refine TL.callNew (I := Pm w []) (p := fun cb w => Cod w cb) rfl rfl rfl rfl rfl Tryd.func10 jlcnm10 jlcbd10 (fun w1 hw => (new_any A0 n0 c0 l0 w1 400 ((hb0.below hw.bel).more hw.bel.size) hnc0 (by have := hm0; unfold maxLen at this; omega) (by decide) (by decide)).mono fun e w2 ⟨h1, h2, h3, _⟩ => ⟨h1, h2, cod_cells h2, h3⟩) cod_stab (fun wn hwn => ?_)
  replace hst := hst.below hwn.bel hst.lt
  replace hky := hky.below hwn.bel hky.lt
  have hb2n := (hb2.below hwn.bel).more hwn.bel.size
  refine TL.as_ ?_
  refine TL.end_ (TX.then_ (TC.seq_ (TC.region ?_)))
  refine TL.mv ?_
  refine TL.pcallCod (k := 0) (α := {b : Bk // BkI b ∧ b.ss.length ≤ 5}) (fun y => bookV y.1) (fun y => bookL y.1 ++ segP y.1.ss) rfl rfl rfl rfl rfl Tryd.func20 jlcnm20 jlcbd20 rfl (fun w1 hw hC1 => book_cod wn.heap.size w1 hC1) ?_ (fun y => noAbs_app rfl (segP_noAbs _))
  rintro ⟨⟨As, cs, ss, Aa, ca, all, Ad, cd, ch, Ak, ck, key⟩, hB, hss⟩
  dsimp only [bookV] at hB hss ⊢
  refine TL.mem (I' := Pm wn ([.row (.slice As ss.length cs) 28 1 ss.length (ss.map Sl.val), .row (.slice Aa all.length ca) 27 17 all.length (rcs all), .row (.slice Ad ch.dg.length cd) 5 1 ch.dg.length (bv ch.dg), .row (.slice Ak key.length ck) 5 1 key.length (bv key), .abs wn.heap.size (fun w => Cod w wn.heap.size)] ++ segP ss)) (fun w1 hw => hw.perm (perm3 _ _ _)) ?_
  have hj := hB.jr
  obtain ⟨ls, hls⟩ : ∃ ls, ss.map (fun s => s.l) = ls := ⟨_, rfl⟩
  dsimp only at hj
  rw [hls] at hj
  have hJ := jrn_inv hj
  have hf := jrn_fold hj
  have hsg := jrn_seg hj
  have hso : ∀ s ∈ ss, SlOk s := hB.so
  have hlen : ls.length = ss.length := by rw [← hls, List.length_map]
  have hpos : 0 < ss.length := by have := jrn_pos hj; omega
  have hal : all.length + 4 ≤ 4 * ss.length := hB.al
  have hk8 : key.length ≤ 8 := hB.k8
  refine TL.fact (p := ∃ g, As = some ⟨g, 0, none⟩) (fun w1 hw => row_some (hw.at_ (k := 0) rfl) hpos) (fun hg => ?_)
  obtain ⟨gS, rfl⟩ := hg
  iterate 5 (first | refine TL.ex ?_ | refine TL.mv ?_)
  refine TL.pnew rfl rfl rfl (exec_alloc (cs := [.int .i64 0, .int .i64 0, .int .i64 0, .slice none 0 0]) rfl jlczv45 rfl) (fun g10 => ?_)
  refine TL.as_ ?_
  refine TL.as_ ?_
  refine TL.pstore (k := 0) (vs := [.int .i64 ch.v, .int .i64 ch.run, .int .i64 ch.n, .slice Ad ch.dg.length cd]) rfl rfl rfl rfl rfl rfl rfl jlcsz45 jlcone_i64i64i64s (by show 4 ≤ 4; decide) (L' := ([.blk g10 45 [.int .i64 ch.v, .int .i64 ch.run, .int .i64 ch.n, .slice Ad ch.dg.length cd], .row (.slice (some ⟨gS, 0, none⟩) ss.length cs) 28 1 ss.length (ss.map Sl.val), .row (.slice Aa all.length ca) 27 17 all.length (rcs all), .row (.slice Ad ch.dg.length cd) 5 1 ch.dg.length (bv ch.dg), .row (.slice Ak key.length ck) 5 1 key.length (bv key), .abs wn.heap.size (fun w => Cod w wn.heap.size)] ++ segP ss)) rfl ?_
  refine TL.as_ ?_
  refine TL.end_ (TX.then_ (TC.seq_ (TC.region ?_)))
  have hl300 : ∀ s ∈ ss, s.l.length ≤ 300 := fun s hm => by have := hso s hm; rw [this.1]; exact this.2.2.2.2.2
  have hjb : Bs (joinB ss) := fun x hx => by obtain ⟨s, hm, hx⟩ := List.mem_flatMap.1 hx; exact (hso s hm).2.2.2.1 x hx
  have hjl := join_len hl300
  refine TL.mv ?_
  refine TL.pcallRow (n := (joinB ss).length) (ys := bv (joinB ss)) rfl rfl rfl rfl rfl Tryd.func31 jlcnm31 jlcbd31 (fun w1 hw => joined_any _ cs ss w1 (Reads.of_own (hw.at_ (k := 1) rfl)) (fun s hm => hw.seg (T := segP ss) 6 rfl (segP_mem hm) (hso s hm).2.2.2.1) hl300 hl300 (by omega)) (fun A53 c53 hA531 hA532 => ?_)
  refine TL.as_ ?_
  refine TL.end_ (TX.then_ (TC.seq_ (TC.region ?_)))
  refine TL.mv ?_
  refine TL.val rfl rfl rfl (gives_conv rfl rfl (fun w => conv_fit (k := .u16) Tryd.underlying3 Tryd.underlying65 (by simp only [IntKind.wrap_i64]; omega) w)) ?_
  refine TL.mv ?_
  refine TL.val rfl rfl rfl (gives_len rfl Tryd.underlying28 rfl) ?_
  refine TL.val rfl rfl rfl (gives_bin rfl rfl rfl (fun w => bin_add_ (r := (((joinB ss).length + 1 : Nat) : Int)) (by simp only [IntKind.wrap_i64]; omega) w)) ?_
  obtain ⟨cut, hcut⟩ : ∃ cut : Nat, at_ % (((joinB ss).length + 1 : Nat) : Int) = (cut : Nat) := ⟨(at_ % (((joinB ss).length + 1 : Nat) : Int)).toNat, (Int.toNat_of_nonneg (Int.emod_nonneg _ (by omega))).symm⟩
  have hcl : cut ≤ (joinB ss).length := by have := Int.emod_lt_of_pos at_ (show (0 : Int) < (((joinB ss).length + 1 : Nat) : Int) by omega); omega
  refine TL.val rfl rfl rfl (gives_bin (v := .int .i64 (cut : Nat)) rfl rfl rfl (fun w => by rw [bin_remi hat.1 (by omega) w, hcut])) ?_
  refine TL.as_ ?_
  refine TL.end_ (TX.then_ (TC.seq_ (TC.region ?_)))
  refine TL.mv ?_
  refine TL.mv ?_
  refine TL.val rfl rfl rfl (gives_sliceH (v := .slice A53 cut c53) rfl rfl rfl (fun w => cut_hi Tryd.underlying28 (fun w => rfl) A53 _ c53 cut rfl (by omega) w)) ?_
  refine TL.as_ ?_
  refine TL.end_ (TX.then_ (TC.seq_ (TC.region ?_)))
  refine TL.as_ ?_
  refine TL.as_ ?_
  refine TL.end_ (TX.then_ ?_)
  refine TC.join (α := {i : Nat // i ≤ ss.length ∧ (ls.take i).flatten.length ≤ cut ∧ ∀ x, ls[i]? = some x → cut < (ls.take i).flatten.length + x.length}) (fun y => [(2, .slice A2 n2 c2), (8, .slice (some ⟨gS, 0, none⟩) ss.length cs), (9, .slice Aa all.length ca), (11, .slice Ak key.length ck), (12, .slice A53 ((joinB ss).length) c53), (13, .int .i64 (cut : Nat)), (14, .slice A53 cut c53), (15, .int .i64 ((ls.take y.1).flatten.length : Nat)), (16, .int .i64 ((foldS key (ls.take y.1)).2.length : Nat)), (17, .int .i64 (y.1 : Nat))]) (fun y => Pm wn ([.row (.slice (some ⟨gS, 0, none⟩) ss.length cs) 28 1 ss.length (ss.map Sl.val), .row (.slice Aa all.length ca) 27 17 all.length (rcs all), .row (.slice Ak key.length ck) 5 1 key.length (bv key), .row (.slice A53 ((joinB ss).length) c53) 5 1 ((joinB ss).length) (bv (joinB ss))] ++ segP ss)) ?_ ?_
  ·refine TC.seq_ (TC.region ?_)
   refine TL.as_ ?_
   refine TL.end_ (TX.then_ (TC.block ?_))
   refine TC.loop_ (α := {i : Nat // i ≤ ss.length ∧ (ls.take i).flatten.length ≤ cut}) (fun y => [(2, .slice A2 n2 c2), (8, .slice (some ⟨gS, 0, none⟩) ss.length cs), (9, .slice Aa all.length ca), (11, .slice Ak key.length ck), (12, .slice A53 ((joinB ss).length) c53), (13, .int .i64 (cut : Nat)), (14, .slice A53 cut c53), (15, .int .i64 ((ls.take y.1).flatten.length : Nat)), (16, .int .i64 ((foldS key (ls.take y.1)).2.length : Nat)), (17, .int .i64 (y.1 : Nat))]) (fun y => Pm wn ([.row (.slice (some ⟨gS, 0, none⟩) ss.length cs) 28 1 ss.length (ss.map Sl.val), .row (.slice Aa all.length ca) 27 17 all.length (rcs all), .row (.slice Ak key.length ck) 5 1 key.length (bv key), .row (.slice A53 ((joinB ss).length) c53) 5 1 ((joinB ss).length) (bv (joinB ss))] ++ segP ss)) (fun y => ss.length - y.1) (⟨0, Nat.zero_le _, Nat.zero_le _⟩) ⟨rfl, rfl, rfl, rfl, rfl, rfl, rfl, rfl, rfl, rfl, trivial⟩ (fun w1 hw => (show Pm wn ([.row (.slice (some ⟨gS, 0, none⟩) ss.length cs) 28 1 ss.length (ss.map Sl.val), .row (.slice Aa all.length ca) 27 17 all.length (rcs all), .row (.slice Ak key.length ck) 5 1 key.length (bv key), .row (.slice A53 ((joinB ss).length) c53) 5 1 ((joinB ss).length) (bv (joinB ss))] ++ segP ss) w1 from hw.pickT 7 [2, 3, 5, 0] (by decide) (by decide) rfl rfl)) ?_
   rintro ⟨i, hi, hWc⟩
   dsimp only at hi hWc ⊢
   refine TC.seq_ (TC.seq_ (TC.region ?_))
   refine TL.mv ?_
   refine TL.mv ?_
   refine TL.val rfl rfl rfl (gives_len rfl Tryd.underlying40 rfl) ?_
   refine TL.vsplit rfl rfl rfl (gives_bin rfl rfl rfl (fun w => bin_lss w)) (fun h66 => ?_) (fun h66 => ?_)
   ·have q66 := of_decide_eq_true h66
    have hi2 : i < ss.length := by omega
    obtain ⟨s, hs_s⟩ : ∃ s, ss[i]? = some s := ⟨_, List.getElem?_eq_getElem (by omega)⟩
    have hm_s := List.mem_of_getElem? hs_s
    have hso_s := hso s hm_s
    have hsc_s : (ss.map Sl.val)[0 + i * 1]? = some s.val := by rw [Nat.zero_add, Nat.mul_one, List.getElem?_map, hs_s]; rfl
    have hsl_s : ls[i]? = some s.l := by rw [← hls, List.getElem?_map, hs_s]; rfl
    have hW2 : (ls.take (i + 1)).flatten.length = (ls.take i).flatten.length + s.n := by rw [List.take_add_one, hsl_s, Option.toList_some, List.flatten_append, List.flatten_singleton, List.length_append, hso_s.1]
    have hWl : (ls.take i).flatten.length ≤ 300 * 5 := by have := join_le hl300 (i := i); rw [joinB_eq, List.map_take, hls] at this; omega
    have hs3 : s.n ≤ 300 := hso_s.2.2.2.2.2
    have hs7 : 73 ≤ s.n := hso_s.2.2.2.2.1
    have hcx := whole_cnt hso_s.2.2.2.1 (hsg s.l (List.mem_of_getElem? hsl_s)).1
    have ha0 := hf.2 i s.l hsl_s
    have hN2 : ((foldS key (ls.take (i + 1))).2.length : Int) = (foldS key (ls.take i)).2.length + getN s.l 8 1 := by rw [fold_take hsl_s]; show ((((foldS key (ls.take i)).2 ++ accL (foldS key (ls.take i)).1 s.l key).length : Nat) : Int) = _; rw [List.length_append, (acR_ok ha0).2.1, rlB_len, ← hcx.1]; omega
    have hNl := (fold_inv hf.2 hsg i (by omega)).2.2.2.2
    iterate 8 (first | refine TL.gu ?_ | refine TL.mv ?_)
    refine TL.val rfl rfl rfl (gives_at (v := .pointer (some ⟨gS, 0 + i * 1, none⟩)) rfl rfl rfl (fun w => at_el Tryd.underlying40 (fun w => rfl) rfl ss.length cs i hi2 rfl w)) ?_
    refine TL.gu ?_
    refine TL.val rfl rfl rfl (pm_loadRow (k := 0) (v := s.val) rfl rfl (fun w => rfl) rfl hsc_s) ?_
    refine TL.gu ?_
    refine TL.val rfl rfl rfl (gives_len rfl Tryd.underlying28 rfl) ?_
    refine TL.gu ?_
    refine TL.val rfl rfl rfl (gives_bin rfl rfl rfl (fun w => bin_add_ (r := (((ls.take i).flatten.length + s.n : Nat) : Int)) (by simp only [IntKind.wrap_i64]; omega) w)) ?_
    refine TL.gu ?_
    refine TL.mv ?_
    refine TL.gu ?_
    refine TL.vsplit rfl rfl rfl (gives_bin rfl rfl rfl (fun w => bin_leq w)) (fun h76 => ?_) (fun h76 => ?_)
    ·have q76 := of_decide_eq_true h76
     refine TL.pk ?_
     refine TL.end_ (TX.then_ (TC.condT rfl (TC.skip_ (TX.then_ (TC.seq_ (TC.block (TC.seq_ (TC.region ?_))))))))
     refine TL.mv ?_
     refine TL.mv ?_
     refine TL.mv ?_
     refine TL.val rfl rfl rfl (gives_at (v := .pointer (some ⟨gS, 0 + i * 1, none⟩)) rfl rfl rfl (fun w => at_el Tryd.underlying40 (fun w => rfl) rfl ss.length cs i hi2 rfl w)) ?_
     refine TL.val rfl rfl rfl (pm_loadRow (k := 0) (v := s.val) rfl rfl (fun w => rfl) rfl hsc_s) ?_
     refine TL.val rfl rfl rfl (gives_len rfl Tryd.underlying28 rfl) ?_
     refine TL.val rfl rfl rfl (gives_bin rfl rfl rfl (fun w => bin_add_ (r := (((ls.take (i + 1)).flatten.length : Nat) : Int)) (by simp only [IntKind.wrap_i64]; omega) w)) ?_
     refine TL.as_ ?_
     refine TL.end_ (TX.then_ ?_)
     refine TC.fact (p := ∃ g, s.A = some ⟨g, 0, none⟩) (fun w1 hw => hw.seg_some (T := segP ss) 4 rfl (segP_mem hm_s) (by omega)) (fun hg => ?_)
     obtain ⟨gs, hsA⟩ := hg
     refine TC.region ?_
     refine TL.mv ?_
     refine TL.mv ?_
     refine TL.mv ?_
     refine TL.val rfl rfl rfl (gives_at (v := .pointer (some ⟨gS, 0 + i * 1, none⟩)) rfl rfl rfl (fun w => at_el Tryd.underlying40 (fun w => rfl) rfl ss.length cs i hi2 rfl w)) ?_
     refine TL.val rfl rfl rfl (pm_loadRow (k := 0) (v := s.val) rfl rfl (fun w => rfl) rfl hsc_s) ?_
     refine TL.val rfl rfl rfl (gives_at (v := .pointer (some ⟨gs, 0 + 8 * 1, none⟩)) rfl rfl rfl (fun w => at_el Tryd.underlying28 (fun w => rfl) hsA s.n s.c 8 (by omega) rfl w)) ?_
     refine TL.val rfl rfl rfl (gives_load (v := .int .u8 (getN s.l 8 1)) rfl rfl (fun w => rfl) (fun w1 hw => (byt_num (hsA ▸ hw.seg (T := segP ss) 4 rfl (segP_mem hm_s) hso_s.2.2.2.1) (k := 8) (by omega)).2.2)) ?_
     refine TL.val rfl rfl rfl (gives_conv rfl rfl (fun w => conv_fit (k := .u8) Tryd.underlying3 Tryd.underlying5 (by simp only [IntKind.wrap_i64]; omega) w)) ?_
     refine TL.val rfl rfl rfl (gives_bin rfl rfl rfl (fun w => bin_add_ (r := (((foldS key (ls.take (i + 1))).2.length : Nat) : Int)) (by simp only [IntKind.wrap_i64]; omega) w)) ?_
     refine TL.as_ ?_
     refine TL.end_ (TX.in_normal (TX.then_ (TC.region ?_)))
     refine TL.mv ?_
     refine TL.val rfl rfl rfl (gives_bin rfl rfl rfl (fun w => bin_add_ (r := ((i + 1 : Nat) : Int)) (by simp only [IntKind.wrap_i64]; omega) w)) ?_
     refine TL.as_ ?_
     refine TL.end_ ?_
     exact TX.round (⟨i + 1, hi2, by omega⟩) (by show ss.length - (i + 1) < ss.length - i; omega) ⟨rfl, rfl, rfl, rfl, rfl, rfl, rfl, rfl, rfl, rfl, trivial⟩ (fun w1 hw => hw)
    ·have q76 := of_decide_eq_false h76
     have hstop : ∀ x, ls[i]? = some x → cut < (ls.take i).flatten.length + x.length := fun x hx => by rw [hsl_s] at hx; have := Option.some.inj hx; rw [← this, hso_s.1]; omega
     refine TL.pk ?_
     refine TL.end_ (TX.then_ (TC.condF rfl (TC.exit_ (TX.then_exit (TX.then_exit (TX.in_same ?_))))))
     exact TX.joined (⟨i, by omega, hWc, hstop⟩) (⟨rfl, rfl, rfl, rfl, rfl, rfl, rfl, rfl, rfl, rfl, trivial⟩) (fun w1 hw => hw)
   ·have q66 := of_decide_eq_false h66
    have hstop : ∀ x, ls[i]? = some x → cut < (ls.take i).flatten.length + x.length := fun x hx => by have := (List.getElem?_eq_some_iff.1 hx).1; omega
    iterate 11 (first | refine TL.of ?_ | refine TL.mv ?_ | refine TL.pk ?_)
    refine TL.end_ (TX.then_ (TC.condF rfl (TC.exit_ (TX.then_exit (TX.then_exit (TX.in_same ?_))))))
    exact TX.joined (⟨i, by omega, hWc, hstop⟩) (⟨rfl, rfl, rfl, rfl, rfl, rfl, rfl, rfl, rfl, rfl, trivial⟩) (fun w1 hw => hw)
  ·rintro ⟨i, hi, hWc, hstop⟩
   dsimp only at hi hWc hstop ⊢
   obtain ⟨X, RL, hXR⟩ : ∃ X RL, foldS key (ls.take i) = (X, RL) := ⟨_, _, rfl⟩
   obtain ⟨Wn, hWn⟩ : ∃ Wn, (ls.take i).flatten.length = Wn := ⟨_, rfl⟩
   have hfi := fold_inv hf.2 hsg i (by omega)
   rw [hXR] at hfi
   obtain ⟨hx1, hx2, hx3, hXb, _⟩ := hfi
   dsimp only at hx1 hx2 hx3 hXb
   obtain ⟨T, hT1, hT2⟩ := cut_parts hWc hstop hsg
   have hjf : (joinB ss) = ls.flatten := by rw [joinB_eq, hls]
   have hstk : ∀ x ∈ ls.take i, wholeB x ∧ Bs x := fun x hx => hsg x (List.mem_of_mem_take hx)
   have hr1 : rcvF ((joinB ss).take cut) key = (X, RL, Wn) := by rw [hjf, hT1, rcvF_stop hstk (take_acc hf.2 i) hT2, hXR, hWn]
   have hge : Wn ≤ (rcvF ((joinB ss).take cut ++ raw) key).2.2 := by rw [hjf, hT1, List.append_assoc, ← hWn]; exact rcvF_ge hstk (take_acc hf.2 i) _
   have hNn : (foldS key (ls.take i)).2.length = RL.length := by rw [hXR]
   have hpre : RL = all.take RL.length := by have := fold_prefix key ls i; rw [hXR, hf.1] at this; exact this
   have hRLa : RL.length ≤ all.length := by have := congrArg List.length hpre; rw [List.length_take] at this; omega
   have hDb : Bs ((joinB ss).take cut ++ raw) := (hjb.take _).app hb2.2
   have hDl : ((joinB ss).take cut ++ raw).length = cut + n2 := by rw [List.length_append, List.length_take, hb2.len]; omega
   have hRD : (rcvF ((joinB ss).take cut ++ raw) key).2.1.length ≤ 1000000000 := rcvF_rl hDb (by omega)
   rw [hXR, hWn]
   refine TC.seq_ (TC.region ?_)
   refine TL.mv ?_
   refine TL.mv ?_
   refine TL.pcallPm (α := AccY X RL) (fun y => .tuple #[.agg #[.int .i64 X.v, .int .i64 X.run, .int .i64 X.n, .slice y.1.2.1 X.dg.length y.1.2.2], .slice y.1.1.1 RL.length y.1.1.2, .int .i64 (Wn : Nat)]) (fun y => [.row (.slice y.1.1.1 RL.length y.1.1.2) 27 17 RL.length (rcs RL), .row (.slice y.1.2.1 X.dg.length y.1.2.2) 5 1 X.dg.length (bv X.dg)]) rfl rfl rfl rfl rfl Tryd.func32 jlcnm32 jlcbd32 (fun w1 hw => (recover_any _ _ _ ((joinB ss).take cut) Ak _ ck key w1 ((byt_own (hw.at_ (k := 3) rfl) hjb).head (by omega)) (byt_own (hw.at_ (k := 2) rfl) hB.kb) (by omega) (by omega) (by omega) (hst.below hw.bel hst.lt) (hky.below hw.bel hky.lt)).mono fun e w2 h => by rw [hr1] at h; exact h.use) ?_
   rintro ⟨⟨⟨AR1, cR1⟩, ⟨DR1, eR1⟩⟩, ⟨hAR11, hAR12⟩, ⟨hDR11, hDR12⟩⟩
   dsimp only [List.cons_append, List.nil_append]
   dsimp only at hAR11 hAR12 hDR11 hDR12
   iterate 4 (first | refine TL.ex ?_ | refine TL.mv ?_)
   refine TL.pnew rfl rfl rfl (exec_alloc (cs := [.int .i64 0, .int .i64 0, .int .i64 0, .slice none 0 0]) rfl jlczv45 rfl) (fun g18 => ?_)
   refine TL.pstore (k := 0) (vs := [.int .i64 X.v, .int .i64 X.run, .int .i64 X.n, .slice DR1 X.dg.length eR1]) rfl rfl rfl rfl rfl rfl rfl jlcsz45 jlcone_i64i64i64s (by show 4 ≤ 4; decide) (L' := ([.blk g18 45 [.int .i64 X.v, .int .i64 X.run, .int .i64 X.n, .slice DR1 X.dg.length eR1], .row (.slice AR1 RL.length cR1) 27 17 RL.length (rcs RL), .row (.slice DR1 X.dg.length eR1) 5 1 X.dg.length (bv X.dg), .row (.slice (some ⟨gS, 0, none⟩) ss.length cs) 28 1 ss.length (ss.map Sl.val), .row (.slice Aa all.length ca) 27 17 all.length (rcs all), .row (.slice Ak key.length ck) 5 1 key.length (bv key), .row (.slice A53 ((joinB ss).length) c53) 5 1 ((joinB ss).length) (bv (joinB ss))] ++ segP ss)) rfl ?_
   refine TL.as_ ?_
   refine TL.as_ ?_
   refine TL.end_ (TX.then_ (TC.seq_ (TC.region ?_)))
   refine TL.mv ?_
   refine TL.nilrow 5 1 ?_
   refine TL.appendT (k := 0) rfl rfl rfl rfl Tryd.underlying28 jlcel28 rfl rfl rfl (fun w1 hw => ⟨_, ((byt_own (hw.at_ (k := 7) rfl) hjb).head (show cut ≤ (joinB ss).length by omega)).1⟩) (bv_one _) (by omega) (cut) (by omega) (bv ((joinB ss).take cut)) (by rfl) (fun A105 c105 hA1051 hA1052 => ?_)
   refine TL.mv ?_
   refine TL.appendT (k := 0) rfl rfl rfl rfl Tryd.underlying28 jlcel28 rfl rfl rfl (fun w1 hw => ⟨_, ((hb2n.below hw.bel).more hw.bel.size).1⟩) (bv_one _) (by omega) (((joinB ss).take cut ++ raw).length) (hDl) (bv ((joinB ss).take cut ++ raw)) (by rw [bv_app]) (fun A107 c107 hA1071 hA1072 => ?_)
   refine TL.mv ?_
   refine TL.pcallPm (α := AccY (rcvF ((joinB ss).take cut ++ raw) key).1 (rcvF ((joinB ss).take cut ++ raw) key).2.1) (fun y => .tuple #[.agg #[.int .i64 ((rcvF ((joinB ss).take cut ++ raw) key).1.v), .int .i64 ((rcvF ((joinB ss).take cut ++ raw) key).1.run), .int .i64 ((rcvF ((joinB ss).take cut ++ raw) key).1.n), .slice y.1.2.1 ((rcvF ((joinB ss).take cut ++ raw) key).1.dg.length) y.1.2.2], .slice y.1.1.1 ((rcvF ((joinB ss).take cut ++ raw) key).2.1.length) y.1.1.2, .int .i64 ((rcvF ((joinB ss).take cut ++ raw) key).2.2 : Nat)]) (fun y => [.row (.slice y.1.1.1 ((rcvF ((joinB ss).take cut ++ raw) key).2.1.length) y.1.1.2) 27 17 ((rcvF ((joinB ss).take cut ++ raw) key).2.1.length) (rcs (rcvF ((joinB ss).take cut ++ raw) key).2.1), .row (.slice y.1.2.1 ((rcvF ((joinB ss).take cut ++ raw) key).1.dg.length) y.1.2.2) 5 1 ((rcvF ((joinB ss).take cut ++ raw) key).1.dg.length) (bv (rcvF ((joinB ss).take cut ++ raw) key).1.dg)]) rfl rfl rfl rfl rfl Tryd.func32 jlcnm32 jlcbd32 (fun w1 hw => (recover_any _ _ _ ((joinB ss).take cut ++ raw) Ak _ ck key w1 (byt_own (hw.at_ (k := 0) rfl) hDb) (byt_own (hw.at_ (k := 6) rfl) hB.kb) hA1071 (by omega) (by omega) (hst.below hw.bel hst.lt) (hky.below hw.bel hky.lt)).mono fun e w2 h => h.use) ?_
   rintro ⟨⟨⟨AR2, cR2⟩, ⟨DR2, eR2⟩⟩, ⟨hAR21, hAR22⟩, ⟨hDR21, hDR22⟩⟩
   dsimp only [List.cons_append, List.nil_append]
   dsimp only at hAR21 hAR22 hDR21 hDR22
   iterate 4 (first | refine TL.ex ?_ | refine TL.mv ?_)
   refine TL.pnew rfl rfl rfl (exec_alloc (cs := [.int .i64 0, .int .i64 0, .int .i64 0, .slice none 0 0]) rfl jlczv45 rfl) (fun g21 => ?_)
   refine TL.pstore (k := 0) (vs := [.int .i64 ((rcvF ((joinB ss).take cut ++ raw) key).1.v), .int .i64 ((rcvF ((joinB ss).take cut ++ raw) key).1.run), .int .i64 ((rcvF ((joinB ss).take cut ++ raw) key).1.n), .slice DR2 ((rcvF ((joinB ss).take cut ++ raw) key).1.dg.length) eR2]) rfl rfl rfl rfl rfl rfl rfl jlcsz45 jlcone_i64i64i64s (by show 4 ≤ 4; decide) (L' := ([.blk g21 45 [.int .i64 ((rcvF ((joinB ss).take cut ++ raw) key).1.v), .int .i64 ((rcvF ((joinB ss).take cut ++ raw) key).1.run), .int .i64 ((rcvF ((joinB ss).take cut ++ raw) key).1.n), .slice DR2 ((rcvF ((joinB ss).take cut ++ raw) key).1.dg.length) eR2], .row (.slice AR2 ((rcvF ((joinB ss).take cut ++ raw) key).2.1.length) cR2) 27 17 ((rcvF ((joinB ss).take cut ++ raw) key).2.1.length) (rcs (rcvF ((joinB ss).take cut ++ raw) key).2.1), .row (.slice DR2 ((rcvF ((joinB ss).take cut ++ raw) key).1.dg.length) eR2) 5 1 ((rcvF ((joinB ss).take cut ++ raw) key).1.dg.length) (bv (rcvF ((joinB ss).take cut ++ raw) key).1.dg), .row (.slice A107 (((joinB ss).take cut ++ raw).length) c107) 5 1 (((joinB ss).take cut ++ raw).length) (bv ((joinB ss).take cut ++ raw)), .blk g18 45 [.int .i64 X.v, .int .i64 X.run, .int .i64 X.n, .slice DR1 X.dg.length eR1], .row (.slice AR1 RL.length cR1) 27 17 RL.length (rcs RL), .row (.slice DR1 X.dg.length eR1) 5 1 X.dg.length (bv X.dg), .row (.slice (some ⟨gS, 0, none⟩) ss.length cs) 28 1 ss.length (ss.map Sl.val), .row (.slice Aa all.length ca) 27 17 all.length (rcs all), .row (.slice Ak key.length ck) 5 1 key.length (bv key), .row (.slice A53 ((joinB ss).length) c53) 5 1 ((joinB ss).length) (bv (joinB ss))] ++ segP ss)) rfl ?_
   refine TL.as_ ?_
   refine TL.as_ ?_
   refine TL.end_ (TX.then_ (TC.seq_ (TC.region ?_)))
   refine TL.mv ?_
   refine TL.nilrow 5 1 ?_
   refine TL.appendT (k := 0) rfl rfl rfl rfl Tryd.underlying28 jlcel28 rfl rfl rfl (fun w1 hw => ⟨_, ((byt_own (hw.at_ (k := 11) rfl) hjb).head (show cut ≤ (joinB ss).length by omega)).1⟩) (bv_one _) (by omega) (cut) (by omega) (bv ((joinB ss).take cut)) (by rfl) (fun A115 c115 hA1151 hA1152 => ?_)
   refine TL.mv ?_
   refine TL.appendT (k := 0) rfl rfl rfl rfl Tryd.underlying28 jlcel28 rfl rfl rfl (fun w1 hw => ⟨_, ((hb2n.below hw.bel).more hw.bel.size).1⟩) (bv_one _) (by omega) (((joinB ss).take cut ++ raw).length) (hDl) (bv ((joinB ss).take cut ++ raw)) (by rw [bv_app]) (fun A117 c117 hA1171 hA1172 => ?_)
   refine TL.mv ?_
   refine TL.pcallPm (α := AccY (rcvF ((joinB ss).take cut ++ raw) key).1 (rcvF ((joinB ss).take cut ++ raw) key).2.1) (fun y => .tuple #[.agg #[.int .i64 ((rcvF ((joinB ss).take cut ++ raw) key).1.v), .int .i64 ((rcvF ((joinB ss).take cut ++ raw) key).1.run), .int .i64 ((rcvF ((joinB ss).take cut ++ raw) key).1.n), .slice y.1.2.1 ((rcvF ((joinB ss).take cut ++ raw) key).1.dg.length) y.1.2.2], .slice y.1.1.1 ((rcvF ((joinB ss).take cut ++ raw) key).2.1.length) y.1.1.2, .int .i64 ((rcvF ((joinB ss).take cut ++ raw) key).2.2 : Nat)]) (fun y => [.row (.slice y.1.1.1 ((rcvF ((joinB ss).take cut ++ raw) key).2.1.length) y.1.1.2) 27 17 ((rcvF ((joinB ss).take cut ++ raw) key).2.1.length) (rcs (rcvF ((joinB ss).take cut ++ raw) key).2.1), .row (.slice y.1.2.1 ((rcvF ((joinB ss).take cut ++ raw) key).1.dg.length) y.1.2.2) 5 1 ((rcvF ((joinB ss).take cut ++ raw) key).1.dg.length) (bv (rcvF ((joinB ss).take cut ++ raw) key).1.dg)]) rfl rfl rfl rfl rfl Tryd.func38 jlcnm38 jlcbd38 (fun w1 hw => (rrecover_any _ _ _ ((joinB ss).take cut ++ raw) Ak _ ck key w1 (byt_own (hw.at_ (k := 0) rfl) hDb) (byt_own (hw.at_ (k := 10) rfl) hB.kb) hA1171 (by omega) (by omega) ).mono fun e w2 h => h.use) ?_
   rintro ⟨⟨⟨AR3, cR3⟩, ⟨DR3, eR3⟩⟩, ⟨hAR31, hAR32⟩, ⟨hDR31, hDR32⟩⟩
   dsimp only [List.cons_append, List.nil_append]
   dsimp only at hAR31 hAR32 hDR31 hDR32
   iterate 4 (first | refine TL.ex ?_ | refine TL.mv ?_)
   refine TL.pnew rfl rfl rfl (exec_alloc (cs := [.int .i64 0, .int .i64 0, .int .i64 0, .slice none 0 0]) rfl jlczv45 rfl) (fun g24 => ?_)
   refine TL.pstore (k := 0) (vs := [.int .i64 ((rcvF ((joinB ss).take cut ++ raw) key).1.v), .int .i64 ((rcvF ((joinB ss).take cut ++ raw) key).1.run), .int .i64 ((rcvF ((joinB ss).take cut ++ raw) key).1.n), .slice DR3 ((rcvF ((joinB ss).take cut ++ raw) key).1.dg.length) eR3]) rfl rfl rfl rfl rfl rfl rfl jlcsz45 jlcone_i64i64i64s (by show 4 ≤ 4; decide) (L' := ([.blk g24 45 [.int .i64 ((rcvF ((joinB ss).take cut ++ raw) key).1.v), .int .i64 ((rcvF ((joinB ss).take cut ++ raw) key).1.run), .int .i64 ((rcvF ((joinB ss).take cut ++ raw) key).1.n), .slice DR3 ((rcvF ((joinB ss).take cut ++ raw) key).1.dg.length) eR3], .row (.slice AR3 ((rcvF ((joinB ss).take cut ++ raw) key).2.1.length) cR3) 27 17 ((rcvF ((joinB ss).take cut ++ raw) key).2.1.length) (rcs (rcvF ((joinB ss).take cut ++ raw) key).2.1), .row (.slice DR3 ((rcvF ((joinB ss).take cut ++ raw) key).1.dg.length) eR3) 5 1 ((rcvF ((joinB ss).take cut ++ raw) key).1.dg.length) (bv (rcvF ((joinB ss).take cut ++ raw) key).1.dg), .row (.slice A117 (((joinB ss).take cut ++ raw).length) c117) 5 1 (((joinB ss).take cut ++ raw).length) (bv ((joinB ss).take cut ++ raw)), .blk g21 45 [.int .i64 ((rcvF ((joinB ss).take cut ++ raw) key).1.v), .int .i64 ((rcvF ((joinB ss).take cut ++ raw) key).1.run), .int .i64 ((rcvF ((joinB ss).take cut ++ raw) key).1.n), .slice DR2 ((rcvF ((joinB ss).take cut ++ raw) key).1.dg.length) eR2], .row (.slice AR2 ((rcvF ((joinB ss).take cut ++ raw) key).2.1.length) cR2) 27 17 ((rcvF ((joinB ss).take cut ++ raw) key).2.1.length) (rcs (rcvF ((joinB ss).take cut ++ raw) key).2.1), .row (.slice DR2 ((rcvF ((joinB ss).take cut ++ raw) key).1.dg.length) eR2) 5 1 ((rcvF ((joinB ss).take cut ++ raw) key).1.dg.length) (bv (rcvF ((joinB ss).take cut ++ raw) key).1.dg), .row (.slice A107 (((joinB ss).take cut ++ raw).length) c107) 5 1 (((joinB ss).take cut ++ raw).length) (bv ((joinB ss).take cut ++ raw)), .blk g18 45 [.int .i64 X.v, .int .i64 X.run, .int .i64 X.n, .slice DR1 X.dg.length eR1], .row (.slice AR1 RL.length cR1) 27 17 RL.length (rcs RL), .row (.slice DR1 X.dg.length eR1) 5 1 X.dg.length (bv X.dg), .row (.slice (some ⟨gS, 0, none⟩) ss.length cs) 28 1 ss.length (ss.map Sl.val), .row (.slice Aa all.length ca) 27 17 all.length (rcs all), .row (.slice Ak key.length ck) 5 1 key.length (bv key), .row (.slice A53 ((joinB ss).length) c53) 5 1 ((joinB ss).length) (bv (joinB ss))] ++ segP ss)) rfl ?_
   refine TL.as_ ?_
   refine TL.as_ ?_
   refine TL.end_ (TX.then_ (TC.seq_ (TC.seq_ (TC.region ?_))))
   refine TL.mv ?_
   refine TL.mv ?_
   refine TL.val rfl rfl rfl (gives_bin rfl rfl rfl (fun w => bin_neq_f (rfl) w)) ?_
   iterate 8 (first | refine TL.gu ?_ | refine TL.mv ?_)
   refine TL.val rfl rfl rfl (gives_sliceH (v := .slice Aa RL.length ca) rfl rfl rfl (fun w => cut_hi Tryd.underlying33 (fun w => rfl) Aa _ ca RL.length rfl (by have := hB.a1; dsimp only at this; omega) w)) ?_
   refine TL.gu ?_
   refine TL.pcall1 (r := .bool true) rfl rfl rfl rfl rfl Tryd.func27 jlcnm27 jlcbd27 (fun w1 hw => retb_lit (decide_eq_true hpre) (sameresults_any AR1 _ _ RL Aa _ _ (all.take RL.length) w1 (Reads.of_own (hw.at_ (k := 9) rfl)) ((Reads.of_own (hw.at_ (k := 12) rfl)).head rfl hRLa) rfl (by rw [← hpre]) (by omega) (by omega))) ?_
   iterate 9 (first | refine TL.gu ?_ | refine TL.mv ?_ | refine TL.pk ?_ | refine TL.val rfl rfl rfl (gives_boolnot rfl rfl) ?_)
   refine TL.val rfl rfl rfl (gives_bin rfl rfl rfl (fun w => bin_neq_f (rfl) w)) ?_
   iterate 7 (first | refine TL.gu ?_ | refine TL.mv ?_ | refine TL.pk ?_)
   refine TL.pcall1 (r := .bool true) rfl rfl rfl rfl rfl Tryd.func27 jlcnm27 jlcbd27 (fun w1 hw => retb_lit (decide_eq_true rfl) (sameresults_any AR2 _ _ (rcvF ((joinB ss).take cut ++ raw) key).2.1 AR3 _ _ (rcvF ((joinB ss).take cut ++ raw) key).2.1 w1 (Reads.of_own (hw.at_ (k := 5) rfl)) (Reads.of_own (hw.at_ (k := 1) rfl)) rfl rfl (by omega) (by omega))) ?_
   iterate 5 (first | refine TL.gu ?_ | refine TL.mv ?_ | refine TL.pk ?_ | refine TL.val rfl rfl rfl (gives_boolnot rfl rfl) ?_)
   refine TL.val rfl rfl rfl (pm_loadV (k := 4) (i := 0) (n := 4) (v := .agg #[.int .i64 ((rcvF ((joinB ss).take cut ++ raw) key).1.v), .int .i64 ((rcvF ((joinB ss).take cut ++ raw) key).1.run), .int .i64 ((rcvF ((joinB ss).take cut ++ raw) key).1.n), .slice DR2 ((rcvF ((joinB ss).take cut ++ raw) key).1.dg.length) eR2]) rfl rfl jlcag45 jlcsz45 rfl (by show 4 ≤ 4; decide) rfl) ?_
   refine TL.gu ?_
   refine TL.val rfl rfl rfl (pm_loadV (k := 0) (i := 0) (n := 4) (v := .agg #[.int .i64 ((rcvF ((joinB ss).take cut ++ raw) key).1.v), .int .i64 ((rcvF ((joinB ss).take cut ++ raw) key).1.run), .int .i64 ((rcvF ((joinB ss).take cut ++ raw) key).1.n), .slice DR3 ((rcvF ((joinB ss).take cut ++ raw) key).1.dg.length) eR3]) rfl rfl jlcag45 jlcsz45 rfl (by show 4 ≤ 4; decide) rfl) ?_
   refine TL.gu ?_
   refine TL.pcall1 (r := .bool true) rfl rfl rfl rfl rfl Tryd.func26 jlcnm26 jlcbd26 (fun w1 hw => retb_lit (decide_eq_true rfl) (samechain_any (rcvF ((joinB ss).take cut ++ raw) key).1 (rcvF ((joinB ss).take cut ++ raw) key).1 DR2 _ _ DR3 _ _ w1 (byt_own (hw.at_ (k := 6) rfl) (rcvF_inv hDb).2.1) (byt_own (hw.at_ (k := 2) rfl) (rcvF_inv hDb).2.1) (Nat.le_trans (rcvF_inv hDb).1 (by decide)) (Nat.le_trans (rcvF_inv hDb).1 (by decide)))) ?_
   iterate 9 (first | refine TL.gu ?_ | refine TL.mv ?_ | refine TL.pk ?_ | refine TL.val rfl rfl rfl (gives_boolnot rfl rfl) ?_)
   refine TL.val rfl rfl rfl (gives_bin rfl rfl rfl (fun w => bin_lss_f (by omega) w)) ?_
   refine TL.pk ?_
   refine TL.end_ (TX.then_ (TC.condF rfl (TC.skip_ (TX.then_ (TC.seq_ (TC.seq_ (TC.region ?_)))))))
   refine TL.mv ?_
   refine TL.vsplit rfl rfl rfl (gives_bin rfl rfl rfl (fun w => bin_eql w)) (fun h157 => ?_) (fun h157 => ?_)
   ·have q157 := of_decide_eq_true h157
    have hWz : Wn = 0 := by omega
    have hi0 : i = 0 := Decidable.byContradiction fun hh => by have := flat_len hstk; rw [List.length_take, hWn] at this; omega
    have hX0 : X.dg.length = 0 := by have h := congrArg (fun z : Chn × List Rs => z.1.dg.length) hXR; rw [hi0] at h; exact h.symm.trans rfl
    refine TL.end_ (TX.then_ (TC.condT rfl (TC.seq_ (TC.region ?_))))
    refine TL.val rfl rfl rfl (gives_field (v := .pointer (some ⟨g18, 3, none⟩)) rfl rfl (fun w => jlcfld45_3 _ _ w)) ?_
    refine TL.val rfl rfl rfl (pm_load (k := 8) (i := 3) rfl rfl jlcag28 rfl rfl) ?_
    refine TL.val rfl rfl rfl (gives_len rfl Tryd.underlying28 rfl) ?_
    refine TL.val rfl rfl rfl (gives_bin rfl rfl rfl (fun w => bin_eql_t (by omega) w)) ?_
    refine TL.as_ ?_
    refine TL.end_ (TX.then_ (TC.ret_ (TX.then_ret ?_)))
    exact ret_tmp Tryd.results8 rfl (fun w1 hw => ⟨rfl, hwn.bel.trans (hw.bel.mono hwn.bel.size)⟩)
   ·have q157 := of_decide_eq_false h157
    have hi0 : 0 < i := Nat.pos_of_ne_zero fun hh => by rw [hh] at hWn; exact q157 (by rw [← hWn]; rfl)
    obtain ⟨all2, c2_, hjt⟩ := jrn_take hj i hi0 (by omega)
    obtain ⟨rfl, rfl⟩ : X = c2_ ∧ RL = all2 := by have := (jrn_fold hjt).1; rw [hXR] at this; exact ⟨congrArg Prod.fst this, congrArg Prod.snd this⟩
    obtain ⟨hv0, hv1, hv2, hv3⟩ := jrn_id hjt
    have hv4 := jrn_n hjt
    have hv5 := jrn_inv hjt
    have hr2 := r2_ok hv0 hv1 hv2 hv3 (by omega) (by omega)
    have hacc := acc_append hr2.1 hv5.2.2.1 hv5.2.2.2 hr2.2 key
    have hap := ap_ok hr2.1 key
    have hapb : Bs (apS X [(r2 X.v X.run X.n)] key) := by rw [hap.2.1]; exact segL_bs _ _ _ hXb _ _
    have hapl : (apS X [(r2 X.v X.run X.n)] key).length ≤ 200 := by rw [hap.2.1]; have := segL_le X.v X.run X.n X.dg [(r2 X.v X.run X.n)] key; simp only [List.length_singleton] at this; omega
    have hacb : Bs (apC X [(r2 X.v X.run X.n)] key).dg := by rw [hap.1]; exact shaF_bs _
    have hacl : (apC X [(r2 X.v X.run X.n)] key).dg.length = 32 := by rw [hap.1]; exact shaF_len _
    refine TL.end_ (TX.then_ (TC.condF rfl (TC.skip_ (TX.then_ ?_))))
    refine TC.join (α := Nat × SegY (apC X [(r2 X.v X.run X.n)] key) (apS X [(r2 X.v X.run X.n)] key)) (fun y => [(2, .slice A2 n2 c2), (11, .slice Ak key.length ck), (18, .pointer (some ⟨g18, 0, none⟩)), (27, .pointer (some ⟨y.1, 0, none⟩)), (28, .slice y.2.1.1.1 ((apS X [(r2 X.v X.run X.n)] key).length) y.2.1.1.2), (29, .int .i64 0)]) (fun y => Pm wn ([.row (.slice y.2.1.1.1 ((apS X [(r2 X.v X.run X.n)] key).length) y.2.1.1.2) 5 1 ((apS X [(r2 X.v X.run X.n)] key).length) (bv (apS X [(r2 X.v X.run X.n)] key)), .row (.slice y.2.1.2.1 ((apC X [(r2 X.v X.run X.n)] key).dg.length) y.2.1.2.2) 5 1 ((apC X [(r2 X.v X.run X.n)] key).dg.length) (bv (apC X [(r2 X.v X.run X.n)] key).dg), .blk y.1 45 [.int .i64 ((apC X [(r2 X.v X.run X.n)] key).v), .int .i64 ((apC X [(r2 X.v X.run X.n)] key).run), .int .i64 ((apC X [(r2 X.v X.run X.n)] key).n), .slice y.2.1.2.1 ((apC X [(r2 X.v X.run X.n)] key).dg.length) y.2.1.2.2], .row (.slice Ak key.length ck) 5 1 key.length (bv key), .row (.slice DR1 X.dg.length eR1) 5 1 X.dg.length (bv X.dg), .blk g18 45 [.int .i64 X.v, .int .i64 X.run, .int .i64 X.n, .slice DR1 X.dg.length eR1]] ++ segP ss)) ?_ ?_
    ·refine TC.held (ls := #[Ff,Ff,Ff,Ff,Ff,Ff,Ff,Ff,Ff,Ff,Ff,Ff,Ff]) (Pm wn [.blk g18 45 [.int .i64 X.v, .int .i64 X.run, .int .i64 X.n, .slice DR1 X.dg.length eR1]]) (by kernel_rfl) rfl rfl (fun w hw => hw.drawn _) ?_
     refine TH.tk (listed' := #[Tt,Ff,Ff,Ff,Ff,Ff,Ff,Ff,Ff,Ff,Ff,Ff,Ff]) 0 rfl rfl rfl (pm_loadV (k := 0) (i := 0) (n := 4) (v := .agg #[.int .i64 X.v, .int .i64 X.run, .int .i64 X.n, .slice DR1 X.dg.length eR1]) rfl rfl jlcag45 jlcsz45 rfl (by show 4 ≤ 4; decide) rfl) (fun w1 hw => hw.pick [8] (by decide) rfl) ?_
     refine TH.tk (listed' := #[Tt,Tt,Ff,Ff,Ff,Ff,Ff,Ff,Ff,Ff,Ff,Ff,Ff]) 1 rfl rfl rfl (pm_loadV (k := 0) (i := 0) (n := 4) (v := .agg #[.int .i64 X.v, .int .i64 X.run, .int .i64 X.n, .slice DR1 X.dg.length eR1]) rfl rfl jlcag45 jlcsz45 rfl (by show 4 ≤ 4; decide) rfl) (fun w1 hw => hw.pick [8] (by decide) rfl) ?_
     refine TH.tk (listed' := #[Tt,Tt,Ff,Tt,Ff,Ff,Ff,Ff,Ff,Ff,Ff,Ff,Ff]) 3 rfl rfl rfl (gives_move rfl rfl) (fun w1 hw => hw.pick [8] (by decide) rfl) ?_
     refine TH.two' (listed1 := #[Tt,Tt,Tt,Tt,Ff,Ff,Ff,Ff,Ff,Ff,Ff,Ff,Ff]) (listed2 := #[Tt,Tt,Ff,Tt,Ff,Ff,Ff,Ff,Ff,Tt,Ff,Ff,Ff]) 2 9 rfl rfl (by kernel_rfl) rfl rfl ?_ ?_
     ·refine TL.pcallRow (n := 1) (ys := rcs [(r2 X.v X.run X.n)]) rfl rfl rfl rfl rfl Tryd.func39 jlcnm39 jlcbd39 (fun w1 hw => results2_any X.v X.run X.n _ _ _ w1) (fun A165 c165 hA1651 hA1652 => ?_)
      refine TL.end_ ?_
      refine TX.held (fun w1 hw => hw.pick [9] (by decide) rfl) ?_
      refine TH.two' (listed1 := #[Tt,Tt,Tt,Tt,Tt,Ff,Ff,Ff,Ff,Ff,Ff,Ff,Ff]) (listed2 := #[Tt,Tt,Tt,Tt,Ff,Ff,Ff,Ff,Ff,Tt,Ff,Ff,Ff]) 4 9 rfl rfl (by kernel_rfl) rfl rfl ?_ ?_
      ·refine TL.pcallPm (α := SegY (apC X [(r2 X.v X.run X.n)] key) (apS X [(r2 X.v X.run X.n)] key)) (fun y => .tuple #[.agg #[.int .i64 ((apC X [(r2 X.v X.run X.n)] key).v), .int .i64 ((apC X [(r2 X.v X.run X.n)] key).run), .int .i64 ((apC X [(r2 X.v X.run X.n)] key).n), .slice y.1.2.1 ((apC X [(r2 X.v X.run X.n)] key).dg.length) y.1.2.2], .slice y.1.1.1 ((apS X [(r2 X.v X.run X.n)] key).length) y.1.1.2, .int .i64 0]) (fun y => [.row (.slice y.1.1.1 ((apS X [(r2 X.v X.run X.n)] key).length) y.1.1.2) 5 1 ((apS X [(r2 X.v X.run X.n)] key).length) (bv (apS X [(r2 X.v X.run X.n)] key)), .row (.slice y.1.2.1 ((apC X [(r2 X.v X.run X.n)] key).dg.length) y.1.2.2) 5 1 ((apC X [(r2 X.v X.run X.n)] key).dg.length) (bv (apC X [(r2 X.v X.run X.n)] key).dg)]) rfl rfl rfl rfl rfl Tryd.func36 jlcnm36 jlcbd36 (fun w1 hw => (append_any DR1 _ eR1 X A165 c165 [(r2 X.v X.run X.n)] Ak _ ck key w1 (byt_own (hw.at_ (k := 14) rfl) hB.kb) (by omega) (byt_own (hw.at_ (k := 11) rfl) hXb) (Reads.of_own (hw.at_ (k := 0) rfl)) (by omega) (by omega) (by omega) (by simp only [List.length_singleton]; omega) hr2.2 (hst.below hw.bel hst.lt) (hky.below hw.bel hky.lt)).mono fun e w2 h => by rw [hr2.1] at h; exact h.use) ?_
       rintro ⟨⟨⟨AP, cP⟩, ⟨DP, eP⟩⟩, ⟨hAP1, hAP2⟩, ⟨hDP1, hDP2⟩⟩
       dsimp only [List.cons_append, List.nil_append]
       dsimp only at hAP1 hAP2 hDP1 hDP2
       refine TL.end_ ?_
       refine TX.held (fun w1 hw => hw.pick [11] (by decide) rfl) ?_
       refine TH.tk (listed' := #[Tt,Tt,Tt,Tt,Tt,Tt,Ff,Ff,Ff,Ff,Ff,Ff,Ff]) 5 rfl rfl rfl (gives_move rfl rfl) (fun w1 hw => hw.pick [11] (by decide) rfl) ?_
       refine TH.tk (listed' := #[Tt,Tt,Tt,Tt,Tt,Tt,Tt,Ff,Ff,Ff,Ff,Ff,Ff]) 6 rfl rfl rfl (gives_extract rfl rfl rfl) (fun w1 hw => hw.pick [11] (by decide) rfl) ?_
       refine TH.tk (listed' := #[Tt,Tt,Tt,Tt,Tt,Tt,Tt,Tt,Ff,Ff,Ff,Ff,Ff]) 7 rfl rfl rfl (gives_extract rfl rfl rfl) (fun w1 hw => hw.pick [11] (by decide) rfl) ?_
       refine TH.tk (listed' := #[Tt,Tt,Tt,Tt,Tt,Tt,Tt,Tt,Tt,Ff,Ff,Ff,Ff]) 8 rfl rfl rfl (gives_extract rfl rfl rfl) (fun w1 hw => hw.pick [11] (by decide) rfl) ?_
       refine TH.only' (listed' := #[Tt,Tt,Tt,Tt,Tt,Tt,Tt,Tt,Tt,Tt,Ff,Ff,Ff]) 9 rfl (by kernel_rfl) rfl ?_
       refine TL.pnew rfl rfl rfl (exec_alloc (cs := [.int .i64 0, .int .i64 0, .int .i64 0, .slice none 0 0]) rfl jlczv45 rfl) (fun g27 => ?_)
       refine TL.end_ ?_
       refine TX.held (fun w1 hw => hw.pick [12] (by decide) rfl) ?_
       refine TH.only' (listed' := #[Tt,Tt,Tt,Tt,Tt,Tt,Tt,Tt,Tt,Tt,Tt,Ff,Ff]) 10 rfl (by kernel_rfl) rfl ?_
       refine TL.pstore (k := 0) (vs := [.int .i64 ((apC X [(r2 X.v X.run X.n)] key).v), .int .i64 ((apC X [(r2 X.v X.run X.n)] key).run), .int .i64 ((apC X [(r2 X.v X.run X.n)] key).n), .slice DP ((apC X [(r2 X.v X.run X.n)] key).dg.length) eP]) rfl rfl rfl rfl rfl rfl rfl jlcsz45 jlcone_i64i64i64s (by show 4 ≤ 4; decide) (L' := ([.blk g27 45 [.int .i64 ((apC X [(r2 X.v X.run X.n)] key).v), .int .i64 ((apC X [(r2 X.v X.run X.n)] key).run), .int .i64 ((apC X [(r2 X.v X.run X.n)] key).n), .slice DP ((apC X [(r2 X.v X.run X.n)] key).dg.length) eP], .row (.slice AP ((apS X [(r2 X.v X.run X.n)] key).length) cP) 5 1 ((apS X [(r2 X.v X.run X.n)] key).length) (bv (apS X [(r2 X.v X.run X.n)] key)), .row (.slice DP ((apC X [(r2 X.v X.run X.n)] key).dg.length) eP) 5 1 ((apC X [(r2 X.v X.run X.n)] key).dg.length) (bv (apC X [(r2 X.v X.run X.n)] key).dg), .row (.slice A165 1 c165) 27 17 1 (rcs [(r2 X.v X.run X.n)]), .blk g24 45 [.int .i64 ((rcvF ((joinB ss).take cut ++ raw) key).1.v), .int .i64 ((rcvF ((joinB ss).take cut ++ raw) key).1.run), .int .i64 ((rcvF ((joinB ss).take cut ++ raw) key).1.n), .slice DR3 ((rcvF ((joinB ss).take cut ++ raw) key).1.dg.length) eR3], .row (.slice AR3 ((rcvF ((joinB ss).take cut ++ raw) key).2.1.length) cR3) 27 17 ((rcvF ((joinB ss).take cut ++ raw) key).2.1.length) (rcs (rcvF ((joinB ss).take cut ++ raw) key).2.1), .row (.slice DR3 ((rcvF ((joinB ss).take cut ++ raw) key).1.dg.length) eR3) 5 1 ((rcvF ((joinB ss).take cut ++ raw) key).1.dg.length) (bv (rcvF ((joinB ss).take cut ++ raw) key).1.dg), .row (.slice A117 (((joinB ss).take cut ++ raw).length) c117) 5 1 (((joinB ss).take cut ++ raw).length) (bv ((joinB ss).take cut ++ raw)), .blk g21 45 [.int .i64 ((rcvF ((joinB ss).take cut ++ raw) key).1.v), .int .i64 ((rcvF ((joinB ss).take cut ++ raw) key).1.run), .int .i64 ((rcvF ((joinB ss).take cut ++ raw) key).1.n), .slice DR2 ((rcvF ((joinB ss).take cut ++ raw) key).1.dg.length) eR2], .row (.slice AR2 ((rcvF ((joinB ss).take cut ++ raw) key).2.1.length) cR2) 27 17 ((rcvF ((joinB ss).take cut ++ raw) key).2.1.length) (rcs (rcvF ((joinB ss).take cut ++ raw) key).2.1), .row (.slice DR2 ((rcvF ((joinB ss).take cut ++ raw) key).1.dg.length) eR2) 5 1 ((rcvF ((joinB ss).take cut ++ raw) key).1.dg.length) (bv (rcvF ((joinB ss).take cut ++ raw) key).1.dg), .row (.slice A107 (((joinB ss).take cut ++ raw).length) c107) 5 1 (((joinB ss).take cut ++ raw).length) (bv ((joinB ss).take cut ++ raw)), .blk g18 45 [.int .i64 X.v, .int .i64 X.run, .int .i64 X.n, .slice DR1 X.dg.length eR1], .row (.slice AR1 RL.length cR1) 27 17 RL.length (rcs RL), .row (.slice DR1 X.dg.length eR1) 5 1 X.dg.length (bv X.dg), .row (.slice (some ⟨gS, 0, none⟩) ss.length cs) 28 1 ss.length (ss.map Sl.val), .row (.slice Aa all.length ca) 27 17 all.length (rcs all), .row (.slice Ak key.length ck) 5 1 key.length (bv key), .row (.slice A53 ((joinB ss).length) c53) 5 1 ((joinB ss).length) (bv (joinB ss))] ++ segP ss)) rfl ?_
       refine TL.end_ ?_
       refine TX.held (fun w1 hw => hw.pick [12] (by decide) rfl) ?_
       refine TH.tk (listed' := #[Tt,Tt,Tt,Tt,Tt,Tt,Tt,Tt,Tt,Tt,Tt,Tt,Ff]) 11 rfl rfl rfl (gives_assign rfl rfl) (fun w1 hw => hw.pick [12] (by decide) rfl) ?_
       refine TH.tk (listed' := #[Tt,Tt,Tt,Tt,Tt,Tt,Tt,Tt,Tt,Tt,Tt,Tt,Tt]) 12 rfl rfl rfl (gives_assign rfl rfl) (fun w1 hw => hw.pick [12] (by decide) rfl) ?_
       refine TH.done (by kernel_rfl) ?_
       exact TX.joined (⟨g27, ⟨((AP, cP), (DP, eP)), ⟨hAP1, hAP2⟩, ⟨hDP1, hDP2⟩⟩⟩) (⟨rfl, rfl, rfl, rfl, rfl, rfl, trivial⟩) (fun w1 hw => (show Pm wn ([.row (.slice AP ((apS X [(r2 X.v X.run X.n)] key).length) cP) 5 1 ((apS X [(r2 X.v X.run X.n)] key).length) (bv (apS X [(r2 X.v X.run X.n)] key)), .row (.slice DP ((apC X [(r2 X.v X.run X.n)] key).dg.length) eP) 5 1 ((apC X [(r2 X.v X.run X.n)] key).dg.length) (bv (apC X [(r2 X.v X.run X.n)] key).dg), .blk g27 45 [.int .i64 ((apC X [(r2 X.v X.run X.n)] key).v), .int .i64 ((apC X [(r2 X.v X.run X.n)] key).run), .int .i64 ((apC X [(r2 X.v X.run X.n)] key).n), .slice DP ((apC X [(r2 X.v X.run X.n)] key).dg.length) eP], .row (.slice Ak key.length ck) 5 1 key.length (bv key), .row (.slice DR1 X.dg.length eR1) 5 1 X.dg.length (bv X.dg), .blk g18 45 [.int .i64 X.v, .int .i64 X.run, .int .i64 X.n, .slice DR1 X.dg.length eR1]] ++ segP ss) w1 from hw.pickT 19 [1, 2, 0, 17, 14, 12] (by decide) (by decide) rfl rfl))
      ·refine TL.pnew rfl rfl rfl (exec_alloc (cs := [.int .i64 0, .int .i64 0, .int .i64 0, .slice none 0 0]) rfl jlczv45 rfl) (fun g27 => ?_)
       refine TL.end_ ?_
       refine TX.held (fun w1 hw => hw.pick [10] (by decide) rfl) ?_
       refine TH.only' (listed' := #[Tt,Tt,Tt,Tt,Tt,Ff,Ff,Ff,Ff,Tt,Ff,Ff,Ff]) 4 rfl (by kernel_rfl) rfl ?_
       refine TL.pcallPm (α := SegY (apC X [(r2 X.v X.run X.n)] key) (apS X [(r2 X.v X.run X.n)] key)) (fun y => .tuple #[.agg #[.int .i64 ((apC X [(r2 X.v X.run X.n)] key).v), .int .i64 ((apC X [(r2 X.v X.run X.n)] key).run), .int .i64 ((apC X [(r2 X.v X.run X.n)] key).n), .slice y.1.2.1 ((apC X [(r2 X.v X.run X.n)] key).dg.length) y.1.2.2], .slice y.1.1.1 ((apS X [(r2 X.v X.run X.n)] key).length) y.1.1.2, .int .i64 0]) (fun y => [.row (.slice y.1.1.1 ((apS X [(r2 X.v X.run X.n)] key).length) y.1.1.2) 5 1 ((apS X [(r2 X.v X.run X.n)] key).length) (bv (apS X [(r2 X.v X.run X.n)] key)), .row (.slice y.1.2.1 ((apC X [(r2 X.v X.run X.n)] key).dg.length) y.1.2.2) 5 1 ((apC X [(r2 X.v X.run X.n)] key).dg.length) (bv (apC X [(r2 X.v X.run X.n)] key).dg)]) rfl rfl rfl rfl rfl Tryd.func36 jlcnm36 jlcbd36 (fun w1 hw => (append_any DR1 _ eR1 X A165 c165 [(r2 X.v X.run X.n)] Ak _ ck key w1 (byt_own (hw.at_ (k := 15) rfl) hB.kb) (by omega) (byt_own (hw.at_ (k := 12) rfl) hXb) (Reads.of_own (hw.at_ (k := 1) rfl)) (by omega) (by omega) (by omega) (by simp only [List.length_singleton]; omega) hr2.2 (hst.below hw.bel hst.lt) (hky.below hw.bel hky.lt)).mono fun e w2 h => by rw [hr2.1] at h; exact h.use) ?_
       rintro ⟨⟨⟨AP, cP⟩, ⟨DP, eP⟩⟩, ⟨hAP1, hAP2⟩, ⟨hDP1, hDP2⟩⟩
       dsimp only [List.cons_append, List.nil_append]
       dsimp only at hAP1 hAP2 hDP1 hDP2
       refine TL.end_ ?_
       refine TX.held (fun w1 hw => hw.pick [12] (by decide) rfl) ?_
       refine TH.tk (listed' := #[Tt,Tt,Tt,Tt,Tt,Tt,Ff,Ff,Ff,Tt,Ff,Ff,Ff]) 5 rfl rfl rfl (gives_move rfl rfl) (fun w1 hw => hw.pick [12] (by decide) rfl) ?_
       refine TH.tk (listed' := #[Tt,Tt,Tt,Tt,Tt,Tt,Tt,Ff,Ff,Tt,Ff,Ff,Ff]) 6 rfl rfl rfl (gives_extract rfl rfl rfl) (fun w1 hw => hw.pick [12] (by decide) rfl) ?_
       refine TH.tk (listed' := #[Tt,Tt,Tt,Tt,Tt,Tt,Tt,Tt,Ff,Tt,Ff,Ff,Ff]) 7 rfl rfl rfl (gives_extract rfl rfl rfl) (fun w1 hw => hw.pick [12] (by decide) rfl) ?_
       refine TH.tk (listed' := #[Tt,Tt,Tt,Tt,Tt,Tt,Tt,Tt,Tt,Tt,Ff,Ff,Ff]) 8 rfl rfl rfl (gives_extract rfl rfl rfl) (fun w1 hw => hw.pick [12] (by decide) rfl) ?_
       refine TH.only' (listed' := #[Tt,Tt,Tt,Tt,Tt,Tt,Tt,Tt,Tt,Tt,Tt,Ff,Ff]) 10 rfl (by kernel_rfl) rfl ?_
       refine TL.pstore (k := 2) (vs := [.int .i64 ((apC X [(r2 X.v X.run X.n)] key).v), .int .i64 ((apC X [(r2 X.v X.run X.n)] key).run), .int .i64 ((apC X [(r2 X.v X.run X.n)] key).n), .slice DP ((apC X [(r2 X.v X.run X.n)] key).dg.length) eP]) rfl rfl rfl rfl rfl rfl rfl jlcsz45 jlcone_i64i64i64s (by show 4 ≤ 4; decide) (L' := ([.row (.slice AP ((apS X [(r2 X.v X.run X.n)] key).length) cP) 5 1 ((apS X [(r2 X.v X.run X.n)] key).length) (bv (apS X [(r2 X.v X.run X.n)] key)), .row (.slice DP ((apC X [(r2 X.v X.run X.n)] key).dg.length) eP) 5 1 ((apC X [(r2 X.v X.run X.n)] key).dg.length) (bv (apC X [(r2 X.v X.run X.n)] key).dg), .blk g27 45 [.int .i64 ((apC X [(r2 X.v X.run X.n)] key).v), .int .i64 ((apC X [(r2 X.v X.run X.n)] key).run), .int .i64 ((apC X [(r2 X.v X.run X.n)] key).n), .slice DP ((apC X [(r2 X.v X.run X.n)] key).dg.length) eP], .row (.slice A165 1 c165) 27 17 1 (rcs [(r2 X.v X.run X.n)]), .blk g24 45 [.int .i64 ((rcvF ((joinB ss).take cut ++ raw) key).1.v), .int .i64 ((rcvF ((joinB ss).take cut ++ raw) key).1.run), .int .i64 ((rcvF ((joinB ss).take cut ++ raw) key).1.n), .slice DR3 ((rcvF ((joinB ss).take cut ++ raw) key).1.dg.length) eR3], .row (.slice AR3 ((rcvF ((joinB ss).take cut ++ raw) key).2.1.length) cR3) 27 17 ((rcvF ((joinB ss).take cut ++ raw) key).2.1.length) (rcs (rcvF ((joinB ss).take cut ++ raw) key).2.1), .row (.slice DR3 ((rcvF ((joinB ss).take cut ++ raw) key).1.dg.length) eR3) 5 1 ((rcvF ((joinB ss).take cut ++ raw) key).1.dg.length) (bv (rcvF ((joinB ss).take cut ++ raw) key).1.dg), .row (.slice A117 (((joinB ss).take cut ++ raw).length) c117) 5 1 (((joinB ss).take cut ++ raw).length) (bv ((joinB ss).take cut ++ raw)), .blk g21 45 [.int .i64 ((rcvF ((joinB ss).take cut ++ raw) key).1.v), .int .i64 ((rcvF ((joinB ss).take cut ++ raw) key).1.run), .int .i64 ((rcvF ((joinB ss).take cut ++ raw) key).1.n), .slice DR2 ((rcvF ((joinB ss).take cut ++ raw) key).1.dg.length) eR2], .row (.slice AR2 ((rcvF ((joinB ss).take cut ++ raw) key).2.1.length) cR2) 27 17 ((rcvF ((joinB ss).take cut ++ raw) key).2.1.length) (rcs (rcvF ((joinB ss).take cut ++ raw) key).2.1), .row (.slice DR2 ((rcvF ((joinB ss).take cut ++ raw) key).1.dg.length) eR2) 5 1 ((rcvF ((joinB ss).take cut ++ raw) key).1.dg.length) (bv (rcvF ((joinB ss).take cut ++ raw) key).1.dg), .row (.slice A107 (((joinB ss).take cut ++ raw).length) c107) 5 1 (((joinB ss).take cut ++ raw).length) (bv ((joinB ss).take cut ++ raw)), .blk g18 45 [.int .i64 X.v, .int .i64 X.run, .int .i64 X.n, .slice DR1 X.dg.length eR1], .row (.slice AR1 RL.length cR1) 27 17 RL.length (rcs RL), .row (.slice DR1 X.dg.length eR1) 5 1 X.dg.length (bv X.dg), .row (.slice (some ⟨gS, 0, none⟩) ss.length cs) 28 1 ss.length (ss.map Sl.val), .row (.slice Aa all.length ca) 27 17 all.length (rcs all), .row (.slice Ak key.length ck) 5 1 key.length (bv key), .row (.slice A53 ((joinB ss).length) c53) 5 1 ((joinB ss).length) (bv (joinB ss))] ++ segP ss)) rfl ?_
       refine TL.end_ ?_
       refine TX.held (fun w1 hw => hw.pick [12] (by decide) rfl) ?_
       refine TH.tk (listed' := #[Tt,Tt,Tt,Tt,Tt,Tt,Tt,Tt,Tt,Tt,Tt,Tt,Ff]) 11 rfl rfl rfl (gives_assign rfl rfl) (fun w1 hw => hw.pick [12] (by decide) rfl) ?_
       refine TH.tk (listed' := #[Tt,Tt,Tt,Tt,Tt,Tt,Tt,Tt,Tt,Tt,Tt,Tt,Tt]) 12 rfl rfl rfl (gives_assign rfl rfl) (fun w1 hw => hw.pick [12] (by decide) rfl) ?_
       refine TH.done (by kernel_rfl) ?_
       exact TX.joined (⟨g27, ⟨((AP, cP), (DP, eP)), ⟨hAP1, hAP2⟩, ⟨hDP1, hDP2⟩⟩⟩) (⟨rfl, rfl, rfl, rfl, rfl, rfl, trivial⟩) (fun w1 hw => (show Pm wn ([.row (.slice AP ((apS X [(r2 X.v X.run X.n)] key).length) cP) 5 1 ((apS X [(r2 X.v X.run X.n)] key).length) (bv (apS X [(r2 X.v X.run X.n)] key)), .row (.slice DP ((apC X [(r2 X.v X.run X.n)] key).dg.length) eP) 5 1 ((apC X [(r2 X.v X.run X.n)] key).dg.length) (bv (apC X [(r2 X.v X.run X.n)] key).dg), .blk g27 45 [.int .i64 ((apC X [(r2 X.v X.run X.n)] key).v), .int .i64 ((apC X [(r2 X.v X.run X.n)] key).run), .int .i64 ((apC X [(r2 X.v X.run X.n)] key).n), .slice DP ((apC X [(r2 X.v X.run X.n)] key).dg.length) eP], .row (.slice Ak key.length ck) 5 1 key.length (bv key), .row (.slice DR1 X.dg.length eR1) 5 1 X.dg.length (bv X.dg), .blk g18 45 [.int .i64 X.v, .int .i64 X.run, .int .i64 X.n, .slice DR1 X.dg.length eR1]] ++ segP ss) w1 from hw.pickT 19 [0, 1, 2, 17, 14, 12] (by decide) (by decide) rfl rfl))
     ·refine TL.pnew rfl rfl rfl (exec_alloc (cs := [.int .i64 0, .int .i64 0, .int .i64 0, .slice none 0 0]) rfl jlczv45 rfl) (fun g27 => ?_)
      refine TL.end_ ?_
      refine TX.held (fun w1 hw => hw.pick [9] (by decide) rfl) ?_
      refine TH.only' (listed' := #[Tt,Tt,Tt,Tt,Ff,Ff,Ff,Ff,Ff,Tt,Ff,Ff,Ff]) 2 rfl (by kernel_rfl) rfl ?_
      refine TL.pcallRow (n := 1) (ys := rcs [(r2 X.v X.run X.n)]) rfl rfl rfl rfl rfl Tryd.func39 jlcnm39 jlcbd39 (fun w1 hw => results2_any X.v X.run X.n _ _ _ w1) (fun A165 c165 hA1651 hA1652 => ?_)
      refine TL.end_ ?_
      refine TX.held (fun w1 hw => hw.pick [10] (by decide) rfl) ?_
      refine TH.only' (listed' := #[Tt,Tt,Tt,Tt,Tt,Ff,Ff,Ff,Ff,Tt,Ff,Ff,Ff]) 4 rfl (by kernel_rfl) rfl ?_
      refine TL.pcallPm (α := SegY (apC X [(r2 X.v X.run X.n)] key) (apS X [(r2 X.v X.run X.n)] key)) (fun y => .tuple #[.agg #[.int .i64 ((apC X [(r2 X.v X.run X.n)] key).v), .int .i64 ((apC X [(r2 X.v X.run X.n)] key).run), .int .i64 ((apC X [(r2 X.v X.run X.n)] key).n), .slice y.1.2.1 ((apC X [(r2 X.v X.run X.n)] key).dg.length) y.1.2.2], .slice y.1.1.1 ((apS X [(r2 X.v X.run X.n)] key).length) y.1.1.2, .int .i64 0]) (fun y => [.row (.slice y.1.1.1 ((apS X [(r2 X.v X.run X.n)] key).length) y.1.1.2) 5 1 ((apS X [(r2 X.v X.run X.n)] key).length) (bv (apS X [(r2 X.v X.run X.n)] key)), .row (.slice y.1.2.1 ((apC X [(r2 X.v X.run X.n)] key).dg.length) y.1.2.2) 5 1 ((apC X [(r2 X.v X.run X.n)] key).dg.length) (bv (apC X [(r2 X.v X.run X.n)] key).dg)]) rfl rfl rfl rfl rfl Tryd.func36 jlcnm36 jlcbd36 (fun w1 hw => (append_any DR1 _ eR1 X A165 c165 [(r2 X.v X.run X.n)] Ak _ ck key w1 (byt_own (hw.at_ (k := 15) rfl) hB.kb) (by omega) (byt_own (hw.at_ (k := 12) rfl) hXb) (Reads.of_own (hw.at_ (k := 0) rfl)) (by omega) (by omega) (by omega) (by simp only [List.length_singleton]; omega) hr2.2 (hst.below hw.bel hst.lt) (hky.below hw.bel hky.lt)).mono fun e w2 h => by rw [hr2.1] at h; exact h.use) ?_
      rintro ⟨⟨⟨AP, cP⟩, ⟨DP, eP⟩⟩, ⟨hAP1, hAP2⟩, ⟨hDP1, hDP2⟩⟩
      dsimp only [List.cons_append, List.nil_append]
      dsimp only at hAP1 hAP2 hDP1 hDP2
      refine TL.end_ ?_
      refine TX.held (fun w1 hw => hw.pick [12] (by decide) rfl) ?_
      refine TH.tk (listed' := #[Tt,Tt,Tt,Tt,Tt,Tt,Ff,Ff,Ff,Tt,Ff,Ff,Ff]) 5 rfl rfl rfl (gives_move rfl rfl) (fun w1 hw => hw.pick [12] (by decide) rfl) ?_
      refine TH.tk (listed' := #[Tt,Tt,Tt,Tt,Tt,Tt,Tt,Ff,Ff,Tt,Ff,Ff,Ff]) 6 rfl rfl rfl (gives_extract rfl rfl rfl) (fun w1 hw => hw.pick [12] (by decide) rfl) ?_
      refine TH.tk (listed' := #[Tt,Tt,Tt,Tt,Tt,Tt,Tt,Tt,Ff,Tt,Ff,Ff,Ff]) 7 rfl rfl rfl (gives_extract rfl rfl rfl) (fun w1 hw => hw.pick [12] (by decide) rfl) ?_
      refine TH.tk (listed' := #[Tt,Tt,Tt,Tt,Tt,Tt,Tt,Tt,Tt,Tt,Ff,Ff,Ff]) 8 rfl rfl rfl (gives_extract rfl rfl rfl) (fun w1 hw => hw.pick [12] (by decide) rfl) ?_
      refine TH.only' (listed' := #[Tt,Tt,Tt,Tt,Tt,Tt,Tt,Tt,Tt,Tt,Tt,Ff,Ff]) 10 rfl (by kernel_rfl) rfl ?_
      refine TL.pstore (k := 3) (vs := [.int .i64 ((apC X [(r2 X.v X.run X.n)] key).v), .int .i64 ((apC X [(r2 X.v X.run X.n)] key).run), .int .i64 ((apC X [(r2 X.v X.run X.n)] key).n), .slice DP ((apC X [(r2 X.v X.run X.n)] key).dg.length) eP]) rfl rfl rfl rfl rfl rfl rfl jlcsz45 jlcone_i64i64i64s (by show 4 ≤ 4; decide) (L' := ([.row (.slice AP ((apS X [(r2 X.v X.run X.n)] key).length) cP) 5 1 ((apS X [(r2 X.v X.run X.n)] key).length) (bv (apS X [(r2 X.v X.run X.n)] key)), .row (.slice DP ((apC X [(r2 X.v X.run X.n)] key).dg.length) eP) 5 1 ((apC X [(r2 X.v X.run X.n)] key).dg.length) (bv (apC X [(r2 X.v X.run X.n)] key).dg), .row (.slice A165 1 c165) 27 17 1 (rcs [(r2 X.v X.run X.n)]), .blk g27 45 [.int .i64 ((apC X [(r2 X.v X.run X.n)] key).v), .int .i64 ((apC X [(r2 X.v X.run X.n)] key).run), .int .i64 ((apC X [(r2 X.v X.run X.n)] key).n), .slice DP ((apC X [(r2 X.v X.run X.n)] key).dg.length) eP], .blk g24 45 [.int .i64 ((rcvF ((joinB ss).take cut ++ raw) key).1.v), .int .i64 ((rcvF ((joinB ss).take cut ++ raw) key).1.run), .int .i64 ((rcvF ((joinB ss).take cut ++ raw) key).1.n), .slice DR3 ((rcvF ((joinB ss).take cut ++ raw) key).1.dg.length) eR3], .row (.slice AR3 ((rcvF ((joinB ss).take cut ++ raw) key).2.1.length) cR3) 27 17 ((rcvF ((joinB ss).take cut ++ raw) key).2.1.length) (rcs (rcvF ((joinB ss).take cut ++ raw) key).2.1), .row (.slice DR3 ((rcvF ((joinB ss).take cut ++ raw) key).1.dg.length) eR3) 5 1 ((rcvF ((joinB ss).take cut ++ raw) key).1.dg.length) (bv (rcvF ((joinB ss).take cut ++ raw) key).1.dg), .row (.slice A117 (((joinB ss).take cut ++ raw).length) c117) 5 1 (((joinB ss).take cut ++ raw).length) (bv ((joinB ss).take cut ++ raw)), .blk g21 45 [.int .i64 ((rcvF ((joinB ss).take cut ++ raw) key).1.v), .int .i64 ((rcvF ((joinB ss).take cut ++ raw) key).1.run), .int .i64 ((rcvF ((joinB ss).take cut ++ raw) key).1.n), .slice DR2 ((rcvF ((joinB ss).take cut ++ raw) key).1.dg.length) eR2], .row (.slice AR2 ((rcvF ((joinB ss).take cut ++ raw) key).2.1.length) cR2) 27 17 ((rcvF ((joinB ss).take cut ++ raw) key).2.1.length) (rcs (rcvF ((joinB ss).take cut ++ raw) key).2.1), .row (.slice DR2 ((rcvF ((joinB ss).take cut ++ raw) key).1.dg.length) eR2) 5 1 ((rcvF ((joinB ss).take cut ++ raw) key).1.dg.length) (bv (rcvF ((joinB ss).take cut ++ raw) key).1.dg), .row (.slice A107 (((joinB ss).take cut ++ raw).length) c107) 5 1 (((joinB ss).take cut ++ raw).length) (bv ((joinB ss).take cut ++ raw)), .blk g18 45 [.int .i64 X.v, .int .i64 X.run, .int .i64 X.n, .slice DR1 X.dg.length eR1], .row (.slice AR1 RL.length cR1) 27 17 RL.length (rcs RL), .row (.slice DR1 X.dg.length eR1) 5 1 X.dg.length (bv X.dg), .row (.slice (some ⟨gS, 0, none⟩) ss.length cs) 28 1 ss.length (ss.map Sl.val), .row (.slice Aa all.length ca) 27 17 all.length (rcs all), .row (.slice Ak key.length ck) 5 1 key.length (bv key), .row (.slice A53 ((joinB ss).length) c53) 5 1 ((joinB ss).length) (bv (joinB ss))] ++ segP ss)) rfl ?_
      refine TL.end_ ?_
      refine TX.held (fun w1 hw => hw.pick [12] (by decide) rfl) ?_
      refine TH.tk (listed' := #[Tt,Tt,Tt,Tt,Tt,Tt,Tt,Tt,Tt,Tt,Tt,Tt,Ff]) 11 rfl rfl rfl (gives_assign rfl rfl) (fun w1 hw => hw.pick [12] (by decide) rfl) ?_
      refine TH.tk (listed' := #[Tt,Tt,Tt,Tt,Tt,Tt,Tt,Tt,Tt,Tt,Tt,Tt,Tt]) 12 rfl rfl rfl (gives_assign rfl rfl) (fun w1 hw => hw.pick [12] (by decide) rfl) ?_
      refine TH.done (by kernel_rfl) ?_
      exact TX.joined (⟨g27, ⟨((AP, cP), (DP, eP)), ⟨hAP1, hAP2⟩, ⟨hDP1, hDP2⟩⟩⟩) (⟨rfl, rfl, rfl, rfl, rfl, rfl, trivial⟩) (fun w1 hw => (show Pm wn ([.row (.slice AP ((apS X [(r2 X.v X.run X.n)] key).length) cP) 5 1 ((apS X [(r2 X.v X.run X.n)] key).length) (bv (apS X [(r2 X.v X.run X.n)] key)), .row (.slice DP ((apC X [(r2 X.v X.run X.n)] key).dg.length) eP) 5 1 ((apC X [(r2 X.v X.run X.n)] key).dg.length) (bv (apC X [(r2 X.v X.run X.n)] key).dg), .blk g27 45 [.int .i64 ((apC X [(r2 X.v X.run X.n)] key).v), .int .i64 ((apC X [(r2 X.v X.run X.n)] key).run), .int .i64 ((apC X [(r2 X.v X.run X.n)] key).n), .slice DP ((apC X [(r2 X.v X.run X.n)] key).dg.length) eP], .row (.slice Ak key.length ck) 5 1 key.length (bv key), .row (.slice DR1 X.dg.length eR1) 5 1 X.dg.length (bv X.dg), .blk g18 45 [.int .i64 X.v, .int .i64 X.run, .int .i64 X.n, .slice DR1 X.dg.length eR1]] ++ segP ss) w1 from hw.pickT 19 [0, 1, 3, 17, 14, 12] (by decide) (by decide) rfl rfl))
    ·rintro ⟨g27, ⟨⟨AP, cP⟩, ⟨DP, eP⟩⟩, ⟨hAP1, hAP2⟩, ⟨hDP1, hDP2⟩⟩
     dsimp only at hAP1 hAP2 hDP1 hDP2 ⊢
     refine TC.seq_ (TC.region ?_)
     refine TL.val rfl rfl rfl (pm_loadV (k := 5) (i := 0) (n := 4) (v := .agg #[.int .i64 X.v, .int .i64 X.run, .int .i64 X.n, .slice DR1 X.dg.length eR1]) rfl rfl jlcag45 jlcsz45 rfl (by show 4 ≤ 4; decide) rfl) ?_
     refine TL.mv ?_
     refine TL.mv ?_
     refine TL.pcallPm (α := AccY (apC X [(r2 X.v X.run X.n)] key) ([(r2 X.v X.run X.n)] : List Rs)) (fun y => .tuple #[.agg #[.int .i64 ((apC X [(r2 X.v X.run X.n)] key).v), .int .i64 ((apC X [(r2 X.v X.run X.n)] key).run), .int .i64 ((apC X [(r2 X.v X.run X.n)] key).n), .slice y.1.2.1 ((apC X [(r2 X.v X.run X.n)] key).dg.length) y.1.2.2], .slice y.1.1.1 (([(r2 X.v X.run X.n)] : List Rs).length) y.1.1.2, .int .i64 0]) (fun y => [.row (.slice y.1.1.1 (([(r2 X.v X.run X.n)] : List Rs).length) y.1.1.2) 27 17 (([(r2 X.v X.run X.n)] : List Rs).length) (rcs ([(r2 X.v X.run X.n)] : List Rs)), .row (.slice y.1.2.1 ((apC X [(r2 X.v X.run X.n)] key).dg.length) y.1.2.2) 5 1 ((apC X [(r2 X.v X.run X.n)] key).dg.length) (bv (apC X [(r2 X.v X.run X.n)] key).dg)]) rfl rfl rfl rfl rfl Tryd.func22 jlcnm22 jlcbd22 (fun w1 hw => (accept_any DR1 _ eR1 X AP _ cP (apS X [(r2 X.v X.run X.n)] key) Ak _ ck key w1 (byt_own (hw.at_ (k := 4) rfl) hXb) (byt_own (hw.at_ (k := 0) rfl) hapb) (byt_own (hw.at_ (k := 3) rfl) hB.kb) hAP1 (by omega) (by omega) (by omega) (by omega) (hst.below hw.bel hst.lt) (hky.below hw.bel hky.lt)).mono fun e w2 h => by rw [hacc.1, hacc.2.1, hacc.2.2] at h; exact h.use) ?_
     rintro ⟨⟨⟨AR4, cR4⟩, ⟨DR4, eR4⟩⟩, ⟨hAR41, hAR42⟩, ⟨hDR41, hDR42⟩⟩
     dsimp only [List.cons_append, List.nil_append]
     dsimp only at hAR41 hAR42 hDR41 hDR42
     iterate 4 (first | refine TL.ex ?_ | refine TL.mv ?_)
     refine TL.pnew rfl rfl rfl (exec_alloc (cs := [.int .i64 0, .int .i64 0, .int .i64 0, .slice none 0 0]) rfl jlczv45 rfl) (fun g30 => ?_)
     refine TL.pstore (k := 0) (vs := [.int .i64 ((apC X [(r2 X.v X.run X.n)] key).v), .int .i64 ((apC X [(r2 X.v X.run X.n)] key).run), .int .i64 ((apC X [(r2 X.v X.run X.n)] key).n), .slice DR4 ((apC X [(r2 X.v X.run X.n)] key).dg.length) eR4]) rfl rfl rfl rfl rfl rfl rfl jlcsz45 jlcone_i64i64i64s (by show 4 ≤ 4; decide) (L' := ([.blk g30 45 [.int .i64 ((apC X [(r2 X.v X.run X.n)] key).v), .int .i64 ((apC X [(r2 X.v X.run X.n)] key).run), .int .i64 ((apC X [(r2 X.v X.run X.n)] key).n), .slice DR4 ((apC X [(r2 X.v X.run X.n)] key).dg.length) eR4], .row (.slice AR4 (([(r2 X.v X.run X.n)] : List Rs).length) cR4) 27 17 (([(r2 X.v X.run X.n)] : List Rs).length) (rcs ([(r2 X.v X.run X.n)] : List Rs)), .row (.slice DR4 ((apC X [(r2 X.v X.run X.n)] key).dg.length) eR4) 5 1 ((apC X [(r2 X.v X.run X.n)] key).dg.length) (bv (apC X [(r2 X.v X.run X.n)] key).dg), .row (.slice AP ((apS X [(r2 X.v X.run X.n)] key).length) cP) 5 1 ((apS X [(r2 X.v X.run X.n)] key).length) (bv (apS X [(r2 X.v X.run X.n)] key)), .row (.slice DP ((apC X [(r2 X.v X.run X.n)] key).dg.length) eP) 5 1 ((apC X [(r2 X.v X.run X.n)] key).dg.length) (bv (apC X [(r2 X.v X.run X.n)] key).dg), .blk g27 45 [.int .i64 ((apC X [(r2 X.v X.run X.n)] key).v), .int .i64 ((apC X [(r2 X.v X.run X.n)] key).run), .int .i64 ((apC X [(r2 X.v X.run X.n)] key).n), .slice DP ((apC X [(r2 X.v X.run X.n)] key).dg.length) eP], .row (.slice Ak key.length ck) 5 1 key.length (bv key), .row (.slice DR1 X.dg.length eR1) 5 1 X.dg.length (bv X.dg), .blk g18 45 [.int .i64 X.v, .int .i64 X.run, .int .i64 X.n, .slice DR1 X.dg.length eR1]] ++ segP ss)) rfl ?_
     refine TL.as_ ?_
     refine TL.as_ ?_
     refine TL.end_ (TX.then_ (TC.seq_ (TC.region ?_)))
     refine TL.mv ?_
     refine TL.val rfl rfl rfl (gives_bin rfl rfl rfl (fun w => bin_eql_t (rfl) w)) ?_
     iterate 4 (first | refine TL.gu ?_ | refine TL.mv ?_)
     refine TL.val rfl rfl rfl (gives_bin rfl rfl rfl (fun w => bin_eql_t (by decide) w)) ?_
     iterate 5 (first | refine TL.gu ?_ | refine TL.mv ?_ | refine TL.pk ?_)
     refine TL.val rfl rfl rfl (gives_len rfl Tryd.underlying33 rfl) ?_
     refine TL.gu ?_
     refine TL.val rfl rfl rfl (gives_bin rfl rfl rfl (fun w => bin_eql_t (rfl) w)) ?_
     refine TL.pk ?_
     refine TL.mv ?_
     refine TL.gu ?_
     refine TL.val rfl rfl rfl (pm_loadV (k := 5) (i := 0) (n := 4) (v := .agg #[.int .i64 ((apC X [(r2 X.v X.run X.n)] key).v), .int .i64 ((apC X [(r2 X.v X.run X.n)] key).run), .int .i64 ((apC X [(r2 X.v X.run X.n)] key).n), .slice DP ((apC X [(r2 X.v X.run X.n)] key).dg.length) eP]) rfl rfl jlcag45 jlcsz45 rfl (by show 4 ≤ 4; decide) rfl) ?_
     refine TL.gu ?_
     refine TL.val rfl rfl rfl (pm_loadV (k := 0) (i := 0) (n := 4) (v := .agg #[.int .i64 ((apC X [(r2 X.v X.run X.n)] key).v), .int .i64 ((apC X [(r2 X.v X.run X.n)] key).run), .int .i64 ((apC X [(r2 X.v X.run X.n)] key).n), .slice DR4 ((apC X [(r2 X.v X.run X.n)] key).dg.length) eR4]) rfl rfl jlcag45 jlcsz45 rfl (by show 4 ≤ 4; decide) rfl) ?_
     refine TL.gu ?_
     refine TL.pcall1 (r := .bool true) rfl rfl rfl rfl rfl Tryd.func26 jlcnm26 jlcbd26 (fun w1 hw => retb_lit (decide_eq_true rfl) (samechain_any (apC X [(r2 X.v X.run X.n)] key) (apC X [(r2 X.v X.run X.n)] key) DP _ _ DR4 _ _ w1 (byt_own (hw.at_ (k := 4) rfl) hacb) (byt_own (hw.at_ (k := 2) rfl) hacb) (by omega) (by omega))) ?_
     refine TL.pk ?_
     refine TL.as_ ?_
     refine TL.end_ (TX.then_ (TC.ret_ ?_))
     exact ret_tmp Tryd.results8 rfl (fun w1 hw => ⟨rfl, hwn.bel.trans (hw.bel.mono hwn.bel.size)⟩)
end Go.Proofs.YtmeaeeehnkcblaaDoor
