/-
  Texts of the proof, joined: SymMax, JrLF.
-/
import Derived.Test.YtmeaeeehnkcblaaDoorPq1
import Derived.BigFrame
import Derived.Laws.Small
import Derived.Test.YtmeaeeehnkcblaaDoorPq5
namespace Go.Proofs.YtmeaeeehnkcblaaDoor
open Go.RowKit
set_option linter.unusedVariables false
set_option linter.unusedSimpArgs false
section
variable {P : Program} {N : Fr} {Q : Exit → Act → World → Prop} {E : Env} {ops : Array Oper} {l : List Oper} {o : Oper} {I : World → Prop}
theorem gives_max0 {x y : Operand} {ts : Array TypeId} {m : Nat} (ho : o.op = .call { callee := .builtin .max, args := #[x, y], argTypes := ts }) (hx : ev E x = some (.int .i64 0)) (hy : ev E y = some (.int .i64 (m : Int))) : Gives P N o E I (.int .i64 (m : Int)) := fun a w ha _ => by
  unfold execOp; rw [ho]
  simp only [resolve, invoke, builtin, Sem.run_bind, Sem.run_pure, Result.andThen_ok, List.map_toArray, List.map_cons, List.map_nil, ha.eval hx, ha.eval hy]
  simp [go_sem, Builtin.max_, Builtin.max2]
  try omega
theorem bin_eqb {t : TypeId} (ht : P.underlying t = some .bool) {x y : Operand} (a b : Bool) (w : World) : (do eqGuard .eql t x y (.bool a) (.bool b); binOp .eql t (.bool a) (.bool b) : Sem Value).run P w = .ok (.bool (a == b)) w := by
  have h : (eqGuard .eql t x y (.bool a) (.bool b) : Sem Unit).run P w = .ok () w := by simp [eqGuard, go_sem]
  have h2 : (binOp .eql t (.bool a) (.bool b) : Sem Value).run P w = .ok (.bool (a == b)) w := by
    have e : (Op.equalIn Op.maxDepth t (.bool a) (.bool b)).run P w = .ok (a == b) w := by
      rw [show Op.maxDepth = 9999 + 1 from rfl]
      exact run_equalIn_bool w 9999 t a b ht
    simp [binOp, Op.equal, go_sem, e]
  simp only [Sem.run_bind, h, Result.andThen_ok, h2]
end
end Go.Proofs.YtmeaeeehnkcblaaDoor

namespace Go.Proofs.YtmeaeeehnkcblaaDoor
open Go.RowKit
set_option linter.unusedVariables false
set_option linter.unusedSimpArgs false
set_option maxRecDepth 20000
theorem three_ways {p q : Prop} [Decidable p] [Decidable q] : ¬ p ∨ (p ∧ q) ∨ (p ∧ ¬ q) := by
 by_cases hp : p
 ·by_cases hq : q
  ·exact .inr (.inl ⟨hp, hq⟩)
  ·exact .inr (.inr ⟨hp, hq⟩)
 ·exact .inl hp
theorem acc_facts {c : Chn} {b key : List Int} (h : accE c b key = 0) : lenE b = 0 ∧ ¬ (b.length : Int) < lenN b ∧ ¬ (b.length : Int) > lenN b ∧ okB b ∧ sigB b key := by
 rw [accE] at h
 split at h
 ·rename_i hh; exact absurd h hh
 rename_i h0
 split at h
 ·exact absurd h (by decide)
 rename_i h1
 split at h
 ·exact absurd h (by decide)
 rename_i h2
 split at h
 ·exact absurd h (by decide)
 rename_i h3
 split at h
 ·exact absurd h (by decide)
 rename_i h4
 exact ⟨Decidable.not_not.1 h0, h1, h2, Decidable.not_not.1 h3, Decidable.not_not.1 h4⟩
theorem Pm.seg_ne {w0 : Base} {w : World} {L T : List Pc} {s : Sl} {k cb : Nat} {p : World → Prop} (h : Pm w0 L w) (n : Nat) (hT : L.drop n = T) (hk : k < n) (ha : L[k]? = some (.abs cb p)) (hm : Pc.row s.val 5 1 s.n (bv s.l) ∈ T) : ∀ ad, s.A = some ad → ad.block ≠ cb := by
 intro ad hA hb
 have hL : Pm w0 (L.take n ++ L.drop n) w := by rw [List.take_append_drop]; exact h
 have h1 := (List.pairwise_append.1 hL.apart).2.2 (.abs cb p) (List.mem_of_getElem? (i := k) (by rw [List.getElem?_take_of_lt hk]; exact ha)) _ (by rw [hT]; exact hm) cb rfl
 refine h1 ?_
 show (Value.slice s.A s.n s.c).ownBlock = some cb
 rw [hA, ← hb]
 rfl
theorem jlfnm9 : (Tryd.f9.name == "runtime.NumGoroutine") = false := by decide
theorem jlfbd9 : Tryd.f9.body.isNone = false := rfl
theorem jlfnm10 : (Tryd.f10.name == "runtime.NumGoroutine") = false := by decide
theorem jlfbd10 : Tryd.f10.body.isNone = false := rfl
theorem jlfnm20 : (Tryd.f20.name == "runtime.NumGoroutine") = false := by decide
theorem jlfbd20 : Tryd.f20.body.isNone = false := rfl
theorem jlfzv45 (w : World) : (zeroValue 45).run Tryd.prog w = .ok (.agg #[.int .i64 0, .int .i64 0, .int .i64 0, .slice none 0 0]) w := rfl
theorem jlfsz45 (w : World) : (sizeOf 45).run Tryd.prog w = .ok 4 w := rfl
theorem jlfone_i64i64i64s {a0 : Int} {a1 : Int} {a2 : Int} {a3 : Option Addr} {n3 c3 : Nat} : ∀ u ∈ [(.int .i64 a0 : Value), .int .i64 a1, .int .i64 a2, .slice a3 n3 c3], u.oneCell' = true := by
 intro u hu
 simp only [List.mem_cons, List.not_mem_nil, or_false] at hu
 rcases hu with rfl | rfl | rfl | rfl <;> rfl
theorem jlfnm21 : (Tryd.f21.name == "runtime.NumGoroutine") = false := by decide
theorem jlfbd21 : Tryd.f21.body.isNone = false := rfl
theorem jlfag45 (w : World) : (isAgg 45).run Tryd.prog w = .ok true w := rfl
theorem jlfnm23 : (Tryd.f23.name == "runtime.NumGoroutine") = false := by decide
theorem jlfbd23 : Tryd.f23.body.isNone = false := rfl
theorem jlfnm17 : (Tryd.f17.name == "runtime.NumGoroutine") = false := by decide
theorem jlfbd17 : Tryd.f17.body.isNone = false := rfl
theorem jlfnm22 : (Tryd.f22.name == "runtime.NumGoroutine") = false := by decide
theorem jlfbd22 : Tryd.f22.body.isNone = false := rfl
theorem jlfnm28 : (Tryd.f28.name == "runtime.NumGoroutine") = false := by decide
theorem jlfbd28 : Tryd.f28.body.isNone = false := rfl
theorem jlfnm29 : (Tryd.f29.name == "runtime.NumGoroutine") = false := by decide
theorem jlfbd29 : Tryd.f29.body.isNone = false := rfl
theorem jlfnm16 : (Tryd.f16.name == "runtime.NumGoroutine") = false := by decide
theorem jlfbd16 : Tryd.f16.body.isNone = false := rfl
theorem jlfnm30 : (Tryd.f30.name == "runtime.NumGoroutine") = false := by decide
theorem jlfbd30 : Tryd.f30.body.isNone = false := rfl
set_option maxHeartbeats 4000000 in
set_option maxRecDepth 100000 in
theorem journalForged_walk (A0 : Option Addr) (n0 c0 : Nat) (l0 : List Int) (A1 : Option Addr) (n1 c1 : Nat) (other : List Int) (w : World) (hb0 : Byt w w.heap.size A0 n0 l0) (hnc0 : n0 ≤ c0) (hm0 : c0 ≤ maxLen) (hb1 : Byt w w.heap.size A1 n1 other) (hnc1 : n1 ≤ c1) (hm1 : c1 ≤ maxLen) {ts tk : TypeId} (hst : Blk w 0 ts start8.cells) (hky : Blk w 1 tk (arrOf keysL)) :
  Calls Tryd.prog 5 #[.slice A0 n0 c0, .slice A1 n1 c1] w fun e w' => e = .returned (.bool true) ∧ Below w.heap.size w w' := by
 refine begin_ (vs := [.slice A0 n0 c0, .slice A1 n1 c1]) Tryd.func5 rfl rfl rfl ?_ (Pm.start w)
 refine TC.seq_ (TC.region ?_)
 refine TL.as_ ?_
 refine TL.end_ (TX.then_ (TC.seq_ (TC.seq_ (TC.region ?_))))
 refine TL.pcall1 (r := .bool true) rfl rfl rfl rfl rfl Tryd.func9 jlfnm9 jlfbd9 (fun w1 hw => awake_any w1 (hst.below hw.bel hst.lt) (hky.below hw.bel hky.lt)) ?_
 iterate 5 (first | refine TL.gu ?_ | refine TL.mv ?_ | refine TL.val rfl rfl rfl (gives_boolnot rfl rfl) ?_)
 refine TL.val rfl rfl rfl (gives_len rfl Tryd.underlying28 rfl) ?_
 refine TL.gu ?_
 refine TL.vsplit rfl rfl rfl (gives_bin rfl rfl rfl (fun w => bin_gtr w)) (fun h27 => ?_) (fun h27 => ?_)
 ·have q27 := of_decide_eq_true h27
  refine TL.pk ?_
  refine TL.end_ (TX.then_ (TC.condT rfl (TC.seq_ (TC.region ?_))))
  refine TL.mv ?_
  refine TL.val rfl rfl rfl (gives_len rfl Tryd.underlying28 rfl) ?_
  refine TL.val rfl rfl rfl (gives_bin rfl rfl rfl (fun w => bin_gtr_t (by omega) w)) ?_
  refine TL.as_ ?_
  refine TL.end_ (TX.then_ (TC.ret_ (TX.then_ret ?_)))
  exact ret_tmp Tryd.results5 rfl (fun w1 hw => ⟨rfl, hw.bel⟩)
 ·have q27 := of_decide_eq_false h27
  have hn1o : n1 ≤ 100 := by omega
  refine TL.pk ?_
  refine TL.end_ (TX.then_ (TC.condF rfl (TC.skip_ (TX.then_ (TC.seq_ (TC.region ?_))))))
  refine TL.mv ?_
  refine TL.callNew (I := Pm w []) (p := fun cb w => Cod w cb) rfl rfl rfl rfl rfl Tryd.func10 jlfnm10 jlfbd10 (fun w1 hw => (new_any A0 n0 c0 l0 w1 400 ((hb0.below hw.bel).more hw.bel.size) hnc0 (by have := hm0; unfold maxLen at this; omega) (by decide) (by decide)).mono fun e w2 ⟨h1, h2, h3, _⟩ => ⟨h1, h2, cod_cells h2, h3⟩) cod_stab (fun wn hwn => ?_)
  replace hst := hst.below hwn.bel hst.lt
  replace hky := hky.below hwn.bel hky.lt
  have hb1n := (hb1.below hwn.bel).more hwn.bel.size
  refine TL.as_ ?_
  refine TL.end_ (TX.then_ (TC.seq_ (TC.region ?_)))
  refine TL.mv ?_
  refine TL.pcallCod (k := 0) (α := {b : Bk // BkI b ∧ b.ss.length ≤ 5}) (fun y => bookV y.1) (fun y => bookL y.1 ++ segP y.1.ss) rfl rfl rfl rfl rfl Tryd.func20 jlfnm20 jlfbd20 rfl (fun w1 hw hC1 => book_cod wn.heap.size w1 hC1) ?_ (fun y => noAbs_app rfl (segP_noAbs _))
  rintro ⟨⟨As, cs, ss, Aa, ca, all, Ad, cd, ch, Ak, ck, key⟩, hB, hss⟩
  dsimp only [bookV] at hB hss ⊢
  refine TL.mem (I' := Pm wn ([.row (.slice As ss.length cs) 28 1 ss.length (ss.map Sl.val), .row (.slice Aa all.length ca) 27 17 all.length (rcs all), .row (.slice Ad ch.dg.length cd) 5 1 ch.dg.length (bv ch.dg), .row (.slice Ak key.length ck) 5 1 key.length (bv key), .abs wn.heap.size (fun w => Cod w wn.heap.size)] ++ segP ss)) (fun w1 hw => hw.perm (perm3 _ _ _)) ?_
  have hj := hB.jr
  obtain ⟨ls, hls⟩ : ∃ ls, ss.map (fun s => s.l) = ls := ⟨_, rfl⟩
  dsimp only at hj
  rw [hls] at hj
  have hJ := jrn_inv hj
  have hf := jrn_fold hj
  have hsg := jrn_seg hj
  have hso : ∀ s ∈ ss, SlOk s := hB.so
  have hlen : ls.length = ss.length := by rw [← hls, List.length_map]
  have hpos : 0 < ss.length := by have := jrn_pos hj; omega
  have hal : all.length + 4 ≤ 4 * ss.length := hB.al
  have hk8 : key.length ≤ 8 := hB.k8
  refine TL.fact (p := ∃ g, As = some ⟨g, 0, none⟩) (fun w1 hw => row_some (hw.at_ (k := 0) rfl) hpos) (fun hg => ?_)
  obtain ⟨gS, rfl⟩ := hg
  iterate 5 (first | refine TL.ex ?_ | refine TL.mv ?_)
  refine TL.pnew rfl rfl rfl (exec_alloc (cs := [.int .i64 0, .int .i64 0, .int .i64 0, .slice none 0 0]) rfl jlfzv45 rfl) (fun g8 => ?_)
  refine TL.as_ ?_
  refine TL.as_ ?_
  refine TL.pstore (k := 0) (vs := [.int .i64 ch.v, .int .i64 ch.run, .int .i64 ch.n, .slice Ad ch.dg.length cd]) rfl rfl rfl rfl rfl rfl rfl jlfsz45 jlfone_i64i64i64s (by show 4 ≤ 4; decide) (L' := ([.blk g8 45 [.int .i64 ch.v, .int .i64 ch.run, .int .i64 ch.n, .slice Ad ch.dg.length cd], .row (.slice (some ⟨gS, 0, none⟩) ss.length cs) 28 1 ss.length (ss.map Sl.val), .row (.slice Aa all.length ca) 27 17 all.length (rcs all), .row (.slice Ad ch.dg.length cd) 5 1 ch.dg.length (bv ch.dg), .row (.slice Ak key.length ck) 5 1 key.length (bv key), .abs wn.heap.size (fun w => Cod w wn.heap.size)] ++ segP ss)) rfl ?_
  refine TL.as_ ?_
  refine TL.end_ (TX.then_ (TC.seq_ (TC.region ?_)))
  refine TL.pnew rfl rfl rfl (exec_alloc (cs := [.int .i64 0, .int .i64 0, .int .i64 0, .slice none 0 0]) rfl jlfzv45 rfl) (fun g10 => ?_)
  refine TL.end_ (TX.then_ (TC.seq_ (TC.region ?_)))
  refine TL.mv ?_
  refine TL.mv ?_
  refine TL.val rfl rfl rfl (gives_len rfl Tryd.underlying40 rfl) ?_
  refine TL.pcallCod (k := 6) (α := {x : Nat // x ≤ 65535 ∧ (1 ≤ ((ss.length : Nat) : Int) → (x : Int) < (ss.length : Nat))}) (fun y => .int .i64 (y.1 : Int)) (fun y => []) rfl rfl rfl rfl rfl Tryd.func21 jlfnm21 jlfbd21 rfl (fun w1 hw hC1 => next_cod wn.heap.size w1 (ss.length : Nat) hC1) ?_
  rintro ⟨x44, hx441, hx442⟩
  dsimp only [List.cons_append, List.nil_append] at hx441 hx442 ⊢
  replace hx442 := hx442 (by omega)
  refine TL.as_ ?_
  refine TL.end_ (TX.then_ (TC.seq_ (TC.seq_ (TC.region ?_))))
  refine TL.as_ ?_
  refine TL.end_ (TX.then_ (TC.block ?_))
  refine TC.nilrow 5 1 ?_
  refine TC.loop_ (α := {y : (Nat × Chn) × (Option Addr × Nat) // y.1.1 ≤ x44 ∧ (foldS key (ls.take y.1.1)).1 = y.1.2 ∧ y.1.2.dg.length ≤ y.2.2 ∧ y.2.2 ≤ maxLen}) (fun y => [(1, .slice A1 n1 c1), (5, .pointer (some ⟨wn.heap.size, 0, none⟩)), (6, .slice (some ⟨gS, 0, none⟩) ss.length cs), (9, .slice Ak key.length ck), (10, .pointer (some ⟨g10, 0, none⟩)), (11, .int .i64 (x44 : Nat)), (12, .int .i64 (y.1.1.1 : Nat))]) (fun y => Pm wn ([.row (.slice (some ⟨gS, 0, none⟩) ss.length cs) 28 1 ss.length (ss.map Sl.val), .row (.slice Aa all.length ca) 27 17 all.length (rcs all), .row (.slice Ad ch.dg.length cd) 5 1 ch.dg.length (bv ch.dg), .row (.slice Ak key.length ck) 5 1 key.length (bv key), .abs wn.heap.size (fun w => Cod w wn.heap.size), .row (.slice y.1.2.1 y.1.1.2.dg.length y.1.2.2) 5 1 y.1.1.2.dg.length (bv y.1.1.2.dg), .blk g10 45 [.int .i64 y.1.1.2.v, .int .i64 y.1.1.2.run, .int .i64 y.1.1.2.n, .slice y.1.2.1 y.1.1.2.dg.length y.1.2.2]] ++ segP ss)) (fun y => x44 - y.1.1.1) (⟨((0, Chn.zero), (none, 0)), Nat.zero_le _, rfl, Nat.le_refl _, Nat.zero_le _⟩) ⟨rfl, rfl, rfl, rfl, rfl, rfl, rfl, trivial⟩ (fun w1 hw => hw.pickT 8 [3, 4, 5, 6, 7, 0, 1] (by decide) (by decide) rfl rfl) ?_
  rintro ⟨⟨⟨i, c⟩, ⟨A2, c2⟩⟩, hi, hfo, hd1, hd2⟩
  dsimp only at hi hfo hd1 hd2 ⊢
  obtain ⟨hi1, hi2_, hi3, hi4, hi5⟩ := fold_inv hf.2 hsg i (by omega)
  rw [hfo] at hi1 hi2_ hi3 hi4
  refine TC.seq_ (TC.seq_ (TC.region ?_))
  refine TL.mv ?_
  refine TL.mv ?_
  refine TL.vsplit rfl rfl rfl (gives_bin rfl rfl rfl (fun w => bin_lss w)) (fun h47 => ?_) (fun h47 => ?_)
  ·have q47 := of_decide_eq_true h47
   have hi2 : i < ss.length := by omega
   obtain ⟨s, hs_s⟩ : ∃ s, ss[i]? = some s := ⟨_, List.getElem?_eq_getElem (by omega)⟩
   have hm_s := List.mem_of_getElem? hs_s
   have hso_s := hso s hm_s
   have hsc_s : (ss.map Sl.val)[0 + i * 1]? = some s.val := by rw [Nat.zero_add, Nat.mul_one, List.getElem?_map, hs_s]; rfl
   have hsl_s : ls[i]? = some s.l := by rw [← hls, List.getElem?_map, hs_s]; rfl
   have ha0 : accE c s.l key = 0 := by have := hf.2 i s.l hsl_s; rw [hfo] at this; exact this
   refine TL.end_ (TX.then_ (TC.condT rfl (TC.skip_ (TX.then_ (TC.seq_ (TC.block ?_))))))
   refine TC.held (ls := #[Ff,Ff,Ff,Ff,Ff,Ff,Ff,Ff,Ff,Ff,Ff,Ff]) (Pm wn [.row (.slice (some ⟨gS, 0, none⟩) ss.length cs) 28 1 ss.length (ss.map Sl.val)]) (by kernel_rfl) rfl rfl (fun w hw => hw.drawn _) ?_
   refine TH.tk (listed' := #[Ff,Tt,Ff,Ff,Ff,Ff,Ff,Ff,Ff,Ff,Ff,Ff]) 1 rfl rfl rfl (gives_move rfl rfl) (fun w1 hw => hw.pick [0] (by decide) rfl) ?_
   refine TH.tk (listed' := #[Ff,Tt,Tt,Ff,Ff,Ff,Ff,Ff,Ff,Ff,Ff,Ff]) 2 rfl rfl rfl (gives_move rfl rfl) (fun w1 hw => hw.pick [0] (by decide) rfl) ?_
   refine TH.tk (listed' := #[Ff,Tt,Tt,Tt,Ff,Ff,Ff,Ff,Ff,Ff,Ff,Ff]) 3 rfl rfl rfl (gives_at (v := .pointer (some ⟨gS, 0 + i * 1, none⟩)) rfl rfl rfl (fun w => at_el Tryd.underlying40 (fun w => rfl) rfl ss.length cs i hi2 rfl w)) (fun w1 hw => hw.pick [0] (by decide) rfl) ?_
   refine TH.tk (listed' := #[Ff,Tt,Tt,Tt,Tt,Ff,Ff,Ff,Ff,Ff,Ff,Ff]) 4 rfl rfl rfl (pm_loadRow (k := 0) (v := s.val) rfl rfl (fun w => rfl) rfl hsc_s) (fun w1 hw => hw.pick [0] (by decide) rfl) ?_
   refine TH.tk (listed' := #[Ff,Tt,Tt,Tt,Tt,Tt,Ff,Ff,Ff,Ff,Ff,Ff]) 5 rfl rfl rfl (gives_move rfl rfl) (fun w1 hw => hw.pick [0] (by decide) rfl) ?_
   refine TH.only' (listed' := #[Tt,Tt,Tt,Tt,Tt,Tt,Ff,Ff,Ff,Ff,Ff,Ff]) 0 rfl (by kernel_rfl) rfl ?_
   refine TL.val rfl rfl rfl (pm_loadV (k := 6) (i := 0) (n := 4) (v := .agg #[.int .i64 c.v, .int .i64 c.run, .int .i64 c.n, .slice A2 c.dg.length c2]) rfl rfl jlfag45 jlfsz45 rfl (by show 4 ≤ 4; decide) rfl) ?_
   refine TL.end_ ?_
   refine TX.held (fun w1 hw => hw.pick [0] (by decide) rfl) ?_
   refine TH.only' (listed' := #[Tt,Tt,Tt,Tt,Tt,Tt,Tt,Ff,Ff,Ff,Ff,Ff]) 6 rfl (by kernel_rfl) rfl ?_
   refine TL.pcallPm (α := AccY (accC c s.l key) (accL c s.l key)) (fun y => .tuple #[.agg #[.int .i64 ((accC c s.l key).v), .int .i64 ((accC c s.l key).run), .int .i64 ((accC c s.l key).n), .slice y.1.2.1 ((accC c s.l key).dg.length) y.1.2.2], .slice y.1.1.1 ((accL c s.l key).length) y.1.1.2, .int .i64 0]) (fun y => [.row (.slice y.1.1.1 ((accL c s.l key).length) y.1.1.2) 27 17 ((accL c s.l key).length) (rcs (accL c s.l key)), .row (.slice y.1.2.1 ((accC c s.l key).dg.length) y.1.2.2) 5 1 ((accC c s.l key).dg.length) (bv (accC c s.l key).dg)]) rfl rfl rfl rfl rfl Tryd.func23 jlfnm23 jlfbd23 (fun w1 hw => (raccept_any A2 _ c2 c s.A s.n s.c s.l Ak _ ck key w1 (byt_own (hw.at_ (k := 5) rfl) hi4) (hw.seg 7 rfl (segP_mem hm_s) hso_s.2.2.2.1) (byt_own (hw.at_ (k := 3) rfl) hB.kb) hso_s.2.1 (by have := hso_s.2.2.2.2.2; omega) (by omega) (by omega) (by omega) (by omega)).mono fun e w2 h => by rw [ha0] at h; exact h.use) ?_
   rintro ⟨⟨⟨AR, cR⟩, ⟨DR, eR⟩⟩, ⟨hAR1, hAR2⟩, ⟨hDR1, hDR2⟩⟩
   dsimp only [List.cons_append, List.nil_append]
   dsimp only at hAR1 hAR2 hDR1 hDR2
   refine TL.end_ ?_
   refine TX.held (fun w1 hw => hw.pick [2] (by decide) rfl) ?_
   refine TH.tk (listed' := #[Tt,Tt,Tt,Tt,Tt,Tt,Tt,Tt,Ff,Ff,Ff,Ff]) 7 rfl rfl rfl (gives_move rfl rfl) (fun w1 hw => hw.pick [2] (by decide) rfl) ?_
   refine TH.tk (listed' := #[Tt,Tt,Tt,Tt,Tt,Tt,Tt,Tt,Tt,Ff,Ff,Ff]) 8 rfl rfl rfl (gives_extract rfl rfl rfl) (fun w1 hw => hw.pick [2] (by decide) rfl) ?_
   refine TH.tk (listed' := #[Tt,Tt,Tt,Tt,Tt,Tt,Tt,Tt,Tt,Tt,Ff,Ff]) 9 rfl rfl rfl (gives_extract rfl rfl rfl) (fun w1 hw => hw.pick [2] (by decide) rfl) ?_
   refine TH.tk (listed' := #[Tt,Tt,Tt,Tt,Tt,Tt,Tt,Tt,Tt,Tt,Tt,Ff]) 10 rfl rfl rfl (gives_extract rfl rfl rfl) (fun w1 hw => hw.pick [2] (by decide) rfl) ?_
   refine TH.only' (listed' := #[Tt,Tt,Tt,Tt,Tt,Tt,Tt,Tt,Tt,Tt,Tt,Tt]) 11 rfl (by kernel_rfl) rfl ?_
   refine TL.pstore (k := 8) (vs := [.int .i64 ((accC c s.l key).v), .int .i64 ((accC c s.l key).run), .int .i64 ((accC c s.l key).n), .slice DR ((accC c s.l key).dg.length) eR]) rfl rfl rfl rfl rfl rfl rfl jlfsz45 jlfone_i64i64i64s (by show 4 ≤ 4; decide) (L' := ([.row (.slice AR ((accL c s.l key).length) cR) 27 17 ((accL c s.l key).length) (rcs (accL c s.l key)), .row (.slice DR ((accC c s.l key).dg.length) eR) 5 1 ((accC c s.l key).dg.length) (bv (accC c s.l key).dg), .row (.slice (some ⟨gS, 0, none⟩) ss.length cs) 28 1 ss.length (ss.map Sl.val), .row (.slice Aa all.length ca) 27 17 all.length (rcs all), .row (.slice Ad ch.dg.length cd) 5 1 ch.dg.length (bv ch.dg), .row (.slice Ak key.length ck) 5 1 key.length (bv key), .abs wn.heap.size (fun w => Cod w wn.heap.size), .row (.slice A2 c.dg.length c2) 5 1 c.dg.length (bv c.dg), .blk g10 45 [.int .i64 ((accC c s.l key).v), .int .i64 ((accC c s.l key).run), .int .i64 ((accC c s.l key).n), .slice DR ((accC c s.l key).dg.length) eR]] ++ segP ss)) rfl ?_
   refine TL.end_ ?_
   refine TX.held (fun w1 hw => hw.pick [2] (by decide) rfl) ?_
   refine TH.done (by kernel_rfl) ?_
   refine TX.in_normal (TX.then_ (TC.region ?_))
   refine TL.mv ?_
   refine TL.val rfl rfl rfl (gives_bin rfl rfl rfl (fun w => bin_add_ (r := ((i + 1 : Nat) : Int)) (by simp only [IntKind.wrap_i64]; omega) w)) ?_
   refine TL.as_ ?_
   refine TL.end_ ?_
   exact TX.round (⟨((i + 1, (accC c s.l key)), (DR, eR)), by show i + 1 ≤ x44; omega, by rw [fold_take hsl_s]; show accC (foldS key (ls.take i)).1 s.l key = _; rw [hfo], hDR1, hDR2⟩) (by show x44 - (i + 1) < x44 - i; omega) ⟨rfl, rfl, rfl, rfl, rfl, rfl, rfl, trivial⟩ (fun w1 hw => (show Pm wn ([.row (.slice (some ⟨gS, 0, none⟩) ss.length cs) 28 1 ss.length (ss.map Sl.val), .row (.slice Aa all.length ca) 27 17 all.length (rcs all), .row (.slice Ad ch.dg.length cd) 5 1 ch.dg.length (bv ch.dg), .row (.slice Ak key.length ck) 5 1 key.length (bv key), .abs wn.heap.size (fun w => Cod w wn.heap.size), .row (.slice DR ((accC c s.l key).dg.length) eR) 5 1 ((accC c s.l key).dg.length) (bv (accC c s.l key).dg), .blk g10 45 [.int .i64 ((accC c s.l key).v), .int .i64 ((accC c s.l key).run), .int .i64 ((accC c s.l key).n), .slice DR ((accC c s.l key).dg.length) eR]] ++ segP ss) w1 from hw.pickT 9 [2, 3, 4, 5, 6, 1, 8] (by decide) (by decide) rfl rfl))
  ·have q47 := of_decide_eq_false h47
   have hix : i = x44 := by omega
   have hx44b : x44 < ss.length := by omega
   obtain ⟨t, hs_t⟩ : ∃ s, ss[x44]? = some s := ⟨_, List.getElem?_eq_getElem (by omega)⟩
   have hm_t := List.mem_of_getElem? hs_t
   have hso_t := hso t hm_t
   have hsc_t : (ss.map Sl.val)[0 + x44 * 1]? = some t.val := by rw [Nat.zero_add, Nat.mul_one, List.getElem?_map, hs_t]; rfl
   have hsl_t : ls[x44]? = some t.l := by rw [← hls, List.getElem?_map, hs_t]; rfl
   have hat : accE c t.l key = 0 := by have := hf.2 x44 t.l hsl_t; rw [← hix, hfo] at this; exact this
   have hkt := acc_facts hat
   obtain ⟨mt, hmt0⟩ : ∃ mt, t.n = mt + 32 := ⟨t.n - 32, by have := hso_t.2.2.2.2.1; omega⟩
   have hmt : t.l.length - 32 = mt := by have := hso_t.1; omega
   have htn : t.n ≤ 300 := hso_t.2.2.2.2.2
   have htl : t.l.length = t.n := hso_t.1
   have htc : t.n ≤ t.c := hso_t.2.1
   refine TL.end_ (TX.then_ (TC.condF rfl (TC.exit_ (TX.then_exit (TX.then_exit (TX.in_same (TX.then_ (TC.seq_ (TC.region ?_)))))))))
   refine TL.mv ?_
   refine TL.mv ?_
   refine TL.mv ?_
   refine TL.val rfl rfl rfl (gives_at (v := .pointer (some ⟨gS, 0 + x44 * 1, none⟩)) rfl rfl rfl (fun w => at_el Tryd.underlying40 (fun w => rfl) rfl ss.length cs x44 hx44b rfl w)) ?_
   refine TL.val rfl rfl rfl (pm_loadRow (k := 0) (v := t.val) rfl rfl (fun w => rfl) rfl hsc_t) ?_
   refine TL.pcallCod (k := 4) (α := {s : Sl // s.n ≤ s.c ∧ s.c ≤ maxLen ∧ s.n ≤ 301 ∧ Bs s.l}) (fun y => .slice y.1.A y.1.n y.1.c) (fun y => [.row (.slice y.1.A y.1.n y.1.c) 5 1 y.1.n (bv y.1.l)]) rfl rfl rfl rfl rfl Tryd.func17 jlfnm17 jlfbd17 rfl (fun w1 hw hC1 => (spoilt_cod wn.heap.size w1 t.A t.n t.c t.l hC1 (hw.seg 7 rfl (segP_mem hm_t) hso_t.2.2.2.1) (hw.seg_ne (k := 4) 7 rfl (by decide) rfl (segP_mem hm_t)) hso_t.2.1 (by have := hso_t.2.2.2.2.2; omega)).mono fun e w3 ⟨A', m, c', l', h1, h2, h3, h4, h5, h6⟩ => ⟨⟨⟨A', m, c', l'⟩, h2, h3, by have := hso_t.2.2.2.2.2; dsimp only; omega, h5⟩, h1, h6⟩) ?_
   rintro ⟨⟨A5, m5, c5, l5⟩, hm51, hm52, hm53, hm54⟩
   dsimp only [List.cons_append, List.nil_append] at hm51 hm52 hm53 hm54 ⊢
   refine TL.fact (p := l5.length = m5) (fun w1 hw => by have := (hw.at_ (k := 0) rfl).1; simpa [bv_len] using this) (fun hl5 => ?_)
   refine TL.as_ ?_
   refine TL.end_ (TX.then_ (TC.seq_ (TC.region ?_)))
   refine TL.val rfl rfl rfl (pm_loadV (k := 7) (i := 0) (n := 4) (v := .agg #[.int .i64 c.v, .int .i64 c.run, .int .i64 c.n, .slice A2 c.dg.length c2]) rfl rfl jlfag45 jlfsz45 rfl (by show 4 ≤ 4; decide) rfl) ?_
   refine TL.mv ?_
   refine TL.mv ?_
   refine TL.pcallPm (α := AccY (accC c l5 key) (accL c l5 key)) (fun y => .tuple #[.agg #[.int .i64 ((accC c l5 key).v), .int .i64 ((accC c l5 key).run), .int .i64 ((accC c l5 key).n), .slice y.1.2.1 ((accC c l5 key).dg.length) y.1.2.2], .slice y.1.1.1 ((accL c l5 key).length) y.1.1.2, .int .i64 (accE c l5 key)]) (fun y => [.row (.slice y.1.1.1 ((accL c l5 key).length) y.1.1.2) 27 17 ((accL c l5 key).length) (rcs (accL c l5 key)), .row (.slice y.1.2.1 ((accC c l5 key).dg.length) y.1.2.2) 5 1 ((accC c l5 key).dg.length) (bv (accC c l5 key).dg)]) rfl rfl rfl rfl rfl Tryd.func22 jlfnm22 jlfbd22 (fun w1 hw => (accept_any A2 _ c2 c A5 m5 c5 l5 Ak _ ck key w1 (byt_own (hw.at_ (k := 6) rfl) hi4) (byt_own (hw.at_ (k := 0) rfl) hm54) (byt_own (hw.at_ (k := 4) rfl) hB.kb) hm51 (by omega) (by omega) (by omega) (by omega) (hst.below hw.bel hst.lt) (hky.below hw.bel hky.lt)).mono fun e w2 h => h.use) ?_
   rintro ⟨⟨⟨AR1, cR1⟩, ⟨DR1, eR1⟩⟩, ⟨hAR11, hAR12⟩, ⟨hDR11, hDR12⟩⟩
   dsimp only [List.cons_append, List.nil_append]
   dsimp only at hAR11 hAR12 hDR11 hDR12
   iterate 4 (first | refine TL.ex ?_ | refine TL.mv ?_)
   refine TL.pnew rfl rfl rfl (exec_alloc (cs := [.int .i64 0, .int .i64 0, .int .i64 0, .slice none 0 0]) rfl jlfzv45 rfl) (fun g14 => ?_)
   refine TL.pstore (k := 0) (vs := [.int .i64 ((accC c l5 key).v), .int .i64 ((accC c l5 key).run), .int .i64 ((accC c l5 key).n), .slice DR1 ((accC c l5 key).dg.length) eR1]) rfl rfl rfl rfl rfl rfl rfl jlfsz45 jlfone_i64i64i64s (by show 4 ≤ 4; decide) (L' := ([.blk g14 45 [.int .i64 ((accC c l5 key).v), .int .i64 ((accC c l5 key).run), .int .i64 ((accC c l5 key).n), .slice DR1 ((accC c l5 key).dg.length) eR1], .row (.slice AR1 ((accL c l5 key).length) cR1) 27 17 ((accL c l5 key).length) (rcs (accL c l5 key)), .row (.slice DR1 ((accC c l5 key).dg.length) eR1) 5 1 ((accC c l5 key).dg.length) (bv (accC c l5 key).dg), .row (.slice A5 m5 c5) 5 1 m5 (bv l5), .row (.slice (some ⟨gS, 0, none⟩) ss.length cs) 28 1 ss.length (ss.map Sl.val), .row (.slice Aa all.length ca) 27 17 all.length (rcs all), .row (.slice Ad ch.dg.length cd) 5 1 ch.dg.length (bv ch.dg), .row (.slice Ak key.length ck) 5 1 key.length (bv key), .abs wn.heap.size (fun w => Cod w wn.heap.size), .row (.slice A2 c.dg.length c2) 5 1 c.dg.length (bv c.dg), .blk g10 45 [.int .i64 c.v, .int .i64 c.run, .int .i64 c.n, .slice A2 c.dg.length c2]] ++ segP ss)) rfl ?_
   refine TL.as_ ?_
   refine TL.as_ ?_
   refine TL.end_ (TX.then_ (TC.seq_ ?_))
   refine TC.join (α := Unit) (fun y => [(1, .slice A1 n1 c1), (5, .pointer (some ⟨wn.heap.size, 0, none⟩)), (6, .slice (some ⟨gS, 0, none⟩) ss.length cs), (10, .pointer (some ⟨g10, 0, none⟩)), (11, .int .i64 (x44 : Nat)), (103, .bool false)]) (fun y => Pm wn ([.row (.slice (some ⟨gS, 0, none⟩) ss.length cs) 28 1 ss.length (ss.map Sl.val), .row (.slice A2 c.dg.length c2) 5 1 c.dg.length (bv c.dg), .blk g10 45 [.int .i64 c.v, .int .i64 c.run, .int .i64 c.n, .slice A2 c.dg.length c2]] ++ segP ss)) ?_ ?_
   ·rcases (three_ways : ¬ accE c l5 key = 0 ∨ (accE c l5 key = 0 ∧ l5 = t.l) ∨ (accE c l5 key = 0 ∧ ¬ l5 = t.l)) with p1 | ⟨p1, p2⟩ | ⟨p1, p2⟩
    ·refine TC.held (ls := #[Ff,Ff,Ff,Ff,Ff,Ff,Ff,Ff,Ff,Ff,Ff,Ff,Ff,Ff,Ff,Ff,Ff,Ff,Ff,Ff,Ff,Ff,Ff,Ff,Ff,Ff,Ff,Ff,Ff]) (Pm wn [.row (.slice (some ⟨gS, 0, none⟩) ss.length cs) 28 1 ss.length (ss.map Sl.val)]) (by kernel_rfl) rfl rfl (fun w hw => hw.drawn _) ?_
     refine TH.tk (listed' := #[Tt,Ff,Ff,Ff,Ff,Ff,Ff,Ff,Ff,Ff,Ff,Ff,Ff,Ff,Ff,Ff,Ff,Ff,Ff,Ff,Ff,Ff,Ff,Ff,Ff,Ff,Ff,Ff,Ff]) 0 rfl rfl rfl (gives_move rfl rfl) (fun w1 hw => hw.pick [4] (by decide) rfl) ?_
     refine TH.tk (listed' := #[Tt,Tt,Ff,Ff,Ff,Ff,Ff,Ff,Ff,Ff,Ff,Ff,Ff,Ff,Ff,Ff,Ff,Ff,Ff,Ff,Ff,Ff,Ff,Ff,Ff,Ff,Ff,Ff,Ff]) 1 rfl rfl rfl (gives_bin rfl rfl rfl (fun w => bin_eql_f (p1) w)) (fun w1 hw => hw.pick [4] (by decide) rfl) ?_
     refine TH.tk (listed' := #[Tt,Tt,Tt,Ff,Ff,Ff,Ff,Ff,Ff,Ff,Ff,Ff,Ff,Ff,Ff,Ff,Ff,Ff,Ff,Ff,Ff,Ff,Ff,Ff,Ff,Ff,Ff,Ff,Ff]) 2 rfl rfl rfl (gives_move rfl rfl) (fun w1 hw => hw.pick [4] (by decide) rfl) ?_
     refine TH.off (listed' := #[Tt,Tt,Tt,Tt,Ff,Ff,Ff,Ff,Ff,Ff,Ff,Ff,Ff,Ff,Ff,Ff,Ff,Ff,Ff,Ff,Ff,Ff,Ff,Ff,Ff,Ff,Ff,Ff,Ff]) 3 rfl (by kernel_rfl) (by kernel_rfl) (by kernel_rfl) rfl rfl rfl rfl rfl rfl rfl (fun w1 hw => hw.pick [4] (by decide) rfl) ?_
     refine TH.off (listed' := #[Tt,Tt,Tt,Tt,Tt,Ff,Ff,Ff,Ff,Ff,Ff,Ff,Ff,Ff,Ff,Ff,Ff,Ff,Ff,Ff,Ff,Ff,Ff,Ff,Ff,Ff,Ff,Ff,Ff]) 4 rfl (by kernel_rfl) (by kernel_rfl) (by kernel_rfl) rfl rfl rfl rfl rfl rfl rfl (fun w1 hw => hw.pick [4] (by decide) rfl) ?_
     refine TH.off (listed' := #[Tt,Tt,Tt,Tt,Tt,Tt,Ff,Ff,Ff,Ff,Ff,Ff,Ff,Ff,Ff,Ff,Ff,Ff,Ff,Ff,Ff,Ff,Ff,Ff,Ff,Ff,Ff,Ff,Ff]) 5 rfl (by kernel_rfl) (by kernel_rfl) (by kernel_rfl) rfl rfl rfl rfl rfl rfl rfl (fun w1 hw => hw.pick [4] (by decide) rfl) ?_
     refine TH.off (listed' := #[Tt,Tt,Tt,Tt,Tt,Tt,Tt,Ff,Ff,Ff,Ff,Ff,Ff,Ff,Ff,Ff,Ff,Ff,Ff,Ff,Ff,Ff,Ff,Ff,Ff,Ff,Ff,Ff,Ff]) 6 rfl (by kernel_rfl) (by kernel_rfl) (by kernel_rfl) rfl rfl rfl rfl rfl rfl rfl (fun w1 hw => hw.pick [4] (by decide) rfl) ?_
     refine TH.off (listed' := #[Tt,Tt,Tt,Tt,Tt,Tt,Tt,Tt,Ff,Ff,Ff,Ff,Ff,Ff,Ff,Ff,Ff,Ff,Ff,Ff,Ff,Ff,Ff,Ff,Ff,Ff,Ff,Ff,Ff]) 7 rfl (by kernel_rfl) (by kernel_rfl) (by kernel_rfl) rfl rfl rfl rfl rfl rfl rfl (fun w1 hw => hw.pick [4] (by decide) rfl) ?_
     refine TH.off (listed' := #[Tt,Tt,Tt,Tt,Tt,Tt,Tt,Tt,Tt,Ff,Ff,Ff,Ff,Ff,Ff,Ff,Ff,Ff,Ff,Ff,Ff,Ff,Ff,Ff,Ff,Ff,Ff,Ff,Ff]) 8 rfl (by kernel_rfl) (by kernel_rfl) (by kernel_rfl) rfl rfl rfl rfl rfl rfl rfl (fun w1 hw => hw.pick [4] (by decide) rfl) ?_
     refine TH.off (listed' := #[Tt,Tt,Tt,Tt,Tt,Tt,Tt,Tt,Tt,Tt,Ff,Ff,Ff,Ff,Ff,Ff,Ff,Ff,Ff,Ff,Ff,Ff,Ff,Ff,Ff,Ff,Ff,Ff,Ff]) 9 rfl (by kernel_rfl) (by kernel_rfl) (by kernel_rfl) rfl rfl rfl rfl rfl rfl rfl (fun w1 hw => hw.pick [4] (by decide) rfl) ?_
     refine TH.tk (listed' := #[Tt,Tt,Tt,Tt,Tt,Tt,Tt,Tt,Tt,Tt,Tt,Ff,Ff,Ff,Ff,Ff,Ff,Ff,Ff,Ff,Ff,Ff,Ff,Ff,Ff,Ff,Ff,Ff,Ff]) 10 rfl rfl rfl (gives_pick rfl rfl rfl) (fun w1 hw => hw.pick [4] (by decide) rfl) ?_
     refine TH.tk (listed' := #[Tt,Tt,Tt,Tt,Tt,Tt,Tt,Tt,Tt,Tt,Tt,Tt,Ff,Ff,Ff,Ff,Ff,Ff,Ff,Ff,Ff,Ff,Ff,Ff,Ff,Ff,Ff,Ff,Ff]) 11 rfl rfl rfl (gives_move rfl rfl) (fun w1 hw => hw.pick [4] (by decide) rfl) ?_
     refine TH.off (listed' := #[Tt,Tt,Tt,Tt,Tt,Tt,Tt,Tt,Tt,Tt,Tt,Tt,Tt,Ff,Ff,Ff,Ff,Ff,Ff,Ff,Ff,Ff,Ff,Ff,Ff,Ff,Ff,Ff,Ff]) 12 rfl (by kernel_rfl) (by kernel_rfl) (by kernel_rfl) rfl rfl rfl rfl rfl rfl rfl (fun w1 hw => hw.pick [4] (by decide) rfl) ?_
     refine TH.off (listed' := #[Tt,Tt,Tt,Tt,Tt,Tt,Tt,Tt,Tt,Tt,Tt,Tt,Tt,Tt,Ff,Ff,Ff,Ff,Ff,Ff,Ff,Ff,Ff,Ff,Ff,Ff,Ff,Ff,Ff]) 13 rfl (by kernel_rfl) (by kernel_rfl) (by kernel_rfl) rfl rfl rfl rfl rfl rfl rfl (fun w1 hw => hw.pick [4] (by decide) rfl) ?_
     refine TH.off (listed' := #[Tt,Tt,Tt,Tt,Tt,Tt,Tt,Tt,Tt,Tt,Tt,Tt,Tt,Tt,Tt,Ff,Ff,Ff,Ff,Ff,Ff,Ff,Ff,Ff,Ff,Ff,Ff,Ff,Ff]) 14 rfl (by kernel_rfl) (by kernel_rfl) (by kernel_rfl) rfl rfl rfl rfl rfl rfl rfl (fun w1 hw => hw.pick [4] (by decide) rfl) ?_
     refine TH.off (listed' := #[Tt,Tt,Tt,Tt,Tt,Tt,Tt,Tt,Tt,Tt,Tt,Tt,Tt,Tt,Tt,Tt,Ff,Ff,Ff,Ff,Ff,Ff,Ff,Ff,Ff,Ff,Ff,Ff,Ff]) 15 rfl (by kernel_rfl) (by kernel_rfl) (by kernel_rfl) rfl rfl rfl rfl rfl rfl rfl (fun w1 hw => hw.pick [4] (by decide) rfl) ?_
     refine TH.off (listed' := #[Tt,Tt,Tt,Tt,Tt,Tt,Tt,Tt,Tt,Tt,Tt,Tt,Tt,Tt,Tt,Tt,Tt,Ff,Ff,Ff,Ff,Ff,Ff,Ff,Ff,Ff,Ff,Ff,Ff]) 16 rfl (by kernel_rfl) (by kernel_rfl) (by kernel_rfl) rfl rfl rfl rfl rfl rfl rfl (fun w1 hw => hw.pick [4] (by decide) rfl) ?_
     refine TH.off (listed' := #[Tt,Tt,Tt,Tt,Tt,Tt,Tt,Tt,Tt,Tt,Tt,Tt,Tt,Tt,Tt,Tt,Tt,Tt,Ff,Ff,Ff,Ff,Ff,Ff,Ff,Ff,Ff,Ff,Ff]) 17 rfl (by kernel_rfl) (by kernel_rfl) (by kernel_rfl) rfl rfl rfl rfl rfl rfl rfl (fun w1 hw => hw.pick [4] (by decide) rfl) ?_
     refine TH.off (listed' := #[Tt,Tt,Tt,Tt,Tt,Tt,Tt,Tt,Tt,Tt,Tt,Tt,Tt,Tt,Tt,Tt,Tt,Tt,Tt,Ff,Ff,Ff,Ff,Ff,Ff,Ff,Ff,Ff,Ff]) 18 rfl (by kernel_rfl) (by kernel_rfl) (by kernel_rfl) rfl rfl rfl rfl rfl rfl rfl (fun w1 hw => hw.pick [4] (by decide) rfl) ?_
     refine TH.off (listed' := #[Tt,Tt,Tt,Tt,Tt,Tt,Tt,Tt,Tt,Tt,Tt,Tt,Tt,Tt,Tt,Tt,Tt,Tt,Tt,Tt,Ff,Ff,Ff,Ff,Ff,Ff,Ff,Ff,Ff]) 19 rfl (by kernel_rfl) (by kernel_rfl) (by kernel_rfl) rfl rfl rfl rfl rfl rfl rfl (fun w1 hw => hw.pick [4] (by decide) rfl) ?_
     refine TH.off (listed' := #[Tt,Tt,Tt,Tt,Tt,Tt,Tt,Tt,Tt,Tt,Tt,Tt,Tt,Tt,Tt,Tt,Tt,Tt,Tt,Tt,Tt,Ff,Ff,Ff,Ff,Ff,Ff,Ff,Ff]) 20 rfl (by kernel_rfl) (by kernel_rfl) (by kernel_rfl) rfl rfl rfl rfl rfl rfl rfl (fun w1 hw => hw.pick [4] (by decide) rfl) ?_
     refine TH.off (listed' := #[Tt,Tt,Tt,Tt,Tt,Tt,Tt,Tt,Tt,Tt,Tt,Tt,Tt,Tt,Tt,Tt,Tt,Tt,Tt,Tt,Tt,Tt,Ff,Ff,Ff,Ff,Ff,Ff,Ff]) 21 rfl (by kernel_rfl) (by kernel_rfl) (by kernel_rfl) rfl rfl rfl rfl rfl rfl rfl (fun w1 hw => hw.pick [4] (by decide) rfl) ?_
     refine TH.off (listed' := #[Tt,Tt,Tt,Tt,Tt,Tt,Tt,Tt,Tt,Tt,Tt,Tt,Tt,Tt,Tt,Tt,Tt,Tt,Tt,Tt,Tt,Tt,Tt,Ff,Ff,Ff,Ff,Ff,Ff]) 22 rfl (by kernel_rfl) (by kernel_rfl) (by kernel_rfl) rfl rfl rfl rfl rfl rfl rfl (fun w1 hw => hw.pick [4] (by decide) rfl) ?_
     refine TH.off (listed' := #[Tt,Tt,Tt,Tt,Tt,Tt,Tt,Tt,Tt,Tt,Tt,Tt,Tt,Tt,Tt,Tt,Tt,Tt,Tt,Tt,Tt,Tt,Tt,Tt,Ff,Ff,Ff,Ff,Ff]) 23 rfl (by kernel_rfl) (by kernel_rfl) (by kernel_rfl) rfl rfl rfl rfl rfl rfl rfl (fun w1 hw => hw.pick [4] (by decide) rfl) ?_
     refine TH.off (listed' := #[Tt,Tt,Tt,Tt,Tt,Tt,Tt,Tt,Tt,Tt,Tt,Tt,Tt,Tt,Tt,Tt,Tt,Tt,Tt,Tt,Tt,Tt,Tt,Tt,Tt,Ff,Ff,Ff,Ff]) 24 rfl (by kernel_rfl) (by kernel_rfl) (by kernel_rfl) rfl rfl rfl rfl rfl rfl rfl (fun w1 hw => hw.pick [4] (by decide) rfl) ?_
     refine TH.off (listed' := #[Tt,Tt,Tt,Tt,Tt,Tt,Tt,Tt,Tt,Tt,Tt,Tt,Tt,Tt,Tt,Tt,Tt,Tt,Tt,Tt,Tt,Tt,Tt,Tt,Tt,Tt,Ff,Ff,Ff]) 25 rfl (by kernel_rfl) (by kernel_rfl) (by kernel_rfl) rfl rfl rfl rfl rfl rfl rfl (fun w1 hw => hw.pick [4] (by decide) rfl) ?_
     refine TH.off (listed' := #[Tt,Tt,Tt,Tt,Tt,Tt,Tt,Tt,Tt,Tt,Tt,Tt,Tt,Tt,Tt,Tt,Tt,Tt,Tt,Tt,Tt,Tt,Tt,Tt,Tt,Tt,Tt,Ff,Ff]) 26 rfl (by kernel_rfl) (by kernel_rfl) (by kernel_rfl) rfl rfl rfl rfl rfl rfl rfl (fun w1 hw => hw.pick [4] (by decide) rfl) ?_
     refine TH.off (listed' := #[Tt,Tt,Tt,Tt,Tt,Tt,Tt,Tt,Tt,Tt,Tt,Tt,Tt,Tt,Tt,Tt,Tt,Tt,Tt,Tt,Tt,Tt,Tt,Tt,Tt,Tt,Tt,Tt,Ff]) 27 rfl (by kernel_rfl) (by kernel_rfl) (by kernel_rfl) rfl rfl rfl rfl rfl rfl rfl (fun w1 hw => hw.pick [4] (by decide) rfl) ?_
     refine TH.tk (listed' := #[Tt,Tt,Tt,Tt,Tt,Tt,Tt,Tt,Tt,Tt,Tt,Tt,Tt,Tt,Tt,Tt,Tt,Tt,Tt,Tt,Tt,Tt,Tt,Tt,Tt,Tt,Tt,Tt,Tt]) 28 rfl rfl rfl (gives_pick rfl rfl rfl) (fun w1 hw => hw.pick [4] (by decide) rfl) ?_
     refine TH.done (by kernel_rfl) ?_
     exact TX.joined (()) (⟨rfl, rfl, rfl, rfl, rfl, rfl, trivial⟩) (fun w1 hw => hw.sel (.cons _ (.cons _ (.cons _ (.cons _ (.cons_cons _ (.cons _ (.cons _ (.cons _ (.cons _ (.cons_cons _ (.cons_cons _ (List.Sublist.refl _)))))))))))))
    ·refine TC.held (ls := #[Ff,Ff,Ff,Ff,Ff,Ff,Ff,Ff,Ff,Ff,Ff,Ff,Ff,Ff,Ff,Ff,Ff,Ff,Ff,Ff,Ff,Ff,Ff,Ff,Ff,Ff,Ff,Ff,Ff]) (Pm wn [.row (.slice (some ⟨gS, 0, none⟩) ss.length cs) 28 1 ss.length (ss.map Sl.val)]) (by kernel_rfl) rfl rfl (fun w hw => hw.drawn _) ?_
     refine TH.tk (listed' := #[Tt,Ff,Ff,Ff,Ff,Ff,Ff,Ff,Ff,Ff,Ff,Ff,Ff,Ff,Ff,Ff,Ff,Ff,Ff,Ff,Ff,Ff,Ff,Ff,Ff,Ff,Ff,Ff,Ff]) 0 rfl rfl rfl (gives_move rfl rfl) (fun w1 hw => hw.pick [4] (by decide) rfl) ?_
     refine TH.tk (listed' := #[Tt,Tt,Ff,Ff,Ff,Ff,Ff,Ff,Ff,Ff,Ff,Ff,Ff,Ff,Ff,Ff,Ff,Ff,Ff,Ff,Ff,Ff,Ff,Ff,Ff,Ff,Ff,Ff,Ff]) 1 rfl rfl rfl (gives_bin rfl rfl rfl (fun w => bin_eql_t (p1) w)) (fun w1 hw => hw.pick [4] (by decide) rfl) ?_
     refine TH.tk (listed' := #[Tt,Tt,Tt,Ff,Ff,Ff,Ff,Ff,Ff,Ff,Ff,Ff,Ff,Ff,Ff,Ff,Ff,Ff,Ff,Ff,Ff,Ff,Ff,Ff,Ff,Ff,Ff,Ff,Ff]) 2 rfl rfl rfl (gives_move rfl rfl) (fun w1 hw => hw.pick [4] (by decide) rfl) ?_
     refine TH.takeG (listed' := #[Tt,Tt,Tt,Tt,Ff,Ff,Ff,Ff,Ff,Ff,Ff,Ff,Ff,Ff,Ff,Ff,Ff,Ff,Ff,Ff,Ff,Ff,Ff,Ff,Ff,Ff,Ff,Ff,Ff]) 3 rfl (by kernel_rfl) (by kernel_rfl) (by kernel_rfl) rfl rfl rfl rfl rfl rfl (gives_move rfl rfl) (fun w1 hw => hw.pick [4] (by decide) rfl) ?_
     refine TH.takeG (listed' := #[Tt,Tt,Tt,Tt,Tt,Ff,Ff,Ff,Ff,Ff,Ff,Ff,Ff,Ff,Ff,Ff,Ff,Ff,Ff,Ff,Ff,Ff,Ff,Ff,Ff,Ff,Ff,Ff,Ff]) 4 rfl (by kernel_rfl) (by kernel_rfl) (by kernel_rfl) rfl rfl rfl rfl rfl rfl (gives_move rfl rfl) (fun w1 hw => hw.pick [4] (by decide) rfl) ?_
     refine TH.takeG (listed' := #[Tt,Tt,Tt,Tt,Tt,Tt,Ff,Ff,Ff,Ff,Ff,Ff,Ff,Ff,Ff,Ff,Ff,Ff,Ff,Ff,Ff,Ff,Ff,Ff,Ff,Ff,Ff,Ff,Ff]) 5 rfl (by kernel_rfl) (by kernel_rfl) (by kernel_rfl) rfl rfl rfl rfl rfl rfl (gives_move rfl rfl) (fun w1 hw => hw.pick [4] (by decide) rfl) ?_
     refine TH.takeG (listed' := #[Tt,Tt,Tt,Tt,Tt,Tt,Tt,Ff,Ff,Ff,Ff,Ff,Ff,Ff,Ff,Ff,Ff,Ff,Ff,Ff,Ff,Ff,Ff,Ff,Ff,Ff,Ff,Ff,Ff]) 6 rfl (by kernel_rfl) (by kernel_rfl) (by kernel_rfl) rfl rfl rfl rfl rfl rfl (gives_at (v := .pointer (some ⟨gS, 0 + x44 * 1, none⟩)) rfl rfl rfl (fun w => at_el Tryd.underlying40 (fun w => rfl) rfl ss.length cs x44 hx44b rfl w)) (fun w1 hw => hw.pick [4] (by decide) rfl) ?_
     refine TH.takeG (listed' := #[Tt,Tt,Tt,Tt,Tt,Tt,Tt,Tt,Ff,Ff,Ff,Ff,Ff,Ff,Ff,Ff,Ff,Ff,Ff,Ff,Ff,Ff,Ff,Ff,Ff,Ff,Ff,Ff,Ff]) 7 rfl (by kernel_rfl) (by kernel_rfl) (by kernel_rfl) rfl rfl rfl rfl rfl rfl (pm_loadRow (k := 0) (v := t.val) rfl rfl (fun w => rfl) rfl hsc_t) (fun w1 hw => hw.pick [4] (by decide) rfl) ?_
     refine TH.only' (listed' := #[Tt,Tt,Tt,Tt,Tt,Tt,Tt,Tt,Tt,Ff,Ff,Ff,Ff,Ff,Ff,Ff,Ff,Ff,Ff,Ff,Ff,Ff,Ff,Ff,Ff,Ff,Ff,Ff,Ff]) 8 rfl (by kernel_rfl) rfl ?_
     refine TL.gu ?_
     refine TL.pcall1 (r := .bool true) rfl rfl rfl rfl rfl Tryd.func28 jlfnm28 jlfbd28 (fun w1 hw => retb_lit (decide_eq_true p2) (wequal A5 t.A m5 c5 t.n t.c l5 t.l w1 (byt_own (hw.at_ (k := 3) rfl) hm54) (hw.seg 11 rfl (segP_mem hm_t) hso_t.2.2.2.1))) ?_
     refine TL.end_ ?_
     refine TX.held (fun w1 hw => hw.pick [4] (by decide) rfl) ?_
     refine TH.takeG (listed' := #[Tt,Tt,Tt,Tt,Tt,Tt,Tt,Tt,Tt,Tt,Ff,Ff,Ff,Ff,Ff,Ff,Ff,Ff,Ff,Ff,Ff,Ff,Ff,Ff,Ff,Ff,Ff,Ff,Ff]) 9 rfl (by kernel_rfl) (by kernel_rfl) (by kernel_rfl) rfl rfl rfl rfl rfl rfl (gives_boolnot rfl rfl) (fun w1 hw => hw.pick [4] (by decide) rfl) ?_
     refine TH.tk (listed' := #[Tt,Tt,Tt,Tt,Tt,Tt,Tt,Tt,Tt,Tt,Tt,Ff,Ff,Ff,Ff,Ff,Ff,Ff,Ff,Ff,Ff,Ff,Ff,Ff,Ff,Ff,Ff,Ff,Ff]) 10 rfl rfl rfl (gives_pick rfl rfl rfl) (fun w1 hw => hw.pick [4] (by decide) rfl) ?_
     refine TH.tk (listed' := #[Tt,Tt,Tt,Tt,Tt,Tt,Tt,Tt,Tt,Tt,Tt,Tt,Ff,Ff,Ff,Ff,Ff,Ff,Ff,Ff,Ff,Ff,Ff,Ff,Ff,Ff,Ff,Ff,Ff]) 11 rfl rfl rfl (gives_move rfl rfl) (fun w1 hw => hw.pick [4] (by decide) rfl) ?_
     refine TH.off (listed' := #[Tt,Tt,Tt,Tt,Tt,Tt,Tt,Tt,Tt,Tt,Tt,Tt,Tt,Ff,Ff,Ff,Ff,Ff,Ff,Ff,Ff,Ff,Ff,Ff,Ff,Ff,Ff,Ff,Ff]) 12 rfl (by kernel_rfl) (by kernel_rfl) (by kernel_rfl) rfl rfl rfl rfl rfl rfl rfl (fun w1 hw => hw.pick [4] (by decide) rfl) ?_
     refine TH.off (listed' := #[Tt,Tt,Tt,Tt,Tt,Tt,Tt,Tt,Tt,Tt,Tt,Tt,Tt,Tt,Ff,Ff,Ff,Ff,Ff,Ff,Ff,Ff,Ff,Ff,Ff,Ff,Ff,Ff,Ff]) 13 rfl (by kernel_rfl) (by kernel_rfl) (by kernel_rfl) rfl rfl rfl rfl rfl rfl rfl (fun w1 hw => hw.pick [4] (by decide) rfl) ?_
     refine TH.off (listed' := #[Tt,Tt,Tt,Tt,Tt,Tt,Tt,Tt,Tt,Tt,Tt,Tt,Tt,Tt,Tt,Ff,Ff,Ff,Ff,Ff,Ff,Ff,Ff,Ff,Ff,Ff,Ff,Ff,Ff]) 14 rfl (by kernel_rfl) (by kernel_rfl) (by kernel_rfl) rfl rfl rfl rfl rfl rfl rfl (fun w1 hw => hw.pick [4] (by decide) rfl) ?_
     refine TH.off (listed' := #[Tt,Tt,Tt,Tt,Tt,Tt,Tt,Tt,Tt,Tt,Tt,Tt,Tt,Tt,Tt,Tt,Ff,Ff,Ff,Ff,Ff,Ff,Ff,Ff,Ff,Ff,Ff,Ff,Ff]) 15 rfl (by kernel_rfl) (by kernel_rfl) (by kernel_rfl) rfl rfl rfl rfl rfl rfl rfl (fun w1 hw => hw.pick [4] (by decide) rfl) ?_
     refine TH.off (listed' := #[Tt,Tt,Tt,Tt,Tt,Tt,Tt,Tt,Tt,Tt,Tt,Tt,Tt,Tt,Tt,Tt,Tt,Ff,Ff,Ff,Ff,Ff,Ff,Ff,Ff,Ff,Ff,Ff,Ff]) 16 rfl (by kernel_rfl) (by kernel_rfl) (by kernel_rfl) rfl rfl rfl rfl rfl rfl rfl (fun w1 hw => hw.pick [4] (by decide) rfl) ?_
     refine TH.off (listed' := #[Tt,Tt,Tt,Tt,Tt,Tt,Tt,Tt,Tt,Tt,Tt,Tt,Tt,Tt,Tt,Tt,Tt,Tt,Ff,Ff,Ff,Ff,Ff,Ff,Ff,Ff,Ff,Ff,Ff]) 17 rfl (by kernel_rfl) (by kernel_rfl) (by kernel_rfl) rfl rfl rfl rfl rfl rfl rfl (fun w1 hw => hw.pick [4] (by decide) rfl) ?_
     refine TH.off (listed' := #[Tt,Tt,Tt,Tt,Tt,Tt,Tt,Tt,Tt,Tt,Tt,Tt,Tt,Tt,Tt,Tt,Tt,Tt,Tt,Ff,Ff,Ff,Ff,Ff,Ff,Ff,Ff,Ff,Ff]) 18 rfl (by kernel_rfl) (by kernel_rfl) (by kernel_rfl) rfl rfl rfl rfl rfl rfl rfl (fun w1 hw => hw.pick [4] (by decide) rfl) ?_
     refine TH.off (listed' := #[Tt,Tt,Tt,Tt,Tt,Tt,Tt,Tt,Tt,Tt,Tt,Tt,Tt,Tt,Tt,Tt,Tt,Tt,Tt,Tt,Ff,Ff,Ff,Ff,Ff,Ff,Ff,Ff,Ff]) 19 rfl (by kernel_rfl) (by kernel_rfl) (by kernel_rfl) rfl rfl rfl rfl rfl rfl rfl (fun w1 hw => hw.pick [4] (by decide) rfl) ?_
     refine TH.off (listed' := #[Tt,Tt,Tt,Tt,Tt,Tt,Tt,Tt,Tt,Tt,Tt,Tt,Tt,Tt,Tt,Tt,Tt,Tt,Tt,Tt,Tt,Ff,Ff,Ff,Ff,Ff,Ff,Ff,Ff]) 20 rfl (by kernel_rfl) (by kernel_rfl) (by kernel_rfl) rfl rfl rfl rfl rfl rfl rfl (fun w1 hw => hw.pick [4] (by decide) rfl) ?_
     refine TH.off (listed' := #[Tt,Tt,Tt,Tt,Tt,Tt,Tt,Tt,Tt,Tt,Tt,Tt,Tt,Tt,Tt,Tt,Tt,Tt,Tt,Tt,Tt,Tt,Ff,Ff,Ff,Ff,Ff,Ff,Ff]) 21 rfl (by kernel_rfl) (by kernel_rfl) (by kernel_rfl) rfl rfl rfl rfl rfl rfl rfl (fun w1 hw => hw.pick [4] (by decide) rfl) ?_
     refine TH.off (listed' := #[Tt,Tt,Tt,Tt,Tt,Tt,Tt,Tt,Tt,Tt,Tt,Tt,Tt,Tt,Tt,Tt,Tt,Tt,Tt,Tt,Tt,Tt,Tt,Ff,Ff,Ff,Ff,Ff,Ff]) 22 rfl (by kernel_rfl) (by kernel_rfl) (by kernel_rfl) rfl rfl rfl rfl rfl rfl rfl (fun w1 hw => hw.pick [4] (by decide) rfl) ?_
     refine TH.off (listed' := #[Tt,Tt,Tt,Tt,Tt,Tt,Tt,Tt,Tt,Tt,Tt,Tt,Tt,Tt,Tt,Tt,Tt,Tt,Tt,Tt,Tt,Tt,Tt,Tt,Ff,Ff,Ff,Ff,Ff]) 23 rfl (by kernel_rfl) (by kernel_rfl) (by kernel_rfl) rfl rfl rfl rfl rfl rfl rfl (fun w1 hw => hw.pick [4] (by decide) rfl) ?_
     refine TH.off (listed' := #[Tt,Tt,Tt,Tt,Tt,Tt,Tt,Tt,Tt,Tt,Tt,Tt,Tt,Tt,Tt,Tt,Tt,Tt,Tt,Tt,Tt,Tt,Tt,Tt,Tt,Ff,Ff,Ff,Ff]) 24 rfl (by kernel_rfl) (by kernel_rfl) (by kernel_rfl) rfl rfl rfl rfl rfl rfl rfl (fun w1 hw => hw.pick [4] (by decide) rfl) ?_
     refine TH.off (listed' := #[Tt,Tt,Tt,Tt,Tt,Tt,Tt,Tt,Tt,Tt,Tt,Tt,Tt,Tt,Tt,Tt,Tt,Tt,Tt,Tt,Tt,Tt,Tt,Tt,Tt,Tt,Ff,Ff,Ff]) 25 rfl (by kernel_rfl) (by kernel_rfl) (by kernel_rfl) rfl rfl rfl rfl rfl rfl rfl (fun w1 hw => hw.pick [4] (by decide) rfl) ?_
     refine TH.off (listed' := #[Tt,Tt,Tt,Tt,Tt,Tt,Tt,Tt,Tt,Tt,Tt,Tt,Tt,Tt,Tt,Tt,Tt,Tt,Tt,Tt,Tt,Tt,Tt,Tt,Tt,Tt,Tt,Ff,Ff]) 26 rfl (by kernel_rfl) (by kernel_rfl) (by kernel_rfl) rfl rfl rfl rfl rfl rfl rfl (fun w1 hw => hw.pick [4] (by decide) rfl) ?_
     refine TH.off (listed' := #[Tt,Tt,Tt,Tt,Tt,Tt,Tt,Tt,Tt,Tt,Tt,Tt,Tt,Tt,Tt,Tt,Tt,Tt,Tt,Tt,Tt,Tt,Tt,Tt,Tt,Tt,Tt,Tt,Ff]) 27 rfl (by kernel_rfl) (by kernel_rfl) (by kernel_rfl) rfl rfl rfl rfl rfl rfl rfl (fun w1 hw => hw.pick [4] (by decide) rfl) ?_
     refine TH.tk (listed' := #[Tt,Tt,Tt,Tt,Tt,Tt,Tt,Tt,Tt,Tt,Tt,Tt,Tt,Tt,Tt,Tt,Tt,Tt,Tt,Tt,Tt,Tt,Tt,Tt,Tt,Tt,Tt,Tt,Tt]) 28 rfl rfl rfl (gives_pick rfl rfl rfl) (fun w1 hw => hw.pick [4] (by decide) rfl) ?_
     refine TH.done (by kernel_rfl) ?_
     exact TX.joined (()) (⟨rfl, rfl, rfl, rfl, rfl, rfl, trivial⟩) (fun w1 hw => hw.sel (.cons _ (.cons _ (.cons _ (.cons _ (.cons_cons _ (.cons _ (.cons _ (.cons _ (.cons _ (.cons_cons _ (.cons_cons _ (List.Sublist.refl _)))))))))))))
    ·have hk5 := acc_facts p1
     obtain ⟨hh1, hh2, hh3⟩ := len_dec hk5.1
     obtain ⟨m, hm⟩ : ∃ m, m5 = m + 32 := ⟨m5 - 32, by omega⟩
     have hmm : l5.length - 32 = m := by omega
     have hs5 : l5.drop m = macF key (l5.take m) := by have := hk5.2.2.2.2; unfold sigB at this; rw [hmm] at this; exact this
     refine TC.held (ls := #[Ff,Ff,Ff,Ff,Ff,Ff,Ff,Ff,Ff,Ff,Ff,Ff,Ff,Ff,Ff,Ff,Ff,Ff,Ff,Ff,Ff,Ff,Ff,Ff,Ff,Ff,Ff,Ff,Ff]) (Pm wn [.row (.slice (some ⟨gS, 0, none⟩) ss.length cs) 28 1 ss.length (ss.map Sl.val)]) (by kernel_rfl) rfl rfl (fun w hw => hw.drawn _) ?_
     refine TH.tk (listed' := #[Tt,Ff,Ff,Ff,Ff,Ff,Ff,Ff,Ff,Ff,Ff,Ff,Ff,Ff,Ff,Ff,Ff,Ff,Ff,Ff,Ff,Ff,Ff,Ff,Ff,Ff,Ff,Ff,Ff]) 0 rfl rfl rfl (gives_move rfl rfl) (fun w1 hw => hw.pick [4] (by decide) rfl) ?_
     refine TH.tk (listed' := #[Tt,Tt,Ff,Ff,Ff,Ff,Ff,Ff,Ff,Ff,Ff,Ff,Ff,Ff,Ff,Ff,Ff,Ff,Ff,Ff,Ff,Ff,Ff,Ff,Ff,Ff,Ff,Ff,Ff]) 1 rfl rfl rfl (gives_bin rfl rfl rfl (fun w => bin_eql_t (p1) w)) (fun w1 hw => hw.pick [4] (by decide) rfl) ?_
     refine TH.tk (listed' := #[Tt,Tt,Tt,Ff,Ff,Ff,Ff,Ff,Ff,Ff,Ff,Ff,Ff,Ff,Ff,Ff,Ff,Ff,Ff,Ff,Ff,Ff,Ff,Ff,Ff,Ff,Ff,Ff,Ff]) 2 rfl rfl rfl (gives_move rfl rfl) (fun w1 hw => hw.pick [4] (by decide) rfl) ?_
     refine TH.takeG (listed' := #[Tt,Tt,Tt,Tt,Ff,Ff,Ff,Ff,Ff,Ff,Ff,Ff,Ff,Ff,Ff,Ff,Ff,Ff,Ff,Ff,Ff,Ff,Ff,Ff,Ff,Ff,Ff,Ff,Ff]) 3 rfl (by kernel_rfl) (by kernel_rfl) (by kernel_rfl) rfl rfl rfl rfl rfl rfl (gives_move rfl rfl) (fun w1 hw => hw.pick [4] (by decide) rfl) ?_
     refine TH.takeG (listed' := #[Tt,Tt,Tt,Tt,Tt,Ff,Ff,Ff,Ff,Ff,Ff,Ff,Ff,Ff,Ff,Ff,Ff,Ff,Ff,Ff,Ff,Ff,Ff,Ff,Ff,Ff,Ff,Ff,Ff]) 4 rfl (by kernel_rfl) (by kernel_rfl) (by kernel_rfl) rfl rfl rfl rfl rfl rfl (gives_move rfl rfl) (fun w1 hw => hw.pick [4] (by decide) rfl) ?_
     refine TH.takeG (listed' := #[Tt,Tt,Tt,Tt,Tt,Tt,Ff,Ff,Ff,Ff,Ff,Ff,Ff,Ff,Ff,Ff,Ff,Ff,Ff,Ff,Ff,Ff,Ff,Ff,Ff,Ff,Ff,Ff,Ff]) 5 rfl (by kernel_rfl) (by kernel_rfl) (by kernel_rfl) rfl rfl rfl rfl rfl rfl (gives_move rfl rfl) (fun w1 hw => hw.pick [4] (by decide) rfl) ?_
     refine TH.takeG (listed' := #[Tt,Tt,Tt,Tt,Tt,Tt,Tt,Ff,Ff,Ff,Ff,Ff,Ff,Ff,Ff,Ff,Ff,Ff,Ff,Ff,Ff,Ff,Ff,Ff,Ff,Ff,Ff,Ff,Ff]) 6 rfl (by kernel_rfl) (by kernel_rfl) (by kernel_rfl) rfl rfl rfl rfl rfl rfl (gives_at (v := .pointer (some ⟨gS, 0 + x44 * 1, none⟩)) rfl rfl rfl (fun w => at_el Tryd.underlying40 (fun w => rfl) rfl ss.length cs x44 hx44b rfl w)) (fun w1 hw => hw.pick [4] (by decide) rfl) ?_
     refine TH.takeG (listed' := #[Tt,Tt,Tt,Tt,Tt,Tt,Tt,Tt,Ff,Ff,Ff,Ff,Ff,Ff,Ff,Ff,Ff,Ff,Ff,Ff,Ff,Ff,Ff,Ff,Ff,Ff,Ff,Ff,Ff]) 7 rfl (by kernel_rfl) (by kernel_rfl) (by kernel_rfl) rfl rfl rfl rfl rfl rfl (pm_loadRow (k := 0) (v := t.val) rfl rfl (fun w => rfl) rfl hsc_t) (fun w1 hw => hw.pick [4] (by decide) rfl) ?_
     refine TH.only' (listed' := #[Tt,Tt,Tt,Tt,Tt,Tt,Tt,Tt,Tt,Ff,Ff,Ff,Ff,Ff,Ff,Ff,Ff,Ff,Ff,Ff,Ff,Ff,Ff,Ff,Ff,Ff,Ff,Ff,Ff]) 8 rfl (by kernel_rfl) rfl ?_
     refine TL.gu ?_
     refine TL.pcall1 (r := .bool false) rfl rfl rfl rfl rfl Tryd.func28 jlfnm28 jlfbd28 (fun w1 hw => retb_lit (decide_eq_false p2) (wequal A5 t.A m5 c5 t.n t.c l5 t.l w1 (byt_own (hw.at_ (k := 3) rfl) hm54) (hw.seg 11 rfl (segP_mem hm_t) hso_t.2.2.2.1))) ?_
     refine TL.end_ ?_
     refine TX.held (fun w1 hw => hw.pick [4] (by decide) rfl) ?_
     refine TH.takeG (listed' := #[Tt,Tt,Tt,Tt,Tt,Tt,Tt,Tt,Tt,Tt,Ff,Ff,Ff,Ff,Ff,Ff,Ff,Ff,Ff,Ff,Ff,Ff,Ff,Ff,Ff,Ff,Ff,Ff,Ff]) 9 rfl (by kernel_rfl) (by kernel_rfl) (by kernel_rfl) rfl rfl rfl rfl rfl rfl (gives_boolnot rfl rfl) (fun w1 hw => hw.pick [4] (by decide) rfl) ?_
     refine TH.tk (listed' := #[Tt,Tt,Tt,Tt,Tt,Tt,Tt,Tt,Tt,Tt,Tt,Ff,Ff,Ff,Ff,Ff,Ff,Ff,Ff,Ff,Ff,Ff,Ff,Ff,Ff,Ff,Ff,Ff,Ff]) 10 rfl rfl rfl (gives_pick rfl rfl rfl) (fun w1 hw => hw.pick [4] (by decide) rfl) ?_
     refine TH.tk (listed' := #[Tt,Tt,Tt,Tt,Tt,Tt,Tt,Tt,Tt,Tt,Tt,Tt,Ff,Ff,Ff,Ff,Ff,Ff,Ff,Ff,Ff,Ff,Ff,Ff,Ff,Ff,Ff,Ff,Ff]) 11 rfl rfl rfl (gives_move rfl rfl) (fun w1 hw => hw.pick [4] (by decide) rfl) ?_
     refine TH.takeG (listed' := #[Tt,Tt,Tt,Tt,Tt,Tt,Tt,Tt,Tt,Tt,Tt,Tt,Tt,Ff,Ff,Ff,Ff,Ff,Ff,Ff,Ff,Ff,Ff,Ff,Ff,Ff,Ff,Ff,Ff]) 12 rfl (by kernel_rfl) (by kernel_rfl) (by kernel_rfl) rfl rfl rfl rfl rfl rfl (gives_move rfl rfl) (fun w1 hw => hw.pick [4] (by decide) rfl) ?_
     refine TH.takeG (listed' := #[Tt,Tt,Tt,Tt,Tt,Tt,Tt,Tt,Tt,Tt,Tt,Tt,Tt,Tt,Ff,Ff,Ff,Ff,Ff,Ff,Ff,Ff,Ff,Ff,Ff,Ff,Ff,Ff,Ff]) 13 rfl (by kernel_rfl) (by kernel_rfl) (by kernel_rfl) rfl rfl rfl rfl rfl rfl (gives_move rfl rfl) (fun w1 hw => hw.pick [4] (by decide) rfl) ?_
     refine TH.takeG (listed' := #[Tt,Tt,Tt,Tt,Tt,Tt,Tt,Tt,Tt,Tt,Tt,Tt,Tt,Tt,Tt,Ff,Ff,Ff,Ff,Ff,Ff,Ff,Ff,Ff,Ff,Ff,Ff,Ff,Ff]) 14 rfl (by kernel_rfl) (by kernel_rfl) (by kernel_rfl) rfl rfl rfl rfl rfl rfl (gives_len rfl Tryd.underlying28 rfl) (fun w1 hw => hw.pick [4] (by decide) rfl) ?_
     refine TH.takeG (listed' := #[Tt,Tt,Tt,Tt,Tt,Tt,Tt,Tt,Tt,Tt,Tt,Tt,Tt,Tt,Tt,Tt,Ff,Ff,Ff,Ff,Ff,Ff,Ff,Ff,Ff,Ff,Ff,Ff,Ff]) 15 rfl (by kernel_rfl) (by kernel_rfl) (by kernel_rfl) rfl rfl rfl rfl rfl rfl (gives_bin rfl rfl rfl (fun w => bin_sub_ (r := (m : Nat)) (by simp only [IntKind.wrap_i64]; omega) w)) (fun w1 hw => hw.pick [4] (by decide) rfl) ?_
     refine TH.takeG (listed' := #[Tt,Tt,Tt,Tt,Tt,Tt,Tt,Tt,Tt,Tt,Tt,Tt,Tt,Tt,Tt,Tt,Ff,Ff,Tt,Ff,Ff,Ff,Ff,Ff,Ff,Ff,Ff,Ff,Ff]) 18 rfl (by kernel_rfl) (by kernel_rfl) (by kernel_rfl) rfl rfl rfl rfl rfl rfl (gives_move rfl rfl) (fun w1 hw => hw.pick [4] (by decide) rfl) ?_
     refine TH.takeG (listed' := #[Tt,Tt,Tt,Tt,Tt,Tt,Tt,Tt,Tt,Tt,Tt,Tt,Tt,Tt,Tt,Tt,Ff,Ff,Tt,Tt,Ff,Ff,Ff,Ff,Ff,Ff,Ff,Ff,Ff]) 19 rfl (by kernel_rfl) (by kernel_rfl) (by kernel_rfl) rfl rfl rfl rfl rfl rfl (gives_move rfl rfl) (fun w1 hw => hw.pick [4] (by decide) rfl) ?_
     refine TH.takeG (listed' := #[Tt,Tt,Tt,Tt,Tt,Tt,Tt,Tt,Tt,Tt,Tt,Tt,Tt,Tt,Tt,Tt,Ff,Ff,Tt,Tt,Tt,Ff,Ff,Ff,Ff,Ff,Ff,Ff,Ff]) 20 rfl (by kernel_rfl) (by kernel_rfl) (by kernel_rfl) rfl rfl rfl rfl rfl rfl (gives_move rfl rfl) (fun w1 hw => hw.pick [4] (by decide) rfl) ?_
     refine TH.takeG (listed' := #[Tt,Tt,Tt,Tt,Tt,Tt,Tt,Tt,Tt,Tt,Tt,Tt,Tt,Tt,Tt,Tt,Ff,Ff,Tt,Tt,Tt,Tt,Ff,Ff,Ff,Ff,Ff,Ff,Ff]) 21 rfl (by kernel_rfl) (by kernel_rfl) (by kernel_rfl) rfl rfl rfl rfl rfl rfl (gives_len rfl Tryd.underlying28 rfl) (fun w1 hw => hw.pick [4] (by decide) rfl) ?_
     refine TH.takeG (listed' := #[Tt,Tt,Tt,Tt,Tt,Tt,Tt,Tt,Tt,Tt,Tt,Tt,Tt,Tt,Tt,Tt,Ff,Ff,Tt,Tt,Tt,Tt,Tt,Ff,Ff,Ff,Ff,Ff,Ff]) 22 rfl (by kernel_rfl) (by kernel_rfl) (by kernel_rfl) rfl rfl rfl rfl rfl rfl (gives_bin rfl rfl rfl (fun w => bin_sub_ (r := (m : Nat)) (by simp only [IntKind.wrap_i64]; omega) w)) (fun w1 hw => hw.pick [4] (by decide) rfl) ?_
     refine TH.two' (listed1 := #[Tt,Tt,Tt,Tt,Tt,Tt,Tt,Tt,Tt,Tt,Tt,Tt,Tt,Tt,Tt,Tt,Tt,Ff,Tt,Tt,Tt,Tt,Tt,Ff,Ff,Ff,Ff,Ff,Ff]) (listed2 := #[Tt,Tt,Tt,Tt,Tt,Tt,Tt,Tt,Tt,Tt,Tt,Tt,Tt,Tt,Tt,Tt,Ff,Ff,Tt,Tt,Tt,Tt,Tt,Tt,Ff,Ff,Ff,Ff,Ff]) 16 23 rfl rfl (by kernel_rfl) rfl rfl ?_ ?_
     ·refine TL.gu ?_
      refine TL.val rfl rfl rfl (gives_max0 (m := m) rfl rfl rfl) ?_
      refine TL.end_ ?_
      refine TX.held (fun w1 hw => hw.pick [4] (by decide) rfl) ?_
      refine TH.takeG (listed' := #[Tt,Tt,Tt,Tt,Tt,Tt,Tt,Tt,Tt,Tt,Tt,Tt,Tt,Tt,Tt,Tt,Tt,Tt,Tt,Tt,Tt,Tt,Tt,Ff,Ff,Ff,Ff,Ff,Ff]) 17 rfl (by kernel_rfl) (by kernel_rfl) (by kernel_rfl) rfl rfl rfl rfl rfl rfl (gives_sliceL (v := .slice (if c5 = m then A5 else A5.map (·.add m)) (m5 - m) (c5 - m)) rfl rfl rfl (fun w => cut_lo1 Tryd.underlying28 (fun w => rfl) A5 m5 c5 m rfl (by omega) w)) (fun w1 hw => hw.pick [4] (by decide) rfl) ?_
      refine TH.only' (listed' := #[Tt,Tt,Tt,Tt,Tt,Tt,Tt,Tt,Tt,Tt,Tt,Tt,Tt,Tt,Tt,Tt,Tt,Tt,Tt,Tt,Tt,Tt,Tt,Tt,Ff,Ff,Ff,Ff,Ff]) 23 rfl (by kernel_rfl) rfl ?_
      refine TL.gu ?_
      refine TL.val rfl rfl rfl (gives_max0 (m := m) rfl rfl rfl) ?_
      refine TL.end_ ?_
      refine TX.held (fun w1 hw => hw.pick [4] (by decide) rfl) ?_
      refine TH.takeG (listed' := #[Tt,Tt,Tt,Tt,Tt,Tt,Tt,Tt,Tt,Tt,Tt,Tt,Tt,Tt,Tt,Tt,Tt,Tt,Tt,Tt,Tt,Tt,Tt,Tt,Tt,Ff,Ff,Ff,Ff]) 24 rfl (by kernel_rfl) (by kernel_rfl) (by kernel_rfl) rfl rfl rfl rfl rfl rfl (gives_sliceH (v := .slice A5 m c5) rfl rfl rfl (fun w => cut_hi Tryd.underlying28 (fun w => rfl) A5 m5 c5 m rfl (by omega) w)) (fun w1 hw => hw.pick [4] (by decide) rfl) ?_
      refine TH.only' (listed' := #[Tt,Tt,Tt,Tt,Tt,Tt,Tt,Tt,Tt,Tt,Tt,Tt,Tt,Tt,Tt,Tt,Tt,Tt,Tt,Tt,Tt,Tt,Tt,Tt,Tt,Tt,Ff,Ff,Ff]) 25 rfl (by kernel_rfl) rfl ?_
      refine TL.gu ?_
      refine TL.pcallRow (n := 32) (ys := bv (macF key (l5.take m))) rfl rfl rfl rfl rfl Tryd.func29 jlfnm29 jlfbd29 (fun w1 hw => rmac_any _ _ _ key _ _ _ (l5.take m) w1 (byt_own (hw.at_ (k := 7) rfl) hB.kb) ((byt_own (hw.at_ (k := 3) rfl) hm54).head (by omega)) (by omega) (by omega)) (fun A100 c100 hA1001 hA1002 => ?_)
      refine TL.end_ ?_
      refine TX.held (fun w1 hw => hw.pick [5] (by decide) rfl) ?_
      refine TH.only' (listed' := #[Tt,Tt,Tt,Tt,Tt,Tt,Tt,Tt,Tt,Tt,Tt,Tt,Tt,Tt,Tt,Tt,Tt,Tt,Tt,Tt,Tt,Tt,Tt,Tt,Tt,Tt,Tt,Ff,Ff]) 26 rfl (by kernel_rfl) rfl ?_
      refine TL.gu ?_
      refine TL.pcall1 (r := .bool true) rfl rfl rfl rfl rfl Tryd.func16 jlfnm16 jlfbd16 (fun w1 hw => retb_lit (decide_eq_true hs5) ((requal_any _ _ _ _ _ _ (l5.drop m) (macF key (l5.take m)) w1 w1.heap.size ((byt_own (hw.at_ (k := 4) rfl) hm54).cut (by omega) hm51) (byt_own (hw.at_ (k := 0) rfl) (macF_bs _ _)) (by omega) (by omega)).mono fun e w2 ⟨h1, q, h2⟩ => ⟨h1, h2 ▸ drewN_below q⟩)) ?_
      refine TL.end_ ?_
      refine TX.held (fun w1 hw => hw.pick [5] (by decide) rfl) ?_
      refine TH.takeG (listed' := #[Tt,Tt,Tt,Tt,Tt,Tt,Tt,Tt,Tt,Tt,Tt,Tt,Tt,Tt,Tt,Tt,Tt,Tt,Tt,Tt,Tt,Tt,Tt,Tt,Tt,Tt,Tt,Tt,Ff]) 27 rfl (by kernel_rfl) (by kernel_rfl) (by kernel_rfl) rfl rfl rfl rfl rfl rfl (gives_boolnot rfl rfl) (fun w1 hw => hw.pick [5] (by decide) rfl) ?_
      refine TH.tk (listed' := #[Tt,Tt,Tt,Tt,Tt,Tt,Tt,Tt,Tt,Tt,Tt,Tt,Tt,Tt,Tt,Tt,Tt,Tt,Tt,Tt,Tt,Tt,Tt,Tt,Tt,Tt,Tt,Tt,Tt]) 28 rfl rfl rfl (gives_pick rfl rfl rfl) (fun w1 hw => hw.pick [5] (by decide) rfl) ?_
      refine TH.done (by kernel_rfl) ?_
      exact TX.joined (()) (⟨rfl, rfl, rfl, rfl, rfl, rfl, trivial⟩) (fun w1 hw => hw.sel (.cons _ (.cons _ (.cons _ (.cons _ (.cons _ (.cons_cons _ (.cons _ (.cons _ (.cons _ (.cons _ (.cons_cons _ (.cons_cons _ (List.Sublist.refl _))))))))))))))
     ·refine TL.gu ?_
      refine TL.val rfl rfl rfl (gives_max0 (m := m) rfl rfl rfl) ?_
      refine TL.end_ ?_
      refine TX.held (fun w1 hw => hw.pick [4] (by decide) rfl) ?_
      refine TH.takeG (listed' := #[Tt,Tt,Tt,Tt,Tt,Tt,Tt,Tt,Tt,Tt,Tt,Tt,Tt,Tt,Tt,Tt,Ff,Ff,Tt,Tt,Tt,Tt,Tt,Tt,Tt,Ff,Ff,Ff,Ff]) 24 rfl (by kernel_rfl) (by kernel_rfl) (by kernel_rfl) rfl rfl rfl rfl rfl rfl (gives_sliceH (v := .slice A5 m c5) rfl rfl rfl (fun w => cut_hi Tryd.underlying28 (fun w => rfl) A5 m5 c5 m rfl (by omega) w)) (fun w1 hw => hw.pick [4] (by decide) rfl) ?_
      refine TH.two' (listed1 := #[Tt,Tt,Tt,Tt,Tt,Tt,Tt,Tt,Tt,Tt,Tt,Tt,Tt,Tt,Tt,Tt,Tt,Ff,Tt,Tt,Tt,Tt,Tt,Tt,Tt,Ff,Ff,Ff,Ff]) (listed2 := #[Tt,Tt,Tt,Tt,Tt,Tt,Tt,Tt,Tt,Tt,Tt,Tt,Tt,Tt,Tt,Tt,Ff,Ff,Tt,Tt,Tt,Tt,Tt,Tt,Tt,Tt,Ff,Ff,Ff]) 16 25 rfl rfl (by kernel_rfl) rfl rfl ?_ ?_
      ·refine TL.gu ?_
       refine TL.val rfl rfl rfl (gives_max0 (m := m) rfl rfl rfl) ?_
       refine TL.end_ ?_
       refine TX.held (fun w1 hw => hw.pick [4] (by decide) rfl) ?_
       refine TH.takeG (listed' := #[Tt,Tt,Tt,Tt,Tt,Tt,Tt,Tt,Tt,Tt,Tt,Tt,Tt,Tt,Tt,Tt,Tt,Tt,Tt,Tt,Tt,Tt,Tt,Tt,Tt,Ff,Ff,Ff,Ff]) 17 rfl (by kernel_rfl) (by kernel_rfl) (by kernel_rfl) rfl rfl rfl rfl rfl rfl (gives_sliceL (v := .slice (if c5 = m then A5 else A5.map (·.add m)) (m5 - m) (c5 - m)) rfl rfl rfl (fun w => cut_lo1 Tryd.underlying28 (fun w => rfl) A5 m5 c5 m rfl (by omega) w)) (fun w1 hw => hw.pick [4] (by decide) rfl) ?_
       refine TH.only' (listed' := #[Tt,Tt,Tt,Tt,Tt,Tt,Tt,Tt,Tt,Tt,Tt,Tt,Tt,Tt,Tt,Tt,Tt,Tt,Tt,Tt,Tt,Tt,Tt,Tt,Tt,Tt,Ff,Ff,Ff]) 25 rfl (by kernel_rfl) rfl ?_
       refine TL.gu ?_
       refine TL.pcallRow (n := 32) (ys := bv (macF key (l5.take m))) rfl rfl rfl rfl rfl Tryd.func29 jlfnm29 jlfbd29 (fun w1 hw => rmac_any _ _ _ key _ _ _ (l5.take m) w1 (byt_own (hw.at_ (k := 7) rfl) hB.kb) ((byt_own (hw.at_ (k := 3) rfl) hm54).head (by omega)) (by omega) (by omega)) (fun A100 c100 hA1001 hA1002 => ?_)
       refine TL.end_ ?_
       refine TX.held (fun w1 hw => hw.pick [5] (by decide) rfl) ?_
       refine TH.only' (listed' := #[Tt,Tt,Tt,Tt,Tt,Tt,Tt,Tt,Tt,Tt,Tt,Tt,Tt,Tt,Tt,Tt,Tt,Tt,Tt,Tt,Tt,Tt,Tt,Tt,Tt,Tt,Tt,Ff,Ff]) 26 rfl (by kernel_rfl) rfl ?_
       refine TL.gu ?_
       refine TL.pcall1 (r := .bool true) rfl rfl rfl rfl rfl Tryd.func16 jlfnm16 jlfbd16 (fun w1 hw => retb_lit (decide_eq_true hs5) ((requal_any _ _ _ _ _ _ (l5.drop m) (macF key (l5.take m)) w1 w1.heap.size ((byt_own (hw.at_ (k := 4) rfl) hm54).cut (by omega) hm51) (byt_own (hw.at_ (k := 0) rfl) (macF_bs _ _)) (by omega) (by omega)).mono fun e w2 ⟨h1, q, h2⟩ => ⟨h1, h2 ▸ drewN_below q⟩)) ?_
       refine TL.end_ ?_
       refine TX.held (fun w1 hw => hw.pick [5] (by decide) rfl) ?_
       refine TH.takeG (listed' := #[Tt,Tt,Tt,Tt,Tt,Tt,Tt,Tt,Tt,Tt,Tt,Tt,Tt,Tt,Tt,Tt,Tt,Tt,Tt,Tt,Tt,Tt,Tt,Tt,Tt,Tt,Tt,Tt,Ff]) 27 rfl (by kernel_rfl) (by kernel_rfl) (by kernel_rfl) rfl rfl rfl rfl rfl rfl (gives_boolnot rfl rfl) (fun w1 hw => hw.pick [5] (by decide) rfl) ?_
       refine TH.tk (listed' := #[Tt,Tt,Tt,Tt,Tt,Tt,Tt,Tt,Tt,Tt,Tt,Tt,Tt,Tt,Tt,Tt,Tt,Tt,Tt,Tt,Tt,Tt,Tt,Tt,Tt,Tt,Tt,Tt,Tt]) 28 rfl rfl rfl (gives_pick rfl rfl rfl) (fun w1 hw => hw.pick [5] (by decide) rfl) ?_
       refine TH.done (by kernel_rfl) ?_
       exact TX.joined (()) (⟨rfl, rfl, rfl, rfl, rfl, rfl, trivial⟩) (fun w1 hw => hw.sel (.cons _ (.cons _ (.cons _ (.cons _ (.cons _ (.cons_cons _ (.cons _ (.cons _ (.cons _ (.cons _ (.cons_cons _ (.cons_cons _ (List.Sublist.refl _))))))))))))))
      ·refine TL.gu ?_
       refine TL.pcallRow (n := 32) (ys := bv (macF key (l5.take m))) rfl rfl rfl rfl rfl Tryd.func29 jlfnm29 jlfbd29 (fun w1 hw => rmac_any _ _ _ key _ _ _ (l5.take m) w1 (byt_own (hw.at_ (k := 7) rfl) hB.kb) ((byt_own (hw.at_ (k := 3) rfl) hm54).head (by omega)) (by omega) (by omega)) (fun A100 c100 hA1001 hA1002 => ?_)
       refine TL.end_ ?_
       refine TX.held (fun w1 hw => hw.pick [5] (by decide) rfl) ?_
       refine TH.only' (listed' := #[Tt,Tt,Tt,Tt,Tt,Tt,Tt,Tt,Tt,Tt,Tt,Tt,Tt,Tt,Tt,Tt,Tt,Ff,Tt,Tt,Tt,Tt,Tt,Tt,Tt,Tt,Ff,Ff,Ff]) 16 rfl (by kernel_rfl) rfl ?_
       refine TL.gu ?_
       refine TL.val rfl rfl rfl (gives_max0 (m := m) rfl rfl rfl) ?_
       refine TL.end_ ?_
       refine TX.held (fun w1 hw => hw.pick [5] (by decide) rfl) ?_
       refine TH.takeG (listed' := #[Tt,Tt,Tt,Tt,Tt,Tt,Tt,Tt,Tt,Tt,Tt,Tt,Tt,Tt,Tt,Tt,Tt,Tt,Tt,Tt,Tt,Tt,Tt,Tt,Tt,Tt,Ff,Ff,Ff]) 17 rfl (by kernel_rfl) (by kernel_rfl) (by kernel_rfl) rfl rfl rfl rfl rfl rfl (gives_sliceL (v := .slice (if c5 = m then A5 else A5.map (·.add m)) (m5 - m) (c5 - m)) rfl rfl rfl (fun w => cut_lo1 Tryd.underlying28 (fun w => rfl) A5 m5 c5 m rfl (by omega) w)) (fun w1 hw => hw.pick [5] (by decide) rfl) ?_
       refine TH.only' (listed' := #[Tt,Tt,Tt,Tt,Tt,Tt,Tt,Tt,Tt,Tt,Tt,Tt,Tt,Tt,Tt,Tt,Tt,Tt,Tt,Tt,Tt,Tt,Tt,Tt,Tt,Tt,Tt,Ff,Ff]) 26 rfl (by kernel_rfl) rfl ?_
       refine TL.gu ?_
       refine TL.pcall1 (r := .bool true) rfl rfl rfl rfl rfl Tryd.func16 jlfnm16 jlfbd16 (fun w1 hw => retb_lit (decide_eq_true hs5) ((requal_any _ _ _ _ _ _ (l5.drop m) (macF key (l5.take m)) w1 w1.heap.size ((byt_own (hw.at_ (k := 4) rfl) hm54).cut (by omega) hm51) (byt_own (hw.at_ (k := 0) rfl) (macF_bs _ _)) (by omega) (by omega)).mono fun e w2 ⟨h1, q, h2⟩ => ⟨h1, h2 ▸ drewN_below q⟩)) ?_
       refine TL.end_ ?_
       refine TX.held (fun w1 hw => hw.pick [5] (by decide) rfl) ?_
       refine TH.takeG (listed' := #[Tt,Tt,Tt,Tt,Tt,Tt,Tt,Tt,Tt,Tt,Tt,Tt,Tt,Tt,Tt,Tt,Tt,Tt,Tt,Tt,Tt,Tt,Tt,Tt,Tt,Tt,Tt,Tt,Ff]) 27 rfl (by kernel_rfl) (by kernel_rfl) (by kernel_rfl) rfl rfl rfl rfl rfl rfl (gives_boolnot rfl rfl) (fun w1 hw => hw.pick [5] (by decide) rfl) ?_
       refine TH.tk (listed' := #[Tt,Tt,Tt,Tt,Tt,Tt,Tt,Tt,Tt,Tt,Tt,Tt,Tt,Tt,Tt,Tt,Tt,Tt,Tt,Tt,Tt,Tt,Tt,Tt,Tt,Tt,Tt,Tt,Tt]) 28 rfl rfl rfl (gives_pick rfl rfl rfl) (fun w1 hw => hw.pick [5] (by decide) rfl) ?_
       refine TH.done (by kernel_rfl) ?_
       exact TX.joined (()) (⟨rfl, rfl, rfl, rfl, rfl, rfl, trivial⟩) (fun w1 hw => hw.sel (.cons _ (.cons _ (.cons _ (.cons _ (.cons _ (.cons_cons _ (.cons _ (.cons _ (.cons _ (.cons _ (.cons_cons _ (.cons_cons _ (List.Sublist.refl _))))))))))))))
   ·rintro u
    refine TC.condF rfl (TC.skip_ (TX.then_ ?_))
    refine TC.join (α := Unit) (fun y => [(1, .slice A1 n1 c1), (5, .pointer (some ⟨wn.heap.size, 0, none⟩)), (6, .slice (some ⟨gS, 0, none⟩) ss.length cs), (11, .int .i64 (x44 : Nat)), (19, .int .i64 (accE c t.l other))]) (fun y => Pm wn ([.row (.slice (some ⟨gS, 0, none⟩) ss.length cs) 28 1 ss.length (ss.map Sl.val)] ++ segP ss)) ?_ ?_
    ·refine TC.held (ls := #[Ff,Ff,Ff,Ff,Ff,Ff,Ff,Ff,Ff,Ff,Ff,Ff,Ff,Ff,Ff]) (Pm wn [.row (.slice (some ⟨gS, 0, none⟩) ss.length cs) 28 1 ss.length (ss.map Sl.val), .blk g10 45 [.int .i64 c.v, .int .i64 c.run, .int .i64 c.n, .slice A2 c.dg.length c2]]) (by kernel_rfl) rfl rfl (fun w hw => hw.drawn _) ?_
     refine TH.tk (listed' := #[Tt,Ff,Ff,Ff,Ff,Ff,Ff,Ff,Ff,Ff,Ff,Ff,Ff,Ff,Ff]) 0 rfl rfl rfl (pm_loadV (k := 1) (i := 0) (n := 4) (v := .agg #[.int .i64 c.v, .int .i64 c.run, .int .i64 c.n, .slice A2 c.dg.length c2]) rfl rfl jlfag45 jlfsz45 rfl (by show 4 ≤ 4; decide) rfl) (fun w1 hw => hw.pick [0, 2] (by decide) rfl) ?_
     refine TH.tk (listed' := #[Tt,Tt,Ff,Ff,Ff,Ff,Ff,Ff,Ff,Ff,Ff,Ff,Ff,Ff,Ff]) 1 rfl rfl rfl (gives_move rfl rfl) (fun w1 hw => hw.pick [0, 2] (by decide) rfl) ?_
     refine TH.tk (listed' := #[Tt,Tt,Tt,Ff,Ff,Ff,Ff,Ff,Ff,Ff,Ff,Ff,Ff,Ff,Ff]) 2 rfl rfl rfl (gives_move rfl rfl) (fun w1 hw => hw.pick [0, 2] (by decide) rfl) ?_
     refine TH.tk (listed' := #[Tt,Tt,Tt,Tt,Ff,Ff,Ff,Ff,Ff,Ff,Ff,Ff,Ff,Ff,Ff]) 3 rfl rfl rfl (gives_at (v := .pointer (some ⟨gS, 0 + x44 * 1, none⟩)) rfl rfl rfl (fun w => at_el Tryd.underlying40 (fun w => rfl) rfl ss.length cs x44 hx44b rfl w)) (fun w1 hw => hw.pick [0, 2] (by decide) rfl) ?_
     refine TH.tk (listed' := #[Tt,Tt,Tt,Tt,Tt,Ff,Ff,Ff,Ff,Ff,Ff,Ff,Ff,Ff,Ff]) 4 rfl rfl rfl (pm_loadRow (k := 0) (v := t.val) rfl rfl (fun w => rfl) rfl hsc_t) (fun w1 hw => hw.pick [0, 2] (by decide) rfl) ?_
     refine TH.tk (listed' := #[Tt,Tt,Tt,Tt,Tt,Tt,Ff,Ff,Ff,Ff,Ff,Ff,Ff,Ff,Ff]) 5 rfl rfl rfl (gives_move rfl rfl) (fun w1 hw => hw.pick [0, 2] (by decide) rfl) ?_
     refine TH.two' (listed1 := #[Tt,Tt,Tt,Tt,Tt,Tt,Tt,Ff,Ff,Ff,Ff,Ff,Ff,Ff,Ff]) (listed2 := #[Tt,Tt,Tt,Tt,Tt,Tt,Ff,Ff,Ff,Ff,Ff,Tt,Ff,Ff,Ff]) 6 11 rfl rfl (by kernel_rfl) rfl rfl ?_ ?_
     ·refine TL.pcallPm (α := AccY (accC c t.l other) (accL c t.l other)) (fun y => .tuple #[.agg #[.int .i64 ((accC c t.l other).v), .int .i64 ((accC c t.l other).run), .int .i64 ((accC c t.l other).n), .slice y.1.2.1 ((accC c t.l other).dg.length) y.1.2.2], .slice y.1.1.1 ((accL c t.l other).length) y.1.1.2, .int .i64 (accE c t.l other)]) (fun y => [.row (.slice y.1.1.1 ((accL c t.l other).length) y.1.1.2) 27 17 ((accL c t.l other).length) (rcs (accL c t.l other)), .row (.slice y.1.2.1 ((accC c t.l other).dg.length) y.1.2.2) 5 1 ((accC c t.l other).dg.length) (bv (accC c t.l other).dg)]) rfl rfl rfl rfl rfl Tryd.func22 jlfnm22 jlfbd22 (fun w1 hw => (accept_any A2 _ c2 c t.A t.n t.c t.l A1 n1 c1 other w1 (byt_own (hw.at_ (k := 1) rfl) hi4) (hw.seg 3 rfl (segP_mem hm_t) hso_t.2.2.2.1) ((hb1n.below hw.bel).more hw.bel.size) hso_t.2.1 (by have := hso_t.2.2.2.2.2; omega) (by omega) (by omega) (by omega) (hst.below hw.bel hst.lt) (hky.below hw.bel hky.lt)).mono fun e w2 h => h.use) ?_
      rintro ⟨⟨⟨AR2, cR2⟩, ⟨DR2, eR2⟩⟩, ⟨hAR21, hAR22⟩, ⟨hDR21, hDR22⟩⟩
      dsimp only [List.cons_append, List.nil_append]
      dsimp only at hAR21 hAR22 hDR21 hDR22
      refine TL.end_ ?_
      refine TX.held (fun w1 hw => hw.pick [2, 4] (by decide) rfl) ?_
      refine TH.tk (listed' := #[Tt,Tt,Tt,Tt,Tt,Tt,Tt,Tt,Ff,Ff,Ff,Ff,Ff,Ff,Ff]) 7 rfl rfl rfl (gives_move rfl rfl) (fun w1 hw => hw.pick [2, 4] (by decide) rfl) ?_
      refine TH.tk (listed' := #[Tt,Tt,Tt,Tt,Tt,Tt,Tt,Tt,Tt,Ff,Ff,Ff,Ff,Ff,Ff]) 8 rfl rfl rfl (gives_extract rfl rfl rfl) (fun w1 hw => hw.pick [2, 4] (by decide) rfl) ?_
      refine TH.tk (listed' := #[Tt,Tt,Tt,Tt,Tt,Tt,Tt,Tt,Tt,Tt,Ff,Ff,Ff,Ff,Ff]) 9 rfl rfl rfl (gives_extract rfl rfl rfl) (fun w1 hw => hw.pick [2, 4] (by decide) rfl) ?_
      refine TH.tk (listed' := #[Tt,Tt,Tt,Tt,Tt,Tt,Tt,Tt,Tt,Tt,Tt,Ff,Ff,Ff,Ff]) 10 rfl rfl rfl (gives_extract rfl rfl rfl) (fun w1 hw => hw.pick [2, 4] (by decide) rfl) ?_
      refine TH.only' (listed' := #[Tt,Tt,Tt,Tt,Tt,Tt,Tt,Tt,Tt,Tt,Tt,Tt,Ff,Ff,Ff]) 11 rfl (by kernel_rfl) rfl ?_
      refine TL.pnew rfl rfl rfl (exec_alloc (cs := [.int .i64 0, .int .i64 0, .int .i64 0, .slice none 0 0]) rfl jlfzv45 rfl) (fun g17 => ?_)
      refine TL.end_ ?_
      refine TX.held (fun w1 hw => hw.pick [3, 5] (by decide) rfl) ?_
      refine TH.only' (listed' := #[Tt,Tt,Tt,Tt,Tt,Tt,Tt,Tt,Tt,Tt,Tt,Tt,Tt,Ff,Ff]) 12 rfl (by kernel_rfl) rfl ?_
      refine TL.pstore (k := 0) (vs := [.int .i64 ((accC c t.l other).v), .int .i64 ((accC c t.l other).run), .int .i64 ((accC c t.l other).n), .slice DR2 ((accC c t.l other).dg.length) eR2]) rfl rfl rfl rfl rfl rfl rfl jlfsz45 jlfone_i64i64i64s (by show 4 ≤ 4; decide) (L' := ([.blk g17 45 [.int .i64 ((accC c t.l other).v), .int .i64 ((accC c t.l other).run), .int .i64 ((accC c t.l other).n), .slice DR2 ((accC c t.l other).dg.length) eR2], .row (.slice AR2 ((accL c t.l other).length) cR2) 27 17 ((accL c t.l other).length) (rcs (accL c t.l other)), .row (.slice DR2 ((accC c t.l other).dg.length) eR2) 5 1 ((accC c t.l other).dg.length) (bv (accC c t.l other).dg), .row (.slice (some ⟨gS, 0, none⟩) ss.length cs) 28 1 ss.length (ss.map Sl.val), .row (.slice A2 c.dg.length c2) 5 1 c.dg.length (bv c.dg), .blk g10 45 [.int .i64 c.v, .int .i64 c.run, .int .i64 c.n, .slice A2 c.dg.length c2]] ++ segP ss)) rfl ?_
      refine TL.end_ ?_
      refine TX.held (fun w1 hw => hw.pick [3, 5] (by decide) rfl) ?_
      refine TH.tk (listed' := #[Tt,Tt,Tt,Tt,Tt,Tt,Tt,Tt,Tt,Tt,Tt,Tt,Tt,Tt,Ff]) 13 rfl rfl rfl (gives_assign rfl rfl) (fun w1 hw => hw.pick [3, 5] (by decide) rfl) ?_
      refine TH.tk (listed' := #[Tt,Tt,Tt,Tt,Tt,Tt,Tt,Tt,Tt,Tt,Tt,Tt,Tt,Tt,Tt]) 14 rfl rfl rfl (gives_assign rfl rfl) (fun w1 hw => hw.pick [3, 5] (by decide) rfl) ?_
      refine TH.done (by kernel_rfl) ?_
      exact TX.joined (()) (⟨rfl, rfl, rfl, rfl, rfl, trivial⟩) (fun w1 hw => hw.sel (.cons _ (.cons _ (.cons _ (.cons_cons _ (.cons _ (.cons _ (List.Sublist.refl _))))))))
     ·refine TL.pnew rfl rfl rfl (exec_alloc (cs := [.int .i64 0, .int .i64 0, .int .i64 0, .slice none 0 0]) rfl jlfzv45 rfl) (fun g17 => ?_)
      refine TL.end_ ?_
      refine TX.held (fun w1 hw => hw.pick [1, 3] (by decide) rfl) ?_
      refine TH.only' (listed' := #[Tt,Tt,Tt,Tt,Tt,Tt,Tt,Ff,Ff,Ff,Ff,Tt,Ff,Ff,Ff]) 6 rfl (by kernel_rfl) rfl ?_
      refine TL.pcallPm (α := AccY (accC c t.l other) (accL c t.l other)) (fun y => .tuple #[.agg #[.int .i64 ((accC c t.l other).v), .int .i64 ((accC c t.l other).run), .int .i64 ((accC c t.l other).n), .slice y.1.2.1 ((accC c t.l other).dg.length) y.1.2.2], .slice y.1.1.1 ((accL c t.l other).length) y.1.1.2, .int .i64 (accE c t.l other)]) (fun y => [.row (.slice y.1.1.1 ((accL c t.l other).length) y.1.1.2) 27 17 ((accL c t.l other).length) (rcs (accL c t.l other)), .row (.slice y.1.2.1 ((accC c t.l other).dg.length) y.1.2.2) 5 1 ((accC c t.l other).dg.length) (bv (accC c t.l other).dg)]) rfl rfl rfl rfl rfl Tryd.func22 jlfnm22 jlfbd22 (fun w1 hw => (accept_any A2 _ c2 c t.A t.n t.c t.l A1 n1 c1 other w1 (byt_own (hw.at_ (k := 2) rfl) hi4) (hw.seg 4 rfl (segP_mem hm_t) hso_t.2.2.2.1) ((hb1n.below hw.bel).more hw.bel.size) hso_t.2.1 (by have := hso_t.2.2.2.2.2; omega) (by omega) (by omega) (by omega) (hst.below hw.bel hst.lt) (hky.below hw.bel hky.lt)).mono fun e w2 h => h.use) ?_
      rintro ⟨⟨⟨AR2, cR2⟩, ⟨DR2, eR2⟩⟩, ⟨hAR21, hAR22⟩, ⟨hDR21, hDR22⟩⟩
      dsimp only [List.cons_append, List.nil_append]
      dsimp only at hAR21 hAR22 hDR21 hDR22
      refine TL.end_ ?_
      refine TX.held (fun w1 hw => hw.pick [3, 5] (by decide) rfl) ?_
      refine TH.tk (listed' := #[Tt,Tt,Tt,Tt,Tt,Tt,Tt,Tt,Ff,Ff,Ff,Tt,Ff,Ff,Ff]) 7 rfl rfl rfl (gives_move rfl rfl) (fun w1 hw => hw.pick [3, 5] (by decide) rfl) ?_
      refine TH.tk (listed' := #[Tt,Tt,Tt,Tt,Tt,Tt,Tt,Tt,Tt,Ff,Ff,Tt,Ff,Ff,Ff]) 8 rfl rfl rfl (gives_extract rfl rfl rfl) (fun w1 hw => hw.pick [3, 5] (by decide) rfl) ?_
      refine TH.tk (listed' := #[Tt,Tt,Tt,Tt,Tt,Tt,Tt,Tt,Tt,Tt,Ff,Tt,Ff,Ff,Ff]) 9 rfl rfl rfl (gives_extract rfl rfl rfl) (fun w1 hw => hw.pick [3, 5] (by decide) rfl) ?_
      refine TH.tk (listed' := #[Tt,Tt,Tt,Tt,Tt,Tt,Tt,Tt,Tt,Tt,Tt,Tt,Ff,Ff,Ff]) 10 rfl rfl rfl (gives_extract rfl rfl rfl) (fun w1 hw => hw.pick [3, 5] (by decide) rfl) ?_
      refine TH.only' (listed' := #[Tt,Tt,Tt,Tt,Tt,Tt,Tt,Tt,Tt,Tt,Tt,Tt,Tt,Ff,Ff]) 12 rfl (by kernel_rfl) rfl ?_
      refine TL.pstore (k := 2) (vs := [.int .i64 ((accC c t.l other).v), .int .i64 ((accC c t.l other).run), .int .i64 ((accC c t.l other).n), .slice DR2 ((accC c t.l other).dg.length) eR2]) rfl rfl rfl rfl rfl rfl rfl jlfsz45 jlfone_i64i64i64s (by show 4 ≤ 4; decide) (L' := ([.row (.slice AR2 ((accL c t.l other).length) cR2) 27 17 ((accL c t.l other).length) (rcs (accL c t.l other)), .row (.slice DR2 ((accC c t.l other).dg.length) eR2) 5 1 ((accC c t.l other).dg.length) (bv (accC c t.l other).dg), .blk g17 45 [.int .i64 ((accC c t.l other).v), .int .i64 ((accC c t.l other).run), .int .i64 ((accC c t.l other).n), .slice DR2 ((accC c t.l other).dg.length) eR2], .row (.slice (some ⟨gS, 0, none⟩) ss.length cs) 28 1 ss.length (ss.map Sl.val), .row (.slice A2 c.dg.length c2) 5 1 c.dg.length (bv c.dg), .blk g10 45 [.int .i64 c.v, .int .i64 c.run, .int .i64 c.n, .slice A2 c.dg.length c2]] ++ segP ss)) rfl ?_
      refine TL.end_ ?_
      refine TX.held (fun w1 hw => hw.pick [3, 5] (by decide) rfl) ?_
      refine TH.tk (listed' := #[Tt,Tt,Tt,Tt,Tt,Tt,Tt,Tt,Tt,Tt,Tt,Tt,Tt,Tt,Ff]) 13 rfl rfl rfl (gives_assign rfl rfl) (fun w1 hw => hw.pick [3, 5] (by decide) rfl) ?_
      refine TH.tk (listed' := #[Tt,Tt,Tt,Tt,Tt,Tt,Tt,Tt,Tt,Tt,Tt,Tt,Tt,Tt,Tt]) 14 rfl rfl rfl (gives_assign rfl rfl) (fun w1 hw => hw.pick [3, 5] (by decide) rfl) ?_
      refine TH.done (by kernel_rfl) ?_
      exact TX.joined (()) (⟨rfl, rfl, rfl, rfl, rfl, trivial⟩) (fun w1 hw => hw.sel (.cons _ (.cons _ (.cons _ (.cons_cons _ (.cons _ (.cons _ (List.Sublist.refl _))))))))
    ·rintro u
     refine TC.seq_ (TC.region ?_)
     refine TL.mv ?_
     refine TL.mv ?_
     refine TL.val rfl rfl rfl (gives_at (v := .pointer (some ⟨gS, 0 + x44 * 1, none⟩)) rfl rfl rfl (fun w => at_el Tryd.underlying40 (fun w => rfl) rfl ss.length cs x44 hx44b rfl w)) ?_
     refine TL.val rfl rfl rfl (pm_loadRow (k := 0) (v := t.val) rfl rfl (fun w => rfl) rfl hsc_t) ?_
     refine TL.val rfl rfl rfl (gives_len rfl Tryd.underlying28 rfl) ?_
     refine TL.val rfl rfl rfl (gives_bin rfl rfl rfl (fun w => bin_sub_ (r := (mt : Nat)) (by simp only [IntKind.wrap_i64]; omega) w)) ?_
     refine TL.as_ ?_
     refine TL.end_ (TX.then_ (TC.seq_ ?_))
     by_cases hso : sigB t.l other
     ·have hq2 : macF other (t.l.take mt) = t.l.drop mt := (hmt ▸ hso : t.l.drop mt = macF other (t.l.take mt)).symm
      have h19 : ¬ accE c t.l other = 19 := by rw [acc_whole hkt.1 hkt.2.1 hkt.2.2.1, if_neg (fun hh => hh hkt.2.2.2.1), if_neg (fun hh => hh hso)]; split <;> decide
      refine TC.held (ls := #[Ff,Ff,Ff,Ff,Ff,Ff,Ff,Ff,Ff,Ff,Ff,Ff,Ff,Ff,Ff,Ff]) (Pm wn [.row (.slice (some ⟨gS, 0, none⟩) ss.length cs) 28 1 ss.length (ss.map Sl.val)]) (by kernel_rfl) rfl rfl (fun w hw => hw.drawn _) ?_
      refine TH.tk (listed' := #[Tt,Ff,Ff,Ff,Ff,Ff,Ff,Ff,Ff,Ff,Ff,Ff,Ff,Ff,Ff,Ff]) 0 rfl rfl rfl (gives_move rfl rfl) (fun w1 hw => hw.pick [0] (by decide) rfl) ?_
      refine TH.tk (listed' := #[Tt,Tt,Ff,Ff,Ff,Ff,Ff,Ff,Ff,Ff,Ff,Ff,Ff,Ff,Ff,Ff]) 1 rfl rfl rfl (gives_move rfl rfl) (fun w1 hw => hw.pick [0] (by decide) rfl) ?_
      refine TH.tk (listed' := #[Tt,Tt,Tt,Ff,Ff,Ff,Ff,Ff,Ff,Ff,Ff,Ff,Ff,Ff,Ff,Ff]) 2 rfl rfl rfl (gives_move rfl rfl) (fun w1 hw => hw.pick [0] (by decide) rfl) ?_
      refine TH.tk (listed' := #[Tt,Tt,Tt,Tt,Ff,Ff,Ff,Ff,Ff,Ff,Ff,Ff,Ff,Ff,Ff,Ff]) 3 rfl rfl rfl (gives_at (v := .pointer (some ⟨gS, 0 + x44 * 1, none⟩)) rfl rfl rfl (fun w => at_el Tryd.underlying40 (fun w => rfl) rfl ss.length cs x44 hx44b rfl w)) (fun w1 hw => hw.pick [0] (by decide) rfl) ?_
      refine TH.tk (listed' := #[Tt,Tt,Tt,Tt,Tt,Ff,Ff,Ff,Ff,Ff,Ff,Ff,Ff,Ff,Ff,Ff]) 4 rfl rfl rfl (pm_loadRow (k := 0) (v := t.val) rfl rfl (fun w => rfl) rfl hsc_t) (fun w1 hw => hw.pick [0] (by decide) rfl) ?_
      refine TH.tk (listed' := #[Tt,Tt,Tt,Tt,Tt,Tt,Ff,Ff,Ff,Ff,Ff,Ff,Ff,Ff,Ff,Ff]) 5 rfl rfl rfl (gives_move rfl rfl) (fun w1 hw => hw.pick [0] (by decide) rfl) ?_
      refine TH.tk (listed' := #[Tt,Tt,Tt,Tt,Tt,Tt,Tt,Ff,Ff,Ff,Ff,Ff,Ff,Ff,Ff,Ff]) 6 rfl rfl rfl (gives_sliceH (v := .slice t.A mt t.c) rfl rfl rfl (fun w => cut_hi Tryd.underlying28 (fun w => rfl) t.A t.n t.c mt rfl (by omega) w)) (fun w1 hw => hw.pick [0] (by decide) rfl) ?_
      refine TH.tk (listed' := #[Tt,Tt,Tt,Tt,Tt,Tt,Tt,Ff,Tt,Ff,Ff,Ff,Ff,Ff,Ff,Ff]) 8 rfl rfl rfl (gives_move rfl rfl) (fun w1 hw => hw.pick [0] (by decide) rfl) ?_
      refine TH.tk (listed' := #[Tt,Tt,Tt,Tt,Tt,Tt,Tt,Ff,Tt,Tt,Ff,Ff,Ff,Ff,Ff,Ff]) 9 rfl rfl rfl (gives_move rfl rfl) (fun w1 hw => hw.pick [0] (by decide) rfl) ?_
      refine TH.tk (listed' := #[Tt,Tt,Tt,Tt,Tt,Tt,Tt,Ff,Tt,Tt,Tt,Ff,Ff,Ff,Ff,Ff]) 10 rfl rfl rfl (gives_at (v := .pointer (some ⟨gS, 0 + x44 * 1, none⟩)) rfl rfl rfl (fun w => at_el Tryd.underlying40 (fun w => rfl) rfl ss.length cs x44 hx44b rfl w)) (fun w1 hw => hw.pick [0] (by decide) rfl) ?_
      refine TH.tk (listed' := #[Tt,Tt,Tt,Tt,Tt,Tt,Tt,Ff,Tt,Tt,Tt,Tt,Ff,Ff,Ff,Ff]) 11 rfl rfl rfl (pm_loadRow (k := 0) (v := t.val) rfl rfl (fun w => rfl) rfl hsc_t) (fun w1 hw => hw.pick [0] (by decide) rfl) ?_
      refine TH.tk (listed' := #[Tt,Tt,Tt,Tt,Tt,Tt,Tt,Ff,Tt,Tt,Tt,Tt,Tt,Ff,Ff,Ff]) 12 rfl rfl rfl (gives_move rfl rfl) (fun w1 hw => hw.pick [0] (by decide) rfl) ?_
      refine TH.tk (listed' := #[Tt,Tt,Tt,Tt,Tt,Tt,Tt,Ff,Tt,Tt,Tt,Tt,Tt,Tt,Ff,Ff]) 13 rfl rfl rfl (gives_sliceL (v := .slice (if t.c = mt then t.A else t.A.map (·.add mt)) (t.n - mt) (t.c - mt)) rfl rfl rfl (fun w => cut_lo1 Tryd.underlying28 (fun w => rfl) t.A t.n t.c mt rfl (by omega) w)) (fun w1 hw => hw.pick [0] (by decide) rfl) ?_
      refine TH.only' (listed' := #[Tt,Tt,Tt,Tt,Tt,Tt,Tt,Tt,Tt,Tt,Tt,Tt,Tt,Tt,Ff,Ff]) 7 rfl (by kernel_rfl) rfl ?_
      refine TL.pcallRow (n := 32) (ys := bv (macF other (t.l.take mt))) rfl rfl rfl rfl rfl Tryd.func30 jlfnm30 jlfbd30 (fun w1 hw => mac_any _ _ _ other _ _ _ (t.l.take mt) w1 ((hb1n.below hw.bel).more hw.bel.size) ((hw.seg 1 rfl (segP_mem hm_t) hso_t.2.2.2.1).head (by omega)) (by omega) (by omega) (hst.below hw.bel hst.lt) (hky.below hw.bel hky.lt)) (fun A128 c128 hA1281 hA1282 => ?_)
      refine TL.end_ ?_
      refine TX.held (fun w1 hw => hw.pick [1] (by decide) rfl) ?_
      refine TH.only' (listed' := #[Tt,Tt,Tt,Tt,Tt,Tt,Tt,Tt,Tt,Tt,Tt,Tt,Tt,Tt,Tt,Ff]) 14 rfl (by kernel_rfl) rfl ?_
      refine TL.pcall1 (r := .bool true) rfl rfl rfl rfl rfl Tryd.func28 jlfnm28 jlfbd28 (fun w1 hw => retb_lit (decide_eq_true hq2) (wequal _ _ _ _ _ _ (macF other (t.l.take mt)) (t.l.drop mt) w1 (byt_own (hw.at_ (k := 0) rfl) (macF_bs _ _)) ((hw.seg 2 rfl (segP_mem hm_t) hso_t.2.2.2.1).cut (by omega) hso_t.2.1))) ?_
      refine TL.end_ ?_
      refine TX.held (fun w1 hw => hw.pick [1] (by decide) rfl) ?_
      refine TH.tk (listed' := #[Tt,Tt,Tt,Tt,Tt,Tt,Tt,Tt,Tt,Tt,Tt,Tt,Tt,Tt,Tt,Tt]) 15 rfl rfl rfl (gives_assign rfl rfl) (fun w1 hw => hw.pick [1] (by decide) rfl) ?_
      refine TH.done (by kernel_rfl) ?_
      refine TX.then_ (TC.seq_ (TC.region ?_))
      refine TL.mv ?_
      refine TL.val rfl rfl rfl (gives_bin rfl rfl rfl (fun w => bin_eql_f (h19) w)) ?_
      refine TL.mv ?_
      refine TL.val rfl rfl rfl (gives_boolnot rfl rfl) ?_
      refine TL.val rfl rfl rfl (gives_bin2 (v := .bool true) rfl rfl rfl (fun w => bin_eqb Tryd.underlying4 false false w)) ?_
      refine TL.as_ ?_
      refine TL.end_ (TX.then_ (TC.ret_ ?_))
      exact ret_tmp Tryd.results5 rfl (fun w1 hw => ⟨rfl, hwn.bel.trans (hw.bel.mono hwn.bel.size)⟩)
     ·have hq2 : ¬ macF other (t.l.take mt) = t.l.drop mt := fun hh => hso (by unfold sigB; rw [hmt]; exact hh.symm)
      have h19 : accE c t.l other = 19 := acc_sig hkt.1 hkt.2.1 hkt.2.2.1 hkt.2.2.2.1 hso
      refine TC.held (ls := #[Ff,Ff,Ff,Ff,Ff,Ff,Ff,Ff,Ff,Ff,Ff,Ff,Ff,Ff,Ff,Ff]) (Pm wn [.row (.slice (some ⟨gS, 0, none⟩) ss.length cs) 28 1 ss.length (ss.map Sl.val)]) (by kernel_rfl) rfl rfl (fun w hw => hw.drawn _) ?_
      refine TH.tk (listed' := #[Tt,Ff,Ff,Ff,Ff,Ff,Ff,Ff,Ff,Ff,Ff,Ff,Ff,Ff,Ff,Ff]) 0 rfl rfl rfl (gives_move rfl rfl) (fun w1 hw => hw.pick [0] (by decide) rfl) ?_
      refine TH.tk (listed' := #[Tt,Tt,Ff,Ff,Ff,Ff,Ff,Ff,Ff,Ff,Ff,Ff,Ff,Ff,Ff,Ff]) 1 rfl rfl rfl (gives_move rfl rfl) (fun w1 hw => hw.pick [0] (by decide) rfl) ?_
      refine TH.tk (listed' := #[Tt,Tt,Tt,Ff,Ff,Ff,Ff,Ff,Ff,Ff,Ff,Ff,Ff,Ff,Ff,Ff]) 2 rfl rfl rfl (gives_move rfl rfl) (fun w1 hw => hw.pick [0] (by decide) rfl) ?_
      refine TH.tk (listed' := #[Tt,Tt,Tt,Tt,Ff,Ff,Ff,Ff,Ff,Ff,Ff,Ff,Ff,Ff,Ff,Ff]) 3 rfl rfl rfl (gives_at (v := .pointer (some ⟨gS, 0 + x44 * 1, none⟩)) rfl rfl rfl (fun w => at_el Tryd.underlying40 (fun w => rfl) rfl ss.length cs x44 hx44b rfl w)) (fun w1 hw => hw.pick [0] (by decide) rfl) ?_
      refine TH.tk (listed' := #[Tt,Tt,Tt,Tt,Tt,Ff,Ff,Ff,Ff,Ff,Ff,Ff,Ff,Ff,Ff,Ff]) 4 rfl rfl rfl (pm_loadRow (k := 0) (v := t.val) rfl rfl (fun w => rfl) rfl hsc_t) (fun w1 hw => hw.pick [0] (by decide) rfl) ?_
      refine TH.tk (listed' := #[Tt,Tt,Tt,Tt,Tt,Tt,Ff,Ff,Ff,Ff,Ff,Ff,Ff,Ff,Ff,Ff]) 5 rfl rfl rfl (gives_move rfl rfl) (fun w1 hw => hw.pick [0] (by decide) rfl) ?_
      refine TH.tk (listed' := #[Tt,Tt,Tt,Tt,Tt,Tt,Tt,Ff,Ff,Ff,Ff,Ff,Ff,Ff,Ff,Ff]) 6 rfl rfl rfl (gives_sliceH (v := .slice t.A mt t.c) rfl rfl rfl (fun w => cut_hi Tryd.underlying28 (fun w => rfl) t.A t.n t.c mt rfl (by omega) w)) (fun w1 hw => hw.pick [0] (by decide) rfl) ?_
      refine TH.tk (listed' := #[Tt,Tt,Tt,Tt,Tt,Tt,Tt,Ff,Tt,Ff,Ff,Ff,Ff,Ff,Ff,Ff]) 8 rfl rfl rfl (gives_move rfl rfl) (fun w1 hw => hw.pick [0] (by decide) rfl) ?_
      refine TH.tk (listed' := #[Tt,Tt,Tt,Tt,Tt,Tt,Tt,Ff,Tt,Tt,Ff,Ff,Ff,Ff,Ff,Ff]) 9 rfl rfl rfl (gives_move rfl rfl) (fun w1 hw => hw.pick [0] (by decide) rfl) ?_
      refine TH.tk (listed' := #[Tt,Tt,Tt,Tt,Tt,Tt,Tt,Ff,Tt,Tt,Tt,Ff,Ff,Ff,Ff,Ff]) 10 rfl rfl rfl (gives_at (v := .pointer (some ⟨gS, 0 + x44 * 1, none⟩)) rfl rfl rfl (fun w => at_el Tryd.underlying40 (fun w => rfl) rfl ss.length cs x44 hx44b rfl w)) (fun w1 hw => hw.pick [0] (by decide) rfl) ?_
      refine TH.tk (listed' := #[Tt,Tt,Tt,Tt,Tt,Tt,Tt,Ff,Tt,Tt,Tt,Tt,Ff,Ff,Ff,Ff]) 11 rfl rfl rfl (pm_loadRow (k := 0) (v := t.val) rfl rfl (fun w => rfl) rfl hsc_t) (fun w1 hw => hw.pick [0] (by decide) rfl) ?_
      refine TH.tk (listed' := #[Tt,Tt,Tt,Tt,Tt,Tt,Tt,Ff,Tt,Tt,Tt,Tt,Tt,Ff,Ff,Ff]) 12 rfl rfl rfl (gives_move rfl rfl) (fun w1 hw => hw.pick [0] (by decide) rfl) ?_
      refine TH.tk (listed' := #[Tt,Tt,Tt,Tt,Tt,Tt,Tt,Ff,Tt,Tt,Tt,Tt,Tt,Tt,Ff,Ff]) 13 rfl rfl rfl (gives_sliceL (v := .slice (if t.c = mt then t.A else t.A.map (·.add mt)) (t.n - mt) (t.c - mt)) rfl rfl rfl (fun w => cut_lo1 Tryd.underlying28 (fun w => rfl) t.A t.n t.c mt rfl (by omega) w)) (fun w1 hw => hw.pick [0] (by decide) rfl) ?_
      refine TH.only' (listed' := #[Tt,Tt,Tt,Tt,Tt,Tt,Tt,Tt,Tt,Tt,Tt,Tt,Tt,Tt,Ff,Ff]) 7 rfl (by kernel_rfl) rfl ?_
      refine TL.pcallRow (n := 32) (ys := bv (macF other (t.l.take mt))) rfl rfl rfl rfl rfl Tryd.func30 jlfnm30 jlfbd30 (fun w1 hw => mac_any _ _ _ other _ _ _ (t.l.take mt) w1 ((hb1n.below hw.bel).more hw.bel.size) ((hw.seg 1 rfl (segP_mem hm_t) hso_t.2.2.2.1).head (by omega)) (by omega) (by omega) (hst.below hw.bel hst.lt) (hky.below hw.bel hky.lt)) (fun A128 c128 hA1281 hA1282 => ?_)
      refine TL.end_ ?_
      refine TX.held (fun w1 hw => hw.pick [1] (by decide) rfl) ?_
      refine TH.only' (listed' := #[Tt,Tt,Tt,Tt,Tt,Tt,Tt,Tt,Tt,Tt,Tt,Tt,Tt,Tt,Tt,Ff]) 14 rfl (by kernel_rfl) rfl ?_
      refine TL.pcall1 (r := .bool false) rfl rfl rfl rfl rfl Tryd.func28 jlfnm28 jlfbd28 (fun w1 hw => retb_lit (decide_eq_false hq2) (wequal _ _ _ _ _ _ (macF other (t.l.take mt)) (t.l.drop mt) w1 (byt_own (hw.at_ (k := 0) rfl) (macF_bs _ _)) ((hw.seg 2 rfl (segP_mem hm_t) hso_t.2.2.2.1).cut (by omega) hso_t.2.1))) ?_
      refine TL.end_ ?_
      refine TX.held (fun w1 hw => hw.pick [1] (by decide) rfl) ?_
      refine TH.tk (listed' := #[Tt,Tt,Tt,Tt,Tt,Tt,Tt,Tt,Tt,Tt,Tt,Tt,Tt,Tt,Tt,Tt]) 15 rfl rfl rfl (gives_assign rfl rfl) (fun w1 hw => hw.pick [1] (by decide) rfl) ?_
      refine TH.done (by kernel_rfl) ?_
      refine TX.then_ (TC.seq_ (TC.region ?_))
      refine TL.mv ?_
      refine TL.val rfl rfl rfl (gives_bin rfl rfl rfl (fun w => bin_eql_t (h19) w)) ?_
      refine TL.mv ?_
      refine TL.val rfl rfl rfl (gives_boolnot rfl rfl) ?_
      refine TL.val rfl rfl rfl (gives_bin2 (v := .bool true) rfl rfl rfl (fun w => bin_eqb Tryd.underlying4 true true w)) ?_
      refine TL.as_ ?_
      refine TL.end_ (TX.then_ (TC.ret_ ?_))
      exact ret_tmp Tryd.results5 rfl (fun w1 hw => ⟨rfl, hwn.bel.trans (hw.bel.mono hwn.bel.size)⟩)
end Go.Proofs.YtmeaeeehnkcblaaDoor
