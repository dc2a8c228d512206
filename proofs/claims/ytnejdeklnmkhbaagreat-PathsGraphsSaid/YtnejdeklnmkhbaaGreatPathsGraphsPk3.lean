/-
  Texts of the proof, joined: PtROrd, PtTrc, PtOf, SymMapV, SymMapR, PtKey, PtLook, PtAt, VwLaw, PtChk, SymGrp, PtGrp, PtGra, PtBld, PtWir.
-/
import Derived.Test.YtnejdeklnmkhbaaGreatPathsGraphsPk2
import Derived.Test.YtnejdeklnmkhbaaGreatPathsGraphsPk1
import Derived.Maps.RangeRun
import Derived.DeepKeys5
import Derived.Sort.OwnSortedInts
set_option linter.unusedVariables false
set_option linter.unusedSimpArgs false
namespace Go.Proofs.YtnejdeklnmkhbaaGreat
open Go.RowKit
set_option maxRecDepth 20000
theorem IsOrd.nil : IsOrd [] [] := ⟨List.Pairwise.nil, fun x => by simp⟩
theorem mem_take_snoc {α : Type} {l : List α} {i : Nat} {x z : α} (hx : l[i]? = some x) : z ∈ l.take (i + 1) ↔ z ∈ l.take i ∨ z = x := by
 rw [List.take_add_one, hx, List.mem_append]
 simp
theorem IsOrd.skip {l o : List Rs} {i : Nat} {x : Rs} (h : IsOrd (l.take i) o) (hx : l[i]? = some x) (hv : vldRs x = false) : IsOrd (l.take (i + 1)) o := ⟨h.1, fun z => by
 rw [h.2, mem_take_snoc hx]
 constructor
 ·exact fun hh => ⟨.inl hh.1, hh.2⟩
 ·rintro ⟨h1 | h1, h2⟩
  ·exact ⟨h1, h2⟩
  ·subst h1; rw [hv] at h2; cases h2⟩
theorem IsOrd.dup {l o : List Rs} {i q : Nat} {x y : Rs} (h : IsOrd (l.take i) o) (hx : l[i]? = some x) (hv : vldRs x = true) (hok : ∀ r ∈ l, r.Ok) (hy : o[q]? = some y) (hc : cmpRs y x = 0) : IsOrd (l.take (i + 1)) o := by
 have hym := List.mem_of_getElem? hy
 have e : y = x := keys_inj (hok y (List.mem_of_mem_take ((h.2 y).1 hym).1)) (hok x (List.mem_of_getElem? hx)) ((lexI_zero (a := y.keys) (b := x.keys) rfl).1 hc)
 subst e
 refine ⟨h.1, fun z => ?_⟩
 rw [h.2, mem_take_snoc hx]
 constructor
 ·exact fun hh => ⟨.inl hh.1, hh.2⟩
 ·rintro ⟨h1 | h1, h2⟩
  ·exact ⟨h1, h2⟩
  ·rw [h1]; exact (h.2 y).1 hym
theorem IsOrd.put {l o : List Rs} {i q : Nat} {x : Rs} (h : IsOrd (l.take i) o) (hx : l[i]? = some x) (hv : vldRs x = true) (h1 : ∀ y ∈ o.take q, lexI y.keys x.keys < 0) (h2 : ∀ y ∈ o.drop q, lexI x.keys y.keys < 0) : IsOrd (l.take (i + 1)) (o.take q ++ x :: o.drop q) := by
 refine ⟨ascK_put keys_len h.1 h1 h2, fun z => ?_⟩
 rw [mem_put, h.2, mem_take_snoc hx]
 constructor
 ·rintro (hh | hh)
  ·exact ⟨.inl hh.1, hh.2⟩
  ·rw [hh]; exact ⟨.inr rfl, hv⟩
 ·rintro ⟨h3 | h3, h4⟩
  ·exact .inl ⟨h3, h4⟩
  ·exact .inr h3
set_option maxHeartbeats 1000000 in
theorem rord_any (A0 : Option Addr) (c0 : Nat) (l : List Rs) (w : World) (hr : Reads w w.heap.size 17 A0 l.length (flat Rs.cells l)) (hl1 : l.length ≤ 100000) (hok : ∀ r ∈ l, r.Ok) :
  Calls Tryz.prog 41 #[.slice A0 l.length c0] w fun e w' => ∃ x : {y : (Option Addr × Nat) × List Rs // IsOrd l y.2 ∧ y.2.length ≤ y.1.2 ∧ y.1.2 ≤ maxLen}, e = .returned (.slice x.1.1.1 x.1.2.length x.1.1.2) ∧ Pm w [.row (.slice x.1.1.1 x.1.2.length x.1.1.2) 47 17 x.1.2.length (flat Rs.cells x.1.2)] w' := by
 refine begin_ (vs := [.slice A0 l.length c0]) Tryz.func41 rfl rfl rfl ?_ (Pm.start w)
 refine zSG ?_
 refine TL.as_ ?_
 refine zET (zSG ?_)
 refine TL.as_ ?_
 refine zET (zS (zSG ?_))
 refine TL.as_ ?_
 refine zET (zB ?_)
 refine TC.nilrow 47 17 ?_
 refine TC.loop_ (α := {y : Nat × (Option Addr × Nat) × Nat × List Rs // y.1 ≤ l.length ∧ (IsOrd (l.take y.1) y.2.2.2) ∧ y.2.2.1 ≤ y.1 ∧ y.2.2.1 ≤ y.2.1.2 ∧ y.2.1.2 ≤ maxLen ∧ y.2.2.2.length = y.2.2.1}) (fun y => [(0, .slice A0 l.length c0), (2, .slice none 0 0), (4, .int .i64 ((y.1.1 : Nat) : Int)), (3, .slice y.1.2.1.1 y.1.2.2.1 y.1.2.1.2)]) (fun y => Pm w [.row (.slice y.1.2.1.1 y.1.2.2.1 y.1.2.1.2) 47 17 y.1.2.2.1 (flat Rs.cells y.1.2.2.2)]) (fun y => l.length - y.1.1) (⟨(0, (none, 0), 0, []), Nat.zero_le _, IsOrd.nil, Nat.le_refl _, Nat.le_refl _, Nat.zero_le _, rfl⟩) ⟨rfl, rfl, rfl, rfl, trivial⟩ (fun w1 hw => hw) ?_
 rintro ⟨⟨i, ⟨Ao, co⟩, m, out⟩, hi, hout, houtl, houtc, houtm, houtn⟩
 dsimp only at hi hout houtl houtc houtm houtn ⊢
 refine zS (zSG ?_)
 refine TL.rn 2 rfl ?_
 refine TL.v (gN Tryz.underlying26) ?_
 refine TL.vsplit rfl rfl rfl (gives_bin rfl rfl rfl (fun w => bin_lss w)) (fun h9 => ?_) (fun h9 => ?_)
 ·have q9 := of_decide_eq_true h9
  refine zET (zc (zk (zT (zS (zB (zS (zSG ?_)))))))
  refine TL.rn 2 rfl ?_
  have hi14 : i < l.length := by omega
  obtain ⟨x14, hx14⟩ := ex_at hi14
  obtain ⟨b14, o14, hA14, hbb14, hc14⟩ := hr.ad (by omega) (by decide)
  refine TL.val rfl rfl rfl (gA (i := i) Tryz.underlying26 prssz47 rfl rfl rfl rfl hA14 (by omega)) ?_
  refine TL.v (gR rs_cel prsag47 prssz47 hbb14 hx14 hc14) ?_
  refine TL.callsplit rfl rfl rfl rfl rfl Tryz.func27 (by decide) rfl (fun w1 hw => rvldRs_any x14 w1) (fun h16 => ?_) (fun h16 => ?_)
  ·refine TL.val rfl rfl rfl (gives_boolnot rfl rfl) ?_
   refine zET (zd (zk (zT (zSG ?_))))
   refine TL.mv ?_
   refine TL.v (gN Tryz.underlying26) ?_
   refine TL.as_ ?_
   refine zET (zS (zB ?_))
   refine TC.loop_ (α := {k : Nat // k ≤ out.length ∧ ∀ z ∈ out.drop k, lexI x14.keys z.keys < 0}) (fun y => [(0, .slice A0 l.length c0), (2, .slice none 0 0), (3, .slice Ao m co), (4, .int .i64 ((i : Nat) : Int)), (5, .int .i64 ((y.1 : Nat) : Int))]) (fun y => Pm w [.row (.slice Ao m co) 47 17 m (flat Rs.cells out)]) (fun y => y.1) (⟨m, by omega, fun z hz => by rw [List.drop_of_length_le (by omega)] at hz; cases hz⟩) ⟨rfl, rfl, rfl, rfl, rfl, trivial⟩ (fun w1 hw => hw) ?_
   rintro ⟨k, hk, hgt⟩
   try dsimp only at hk hgt ⊢
   refine zS (zS ?_)
   by_cases hk0 : k = 0
   ·refine TC.quietQ (by kernel_rfl) (by kernel_rfl) (fun w hw => hw.drawn _) ?_
    refine TQ.val rfl rfl rfl (gives_move rfl rfl) ?_
    refine TQ.val rfl rfl rfl (gives_bin rfl rfl rfl (fun w => bin_gtr_f (by omega) w)) ?_
    refine TQ.rn 13 rfl ?_
    refine TQ.fin ?_
    refine zT (zd (zx (zX (zX (zM (zT (zS (zS ?_))))))))
    ·refine TC.quietQ (by kernel_rfl) (by kernel_rfl) (fun w hw => hw.drawn _) ?_
     refine TQ.val rfl rfl rfl (gives_move rfl rfl) ?_
     refine TQ.val rfl rfl rfl (gives_bin rfl rfl rfl (fun w => bin_gtr_f (by omega) w)) ?_
     refine TQ.rn 13 rfl ?_
     refine TQ.fin ?_
     refine zT (zd (zk (zT (zSG ?_))))
     refine TL.rn 3 rfl ?_
     refine TL.val rfl rfl rfl (gA (i := i) Tryz.underlying26 prssz47 rfl rfl rfl rfl hA14 (by omega)) ?_
     refine TL.v (gR rs_cel prsag47 prssz47 hbb14 hx14 hc14) ?_
     refine TL.prowS (e := 47) (size := 17) (cs := flat Rs.cells [x14]) rfl rfl rfl rfl rfl (fun w => porbs26_1_99505 _ _ _ _ _ _ _ _ _ _ _ _ _ _ _ _ _ w) (by decide) rfl (fun g57 => ?_)
     refine TL.appendT (k := 1) rfl rfl rfl rfl Tryz.underlying26 porel26 rfl rfl rfl (fun w1 hw => pm_reads hw (k := 0) rfl) (flat_one rs_cel _) (by show _ * 128 ≤ _; omega) (m + 1) (rfl) (flat Rs.cells (out ++ [x14])) ((flat_app _ _).symm) (fun A58 c58 hA581 hA582 => ?_)
     refine TL.as_ ?_
     refine zET (zS ?_)
     have hn1 : (out ++ [x14]).length = out.length + 1 := by simp
     have hn2 : (shiftL (out ++ [x14]) k).length = out.length + 1 := by rw [shiftL_len _ _ (by omega), hn1]
     refine TC.fact (p := ∃ g, A58 = some ⟨g, 0, none⟩) (fun w1 hw => rowA hw (k := 1) rfl (by simp)) ?_
     rintro ⟨g_A58, rfl⟩
     refine TC.tail 7 (by kernel_rfl) (by kernel_rfl) (fun w hw => hw.drawn _) ?_
     refine TS.val rfl rfl rfl (gives_move rfl rfl) ?_
     refine TS.val rfl rfl rfl (gives_move rfl rfl) ?_
     refine TS.v (gD ((k + 1 : Nat) : Int)) ?_
     refine TS.val rfl rfl rfl (gives_sliceL (v := .slice (if c58 = k + 1 then some ⟨g_A58, 0, none⟩ else (some (⟨g_A58, 0, none⟩ : Addr)).map (·.add ((k + 1) * 17))) ((m + 1) - (k + 1)) (c58 - (k + 1))) rfl rfl rfl (fun w => cut_lo Tryz.underlying26 prssz47 _ _ _ (k + 1) rfl (by omega) w)) ?_
     refine TS.val rfl rfl rfl (gives_move rfl rfl) ?_
     refine TS.val rfl rfl rfl (gives_move rfl rfl) ?_
     refine TS.val rfl rfl rfl (gives_tailF (q := k) rfl rfl rfl rfl Tryz.underlying26 prssz47 (by omega) (by omega)) ?_
     refine TS.end_ ?_
     refine TL.shiftF rs_cel (kk := 1) (k := k) rfl rfl rfl rfl Tryz.underlying26 prssz47 rfl rfl rfl (by omega) (by omega) (by omega) ?_
     try dsimp only [List.set_cons_zero, List.set_cons_succ]
     refine zET (zG ?_)
     refine TL.rn 4 rfl ?_
     refine TL.val rfl rfl rfl (gA (i := i) Tryz.underlying26 prssz47 rfl rfl rfl rfl hA14 (by omega)) ?_
     refine TL.v (gR rs_cel prsag47 prssz47 hbb14 hx14 hc14) ?_
     have hi73 : k < (shiftL (out ++ [x14]) k).length := by omega
     obtain ⟨x73, hx73⟩ := ex_at hi73
     refine TL.val rfl rfl rfl (gA (i := k) Tryz.underlying26 prssz47 rfl rfl rfl rfl rfl (by omega)) ?_
     refine TL.rowset (k := 1) (vs := x14.cells) (xs' := flat Rs.cells ((shiftL (out ++ [x14]) k).set k x14)) rfl rfl rfl rfl rfl rfl rfl prssz47 (rs_cel.one _) (by rw [flat_len rs_cel]; show 0 + k * 17 + 17 ≤ _; omega) (flat_put rs_cel (q := 0) (y := x14) hx73 (by show 0 + 17 ≤ 17; decide) rfl) ?_
     try dsimp only [List.set_cons_zero, List.set_cons_succ]
     refine zE (zN (zT (zG ?_)))
     refine TL.mv ?_
     refine TL.v (gD ((i + 1 : Nat) : Int)) ?_
     refine TL.as_ ?_
     refine zE ?_
     exact TX.round (⟨(i + 1, ((some ⟨g_A58, 0, none⟩), c58), m + 1, (shiftL (out ++ [x14]) k).set k x14), by dsimp only; omega, by dsimp only; rw [shiftL_at _ _ _ _ (by omega)]; exact hout.put hx14 h16 (fun z hz => by rw [hk0, List.take_zero] at hz; cases hz) hgt, by dsimp only; omega, hA581, hA582, by dsimp only; rw [List.length_set]; omega⟩) (by show l.length - (i + 1) < l.length - i; omega) ⟨rfl, rfl, rfl, rfl, trivial⟩ (fun w1 hw => hw.pick [1] (by decide) rfl)
   ·refine TC.fact (p := ∃ g, Ao = some ⟨g, 0, none⟩) (fun w1 hw => rowA hw (k := 0) rfl (by omega)) ?_
    rintro ⟨g_Ao, rfl⟩
    refine TC.quietQ (by kernel_rfl) (by kernel_rfl) (fun w hw => hw.drawn _) ?_
    refine TQ.val rfl rfl rfl (gives_move rfl rfl) ?_
    refine TQ.val rfl rfl rfl (gives_bin rfl rfl rfl (fun w => bin_gtr_t (by omega) w)) ?_
    refine TQ.rn 3 rfl ?_
    refine TQ.on rfl rfl rfl ?_
    refine TQ.val rfl rfl rfl (gives_bin rfl rfl rfl (fun w => bin_sub_ (r := ((k - 1 : Nat) : Int)) (by simp only [IntKind.wrap_i64]; omega) w)) ?_
    refine TQ.on rfl rfl rfl ?_
    have hi26 : k - 1 < out.length := by omega
    obtain ⟨x26, hx26⟩ := ex_at hi26
    refine TQ.val rfl rfl rfl (gA (i := (k - 1)) Tryz.underlying26 prssz47 rfl rfl rfl rfl rfl (by omega)) ?_
    refine TQ.on rfl rfl rfl ?_
    refine TQ.val rfl rfl rfl (gives_loadR (off := 0 + (k - 1) * 17) rfl rfl prsag47 prssz47 (rs_cel.len x26) (fun w1 hw j9 u9 h9 => flat_row rs_cel hw (q := 0) rfl hx26 j9 u9 h9)) ?_
    refine TQ.rn 2 rfl ?_
    refine TQ.on rfl rfl rfl ?_
    refine TQ.val rfl rfl rfl (gA (i := i) Tryz.underlying26 prssz47 rfl rfl rfl rfl hA14 (by omega)) ?_
    refine TQ.ov (gR rs_cel prsag47 prssz47 hbb14 hx14 hc14) ?_
    refine TQ.on rfl rfl rfl ?_
    refine TQ.call (v := .int .i64 (cmpRs x26 x14)) rfl rfl rfl rfl rfl Tryz.func32 (by decide) rfl (fun w1 hw => (rcmpRs_any x26 x14 w1).mono fun en w2 ⟨h1, h2⟩ => ⟨h1, hw.below h2⟩) ?_
    refine TQ.on rfl rfl rfl ?_
    refine TQ.sp bin_gtr (fun q33 => ?_) (fun q33 => ?_)
    ·have hgt2 : ∀ z ∈ out.drop (k - 1), lexI x14.keys z.keys < 0 := ascK_behind keys_len hout.1 hx26 ((posK keys_len).1 q33)
     refine TQ.val rfl rfl rfl (gives_pick rfl rfl rfl) ?_
     refine TQ.fin ?_
     refine zT (zc (zk (zT (zB (zG ?_)))))
     refine TL.mv ?_
     refine TL.val rfl rfl rfl (gives_bin rfl rfl rfl (fun w => bin_sub_ (r := ((k - 1 : Nat) : Int)) (by simp only [IntKind.wrap_i64]; omega) w)) ?_
     refine TL.as_ ?_
     refine zE (zN ?_)
     exact TX.round (⟨k - 1, by omega, hgt2⟩) (by show k - 1 < k; omega) ⟨rfl, rfl, rfl, rfl, rfl, trivial⟩ (fun w1 hw => hw)
    ·refine TQ.val rfl rfl rfl (gives_pick rfl rfl rfl) ?_
     refine TQ.fin ?_
     refine zT (zd (zx (zX (zX (zM (zT (zS (zS ?_))))))))
     ·refine TC.quietQ (by kernel_rfl) (by kernel_rfl) (fun w hw => hw.drawn _) ?_
      refine TQ.val rfl rfl rfl (gives_move rfl rfl) ?_
      refine TQ.val rfl rfl rfl (gives_bin rfl rfl rfl (fun w => bin_gtr_t (by omega) w)) ?_
      refine TQ.rn 3 rfl ?_
      refine TQ.on rfl rfl rfl ?_
      refine TQ.val rfl rfl rfl (gives_bin rfl rfl rfl (fun w => bin_sub_ (r := ((k - 1 : Nat) : Int)) (by simp only [IntKind.wrap_i64]; omega) w)) ?_
      refine TQ.on rfl rfl rfl ?_
      refine TQ.val rfl rfl rfl (gA (i := (k - 1)) Tryz.underlying26 prssz47 rfl rfl rfl rfl rfl (by omega)) ?_
      refine TQ.on rfl rfl rfl ?_
      refine TQ.val rfl rfl rfl (gives_loadR (off := 0 + (k - 1) * 17) rfl rfl prsag47 prssz47 (rs_cel.len x26) (fun w1 hw j9 u9 h9 => flat_row rs_cel hw (q := 0) rfl hx26 j9 u9 h9)) ?_
      refine TQ.rn 2 rfl ?_
      refine TQ.on rfl rfl rfl ?_
      refine TQ.val rfl rfl rfl (gA (i := i) Tryz.underlying26 prssz47 rfl rfl rfl rfl hA14 (by omega)) ?_
      refine TQ.ov (gR rs_cel prsag47 prssz47 hbb14 hx14 hc14) ?_
      refine TQ.on rfl rfl rfl ?_
      refine TQ.call (v := .int .i64 (cmpRs x26 x14)) rfl rfl rfl rfl rfl Tryz.func32 (by decide) rfl (fun w1 hw => (rcmpRs_any x26 x14 w1).mono fun en w2 ⟨h1, h2⟩ => ⟨h1, hw.below h2⟩) ?_
      refine TQ.on rfl rfl rfl ?_
      refine TQ.sp bin_eql (fun q50 => ?_) (fun q50 => ?_)
      ·refine TQ.val rfl rfl rfl (gives_pick rfl rfl rfl) ?_
       refine TQ.fin ?_
       refine zT (zc (zx (zX (zM (zT (zG ?_))))))
       refine TL.mv ?_
       refine TL.v (gD ((i + 1 : Nat) : Int)) ?_
       refine TL.as_ ?_
       refine zE ?_
       exact TX.round (⟨(i + 1, ((some ⟨g_Ao, 0, none⟩), co), m, out), by dsimp only; omega, hout.dup hx14 h16 hok hx26 (by exact q50), by dsimp only; omega, houtc, houtm, houtn⟩) (by show l.length - (i + 1) < l.length - i; omega) ⟨rfl, rfl, rfl, rfl, trivial⟩ (fun w1 hw => hw)
      ·refine TQ.val rfl rfl rfl (gives_pick rfl rfl rfl) ?_
       refine TQ.fin ?_
       refine zT (zd (zk (zT (zSG ?_))))
       refine TL.rn 3 rfl ?_
       refine TL.val rfl rfl rfl (gA (i := i) Tryz.underlying26 prssz47 rfl rfl rfl rfl hA14 (by omega)) ?_
       refine TL.v (gR rs_cel prsag47 prssz47 hbb14 hx14 hc14) ?_
       refine TL.prowS (e := 47) (size := 17) (cs := flat Rs.cells [x14]) rfl rfl rfl rfl rfl (fun w => porbs26_1_99505 _ _ _ _ _ _ _ _ _ _ _ _ _ _ _ _ _ w) (by decide) rfl (fun g57 => ?_)
       refine TL.appendT (k := 1) rfl rfl rfl rfl Tryz.underlying26 porel26 rfl rfl rfl (fun w1 hw => pm_reads hw (k := 0) rfl) (flat_one rs_cel _) (by show _ * 128 ≤ _; omega) (m + 1) (rfl) (flat Rs.cells (out ++ [x14])) ((flat_app _ _).symm) (fun A58 c58 hA581 hA582 => ?_)
       refine TL.as_ ?_
       refine zET (zS ?_)
       have hn1 : (out ++ [x14]).length = out.length + 1 := by simp
       have hn2 : (shiftL (out ++ [x14]) k).length = out.length + 1 := by rw [shiftL_len _ _ (by omega), hn1]
       refine TC.fact (p := ∃ g, A58 = some ⟨g, 0, none⟩) (fun w1 hw => rowA hw (k := 1) rfl (by simp)) ?_
       rintro ⟨g_A58, rfl⟩
       refine TC.tail 7 (by kernel_rfl) (by kernel_rfl) (fun w hw => hw.drawn _) ?_
       refine TS.val rfl rfl rfl (gives_move rfl rfl) ?_
       refine TS.val rfl rfl rfl (gives_move rfl rfl) ?_
       refine TS.v (gD ((k + 1 : Nat) : Int)) ?_
       refine TS.val rfl rfl rfl (gives_sliceL (v := .slice (if c58 = k + 1 then some ⟨g_A58, 0, none⟩ else (some (⟨g_A58, 0, none⟩ : Addr)).map (·.add ((k + 1) * 17))) ((m + 1) - (k + 1)) (c58 - (k + 1))) rfl rfl rfl (fun w => cut_lo Tryz.underlying26 prssz47 _ _ _ (k + 1) rfl (by omega) w)) ?_
       refine TS.val rfl rfl rfl (gives_move rfl rfl) ?_
       refine TS.val rfl rfl rfl (gives_move rfl rfl) ?_
       refine TS.val rfl rfl rfl (gives_tailF (q := k) rfl rfl rfl rfl Tryz.underlying26 prssz47 (by omega) (by omega)) ?_
       refine TS.end_ ?_
       refine TL.shiftF rs_cel (kk := 1) (k := k) rfl rfl rfl rfl Tryz.underlying26 prssz47 rfl rfl rfl (by omega) (by omega) (by omega) ?_
       try dsimp only [List.set_cons_zero, List.set_cons_succ]
       refine zET (zG ?_)
       refine TL.rn 4 rfl ?_
       refine TL.val rfl rfl rfl (gA (i := i) Tryz.underlying26 prssz47 rfl rfl rfl rfl hA14 (by omega)) ?_
       refine TL.v (gR rs_cel prsag47 prssz47 hbb14 hx14 hc14) ?_
       have hi73 : k < (shiftL (out ++ [x14]) k).length := by omega
       obtain ⟨x73, hx73⟩ := ex_at hi73
       refine TL.val rfl rfl rfl (gA (i := k) Tryz.underlying26 prssz47 rfl rfl rfl rfl rfl (by omega)) ?_
       refine TL.rowset (k := 1) (vs := x14.cells) (xs' := flat Rs.cells ((shiftL (out ++ [x14]) k).set k x14)) rfl rfl rfl rfl rfl rfl rfl prssz47 (rs_cel.one _) (by rw [flat_len rs_cel]; show 0 + k * 17 + 17 ≤ _; omega) (flat_put rs_cel (q := 0) (y := x14) hx73 (by show 0 + 17 ≤ 17; decide) rfl) ?_
       try dsimp only [List.set_cons_zero, List.set_cons_succ]
       refine zE (zN (zT (zG ?_)))
       refine TL.mv ?_
       refine TL.v (gD ((i + 1 : Nat) : Int)) ?_
       refine TL.as_ ?_
       refine zE ?_
       exact TX.round (⟨(i + 1, ((some ⟨g_A58, 0, none⟩), c58), m + 1, (shiftL (out ++ [x14]) k).set k x14), by dsimp only; omega, by dsimp only; rw [shiftL_at _ _ _ _ (by omega)]; exact hout.put hx14 h16 (fun z hz => ascK_ahead keys_len hout.1 hx26 (by have := q33; have := q50; show cmpRs _ _ < 0; omega) z (by rwa [Nat.sub_add_cancel (by omega)])) hgt, by dsimp only; omega, hA581, hA582, by dsimp only; rw [List.length_set]; omega⟩) (by show l.length - (i + 1) < l.length - i; omega) ⟨rfl, rfl, rfl, rfl, trivial⟩ (fun w1 hw => hw.pick [1] (by decide) rfl)
  ·refine TL.val rfl rfl rfl (gives_boolnot rfl rfl) ?_
   refine zET (zc (zx (zX (zM (zT (zG ?_))))))
   refine TL.mv ?_
   refine TL.v (gD ((i + 1 : Nat) : Int)) ?_
   refine TL.as_ ?_
   refine zE ?_
   exact TX.round (⟨(i + 1, (Ao, co), m, out), by dsimp only; omega, hout.skip hx14 h16, by dsimp only; omega, houtc, houtm, houtn⟩) (by show l.length - (i + 1) < l.length - i; omega) ⟨rfl, rfl, rfl, rfl, trivial⟩ (fun w1 hw => hw)
 ·have q9 := of_decide_eq_false h9
  refine zET (zd (zx (zX (zX (zM (zT (zSG ?_)))))))
  refine TL.rn 2 rfl ?_
  refine zET (zr ?_)
  subst houtn
  exact ret_tmp Tryz.results41 rfl (fun w1 hw => ⟨⟨((Ao, co), out), by rw [List.take_of_length_le (by omega)] at hout; exact hout, by dsimp only; omega, houtm⟩, rfl, hw.pick [0] (by decide) rfl⟩)
set_option maxRecDepth 20000
theorem mapf_snoc_t {α β : Type} {p : α → Bool} {f : α → β} {l : List α} {out : List β} {i : Nat} {x : α} (hx : l[i]? = some x) (h : p x = true) (ho : ((l.take i).filter p).map f = out) : ((l.take (i + 1)).filter p).map f = out ++ [f x] := by
 rw [List.take_add_one, hx, List.filter_append, List.map_append, ho]
 simp [h]
theorem mapf_snoc_f {α β : Type} {p : α → Bool} {f : α → β} {l : List α} {out : List β} {i : Nat} {x : α} (hx : l[i]? = some x) (h : p x = false) (ho : ((l.take i).filter p).map f = out) : ((l.take (i + 1)).filter p).map f = out := by
 rw [List.take_add_one, hx, List.filter_append, List.map_append, ho]
 simp [h]
def trk (t : Trc) : List Int := [t.v, t.dst, t.proto]
theorem trk_len (t : Trc) : (trk t).length = 3 := rfl
theorem trk_inj {x y : Trc} (h : trk x = trk y) : x = y := by
 obtain ⟨a, b, c⟩ := x
 obtain ⟨a', b', c'⟩ := y
 simp only [trk, List.cons.injEq, and_true] at h
 obtain ⟨h1, h2, h3⟩ := h
 subst h1 h2 h3
 rfl
def IsTrc (l : List Rs) (o : List Trc) : Prop := AscK trk o ∧ ∀ t, t ∈ o ↔ ∃ r ∈ l, vldRs r = true ∧ trcR r = t
theorem IsTrc.eq {l : List Rs} {o o' : List Trc} (h : IsTrc l o) (h' : IsTrc l o') : o = o' := ascK_eq trk_len h.1 h'.1 fun x => by rw [h.2, h'.2]
theorem isTrc_of {l : List Rs} {o s : List Trc} (ho : (l.filter vldRs).map trcR = o) (hs : Sorted cmpT o s) : IsTrc l (cptG s) := by
 refine ⟨cptG_asc trk_len s hs.2 fun x hx y hy h => trk_inj h, fun t => ?_⟩
 rw [mem_cptG, hs.1.mem_iff, ← ho, List.mem_map]
 constructor
 ·rintro ⟨r, hr, e⟩
  have := List.mem_filter.1 hr
  exact ⟨r, this.1, this.2, e⟩
 ·rintro ⟨r, h1, h2, e⟩
  exact ⟨r, List.mem_filter.2 ⟨h1, h2⟩, e⟩
def pairsT (a b : Trc) : List (Int × Int) := [(a.v, b.v), (IntKind.i64.wrap a.dst, IntKind.i64.wrap b.dst), (a.proto, b.proto)]
def rcmpT (a b : Trc) : Int := orP (pairsT a b)
theorem rcmpT_pairs (a b : Trc) : rcmpT a b = orP (pairsT a b) := rfl
theorem rcmpT_eq {a b : Trc} (h1 : 0 ≤ a.dst) (h2 : a.dst ≤ 4294967295) (h3 : 0 ≤ b.dst) (h4 : b.dst ≤ 4294967295) : rcmpT a b = lexI (trk a) (trk b) := by
 have w1 : ∀ z : Int, 0 ≤ z → z ≤ 4294967295 → IntKind.i64.wrap z = z := fun z h0 h1 => by simp only [IntKind.wrap_i64]; omega
 rw [rcmpT, pairsT, w1 _ h1 h2, w1 _ h3 h4]
 rfl
theorem IsTrc.nil : IsTrc [] [] := ⟨List.Pairwise.nil, fun x => by simp⟩
section
variable {l : List Rs} {o : List Trc} {i q : Nat} {x : Rs}
theorem IsTrc.skip (h : IsTrc (l.take i) o) (hx : l[i]? = some x) (hv : vldRs x = false) : IsTrc (l.take (i + 1)) o := ⟨h.1, fun t => by
 rw [h.2]
 constructor
 ·rintro ⟨r, h1, h2⟩
  exact ⟨r, (mem_take_snoc hx).2 (.inl h1), h2⟩
 ·rintro ⟨r, h1, h2, h3⟩
  rcases (mem_take_snoc hx).1 h1 with h4 | h4
  ·exact ⟨r, h4, h2, h3⟩
  ·rw [h4, hv] at h2; cases h2⟩
theorem IsTrc.dup (h : IsTrc (l.take i) o) (hx : l[i]? = some x) (hv : vldRs x = true) (hm : trcR x ∈ o) : IsTrc (l.take (i + 1)) o := ⟨h.1, fun t => by
 constructor
 ·intro ht
  obtain ⟨r, h1, h2⟩ := (h.2 t).1 ht
  exact ⟨r, (mem_take_snoc hx).2 (.inl h1), h2⟩
 ·rintro ⟨r, h1, h2, h3⟩
  rcases (mem_take_snoc hx).1 h1 with h4 | h4
  ·exact (h.2 t).2 ⟨r, h4, h2, h3⟩
  ·rw [← h3, h4]; exact hm⟩
theorem IsTrc.put (h : IsTrc (l.take i) o) (hx : l[i]? = some x) (hv : vldRs x = true) (h1 : ∀ y ∈ o.take q, lexI (trk y) (trk (trcR x)) < 0) (h2 : ∀ y ∈ o.drop q, lexI (trk (trcR x)) (trk y) < 0) : IsTrc (l.take (i + 1)) (o.take q ++ trcR x :: o.drop q) := by
 refine ⟨ascK_put trk_len h.1 h1 h2, fun t => ?_⟩
 rw [mem_put, h.2]
 constructor
 ·rintro (⟨r, h3, h4⟩ | hh)
  ·exact ⟨r, (mem_take_snoc hx).2 (.inl h3), h4⟩
  ·exact ⟨x, (mem_take_snoc hx).2 (.inr rfl), hv, hh.symm⟩
 ·rintro ⟨r, h3, h4, h5⟩
  rcases (mem_take_snoc hx).1 h3 with h6 | h6
  ·exact .inl ⟨r, h6, h4, h5⟩
  ·rw [h6] at h5; exact .inr h5.symm
theorem IsTrc.rng (h : IsTrc (l.take i) o) (hok : ∀ r ∈ l, r.Ok) {y : Trc} (hy : y ∈ o) : 0 ≤ y.dst ∧ y.dst ≤ 4294967295 := by
 obtain ⟨r, h1, _, h3⟩ := (h.2 y).1 hy
 have := hok r (List.mem_of_mem_take h1)
 rw [← h3]
 exact ⟨this.1, this.2.1⟩
theorem IsTrc.cmp (h : IsTrc (l.take i) o) (hx : l[i]? = some x) (hok : ∀ r ∈ l, r.Ok) {y : Trc} (hy : y ∈ o) : rcmpT y (trcR x) = lexI (trk y) (trk (trcR x)) := by
 have h1 := h.rng hok hy
 have h2 := hok x (List.mem_of_getElem? hx)
 exact rcmpT_eq h1.1 h1.2 h2.1 h2.2.1
theorem IsTrc.lt (h : IsTrc (l.take i) o) (hx : l[i]? = some x) (hok : ∀ r ∈ l, r.Ok) {y : Trc} (hy : y ∈ o) (hc : rcmpT y (trcR x) < 0) : lexI (trk y) (trk (trcR x)) < 0 := by rw [← h.cmp hx hok hy]; exact hc
theorem IsTrc.gt (h : IsTrc (l.take i) o) (hx : l[i]? = some x) (hok : ∀ r ∈ l, r.Ok) {y : Trc} (hy : y ∈ o) (hc : ¬ rcmpT y (trcR x) < 0) (hne : ¬ y = trcR x) : lexI (trk (trcR x)) (trk y) < 0 := by
 rw [h.cmp hx hok hy] at hc
 have h1 : lexI (trk y) (trk (trcR x)) ≠ 0 := fun h0 => hne (trk_inj ((lexI_zero (a := trk y) (b := trk (trcR x)) rfl).1 h0))
 exact (posK trk_len).1 (by omega)
end
theorem ptrbs73_1_44646 (a0_0 : Int) (a0_1 : Int) (a0_2 : Int) (w : World) : (Instr.buildSlice 73 1 #[(0, .agg #[.int .i64 a0_0, .int .u32 a0_1, .int .i64 a0_2])]).run Tryz.prog w = .ok (.slice (some ⟨w.heap.size, 0, none⟩) 1 1) (w.alloc (.cells [.int .i64 a0_0, .int .u32 a0_1, .int .i64 a0_2].toArray 32)) := by kernel_rfl
theorem ptrel73 : Elem Tryz.prog 73 32 3 24 := Elem.mk' Tryz.underlying73 (z := .agg #[.int .i64 0, .int .u32 0, .int .i64 0]) (by kernel_rfl) rfl (by omega) (by omega)
theorem ptrbld161_19242 (a0_0 : Int) (a0_1 : Int) (a1_0 : Int) (a1_1 : Int) (a2_0 : Int) (a2_1 : Int) (w : World) : (Instr.build 161 #[(0, .agg #[.int .i64 a0_0, .int .i64 a0_1]), (1, .agg #[.int .i64 a1_0, .int .i64 a1_1]), (2, .agg #[.int .i64 a2_0, .int .i64 a2_1])]).run Tryz.prog w = .ok (.agg #[.int .i64 a0_0, .int .i64 a0_1, .int .i64 a1_0, .int .i64 a1_1, .int .i64 a2_0, .int .i64 a2_1]) w := by kernel_rfl
set_option maxHeartbeats 1000000 in
theorem trs_any (A0 : Option Addr) (c0 : Nat) (l : List Rs) (w : World) (hr : Reads w w.heap.size 17 A0 l.length (flat Rs.cells l)) (hl1 : l.length ≤ 100000) :
  Calls Tryz.prog 37 #[.slice A0 l.length c0] w fun e w' => ∃ x : {y : (Option Addr × Nat) × List Trc // IsTrc l y.2 ∧ y.2.length ≤ y.1.2 ∧ y.1.2 ≤ maxLen}, e = .returned (.slice x.1.1.1 x.1.2.length x.1.1.2) ∧ Pm w [.row (.slice x.1.1.1 x.1.2.length x.1.1.2) 32 3 x.1.2.length (flat Trc.cells x.1.2)] w' := by
 refine begin_ (vs := [.slice A0 l.length c0]) Tryz.func37 rfl rfl rfl ?_ (Pm.start w)
 refine zSG ?_
 refine TL.as_ ?_
 refine zET (zSG ?_)
 refine TL.as_ ?_
 refine zET (zS (zSG ?_))
 refine TL.mv ?_
 refine TL.v (gN Tryz.underlying26) ?_
 refine TL.mv ?_
 refine zET (zB ?_)
 refine TC.nilrow 32 3 ?_
 refine TC.loop_ (α := {y : Nat × (Option Addr × Nat) × List Trc // y.1 ≤ l.length ∧ (((l.take y.1).filter vldRs).map trcR = y.2.2) ∧ y.2.2.length ≤ y.1 ∧ y.2.2.length ≤ y.2.1.2 ∧ y.2.1.2 ≤ maxLen}) (fun y => [(2, .slice none 0 0), (6, .slice A0 l.length c0), (7, .int .i64 (l.length : Nat)), (8, .int .i64 ((y.1.1 : Nat) : Int)), (3, .slice y.1.2.1.1 y.1.2.2.length y.1.2.1.2)]) (fun y => Pm w [.row (.slice y.1.2.1.1 y.1.2.2.length y.1.2.1.2) 32 3 y.1.2.2.length (flat Trc.cells y.1.2.2)]) (fun y => l.length - y.1.1) (⟨(0, (none, 0), []), Nat.zero_le _, rfl, Nat.le_refl _, Nat.le_refl _, Nat.zero_le _⟩) ⟨rfl, rfl, rfl, rfl, rfl, trivial⟩ (fun w1 hw => hw) ?_
 rintro ⟨⟨i, ⟨Ao, co⟩, out⟩, hi, hout, houtl, houtc, houtm⟩
 dsimp only at hi hout houtl houtc houtm ⊢
 refine zSG ?_
 refine TL.vsplit rfl rfl rfl (gives_bin rfl rfl rfl (fun w => bin_lss w)) (fun h9 => ?_) (fun h9 => ?_)
 ·have q9 := of_decide_eq_true h9
  refine zET (zS (zc (zk (zT (zS (zB (zSG ?_)))))))
  have hi10 : i < l.length := by omega
  obtain ⟨x10, hx10⟩ := ex_at hi10
  obtain ⟨b10, o10, hA10, hbb10, hc10⟩ := hr.ad (by omega) (by decide)
  refine TL.val rfl rfl rfl (gA (i := i) Tryz.underlying26 prssz47 rfl rfl rfl rfl hA10 (by omega)) ?_
  refine TL.v (gR rs_cel prsag47 prssz47 hbb10 hx10 hc10) ?_
  refine TL.pnew rfl rfl rfl (exec_alloc (cs := [.int .i64 0, .int .i64 0, .int .i64 0, .int .i64 0, .int .u32 0, .int .i64 0, .int .i64 0, .int .i64 0, .bool false, .bool false, .int .i64 0, .int .u32 0, .int .i64 0, .int .i64 0, .int .i64 0, .int .i64 0, .int .i64 0]) rfl pcpzv47 rfl) (fun g5 => ?_)
  refine TL.pstore (k := 0) (vs := x10.cells) rfl rfl rfl rfl rfl rfl rfl prssz47 (rs_cel.one _) (by show 17 ≤ 17; decide) rfl ?_
  refine zET (zSG ?_)
  refine TL.v (gV 0 (.agg (x10.cells).toArray) prsag47 prssz47) ?_
  refine TL.callsplit rfl rfl rfl rfl rfl Tryz.func26 (by decide) rfl (fun w1 hw => vldRs_any x10 w1) (fun h13 => ?_) (fun h13 => ?_)
  ·refine zET (zc (zG ?_))
   refine TL.mv ?_
   refine TL.v (gV 0 (.agg (x10.cells).toArray) prsag47 prssz47) ?_
   refine TL.pcall1 (r := .agg ((trcR x10).cells).toArray) rfl rfl rfl rfl rfl Tryz.func35 (by decide) rfl (fun w1 hw => trc_any x10 w1) ?_
   refine TL.prowS (e := 32) (size := 3) (cs := flat Trc.cells [trcR x10]) rfl rfl rfl rfl rfl (fun w => ptrbs73_1_44646 _ _ _ w) (by decide) rfl (fun g17 => ?_)
   refine TL.appendT (k := 2) rfl rfl rfl rfl Tryz.underlying73 ptrel73 rfl rfl rfl (fun w1 hw => pm_reads hw (k := 0) rfl) (flat_one trc_cel _) (by show _ * 24 ≤ _; omega) ((out ++ [trcR x10]).length) (by rw [List.length_append]; rfl) (flat Trc.cells (out ++ [trcR x10])) ((flat_app _ _).symm) (fun A18 c18 hA181 hA182 => ?_)
   refine TL.as_ ?_
   refine zE (zN (zT (zG ?_)))
   refine TL.v (gD ((i + 1 : Nat) : Int)) ?_
   refine TL.mv ?_
   refine zE ?_
   exact TX.round (⟨(i + 1, (A18, c18), out ++ [trcR x10]), by dsimp only; omega, mapf_snoc_t hx10 h13 hout, by dsimp only; rw [List.length_append]; show out.length + 1 ≤ _; omega, hA181, hA182⟩) (by show l.length - (i + 1) < l.length - i; omega) ⟨rfl, rfl, rfl, rfl, rfl, trivial⟩ (fun w1 hw => hw.pick [2] (by decide) rfl)
  ·refine zET (zd (zk (zN (zT (zG ?_)))))
   refine TL.v (gD ((i + 1 : Nat) : Int)) ?_
   refine TL.mv ?_
   refine zE ?_
   exact TX.round (⟨(i + 1, (Ao, co), out), by dsimp only; omega, mapf_snoc_f hx10 h13 hout, by dsimp only; omega, houtc, houtm⟩) (by show l.length - (i + 1) < l.length - i; omega) ⟨rfl, rfl, rfl, rfl, rfl, trivial⟩ (fun w1 hw => hw.pick [1] (by decide) rfl)
 ·have q9 := of_decide_eq_false h9
  refine zET (zS (zd (zx (zX (zX (zM (zT (zSG ?_))))))))
  refine TL.mv ?_
  refine TL.turnRowD (k := 0) (fun ys => Sorted cmpT out ys) rfl rfl rfl rfl rfl Tryz.func83 (by decide) rfl rfl (fun w1 hw hr9 => sortTrc hr9 (rfl) (by omega)) (fun srt21 hS21 => ?_)
  try dsimp only [List.set_cons_zero, List.set_cons_succ]
  refine zET (zSG ?_)
  refine TL.mv ?_
  refine TL.turnRow2 (q := 0) (ys := cptG srt21) rfl rfl rfl rfl rfl Tryz.func85 (by decide) rfl rfl (fun w1 hw hr9 => compactTrc hr9 (hS21.1.length_eq) (by omega)) ?_
  try dsimp only [List.set_cons_zero, List.set_cons_succ]
  refine TL.as_ ?_
  refine zET (zr ?_)
  have hle : (cptG srt21).length ≤ out.length := Nat.le_trans (cptG_le _) (Nat.le_of_eq hS21.1.length_eq)
  exact ret_tmp Tryz.results37 rfl (fun w1 hw => ⟨⟨((Ao, co), cptG srt21), isTrc_of (by rw [List.take_of_length_le (by omega)] at hout; exact hout) hS21, by dsimp only; omega, houtm⟩, rfl, hw.pick [0] (by decide) rfl⟩)
set_option maxHeartbeats 1000000 in
theorem rcmpT_any (p q : Trc) (w : World) :
  Calls Tryz.prog 86 #[.agg p.cells.toArray, .agg q.cells.toArray] w fun e w' => e = .returned (.int .i64 (rcmpT p q)) ∧ Below w.heap.size w w' := by
 refine begin_ (vs := [.agg p.cells.toArray, .agg q.cells.toArray]) Tryz.func86 rfl rfl rfl ?_ (Pm.start w)
 refine zSG ?_
 refine TL.pnew rfl rfl rfl (exec_box (cs := p.cells) rfl rfl rfl) (fun g2 => ?_)
 refine TL.pnew rfl rfl rfl (exec_box (cs := q.cells) rfl rfl rfl) (fun g3 => ?_)
 refine TL.as_ ?_
 refine zET (zS (zSG ?_))
 refine TL.v (gF pcmfld32_0) ?_
 refine TL.v (gL 1 pcmag3) ?_
 refine TL.v (gF pcmfld32_0) ?_
 refine TL.v (gL 0 pcmag3) ?_
 refine TL.val rfl rfl rfl (gives_build (v := .agg #[.int .i64 p.v, .int .i64 q.v]) rfl rfl (fun w => prsbld129_29183 _ _ w)) ?_
 refine TL.v (gF pcmfld32_1) ?_
 refine TL.v (gL 1 pcmag30) ?_
 refine TL.val rfl rfl rfl (gives_conv rfl rfl (fun w => conv_w64 Tryz.underlying3 Tryz.underlying30 w)) ?_
 refine TL.v (gF pcmfld32_1) ?_
 refine TL.v (gL 0 pcmag30) ?_
 refine TL.val rfl rfl rfl (gives_conv rfl rfl (fun w => conv_w64 Tryz.underlying3 Tryz.underlying30 w)) ?_
 refine TL.val rfl rfl rfl (gives_build (v := .agg #[.int .i64 (IntKind.i64.wrap p.dst), .int .i64 (IntKind.i64.wrap q.dst)]) rfl rfl (fun w => prsbld129_29183 _ _ w)) ?_
 refine TL.v (gF pcmfld32_2) ?_
 refine TL.v (gL 1 pcmag3) ?_
 refine TL.v (gF pcmfld32_2) ?_
 refine TL.v (gL 0 pcmag3) ?_
 refine TL.val rfl rfl rfl (gives_build (v := .agg #[.int .i64 p.proto, .int .i64 q.proto]) rfl rfl (fun w => prsbld129_29183 _ _ w)) ?_
 refine TL.val rfl rfl rfl (gives_build (v := .agg ((flat pc2 (pairsT p q))).toArray) rfl rfl (fun w => ptrbld161_19242 _ _ _ _ _ _ w)) ?_
 refine TL.mv ?_
 refine zET (zB ?_)
 refine TC.loop_ (α := {i : Nat // i ≤ 3 ∧ orP ((pairsT p q).drop i) = orP (pairsT p q)}) (fun y => [(24, .agg ((flat pc2 (pairsT p q))).toArray), (4, .int .i64 0), (25, .int .i64 ((y.1 : Nat) : Int))]) (fun y => Pm w [.blk g3 32 q.cells, .blk g2 32 p.cells]) (fun y => 3 - y.1) (⟨0, Nat.zero_le _, rfl⟩) ⟨rfl, rfl, rfl, trivial⟩ (fun w1 hw => hw) ?_
 rintro ⟨i, hi, ho⟩
 try dsimp only at hi ho ⊢
 refine zSG ?_
 refine TL.sp bin_lss (fun q26 => ?_) (fun q26 => ?_)
 ·refine zET (zS (zc (zk (zT (zS (zB (zSG ?_)))))))
  obtain ⟨x27, hx27⟩ : ∃ z, (pairsT p q)[i]? = some z := ⟨_, List.getElem?_eq_getElem (by show i < 3; omega)⟩
  have hdr : (pairsT p q).drop i = x27 :: (pairsT p q).drop (i + 1) := by obtain ⟨hlt, e⟩ := List.getElem?_eq_some_iff.1 hx27; rw [List.drop_eq_getElem_cons hlt, e]
  refine TL.val rfl rfl rfl (gives_index (v := .agg (pc2 x27).toArray) rfl rfl rfl (fun w => index_flat pc2_cel Tryz.underlying161 prsag129 prssz129 hx27 rfl rfl w)) ?_
  refine TL.pnew rfl rfl rfl (exec_alloc (cs := [.int .i64 0, .int .i64 0]) rfl prszv129 rfl) (fun g6 => ?_)
  refine TL.pstore (k := 0) (vs := (pc2 x27)) rfl rfl rfl rfl rfl rfl rfl prssz129 (pc2_cel.one _) (by show 2 ≤ 2; decide) rfl ?_
  refine zET (zSG ?_)
  refine TL.val rfl rfl rfl (gives_at (v := .pointer (some ⟨g6, 0, none⟩)) rfl rfl rfl (fun w => at_arr Tryz.underlying129 pcmsz3 g6 0 _ 0 (by decide) w)) ?_
  refine TL.v (gL 0 pcmag3) ?_
  refine TL.val rfl rfl rfl (gives_at (v := .pointer (some ⟨g6, 1, none⟩)) rfl rfl rfl (fun w => at_arr Tryz.underlying129 pcmsz3 g6 0 _ 1 (by decide) w)) ?_
  refine TL.v (gL 0 pcmag3) ?_
  refine TL.sp bin_neq (fun q32 => ?_) (fun q32 => ?_)
  ·refine zET (zc (zSG ?_))
   refine TL.val rfl rfl rfl (gives_at (v := .pointer (some ⟨g6, 0, none⟩)) rfl rfl rfl (fun w => at_arr Tryz.underlying129 pcmsz3 g6 0 _ 0 (by decide) w)) ?_
   refine TL.v (gL 0 pcmag3) ?_
   refine TL.val rfl rfl rfl (gives_at (v := .pointer (some ⟨g6, 1, none⟩)) rfl rfl rfl (fun w => at_arr Tryz.underlying129 pcmsz3 g6 0 _ 1 (by decide) w)) ?_
   refine TL.v (gL 0 pcmag3) ?_
   refine TL.pcall1 (r := .int .i64 (cmpI x27.1 x27.2)) rfl rfl rfl rfl rfl Tryz.func82 (by decide) rfl (fun w1 hw => still_bel (less_any x27.1 x27.2 w1)) ?_
   refine TL.as_ ?_
   refine zET (zr (zRR (zR (zRR ?_))))
   exact ret_tmp Tryz.results86 rfl (fun w1 hw => ⟨by rw [rcmpT_pairs, ← ho, hdr, orP_cons, if_neg (fun h => q32 (cmpI_zero.1 h))], hw.bel⟩)
  ·have ho2 : orP ((pairsT p q).drop (i + 1)) = orP (pairsT p q) := by rw [← ho, hdr, orP_cons, if_pos (cmpI_zero.2 (Decidable.not_not.1 q32))]
   refine zET (zd (zk (zN (zT (zG ?_)))))
   refine TL.v (gD ((i + 1 : Nat) : Int)) ?_
   refine TL.mv ?_
   refine zE ?_
   exact TX.round (⟨i + 1, by omega, ho2⟩) (by show 3 - (i + 1) < 3 - i; omega) ⟨rfl, rfl, rfl, trivial⟩ (fun w1 hw => hw.pick [1, 2] (by decide) rfl)
 ·refine zET (zS (zd (zx (zX (zX (zM (zT (zSG ?_))))))))
  refine TL.as_ ?_
  refine zET (zr ?_)
  exact ret_tmp Tryz.results86 rfl (fun w1 hw => ⟨by rw [rcmpT_pairs, ← ho, List.drop_of_length_le (by show 3 ≤ i; omega)]; rfl, hw.bel⟩)
set_option maxHeartbeats 1000000 in
theorem rtrs_any (A0 : Option Addr) (c0 : Nat) (l : List Rs) (w : World) (hr : Reads w w.heap.size 17 A0 l.length (flat Rs.cells l)) (hl1 : l.length ≤ 100000) (hok : ∀ r ∈ l, r.Ok) :
  Calls Tryz.prog 38 #[.slice A0 l.length c0] w fun e w' => ∃ x : {y : (Option Addr × Nat) × List Trc // IsTrc l y.2 ∧ y.2.length ≤ y.1.2 ∧ y.1.2 ≤ maxLen}, e = .returned (.slice x.1.1.1 x.1.2.length x.1.1.2) ∧ Pm w [.row (.slice x.1.1.1 x.1.2.length x.1.1.2) 32 3 x.1.2.length (flat Trc.cells x.1.2)] w' := by
 refine begin_ (vs := [.slice A0 l.length c0]) Tryz.func38 rfl rfl rfl ?_ (Pm.start w)
 refine zSG ?_
 refine TL.as_ ?_
 refine zET (zSG ?_)
 refine TL.as_ ?_
 refine zET (zS (zSG ?_))
 refine TL.as_ ?_
 refine zET (zB ?_)
 refine TC.nilrow 32 3 ?_
 refine TC.loop_ (α := {y : Nat × (Option Addr × Nat) × Nat × List Trc // y.1 ≤ l.length ∧ (IsTrc (l.take y.1) y.2.2.2) ∧ y.2.2.1 ≤ y.1 ∧ y.2.2.1 ≤ y.2.1.2 ∧ y.2.1.2 ≤ maxLen ∧ y.2.2.2.length = y.2.2.1}) (fun y => [(0, .slice A0 l.length c0), (2, .slice none 0 0), (4, .int .i64 ((y.1.1 : Nat) : Int)), (3, .slice y.1.2.1.1 y.1.2.2.1 y.1.2.1.2)]) (fun y => Pm w [.row (.slice y.1.2.1.1 y.1.2.2.1 y.1.2.1.2) 32 3 y.1.2.2.1 (flat Trc.cells y.1.2.2.2)]) (fun y => l.length - y.1.1) (⟨(0, (none, 0), 0, []), Nat.zero_le _, IsTrc.nil, Nat.le_refl _, Nat.le_refl _, Nat.zero_le _, rfl⟩) ⟨rfl, rfl, rfl, rfl, trivial⟩ (fun w1 hw => hw) ?_
 rintro ⟨⟨i, ⟨Ao, co⟩, m, out⟩, hi, hout, houtl, houtc, houtm, houtn⟩
 dsimp only at hi hout houtl houtc houtm houtn ⊢
 refine zS (zSG ?_)
 refine TL.rn 2 rfl ?_
 refine TL.v (gN Tryz.underlying26) ?_
 refine TL.sp bin_lss (fun q10 => ?_) (fun q10 => ?_)
 ·refine zET (zc (zk (zT (zS (zB (zS (zSG ?_)))))))
  refine TL.rn 2 rfl ?_
  have hi15 : i < l.length := by omega
  obtain ⟨x15, hx15⟩ := ex_at hi15
  obtain ⟨b15, o15, hA15, hbb15, hc15⟩ := hr.ad (by omega) (by decide)
  refine TL.val rfl rfl rfl (gA (i := i) Tryz.underlying26 prssz47 rfl rfl rfl rfl hA15 (by omega)) ?_
  refine TL.v (gR rs_cel prsag47 prssz47 hbb15 hx15 hc15) ?_
  refine TL.callsplit rfl rfl rfl rfl rfl Tryz.func27 (by decide) rfl (fun w1 hw => rvldRs_any x15 w1) (fun h17 => ?_) (fun h17 => ?_)
  ·refine TL.val rfl rfl rfl (gives_boolnot rfl rfl) ?_
   refine zET (zd (zk (zT (zSG ?_))))
   refine TL.rn 2 rfl ?_
   refine TL.val rfl rfl rfl (gA (i := i) Tryz.underlying26 prssz47 rfl rfl rfl rfl hA15 (by omega)) ?_
   refine TL.v (gR rs_cel prsag47 prssz47 hbb15 hx15 hc15) ?_
   refine TL.pcall1 (r := .agg ((trcR x15).cells).toArray) rfl rfl rfl rfl rfl Tryz.func36 (by decide) rfl (fun w1 hw => rtrc_any x15 w1) ?_
   refine TL.pnew rfl rfl rfl (exec_alloc (cs := [.int .i64 0, .int .u32 0, .int .i64 0]) rfl prszv32 rfl) (fun g5 => ?_)
   refine TL.pstore (k := 0) (vs := (trcR x15).cells) rfl rfl rfl rfl rfl rfl rfl prssz32 (trc_cel.one _) (by show 3 ≤ 3; decide) rfl ?_
   refine zET (zSG ?_)
   refine TL.as_ ?_
   refine zET (zS (zB ?_))
   refine TC.loop_ (α := {k : Nat // k ≤ m ∧ ∀ z ∈ out.take k, lexI (trk z) (trk (trcR x15)) < 0}) (fun y => [(0, .slice A0 l.length c0), (2, .slice none 0 0), (3, .slice Ao m co), (4, .int .i64 ((i : Nat) : Int)), (5, .pointer (some ⟨g5, 0, none⟩)), (6, .int .i64 ((y.1 : Nat) : Int))]) (fun y => Pm w [.blk g5 32 (trcR x15).cells, .row (.slice Ao m co) 32 3 m (flat Trc.cells out)]) (fun y => m - y.1) (⟨0, Nat.zero_le _, fun z hz => by rw [List.take_zero] at hz; cases hz⟩) ⟨rfl, rfl, rfl, rfl, rfl, rfl, trivial⟩ (fun w1 hw => hw) ?_
   rintro ⟨k, hk, hlt⟩
   try dsimp only at hk hlt ⊢
   refine zS (zS ?_)
   by_cases hk0 : k = m
   ·refine TC.quietQ (by kernel_rfl) (by kernel_rfl) (fun w hw => hw.drawn _) ?_
    refine TQ.rn 2 rfl ?_
    refine TQ.v (gN Tryz.underlying73) ?_
    refine TQ.val rfl rfl rfl (gives_bin rfl rfl rfl (fun w => bin_lss_f (by omega) w)) ?_
    refine TQ.rn 9 rfl ?_
    refine TQ.fin ?_
    refine zT (zd (zx (zX (zX (zM (zT (zS (zS ?_))))))))
    ·refine TC.quietQ (by kernel_rfl) (by kernel_rfl) (fun w hw => hw.drawn _) ?_
     refine TQ.rn 2 rfl ?_
     refine TQ.v (gN Tryz.underlying73) ?_
     refine TQ.val rfl rfl rfl (gives_bin rfl rfl rfl (fun w => bin_lss_f (by omega) w)) ?_
     refine TQ.rn 8 rfl ?_
     refine TQ.fin ?_
     refine zT (zd (zk (zT (zSG ?_))))
     refine TL.mv ?_
     refine TL.v (gV 0 (.agg ((trcR x15).cells).toArray) pcpag32 prssz32) ?_
     refine TL.prowS (e := 32) (size := 3) (cs := flat Trc.cells [trcR x15]) rfl rfl rfl rfl rfl (fun w => ptrbs73_1_44646 _ _ _ w) (by decide) rfl (fun g53 => ?_)
     refine TL.appendT (k := 2) rfl rfl rfl rfl Tryz.underlying73 ptrel73 rfl rfl rfl (fun w1 hw => pm_reads hw (k := 0) rfl) (flat_one trc_cel _) (by show _ * 24 ≤ _; omega) (m + 1) (rfl) (flat Trc.cells (out ++ [trcR x15])) ((flat_app _ _).symm) (fun A54 c54 hA541 hA542 => ?_)
     refine TL.as_ ?_
     refine zET (zS ?_)
     have hn1 : (out ++ [trcR x15]).length = out.length + 1 := by simp
     have hn2 : (shiftL (out ++ [trcR x15]) k).length = out.length + 1 := by rw [shiftL_len _ _ (by omega), hn1]
     refine TC.fact (p := ∃ g, A54 = some ⟨g, 0, none⟩) (fun w1 hw => rowA hw (k := 2) rfl (by omega)) ?_
     rintro ⟨g_A54, rfl⟩
     refine TC.tail 7 (by kernel_rfl) (by kernel_rfl) (fun w hw => hw.drawn _) ?_
     refine TS.val rfl rfl rfl (gives_move rfl rfl) ?_
     refine TS.val rfl rfl rfl (gives_move rfl rfl) ?_
     refine TS.v (gD ((k + 1 : Nat) : Int)) ?_
     refine TS.val rfl rfl rfl (gives_sliceL (v := .slice (if c54 = k + 1 then some ⟨g_A54, 0, none⟩ else (some (⟨g_A54, 0, none⟩ : Addr)).map (·.add ((k + 1) * 3))) ((m + 1) - (k + 1)) (c54 - (k + 1))) rfl rfl rfl (fun w => cut_lo Tryz.underlying73 prssz32 _ _ _ (k + 1) rfl (by omega) w)) ?_
     refine TS.val rfl rfl rfl (gives_move rfl rfl) ?_
     refine TS.val rfl rfl rfl (gives_move rfl rfl) ?_
     refine TS.val rfl rfl rfl (gives_tailF (q := k) rfl rfl rfl rfl Tryz.underlying73 prssz32 (by omega) (by omega)) ?_
     refine TS.end_ ?_
     refine TL.shiftF trc_cel (kk := 2) (k := k) rfl rfl rfl rfl Tryz.underlying73 prssz32 rfl rfl rfl (by omega) (by omega) (by omega) ?_
     try dsimp only [List.set_cons_zero, List.set_cons_succ]
     refine zET (zG ?_)
     refine TL.rn 2 rfl ?_
     refine TL.v (gV 1 (.agg ((trcR x15).cells).toArray) pcpag32 prssz32) ?_
     have hi66 : k < (shiftL (out ++ [trcR x15]) k).length := by omega
     obtain ⟨x66, hx66⟩ := ex_at hi66
     refine TL.val rfl rfl rfl (gA (i := k) Tryz.underlying73 prssz32 rfl rfl rfl rfl rfl (by omega)) ?_
     refine TL.rowset (k := 2) (vs := (trcR x15).cells) (xs' := flat Trc.cells ((shiftL (out ++ [trcR x15]) k).set k (trcR x15))) rfl rfl rfl rfl rfl rfl rfl prssz32 (trc_cel.one _) (by rw [flat_len trc_cel]; show 0 + k * 3 + 3 ≤ _; omega) (flat_put trc_cel (q := 0) (y := trcR x15) hx66 (by show 0 + 3 ≤ 3; decide) rfl) ?_
     try dsimp only [List.set_cons_zero, List.set_cons_succ]
     refine zE (zN (zT (zG ?_)))
     refine TL.mv ?_
     refine TL.v (gD ((i + 1 : Nat) : Int)) ?_
     refine TL.as_ ?_
     refine zE ?_
     exact TX.round (⟨(i + 1, ((some ⟨g_A54, 0, none⟩), c54), m + 1, (shiftL (out ++ [trcR x15]) k).set k (trcR x15)), by dsimp only; omega, by dsimp only; rw [shiftL_at _ _ _ _ (by omega)]; exact hout.put hx15 h17 hlt (fun z hz => by rw [List.drop_of_length_le (by omega)] at hz; cases hz), by dsimp only; omega, hA541, hA542, by dsimp only; rw [List.length_set]; omega⟩) (by show l.length - (i + 1) < l.length - i; omega) ⟨rfl, rfl, rfl, rfl, trivial⟩ (fun w1 hw => hw.pick [2] (by decide) rfl)
   ·refine TC.fact (p := ∃ g, Ao = some ⟨g, 0, none⟩) (fun w1 hw => rowA hw (k := 1) rfl (by omega)) ?_
    rintro ⟨g_Ao, rfl⟩
    refine TC.quietQ (by kernel_rfl) (by kernel_rfl) (fun w hw => hw.drawn _) ?_
    refine TQ.rn 2 rfl ?_
    refine TQ.v (gN Tryz.underlying73) ?_
    refine TQ.val rfl rfl rfl (gives_bin rfl rfl rfl (fun w => bin_lss_t (by omega) w)) ?_
    refine TQ.rn 3 rfl ?_
    refine TQ.on rfl rfl rfl ?_
    have hi31 : k < out.length := by omega
    obtain ⟨x31, hx31⟩ := ex_at hi31
    refine TQ.val rfl rfl rfl (gA (i := k) Tryz.underlying73 prssz32 rfl rfl rfl rfl rfl (by omega)) ?_
    refine TQ.on rfl rfl rfl ?_
    refine TQ.val rfl rfl rfl (gives_loadR (off := 0 + k * 3) rfl rfl pcpag32 prssz32 (trc_cel.len x31) (fun w1 hw j9 u9 h9 => flat_row trc_cel hw (q := 1) rfl hx31 j9 u9 h9)) ?_
    refine TQ.ov (gV 0 (.agg ((trcR x15).cells).toArray) pcpag32 prssz32) ?_
    refine TQ.on rfl rfl rfl ?_
    refine TQ.call (v := .int .i64 (rcmpT x31 (trcR x15))) rfl rfl rfl rfl rfl Tryz.func86 (by decide) rfl (fun w1 hw => (rcmpT_any x31 (trcR x15) w1).mono fun en w2 ⟨h1, h2⟩ => ⟨h1, hw.below h2⟩) ?_
    refine TQ.on rfl rfl rfl ?_
    refine TQ.sp bin_lss (fun q35 => ?_) (fun q35 => ?_)
    ·have hlt2 : ∀ z ∈ out.take (k + 1), lexI (trk z) (trk (trcR x15)) < 0 := ascK_ahead trk_len hout.1 hx31 (hout.lt hx15 hok (List.mem_of_getElem? hx31) q35)
     refine TQ.val rfl rfl rfl (gives_pick rfl rfl rfl) ?_
     refine TQ.fin ?_
     refine zT (zc (zk (zT (zB (zG ?_)))))
     refine TL.mv ?_
     refine TL.v (gD ((k + 1 : Nat) : Int)) ?_
     refine TL.as_ ?_
     refine zE (zN ?_)
     exact TX.round (⟨k + 1, by omega, hlt2⟩) (by show m - (k + 1) < m - k; omega) ⟨rfl, rfl, rfl, rfl, rfl, rfl, trivial⟩ (fun w1 hw => hw)
    ·refine TQ.val rfl rfl rfl (gives_pick rfl rfl rfl) ?_
     refine TQ.fin ?_
     refine zT (zd (zx (zX (zX (zM (zT (zS (zS ?_))))))))
     ·refine TC.quietQ (by kernel_rfl) (by kernel_rfl) (fun w hw => hw.drawn _) ?_
      refine TQ.rn 2 rfl ?_
      refine TQ.v (gN Tryz.underlying73) ?_
      refine TQ.val rfl rfl rfl (gives_bin rfl rfl rfl (fun w => bin_lss_t (by omega) w)) ?_
      refine TQ.rn 3 rfl ?_
      refine TQ.on rfl rfl rfl ?_
      refine TQ.val rfl rfl rfl (gA (i := k) Tryz.underlying73 prssz32 rfl rfl rfl rfl rfl (by omega)) ?_
      refine TQ.on rfl rfl rfl ?_
      refine TQ.val rfl rfl rfl (gives_loadR (off := 0 + k * 3) rfl rfl pcpag32 prssz32 (trc_cel.len x31) (fun w1 hw j9 u9 h9 => flat_row trc_cel hw (q := 1) rfl hx31 j9 u9 h9)) ?_
      refine TQ.ov (gV 0 (.agg ((trcR x15).cells).toArray) pcpag32 prssz32) ?_
      refine TQ.on rfl rfl rfl ?_
      refine TQ.vsplit rfl rfl rfl (gives_bin2 rfl rfl rfl (fun w => trc_eql x31 (trcR x15) _ _ w)) (fun h49 => ?_) (fun h49 => ?_)
      ·have q49 := of_decide_eq_true h49
       refine TQ.val rfl rfl rfl (gives_pick rfl rfl rfl) ?_
       refine TQ.fin ?_
       refine zT (zc (zx (zX (zM (zT (zG ?_))))))
       refine TL.mv ?_
       refine TL.v (gD ((i + 1 : Nat) : Int)) ?_
       refine TL.as_ ?_
       refine zE ?_
       exact TX.round (⟨(i + 1, ((some ⟨g_Ao, 0, none⟩), co), m, out), by dsimp only; omega, hout.dup hx15 h17 (by have e9 := q49; rw [← e9]; exact List.mem_of_getElem? hx31), by dsimp only; omega, houtc, houtm, houtn⟩) (by show l.length - (i + 1) < l.length - i; omega) ⟨rfl, rfl, rfl, rfl, trivial⟩ (fun w1 hw => hw.pick [1] (by decide) rfl)
      ·have q49 := of_decide_eq_false h49
       refine TQ.val rfl rfl rfl (gives_pick rfl rfl rfl) ?_
       refine TQ.fin ?_
       refine zT (zd (zk (zT (zSG ?_))))
       refine TL.mv ?_
       refine TL.v (gV 0 (.agg ((trcR x15).cells).toArray) pcpag32 prssz32) ?_
       refine TL.prowS (e := 32) (size := 3) (cs := flat Trc.cells [trcR x15]) rfl rfl rfl rfl rfl (fun w => ptrbs73_1_44646 _ _ _ w) (by decide) rfl (fun g53 => ?_)
       refine TL.appendT (k := 2) rfl rfl rfl rfl Tryz.underlying73 ptrel73 rfl rfl rfl (fun w1 hw => pm_reads hw (k := 0) rfl) (flat_one trc_cel _) (by show _ * 24 ≤ _; omega) (m + 1) (rfl) (flat Trc.cells (out ++ [trcR x15])) ((flat_app _ _).symm) (fun A54 c54 hA541 hA542 => ?_)
       refine TL.as_ ?_
       refine zET (zS ?_)
       have hn1 : (out ++ [trcR x15]).length = out.length + 1 := by simp
       have hn2 : (shiftL (out ++ [trcR x15]) k).length = out.length + 1 := by rw [shiftL_len _ _ (by omega), hn1]
       refine TC.fact (p := ∃ g, A54 = some ⟨g, 0, none⟩) (fun w1 hw => rowA hw (k := 2) rfl (by omega)) ?_
       rintro ⟨g_A54, rfl⟩
       refine TC.tail 7 (by kernel_rfl) (by kernel_rfl) (fun w hw => hw.drawn _) ?_
       refine TS.val rfl rfl rfl (gives_move rfl rfl) ?_
       refine TS.val rfl rfl rfl (gives_move rfl rfl) ?_
       refine TS.v (gD ((k + 1 : Nat) : Int)) ?_
       refine TS.val rfl rfl rfl (gives_sliceL (v := .slice (if c54 = k + 1 then some ⟨g_A54, 0, none⟩ else (some (⟨g_A54, 0, none⟩ : Addr)).map (·.add ((k + 1) * 3))) ((m + 1) - (k + 1)) (c54 - (k + 1))) rfl rfl rfl (fun w => cut_lo Tryz.underlying73 prssz32 _ _ _ (k + 1) rfl (by omega) w)) ?_
       refine TS.val rfl rfl rfl (gives_move rfl rfl) ?_
       refine TS.val rfl rfl rfl (gives_move rfl rfl) ?_
       refine TS.val rfl rfl rfl (gives_tailF (q := k) rfl rfl rfl rfl Tryz.underlying73 prssz32 (by omega) (by omega)) ?_
       refine TS.end_ ?_
       refine TL.shiftF trc_cel (kk := 2) (k := k) rfl rfl rfl rfl Tryz.underlying73 prssz32 rfl rfl rfl (by omega) (by omega) (by omega) ?_
       try dsimp only [List.set_cons_zero, List.set_cons_succ]
       refine zET (zG ?_)
       refine TL.rn 2 rfl ?_
       refine TL.v (gV 1 (.agg ((trcR x15).cells).toArray) pcpag32 prssz32) ?_
       have hi66 : k < (shiftL (out ++ [trcR x15]) k).length := by omega
       obtain ⟨x66, hx66⟩ := ex_at hi66
       refine TL.val rfl rfl rfl (gA (i := k) Tryz.underlying73 prssz32 rfl rfl rfl rfl rfl (by omega)) ?_
       refine TL.rowset (k := 2) (vs := (trcR x15).cells) (xs' := flat Trc.cells ((shiftL (out ++ [trcR x15]) k).set k (trcR x15))) rfl rfl rfl rfl rfl rfl rfl prssz32 (trc_cel.one _) (by rw [flat_len trc_cel]; show 0 + k * 3 + 3 ≤ _; omega) (flat_put trc_cel (q := 0) (y := trcR x15) hx66 (by show 0 + 3 ≤ 3; decide) rfl) ?_
       try dsimp only [List.set_cons_zero, List.set_cons_succ]
       refine zE (zN (zT (zG ?_)))
       refine TL.mv ?_
       refine TL.v (gD ((i + 1 : Nat) : Int)) ?_
       refine TL.as_ ?_
       refine zE ?_
       exact TX.round (⟨(i + 1, ((some ⟨g_A54, 0, none⟩), c54), m + 1, (shiftL (out ++ [trcR x15]) k).set k (trcR x15)), by dsimp only; omega, by dsimp only; rw [shiftL_at _ _ _ _ (by omega)]; exact hout.put hx15 h17 hlt (ascK_behind trk_len hout.1 hx31 (hout.gt hx15 hok (List.mem_of_getElem? hx31) q35 q49)), by dsimp only; omega, hA541, hA542, by dsimp only; rw [List.length_set]; omega⟩) (by show l.length - (i + 1) < l.length - i; omega) ⟨rfl, rfl, rfl, rfl, trivial⟩ (fun w1 hw => hw.pick [2] (by decide) rfl)
  ·refine TL.val rfl rfl rfl (gives_boolnot rfl rfl) ?_
   refine zET (zc (zx (zX (zM (zT (zG ?_))))))
   refine TL.mv ?_
   refine TL.v (gD ((i + 1 : Nat) : Int)) ?_
   refine TL.as_ ?_
   refine zE ?_
   exact TX.round (⟨(i + 1, (Ao, co), m, out), by dsimp only; omega, hout.skip hx15 h17, by dsimp only; omega, houtc, houtm, houtn⟩) (by show l.length - (i + 1) < l.length - i; omega) ⟨rfl, rfl, rfl, rfl, trivial⟩ (fun w1 hw => hw)
 ·refine zET (zd (zx (zX (zX (zM (zT (zSG ?_)))))))
  refine TL.rn 2 rfl ?_
  refine zET (zr ?_)
  subst houtn
  exact ret_tmp Tryz.results38 rfl (fun w1 hw => ⟨⟨((Ao, co), out), by rw [List.take_of_length_le (by omega)] at hout; exact hout, by dsimp only; omega, houtm⟩, rfl, hw.pick [0] (by decide) rfl⟩)
set_option maxRecDepth 20000
theorem nodup_len {α : Type} [DecidableEq α] : ∀ {p F : List α}, p.Nodup → (∀ f ∈ p, f ∈ F) → p.length ≤ F.length
 | [], _, _, _ => Nat.zero_le _
 | a :: p, F, h, hs => by
  obtain ⟨h1, h2⟩ := List.nodup_cons.1 h
  have := nodup_len (F := F.erase a) h2 fun f hf => (List.mem_erase_of_ne (fun e => h1 (by rw [← e]; exact hf))).2 (hs f (List.mem_cons_of_mem _ hf))
  rw [List.length_erase_of_mem (hs a List.mem_cons_self)] at this
  have h3 : 0 < F.length := List.length_pos_of_mem (hs a List.mem_cons_self)
  rw [List.length_cons]
  omega
def IsOf (l : List Rs) (t : Trc) (y : List Rs) : Prop := ∃ o, IsOrd l o ∧ y = o.filter fun r => decide (trcR r = t)
theorem IsOf.eq {l y y' : List Rs} {t : Trc} (h : IsOf l t y) (h' : IsOf l t y') : y = y' := by
 obtain ⟨o, h1, h2⟩ := h
 obtain ⟨o', h3, h4⟩ := h'
 rw [h2, h4, h1.eq h3]
theorem IsOrd.le {l o : List Rs} (h : IsOrd l o) : o.length ≤ l.length := by
 have hn : o.Nodup := h.1.imp fun {a b} hab e => by subst e; exact ltK_irrefl _ hab
 exact nodup_len hn fun x hx => ((h.2 x).1 hx).1
set_option maxHeartbeats 1000000 in
theorem rof_any (A0 : Option Addr) (c0 : Nat) (l : List Rs) (t : Trc) (w : World) (hr : Reads w w.heap.size 17 A0 l.length (flat Rs.cells l)) (hl1 : l.length ≤ 100000) (hok : ∀ r ∈ l, r.Ok) :
  Calls Tryz.prog 43 #[.slice A0 l.length c0, .agg t.cells.toArray] w fun e w' => ∃ x : {y : (Option Addr × Nat) × List Rs // IsOf l t y.2 ∧ y.2.length ≤ y.1.2 ∧ y.1.2 ≤ maxLen}, e = .returned (.slice x.1.1.1 x.1.2.length x.1.1.2) ∧ Pm w [.row (.slice x.1.1.1 x.1.2.length x.1.1.2) 47 17 x.1.2.length (flat Rs.cells x.1.2)] w' := by
 refine begin_ (vs := [.slice A0 l.length c0, .agg t.cells.toArray]) Tryz.func43 rfl rfl rfl ?_ (Pm.start w)
 refine zSG ?_
 refine TL.pnew rfl rfl rfl (exec_box (cs := t.cells) rfl rfl rfl) (fun g3 => ?_)
 refine TL.as_ ?_
 refine zET (zSG ?_)
 refine TL.mv ?_
 refine TL.pcallPm (α := {y : (Option Addr × Nat) × List Rs // IsOrd l y.2 ∧ y.2.length ≤ y.1.2 ∧ y.1.2 ≤ maxLen}) (fun x => .slice x.1.1.1 x.1.2.length x.1.1.2) (fun x => [.row (.slice x.1.1.1 x.1.2.length x.1.1.2) 47 17 x.1.2.length (flat Rs.cells x.1.2)]) rfl rfl rfl rfl rfl Tryz.func41 (by decide) rfl (fun w1 hw => rord_any A0 c0 l w1 (hr.up hw.bel) hl1 hok) ?_
 rintro ⟨⟨⟨R9, rc9⟩, o9⟩, hP9, hR91, hR92⟩
 dsimp only [List.cons_append, List.nil_append]
 dsimp only at hP9 hR91 hR92 ⊢
 refine TL.as_ ?_
 refine zET (zSG ?_)
 refine TL.as_ ?_
 refine zET (zS (zSG ?_))
 refine TL.as_ ?_
 refine zET (zB ?_)
 refine TC.nilrow 47 17 ?_
 have hol := hP9.le
 refine TC.loop_ (α := {y : Nat × (Option Addr × Nat) × List Rs // y.1 ≤ o9.length ∧ ((o9.take y.1).filter (fun r => decide (trcR r = t)) = y.2.2) ∧ y.2.2.length ≤ y.1 ∧ y.2.2.length ≤ y.2.1.2 ∧ y.2.1.2 ≤ maxLen}) (fun y => [(3, .pointer (some ⟨g3, 0, none⟩)), (5, .slice R9 o9.length rc9), (7, .int .i64 ((y.1.1 : Nat) : Int)), (6, .slice y.1.2.1.1 y.1.2.2.length y.1.2.1.2)]) (fun y => Pm w [.row (.slice y.1.2.1.1 y.1.2.2.length y.1.2.1.2) 47 17 y.1.2.2.length (flat Rs.cells y.1.2.2), .row (.slice R9 o9.length rc9) 47 17 o9.length (flat Rs.cells o9), .blk g3 32 t.cells]) (fun y => o9.length - y.1.1) (⟨(0, (none, 0), []), Nat.zero_le _, rfl, Nat.le_refl _, Nat.le_refl _, Nat.zero_le _⟩) ⟨rfl, rfl, rfl, rfl, trivial⟩ (fun w1 hw => hw) ?_
 rintro ⟨⟨i, ⟨Ao, co⟩, out⟩, hi, hout, houtl, houtc, houtm⟩
 dsimp only at hi hout houtl houtc houtm ⊢
 refine zS (zSG ?_)
 refine TL.rn 2 rfl ?_
 refine TL.v (gN Tryz.underlying26) ?_
 refine TL.sp bin_lss (fun q13 => ?_) (fun q13 => ?_)
 ·refine zET (zc (zk (zT (zS (zB (zS ?_))))))
  refine TC.fact (p := ∃ g, R9 = some ⟨g, 0, none⟩) (fun w1 hw => rowA hw (k := 1) rfl (by omega)) ?_
  rintro ⟨g_R9, rfl⟩
  refine TC.quietQ (by kernel_rfl) (by kernel_rfl) (fun w hw => hw.drawn _) ?_
  refine TQ.rn 2 rfl ?_
  have hi18 : i < o9.length := by omega
  obtain ⟨x18, hx18⟩ := ex_at hi18
  refine TQ.val rfl rfl rfl (gA (i := i) Tryz.underlying26 prssz47 rfl rfl rfl rfl rfl (by omega)) ?_
  refine TQ.val rfl rfl rfl (gives_loadR (off := 0 + i * 17) rfl rfl prsag47 prssz47 (rs_cel.len x18) (fun w1 hw j9 u9 h9 => flat_row rs_cel hw (q := 1) rfl hx18 j9 u9 h9)) ?_
  refine TQ.call (v := .agg ((trcR x18).cells).toArray) rfl rfl rfl rfl rfl Tryz.func36 (by decide) rfl (fun w1 hw => (rtrc_any x18 w1).mono fun en w2 ⟨h1, h2⟩ => ⟨h1, hw.below h2⟩) ?_
  refine TQ.v (gV 2 (.agg (t.cells).toArray) pcpag32 prssz32) ?_
  refine TQ.vsplit rfl rfl rfl (gives_bin2 rfl rfl rfl (fun w => trc_eql (trcR x18) t _ _ w)) (fun h22 => ?_) (fun h22 => ?_)
  ·have q22 := of_decide_eq_true h22
   refine TQ.fin ?_
   refine zT (zc (zG ?_))
   refine TL.rn 3 rfl ?_
   refine TL.val rfl rfl rfl (gA (i := i) Tryz.underlying26 prssz47 rfl rfl rfl rfl rfl (by omega)) ?_
   refine TL.val rfl rfl rfl (gives_loadR (off := 0 + i * 17) rfl rfl prsag47 prssz47 (rs_cel.len x18) (fun w1 hw j9 u9 h9 => flat_row rs_cel hw (q := 1) rfl hx18 j9 u9 h9)) ?_
   refine TL.prowS (e := 47) (size := 17) (cs := flat Rs.cells [x18]) rfl rfl rfl rfl rfl (fun w => porbs26_1_99505 _ _ _ _ _ _ _ _ _ _ _ _ _ _ _ _ _ w) (by decide) rfl (fun g28 => ?_)
   refine TL.appendT (k := 1) rfl rfl rfl rfl Tryz.underlying26 porel26 rfl rfl rfl (fun w1 hw => pm_reads hw (k := 0) rfl) (flat_one rs_cel _) (by show _ * 128 ≤ _; omega) ((out ++ [x18]).length) (by rw [List.length_append]; rfl) (flat Rs.cells (out ++ [x18])) ((flat_app _ _).symm) (fun A29 c29 hA291 hA292 => ?_)
   refine TL.as_ ?_
   refine zE (zN (zT (zG ?_)))
   refine TL.mv ?_
   refine TL.v (gD ((i + 1 : Nat) : Int)) ?_
   refine TL.as_ ?_
   refine zE ?_
   exact TX.round (⟨(i + 1, (A29, c29), out ++ [x18]), by dsimp only; omega, filt_snoc_t (p := fun r => decide (trcR r = t)) hx18 (decide_eq_true q22) hout, by dsimp only; rw [List.length_append]; show out.length + 1 ≤ _; omega, hA291, hA292⟩) (by show o9.length - (i + 1) < o9.length - i; omega) ⟨rfl, rfl, rfl, rfl, trivial⟩ (fun w1 hw => hw.pick [1, 2, 3] (by decide) rfl)
  ·have q22 := of_decide_eq_false h22
   refine TQ.fin ?_
   refine zT (zd (zk (zN (zT (zG ?_)))))
   refine TL.mv ?_
   refine TL.v (gD ((i + 1 : Nat) : Int)) ?_
   refine TL.as_ ?_
   refine zE ?_
   exact TX.round (⟨(i + 1, (Ao, co), out), by dsimp only; omega, filt_snoc_f (p := fun r => decide (trcR r = t)) hx18 (decide_eq_false q22) hout, by dsimp only; omega, houtc, houtm⟩) (by show o9.length - (i + 1) < o9.length - i; omega) ⟨rfl, rfl, rfl, rfl, trivial⟩ (fun w1 hw => hw)
 ·refine zET (zd (zx (zX (zX (zM (zT (zSG ?_)))))))
  refine TL.rn 2 rfl ?_
  refine zET (zr ?_)
  exact ret_tmp Tryz.results43 rfl (fun w1 hw => ⟨⟨((Ao, co), out), ⟨o9, hP9, by rw [List.take_of_length_le (by omega)] at hout; exact hout.symm⟩, by dsimp only; omega, houtm⟩, rfl, hw.pick [0] (by decide) rfl⟩)
structure MKey (P : Program) (k : TypeId) {κ : Type} (enc : κ → Value) (Ok : κ → Prop) : Prop where
  keyed : Maps.Keyed P k
  lit : ∀ a, Ok a → ∃ l, keyOf P k (enc a) = some l
  inj : ∀ a b, enc a = enc b → a = b
def MapG {κ : Type} (enc : κ → Value) (Ok : κ → Prop) (o : Obj) (f : κ → Option Value) : Prop :=
  ∃ (es : Array MapEntry) (clock : Nat), o = .map es clock ∧ (∀ e ∈ es.toList, ∃ a, Ok a ∧ e.key = enc a) ∧ (es.toList.map (·.key)).Nodup ∧ ∀ a v, f a = some v ↔ ∃ e ∈ es.toList, e.key = enc a ∧ e.val = v
section
variable {P : Program} {t k e : TypeId} {κ : Type} {enc : κ → Value} {Ok : κ → Prop} {o : Obj} {g : Nat} {f : κ → Option Value} {w : World}
theorem mapG_new (enc : κ → Value) (Ok : κ → Prop) : MapG enc Ok (.map #[] 0) (fun _ => none) :=
  ⟨#[], 0, rfl, fun e h => absurd h List.not_mem_nil, List.nodup_nil, fun a v => ⟨fun h => by (cases h), fun ⟨e, h, _⟩ => absurd h List.not_mem_nil⟩⟩
theorem MapG.find {es : Array MapEntry} {clock : Nat} (h : MapG enc Ok (.map es clock) f) (K : MKey P k enc Ok) {a : κ} (ha : Ok a) (w : World) :
    ((Instr.findKey k (enc a) es.toList).run P w = .ok none w ∧ f a = none) ∨ ∃ j e, (Instr.findKey k (enc a) es.toList).run P w = .ok (some (j, e.val)) w ∧ es[j]? = some e ∧ e.key = enc a ∧ f a = some e.val := by
  obtain ⟨es', clock', he, hk, hnd, hf⟩ := h
  cases he
  obtain ⟨l, hl⟩ := K.lit a ha
  rcases K.keyed.find w hl es.toList (fun e he => by obtain ⟨b, hb, e1⟩ := hk e he; rw [e1]; exact K.lit b hb) with ⟨h1, h2⟩ | ⟨j, e, h1, h2, h3⟩
  · refine .inl ⟨h1, ?_⟩
    cases hfa : f a with
    | none => rfl
    | some v =>
      obtain ⟨e, he, e1, _⟩ := (hf a v).1 hfa
      exact absurd e1 (h2 e he)
  · refine .inr ⟨j, e, h1, by simpa using h2, h3, (hf a e.val).2 ⟨e, List.mem_of_getElem? h2, h3, rfl⟩⟩
theorem MapG.look (h : MapG enc Ok o f) (K : MKey P k enc Ok) (ht : P.underlying t = some (.map k e)) {z : Value} (hz : ∀ w : World, (zeroValue e).run P w = .ok z w) (hb : w.heap[g]? = some o) {a : κ} (ha : Ok a) (co : Bool) :
    (Instr.lookup t (.map (some g)) (enc a) co).run P w = .ok (if co then .tuple #[(f a).getD z, .bool (f a).isSome] else (f a).getD z) w := by
  obtain ⟨es, clock, he, _⟩ := id h
  subst he
  obtain ⟨l, hl⟩ := K.lit a ha
  have hck := K.keyed.check w es.isEmpty hl
  have hgo : (getObj g).run P w = .ok (.map es clock) w := by simp [getObj, Sem.run, hb]
  unfold Instr.lookup
  rcases h.find K ha w with ⟨h1, h2⟩ | ⟨j, e', h1, h2, h3, h4⟩
  · simp [run_underlying ht, hgo, hck, h1, hz, h2]
  · simp [run_underlying ht, hgo, hck, h1, h4]
theorem MapG.put (h : MapG enc Ok o f) (K : MKey P k enc Ok) (ht : P.underlying t = some (.map k e)) (hb : w.heap[g]? = some o) {a : κ} (ha : Ok a) (v : Value) [DecidableEq κ] :
    ∃ o' w', (Instr.mapUpdate t (.map (some g)) (enc a) v).run P w = .ok () w' ∧ w'.heap[g]? = some o' ∧ MapG enc Ok o' (fun x => if x = a then some v else f x) ∧ w.grownBy w' (some g) := by
  obtain ⟨es, clock, he, hk, hnd, hf⟩ := id h
  subst he
  obtain ⟨l, hl⟩ := K.lit a ha
  have hck := K.keyed.check w false hl
  have hst := K.keyed.stays w hl
  have hgo : (getObj g).run P w = .ok (.map es clock) w := by simp [getObj, Sem.run, hb]
  have hlt : g < w.heap.size := (Array.getElem?_eq_some_iff.1 hb).1
  have hso : ∀ ob : Obj, (setObj g ob).run P w = .ok () (w.putObj g ob) := fun ob => by simp [setObj, Sem.run, hb, World.putObj]
  rcases h.find K ha w with ⟨h1, h2⟩ | ⟨j, e', h1, h2, h3, h4⟩
  · refine ⟨.map (es.push ⟨enc a, v, clock⟩) (clock + 1), w.putObj g (.map (es.push ⟨enc a, v, clock⟩) (clock + 1)), ?_, ?_, ⟨_, _, rfl, ?_, ?_, ?_⟩, grownBy_putObj' w g _⟩
    · unfold Instr.mapUpdate
      simp [run_underlying ht, hgo, hck, h1, hso]
    · simp [World.putObj, hlt]
    · intro e1 he1
      simp only [Array.toList_push, List.mem_append, List.mem_singleton] at he1
      rcases he1 with he1 | rfl
      · exact hk e1 he1
      · exact ⟨a, ha, rfl⟩
    · simp only [Array.toList_push, List.map_append, List.map_cons, List.map_nil]
      refine List.nodup_append.2 ⟨hnd, List.pairwise_singleton _ _, fun x hx y hy e1 => ?_⟩
      rw [List.mem_singleton] at hy
      obtain ⟨e2, he2, e3⟩ := List.mem_map.1 hx
      have := (hf a e2.val).2 ⟨e2, he2, by rw [e3, e1, hy], rfl⟩
      rw [h2] at this
      cases this
    · intro x u
      simp only [Array.toList_push, List.mem_append, List.mem_singleton]
      show (if x = a then some v else f x) = some u ↔ _
      by_cases e1 : x = a
      · subst e1
        rw [if_pos rfl]
        constructor
        · intro hu
          cases hu
          exact ⟨_, .inr rfl, rfl, rfl⟩
        · rintro ⟨e2, he2 | rfl, e3, e4⟩
          · have := (hf x e2.val).2 ⟨e2, he2, e3, rfl⟩
            rw [h2] at this
            cases this
          · rw [← e4]
      · rw [if_neg e1, hf]
        constructor
        · rintro ⟨e2, he2, e3⟩
          exact ⟨e2, .inl he2, e3⟩
        · rintro ⟨e2, he2 | rfl, e3⟩
          · exact ⟨e2, he2, e3⟩
          · exact absurd (K.inj _ _ e3.1).symm e1
  · have hjl : j < es.size := (Array.getElem?_eq_some_iff.1 h2).1
    refine ⟨.map (es.modify j fun e => { key := enc a, val := v, born := e.born }) clock, w.putObj g (.map (es.modify j fun e => { key := enc a, val := v, born := e.born }) clock), ?_, ?_, ⟨_, _, rfl, ?_, ?_, ?_⟩, grownBy_putObj' w g _⟩
    · unfold Instr.mapUpdate
      simp [run_underlying ht, hgo, hck, h1, h2, h3, hst, hso]
    · simp [World.putObj, hlt]
    all_goals
      have hm : (es.modify j fun e => { key := enc a, val := v, born := e.born }).toList = es.toList.set j ⟨enc a, v, e'.born⟩ := by
        refine List.ext_getElem? fun i => ?_
        rw [Array.getElem?_toList, Array.getElem?_modify, List.getElem?_set]
        by_cases e1 : j = i
        · subst e1
          rw [if_pos rfl, if_pos rfl, h2, if_pos (by simpa using hjl)]
          rfl
        · rw [if_neg e1, if_neg e1, Array.getElem?_toList]
      rw [hm]
    · intro e1 he1
      rcases List.mem_or_eq_of_mem_set he1 with h5 | rfl
      · exact hk e1 h5
      · exact ⟨a, ha, rfl⟩
    · have : (es.toList.set j ⟨enc a, v, e'.born⟩).map (·.key) = es.toList.map (·.key) := by
        rw [List.map_set]
        refine List.ext_getElem? fun i => ?_
        rw [List.getElem?_set]
        by_cases e1 : j = i
        · subst e1
          rw [if_pos rfl, if_pos (by simpa using hjl), List.getElem?_map, Array.getElem?_toList, h2]
          simp [h3]
        · rw [if_neg e1]
      rw [this]
      exact hnd
    · have hdist : ∀ i e1, es.toList[i]? = some e1 → e1.key = enc a → i = j := fun i e1 hi hk1 => by
        have hi' : i < (es.toList.map (·.key)).length := by rw [List.length_map]; exact (List.getElem?_eq_some_iff.1 hi).1
        refine (List.getElem?_inj hi' hnd).1 ?_
        rw [List.getElem?_map, List.getElem?_map, hi, Array.getElem?_toList, h2]
        simp [hk1, h3]
      intro x u
      show (if x = a then some v else f x) = some u ↔ _
      by_cases e1 : x = a
      · subst e1
        rw [if_pos rfl]
        constructor
        · intro hu
          cases hu
          exact ⟨⟨enc x, v, e'.born⟩, List.mem_set (by rw [Array.length_toList]; exact hjl) _, rfl, rfl⟩
        · rintro ⟨e2, he2, e3, e4⟩
          obtain ⟨i, hi⟩ := List.getElem?_of_mem he2
          rw [List.getElem?_set] at hi
          by_cases e5 : j = i
          · rw [if_pos e5, if_pos (by rw [Array.length_toList]; exact hjl)] at hi
            cases hi
            rw [← e4]
          · rw [if_neg e5] at hi
            exact absurd (hdist i e2 hi e3).symm e5
      · rw [if_neg e1, hf]
        constructor
        · rintro ⟨e2, he2, e3, e4⟩
          obtain ⟨i, hi⟩ := List.getElem?_of_mem he2
          have hij : j ≠ i := fun hh => by
            subst hh
            rw [Array.getElem?_toList, h2] at hi
            cases hi
            rw [h3] at e3
            exact e1 (K.inj _ _ e3).symm
          exact ⟨e2, List.mem_of_getElem? (i := i) (by rw [List.getElem?_set, if_neg hij]; exact hi), e3, e4⟩
        · rintro ⟨e2, he2, e3, e4⟩
          rcases List.mem_or_eq_of_mem_set he2 with h5 | rfl
          · exact ⟨e2, h5, e3, e4⟩
          · exact absurd (K.inj _ _ e3).symm e1
end
section
variable {P : Program} {N : Fr} {Q : Exit → Act → World → Prop} {E : Env} {w0 : Base} {L : List Pc} {ops : Array Oper} {l : List Oper} {o : Oper} {κ : Type} {enc : κ → Value} {Ok : κ → Prop} {t k e : TypeId}
theorem gives_lookG {x y : Operand} {g i : Nat} {ob : Obj} {f : κ → Option Value} {a : κ} {z : Value} (ho : o.op = .lookup t x y false) (hx : ev E x = some (.map (some g))) (hy : ev E y = some (enc a)) (K : MKey P k enc Ok) (ht : P.underlying t = some (.map k e)) (hz : ∀ w : World, (zeroValue e).run P w = .ok z w) (hk : L[i]? = some (.oth g ob)) (hm : MapG enc Ok ob f) (ha : Ok a) {v : Value} (hv : (f a).getD z = v) :
    Gives P N o E (Pm w0 L) v := fun ac w hac hw => by
  unfold execOp; rw [ho]
  subst hv
  simp [hac.eval hx, hac.eval hy, hm.look K ht hz (hw.at_ hk).1 ha false]
end
def MapR {κ : Type} (enc : κ → Value) (Ok : κ → Prop) (o : Obj) (f : κ → Option Value) : Prop :=
 ∃ (es : Array MapEntry) (clock : Nat), o = .map es clock ∧ MapG enc Ok o f ∧ (es.toList.map (·.born)).Nodup ∧ ∀ e ∈ es.toList, e.born < clock
def Stamped {κ : Type} (enc : κ → Value) (o : Obj) (a : κ) (s : Nat) : Prop := ∃ (es : Array MapEntry) (clock : Nat), o = .map es clock ∧ ∃ (j : Nat) (e : MapEntry), es[j]? = some e ∧ e.key = enc a ∧ e.born = s
section
variable {P : Program} {t k e : TypeId} {κ : Type} {enc : κ → Value} {Ok : κ → Prop} {o : Obj} {g : Nat} {f : κ → Option Value} {w : World}
theorem mapR_new (enc : κ → Value) (Ok : κ → Prop) : MapR enc Ok (.map #[] 0) (fun _ => none) := ⟨#[], 0, rfl, mapG_new enc Ok, List.nodup_nil, fun e h => absurd h List.not_mem_nil⟩
theorem MapR.toG (h : MapR enc Ok o f) : MapG enc Ok o f := by obtain ⟨_, _, _, h1, _⟩ := h; exact h1
theorem modify_list (es : Array MapEntry) (j : Nat) (F : MapEntry → MapEntry) {e : MapEntry} (h : es[j]? = some e) : (es.modify j F).toList = es.toList.set j (F e) := by
 have hjl := (Array.getElem?_eq_some_iff.1 h).1
 refine List.ext_getElem? fun i => ?_
 rw [Array.getElem?_toList, Array.getElem?_modify, List.getElem?_set]
 by_cases e1 : j = i
 ·subst e1
  rw [if_pos rfl, if_pos rfl, h, if_pos (by simpa using hjl)]
  rfl
 ·rw [if_neg e1, if_neg e1, Array.getElem?_toList]
theorem born_push {es : Array MapEntry} {clock : Nat} (h1 : (es.toList.map (·.born)).Nodup) (h2 : ∀ e ∈ es.toList, e.born < clock) (x : Value) (v : Value) :
  (((es.push ⟨x, v, clock⟩).toList.map (·.born)).Nodup) ∧ ∀ e ∈ (es.push ⟨x, v, clock⟩).toList, e.born < clock + 1 := by
 constructor
 ·simp only [Array.toList_push, List.map_append, List.map_cons, List.map_nil]
  refine List.nodup_append.2 ⟨h1, List.pairwise_singleton _ _, fun a ha b hb e1 => ?_⟩
  rw [List.mem_singleton] at hb
  obtain ⟨e2, he2, e3⟩ := List.mem_map.1 ha
  have := h2 e2 he2
  omega
 ·intro e he
  simp only [Array.toList_push, List.mem_append, List.mem_singleton] at he
  rcases he with he | he
  ·have := h2 e he; omega
  ·rw [he]; exact Nat.lt_succ_self _
theorem born_modify {es : Array MapEntry} {clock j : Nat} {e : MapEntry} (h1 : (es.toList.map (·.born)).Nodup) (h2 : ∀ e ∈ es.toList, e.born < clock) (hj : es[j]? = some e) (F : MapEntry → MapEntry) (hF : (F e).born = e.born) :
  (((es.modify j F).toList.map (·.born)).Nodup) ∧ ∀ e ∈ (es.modify j F).toList, e.born < clock := by
 rw [modify_list es j F hj]
 constructor
 ·have : (es.toList.set j (F e)).map (·.born) = es.toList.map (·.born) := by
   rw [List.map_set]
   refine List.ext_getElem? fun i => ?_
   rw [List.getElem?_set]
   by_cases e1 : j = i
   ·subst e1
    rw [if_pos rfl, if_pos (by rw [List.length_map, Array.length_toList]; exact (Array.getElem?_eq_some_iff.1 hj).1), List.getElem?_map, Array.getElem?_toList, hj]
    simp [hF]
   ·rw [if_neg e1]
  rw [this]; exact h1
 ·intro x hx
  rcases List.mem_or_eq_of_mem_set hx with h3 | h3
  ·exact h2 x h3
  ·rw [h3, hF]; exact h2 e (List.mem_of_getElem? (i := j) (by rw [Array.getElem?_toList]; exact hj))
theorem MapR.put (h : MapR enc Ok o f) (K : MKey P k enc Ok) (ht : P.underlying t = some (.map k e)) (hb : w.heap[g]? = some o) {a : κ} (ha : Ok a) (v : Value) [DecidableEq κ] :
  ∃ o' w', (Instr.mapUpdate t (.map (some g)) (enc a) v).run P w = .ok () w' ∧ w' = w.putObj g o' ∧ MapR enc Ok o' (fun x => if x = a then some v else f x) ∧
   ∃ (es : Array MapEntry) (clock : Nat), o = .map es clock ∧ ((o' = .map (es.push ⟨enc a, v, clock⟩) (clock + 1) ∧ f a = none ∧ (Instr.findKey k (enc a) es.toList).run P w = .ok none w) ∨ ∃ j e, es[j]? = some e ∧ e.key = enc a ∧ f a = some e.val ∧ o' = .map (es.modify j fun e => { key := enc a, val := v, born := e.born }) clock ∧ (Instr.findKey k (enc a) es.toList).run P w = .ok (some (j, e.val)) w) := by
 obtain ⟨es, clock, he, hG, hn, hlt⟩ := id h
 obtain ⟨o1, w1, hrun, hob, hG1, _⟩ := hG.put K ht hb ha v
 subst he
 obtain ⟨l, hl⟩ := K.lit a ha
 have hck := K.keyed.check w false hl
 have hst := K.keyed.stays w hl
 have hgo : (getObj g).run P w = .ok (.map es clock) w := by simp [getObj, Sem.run, hb]
 have hgl : g < w.heap.size := (Array.getElem?_eq_some_iff.1 hb).1
 have hso : ∀ ob : Obj, (setObj g ob).run P w = .ok () (w.putObj g ob) := fun ob => by simp [setObj, Sem.run, hb, World.putObj]
 have hput : ∀ ob : Obj, (w.putObj g ob).heap[g]? = some ob := fun ob => by simp [World.putObj, hgl]
 rcases hG.find K ha w with ⟨h1, h2⟩ | ⟨j, e', h1, h2, h3, h4⟩
 ·have hr : (Instr.mapUpdate t (.map (some g)) (enc a) v).run P w = .ok () (w.putObj g (.map (es.push ⟨enc a, v, clock⟩) (clock + 1))) := by
   unfold Instr.mapUpdate
   simp [run_underlying ht, hgo, hck, h1, hso]
  rw [hr] at hrun
  cases hrun
  rw [hput] at hob
  cases hob
  exact ⟨_, _, hr, rfl, ⟨_, _, rfl, hG1, (born_push hn hlt _ _).1, (born_push hn hlt _ _).2⟩, es, clock, rfl, .inl ⟨rfl, h2, h1⟩⟩
 ·have hr : (Instr.mapUpdate t (.map (some g)) (enc a) v).run P w = .ok () (w.putObj g (.map (es.modify j fun e => { key := enc a, val := v, born := e.born }) clock)) := by
   unfold Instr.mapUpdate
   simp [run_underlying ht, hgo, hck, h1, h2, h3, hst, hso]
  rw [hr] at hrun
  cases hrun
  rw [hput] at hob
  cases hob
  exact ⟨_, _, hr, rfl, ⟨_, _, rfl, hG1, (born_modify hn hlt h2 _ rfl).1, (born_modify hn hlt h2 _ rfl).2⟩, es, clock, rfl, .inr ⟨j, e', h2, h3, h4, rfl, h1⟩⟩
theorem modify_eq (es : Array MapEntry) (j : Nat) (F G : MapEntry → MapEntry) {e : MapEntry} (h : es[j]? = some e) (hE : F e = G e) : es.modify j F = es.modify j G := by
 apply Array.toList_inj.1
 rw [modify_list es j F h, modify_list es j G h, hE]
theorem MapR.entry (h : MapR enc Ok o f) (K : MKey P k enc Ok) (ht : P.underlying t = some (.map k e)) {z : Value} (hz : ∀ w : World, (zeroValue e).run P w = .ok z w) (hb : w.heap[g]? = some o) {a : κ} (ha : Ok a) [DecidableEq κ] :
  ∃ o' s, (Instr.mapEntry t (.map (some g)) (enc a)).run P w = .ok (.tuple #[(f a).getD z, .int .i64 ((s : Nat) : Int)]) (w.putObj g o') ∧ MapR enc Ok o' (fun x => if x = a then some ((f a).getD z) else f x) ∧ Stamped enc o' a s := by
 obtain ⟨o', w', _, _, hR, es, clock, he, hc⟩ := h.put K ht hb ha ((f a).getD z)
 subst he
 obtain ⟨l, hl⟩ := K.lit a ha
 have hck := K.keyed.check w false hl
 have hst := K.keyed.stays w hl
 have hgo : (getObj g).run P w = .ok (.map es clock) w := by simp [getObj, Sem.run, hb]
 have hso : ∀ ob : Obj, (setObj g ob).run P w = .ok () (w.putObj g ob) := fun ob => by simp [setObj, Sem.run, hb, World.putObj]
 rcases hc with ⟨h1, h2, h3⟩ | ⟨j, e', h1, h2, h3, h4, h5⟩
 ·subst h1
  refine ⟨_, clock, ?_, hR, _, _, rfl, es.size, ⟨enc a, (f a).getD z, clock⟩, by simp, rfl, rfl⟩
  unfold Instr.mapEntry
  simp [run_underlying ht, hgo, hck, h3, hz, hso, h2]
  rfl
 ·subst h4
  have hm : (es.modify j fun e => { e with key := enc a }) = es.modify j fun e => { key := enc a, val := (f a).getD z, born := e.born } := modify_eq es j _ _ h1 (by rw [h3]; rfl)
  refine ⟨_, e'.born, ?_, hR, _, _, rfl, j, ⟨enc a, (f a).getD z, e'.born⟩, by rw [Array.getElem?_modify, if_pos rfl, h1]; rfl, rfl, rfl⟩
  unfold Instr.mapEntry
  simp [run_underlying ht, hgo, hck, h5, h1, h2, hst, hso, hm]
  rw [h3]
  exact ⟨rfl, rfl⟩
theorem MapR.store (h : MapR enc Ok o f) (K : MKey P k enc Ok) (ht : P.underlying t = some (.map k e)) (hb : w.heap[g]? = some o) {a : κ} (ha : Ok a) {s : Nat} (hs : Stamped enc o a s) (v : Value) [DecidableEq κ] :
  ∃ o', (Instr.entryStore t (.map (some g)) (.int .i64 ((s : Nat) : Int)) v).run P w = .ok () (w.putObj g o') ∧ MapR enc Ok o' (fun x => if x = a then some v else f x) := by
 obtain ⟨o', w', _, _, hR, es, clock, he, hc⟩ := h.put K ht hb ha v
 obtain ⟨es1, clock1, he1, hG, hn, hlt⟩ := h
 rw [he] at he1
 cases he1
 subst he
 obtain ⟨es2, clock2, he2, q, e2, hq, hqk, hqs⟩ := hs
 cases he2
 have hgo : (getObj g).run P w = .ok (.map es clock) w := by simp [getObj, Sem.run, hb]
 have hso : ∀ ob : Obj, (setObj g ob).run P w = .ok () (w.putObj g ob) := fun ob => by simp [setObj, Sem.run, hb, World.putObj]
 rcases hc with ⟨h1, h2, h3⟩ | ⟨j, e', h1, h2, h3, h4, h5⟩
 ·obtain ⟨es3, clock3, he3, hk3, hnd3, hf3⟩ := hG
  cases he3
  have := (hf3 a e2.val).2 ⟨e2, List.mem_of_getElem? (i := q) (by rw [Array.getElem?_toList]; exact hq), hqk, rfl⟩
  rw [h2] at this
  cases this
 ·have hjq : j = q := by
   obtain ⟨es3, clock3, he3, hk3, hnd3, hf3⟩ := hG
   cases he3
   have hj' : j < (es.toList.map (·.key)).length := by rw [List.length_map, Array.length_toList]; exact (Array.getElem?_eq_some_iff.1 h1).1
   refine (List.getElem?_inj hj' hnd3).1 ?_
   rw [List.getElem?_map, List.getElem?_map, Array.getElem?_toList, Array.getElem?_toList, h1, hq]
   simp [h2, hqk]
  subst hjq
  rw [h1] at hq
  cases hq
  have hfi : es.findIdx? (fun e => (e.born : Int) == (s : Int)) = some j := by
   rw [Array.findIdx?_eq_some_iff_getElem]
   obtain ⟨hjl, hje⟩ := Array.getElem?_eq_some_iff.1 h1
   refine ⟨hjl, by rw [hje, hqs]; simp, fun i hi => ?_⟩
   have hil : i < es.size := by omega
   simp only [beq_iff_eq]
   intro e9
   have e9' : es[i].born = s := by omega
   have hi' : i < (es.toList.map (·.born)).length := by simpa using hil
   have : i = j := by
    refine (List.getElem?_inj hi' hn).1 ?_
    rw [List.getElem?_map, List.getElem?_map, Array.getElem?_toList, Array.getElem?_toList, h1, Array.getElem?_eq_getElem hil]
    simp [e9', hqs]
   omega
  refine ⟨o', ?_, hR⟩
  subst h4
  have hm : (es.modify j fun e => { e with val := v }) = es.modify j fun e => { key := enc a, val := v, born := e.born } := modify_eq es j _ _ h1 (by rw [h2])
  unfold Instr.entryStore
  simp [hgo, asInt, asIntOf, hfi, hso, hm]
theorem nodup_lenN : ∀ {p F : List Nat}, p.Nodup → (∀ f ∈ p, f ∈ F) → p.length ≤ F.length
 | [], _, _, _ => Nat.zero_le _
 | a :: p, F, h, hs => by
  obtain ⟨h1, h2⟩ := List.nodup_cons.1 h
  have := nodup_lenN (F := F.erase a) h2 fun f hf => (List.mem_erase_of_ne (fun e => h1 (by rw [← e]; exact hf))).2 (hs f (List.mem_cons_of_mem _ hf))
  rw [List.length_erase_of_mem (hs a List.mem_cons_self)] at this
  have h3 : 0 < F.length := List.length_pos_of_mem (hs a List.mem_cons_self)
  rw [List.length_cons]
  omega
/-! ### ranging -/
def ItR {κ : Type} (enc : κ → Value) (Ok : κ → Prop) (g : Nat) (ob oi : Obj) (f : κ → Option Value) (n : Nat) (ds : List (κ × Value)) : Prop :=
 ∃ (es : Array MapEntry) (clock since : Nat) (seen : Array Nat) (c0 : Nat) (des : List MapEntry), ob = .map es clock ∧ oi = .mapIter (some g) since seen c0 ∧ MapR enc Ok ob f ∧ es.size = n ∧ (∀ x ∈ es.toList, x.born < since) ∧ since ≤ c0 ∧ since ≤ clock ∧
  seen.toList = des.map (·.born) ∧ (∀ x ∈ des, x ∈ es.toList) ∧ seen.toList.Nodup ∧ des.map (fun x => (x.key, x.val)) = ds.map (fun p => (enc p.1, p.2)) ∧ (∀ p ∈ ds, Ok p.1 ∧ f p.1 = some p.2) ∧ (seen.size = 0 ∨ c0 = clock)
variable {ob oi : Obj} {n : Nat} {ds : List (κ × Value)}
theorem ItR.start {es : Array MapEntry} {clock : Nat} (h : MapR enc Ok (.map es clock) f) : ItR enc Ok g (.map es clock) (.mapIter (some g) clock #[] clock) f es.size [] := by
 refine ⟨es, clock, clock, #[], clock, [], rfl, rfl, h, rfl, ?_, Nat.le_refl _, Nat.le_refl _, rfl, fun x hx => absurd hx List.not_mem_nil, List.nodup_nil, rfl, fun p hp => absurd hp List.not_mem_nil, .inl rfl⟩
 obtain ⟨es', clock', he, _, _, hlt⟩ := h
 cases he
 exact hlt
theorem ItR.map (h : ItR enc Ok g ob oi f n ds) : MapR enc Ok ob f := by obtain ⟨_, _, _, _, _, _, _, _, h1, _⟩ := h; exact h1
theorem ItR.ok (h : ItR enc Ok g ob oi f n ds) : ∀ p ∈ ds, Ok p.1 ∧ f p.1 = some p.2 := by obtain ⟨_, _, _, _, _, _, _, _, _, _, _, _, _, _, _, _, _, h1, _⟩ := h; exact h1
theorem ItR.keys {k : TypeId} (h : ItR enc Ok g ob oi f n ds) (K : MKey P k enc Ok) : (ds.map (·.1)).Nodup := by
 obtain ⟨es, clock, since, seen, c0, des, he, hi, hm, hn, hlt, h1, h2, h3, h4, h5, h6, h7, h8⟩ := h
 obtain ⟨es', clock', he', hG, hnb, _⟩ := hm
 subst he
 cases he'
 obtain ⟨es3, clock3, he3, hk3, hnd3, hf3⟩ := hG
 cases he3
 have hdes : (des.map (·.key)).Nodup := by
  have hnd : des.Pairwise (fun x y => x.born ≠ y.born) := by rw [h3] at h5; exact List.pairwise_map.1 h5
  have : des.Pairwise (fun x y => x.key ≠ y.key) := by
   refine hnd.imp_of_mem ?_
   intro x y hx hy hxy hk
   obtain ⟨i, hi⟩ := List.getElem?_of_mem (h4 x hx)
   obtain ⟨j, hj⟩ := List.getElem?_of_mem (h4 y hy)
   have hi' : i < (es.toList.map (·.key)).length := by rw [List.length_map]; exact (List.getElem?_eq_some_iff.1 hi).1
   have : i = j := (List.getElem?_inj hi' hnd3).1 (by rw [List.getElem?_map, List.getElem?_map, hi, hj]; simp [hk])
   subst this
   rw [hi] at hj
   cases hj
   exact hxy rfl
  exact List.pairwise_map.2 this
 have he : des.map (·.key) = ds.map (fun p => enc p.1) := by
  have := congrArg (List.map Prod.fst) h6
  simpa [List.map_map, Function.comp_def] using this
 rw [he] at hdes
 have h9 := List.pairwise_map.1 hdes
 exact List.pairwise_map.2 (h9.imp fun hne hh => hne (by rw [hh]))
theorem ItR.next {k : TypeId} (K : MKey P k enc Ok) {it : Nat} (h : ItR enc Ok g ob oi f n ds) (hob : w.heap[g]? = some ob) (hoi : w.heap[it]? = some oi) (ty : TypeId) :
  ((Instr.next (.pointer (some ⟨it, 0, none⟩)) false ty).run P w = .ok (.tuple #[.bool false]) w ∧ ∀ a v, f a = some v → (a, v) ∈ ds) ∨
  ∃ a v oi' w', (Instr.next (.pointer (some ⟨it, 0, none⟩)) false ty).run P w = .ok (.tuple #[.bool true, enc a, v]) w' ∧ w.grownBy w' (some it) ∧ w'.heap[it]? = some oi' ∧ Ok a ∧ f a = some v ∧ a ∉ ds.map (·.1) ∧ ItR enc Ok g ob oi' f n (ds ++ [(a, v)]) ∧ ds.length < n := by
 obtain ⟨es, clock, since, seen, c0, des, he, hi, hm, hn, hlt, h1, h2, h3, h4, h5, h6, h7, h8⟩ := h
 have hm0 := hm
 obtain ⟨es', clock', he', hG, hnb, hcl⟩ := hm
 subst he
 cases he'
 have hG0 := hG
 obtain ⟨es3, clock3, he3, hk3, hnd3, hf3⟩ := hG
 cases he3
 subst hi
 have dec : ∀ x ∈ es.toList, ∃ a, Ok a ∧ x.key = enc a ∧ f a = some x.val := fun x hx => by
  obtain ⟨a, ha, hk⟩ := hk3 x hx
  exact ⟨a, ha, hk, (hf3 a x.val).2 ⟨x, hx, hk, rfl⟩⟩
 have hlen : des.length = ds.length := by have := congrArg List.length h6; simpa using this
 have hseen : ∀ x ∈ es.toList, seen.contains x.born = true → x ∈ des := fun x hx hc => by
  have hb : x.born ∈ seen.toList := by simpa using hc
  rw [h3] at hb
  obtain ⟨y, hy, hyb⟩ := List.mem_map.1 hb
  obtain ⟨i, hi⟩ := List.getElem?_of_mem hx
  obtain ⟨j, hj⟩ := List.getElem?_of_mem (h4 y hy)
  have hi' : i < (es.toList.map (·.born)).length := by rw [List.length_map]; exact (List.getElem?_eq_some_iff.1 hi).1
  have : i = j := (List.getElem?_inj hi' hnb).1 (by rw [List.getElem?_map, List.getElem?_map, hi, hj]; simp [hyb])
  subst this
  rw [hi] at hj
  cases hj
  exact hy
 rcases run_next_at (P := P) w ty it g since c0 seen es clock hoi hob hlt h1 with ⟨e0, hr⟩ | ⟨x, hx, w1, hw1, hr⟩
 ·refine .inl ⟨hr, fun a v hav => ?_⟩
  obtain ⟨x, hx, hxk, hxv⟩ := (hf3 a v).1 hav
  have hc : seen.contains x.born = true := by
   cases hc : seen.contains x.born with
   | true => rfl
   | false =>
    have : x ∈ (leftOf es seen) := by unfold leftOf; rw [Array.mem_filter]; exact ⟨by simpa using hx, by rw [hc]; rfl⟩
    have := Array.size_pos_of_mem this
    omega
  have hxd := hseen x hx hc
  have : (x.key, x.val) ∈ des.map (fun x => (x.key, x.val)) := List.mem_map.2 ⟨x, hxd, rfl⟩
  rw [h6] at this
  obtain ⟨p, hp, hpe⟩ := List.mem_map.1 this
  have hp7 := h7 p hp
  have e1 : enc p.1 = enc a := by have := congrArg Prod.fst hpe; rw [← hxk]; exact this
  have e2 : p.2 = v := by have := congrArg Prod.snd hpe; rw [← hxv]; exact this
  have e3 := K.inj _ _ e1
  rw [← e3, ← e2]
  exact hp
 ·have hx2 : x ∈ es.toList ∧ seen.contains x.born = false := by
   have := Array.mem_toList_iff.1 hx
   unfold leftOf at this
   rw [Array.mem_filter] at this
   exact ⟨by simpa using this.1, by simpa using this.2⟩
  obtain ⟨a, ha, hak, hav⟩ := dec x hx2.1
  have hnb : x.born ∉ des.map (·.born) := by
   rw [← h3]
   intro hm
   have : seen.contains x.born = true := by simpa using hm
   rw [hx2.2] at this
   cases this
  have hw1h : w1.heap = w.heap := by rcases hw1 with rfl | rfl <;> rfl
  have hitl : it < w.heap.size := (Array.getElem?_eq_some_iff.1 hoi).1
  have hseen2 : (seen.push x.born).toList = (des ++ [x]).map (·.born) := by rw [Array.toList_push, List.map_append, h3]; rfl
  have hnd2 : (seen.push x.born).toList.Nodup := by
   rw [Array.toList_push]
   refine List.nodup_append.2 ⟨h5, List.pairwise_singleton _ _, fun p hp q hq e => ?_⟩
   rw [List.mem_singleton] at hq
   rw [h3] at hp
   exact hnb (by rw [← hq, ← e]; exact hp)
  have hmem2 : ∀ y ∈ des ++ [x], y ∈ es.toList := fun y hy => by
   rcases List.mem_append.1 hy with h9 | h9
   ·exact h4 y h9
   ·rw [List.mem_singleton.1 h9]; exact hx2.1
  refine .inr ⟨a, x.val, .mapIter (some g) since (seen.push x.born) clock, _, by rw [← hak]; exact hr, ?_, ?_, ha, hav, ?_, ?_, ?_⟩
  ·refine ⟨by rcases hw1 with rfl | rfl <;> rfl, by rcases hw1 with rfl | rfl <;> rfl, by rcases hw1 with rfl | rfl <;> rfl, by simp [ChangeMaps.setBlock, hw1h], fun i hi hne => ?_⟩
   have : it ≠ i := fun e => hne (by rw [e])
   simp [ChangeMaps.setBlock, hw1h, Array.getElem?_setIfInBounds, this]
  ·simp [ChangeMaps.setBlock, hw1h, hitl]
  ·intro hm
   obtain ⟨p, hp, hpa⟩ := List.mem_map.1 hm
   have : (enc p.1, p.2) ∈ des.map (fun x => (x.key, x.val)) := by rw [h6]; exact List.mem_map.2 ⟨p, hp, rfl⟩
   obtain ⟨y, hy, hye⟩ := List.mem_map.1 this
   have hyk : y.key = x.key := by have := congrArg Prod.fst hye; rw [hak, ← hpa]; exact this
   obtain ⟨i, hi⟩ := List.getElem?_of_mem hx2.1
   obtain ⟨j, hj⟩ := List.getElem?_of_mem (h4 y hy)
   have hi' : i < (es.toList.map (·.key)).length := by rw [List.length_map]; exact (List.getElem?_eq_some_iff.1 hi).1
   have e9 : i = j := (List.getElem?_inj hi' hnd3).1 (by rw [List.getElem?_map, List.getElem?_map, hi, hj]; simp [hyk])
   subst e9
   rw [hi] at hj
   cases hj
   exact hnb (List.mem_map.2 ⟨x, hy, rfl⟩)
  ·refine ⟨es, clock, since, seen.push x.born, clock, des ++ [x], rfl, rfl, hm0, hn, hlt, h2, h2, hseen2, hmem2, hnd2, ?_, ?_, .inr rfl⟩
   ·rw [List.map_append, List.map_append, h6]
    simp [hak]
   ·intro p hp
    rcases List.mem_append.1 hp with h9 | h9
    ·exact h7 p h9
    ·rw [List.mem_singleton.1 h9]; exact ⟨ha, hav⟩
  ·have := nodup_lenN (F := es.toList.map (·.born)) hnd2 fun q hq => by
    rw [hseen2] at hq
    obtain ⟨y, hy, hyb⟩ := List.mem_map.1 hq
    exact List.mem_map.2 ⟨y, hmem2 y hy, hyb⟩
   have e1 : (seen.push x.born).toList.length = des.length + 1 := by rw [hseen2]; simp
   have e2 : (es.toList.map (·.born)).length = n := by rw [List.length_map, Array.length_toList, hn]
   omega
theorem ItR.entry {it : Nat} {a : κ} {v : Value} (h : ItR enc Ok g ob oi f n (ds ++ [(a, v)])) (hob : w.heap[g]? = some ob) (hoi : w.heap[it]? = some oi) : (Instr.entry (.pointer (some ⟨it, 0, none⟩))).run P w = .ok (.tuple #[enc a, v]) w := by
 obtain ⟨es, clock, since, seen, c0, des, he, hi, hm, hn, hlt, h1, h2, h3, h4, h5, h6, h7, h8⟩ := h
 obtain ⟨es', clock', he', hG, hnb, hcl⟩ := hm
 subst he
 cases he'
 subst hi
 have hl : des.length = ds.length + 1 := by have := congrArg List.length h6; simpa using this
 obtain ⟨des', x, rfl⟩ : ∃ d x, des = d ++ [x] := ⟨des.dropLast, des.getLast (by intro e; rw [e] at hl; simp at hl), (List.dropLast_concat_getLast _).symm⟩
 rw [List.map_append, List.map_append] at h6
 have hl2 : des'.length = ds.length := by simpa using hl
 obtain ⟨_, h9⟩ := List.append_inj h6 (by simp [hl2])
 simp only [List.map_cons, List.map_nil, List.cons.injEq, and_true, Prod.mk.injEq] at h9
 have hx := h4 x (by simp)
 have hs : seen = (des'.map (·.born)).toArray.push x.born := by
  apply Array.toList_inj.1
  rw [h3]; simp
 have hc : c0 = clock := by
  rcases h8 with h8 | h8
  ·rw [hs] at h8; simp at h8
  ·exact h8
 rw [← h9.1, ← h9.2]
 refine run_entry_at w it g since (des'.map (·.born)).toArray es clock x ?_ hob hx hnb
 rw [hoi, hs, hc]
end
section
variable {P : Program} {N : Fr} {Q : Exit → Act → World → Prop} {E : Env} {w0 : Base} {L : List Pc} {ops : Array Oper} {l : List Oper} {o : Oper} {κ : Type} {enc : κ → Value} {Ok : κ → Prop} {t k e : TypeId} {f : κ → Option Value}
theorem grown_putObj (w : World) (g : Nat) (ob : Obj) : w.grownBy (w.putObj g ob) (some g) := ⟨rfl, rfl, rfl, by simp [World.putObj], fun i hi hne => by
 have : g ≠ i := fun e => hne (by rw [e])
 simp [World.putObj, Array.getElem?_setIfInBounds, this]⟩
theorem putObj_at {w : World} {g : Nat} {o ob : Obj} (h : w.heap[g]? = some o) : (w.putObj g ob).heap[g]? = some ob := by
 have := (Array.getElem?_eq_some_iff.1 h).1
 simp [World.putObj, this]
theorem TL.mapsetR {x y z : Operand} {g i : Nat} {ob : Obj} {a : κ} {v : Value} [DecidableEq κ] (hg : o.guard = none) (hd : o.dst = none) (ho : o.op = .mapUpdate t x y z) (hx : ev E x = some (.map (some g))) (hy : ev E y = some (enc a)) (hz : ev E z = some v)
  (K : MKey P k enc Ok) (ht : P.underlying t = some (.map k e)) (hk : L[i]? = some (.oth g ob)) (hnew : Mine w0 g) (hm : MapR enc Ok ob f) (ha : Ok a)
  (h : ∀ ob', MapR enc Ok ob' (fun x => if x = a then some v else f x) → TL P N ops Q l E (Pm w0 (L.set i (.oth g ob')))) : TL P N ops Q (o :: l) E (Pm w0 L) := fun ac w hac hw =>
 wpList_plain hg fun K' hK => by
  obtain ⟨ob', w', hrun, he, hm', _⟩ := hm.put K ht (hw.at_ hk).1 ha v
  subst he
  have hex : (execOp ac.eval o).run P w = .ok .skip (w.putObj g ob') := by
   unfold execOp; rw [ho]
   simp only [hac.eval hx, hac.eval hy, hac.eval hz, Sem.run_bind, hrun, Result.andThen_ok, Sem.run_pure]
  unfold Oper.wp
  rw [hex]
  show K' (ac.put o.dst undef) _
  rw [hd]
  exact hK _ _ (h ob' hm' _ _ (hac.put0 _) (hw.turnO hk hnew (grown_putObj w g ob') (putObj_at (hw.at_ hk).1)))
theorem TL.mapentry {d : Nat} {x y : Operand} {g i : Nat} {ob : Obj} {a : κ} {z : Value} [DecidableEq κ] (hg : o.guard = none) (hd : o.dst = some d) (hN : Nat.blt d N.n = true) (ho : o.op = .mapEntry t x y) (hx : ev E x = some (.map (some g))) (hy : ev E y = some (enc a))
  (K : MKey P k enc Ok) (ht : P.underlying t = some (.map k e)) (hz : ∀ w : World, (zeroValue e).run P w = .ok z w) (hk : L[i]? = some (.oth g ob)) (hnew : Mine w0 g) (hm : MapR enc Ok ob f) (ha : Ok a) {v : Value} (hv : (f a).getD z = v)
  (h : ∀ ob' s, MapR enc Ok ob' (fun x => if x = a then some v else f x) → Stamped enc ob' a s → TL P N ops Q l ((d, .tuple #[v, .int .i64 ((s : Nat) : Int)]) :: E) (Pm w0 (L.set i (.oth g ob')))) : TL P N ops Q (o :: l) E (Pm w0 L) := by
 subst hv
 refine TL.run (α := {p : Obj × Nat // MapR enc Ok p.1 (fun x => if x = a then some ((f a).getD z) else f x) ∧ Stamped enc p.1 a p.2}) (r := fun p => .tuple #[(f a).getD z, .int .i64 ((p.1.2 : Nat) : Int)]) (I' := fun p => Pm w0 (L.set i (.oth g p.1.1))) hg hd hN (fun ac w hac hw => ?_) (fun p => h p.1.1 p.1.2 p.2.1 p.2.2)
 obtain ⟨ob', s, hrun, hm', hs⟩ := hm.entry K ht hz (hw.at_ hk).1 ha
 refine ⟨⟨(ob', s), hm', hs⟩, _, ?_, hw.turnO hk hnew (grown_putObj w g ob') (putObj_at (hw.at_ hk).1)⟩
 unfold execOp; rw [ho]
 simp only [hac.eval hx, hac.eval hy, Sem.run_bind, hrun, Result.andThen_ok, Sem.run_pure]
theorem TL.entrystore {x y z : Operand} {g i s : Nat} {ob : Obj} {a : κ} {v : Value} [DecidableEq κ] (hg : o.guard = none) (hd : o.dst = none) (ho : o.op = .entryStore t x y z) (hx : ev E x = some (.map (some g))) (hy : ev E y = some (.int .i64 ((s : Nat) : Int))) (hz : ev E z = some v)
  (K : MKey P k enc Ok) (ht : P.underlying t = some (.map k e)) (hk : L[i]? = some (.oth g ob)) (hnew : Mine w0 g) (hm : MapR enc Ok ob f) (ha : Ok a) (hs : Stamped enc ob a s)
  (h : ∀ ob', MapR enc Ok ob' (fun x => if x = a then some v else f x) → TL P N ops Q l E (Pm w0 (L.set i (.oth g ob')))) : TL P N ops Q (o :: l) E (Pm w0 L) := fun ac w hac hw =>
 wpList_plain hg fun K' hK => by
  obtain ⟨ob', hrun, hm'⟩ := hm.store K ht (hw.at_ hk).1 ha hs v
  have hex : (execOp ac.eval o).run P w = .ok .skip (w.putObj g ob') := by
   unfold execOp; rw [ho]
   simp only [hac.eval hx, hac.eval hy, hac.eval hz, Sem.run_bind, hrun, Result.andThen_ok, Sem.run_pure]
  unfold Oper.wp
  rw [hex]
  show K' (ac.put o.dst undef) _
  rw [hd]
  exact hK _ _ (h ob' hm' _ _ (hac.put0 _) (hw.turnO hk hnew (grown_putObj w g ob') (putObj_at (hw.at_ hk).1)))
theorem MapR.nc {enc : κ → Value} {ob : Obj} (h : MapR enc Ok ob f) : ob.isCells = false := by obtain ⟨_, _, he, _⟩ := h; rw [he]; rfl
theorem TL.rangeM {d : Nat} {x : Operand} {g : Nat} {ob : Obj} (hg : o.guard = none) (hd : o.dst = some d) (hN : Nat.blt d N.n = true) (ho : o.op = .range t x) (hx : ev E x = some (.map (some g))) (ht : P.underlying t = some (.map k e)) (hob : ∀ w, Pm w0 L w → w.heap[g]? = some ob) (hm : MapR enc Ok ob f)
  (h : ∀ it oi n, Mine w0 it → ItR enc Ok g ob oi f n [] → TL P N ops Q l ((d, .pointer (some ⟨it, 0, none⟩)) :: E) (Pm w0 (.oth it oi :: L))) : TL P N ops Q (o :: l) E (Pm w0 L) := by
 obtain ⟨es, clock, he, hm'⟩ := id hm
 subst he
 refine TL.run (α := {it : Nat // w0.w.heap.size ≤ it}) (r := fun it => .pointer (some ⟨it.1, 0, none⟩)) (I' := fun it => Pm w0 (.oth it.1 (.mapIter (some g) clock #[] clock) :: L)) hg hd hN (fun ac w hac hw => ?_) (fun it => h it.1 _ _ (mine_new it.2) (ItR.start hm))
 refine ⟨⟨w.heap.size, hw.oth.size⟩, w.alloc (.mapIter (some g) clock #[] clock), ?_, hw.add ((Below.refl _ _).alloc (Nat.le_refl _) _) ⟨heap_alloc_new w _, Nat.le_refl _⟩⟩
 unfold execOp; rw [ho]
 have hgo : (getObj g).run P w = .ok (.map es clock) w := by simp [getObj, Sem.run, hob w hw]
 simp [hac.eval hx, Instr.range, run_underlying ht, hgo, newObj, Sem.run]
theorem TL.nextM (K : MKey P k enc Ok) {d : Nat} {x : Operand} {g it j n : Nat} {ob oi : Obj} {ds : List (κ × Value)} (hg : o.guard = none) (hd : o.dst = some d) (hN : Nat.blt d N.n = true) (ho : o.op = .next x false) (hx : ev E x = some (.pointer (some ⟨it, 0, none⟩)))
  (hob : ∀ w, Pm w0 L w → w.heap[g]? = some ob) (hj : L[j]? = some (.oth it oi)) (hnew : Mine w0 it) (hit : ItR enc Ok g ob oi f n ds)
  (h0 : (∀ a v, f a = some v → (a, v) ∈ ds) → TL P N ops Q l ((d, .tuple #[.bool false]) :: E) (Pm w0 L))
  (h1 : ∀ a v oi', Ok a → f a = some v → a ∉ ds.map (·.1) → ItR enc Ok g ob oi' f n (ds ++ [(a, v)]) → ds.length < n → TL P N ops Q l ((d, .tuple #[.bool true, enc a, v]) :: E) (Pm w0 (L.set j (.oth it oi')))) : TL P N ops Q (o :: l) E (Pm w0 L) := fun ac w hac hw =>
 wpList_plain hg fun K' hK => by
  rcases hit.next (P := P) K (hob w hw) (hw.at_ hj).1 o.type with ⟨hr, hall⟩ | ⟨a, v, oi', w', hr, hgr, hoi, ha, hfa, hna, hit', hlt⟩
  ·have hex : (execOp ac.eval o).run P w = .ok (.value (.tuple #[.bool false])) w := by
    unfold execOp; rw [ho]
    simp only [hac.eval hx, Sem.run_bind, hr, Result.andThen_ok, Sem.run_pure]
   unfold Oper.wp
   rw [hex]
   show K' (ac.put o.dst _) _
   rw [hd]
   exact hK _ _ (h0 hall _ _ (hac.put d _ (by simpa [Nat.blt_eq] using hN)) hw)
  ·have hex : (execOp ac.eval o).run P w = .ok (.value (.tuple #[.bool true, enc a, v])) w' := by
    unfold execOp; rw [ho]
    simp only [hac.eval hx, Sem.run_bind, hr, Result.andThen_ok, Sem.run_pure]
   unfold Oper.wp
   rw [hex]
   show K' (ac.put o.dst _) _
   rw [hd]
   exact hK _ _ (h1 a v oi' ha hfa hna hit' hlt _ _ (hac.put d _ (by simpa [Nat.blt_eq] using hN)) (hw.turnO hj hnew hgr hoi))
theorem gives_entryM {x : Operand} {g it j n : Nat} {ob oi : Obj} {ds : List (κ × Value)} {a : κ} {v : Value} (ho : o.op = .entry x) (hx : ev E x = some (.pointer (some ⟨it, 0, none⟩))) (hob : ∀ w, Pm w0 L w → w.heap[g]? = some ob) (hj : L[j]? = some (.oth it oi)) (hit : ItR enc Ok g ob oi f n (ds ++ [(a, v)])) :
  Gives P N o E (Pm w0 L) (.tuple #[enc a, v]) := fun ac w hac hw => by
 unfold execOp; rw [ho]
 simp only [hac.eval hx, Sem.run_bind, hit.entry (hob w hw) (hw.at_ hj).1, Result.andThen_ok, Sem.run_pure]
end
open Go Go.RowKit
set_option maxRecDepth 20000
structure Spot where
  flow : Int
  ttl : Int
deriving DecidableEq
def Spot.cells (r : Spot) : List Value := [.int .i64 r.flow, .int .i64 r.ttl]
theorem spot_cel : Cel Spot.cells 2 := ⟨fun _ => rfl, fun r u hu => by
  simp only [Spot.cells, List.mem_cons, List.not_mem_nil, or_false] at hu
  rcases hu with rfl | rfl <;> rfl⟩
structure Place where
  ttl : Int
  addr : Int
deriving DecidableEq
def Place.cells (r : Place) : List Value := [.int .i64 r.ttl, .int .u32 r.addr]
theorem place_cel : Cel Place.cells 2 := ⟨fun _ => rfl, fun r u hu => by
  simp only [Place.cells, List.mem_cons, List.not_mem_nil, or_false] at hu
  rcases hu with rfl | rfl <;> rfl⟩
structure Stp where
  ttl : Int
  frm : Int
  to_ : Int
deriving DecidableEq
def Stp.cells (r : Stp) : List Value := [.int .i64 r.ttl, .int .u32 r.frm, .int .u32 r.to_]
theorem stp_cel : Cel Stp.cells 3 := ⟨fun _ => rfl, fun r u hu => by
  simp only [Stp.cells, List.mem_cons, List.not_mem_nil, or_false] at hu
  rcases hu with rfl | rfl | rfl <;> rfl⟩
def Spot.Ok (s : Spot) : Prop := (Lit.int .i64 s.flow).wf = true ∧ (Lit.int .i64 s.ttl).wf = true
theorem spot_lits (d : Nat) (a0 : Int) (a1 : Int) (h0 : (Lit.int .i64 a0).wf = true) (h1 : (Lit.int .i64 a1).wf = true) : Tryz.prog.keyLits (d + 2) 97 [.int .i64 a0, .int .i64 a1] = some [.int .i64 a0, .int .i64 a1] := by
  have hc : Tryz.prog.cellsOf 97 = 2 := by kernel_rfl
  have hc3 : Tryz.prog.cellsOf 3 = 1 := by kernel_rfl
  have hu3 := Tryz.underlying3
  simp [Program.keyLits, Tryz.underlying97, hc, hc3, hu3, h0, h1]
theorem spot_lit (s : Spot) (h : s.Ok) : ∃ l, keyOf Tryz.prog 97 (.agg s.cells.toArray) = some l := by
  have hkt : Tryz.prog.keyType 97 = true := by kernel_rfl
  have hc : Tryz.prog.cellsOf 97 = 2 := by kernel_rfl
  have hf : (Value.agg s.cells.toArray).formed Tryz.prog 97 = true := by simp [Value.formed, Tryz.underlying97, hc, Spot.cells]
  have hp : 0 < Tryz.prog.types.size := of_decide_eq_true (by kernel_rfl)
  have hl := spot_lits (Tryz.prog.types.size - 1) s.flow s.ttl h.1 h.2
  rw [show Tryz.prog.types.size - 1 + 2 = Tryz.prog.types.size + 1 by omega] at hl
  refine ⟨.string (keyBytes [.int .i64 s.flow, .int .i64 s.ttl]), ?_⟩
  unfold keyOf
  rw [Tryz.underlying97]
  simp only [hkt, hf, Bool.and_self, if_true]
  show Option.map _ (Tryz.prog.keyLits _ _ [.int .i64 s.flow, .int .i64 s.ttl]) = _
  rw [hl]
  rfl
theorem spot_key : MKey Tryz.prog 97 (fun s : Spot => .agg s.cells.toArray) Spot.Ok where
  keyed := Maps.Keyed.of_law (deep_law (m := 2) (by omega) (by kernel_rfl) (by kernel_rfl) (by rw [Tryz.underlying97]))
  lit := spot_lit
  inj := fun a b h => by
    cases a; cases b
    simpa [Spot.cells] using h
def Place.Ok (s : Place) : Prop := (Lit.int .i64 s.ttl).wf = true ∧ (Lit.int .u32 s.addr).wf = true
theorem place_lits (d : Nat) (a0 : Int) (a1 : Int) (h0 : (Lit.int .i64 a0).wf = true) (h1 : (Lit.int .u32 a1).wf = true) : Tryz.prog.keyLits (d + 2) 99 [.int .i64 a0, .int .u32 a1] = some [.int .i64 a0, .int .u32 a1] := by
  have hc : Tryz.prog.cellsOf 99 = 2 := by kernel_rfl
  have hc3 : Tryz.prog.cellsOf 3 = 1 := by kernel_rfl
  have hu3 := Tryz.underlying3
  have hc30 : Tryz.prog.cellsOf 30 = 1 := by kernel_rfl
  have hu30 := Tryz.underlying30
  simp [Program.keyLits, Tryz.underlying99, hc, hc3, hu3, hc30, hu30, h0, h1]
theorem place_lit (s : Place) (h : s.Ok) : ∃ l, keyOf Tryz.prog 99 (.agg s.cells.toArray) = some l := by
  have hkt : Tryz.prog.keyType 99 = true := by kernel_rfl
  have hc : Tryz.prog.cellsOf 99 = 2 := by kernel_rfl
  have hf : (Value.agg s.cells.toArray).formed Tryz.prog 99 = true := by simp [Value.formed, Tryz.underlying99, hc, Place.cells]
  have hp : 0 < Tryz.prog.types.size := of_decide_eq_true (by kernel_rfl)
  have hl := place_lits (Tryz.prog.types.size - 1) s.ttl s.addr h.1 h.2
  rw [show Tryz.prog.types.size - 1 + 2 = Tryz.prog.types.size + 1 by omega] at hl
  refine ⟨.string (keyBytes [.int .i64 s.ttl, .int .u32 s.addr]), ?_⟩
  unfold keyOf
  rw [Tryz.underlying99]
  simp only [hkt, hf, Bool.and_self, if_true]
  show Option.map _ (Tryz.prog.keyLits _ _ [.int .i64 s.ttl, .int .u32 s.addr]) = _
  rw [hl]
  rfl
theorem place_key : MKey Tryz.prog 99 (fun s : Place => .agg s.cells.toArray) Place.Ok where
  keyed := Maps.Keyed.of_law (deep_law (m := 2) (by omega) (by kernel_rfl) (by kernel_rfl) (by rw [Tryz.underlying99]))
  lit := place_lit
  inj := fun a b h => by
    cases a; cases b
    simpa [Place.cells] using h
def Stp.Ok (s : Stp) : Prop := (Lit.int .i64 s.ttl).wf = true ∧ (Lit.int .u32 s.frm).wf = true ∧ (Lit.int .u32 s.to_).wf = true
theorem stp_lits (d : Nat) (a0 : Int) (a1 : Int) (a2 : Int) (h0 : (Lit.int .i64 a0).wf = true) (h1 : (Lit.int .u32 a1).wf = true) (h2 : (Lit.int .u32 a2).wf = true) : Tryz.prog.keyLits (d + 2) 102 [.int .i64 a0, .int .u32 a1, .int .u32 a2] = some [.int .i64 a0, .int .u32 a1, .int .u32 a2] := by
  have hc : Tryz.prog.cellsOf 102 = 3 := by kernel_rfl
  have hc3 : Tryz.prog.cellsOf 3 = 1 := by kernel_rfl
  have hu3 := Tryz.underlying3
  have hc30 : Tryz.prog.cellsOf 30 = 1 := by kernel_rfl
  have hu30 := Tryz.underlying30
  simp [Program.keyLits, Tryz.underlying102, hc, hc3, hu3, hc30, hu30, h0, h1, h2]
theorem stp_lit (s : Stp) (h : s.Ok) : ∃ l, keyOf Tryz.prog 102 (.agg s.cells.toArray) = some l := by
  have hkt : Tryz.prog.keyType 102 = true := by kernel_rfl
  have hc : Tryz.prog.cellsOf 102 = 3 := by kernel_rfl
  have hf : (Value.agg s.cells.toArray).formed Tryz.prog 102 = true := by simp [Value.formed, Tryz.underlying102, hc, Stp.cells]
  have hp : 0 < Tryz.prog.types.size := of_decide_eq_true (by kernel_rfl)
  have hl := stp_lits (Tryz.prog.types.size - 1) s.ttl s.frm s.to_ h.1 h.2.1 h.2.2
  rw [show Tryz.prog.types.size - 1 + 2 = Tryz.prog.types.size + 1 by omega] at hl
  refine ⟨.string (keyBytes [.int .i64 s.ttl, .int .u32 s.frm, .int .u32 s.to_]), ?_⟩
  unfold keyOf
  rw [Tryz.underlying102]
  simp only [hkt, hf, Bool.and_self, if_true]
  show Option.map _ (Tryz.prog.keyLits _ _ [.int .i64 s.ttl, .int .u32 s.frm, .int .u32 s.to_]) = _
  rw [hl]
  rfl
theorem stp_key : MKey Tryz.prog 102 (fun s : Stp => .agg s.cells.toArray) Stp.Ok where
  keyed := Maps.Keyed.of_law (deep_law (m := 2) (by omega) (by kernel_rfl) (by kernel_rfl) (by rw [Tryz.underlying102]))
  lit := stp_lit
  inj := fun a b h => by
    cases a; cases b
    simpa [Stp.cells] using h
set_option maxRecDepth 20000
def fitE (e : Int) (r : Rs) : Bool := (decide (e = 0) || decide (r.ttl < e)) && finRs r
def endT (l : List Rs) : Int := l.foldl (fun e r => if fitE e r then r.ttl else e) 0
theorem endT_snoc {l : List Rs} {i : Nat} {x : Rs} {e : Int} (hx : l[i]? = some x) (h : endT (l.take i) = e) : endT (l.take (i + 1)) = if fitE e x then x.ttl else e := by
 unfold endT at h ⊢
 rw [List.take_add_one, hx, List.foldl_append, h]
 rfl
def useR (e : Int) (r : Rs) : Bool := usbRs r && !(decide (e > 0) && decide (r.ttl > e))
def updF {κ β : Type} [DecidableEq κ] (f : κ → Option β) (a : κ) (v : β) : κ → Option β := fun x => if x = a then some v else f x
theorem upd_map {κ : Type} [DecidableEq κ] (f : κ → Option Int) (a : κ) (q : IntKind) (v : Int) : (fun x => if x = a then some (Value.int q v) else (f x).map (Value.int q)) = fun x => (updF f a v x).map (Value.int q) := by
 funext x
 unfold updF
 split <;> rfl
def spotR (r : Rs) : Spot := ⟨r.flow, r.ttl⟩
def stepK (e : Int) (p : (Spot → Option Int) × (Spot → Option Int)) (r : Rs) : (Spot → Option Int) × (Spot → Option Int) :=
 if useR e r then
  if r.ans = false then (p.1, updF p.2 (spotR r) (max ((p.2 (spotR r)).getD 0) 1))
  else if (p.2 (spotR r)).getD 0 ≤ 1 then (updF p.1 (spotR r) r.src, updF p.2 (spotR r) 2)
  else if (p.2 (spotR r)).getD 0 = 2 ∧ (p.1 (spotR r)).getD 0 ≠ r.src then (updF p.1 (spotR r) 0, updF p.2 (spotR r) 3)
  else p
 else p
def lookS2 (e : Int) (l : List Rs) : (Spot → Option Int) × (Spot → Option Int) := l.foldl (stepK e) (fun _ => none, fun _ => none)
def lookS (l : List Rs) : (Spot → Option Int) × (Spot → Option Int) := lookS2 (endT l) l
theorem spotOk {l : List Rs} {i : Nat} {x : Rs} (hx : l[i]? = some x) (hu : usbRs x = true) (hok : ∀ r ∈ l, r.Ok) : (⟨x.flow, x.ttl⟩ : Spot).Ok := by
 have hv : vldRs x = true := by unfold usbRs at hu; simp only [Bool.and_eq_true] at hu; exact hu.2
 have hc : chkR x = 0 := by unfold vldRs at hv; simp only [Bool.and_eq_true, decide_eq_true_eq] at hv; exact hv.1.1
 have hr : x.inRange := Decidable.by_contra fun h => by have := chk_range h; omega
 obtain ⟨a1, a2, a3, a4, a5, a6, a7, a8, a9, a10, a11, a12, a13, a14, a15⟩ := hr
 constructor
 ·show (Lit.int .i64 x.flow).wf = true
  simp [Lit.wf, IntKind.min, IntKind.max, IntKind.signed, IntKind.bits]; omega
 ·show (Lit.int .i64 x.ttl).wf = true
  simp [Lit.wf, IntKind.min, IntKind.max, IntKind.signed, IntKind.bits]; omega
section
variable {l : List Rs} {i : Nat} {x : Rs} {e : Int} {fa fs : Spot → Option Int}
theorem lookS_snoc (hx : l[i]? = some x) (h : lookS2 e (l.take i) = (fa, fs)) : lookS2 e (l.take (i + 1)) = stepK e (fa, fs) x := by
 unfold lookS2 at h ⊢
 rw [List.take_add_one, hx, List.foldl_append, h]
 rfl
theorem lookS_skip (hx : l[i]? = some x) (h : lookS2 e (l.take i) = (fa, fs)) (hu : useR e x = false) : lookS2 e (l.take (i + 1)) = (fa, fs) := by
 rw [lookS_snoc hx h, stepK, if_neg (by rw [hu]; decide)]
theorem lookS_none (hx : l[i]? = some x) (h : lookS2 e (l.take i) = (fa, fs)) (hu : useR e x = true) (ha : x.ans = false) : lookS2 e (l.take (i + 1)) = (fa, updF fs ⟨x.flow, x.ttl⟩ (max ((fs ⟨x.flow, x.ttl⟩).getD 0) 1)) := by
 rw [lookS_snoc hx h, stepK, if_pos hu, if_pos ha]; rfl
theorem lookS_first (hx : l[i]? = some x) (h : lookS2 e (l.take i) = (fa, fs)) (hu : useR e x = true) (ha : x.ans = true) (hk : (fs ⟨x.flow, x.ttl⟩).getD 0 ≤ 1) : lookS2 e (l.take (i + 1)) = (updF fa ⟨x.flow, x.ttl⟩ x.src, updF fs ⟨x.flow, x.ttl⟩ 2) := by
 have hk' : ((fa, fs).2 (spotR x)).getD 0 ≤ 1 := hk
 rw [lookS_snoc hx h, stepK, if_pos hu, if_neg (by rw [ha]; decide), if_pos hk']; rfl
theorem lookS_mix (hx : l[i]? = some x) (h : lookS2 e (l.take i) = (fa, fs)) (hu : useR e x = true) (ha : x.ans = true) (hk : (fs ⟨x.flow, x.ttl⟩).getD 0 = 2) (hn : (fa ⟨x.flow, x.ttl⟩).getD 0 ≠ x.src) : lookS2 e (l.take (i + 1)) = (updF fa ⟨x.flow, x.ttl⟩ 0, updF fs ⟨x.flow, x.ttl⟩ 3) := by
 have hk2 : ¬ ((fa, fs).2 (spotR x)).getD 0 ≤ 1 := by have : ((fa, fs).2 (spotR x)).getD 0 = 2 := hk; omega
 rw [lookS_snoc hx h, stepK, if_pos hu, if_neg (by rw [ha]; decide), if_neg hk2, if_pos ⟨hk, hn⟩]; rfl
theorem lookS_same (hx : l[i]? = some x) (h : lookS2 e (l.take i) = (fa, fs)) (hu : useR e x = true) (ha : x.ans = true) (hk : ¬ (fs ⟨x.flow, x.ttl⟩).getD 0 ≤ 1) (hn : ¬ (fs ⟨x.flow, x.ttl⟩).getD 0 = 2 ∨ ¬ (fa ⟨x.flow, x.ttl⟩).getD 0 ≠ x.src) : lookS2 e (l.take (i + 1)) = (fa, fs) := by
 have hk' : ¬ ((fa, fs).2 (spotR x)).getD 0 ≤ 1 := hk
 rw [lookS_snoc hx h, stepK, if_pos hu, if_neg (by rw [ha]; decide), if_neg hk', if_neg (by
  rintro ⟨h1, h2⟩
  rcases hn with h3 | h3
  ·exact h3 h1
  ·exact h3 h2)]
end
theorem plkzv91 (w : World) : (zeroValue 91).run Tryz.prog w = .ok (.agg #[.int .i64 0, .map none, .map none]) w := rfl
theorem plkbld91_56786 (a0_0 : Int) (a1_0 : Nat) (a2_0 : Nat) (w : World) : (Instr.build 91 #[(0, .int .i64 a0_0), (1, .map (some a1_0)), (2, .map (some a2_0))]).run Tryz.prog w = .ok (.agg #[.int .i64 a0_0, .map (some a1_0), .map (some a2_0)]) w := by kernel_rfl
theorem plksz91 (w : World) : (sizeOf 91).run Tryz.prog w = .ok 3 w := rfl
theorem plkone_i64mm {a0 : Int} {a1 : Nat} {a2 : Nat} : ∀ u ∈ [(.int .i64 a0 : Value), .map (some a1), .map (some a2)], u.oneCell' = true := by
 intro u hu
 simp only [List.mem_cons, List.not_mem_nil, or_false] at hu
 rcases hu with rfl | rfl | rfl <;> rfl
theorem plkfld91_0 : FA Tryz.prog 91 0 0 := fun g o w => by kernel_rfl
theorem plkbld97_27266 (a0_0 : Int) (a1_0 : Int) (w : World) : (Instr.build 97 #[(0, .int .i64 a0_0), (1, .int .i64 a1_0)]).run Tryz.prog w = .ok (.agg #[.int .i64 a0_0, .int .i64 a1_0]) w := by kernel_rfl
theorem plkzv97 (w : World) : (zeroValue 97).run Tryz.prog w = .ok (.agg #[.int .i64 0, .int .i64 0]) w := rfl
theorem plksz97 (w : World) : (sizeOf 97).run Tryz.prog w = .ok 2 w := rfl
theorem plkone_i64i64 {a0 : Int} {a1 : Int} : ∀ u ∈ [(.int .i64 a0 : Value), .int .i64 a1], u.oneCell' = true := by
 intro u hu
 simp only [List.mem_cons, List.not_mem_nil, or_false] at hu
 rcases hu with rfl | rfl <;> rfl
theorem plkfld91_2 : FA Tryz.prog 91 2 2 := fun g o w => by kernel_rfl
theorem plkag89 (w : World) : (isAgg 89).run Tryz.prog w = .ok false w := rfl
theorem plkag97 (w : World) : (isAgg 97).run Tryz.prog w = .ok true w := rfl
theorem plkfld91_1 : FA Tryz.prog 91 1 1 := fun g o w => by kernel_rfl
theorem plkag88 (w : World) : (isAgg 88).run Tryz.prog w = .ok false w := rfl
theorem plkag91 (w : World) : (isAgg 91).run Tryz.prog w = .ok true w := rfl
set_option maxHeartbeats 1000000 in
theorem end_any (A0 : Option Addr) (c0 : Nat) (l : List Rs) (w : World) (hr : Reads w w.heap.size 17 A0 l.length (flat Rs.cells l)) (hl1 : l.length ≤ 100000) :
  Calls Tryz.prog 20 #[.slice A0 l.length c0] w fun e w' => e = .returned (.int .i64 (endT l)) ∧ Below w.heap.size w w' := by
 refine begin_ (vs := [.slice A0 l.length c0]) Tryz.func20 rfl rfl rfl ?_ (Pm.start w)
 refine zSG ?_
 refine TL.as_ ?_
 refine zET (zSG ?_)
 refine TL.as_ ?_
 refine zET (zS (zSG ?_))
 refine TL.mv ?_
 refine TL.v (gN Tryz.underlying26) ?_
 refine TL.mv ?_
 refine zET (zB ?_)
 refine TC.loop_ (α := {y : Nat × Int // y.1 ≤ l.length ∧ endT (l.take y.1) = y.2}) (fun y => [(2, .int .i64 0), (6, .slice A0 l.length c0), (7, .int .i64 (l.length : Nat)), (8, .int .i64 ((y.1.1 : Nat) : Int)), (3, .int .i64 y.1.2)]) (fun y => Pm w []) (fun y => l.length - y.1.1) (⟨(0, 0), Nat.zero_le _, rfl⟩) ⟨rfl, rfl, rfl, rfl, rfl, trivial⟩ (fun w1 hw => hw) ?_
 rintro ⟨⟨i, en⟩, hi, hst⟩
 dsimp only at hi hst ⊢
 refine zSG ?_
 refine TL.vsplit rfl rfl rfl (gives_bin rfl rfl rfl (fun w => bin_lss w)) (fun h9 => ?_) (fun h9 => ?_)
 ·have q9 := of_decide_eq_true h9
  refine zET (zS (zc (zk (zT (zS (zB (zSG ?_)))))))
  have hi10 : i < l.length := by omega
  obtain ⟨x10, hx10⟩ := ex_at hi10
  obtain ⟨b10, o10, hA10, hbb10, hc10⟩ := hr.ad (by omega) (by decide)
  refine TL.val rfl rfl rfl (gA (i := i) Tryz.underlying26 prssz47 rfl rfl rfl rfl hA10 (by omega)) ?_
  refine TL.v (gR rs_cel prsag47 prssz47 hbb10 hx10 hc10) ?_
  refine TL.pnew rfl rfl rfl (exec_alloc (cs := [.int .i64 0, .int .i64 0, .int .i64 0, .int .i64 0, .int .u32 0, .int .i64 0, .int .i64 0, .int .i64 0, .bool false, .bool false, .int .i64 0, .int .u32 0, .int .i64 0, .int .i64 0, .int .i64 0, .int .i64 0, .int .i64 0]) rfl pcpzv47 rfl) (fun g5 => ?_)
  refine TL.pstore (k := 0) (vs := x10.cells) rfl rfl rfl rfl rfl rfl rfl prssz47 (rs_cel.one _) (by show 17 ≤ 17; decide) rfl ?_
  refine zET (zSG ?_)
  refine TL.mv ?_
  refine TL.sp bin_eql (fun q13 => ?_) (fun q13 => ?_)
  ·refine TL.rn 7 rfl ?_
   refine TL.ov (gV 0 (.agg (x10.cells).toArray) prsag47 prssz47) ?_
   refine TL.gu ?_
   refine TL.callsplit rfl rfl rfl rfl rfl Tryz.func17 (by decide) rfl (fun w1 hw => finRs_any x10 w1) (fun h22 => ?_) (fun h22 => ?_)
   ·refine TL.pk ?_
    refine zET (zc (zG ?_))
    refine TL.v (gF prsfld47_7) ?_
    refine TL.v (gL 0 pcmag3) ?_
    refine TL.as_ ?_
    refine zE (zN (zT (zG ?_)))
    refine TL.v (gD ((i + 1 : Nat) : Int)) ?_
    refine TL.mv ?_
    refine zE ?_
    exact TX.round (⟨(i + 1, x10.ttl), by dsimp only; omega, by rw [endT_snoc hx10 hst, if_pos (by simp [fitE, q9, q13, h22])]⟩) (by show l.length - (i + 1) < l.length - i; omega) ⟨rfl, rfl, rfl, rfl, rfl, trivial⟩ (fun w1 hw => hw.pick [] (by decide) rfl)
   ·refine TL.pk ?_
    refine zET (zd (zk (zN (zT (zG ?_)))))
    refine TL.v (gD ((i + 1 : Nat) : Int)) ?_
    refine TL.mv ?_
    refine zE ?_
    exact TX.round (⟨(i + 1, en), by dsimp only; omega, by rw [endT_snoc hx10 hst, if_neg (by simp [fitE, q9, q13, h22])]⟩) (by show l.length - (i + 1) < l.length - i; omega) ⟨rfl, rfl, rfl, rfl, rfl, trivial⟩ (fun w1 hw => hw.pick [] (by decide) rfl)
  ·refine TL.mv ?_
   refine TL.ov (gF prsfld47_7) ?_
   refine TL.ov (gL 0 pcmag3) ?_
   refine TL.rn 1 rfl ?_
   refine TL.gu ?_
   refine TL.sp bin_lss (fun q18 => ?_) (fun q18 => ?_)
   ·refine TL.rn 2 rfl ?_
    refine TL.ov (gV 0 (.agg (x10.cells).toArray) prsag47 prssz47) ?_
    refine TL.gu ?_
    refine TL.callsplit rfl rfl rfl rfl rfl Tryz.func17 (by decide) rfl (fun w1 hw => finRs_any x10 w1) (fun h22 => ?_) (fun h22 => ?_)
    ·refine TL.pk ?_
     refine zET (zc (zG ?_))
     refine TL.v (gF prsfld47_7) ?_
     refine TL.v (gL 0 pcmag3) ?_
     refine TL.as_ ?_
     refine zE (zN (zT (zG ?_)))
     refine TL.v (gD ((i + 1 : Nat) : Int)) ?_
     refine TL.mv ?_
     refine zE ?_
     exact TX.round (⟨(i + 1, x10.ttl), by dsimp only; omega, by rw [endT_snoc hx10 hst, if_pos (by simp [fitE, q9, q13, q18, h22])]⟩) (by show l.length - (i + 1) < l.length - i; omega) ⟨rfl, rfl, rfl, rfl, rfl, trivial⟩ (fun w1 hw => hw.pick [] (by decide) rfl)
    ·refine TL.pk ?_
     refine zET (zd (zk (zN (zT (zG ?_)))))
     refine TL.v (gD ((i + 1 : Nat) : Int)) ?_
     refine TL.mv ?_
     refine zE ?_
     exact TX.round (⟨(i + 1, en), by dsimp only; omega, by rw [endT_snoc hx10 hst, if_neg (by simp [fitE, q9, q13, q18, h22])]⟩) (by show l.length - (i + 1) < l.length - i; omega) ⟨rfl, rfl, rfl, rfl, rfl, trivial⟩ (fun w1 hw => hw.pick [] (by decide) rfl)
   ·refine TL.rn 5 rfl ?_
    refine zET (zd (zk (zN (zT (zG ?_)))))
    refine TL.v (gD ((i + 1 : Nat) : Int)) ?_
    refine TL.mv ?_
    refine zE ?_
    exact TX.round (⟨(i + 1, en), by dsimp only; omega, by rw [endT_snoc hx10 hst, if_neg (by simp [fitE, q9, q13, q18])]⟩) (by show l.length - (i + 1) < l.length - i; omega) ⟨rfl, rfl, rfl, rfl, rfl, trivial⟩ (fun w1 hw => hw.pick [] (by decide) rfl)
 ·have q9 := of_decide_eq_false h9
  refine zET (zS (zd (zx (zX (zX (zM (zT (zSG ?_))))))))
  refine TL.rn 2 rfl ?_
  refine zET (zr ?_)
  have hE : endT l = en := by rw [List.take_of_length_le (by omega)] at hst; exact hst
  exact ret_tmp Tryz.results20 rfl (fun w1 hw => ⟨by rw [hE], hw.bel⟩)
set_option maxHeartbeats 1000000 in
theorem rend_any (A0 : Option Addr) (c0 : Nat) (l : List Rs) (w : World) (hr : Reads w w.heap.size 17 A0 l.length (flat Rs.cells l)) (hl1 : l.length ≤ 100000) :
  Calls Tryz.prog 48 #[.slice A0 l.length c0] w fun e w' => e = .returned (.int .i64 (endT l)) ∧ Below w.heap.size w w' := by
 refine begin_ (vs := [.slice A0 l.length c0]) Tryz.func48 rfl rfl rfl ?_ (Pm.start w)
 refine zSG ?_
 refine TL.as_ ?_
 refine zET (zSG ?_)
 refine TL.as_ ?_
 refine zET (zS (zSG ?_))
 refine TL.as_ ?_
 refine zET (zB ?_)
 refine TC.loop_ (α := {y : Nat × Int // y.1 ≤ l.length ∧ endT (l.take y.1) = y.2}) (fun y => [(0, .slice A0 l.length c0), (2, .int .i64 0), (4, .int .i64 ((y.1.1 : Nat) : Int)), (3, .int .i64 y.1.2)]) (fun y => Pm w []) (fun y => l.length - y.1.1) (⟨(0, 0), Nat.zero_le _, rfl⟩) ⟨rfl, rfl, rfl, rfl, trivial⟩ (fun w1 hw => hw) ?_
 rintro ⟨⟨i, en⟩, hi, hst⟩
 dsimp only at hi hst ⊢
 refine zS (zSG ?_)
 refine TL.rn 2 rfl ?_
 refine TL.v (gN Tryz.underlying26) ?_
 refine TL.sp bin_lss (fun q8 => ?_) (fun q8 => ?_)
 ·refine zET (zc (zk (zT (zS (zB (zSG ?_))))))
  refine TL.rn 2 rfl ?_
  have hi13 : i < l.length := by omega
  obtain ⟨x13, hx13⟩ := ex_at hi13
  obtain ⟨b13, o13, hA13, hbb13, hc13⟩ := hr.ad (by omega) (by decide)
  refine TL.val rfl rfl rfl (gA (i := i) Tryz.underlying26 prssz47 rfl rfl rfl rfl hA13 (by omega)) ?_
  refine TL.v (gR rs_cel prsag47 prssz47 hbb13 hx13 hc13) ?_
  refine TL.callsplit rfl rfl rfl rfl rfl Tryz.func30 (by decide) rfl (fun w1 hw => rfinRs_any x13 w1) (fun h15 => ?_) (fun h15 => ?_)
  ·refine TL.rn 2 rfl ?_
   refine TL.gu ?_
   refine TL.sp bin_eql (fun q18 => ?_) (fun q18 => ?_)
   ·refine TL.rn 10 rfl ?_
    refine zET (zc (zG ?_))
    refine TL.rn 2 rfl ?_
    refine TL.val rfl rfl rfl (gA (i := i) Tryz.underlying26 prssz47 rfl rfl rfl rfl hA13 (by omega)) ?_
    refine TL.v (gF prsfld47_7) ?_
    refine TL.v (gS 7 rs_cel pcmag3 hbb13 hx13 hc13) ?_
    refine TL.as_ ?_
    refine zE (zN (zT (zG ?_)))
    refine TL.mv ?_
    refine TL.v (gD ((i + 1 : Nat) : Int)) ?_
    refine TL.as_ ?_
    refine zE ?_
    exact TX.round (⟨(i + 1, x13.ttl), by dsimp only; omega, by rw [endT_snoc hx13 hst, if_pos (by simp [fitE, q8, h15, q18])]⟩) (by show l.length - (i + 1) < l.length - i; omega) ⟨rfl, rfl, rfl, rfl, trivial⟩ (fun w1 hw => hw)
   ·refine TL.rn 3 rfl ?_
    refine TL.gu ?_
    refine TL.val rfl rfl rfl (gA (i := i) Tryz.underlying26 prssz47 rfl rfl rfl rfl hA13 (by omega)) ?_
    refine TL.ov (gF prsfld47_7) ?_
    refine TL.ov (gS 7 rs_cel pcmag3 hbb13 hx13 hc13) ?_
    refine TL.rn 1 rfl ?_
    refine TL.gu ?_
    refine TL.sp bin_lss (fun q26 => ?_) (fun q26 => ?_)
    ·refine TL.rn 2 rfl ?_
     refine zET (zc (zG ?_))
     refine TL.rn 2 rfl ?_
     refine TL.val rfl rfl rfl (gA (i := i) Tryz.underlying26 prssz47 rfl rfl rfl rfl hA13 (by omega)) ?_
     refine TL.v (gF prsfld47_7) ?_
     refine TL.v (gS 7 rs_cel pcmag3 hbb13 hx13 hc13) ?_
     refine TL.as_ ?_
     refine zE (zN (zT (zG ?_)))
     refine TL.mv ?_
     refine TL.v (gD ((i + 1 : Nat) : Int)) ?_
     refine TL.as_ ?_
     refine zE ?_
     exact TX.round (⟨(i + 1, x13.ttl), by dsimp only; omega, by rw [endT_snoc hx13 hst, if_pos (by simp [fitE, q8, h15, q18, q26])]⟩) (by show l.length - (i + 1) < l.length - i; omega) ⟨rfl, rfl, rfl, rfl, trivial⟩ (fun w1 hw => hw)
    ·refine TL.rn 2 rfl ?_
     refine zET (zd (zk (zN (zT (zG ?_)))))
     refine TL.mv ?_
     refine TL.v (gD ((i + 1 : Nat) : Int)) ?_
     refine TL.as_ ?_
     refine zE ?_
     exact TX.round (⟨(i + 1, en), by dsimp only; omega, by rw [endT_snoc hx13 hst, if_neg (by simp [fitE, q8, h15, q18, q26])]⟩) (by show l.length - (i + 1) < l.length - i; omega) ⟨rfl, rfl, rfl, rfl, trivial⟩ (fun w1 hw => hw)
  ·refine TL.rn 4 rfl ?_
   refine TL.offU rfl rfl rfl rfl rfl ?_
   refine TL.offU rfl rfl rfl rfl rfl ?_
   refine TL.offU rfl rfl rfl rfl rfl ?_
   refine TL.offU rfl rfl rfl rfl rfl ?_
   refine TL.offU rfl rfl rfl rfl rfl ?_
   refine TL.offU rfl rfl rfl rfl rfl ?_
   refine TL.offU rfl rfl rfl rfl rfl ?_
   refine TL.rn 2 rfl ?_
   refine zET (zd (zk (zN (zT (zG ?_)))))
   refine TL.mv ?_
   refine TL.v (gD ((i + 1 : Nat) : Int)) ?_
   refine TL.as_ ?_
   refine zE ?_
   exact TX.round (⟨(i + 1, en), by dsimp only; omega, by rw [endT_snoc hx13 hst, if_neg (by simp [fitE, q8, h15])]⟩) (by show l.length - (i + 1) < l.length - i; omega) ⟨rfl, rfl, rfl, rfl, trivial⟩ (fun w1 hw => hw)
 ·refine zET (zd (zx (zX (zX (zM (zT (zSG ?_)))))))
  refine TL.rn 2 rfl ?_
  refine zET (zr ?_)
  have hE : endT l = en := by rw [List.take_of_length_le (by omega)] at hst; exact hst
  exact ret_tmp Tryz.results48 rfl (fun w1 hw => ⟨by rw [hE], hw.bel⟩)
set_option maxHeartbeats 1000000 in
theorem look_any (A0 : Option Addr) (c0 : Nat) (l : List Rs) (w : World) (hr : Reads w w.heap.size 17 A0 l.length (flat Rs.cells l)) (hl1 : l.length ≤ 100000) (hok : ∀ r ∈ l, r.Ok) :
  Calls Tryz.prog 58 #[.slice A0 l.length c0] w fun e w' => ∃ x : {y : (Nat × Obj) × (Nat × Obj) // MapR (fun s : Spot => Value.agg s.cells.toArray) Spot.Ok y.1.2 (fun s => ((lookS l).1 s).map (Value.int .u32)) ∧ MapR (fun s : Spot => Value.agg s.cells.toArray) Spot.Ok y.2.2 (fun s => ((lookS l).2 s).map (Value.int .i64))}, e = .returned (.agg #[.int .i64 (endT l), .map (some x.1.1.1), .map (some x.1.2.1)]) ∧ Pm w [.oth x.1.1.1 x.1.1.2, .oth x.1.2.1 x.1.2.2] w' := by
 refine begin_ (vs := [.slice A0 l.length c0]) Tryz.func58 rfl rfl rfl ?_ (Pm.start w)
 refine zSG ?_
 refine TL.pnew rfl rfl rfl (exec_alloc (cs := [.int .i64 0, .map none, .map none]) rfl plkzv91 rfl) (fun g2 => ?_)
 refine zET (zSG ?_)
 refine TL.mv ?_
 refine TL.pcall1 (r := .int .i64 (endT l)) rfl rfl rfl rfl rfl Tryz.func20 (by decide) rfl (fun w1 hw => end_any A0 c0 l w1 (hr.up hw.bel) hl1) ?_
 refine TL.mkmap rfl rfl rfl rfl (fun ga hga => ?_)
 refine TL.mkmap rfl rfl rfl rfl (fun gs hgs => ?_)
 refine TL.val rfl rfl rfl (gives_build (v := .agg #[.int .i64 (endT l), .map (some ga), .map (some gs)]) rfl rfl (fun w => plkbld91_56786 _ _ _ w)) ?_
 refine TL.pnew rfl rfl rfl (exec_alloc (cs := [.int .i64 0, .map none, .map none]) rfl plkzv91 rfl) (fun g3 => ?_)
 refine TL.pstore (k := 0) (vs := [.int .i64 (endT l), .map (some ga), .map (some gs)]) rfl rfl rfl rfl rfl rfl rfl plksz91 plkone_i64mm (by show 3 ≤ 3; decide) rfl ?_
 refine zET (zS (zSG ?_))
 refine TL.mv ?_
 refine TL.v (gN Tryz.underlying26) ?_
 refine TL.mv ?_
 refine zET (zB ?_)
 refine TC.loop_ (α := {y : Nat × (Obj × Obj) // y.1 ≤ l.length ∧ ∃ fa fs, lookS2 (endT l) (l.take y.1) = (fa, fs) ∧ MapR (fun s : Spot => Value.agg s.cells.toArray) Spot.Ok y.2.1 (fun s => (fa s).map (Value.int .u32)) ∧ MapR (fun s : Spot => Value.agg s.cells.toArray) Spot.Ok y.2.2 (fun s => (fs s).map (Value.int .i64))}) (fun y => [(2, .pointer (some ⟨g2, 0, none⟩)), (3, .pointer (some ⟨g3, 0, none⟩)), (13, .slice A0 l.length c0), (14, .int .i64 (l.length : Nat)), (15, .int .i64 ((y.1.1 : Nat) : Int))]) (fun y => Pm w [.blk g3 91 [.int .i64 (endT l), .map (some ga), .map (some gs)], .oth gs y.1.2.2, .oth ga y.1.2.1, .blk g2 91 [.int .i64 0, .map none, .map none]]) (fun y => l.length - y.1.1) (⟨(0, (.map #[] 0, .map #[] 0)), Nat.zero_le _, _, _, rfl, mapR_new _ _, mapR_new _ _⟩) ⟨rfl, rfl, rfl, rfl, rfl, trivial⟩ (fun w1 hw => hw) ?_
 rintro ⟨⟨i, oa, os⟩, hi, fa, fs, hst, hma, hms⟩
 dsimp only at hi hst hma hms ⊢
 refine zSG ?_
 refine TL.sp bin_lss (fun q16 => ?_) (fun q16 => ?_)
 ·refine zET (zS (zc (zk (zT (zS (zB (zSG ?_)))))))
  have hi17 : i < l.length := by omega
  obtain ⟨x17, hx17⟩ := ex_at hi17
  obtain ⟨b17, o17, hA17, hbb17, hc17⟩ := hr.ad (by omega) (by decide)
  refine TL.val rfl rfl rfl (gA (i := i) Tryz.underlying26 prssz47 rfl rfl rfl rfl hA17 (by omega)) ?_
  refine TL.v (gR rs_cel prsag47 prssz47 hbb17 hx17 hc17) ?_
  refine TL.pnew rfl rfl rfl (exec_alloc (cs := [.int .i64 0, .int .i64 0, .int .i64 0, .int .i64 0, .int .u32 0, .int .i64 0, .int .i64 0, .int .i64 0, .bool false, .bool false, .int .i64 0, .int .u32 0, .int .i64 0, .int .i64 0, .int .i64 0, .int .i64 0, .int .i64 0]) rfl pcpzv47 rfl) (fun g5 => ?_)
  refine TL.pstore (k := 0) (vs := x17.cells) rfl rfl rfl rfl rfl rfl rfl prssz47 (rs_cel.one _) (by show 17 ≤ 17; decide) rfl ?_
  refine zET (zS (zSG ?_))
  refine TL.v (gV 0 (.agg (x17.cells).toArray) prsag47 prssz47) ?_
  refine TL.callsplit rfl rfl rfl rfl rfl Tryz.func28 (by decide) rfl (fun w1 hw => usbRs_any x17 w1) (fun h20 => ?_) (fun h20 => ?_)
  ·refine TL.rn 2 rfl ?_
   refine TL.ov (gF plkfld91_0) ?_
   refine TL.ov (gL 1 pcmag3) ?_
   refine TL.gu ?_
   refine TL.sp bin_gtr (fun q25 => ?_) (fun q25 => ?_)
   ·refine TL.rn 1 rfl ?_
    refine TL.ov (gF prsfld47_7) ?_
    refine TL.ov (gL 0 pcmag3) ?_
    refine TL.ov (gF plkfld91_0) ?_
    refine TL.ov (gL 1 pcmag3) ?_
    refine TL.gu ?_
    refine TL.sp bin_gtr (fun q31 => ?_) (fun q31 => ?_)
    ·refine TL.rn 2 rfl ?_
     refine zET (zc (zx (zX (zM (zT (zG ?_))))))
     refine TL.v (gD ((i + 1 : Nat) : Int)) ?_
     refine TL.mv ?_
     refine zE ?_
     exact TX.round (⟨(i + 1, (oa, os)), by dsimp only; omega, _, _, lookS_skip hx17 hst (by simp [useR, q16, h20, q25, q31]), hma, hms⟩) (by show l.length - (i + 1) < l.length - i; omega) ⟨rfl, rfl, rfl, rfl, rfl, trivial⟩ (fun w1 hw => hw.pick [1, 2, 3, 4] (by decide) rfl)
    ·refine TL.rn 2 rfl ?_
     refine zET (zd (zk (zT (zSG ?_))))
     refine TL.v (gF prsfld47_6) ?_
     refine TL.v (gL 0 pcmag3) ?_
     refine TL.v (gF prsfld47_7) ?_
     refine TL.v (gL 0 pcmag3) ?_
     refine TL.val rfl rfl rfl (gives_build (v := .agg #[.int .i64 x17.flow, .int .i64 x17.ttl]) rfl rfl (fun w => plkbld97_27266 _ _ w)) ?_
     refine TL.pnew rfl rfl rfl (exec_alloc (cs := [.int .i64 0, .int .i64 0]) rfl plkzv97 rfl) (fun g6 => ?_)
     refine TL.pstore (k := 0) (vs := [.int .i64 x17.flow, .int .i64 x17.ttl]) rfl rfl rfl rfl rfl rfl rfl plksz97 plkone_i64i64 (by show 2 ≤ 2; decide) rfl ?_
     refine zET (zSG ?_)
     refine TL.v (gF plkfld91_2) ?_
     refine TL.v (gL 2 plkag89) ?_
     refine TL.v (gV 0 (.agg #[.int .i64 x17.flow, .int .i64 x17.ttl]) plkag97 plksz97) ?_
     refine TL.val rfl rfl rfl (gives_lookG (v := .int .i64 ((fs (⟨x17.flow, x17.ttl⟩ : Spot)).getD 0)) rfl rfl rfl spot_key Tryz.underlying89 (fun w => rfl) (i := 3) rfl hms.toG (spotOk hx17 h20 hok) (by cases h9 : fs (⟨x17.flow, x17.ttl⟩ : Spot) <;> rfl)) ?_
     refine TL.as_ ?_
     refine zET (zB (zSG ?_))
     refine TL.v (gF prsfld47_8) ?_
     refine TL.vsplit rfl rfl rfl (gL 1 prsag4) (fun h45 => ?_) (fun h45 => ?_)
     ·refine TL.rn 2 rfl ?_
      refine zET (zd (zSG ?_))
      refine TL.mv ?_
      refine TL.sp bin_leq (fun q54 => ?_) (fun q54 => ?_)
      ·refine TL.as_ ?_
       refine zET (zc ?_)
       refine TC.held (ls := #[Ff,Ff,Ff,Ff,Ff,Ff,Ff,Ff,Ff,Ff,Ff]) (Pm w [.blk g6 97 [.int .i64 x17.flow, .int .i64 x17.ttl], .blk g5 47 x17.cells, .blk g3 91 [.int .i64 (endT l), .map (some ga), .map (some gs)], .blk g2 91 [.int .i64 0, .map none, .map none]]) (by kernel_rfl) rfl rfl (fun w hw => hw.drawn _) ?_
       refine TH.tk 0 rfl rfl rfl (gF plkfld91_2) (fun w1 hw => hw.pick [0, 1, 2, 5] (by decide) rfl) ?_
       refine TH.tk 1 rfl rfl rfl (gL 2 plkag89) (fun w1 hw => hw.pick [0, 1, 2, 5] (by decide) rfl) ?_
       refine TH.tk 2 rfl rfl rfl (gV 0 (.agg #[.int .i64 x17.flow, .int .i64 x17.ttl]) plkag97 plksz97) (fun w1 hw => hw.pick [0, 1, 2, 5] (by decide) rfl) ?_
       refine TH.tk 3 rfl rfl rfl (gF plkfld91_1) (fun w1 hw => hw.pick [0, 1, 2, 5] (by decide) rfl) ?_
       refine TH.tk 4 rfl rfl rfl (gL 2 plkag88) (fun w1 hw => hw.pick [0, 1, 2, 5] (by decide) rfl) ?_
       refine TH.tk 5 rfl rfl rfl (gV 0 (.agg #[.int .i64 x17.flow, .int .i64 x17.ttl]) plkag97 plksz97) (fun w1 hw => hw.pick [0, 1, 2, 5] (by decide) rfl) ?_
       refine TH.tk 6 rfl rfl rfl (gF prsfld47_11) (fun w1 hw => hw.pick [0, 1, 2, 5] (by decide) rfl) ?_
       refine TH.tk 7 rfl rfl rfl (gF prsfld45_0) (fun w1 hw => hw.pick [0, 1, 2, 5] (by decide) rfl) ?_
       refine TH.tk 8 rfl rfl rfl (gL 1 pcmag30) (fun w1 hw => hw.pick [0, 1, 2, 5] (by decide) rfl) ?_
       refine TH.only' 9 rfl (by kernel_rfl) rfl ?_
       refine TL.mapsetR (i := 3) (a := (⟨x17.flow, x17.ttl⟩ : Spot)) rfl rfl rfl rfl rfl rfl spot_key Tryz.underlying89 rfl hgs hms (spotOk hx17 h20 hok) (fun os2 hms2 => ?_)
       rw [upd_map] at hms2
       try dsimp only [List.set_cons_zero, List.set_cons_succ]
       refine zE ?_
       refine TX.held (fun w1 hw => hw.pick [0, 1, 2, 5] (by decide) rfl) ?_
       refine TH.only' 10 rfl (by kernel_rfl) rfl ?_
       refine TL.mapsetR (i := 4) (a := (⟨x17.flow, x17.ttl⟩ : Spot)) rfl rfl rfl rfl rfl rfl spot_key Tryz.underlying88 rfl hga hma (spotOk hx17 h20 hok) (fun oa2 hma2 => ?_)
       rw [upd_map] at hma2
       try dsimp only [List.set_cons_zero, List.set_cons_succ]
       refine zE ?_
       refine TX.held (fun w1 hw => hw.pick [0, 1, 2, 5] (by decide) rfl) ?_
       refine TH.done (by kernel_rfl) ?_
       refine zN (zN (zT (zG ?_)))
       refine TL.v (gD ((i + 1 : Nat) : Int)) ?_
       refine TL.mv ?_
       refine zE ?_
       exact TX.round (⟨(i + 1, (oa2, os2)), by dsimp only; omega, _, _, lookS_first hx17 hst (by simp [useR, q16, h20, q25, q31]) h45 q54, hma2, hms2⟩) (by show l.length - (i + 1) < l.length - i; omega) ⟨rfl, rfl, rfl, rfl, rfl, trivial⟩ (fun w1 hw => hw.pick [2, 3, 4, 5] (by decide) rfl)
      ·refine TL.as_ ?_
       refine zET (zd (zS ?_))
       refine TC.quietQ (by kernel_rfl) (by kernel_rfl) (fun w hw => hw.drawn _) ?_
       refine TQ.val rfl rfl rfl (gives_move rfl rfl) ?_
       refine TQ.sp bin_eql (fun q66 => ?_) (fun q66 => ?_)
       ·refine TQ.val rfl rfl rfl (gives_move rfl rfl) ?_
        refine TQ.ov (gF plkfld91_1) ?_
        refine TQ.ov (gL 2 plkag88) ?_
        refine TQ.ov (gV 0 (.agg #[.int .i64 x17.flow, .int .i64 x17.ttl]) plkag97 plksz97) ?_
        refine TQ.on rfl rfl rfl ?_
        refine TQ.val rfl rfl rfl (gives_lookG (v := .int .u32 ((fa (⟨x17.flow, x17.ttl⟩ : Spot)).getD 0)) rfl rfl rfl spot_key Tryz.underlying88 (fun w => rfl) (i := 4) rfl hma.toG (spotOk hx17 h20 hok) (by cases h9 : fa (⟨x17.flow, x17.ttl⟩ : Spot) <;> rfl)) ?_
        refine TQ.ov (gF prsfld47_11) ?_
        refine TQ.ov (gF prsfld45_0) ?_
        refine TQ.ov (gL 1 pcmag30) ?_
        refine TQ.on rfl rfl rfl ?_
        refine TQ.sp bin_neq (fun q75 => ?_) (fun q75 => ?_)
        ·refine TQ.rn 2 rfl ?_
         refine TQ.fin ?_
         refine zT (zc ?_)
         refine TC.held (ls := #[Ff,Ff,Ff,Ff,Ff,Ff,Ff,Ff]) (Pm w [.blk g6 97 [.int .i64 x17.flow, .int .i64 x17.ttl], .blk g5 47 x17.cells, .blk g3 91 [.int .i64 (endT l), .map (some ga), .map (some gs)], .blk g2 91 [.int .i64 0, .map none, .map none]]) (by kernel_rfl) rfl rfl (fun w hw => hw.drawn _) ?_
         refine TH.tk 0 rfl rfl rfl (gF plkfld91_2) (fun w1 hw => hw.pick [0, 1, 2, 5] (by decide) rfl) ?_
         refine TH.tk 1 rfl rfl rfl (gL 2 plkag89) (fun w1 hw => hw.pick [0, 1, 2, 5] (by decide) rfl) ?_
         refine TH.tk 2 rfl rfl rfl (gV 0 (.agg #[.int .i64 x17.flow, .int .i64 x17.ttl]) plkag97 plksz97) (fun w1 hw => hw.pick [0, 1, 2, 5] (by decide) rfl) ?_
         refine TH.tk 3 rfl rfl rfl (gF plkfld91_1) (fun w1 hw => hw.pick [0, 1, 2, 5] (by decide) rfl) ?_
         refine TH.tk 4 rfl rfl rfl (gL 2 plkag88) (fun w1 hw => hw.pick [0, 1, 2, 5] (by decide) rfl) ?_
         refine TH.tk 5 rfl rfl rfl (gV 0 (.agg #[.int .i64 x17.flow, .int .i64 x17.ttl]) plkag97 plksz97) (fun w1 hw => hw.pick [0, 1, 2, 5] (by decide) rfl) ?_
         refine TH.only' 6 rfl (by kernel_rfl) rfl ?_
         refine TL.mapsetR (i := 3) (a := (⟨x17.flow, x17.ttl⟩ : Spot)) rfl rfl rfl rfl rfl rfl spot_key Tryz.underlying89 rfl hgs hms (spotOk hx17 h20 hok) (fun os2 hms2 => ?_)
         rw [upd_map] at hms2
         try dsimp only [List.set_cons_zero, List.set_cons_succ]
         refine zE ?_
         refine TX.held (fun w1 hw => hw.pick [0, 1, 2, 5] (by decide) rfl) ?_
         refine TH.only' 7 rfl (by kernel_rfl) rfl ?_
         refine TL.mapsetR (i := 4) (a := (⟨x17.flow, x17.ttl⟩ : Spot)) rfl rfl rfl rfl rfl rfl spot_key Tryz.underlying88 rfl hga hma (spotOk hx17 h20 hok) (fun oa2 hma2 => ?_)
         rw [upd_map] at hma2
         try dsimp only [List.set_cons_zero, List.set_cons_succ]
         refine zE ?_
         refine TX.held (fun w1 hw => hw.pick [0, 1, 2, 5] (by decide) rfl) ?_
         refine TH.done (by kernel_rfl) ?_
         refine zN (zN (zT (zG ?_)))
         refine TL.v (gD ((i + 1 : Nat) : Int)) ?_
         refine TL.mv ?_
         refine zE ?_
         exact TX.round (⟨(i + 1, (oa2, os2)), by dsimp only; omega, _, _, lookS_mix hx17 hst (by simp [useR, q16, h20, q25, q31]) h45 q66 q75, hma2, hms2⟩) (by show l.length - (i + 1) < l.length - i; omega) ⟨rfl, rfl, rfl, rfl, rfl, trivial⟩ (fun w1 hw => hw.pick [2, 3, 4, 5] (by decide) rfl)
        ·refine TQ.rn 2 rfl ?_
         refine TQ.fin ?_
         refine zT (zd (zk (zN (zN (zT (zG ?_))))))
         refine TL.v (gD ((i + 1 : Nat) : Int)) ?_
         refine TL.mv ?_
         refine zE ?_
         exact TX.round (⟨(i + 1, (oa, os)), by dsimp only; omega, _, _, lookS_same hx17 hst (by simp [useR, q16, h20, q25, q31]) h45 q54 (by exact .inr q75), hma, hms⟩) (by show l.length - (i + 1) < l.length - i; omega) ⟨rfl, rfl, rfl, rfl, rfl, trivial⟩ (fun w1 hw => hw.pick [2, 3, 4, 5] (by decide) rfl)
       ·refine TQ.rn 11 rfl ?_
        refine TQ.fin ?_
        refine zT (zd (zk (zN (zN (zT (zG ?_))))))
        refine TL.v (gD ((i + 1 : Nat) : Int)) ?_
        refine TL.mv ?_
        refine zE ?_
        exact TX.round (⟨(i + 1, (oa, os)), by dsimp only; omega, _, _, lookS_same hx17 hst (by simp [useR, q16, h20, q25, q31]) h45 q54 (by exact .inl q66), hma, hms⟩) (by show l.length - (i + 1) < l.length - i; omega) ⟨rfl, rfl, rfl, rfl, rfl, trivial⟩ (fun w1 hw => hw.pick [2, 3, 4, 5] (by decide) rfl)
     ·refine TL.rn 2 rfl ?_
      refine zET (zc (zG ?_))
      refine TL.v (gF plkfld91_2) ?_
      refine TL.v (gL 2 plkag89) ?_
      refine TL.v (gV 0 (.agg #[.int .i64 x17.flow, .int .i64 x17.ttl]) plkag97 plksz97) ?_
      refine TL.mv ?_
      refine TL.val rfl rfl rfl (gives_maxI rfl rfl rfl) ?_
      refine TL.mapsetR (i := 3) (a := (⟨x17.flow, x17.ttl⟩ : Spot)) rfl rfl rfl rfl rfl rfl spot_key Tryz.underlying89 rfl hgs hms (spotOk hx17 h20 hok) (fun os2 hms2 => ?_)
      rw [upd_map] at hms2
      try dsimp only [List.set_cons_zero, List.set_cons_succ]
      refine zE (zN (zN (zT (zG ?_))))
      refine TL.v (gD ((i + 1 : Nat) : Int)) ?_
      refine TL.mv ?_
      refine zE ?_
      exact TX.round (⟨(i + 1, (oa, os2)), by dsimp only; omega, _, _, lookS_none hx17 hst (by simp [useR, q16, h20, q25, q31]) h45, hma, hms2⟩) (by show l.length - (i + 1) < l.length - i; omega) ⟨rfl, rfl, rfl, rfl, rfl, trivial⟩ (fun w1 hw => hw.pick [2, 3, 4, 5] (by decide) rfl)
   ·refine TL.rn 8 rfl ?_
    refine zET (zd (zk (zT (zSG ?_))))
    refine TL.v (gF prsfld47_6) ?_
    refine TL.v (gL 0 pcmag3) ?_
    refine TL.v (gF prsfld47_7) ?_
    refine TL.v (gL 0 pcmag3) ?_
    refine TL.val rfl rfl rfl (gives_build (v := .agg #[.int .i64 x17.flow, .int .i64 x17.ttl]) rfl rfl (fun w => plkbld97_27266 _ _ w)) ?_
    refine TL.pnew rfl rfl rfl (exec_alloc (cs := [.int .i64 0, .int .i64 0]) rfl plkzv97 rfl) (fun g6 => ?_)
    refine TL.pstore (k := 0) (vs := [.int .i64 x17.flow, .int .i64 x17.ttl]) rfl rfl rfl rfl rfl rfl rfl plksz97 plkone_i64i64 (by show 2 ≤ 2; decide) rfl ?_
    refine zET (zSG ?_)
    refine TL.v (gF plkfld91_2) ?_
    refine TL.v (gL 2 plkag89) ?_
    refine TL.v (gV 0 (.agg #[.int .i64 x17.flow, .int .i64 x17.ttl]) plkag97 plksz97) ?_
    refine TL.val rfl rfl rfl (gives_lookG (v := .int .i64 ((fs (⟨x17.flow, x17.ttl⟩ : Spot)).getD 0)) rfl rfl rfl spot_key Tryz.underlying89 (fun w => rfl) (i := 3) rfl hms.toG (spotOk hx17 h20 hok) (by cases h9 : fs (⟨x17.flow, x17.ttl⟩ : Spot) <;> rfl)) ?_
    refine TL.as_ ?_
    refine zET (zB (zSG ?_))
    refine TL.v (gF prsfld47_8) ?_
    refine TL.vsplit rfl rfl rfl (gL 1 prsag4) (fun h45 => ?_) (fun h45 => ?_)
    ·refine TL.rn 2 rfl ?_
     refine zET (zd (zSG ?_))
     refine TL.mv ?_
     refine TL.sp bin_leq (fun q54 => ?_) (fun q54 => ?_)
     ·refine TL.as_ ?_
      refine zET (zc ?_)
      refine TC.held (ls := #[Ff,Ff,Ff,Ff,Ff,Ff,Ff,Ff,Ff,Ff,Ff]) (Pm w [.blk g6 97 [.int .i64 x17.flow, .int .i64 x17.ttl], .blk g5 47 x17.cells, .blk g3 91 [.int .i64 (endT l), .map (some ga), .map (some gs)], .blk g2 91 [.int .i64 0, .map none, .map none]]) (by kernel_rfl) rfl rfl (fun w hw => hw.drawn _) ?_
      refine TH.tk 0 rfl rfl rfl (gF plkfld91_2) (fun w1 hw => hw.pick [0, 1, 2, 5] (by decide) rfl) ?_
      refine TH.tk 1 rfl rfl rfl (gL 2 plkag89) (fun w1 hw => hw.pick [0, 1, 2, 5] (by decide) rfl) ?_
      refine TH.tk 2 rfl rfl rfl (gV 0 (.agg #[.int .i64 x17.flow, .int .i64 x17.ttl]) plkag97 plksz97) (fun w1 hw => hw.pick [0, 1, 2, 5] (by decide) rfl) ?_
      refine TH.tk 3 rfl rfl rfl (gF plkfld91_1) (fun w1 hw => hw.pick [0, 1, 2, 5] (by decide) rfl) ?_
      refine TH.tk 4 rfl rfl rfl (gL 2 plkag88) (fun w1 hw => hw.pick [0, 1, 2, 5] (by decide) rfl) ?_
      refine TH.tk 5 rfl rfl rfl (gV 0 (.agg #[.int .i64 x17.flow, .int .i64 x17.ttl]) plkag97 plksz97) (fun w1 hw => hw.pick [0, 1, 2, 5] (by decide) rfl) ?_
      refine TH.tk 6 rfl rfl rfl (gF prsfld47_11) (fun w1 hw => hw.pick [0, 1, 2, 5] (by decide) rfl) ?_
      refine TH.tk 7 rfl rfl rfl (gF prsfld45_0) (fun w1 hw => hw.pick [0, 1, 2, 5] (by decide) rfl) ?_
      refine TH.tk 8 rfl rfl rfl (gL 1 pcmag30) (fun w1 hw => hw.pick [0, 1, 2, 5] (by decide) rfl) ?_
      refine TH.only' 9 rfl (by kernel_rfl) rfl ?_
      refine TL.mapsetR (i := 3) (a := (⟨x17.flow, x17.ttl⟩ : Spot)) rfl rfl rfl rfl rfl rfl spot_key Tryz.underlying89 rfl hgs hms (spotOk hx17 h20 hok) (fun os2 hms2 => ?_)
      rw [upd_map] at hms2
      try dsimp only [List.set_cons_zero, List.set_cons_succ]
      refine zE ?_
      refine TX.held (fun w1 hw => hw.pick [0, 1, 2, 5] (by decide) rfl) ?_
      refine TH.only' 10 rfl (by kernel_rfl) rfl ?_
      refine TL.mapsetR (i := 4) (a := (⟨x17.flow, x17.ttl⟩ : Spot)) rfl rfl rfl rfl rfl rfl spot_key Tryz.underlying88 rfl hga hma (spotOk hx17 h20 hok) (fun oa2 hma2 => ?_)
      rw [upd_map] at hma2
      try dsimp only [List.set_cons_zero, List.set_cons_succ]
      refine zE ?_
      refine TX.held (fun w1 hw => hw.pick [0, 1, 2, 5] (by decide) rfl) ?_
      refine TH.done (by kernel_rfl) ?_
      refine zN (zN (zT (zG ?_)))
      refine TL.v (gD ((i + 1 : Nat) : Int)) ?_
      refine TL.mv ?_
      refine zE ?_
      exact TX.round (⟨(i + 1, (oa2, os2)), by dsimp only; omega, _, _, lookS_first hx17 hst (by simp [useR, q16, h20, q25]) h45 q54, hma2, hms2⟩) (by show l.length - (i + 1) < l.length - i; omega) ⟨rfl, rfl, rfl, rfl, rfl, trivial⟩ (fun w1 hw => hw.pick [2, 3, 4, 5] (by decide) rfl)
     ·refine TL.as_ ?_
      refine zET (zd (zS ?_))
      refine TC.quietQ (by kernel_rfl) (by kernel_rfl) (fun w hw => hw.drawn _) ?_
      refine TQ.val rfl rfl rfl (gives_move rfl rfl) ?_
      refine TQ.sp bin_eql (fun q66 => ?_) (fun q66 => ?_)
      ·refine TQ.val rfl rfl rfl (gives_move rfl rfl) ?_
       refine TQ.ov (gF plkfld91_1) ?_
       refine TQ.ov (gL 2 plkag88) ?_
       refine TQ.ov (gV 0 (.agg #[.int .i64 x17.flow, .int .i64 x17.ttl]) plkag97 plksz97) ?_
       refine TQ.on rfl rfl rfl ?_
       refine TQ.val rfl rfl rfl (gives_lookG (v := .int .u32 ((fa (⟨x17.flow, x17.ttl⟩ : Spot)).getD 0)) rfl rfl rfl spot_key Tryz.underlying88 (fun w => rfl) (i := 4) rfl hma.toG (spotOk hx17 h20 hok) (by cases h9 : fa (⟨x17.flow, x17.ttl⟩ : Spot) <;> rfl)) ?_
       refine TQ.ov (gF prsfld47_11) ?_
       refine TQ.ov (gF prsfld45_0) ?_
       refine TQ.ov (gL 1 pcmag30) ?_
       refine TQ.on rfl rfl rfl ?_
       refine TQ.sp bin_neq (fun q75 => ?_) (fun q75 => ?_)
       ·refine TQ.rn 2 rfl ?_
        refine TQ.fin ?_
        refine zT (zc ?_)
        refine TC.held (ls := #[Ff,Ff,Ff,Ff,Ff,Ff,Ff,Ff]) (Pm w [.blk g6 97 [.int .i64 x17.flow, .int .i64 x17.ttl], .blk g5 47 x17.cells, .blk g3 91 [.int .i64 (endT l), .map (some ga), .map (some gs)], .blk g2 91 [.int .i64 0, .map none, .map none]]) (by kernel_rfl) rfl rfl (fun w hw => hw.drawn _) ?_
        refine TH.tk 0 rfl rfl rfl (gF plkfld91_2) (fun w1 hw => hw.pick [0, 1, 2, 5] (by decide) rfl) ?_
        refine TH.tk 1 rfl rfl rfl (gL 2 plkag89) (fun w1 hw => hw.pick [0, 1, 2, 5] (by decide) rfl) ?_
        refine TH.tk 2 rfl rfl rfl (gV 0 (.agg #[.int .i64 x17.flow, .int .i64 x17.ttl]) plkag97 plksz97) (fun w1 hw => hw.pick [0, 1, 2, 5] (by decide) rfl) ?_
        refine TH.tk 3 rfl rfl rfl (gF plkfld91_1) (fun w1 hw => hw.pick [0, 1, 2, 5] (by decide) rfl) ?_
        refine TH.tk 4 rfl rfl rfl (gL 2 plkag88) (fun w1 hw => hw.pick [0, 1, 2, 5] (by decide) rfl) ?_
        refine TH.tk 5 rfl rfl rfl (gV 0 (.agg #[.int .i64 x17.flow, .int .i64 x17.ttl]) plkag97 plksz97) (fun w1 hw => hw.pick [0, 1, 2, 5] (by decide) rfl) ?_
        refine TH.only' 6 rfl (by kernel_rfl) rfl ?_
        refine TL.mapsetR (i := 3) (a := (⟨x17.flow, x17.ttl⟩ : Spot)) rfl rfl rfl rfl rfl rfl spot_key Tryz.underlying89 rfl hgs hms (spotOk hx17 h20 hok) (fun os2 hms2 => ?_)
        rw [upd_map] at hms2
        try dsimp only [List.set_cons_zero, List.set_cons_succ]
        refine zE ?_
        refine TX.held (fun w1 hw => hw.pick [0, 1, 2, 5] (by decide) rfl) ?_
        refine TH.only' 7 rfl (by kernel_rfl) rfl ?_
        refine TL.mapsetR (i := 4) (a := (⟨x17.flow, x17.ttl⟩ : Spot)) rfl rfl rfl rfl rfl rfl spot_key Tryz.underlying88 rfl hga hma (spotOk hx17 h20 hok) (fun oa2 hma2 => ?_)
        rw [upd_map] at hma2
        try dsimp only [List.set_cons_zero, List.set_cons_succ]
        refine zE ?_
        refine TX.held (fun w1 hw => hw.pick [0, 1, 2, 5] (by decide) rfl) ?_
        refine TH.done (by kernel_rfl) ?_
        refine zN (zN (zT (zG ?_)))
        refine TL.v (gD ((i + 1 : Nat) : Int)) ?_
        refine TL.mv ?_
        refine zE ?_
        exact TX.round (⟨(i + 1, (oa2, os2)), by dsimp only; omega, _, _, lookS_mix hx17 hst (by simp [useR, q16, h20, q25]) h45 q66 q75, hma2, hms2⟩) (by show l.length - (i + 1) < l.length - i; omega) ⟨rfl, rfl, rfl, rfl, rfl, trivial⟩ (fun w1 hw => hw.pick [2, 3, 4, 5] (by decide) rfl)
       ·refine TQ.rn 2 rfl ?_
        refine TQ.fin ?_
        refine zT (zd (zk (zN (zN (zT (zG ?_))))))
        refine TL.v (gD ((i + 1 : Nat) : Int)) ?_
        refine TL.mv ?_
        refine zE ?_
        exact TX.round (⟨(i + 1, (oa, os)), by dsimp only; omega, _, _, lookS_same hx17 hst (by simp [useR, q16, h20, q25]) h45 q54 (by exact .inr q75), hma, hms⟩) (by show l.length - (i + 1) < l.length - i; omega) ⟨rfl, rfl, rfl, rfl, rfl, trivial⟩ (fun w1 hw => hw.pick [2, 3, 4, 5] (by decide) rfl)
      ·refine TQ.rn 11 rfl ?_
       refine TQ.fin ?_
       refine zT (zd (zk (zN (zN (zT (zG ?_))))))
       refine TL.v (gD ((i + 1 : Nat) : Int)) ?_
       refine TL.mv ?_
       refine zE ?_
       exact TX.round (⟨(i + 1, (oa, os)), by dsimp only; omega, _, _, lookS_same hx17 hst (by simp [useR, q16, h20, q25]) h45 q54 (by exact .inl q66), hma, hms⟩) (by show l.length - (i + 1) < l.length - i; omega) ⟨rfl, rfl, rfl, rfl, rfl, trivial⟩ (fun w1 hw => hw.pick [2, 3, 4, 5] (by decide) rfl)
    ·refine TL.rn 2 rfl ?_
     refine zET (zc (zG ?_))
     refine TL.v (gF plkfld91_2) ?_
     refine TL.v (gL 2 plkag89) ?_
     refine TL.v (gV 0 (.agg #[.int .i64 x17.flow, .int .i64 x17.ttl]) plkag97 plksz97) ?_
     refine TL.mv ?_
     refine TL.val rfl rfl rfl (gives_maxI rfl rfl rfl) ?_
     refine TL.mapsetR (i := 3) (a := (⟨x17.flow, x17.ttl⟩ : Spot)) rfl rfl rfl rfl rfl rfl spot_key Tryz.underlying89 rfl hgs hms (spotOk hx17 h20 hok) (fun os2 hms2 => ?_)
     rw [upd_map] at hms2
     try dsimp only [List.set_cons_zero, List.set_cons_succ]
     refine zE (zN (zN (zT (zG ?_))))
     refine TL.v (gD ((i + 1 : Nat) : Int)) ?_
     refine TL.mv ?_
     refine zE ?_
     exact TX.round (⟨(i + 1, (oa, os2)), by dsimp only; omega, _, _, lookS_none hx17 hst (by simp [useR, q16, h20, q25]) h45, hma, hms2⟩) (by show l.length - (i + 1) < l.length - i; omega) ⟨rfl, rfl, rfl, rfl, rfl, trivial⟩ (fun w1 hw => hw.pick [2, 3, 4, 5] (by decide) rfl)
  ·refine TL.rn 6 rfl ?_
   refine TL.offU rfl rfl rfl rfl rfl ?_
   refine TL.offU rfl rfl rfl rfl rfl ?_
   refine TL.offU rfl rfl rfl rfl rfl ?_
   refine TL.offU rfl rfl rfl rfl rfl ?_
   refine TL.offU rfl rfl rfl rfl rfl ?_
   refine TL.rn 2 rfl ?_
   refine zET (zc (zx (zX (zM (zT (zG ?_))))))
   refine TL.v (gD ((i + 1 : Nat) : Int)) ?_
   refine TL.mv ?_
   refine zE ?_
   exact TX.round (⟨(i + 1, (oa, os)), by dsimp only; omega, _, _, lookS_skip hx17 hst (by simp [useR, q16, h20]), hma, hms⟩) (by show l.length - (i + 1) < l.length - i; omega) ⟨rfl, rfl, rfl, rfl, rfl, trivial⟩ (fun w1 hw => hw.pick [1, 2, 3, 4] (by decide) rfl)
 ·refine zET (zS (zd (zx (zX (zX (zM (zT (zSG ?_))))))))
  refine TL.v (gV 0 (.agg #[.int .i64 (endT l), .map (some ga), .map (some gs)]) plkag91 plksz91) ?_
  refine TL.pstore (k := 3) (vs := [.int .i64 (endT l), .map (some ga), .map (some gs)]) rfl rfl rfl rfl rfl rfl rfl plksz91 plkone_i64mm (by show 3 ≤ 3; decide) rfl ?_
  refine zET (zr ?_)
  rw [List.take_of_length_le (by omega)] at hst
  have e1 : fa = (lookS l).1 := by show fa = (lookS2 (endT l) l).1; rw [hst]
  have e2 : fs = (lookS l).2 := by show fs = (lookS2 (endT l) l).2; rw [hst]
  subst e1 e2
  exact pm_ret_cell (k := 3) Tryz.results58 rfl rfl Tryz.underlying91 rfl rfl (fun w1 hw => ⟨⟨((ga, oa), (gs, os)), hma, hms⟩, rfl, hw.pick [2, 1] (by decide) rfl⟩)
set_option maxRecDepth 20000
section
variable {P : Program} {N : Fr} {E : Env} {w0 : Base} {L : List Pc} {o : Oper} {κ : Type} {enc : κ → Value} {Ok : κ → Prop} {t k e : TypeId}
theorem gives_lookOld {x y : Operand} {g : Nat} {ob : Obj} {f : κ → Option Value} {a : κ} {z : Value} (ho : o.op = .lookup t x y false) (hx : ev E x = some (.map (some g))) (hy : ev E y = some (enc a)) (K : MKey P k enc Ok) (ht : P.underlying t = some (.map k e)) (hz : ∀ w : World, (zeroValue e).run P w = .ok z w) (hg : w0.w.heap[g]? = some ob) (hm : MapG enc Ok ob f) (ha : Ok a) {v : Value} (hv : (f a).getD z = v) :
  Gives P N o E (Pm w0 L) v := fun ac w hac hw => by
 have hnc : ob.isCells = false := by obtain ⟨_, _, he, _⟩ := hm; rw [he]; rfl
 unfold execOp; rw [ho]
 subst hv
 simp [hac.eval hx, hac.eval hy, hm.look K ht hz (hw.oth.same g ob hg hnc) ha false]
end
def hasF (fs : Spot → Option Int) (flow ttl : Int) : Bool := decide ((fs ⟨flow, ttl⟩).getD 0 = 2) || decide ((fs ⟨flow, ttl⟩).getD 0 = 1)
def atA (l : List Rs) (flow ttl : Int) : Int := ((lookS l).1 ⟨flow, ttl⟩).getD 0
def atS (l : List Rs) (flow ttl : Int) : Int := ((lookS l).2 ⟨flow, ttl⟩).getD 0
def pathF (fa fs : Spot → Option Int) (flow : Int) (z i : Nat) (o : List Int) : Prop := o = (List.range i).map (fun (j : Nat) => (fa ⟨flow, ((j + 1 : Nat) : Int)⟩).getD 0) ∧ ∀ j : Nat, j < i → hasF fs flow ((j + 1 : Nat) : Int) = true
theorem PathF.nil {fa fs : Spot → Option Int} {flow : Int} {z : Nat} : pathF fa fs flow z 0 [] := ⟨rfl, fun j hj => absurd hj (Nat.not_lt_zero _)⟩
theorem pathF_snoc {fa fs : Spot → Option Int} {flow : Int} {z i : Nat} {o : List Int} (h : pathF fa fs flow z i o) (hh : hasF fs flow ((i + 1 : Nat) : Int) = true) : pathF fa fs flow z (i + 1) (o ++ [(fa ⟨flow, ((i + 1 : Nat) : Int)⟩).getD 0]) := by
 refine ⟨by rw [List.range_succ, List.map_append, ← h.1]; rfl, fun j hj => ?_⟩
 rcases Nat.lt_or_ge j i with h1 | h1
 ·exact h.2 j h1
 ·obtain rfl : j = i := by omega
  exact hh
def PathOk (l : List Rs) (flow : Int) (o : List Int) : Prop := ∃ i : Nat, pathF (lookS l).1 (lookS l).2 flow 0 i o ∧ hasF (lookS l).2 flow ((i + 1 : Nat) : Int) = false
theorem pathOk_of {l : List Rs} {flow : Int} {i : Nat} {o : List Int} (h : pathF (lookS l).1 (lookS l).2 flow 0 i o) (hh : hasF (lookS l).2 flow ((i + 1 : Nat) : Int) = false) : PathOk l flow o := ⟨i, h, hh⟩
theorem PathOk.eq {l : List Rs} {flow : Int} {o o' : List Int} (h : PathOk l flow o) (h' : PathOk l flow o') : o = o' := by
 obtain ⟨i, ⟨h1, h2⟩, h3⟩ := h
 obtain ⟨i', ⟨h4, h5⟩, h6⟩ := h'
 have : i = i' := by
  rcases Nat.lt_trichotomy i i' with h7 | h7 | h7
  ·have := h5 i h7; rw [h3] at this; cases this
  ·exact h7
  ·have := h2 i' h7; rw [h6] at this; cases this
 subst this
 rw [h1, h4]
theorem spotN {flow : Int} {i : Nat} (hk : (Lit.int .i64 flow).wf = true) (hi : i ≤ 1000000) : (⟨flow, ((i : Nat) : Int)⟩ : Spot).Ok := ⟨hk, by
 show (Lit.int .i64 ((i : Nat) : Int)).wf = true
 simp [Lit.wf, IntKind.min, IntKind.max, IntKind.signed, IntKind.bits]; omega⟩
theorem lookS_mem {e : Int} : ∀ (l : List Rs) (p : (Spot → Option Int) × (Spot → Option Int)) (s : Spot), (l.foldl (stepK e) p).2 s ≠ none → p.2 s ≠ none ∨ ∃ r ∈ l, useR e r = true ∧ spotR r = s
 | [], p, s, h => .inl h
 | r :: l, p, s, h => by
  rcases lookS_mem l (stepK e p r) s h with h1 | ⟨r', h2, h3⟩
  ·by_cases hu : useR e r = true
   ·by_cases hs : spotR r = s
    ·exact .inr ⟨r, List.mem_cons_self, hu, hs⟩
    ·refine .inl ?_
     have hn : ∀ (f : Spot → Option Int) (v : Int), updF f (spotR r) v s = f s := fun f v => if_neg fun h => hs h.symm
     unfold stepK at h1
     rw [if_pos hu] at h1
     split at h1
     ·exact fun hh => h1 ((hn _ _).trans hh)
     ·split at h1
      ·exact fun hh => h1 ((hn _ _).trans hh)
      ·split at h1
       ·exact fun hh => h1 ((hn _ _).trans hh)
       ·exact h1
   ·unfold stepK at h1
    rw [if_neg hu] at h1
    exact .inl h1
  ·exact .inr ⟨r', List.mem_cons_of_mem _ h2, h3⟩
theorem lookS_use {l : List Rs} {s : Spot} (h : ((lookS l).2 s).getD 0 ≠ 0) : ∃ r ∈ l, useR (endT l) r = true ∧ spotR r = s := by
 have h1 : (lookS l).2 s ≠ none := fun e => h (by rw [e]; rfl)
 rcases lookS_mem l _ s h1 with h2 | h2
 ·exact absurd rfl h2
 ·exact h2
theorem use_rng {e : Int} {r : Rs} (h : useR e r = true) : 0 ≤ r.flow ∧ r.flow ≤ 1023 ∧ 1 ≤ r.ttl ∧ r.ttl ≤ 255 := by
 unfold useR usbRs vldRs at h
 simp only [Bool.and_eq_true, decide_eq_true_eq] at h
 have hr : r.inRange := Decidable.by_contra fun h1 => by have := chk_range h1; omega
 obtain ⟨a1, a2, a3, a4, a5, a6, a7, a8, a9, a10, a11, a12, a13, a14, a15⟩ := hr
 exact ⟨a12, a13, a14, a15⟩
theorem has_use {l : List Rs} {flow ttl : Int} (h : hasF (lookS l).2 flow ttl = true) : ∃ r ∈ l, useR (endT l) r = true ∧ r.flow = flow ∧ r.ttl = ttl := by
 unfold hasF at h
 simp only [Bool.or_eq_true, decide_eq_true_eq] at h
 obtain ⟨r, h1, h2, h3⟩ := lookS_use (l := l) (s := ⟨flow, ttl⟩) (by omega)
 unfold spotR at h3
 cases h3
 exact ⟨r, h1, h2, rfl, rfl⟩
theorem pathF_lt {l : List Rs} {flow : Int} {i : Nat} (hok : ∀ r ∈ l, r.Ok) (h : hasF (lookS l).2 flow ((i + 1 : Nat) : Int) = true) : i + 1 ≤ 255 := by
 obtain ⟨r, _, h2, _, h4⟩ := has_use h
 have := use_rng h2
 omega
theorem patbs64_1_5377 (a0_0 : Int) (w : World) : (Instr.buildSlice 64 1 #[(0, .int .u32 a0_0)]).run Tryz.prog w = .ok (.slice (some ⟨w.heap.size, 0, none⟩) 1 1) (w.alloc (.cells [.int .u32 a0_0].toArray 30)) := by kernel_rfl
theorem patel64 : Elem Tryz.prog 64 30 1 4 := Elem.mk' Tryz.underlying64 (z := .int .u32 0) (by kernel_rfl) rfl (by omega) (by omega)
set_option maxHeartbeats 1000000 in
theorem has_any (en : Int) (ga gs : Nat) (os : Obj) (fs : Spot → Option Int) (flow ttl : Int) (w : World) (hgs : w.heap[gs]? = some os) (hmgs : MapR (fun s : Spot => Value.agg s.cells.toArray) Spot.Ok os (fun s => (fs s).map (Value.int .i64))) (hk : (⟨flow, ttl⟩ : Spot).Ok) :
  Calls Tryz.prog 60 #[.agg #[.int .i64 en, .map (some ga), .map (some gs)], .int .i64 flow, .int .i64 ttl] w fun e w' => e = .returned (.bool (hasF fs flow ttl)) ∧ Below w.heap.size w w' := by
 refine begin_ (vs := [.agg #[.int .i64 en, .map (some ga), .map (some gs)], .int .i64 flow, .int .i64 ttl]) Tryz.func60 rfl rfl rfl ?_ (Pm.start w)
 refine zSG ?_
 refine TL.pnew rfl rfl rfl (exec_box (cs := [.int .i64 en, .map (some ga), .map (some gs)]) rfl rfl rfl) (fun g3 => ?_)
 refine TL.as_ ?_
 refine zET (zSG ?_)
 refine TL.v (gF plkfld91_2) ?_
 refine TL.v (gL 0 plkag89) ?_
 refine TL.rn 2 rfl ?_
 refine TL.val rfl rfl rfl (gives_build (v := .agg #[.int .i64 flow, .int .i64 ttl]) rfl rfl (fun w => plkbld97_27266 _ _ w)) ?_
 refine TL.val rfl rfl rfl (gives_lookOld (a := (⟨flow, ttl⟩ : Spot)) (v := .int .i64 ((fs (⟨flow, ttl⟩ : Spot)).getD 0)) rfl rfl rfl spot_key Tryz.underlying89 (fun w => rfl) hgs hmgs.toG hk (by cases h9 : fs (⟨flow, ttl⟩ : Spot) <;> rfl)) ?_
 refine TL.as_ ?_
 refine zET (zSG ?_)
 refine TL.mv ?_
 refine TL.sp bin_eql (fun q15 => ?_) (fun q15 => ?_)
 ·refine TL.rn 5 rfl ?_
  refine zET (zr ?_)
  have hE : (hasF fs flow ttl) = true := (by simp [hasF, q15])
  exact ret_tmp Tryz.results60 rfl (fun w1 hw => ⟨by rw [hE]; try rfl, hw.bel⟩)
 ·refine TL.rn 2 rfl ?_
  refine TL.gu ?_
  refine TL.sp bin_eql (fun q18 => ?_) (fun q18 => ?_)
  ·refine TL.rn 2 rfl ?_
   refine zET (zr ?_)
   have hE : (hasF fs flow ttl) = true := (by simp [hasF, q15, q18])
   exact ret_tmp Tryz.results60 rfl (fun w1 hw => ⟨by rw [hE]; try rfl, hw.bel⟩)
  ·refine TL.rn 2 rfl ?_
   refine zET (zr ?_)
   have hE : (hasF fs flow ttl) = false := (by simp [hasF, q15, q18])
   exact ret_tmp Tryz.results60 rfl (fun w1 hw => ⟨by rw [hE]; try rfl, hw.bel⟩)
set_option maxHeartbeats 1000000 in
theorem at_any (A0 : Option Addr) (c0 : Nat) (l : List Rs) (flow ttl : Int) (w : World) (hr : Reads w w.heap.size 17 A0 l.length (flat Rs.cells l)) (hl1 : l.length ≤ 100000) (hok : ∀ r ∈ l, r.Ok) (hk : (⟨flow, ttl⟩ : Spot).Ok) :
  Calls Tryz.prog 21 #[.slice A0 l.length c0, .int .i64 flow, .int .i64 ttl] w fun e w' => e = .returned (.tuple #[.int .u32 (atA l flow ttl), .int .i64 (atS l flow ttl)]) ∧ Below w.heap.size w w' := by
 refine begin_ (vs := [.slice A0 l.length c0, .int .i64 flow, .int .i64 ttl]) Tryz.func21 rfl rfl rfl ?_ (Pm.start w)
 refine zSG ?_
 refine TL.rn 2 rfl ?_
 refine zET (zSG ?_)
 refine TL.mv ?_
 refine TL.pcallPm (α := {y : (Nat × Obj) × (Nat × Obj) // MapR (fun s : Spot => Value.agg s.cells.toArray) Spot.Ok y.1.2 (fun s => ((lookS l).1 s).map (Value.int .u32)) ∧ MapR (fun s : Spot => Value.agg s.cells.toArray) Spot.Ok y.2.2 (fun s => ((lookS l).2 s).map (Value.int .i64))}) (fun x => .agg #[.int .i64 (endT l), .map (some x.1.1.1), .map (some x.1.2.1)]) (fun x => [.oth x.1.1.1 x.1.1.2, .oth x.1.2.1 x.1.2.2]) rfl rfl rfl rfl rfl Tryz.func58 (by decide) rfl (fun w1 hw => look_any A0 c0 l w1 (hr.up hw.bel) hl1 hok) ?_
 rintro ⟨⟨⟨ga, oa⟩, ⟨gs, os⟩⟩, hma, hms⟩
 dsimp only [List.cons_append, List.nil_append]
 dsimp only at hma hms ⊢
 refine TL.pnew rfl rfl rfl (exec_alloc (cs := [.int .i64 0, .map none, .map none]) rfl plkzv91 rfl) (fun g8 => ?_)
 refine TL.pstore (k := 0) (vs := [.int .i64 (endT l), .map (some ga), .map (some gs)]) rfl rfl rfl rfl rfl rfl rfl plksz91 plkone_i64mm (by show 3 ≤ 3; decide) rfl ?_
 refine zET (zSG ?_)
 refine TL.rn 2 rfl ?_
 refine TL.val rfl rfl rfl (gives_build (v := .agg #[.int .i64 flow, .int .i64 ttl]) rfl rfl (fun w => plkbld97_27266 _ _ w)) ?_
 refine TL.pnew rfl rfl rfl (exec_alloc (cs := [.int .i64 0, .int .i64 0]) rfl plkzv97 rfl) (fun g9 => ?_)
 refine TL.pstore (k := 0) (vs := [.int .i64 flow, .int .i64 ttl]) rfl rfl rfl rfl rfl rfl rfl plksz97 plkone_i64i64 (by show 2 ≤ 2; decide) rfl ?_
 refine zET (zS ?_)
 refine TC.quietQ (by kernel_rfl) (by kernel_rfl) (fun w hw => hw.drawn _) ?_
 refine TQ.v (gF plkfld91_1) ?_
 refine TQ.v (gL 1 plkag88) ?_
 refine TQ.v (gV 0 (.agg #[.int .i64 flow, .int .i64 ttl]) plkag97 plksz97) ?_
 refine TQ.val rfl rfl rfl (gives_lookG (a := (⟨flow, ttl⟩ : Spot)) (v := .int .u32 (((lookS l).1 (⟨flow, ttl⟩ : Spot)).getD 0)) rfl rfl rfl spot_key Tryz.underlying88 (fun w => rfl) (i := 2) rfl hma.toG (hk) (by cases h9 : (lookS l).1 (⟨flow, ttl⟩ : Spot) <;> rfl)) ?_
 refine TQ.v (gF plkfld91_2) ?_
 refine TQ.v (gL 1 plkag89) ?_
 refine TQ.v (gV 0 (.agg #[.int .i64 flow, .int .i64 ttl]) plkag97 plksz97) ?_
 refine TQ.val rfl rfl rfl (gives_lookG (a := (⟨flow, ttl⟩ : Spot)) (v := .int .i64 (((lookS l).2 (⟨flow, ttl⟩ : Spot)).getD 0)) rfl rfl rfl spot_key Tryz.underlying89 (fun w => rfl) (i := 3) rfl hms.toG (hk) (by cases h9 : (lookS l).2 (⟨flow, ttl⟩ : Spot) <;> rfl)) ?_
 refine TQ.rn 2 rfl ?_
 refine TQ.fin ?_
 refine zT (zr ?_)
 exact ret_pair (v1 := .int .u32 (((lookS l).1 (⟨flow, ttl⟩ : Spot)).getD 0)) (v2 := .int .i64 (((lookS l).2 (⟨flow, ttl⟩ : Spot)).getD 0)) Tryz.results21 rfl rfl (fun w1 hw => ⟨rfl, hw.bel⟩)
set_option maxHeartbeats 1000000 in
theorem path_any (A0 : Option Addr) (c0 : Nat) (l : List Rs) (flow : Int) (w : World) (hr : Reads w w.heap.size 17 A0 l.length (flat Rs.cells l)) (hl1 : l.length ≤ 100000) (hok : ∀ r ∈ l, r.Ok) (hk : (Lit.int .i64 flow).wf = true) :
  Calls Tryz.prog 22 #[.slice A0 l.length c0, .int .i64 flow] w fun e w' => ∃ x : {y : (Option Addr × Nat) × List Int // PathOk l flow y.2 ∧ y.2.length ≤ y.1.2 ∧ y.1.2 ≤ maxLen}, e = .returned (.slice x.1.1.1 x.1.2.length x.1.1.2) ∧ Pm w [.row (.slice x.1.1.1 x.1.2.length x.1.1.2) 30 1 x.1.2.length (flat (ic .u32) x.1.2)] w' := by
 refine begin_ (vs := [.slice A0 l.length c0, .int .i64 flow]) Tryz.func22 rfl rfl rfl ?_ (Pm.start w)
 refine zSG ?_
 refine TL.as_ ?_
 refine zET (zSG ?_)
 refine TL.mv ?_
 refine TL.pcallPm (α := {y : (Nat × Obj) × (Nat × Obj) // MapR (fun s : Spot => Value.agg s.cells.toArray) Spot.Ok y.1.2 (fun s => ((lookS l).1 s).map (Value.int .u32)) ∧ MapR (fun s : Spot => Value.agg s.cells.toArray) Spot.Ok y.2.2 (fun s => ((lookS l).2 s).map (Value.int .i64))}) (fun x => .agg #[.int .i64 (endT l), .map (some x.1.1.1), .map (some x.1.2.1)]) (fun x => [.oth x.1.1.1 x.1.1.2, .oth x.1.2.1 x.1.2.2]) rfl rfl rfl rfl rfl Tryz.func58 (by decide) rfl (fun w1 hw => look_any A0 c0 l w1 (hr.up hw.bel) hl1 hok) ?_
 rintro ⟨⟨⟨ga, oa⟩, ⟨gs, os⟩⟩, hma, hms⟩
 dsimp only [List.cons_append, List.nil_append]
 dsimp only at hma hms ⊢
 refine TL.pnew rfl rfl rfl (exec_alloc (cs := [.int .i64 0, .map none, .map none]) rfl plkzv91 rfl) (fun g5 => ?_)
 refine TL.pstore (k := 0) (vs := [.int .i64 (endT l), .map (some ga), .map (some gs)]) rfl rfl rfl rfl rfl rfl rfl plksz91 plkone_i64mm (by show 3 ≤ 3; decide) rfl ?_
 refine zET (zSG ?_)
 refine TL.as_ ?_
 refine zET (zS (zSG ?_))
 refine TL.as_ ?_
 refine zET (zB ?_)
 refine TC.nilrow 30 1 ?_
 refine TC.loop_ (α := {y : Nat × (Option Addr × Nat) × List Int // y.1 ≤ 256 ∧ (pathF (lookS l).1 (lookS l).2 flow 0 y.1 y.2.2) ∧ y.2.2.length ≤ y.1 ∧ y.2.2.length ≤ y.2.1.2 ∧ y.2.1.2 ≤ maxLen}) (fun y => [(1, .int .i64 flow), (5, .pointer (some ⟨g5, 0, none⟩)), (7, .int .i64 ((y.1.1 + 1 : Nat) : Int)), (6, .slice y.1.2.1.1 y.1.2.2.length y.1.2.1.2)]) (fun y => Pm w [.row (.slice y.1.2.1.1 y.1.2.2.length y.1.2.1.2) 30 1 y.1.2.2.length (flat (ic .u32) y.1.2.2), .blk g5 91 [.int .i64 (endT l), .map (some ga), .map (some gs)], .oth ga oa, .oth gs os]) (fun y => 256 - y.1.1) (⟨(0, (none, 0), []), Nat.zero_le _, PathF.nil, Nat.le_refl _, Nat.le_refl _, Nat.zero_le _⟩) ⟨rfl, rfl, rfl, rfl, trivial⟩ (fun w1 hw => hw) ?_
 rintro ⟨⟨i, ⟨Ao, co⟩, out⟩, hi, hpt, houtl, houtc, houtm⟩
 dsimp only at hi hpt houtl houtc houtm ⊢
 refine zS (zSG ?_)
 refine TL.v (gV 1 (.agg #[.int .i64 (endT l), .map (some ga), .map (some gs)]) plkag91 plksz91) ?_
 refine TL.rn 2 rfl ?_
 refine TL.callsplit rfl rfl rfl rfl rfl Tryz.func60 (by decide) rfl (fun w1 hw => has_any (endT l) ga gs os ((lookS l).2) flow ((i + 1 : Nat) : Int) w1 (hw.at_ (k := 3) rfl).1 hms (spotN hk (by omega))) (fun h13 => ?_) (fun h13 => ?_)
 ·have hi2 := pathF_lt hok h13
  refine zET (zc (zk (zT (zS (zB (zG ?_))))))
  refine TL.mv ?_
  refine TL.v (gF plkfld91_1) ?_
  refine TL.v (gL 1 plkag88) ?_
  refine TL.rn 2 rfl ?_
  refine TL.val rfl rfl rfl (gives_build (v := .agg #[.int .i64 flow, .int .i64 ((i + 1 : Nat) : Int)]) rfl rfl (fun w => plkbld97_27266 _ _ w)) ?_
  refine TL.val rfl rfl rfl (gives_lookG (a := (⟨flow, ((i + 1 : Nat) : Int)⟩ : Spot)) (v := .int .u32 (((lookS l).1 (⟨flow, ((i + 1 : Nat) : Int)⟩ : Spot)).getD 0)) rfl rfl rfl spot_key Tryz.underlying88 (fun w => rfl) (i := 2) rfl hma.toG (spotN hk (by omega)) (by cases h9 : (lookS l).1 (⟨flow, ((i + 1 : Nat) : Int)⟩ : Spot) <;> rfl)) ?_
  refine TL.prowS (e := 30) (size := 1) (cs := flat (ic .u32) [((lookS l).1 (⟨flow, ((i + 1 : Nat) : Int)⟩ : Spot)).getD 0]) rfl rfl rfl rfl rfl (fun w => patbs64_1_5377 _ w) (by decide) rfl (fun g23 => ?_)
  refine TL.appendT (k := 1) rfl rfl rfl rfl Tryz.underlying64 patel64 rfl rfl rfl (fun w1 hw => pm_reads hw (k := 0) rfl) (flat_one (ic_cel .u32) _) (by show _ * 4 ≤ _; omega) ((out ++ [((lookS l).1 (⟨flow, ((i + 1 : Nat) : Int)⟩ : Spot)).getD 0]).length) (by rw [List.length_append]; rfl) (flat (ic .u32) (out ++ [((lookS l).1 (⟨flow, ((i + 1 : Nat) : Int)⟩ : Spot)).getD 0])) ((flat_app _ _).symm) (fun A24 c24 hA241 hA242 => ?_)
  refine TL.as_ ?_
  refine zE (zN (zT (zG ?_)))
  refine TL.mv ?_
  refine TL.v (gD ((i + 1 + 1 : Nat) : Int)) ?_
  refine TL.as_ ?_
  refine zE ?_
  exact TX.round (⟨(i + 1, (A24, c24), out ++ [((lookS l).1 (⟨flow, ((i + 1 : Nat) : Int)⟩ : Spot)).getD 0]), by dsimp only; omega, pathF_snoc hpt h13, by dsimp only; rw [List.length_append]; show out.length + 1 ≤ _; omega, hA241, hA242⟩) (by show 256 - (i + 1) < 256 - i; omega) ⟨rfl, rfl, rfl, rfl, trivial⟩ (fun w1 hw => hw.pick [1, 2, 3, 4] (by decide) rfl)
 ·refine zET (zd (zx (zX (zX (zM (zT (zSG ?_)))))))
  refine TL.rn 2 rfl ?_
  refine zET (zr ?_)
  exact ret_tmp Tryz.results22 rfl (fun w1 hw => ⟨⟨((Ao, co), out), pathOk_of hpt h13, by dsimp only; omega, houtm⟩, rfl, hw.pick [0] (by decide) rfl⟩)
def vst (p : Int × Int) (r : Rs) : Int × Int := if r.ans = false then (p.1, max p.2 1) else if p.2 ≤ 1 then (r.src, 2) else if p.2 = 2 ∧ p.1 ≠ r.src then (0, 3) else p
def hitS (e : Int) (s : Spot) (r : Rs) : Bool := useR e r && decide (spotR r = s)
def vwS (e : Int) (l : List Rs) (s : Spot) : Int × Int := (l.filter (hitS e s)).foldl vst (0, 0)
theorem look_fold (e : Int) (s : Spot) : ∀ (l : List Rs) (p : (Spot → Option Int) × (Spot → Option Int)), (((l.foldl (stepK e) p).1 s).getD 0, ((l.foldl (stepK e) p).2 s).getD 0) = (l.filter (hitS e s)).foldl vst ((p.1 s).getD 0, (p.2 s).getD 0)
  | [], p => rfl
  | r :: l, p => by
    rw [List.foldl_cons, look_fold e s l (stepK e p r)]
    by_cases hu : useR e r = true
    · by_cases hs : spotR r = s
      · rw [List.filter_cons_of_pos (by simp [hitS, hu, hs]), List.foldl_cons]
        congr 1
        subst hs
        have hy : ∀ (f : Spot → Option Int) (v : Int), updF f (spotR r) v (spotR r) = some v := fun f v => if_pos rfl
        unfold stepK vst
        rw [if_pos hu]
        by_cases h1 : r.ans = false
        · rw [if_pos h1, if_pos h1]; simp only [hy, Option.getD_some]
        · rw [if_neg h1, if_neg h1]
          by_cases h2 : ((p.2 (spotR r)).getD 0) ≤ 1
          · rw [if_pos h2, if_pos h2]; simp only [hy, Option.getD_some]
          · rw [if_neg h2, if_neg h2]
            by_cases h3 : (p.2 (spotR r)).getD 0 = 2 ∧ (p.1 (spotR r)).getD 0 ≠ r.src
            · rw [if_pos h3, if_pos h3]; simp only [hy, Option.getD_some]
            · rw [if_neg h3, if_neg h3]
      · rw [List.filter_cons_of_neg (by simp [hitS, hs])]
        have hn : ∀ (f : Spot → Option Int) (v : Int), updF f (spotR r) v s = f s := fun f v => if_neg fun h => hs h.symm
        congr 1
        unfold stepK
        rw [if_pos hu]
        split
        · simp only [hn]
        · split
          · simp only [hn]
          · split
            · simp only [hn]
            · rfl
    · rw [List.filter_cons_of_neg (by simp [hitS, hu])]
      congr 1
      unfold stepK
      rw [if_neg hu]
theorem vwS_look (e : Int) (l : List Rs) (s : Spot) : vwS e l s = (((lookS2 e l).1 s).getD 0, ((lookS2 e l).2 s).getD 0) := (look_fold e s l (fun _ => none, fun _ => none)).symm
theorem at_vw (l : List Rs) (flow ttl : Int) : vwS (endT l) l ⟨flow, ttl⟩ = (atA l flow ttl, atS l flow ttl) := vwS_look _ _ _
def rat (l : List Rs) (flow ttl : Int) (i : Nat) : Int × Int := ((l.take i).filter (hitS (endT l) ⟨flow, ttl⟩)).foldl vst (0, 0)
section
variable {l : List Rs} {flow ttl a t e : Int} {i : Nat} {x : Rs}
theorem rat_zero : rat l flow ttl 0 = (0, 0) := by unfold rat; rw [List.take_zero]; rfl
theorem rat_skip (hx : l[i]? = some x) (h : hitS (endT l) ⟨flow, ttl⟩ x = false) (hv : rat l flow ttl i = (a, t)) : rat l flow ttl (i + 1) = (a, t) := by
  unfold rat at hv ⊢
  rw [List.take_add_one, hx, List.filter_append, List.foldl_append, hv]
  simp [h]
theorem rat_hit (hx : l[i]? = some x) (h : hitS (endT l) ⟨flow, ttl⟩ x = true) (hv : rat l flow ttl i = (a, t)) : rat l flow ttl (i + 1) = vst (a, t) x := by
  unfold rat at hv ⊢
  rw [List.take_add_one, hx, List.filter_append, List.foldl_append, hv]
  simp [h]
theorem rat_end (hi : l.length ≤ i) (hv : rat l flow ttl i = (a, t)) : atA l flow ttl = a ∧ atS l flow ttl = t := by
  unfold rat at hv
  rw [List.take_of_length_le hi] at hv
  have := at_vw l flow ttl
  unfold vwS at this
  rw [hv] at this
  exact ⟨(congrArg Prod.fst this).symm, (congrArg Prod.snd this).symm⟩
theorem vst_stay : ∀ h : List Rs, h.foldl vst (0, 3) = (0, 3)
  | [] => rfl
  | r :: h => by
    rw [List.foldl_cons, show vst (0, 3) r = (0, 3) by unfold vst; by_cases hr : r.ans = false <;> simp [hr] <;> rfl]
    exact vst_stay h
theorem rat_mix (hv : rat l flow ttl i = (0, 3)) : atA l flow ttl = 0 ∧ atS l flow ttl = 3 := by
  have h1 := at_vw l flow ttl
  unfold vwS at h1
  unfold rat at hv
  rw [show l.filter (hitS (endT l) ⟨flow, ttl⟩) = (l.take i).filter (hitS (endT l) ⟨flow, ttl⟩) ++ (l.drop i).filter (hitS (endT l) ⟨flow, ttl⟩) by rw [← List.filter_append, List.take_append_drop], List.foldl_append, hv, vst_stay] at h1
  exact ⟨(congrArg Prod.fst h1).symm, (congrArg Prod.snd h1).symm⟩
theorem rat_out (h : endT l > 0 ∧ ttl > endT l) : atA l flow ttl = 0 ∧ atS l flow ttl = 0 := by
  have h1 := at_vw l flow ttl
  unfold vwS at h1
  have h2 : l.filter (hitS (endT l) ⟨flow, ttl⟩) = [] := List.filter_eq_nil_iff.2 fun r _ h3 => by
    unfold hitS useR spotR at h3
    simp only [Bool.and_eq_true, Bool.not_eq_true', decide_eq_true_eq, Bool.and_eq_false_iff, decide_eq_false_iff_not, Spot.mk.injEq] at h3
    obtain ⟨⟨_, h4⟩, _, h5⟩ := h3
    omega
  rw [h2] at h1
  exact ⟨(congrArg Prod.fst h1).symm, (congrArg Prod.snd h1).symm⟩
theorem hit_t (hu : usbRs x = true) (hf : ¬ x.flow ≠ flow) (ht : ¬ x.ttl ≠ ttl) (he : ¬ (e > 0 ∧ ttl > e)) : hitS e ⟨flow, ttl⟩ x = true := by
  have h1 := Decidable.not_not.1 hf
  have h2 := Decidable.not_not.1 ht
  unfold hitS useR spotR
  simp only [hu, h1, h2, Bool.true_and, decide_true, Bool.and_true, Bool.not_eq_true', Bool.and_eq_false_iff, decide_eq_false_iff_not]
  omega
theorem hit_f1 (hu : usbRs x = false) : hitS e ⟨flow, ttl⟩ x = false := by simp [hitS, useR, hu]
theorem hit_f2 (h : x.flow ≠ flow) : hitS e ⟨flow, ttl⟩ x = false := by simp [hitS, spotR, h]
theorem hit_f3 (h : x.ttl ≠ ttl) : hitS e ⟨flow, ttl⟩ x = false := by simp [hitS, spotR, h]
theorem vst_none {t' : Int} (h : x.ans = false) (ht : max t 1 = t') : vst (a, t) x = (a, t') := by unfold vst; rw [if_pos h, ← ht]
theorem vst_seen (h : x.ans = true) (h2 : t ≤ 2) (hc : ¬ t = 2 ∨ a = x.src) : vst (a, t) x = (x.src, 2) := by
  unfold vst
  rw [if_neg (by rw [h]; decide)]
  by_cases h1 : t ≤ 1
  · rw [if_pos h1]
  · obtain rfl : t = 2 := by omega
    have ha : a = x.src := hc.elim (fun h => absurd rfl h) id
    rw [if_neg h1, if_neg (by rintro ⟨_, h3⟩; exact h3 ha), ha]
theorem vst_mix (h : x.ans = true) (h1 : t = 2) (h2 : a ≠ x.src) : vst (a, t) x = (0, 3) := by
  subst h1
  unfold vst
  rw [if_neg (by rw [h]; decide), if_neg (show ¬ ((2 : Int) ≤ 1) by decide), if_pos ⟨rfl, h2⟩]
end
set_option maxRecDepth 20000
theorem any_at {α : Type} {l : List α} {i : Nat} {x : α} {p : α → Bool} (hx : l[i]? = some x) (h : p x = true) : l.any p = true := List.any_eq_true.2 ⟨x, List.mem_of_getElem? hx, h⟩
theorem map_some {κ : Type} {f : κ → Option Int} {a : κ} {q : IntKind} {v : Value} (h : (f a).map (Value.int q) = some v) : ∃ k, f a = some k ∧ v = .int q k := by
 cases hf : f a with
 | none => rw [hf] at h; cases h
 | some k => rw [hf] at h; cases h; exact ⟨k, rfl, rfl⟩
def ErrOk (l : List Rs) (fs : Spot → Option Int) (e : Int) : Prop :=
 (e = 1 ∧ (l.any fun r => !vldRs r) = true) ∨ ((l.any fun r => !vldRs r) = false ∧ ∃ o, IsOrd l o ∧ ((e = 5 ∧ 512 < o.length) ∨ (o.length ≤ 512 ∧ ∃ tr, IsTrc l tr ∧ ((e = 35 ∧ 1 < tr.length) ∨ (tr.length ≤ 1 ∧ ((e = 30 ∧ ∃ s, fs s = some 3) ∨ (e = 0 ∧ ¬ ∃ s, fs s = some 3)))))))
set_option maxHeartbeats 1000000 in
theorem chk1_any (r : Rs) (w : World) :
  Calls Tryz.prog 103 #[.agg r.cells.toArray] w fun e w' => e = .returned (.bool (!vldRs r)) ∧ Below w.heap.size w w' := by
 refine begin_ (vs := [.agg r.cells.toArray]) Tryz.func103 rfl rfl rfl ?_ (Pm.start w)
 refine zSG ?_
 refine TL.pnew rfl rfl rfl (exec_box (cs := r.cells) rfl rfl rfl) (fun g1 => ?_)
 refine TL.as_ ?_
 refine zET (zSG ?_)
 refine TL.v (gV 0 (.agg (r.cells).toArray) prsag47 prssz47) ?_
 refine TL.callsplit rfl rfl rfl rfl rfl Tryz.func26 (by decide) rfl (fun w1 hw => vldRs_any r w1) (fun h4 => ?_) (fun h4 => ?_)
 ·refine TL.rn 2 rfl ?_
  refine zET (zr ?_)
  have hE : (!vldRs r) = false := (by simp [Bool.not_eq_true, h4])
  exact ret_tmp Tryz.results103 rfl (fun w1 hw => ⟨by rw [hE]; try rfl, hw.bel⟩)
 ·refine TL.rn 2 rfl ?_
  refine zET (zr ?_)
  have hE : (!vldRs r) = true := (by simp [Bool.not_eq_true, h4])
  exact ret_tmp Tryz.results103 rfl (fun w1 hw => ⟨by rw [hE]; try rfl, hw.bel⟩)
set_option maxHeartbeats 1000000 in
theorem idxf_any (A0 : Option Addr) (c0 : Nat) (l : List Rs) (w : World) (hr : Reads w w.heap.size 17 A0 l.length (flat Rs.cells l)) (hl1 : l.length ≤ 100000) :
  Calls Tryz.prog 123 #[.slice A0 l.length c0, .func (.func 103) #[] #[]] w fun e w' => ∃ x : {z : Int // (l.any fun r => !vldRs r) = decide (z ≥ 0)}, e = .returned (.int .i64 x.1) ∧ Below w.heap.size w w' := by
 refine begin_ (vs := [.slice A0 l.length c0, .func (.func 103) #[] #[]]) Tryz.func123 rfl rfl rfl ?_ (Pm.start w)
 refine zSG ?_
 refine TL.as_ ?_
 refine zET (zS (zSG ?_))
 refine TL.mv ?_
 refine TL.v (gN Tryz.underlying26) ?_
 refine TL.mv ?_
 refine zET (zB ?_)
 refine TC.loop_ (α := {i : Nat // i ≤ l.length ∧ ∀ r ∈ l.take i, vldRs r = true}) (fun y => [(0, .slice A0 l.length c0), (1, .func (.func 103) #[] #[]), (7, .int .i64 (l.length : Nat)), (8, .int .i64 ((y.1 : Nat) : Int))]) (fun y => Pm w []) (fun y => l.length - y.1) (⟨0, Nat.zero_le _, fun r hr => by rw [List.take_zero] at hr; cases hr⟩) ⟨rfl, rfl, rfl, rfl, trivial⟩ (fun w1 hw => hw) ?_
 rintro ⟨i, hi, hall⟩
 try dsimp only at hi hall ⊢
 refine zSG ?_
 refine TL.vsplit rfl rfl rfl (gives_bin rfl rfl rfl (fun w => bin_lss w)) (fun h9 => ?_) (fun h9 => ?_)
 ·have q9 := of_decide_eq_true h9
  refine zET (zS (zc (zk (zT (zS (zB (zSG ?_)))))))
  refine TL.rn 2 rfl ?_
  refine zET (zSG ?_)
  refine TL.rn 3 rfl ?_
  have hi14 : i < l.length := by omega
  obtain ⟨x14, hx14⟩ := ex_at hi14
  obtain ⟨b14, o14, hA14, hbb14, hc14⟩ := hr.ad (by omega) (by decide)
  refine TL.val rfl rfl rfl (gA (i := i) Tryz.underlying26 prssz47 rfl rfl rfl rfl hA14 (by omega)) ?_
  refine TL.v (gR rs_cel prsag47 prssz47 hbb14 hx14 hc14) ?_
  obtain ⟨bv, hbv⟩ : ∃ b, (!vldRs x14) = b := ⟨_, rfl⟩
  refine TL.callE1 (r := .bool bv) rfl rfl rfl (ent_val rfl rfl rfl Tryz.func103 (by decide) rfl rfl) (fun w1 hw => by rw [← hbv]; exact chk1_any x14 w1) ?_
  refine zET ?_
  refine TC.split (t := bv) rfl (fun c16 => ?_) (fun c16 => ?_)
  ·refine zSG ?_
   refine TL.rn 2 rfl ?_
   refine zET (zr (zRR (zR (zRR ?_))))
   exact ret_tmp Tryz.results123 rfl (fun w1 hw => ⟨⟨(i : Int), by rw [any_at hx14 (p := fun r => !vldRs r) (by rw [hbv]; exact c16)]; exact (decide_eq_true (by omega)).symm⟩, rfl, hw.bel⟩)
  ·refine zk (zN (zT (zG ?_)))
   refine TL.v (gD ((i + 1 : Nat) : Int)) ?_
   refine TL.mv ?_
   refine zE ?_
   exact TX.round (⟨i + 1, by omega, fun r hr => by rcases (mem_take_snoc hx14).1 hr with h9 | h9; exact hall r h9; rw [h9]; have := hbv; rw [c16] at this; simpa using this⟩) (by show l.length - (i + 1) < l.length - i; omega) ⟨rfl, rfl, rfl, rfl, trivial⟩ (fun w1 hw => hw)
 ·have q9 := of_decide_eq_false h9
  refine zET (zS (zd (zx (zX (zX (zM (zT (zS ?_))))))))
  have hnone : l.length ≤ i → (l.any fun r => !vldRs r) = false := fun h => by rw [List.take_of_length_le h] at hall; rw [List.any_eq_false]; intro r hr; rw [hall r hr]; decide
  refine zG ?_
  refine TL.as_ ?_
  refine zET (zr ?_)
  exact ret_tmp Tryz.results123 rfl (fun w1 hw => ⟨⟨-1, by rw [hnone (by omega)]; rfl⟩, rfl, hw.bel⟩)
set_option maxHeartbeats 1000000 in
theorem contf_any (A0 : Option Addr) (c0 : Nat) (l : List Rs) (w : World) (hr : Reads w w.heap.size 17 A0 l.length (flat Rs.cells l)) (hl1 : l.length ≤ 100000) :
  Calls Tryz.prog 102 #[.slice A0 l.length c0, .func (.func 103) #[] #[]] w fun e w' => e = .returned (.bool (l.any fun r => !vldRs r)) ∧ Below w.heap.size w w' := by
 refine begin_ (vs := [.slice A0 l.length c0, .func (.func 103) #[] #[]]) Tryz.func102 rfl rfl rfl ?_ (Pm.start w)
 refine zSG ?_
 refine TL.as_ ?_
 refine zET (zSG ?_)
 refine TL.rn 2 rfl ?_
 refine TL.pcallPm (α := {z : Int // (l.any fun r => !vldRs r) = decide (z ≥ 0)}) (fun x => .int .i64 x.1) (fun x => []) rfl rfl rfl rfl rfl Tryz.func123 (by decide) rfl (fun w1 hw => (idxf_any A0 c0 l w1 (hr.up hw.bel) hl1).mono fun en w2 ⟨x, h1, h2⟩ => ⟨x, h1, (Pm.start w1).below h2⟩) ?_
 rintro ⟨z, hz⟩
 dsimp only [List.cons_append, List.nil_append]
 refine TL.sp bin_geq (fun q8 => ?_) (fun q8 => ?_)
 ·refine TL.as_ ?_
  refine zET (zr ?_)
  exact ret_tmp Tryz.results102 rfl (fun w1 hw => ⟨by rw [hz, decide_eq_true q8], hw.bel⟩)
 ·refine TL.as_ ?_
  refine zET (zr ?_)
  exact ret_tmp Tryz.results102 rfl (fun w1 hw => ⟨by rw [hz, decide_eq_false q8], hw.bel⟩)
set_option maxHeartbeats 1000000 in
theorem check_view (A0 : Option Addr) (c0 : Nat) (l : List Rs) (en : Int) (ga gs : Nat) (os : Obj) (fs : Spot → Option Int) (w : World) (hr : Reads w w.heap.size 17 A0 l.length (flat Rs.cells l)) (hl1 : l.length ≤ 100000) (hok : ∀ r ∈ l, r.Ok) (hgs : w.heap[gs]? = some os) (hmgs : MapR (fun s : Spot => Value.agg s.cells.toArray) Spot.Ok os (fun s => (fs s).map (Value.int .i64))) :
  Calls Tryz.prog 59 #[.slice A0 l.length c0, .agg #[.int .i64 en, .map (some ga), .map (some gs)]] w fun e w' => ∃ x : {z : Int // ErrOk l fs z}, e = .returned (.int .i64 x.1) ∧ Below w.heap.size w w' := by
 refine begin_ (vs := [.slice A0 l.length c0, .agg #[.int .i64 en, .map (some ga), .map (some gs)]]) Tryz.func59 rfl rfl rfl ?_ (Pm.start w)
 refine zSG ?_
 refine TL.pnew rfl rfl rfl (exec_box (cs := [.int .i64 en, .map (some ga), .map (some gs)]) rfl rfl rfl) (fun g3 => ?_)
 refine TL.as_ ?_
 refine zET (zS (zSG ?_))
 refine TL.mv ?_
 refine TL.callsplit rfl rfl rfl rfl rfl Tryz.func102 (by decide) rfl (fun w1 hw => contf_any A0 c0 l w1 (hr.up hw.bel) hl1) (fun h8 => ?_) (fun h8 => ?_)
 ·refine TL.val rfl rfl rfl (gives_boolnot rfl rfl) ?_
  refine zET (zd (zk (zT (zSG ?_))))
  refine TL.as_ ?_
  refine zET (zr ?_)
  have hE : ErrOk l fs 1 := .inl ⟨rfl, h8⟩
  exact ret_tmp Tryz.results59 rfl (fun w1 hw => ⟨⟨_, hE⟩, rfl, hw.bel⟩)
 ·refine TL.val rfl rfl rfl (gives_boolnot rfl rfl) ?_
  refine zET (zc (zS (zB (zSG ?_))))
  refine TL.mv ?_
  refine TL.pcallPm (α := {y : (Option Addr × Nat) × List Rs // IsOrd l y.2 ∧ y.2.length ≤ y.1.2 ∧ y.1.2 ≤ maxLen}) (fun x => .slice x.1.1.1 x.1.2.length x.1.1.2) (fun x => [.row (.slice x.1.1.1 x.1.2.length x.1.1.2) 47 17 x.1.2.length (flat Rs.cells x.1.2)]) rfl rfl rfl rfl rfl Tryz.func40 (by decide) rfl (fun w1 hw => ord_any A0 c0 l w1 (hr.up hw.bel) hl1 hok) ?_
  rintro ⟨⟨⟨R12, rc12⟩, o12⟩, hP12, hR121, hR122⟩
  dsimp only [List.cons_append, List.nil_append]
  dsimp only at hP12 hR121 hR122 ⊢
  refine TL.v (gN Tryz.underlying26) ?_
  refine TL.sp bin_gtr (fun q14 => ?_) (fun q14 => ?_)
  ·refine TL.as_ ?_
   refine zET (zc (zSG ?_))
   refine TL.as_ ?_
   refine zET (zr (zRR (zR ?_)))
   have hE : ErrOk l fs 5 := .inr ⟨h8, o12, hP12, .inl ⟨rfl, by omega⟩⟩
   exact ret_tmp Tryz.results59 rfl (fun w1 hw => ⟨⟨_, hE⟩, rfl, hw.bel⟩)
  ·refine TL.as_ ?_
   refine zET (zd (zSG ?_))
   refine TL.mv ?_
   refine TL.pcallPm (α := {y : (Option Addr × Nat) × List Trc // IsTrc l y.2 ∧ y.2.length ≤ y.1.2 ∧ y.1.2 ≤ maxLen}) (fun x => .slice x.1.1.1 x.1.2.length x.1.1.2) (fun x => [.row (.slice x.1.1.1 x.1.2.length x.1.1.2) 32 3 x.1.2.length (flat Trc.cells x.1.2)]) rfl rfl rfl rfl rfl Tryz.func37 (by decide) rfl (fun w1 hw => trs_any A0 c0 l w1 (hr.up hw.bel) hl1) ?_
   rintro ⟨⟨⟨R17, rc17⟩, tr17⟩, hP17, hR171, hR172⟩
   dsimp only [List.cons_append, List.nil_append]
   dsimp only at hP17 hR171 hR172 ⊢
   refine TL.v (gN Tryz.underlying73) ?_
   refine TL.sp bin_gtr (fun q19 => ?_) (fun q19 => ?_)
   ·refine TL.as_ ?_
    refine zET (zc (zSG ?_))
    refine TL.as_ ?_
    refine zET (zr (zRR (zR ?_)))
    have hE : ErrOk l fs 35 := .inr ⟨h8, o12, hP12, .inr ⟨by omega, tr17, hP17, .inl ⟨rfl, by omega⟩⟩⟩
    exact ret_tmp Tryz.results59 rfl (fun w1 hw => ⟨⟨_, hE⟩, rfl, hw.bel⟩)
   ·refine TL.as_ ?_
    refine zET (zd (zk (zN (zT (zS (zSG ?_))))))
    refine TL.v (gF plkfld91_2) ?_
    refine TL.v (gL 2 plkag89) ?_
    refine TL.rangeM rfl rfl rfl rfl rfl Tryz.underlying89 (fun w1 hw => hw.oth.same _ _ hgs hmgs.nc) hmgs (fun it oi n hit hI0 => ?_)
    refine zET (zB ?_)
    refine TC.loop_ (α := {y : List (Spot × Value) × Obj // ItR (fun s : Spot => Value.agg s.cells.toArray) Spot.Ok gs os y.2 (fun s => (fs s).map (Value.int .i64)) n y.1 ∧ ∀ p ∈ y.1, p.2 ≠ .int .i64 3}) (fun y => [(3, .pointer (some ⟨g3, 0, none⟩)), (22, .pointer (some ⟨it, 0, none⟩))]) (fun y => Pm w [.oth it y.1.2, .row (.slice R17 tr17.length rc17) 32 3 tr17.length (flat Trc.cells tr17), .row (.slice R12 o12.length rc12) 47 17 o12.length (flat Rs.cells o12), .blk g3 91 [.int .i64 en, .map (some ga), .map (some gs)]]) (fun y => n - y.1.1.length) (⟨([], oi), hI0, fun p hp => absurd hp List.not_mem_nil⟩) ⟨rfl, rfl, trivial⟩ (fun w1 hw => hw) ?_
    rintro ⟨⟨ds, oi1⟩, hI1, hds⟩
    dsimp only at hI1 hds ⊢
    refine zSG ?_
    refine TL.nextM spot_key (j := 0) rfl rfl rfl rfl rfl (fun w1 hw => hw.oth.same _ _ hgs hmgs.nc) rfl hit hI1 (fun hall => ?_) (fun a v oi2 ha hfa hna hI2 hlt => ?_)
    ·have hno : ¬ ∃ s, fs s = some 3 := by
      rintro ⟨s, hs⟩
      exact hds _ (hall s (.int .i64 3) (by simp [hs])) rfl
     refine TL.ex ?_
     refine zET (zS (zd (zx (zX (zX (zM (zT (zSG ?_))))))))
     refine TL.as_ ?_
     refine zET (zr (zR ?_))
     have hE : ErrOk l fs 0 := .inr ⟨h8, o12, hP12, .inr ⟨by omega, tr17, hP17, .inr ⟨by omega, .inr ⟨rfl, hno⟩⟩⟩⟩
     exact ret_tmp Tryz.results59 rfl (fun w1 hw => ⟨⟨_, hE⟩, rfl, hw.bel⟩)
    ·obtain ⟨kv, hfs, rfl⟩ := map_some hfa
     try dsimp only [List.set_cons_zero, List.set_cons_succ]
     refine TL.ex ?_
     refine zET (zS (zc (zk (zT (zB (zSG ?_))))))
     refine TL.val rfl rfl rfl (gives_entryM (j := 0) rfl rfl (fun w1 hw => hw.oth.same _ _ hgs hmgs.nc) rfl hI2) ?_
     refine TL.rn 2 rfl ?_
     refine zET (zSG ?_)
     refine TL.mv ?_
     refine TL.sp bin_eql (fun q28 => ?_) (fun q28 => ?_)
     ·refine zET (zc (zSG ?_))
      refine TL.as_ ?_
      refine zET (zr (zRR (zRR (zR ?_))))
      have hE : ErrOk l fs 30 := .inr ⟨h8, o12, hP12, .inr ⟨by omega, tr17, hP17, .inr ⟨by omega, .inl ⟨rfl, a, by rw [hfs]; exact congrArg some (by omega)⟩⟩⟩⟩
      exact ret_tmp Tryz.results59 rfl (fun w1 hw => ⟨⟨_, hE⟩, rfl, hw.bel⟩)
     ·refine zET (zd (zk (zN ?_)))
      exact TX.round (⟨(ds ++ [(a, .int .i64 kv)], oi2), hI2, fun p hp => by rcases List.mem_append.1 hp with h9 | h9; exact hds p h9; rw [List.mem_singleton.1 h9]; intro h10; injection h10 with _ h10; exact q28 h10⟩) (by show n - (ds ++ [(a, _)]).length < n - ds.length; rw [List.length_append]; show n - (ds.length + 1) < _; omega) ⟨rfl, rfl, trivial⟩ (fun w1 hw => hw)
set_option linter.unusedSectionVars false
def addS {κ α : Type} [DecidableEq κ] (sp : κ → List α) (k : κ) (x : α) : κ → List α := fun z => if z = k then sp z ++ [x] else sp z
section
variable {κ α : Type} [DecidableEq κ] {enc : κ → Value} {Ok : κ → Prop}
def getS (ps : List (κ × Sg α)) (x : κ) : Sg α := ((ps.find? fun p => decide (p.1 = x)).map (·.2)).getD (Sg.nil α)
structure MapSG (enc : κ → Value) (Ok : κ → Prop) (ob : Obj) (ps : List (κ × Sg α)) (sp : κ → List α) : Prop where
  map : ∃ fm : κ → Option Value, MapR enc Ok ob fm ∧ ∀ x, fm x = (ps.find? fun p => decide (p.1 = x)).map (·.2.val)
  nd : (ps.map (·.1)).Nodup
  sp : ∀ x, (getS ps x).l = sp x
theorem mapSG_nil : MapSG enc Ok (.map #[] 0) [] (fun _ => ([] : List α)) := ⟨⟨fun _ => none, mapR_new _ _, fun _ => rfl⟩, List.nodup_nil, fun _ => rfl⟩
theorem find_key {ps : List (κ × Sg α)} (nd : (ps.map (·.1)).Nodup) {z : κ} {p : κ × Sg α} : (ps.find? fun p => decide (p.1 = z)) = some p ↔ p ∈ ps ∧ p.1 = z := by
  constructor
  · intro h
    exact ⟨List.mem_of_find?_eq_some h, by have := List.find?_some h; simpa using this⟩
  · rintro ⟨h1, h2⟩
    induction ps with
    | nil => cases h1
    | cons q ps ih =>
      obtain ⟨n1, n2⟩ := List.nodup_cons.1 nd
      rw [List.find?_cons]
      rcases List.mem_cons.1 h1 with rfl | h1
      · rw [decide_eq_true h2]
      · have : ¬ q.1 = z := fun e => n1 (List.mem_map.2 ⟨p, h1, h2.trans e.symm⟩)
        rw [decide_eq_false this]
        exact ih n2 h1
theorem find_at {ps : List (κ × Sg α)} {z : κ} {p : κ × Sg α} (h : (ps.find? fun p => decide (p.1 = z)) = some p) : ∃ (k : Nat) (s : Sg α), ps[k]? = some (z, s) ∧ p = (z, s) := by
  obtain ⟨k, hk⟩ := List.getElem?_of_mem (List.mem_of_find?_eq_some h)
  have e : p.1 = z := by have := List.find?_some h; simpa using this
  obtain ⟨y, s⟩ := p
  cases e
  exact ⟨k, s, hk, rfl⟩
theorem getS_of {ps : List (κ × Sg α)} {z : κ} {s : Sg α} (h : (ps.find? fun p => decide (p.1 = z)) = some (z, s)) : getS ps z = s := by unfold getS; rw [h]; rfl
theorem map_at {ps : List (κ × Sg α)} {k : Nat} {z : κ} {s : Sg α} (h : ps[k]? = some (z, s)) : (ps.map (·.2))[k]? = some s := by rw [List.getElem?_map, h]; rfl
theorem MapSG.put {ob ob' : Obj} {ps ps' : List (κ × Sg α)} {sp : κ → List α} {fm : κ → Option Value} {k : κ} {s' : Sg α} {x : α} (h : MapSG enc Ok ob ps sp) (hfm : ∀ x, fm x = (ps.find? fun p => decide (p.1 = x)).map (·.2.val)) (hm : MapR enc Ok ob' (fun z => if z = k then some s'.val else fm z))
    (nd : (ps'.map (·.1)).Nodup) (hp : ∀ p, p ∈ ps' ↔ p = (k, s') ∨ (p ∈ ps ∧ p.1 ≠ k)) (hs : s'.l = sp k ++ [x]) : MapSG enc Ok ob' ps' (addS sp k x) := by
  have hfind : ∀ z, (ps'.find? fun p => decide (p.1 = z)) = if z = k then some (k, s') else ps.find? fun p => decide (p.1 = z) := fun z => by
    refine Option.ext fun p => ?_
    rw [find_key nd, hp]
    by_cases e : z = k
    · subst e
      rw [if_pos rfl]
      constructor
      · rintro ⟨rfl | h1, h2⟩
        · rfl
        · exact absurd h2 h1.2
      · intro hh
        cases hh
        exact ⟨.inl rfl, rfl⟩
    · rw [if_neg e, find_key h.nd]
      constructor
      · rintro ⟨rfl | h1, h2⟩
        · exact absurd h2.symm e
        · exact ⟨h1.1, h2⟩
      · rintro ⟨h1, h2⟩
        exact ⟨.inr ⟨h1, fun e2 => e (h2.symm.trans e2)⟩, h2⟩
  refine ⟨⟨_, hm, fun z => ?_⟩, nd, fun z => ?_⟩
  · rw [hfind]
    show (if z = k then some s'.val else fm z) = _
    by_cases e : z = k
    · rw [if_pos e, if_pos e]; rfl
    · rw [if_neg e, if_neg e, hfm]
  · unfold getS addS
    rw [hfind]
    by_cases e : z = k
    · subst e
      rw [if_pos rfl, if_pos rfl]
      exact hs
    · rw [if_neg e, if_neg e]
      exact h.sp z
theorem MapSG.new {ob ob' : Obj} {ps : List (κ × Sg α)} {sp : κ → List α} {fm : κ → Option Value} {k : κ} {A : Option Addr} {c : Nat} {x : α} (h : MapSG enc Ok ob ps sp) (hfi : (ps.find? fun p => decide (p.1 = k)) = none) (hfm : ∀ x, fm x = (ps.find? fun p => decide (p.1 = x)).map (·.2.val)) (hm : MapR enc Ok ob' (fun z => if z = k then some (Sg.val (⟨A, c, [x]⟩ : Sg α)) else fm z)) : MapSG enc Ok ob' (ps ++ [(k, ⟨A, c, [x]⟩)]) (addS sp k x) := by
  have hno : ∀ p ∈ ps, p.1 ≠ k := fun p hp => by
    have := List.find?_eq_none.1 hfi p hp
    simpa using this
  refine h.put hfm hm ?_ (fun p => ?_) ?_
  · rw [List.map_append]
    refine List.nodup_append.2 ⟨h.nd, List.pairwise_singleton _ _, fun a ha b hb e => ?_⟩
    rw [List.map_singleton, List.mem_singleton] at hb
    obtain ⟨p, hp, e2⟩ := List.mem_map.1 ha
    exact hno p hp (e2.trans (e.trans hb))
  · rw [List.mem_append, List.mem_singleton]
    constructor
    · rintro (hp | hp)
      · exact .inr ⟨hp, hno p hp⟩
      · exact .inl hp
    · rintro (hp | hp)
      · exact .inr hp
      · exact .inl hp.1
  · have := h.sp k
    unfold getS at this
    rw [hfi] at this
    rw [← this]
    rfl
theorem MapSG.old {ob ob' : Obj} {ps : List (κ × Sg α)} {sp : κ → List α} {fm : κ → Option Value} {i : Nat} {k : κ} {s : Sg α} {A : Option Addr} {c : Nat} {x : α} (h : MapSG enc Ok ob ps sp) (hfi : (ps.find? fun p => decide (p.1 = k)) = some (k, s)) (hi : ps[i]? = some (k, s)) (hfm : ∀ x, fm x = (ps.find? fun p => decide (p.1 = x)).map (·.2.val)) (hm : MapR enc Ok ob' (fun z => if z = k then some (Sg.val (⟨A, c, s.l ++ [x]⟩ : Sg α)) else fm z)) : MapSG enc Ok ob' (ps.set i (k, ⟨A, c, s.l ++ [x]⟩)) (addS sp k x) := by
  have hlt := (List.getElem?_eq_some_iff.1 hi).1
  have hkeys : (ps.set i (k, (⟨A, c, s.l ++ [x]⟩ : Sg α))).map (·.1) = ps.map (·.1) := by
    rw [List.map_set]
    refine List.ext_getElem? fun j => ?_
    rw [List.getElem?_set]
    by_cases e : i = j
    · subst e
      rw [if_pos rfl, if_pos (by rw [List.length_map]; exact hlt), List.getElem?_map, hi]
      rfl
    · rw [if_neg e]
  refine h.put hfm hm (by rw [hkeys]; exact h.nd) (fun p => ?_) ?_
  · have huniq : ∀ j q, ps[j]? = some q → q.1 = k → j = i := fun j q hj e => by
      refine (List.getElem?_inj (l := ps.map (·.1)) (by rw [List.length_map]; exact (List.getElem?_eq_some_iff.1 hj).1) h.nd).1 ?_
      rw [List.getElem?_map, List.getElem?_map, hj, hi]
      simp [e]
    constructor
    · intro hp
      obtain ⟨j, hj⟩ := List.getElem?_of_mem hp
      rw [List.getElem?_set] at hj
      by_cases e : i = j
      · rw [if_pos e, if_pos hlt] at hj
        cases hj
        exact .inl rfl
      · rw [if_neg e] at hj
        exact .inr ⟨List.mem_of_getElem? hj, fun e2 => e (huniq j p hj e2).symm⟩
    · rintro (rfl | ⟨h1, h2⟩)
      · exact List.mem_set hlt _
      · obtain ⟨j, hj⟩ := List.getElem?_of_mem h1
        have e : i ≠ j := fun e => by subst e; rw [hi] at hj; cases hj; exact h2 rfl
        exact List.mem_of_getElem? (i := j) (by rw [List.getElem?_set, if_neg e]; exact hj)
  · rw [← h.sp k, getS_of hfi]
theorem Pm.segP {e : TypeId} {size : Nat} {en : List α → List Value} {w0 : Base} {w : World} {P : List Pc} {ss ss' : List (Sg α)} {s : Sg α} (h : Pm w0 ((.row (.slice s.A s.l.length s.c) e size s.l.length (en s.l) :: P) ++ segG e size en ss) w) (hp : (s :: ss).Perm ss') : Pm w0 (P ++ segG e size en ss') w := by
  refine h.permute ?_
  have h1 : (segG e size en (s :: ss)).Perm (segG e size en ss') := hp.map _
  exact List.perm_middle.symm.trans (List.Perm.append_left P h1)
theorem Pm.segQ {e : TypeId} {size : Nat} {en : List α → List Value} {w0 : Base} {w : World} {P : List Pc} {ss ss' : List (Sg α)} (h : Pm w0 (P ++ segG e size en ss) w) (hp : ss.Perm ss') : Pm w0 (P ++ segG e size en ss') w := h.permute (List.Perm.append_left P (hp.map _))
end
open Go Go.RowKit Go.Shelf Go.Sort
def SortedI (l l' : List Int) : Prop := l'.Perm l ∧ l'.Pairwise (· ≤ ·)
theorem sortInt {b n cap : Nat} {A : Option Addr} {l : List Int} {w : World} (hr : w.ownsRow b 3 1 (.slice A n cap) n (flat (ic .i64) l)) (hl : l.length = n) (hn : n ≤ 1000000) :
    Calls Tryz.prog 61 #[.slice A n cap] w fun en w' => en = .returned (.tuple #[]) ∧ ∃ l', SortedI l l' ∧ w'.ownsRow b 3 1 (.slice A n cap) n (flat (ic .i64) l') ∧ w.grownBy w' (Value.ownBlock (.slice A n cap)) := by
  rcases id hr.2 with ⟨hv, h0⟩ | ⟨q, cap', cur, hv, hb, hq, h1, h2, h3, h4⟩
  · cases hv
    obtain rfl : l = [] := List.eq_nil_of_length_eq_zero (by omega)
    refine (AnyM.slices_Sort_int_none sortLay none 0 w).mono fun en w' ⟨h5, h6⟩ => ⟨h5, [], ⟨List.Perm.refl _, List.Pairwise.nil⟩, ?_, ?_⟩
    · rw [h6]; exact hr
    · rw [h6]; exact ⟨rfl, rfl, rfl, Nat.le_refl _, fun _ _ _ => rfl⟩
  · cases hv
    subst hl
    have hqs : q < w.heap.size := (Array.getElem?_eq_some_iff.1 hq).1
    rw [flat_ic, Nat.mul_one] at h4
    have hc := AnyM.slices_Sort_int sortLay q 0 cap l w (holds_of_blockI hq h4) hqs (by omega)
    refine Calls.mono hc ?_
    rintro en w' ⟨h5, m, os, hw⟩
    have hlen : (l.mergeSort fun x y => decide (x ≤ y)).length = l.length := List.length_mergeSort l
    refine ⟨h5, l.mergeSort fun x y => decide (x ≤ y), ⟨List.mergeSort_perm _ _, ?_⟩, ?_, ?_⟩
    · have := List.pairwise_mergeSort (le := fun x y : Int => decide (x ≤ y)) (fun a b c h1 h2 => by simp only [decide_eq_true_eq] at *; exact Int.le_trans h1 h2) (fun a b => by simp only [Bool.or_eq_true, decide_eq_true_eq]; exact Int.le_total a b) l
      exact this.imp fun h => of_decide_eq_true h
    · rw [hw, flat_ic]
      exact ownsRow_sortedI hlen hb hq h1 h2 h3
    · rw [hw]; exact grownBy_sortedI _
theorem asc_of {l l' : List Int} (h : SortedI l l') (hn : l.Nodup) : l'.Pairwise (· < ·) := by
  have hn' : l'.Nodup := h.1.nodup_iff.2 hn
  exact (h.2.and hn').imp fun h1 => by
    rcases Int.lt_or_eq_of_le h1.1 with h2 | h2
    · exact h2
    · exact absurd h2 h1.2
/-! ### groups -/
def grp {κ : Type} [DecidableEq κ] (key : Spot → Option κ) (D : List Spot) (p : κ) : List Int := (D.filter fun s => decide (key s = some p)).map (·.flow)
theorem grp_snoc {κ : Type} [DecidableEq κ] {key : Spot → Option κ} {D : List Spot} {s : Spot} {p : κ} (h : key s = some p) : grp key (D ++ [s]) = addS (grp key D) p s.flow := by
  funext z
  unfold grp addS
  rw [List.filter_append, List.map_append]
  by_cases e : z = p
  · subst e; simp [h]
  · have : ¬ key s = some z := by rw [h]; intro h2; exact e (Option.some.inj h2).symm
    simp [e, this]
theorem grp_skip {κ : Type} [DecidableEq κ] {key : Spot → Option κ} {D : List Spot} {s : Spot} (h : key s = none) : grp key (D ++ [s]) = grp key D := by
  funext z
  unfold grp
  rw [List.filter_append, List.map_append]
  simp [h]
theorem grp_len {κ : Type} [DecidableEq κ] (key : Spot → Option κ) (D : List Spot) (p : κ) : (grp key D p).length ≤ D.length := by
  unfold grp
  rw [List.length_map]
  exact List.length_filter_le _ _
theorem mem_grp {κ : Type} [DecidableEq κ] {key : Spot → Option κ} {D : List Spot} {p : κ} {f : Int} : f ∈ grp key D p ↔ ∃ s ∈ D, key s = some p ∧ s.flow = f := by
  unfold grp
  rw [List.mem_map]
  constructor
  · rintro ⟨s, hs, h⟩
    have := List.mem_filter.1 hs
    exact ⟨s, this.1, of_decide_eq_true this.2, h⟩
  · rintro ⟨s, h1, h2, h3⟩
    exact ⟨s, List.mem_filter.2 ⟨h1, decide_eq_true h2⟩, h3⟩
theorem grp_nodup {κ : Type} [DecidableEq κ] {key : Spot → Option κ} {ttl : κ → Int} (hk : ∀ s p, key s = some p → s.ttl = ttl p) {D : List Spot} (hD : D.Nodup) (p : κ) : (grp key D p).Nodup := by
  unfold grp
  have h1 : (D.filter fun s => decide (key s = some p)).Nodup := hD.sublist (List.filter_sublist)
  refine List.pairwise_map.2 (h1.imp_of_mem ?_)
  intro a b ha hb hab hf
  have ea := hk a p (of_decide_eq_true (List.mem_filter.1 ha).2)
  have eb := hk b p (of_decide_eq_true (List.mem_filter.1 hb).2)
  obtain ⟨fa, ta⟩ := a
  obtain ⟨fb, tb⟩ := b
  simp only at hf ea eb
  exact hab (by rw [hf, ea, eb])
/-! ### keys -/
def placeK (fa : Spot → Option Int) (s : Spot) : Option Place := some ⟨s.ttl, (fa s).getD 0⟩
def stepKey (fa fs : Spot → Option Int) (s : Spot) : Option Stp := if hasF fs s.flow (s.ttl + 1) then some ⟨s.ttl, (fa s).getD 0, (fa ⟨s.flow, s.ttl + 1⟩).getD 0⟩ else none
theorem placeK_ttl {fa : Spot → Option Int} (s : Spot) (p : Place) (h : placeK fa s = some p) : s.ttl = p.ttl := by unfold placeK at h; cases h; rfl
theorem stepKey_ttl {fa fs : Spot → Option Int} (s : Spot) (p : Stp) (h : stepKey fa fs s = some p) : s.ttl = p.ttl := by
  unfold stepKey at h
  split at h
  · cases h; rfl
  · cases h
/-! ### ranges of what is known -/
theorem lookA_rng {e : Int} : ∀ (l : List Rs) (p : (Spot → Option Int) × (Spot → Option Int)), (∀ r ∈ l, r.Ok) → (∀ s, 0 ≤ (p.1 s).getD 0 ∧ (p.1 s).getD 0 ≤ 4294967295) → ∀ s, 0 ≤ ((l.foldl (stepK e) p).1 s).getD 0 ∧ ((l.foldl (stepK e) p).1 s).getD 0 ≤ 4294967295
  | [], p, _, h, s => h s
  | r :: l, p, hok, h, s => by
    refine lookA_rng l (stepK e p r) (fun r' hr => hok r' (List.mem_cons_of_mem _ hr)) (fun s' => ?_) s
    have hr := hok r List.mem_cons_self
    have hu : ∀ (f : Spot → Option Int) (a : Spot) (v : Int), (0 ≤ (f s').getD 0 ∧ (f s').getD 0 ≤ 4294967295) → 0 ≤ v → v ≤ 4294967295 → 0 ≤ ((updF f a v) s').getD 0 ∧ ((updF f a v) s').getD 0 ≤ 4294967295 := fun f a v h1 h2 h3 => by
      unfold updF
      split
      · exact ⟨h2, h3⟩
      · exact h1
    unfold stepK
    split
    · split
      · exact h s'
      · split
        · exact hu _ _ _ (h s') hr.2.2.1 hr.2.2.2
        · split
          · exact hu _ _ _ (h s') (by decide) (by decide)
          · exact h s'
    · exact h s'
theorem lookS_rng {l : List Rs} (hok : ∀ r ∈ l, r.Ok) (s : Spot) : 0 ≤ ((lookS l).1 s).getD 0 ∧ ((lookS l).1 s).getD 0 ≤ 4294967295 := lookA_rng l _ hok (fun s => by show (0 : Int) ≤ 0 ∧ (0 : Int) ≤ 4294967295; decide) s
theorem wfA {x : Int} (h : 0 ≤ x ∧ x ≤ 4294967295) : (Lit.int .u32 x).wf = true := by simp [Lit.wf, IntKind.min, IntKind.max, IntKind.signed, IntKind.bits]; omega
theorem wfI {x : Int} (h : -1000000 ≤ x ∧ x ≤ 1000000) : (Lit.int .i64 x).wf = true := by simp [Lit.wf, IntKind.min, IntKind.max, IntKind.signed, IntKind.bits]; omega
theorem spots_le {l : List Rs} {D : List Spot} (hn : D.Nodup) (h : ∀ s ∈ D, (lookS l).2 s ≠ none) : D.length ≤ l.length := by
  have := nodup_len (F := l.map spotR) hn fun s hs => by
    rcases lookS_mem l _ s (h s hs) with h2 | ⟨r, h2, _, h4⟩
    · exact absurd rfl h2
    · exact List.mem_map.2 ⟨r, h2, h4⟩
  rwa [List.length_map] at this
theorem known_rng {l : List Rs} {s : Spot} (h : (lookS l).2 s ≠ none) : 0 ≤ s.flow ∧ s.flow ≤ 1023 ∧ 1 ≤ s.ttl ∧ s.ttl ≤ 255 := by
  rcases lookS_mem l _ s h with h2 | ⟨r, h2, h3, h4⟩
  · exact absurd rfl h2
  · have := use_rng h3
    rw [← h4]
    exact this
theorem upd_twice {κ β : Type} [DecidableEq κ] (f : κ → Option β) (a : κ) (u v : β) : (fun x => if x = a then some v else (if x = a then some u else f x)) = fun x => if x = a then some v else f x := by
 funext x
 by_cases h : x = a <;> simp [h]
section
variable {κ κ' α : Type} {HG : List (κ × Sg α)} {EG : List (κ' × Sg α)} {k : Nat} {s s' : Sg α}
theorem app_l {X Y : List (Sg α)} {k : Nat} {s : Sg α} (h : X[k]? = some s) : (X ++ Y)[k]? = some s := by
 rw [List.getElem?_append_left (List.getElem?_eq_some_iff.1 h).1]; exact h
theorem app_r {HG : List (κ × Sg α)} {Y : List (Sg α)} {k : Nat} {s : Sg α} (h : Y[k]? = some s) : (HG.map (·.2) ++ Y)[HG.length + k]? = some s := by
 rw [List.getElem?_append_right (by rw [List.length_map]; omega), List.length_map, Nat.add_sub_cancel_left]; exact h
theorem perm_oldL {p : κ} (hk : HG[k]? = some (p, s)) : (s' :: (HG.map (·.2) ++ EG.map (·.2)).eraseIdx k).Perm ((HG.set k (p, s')).map (·.2) ++ EG.map (·.2)) := by
 have hlt := (List.getElem?_eq_some_iff.1 hk).1
 have : (HG.set k (p, s')).map (·.2) ++ EG.map (·.2) = (HG.map (·.2) ++ EG.map (·.2)).set k s' := by
  rw [List.map_set, List.set_append_left _ _ (by rw [List.length_map]; exact hlt)]
 rw [this]
 exact (set_perm (by rw [List.length_append, List.length_map]; omega) s').symm
theorem perm_newL {p : κ} : (s' :: (HG.map (·.2) ++ EG.map (·.2))).Perm ((HG ++ [(p, s')]).map (·.2) ++ EG.map (·.2)) := by
 rw [List.map_append, List.append_assoc]
 exact List.perm_middle.symm
theorem perm_oldR {p : κ'} (hk : EG[k]? = some (p, s)) : (s' :: (HG.map (·.2) ++ EG.map (·.2)).eraseIdx (HG.length + k)).Perm (HG.map (·.2) ++ (EG.set k (p, s')).map (·.2)) := by
 have hlt := (List.getElem?_eq_some_iff.1 hk).1
 have : HG.map (·.2) ++ (EG.set k (p, s')).map (·.2) = (HG.map (·.2) ++ EG.map (·.2)).set (HG.length + k) s' := by
  rw [List.map_set, List.set_append_right _ _ (by rw [List.length_map]; omega), List.length_map, Nat.add_sub_cancel_left]
 rw [this]
 exact (set_perm (by rw [List.length_append, List.length_map, List.length_map]; omega) s').symm
theorem perm_newR {p : κ'} : (s' :: (HG.map (·.2) ++ EG.map (·.2))).Perm (HG.map (·.2) ++ (EG ++ [(p, s')]).map (·.2)) := by
 rw [List.map_append, ← List.append_assoc]
 exact (List.perm_append_singleton s' _).symm
theorem ne_set {p : κ} (h : ∀ x ∈ HG, x.2.l ≠ []) (hs : s'.l ≠ []) : ∀ x ∈ HG.set k (p, s'), x.2.l ≠ [] := fun x hx => by
 rcases List.mem_or_eq_of_mem_set hx with h1 | h1
 ·exact h x h1
 ·rw [h1]; exact hs
theorem ne_new {p : κ} (h : ∀ x ∈ HG, x.2.l ≠ []) (hs : s'.l ≠ []) : ∀ x ∈ HG ++ [(p, s')], x.2.l ≠ [] := fun x hx => by
 rcases List.mem_append.1 hx with h1 | h1
 ·exact h x h1
 ·rw [List.mem_singleton.1 h1]; exact hs
end
theorem stepKey_none {fa fs : Spot → Option Int} {s : Spot} (h : hasF fs s.flow (s.ttl + 1) = false) : stepKey fa fs s = none := by unfold stepKey; rw [h]; rfl
theorem stepKey_some {fa fs : Spot → Option Int} {s : Spot} (h : hasF fs s.flow (s.ttl + 1) = true) : stepKey fa fs s = some ⟨s.ttl, (fa s).getD 0, (fa ⟨s.flow, s.ttl + 1⟩).getD 0⟩ := by unfold stepKey; rw [h]; rfl
structure Mp where
 tr : Trc
 en : Int
 hops : Sg Hpx
 edges : Sg Ed
def Mp.cells (m : Mp) : List Value := [.int .i64 m.tr.v, .int .u32 m.tr.dst, .int .i64 m.tr.proto, .int .i64 m.en, .slice m.hops.A m.hops.l.length m.hops.c, .slice m.edges.A m.edges.l.length m.edges.c]
def Mp.zero : Mp := ⟨Trc.zero, 0, ⟨none, 0, []⟩, ⟨none, 0, []⟩⟩
def Mp.pcs (m : Mp) : List Pc := [.row (.slice m.hops.A m.hops.l.length m.hops.c) 50 3 m.hops.l.length (flat Hpx.cells m.hops.l), .row (.slice m.edges.A m.edges.l.length m.edges.c) 63 4 m.edges.l.length (flat Ed.cells m.edges.l)] ++ segG 3 1 (flat (ic .i64)) (m.hops.l.map (·.fl) ++ m.edges.l.map (·.fl))
def hpk (h : Hpx) : List Int := [h.ttl, h.addr]
def edk (h : Ed) : List Int := [h.ttl, h.frm, h.to_]
def HopsOk (fa fs : Spot → Option Int) (hs : List Hpx) : Prop := AscK hpk hs ∧ (∀ h ∈ hs, h.fl.l.Pairwise (· < ·) ∧ h.fl.l ≠ []) ∧ ∀ t a f, (∃ h ∈ hs, h.ttl = t ∧ h.addr = a ∧ f ∈ h.fl.l) ↔ (fs ⟨f, t⟩ ≠ none ∧ (fa ⟨f, t⟩).getD 0 = a)
def EdgesOk (fa fs : Spot → Option Int) (es : List Ed) : Prop := AscK edk es ∧ (∀ h ∈ es, h.fl.l.Pairwise (· < ·) ∧ h.fl.l ≠ []) ∧ ∀ t a b f, (∃ h ∈ es, h.ttl = t ∧ h.frm = a ∧ h.to_ = b ∧ f ∈ h.fl.l) ↔ (fs ⟨f, t⟩ ≠ none ∧ hasF fs f (t + 1) = true ∧ (fa ⟨f, t⟩).getD 0 = a ∧ (fa ⟨f, t + 1⟩).getD 0 = b)
def GraphOk (l : List Rs) (m : Mp) : Prop := m.tr = trcR (l.headD Rs.zero) ∧ m.en = endT l ∧ HopsOk (lookS l).1 (lookS l).2 m.hops.l ∧ EdgesOk (lookS l).1 (lookS l).2 m.edges.l
def BuildOk (l : List Rs) (m : Mp) (e : Int) : Prop := ErrOk l (lookS l).2 e ∧ ((e ≠ 0 ∨ l = []) → m = Mp.zero) ∧ (e = 0 → l ≠ [] → GraphOk l m)
/-! ### rows sorted -/
def srtI (l : List Int) : List Int := l.mergeSort fun x y => decide (x ≤ y)
theorem srt_len (l : List Int) : (srtI l).length = l.length := List.length_mergeSort l
theorem srt_ok (l : List Int) : SortedI l (srtI l) := ⟨List.mergeSort_perm _ _, by
 have := List.pairwise_mergeSort (le := fun x y : Int => decide (x ≤ y)) (fun a b c h1 h2 => by simp only [decide_eq_true_eq] at *; exact Int.le_trans h1 h2) (fun a b => by simp only [Bool.or_eq_true, decide_eq_true_eq]; exact Int.le_total a b) l
 exact this.imp fun h => of_decide_eq_true h⟩
theorem sortedI_uniq : ∀ {a b : List Int}, a.Perm b → a.Pairwise (· ≤ ·) → b.Pairwise (· ≤ ·) → a = b
 | [], b, h, _, _ => (List.nil_perm.1 h).symm
 | x :: a, [], h, _, _ => absurd h (by intro h2; have := h2.length_eq; cases this)
 | x :: a, y :: b, h, ha, hb => by
  obtain ⟨a1, a2⟩ := List.pairwise_cons.1 ha
  obtain ⟨b1, b2⟩ := List.pairwise_cons.1 hb
  have e : x = y := by
   have h1 : x ≤ y := by
    rcases List.mem_cons.1 (h.mem_iff.2 (List.mem_cons_self (a := y) (l := b))) with e | e
    ·omega
    ·exact a1 y e
   have h2 : y ≤ x := by
    rcases List.mem_cons.1 (h.mem_iff.1 (List.mem_cons_self (a := x) (l := a))) with e | e
    ·omega
    ·exact b1 x e
   omega
  subst e
  rw [sortedI_uniq (List.Perm.cons_inv h) a2 b2]
theorem SortedI.eq {l l' : List Int} (h : SortedI l l') : l' = srtI l := sortedI_uniq (h.1.trans (srt_ok l).1.symm) h.2 (srt_ok l).2
theorem mem_srt {l : List Int} {x : Int} : x ∈ srtI l ↔ x ∈ l := (srt_ok l).1.mem_iff
def srtG (s : Sg Int) : Sg Int := ⟨s.A, s.c, srtI s.l⟩
def kvG {κ : Type} (x : κ × Sg Int) : κ × Value := (x.1, x.2.val)
def hopG (x : Place × Sg Int) : Hpx := ⟨x.1.ttl, x.1.addr, srtG x.2⟩
def edgG (x : Stp × Sg Int) : Ed := ⟨x.1.ttl, x.1.frm, x.1.to_, srtG x.2⟩
section
variable {κ : Type} [DecidableEq κ] {HG Gd Gl : List (κ × Sg Int)} {fm : κ → Option Value} {a : κ} {v : Value} {s : Sg Int}
theorem mapSG_val (hf : ∀ x, fm x = (HG.find? fun p => decide (p.1 = x)).map (·.2.val)) (h : fm a = some v) : ∃ s, (a, s) ∈ HG ∧ v = .slice s.A s.l.length s.c := by
 rw [hf] at h
 obtain ⟨p, hp, rfl⟩ := Option.map_eq_some_iff.1 h
 obtain ⟨k, s, h1, rfl⟩ := find_at hp
 exact ⟨s, List.mem_of_getElem? h1, rfl⟩
theorem val_mapSG (nd : (HG.map (·.1)).Nodup) (hf : ∀ x, fm x = (HG.find? fun p => decide (p.1 = x)).map (·.2.val)) (h : (a, s) ∈ HG) : fm a = some s.val := by
 rw [hf, (find_key nd).2 ⟨h, rfl⟩]; rfl
theorem getS_mem (nd : (HG.map (·.1)).Nodup) (h : (a, s) ∈ HG) : getS HG a = s := getS_of ((find_key nd).2 ⟨h, rfl⟩)
theorem left_of (hp : HG.Perm (Gd ++ Gl)) (hn : a ∉ (Gd.map kvG).map (·.1)) (hs : (a, s) ∈ HG) : (a, s) ∈ Gl := by
 rcases List.mem_append.1 (hp.mem_iff.1 hs) with h | h
 ·exact absurd (List.mem_map.2 ⟨kvG (a, s), List.mem_map.2 ⟨(a, s), h, rfl⟩, rfl⟩) hn
 ·exact h
theorem none_left (nd : (HG.map (·.1)).Nodup) (hp : HG.Perm (Gd ++ Gl)) (hf : ∀ x, fm x = (HG.find? fun p => decide (p.1 = x)).map (·.2.val)) (hall : ∀ a v, fm a = some v → (a, v) ∈ Gd.map kvG) : Gl = [] := by
 refine List.eq_nil_iff_forall_not_mem.2 fun x hx => ?_
 have h1 := hall x.1 x.2.val (val_mapSG nd hf (hp.mem_iff.2 (List.mem_append.2 (.inr hx))))
 obtain ⟨y, hy, e⟩ := List.mem_map.1 h1
 have e1 : y.1 = x.1 := congrArg (Prod.fst : κ × Value → κ) e
 have h2 : ((Gd ++ Gl).map (·.1)).Nodup := (hp.map _).nodup_iff.1 nd
 rw [List.map_append] at h2
 exact (List.nodup_append.1 h2).2.2 y.1 (List.mem_map.2 ⟨y, hy, rfl⟩) x.1 (List.mem_map.2 ⟨x, hx, rfl⟩) e1
theorem groups_le {key : Spot → Option κ} {D : List Spot} {enc : κ → Value} {Ok : κ → Prop} {ob : Obj} (h : MapSG enc Ok ob HG (grp key D)) (hn : ∀ x ∈ HG, x.2.l ≠ []) : HG.length ≤ D.length := by
 have h1 : (HG.map fun x => some x.1).Nodup := by
  refine List.pairwise_map.2 ((List.pairwise_map.1 h.nd).imp fun hne hh => hne ?_)
  exact Option.some.inj hh
 have := nodup_len (F := D.map key) h1 fun y hy => by
  obtain ⟨x, hx, rfl⟩ := List.mem_map.1 hy
  have h2 := h.sp x.1
  rw [getS_mem h.nd hx] at h2
  obtain ⟨f, hf⟩ := List.exists_mem_of_ne_nil _ (hn x hx)
  rw [h2] at hf
  obtain ⟨s, hs, hk, _⟩ := mem_grp.1 hf
  exact List.mem_map.2 ⟨s, hs, hk⟩
 rwa [List.length_map, List.length_map] at this
theorem app_next {E : List (Sg Int)} {f : κ × Sg Int → Sg Int} {k : Nat} {x : κ × Sg Int} (hk : Gl[k]? = some x) : (Gd.map f ++ Gl.map (·.2) ++ E)[Gd.length + k]? = some x.2 := by
 have hlt := (List.getElem?_eq_some_iff.1 hk).1
 rw [List.append_assoc, List.getElem?_append_right (by rw [List.length_map]; omega), List.length_map, Nat.add_sub_cancel_left, List.getElem?_append_left (by rw [List.length_map]; exact hlt), List.getElem?_map, hk]
 rfl
theorem perm_next {E : List (Sg Int)} {f : κ × Sg Int → Sg Int} {k : Nat} {x : κ × Sg Int} (hk : Gl[k]? = some x) : (f x :: (Gd.map f ++ Gl.map (·.2) ++ E).eraseIdx (Gd.length + k)).Perm ((Gd ++ [x]).map f ++ (Gl.eraseIdx k).map (·.2) ++ E) := by
 have h1 : (x.2 :: (Gd.map f ++ Gl.map (·.2) ++ E).eraseIdx (Gd.length + k)).Perm (Gd.map f ++ Gl.map (·.2) ++ E) := (erase_perm (app_next hk)).symm
 have h2 : (Gl.map (·.2)).Perm (x.2 :: (Gl.eraseIdx k).map (·.2)) := (erase_perm hk).map (·.2)
 have h3 : (Gd.map f ++ Gl.map (·.2) ++ E).Perm (x.2 :: (Gd.map f ++ (Gl.eraseIdx k).map (·.2) ++ E)) := by
  refine ((h2.append_left (Gd.map f)).append_right E).trans ?_
  rw [List.append_assoc, List.append_assoc]
  exact List.perm_middle
 have h4 := List.Perm.cons_inv (h1.trans h3)
 refine (h4.cons (f x)).trans ?_
 rw [List.map_append, List.append_assoc, List.append_assoc, List.append_assoc]
 exact List.perm_middle.symm
theorem next_perm {k : Nat} {x : κ × Sg Int} (hp : HG.Perm (Gd ++ Gl)) (hk : Gl[k]? = some x) : HG.Perm (Gd ++ [x] ++ Gl.eraseIdx k) := by
 refine hp.trans ?_
 rw [List.append_assoc]
 exact (erase_perm hk).append_left Gd
end
theorem perm_turn {X Y : List (Sg Int)} : ((X ++ []) ++ Y).Perm (([] ++ Y) ++ X) := by
 rw [List.append_nil, List.nil_append]; exact List.perm_append_comm
theorem fl_perm {Gd : List (Place × Sg Int)} {Ed' : List (Stp × Sg Int)} {Hs hs : List Hpx} {Es es : List Ed} (h1 : hs.Perm Hs) (h2 : es.Perm Es) (h3 : Hs = Gd.map hopG) (h4 : Es = Ed'.map edgG) :
  (Ed'.map (fun x : Stp × Sg Int => srtG x.2) ++ [] ++ Gd.map (fun x : Place × Sg Int => srtG x.2)).Perm (hs.map Hpx.fl ++ es.map Ed.fl) := by
 rw [List.append_nil]
 refine List.perm_append_comm.trans (List.Perm.append ?_ ?_)
 ·have := (h1.map (·.fl)).symm
  rw [h3, List.map_map] at this
  exact this
 ·have := (h2.map (·.fl)).symm
  rw [h4, List.map_map] at this
  exact this
theorem headD_at {l : List Rs} {x : Rs} (h : l[0]? = some x) : l.headD Rs.zero = x := by
 cases l with
 | nil => cases h
 | cons a l => cases h; rfl
/-! ### the answer -/
theorem sorted_asc {α : Type} {key : α → List Int} {n : Nat} (hk : ∀ x, (key x).length = n) {l l' : List α} (h : l'.Pairwise fun x y => ¬ lexI (key y) (key x) < 0) (hp : l'.Perm l) (hn : l.Pairwise fun x y => key x ≠ key y) : AscK key l' := by
 have hn' : l'.Pairwise fun x y => key x ≠ key y := (hp.pairwise_iff (fun hab hba => hab hba.symm)).2 hn
 refine (h.and hn').imp fun {x y} hxy => ?_
 have e2 := @posK _ key n hk x y
 have e3 := @lexI_zero (key x) (key y) (by rw [hk, hk])
 have h1 := hxy.1
 have h2 : lexI (key x) (key y) ≠ 0 := fun e => hxy.2 (e3.1 e)
 omega
theorem hops_ok {fa fs : Spot → Option Int} {D : List Spot} {HG Gd : List (Place × Sg Int)} {enc : Place → Value} {ob : Obj} {Hs hs : List Hpx} (hD : D.Nodup) (hm : ∀ s, s ∈ D ↔ fs s ≠ none) (h : MapSG enc Place.Ok ob HG (grp (placeK fa) D)) (hn : ∀ x ∈ HG, x.2.l ≠ [])
  (hp : HG.Perm (Gd ++ [])) (hH : Hs = Gd.map hopG) (hS : Sorted cmpH Hs hs) : HopsOk fa fs hs := by
 rw [List.append_nil] at hp
 have hmem : ∀ z, z ∈ hs ↔ ∃ x ∈ HG, hopG x = z := fun z => by
  rw [hS.1.mem_iff, hH, List.mem_map]
  exact ⟨fun ⟨x, h1, h2⟩ => ⟨x, hp.mem_iff.2 h1, h2⟩, fun ⟨x, h1, h2⟩ => ⟨x, hp.mem_iff.1 h1, h2⟩⟩
 have hl : ∀ x ∈ HG, x.2.l = grp (placeK fa) D x.1 := fun x hx => by rw [← h.sp x.1, getS_mem h.nd hx]
 refine ⟨sorted_asc (key := hpk) (n := 2) (fun _ => rfl) hS.2 hS.1 ?_, fun z hz => ?_, fun t a f => ?_⟩
 ·rw [hH]
  refine List.pairwise_map.2 ((List.pairwise_map.1 ((hp.map (·.1)).nodup_iff.1 h.nd)).imp fun {x y} hne hk => hne ?_)
  obtain ⟨⟨t1, a1⟩, _⟩ := x
  obtain ⟨⟨t2, a2⟩, _⟩ := y
  simp only [hpk, hopG, List.cons.injEq, and_true] at hk
  rw [hk.1, hk.2]
 ·obtain ⟨x, hx, rfl⟩ := (hmem z).1 hz
  refine ⟨asc_of (srt_ok _) ?_, fun e => hn x hx ?_⟩
  ·show x.2.l.Nodup
   rw [hl x hx]; exact grp_nodup placeK_ttl hD _
  ·have : (srtI x.2.l).length = 0 := by show (hopG x).fl.l.length = 0; rw [e]; rfl
   rw [srt_len] at this
   exact List.eq_nil_of_length_eq_zero this
 ·constructor
  ·rintro ⟨z, hz, h1, h2, h3⟩
   obtain ⟨x, hx, rfl⟩ := (hmem z).1 hz
   have h4 : f ∈ x.2.l := mem_srt.1 h3
   rw [hl x hx] at h4
   obtain ⟨s, hs, hk, rfl⟩ := mem_grp.1 h4
   unfold placeK at hk
   have hk2 := Option.some.inj hk
   obtain ⟨⟨t1, a1⟩, _⟩ := x
   cases hk2
   cases h1
   cases h2
   exact ⟨(hm s).1 hs, rfl⟩
  ·rintro ⟨h1, h2⟩
   have hs : (⟨f, t⟩ : Spot) ∈ D := (hm _).2 h1
   have hf : f ∈ grp (placeK fa) D ⟨t, a⟩ := mem_grp.2 ⟨⟨f, t⟩, hs, by unfold placeK; rw [h2], rfl⟩
   rw [← h.sp] at hf
   rcases hfi : HG.find? (fun p => decide (p.1 = (⟨t, a⟩ : Place))) with _ | p
   ·unfold getS at hf; rw [hfi] at hf; cases hf
   ·obtain ⟨k, s, hk, rfl⟩ := find_at hfi
    rw [getS_of hfi] at hf
    exact ⟨hopG (⟨t, a⟩, s), (hmem _).2 ⟨_, List.mem_of_getElem? hk, rfl⟩, rfl, rfl, mem_srt.2 hf⟩
theorem edges_ok {fa fs : Spot → Option Int} {D : List Spot} {HG Gd : List (Stp × Sg Int)} {enc : Stp → Value} {ob : Obj} {Hs hs : List Ed} (hD : D.Nodup) (hm : ∀ s, s ∈ D ↔ fs s ≠ none) (h : MapSG enc Stp.Ok ob HG (grp (stepKey fa fs) D)) (hn : ∀ x ∈ HG, x.2.l ≠ [])
  (hp : HG.Perm (Gd ++ [])) (hH : Hs = Gd.map edgG) (hS : Sorted cmpE Hs hs) : EdgesOk fa fs hs := by
 rw [List.append_nil] at hp
 have hmem : ∀ z, z ∈ hs ↔ ∃ x ∈ HG, edgG x = z := fun z => by
  rw [hS.1.mem_iff, hH, List.mem_map]
  exact ⟨fun ⟨x, h1, h2⟩ => ⟨x, hp.mem_iff.2 h1, h2⟩, fun ⟨x, h1, h2⟩ => ⟨x, hp.mem_iff.1 h1, h2⟩⟩
 have hl : ∀ x ∈ HG, x.2.l = grp (stepKey fa fs) D x.1 := fun x hx => by rw [← h.sp x.1, getS_mem h.nd hx]
 refine ⟨sorted_asc (key := edk) (n := 3) (fun _ => rfl) hS.2 hS.1 ?_, fun z hz => ?_, fun t a b f => ?_⟩
 ·rw [hH]
  refine List.pairwise_map.2 ((List.pairwise_map.1 ((hp.map (·.1)).nodup_iff.1 h.nd)).imp fun {x y} hne hk => hne ?_)
  obtain ⟨⟨t1, a1, b1⟩, _⟩ := x
  obtain ⟨⟨t2, a2, b2⟩, _⟩ := y
  simp only [edk, edgG, List.cons.injEq, and_true] at hk
  rw [hk.1, hk.2.1, hk.2.2]
 ·obtain ⟨x, hx, rfl⟩ := (hmem z).1 hz
  refine ⟨asc_of (srt_ok _) ?_, fun e => hn x hx ?_⟩
  ·show x.2.l.Nodup
   rw [hl x hx]; exact grp_nodup stepKey_ttl hD _
  ·have : (srtI x.2.l).length = 0 := by show (edgG x).fl.l.length = 0; rw [e]; rfl
   rw [srt_len] at this
   exact List.eq_nil_of_length_eq_zero this
 ·constructor
  ·rintro ⟨z, hz, h1, h2, h3, h4⟩
   obtain ⟨x, hx, rfl⟩ := (hmem z).1 hz
   have h5 : f ∈ x.2.l := mem_srt.1 h4
   rw [hl x hx] at h5
   obtain ⟨s, hs, hk, rfl⟩ := mem_grp.1 h5
   unfold stepKey at hk
   split at hk
   ·rename_i hh
    have hk2 := Option.some.inj hk
    obtain ⟨⟨t1, a1, b1⟩, _⟩ := x
    cases hk2
    cases h1
    cases h2
    cases h3
    exact ⟨(hm s).1 hs, hh, rfl, rfl⟩
   ·cases hk
  ·rintro ⟨h1, h2, h3, h4⟩
   have hs : (⟨f, t⟩ : Spot) ∈ D := (hm _).2 h1
   have hf : f ∈ grp (stepKey fa fs) D ⟨t, a, b⟩ := mem_grp.2 ⟨⟨f, t⟩, hs, by rw [stepKey_some h2]; show some (Stp.mk _ _ _) = _; rw [h3, h4], rfl⟩
   rw [← h.sp] at hf
   rcases hfi : HG.find? (fun p => decide (p.1 = (⟨t, a, b⟩ : Stp))) with _ | p
   ·unfold getS at hf; rw [hfi] at hf; cases hf
   ·obtain ⟨k, s, hk, rfl⟩ := find_at hfi
    rw [getS_of hfi] at hf
    exact ⟨edgG (⟨t, a, b⟩, s), (hmem _).2 ⟨_, List.mem_of_getElem? hk, rfl⟩, rfl, rfl, rfl, mem_srt.2 hf⟩
set_option maxRecDepth 20000
theorem pbdzv36 (w : World) : (zeroValue 36).run Tryz.prog w = .ok (.agg #[.int .i64 0, .int .u32 0, .int .i64 0, .int .i64 0, .slice none 0 0, .slice none 0 0]) w := rfl
theorem pbdbld36_531  (w : World) : (Instr.build 36 #[]).run Tryz.prog w = .ok (.agg #[.int .i64 0, .int .u32 0, .int .i64 0, .int .i64 0, .slice none 0 0, .slice none 0 0]) w := by kernel_rfl
theorem pbdsz36 (w : World) : (sizeOf 36).run Tryz.prog w = .ok 6 w := rfl
theorem pbdone_i64u32i64i64ss {a0 : Int} {a1 : Int} {a2 : Int} {a3 : Int} {a4 : Option Addr} {n4 c4 : Nat} {a5 : Option Addr} {n5 c5 : Nat} : ∀ u ∈ [(.int .i64 a0 : Value), .int .u32 a1, .int .i64 a2, .int .i64 a3, .slice a4 n4 c4, .slice a5 n5 c5], u.oneCell' = true := by
 intro u hu
 simp only [List.mem_cons, List.not_mem_nil, or_false] at hu
 rcases hu with rfl | rfl | rfl | rfl | rfl | rfl <;> rfl
theorem pbdbld36_98406 (a0_0 : Int) (a0_1 : Int) (a0_2 : Int) (a1_0 : Int) (w : World) : (Instr.build 36 #[(0, .agg #[.int .i64 a0_0, .int .u32 a0_1, .int .i64 a0_2]), (1, .int .i64 a1_0)]).run Tryz.prog w = .ok (.agg #[.int .i64 a0_0, .int .u32 a0_1, .int .i64 a0_2, .int .i64 a1_0, .slice none 0 0, .slice none 0 0]) w := by kernel_rfl
theorem pbdfld36_2 : FA Tryz.prog 36 2 4 := fun g o w => by kernel_rfl
theorem pbdag33 (w : World) : (isAgg 33).run Tryz.prog w = .ok false w := rfl
theorem pbdfld36_3 : FA Tryz.prog 36 3 5 := fun g o w => by kernel_rfl
theorem pbdag34 (w : World) : (isAgg 34).run Tryz.prog w = .ok false w := rfl
theorem pbdag36 (w : World) : (isAgg 36).run Tryz.prog w = .ok true w := rfl
theorem pbdzv102 (w : World) : (zeroValue 102).run Tryz.prog w = .ok (.agg #[.int .i64 0, .int .u32 0, .int .u32 0]) w := rfl
theorem pbdsz102 (w : World) : (sizeOf 102).run Tryz.prog w = .ok 3 w := rfl
theorem pbdfld102_0 : FA Tryz.prog 102 0 0 := fun g o w => by kernel_rfl
theorem pbdfld102_1 : FA Tryz.prog 102 1 1 := fun g o w => by kernel_rfl
theorem pbdfld102_2 : FA Tryz.prog 102 2 2 := fun g o w => by kernel_rfl
theorem pbdbld63_39859 (a0_0 : Int) (a1_0 : Int) (a2_0 : Int) (a3_0 : Option Addr) (a3_0n a3_0c : Nat) (w : World) : (Instr.build 63 #[(0, .int .i64 a0_0), (1, .int .u32 a1_0), (2, .int .u32 a2_0), (3, .slice a3_0 a3_0n a3_0c)]).run Tryz.prog w = .ok (.agg #[.int .i64 a0_0, .int .u32 a1_0, .int .u32 a2_0, .slice a3_0 a3_0n a3_0c]) w := by kernel_rfl
theorem pbdbs34_1_7406 (a0_0 : Int) (a0_1 : Int) (a0_2 : Int) (a0_3 : Option Addr) (a0_3n a0_3c : Nat) (w : World) : (Instr.buildSlice 34 1 #[(0, .agg #[.int .i64 a0_0, .int .u32 a0_1, .int .u32 a0_2, .slice a0_3 a0_3n a0_3c])]).run Tryz.prog w = .ok (.slice (some ⟨w.heap.size, 0, none⟩) 1 1) (w.alloc (.cells [.int .i64 a0_0, .int .u32 a0_1, .int .u32 a0_2, .slice a0_3 a0_3n a0_3c].toArray 63)) := by kernel_rfl
theorem pbdel34 : Elem Tryz.prog 34 63 4 40 := Elem.mk' Tryz.underlying34 (z := .agg #[.int .i64 0, .int .u32 0, .int .u32 0, .slice none 0 0]) (by kernel_rfl) rfl (by omega) (by omega)
theorem pbdsz34 (w : World) : (sizeOf 34).run Tryz.prog w = .ok 1 w := rfl
theorem pbdone_s {a0 : Option Addr} {n0 c0 : Nat} : ∀ u ∈ [(.slice a0 n0 c0 : Value)], u.oneCell' = true := by
 intro u hu
 rw [List.mem_singleton] at hu
 subst hu; rfl
theorem pbdzv99 (w : World) : (zeroValue 99).run Tryz.prog w = .ok (.agg #[.int .i64 0, .int .u32 0]) w := rfl
theorem pbdsz99 (w : World) : (sizeOf 99).run Tryz.prog w = .ok 2 w := rfl
theorem pbdfld99_0 : FA Tryz.prog 99 0 0 := fun g o w => by kernel_rfl
theorem pbdfld99_1 : FA Tryz.prog 99 1 1 := fun g o w => by kernel_rfl
theorem pbdbld50_71348 (a0_0 : Int) (a1_0 : Int) (a2_0 : Option Addr) (a2_0n a2_0c : Nat) (w : World) : (Instr.build 50 #[(0, .int .i64 a0_0), (1, .int .u32 a1_0), (2, .slice a2_0 a2_0n a2_0c)]).run Tryz.prog w = .ok (.agg #[.int .i64 a0_0, .int .u32 a1_0, .slice a2_0 a2_0n a2_0c]) w := by kernel_rfl
theorem pbdbs33_1_48232 (a0_0 : Int) (a0_1 : Int) (a0_2 : Option Addr) (a0_2n a0_2c : Nat) (w : World) : (Instr.buildSlice 33 1 #[(0, .agg #[.int .i64 a0_0, .int .u32 a0_1, .slice a0_2 a0_2n a0_2c])]).run Tryz.prog w = .ok (.slice (some ⟨w.heap.size, 0, none⟩) 1 1) (w.alloc (.cells [.int .i64 a0_0, .int .u32 a0_1, .slice a0_2 a0_2n a0_2c].toArray 50)) := by kernel_rfl
theorem pbdel33 : Elem Tryz.prog 33 50 3 40 := Elem.mk' Tryz.underlying33 (z := .agg #[.int .i64 0, .int .u32 0, .slice none 0 0]) (by kernel_rfl) rfl (by omega) (by omega)
theorem pbdsz33 (w : World) : (sizeOf 33).run Tryz.prog w = .ok 1 w := rfl
theorem pbdfld97_1 : FA Tryz.prog 97 1 1 := fun g o w => by kernel_rfl
theorem pbdbld99_27270 (a0_0 : Int) (a1_0 : Int) (w : World) : (Instr.build 99 #[(0, .int .i64 a0_0), (1, .int .u32 a1_0)]).run Tryz.prog w = .ok (.agg #[.int .i64 a0_0, .int .u32 a1_0]) w := by kernel_rfl
theorem pbdone_i64u32 {a0 : Int} {a1 : Int} : ∀ u ∈ [(.int .i64 a0 : Value), .int .u32 a1], u.oneCell' = true := by
 intro u hu
 simp only [List.mem_cons, List.not_mem_nil, or_false] at hu
 rcases hu with rfl | rfl <;> rfl
theorem pbdag99 (w : World) : (isAgg 99).run Tryz.prog w = .ok true w := rfl
theorem pbdfld97_0 : FA Tryz.prog 97 0 0 := fun g o w => by kernel_rfl
theorem pbdbs48_1_5377 (a0_0 : Int) (w : World) : (Instr.buildSlice 48 1 #[(0, .int .i64 a0_0)]).run Tryz.prog w = .ok (.slice (some ⟨w.heap.size, 0, none⟩) 1 1) (w.alloc (.cells [.int .i64 a0_0].toArray 3)) := by kernel_rfl
theorem pbdel48 : Elem Tryz.prog 48 3 1 8 := Elem.mk' Tryz.underlying48 (z := .int .i64 0) (by kernel_rfl) rfl (by omega) (by omega)
theorem pbdbld102_60071 (a0_0 : Int) (a1_0 : Int) (a2_0 : Int) (w : World) : (Instr.build 102 #[(0, .int .i64 a0_0), (1, .int .u32 a1_0), (2, .int .u32 a2_0)]).run Tryz.prog w = .ok (.agg #[.int .i64 a0_0, .int .u32 a1_0, .int .u32 a2_0]) w := by kernel_rfl
theorem pbdone_i64u32u32 {a0 : Int} {a1 : Int} {a2 : Int} : ∀ u ∈ [(.int .i64 a0 : Value), .int .u32 a1, .int .u32 a2], u.oneCell' = true := by
 intro u hu
 simp only [List.mem_cons, List.not_mem_nil, or_false] at hu
 rcases hu with rfl | rfl | rfl <;> rfl
theorem pbdag102 (w : World) : (isAgg 102).run Tryz.prog w = .ok true w := rfl
set_option maxHeartbeats 1000000 in
theorem build_any (A0 : Option Addr) (c0 : Nat) (l : List Rs) (w : World) (hr : Reads w w.heap.size 17 A0 l.length (flat Rs.cells l)) (hl1 : l.length ≤ 100000) (hok : ∀ r ∈ l, r.Ok) :
  Calls Tryz.prog 14 #[.slice A0 l.length c0] w fun e w' => ∃ x : {y : Mp × Int // BuildOk l y.1 y.2}, e = .returned (.tuple #[.agg x.1.1.cells.toArray, .int .i64 x.1.2]) ∧ Pm w x.1.1.pcs w' := by
 refine begin_ (vs := [.slice A0 l.length c0]) Tryz.func14 rfl rfl rfl ?_ (Pm.start w)
 refine zSG ?_
 refine TL.pnew rfl rfl rfl (exec_alloc (cs := [.int .i64 0, .int .u32 0, .int .i64 0, .int .i64 0, .slice none 0 0, .slice none 0 0]) rfl pbdzv36 rfl) (fun g2 => ?_)
 refine TL.as_ ?_
 refine zET (zSG ?_)
 refine TL.mv ?_
 refine TL.pcallPm (α := {y : (Nat × Obj) × (Nat × Obj) // MapR (fun s : Spot => Value.agg s.cells.toArray) Spot.Ok y.1.2 (fun s => ((lookS l).1 s).map (Value.int .u32)) ∧ MapR (fun s : Spot => Value.agg s.cells.toArray) Spot.Ok y.2.2 (fun s => ((lookS l).2 s).map (Value.int .i64))}) (fun x => .agg #[.int .i64 (endT l), .map (some x.1.1.1), .map (some x.1.2.1)]) (fun x => [.oth x.1.1.1 x.1.1.2, .oth x.1.2.1 x.1.2.2]) rfl rfl rfl rfl rfl Tryz.func58 (by decide) rfl (fun w1 hw => look_any A0 c0 l w1 (hr.up hw.bel) hl1 hok) ?_
 rintro ⟨⟨⟨ga, oa⟩, ⟨gs, os⟩⟩, hma, hms⟩
 dsimp only [List.cons_append, List.nil_append]
 dsimp only at hma hms ⊢
 refine TL.pnew rfl rfl rfl (exec_alloc (cs := [.int .i64 0, .map none, .map none]) rfl plkzv91 rfl) (fun g4 => ?_)
 refine TL.pstore (k := 0) (vs := [.int .i64 (endT l), .map (some ga), .map (some gs)]) rfl rfl rfl rfl rfl rfl rfl plksz91 plkone_i64mm (by show 3 ≤ 3; decide) (L' := [.blk g4 91 [.int .i64 (endT l), .map (some ga), .map (some gs)], .oth ga oa, .oth gs os, .blk g2 36 [.int .i64 0, .int .u32 0, .int .i64 0, .int .i64 0, .slice none 0 0, .slice none 0 0]]) rfl ?_
 refine zET (zS (zSG ?_))
 refine TL.mv ?_
 refine TL.v (gV 0 (.agg #[.int .i64 (endT l), .map (some ga), .map (some gs)]) plkag91 plksz91) ?_
 refine TL.pcallPm (α := {z : Int // ErrOk l (lookS l).2 z}) (fun x => .int .i64 x.1) (fun x => []) rfl rfl rfl rfl rfl Tryz.func59 (by decide) rfl (fun w1 hw => (check_view A0 c0 l (endT l) ga gs os (lookS l).2 w1 (hr.up hw.bel) hl1 hok (hw.at_ (k := 2) rfl).1 hms).mono fun en w2 ⟨x, h1, h2⟩ => ⟨x, h1, (Pm.start w1).below h2⟩) ?_
 rintro ⟨er, her⟩
 dsimp only [List.cons_append, List.nil_append]
 refine TL.as_ ?_
 refine zET (zSG ?_)
 refine TL.mv ?_
 refine TL.sp bin_neq (fun q23 => ?_) (fun q23 => ?_)
 ·refine TL.rn 5 rfl ?_
  refine zET (zc (zSG ?_))
  refine TL.val rfl rfl rfl (gives_build (v := .agg #[.int .i64 0, .int .u32 0, .int .i64 0, .int .i64 0, .slice none 0 0, .slice none 0 0]) rfl rfl (fun w => pbdbld36_531  w)) ?_
  refine TL.mv ?_
  refine TL.pstore (k := 3) (vs := [.int .i64 0, .int .u32 0, .int .i64 0, .int .i64 0, .slice none 0 0, .slice none 0 0]) rfl rfl rfl rfl rfl rfl rfl pbdsz36 pbdone_i64u32i64i64ss (by show 6 ≤ 6; decide) (L' := [.blk g4 91 [.int .i64 (endT l), .map (some ga), .map (some gs)], .oth ga oa, .oth gs os, .blk g2 36 [.int .i64 0, .int .u32 0, .int .i64 0, .int .i64 0, .slice none 0 0, .slice none 0 0]]) rfl ?_
  refine TL.as_ ?_
  refine zET (zr (zR ?_))
  refine TX.nilrow 63 4 ?_
  refine TX.nilrow 50 3 ?_
  exact ret_cell2 (k := 5) Tryz.results14 rfl rfl rfl Tryz.underlying36 rfl rfl (fun w1 hw => ⟨⟨(Mp.zero, er), ⟨her, fun _ => rfl, fun h1 _ => absurd h1 q23⟩⟩, rfl, show Pm w [_, _] w1 from hw.pick [0, 1] (by decide) rfl⟩)
 ·refine TL.rn 2 rfl ?_
  refine TL.ov (gN Tryz.underlying26) ?_
  refine TL.gu ?_
  refine TL.sp bin_eql (fun q27 => ?_) (fun q27 => ?_)
  ·refine TL.pk ?_
   refine zET (zc (zSG ?_))
   refine TL.val rfl rfl rfl (gives_build (v := .agg #[.int .i64 0, .int .u32 0, .int .i64 0, .int .i64 0, .slice none 0 0, .slice none 0 0]) rfl rfl (fun w => pbdbld36_531  w)) ?_
   refine TL.mv ?_
   refine TL.pstore (k := 3) (vs := [.int .i64 0, .int .u32 0, .int .i64 0, .int .i64 0, .slice none 0 0, .slice none 0 0]) rfl rfl rfl rfl rfl rfl rfl pbdsz36 pbdone_i64u32i64i64ss (by show 6 ≤ 6; decide) (L' := [.blk g4 91 [.int .i64 (endT l), .map (some ga), .map (some gs)], .oth ga oa, .oth gs os, .blk g2 36 [.int .i64 0, .int .u32 0, .int .i64 0, .int .i64 0, .slice none 0 0, .slice none 0 0]]) rfl ?_
   refine TL.as_ ?_
   refine zET (zr (zR ?_))
   refine TX.nilrow 63 4 ?_
   refine TX.nilrow 50 3 ?_
   exact ret_cell2 (k := 5) Tryz.results14 rfl rfl rfl Tryz.underlying36 rfl rfl (fun w1 hw => ⟨⟨(Mp.zero, er), ⟨her, fun _ => rfl, fun _ h2 => absurd (List.eq_nil_of_length_eq_zero (by omega)) h2⟩⟩, rfl, show Pm w [_, _] w1 from hw.pick [0, 1] (by decide) rfl⟩)
  ·refine TL.pk ?_
   refine zET (zd (zk (zT (zSG ?_))))
   refine TL.mkmap rfl rfl rfl rfl (fun gh hgh => ?_)
   refine TL.mkmap rfl rfl rfl rfl (fun ge hge => ?_)
   refine TL.rn 2 rfl ?_
   refine zET (zS (zSG ?_))
   refine TL.v (gF plkfld91_2) ?_
   refine TL.v (gL 2 plkag89) ?_
   refine TL.rangeM rfl rfl rfl rfl rfl Tryz.underlying89 (fun w1 hw => (hw.at_ (k := 4) rfl).1) hms (fun it oi n hit hI0 => ?_)
   refine zET (zB ?_)
   refine TC.loop_ (α := {y : List (Spot × Value) × Obj × Obj × Obj × List (Place × Sg Int) × List (Stp × Sg Int) // ItR (fun s : Spot => Value.agg s.cells.toArray) Spot.Ok gs os y.2.1 (fun s => ((lookS l).2 s).map (Value.int .i64)) n y.1 ∧ MapSG (fun s : Place => Value.agg s.cells.toArray) Place.Ok y.2.2.1 y.2.2.2.2.1 (grp (placeK (lookS l).1) (y.1.map (·.1))) ∧ MapSG (fun s : Stp => Value.agg s.cells.toArray) Stp.Ok y.2.2.2.1 y.2.2.2.2.2 (grp (stepKey (lookS l).1 (lookS l).2) (y.1.map (·.1))) ∧ (∀ x ∈ y.2.2.2.2.1, x.2.l ≠ []) ∧ ∀ x ∈ y.2.2.2.2.2, x.2.l ≠ []}) (fun y => [(0, .slice A0 l.length c0), (2, .pointer (some ⟨g2, 0, none⟩)), (4, .pointer (some ⟨g4, 0, none⟩)), (6, .map (some gh)), (7, .map (some ge)), (35, .pointer (some ⟨it, 0, none⟩))]) (fun y => Pm w ([.blk g4 91 [.int .i64 (endT l), .map (some ga), .map (some gs)], .blk g2 36 [.int .i64 0, .int .u32 0, .int .i64 0, .int .i64 0, .slice none 0 0, .slice none 0 0], .oth it y.1.2.1, .oth gh y.1.2.2.1, .oth ge y.1.2.2.2.1, .oth ga oa, .oth gs os] ++ segG 3 1 (flat (ic .i64)) (y.1.2.2.2.2.1.map (·.2) ++ y.1.2.2.2.2.2.map (·.2)))) (fun y => n - y.1.1.length) (⟨([], oi, .map #[] 0, .map #[] 0, [], []), hI0, mapSG_nil, mapSG_nil, fun x hx => absurd hx List.not_mem_nil, fun x hx => absurd hx List.not_mem_nil⟩) ⟨rfl, rfl, rfl, rfl, rfl, rfl, trivial⟩ (fun w1 hw => hw.pick [3, 6, 0, 2, 1, 4, 5] (by decide) rfl) ?_
   rintro ⟨⟨ds, oi1, oh, oe, HG, EG⟩, hI1, hH, hE, hHn, hEn⟩
   dsimp only at hI1 hH hE hHn hEn ⊢
   refine zSG ?_
   refine TL.nextM spot_key (j := 2) rfl rfl rfl rfl rfl (fun w1 hw => (hw.at_ (k := 6) rfl).1) rfl hit hI1 (fun hall => ?_) (fun a v oi2 ha hfa hna hI2 hlt => ?_)
   ·refine TL.ex ?_
    refine zET (zS (zd (zx (zX (zX (zM (zT ?_)))))))
    have hds : ∀ s, s ∈ ds.map (·.1) ↔ (lookS l).2 s ≠ none := fun s => by
     constructor
     ·intro h
      obtain ⟨p, hp, rfl⟩ := List.mem_map.1 h
      intro h11
      have h10 := (hI1.ok p hp).2
      rw [h11] at h10
      cases h10
     ·intro h
      obtain ⟨v, hv⟩ := Option.ne_none_iff_exists'.1 h
      exact List.mem_map.2 ⟨_, hall s (.int .i64 v) (by rw [hv]; rfl), rfl⟩
    have hdn : (ds.map (·.1)).Nodup := hI1.keys spot_key
    have hdl : ds.length ≤ l.length := by
     have h9 := spots_le hdn fun s hs => (hds s).1 hs
     rwa [List.length_map] at h9
    have hHG : HG.length ≤ l.length := by have := groups_le hH hHn; rw [List.length_map] at this; omega
    have hEG : EG.length ≤ l.length := by have := groups_le hE hEn; rw [List.length_map] at this; omega
    obtain ⟨fh, hmh, hfh⟩ := hH.map
    obtain ⟨fe, hme, hfe⟩ := hE.map
    clear hall
    obtain ⟨xh, hxh⟩ : ∃ x, l[0]? = some x := ⟨_, List.getElem?_eq_getElem (by omega)⟩
    refine TC.join (α := Nat) (fun y => [(0, .slice A0 l.length c0), (2, .pointer (some ⟨g2, 0, none⟩)), (6, .map (some gh)), (7, .map (some ge)), (12, .pointer (some ⟨y, 0, none⟩))]) (fun y => Pm w ([.blk y 36 [.int .i64 ((trcR xh).v), .int .u32 ((trcR xh).dst), .int .i64 ((trcR xh).proto), .int .i64 (endT l), .slice none 0 0, .slice none 0 0], .blk g4 91 [.int .i64 (endT l), .map (some ga), .map (some gs)], .blk g2 36 [.int .i64 0, .int .u32 0, .int .i64 0, .int .i64 0, .slice none 0 0, .slice none 0 0], .oth it oi1, .oth gh oh, .oth ge oe, .oth ga oa, .oth gs os] ++ segG 3 1 (flat (ic .i64)) (HG.map (·.2) ++ EG.map (·.2)))) ?_ ?_
    ·refine TC.pre 3 9 6 (Pm w [.blk g4 91 [.int .i64 (endT l), .map (some ga), .map (some gs)]]) (by kernel_rfl) rfl (fun w hw => hw.drawn _) (by kernel_rfl) rfl (fun w1 hw => hw.pick [0] (by decide) rfl) ?_
     refine TV.val rfl rfl rfl (gives_move rfl rfl) ?_
     have hi89 : 0 < l.length := by omega
     obtain ⟨x89, hx89⟩ := ex_at hi89
     obtain ⟨b89, o89, hA89, hbb89, hc89⟩ := hr.ad (by omega) (by decide)
     refine TV.val rfl rfl rfl (gA (i := 0) Tryz.underlying26 prssz47 rfl rfl rfl rfl hA89 (by omega)) ?_
     refine TV.val rfl rfl rfl (gR rs_cel prsag47 prssz47 hbb89 hx89 hc89) ?_
     refine TV.end_ (ls := #[Tt,Tt,Tt,Ff,Ff,Ff,Ff,Ff,Ff]) (by kernel_rfl) ?_
     refine TH.tk 4 rfl rfl rfl (gF plkfld91_0) (fun w1 hw => hw.pick [0] (by decide) rfl) ?_
     refine TH.tk 5 rfl rfl rfl (gL 0 pcmag3) (fun w1 hw => hw.pick [0] (by decide) rfl) ?_
     refine TH.two' (listed1 := #[Tt,Tt,Tt,Tt,Tt,Tt,Ff,Ff,Ff]) (listed2 := #[Tt,Tt,Tt,Ff,Tt,Tt,Ff,Tt,Ff]) 3 7 rfl rfl (by kernel_rfl) rfl rfl ?_ ?_
     ·refine TL.pcall1 (r := .agg ((trcR x89).cells).toArray) rfl rfl rfl rfl rfl Tryz.func35 (by decide) rfl (fun w1 hw => trc_any x89 w1) ?_
      refine zE ?_
      refine TX.held (fun w1 hw => hw.pick [0] (by decide) rfl) ?_
      refine TH.tk 6 rfl rfl rfl (gives_build (v := .agg #[.int .i64 ((trcR x89).v), .int .u32 ((trcR x89).dst), .int .i64 ((trcR x89).proto), .int .i64 (endT l), .slice none 0 0, .slice none 0 0]) rfl rfl (fun w => pbdbld36_98406 _ _ _ _ w)) (fun w1 hw => hw.pick [0] (by decide) rfl) ?_
      refine TH.only' 7 rfl (by kernel_rfl) rfl ?_
      refine TL.pnew rfl rfl rfl (exec_alloc (cs := [.int .i64 0, .int .u32 0, .int .i64 0, .int .i64 0, .slice none 0 0, .slice none 0 0]) rfl pbdzv36 rfl) (fun g12 => ?_)
      refine zE ?_
      refine TX.held (fun w1 hw => hw.pick [1] (by decide) rfl) ?_
      refine TH.only' 8 rfl (by kernel_rfl) rfl ?_
      refine TL.pstore (k := 0) (vs := [.int .i64 ((trcR x89).v), .int .u32 ((trcR x89).dst), .int .i64 ((trcR x89).proto), .int .i64 (endT l), .slice none 0 0, .slice none 0 0]) rfl rfl rfl rfl rfl rfl rfl pbdsz36 pbdone_i64u32i64i64ss (by show 6 ≤ 6; decide) (L' := ([.blk g12 36 [.int .i64 ((trcR x89).v), .int .u32 ((trcR x89).dst), .int .i64 ((trcR x89).proto), .int .i64 (endT l), .slice none 0 0, .slice none 0 0], .blk g4 91 [.int .i64 (endT l), .map (some ga), .map (some gs)], .blk g2 36 [.int .i64 0, .int .u32 0, .int .i64 0, .int .i64 0, .slice none 0 0, .slice none 0 0], .oth it oi1, .oth gh oh, .oth ge oe, .oth ga oa, .oth gs os] ++ segG 3 1 (flat (ic .i64)) (HG.map (·.2) ++ EG.map (·.2)))) rfl ?_
      refine zE ?_
      refine TX.held (fun w1 hw => hw.pick [1] (by decide) rfl) ?_
      refine TH.done (by kernel_rfl) ?_
      obtain rfl : xh = x89 := Option.some.inj (hxh.symm.trans hx89)
      exact TX.joined (g12) (⟨rfl, rfl, rfl, rfl, rfl, trivial⟩) (fun w1 hw => hw)
     ·refine TL.pnew rfl rfl rfl (exec_alloc (cs := [.int .i64 0, .int .u32 0, .int .i64 0, .int .i64 0, .slice none 0 0, .slice none 0 0]) rfl pbdzv36 rfl) (fun g12 => ?_)
      refine zE ?_
      refine TX.held (fun w1 hw => hw.pick [1] (by decide) rfl) ?_
      refine TH.only' 3 rfl (by kernel_rfl) rfl ?_
      refine TL.pcall1 (r := .agg ((trcR x89).cells).toArray) rfl rfl rfl rfl rfl Tryz.func35 (by decide) rfl (fun w1 hw => trc_any x89 w1) ?_
      refine zE ?_
      refine TX.held (fun w1 hw => hw.pick [1] (by decide) rfl) ?_
      refine TH.tk 6 rfl rfl rfl (gives_build (v := .agg #[.int .i64 ((trcR x89).v), .int .u32 ((trcR x89).dst), .int .i64 ((trcR x89).proto), .int .i64 (endT l), .slice none 0 0, .slice none 0 0]) rfl rfl (fun w => pbdbld36_98406 _ _ _ _ w)) (fun w1 hw => hw.pick [1] (by decide) rfl) ?_
      refine TH.only' 8 rfl (by kernel_rfl) rfl ?_
      refine TL.pstore (k := 0) (vs := [.int .i64 ((trcR x89).v), .int .u32 ((trcR x89).dst), .int .i64 ((trcR x89).proto), .int .i64 (endT l), .slice none 0 0, .slice none 0 0]) rfl rfl rfl rfl rfl rfl rfl pbdsz36 pbdone_i64u32i64i64ss (by show 6 ≤ 6; decide) (L' := ([.blk g12 36 [.int .i64 ((trcR x89).v), .int .u32 ((trcR x89).dst), .int .i64 ((trcR x89).proto), .int .i64 (endT l), .slice none 0 0, .slice none 0 0], .blk g4 91 [.int .i64 (endT l), .map (some ga), .map (some gs)], .blk g2 36 [.int .i64 0, .int .u32 0, .int .i64 0, .int .i64 0, .slice none 0 0, .slice none 0 0], .oth it oi1, .oth gh oh, .oth ge oe, .oth ga oa, .oth gs os] ++ segG 3 1 (flat (ic .i64)) (HG.map (·.2) ++ EG.map (·.2)))) rfl ?_
      refine zE ?_
      refine TX.held (fun w1 hw => hw.pick [1] (by decide) rfl) ?_
      refine TH.done (by kernel_rfl) ?_
      obtain rfl : xh = x89 := Option.some.inj (hxh.symm.trans hx89)
      exact TX.joined (g12) (⟨rfl, rfl, rfl, rfl, rfl, trivial⟩) (fun w1 hw => hw)
    ·rintro g12
     refine zS (zSG ?_)
     refine TL.mv ?_
     refine TL.rangeM rfl rfl rfl rfl rfl Tryz.underlying94 (fun w1 hw => (hw.at_ (k := 4) rfl).1) hmh (fun it_h oi0h n_h hit_h hI0h => ?_)
     refine zET (zB ?_)
     refine TC.nilrow 50 3 ?_
     refine TC.loop_ (α := {y : Obj × (Option Addr × Nat) × List Hpx × List (Place × Sg Int) × List (Place × Sg Int) // ItR (fun s : Place => Value.agg s.cells.toArray) Place.Ok gh oh y.1 fh n_h (y.2.2.2.1.map kvG) ∧ HG.Perm (y.2.2.2.1 ++ y.2.2.2.2) ∧ y.2.2.1 = y.2.2.2.1.map hopG ∧ y.2.2.1.length ≤ y.2.1.2 ∧ y.2.1.2 ≤ maxLen}) (fun y => [(0, .slice A0 l.length c0), (2, .pointer (some ⟨g2, 0, none⟩)), (6, .map (some gh)), (7, .map (some ge)), (12, .pointer (some ⟨g12, 0, none⟩)), (96, .pointer (some ⟨it_h, 0, none⟩))]) (fun y => Pm w ([.row (.slice y.1.2.1.1 y.1.2.2.1.length y.1.2.1.2) 50 3 y.1.2.2.1.length (flat Hpx.cells y.1.2.2.1), .oth it_h y.1.1, .blk g12 36 [.int .i64 ((trcR xh).v), .int .u32 ((trcR xh).dst), .int .i64 ((trcR xh).proto), .int .i64 (endT l), .slice y.1.2.1.1 y.1.2.2.1.length y.1.2.1.2, .slice none 0 0], .blk g4 91 [.int .i64 (endT l), .map (some ga), .map (some gs)], .blk g2 36 [.int .i64 0, .int .u32 0, .int .i64 0, .int .i64 0, .slice none 0 0, .slice none 0 0], .oth it oi1, .oth gh oh, .oth ge oe, .oth ga oa, .oth gs os] ++ segG 3 1 (flat (ic .i64)) (y.1.2.2.2.1.map (fun x => srtG x.2) ++ y.1.2.2.2.2.map (·.2) ++ EG.map (·.2)))) (fun y => n_h - y.1.2.2.2.1.length) (⟨(oi0h, (none, 0), [], [], HG), hI0h, List.Perm.refl _, rfl, Nat.le_refl _, Nat.zero_le _⟩) ⟨rfl, rfl, rfl, rfl, rfl, rfl, trivial⟩ (fun w1 hw => hw) ?_
     rintro ⟨⟨oi_h, ⟨A_h, c_h⟩, Hsh, Gdh, Glh⟩, hIh, hph, hHsh, hHshl, hHshm⟩
     dsimp only at hIh hph hHsh hHshl hHshm ⊢
     refine zSG ?_
     refine TL.nextM place_key (j := 1) rfl rfl rfl rfl rfl (fun w1 hw => (hw.at_ (k := 6) rfl).1) rfl hit_h hIh (fun hall => ?_) (fun p v oi_h2 hp hfp hnp hIh2 hlt => ?_)
     ·obtain rfl : Glh = [] := none_left hH.nd hph hfh hall
      have hHlh : Hsh.length ≤ 100000 := by have h9 := hph.length_eq; rw [List.length_append] at h9; rw [hHsh, List.length_map]; omega
      refine TL.ex ?_
      refine zET (zS (zd (zx (zX (zX (zM (zT (zS (zSG ?_)))))))))
      refine TL.mv ?_
      refine TL.rangeM rfl rfl rfl rfl rfl Tryz.underlying95 (fun w1 hw => (hw.at_ (k := 7) rfl).1) hme (fun it_e oi0e n_e hit_e hI0e => ?_)
      refine zET (zB ?_)
      refine TC.nilrow 63 4 ?_
      refine TC.loop_ (α := {y : Obj × (Option Addr × Nat) × List Ed × List (Stp × Sg Int) × List (Stp × Sg Int) // ItR (fun s : Stp => Value.agg s.cells.toArray) Stp.Ok ge oe y.1 fe n_e (y.2.2.2.1.map kvG) ∧ EG.Perm (y.2.2.2.1 ++ y.2.2.2.2) ∧ y.2.2.1 = y.2.2.2.1.map edgG ∧ y.2.2.1.length ≤ y.2.1.2 ∧ y.2.1.2 ≤ maxLen}) (fun y => [(0, .slice A0 l.length c0), (2, .pointer (some ⟨g2, 0, none⟩)), (6, .map (some gh)), (7, .map (some ge)), (12, .pointer (some ⟨g12, 0, none⟩)), (116, .pointer (some ⟨it_e, 0, none⟩))]) (fun y => Pm w ([.row (.slice y.1.2.1.1 y.1.2.2.1.length y.1.2.1.2) 63 4 y.1.2.2.1.length (flat Ed.cells y.1.2.2.1), .oth it_e y.1.1, .row (.slice A_h Hsh.length c_h) 50 3 Hsh.length (flat Hpx.cells Hsh), .oth it_h oi_h, .blk g12 36 [.int .i64 ((trcR xh).v), .int .u32 ((trcR xh).dst), .int .i64 ((trcR xh).proto), .int .i64 (endT l), .slice A_h Hsh.length c_h, .slice y.1.2.1.1 y.1.2.2.1.length y.1.2.1.2], .blk g4 91 [.int .i64 (endT l), .map (some ga), .map (some gs)], .blk g2 36 [.int .i64 0, .int .u32 0, .int .i64 0, .int .i64 0, .slice none 0 0, .slice none 0 0], .oth it oi1, .oth gh oh, .oth ge oe, .oth ga oa, .oth gs os] ++ segG 3 1 (flat (ic .i64)) (y.1.2.2.2.1.map (fun x => srtG x.2) ++ y.1.2.2.2.2.map (·.2) ++ Gdh.map (fun x => srtG x.2)))) (fun y => n_e - y.1.2.2.2.1.length) (⟨(oi0e, (none, 0), [], [], EG), hI0e, List.Perm.refl _, rfl, Nat.le_refl _, Nat.zero_le _⟩) ⟨rfl, rfl, rfl, rfl, rfl, rfl, trivial⟩ (fun w1 hw => Pm.segQ (P := [.row (.slice none 0 0) 63 4 0 (flat Ed.cells ([])), .oth it_e oi0e, .row (.slice A_h Hsh.length c_h) 50 3 Hsh.length (flat Hpx.cells Hsh), .oth it_h oi_h, .blk g12 36 [.int .i64 ((trcR xh).v), .int .u32 ((trcR xh).dst), .int .i64 ((trcR xh).proto), .int .i64 (endT l), .slice A_h Hsh.length c_h, .slice none 0 0], .blk g4 91 [.int .i64 (endT l), .map (some ga), .map (some gs)], .blk g2 36 [.int .i64 0, .int .u32 0, .int .i64 0, .int .i64 0, .slice none 0 0, .slice none 0 0], .oth it oi1, .oth gh oh, .oth ge oe, .oth ga oa, .oth gs os]) hw perm_turn) ?_
      rintro ⟨⟨oi_e, ⟨A_e, c_e⟩, Hse, Gde, Gle⟩, hIe, hpe, hHse, hHsel, hHsem⟩
      dsimp only at hIe hpe hHse hHsel hHsem ⊢
      refine zSG ?_
      refine TL.nextM stp_key (j := 1) rfl rfl rfl rfl rfl (fun w1 hw => (hw.at_ (k := 9) rfl).1) rfl hit_e hIe (fun hall => ?_) (fun p v oi_e2 hp hfp hnp hIe2 hlt => ?_)
      ·obtain rfl : Gle = [] := none_left hE.nd hpe hfe hall
       have hHle : Hse.length ≤ 100000 := by have h9 := hpe.length_eq; rw [List.length_append] at h9; rw [hHse, List.length_map]; omega
       refine TL.ex ?_
       refine zET (zS (zd (zx (zX (zX (zM (zT (zSG ?_))))))))
       refine TL.v (gF pbdfld36_2) ?_
       refine TL.v (gL 4 pbdag33) ?_
       refine TL.turnRowD (k := 2) (fun ys => Sorted cmpH Hsh ys) rfl rfl rfl rfl rfl Tryz.func62 (by decide) rfl rfl (fun w1 hw hr9 => sortHpx hr9 (rfl) (by omega)) (fun srt139 hS139 => ?_)
       try dsimp only [List.set_cons_zero, List.set_cons_succ]
       refine zET (zSG ?_)
       refine TL.v (gF pbdfld36_3) ?_
       refine TL.v (gL 4 pbdag34) ?_
       refine TL.turnRowD (k := 0) (fun ys => Sorted cmpE Hse ys) rfl rfl rfl rfl rfl Tryz.func67 (by decide) rfl rfl (fun w1 hw hr9 => sortEd hr9 (rfl) (by omega)) (fun srt142 hS142 => ?_)
       try dsimp only [List.set_cons_zero, List.set_cons_succ]
       refine zET (zSG ?_)
       refine TL.v (gV 4 (.agg #[.int .i64 ((trcR xh).v), .int .u32 ((trcR xh).dst), .int .i64 ((trcR xh).proto), .int .i64 (endT l), .slice A_h Hsh.length c_h, .slice A_e Hse.length c_e]) pbdag36 pbdsz36) ?_
       refine TL.pstore (k := 6) (vs := [.int .i64 ((trcR xh).v), .int .u32 ((trcR xh).dst), .int .i64 ((trcR xh).proto), .int .i64 (endT l), .slice A_h Hsh.length c_h, .slice A_e Hse.length c_e]) rfl rfl rfl rfl rfl rfl rfl pbdsz36 pbdone_i64u32i64i64ss (by show 6 ≤ 6; decide) (L' := ([.row (.slice A_e Hse.length c_e) 63 4 Hse.length (flat Ed.cells srt142), .oth it_e oi_e, .row (.slice A_h Hsh.length c_h) 50 3 Hsh.length (flat Hpx.cells srt139), .oth it_h oi_h, .blk g12 36 [.int .i64 ((trcR xh).v), .int .u32 ((trcR xh).dst), .int .i64 ((trcR xh).proto), .int .i64 (endT l), .slice A_h Hsh.length c_h, .slice A_e Hse.length c_e], .blk g4 91 [.int .i64 (endT l), .map (some ga), .map (some gs)], .blk g2 36 [.int .i64 ((trcR xh).v), .int .u32 ((trcR xh).dst), .int .i64 ((trcR xh).proto), .int .i64 (endT l), .slice A_h Hsh.length c_h, .slice A_e Hse.length c_e], .oth it oi1, .oth gh oh, .oth ge oe, .oth ga oa, .oth gs os] ++ segG 3 1 (flat (ic .i64)) (Gde.map (fun x => srtG x.2) ++ ([] : List (Stp × Sg Int)).map (·.2) ++ Gdh.map (fun x => srtG x.2)))) rfl ?_
       refine TL.as_ ?_
       refine zET (zr ?_)
       have he0 : er = 0 := by omega
       rw [← hS139.1.length_eq, ← hS142.1.length_eq]
       have hB : BuildOk l (⟨trcR xh, endT l, ⟨A_h, c_h, srt139⟩, ⟨A_e, c_e, srt142⟩⟩ : Mp) 0 := ⟨he0 ▸ her, fun h => absurd h (by rintro (h | h); exact h rfl; rw [h] at hxh; cases hxh), fun _ _ => ⟨by rw [headD_at hxh], rfl, hops_ok hdn hds hH hHn hph hHsh hS139, edges_ok hdn hds hE hEn hpe hHse hS142⟩⟩
       exact ret_cell2 (k := 6) Tryz.results14 rfl rfl rfl Tryz.underlying36 rfl rfl (fun w1 hw => ⟨⟨((⟨trcR xh, endT l, ⟨A_h, c_h, srt139⟩, ⟨A_e, c_e, srt142⟩⟩ : Mp), 0), hB⟩, rfl, Pm.segQ (P := [_, _]) (show Pm w ([_, _] ++ segG 3 1 (flat (ic .i64)) _) w1 from hw.pickT 12 [2, 0] (by decide) (by decide) rfl rfl) (fl_perm hS139.1 hS142.1 hHsh hHse)⟩)
      ·obtain ⟨s, hsm, rfl⟩ := mapSG_val hfe hfp
       have hGl1 := left_of hpe hnp hsm
       obtain ⟨k, hk⟩ := List.getElem?_of_mem hGl1
       have hsl : s.l.length ≤ 100000 := by have h8 := hE.sp p; rw [getS_mem hE.nd hsm] at h8; rw [h8]; exact Nat.le_trans (grp_len _ _ _) (by rw [List.length_map]; omega)
       rw [List.length_map] at hlt
       have hHl : Hse.length ≤ 100000 := by have h9 := hpe.length_eq; rw [List.length_append] at h9; rw [hHse, List.length_map]; omega
       try dsimp only [List.set_cons_zero, List.set_cons_succ]
       refine TL.ex ?_
       refine zET (zS (zc (zk (zT (zB (zSG ?_))))))
       refine TL.val rfl rfl rfl (gives_entryM (j := 1) rfl rfl (fun w1 hw => (hw.at_ (k := 9) rfl).1) rfl hIe2) ?_
       refine TL.rn 2 rfl ?_
       refine TL.pnew rfl rfl rfl (exec_alloc (cs := [.int .i64 0, .int .u32 0, .int .u32 0]) rfl pbdzv102 rfl) (fun g15 => ?_)
       refine TL.pstore (k := 0) (vs := p.cells) rfl rfl rfl rfl rfl rfl rfl pbdsz102 (stp_cel.one _) (by show 3 ≤ 3; decide) (L' := ([.blk g15 102 p.cells, .row (.slice A_e Hse.length c_e) 63 4 Hse.length (flat Ed.cells Hse), .oth it_e oi_e2, .row (.slice A_h Hsh.length c_h) 50 3 Hsh.length (flat Hpx.cells Hsh), .oth it_h oi_h, .blk g12 36 [.int .i64 ((trcR xh).v), .int .u32 ((trcR xh).dst), .int .i64 ((trcR xh).proto), .int .i64 (endT l), .slice A_h Hsh.length c_h, .slice A_e Hse.length c_e], .blk g4 91 [.int .i64 (endT l), .map (some ga), .map (some gs)], .blk g2 36 [.int .i64 0, .int .u32 0, .int .i64 0, .int .i64 0, .slice none 0 0, .slice none 0 0], .oth it oi1, .oth gh oh, .oth ge oe, .oth ga oa, .oth gs os] ++ segG 3 1 (flat (ic .i64)) (Gde.map (fun x => srtG x.2) ++ Gle.map (·.2) ++ Gdh.map (fun x => srtG x.2)))) rfl ?_
       refine TL.as_ ?_
       refine zET (zS ?_)
       refine TC.mem (fun w1 hw => Pm.segOut (P := _) hw (app_next hk)) ?_
       refine zG ?_
       refine TL.mv ?_
       refine TL.turnRowD (k := 0) (fun ys => SortedI s.l ys) rfl rfl rfl rfl rfl Tryz.func61 (by decide) rfl rfl (fun w1 hw hr9 => sortInt hr9 rfl (by omega)) (fun srt hS123 => ?_)
       try dsimp only [List.set_cons_zero, List.set_cons_succ]
       obtain rfl := hS123.eq
       rw [← srt_len s.l]
       refine zET (zG ?_)
       refine TL.v (gF pbdfld36_3) ?_
       refine TL.v (gL 6 pbdag34) ?_
       refine TL.v (gF pbdfld102_0) ?_
       refine TL.v (gL 1 pcmag3) ?_
       refine TL.v (gF pbdfld102_1) ?_
       refine TL.v (gL 1 pcmag30) ?_
       refine TL.v (gF pbdfld102_2) ?_
       refine TL.v (gL 1 pcmag30) ?_
       refine TL.mv ?_
       refine TL.val rfl rfl rfl (gives_build (v := .agg ((edgG (p, s)).cells).toArray) rfl rfl (fun w => pbdbld63_39859 _ _ _ _ _ _ w)) ?_
       refine TL.prowS (e := 63) (size := 4) (cs := flat Ed.cells [edgG (p, s)]) rfl rfl rfl rfl rfl (fun w => pbdbs34_1_7406 _ _ _ _ _ _ w) (by decide) rfl (fun g134 => ?_)
       refine TL.appendT (k := 3) rfl rfl rfl rfl Tryz.underlying34 pbdel34 rfl rfl rfl (fun w1 hw => pm_reads hw (k := 0) rfl) (flat_one ed_cel _) (by show _ * 40 ≤ _; omega) ((Hse ++ [edgG (p, s)]).length) (by rw [List.length_append]; rfl) (flat Ed.cells (Hse ++ [edgG (p, s)])) ((flat_app _ _).symm) (fun A135 c135 hA1351 hA1352 => ?_)
       refine TL.v (gF pbdfld36_3) ?_
       refine TL.pstore (k := 7) (vs := [.slice A135 ((Hse ++ [edgG (p, s)]).length) c135]) rfl rfl rfl rfl rfl rfl rfl pbdsz34 pbdone_s (by show 6 ≤ 6; decide) (L' := ([.row (.slice (some ⟨g134, 0, none⟩) 1 1) 63 4 1 (flat Ed.cells [edgG (p, s)]), .row (.slice s.A ((srtI s.l).length) s.c) 3 1 ((srtI s.l).length) (flat (ic .i64) (srtI s.l)), .blk g15 102 p.cells, .row (.slice A135 ((Hse ++ [edgG (p, s)]).length) c135) 63 4 ((Hse ++ [edgG (p, s)]).length) (flat Ed.cells (Hse ++ [edgG (p, s)])), .oth it_e oi_e2, .row (.slice A_h Hsh.length c_h) 50 3 Hsh.length (flat Hpx.cells Hsh), .oth it_h oi_h, .blk g12 36 [.int .i64 ((trcR xh).v), .int .u32 ((trcR xh).dst), .int .i64 ((trcR xh).proto), .int .i64 (endT l), .slice A_h Hsh.length c_h, .slice A135 ((Hse ++ [edgG (p, s)]).length) c135], .blk g4 91 [.int .i64 (endT l), .map (some ga), .map (some gs)], .blk g2 36 [.int .i64 0, .int .u32 0, .int .i64 0, .int .i64 0, .slice none 0 0, .slice none 0 0], .oth it oi1, .oth gh oh, .oth ge oe, .oth ga oa, .oth gs os] ++ segG 3 1 (flat (ic .i64)) ((Gde.map (fun x => srtG x.2) ++ Gle.map (·.2) ++ Gdh.map (fun x => srtG x.2)).eraseIdx (Gde.length + k)))) rfl ?_
       refine zE (zN ?_)
       exact TX.round (⟨(oi_e2, (A135, c135), Hse ++ [edgG (p, s)], Gde ++ [(p, s)], Gle.eraseIdx k), by rw [List.map_append]; exact hIe2, next_perm hpe hk, by show _ ++ _ = _; rw [hHse, List.map_append]; rfl, hA1351, hA1352⟩) (by show n_e - (Gde ++ [(p, s)]).length < n_e - Gde.length; rw [List.length_append]; show n_e - (Gde.length + 1) < _; omega) ⟨rfl, rfl, rfl, rfl, rfl, rfl, trivial⟩ (fun w1 hw => Pm.segP (P := _) (s := (srtG s)) (hw.sel (.cons _ (.cons_cons _ (.cons _ (.cons_cons _ (.cons_cons _ (.cons_cons _ (.cons_cons _ (.cons_cons _ (.cons_cons _ (.cons_cons _ (.cons_cons _ (.cons_cons _ (.cons_cons _ (.cons_cons _ (.cons_cons _ (List.Sublist.refl _))))))))))))))))) (perm_next (Gd := Gde) (E := Gdh.map (fun x => srtG x.2)) (f := fun x => srtG x.2) hk))
     ·obtain ⟨s, hsm, rfl⟩ := mapSG_val hfh hfp
      have hGl1 := left_of hph hnp hsm
      obtain ⟨k, hk⟩ := List.getElem?_of_mem hGl1
      have hsl : s.l.length ≤ 100000 := by have h8 := hH.sp p; rw [getS_mem hH.nd hsm] at h8; rw [h8]; exact Nat.le_trans (grp_len _ _ _) (by rw [List.length_map]; omega)
      rw [List.length_map] at hlt
      have hHl : Hsh.length ≤ 100000 := by have h9 := hph.length_eq; rw [List.length_append] at h9; rw [hHsh, List.length_map]; omega
      try dsimp only [List.set_cons_zero, List.set_cons_succ]
      refine TL.ex ?_
      refine zET (zS (zc (zk (zT (zB (zSG ?_))))))
      refine TL.val rfl rfl rfl (gives_entryM (j := 1) rfl rfl (fun w1 hw => (hw.at_ (k := 6) rfl).1) rfl hIh2) ?_
      refine TL.rn 2 rfl ?_
      refine TL.pnew rfl rfl rfl (exec_alloc (cs := [.int .i64 0, .int .u32 0]) rfl pbdzv99 rfl) (fun g13 => ?_)
      refine TL.pstore (k := 0) (vs := p.cells) rfl rfl rfl rfl rfl rfl rfl pbdsz99 (place_cel.one _) (by show 2 ≤ 2; decide) (L' := ([.blk g13 99 p.cells, .row (.slice A_h Hsh.length c_h) 50 3 Hsh.length (flat Hpx.cells Hsh), .oth it_h oi_h2, .blk g12 36 [.int .i64 ((trcR xh).v), .int .u32 ((trcR xh).dst), .int .i64 ((trcR xh).proto), .int .i64 (endT l), .slice A_h Hsh.length c_h, .slice none 0 0], .blk g4 91 [.int .i64 (endT l), .map (some ga), .map (some gs)], .blk g2 36 [.int .i64 0, .int .u32 0, .int .i64 0, .int .i64 0, .slice none 0 0, .slice none 0 0], .oth it oi1, .oth gh oh, .oth ge oe, .oth ga oa, .oth gs os] ++ segG 3 1 (flat (ic .i64)) (Gdh.map (fun x => srtG x.2) ++ Glh.map (·.2) ++ EG.map (·.2)))) rfl ?_
      refine TL.as_ ?_
      refine zET (zS ?_)
      refine TC.mem (fun w1 hw => Pm.segOut (P := _) hw (app_next hk)) ?_
      refine zG ?_
      refine TL.mv ?_
      refine TL.turnRowD (k := 0) (fun ys => SortedI s.l ys) rfl rfl rfl rfl rfl Tryz.func61 (by decide) rfl rfl (fun w1 hw hr9 => sortInt hr9 rfl (by omega)) (fun srt hS103 => ?_)
      try dsimp only [List.set_cons_zero, List.set_cons_succ]
      obtain rfl := hS103.eq
      rw [← srt_len s.l]
      refine zET (zG ?_)
      refine TL.v (gF pbdfld36_2) ?_
      refine TL.v (gL 4 pbdag33) ?_
      refine TL.v (gF pbdfld99_0) ?_
      refine TL.v (gL 1 pcmag3) ?_
      refine TL.v (gF pbdfld99_1) ?_
      refine TL.v (gL 1 pcmag30) ?_
      refine TL.mv ?_
      refine TL.val rfl rfl rfl (gives_build (v := .agg ((hopG (p, s)).cells).toArray) rfl rfl (fun w => pbdbld50_71348 _ _ _ _ _ w)) ?_
      refine TL.prowS (e := 50) (size := 3) (cs := flat Hpx.cells [hopG (p, s)]) rfl rfl rfl rfl rfl (fun w => pbdbs33_1_48232 _ _ _ _ _ w) (by decide) rfl (fun g112 => ?_)
      refine TL.appendT (k := 3) rfl rfl rfl rfl Tryz.underlying33 pbdel33 rfl rfl rfl (fun w1 hw => pm_reads hw (k := 0) rfl) (flat_one hp_cel _) (by show _ * 40 ≤ _; omega) ((Hsh ++ [hopG (p, s)]).length) (by rw [List.length_append]; rfl) (flat Hpx.cells (Hsh ++ [hopG (p, s)])) ((flat_app _ _).symm) (fun A113 c113 hA1131 hA1132 => ?_)
      refine TL.v (gF pbdfld36_2) ?_
      refine TL.pstore (k := 5) (vs := [.slice A113 ((Hsh ++ [hopG (p, s)]).length) c113]) rfl rfl rfl rfl rfl rfl rfl pbdsz33 pbdone_s (by show 5 ≤ 6; decide) (L' := ([.row (.slice (some ⟨g112, 0, none⟩) 1 1) 50 3 1 (flat Hpx.cells [hopG (p, s)]), .row (.slice s.A ((srtI s.l).length) s.c) 3 1 ((srtI s.l).length) (flat (ic .i64) (srtI s.l)), .blk g13 99 p.cells, .row (.slice A113 ((Hsh ++ [hopG (p, s)]).length) c113) 50 3 ((Hsh ++ [hopG (p, s)]).length) (flat Hpx.cells (Hsh ++ [hopG (p, s)])), .oth it_h oi_h2, .blk g12 36 [.int .i64 ((trcR xh).v), .int .u32 ((trcR xh).dst), .int .i64 ((trcR xh).proto), .int .i64 (endT l), .slice A113 ((Hsh ++ [hopG (p, s)]).length) c113, .slice none 0 0], .blk g4 91 [.int .i64 (endT l), .map (some ga), .map (some gs)], .blk g2 36 [.int .i64 0, .int .u32 0, .int .i64 0, .int .i64 0, .slice none 0 0, .slice none 0 0], .oth it oi1, .oth gh oh, .oth ge oe, .oth ga oa, .oth gs os] ++ segG 3 1 (flat (ic .i64)) ((Gdh.map (fun x => srtG x.2) ++ Glh.map (·.2) ++ EG.map (·.2)).eraseIdx (Gdh.length + k)))) rfl ?_
      refine zE (zN ?_)
      exact TX.round (⟨(oi_h2, (A113, c113), Hsh ++ [hopG (p, s)], Gdh ++ [(p, s)], Glh.eraseIdx k), by rw [List.map_append]; exact hIh2, next_perm hph hk, by show _ ++ _ = _; rw [hHsh, List.map_append]; rfl, hA1131, hA1132⟩) (by show n_h - (Gdh ++ [(p, s)]).length < n_h - Gdh.length; rw [List.length_append]; show n_h - (Gdh.length + 1) < _; omega) ⟨rfl, rfl, rfl, rfl, rfl, rfl, trivial⟩ (fun w1 hw => Pm.segP (P := _) (s := (srtG s)) (hw.sel (.cons _ (.cons_cons _ (.cons _ (.cons_cons _ (.cons_cons _ (.cons_cons _ (.cons_cons _ (.cons_cons _ (.cons_cons _ (.cons_cons _ (.cons_cons _ (.cons_cons _ (.cons_cons _ (List.Sublist.refl _))))))))))))))) (perm_next (Gd := Gdh) (E := EG.map (·.2)) (f := fun x => srtG x.2) hk))
   ·obtain ⟨kv, hfs, rfl⟩ := map_some hfa
    have hkn : (lookS l).2 a ≠ none := by rw [hfs]; exact fun h => by cases h
    have hkr := known_rng hkn
    have hdl : ds.length ≤ l.length := by
     have h9 := spots_le (l := l) (D := ds.map (·.1)) (hI1.keys spot_key) fun s hs => by
      obtain ⟨p, hp, hps⟩ := List.mem_map.1 hs
      have h10 := (hI1.ok p hp).2
      rw [hps] at h10
      intro h11
      rw [h11] at h10
      cases h10
     rwa [List.length_map] at h9
    have har := lookS_rng hok a
    have har2 := lookS_rng hok (⟨a.flow, a.ttl + 1⟩ : Spot)
    have hpk : (⟨a.ttl, ((lookS l).1 a).getD 0⟩ : Place).Ok := ⟨ha.2, wfA har⟩
    have hsk : (⟨a.ttl, ((lookS l).1 a).getD 0, ((lookS l).1 (⟨a.flow, a.ttl + 1⟩ : Spot)).getD 0⟩ : Stp).Ok := ⟨ha.2, wfA har, wfA har2⟩
    have hnk : (⟨a.flow, a.ttl + 1⟩ : Spot).Ok := ⟨ha.1, wfI (by show -1000000 ≤ a.ttl + 1 ∧ a.ttl + 1 ≤ 1000000; omega)⟩
    try dsimp only [List.set_cons_zero, List.set_cons_succ]
    refine TL.ex ?_
    refine zET (zS (zc (zk (zT (zB (zSG ?_))))))
    refine TL.val rfl rfl rfl (gives_entryM (j := 2) rfl rfl (fun w1 hw => (hw.at_ (k := 6) rfl).1) rfl hI2) ?_
    refine TL.ex ?_
    refine TL.pnew rfl rfl rfl (exec_alloc (cs := [.int .i64 0, .int .i64 0]) rfl plkzv97 rfl) (fun g8 => ?_)
    refine TL.pstore (k := 0) (vs := a.cells) rfl rfl rfl rfl rfl rfl rfl plksz97 (spot_cel.one _) (by show 2 ≤ 2; decide) (L' := ([.blk g8 97 a.cells, .blk g4 91 [.int .i64 (endT l), .map (some ga), .map (some gs)], .blk g2 36 [.int .i64 0, .int .u32 0, .int .i64 0, .int .i64 0, .slice none 0 0, .slice none 0 0], .oth it oi2, .oth gh oh, .oth ge oe, .oth ga oa, .oth gs os] ++ segG 3 1 (flat (ic .i64)) (HG.map (·.2) ++ EG.map (·.2)))) rfl ?_
    refine zET (zS ?_)
    refine TC.pre 7 9 2 (Pm w [.blk g8 97 a.cells, .blk g4 91 [.int .i64 (endT l), .map (some ga), .map (some gs)], .oth ga oa]) (by kernel_rfl) rfl (fun w hw => hw.drawn _) (by kernel_rfl) rfl (fun w1 hw => hw.pick [0, 1, 6] (by decide) rfl) ?_
    refine TV.val rfl rfl rfl (gF pbdfld97_1) ?_
    refine TV.val rfl rfl rfl (gL 0 pcmag3) ?_
    refine TV.val rfl rfl rfl (gF plkfld91_1) ?_
    refine TV.val rfl rfl rfl (gL 1 plkag88) ?_
    refine TV.val rfl rfl rfl (gV 0 (.agg (a.cells).toArray) plkag97 plksz97) ?_
    refine TV.val rfl rfl rfl (gives_lookG (a := a) (v := .int .u32 (((lookS l).1 a).getD 0)) rfl rfl rfl spot_key Tryz.underlying88 (fun w => rfl) (i := 2) rfl hma.toG (ha) (by cases h9 : (lookS l).1 a <;> rfl)) ?_
    refine TV.val rfl rfl rfl (gives_build (v := .agg #[.int .i64 a.ttl, .int .u32 (((lookS l).1 a).getD 0)]) rfl rfl (fun w => pbdbld99_27270 _ _ w)) ?_
    refine TV.end_ (ls := #[Tt,Tt,Tt,Tt,Tt,Tt,Tt,Ff,Ff]) (by kernel_rfl) ?_
    refine TH.only' 7 rfl (by kernel_rfl) rfl ?_
    refine TL.pnew rfl rfl rfl (exec_alloc (cs := [.int .i64 0, .int .u32 0]) rfl pbdzv99 rfl) (fun g9 => ?_)
    refine zE ?_
    refine TX.held (fun w1 hw => hw.pick [1, 2, 7] (by decide) rfl) ?_
    refine TH.only' 8 rfl (by kernel_rfl) rfl ?_
    refine TL.pstore (k := 0) (vs := [.int .i64 a.ttl, .int .u32 (((lookS l).1 a).getD 0)]) rfl rfl rfl rfl rfl rfl rfl pbdsz99 pbdone_i64u32 (by show 2 ≤ 2; decide) (L' := ([.blk g9 99 [.int .i64 a.ttl, .int .u32 (((lookS l).1 a).getD 0)], .blk g8 97 a.cells, .blk g4 91 [.int .i64 (endT l), .map (some ga), .map (some gs)], .blk g2 36 [.int .i64 0, .int .u32 0, .int .i64 0, .int .i64 0, .slice none 0 0, .slice none 0 0], .oth it oi2, .oth gh oh, .oth ge oe, .oth ga oa, .oth gs os] ++ segG 3 1 (flat (ic .i64)) (HG.map (·.2) ++ EG.map (·.2)))) rfl ?_
    refine zE ?_
    refine TX.held (fun w1 hw => hw.pick [1, 2, 7] (by decide) rfl) ?_
    refine TH.done (by kernel_rfl) ?_
    refine zT ?_
    refine TC.join (α := {y : Obj × List (Place × Sg Int) // MapSG (fun s : Place => Value.agg s.cells.toArray) Place.Ok y.1 y.2 (addS (grp (placeK (lookS l).1) (ds.map (·.1))) (⟨a.ttl, ((lookS l).1 a).getD 0⟩ : Place) a.flow) ∧ ∀ x ∈ y.2, x.2.l ≠ []}) (fun y => [(0, .slice A0 l.length c0), (2, .pointer (some ⟨g2, 0, none⟩)), (4, .pointer (some ⟨g4, 0, none⟩)), (6, .map (some gh)), (7, .map (some ge)), (35, .pointer (some ⟨it, 0, none⟩)), (8, .pointer (some ⟨g8, 0, none⟩)), (9, .pointer (some ⟨g9, 0, none⟩))]) (fun y => Pm w ([.blk g9 99 [.int .i64 a.ttl, .int .u32 (((lookS l).1 a).getD 0)], .blk g8 97 a.cells, .blk g4 91 [.int .i64 (endT l), .map (some ga), .map (some gs)], .blk g2 36 [.int .i64 0, .int .u32 0, .int .i64 0, .int .i64 0, .slice none 0 0, .slice none 0 0], .oth it oi2, .oth gh y.1.1, .oth ge oe, .oth ga oa, .oth gs os] ++ segG 3 1 (flat (ic .i64)) (y.1.2.map (·.2) ++ EG.map (·.2)))) ?_ ?_
    ·obtain ⟨fh, hmh, hfh⟩ := hH.map
     rcases hfi : HG.find? (fun p => decide (p.1 = (⟨a.ttl, ((lookS l).1 a).getD 0⟩ : Place))) with _ | pk
     ·refine zG ?_
      refine TL.mv ?_
      refine TL.v (gV 0 (.agg #[.int .i64 a.ttl, .int .u32 (((lookS l).1 a).getD 0)]) pbdag99 pbdsz99) ?_
      refine TL.v (gF pbdfld97_0) ?_
      refine TL.v (gL 1 pcmag3) ?_
      refine TL.prowS (e := 3) (size := 1) (cs := flat (ic .i64) [a.flow]) rfl rfl rfl rfl rfl (fun w => pbdbs48_1_5377 _ w) (by decide) rfl (fun g52 => ?_)
      refine TL.mapentry (i := 6) (a := (⟨a.ttl, ((lookS l).1 a).getD 0⟩ : Place)) rfl rfl rfl rfl rfl rfl place_key Tryz.underlying94 (fun w => rfl) rfl hgh hmh hpk (v := .slice none 0 0) (by rw [hfh, hfi]; rfl) (fun oh2 stp hmh2 hstp => ?_)
      try dsimp only [List.set_cons_zero, List.set_cons_succ]
      refine TL.ex ?_
      refine TL.nilrow 3 1 ?_
      refine TL.appendT (k := 0) rfl rfl rfl rfl Tryz.underlying48 pbdel48 rfl rfl rfl (fun w1 hw => pm_reads hw (k := 1) rfl) (flat_one (ic_cel .i64) _) (by show _ * 8 ≤ _; omega) (([a.flow]).length) (by simp) (flat (ic .i64) ([a.flow])) (rfl) (fun A54 c54 hA541 hA542 => ?_)
      refine TL.ex ?_
      refine TL.entrystore (i := 7) (a := (⟨a.ttl, ((lookS l).1 a).getD 0⟩ : Place)) (s := stp) rfl rfl rfl rfl rfl rfl place_key Tryz.underlying94 rfl hgh hmh2 hpk hstp (fun oh3 hmh3 => ?_)
      rw [upd_twice] at hmh3
      try dsimp only [List.set_cons_zero, List.set_cons_succ]
      refine zE ?_
      exact TX.joined (⟨(oh3, (HG ++ [((⟨a.ttl, ((lookS l).1 a).getD 0⟩ : Place), (⟨A54, c54, [a.flow]⟩ : Sg Int))])), hH.new hfi hfh hmh3, ne_new hHn (by simp)⟩) (⟨rfl, rfl, rfl, rfl, rfl, rfl, rfl, rfl, trivial⟩) (fun w1 hw => Pm.segP (P := _) (s := (⟨A54, c54, [a.flow]⟩ : Sg Int)) (hw.sel (.cons_cons _ (.cons _ (.cons_cons _ (.cons_cons _ (.cons_cons _ (.cons_cons _ (.cons_cons _ (.cons_cons _ (.cons_cons _ (.cons_cons _ (.cons_cons _ (List.Sublist.refl _))))))))))))) (perm_newL))
     ·obtain ⟨k, s, hks, rfl⟩ := find_at hfi
      have hsl : s.l.length ≤ 100000 := by have h8 := hH.sp (⟨a.ttl, ((lookS l).1 a).getD 0⟩ : Place); rw [getS_of hfi] at h8; rw [h8]; exact Nat.le_trans (grp_len _ _ _) (by rw [List.length_map]; omega)
      refine TC.mem (fun w1 hw => Pm.segOut (P := _) hw (app_l (map_at hks))) ?_
      refine zG ?_
      refine TL.mv ?_
      refine TL.v (gV 1 (.agg #[.int .i64 a.ttl, .int .u32 (((lookS l).1 a).getD 0)]) pbdag99 pbdsz99) ?_
      refine TL.v (gF pbdfld97_0) ?_
      refine TL.v (gL 2 pcmag3) ?_
      refine TL.prowS (e := 3) (size := 1) (cs := flat (ic .i64) [a.flow]) rfl rfl rfl rfl rfl (fun w => pbdbs48_1_5377 _ w) (by decide) rfl (fun g52 => ?_)
      refine TL.mapentry (i := 7) (a := (⟨a.ttl, ((lookS l).1 a).getD 0⟩ : Place)) rfl rfl rfl rfl rfl rfl place_key Tryz.underlying94 (fun w => rfl) rfl hgh hmh hpk (v := .slice s.A s.l.length s.c) (by rw [hfh, hfi]; rfl) (fun oh2 stp hmh2 hstp => ?_)
      try dsimp only [List.set_cons_zero, List.set_cons_succ]
      refine TL.ex ?_
      refine TL.appendT (k := 1) rfl rfl rfl rfl Tryz.underlying48 pbdel48 rfl rfl rfl (fun w1 hw => pm_reads hw (k := 0) rfl) (flat_one (ic_cel .i64) _) (by show _ * 8 ≤ _; omega) ((s.l ++ [a.flow]).length) (by rw [List.length_append]; rfl) (flat (ic .i64) (s.l ++ [a.flow])) ((flat_app _ _).symm) (fun A54 c54 hA541 hA542 => ?_)
      refine TL.ex ?_
      refine TL.entrystore (i := 7) (a := (⟨a.ttl, ((lookS l).1 a).getD 0⟩ : Place)) (s := stp) rfl rfl rfl rfl rfl rfl place_key Tryz.underlying94 rfl hgh hmh2 hpk hstp (fun oh3 hmh3 => ?_)
      rw [upd_twice] at hmh3
      try dsimp only [List.set_cons_zero, List.set_cons_succ]
      refine zE ?_
      exact TX.joined (⟨(oh3, (HG.set k ((⟨a.ttl, ((lookS l).1 a).getD 0⟩ : Place), (⟨A54, c54, s.l ++ [a.flow]⟩ : Sg Int)))), hH.old hfi hks hfh hmh3, ne_set hHn (by simp)⟩) (⟨rfl, rfl, rfl, rfl, rfl, rfl, rfl, rfl, trivial⟩) (fun w1 hw => Pm.segP (P := _) (s := (⟨A54, c54, s.l ++ [a.flow]⟩ : Sg Int)) (hw.sel (.cons _ (.cons_cons _ (.cons_cons _ (.cons_cons _ (.cons_cons _ (.cons_cons _ (.cons_cons _ (.cons_cons _ (.cons_cons _ (.cons_cons _ (.cons_cons _ (List.Sublist.refl _))))))))))))) (perm_oldL hks))
    ·rintro ⟨⟨oh1, HG1⟩, hH1, hHn1⟩
     dsimp only at hH1 hHn1 ⊢
     have hH1 : MapSG (fun s : Place => Value.agg s.cells.toArray) Place.Ok oh1 HG1 (grp (placeK (lookS l).1) ((ds ++ [(a, Value.int .i64 kv)]).map (·.1))) := by rw [List.map_append]; show MapSG _ _ _ _ (grp _ (_ ++ [a])); rw [grp_snoc (key := placeK (lookS l).1) (s := a) (p := (⟨a.ttl, ((lookS l).1 a).getD 0⟩ : Place)) rfl]; exact hH1
     refine zSG ?_
     refine TL.v (gF pbdfld97_0) ?_
     refine TL.v (gL 1 pcmag3) ?_
     refine TL.v (gF pbdfld97_1) ?_
     refine TL.v (gL 1 pcmag3) ?_
     refine TL.v (gD (a.ttl + 1)) ?_
     refine TL.val rfl rfl rfl (gives_build (v := .agg #[.int .i64 a.flow, .int .i64 (a.ttl + 1)]) rfl rfl (fun w => plkbld97_27266 _ _ w)) ?_
     refine TL.pnew rfl rfl rfl (exec_alloc (cs := [.int .i64 0, .int .i64 0]) rfl plkzv97 rfl) (fun g10 => ?_)
     refine TL.pstore (k := 0) (vs := [.int .i64 a.flow, .int .i64 (a.ttl + 1)]) rfl rfl rfl rfl rfl rfl rfl plksz97 plkone_i64i64 (by show 2 ≤ 2; decide) (L' := ([.blk g10 97 [.int .i64 a.flow, .int .i64 (a.ttl + 1)], .blk g9 99 [.int .i64 a.ttl, .int .u32 (((lookS l).1 a).getD 0)], .blk g8 97 a.cells, .blk g4 91 [.int .i64 (endT l), .map (some ga), .map (some gs)], .blk g2 36 [.int .i64 0, .int .u32 0, .int .i64 0, .int .i64 0, .slice none 0 0, .slice none 0 0], .oth it oi2, .oth gh oh1, .oth ge oe, .oth ga oa, .oth gs os] ++ segG 3 1 (flat (ic .i64)) (HG1.map (·.2) ++ EG.map (·.2)))) rfl ?_
     refine zET (zSG ?_)
     refine TL.v (gV 3 (.agg #[.int .i64 (endT l), .map (some ga), .map (some gs)]) plkag91 plksz91) ?_
     refine TL.v (gF pbdfld97_0) ?_
     refine TL.v (gL 0 pcmag3) ?_
     refine TL.v (gF pbdfld97_1) ?_
     refine TL.v (gL 0 pcmag3) ?_
     refine TL.callsplit rfl rfl rfl rfl rfl Tryz.func60 (by decide) rfl (fun w1 hw => has_any (endT l) ga gs os (lookS l).2 a.flow (a.ttl + 1) w1 (hw.at_ (k := 9) rfl).1 hms hnk) (fun h67 => ?_) (fun h67 => ?_)
     ·refine zET (zc (zS ?_))
      refine TC.pre 11 13 2 (Pm w [.blk g10 97 [.int .i64 a.flow, .int .i64 (a.ttl + 1)], .blk g8 97 a.cells, .blk g4 91 [.int .i64 (endT l), .map (some ga), .map (some gs)], .oth ga oa]) (by kernel_rfl) rfl (fun w hw => hw.drawn _) (by kernel_rfl) rfl (fun w1 hw => hw.pick [0, 2, 3, 8] (by decide) rfl) ?_
      refine TV.val rfl rfl rfl (gF pbdfld97_1) ?_
      refine TV.val rfl rfl rfl (gL 1 pcmag3) ?_
      refine TV.val rfl rfl rfl (gF plkfld91_1) ?_
      refine TV.val rfl rfl rfl (gL 2 plkag88) ?_
      refine TV.val rfl rfl rfl (gV 1 (.agg (a.cells).toArray) plkag97 plksz97) ?_
      refine TV.val rfl rfl rfl (gives_lookG (a := a) (v := .int .u32 (((lookS l).1 a).getD 0)) rfl rfl rfl spot_key Tryz.underlying88 (fun w => rfl) (i := 3) rfl hma.toG (ha) (by cases h9 : (lookS l).1 a <;> rfl)) ?_
      refine TV.val rfl rfl rfl (gF plkfld91_1) ?_
      refine TV.val rfl rfl rfl (gL 2 plkag88) ?_
      refine TV.val rfl rfl rfl (gV 0 (.agg #[.int .i64 a.flow, .int .i64 (a.ttl + 1)]) plkag97 plksz97) ?_
      refine TV.val rfl rfl rfl (gives_lookG (a := (⟨a.flow, a.ttl + 1⟩ : Spot)) (v := .int .u32 (((lookS l).1 (⟨a.flow, a.ttl + 1⟩ : Spot)).getD 0)) rfl rfl rfl spot_key Tryz.underlying88 (fun w => rfl) (i := 3) rfl hma.toG (hnk) (by cases h9 : (lookS l).1 (⟨a.flow, a.ttl + 1⟩ : Spot) <;> rfl)) ?_
      refine TV.val rfl rfl rfl (gives_build (v := .agg #[.int .i64 a.ttl, .int .u32 (((lookS l).1 a).getD 0), .int .u32 (((lookS l).1 (⟨a.flow, a.ttl + 1⟩ : Spot)).getD 0)]) rfl rfl (fun w => pbdbld102_60071 _ _ _ w)) ?_
      refine TV.end_ (ls := #[Tt,Tt,Tt,Tt,Tt,Tt,Tt,Tt,Tt,Tt,Tt,Ff,Ff]) (by kernel_rfl) ?_
      refine TH.only' 11 rfl (by kernel_rfl) rfl ?_
      refine TL.pnew rfl rfl rfl (exec_alloc (cs := [.int .i64 0, .int .u32 0, .int .u32 0]) rfl pbdzv102 rfl) (fun g11 => ?_)
      refine zE ?_
      refine TX.held (fun w1 hw => hw.pick [1, 3, 4, 9] (by decide) rfl) ?_
      refine TH.only' 12 rfl (by kernel_rfl) rfl ?_
      refine TL.pstore (k := 0) (vs := [.int .i64 a.ttl, .int .u32 (((lookS l).1 a).getD 0), .int .u32 (((lookS l).1 (⟨a.flow, a.ttl + 1⟩ : Spot)).getD 0)]) rfl rfl rfl rfl rfl rfl rfl pbdsz102 pbdone_i64u32u32 (by show 3 ≤ 3; decide) (L' := ([.blk g11 102 [.int .i64 a.ttl, .int .u32 (((lookS l).1 a).getD 0), .int .u32 (((lookS l).1 (⟨a.flow, a.ttl + 1⟩ : Spot)).getD 0)], .blk g10 97 [.int .i64 a.flow, .int .i64 (a.ttl + 1)], .blk g9 99 [.int .i64 a.ttl, .int .u32 (((lookS l).1 a).getD 0)], .blk g8 97 a.cells, .blk g4 91 [.int .i64 (endT l), .map (some ga), .map (some gs)], .blk g2 36 [.int .i64 0, .int .u32 0, .int .i64 0, .int .i64 0, .slice none 0 0, .slice none 0 0], .oth it oi2, .oth gh oh1, .oth ge oe, .oth ga oa, .oth gs os] ++ segG 3 1 (flat (ic .i64)) (HG1.map (·.2) ++ EG.map (·.2)))) rfl ?_
      refine zE ?_
      refine TX.held (fun w1 hw => hw.pick [1, 3, 4, 9] (by decide) rfl) ?_
      refine TH.done (by kernel_rfl) ?_
      refine zT ?_
      obtain ⟨fe, hme, hfe⟩ := hE.map
      rcases hfi : EG.find? (fun p => decide (p.1 = (⟨a.ttl, ((lookS l).1 a).getD 0, ((lookS l).1 (⟨a.flow, a.ttl + 1⟩ : Spot)).getD 0⟩ : Stp))) with _ | pk
      ·refine zG ?_
       refine TL.mv ?_
       refine TL.v (gV 0 (.agg #[.int .i64 a.ttl, .int .u32 (((lookS l).1 a).getD 0), .int .u32 (((lookS l).1 (⟨a.flow, a.ttl + 1⟩ : Spot)).getD 0)]) pbdag102 pbdsz102) ?_
       refine TL.v (gF pbdfld97_0) ?_
       refine TL.v (gL 3 pcmag3) ?_
       refine TL.prowS (e := 3) (size := 1) (cs := flat (ic .i64) [a.flow]) rfl rfl rfl rfl rfl (fun w => pbdbs48_1_5377 _ w) (by decide) rfl (fun g84 => ?_)
       refine TL.mapentry (i := 9) (a := (⟨a.ttl, ((lookS l).1 a).getD 0, ((lookS l).1 (⟨a.flow, a.ttl + 1⟩ : Spot)).getD 0⟩ : Stp)) rfl rfl rfl rfl rfl rfl stp_key Tryz.underlying95 (fun w => rfl) rfl hge hme hsk (v := .slice none 0 0) (by rw [hfe, hfi]; rfl) (fun oe2 stp hme2 hstp => ?_)
       try dsimp only [List.set_cons_zero, List.set_cons_succ]
       refine TL.ex ?_
       refine TL.nilrow 3 1 ?_
       refine TL.appendT (k := 0) rfl rfl rfl rfl Tryz.underlying48 pbdel48 rfl rfl rfl (fun w1 hw => pm_reads hw (k := 1) rfl) (flat_one (ic_cel .i64) _) (by show _ * 8 ≤ _; omega) (([a.flow]).length) (by simp) (flat (ic .i64) ([a.flow])) (rfl) (fun A86 c86 hA861 hA862 => ?_)
       refine TL.ex ?_
       refine TL.entrystore (i := 10) (a := (⟨a.ttl, ((lookS l).1 a).getD 0, ((lookS l).1 (⟨a.flow, a.ttl + 1⟩ : Spot)).getD 0⟩ : Stp)) (s := stp) rfl rfl rfl rfl rfl rfl stp_key Tryz.underlying95 rfl hge hme2 hsk hstp (fun oe3 hme3 => ?_)
       rw [upd_twice] at hme3
       try dsimp only [List.set_cons_zero, List.set_cons_succ]
       refine zE (zN ?_)
       exact TX.round (⟨(ds ++ [(a, .int .i64 kv)], oi2, oh1, oe3, HG1, (EG ++ [((⟨a.ttl, ((lookS l).1 a).getD 0, ((lookS l).1 (⟨a.flow, a.ttl + 1⟩ : Spot)).getD 0⟩ : Stp), (⟨A86, c86, [a.flow]⟩ : Sg Int))])), hI2, hH1, by rw [List.map_append]; show MapSG _ _ _ _ (grp _ (_ ++ [a])); rw [grp_snoc (stepKey_some h67)]; exact hE.new hfi hfe hme3, hHn1, ne_new hEn (by simp)⟩) (by show n - (ds ++ [(a, _)]).length < n - ds.length; rw [List.length_append]; show n - (ds.length + 1) < _; omega) ⟨rfl, rfl, rfl, rfl, rfl, rfl, trivial⟩ (fun w1 hw => Pm.segP (P := _) (s := (⟨A86, c86, [a.flow]⟩ : Sg Int)) (hw.sel (.cons_cons _ (.cons _ (.cons _ (.cons _ (.cons _ (.cons _ (.cons_cons _ (.cons_cons _ (.cons_cons _ (.cons_cons _ (.cons_cons _ (.cons_cons _ (.cons_cons _ (List.Sublist.refl _))))))))))))))) (perm_newR))
      ·obtain ⟨k, s, hks, rfl⟩ := find_at hfi
       have hsl : s.l.length ≤ 100000 := by have h8 := hE.sp (⟨a.ttl, ((lookS l).1 a).getD 0, ((lookS l).1 (⟨a.flow, a.ttl + 1⟩ : Spot)).getD 0⟩ : Stp); rw [getS_of hfi] at h8; rw [h8]; exact Nat.le_trans (grp_len _ _ _) (by rw [List.length_map]; omega)
       refine TC.mem (fun w1 hw => Pm.segOut (P := _) hw (app_r (map_at hks))) ?_
       refine zG ?_
       refine TL.mv ?_
       refine TL.v (gV 1 (.agg #[.int .i64 a.ttl, .int .u32 (((lookS l).1 a).getD 0), .int .u32 (((lookS l).1 (⟨a.flow, a.ttl + 1⟩ : Spot)).getD 0)]) pbdag102 pbdsz102) ?_
       refine TL.v (gF pbdfld97_0) ?_
       refine TL.v (gL 4 pcmag3) ?_
       refine TL.prowS (e := 3) (size := 1) (cs := flat (ic .i64) [a.flow]) rfl rfl rfl rfl rfl (fun w => pbdbs48_1_5377 _ w) (by decide) rfl (fun g84 => ?_)
       refine TL.mapentry (i := 10) (a := (⟨a.ttl, ((lookS l).1 a).getD 0, ((lookS l).1 (⟨a.flow, a.ttl + 1⟩ : Spot)).getD 0⟩ : Stp)) rfl rfl rfl rfl rfl rfl stp_key Tryz.underlying95 (fun w => rfl) rfl hge hme hsk (v := .slice s.A s.l.length s.c) (by rw [hfe, hfi]; rfl) (fun oe2 stp hme2 hstp => ?_)
       try dsimp only [List.set_cons_zero, List.set_cons_succ]
       refine TL.ex ?_
       refine TL.appendT (k := 1) rfl rfl rfl rfl Tryz.underlying48 pbdel48 rfl rfl rfl (fun w1 hw => pm_reads hw (k := 0) rfl) (flat_one (ic_cel .i64) _) (by show _ * 8 ≤ _; omega) ((s.l ++ [a.flow]).length) (by rw [List.length_append]; rfl) (flat (ic .i64) (s.l ++ [a.flow])) ((flat_app _ _).symm) (fun A86 c86 hA861 hA862 => ?_)
       refine TL.ex ?_
       refine TL.entrystore (i := 10) (a := (⟨a.ttl, ((lookS l).1 a).getD 0, ((lookS l).1 (⟨a.flow, a.ttl + 1⟩ : Spot)).getD 0⟩ : Stp)) (s := stp) rfl rfl rfl rfl rfl rfl stp_key Tryz.underlying95 rfl hge hme2 hsk hstp (fun oe3 hme3 => ?_)
       rw [upd_twice] at hme3
       try dsimp only [List.set_cons_zero, List.set_cons_succ]
       refine zE (zN ?_)
       exact TX.round (⟨(ds ++ [(a, .int .i64 kv)], oi2, oh1, oe3, HG1, (EG.set k ((⟨a.ttl, ((lookS l).1 a).getD 0, ((lookS l).1 (⟨a.flow, a.ttl + 1⟩ : Spot)).getD 0⟩ : Stp), (⟨A86, c86, s.l ++ [a.flow]⟩ : Sg Int)))), hI2, hH1, by rw [List.map_append]; show MapSG _ _ _ _ (grp _ (_ ++ [a])); rw [grp_snoc (stepKey_some h67)]; exact hE.old hfi hks hfe hme3, hHn1, ne_set hEn (by simp)⟩) (by show n - (ds ++ [(a, _)]).length < n - ds.length; rw [List.length_append]; show n - (ds.length + 1) < _; omega) ⟨rfl, rfl, rfl, rfl, rfl, rfl, trivial⟩ (fun w1 hw => Pm.segP (P := _) (s := (⟨A86, c86, s.l ++ [a.flow]⟩ : Sg Int)) (hw.sel (.cons _ (.cons_cons _ (.cons _ (.cons _ (.cons _ (.cons _ (.cons_cons _ (.cons_cons _ (.cons_cons _ (.cons_cons _ (.cons_cons _ (.cons_cons _ (.cons_cons _ (List.Sublist.refl _))))))))))))))) (perm_oldR hks))
     ·refine zET (zd (zk (zN ?_)))
      exact TX.round (⟨(ds ++ [(a, .int .i64 kv)], oi2, oh1, oe, HG1, EG), hI2, hH1, by rw [List.map_append]; show MapSG _ _ _ _ (grp _ (_ ++ [a])); rw [grp_skip (stepKey_none h67)]; exact hE, hHn1, hEn⟩) (by show n - (ds ++ [(a, _)]).length < n - ds.length; rw [List.length_append]; show n - (ds.length + 1) < _; omega) ⟨rfl, rfl, rfl, rfl, rfl, rfl, trivial⟩ (fun w1 hw => hw.sel (.cons _ (.cons _ (.cons _ (.cons_cons _ (.cons_cons _ (.cons_cons _ (.cons_cons _ (.cons_cons _ (.cons_cons _ (.cons_cons _ (List.Sublist.refl _))))))))))))
set_option maxRecDepth 20000
def wireE (e : Ed) : Bool := !decide (e.frm = 0) && !decide (e.to_ = 0)
def edW (e : Ed) : Wre := ⟨e.frm, e.to_⟩
def wrk (x : Wre) : List Int := [x.frm, x.to_]
theorem wrk_inj {a b : Wre} (h : wrk a = wrk b) : a = b := by
 obtain ⟨a1, a2⟩ := a
 obtain ⟨b1, b2⟩ := b
 simp only [wrk, List.cons.injEq, and_true] at h
 rw [h.1, h.2]
def IsWr (es : List Ed) (o : List Wre) : Prop := AscK wrk o ∧ ∀ x, x ∈ o ↔ ∃ e ∈ es, wireE e = true ∧ edW e = x
theorem IsWr.eq {l : List Ed} {o o' : List Wre} (h : IsWr l o) (h' : IsWr l o') : o = o' := ascK_eq (n := 2) (fun _ => rfl) h.1 h'.1 fun x => by rw [h.2, h'.2]
theorem isWr_of {l : List Ed} {o s : List Wre} (ho : (l.filter wireE).map edW = o) (hs : Sorted cmpW o s) : IsWr l (cptG s) := by
 refine ⟨cptG_asc (key := wrk) (n := 2) (fun _ => rfl) s hs.2 fun x hx y hy h => wrk_inj h, fun t => ?_⟩
 rw [mem_cptG, hs.1.mem_iff, ← ho, List.mem_map]
 constructor
 ·rintro ⟨r, hr, e⟩
  have := List.mem_filter.1 hr
  exact ⟨r, this.1, this.2, e⟩
 ·rintro ⟨r, h1, h2, e⟩
  exact ⟨r, List.mem_filter.2 ⟨h1, h2⟩, e⟩
theorem wr_snoc_t {l : List Ed} {i : Nat} {x : Ed} {o : List Wre} (hx : l[i]? = some x) (h : wireE x = true) (ho : ((l.take i).filter wireE).map edW = o) : ((l.take (i + 1)).filter wireE).map edW = o ++ [edW x] := by
 rw [List.take_add_one, hx, List.filter_append, List.map_append, ho]
 simp [h]
theorem wr_snoc_f {l : List Ed} {i : Nat} {x : Ed} {o : List Wre} (hx : l[i]? = some x) (h : wireE x = false) (ho : ((l.take i).filter wireE).map edW = o) : ((l.take (i + 1)).filter wireE).map edW = o := by
 rw [List.take_add_one, hx, List.filter_append, List.map_append, ho]
 simp [h]
theorem pwisz63 (w : World) : (sizeOf 63).run Tryz.prog w = .ok 4 w := rfl
theorem pwiag63 (w : World) : (isAgg 63).run Tryz.prog w = .ok true w := rfl
theorem pwizv63 (w : World) : (zeroValue 63).run Tryz.prog w = .ok (.agg #[.int .i64 0, .int .u32 0, .int .u32 0, .slice none 0 0]) w := rfl
theorem pwibld54_27256 (a0_0 : Int) (a1_0 : Int) (w : World) : (Instr.build 54 #[(0, .int .u32 a0_0), (1, .int .u32 a1_0)]).run Tryz.prog w = .ok (.agg #[.int .u32 a0_0, .int .u32 a1_0]) w := by kernel_rfl
theorem pwibs51_1_20251 (a0_0 : Int) (a0_1 : Int) (w : World) : (Instr.buildSlice 51 1 #[(0, .agg #[.int .u32 a0_0, .int .u32 a0_1])]).run Tryz.prog w = .ok (.slice (some ⟨w.heap.size, 0, none⟩) 1 1) (w.alloc (.cells [.int .u32 a0_0, .int .u32 a0_1].toArray 54)) := by kernel_rfl
theorem pwiel51 : Elem Tryz.prog 51 54 2 8 := Elem.mk' Tryz.underlying51 (z := .agg #[.int .u32 0, .int .u32 0]) (by kernel_rfl) rfl (by omega) (by omega)
set_option maxHeartbeats 1000000 in
theorem wires_any (m : Mp) (w : World) (hr : Reads w w.heap.size 4 m.edges.A m.edges.l.length (flat Ed.cells m.edges.l)) (hl1 : m.edges.l.length ≤ 100000) :
  Calls Tryz.prog 18 #[.agg m.cells.toArray] w fun e w' => ∃ x : {y : (Option Addr × Nat) × List Wre // IsWr m.edges.l y.2 ∧ y.2.length ≤ y.1.2 ∧ y.1.2 ≤ maxLen}, e = .returned (.slice x.1.1.1 x.1.2.length x.1.1.2) ∧ Pm w [.row (.slice x.1.1.1 x.1.2.length x.1.1.2) 54 2 x.1.2.length (flat Wre.cells x.1.2)] w' := by
 refine begin_ (vs := [.agg m.cells.toArray]) Tryz.func18 rfl rfl rfl ?_ (Pm.start w)
 refine zSG ?_
 refine TL.pnew rfl rfl rfl (exec_box (cs := m.cells) rfl rfl rfl) (fun g1 => ?_)
 refine TL.as_ ?_
 refine zET (zSG ?_)
 refine TL.as_ ?_
 refine zET (zS (zSG ?_))
 refine TL.v (gF pbdfld36_3) ?_
 refine TL.v (gL 0 pbdag34) ?_
 refine TL.v (gN Tryz.underlying34) ?_
 refine TL.mv ?_
 refine zET (zB ?_)
 refine TC.nilrow 54 2 ?_
 refine TC.loop_ (α := {y : Nat × (Option Addr × Nat) × List Wre // y.1 ≤ m.edges.l.length ∧ (((m.edges.l.take y.1).filter wireE).map edW = y.2.2) ∧ y.2.2.length ≤ y.1 ∧ y.2.2.length ≤ y.2.1.2 ∧ y.2.1.2 ≤ maxLen}) (fun y => [(7, .slice m.edges.A m.edges.l.length m.edges.c), (8, .int .i64 (m.edges.l.length : Nat)), (9, .int .i64 ((y.1.1 : Nat) : Int)), (3, .slice y.1.2.1.1 y.1.2.2.length y.1.2.1.2)]) (fun y => Pm w [.row (.slice y.1.2.1.1 y.1.2.2.length y.1.2.1.2) 54 2 y.1.2.2.length (flat Wre.cells y.1.2.2), .blk g1 36 m.cells]) (fun y => m.edges.l.length - y.1.1) (⟨(0, (none, 0), []), Nat.zero_le _, rfl, Nat.le_refl _, Nat.le_refl _, Nat.zero_le _⟩) ⟨rfl, rfl, rfl, rfl, trivial⟩ (fun w1 hw => hw) ?_
 rintro ⟨⟨i, ⟨Ao, co⟩, out⟩, hi, hout, houtl, houtc, houtm⟩
 dsimp only at hi hout houtl houtc houtm ⊢
 refine zSG ?_
 refine TL.sp bin_lss (fun q10 => ?_) (fun q10 => ?_)
 ·refine zET (zS (zc (zk (zT (zS (zB (zSG ?_)))))))
  have hi11 : i < m.edges.l.length := by omega
  obtain ⟨x11, hx11⟩ := ex_at hi11
  obtain ⟨b11, o11, hA11, hbb11, hc11⟩ := hr.ad (by omega) (by decide)
  refine TL.val rfl rfl rfl (gA (i := i) Tryz.underlying34 pwisz63 rfl rfl rfl rfl hA11 (by omega)) ?_
  refine TL.v (gR ed_cel pwiag63 pwisz63 hbb11 hx11 hc11) ?_
  refine TL.pnew rfl rfl rfl (exec_alloc (cs := [.int .i64 0, .int .u32 0, .int .u32 0, .slice none 0 0]) rfl pwizv63 rfl) (fun g5 => ?_)
  refine TL.pstore (k := 0) (vs := x11.cells) rfl rfl rfl rfl rfl rfl rfl pwisz63 (ed_cel.one _) (by show 4 ≤ 4; decide) rfl ?_
  refine zET (zSG ?_)
  refine TL.v (gF pcmfld63_1) ?_
  refine TL.v (gL 0 pcmag30) ?_
  refine TL.sp bin_neq (fun q15 => ?_) (fun q15 => ?_)
  ·refine TL.mv ?_
   refine TL.ov (gF pcmfld63_2) ?_
   refine TL.ov (gL 0 pcmag30) ?_
   refine TL.gu ?_
   refine TL.sp bin_neq (fun q19 => ?_) (fun q19 => ?_)
   ·refine TL.pk ?_
    refine zET (zc (zG ?_))
    refine TL.mv ?_
    refine TL.v (gF pcmfld63_1) ?_
    refine TL.v (gL 0 pcmag30) ?_
    refine TL.v (gF pcmfld63_2) ?_
    refine TL.v (gL 0 pcmag30) ?_
    refine TL.val rfl rfl rfl (gives_build (v := .agg #[.int .u32 x11.frm, .int .u32 x11.to_]) rfl rfl (fun w => pwibld54_27256 _ _ w)) ?_
    refine TL.prowS (e := 54) (size := 2) (cs := flat Wre.cells [(⟨x11.frm, x11.to_⟩ : Wre)]) rfl rfl rfl rfl rfl (fun w => pwibs51_1_20251 _ _ w) (by decide) rfl (fun g27 => ?_)
    refine TL.appendT (k := 2) rfl rfl rfl rfl Tryz.underlying51 pwiel51 rfl rfl rfl (fun w1 hw => pm_reads hw (k := 0) rfl) (flat_one wre_cel _) (by show _ * 8 ≤ _; omega) ((out ++ [(⟨x11.frm, x11.to_⟩ : Wre)]).length) (by rw [List.length_append]; rfl) (flat Wre.cells (out ++ [(⟨x11.frm, x11.to_⟩ : Wre)])) ((flat_app _ _).symm) (fun A28 c28 hA281 hA282 => ?_)
    refine TL.as_ ?_
    refine zE (zN (zT (zG ?_)))
    refine TL.v (gD ((i + 1 : Nat) : Int)) ?_
    refine TL.mv ?_
    refine zE ?_
    exact TX.round (⟨(i + 1, (A28, c28), out ++ [(⟨x11.frm, x11.to_⟩ : Wre)]), by dsimp only; omega, wr_snoc_t hx11 (by simp [wireE, q10, q15, q19] <;> omega) hout, by dsimp only; rw [List.length_append]; show out.length + 1 ≤ _; omega, hA281, hA282⟩) (by show m.edges.l.length - (i + 1) < m.edges.l.length - i; omega) ⟨rfl, rfl, rfl, rfl, trivial⟩ (fun w1 hw => hw.pick [2, 3] (by decide) rfl)
   ·refine TL.pk ?_
    refine zET (zd (zk (zN (zT (zG ?_)))))
    refine TL.v (gD ((i + 1 : Nat) : Int)) ?_
    refine TL.mv ?_
    refine zE ?_
    exact TX.round (⟨(i + 1, (Ao, co), out), by dsimp only; omega, wr_snoc_f hx11 (by simp [wireE, q10, q15, q19] <;> omega) hout, by dsimp only; omega, houtc, houtm⟩) (by show m.edges.l.length - (i + 1) < m.edges.l.length - i; omega) ⟨rfl, rfl, rfl, rfl, trivial⟩ (fun w1 hw => hw.pick [1, 2] (by decide) rfl)
  ·refine TL.rn 5 rfl ?_
   refine zET (zd (zk (zN (zT (zG ?_)))))
   refine TL.v (gD ((i + 1 : Nat) : Int)) ?_
   refine TL.mv ?_
   refine zE ?_
   exact TX.round (⟨(i + 1, (Ao, co), out), by dsimp only; omega, wr_snoc_f hx11 (by simp [wireE, q10, q15] <;> omega) hout, by dsimp only; omega, houtc, houtm⟩) (by show m.edges.l.length - (i + 1) < m.edges.l.length - i; omega) ⟨rfl, rfl, rfl, rfl, trivial⟩ (fun w1 hw => hw.pick [1, 2] (by decide) rfl)
 ·refine zET (zS (zd (zx (zX (zX (zM (zT (zSG ?_))))))))
  refine TL.mv ?_
  refine TL.turnRowD (k := 0) (fun ys => Sorted cmpW out ys) rfl rfl rfl rfl rfl Tryz.func71 (by decide) rfl rfl (fun w1 hw hr9 => sortWre hr9 (rfl) (by omega)) (fun srt31 hS31 => ?_)
  try dsimp only [List.set_cons_zero, List.set_cons_succ]
  refine zET (zSG ?_)
  refine TL.mv ?_
  refine TL.turnRow2 (q := 0) (ys := cptG srt31) rfl rfl rfl rfl rfl Tryz.func73 (by decide) rfl rfl (fun w1 hw hr9 => compactWre hr9 (hS31.1.length_eq) (by omega)) ?_
  try dsimp only [List.set_cons_zero, List.set_cons_succ]
  refine TL.as_ ?_
  refine zET (zr ?_)
  have hle : (cptG srt31).length ≤ out.length := Nat.le_trans (cptG_le _) (Nat.le_of_eq hS31.1.length_eq)
  exact ret_tmp Tryz.results18 rfl (fun w1 hw => ⟨⟨((Ao, co), cptG srt31), isWr_of (by rw [List.take_of_length_le (by omega)] at hout; exact hout) hS31, by dsimp only; omega, houtm⟩, rfl, hw.pick [0] (by decide) rfl⟩)
end Go.Proofs.YtnejdeklnmkhbaaGreat
