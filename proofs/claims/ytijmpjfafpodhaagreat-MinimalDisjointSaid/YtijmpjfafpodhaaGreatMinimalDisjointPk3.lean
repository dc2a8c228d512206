/-
  Texts of the proof, joined: AnBl, AnSt, AnBh, AnBr, MnRes, MnCon, SymRg2, SymYld, SymRg3, SymRdA, MnBk, BdAddr, BdReg, AnDt, AnD2, CgLaw, AnCg, AnC2, AnPr, DcDraw, DcNet, AnDr, AnMin, FnLaw, FnLaw2, AnEa, AnSrt, FnLaw3.
-/
import Derived.Test.YtijmpjfafpodhaaGreatMinimalDisjointPk2
import Derived.Test.YtijmpjfafpodhaaGreatMinimalDisjointPk1
import Derived.OrdersIn
import Derived.RangeFuncSeq
import Derived.Sort.OwnSortedInts
import Derived.Shelf.SortM.Plain
import Derived.Shelf.SortM.SortNone
set_option linter.unusedVariables false
set_option linter.unusedSimpArgs false
namespace Go.Proofs.YtijmpjfafpodhaaGreat
set_option maxHeartbeats 1000000
open Go.RowKit
set_option maxRecDepth 20000
def IsSt (l : List Rs) (t : Trc) (flow : Int) (y : List Rs) : Prop := ∃ x, IsOf l t x ∧ y = x.filter fun r => usbRs r && decide (r.flow = flow)
theorem IsSt.eq {l y y' : List Rs} {t : Trc} {flow : Int} (h : IsSt l t flow y) (h' : IsSt l t flow y') : y = y' := by
 obtain ⟨x, h1, h2⟩ := h
 obtain ⟨x', h3, h4⟩ := h'
 rw [h2, h4, h1.eq h3]
theorem IsOf.le_ {l y : List Rs} {t : Trc} (h : IsOf l t y) : y.length ≤ l.length := by
 obtain ⟨o, h1, rfl⟩ := h
 exact Nat.le_trans (List.length_filter_le _ _) h1.le
theorem IsSt.le {l y : List Rs} {t : Trc} {flow : Int} (h : IsSt l t flow y) : y.length ≤ l.length := by
 obtain ⟨x, h1, rfl⟩ := h
 exact Nat.le_trans (List.length_filter_le _ _) h1.le_
def Rp.trc (p : Rp) : Trc := ⟨p.v, p.dst, p.proto⟩
def atL (l : List Rs) (ttl : Int) : List Rs := l.filter fun r => r.ans && decide (r.ttl = ttl)
def fitB (t e : Int) (r : Rs) : Bool := finRs r && decide (r.back ≤ t) && (decide (e = 0) || decide (r.ttl < e))
def bend (l : List Rs) (t : Int) : Int := l.foldl (fun e r => if fitB t e r then r.ttl else e) 0
theorem bend_snoc {l : List Rs} {t e : Int} {i : Nat} {x : Rs} (hx : l[i]? = some x) (h : bend (l.take i) t = e) : bend (l.take (i + 1)) t = if fitB t e x then x.ttl else e := by
 unfold bend at h ⊢
 rw [List.take_add_one, hx, List.foldl_append, h]; rfl
def lostR (e t : Int) (r : Rs) : Bool := !r.ans && decide (r.ttl ≥ e) && decide (r.at_ ≥ t)
def lostN (e t : Int) (l : List Rs) : Nat := (l.filter (lostR e t)).length
theorem lost_t {l : List Rs} {e t : Int} {i c : Nat} {x : Rs} (hx : l[i]? = some x) (hp : lostR e t x = true) (h : lostN e t (l.take i) = c) : lostN e t (l.take (i + 1)) = c + 1 := by
 unfold lostN at h ⊢
 rw [List.take_add_one, hx, List.filter_append, List.length_append, h]
 simp [hp]
theorem lost_f {l : List Rs} {e t : Int} {i c : Nat} {x : Rs} (hx : l[i]? = some x) (hp : lostR e t x = false) (h : lostN e t (l.take i) = c) : lostN e t (l.take (i + 1)) = c := by
 unfold lostN at h ⊢
 rw [List.take_add_one, hx, List.filter_append, List.length_append, h]
 simp [hp]
def bhF (l : List Rs) (losses t : Int) : Bool := decide (0 < bend l t) && decide (losses ≤ (lostN (bend l t) t l : Int))
theorem atl_any (A0 : Option Addr) (c0 : Nat) (l : List Rs) (ttl : Int) (w : World) (hr : Reads w w.heap.size 17 A0 l.length (flat Rs.cells l)) (hl1 : l.length ≤ 100000) :
  Calls Tryz.prog 77 #[.slice A0 l.length c0, .int .i64 ttl] w fun e w' => ∃ x : {y : (Option Addr × Nat) × List Rs // y.2 = atL l ttl ∧ y.2.length ≤ y.1.2 ∧ y.1.2 ≤ maxLen}, e = .returned (.slice x.1.1.1 x.1.2.length x.1.1.2) ∧ Pm w [.row (.slice x.1.1.1 x.1.2.length x.1.1.2) 65 17 x.1.2.length (flat Rs.cells x.1.2)] w' := by
 refine begin_ (vs := [.slice A0 l.length c0, .int .i64 ttl]) Tryz.func77 rfl rfl rfl ?_ (Pm.start w)
 refine zSG (TL.as_ ?_)
 refine zET (zSG (TL.as_ ?_))
 refine zET (zS (zSG (TL.mv ?_)))
 refine TL.v (gN Tryz.underlying23) ?_
 refine TL.mv ?_
 refine zET (zB (TC.nilrow 65 17 ?_))
 refine TC.loop_ (α := {y : Nat × (Option Addr × Nat) × List Rs // y.1 ≤ l.length ∧ ((l.take y.1).filter (fun r : Rs => r.ans && decide (r.ttl = ttl)) = y.2.2) ∧ y.2.2.length ≤ y.1 ∧ y.2.2.length ≤ y.2.1.2 ∧ y.2.1.2 ≤ maxLen}) (fun y => [(1, .int .i64 ttl), (8, .slice A0 l.length c0), (9, .int .i64 (l.length : Nat)), (10, .int .i64 ((y.1.1 : Nat) : Int)), (5, .slice y.1.2.1.1 y.1.2.2.length y.1.2.1.2)]) (fun y => Pm w [.row (.slice y.1.2.1.1 y.1.2.2.length y.1.2.1.2) 65 17 y.1.2.2.length (flat Rs.cells y.1.2.2)]) (fun y => l.length - y.1.1) (⟨(0, (none, 0), []), Nat.zero_le _, rfl, Nat.le_refl _, Nat.le_refl _, Nat.zero_le _⟩) ⟨rfl, rfl, rfl, rfl, rfl, trivial⟩ (fun w1 hw => hw) ?_
 rintro ⟨⟨i, ⟨Ao, co⟩, out⟩, hi, hout, houtl, houtc, houtm⟩
 dsimp only at hi hout houtl houtc houtm ⊢
 refine zSG ?_
 refine TL.sp bin_lss (fun q11 => ?_) (fun q11 => ?_)
 ·refine zET (zS (zc (zk (zT (zS (zB (zSG ?_)))))))
  have hi12 : i < l.length := by omega
  obtain ⟨x12, hx12⟩ := ex_at hi12
  obtain ⟨b12, o12, hA12, hbb12, hc12⟩ := hr.ad (by omega) (by decide)
  refine TL.val rfl rfl rfl (gA (i := i) Tryz.underlying23 prssz65 rfl rfl rfl rfl hA12 (by omega)) ?_
  refine TL.v (gR rs_cel prsag65 prssz65 hbb12 hx12 hc12) ?_
  refine TL.pnew rfl rfl rfl (exec_alloc (cs := [.int .i64 0, .int .i64 0, .int .i64 0, .int .i64 0, .int .u32 0, .int .i64 0, .int .i64 0, .int .i64 0, .bool false, .bool false, .int .i64 0, .int .u32 0, .int .i64 0, .int .i64 0, .int .i64 0, .int .i64 0, .int .i64 0]) rfl arpzv65 rfl) (fun g7 => ?_)
  refine TL.pstore (k := 0) (vs := x12.cells) rfl rfl rfl rfl rfl rfl rfl prssz65 (rs_cel.one _) (by show 17 ≤ 17; decide) (L' := [.blk g7 65 x12.cells, .row (.slice Ao out.length co) 65 17 out.length (flat Rs.cells out)]) rfl ?_
  refine zET (zSG (TL.v (gF prsfld65_8) ?_))
  refine TL.vsplit rfl rfl rfl (gL 0 prsag4) (fun h15 => ?_) (fun h15 => ?_)
  ·refine TL.mv ?_
   refine TL.ov (gF prsfld65_7) ?_
   refine TL.ov (gL 0 pcmag3) ?_
   refine TL.rn 1 rfl (TL.gu ?_)
   refine TL.sp bin_eql (fun q20 => ?_) (fun q20 => ?_)
   ·refine TL.pk ?_
    refine zET (zc (zG (TL.mv ?_)))
    refine TL.v (gV 0 (.agg (x12.cells).toArray) prsag65 prssz65) ?_
    refine TL.prowS (e := 65) (size := 17) (cs := flat Rs.cells [x12]) rfl rfl rfl rfl rfl (fun w => porbs23_1_99505 _ _ _ _ _ _ _ _ _ _ _ _ _ _ _ _ _ w) (by decide) rfl (fun g24 => ?_)
    refine TL.appendT (k := 2) rfl rfl rfl rfl Tryz.underlying23 porel23 rfl rfl rfl (fun w1 hw => pm_reads hw (k := 0) rfl) (flat_one rs_cel _) (by show _ * 128 ≤ _; omega) ((out ++ [x12]).length) (by rw [List.length_append]; rfl) (flat Rs.cells (out ++ [x12])) ((flat_app _ _).symm) (fun A25 c25 hA251 hA252 => ?_)
    refine TL.as_ ?_
    refine zE (zN (zT (zG (TL.v (gD ((i + 1 : Nat) : Int)) ?_))))
    refine TL.mv ?_
    refine zE ?_
    exact TX.round (⟨(i + 1, (A25, c25), out ++ [x12]), by dsimp only; omega, filt_snoc_t (p := (fun r : Rs => r.ans && decide (r.ttl = ttl))) hx12 (by simp [q11, h15, q20]) hout, by dsimp only; rw [List.length_append]; show out.length + 1 ≤ _; omega, hA251, hA252⟩) (by show l.length - (i + 1) < l.length - i; omega) ⟨rfl, rfl, rfl, rfl, rfl, trivial⟩ (fun w1 hw => hw.pick [2] (by decide) rfl)
   refine TL.pk ?_
   refine zET (zd (zk (zN (zT (zG (TL.v (gD ((i + 1 : Nat) : Int)) ?_))))))
   refine TL.mv ?_
   refine zE ?_
   exact TX.round (⟨(i + 1, (Ao, co), out), by dsimp only; omega, filt_snoc_f (p := (fun r : Rs => r.ans && decide (r.ttl = ttl))) hx12 (by simp [q11, h15, q20]) hout, by dsimp only; omega, houtc, houtm⟩) (by show l.length - (i + 1) < l.length - i; omega) ⟨rfl, rfl, rfl, rfl, rfl, trivial⟩ (fun w1 hw => hw.pick [1] (by decide) rfl)
  refine TL.rn 6 rfl (zET (zd (zk (zN (zT (zG (TL.v (gD ((i + 1 : Nat) : Int)) ?_)))))))
  refine TL.mv ?_
  refine zE ?_
  exact TX.round (⟨(i + 1, (Ao, co), out), by dsimp only; omega, filt_snoc_f (p := (fun r : Rs => r.ans && decide (r.ttl = ttl))) hx12 (by simp [q11, h15]) hout, by dsimp only; omega, houtc, houtm⟩) (by show l.length - (i + 1) < l.length - i; omega) ⟨rfl, rfl, rfl, rfl, rfl, trivial⟩ (fun w1 hw => hw.pick [1] (by decide) rfl)
 refine zET (zS (zd (zx (zX (zX (zM (zT (zSG (TL.rn 2 rfl (zET (zr ?_)))))))))))
 exact ret_tmp Tryz.results77 rfl (fun w1 hw => ⟨⟨((Ao, co), out), by rw [List.take_of_length_le (by omega)] at hout; exact hout.symm, by dsimp only; omega, houtm⟩, rfl, hw.pick [0] (by decide) rfl⟩)
theorem blackhole_l (A0 : Option Addr) (c0 : Nat) (l : List Rs) (losses t : Int) (w : World) (hr : Reads w w.heap.size 17 A0 l.length (flat Rs.cells l)) (hl1 : l.length ≤ 100000) :
  Calls Tryz.prog 72 #[.slice A0 l.length c0, .int .i64 losses, .int .i64 t] w fun e w' => e = .returned (.bool (bhF l losses t)) ∧ Below w.heap.size w w' := by
 refine begin_ (vs := [.slice A0 l.length c0, .int .i64 losses, .int .i64 t]) Tryz.func72 rfl rfl rfl ?_ (Pm.start w)
 refine zSG (TL.as_ ?_)
 refine zET (zSG (TL.as_ ?_))
 refine zET (zS (zSG (TL.mv ?_)))
 refine TL.v (gN Tryz.underlying23) ?_
 refine TL.mv ?_
 refine zET (zB (TC.loop_ (α := {y : Nat × Int // y.1 ≤ l.length ∧ bend (l.take y.1) t = y.2}) (fun y => [(0, .slice A0 l.length c0), (1, .int .i64 losses), (2, .int .i64 t), (13, .slice A0 l.length c0), (14, .int .i64 (l.length : Nat)), (15, .int .i64 ((y.1.1 : Nat) : Int)), (7, .int .i64 y.1.2)]) (fun y => Pm w []) (fun y => l.length - y.1.1) (⟨(0, 0), Nat.zero_le _, rfl⟩) ⟨rfl, rfl, rfl, rfl, rfl, rfl, rfl, trivial⟩ (fun w1 hw => hw) ?_))
 rintro ⟨⟨i, e⟩, hi, hst⟩
 dsimp only at hi hst ⊢
 refine zSG ?_
 refine TL.sp bin_lss (fun q16 => ?_) (fun q16 => ?_)
 ·refine zET (zS (zc (zk (zT (zS (zB (zSG ?_)))))))
  have hi17 : i < l.length := by omega
  obtain ⟨x17, hx17⟩ := ex_at hi17
  obtain ⟨b17, o17, hA17, hbb17, hc17⟩ := hr.ad (by omega) (by decide)
  refine TL.val rfl rfl rfl (gA (i := i) Tryz.underlying23 prssz65 rfl rfl rfl rfl hA17 (by omega)) ?_
  refine TL.v (gR rs_cel prsag65 prssz65 hbb17 hx17 hc17) ?_
  refine TL.pnew rfl rfl rfl (exec_alloc (cs := [.int .i64 0, .int .i64 0, .int .i64 0, .int .i64 0, .int .u32 0, .int .i64 0, .int .i64 0, .int .i64 0, .bool false, .bool false, .int .i64 0, .int .u32 0, .int .i64 0, .int .i64 0, .int .i64 0, .int .i64 0, .int .i64 0]) rfl arpzv65 rfl) (fun g9 => ?_)
  refine TL.pstore (k := 0) (vs := x17.cells) rfl rfl rfl rfl rfl rfl rfl prssz65 (rs_cel.one _) (by show 17 ≤ 17; decide) (L' := [.blk g9 65 x17.cells]) rfl ?_
  refine zET (zSG (TL.v (gV 0 (.agg (x17.cells).toArray) prsag65 prssz65) ?_))
  refine TL.callsplit rfl rfl rfl rfl rfl Tryz.func122 (by decide) rfl (fun w1 hw => finRs_any x17 w1) (fun h20 => ?_) (fun h20 => ?_)
  ·refine TL.mv ?_
   refine TL.ov (gF prsfld65_10) ?_
   refine TL.ov (gL 0 pcmag3) ?_
   refine TL.rn 1 rfl (TL.gu ?_)
   refine TL.sp bin_leq (fun q25 => ?_) (fun q25 => ?_)
   ·refine TL.rn 3 rfl (TL.gu ?_)
    refine TL.sp bin_eql (fun q29 => ?_) (fun q29 => ?_)
    ·refine TL.rn 7 rfl (zET (zc (zG (TL.v (gF prsfld65_7) ?_))))
     refine TL.v (gL 0 pcmag3) ?_
     refine TL.as_ ?_
     refine zE (zN (zT (zG (TL.v (gD ((i + 1 : Nat) : Int)) ?_))))
     refine TL.mv ?_
     refine zE ?_
     exact TX.round (⟨(i + 1, x17.ttl), by dsimp only; omega, by rw [bend_snoc hx17 hst, if_pos (by simp [fitB, q16, h20, q25, q29])]⟩) (by show l.length - (i + 1) < l.length - i; omega) ⟨rfl, rfl, rfl, rfl, rfl, rfl, rfl, trivial⟩ (fun w1 hw => hw.pick [] (by decide) rfl)
    refine TL.rn 1 rfl (TL.ov (gF prsfld65_7) ?_)
    refine TL.ov (gL 0 pcmag3) ?_
    refine TL.rn 1 rfl (TL.gu ?_)
    refine TL.sp bin_lss (fun q34 => ?_) (fun q34 => ?_)
    ·refine TL.rn 2 rfl (zET (zc (zG (TL.v (gF prsfld65_7) ?_))))
     refine TL.v (gL 0 pcmag3) ?_
     refine TL.as_ ?_
     refine zE (zN (zT (zG (TL.v (gD ((i + 1 : Nat) : Int)) ?_))))
     refine TL.mv ?_
     refine zE ?_
     exact TX.round (⟨(i + 1, x17.ttl), by dsimp only; omega, by rw [bend_snoc hx17 hst, if_pos (by simp [fitB, q16, h20, q25, q29, q34])]⟩) (by show l.length - (i + 1) < l.length - i; omega) ⟨rfl, rfl, rfl, rfl, rfl, rfl, rfl, trivial⟩ (fun w1 hw => hw.pick [] (by decide) rfl)
    refine TL.rn 2 rfl (zET (zd (zk (zN (zT (zG (TL.v (gD ((i + 1 : Nat) : Int)) ?_)))))))
    refine TL.mv ?_
    refine zE ?_
    exact TX.round (⟨(i + 1, e), by dsimp only; omega, by rw [bend_snoc hx17 hst, if_neg (by simp [fitB, q16, h20, q25, q29, q34])]⟩) (by show l.length - (i + 1) < l.length - i; omega) ⟨rfl, rfl, rfl, rfl, rfl, rfl, rfl, trivial⟩ (fun w1 hw => hw.pick [] (by decide) rfl)
   refine TL.rn 5 rfl ?_
   refine TL.offU rfl rfl rfl rfl rfl ?_
   refine TL.offU rfl rfl rfl rfl rfl ?_
   refine TL.offU rfl rfl rfl rfl rfl ?_
   refine TL.offU rfl rfl rfl rfl rfl ?_
   refine TL.rn 2 rfl (zET (zd (zk (zN (zT (zG (TL.v (gD ((i + 1 : Nat) : Int)) ?_)))))))
   refine TL.mv ?_
   refine zE ?_
   exact TX.round (⟨(i + 1, e), by dsimp only; omega, by rw [bend_snoc hx17 hst, if_neg (by simp [fitB, q16, h20, q25])]⟩) (by show l.length - (i + 1) < l.length - i; omega) ⟨rfl, rfl, rfl, rfl, rfl, rfl, rfl, trivial⟩ (fun w1 hw => hw.pick [] (by decide) rfl)
  refine TL.rn 10 rfl ?_
  refine TL.offU rfl rfl rfl rfl rfl ?_
  refine TL.offU rfl rfl rfl rfl rfl ?_
  refine TL.offU rfl rfl rfl rfl rfl ?_
  refine TL.offU rfl rfl rfl rfl rfl ?_
  refine TL.rn 2 rfl (zET (zd (zk (zN (zT (zG (TL.v (gD ((i + 1 : Nat) : Int)) ?_)))))))
  refine TL.mv ?_
  refine zE ?_
  exact TX.round (⟨(i + 1, e), by dsimp only; omega, by rw [bend_snoc hx17 hst, if_neg (by simp [fitB, q16, h20])]⟩) (by show l.length - (i + 1) < l.length - i; omega) ⟨rfl, rfl, rfl, rfl, rfl, rfl, rfl, trivial⟩ (fun w1 hw => hw.pick [] (by decide) rfl)
 refine zET (zS (zd (zx (zX (zX (zM (zT (zSG (TL.as_ ?_)))))))))
 refine zET (zS (zS ?_))
 have hend : bend l t = e := by rw [List.take_of_length_le (by omega)] at hst; exact hst
 refine zG (TL.mv ?_)
 refine TL.v (gN Tryz.underlying23) ?_
 refine TL.mv ?_
 refine zET (zB (TC.loop_ (α := {y : Nat × Nat // y.1 ≤ l.length ∧ lostN e t (l.take y.1) = y.2 ∧ y.2 ≤ y.1}) (fun y => [(0, .slice A0 l.length c0), (1, .int .i64 losses), (2, .int .i64 t), (7, .int .i64 e), (40, .slice A0 l.length c0), (41, .int .i64 (l.length : Nat)), (42, .int .i64 ((y.1.1 : Nat) : Int)), (10, .int .i64 ((y.1.2 : Nat) : Int))]) (fun y => Pm w []) (fun y => l.length - y.1.1) (⟨(0, 0), Nat.zero_le _, rfl, Nat.le_refl _⟩) ⟨rfl, rfl, rfl, rfl, rfl, rfl, rfl, rfl, trivial⟩ (fun w1 hw => hw) ?_))
 rintro ⟨⟨j, c⟩, hj, hc, hcj⟩
 dsimp only at hj hc hcj ⊢
 refine zSG ?_
 refine TL.sp bin_lss (fun q43 => ?_) (fun q43 => ?_)
 ·refine zET (zS (zc (zk (zT (zS (zB (zSG ?_)))))))
  have hi44 : j < l.length := by omega
  obtain ⟨x44, hx44⟩ := ex_at hi44
  obtain ⟨b44, o44, hA44, hbb44, hc44⟩ := hr.ad (by omega) (by decide)
  refine TL.val rfl rfl rfl (gA (i := j) Tryz.underlying23 prssz65 rfl rfl rfl rfl hA44 (by omega)) ?_
  refine TL.v (gR rs_cel prsag65 prssz65 hbb44 hx44 hc44) ?_
  refine TL.pnew rfl rfl rfl (exec_alloc (cs := [.int .i64 0, .int .i64 0, .int .i64 0, .int .i64 0, .int .u32 0, .int .i64 0, .int .i64 0, .int .i64 0, .bool false, .bool false, .int .i64 0, .int .u32 0, .int .i64 0, .int .i64 0, .int .i64 0, .int .i64 0, .int .i64 0]) rfl arpzv65 rfl) (fun g12 => ?_)
  refine TL.pstore (k := 0) (vs := x44.cells) rfl rfl rfl rfl rfl rfl rfl prssz65 (rs_cel.one _) (by show 17 ≤ 17; decide) (L' := [.blk g12 65 x44.cells]) rfl ?_
  refine zET (zSG (TL.v (gF prsfld65_8) ?_))
  refine TL.vsplit rfl rfl rfl (gL 0 prsag4) (fun h47 => ?_) (fun h47 => ?_)
  ·refine TL.rn 13 rfl (zET (zd (zk (zN (zT (zG (TL.v (gD ((j + 1 : Nat) : Int)) ?_)))))))
   refine TL.mv ?_
   refine zE ?_
   exact TX.round (⟨(j + 1, c), by dsimp only; omega, lost_f hx44 (by simp [lostR, q43, h47]) hc, by dsimp only; omega⟩) (by show l.length - (j + 1) < l.length - j; omega) ⟨rfl, rfl, rfl, rfl, rfl, rfl, rfl, rfl, trivial⟩ (fun w1 hw => hw.pick [] (by decide) rfl)
  refine TL.rn 2 rfl (TL.ov (gF prsfld65_7) ?_)
  refine TL.ov (gL 0 pcmag3) ?_
  refine TL.rn 1 rfl (TL.gu ?_)
  refine TL.sp bin_geq (fun q53 => ?_) (fun q53 => ?_)
  ·refine TL.rn 2 rfl (TL.ov (gF prsfld65_3) ?_)
   refine TL.ov (gL 0 pcmag3) ?_
   refine TL.rn 1 rfl (TL.gu ?_)
   refine TL.sp bin_geq (fun q59 => ?_) (fun q59 => ?_)
   ·refine TL.pk ?_
    refine zET (zc (zG (TL.mv ?_)))
    refine TL.v (gD ((c + 1 : Nat) : Int)) ?_
    refine TL.as_ ?_
    refine zE (zN (zT (zG (TL.v (gD ((j + 1 : Nat) : Int)) ?_))))
    refine TL.mv ?_
    refine zE ?_
    exact TX.round (⟨(j + 1, c + 1), by dsimp only; omega, lost_t hx44 (by simp [lostR, q43, h47, q53, q59]) hc, by dsimp only; omega⟩) (by show l.length - (j + 1) < l.length - j; omega) ⟨rfl, rfl, rfl, rfl, rfl, rfl, rfl, rfl, trivial⟩ (fun w1 hw => hw.pick [] (by decide) rfl)
   refine TL.pk ?_
   refine zET (zd (zk (zN (zT (zG (TL.v (gD ((j + 1 : Nat) : Int)) ?_))))))
   refine TL.mv ?_
   refine zE ?_
   exact TX.round (⟨(j + 1, c), by dsimp only; omega, lost_f hx44 (by simp [lostR, q43, h47, q53, q59]) hc, by dsimp only; omega⟩) (by show l.length - (j + 1) < l.length - j; omega) ⟨rfl, rfl, rfl, rfl, rfl, rfl, rfl, rfl, trivial⟩ (fun w1 hw => hw.pick [] (by decide) rfl)
  refine TL.rn 7 rfl (zET (zd (zk (zN (zT (zG (TL.v (gD ((j + 1 : Nat) : Int)) ?_)))))))
  refine TL.mv ?_
  refine zE ?_
  exact TX.round (⟨(j + 1, c), by dsimp only; omega, lost_f hx44 (by simp [lostR, q43, h47, q53]) hc, by dsimp only; omega⟩) (by show l.length - (j + 1) < l.length - j; omega) ⟨rfl, rfl, rfl, rfl, rfl, rfl, rfl, rfl, trivial⟩ (fun w1 hw => hw.pick [] (by decide) rfl)
 refine zET (zS (zd (zx (zX (zX (zM (zT (zSG (TL.mv ?_)))))))))
 refine TL.sp bin_gtr (fun q65 => ?_) (fun q65 => ?_)
 ·refine TL.rn 3 rfl (TL.gu ?_)
  refine TL.sp bin_geq (fun q69 => ?_) (fun q69 => ?_)
  ·refine TL.rn 2 rfl (zET (zr ?_))
   have hc2 : lostN e t l = c := by rw [List.take_of_length_le (by omega)] at hc; exact hc
   have hE : bhF l losses t = true := by unfold bhF; rw [hend, hc2]; simp only [Bool.and_eq_true, Bool.and_eq_false_iff, decide_eq_true_eq, decide_eq_false_iff_not]; omega
   exact ret_tmp Tryz.results72 rfl (fun w1 hw => ⟨by rw [hE], hw.bel⟩)
  refine TL.rn 2 rfl (zET (zr ?_))
  have hc2 : lostN e t l = c := by rw [List.take_of_length_le (by omega)] at hc; exact hc
  have hE : bhF l losses t = false := by unfold bhF; rw [hend, hc2]; simp only [Bool.and_eq_true, Bool.and_eq_false_iff, decide_eq_true_eq, decide_eq_false_iff_not]; omega
  exact ret_tmp Tryz.results72 rfl (fun w1 hw => ⟨by rw [hE], hw.bel⟩)
 refine TL.rn 6 rfl (zET (zr ?_))
 have hc2 : lostN e t l = c := by rw [List.take_of_length_le (by omega)] at hc; exact hc
 have hE : bhF l losses t = false := by unfold bhF; rw [hend, hc2]; simp only [Bool.and_eq_true, Bool.and_eq_false_iff, decide_eq_true_eq, decide_eq_false_iff_not]; omega
 exact ret_tmp Tryz.results72 rfl (fun w1 hw => ⟨by rw [hE], hw.bel⟩)
set_option maxRecDepth 20000
theorem strm1_any (r : Rs) (flow : Int) (g : Nat) (w : World) (hg : g < w.heap.size) (hc : w.cell? ⟨g, 0, none⟩ = some (.int .i64 flow)) :
  Calls Tryz.prog 123 #[.agg r.cells.toArray, .pointer (some ⟨g, 0, none⟩)] w fun e w' => e = .returned (.bool ((fun r : Rs => !(usbRs r && decide (r.flow = flow))) r)) ∧ Below w.heap.size w w' := by
 refine begin_ (vs := [.agg r.cells.toArray, .pointer (some ⟨g, 0, none⟩)]) Tryz.func123 rfl rfl rfl ?_ (Pm.start w)
 refine zSG ?_
 refine TL.pnew rfl rfl rfl (exec_box (cs := r.cells) rfl rfl rfl) (fun g2 => ?_)
 refine TL.as_ ?_
 refine zET (zSG (TL.v (gF prsfld65_6) ?_))
 refine TL.v (gL 0 pcmag3) ?_
 refine TL.val rfl rfl rfl (gives_load (v := .int .i64 flow) rfl rfl pcmag3 (fun w1 hw => (hw.bel.cell hg).trans hc)) ?_
 refine TL.sp bin_neq (fun q7 => ?_) (fun q7 => ?_)
 ·refine TL.rn 6 rfl (zET (zr ?_))
  have hE : ((fun r : Rs => !(usbRs r && decide (r.flow = flow))) r) = true := (by simp [Bool.not_eq_true, q7] <;> omega)
  exact ret_tmp Tryz.results123 rfl (fun w1 hw => ⟨by rw [hE]; try rfl, hw.bel⟩)
 refine TL.mv ?_
 refine TL.ov (gV 0 (.agg (r.cells).toArray) prsag65 prssz65) ?_
 refine TL.gu ?_
 refine TL.callsplit rfl rfl rfl rfl rfl Tryz.func91 (by decide) rfl (fun w1 hw => usbRs_any r w1) (fun h10 => ?_) (fun h10 => ?_)
 ·refine TL.rn 3 rfl (zET (zr ?_))
  have hE : ((fun r : Rs => !(usbRs r && decide (r.flow = flow))) r) = false := (by simp [Bool.not_eq_true, q7, h10] <;> omega)
  exact ret_tmp Tryz.results123 rfl (fun w1 hw => ⟨by rw [hE]; try rfl, hw.bel⟩)
 refine TL.rn 3 rfl (zET (zr ?_))
 have hE : ((fun r : Rs => !(usbRs r && decide (r.flow = flow))) r) = true := (by simp [Bool.not_eq_true, q7, h10] <;> omega)
 exact ret_tmp Tryz.results123 rfl (fun w1 hw => ⟨by rw [hE]; try rfl, hw.bel⟩)
theorem stream_any (A0 : Option Addr) (c0 : Nat) (l : List Rs) (t : Trc) (flow : Int) (w : World) (hr : Reads w w.heap.size 17 A0 l.length (flat Rs.cells l)) (hl1 : l.length ≤ 100000) (hok : ∀ r ∈ l, r.Ok) :
  Calls Tryz.prog 73 #[.slice A0 l.length c0, .agg t.cells.toArray, .int .i64 flow] w fun e w' => ∃ x : {y : (Option Addr × Nat) × List Rs // IsSt l t flow y.2 ∧ y.2.length ≤ y.1.2 ∧ y.1.2 ≤ maxLen}, e = .returned (.slice x.1.1.1 x.1.2.length x.1.1.2) ∧ Pm w [.row (.slice x.1.1.1 x.1.2.length x.1.1.2) 65 17 x.1.2.length (flat Rs.cells x.1.2)] w' := by
 refine begin_ (vs := [.slice A0 l.length c0, .agg t.cells.toArray, .int .i64 flow]) Tryz.func73 rfl rfl rfl ?_ (Pm.start w)
 refine zSG ?_
 refine TL.pnew rfl rfl rfl (exec_box (cs := t.cells) rfl rfl rfl) (fun g4 => ?_)
 refine TL.pnew rfl rfl rfl (exec_box (cs := [.int .i64 flow]) rfl rfl rfl) (fun g5 => ?_)
 refine TL.as_ ?_
 refine zET (zSG (TL.mv ?_))
 refine TL.v (gV 1 (.agg (t.cells).toArray) pcpag32 prssz32) ?_
 refine TL.pcallPm (α := {y : (Option Addr × Nat) × List Rs // IsOf l t y.2 ∧ y.2.length ≤ y.1.2 ∧ y.1.2 ≤ maxLen}) (fun x => .slice x.1.1.1 x.1.2.length x.1.1.2) (fun x => [.row (.slice x.1.1.1 x.1.2.length x.1.1.2) 65 17 x.1.2.length (flat Rs.cells x.1.2)]) rfl rfl rfl rfl rfl Tryz.func90 (by decide) rfl (fun w1 hw => of_any A0 c0 l t w1 (hr.up hw.bel) hl1 hok) ?_
 rintro ⟨⟨⟨R9, rc9⟩, o9⟩, hP9, hR91, hR92⟩
 dsimp only [List.cons_append, List.nil_append]
 dsimp only at hP9 hR91 hR92 ⊢
 refine TL.val rfl rfl rfl (gives_makeFunc rfl rfl rfl) ?_
 have hol := hP9.le_
 refine TL.call (α := Unit) (r := fun _ => .slice R9 ((o9.filter fun r => !((fun r : Rs => !(usbRs r && decide (r.flow = flow))) r)).length) rc9) (I' := fun _ => Pm w [.row (.slice R9 ((o9.filter fun r => !((fun r : Rs => !(usbRs r && decide (r.flow = flow))) r)).length) rc9) 65 17 ((o9.filter fun r => !((fun r : Rs => !(usbRs r && decide (r.flow = flow))) r)).length) (flat Rs.cells (o9.filter fun r => !((fun r : Rs => !(usbRs r && decide (r.flow = flow))) r))), .blk g5 3 [.int .i64 flow], .blk g4 32 t.cells]) rfl rfl rfl rfl rfl Tryz.func108 (by decide) rfl (fun w1 hw => (delG_any w [.blk g5 3 [.int .i64 flow], .blk g4 32 t.cells] R9 rc9 o9 (fun r : Rs => !(usbRs r && decide (r.flow = flow))) 123 _ #[.pointer (some ⟨g5, 0, none⟩)] w1 (hw) (by omega) (by omega) (by omega) Tryz.func123 (by decide) rfl (fun x w1 ⟨L1, h9⟩ => (by have h8 : Pm w [.blk g5 3 [.int .i64 flow], .blk g4 32 t.cells] w1 := h9.sel (List.sublist_append_right L1 _); exact strm1_any x flow g5 w1 (Pc.lt (h8.at_ (k := 0) rfl) g5 rfl).2 (h8.cell (k := 0) rfl 0)))).mono fun en w2 ⟨h1, h2⟩ => ⟨(), h1, h2⟩) (fun _ => ?_)
 refine TL.as_ ?_
 refine zET (zr ?_)
 have hE : (o9.filter fun r => !((fun r : Rs => !(usbRs r && decide (r.flow = flow))) r)) = o9.filter fun r => usbRs r && decide (r.flow = flow) := by simp
 exact ret_tmp Tryz.results73 rfl (fun w1 hw => ⟨⟨((R9, rc9), o9.filter fun r => !((fun r : Rs => !(usbRs r && decide (r.flow = flow))) r)), ⟨o9, hP9, hE⟩, Nat.le_trans (List.length_filter_le _ _) hR91, hR92⟩, rfl, hw.pick [0] (by decide) rfl⟩)
set_option maxRecDepth 20000
def BhP (l : List Rs) (u : Ru) (p : Rp) : Prop := p.kind = 1 ∧ ∃ y, IsSt l p.trc p.flow y ∧ bhF y u.los p.at_ = true
theorem blackhole_any (A0 : Option Addr) (c0 : Nat) (l : List Rs) (u : Ru) (p : Rp) (w : World) (hr : Reads w w.heap.size 17 A0 l.length (flat Rs.cells l)) (hl1 : l.length ≤ 100000) (hok : ∀ r ∈ l, r.Ok) :
  Calls Tryz.prog 29 #[.slice A0 l.length c0, .agg u.cells.toArray, .agg p.cells.toArray] w fun e w' => ∃ x : {b : Bool // b = true ↔ BhP l u p}, e = .returned (.bool x.1) ∧ Below w.heap.size w w' := by
 refine begin_ (vs := [.slice A0 l.length c0, .agg u.cells.toArray, .agg p.cells.toArray]) Tryz.func29 rfl rfl rfl ?_ (Pm.start w)
 refine zSG ?_
 refine TL.pnew rfl rfl rfl (exec_box (cs := u.cells) rfl rfl rfl) (fun g4 => ?_)
 refine TL.pnew rfl rfl rfl (exec_box (cs := p.cells) rfl rfl rfl) (fun g5 => ?_)
 refine TL.as_ ?_
 refine zET (zS ?_)
 by_cases hk : p.kind = 1
 ·refine TC.held (ls := #[Ff,Ff,Ff,Ff,Ff,Ff,Ff,Ff,Ff,Ff,Ff,Ff,Ff,Ff,Ff,Ff,Ff]) (Pm w [.blk g5 34 p.cells, .blk g4 28 u.cells]) (by kernel_rfl) rfl rfl (fun w hw => hw.drawn _) ?_
  refine TH.tk 0 rfl rfl rfl (gF arpfld34_0) (fun w1 hw => hw) ?_
  refine TH.tk 1 rfl rfl rfl (gL 0 pcmag3) (fun w1 hw => hw) ?_
  refine TH.tk 2 rfl rfl rfl (gives_bin rfl rfl rfl (fun w => bin_eql_t (hk) w)) (fun w1 hw => hw) ?_
  refine TH.tk 3 rfl rfl rfl (gives_move rfl rfl) (fun w1 hw => hw) ?_
  refine TH.takeG 4 rfl (by kernel_rfl) (by kernel_rfl) (by kernel_rfl) rfl rfl rfl rfl rfl rfl (gives_move rfl rfl) (fun w1 hw => hw) ?_
  refine TH.takeG 5 rfl (by kernel_rfl) (by kernel_rfl) (by kernel_rfl) rfl rfl rfl rfl rfl rfl (gF arpfld34_1) (fun w1 hw => hw) ?_
  refine TH.takeG 6 rfl (by kernel_rfl) (by kernel_rfl) (by kernel_rfl) rfl rfl rfl rfl rfl rfl (gV 0 (.agg #[.int .i64 p.v, .int .u32 p.dst, .int .i64 p.proto]) pcpag32 prssz32) (fun w1 hw => hw) ?_
  refine TH.takeG 7 rfl (by kernel_rfl) (by kernel_rfl) (by kernel_rfl) rfl rfl rfl rfl rfl rfl (gF arpfld34_2) (fun w1 hw => hw) ?_
  refine TH.takeG 8 rfl (by kernel_rfl) (by kernel_rfl) (by kernel_rfl) rfl rfl rfl rfl rfl rfl (gL 0 pcmag3) (fun w1 hw => hw) ?_
  refine TH.takeG 10 rfl (by kernel_rfl) (by kernel_rfl) (by kernel_rfl) rfl rfl rfl rfl rfl rfl (gF arpfld28_0) (fun w1 hw => hw) ?_
  refine TH.takeG 11 rfl (by kernel_rfl) (by kernel_rfl) (by kernel_rfl) rfl rfl rfl rfl rfl rfl (gL 1 pcmag3) (fun w1 hw => hw) ?_
  refine TH.takeG 12 rfl (by kernel_rfl) (by kernel_rfl) (by kernel_rfl) rfl rfl rfl rfl rfl rfl (gF arpfld34_4) (fun w1 hw => hw) ?_
  refine TH.takeG 13 rfl (by kernel_rfl) (by kernel_rfl) (by kernel_rfl) rfl rfl rfl rfl rfl rfl (gL 0 pcmag3) (fun w1 hw => hw) ?_
  refine TH.only' 9 rfl (by kernel_rfl) rfl ?_
  refine TL.gu ?_
  refine TL.pcallPm (α := {y : (Option Addr × Nat) × List Rs // IsSt l p.trc p.flow y.2 ∧ y.2.length ≤ y.1.2 ∧ y.1.2 ≤ maxLen}) (fun x => .slice x.1.1.1 x.1.2.length x.1.1.2) (fun x => [.row (.slice x.1.1.1 x.1.2.length x.1.1.2) 65 17 x.1.2.length (flat Rs.cells x.1.2)]) rfl rfl rfl rfl rfl Tryz.func73 (by decide) rfl (fun w1 hw => stream_any A0 c0 l p.trc p.flow w1 (hr.up hw.bel) hl1 hok) ?_
  rintro ⟨⟨⟨R16, rc16⟩, st16⟩, hP16, hR161, hR162⟩
  dsimp only [List.cons_append, List.nil_append]
  dsimp only at hP16 hR161 hR162 ⊢
  refine zE ?_
  refine TX.held (fun w1 hw => hw.pick [1, 2] (by decide) rfl) ?_
  refine TH.only' 14 rfl (by kernel_rfl) rfl ?_
  refine TL.gu ?_
  refine TL.pcall1 (r := .bool (bhF st16 u.los p.at_)) rfl rfl rfl rfl rfl Tryz.func72 (by decide) rfl (fun w1 hw => blackhole_l R16 rc16 st16 u.los p.at_ w1 (pm_rd hw (k := 0) rfl) (by have := hP16.le; omega)) ?_
  refine zE ?_
  refine TX.he (fun w1 hw => hw.pick [1, 2] (by decide) rfl) fun hS => ?_
  refine TH.t 15 rfl (gives_pick rfl rfl rfl) hS ?_
  refine TH.t 16 rfl (gives_assign rfl rfl) hS ?_
  refine TH.done (by kernel_rfl) ?_
  refine zT (zr ?_)
  exact ret_tmp Tryz.results29 rfl (fun w1 hw => ⟨⟨bhF st16 u.los p.at_, fun h => ⟨hk, st16, hP16, h⟩, fun ⟨_, y, h1, h2⟩ => by rw [hP16.eq h1]; exact h2⟩, rfl, hw.bel⟩)
 refine TC.held (ls := #[Ff,Ff,Ff,Ff,Ff,Ff,Ff,Ff,Ff,Ff,Ff,Ff,Ff,Ff,Ff,Ff,Ff]) (Pm w [.blk g5 34 p.cells, .blk g4 28 u.cells]) (by kernel_rfl) rfl rfl (fun w hw => hw.drawn _) ?_
 refine TH.tk 0 rfl rfl rfl (gF arpfld34_0) (fun w1 hw => hw) ?_
 refine TH.tk 1 rfl rfl rfl (gL 0 pcmag3) (fun w1 hw => hw) ?_
 refine TH.tk 2 rfl rfl rfl (gives_bin rfl rfl rfl (fun w => bin_eql_f (hk) w)) (fun w1 hw => hw) ?_
 refine TH.tk 3 rfl rfl rfl (gives_move rfl rfl) (fun w1 hw => hw) ?_
 refine TH.off 4 rfl (by kernel_rfl) (by kernel_rfl) (by kernel_rfl) rfl rfl rfl rfl rfl rfl rfl (fun w1 hw => hw) ?_
 refine TH.off 5 rfl (by kernel_rfl) (by kernel_rfl) (by kernel_rfl) rfl rfl rfl rfl rfl rfl rfl (fun w1 hw => hw) ?_
 refine TH.off 6 rfl (by kernel_rfl) (by kernel_rfl) (by kernel_rfl) rfl rfl rfl rfl rfl rfl rfl (fun w1 hw => hw) ?_
 refine TH.off 7 rfl (by kernel_rfl) (by kernel_rfl) (by kernel_rfl) rfl rfl rfl rfl rfl rfl rfl (fun w1 hw => hw) ?_
 refine TH.off 8 rfl (by kernel_rfl) (by kernel_rfl) (by kernel_rfl) rfl rfl rfl rfl rfl rfl rfl (fun w1 hw => hw) ?_
 refine TH.off 9 rfl (by kernel_rfl) (by kernel_rfl) (by kernel_rfl) rfl rfl rfl rfl rfl rfl rfl (fun w1 hw => hw) ?_
 refine TH.off 10 rfl (by kernel_rfl) (by kernel_rfl) (by kernel_rfl) rfl rfl rfl rfl rfl rfl rfl (fun w1 hw => hw) ?_
 refine TH.off 11 rfl (by kernel_rfl) (by kernel_rfl) (by kernel_rfl) rfl rfl rfl rfl rfl rfl rfl (fun w1 hw => hw) ?_
 refine TH.off 12 rfl (by kernel_rfl) (by kernel_rfl) (by kernel_rfl) rfl rfl rfl rfl rfl rfl rfl (fun w1 hw => hw) ?_
 refine TH.off 13 rfl (by kernel_rfl) (by kernel_rfl) (by kernel_rfl) rfl rfl rfl rfl rfl rfl rfl (fun w1 hw => hw) ?_
 refine TH.off 14 rfl (by kernel_rfl) (by kernel_rfl) (by kernel_rfl) rfl rfl rfl rfl rfl rfl rfl (fun w1 hw => hw) ?_
 refine TH.tk 15 rfl rfl rfl (gives_pick rfl rfl rfl) (fun w1 hw => hw) ?_
 refine TH.tk 16 rfl rfl rfl (gives_assign rfl rfl) (fun w1 hw => hw) ?_
 refine TH.done (by kernel_rfl) ?_
 refine zT (zr ?_)
 exact ret_tmp Tryz.results29 rfl (fun w1 hw => ⟨⟨false, by simp [BhP, hk]⟩, rfl, hw.bel⟩)
set_option maxRecDepth 20000
theorem vld_in {r : Rs} (h : vldRs r = true) : r.inRange := by
  unfold vldRs at h
  simp only [Bool.and_eq_true, decide_eq_true_eq] at h
  exact Decidable.by_contra fun h1 => by have := chk_range h1; omega
theorem fin_in {r : Rs} (h : finRs r = true) : 1 ≤ r.ttl ∧ r.ttl ≤ 255 := by
  unfold finRs usbRs at h
  simp only [Bool.and_eq_true] at h
  have := vld_in h.2.2
  unfold Rs.inRange at this
  omega
def IsB (l : List Rs) (t e : Int) : Prop := (e = 0 ∧ ∀ r ∈ l, finRs r = true → t < r.back) ∨ ((∃ r ∈ l, finRs r = true ∧ r.back ≤ t ∧ r.ttl = e) ∧ ∀ r ∈ l, finRs r = true → r.back ≤ t → e ≤ r.ttl)
theorem isB_step (t : Int) : ∀ (l p : List Rs) (e : Int), IsB p t e → IsB (p ++ l) t (l.foldl (fun e r => if fitB t e r then r.ttl else e) e)
  | [], p, e, h => by rw [List.append_nil]; exact h
  | r :: l, p, e, h => by
    have h1 : IsB (p ++ [r]) t (if fitB t e r then r.ttl else e) := by
      have hm : ∀ {x : Rs}, x ∈ p ++ [r] ↔ x ∈ p ∨ x = r := by intro x; rw [List.mem_append, List.mem_singleton]
      by_cases hf : finRs r = true ∧ r.back ≤ t
      · by_cases hc : e = 0 ∨ r.ttl < e
        · have : fitB t e r = true := by unfold fitB; simp [hf, hc]
          rw [if_pos this]
          refine .inr ⟨⟨r, hm.2 (.inr rfl), hf.1, hf.2, rfl⟩, fun x hx hx2 hx3 => ?_⟩
          rcases hm.1 hx with h2 | h2
          · rcases h with ⟨h3, h4⟩ | ⟨⟨y, hy, hy2, hy3, hy4⟩, h4⟩
            · have := h4 x h2 hx2; omega
            · have h5 := h4 x h2 hx2 hx3
              have h6 := fin_in hy2
              omega
          · rw [h2]; exact Int.le_refl _
        · have : fitB t e r = false := by unfold fitB; simp [hf]; omega
          rw [if_neg (by rw [this]; decide)]
          rcases h with ⟨h3, h4⟩ | ⟨⟨y, hy, hy2, hy3, hy4⟩, h4⟩
          · exact absurd (.inl h3) hc
          · refine .inr ⟨⟨y, hm.2 (.inl hy), hy2, hy3, hy4⟩, fun x hx hx2 hx3 => ?_⟩
            rcases hm.1 hx with h2 | h2
            · exact h4 x h2 hx2 hx3
            · rw [h2]; omega
      · have : fitB t e r = false := by
          unfold fitB
          by_cases h8 : finRs r = true
          · have : ¬ r.back ≤ t := fun h9 => hf ⟨h8, h9⟩
            simp [this]
          · simp [h8]
        rw [if_neg (by rw [this]; decide)]
        rcases h with ⟨h3, h4⟩ | ⟨⟨y, hy, hy2, hy3, hy4⟩, h4⟩
        · refine .inl ⟨h3, fun x hx hx2 => ?_⟩
          rcases hm.1 hx with h2 | h2
          · exact h4 x h2 hx2
          · subst h2; exact Int.not_le.1 fun h9 => hf ⟨hx2, h9⟩
        · refine .inr ⟨⟨y, hm.2 (.inl hy), hy2, hy3, hy4⟩, fun x hx hx2 hx3 => ?_⟩
          rcases hm.1 hx with h2 | h2
          · exact h4 x h2 hx2 hx3
          · subst h2; exact absurd ⟨hx2, hx3⟩ hf
    have := isB_step t l (p ++ [r]) _ h1
    rwa [List.append_assoc] at this
theorem isB (l : List Rs) (t : Int) : IsB l t (bend l t) := isB_step t l [] 0 (.inl ⟨rfl, fun r hr => absurd hr List.not_mem_nil⟩)
theorem lost_mono {e e' t : Int} (h : e ≤ e') : ∀ l : List Rs, lostN e' t l ≤ lostN e t l
  | [] => Nat.le_refl _
  | r :: l => by
    have ih := lost_mono (t := t) h l
    unfold lostN at ih ⊢
    rw [List.filter_cons, List.filter_cons]
    by_cases h1 : lostR e' t r = true
    · have h2 : lostR e t r = true := by
        unfold lostR at h1 ⊢
        simp only [Bool.and_eq_true, Bool.not_eq_true', decide_eq_true_eq] at h1 ⊢
        exact ⟨⟨h1.1.1, by omega⟩, h1.2⟩
      rw [if_pos h1, if_pos h2, List.length_cons, List.length_cons]; omega
    · rw [if_neg h1]
      split
      · rw [List.length_cons]; omega
      · exact ih
def hitB (y : List Rs) (losses t : Int) (x : Rs) : Prop := finRs x = true ∧ x.back ≤ t ∧ losses ≤ (lostN x.ttl t y : Int)
theorem bh_iff {y : List Rs} {losses t : Int} : bhF y losses t = true ↔ ∃ x ∈ y, hitB y losses t x := by
  unfold bhF
  simp only [Bool.and_eq_true, decide_eq_true_eq]
  rcases isB y t with ⟨h1, h2⟩ | ⟨⟨r, hr, hr2, hr3, hr4⟩, h2⟩
  · rw [h1]
    constructor
    · rintro ⟨h3, _⟩; omega
    · rintro ⟨x, hx, h3, h4, _⟩; have := h2 x hx h3; omega
  · constructor
    · rintro ⟨_, h3⟩; exact ⟨r, hr, hr2, hr3, by rw [hr4]; exact h3⟩
    · rintro ⟨x, hx, h3, h4, h5⟩
      have h6 := fin_in hr2
      have h7 := lost_mono (t := t) (h2 x hx h3 h4) y
      exact ⟨by omega, by omega⟩
set_option maxRecDepth 20000
def onF (o : List Rs) : List Rs := o.foldl (fun acc x => if idnR x ∈ acc.map idnR then acc else acc ++ [x]) []
theorem onF_snoc (o : List Rs) (x : Rs) : onF (o ++ [x]) = if idnR x ∈ (onF o).map idnR then onF o else onF o ++ [x] := by
 unfold onF; rw [List.foldl_append]; rfl
theorem onF_ids : ∀ (n : Nat) (o : List Rs) (a : Idn), o.length = n → (a ∈ (onF o).map idnR ↔ a ∈ o.map idnR)
 | 0, o, a, h => by
  obtain rfl : o = [] := List.eq_nil_of_length_eq_zero h
  exact Iff.rfl
 | n + 1, o, a, h => by
  have hne : o ≠ [] := fun e => by rw [e] at h; cases h
  rw [← List.dropLast_concat_getLast hne]
  have ih := onF_ids n o.dropLast a (by rw [List.length_dropLast]; omega)
  rw [onF_snoc, List.map_append, List.mem_append, ← ih]
  split
  ·rename_i hm
   constructor
   ·exact .inl
   rintro (h1 | h1)
   ·exact h1
   rw [List.map_singleton, List.mem_singleton] at h1; rw [h1]; exact hm
  rw [List.map_append, List.mem_append]
def dON (o : List Rs) (j : Nat) : Bool := match o[j]? with
 | some x => decide (idnR x ∈ (o.take j).map idnR)
 | none => false
theorem dON_at {o : List Rs} {j : Nat} {x : Rs} (h : o[j]? = some x) : dON o j = decide (idnR x ∈ (o.take j).map idnR) := by unfold dON; rw [h]
theorem onF_kp (o : List Rs) : KpS (dON o) o (fun j => onF (o.take j)) := ⟨by dsimp only; rw [List.take_zero]; rfl, fun j x h => by
 dsimp only
 rw [List.take_add_one, h, Option.toList, onF_snoc, dON_at h]
 have := onF_ids _ (o.take j) (idnR x) rfl
 by_cases hm : idnR x ∈ (o.take j).map idnR
 ·rw [if_pos (this.2 hm), if_pos (decide_eq_true hm)]
 rw [if_neg (fun h1 => hm (this.1 h1)), if_neg (by simpa using hm)]⟩
def OncP (l y : List Rs) : Prop := ∃ o, IsOrd l o ∧ y = onF o
theorem OncP.eq {l y y' : List Rs} (h : OncP l y) (h' : OncP l y') : y = y' := by
 obtain ⟨o, h1, rfl⟩ := h
 obtain ⟨o', h2, rfl⟩ := h'
 rw [h1.eq h2]
def IdM (ob : Obj) (fs : List Idn) : Prop := ∃ f : Idn → Option Value, MapG (fun s : Idn => .agg s.cells.toArray) Idn.Ok ob f ∧ ∀ a, a.Ok → (f a).getD (.bool false) = .bool (decide (a ∈ fs))
theorem IdM.new : IdM (.map #[] 0) [] := ⟨_, mapG_new _ _, fun a _ => rfl⟩
theorem IdM.set {ob : Obj} {fs : List Idn} {x : Idn} {f : Idn → Option Value} (h2 : ∀ a, a.Ok → (f a).getD (.bool false) = .bool (decide (a ∈ fs))) (hm : MapG (fun s : Idn => .agg s.cells.toArray) Idn.Ok ob (fun z => if z = x then some (.bool true) else f z)) : IdM ob (fs ++ [x]) :=
 ⟨_, hm, fun a ha => by
  by_cases e : a = x
  ·simp [e]
  simp [e, h2 a ha]⟩
theorem idn_ok {r : Rs} (h : vldRs r = true) : (idnR r).Ok := by
 have h1 := vld_in h
 unfold Rs.inRange at h1
 unfold Idn.Ok idnR
 dsimp only
 refine ⟨?_, ?_, ?_⟩ <;> (simp [Lit.wf, IntKind.min, IntKind.max, IntKind.signed, IntKind.bits]; omega)
theorem onF_sub : ∀ (o : List Rs) {r : Rs}, r ∈ onF o → r ∈ o := fun o => by
 induction hn : o.length generalizing o with
 | zero =>
  intro r h
  obtain rfl : o = [] := List.eq_nil_of_length_eq_zero hn
  exact h
 | succ n ih =>
  intro r h
  have hne : o ≠ [] := fun e => by rw [e] at hn; cases hn
  rw [← List.dropLast_concat_getLast hne, onF_snoc] at h
  have ih' := fun {r} => ih o.dropLast (by rw [List.length_dropLast]; omega) (r := r)
  split at h
  ·exact List.dropLast_subset _ (ih' h)
  rcases List.mem_append.1 h with h | h
  ·exact List.dropLast_subset _ (ih' h)
  rw [List.mem_singleton.1 h]; exact List.getLast_mem hne
theorem mreag141 (w : World) : (isAgg 141).run Tryz.prog w = .ok false w := rfl
theorem mrezv141 (w : World) : (zeroValue 141).run Tryz.prog w = .ok (.map none) w := rfl
theorem mresz141 (w : World) : (sizeOf 141).run Tryz.prog w = .ok 1 w := rfl
theorem mreone_m {a0 : Nat} : ∀ u ∈ [(.map (some a0) : Value)], u.oneCell' = true := by
 intro u hu
 rw [List.mem_singleton] at hu
 subst hu; rfl
theorem res1_fr (w0 : Base) (F : List Pc) (g1 gm : Nat) (ob : Obj) (x : Rs) (fs : List Idn) (w : World) (hw0 : Pm w0 ([.oth gm ob, .blk g1 141 [.map (some gm)]] ++ F) w) (hx : (idnR x).Ok) (hM : IdM ob fs) (hgm : Mine w0 gm) :
  Calls Tryz.prog 149 #[.agg x.cells.toArray, .pointer (some ⟨g1, 0, none⟩)] w fun e w' => ∃ s2 : {ob2 : Obj // IdM ob2 (fs ++ [idnR x])}, e = .returned (.bool (decide (idnR x ∈ fs))) ∧ Pm w0 ([.oth gm s2.1, .blk g1 141 [.map (some gm)]] ++ F) w' := by
 refine begin_ (vs := [.agg x.cells.toArray, .pointer (some ⟨g1, 0, none⟩)]) (I := Pm w0 ([.oth gm ob, .blk g1 141 [.map (some gm)]] ++ F)) Tryz.func149 rfl rfl rfl ?_ hw0
 refine zSG ?_
 refine TL.pnew rfl rfl rfl (exec_box (cs := x.cells) rfl rfl rfl) (fun g2 => ?_)
 refine TL.as_ ?_
 refine zET (zS ?_)
 obtain ⟨fm, hmf, hff⟩ := hM
 obtain ⟨mb, hmb⟩ : ∃ b, decide (idnR x ∈ fs) = b := ⟨_, rfl⟩
 refine zG (TL.v (gV 0 (.agg (x.cells).toArray) prsag65 prssz65) ?_)
 refine TL.pcall1 (r := .agg ((idnR x).cells).toArray) rfl rfl rfl rfl rfl Tryz.func104 (by decide) rfl (fun w1 hw => idn_any x w1) ?_
 refine TL.pnew rfl rfl rfl (exec_alloc (cs := [.int .i64 0, .int .i64 0, .int .i64 0]) rfl prszv73 rfl) (fun g4 => ?_)
 refine TL.pstore (k := 0) (vs := (idnR x).cells) rfl rfl rfl rfl rfl rfl rfl prssz73 (by first | exact idn_cel.one _ | exact ru_cel.one _) (by show 3 ≤ 3; decide) (L' := ([.blk g4 73 (idnR x).cells, .blk g2 65 x.cells, .oth gm ob, .blk g1 141 [.map (some gm)]] ++ F)) rfl ?_
 refine zET (zSG (TL.v (gL 3 mreag141) ?_))
 refine TL.v (gV 0 (.agg ((idnR x).cells).toArray) pofag73 prssz73) ?_
 refine TL.val rfl rfl rfl (gives_lookG (i := 2) (a := idnR x) (v := .bool mb) rfl rfl rfl idn_key Tryz.underlying141 (fun w => rfl) rfl hmf hx (by rw [hff _ hx, hmb])) ?_
 refine TL.as_ ?_
 refine zET (zSG (TL.v (gL 3 mreag141) ?_))
 refine TL.v (gV 0 (.agg ((idnR x).cells).toArray) pofag73 prssz73) ?_
 refine TL.mapsetG (enc := fun s : Idn => .agg s.cells.toArray) (a := idnR x) (i := 2) rfl rfl rfl rfl rfl rfl idn_key Tryz.underlying141 rfl hgm hmf hx (fun ob2 hm2 => ?_)
 try dsimp only [List.set_cons_zero, List.set_cons_succ]
 refine zET (zSG (TL.rn 2 rfl (zET (zr ?_))))
 exact ret_tmp Tryz.results149 rfl (fun w1 hw => ⟨⟨ob2, IdM.set hff hm2⟩, by rw [hmb], hw.sel (.cons _ (.cons _ (.cons_cons _ (.cons_cons _ (List.Sublist.refl _)))))⟩)
theorem onF_le (o : List Rs) : (onF o).length ≤ o.length := by
 have h := (onF_kp o)
 induction hn : o.length generalizing o with
 | zero => obtain rfl : o = [] := List.eq_nil_of_length_eq_zero hn; exact Nat.le_refl _
 | succ n ih =>
  have hne : o ≠ [] := fun e => by rw [e] at hn; cases hn
  rw [← List.dropLast_concat_getLast hne, onF_snoc]
  have := ih o.dropLast (onF_kp _) (by rw [List.length_dropLast]; omega)
  split
  ·omega
  rw [List.length_append]; show _ + 1 ≤ _; omega
theorem results_any (A0 : Option Addr) (c0 : Nat) (l : List Rs) (w : World) (hr : Reads w w.heap.size 17 A0 l.length (flat Rs.cells l)) (hl1 : l.length ≤ 100000) (hok : ∀ r ∈ l, r.Ok) :
  Calls Tryz.prog 101 #[.slice A0 l.length c0] w fun e w' => ∃ x : {y : (Option Addr × Nat) × List Rs // OncP l y.2 ∧ y.2.length ≤ y.1.2 ∧ y.1.2 ≤ maxLen}, e = .returned (.slice x.1.1.1 x.1.2.length x.1.1.2) ∧ Pm w [.row (.slice x.1.1.1 x.1.2.length x.1.1.2) 65 17 x.1.2.length (flat Rs.cells x.1.2)] w' := by
 refine begin_ (vs := [.slice A0 l.length c0]) Tryz.func101 rfl rfl rfl ?_ (Pm.start w)
 refine zSG (TL.as_ ?_)
 refine zET (zSG ?_)
 refine TL.mkmap rfl rfl rfl rfl (fun gm hgm => ?_)
 refine TL.pnew rfl rfl rfl (exec_alloc (cs := [.map none]) rfl mrezv141 rfl) (fun g3 => ?_)
 refine TL.pstore (k := 0) (vs := [.map (some gm)]) rfl rfl rfl rfl rfl rfl rfl mresz141 mreone_m (by show 1 ≤ 1; decide) rfl ?_
 refine zET (zSG (TL.mv ?_))
 refine TL.pcallPm (α := {y : (Option Addr × Nat) × List Rs // IsOrd l y.2 ∧ y.2.length ≤ y.1.2 ∧ y.1.2 ≤ maxLen}) (fun x => .slice x.1.1.1 x.1.2.length x.1.1.2) (fun x => [.row (.slice x.1.1.1 x.1.2.length x.1.1.2) 65 17 x.1.2.length (flat Rs.cells x.1.2)]) rfl rfl rfl rfl rfl Tryz.func88 (by decide) rfl (fun w1 hw => ord_any A0 c0 l w1 (hr.up hw.bel) hl1 hok) ?_
 rintro ⟨⟨⟨R6, rc6⟩, o6⟩, hP6, hR61, hR62⟩
 dsimp only [List.cons_append, List.nil_append]
 dsimp only at hP6 hR61 hR62 ⊢
 refine TL.val rfl rfl rfl (gives_makeFunc rfl rfl rfl) ?_
 have hol := hP6.le
 refine TL.call (α := {ob2 : Obj // IdM ob2 ((o6.take o6.length).map idnR)}) (r := fun _ => .slice R6 ((onF (o6.take o6.length)).length) rc6) (I' := fun x => Pm w ([.row (.slice R6 ((onF (o6.take o6.length)).length) rc6) 65 17 ((onF (o6.take o6.length)).length) (flat Rs.cells (onF (o6.take o6.length))), .oth gm x.1] ++ [.blk g3 141 [.map (some gm)]])) rfl rfl rfl rfl rfl Tryz.func108 (by decide) rfl (fun w1 hw => delS_fr w [.blk g3 141 [.map (some gm)]] (fun ob => .oth gm ob) (fun j ob => IdM ob ((o6.take j).map idnR)) (.map #[] 0) (dON o6) 149 _ #[.pointer (some ⟨g3, 0, none⟩)] (fun j => onF (o6.take j)) R6 rc6 o6 w1 (hw.pick [0, 2, 1] (by decide) rfl) (by omega) (by omega) (by omega) (onF_kp o6) Tryz.func149 (by decide) rfl (by rw [List.take_zero]; exact IdM.new) (fun j x ob w1 L1 hx hk h9 => (res1_fr w (L1 ++ []) g3 gm ob x ((o6.take j).map idnR) w1 (h9.permute (List.perm_append_comm_assoc L1 [.oth gm ob, .blk g3 141 [.map (some gm)]] [])) (idn_ok ((hP6.2 x).1 (List.mem_of_getElem? hx)).2) hk hgm).mono fun en w2 ⟨s2, h1, h2⟩ => ⟨⟨s2.1, by rw [List.take_add_one, hx, List.map_append]; exact s2.2⟩, by rw [h1, dON_at hx], h2.permute (List.perm_append_comm_assoc L1 [.oth gm s2.1, .blk g3 141 [.map (some gm)]] []).symm⟩)) ?_
 rintro ⟨ob9, hob9⟩
 refine TL.as_ ?_
 refine zET (zr ?_)
 have hE : onF (o6.take o6.length) = onF o6 := by rw [List.take_length]
 exact ret_tmp Tryz.results101 rfl (fun w1 hw => ⟨⟨((R6, rc6), onF (o6.take o6.length)), ⟨o6, hP6, hE⟩, by dsimp only; have := onF_le (o6.take o6.length); rw [List.length_take] at this; omega, hR62⟩, rfl, hw.pick [0] (by decide) rfl⟩)
set_option maxRecDepth 20000
def catL (ss : List (Sg Rs)) : List Rs := ss.flatMap (·.l)
theorem catL_snoc {ss : List (Sg Rs)} {i : Nat} {x : Sg Rs} (h : ss[i]? = some x) : catL (ss.take (i + 1)) = catL (ss.take i) ++ x.l := by
 unfold catL
 rw [List.take_add_one, h, List.flatMap_append]
 simp
theorem catL_le (ss : List (Sg Rs)) (i : Nat) : (catL (ss.take i)).length ≤ (catL ss).length := by
 conv => rhs; rw [← List.take_append_drop i ss]
 unfold catL
 rw [List.flatMap_append, List.length_append]; omega
theorem mcosz23 (w : World) : (sizeOf 23).run Tryz.prog w = .ok 1 w := rfl
theorem mcoag23 (w : World) : (isAgg 23).run Tryz.prog w = .ok false w := rfl
theorem growR_nil (n : Nat) (w : World) (hn : n ≤ 1000000) :
  Calls Tryz.prog 151 #[.slice none 0 0, .int .i64 ((n : Nat) : Int)] w fun e w' => ∃ x : {y : Option Addr × Nat // n ≤ y.2 ∧ y.2 ≤ maxLen}, e = .returned (.slice x.1.1 0 x.1.2) ∧ Pm w [.row (.slice x.1.1 0 x.1.2) 65 17 0 (flat Rs.cells [])] w' := by
 refine begin_ (vs := [.slice none 0 0, .int .i64 ((n : Nat) : Int)]) Tryz.func151 rfl rfl rfl ?_ (Pm.start w)
 refine zSG (TL.as_ ?_)
 refine zET (zS (zSG (TL.mv ?_)))
 refine TL.val rfl rfl rfl (gives_bin rfl rfl rfl (fun w => bin_lss_f (by omega) w)) ?_
 refine zET (zd (zk (zT (zS (zSG (TL.rn 2 rfl ?_))))))
 refine TL.val rfl rfl rfl (gives_cap rfl Tryz.underlying23 rfl) ?_
 refine TL.mv ?_
 refine TL.v (gN Tryz.underlying23) ?_
 refine TL.val rfl rfl rfl (gives_bin rfl rfl rfl (fun w => bin_sub_ (r := 0) (rfl) w)) ?_
 refine TL.val rfl rfl rfl (gives_bin rfl rfl rfl (fun w => bin_sub_ (r := ((n : Nat) : Int)) (by simp only [IntKind.wrap_i64]; omega) w)) ?_
 refine TL.as_ ?_
 refine zET (zSG (TL.mv ?_))
 refine TL.sp bin_gtr (fun q16 => ?_) (fun q16 => ?_)
 ·refine zET (zc (zG (TL.rn 2 rfl ?_)))
  refine TL.val rfl rfl rfl (gives_cap rfl Tryz.underlying23 rfl) ?_
  refine TL.nilrow 65 17 ?_
  refine TL.rowhead (k := 0) (hi := 0) (xs' := []) rfl rfl rfl rfl rfl rfl Tryz.underlying23 prssz65 rfl (Nat.le_refl _) (Nat.le_refl _) rfl ?_
  try dsimp only [List.set_cons_zero, List.set_cons_succ]
  refine TL.mv ?_
  refine TL.zeros (k := 0) (m := n) rfl rfl rfl rfl porel23 Tryz.underlying3 rfl rfl rfl (z := .agg Rs.zero.cells.toArray) (by kernel_rfl) (zs := flat Rs.cells (List.replicate n Rs.zero)) (zeroCells_flat rs_cel Rs.zero n) (fun k u hu => by have hu2 := hu; rw [show (Value.agg Rs.zero.cells.toArray).cells = Rs.zero.cells.toArray from rfl, zeroCells_flat rs_cel Rs.zero k] at hu2; exact flat_one rs_cel _ u hu2) (by show _ * 128 ≤ _; omega) n (by omega) (fun A22 c22 hA221 hA222 => ?_)
  try dsimp only [List.set_cons_zero, List.set_cons_succ, List.nil_append]
  refine TL.mv ?_
  refine TL.v (gN Tryz.underlying23) ?_
  refine TL.rowhead (k := 0) (hi := 0) (xs' := []) rfl rfl rfl rfl rfl rfl Tryz.underlying23 prssz65 rfl (Nat.zero_le _) hA221 rfl ?_
  try dsimp only [List.set_cons_zero, List.set_cons_succ]
  refine TL.as_ ?_
  refine zET (zSG (TL.rn 2 rfl (zET (zr ?_))))
  exact ret_tmp Tryz.results151 rfl (fun w1 hw => ⟨⟨(A22, c22), hA221, hA222⟩, rfl, hw.pick [0] (by decide) rfl⟩)
 refine zET (zd (zk (zT (zSG (TL.rn 2 rfl (zET (zr ?_)))))))
 exact ret_tmp Tryz.results151 rfl (fun w1 hw => ⟨⟨(none, 0), by dsimp only; omega, Nat.zero_le _⟩, rfl, (hw.pick [] (by decide) rfl).nilrow _ _⟩)
theorem concR_any (A0 : Option Addr) (c0 : Nat) (ss : List (Sg Rs)) (w : World) (hs : Reads w w.heap.size 1 A0 ss.length (flat sgc ss)) (hb : ∀ s ∈ ss, Reads w w.heap.size 17 s.A s.l.length (flat Rs.cells s.l)) (hl : ss.length ≤ 1000) (hcl0 : (catL ss).length ≤ 1000000) :
  Calls Tryz.prog 103 #[.slice A0 ss.length c0] w fun e w' => ∃ x : {y : (Option Addr × Nat) × List Rs // y.2 = catL ss ∧ y.2.length ≤ y.1.2 ∧ y.1.2 ≤ maxLen}, e = .returned (.slice x.1.1.1 x.1.2.length x.1.1.2) ∧ Pm w [.row (.slice x.1.1.1 x.1.2.length x.1.1.2) 65 17 x.1.2.length (flat Rs.cells x.1.2)] w' := by
 refine begin_ (vs := [.slice A0 ss.length c0]) Tryz.func103 rfl rfl rfl ?_ (Pm.start w)
 refine zSG (TL.as_ ?_)
 refine zET (zSG (TL.as_ ?_))
 refine zET (zS (zSG (TL.mv ?_)))
 refine TL.v (gN Tryz.underlying45) ?_
 refine TL.mv ?_
 refine zET (zB (TC.loop_ (α := {i : Nat // i ≤ ss.length}) (fun y => [(0, .slice A0 ss.length c0), (9, .slice A0 ss.length c0), (10, .int .i64 (ss.length : Nat)), (11, .int .i64 ((y.1 : Nat) : Int)), (3, .int .i64 (((catL (ss.take y.1)).length : Nat) : Int))]) (fun y => Pm w []) (fun y => ss.length - y.1) (⟨0, Nat.zero_le _⟩) ⟨rfl, rfl, rfl, rfl, rfl, trivial⟩ (fun w1 hw => hw) ?_))
 rintro ⟨i, hi⟩
 try dsimp only at hi ⊢
 refine zSG ?_
 refine TL.sp bin_lss (fun q12 => ?_) (fun q12 => ?_)
 ·refine zET (zS (zc (zk (zT (zS (zB (zSG ?_)))))))
  have hi13 : i < ss.length := by omega
  obtain ⟨x13, hx13⟩ := ex_at hi13
  obtain ⟨b13, o13, hA13, hbb13, hc13⟩ := hs.ad (by omega) (by decide)
  refine TL.val rfl rfl rfl (gA (i := i) Tryz.underlying45 mcosz23 rfl rfl rfl rfl hA13 (by omega)) ?_
  refine TL.v (gS 0 sgc_cel mcoag23 hbb13 hx13 hc13) ?_
  refine TL.as_ ?_
  refine zET (zS ?_)
  have hcs := catL_snoc hx13
  have hcl : (catL (ss.take (i + 1))).length = (catL (ss.take i)).length + x13.l.length := by rw [hcs, List.length_append]
  have hcm := catL_le ss (i + 1)
  refine zG (TL.rn 2 rfl (TL.v (gN Tryz.underlying23) ?_))
  refine TL.v (gD (((catL (ss.take (i + 1))).length : Nat) : Int)) ?_
  refine TL.as_ ?_
  refine zET (zSG (TL.mv ?_))
  refine TL.val rfl rfl rfl (gives_bin rfl rfl rfl (fun w => bin_lss_f (by omega) w)) ?_
  refine zET (zd (zk (zN (zT (zG (TL.v (gD ((i + 1 : Nat) : Int)) ?_))))))
  refine TL.mv ?_
  refine zE ?_
  exact TX.round (⟨i + 1, by omega⟩) (by show ss.length - (i + 1) < ss.length - i; omega) ⟨rfl, rfl, rfl, rfl, rfl, trivial⟩ (fun w1 hw => hw)
 refine zET (zS (zd (zx (zX (zX (zM (zT (zS ?_))))))))
 have hct : catL (ss.take i) = catL ss := by rw [List.take_of_length_le (by omega)]
 refine zG (TL.mv ?_)
 refine TL.pcallPm (α := {y : Option Addr × Nat // (catL (ss.take i)).length ≤ y.2 ∧ y.2 ≤ maxLen}) (fun x => .slice x.1.1 0 x.1.2) (fun x => [.row (.slice x.1.1 0 x.1.2) 65 17 0 (flat Rs.cells ([]))]) rfl rfl rfl rfl rfl Tryz.func151 (by decide) rfl (fun w1 hw => growR_nil (catL (ss.take i)).length w1 (by have := catL_le ss i; omega)) ?_
 rintro ⟨⟨Ag, cg⟩, hg1, hg2⟩
 dsimp only [List.cons_append, List.nil_append]
 dsimp only at hg1 hg2 ⊢
 refine TL.as_ ?_
 refine zET (zS (zSG (TL.mv ?_)))
 refine TL.v (gN Tryz.underlying45) ?_
 refine TL.mv ?_
 refine zET (zB (TC.loop_ (α := {y : Nat × (Option Addr × Nat) // y.1 ≤ ss.length ∧ (catL (ss.take y.1)).length ≤ y.2.2 ∧ y.2.2 ≤ maxLen}) (fun y => [(0, .slice A0 ss.length c0), (25, .slice A0 ss.length c0), (26, .int .i64 (ss.length : Nat)), (27, .int .i64 ((y.1.1 : Nat) : Int)), (6, .slice y.1.2.1 ((catL (ss.take y.1.1)).length) y.1.2.2)]) (fun y => Pm w [.row (.slice y.1.2.1 ((catL (ss.take y.1.1)).length) y.1.2.2) 65 17 ((catL (ss.take y.1.1)).length) (flat Rs.cells (catL (ss.take y.1.1)))]) (fun y => ss.length - y.1.1) (⟨(0, (Ag, cg)), Nat.zero_le _, Nat.zero_le _, hg2⟩) ⟨rfl, rfl, rfl, rfl, rfl, trivial⟩ (fun w1 hw => hw) ?_))
 rintro ⟨⟨i, ⟨Ao, co⟩⟩, hi, hoc, hom⟩
 dsimp only at hi hoc hom ⊢
 refine zSG ?_
 refine TL.sp bin_lss (fun q28 => ?_) (fun q28 => ?_)
 ·refine zET (zS (zc (zk (zT (zS (zB (zSG ?_)))))))
  have hi29 : i < ss.length := by omega
  obtain ⟨x29, hx29⟩ := ex_at hi29
  obtain ⟨b29, o29, hA29, hbb29, hc29⟩ := hs.ad (by omega) (by decide)
  refine TL.val rfl rfl rfl (gA (i := i) Tryz.underlying45 mcosz23 rfl rfl rfl rfl hA29 (by omega)) ?_
  refine TL.v (gS 0 sgc_cel mcoag23 hbb29 hx29 hc29) ?_
  refine TL.as_ ?_
  refine zET ?_
  have hcs := catL_snoc hx29
  have hcl : (catL (ss.take (i + 1))).length = (catL (ss.take i)).length + x29.l.length := by rw [hcs, List.length_append]
  have hcm := catL_le ss (i + 1)
  refine zG (TL.rn 2 rfl ?_)
  refine TL.appendT (k := 0) rfl rfl rfl rfl Tryz.underlying23 porel23 rfl rfl rfl (fun w1 hw => ⟨_, ((hb x29 (List.mem_of_getElem? hx29)).up hw.bel)⟩) (flat_one rs_cel _) (by show _ * 128 ≤ _; omega) ((catL (ss.take (i + 1))).length) (hcl) (flat Rs.cells (catL (ss.take (i + 1)))) (by rw [hcs]; exact (flat_app _ _).symm) (fun A33 c33 hA331 hA332 => ?_)
  refine TL.as_ ?_
  refine zE (zN (zT (zG (TL.v (gD ((i + 1 : Nat) : Int)) ?_))))
  refine TL.mv ?_
  refine zE ?_
  exact TX.round (⟨(i + 1, (A33, c33)), by dsimp only; omega, hA331, hA332⟩) (by show ss.length - (i + 1) < ss.length - i; omega) ⟨rfl, rfl, rfl, rfl, rfl, trivial⟩ (fun w1 hw => hw)
 refine zET (zS (zd (zx (zX (zX (zM (zT (zSG (TL.rn 2 rfl (zET (zr ?_)))))))))))
 have hct : catL (ss.take i) = catL ss := by rw [List.take_of_length_le (by omega)]
 exact ret_tmp Tryz.results103 rfl (fun w1 hw => ⟨⟨((Ao, co), catL (ss.take i)), hct, hoc, hom⟩, rfl, hw.pick [0] (by decide) rfl⟩)
section
variable {P : Program} {Q : Exit → Act → World → Prop}
theorem wpOp_inRound {lr n : Nat} {ops : Array Oper} (hQ : LetsOut Q → False) (hd : ∀ (i : Nat) (o : Oper), ops[i]? = some o → ∀ c, o.op ≠ .defer c) (i : Nat) {K K' : Act → World → Prop} (hK : ∀ a w, K a w → K' a w) (a : Act) (w : World) (h : wpOp P ops Q i K a w) : wpOpIn (Fence.wide.inRound lr) n P ops Q i K' a w := by
  unfold wpOp at h
  unfold wpOpIn
  cases ho : ops[i]? with
  | none => rw [ho] at h; exact hK _ _ h
  | some o =>
    rw [ho] at h
    dsimp only at h ⊢
    by_cases hw : Region.wanted o (yielded ops a.tmps) = true
    · rw [if_pos hw] at h ⊢
      rcases h with h | h
      · refine ⟨fun f _ => trivial, ?_⟩
        rw [Oper.semAt_eq _ _ _ (hd i o ho)]
        unfold Oper.wp at h
        generalize (execOp a.eval o).run P w = res at h
        cases res with
        | ok x w' =>
          cases x with
          | value v => exact hK _ _ h
          | skip => exact hK _ _ h
          | defer d => exact hK _ _ h
          | enter f args =>
            refine ⟨fun h => (by cases h), CallsIn.inRound lr (callsIn_wide.2 (Calls.mono h fun e w'' q => ?_))⟩
            cases e with
            | returned v => exact hK _ _ q
            | panicked c => exact q
            | outgrown => exact q
          | row row args =>
            exact ⟨fun h => (by cases h), fun c cs hr => by
              obtain ⟨v, w'', q, st⟩ := h c cs
              exact ⟨v, w'', hK _ _ q, stepsIn_wide.2 st⟩⟩
          | round => exact h.elim
          | _ => exact h.elim
        | halt x w' =>
          cases x with
          | panic v => exact h
          | _ => exact h.elim
      · exact (hQ h.2).elim
    · rw [if_neg hw] at h ⊢
      exact ⟨fun f _ => trivial, hK _ _ h⟩
theorem wpAny_inRound {lr n : Nat} {md : Region.Mode} {ops : Array Oper} (hQ : LetsOut Q → False) (hd : ∀ (i : Nat) (o : Oper), ops[i]? = some o → ∀ c, o.op ≠ .defer c) : ∀ (fuel : Nat) (listed : Array Bool) (a : Act) (w : World), wpAny P md ops Q fuel listed a w → wpAnyIn (Fence.wide.inRound lr) n P md ops Q fuel listed a w
  | 0, _, _, _, h => h
  | fuel + 1, _, a, w, h => ⟨h.1, fun i hi => wpOp_inRound hQ hd i (fun a' w' h' => wpAny_inRound hQ hd fuel _ a' w' h') a w (h.2 i hi)⟩
end
section
variable {P : Program} {N : Fr} {E : Env} {I S : World → Prop} {lr n : Nat} {Q : Exit → Act → World → Prop}
theorem TR.held {id m : Nat} {l : List Oper} {ls : Array Bool} (S : World → Prop) (hm : P.follows .mixedOrders = true) (hn : l.toArray.size = m) (hls : Array.replicate m false = ls) (hI : ∀ w, I w → I { w with drawn := w.drawn + 1 })
    (h : TH P N l.toArray S Q m ls E I) (hd : noDefer l = true := by rfl) (hQ : LetsOut Q → False := by (intro h; obtain ⟨_, _, h, _⟩ := h; cases h)) : TR P N lr n Q (.region id l.toArray true) E I := fun a w ha hw => by
  subst hn hls
  have h1 : wpAny P .any l.toArray (NoPanic Q) l.toArray.size (Array.replicate l.toArray.size false) a { w with drawn := w.drawn + 1 } := wpAny_of_held _ _ _ _ (h a _ ha (hI w hw))
  have hd' : ∀ (i : Nat) (o : Oper), l.toArray[i]? = some o → ∀ c, o.op ≠ .defer c := fun i o ho => noDefer_at hd o (List.mem_of_getElem? (by simpa using ho))
  have h2 : wpAnyIn (Fence.wide.inRound lr) n P .any l.toArray (NoPanic Q) l.toArray.size (Array.replicate l.toArray.size false) a { w with drawn := w.drawn + 1 } := wpAny_inRound (Q := NoPanic Q) (fun ⟨a, w, h⟩ => hQ ⟨a, w, h⟩) hd' _ _ _ _ h1
  exact wpIn_mono (wpIn_region_any hm h2) fun e a w q => by cases e <;> first | exact q | exact q.elim
theorem TR.region_ {id : Nat} {l : List Oper} (h : TL P N l.toArray Q l E I) (hd : noDefer l = true := by rfl) (hQ : LetsOut Q → False := by (intro h; obtain ⟨_, _, h, _⟩ := h; cases h)) : TR P N lr n Q (.region id l.toArray false) E I := TR.region hQ hd h
theorem TR.seq_ {x y : Code} (h : TR P N lr n (Exit.then (y.wpIn (Fence.wide.inRound lr) n P Q) Q) x E I) : TR P N lr n Q (.seq x y) E I := fun a w ha hw => wpIn_seq (h a w ha hw)
theorem TX.thenR {y : Code} (h : TR P N lr n Q y E I) : TX N (Exit.then (y.wpIn (Fence.wide.inRound lr) n P Q) Q) .normal E I := fun a w ha hw => h a w ha hw
theorem TR.condT {c : Operand} {x y : Code} (hc : ev E c = some (.bool true)) (h : TR P N lr n Q x E I) : TR P N lr n Q (.cond c x y) E I := fun a w ha hw => wpIn_cond_true (ha.eval hc) (h a w ha hw)
theorem TR.condF {c : Operand} {x y : Code} (hc : ev E c = some (.bool false)) (h : TR P N lr n Q y E I) : TR P N lr n Q (.cond c x y) E I := fun a w ha hw => wpIn_cond_false (ha.eval hc) (h a w ha hw)
theorem TR.skip_ (h : TX N Q .normal E I) : TR P N lr n Q .skip E I := fun a w ha hw => wpIn_skip (h a w ha hw)
theorem retM0_pair {F : Fence} {n : Nat} {fn : Func} {t u : Tmp} {v1 v2 : Value} {R : Ending → World → Prop} (hr : fn.results = #[.tmp t, .tmp u]) (h1 : look E t = some v1) (h2 : look E u = some v2) (hR : ∀ w, I w → R (.returned (.tuple #[v1, v2])) w) (hD : N.ds = [] := by rfl) : TX N (bodyPostM F n P fn R) .ret E I := fun a w ha hw => by
  show LeavesInM F n P fn a.tmps R a.defers .returning w
  rw [ha.defers, hD]
  exact ⟨.tuple #[v1, v2], by rw [results_tmp2 hr]; have e1 := ha.slot t _ h1; have e2 := ha.slot u _ h2; simp [e1, e2], hR w hw⟩
theorem retM_pair {F : Fence} {n : Nat} {fn : Func} {t u : Tmp} {v1 v2 : Value} {D : Nat} {R : Ending → World → Prop} (hr : fn.results = #[.tmp t, .tmp u]) (h1 : look E t = some v1) (h2 : look E u = some v2) (hD : N.ds = [{ target := .collected D, args := #[] }])
    (hK : ∀ w, I w → w.heap[D]? = some (.deferred (some []))) (hR : ∀ w, I w → R (.returned (.tuple #[v1, v2])) (w.putObj D (.deferred none))) : TX N (bodyPostM F n P fn R) .ret E I := fun a w ha hw => by
  show LeavesInM F n P fn a.tmps R a.defers .returning w
  rw [ha.defers, hD]
  refine ⟨by simp, .inl ⟨_, _, rfl, run_takeDeferred (hK w hw), ?_⟩⟩
  have e1 := ha.slot t _ h1
  have e2 := ha.slot u _ h2
  exact ⟨.tuple #[v1, v2], by rw [results_tmp2 hr]; simp [e1, e2], hR w hw⟩
end
section
variable {P : Program} {N : Fr} {E : Env} {Q : Exit → Act → World → Prop} {w0 : Base}
end
section
variable {P : Program} {N : Fr} {n : Nat} {ops : Array Oper} {Q : Exit → Act → World → Prop} {l : List Oper} {o : Oper} {E : Env} {I : World → Prop}
def TLI (P : Program) (N : Fr) (n : Nat) (ops : Array Oper) (Q : Exit → Act → World → Prop) (l : List Oper) (E : Env) (I : World → Prop) : Prop := ∀ a w, EnvOk N E a → I w → wpListIn Fence.wide n P ops Q l a w
theorem TC.regionY {id : Nat} {l : List Oper} (n : Nat) (h : TLI P N n l.toArray Q l E I) : TC P N Q (.region id l.toArray false) E I := fun a w ha hw => (wpIn_wide (n := n)).1 (wpIn_region_lit (h a w ha hw))
theorem TLI.end_ (h : TX N Q .normal E I) : TLI P N n ops Q [] E I := fun a w ha hw => h a w ha hw
theorem TLI.val {d : Nat} {v : Value} (hg : o.guard = none) (hd : o.dst = some d) (hN : Nat.blt d N.n = true) (hv : Gives P N o E I v) (h : TLI P N n ops Q l ((d, v) :: E) I) : TLI P N n ops Q (o :: l) E I := fun a w ha hw => by
  unfold wpListIn
  rw [if_pos (by simp [Region.wanted, hg])]
  refine ⟨fun f _ => trivial, ?_⟩
  rw [show Fence.wide.round = none from rfl, Oper.semAt_none, hv a w ha hw]
  have := h (a.put o.dst v) w (hd ▸ ha.put d v (by simpa [Nat.blt_eq] using hN)) hw
  exact this
theorem TLI.yield {d lr : Nat} {x : Operand} {xs : List Operand} {ts : Array TypeId} {vs : List Value} {I1 I2 : World → Prop} (hg : o.guard = none) (hd : o.dst = some d) (hN : Nat.blt d N.n = true) (ho : o.op = .call { callee := .value x, args := xs.toArray, argTypes := ts }) (hx : ev E x = some (.func (.yield lr) #[] #[])) (hvs : evs E xs = some vs) (hn : 1 ≤ n)
    (hY : ∀ w, I w → YieldAt Fence.wide (n - 1) P lr vs.toArray w fun e w' => (e = .returned (.bool true) ∧ I1 w') ∨ (e = .returned (.bool false) ∧ I2 w'))
    (h : ∀ b : Bool, TLI P N n ops Q l ((d, .bool b) :: E) (fun w => (b = true → I1 w) ∧ (b = false → I2 w))) : TLI P N n ops Q (o :: l) E I := fun a w ha hw => by
  unfold wpListIn
  rw [if_pos (by simp [Region.wanted, hg])]
  refine ⟨fun f _ => trivial, ?_⟩
  obtain ⟨fn, tmps, assign, body, hy, hR⟩ := hY w hw
  have harr : xs.toArray.map a.eval = vs.toArray := by rw [List.map_toArray, ha.evals hvs]
  have hex : (execOp a.eval o).run P w = .ok (.round lr fn tmps assign body) w := by
    unfold execOp; rw [ho]
    simp only [resolve, harr, ha.eval hx, Deferred.ofValue]
    simp [invoke, hy]
  rw [show Fence.wide.round = none from rfl, Oper.semAt_none, hex]
  refine ⟨fun _ => hn, hR.mono ?_⟩
  rintro e w3 (⟨rfl, h3⟩ | ⟨rfl, h3⟩)
  · exact h true (a.put o.dst (.bool true)) w3 (hd ▸ ha.put d _ (by simpa [Nat.blt_eq] using hN)) ⟨fun _ => h3, fun h => by cases h⟩
  · exact h false (a.put o.dst (.bool false)) w3 (hd ▸ ha.put d _ (by simpa [Nat.blt_eq] using hN)) ⟨fun h => (by cases h), fun _ => h3⟩
end
def SeqNext {α : Type} (n : Nat) (P : Program) (g : Nat) (lb : Array Value) (encs : α → Array Value) (Nx : List α → α → Prop) (Kp : World → World → Prop) (S : List α → Prop) (w : World) : Prop :=
  ∀ (l : Nat) (J : List α → World → Prop) (W : World), Below w.heap.size w W →
    (∀ pre x W1, J pre W1 → Nx pre x → YieldAt Fence.wide (n - 1) P l (encs x) W1 fun e W' => e = .returned (.bool true) ∧ J (pre ++ [x]) W' ∧ Kp W1 W') →
    J [] W → CallsIn Fence.wide n P g (#[.func (.yield l) #[] #[]] ++ lb) W fun e W' => (∃ v, e = .returned v) ∧ ∃ xs, S xs ∧ J xs W'
section
variable {P : Program} {N : Fr} {E : Env} {Q : Exit → Act → World → Prop} {w0 : Base}
theorem TC.rangeF3 {α σ : Type} {g : Operand} {p q id : Nat} {la : List Oper} {body : Code} {gf : Nat} {lb : Array Value} {fn : Func} (n : Nat) (h1 : 1 ≤ n)
    (hg : ev E g = some (.func (.func gf) #[] lb)) (hf : P.funcs[gf]? = some fn) (hn : (fn.name == "runtime.NumGoroutine") = false) (hb : fn.body.isNone = false) (hp : Nat.blt p N.n = true) (hq : Nat.blt q N.n = true)
    (enc1 enc2 : α → Value) (Nx : List α → α → Prop) (Kp : World → World → Prop) (S : List α → Prop) (Inv : List α → σ → Prop) (L : σ → List Pc) (hoth : ∀ s, noOth (L s) = true) (s0 : σ) (hs0 : Inv [] s0)
    (hseq : ∀ w, Pm w0 (L s0) w → SeqNext (n - 1) P gf lb (fun x => #[enc1 x, enc2 x]) Nx Kp S w)
    (hKt : ∀ {A B C : World}, Kp A B → Kp B C → Kp A C) (hKb : ∀ (W : World) (l : Nat) (o o' : Obj), W.heap[l]? = some o → o.isCells = false → Kp W (W.putObj l o'))
    (hKp : ∀ s s' b W W', Pm ⟨W, b⟩ (L s) W → Pm ⟨W, b⟩ (L s') W' → Kp W W')
    (E' : α → Env) (hd : noDefer la = true)
    (hassign : ∀ (x : α) (Q' : Exit → Act → World → Prop) (I : World → Prop), TX ⟨N.n, []⟩ Q' .normal (E' x) I → TL P ⟨N.n, []⟩ la.toArray Q' la ((q, enc2 x) :: (p, enc1 x) :: E) I)
    (hbody : ∀ (lr : Nat) (pre : List α) (s : σ) (x : α) (W : World), Inv pre s → Nx pre x → Pm w0 (L s) W → TR P ⟨N.n, []⟩ lr (n - 1 - 1) (RoundQ (fun W' => ∃ s2, Inv (pre ++ [x]) s2 ∧ Pm ⟨W, w0.b⟩ (L s2) W')) body (E' x) (Pm ⟨W, w0.b⟩ (L s)))
    (hdone : ∀ (D : Nat) (xs : List α) (s : σ), S xs → Inv xs s → TX ⟨N.n, { target := .collected D, args := #[] } :: N.ds⟩ Q .normal E (Pm w0 (.oth D (.deferred (some [])) :: L s))) :
    TC P N Q (.rangeFunc g #[p, q] (.region id la.toArray false) body) E (Pm w0 (L s0)) := fun a w ha hw => by
  have hn' : ¬ fn.name = "runtime.NumGoroutine" := by simpa using hn
  have hb' : ¬ fn.body = none := by intro e; rw [e] at hb; simp at hb
  refine (wpIn_wide (n := n)).1 (wpIn_rangeFunc fun fc _ => ?_)
  obtain ⟨R, hR⟩ : ∃ R : LoopState → Loop, R = fun st => { state := st, pending := none, fn := fc, tmps := a.tmps, params := #[p, q], assign := .region id la.toArray false, body, defers := w.heap.size } := ⟨_, rfl⟩
  obtain ⟨V, hV⟩ : ∃ V, (w.alloc (.deferred (some []))).alloc (.loop (R .ready)) = V := ⟨_, rfl⟩
  have own : OwnFrom w.heap.size (fun (pre : List α) W => ∃ s, Inv pre s ∧ Pm w0 (L s) W) := fun pre W W' row ⟨s, h4, h5⟩ h6 h7 => ⟨s, h4, pm_ownFrom (β := σ) hw.base hw.bel.size hoth s W W' row h5 h6 h7⟩
  have v1 : V.heap[w.heap.size + 1]? = some (.loop (R .ready)) := by
    have := World.alloc_heap_new (w.alloc (.deferred (some []))) (.loop (R .ready))
    rw [World.size_alloc] at this
    rw [← hV]; exact this
  have v0 : V.heap[w.heap.size]? = some (.deferred (some [])) := by
    rw [← hV]; exact (Below.heap_alloc _ _ _ (by simp)).trans (World.alloc_heap_new w _)
  have vI : ∃ s, Inv [] s ∧ Pm w0 (L s) V := hV ▸ own.alloc (s := []) _ (own.alloc (s := []) _ ⟨s0, hs0, hw⟩)
  have vB : Below w.heap.size w V := by
    rw [← hV]; exact ((Below.refl _ w).alloc (Nat.le_refl _) _).alloc (by simp) _
  refine ⟨w.heap.size + 1, [{ target := .collected w.heap.size, args := #[] }], V, { target := .fn (.func gf) lb, args := #[.func (.yield (w.heap.size + 1)) #[] #[]] }, V, gf, #[.func (.yield (w.heap.size + 1)) #[] #[]] ++ lb, V, ?_, ?_, fun _ _ => trivial, ?_, fun _ => h1, ?_⟩
  · rw [← hV, hR]; exact run_enterLoop_outer _ _ _ _ _
  · simp only [resolve, ha.eval hg]
    simp [go_sem]
  · simp [invoke, callFunc, hf, hn', hb', go_sem]
  · refine (hseq w hw (w.heap.size + 1) (fun pre W => (∃ s, Inv pre s ∧ Pm w0 (L s) W) ∧ W.heap[w.heap.size + 1]? = some (.loop (R .ready)) ∧ W.heap[w.heap.size]? = some (.deferred (some []))) V vB ?_ ⟨vI, v1, v0⟩).mono ?_
    · rintro pre x W ⟨⟨s, hs, hI⟩, hl, hk⟩ hx
      have hlt : w.heap.size + 1 < W.heap.size := (Array.getElem?_eq_some_iff.1 hl).1
      have hy := run_yield (P := P) (args := #[enc1 x, enc2 x]) hl (by rw [hR]; rfl)
      rw [hR] at hy
      refine ⟨fc, _, _, body, hy, roundIn_of_wpIn trivial ?_⟩
      refine wpIn_region_lit (wpList_inRound (fun ⟨a, w, h⟩ => h) la (noDefer_at hd) _ W (hassign x _ (fun W' => W' = W) (fun a' W' ha' hW => ?_) _ W ?_ rfl))
      · subst hW
        refine ⟨_, run_beginRound hl (by rw [hR]), ?_⟩
        obtain ⟨B, hB⟩ : ∃ B, W'.putObj (w.heap.size + 1) (.loop { R .ready with state := .busy }) = B := ⟨_, rfl⟩
        have b1 : B.heap[w.heap.size + 1]? = some (.loop { R .ready with state := .busy }) := by rw [← hB]; exact World.putObj_heap_same hlt
        have b0 : B.heap[w.heap.size]? = some (.deferred (some [])) := by rw [← hB]; exact (World.putObj_heap_other (by omega)).trans hk
        have bK : Kp W' B := hB ▸ hKb _ _ _ _ hl rfl
        obtain ⟨sb, hsb, hIb⟩ : ∃ s, Inv pre s ∧ Pm w0 (L s) B := hB ▸ own.putObj (s := pre) _ ⟨s, hs, hI⟩ (by omega) hl rfl
        rw [hB]
        refine wpIn_mono (hbody _ pre sb x B hsb hx hIb a' B ha' hIb.from_) ?_
        rintro e a3 C ⟨rfl, s2, hs2, hJ⟩
        have kf := hJ.oth
        have c1 := kf.same _ _ b1 rfl
        have c0 := kf.same _ _ b0 rfl
        have hend := run_endRound (P := P) none c1
        have hlc := (Array.getElem?_eq_some_iff.1 c1).1
        have eR : (Obj.loop { { R .ready with state := .busy } with state := if (none : Option Code).isNone then .ready else .done, pending := none }) = .loop (R .ready) := by rw [hR]; rfl
        rw [eR] at hend
        refine ⟨_, _, hend, rfl, ⟨own.putObj (s := pre ++ [x]) _ ⟨s2, hs2, hIb.trans hJ⟩ (by omega) c1 rfl, World.putObj_heap_same hlc, (World.putObj_heap_other (by omega)).trans c0⟩, hKt bK (hKt (hKp sb s2 _ B C hIb.from_ hJ) (hKb _ _ _ _ c1 rfl))⟩
      · have h0 : EnvOk ⟨N.n, []⟩ E { a with defers := [] } := ⟨rfl, ha.size, ha.slot⟩
        have := (h0.put p (enc1 x) (by simpa [Nat.blt_eq] using hp)).put q (enc2 x) (by simpa [Nat.blt_eq] using hq)
        simpa [Act.put] using this
    · rintro e W2 ⟨⟨v, rfl⟩, xs, hS, hJ, hl, hk⟩
      have hend := run_endLoop (P := P) hl (by rw [hR]; simp)
      obtain ⟨s, hs, hI⟩ := own.putObj (s := xs) (.loop { R .ready with state := .exhausted }) hJ (by omega) hl rfl
      have hk2 : (W2.putObj (w.heap.size + 1) (.loop { R .ready with state := .exhausted })).heap[w.heap.size]? = some (.deferred (some [])) := (World.putObj_heap_other (by omega)).trans hk
      refine ⟨none, _, by rw [show (none : Option Code) = (R .ready).pending by rw [hR]]; exact hend, ?_⟩
      refine hdone w.heap.size xs s hS hs _ _ ⟨by simp [ha.defers], ha.size, ha.slot⟩ ⟨hI.bel, fun q hq => ?_, List.Pairwise.cons (fun q hq g hg he => ?_) hI.apart, hI.oth, hI.low⟩
      · rcases List.mem_cons.1 hq with rfl | hq
        · exact ⟨hk2, hw.base⟩
        · exact hI.own q hq
      · simp only [Pc.key, Option.some.injEq] at hg
        subst hg
        obtain ⟨o, ho, hc⟩ := Pc.cells (hI.own q hq) (noOth_at (hoth s) q hq) _ he
        rw [hk2] at ho
        cases ho
        cases hc
end
def adB (A : Option Addr) : Nat := match A with
  | some a => a.block
  | none => 0
def adO (A : Option Addr) : Nat := match A with
  | some a => a.off
  | none => 0
section
variable {α : Type} {c : α → List Value} {k : Nat}
theorem Reads.addr {w : World} {B size n : Nat} {A : Option Addr} {xs : List Value} (h : Reads w B size A n xs) (hn : 0 < n) (hs : 0 < size) : A = some ⟨adB A, adO A, none⟩ := by
  obtain ⟨b, o, hA, _, _⟩ := h.ad hn hs
  rw [hA]; rfl
theorem reads_cell (K : Cel c k) {w : World} {B n g o i : Nat} {A : Option Addr} {l : List α} {x : α} (h : Reads w B k A n (flat c l)) (hA : A = some ⟨g, o, none⟩) (hx : l[i]? = some x) (j : Nat) (u : Value) (hu : (c x)[j]? = some u) : w.cell? ⟨g, o + i * k + j, none⟩ = some u := by
  have hk : 0 < k := by
    have := (List.getElem?_eq_some_iff.1 hu).1
    rw [K.len] at this; omega
  have hn : 0 < n := by
    have h1 := h.1
    have h2 := (List.getElem?_eq_some_iff.1 hx).1
    rw [flat_len K] at h1
    rcases Nat.eq_zero_or_pos n with h3 | h3
    · subst h3
      rw [Nat.zero_mul] at h1
      have := Nat.mul_pos (show 0 < l.length by omega) hk
      omega
    · exact h3
  obtain ⟨b, o', hA', _, hc⟩ := h.ad hn hk
  rw [hA] at hA'
  cases hA'
  exact flat_cell K hx hc j u hu
end
set_option maxRecDepth 20000
theorem yield_mono {F : Fence} {m : Nat} {P : Program} {l : Nat} {args : Array Value} {W : World} {R R' : Ending → World → Prop} (h : YieldAt F m P l args W R) (hR : ∀ e w, R e w → R' e w) : YieldAt F m P l args W R' := by
 obtain ⟨fn, tmps, assign, body, h1, h2⟩ := h
 exact ⟨fn, tmps, assign, body, h1, h2.mono hR⟩
def revTo (n k : Nat) : List (Fin n) := (List.finRange n).reverse.take (n - k)
theorem revTo_step {n k : Nat} (h : k < n) : revTo n k = revTo n (k + 1) ++ [⟨k, h⟩] := by
 unfold revTo
 rw [show n - k = (n - (k + 1)) + 1 by omega, List.take_add_one, List.getElem?_reverse (by simp; omega)]
 have : (List.finRange n)[(List.finRange n).length - 1 - (n - (k + 1))]? = some ⟨k, h⟩ := by
  rw [List.getElem?_eq_getElem (by simp; omega)]
  simp
  omega
 rw [this]; rfl
theorem revTo_len (n k : Nat) (h : k ≤ n) : (revTo n k).length = n - k := by simp [revTo]
theorem revTo_zero (n : Nat) : revTo n 0 = (List.finRange n).reverse := by
 unfold revTo
 exact List.take_of_length_le (by simp)
def BkK (b1 : Nat) (A0 : Option Addr) (l : List Rs) (W W' : World) : Prop := (∀ v, W.cell? ⟨b1, 0, none⟩ = some v → W'.cell? ⟨b1, 0, none⟩ = some v) ∧ (Reads W W.heap.size 17 A0 l.length (flat Rs.cells l) → Reads W' W'.heap.size 17 A0 l.length (flat Rs.cells l))
theorem BkK.refl (b1 : Nat) (A0 : Option Addr) (l : List Rs) (W : World) : BkK b1 A0 l W W := ⟨fun _ h => h, fun h => h⟩
theorem BkK.trans {b1 : Nat} {A0 : Option Addr} {l : List Rs} {A B C : World} (h : BkK b1 A0 l A B) (k : BkK b1 A0 l B C) : BkK b1 A0 l A C := ⟨fun v e => k.1 v (h.1 v e), fun e => k.2 (h.2 e)⟩
theorem BkK.put {b1 : Nat} {A0 : Option Addr} {l : List Rs} (W : World) (q : Nat) (o o' : Obj) (h : W.heap[q]? = some o) (hc : o.isCells = false) : BkK b1 A0 l W (W.putObj q o') :=
 ⟨fun v e => cell_kept e (grownBy_putObj' W q o') (fun r he => by cases he; exact ⟨o, h, hc⟩),
   fun hR => ⟨hR.1, fun hn => by
     obtain ⟨ad, h1, h2, h3⟩ := hR.2 hn
     exact ⟨ad, h1, Nat.lt_of_lt_of_le h2 (grownBy_putObj' W q o').size, fun j u hu => cell_kept (h3 j u hu) (grownBy_putObj' W q o') (fun r he => by cases he; exact ⟨o, h, hc⟩)⟩⟩⟩
theorem back_in (n : Nat) (hn : 1 ≤ n) (lr b1 : Nat) (A0 : Option Addr) (c0 : Nat) (l : List Rs) (hl1 : l.length ≤ 1000000) (J : List (Fin l.length) → World → Prop)
  (hY : ∀ pre x W, J pre W → x.1 + pre.length + 1 = l.length → YieldAt Fence.wide (n - 1) Tryz.prog lr #[.int .i64 ((x.1 : Nat) : Int), .agg (l[x]).cells.toArray] W fun e W' => e = .returned (.bool true) ∧ J (pre ++ [x]) W' ∧ BkK b1 A0 l W W')
  (W : World) (h1 : W.cell? ⟨b1, 0, none⟩ = some (.slice A0 l.length c0)) (hr0 : Reads W W.heap.size 17 A0 l.length (flat Rs.cells l)) (h0 : J [] W) :
  CallsIn Fence.wide n Tryz.prog 150 #[.func (.yield lr) #[] #[], .pointer (some ⟨b1, 0, none⟩)] W fun e W' => (∃ v, e = .returned v) ∧ ∃ ys, ys = (List.finRange l.length).reverse ∧ J ys W' := by
 have hA0 : 0 < l.length → A0 = some ⟨adB A0, adO A0, none⟩ := fun h => hr0.addr h (by decide)
 refine callsIn_wide.2 (begin_ (vs := [.func (.yield lr) #[] #[], .pointer (some ⟨b1, 0, none⟩)]) (I := fun w1 => J [] w1 ∧ BkK b1 A0 l W w1) Tryz.func150 rfl rfl rfl ?_ ⟨h0, BkK.refl _ _ _ _⟩)
 refine zSG ?_
 refine TL.val rfl rfl rfl (gives_load (v := .slice A0 l.length c0) rfl rfl mcoag23 (fun w1 hw => hw.2.1 _ h1)) ?_
 refine TL.v (gN Tryz.underlying23) ?_
 refine TL.val rfl rfl rfl (gives_bin rfl rfl rfl (fun w => bin_sub_ (r := ((l.length : Nat) : Int) - 1) (by simp only [IntKind.wrap_i64]; omega) w)) ?_
 refine TL.as_ ?_
 refine zET (zB (TC.loop_ (α := {k : Nat // k ≤ l.length}) (fun y => [(0, .func (.yield lr) #[] #[]), (1, .pointer (some ⟨b1, 0, none⟩)), (3, .int .i64 (((y.1 : Nat) : Int) - 1))]) (fun y w1 => J (revTo l.length y.1) w1 ∧ BkK b1 A0 l W w1) (fun y => y.1) (⟨l.length, Nat.le_refl _⟩) ⟨rfl, rfl, rfl, trivial⟩ (fun w1 hw => ⟨by unfold revTo; rw [Nat.sub_self]; exact hw.1, hw.2⟩) ?_))
 rintro ⟨k, hk⟩
 dsimp only
 refine zS (zSG (TL.mv ?_))
 refine TL.sp bin_geq (fun q8 => ?_) (fun q8 => ?_)
 ·obtain ⟨i, rfl⟩ : ∃ i, k = i + 1 := ⟨k - 1, by omega⟩
  refine zET (zc (zk (zT (zS (zB (zS (TC.cut [(0, .func (.yield lr) #[] #[]), (1, .pointer (some ⟨b1, 0, none⟩)), (3, .int .i64 ((i : Nat) : Int)), (7, .int .i64 ((((i + 1) : Nat) : Int) - 1)), (8, .bool true)] (fun w1 => J (revTo l.length (i + 1)) w1 ∧ BkK b1 A0 l W w1) ⟨rfl, rfl, (by show some (Value.int .i64 (((i + 1 : Nat) : Int) - 1)) = some (Value.int .i64 ((i : Nat) : Int)); congr 2; omega), rfl, rfl, trivial⟩ (fun w1 hw => hw) ?_)))))))
  refine TC.regionY n ?_
  refine TLI.val rfl rfl rfl (gives_move rfl rfl) ?_
  refine TLI.val rfl rfl rfl (gives_move rfl rfl) ?_
  refine TLI.val rfl rfl rfl (gives_load (v := .slice A0 l.length c0) rfl rfl mcoag23 (fun w1 hw => hw.2.1 _ h1)) ?_
  refine TLI.val rfl rfl rfl (gives_move rfl rfl) ?_
  have hi15 : i < l.length := by omega
  obtain ⟨x15, hx15⟩ := ex_at hi15
  have hA15 := hA0 (by omega)
  refine TLI.val rfl rfl rfl (gA (i := i) Tryz.underlying23 prssz65 rfl rfl rfl rfl hA15 (by omega)) ?_
  refine TLI.val rfl rfl rfl (gives_loadR (off := (adO A0) + i * 17) rfl rfl prsag65 prssz65 (rs_cel.len x15) (fun w1 hw j9 u9 h9 => reads_cell rs_cel (hw.2.2 hr0) hA15 hx15 j9 u9 h9)) ?_
  refine TLI.yield (I1 := fun w1 => J (revTo l.length i) w1 ∧ BkK b1 A0 l W w1) (I2 := fun w1 => False) rfl rfl rfl rfl rfl rfl hn (fun w1 hw => ?_) ?_
  ·have hlt : i < l.length := by omega
   rw [show x15 = l[(⟨i, hlt⟩ : Fin l.length)] from (List.getElem?_eq_some_iff.1 hx15).2.symm]
   refine (yield_mono (hY _ ⟨i, hlt⟩ w1 hw.1 (by rw [revTo_len _ _ (by omega)]; show i + _ + 1 = _; omega)) ?_)
   rintro e w2 ⟨h4, h5, h6⟩
   exact .inl ⟨h4, by rw [revTo_step hlt]; exact h5, hw.2.trans h6⟩
  intro yb
  cases yb with
  | true =>
   refine TLI.val rfl rfl rfl (gives_boolnot rfl rfl) ?_
   refine TLI.end_ ?_
   refine zT (zd (zk (zN (zT (zG (TL.mv ?_))))))
   refine TL.val rfl rfl rfl (gives_bin rfl rfl rfl (fun w => bin_sub_ (r := ((i : Nat) : Int) - 1) (by simp only [IntKind.wrap_i64]; omega) w)) ?_
   refine TL.as_ ?_
   refine zE ?_
   exact TX.round (⟨i, by omega⟩) (by show i < i + 1; omega) ⟨rfl, rfl, rfl, trivial⟩ (fun w1 hw => hw.1 rfl)
  | false =>
   refine TLI.val rfl rfl rfl (gives_boolnot rfl rfl) ?_
   refine TLI.end_ ?_
   refine zT (zc (zr (zRR (zR (TX.in_ret ?_)))))
   exact ret_none Tryz.results150 (fun w1 hw => (hw.2 rfl).elim)
 refine zET (zd (zx (zX (zX (zM ?_)))))
 obtain rfl : k = 0 := by omega
 exact end_none Tryz.results150 (fun w1 hw => ⟨⟨_, rfl⟩, _, revTo_zero _, hw.1⟩)
theorem back_next (n : Nat) (hn : 1 ≤ n) (b1 : Nat) (A0 : Option Addr) (c0 : Nat) (l : List Rs) (hl1 : l.length ≤ 1000000) (w : World) (hb1 : b1 < w.heap.size) (h1 : w.cell? ⟨b1, 0, none⟩ = some (.slice A0 l.length c0)) (hr0 : Reads w w.heap.size 17 A0 l.length (flat Rs.cells l)) :
  SeqNext n Tryz.prog 150 #[.pointer (some ⟨b1, 0, none⟩)] (fun x : Fin l.length => #[.int .i64 ((x.1 : Nat) : Int), .agg (l[x]).cells.toArray]) (fun pre x => x.1 + pre.length + 1 = l.length) (BkK b1 A0 l) (fun ys => ys = (List.finRange l.length).reverse) w :=
 fun lr J W hW hY h0 => back_in n hn lr b1 A0 c0 l hl1 J hY W ((hW.cell (p := ⟨b1, 0, none⟩) hb1).trans h1) (hr0.up hW) h0
theorem backward_any (A0 : Option Addr) (c0 n0 : Nat) (w : World) :
  Calls Tryz.prog 102 #[.slice A0 n0 c0] w fun e w' => ∃ g1 : Nat, e = .returned (.func (.func 150) #[] #[.pointer (some ⟨g1, 0, none⟩)]) ∧ Pm w [.blk g1 23 [.slice A0 n0 c0]] w' := by
 refine begin_ (vs := [.slice A0 n0 c0]) Tryz.func102 rfl rfl rfl ?_ (Pm.start w)
 refine zSG ?_
 refine TL.pnew rfl rfl rfl (exec_box (cs := [.slice A0 n0 c0]) rfl rfl rfl) (fun g1 => ?_)
 refine TL.as_ ?_
 refine zET (zSG ?_)
 refine TL.val rfl rfl rfl (gives_makeFunc rfl rfl rfl) ?_
 refine TL.as_ ?_
 refine zET (zr ?_)
 exact ret_tmp Tryz.results102 rfl (fun w1 hw => ⟨g1, rfl, hw⟩)
set_option maxRecDepth 20000
def maskF (n : Int) : Int := IntKind.u32.wrap (4294967295 * 2 ^ (32 - n).toNat)
def vldP (a n : Int) : Bool := decide (0 ≤ n) && decide (n ≤ 32) && decide (bits .andNot .u32 a (maskF n) = 0)
def hasP (a n x : Int) : Bool := vldP a n && decide (bits .and .u32 x (maskF n) = a)
def cmpP (a n b m : Int) : Int := if cmpI a b = 0 then cmpI n m else cmpI a b
theorem or2 {a n b m : Int} : orI [cmpI a b, cmpI n m] = cmpP a n b m := by
 unfold cmpP
 show (if cmpI a b = 0 then (if cmpI n m = 0 then 0 else cmpI n m) else cmpI a b) = _
 split
 ·split
  ·rename_i h; exact h.symm
  rfl
 rfl
theorem vldP_le {a n : Int} (h : vldP a n = true) : 0 ≤ n ∧ n ≤ 32 := by
 simp [vldP] at h
 exact ⟨h.1.1, h.1.2⟩
theorem badfld100_1 : FA Tryz.prog 100 1 1 := fun g o w => by kernel_rfl
theorem badfld100_0 : FA Tryz.prog 100 0 0 := fun g o w => by kernel_rfl
theorem badbs106_2_20249 (a0_0 : Int) (a1_0 : Int) (w : World) : (Instr.buildSlice 106 2 #[(0, .int .i64 a0_0), (1, .int .i64 a1_0)]).run Tryz.prog w = .ok (.slice (some ⟨w.heap.size, 0, none⟩) 2 2) (w.alloc (.cells [.int .i64 a0_0, .int .i64 a1_0].toArray 3)) := by kernel_rfl
theorem badag100 (w : World) : (isAgg 100).run Tryz.prog w = .ok true w := rfl
theorem badsz100 (w : World) : (sizeOf 100).run Tryz.prog w = .ok 2 w := rfl
theorem mask_any (n : Int) (h0 : 0 ≤ n) (h1 : n ≤ 32) (w : World) :
  Calls Tryz.prog 191 #[.int .i64 n] w fun e w' => e = .returned (.int .u32 (maskF n)) ∧ w' = w := by
 refine begin_ (vs := [.int .i64 n]) (I := fun w1 => w1 = w) Tryz.func191 rfl rfl rfl ?_ rfl
 refine zSG (TL.as_ ?_)
 refine zET (zSG (TL.mv ?_))
 refine TL.val rfl rfl rfl (gives_bin rfl rfl rfl (fun w => bin_sub_ (r := 32 - n) (by simp only [IntKind.wrap_i64]; omega) w)) ?_
 refine TL.val rfl rfl rfl (gives_bin (v := .int .u32 (maskF n)) rfl rfl rfl (fun w => bin_shl (2 ^ (32 - n).toNat) (by omega) (by simp only [IntKind.bits]; omega) rfl w)) ?_
 refine TL.as_ ?_
 refine zET (zr ?_)
 exact ret_tmp Tryz.results191 rfl (fun w1 hw => ⟨rfl, hw⟩)
theorem vldP_any (a n : Int) (w : World) :
  Calls Tryz.prog 163 #[.agg #[.int .u32 a, .int .i64 n]] w fun e w' => e = .returned (.bool (vldP a n)) ∧ Below w.heap.size w w' := by
 refine begin_ (vs := [.agg #[.int .u32 a, .int .i64 n]]) Tryz.func163 rfl rfl rfl ?_ (Pm.start w)
 refine zSG ?_
 refine TL.pnew rfl rfl rfl (exec_box (cs := [.int .u32 a, .int .i64 n]) rfl rfl rfl) (fun g1 => ?_)
 refine TL.as_ ?_
 refine zET (zS (TC.quietQ (by kernel_rfl) (by kernel_rfl) (fun w hw => hw.drawn _) ?_))
 refine TQ.v (gF badfld100_1) ?_
 refine TQ.v (gL 0 pcmag3) ?_
 refine TQ.sp bin_geq (fun q5 => ?_) (fun q5 => ?_)
 ·refine TQ.val rfl rfl rfl (gives_move rfl rfl) ?_
  refine TQ.ov (gF badfld100_1) ?_
  refine TQ.ov (gL 0 pcmag3) ?_
  refine TQ.on rfl rfl rfl ?_
  refine TQ.sp bin_leq (fun q9 => ?_) (fun q9 => ?_)
  ·refine TQ.rn 2 rfl (TQ.ov (gF badfld100_0) ?_)
   refine TQ.ov (gL 0 pcmag30) ?_
   refine TQ.ov (gF badfld100_1) ?_
   refine TQ.ov (gL 0 pcmag3) ?_
   refine TQ.on rfl rfl rfl ?_
   refine TQ.call (v := .int .u32 (maskF n)) rfl rfl rfl rfl rfl Tryz.func191 (by decide) rfl (fun w1 hw => (still_bel (mask_any n (by omega) (by omega) w1)).mono fun en w2 ⟨h1, h2⟩ => ⟨h1, hw.below h2⟩) ?_
   refine TQ.on rfl rfl rfl ?_
   refine TQ.val rfl rfl rfl (gives_bin rfl rfl rfl (fun w => bin_andNot w)) ?_
   refine TQ.on rfl rfl rfl ?_
   refine TQ.sp bin_eql (fun q18 => ?_) (fun q18 => ?_)
   ·refine TQ.rn 2 rfl ?_
    refine TQ.fin ?_
    refine zT (zr ?_)
    have hE : (vldP a n) = true := (by simp [vldP, q5, q9, q18]; try omega)
    exact ret_tmp Tryz.results163 rfl (fun w1 hw => ⟨by rw [hE]; try rfl, hw.bel⟩)
   refine TQ.rn 2 rfl ?_
   refine TQ.fin ?_
   refine zT (zr ?_)
   have hE : (vldP a n) = false := (by simp [vldP, q5, q9, q18]; try omega)
   exact ret_tmp Tryz.results163 rfl (fun w1 hw => ⟨by rw [hE]; try rfl, hw.bel⟩)
  refine TQ.rn 11 rfl ?_
  refine TQ.fin ?_
  refine zT (zr ?_)
  have hE : (vldP a n) = false := (by simp [vldP, q5, q9]; try omega)
  exact ret_tmp Tryz.results163 rfl (fun w1 hw => ⟨by rw [hE]; try rfl, hw.bel⟩)
 refine TQ.rn 15 rfl ?_
 refine TQ.fin ?_
 refine zT (zr ?_)
 have hE : (vldP a n) = false := (by simp [vldP, q5]; try omega)
 exact ret_tmp Tryz.results163 rfl (fun w1 hw => ⟨by rw [hE]; try rfl, hw.bel⟩)
theorem cmpP_any (a n b m : Int) (w : World) :
  Calls Tryz.prog 130 #[.agg #[.int .u32 a, .int .i64 n], .agg #[.int .u32 b, .int .i64 m]] w fun e w' => e = .returned (.int .i64 (cmpP a n b m)) ∧ Below w.heap.size w w' := by
 refine begin_ (vs := [.agg #[.int .u32 a, .int .i64 n], .agg #[.int .u32 b, .int .i64 m]]) Tryz.func130 rfl rfl rfl ?_ (Pm.start w)
 refine zSG ?_
 refine TL.pnew rfl rfl rfl (exec_box (cs := [.int .u32 a, .int .i64 n]) rfl rfl rfl) (fun g2 => ?_)
 refine TL.pnew rfl rfl rfl (exec_box (cs := [.int .u32 b, .int .i64 m]) rfl rfl rfl) (fun g3 => ?_)
 refine TL.as_ ?_
 refine zET (zS (TC.tail 10 (by kernel_rfl) (by kernel_rfl) (fun w hw => hw.drawn _) ?_))
 refine TS.v (gF badfld100_0) ?_
 refine TS.v (gL 1 pcmag30) ?_
 refine TS.v (gF badfld100_0) ?_
 refine TS.v (gL 0 pcmag30) ?_
 refine TS.call (r := .int .i64 (cmpI a b)) rfl rfl rfl rfl rfl Tryz.func80 (by decide) rfl (fun w1 hw => cmpA_any a b w1) ?_
 refine TS.v (gF badfld100_1) ?_
 refine TS.v (gL 1 pcmag3) ?_
 refine TS.v (gF badfld100_1) ?_
 refine TS.v (gL 0 pcmag3) ?_
 refine TS.call (r := .int .i64 (cmpI n m)) rfl rfl rfl rfl rfl Tryz.func79 (by decide) rfl (fun w1 hw => cmpI_any n m w1) ?_
 refine TS.end_ ?_
 refine TL.prowS (e := 3) (size := 1) (cs := flat (ic .i64) [cmpI a b, cmpI n m]) rfl rfl rfl rfl rfl (fun w => badbs106_2_20249 _ _ w) (by decide) rfl (fun g15 => ?_)
 refine TL.pcall1 (r := .int .i64 (cmpP a n b m)) rfl rfl rfl rfl rfl Tryz.func78 (by decide) rfl (fun w1 hw => (by have h9 := orI_any (some ⟨g15, 0, none⟩) 2 2 ([cmpI a b, cmpI n m]) w1 (pm_rd hw (k := 0) rfl) rfl (by show 2 ≤ 100000; decide); rw [or2] at h9; exact h9)) ?_
 refine TL.as_ ?_
 refine zET (zr ?_)
 have hE : (cmpP a n b m) = cmpP a n b m := (by simp [cmpP])
 exact ret_tmp Tryz.results130 rfl (fun w1 hw => ⟨by rw [hE]; try rfl, hw.bel⟩)
theorem hasP_any (a n x : Int) (w : World) :
  Calls Tryz.prog 216 #[.agg #[.int .u32 a, .int .i64 n], .int .u32 x] w fun e w' => e = .returned (.bool (hasP a n x)) ∧ Below w.heap.size w w' := by
 refine begin_ (vs := [.agg #[.int .u32 a, .int .i64 n], .int .u32 x]) Tryz.func216 rfl rfl rfl ?_ (Pm.start w)
 refine zSG ?_
 refine TL.pnew rfl rfl rfl (exec_box (cs := [.int .u32 a, .int .i64 n]) rfl rfl rfl) (fun g2 => ?_)
 refine TL.as_ ?_
 refine zET (zS (TC.quietQ (by kernel_rfl) (by kernel_rfl) (fun w hw => hw.drawn _) ?_))
 refine TQ.v (gV 0 (.agg #[.int .u32 a, .int .i64 n]) badag100 badsz100) ?_
 refine TQ.callsplit rfl rfl rfl rfl rfl Tryz.func163 (by decide) rfl (fun w1 hw => vldP_any a n w1) (fun h6 => ?_) (fun h6 => ?_)
 ·have hn0 := vldP_le h6
  refine TQ.rn 2 rfl (TQ.ov (gF badfld100_1) ?_)
  refine TQ.ov (gL 0 pcmag3) ?_
  refine TQ.on rfl rfl rfl ?_
  refine TQ.call (v := .int .u32 (maskF n)) rfl rfl rfl rfl rfl Tryz.func191 (by decide) rfl (fun w1 hw => (still_bel (mask_any n (by omega) (by omega) w1)).mono fun en w2 ⟨h1, h2⟩ => ⟨h1, hw.below h2⟩) ?_
  refine TQ.on rfl rfl rfl ?_
  refine TQ.val rfl rfl rfl (gives_bin rfl rfl rfl (fun w => bin_bits (by simp) w)) ?_
  refine TQ.ov (gF badfld100_0) ?_
  refine TQ.ov (gL 0 pcmag30) ?_
  refine TQ.on rfl rfl rfl ?_
  refine TQ.sp bin_eql (fun q15 => ?_) (fun q15 => ?_)
  ·refine TQ.rn 2 rfl ?_
   refine TQ.fin ?_
   refine zT (zr ?_)
   have hE : (hasP a n x) = true := (by simp [hasP, h6, q15]; try omega)
   exact ret_tmp Tryz.results216 rfl (fun w1 hw => ⟨by rw [hE]; try rfl, hw.bel⟩)
  refine TQ.rn 2 rfl ?_
  refine TQ.fin ?_
  refine zT (zr ?_)
  have hE : (hasP a n x) = false := (by simp [hasP, h6, q15]; try omega)
  exact ret_tmp Tryz.results216 rfl (fun w1 hw => ⟨by rw [hE]; try rfl, hw.bel⟩)
 refine TQ.rn 11 rfl ?_
 refine TQ.fin ?_
 refine zT (zr ?_)
 have hE : (hasP a n x) = false := (by simp [hasP, h6]; try omega)
 exact ret_tmp Tryz.results216 rfl (fun w1 hw => ⟨by rw [hE]; try rfl, hw.bel⟩)
set_option maxRecDepth 20000
structure En where
 addr : Int
 len : Int
 prov : Int
 frm : Int
 to_ : Int
deriving DecidableEq
def En.cells (r : En) : List Value := [.int .u32 r.addr, .int .i64 r.len, .int .i64 r.prov, .int .i64 r.frm, .int .i64 r.to_]
theorem en_cel : Cel En.cells 5 := ⟨fun _ => rfl, fun r u hu => by
 simp only [En.cells, List.mem_cons, List.not_mem_nil, or_false] at hu
 rcases hu with rfl | rfl | rfl | rfl | rfl <;> rfl⟩
def En.zero : En := ⟨0, 0, 0, 0, 0⟩
def validE (e : En) : Bool := vldP e.addr e.len && decide (1 ≤ e.prov) && decide (e.prov ≤ 2147483647) && decide (0 ≤ e.frm) && decide (e.frm < e.to_) && decide (e.to_ ≤ 1125899906842624)
def badP (b x : En) : Bool := decide (cmpP b.addr b.len x.addr x.len > 0) || (decide (cmpP b.addr b.len x.addr x.len = 0) && decide (x.frm < b.to_))
def okAt (es : List En) (i : Nat) : Bool := match es[i]? with
 | none => true
 | some x => validE x && (decide (i = 0) || match es[i - 1]? with
  | none => true
  | some b => !badP b x)
def validR (es : List En) : Bool := decide (es.length ≤ 1024) && (List.range es.length).all (okAt es)
theorem okAt_bad {es : List En} {i : Nat} {x : En} (hx : es[i]? = some x) (h : validE x = false) : okAt es i = false := by simp [okAt, hx, h]
theorem okAt_zero {es : List En} {x : En} {i : Nat} (hi : i = 0) (hx : es[i]? = some x) (h : validE x = true) : okAt es i = true := by subst hi; simp [okAt, hx, h]
theorem okAt_pair {es : List En} {x b : En} {i : Nat} {t : Bool} (hi : ¬ i = 0) (hx : es[i]? = some x) (hb : es[i - 1]? = some b) (h : validE x = true) (ht : badP b x = !t) : okAt es i = t := by simp [okAt, hx, hb, h, hi, ht]
theorem validR_true {es : List En} (hl : es.length ≤ 1024) (h : ∀ j, j < es.length → okAt es j = true) : validR es = true := by
 simp only [validR, Bool.and_eq_true, decide_eq_true_eq, List.all_eq_true, List.mem_range]
 exact ⟨hl, h⟩
theorem validR_false {es : List En} {i : Nat} (hi : i < es.length) (h : okAt es i = false) : validR es = false := by
 cases hv : validR es with
 | false => rfl
 | true =>
  simp only [validR, Bool.and_eq_true, decide_eq_true_eq, List.all_eq_true, List.mem_range] at hv
  rw [hv.2 i hi] at h; cases h
theorem validR_len {es : List En} (h : validR es = true) : es.length ≤ 1024 := by
 simp only [validR, Bool.and_eq_true, decide_eq_true_eq] at h
 exact h.1
def fitsE (a t : Int) (p : En × Bool) (e : En) : Bool := decide (e.frm ≤ t) && decide (t < e.to_) && (!p.2 || decide (e.len > p.1.len)) && hasP e.addr e.len a
def stepL (a t : Int) (p : En × Bool) (e : En) : En × Bool := if fitsE a t p e then (e, true) else p
def lookR (es : List En) (a t : Int) : En × Bool := es.foldl (stepL a t) (En.zero, false)
theorem lookR_snoc {es : List En} {a t : Int} {i : Nat} {x : En} {p : En × Bool} (hx : es[i]? = some x) (hp : lookR (es.take i) a t = p) : lookR (es.take (i + 1)) a t = if fitsE a t p x then (x, true) else p := by
 unfold lookR at hp ⊢
 rw [List.take_add_one, hx, List.foldl_append, hp]
 rfl
def lookV (es : List En) (a t : Int) : En × Bool := if validR es then lookR es a t else (En.zero, false)
def provR (es : List En) (a t : Int) : Int := (lookV es a t).1.prov
theorem brefld102_0 : FA Tryz.prog 102 0 0 := fun g o w => by kernel_rfl
theorem brefld102_1 : FA Tryz.prog 102 1 2 := fun g o w => by kernel_rfl
theorem brefld102_2 : FA Tryz.prog 102 2 3 := fun g o w => by kernel_rfl
theorem brefld102_3 : FA Tryz.prog 102 3 4 := fun g o w => by kernel_rfl
theorem brefld26_0 : FA Tryz.prog 26 0 0 := fun g o w => by kernel_rfl
theorem breag24 (w : World) : (isAgg 24).run Tryz.prog w = .ok false w := rfl
theorem bresz102 (w : World) : (sizeOf 102).run Tryz.prog w = .ok 5 w := rfl
theorem breag102 (w : World) : (isAgg 102).run Tryz.prog w = .ok true w := rfl
theorem brezv102 (w : World) : (zeroValue 102).run Tryz.prog w = .ok (.agg #[.int .u32 0, .int .i64 0, .int .i64 0, .int .i64 0, .int .i64 0]) w := rfl
theorem breag26 (w : World) : (isAgg 26).run Tryz.prog w = .ok true w := rfl
theorem bresz26 (w : World) : (sizeOf 26).run Tryz.prog w = .ok 1 w := rfl
theorem brebld102_791  (w : World) : (Instr.build 102 #[]).run Tryz.prog w = .ok (.agg #[.int .u32 0, .int .i64 0, .int .i64 0, .int .i64 0, .int .i64 0]) w := by kernel_rfl
theorem breone_u32i64i64i64i64 {a0 : Int} {a1 : Int} {a2 : Int} {a3 : Int} {a4 : Int} : ∀ u ∈ [(.int .u32 a0 : Value), .int .i64 a1, .int .i64 a2, .int .i64 a3, .int .i64 a4], u.oneCell' = true := by
 intro u hu
 simp only [List.mem_cons, List.not_mem_nil, or_false] at hu
 rcases hu with rfl | rfl | rfl | rfl | rfl <;> rfl
theorem validE_any (x : En) (w : World) :
  Calls Tryz.prog 129 #[.agg x.cells.toArray] w fun e w' => e = .returned (.bool (validE x)) ∧ Below w.heap.size w w' := by
 refine begin_ (vs := [.agg x.cells.toArray]) Tryz.func129 rfl rfl rfl ?_ (Pm.start w)
 refine zSG ?_
 refine TL.pnew rfl rfl rfl (exec_box (cs := x.cells) rfl rfl rfl) (fun g1 => ?_)
 refine TL.as_ ?_
 refine zET (zSG (TL.v (gF brefld102_0) ?_))
 refine TL.v (gV 0 (.agg #[.int .u32 x.addr, .int .i64 x.len]) badag100 badsz100) ?_
 refine TL.callsplit rfl rfl rfl rfl rfl Tryz.func163 (by decide) rfl (fun w1 hw => vldP_any x.addr x.len w1) (fun h5 => ?_) (fun h5 => ?_)
 ·refine TL.mv ?_
  refine TL.ov (gF brefld102_1) ?_
  refine TL.ov (gL 0 pcmag3) ?_
  refine TL.gu ?_
  refine TL.sp bin_geq (fun q9 => ?_) (fun q9 => ?_)
  ·refine TL.rn 2 rfl (TL.ov (gF brefld102_1) ?_)
   refine TL.ov (gL 0 pcmag3) ?_
   refine TL.gu ?_
   refine TL.sp bin_leq (fun q14 => ?_) (fun q14 => ?_)
   ·refine TL.rn 2 rfl (TL.ov (gF brefld102_2) ?_)
    refine TL.ov (gL 0 pcmag3) ?_
    refine TL.gu ?_
    refine TL.sp bin_geq (fun q19 => ?_) (fun q19 => ?_)
    ·refine TL.rn 2 rfl (TL.ov (gF brefld102_2) ?_)
     refine TL.ov (gL 0 pcmag3) ?_
     refine TL.ov (gF brefld102_3) ?_
     refine TL.ov (gL 0 pcmag3) ?_
     refine TL.gu ?_
     refine TL.sp bin_lss (fun q26 => ?_) (fun q26 => ?_)
     ·refine TL.rn 2 rfl (TL.ov (gF brefld102_3) ?_)
      refine TL.ov (gL 0 pcmag3) ?_
      refine TL.gu ?_
      refine TL.sp bin_leq (fun q31 => ?_) (fun q31 => ?_)
      ·refine TL.rn 2 rfl (zET (zr ?_))
       have hE : (validE x) = true := (by simp [validE, h5, q9, q14, q19, q26, q31]; try omega)
       exact ret_tmp Tryz.results129 rfl (fun w1 hw => ⟨by rw [hE]; try rfl, hw.bel⟩)
      refine TL.rn 2 rfl (zET (zr ?_))
      have hE : (validE x) = false := (by simp [validE, h5, q9, q14, q19, q26, q31]; try omega)
      exact ret_tmp Tryz.results129 rfl (fun w1 hw => ⟨by rw [hE]; try rfl, hw.bel⟩)
     refine TL.rn 7 rfl (zET (zr ?_))
     have hE : (validE x) = false := (by simp [validE, h5, q9, q14, q19, q26]; try omega)
     exact ret_tmp Tryz.results129 rfl (fun w1 hw => ⟨by rw [hE]; try rfl, hw.bel⟩)
    refine TL.rn 14 rfl (zET (zr ?_))
    have hE : (validE x) = false := (by simp [validE, h5, q9, q14, q19]; try omega)
    exact ret_tmp Tryz.results129 rfl (fun w1 hw => ⟨by rw [hE]; try rfl, hw.bel⟩)
   refine TL.rn 19 rfl (zET (zr ?_))
   have hE : (validE x) = false := (by simp [validE, h5, q9, q14]; try omega)
   exact ret_tmp Tryz.results129 rfl (fun w1 hw => ⟨by rw [hE]; try rfl, hw.bel⟩)
  refine TL.rn 24 rfl (zET (zr ?_))
  have hE : (validE x) = false := (by simp [validE, h5, q9]; try omega)
  exact ret_tmp Tryz.results129 rfl (fun w1 hw => ⟨by rw [hE]; try rfl, hw.bel⟩)
 refine TL.rn 28 rfl (zET (zr ?_))
 have hE : (validE x) = false := (by simp [validE, h5]; try omega)
 exact ret_tmp Tryz.results129 rfl (fun w1 hw => ⟨by rw [hE]; try rfl, hw.bel⟩)
theorem okN {es : List En} {i : Nat} (h : ∀ j, j < i → okAt es j = true) (hi : okAt es i = true) : ∀ j, j < i + 1 → okAt es j = true := fun j hj => by
 rcases Nat.lt_or_ge j i with h1 | h1
 ·exact h j h1
 obtain rfl : j = i := by omega
 exact hi
theorem validR_any (A0 : Option Addr) (c0 : Nat) (es : List En) (w : World) (hr : Reads w w.heap.size 5 A0 es.length (flat En.cells es)) :
  Calls Tryz.prog 84 #[.agg #[.slice A0 es.length c0]] w fun e w' => e = .returned (.bool (validR es)) ∧ Below w.heap.size w w' := by
 refine begin_ (vs := [.agg #[.slice A0 es.length c0]]) Tryz.func84 rfl rfl rfl ?_ (Pm.start w)
 refine zSG ?_
 refine TL.pnew rfl rfl rfl (exec_box (cs := [.slice A0 es.length c0]) rfl rfl rfl) (fun g1 => ?_)
 refine TL.as_ ?_
 refine zET (zS (zSG (TL.v (gF brefld26_0) ?_)))
 refine TL.v (gL 0 breag24) ?_
 refine TL.v (gN Tryz.underlying24) ?_
 refine TL.sp bin_gtr (fun q10 => ?_) (fun q10 => ?_)
 ·refine zET (zc (zSG (TL.as_ ?_)))
  refine zET (zr (zR ?_))
  have hE : validR es = false := by simp only [validR, decide_eq_false (show ¬ es.length ≤ 1024 by omega), Bool.false_and]
  exact ret_tmp Tryz.results84 rfl (fun w1 hw => ⟨by rw [hE], hw.bel⟩)
 refine zET (zd (zk (zT (zS (zSG (TL.v (gF brefld26_0) ?_))))))
 refine TL.v (gL 0 breag24) ?_
 refine TL.v (gN Tryz.underlying24) ?_
 refine TL.mv ?_
 refine zET (zB (TC.loop_ (α := {i : Nat // i ≤ es.length ∧ ∀ j, j < i → okAt es j = true}) (fun y => [(1, .pointer (some ⟨g1, 0, none⟩)), (12, .slice A0 es.length c0), (13, .int .i64 (es.length : Nat)), (14, .int .i64 ((y.1 : Nat) : Int))]) (fun y => Pm w [.blk g1 26 [.slice A0 es.length c0]]) (fun y => es.length - y.1) (⟨0, Nat.zero_le _, fun j hj => absurd hj (Nat.not_lt_zero _)⟩) ⟨rfl, rfl, rfl, rfl, trivial⟩ (fun w1 hw => hw) ?_))
 rintro ⟨i, hi, hok⟩
 try dsimp only at hi hok ⊢
 refine zSG ?_
 refine TL.sp bin_lss (fun q15 => ?_) (fun q15 => ?_)
 ·refine zET (zS (zc (zk (zT (zS (zB (zSG (TL.mv ?_))))))))
  have hi17 : i < es.length := by omega
  obtain ⟨x17, hx17⟩ := ex_at hi17
  obtain ⟨b17, o17, hA17, hbb17, hc17⟩ := hr.ad (by omega) (by decide)
  refine TL.val rfl rfl rfl (gA (i := i) Tryz.underlying24 bresz102 rfl rfl rfl rfl hA17 (by omega)) ?_
  refine TL.v (gR en_cel breag102 bresz102 hbb17 hx17 hc17) ?_
  refine TL.pnew rfl rfl rfl (exec_alloc (cs := [.int .u32 0, .int .i64 0, .int .i64 0, .int .i64 0, .int .i64 0]) rfl brezv102 rfl) (fun g4 => ?_)
  refine TL.as_ ?_
  refine TL.pstore (k := 0) (vs := x17.cells) rfl rfl rfl rfl rfl rfl rfl bresz102 (en_cel.one _) (by show 5 ≤ 5; decide) (L' := [.blk g4 102 x17.cells, .blk g1 26 [.slice A0 es.length c0]]) rfl ?_
  refine zET (zS (zSG (TL.v (gV 0 (.agg (x17.cells).toArray) breag102 bresz102) ?_)))
  refine TL.callsplit rfl rfl rfl rfl rfl Tryz.func129 (by decide) rfl (fun w1 hw => validE_any x17 w1) (fun h20 => ?_) (fun h20 => ?_)
  ·refine TL.val rfl rfl rfl (gives_boolnot rfl rfl) ?_
   refine zET (zd (zk (zT (zS (zSG (TL.mv ?_))))))
   refine TL.sp bin_eql (fun q23 => ?_) (fun q23 => ?_)
   ·refine zET (zc (zx (zX (zM (zT (zG (TL.v (gD ((i + 1 : Nat) : Int)) ?_)))))))
    refine TL.mv ?_
    refine zE ?_
    exact TX.round (⟨i + 1, by omega, okN hok (okAt_zero (by omega) hx17 h20)⟩) (by show es.length - (i + 1) < es.length - i; omega) ⟨rfl, rfl, rfl, rfl, trivial⟩ (fun w1 hw => hw.pick [1] (by decide) rfl)
   refine zET (zd (zk (zT (zSG (TL.v (gF brefld26_0) ?_)))))
   refine TL.v (gL 1 breag24) ?_
   refine TL.mv ?_
   refine TL.val rfl rfl rfl (gives_bin rfl rfl rfl (fun w => bin_sub_ (r := ((i - 1 : Nat) : Int)) (by simp only [IntKind.wrap_i64]; omega) w)) ?_
   have hi28 : i - 1 < es.length := by omega
   obtain ⟨x28, hx28⟩ := ex_at hi28
   obtain ⟨b28, o28, hA28, hbb28, hc28⟩ := hr.ad (by omega) (by decide)
   refine TL.val rfl rfl rfl (gA (i := (i - 1)) Tryz.underlying24 bresz102 rfl rfl rfl rfl hA28 (by omega)) ?_
   refine TL.val rfl rfl rfl (gives_loadR (off := o28 + (i - 1) * 5) rfl rfl breag102 bresz102 (en_cel.len x28) (fun w1 hw j9 u9 h9 => (hw.bel.cell hbb28).trans <| flat_cell en_cel hx28 hc28 j9 u9 h9)) ?_
   refine TL.pnew rfl rfl rfl (exec_alloc (cs := [.int .u32 0, .int .i64 0, .int .i64 0, .int .i64 0, .int .i64 0]) rfl brezv102 rfl) (fun g5 => ?_)
   refine TL.pstore (k := 0) (vs := x28.cells) rfl rfl rfl rfl rfl rfl rfl bresz102 (en_cel.one _) (by show 5 ≤ 5; decide) (L' := [.blk g5 102 x28.cells, .blk g4 102 x17.cells, .blk g1 26 [.slice A0 es.length c0]]) rfl ?_
   refine zET (zSG (TL.v (gF brefld102_0) ?_))
   refine TL.v (gV 0 (.agg #[.int .u32 x28.addr, .int .i64 x28.len]) badag100 badsz100) ?_
   refine TL.v (gF brefld102_0) ?_
   refine TL.v (gV 1 (.agg #[.int .u32 x17.addr, .int .i64 x17.len]) badag100 badsz100) ?_
   refine TL.pcall1 (r := .int .i64 (cmpP x28.addr x28.len x17.addr x17.len)) rfl rfl rfl rfl rfl Tryz.func130 (by decide) rfl (fun w1 hw => cmpP_any x28.addr x28.len x17.addr x17.len w1) ?_
   refine TL.as_ ?_
   refine zET (zSG (TL.mv ?_))
   refine TL.sp bin_gtr (fun q36 => ?_) (fun q36 => ?_)
   ·refine TL.rn 4 rfl ?_
    refine TL.offU rfl rfl rfl rfl rfl ?_
    refine TL.offU rfl rfl rfl rfl rfl ?_
    refine TL.offU rfl rfl rfl rfl rfl ?_
    refine TL.offU rfl rfl rfl rfl rfl ?_
    refine TL.offU rfl rfl rfl rfl rfl ?_
    refine TL.rn 2 rfl (zET (zc (zSG (TL.as_ ?_))))
    refine zET (zr (zRR (zR (zRR ?_))))
    have hE : validR es = false := validR_false hi17 (okAt_pair (t := false) (by omega) hx17 hx28 h20 (by simp [badP, q15, h20, q23, q36]))
    exact ret_tmp Tryz.results84 rfl (fun w1 hw => ⟨by rw [hE], hw.bel⟩)
   refine TL.rn 2 rfl (TL.gu ?_)
   refine TL.sp bin_eql (fun q39 => ?_) (fun q39 => ?_)
   ·refine TL.rn 1 rfl (TL.ov (gF brefld102_2) ?_)
    refine TL.ov (gL 1 pcmag3) ?_
    refine TL.ov (gF brefld102_3) ?_
    refine TL.ov (gL 0 pcmag3) ?_
    refine TL.gu ?_
    refine TL.sp bin_lss (fun q45 => ?_) (fun q45 => ?_)
    ·refine TL.rn 2 rfl (zET (zc (zSG (TL.as_ ?_))))
     refine zET (zr (zRR (zR (zRR ?_))))
     have hE : validR es = false := validR_false hi17 (okAt_pair (t := false) (by omega) hx17 hx28 h20 (by simp [badP, q15, h20, q23, q36, q39, q45]))
     exact ret_tmp Tryz.results84 rfl (fun w1 hw => ⟨by rw [hE], hw.bel⟩)
    refine TL.rn 2 rfl (zET (zd (zk (zN (zT (zG (TL.v (gD ((i + 1 : Nat) : Int)) ?_)))))))
    refine TL.mv ?_
    refine zE ?_
    exact TX.round (⟨i + 1, by omega, okN hok (okAt_pair (t := true) (by omega) hx17 hx28 h20 (by simp [badP, q15, h20, q23, q36, q39, q45]))⟩) (by show es.length - (i + 1) < es.length - i; omega) ⟨rfl, rfl, rfl, rfl, trivial⟩ (fun w1 hw => hw.pick [2] (by decide) rfl)
   refine TL.rn 8 rfl (zET (zd (zk (zN (zT (zG (TL.v (gD ((i + 1 : Nat) : Int)) ?_)))))))
   refine TL.mv ?_
   refine zE ?_
   exact TX.round (⟨i + 1, by omega, okN hok (okAt_pair (t := true) (by omega) hx17 hx28 h20 (by simp [badP, q15, h20, q23, q36, q39]))⟩) (by show es.length - (i + 1) < es.length - i; omega) ⟨rfl, rfl, rfl, rfl, trivial⟩ (fun w1 hw => hw.pick [2] (by decide) rfl)
  refine TL.val rfl rfl rfl (gives_boolnot rfl rfl) ?_
  refine zET (zc (zSG (TL.as_ ?_)))
  refine zET (zr (zR (zRR (zR (zRR ?_)))))
  have hE : validR es = false := validR_false hi17 (okAt_bad hx17 h20)
  exact ret_tmp Tryz.results84 rfl (fun w1 hw => ⟨by rw [hE], hw.bel⟩)
 refine zET (zS (zd (zx (zX (zX (zM (zT (zSG (TL.as_ ?_)))))))))
 refine zET (zr ?_)
 have hE : validR es = true := validR_true (by omega) (fun j hj => hok j (by omega))
 exact ret_tmp Tryz.results84 rfl (fun w1 hw => ⟨by rw [hE], hw.bel⟩)
theorem lookR_any (A0 : Option Addr) (c0 : Nat) (es : List En) (a t : Int) (w : World) (hr : Reads w w.heap.size 5 A0 es.length (flat En.cells es)) (hl1 : es.length ≤ 100000) :
  Calls Tryz.prog 189 #[.agg #[.slice A0 es.length c0], .int .u32 a, .int .i64 t] w fun e w' => e = .returned (.tuple #[.agg (lookR es a t).1.cells.toArray, .bool (lookR es a t).2]) ∧ Below w.heap.size w w' := by
 refine begin_ (vs := [.agg #[.slice A0 es.length c0], .int .u32 a, .int .i64 t]) Tryz.func189 rfl rfl rfl ?_ (Pm.start w)
 refine zSG ?_
 refine TL.pnew rfl rfl rfl (exec_box (cs := [.slice A0 es.length c0]) rfl rfl rfl) (fun g3 => ?_)
 refine TL.pnew rfl rfl rfl (exec_alloc (cs := En.zero.cells) rfl brezv102 rfl) (fun g6 => ?_)
 refine TL.as_ ?_
 refine zET (zSG ?_)
 refine TL.pnew rfl rfl rfl (exec_alloc (cs := En.zero.cells) rfl brezv102 rfl) (fun g8 => ?_)
 refine zET (zSG (TL.as_ ?_))
 refine zET (zS (zSG (TL.v (gF brefld26_0) ?_)))
 refine TL.v (gL 2 breag24) ?_
 refine TL.v (gN Tryz.underlying24) ?_
 refine TL.mv ?_
 refine zET (zB (TC.loop_ (α := {y : Nat × En × Bool // y.1 ≤ es.length ∧ lookR (es.take y.1) a t = y.2}) (fun y => [(1, .int .u32 a), (2, .int .i64 t), (6, .pointer (some ⟨g6, 0, none⟩)), (8, .pointer (some ⟨g8, 0, none⟩)), (13, .slice A0 es.length c0), (14, .int .i64 (es.length : Nat)), (15, .int .i64 ((y.1.1 : Nat) : Int)), (9, .bool y.1.2.2)]) (fun y => Pm w [.blk g8 102 y.1.2.1.cells, .blk g6 102 En.zero.cells, .blk g3 26 [.slice A0 es.length c0]]) (fun y => es.length - y.1.1) (⟨(0, En.zero, false), Nat.zero_le _, rfl⟩) ⟨rfl, rfl, rfl, rfl, rfl, rfl, rfl, rfl, trivial⟩ (fun w1 hw => hw) ?_))
 rintro ⟨⟨i, bst, fnd⟩, hi, hst⟩
 dsimp only at hi hst ⊢
 refine zSG ?_
 refine TL.sp bin_lss (fun q16 => ?_) (fun q16 => ?_)
 ·refine zET (zS (zc (zk (zT (zS (zB (zSG ?_)))))))
  have hi17 : i < es.length := by omega
  obtain ⟨x17, hx17⟩ := ex_at hi17
  obtain ⟨b17, o17, hA17, hbb17, hc17⟩ := hr.ad (by omega) (by decide)
  refine TL.val rfl rfl rfl (gA (i := i) Tryz.underlying24 bresz102 rfl rfl rfl rfl hA17 (by omega)) ?_
  refine TL.v (gR en_cel breag102 bresz102 hbb17 hx17 hc17) ?_
  refine TL.pnew rfl rfl rfl (exec_alloc (cs := En.zero.cells) rfl brezv102 rfl) (fun g11 => ?_)
  refine TL.pstore (k := 0) (vs := x17.cells) rfl rfl rfl rfl rfl rfl rfl bresz102 (en_cel.one _) (by show 5 ≤ 5; decide) (L' := [.blk g11 102 x17.cells, .blk g8 102 bst.cells, .blk g6 102 En.zero.cells, .blk g3 26 [.slice A0 es.length c0]]) rfl ?_
  refine zET (zS ?_)
  cases fnd with
  | true =>
   refine zG (TL.v (gF brefld102_2) ?_)
   refine TL.v (gL 0 pcmag3) ?_
   refine TL.mv ?_
   refine TL.sp bin_leq (fun q22 => ?_) (fun q22 => ?_)
   ·refine TL.rn 2 rfl (TL.ov (gF brefld102_3) ?_)
    refine TL.ov (gL 0 pcmag3) ?_
    refine TL.gu ?_
    refine TL.sp bin_lss (fun q27 => ?_) (fun q27 => ?_)
    ·refine TL.rn 5 rfl (TL.ov (gF brefld102_0) ?_)
     refine TL.ov (gF badfld100_1) ?_
     refine TL.ov (gL 0 pcmag3) ?_
     refine TL.ov (gF brefld102_0) ?_
     refine TL.ov (gF badfld100_1) ?_
     refine TL.ov (gL 1 pcmag3) ?_
     refine TL.gu ?_
     refine TL.sp bin_gtr (fun q39 => ?_) (fun q39 => ?_)
     ·refine TL.rn 3 rfl (TL.ov (gF brefld102_0) ?_)
      refine TL.ov (gV 0 (.agg #[.int .u32 x17.addr, .int .i64 x17.len]) badag100 badsz100) ?_
      refine TL.rn 1 rfl (TL.gu ?_)
      refine TL.callsplit rfl rfl rfl rfl rfl Tryz.func216 (by decide) rfl (fun w1 hw => hasP_any x17.addr x17.len a w1) (fun h46 => ?_) (fun h46 => ?_)
      ·refine TL.pk ?_
       refine zET (zc (zG (TL.v (gV 0 (.agg (x17.cells).toArray) breag102 bresz102) ?_)))
       refine TL.pstore (k := 1) (vs := x17.cells) rfl rfl rfl rfl rfl rfl rfl bresz102 (en_cel.one _) (by show 5 ≤ 5; decide) (L' := [.blk g11 102 x17.cells, .blk g8 102 x17.cells, .blk g6 102 En.zero.cells, .blk g3 26 [.slice A0 es.length c0]]) rfl ?_
       refine TL.as_ ?_
       refine zE (zN (zT (zG (TL.v (gD ((i + 1 : Nat) : Int)) ?_))))
       refine TL.mv ?_
       refine zE ?_
       exact TX.round (⟨(i + 1, x17, true), by dsimp only; omega, by rw [lookR_snoc hx17 hst, if_pos (by simp [fitsE, q16, q22, q27, q39, h46])]⟩) (by show es.length - (i + 1) < es.length - i; omega) ⟨rfl, rfl, rfl, rfl, rfl, rfl, rfl, rfl, trivial⟩ (fun w1 hw => hw.pick [1, 2, 3] (by decide) rfl)
      refine TL.pk ?_
      refine zET (zd (zk (zN (zT (zG (TL.v (gD ((i + 1 : Nat) : Int)) ?_))))))
      refine TL.mv ?_
      refine zE ?_
      exact TX.round (⟨(i + 1, bst, true), by dsimp only; omega, by rw [lookR_snoc hx17 hst, if_neg (by simp [fitsE, q16, q22, q27, q39, h46])]⟩) (by show es.length - (i + 1) < es.length - i; omega) ⟨rfl, rfl, rfl, rfl, rfl, rfl, rfl, rfl, trivial⟩ (fun w1 hw => hw.pick [1, 2, 3] (by decide) rfl)
     refine TL.rn 8 rfl (zET (zd (zk (zN (zT (zG (TL.v (gD ((i + 1 : Nat) : Int)) ?_)))))))
     refine TL.mv ?_
     refine zE ?_
     exact TX.round (⟨(i + 1, bst, true), by dsimp only; omega, by rw [lookR_snoc hx17 hst, if_neg (by simp [fitsE, q16, q22, q27, q39])]⟩) (by show es.length - (i + 1) < es.length - i; omega) ⟨rfl, rfl, rfl, rfl, rfl, rfl, rfl, rfl, trivial⟩ (fun w1 hw => hw.pick [1, 2, 3] (by decide) rfl)
    refine TL.rn 5 rfl ?_
    refine TL.offU rfl rfl rfl rfl rfl ?_
    refine TL.offU rfl rfl rfl rfl rfl ?_
    refine TL.offU rfl rfl rfl rfl rfl ?_
    refine TL.offU rfl rfl rfl rfl rfl ?_
    refine TL.offU rfl rfl rfl rfl rfl ?_
    refine TL.offU rfl rfl rfl rfl rfl ?_
    refine TL.offU rfl rfl rfl rfl rfl ?_
    refine TL.rn 8 rfl (zET (zd (zk (zN (zT (zG (TL.v (gD ((i + 1 : Nat) : Int)) ?_)))))))
    refine TL.mv ?_
    refine zE ?_
    exact TX.round (⟨(i + 1, bst, true), by dsimp only; omega, by rw [lookR_snoc hx17 hst, if_neg (by simp [fitsE, q16, q22, q27])]⟩) (by show es.length - (i + 1) < es.length - i; omega) ⟨rfl, rfl, rfl, rfl, rfl, rfl, rfl, rfl, trivial⟩ (fun w1 hw => hw.pick [1, 2, 3] (by decide) rfl)
   refine TL.rn 10 rfl ?_
   refine TL.offU rfl rfl rfl rfl rfl ?_
   refine TL.offU rfl rfl rfl rfl rfl ?_
   refine TL.offU rfl rfl rfl rfl rfl ?_
   refine TL.offU rfl rfl rfl rfl rfl ?_
   refine TL.offU rfl rfl rfl rfl rfl ?_
   refine TL.offU rfl rfl rfl rfl rfl ?_
   refine TL.offU rfl rfl rfl rfl rfl ?_
   refine TL.rn 8 rfl (zET (zd (zk (zN (zT (zG (TL.v (gD ((i + 1 : Nat) : Int)) ?_)))))))
   refine TL.mv ?_
   refine zE ?_
   exact TX.round (⟨(i + 1, bst, true), by dsimp only; omega, by rw [lookR_snoc hx17 hst, if_neg (by simp [fitsE, q16, q22])]⟩) (by show es.length - (i + 1) < es.length - i; omega) ⟨rfl, rfl, rfl, rfl, rfl, rfl, rfl, rfl, trivial⟩ (fun w1 hw => hw.pick [1, 2, 3] (by decide) rfl)
  | false =>
   refine zG (TL.v (gF brefld102_2) ?_)
   refine TL.v (gL 0 pcmag3) ?_
   refine TL.mv ?_
   refine TL.sp bin_leq (fun q22 => ?_) (fun q22 => ?_)
   ·refine TL.rn 2 rfl (TL.ov (gF brefld102_3) ?_)
    refine TL.ov (gL 0 pcmag3) ?_
    refine TL.gu ?_
    refine TL.sp bin_lss (fun q27 => ?_) (fun q27 => ?_)
    ·refine TL.rn 15 rfl (TL.ov (gF brefld102_0) ?_)
     refine TL.ov (gV 0 (.agg #[.int .u32 x17.addr, .int .i64 x17.len]) badag100 badsz100) ?_
     refine TL.rn 1 rfl (TL.gu ?_)
     refine TL.callsplit rfl rfl rfl rfl rfl Tryz.func216 (by decide) rfl (fun w1 hw => hasP_any x17.addr x17.len a w1) (fun h46 => ?_) (fun h46 => ?_)
     ·refine TL.pk ?_
      refine zET (zc (zG (TL.v (gV 0 (.agg (x17.cells).toArray) breag102 bresz102) ?_)))
      refine TL.pstore (k := 1) (vs := x17.cells) rfl rfl rfl rfl rfl rfl rfl bresz102 (en_cel.one _) (by show 5 ≤ 5; decide) (L' := [.blk g11 102 x17.cells, .blk g8 102 x17.cells, .blk g6 102 En.zero.cells, .blk g3 26 [.slice A0 es.length c0]]) rfl ?_
      refine TL.as_ ?_
      refine zE (zN (zT (zG (TL.v (gD ((i + 1 : Nat) : Int)) ?_))))
      refine TL.mv ?_
      refine zE ?_
      exact TX.round (⟨(i + 1, x17, true), by dsimp only; omega, by rw [lookR_snoc hx17 hst, if_pos (by simp [fitsE, q16, q22, q27, h46])]⟩) (by show es.length - (i + 1) < es.length - i; omega) ⟨rfl, rfl, rfl, rfl, rfl, rfl, rfl, rfl, trivial⟩ (fun w1 hw => hw.pick [1, 2, 3] (by decide) rfl)
     refine TL.pk ?_
     refine zET (zd (zk (zN (zT (zG (TL.v (gD ((i + 1 : Nat) : Int)) ?_))))))
     refine TL.mv ?_
     refine zE ?_
     exact TX.round (⟨(i + 1, bst, false), by dsimp only; omega, by rw [lookR_snoc hx17 hst, if_neg (by simp [fitsE, q16, q22, q27, h46])]⟩) (by show es.length - (i + 1) < es.length - i; omega) ⟨rfl, rfl, rfl, rfl, rfl, rfl, rfl, rfl, trivial⟩ (fun w1 hw => hw.pick [1, 2, 3] (by decide) rfl)
    refine TL.rn 5 rfl ?_
    refine TL.offU rfl rfl rfl rfl rfl ?_
    refine TL.offU rfl rfl rfl rfl rfl ?_
    refine TL.offU rfl rfl rfl rfl rfl ?_
    refine TL.offU rfl rfl rfl rfl rfl ?_
    refine TL.offU rfl rfl rfl rfl rfl ?_
    refine TL.offU rfl rfl rfl rfl rfl ?_
    refine TL.offU rfl rfl rfl rfl rfl ?_
    refine TL.rn 8 rfl (zET (zd (zk (zN (zT (zG (TL.v (gD ((i + 1 : Nat) : Int)) ?_)))))))
    refine TL.mv ?_
    refine zE ?_
    exact TX.round (⟨(i + 1, bst, false), by dsimp only; omega, by rw [lookR_snoc hx17 hst, if_neg (by simp [fitsE, q16, q22, q27])]⟩) (by show es.length - (i + 1) < es.length - i; omega) ⟨rfl, rfl, rfl, rfl, rfl, rfl, rfl, rfl, trivial⟩ (fun w1 hw => hw.pick [1, 2, 3] (by decide) rfl)
   refine TL.rn 10 rfl ?_
   refine TL.offU rfl rfl rfl rfl rfl ?_
   refine TL.offU rfl rfl rfl rfl rfl ?_
   refine TL.offU rfl rfl rfl rfl rfl ?_
   refine TL.offU rfl rfl rfl rfl rfl ?_
   refine TL.offU rfl rfl rfl rfl rfl ?_
   refine TL.offU rfl rfl rfl rfl rfl ?_
   refine TL.offU rfl rfl rfl rfl rfl ?_
   refine TL.rn 8 rfl (zET (zd (zk (zN (zT (zG (TL.v (gD ((i + 1 : Nat) : Int)) ?_)))))))
   refine TL.mv ?_
   refine zE ?_
   exact TX.round (⟨(i + 1, bst, false), by dsimp only; omega, by rw [lookR_snoc hx17 hst, if_neg (by simp [fitsE, q16, q22])]⟩) (by show es.length - (i + 1) < es.length - i; omega) ⟨rfl, rfl, rfl, rfl, rfl, rfl, rfl, rfl, trivial⟩ (fun w1 hw => hw.pick [1, 2, 3] (by decide) rfl)
 refine zET (zS (zd (zx (zX (zX (zM (zT (zSG (TL.v (gV 0 (.agg (bst.cells).toArray) breag102 bresz102) ?_)))))))))
 refine TL.mv ?_
 refine TL.pstore (k := 1) (vs := bst.cells) rfl rfl rfl rfl rfl rfl rfl bresz102 (en_cel.one _) (by show 5 ≤ 5; decide) (L' := [.blk g8 102 bst.cells, .blk g6 102 bst.cells, .blk g3 26 [.slice A0 es.length c0]]) rfl ?_
 refine TL.as_ ?_
 refine zET (zr ?_)
 have hE : lookR es a t = (bst, fnd) := by rw [List.take_of_length_le (by omega)] at hst; exact hst
 exact ret_cell2 (k := 1) (v := .bool fnd) Tryz.results189 rfl rfl rfl Tryz.underlying102 rfl rfl (fun w1 hw => ⟨by rw [hE], hw.bel⟩)
theorem lookV_any (A0 : Option Addr) (c0 : Nat) (es : List En) (a t : Int) (w : World) (hr : Reads w w.heap.size 5 A0 es.length (flat En.cells es)) :
  Calls Tryz.prog 161 #[.agg #[.slice A0 es.length c0], .int .u32 a, .int .i64 t] w fun e w' => e = .returned (.tuple #[.agg (lookV es a t).1.cells.toArray, .bool (lookV es a t).2]) ∧ Below w.heap.size w w' := by
 refine begin_ (vs := [.agg #[.slice A0 es.length c0], .int .u32 a, .int .i64 t]) Tryz.func161 rfl rfl rfl ?_ (Pm.start w)
 refine zSG ?_
 refine TL.pnew rfl rfl rfl (exec_box (cs := [.slice A0 es.length c0]) rfl rfl rfl) (fun g3 => ?_)
 refine TL.pnew rfl rfl rfl (exec_alloc (cs := [.int .u32 0, .int .i64 0, .int .i64 0, .int .i64 0, .int .i64 0]) rfl brezv102 rfl) (fun g6 => ?_)
 refine TL.as_ ?_
 refine zET (zS (zSG (TL.v (gV 1 (.agg #[.slice A0 es.length c0]) breag26 bresz26) ?_)))
 refine TL.callsplit rfl rfl rfl rfl rfl Tryz.func84 (by decide) rfl (fun w1 hw => validR_any A0 c0 es w1 (hr.up hw.bel)) (fun h9 => ?_) (fun h9 => ?_)
 ·refine TL.val rfl rfl rfl (gives_boolnot rfl rfl) ?_
  refine zET (zd (zk (zT (zSG (TL.v (gV 1 (.agg #[.slice A0 es.length c0]) breag26 bresz26) ?_)))))
  refine TL.rn 2 rfl ?_
  refine TL.pcall1 (r := .tuple #[.agg ((lookR es a t).1.cells).toArray, .bool ((lookR es a t).2)]) rfl rfl rfl rfl rfl Tryz.func189 (by decide) rfl (fun w1 hw => lookR_any A0 c0 es a t w1 (hr.up hw.bel) (Nat.le_trans (validR_len h9) (by decide))) ?_
  refine TL.rn 2 rfl ?_
  refine TL.pstore (k := 0) (vs := (lookR es a t).1.cells) rfl rfl rfl rfl rfl rfl rfl bresz102 (en_cel.one _) (by show 5 ≤ 5; decide) (L' := [.blk g6 102 (lookR es a t).1.cells, .blk g3 26 [.slice A0 es.length c0]]) rfl ?_
  refine TL.as_ ?_
  refine zET (zr ?_)
  have hE : lookV es a t = lookR es a t := if_pos h9
  exact ret_cell2 (k := 0) (v := .bool ((lookR es a t).2)) Tryz.results161 rfl rfl rfl Tryz.underlying102 rfl rfl (fun w1 hw => ⟨by rw [hE], hw.bel⟩)
 refine TL.val rfl rfl rfl (gives_boolnot rfl rfl) ?_
 refine zET (zc (zSG ?_))
 refine TL.val rfl rfl rfl (gives_build (v := .agg #[.int .u32 0, .int .i64 0, .int .i64 0, .int .i64 0, .int .i64 0]) rfl rfl (fun w => brebld102_791  w)) ?_
 refine TL.pstore (k := 0) (vs := [.int .u32 0, .int .i64 0, .int .i64 0, .int .i64 0, .int .i64 0]) rfl rfl rfl rfl rfl rfl rfl bresz102 breone_u32i64i64i64i64 (by show 5 ≤ 5; decide) (L' := [.blk g6 102 [.int .u32 0, .int .i64 0, .int .i64 0, .int .i64 0, .int .i64 0], .blk g3 26 [.slice A0 es.length c0]]) rfl ?_
 refine TL.as_ ?_
 refine zET (zr (zR ?_))
 have hE : lookV es a t = (En.zero, false) := if_neg (by rw [h9]; decide)
 exact ret_cell2 (k := 0) (v := .bool false) Tryz.results161 rfl rfl rfl Tryz.underlying102 rfl rfl (fun w1 hw => ⟨by rw [hE]; rfl, hw.bel⟩)
theorem prov_any (A0 : Option Addr) (c0 : Nat) (es : List En) (a t : Int) (w : World) (hr : Reads w w.heap.size 5 A0 es.length (flat En.cells es)) :
  Calls Tryz.prog 127 #[.agg #[.slice A0 es.length c0], .int .u32 a, .int .i64 t] w fun e w' => e = .returned (.int .i64 (provR es a t)) ∧ Below w.heap.size w w' := by
 refine begin_ (vs := [.agg #[.slice A0 es.length c0], .int .u32 a, .int .i64 t]) Tryz.func127 rfl rfl rfl ?_ (Pm.start w)
 refine zSG ?_
 refine TL.pnew rfl rfl rfl (exec_box (cs := [.slice A0 es.length c0]) rfl rfl rfl) (fun g3 => ?_)
 refine TL.as_ ?_
 refine zET (zSG (TL.v (gV 0 (.agg #[.slice A0 es.length c0]) breag26 bresz26) ?_))
 refine TL.rn 2 rfl ?_
 refine TL.pcall1 (r := .tuple #[.agg ((lookV es a t).1.cells).toArray, .bool ((lookV es a t).2)]) rfl rfl rfl rfl rfl Tryz.func161 (by decide) rfl (fun w1 hw => lookV_any A0 c0 es a t w1 (hr.up hw.bel)) ?_
 refine TL.rn 3 rfl ?_
 refine TL.pnew rfl rfl rfl (exec_alloc (cs := [.int .u32 0, .int .i64 0, .int .i64 0, .int .i64 0, .int .i64 0]) rfl brezv102 rfl) (fun g7 => ?_)
 refine TL.pstore (k := 0) (vs := (lookV es a t).1.cells) rfl rfl rfl rfl rfl rfl rfl bresz102 (en_cel.one _) (by show 5 ≤ 5; decide) (L' := [.blk g7 102 (lookV es a t).1.cells, .blk g3 26 [.slice A0 es.length c0]]) rfl ?_
 refine TL.as_ ?_
 refine zET (zSG (TL.v (gF brefld102_1) ?_))
 refine TL.v (gL 0 pcmag3) ?_
 refine TL.as_ ?_
 refine zET (zr ?_)
 exact ret_tmp Tryz.results127 rfl (fun w1 hw => ⟨rfl, hw.bel⟩)
set_option maxRecDepth 20000
def dtA (f : Rs → Int) (prov t : Int) (a : Rs) : Prop := a.back < t ∧ f a ≠ 0 ∧ f a ≠ prov
def dtB (f : Rs → Int) (prov t : Int) (a b : Rs) : Prop := t ≤ b.at_ ∧ f b = prov ∧ b.src ≠ a.src
def DtF (f : Rs → Int) (y : List Rs) (prov t : Int) : Prop := ∃ a ∈ y, dtA f prov t a ∧ ∃ b ∈ y, dtB f prov t a b
theorem not_snoc {α : Type} {y : List α} {P : α → Prop} {i : Nat} {x : α} (h : ∀ z ∈ y.take i, ¬ P z) (hx : y[i]? = some x) (hn : ¬ P x) : ∀ z ∈ y.take (i + 1), ¬ P z := fun z hz => by
 rw [List.take_add_one, hx, List.mem_append] at hz
 rcases hz with h1 | h1
 ·exact h z h1
 rw [show z = x by simpa using h1]; exact hn
theorem map_at {α β : Type} {f : α → β} {l : List α} {m : List β} {i : Nat} {x : α} {v : β} (hm : m = l.map f) (hx : l[i]? = some x) (hv : m[i]? = some v) : v = f x := by
 subst hm
 rw [List.getElem?_map, hx] at hv
 exact (Option.some.inj hv).symm
theorem mapt_snoc {α β : Type} {f : α → β} {l : List α} {m : List β} {i : Nat} {x : α} (hx : l[i]? = some x) (h : (l.take i).map f = m) : (l.take (i + 1)).map f = m ++ [f x] := by
 rw [List.take_add_one, hx, List.map_append, h]; rfl
theorem adtbs106_1_5377 (a0_0 : Int) (w : World) : (Instr.buildSlice 106 1 #[(0, .int .i64 a0_0)]).run Tryz.prog w = .ok (.slice (some ⟨w.heap.size, 0, none⟩) 1 1) (w.alloc (.cells [.int .i64 a0_0].toArray 3)) := by kernel_rfl
theorem adtel106 : Elem Tryz.prog 106 3 1 8 := Elem.mk' Tryz.underlying106 (z := .int .i64 0) (by kernel_rfl) rfl (by omega) (by omega)
theorem providers_any (A0 : Option Addr) (c0 : Nat) (l : List Rs) (A1 : Option Addr) (c1 : Nat) (es : List En) (w : World) (hr : Reads w w.heap.size 17 A0 l.length (flat Rs.cells l)) (hl1 : l.length ≤ 100000) (hr1 : Reads w w.heap.size 5 A1 es.length (flat En.cells es)) :
  Calls Tryz.prog 82 #[.slice A0 l.length c0, .agg #[.slice A1 es.length c1]] w fun e w' => ∃ x : {y : (Option Addr × Nat) × List Int // y.2 = l.map (fun r : Rs => provR es r.src r.back) ∧ y.2.length ≤ y.1.2 ∧ y.1.2 ≤ maxLen}, e = .returned (.slice x.1.1.1 x.1.2.length x.1.1.2) ∧ Pm w [.row (.slice x.1.1.1 x.1.2.length x.1.1.2) 3 1 x.1.2.length (flat (ic .i64) x.1.2)] w' := by
 refine begin_ (vs := [.slice A0 l.length c0, .agg #[.slice A1 es.length c1]]) Tryz.func82 rfl rfl rfl ?_ (Pm.start w)
 refine zSG ?_
 refine TL.pnew rfl rfl rfl (exec_box (cs := [.slice A1 es.length c1]) rfl rfl rfl) (fun g3 => ?_)
 refine TL.as_ ?_
 refine zET (zSG (TL.as_ ?_))
 refine zET (zS (zSG (TL.mv ?_)))
 refine TL.v (gN Tryz.underlying23) ?_
 refine TL.mv ?_
 refine zET (zB (TC.nilrow 3 1 ?_))
 refine TC.loop_ (α := {y : Nat × (Option Addr × Nat) × List Int // y.1 ≤ l.length ∧ ((l.take y.1).map (fun r : Rs => provR es r.src r.back) = y.2.2) ∧ y.2.2.length ≤ y.1 ∧ y.2.2.length ≤ y.2.1.2 ∧ y.2.1.2 ≤ maxLen}) (fun y => [(3, .pointer (some ⟨g3, 0, none⟩)), (8, .slice A0 l.length c0), (9, .int .i64 (l.length : Nat)), (10, .int .i64 ((y.1.1 : Nat) : Int)), (5, .slice y.1.2.1.1 y.1.2.2.length y.1.2.1.2)]) (fun y => Pm w [.row (.slice y.1.2.1.1 y.1.2.2.length y.1.2.1.2) 3 1 y.1.2.2.length (flat (ic .i64) y.1.2.2), .blk g3 26 [.slice A1 es.length c1]]) (fun y => l.length - y.1.1) (⟨(0, (none, 0), []), Nat.zero_le _, rfl, Nat.le_refl _, Nat.le_refl _, Nat.zero_le _⟩) ⟨rfl, rfl, rfl, rfl, rfl, trivial⟩ (fun w1 hw => hw) ?_
 rintro ⟨⟨i, ⟨Ao, co⟩, out⟩, hi, hout, houtl, houtc, houtm⟩
 dsimp only at hi hout houtl houtc houtm ⊢
 refine zSG ?_
 refine TL.sp bin_lss (fun q11 => ?_) (fun q11 => ?_)
 ·refine zET (zS (zc (zk (zT (zS (zB (zSG ?_)))))))
  have hi12 : i < l.length := by omega
  obtain ⟨x12, hx12⟩ := ex_at hi12
  obtain ⟨b12, o12, hA12, hbb12, hc12⟩ := hr.ad (by omega) (by decide)
  refine TL.val rfl rfl rfl (gA (i := i) Tryz.underlying23 prssz65 rfl rfl rfl rfl hA12 (by omega)) ?_
  refine TL.v (gR rs_cel prsag65 prssz65 hbb12 hx12 hc12) ?_
  refine TL.pnew rfl rfl rfl (exec_alloc (cs := [.int .i64 0, .int .i64 0, .int .i64 0, .int .i64 0, .int .u32 0, .int .i64 0, .int .i64 0, .int .i64 0, .bool false, .bool false, .int .i64 0, .int .u32 0, .int .i64 0, .int .i64 0, .int .i64 0, .int .i64 0, .int .i64 0]) rfl arpzv65 rfl) (fun g7 => ?_)
  refine TL.pstore (k := 0) (vs := x12.cells) rfl rfl rfl rfl rfl rfl rfl prssz65 (rs_cel.one _) (by show 17 ≤ 17; decide) (L' := [.blk g7 65 x12.cells, .row (.slice Ao out.length co) 3 1 out.length (flat (ic .i64) out), .blk g3 26 [.slice A1 es.length c1]]) rfl ?_
  refine zET (zG (TL.mv ?_))
  refine TL.v (gV 2 (.agg #[.slice A1 es.length c1]) breag26 bresz26) ?_
  refine TL.v (gF prsfld65_11) ?_
  refine TL.v (gF prsfld63_0) ?_
  refine TL.v (gL 0 pcmag30) ?_
  refine TL.v (gF prsfld65_10) ?_
  refine TL.v (gL 0 pcmag3) ?_
  refine TL.pcall1 (r := .int .i64 (provR es x12.src x12.back)) rfl rfl rfl rfl rfl Tryz.func127 (by decide) rfl (fun w1 hw => prov_any A1 c1 es x12.src x12.back w1 (hr1.up hw.bel)) ?_
  refine TL.prowS (e := 3) (size := 1) (cs := flat (ic .i64) [provR es x12.src x12.back]) rfl rfl rfl rfl rfl (fun w => adtbs106_1_5377 _ w) (by decide) rfl (fun g22 => ?_)
  refine TL.appendT (k := 2) rfl rfl rfl rfl Tryz.underlying106 adtel106 rfl rfl rfl (fun w1 hw => pm_reads hw (k := 0) rfl) (flat_one (ic_cel .i64) _) (by show _ * 8 ≤ _; omega) ((out ++ [provR es x12.src x12.back]).length) (by rw [List.length_append]; rfl) (flat (ic .i64) (out ++ [provR es x12.src x12.back])) ((flat_app _ _).symm) (fun A23 c23 hA231 hA232 => ?_)
  refine TL.as_ ?_
  refine zE (zN (zT (zG (TL.v (gD ((i + 1 : Nat) : Int)) ?_))))
  refine TL.mv ?_
  refine zE ?_
  exact TX.round (⟨(i + 1, (A23, c23), out ++ [provR es x12.src x12.back]), by dsimp only; omega, mapt_snoc (f := (fun r : Rs => provR es r.src r.back)) hx12 hout, by dsimp only; rw [List.length_append]; show out.length + 1 ≤ _; omega, hA231, hA232⟩) (by show l.length - (i + 1) < l.length - i; omega) ⟨rfl, rfl, rfl, rfl, rfl, trivial⟩ (fun w1 hw => hw.pick [2, 3] (by decide) rfl)
 refine zET (zS (zd (zx (zX (zX (zM (zT (zSG (TL.rn 2 rfl (zET (zr ?_)))))))))))
 exact ret_tmp Tryz.results82 rfl (fun w1 hw => ⟨⟨((Ao, co), out), by rw [List.take_of_length_le (by omega)] at hout; exact hout.symm, by dsimp only; omega, houtm⟩, rfl, hw.pick [0] (by decide) rfl⟩)
theorem detour_l (A0 : Option Addr) (c0 : Nat) (l : List Rs) (A1 : Option Addr) (c1 : Nat) (ps : List Int) (f : Rs → Int) (prov t : Int) (w : World) (hr : Reads w w.heap.size 17 A0 l.length (flat Rs.cells l)) (hl1 : l.length ≤ 100000) (hr1 : Reads w w.heap.size 1 A1 ps.length (flat (ic .i64) ps)) (hps : ps = l.map f) :
  Calls Tryz.prog 81 #[.slice A0 l.length c0, .slice A1 ps.length c1, .int .i64 prov, .int .i64 t] w fun e w' => ∃ x : {b : Bool // b = true ↔ DtF f l prov t}, e = .returned (.bool x.1) ∧ Below w.heap.size w w' := by
 have hpl : ps.length = l.length := by rw [hps, List.length_map]
 refine begin_ (vs := [.slice A0 l.length c0, .slice A1 ps.length c1, .int .i64 prov, .int .i64 t]) Tryz.func81 rfl rfl rfl ?_ (Pm.start w)
 refine zSG (TL.as_ ?_)
 refine zET (zS (zSG (TL.mv ?_)))
 refine TL.v (gN Tryz.underlying23) ?_
 refine TL.mv ?_
 refine zET (zB ?_)
 refine TC.loop_ (α := {i : Nat // i ≤ l.length ∧ ∀ z ∈ l.take i, ¬ (dtA f prov t z ∧ ∃ b ∈ l, dtB f prov t z b)}) (fun y => [(0, .slice A0 l.length c0), (1, .slice A1 ps.length c1), (2, .int .i64 prov), (3, .int .i64 t), (13, .slice A0 l.length c0), (14, .int .i64 (l.length : Nat)), (15, .int .i64 ((y.1 : Nat) : Int))]) (fun y => Pm w []) (fun y => l.length - y.1) (⟨0, Nat.zero_le _, fun z hz => by rw [List.take_zero] at hz; cases hz⟩) ⟨rfl, rfl, rfl, rfl, rfl, rfl, rfl, trivial⟩ (fun w1 hw => hw) ?_
 rintro ⟨i, hi, hma⟩
 try dsimp only at hi hma ⊢
 refine zSG ?_
 refine TL.sp bin_lss (fun q16 => ?_) (fun q16 => ?_)
 ·refine zET (zS (zc (zk (zT (zS (zB (zSG (TL.mv ?_))))))))
  have hi18 : i < l.length := by omega
  obtain ⟨x18, hx18⟩ := ex_at hi18
  obtain ⟨b18, o18, hA18, hbb18, hc18⟩ := hr.ad (by omega) (by decide)
  refine TL.val rfl rfl rfl (gA (i := i) Tryz.underlying23 prssz65 rfl rfl rfl rfl hA18 (by omega)) ?_
  refine TL.v (gR rs_cel prsag65 prssz65 hbb18 hx18 hc18) ?_
  refine TL.pnew rfl rfl rfl (exec_alloc (cs := [.int .i64 0, .int .i64 0, .int .i64 0, .int .i64 0, .int .u32 0, .int .i64 0, .int .i64 0, .int .i64 0, .bool false, .bool false, .int .i64 0, .int .u32 0, .int .i64 0, .int .i64 0, .int .i64 0, .int .i64 0, .int .i64 0]) rfl arpzv65 rfl) (fun g10 => ?_)
  refine TL.as_ ?_
  refine TL.pstore (k := 0) (vs := x18.cells) rfl rfl rfl rfl rfl rfl rfl prssz65 (rs_cel.one _) (by show 17 ≤ 17; decide) (L' := [.blk g10 65 x18.cells]) rfl ?_
  refine zET (zS (zSG (TL.v (gF prsfld65_10) ?_)))
  refine TL.v (gL 0 pcmag3) ?_
  refine TL.mv ?_
  refine TL.sp bin_geq (fun q23 => ?_) (fun q23 => ?_)
  ·refine TL.rn 15 rfl (zET (zc (zx (zX (zM (zT (zG (TL.v (gD ((i + 1 : Nat) : Int)) ?_))))))))
   refine TL.mv ?_
   refine zE ?_
   exact TX.round (⟨i + 1, by omega, not_snoc hma hx18 (fun h => by have := h.1.1; omega)⟩) (by show l.length - (i + 1) < l.length - i; omega) ⟨rfl, rfl, rfl, rfl, rfl, rfl, rfl, trivial⟩ (fun w1 hw => hw.pick [] (by decide) rfl)
  refine TL.rn 3 rfl (TL.gu ?_)
  have hi27 : i < ps.length := by omega
  obtain ⟨x27, hx27⟩ := ex_at hi27
  obtain ⟨b27, o27, hA27, hbb27, hc27⟩ := hr1.ad (by omega) (by decide)
  refine TL.val rfl rfl rfl (gA (i := i) Tryz.underlying106 pcmsz3 rfl rfl rfl rfl hA27 (by omega)) ?_
  refine TL.gu ?_
  refine TL.val rfl rfl rfl (gives_load (v := .int .i64 x27) rfl rfl pcmag3 (fun w1 hw => (hw.bel.cell hbb27).trans <| flat_cell (ic_cel .i64) hx27 hc27 0 _ rfl)) ?_
  refine TL.gu ?_
  refine TL.sp bin_eql (fun q29 => ?_) (fun q29 => ?_)
  ·refine TL.rn 9 rfl (zET (zc (zx (zX (zM (zT (zG (TL.v (gD ((i + 1 : Nat) : Int)) ?_))))))))
   refine TL.mv ?_
   refine zE ?_
   exact TX.round (⟨i + 1, by omega, not_snoc hma hx18 (fun h => h.1.2.1 (by rw [← map_at hps hx18 hx27]; exact q29))⟩) (by show l.length - (i + 1) < l.length - i; omega) ⟨rfl, rfl, rfl, rfl, rfl, rfl, rfl, trivial⟩ (fun w1 hw => hw.pick [] (by decide) rfl)
  refine TL.rn 4 rfl (TL.gu ?_)
  refine TL.val rfl rfl rfl (gA (i := i) Tryz.underlying106 pcmsz3 rfl rfl rfl rfl hA27 (by omega)) ?_
  refine TL.gu ?_
  refine TL.val rfl rfl rfl (gives_load (v := .int .i64 x27) rfl rfl pcmag3 (fun w1 hw => (hw.bel.cell hbb27).trans <| flat_cell (ic_cel .i64) hx27 hc27 0 _ rfl)) ?_
  refine TL.rn 1 rfl (TL.gu ?_)
  refine TL.sp bin_eql (fun q37 => ?_) (fun q37 => ?_)
  ·refine TL.pk ?_
   refine zET (zc (zx (zX (zM (zT (zG (TL.v (gD ((i + 1 : Nat) : Int)) ?_)))))))
   refine TL.mv ?_
   refine zE ?_
   exact TX.round (⟨i + 1, by omega, not_snoc hma hx18 (fun h => h.1.2.2 (by rw [← map_at hps hx18 hx27]; exact q37))⟩) (by show l.length - (i + 1) < l.length - i; omega) ⟨rfl, rfl, rfl, rfl, rfl, rfl, rfl, trivial⟩ (fun w1 hw => hw.pick [] (by decide) rfl)
  refine TL.pk ?_
  refine zET (zd (zk (zT (zSG (TL.mv ?_)))))
  refine TL.v (gN Tryz.underlying23) ?_
  refine TL.mv ?_
  refine zET (zB ?_)
  refine TC.loop_ (α := {k : Nat // k ≤ l.length ∧ ∀ z ∈ l.take k, ¬ (dtB f prov t x18 z)}) (fun y => [(0, .slice A0 l.length c0), (1, .slice A1 ps.length c1), (2, .int .i64 prov), (3, .int .i64 t), (10, .pointer (some ⟨g10, 0, none⟩)), (13, .slice A0 l.length c0), (14, .int .i64 (l.length : Nat)), (15, .int .i64 ((i : Nat) : Int)), (39, .slice A0 l.length c0), (40, .int .i64 (l.length : Nat)), (41, .int .i64 ((y.1 : Nat) : Int))]) (fun y => Pm w [.blk g10 65 x18.cells]) (fun y => l.length - y.1) (⟨0, Nat.zero_le _, fun z hz => by rw [List.take_zero] at hz; cases hz⟩) ⟨rfl, rfl, rfl, rfl, rfl, rfl, rfl, rfl, rfl, rfl, rfl, trivial⟩ (fun w1 hw => hw) ?_
  rintro ⟨k, hk, hmb⟩
  try dsimp only at hk hmb ⊢
  refine zSG ?_
  refine TL.sp bin_lss (fun q42 => ?_) (fun q42 => ?_)
  ·refine zET (zS (zc (zk (zT (zS (zB (zSG (TL.mv ?_))))))))
   have hi44 : k < l.length := by omega
   obtain ⟨x44, hx44⟩ := ex_at hi44
   obtain ⟨b44, o44, hA44, hbb44, hc44⟩ := hr.ad (by omega) (by decide)
   refine TL.val rfl rfl rfl (gA (i := k) Tryz.underlying23 prssz65 rfl rfl rfl rfl hA44 (by omega)) ?_
   refine TL.v (gR rs_cel prsag65 prssz65 hbb44 hx44 hc44) ?_
   refine TL.pnew rfl rfl rfl (exec_alloc (cs := [.int .i64 0, .int .i64 0, .int .i64 0, .int .i64 0, .int .u32 0, .int .i64 0, .int .i64 0, .int .i64 0, .bool false, .bool false, .int .i64 0, .int .u32 0, .int .i64 0, .int .i64 0, .int .i64 0, .int .i64 0, .int .i64 0]) rfl arpzv65 rfl) (fun g12 => ?_)
   refine TL.as_ ?_
   refine TL.pstore (k := 0) (vs := x44.cells) rfl rfl rfl rfl rfl rfl rfl prssz65 (rs_cel.one _) (by show 17 ≤ 17; decide) (L' := [.blk g12 65 x44.cells, .blk g10 65 x18.cells]) rfl ?_
   refine zET (zSG (TL.v (gF prsfld65_3) ?_))
   refine TL.v (gL 0 pcmag3) ?_
   refine TL.mv ?_
   refine TL.sp bin_geq (fun q49 => ?_) (fun q49 => ?_)
   ·refine TL.rn 3 rfl (TL.gu ?_)
    have hi53 : k < ps.length := by omega
    obtain ⟨x53, hx53⟩ := ex_at hi53
    obtain ⟨b53, o53, hA53, hbb53, hc53⟩ := hr1.ad (by omega) (by decide)
    refine TL.val rfl rfl rfl (gA (i := k) Tryz.underlying106 pcmsz3 rfl rfl rfl rfl hA53 (by omega)) ?_
    refine TL.gu ?_
    refine TL.val rfl rfl rfl (gives_load (v := .int .i64 x53) rfl rfl pcmag3 (fun w1 hw => (hw.bel.cell hbb53).trans <| flat_cell (ic_cel .i64) hx53 hc53 0 _ rfl)) ?_
    refine TL.rn 1 rfl (TL.gu ?_)
    refine TL.sp bin_eql (fun q56 => ?_) (fun q56 => ?_)
    ·refine TL.rn 2 rfl (TL.ov (gF prsfld65_11) ?_)
     refine TL.ov (gF prsfld63_0) ?_
     refine TL.ov (gL 0 pcmag30) ?_
     refine TL.ov (gF prsfld65_11) ?_
     refine TL.ov (gF prsfld63_0) ?_
     refine TL.ov (gL 1 pcmag30) ?_
     refine TL.gu ?_
     refine TL.sp bin_neq (fun q65 => ?_) (fun q65 => ?_)
     ·refine TL.pk ?_
      refine zET (zc (zSG (TL.as_ ?_)))
      refine zET (zr (zRR (zR (TX.in_ret (zRR (zR (zRR ?_)))))))
      have hit : DtF f l prov t := ⟨x18, List.mem_of_getElem? hx18, ⟨by omega, by rw [← map_at hps hx18 hx27]; exact q29, by rw [← map_at hps hx18 hx27]; exact q37⟩, x44, List.mem_of_getElem? hx44, by omega, by rw [← map_at hps hx44 hx53]; exact q56, q65⟩
      exact ret_tmp Tryz.results81 rfl (fun w1 hw => ⟨⟨true, fun _ => hit, fun _ => rfl⟩, rfl, hw.bel⟩)
     refine TL.pk ?_
     refine zET (zd (zk (zN (zT (zG (TL.v (gD ((k + 1 : Nat) : Int)) ?_))))))
     refine TL.mv ?_
     refine zE ?_
     exact TX.round (⟨k + 1, by omega, not_snoc hmb hx44 (fun h => q65 h.2.2)⟩) (by show l.length - (k + 1) < l.length - k; omega) ⟨rfl, rfl, rfl, rfl, rfl, rfl, rfl, rfl, rfl, rfl, rfl, trivial⟩ (fun w1 hw => hw.pick [1] (by decide) rfl)
    refine TL.rn 10 rfl (zET (zd (zk (zN (zT (zG (TL.v (gD ((k + 1 : Nat) : Int)) ?_)))))))
    refine TL.mv ?_
    refine zE ?_
    exact TX.round (⟨k + 1, by omega, not_snoc hmb hx44 (fun h => q56 (by rw [map_at hps hx44 hx53]; exact h.2.1))⟩) (by show l.length - (k + 1) < l.length - k; omega) ⟨rfl, rfl, rfl, rfl, rfl, rfl, rfl, rfl, rfl, rfl, rfl, trivial⟩ (fun w1 hw => hw.pick [1] (by decide) rfl)
   refine TL.rn 17 rfl (zET (zd (zk (zN (zT (zG (TL.v (gD ((k + 1 : Nat) : Int)) ?_)))))))
   refine TL.mv ?_
   refine zE ?_
   exact TX.round (⟨k + 1, by omega, not_snoc hmb hx44 (fun h => by have := h.1; omega)⟩) (by show l.length - (k + 1) < l.length - k; omega) ⟨rfl, rfl, rfl, rfl, rfl, rfl, rfl, rfl, rfl, rfl, rfl, trivial⟩ (fun w1 hw => hw.pick [1] (by decide) rfl)
  refine zET (zS (zd (zx (zX (zX (zM (zN (zT (zG (TL.v (gD ((i + 1 : Nat) : Int)) ?_))))))))))
  refine TL.mv ?_
  refine zE ?_
  exact TX.round (⟨i + 1, by omega, not_snoc hma hx18 (fun h => by obtain ⟨_, b, hb, h2⟩ := h; rw [List.take_of_length_le (by omega)] at hmb; exact hmb b hb h2)⟩) (by show l.length - (i + 1) < l.length - i; omega) ⟨rfl, rfl, rfl, rfl, rfl, rfl, rfl, trivial⟩ (fun w1 hw => hw.pick [] (by decide) rfl)
 refine zET (zS (zd (zx (zX (zX (zM (zT (zSG (TL.as_ ?_)))))))))
 refine zET (zr ?_)
 have hno : ¬ DtF f l prov t := by
  rintro ⟨a, h1, h2⟩
  rw [List.take_of_length_le (by omega)] at hma
  exact hma a h1 h2
 exact ret_tmp Tryz.results81 rfl (fun w1 hw => ⟨⟨false, fun h => (by cases h), fun h => absurd h hno⟩, rfl, hw.bel⟩)
set_option maxRecDepth 20000
def DtP (es : List En) (l : List Rs) (p : Rp) : Prop := p.kind = 2 ∧ ∃ y, IsSt l p.trc p.flow y ∧ DtF (fun r : Rs => provR es r.src r.back) (atL y p.ttl) p.prov p.at_
theorem ad2fld34_1 (g o : Nat) (w : World) : (Instr.fieldAt 34 (.pointer (some ⟨g, o, none⟩)) 1).run Tryz.prog w = .ok (.pointer (some ⟨g, o + 1, none⟩)) w := by kernel_rfl
theorem ad2ag32 (w : World) : (isAgg 32).run Tryz.prog w = .ok true w := rfl
theorem ad2sz32 (w : World) : (sizeOf 32).run Tryz.prog w = .ok 3 w := rfl
theorem ad2fld34_2 (g o : Nat) (w : World) : (Instr.fieldAt 34 (.pointer (some ⟨g, o, none⟩)) 2).run Tryz.prog w = .ok (.pointer (some ⟨g, o + 4, none⟩)) w := by kernel_rfl
theorem ad2ag3 (w : World) : (isAgg 3).run Tryz.prog w = .ok false w := rfl
theorem ad2fld34_3 (g o : Nat) (w : World) : (Instr.fieldAt 34 (.pointer (some ⟨g, o, none⟩)) 3).run Tryz.prog w = .ok (.pointer (some ⟨g, o + 5, none⟩)) w := by kernel_rfl
theorem ad2nm73 : (Tryz.f73.name == "runtime.NumGoroutine") = false := by decide
theorem ad2bd73 : Tryz.f73.body.isNone = false := rfl
theorem ad2nm77 : (Tryz.f77.name == "runtime.NumGoroutine") = false := by decide
theorem ad2bd77 : Tryz.f77.body.isNone = false := rfl
theorem ad2fld34_0 (g o : Nat) (w : World) : (Instr.fieldAt 34 (.pointer (some ⟨g, o, none⟩)) 0).run Tryz.prog w = .ok (.pointer (some ⟨g, o + 0, none⟩)) w := by kernel_rfl
theorem ad2ag26 (w : World) : (isAgg 26).run Tryz.prog w = .ok true w := rfl
theorem ad2sz26 (w : World) : (sizeOf 26).run Tryz.prog w = .ok 1 w := rfl
theorem ad2fld34_5 (g o : Nat) (w : World) : (Instr.fieldAt 34 (.pointer (some ⟨g, o, none⟩)) 5).run Tryz.prog w = .ok (.pointer (some ⟨g, o + 7, none⟩)) w := by kernel_rfl
theorem ad2fld34_4 (g o : Nat) (w : World) : (Instr.fieldAt 34 (.pointer (some ⟨g, o, none⟩)) 4).run Tryz.prog w = .ok (.pointer (some ⟨g, o + 6, none⟩)) w := by kernel_rfl
theorem ad2nm82 : (Tryz.f82.name == "runtime.NumGoroutine") = false := by decide
theorem ad2bd82 : Tryz.f82.body.isNone = false := rfl
theorem ad2nm81 : (Tryz.f81.name == "runtime.NumGoroutine") = false := by decide
theorem ad2bd81 : Tryz.f81.body.isNone = false := rfl
theorem detour_any (A0 : Option Addr) (c0 : Nat) (l : List Rs) (A1 : Option Addr) (c1 : Nat) (es : List En) (p : Rp) (w : World) (hr : Reads w w.heap.size 17 A0 l.length (flat Rs.cells l)) (hl1 : l.length ≤ 100000) (hok : ∀ r ∈ l, r.Ok) (hr1 : Reads w w.heap.size 5 A1 es.length (flat En.cells es)) :
  Calls Tryz.prog 35 #[.slice A0 l.length c0, .agg #[.slice A1 es.length c1], .agg p.cells.toArray] w fun e w' => ∃ x : {b : Bool // b = true ↔ DtP es l p}, e = .returned (.bool x.1) ∧ Below w.heap.size w w' := by
 refine begin_ (vs := [.slice A0 l.length c0, .agg #[.slice A1 es.length c1], .agg p.cells.toArray]) Tryz.func35 rfl rfl rfl ?_ (Pm.start w)
 refine zSG ?_
 refine TL.pnew rfl rfl rfl (exec_box (cs := [.slice A1 es.length c1]) rfl rfl rfl) (fun g4 => ?_)
 refine TL.pnew rfl rfl rfl (exec_box (cs := p.cells) rfl rfl rfl) (fun g5 => ?_)
 refine TL.as_ ?_
 refine zET (zS (TC.held (ls := #[Ff,Ff,Ff,Ff,Ff,Ff,Ff,Ff,Ff,Ff]) (Pm w [.blk g5 34 p.cells, .blk g4 26 [.slice A1 es.length c1]]) (by kernel_rfl) rfl rfl (fun w hw => hw.drawn _) ?_))
 refine TH.tk 0 rfl rfl rfl (gives_move rfl rfl) (fun w1 hw => hw) ?_
 refine TH.tk 1 rfl rfl rfl (gF ad2fld34_1) (fun w1 hw => hw) ?_
 refine TH.tk 2 rfl rfl rfl (gV 0 (.agg #[.int .i64 p.v, .int .u32 p.dst, .int .i64 p.proto]) ad2ag32 ad2sz32) (fun w1 hw => hw) ?_
 refine TH.tk 3 rfl rfl rfl (gF ad2fld34_2) (fun w1 hw => hw) ?_
 refine TH.tk 4 rfl rfl rfl (gL 0 ad2ag3) (fun w1 hw => hw) ?_
 refine TH.tk 6 rfl rfl rfl (gF ad2fld34_3) (fun w1 hw => hw) ?_
 refine TH.tk 7 rfl rfl rfl (gL 0 ad2ag3) (fun w1 hw => hw) ?_
 refine TH.only' 5 rfl (by kernel_rfl) rfl ?_
 refine TL.pcallPm (α := {y : (Option Addr × Nat) × List Rs // IsSt l p.trc p.flow y.2 ∧ y.2.length ≤ y.1.2 ∧ y.1.2 ≤ maxLen}) (fun x => .slice x.1.1.1 x.1.2.length x.1.1.2) (fun x => [.row (.slice x.1.1.1 x.1.2.length x.1.1.2) 65 17 x.1.2.length (flat Rs.cells x.1.2)]) rfl rfl rfl rfl rfl Tryz.func73 ad2nm73 ad2bd73 (fun w1 hw => stream_any A0 c0 l p.trc p.flow w1 (hr.up hw.bel) hl1 hok) ?_
 rintro ⟨⟨⟨R13, rc13⟩, st13⟩, hP13, hR131, hR132⟩
 dsimp only [List.cons_append, List.nil_append]
 dsimp only at hP13 hR131 hR132 ⊢
 refine zE ?_
 refine TX.held (fun w1 hw => hw.pick [1, 2] (by decide) rfl) ?_
 refine TH.only' 8 rfl (by kernel_rfl) rfl ?_
 refine TL.pcallPm (α := {y : (Option Addr × Nat) × List Rs // y.2 = atL st13 p.ttl ∧ y.2.length ≤ y.1.2 ∧ y.1.2 ≤ maxLen}) (fun x => .slice x.1.1.1 x.1.2.length x.1.1.2) (fun x => [.row (.slice x.1.1.1 x.1.2.length x.1.1.2) 65 17 x.1.2.length (flat Rs.cells x.1.2)]) rfl rfl rfl rfl rfl Tryz.func77 ad2nm77 ad2bd77 (fun w1 hw => atl_any R13 rc13 st13 p.ttl w1 (pm_rd hw (k := 0) rfl) (by have := hP13.le; omega)) ?_
 rintro ⟨⟨⟨R16, rc16⟩, at16⟩, hP16, hR161, hR162⟩
 dsimp only [List.cons_append, List.nil_append]
 dsimp only at hP16 hR161 hR162 ⊢
 refine zE ?_
 refine TX.he (fun w1 hw => hw.pick [2, 3] (by decide) rfl) fun hS => ?_
 refine TH.t 9 rfl (gives_assign rfl rfl) hS ?_
 refine TH.done (by kernel_rfl) ?_
 refine zT (zS ?_)
 by_cases hk : p.kind = 2
 ·have hal : at16.length ≤ 100000 := by have := hP13.le; have := List.length_filter_le (fun r : Rs => r.ans && decide (r.ttl = p.ttl)) st13; rw [hP16]; unfold atL; omega
  refine TC.held (ls := #[Ff,Ff,Ff,Ff,Ff,Ff,Ff,Ff,Ff,Ff,Ff,Ff,Ff,Ff,Ff]) (Pm w [.blk g5 34 p.cells, .blk g4 26 [.slice A1 es.length c1]]) (by kernel_rfl) rfl rfl (fun w hw => hw.drawn _) ?_
  refine TH.tk 0 rfl rfl rfl (gF ad2fld34_0) (fun w1 hw => hw.pick [2, 3] (by decide) rfl) ?_
  refine TH.tk 1 rfl rfl rfl (gL 0 ad2ag3) (fun w1 hw => hw.pick [2, 3] (by decide) rfl) ?_
  refine TH.tk 2 rfl rfl rfl (gives_bin rfl rfl rfl (fun w => bin_eql_t (hk) w)) (fun w1 hw => hw.pick [2, 3] (by decide) rfl) ?_
  refine TH.tk 3 rfl rfl rfl (gives_move rfl rfl) (fun w1 hw => hw.pick [2, 3] (by decide) rfl) ?_
  refine TH.takeG 4 rfl (by kernel_rfl) (by kernel_rfl) (by kernel_rfl) rfl rfl rfl rfl rfl rfl (gives_move rfl rfl) (fun w1 hw => hw.pick [2, 3] (by decide) rfl) ?_
  refine TH.takeG 5 rfl (by kernel_rfl) (by kernel_rfl) (by kernel_rfl) rfl rfl rfl rfl rfl rfl (gives_move rfl rfl) (fun w1 hw => hw.pick [2, 3] (by decide) rfl) ?_
  refine TH.takeG 6 rfl (by kernel_rfl) (by kernel_rfl) (by kernel_rfl) rfl rfl rfl rfl rfl rfl (gV 1 (.agg #[.slice A1 es.length c1]) ad2ag26 ad2sz26) (fun w1 hw => hw.pick [2, 3] (by decide) rfl) ?_
  refine TH.takeG 8 rfl (by kernel_rfl) (by kernel_rfl) (by kernel_rfl) rfl rfl rfl rfl rfl rfl (gF ad2fld34_5) (fun w1 hw => hw.pick [2, 3] (by decide) rfl) ?_
  refine TH.takeG 9 rfl (by kernel_rfl) (by kernel_rfl) (by kernel_rfl) rfl rfl rfl rfl rfl rfl (gL 0 ad2ag3) (fun w1 hw => hw.pick [2, 3] (by decide) rfl) ?_
  refine TH.takeG 10 rfl (by kernel_rfl) (by kernel_rfl) (by kernel_rfl) rfl rfl rfl rfl rfl rfl (gF ad2fld34_4) (fun w1 hw => hw.pick [2, 3] (by decide) rfl) ?_
  refine TH.takeG 11 rfl (by kernel_rfl) (by kernel_rfl) (by kernel_rfl) rfl rfl rfl rfl rfl rfl (gL 0 ad2ag3) (fun w1 hw => hw.pick [2, 3] (by decide) rfl) ?_
  refine TH.only' 7 rfl (by kernel_rfl) rfl ?_
  refine TL.gu ?_
  refine TL.pcallPm (α := {y : (Option Addr × Nat) × List Int // y.2 = at16.map (fun r : Rs => provR es r.src r.back) ∧ y.2.length ≤ y.1.2 ∧ y.1.2 ≤ maxLen}) (fun x => .slice x.1.1.1 x.1.2.length x.1.1.2) (fun x => [.row (.slice x.1.1.1 x.1.2.length x.1.1.2) 3 1 x.1.2.length (flat (ic .i64) x.1.2)]) rfl rfl rfl rfl rfl Tryz.func82 ad2nm82 ad2bd82 (fun w1 hw => providers_any R16 rc16 at16 A1 c1 es w1 (pm_rd hw (k := 0) rfl) (by omega) (hr1.up hw.bel)) ?_
  rintro ⟨⟨⟨R24, rc24⟩, pv24⟩, hP24, hR241, hR242⟩
  dsimp only [List.cons_append, List.nil_append]
  dsimp only at hP24 hR241 hR242 ⊢
  refine zE ?_
  refine TX.held (fun w1 hw => hw.pick [3, 4] (by decide) rfl) ?_
  refine TH.only' 12 rfl (by kernel_rfl) rfl ?_
  refine TL.gu ?_
  refine TL.pcallPm (α := {b : Bool // b = true ↔ DtF (fun r : Rs => provR es r.src r.back) at16 p.prov p.at_}) (fun x => .bool x.1) (fun x => []) rfl rfl rfl rfl rfl Tryz.func81 ad2nm81 ad2bd81 (fun w1 hw => (detour_l R16 rc16 at16 R24 rc24 pv24 (fun r : Rs => provR es r.src r.back) p.prov p.at_ w1 (pm_rd hw (k := 1) rfl) (by omega) (pm_rd hw (k := 0) rfl) hP24).mono fun en w2 ⟨x, h1, h2⟩ => ⟨x, h1, (Pm.start w1).below h2⟩) ?_
  rintro ⟨bd, hbd⟩
  dsimp only [List.cons_append, List.nil_append]
  refine zE ?_
  refine TX.he (fun w1 hw => hw.pick [3, 4] (by decide) rfl) fun hS => ?_
  refine TH.t 13 rfl (gives_pick rfl rfl rfl) hS ?_
  refine TH.t 14 rfl (gives_assign rfl rfl) hS ?_
  refine TH.done (by kernel_rfl) ?_
  refine zT (zr ?_)
  exact ret_tmp Tryz.results35 rfl (fun w1 hw => ⟨⟨bd, hbd.trans ⟨fun h => ⟨hk, st13, hP13, by rw [← hP16]; exact h⟩, fun ⟨_, y, h1, h2⟩ => by rw [hP16, hP13.eq h1]; exact h2⟩⟩, rfl, hw.bel⟩)
 have hal : at16.length ≤ 100000 := by have := hP13.le; have := List.length_filter_le (fun r : Rs => r.ans && decide (r.ttl = p.ttl)) st13; rw [hP16]; unfold atL; omega
 refine TC.held (ls := #[Ff,Ff,Ff,Ff,Ff,Ff,Ff,Ff,Ff,Ff,Ff,Ff,Ff,Ff,Ff]) (Pm w [.blk g5 34 p.cells, .blk g4 26 [.slice A1 es.length c1]]) (by kernel_rfl) rfl rfl (fun w hw => hw.drawn _) ?_
 refine TH.tk 0 rfl rfl rfl (gF ad2fld34_0) (fun w1 hw => hw.pick [2, 3] (by decide) rfl) ?_
 refine TH.tk 1 rfl rfl rfl (gL 0 ad2ag3) (fun w1 hw => hw.pick [2, 3] (by decide) rfl) ?_
 refine TH.tk 2 rfl rfl rfl (gives_bin rfl rfl rfl (fun w => bin_eql_f (hk) w)) (fun w1 hw => hw.pick [2, 3] (by decide) rfl) ?_
 refine TH.tk 3 rfl rfl rfl (gives_move rfl rfl) (fun w1 hw => hw.pick [2, 3] (by decide) rfl) ?_
 refine TH.off 4 rfl (by kernel_rfl) (by kernel_rfl) (by kernel_rfl) rfl rfl rfl rfl rfl rfl rfl (fun w1 hw => hw.pick [2, 3] (by decide) rfl) ?_
 refine TH.off 5 rfl (by kernel_rfl) (by kernel_rfl) (by kernel_rfl) rfl rfl rfl rfl rfl rfl rfl (fun w1 hw => hw.pick [2, 3] (by decide) rfl) ?_
 refine TH.off 6 rfl (by kernel_rfl) (by kernel_rfl) (by kernel_rfl) rfl rfl rfl rfl rfl rfl rfl (fun w1 hw => hw.pick [2, 3] (by decide) rfl) ?_
 refine TH.off 7 rfl (by kernel_rfl) (by kernel_rfl) (by kernel_rfl) rfl rfl rfl rfl rfl rfl rfl (fun w1 hw => hw.pick [2, 3] (by decide) rfl) ?_
 refine TH.off 8 rfl (by kernel_rfl) (by kernel_rfl) (by kernel_rfl) rfl rfl rfl rfl rfl rfl rfl (fun w1 hw => hw.pick [2, 3] (by decide) rfl) ?_
 refine TH.off 9 rfl (by kernel_rfl) (by kernel_rfl) (by kernel_rfl) rfl rfl rfl rfl rfl rfl rfl (fun w1 hw => hw.pick [2, 3] (by decide) rfl) ?_
 refine TH.off 10 rfl (by kernel_rfl) (by kernel_rfl) (by kernel_rfl) rfl rfl rfl rfl rfl rfl rfl (fun w1 hw => hw.pick [2, 3] (by decide) rfl) ?_
 refine TH.off 11 rfl (by kernel_rfl) (by kernel_rfl) (by kernel_rfl) rfl rfl rfl rfl rfl rfl rfl (fun w1 hw => hw.pick [2, 3] (by decide) rfl) ?_
 refine TH.off 12 rfl (by kernel_rfl) (by kernel_rfl) (by kernel_rfl) rfl rfl rfl rfl rfl rfl rfl (fun w1 hw => hw.pick [2, 3] (by decide) rfl) ?_
 refine TH.tk 13 rfl rfl rfl (gives_pick rfl rfl rfl) (fun w1 hw => hw.pick [2, 3] (by decide) rfl) ?_
 refine TH.tk 14 rfl rfl rfl (gives_assign rfl rfl) (fun w1 hw => hw.pick [2, 3] (by decide) rfl) ?_
 refine TH.done (by kernel_rfl) ?_
 refine zT (zr ?_)
 exact ret_tmp Tryz.results35 rfl (fun w1 hw => ⟨⟨false, by simp [DtP, hk]⟩, rfl, hw.bel⟩)
open Go Go.RowKit Go.Shelf Go.Sort
def SortedI (l l' : List Int) : Prop := l'.Perm l ∧ l'.Pairwise (· ≤ ·)
theorem sortInt {b n cap : Nat} {A : Option Addr} {l : List Int} {w : World} (hr : w.ownsRow b 3 1 (.slice A n cap) n (flat (ic .i64) l)) (hl : l.length = n) (hn : n ≤ 1000000) :
    Calls Tryz.prog 124 #[.slice A n cap] w fun en w' => en = .returned (.tuple #[]) ∧ ∃ l', SortedI l l' ∧ w'.ownsRow b 3 1 (.slice A n cap) n (flat (ic .i64) l') ∧ w.grownBy w' (Value.ownBlock (.slice A n cap)) := by
  rcases id hr.2 with ⟨hv, h0⟩ | ⟨q, cap', cur, hv, hb, hq, h1, h2, h3, h4⟩
  · cases hv
    obtain rfl : l = [] := List.eq_nil_of_length_eq_zero (by omega)
    refine (AnyM.slices_Sort_int_none sortLay none 0 w).mono fun en w' ⟨h5, h6⟩ => ⟨h5, [], ⟨List.Perm.refl _, List.Pairwise.nil⟩, ?_, ?_⟩
    · rw [h6]; exact hr
    · rw [h6]; exact ⟨rfl, rfl, rfl, Nat.le_refl _, fun _ _ _ => rfl⟩
  · cases hv
    subst hl
    have hqs : q < w.heap.size := (Array.getElem?_eq_some_iff.1 hq).1
    rw [flat_ic, Nat.mul_one] at h4
    have hc := AnyM.slices_Sort_int sortLay q 0 cap l w (holds_of_blockI hq h4) hqs (by omega)
    refine Calls.mono hc ?_
    rintro en w' ⟨h5, m, os, hw⟩
    have hlen : (l.mergeSort fun x y => decide (x ≤ y)).length = l.length := List.length_mergeSort l
    refine ⟨h5, l.mergeSort fun x y => decide (x ≤ y), ⟨List.mergeSort_perm _ _, ?_⟩, ?_, ?_⟩
    · have := List.pairwise_mergeSort (le := fun x y : Int => decide (x ≤ y)) (fun a b c h1 h2 => by simp only [decide_eq_true_eq] at *; exact Int.le_trans h1 h2) (fun a b => by simp only [Bool.or_eq_true, decide_eq_true_eq]; exact Int.le_total a b) l
      exact this.imp fun h => of_decide_eq_true h
    · rw [hw, flat_ic]
      exact ownsRow_sortedI hlen hb hq h1 h2 h3
    · rw [hw]; exact grownBy_sortedI _
def eaL (l : List Rs) (t : Int) : List Int := (l.filter fun r => decide (r.back < t)).map fun r => r.back - r.at_
def laL (l : List Rs) (t : Int) : List Int := (l.filter fun r => !decide (r.back < t) && decide (t ≤ r.at_)).map fun r => r.back - r.at_
section
variable {l : List Rs} {t : Int} {i : Nat} {x : Rs} {o : List Int}
theorem ea_t (hx : l[i]? = some x) (h : x.back < t) (ho : eaL (l.take i) t = o) : eaL (l.take (i + 1)) t = o ++ [x.back - x.at_] := by
  unfold eaL at ho ⊢
  rw [List.take_add_one, hx, List.filter_append, List.map_append, ho]
  simp [h]
theorem ea_f (hx : l[i]? = some x) (h : ¬ x.back < t) (ho : eaL (l.take i) t = o) : eaL (l.take (i + 1)) t = o := by
  unfold eaL at ho ⊢
  rw [List.take_add_one, hx, List.filter_append, List.map_append, ho]
  simp [h]
theorem la_t (hx : l[i]? = some x) (h : ¬ x.back < t) (h2 : x.at_ ≥ t) (ho : laL (l.take i) t = o) : laL (l.take (i + 1)) t = o ++ [x.back - x.at_] := by
  unfold laL at ho ⊢
  rw [List.take_add_one, hx, List.filter_append, List.map_append, ho]
  have : t ≤ x.at_ := h2
  simp [h, this]
theorem la_f (hx : l[i]? = some x) (h : x.back < t ∨ ¬ x.at_ ≥ t) (ho : laL (l.take i) t = o) : laL (l.take (i + 1)) t = o := by
  unfold laL at ho ⊢
  rw [List.take_add_one, hx, List.filter_append, List.map_append, ho]
  rcases h with h | h
  · simp [h]
  · have : ¬ t ≤ x.at_ := h
    simp [this]
theorem ea_mem {z : Int} (h : z ∈ eaL l t) : ∃ r ∈ l, z = r.back - r.at_ := by
  obtain ⟨r, hr, rfl⟩ := List.mem_map.1 h
  exact ⟨r, (List.mem_filter.1 hr).1, rfl⟩
theorem la_mem {z : Int} (h : z ∈ laL l t) : ∃ r ∈ l, z = r.back - r.at_ := by
  obtain ⟨r, hr, rfl⟩ := List.mem_map.1 h
  exact ⟨r, (List.mem_filter.1 hr).1, rfl⟩
end
theorem cnt_low {s : List Int} (hs : s.Pairwise (· ≤ ·)) {k : Nat} {v e : Int} (hv : s[k]? = some v) : k + 1 ≤ (s.filter fun z => decide (z ≤ e)).length ↔ v ≤ e := by
  obtain ⟨hk, hg⟩ := List.getElem?_eq_some_iff.1 hv
  have hsp : (s.filter fun z => decide (z ≤ e)) = ((s.take k).filter fun z => decide (z ≤ e)) ++ ((s.drop k).filter fun z => decide (z ≤ e)) := by rw [← List.filter_append, List.take_append_drop]
  have hd : s.drop k = v :: s.drop (k + 1) := by rw [List.drop_eq_getElem_cons hk, hg]
  have hp := List.pairwise_append.1 (by rw [List.take_append_drop]; exact hs : (s.take k ++ s.drop k).Pairwise (· ≤ ·))
  constructor
  · intro h
    refine Decidable.by_contra fun hn => ?_
    have h0 : ((s.drop k).filter fun z => decide (z ≤ e)) = [] := List.filter_eq_nil_iff.2 fun z hz => by
      rw [hd] at hz
      have : v ≤ z := by
        rcases List.mem_cons.1 hz with h1 | h1
        · rw [h1]; exact Int.le_refl _
        · have := hp.2.1
          rw [hd] at this
          exact (List.pairwise_cons.1 this).1 z h1
      simp; omega
    have h1 := List.length_filter_le (fun z => decide (z ≤ e)) (s.take k)
    rw [hsp, h0, List.append_nil] at h
    rw [List.length_take] at h1
    omega
  · intro h
    have h0 : ((s.take k).filter fun z => decide (z ≤ e)) = s.take k := List.filter_eq_self.2 fun z hz => by
      have := hp.2.2 z hz v (by rw [hd]; exact List.mem_cons_self)
      simp; omega
    rw [hsp, h0, hd, List.filter_cons_of_pos (by simpa using h), List.length_append, List.length_take, List.length_cons]
    omega
theorem cnt_high {s : List Int} (hs : s.Pairwise (· ≤ ·)) {k : Nat} {v e : Int} (hv : s[k]? = some v) : s.length - k ≤ (s.filter fun z => decide (e ≤ z)).length ↔ e ≤ v := by
  obtain ⟨hk, hg⟩ := List.getElem?_eq_some_iff.1 hv
  have hsp : (s.filter fun z => decide (e ≤ z)) = ((s.take (k + 1)).filter fun z => decide (e ≤ z)) ++ ((s.drop (k + 1)).filter fun z => decide (e ≤ z)) := by rw [← List.filter_append, List.take_append_drop]
  have ht : s.take (k + 1) = s.take k ++ [v] := by rw [List.take_add_one, hv]; rfl
  have hp := List.pairwise_append.1 (by rw [List.take_append_drop]; exact hs : (s.take (k + 1) ++ s.drop (k + 1)).Pairwise (· ≤ ·))
  constructor
  · intro h
    refine Decidable.by_contra fun hn => ?_
    have h0 : ((s.take (k + 1)).filter fun z => decide (e ≤ z)) = [] := List.filter_eq_nil_iff.2 fun z hz => by
      have : z ≤ v := by
        rw [ht] at hz
        rcases List.mem_append.1 hz with h1 | h1
        · have := hp.1
          rw [ht] at this
          exact (List.pairwise_append.1 this).2.2 z h1 v (List.mem_singleton.2 rfl)
        · rw [List.mem_singleton.1 h1]; exact Int.le_refl _
      simp; omega
    have h1 := List.length_filter_le (fun z => decide (e ≤ z)) (s.drop (k + 1))
    rw [hsp, h0, List.nil_append] at h
    rw [List.length_drop] at h1
    omega
  · intro h
    have h0 : ((s.drop (k + 1)).filter fun z => decide (e ≤ z)) = s.drop (k + 1) := List.filter_eq_self.2 fun z hz => by
      have := hp.2.2 v (by rw [ht]; exact List.mem_append_right _ (List.mem_singleton.2 rfl)) z hz
      simp; omega
    rw [hsp, h0, ht, List.filter_append, List.filter_cons_of_pos (by simpa using h), List.length_append, List.length_append, List.length_drop, List.length_cons]
    omega
def CgF (ea la : List Int) (prb gro : Int) : Prop := ∃ e ∈ ea, prb ≤ ((ea.filter fun z => decide (z ≤ e)).length : Int) ∧ prb ≤ ((la.filter fun z => decide (gro ≤ z - e)).length : Int)
theorem cg_short {ea la : List Int} {prb gro : Int} (h : (ea.length : Int) < prb ∨ (la.length : Int) < prb) : ¬ CgF ea la prb gro := by
  rintro ⟨e, _, h1, h2⟩
  have h3 := List.length_filter_le (fun z => decide (z ≤ e)) ea
  have h4 := List.length_filter_le (fun z => decide (gro ≤ z - e)) la
  omega
theorem cg_iff {ea la sE sL : List Int} {K : Nat} {prb gro e0 b0 : Int} (hE : SortedI ea sE) (hL : SortedI la sL) (hK : prb = K) (h1 : 1 ≤ K) (h2 : K ≤ la.length) (he : sE[K - 1]? = some e0) (hb : sL[la.length - K]? = some b0) : CgF ea la prb gro ↔ b0 - e0 ≥ gro := by
  subst hK
  have hlE : ∀ e, (ea.filter fun z => decide (z ≤ e)).length = (sE.filter fun z => decide (z ≤ e)).length := fun e => ((hE.1.filter _).length_eq).symm
  have hf : ∀ e, (la.filter fun z => decide (gro ≤ z - e)).length = (sL.filter fun z => decide (gro + e ≤ z)).length := fun e => by
    rw [← (hL.1.filter _).length_eq]
    congr 2; funext z; congr 1; rw [eq_iff_iff]; omega
  have hn : sL.length = la.length := hL.1.length_eq
  have hi : ∀ e, K ≤ (sE.filter fun z => decide (z ≤ e)).length ↔ e0 ≤ e := fun e => by
    have := cnt_low hE.2 (e := e) he
    rw [show K - 1 + 1 = K by omega] at this; exact this
  have hj : ∀ e, K ≤ (sL.filter fun z => decide (gro + e ≤ z)).length ↔ gro + e ≤ b0 := fun e => by
    have := cnt_high hL.2 (e := gro + e) hb
    rw [hn, show la.length - (la.length - K) = K by omega] at this; exact this
  constructor
  · rintro ⟨e, _, h3, h4⟩
    rw [hlE] at h3
    rw [hf] at h4
    have := (hi e).1 (by omega)
    have := (hj e).1 (by omega)
    omega
  · intro h
    refine ⟨e0, hE.1.mem_iff.1 (List.mem_of_getElem? he), ?_, ?_⟩
    · rw [hlE]; have := (hi e0).2 (Int.le_refl _); omega
    · rw [hf]; have := (hj e0).2 (by omega); omega
set_option maxRecDepth 20000
theorem congestion_l (A0 : Option Addr) (c0 : Nat) (l : List Rs) (u : Ru) (t : Int) (w : World) (hr : Reads w w.heap.size 17 A0 l.length (flat Rs.cells l)) (hl1 : l.length ≤ 100000) (hin : ∀ r ∈ l, r.inRange) :
  Calls Tryz.prog 76 #[.slice A0 l.length c0, .agg u.cells.toArray, .int .i64 t] w fun e w' => ∃ x : {b : Bool // b = true ↔ u.prb < 1 ∨ CgF (eaL l t) (laL l t) u.prb u.gro}, e = .returned (.bool x.1) ∧ Below w.heap.size w w' := by
 refine begin_ (vs := [.slice A0 l.length c0, .agg u.cells.toArray, .int .i64 t]) Tryz.func76 rfl rfl rfl ?_ (Pm.start w)
 refine zSG ?_
 refine TL.pnew rfl rfl rfl (exec_box (cs := u.cells) rfl rfl rfl) (fun g4 => ?_)
 refine TL.as_ ?_
 refine zET (zS (zSG (TL.v (gF arpfld28_2) ?_)))
 refine TL.v (gL 0 pcmag3) ?_
 refine TL.sp bin_lss (fun q13 => ?_) (fun q13 => ?_)
 ·refine zET (zc (zSG (TL.as_ ?_)))
  refine zET (zr (zR ?_))
  have hres : true = true ↔ u.prb < 1 ∨ CgF (eaL l t) (laL l t) u.prb u.gro := ⟨fun _ => .inl q13, fun _ => rfl⟩
  exact ret_tmp Tryz.results76 rfl (fun w1 hw => ⟨⟨true, hres⟩, rfl, hw.bel⟩)
 refine zET (zd (zk (zT (zSG (TL.rn 2 rfl (zET (zS (zSG (TL.mv ?_)))))))))
 refine TL.v (gN Tryz.underlying23) ?_
 refine TL.mv ?_
 refine zET (zB (TC.nilrow 3 1 ?_))
 refine TC.nilrow 3 1 ?_
 refine TC.loop_ (α := {y : Nat × (Option Addr × Nat) × (Option Addr × Nat) × List Int × List Int // y.1 ≤ l.length ∧ eaL (l.take y.1) t = y.2.2.2.1 ∧ laL (l.take y.1) t = y.2.2.2.2 ∧ y.2.2.2.1.length ≤ y.1 ∧ y.2.2.2.2.length ≤ y.1 ∧ y.2.2.2.1.length ≤ y.2.1.2 ∧ y.2.1.2 ≤ maxLen ∧ y.2.2.2.2.length ≤ y.2.2.1.2 ∧ y.2.2.1.2 ≤ maxLen}) (fun y => [(2, .int .i64 t), (4, .pointer (some ⟨g4, 0, none⟩)), (14, .slice A0 l.length c0), (15, .int .i64 (l.length : Nat)), (16, .int .i64 ((y.1.1 : Nat) : Int)), (7, .slice y.1.2.1.1 y.1.2.2.2.1.length y.1.2.1.2), (8, .slice y.1.2.2.1.1 y.1.2.2.2.2.length y.1.2.2.1.2)]) (fun y => Pm w [.row (.slice y.1.2.1.1 y.1.2.2.2.1.length y.1.2.1.2) 3 1 y.1.2.2.2.1.length (flat (ic .i64) y.1.2.2.2.1), .row (.slice y.1.2.2.1.1 y.1.2.2.2.2.length y.1.2.2.1.2) 3 1 y.1.2.2.2.2.length (flat (ic .i64) y.1.2.2.2.2), .blk g4 28 u.cells]) (fun y => l.length - y.1.1) (⟨(0, (none, 0), (none, 0), [], []), Nat.zero_le _, rfl, rfl, Nat.le_refl _, Nat.le_refl _, Nat.le_refl _, Nat.zero_le _, Nat.le_refl _, Nat.zero_le _⟩) ⟨rfl, rfl, rfl, rfl, rfl, rfl, rfl, trivial⟩ (fun w1 hw => hw) ?_
 rintro ⟨⟨i, ⟨Ae, ce⟩, ⟨Al, cl⟩, ea, la⟩, hi, hE, hL, hel, hll, hc1, hc2, hc3, hc4⟩
 dsimp only at hi hE hL hel hll hc1 hc2 hc3 hc4 ⊢
 refine zSG ?_
 refine TL.sp bin_lss (fun q17 => ?_) (fun q17 => ?_)
 ·refine zET (zS (zc (zk (zT (zS (zB (zSG ?_)))))))
  have hi18 : i < l.length := by omega
  obtain ⟨x18, hx18⟩ := ex_at hi18
  obtain ⟨b18, o18, hA18, hbb18, hc18⟩ := hr.ad (by omega) (by decide)
  have hin18 := hin x18 (List.mem_of_getElem? hx18)
  unfold Rs.inRange at hin18
  refine TL.val rfl rfl rfl (gA (i := i) Tryz.underlying23 prssz65 rfl rfl rfl rfl hA18 (by omega)) ?_
  refine TL.v (gR rs_cel prsag65 prssz65 hbb18 hx18 hc18) ?_
  refine TL.pnew rfl rfl rfl (exec_alloc (cs := [.int .i64 0, .int .i64 0, .int .i64 0, .int .i64 0, .int .u32 0, .int .i64 0, .int .i64 0, .int .i64 0, .bool false, .bool false, .int .i64 0, .int .u32 0, .int .i64 0, .int .i64 0, .int .i64 0, .int .i64 0, .int .i64 0]) rfl arpzv65 rfl) (fun g10 => ?_)
  refine TL.pstore (k := 0) (vs := x18.cells) rfl rfl rfl rfl rfl rfl rfl prssz65 (rs_cel.one _) (by show 17 ≤ 17; decide) (L' := [.blk g10 65 x18.cells, .row (.slice Ae ea.length ce) 3 1 ea.length (flat (ic .i64) ea), .row (.slice Al la.length cl) 3 1 la.length (flat (ic .i64) la), .blk g4 28 u.cells]) rfl ?_
  refine zET (zB (zSG (TL.v (gF prsfld65_10) ?_)))
  refine TL.v (gL 0 pcmag3) ?_
  refine TL.mv ?_
  refine TL.sp bin_lss (fun q24 => ?_) (fun q24 => ?_)
  ·refine TL.as_ ?_
   refine zET (zc (zG (TL.mv ?_)))
   refine TL.v (gF prsfld65_10) ?_
   refine TL.v (gL 0 pcmag3) ?_
   refine TL.v (gF prsfld65_3) ?_
   refine TL.v (gL 0 pcmag3) ?_
   refine TL.val rfl rfl rfl (gives_bin rfl rfl rfl (fun w => bin_sub_ (r := x18.back - x18.at_) (by simp only [IntKind.wrap_i64]; omega) w)) ?_
   refine TL.prowS (e := 3) (size := 1) (cs := flat (ic .i64) [x18.back - x18.at_]) rfl rfl rfl rfl rfl (fun w => adtbs106_1_5377 _ w) (by decide) rfl (fun g31 => ?_)
   refine TL.appendT (k := 2) rfl rfl rfl rfl Tryz.underlying106 adtel106 rfl rfl rfl (fun w1 hw => pm_reads hw (k := 0) rfl) (flat_one (ic_cel .i64) _) (by show _ * 8 ≤ _; omega) ((ea ++ [x18.back - x18.at_]).length) (by rw [List.length_append]; rfl) (flat (ic .i64) (ea ++ [x18.back - x18.at_])) ((flat_app _ _).symm) (fun A32 c32 hA321 hA322 => ?_)
   refine TL.as_ ?_
   refine zE (zN (zN (zT (zG (TL.v (gD ((i + 1 : Nat) : Int)) ?_)))))
   refine TL.mv ?_
   refine zE ?_
   exact TX.round (⟨(i + 1, (A32, c32), (Al, cl), ea ++ [x18.back - x18.at_], la), by dsimp only; omega, ea_t hx18 q24 hE, la_f hx18 (.inl q24) hL, by dsimp only; rw [List.length_append]; show ea.length + 1 ≤ _; omega, by dsimp only; omega, hA321, hA322, hc3, hc4⟩) (by show l.length - (i + 1) < l.length - i; omega) ⟨rfl, rfl, rfl, rfl, rfl, rfl, rfl, trivial⟩ (fun w1 hw => hw.pick [2, 3, 4] (by decide) rfl)
  refine TL.as_ ?_
  refine zET (zd (zSG (TL.v (gF prsfld65_3) ?_)))
  refine TL.v (gL 0 pcmag3) ?_
  refine TL.mv ?_
  refine TL.sp bin_geq (fun q37 => ?_) (fun q37 => ?_)
  ·refine TL.as_ ?_
   refine zET (zc (zG (TL.mv ?_)))
   refine TL.v (gF prsfld65_10) ?_
   refine TL.v (gL 0 pcmag3) ?_
   refine TL.v (gF prsfld65_3) ?_
   refine TL.v (gL 0 pcmag3) ?_
   refine TL.val rfl rfl rfl (gives_bin rfl rfl rfl (fun w => bin_sub_ (r := x18.back - x18.at_) (by simp only [IntKind.wrap_i64]; omega) w)) ?_
   refine TL.prowS (e := 3) (size := 1) (cs := flat (ic .i64) [x18.back - x18.at_]) rfl rfl rfl rfl rfl (fun w => adtbs106_1_5377 _ w) (by decide) rfl (fun g44 => ?_)
   refine TL.appendT (k := 3) rfl rfl rfl rfl Tryz.underlying106 adtel106 rfl rfl rfl (fun w1 hw => pm_reads hw (k := 0) rfl) (flat_one (ic_cel .i64) _) (by show _ * 8 ≤ _; omega) ((la ++ [x18.back - x18.at_]).length) (by rw [List.length_append]; rfl) (flat (ic .i64) (la ++ [x18.back - x18.at_])) ((flat_app _ _).symm) (fun A45 c45 hA451 hA452 => ?_)
   refine TL.as_ ?_
   refine zE (zN (zN (zT (zG (TL.v (gD ((i + 1 : Nat) : Int)) ?_)))))
   refine TL.mv ?_
   refine zE ?_
   exact TX.round (⟨(i + 1, (Ae, ce), (A45, c45), ea, la ++ [x18.back - x18.at_]), by dsimp only; omega, ea_f hx18 q24 hE, la_t hx18 q24 q37 hL, by dsimp only; omega, by dsimp only; rw [List.length_append]; show la.length + 1 ≤ _; omega, hc1, hc2, hA451, hA452⟩) (by show l.length - (i + 1) < l.length - i; omega) ⟨rfl, rfl, rfl, rfl, rfl, rfl, rfl, trivial⟩ (fun w1 hw => hw.pick [2, 3, 4] (by decide) rfl)
  refine TL.as_ ?_
  refine zET (zd (zk (zN (zN (zT (zG (TL.v (gD ((i + 1 : Nat) : Int)) ?_)))))))
  refine TL.mv ?_
  refine zE ?_
  exact TX.round (⟨(i + 1, (Ae, ce), (Al, cl), ea, la), by dsimp only; omega, ea_f hx18 q24 hE, la_f hx18 (.inr q37) hL, by dsimp only; omega, by dsimp only; omega, hc1, hc2, hc3, hc4⟩) (by show l.length - (i + 1) < l.length - i; omega) ⟨rfl, rfl, rfl, rfl, rfl, rfl, rfl, trivial⟩ (fun w1 hw => hw.pick [1, 2, 3] (by decide) rfl)
 refine zET (zS (zd (zx (zX (zX (zM (zT (zS (zS ?_)))))))))
 have hE2 : eaL l t = ea := by rw [List.take_of_length_le (by omega)] at hE; exact hE
 have hL2 : laL l t = la := by rw [List.take_of_length_le (by omega)] at hL; exact hL
 refine zG (TL.mv ?_)
 refine TL.v (gN Tryz.underlying106) ?_
 refine TL.v (gF arpfld28_2) ?_
 refine TL.v (gL 2 pcmag3) ?_
 refine TL.sp bin_lss (fun q51 => ?_) (fun q51 => ?_)
 ·refine TL.rn 7 rfl (zET (zc (zSG (TL.as_ ?_))))
  refine zET (zr (zR ?_))
  have hres : false = true ↔ u.prb < 1 ∨ CgF (eaL l t) (laL l t) u.prb u.gro := ⟨fun h => (by cases h), fun h => absurd h (by rintro (h | h); exact q13 h; rw [hE2, hL2] at h; exact cg_short (by omega) h)⟩
  exact ret_tmp Tryz.results76 rfl (fun w1 hw => ⟨⟨false, hres⟩, rfl, hw.bel⟩)
 refine TL.rn 2 rfl (TL.ov (gN Tryz.underlying106) ?_)
 refine TL.ov (gF arpfld28_2) ?_
 refine TL.ov (gL 2 pcmag3) ?_
 refine TL.gu ?_
 refine TL.sp bin_lss (fun q57 => ?_) (fun q57 => ?_)
 ·refine TL.pk ?_
  refine zET (zc (zSG (TL.as_ ?_)))
  refine zET (zr (zR ?_))
  have hres : false = true ↔ u.prb < 1 ∨ CgF (eaL l t) (laL l t) u.prb u.gro := ⟨fun h => (by cases h), fun h => absurd h (by rintro (h | h); exact q13 h; rw [hE2, hL2] at h; exact cg_short (by omega) h)⟩
  exact ret_tmp Tryz.results76 rfl (fun w1 hw => ⟨⟨false, hres⟩, rfl, hw.bel⟩)
 refine TL.pk ?_
 refine zET (zd (zk (zT (zSG (TL.mv ?_)))))
 refine TL.turnRowD (k := 0) (fun ys => SortedI ea ys) rfl rfl rfl rfl rfl Tryz.func124 (by decide) rfl rfl (fun w1 hw hr9 => sortInt hr9 rfl (by omega)) (fun sE hsE => ?_)
 try dsimp only [List.set_cons_zero, List.set_cons_succ]
 have hsEl : sE.length = ea.length := hsE.1.length_eq
 refine zET (zSG (TL.mv ?_))
 refine TL.turnRowD (k := 1) (fun ys => SortedI la ys) rfl rfl rfl rfl rfl Tryz.func124 (by decide) rfl rfl (fun w1 hw hr9 => sortInt hr9 rfl (by omega)) (fun sL hsL => ?_)
 try dsimp only [List.set_cons_zero, List.set_cons_succ]
 have hsLl : sL.length = la.length := hsL.1.length_eq
 refine zET (zS ?_)
 obtain ⟨K, hK⟩ : ∃ K : Nat, u.prb = K := ⟨u.prb.toNat, by omega⟩
 have hbsE : ∀ z ∈ sE, 0 ≤ z ∧ z ≤ 2251799813685248 := fun z hz => by
  obtain ⟨r, hr1, rfl⟩ := ea_mem (by rw [hE2]; exact hsE.1.mem_iff.1 hz)
  have := hin r hr1
  unfold Rs.inRange at this
  omega
 have hbsL : ∀ z ∈ sL, 0 ≤ z ∧ z ≤ 2251799813685248 := fun z hz => by
  obtain ⟨r, hr1, rfl⟩ := la_mem (by rw [hL2]; exact hsL.1.mem_iff.1 hz)
  have := hin r hr1
  unfold Rs.inRange at this
  omega
 refine TC.fact (p := ∃ g, Al = some ⟨g, 0, none⟩) (fun w1 hw => rowA hw (k := 1) rfl (by omega)) ?_
 rintro ⟨g_Al, rfl⟩
 refine TC.fact (p := ∃ g, Ae = some ⟨g, 0, none⟩) (fun w1 hw => rowA hw (k := 0) rfl (by omega)) ?_
 rintro ⟨g_Ae, rfl⟩
 refine TC.quietQ (by kernel_rfl) (by kernel_rfl) (fun w hw => hw.drawn _) ?_
 refine TQ.rn 2 rfl (TQ.v (gN Tryz.underlying106) ?_)
 refine TQ.v (gF arpfld28_2) ?_
 refine TQ.v (gL 2 pcmag3) ?_
 refine TQ.val rfl rfl rfl (gives_bin rfl rfl rfl (fun w => bin_sub_ (r := ((la.length - K : Nat) : Int)) (by simp only [IntKind.wrap_i64]; omega) w)) ?_
 have hi69 : la.length - K < sL.length := by omega
 obtain ⟨x69, hx69⟩ := ex_at hi69
 have hvx69 := hbsL x69 (List.mem_of_getElem? hx69)
 refine TQ.val rfl rfl rfl (gA (i := (la.length - K)) Tryz.underlying106 pcmsz3 rfl rfl rfl rfl rfl (by omega)) ?_
 refine TQ.val rfl rfl rfl (gives_load (v := .int .i64 x69) rfl rfl pcmag3 (fun w1 hw => flat_row (ic_cel .i64) hw (q := 1) rfl hx69 0 _ rfl)) ?_
 refine TQ.val rfl rfl rfl (gives_move rfl rfl) ?_
 refine TQ.v (gF arpfld28_2) ?_
 refine TQ.v (gL 2 pcmag3) ?_
 refine TQ.val rfl rfl rfl (gives_bin rfl rfl rfl (fun w => bin_sub_ (r := ((K - 1 : Nat) : Int)) (by simp only [IntKind.wrap_i64]; omega) w)) ?_
 have hi75 : K - 1 < sE.length := by omega
 obtain ⟨x75, hx75⟩ := ex_at hi75
 have hvx75 := hbsE x75 (List.mem_of_getElem? hx75)
 refine TQ.val rfl rfl rfl (gA (i := (K - 1)) Tryz.underlying106 pcmsz3 rfl rfl rfl rfl rfl (by omega)) ?_
 refine TQ.val rfl rfl rfl (gives_load (v := .int .i64 x75) rfl rfl pcmag3 (fun w1 hw => flat_row (ic_cel .i64) hw (q := 0) rfl hx75 0 _ rfl)) ?_
 refine TQ.val rfl rfl rfl (gives_bin rfl rfl rfl (fun w => bin_sub_ (r := x69 - x75) (by simp only [IntKind.wrap_i64]; omega) w)) ?_
 refine TQ.v (gF arpfld28_1) ?_
 refine TQ.v (gL 2 pcmag3) ?_
 refine TQ.sp bin_geq (fun q80 => ?_) (fun q80 => ?_)
 ·refine TQ.val rfl rfl rfl (gives_assign rfl rfl) ?_
  refine TQ.fin ?_
  refine zT (zr ?_)
  have hres : true = true ↔ u.prb < 1 ∨ CgF (eaL l t) (laL l t) u.prb u.gro := ⟨fun _ => .inr (by rw [hE2, hL2]; exact (cg_iff hsE hsL hK (by omega) (by omega) hx75 hx69).2 q80), fun _ => rfl⟩
  exact ret_tmp Tryz.results76 rfl (fun w1 hw => ⟨⟨true, hres⟩, rfl, hw.bel⟩)
 refine TQ.val rfl rfl rfl (gives_assign rfl rfl) ?_
 refine TQ.fin ?_
 refine zT (zr ?_)
 have hres : false = true ↔ u.prb < 1 ∨ CgF (eaL l t) (laL l t) u.prb u.gro := ⟨fun h => (by cases h), fun h => absurd h (by rintro (h | h); exact q13 h; rw [hE2, hL2] at h; exact q80 ((cg_iff hsE hsL hK (by omega) (by omega) hx75 hx69).1 h))⟩
 exact ret_tmp Tryz.results76 rfl (fun w1 hw => ⟨⟨false, hres⟩, rfl, hw.bel⟩)
set_option maxRecDepth 20000
def CgP (l : List Rs) (u : Ru) (p : Rp) : Prop := p.kind = 3 ∧ (u.prb < 1 ∨ ∃ y, IsSt l p.trc p.flow y ∧ CgF (eaL (atL y p.ttl) p.at_) (laL (atL y p.ttl) p.at_) u.prb u.gro)
theorem IsSt.in_ {l y : List Rs} {t : Trc} {flow : Int} (h : IsSt l t flow y) (ttl : Int) : ∀ r ∈ atL y ttl, r.inRange := fun r hr => by
 obtain ⟨x, h1, rfl⟩ := h
 have h2 := (List.mem_filter.1 (List.mem_filter.1 hr).1).2
 unfold usbRs at h2
 simp only [Bool.and_eq_true] at h2
 exact vld_in h2.1.2
theorem ac2fld34_0 (g o : Nat) (w : World) : (Instr.fieldAt 34 (.pointer (some ⟨g, o, none⟩)) 0).run Tryz.prog w = .ok (.pointer (some ⟨g, o + 0, none⟩)) w := by kernel_rfl
theorem ac2ag3 (w : World) : (isAgg 3).run Tryz.prog w = .ok false w := rfl
theorem ac2fld34_1 (g o : Nat) (w : World) : (Instr.fieldAt 34 (.pointer (some ⟨g, o, none⟩)) 1).run Tryz.prog w = .ok (.pointer (some ⟨g, o + 1, none⟩)) w := by kernel_rfl
theorem ac2ag32 (w : World) : (isAgg 32).run Tryz.prog w = .ok true w := rfl
theorem ac2sz32 (w : World) : (sizeOf 32).run Tryz.prog w = .ok 3 w := rfl
theorem ac2fld34_2 (g o : Nat) (w : World) : (Instr.fieldAt 34 (.pointer (some ⟨g, o, none⟩)) 2).run Tryz.prog w = .ok (.pointer (some ⟨g, o + 4, none⟩)) w := by kernel_rfl
theorem ac2fld34_3 (g o : Nat) (w : World) : (Instr.fieldAt 34 (.pointer (some ⟨g, o, none⟩)) 3).run Tryz.prog w = .ok (.pointer (some ⟨g, o + 5, none⟩)) w := by kernel_rfl
theorem ac2ag28 (w : World) : (isAgg 28).run Tryz.prog w = .ok true w := rfl
theorem ac2sz28 (w : World) : (sizeOf 28).run Tryz.prog w = .ok 3 w := rfl
theorem ac2fld34_4 (g o : Nat) (w : World) : (Instr.fieldAt 34 (.pointer (some ⟨g, o, none⟩)) 4).run Tryz.prog w = .ok (.pointer (some ⟨g, o + 6, none⟩)) w := by kernel_rfl
theorem ac2nm73 : (Tryz.f73.name == "runtime.NumGoroutine") = false := by decide
theorem ac2bd73 : Tryz.f73.body.isNone = false := rfl
theorem ac2nm77 : (Tryz.f77.name == "runtime.NumGoroutine") = false := by decide
theorem ac2bd77 : Tryz.f77.body.isNone = false := rfl
theorem ac2nm76 : (Tryz.f76.name == "runtime.NumGoroutine") = false := by decide
theorem ac2bd76 : Tryz.f76.body.isNone = false := rfl
theorem congestion_any (A0 : Option Addr) (c0 : Nat) (l : List Rs) (u : Ru) (p : Rp) (w : World) (hr : Reads w w.heap.size 17 A0 l.length (flat Rs.cells l)) (hl1 : l.length ≤ 100000) (hok : ∀ r ∈ l, r.Ok) :
  Calls Tryz.prog 31 #[.slice A0 l.length c0, .agg u.cells.toArray, .agg p.cells.toArray] w fun e w' => ∃ x : {b : Bool // b = true ↔ CgP l u p}, e = .returned (.bool x.1) ∧ Below w.heap.size w w' := by
 refine begin_ (vs := [.slice A0 l.length c0, .agg u.cells.toArray, .agg p.cells.toArray]) Tryz.func31 rfl rfl rfl ?_ (Pm.start w)
 refine zSG ?_
 refine TL.pnew rfl rfl rfl (exec_box (cs := u.cells) rfl rfl rfl) (fun g4 => ?_)
 refine TL.pnew rfl rfl rfl (exec_box (cs := p.cells) rfl rfl rfl) (fun g5 => ?_)
 refine TL.as_ ?_
 refine zET (zS ?_)
 by_cases hk : p.kind = 3
 ·refine TC.held (ls := #[Ff,Ff,Ff,Ff,Ff,Ff,Ff,Ff,Ff,Ff,Ff,Ff,Ff,Ff,Ff,Ff,Ff,Ff,Ff]) (Pm w [.blk g5 34 p.cells, .blk g4 28 u.cells]) (by kernel_rfl) rfl rfl (fun w hw => hw.drawn _) ?_
  refine TH.tk 0 rfl rfl rfl (gF ac2fld34_0) (fun w1 hw => hw) ?_
  refine TH.tk 1 rfl rfl rfl (gL 0 ac2ag3) (fun w1 hw => hw) ?_
  refine TH.tk 2 rfl rfl rfl (gives_bin rfl rfl rfl (fun w => bin_eql_t (hk) w)) (fun w1 hw => hw) ?_
  refine TH.tk 3 rfl rfl rfl (gives_move rfl rfl) (fun w1 hw => hw) ?_
  refine TH.takeG 4 rfl (by kernel_rfl) (by kernel_rfl) (by kernel_rfl) rfl rfl rfl rfl rfl rfl (gives_move rfl rfl) (fun w1 hw => hw) ?_
  refine TH.takeG 5 rfl (by kernel_rfl) (by kernel_rfl) (by kernel_rfl) rfl rfl rfl rfl rfl rfl (gF ac2fld34_1) (fun w1 hw => hw) ?_
  refine TH.takeG 6 rfl (by kernel_rfl) (by kernel_rfl) (by kernel_rfl) rfl rfl rfl rfl rfl rfl (gV 0 (.agg #[.int .i64 p.v, .int .u32 p.dst, .int .i64 p.proto]) ac2ag32 ac2sz32) (fun w1 hw => hw) ?_
  refine TH.takeG 7 rfl (by kernel_rfl) (by kernel_rfl) (by kernel_rfl) rfl rfl rfl rfl rfl rfl (gF ac2fld34_2) (fun w1 hw => hw) ?_
  refine TH.takeG 8 rfl (by kernel_rfl) (by kernel_rfl) (by kernel_rfl) rfl rfl rfl rfl rfl rfl (gL 0 ac2ag3) (fun w1 hw => hw) ?_
  refine TH.takeG 10 rfl (by kernel_rfl) (by kernel_rfl) (by kernel_rfl) rfl rfl rfl rfl rfl rfl (gF ac2fld34_3) (fun w1 hw => hw) ?_
  refine TH.takeG 11 rfl (by kernel_rfl) (by kernel_rfl) (by kernel_rfl) rfl rfl rfl rfl rfl rfl (gL 0 ac2ag3) (fun w1 hw => hw) ?_
  refine TH.takeG 13 rfl (by kernel_rfl) (by kernel_rfl) (by kernel_rfl) rfl rfl rfl rfl rfl rfl (gV 1 (.agg (u.cells).toArray) ac2ag28 ac2sz28) (fun w1 hw => hw) ?_
  refine TH.takeG 14 rfl (by kernel_rfl) (by kernel_rfl) (by kernel_rfl) rfl rfl rfl rfl rfl rfl (gF ac2fld34_4) (fun w1 hw => hw) ?_
  refine TH.takeG 15 rfl (by kernel_rfl) (by kernel_rfl) (by kernel_rfl) rfl rfl rfl rfl rfl rfl (gL 0 ac2ag3) (fun w1 hw => hw) ?_
  refine TH.only' 9 rfl (by kernel_rfl) rfl ?_
  refine TL.gu ?_
  refine TL.pcallPm (α := {y : (Option Addr × Nat) × List Rs // IsSt l p.trc p.flow y.2 ∧ y.2.length ≤ y.1.2 ∧ y.1.2 ≤ maxLen}) (fun x => .slice x.1.1.1 x.1.2.length x.1.1.2) (fun x => [.row (.slice x.1.1.1 x.1.2.length x.1.1.2) 65 17 x.1.2.length (flat Rs.cells x.1.2)]) rfl rfl rfl rfl rfl Tryz.func73 ac2nm73 ac2bd73 (fun w1 hw => stream_any A0 c0 l p.trc p.flow w1 (hr.up hw.bel) hl1 hok) ?_
  rintro ⟨⟨⟨R16, rc16⟩, st16⟩, hP16, hR161, hR162⟩
  dsimp only [List.cons_append, List.nil_append]
  dsimp only at hP16 hR161 hR162 ⊢
  refine zE ?_
  refine TX.held (fun w1 hw => hw.pick [1, 2] (by decide) rfl) ?_
  refine TH.only' 12 rfl (by kernel_rfl) rfl ?_
  refine TL.gu ?_
  refine TL.pcallPm (α := {y : (Option Addr × Nat) × List Rs // y.2 = atL st16 p.ttl ∧ y.2.length ≤ y.1.2 ∧ y.1.2 ≤ maxLen}) (fun x => .slice x.1.1.1 x.1.2.length x.1.1.2) (fun x => [.row (.slice x.1.1.1 x.1.2.length x.1.1.2) 65 17 x.1.2.length (flat Rs.cells x.1.2)]) rfl rfl rfl rfl rfl Tryz.func77 ac2nm77 ac2bd77 (fun w1 hw => atl_any R16 rc16 st16 p.ttl w1 (pm_rd hw (k := 0) rfl) (by have := hP16.le; omega)) ?_
  rintro ⟨⟨⟨R19, rc19⟩, at19⟩, hP19, hR191, hR192⟩
  dsimp only [List.cons_append, List.nil_append]
  dsimp only at hP19 hR191 hR192 ⊢
  refine zE ?_
  refine TX.held (fun w1 hw => hw.pick [2, 3] (by decide) rfl) ?_
  refine TH.only' 16 rfl (by kernel_rfl) rfl ?_
  refine TL.gu ?_
  refine TL.pcallPm (α := {b : Bool // b = true ↔ u.prb < 1 ∨ CgF (eaL at19 p.at_) (laL at19 p.at_) u.prb u.gro}) (fun x => .bool x.1) (fun x => []) rfl rfl rfl rfl rfl Tryz.func76 ac2nm76 ac2bd76 (fun w1 hw => (congestion_l R19 rc19 at19 u p.at_ w1 (pm_rd hw (k := 0) rfl) (by have := hP16.le; have := List.length_filter_le (fun r : Rs => r.ans && decide (r.ttl = p.ttl)) st16; rw [hP19]; unfold atL; omega) (by rw [hP19]; exact hP16.in_ p.ttl)).mono fun en w2 ⟨x, h1, h2⟩ => ⟨x, h1, (Pm.start w1).below h2⟩) ?_
  rintro ⟨bd, hbd⟩
  dsimp only [List.cons_append, List.nil_append]
  refine zE ?_
  refine TX.he (fun w1 hw => hw.pick [2, 3] (by decide) rfl) fun hS => ?_
  refine TH.t 17 rfl (gives_pick rfl rfl rfl) hS ?_
  refine TH.t 18 rfl (gives_assign rfl rfl) hS ?_
  refine TH.done (by kernel_rfl) ?_
  refine zT (zr ?_)
  exact ret_tmp Tryz.results31 rfl (fun w1 hw => ⟨⟨bd, hbd.trans ⟨fun h => ⟨hk, h.imp id fun h => ⟨st16, hP16, by rw [← hP19]; exact h⟩⟩, fun ⟨_, h⟩ => h.imp id fun ⟨y, h1, h2⟩ => by rw [hP19, hP16.eq h1]; exact h2⟩⟩, rfl, hw.bel⟩)
 refine TC.held (ls := #[Ff,Ff,Ff,Ff,Ff,Ff,Ff,Ff,Ff,Ff,Ff,Ff,Ff,Ff,Ff,Ff,Ff,Ff,Ff]) (Pm w [.blk g5 34 p.cells, .blk g4 28 u.cells]) (by kernel_rfl) rfl rfl (fun w hw => hw.drawn _) ?_
 refine TH.tk 0 rfl rfl rfl (gF ac2fld34_0) (fun w1 hw => hw) ?_
 refine TH.tk 1 rfl rfl rfl (gL 0 ac2ag3) (fun w1 hw => hw) ?_
 refine TH.tk 2 rfl rfl rfl (gives_bin rfl rfl rfl (fun w => bin_eql_f (hk) w)) (fun w1 hw => hw) ?_
 refine TH.tk 3 rfl rfl rfl (gives_move rfl rfl) (fun w1 hw => hw) ?_
 refine TH.off 4 rfl (by kernel_rfl) (by kernel_rfl) (by kernel_rfl) rfl rfl rfl rfl rfl rfl rfl (fun w1 hw => hw) ?_
 refine TH.off 5 rfl (by kernel_rfl) (by kernel_rfl) (by kernel_rfl) rfl rfl rfl rfl rfl rfl rfl (fun w1 hw => hw) ?_
 refine TH.off 6 rfl (by kernel_rfl) (by kernel_rfl) (by kernel_rfl) rfl rfl rfl rfl rfl rfl rfl (fun w1 hw => hw) ?_
 refine TH.off 7 rfl (by kernel_rfl) (by kernel_rfl) (by kernel_rfl) rfl rfl rfl rfl rfl rfl rfl (fun w1 hw => hw) ?_
 refine TH.off 8 rfl (by kernel_rfl) (by kernel_rfl) (by kernel_rfl) rfl rfl rfl rfl rfl rfl rfl (fun w1 hw => hw) ?_
 refine TH.off 9 rfl (by kernel_rfl) (by kernel_rfl) (by kernel_rfl) rfl rfl rfl rfl rfl rfl rfl (fun w1 hw => hw) ?_
 refine TH.off 10 rfl (by kernel_rfl) (by kernel_rfl) (by kernel_rfl) rfl rfl rfl rfl rfl rfl rfl (fun w1 hw => hw) ?_
 refine TH.off 11 rfl (by kernel_rfl) (by kernel_rfl) (by kernel_rfl) rfl rfl rfl rfl rfl rfl rfl (fun w1 hw => hw) ?_
 refine TH.off 12 rfl (by kernel_rfl) (by kernel_rfl) (by kernel_rfl) rfl rfl rfl rfl rfl rfl rfl (fun w1 hw => hw) ?_
 refine TH.off 13 rfl (by kernel_rfl) (by kernel_rfl) (by kernel_rfl) rfl rfl rfl rfl rfl rfl rfl (fun w1 hw => hw) ?_
 refine TH.off 14 rfl (by kernel_rfl) (by kernel_rfl) (by kernel_rfl) rfl rfl rfl rfl rfl rfl rfl (fun w1 hw => hw) ?_
 refine TH.off 15 rfl (by kernel_rfl) (by kernel_rfl) (by kernel_rfl) rfl rfl rfl rfl rfl rfl rfl (fun w1 hw => hw) ?_
 refine TH.off 16 rfl (by kernel_rfl) (by kernel_rfl) (by kernel_rfl) rfl rfl rfl rfl rfl rfl rfl (fun w1 hw => hw) ?_
 refine TH.tk 17 rfl rfl rfl (gives_pick rfl rfl rfl) (fun w1 hw => hw) ?_
 refine TH.tk 18 rfl rfl rfl (gives_assign rfl rfl) (fun w1 hw => hw) ?_
 refine TH.done (by kernel_rfl) ?_
 refine zT (zr ?_)
 exact ret_tmp Tryz.results31 rfl (fun w1 hw => ⟨⟨false, by simp [CgP, hk]⟩, rfl, hw.bel⟩)
set_option maxRecDepth 20000
def PrP (es : List En) (l : List Rs) (u : Ru) (p : Rp) : Prop := vldRu u = true ∧ vldRp p = true ∧ validR es = true ∧ (BhP l u p ∨ DtP es l p ∨ CgP l u p)
theorem PrP.kinds {es : List En} {l : List Rs} {u : Ru} {p : Rp} (h : vldRp p = true) : p.kind = 1 ∨ p.kind = 2 ∨ p.kind = 3 := by
 unfold vldRp at h
 simp only [Bool.and_eq_true, decide_eq_true_eq] at h
 omega
theorem aprag28 (w : World) : (isAgg 28).run Tryz.prog w = .ok true w := rfl
theorem aprsz28 (w : World) : (sizeOf 28).run Tryz.prog w = .ok 3 w := rfl
theorem aprag34 (w : World) : (isAgg 34).run Tryz.prog w = .ok true w := rfl
theorem aprsz34 (w : World) : (sizeOf 34).run Tryz.prog w = .ok 8 w := rfl
theorem proves_any (A0 : Option Addr) (c0 : Nat) (l : List Rs) (A1 : Option Addr) (c1 : Nat) (es : List En) (u : Ru) (p : Rp) (w : World) (hr : Reads w w.heap.size 17 A0 l.length (flat Rs.cells l)) (hl1 : l.length ≤ 100000) (hok : ∀ r ∈ l, r.Ok) (hr1 : Reads w w.heap.size 5 A1 es.length (flat En.cells es)) :
  Calls Tryz.prog 37 #[.slice A0 l.length c0, .agg #[.slice A1 es.length c1], .agg u.cells.toArray, .agg p.cells.toArray] w fun e w' => ∃ x : {b : Bool // b = true ↔ PrP es l u p}, e = .returned (.bool x.1) ∧ Below w.heap.size w w' := by
 refine begin_ (vs := [.slice A0 l.length c0, .agg #[.slice A1 es.length c1], .agg u.cells.toArray, .agg p.cells.toArray]) Tryz.func37 rfl rfl rfl ?_ (Pm.start w)
 refine zSG ?_
 refine TL.pnew rfl rfl rfl (exec_box (cs := [.slice A1 es.length c1]) rfl rfl rfl) (fun g5 => ?_)
 refine TL.pnew rfl rfl rfl (exec_box (cs := u.cells) rfl rfl rfl) (fun g6 => ?_)
 refine TL.pnew rfl rfl rfl (exec_box (cs := p.cells) rfl rfl rfl) (fun g7 => ?_)
 refine TL.as_ ?_
 refine zET (zS (zSG (TL.v (gV 1 (.agg (u.cells).toArray) aprag28 aprsz28) ?_)))
 refine TL.callsplit rfl rfl rfl rfl rfl Tryz.func24 (by decide) rfl (fun w1 hw => vldRu_any u w1) (fun h10 => ?_) (fun h10 => ?_)
 ·refine TL.rn 2 rfl (TL.ov (gV 0 (.agg (p.cells).toArray) aprag34 aprsz34) ?_)
  refine TL.gu ?_
  refine TL.callsplit rfl rfl rfl rfl rfl Tryz.func27 (by decide) rfl (fun w1 hw => vldRp_any p w1) (fun h14 => ?_) (fun h14 => ?_)
  ·refine TL.rn 3 rfl (TL.ov (gV 2 (.agg #[.slice A1 es.length c1]) breag26 bresz26) ?_)
   refine TL.gu ?_
   refine TL.callsplit rfl rfl rfl rfl rfl Tryz.func84 (by decide) rfl (fun w1 hw => validR_any A1 c1 es w1 (hr1.up hw.bel)) (fun h19 => ?_) (fun h19 => ?_)
   ·refine TL.rn 2 rfl (zET (zd (zk (zT (zS (zSG (TL.v (gF arpfld34_0) ?_)))))))
    refine TL.v (gL 0 pcmag3) ?_
    refine zET (zB (zSG ?_))
    refine TL.sp bin_eql (fun q25 => ?_) (fun q25 => ?_)
    ·refine TL.as_ ?_
     refine zET (zc (zSG (TL.mv ?_)))
     refine TL.v (gV 1 (.agg (u.cells).toArray) aprag28 aprsz28) ?_
     refine TL.v (gV 0 (.agg (p.cells).toArray) aprag34 aprsz34) ?_
     refine TL.pcallPm (α := {b : Bool // b = true ↔ BhP l u p}) (fun x => .bool x.1) (fun x => []) rfl rfl rfl rfl rfl Tryz.func29 (by decide) rfl (fun w1 hw => (blackhole_any A0 c0 l u p w1 (hr.up hw.bel) hl1 hok).mono fun en w2 ⟨x, h1, h2⟩ => ⟨x, h1, (Pm.start w1).below h2⟩) ?_
     rintro ⟨bd, hbd⟩
     dsimp only [List.cons_append, List.nil_append]
     refine TL.as_ ?_
     refine zET (zr (zRR ?_))
     exact ret_tmp Tryz.results37 rfl (fun w1 hw => ⟨⟨bd, fun h => ⟨h10, h14, h19, .inl (hbd.1 h)⟩, fun ⟨_, _, _, h4⟩ => hbd.2 (h4.elim id fun h5 => h5.elim (fun h6 => absurd h6.1 (by omega)) fun h6 => absurd h6.1 (by omega))⟩, rfl, hw.bel⟩)
    refine TL.as_ ?_
    refine zET (zd (zSG ?_))
    refine TL.sp bin_eql (fun q31 => ?_) (fun q31 => ?_)
    ·refine TL.as_ ?_
     refine zET (zc (zSG (TL.mv ?_)))
     refine TL.v (gV 2 (.agg #[.slice A1 es.length c1]) breag26 bresz26) ?_
     refine TL.v (gV 0 (.agg (p.cells).toArray) aprag34 aprsz34) ?_
     refine TL.pcallPm (α := {b : Bool // b = true ↔ DtP es l p}) (fun x => .bool x.1) (fun x => []) rfl rfl rfl rfl rfl Tryz.func35 (by decide) rfl (fun w1 hw => (detour_any A0 c0 l A1 c1 es p w1 (hr.up hw.bel) hl1 hok (hr1.up hw.bel)).mono fun en w2 ⟨x, h1, h2⟩ => ⟨x, h1, (Pm.start w1).below h2⟩) ?_
     rintro ⟨bd, hbd⟩
     dsimp only [List.cons_append, List.nil_append]
     refine TL.as_ ?_
     refine zET (zr (zRR ?_))
     exact ret_tmp Tryz.results37 rfl (fun w1 hw => ⟨⟨bd, fun h => ⟨h10, h14, h19, .inr (.inl (hbd.1 h))⟩, fun ⟨_, _, _, h4⟩ => hbd.2 (h4.elim (fun h6 => absurd h6.1 (by omega)) fun h5 => h5.elim id fun h6 => absurd h6.1 (by omega))⟩, rfl, hw.bel⟩)
    refine TL.as_ ?_
    refine zET (zd (zk (zN (zT (zSG (TL.mv ?_))))))
    refine TL.v (gV 1 (.agg (u.cells).toArray) aprag28 aprsz28) ?_
    refine TL.v (gV 0 (.agg (p.cells).toArray) aprag34 aprsz34) ?_
    refine TL.pcallPm (α := {b : Bool // b = true ↔ CgP l u p}) (fun x => .bool x.1) (fun x => []) rfl rfl rfl rfl rfl Tryz.func31 (by decide) rfl (fun w1 hw => (congestion_any A0 c0 l u p w1 (hr.up hw.bel) hl1 hok).mono fun en w2 ⟨x, h1, h2⟩ => ⟨x, h1, (Pm.start w1).below h2⟩) ?_
    rintro ⟨bd, hbd⟩
    dsimp only [List.cons_append, List.nil_append]
    refine TL.as_ ?_
    refine zET (zr ?_)
    exact ret_tmp Tryz.results37 rfl (fun w1 hw => ⟨⟨bd, fun h => ⟨h10, h14, h19, .inr (.inr (hbd.1 h))⟩, fun ⟨_, _, _, h4⟩ => hbd.2 (h4.elim (fun h6 => absurd h6.1 (by omega)) fun h5 => h5.elim (fun h6 => absurd h6.1 (by omega)) id)⟩, rfl, hw.bel⟩)
   refine TL.rn 2 rfl (zET (zc (zSG (TL.as_ ?_))))
   refine zET (zr (zR ?_))
   exact ret_tmp Tryz.results37 rfl (fun w1 hw => ⟨⟨false, fun h => (by cases h), fun h => (by have h2 := h.2.2.1; rw [h19] at h2; cases h2)⟩, rfl, hw.bel⟩)
  refine TL.rn 7 rfl (zET (zc (zSG (TL.as_ ?_))))
  refine zET (zr (zR ?_))
  exact ret_tmp Tryz.results37 rfl (fun w1 hw => ⟨⟨false, fun h => (by cases h), fun h => (by have h2 := h.2.1; rw [h14] at h2; cases h2)⟩, rfl, hw.bel⟩)
 refine TL.rn 11 rfl (zET (zc (zSG (TL.as_ ?_))))
 refine zET (zr (zR ?_))
 exact ret_tmp Tryz.results37 rfl (fun w1 hw => ⟨⟨false, fun h => (by cases h), fun h => (by have h2 := h.1; rw [h10] at h2; cases h2)⟩, rfl, hw.bel⟩)
set_option maxRecDepth 20000
theorem cod_stab (cb : Nat) : Stab cb (fun w => Cod w cb) := fun w1 w2 h hs => h.keep fun b hb => hs b (by omega)
theorem cod_cells {w : World} {cb : Nat} (h : Cod w cb) : CellsAt w cb := by
 obtain ⟨A, m, c, l, k, hb, _⟩ := h
 exact ⟨_, hb, rfl⟩
theorem next_cod (cb : Nat) (w : World) (n : Int) (h : Cod w cb) :
  Calls Tryz.prog 21 #[.pointer (some ⟨cb, 0, none⟩), .int .i64 n] w fun e w' => ∃ x : {x : Nat // x ≤ 65535 ∧ (1 ≤ n → (x : Int) < n)}, e = .returned (.int .i64 (x.1 : Int)) ∧ Codr (fun w => Cod w cb) cb w [] w' :=
 (next_any cb w n h).mono fun e w' ⟨x, he, h0, h1, h2, hc, hg, _⟩ => by
  obtain ⟨k, rfl⟩ := Int.eq_ofNat_of_zero_le h0
  exact ⟨⟨k, by omega, h2⟩, he, hc, hg, cod_cells hc, (fun q hq => absurd hq List.not_mem_nil), List.Pairwise.nil⟩
theorem grown_cell {w w1 : World} {cb : Nat} {p : Addr} (hg : w.grownBy w1 (some cb)) (hp : p.block ≠ cb) (hl : p.block < w.heap.size) : w1.cell? p = w.cell? p :=
 World.cell?_of_block (hg.block _ hl fun e => hp (by injection e))
theorem flat_row1 {w0 : Base} {L : List Pc} {w : World} {q g n cc i : Nat} {e : TypeId} {k : IntKind} {l : List Int} {x : Int} (h : Pm w0 L w) (hk : L[q]? = some (.row (.slice (some ⟨g, 0, none⟩) n cc) e 1 n (flat (ic k) l))) (hx : l[i]? = some x) : w.cell? ⟨g, i, none⟩ = some (.int k x) := by
 have := flat_row (ic_cel k) h hk hx 0 _ rfl
 rwa [show 0 + i * 1 + 0 = i by omega] at this
theorem roll_any (A : Option Addr) (n c : Nat) (l : List Int) (w : World) (hb : Byt w w.heap.size A n l) (hc : n ≤ c) (hn : (n : Int) ≤ 9223372036854775807) : Calls Tryz.prog 16 #[.slice A n c] w fun e w' => e = .returned (.pointer (some ⟨w.heap.size, 0, none⟩)) ∧ Cod w' w.heap.size ∧ Below w.heap.size w w' := by
 refine begin_ (vs := [.slice A n c]) (I := fun w1 => w1 = w) Tryz.func16 rfl rfl rfl ?_ rfl
 refine zSG (TL.as_ ?_)
 refine zET (zSG (TL.mv ?_))
 refine TL.call (α := Unit) (r := fun _ => .pointer (some ⟨w.heap.size, 0, none⟩)) (I' := fun _ w2 => Cod w2 w.heap.size ∧ Below w.heap.size w w2) rfl rfl rfl rfl rfl Tryz.func62 (by decide) rfl (fun w1 hw => by cases hw; exact (new_any A n c l w 400 hb hc (by omega) (by decide) (by decide)).mono fun e w2 ⟨h1, h2, h3, _⟩ => ⟨(), h1, h2, h3⟩) (fun _ => ?_)
 refine TL.as_ ?_
 refine zET (zr ?_)
 exact ret_tmp Tryz.results16 rfl (fun w1 hw => ⟨rfl, hw.1, hw.2⟩)
theorem pick_cod (cb : Nat) (w : World) (hC : Cod w cb) (g c : Nat) (tab : List Int) (hgc : g ≠ cb) (hgl : g < w.heap.size) (h0 : 0 < tab.length) (hcell : ∀ (i : Nat) (v : Int), tab[i]? = some v → w.cell? ⟨g, i, none⟩ = some (.int .i64 v)) :
  Calls Tryz.prog 22 #[.pointer (some ⟨cb, 0, none⟩), .slice (some ⟨g, 0, none⟩) tab.length c] w fun e w' => ∃ x : {v : Int // v ∈ tab}, e = .returned (.int .i64 x.1) ∧ Codr (fun w => Cod w cb) cb w ([]) w' := by
 refine begin_ (vs := [.pointer (some ⟨cb, 0, none⟩), .slice (some ⟨g, 0, none⟩) tab.length c]) (I := Pm ⟨w, cb⟩ (.abs cb (fun w => Cod w cb) :: oths cb w)) Tryz.func22 rfl rfl rfl ?_ (Pm.codes hC (cod_cells hC) (cod_stab cb))
 refine zSG (TL.as_ ?_)
 refine zET (zSG (TL.rn 3 rfl (TL.v (gN Tryz.underlying106) ?_)))
 refine TL.pcallCod (k := 0) (α := {q9 : Nat // q9 ≤ 65535 ∧ (1 ≤ ((tab.length : Nat) : Int) → (q9 : Int) < (tab.length : Nat))}) (fun q9 => .int .i64 ((q9.1 : Nat) : Int)) (fun q9 => []) rfl rfl rfl rfl rfl Tryz.func21 (by decide) rfl rfl (fun w1 hw hC1 => next_cod cb w1 (tab.length : Nat) hC1) ?_
 rintro ⟨x, hx1, hx2⟩
 dsimp only [List.cons_append, List.nil_append]
 refine TL.val rfl rfl rfl (gives_at (v := .pointer (some ⟨g, x, none⟩)) rfl rfl rfl (fun w => at_row Tryz.underlying106 pcmsz3 g _ _ x (by omega) rfl w)) ?_
 obtain ⟨v, hv, hvt⟩ : ∃ v, tab[x]? = some v ∧ v ∈ tab := ⟨_, List.getElem?_eq_getElem (by omega), List.getElem_mem _⟩
 refine TL.val rfl rfl rfl (gives_load (v := .int .i64 v) rfl rfl pcmag3 (fun w1 hw => (grown_cell (hw.kept (fun q hq => by simp [hq])) (by show g ≠ cb; exact hgc) (by show g < _; exact hgl)).trans (hcell x v hv))) ?_
 refine TL.as_ ?_
 refine zET (zr ?_)
 exact ret_tmp Tryz.results22 rfl (fun w1 hw => ⟨⟨v, hvt⟩, rfl, Pm.codr [] (hw) rfl⟩)
theorem daddr_cod (cb : Nat) (w : World) (hC : Cod w cb) :
  Calls Tryz.prog 67 #[.pointer (some ⟨cb, 0, none⟩)] w fun e w' => ∃ x : {a : Int // 167772161 ≤ a ∧ a ≤ 167772173}, e = .returned (.int .u32 x.1) ∧ Codr (fun w => Cod w cb) cb w ([]) w' := by
 refine begin_ (vs := [.pointer (some ⟨cb, 0, none⟩)]) (I := Pm ⟨w, cb⟩ (.abs cb (fun w => Cod w cb) :: oths cb w)) Tryz.func67 rfl rfl rfl ?_ (Pm.codes hC (cod_cells hC) (cod_stab cb))
 refine zSG (TL.as_ ?_)
 refine zET (zSG (TL.mv ?_))
 refine TL.prowS (e := 3) (size := 1) (cs := flat (ic .i64) [1, 2, 5, 6, 9, 10, 12, 13]) rfl rfl rfl rfl rfl (fun w => arpbs106_8_10220 _ _ _ _ _ _ _ _ w) (by decide) rfl (fun g4 => ?_)
 refine TL.pcallCod (k := 1) (α := {v : Int // v ∈ ([1, 2, 5, 6, 9, 10, 12, 13] : List Int)}) (fun x => .int .i64 x.1) (fun x => []) rfl rfl rfl rfl rfl Tryz.func22 (by decide) rfl rfl (fun w1 hw hC1 => pick_cod cb w1 hC1 g4 8 ([1, 2, 5, 6, 9, 10, 12, 13]) (hw.neq (i := 0) (j := 1) rfl rfl (by decide) g4 rfl <| congrArg some ·.symm) (Pc.lt (hw.at_ (k := 0) rfl) g4 rfl).2 (by show 0 < ([1, 2, 5, 6, 9, 10, 12, 13] : List Int).length; simp) (fun i v hi => flat_row1 hw (q := 0) rfl hi)) ?_
 rintro ⟨v, hv⟩
 dsimp only [List.cons_append, List.nil_append]
 have hvb : 1 ≤ v ∧ v ≤ 13 := by simp only [List.mem_cons, List.not_mem_nil, or_false] at hv; omega
 refine TL.v (gD (167772160 + v)) ?_
 refine TL.val rfl rfl rfl (gives_conv rfl rfl (fun w => conv_fit (k := .i64) Tryz.underlying30 Tryz.underlying3 (by simp only [IntKind.wrap_u32]; omega) w)) ?_
 refine TL.as_ ?_
 refine zET (zr ?_)
 exact ret_tmp Tryz.results67 rfl (fun w1 hw => ⟨⟨167772160 + v, by omega⟩, rfl, Pm.codr [] (hw.sel (.cons _ (.cons_cons _ (List.Sublist.refl _)))) rfl⟩)
theorem dbool_cod (cb : Nat) (w : World) (hC : Cod w cb) (n : Nat) (hn : n ≤ 1000) :
  Calls Tryz.prog 18 #[.pointer (some ⟨cb, 0, none⟩), .int .i64 ((n : Nat) : Int)] w fun e w' => ∃ x : Bool, e = .returned (.bool x) ∧ Codr (fun w => Cod w cb) cb w ([]) w' := by
 refine begin_ (vs := [.pointer (some ⟨cb, 0, none⟩), .int .i64 ((n : Nat) : Int)]) (I := Pm ⟨w, cb⟩ (.abs cb (fun w => Cod w cb) :: oths cb w)) Tryz.func18 rfl rfl rfl ?_ (Pm.codes hC (cod_cells hC) (cod_stab cb))
 refine zSG (TL.as_ ?_)
 refine zET (zSG (TL.rn 2 rfl ?_))
 refine TL.pcallCod (k := 0) (α := {q9 : Nat // q9 ≤ 65535 ∧ (1 ≤ (((n : Nat) : Int) : Int) → (q9 : Int) < ((n : Nat) : Int))}) (fun q9 => .int .i64 ((q9.1 : Nat) : Int)) (fun q9 => []) rfl rfl rfl rfl rfl Tryz.func21 (by decide) rfl rfl (fun w1 hw hC1 => next_cod cb w1 ((n : Nat) : Int) hC1) ?_
 rintro ⟨x, hx1, hx2⟩
 dsimp only [List.cons_append, List.nil_append]
 refine TL.mv ?_
 refine TL.val rfl rfl rfl (gives_bin rfl rfl rfl (fun w => bin_sub_ (r := (n : Int) - 1) (by simp only [IntKind.wrap_i64]; omega) w)) ?_
 refine TL.val rfl rfl rfl (gives_bin rfl rfl rfl (fun w => bin_eql w)) ?_
 refine TL.as_ ?_
 refine zET (zr ?_)
 exact ret_tmp Tryz.results18 rfl (fun w1 hw => ⟨decide (((x : Nat) : Int) = (n : Int) - 1), rfl, Pm.codr [] (hw) rfl⟩)
set_option maxRecDepth 20000
def TrOk (t : Trc) : Prop := (0 ≤ t.v ∧ t.v ≤ 1) ∧ (167774464 ≤ t.dst ∧ t.dst ≤ 167774466) ∧ (t.proto = 17 ∨ t.proto = 1 ∨ t.proto = 6)
structure Nt where
 v : Int
 dst : Int
 proto : Int
 ps : Sg (Sg Int)
 last : Int
def Nt.cells (n : Nt) : List Value := [.int .i64 n.v, .int .u32 n.dst, .int .i64 n.proto, .slice n.ps.A n.ps.l.length n.ps.c, .int .u32 n.last]
theorem nt_cel : Cel Nt.cells 5 := ⟨fun _ => rfl, fun r u hu => by
 simp only [Nt.cells, List.mem_cons, List.not_mem_nil, or_false] at hu
 rcases hu with rfl | rfl | rfl | rfl | rfl <;> rfl⟩
def PathW (n : Nat) (l : List Int) : Prop := l.length = n ∧ ∀ a ∈ l, 0 ≤ a ∧ a ≤ 167772173
def NtOk (n : Nt) : Prop := TrOk ⟨n.v, n.dst, n.proto⟩ ∧ (1 ≤ n.last ∧ n.last ≤ 167774466) ∧ ∃ lg, 1 ≤ lg ∧ lg ≤ 3 ∧ 1 ≤ n.ps.l.length ∧ n.ps.l.length ≤ 3 ∧ ∀ s ∈ n.ps.l, PathW lg s.l
theorem ad_snoc {p : List Int} {x : Int} (h : ∀ a ∈ p, 0 ≤ a ∧ a ≤ 167772173) (hx : 0 ≤ x ∧ x ≤ 167772173) : ∀ a ∈ p ++ [x], 0 ≤ a ∧ a ≤ 167772173 := fun a ha => by
 rcases List.mem_append.1 ha with ha | ha
 ·exact h a ha
 rw [List.mem_singleton.1 ha]; exact hx
theorem pw_snoc {pp : List (Sg Int)} {s : Sg Int} {n : Nat} (h : ∀ s ∈ pp, PathW n s.l) (hs : PathW n s.l) : ∀ x ∈ pp ++ [s], PathW n x.l := fun a ha => by
 rcases List.mem_append.1 ha with ha | ha
 ·exact h a ha
 rw [List.mem_singleton.1 ha]; exact hs
def netP (p : Sg (Sg Int)) : List Pc := .row (.slice p.A p.l.length p.c) 96 1 p.l.length (flat sgc p.l) :: segG 30 1 (flat (ic .u32)) p.l
theorem netP_noAbs (p : Sg (Sg Int)) : noAbs (netP p) = true := by
 have h := segG_noAbs (e := 30) (size := 1) (enc := flat (ic .u32)) p.l
 simp only [noAbs, netP, List.all_cons, Bool.and_eq_true] at h ⊢
 exact ⟨rfl, h⟩
section
variable {w0 : Base} {w : World} {α : Type} {e : TypeId} {size : Nat} {enc : List α → List Value} {L P O : List Pc} {ss : List (Sg α)} {s : Sg α}
theorem Pm.tuckEnd (h : Pm w0 (.row (.slice s.A s.l.length s.c) e size s.l.length (enc s.l) :: (P ++ (segG e size enc ss ++ O))) w) : Pm w0 (P ++ (segG e size enc (ss ++ [s]) ++ O)) w := by
 refine h.permute ?_
 have h1 : segG e size enc (ss ++ [s]) = segG e size enc ss ++ [.row (.slice s.A s.l.length s.c) e size s.l.length (enc s.l)] := List.map_append
 rw [h1, List.append_assoc]
 refine List.perm_middle.symm.trans (List.Perm.append_left P ?_)
 exact List.perm_middle.symm
theorem Pm.netOut {p : Sg (Sg Int)} {a : Pc} (h : Pm w0 (.row (.slice p.A p.l.length p.c) 96 1 p.l.length (flat sgc p.l) :: a :: (segG 30 1 (flat (ic .u32)) p.l ++ O)) w) : Pm w0 (netP p ++ a :: O) w := by
 refine h.permute (List.Perm.cons _ ?_)
 exact List.perm_middle.symm
theorem seg_mem {T : List Pc} (h : s ∈ ss) : Pc.row (.slice s.A s.l.length s.c) e size s.l.length (enc s.l) ∈ segG e size enc ss ++ T := List.mem_append_left _ (List.mem_map_of_mem (f := Sg.pc e size enc) h)
theorem segA {A : Option Addr} {n c : Nat} {xs : List Value} (h : Pm w0 L w) (hm : Pc.row (.slice A n c) e size n xs ∈ L) (hn : 0 < n) : ∃ g, A = some ⟨g, 0, none⟩ := by
 obtain ⟨k, hk⟩ := List.getElem?_of_mem hm
 exact rowA h hk hn
theorem seg_cell {c : α → List Value} {k g i : Nat} {x : α} (K : Cel c k) (h : Pm w0 L w) (hm : Pc.row (.slice s.A s.l.length s.c) e k s.l.length (flat c s.l) ∈ L) (hA : s.A = some ⟨g, 0, none⟩) (hx : s.l[i]? = some x) (j : Nat) (u : Value) (hu : (c x)[j]? = some u) : w.cell? ⟨g, 0 + i * k + j, none⟩ = some u := by
 obtain ⟨q, hq⟩ := List.getElem?_of_mem hm
 rw [hA] at hq
 exact flat_row K h hq hx j u hu
end
theorem dntzv119 (w : World) : (zeroValue 92).run Tryz.prog w = .ok (.agg #[.int .i64 0, .int .u32 0, .int .i64 0, .slice none 0 0, .int .u32 0]) w := rfl
theorem dntbld119_60100 (a0_0 : Int) (a0_1 : Int) (a0_2 : Int) (w : World) : (Instr.build 92 #[(0, .agg #[.int .i64 a0_0, .int .u32 a0_1, .int .i64 a0_2])]).run Tryz.prog w = .ok (.agg #[.int .i64 a0_0, .int .u32 a0_1, .int .i64 a0_2, .slice none 0 0, .int .u32 0]) w := by kernel_rfl
theorem dntsz119 (w : World) : (sizeOf 92).run Tryz.prog w = .ok 5 w := rfl
theorem dntone_i64u32i64su32 {a0 : Int} {a1 : Int} {a2 : Int} {a3 : Option Addr} {n3 c3 : Nat} {a4 : Int} : ∀ u ∈ [(.int .i64 a0 : Value), .int .u32 a1, .int .i64 a2, .slice a3 n3 c3, .int .u32 a4], u.oneCell' = true := by
 intro u hu
 simp only [List.mem_cons, List.not_mem_nil, or_false] at hu
 rcases hu with rfl | rfl | rfl | rfl | rfl <;> rfl
theorem dntfld119_0 : FA Tryz.prog 92 0 0 := fun g o w => by kernel_rfl
theorem dntfld119_2 : FA Tryz.prog 92 2 4 := fun g o w => by kernel_rfl
theorem dntsz30 (w : World) : (sizeOf 30).run Tryz.prog w = .ok 1 w := rfl
theorem dntone_u32 {a0 : Int} : ∀ u ∈ [(.int .u32 a0 : Value)], u.oneCell' = true := by
 intro u hu
 rw [List.mem_singleton] at hu
 subst hu; rfl
theorem dntfld119_1 : FA Tryz.prog 92 1 3 := fun g o w => by kernel_rfl
theorem dntag117 (w : World) : (isAgg 90).run Tryz.prog w = .ok false w := rfl
theorem dntsz64 (w : World) : (sizeOf 96).run Tryz.prog w = .ok 1 w := rfl
theorem dntag64 (w : World) : (isAgg 96).run Tryz.prog w = .ok false w := rfl
theorem dntbs64_1_5377 (a0_0 : Int) (w : World) : (Instr.buildSlice 96 1 #[(0, .int .u32 a0_0)]).run Tryz.prog w = .ok (.slice (some ⟨w.heap.size, 0, none⟩) 1 1) (w.alloc (.cells [.int .u32 a0_0].toArray 30)) := by kernel_rfl
theorem dntel64 : Elem Tryz.prog 96 30 1 4 := Elem.mk' Tryz.underlying96 (z := .int .u32 0) (by kernel_rfl) rfl (by omega) (by omega)
theorem dntbs117_1_58639 (a0_0 : Option Addr) (a0_0n a0_0c : Nat) (w : World) : (Instr.buildSlice 90 1 #[(0, .slice a0_0 a0_0n a0_0c)]).run Tryz.prog w = .ok (.slice (some ⟨w.heap.size, 0, none⟩) 1 1) (w.alloc (.cells [.slice a0_0 a0_0n a0_0c].toArray 96)) := by kernel_rfl
theorem dntel117 : Elem Tryz.prog 90 96 1 24 := Elem.mk' Tryz.underlying90 (z := .slice none 0 0) (by kernel_rfl) rfl (by omega) (by omega)
theorem dntsz117 (w : World) : (sizeOf 90).run Tryz.prog w = .ok 1 w := rfl
theorem dntone_s {a0 : Option Addr} {n0 c0 : Nat} : ∀ u ∈ [(.slice a0 n0 c0 : Value)], u.oneCell' = true := by
 intro u hu
 rw [List.mem_singleton] at hu
 subst hu; rfl
theorem dntag119 (w : World) : (isAgg 92).run Tryz.prog w = .ok true w := rfl
theorem dproto_cod (cb : Nat) (w : World) (hC : Cod w cb) :
  Calls Tryz.prog 119 #[.pointer (some ⟨cb, 0, none⟩)] w fun e w' => ∃ x : {v : Int // v = 17 ∨ v = 1 ∨ v = 6}, e = .returned (.int .i64 x.1) ∧ Codr (fun w => Cod w cb) cb w ([]) w' := by
 refine begin_ (vs := [.pointer (some ⟨cb, 0, none⟩)]) (I := Pm ⟨w, cb⟩ (.abs cb (fun w => Cod w cb) :: oths cb w)) Tryz.func119 rfl rfl rfl ?_ (Pm.codes hC (cod_cells hC) (cod_stab cb))
 refine zSG (TL.as_ ?_)
 refine zET (zSG (TL.mv ?_))
 refine TL.prowS (e := 3) (size := 1) (cs := flat (ic .i64) [17, 1, 6]) rfl rfl rfl rfl rfl (fun w => pcmbs106_3_44640 _ _ _ w) (by decide) rfl (fun g4 => ?_)
 refine TL.pcallCod (k := 1) (α := {v : Int // v ∈ ([17, 1, 6] : List Int)}) (fun x => .int .i64 x.1) (fun x => []) rfl rfl rfl rfl rfl Tryz.func22 (by decide) rfl rfl (fun w1 hw hC1 => pick_cod cb w1 hC1 g4 3 ([17, 1, 6]) (hw.neq (i := 0) (j := 1) rfl rfl (by decide) g4 rfl <| congrArg some ·.symm) (Pc.lt (hw.at_ (k := 0) rfl) g4 rfl).2 (by show 0 < ([17, 1, 6] : List Int).length; simp) (fun i v hi => flat_row1 hw (q := 0) rfl hi)) ?_
 rintro ⟨v, hv⟩
 dsimp only [List.cons_append, List.nil_append]
 have hvb : v = 17 ∨ v = 1 ∨ v = 6 := by simpa using hv
 refine TL.as_ ?_
 refine zET (zr ?_)
 exact ret_tmp Tryz.results119 rfl (fun w1 hw => ⟨⟨v, hvb⟩, rfl, Pm.codr [] (hw.sel (.cons _ (.cons_cons _ (List.Sublist.refl _)))) rfl⟩)
theorem dtrace_cod (cb : Nat) (w : World) (hC : Cod w cb) :
  Calls Tryz.prog 68 #[.pointer (some ⟨cb, 0, none⟩)] w fun e w' => ∃ x : {t : Trc // TrOk t}, e = .returned (.agg x.1.cells.toArray) ∧ Codr (fun w => Cod w cb) cb w ([]) w' := by
 refine begin_ (vs := [.pointer (some ⟨cb, 0, none⟩)]) (I := Pm ⟨w, cb⟩ (.abs cb (fun w => Cod w cb) :: oths cb w)) Tryz.func68 rfl rfl rfl ?_ (Pm.codes hC (cod_cells hC) (cod_stab cb))
 refine zSG ?_
 refine TL.pnew rfl rfl rfl (exec_alloc (cs := [.int .i64 0, .int .u32 0, .int .i64 0]) rfl prszv32 rfl) (fun g2 => ?_)
 refine zET (zSG (TL.mv ?_))
 refine TL.pcallCod (k := 1) (α := {q9 : Nat // q9 ≤ 65535 ∧ (1 ≤ (2 : Int) → (q9 : Int) < 2)}) (fun q9 => .int .i64 ((q9.1 : Nat) : Int)) (fun q9 => []) rfl rfl rfl rfl rfl Tryz.func21 (by decide) rfl rfl (fun w1 hw hC1 => next_cod cb w1 2 hC1) ?_
 rintro ⟨a0, ha01, ha02⟩
 dsimp only [List.cons_append, List.nil_append]
 refine TL.mv ?_
 refine TL.pcallCod (k := 1) (α := {q9 : Nat // q9 ≤ 65535 ∧ (1 ≤ (3 : Int) → (q9 : Int) < 3)}) (fun q9 => .int .i64 ((q9.1 : Nat) : Int)) (fun q9 => []) rfl rfl rfl rfl rfl Tryz.func21 (by decide) rfl rfl (fun w1 hw hC1 => next_cod cb w1 3 hC1) ?_
 rintro ⟨a1, ha11, ha12⟩
 dsimp only [List.cons_append, List.nil_append]
 refine TL.v (gD ((167774464 + a1 : Nat) : Int)) ?_
 refine TL.val rfl rfl rfl (gives_conv rfl rfl (fun w => conv_fit (k := .i64) Tryz.underlying30 Tryz.underlying3 (by simp only [IntKind.wrap_u32]; omega) w)) ?_
 refine TL.mv ?_
 refine TL.pcallCod (k := 1) (α := {v : Int // v = 17 ∨ v = 1 ∨ v = 6}) (fun x => .int .i64 x.1) (fun x => []) rfl rfl rfl rfl rfl Tryz.func119 (by decide) rfl rfl (fun w1 hw hC1 => dproto_cod cb w1 hC1) ?_
 rintro ⟨pp, hpp⟩
 dsimp only [List.cons_append, List.nil_append]
 refine TL.val rfl rfl rfl (gives_build (v := .agg #[.int .i64 ((a0 : Nat) : Int), .int .u32 ((167774464 + a1 : Nat) : Int), .int .i64 pp]) rfl rfl (fun w => prsbld32_57312 _ _ _ w)) ?_
 refine TL.pstore (k := 0) (vs := [.int .i64 ((a0 : Nat) : Int), .int .u32 ((167774464 + a1 : Nat) : Int), .int .i64 pp]) rfl rfl rfl rfl rfl rfl rfl prssz32 prsone_i64u32i64 (by show 3 ≤ 3; decide) rfl ?_
 refine zET (zr ?_)
 exact pm_ret_cell (k := 0) Tryz.results68 rfl rfl Tryz.underlying32 rfl rfl (fun w1 hw => ⟨⟨⟨((a0 : Nat) : Int), ((167774464 + a1 : Nat) : Int), pp⟩, by unfold TrOk; dsimp only; omega⟩, rfl, Pm.codr [] (hw.sel (.cons _ (.cons_cons _ (List.Sublist.refl _)))) rfl⟩)
theorem scene_cod (cb : Nat) (w : World) (hC : Cod w cb) :
  Calls Tryz.prog 63 #[.pointer (some ⟨cb, 0, none⟩)] w fun e w' => ∃ x : {y : Nt // NtOk y}, e = .returned (.agg x.1.cells.toArray) ∧ Codr (fun w => Cod w cb) cb w (netP x.1.ps) w' := by
 refine begin_ (vs := [.pointer (some ⟨cb, 0, none⟩)]) (I := Pm ⟨w, cb⟩ (.abs cb (fun w => Cod w cb) :: oths cb w)) Tryz.func63 rfl rfl rfl ?_ (Pm.codes hC (cod_cells hC) (cod_stab cb))
 refine zSG ?_
 refine TL.pnew rfl rfl rfl (exec_alloc (cs := [.int .i64 0, .int .u32 0, .int .i64 0, .slice none 0 0, .int .u32 0]) rfl dntzv119 rfl) (fun g2 => ?_)
 refine zET (zSG (TL.mv ?_))
 refine TL.pcallCod (k := 1) (α := {t : Trc // TrOk t}) (fun x => .agg (x.1.cells).toArray) (fun x => []) rfl rfl rfl rfl rfl Tryz.func68 (by decide) rfl rfl (fun w1 hw hC1 => dtrace_cod cb w1 hC1) ?_
 rintro ⟨tr, htr⟩
 dsimp only [List.cons_append, List.nil_append]
 refine TL.val rfl rfl rfl (gives_build (v := .agg #[.int .i64 tr.v, .int .u32 tr.dst, .int .i64 tr.proto, .slice none 0 0, .int .u32 0]) rfl rfl (fun w => dntbld119_60100 _ _ _ w)) ?_
 refine TL.pnew rfl rfl rfl (exec_alloc (cs := [.int .i64 0, .int .u32 0, .int .i64 0, .slice none 0 0, .int .u32 0]) rfl dntzv119 rfl) (fun g3 => ?_)
 refine TL.pstore (k := 0) (vs := [.int .i64 tr.v, .int .u32 tr.dst, .int .i64 tr.proto, .slice none 0 0, .int .u32 0]) rfl rfl rfl rfl rfl rfl rfl dntsz119 dntone_i64u32i64su32 (by show 5 ≤ 5; decide) rfl ?_
 refine zET (zS ?_)
 have htr2 := htr
 unfold TrOk at htr2
 refine zG (TL.v (gF dntfld119_0) ?_)
 refine TL.v (gF pcmfld32_1) ?_
 refine TL.v (gL 0 pcmag30) ?_
 refine TL.v (gF dntfld119_2) ?_
 refine TL.pstore (k := 0) (vs := [.int .u32 tr.dst]) rfl rfl rfl rfl rfl rfl rfl dntsz30 dntone_u32 (by show 5 ≤ 5; decide) rfl ?_
 refine zET ?_
 refine TC.join (α := {a : Int // 1 ≤ a ∧ a ≤ 167774466}) (fun y => [(0, .pointer (some ⟨cb, 0, none⟩)), (2, .pointer (some ⟨g2, 0, none⟩)), (3, .pointer (some ⟨g3, 0, none⟩))]) (fun y => Pm ⟨w, cb⟩ ([.blk g3 92 [.int .i64 tr.v, .int .u32 tr.dst, .int .i64 tr.proto, .slice none 0 0, .int .u32 y.1], .blk g2 92 [.int .i64 0, .int .u32 0, .int .i64 0, .slice none 0 0, .int .u32 0], .abs cb (fun w => Cod w cb)] ++ oths cb w)) ?_ ?_
 ·refine zSG (TL.mv ?_)
  refine TL.pcallCod (k := 2) (α := Bool) (fun x => .bool x) (fun x => []) rfl rfl rfl rfl rfl Tryz.func18 (by decide) rfl rfl (fun w1 hw hC1 => dbool_cod cb w1 hC1 4 (by decide)) ?_
  rintro b0
  dsimp only [List.cons_append, List.nil_append]
  refine zET ?_
  refine TC.split (t := b0) rfl (fun c17 => ?_) (fun c17 => ?_)
  ·refine zG (TL.mv ?_)
   refine TL.pcallCod (k := 2) (α := {a : Int // 167772161 ≤ a ∧ a ≤ 167772173}) (fun x => .int .u32 x.1) (fun x => []) rfl rfl rfl rfl rfl Tryz.func67 (by decide) rfl rfl (fun w1 hw hC1 => daddr_cod cb w1 hC1) ?_
   rintro ⟨ad, had1, had2⟩
   dsimp only [List.cons_append, List.nil_append]
   refine TL.v (gF dntfld119_2) ?_
   refine TL.pstore (k := 0) (vs := [.int .u32 ad]) rfl rfl rfl rfl rfl rfl rfl dntsz30 dntone_u32 (by show 5 ≤ 5; decide) rfl ?_
   refine zE ?_
   exact TX.joined (⟨ad, by omega⟩) (⟨rfl, rfl, rfl, trivial⟩) (fun w1 hw => hw)
  refine zk ?_
  exact TX.joined (⟨tr.dst, by omega⟩) (⟨rfl, rfl, rfl, trivial⟩) (fun w1 hw => hw)
 rintro ⟨la, hla⟩
 dsimp only at hla ⊢
 refine zSG (TL.mv ?_)
 refine TL.pcallCod (k := 2) (α := {q9 : Nat // q9 ≤ 65535 ∧ (1 ≤ (3 : Int) → (q9 : Int) < 3)}) (fun q9 => .int .i64 ((q9.1 : Nat) : Int)) (fun q9 => []) rfl rfl rfl rfl rfl Tryz.func21 (by decide) rfl rfl (fun w1 hw hC1 => next_cod cb w1 3 hC1) ?_
 rintro ⟨lg, hlg1, hlg2⟩
 dsimp only [List.cons_append, List.nil_append]
 refine TL.v (gD ((lg + 1 : Nat) : Int)) ?_
 refine TL.as_ ?_
 refine zET (zS (zSG (TL.as_ ?_)))
 refine zET (zB (TC.nilrow 96 1 ?_))
 refine TC.loop_ (α := {y : Nat × (Option Addr × Nat) × List (Sg Int) // y.1 ≤ 3 ∧ y.2.2.length = y.1 ∧ (∀ s ∈ y.2.2, PathW (lg + 1) s.l) ∧ y.2.2.length ≤ y.2.1.2 ∧ y.2.1.2 ≤ maxLen}) (fun y => [(0, .pointer (some ⟨cb, 0, none⟩)), (2, .pointer (some ⟨g2, 0, none⟩)), (3, .pointer (some ⟨g3, 0, none⟩)), (4, .int .i64 ((lg + 1 : Nat) : Int)), (5, .int .i64 ((y.1.1 : Nat) : Int))]) (fun y => Pm ⟨w, cb⟩ ([.row (.slice y.1.2.1.1 y.1.2.2.length y.1.2.1.2) 96 1 y.1.2.2.length (flat sgc y.1.2.2), .blk g3 92 [.int .i64 tr.v, .int .u32 tr.dst, .int .i64 tr.proto, .slice y.1.2.1.1 y.1.2.2.length y.1.2.1.2, .int .u32 la], .blk g2 92 [.int .i64 0, .int .u32 0, .int .i64 0, .slice none 0 0, .int .u32 0], .abs cb (fun w => Cod w cb)] ++ (segG 30 1 (flat (ic .u32)) y.1.2.2 ++ oths cb w))) (fun y => 3 - y.1.1) (⟨(0, (none, 0), []), Nat.zero_le _, rfl, fun s hs => absurd hs List.not_mem_nil, Nat.le_refl _, Nat.zero_le _⟩) ⟨rfl, rfl, rfl, rfl, rfl, trivial⟩ (fun w1 hw => hw) ?_
 rintro ⟨⟨f, ⟨Ap, cp⟩, pp⟩, hf, hfl, hpw, hpc, hpm⟩
 dsimp only at hf hfl hpw hpc hpm ⊢
 refine zS (zSG (TL.rn 2 rfl ?_))
 refine TL.pcallCod (k := 3) (α := {q9 : Nat // q9 ≤ 65535 ∧ (1 ≤ (3 : Int) → (q9 : Int) < 3)}) (fun q9 => .int .i64 ((q9.1 : Nat) : Int)) (fun q9 => []) rfl rfl rfl rfl rfl Tryz.func21 (by decide) rfl rfl (fun w1 hw hC1 => next_cod cb w1 3 hC1) ?_
 rintro ⟨nf, hnf1, hnf2⟩
 dsimp only [List.cons_append, List.nil_append]
 refine TL.v (gD ((1 + nf : Nat) : Int)) ?_
 refine TL.sp bin_lss (fun q28 => ?_) (fun q28 => ?_)
 ·refine zET (zc (zk (zT (zS (zB (zSG (TL.as_ ?_)))))))
  refine zET (zS (zSG (TL.as_ ?_)))
  refine zET (zB (TC.nilrow 30 1 ?_))
  refine TC.loop_ (α := {y : Nat × (Option Addr × Nat) × List Int // y.1 ≤ lg + 1 ∧ y.2.2.length = y.1 ∧ (∀ a ∈ y.2.2, 0 ≤ a ∧ a ≤ 167772173) ∧ y.2.2.length ≤ y.2.1.2 ∧ y.2.1.2 ≤ maxLen}) (fun y => [(0, .pointer (some ⟨cb, 0, none⟩)), (2, .pointer (some ⟨g2, 0, none⟩)), (3, .pointer (some ⟨g3, 0, none⟩)), (4, .int .i64 ((lg + 1 : Nat) : Int)), (5, .int .i64 ((f : Nat) : Int)), (7, .int .i64 ((y.1.1 : Nat) : Int)), (6, .slice y.1.2.1.1 y.1.2.2.length y.1.2.1.2)]) (fun y => Pm ⟨w, cb⟩ ([.row (.slice y.1.2.1.1 y.1.2.2.length y.1.2.1.2) 30 1 y.1.2.2.length (flat (ic .u32) y.1.2.2), .row (.slice Ap pp.length cp) 96 1 pp.length (flat sgc pp), .blk g3 92 [.int .i64 tr.v, .int .u32 tr.dst, .int .i64 tr.proto, .slice Ap pp.length cp, .int .u32 la], .blk g2 92 [.int .i64 0, .int .u32 0, .int .i64 0, .slice none 0 0, .int .u32 0], .abs cb (fun w => Cod w cb)] ++ (segG 30 1 (flat (ic .u32)) pp ++ oths cb w))) (fun y => lg + 1 - y.1.1) (⟨(0, (none, 0), []), Nat.zero_le _, rfl, fun s hs => absurd hs List.not_mem_nil, Nat.le_refl _, Nat.zero_le _⟩) ⟨rfl, rfl, rfl, rfl, rfl, rfl, rfl, trivial⟩ (fun w1 hw => hw) ?_
  rintro ⟨⟨i, ⟨Aq, cq⟩, p⟩, hi, hil, hpr, hqc, hqm⟩
  dsimp only at hi hil hpr hqc hqm ⊢
  refine zS (zSG (TL.rn 2 rfl ?_))
  refine TL.sp bin_lss (fun q33 => ?_) (fun q33 => ?_)
  ·refine zET (zc (zk (zT (zS (zB (zSG (TL.mv ?_)))))))
   refine TL.pcallCod (k := 4) (α := {a : Int // 167772161 ≤ a ∧ a ≤ 167772173}) (fun x => .int .u32 x.1) (fun x => []) rfl rfl rfl rfl rfl Tryz.func67 (by decide) rfl rfl (fun w1 hw hC1 => daddr_cod cb w1 hC1) ?_
   rintro ⟨ad, had1, had2⟩
   dsimp only [List.cons_append, List.nil_append]
   refine TL.as_ ?_
   refine zET (zS (zSG (TL.mv ?_)))
   refine TL.pcallCod (k := 4) (α := Bool) (fun x => .bool x) (fun x => []) rfl rfl rfl rfl rfl Tryz.func18 (by decide) rfl rfl (fun w1 hw hC1 => dbool_cod cb w1 hC1 6 (by decide)) ?_
   rintro b1
   dsimp only [List.cons_append, List.nil_append]
   refine zET ?_
   refine TC.split (t := b1) rfl (fun c39 => ?_) (fun c39 => ?_)
   ·refine zG (TL.as_ ?_)
    refine zET (zS (zSG (TL.mv ?_)))
    refine TL.sp bin_gtr (fun q41 => ?_) (fun q41 => ?_)
    ·refine TL.rn 2 rfl (TL.ov (gF dntfld119_1) ?_)
     refine TL.ov (gL 2 dntag117) ?_
     refine TL.gu ?_
     refine TL.fact (p := ∃ g, Ap = some ⟨g, 0, none⟩) (fun w1 hw => rowA hw (k := 1) rfl (by omega)) ?_
     rintro ⟨g_Ap, rfl⟩
     have hi46 : 0 < pp.length := by omega
     obtain ⟨x46, hx46⟩ := ex_at hi46
     refine TL.val rfl rfl rfl (gA (i := 0) Tryz.underlying90 dntsz64 rfl rfl rfl rfl rfl (by omega)) ?_
     refine TL.gu ?_
     refine TL.val rfl rfl rfl (gives_load (v := .slice x46.A x46.l.length x46.c) rfl rfl dntag64 (fun w1 hw => flat_row sgc_cel hw (q := 1) rfl hx46 0 _ rfl)) ?_
     refine TL.ov (gN Tryz.underlying96) ?_
     refine TL.gu ?_
     refine TL.sp bin_lss (fun q49 => ?_) (fun q49 => ?_)
     ·refine TL.rn 3 rfl (TL.gu ?_)
      refine TL.pcallCod (k := 4) (α := Bool) (fun x => .bool x) (fun x => []) rfl rfl rfl rfl rfl Tryz.func18 (by decide) rfl rfl (fun w1 hw hC1 => dbool_cod cb w1 hC1 3 (by decide)) ?_
      rintro b2
      dsimp only [List.cons_append, List.nil_append]
      cases b2 with
      | true =>
       refine TL.rn 2 rfl (zET (zd (zk (zT (zG (TL.rn 2 rfl ?_))))))
       refine TL.prowS (e := 30) (size := 1) (cs := flat (ic .u32) [0]) rfl rfl rfl rfl rfl (fun w => dntbs64_1_5377 _ w) (by decide) rfl (fun g65 => ?_)
       refine TL.appendT (k := 1) rfl rfl rfl rfl Tryz.underlying96 dntel64 rfl rfl rfl (fun w1 hw => pm_reads hw (k := 0) rfl) (flat_one (ic_cel .u32) _) (by show _ * 4 ≤ _; omega) ((p ++ [0]).length) (by rw [List.length_append]; rfl) (flat (ic .u32) (p ++ [0])) ((flat_app _ _).symm) (fun A66 c66 hA661 hA662 => ?_)
       refine TL.as_ ?_
       refine zE (zN (zT (zG (TL.mv ?_))))
       refine TL.v (gD ((i + 1 : Nat) : Int)) ?_
       refine TL.as_ ?_
       refine zE ?_
       exact TX.round (⟨(i + 1, (A66, c66), p ++ [0]), by dsimp only; omega, by dsimp only; rw [List.length_append]; show p.length + 1 = i + 1; omega, ad_snoc hpr (by omega), hA661, hA662⟩) (by show lg + 1 - (i + 1) < lg + 1 - i; omega) ⟨rfl, rfl, rfl, rfl, rfl, rfl, rfl, trivial⟩ (fun w1 hw => hw.sel (.cons _ (.cons_cons _ (.cons_cons _ (.cons_cons _ (.cons_cons _ (.cons_cons _ (List.Sublist.refl _))))))))
      | false =>
       refine TL.rn 2 rfl (zET (zc (zG (TL.v (gF dntfld119_1) ?_))))
       refine TL.v (gL 2 dntag117) ?_
       refine TL.val rfl rfl rfl (gA (i := 0) Tryz.underlying90 dntsz64 rfl rfl rfl rfl rfl (by omega)) ?_
       refine TL.val rfl rfl rfl (gives_load (v := .slice x46.A x46.l.length x46.c) rfl rfl dntag64 (fun w1 hw => flat_row sgc_cel hw (q := 1) rfl hx46 0 _ rfl)) ?_
       refine TL.mv ?_
       have hmm61 := seg_mem (e := 30) (size := 1) (enc := flat (ic .u32)) (T := oths cb w) (List.mem_of_getElem? hx46)
       refine TL.fact (p := ∃ g, x46.A = some ⟨g, 0, none⟩) (fun w1 hw => segA hw (List.mem_of_mem_drop (i := 5) (by exact hmm61)) (by omega)) ?_
       rintro ⟨gx61, hgx61⟩
       obtain ⟨z61, hz61⟩ : ∃ z, x46.l[i]? = some z := ⟨_, List.getElem?_eq_getElem (by omega)⟩
       refine TL.val rfl rfl rfl (gA (i := i) Tryz.underlying96 dntsz30 rfl rfl rfl rfl hgx61 (by omega)) ?_
       refine TL.val rfl rfl rfl (gives_load (v := .int .u32 z61) rfl rfl pcmag30 (fun w1 hw => seg_cell (ic_cel .u32) hw (List.mem_of_mem_drop (i := 5) (by exact hmm61)) hgx61 hz61 0 _ rfl)) ?_
       have hzr := (hpw x46 (List.mem_of_getElem? hx46)).2 z61 (List.mem_of_getElem? hz61)
       refine TL.as_ ?_
       refine zET (zG (TL.rn 2 rfl ?_))
       refine TL.prowS (e := 30) (size := 1) (cs := flat (ic .u32) [z61]) rfl rfl rfl rfl rfl (fun w => dntbs64_1_5377 _ w) (by decide) rfl (fun g65 => ?_)
       refine TL.appendT (k := 1) rfl rfl rfl rfl Tryz.underlying96 dntel64 rfl rfl rfl (fun w1 hw => pm_reads hw (k := 0) rfl) (flat_one (ic_cel .u32) _) (by show _ * 4 ≤ _; omega) ((p ++ [z61]).length) (by rw [List.length_append]; rfl) (flat (ic .u32) (p ++ [z61])) ((flat_app _ _).symm) (fun A66 c66 hA661 hA662 => ?_)
       refine TL.as_ ?_
       refine zE (zN (zT (zG (TL.mv ?_))))
       refine TL.v (gD ((i + 1 : Nat) : Int)) ?_
       refine TL.as_ ?_
       refine zE ?_
       exact TX.round (⟨(i + 1, (A66, c66), p ++ [z61]), by dsimp only; omega, by dsimp only; rw [List.length_append]; show p.length + 1 = i + 1; omega, ad_snoc hpr (by exact hzr), hA661, hA662⟩) (by show lg + 1 - (i + 1) < lg + 1 - i; omega) ⟨rfl, rfl, rfl, rfl, rfl, rfl, rfl, trivial⟩ (fun w1 hw => hw.sel (.cons _ (.cons_cons _ (.cons_cons _ (.cons_cons _ (.cons_cons _ (.cons_cons _ (List.Sublist.refl _))))))))
     refine TL.rn 6 rfl (zET (zd (zk (zT (zG (TL.rn 2 rfl ?_))))))
     refine TL.prowS (e := 30) (size := 1) (cs := flat (ic .u32) [0]) rfl rfl rfl rfl rfl (fun w => dntbs64_1_5377 _ w) (by decide) rfl (fun g65 => ?_)
     refine TL.appendT (k := 1) rfl rfl rfl rfl Tryz.underlying96 dntel64 rfl rfl rfl (fun w1 hw => pm_reads hw (k := 0) rfl) (flat_one (ic_cel .u32) _) (by show _ * 4 ≤ _; omega) ((p ++ [0]).length) (by rw [List.length_append]; rfl) (flat (ic .u32) (p ++ [0])) ((flat_app _ _).symm) (fun A66 c66 hA661 hA662 => ?_)
     refine TL.as_ ?_
     refine zE (zN (zT (zG (TL.mv ?_))))
     refine TL.v (gD ((i + 1 : Nat) : Int)) ?_
     refine TL.as_ ?_
     refine zE ?_
     exact TX.round (⟨(i + 1, (A66, c66), p ++ [0]), by dsimp only; omega, by dsimp only; rw [List.length_append]; show p.length + 1 = i + 1; omega, ad_snoc hpr (by omega), hA661, hA662⟩) (by show lg + 1 - (i + 1) < lg + 1 - i; omega) ⟨rfl, rfl, rfl, rfl, rfl, rfl, rfl, trivial⟩ (fun w1 hw => hw.sel (.cons _ (.cons_cons _ (.cons_cons _ (.cons_cons _ (.cons_cons _ (.cons_cons _ (List.Sublist.refl _))))))))
    refine TL.rn 14 rfl (zET (zd (zk (zT (zG (TL.rn 2 rfl ?_))))))
    refine TL.prowS (e := 30) (size := 1) (cs := flat (ic .u32) [0]) rfl rfl rfl rfl rfl (fun w => dntbs64_1_5377 _ w) (by decide) rfl (fun g65 => ?_)
    refine TL.appendT (k := 1) rfl rfl rfl rfl Tryz.underlying96 dntel64 rfl rfl rfl (fun w1 hw => pm_reads hw (k := 0) rfl) (flat_one (ic_cel .u32) _) (by show _ * 4 ≤ _; omega) ((p ++ [0]).length) (by rw [List.length_append]; rfl) (flat (ic .u32) (p ++ [0])) ((flat_app _ _).symm) (fun A66 c66 hA661 hA662 => ?_)
    refine TL.as_ ?_
    refine zE (zN (zT (zG (TL.mv ?_))))
    refine TL.v (gD ((i + 1 : Nat) : Int)) ?_
    refine TL.as_ ?_
    refine zE ?_
    exact TX.round (⟨(i + 1, (A66, c66), p ++ [0]), by dsimp only; omega, by dsimp only; rw [List.length_append]; show p.length + 1 = i + 1; omega, ad_snoc hpr (by omega), hA661, hA662⟩) (by show lg + 1 - (i + 1) < lg + 1 - i; omega) ⟨rfl, rfl, rfl, rfl, rfl, rfl, rfl, trivial⟩ (fun w1 hw => hw.sel (.cons _ (.cons_cons _ (.cons_cons _ (.cons_cons _ (.cons_cons _ (.cons_cons _ (List.Sublist.refl _))))))))
   refine zk (zT (zS (zSG ?_)))
   refine TL.mv ?_
   refine TL.sp bin_gtr (fun q41 => ?_) (fun q41 => ?_)
   ·refine TL.rn 2 rfl (TL.ov (gF dntfld119_1) ?_)
    refine TL.ov (gL 2 dntag117) ?_
    refine TL.gu ?_
    refine TL.fact (p := ∃ g, Ap = some ⟨g, 0, none⟩) (fun w1 hw => rowA hw (k := 1) rfl (by omega)) ?_
    rintro ⟨g_Ap, rfl⟩
    have hi46 : 0 < pp.length := by omega
    obtain ⟨x46, hx46⟩ := ex_at hi46
    refine TL.val rfl rfl rfl (gA (i := 0) Tryz.underlying90 dntsz64 rfl rfl rfl rfl rfl (by omega)) ?_
    refine TL.gu ?_
    refine TL.val rfl rfl rfl (gives_load (v := .slice x46.A x46.l.length x46.c) rfl rfl dntag64 (fun w1 hw => flat_row sgc_cel hw (q := 1) rfl hx46 0 _ rfl)) ?_
    refine TL.ov (gN Tryz.underlying96) ?_
    refine TL.gu ?_
    refine TL.sp bin_lss (fun q49 => ?_) (fun q49 => ?_)
    ·refine TL.rn 3 rfl (TL.gu ?_)
     refine TL.pcallCod (k := 4) (α := Bool) (fun x => .bool x) (fun x => []) rfl rfl rfl rfl rfl Tryz.func18 (by decide) rfl rfl (fun w1 hw hC1 => dbool_cod cb w1 hC1 3 (by decide)) ?_
     rintro b2
     dsimp only [List.cons_append, List.nil_append]
     cases b2 with
     | true =>
      refine TL.rn 2 rfl (zET (zd (zk (zT (zG (TL.rn 2 rfl ?_))))))
      refine TL.prowS (e := 30) (size := 1) (cs := flat (ic .u32) [ad]) rfl rfl rfl rfl rfl (fun w => dntbs64_1_5377 _ w) (by decide) rfl (fun g65 => ?_)
      refine TL.appendT (k := 1) rfl rfl rfl rfl Tryz.underlying96 dntel64 rfl rfl rfl (fun w1 hw => pm_reads hw (k := 0) rfl) (flat_one (ic_cel .u32) _) (by show _ * 4 ≤ _; omega) ((p ++ [ad]).length) (by rw [List.length_append]; rfl) (flat (ic .u32) (p ++ [ad])) ((flat_app _ _).symm) (fun A66 c66 hA661 hA662 => ?_)
      refine TL.as_ ?_
      refine zE (zN (zT (zG (TL.mv ?_))))
      refine TL.v (gD ((i + 1 : Nat) : Int)) ?_
      refine TL.as_ ?_
      refine zE ?_
      exact TX.round (⟨(i + 1, (A66, c66), p ++ [ad]), by dsimp only; omega, by dsimp only; rw [List.length_append]; show p.length + 1 = i + 1; omega, ad_snoc hpr (by omega), hA661, hA662⟩) (by show lg + 1 - (i + 1) < lg + 1 - i; omega) ⟨rfl, rfl, rfl, rfl, rfl, rfl, rfl, trivial⟩ (fun w1 hw => hw.sel (.cons _ (.cons_cons _ (.cons_cons _ (.cons_cons _ (.cons_cons _ (.cons_cons _ (List.Sublist.refl _))))))))
     | false =>
      refine TL.rn 2 rfl (zET (zc (zG (TL.v (gF dntfld119_1) ?_))))
      refine TL.v (gL 2 dntag117) ?_
      refine TL.val rfl rfl rfl (gA (i := 0) Tryz.underlying90 dntsz64 rfl rfl rfl rfl rfl (by omega)) ?_
      refine TL.val rfl rfl rfl (gives_load (v := .slice x46.A x46.l.length x46.c) rfl rfl dntag64 (fun w1 hw => flat_row sgc_cel hw (q := 1) rfl hx46 0 _ rfl)) ?_
      refine TL.mv ?_
      have hmm61 := seg_mem (e := 30) (size := 1) (enc := flat (ic .u32)) (T := oths cb w) (List.mem_of_getElem? hx46)
      refine TL.fact (p := ∃ g, x46.A = some ⟨g, 0, none⟩) (fun w1 hw => segA hw (List.mem_of_mem_drop (i := 5) (by exact hmm61)) (by omega)) ?_
      rintro ⟨gx61, hgx61⟩
      obtain ⟨z61, hz61⟩ : ∃ z, x46.l[i]? = some z := ⟨_, List.getElem?_eq_getElem (by omega)⟩
      refine TL.val rfl rfl rfl (gA (i := i) Tryz.underlying96 dntsz30 rfl rfl rfl rfl hgx61 (by omega)) ?_
      refine TL.val rfl rfl rfl (gives_load (v := .int .u32 z61) rfl rfl pcmag30 (fun w1 hw => seg_cell (ic_cel .u32) hw (List.mem_of_mem_drop (i := 5) (by exact hmm61)) hgx61 hz61 0 _ rfl)) ?_
      have hzr := (hpw x46 (List.mem_of_getElem? hx46)).2 z61 (List.mem_of_getElem? hz61)
      refine TL.as_ ?_
      refine zET (zG (TL.rn 2 rfl ?_))
      refine TL.prowS (e := 30) (size := 1) (cs := flat (ic .u32) [z61]) rfl rfl rfl rfl rfl (fun w => dntbs64_1_5377 _ w) (by decide) rfl (fun g65 => ?_)
      refine TL.appendT (k := 1) rfl rfl rfl rfl Tryz.underlying96 dntel64 rfl rfl rfl (fun w1 hw => pm_reads hw (k := 0) rfl) (flat_one (ic_cel .u32) _) (by show _ * 4 ≤ _; omega) ((p ++ [z61]).length) (by rw [List.length_append]; rfl) (flat (ic .u32) (p ++ [z61])) ((flat_app _ _).symm) (fun A66 c66 hA661 hA662 => ?_)
      refine TL.as_ ?_
      refine zE (zN (zT (zG (TL.mv ?_))))
      refine TL.v (gD ((i + 1 : Nat) : Int)) ?_
      refine TL.as_ ?_
      refine zE ?_
      exact TX.round (⟨(i + 1, (A66, c66), p ++ [z61]), by dsimp only; omega, by dsimp only; rw [List.length_append]; show p.length + 1 = i + 1; omega, ad_snoc hpr (by exact hzr), hA661, hA662⟩) (by show lg + 1 - (i + 1) < lg + 1 - i; omega) ⟨rfl, rfl, rfl, rfl, rfl, rfl, rfl, trivial⟩ (fun w1 hw => hw.sel (.cons _ (.cons_cons _ (.cons_cons _ (.cons_cons _ (.cons_cons _ (.cons_cons _ (List.Sublist.refl _))))))))
    refine TL.rn 6 rfl (zET (zd (zk (zT (zG (TL.rn 2 rfl ?_))))))
    refine TL.prowS (e := 30) (size := 1) (cs := flat (ic .u32) [ad]) rfl rfl rfl rfl rfl (fun w => dntbs64_1_5377 _ w) (by decide) rfl (fun g65 => ?_)
    refine TL.appendT (k := 1) rfl rfl rfl rfl Tryz.underlying96 dntel64 rfl rfl rfl (fun w1 hw => pm_reads hw (k := 0) rfl) (flat_one (ic_cel .u32) _) (by show _ * 4 ≤ _; omega) ((p ++ [ad]).length) (by rw [List.length_append]; rfl) (flat (ic .u32) (p ++ [ad])) ((flat_app _ _).symm) (fun A66 c66 hA661 hA662 => ?_)
    refine TL.as_ ?_
    refine zE (zN (zT (zG (TL.mv ?_))))
    refine TL.v (gD ((i + 1 : Nat) : Int)) ?_
    refine TL.as_ ?_
    refine zE ?_
    exact TX.round (⟨(i + 1, (A66, c66), p ++ [ad]), by dsimp only; omega, by dsimp only; rw [List.length_append]; show p.length + 1 = i + 1; omega, ad_snoc hpr (by omega), hA661, hA662⟩) (by show lg + 1 - (i + 1) < lg + 1 - i; omega) ⟨rfl, rfl, rfl, rfl, rfl, rfl, rfl, trivial⟩ (fun w1 hw => hw.sel (.cons _ (.cons_cons _ (.cons_cons _ (.cons_cons _ (.cons_cons _ (.cons_cons _ (List.Sublist.refl _))))))))
   refine TL.rn 14 rfl (zET (zd (zk (zT (zG (TL.rn 2 rfl ?_))))))
   refine TL.prowS (e := 30) (size := 1) (cs := flat (ic .u32) [ad]) rfl rfl rfl rfl rfl (fun w => dntbs64_1_5377 _ w) (by decide) rfl (fun g65 => ?_)
   refine TL.appendT (k := 1) rfl rfl rfl rfl Tryz.underlying96 dntel64 rfl rfl rfl (fun w1 hw => pm_reads hw (k := 0) rfl) (flat_one (ic_cel .u32) _) (by show _ * 4 ≤ _; omega) ((p ++ [ad]).length) (by rw [List.length_append]; rfl) (flat (ic .u32) (p ++ [ad])) ((flat_app _ _).symm) (fun A66 c66 hA661 hA662 => ?_)
   refine TL.as_ ?_
   refine zE (zN (zT (zG (TL.mv ?_))))
   refine TL.v (gD ((i + 1 : Nat) : Int)) ?_
   refine TL.as_ ?_
   refine zE ?_
   exact TX.round (⟨(i + 1, (A66, c66), p ++ [ad]), by dsimp only; omega, by dsimp only; rw [List.length_append]; show p.length + 1 = i + 1; omega, ad_snoc hpr (by omega), hA661, hA662⟩) (by show lg + 1 - (i + 1) < lg + 1 - i; omega) ⟨rfl, rfl, rfl, rfl, rfl, rfl, rfl, trivial⟩ (fun w1 hw => hw.sel (.cons _ (.cons_cons _ (.cons_cons _ (.cons_cons _ (.cons_cons _ (.cons_cons _ (List.Sublist.refl _))))))))
  refine zET (zd (zx (zX (zX (zM (zT (zG (TL.v (gF dntfld119_1) ?_))))))))
  refine TL.v (gL 2 dntag117) ?_
  refine TL.mv ?_
  refine TL.prowS (e := 96) (size := 1) (cs := flat sgc [(⟨Aq, cq, p⟩ : Sg Int)]) rfl rfl rfl rfl rfl (fun w => dntbs117_1_58639 _ _ _ w) (by decide) rfl (fun g70 => ?_)
  refine TL.appendT (k := 2) rfl rfl rfl rfl Tryz.underlying90 dntel117 rfl rfl rfl (fun w1 hw => pm_reads hw (k := 0) rfl) (flat_one sgc_cel _) (by show _ * 24 ≤ _; omega) ((pp ++ [(⟨Aq, cq, p⟩ : Sg Int)]).length) (by rw [List.length_append]; rfl) (flat sgc (pp ++ [(⟨Aq, cq, p⟩ : Sg Int)])) ((flat_app _ _).symm) (fun A71 c71 hA711 hA712 => ?_)
  refine TL.v (gF dntfld119_1) ?_
  refine TL.pstore (k := 3) (vs := [.slice A71 ((pp ++ [(⟨Aq, cq, p⟩ : Sg Int)]).length) c71]) rfl rfl rfl rfl rfl rfl rfl dntsz117 dntone_s (by show 4 ≤ 5; decide) rfl ?_
  refine zE (zN (zT (zG (TL.mv ?_))))
  refine TL.v (gD ((f + 1 : Nat) : Int)) ?_
  refine TL.as_ ?_
  refine zE ?_
  exact TX.round (⟨(f + 1, (A71, c71), pp ++ [(⟨Aq, cq, p⟩ : Sg Int)]), by dsimp only; omega, by dsimp only; rw [List.length_append]; show pp.length + 1 = f + 1; omega, pw_snoc hpw ⟨by show p.length = _; omega, hpr⟩, hA711, hA712⟩) (by show 3 - (f + 1) < 3 - f; omega) ⟨rfl, rfl, rfl, rfl, rfl, trivial⟩ (fun w1 hw => Pm.tuckEnd (s := ⟨Aq, cq, p⟩) (P := [.row (.slice A71 ((pp ++ [(⟨Aq, cq, p⟩ : Sg Int)]).length) c71) 96 1 ((pp ++ [(⟨Aq, cq, p⟩ : Sg Int)]).length) (flat sgc (pp ++ [(⟨Aq, cq, p⟩ : Sg Int)])), .blk g3 92 [.int .i64 tr.v, .int .u32 tr.dst, .int .i64 tr.proto, .slice A71 ((pp ++ [(⟨Aq, cq, p⟩ : Sg Int)]).length) c71, .int .u32 la], .blk g2 92 [.int .i64 0, .int .u32 0, .int .i64 0, .slice none 0 0, .int .u32 0], .abs cb (fun w => Cod w cb)]) (hw.sel (.cons _ (.cons_cons _ (.cons_cons _ (.cons_cons _ (.cons_cons _ (.cons_cons _ (List.Sublist.refl _)))))))))
 refine zET (zd (zx (zX (zX (zM (zT (zSG (TL.v (gV 1 (.agg #[.int .i64 tr.v, .int .u32 tr.dst, .int .i64 tr.proto, .slice Ap pp.length cp, .int .u32 la]) dntag119 dntsz119) ?_))))))))
 refine TL.pstore (k := 2) (vs := [.int .i64 tr.v, .int .u32 tr.dst, .int .i64 tr.proto, .slice Ap pp.length cp, .int .u32 la]) rfl rfl rfl rfl rfl rfl rfl dntsz119 dntone_i64u32i64su32 (by show 5 ≤ 5; decide) rfl ?_
 refine zET (zr ?_)
 exact pm_ret_cell (k := 2) Tryz.results63 rfl rfl Tryz.underlying92 rfl rfl (fun w1 hw => ⟨⟨⟨tr.v, tr.dst, tr.proto, ⟨Ap, cp, pp⟩, la⟩, ⟨htr, hla, lg + 1, by omega, by omega, by show 1 ≤ pp.length; omega, by show pp.length ≤ 3; omega, hpw⟩⟩, rfl, Pm.codr (netP ⟨Ap, cp, pp⟩) (Pm.netOut (p := ⟨Ap, cp, pp⟩) (hw.sel (.cons_cons _ (.cons _ (.cons _ (.cons_cons _ (List.Sublist.refl _))))))) (netP_noAbs _)⟩)
set_option maxRecDepth 20000
def RuG (u : Ru) : Prop := (1 ≤ u.los ∧ u.los ≤ 3) ∧ (1 ≤ u.gro ∧ u.gro ≤ 6) ∧ 1 ≤ u.prb ∧ u.prb ≤ 2
theorem RuG.vld {u : Ru} (h : RuG u) : vldRu u = true := by unfold RuG at h; unfold vldRu; exact decide_eq_true (by omega)
theorem adrzv28 (w : World) : (zeroValue 28).run Tryz.prog w = .ok (.agg #[.int .i64 0, .int .i64 0, .int .i64 0]) w := rfl
theorem adrbld28_57310 (a0_0 : Int) (a2_0 : Int) (a1_0 : Int) (w : World) : (Instr.build 28 #[(0, .int .i64 a0_0), (2, .int .i64 a2_0), (1, .int .i64 a1_0)]).run Tryz.prog w = .ok (.agg #[.int .i64 a0_0, .int .i64 a1_0, .int .i64 a2_0]) w := by kernel_rfl
theorem drule_cod (cb : Nat) (w : World) (hC : Cod w cb) :
  Calls Tryz.prog 20 #[.pointer (some ⟨cb, 0, none⟩)] w fun e w' => ∃ x : {u : Ru // RuG u}, e = .returned (.agg x.1.cells.toArray) ∧ Codr (fun w => Cod w cb) cb w ([]) w' := by
 refine begin_ (vs := [.pointer (some ⟨cb, 0, none⟩)]) (I := Pm ⟨w, cb⟩ (.abs cb (fun w => Cod w cb) :: oths cb w)) Tryz.func20 rfl rfl rfl ?_ (Pm.codes hC (cod_cells hC) (cod_stab cb))
 refine zSG ?_
 refine TL.pnew rfl rfl rfl (exec_alloc (cs := [.int .i64 0, .int .i64 0, .int .i64 0]) rfl adrzv28 rfl) (fun g2 => ?_)
 refine zET (zSG (TL.mv ?_))
 refine TL.pcallCod (k := 1) (α := {q9 : Nat // q9 ≤ 65535 ∧ (1 ≤ (3 : Int) → (q9 : Int) < 3)}) (fun q9 => .int .i64 ((q9.1 : Nat) : Int)) (fun q9 => []) rfl rfl rfl rfl rfl Tryz.func21 (by decide) rfl rfl (fun w1 hw hC1 => next_cod cb w1 3 hC1) ?_
 rintro ⟨a0, ha01, ha02⟩
 dsimp only [List.cons_append, List.nil_append]
 refine TL.v (gD ((1 + a0 : Nat) : Int)) ?_
 refine TL.mv ?_
 refine TL.pcallCod (k := 1) (α := {q9 : Nat // q9 ≤ 65535 ∧ (1 ≤ (2 : Int) → (q9 : Int) < 2)}) (fun q9 => .int .i64 ((q9.1 : Nat) : Int)) (fun q9 => []) rfl rfl rfl rfl rfl Tryz.func21 (by decide) rfl rfl (fun w1 hw hC1 => next_cod cb w1 2 hC1) ?_
 rintro ⟨a1, ha11, ha12⟩
 dsimp only [List.cons_append, List.nil_append]
 refine TL.v (gD ((1 + a1 : Nat) : Int)) ?_
 refine TL.mv ?_
 refine TL.pcallCod (k := 1) (α := {q9 : Nat // q9 ≤ 65535 ∧ (1 ≤ (6 : Int) → (q9 : Int) < 6)}) (fun q9 => .int .i64 ((q9.1 : Nat) : Int)) (fun q9 => []) rfl rfl rfl rfl rfl Tryz.func21 (by decide) rfl rfl (fun w1 hw hC1 => next_cod cb w1 6 hC1) ?_
 rintro ⟨a2, ha21, ha22⟩
 dsimp only [List.cons_append, List.nil_append]
 refine TL.v (gD ((1 + a2 : Nat) : Int)) ?_
 refine TL.val rfl rfl rfl (gives_build (v := .agg #[.int .i64 ((1 + a0 : Nat) : Int), .int .i64 ((1 + a2 : Nat) : Int), .int .i64 ((1 + a1 : Nat) : Int)]) rfl rfl (fun w => adrbld28_57310 _ _ _ w)) ?_
 refine TL.pstore (k := 0) (vs := [.int .i64 ((1 + a0 : Nat) : Int), .int .i64 ((1 + a2 : Nat) : Int), .int .i64 ((1 + a1 : Nat) : Int)]) rfl rfl rfl rfl rfl rfl rfl aprsz28 prsone_i64i64i64 (by show 3 ≤ 3; decide) rfl ?_
 refine zET (zr ?_)
 exact pm_ret_cell (k := 0) Tryz.results20 rfl rfl Tryz.underlying28 rfl rfl (fun w1 hw => ⟨⟨⟨((1 + a0 : Nat) : Int), ((1 + a2 : Nat) : Int), ((1 + a1 : Nat) : Int)⟩, by unfold RuG; dsimp only; omega⟩, rfl, Pm.codr [] (hw.sel (.cons _ (.cons_cons _ (List.Sublist.refl _)))) rfl⟩)
open Go.RowKit Go.Shelf
theorem rpk_len (x : Rp) : x.keys.length = 8 := rfl
theorem rpk_inj {x y : Rp} (h : x.keys = y.keys) : x = y := by
  cases x; cases y
  simp only [Rp.keys, List.cons.injEq, and_true] at h
  simp only [Rp.mk.injEq]
  exact h
def Rp.cand (p : Rp) : Rp := { p with at_ := 0 }
def Rp.when (p : Rp) (t : Int) : Rp := { p with at_ := t }
theorem like_iff {p q : Rp} : p.when q.at_ = q ↔ p.cand = q.cand := by
  cases p; cases q; simp [Rp.when, Rp.cand]
theorem cand_eq {p q : Rp} (h : p.cand = q.cand) (ha : p.at_ = q.at_) : p = q := by
  rw [← like_iff, ← ha] at h; exact h
def IsMin (P S : Rp → Prop) (out : List Rp) : Prop := AscK Rp.keys out ∧ ∀ p, p ∈ out ↔ S p ∧ P p ∧ ∀ q, S q → q.cand = p.cand → P q → p.at_ ≤ q.at_
section
variable {P S S' : Rp → Prop} {out o1 : List Rp} {p : Rp}
theorem IsMin.eq {a b : List Rp} (h : IsMin P S a) (h' : IsMin P S b) : a = b := ascK_eq rpk_len h.1 h'.1 fun x => by rw [h.2, h'.2]
theorem IsMin.congr (h : IsMin P S out) (hS : ∀ p, S p ↔ S' p) : IsMin P S' out := by
  have : S = S' := funext fun p => propext (hS p)
  rw [← this]; exact h
theorem IsMin.nil (hS : ∀ p, ¬ S p) : IsMin P S [] := ⟨List.Pairwise.nil, fun p => ⟨fun h => absurd h List.not_mem_nil, fun h => absurd h.1 (hS p)⟩⟩
theorem least {R : Rp → Prop} (h0 : ∀ p, R p → 0 ≤ p.at_) : ∀ (n : Nat) {q : Rp}, R q → q.at_ ≤ n → ∃ m, R m ∧ ∀ x, R x → m.at_ ≤ x.at_
  | 0, q, hq, hn => ⟨q, hq, fun x hx => by have := h0 x hx; have := h0 q hq; omega⟩
  | n + 1, q, hq, hn => by
    by_cases h : ∃ x, R x ∧ x.at_ ≤ n
    · obtain ⟨x, hx, h1⟩ := h
      exact least h0 n hx h1
    · exact ⟨q, hq, fun x hx => by
        have : ¬ x.at_ ≤ n := fun h1 => h ⟨x, hx, h1⟩
        omega⟩
theorem IsMin.ex (h : IsMin P S out) (h0 : ∀ p, P p → 0 ≤ p.at_) {q : Rp} (hS : S q) (hP : P q) : ∃ m ∈ out, m.cand = q.cand ∧ m.at_ ≤ q.at_ := by
  obtain ⟨m, ⟨h1, h2, h3⟩, h4⟩ := least (R := fun x => S x ∧ P x ∧ x.cand = q.cand) (fun x hx => h0 x hx.2.1) q.at_.toNat ⟨hS, hP, rfl⟩ (by have := h0 q hP; omega)
  exact ⟨m, (h.2 m).2 ⟨h1, h2, fun x hx hc hp => h4 x ⟨hx, hp, hc.trans h3⟩⟩, h3, h4 q ⟨hS, hP, rfl⟩⟩
theorem IsMin.skip (h : IsMin P S out) (hn : P p → ∃ q ∈ out, q.cand = p.cand ∧ q.at_ ≤ p.at_) : IsMin P (fun x => S x ∨ x = p) out := by
  refine ⟨h.1, fun x => ?_⟩
  rw [h.2]
  constructor
  · rintro ⟨h1, h2, h3⟩
    refine ⟨.inl h1, h2, fun q hq hc hP => ?_⟩
    rcases hq with hq | rfl
    · exact h3 q hq hc hP
    · obtain ⟨m, hm, hmc, hma⟩ := hn hP
      obtain ⟨m1, m2, m3⟩ := (h.2 m).1 hm
      have := h3 m m1 (hmc.trans hc) m2
      omega
  · rintro ⟨h1, h2, h3⟩
    rcases h1 with h1 | rfl
    · exact ⟨h1, h2, fun q hq => h3 q (.inl hq)⟩
    · obtain ⟨m, hm, hmc, hma⟩ := hn h2
      obtain ⟨m1, m2, m3⟩ := (h.2 m).1 hm
      have := h3 m (.inl m1) hmc m2
      have e : m = x := cand_eq hmc (by omega)
      subst e
      exact ⟨m1, m2, m3⟩
theorem IsMin.put (h : IsMin P S out) (h0 : ∀ p, P p → 0 ≤ p.at_) (hP : P p) (hn : ∀ q ∈ out, q.cand = p.cand → p.at_ < q.at_) (ho : AscK Rp.keys o1) (hm : ∀ x, x ∈ o1 ↔ x ∈ out ∧ x.cand ≠ p.cand) {k : Nat} (h1 : ∀ y ∈ o1.take k, lexI y.keys p.keys < 0) (h2 : ∀ y ∈ o1.drop k, lexI p.keys y.keys < 0) : IsMin P (fun x => S x ∨ x = p) (o1.take k ++ p :: o1.drop k) := by
  refine ⟨ascK_put rpk_len ho h1 h2, fun x => ?_⟩
  rw [mem_put, hm, h.2]
  constructor
  · rintro (⟨⟨a1, a2, a3⟩, a4⟩ | rfl)
    · refine ⟨.inl a1, a2, fun q hq hc hP => ?_⟩
      rcases hq with hq | rfl
      · exact a3 q hq hc hP
      · exact absurd hc.symm a4
    · refine ⟨.inr rfl, hP, fun q hq hc hQ => ?_⟩
      rcases hq with hq | rfl
      · obtain ⟨m, hm1, hmc, hma⟩ := h.ex h0 hq hQ
        have := hn m hm1 (hmc.trans hc)
        omega
      · exact Int.le_refl _
  · rintro ⟨a1, a2, a3⟩
    rcases a1 with a1 | rfl
    · by_cases hc : x.cand = p.cand
      · have b1 := a3 p (.inr rfl) hc.symm hP
        have hx : x ∈ out := (h.2 x).2 ⟨a1, a2, fun q hq => a3 q (.inl hq)⟩
        have := hn x hx hc
        omega
      · exact .inl ⟨⟨a1, a2, fun q hq => a3 q (.inl hq)⟩, hc⟩
    · exact .inr rfl
end
open Go.RowKit Go.Shelf
def IsTm (l : List Rs) (p : Rp) : Prop := ∃ y, IsSt l p.trc p.flow y ∧ ∃ r ∈ y, r.at_ = p.at_
def IsFnd (es : List En) (l : List Rs) (u : Ru) (out : List Rp) : Prop := IsMin (PrP es l u) (IsTm l) out
theorem IsFnd.eq {es : List En} {l : List Rs} {u : Ru} {a b : List Rp} (h : IsFnd es l u a) (h' : IsFnd es l u b) : a = b := IsMin.eq h h'
theorem PrP.at0 {es : List En} {l : List Rs} {u : Ru} {p : Rp} (h : PrP es l u p) : 0 ≤ p.at_ := by
  have := h.2.1
  unfold vldRp at this
  simp only [Bool.and_eq_true, decide_eq_true_eq] at this
  omega
def CandOf (es : List En) (r : Rs) (p : Rp) : Prop := p.trc = trcR r ∧ p.flow = r.flow ∧ ((p.kind = 1 ∧ p.ttl = 0 ∧ p.prov = 0) ∨ (p.kind = 3 ∧ p.ttl = r.ttl ∧ p.prov = 0) ∨ (p.kind = 2 ∧ r.ans = true ∧ p.ttl = r.ttl ∧ p.prov = provR es r.src r.back))
theorem IsSt.mem {l y : List Rs} {t : Trc} {flow : Int} (h : IsSt l t flow y) (r : Rs) : r ∈ y ↔ r ∈ l ∧ trcR r = t ∧ usbRs r = true ∧ r.flow = flow := by
  obtain ⟨x, ⟨o, h1, rfl⟩, rfl⟩ := h
  rw [List.mem_filter, List.mem_filter, h1.2]
  simp only [Bool.and_eq_true, decide_eq_true_eq, usbRs]
  exact ⟨fun ⟨⟨⟨a, b⟩, c⟩, d, e⟩ => ⟨a, c, d, e⟩, fun ⟨a, c, d, e⟩ => ⟨⟨⟨a, d.2⟩, c⟩, d, e⟩⟩
theorem CandOf.like {es : List En} {r : Rs} {p q : Rp} (h : CandOf es r p) (hc : q.cand = p.cand) : CandOf es r q := by
  have h2 := (like_iff (p := p) (q := q)).2 hc.symm
  rw [← h2]
  exact h
def PrS (es : List En) (y : List Rs) (u : Ru) (p : Rp) : Prop :=
  (p.kind = 1 ∧ p.ttl = 0 ∧ p.prov = 0 ∧ bhF y u.los p.at_ = true) ∨
  (p.kind = 3 ∧ p.prov = 0 ∧ CgF (eaL (atL y p.ttl) p.at_) (laL (atL y p.ttl) p.at_) u.prb u.gro) ∨
  (p.kind = 2 ∧ p.prov ≠ 0 ∧ DtF (fun r : Rs => provR es r.src r.back) (atL y p.ttl) p.prov p.at_)
theorem lookR_mem (a t : Int) : ∀ (es : List En) (q : En × Bool), (es.foldl (stepL a t) q).1 ∈ es ∨ (es.foldl (stepL a t) q) = q
  | [], q => .inr rfl
  | e :: es, q => by
    rw [List.foldl_cons]
    rcases lookR_mem a t es (stepL a t q e) with h | h
    · exact .inl (List.mem_cons_of_mem _ h)
    · rw [h]
      unfold stepL
      split
      · exact .inl List.mem_cons_self
      · exact .inr rfl
theorem provR_range {es : List En} (a t : Int) : 0 ≤ provR es a t ∧ provR es a t ≤ 2147483647 := by
  unfold provR lookV
  split
  · rename_i hv
    rcases lookR_mem a t es (En.zero, false) with h | h
    · unfold lookR
      obtain ⟨i, hi⟩ := List.getElem?_of_mem h
      have hv2 := hv
      simp only [validR, Bool.and_eq_true, decide_eq_true_eq, List.all_eq_true, List.mem_range] at hv2
      have h3 := hv2.2 i (List.getElem?_eq_some_iff.1 hi).1
      unfold okAt at h3
      rw [hi] at h3
      simp only [validE, Bool.and_eq_true, decide_eq_true_eq] at h3
      omega
    · unfold lookR; rw [h]; exact ⟨by decide, by decide⟩
  · exact ⟨by decide, by decide⟩
theorem chk_probe {r : Rs} (h : chkR r = 0) : chkR ⟨r.v, 0, 0, 0, r.dst, r.proto, r.flow, 1, false, false, 0, 0, 0, 0, 0, 0, 0⟩ = 0 := by
  have hr : r.inRange := Decidable.by_contra fun h1 => by have := chk_range h1; omega
  unfold Rs.inRange at hr
  unfold chkR at h ⊢
  rw [if_neg (by rw [Decidable.not_not]; unfold Rs.inRange; omega)] at h
  split at h
  · cases h
  · rename_i hp
    rw [if_neg (by rw [Decidable.not_not]; unfold Rs.inRange; dsimp only; omega), if_neg (by dsimp only; exact hp)]
    simp [Rs.noAns]
theorem vld_probe {r : Rs} {p : Rp} (h : vldRs r = true) (ht : p.trc = trcR r) (hf : p.flow = r.flow) : vldRs p.rs = true := by
  unfold Rp.trc trcR at ht
  injection ht with h1 h2 h3
  unfold vldRs at h ⊢
  simp only [Bool.and_eq_true, decide_eq_true_eq] at h ⊢
  unfold Rp.rs
  rw [h1, h2, h3, hf]
  exact ⟨⟨chk_probe h.1.1, h.1.2⟩, rfl⟩
theorem prS_iff {es : List En} {l y : List Rs} {u : Ru} {p : Rp} (hu : vldRu u = true) (he : validR es = true) (hy : IsSt l p.trc p.flow y) {r : Rs} (hr : r ∈ y) (ha : r.at_ = p.at_) : PrS es y u p ↔ PrP es l u p := by
  have hm := (hy.mem r).1 hr
  have hv : vldRs r = true := by have := hm.2.2.1; unfold usbRs at this; simp only [Bool.and_eq_true] at this; exact this.2
  have hin := vld_in hv
  unfold Rs.inRange at hin
  have hprb : 1 ≤ u.prb := by unfold vldRu at hu; have := of_decide_eq_true hu; omega
  have hvp := vld_probe hv hm.2.1.symm hm.2.2.2.symm
  have httl : ∀ r ∈ y, 1 ≤ r.ttl ∧ r.ttl ≤ 255 := fun r hr => by
    have h1 := ((hy.mem r).1 hr).2.2.1
    unfold usbRs at h1
    simp only [Bool.and_eq_true] at h1
    have := vld_in h1.2
    unfold Rs.inRange at this
    omega
  constructor
  · rintro (⟨a1, a2, a3, a4⟩ | ⟨a1, a2, a3⟩ | ⟨a1, a2, a3⟩)
    · refine ⟨hu, ?_, he, .inl ⟨a1, y, hy, a4⟩⟩
      unfold vldRp; rw [hvp, Bool.true_and]; exact decide_eq_true (by omega)
    · refine ⟨hu, ?_, he, .inr (.inr ⟨a1, .inr ⟨y, hy, a3⟩⟩)⟩
      obtain ⟨e, h1, _⟩ := a3
      obtain ⟨s, hs, _⟩ := ea_mem h1
      have h8 := List.mem_filter.1 hs
      simp only [Bool.and_eq_true, decide_eq_true_eq] at h8
      have := httl s h8.1
      unfold vldRp; rw [hvp, Bool.true_and]; exact decide_eq_true (by omega)
    · refine ⟨hu, ?_, he, .inr (.inl ⟨a1, y, hy, a3⟩)⟩
      obtain ⟨a, ha, _, b, hb, hb1, hb2, hb3⟩ := a3
      have h8 := List.mem_filter.1 hb
      simp only [Bool.and_eq_true, decide_eq_true_eq] at h8
      have := httl b h8.1
      have h9 := provR_range (es := es) b.src b.back
      dsimp only at hb2
      rw [hb2] at h9
      unfold vldRp; rw [hvp, Bool.true_and]; exact decide_eq_true (by omega)
  · rintro ⟨_, h2, _, h4⟩
    unfold vldRp at h2
    simp only [Bool.and_eq_true, decide_eq_true_eq] at h2
    rcases h4 with ⟨a1, y', a2, a3⟩ | ⟨a1, y', a2, a3⟩ | ⟨a1, a2⟩
    · rw [← hy.eq a2] at a3; exact .inl ⟨a1, by omega, by omega, a3⟩
    · rw [← hy.eq a2] at a3; exact .inr (.inr ⟨a1, by omega, a3⟩)
    · rcases a2 with a2 | ⟨y', a2, a3⟩
      · omega
      · rw [← hy.eq a2] at a3; exact .inr (.inl ⟨a1, by omega, a3⟩)
open Go.RowKit Go.Shelf
theorem CandOf.ok {es : List En} {x : Rs} {p : Rp} (h : CandOf es x p) (hx : x.Ok) : p.Ok := by
  have h1 := h.1
  unfold Rp.trc trcR at h1
  injection h1 with a b c
  unfold Rp.Ok
  rw [b]
  exact ⟨hx.1, hx.2.1⟩
theorem IsSt.leo {l y o : List Rs} {t : Trc} {flow : Int} (h : IsSt l t flow y) (ho : IsOrd l o) : y.length ≤ o.length := by
  obtain ⟨x, ⟨o', h1, rfl⟩, rfl⟩ := h
  rw [ho.eq h1]
  exact Nat.le_trans (List.length_filter_le _ _) (List.length_filter_le _ _)
def FndOk (es : List En) (l : List Rs) (u : Ru) (out : List Rp) (z : Int) : Prop :=
  (z = 1 ∧ out = [] ∧ ¬ ((∀ r ∈ l, vldRs r = true) ∧ validR es = true ∧ vldRu u = true)) ∨
  (z = 5 ∧ out = [] ∧ ((∀ r ∈ l, vldRs r = true) ∧ validR es = true ∧ vldRu u = true) ∧ ∃ o, IsOrd l o ∧ 512 < o.length) ∨
  (z = 0 ∧ IsFnd es l u out ∧ ((∀ r ∈ l, vldRs r = true) ∧ validR es = true ∧ vldRu u = true) ∧ ∃ o, IsOrd l o ∧ o.length ≤ 512)
theorem FndOk.eq {es : List En} {l : List Rs} {u : Ru} {out out' : List Rp} {z z' : Int} (h : FndOk es l u out z) (h' : FndOk es l u out' z') : out = out' ∧ z = z' := by
  rcases h with ⟨rfl, h1, h2⟩ | ⟨rfl, h1, h2, o, h3, h4⟩ | ⟨rfl, h1, h2, o, h3, h4⟩ <;> rcases h' with ⟨rfl, g1, g2⟩ | ⟨rfl, g1, g2, o', g3, g4⟩ | ⟨rfl, g1, g2, o', g3, g4⟩
  · exact ⟨h1.trans g1.symm, rfl⟩
  · exact absurd g2 h2
  · exact absurd g2 h2
  · exact absurd h2 g2
  · exact ⟨h1.trans g1.symm, rfl⟩
  · rw [h3.eq g3] at h4; omega
  · exact absurd h2 g2
  · rw [h3.eq g3] at h4; omega
  · exact ⟨h1.eq g1, rfl⟩
section
variable {es : List En} {l o own : List Rs} {i k n : Nat} {x s : Rs} {al : List Rp} {c : Rp} {u : Ru} {out : List Rp} {P : Rp → Prop} {t : Int}
end
set_option maxRecDepth 20000
def EarB (P : Int → Bool) (p : Rp) (ts : List Int) (o : List Rp) : Prop := (o = [] ∧ ∀ t ∈ ts, P t = false) ∨ ∃ (i : Nat) (t : Int), ts[i]? = some t ∧ (∀ s ∈ ts.take i, P s = false) ∧ P t = true ∧ o = [p.when t]
theorem aeaag106 (w : World) : (isAgg 106).run Tryz.prog w = .ok false w := rfl
theorem aeaone_i64 {a0 : Int} : ∀ u ∈ [(.int .i64 a0 : Value)], u.oneCell' = true := by
 intro u hu
 rw [List.mem_singleton] at hu
 subst hu; rfl
theorem aeabs49_1_10276 (a0_0 : Int) (a0_1 : Int) (a0_2 : Int) (a0_3 : Int) (a0_4 : Int) (a0_5 : Int) (a0_6 : Int) (a0_7 : Int) (w : World) : (Instr.buildSlice 49 1 #[(0, .agg #[.int .i64 a0_0, .int .i64 a0_1, .int .u32 a0_2, .int .i64 a0_3, .int .i64 a0_4, .int .i64 a0_5, .int .i64 a0_6, .int .i64 a0_7])]).run Tryz.prog w = .ok (.slice (some ⟨w.heap.size, 0, none⟩) 1 1) (w.alloc (.cells [.int .i64 a0_0, .int .i64 a0_1, .int .u32 a0_2, .int .i64 a0_3, .int .i64 a0_4, .int .i64 a0_5, .int .i64 a0_6, .int .i64 a0_7].toArray 34)) := by kernel_rfl
theorem srch1_any (A0 : Option Addr) (c0 : Nat) (l : List Rs) (u : Ru) (t : Int) (g1 g2 : Nat) (w : World) (hr : Reads w w.heap.size 17 A0 l.length (flat Rs.cells l)) (hl1 : l.length ≤ 100000) (hg1 : g1 < w.heap.size) (hc1 : w.cell? ⟨g1, 0, none⟩ = some (.slice A0 l.length c0)) (hg2 : g2 < w.heap.size) (hc2 : w.cell? ⟨g2, 0, none⟩ = some (.int .i64 u.los)) :
  Calls Tryz.prog 141 #[.int .i64 t, .pointer (some ⟨g1, 0, none⟩), .pointer (some ⟨g2, 0, none⟩)] w fun e w' => e = .returned (.bool (bhF l u.los t)) ∧ Below w.heap.size w w' := by
 refine begin_ (vs := [.int .i64 t, .pointer (some ⟨g1, 0, none⟩), .pointer (some ⟨g2, 0, none⟩)]) Tryz.func141 rfl rfl rfl ?_ (Pm.start w)
 refine zSG (TL.as_ ?_)
 refine zET (zSG ?_)
 refine TL.val rfl rfl rfl (gives_load (v := .slice A0 l.length c0) rfl rfl mcoag23 (fun w1 hw => (hw.bel.cell hg1).trans hc1)) ?_
 refine TL.v (gF arpfld28_0) ?_
 refine TL.val rfl rfl rfl (gives_load (v := .int .i64 u.los) rfl rfl pcmag3 (fun w1 hw => (hw.bel.cell hg2).trans hc2)) ?_
 refine TL.mv ?_
 refine TL.pcall1 (r := .bool (bhF l u.los t)) rfl rfl rfl rfl rfl Tryz.func72 (by decide) rfl (fun w1 hw => blackhole_l A0 c0 l u.los t w1 (hr.up hw.bel) hl1) ?_
 refine TL.as_ ?_
 refine zET (zr ?_)
 exact ret_tmp Tryz.results141 rfl (fun w1 hw => ⟨rfl, hw.bel⟩)
theorem srch2_any (A0 : Option Addr) (c0 : Nat) (l : List Rs) (u : Ru) (t : Int) (g1 g2 : Nat) (w : World) (hr : Reads w w.heap.size 17 A0 l.length (flat Rs.cells l)) (hl1 : l.length ≤ 100000) (hin : ∀ r ∈ l, r.inRange) (hg1 : g1 < w.heap.size) (hc1 : w.cell? ⟨g1, 0, none⟩ = some (.slice A0 l.length c0)) (hg2 : g2 < w.heap.size) (hc2 : ∀ (j : Nat) (v : Value), u.cells[j]? = some v → w.cell? ⟨g2, 0 + j, none⟩ = some v) :
  Calls Tryz.prog 142 #[.int .i64 t, .pointer (some ⟨g1, 0, none⟩), .pointer (some ⟨g2, 0, none⟩)] w fun e w' => ∃ x : {b : Bool // b = true ↔ u.prb < 1 ∨ CgF (eaL l t) (laL l t) u.prb u.gro}, e = .returned (.bool x.1) ∧ Below w.heap.size w w' := by
 refine begin_ (vs := [.int .i64 t, .pointer (some ⟨g1, 0, none⟩), .pointer (some ⟨g2, 0, none⟩)]) Tryz.func142 rfl rfl rfl ?_ (Pm.start w)
 refine zSG (TL.as_ ?_)
 refine zET (zSG ?_)
 refine TL.val rfl rfl rfl (gives_load (v := .slice A0 l.length c0) rfl rfl mcoag23 (fun w1 hw => (hw.bel.cell hg1).trans hc1)) ?_
 refine TL.val rfl rfl rfl (gives_loadR (off := 0) rfl rfl aprag28 aprsz28 (ru_cel.len u) (fun w1 hw j9 u9 h9 => (hw.bel.cell hg2).trans (hc2 j9 u9 h9))) ?_
 refine TL.mv ?_
 refine TL.pcallPm (α := {b : Bool // b = true ↔ u.prb < 1 ∨ CgF (eaL l t) (laL l t) u.prb u.gro}) (fun x => .bool x.1) (fun x => []) rfl rfl rfl rfl rfl Tryz.func76 (by decide) rfl (fun w1 hw => (congestion_l A0 c0 l u t w1 (hr.up hw.bel) hl1 hin).mono fun en w2 ⟨x, h1, h2⟩ => ⟨x, h1, (Pm.start w1).below h2⟩) ?_
 rintro ⟨bd, hbd⟩
 dsimp only [List.cons_append, List.nil_append]
 refine TL.as_ ?_
 refine zET (zr ?_)
 exact ret_tmp Tryz.results142 rfl (fun w1 hw => ⟨⟨bd, hbd⟩, rfl, hw.bel⟩)
theorem srch3_any (A0 : Option Addr) (c0 : Nat) (l : List Rs) (A1 : Option Addr) (c1 : Nat) (ps : List Int) (f : Rs → Int) (prov t : Int) (g1 g2 g3 : Nat) (w : World) (hr : Reads w w.heap.size 17 A0 l.length (flat Rs.cells l)) (hl1 : l.length ≤ 100000) (hr1 : Reads w w.heap.size 1 A1 ps.length (flat (ic .i64) ps)) (hps : ps = l.map f) (hg1 : g1 < w.heap.size) (hc1_ : w.cell? ⟨g1, 0, none⟩ = some (.slice A0 l.length c0)) (hg2 : g2 < w.heap.size) (hc2_ : w.cell? ⟨g2, 0, none⟩ = some (.slice A1 ps.length c1)) (hg3 : g3 < w.heap.size) (hc3_ : w.cell? ⟨g3, 7, none⟩ = some (.int .i64 prov)) :
  Calls Tryz.prog 144 #[.int .i64 t, .pointer (some ⟨g1, 0, none⟩), .pointer (some ⟨g2, 0, none⟩), .pointer (some ⟨g3, 0, none⟩)] w fun e w' => ∃ x : {b : Bool // b = true ↔ DtF f l prov t}, e = .returned (.bool x.1) ∧ Below w.heap.size w w' := by
 refine begin_ (vs := [.int .i64 t, .pointer (some ⟨g1, 0, none⟩), .pointer (some ⟨g2, 0, none⟩), .pointer (some ⟨g3, 0, none⟩)]) Tryz.func144 rfl rfl rfl ?_ (Pm.start w)
 refine zSG (TL.as_ ?_)
 refine zET (zSG ?_)
 refine TL.val rfl rfl rfl (gives_load (v := .slice A0 l.length c0) rfl rfl mcoag23 (fun w1 hw => (hw.bel.cell hg1).trans hc1_)) ?_
 refine TL.val rfl rfl rfl (gives_load (v := .slice A1 ps.length c1) rfl rfl aeaag106 (fun w1 hw => (hw.bel.cell hg2).trans hc2_)) ?_
 refine TL.v (gF arpfld34_5) ?_
 refine TL.val rfl rfl rfl (gives_load (v := .int .i64 prov) rfl rfl pcmag3 (fun w1 hw => (hw.bel.cell hg3).trans hc3_)) ?_
 refine TL.mv ?_
 refine TL.pcallPm (α := {b : Bool // b = true ↔ DtF f l prov t}) (fun x => .bool x.1) (fun x => []) rfl rfl rfl rfl rfl Tryz.func81 (by decide) rfl (fun w1 hw => (detour_l A0 c0 l A1 c1 ps f prov t w1 (hr.up hw.bel) hl1 (hr1.up hw.bel) hps).mono fun en w2 ⟨x, h1, h2⟩ => ⟨x, h1, (Pm.start w1).below h2⟩) ?_
 rintro ⟨bd, hbd⟩
 dsimp only [List.cons_append, List.nil_append]
 refine TL.as_ ?_
 refine zET (zr ?_)
 exact ret_tmp Tryz.results144 rfl (fun w1 hw => ⟨⟨bd, hbd⟩, rfl, hw.bel⟩)
theorem earliest_any (w0 : Base) (F : List Pc) (A0 : Option Addr) (c0 : Nat) (ts : List Int) (p : Rp) (P : Int → Bool) (f : FuncId) (fn : Func) (cap : Array Value) (w : World) (hw0 : Pm w0 ([.row (.slice A0 ts.length c0) 3 1 ts.length (flat (ic .i64) ts)] ++ F) w) (hl1 : ts.length ≤ 1000000) (hfn : Tryz.prog.funcs[f]? = some fn) (hnm : (fn.name == "runtime.NumGoroutine") = false) (hbd : fn.body.isNone = false) (hf : ∀ (t : Int) (w1 : World), (∃ L1, Pm w0 (L1 ++ F) w1) → Calls Tryz.prog f (#[] ++ [Value.int .i64 t].toArray ++ cap) w1 fun e w' => e = .returned (.bool (P t)) ∧ Below w1.heap.size w1 w') :
  Calls Tryz.prog 140 #[.agg p.cells.toArray, .slice A0 ts.length c0, .func (.func f) #[] cap] w fun e w' => ∃ y : {y : (Option Addr × Nat) × List Rp // EarB P p ts y.2 ∧ y.2.length ≤ 1 ∧ y.2.length ≤ y.1.2 ∧ y.1.2 ≤ maxLen}, e = .returned (.slice y.1.1.1 y.1.2.length y.1.1.2) ∧ Pm w0 ([.row (.slice y.1.1.1 y.1.2.length y.1.1.2) 34 8 y.1.2.length (flat Rp.cells y.1.2), .row (.slice A0 ts.length c0) 3 1 ts.length (flat (ic .i64) ts)] ++ F) w' := by
 refine begin_ (vs := [.agg p.cells.toArray, .slice A0 ts.length c0, .func (.func f) #[] cap]) (I := Pm w0 ([.row (.slice A0 ts.length c0) 3 1 ts.length (flat (ic .i64) ts)] ++ F)) Tryz.func140 rfl rfl rfl ?_ hw0
 refine zSG ?_
 refine TL.pnew rfl rfl rfl (exec_box (cs := p.cells) rfl rfl rfl) (fun g3 => ?_)
 refine TL.as_ ?_
 refine zET (zS (zSG (TL.mv ?_)))
 refine TL.v (gN Tryz.underlying106) ?_
 refine TL.mv ?_
 refine zET (zB ?_)
 refine TC.loop_ (α := {i : Nat // i ≤ ts.length ∧ ∀ t ∈ ts.take i, P t = false}) (fun y => [(2, .func (.func f) #[] cap), (3, .pointer (some ⟨g3, 0, none⟩)), (9, .slice A0 ts.length c0), (10, .int .i64 (ts.length : Nat)), (11, .int .i64 ((y.1 : Nat) : Int))]) (fun y => Pm w0 ([.blk g3 34 p.cells, .row (.slice A0 ts.length c0) 3 1 ts.length (flat (ic .i64) ts)] ++ F)) (fun y => ts.length - y.1) (⟨0, Nat.zero_le _, fun r hr => by rw [List.take_zero] at hr; cases hr⟩) ⟨rfl, rfl, rfl, rfl, rfl, trivial⟩ (fun w1 hw => hw) ?_
 rintro ⟨i, hi, hall⟩
 try dsimp only at hi hall ⊢
 refine zSG ?_
 refine TL.sp bin_lss (fun q12 => ?_) (fun q12 => ?_)
 ·refine zET (zS (zc (zk (zT (zS (zB (zSG ?_)))))))
  refine TL.fact (p := ∃ g, A0 = some ⟨g, 0, none⟩) (fun w1 hw => rowA hw (k := 1) rfl (by omega)) ?_
  rintro ⟨g_A0, rfl⟩
  have hi13 : i < ts.length := by omega
  obtain ⟨x13, hx13⟩ := ex_at hi13
  refine TL.val rfl rfl rfl (gA (i := i) Tryz.underlying106 pcmsz3 rfl rfl rfl rfl rfl (by omega)) ?_
  refine TL.val rfl rfl rfl (gives_load (v := .int .i64 x13) rfl rfl pcmag3 (fun w1 hw => flat_row (ic_cel .i64) hw (q := 1) rfl hx13 0 _ rfl)) ?_
  refine TL.as_ ?_
  refine zET (zSG (TL.rn 2 rfl ?_))
  obtain ⟨bv, hbv⟩ : ∃ b, P x13 = b := ⟨_, rfl⟩
  refine TL.callE1 (r := .bool bv) rfl rfl rfl (ent_val rfl rfl rfl hfn hnm hbd rfl) (fun w1 hw => by rw [← hbv]; exact hf x13 w1 ⟨_, hw⟩) ?_
  refine zET ?_
  refine TC.split (t := bv) rfl (fun c17 => ?_) (fun c17 => ?_)
  ·refine zSG (TL.mv ?_)
   refine TL.v (gF arpfld34_4) ?_
   refine TL.pstore (k := 0) (vs := [.int .i64 x13]) rfl rfl rfl rfl rfl rfl rfl pcmsz3 aeaone_i64 (by show 7 ≤ 8; decide) rfl ?_
   refine zET (zSG (TL.v (gV 0 (.agg #[.int .i64 p.kind, .int .i64 p.v, .int .u32 p.dst, .int .i64 p.proto, .int .i64 p.flow, .int .i64 p.ttl, .int .i64 x13, .int .i64 p.prov]) aprag34 aprsz34) ?_))
   refine TL.prowS (e := 34) (size := 8) (cs := flat Rp.cells [(⟨p.kind, p.v, p.dst, p.proto, p.flow, p.ttl, x13, p.prov⟩ : Rp)]) rfl rfl rfl rfl rfl (fun w => aeabs49_1_10276 _ _ _ _ _ _ _ _ w) (by decide) rfl (fun g21 => ?_)
   refine TL.as_ ?_
   refine zET (zr (zRR (zR (zRR ?_))))
   exact ret_tmp Tryz.results140 rfl (fun w1 hw => ⟨⟨(((some ⟨g21, 0, none⟩), 1), [p.when x13]), .inr ⟨i, x13, hx13, hall, by rw [hbv, c17], rfl⟩, Nat.le_refl _, Nat.le_refl _, by show 1 ≤ maxLen; decide⟩, rfl, hw.sel (.cons_cons _ (.cons _ (.cons_cons _ (List.Sublist.refl _))))⟩)
  refine zk (zN (zT (zG ?_)))
  refine TL.v (gD ((i + 1 : Nat) : Int)) ?_
  refine TL.mv ?_
  refine zE ?_
  exact TX.round (⟨i + 1, by omega, fun r hr => by rcases (mem_take_snoc hx13).1 hr with h9 | h9; exact hall r h9; rw [h9, hbv, c17]⟩) (by show ts.length - (i + 1) < ts.length - i; omega) ⟨rfl, rfl, rfl, rfl, rfl, trivial⟩ (fun w1 hw => hw)
 refine zET (zS (zd (zx (zX (zX (zM (zT (zSG (TL.as_ ?_)))))))))
 refine zET (zr ?_)
 rw [List.take_of_length_le (by omega)] at hall
 exact ret_tmp Tryz.results140 rfl (fun w1 hw => ⟨⟨((none, 0), []), .inl ⟨rfl, hall⟩, Nat.zero_le _, Nat.le_refl _, Nat.zero_le _⟩, rfl, Pm.nilrow (hw.sel (.cons _ (.cons_cons _ (List.Sublist.refl _)))) _ _⟩)
open Go.RowKit Go.Shelf Go.Sort
set_option maxRecDepth 20000
def sFRpRen : Go.Shelf.Ren := ⟨fun | 6 => 93 | 14 => 145 | 15 => 146 | 20 => 167 | 21 => 168 | 22 => 169 | 23 => 170 | 24 => 171 | 25 => 172 | 26 => 173 | 27 => 174 | 28 => 175 | 29 => 176 | 46 => 208 | 47 => 209 | 48 => 210 | 49 => 211 | 50 => 212 | 57 => 224 | n => n, fun | 22 => 49 | 24 => 34 | 25 => 52 | 39 => 174 | 45 => 191 | 46 => 192 | 50 => 196 | 53 => 29 | 55 => 200 | 66 => 219 | 70 => 223 | 76 => 235 | 77 => 236 | n => n, fun n => n⟩
theorem sFRp : SlLaysF0.n6 Tryz.prog sFRpRen where
  mixed := by kernel_rfl
  f6 := ⟨Tryz.f93.name, by decide, Tryz.func93.trans (by kernel_rfl)⟩
  f14 := ⟨Tryz.f145.name, by decide, Tryz.func145.trans (by kernel_rfl)⟩
  f15 := Tryz.func146.trans (by kernel_rfl)
  f20 := ⟨Tryz.f167.name, by decide, Tryz.func167.trans (by kernel_rfl)⟩
  f21 := ⟨Tryz.f168.name, by decide, Tryz.func168.trans (by kernel_rfl)⟩
  f22 := ⟨Tryz.f169.name, by decide, Tryz.func169.trans (by kernel_rfl)⟩
  f23 := ⟨Tryz.f170.name, by decide, Tryz.func170.trans (by kernel_rfl)⟩
  f24 := ⟨Tryz.f171.name, by decide, Tryz.func171.trans (by kernel_rfl)⟩
  f25 := ⟨Tryz.f172.name, by decide, Tryz.func172.trans (by kernel_rfl)⟩
  f26 := ⟨Tryz.f173.name, by decide, Tryz.func173.trans (by kernel_rfl)⟩
  f27 := ⟨Tryz.f174.name, by decide, Tryz.func174.trans (by kernel_rfl)⟩
  f28 := Tryz.func175.trans (by kernel_rfl)
  f29 := Tryz.func176.trans (by kernel_rfl)
  f46 := ⟨Tryz.f208.name, by decide, Tryz.func208.trans (by kernel_rfl)⟩
  f47 := Tryz.func209.trans (by kernel_rfl)
  f48 := Tryz.func210.trans (by kernel_rfl)
  f49 := ⟨Tryz.f211.name, by decide, Tryz.func211.trans (by kernel_rfl)⟩
  f50 := ⟨Tryz.f212.name, by decide, Tryz.func212.trans (by kernel_rfl)⟩
  f57 := ⟨Tryz.f224.name, by decide, Tryz.func224.trans (by kernel_rfl)⟩
  t0 := Tryz.underlying0
  a0 := fun w => rfl
  z0 := fun w => rfl
  v0 := fun w => rfl
  t3 := Tryz.underlying3
  a3 := fun w => rfl
  z3 := fun w => rfl
  v3 := fun w => rfl
  t4 := Tryz.underlying4
  a4 := fun w => rfl
  z4 := fun w => rfl
  v4 := fun w => rfl
  t5 := Tryz.underlying5
  a5 := fun w => rfl
  z5 := fun w => rfl
  v5 := fun w => rfl
  t9 := Tryz.underlying9
  a9 := fun w => rfl
  z9 := fun w => rfl
  v9 := fun w => rfl
  t22 := Tryz.underlying49
  a22 := fun w => rfl
  z22 := fun w => rfl
  v22 := fun w => rfl
  t25 := Tryz.underlying52
  a25 := fun w => rfl
  z25 := fun w => rfl
  v25 := fun w => rfl
  t39 := Tryz.underlying174
  a39 := fun w => rfl
  z39 := fun w => rfl
  v39 := fun w => rfl
  t45 := Tryz.underlying191
  a45 := fun w => rfl
  z45 := fun w => rfl
  v45 := fun w => rfl
  t46 := Tryz.underlying192
  a46 := fun w => rfl
  z46 := fun w => rfl
  v46 := fun w => rfl
  t50 := Tryz.underlying196
  a50 := fun w => rfl
  z50 := fun w => rfl
  v50 := fun w => rfl
  t53 := Tryz.underlying29
  a53 := fun w => rfl
  z53 := fun w => rfl
  v53 := fun w => rfl
  t55 := Tryz.underlying200
  a55 := fun w => rfl
  z55 := fun w => rfl
  v55 := fun w => rfl
  t66 := Tryz.underlying219
  a66 := fun w => rfl
  z66 := fun w => rfl
  v66 := fun w => rfl
  t70 := Tryz.underlying223
  a70 := fun w => rfl
  z70 := fun w => rfl
  v70 := fun w => rfl
  t76 := Tryz.underlying235
  a76 := fun w => rfl
  z76 := fun w => rfl
  v76 := fun w => rfl
  t77 := Tryz.underlying236
  a77 := fun w => rfl
  z77 := fun w => rfl
  v77 := fun w => rfl
instance : Inhabited Rp := ⟨⟨0, 0, 0, 0, 0, 0, 0, 0⟩⟩
theorem sortRp {b n cap : Nat} {A : Option Addr} {l : List Rp} {w : World} (hr : w.ownsRow b 34 8 (.slice A n cap) n (flat Rp.cells l)) (hl : l.length = n) (hn : n ≤ 100000000000) :
    Calls Tryz.prog 93 #[.slice A n cap, .func (.func 33) #[] #[]] w fun en w' => en = .returned (.tuple #[]) ∧ ∃ l', Sorted cmpRp l l' ∧ w'.ownsRow b 34 8 (.slice A n cap) n (flat Rp.cells l') ∧ w.grownBy w' (Value.ownBlock (.slice A n cap)) :=
  sortF_row (ρ := sFRpRen) sFRp rp_cel (fun w => rfl) (fun w => rfl) cmpRp (swo_keys (n := 8) (Rp.keys) fun _ => rfl) 33 (enters_of Tryz.func33 (by kernel_rfl) rfl) cmpRp_any hr hl (by omega)
open Go.RowKit Go.Shelf
def MinU (P S : Rp → Prop) (out : List Rp) : Prop := out.Pairwise (fun a b => a.cand ≠ b.cand) ∧ ∀ p, p ∈ out ↔ S p ∧ P p ∧ ∀ q, S q → q.cand = p.cand → P q → p.at_ ≤ q.at_
section
variable {P P' S S' : Rp → Prop} {a b out : List Rp}
theorem MinU.congr (h : MinU P S out) (hS : ∀ p, P p → (S p ↔ S' p)) : MinU P S' out := ⟨h.1, fun p => by
  rw [h.2]
  constructor
  · rintro ⟨h1, h2, h3⟩; exact ⟨(hS p h2).1 h1, h2, fun q hq hc hP => h3 q ((hS q hP).2 hq) hc hP⟩
  · rintro ⟨h1, h2, h3⟩; exact ⟨(hS p h2).2 h1, h2, fun q hq hc hP => h3 q ((hS q hP).1 hq) hc hP⟩⟩
theorem MinU.congrP (h : MinU P S out) (hP : ∀ p, S p → (P p ↔ P' p)) : MinU P' S out := ⟨h.1, fun p => by
  rw [h.2]
  constructor
  · rintro ⟨h1, h2, h3⟩; exact ⟨h1, (hP p h1).1 h2, fun q hq hc hp => h3 q hq hc ((hP q hq).2 hp)⟩
  · rintro ⟨h1, h2, h3⟩; exact ⟨h1, (hP p h1).2 h2, fun q hq hc hp => h3 q hq hc ((hP q hq).1 hp)⟩⟩
theorem MinU.nil (hS : ∀ p, ¬ S p) : MinU P S [] := ⟨List.Pairwise.nil, fun p => ⟨fun h => absurd h List.not_mem_nil, fun h => absurd h.1 (hS p)⟩⟩
theorem MinU.app (h : MinU P S a) (h' : MinU P S' b) (hd : ∀ p q, S p → S' q → p.cand ≠ q.cand) : MinU P (fun p => S p ∨ S' p) (a ++ b) := by
  refine ⟨List.pairwise_append.2 ⟨h.1, h'.1, fun x hx y hy => hd x y ((h.2 x).1 hx).1 ((h'.2 y).1 hy).1⟩, fun p => ?_⟩
  rw [List.mem_append, h.2, h'.2]
  constructor
  · rintro (⟨h1, h2, h3⟩ | ⟨h1, h2, h3⟩)
    · exact ⟨.inl h1, h2, fun q hq hc hP => hq.elim (fun hq => h3 q hq hc hP) fun hq => absurd hc.symm (hd p q h1 hq)⟩
    · exact ⟨.inr h1, h2, fun q hq hc hP => hq.elim (fun hq => absurd hc (hd q p hq h1)) fun hq => h3 q hq hc hP⟩
  · rintro ⟨h1 | h1, h2, h3⟩
    · exact .inl ⟨h1, h2, fun q hq => h3 q (.inl hq)⟩
    · exact .inr ⟨h1, h2, fun q hq => h3 q (.inr hq)⟩
theorem MinU.sorted (h : MinU P S a) (hs : Sorted cmpRp a b) : IsMin P S b := by
  refine ⟨?_, fun p => by rw [hs.1.mem_iff, h.2]⟩
  have hn : b.Pairwise fun x y => x.cand ≠ y.cand := (hs.1.pairwise_iff (fun {x y} h1 h2 => h1 h2.symm)).2 h.1
  refine (hs.2.and hn).imp fun {x y} ⟨h1, h2⟩ => ?_
  have h3 : lexI x.keys y.keys ≠ 0 := fun h0 => h2 (by rw [rpk_inj ((lexI_zero (a := x.keys) (b := y.keys) rfl).1 h0)])
  have h4 : ¬ lexI y.keys x.keys < 0 := h1
  have h5 := (posK rpk_len (x := x) (y := y)).1
  have h6 : ¬ 0 < lexI x.keys y.keys := fun h => h4 (h5 h)
  omega
theorem EarB.minU {B : Int → Bool} {p : Rp} {ts : List Int} (h : EarB B p ts a) (ht : ts.Pairwise (· < ·)) (hB : ∀ t, B t = true ↔ P (p.when t)) : MinU P (fun q => q.cand = p.cand ∧ q.at_ ∈ ts) a := by
  have key : ∀ q : Rp, q.cand = p.cand → q = p.when q.at_ := fun q hq => ((like_iff (p := p) (q := q)).2 hq.symm).symm
  rcases h with ⟨rfl, h1⟩ | ⟨i, t, h1, h2, h3, rfl⟩
  · refine ⟨List.Pairwise.nil, fun q => ⟨fun h => absurd h List.not_mem_nil, ?_⟩⟩
    rintro ⟨⟨h3, h4⟩, h5, _⟩
    rw [key q h3, ← hB, h1 _ h4] at h5; cases h5
  · have hlt : ∀ s ∈ ts, s < t → s ∈ ts.take i := fun s hs hst => by
      obtain ⟨j, hj⟩ := List.getElem?_of_mem hs
      refine List.mem_of_getElem? (i := j) ?_
      obtain ⟨hi, e1⟩ := List.getElem?_eq_some_iff.1 h1
      obtain ⟨hj', e2⟩ := List.getElem?_eq_some_iff.1 hj
      have : j < i := by
        rcases Nat.lt_trichotomy j i with h | h | h
        · exact h
        · subst h; rw [e1] at e2; omega
        · have := (List.pairwise_iff_getElem.1 ht) i j hi hj' h
          rw [e1, e2] at this; omega
      rw [List.getElem?_take_of_lt this]; exact hj
    refine ⟨List.pairwise_singleton _ _, fun q => ?_⟩
    rw [List.mem_singleton]
    constructor
    · rintro rfl
      refine ⟨⟨rfl, List.mem_of_getElem? h1⟩, (hB t).1 h3, ?_⟩
      rintro q ⟨h4, h5⟩ _ h6
      refine Int.not_lt.1 fun h7 => ?_
      have := h2 _ (hlt _ h5 h7)
      rw [key q h4, ← hB, this] at h6; cases h6
    · rintro ⟨⟨h4, h5⟩, h6, h7⟩
      have h8 := h7 (p.when t) ⟨rfl, List.mem_of_getElem? h1⟩ h4.symm ((hB t).1 h3)
      have h9 : ¬ q.at_ < t := fun h => by
        have := h2 _ (hlt _ h5 h)
        rw [key q h4, ← hB, this] at h6; cases h6
      rw [key q h4]
      congr 1
      have : (p.when t).at_ = t := rfl
      omega
end
def IsNum (l o : List Int) : Prop := o.Pairwise (· < ·) ∧ ∀ t, t ∈ o ↔ t ∈ l
theorem isNum_of {l s : List Int} (hs : SortedI l s) : IsNum l (cptG s) := by
  refine ⟨?_, fun t => by rw [mem_cptG, hs.1.mem_iff]⟩
  have h := hs.2
  clear hs
  induction s with
  | nil => exact List.Pairwise.nil
  | cons x s ih =>
    cases s with
    | nil => exact List.pairwise_singleton _ _
    | cons y s =>
      have ih := ih (List.pairwise_cons.1 h).2
      have h1 := (List.pairwise_cons.1 h).1
      have h2 := (List.pairwise_cons.1 (List.pairwise_cons.1 h).2).1
      rw [cptG]
      split
      · exact ih
      · rename_i hne
        refine List.pairwise_cons.2 ⟨fun z hz => ?_, ih⟩
        rw [mem_cptG] at hz
        have h3 := h1 y List.mem_cons_self
        rcases List.mem_cons.1 hz with e | e
        · subst e; omega
        · have := h2 z e; omega
def cB (r : Rs) : Rp := ⟨1, r.v, r.dst, r.proto, r.flow, 0, 0, 0⟩
def cC (r : Rs) (ttl : Int) : Rp := ⟨3, r.v, r.dst, r.proto, r.flow, ttl, 0, 0⟩
def cD (r : Rs) (ttl v : Int) : Rp := ⟨2, r.v, r.dst, r.proto, r.flow, ttl, 0, v⟩
section
variable {es : List En} {y : List Rs} {u : Ru} {r : Rs} {t ttl v : Int}
theorem prS_c1 : bhF y u.los t = true ↔ PrS es y u ((cB r).when t) := by
  unfold PrS cB Rp.when
  simp
theorem prS_c3 (hu : 1 ≤ u.prb) : (u.prb < 1 ∨ CgF (eaL (atL y ttl) t) (laL (atL y ttl) t) u.prb u.gro) ↔ PrS es y u ((cC r ttl).when t) := by
  unfold PrS cC Rp.when
  have : ¬ u.prb < 1 := by omega
  simp [this]
theorem prS_c2 (hv : v ≠ 0) : DtF (fun r : Rs => provR es r.src r.back) (atL y ttl) v t ↔ PrS es y u ((cD r ttl v).when t) := by
  unfold PrS cD Rp.when
  simp [hv]
end
def SA (es : List En) (r : Rs) (own : List Rs) (tm ttls : List Int) (p : Rp) : Prop := p.at_ ∈ tm ∧ (p.cand = cB r ∨ ∃ ttl ∈ ttls, p.cand = cC r ttl ∨ ∃ v ∈ (atL own ttl).map (fun r => provR es r.src r.back), v ≠ 0 ∧ p.cand = cD r ttl v)
def SB (es : List En) (r : Rs) (own : List Rs) (tm ttls : List Int) (ttl : Int) (vs : List Int) (p : Rp) : Prop := SA es r own tm ttls p ∨ (p.at_ ∈ tm ∧ (p.cand = cC r ttl ∨ ∃ v ∈ vs, v ≠ 0 ∧ p.cand = cD r ttl v))
def TmS (r : Rs) (own : List Rs) (p : Rp) : Prop := p.trc = trcR r ∧ p.flow = r.flow ∧ ∃ s ∈ own, s.at_ = p.at_
section
variable {es : List En} {own : List Rs} {u : Ru} {r : Rs} {tm ttls ow vs : List Int} {i j : Nat} {ttl v : Int} {out o : List Rp} {P : Rp → Prop} {B : Int → Bool}
theorem sa_start (h : EarB B (cB r) tm o) (ht : tm.Pairwise (· < ·)) (hB : ∀ t, B t = bhF own u.los t) : MinU (PrS es own u) (SA es r own tm []) o :=
  (h.minU ht fun t => by rw [hB]; exact prS_c1).congr fun p _ => ⟨fun ⟨h1, h2⟩ => ⟨h2, .inl h1⟩, fun ⟨h1, h2⟩ => ⟨h2.elim id fun ⟨t, ht, _⟩ => absurd ht List.not_mem_nil, h1⟩⟩
theorem sb_start (h : MinU (PrS es own u) (SA es r own tm (ttls.take i)) out) (hx : ttls[i]? = some ttl) (hn : ttls.Pairwise (· < ·)) (he : EarB B (cC r ttl) tm o) (ht : tm.Pairwise (· < ·)) (hu : 1 ≤ u.prb) (hB : ∀ t, B t = true ↔ u.prb < 1 ∨ CgF (eaL (atL own ttl) t) (laL (atL own ttl) t) u.prb u.gro) : MinU (PrS es own u) (SB es r own tm (ttls.take i) ttl []) (out ++ o) := by
  have hnot : ttl ∉ ttls.take i := fun hm => by
    obtain ⟨j, hj⟩ := List.getElem?_of_mem hm
    have hj2 : j < i := by have := (List.getElem?_eq_some_iff.1 hj).1; rw [List.length_take] at this; omega
    rw [List.getElem?_take_of_lt hj2] at hj
    obtain ⟨h1, e1⟩ := List.getElem?_eq_some_iff.1 hj
    obtain ⟨h2, e2⟩ := List.getElem?_eq_some_iff.1 hx
    have := (List.pairwise_iff_getElem.1 hn) j i h1 h2 hj2
    omega
  refine (h.app (he.minU ht fun t => by rw [hB]; exact prS_c3 hu) ?_).congr fun p _ => ?_
  · rintro p q ⟨_, h1⟩ ⟨h2, _⟩ h3
    have h4 : p.cand = cC r ttl := h3.trans h2
    rcases h1 with h1 | ⟨t, ht, h1 | ⟨v, _, _, h1⟩⟩
    · rw [h1] at h4; simp [cB, cC] at h4
    · rw [h1] at h4; simp only [cC, Rp.mk.injEq] at h4; exact hnot (h4.2.2.2.2.2.1 ▸ ht)
    · rw [h1] at h4; simp [cD, cC] at h4
  · unfold SB
    exact ⟨fun h => h.imp id fun ⟨h1, h2⟩ => ⟨h2, .inl h1⟩, fun h => h.imp id fun ⟨h1, h2⟩ => ⟨h2.elim id fun ⟨t, ht, _⟩ => absurd ht List.not_mem_nil, h1⟩⟩
theorem sb_zero (h : MinU P (SB es r own tm ttls ttl (ow.take j)) out) (hx : ow[j]? = some v) (hv : v = 0) : MinU P (SB es r own tm ttls ttl (ow.take (j + 1))) out := h.congr fun p _ => by
  unfold SB
  rw [List.take_add_one, hx]
  constructor
  · rintro (h | ⟨h1, h2 | ⟨w, h2, h3⟩⟩)
    · exact .inl h
    · exact .inr ⟨h1, .inl h2⟩
    · exact .inr ⟨h1, .inr ⟨w, List.mem_append_left _ h2, h3⟩⟩
  · rintro (h | ⟨h1, h2 | ⟨w, h2, h3⟩⟩)
    · exact .inl h
    · exact .inr ⟨h1, .inl h2⟩
    · rcases List.mem_append.1 h2 with h4 | h4
      · exact .inr ⟨h1, .inr ⟨w, h4, h3⟩⟩
      · exact absurd ((show w = v by simpa using h4).trans hv) h3.1
theorem sb_next (h : MinU (PrS es own u) (SB es r own tm (ttls.take i) ttl (ow.take j)) out) (ht : ttls[i]? = some ttl) (hn : ttls.Pairwise (· < ·)) (hx : ow[j]? = some v) (ho : ow.Pairwise (· < ·)) (hv : v ≠ 0) (he : EarB B (cD r ttl v) tm o) (htm : tm.Pairwise (· < ·)) (hB : ∀ t, B t = true ↔ DtF (fun r : Rs => provR es r.src r.back) (atL own ttl) v t) : MinU (PrS es own u) (SB es r own tm (ttls.take i) ttl (ow.take (j + 1))) (out ++ o) := by
  have nin : ∀ {l : List Int} {k : Nat} {z : Int}, l.Pairwise (· < ·) → l[k]? = some z → z ∉ l.take k := fun {l k z} hp hz hm => by
    obtain ⟨j, hj⟩ := List.getElem?_of_mem hm
    have hj2 : j < k := by have := (List.getElem?_eq_some_iff.1 hj).1; rw [List.length_take] at this; omega
    rw [List.getElem?_take_of_lt hj2] at hj
    obtain ⟨h1, e1⟩ := List.getElem?_eq_some_iff.1 hj
    obtain ⟨h2, e2⟩ := List.getElem?_eq_some_iff.1 hz
    have := (List.pairwise_iff_getElem.1 hp) j k h1 h2 hj2
    omega
  refine (h.app (he.minU htm fun t => by rw [hB]; exact prS_c2 hv) ?_).congr fun p _ => ?_
  · rintro p q h1 ⟨h2, _⟩ h3
    have h4 : p.cand = cD r ttl v := h3.trans h2
    rcases h1 with ⟨_, h1 | ⟨t, ht', h1 | ⟨w, _, _, h1⟩⟩⟩ | ⟨_, h1 | ⟨w, h5, _, h1⟩⟩
    · rw [h1] at h4; simp [cB, cD] at h4
    · rw [h1] at h4; simp [cC, cD] at h4
    · rw [h1] at h4; simp only [cD, Rp.mk.injEq] at h4; exact nin hn ht (h4.2.2.2.2.2.1 ▸ ht')
    · rw [h1] at h4; simp [cC, cD] at h4
    · rw [h1] at h4; simp only [cD, Rp.mk.injEq] at h4; exact nin ho hx (h4.2.2.2.2.2.2.2 ▸ h5)
  · unfold SB
    rw [List.take_add_one, hx]
    constructor
    · rintro ((h | ⟨h1, h2 | ⟨w, h2, h3⟩⟩) | ⟨h1, h2⟩)
      · exact .inl h
      · exact .inr ⟨h1, .inl h2⟩
      · exact .inr ⟨h1, .inr ⟨w, List.mem_append_left _ h2, h3⟩⟩
      · exact .inr ⟨h2, .inr ⟨v, List.mem_append_right _ (List.mem_singleton.2 rfl), hv, h1⟩⟩
    · rintro (h | ⟨h1, h2 | ⟨w, h2, h3⟩⟩)
      · exact .inl (.inl h)
      · exact .inl (.inr ⟨h1, .inl h2⟩)
      · rcases List.mem_append.1 h2 with h4 | h4
        · exact .inl (.inr ⟨h1, .inr ⟨w, h4, h3⟩⟩)
        · rw [show w = v by simpa using h4] at h3
          exact .inr ⟨h3.2, h1⟩
theorem sb_end (h : MinU P (SB es r own tm (ttls.take i) ttl (ow.take j)) out) (hj : ow.length ≤ j) (ho : IsNum ((atL own ttl).map (fun r => provR es r.src r.back)) ow) (hx : ttls[i]? = some ttl) : MinU P (SA es r own tm (ttls.take (i + 1))) out := h.congr fun p _ => by
  unfold SB SA
  rw [List.take_of_length_le hj, List.take_add_one, hx]
  constructor
  · rintro (⟨h1, h2 | ⟨t, h2, h3⟩⟩ | ⟨h1, h2⟩)
    · exact ⟨h1, .inl h2⟩
    · exact ⟨h1, .inr ⟨t, List.mem_append_left _ h2, h3⟩⟩
    · exact ⟨h1, .inr ⟨ttl, List.mem_append_right _ (List.mem_singleton.2 rfl), h2.imp id fun ⟨v, h3, h4⟩ => ⟨v, (ho.2 v).1 h3, h4⟩⟩⟩
  · rintro ⟨h1, h2 | ⟨t, h2, h3⟩⟩
    · exact .inl ⟨h1, .inl h2⟩
    · rcases List.mem_append.1 h2 with h4 | h4
      · exact .inl ⟨h1, .inr ⟨t, h4, h3⟩⟩
      · rw [show t = ttl by simpa using h4] at h3
        exact .inr ⟨h1, h3.imp id fun ⟨v, h3, h4⟩ => ⟨v, (ho.2 v).2 h3, h4⟩⟩
theorem sa_end (h : MinU (PrS es own u) (SA es r own tm (ttls.take i)) out) (hi : ttls.length ≤ i) (htm : IsNum (own.map fun s => s.at_) tm) (htt : IsNum (own.map fun s => s.ttl) ttls) (hu : 1 ≤ u.prb) : MinU (PrS es own u) (TmS r own) out := h.congr fun p hP => by
  unfold SA TmS
  rw [List.take_of_length_le hi, htm.2, List.mem_map]
  have hc : ∀ {a b c d e f g k : Int}, (⟨a, b, c, d, e, f, g, k⟩ : Rp) = p.cand ↔ a = p.kind ∧ b = p.v ∧ c = p.dst ∧ d = p.proto ∧ e = p.flow ∧ f = p.ttl ∧ g = 0 ∧ k = p.prov := by
    intro a b c d e f g k; unfold Rp.cand; rw [Rp.mk.injEq]
  constructor
  · rintro ⟨⟨s, h1, h2⟩, h3⟩
    have key : p.trc = trcR r ∧ p.flow = r.flow := by
      unfold Rp.trc trcR
      rcases h3 with h3 | ⟨t, _, h3 | ⟨v, _, _, h3⟩⟩ <;> (have h4 := hc.1 h3.symm; exact ⟨by rw [h4.2.1, h4.2.2.1, h4.2.2.2.1], h4.2.2.2.2.1.symm⟩)
    exact ⟨key.1, key.2, s, h1, h2⟩
  · rintro ⟨h1, h2, s, h3, h4⟩
    refine ⟨⟨s, h3, h4⟩, ?_⟩
    unfold Rp.trc trcR at h1
    injection h1 with e1 e2 e3
    rcases hP with ⟨a1, a2, a3, _⟩ | ⟨a1, a2, a3⟩ | ⟨a1, a2, a3⟩
    · exact .inl (hc.2 ⟨a1.symm, e1.symm, e2.symm, e3.symm, h2.symm, a2.symm, rfl, a3.symm⟩).symm
    · obtain ⟨e, h5, _⟩ := a3
      obtain ⟨z, hz, _⟩ := ea_mem h5
      have hz2 := List.mem_filter.1 hz
      simp only [Bool.and_eq_true, decide_eq_true_eq] at hz2
      exact .inr ⟨p.ttl, (htt.2 _).2 (List.mem_map.2 ⟨z, hz2.1, hz2.2.2⟩), .inl (hc.2 ⟨a1.symm, e1.symm, e2.symm, e3.symm, h2.symm, rfl, rfl, a2.symm⟩).symm⟩
    · obtain ⟨a, _, _, b, hb, _, hb2, _⟩ := a3
      have hz2 := List.mem_filter.1 hb
      simp only [Bool.and_eq_true, decide_eq_true_eq] at hz2
      exact .inr ⟨p.ttl, (htt.2 _).2 (List.mem_map.2 ⟨b, hz2.1, hz2.2.2⟩), .inr ⟨p.prov, List.mem_map.2 ⟨b, hb, hb2⟩, a2, (hc.2 ⟨a1.symm, e1.symm, e2.symm, e3.symm, h2.symm, rfl, rfl, rfl⟩).symm⟩⟩
end
end Go.Proofs.YtijmpjfafpodhaaGreat
