/-
  Texts of the proof, joined: PtLook, PtAt, VwLaw, PtChk, SymGrp, PtGrp, PtGra, PtBld, PtWir, PtSam, BldLaw, DcDraw, DcNet, SymFld.
-/
import Derived.Test.YtnejdeklnmkhbaaGreatPathsResultsPk3
import Derived.Test.YtnejdeklnmkhbaaGreatPathsResultsPk1
import Derived.Sort.OwnSortedInts
import Derived.Test.YtnejdeklnmkhbaaGreatPathsResultsPk2
set_option linter.unusedVariables false
set_option linter.unusedSimpArgs false
namespace Go.Proofs.YtnejdeklnmkhbaaGreat
open Go.RowKit
set_option maxRecDepth 20000
def fitE (e : Int) (r : Rs) : Bool := (decide (e = 0) || decide (r.ttl < e)) && finRs r
def endT (l : List Rs) : Int := l.foldl (fun e r => if fitE e r then r.ttl else e) 0
theorem endT_snoc {l : List Rs} {i : Nat} {x : Rs} {e : Int} (hx : l[i]? = some x) (h : endT (l.take i) = e) : endT (l.take (i + 1)) = if fitE e x then x.ttl else e := by
 unfold endT at h ⊢
 rw [List.take_add_one, hx, List.foldl_append, h]
 rfl
def useR (e : Int) (r : Rs) : Bool := usbRs r && !(decide (e > 0) && decide (r.ttl > e))
def updF {κ β : Type} [DecidableEq κ] (f : κ → Option β) (a : κ) (v : β) : κ → Option β := fun x => if x = a then some v else f x
theorem upd_map {κ : Type} [DecidableEq κ] (f : κ → Option Int) (a : κ) (q : IntKind) (v : Int) : (fun x => if x = a then some (Value.int q v) else (f x).map (Value.int q)) = fun x => (updF f a v x).map (Value.int q) := by
 funext x
 unfold updF
 split <;> rfl
def spotR (r : Rs) : Spot := ⟨r.flow, r.ttl⟩
def stepK (e : Int) (p : (Spot → Option Int) × (Spot → Option Int)) (r : Rs) : (Spot → Option Int) × (Spot → Option Int) :=
 if useR e r then
  if r.ans = false then (p.1, updF p.2 (spotR r) (max ((p.2 (spotR r)).getD 0) 1))
  else if (p.2 (spotR r)).getD 0 ≤ 1 then (updF p.1 (spotR r) r.src, updF p.2 (spotR r) 2)
  else if (p.2 (spotR r)).getD 0 = 2 ∧ (p.1 (spotR r)).getD 0 ≠ r.src then (updF p.1 (spotR r) 0, updF p.2 (spotR r) 3)
  else p
 else p
def lookS2 (e : Int) (l : List Rs) : (Spot → Option Int) × (Spot → Option Int) := l.foldl (stepK e) (fun _ => none, fun _ => none)
def lookS (l : List Rs) : (Spot → Option Int) × (Spot → Option Int) := lookS2 (endT l) l
theorem spotOk {l : List Rs} {i : Nat} {x : Rs} (hx : l[i]? = some x) (hu : usbRs x = true) (hok : ∀ r ∈ l, r.Ok) : (⟨x.flow, x.ttl⟩ : Spot).Ok := by
 have hv : vldRs x = true := by unfold usbRs at hu; simp only [Bool.and_eq_true] at hu; exact hu.2
 have hc : chkR x = 0 := by unfold vldRs at hv; simp only [Bool.and_eq_true, decide_eq_true_eq] at hv; exact hv.1.1
 have hr : x.inRange := Decidable.by_contra fun h => by have := chk_range h; omega
 obtain ⟨a1, a2, a3, a4, a5, a6, a7, a8, a9, a10, a11, a12, a13, a14, a15⟩ := hr
 constructor
 ·show (Lit.int .i64 x.flow).wf = true
  simp [Lit.wf, IntKind.min, IntKind.max, IntKind.signed, IntKind.bits]; omega
 ·show (Lit.int .i64 x.ttl).wf = true
  simp [Lit.wf, IntKind.min, IntKind.max, IntKind.signed, IntKind.bits]; omega
section
variable {l : List Rs} {i : Nat} {x : Rs} {e : Int} {fa fs : Spot → Option Int}
theorem lookS_snoc (hx : l[i]? = some x) (h : lookS2 e (l.take i) = (fa, fs)) : lookS2 e (l.take (i + 1)) = stepK e (fa, fs) x := by
 unfold lookS2 at h ⊢
 rw [List.take_add_one, hx, List.foldl_append, h]
 rfl
theorem lookS_skip (hx : l[i]? = some x) (h : lookS2 e (l.take i) = (fa, fs)) (hu : useR e x = false) : lookS2 e (l.take (i + 1)) = (fa, fs) := by
 rw [lookS_snoc hx h, stepK, if_neg (by rw [hu]; decide)]
theorem lookS_none (hx : l[i]? = some x) (h : lookS2 e (l.take i) = (fa, fs)) (hu : useR e x = true) (ha : x.ans = false) : lookS2 e (l.take (i + 1)) = (fa, updF fs ⟨x.flow, x.ttl⟩ (max ((fs ⟨x.flow, x.ttl⟩).getD 0) 1)) := by
 rw [lookS_snoc hx h, stepK, if_pos hu, if_pos ha]; rfl
theorem lookS_first (hx : l[i]? = some x) (h : lookS2 e (l.take i) = (fa, fs)) (hu : useR e x = true) (ha : x.ans = true) (hk : (fs ⟨x.flow, x.ttl⟩).getD 0 ≤ 1) : lookS2 e (l.take (i + 1)) = (updF fa ⟨x.flow, x.ttl⟩ x.src, updF fs ⟨x.flow, x.ttl⟩ 2) := by
 have hk' : ((fa, fs).2 (spotR x)).getD 0 ≤ 1 := hk
 rw [lookS_snoc hx h, stepK, if_pos hu, if_neg (by rw [ha]; decide), if_pos hk']; rfl
theorem lookS_mix (hx : l[i]? = some x) (h : lookS2 e (l.take i) = (fa, fs)) (hu : useR e x = true) (ha : x.ans = true) (hk : (fs ⟨x.flow, x.ttl⟩).getD 0 = 2) (hn : (fa ⟨x.flow, x.ttl⟩).getD 0 ≠ x.src) : lookS2 e (l.take (i + 1)) = (updF fa ⟨x.flow, x.ttl⟩ 0, updF fs ⟨x.flow, x.ttl⟩ 3) := by
 have hk2 : ¬ ((fa, fs).2 (spotR x)).getD 0 ≤ 1 := by have : ((fa, fs).2 (spotR x)).getD 0 = 2 := hk; omega
 rw [lookS_snoc hx h, stepK, if_pos hu, if_neg (by rw [ha]; decide), if_neg hk2, if_pos ⟨hk, hn⟩]; rfl
theorem lookS_same (hx : l[i]? = some x) (h : lookS2 e (l.take i) = (fa, fs)) (hu : useR e x = true) (ha : x.ans = true) (hk : ¬ (fs ⟨x.flow, x.ttl⟩).getD 0 ≤ 1) (hn : ¬ (fs ⟨x.flow, x.ttl⟩).getD 0 = 2 ∨ ¬ (fa ⟨x.flow, x.ttl⟩).getD 0 ≠ x.src) : lookS2 e (l.take (i + 1)) = (fa, fs) := by
 have hk' : ¬ ((fa, fs).2 (spotR x)).getD 0 ≤ 1 := hk
 rw [lookS_snoc hx h, stepK, if_pos hu, if_neg (by rw [ha]; decide), if_neg hk', if_neg (by
  rintro ⟨h1, h2⟩
  rcases hn with h3 | h3
  ·exact h3 h1
  ·exact h3 h2)]
end
theorem plknm17 : (Tryz.f17.name == "runtime.NumGoroutine") = false := by decide
theorem plkbd17 : Tryz.f17.body.isNone = false := rfl
theorem plkzv91 (w : World) : (zeroValue 91).run Tryz.prog w = .ok (.agg #[.int .i64 0, .map none, .map none]) w := rfl
theorem plknm20 : (Tryz.f20.name == "runtime.NumGoroutine") = false := by decide
theorem plkbd20 : Tryz.f20.body.isNone = false := rfl
theorem plkbld91_56786 (a0_0 : Int) (a1_0 : Nat) (a2_0 : Nat) (w : World) : (Instr.build 91 #[(0, .int .i64 a0_0), (1, .map (some a1_0)), (2, .map (some a2_0))]).run Tryz.prog w = .ok (.agg #[.int .i64 a0_0, .map (some a1_0), .map (some a2_0)]) w := by kernel_rfl
theorem plksz91 (w : World) : (sizeOf 91).run Tryz.prog w = .ok 3 w := rfl
theorem plkone_i64mm {a0 : Int} {a1 : Nat} {a2 : Nat} : ∀ u ∈ [(.int .i64 a0 : Value), .map (some a1), .map (some a2)], u.oneCell' = true := by
 intro u hu
 simp only [List.mem_cons, List.not_mem_nil, or_false] at hu
 rcases hu with rfl | rfl | rfl <;> rfl
theorem plkfld91_0 (g o : Nat) (w : World) : (Instr.fieldAt 91 (.pointer (some ⟨g, o, none⟩)) 0).run Tryz.prog w = .ok (.pointer (some ⟨g, o + 0, none⟩)) w := by kernel_rfl
theorem plkbld97_27266 (a0_0 : Int) (a1_0 : Int) (w : World) : (Instr.build 97 #[(0, .int .i64 a0_0), (1, .int .i64 a1_0)]).run Tryz.prog w = .ok (.agg #[.int .i64 a0_0, .int .i64 a1_0]) w := by kernel_rfl
theorem plkzv97 (w : World) : (zeroValue 97).run Tryz.prog w = .ok (.agg #[.int .i64 0, .int .i64 0]) w := rfl
theorem plksz97 (w : World) : (sizeOf 97).run Tryz.prog w = .ok 2 w := rfl
theorem plkone_i64i64 {a0 : Int} {a1 : Int} : ∀ u ∈ [(.int .i64 a0 : Value), .int .i64 a1], u.oneCell' = true := by
 intro u hu
 simp only [List.mem_cons, List.not_mem_nil, or_false] at hu
 rcases hu with rfl | rfl <;> rfl
theorem plkfld91_2 (g o : Nat) (w : World) : (Instr.fieldAt 91 (.pointer (some ⟨g, o, none⟩)) 2).run Tryz.prog w = .ok (.pointer (some ⟨g, o + 2, none⟩)) w := by kernel_rfl
theorem plkag89 (w : World) : (isAgg 89).run Tryz.prog w = .ok false w := rfl
theorem plkag97 (w : World) : (isAgg 97).run Tryz.prog w = .ok true w := rfl
theorem plkfld91_1 (g o : Nat) (w : World) : (Instr.fieldAt 91 (.pointer (some ⟨g, o, none⟩)) 1).run Tryz.prog w = .ok (.pointer (some ⟨g, o + 1, none⟩)) w := by kernel_rfl
theorem plkag88 (w : World) : (isAgg 88).run Tryz.prog w = .ok false w := rfl
theorem plkag91 (w : World) : (isAgg 91).run Tryz.prog w = .ok true w := rfl
set_option maxHeartbeats 1000000 in
theorem end_any (A0 : Option Addr) (c0 : Nat) (l : List Rs) (w : World) (hr : Reads w w.heap.size 17 A0 l.length (flat Rs.cells l)) (hl1 : l.length ≤ 100000) :
  Calls Tryz.prog 20 #[.slice A0 l.length c0] w fun e w' => e = .returned (.int .i64 (endT l)) ∧ Below w.heap.size w w' := by
 refine begin_ (vs := [.slice A0 l.length c0]) Tryz.func20 rfl rfl rfl ?_ (Pm.start w)
 refine TC.seq_ (TC.region ?_)
 refine TL.as_ ?_
 refine TL.end_ (TX.then_ (TC.seq_ (TC.region ?_)))
 refine TL.as_ ?_
 refine TL.end_ (TX.then_ (TC.seq_ (TC.seq_ (TC.region ?_))))
 refine TL.mv ?_
 refine TL.val rfl rfl rfl (gives_len rfl Tryz.underlying26 rfl) ?_
 refine TL.mv ?_
 refine TL.end_ (TX.then_ (TC.block ?_))
 refine TC.loop_ (α := {y : Nat × Int // y.1 ≤ l.length ∧ endT (l.take y.1) = y.2}) (fun y => [(2, .int .i64 0), (6, .slice A0 l.length c0), (7, .int .i64 (l.length : Nat)), (8, .int .i64 ((y.1.1 : Nat) : Int)), (3, .int .i64 y.1.2)]) (fun y => Pm w []) (fun y => l.length - y.1.1) (⟨(0, 0), Nat.zero_le _, rfl⟩) ⟨rfl, rfl, rfl, rfl, rfl, trivial⟩ (fun w1 hw => hw) ?_
 rintro ⟨⟨i, en⟩, hi, hst⟩
 dsimp only at hi hst ⊢
 refine TC.seq_ (TC.region ?_)
 refine TL.vsplit rfl rfl rfl (gives_bin rfl rfl rfl (fun w => bin_lss w)) (fun h9 => ?_) (fun h9 => ?_)
 ·have q9 := of_decide_eq_true h9
  refine TL.end_ (TX.then_ (TC.seq_ (TC.condT rfl (TC.skip_ (TX.then_ (TC.seq_ (TC.block (TC.seq_ (TC.region ?_)))))))))
  have hi10 : i < l.length := by omega
  obtain ⟨x10, hx10⟩ : ∃ x10, l[i]? = some x10 := ⟨_, List.getElem?_eq_getElem hi10⟩
  obtain ⟨b10, o10, hA10, hbb10, hc10⟩ := hr.ad (by omega) (by decide)
  refine TL.val rfl rfl rfl (gives_at (v := .pointer (some ⟨b10, o10 + i * 17, none⟩)) rfl rfl rfl (fun w => at_el Tryz.underlying26 prssz47 hA10 _ _ i (by omega) rfl w)) ?_
  refine TL.val rfl rfl rfl (gives_loadR (off := o10 + i * 17) rfl rfl prsag47 prssz47 (rs_cel.len x10) (fun w1 hw j9 u9 h9 => (hw.bel.cell hbb10).trans <| flat_cell rs_cel hx10 hc10 j9 u9 h9)) ?_
  refine TL.pnew rfl rfl rfl (exec_alloc (cs := [.int .i64 0, .int .i64 0, .int .i64 0, .int .i64 0, .int .u32 0, .int .i64 0, .int .i64 0, .int .i64 0, .bool false, .bool false, .int .i64 0, .int .u32 0, .int .i64 0, .int .i64 0, .int .i64 0, .int .i64 0, .int .i64 0]) rfl pcpzv47 rfl) (fun g5 => ?_)
  refine TL.pstore (k := 0) (vs := x10.cells) rfl rfl rfl rfl rfl rfl rfl prssz47 (rs_cel.one _) (by show 17 ≤ 17; decide) (L' := [.blk g5 47 x10.cells]) rfl ?_
  refine TL.end_ (TX.then_ (TC.seq_ (TC.region ?_)))
  refine TL.mv ?_
  refine TL.vsplit rfl rfl rfl (gives_bin rfl rfl rfl (fun w => bin_eql w)) (fun h13 => ?_) (fun h13 => ?_)
  ·have q13 := of_decide_eq_true h13
   iterate 8 (first | refine TL.of ?_ | refine TL.mv ?_ | refine TL.gu ?_ | refine TL.pk ?_)
   refine TL.val rfl rfl rfl (pm_loadV (k := 0) (i := 0) (n := 17) (v := .agg (x10.cells).toArray) rfl rfl prsag47 prssz47 rfl (by show 17 ≤ 17; decide) rfl) ?_
   refine TL.gu ?_
   refine TL.callsplit rfl rfl rfl rfl rfl Tryz.func17 plknm17 plkbd17 (fun w1 hw => finRs_any x10 w1) (fun h22 => ?_) (fun h22 => ?_)
   ·refine TL.pk ?_
    refine TL.end_ (TX.then_ (TC.condT rfl (TC.region ?_)))
    refine TL.val rfl rfl rfl (gives_field (v := .pointer (some ⟨g5, 7, none⟩)) rfl rfl (fun w => prsfld47_7 _ _ w)) ?_
    refine TL.val rfl rfl rfl (pm_load (k := 0) (i := 7) rfl rfl pcmag3 rfl rfl) ?_
    refine TL.as_ ?_
    refine TL.end_ (TX.in_normal (TX.then_ (TC.region ?_)))
    refine TL.val rfl rfl rfl (gives_bin rfl rfl rfl (fun w => bin_add_ (r := ((i + 1 : Nat) : Int)) (by simp only [IntKind.wrap_i64]; omega) w)) ?_
    refine TL.mv ?_
    refine TL.end_ ?_
    exact TX.round (⟨(i + 1, x10.ttl), by dsimp only; omega, by rw [endT_snoc hx10 hst, if_pos (by simp [fitE, q9, q13, h22])]⟩) (by show l.length - (i + 1) < l.length - i; omega) ⟨rfl, rfl, rfl, rfl, rfl, trivial⟩ (fun w1 hw => hw.pick [] (by decide) rfl)
   ·refine TL.pk ?_
    refine TL.end_ (TX.then_ (TC.condF rfl (TC.skip_ (TX.in_normal (TX.then_ (TC.region ?_))))))
    refine TL.val rfl rfl rfl (gives_bin rfl rfl rfl (fun w => bin_add_ (r := ((i + 1 : Nat) : Int)) (by simp only [IntKind.wrap_i64]; omega) w)) ?_
    refine TL.mv ?_
    refine TL.end_ ?_
    exact TX.round (⟨(i + 1, en), by dsimp only; omega, by rw [endT_snoc hx10 hst, if_neg (by simp [fitE, q9, q13, h22])]⟩) (by show l.length - (i + 1) < l.length - i; omega) ⟨rfl, rfl, rfl, rfl, rfl, trivial⟩ (fun w1 hw => hw.pick [] (by decide) rfl)
  ·have q13 := of_decide_eq_false h13
   refine TL.mv ?_
   refine TL.gu ?_
   refine TL.val rfl rfl rfl (gives_field (v := .pointer (some ⟨g5, 7, none⟩)) rfl rfl (fun w => prsfld47_7 _ _ w)) ?_
   refine TL.gu ?_
   refine TL.val rfl rfl rfl (pm_load (k := 0) (i := 7) rfl rfl pcmag3 rfl rfl) ?_
   refine TL.gu ?_
   refine TL.mv ?_
   refine TL.gu ?_
   refine TL.vsplit rfl rfl rfl (gives_bin rfl rfl rfl (fun w => bin_lss w)) (fun h18 => ?_) (fun h18 => ?_)
   ·have q18 := of_decide_eq_true h18
    refine TL.pk ?_
    refine TL.mv ?_
    refine TL.gu ?_
    refine TL.val rfl rfl rfl (pm_loadV (k := 0) (i := 0) (n := 17) (v := .agg (x10.cells).toArray) rfl rfl prsag47 prssz47 rfl (by show 17 ≤ 17; decide) rfl) ?_
    refine TL.gu ?_
    refine TL.callsplit rfl rfl rfl rfl rfl Tryz.func17 plknm17 plkbd17 (fun w1 hw => finRs_any x10 w1) (fun h22 => ?_) (fun h22 => ?_)
    ·refine TL.pk ?_
     refine TL.end_ (TX.then_ (TC.condT rfl (TC.region ?_)))
     refine TL.val rfl rfl rfl (gives_field (v := .pointer (some ⟨g5, 7, none⟩)) rfl rfl (fun w => prsfld47_7 _ _ w)) ?_
     refine TL.val rfl rfl rfl (pm_load (k := 0) (i := 7) rfl rfl pcmag3 rfl rfl) ?_
     refine TL.as_ ?_
     refine TL.end_ (TX.in_normal (TX.then_ (TC.region ?_)))
     refine TL.val rfl rfl rfl (gives_bin rfl rfl rfl (fun w => bin_add_ (r := ((i + 1 : Nat) : Int)) (by simp only [IntKind.wrap_i64]; omega) w)) ?_
     refine TL.mv ?_
     refine TL.end_ ?_
     exact TX.round (⟨(i + 1, x10.ttl), by dsimp only; omega, by rw [endT_snoc hx10 hst, if_pos (by simp [fitE, q9, q13, q18, h22])]⟩) (by show l.length - (i + 1) < l.length - i; omega) ⟨rfl, rfl, rfl, rfl, rfl, trivial⟩ (fun w1 hw => hw.pick [] (by decide) rfl)
    ·refine TL.pk ?_
     refine TL.end_ (TX.then_ (TC.condF rfl (TC.skip_ (TX.in_normal (TX.then_ (TC.region ?_))))))
     refine TL.val rfl rfl rfl (gives_bin rfl rfl rfl (fun w => bin_add_ (r := ((i + 1 : Nat) : Int)) (by simp only [IntKind.wrap_i64]; omega) w)) ?_
     refine TL.mv ?_
     refine TL.end_ ?_
     exact TX.round (⟨(i + 1, en), by dsimp only; omega, by rw [endT_snoc hx10 hst, if_neg (by simp [fitE, q9, q13, q18, h22])]⟩) (by show l.length - (i + 1) < l.length - i; omega) ⟨rfl, rfl, rfl, rfl, rfl, trivial⟩ (fun w1 hw => hw.pick [] (by decide) rfl)
   ·have q18 := of_decide_eq_false h18
    iterate 5 (first | refine TL.of ?_ | refine TL.pk ?_ | refine TL.mv ?_)
    refine TL.end_ (TX.then_ (TC.condF rfl (TC.skip_ (TX.in_normal (TX.then_ (TC.region ?_))))))
    refine TL.val rfl rfl rfl (gives_bin rfl rfl rfl (fun w => bin_add_ (r := ((i + 1 : Nat) : Int)) (by simp only [IntKind.wrap_i64]; omega) w)) ?_
    refine TL.mv ?_
    refine TL.end_ ?_
    exact TX.round (⟨(i + 1, en), by dsimp only; omega, by rw [endT_snoc hx10 hst, if_neg (by simp [fitE, q9, q13, q18])]⟩) (by show l.length - (i + 1) < l.length - i; omega) ⟨rfl, rfl, rfl, rfl, rfl, trivial⟩ (fun w1 hw => hw.pick [] (by decide) rfl)
 ·have q9 := of_decide_eq_false h9
  refine TL.end_ (TX.then_ (TC.seq_ (TC.condF rfl (TC.exit_ (TX.then_exit (TX.then_exit (TX.in_same (TX.then_ (TC.seq_ (TC.region ?_))))))))))
  refine TL.mv ?_
  refine TL.as_ ?_
  refine TL.end_ (TX.then_ (TC.ret_ ?_))
  have hE : endT l = en := by rw [List.take_of_length_le (by omega)] at hst; exact hst
  exact ret_tmp Tryz.results20 rfl (fun w1 hw => ⟨by rw [hE], hw.bel⟩)
set_option maxHeartbeats 1000000 in
theorem look_any (A0 : Option Addr) (c0 : Nat) (l : List Rs) (w : World) (hr : Reads w w.heap.size 17 A0 l.length (flat Rs.cells l)) (hl1 : l.length ≤ 100000) (hok : ∀ r ∈ l, r.Ok) :
  Calls Tryz.prog 58 #[.slice A0 l.length c0] w fun e w' => ∃ x : {y : (Nat × Obj) × (Nat × Obj) // MapR (fun s : Spot => Value.agg s.cells.toArray) Spot.Ok y.1.2 (fun s => ((lookS l).1 s).map (Value.int .u32)) ∧ MapR (fun s : Spot => Value.agg s.cells.toArray) Spot.Ok y.2.2 (fun s => ((lookS l).2 s).map (Value.int .i64))}, e = .returned (.agg #[.int .i64 (endT l), .map (some x.1.1.1), .map (some x.1.2.1)]) ∧ Pm w [.oth x.1.1.1 x.1.1.2, .oth x.1.2.1 x.1.2.2] w' := by
 refine begin_ (vs := [.slice A0 l.length c0]) Tryz.func58 rfl rfl rfl ?_ (Pm.start w)
 refine TC.seq_ (TC.region ?_)
 refine TL.pnew rfl rfl rfl (exec_alloc (cs := [.int .i64 0, .map none, .map none]) rfl plkzv91 rfl) (fun g2 => ?_)
 refine TL.end_ (TX.then_ (TC.seq_ (TC.region ?_)))
 refine TL.mv ?_
 refine TL.pcall1 (r := .int .i64 (endT l)) rfl rfl rfl rfl rfl Tryz.func20 plknm20 plkbd20 (fun w1 hw => end_any A0 c0 l w1 (hr.up hw.bel) hl1) ?_
 refine TL.mkmap rfl rfl rfl rfl (fun ga hga => ?_)
 refine TL.mkmap rfl rfl rfl rfl (fun gs hgs => ?_)
 refine TL.val rfl rfl rfl (gives_build (v := .agg #[.int .i64 (endT l), .map (some ga), .map (some gs)]) rfl rfl (fun w => plkbld91_56786 _ _ _ w)) ?_
 refine TL.pnew rfl rfl rfl (exec_alloc (cs := [.int .i64 0, .map none, .map none]) rfl plkzv91 rfl) (fun g3 => ?_)
 refine TL.pstore (k := 0) (vs := [.int .i64 (endT l), .map (some ga), .map (some gs)]) rfl rfl rfl rfl rfl rfl rfl plksz91 plkone_i64mm (by show 3 ≤ 3; decide) rfl ?_
 refine TL.end_ (TX.then_ (TC.seq_ (TC.seq_ (TC.region ?_))))
 refine TL.mv ?_
 refine TL.val rfl rfl rfl (gives_len rfl Tryz.underlying26 rfl) ?_
 refine TL.mv ?_
 refine TL.end_ (TX.then_ (TC.block ?_))
 refine TC.loop_ (α := {y : Nat × (Obj × Obj) // y.1 ≤ l.length ∧ ∃ fa fs, lookS2 (endT l) (l.take y.1) = (fa, fs) ∧ MapR (fun s : Spot => Value.agg s.cells.toArray) Spot.Ok y.2.1 (fun s => (fa s).map (Value.int .u32)) ∧ MapR (fun s : Spot => Value.agg s.cells.toArray) Spot.Ok y.2.2 (fun s => (fs s).map (Value.int .i64))}) (fun y => [(2, .pointer (some ⟨g2, 0, none⟩)), (3, .pointer (some ⟨g3, 0, none⟩)), (13, .slice A0 l.length c0), (14, .int .i64 (l.length : Nat)), (15, .int .i64 ((y.1.1 : Nat) : Int))]) (fun y => Pm w [.blk g3 91 [.int .i64 (endT l), .map (some ga), .map (some gs)], .oth gs y.1.2.2, .oth ga y.1.2.1, .blk g2 91 [.int .i64 0, .map none, .map none]]) (fun y => l.length - y.1.1) (⟨(0, (.map #[] 0, .map #[] 0)), Nat.zero_le _, _, _, rfl, mapR_new _ _, mapR_new _ _⟩) ⟨rfl, rfl, rfl, rfl, rfl, trivial⟩ (fun w1 hw => hw) ?_
 rintro ⟨⟨i, oa, os⟩, hi, fa, fs, hst, hma, hms⟩
 dsimp only at hi hst hma hms ⊢
 refine TC.seq_ (TC.region ?_)
 refine TL.vsplit rfl rfl rfl (gives_bin rfl rfl rfl (fun w => bin_lss w)) (fun h16 => ?_) (fun h16 => ?_)
 ·have q16 := of_decide_eq_true h16
  refine TL.end_ (TX.then_ (TC.seq_ (TC.condT rfl (TC.skip_ (TX.then_ (TC.seq_ (TC.block (TC.seq_ (TC.region ?_)))))))))
  have hi17 : i < l.length := by omega
  obtain ⟨x17, hx17⟩ : ∃ x17, l[i]? = some x17 := ⟨_, List.getElem?_eq_getElem hi17⟩
  obtain ⟨b17, o17, hA17, hbb17, hc17⟩ := hr.ad (by omega) (by decide)
  refine TL.val rfl rfl rfl (gives_at (v := .pointer (some ⟨b17, o17 + i * 17, none⟩)) rfl rfl rfl (fun w => at_el Tryz.underlying26 prssz47 hA17 _ _ i (by omega) rfl w)) ?_
  refine TL.val rfl rfl rfl (gives_loadR (off := o17 + i * 17) rfl rfl prsag47 prssz47 (rs_cel.len x17) (fun w1 hw j9 u9 h9 => (hw.bel.cell hbb17).trans <| flat_cell rs_cel hx17 hc17 j9 u9 h9)) ?_
  refine TL.pnew rfl rfl rfl (exec_alloc (cs := [.int .i64 0, .int .i64 0, .int .i64 0, .int .i64 0, .int .u32 0, .int .i64 0, .int .i64 0, .int .i64 0, .bool false, .bool false, .int .i64 0, .int .u32 0, .int .i64 0, .int .i64 0, .int .i64 0, .int .i64 0, .int .i64 0]) rfl pcpzv47 rfl) (fun g5 => ?_)
  refine TL.pstore (k := 0) (vs := x17.cells) rfl rfl rfl rfl rfl rfl rfl prssz47 (rs_cel.one _) (by show 17 ≤ 17; decide) (L' := [.blk g5 47 x17.cells, .blk g3 91 [.int .i64 (endT l), .map (some ga), .map (some gs)], .oth gs os, .oth ga oa, .blk g2 91 [.int .i64 0, .map none, .map none]]) rfl ?_
  refine TL.end_ (TX.then_ (TC.seq_ (TC.seq_ (TC.region ?_))))
  refine TL.val rfl rfl rfl (pm_loadV (k := 0) (i := 0) (n := 17) (v := .agg (x17.cells).toArray) rfl rfl prsag47 prssz47 rfl (by show 17 ≤ 17; decide) rfl) ?_
  refine TL.callsplit rfl rfl rfl rfl rfl Tryz.func28 prsnm28 prsbd28 (fun w1 hw => usbRs_any x17 w1) (fun h20 => ?_) (fun h20 => ?_)
  ·refine TL.val rfl rfl rfl (gives_boolnot rfl rfl) ?_
   refine TL.mv ?_
   refine TL.gu ?_
   refine TL.val rfl rfl rfl (gives_field (v := .pointer (some ⟨g3, 0, none⟩)) rfl rfl (fun w => plkfld91_0 _ _ w)) ?_
   refine TL.gu ?_
   refine TL.val rfl rfl rfl (pm_load (k := 1) (i := 0) rfl rfl pcmag3 rfl rfl) ?_
   refine TL.gu ?_
   refine TL.vsplit rfl rfl rfl (gives_bin rfl rfl rfl (fun w => bin_gtr w)) (fun h25 => ?_) (fun h25 => ?_)
   ·have q25 := of_decide_eq_true h25
    refine TL.gu ?_
    refine TL.mv ?_
    refine TL.gu ?_
    refine TL.val rfl rfl rfl (gives_field (v := .pointer (some ⟨g5, 7, none⟩)) rfl rfl (fun w => prsfld47_7 _ _ w)) ?_
    refine TL.gu ?_
    refine TL.val rfl rfl rfl (pm_load (k := 0) (i := 7) rfl rfl pcmag3 rfl rfl) ?_
    refine TL.gu ?_
    refine TL.val rfl rfl rfl (gives_field (v := .pointer (some ⟨g3, 0, none⟩)) rfl rfl (fun w => plkfld91_0 _ _ w)) ?_
    refine TL.gu ?_
    refine TL.val rfl rfl rfl (pm_load (k := 1) (i := 0) rfl rfl pcmag3 rfl rfl) ?_
    refine TL.gu ?_
    refine TL.vsplit rfl rfl rfl (gives_bin rfl rfl rfl (fun w => bin_gtr w)) (fun h31 => ?_) (fun h31 => ?_)
    ·have q31 := of_decide_eq_true h31
     refine TL.gu ?_
     refine TL.pk ?_
     refine TL.pk ?_
     refine TL.end_ (TX.then_ (TC.condT rfl (TC.exit_ (TX.then_exit (TX.in_same (TX.then_ (TC.region ?_)))))))
     refine TL.val rfl rfl rfl (gives_bin rfl rfl rfl (fun w => bin_add_ (r := ((i + 1 : Nat) : Int)) (by simp only [IntKind.wrap_i64]; omega) w)) ?_
     refine TL.mv ?_
     refine TL.end_ ?_
     exact TX.round (⟨(i + 1, (oa, os)), by dsimp only; omega, _, _, lookS_skip hx17 hst (by simp [useR, q16, h20, q25, q31]), hma, hms⟩) (by show l.length - (i + 1) < l.length - i; omega) ⟨rfl, rfl, rfl, rfl, rfl, trivial⟩ (fun w1 hw => hw.pick [1, 2, 3, 4] (by decide) rfl)
    ·have q31 := of_decide_eq_false h31
     refine TL.gu ?_
     refine TL.pk ?_
     refine TL.pk ?_
     refine TL.end_ (TX.then_ (TC.condF rfl (TC.skip_ (TX.then_ (TC.seq_ (TC.region ?_))))))
     refine TL.val rfl rfl rfl (gives_field (v := .pointer (some ⟨g5, 6, none⟩)) rfl rfl (fun w => prsfld47_6 _ _ w)) ?_
     refine TL.val rfl rfl rfl (pm_load (k := 0) (i := 6) rfl rfl pcmag3 rfl rfl) ?_
     refine TL.val rfl rfl rfl (gives_field (v := .pointer (some ⟨g5, 7, none⟩)) rfl rfl (fun w => prsfld47_7 _ _ w)) ?_
     refine TL.val rfl rfl rfl (pm_load (k := 0) (i := 7) rfl rfl pcmag3 rfl rfl) ?_
     refine TL.val rfl rfl rfl (gives_build (v := .agg #[.int .i64 x17.flow, .int .i64 x17.ttl]) rfl rfl (fun w => plkbld97_27266 _ _ w)) ?_
     refine TL.pnew rfl rfl rfl (exec_alloc (cs := [.int .i64 0, .int .i64 0]) rfl plkzv97 rfl) (fun g6 => ?_)
     refine TL.pstore (k := 0) (vs := [.int .i64 x17.flow, .int .i64 x17.ttl]) rfl rfl rfl rfl rfl rfl rfl plksz97 plkone_i64i64 (by show 2 ≤ 2; decide) rfl ?_
     refine TL.end_ (TX.then_ (TC.seq_ (TC.region ?_)))
     refine TL.val rfl rfl rfl (gives_field (v := .pointer (some ⟨g3, 2, none⟩)) rfl rfl (fun w => plkfld91_2 _ _ w)) ?_
     refine TL.val rfl rfl rfl (pm_load (k := 2) (i := 2) rfl rfl plkag89 rfl rfl) ?_
     refine TL.val rfl rfl rfl (pm_loadV (k := 0) (i := 0) (n := 2) (v := .agg #[.int .i64 x17.flow, .int .i64 x17.ttl]) rfl rfl plkag97 plksz97 rfl (by show 2 ≤ 2; decide) rfl) ?_
     refine TL.val rfl rfl rfl (gives_lookG (v := .int .i64 ((fs (⟨x17.flow, x17.ttl⟩ : Spot)).getD 0)) rfl rfl rfl spot_key Tryz.underlying89 (fun w => rfl) (i := 3) rfl hms.toG (spotOk hx17 h20 hok) (by cases h9 : fs (⟨x17.flow, x17.ttl⟩ : Spot) <;> rfl)) ?_
     refine TL.as_ ?_
     refine TL.end_ (TX.then_ (TC.block (TC.seq_ (TC.region ?_))))
     refine TL.val rfl rfl rfl (gives_field (v := .pointer (some ⟨g5, 8, none⟩)) rfl rfl (fun w => prsfld47_8 _ _ w)) ?_
     refine TL.vsplit rfl rfl rfl (pm_load (k := 1) (i := 8) rfl rfl prsag4 rfl rfl) (fun h45 => ?_) (fun h45 => ?_)
     ·refine TL.val rfl rfl rfl (gives_boolnot rfl rfl) ?_
      refine TL.as_ ?_
      refine TL.end_ (TX.then_ (TC.condF rfl (TC.seq_ (TC.region ?_))))
      refine TL.mv ?_
      refine TL.vsplit rfl rfl rfl (gives_bin rfl rfl rfl (fun w => bin_leq w)) (fun h54 => ?_) (fun h54 => ?_)
      ·have q54 := of_decide_eq_true h54
       refine TL.as_ ?_
       refine TL.end_ (TX.then_ (TC.condT rfl ?_))
       refine TC.held (ls := #[Ff,Ff,Ff,Ff,Ff,Ff,Ff,Ff,Ff,Ff,Ff]) (Pm w [.blk g6 97 [.int .i64 x17.flow, .int .i64 x17.ttl], .blk g5 47 x17.cells, .blk g3 91 [.int .i64 (endT l), .map (some ga), .map (some gs)], .blk g2 91 [.int .i64 0, .map none, .map none]]) (by kernel_rfl) rfl rfl (fun w hw => hw.drawn _) ?_
       refine TH.tk (listed' := #[Tt,Ff,Ff,Ff,Ff,Ff,Ff,Ff,Ff,Ff,Ff]) 0 rfl rfl rfl (gives_field (v := .pointer (some ⟨g3, 2, none⟩)) rfl rfl (fun w => plkfld91_2 _ _ w)) (fun w1 hw => hw.pick [0, 1, 2, 5] (by decide) rfl) ?_
       refine TH.tk (listed' := #[Tt,Tt,Ff,Ff,Ff,Ff,Ff,Ff,Ff,Ff,Ff]) 1 rfl rfl rfl (pm_load (k := 2) (i := 2) rfl rfl plkag89 rfl rfl) (fun w1 hw => hw.pick [0, 1, 2, 5] (by decide) rfl) ?_
       refine TH.tk (listed' := #[Tt,Tt,Tt,Ff,Ff,Ff,Ff,Ff,Ff,Ff,Ff]) 2 rfl rfl rfl (pm_loadV (k := 0) (i := 0) (n := 2) (v := .agg #[.int .i64 x17.flow, .int .i64 x17.ttl]) rfl rfl plkag97 plksz97 rfl (by show 2 ≤ 2; decide) rfl) (fun w1 hw => hw.pick [0, 1, 2, 5] (by decide) rfl) ?_
       refine TH.tk (listed' := #[Tt,Tt,Tt,Tt,Ff,Ff,Ff,Ff,Ff,Ff,Ff]) 3 rfl rfl rfl (gives_field (v := .pointer (some ⟨g3, 1, none⟩)) rfl rfl (fun w => plkfld91_1 _ _ w)) (fun w1 hw => hw.pick [0, 1, 2, 5] (by decide) rfl) ?_
       refine TH.tk (listed' := #[Tt,Tt,Tt,Tt,Tt,Ff,Ff,Ff,Ff,Ff,Ff]) 4 rfl rfl rfl (pm_load (k := 2) (i := 1) rfl rfl plkag88 rfl rfl) (fun w1 hw => hw.pick [0, 1, 2, 5] (by decide) rfl) ?_
       refine TH.tk (listed' := #[Tt,Tt,Tt,Tt,Tt,Tt,Ff,Ff,Ff,Ff,Ff]) 5 rfl rfl rfl (pm_loadV (k := 0) (i := 0) (n := 2) (v := .agg #[.int .i64 x17.flow, .int .i64 x17.ttl]) rfl rfl plkag97 plksz97 rfl (by show 2 ≤ 2; decide) rfl) (fun w1 hw => hw.pick [0, 1, 2, 5] (by decide) rfl) ?_
       refine TH.tk (listed' := #[Tt,Tt,Tt,Tt,Tt,Tt,Tt,Ff,Ff,Ff,Ff]) 6 rfl rfl rfl (gives_field (v := .pointer (some ⟨g5, 11, none⟩)) rfl rfl (fun w => prsfld47_11 _ _ w)) (fun w1 hw => hw.pick [0, 1, 2, 5] (by decide) rfl) ?_
       refine TH.tk (listed' := #[Tt,Tt,Tt,Tt,Tt,Tt,Tt,Tt,Ff,Ff,Ff]) 7 rfl rfl rfl (gives_field (v := .pointer (some ⟨g5, 11, none⟩)) rfl rfl (fun w => prsfld45_0 _ _ w)) (fun w1 hw => hw.pick [0, 1, 2, 5] (by decide) rfl) ?_
       refine TH.tk (listed' := #[Tt,Tt,Tt,Tt,Tt,Tt,Tt,Tt,Tt,Ff,Ff]) 8 rfl rfl rfl (pm_load (k := 1) (i := 11) rfl rfl pcmag30 rfl rfl) (fun w1 hw => hw.pick [0, 1, 2, 5] (by decide) rfl) ?_
       refine TH.only' (listed' := #[Tt,Tt,Tt,Tt,Tt,Tt,Tt,Tt,Tt,Tt,Ff]) 9 rfl (by kernel_rfl) rfl ?_
       refine TL.mapsetR (i := 3) (a := (⟨x17.flow, x17.ttl⟩ : Spot)) rfl rfl rfl rfl rfl rfl spot_key Tryz.underlying89 rfl hgs hms (spotOk hx17 h20 hok) (fun os2 hms2 => ?_)
       rw [upd_map] at hms2
       try dsimp only [List.set_cons_zero, List.set_cons_succ]
       refine TL.end_ ?_
       refine TX.held (fun w1 hw => hw.pick [0, 1, 2, 5] (by decide) rfl) ?_
       refine TH.only' (listed' := #[Tt,Tt,Tt,Tt,Tt,Tt,Tt,Tt,Tt,Tt,Tt]) 10 rfl (by kernel_rfl) rfl ?_
       refine TL.mapsetR (i := 4) (a := (⟨x17.flow, x17.ttl⟩ : Spot)) rfl rfl rfl rfl rfl rfl spot_key Tryz.underlying88 rfl hga hma (spotOk hx17 h20 hok) (fun oa2 hma2 => ?_)
       rw [upd_map] at hma2
       try dsimp only [List.set_cons_zero, List.set_cons_succ]
       refine TL.end_ ?_
       refine TX.held (fun w1 hw => hw.pick [0, 1, 2, 5] (by decide) rfl) ?_
       refine TH.done (by kernel_rfl) ?_
       refine TX.in_normal (TX.in_normal (TX.then_ (TC.region ?_)))
       refine TL.val rfl rfl rfl (gives_bin rfl rfl rfl (fun w => bin_add_ (r := ((i + 1 : Nat) : Int)) (by simp only [IntKind.wrap_i64]; omega) w)) ?_
       refine TL.mv ?_
       refine TL.end_ ?_
       exact TX.round (⟨(i + 1, (oa2, os2)), by dsimp only; omega, _, _, lookS_first hx17 hst (by simp [useR, q16, h20, q25, q31]) h45 q54, hma2, hms2⟩) (by show l.length - (i + 1) < l.length - i; omega) ⟨rfl, rfl, rfl, rfl, rfl, trivial⟩ (fun w1 hw => hw.pick [2, 3, 4, 5] (by decide) rfl)
      ·have q54 := of_decide_eq_false h54
       refine TL.as_ ?_
       refine TL.end_ (TX.then_ (TC.condF rfl (TC.seq_ ?_)))
       refine TC.quietQ (by kernel_rfl) (by kernel_rfl) (fun w hw => hw.drawn _) ?_
       refine TQ.val rfl rfl rfl (gives_move rfl rfl) ?_
       refine TQ.vsplit rfl rfl rfl (gives_bin rfl rfl rfl (fun w => bin_eql w)) (fun h66 => ?_) (fun h66 => ?_)
       ·have q66 := of_decide_eq_true h66
        refine TQ.val rfl rfl rfl (gives_move rfl rfl) ?_
        refine TQ.on rfl rfl rfl ?_
        refine TQ.val rfl rfl rfl (gives_field (v := .pointer (some ⟨g3, 1, none⟩)) rfl rfl (fun w => plkfld91_1 _ _ w)) ?_
        refine TQ.on rfl rfl rfl ?_
        refine TQ.val rfl rfl rfl (pm_load (k := 2) (i := 1) rfl rfl plkag88 rfl rfl) ?_
        refine TQ.on rfl rfl rfl ?_
        refine TQ.val rfl rfl rfl (pm_loadV (k := 0) (i := 0) (n := 2) (v := .agg #[.int .i64 x17.flow, .int .i64 x17.ttl]) rfl rfl plkag97 plksz97 rfl (by show 2 ≤ 2; decide) rfl) ?_
        refine TQ.on rfl rfl rfl ?_
        refine TQ.val rfl rfl rfl (gives_lookG (v := .int .u32 ((fa (⟨x17.flow, x17.ttl⟩ : Spot)).getD 0)) rfl rfl rfl spot_key Tryz.underlying88 (fun w => rfl) (i := 4) rfl hma.toG (spotOk hx17 h20 hok) (by cases h9 : fa (⟨x17.flow, x17.ttl⟩ : Spot) <;> rfl)) ?_
        refine TQ.on rfl rfl rfl ?_
        refine TQ.val rfl rfl rfl (gives_field (v := .pointer (some ⟨g5, 11, none⟩)) rfl rfl (fun w => prsfld47_11 _ _ w)) ?_
        refine TQ.on rfl rfl rfl ?_
        refine TQ.val rfl rfl rfl (gives_field (v := .pointer (some ⟨g5, 11, none⟩)) rfl rfl (fun w => prsfld45_0 _ _ w)) ?_
        refine TQ.on rfl rfl rfl ?_
        refine TQ.val rfl rfl rfl (pm_load (k := 1) (i := 11) rfl rfl pcmag30 rfl rfl) ?_
        refine TQ.on rfl rfl rfl ?_
        refine TQ.vsplit rfl rfl rfl (gives_bin rfl rfl rfl (fun w => bin_neq w)) (fun h75 => ?_) (fun h75 => ?_)
        ·have q75 := of_decide_eq_true h75
         refine TQ.val rfl rfl rfl (gives_pick rfl rfl rfl) ?_
         refine TQ.val rfl rfl rfl (gives_assign rfl rfl) ?_
         refine TQ.fin ?_
         refine TX.then_ (TC.condT rfl ?_)
         refine TC.held (ls := #[Ff,Ff,Ff,Ff,Ff,Ff,Ff,Ff]) (Pm w [.blk g6 97 [.int .i64 x17.flow, .int .i64 x17.ttl], .blk g5 47 x17.cells, .blk g3 91 [.int .i64 (endT l), .map (some ga), .map (some gs)], .blk g2 91 [.int .i64 0, .map none, .map none]]) (by kernel_rfl) rfl rfl (fun w hw => hw.drawn _) ?_
         refine TH.tk (listed' := #[Tt,Ff,Ff,Ff,Ff,Ff,Ff,Ff]) 0 rfl rfl rfl (gives_field (v := .pointer (some ⟨g3, 2, none⟩)) rfl rfl (fun w => plkfld91_2 _ _ w)) (fun w1 hw => hw.pick [0, 1, 2, 5] (by decide) rfl) ?_
         refine TH.tk (listed' := #[Tt,Tt,Ff,Ff,Ff,Ff,Ff,Ff]) 1 rfl rfl rfl (pm_load (k := 2) (i := 2) rfl rfl plkag89 rfl rfl) (fun w1 hw => hw.pick [0, 1, 2, 5] (by decide) rfl) ?_
         refine TH.tk (listed' := #[Tt,Tt,Tt,Ff,Ff,Ff,Ff,Ff]) 2 rfl rfl rfl (pm_loadV (k := 0) (i := 0) (n := 2) (v := .agg #[.int .i64 x17.flow, .int .i64 x17.ttl]) rfl rfl plkag97 plksz97 rfl (by show 2 ≤ 2; decide) rfl) (fun w1 hw => hw.pick [0, 1, 2, 5] (by decide) rfl) ?_
         refine TH.tk (listed' := #[Tt,Tt,Tt,Tt,Ff,Ff,Ff,Ff]) 3 rfl rfl rfl (gives_field (v := .pointer (some ⟨g3, 1, none⟩)) rfl rfl (fun w => plkfld91_1 _ _ w)) (fun w1 hw => hw.pick [0, 1, 2, 5] (by decide) rfl) ?_
         refine TH.tk (listed' := #[Tt,Tt,Tt,Tt,Tt,Ff,Ff,Ff]) 4 rfl rfl rfl (pm_load (k := 2) (i := 1) rfl rfl plkag88 rfl rfl) (fun w1 hw => hw.pick [0, 1, 2, 5] (by decide) rfl) ?_
         refine TH.tk (listed' := #[Tt,Tt,Tt,Tt,Tt,Tt,Ff,Ff]) 5 rfl rfl rfl (pm_loadV (k := 0) (i := 0) (n := 2) (v := .agg #[.int .i64 x17.flow, .int .i64 x17.ttl]) rfl rfl plkag97 plksz97 rfl (by show 2 ≤ 2; decide) rfl) (fun w1 hw => hw.pick [0, 1, 2, 5] (by decide) rfl) ?_
         refine TH.only' (listed' := #[Tt,Tt,Tt,Tt,Tt,Tt,Tt,Ff]) 6 rfl (by kernel_rfl) rfl ?_
         refine TL.mapsetR (i := 3) (a := (⟨x17.flow, x17.ttl⟩ : Spot)) rfl rfl rfl rfl rfl rfl spot_key Tryz.underlying89 rfl hgs hms (spotOk hx17 h20 hok) (fun os2 hms2 => ?_)
         rw [upd_map] at hms2
         try dsimp only [List.set_cons_zero, List.set_cons_succ]
         refine TL.end_ ?_
         refine TX.held (fun w1 hw => hw.pick [0, 1, 2, 5] (by decide) rfl) ?_
         refine TH.only' (listed' := #[Tt,Tt,Tt,Tt,Tt,Tt,Tt,Tt]) 7 rfl (by kernel_rfl) rfl ?_
         refine TL.mapsetR (i := 4) (a := (⟨x17.flow, x17.ttl⟩ : Spot)) rfl rfl rfl rfl rfl rfl spot_key Tryz.underlying88 rfl hga hma (spotOk hx17 h20 hok) (fun oa2 hma2 => ?_)
         rw [upd_map] at hma2
         try dsimp only [List.set_cons_zero, List.set_cons_succ]
         refine TL.end_ ?_
         refine TX.held (fun w1 hw => hw.pick [0, 1, 2, 5] (by decide) rfl) ?_
         refine TH.done (by kernel_rfl) ?_
         refine TX.in_normal (TX.in_normal (TX.then_ (TC.region ?_)))
         refine TL.val rfl rfl rfl (gives_bin rfl rfl rfl (fun w => bin_add_ (r := ((i + 1 : Nat) : Int)) (by simp only [IntKind.wrap_i64]; omega) w)) ?_
         refine TL.mv ?_
         refine TL.end_ ?_
         exact TX.round (⟨(i + 1, (oa2, os2)), by dsimp only; omega, _, _, lookS_mix hx17 hst (by simp [useR, q16, h20, q25, q31]) h45 q66 q75, hma2, hms2⟩) (by show l.length - (i + 1) < l.length - i; omega) ⟨rfl, rfl, rfl, rfl, rfl, trivial⟩ (fun w1 hw => hw.pick [2, 3, 4, 5] (by decide) rfl)
        ·have q75 := of_decide_eq_false h75
         refine TQ.val rfl rfl rfl (gives_pick rfl rfl rfl) ?_
         refine TQ.val rfl rfl rfl (gives_assign rfl rfl) ?_
         refine TQ.fin ?_
         refine TX.then_ (TC.condF rfl (TC.skip_ (TX.in_normal (TX.in_normal (TX.then_ (TC.region ?_))))))
         refine TL.val rfl rfl rfl (gives_bin rfl rfl rfl (fun w => bin_add_ (r := ((i + 1 : Nat) : Int)) (by simp only [IntKind.wrap_i64]; omega) w)) ?_
         refine TL.mv ?_
         refine TL.end_ ?_
         exact TX.round (⟨(i + 1, (oa, os)), by dsimp only; omega, _, _, lookS_same hx17 hst (by simp [useR, q16, h20, q25, q31]) h45 q54 (by exact .inr q75), hma, hms⟩) (by show l.length - (i + 1) < l.length - i; omega) ⟨rfl, rfl, rfl, rfl, rfl, trivial⟩ (fun w1 hw => hw.pick [2, 3, 4, 5] (by decide) rfl)
       ·have q66 := of_decide_eq_false h66
        iterate 10 (first | refine TQ.off rfl rfl rfl rfl rfl rfl ?_ | refine TQ.val rfl rfl rfl (gives_move rfl rfl) ?_ | refine TQ.val rfl rfl rfl (gives_pick rfl rfl rfl) ?_)
        refine TQ.val rfl rfl rfl (gives_assign rfl rfl) ?_
        refine TQ.fin ?_
        refine TX.then_ (TC.condF rfl (TC.skip_ (TX.in_normal (TX.in_normal (TX.then_ (TC.region ?_))))))
        refine TL.val rfl rfl rfl (gives_bin rfl rfl rfl (fun w => bin_add_ (r := ((i + 1 : Nat) : Int)) (by simp only [IntKind.wrap_i64]; omega) w)) ?_
        refine TL.mv ?_
        refine TL.end_ ?_
        exact TX.round (⟨(i + 1, (oa, os)), by dsimp only; omega, _, _, lookS_same hx17 hst (by simp [useR, q16, h20, q25, q31]) h45 q54 (by exact .inl q66), hma, hms⟩) (by show l.length - (i + 1) < l.length - i; omega) ⟨rfl, rfl, rfl, rfl, rfl, trivial⟩ (fun w1 hw => hw.pick [2, 3, 4, 5] (by decide) rfl)
     ·refine TL.val rfl rfl rfl (gives_boolnot rfl rfl) ?_
      refine TL.as_ ?_
      refine TL.end_ (TX.then_ (TC.condT rfl (TC.region ?_)))
      refine TL.val rfl rfl rfl (gives_field (v := .pointer (some ⟨g3, 2, none⟩)) rfl rfl (fun w => plkfld91_2 _ _ w)) ?_
      refine TL.val rfl rfl rfl (pm_load (k := 2) (i := 2) rfl rfl plkag89 rfl rfl) ?_
      refine TL.val rfl rfl rfl (pm_loadV (k := 0) (i := 0) (n := 2) (v := .agg #[.int .i64 x17.flow, .int .i64 x17.ttl]) rfl rfl plkag97 plksz97 rfl (by show 2 ≤ 2; decide) rfl) ?_
      refine TL.mv ?_
      refine TL.val rfl rfl rfl (gives_maxI rfl rfl rfl) ?_
      refine TL.mapsetR (i := 3) (a := (⟨x17.flow, x17.ttl⟩ : Spot)) rfl rfl rfl rfl rfl rfl spot_key Tryz.underlying89 rfl hgs hms (spotOk hx17 h20 hok) (fun os2 hms2 => ?_)
      rw [upd_map] at hms2
      try dsimp only [List.set_cons_zero, List.set_cons_succ]
      refine TL.end_ (TX.in_normal (TX.in_normal (TX.then_ (TC.region ?_))))
      refine TL.val rfl rfl rfl (gives_bin rfl rfl rfl (fun w => bin_add_ (r := ((i + 1 : Nat) : Int)) (by simp only [IntKind.wrap_i64]; omega) w)) ?_
      refine TL.mv ?_
      refine TL.end_ ?_
      exact TX.round (⟨(i + 1, (oa, os2)), by dsimp only; omega, _, _, lookS_none hx17 hst (by simp [useR, q16, h20, q25, q31]) h45, hma, hms2⟩) (by show l.length - (i + 1) < l.length - i; omega) ⟨rfl, rfl, rfl, rfl, rfl, trivial⟩ (fun w1 hw => hw.pick [2, 3, 4, 5] (by decide) rfl)
   ·have q25 := of_decide_eq_false h25
    iterate 10 (first | refine TL.of ?_ | refine TL.gu ?_ | refine TL.pk ?_ | refine TL.mv ?_)
    refine TL.end_ (TX.then_ (TC.condF rfl (TC.skip_ (TX.then_ (TC.seq_ (TC.region ?_))))))
    refine TL.val rfl rfl rfl (gives_field (v := .pointer (some ⟨g5, 6, none⟩)) rfl rfl (fun w => prsfld47_6 _ _ w)) ?_
    refine TL.val rfl rfl rfl (pm_load (k := 0) (i := 6) rfl rfl pcmag3 rfl rfl) ?_
    refine TL.val rfl rfl rfl (gives_field (v := .pointer (some ⟨g5, 7, none⟩)) rfl rfl (fun w => prsfld47_7 _ _ w)) ?_
    refine TL.val rfl rfl rfl (pm_load (k := 0) (i := 7) rfl rfl pcmag3 rfl rfl) ?_
    refine TL.val rfl rfl rfl (gives_build (v := .agg #[.int .i64 x17.flow, .int .i64 x17.ttl]) rfl rfl (fun w => plkbld97_27266 _ _ w)) ?_
    refine TL.pnew rfl rfl rfl (exec_alloc (cs := [.int .i64 0, .int .i64 0]) rfl plkzv97 rfl) (fun g6 => ?_)
    refine TL.pstore (k := 0) (vs := [.int .i64 x17.flow, .int .i64 x17.ttl]) rfl rfl rfl rfl rfl rfl rfl plksz97 plkone_i64i64 (by show 2 ≤ 2; decide) rfl ?_
    refine TL.end_ (TX.then_ (TC.seq_ (TC.region ?_)))
    refine TL.val rfl rfl rfl (gives_field (v := .pointer (some ⟨g3, 2, none⟩)) rfl rfl (fun w => plkfld91_2 _ _ w)) ?_
    refine TL.val rfl rfl rfl (pm_load (k := 2) (i := 2) rfl rfl plkag89 rfl rfl) ?_
    refine TL.val rfl rfl rfl (pm_loadV (k := 0) (i := 0) (n := 2) (v := .agg #[.int .i64 x17.flow, .int .i64 x17.ttl]) rfl rfl plkag97 plksz97 rfl (by show 2 ≤ 2; decide) rfl) ?_
    refine TL.val rfl rfl rfl (gives_lookG (v := .int .i64 ((fs (⟨x17.flow, x17.ttl⟩ : Spot)).getD 0)) rfl rfl rfl spot_key Tryz.underlying89 (fun w => rfl) (i := 3) rfl hms.toG (spotOk hx17 h20 hok) (by cases h9 : fs (⟨x17.flow, x17.ttl⟩ : Spot) <;> rfl)) ?_
    refine TL.as_ ?_
    refine TL.end_ (TX.then_ (TC.block (TC.seq_ (TC.region ?_))))
    refine TL.val rfl rfl rfl (gives_field (v := .pointer (some ⟨g5, 8, none⟩)) rfl rfl (fun w => prsfld47_8 _ _ w)) ?_
    refine TL.vsplit rfl rfl rfl (pm_load (k := 1) (i := 8) rfl rfl prsag4 rfl rfl) (fun h45 => ?_) (fun h45 => ?_)
    ·refine TL.val rfl rfl rfl (gives_boolnot rfl rfl) ?_
     refine TL.as_ ?_
     refine TL.end_ (TX.then_ (TC.condF rfl (TC.seq_ (TC.region ?_))))
     refine TL.mv ?_
     refine TL.vsplit rfl rfl rfl (gives_bin rfl rfl rfl (fun w => bin_leq w)) (fun h54 => ?_) (fun h54 => ?_)
     ·have q54 := of_decide_eq_true h54
      refine TL.as_ ?_
      refine TL.end_ (TX.then_ (TC.condT rfl ?_))
      refine TC.held (ls := #[Ff,Ff,Ff,Ff,Ff,Ff,Ff,Ff,Ff,Ff,Ff]) (Pm w [.blk g6 97 [.int .i64 x17.flow, .int .i64 x17.ttl], .blk g5 47 x17.cells, .blk g3 91 [.int .i64 (endT l), .map (some ga), .map (some gs)], .blk g2 91 [.int .i64 0, .map none, .map none]]) (by kernel_rfl) rfl rfl (fun w hw => hw.drawn _) ?_
      refine TH.tk (listed' := #[Tt,Ff,Ff,Ff,Ff,Ff,Ff,Ff,Ff,Ff,Ff]) 0 rfl rfl rfl (gives_field (v := .pointer (some ⟨g3, 2, none⟩)) rfl rfl (fun w => plkfld91_2 _ _ w)) (fun w1 hw => hw.pick [0, 1, 2, 5] (by decide) rfl) ?_
      refine TH.tk (listed' := #[Tt,Tt,Ff,Ff,Ff,Ff,Ff,Ff,Ff,Ff,Ff]) 1 rfl rfl rfl (pm_load (k := 2) (i := 2) rfl rfl plkag89 rfl rfl) (fun w1 hw => hw.pick [0, 1, 2, 5] (by decide) rfl) ?_
      refine TH.tk (listed' := #[Tt,Tt,Tt,Ff,Ff,Ff,Ff,Ff,Ff,Ff,Ff]) 2 rfl rfl rfl (pm_loadV (k := 0) (i := 0) (n := 2) (v := .agg #[.int .i64 x17.flow, .int .i64 x17.ttl]) rfl rfl plkag97 plksz97 rfl (by show 2 ≤ 2; decide) rfl) (fun w1 hw => hw.pick [0, 1, 2, 5] (by decide) rfl) ?_
      refine TH.tk (listed' := #[Tt,Tt,Tt,Tt,Ff,Ff,Ff,Ff,Ff,Ff,Ff]) 3 rfl rfl rfl (gives_field (v := .pointer (some ⟨g3, 1, none⟩)) rfl rfl (fun w => plkfld91_1 _ _ w)) (fun w1 hw => hw.pick [0, 1, 2, 5] (by decide) rfl) ?_
      refine TH.tk (listed' := #[Tt,Tt,Tt,Tt,Tt,Ff,Ff,Ff,Ff,Ff,Ff]) 4 rfl rfl rfl (pm_load (k := 2) (i := 1) rfl rfl plkag88 rfl rfl) (fun w1 hw => hw.pick [0, 1, 2, 5] (by decide) rfl) ?_
      refine TH.tk (listed' := #[Tt,Tt,Tt,Tt,Tt,Tt,Ff,Ff,Ff,Ff,Ff]) 5 rfl rfl rfl (pm_loadV (k := 0) (i := 0) (n := 2) (v := .agg #[.int .i64 x17.flow, .int .i64 x17.ttl]) rfl rfl plkag97 plksz97 rfl (by show 2 ≤ 2; decide) rfl) (fun w1 hw => hw.pick [0, 1, 2, 5] (by decide) rfl) ?_
      refine TH.tk (listed' := #[Tt,Tt,Tt,Tt,Tt,Tt,Tt,Ff,Ff,Ff,Ff]) 6 rfl rfl rfl (gives_field (v := .pointer (some ⟨g5, 11, none⟩)) rfl rfl (fun w => prsfld47_11 _ _ w)) (fun w1 hw => hw.pick [0, 1, 2, 5] (by decide) rfl) ?_
      refine TH.tk (listed' := #[Tt,Tt,Tt,Tt,Tt,Tt,Tt,Tt,Ff,Ff,Ff]) 7 rfl rfl rfl (gives_field (v := .pointer (some ⟨g5, 11, none⟩)) rfl rfl (fun w => prsfld45_0 _ _ w)) (fun w1 hw => hw.pick [0, 1, 2, 5] (by decide) rfl) ?_
      refine TH.tk (listed' := #[Tt,Tt,Tt,Tt,Tt,Tt,Tt,Tt,Tt,Ff,Ff]) 8 rfl rfl rfl (pm_load (k := 1) (i := 11) rfl rfl pcmag30 rfl rfl) (fun w1 hw => hw.pick [0, 1, 2, 5] (by decide) rfl) ?_
      refine TH.only' (listed' := #[Tt,Tt,Tt,Tt,Tt,Tt,Tt,Tt,Tt,Tt,Ff]) 9 rfl (by kernel_rfl) rfl ?_
      refine TL.mapsetR (i := 3) (a := (⟨x17.flow, x17.ttl⟩ : Spot)) rfl rfl rfl rfl rfl rfl spot_key Tryz.underlying89 rfl hgs hms (spotOk hx17 h20 hok) (fun os2 hms2 => ?_)
      rw [upd_map] at hms2
      try dsimp only [List.set_cons_zero, List.set_cons_succ]
      refine TL.end_ ?_
      refine TX.held (fun w1 hw => hw.pick [0, 1, 2, 5] (by decide) rfl) ?_
      refine TH.only' (listed' := #[Tt,Tt,Tt,Tt,Tt,Tt,Tt,Tt,Tt,Tt,Tt]) 10 rfl (by kernel_rfl) rfl ?_
      refine TL.mapsetR (i := 4) (a := (⟨x17.flow, x17.ttl⟩ : Spot)) rfl rfl rfl rfl rfl rfl spot_key Tryz.underlying88 rfl hga hma (spotOk hx17 h20 hok) (fun oa2 hma2 => ?_)
      rw [upd_map] at hma2
      try dsimp only [List.set_cons_zero, List.set_cons_succ]
      refine TL.end_ ?_
      refine TX.held (fun w1 hw => hw.pick [0, 1, 2, 5] (by decide) rfl) ?_
      refine TH.done (by kernel_rfl) ?_
      refine TX.in_normal (TX.in_normal (TX.then_ (TC.region ?_)))
      refine TL.val rfl rfl rfl (gives_bin rfl rfl rfl (fun w => bin_add_ (r := ((i + 1 : Nat) : Int)) (by simp only [IntKind.wrap_i64]; omega) w)) ?_
      refine TL.mv ?_
      refine TL.end_ ?_
      exact TX.round (⟨(i + 1, (oa2, os2)), by dsimp only; omega, _, _, lookS_first hx17 hst (by simp [useR, q16, h20, q25]) h45 q54, hma2, hms2⟩) (by show l.length - (i + 1) < l.length - i; omega) ⟨rfl, rfl, rfl, rfl, rfl, trivial⟩ (fun w1 hw => hw.pick [2, 3, 4, 5] (by decide) rfl)
     ·have q54 := of_decide_eq_false h54
      refine TL.as_ ?_
      refine TL.end_ (TX.then_ (TC.condF rfl (TC.seq_ ?_)))
      refine TC.quietQ (by kernel_rfl) (by kernel_rfl) (fun w hw => hw.drawn _) ?_
      refine TQ.val rfl rfl rfl (gives_move rfl rfl) ?_
      refine TQ.vsplit rfl rfl rfl (gives_bin rfl rfl rfl (fun w => bin_eql w)) (fun h66 => ?_) (fun h66 => ?_)
      ·have q66 := of_decide_eq_true h66
       refine TQ.val rfl rfl rfl (gives_move rfl rfl) ?_
       refine TQ.on rfl rfl rfl ?_
       refine TQ.val rfl rfl rfl (gives_field (v := .pointer (some ⟨g3, 1, none⟩)) rfl rfl (fun w => plkfld91_1 _ _ w)) ?_
       refine TQ.on rfl rfl rfl ?_
       refine TQ.val rfl rfl rfl (pm_load (k := 2) (i := 1) rfl rfl plkag88 rfl rfl) ?_
       refine TQ.on rfl rfl rfl ?_
       refine TQ.val rfl rfl rfl (pm_loadV (k := 0) (i := 0) (n := 2) (v := .agg #[.int .i64 x17.flow, .int .i64 x17.ttl]) rfl rfl plkag97 plksz97 rfl (by show 2 ≤ 2; decide) rfl) ?_
       refine TQ.on rfl rfl rfl ?_
       refine TQ.val rfl rfl rfl (gives_lookG (v := .int .u32 ((fa (⟨x17.flow, x17.ttl⟩ : Spot)).getD 0)) rfl rfl rfl spot_key Tryz.underlying88 (fun w => rfl) (i := 4) rfl hma.toG (spotOk hx17 h20 hok) (by cases h9 : fa (⟨x17.flow, x17.ttl⟩ : Spot) <;> rfl)) ?_
       refine TQ.on rfl rfl rfl ?_
       refine TQ.val rfl rfl rfl (gives_field (v := .pointer (some ⟨g5, 11, none⟩)) rfl rfl (fun w => prsfld47_11 _ _ w)) ?_
       refine TQ.on rfl rfl rfl ?_
       refine TQ.val rfl rfl rfl (gives_field (v := .pointer (some ⟨g5, 11, none⟩)) rfl rfl (fun w => prsfld45_0 _ _ w)) ?_
       refine TQ.on rfl rfl rfl ?_
       refine TQ.val rfl rfl rfl (pm_load (k := 1) (i := 11) rfl rfl pcmag30 rfl rfl) ?_
       refine TQ.on rfl rfl rfl ?_
       refine TQ.vsplit rfl rfl rfl (gives_bin rfl rfl rfl (fun w => bin_neq w)) (fun h75 => ?_) (fun h75 => ?_)
       ·have q75 := of_decide_eq_true h75
        refine TQ.val rfl rfl rfl (gives_pick rfl rfl rfl) ?_
        refine TQ.val rfl rfl rfl (gives_assign rfl rfl) ?_
        refine TQ.fin ?_
        refine TX.then_ (TC.condT rfl ?_)
        refine TC.held (ls := #[Ff,Ff,Ff,Ff,Ff,Ff,Ff,Ff]) (Pm w [.blk g6 97 [.int .i64 x17.flow, .int .i64 x17.ttl], .blk g5 47 x17.cells, .blk g3 91 [.int .i64 (endT l), .map (some ga), .map (some gs)], .blk g2 91 [.int .i64 0, .map none, .map none]]) (by kernel_rfl) rfl rfl (fun w hw => hw.drawn _) ?_
        refine TH.tk (listed' := #[Tt,Ff,Ff,Ff,Ff,Ff,Ff,Ff]) 0 rfl rfl rfl (gives_field (v := .pointer (some ⟨g3, 2, none⟩)) rfl rfl (fun w => plkfld91_2 _ _ w)) (fun w1 hw => hw.pick [0, 1, 2, 5] (by decide) rfl) ?_
        refine TH.tk (listed' := #[Tt,Tt,Ff,Ff,Ff,Ff,Ff,Ff]) 1 rfl rfl rfl (pm_load (k := 2) (i := 2) rfl rfl plkag89 rfl rfl) (fun w1 hw => hw.pick [0, 1, 2, 5] (by decide) rfl) ?_
        refine TH.tk (listed' := #[Tt,Tt,Tt,Ff,Ff,Ff,Ff,Ff]) 2 rfl rfl rfl (pm_loadV (k := 0) (i := 0) (n := 2) (v := .agg #[.int .i64 x17.flow, .int .i64 x17.ttl]) rfl rfl plkag97 plksz97 rfl (by show 2 ≤ 2; decide) rfl) (fun w1 hw => hw.pick [0, 1, 2, 5] (by decide) rfl) ?_
        refine TH.tk (listed' := #[Tt,Tt,Tt,Tt,Ff,Ff,Ff,Ff]) 3 rfl rfl rfl (gives_field (v := .pointer (some ⟨g3, 1, none⟩)) rfl rfl (fun w => plkfld91_1 _ _ w)) (fun w1 hw => hw.pick [0, 1, 2, 5] (by decide) rfl) ?_
        refine TH.tk (listed' := #[Tt,Tt,Tt,Tt,Tt,Ff,Ff,Ff]) 4 rfl rfl rfl (pm_load (k := 2) (i := 1) rfl rfl plkag88 rfl rfl) (fun w1 hw => hw.pick [0, 1, 2, 5] (by decide) rfl) ?_
        refine TH.tk (listed' := #[Tt,Tt,Tt,Tt,Tt,Tt,Ff,Ff]) 5 rfl rfl rfl (pm_loadV (k := 0) (i := 0) (n := 2) (v := .agg #[.int .i64 x17.flow, .int .i64 x17.ttl]) rfl rfl plkag97 plksz97 rfl (by show 2 ≤ 2; decide) rfl) (fun w1 hw => hw.pick [0, 1, 2, 5] (by decide) rfl) ?_
        refine TH.only' (listed' := #[Tt,Tt,Tt,Tt,Tt,Tt,Tt,Ff]) 6 rfl (by kernel_rfl) rfl ?_
        refine TL.mapsetR (i := 3) (a := (⟨x17.flow, x17.ttl⟩ : Spot)) rfl rfl rfl rfl rfl rfl spot_key Tryz.underlying89 rfl hgs hms (spotOk hx17 h20 hok) (fun os2 hms2 => ?_)
        rw [upd_map] at hms2
        try dsimp only [List.set_cons_zero, List.set_cons_succ]
        refine TL.end_ ?_
        refine TX.held (fun w1 hw => hw.pick [0, 1, 2, 5] (by decide) rfl) ?_
        refine TH.only' (listed' := #[Tt,Tt,Tt,Tt,Tt,Tt,Tt,Tt]) 7 rfl (by kernel_rfl) rfl ?_
        refine TL.mapsetR (i := 4) (a := (⟨x17.flow, x17.ttl⟩ : Spot)) rfl rfl rfl rfl rfl rfl spot_key Tryz.underlying88 rfl hga hma (spotOk hx17 h20 hok) (fun oa2 hma2 => ?_)
        rw [upd_map] at hma2
        try dsimp only [List.set_cons_zero, List.set_cons_succ]
        refine TL.end_ ?_
        refine TX.held (fun w1 hw => hw.pick [0, 1, 2, 5] (by decide) rfl) ?_
        refine TH.done (by kernel_rfl) ?_
        refine TX.in_normal (TX.in_normal (TX.then_ (TC.region ?_)))
        refine TL.val rfl rfl rfl (gives_bin rfl rfl rfl (fun w => bin_add_ (r := ((i + 1 : Nat) : Int)) (by simp only [IntKind.wrap_i64]; omega) w)) ?_
        refine TL.mv ?_
        refine TL.end_ ?_
        exact TX.round (⟨(i + 1, (oa2, os2)), by dsimp only; omega, _, _, lookS_mix hx17 hst (by simp [useR, q16, h20, q25]) h45 q66 q75, hma2, hms2⟩) (by show l.length - (i + 1) < l.length - i; omega) ⟨rfl, rfl, rfl, rfl, rfl, trivial⟩ (fun w1 hw => hw.pick [2, 3, 4, 5] (by decide) rfl)
       ·have q75 := of_decide_eq_false h75
        refine TQ.val rfl rfl rfl (gives_pick rfl rfl rfl) ?_
        refine TQ.val rfl rfl rfl (gives_assign rfl rfl) ?_
        refine TQ.fin ?_
        refine TX.then_ (TC.condF rfl (TC.skip_ (TX.in_normal (TX.in_normal (TX.then_ (TC.region ?_))))))
        refine TL.val rfl rfl rfl (gives_bin rfl rfl rfl (fun w => bin_add_ (r := ((i + 1 : Nat) : Int)) (by simp only [IntKind.wrap_i64]; omega) w)) ?_
        refine TL.mv ?_
        refine TL.end_ ?_
        exact TX.round (⟨(i + 1, (oa, os)), by dsimp only; omega, _, _, lookS_same hx17 hst (by simp [useR, q16, h20, q25]) h45 q54 (by exact .inr q75), hma, hms⟩) (by show l.length - (i + 1) < l.length - i; omega) ⟨rfl, rfl, rfl, rfl, rfl, trivial⟩ (fun w1 hw => hw.pick [2, 3, 4, 5] (by decide) rfl)
      ·have q66 := of_decide_eq_false h66
       iterate 10 (first | refine TQ.off rfl rfl rfl rfl rfl rfl ?_ | refine TQ.val rfl rfl rfl (gives_move rfl rfl) ?_ | refine TQ.val rfl rfl rfl (gives_pick rfl rfl rfl) ?_)
       refine TQ.val rfl rfl rfl (gives_assign rfl rfl) ?_
       refine TQ.fin ?_
       refine TX.then_ (TC.condF rfl (TC.skip_ (TX.in_normal (TX.in_normal (TX.then_ (TC.region ?_))))))
       refine TL.val rfl rfl rfl (gives_bin rfl rfl rfl (fun w => bin_add_ (r := ((i + 1 : Nat) : Int)) (by simp only [IntKind.wrap_i64]; omega) w)) ?_
       refine TL.mv ?_
       refine TL.end_ ?_
       exact TX.round (⟨(i + 1, (oa, os)), by dsimp only; omega, _, _, lookS_same hx17 hst (by simp [useR, q16, h20, q25]) h45 q54 (by exact .inl q66), hma, hms⟩) (by show l.length - (i + 1) < l.length - i; omega) ⟨rfl, rfl, rfl, rfl, rfl, trivial⟩ (fun w1 hw => hw.pick [2, 3, 4, 5] (by decide) rfl)
    ·refine TL.val rfl rfl rfl (gives_boolnot rfl rfl) ?_
     refine TL.as_ ?_
     refine TL.end_ (TX.then_ (TC.condT rfl (TC.region ?_)))
     refine TL.val rfl rfl rfl (gives_field (v := .pointer (some ⟨g3, 2, none⟩)) rfl rfl (fun w => plkfld91_2 _ _ w)) ?_
     refine TL.val rfl rfl rfl (pm_load (k := 2) (i := 2) rfl rfl plkag89 rfl rfl) ?_
     refine TL.val rfl rfl rfl (pm_loadV (k := 0) (i := 0) (n := 2) (v := .agg #[.int .i64 x17.flow, .int .i64 x17.ttl]) rfl rfl plkag97 plksz97 rfl (by show 2 ≤ 2; decide) rfl) ?_
     refine TL.mv ?_
     refine TL.val rfl rfl rfl (gives_maxI rfl rfl rfl) ?_
     refine TL.mapsetR (i := 3) (a := (⟨x17.flow, x17.ttl⟩ : Spot)) rfl rfl rfl rfl rfl rfl spot_key Tryz.underlying89 rfl hgs hms (spotOk hx17 h20 hok) (fun os2 hms2 => ?_)
     rw [upd_map] at hms2
     try dsimp only [List.set_cons_zero, List.set_cons_succ]
     refine TL.end_ (TX.in_normal (TX.in_normal (TX.then_ (TC.region ?_))))
     refine TL.val rfl rfl rfl (gives_bin rfl rfl rfl (fun w => bin_add_ (r := ((i + 1 : Nat) : Int)) (by simp only [IntKind.wrap_i64]; omega) w)) ?_
     refine TL.mv ?_
     refine TL.end_ ?_
     exact TX.round (⟨(i + 1, (oa, os2)), by dsimp only; omega, _, _, lookS_none hx17 hst (by simp [useR, q16, h20, q25]) h45, hma, hms2⟩) (by show l.length - (i + 1) < l.length - i; omega) ⟨rfl, rfl, rfl, rfl, rfl, trivial⟩ (fun w1 hw => hw.pick [2, 3, 4, 5] (by decide) rfl)
  ·iterate 13 (first | refine TL.of ?_ | refine TL.offU rfl rfl rfl rfl rfl ?_ | refine TL.mv ?_ | refine TL.pk ?_ | refine TL.val rfl rfl rfl (gives_boolnot rfl rfl) ?_)
   refine TL.end_ (TX.then_ (TC.condT rfl (TC.exit_ (TX.then_exit (TX.in_same (TX.then_ (TC.region ?_)))))))
   refine TL.val rfl rfl rfl (gives_bin rfl rfl rfl (fun w => bin_add_ (r := ((i + 1 : Nat) : Int)) (by simp only [IntKind.wrap_i64]; omega) w)) ?_
   refine TL.mv ?_
   refine TL.end_ ?_
   exact TX.round (⟨(i + 1, (oa, os)), by dsimp only; omega, _, _, lookS_skip hx17 hst (by simp [useR, q16, h20]), hma, hms⟩) (by show l.length - (i + 1) < l.length - i; omega) ⟨rfl, rfl, rfl, rfl, rfl, trivial⟩ (fun w1 hw => hw.pick [1, 2, 3, 4] (by decide) rfl)
 ·have q16 := of_decide_eq_false h16
  refine TL.end_ (TX.then_ (TC.seq_ (TC.condF rfl (TC.exit_ (TX.then_exit (TX.then_exit (TX.in_same (TX.then_ (TC.seq_ (TC.region ?_))))))))))
  refine TL.val rfl rfl rfl (pm_loadV (k := 0) (i := 0) (n := 3) (v := .agg #[.int .i64 (endT l), .map (some ga), .map (some gs)]) rfl rfl plkag91 plksz91 rfl (by show 3 ≤ 3; decide) rfl) ?_
  refine TL.pstore (k := 3) (vs := [.int .i64 (endT l), .map (some ga), .map (some gs)]) rfl rfl rfl rfl rfl rfl rfl plksz91 plkone_i64mm (by show 3 ≤ 3; decide) rfl ?_
  refine TL.end_ (TX.then_ (TC.ret_ ?_))
  rw [List.take_of_length_le (by omega)] at hst
  have e1 : fa = (lookS l).1 := by show fa = (lookS2 (endT l) l).1; rw [hst]
  have e2 : fs = (lookS l).2 := by show fs = (lookS2 (endT l) l).2; rw [hst]
  subst e1 e2
  exact pm_ret_cell (k := 3) Tryz.results58 rfl rfl Tryz.underlying91 rfl rfl (fun w1 hw => ⟨⟨((ga, oa), (gs, os)), hma, hms⟩, rfl, hw.pick [2, 1] (by decide) rfl⟩)
set_option maxRecDepth 20000
section
variable {P : Program} {N : Fr} {E : Env} {w0 : Base} {L : List Pc} {o : Oper} {κ : Type} {enc : κ → Value} {Ok : κ → Prop} {t k e : TypeId}
theorem gives_lookOld {x y : Operand} {g : Nat} {ob : Obj} {f : κ → Option Value} {a : κ} {z : Value} (ho : o.op = .lookup t x y false) (hx : ev E x = some (.map (some g))) (hy : ev E y = some (enc a)) (K : MKey P k enc Ok) (ht : P.underlying t = some (.map k e)) (hz : ∀ w : World, (zeroValue e).run P w = .ok z w) (hg : w0.w.heap[g]? = some ob) (hm : MapG enc Ok ob f) (ha : Ok a) {v : Value} (hv : (f a).getD z = v) :
    Gives P N o E (Pm w0 L) v := fun ac w hac hw => by
  have hnc : ob.isCells = false := by obtain ⟨_, _, he, _⟩ := hm; rw [he]; rfl
  unfold execOp; rw [ho]
  subst hv
  simp [hac.eval hx, hac.eval hy, hm.look K ht hz (hw.oth.same g ob hg hnc) ha false]
end
def hasF (fs : Spot → Option Int) (flow ttl : Int) : Bool := decide ((fs ⟨flow, ttl⟩).getD 0 = 2) || decide ((fs ⟨flow, ttl⟩).getD 0 = 1)
def pathF (fa fs : Spot → Option Int) (flow : Int) (z i : Nat) (o : List Int) : Prop := o = (List.range i).map (fun (j : Nat) => (fa ⟨flow, ((j + 1 : Nat) : Int)⟩).getD 0) ∧ ∀ j : Nat, j < i → hasF fs flow ((j + 1 : Nat) : Int) = true
theorem PathF.nil {fa fs : Spot → Option Int} {flow : Int} {z : Nat} : pathF fa fs flow z 0 [] := ⟨rfl, fun j hj => absurd hj (Nat.not_lt_zero _)⟩
def PathOk (l : List Rs) (flow : Int) (o : List Int) : Prop := ∃ i : Nat, pathF (lookS l).1 (lookS l).2 flow 0 i o ∧ hasF (lookS l).2 flow ((i + 1 : Nat) : Int) = false
theorem PathOk.eq {l : List Rs} {flow : Int} {o o' : List Int} (h : PathOk l flow o) (h' : PathOk l flow o') : o = o' := by
  obtain ⟨i, ⟨h1, h2⟩, h3⟩ := h
  obtain ⟨i', ⟨h4, h5⟩, h6⟩ := h'
  have : i = i' := by
    rcases Nat.lt_trichotomy i i' with h7 | h7 | h7
    · have := h5 i h7; rw [h3] at this; cases this
    · exact h7
    · have := h2 i' h7; rw [h6] at this; cases this
  subst this
  rw [h1, h4]
theorem lookS_mem {e : Int} : ∀ (l : List Rs) (p : (Spot → Option Int) × (Spot → Option Int)) (s : Spot), (l.foldl (stepK e) p).2 s ≠ none → p.2 s ≠ none ∨ ∃ r ∈ l, useR e r = true ∧ spotR r = s
  | [], p, s, h => .inl h
  | r :: l, p, s, h => by
    rcases lookS_mem l (stepK e p r) s h with h1 | ⟨r', h2, h3⟩
    · by_cases hu : useR e r = true
      · by_cases hs : spotR r = s
        · exact .inr ⟨r, List.mem_cons_self, hu, hs⟩
        · refine .inl ?_
          have hn : ∀ (f : Spot → Option Int) (v : Int), updF f (spotR r) v s = f s := fun f v => if_neg fun h => hs h.symm
          unfold stepK at h1
          rw [if_pos hu] at h1
          split at h1
          · exact fun hh => h1 ((hn _ _).trans hh)
          · split at h1
            · exact fun hh => h1 ((hn _ _).trans hh)
            · split at h1
              · exact fun hh => h1 ((hn _ _).trans hh)
              · exact h1
      · unfold stepK at h1
        rw [if_neg hu] at h1
        exact .inl h1
    · exact .inr ⟨r', List.mem_cons_of_mem _ h2, h3⟩
theorem lookS_use {l : List Rs} {s : Spot} (h : ((lookS l).2 s).getD 0 ≠ 0) : ∃ r ∈ l, useR (endT l) r = true ∧ spotR r = s := by
  have h1 : (lookS l).2 s ≠ none := fun e => h (by rw [e]; rfl)
  rcases lookS_mem l _ s h1 with h2 | h2
  · exact absurd rfl h2
  · exact h2
theorem use_rng {e : Int} {r : Rs} (h : useR e r = true) : 0 ≤ r.flow ∧ r.flow ≤ 1023 ∧ 1 ≤ r.ttl ∧ r.ttl ≤ 255 := by
  unfold useR usbRs vldRs at h
  simp only [Bool.and_eq_true, decide_eq_true_eq] at h
  have hr : r.inRange := Decidable.by_contra fun h1 => by have := chk_range h1; omega
  obtain ⟨a1, a2, a3, a4, a5, a6, a7, a8, a9, a10, a11, a12, a13, a14, a15⟩ := hr
  exact ⟨a12, a13, a14, a15⟩
set_option maxHeartbeats 1000000 in
theorem has_any (en : Int) (ga gs : Nat) (os : Obj) (fs : Spot → Option Int) (flow ttl : Int) (w : World) (hgs : w.heap[gs]? = some os) (hmgs : MapR (fun s : Spot => Value.agg s.cells.toArray) Spot.Ok os (fun s => (fs s).map (Value.int .i64))) (hk : (⟨flow, ttl⟩ : Spot).Ok) :
    Calls Tryz.prog 60 #[.agg #[.int .i64 en, .map (some ga), .map (some gs)], .int .i64 flow, .int .i64 ttl] w fun e w' => e = .returned (.bool (hasF fs flow ttl)) ∧ Below w.heap.size w w' := by
  refine begin_ (vs := [.agg #[.int .i64 en, .map (some ga), .map (some gs)], .int .i64 flow, .int .i64 ttl]) Tryz.func60 rfl rfl rfl ?_ (Pm.start w)
  refine TC.seq_ ?_
  refine TC.region ?_
  refine TL.pnew rfl rfl rfl (exec_box (cs := [.int .i64 en, .map (some ga), .map (some gs)]) rfl rfl rfl) (fun g3 => ?_)
  refine TL.val rfl rfl rfl (gives_assign rfl rfl) ?_
  refine TL.end_ ?_
  refine TX.then_ ?_
  refine TC.seq_ ?_
  refine TC.region ?_
  refine TL.val rfl rfl rfl (gives_field (v := .pointer (some ⟨g3, 2, none⟩)) rfl rfl (fun w => plkfld91_2 _ _ w)) ?_
  refine TL.val rfl rfl rfl (pm_load (k := 0) (i := 2) rfl rfl plkag89 rfl rfl) ?_
  refine TL.val rfl rfl rfl (gives_move rfl rfl) ?_
  refine TL.val rfl rfl rfl (gives_move rfl rfl) ?_
  refine TL.val rfl rfl rfl (gives_build (v := .agg #[.int .i64 flow, .int .i64 ttl]) rfl rfl (fun w => plkbld97_27266 _ _ w)) ?_
  refine TL.val rfl rfl rfl (gives_lookOld (a := (⟨flow, ttl⟩ : Spot)) (v := .int .i64 ((fs (⟨flow, ttl⟩ : Spot)).getD 0)) rfl rfl rfl spot_key Tryz.underlying89 (fun w => rfl) hgs hmgs.toG hk (by cases h9 : fs (⟨flow, ttl⟩ : Spot) <;> rfl)) ?_
  refine TL.val rfl rfl rfl (gives_assign rfl rfl) ?_
  refine TL.end_ ?_
  refine TX.then_ ?_
  refine TC.seq_ ?_
  refine TC.region ?_
  refine TL.val rfl rfl rfl (gives_move rfl rfl) ?_
  refine TL.vsplit rfl rfl rfl (gives_bin rfl rfl rfl (fun w => bin_eql w)) (fun h15 => ?_) (fun h15 => ?_)
  · have q15 := of_decide_eq_true h15
    refine TL.val rfl rfl rfl (gives_move rfl rfl) ?_
    refine TL.off rfl rfl rfl rfl rfl rfl ?_
    refine TL.off rfl rfl rfl rfl rfl rfl ?_
    refine TL.val rfl rfl rfl (gives_pick rfl rfl rfl) ?_
    refine TL.val rfl rfl rfl (gives_assign rfl rfl) ?_
    refine TL.end_ ?_
    refine TX.then_ ?_
    refine TC.ret_ ?_
    have hE : (hasF fs flow ttl) = true := (by simp [hasF, q15])
    exact ret_tmp Tryz.results60 rfl (fun w1 hw => ⟨by rw [hE]; try rfl, hw.bel⟩)
  · have q15 := of_decide_eq_false h15
    refine TL.val rfl rfl rfl (gives_move rfl rfl) ?_
    refine TL.on rfl rfl rfl ?_
    refine TL.val rfl rfl rfl (gives_move rfl rfl) ?_
    refine TL.on rfl rfl rfl ?_
    refine TL.vsplit rfl rfl rfl (gives_bin rfl rfl rfl (fun w => bin_eql w)) (fun h18 => ?_) (fun h18 => ?_)
    · have q18 := of_decide_eq_true h18
      refine TL.val rfl rfl rfl (gives_pick rfl rfl rfl) ?_
      refine TL.val rfl rfl rfl (gives_assign rfl rfl) ?_
      refine TL.end_ ?_
      refine TX.then_ ?_
      refine TC.ret_ ?_
      have hE : (hasF fs flow ttl) = true := (by simp [hasF, q15, q18])
      exact ret_tmp Tryz.results60 rfl (fun w1 hw => ⟨by rw [hE]; try rfl, hw.bel⟩)
    · have q18 := of_decide_eq_false h18
      refine TL.val rfl rfl rfl (gives_pick rfl rfl rfl) ?_
      refine TL.val rfl rfl rfl (gives_assign rfl rfl) ?_
      refine TL.end_ ?_
      refine TX.then_ ?_
      refine TC.ret_ ?_
      have hE : (hasF fs flow ttl) = false := (by simp [hasF, q15, q18])
      exact ret_tmp Tryz.results60 rfl (fun w1 hw => ⟨by rw [hE]; try rfl, hw.bel⟩)
def vst (p : Int × Int) (r : Rs) : Int × Int := if r.ans = false then (p.1, max p.2 1) else if p.2 ≤ 1 then (r.src, 2) else if p.2 = 2 ∧ p.1 ≠ r.src then (0, 3) else p
def hitS (e : Int) (s : Spot) (r : Rs) : Bool := useR e r && decide (spotR r = s)
def vwS (e : Int) (l : List Rs) (s : Spot) : Int × Int := (l.filter (hitS e s)).foldl vst (0, 0)
theorem look_fold (e : Int) (s : Spot) : ∀ (l : List Rs) (p : (Spot → Option Int) × (Spot → Option Int)), (((l.foldl (stepK e) p).1 s).getD 0, ((l.foldl (stepK e) p).2 s).getD 0) = (l.filter (hitS e s)).foldl vst ((p.1 s).getD 0, (p.2 s).getD 0)
  | [], p => rfl
  | r :: l, p => by
    rw [List.foldl_cons, look_fold e s l (stepK e p r)]
    by_cases hu : useR e r = true
    · by_cases hs : spotR r = s
      · rw [List.filter_cons_of_pos (by simp [hitS, hu, hs]), List.foldl_cons]
        congr 1
        subst hs
        have hy : ∀ (f : Spot → Option Int) (v : Int), updF f (spotR r) v (spotR r) = some v := fun f v => if_pos rfl
        unfold stepK vst
        rw [if_pos hu]
        by_cases h1 : r.ans = false
        · rw [if_pos h1, if_pos h1]; simp only [hy, Option.getD_some]
        · rw [if_neg h1, if_neg h1]
          by_cases h2 : ((p.2 (spotR r)).getD 0) ≤ 1
          · rw [if_pos h2, if_pos h2]; simp only [hy, Option.getD_some]
          · rw [if_neg h2, if_neg h2]
            by_cases h3 : (p.2 (spotR r)).getD 0 = 2 ∧ (p.1 (spotR r)).getD 0 ≠ r.src
            · rw [if_pos h3, if_pos h3]; simp only [hy, Option.getD_some]
            · rw [if_neg h3, if_neg h3]
      · rw [List.filter_cons_of_neg (by simp [hitS, hs])]
        have hn : ∀ (f : Spot → Option Int) (v : Int), updF f (spotR r) v s = f s := fun f v => if_neg fun h => hs h.symm
        congr 1
        unfold stepK
        rw [if_pos hu]
        split
        · simp only [hn]
        · split
          · simp only [hn]
          · split
            · simp only [hn]
            · rfl
    · rw [List.filter_cons_of_neg (by simp [hitS, hu])]
      congr 1
      unfold stepK
      rw [if_neg hu]
theorem vwS_look (e : Int) (l : List Rs) (s : Spot) : vwS e l s = (((lookS2 e l).1 s).getD 0, ((lookS2 e l).2 s).getD 0) := (look_fold e s l (fun _ => none, fun _ => none)).symm
section
variable {l : List Rs} {flow ttl a t e : Int} {i : Nat} {x : Rs}
end
set_option maxRecDepth 20000
theorem any_at {α : Type} {l : List α} {i : Nat} {x : α} {p : α → Bool} (hx : l[i]? = some x) (h : p x = true) : l.any p = true := List.any_eq_true.2 ⟨x, List.mem_of_getElem? hx, h⟩
theorem map_some {κ : Type} {f : κ → Option Int} {a : κ} {q : IntKind} {v : Value} (h : (f a).map (Value.int q) = some v) : ∃ k, f a = some k ∧ v = .int q k := by
 cases hf : f a with
 | none => rw [hf] at h; cases h
 | some k => rw [hf] at h; cases h; exact ⟨k, rfl, rfl⟩
def ErrOk (l : List Rs) (fs : Spot → Option Int) (e : Int) : Prop :=
 (e = 1 ∧ (l.any fun r => !vldRs r) = true) ∨ ((l.any fun r => !vldRs r) = false ∧ ∃ o, IsOrd l o ∧ ((e = 5 ∧ 512 < o.length) ∨ (o.length ≤ 512 ∧ ∃ tr, IsTrc l tr ∧ ((e = 35 ∧ 1 < tr.length) ∨ (tr.length ≤ 1 ∧ ((e = 30 ∧ ∃ s, fs s = some 3) ∨ (e = 0 ∧ ¬ ∃ s, fs s = some 3)))))))
theorem pcknm103 : (Tryz.f103.name == "runtime.NumGoroutine") = false := by decide
theorem pckbd103 : Tryz.f103.body.isNone = false := rfl
theorem pcknm123 : (Tryz.f123.name == "runtime.NumGoroutine") = false := by decide
theorem pckbd123 : Tryz.f123.body.isNone = false := rfl
theorem pcknm102 : (Tryz.f102.name == "runtime.NumGoroutine") = false := by decide
theorem pckbd102 : Tryz.f102.body.isNone = false := rfl
theorem pcknm37 : (Tryz.f37.name == "runtime.NumGoroutine") = false := by decide
theorem pckbd37 : Tryz.f37.body.isNone = false := rfl
set_option maxHeartbeats 1000000 in
theorem chk1_any (r : Rs) (w : World) :
  Calls Tryz.prog 103 #[.agg r.cells.toArray] w fun e w' => e = .returned (.bool (!vldRs r)) ∧ Below w.heap.size w w' := by
 refine begin_ (vs := [.agg r.cells.toArray]) Tryz.func103 rfl rfl rfl ?_ (Pm.start w)
 refine TC.seq_ (TC.region ?_)
 refine TL.pnew rfl rfl rfl (exec_box (cs := r.cells) rfl rfl rfl) (fun g1 => ?_)
 refine TL.as_ ?_
 refine TL.end_ (TX.then_ (TC.seq_ (TC.region ?_)))
 refine TL.val rfl rfl rfl (pm_loadV (k := 0) (i := 0) (n := 17) (v := .agg (r.cells).toArray) rfl rfl prsag47 prssz47 rfl (by show 17 ≤ 17; decide) rfl) ?_
 refine TL.callsplit rfl rfl rfl rfl rfl Tryz.func26 prsnm26 prsbd26 (fun w1 hw => vldRs_any r w1) (fun h4 => ?_) (fun h4 => ?_)
 ·refine TL.val rfl rfl rfl (gives_boolnot rfl rfl) ?_
  refine TL.as_ ?_
  refine TL.end_ (TX.then_ (TC.ret_ ?_))
  have hE : (!vldRs r) = false := (by simp [Bool.not_eq_true, h4])
  exact ret_tmp Tryz.results103 rfl (fun w1 hw => ⟨by rw [hE]; try rfl, hw.bel⟩)
 ·refine TL.val rfl rfl rfl (gives_boolnot rfl rfl) ?_
  refine TL.as_ ?_
  refine TL.end_ (TX.then_ (TC.ret_ ?_))
  have hE : (!vldRs r) = true := (by simp [Bool.not_eq_true, h4])
  exact ret_tmp Tryz.results103 rfl (fun w1 hw => ⟨by rw [hE]; try rfl, hw.bel⟩)
set_option maxHeartbeats 1000000 in
theorem idxf_any (A0 : Option Addr) (c0 : Nat) (l : List Rs) (w : World) (hr : Reads w w.heap.size 17 A0 l.length (flat Rs.cells l)) (hl1 : l.length ≤ 100000) :
  Calls Tryz.prog 123 #[.slice A0 l.length c0, .func (.func 103) #[] #[]] w fun e w' => ∃ x : {z : Int // (l.any fun r => !vldRs r) = decide (z ≥ 0)}, e = .returned (.int .i64 x.1) ∧ Below w.heap.size w w' := by
 refine begin_ (vs := [.slice A0 l.length c0, .func (.func 103) #[] #[]]) Tryz.func123 rfl rfl rfl ?_ (Pm.start w)
 refine TC.seq_ (TC.region ?_)
 refine TL.as_ ?_
 refine TL.end_ (TX.then_ (TC.seq_ (TC.seq_ (TC.region ?_))))
 refine TL.mv ?_
 refine TL.val rfl rfl rfl (gives_len rfl Tryz.underlying26 rfl) ?_
 refine TL.mv ?_
 refine TL.end_ (TX.then_ (TC.block ?_))
 refine TC.loop_ (α := {i : Nat // i ≤ l.length ∧ ∀ r ∈ l.take i, vldRs r = true}) (fun y => [(0, .slice A0 l.length c0), (1, .func (.func 103) #[] #[]), (7, .int .i64 (l.length : Nat)), (8, .int .i64 ((y.1 : Nat) : Int))]) (fun y => Pm w []) (fun y => l.length - y.1) (⟨0, Nat.zero_le _, fun r hr => by rw [List.take_zero] at hr; cases hr⟩) ⟨rfl, rfl, rfl, rfl, trivial⟩ (fun w1 hw => hw) ?_
 rintro ⟨i, hi, hall⟩
 try dsimp only at hi hall ⊢
 refine TC.seq_ (TC.region ?_)
 refine TL.vsplit rfl rfl rfl (gives_bin rfl rfl rfl (fun w => bin_lss w)) (fun h9 => ?_) (fun h9 => ?_)
 ·have q9 := of_decide_eq_true h9
  refine TL.end_ (TX.then_ (TC.seq_ (TC.condT rfl (TC.skip_ (TX.then_ (TC.seq_ (TC.block (TC.seq_ (TC.region ?_)))))))))
  refine TL.mv ?_
  refine TL.as_ ?_
  refine TL.end_ (TX.then_ (TC.seq_ (TC.region ?_)))
  refine TL.mv ?_
  refine TL.mv ?_
  refine TL.mv ?_
  have hi14 : i < l.length := by omega
  obtain ⟨x14, hx14⟩ : ∃ x14, l[i]? = some x14 := ⟨_, List.getElem?_eq_getElem hi14⟩
  obtain ⟨b14, o14, hA14, hbb14, hc14⟩ := hr.ad (by omega) (by decide)
  refine TL.val rfl rfl rfl (gives_at (v := .pointer (some ⟨b14, o14 + i * 17, none⟩)) rfl rfl rfl (fun w => at_el Tryz.underlying26 prssz47 hA14 _ _ i (by omega) rfl w)) ?_
  refine TL.val rfl rfl rfl (gives_loadR (off := o14 + i * 17) rfl rfl prsag47 prssz47 (rs_cel.len x14) (fun w1 hw j9 u9 h9 => (hw.bel.cell hbb14).trans <| flat_cell rs_cel hx14 hc14 j9 u9 h9)) ?_
  obtain ⟨bv, hbv⟩ : ∃ b, (!vldRs x14) = b := ⟨_, rfl⟩
  refine TL.callE1 (r := .bool bv) rfl rfl rfl (ent_val rfl rfl rfl Tryz.func103 pcknm103 pckbd103 rfl) (fun w1 hw => by rw [← hbv]; exact chk1_any x14 w1) ?_
  refine TL.end_ (TX.then_ ?_)
  refine TC.split (t := bv) rfl (fun c16 => ?_) (fun c16 => ?_)
  ·refine TC.seq_ (TC.region ?_)
   refine TL.mv ?_
   refine TL.as_ ?_
   refine TL.end_ (TX.then_ (TC.ret_ (TX.in_ret (TX.then_ret (TX.then_ret (TX.in_ret (TX.then_ret ?_)))))))
   exact ret_tmp Tryz.results123 rfl (fun w1 hw => ⟨⟨(i : Int), by rw [any_at hx14 (p := fun r => !vldRs r) (by rw [hbv]; exact c16)]; exact (decide_eq_true (by omega)).symm⟩, rfl, hw.bel⟩)
  ·refine TC.skip_ (TX.in_normal (TX.then_ (TC.region ?_)))
   refine TL.val rfl rfl rfl (gives_bin rfl rfl rfl (fun w => bin_add_ (r := ((i + 1 : Nat) : Int)) (by simp only [IntKind.wrap_i64]; omega) w)) ?_
   refine TL.mv ?_
   refine TL.end_ ?_
   exact TX.round (⟨i + 1, by omega, fun r hr => by rcases (mem_take_snoc hx14).1 hr with h9 | h9; exact hall r h9; rw [h9]; have := hbv; rw [c16] at this; simpa using this⟩) (by show l.length - (i + 1) < l.length - i; omega) ⟨rfl, rfl, rfl, rfl, trivial⟩ (fun w1 hw => hw)
 ·have q9 := of_decide_eq_false h9
  refine TL.end_ (TX.then_ (TC.seq_ (TC.condF rfl (TC.exit_ (TX.then_exit (TX.then_exit (TX.in_same (TX.then_ (TC.seq_ ?_)))))))))
  have hnone : l.length ≤ i → (l.any fun r => !vldRs r) = false := fun h => by rw [List.take_of_length_le h] at hall; rw [List.any_eq_false]; intro r hr; rw [hall r hr]; decide
  refine TC.region ?_
  refine TL.as_ ?_
  refine TL.end_ (TX.then_ (TC.ret_ ?_))
  exact ret_tmp Tryz.results123 rfl (fun w1 hw => ⟨⟨-1, by rw [hnone (by omega)]; rfl⟩, rfl, hw.bel⟩)
set_option maxHeartbeats 1000000 in
theorem contf_any (A0 : Option Addr) (c0 : Nat) (l : List Rs) (w : World) (hr : Reads w w.heap.size 17 A0 l.length (flat Rs.cells l)) (hl1 : l.length ≤ 100000) :
  Calls Tryz.prog 102 #[.slice A0 l.length c0, .func (.func 103) #[] #[]] w fun e w' => e = .returned (.bool (l.any fun r => !vldRs r)) ∧ Below w.heap.size w w' := by
 refine begin_ (vs := [.slice A0 l.length c0, .func (.func 103) #[] #[]]) Tryz.func102 rfl rfl rfl ?_ (Pm.start w)
 refine TC.seq_ (TC.region ?_)
 refine TL.as_ ?_
 refine TL.end_ (TX.then_ (TC.seq_ (TC.region ?_)))
 refine TL.mv ?_
 refine TL.mv ?_
 refine TL.pcallPm (α := {z : Int // (l.any fun r => !vldRs r) = decide (z ≥ 0)}) (fun x => .int .i64 x.1) (fun x => []) rfl rfl rfl rfl rfl Tryz.func123 pcknm123 pckbd123 (fun w1 hw => (idxf_any A0 c0 l w1 (hr.up hw.bel) hl1).mono fun en w2 ⟨x, h1, h2⟩ => ⟨x, h1, (Pm.start w1).below h2⟩) ?_
 rintro ⟨z, hz⟩
 dsimp only [List.cons_append, List.nil_append]
 refine TL.vsplit rfl rfl rfl (gives_bin rfl rfl rfl (fun w => bin_geq w)) (fun h8 => ?_) (fun h8 => ?_)
 ·have q8 := of_decide_eq_true h8
  refine TL.as_ ?_
  refine TL.end_ (TX.then_ (TC.ret_ ?_))
  exact ret_tmp Tryz.results102 rfl (fun w1 hw => ⟨by rw [hz, decide_eq_true q8], hw.bel⟩)
 ·have q8 := of_decide_eq_false h8
  refine TL.as_ ?_
  refine TL.end_ (TX.then_ (TC.ret_ ?_))
  exact ret_tmp Tryz.results102 rfl (fun w1 hw => ⟨by rw [hz, decide_eq_false q8], hw.bel⟩)
set_option maxHeartbeats 1000000 in
theorem check_view (A0 : Option Addr) (c0 : Nat) (l : List Rs) (en : Int) (ga gs : Nat) (os : Obj) (fs : Spot → Option Int) (w : World) (hr : Reads w w.heap.size 17 A0 l.length (flat Rs.cells l)) (hl1 : l.length ≤ 100000) (hok : ∀ r ∈ l, r.Ok) (hgs : w.heap[gs]? = some os) (hmgs : MapR (fun s : Spot => Value.agg s.cells.toArray) Spot.Ok os (fun s => (fs s).map (Value.int .i64))) :
  Calls Tryz.prog 59 #[.slice A0 l.length c0, .agg #[.int .i64 en, .map (some ga), .map (some gs)]] w fun e w' => ∃ x : {z : Int // ErrOk l fs z}, e = .returned (.int .i64 x.1) ∧ Below w.heap.size w w' := by
 refine begin_ (vs := [.slice A0 l.length c0, .agg #[.int .i64 en, .map (some ga), .map (some gs)]]) Tryz.func59 rfl rfl rfl ?_ (Pm.start w)
 refine TC.seq_ (TC.region ?_)
 refine TL.pnew rfl rfl rfl (exec_box (cs := [.int .i64 en, .map (some ga), .map (some gs)]) rfl rfl rfl) (fun g3 => ?_)
 refine TL.as_ ?_
 refine TL.end_ (TX.then_ (TC.seq_ (TC.seq_ (TC.region ?_))))
 refine TL.mv ?_
 refine TL.callsplit rfl rfl rfl rfl rfl Tryz.func102 pcknm102 pckbd102 (fun w1 hw => contf_any A0 c0 l w1 (hr.up hw.bel) hl1) (fun h8 => ?_) (fun h8 => ?_)
 ·refine TL.val rfl rfl rfl (gives_boolnot rfl rfl) ?_
  refine TL.end_ (TX.then_ (TC.condF rfl (TC.skip_ (TX.then_ (TC.seq_ (TC.region ?_))))))
  refine TL.as_ ?_
  refine TL.end_ (TX.then_ (TC.ret_ ?_))
  have hE : ErrOk l fs 1 := .inl ⟨rfl, h8⟩
  exact ret_tmp Tryz.results59 rfl (fun w1 hw => ⟨⟨_, hE⟩, rfl, hw.bel⟩)
 ·refine TL.val rfl rfl rfl (gives_boolnot rfl rfl) ?_
  refine TL.end_ (TX.then_ (TC.condT rfl (TC.seq_ (TC.block (TC.seq_ (TC.region ?_))))))
  refine TL.mv ?_
  refine TL.pcallPm (α := {y : (Option Addr × Nat) × List Rs // IsOrd l y.2 ∧ y.2.length ≤ y.1.2 ∧ y.1.2 ≤ maxLen}) (fun x => .slice x.1.1.1 x.1.2.length x.1.1.2) (fun x => [.row (.slice x.1.1.1 x.1.2.length x.1.1.2) 47 17 x.1.2.length (flat Rs.cells x.1.2)]) rfl rfl rfl rfl rfl Tryz.func40 pofnm40 pofbd40 (fun w1 hw => ord_any A0 c0 l w1 (hr.up hw.bel) hl1 hok) ?_
  rintro ⟨⟨⟨R12, rc12⟩, o12⟩, hP12, hR121, hR122⟩
  dsimp only [List.cons_append, List.nil_append]
  dsimp only at hP12 hR121 hR122 ⊢
  refine TL.val rfl rfl rfl (gives_len rfl Tryz.underlying26 rfl) ?_
  refine TL.vsplit rfl rfl rfl (gives_bin rfl rfl rfl (fun w => bin_gtr w)) (fun h14 => ?_) (fun h14 => ?_)
  ·have q14 := of_decide_eq_true h14
   refine TL.as_ ?_
   refine TL.end_ (TX.then_ (TC.condT rfl (TC.seq_ (TC.region ?_))))
   refine TL.as_ ?_
   refine TL.end_ (TX.then_ (TC.ret_ (TX.in_ret (TX.then_ret (TX.then_ret ?_)))))
   have hE : ErrOk l fs 5 := .inr ⟨h8, o12, hP12, .inl ⟨rfl, by omega⟩⟩
   exact ret_tmp Tryz.results59 rfl (fun w1 hw => ⟨⟨_, hE⟩, rfl, hw.bel⟩)
  ·have q14 := of_decide_eq_false h14
   refine TL.as_ ?_
   refine TL.end_ (TX.then_ (TC.condF rfl (TC.seq_ (TC.region ?_))))
   refine TL.mv ?_
   refine TL.pcallPm (α := {y : (Option Addr × Nat) × List Trc // IsTrc l y.2 ∧ y.2.length ≤ y.1.2 ∧ y.1.2 ≤ maxLen}) (fun x => .slice x.1.1.1 x.1.2.length x.1.1.2) (fun x => [.row (.slice x.1.1.1 x.1.2.length x.1.1.2) 32 3 x.1.2.length (flat Trc.cells x.1.2)]) rfl rfl rfl rfl rfl Tryz.func37 pcknm37 pckbd37 (fun w1 hw => trs_any A0 c0 l w1 (hr.up hw.bel) hl1) ?_
   rintro ⟨⟨⟨R17, rc17⟩, tr17⟩, hP17, hR171, hR172⟩
   dsimp only [List.cons_append, List.nil_append]
   dsimp only at hP17 hR171 hR172 ⊢
   refine TL.val rfl rfl rfl (gives_len rfl Tryz.underlying73 rfl) ?_
   refine TL.vsplit rfl rfl rfl (gives_bin rfl rfl rfl (fun w => bin_gtr w)) (fun h19 => ?_) (fun h19 => ?_)
   ·have q19 := of_decide_eq_true h19
    refine TL.as_ ?_
    refine TL.end_ (TX.then_ (TC.condT rfl (TC.seq_ (TC.region ?_))))
    refine TL.as_ ?_
    refine TL.end_ (TX.then_ (TC.ret_ (TX.in_ret (TX.then_ret (TX.then_ret ?_)))))
    have hE : ErrOk l fs 35 := .inr ⟨h8, o12, hP12, .inr ⟨by omega, tr17, hP17, .inl ⟨rfl, by omega⟩⟩⟩
    exact ret_tmp Tryz.results59 rfl (fun w1 hw => ⟨⟨_, hE⟩, rfl, hw.bel⟩)
   ·have q19 := of_decide_eq_false h19
    refine TL.as_ ?_
    refine TL.end_ (TX.then_ (TC.condF rfl (TC.skip_ (TX.in_normal (TX.then_ (TC.seq_ (TC.seq_ (TC.region ?_))))))))
    refine TL.val rfl rfl rfl (gives_field (v := .pointer (some ⟨g3, 2, none⟩)) rfl rfl (fun w => plkfld91_2 _ _ w)) ?_
    refine TL.val rfl rfl rfl (pm_load (k := 2) (i := 2) rfl rfl plkag89 rfl rfl) ?_
    refine TL.rangeM rfl rfl rfl rfl rfl Tryz.underlying89 (fun w1 hw => hw.oth.same _ _ hgs hmgs.nc) hmgs (fun it oi n hit hI0 => ?_)
    refine TL.end_ (TX.then_ (TC.block ?_))
    refine TC.loop_ (α := {y : List (Spot × Value) × Obj // ItR (fun s : Spot => Value.agg s.cells.toArray) Spot.Ok gs os y.2 (fun s => (fs s).map (Value.int .i64)) n y.1 ∧ ∀ p ∈ y.1, p.2 ≠ .int .i64 3}) (fun y => [(3, .pointer (some ⟨g3, 0, none⟩)), (22, .pointer (some ⟨it, 0, none⟩))]) (fun y => Pm w [.oth it y.1.2, .row (.slice R17 tr17.length rc17) 32 3 tr17.length (flat Trc.cells tr17), .row (.slice R12 o12.length rc12) 47 17 o12.length (flat Rs.cells o12), .blk g3 91 [.int .i64 en, .map (some ga), .map (some gs)]]) (fun y => n - y.1.1.length) (⟨([], oi), hI0, fun p hp => absurd hp List.not_mem_nil⟩) ⟨rfl, rfl, trivial⟩ (fun w1 hw => hw) ?_
    rintro ⟨⟨ds, oi1⟩, hI1, hds⟩
    dsimp only at hI1 hds ⊢
    refine TC.seq_ (TC.region ?_)
    refine TL.nextM spot_key (j := 0) rfl rfl rfl rfl rfl (fun w1 hw => hw.oth.same _ _ hgs hmgs.nc) rfl hit hI1 (fun hall => ?_) (fun a v oi2 ha hfa hna hI2 hlt => ?_)
    ·have hno : ¬ ∃ s, fs s = some 3 := by
      rintro ⟨s, hs⟩
      exact hds _ (hall s (.int .i64 3) (by simp [hs])) rfl
     refine TL.ex ?_
     refine TL.end_ (TX.then_ (TC.seq_ (TC.condF rfl (TC.exit_ (TX.then_exit (TX.then_exit (TX.in_same (TX.then_ (TC.seq_ (TC.region ?_))))))))))
     refine TL.as_ ?_
     refine TL.end_ (TX.then_ (TC.ret_ (TX.then_ret ?_)))
     have hE : ErrOk l fs 0 := .inr ⟨h8, o12, hP12, .inr ⟨by omega, tr17, hP17, .inr ⟨by omega, .inr ⟨rfl, hno⟩⟩⟩⟩
     exact ret_tmp Tryz.results59 rfl (fun w1 hw => ⟨⟨_, hE⟩, rfl, hw.bel⟩)
    ·obtain ⟨kv, hfs, rfl⟩ := map_some hfa
     try dsimp only [List.set_cons_zero, List.set_cons_succ]
     refine TL.ex ?_
     refine TL.end_ (TX.then_ (TC.seq_ (TC.condT rfl (TC.skip_ (TX.then_ (TC.block (TC.seq_ (TC.region ?_))))))))
     refine TL.val rfl rfl rfl (gives_entryM (j := 0) rfl rfl (fun w1 hw => hw.oth.same _ _ hgs hmgs.nc) rfl hI2) ?_
     refine TL.ex ?_
     refine TL.as_ ?_
     refine TL.end_ (TX.then_ (TC.seq_ (TC.region ?_)))
     refine TL.mv ?_
     refine TL.vsplit rfl rfl rfl (gives_bin rfl rfl rfl (fun w => bin_eql w)) (fun h28 => ?_) (fun h28 => ?_)
     ·have q28 := of_decide_eq_true h28
      refine TL.end_ (TX.then_ (TC.condT rfl (TC.seq_ (TC.region ?_))))
      refine TL.as_ ?_
      refine TL.end_ (TX.then_ (TC.ret_ (TX.in_ret (TX.then_ret (TX.in_ret (TX.then_ret (TX.then_ret ?_)))))))
      have hE : ErrOk l fs 30 := .inr ⟨h8, o12, hP12, .inr ⟨by omega, tr17, hP17, .inr ⟨by omega, .inl ⟨rfl, a, by rw [hfs]; exact congrArg some (by omega)⟩⟩⟩⟩
      exact ret_tmp Tryz.results59 rfl (fun w1 hw => ⟨⟨_, hE⟩, rfl, hw.bel⟩)
     ·have q28 := of_decide_eq_false h28
      refine TL.end_ (TX.then_ (TC.condF rfl (TC.skip_ (TX.in_normal ?_))))
      exact TX.round (⟨(ds ++ [(a, .int .i64 kv)], oi2), hI2, fun p hp => by rcases List.mem_append.1 hp with h9 | h9; exact hds p h9; rw [List.mem_singleton.1 h9]; intro h10; injection h10 with _ h10; exact q28 h10⟩) (by show n - (ds ++ [(a, _)]).length < n - ds.length; rw [List.length_append]; show n - (ds.length + 1) < _; omega) ⟨rfl, rfl, trivial⟩ (fun w1 hw => hw)
set_option linter.unusedSectionVars false
def addS {κ α : Type} [DecidableEq κ] (sp : κ → List α) (k : κ) (x : α) : κ → List α := fun z => if z = k then sp z ++ [x] else sp z
section
variable {κ α : Type} [DecidableEq κ] {enc : κ → Value} {Ok : κ → Prop}
def getS (ps : List (κ × Sg α)) (x : κ) : Sg α := ((ps.find? fun p => decide (p.1 = x)).map (·.2)).getD (Sg.nil α)
structure MapSG (enc : κ → Value) (Ok : κ → Prop) (ob : Obj) (ps : List (κ × Sg α)) (sp : κ → List α) : Prop where
  map : ∃ fm : κ → Option Value, MapR enc Ok ob fm ∧ ∀ x, fm x = (ps.find? fun p => decide (p.1 = x)).map (·.2.val)
  nd : (ps.map (·.1)).Nodup
  sp : ∀ x, (getS ps x).l = sp x
theorem mapSG_nil : MapSG enc Ok (.map #[] 0) [] (fun _ => ([] : List α)) := ⟨⟨fun _ => none, mapR_new _ _, fun _ => rfl⟩, List.nodup_nil, fun _ => rfl⟩
theorem find_key {ps : List (κ × Sg α)} (nd : (ps.map (·.1)).Nodup) {z : κ} {p : κ × Sg α} : (ps.find? fun p => decide (p.1 = z)) = some p ↔ p ∈ ps ∧ p.1 = z := by
  constructor
  · intro h
    exact ⟨List.mem_of_find?_eq_some h, by have := List.find?_some h; simpa using this⟩
  · rintro ⟨h1, h2⟩
    induction ps with
    | nil => cases h1
    | cons q ps ih =>
      obtain ⟨n1, n2⟩ := List.nodup_cons.1 nd
      rw [List.find?_cons]
      rcases List.mem_cons.1 h1 with rfl | h1
      · rw [decide_eq_true h2]
      · have : ¬ q.1 = z := fun e => n1 (List.mem_map.2 ⟨p, h1, h2.trans e.symm⟩)
        rw [decide_eq_false this]
        exact ih n2 h1
theorem find_at {ps : List (κ × Sg α)} {z : κ} {p : κ × Sg α} (h : (ps.find? fun p => decide (p.1 = z)) = some p) : ∃ (k : Nat) (s : Sg α), ps[k]? = some (z, s) ∧ p = (z, s) := by
  obtain ⟨k, hk⟩ := List.getElem?_of_mem (List.mem_of_find?_eq_some h)
  have e : p.1 = z := by have := List.find?_some h; simpa using this
  obtain ⟨y, s⟩ := p
  cases e
  exact ⟨k, s, hk, rfl⟩
theorem getS_of {ps : List (κ × Sg α)} {z : κ} {s : Sg α} (h : (ps.find? fun p => decide (p.1 = z)) = some (z, s)) : getS ps z = s := by unfold getS; rw [h]; rfl
theorem map_at {ps : List (κ × Sg α)} {k : Nat} {z : κ} {s : Sg α} (h : ps[k]? = some (z, s)) : (ps.map (·.2))[k]? = some s := by rw [List.getElem?_map, h]; rfl
theorem MapSG.put {ob ob' : Obj} {ps ps' : List (κ × Sg α)} {sp : κ → List α} {fm : κ → Option Value} {k : κ} {s' : Sg α} {x : α} (h : MapSG enc Ok ob ps sp) (hfm : ∀ x, fm x = (ps.find? fun p => decide (p.1 = x)).map (·.2.val)) (hm : MapR enc Ok ob' (fun z => if z = k then some s'.val else fm z))
    (nd : (ps'.map (·.1)).Nodup) (hp : ∀ p, p ∈ ps' ↔ p = (k, s') ∨ (p ∈ ps ∧ p.1 ≠ k)) (hs : s'.l = sp k ++ [x]) : MapSG enc Ok ob' ps' (addS sp k x) := by
  have hfind : ∀ z, (ps'.find? fun p => decide (p.1 = z)) = if z = k then some (k, s') else ps.find? fun p => decide (p.1 = z) := fun z => by
    refine Option.ext fun p => ?_
    rw [find_key nd, hp]
    by_cases e : z = k
    · subst e
      rw [if_pos rfl]
      constructor
      · rintro ⟨rfl | h1, h2⟩
        · rfl
        · exact absurd h2 h1.2
      · intro hh
        cases hh
        exact ⟨.inl rfl, rfl⟩
    · rw [if_neg e, find_key h.nd]
      constructor
      · rintro ⟨rfl | h1, h2⟩
        · exact absurd h2.symm e
        · exact ⟨h1.1, h2⟩
      · rintro ⟨h1, h2⟩
        exact ⟨.inr ⟨h1, fun e2 => e (h2.symm.trans e2)⟩, h2⟩
  refine ⟨⟨_, hm, fun z => ?_⟩, nd, fun z => ?_⟩
  · rw [hfind]
    show (if z = k then some s'.val else fm z) = _
    by_cases e : z = k
    · rw [if_pos e, if_pos e]; rfl
    · rw [if_neg e, if_neg e, hfm]
  · unfold getS addS
    rw [hfind]
    by_cases e : z = k
    · subst e
      rw [if_pos rfl, if_pos rfl]
      exact hs
    · rw [if_neg e, if_neg e]
      exact h.sp z
theorem MapSG.new {ob ob' : Obj} {ps : List (κ × Sg α)} {sp : κ → List α} {fm : κ → Option Value} {k : κ} {A : Option Addr} {c : Nat} {x : α} (h : MapSG enc Ok ob ps sp) (hfi : (ps.find? fun p => decide (p.1 = k)) = none) (hfm : ∀ x, fm x = (ps.find? fun p => decide (p.1 = x)).map (·.2.val)) (hm : MapR enc Ok ob' (fun z => if z = k then some (Sg.val (⟨A, c, [x]⟩ : Sg α)) else fm z)) : MapSG enc Ok ob' (ps ++ [(k, ⟨A, c, [x]⟩)]) (addS sp k x) := by
  have hno : ∀ p ∈ ps, p.1 ≠ k := fun p hp => by
    have := List.find?_eq_none.1 hfi p hp
    simpa using this
  refine h.put hfm hm ?_ (fun p => ?_) ?_
  · rw [List.map_append]
    refine List.nodup_append.2 ⟨h.nd, List.pairwise_singleton _ _, fun a ha b hb e => ?_⟩
    rw [List.map_singleton, List.mem_singleton] at hb
    obtain ⟨p, hp, e2⟩ := List.mem_map.1 ha
    exact hno p hp (e2.trans (e.trans hb))
  · rw [List.mem_append, List.mem_singleton]
    constructor
    · rintro (hp | hp)
      · exact .inr ⟨hp, hno p hp⟩
      · exact .inl hp
    · rintro (hp | hp)
      · exact .inr hp
      · exact .inl hp.1
  · have := h.sp k
    unfold getS at this
    rw [hfi] at this
    rw [← this]
    rfl
theorem MapSG.old {ob ob' : Obj} {ps : List (κ × Sg α)} {sp : κ → List α} {fm : κ → Option Value} {i : Nat} {k : κ} {s : Sg α} {A : Option Addr} {c : Nat} {x : α} (h : MapSG enc Ok ob ps sp) (hfi : (ps.find? fun p => decide (p.1 = k)) = some (k, s)) (hi : ps[i]? = some (k, s)) (hfm : ∀ x, fm x = (ps.find? fun p => decide (p.1 = x)).map (·.2.val)) (hm : MapR enc Ok ob' (fun z => if z = k then some (Sg.val (⟨A, c, s.l ++ [x]⟩ : Sg α)) else fm z)) : MapSG enc Ok ob' (ps.set i (k, ⟨A, c, s.l ++ [x]⟩)) (addS sp k x) := by
  have hlt := (List.getElem?_eq_some_iff.1 hi).1
  have hkeys : (ps.set i (k, (⟨A, c, s.l ++ [x]⟩ : Sg α))).map (·.1) = ps.map (·.1) := by
    rw [List.map_set]
    refine List.ext_getElem? fun j => ?_
    rw [List.getElem?_set]
    by_cases e : i = j
    · subst e
      rw [if_pos rfl, if_pos (by rw [List.length_map]; exact hlt), List.getElem?_map, hi]
      rfl
    · rw [if_neg e]
  refine h.put hfm hm (by rw [hkeys]; exact h.nd) (fun p => ?_) ?_
  · have huniq : ∀ j q, ps[j]? = some q → q.1 = k → j = i := fun j q hj e => by
      refine (List.getElem?_inj (l := ps.map (·.1)) (by rw [List.length_map]; exact (List.getElem?_eq_some_iff.1 hj).1) h.nd).1 ?_
      rw [List.getElem?_map, List.getElem?_map, hj, hi]
      simp [e]
    constructor
    · intro hp
      obtain ⟨j, hj⟩ := List.getElem?_of_mem hp
      rw [List.getElem?_set] at hj
      by_cases e : i = j
      · rw [if_pos e, if_pos hlt] at hj
        cases hj
        exact .inl rfl
      · rw [if_neg e] at hj
        exact .inr ⟨List.mem_of_getElem? hj, fun e2 => e (huniq j p hj e2).symm⟩
    · rintro (rfl | ⟨h1, h2⟩)
      · exact List.mem_set hlt _
      · obtain ⟨j, hj⟩ := List.getElem?_of_mem h1
        have e : i ≠ j := fun e => by subst e; rw [hi] at hj; cases hj; exact h2 rfl
        exact List.mem_of_getElem? (i := j) (by rw [List.getElem?_set, if_neg e]; exact hj)
  · rw [← h.sp k, getS_of hfi]
theorem Pm.segP {e : TypeId} {size : Nat} {en : List α → List Value} {w0 : Base} {w : World} {P : List Pc} {ss ss' : List (Sg α)} {s : Sg α} (h : Pm w0 ((.row (.slice s.A s.l.length s.c) e size s.l.length (en s.l) :: P) ++ segG e size en ss) w) (hp : (s :: ss).Perm ss') : Pm w0 (P ++ segG e size en ss') w := by
  refine h.permute ?_
  have h1 : (segG e size en (s :: ss)).Perm (segG e size en ss') := hp.map _
  exact List.perm_middle.symm.trans (List.Perm.append_left P h1)
theorem Pm.segQ {e : TypeId} {size : Nat} {en : List α → List Value} {w0 : Base} {w : World} {P : List Pc} {ss ss' : List (Sg α)} (h : Pm w0 (P ++ segG e size en ss) w) (hp : ss.Perm ss') : Pm w0 (P ++ segG e size en ss') w := h.permute (List.Perm.append_left P (hp.map _))
end
open Go Go.RowKit Go.Shelf Go.Sort
def SortedI (l l' : List Int) : Prop := l'.Perm l ∧ l'.Pairwise (· ≤ ·)
theorem sortInt {b n cap : Nat} {A : Option Addr} {l : List Int} {w : World} (hr : w.ownsRow b 3 1 (.slice A n cap) n (flat (ic .i64) l)) (hl : l.length = n) (hn : n ≤ 1000000) :
    Calls Tryz.prog 61 #[.slice A n cap] w fun en w' => en = .returned (.tuple #[]) ∧ ∃ l', SortedI l l' ∧ w'.ownsRow b 3 1 (.slice A n cap) n (flat (ic .i64) l') ∧ w.grownBy w' (Value.ownBlock (.slice A n cap)) := by
  rcases id hr.2 with ⟨hv, h0⟩ | ⟨q, cap', cur, hv, hb, hq, h1, h2, h3, h4⟩
  · cases hv
    obtain rfl : l = [] := List.eq_nil_of_length_eq_zero (by omega)
    refine (AnyM.slices_Sort_int_none sortLay none 0 w).mono fun en w' ⟨h5, h6⟩ => ⟨h5, [], ⟨List.Perm.refl _, List.Pairwise.nil⟩, ?_, ?_⟩
    · rw [h6]; exact hr
    · rw [h6]; exact ⟨rfl, rfl, rfl, Nat.le_refl _, fun _ _ _ => rfl⟩
  · cases hv
    subst hl
    have hqs : q < w.heap.size := (Array.getElem?_eq_some_iff.1 hq).1
    rw [flat_ic, Nat.mul_one] at h4
    have hc := AnyM.slices_Sort_int sortLay q 0 cap l w (holds_of_blockI hq h4) hqs (by omega)
    refine Calls.mono hc ?_
    rintro en w' ⟨h5, m, os, hw⟩
    have hlen : (l.mergeSort fun x y => decide (x ≤ y)).length = l.length := List.length_mergeSort l
    refine ⟨h5, l.mergeSort fun x y => decide (x ≤ y), ⟨List.mergeSort_perm _ _, ?_⟩, ?_, ?_⟩
    · have := List.pairwise_mergeSort (le := fun x y : Int => decide (x ≤ y)) (fun a b c h1 h2 => by simp only [decide_eq_true_eq] at *; exact Int.le_trans h1 h2) (fun a b => by simp only [Bool.or_eq_true, decide_eq_true_eq]; exact Int.le_total a b) l
      exact this.imp fun h => of_decide_eq_true h
    · rw [hw, flat_ic]
      exact ownsRow_sortedI hlen hb hq h1 h2 h3
    · rw [hw]; exact grownBy_sortedI _
theorem asc_of {l l' : List Int} (h : SortedI l l') (hn : l.Nodup) : l'.Pairwise (· < ·) := by
  have hn' : l'.Nodup := h.1.nodup_iff.2 hn
  exact (h.2.and hn').imp fun h1 => by
    rcases Int.lt_or_eq_of_le h1.1 with h2 | h2
    · exact h2
    · exact absurd h2 h1.2
/-! ### groups -/
def grp {κ : Type} [DecidableEq κ] (key : Spot → Option κ) (D : List Spot) (p : κ) : List Int := (D.filter fun s => decide (key s = some p)).map (·.flow)
theorem grp_snoc {κ : Type} [DecidableEq κ] {key : Spot → Option κ} {D : List Spot} {s : Spot} {p : κ} (h : key s = some p) : grp key (D ++ [s]) = addS (grp key D) p s.flow := by
  funext z
  unfold grp addS
  rw [List.filter_append, List.map_append]
  by_cases e : z = p
  · subst e; simp [h]
  · have : ¬ key s = some z := by rw [h]; intro h2; exact e (Option.some.inj h2).symm
    simp [e, this]
theorem grp_skip {κ : Type} [DecidableEq κ] {key : Spot → Option κ} {D : List Spot} {s : Spot} (h : key s = none) : grp key (D ++ [s]) = grp key D := by
  funext z
  unfold grp
  rw [List.filter_append, List.map_append]
  simp [h]
theorem grp_len {κ : Type} [DecidableEq κ] (key : Spot → Option κ) (D : List Spot) (p : κ) : (grp key D p).length ≤ D.length := by
  unfold grp
  rw [List.length_map]
  exact List.length_filter_le _ _
theorem mem_grp {κ : Type} [DecidableEq κ] {key : Spot → Option κ} {D : List Spot} {p : κ} {f : Int} : f ∈ grp key D p ↔ ∃ s ∈ D, key s = some p ∧ s.flow = f := by
  unfold grp
  rw [List.mem_map]
  constructor
  · rintro ⟨s, hs, h⟩
    have := List.mem_filter.1 hs
    exact ⟨s, this.1, of_decide_eq_true this.2, h⟩
  · rintro ⟨s, h1, h2, h3⟩
    exact ⟨s, List.mem_filter.2 ⟨h1, decide_eq_true h2⟩, h3⟩
theorem grp_nodup {κ : Type} [DecidableEq κ] {key : Spot → Option κ} {ttl : κ → Int} (hk : ∀ s p, key s = some p → s.ttl = ttl p) {D : List Spot} (hD : D.Nodup) (p : κ) : (grp key D p).Nodup := by
  unfold grp
  have h1 : (D.filter fun s => decide (key s = some p)).Nodup := hD.sublist (List.filter_sublist)
  refine List.pairwise_map.2 (h1.imp_of_mem ?_)
  intro a b ha hb hab hf
  have ea := hk a p (of_decide_eq_true (List.mem_filter.1 ha).2)
  have eb := hk b p (of_decide_eq_true (List.mem_filter.1 hb).2)
  obtain ⟨fa, ta⟩ := a
  obtain ⟨fb, tb⟩ := b
  simp only at hf ea eb
  exact hab (by rw [hf, ea, eb])
/-! ### keys -/
def placeK (fa : Spot → Option Int) (s : Spot) : Option Place := some ⟨s.ttl, (fa s).getD 0⟩
def stepKey (fa fs : Spot → Option Int) (s : Spot) : Option Stp := if hasF fs s.flow (s.ttl + 1) then some ⟨s.ttl, (fa s).getD 0, (fa ⟨s.flow, s.ttl + 1⟩).getD 0⟩ else none
theorem placeK_ttl {fa : Spot → Option Int} (s : Spot) (p : Place) (h : placeK fa s = some p) : s.ttl = p.ttl := by unfold placeK at h; cases h; rfl
theorem stepKey_ttl {fa fs : Spot → Option Int} (s : Spot) (p : Stp) (h : stepKey fa fs s = some p) : s.ttl = p.ttl := by
  unfold stepKey at h
  split at h
  · cases h; rfl
  · cases h
/-! ### ranges of what is known -/
theorem lookA_rng {e : Int} : ∀ (l : List Rs) (p : (Spot → Option Int) × (Spot → Option Int)), (∀ r ∈ l, r.Ok) → (∀ s, 0 ≤ (p.1 s).getD 0 ∧ (p.1 s).getD 0 ≤ 4294967295) → ∀ s, 0 ≤ ((l.foldl (stepK e) p).1 s).getD 0 ∧ ((l.foldl (stepK e) p).1 s).getD 0 ≤ 4294967295
  | [], p, _, h, s => h s
  | r :: l, p, hok, h, s => by
    refine lookA_rng l (stepK e p r) (fun r' hr => hok r' (List.mem_cons_of_mem _ hr)) (fun s' => ?_) s
    have hr := hok r List.mem_cons_self
    have hu : ∀ (f : Spot → Option Int) (a : Spot) (v : Int), (0 ≤ (f s').getD 0 ∧ (f s').getD 0 ≤ 4294967295) → 0 ≤ v → v ≤ 4294967295 → 0 ≤ ((updF f a v) s').getD 0 ∧ ((updF f a v) s').getD 0 ≤ 4294967295 := fun f a v h1 h2 h3 => by
      unfold updF
      split
      · exact ⟨h2, h3⟩
      · exact h1
    unfold stepK
    split
    · split
      · exact h s'
      · split
        · exact hu _ _ _ (h s') hr.2.2.1 hr.2.2.2
        · split
          · exact hu _ _ _ (h s') (by decide) (by decide)
          · exact h s'
    · exact h s'
theorem lookS_rng {l : List Rs} (hok : ∀ r ∈ l, r.Ok) (s : Spot) : 0 ≤ ((lookS l).1 s).getD 0 ∧ ((lookS l).1 s).getD 0 ≤ 4294967295 := lookA_rng l _ hok (fun s => by show (0 : Int) ≤ 0 ∧ (0 : Int) ≤ 4294967295; decide) s
theorem wfA {x : Int} (h : 0 ≤ x ∧ x ≤ 4294967295) : (Lit.int .u32 x).wf = true := by simp [Lit.wf, IntKind.min, IntKind.max, IntKind.signed, IntKind.bits]; omega
theorem wfI {x : Int} (h : -1000000 ≤ x ∧ x ≤ 1000000) : (Lit.int .i64 x).wf = true := by simp [Lit.wf, IntKind.min, IntKind.max, IntKind.signed, IntKind.bits]; omega
theorem spots_le {l : List Rs} {D : List Spot} (hn : D.Nodup) (h : ∀ s ∈ D, (lookS l).2 s ≠ none) : D.length ≤ l.length := by
  have := nodup_len (F := l.map spotR) hn fun s hs => by
    rcases lookS_mem l _ s (h s hs) with h2 | ⟨r, h2, _, h4⟩
    · exact absurd rfl h2
    · exact List.mem_map.2 ⟨r, h2, h4⟩
  rwa [List.length_map] at this
theorem known_rng {l : List Rs} {s : Spot} (h : (lookS l).2 s ≠ none) : 0 ≤ s.flow ∧ s.flow ≤ 1023 ∧ 1 ≤ s.ttl ∧ s.ttl ≤ 255 := by
  rcases lookS_mem l _ s h with h2 | ⟨r, h2, h3, h4⟩
  · exact absurd rfl h2
  · have := use_rng h3
    rw [← h4]
    exact this
theorem upd_twice {κ β : Type} [DecidableEq κ] (f : κ → Option β) (a : κ) (u v : β) : (fun x => if x = a then some v else (if x = a then some u else f x)) = fun x => if x = a then some v else f x := by
 funext x
 by_cases h : x = a <;> simp [h]
section
variable {κ κ' α : Type} {HG : List (κ × Sg α)} {EG : List (κ' × Sg α)} {k : Nat} {s s' : Sg α}
theorem app_l {X Y : List (Sg α)} {k : Nat} {s : Sg α} (h : X[k]? = some s) : (X ++ Y)[k]? = some s := by
 rw [List.getElem?_append_left (List.getElem?_eq_some_iff.1 h).1]; exact h
theorem app_r {HG : List (κ × Sg α)} {Y : List (Sg α)} {k : Nat} {s : Sg α} (h : Y[k]? = some s) : (HG.map (·.2) ++ Y)[HG.length + k]? = some s := by
 rw [List.getElem?_append_right (by rw [List.length_map]; omega), List.length_map, Nat.add_sub_cancel_left]; exact h
theorem perm_oldL {p : κ} (hk : HG[k]? = some (p, s)) : (s' :: (HG.map (·.2) ++ EG.map (·.2)).eraseIdx k).Perm ((HG.set k (p, s')).map (·.2) ++ EG.map (·.2)) := by
 have hlt := (List.getElem?_eq_some_iff.1 hk).1
 have : (HG.set k (p, s')).map (·.2) ++ EG.map (·.2) = (HG.map (·.2) ++ EG.map (·.2)).set k s' := by
  rw [List.map_set, List.set_append_left _ _ (by rw [List.length_map]; exact hlt)]
 rw [this]
 exact (set_perm (by rw [List.length_append, List.length_map]; omega) s').symm
theorem perm_newL {p : κ} : (s' :: (HG.map (·.2) ++ EG.map (·.2))).Perm ((HG ++ [(p, s')]).map (·.2) ++ EG.map (·.2)) := by
 rw [List.map_append, List.append_assoc]
 exact List.perm_middle.symm
theorem perm_oldR {p : κ'} (hk : EG[k]? = some (p, s)) : (s' :: (HG.map (·.2) ++ EG.map (·.2)).eraseIdx (HG.length + k)).Perm (HG.map (·.2) ++ (EG.set k (p, s')).map (·.2)) := by
 have hlt := (List.getElem?_eq_some_iff.1 hk).1
 have : HG.map (·.2) ++ (EG.set k (p, s')).map (·.2) = (HG.map (·.2) ++ EG.map (·.2)).set (HG.length + k) s' := by
  rw [List.map_set, List.set_append_right _ _ (by rw [List.length_map]; omega), List.length_map, Nat.add_sub_cancel_left]
 rw [this]
 exact (set_perm (by rw [List.length_append, List.length_map, List.length_map]; omega) s').symm
theorem perm_newR {p : κ'} : (s' :: (HG.map (·.2) ++ EG.map (·.2))).Perm (HG.map (·.2) ++ (EG ++ [(p, s')]).map (·.2)) := by
 rw [List.map_append, ← List.append_assoc]
 exact (List.perm_append_singleton s' _).symm
theorem ne_set {p : κ} (h : ∀ x ∈ HG, x.2.l ≠ []) (hs : s'.l ≠ []) : ∀ x ∈ HG.set k (p, s'), x.2.l ≠ [] := fun x hx => by
 rcases List.mem_or_eq_of_mem_set hx with h1 | h1
 ·exact h x h1
 ·rw [h1]; exact hs
theorem ne_new {p : κ} (h : ∀ x ∈ HG, x.2.l ≠ []) (hs : s'.l ≠ []) : ∀ x ∈ HG ++ [(p, s')], x.2.l ≠ [] := fun x hx => by
 rcases List.mem_append.1 hx with h1 | h1
 ·exact h x h1
 ·rw [List.mem_singleton.1 h1]; exact hs
end
theorem stepKey_none {fa fs : Spot → Option Int} {s : Spot} (h : hasF fs s.flow (s.ttl + 1) = false) : stepKey fa fs s = none := by unfold stepKey; rw [h]; rfl
theorem stepKey_some {fa fs : Spot → Option Int} {s : Spot} (h : hasF fs s.flow (s.ttl + 1) = true) : stepKey fa fs s = some ⟨s.ttl, (fa s).getD 0, (fa ⟨s.flow, s.ttl + 1⟩).getD 0⟩ := by unfold stepKey; rw [h]; rfl
structure Mp where
 tr : Trc
 en : Int
 hops : Sg Hpx
 edges : Sg Ed
def Mp.cells (m : Mp) : List Value := [.int .i64 m.tr.v, .int .u32 m.tr.dst, .int .i64 m.tr.proto, .int .i64 m.en, .slice m.hops.A m.hops.l.length m.hops.c, .slice m.edges.A m.edges.l.length m.edges.c]
def Mp.zero : Mp := ⟨Trc.zero, 0, ⟨none, 0, []⟩, ⟨none, 0, []⟩⟩
def Mp.pcs (m : Mp) : List Pc := [.row (.slice m.hops.A m.hops.l.length m.hops.c) 50 3 m.hops.l.length (flat Hpx.cells m.hops.l), .row (.slice m.edges.A m.edges.l.length m.edges.c) 63 4 m.edges.l.length (flat Ed.cells m.edges.l)] ++ segG 3 1 (flat (ic .i64)) (m.hops.l.map (·.fl) ++ m.edges.l.map (·.fl))
def hpk (h : Hpx) : List Int := [h.ttl, h.addr]
def edk (h : Ed) : List Int := [h.ttl, h.frm, h.to_]
def HopsOk (fa fs : Spot → Option Int) (hs : List Hpx) : Prop := AscK hpk hs ∧ (∀ h ∈ hs, h.fl.l.Pairwise (· < ·) ∧ h.fl.l ≠ []) ∧ ∀ t a f, (∃ h ∈ hs, h.ttl = t ∧ h.addr = a ∧ f ∈ h.fl.l) ↔ (fs ⟨f, t⟩ ≠ none ∧ (fa ⟨f, t⟩).getD 0 = a)
def EdgesOk (fa fs : Spot → Option Int) (es : List Ed) : Prop := AscK edk es ∧ (∀ h ∈ es, h.fl.l.Pairwise (· < ·) ∧ h.fl.l ≠ []) ∧ ∀ t a b f, (∃ h ∈ es, h.ttl = t ∧ h.frm = a ∧ h.to_ = b ∧ f ∈ h.fl.l) ↔ (fs ⟨f, t⟩ ≠ none ∧ hasF fs f (t + 1) = true ∧ (fa ⟨f, t⟩).getD 0 = a ∧ (fa ⟨f, t + 1⟩).getD 0 = b)
def GraphOk (l : List Rs) (m : Mp) : Prop := m.tr = trcR (l.headD Rs.zero) ∧ m.en = endT l ∧ HopsOk (lookS l).1 (lookS l).2 m.hops.l ∧ EdgesOk (lookS l).1 (lookS l).2 m.edges.l
def BuildOk (l : List Rs) (m : Mp) (e : Int) : Prop := ErrOk l (lookS l).2 e ∧ ((e ≠ 0 ∨ l = []) → m = Mp.zero) ∧ (e = 0 → l ≠ [] → GraphOk l m)
/-! ### rows sorted -/
def srtI (l : List Int) : List Int := l.mergeSort fun x y => decide (x ≤ y)
theorem srt_len (l : List Int) : (srtI l).length = l.length := List.length_mergeSort l
theorem srt_ok (l : List Int) : SortedI l (srtI l) := ⟨List.mergeSort_perm _ _, by
 have := List.pairwise_mergeSort (le := fun x y : Int => decide (x ≤ y)) (fun a b c h1 h2 => by simp only [decide_eq_true_eq] at *; exact Int.le_trans h1 h2) (fun a b => by simp only [Bool.or_eq_true, decide_eq_true_eq]; exact Int.le_total a b) l
 exact this.imp fun h => of_decide_eq_true h⟩
theorem sortedI_uniq : ∀ {a b : List Int}, a.Perm b → a.Pairwise (· ≤ ·) → b.Pairwise (· ≤ ·) → a = b
 | [], b, h, _, _ => (List.nil_perm.1 h).symm
 | x :: a, [], h, _, _ => absurd h (by intro h2; have := h2.length_eq; cases this)
 | x :: a, y :: b, h, ha, hb => by
  obtain ⟨a1, a2⟩ := List.pairwise_cons.1 ha
  obtain ⟨b1, b2⟩ := List.pairwise_cons.1 hb
  have e : x = y := by
   have h1 : x ≤ y := by
    rcases List.mem_cons.1 (h.mem_iff.2 (List.mem_cons_self (a := y) (l := b))) with e | e
    ·omega
    ·exact a1 y e
   have h2 : y ≤ x := by
    rcases List.mem_cons.1 (h.mem_iff.1 (List.mem_cons_self (a := x) (l := a))) with e | e
    ·omega
    ·exact b1 x e
   omega
  subst e
  rw [sortedI_uniq (List.Perm.cons_inv h) a2 b2]
theorem SortedI.eq {l l' : List Int} (h : SortedI l l') : l' = srtI l := sortedI_uniq (h.1.trans (srt_ok l).1.symm) h.2 (srt_ok l).2
theorem mem_srt {l : List Int} {x : Int} : x ∈ srtI l ↔ x ∈ l := (srt_ok l).1.mem_iff
def srtG (s : Sg Int) : Sg Int := ⟨s.A, s.c, srtI s.l⟩
def kvG {κ : Type} (x : κ × Sg Int) : κ × Value := (x.1, x.2.val)
def hopG (x : Place × Sg Int) : Hpx := ⟨x.1.ttl, x.1.addr, srtG x.2⟩
def edgG (x : Stp × Sg Int) : Ed := ⟨x.1.ttl, x.1.frm, x.1.to_, srtG x.2⟩
section
variable {κ : Type} [DecidableEq κ] {HG Gd Gl : List (κ × Sg Int)} {fm : κ → Option Value} {a : κ} {v : Value} {s : Sg Int}
theorem mapSG_val (hf : ∀ x, fm x = (HG.find? fun p => decide (p.1 = x)).map (·.2.val)) (h : fm a = some v) : ∃ s, (a, s) ∈ HG ∧ v = .slice s.A s.l.length s.c := by
 rw [hf] at h
 obtain ⟨p, hp, rfl⟩ := Option.map_eq_some_iff.1 h
 obtain ⟨k, s, h1, rfl⟩ := find_at hp
 exact ⟨s, List.mem_of_getElem? h1, rfl⟩
theorem val_mapSG (nd : (HG.map (·.1)).Nodup) (hf : ∀ x, fm x = (HG.find? fun p => decide (p.1 = x)).map (·.2.val)) (h : (a, s) ∈ HG) : fm a = some s.val := by
 rw [hf, (find_key nd).2 ⟨h, rfl⟩]; rfl
theorem getS_mem (nd : (HG.map (·.1)).Nodup) (h : (a, s) ∈ HG) : getS HG a = s := getS_of ((find_key nd).2 ⟨h, rfl⟩)
theorem left_of (hp : HG.Perm (Gd ++ Gl)) (hn : a ∉ (Gd.map kvG).map (·.1)) (hs : (a, s) ∈ HG) : (a, s) ∈ Gl := by
 rcases List.mem_append.1 (hp.mem_iff.1 hs) with h | h
 ·exact absurd (List.mem_map.2 ⟨kvG (a, s), List.mem_map.2 ⟨(a, s), h, rfl⟩, rfl⟩) hn
 ·exact h
theorem none_left (nd : (HG.map (·.1)).Nodup) (hp : HG.Perm (Gd ++ Gl)) (hf : ∀ x, fm x = (HG.find? fun p => decide (p.1 = x)).map (·.2.val)) (hall : ∀ a v, fm a = some v → (a, v) ∈ Gd.map kvG) : Gl = [] := by
 refine List.eq_nil_iff_forall_not_mem.2 fun x hx => ?_
 have h1 := hall x.1 x.2.val (val_mapSG nd hf (hp.mem_iff.2 (List.mem_append.2 (.inr hx))))
 obtain ⟨y, hy, e⟩ := List.mem_map.1 h1
 have e1 : y.1 = x.1 := congrArg (Prod.fst : κ × Value → κ) e
 have h2 : ((Gd ++ Gl).map (·.1)).Nodup := (hp.map _).nodup_iff.1 nd
 rw [List.map_append] at h2
 exact (List.nodup_append.1 h2).2.2 y.1 (List.mem_map.2 ⟨y, hy, rfl⟩) x.1 (List.mem_map.2 ⟨x, hx, rfl⟩) e1
theorem groups_le {key : Spot → Option κ} {D : List Spot} {enc : κ → Value} {Ok : κ → Prop} {ob : Obj} (h : MapSG enc Ok ob HG (grp key D)) (hn : ∀ x ∈ HG, x.2.l ≠ []) : HG.length ≤ D.length := by
 have h1 : (HG.map fun x => some x.1).Nodup := by
  refine List.pairwise_map.2 ((List.pairwise_map.1 h.nd).imp fun hne hh => hne ?_)
  exact Option.some.inj hh
 have := nodup_len (F := D.map key) h1 fun y hy => by
  obtain ⟨x, hx, rfl⟩ := List.mem_map.1 hy
  have h2 := h.sp x.1
  rw [getS_mem h.nd hx] at h2
  obtain ⟨f, hf⟩ := List.exists_mem_of_ne_nil _ (hn x hx)
  rw [h2] at hf
  obtain ⟨s, hs, hk, _⟩ := mem_grp.1 hf
  exact List.mem_map.2 ⟨s, hs, hk⟩
 rwa [List.length_map, List.length_map] at this
theorem app_next {E : List (Sg Int)} {f : κ × Sg Int → Sg Int} {k : Nat} {x : κ × Sg Int} (hk : Gl[k]? = some x) : (Gd.map f ++ Gl.map (·.2) ++ E)[Gd.length + k]? = some x.2 := by
 have hlt := (List.getElem?_eq_some_iff.1 hk).1
 rw [List.append_assoc, List.getElem?_append_right (by rw [List.length_map]; omega), List.length_map, Nat.add_sub_cancel_left, List.getElem?_append_left (by rw [List.length_map]; exact hlt), List.getElem?_map, hk]
 rfl
theorem perm_next {E : List (Sg Int)} {f : κ × Sg Int → Sg Int} {k : Nat} {x : κ × Sg Int} (hk : Gl[k]? = some x) : (f x :: (Gd.map f ++ Gl.map (·.2) ++ E).eraseIdx (Gd.length + k)).Perm ((Gd ++ [x]).map f ++ (Gl.eraseIdx k).map (·.2) ++ E) := by
 have h1 : (x.2 :: (Gd.map f ++ Gl.map (·.2) ++ E).eraseIdx (Gd.length + k)).Perm (Gd.map f ++ Gl.map (·.2) ++ E) := (erase_perm (app_next hk)).symm
 have h2 : (Gl.map (·.2)).Perm (x.2 :: (Gl.eraseIdx k).map (·.2)) := (erase_perm hk).map (·.2)
 have h3 : (Gd.map f ++ Gl.map (·.2) ++ E).Perm (x.2 :: (Gd.map f ++ (Gl.eraseIdx k).map (·.2) ++ E)) := by
  refine ((h2.append_left (Gd.map f)).append_right E).trans ?_
  rw [List.append_assoc, List.append_assoc]
  exact List.perm_middle
 have h4 := List.Perm.cons_inv (h1.trans h3)
 refine (h4.cons (f x)).trans ?_
 rw [List.map_append, List.append_assoc, List.append_assoc, List.append_assoc]
 exact List.perm_middle.symm
theorem next_perm {k : Nat} {x : κ × Sg Int} (hp : HG.Perm (Gd ++ Gl)) (hk : Gl[k]? = some x) : HG.Perm (Gd ++ [x] ++ Gl.eraseIdx k) := by
 refine hp.trans ?_
 rw [List.append_assoc]
 exact (erase_perm hk).append_left Gd
end
theorem perm_turn {X Y : List (Sg Int)} : ((X ++ []) ++ Y).Perm (([] ++ Y) ++ X) := by
 rw [List.append_nil, List.nil_append]; exact List.perm_append_comm
theorem fl_perm {Gd : List (Place × Sg Int)} {Ed' : List (Stp × Sg Int)} {Hs hs : List Hpx} {Es es : List Ed} (h1 : hs.Perm Hs) (h2 : es.Perm Es) (h3 : Hs = Gd.map hopG) (h4 : Es = Ed'.map edgG) :
  (Ed'.map (fun x : Stp × Sg Int => srtG x.2) ++ [] ++ Gd.map (fun x : Place × Sg Int => srtG x.2)).Perm (hs.map Hpx.fl ++ es.map Ed.fl) := by
 rw [List.append_nil]
 refine List.perm_append_comm.trans (List.Perm.append ?_ ?_)
 ·have := (h1.map (·.fl)).symm
  rw [h3, List.map_map] at this
  exact this
 ·have := (h2.map (·.fl)).symm
  rw [h4, List.map_map] at this
  exact this
theorem headD_at {l : List Rs} {x : Rs} (h : l[0]? = some x) : l.headD Rs.zero = x := by
 cases l with
 | nil => cases h
 | cons a l => cases h; rfl
/-! ### the answer -/
theorem sorted_asc {α : Type} {key : α → List Int} {n : Nat} (hk : ∀ x, (key x).length = n) {l l' : List α} (h : l'.Pairwise fun x y => ¬ lexI (key y) (key x) < 0) (hp : l'.Perm l) (hn : l.Pairwise fun x y => key x ≠ key y) : AscK key l' := by
 have hn' : l'.Pairwise fun x y => key x ≠ key y := (hp.pairwise_iff (fun hab hba => hab hba.symm)).2 hn
 refine (h.and hn').imp fun {x y} hxy => ?_
 have e2 := @posK _ key n hk x y
 have e3 := @lexI_zero (key x) (key y) (by rw [hk, hk])
 have h1 := hxy.1
 have h2 : lexI (key x) (key y) ≠ 0 := fun e => hxy.2 (e3.1 e)
 omega
theorem hops_ok {fa fs : Spot → Option Int} {D : List Spot} {HG Gd : List (Place × Sg Int)} {enc : Place → Value} {ob : Obj} {Hs hs : List Hpx} (hD : D.Nodup) (hm : ∀ s, s ∈ D ↔ fs s ≠ none) (h : MapSG enc Place.Ok ob HG (grp (placeK fa) D)) (hn : ∀ x ∈ HG, x.2.l ≠ [])
  (hp : HG.Perm (Gd ++ [])) (hH : Hs = Gd.map hopG) (hS : Sorted cmpH Hs hs) : HopsOk fa fs hs := by
 rw [List.append_nil] at hp
 have hmem : ∀ z, z ∈ hs ↔ ∃ x ∈ HG, hopG x = z := fun z => by
  rw [hS.1.mem_iff, hH, List.mem_map]
  exact ⟨fun ⟨x, h1, h2⟩ => ⟨x, hp.mem_iff.2 h1, h2⟩, fun ⟨x, h1, h2⟩ => ⟨x, hp.mem_iff.1 h1, h2⟩⟩
 have hl : ∀ x ∈ HG, x.2.l = grp (placeK fa) D x.1 := fun x hx => by rw [← h.sp x.1, getS_mem h.nd hx]
 refine ⟨sorted_asc (key := hpk) (n := 2) (fun _ => rfl) hS.2 hS.1 ?_, fun z hz => ?_, fun t a f => ?_⟩
 ·rw [hH]
  refine List.pairwise_map.2 ((List.pairwise_map.1 ((hp.map (·.1)).nodup_iff.1 h.nd)).imp fun {x y} hne hk => hne ?_)
  obtain ⟨⟨t1, a1⟩, _⟩ := x
  obtain ⟨⟨t2, a2⟩, _⟩ := y
  simp only [hpk, hopG, List.cons.injEq, and_true] at hk
  rw [hk.1, hk.2]
 ·obtain ⟨x, hx, rfl⟩ := (hmem z).1 hz
  refine ⟨asc_of (srt_ok _) ?_, fun e => hn x hx ?_⟩
  ·show x.2.l.Nodup
   rw [hl x hx]; exact grp_nodup placeK_ttl hD _
  ·have : (srtI x.2.l).length = 0 := by show (hopG x).fl.l.length = 0; rw [e]; rfl
   rw [srt_len] at this
   exact List.eq_nil_of_length_eq_zero this
 ·constructor
  ·rintro ⟨z, hz, h1, h2, h3⟩
   obtain ⟨x, hx, rfl⟩ := (hmem z).1 hz
   have h4 : f ∈ x.2.l := mem_srt.1 h3
   rw [hl x hx] at h4
   obtain ⟨s, hs, hk, rfl⟩ := mem_grp.1 h4
   unfold placeK at hk
   have hk2 := Option.some.inj hk
   obtain ⟨⟨t1, a1⟩, _⟩ := x
   cases hk2
   cases h1
   cases h2
   exact ⟨(hm s).1 hs, rfl⟩
  ·rintro ⟨h1, h2⟩
   have hs : (⟨f, t⟩ : Spot) ∈ D := (hm _).2 h1
   have hf : f ∈ grp (placeK fa) D ⟨t, a⟩ := mem_grp.2 ⟨⟨f, t⟩, hs, by unfold placeK; rw [h2], rfl⟩
   rw [← h.sp] at hf
   rcases hfi : HG.find? (fun p => decide (p.1 = (⟨t, a⟩ : Place))) with _ | p
   ·unfold getS at hf; rw [hfi] at hf; cases hf
   ·obtain ⟨k, s, hk, rfl⟩ := find_at hfi
    rw [getS_of hfi] at hf
    exact ⟨hopG (⟨t, a⟩, s), (hmem _).2 ⟨_, List.mem_of_getElem? hk, rfl⟩, rfl, rfl, mem_srt.2 hf⟩
theorem edges_ok {fa fs : Spot → Option Int} {D : List Spot} {HG Gd : List (Stp × Sg Int)} {enc : Stp → Value} {ob : Obj} {Hs hs : List Ed} (hD : D.Nodup) (hm : ∀ s, s ∈ D ↔ fs s ≠ none) (h : MapSG enc Stp.Ok ob HG (grp (stepKey fa fs) D)) (hn : ∀ x ∈ HG, x.2.l ≠ [])
  (hp : HG.Perm (Gd ++ [])) (hH : Hs = Gd.map edgG) (hS : Sorted cmpE Hs hs) : EdgesOk fa fs hs := by
 rw [List.append_nil] at hp
 have hmem : ∀ z, z ∈ hs ↔ ∃ x ∈ HG, edgG x = z := fun z => by
  rw [hS.1.mem_iff, hH, List.mem_map]
  exact ⟨fun ⟨x, h1, h2⟩ => ⟨x, hp.mem_iff.2 h1, h2⟩, fun ⟨x, h1, h2⟩ => ⟨x, hp.mem_iff.1 h1, h2⟩⟩
 have hl : ∀ x ∈ HG, x.2.l = grp (stepKey fa fs) D x.1 := fun x hx => by rw [← h.sp x.1, getS_mem h.nd hx]
 refine ⟨sorted_asc (key := edk) (n := 3) (fun _ => rfl) hS.2 hS.1 ?_, fun z hz => ?_, fun t a b f => ?_⟩
 ·rw [hH]
  refine List.pairwise_map.2 ((List.pairwise_map.1 ((hp.map (·.1)).nodup_iff.1 h.nd)).imp fun {x y} hne hk => hne ?_)
  obtain ⟨⟨t1, a1, b1⟩, _⟩ := x
  obtain ⟨⟨t2, a2, b2⟩, _⟩ := y
  simp only [edk, edgG, List.cons.injEq, and_true] at hk
  rw [hk.1, hk.2.1, hk.2.2]
 ·obtain ⟨x, hx, rfl⟩ := (hmem z).1 hz
  refine ⟨asc_of (srt_ok _) ?_, fun e => hn x hx ?_⟩
  ·show x.2.l.Nodup
   rw [hl x hx]; exact grp_nodup stepKey_ttl hD _
  ·have : (srtI x.2.l).length = 0 := by show (edgG x).fl.l.length = 0; rw [e]; rfl
   rw [srt_len] at this
   exact List.eq_nil_of_length_eq_zero this
 ·constructor
  ·rintro ⟨z, hz, h1, h2, h3, h4⟩
   obtain ⟨x, hx, rfl⟩ := (hmem z).1 hz
   have h5 : f ∈ x.2.l := mem_srt.1 h4
   rw [hl x hx] at h5
   obtain ⟨s, hs, hk, rfl⟩ := mem_grp.1 h5
   unfold stepKey at hk
   split at hk
   ·rename_i hh
    have hk2 := Option.some.inj hk
    obtain ⟨⟨t1, a1, b1⟩, _⟩ := x
    cases hk2
    cases h1
    cases h2
    cases h3
    exact ⟨(hm s).1 hs, hh, rfl, rfl⟩
   ·cases hk
  ·rintro ⟨h1, h2, h3, h4⟩
   have hs : (⟨f, t⟩ : Spot) ∈ D := (hm _).2 h1
   have hf : f ∈ grp (stepKey fa fs) D ⟨t, a, b⟩ := mem_grp.2 ⟨⟨f, t⟩, hs, by rw [stepKey_some h2]; show some (Stp.mk _ _ _) = _; rw [h3, h4], rfl⟩
   rw [← h.sp] at hf
   rcases hfi : HG.find? (fun p => decide (p.1 = (⟨t, a, b⟩ : Stp))) with _ | p
   ·unfold getS at hf; rw [hfi] at hf; cases hf
   ·obtain ⟨k, s, hk, rfl⟩ := find_at hfi
    rw [getS_of hfi] at hf
    exact ⟨edgG (⟨t, a, b⟩, s), (hmem _).2 ⟨_, List.mem_of_getElem? hk, rfl⟩, rfl, rfl, rfl, mem_srt.2 hf⟩
set_option maxRecDepth 20000
theorem pbdzv36 (w : World) : (zeroValue 36).run Tryz.prog w = .ok (.agg #[.int .i64 0, .int .u32 0, .int .i64 0, .int .i64 0, .slice none 0 0, .slice none 0 0]) w := rfl
theorem pbdnm58 : (Tryz.f58.name == "runtime.NumGoroutine") = false := by decide
theorem pbdbd58 : Tryz.f58.body.isNone = false := rfl
theorem pbdnm59 : (Tryz.f59.name == "runtime.NumGoroutine") = false := by decide
theorem pbdbd59 : Tryz.f59.body.isNone = false := rfl
theorem pbdbld36_531  (w : World) : (Instr.build 36 #[]).run Tryz.prog w = .ok (.agg #[.int .i64 0, .int .u32 0, .int .i64 0, .int .i64 0, .slice none 0 0, .slice none 0 0]) w := by kernel_rfl
theorem pbdsz36 (w : World) : (sizeOf 36).run Tryz.prog w = .ok 6 w := rfl
theorem pbdone_i64u32i64i64ss {a0 : Int} {a1 : Int} {a2 : Int} {a3 : Int} {a4 : Option Addr} {n4 c4 : Nat} {a5 : Option Addr} {n5 c5 : Nat} : ∀ u ∈ [(.int .i64 a0 : Value), .int .u32 a1, .int .i64 a2, .int .i64 a3, .slice a4 n4 c4, .slice a5 n5 c5], u.oneCell' = true := by
 intro u hu
 simp only [List.mem_cons, List.not_mem_nil, or_false] at hu
 rcases hu with rfl | rfl | rfl | rfl | rfl | rfl <;> rfl
theorem pbdbld36_98406 (a0_0 : Int) (a0_1 : Int) (a0_2 : Int) (a1_0 : Int) (w : World) : (Instr.build 36 #[(0, .agg #[.int .i64 a0_0, .int .u32 a0_1, .int .i64 a0_2]), (1, .int .i64 a1_0)]).run Tryz.prog w = .ok (.agg #[.int .i64 a0_0, .int .u32 a0_1, .int .i64 a0_2, .int .i64 a1_0, .slice none 0 0, .slice none 0 0]) w := by kernel_rfl
theorem pbdfld36_2 (g o : Nat) (w : World) : (Instr.fieldAt 36 (.pointer (some ⟨g, o, none⟩)) 2).run Tryz.prog w = .ok (.pointer (some ⟨g, o + 4, none⟩)) w := by kernel_rfl
theorem pbdag33 (w : World) : (isAgg 33).run Tryz.prog w = .ok false w := rfl
theorem pbdnm62 : (Tryz.f62.name == "runtime.NumGoroutine") = false := by decide
theorem pbdbd62 : Tryz.f62.body.isNone = false := rfl
theorem pbdfld36_3 (g o : Nat) (w : World) : (Instr.fieldAt 36 (.pointer (some ⟨g, o, none⟩)) 3).run Tryz.prog w = .ok (.pointer (some ⟨g, o + 5, none⟩)) w := by kernel_rfl
theorem pbdag34 (w : World) : (isAgg 34).run Tryz.prog w = .ok false w := rfl
theorem pbdnm67 : (Tryz.f67.name == "runtime.NumGoroutine") = false := by decide
theorem pbdbd67 : Tryz.f67.body.isNone = false := rfl
theorem pbdag36 (w : World) : (isAgg 36).run Tryz.prog w = .ok true w := rfl
theorem pbdzv102 (w : World) : (zeroValue 102).run Tryz.prog w = .ok (.agg #[.int .i64 0, .int .u32 0, .int .u32 0]) w := rfl
theorem pbdsz102 (w : World) : (sizeOf 102).run Tryz.prog w = .ok 3 w := rfl
theorem pbdnm61 : (Tryz.f61.name == "runtime.NumGoroutine") = false := by decide
theorem pbdbd61 : Tryz.f61.body.isNone = false := rfl
theorem pbdfld102_0 (g o : Nat) (w : World) : (Instr.fieldAt 102 (.pointer (some ⟨g, o, none⟩)) 0).run Tryz.prog w = .ok (.pointer (some ⟨g, o + 0, none⟩)) w := by kernel_rfl
theorem pbdfld102_1 (g o : Nat) (w : World) : (Instr.fieldAt 102 (.pointer (some ⟨g, o, none⟩)) 1).run Tryz.prog w = .ok (.pointer (some ⟨g, o + 1, none⟩)) w := by kernel_rfl
theorem pbdfld102_2 (g o : Nat) (w : World) : (Instr.fieldAt 102 (.pointer (some ⟨g, o, none⟩)) 2).run Tryz.prog w = .ok (.pointer (some ⟨g, o + 2, none⟩)) w := by kernel_rfl
theorem pbdbld63_39859 (a0_0 : Int) (a1_0 : Int) (a2_0 : Int) (a3_0 : Option Addr) (a3_0n a3_0c : Nat) (w : World) : (Instr.build 63 #[(0, .int .i64 a0_0), (1, .int .u32 a1_0), (2, .int .u32 a2_0), (3, .slice a3_0 a3_0n a3_0c)]).run Tryz.prog w = .ok (.agg #[.int .i64 a0_0, .int .u32 a1_0, .int .u32 a2_0, .slice a3_0 a3_0n a3_0c]) w := by kernel_rfl
theorem pbdbs34_1_7406 (a0_0 : Int) (a0_1 : Int) (a0_2 : Int) (a0_3 : Option Addr) (a0_3n a0_3c : Nat) (w : World) : (Instr.buildSlice 34 1 #[(0, .agg #[.int .i64 a0_0, .int .u32 a0_1, .int .u32 a0_2, .slice a0_3 a0_3n a0_3c])]).run Tryz.prog w = .ok (.slice (some ⟨w.heap.size, 0, none⟩) 1 1) (w.alloc (.cells [.int .i64 a0_0, .int .u32 a0_1, .int .u32 a0_2, .slice a0_3 a0_3n a0_3c].toArray 63)) := by kernel_rfl
theorem pbdel34 : Elem Tryz.prog 34 63 4 40 := Elem.mk' Tryz.underlying34 (z := .agg #[.int .i64 0, .int .u32 0, .int .u32 0, .slice none 0 0]) (by kernel_rfl) rfl (by omega) (by omega)
theorem pbdsz34 (w : World) : (sizeOf 34).run Tryz.prog w = .ok 1 w := rfl
theorem pbdone_s {a0 : Option Addr} {n0 c0 : Nat} : ∀ u ∈ [(.slice a0 n0 c0 : Value)], u.oneCell' = true := by
 intro u hu
 rw [List.mem_singleton] at hu
 subst hu; rfl
theorem pbdzv99 (w : World) : (zeroValue 99).run Tryz.prog w = .ok (.agg #[.int .i64 0, .int .u32 0]) w := rfl
theorem pbdsz99 (w : World) : (sizeOf 99).run Tryz.prog w = .ok 2 w := rfl
theorem pbdfld99_0 (g o : Nat) (w : World) : (Instr.fieldAt 99 (.pointer (some ⟨g, o, none⟩)) 0).run Tryz.prog w = .ok (.pointer (some ⟨g, o + 0, none⟩)) w := by kernel_rfl
theorem pbdfld99_1 (g o : Nat) (w : World) : (Instr.fieldAt 99 (.pointer (some ⟨g, o, none⟩)) 1).run Tryz.prog w = .ok (.pointer (some ⟨g, o + 1, none⟩)) w := by kernel_rfl
theorem pbdbld50_71348 (a0_0 : Int) (a1_0 : Int) (a2_0 : Option Addr) (a2_0n a2_0c : Nat) (w : World) : (Instr.build 50 #[(0, .int .i64 a0_0), (1, .int .u32 a1_0), (2, .slice a2_0 a2_0n a2_0c)]).run Tryz.prog w = .ok (.agg #[.int .i64 a0_0, .int .u32 a1_0, .slice a2_0 a2_0n a2_0c]) w := by kernel_rfl
theorem pbdbs33_1_48232 (a0_0 : Int) (a0_1 : Int) (a0_2 : Option Addr) (a0_2n a0_2c : Nat) (w : World) : (Instr.buildSlice 33 1 #[(0, .agg #[.int .i64 a0_0, .int .u32 a0_1, .slice a0_2 a0_2n a0_2c])]).run Tryz.prog w = .ok (.slice (some ⟨w.heap.size, 0, none⟩) 1 1) (w.alloc (.cells [.int .i64 a0_0, .int .u32 a0_1, .slice a0_2 a0_2n a0_2c].toArray 50)) := by kernel_rfl
theorem pbdel33 : Elem Tryz.prog 33 50 3 40 := Elem.mk' Tryz.underlying33 (z := .agg #[.int .i64 0, .int .u32 0, .slice none 0 0]) (by kernel_rfl) rfl (by omega) (by omega)
theorem pbdsz33 (w : World) : (sizeOf 33).run Tryz.prog w = .ok 1 w := rfl
theorem pbdfld97_1 (g o : Nat) (w : World) : (Instr.fieldAt 97 (.pointer (some ⟨g, o, none⟩)) 1).run Tryz.prog w = .ok (.pointer (some ⟨g, o + 1, none⟩)) w := by kernel_rfl
theorem pbdbld99_27270 (a0_0 : Int) (a1_0 : Int) (w : World) : (Instr.build 99 #[(0, .int .i64 a0_0), (1, .int .u32 a1_0)]).run Tryz.prog w = .ok (.agg #[.int .i64 a0_0, .int .u32 a1_0]) w := by kernel_rfl
theorem pbdone_i64u32 {a0 : Int} {a1 : Int} : ∀ u ∈ [(.int .i64 a0 : Value), .int .u32 a1], u.oneCell' = true := by
 intro u hu
 simp only [List.mem_cons, List.not_mem_nil, or_false] at hu
 rcases hu with rfl | rfl <;> rfl
theorem pbdag99 (w : World) : (isAgg 99).run Tryz.prog w = .ok true w := rfl
theorem pbdfld97_0 (g o : Nat) (w : World) : (Instr.fieldAt 97 (.pointer (some ⟨g, o, none⟩)) 0).run Tryz.prog w = .ok (.pointer (some ⟨g, o + 0, none⟩)) w := by kernel_rfl
theorem pbdbs48_1_5377 (a0_0 : Int) (w : World) : (Instr.buildSlice 48 1 #[(0, .int .i64 a0_0)]).run Tryz.prog w = .ok (.slice (some ⟨w.heap.size, 0, none⟩) 1 1) (w.alloc (.cells [.int .i64 a0_0].toArray 3)) := by kernel_rfl
theorem pbdel48 : Elem Tryz.prog 48 3 1 8 := Elem.mk' Tryz.underlying48 (z := .int .i64 0) (by kernel_rfl) rfl (by omega) (by omega)
theorem pbdnm60 : (Tryz.f60.name == "runtime.NumGoroutine") = false := by decide
theorem pbdbd60 : Tryz.f60.body.isNone = false := rfl
theorem pbdbld102_60071 (a0_0 : Int) (a1_0 : Int) (a2_0 : Int) (w : World) : (Instr.build 102 #[(0, .int .i64 a0_0), (1, .int .u32 a1_0), (2, .int .u32 a2_0)]).run Tryz.prog w = .ok (.agg #[.int .i64 a0_0, .int .u32 a1_0, .int .u32 a2_0]) w := by kernel_rfl
theorem pbdone_i64u32u32 {a0 : Int} {a1 : Int} {a2 : Int} : ∀ u ∈ [(.int .i64 a0 : Value), .int .u32 a1, .int .u32 a2], u.oneCell' = true := by
 intro u hu
 simp only [List.mem_cons, List.not_mem_nil, or_false] at hu
 rcases hu with rfl | rfl | rfl <;> rfl
theorem pbdag102 (w : World) : (isAgg 102).run Tryz.prog w = .ok true w := rfl
set_option maxHeartbeats 1000000 in
theorem build_any (A0 : Option Addr) (c0 : Nat) (l : List Rs) (w : World) (hr : Reads w w.heap.size 17 A0 l.length (flat Rs.cells l)) (hl1 : l.length ≤ 100000) (hok : ∀ r ∈ l, r.Ok) :
  Calls Tryz.prog 14 #[.slice A0 l.length c0] w fun e w' => ∃ x : {y : Mp × Int // BuildOk l y.1 y.2}, e = .returned (.tuple #[.agg x.1.1.cells.toArray, .int .i64 x.1.2]) ∧ Pm w x.1.1.pcs w' := by
 refine begin_ (vs := [.slice A0 l.length c0]) Tryz.func14 rfl rfl rfl ?_ (Pm.start w)
 refine TC.seq_ (TC.region ?_)
 refine TL.pnew rfl rfl rfl (exec_alloc (cs := [.int .i64 0, .int .u32 0, .int .i64 0, .int .i64 0, .slice none 0 0, .slice none 0 0]) rfl pbdzv36 rfl) (fun g2 => ?_)
 refine TL.as_ ?_
 refine TL.end_ (TX.then_ (TC.seq_ (TC.region ?_)))
 refine TL.mv ?_
 refine TL.pcallPm (α := {y : (Nat × Obj) × (Nat × Obj) // MapR (fun s : Spot => Value.agg s.cells.toArray) Spot.Ok y.1.2 (fun s => ((lookS l).1 s).map (Value.int .u32)) ∧ MapR (fun s : Spot => Value.agg s.cells.toArray) Spot.Ok y.2.2 (fun s => ((lookS l).2 s).map (Value.int .i64))}) (fun x => .agg #[.int .i64 (endT l), .map (some x.1.1.1), .map (some x.1.2.1)]) (fun x => [.oth x.1.1.1 x.1.1.2, .oth x.1.2.1 x.1.2.2]) rfl rfl rfl rfl rfl Tryz.func58 pbdnm58 pbdbd58 (fun w1 hw => look_any A0 c0 l w1 (hr.up hw.bel) hl1 hok) ?_
 rintro ⟨⟨⟨ga, oa⟩, ⟨gs, os⟩⟩, hma, hms⟩
 dsimp only [List.cons_append, List.nil_append]
 dsimp only at hma hms ⊢
 refine TL.pnew rfl rfl rfl (exec_alloc (cs := [.int .i64 0, .map none, .map none]) rfl plkzv91 rfl) (fun g4 => ?_)
 refine TL.pstore (k := 0) (vs := [.int .i64 (endT l), .map (some ga), .map (some gs)]) rfl rfl rfl rfl rfl rfl rfl plksz91 plkone_i64mm (by show 3 ≤ 3; decide) (L' := [.blk g4 91 [.int .i64 (endT l), .map (some ga), .map (some gs)], .oth ga oa, .oth gs os, .blk g2 36 [.int .i64 0, .int .u32 0, .int .i64 0, .int .i64 0, .slice none 0 0, .slice none 0 0]]) rfl ?_
 refine TL.end_ (TX.then_ (TC.seq_ (TC.seq_ (TC.region ?_))))
 refine TL.mv ?_
 refine TL.val rfl rfl rfl (pm_loadV (k := 0) (i := 0) (n := 3) (v := .agg #[.int .i64 (endT l), .map (some ga), .map (some gs)]) rfl rfl plkag91 plksz91 rfl (by show 3 ≤ 3; decide) rfl) ?_
 refine TL.pcallPm (α := {z : Int // ErrOk l (lookS l).2 z}) (fun x => .int .i64 x.1) (fun x => []) rfl rfl rfl rfl rfl Tryz.func59 pbdnm59 pbdbd59 (fun w1 hw => (check_view A0 c0 l (endT l) ga gs os (lookS l).2 w1 (hr.up hw.bel) hl1 hok (hw.at_ (k := 2) rfl).1 hms).mono fun en w2 ⟨x, h1, h2⟩ => ⟨x, h1, (Pm.start w1).below h2⟩) ?_
 rintro ⟨er, her⟩
 dsimp only [List.cons_append, List.nil_append]
 refine TL.as_ ?_
 refine TL.end_ (TX.then_ (TC.seq_ (TC.region ?_)))
 refine TL.mv ?_
 refine TL.vsplit rfl rfl rfl (gives_bin rfl rfl rfl (fun w => bin_neq w)) (fun h23 => ?_) (fun h23 => ?_)
 ·have q23 := of_decide_eq_true h23
  iterate 5 (first | refine TL.of ?_ | refine TL.mv ?_ | refine TL.pk ?_)
  refine TL.end_ (TX.then_ (TC.condT rfl (TC.seq_ (TC.region ?_))))
  refine TL.val rfl rfl rfl (gives_build (v := .agg #[.int .i64 0, .int .u32 0, .int .i64 0, .int .i64 0, .slice none 0 0, .slice none 0 0]) rfl rfl (fun w => pbdbld36_531  w)) ?_
  refine TL.mv ?_
  refine TL.pstore (k := 3) (vs := [.int .i64 0, .int .u32 0, .int .i64 0, .int .i64 0, .slice none 0 0, .slice none 0 0]) rfl rfl rfl rfl rfl rfl rfl pbdsz36 pbdone_i64u32i64i64ss (by show 6 ≤ 6; decide) (L' := [.blk g4 91 [.int .i64 (endT l), .map (some ga), .map (some gs)], .oth ga oa, .oth gs os, .blk g2 36 [.int .i64 0, .int .u32 0, .int .i64 0, .int .i64 0, .slice none 0 0, .slice none 0 0]]) rfl ?_
  refine TL.as_ ?_
  refine TL.end_ (TX.then_ (TC.ret_ (TX.then_ret ?_)))
  refine TX.nilrow 63 4 ?_
  refine TX.nilrow 50 3 ?_
  exact ret_cell2 (k := 5) Tryz.results14 rfl rfl rfl Tryz.underlying36 rfl rfl (fun w1 hw => ⟨⟨(Mp.zero, er), ⟨her, fun _ => rfl, fun h1 _ => absurd h1 q23⟩⟩, rfl, show Pm w [_, _] w1 from hw.pick [0, 1] (by decide) rfl⟩)
 ·have q23 := of_decide_eq_false h23
  iterate 4 (first | refine TL.gu ?_ | refine TL.mv ?_)
  refine TL.val rfl rfl rfl (gives_len rfl Tryz.underlying26 rfl) ?_
  refine TL.gu ?_
  refine TL.vsplit rfl rfl rfl (gives_bin rfl rfl rfl (fun w => bin_eql w)) (fun h27 => ?_) (fun h27 => ?_)
  ·have q27 := of_decide_eq_true h27
   refine TL.pk ?_
   refine TL.end_ (TX.then_ (TC.condT rfl (TC.seq_ (TC.region ?_))))
   refine TL.val rfl rfl rfl (gives_build (v := .agg #[.int .i64 0, .int .u32 0, .int .i64 0, .int .i64 0, .slice none 0 0, .slice none 0 0]) rfl rfl (fun w => pbdbld36_531  w)) ?_
   refine TL.mv ?_
   refine TL.pstore (k := 3) (vs := [.int .i64 0, .int .u32 0, .int .i64 0, .int .i64 0, .slice none 0 0, .slice none 0 0]) rfl rfl rfl rfl rfl rfl rfl pbdsz36 pbdone_i64u32i64i64ss (by show 6 ≤ 6; decide) (L' := [.blk g4 91 [.int .i64 (endT l), .map (some ga), .map (some gs)], .oth ga oa, .oth gs os, .blk g2 36 [.int .i64 0, .int .u32 0, .int .i64 0, .int .i64 0, .slice none 0 0, .slice none 0 0]]) rfl ?_
   refine TL.as_ ?_
   refine TL.end_ (TX.then_ (TC.ret_ (TX.then_ret ?_)))
   refine TX.nilrow 63 4 ?_
   refine TX.nilrow 50 3 ?_
   exact ret_cell2 (k := 5) Tryz.results14 rfl rfl rfl Tryz.underlying36 rfl rfl (fun w1 hw => ⟨⟨(Mp.zero, er), ⟨her, fun _ => rfl, fun _ h2 => absurd (List.eq_nil_of_length_eq_zero (by omega)) h2⟩⟩, rfl, show Pm w [_, _] w1 from hw.pick [0, 1] (by decide) rfl⟩)
  ·have q27 := of_decide_eq_false h27
   refine TL.pk ?_
   refine TL.end_ (TX.then_ (TC.condF rfl (TC.skip_ (TX.then_ (TC.seq_ (TC.region ?_))))))
   refine TL.mkmap rfl rfl rfl rfl (fun gh hgh => ?_)
   refine TL.mkmap rfl rfl rfl rfl (fun ge hge => ?_)
   refine TL.as_ ?_
   refine TL.as_ ?_
   refine TL.end_ (TX.then_ (TC.seq_ (TC.seq_ (TC.region ?_))))
   refine TL.val rfl rfl rfl (gives_field (v := .pointer (some ⟨g4, 2, none⟩)) rfl rfl (fun w => plkfld91_2 _ _ w)) ?_
   refine TL.val rfl rfl rfl (pm_load (k := 2) (i := 2) rfl rfl plkag89 rfl rfl) ?_
   refine TL.rangeM rfl rfl rfl rfl rfl Tryz.underlying89 (fun w1 hw => (hw.at_ (k := 4) rfl).1) hms (fun it oi n hit hI0 => ?_)
   refine TL.end_ (TX.then_ (TC.block ?_))
   refine TC.loop_ (α := {y : List (Spot × Value) × Obj × Obj × Obj × List (Place × Sg Int) × List (Stp × Sg Int) // ItR (fun s : Spot => Value.agg s.cells.toArray) Spot.Ok gs os y.2.1 (fun s => ((lookS l).2 s).map (Value.int .i64)) n y.1 ∧ MapSG (fun s : Place => Value.agg s.cells.toArray) Place.Ok y.2.2.1 y.2.2.2.2.1 (grp (placeK (lookS l).1) (y.1.map (·.1))) ∧ MapSG (fun s : Stp => Value.agg s.cells.toArray) Stp.Ok y.2.2.2.1 y.2.2.2.2.2 (grp (stepKey (lookS l).1 (lookS l).2) (y.1.map (·.1))) ∧ (∀ x ∈ y.2.2.2.2.1, x.2.l ≠ []) ∧ ∀ x ∈ y.2.2.2.2.2, x.2.l ≠ []}) (fun y => [(0, .slice A0 l.length c0), (2, .pointer (some ⟨g2, 0, none⟩)), (4, .pointer (some ⟨g4, 0, none⟩)), (6, .map (some gh)), (7, .map (some ge)), (35, .pointer (some ⟨it, 0, none⟩))]) (fun y => Pm w ([.blk g4 91 [.int .i64 (endT l), .map (some ga), .map (some gs)], .blk g2 36 [.int .i64 0, .int .u32 0, .int .i64 0, .int .i64 0, .slice none 0 0, .slice none 0 0], .oth it y.1.2.1, .oth gh y.1.2.2.1, .oth ge y.1.2.2.2.1, .oth ga oa, .oth gs os] ++ segG 3 1 (flat (ic .i64)) (y.1.2.2.2.2.1.map (·.2) ++ y.1.2.2.2.2.2.map (·.2)))) (fun y => n - y.1.1.length) (⟨([], oi, .map #[] 0, .map #[] 0, [], []), hI0, mapSG_nil, mapSG_nil, fun x hx => absurd hx List.not_mem_nil, fun x hx => absurd hx List.not_mem_nil⟩) ⟨rfl, rfl, rfl, rfl, rfl, rfl, trivial⟩ (fun w1 hw => hw.pick [3, 6, 0, 2, 1, 4, 5] (by decide) rfl) ?_
   rintro ⟨⟨ds, oi1, oh, oe, HG, EG⟩, hI1, hH, hE, hHn, hEn⟩
   dsimp only at hI1 hH hE hHn hEn ⊢
   refine TC.seq_ (TC.region ?_)
   refine TL.nextM spot_key (j := 2) rfl rfl rfl rfl rfl (fun w1 hw => (hw.at_ (k := 6) rfl).1) rfl hit hI1 (fun hall => ?_) (fun a v oi2 ha hfa hna hI2 hlt => ?_)
   ·refine TL.ex ?_
    refine TL.end_ (TX.then_ (TC.seq_ (TC.condF rfl (TC.exit_ (TX.then_exit (TX.then_exit (TX.in_same (TX.then_ ?_))))))))
    have hds : ∀ s, s ∈ ds.map (·.1) ↔ (lookS l).2 s ≠ none := fun s => by
     constructor
     ·intro h
      obtain ⟨p, hp, rfl⟩ := List.mem_map.1 h
      intro h11
      have h10 := (hI1.ok p hp).2
      rw [h11] at h10
      cases h10
     ·intro h
      obtain ⟨v, hv⟩ := Option.ne_none_iff_exists'.1 h
      exact List.mem_map.2 ⟨_, hall s (.int .i64 v) (by rw [hv]; rfl), rfl⟩
    have hdn : (ds.map (·.1)).Nodup := hI1.keys spot_key
    have hdl : ds.length ≤ l.length := by
     have h9 := spots_le hdn fun s hs => (hds s).1 hs
     rwa [List.length_map] at h9
    have hHG : HG.length ≤ l.length := by have := groups_le hH hHn; rw [List.length_map] at this; omega
    have hEG : EG.length ≤ l.length := by have := groups_le hE hEn; rw [List.length_map] at this; omega
    obtain ⟨fh, hmh, hfh⟩ := hH.map
    obtain ⟨fe, hme, hfe⟩ := hE.map
    clear hall
    obtain ⟨xh, hxh⟩ : ∃ x, l[0]? = some x := ⟨_, List.getElem?_eq_getElem (by omega)⟩
    refine TC.join (α := Nat) (fun y => [(0, .slice A0 l.length c0), (2, .pointer (some ⟨g2, 0, none⟩)), (6, .map (some gh)), (7, .map (some ge)), (12, .pointer (some ⟨y, 0, none⟩))]) (fun y => Pm w ([.blk y 36 [.int .i64 ((trcR xh).v), .int .u32 ((trcR xh).dst), .int .i64 ((trcR xh).proto), .int .i64 (endT l), .slice none 0 0, .slice none 0 0], .blk g4 91 [.int .i64 (endT l), .map (some ga), .map (some gs)], .blk g2 36 [.int .i64 0, .int .u32 0, .int .i64 0, .int .i64 0, .slice none 0 0, .slice none 0 0], .oth it oi1, .oth gh oh, .oth ge oe, .oth ga oa, .oth gs os] ++ segG 3 1 (flat (ic .i64)) (HG.map (·.2) ++ EG.map (·.2)))) ?_ ?_
    ·refine TC.pre 3 9 6 (Pm w [.blk g4 91 [.int .i64 (endT l), .map (some ga), .map (some gs)]]) (by kernel_rfl) rfl (fun w hw => hw.drawn _) (by kernel_rfl) rfl (fun w1 hw => hw.pick [0] (by decide) rfl) ?_
     refine TV.val rfl rfl rfl (gives_move rfl rfl) ?_
     have hi89 : 0 < l.length := by omega
     obtain ⟨x89, hx89⟩ : ∃ x89, l[0]? = some x89 := ⟨_, List.getElem?_eq_getElem hi89⟩
     obtain ⟨b89, o89, hA89, hbb89, hc89⟩ := hr.ad (by omega) (by decide)
     refine TV.val rfl rfl rfl (gives_at (v := .pointer (some ⟨b89, o89 + 0 * 17, none⟩)) rfl rfl rfl (fun w => at_el Tryz.underlying26 prssz47 hA89 _ _ 0 (by omega) rfl w)) ?_
     refine TV.val rfl rfl rfl (gives_loadR (off := o89 + 0 * 17) rfl rfl prsag47 prssz47 (rs_cel.len x89) (fun w1 hw j9 u9 h9 => (hw.bel.cell hbb89).trans <| flat_cell rs_cel hx89 hc89 j9 u9 h9)) ?_
     refine TV.end_ (ls := #[Tt,Tt,Tt,Ff,Ff,Ff,Ff,Ff,Ff]) (by kernel_rfl) ?_
     refine TH.tk (listed' := #[Tt,Tt,Tt,Ff,Tt,Ff,Ff,Ff,Ff]) 4 rfl rfl rfl (gives_field (v := .pointer (some ⟨g4, 0, none⟩)) rfl rfl (fun w => plkfld91_0 _ _ w)) (fun w1 hw => hw.pick [0] (by decide) rfl) ?_
     refine TH.tk (listed' := #[Tt,Tt,Tt,Ff,Tt,Tt,Ff,Ff,Ff]) 5 rfl rfl rfl (pm_load (k := 0) (i := 0) rfl rfl pcmag3 rfl rfl) (fun w1 hw => hw.pick [0] (by decide) rfl) ?_
     refine TH.two' (listed1 := #[Tt,Tt,Tt,Tt,Tt,Tt,Ff,Ff,Ff]) (listed2 := #[Tt,Tt,Tt,Ff,Tt,Tt,Ff,Tt,Ff]) 3 7 rfl rfl (by kernel_rfl) rfl rfl ?_ ?_
     ·refine TL.pcall1 (r := .agg ((trcR x89).cells).toArray) rfl rfl rfl rfl rfl Tryz.func35 ptrnm35 ptrbd35 (fun w1 hw => trc_any x89 w1) ?_
      refine TL.end_ ?_
      refine TX.held (fun w1 hw => hw.pick [0] (by decide) rfl) ?_
      refine TH.tk (listed' := #[Tt,Tt,Tt,Tt,Tt,Tt,Tt,Ff,Ff]) 6 rfl rfl rfl (gives_build (v := .agg #[.int .i64 ((trcR x89).v), .int .u32 ((trcR x89).dst), .int .i64 ((trcR x89).proto), .int .i64 (endT l), .slice none 0 0, .slice none 0 0]) rfl rfl (fun w => pbdbld36_98406 _ _ _ _ w)) (fun w1 hw => hw.pick [0] (by decide) rfl) ?_
      refine TH.only' (listed' := #[Tt,Tt,Tt,Tt,Tt,Tt,Tt,Tt,Ff]) 7 rfl (by kernel_rfl) rfl ?_
      refine TL.pnew rfl rfl rfl (exec_alloc (cs := [.int .i64 0, .int .u32 0, .int .i64 0, .int .i64 0, .slice none 0 0, .slice none 0 0]) rfl pbdzv36 rfl) (fun g12 => ?_)
      refine TL.end_ ?_
      refine TX.held (fun w1 hw => hw.pick [1] (by decide) rfl) ?_
      refine TH.only' (listed' := #[Tt,Tt,Tt,Tt,Tt,Tt,Tt,Tt,Tt]) 8 rfl (by kernel_rfl) rfl ?_
      refine TL.pstore (k := 0) (vs := [.int .i64 ((trcR x89).v), .int .u32 ((trcR x89).dst), .int .i64 ((trcR x89).proto), .int .i64 (endT l), .slice none 0 0, .slice none 0 0]) rfl rfl rfl rfl rfl rfl rfl pbdsz36 pbdone_i64u32i64i64ss (by show 6 ≤ 6; decide) (L' := ([.blk g12 36 [.int .i64 ((trcR x89).v), .int .u32 ((trcR x89).dst), .int .i64 ((trcR x89).proto), .int .i64 (endT l), .slice none 0 0, .slice none 0 0], .blk g4 91 [.int .i64 (endT l), .map (some ga), .map (some gs)], .blk g2 36 [.int .i64 0, .int .u32 0, .int .i64 0, .int .i64 0, .slice none 0 0, .slice none 0 0], .oth it oi1, .oth gh oh, .oth ge oe, .oth ga oa, .oth gs os] ++ segG 3 1 (flat (ic .i64)) (HG.map (·.2) ++ EG.map (·.2)))) rfl ?_
      refine TL.end_ ?_
      refine TX.held (fun w1 hw => hw.pick [1] (by decide) rfl) ?_
      refine TH.done (by kernel_rfl) ?_
      obtain rfl : xh = x89 := Option.some.inj (hxh.symm.trans hx89)
      exact TX.joined (g12) (⟨rfl, rfl, rfl, rfl, rfl, trivial⟩) (fun w1 hw => hw)
     ·refine TL.pnew rfl rfl rfl (exec_alloc (cs := [.int .i64 0, .int .u32 0, .int .i64 0, .int .i64 0, .slice none 0 0, .slice none 0 0]) rfl pbdzv36 rfl) (fun g12 => ?_)
      refine TL.end_ ?_
      refine TX.held (fun w1 hw => hw.pick [1] (by decide) rfl) ?_
      refine TH.only' (listed' := #[Tt,Tt,Tt,Tt,Tt,Tt,Ff,Tt,Ff]) 3 rfl (by kernel_rfl) rfl ?_
      refine TL.pcall1 (r := .agg ((trcR x89).cells).toArray) rfl rfl rfl rfl rfl Tryz.func35 ptrnm35 ptrbd35 (fun w1 hw => trc_any x89 w1) ?_
      refine TL.end_ ?_
      refine TX.held (fun w1 hw => hw.pick [1] (by decide) rfl) ?_
      refine TH.tk (listed' := #[Tt,Tt,Tt,Tt,Tt,Tt,Tt,Tt,Ff]) 6 rfl rfl rfl (gives_build (v := .agg #[.int .i64 ((trcR x89).v), .int .u32 ((trcR x89).dst), .int .i64 ((trcR x89).proto), .int .i64 (endT l), .slice none 0 0, .slice none 0 0]) rfl rfl (fun w => pbdbld36_98406 _ _ _ _ w)) (fun w1 hw => hw.pick [1] (by decide) rfl) ?_
      refine TH.only' (listed' := #[Tt,Tt,Tt,Tt,Tt,Tt,Tt,Tt,Tt]) 8 rfl (by kernel_rfl) rfl ?_
      refine TL.pstore (k := 0) (vs := [.int .i64 ((trcR x89).v), .int .u32 ((trcR x89).dst), .int .i64 ((trcR x89).proto), .int .i64 (endT l), .slice none 0 0, .slice none 0 0]) rfl rfl rfl rfl rfl rfl rfl pbdsz36 pbdone_i64u32i64i64ss (by show 6 ≤ 6; decide) (L' := ([.blk g12 36 [.int .i64 ((trcR x89).v), .int .u32 ((trcR x89).dst), .int .i64 ((trcR x89).proto), .int .i64 (endT l), .slice none 0 0, .slice none 0 0], .blk g4 91 [.int .i64 (endT l), .map (some ga), .map (some gs)], .blk g2 36 [.int .i64 0, .int .u32 0, .int .i64 0, .int .i64 0, .slice none 0 0, .slice none 0 0], .oth it oi1, .oth gh oh, .oth ge oe, .oth ga oa, .oth gs os] ++ segG 3 1 (flat (ic .i64)) (HG.map (·.2) ++ EG.map (·.2)))) rfl ?_
      refine TL.end_ ?_
      refine TX.held (fun w1 hw => hw.pick [1] (by decide) rfl) ?_
      refine TH.done (by kernel_rfl) ?_
      obtain rfl : xh = x89 := Option.some.inj (hxh.symm.trans hx89)
      exact TX.joined (g12) (⟨rfl, rfl, rfl, rfl, rfl, trivial⟩) (fun w1 hw => hw)
    ·rintro g12
     refine TC.seq_ (TC.seq_ (TC.region ?_))
     refine TL.mv ?_
     refine TL.rangeM rfl rfl rfl rfl rfl Tryz.underlying94 (fun w1 hw => (hw.at_ (k := 4) rfl).1) hmh (fun it_h oi0h n_h hit_h hI0h => ?_)
     refine TL.end_ (TX.then_ (TC.block ?_))
     refine TC.nilrow 50 3 ?_
     refine TC.loop_ (α := {y : Obj × (Option Addr × Nat) × List Hpx × List (Place × Sg Int) × List (Place × Sg Int) // ItR (fun s : Place => Value.agg s.cells.toArray) Place.Ok gh oh y.1 fh n_h (y.2.2.2.1.map kvG) ∧ HG.Perm (y.2.2.2.1 ++ y.2.2.2.2) ∧ y.2.2.1 = y.2.2.2.1.map hopG ∧ y.2.2.1.length ≤ y.2.1.2 ∧ y.2.1.2 ≤ maxLen}) (fun y => [(0, .slice A0 l.length c0), (2, .pointer (some ⟨g2, 0, none⟩)), (6, .map (some gh)), (7, .map (some ge)), (12, .pointer (some ⟨g12, 0, none⟩)), (96, .pointer (some ⟨it_h, 0, none⟩))]) (fun y => Pm w ([.row (.slice y.1.2.1.1 y.1.2.2.1.length y.1.2.1.2) 50 3 y.1.2.2.1.length (flat Hpx.cells y.1.2.2.1), .oth it_h y.1.1, .blk g12 36 [.int .i64 ((trcR xh).v), .int .u32 ((trcR xh).dst), .int .i64 ((trcR xh).proto), .int .i64 (endT l), .slice y.1.2.1.1 y.1.2.2.1.length y.1.2.1.2, .slice none 0 0], .blk g4 91 [.int .i64 (endT l), .map (some ga), .map (some gs)], .blk g2 36 [.int .i64 0, .int .u32 0, .int .i64 0, .int .i64 0, .slice none 0 0, .slice none 0 0], .oth it oi1, .oth gh oh, .oth ge oe, .oth ga oa, .oth gs os] ++ segG 3 1 (flat (ic .i64)) (y.1.2.2.2.1.map (fun x => srtG x.2) ++ y.1.2.2.2.2.map (·.2) ++ EG.map (·.2)))) (fun y => n_h - y.1.2.2.2.1.length) (⟨(oi0h, (none, 0), [], [], HG), hI0h, List.Perm.refl _, rfl, Nat.le_refl _, Nat.zero_le _⟩) ⟨rfl, rfl, rfl, rfl, rfl, rfl, trivial⟩ (fun w1 hw => hw) ?_
     rintro ⟨⟨oi_h, ⟨A_h, c_h⟩, Hsh, Gdh, Glh⟩, hIh, hph, hHsh, hHshl, hHshm⟩
     dsimp only at hIh hph hHsh hHshl hHshm ⊢
     refine TC.seq_ (TC.region ?_)
     refine TL.nextM place_key (j := 1) rfl rfl rfl rfl rfl (fun w1 hw => (hw.at_ (k := 6) rfl).1) rfl hit_h hIh (fun hall => ?_) (fun p v oi_h2 hp hfp hnp hIh2 hlt => ?_)
     ·obtain rfl : Glh = [] := none_left hH.nd hph hfh hall
      have hHlh : Hsh.length ≤ 100000 := by have h9 := hph.length_eq; rw [List.length_append] at h9; rw [hHsh, List.length_map]; omega
      refine TL.ex ?_
      refine TL.end_ (TX.then_ (TC.seq_ (TC.condF rfl (TC.exit_ (TX.then_exit (TX.then_exit (TX.in_same (TX.then_ (TC.seq_ (TC.seq_ (TC.region ?_)))))))))))
      refine TL.mv ?_
      refine TL.rangeM rfl rfl rfl rfl rfl Tryz.underlying95 (fun w1 hw => (hw.at_ (k := 7) rfl).1) hme (fun it_e oi0e n_e hit_e hI0e => ?_)
      refine TL.end_ (TX.then_ (TC.block ?_))
      refine TC.nilrow 63 4 ?_
      refine TC.loop_ (α := {y : Obj × (Option Addr × Nat) × List Ed × List (Stp × Sg Int) × List (Stp × Sg Int) // ItR (fun s : Stp => Value.agg s.cells.toArray) Stp.Ok ge oe y.1 fe n_e (y.2.2.2.1.map kvG) ∧ EG.Perm (y.2.2.2.1 ++ y.2.2.2.2) ∧ y.2.2.1 = y.2.2.2.1.map edgG ∧ y.2.2.1.length ≤ y.2.1.2 ∧ y.2.1.2 ≤ maxLen}) (fun y => [(0, .slice A0 l.length c0), (2, .pointer (some ⟨g2, 0, none⟩)), (6, .map (some gh)), (7, .map (some ge)), (12, .pointer (some ⟨g12, 0, none⟩)), (116, .pointer (some ⟨it_e, 0, none⟩))]) (fun y => Pm w ([.row (.slice y.1.2.1.1 y.1.2.2.1.length y.1.2.1.2) 63 4 y.1.2.2.1.length (flat Ed.cells y.1.2.2.1), .oth it_e y.1.1, .row (.slice A_h Hsh.length c_h) 50 3 Hsh.length (flat Hpx.cells Hsh), .oth it_h oi_h, .blk g12 36 [.int .i64 ((trcR xh).v), .int .u32 ((trcR xh).dst), .int .i64 ((trcR xh).proto), .int .i64 (endT l), .slice A_h Hsh.length c_h, .slice y.1.2.1.1 y.1.2.2.1.length y.1.2.1.2], .blk g4 91 [.int .i64 (endT l), .map (some ga), .map (some gs)], .blk g2 36 [.int .i64 0, .int .u32 0, .int .i64 0, .int .i64 0, .slice none 0 0, .slice none 0 0], .oth it oi1, .oth gh oh, .oth ge oe, .oth ga oa, .oth gs os] ++ segG 3 1 (flat (ic .i64)) (y.1.2.2.2.1.map (fun x => srtG x.2) ++ y.1.2.2.2.2.map (·.2) ++ Gdh.map (fun x => srtG x.2)))) (fun y => n_e - y.1.2.2.2.1.length) (⟨(oi0e, (none, 0), [], [], EG), hI0e, List.Perm.refl _, rfl, Nat.le_refl _, Nat.zero_le _⟩) ⟨rfl, rfl, rfl, rfl, rfl, rfl, trivial⟩ (fun w1 hw => Pm.segQ (P := [.row (.slice none 0 0) 63 4 0 (flat Ed.cells ([])), .oth it_e oi0e, .row (.slice A_h Hsh.length c_h) 50 3 Hsh.length (flat Hpx.cells Hsh), .oth it_h oi_h, .blk g12 36 [.int .i64 ((trcR xh).v), .int .u32 ((trcR xh).dst), .int .i64 ((trcR xh).proto), .int .i64 (endT l), .slice A_h Hsh.length c_h, .slice none 0 0], .blk g4 91 [.int .i64 (endT l), .map (some ga), .map (some gs)], .blk g2 36 [.int .i64 0, .int .u32 0, .int .i64 0, .int .i64 0, .slice none 0 0, .slice none 0 0], .oth it oi1, .oth gh oh, .oth ge oe, .oth ga oa, .oth gs os]) hw perm_turn) ?_
      rintro ⟨⟨oi_e, ⟨A_e, c_e⟩, Hse, Gde, Gle⟩, hIe, hpe, hHse, hHsel, hHsem⟩
      dsimp only at hIe hpe hHse hHsel hHsem ⊢
      refine TC.seq_ (TC.region ?_)
      refine TL.nextM stp_key (j := 1) rfl rfl rfl rfl rfl (fun w1 hw => (hw.at_ (k := 9) rfl).1) rfl hit_e hIe (fun hall => ?_) (fun p v oi_e2 hp hfp hnp hIe2 hlt => ?_)
      ·obtain rfl : Gle = [] := none_left hE.nd hpe hfe hall
       have hHle : Hse.length ≤ 100000 := by have h9 := hpe.length_eq; rw [List.length_append] at h9; rw [hHse, List.length_map]; omega
       refine TL.ex ?_
       refine TL.end_ (TX.then_ (TC.seq_ (TC.condF rfl (TC.exit_ (TX.then_exit (TX.then_exit (TX.in_same (TX.then_ (TC.seq_ (TC.region ?_))))))))))
       refine TL.val rfl rfl rfl (gives_field (v := .pointer (some ⟨g12, 4, none⟩)) rfl rfl (fun w => pbdfld36_2 _ _ w)) ?_
       refine TL.val rfl rfl rfl (pm_load (k := 4) (i := 4) rfl rfl pbdag33 rfl rfl) ?_
       refine TL.turnRowD (k := 2) (fun ys => Sorted cmpH Hsh ys) rfl rfl rfl rfl rfl Tryz.func62 pbdnm62 pbdbd62 rfl (fun w1 hw hr9 => sortHpx hr9 (rfl) (by omega)) (fun srt139 hS139 => ?_)
       try dsimp only [List.set_cons_zero, List.set_cons_succ]
       refine TL.end_ (TX.then_ (TC.seq_ (TC.region ?_)))
       refine TL.val rfl rfl rfl (gives_field (v := .pointer (some ⟨g12, 5, none⟩)) rfl rfl (fun w => pbdfld36_3 _ _ w)) ?_
       refine TL.val rfl rfl rfl (pm_load (k := 4) (i := 5) rfl rfl pbdag34 rfl rfl) ?_
       refine TL.turnRowD (k := 0) (fun ys => Sorted cmpE Hse ys) rfl rfl rfl rfl rfl Tryz.func67 pbdnm67 pbdbd67 rfl (fun w1 hw hr9 => sortEd hr9 (rfl) (by omega)) (fun srt142 hS142 => ?_)
       try dsimp only [List.set_cons_zero, List.set_cons_succ]
       refine TL.end_ (TX.then_ (TC.seq_ (TC.region ?_)))
       refine TL.val rfl rfl rfl (pm_loadV (k := 4) (i := 0) (n := 6) (v := .agg #[.int .i64 ((trcR xh).v), .int .u32 ((trcR xh).dst), .int .i64 ((trcR xh).proto), .int .i64 (endT l), .slice A_h Hsh.length c_h, .slice A_e Hse.length c_e]) rfl rfl pbdag36 pbdsz36 rfl (by show 6 ≤ 6; decide) rfl) ?_
       refine TL.pstore (k := 6) (vs := [.int .i64 ((trcR xh).v), .int .u32 ((trcR xh).dst), .int .i64 ((trcR xh).proto), .int .i64 (endT l), .slice A_h Hsh.length c_h, .slice A_e Hse.length c_e]) rfl rfl rfl rfl rfl rfl rfl pbdsz36 pbdone_i64u32i64i64ss (by show 6 ≤ 6; decide) (L' := ([.row (.slice A_e Hse.length c_e) 63 4 Hse.length (flat Ed.cells srt142), .oth it_e oi_e, .row (.slice A_h Hsh.length c_h) 50 3 Hsh.length (flat Hpx.cells srt139), .oth it_h oi_h, .blk g12 36 [.int .i64 ((trcR xh).v), .int .u32 ((trcR xh).dst), .int .i64 ((trcR xh).proto), .int .i64 (endT l), .slice A_h Hsh.length c_h, .slice A_e Hse.length c_e], .blk g4 91 [.int .i64 (endT l), .map (some ga), .map (some gs)], .blk g2 36 [.int .i64 ((trcR xh).v), .int .u32 ((trcR xh).dst), .int .i64 ((trcR xh).proto), .int .i64 (endT l), .slice A_h Hsh.length c_h, .slice A_e Hse.length c_e], .oth it oi1, .oth gh oh, .oth ge oe, .oth ga oa, .oth gs os] ++ segG 3 1 (flat (ic .i64)) (Gde.map (fun x => srtG x.2) ++ ([] : List (Stp × Sg Int)).map (·.2) ++ Gdh.map (fun x => srtG x.2)))) rfl ?_
       refine TL.as_ ?_
       refine TL.end_ (TX.then_ (TC.ret_ ?_))
       have he0 : er = 0 := by omega
       rw [← hS139.1.length_eq, ← hS142.1.length_eq]
       have hB : BuildOk l (⟨trcR xh, endT l, ⟨A_h, c_h, srt139⟩, ⟨A_e, c_e, srt142⟩⟩ : Mp) 0 := ⟨he0 ▸ her, fun h => absurd h (by rintro (h | h); exact h rfl; rw [h] at hxh; cases hxh), fun _ _ => ⟨by rw [headD_at hxh], rfl, hops_ok hdn hds hH hHn hph hHsh hS139, edges_ok hdn hds hE hEn hpe hHse hS142⟩⟩
       exact ret_cell2 (k := 6) Tryz.results14 rfl rfl rfl Tryz.underlying36 rfl rfl (fun w1 hw => ⟨⟨((⟨trcR xh, endT l, ⟨A_h, c_h, srt139⟩, ⟨A_e, c_e, srt142⟩⟩ : Mp), 0), hB⟩, rfl, Pm.segQ (P := [_, _]) (show Pm w ([_, _] ++ segG 3 1 (flat (ic .i64)) _) w1 from hw.pickT 12 [2, 0] (by decide) (by decide) rfl rfl) (fl_perm hS139.1 hS142.1 hHsh hHse)⟩)
      ·obtain ⟨s, hsm, rfl⟩ := mapSG_val hfe hfp
       have hGl1 := left_of hpe hnp hsm
       obtain ⟨k, hk⟩ := List.getElem?_of_mem hGl1
       have hsl : s.l.length ≤ 100000 := by have h8 := hE.sp p; rw [getS_mem hE.nd hsm] at h8; rw [h8]; exact Nat.le_trans (grp_len _ _ _) (by rw [List.length_map]; omega)
       rw [List.length_map] at hlt
       have hHl : Hse.length ≤ 100000 := by have h9 := hpe.length_eq; rw [List.length_append] at h9; rw [hHse, List.length_map]; omega
       try dsimp only [List.set_cons_zero, List.set_cons_succ]
       refine TL.ex ?_
       refine TL.end_ (TX.then_ (TC.seq_ (TC.condT rfl (TC.skip_ (TX.then_ (TC.block (TC.seq_ (TC.region ?_))))))))
       refine TL.val rfl rfl rfl (gives_entryM (j := 1) rfl rfl (fun w1 hw => (hw.at_ (k := 9) rfl).1) rfl hIe2) ?_
       refine TL.ex ?_
       refine TL.ex ?_
       refine TL.pnew rfl rfl rfl (exec_alloc (cs := [.int .i64 0, .int .u32 0, .int .u32 0]) rfl pbdzv102 rfl) (fun g15 => ?_)
       refine TL.pstore (k := 0) (vs := p.cells) rfl rfl rfl rfl rfl rfl rfl pbdsz102 (stp_cel.one _) (by show 3 ≤ 3; decide) (L' := ([.blk g15 102 p.cells, .row (.slice A_e Hse.length c_e) 63 4 Hse.length (flat Ed.cells Hse), .oth it_e oi_e2, .row (.slice A_h Hsh.length c_h) 50 3 Hsh.length (flat Hpx.cells Hsh), .oth it_h oi_h, .blk g12 36 [.int .i64 ((trcR xh).v), .int .u32 ((trcR xh).dst), .int .i64 ((trcR xh).proto), .int .i64 (endT l), .slice A_h Hsh.length c_h, .slice A_e Hse.length c_e], .blk g4 91 [.int .i64 (endT l), .map (some ga), .map (some gs)], .blk g2 36 [.int .i64 0, .int .u32 0, .int .i64 0, .int .i64 0, .slice none 0 0, .slice none 0 0], .oth it oi1, .oth gh oh, .oth ge oe, .oth ga oa, .oth gs os] ++ segG 3 1 (flat (ic .i64)) (Gde.map (fun x => srtG x.2) ++ Gle.map (·.2) ++ Gdh.map (fun x => srtG x.2)))) rfl ?_
       refine TL.as_ ?_
       refine TL.end_ (TX.then_ (TC.seq_ ?_))
       refine TC.mem (fun w1 hw => Pm.segOut (P := _) hw (app_next hk)) ?_
       refine TC.region ?_
       refine TL.mv ?_
       refine TL.turnRowD (k := 0) (fun ys => SortedI s.l ys) rfl rfl rfl rfl rfl Tryz.func61 pbdnm61 pbdbd61 rfl (fun w1 hw hr9 => sortInt hr9 rfl (by omega)) (fun srt hS123 => ?_)
       try dsimp only [List.set_cons_zero, List.set_cons_succ]
       obtain rfl := hS123.eq
       rw [← srt_len s.l]
       refine TL.end_ (TX.then_ (TC.region ?_))
       refine TL.val rfl rfl rfl (gives_field (v := .pointer (some ⟨g12, 5, none⟩)) rfl rfl (fun w => pbdfld36_3 _ _ w)) ?_
       refine TL.val rfl rfl rfl (pm_load (k := 6) (i := 5) rfl rfl pbdag34 rfl rfl) ?_
       refine TL.val rfl rfl rfl (gives_field (v := .pointer (some ⟨g15, 0, none⟩)) rfl rfl (fun w => pbdfld102_0 _ _ w)) ?_
       refine TL.val rfl rfl rfl (pm_load (k := 1) (i := 0) rfl rfl pcmag3 rfl rfl) ?_
       refine TL.val rfl rfl rfl (gives_field (v := .pointer (some ⟨g15, 1, none⟩)) rfl rfl (fun w => pbdfld102_1 _ _ w)) ?_
       refine TL.val rfl rfl rfl (pm_load (k := 1) (i := 1) rfl rfl pcmag30 rfl rfl) ?_
       refine TL.val rfl rfl rfl (gives_field (v := .pointer (some ⟨g15, 2, none⟩)) rfl rfl (fun w => pbdfld102_2 _ _ w)) ?_
       refine TL.val rfl rfl rfl (pm_load (k := 1) (i := 2) rfl rfl pcmag30 rfl rfl) ?_
       refine TL.mv ?_
       refine TL.val rfl rfl rfl (gives_build (v := .agg ((edgG (p, s)).cells).toArray) rfl rfl (fun w => pbdbld63_39859 _ _ _ _ _ _ w)) ?_
       refine TL.prowS (e := 63) (size := 4) (cs := flat Ed.cells [edgG (p, s)]) rfl rfl rfl rfl rfl (fun w => pbdbs34_1_7406 _ _ _ _ _ _ w) (by decide) rfl (fun g134 => ?_)
       refine TL.appendT (k := 3) rfl rfl rfl rfl Tryz.underlying34 pbdel34 rfl rfl rfl (fun w1 hw => pm_reads hw (k := 0) rfl) (flat_one ed_cel _) (by show _ * 40 ≤ _; omega) ((Hse ++ [edgG (p, s)]).length) (by rw [List.length_append]; rfl) (flat Ed.cells (Hse ++ [edgG (p, s)])) ((flat_app _ _).symm) (fun A135 c135 hA1351 hA1352 => ?_)
       refine TL.val rfl rfl rfl (gives_field (v := .pointer (some ⟨g12, 5, none⟩)) rfl rfl (fun w => pbdfld36_3 _ _ w)) ?_
       refine TL.pstore (k := 7) (vs := [.slice A135 ((Hse ++ [edgG (p, s)]).length) c135]) rfl rfl rfl rfl rfl rfl rfl pbdsz34 pbdone_s (by show 6 ≤ 6; decide) (L' := ([.row (.slice (some ⟨g134, 0, none⟩) 1 1) 63 4 1 (flat Ed.cells [edgG (p, s)]), .row (.slice s.A ((srtI s.l).length) s.c) 3 1 ((srtI s.l).length) (flat (ic .i64) (srtI s.l)), .blk g15 102 p.cells, .row (.slice A135 ((Hse ++ [edgG (p, s)]).length) c135) 63 4 ((Hse ++ [edgG (p, s)]).length) (flat Ed.cells (Hse ++ [edgG (p, s)])), .oth it_e oi_e2, .row (.slice A_h Hsh.length c_h) 50 3 Hsh.length (flat Hpx.cells Hsh), .oth it_h oi_h, .blk g12 36 [.int .i64 ((trcR xh).v), .int .u32 ((trcR xh).dst), .int .i64 ((trcR xh).proto), .int .i64 (endT l), .slice A_h Hsh.length c_h, .slice A135 ((Hse ++ [edgG (p, s)]).length) c135], .blk g4 91 [.int .i64 (endT l), .map (some ga), .map (some gs)], .blk g2 36 [.int .i64 0, .int .u32 0, .int .i64 0, .int .i64 0, .slice none 0 0, .slice none 0 0], .oth it oi1, .oth gh oh, .oth ge oe, .oth ga oa, .oth gs os] ++ segG 3 1 (flat (ic .i64)) ((Gde.map (fun x => srtG x.2) ++ Gle.map (·.2) ++ Gdh.map (fun x => srtG x.2)).eraseIdx (Gde.length + k)))) rfl ?_
       refine TL.end_ (TX.in_normal ?_)
       exact TX.round (⟨(oi_e2, (A135, c135), Hse ++ [edgG (p, s)], Gde ++ [(p, s)], Gle.eraseIdx k), by rw [List.map_append]; exact hIe2, next_perm hpe hk, by show _ ++ _ = _; rw [hHse, List.map_append]; rfl, hA1351, hA1352⟩) (by show n_e - (Gde ++ [(p, s)]).length < n_e - Gde.length; rw [List.length_append]; show n_e - (Gde.length + 1) < _; omega) ⟨rfl, rfl, rfl, rfl, rfl, rfl, trivial⟩ (fun w1 hw => Pm.segP (P := _) (s := (srtG s)) (hw.sel (.cons _ (.cons_cons _ (.cons _ (.cons_cons _ (.cons_cons _ (.cons_cons _ (.cons_cons _ (.cons_cons _ (.cons_cons _ (.cons_cons _ (.cons_cons _ (.cons_cons _ (.cons_cons _ (.cons_cons _ (.cons_cons _ (List.Sublist.refl _))))))))))))))))) (perm_next (Gd := Gde) (E := Gdh.map (fun x => srtG x.2)) (f := fun x => srtG x.2) hk))
     ·obtain ⟨s, hsm, rfl⟩ := mapSG_val hfh hfp
      have hGl1 := left_of hph hnp hsm
      obtain ⟨k, hk⟩ := List.getElem?_of_mem hGl1
      have hsl : s.l.length ≤ 100000 := by have h8 := hH.sp p; rw [getS_mem hH.nd hsm] at h8; rw [h8]; exact Nat.le_trans (grp_len _ _ _) (by rw [List.length_map]; omega)
      rw [List.length_map] at hlt
      have hHl : Hsh.length ≤ 100000 := by have h9 := hph.length_eq; rw [List.length_append] at h9; rw [hHsh, List.length_map]; omega
      try dsimp only [List.set_cons_zero, List.set_cons_succ]
      refine TL.ex ?_
      refine TL.end_ (TX.then_ (TC.seq_ (TC.condT rfl (TC.skip_ (TX.then_ (TC.block (TC.seq_ (TC.region ?_))))))))
      refine TL.val rfl rfl rfl (gives_entryM (j := 1) rfl rfl (fun w1 hw => (hw.at_ (k := 6) rfl).1) rfl hIh2) ?_
      refine TL.ex ?_
      refine TL.ex ?_
      refine TL.pnew rfl rfl rfl (exec_alloc (cs := [.int .i64 0, .int .u32 0]) rfl pbdzv99 rfl) (fun g13 => ?_)
      refine TL.pstore (k := 0) (vs := p.cells) rfl rfl rfl rfl rfl rfl rfl pbdsz99 (place_cel.one _) (by show 2 ≤ 2; decide) (L' := ([.blk g13 99 p.cells, .row (.slice A_h Hsh.length c_h) 50 3 Hsh.length (flat Hpx.cells Hsh), .oth it_h oi_h2, .blk g12 36 [.int .i64 ((trcR xh).v), .int .u32 ((trcR xh).dst), .int .i64 ((trcR xh).proto), .int .i64 (endT l), .slice A_h Hsh.length c_h, .slice none 0 0], .blk g4 91 [.int .i64 (endT l), .map (some ga), .map (some gs)], .blk g2 36 [.int .i64 0, .int .u32 0, .int .i64 0, .int .i64 0, .slice none 0 0, .slice none 0 0], .oth it oi1, .oth gh oh, .oth ge oe, .oth ga oa, .oth gs os] ++ segG 3 1 (flat (ic .i64)) (Gdh.map (fun x => srtG x.2) ++ Glh.map (·.2) ++ EG.map (·.2)))) rfl ?_
      refine TL.as_ ?_
      refine TL.end_ (TX.then_ (TC.seq_ ?_))
      refine TC.mem (fun w1 hw => Pm.segOut (P := _) hw (app_next hk)) ?_
      refine TC.region ?_
      refine TL.mv ?_
      refine TL.turnRowD (k := 0) (fun ys => SortedI s.l ys) rfl rfl rfl rfl rfl Tryz.func61 pbdnm61 pbdbd61 rfl (fun w1 hw hr9 => sortInt hr9 rfl (by omega)) (fun srt hS103 => ?_)
      try dsimp only [List.set_cons_zero, List.set_cons_succ]
      obtain rfl := hS103.eq
      rw [← srt_len s.l]
      refine TL.end_ (TX.then_ (TC.region ?_))
      refine TL.val rfl rfl rfl (gives_field (v := .pointer (some ⟨g12, 4, none⟩)) rfl rfl (fun w => pbdfld36_2 _ _ w)) ?_
      refine TL.val rfl rfl rfl (pm_load (k := 4) (i := 4) rfl rfl pbdag33 rfl rfl) ?_
      refine TL.val rfl rfl rfl (gives_field (v := .pointer (some ⟨g13, 0, none⟩)) rfl rfl (fun w => pbdfld99_0 _ _ w)) ?_
      refine TL.val rfl rfl rfl (pm_load (k := 1) (i := 0) rfl rfl pcmag3 rfl rfl) ?_
      refine TL.val rfl rfl rfl (gives_field (v := .pointer (some ⟨g13, 1, none⟩)) rfl rfl (fun w => pbdfld99_1 _ _ w)) ?_
      refine TL.val rfl rfl rfl (pm_load (k := 1) (i := 1) rfl rfl pcmag30 rfl rfl) ?_
      refine TL.mv ?_
      refine TL.val rfl rfl rfl (gives_build (v := .agg ((hopG (p, s)).cells).toArray) rfl rfl (fun w => pbdbld50_71348 _ _ _ _ _ w)) ?_
      refine TL.prowS (e := 50) (size := 3) (cs := flat Hpx.cells [hopG (p, s)]) rfl rfl rfl rfl rfl (fun w => pbdbs33_1_48232 _ _ _ _ _ w) (by decide) rfl (fun g112 => ?_)
      refine TL.appendT (k := 3) rfl rfl rfl rfl Tryz.underlying33 pbdel33 rfl rfl rfl (fun w1 hw => pm_reads hw (k := 0) rfl) (flat_one hp_cel _) (by show _ * 40 ≤ _; omega) ((Hsh ++ [hopG (p, s)]).length) (by rw [List.length_append]; rfl) (flat Hpx.cells (Hsh ++ [hopG (p, s)])) ((flat_app _ _).symm) (fun A113 c113 hA1131 hA1132 => ?_)
      refine TL.val rfl rfl rfl (gives_field (v := .pointer (some ⟨g12, 4, none⟩)) rfl rfl (fun w => pbdfld36_2 _ _ w)) ?_
      refine TL.pstore (k := 5) (vs := [.slice A113 ((Hsh ++ [hopG (p, s)]).length) c113]) rfl rfl rfl rfl rfl rfl rfl pbdsz33 pbdone_s (by show 5 ≤ 6; decide) (L' := ([.row (.slice (some ⟨g112, 0, none⟩) 1 1) 50 3 1 (flat Hpx.cells [hopG (p, s)]), .row (.slice s.A ((srtI s.l).length) s.c) 3 1 ((srtI s.l).length) (flat (ic .i64) (srtI s.l)), .blk g13 99 p.cells, .row (.slice A113 ((Hsh ++ [hopG (p, s)]).length) c113) 50 3 ((Hsh ++ [hopG (p, s)]).length) (flat Hpx.cells (Hsh ++ [hopG (p, s)])), .oth it_h oi_h2, .blk g12 36 [.int .i64 ((trcR xh).v), .int .u32 ((trcR xh).dst), .int .i64 ((trcR xh).proto), .int .i64 (endT l), .slice A113 ((Hsh ++ [hopG (p, s)]).length) c113, .slice none 0 0], .blk g4 91 [.int .i64 (endT l), .map (some ga), .map (some gs)], .blk g2 36 [.int .i64 0, .int .u32 0, .int .i64 0, .int .i64 0, .slice none 0 0, .slice none 0 0], .oth it oi1, .oth gh oh, .oth ge oe, .oth ga oa, .oth gs os] ++ segG 3 1 (flat (ic .i64)) ((Gdh.map (fun x => srtG x.2) ++ Glh.map (·.2) ++ EG.map (·.2)).eraseIdx (Gdh.length + k)))) rfl ?_
      refine TL.end_ (TX.in_normal ?_)
      exact TX.round (⟨(oi_h2, (A113, c113), Hsh ++ [hopG (p, s)], Gdh ++ [(p, s)], Glh.eraseIdx k), by rw [List.map_append]; exact hIh2, next_perm hph hk, by show _ ++ _ = _; rw [hHsh, List.map_append]; rfl, hA1131, hA1132⟩) (by show n_h - (Gdh ++ [(p, s)]).length < n_h - Gdh.length; rw [List.length_append]; show n_h - (Gdh.length + 1) < _; omega) ⟨rfl, rfl, rfl, rfl, rfl, rfl, trivial⟩ (fun w1 hw => Pm.segP (P := _) (s := (srtG s)) (hw.sel (.cons _ (.cons_cons _ (.cons _ (.cons_cons _ (.cons_cons _ (.cons_cons _ (.cons_cons _ (.cons_cons _ (.cons_cons _ (.cons_cons _ (.cons_cons _ (.cons_cons _ (.cons_cons _ (List.Sublist.refl _))))))))))))))) (perm_next (Gd := Gdh) (E := EG.map (·.2)) (f := fun x => srtG x.2) hk))
   ·obtain ⟨kv, hfs, rfl⟩ := map_some hfa
    have hkn : (lookS l).2 a ≠ none := by rw [hfs]; exact fun h => by cases h
    have hkr := known_rng hkn
    have hdl : ds.length ≤ l.length := by
     have h9 := spots_le (l := l) (D := ds.map (·.1)) (hI1.keys spot_key) fun s hs => by
      obtain ⟨p, hp, hps⟩ := List.mem_map.1 hs
      have h10 := (hI1.ok p hp).2
      rw [hps] at h10
      intro h11
      rw [h11] at h10
      cases h10
     rwa [List.length_map] at h9
    have har := lookS_rng hok a
    have har2 := lookS_rng hok (⟨a.flow, a.ttl + 1⟩ : Spot)
    have hpk : (⟨a.ttl, ((lookS l).1 a).getD 0⟩ : Place).Ok := ⟨ha.2, wfA har⟩
    have hsk : (⟨a.ttl, ((lookS l).1 a).getD 0, ((lookS l).1 (⟨a.flow, a.ttl + 1⟩ : Spot)).getD 0⟩ : Stp).Ok := ⟨ha.2, wfA har, wfA har2⟩
    have hnk : (⟨a.flow, a.ttl + 1⟩ : Spot).Ok := ⟨ha.1, wfI (by show -1000000 ≤ a.ttl + 1 ∧ a.ttl + 1 ≤ 1000000; omega)⟩
    try dsimp only [List.set_cons_zero, List.set_cons_succ]
    refine TL.ex ?_
    refine TL.end_ (TX.then_ (TC.seq_ (TC.condT rfl (TC.skip_ (TX.then_ (TC.block (TC.seq_ (TC.region ?_))))))))
    refine TL.val rfl rfl rfl (gives_entryM (j := 2) rfl rfl (fun w1 hw => (hw.at_ (k := 6) rfl).1) rfl hI2) ?_
    refine TL.ex ?_
    refine TL.pnew rfl rfl rfl (exec_alloc (cs := [.int .i64 0, .int .i64 0]) rfl plkzv97 rfl) (fun g8 => ?_)
    refine TL.pstore (k := 0) (vs := a.cells) rfl rfl rfl rfl rfl rfl rfl plksz97 (spot_cel.one _) (by show 2 ≤ 2; decide) (L' := ([.blk g8 97 a.cells, .blk g4 91 [.int .i64 (endT l), .map (some ga), .map (some gs)], .blk g2 36 [.int .i64 0, .int .u32 0, .int .i64 0, .int .i64 0, .slice none 0 0, .slice none 0 0], .oth it oi2, .oth gh oh, .oth ge oe, .oth ga oa, .oth gs os] ++ segG 3 1 (flat (ic .i64)) (HG.map (·.2) ++ EG.map (·.2)))) rfl ?_
    refine TL.end_ (TX.then_ (TC.seq_ ?_))
    refine TC.pre 7 9 2 (Pm w [.blk g8 97 a.cells, .blk g4 91 [.int .i64 (endT l), .map (some ga), .map (some gs)], .oth ga oa]) (by kernel_rfl) rfl (fun w hw => hw.drawn _) (by kernel_rfl) rfl (fun w1 hw => hw.pick [0, 1, 6] (by decide) rfl) ?_
    refine TV.val rfl rfl rfl (gives_field (v := .pointer (some ⟨g8, 1, none⟩)) rfl rfl (fun w => pbdfld97_1 _ _ w)) ?_
    refine TV.val rfl rfl rfl (pm_load (k := 0) (i := 1) rfl rfl pcmag3 rfl rfl) ?_
    refine TV.val rfl rfl rfl (gives_field (v := .pointer (some ⟨g4, 1, none⟩)) rfl rfl (fun w => plkfld91_1 _ _ w)) ?_
    refine TV.val rfl rfl rfl (pm_load (k := 1) (i := 1) rfl rfl plkag88 rfl rfl) ?_
    refine TV.val rfl rfl rfl (pm_loadV (k := 0) (i := 0) (n := 2) (v := .agg (a.cells).toArray) rfl rfl plkag97 plksz97 rfl (by show 2 ≤ 2; decide) rfl) ?_
    refine TV.val rfl rfl rfl (gives_lookG (a := a) (v := .int .u32 (((lookS l).1 a).getD 0)) rfl rfl rfl spot_key Tryz.underlying88 (fun w => rfl) (i := 2) rfl hma.toG (ha) (by cases h9 : (lookS l).1 a <;> rfl)) ?_
    refine TV.val rfl rfl rfl (gives_build (v := .agg #[.int .i64 a.ttl, .int .u32 (((lookS l).1 a).getD 0)]) rfl rfl (fun w => pbdbld99_27270 _ _ w)) ?_
    refine TV.end_ (ls := #[Tt,Tt,Tt,Tt,Tt,Tt,Tt,Ff,Ff]) (by kernel_rfl) ?_
    refine TH.only' (listed' := #[Tt,Tt,Tt,Tt,Tt,Tt,Tt,Tt,Ff]) 7 rfl (by kernel_rfl) rfl ?_
    refine TL.pnew rfl rfl rfl (exec_alloc (cs := [.int .i64 0, .int .u32 0]) rfl pbdzv99 rfl) (fun g9 => ?_)
    refine TL.end_ ?_
    refine TX.held (fun w1 hw => hw.pick [1, 2, 7] (by decide) rfl) ?_
    refine TH.only' (listed' := #[Tt,Tt,Tt,Tt,Tt,Tt,Tt,Tt,Tt]) 8 rfl (by kernel_rfl) rfl ?_
    refine TL.pstore (k := 0) (vs := [.int .i64 a.ttl, .int .u32 (((lookS l).1 a).getD 0)]) rfl rfl rfl rfl rfl rfl rfl pbdsz99 pbdone_i64u32 (by show 2 ≤ 2; decide) (L' := ([.blk g9 99 [.int .i64 a.ttl, .int .u32 (((lookS l).1 a).getD 0)], .blk g8 97 a.cells, .blk g4 91 [.int .i64 (endT l), .map (some ga), .map (some gs)], .blk g2 36 [.int .i64 0, .int .u32 0, .int .i64 0, .int .i64 0, .slice none 0 0, .slice none 0 0], .oth it oi2, .oth gh oh, .oth ge oe, .oth ga oa, .oth gs os] ++ segG 3 1 (flat (ic .i64)) (HG.map (·.2) ++ EG.map (·.2)))) rfl ?_
    refine TL.end_ ?_
    refine TX.held (fun w1 hw => hw.pick [1, 2, 7] (by decide) rfl) ?_
    refine TH.done (by kernel_rfl) ?_
    refine TX.then_ ?_
    refine TC.join (α := {y : Obj × List (Place × Sg Int) // MapSG (fun s : Place => Value.agg s.cells.toArray) Place.Ok y.1 y.2 (addS (grp (placeK (lookS l).1) (ds.map (·.1))) (⟨a.ttl, ((lookS l).1 a).getD 0⟩ : Place) a.flow) ∧ ∀ x ∈ y.2, x.2.l ≠ []}) (fun y => [(0, .slice A0 l.length c0), (2, .pointer (some ⟨g2, 0, none⟩)), (4, .pointer (some ⟨g4, 0, none⟩)), (6, .map (some gh)), (7, .map (some ge)), (35, .pointer (some ⟨it, 0, none⟩)), (8, .pointer (some ⟨g8, 0, none⟩)), (9, .pointer (some ⟨g9, 0, none⟩))]) (fun y => Pm w ([.blk g9 99 [.int .i64 a.ttl, .int .u32 (((lookS l).1 a).getD 0)], .blk g8 97 a.cells, .blk g4 91 [.int .i64 (endT l), .map (some ga), .map (some gs)], .blk g2 36 [.int .i64 0, .int .u32 0, .int .i64 0, .int .i64 0, .slice none 0 0, .slice none 0 0], .oth it oi2, .oth gh y.1.1, .oth ge oe, .oth ga oa, .oth gs os] ++ segG 3 1 (flat (ic .i64)) (y.1.2.map (·.2) ++ EG.map (·.2)))) ?_ ?_
    ·obtain ⟨fh, hmh, hfh⟩ := hH.map
     rcases hfi : HG.find? (fun p => decide (p.1 = (⟨a.ttl, ((lookS l).1 a).getD 0⟩ : Place))) with _ | pk
     ·refine TC.region ?_
      refine TL.mv ?_
      refine TL.val rfl rfl rfl (pm_loadV (k := 0) (i := 0) (n := 2) (v := .agg #[.int .i64 a.ttl, .int .u32 (((lookS l).1 a).getD 0)]) rfl rfl pbdag99 pbdsz99 rfl (by show 2 ≤ 2; decide) rfl) ?_
      refine TL.val rfl rfl rfl (gives_field (v := .pointer (some ⟨g8, 0, none⟩)) rfl rfl (fun w => pbdfld97_0 _ _ w)) ?_
      refine TL.val rfl rfl rfl (pm_load (k := 1) (i := 0) rfl rfl pcmag3 rfl rfl) ?_
      refine TL.prowS (e := 3) (size := 1) (cs := flat (ic .i64) [a.flow]) rfl rfl rfl rfl rfl (fun w => pbdbs48_1_5377 _ w) (by decide) rfl (fun g52 => ?_)
      refine TL.mapentry (i := 6) (a := (⟨a.ttl, ((lookS l).1 a).getD 0⟩ : Place)) rfl rfl rfl rfl rfl rfl place_key Tryz.underlying94 (fun w => rfl) rfl hgh hmh hpk (v := .slice none 0 0) (by rw [hfh, hfi]; rfl) (fun oh2 stp hmh2 hstp => ?_)
      try dsimp only [List.set_cons_zero, List.set_cons_succ]
      refine TL.ex ?_
      refine TL.nilrow 3 1 ?_
      refine TL.appendT (k := 0) rfl rfl rfl rfl Tryz.underlying48 pbdel48 rfl rfl rfl (fun w1 hw => pm_reads hw (k := 1) rfl) (flat_one (ic_cel .i64) _) (by show _ * 8 ≤ _; omega) (([a.flow]).length) (by simp) (flat (ic .i64) ([a.flow])) (rfl) (fun A54 c54 hA541 hA542 => ?_)
      refine TL.ex ?_
      refine TL.entrystore (i := 7) (a := (⟨a.ttl, ((lookS l).1 a).getD 0⟩ : Place)) (s := stp) rfl rfl rfl rfl rfl rfl place_key Tryz.underlying94 rfl hgh hmh2 hpk hstp (fun oh3 hmh3 => ?_)
      rw [upd_twice] at hmh3
      try dsimp only [List.set_cons_zero, List.set_cons_succ]
      refine TL.end_ ?_
      exact TX.joined (⟨(oh3, (HG ++ [((⟨a.ttl, ((lookS l).1 a).getD 0⟩ : Place), (⟨A54, c54, [a.flow]⟩ : Sg Int))])), hH.new hfi hfh hmh3, ne_new hHn (by simp)⟩) (⟨rfl, rfl, rfl, rfl, rfl, rfl, rfl, rfl, trivial⟩) (fun w1 hw => Pm.segP (P := _) (s := (⟨A54, c54, [a.flow]⟩ : Sg Int)) (hw.sel (.cons_cons _ (.cons _ (.cons_cons _ (.cons_cons _ (.cons_cons _ (.cons_cons _ (.cons_cons _ (.cons_cons _ (.cons_cons _ (.cons_cons _ (.cons_cons _ (List.Sublist.refl _))))))))))))) (perm_newL))
     ·obtain ⟨k, s, hks, rfl⟩ := find_at hfi
      have hsl : s.l.length ≤ 100000 := by have h8 := hH.sp (⟨a.ttl, ((lookS l).1 a).getD 0⟩ : Place); rw [getS_of hfi] at h8; rw [h8]; exact Nat.le_trans (grp_len _ _ _) (by rw [List.length_map]; omega)
      refine TC.mem (fun w1 hw => Pm.segOut (P := _) hw (app_l (map_at hks))) ?_
      refine TC.region ?_
      refine TL.mv ?_
      refine TL.val rfl rfl rfl (pm_loadV (k := 1) (i := 0) (n := 2) (v := .agg #[.int .i64 a.ttl, .int .u32 (((lookS l).1 a).getD 0)]) rfl rfl pbdag99 pbdsz99 rfl (by show 2 ≤ 2; decide) rfl) ?_
      refine TL.val rfl rfl rfl (gives_field (v := .pointer (some ⟨g8, 0, none⟩)) rfl rfl (fun w => pbdfld97_0 _ _ w)) ?_
      refine TL.val rfl rfl rfl (pm_load (k := 2) (i := 0) rfl rfl pcmag3 rfl rfl) ?_
      refine TL.prowS (e := 3) (size := 1) (cs := flat (ic .i64) [a.flow]) rfl rfl rfl rfl rfl (fun w => pbdbs48_1_5377 _ w) (by decide) rfl (fun g52 => ?_)
      refine TL.mapentry (i := 7) (a := (⟨a.ttl, ((lookS l).1 a).getD 0⟩ : Place)) rfl rfl rfl rfl rfl rfl place_key Tryz.underlying94 (fun w => rfl) rfl hgh hmh hpk (v := .slice s.A s.l.length s.c) (by rw [hfh, hfi]; rfl) (fun oh2 stp hmh2 hstp => ?_)
      try dsimp only [List.set_cons_zero, List.set_cons_succ]
      refine TL.ex ?_
      refine TL.appendT (k := 1) rfl rfl rfl rfl Tryz.underlying48 pbdel48 rfl rfl rfl (fun w1 hw => pm_reads hw (k := 0) rfl) (flat_one (ic_cel .i64) _) (by show _ * 8 ≤ _; omega) ((s.l ++ [a.flow]).length) (by rw [List.length_append]; rfl) (flat (ic .i64) (s.l ++ [a.flow])) ((flat_app _ _).symm) (fun A54 c54 hA541 hA542 => ?_)
      refine TL.ex ?_
      refine TL.entrystore (i := 7) (a := (⟨a.ttl, ((lookS l).1 a).getD 0⟩ : Place)) (s := stp) rfl rfl rfl rfl rfl rfl place_key Tryz.underlying94 rfl hgh hmh2 hpk hstp (fun oh3 hmh3 => ?_)
      rw [upd_twice] at hmh3
      try dsimp only [List.set_cons_zero, List.set_cons_succ]
      refine TL.end_ ?_
      exact TX.joined (⟨(oh3, (HG.set k ((⟨a.ttl, ((lookS l).1 a).getD 0⟩ : Place), (⟨A54, c54, s.l ++ [a.flow]⟩ : Sg Int)))), hH.old hfi hks hfh hmh3, ne_set hHn (by simp)⟩) (⟨rfl, rfl, rfl, rfl, rfl, rfl, rfl, rfl, trivial⟩) (fun w1 hw => Pm.segP (P := _) (s := (⟨A54, c54, s.l ++ [a.flow]⟩ : Sg Int)) (hw.sel (.cons _ (.cons_cons _ (.cons_cons _ (.cons_cons _ (.cons_cons _ (.cons_cons _ (.cons_cons _ (.cons_cons _ (.cons_cons _ (.cons_cons _ (.cons_cons _ (List.Sublist.refl _))))))))))))) (perm_oldL hks))
    ·rintro ⟨⟨oh1, HG1⟩, hH1, hHn1⟩
     dsimp only at hH1 hHn1 ⊢
     have hH1 : MapSG (fun s : Place => Value.agg s.cells.toArray) Place.Ok oh1 HG1 (grp (placeK (lookS l).1) ((ds ++ [(a, Value.int .i64 kv)]).map (·.1))) := by rw [List.map_append]; show MapSG _ _ _ _ (grp _ (_ ++ [a])); rw [grp_snoc (key := placeK (lookS l).1) (s := a) (p := (⟨a.ttl, ((lookS l).1 a).getD 0⟩ : Place)) rfl]; exact hH1
     refine TC.seq_ (TC.region ?_)
     refine TL.val rfl rfl rfl (gives_field (v := .pointer (some ⟨g8, 0, none⟩)) rfl rfl (fun w => pbdfld97_0 _ _ w)) ?_
     refine TL.val rfl rfl rfl (pm_load (k := 1) (i := 0) rfl rfl pcmag3 rfl rfl) ?_
     refine TL.val rfl rfl rfl (gives_field (v := .pointer (some ⟨g8, 1, none⟩)) rfl rfl (fun w => pbdfld97_1 _ _ w)) ?_
     refine TL.val rfl rfl rfl (pm_load (k := 1) (i := 1) rfl rfl pcmag3 rfl rfl) ?_
     refine TL.val rfl rfl rfl (gives_bin rfl rfl rfl (fun w => bin_add_ (r := a.ttl + 1) (by simp only [IntKind.wrap_i64]; omega) w)) ?_
     refine TL.val rfl rfl rfl (gives_build (v := .agg #[.int .i64 a.flow, .int .i64 (a.ttl + 1)]) rfl rfl (fun w => plkbld97_27266 _ _ w)) ?_
     refine TL.pnew rfl rfl rfl (exec_alloc (cs := [.int .i64 0, .int .i64 0]) rfl plkzv97 rfl) (fun g10 => ?_)
     refine TL.pstore (k := 0) (vs := [.int .i64 a.flow, .int .i64 (a.ttl + 1)]) rfl rfl rfl rfl rfl rfl rfl plksz97 plkone_i64i64 (by show 2 ≤ 2; decide) (L' := ([.blk g10 97 [.int .i64 a.flow, .int .i64 (a.ttl + 1)], .blk g9 99 [.int .i64 a.ttl, .int .u32 (((lookS l).1 a).getD 0)], .blk g8 97 a.cells, .blk g4 91 [.int .i64 (endT l), .map (some ga), .map (some gs)], .blk g2 36 [.int .i64 0, .int .u32 0, .int .i64 0, .int .i64 0, .slice none 0 0, .slice none 0 0], .oth it oi2, .oth gh oh1, .oth ge oe, .oth ga oa, .oth gs os] ++ segG 3 1 (flat (ic .i64)) (HG1.map (·.2) ++ EG.map (·.2)))) rfl ?_
     refine TL.end_ (TX.then_ (TC.seq_ (TC.region ?_)))
     refine TL.val rfl rfl rfl (pm_loadV (k := 3) (i := 0) (n := 3) (v := .agg #[.int .i64 (endT l), .map (some ga), .map (some gs)]) rfl rfl plkag91 plksz91 rfl (by show 3 ≤ 3; decide) rfl) ?_
     refine TL.val rfl rfl rfl (gives_field (v := .pointer (some ⟨g10, 0, none⟩)) rfl rfl (fun w => pbdfld97_0 _ _ w)) ?_
     refine TL.val rfl rfl rfl (pm_load (k := 0) (i := 0) rfl rfl pcmag3 rfl rfl) ?_
     refine TL.val rfl rfl rfl (gives_field (v := .pointer (some ⟨g10, 1, none⟩)) rfl rfl (fun w => pbdfld97_1 _ _ w)) ?_
     refine TL.val rfl rfl rfl (pm_load (k := 0) (i := 1) rfl rfl pcmag3 rfl rfl) ?_
     refine TL.callsplit rfl rfl rfl rfl rfl Tryz.func60 pbdnm60 pbdbd60 (fun w1 hw => has_any (endT l) ga gs os (lookS l).2 a.flow (a.ttl + 1) w1 (hw.at_ (k := 9) rfl).1 hms hnk) (fun h67 => ?_) (fun h67 => ?_)
     ·refine TL.end_ (TX.then_ (TC.condT rfl (TC.seq_ ?_)))
      refine TC.pre 11 13 2 (Pm w [.blk g10 97 [.int .i64 a.flow, .int .i64 (a.ttl + 1)], .blk g8 97 a.cells, .blk g4 91 [.int .i64 (endT l), .map (some ga), .map (some gs)], .oth ga oa]) (by kernel_rfl) rfl (fun w hw => hw.drawn _) (by kernel_rfl) rfl (fun w1 hw => hw.pick [0, 2, 3, 8] (by decide) rfl) ?_
      refine TV.val rfl rfl rfl (gives_field (v := .pointer (some ⟨g8, 1, none⟩)) rfl rfl (fun w => pbdfld97_1 _ _ w)) ?_
      refine TV.val rfl rfl rfl (pm_load (k := 1) (i := 1) rfl rfl pcmag3 rfl rfl) ?_
      refine TV.val rfl rfl rfl (gives_field (v := .pointer (some ⟨g4, 1, none⟩)) rfl rfl (fun w => plkfld91_1 _ _ w)) ?_
      refine TV.val rfl rfl rfl (pm_load (k := 2) (i := 1) rfl rfl plkag88 rfl rfl) ?_
      refine TV.val rfl rfl rfl (pm_loadV (k := 1) (i := 0) (n := 2) (v := .agg (a.cells).toArray) rfl rfl plkag97 plksz97 rfl (by show 2 ≤ 2; decide) rfl) ?_
      refine TV.val rfl rfl rfl (gives_lookG (a := a) (v := .int .u32 (((lookS l).1 a).getD 0)) rfl rfl rfl spot_key Tryz.underlying88 (fun w => rfl) (i := 3) rfl hma.toG (ha) (by cases h9 : (lookS l).1 a <;> rfl)) ?_
      refine TV.val rfl rfl rfl (gives_field (v := .pointer (some ⟨g4, 1, none⟩)) rfl rfl (fun w => plkfld91_1 _ _ w)) ?_
      refine TV.val rfl rfl rfl (pm_load (k := 2) (i := 1) rfl rfl plkag88 rfl rfl) ?_
      refine TV.val rfl rfl rfl (pm_loadV (k := 0) (i := 0) (n := 2) (v := .agg #[.int .i64 a.flow, .int .i64 (a.ttl + 1)]) rfl rfl plkag97 plksz97 rfl (by show 2 ≤ 2; decide) rfl) ?_
      refine TV.val rfl rfl rfl (gives_lookG (a := (⟨a.flow, a.ttl + 1⟩ : Spot)) (v := .int .u32 (((lookS l).1 (⟨a.flow, a.ttl + 1⟩ : Spot)).getD 0)) rfl rfl rfl spot_key Tryz.underlying88 (fun w => rfl) (i := 3) rfl hma.toG (hnk) (by cases h9 : (lookS l).1 (⟨a.flow, a.ttl + 1⟩ : Spot) <;> rfl)) ?_
      refine TV.val rfl rfl rfl (gives_build (v := .agg #[.int .i64 a.ttl, .int .u32 (((lookS l).1 a).getD 0), .int .u32 (((lookS l).1 (⟨a.flow, a.ttl + 1⟩ : Spot)).getD 0)]) rfl rfl (fun w => pbdbld102_60071 _ _ _ w)) ?_
      refine TV.end_ (ls := #[Tt,Tt,Tt,Tt,Tt,Tt,Tt,Tt,Tt,Tt,Tt,Ff,Ff]) (by kernel_rfl) ?_
      refine TH.only' (listed' := #[Tt,Tt,Tt,Tt,Tt,Tt,Tt,Tt,Tt,Tt,Tt,Tt,Ff]) 11 rfl (by kernel_rfl) rfl ?_
      refine TL.pnew rfl rfl rfl (exec_alloc (cs := [.int .i64 0, .int .u32 0, .int .u32 0]) rfl pbdzv102 rfl) (fun g11 => ?_)
      refine TL.end_ ?_
      refine TX.held (fun w1 hw => hw.pick [1, 3, 4, 9] (by decide) rfl) ?_
      refine TH.only' (listed' := #[Tt,Tt,Tt,Tt,Tt,Tt,Tt,Tt,Tt,Tt,Tt,Tt,Tt]) 12 rfl (by kernel_rfl) rfl ?_
      refine TL.pstore (k := 0) (vs := [.int .i64 a.ttl, .int .u32 (((lookS l).1 a).getD 0), .int .u32 (((lookS l).1 (⟨a.flow, a.ttl + 1⟩ : Spot)).getD 0)]) rfl rfl rfl rfl rfl rfl rfl pbdsz102 pbdone_i64u32u32 (by show 3 ≤ 3; decide) (L' := ([.blk g11 102 [.int .i64 a.ttl, .int .u32 (((lookS l).1 a).getD 0), .int .u32 (((lookS l).1 (⟨a.flow, a.ttl + 1⟩ : Spot)).getD 0)], .blk g10 97 [.int .i64 a.flow, .int .i64 (a.ttl + 1)], .blk g9 99 [.int .i64 a.ttl, .int .u32 (((lookS l).1 a).getD 0)], .blk g8 97 a.cells, .blk g4 91 [.int .i64 (endT l), .map (some ga), .map (some gs)], .blk g2 36 [.int .i64 0, .int .u32 0, .int .i64 0, .int .i64 0, .slice none 0 0, .slice none 0 0], .oth it oi2, .oth gh oh1, .oth ge oe, .oth ga oa, .oth gs os] ++ segG 3 1 (flat (ic .i64)) (HG1.map (·.2) ++ EG.map (·.2)))) rfl ?_
      refine TL.end_ ?_
      refine TX.held (fun w1 hw => hw.pick [1, 3, 4, 9] (by decide) rfl) ?_
      refine TH.done (by kernel_rfl) ?_
      refine TX.then_ ?_
      obtain ⟨fe, hme, hfe⟩ := hE.map
      rcases hfi : EG.find? (fun p => decide (p.1 = (⟨a.ttl, ((lookS l).1 a).getD 0, ((lookS l).1 (⟨a.flow, a.ttl + 1⟩ : Spot)).getD 0⟩ : Stp))) with _ | pk
      ·refine TC.region ?_
       refine TL.mv ?_
       refine TL.val rfl rfl rfl (pm_loadV (k := 0) (i := 0) (n := 3) (v := .agg #[.int .i64 a.ttl, .int .u32 (((lookS l).1 a).getD 0), .int .u32 (((lookS l).1 (⟨a.flow, a.ttl + 1⟩ : Spot)).getD 0)]) rfl rfl pbdag102 pbdsz102 rfl (by show 3 ≤ 3; decide) rfl) ?_
       refine TL.val rfl rfl rfl (gives_field (v := .pointer (some ⟨g8, 0, none⟩)) rfl rfl (fun w => pbdfld97_0 _ _ w)) ?_
       refine TL.val rfl rfl rfl (pm_load (k := 3) (i := 0) rfl rfl pcmag3 rfl rfl) ?_
       refine TL.prowS (e := 3) (size := 1) (cs := flat (ic .i64) [a.flow]) rfl rfl rfl rfl rfl (fun w => pbdbs48_1_5377 _ w) (by decide) rfl (fun g84 => ?_)
       refine TL.mapentry (i := 9) (a := (⟨a.ttl, ((lookS l).1 a).getD 0, ((lookS l).1 (⟨a.flow, a.ttl + 1⟩ : Spot)).getD 0⟩ : Stp)) rfl rfl rfl rfl rfl rfl stp_key Tryz.underlying95 (fun w => rfl) rfl hge hme hsk (v := .slice none 0 0) (by rw [hfe, hfi]; rfl) (fun oe2 stp hme2 hstp => ?_)
       try dsimp only [List.set_cons_zero, List.set_cons_succ]
       refine TL.ex ?_
       refine TL.nilrow 3 1 ?_
       refine TL.appendT (k := 0) rfl rfl rfl rfl Tryz.underlying48 pbdel48 rfl rfl rfl (fun w1 hw => pm_reads hw (k := 1) rfl) (flat_one (ic_cel .i64) _) (by show _ * 8 ≤ _; omega) (([a.flow]).length) (by simp) (flat (ic .i64) ([a.flow])) (rfl) (fun A86 c86 hA861 hA862 => ?_)
       refine TL.ex ?_
       refine TL.entrystore (i := 10) (a := (⟨a.ttl, ((lookS l).1 a).getD 0, ((lookS l).1 (⟨a.flow, a.ttl + 1⟩ : Spot)).getD 0⟩ : Stp)) (s := stp) rfl rfl rfl rfl rfl rfl stp_key Tryz.underlying95 rfl hge hme2 hsk hstp (fun oe3 hme3 => ?_)
       rw [upd_twice] at hme3
       try dsimp only [List.set_cons_zero, List.set_cons_succ]
       refine TL.end_ (TX.in_normal ?_)
       exact TX.round (⟨(ds ++ [(a, .int .i64 kv)], oi2, oh1, oe3, HG1, (EG ++ [((⟨a.ttl, ((lookS l).1 a).getD 0, ((lookS l).1 (⟨a.flow, a.ttl + 1⟩ : Spot)).getD 0⟩ : Stp), (⟨A86, c86, [a.flow]⟩ : Sg Int))])), hI2, hH1, by rw [List.map_append]; show MapSG _ _ _ _ (grp _ (_ ++ [a])); rw [grp_snoc (stepKey_some h67)]; exact hE.new hfi hfe hme3, hHn1, ne_new hEn (by simp)⟩) (by show n - (ds ++ [(a, _)]).length < n - ds.length; rw [List.length_append]; show n - (ds.length + 1) < _; omega) ⟨rfl, rfl, rfl, rfl, rfl, rfl, trivial⟩ (fun w1 hw => Pm.segP (P := _) (s := (⟨A86, c86, [a.flow]⟩ : Sg Int)) (hw.sel (.cons_cons _ (.cons _ (.cons _ (.cons _ (.cons _ (.cons _ (.cons_cons _ (.cons_cons _ (.cons_cons _ (.cons_cons _ (.cons_cons _ (.cons_cons _ (.cons_cons _ (List.Sublist.refl _))))))))))))))) (perm_newR))
      ·obtain ⟨k, s, hks, rfl⟩ := find_at hfi
       have hsl : s.l.length ≤ 100000 := by have h8 := hE.sp (⟨a.ttl, ((lookS l).1 a).getD 0, ((lookS l).1 (⟨a.flow, a.ttl + 1⟩ : Spot)).getD 0⟩ : Stp); rw [getS_of hfi] at h8; rw [h8]; exact Nat.le_trans (grp_len _ _ _) (by rw [List.length_map]; omega)
       refine TC.mem (fun w1 hw => Pm.segOut (P := _) hw (app_r (map_at hks))) ?_
       refine TC.region ?_
       refine TL.mv ?_
       refine TL.val rfl rfl rfl (pm_loadV (k := 1) (i := 0) (n := 3) (v := .agg #[.int .i64 a.ttl, .int .u32 (((lookS l).1 a).getD 0), .int .u32 (((lookS l).1 (⟨a.flow, a.ttl + 1⟩ : Spot)).getD 0)]) rfl rfl pbdag102 pbdsz102 rfl (by show 3 ≤ 3; decide) rfl) ?_
       refine TL.val rfl rfl rfl (gives_field (v := .pointer (some ⟨g8, 0, none⟩)) rfl rfl (fun w => pbdfld97_0 _ _ w)) ?_
       refine TL.val rfl rfl rfl (pm_load (k := 4) (i := 0) rfl rfl pcmag3 rfl rfl) ?_
       refine TL.prowS (e := 3) (size := 1) (cs := flat (ic .i64) [a.flow]) rfl rfl rfl rfl rfl (fun w => pbdbs48_1_5377 _ w) (by decide) rfl (fun g84 => ?_)
       refine TL.mapentry (i := 10) (a := (⟨a.ttl, ((lookS l).1 a).getD 0, ((lookS l).1 (⟨a.flow, a.ttl + 1⟩ : Spot)).getD 0⟩ : Stp)) rfl rfl rfl rfl rfl rfl stp_key Tryz.underlying95 (fun w => rfl) rfl hge hme hsk (v := .slice s.A s.l.length s.c) (by rw [hfe, hfi]; rfl) (fun oe2 stp hme2 hstp => ?_)
       try dsimp only [List.set_cons_zero, List.set_cons_succ]
       refine TL.ex ?_
       refine TL.appendT (k := 1) rfl rfl rfl rfl Tryz.underlying48 pbdel48 rfl rfl rfl (fun w1 hw => pm_reads hw (k := 0) rfl) (flat_one (ic_cel .i64) _) (by show _ * 8 ≤ _; omega) ((s.l ++ [a.flow]).length) (by rw [List.length_append]; rfl) (flat (ic .i64) (s.l ++ [a.flow])) ((flat_app _ _).symm) (fun A86 c86 hA861 hA862 => ?_)
       refine TL.ex ?_
       refine TL.entrystore (i := 10) (a := (⟨a.ttl, ((lookS l).1 a).getD 0, ((lookS l).1 (⟨a.flow, a.ttl + 1⟩ : Spot)).getD 0⟩ : Stp)) (s := stp) rfl rfl rfl rfl rfl rfl stp_key Tryz.underlying95 rfl hge hme2 hsk hstp (fun oe3 hme3 => ?_)
       rw [upd_twice] at hme3
       try dsimp only [List.set_cons_zero, List.set_cons_succ]
       refine TL.end_ (TX.in_normal ?_)
       exact TX.round (⟨(ds ++ [(a, .int .i64 kv)], oi2, oh1, oe3, HG1, (EG.set k ((⟨a.ttl, ((lookS l).1 a).getD 0, ((lookS l).1 (⟨a.flow, a.ttl + 1⟩ : Spot)).getD 0⟩ : Stp), (⟨A86, c86, s.l ++ [a.flow]⟩ : Sg Int)))), hI2, hH1, by rw [List.map_append]; show MapSG _ _ _ _ (grp _ (_ ++ [a])); rw [grp_snoc (stepKey_some h67)]; exact hE.old hfi hks hfe hme3, hHn1, ne_set hEn (by simp)⟩) (by show n - (ds ++ [(a, _)]).length < n - ds.length; rw [List.length_append]; show n - (ds.length + 1) < _; omega) ⟨rfl, rfl, rfl, rfl, rfl, rfl, trivial⟩ (fun w1 hw => Pm.segP (P := _) (s := (⟨A86, c86, s.l ++ [a.flow]⟩ : Sg Int)) (hw.sel (.cons _ (.cons_cons _ (.cons _ (.cons _ (.cons _ (.cons _ (.cons_cons _ (.cons_cons _ (.cons_cons _ (.cons_cons _ (.cons_cons _ (.cons_cons _ (.cons_cons _ (List.Sublist.refl _))))))))))))))) (perm_oldR hks))
     ·refine TL.end_ (TX.then_ (TC.condF rfl (TC.skip_ (TX.in_normal ?_))))
      exact TX.round (⟨(ds ++ [(a, .int .i64 kv)], oi2, oh1, oe, HG1, EG), hI2, hH1, by rw [List.map_append]; show MapSG _ _ _ _ (grp _ (_ ++ [a])); rw [grp_skip (stepKey_none h67)]; exact hE, hHn1, hEn⟩) (by show n - (ds ++ [(a, _)]).length < n - ds.length; rw [List.length_append]; show n - (ds.length + 1) < _; omega) ⟨rfl, rfl, rfl, rfl, rfl, rfl, trivial⟩ (fun w1 hw => hw.sel (.cons _ (.cons _ (.cons _ (.cons_cons _ (.cons_cons _ (.cons_cons _ (.cons_cons _ (.cons_cons _ (.cons_cons _ (.cons_cons _ (List.Sublist.refl _))))))))))))
set_option maxRecDepth 20000
def wireE (e : Ed) : Bool := !decide (e.frm = 0) && !decide (e.to_ = 0)
def edW (e : Ed) : Wre := ⟨e.frm, e.to_⟩
def wrk (x : Wre) : List Int := [x.frm, x.to_]
theorem wrk_inj {a b : Wre} (h : wrk a = wrk b) : a = b := by
  obtain ⟨a1, a2⟩ := a
  obtain ⟨b1, b2⟩ := b
  simp only [wrk, List.cons.injEq, and_true] at h
  rw [h.1, h.2]
def IsWr (es : List Ed) (o : List Wre) : Prop := AscK wrk o ∧ ∀ x, x ∈ o ↔ ∃ e ∈ es, wireE e = true ∧ edW e = x
theorem IsWr.eq {l : List Ed} {o o' : List Wre} (h : IsWr l o) (h' : IsWr l o') : o = o' := ascK_eq (n := 2) (fun _ => rfl) h.1 h'.1 fun x => by rw [h.2, h'.2]
theorem isWr_of {l : List Ed} {o s : List Wre} (ho : (l.filter wireE).map edW = o) (hs : Sorted cmpW o s) : IsWr l (cptG s) := by
  refine ⟨cptG_asc (key := wrk) (n := 2) (fun _ => rfl) s hs.2 fun x hx y hy h => wrk_inj h, fun t => ?_⟩
  rw [mem_cptG, hs.1.mem_iff, ← ho, List.mem_map]
  constructor
  · rintro ⟨r, hr, e⟩
    have := List.mem_filter.1 hr
    exact ⟨r, this.1, this.2, e⟩
  · rintro ⟨r, h1, h2, e⟩
    exact ⟨r, List.mem_filter.2 ⟨h1, h2⟩, e⟩
theorem wr_snoc_t {l : List Ed} {i : Nat} {x : Ed} {o : List Wre} (hx : l[i]? = some x) (h : wireE x = true) (ho : ((l.take i).filter wireE).map edW = o) : ((l.take (i + 1)).filter wireE).map edW = o ++ [edW x] := by
  rw [List.take_add_one, hx, List.filter_append, List.map_append, ho]
  simp [h]
theorem wr_snoc_f {l : List Ed} {i : Nat} {x : Ed} {o : List Wre} (hx : l[i]? = some x) (h : wireE x = false) (ho : ((l.take i).filter wireE).map edW = o) : ((l.take (i + 1)).filter wireE).map edW = o := by
  rw [List.take_add_one, hx, List.filter_append, List.map_append, ho]
  simp [h]
theorem pwisz63 (w : World) : (sizeOf 63).run Tryz.prog w = .ok 4 w := rfl
theorem pwiag63 (w : World) : (isAgg 63).run Tryz.prog w = .ok true w := rfl
theorem pwizv63 (w : World) : (zeroValue 63).run Tryz.prog w = .ok (.agg #[.int .i64 0, .int .u32 0, .int .u32 0, .slice none 0 0]) w := rfl
theorem pwibld54_27256 (a0_0 : Int) (a1_0 : Int) (w : World) : (Instr.build 54 #[(0, .int .u32 a0_0), (1, .int .u32 a1_0)]).run Tryz.prog w = .ok (.agg #[.int .u32 a0_0, .int .u32 a1_0]) w := by kernel_rfl
theorem pwibs51_1_20251 (a0_0 : Int) (a0_1 : Int) (w : World) : (Instr.buildSlice 51 1 #[(0, .agg #[.int .u32 a0_0, .int .u32 a0_1])]).run Tryz.prog w = .ok (.slice (some ⟨w.heap.size, 0, none⟩) 1 1) (w.alloc (.cells [.int .u32 a0_0, .int .u32 a0_1].toArray 54)) := by kernel_rfl
theorem pwiel51 : Elem Tryz.prog 51 54 2 8 := Elem.mk' Tryz.underlying51 (z := .agg #[.int .u32 0, .int .u32 0]) (by kernel_rfl) rfl (by omega) (by omega)
theorem pwinm71 : (Tryz.f71.name == "runtime.NumGoroutine") = false := by decide
theorem pwibd71 : Tryz.f71.body.isNone = false := rfl
theorem pwinm73 : (Tryz.f73.name == "runtime.NumGoroutine") = false := by decide
theorem pwibd73 : Tryz.f73.body.isNone = false := rfl
set_option maxHeartbeats 1000000 in
theorem wires_any (m : Mp) (w : World) (hr : Reads w w.heap.size 4 m.edges.A m.edges.l.length (flat Ed.cells m.edges.l)) (hl1 : m.edges.l.length ≤ 100000) :
    Calls Tryz.prog 18 #[.agg m.cells.toArray] w fun e w' => ∃ x : {y : (Option Addr × Nat) × List Wre // IsWr m.edges.l y.2 ∧ y.2.length ≤ y.1.2 ∧ y.1.2 ≤ maxLen}, e = .returned (.slice x.1.1.1 x.1.2.length x.1.1.2) ∧ Pm w [.row (.slice x.1.1.1 x.1.2.length x.1.1.2) 54 2 x.1.2.length (flat Wre.cells x.1.2)] w' := by
  refine begin_ (vs := [.agg m.cells.toArray]) Tryz.func18 rfl rfl rfl ?_ (Pm.start w)
  refine TC.seq_ ?_
  refine TC.region ?_
  refine TL.pnew rfl rfl rfl (exec_box (cs := m.cells) rfl rfl rfl) (fun g1 => ?_)
  refine TL.val rfl rfl rfl (gives_assign rfl rfl) ?_
  refine TL.end_ ?_
  refine TX.then_ ?_
  refine TC.seq_ ?_
  refine TC.region ?_
  refine TL.val rfl rfl rfl (gives_assign rfl rfl) ?_
  refine TL.end_ ?_
  refine TX.then_ ?_
  refine TC.seq_ ?_
  refine TC.seq_ ?_
  refine TC.region ?_
  refine TL.val rfl rfl rfl (gives_field (v := .pointer (some ⟨g1, 5, none⟩)) rfl rfl (fun w => pbdfld36_3 _ _ w)) ?_
  refine TL.val rfl rfl rfl (pm_load (k := 0) (i := 5) rfl rfl pbdag34 rfl rfl) ?_
  refine TL.val rfl rfl rfl (gives_len rfl Tryz.underlying34 rfl) ?_
  refine TL.val rfl rfl rfl (gives_move rfl rfl) ?_
  refine TL.end_ ?_
  refine TX.then_ ?_
  refine TC.block ?_
  refine TC.nilrow 54 2 ?_
  refine TC.loop_ (α := {y : Nat × (Option Addr × Nat) × List Wre // y.1 ≤ m.edges.l.length ∧ (((m.edges.l.take y.1).filter wireE).map edW = y.2.2) ∧ y.2.2.length ≤ y.1 ∧ y.2.2.length ≤ y.2.1.2 ∧ y.2.1.2 ≤ maxLen}) (fun y => [(7, .slice m.edges.A m.edges.l.length m.edges.c), (8, .int .i64 (m.edges.l.length : Nat)), (9, .int .i64 ((y.1.1 : Nat) : Int)), (3, .slice y.1.2.1.1 y.1.2.2.length y.1.2.1.2)]) (fun y => Pm w [.row (.slice y.1.2.1.1 y.1.2.2.length y.1.2.1.2) 54 2 y.1.2.2.length (flat Wre.cells y.1.2.2), .blk g1 36 m.cells]) (fun y => m.edges.l.length - y.1.1) (⟨(0, (none, 0), []), Nat.zero_le _, rfl, Nat.le_refl _, Nat.le_refl _, Nat.zero_le _⟩) ⟨rfl, rfl, rfl, rfl, trivial⟩ (fun w1 hw => hw) ?_
  rintro ⟨⟨i, ⟨Ao, co⟩, out⟩, hi, hout, houtl, houtc, houtm⟩
  dsimp only at hi hout houtl houtc houtm ⊢
  refine TC.seq_ ?_
  refine TC.region ?_
  refine TL.vsplit rfl rfl rfl (gives_bin rfl rfl rfl (fun w => bin_lss w)) (fun h10 => ?_) (fun h10 => ?_)
  · have q10 := of_decide_eq_true h10
    refine TL.end_ ?_
    refine TX.then_ ?_
    refine TC.seq_ ?_
    refine TC.condT rfl ?_
    refine TC.skip_ ?_
    refine TX.then_ ?_
    refine TC.seq_ ?_
    refine TC.block ?_
    refine TC.seq_ ?_
    refine TC.region ?_
    have hi11 : i < m.edges.l.length := by omega
    obtain ⟨x11, hx11⟩ : ∃ x11, m.edges.l[i]? = some x11 := ⟨_, List.getElem?_eq_getElem hi11⟩
    obtain ⟨b11, o11, hA11, hbb11, hc11⟩ := hr.ad (by omega) (by decide)
    refine TL.val rfl rfl rfl (gives_at (v := .pointer (some ⟨b11, o11 + i * 4, none⟩)) rfl rfl rfl (fun w => at_el Tryz.underlying34 pwisz63 hA11 _ _ i (by omega) rfl w)) ?_
    refine TL.val rfl rfl rfl (gives_loadR (off := o11 + i * 4) rfl rfl pwiag63 pwisz63 (ed_cel.len x11) (fun w1 hw j9 u9 h9 => (hw.bel.cell hbb11).trans <| flat_cell ed_cel hx11 hc11 j9 u9 h9)) ?_
    refine TL.pnew rfl rfl rfl (exec_alloc (cs := [.int .i64 0, .int .u32 0, .int .u32 0, .slice none 0 0]) rfl pwizv63 rfl) (fun g5 => ?_)
    refine TL.pstore (k := 0) (vs := x11.cells) rfl rfl rfl rfl rfl rfl rfl pwisz63 (ed_cel.one _) (by show 4 ≤ 4; decide) (L' := [.blk g5 63 x11.cells, .row (.slice Ao out.length co) 54 2 out.length (flat Wre.cells out), .blk g1 36 m.cells]) rfl ?_
    refine TL.end_ ?_
    refine TX.then_ ?_
    refine TC.seq_ ?_
    refine TC.region ?_
    refine TL.val rfl rfl rfl (gives_field (v := .pointer (some ⟨g5, 1, none⟩)) rfl rfl (fun w => pcmfld63_1 _ _ w)) ?_
    refine TL.val rfl rfl rfl (pm_load (k := 0) (i := 1) rfl rfl pcmag30 rfl rfl) ?_
    refine TL.vsplit rfl rfl rfl (gives_bin rfl rfl rfl (fun w => bin_neq w)) (fun h15 => ?_) (fun h15 => ?_)
    · have q15 := of_decide_eq_true h15
      refine TL.val rfl rfl rfl (gives_move rfl rfl) ?_
      refine TL.on rfl rfl rfl ?_
      refine TL.val rfl rfl rfl (gives_field (v := .pointer (some ⟨g5, 2, none⟩)) rfl rfl (fun w => pcmfld63_2 _ _ w)) ?_
      refine TL.on rfl rfl rfl ?_
      refine TL.val rfl rfl rfl (pm_load (k := 0) (i := 2) rfl rfl pcmag30 rfl rfl) ?_
      refine TL.on rfl rfl rfl ?_
      refine TL.vsplit rfl rfl rfl (gives_bin rfl rfl rfl (fun w => bin_neq w)) (fun h19 => ?_) (fun h19 => ?_)
      · have q19 := of_decide_eq_true h19
        refine TL.val rfl rfl rfl (gives_pick rfl rfl rfl) ?_
        refine TL.end_ ?_
        refine TX.then_ ?_
        refine TC.condT rfl ?_
        refine TC.region ?_
        refine TL.val rfl rfl rfl (gives_move rfl rfl) ?_
        refine TL.val rfl rfl rfl (gives_field (v := .pointer (some ⟨g5, 1, none⟩)) rfl rfl (fun w => pcmfld63_1 _ _ w)) ?_
        refine TL.val rfl rfl rfl (pm_load (k := 0) (i := 1) rfl rfl pcmag30 rfl rfl) ?_
        refine TL.val rfl rfl rfl (gives_field (v := .pointer (some ⟨g5, 2, none⟩)) rfl rfl (fun w => pcmfld63_2 _ _ w)) ?_
        refine TL.val rfl rfl rfl (pm_load (k := 0) (i := 2) rfl rfl pcmag30 rfl rfl) ?_
        refine TL.val rfl rfl rfl (gives_build (v := .agg #[.int .u32 x11.frm, .int .u32 x11.to_]) rfl rfl (fun w => pwibld54_27256 _ _ w)) ?_
        refine TL.prowS (e := 54) (size := 2) (cs := flat Wre.cells [(⟨x11.frm, x11.to_⟩ : Wre)]) rfl rfl rfl rfl rfl (fun w => pwibs51_1_20251 _ _ w) (by decide) rfl (fun g27 => ?_)
        refine TL.appendT (k := 2) rfl rfl rfl rfl Tryz.underlying51 pwiel51 rfl rfl rfl (fun w1 hw => pm_reads hw (k := 0) rfl) (flat_one wre_cel _) (by show _ * 8 ≤ _; omega) ((out ++ [(⟨x11.frm, x11.to_⟩ : Wre)]).length) (by rw [List.length_append]; rfl) (flat Wre.cells (out ++ [(⟨x11.frm, x11.to_⟩ : Wre)])) ((flat_app _ _).symm) (fun A28 c28 hA281 hA282 => ?_)
        refine TL.val rfl rfl rfl (gives_assign rfl rfl) ?_
        refine TL.end_ ?_
        refine TX.in_normal ?_
        refine TX.then_ ?_
        refine TC.region ?_
        refine TL.val rfl rfl rfl (gives_bin rfl rfl rfl (fun w => bin_add_ (r := ((i + 1 : Nat) : Int)) (by simp only [IntKind.wrap_i64]; omega) w)) ?_
        refine TL.val rfl rfl rfl (gives_move rfl rfl) ?_
        refine TL.end_ ?_
        exact TX.round (⟨(i + 1, (A28, c28), out ++ [(⟨x11.frm, x11.to_⟩ : Wre)]), by dsimp only; omega, wr_snoc_t hx11 (by simp [wireE, q10, q15, q19] <;> omega) hout, by dsimp only; rw [List.length_append]; show out.length + 1 ≤ _; omega, hA281, hA282⟩) (by show m.edges.l.length - (i + 1) < m.edges.l.length - i; omega) ⟨rfl, rfl, rfl, rfl, trivial⟩ (fun w1 hw => hw.pick [2, 3] (by decide) rfl)
      · have q19 := of_decide_eq_false h19
        refine TL.val rfl rfl rfl (gives_pick rfl rfl rfl) ?_
        refine TL.end_ ?_
        refine TX.then_ ?_
        refine TC.condF rfl ?_
        refine TC.skip_ ?_
        refine TX.in_normal ?_
        refine TX.then_ ?_
        refine TC.region ?_
        refine TL.val rfl rfl rfl (gives_bin rfl rfl rfl (fun w => bin_add_ (r := ((i + 1 : Nat) : Int)) (by simp only [IntKind.wrap_i64]; omega) w)) ?_
        refine TL.val rfl rfl rfl (gives_move rfl rfl) ?_
        refine TL.end_ ?_
        exact TX.round (⟨(i + 1, (Ao, co), out), by dsimp only; omega, wr_snoc_f hx11 (by simp [wireE, q10, q15, q19] <;> omega) hout, by dsimp only; omega, houtc, houtm⟩) (by show m.edges.l.length - (i + 1) < m.edges.l.length - i; omega) ⟨rfl, rfl, rfl, rfl, trivial⟩ (fun w1 hw => hw.pick [1, 2] (by decide) rfl)
    · have q15 := of_decide_eq_false h15
      refine TL.val rfl rfl rfl (gives_move rfl rfl) ?_
      refine TL.off rfl rfl rfl rfl rfl rfl ?_
      refine TL.off rfl rfl rfl rfl rfl rfl ?_
      refine TL.off rfl rfl rfl rfl rfl rfl ?_
      refine TL.val rfl rfl rfl (gives_pick rfl rfl rfl) ?_
      refine TL.end_ ?_
      refine TX.then_ ?_
      refine TC.condF rfl ?_
      refine TC.skip_ ?_
      refine TX.in_normal ?_
      refine TX.then_ ?_
      refine TC.region ?_
      refine TL.val rfl rfl rfl (gives_bin rfl rfl rfl (fun w => bin_add_ (r := ((i + 1 : Nat) : Int)) (by simp only [IntKind.wrap_i64]; omega) w)) ?_
      refine TL.val rfl rfl rfl (gives_move rfl rfl) ?_
      refine TL.end_ ?_
      exact TX.round (⟨(i + 1, (Ao, co), out), by dsimp only; omega, wr_snoc_f hx11 (by simp [wireE, q10, q15] <;> omega) hout, by dsimp only; omega, houtc, houtm⟩) (by show m.edges.l.length - (i + 1) < m.edges.l.length - i; omega) ⟨rfl, rfl, rfl, rfl, trivial⟩ (fun w1 hw => hw.pick [1, 2] (by decide) rfl)
  · have q10 := of_decide_eq_false h10
    refine TL.end_ ?_
    refine TX.then_ ?_
    refine TC.seq_ ?_
    refine TC.condF rfl ?_
    refine TC.exit_ ?_
    refine TX.then_exit ?_
    refine TX.then_exit ?_
    refine TX.in_same ?_
    refine TX.then_ ?_
    refine TC.seq_ ?_
    refine TC.region ?_
    refine TL.val rfl rfl rfl (gives_move rfl rfl) ?_
    refine TL.turnRowD (k := 0) (fun ys => Sorted cmpW out ys) rfl rfl rfl rfl rfl Tryz.func71 pwinm71 pwibd71 rfl (fun w1 hw hr9 => sortWre hr9 (rfl) (by omega)) (fun srt31 hS31 => ?_)
    try dsimp only [List.set_cons_zero, List.set_cons_succ]
    refine TL.end_ ?_
    refine TX.then_ ?_
    refine TC.seq_ ?_
    refine TC.region ?_
    refine TL.val rfl rfl rfl (gives_move rfl rfl) ?_
    refine TL.turnRow2 (q := 0) (ys := cptG srt31) rfl rfl rfl rfl rfl Tryz.func73 pwinm73 pwibd73 rfl (fun w1 hw hr9 => compactWre hr9 (hS31.1.length_eq) (by omega)) ?_
    try dsimp only [List.set_cons_zero, List.set_cons_succ]
    refine TL.val rfl rfl rfl (gives_assign rfl rfl) ?_
    refine TL.end_ ?_
    refine TX.then_ ?_
    refine TC.ret_ ?_
    have hle : (cptG srt31).length ≤ out.length := Nat.le_trans (cptG_le _) (Nat.le_of_eq hS31.1.length_eq)
    exact ret_tmp Tryz.results18 rfl (fun w1 hw => ⟨⟨((Ao, co), cptG srt31), isWr_of (by rw [List.take_of_length_le (by omega)] at hout; exact hout) hS31, by dsimp only; omega, houtm⟩, rfl, hw.pick [0] (by decide) rfl⟩)
set_option maxRecDepth 20000
section
variable {α : Type} {r : α → α → Bool} {l m : List α}
end
structure MpR (w : World) (m : Mp) : Prop where
  hops : Reads w w.heap.size 3 m.hops.A m.hops.l.length (flat Hpx.cells m.hops.l)
  edges : Reads w w.heap.size 4 m.edges.A m.edges.l.length (flat Ed.cells m.edges.l)
  nhops : m.hops.l.length ≤ 100000
  nedges : m.edges.l.length ≤ 100000
  shops : ∀ x ∈ m.hops.l, Reads w w.heap.size 1 x.fl.A x.fl.l.length (flat (ic .i64) x.fl.l) ∧ x.fl.l.length ≤ 100000
  sedges : ∀ x ∈ m.edges.l, Reads w w.heap.size 1 x.fl.A x.fl.l.length (flat (ic .i64) x.fl.l) ∧ x.fl.l.length ≤ 100000
/-! ### one spot: what its results say does not depend on their order -/
def VInv (h : List Rs) (v : Int × Int) : Prop :=
 (v = (0, 0) ∧ h = []) ∨ (v = (0, 1) ∧ h ≠ [] ∧ ∀ r ∈ h, r.ans = false) ∨ (∃ a, v = (a, 2) ∧ (∃ r ∈ h, r.ans = true ∧ r.src = a) ∧ ∀ r ∈ h, r.ans = true → r.src = a) ∨ (v = (0, 3) ∧ ∃ r ∈ h, ∃ r' ∈ h, r.ans = true ∧ r'.ans = true ∧ r.src ≠ r'.src)
theorem VInv.step {h : List Rs} {v : Int × Int} (hv : VInv h v) (r : Rs) : VInv (h ++ [r]) (vst v r) := by
 have hm : ∀ {x : Rs}, x ∈ h ++ [r] ↔ x ∈ h ∨ x = r := by intro x; rw [List.mem_append, List.mem_singleton]
 have hne : h ++ [r] ≠ [] := by simp
 by_cases ha : r.ans = false
 ·rcases hv with ⟨rfl, h0⟩ | ⟨rfl, h0, h1⟩ | ⟨a, rfl, h1, h2⟩ | ⟨rfl, x, hx, y, hy, h1⟩
  ·refine .inr (.inl ⟨by unfold vst; rw [if_pos ha]; rfl, hne, fun x hx => ?_⟩)
   rcases hm.1 hx with h2 | h2
   ·rw [h0] at h2; cases h2
   ·rw [h2]; exact ha
  ·refine .inr (.inl ⟨by unfold vst; rw [if_pos ha]; rfl, hne, fun x hx => ?_⟩)
   rcases hm.1 hx with h2 | h2
   ·exact h1 x h2
   ·rw [h2]; exact ha
  ·obtain ⟨x, hx, hx2⟩ := h1
   refine .inr (.inr (.inl ⟨a, by unfold vst; rw [if_pos ha]; rfl, ⟨x, hm.2 (.inl hx), hx2⟩, fun y hy hy2 => ?_⟩))
   rcases hm.1 hy with h3 | h3
   ·exact h2 y h3 hy2
   ·rw [h3, ha] at hy2; cases hy2
  ·exact .inr (.inr (.inr ⟨by unfold vst; rw [if_pos ha]; rfl, x, hm.2 (.inl hx), y, hm.2 (.inl hy), h1⟩))
 ·have ha2 : r.ans = true := by simpa using ha
  rcases hv with ⟨rfl, h0⟩ | ⟨rfl, h0, h1⟩ | ⟨a, rfl, h1, h2⟩ | ⟨rfl, x, hx, y, hy, h1⟩
  ·refine .inr (.inr (.inl ⟨r.src, by unfold vst; rw [if_neg ha]; rfl, ⟨r, hm.2 (.inr rfl), ha2, rfl⟩, fun y hy hy2 => ?_⟩))
   rcases hm.1 hy with h3 | h3
   ·rw [h0] at h3; cases h3
   ·rw [h3]
  ·refine .inr (.inr (.inl ⟨r.src, by unfold vst; rw [if_neg ha]; rfl, ⟨r, hm.2 (.inr rfl), ha2, rfl⟩, fun y hy hy2 => ?_⟩))
   rcases hm.1 hy with h3 | h3
   ·rw [h1 y h3] at hy2; cases hy2
   ·rw [h3]
  ·by_cases hs : a = r.src
   ·subst hs
    obtain ⟨x, hx, hx2⟩ := h1
    refine .inr (.inr (.inl ⟨r.src, ?_, ⟨x, hm.2 (.inl hx), hx2⟩, fun y hy hy2 => ?_⟩))
    ·unfold vst
     rw [if_neg ha, if_neg (show ¬ ((2 : Int) ≤ 1) by decide), if_neg (by rintro ⟨_, h3⟩; exact h3 rfl)]
    ·rcases hm.1 hy with h3 | h3
     ·exact h2 y h3 hy2
     ·rw [h3]
   ·obtain ⟨x, hx, hx2, hx3⟩ := h1
    refine .inr (.inr (.inr ⟨?_, x, hm.2 (.inl hx), r, hm.2 (.inr rfl), hx2, ha2, by rw [hx3]; exact hs⟩))
    unfold vst
    rw [if_neg ha, if_neg (show ¬ ((2 : Int) ≤ 1) by decide), if_pos ⟨rfl, hs⟩]
  ·refine .inr (.inr (.inr ⟨?_, x, hm.2 (.inl hx), y, hm.2 (.inl hy), h1⟩))
   unfold vst
   rw [if_neg ha, if_neg (show ¬ ((3 : Int) ≤ 1) by decide), if_neg (by rintro ⟨h3, _⟩; revert h3; decide)]
theorem VInv.all : ∀ (h p : List Rs) (v : Int × Int), VInv p v → VInv (p ++ h) (h.foldl vst v)
 | [], p, v, hv => by rw [List.append_nil]; exact hv
 | r :: h, p, v, hv => by
  have := VInv.all h (p ++ [r]) (vst v r) (hv.step r)
  rwa [List.append_assoc] at this
theorem vinv (e : Int) (l : List Rs) (s : Spot) : VInv (l.filter (hitS e s)) (vwS e l s) := VInv.all (l.filter (hitS e s)) [] (0, 0) (.inl ⟨rfl, rfl⟩)
theorem VInv.eq {h h' : List Rs} {v v' : Int × Int} (hv : VInv h v) (hv' : VInv h' v') (hs : ∀ r, r ∈ h ↔ r ∈ h') : v = v' := by
 have nil_of : h = [] ↔ h' = [] := by
  constructor
  ·intro e; subst e; exact List.eq_nil_iff_forall_not_mem.2 fun r hr => absurd ((hs r).2 hr) List.not_mem_nil
  ·intro e; subst e; exact List.eq_nil_iff_forall_not_mem.2 fun r hr => absurd ((hs r).1 hr) List.not_mem_nil
 rcases hv with ⟨rfl, h0⟩ | ⟨rfl, h0, h1⟩ | ⟨a, rfl, ⟨x, hx, hx2, hx3⟩, h2⟩ | ⟨rfl, x, hx, y, hy, h1, h2, h3⟩ <;>
 rcases hv' with ⟨rfl, k0⟩ | ⟨rfl, k0, k1⟩ | ⟨b, rfl, ⟨z, hz, hz2, hz3⟩, k2⟩ | ⟨rfl, z, hz, u, hu, k1, k2, k3⟩
 ·rfl
 ·exact absurd (nil_of.1 h0) k0
 ·rw [nil_of.1 h0] at hz; cases hz
 ·rw [nil_of.1 h0] at hz; cases hz
 ·exact absurd (nil_of.2 k0) h0
 ·rfl
 ·rw [h1 z ((hs z).2 hz)] at hz2; cases hz2
 ·rw [h1 z ((hs z).2 hz)] at k1; cases k1
 ·rw [nil_of.2 k0] at hx; cases hx
 ·rw [k1 x ((hs x).1 hx)] at hx2; cases hx2
 ·rw [← hx3, k2 x ((hs x).1 hx) hx2]
 ·exact absurd ((h2 z ((hs z).2 hz) k1).trans (h2 u ((hs u).2 hu) k2).symm) k3
 ·rw [nil_of.2 k0] at hx; cases hx
 ·rw [k1 x ((hs x).1 hx)] at h1; cases h1
 ·exact absurd ((k2 x ((hs x).1 hx) h1).trans (k2 y ((hs y).1 hy) h2).symm) h3
 ·rfl
/-! ### the end -/
def IsEnd (l : List Rs) (e : Int) : Prop := (e = 0 ∧ ∀ r ∈ l, finRs r = false) ∨ ((∃ r ∈ l, finRs r = true ∧ r.ttl = e) ∧ ∀ r ∈ l, finRs r = true → e ≤ r.ttl)
theorem fin_ttl {r : Rs} (h : finRs r = true) : 1 ≤ r.ttl ∧ r.ttl ≤ 255 := by
 unfold finRs at h
 simp only [Bool.and_eq_true] at h
 have h2 : useR 0 r = true := by unfold useR; simp [h.2]
 have := use_rng h2
 exact ⟨this.2.2.1, this.2.2.2⟩
theorem end_step : ∀ (l p : List Rs) (e : Int), IsEnd p e → IsEnd (p ++ l) (l.foldl (fun e r => if fitE e r then r.ttl else e) e)
 | [], p, e, h => by rw [List.append_nil]; exact h
 | r :: l, p, e, h => by
  have h1 : IsEnd (p ++ [r]) (if fitE e r then r.ttl else e) := by
   have hm : ∀ {x : Rs}, x ∈ p ++ [r] ↔ x ∈ p ∨ x = r := by intro x; rw [List.mem_append, List.mem_singleton]
   by_cases hf : finRs r = true
   ·by_cases hc : e = 0 ∨ r.ttl < e
    ·have : fitE e r = true := by unfold fitE; simp [hf, hc]
     rw [if_pos this]
     refine .inr ⟨⟨r, hm.2 (.inr rfl), hf, rfl⟩, fun x hx hx2 => ?_⟩
     rcases hm.1 hx with h2 | h2
     ·rcases h with ⟨h3, h4⟩ | ⟨⟨y, hy, hy2, hy3⟩, h4⟩
      ·rw [h4 x h2] at hx2; cases hx2
      ·have h5 := h4 x h2 hx2
       have h6 := fin_ttl hy2
       omega
     ·rw [h2]; exact Int.le_refl _
    ·have : fitE e r = false := by unfold fitE; simp [hf]; omega
     rw [if_neg (by rw [this]; decide)]
     rcases h with ⟨h3, h4⟩ | ⟨⟨y, hy, hy2, hy3⟩, h4⟩
     ·exact absurd (.inl h3) hc
     ·refine .inr ⟨⟨y, hm.2 (.inl hy), hy2, hy3⟩, fun x hx hx2 => ?_⟩
      rcases hm.1 hx with h2 | h2
      ·exact h4 x h2 hx2
      ·rw [h2]; omega
   ·have : fitE e r = false := by unfold fitE; simp [hf]
    rw [if_neg (by rw [this]; decide)]
    rcases h with ⟨h3, h4⟩ | ⟨⟨y, hy, hy2, hy3⟩, h4⟩
    ·refine .inl ⟨h3, fun x hx => ?_⟩
     rcases hm.1 hx with h2 | h2
     ·exact h4 x h2
     ·rw [h2]; simpa using hf
    ·refine .inr ⟨⟨y, hm.2 (.inl hy), hy2, hy3⟩, fun x hx hx2 => ?_⟩
     rcases hm.1 hx with h2 | h2
     ·exact h4 x h2 hx2
     ·rw [h2] at hx2; exact absurd hx2 hf
  have := end_step l (p ++ [r]) _ h1
  rwa [List.append_assoc] at this
theorem isEnd (l : List Rs) : IsEnd l (endT l) := end_step l [] 0 (.inl ⟨rfl, fun r hr => absurd hr List.not_mem_nil⟩)
theorem IsEnd.eq {l l' : List Rs} {e e' : Int} (h : IsEnd l e) (h' : IsEnd l' e') (hs : ∀ r, finRs r = true → (r ∈ l ↔ r ∈ l')) : e = e' := by
 rcases h with ⟨rfl, h1⟩ | ⟨⟨x, hx, hx2, hx3⟩, h1⟩ <;> rcases h' with ⟨rfl, k1⟩ | ⟨⟨y, hy, hy2, hy3⟩, k1⟩
 ·rfl
 ·rw [h1 y ((hs y hy2).2 hy)] at hy2; cases hy2
 ·rw [k1 x ((hs x hx2).1 hx)] at hx2; cases hx2
 ·have := h1 y ((hs y hy2).2 hy) hy2
  have := k1 x ((hs x hx2).1 hx) hx2
  omega
/-! ### a view as pairs -/
theorem look_pos {e : Int} : ∀ (l : List Rs) (p : (Spot → Option Int) × (Spot → Option Int)), (∀ s x, p.2 s = some x → 1 ≤ x) → ∀ s x, (l.foldl (stepK e) p).2 s = some x → 1 ≤ x
 | [], p, h => h
 | r :: l, p, h => by
  refine look_pos l (stepK e p r) fun s x hx => ?_
  have hu : ∀ (v : Int), 1 ≤ v → updF p.2 (spotR r) v s = some x → 1 ≤ x := fun v hv h1 => by
   unfold updF at h1
   split at h1
   ·cases h1; exact hv
   ·exact h s x h1
  unfold stepK at hx
  split at hx
  ·split at hx
   ·exact hu _ (by omega) hx
   ·split at hx
    ·exact hu _ (by decide) hx
    ·split at hx
     ·exact hu _ (by decide) hx
     ·exact h s x hx
  ·exact h s x hx
theorem st_none {l : List Rs} {s : Spot} : (lookS l).2 s ≠ none ↔ (vwS (endT l) l s).2 ≠ 0 := by
 rw [vwS_look]
 show (lookS l).2 s ≠ none ↔ ((lookS l).2 s).getD 0 ≠ 0
 rcases h : (lookS l).2 s with _ | x
 ·simp
 ·have := look_pos (e := endT l) l (fun _ => none, fun _ => none) (fun s x h => by cases h) s x h
  simp; omega
theorem st_val {l : List Rs} {s : Spot} : ((lookS l).2 s).getD 0 = (vwS (endT l) l s).2 := by rw [vwS_look]; rfl
theorem ad_val {l : List Rs} {s : Spot} : ((lookS l).1 s).getD 0 = (vwS (endT l) l s).1 := by rw [vwS_look]; rfl
theorem st_three {l : List Rs} {s : Spot} : (lookS l).2 s = some 3 ↔ (vwS (endT l) l s).2 = 3 := by
 rw [← st_val]
 rcases h : (lookS l).2 s with _ | x
 ·simp
 ·simp
def SameUse (l l' : List Rs) : Prop := ∀ r, usbRs r = true → (r ∈ l ↔ r ∈ l')
theorem fin_use {r : Rs} (h : finRs r = true) : usbRs r = true := by unfold finRs at h; simp only [Bool.and_eq_true] at h; exact h.2
theorem use_usb {e : Int} {r : Rs} (h : useR e r = true) : usbRs r = true := by unfold useR at h; simp only [Bool.and_eq_true] at h; exact h.1
theorem SameUse.end_ {l l' : List Rs} (h : SameUse l l') : endT l = endT l' := (isEnd l).eq (isEnd l') fun r hr => h r (fin_use hr)
theorem SameUse.vw {l l' : List Rs} (h : SameUse l l') (s : Spot) : vwS (endT l) l s = vwS (endT l') l' s := by
 rw [← h.end_]
 refine (vinv _ l s).eq (vinv _ l' s) fun r => ?_
 rw [List.mem_filter, List.mem_filter]
 constructor
 ·rintro ⟨h1, h2⟩
  have h3 := h2
  unfold hitS at h3
  simp only [Bool.and_eq_true] at h3
  exact ⟨(h r (use_usb h3.1)).1 h1, h2⟩
 ·rintro ⟨h1, h2⟩
  have h3 := h2
  unfold hitS at h3
  simp only [Bool.and_eq_true] at h3
  exact ⟨(h r (use_usb h3.1)).2 h1, h2⟩
theorem pairs_asc_eq {β : Type} {key : β → List Int} {n : Nat} : ∀ {a b : List β}, (∀ x ∈ a, (key x).length = n) → (∀ x ∈ b, (key x).length = n) → AscK key a → AscK key b → (∀ x, x ∈ a ↔ x ∈ b) → a = b
 | [], [], _, _, _, _, _ => rfl
 | [], y :: b, _, _, _, _, h => absurd ((h y).2 List.mem_cons_self) List.not_mem_nil
 | x :: a, [], _, _, _, _, h => absurd ((h x).1 List.mem_cons_self) List.not_mem_nil
 | x :: a, y :: b, na, nb, ha, hb, h => by
  obtain ⟨a1, a2⟩ := List.pairwise_cons.1 ha
  obtain ⟨b1, b2⟩ := List.pairwise_cons.1 hb
  have hxy : x = y := by
   rcases List.mem_cons.1 ((h x).1 List.mem_cons_self) with e | e
   ·exact e
   ·rcases List.mem_cons.1 ((h y).2 List.mem_cons_self) with e2 | e2
    ·exact e2.symm
    ·have h1 := a1 y e2
     have h2 := b1 x e
     have h3 := (lexI_swap (a := key x) (b := key y) (by rw [na x List.mem_cons_self, nb y List.mem_cons_self]))
     omega
  subst hxy
  rw [pairs_asc_eq (fun z hz => na z (List.mem_cons_of_mem _ hz)) (fun z hz => nb z (List.mem_cons_of_mem _ hz)) a2 b2 fun z => ?_]
  constructor
  ·intro hz
   rcases List.mem_cons.1 ((h z).1 (List.mem_cons_of_mem _ hz)) with e | e
   ·subst e; exact absurd (a1 z hz) (ltK_irrefl z)
   ·exact e
  ·intro hz
   rcases List.mem_cons.1 ((h z).2 (List.mem_cons_of_mem _ hz)) with e | e
   ·subst e; exact absurd (b1 z hz) (ltK_irrefl z)
   ·exact e
/-! ### lists of groups in order are determined by what they hold -/
section
variable {α : Type} {key : α → List Int} {fl : α → List Int} {n : Nat}
def GrOk (key fl : α → List Int) (P : List Int → Int → Prop) (hs : List α) : Prop := AscK key hs ∧ (∀ h ∈ hs, (fl h).Pairwise (· < ·) ∧ fl h ≠ []) ∧ ∀ k f, (∃ h ∈ hs, key h = k ∧ f ∈ fl h) ↔ P k f
theorem key_uniq (hk : ∀ x, (key x).length = n) : ∀ {hs : List α}, AscK key hs → ∀ {x y : α}, x ∈ hs → y ∈ hs → key x = key y → x = y := fun {hs} ha {x y} hx hy e => by
 obtain ⟨i, hi⟩ := List.getElem?_of_mem hx
 obtain ⟨j, hj⟩ := List.getElem?_of_mem hy
 obtain ⟨i1, i2⟩ := List.getElem?_eq_some_iff.1 hi
 obtain ⟨j1, j2⟩ := List.getElem?_eq_some_iff.1 hj
 rcases Nat.lt_trichotomy i j with h1 | h1 | h1
 ·have := List.pairwise_iff_getElem.1 ha i j i1 j1 h1
  rw [i2, j2, e] at this
  exact absurd this (ltK_irrefl (key := key) y)
 ·subst h1; rw [hi] at hj; exact Option.some.inj hj
 ·have := List.pairwise_iff_getElem.1 ha j i j1 i1 h1
  rw [i2, j2, e] at this
  exact absurd this (ltK_irrefl (key := key) y)
theorem gr_flows (hk : ∀ x, (key x).length = n) {P : List Int → Int → Prop} {hs : List α} (h : GrOk key fl P hs) {x : α} (hx : x ∈ hs) (f : Int) : f ∈ fl x ↔ P (key x) f := by
 rw [← h.2.2]
 constructor
 ·exact fun h1 => ⟨x, hx, rfl, h1⟩
 ·rintro ⟨y, hy, e, h1⟩
  rw [← key_uniq hk h.1 hy hx e]; exact h1
end
/-! ### the graph -/
theorem hpk_len (x : Hpx) : (hpk x).length = 2 := rfl
theorem edk_len (x : Ed) : (edk x).length = 3 := rfl
def HopP (l : List Rs) (k : List Int) (f : Int) : Prop := ∃ t a, k = [t, a] ∧ (vwS (endT l) l ⟨f, t⟩).2 ≠ 0 ∧ (vwS (endT l) l ⟨f, t⟩).1 = a
def hasV (l : List Rs) (s : Spot) : Prop := (vwS (endT l) l s).2 = 2 ∨ (vwS (endT l) l s).2 = 1
def EdgP (l : List Rs) (k : List Int) (f : Int) : Prop := ∃ t a b, k = [t, a, b] ∧ (vwS (endT l) l ⟨f, t⟩).2 ≠ 0 ∧ hasV l ⟨f, t + 1⟩ ∧ (vwS (endT l) l ⟨f, t⟩).1 = a ∧ (vwS (endT l) l ⟨f, t + 1⟩).1 = b
theorem has_v {l : List Rs} {f t : Int} : hasF (lookS l).2 f t = true ↔ hasV l ⟨f, t⟩ := by
 unfold hasF hasV
 rw [st_val]
 simp
theorem hops_gr {l : List Rs} {hs : List Hpx} (h : HopsOk (lookS l).1 (lookS l).2 hs) : GrOk hpk (fun h => h.fl.l) (HopP l) hs := ⟨h.1, h.2.1, fun k f => by
 constructor
 ·rintro ⟨x, hx, rfl, hf⟩
  have := (h.2.2 x.ttl x.addr f).1 ⟨x, hx, rfl, rfl, hf⟩
  exact ⟨x.ttl, x.addr, rfl, st_none.1 this.1, by rw [← ad_val]; exact this.2⟩
 ·rintro ⟨t, a, rfl, h1, h2⟩
  obtain ⟨x, hx, e1, e2, hf⟩ := (h.2.2 t a f).2 ⟨st_none.2 h1, by rw [ad_val]; exact h2⟩
  exact ⟨x, hx, by rw [hpk, e1, e2], hf⟩⟩
theorem edges_gr {l : List Rs} {es : List Ed} (h : EdgesOk (lookS l).1 (lookS l).2 es) : GrOk edk (fun h => h.fl.l) (EdgP l) es := ⟨h.1, h.2.1, fun k f => by
 constructor
 ·rintro ⟨x, hx, rfl, hf⟩
  have := (h.2.2 x.ttl x.frm x.to_ f).1 ⟨x, hx, rfl, rfl, rfl, hf⟩
  exact ⟨x.ttl, x.frm, x.to_, rfl, st_none.1 this.1, has_v.1 this.2.1, by rw [← ad_val]; exact this.2.2.1, by rw [← ad_val]; exact this.2.2.2⟩
 ·rintro ⟨t, a, b, rfl, h1, h2, h3, h4⟩
  obtain ⟨x, hx, e1, e2, e3, hf⟩ := (h.2.2 t a b f).2 ⟨st_none.2 h1, has_v.2 h2, by rw [ad_val]; exact h3, by rw [ad_val]; exact h4⟩
  exact ⟨x, hx, by rw [edk, e1, e2, e3], hf⟩⟩
/-! ### the error -/
theorem any_same {l l' : List Rs} (hs : ∀ r, r ∈ l ↔ r ∈ l') (p : Rs → Bool) : l.any p = l'.any p := by
 rw [Bool.eq_iff_iff, List.any_eq_true, List.any_eq_true]
 exact ⟨fun ⟨x, h1, h2⟩ => ⟨x, (hs x).1 h1, h2⟩, fun ⟨x, h1, h2⟩ => ⟨x, (hs x).2 h1, h2⟩⟩
theorem same_use {l l' : List Rs} (hs : ∀ r, r ∈ l ↔ r ∈ l') : SameUse l l' := fun r _ => hs r
theorem ErrOk.same {l l' : List Rs} (hs : ∀ r, r ∈ l ↔ r ∈ l') {e : Int} (h : ErrOk l (lookS l).2 e) : ErrOk l' (lookS l').2 e := by
 have h3 : (∃ s, (lookS l).2 s = some 3) ↔ ∃ s, (lookS l').2 s = some 3 := by
  simp only [st_three, (same_use hs).vw]
 have ho : ∀ o, IsOrd l o ↔ IsOrd l' o := fun o => by unfold IsOrd; simp only [hs]
 have ht : ∀ o, IsTrc l o ↔ IsTrc l' o := fun o => by unfold IsTrc; simp only [hs]
 unfold ErrOk at h ⊢
 simpa only [any_same hs, ho, ht, h3] using h
theorem ErrOk.eq {l : List Rs} {fs : Spot → Option Int} {e e' : Int} (h : ErrOk l fs e) (h' : ErrOk l fs e') : e = e' := by
 rcases h with ⟨h1, h2⟩ | ⟨h2, o, ho, h3⟩ <;> rcases h' with ⟨k1, k2⟩ | ⟨k2, o', ho', k3⟩
 ·omega
 ·rw [h2] at k2; cases k2
 ·rw [h2] at k2; cases k2
 ·obtain rfl := ho.eq ho'
  rcases h3 with ⟨h3, h4⟩ | ⟨h4, t, ht, h5⟩ <;> rcases k3 with ⟨k3, k4⟩ | ⟨k4, t', ht', k5⟩
  ·omega
  ·omega
  ·omega
  ·obtain rfl := ht.eq ht'
   rcases h5 with ⟨h5, h6⟩ | ⟨h6, h7⟩ <;> rcases k5 with ⟨k5, k6⟩ | ⟨k6, k7⟩
   ·omega
   ·omega
   ·omega
   ·rcases h7 with ⟨h7, h8⟩ | ⟨h7, h8⟩ <;> rcases k7 with ⟨k7, k8⟩ | ⟨k7, k8⟩
    ·omega
    ·exact absurd h8 k8
    ·exact absurd k8 h8
    ·omega
/-! ### how large a graph is -/
theorem vw_used {l : List Rs} {s : Spot} (h : (vwS (endT l) l s).2 ≠ 0) : ∃ r ∈ l, useR (endT l) r = true ∧ spotR r = s := lookS_use (by rw [st_val]; exact h)
theorem vw_rng {l : List Rs} (hok : ∀ r ∈ l, r.Ok) (s : Spot) : 0 ≤ (vwS (endT l) l s).1 ∧ (vwS (endT l) l s).1 ≤ 4294967295 := by
 rcases vinv (endT l) l s with ⟨e, _⟩ | ⟨e, _⟩ | ⟨a, e, ⟨r, hr, _, hr2⟩, _⟩ | ⟨e, _⟩
 ·rw [e]; decide
 ·rw [e]; decide
 ·rw [e]
  have h1 := hok r (List.mem_filter.1 hr).1
  unfold Rs.Ok at h1
  show 0 ≤ a ∧ a ≤ 4294967295
  omega
 ·rw [e]; decide
theorem hops_len {l : List Rs} {hs : List Hpx} (h : HopsOk (lookS l).1 (lookS l).2 hs) : hs.length ≤ l.length := by
 have g := hops_gr h
 have hn : (hs.map hpk).Nodup := List.pairwise_map.2 (g.1.imp fun {x y} hxy e => by rw [e] at hxy; exact absurd hxy (ltK_irrefl (key := hpk) y))
 have := nodup_len (F := l.map fun r => [r.ttl, (vwS (endT l) l (spotR r)).1]) hn fun k hk => by
  obtain ⟨x, hx, rfl⟩ := List.mem_map.1 hk
  obtain ⟨f, hf⟩ := List.exists_mem_of_ne_nil _ (g.2.1 x hx).2
  obtain ⟨t, a, e, h1, h2⟩ := (gr_flows hpk_len g hx f).1 hf
  obtain ⟨r, hr, _, hr2⟩ := vw_used h1
  refine List.mem_map.2 ⟨r, hr, ?_⟩
  rw [e, hr2, h2]
  have : r.ttl = t := congrArg Spot.ttl hr2
  rw [this]
 rwa [List.length_map, List.length_map] at this
theorem edges_len {l : List Rs} {es : List Ed} (h : EdgesOk (lookS l).1 (lookS l).2 es) : es.length ≤ l.length := by
 have g := edges_gr h
 have hn : (es.map edk).Nodup := List.pairwise_map.2 (g.1.imp fun {x y} hxy e => by rw [e] at hxy; exact absurd hxy (ltK_irrefl (key := edk) y))
 have := nodup_len (F := l.map fun r => [r.ttl, (vwS (endT l) l (spotR r)).1, (vwS (endT l) l ⟨r.flow, r.ttl + 1⟩).1]) hn fun k hk => by
  obtain ⟨x, hx, rfl⟩ := List.mem_map.1 hk
  obtain ⟨f, hf⟩ := List.exists_mem_of_ne_nil _ (g.2.1 x hx).2
  obtain ⟨t, a, b, e, h1, h2, h3, h4⟩ := (gr_flows edk_len g hx f).1 hf
  obtain ⟨r, hr, _, hr2⟩ := vw_used h1
  refine List.mem_map.2 ⟨r, hr, ?_⟩
  have e1 : r.ttl = t := congrArg Spot.ttl hr2
  have e2 : r.flow = f := congrArg Spot.flow hr2
  rw [e, hr2, h3, e1, e2, h4]
 rwa [List.length_map, List.length_map] at this
theorem flows_len {l : List Rs} {fl : List Int} (ha : fl.Pairwise (· < ·)) (h : ∀ f ∈ fl, ∃ t, (vwS (endT l) l ⟨f, t⟩).2 ≠ 0) : fl.length ≤ l.length := by
 have := nodup_len (F := l.map (·.flow)) (p := fl) (ha.imp fun h => by omega) fun f hf => by
  obtain ⟨t, ht⟩ := h f hf
  obtain ⟨r, hr, _, hr2⟩ := vw_used ht
  exact List.mem_map.2 ⟨r, hr, congrArg Spot.flow hr2⟩
 rwa [List.length_map] at this
structure MpLen (m : Mp) (n : Nat) : Prop where
 hops : m.hops.l.length ≤ n
 edges : m.edges.l.length ≤ n
 fh : ∀ x ∈ m.hops.l, x.fl.l.length ≤ n ∧ 1 ≤ x.ttl ∧ x.ttl ≤ 255 ∧ 0 ≤ x.addr ∧ x.addr ≤ 4294967295
 fe : ∀ x ∈ m.edges.l, x.fl.l.length ≤ n ∧ (0 ≤ x.frm ∧ x.frm ≤ 4294967295) ∧ 0 ≤ x.to_ ∧ x.to_ ≤ 4294967295
theorem build_len {l : List Rs} {m : Mp} {e : Int} (hok : ∀ r ∈ l, r.Ok) (h : BuildOk l m e) : MpLen m l.length := by
 by_cases h0 : e ≠ 0 ∨ l = []
 ·rw [h.2.1 h0]
  exact ⟨Nat.zero_le _, Nat.zero_le _, fun x hx => absurd hx List.not_mem_nil, fun x hx => absurd hx List.not_mem_nil⟩
 ·have he0 : e = 0 := Decidable.byContradiction fun h1 => h0 (.inl h1)
  have hl : l ≠ [] := fun h1 => h0 (.inr h1)
  obtain ⟨_, _, h3, h4⟩ := h.2.2 he0 hl
  have g := hops_gr h3
  have g' := edges_gr h4
  refine ⟨hops_len h3, edges_len h4, fun x hx => ⟨flows_len (g.2.1 x hx).1 fun f hf => ?_, ?_⟩, fun x hx => ⟨flows_len (g'.2.1 x hx).1 fun f hf => ?_, ?_⟩⟩
  ·obtain ⟨t, a, e, h1, h2⟩ := (gr_flows hpk_len g hx f).1 hf
   exact ⟨t, h1⟩
  ·obtain ⟨f, hf⟩ := List.exists_mem_of_ne_nil _ (g.2.1 x hx).2
   obtain ⟨t, a, e, h1, h2⟩ := (gr_flows hpk_len g hx f).1 hf
   obtain ⟨r, hr, hu, hr2⟩ := vw_used h1
   have e1 : r.ttl = t := congrArg Spot.ttl hr2
   have e2 := use_rng hu
   have e3 := vw_rng hok ⟨f, t⟩
   simp only [hpk, List.cons.injEq, and_true] at e
   omega
  ·obtain ⟨t, a, b, e, h1, h2⟩ := (gr_flows edk_len g' hx f).1 hf
   exact ⟨t, h1⟩
  ·obtain ⟨f, hf⟩ := List.exists_mem_of_ne_nil _ (g'.2.1 x hx).2
   obtain ⟨t, a, b, e, h1, h2, h3, h4⟩ := (gr_flows edk_len g' hx f).1 hf
   have e3 := vw_rng hok ⟨f, t⟩
   have e4 := vw_rng hok ⟨f, t + 1⟩
   simp only [edk, List.cons.injEq, and_true] at e
   omega
set_option maxRecDepth 20000
theorem cod_stab (cb : Nat) : Stab cb (fun w => Cod w cb) := fun w1 w2 h hs => h.keep fun b hb => hs b (by omega)
theorem cod_cells {w : World} {cb : Nat} (h : Cod w cb) : CellsAt w cb := by
  obtain ⟨A, m, c, l, k, hb, _⟩ := h
  exact ⟨_, hb, rfl⟩
theorem next_cod (cb : Nat) (w : World) (n : Int) (h : Cod w cb) :
    Calls Tryz.prog 25 #[.pointer (some ⟨cb, 0, none⟩), .int .i64 n] w fun e w' => ∃ x : {x : Nat // x ≤ 65535 ∧ (1 ≤ n → (x : Int) < n)}, e = .returned (.int .i64 (x.1 : Int)) ∧ Codr (fun w => Cod w cb) cb w [] w' :=
  (next_any cb w n h).mono fun e w' ⟨x, he, h0, h1, h2, hc, hg, _⟩ => by
    obtain ⟨k, rfl⟩ := Int.eq_ofNat_of_zero_le h0
    exact ⟨⟨k, by omega, h2⟩, he, hc, hg, cod_cells hc, (fun q hq => absurd hq List.not_mem_nil), List.Pairwise.nil⟩
theorem grown_cell {w w1 : World} {cb : Nat} {p : Addr} (hg : w.grownBy w1 (some cb)) (hp : p.block ≠ cb) (hl : p.block < w.heap.size) : w1.cell? p = w.cell? p :=
  World.cell?_of_block (hg.block _ hl fun e => hp (by injection e))
theorem flat_row1 {w0 : Base} {L : List Pc} {w : World} {q g n cc i : Nat} {e : TypeId} {k : IntKind} {l : List Int} {x : Int} (h : Pm w0 L w) (hk : L[q]? = some (.row (.slice (some ⟨g, 0, none⟩) n cc) e 1 n (flat (ic k) l))) (hx : l[i]? = some x) : w.cell? ⟨g, i, none⟩ = some (.int k x) := by
  have := flat_row (ic_cel k) h hk hx 0 _ rfl
  rwa [show 0 + i * 1 + 0 = i by omega] at this
theorem ddrnm56 : (Tryz.f56.name == "runtime.NumGoroutine") = false := by decide
theorem ddrbd56 : Tryz.f56.body.isNone = false := rfl
theorem ddrnm25 : (Tryz.f25.name == "runtime.NumGoroutine") = false := by decide
theorem ddrbd25 : Tryz.f25.body.isNone = false := rfl
theorem ddrbs48_8_10220 (a0_0 : Int) (a1_0 : Int) (a2_0 : Int) (a3_0 : Int) (a4_0 : Int) (a5_0 : Int) (a6_0 : Int) (a7_0 : Int) (w : World) : (Instr.buildSlice 48 8 #[(0, .int .i64 a0_0), (1, .int .i64 a1_0), (2, .int .i64 a2_0), (3, .int .i64 a3_0), (4, .int .i64 a4_0), (5, .int .i64 a5_0), (6, .int .i64 a6_0), (7, .int .i64 a7_0)]).run Tryz.prog w = .ok (.slice (some ⟨w.heap.size, 0, none⟩) 8 8) (w.alloc (.cells [.int .i64 a0_0, .int .i64 a1_0, .int .i64 a2_0, .int .i64 a3_0, .int .i64 a4_0, .int .i64 a5_0, .int .i64 a6_0, .int .i64 a7_0].toArray 3)) := by kernel_rfl
theorem ddrnm75 : (Tryz.f75.name == "runtime.NumGoroutine") = false := by decide
theorem ddrbd75 : Tryz.f75.body.isNone = false := rfl
set_option maxHeartbeats 1000000 in
theorem roll_any (A : Option Addr) (n c : Nat) (l : List Int) (w : World) (hb : Byt w w.heap.size A n l) (hc : n ≤ c) (hn : (n : Int) ≤ 9223372036854775807) : Calls Tryz.prog 11 #[.slice A n c] w fun e w' => e = .returned (.pointer (some ⟨w.heap.size, 0, none⟩)) ∧ Cod w' w.heap.size ∧ Below w.heap.size w w' := by
  refine begin_ (vs := [.slice A n c]) (I := fun w1 => w1 = w) Tryz.func11 rfl rfl rfl ?_ rfl
  refine TC.seq_ ?_
  refine TC.region ?_
  refine TL.val rfl rfl rfl (gives_assign rfl rfl) ?_
  refine TL.end_ ?_
  refine TX.then_ ?_
  refine TC.seq_ ?_
  refine TC.region ?_
  refine TL.val rfl rfl rfl (gives_move rfl rfl) ?_
  refine TL.call (α := Unit) (r := fun _ => .pointer (some ⟨w.heap.size, 0, none⟩)) (I' := fun _ w2 => Cod w2 w.heap.size ∧ Below w.heap.size w w2) rfl rfl rfl rfl rfl Tryz.func56 ddrnm56 ddrbd56 (fun w1 hw => by cases hw; exact (new_any A n c l w 400 hb hc (by omega) (by decide) (by decide)).mono fun e w2 ⟨h1, h2, h3, _⟩ => ⟨(), h1, h2, h3⟩) (fun _ => ?_)
  refine TL.val rfl rfl rfl (gives_assign rfl rfl) ?_
  refine TL.end_ ?_
  refine TX.then_ ?_
  refine TC.ret_ ?_
  exact ret_tmp Tryz.results11 rfl (fun w1 hw => ⟨rfl, hw.1, hw.2⟩)
set_option maxHeartbeats 1000000 in
theorem pick_cod (cb : Nat) (w : World) (hC : Cod w cb) (g c : Nat) (tab : List Int) (hgc : g ≠ cb) (hgl : g < w.heap.size) (h0 : 0 < tab.length) (hcell : ∀ (i : Nat) (v : Int), tab[i]? = some v → w.cell? ⟨g, i, none⟩ = some (.int .i64 v)) :
    Calls Tryz.prog 75 #[.pointer (some ⟨cb, 0, none⟩), .slice (some ⟨g, 0, none⟩) tab.length c] w fun e w' => ∃ x : {v : Int // v ∈ tab}, e = .returned (.int .i64 x.1) ∧ Codr (fun w => Cod w cb) cb w ([]) w' := by
  refine begin_ (vs := [.pointer (some ⟨cb, 0, none⟩), .slice (some ⟨g, 0, none⟩) tab.length c]) (I := Pm ⟨w, cb⟩ (.abs cb (fun w => Cod w cb) :: oths cb w)) Tryz.func75 rfl rfl rfl ?_ (Pm.codes hC (cod_cells hC) (cod_stab cb))
  refine TC.seq_ ?_
  refine TC.region ?_
  refine TL.val rfl rfl rfl (gives_assign rfl rfl) ?_
  refine TL.end_ ?_
  refine TX.then_ ?_
  refine TC.seq_ ?_
  refine TC.region ?_
  refine TL.val rfl rfl rfl (gives_move rfl rfl) ?_
  refine TL.val rfl rfl rfl (gives_move rfl rfl) ?_
  refine TL.val rfl rfl rfl (gives_move rfl rfl) ?_
  refine TL.val rfl rfl rfl (gives_len rfl Tryz.underlying48 rfl) ?_
  refine TL.pcallCod (k := 0) (α := {q9 : Nat // q9 ≤ 65535 ∧ (1 ≤ ((tab.length : Nat) : Int) → (q9 : Int) < (tab.length : Nat))}) (fun q9 => .int .i64 ((q9.1 : Nat) : Int)) (fun q9 => []) rfl rfl rfl rfl rfl Tryz.func25 ddrnm25 ddrbd25 rfl (fun w1 hw hC1 => next_cod cb w1 (tab.length : Nat) hC1) ?_
  rintro ⟨x, hx1, hx2⟩
  dsimp only [List.cons_append, List.nil_append]
  refine TL.val rfl rfl rfl (gives_at (v := .pointer (some ⟨g, x, none⟩)) rfl rfl rfl (fun w => at_row Tryz.underlying48 pcmsz3 g _ _ x (by omega) rfl w)) ?_
  obtain ⟨v, hv, hvt⟩ : ∃ v, tab[x]? = some v ∧ v ∈ tab := ⟨_, List.getElem?_eq_getElem (by omega), List.getElem_mem _⟩
  refine TL.val rfl rfl rfl (gives_load (v := .int .i64 v) rfl rfl pcmag3 (fun w1 hw => (grown_cell (hw.kept (fun q hq => by simp [hq])) (by show g ≠ cb; exact hgc) (by show g < _; exact hgl)).trans (hcell x v hv))) ?_
  refine TL.val rfl rfl rfl (gives_assign rfl rfl) ?_
  refine TL.end_ ?_
  refine TX.then_ ?_
  refine TC.ret_ ?_
  exact ret_tmp Tryz.results75 rfl (fun w1 hw => ⟨⟨v, hvt⟩, rfl, Pm.codr [] (hw) rfl⟩)
set_option maxHeartbeats 1000000 in
theorem daddr_cod (cb : Nat) (w : World) (hC : Cod w cb) :
    Calls Tryz.prog 77 #[.pointer (some ⟨cb, 0, none⟩)] w fun e w' => ∃ x : {a : Int // 167772161 ≤ a ∧ a ≤ 167772173}, e = .returned (.int .u32 x.1) ∧ Codr (fun w => Cod w cb) cb w ([]) w' := by
  refine begin_ (vs := [.pointer (some ⟨cb, 0, none⟩)]) (I := Pm ⟨w, cb⟩ (.abs cb (fun w => Cod w cb) :: oths cb w)) Tryz.func77 rfl rfl rfl ?_ (Pm.codes hC (cod_cells hC) (cod_stab cb))
  refine TC.seq_ ?_
  refine TC.region ?_
  refine TL.val rfl rfl rfl (gives_assign rfl rfl) ?_
  refine TL.end_ ?_
  refine TX.then_ ?_
  refine TC.seq_ ?_
  refine TC.region ?_
  refine TL.val rfl rfl rfl (gives_move rfl rfl) ?_
  refine TL.prowS (e := 3) (size := 1) (cs := flat (ic .i64) [1, 2, 5, 6, 9, 10, 12, 13]) rfl rfl rfl rfl rfl (fun w => ddrbs48_8_10220 _ _ _ _ _ _ _ _ w) (by decide) rfl (fun g4 => ?_)
  refine TL.pcallCod (k := 1) (α := {v : Int // v ∈ ([1, 2, 5, 6, 9, 10, 12, 13] : List Int)}) (fun x => .int .i64 x.1) (fun x => []) rfl rfl rfl rfl rfl Tryz.func75 ddrnm75 ddrbd75 rfl (fun w1 hw hC1 => pick_cod cb w1 hC1 g4 8 ([1, 2, 5, 6, 9, 10, 12, 13]) (hw.neq (i := 0) (j := 1) rfl rfl (by decide) g4 rfl <| congrArg some ·.symm) (Pc.lt (hw.at_ (k := 0) rfl) g4 rfl).2 (by show 0 < ([1, 2, 5, 6, 9, 10, 12, 13] : List Int).length; simp) (fun i v hi => flat_row1 hw (q := 0) rfl hi)) ?_
  rintro ⟨v, hv⟩
  dsimp only [List.cons_append, List.nil_append]
  have hvb : 1 ≤ v ∧ v ≤ 13 := by simp only [List.mem_cons, List.not_mem_nil, or_false] at hv; omega
  refine TL.val rfl rfl rfl (gives_bin rfl rfl rfl (fun w => bin_add_ (r := 167772160 + v) (by simp only [IntKind.wrap_i64]; omega) w)) ?_
  refine TL.val rfl rfl rfl (gives_conv rfl rfl (fun w => conv_fit (k := .i64) Tryz.underlying30 Tryz.underlying3 (by simp only [IntKind.wrap_u32]; omega) w)) ?_
  refine TL.val rfl rfl rfl (gives_assign rfl rfl) ?_
  refine TL.end_ ?_
  refine TX.then_ ?_
  refine TC.ret_ ?_
  exact ret_tmp Tryz.results77 rfl (fun w1 hw => ⟨⟨167772160 + v, by omega⟩, rfl, Pm.codr [] (hw.sel (.cons _ (.cons_cons _ (List.Sublist.refl _)))) rfl⟩)
set_option maxHeartbeats 1000000 in
theorem dbool_cod (cb : Nat) (w : World) (hC : Cod w cb) (n : Nat) (hn : n ≤ 1000) :
    Calls Tryz.prog 13 #[.pointer (some ⟨cb, 0, none⟩), .int .i64 ((n : Nat) : Int)] w fun e w' => ∃ x : Bool, e = .returned (.bool x) ∧ Codr (fun w => Cod w cb) cb w ([]) w' := by
  refine begin_ (vs := [.pointer (some ⟨cb, 0, none⟩), .int .i64 ((n : Nat) : Int)]) (I := Pm ⟨w, cb⟩ (.abs cb (fun w => Cod w cb) :: oths cb w)) Tryz.func13 rfl rfl rfl ?_ (Pm.codes hC (cod_cells hC) (cod_stab cb))
  refine TC.seq_ ?_
  refine TC.region ?_
  refine TL.val rfl rfl rfl (gives_assign rfl rfl) ?_
  refine TL.end_ ?_
  refine TX.then_ ?_
  refine TC.seq_ ?_
  refine TC.region ?_
  refine TL.val rfl rfl rfl (gives_move rfl rfl) ?_
  refine TL.val rfl rfl rfl (gives_move rfl rfl) ?_
  refine TL.pcallCod (k := 0) (α := {q9 : Nat // q9 ≤ 65535 ∧ (1 ≤ (((n : Nat) : Int) : Int) → (q9 : Int) < ((n : Nat) : Int))}) (fun q9 => .int .i64 ((q9.1 : Nat) : Int)) (fun q9 => []) rfl rfl rfl rfl rfl Tryz.func25 ddrnm25 ddrbd25 rfl (fun w1 hw hC1 => next_cod cb w1 ((n : Nat) : Int) hC1) ?_
  rintro ⟨x, hx1, hx2⟩
  dsimp only [List.cons_append, List.nil_append]
  refine TL.val rfl rfl rfl (gives_move rfl rfl) ?_
  refine TL.val rfl rfl rfl (gives_bin rfl rfl rfl (fun w => bin_sub_ (r := (n : Int) - 1) (by simp only [IntKind.wrap_i64]; omega) w)) ?_
  refine TL.val rfl rfl rfl (gives_bin rfl rfl rfl (fun w => bin_eql w)) ?_
  refine TL.val rfl rfl rfl (gives_assign rfl rfl) ?_
  refine TL.end_ ?_
  refine TX.then_ ?_
  refine TC.ret_ ?_
  exact ret_tmp Tryz.results13 rfl (fun w1 hw => ⟨decide (((x : Nat) : Int) = (n : Int) - 1), rfl, Pm.codr [] (hw) rfl⟩)
set_option maxRecDepth 20000
def TrOk (t : Trc) : Prop := (0 ≤ t.v ∧ t.v ≤ 1) ∧ (167774464 ≤ t.dst ∧ t.dst ≤ 167774466) ∧ (t.proto = 17 ∨ t.proto = 1 ∨ t.proto = 6)
structure Nt where
 v : Int
 dst : Int
 proto : Int
 ps : Sg (Sg Int)
 last : Int
def Nt.cells (n : Nt) : List Value := [.int .i64 n.v, .int .u32 n.dst, .int .i64 n.proto, .slice n.ps.A n.ps.l.length n.ps.c, .int .u32 n.last]
theorem nt_cel : Cel Nt.cells 5 := ⟨fun _ => rfl, fun r u hu => by
 simp only [Nt.cells, List.mem_cons, List.not_mem_nil, or_false] at hu
 rcases hu with rfl | rfl | rfl | rfl | rfl <;> rfl⟩
def PathW (n : Nat) (l : List Int) : Prop := l.length = n ∧ ∀ a ∈ l, 0 ≤ a ∧ a ≤ 167772173
def NtOk (n : Nt) : Prop := TrOk ⟨n.v, n.dst, n.proto⟩ ∧ (1 ≤ n.last ∧ n.last ≤ 167774466) ∧ ∃ lg, 1 ≤ lg ∧ lg ≤ 3 ∧ 1 ≤ n.ps.l.length ∧ n.ps.l.length ≤ 3 ∧ ∀ s ∈ n.ps.l, PathW lg s.l
theorem ad_snoc {p : List Int} {x : Int} (h : ∀ a ∈ p, 0 ≤ a ∧ a ≤ 167772173) (hx : 0 ≤ x ∧ x ≤ 167772173) : ∀ a ∈ p ++ [x], 0 ≤ a ∧ a ≤ 167772173 := fun a ha => by
 rcases List.mem_append.1 ha with ha | ha
 ·exact h a ha
 ·rw [List.mem_singleton.1 ha]; exact hx
theorem pw_snoc {pp : List (Sg Int)} {s : Sg Int} {n : Nat} (h : ∀ s ∈ pp, PathW n s.l) (hs : PathW n s.l) : ∀ x ∈ pp ++ [s], PathW n x.l := fun a ha => by
 rcases List.mem_append.1 ha with ha | ha
 ·exact h a ha
 ·rw [List.mem_singleton.1 ha]; exact hs
def netP (p : Sg (Sg Int)) : List Pc := .row (.slice p.A p.l.length p.c) 64 1 p.l.length (flat sgc p.l) :: segG 30 1 (flat (ic .u32)) p.l
theorem netP_noAbs (p : Sg (Sg Int)) : noAbs (netP p) = true := by
 have h := segG_noAbs (e := 30) (size := 1) (enc := flat (ic .u32)) p.l
 simp only [noAbs, netP, List.all_cons, Bool.and_eq_true] at h ⊢
 exact ⟨rfl, h⟩
section
variable {w0 : Base} {w : World} {α : Type} {e : TypeId} {size : Nat} {enc : List α → List Value} {L P O : List Pc} {ss : List (Sg α)} {s : Sg α}
theorem Pm.tuckEnd (h : Pm w0 (.row (.slice s.A s.l.length s.c) e size s.l.length (enc s.l) :: (P ++ (segG e size enc ss ++ O))) w) : Pm w0 (P ++ (segG e size enc (ss ++ [s]) ++ O)) w := by
 refine h.permute ?_
 have h1 : segG e size enc (ss ++ [s]) = segG e size enc ss ++ [.row (.slice s.A s.l.length s.c) e size s.l.length (enc s.l)] := List.map_append
 rw [h1, List.append_assoc]
 refine List.perm_middle.symm.trans (List.Perm.append_left P ?_)
 exact List.perm_middle.symm
theorem Pm.netOut {p : Sg (Sg Int)} {a : Pc} (h : Pm w0 (.row (.slice p.A p.l.length p.c) 64 1 p.l.length (flat sgc p.l) :: a :: (segG 30 1 (flat (ic .u32)) p.l ++ O)) w) : Pm w0 (netP p ++ a :: O) w := by
 refine h.permute (List.Perm.cons _ ?_)
 exact List.perm_middle.symm
theorem seg_mem {T : List Pc} (h : s ∈ ss) : Pc.row (.slice s.A s.l.length s.c) e size s.l.length (enc s.l) ∈ segG e size enc ss ++ T := List.mem_append_left _ (List.mem_map_of_mem (f := Sg.pc e size enc) h)
theorem segA {A : Option Addr} {n c : Nat} {xs : List Value} (h : Pm w0 L w) (hm : Pc.row (.slice A n c) e size n xs ∈ L) (hn : 0 < n) : ∃ g, A = some ⟨g, 0, none⟩ := by
 obtain ⟨k, hk⟩ := List.getElem?_of_mem hm
 exact rowA h hk hn
theorem seg_cell {c : α → List Value} {k g i : Nat} {x : α} (K : Cel c k) (h : Pm w0 L w) (hm : Pc.row (.slice s.A s.l.length s.c) e k s.l.length (flat c s.l) ∈ L) (hA : s.A = some ⟨g, 0, none⟩) (hx : s.l[i]? = some x) (j : Nat) (u : Value) (hu : (c x)[j]? = some u) : w.cell? ⟨g, 0 + i * k + j, none⟩ = some u := by
 obtain ⟨q, hq⟩ := List.getElem?_of_mem hm
 rw [hA] at hq
 exact flat_row K h hq hx j u hu
end
theorem dntnm159 : (Tryz.f159.name == "runtime.NumGoroutine") = false := by decide
theorem dntbd159 : Tryz.f159.body.isNone = false := rfl
theorem dntzv119 (w : World) : (zeroValue 119).run Tryz.prog w = .ok (.agg #[.int .i64 0, .int .u32 0, .int .i64 0, .slice none 0 0, .int .u32 0]) w := rfl
theorem dntnm111 : (Tryz.f111.name == "runtime.NumGoroutine") = false := by decide
theorem dntbd111 : Tryz.f111.body.isNone = false := rfl
theorem dntbld119_60100 (a0_0 : Int) (a0_1 : Int) (a0_2 : Int) (w : World) : (Instr.build 119 #[(0, .agg #[.int .i64 a0_0, .int .u32 a0_1, .int .i64 a0_2])]).run Tryz.prog w = .ok (.agg #[.int .i64 a0_0, .int .u32 a0_1, .int .i64 a0_2, .slice none 0 0, .int .u32 0]) w := by kernel_rfl
theorem dntsz119 (w : World) : (sizeOf 119).run Tryz.prog w = .ok 5 w := rfl
theorem dntone_i64u32i64su32 {a0 : Int} {a1 : Int} {a2 : Int} {a3 : Option Addr} {n3 c3 : Nat} {a4 : Int} : ∀ u ∈ [(.int .i64 a0 : Value), .int .u32 a1, .int .i64 a2, .slice a3 n3 c3, .int .u32 a4], u.oneCell' = true := by
 intro u hu
 simp only [List.mem_cons, List.not_mem_nil, or_false] at hu
 rcases hu with rfl | rfl | rfl | rfl | rfl <;> rfl
theorem dntfld119_0 (g o : Nat) (w : World) : (Instr.fieldAt 119 (.pointer (some ⟨g, o, none⟩)) 0).run Tryz.prog w = .ok (.pointer (some ⟨g, o + 0, none⟩)) w := by kernel_rfl
theorem dntfld119_2 (g o : Nat) (w : World) : (Instr.fieldAt 119 (.pointer (some ⟨g, o, none⟩)) 2).run Tryz.prog w = .ok (.pointer (some ⟨g, o + 4, none⟩)) w := by kernel_rfl
theorem dntsz30 (w : World) : (sizeOf 30).run Tryz.prog w = .ok 1 w := rfl
theorem dntone_u32 {a0 : Int} : ∀ u ∈ [(.int .u32 a0 : Value)], u.oneCell' = true := by
 intro u hu
 rw [List.mem_singleton] at hu
 subst hu; rfl
theorem dntnm13 : (Tryz.f13.name == "runtime.NumGoroutine") = false := by decide
theorem dntbd13 : Tryz.f13.body.isNone = false := rfl
theorem dntnm77 : (Tryz.f77.name == "runtime.NumGoroutine") = false := by decide
theorem dntbd77 : Tryz.f77.body.isNone = false := rfl
theorem dntfld119_1 (g o : Nat) (w : World) : (Instr.fieldAt 119 (.pointer (some ⟨g, o, none⟩)) 1).run Tryz.prog w = .ok (.pointer (some ⟨g, o + 3, none⟩)) w := by kernel_rfl
theorem dntag117 (w : World) : (isAgg 117).run Tryz.prog w = .ok false w := rfl
theorem dntsz64 (w : World) : (sizeOf 64).run Tryz.prog w = .ok 1 w := rfl
theorem dntag64 (w : World) : (isAgg 64).run Tryz.prog w = .ok false w := rfl
theorem dntbs64_1_5377 (a0_0 : Int) (w : World) : (Instr.buildSlice 64 1 #[(0, .int .u32 a0_0)]).run Tryz.prog w = .ok (.slice (some ⟨w.heap.size, 0, none⟩) 1 1) (w.alloc (.cells [.int .u32 a0_0].toArray 30)) := by kernel_rfl
theorem dntel64 : Elem Tryz.prog 64 30 1 4 := Elem.mk' Tryz.underlying64 (z := .int .u32 0) (by kernel_rfl) rfl (by omega) (by omega)
theorem dntbs117_1_58639 (a0_0 : Option Addr) (a0_0n a0_0c : Nat) (w : World) : (Instr.buildSlice 117 1 #[(0, .slice a0_0 a0_0n a0_0c)]).run Tryz.prog w = .ok (.slice (some ⟨w.heap.size, 0, none⟩) 1 1) (w.alloc (.cells [.slice a0_0 a0_0n a0_0c].toArray 64)) := by kernel_rfl
theorem dntel117 : Elem Tryz.prog 117 64 1 24 := Elem.mk' Tryz.underlying117 (z := .slice none 0 0) (by kernel_rfl) rfl (by omega) (by omega)
theorem dntsz117 (w : World) : (sizeOf 117).run Tryz.prog w = .ok 1 w := rfl
theorem dntag119 (w : World) : (isAgg 119).run Tryz.prog w = .ok true w := rfl
set_option maxHeartbeats 1000000 in
theorem dproto_cod (cb : Nat) (w : World) (hC : Cod w cb) :
  Calls Tryz.prog 159 #[.pointer (some ⟨cb, 0, none⟩)] w fun e w' => ∃ x : {v : Int // v = 17 ∨ v = 1 ∨ v = 6}, e = .returned (.int .i64 x.1) ∧ Codr (fun w => Cod w cb) cb w ([]) w' := by
 refine begin_ (vs := [.pointer (some ⟨cb, 0, none⟩)]) (I := Pm ⟨w, cb⟩ (.abs cb (fun w => Cod w cb) :: oths cb w)) Tryz.func159 rfl rfl rfl ?_ (Pm.codes hC (cod_cells hC) (cod_stab cb))
 refine TC.seq_ (TC.region ?_)
 refine TL.as_ ?_
 refine TL.end_ (TX.then_ (TC.seq_ (TC.region ?_)))
 refine TL.mv ?_
 refine TL.prowS (e := 3) (size := 1) (cs := flat (ic .i64) [17, 1, 6]) rfl rfl rfl rfl rfl (fun w => pcmbs48_3_44640 _ _ _ w) (by decide) rfl (fun g4 => ?_)
 refine TL.pcallCod (k := 1) (α := {v : Int // v ∈ ([17, 1, 6] : List Int)}) (fun x => .int .i64 x.1) (fun x => []) rfl rfl rfl rfl rfl Tryz.func75 ddrnm75 ddrbd75 rfl (fun w1 hw hC1 => pick_cod cb w1 hC1 g4 3 ([17, 1, 6]) (hw.neq (i := 0) (j := 1) rfl rfl (by decide) g4 rfl <| congrArg some ·.symm) (Pc.lt (hw.at_ (k := 0) rfl) g4 rfl).2 (by show 0 < ([17, 1, 6] : List Int).length; simp) (fun i v hi => flat_row1 hw (q := 0) rfl hi)) ?_
 rintro ⟨v, hv⟩
 dsimp only [List.cons_append, List.nil_append]
 have hvb : v = 17 ∨ v = 1 ∨ v = 6 := by simpa using hv
 refine TL.as_ ?_
 refine TL.end_ (TX.then_ (TC.ret_ ?_))
 exact ret_tmp Tryz.results159 rfl (fun w1 hw => ⟨⟨v, hvb⟩, rfl, Pm.codr [] (hw.sel (.cons _ (.cons_cons _ (List.Sublist.refl _)))) rfl⟩)
set_option maxHeartbeats 1000000 in
theorem dtrace_cod (cb : Nat) (w : World) (hC : Cod w cb) :
  Calls Tryz.prog 111 #[.pointer (some ⟨cb, 0, none⟩)] w fun e w' => ∃ x : {t : Trc // TrOk t}, e = .returned (.agg x.1.cells.toArray) ∧ Codr (fun w => Cod w cb) cb w ([]) w' := by
 refine begin_ (vs := [.pointer (some ⟨cb, 0, none⟩)]) (I := Pm ⟨w, cb⟩ (.abs cb (fun w => Cod w cb) :: oths cb w)) Tryz.func111 rfl rfl rfl ?_ (Pm.codes hC (cod_cells hC) (cod_stab cb))
 refine TC.seq_ (TC.region ?_)
 refine TL.pnew rfl rfl rfl (exec_alloc (cs := [.int .i64 0, .int .u32 0, .int .i64 0]) rfl prszv32 rfl) (fun g2 => ?_)
 refine TL.end_ (TX.then_ (TC.seq_ (TC.region ?_)))
 refine TL.mv ?_
 refine TL.pcallCod (k := 1) (α := {q9 : Nat // q9 ≤ 65535 ∧ (1 ≤ (2 : Int) → (q9 : Int) < 2)}) (fun q9 => .int .i64 ((q9.1 : Nat) : Int)) (fun q9 => []) rfl rfl rfl rfl rfl Tryz.func25 ddrnm25 ddrbd25 rfl (fun w1 hw hC1 => next_cod cb w1 2 hC1) ?_
 rintro ⟨a0, ha01, ha02⟩
 dsimp only [List.cons_append, List.nil_append]
 refine TL.mv ?_
 refine TL.pcallCod (k := 1) (α := {q9 : Nat // q9 ≤ 65535 ∧ (1 ≤ (3 : Int) → (q9 : Int) < 3)}) (fun q9 => .int .i64 ((q9.1 : Nat) : Int)) (fun q9 => []) rfl rfl rfl rfl rfl Tryz.func25 ddrnm25 ddrbd25 rfl (fun w1 hw hC1 => next_cod cb w1 3 hC1) ?_
 rintro ⟨a1, ha11, ha12⟩
 dsimp only [List.cons_append, List.nil_append]
 refine TL.val rfl rfl rfl (gives_bin rfl rfl rfl (fun w => bin_add_ (r := ((167774464 + a1 : Nat) : Int)) (by simp only [IntKind.wrap_i64]; omega) w)) ?_
 refine TL.val rfl rfl rfl (gives_conv rfl rfl (fun w => conv_fit (k := .i64) Tryz.underlying30 Tryz.underlying3 (by simp only [IntKind.wrap_u32]; omega) w)) ?_
 refine TL.mv ?_
 refine TL.pcallCod (k := 1) (α := {v : Int // v = 17 ∨ v = 1 ∨ v = 6}) (fun x => .int .i64 x.1) (fun x => []) rfl rfl rfl rfl rfl Tryz.func159 dntnm159 dntbd159 rfl (fun w1 hw hC1 => dproto_cod cb w1 hC1) ?_
 rintro ⟨pp, hpp⟩
 dsimp only [List.cons_append, List.nil_append]
 refine TL.val rfl rfl rfl (gives_build (v := .agg #[.int .i64 ((a0 : Nat) : Int), .int .u32 ((167774464 + a1 : Nat) : Int), .int .i64 pp]) rfl rfl (fun w => prsbld32_57312 _ _ _ w)) ?_
 refine TL.pstore (k := 0) (vs := [.int .i64 ((a0 : Nat) : Int), .int .u32 ((167774464 + a1 : Nat) : Int), .int .i64 pp]) rfl rfl rfl rfl rfl rfl rfl prssz32 prsone_i64u32i64 (by show 3 ≤ 3; decide) rfl ?_
 refine TL.end_ (TX.then_ (TC.ret_ ?_))
 exact pm_ret_cell (k := 0) Tryz.results111 rfl rfl Tryz.underlying32 rfl rfl (fun w1 hw => ⟨⟨⟨((a0 : Nat) : Int), ((167774464 + a1 : Nat) : Int), pp⟩, by unfold TrOk; dsimp only; omega⟩, rfl, Pm.codr [] (hw.sel (.cons _ (.cons_cons _ (List.Sublist.refl _)))) rfl⟩)
set_option maxHeartbeats 1000000 in
theorem scene_cod (cb : Nat) (w : World) (hC : Cod w cb) :
  Calls Tryz.prog 74 #[.pointer (some ⟨cb, 0, none⟩)] w fun e w' => ∃ x : {y : Nt // NtOk y}, e = .returned (.agg x.1.cells.toArray) ∧ Codr (fun w => Cod w cb) cb w (netP x.1.ps) w' := by
 refine begin_ (vs := [.pointer (some ⟨cb, 0, none⟩)]) (I := Pm ⟨w, cb⟩ (.abs cb (fun w => Cod w cb) :: oths cb w)) Tryz.func74 rfl rfl rfl ?_ (Pm.codes hC (cod_cells hC) (cod_stab cb))
 refine TC.seq_ (TC.region ?_)
 refine TL.pnew rfl rfl rfl (exec_alloc (cs := [.int .i64 0, .int .u32 0, .int .i64 0, .slice none 0 0, .int .u32 0]) rfl dntzv119 rfl) (fun g2 => ?_)
 refine TL.end_ (TX.then_ (TC.seq_ (TC.region ?_)))
 refine TL.mv ?_
 refine TL.pcallCod (k := 1) (α := {t : Trc // TrOk t}) (fun x => .agg (x.1.cells).toArray) (fun x => []) rfl rfl rfl rfl rfl Tryz.func111 dntnm111 dntbd111 rfl (fun w1 hw hC1 => dtrace_cod cb w1 hC1) ?_
 rintro ⟨tr, htr⟩
 dsimp only [List.cons_append, List.nil_append]
 refine TL.val rfl rfl rfl (gives_build (v := .agg #[.int .i64 tr.v, .int .u32 tr.dst, .int .i64 tr.proto, .slice none 0 0, .int .u32 0]) rfl rfl (fun w => dntbld119_60100 _ _ _ w)) ?_
 refine TL.pnew rfl rfl rfl (exec_alloc (cs := [.int .i64 0, .int .u32 0, .int .i64 0, .slice none 0 0, .int .u32 0]) rfl dntzv119 rfl) (fun g3 => ?_)
 refine TL.pstore (k := 0) (vs := [.int .i64 tr.v, .int .u32 tr.dst, .int .i64 tr.proto, .slice none 0 0, .int .u32 0]) rfl rfl rfl rfl rfl rfl rfl dntsz119 dntone_i64u32i64su32 (by show 5 ≤ 5; decide) rfl ?_
 refine TL.end_ (TX.then_ (TC.seq_ ?_))
 have htr2 := htr
 unfold TrOk at htr2
 refine TC.region ?_
 refine TL.val rfl rfl rfl (gives_field (v := .pointer (some ⟨g3, 0, none⟩)) rfl rfl (fun w => dntfld119_0 _ _ w)) ?_
 refine TL.val rfl rfl rfl (gives_field (v := .pointer (some ⟨g3, 1, none⟩)) rfl rfl (fun w => pcmfld32_1 _ _ w)) ?_
 refine TL.val rfl rfl rfl (pm_load (k := 0) (i := 1) rfl rfl pcmag30 rfl rfl) ?_
 refine TL.val rfl rfl rfl (gives_field (v := .pointer (some ⟨g3, 4, none⟩)) rfl rfl (fun w => dntfld119_2 _ _ w)) ?_
 refine TL.pstore (k := 0) (vs := [.int .u32 tr.dst]) rfl rfl rfl rfl rfl rfl rfl dntsz30 dntone_u32 (by show 5 ≤ 5; decide) rfl ?_
 refine TL.end_ (TX.then_ ?_)
 refine TC.join (α := {a : Int // 1 ≤ a ∧ a ≤ 167774466}) (fun y => [(0, .pointer (some ⟨cb, 0, none⟩)), (2, .pointer (some ⟨g2, 0, none⟩)), (3, .pointer (some ⟨g3, 0, none⟩))]) (fun y => Pm ⟨w, cb⟩ ([.blk g3 119 [.int .i64 tr.v, .int .u32 tr.dst, .int .i64 tr.proto, .slice none 0 0, .int .u32 y.1], .blk g2 119 [.int .i64 0, .int .u32 0, .int .i64 0, .slice none 0 0, .int .u32 0], .abs cb (fun w => Cod w cb)] ++ oths cb w)) ?_ ?_
 ·refine TC.seq_ (TC.region ?_)
  refine TL.mv ?_
  refine TL.pcallCod (k := 2) (α := Bool) (fun x => .bool x) (fun x => []) rfl rfl rfl rfl rfl Tryz.func13 dntnm13 dntbd13 rfl (fun w1 hw hC1 => dbool_cod cb w1 hC1 4 (by decide)) ?_
  rintro b0
  dsimp only [List.cons_append, List.nil_append]
  refine TL.end_ (TX.then_ ?_)
  refine TC.split (t := b0) rfl (fun c17 => ?_) (fun c17 => ?_)
  ·refine TC.region ?_
   refine TL.mv ?_
   refine TL.pcallCod (k := 2) (α := {a : Int // 167772161 ≤ a ∧ a ≤ 167772173}) (fun x => .int .u32 x.1) (fun x => []) rfl rfl rfl rfl rfl Tryz.func77 dntnm77 dntbd77 rfl (fun w1 hw hC1 => daddr_cod cb w1 hC1) ?_
   rintro ⟨ad, had1, had2⟩
   dsimp only [List.cons_append, List.nil_append]
   refine TL.val rfl rfl rfl (gives_field (v := .pointer (some ⟨g3, 4, none⟩)) rfl rfl (fun w => dntfld119_2 _ _ w)) ?_
   refine TL.pstore (k := 0) (vs := [.int .u32 ad]) rfl rfl rfl rfl rfl rfl rfl dntsz30 dntone_u32 (by show 5 ≤ 5; decide) rfl ?_
   refine TL.end_ ?_
   exact TX.joined (⟨ad, by omega⟩) (⟨rfl, rfl, rfl, trivial⟩) (fun w1 hw => hw)
  ·refine TC.skip_ ?_
   exact TX.joined (⟨tr.dst, by omega⟩) (⟨rfl, rfl, rfl, trivial⟩) (fun w1 hw => hw)
 ·rintro ⟨la, hla⟩
  dsimp only at hla ⊢
  refine TC.seq_ (TC.region ?_)
  refine TL.mv ?_
  refine TL.pcallCod (k := 2) (α := {q9 : Nat // q9 ≤ 65535 ∧ (1 ≤ (3 : Int) → (q9 : Int) < 3)}) (fun q9 => .int .i64 ((q9.1 : Nat) : Int)) (fun q9 => []) rfl rfl rfl rfl rfl Tryz.func25 ddrnm25 ddrbd25 rfl (fun w1 hw hC1 => next_cod cb w1 3 hC1) ?_
  rintro ⟨lg, hlg1, hlg2⟩
  dsimp only [List.cons_append, List.nil_append]
  refine TL.val rfl rfl rfl (gives_bin rfl rfl rfl (fun w => bin_add_ (r := ((lg + 1 : Nat) : Int)) (by simp only [IntKind.wrap_i64]; omega) w)) ?_
  refine TL.as_ ?_
  refine TL.end_ (TX.then_ (TC.seq_ (TC.seq_ (TC.region ?_))))
  refine TL.as_ ?_
  refine TL.end_ (TX.then_ (TC.block ?_))
  refine TC.nilrow 64 1 ?_
  refine TC.loop_ (α := {y : Nat × (Option Addr × Nat) × List (Sg Int) // y.1 ≤ 3 ∧ y.2.2.length = y.1 ∧ (∀ s ∈ y.2.2, PathW (lg + 1) s.l) ∧ y.2.2.length ≤ y.2.1.2 ∧ y.2.1.2 ≤ maxLen}) (fun y => [(0, .pointer (some ⟨cb, 0, none⟩)), (2, .pointer (some ⟨g2, 0, none⟩)), (3, .pointer (some ⟨g3, 0, none⟩)), (4, .int .i64 ((lg + 1 : Nat) : Int)), (5, .int .i64 ((y.1.1 : Nat) : Int))]) (fun y => Pm ⟨w, cb⟩ ([.row (.slice y.1.2.1.1 y.1.2.2.length y.1.2.1.2) 64 1 y.1.2.2.length (flat sgc y.1.2.2), .blk g3 119 [.int .i64 tr.v, .int .u32 tr.dst, .int .i64 tr.proto, .slice y.1.2.1.1 y.1.2.2.length y.1.2.1.2, .int .u32 la], .blk g2 119 [.int .i64 0, .int .u32 0, .int .i64 0, .slice none 0 0, .int .u32 0], .abs cb (fun w => Cod w cb)] ++ (segG 30 1 (flat (ic .u32)) y.1.2.2 ++ oths cb w))) (fun y => 3 - y.1.1) (⟨(0, (none, 0), []), Nat.zero_le _, rfl, fun s hs => absurd hs List.not_mem_nil, Nat.le_refl _, Nat.zero_le _⟩) ⟨rfl, rfl, rfl, rfl, rfl, trivial⟩ (fun w1 hw => hw) ?_
  rintro ⟨⟨f, ⟨Ap, cp⟩, pp⟩, hf, hfl, hpw, hpc, hpm⟩
  dsimp only at hf hfl hpw hpc hpm ⊢
  refine TC.seq_ (TC.seq_ (TC.region ?_))
  refine TL.mv ?_
  refine TL.mv ?_
  refine TL.pcallCod (k := 3) (α := {q9 : Nat // q9 ≤ 65535 ∧ (1 ≤ (3 : Int) → (q9 : Int) < 3)}) (fun q9 => .int .i64 ((q9.1 : Nat) : Int)) (fun q9 => []) rfl rfl rfl rfl rfl Tryz.func25 ddrnm25 ddrbd25 rfl (fun w1 hw hC1 => next_cod cb w1 3 hC1) ?_
  rintro ⟨nf, hnf1, hnf2⟩
  dsimp only [List.cons_append, List.nil_append]
  refine TL.val rfl rfl rfl (gives_bin rfl rfl rfl (fun w => bin_add_ (r := ((1 + nf : Nat) : Int)) (by simp only [IntKind.wrap_i64]; omega) w)) ?_
  refine TL.vsplit rfl rfl rfl (gives_bin rfl rfl rfl (fun w => bin_lss w)) (fun h28 => ?_) (fun h28 => ?_)
  ·have q28 := of_decide_eq_true h28
   refine TL.end_ (TX.then_ (TC.condT rfl (TC.skip_ (TX.then_ (TC.seq_ (TC.block (TC.seq_ (TC.region ?_))))))))
   refine TL.as_ ?_
   refine TL.end_ (TX.then_ (TC.seq_ (TC.seq_ (TC.region ?_))))
   refine TL.as_ ?_
   refine TL.end_ (TX.then_ (TC.block ?_))
   refine TC.nilrow 30 1 ?_
   refine TC.loop_ (α := {y : Nat × (Option Addr × Nat) × List Int // y.1 ≤ lg + 1 ∧ y.2.2.length = y.1 ∧ (∀ a ∈ y.2.2, 0 ≤ a ∧ a ≤ 167772173) ∧ y.2.2.length ≤ y.2.1.2 ∧ y.2.1.2 ≤ maxLen}) (fun y => [(0, .pointer (some ⟨cb, 0, none⟩)), (2, .pointer (some ⟨g2, 0, none⟩)), (3, .pointer (some ⟨g3, 0, none⟩)), (4, .int .i64 ((lg + 1 : Nat) : Int)), (5, .int .i64 ((f : Nat) : Int)), (7, .int .i64 ((y.1.1 : Nat) : Int)), (6, .slice y.1.2.1.1 y.1.2.2.length y.1.2.1.2)]) (fun y => Pm ⟨w, cb⟩ ([.row (.slice y.1.2.1.1 y.1.2.2.length y.1.2.1.2) 30 1 y.1.2.2.length (flat (ic .u32) y.1.2.2), .row (.slice Ap pp.length cp) 64 1 pp.length (flat sgc pp), .blk g3 119 [.int .i64 tr.v, .int .u32 tr.dst, .int .i64 tr.proto, .slice Ap pp.length cp, .int .u32 la], .blk g2 119 [.int .i64 0, .int .u32 0, .int .i64 0, .slice none 0 0, .int .u32 0], .abs cb (fun w => Cod w cb)] ++ (segG 30 1 (flat (ic .u32)) pp ++ oths cb w))) (fun y => lg + 1 - y.1.1) (⟨(0, (none, 0), []), Nat.zero_le _, rfl, fun s hs => absurd hs List.not_mem_nil, Nat.le_refl _, Nat.zero_le _⟩) ⟨rfl, rfl, rfl, rfl, rfl, rfl, rfl, trivial⟩ (fun w1 hw => hw) ?_
   rintro ⟨⟨i, ⟨Aq, cq⟩, p⟩, hi, hil, hpr, hqc, hqm⟩
   dsimp only at hi hil hpr hqc hqm ⊢
   refine TC.seq_ (TC.seq_ (TC.region ?_))
   refine TL.mv ?_
   refine TL.mv ?_
   refine TL.vsplit rfl rfl rfl (gives_bin rfl rfl rfl (fun w => bin_lss w)) (fun h33 => ?_) (fun h33 => ?_)
   ·have q33 := of_decide_eq_true h33
    refine TL.end_ (TX.then_ (TC.condT rfl (TC.skip_ (TX.then_ (TC.seq_ (TC.block (TC.seq_ (TC.region ?_))))))))
    refine TL.mv ?_
    refine TL.pcallCod (k := 4) (α := {a : Int // 167772161 ≤ a ∧ a ≤ 167772173}) (fun x => .int .u32 x.1) (fun x => []) rfl rfl rfl rfl rfl Tryz.func77 dntnm77 dntbd77 rfl (fun w1 hw hC1 => daddr_cod cb w1 hC1) ?_
    rintro ⟨ad, had1, had2⟩
    dsimp only [List.cons_append, List.nil_append]
    refine TL.as_ ?_
    refine TL.end_ (TX.then_ (TC.seq_ (TC.seq_ (TC.region ?_))))
    refine TL.mv ?_
    refine TL.pcallCod (k := 4) (α := Bool) (fun x => .bool x) (fun x => []) rfl rfl rfl rfl rfl Tryz.func13 dntnm13 dntbd13 rfl (fun w1 hw hC1 => dbool_cod cb w1 hC1 6 (by decide)) ?_
    rintro b1
    dsimp only [List.cons_append, List.nil_append]
    refine TL.end_ (TX.then_ ?_)
    refine TC.split (t := b1) rfl (fun c39 => ?_) (fun c39 => ?_)
    ·refine TC.region ?_
     refine TL.as_ ?_
     refine TL.end_ (TX.then_ (TC.seq_ (TC.seq_ (TC.region ?_))))
     refine TL.mv ?_
     refine TL.vsplit rfl rfl rfl (gives_bin rfl rfl rfl (fun w => bin_gtr w)) (fun h41 => ?_) (fun h41 => ?_)
     ·have q41 := of_decide_eq_true h41
      iterate 4 (first | refine TL.gu ?_ | refine TL.mv ?_)
      refine TL.val rfl rfl rfl (gives_field (v := .pointer (some ⟨g3, 3, none⟩)) rfl rfl (fun w => dntfld119_1 _ _ w)) ?_
      refine TL.gu ?_
      refine TL.val rfl rfl rfl (pm_load (k := 2) (i := 3) rfl rfl dntag117 rfl rfl) ?_
      refine TL.gu ?_
      refine TL.fact (p := ∃ g, Ap = some ⟨g, 0, none⟩) (fun w1 hw => rowA hw (k := 1) rfl (by omega)) ?_
      rintro ⟨g_Ap, rfl⟩
      have hi46 : 0 < pp.length := by omega
      obtain ⟨x46, hx46⟩ : ∃ x46, pp[0]? = some x46 := ⟨_, List.getElem?_eq_getElem hi46⟩
      refine TL.val rfl rfl rfl (gives_at (v := .pointer (some ⟨g_Ap, 0 + 0 * 1, none⟩)) rfl rfl rfl (fun w => at_el Tryz.underlying117 dntsz64 rfl _ _ 0 (by omega) rfl w)) ?_
      refine TL.gu ?_
      refine TL.val rfl rfl rfl (gives_load (v := .slice x46.A x46.l.length x46.c) rfl rfl dntag64 (fun w1 hw => flat_row sgc_cel hw (q := 1) rfl hx46 0 _ rfl)) ?_
      refine TL.gu ?_
      refine TL.val rfl rfl rfl (gives_len rfl Tryz.underlying64 rfl) ?_
      refine TL.gu ?_
      refine TL.vsplit rfl rfl rfl (gives_bin rfl rfl rfl (fun w => bin_lss w)) (fun h49 => ?_) (fun h49 => ?_)
      ·have q49 := of_decide_eq_true h49
       iterate 5 (first | refine TL.gu ?_ | refine TL.mv ?_ | refine TL.pk ?_)
       refine TL.pcallCod (k := 4) (α := Bool) (fun x => .bool x) (fun x => []) rfl rfl rfl rfl rfl Tryz.func13 dntnm13 dntbd13 rfl (fun w1 hw hC1 => dbool_cod cb w1 hC1 3 (by decide)) ?_
       rintro b2
       dsimp only [List.cons_append, List.nil_append]
       cases b2 with
       | true =>
        refine TL.gu ?_
        refine TL.val rfl rfl rfl (gives_boolnot rfl rfl) ?_
        refine TL.pk ?_
        refine TL.end_ (TX.then_ (TC.condF rfl (TC.skip_ (TX.then_ (TC.region ?_)))))
        refine TL.mv ?_
        refine TL.mv ?_
        refine TL.prowS (e := 30) (size := 1) (cs := flat (ic .u32) [0]) rfl rfl rfl rfl rfl (fun w => dntbs64_1_5377 _ w) (by decide) rfl (fun g65 => ?_)
        refine TL.appendT (k := 1) rfl rfl rfl rfl Tryz.underlying64 dntel64 rfl rfl rfl (fun w1 hw => pm_reads hw (k := 0) rfl) (flat_one (ic_cel .u32) _) (by show _ * 4 ≤ _; omega) ((p ++ [0]).length) (by rw [List.length_append]; rfl) (flat (ic .u32) (p ++ [0])) ((flat_app _ _).symm) (fun A66 c66 hA661 hA662 => ?_)
        refine TL.as_ ?_
        refine TL.end_ (TX.in_normal (TX.then_ (TC.region ?_)))
        refine TL.mv ?_
        refine TL.val rfl rfl rfl (gives_bin rfl rfl rfl (fun w => bin_add_ (r := ((i + 1 : Nat) : Int)) (by simp only [IntKind.wrap_i64]; omega) w)) ?_
        refine TL.as_ ?_
        refine TL.end_ ?_
        exact TX.round (⟨(i + 1, (A66, c66), p ++ [0]), by dsimp only; omega, by dsimp only; rw [List.length_append]; show p.length + 1 = i + 1; omega, ad_snoc hpr (by omega), hA661, hA662⟩) (by show lg + 1 - (i + 1) < lg + 1 - i; omega) ⟨rfl, rfl, rfl, rfl, rfl, rfl, rfl, trivial⟩ (fun w1 hw => hw.sel (.cons _ (.cons_cons _ (.cons_cons _ (.cons_cons _ (.cons_cons _ (.cons_cons _ (List.Sublist.refl _))))))))
       | false =>
        refine TL.gu ?_
        refine TL.val rfl rfl rfl (gives_boolnot rfl rfl) ?_
        refine TL.pk ?_
        refine TL.end_ (TX.then_ (TC.condT rfl (TC.region ?_)))
        refine TL.val rfl rfl rfl (gives_field (v := .pointer (some ⟨g3, 3, none⟩)) rfl rfl (fun w => dntfld119_1 _ _ w)) ?_
        refine TL.val rfl rfl rfl (pm_load (k := 2) (i := 3) rfl rfl dntag117 rfl rfl) ?_
        refine TL.val rfl rfl rfl (gives_at (v := .pointer (some ⟨g_Ap, 0 + 0 * 1, none⟩)) rfl rfl rfl (fun w => at_el Tryz.underlying117 dntsz64 rfl _ _ 0 (by omega) rfl w)) ?_
        refine TL.val rfl rfl rfl (gives_load (v := .slice x46.A x46.l.length x46.c) rfl rfl dntag64 (fun w1 hw => flat_row sgc_cel hw (q := 1) rfl hx46 0 _ rfl)) ?_
        refine TL.mv ?_
        have hmm61 := seg_mem (e := 30) (size := 1) (enc := flat (ic .u32)) (T := oths cb w) (List.mem_of_getElem? hx46)
        refine TL.fact (p := ∃ g, x46.A = some ⟨g, 0, none⟩) (fun w1 hw => segA hw (List.mem_of_mem_drop (i := 5) (by exact hmm61)) (by omega)) ?_
        rintro ⟨gx61, hgx61⟩
        obtain ⟨z61, hz61⟩ : ∃ z, x46.l[i]? = some z := ⟨_, List.getElem?_eq_getElem (by omega)⟩
        refine TL.val rfl rfl rfl (gives_at (v := .pointer (some ⟨gx61, 0 + i * 1, none⟩)) rfl rfl rfl (fun w => at_el Tryz.underlying64 dntsz30 hgx61 _ _ i (by omega) rfl w)) ?_
        refine TL.val rfl rfl rfl (gives_load (v := .int .u32 z61) rfl rfl pcmag30 (fun w1 hw => seg_cell (ic_cel .u32) hw (List.mem_of_mem_drop (i := 5) (by exact hmm61)) hgx61 hz61 0 _ rfl)) ?_
        have hzr := (hpw x46 (List.mem_of_getElem? hx46)).2 z61 (List.mem_of_getElem? hz61)
        refine TL.as_ ?_
        refine TL.end_ (TX.then_ (TC.region ?_))
        refine TL.mv ?_
        refine TL.mv ?_
        refine TL.prowS (e := 30) (size := 1) (cs := flat (ic .u32) [z61]) rfl rfl rfl rfl rfl (fun w => dntbs64_1_5377 _ w) (by decide) rfl (fun g65 => ?_)
        refine TL.appendT (k := 1) rfl rfl rfl rfl Tryz.underlying64 dntel64 rfl rfl rfl (fun w1 hw => pm_reads hw (k := 0) rfl) (flat_one (ic_cel .u32) _) (by show _ * 4 ≤ _; omega) ((p ++ [z61]).length) (by rw [List.length_append]; rfl) (flat (ic .u32) (p ++ [z61])) ((flat_app _ _).symm) (fun A66 c66 hA661 hA662 => ?_)
        refine TL.as_ ?_
        refine TL.end_ (TX.in_normal (TX.then_ (TC.region ?_)))
        refine TL.mv ?_
        refine TL.val rfl rfl rfl (gives_bin rfl rfl rfl (fun w => bin_add_ (r := ((i + 1 : Nat) : Int)) (by simp only [IntKind.wrap_i64]; omega) w)) ?_
        refine TL.as_ ?_
        refine TL.end_ ?_
        exact TX.round (⟨(i + 1, (A66, c66), p ++ [z61]), by dsimp only; omega, by dsimp only; rw [List.length_append]; show p.length + 1 = i + 1; omega, ad_snoc hpr (by exact hzr), hA661, hA662⟩) (by show lg + 1 - (i + 1) < lg + 1 - i; omega) ⟨rfl, rfl, rfl, rfl, rfl, rfl, rfl, trivial⟩ (fun w1 hw => hw.sel (.cons _ (.cons_cons _ (.cons_cons _ (.cons_cons _ (.cons_cons _ (.cons_cons _ (List.Sublist.refl _))))))))
      ·have q49 := of_decide_eq_false h49
       iterate 6 (first | refine TL.of ?_ | refine TL.pk ?_ | refine TL.mv ?_)
       refine TL.end_ (TX.then_ (TC.condF rfl (TC.skip_ (TX.then_ (TC.region ?_)))))
       refine TL.mv ?_
       refine TL.mv ?_
       refine TL.prowS (e := 30) (size := 1) (cs := flat (ic .u32) [0]) rfl rfl rfl rfl rfl (fun w => dntbs64_1_5377 _ w) (by decide) rfl (fun g65 => ?_)
       refine TL.appendT (k := 1) rfl rfl rfl rfl Tryz.underlying64 dntel64 rfl rfl rfl (fun w1 hw => pm_reads hw (k := 0) rfl) (flat_one (ic_cel .u32) _) (by show _ * 4 ≤ _; omega) ((p ++ [0]).length) (by rw [List.length_append]; rfl) (flat (ic .u32) (p ++ [0])) ((flat_app _ _).symm) (fun A66 c66 hA661 hA662 => ?_)
       refine TL.as_ ?_
       refine TL.end_ (TX.in_normal (TX.then_ (TC.region ?_)))
       refine TL.mv ?_
       refine TL.val rfl rfl rfl (gives_bin rfl rfl rfl (fun w => bin_add_ (r := ((i + 1 : Nat) : Int)) (by simp only [IntKind.wrap_i64]; omega) w)) ?_
       refine TL.as_ ?_
       refine TL.end_ ?_
       exact TX.round (⟨(i + 1, (A66, c66), p ++ [0]), by dsimp only; omega, by dsimp only; rw [List.length_append]; show p.length + 1 = i + 1; omega, ad_snoc hpr (by omega), hA661, hA662⟩) (by show lg + 1 - (i + 1) < lg + 1 - i; omega) ⟨rfl, rfl, rfl, rfl, rfl, rfl, rfl, trivial⟩ (fun w1 hw => hw.sel (.cons _ (.cons_cons _ (.cons_cons _ (.cons_cons _ (.cons_cons _ (.cons_cons _ (List.Sublist.refl _))))))))
     ·have q41 := of_decide_eq_false h41
      iterate 14 (first | refine TL.of ?_ | refine TL.mv ?_ | refine TL.pk ?_)
      refine TL.end_ (TX.then_ (TC.condF rfl (TC.skip_ (TX.then_ (TC.region ?_)))))
      refine TL.mv ?_
      refine TL.mv ?_
      refine TL.prowS (e := 30) (size := 1) (cs := flat (ic .u32) [0]) rfl rfl rfl rfl rfl (fun w => dntbs64_1_5377 _ w) (by decide) rfl (fun g65 => ?_)
      refine TL.appendT (k := 1) rfl rfl rfl rfl Tryz.underlying64 dntel64 rfl rfl rfl (fun w1 hw => pm_reads hw (k := 0) rfl) (flat_one (ic_cel .u32) _) (by show _ * 4 ≤ _; omega) ((p ++ [0]).length) (by rw [List.length_append]; rfl) (flat (ic .u32) (p ++ [0])) ((flat_app _ _).symm) (fun A66 c66 hA661 hA662 => ?_)
      refine TL.as_ ?_
      refine TL.end_ (TX.in_normal (TX.then_ (TC.region ?_)))
      refine TL.mv ?_
      refine TL.val rfl rfl rfl (gives_bin rfl rfl rfl (fun w => bin_add_ (r := ((i + 1 : Nat) : Int)) (by simp only [IntKind.wrap_i64]; omega) w)) ?_
      refine TL.as_ ?_
      refine TL.end_ ?_
      exact TX.round (⟨(i + 1, (A66, c66), p ++ [0]), by dsimp only; omega, by dsimp only; rw [List.length_append]; show p.length + 1 = i + 1; omega, ad_snoc hpr (by omega), hA661, hA662⟩) (by show lg + 1 - (i + 1) < lg + 1 - i; omega) ⟨rfl, rfl, rfl, rfl, rfl, rfl, rfl, trivial⟩ (fun w1 hw => hw.sel (.cons _ (.cons_cons _ (.cons_cons _ (.cons_cons _ (.cons_cons _ (.cons_cons _ (List.Sublist.refl _))))))))
    ·refine TC.skip_ (TX.then_ (TC.seq_ (TC.seq_ (TC.region ?_))))
     refine TL.mv ?_
     refine TL.vsplit rfl rfl rfl (gives_bin rfl rfl rfl (fun w => bin_gtr w)) (fun h41 => ?_) (fun h41 => ?_)
     ·have q41 := of_decide_eq_true h41
      iterate 4 (first | refine TL.gu ?_ | refine TL.mv ?_)
      refine TL.val rfl rfl rfl (gives_field (v := .pointer (some ⟨g3, 3, none⟩)) rfl rfl (fun w => dntfld119_1 _ _ w)) ?_
      refine TL.gu ?_
      refine TL.val rfl rfl rfl (pm_load (k := 2) (i := 3) rfl rfl dntag117 rfl rfl) ?_
      refine TL.gu ?_
      refine TL.fact (p := ∃ g, Ap = some ⟨g, 0, none⟩) (fun w1 hw => rowA hw (k := 1) rfl (by omega)) ?_
      rintro ⟨g_Ap, rfl⟩
      have hi46 : 0 < pp.length := by omega
      obtain ⟨x46, hx46⟩ : ∃ x46, pp[0]? = some x46 := ⟨_, List.getElem?_eq_getElem hi46⟩
      refine TL.val rfl rfl rfl (gives_at (v := .pointer (some ⟨g_Ap, 0 + 0 * 1, none⟩)) rfl rfl rfl (fun w => at_el Tryz.underlying117 dntsz64 rfl _ _ 0 (by omega) rfl w)) ?_
      refine TL.gu ?_
      refine TL.val rfl rfl rfl (gives_load (v := .slice x46.A x46.l.length x46.c) rfl rfl dntag64 (fun w1 hw => flat_row sgc_cel hw (q := 1) rfl hx46 0 _ rfl)) ?_
      refine TL.gu ?_
      refine TL.val rfl rfl rfl (gives_len rfl Tryz.underlying64 rfl) ?_
      refine TL.gu ?_
      refine TL.vsplit rfl rfl rfl (gives_bin rfl rfl rfl (fun w => bin_lss w)) (fun h49 => ?_) (fun h49 => ?_)
      ·have q49 := of_decide_eq_true h49
       iterate 5 (first | refine TL.gu ?_ | refine TL.mv ?_ | refine TL.pk ?_)
       refine TL.pcallCod (k := 4) (α := Bool) (fun x => .bool x) (fun x => []) rfl rfl rfl rfl rfl Tryz.func13 dntnm13 dntbd13 rfl (fun w1 hw hC1 => dbool_cod cb w1 hC1 3 (by decide)) ?_
       rintro b2
       dsimp only [List.cons_append, List.nil_append]
       cases b2 with
       | true =>
        refine TL.gu ?_
        refine TL.val rfl rfl rfl (gives_boolnot rfl rfl) ?_
        refine TL.pk ?_
        refine TL.end_ (TX.then_ (TC.condF rfl (TC.skip_ (TX.then_ (TC.region ?_)))))
        refine TL.mv ?_
        refine TL.mv ?_
        refine TL.prowS (e := 30) (size := 1) (cs := flat (ic .u32) [ad]) rfl rfl rfl rfl rfl (fun w => dntbs64_1_5377 _ w) (by decide) rfl (fun g65 => ?_)
        refine TL.appendT (k := 1) rfl rfl rfl rfl Tryz.underlying64 dntel64 rfl rfl rfl (fun w1 hw => pm_reads hw (k := 0) rfl) (flat_one (ic_cel .u32) _) (by show _ * 4 ≤ _; omega) ((p ++ [ad]).length) (by rw [List.length_append]; rfl) (flat (ic .u32) (p ++ [ad])) ((flat_app _ _).symm) (fun A66 c66 hA661 hA662 => ?_)
        refine TL.as_ ?_
        refine TL.end_ (TX.in_normal (TX.then_ (TC.region ?_)))
        refine TL.mv ?_
        refine TL.val rfl rfl rfl (gives_bin rfl rfl rfl (fun w => bin_add_ (r := ((i + 1 : Nat) : Int)) (by simp only [IntKind.wrap_i64]; omega) w)) ?_
        refine TL.as_ ?_
        refine TL.end_ ?_
        exact TX.round (⟨(i + 1, (A66, c66), p ++ [ad]), by dsimp only; omega, by dsimp only; rw [List.length_append]; show p.length + 1 = i + 1; omega, ad_snoc hpr (by omega), hA661, hA662⟩) (by show lg + 1 - (i + 1) < lg + 1 - i; omega) ⟨rfl, rfl, rfl, rfl, rfl, rfl, rfl, trivial⟩ (fun w1 hw => hw.sel (.cons _ (.cons_cons _ (.cons_cons _ (.cons_cons _ (.cons_cons _ (.cons_cons _ (List.Sublist.refl _))))))))
       | false =>
        refine TL.gu ?_
        refine TL.val rfl rfl rfl (gives_boolnot rfl rfl) ?_
        refine TL.pk ?_
        refine TL.end_ (TX.then_ (TC.condT rfl (TC.region ?_)))
        refine TL.val rfl rfl rfl (gives_field (v := .pointer (some ⟨g3, 3, none⟩)) rfl rfl (fun w => dntfld119_1 _ _ w)) ?_
        refine TL.val rfl rfl rfl (pm_load (k := 2) (i := 3) rfl rfl dntag117 rfl rfl) ?_
        refine TL.val rfl rfl rfl (gives_at (v := .pointer (some ⟨g_Ap, 0 + 0 * 1, none⟩)) rfl rfl rfl (fun w => at_el Tryz.underlying117 dntsz64 rfl _ _ 0 (by omega) rfl w)) ?_
        refine TL.val rfl rfl rfl (gives_load (v := .slice x46.A x46.l.length x46.c) rfl rfl dntag64 (fun w1 hw => flat_row sgc_cel hw (q := 1) rfl hx46 0 _ rfl)) ?_
        refine TL.mv ?_
        have hmm61 := seg_mem (e := 30) (size := 1) (enc := flat (ic .u32)) (T := oths cb w) (List.mem_of_getElem? hx46)
        refine TL.fact (p := ∃ g, x46.A = some ⟨g, 0, none⟩) (fun w1 hw => segA hw (List.mem_of_mem_drop (i := 5) (by exact hmm61)) (by omega)) ?_
        rintro ⟨gx61, hgx61⟩
        obtain ⟨z61, hz61⟩ : ∃ z, x46.l[i]? = some z := ⟨_, List.getElem?_eq_getElem (by omega)⟩
        refine TL.val rfl rfl rfl (gives_at (v := .pointer (some ⟨gx61, 0 + i * 1, none⟩)) rfl rfl rfl (fun w => at_el Tryz.underlying64 dntsz30 hgx61 _ _ i (by omega) rfl w)) ?_
        refine TL.val rfl rfl rfl (gives_load (v := .int .u32 z61) rfl rfl pcmag30 (fun w1 hw => seg_cell (ic_cel .u32) hw (List.mem_of_mem_drop (i := 5) (by exact hmm61)) hgx61 hz61 0 _ rfl)) ?_
        have hzr := (hpw x46 (List.mem_of_getElem? hx46)).2 z61 (List.mem_of_getElem? hz61)
        refine TL.as_ ?_
        refine TL.end_ (TX.then_ (TC.region ?_))
        refine TL.mv ?_
        refine TL.mv ?_
        refine TL.prowS (e := 30) (size := 1) (cs := flat (ic .u32) [z61]) rfl rfl rfl rfl rfl (fun w => dntbs64_1_5377 _ w) (by decide) rfl (fun g65 => ?_)
        refine TL.appendT (k := 1) rfl rfl rfl rfl Tryz.underlying64 dntel64 rfl rfl rfl (fun w1 hw => pm_reads hw (k := 0) rfl) (flat_one (ic_cel .u32) _) (by show _ * 4 ≤ _; omega) ((p ++ [z61]).length) (by rw [List.length_append]; rfl) (flat (ic .u32) (p ++ [z61])) ((flat_app _ _).symm) (fun A66 c66 hA661 hA662 => ?_)
        refine TL.as_ ?_
        refine TL.end_ (TX.in_normal (TX.then_ (TC.region ?_)))
        refine TL.mv ?_
        refine TL.val rfl rfl rfl (gives_bin rfl rfl rfl (fun w => bin_add_ (r := ((i + 1 : Nat) : Int)) (by simp only [IntKind.wrap_i64]; omega) w)) ?_
        refine TL.as_ ?_
        refine TL.end_ ?_
        exact TX.round (⟨(i + 1, (A66, c66), p ++ [z61]), by dsimp only; omega, by dsimp only; rw [List.length_append]; show p.length + 1 = i + 1; omega, ad_snoc hpr (by exact hzr), hA661, hA662⟩) (by show lg + 1 - (i + 1) < lg + 1 - i; omega) ⟨rfl, rfl, rfl, rfl, rfl, rfl, rfl, trivial⟩ (fun w1 hw => hw.sel (.cons _ (.cons_cons _ (.cons_cons _ (.cons_cons _ (.cons_cons _ (.cons_cons _ (List.Sublist.refl _))))))))
      ·have q49 := of_decide_eq_false h49
       iterate 6 (first | refine TL.of ?_ | refine TL.pk ?_ | refine TL.mv ?_)
       refine TL.end_ (TX.then_ (TC.condF rfl (TC.skip_ (TX.then_ (TC.region ?_)))))
       refine TL.mv ?_
       refine TL.mv ?_
       refine TL.prowS (e := 30) (size := 1) (cs := flat (ic .u32) [ad]) rfl rfl rfl rfl rfl (fun w => dntbs64_1_5377 _ w) (by decide) rfl (fun g65 => ?_)
       refine TL.appendT (k := 1) rfl rfl rfl rfl Tryz.underlying64 dntel64 rfl rfl rfl (fun w1 hw => pm_reads hw (k := 0) rfl) (flat_one (ic_cel .u32) _) (by show _ * 4 ≤ _; omega) ((p ++ [ad]).length) (by rw [List.length_append]; rfl) (flat (ic .u32) (p ++ [ad])) ((flat_app _ _).symm) (fun A66 c66 hA661 hA662 => ?_)
       refine TL.as_ ?_
       refine TL.end_ (TX.in_normal (TX.then_ (TC.region ?_)))
       refine TL.mv ?_
       refine TL.val rfl rfl rfl (gives_bin rfl rfl rfl (fun w => bin_add_ (r := ((i + 1 : Nat) : Int)) (by simp only [IntKind.wrap_i64]; omega) w)) ?_
       refine TL.as_ ?_
       refine TL.end_ ?_
       exact TX.round (⟨(i + 1, (A66, c66), p ++ [ad]), by dsimp only; omega, by dsimp only; rw [List.length_append]; show p.length + 1 = i + 1; omega, ad_snoc hpr (by omega), hA661, hA662⟩) (by show lg + 1 - (i + 1) < lg + 1 - i; omega) ⟨rfl, rfl, rfl, rfl, rfl, rfl, rfl, trivial⟩ (fun w1 hw => hw.sel (.cons _ (.cons_cons _ (.cons_cons _ (.cons_cons _ (.cons_cons _ (.cons_cons _ (List.Sublist.refl _))))))))
     ·have q41 := of_decide_eq_false h41
      iterate 14 (first | refine TL.of ?_ | refine TL.mv ?_ | refine TL.pk ?_)
      refine TL.end_ (TX.then_ (TC.condF rfl (TC.skip_ (TX.then_ (TC.region ?_)))))
      refine TL.mv ?_
      refine TL.mv ?_
      refine TL.prowS (e := 30) (size := 1) (cs := flat (ic .u32) [ad]) rfl rfl rfl rfl rfl (fun w => dntbs64_1_5377 _ w) (by decide) rfl (fun g65 => ?_)
      refine TL.appendT (k := 1) rfl rfl rfl rfl Tryz.underlying64 dntel64 rfl rfl rfl (fun w1 hw => pm_reads hw (k := 0) rfl) (flat_one (ic_cel .u32) _) (by show _ * 4 ≤ _; omega) ((p ++ [ad]).length) (by rw [List.length_append]; rfl) (flat (ic .u32) (p ++ [ad])) ((flat_app _ _).symm) (fun A66 c66 hA661 hA662 => ?_)
      refine TL.as_ ?_
      refine TL.end_ (TX.in_normal (TX.then_ (TC.region ?_)))
      refine TL.mv ?_
      refine TL.val rfl rfl rfl (gives_bin rfl rfl rfl (fun w => bin_add_ (r := ((i + 1 : Nat) : Int)) (by simp only [IntKind.wrap_i64]; omega) w)) ?_
      refine TL.as_ ?_
      refine TL.end_ ?_
      exact TX.round (⟨(i + 1, (A66, c66), p ++ [ad]), by dsimp only; omega, by dsimp only; rw [List.length_append]; show p.length + 1 = i + 1; omega, ad_snoc hpr (by omega), hA661, hA662⟩) (by show lg + 1 - (i + 1) < lg + 1 - i; omega) ⟨rfl, rfl, rfl, rfl, rfl, rfl, rfl, trivial⟩ (fun w1 hw => hw.sel (.cons _ (.cons_cons _ (.cons_cons _ (.cons_cons _ (.cons_cons _ (.cons_cons _ (List.Sublist.refl _))))))))
   ·have q33 := of_decide_eq_false h33
    refine TL.end_ (TX.then_ (TC.condF rfl (TC.exit_ (TX.then_exit (TX.then_exit (TX.in_same (TX.then_ (TC.region ?_))))))))
    refine TL.val rfl rfl rfl (gives_field (v := .pointer (some ⟨g3, 3, none⟩)) rfl rfl (fun w => dntfld119_1 _ _ w)) ?_
    refine TL.val rfl rfl rfl (pm_load (k := 2) (i := 3) rfl rfl dntag117 rfl rfl) ?_
    refine TL.mv ?_
    refine TL.prowS (e := 64) (size := 1) (cs := flat sgc [(⟨Aq, cq, p⟩ : Sg Int)]) rfl rfl rfl rfl rfl (fun w => dntbs117_1_58639 _ _ _ w) (by decide) rfl (fun g70 => ?_)
    refine TL.appendT (k := 2) rfl rfl rfl rfl Tryz.underlying117 dntel117 rfl rfl rfl (fun w1 hw => pm_reads hw (k := 0) rfl) (flat_one sgc_cel _) (by show _ * 24 ≤ _; omega) ((pp ++ [(⟨Aq, cq, p⟩ : Sg Int)]).length) (by rw [List.length_append]; rfl) (flat sgc (pp ++ [(⟨Aq, cq, p⟩ : Sg Int)])) ((flat_app _ _).symm) (fun A71 c71 hA711 hA712 => ?_)
    refine TL.val rfl rfl rfl (gives_field (v := .pointer (some ⟨g3, 3, none⟩)) rfl rfl (fun w => dntfld119_1 _ _ w)) ?_
    refine TL.pstore (k := 3) (vs := [.slice A71 ((pp ++ [(⟨Aq, cq, p⟩ : Sg Int)]).length) c71]) rfl rfl rfl rfl rfl rfl rfl dntsz117 pbdone_s (by show 4 ≤ 5; decide) rfl ?_
    refine TL.end_ (TX.in_normal (TX.then_ (TC.region ?_)))
    refine TL.mv ?_
    refine TL.val rfl rfl rfl (gives_bin rfl rfl rfl (fun w => bin_add_ (r := ((f + 1 : Nat) : Int)) (by simp only [IntKind.wrap_i64]; omega) w)) ?_
    refine TL.as_ ?_
    refine TL.end_ ?_
    exact TX.round (⟨(f + 1, (A71, c71), pp ++ [(⟨Aq, cq, p⟩ : Sg Int)]), by dsimp only; omega, by dsimp only; rw [List.length_append]; show pp.length + 1 = f + 1; omega, pw_snoc hpw ⟨by show p.length = _; omega, hpr⟩, hA711, hA712⟩) (by show 3 - (f + 1) < 3 - f; omega) ⟨rfl, rfl, rfl, rfl, rfl, trivial⟩ (fun w1 hw => Pm.tuckEnd (s := ⟨Aq, cq, p⟩) (P := [.row (.slice A71 ((pp ++ [(⟨Aq, cq, p⟩ : Sg Int)]).length) c71) 64 1 ((pp ++ [(⟨Aq, cq, p⟩ : Sg Int)]).length) (flat sgc (pp ++ [(⟨Aq, cq, p⟩ : Sg Int)])), .blk g3 119 [.int .i64 tr.v, .int .u32 tr.dst, .int .i64 tr.proto, .slice A71 ((pp ++ [(⟨Aq, cq, p⟩ : Sg Int)]).length) c71, .int .u32 la], .blk g2 119 [.int .i64 0, .int .u32 0, .int .i64 0, .slice none 0 0, .int .u32 0], .abs cb (fun w => Cod w cb)]) (hw.sel (.cons _ (.cons_cons _ (.cons_cons _ (.cons_cons _ (.cons_cons _ (.cons_cons _ (List.Sublist.refl _)))))))))
  ·have q28 := of_decide_eq_false h28
   refine TL.end_ (TX.then_ (TC.condF rfl (TC.exit_ (TX.then_exit (TX.then_exit (TX.in_same (TX.then_ (TC.seq_ (TC.region ?_)))))))))
   refine TL.val rfl rfl rfl (pm_loadV (k := 1) (i := 0) (n := 5) (v := .agg #[.int .i64 tr.v, .int .u32 tr.dst, .int .i64 tr.proto, .slice Ap pp.length cp, .int .u32 la]) rfl rfl dntag119 dntsz119 rfl (by show 5 ≤ 5; decide) rfl) ?_
   refine TL.pstore (k := 2) (vs := [.int .i64 tr.v, .int .u32 tr.dst, .int .i64 tr.proto, .slice Ap pp.length cp, .int .u32 la]) rfl rfl rfl rfl rfl rfl rfl dntsz119 dntone_i64u32i64su32 (by show 5 ≤ 5; decide) rfl ?_
   refine TL.end_ (TX.then_ (TC.ret_ ?_))
   exact pm_ret_cell (k := 2) Tryz.results74 rfl rfl Tryz.underlying119 rfl rfl (fun w1 hw => ⟨⟨⟨tr.v, tr.dst, tr.proto, ⟨Ap, cp, pp⟩, la⟩, ⟨htr, hla, lg + 1, by omega, by omega, by show 1 ≤ pp.length; omega, by show pp.length ≤ 3; omega, hpw⟩⟩, rfl, Pm.codr (netP ⟨Ap, cp, pp⟩) (Pm.netOut (p := ⟨Ap, cp, pp⟩) (hw.sel (.cons_cons _ (.cons _ (.cons _ (.cons_cons _ (List.Sublist.refl _))))))) (netP_noAbs _)⟩)
section
variable {P : Program} {N : Fr} {E : Env} {o : Oper} {I : World → Prop}
theorem gives_fieldV {t : TypeId} {x : Operand} {i : Nat} {vx v : Value} (ho : o.op = .field t x i) (hx : ev E x = some vx) (hv : ∀ w : World, (Instr.field t vx i).run P w = .ok v w) : Gives P N o E I v := fun a w ha _ => by
  unfold execOp; rw [ho]
  simp only [ha.eval hx, Sem.run_bind, hv, Result.andThen_ok, Sem.run_pure]
end
end Go.Proofs.YtnejdeklnmkhbaaGreat
