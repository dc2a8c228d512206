/-
  Texts of the proof, joined: PtSam, BldLaw, DcDraw, DcNet, SymFld, DcRs, DcOne, DcShu, DmLaw, PtDia.
-/
import Derived.Test.YtnejdeklnmkhbaaGreatPathsGraphsPk3
import Derived.Test.YtnejdeklnmkhbaaGreatPathsGraphsPk1
import Derived.Test.YtnejdeklnmkhbaaGreatPathsGraphsPk2
set_option linter.unusedVariables false
set_option linter.unusedSimpArgs false
namespace Go.Proofs.YtnejdeklnmkhbaaGreat
open Go.RowKit
set_option maxRecDepth 20000
def hopEq (x y : Hpx) : Bool := decide (x.ttl = y.ttl) && decide (x.addr = y.addr) && decide (x.fl.l = y.fl.l)
def edgEq (x y : Ed) : Bool := decide (x.ttl = y.ttl) && decide (x.frm = y.frm) && decide (x.to_ = y.to_) && decide (x.fl.l = y.fl.l)
section
variable {α : Type} {r : α → α → Bool} {l m : List α}
def listEq (r : α → α → Bool) : List α → List α → Bool
 | [], [] => true
 | x :: l, y :: m => r x y && listEq r l m
 | _, _ => false
theorem listEq_iff : ∀ {l m : List α}, listEq r l m = true ↔ l.length = m.length ∧ ∀ (j : Nat) (x z : α), l[j]? = some x → m[j]? = some z → r x z = true
 | [], [] => by simp [listEq]
 | [], y :: m => by simp [listEq]
 | x :: l, [] => by simp [listEq]
 | x :: l, y :: m => by
  unfold listEq
  rw [Bool.and_eq_true, listEq_iff, List.length_cons, List.length_cons]
  constructor
  ·rintro ⟨h1, h2, h3⟩
   refine ⟨by omega, fun j a b ha hb => ?_⟩
   cases j with
   | zero => cases ha; cases hb; exact h1
   | succ j => exact h3 j a b ha hb
  ·rintro ⟨h1, h2⟩
   exact ⟨h2 0 x y rfl rfl, by omega, fun j a b ha hb => h2 (j + 1) a b ha hb⟩
theorem listEq_t (h1 : l.length = m.length) (h2 : ∀ (j : Nat) (x z : α), j < l.length → l[j]? = some x → m[j]? = some z → r x z = true) : listEq r l m = true := listEq_iff.2 ⟨h1, fun j x z h3 h4 => h2 j x z (List.getElem?_eq_some_iff.1 h3).1 h3 h4⟩
theorem listEq_len (h : l.length ≠ m.length) : listEq r l m = false := Bool.eq_false_iff.2 fun h2 => h (listEq_iff.1 h2).1
theorem listEq_f {j : Nat} {x z : α} (h1 : l[j]? = some x) (h2 : m[j]? = some z) (h3 : r x z = false) : listEq r l m = false := Bool.eq_false_iff.2 fun h => by have := (listEq_iff.1 h).2 j x z h1 h2; rw [h3] at this; cases this
theorem all_snoc {i : Nat} {x z : α} (he : ∀ (j : Nat) (x z : α), j < i → l[j]? = some x → m[j]? = some z → r x z = true) (h1 : l[i]? = some x) (h2 : m[i]? = some z) (h3 : r x z = true) : ∀ (j : Nat) (x z : α), j < i + 1 → l[j]? = some x → m[j]? = some z → r x z = true := fun j a b hj ha hb => by
 rcases Nat.lt_or_ge j i with h9 | h9
 ·exact he j a b h9 ha hb
 ·obtain rfl : j = i := by omega
  rw [h1] at ha
  rw [h2] at hb
  cases ha
  cases hb
  exact h3
end
structure MpR (w : World) (m : Mp) : Prop where
 hops : Reads w w.heap.size 3 m.hops.A m.hops.l.length (flat Hpx.cells m.hops.l)
 edges : Reads w w.heap.size 4 m.edges.A m.edges.l.length (flat Ed.cells m.edges.l)
 nhops : m.hops.l.length ≤ 100000
 nedges : m.edges.l.length ≤ 100000
 shops : ∀ x ∈ m.hops.l, Reads w w.heap.size 1 x.fl.A x.fl.l.length (flat (ic .i64) x.fl.l) ∧ x.fl.l.length ≤ 100000
 sedges : ∀ x ∈ m.edges.l, Reads w w.heap.size 1 x.fl.A x.fl.l.length (flat (ic .i64) x.fl.l) ∧ x.fl.l.length ≤ 100000
def mpEq (m z : Mp) : Bool := decide (m.tr = z.tr) && decide (m.en = z.en) && listEq hopEq m.hops.l z.hops.l && listEq edgEq m.edges.l z.edges.l
theorem psmfld50_2 : FA Tryz.prog 50 2 2 := fun g o w => by kernel_rfl
theorem psmag48 (w : World) : (isAgg 48).run Tryz.prog w = .ok false w := rfl
theorem psmfld63_3 : FA Tryz.prog 63 3 3 := fun g o w => by kernel_rfl
theorem psmsz50 (w : World) : (sizeOf 50).run Tryz.prog w = .ok 3 w := rfl
theorem psmag50 (w : World) : (isAgg 50).run Tryz.prog w = .ok true w := rfl
theorem psmzv50 (w : World) : (zeroValue 50).run Tryz.prog w = .ok (.agg #[.int .i64 0, .int .u32 0, .slice none 0 0]) w := rfl
theorem psmfld36_0 : FA Tryz.prog 36 0 0 := fun g o w => by kernel_rfl
theorem psmfld36_1 : FA Tryz.prog 36 1 3 := fun g o w => by kernel_rfl
set_option maxHeartbeats 1000000 in
theorem eqi_any (A0 : Option Addr) (c0 : Nat) (l : List Int) (A1 : Option Addr) (c1 : Nat) (m : List Int) (w : World) (hr : Reads w w.heap.size 1 A0 l.length (flat (ic .i64) l)) (hr1 : Reads w w.heap.size 1 A1 m.length (flat (ic .i64) m)) (hl1 : l.length ≤ 100000) :
  Calls Tryz.prog 96 #[.slice A0 l.length c0, .slice A1 m.length c1] w fun e w' => e = .returned (.bool (decide (l = m))) ∧ Below w.heap.size w w' := by
 refine begin_ (vs := [.slice A0 l.length c0, .slice A1 m.length c1]) Tryz.func96 rfl rfl rfl ?_ (Pm.start w)
 refine zSG ?_
 refine TL.as_ ?_
 refine zET (zS (zSG ?_))
 refine TL.mv ?_
 refine TL.v (gN Tryz.underlying48) ?_
 refine TL.mv ?_
 refine TL.v (gN Tryz.underlying48) ?_
 refine TL.sp bin_neq (fun q10 => ?_) (fun q10 => ?_)
 ·refine zET (zc (zSG ?_))
  refine TL.as_ ?_
  refine zET (zr (zR ?_))
  exact ret_tmp Tryz.results96 rfl (fun w1 hw => ⟨by rw [decide_eq_false (fun h => by have := congrArg List.length h; omega)], hw.bel⟩)
 ·refine zET (zd (zk (zT (zS (zSG ?_)))))
  refine TL.mv ?_
  refine TL.v (gN Tryz.underlying48) ?_
  refine TL.mv ?_
  refine zET (zB ?_)
  refine TC.loop_ (α := {i : Nat // i ≤ l.length ∧ ∀ j, j < i → l[j]? = m[j]?}) (fun y => [(0, .slice A0 l.length c0), (1, .slice A1 m.length c1), (11, .slice A0 l.length c0), (12, .int .i64 (l.length : Nat)), (13, .int .i64 ((y.1 : Nat) : Int))]) (fun y => Pm w []) (fun y => l.length - y.1) (⟨0, Nat.zero_le _, fun j hj => absurd hj (Nat.not_lt_zero _)⟩) ⟨rfl, rfl, rfl, rfl, rfl, trivial⟩ (fun w1 hw => hw) ?_
  rintro ⟨i, hi, he⟩
  try dsimp only at hi he ⊢
  refine zSG ?_
  refine TL.sp bin_lss (fun q14 => ?_) (fun q14 => ?_)
  ·refine zET (zS (zc (zk (zT (zS (zB (zSG ?_)))))))
   refine TL.rn 2 rfl ?_
   refine zET (zS ?_)
   refine TC.quietQ (by kernel_rfl) (by kernel_rfl) (fun w hw => hw.drawn _) ?_
   refine TQ.rn 2 rfl ?_
   have hi18 : i < l.length := by omega
   obtain ⟨x18, hx18⟩ := ex_at hi18
   obtain ⟨b18, o18, hA18, hbb18, hc18⟩ := hr.ad (by omega) (by decide)
   refine TQ.val rfl rfl rfl (gA (i := i) Tryz.underlying48 pcmsz3 rfl rfl rfl rfl hA18 (by omega)) ?_
   refine TQ.val rfl rfl rfl (gives_load (v := .int .i64 x18) rfl rfl pcmag3 (fun w1 hw => (hw.bel.cell hbb18).trans <| flat_cell (ic_cel .i64) hx18 hc18 0 _ rfl)) ?_
   refine TQ.rn 2 rfl ?_
   have hi22 : i < m.length := by omega
   obtain ⟨x22, hx22⟩ := ex_at hi22
   obtain ⟨b22, o22, hA22, hbb22, hc22⟩ := hr1.ad (by omega) (by decide)
   refine TQ.val rfl rfl rfl (gA (i := i) Tryz.underlying48 pcmsz3 rfl rfl rfl rfl hA22 (by omega)) ?_
   refine TQ.val rfl rfl rfl (gives_load (v := .int .i64 x22) rfl rfl pcmag3 (fun w1 hw => (hw.bel.cell hbb22).trans <| flat_cell (ic_cel .i64) hx22 hc22 0 _ rfl)) ?_
   refine TQ.sp bin_neq (fun q24 => ?_) (fun q24 => ?_)
   ·refine TQ.fin ?_
    refine zT (zc (zSG ?_))
    refine TL.as_ ?_
    refine zET (zr (zRR (zR (zRR ?_))))
    exact ret_tmp Tryz.results96 rfl (fun w1 hw => ⟨by rw [decide_eq_false (fun h => by rw [h, hx22] at hx18; exact q24 (Option.some.inj hx18).symm)], hw.bel⟩)
   ·have he2 : ∀ j, j < i + 1 → l[j]? = m[j]? := fun j hj => by
     rcases Nat.lt_or_ge j i with h9 | h9
     ·exact he j h9
     ·obtain rfl : j = i := by omega
      rw [hx18, hx22, Decidable.not_not.1 q24]
    refine TQ.fin ?_
    refine zT (zd (zk (zN (zT (zG ?_)))))
    refine TL.v (gD ((i + 1 : Nat) : Int)) ?_
    refine TL.mv ?_
    refine zE ?_
    exact TX.round (⟨i + 1, by omega, he2⟩) (by show l.length - (i + 1) < l.length - i; omega) ⟨rfl, rfl, rfl, rfl, rfl, trivial⟩ (fun w1 hw => hw)
  ·refine zET (zS (zd (zx (zX (zX (zM (zT (zSG ?_))))))))
   refine TL.as_ ?_
   refine zET (zr ?_)
   exact ret_tmp Tryz.results96 rfl (fun w1 hw => ⟨by rw [decide_eq_true (List.ext_getElem? fun j => if h9 : j < i then he j h9 else by rw [List.getElem?_eq_none (by omega), List.getElem?_eq_none (by omega)])], hw.bel⟩)
set_option maxHeartbeats 1000000 in
theorem same1_any (x z : Hpx) (w : World) (hx : Reads w w.heap.size 1 x.fl.A x.fl.l.length (flat (ic .i64) x.fl.l)) (hz : Reads w w.heap.size 1 z.fl.A z.fl.l.length (flat (ic .i64) z.fl.l)) (hxl : x.fl.l.length ≤ 100000) :
  Calls Tryz.prog 95 #[.agg x.cells.toArray, .agg z.cells.toArray] w fun e w' => e = .returned (.bool (hopEq x z)) ∧ Below w.heap.size w w' := by
 refine begin_ (vs := [.agg x.cells.toArray, .agg z.cells.toArray]) Tryz.func95 rfl rfl rfl ?_ (Pm.start w)
 refine zSG ?_
 refine TL.pnew rfl rfl rfl (exec_box (cs := x.cells) rfl rfl rfl) (fun g2 => ?_)
 refine TL.pnew rfl rfl rfl (exec_box (cs := z.cells) rfl rfl rfl) (fun g3 => ?_)
 refine TL.as_ ?_
 refine zET (zSG ?_)
 refine TL.v (gF pcmfld50_0) ?_
 refine TL.v (gL 1 pcmag3) ?_
 refine TL.v (gF pcmfld50_0) ?_
 refine TL.v (gL 0 pcmag3) ?_
 refine TL.sp bin_eql (fun q9 => ?_) (fun q9 => ?_)
 ·refine TL.mv ?_
  refine TL.ov (gF pcmfld50_1) ?_
  refine TL.ov (gL 1 pcmag30) ?_
  refine TL.ov (gF pcmfld50_1) ?_
  refine TL.ov (gL 0 pcmag30) ?_
  refine TL.gu ?_
  refine TL.sp bin_eql (fun q15 => ?_) (fun q15 => ?_)
  ·refine TL.rn 2 rfl ?_
   refine TL.ov (gF psmfld50_2) ?_
   refine TL.ov (gL 1 psmag48) ?_
   refine TL.ov (gF psmfld50_2) ?_
   refine TL.ov (gL 0 psmag48) ?_
   refine TL.gu ?_
   refine TL.callsplit rfl rfl rfl rfl rfl Tryz.func96 (by decide) rfl (fun w1 hw => eqi_any x.fl.A x.fl.c x.fl.l z.fl.A z.fl.c z.fl.l w1 (hx.up hw.bel) (hz.up hw.bel) hxl) (fun h22 => ?_) (fun h22 => ?_)
   ·have q22 := of_decide_eq_true h22
    refine TL.rn 2 rfl ?_
    refine zET (zr ?_)
    have hE : (hopEq x z) = true := (by simp [hopEq, q9, q15, q22] <;> omega)
    exact ret_tmp Tryz.results95 rfl (fun w1 hw => ⟨by rw [hE]; try rfl, hw.bel⟩)
   ·have q22 := of_decide_eq_false h22
    refine TL.rn 2 rfl ?_
    refine zET (zr ?_)
    have hE : (hopEq x z) = false := (by simp [hopEq, q9, q15, q22] <;> omega)
    exact ret_tmp Tryz.results95 rfl (fun w1 hw => ⟨by rw [hE]; try rfl, hw.bel⟩)
  ·refine TL.rn 9 rfl ?_
   refine zET (zr ?_)
   have hE : (hopEq x z) = false := (by simp [hopEq, q9, q15] <;> omega)
   exact ret_tmp Tryz.results95 rfl (fun w1 hw => ⟨by rw [hE]; try rfl, hw.bel⟩)
 ·refine TL.rn 15 rfl ?_
  refine zET (zr ?_)
  have hE : (hopEq x z) = false := (by simp [hopEq, q9] <;> omega)
  exact ret_tmp Tryz.results95 rfl (fun w1 hw => ⟨by rw [hE]; try rfl, hw.bel⟩)
set_option maxHeartbeats 1000000 in
theorem same2_any (x z : Ed) (w : World) (hx : Reads w w.heap.size 1 x.fl.A x.fl.l.length (flat (ic .i64) x.fl.l)) (hz : Reads w w.heap.size 1 z.fl.A z.fl.l.length (flat (ic .i64) z.fl.l)) (hxl : x.fl.l.length ≤ 100000) :
  Calls Tryz.prog 98 #[.agg x.cells.toArray, .agg z.cells.toArray] w fun e w' => e = .returned (.bool (edgEq x z)) ∧ Below w.heap.size w w' := by
 refine begin_ (vs := [.agg x.cells.toArray, .agg z.cells.toArray]) Tryz.func98 rfl rfl rfl ?_ (Pm.start w)
 refine zSG ?_
 refine TL.pnew rfl rfl rfl (exec_box (cs := x.cells) rfl rfl rfl) (fun g2 => ?_)
 refine TL.pnew rfl rfl rfl (exec_box (cs := z.cells) rfl rfl rfl) (fun g3 => ?_)
 refine TL.as_ ?_
 refine zET (zSG ?_)
 refine TL.v (gF pcmfld63_0) ?_
 refine TL.v (gL 1 pcmag3) ?_
 refine TL.v (gF pcmfld63_0) ?_
 refine TL.v (gL 0 pcmag3) ?_
 refine TL.sp bin_eql (fun q9 => ?_) (fun q9 => ?_)
 ·refine TL.mv ?_
  refine TL.ov (gF pcmfld63_1) ?_
  refine TL.ov (gL 1 pcmag30) ?_
  refine TL.ov (gF pcmfld63_1) ?_
  refine TL.ov (gL 0 pcmag30) ?_
  refine TL.gu ?_
  refine TL.sp bin_eql (fun q15 => ?_) (fun q15 => ?_)
  ·refine TL.rn 2 rfl ?_
   refine TL.ov (gF pcmfld63_2) ?_
   refine TL.ov (gL 1 pcmag30) ?_
   refine TL.ov (gF pcmfld63_2) ?_
   refine TL.ov (gL 0 pcmag30) ?_
   refine TL.gu ?_
   refine TL.sp bin_eql (fun q22 => ?_) (fun q22 => ?_)
   ·refine TL.rn 2 rfl ?_
    refine TL.ov (gF psmfld63_3) ?_
    refine TL.ov (gL 1 psmag48) ?_
    refine TL.ov (gF psmfld63_3) ?_
    refine TL.ov (gL 0 psmag48) ?_
    refine TL.gu ?_
    refine TL.callsplit rfl rfl rfl rfl rfl Tryz.func96 (by decide) rfl (fun w1 hw => eqi_any x.fl.A x.fl.c x.fl.l z.fl.A z.fl.c z.fl.l w1 (hx.up hw.bel) (hz.up hw.bel) hxl) (fun h29 => ?_) (fun h29 => ?_)
    ·have q29 := of_decide_eq_true h29
     refine TL.rn 2 rfl ?_
     refine zET (zr ?_)
     have hE : (edgEq x z) = true := (by simp [edgEq, q9, q15, q22, q29] <;> omega)
     exact ret_tmp Tryz.results98 rfl (fun w1 hw => ⟨by rw [hE]; try rfl, hw.bel⟩)
    ·have q29 := of_decide_eq_false h29
     refine TL.rn 2 rfl ?_
     refine zET (zr ?_)
     have hE : (edgEq x z) = false := (by simp [edgEq, q9, q15, q22, q29] <;> omega)
     exact ret_tmp Tryz.results98 rfl (fun w1 hw => ⟨by rw [hE]; try rfl, hw.bel⟩)
   ·refine TL.rn 9 rfl ?_
    refine zET (zr ?_)
    have hE : (edgEq x z) = false := (by simp [edgEq, q9, q15, q22] <;> omega)
    exact ret_tmp Tryz.results98 rfl (fun w1 hw => ⟨by rw [hE]; try rfl, hw.bel⟩)
  ·refine TL.rn 16 rfl ?_
   refine zET (zr ?_)
   have hE : (edgEq x z) = false := (by simp [edgEq, q9, q15] <;> omega)
   exact ret_tmp Tryz.results98 rfl (fun w1 hw => ⟨by rw [hE]; try rfl, hw.bel⟩)
 ·refine TL.rn 22 rfl ?_
  refine zET (zr ?_)
  have hE : (edgEq x z) = false := (by simp [edgEq, q9] <;> omega)
  exact ret_tmp Tryz.results98 rfl (fun w1 hw => ⟨by rw [hE]; try rfl, hw.bel⟩)
set_option maxHeartbeats 1000000 in
theorem eqf1_any (A0 : Option Addr) (c0 : Nat) (l : List Hpx) (A1 : Option Addr) (c1 : Nat) (m : List Hpx) (w : World) (hr : Reads w w.heap.size 3 A0 l.length (flat Hpx.cells l)) (hr1 : Reads w w.heap.size 3 A1 m.length (flat Hpx.cells m)) (hl1 : l.length ≤ 100000) (hs : ∀ x ∈ l, Reads w w.heap.size 1 x.fl.A x.fl.l.length (flat (ic .i64) x.fl.l) ∧ x.fl.l.length ≤ 100000) (hs1 : ∀ x ∈ m, Reads w w.heap.size 1 x.fl.A x.fl.l.length (flat (ic .i64) x.fl.l)) :
  Calls Tryz.prog 94 #[.slice A0 l.length c0, .slice A1 m.length c1, .func (.func 95) #[] #[]] w fun e w' => e = .returned (.bool (listEq hopEq l m)) ∧ Below w.heap.size w w' := by
 refine begin_ (vs := [.slice A0 l.length c0, .slice A1 m.length c1, .func (.func 95) #[] #[]]) Tryz.func94 rfl rfl rfl ?_ (Pm.start w)
 refine zSG ?_
 refine TL.as_ ?_
 refine zET (zS (zSG ?_))
 refine TL.mv ?_
 refine TL.v (gN Tryz.underlying33) ?_
 refine TL.mv ?_
 refine TL.v (gN Tryz.underlying33) ?_
 refine TL.sp bin_neq (fun q14 => ?_) (fun q14 => ?_)
 ·refine zET (zc (zSG ?_))
  refine TL.as_ ?_
  refine zET (zr (zR ?_))
  exact ret_tmp Tryz.results94 rfl (fun w1 hw => ⟨by rw [listEq_len (by omega)], hw.bel⟩)
 ·refine zET (zd (zk (zT (zS (zSG ?_)))))
  refine TL.mv ?_
  refine TL.v (gN Tryz.underlying33) ?_
  refine TL.mv ?_
  refine zET (zB ?_)
  refine TC.loop_ (α := {i : Nat // i ≤ l.length ∧ ∀ (j : Nat) (x z : Hpx), j < i → l[j]? = some x → m[j]? = some z → hopEq x z = true}) (fun y => [(0, .slice A0 l.length c0), (1, .slice A1 m.length c1), (2, .func (.func 95) #[] #[]), (15, .slice A0 l.length c0), (16, .int .i64 (l.length : Nat)), (17, .int .i64 ((y.1 : Nat) : Int))]) (fun y => Pm w []) (fun y => l.length - y.1) (⟨0, Nat.zero_le _, fun j x z hj => absurd hj (Nat.not_lt_zero _)⟩) ⟨rfl, rfl, rfl, rfl, rfl, rfl, trivial⟩ (fun w1 hw => hw) ?_
  rintro ⟨i, hi, he⟩
  try dsimp only at hi he ⊢
  refine zSG ?_
  refine TL.sp bin_lss (fun q18 => ?_) (fun q18 => ?_)
  ·refine zET (zS (zc (zk (zT (zS (zB (zSG ?_)))))))
   refine TL.mv ?_
   have hi20 : i < l.length := by omega
   obtain ⟨x20, hx20⟩ := ex_at hi20
   obtain ⟨b20, o20, hA20, hbb20, hc20⟩ := hr.ad (by omega) (by decide)
   refine TL.val rfl rfl rfl (gA (i := i) Tryz.underlying33 psmsz50 rfl rfl rfl rfl hA20 (by omega)) ?_
   refine TL.v (gR hp_cel psmag50 psmsz50 hbb20 hx20 hc20) ?_
   refine TL.pnew rfl rfl rfl (exec_alloc (cs := [.int .i64 0, .int .u32 0, .slice none 0 0]) rfl psmzv50 rfl) (fun g8 => ?_)
   refine TL.as_ ?_
   refine TL.pstore (k := 0) (vs := x20.cells) rfl rfl rfl rfl rfl rfl rfl psmsz50 (hp_cel.one _) (by show 3 ≤ 3; decide) rfl ?_
   refine zET (zSG ?_)
   refine TL.rn 2 rfl ?_
   have hi24 : i < m.length := by omega
   obtain ⟨x24, hx24⟩ := ex_at hi24
   obtain ⟨b24, o24, hA24, hbb24, hc24⟩ := hr1.ad (by omega) (by decide)
   refine TL.val rfl rfl rfl (gA (i := i) Tryz.underlying33 psmsz50 rfl rfl rfl rfl hA24 (by omega)) ?_
   refine TL.v (gR hp_cel psmag50 psmsz50 hbb24 hx24 hc24) ?_
   refine TL.pnew rfl rfl rfl (exec_alloc (cs := [.int .i64 0, .int .u32 0, .slice none 0 0]) rfl psmzv50 rfl) (fun g9 => ?_)
   refine TL.pstore (k := 0) (vs := x24.cells) rfl rfl rfl rfl rfl rfl rfl psmsz50 (hp_cel.one _) (by show 3 ≤ 3; decide) rfl ?_
   refine zET (zSG ?_)
   refine TL.mv ?_
   refine TL.v (gV 1 (.agg (x20.cells).toArray) psmag50 psmsz50) ?_
   refine TL.v (gV 0 (.agg (x24.cells).toArray) psmag50 psmsz50) ?_
   obtain ⟨bv, hbv⟩ : ∃ b, hopEq x20 x24 = b := ⟨_, rfl⟩
   refine TL.callE1 (r := .bool bv) rfl rfl rfl (ent_val rfl rfl rfl Tryz.func95 (by decide) rfl rfl) (fun w1 hw => by rw [← hbv]; exact same1_any x20 x24 w1 ((hs x20 (List.mem_of_getElem? hx20)).1.up hw.bel) ((hs1 x24 (List.mem_of_getElem? hx24)).up hw.bel) (hs x20 (List.mem_of_getElem? hx20)).2) ?_
   cases bv with
   | true =>
    refine TL.val rfl rfl rfl (gives_boolnot rfl rfl) ?_
    refine zET (zd (zk (zN (zT (zG ?_)))))
    refine TL.v (gD ((i + 1 : Nat) : Int)) ?_
    refine TL.mv ?_
    refine zE ?_
    exact TX.round (⟨i + 1, by omega, all_snoc he hx20 hx24 hbv⟩) (by show l.length - (i + 1) < l.length - i; omega) ⟨rfl, rfl, rfl, rfl, rfl, rfl, trivial⟩ (fun w1 hw => hw.pick [] (by decide) rfl)
   | false =>
    refine TL.val rfl rfl rfl (gives_boolnot rfl rfl) ?_
    refine zET (zc (zSG ?_))
    refine TL.as_ ?_
    refine zET (zr (zRR (zR (zRR ?_))))
    exact ret_tmp Tryz.results94 rfl (fun w1 hw => ⟨by rw [listEq_f hx20 hx24 hbv], hw.bel⟩)
  ·refine zET (zS (zd (zx (zX (zX (zM (zT (zSG ?_))))))))
   refine TL.as_ ?_
   refine zET (zr ?_)
   exact ret_tmp Tryz.results94 rfl (fun w1 hw => ⟨by rw [listEq_t (by omega) (fun j x z h8 h9 h10 => he j x z (by omega) h9 h10)], hw.bel⟩)
set_option maxHeartbeats 1000000 in
theorem eqf2_any (A0 : Option Addr) (c0 : Nat) (l : List Ed) (A1 : Option Addr) (c1 : Nat) (m : List Ed) (w : World) (hr : Reads w w.heap.size 4 A0 l.length (flat Ed.cells l)) (hr1 : Reads w w.heap.size 4 A1 m.length (flat Ed.cells m)) (hl1 : l.length ≤ 100000) (hs : ∀ x ∈ l, Reads w w.heap.size 1 x.fl.A x.fl.l.length (flat (ic .i64) x.fl.l) ∧ x.fl.l.length ≤ 100000) (hs1 : ∀ x ∈ m, Reads w w.heap.size 1 x.fl.A x.fl.l.length (flat (ic .i64) x.fl.l)) :
  Calls Tryz.prog 97 #[.slice A0 l.length c0, .slice A1 m.length c1, .func (.func 98) #[] #[]] w fun e w' => e = .returned (.bool (listEq edgEq l m)) ∧ Below w.heap.size w w' := by
 refine begin_ (vs := [.slice A0 l.length c0, .slice A1 m.length c1, .func (.func 98) #[] #[]]) Tryz.func97 rfl rfl rfl ?_ (Pm.start w)
 refine zSG ?_
 refine TL.as_ ?_
 refine zET (zS (zSG ?_))
 refine TL.mv ?_
 refine TL.v (gN Tryz.underlying34) ?_
 refine TL.mv ?_
 refine TL.v (gN Tryz.underlying34) ?_
 refine TL.sp bin_neq (fun q14 => ?_) (fun q14 => ?_)
 ·refine zET (zc (zSG ?_))
  refine TL.as_ ?_
  refine zET (zr (zR ?_))
  exact ret_tmp Tryz.results97 rfl (fun w1 hw => ⟨by rw [listEq_len (by omega)], hw.bel⟩)
 ·refine zET (zd (zk (zT (zS (zSG ?_)))))
  refine TL.mv ?_
  refine TL.v (gN Tryz.underlying34) ?_
  refine TL.mv ?_
  refine zET (zB ?_)
  refine TC.loop_ (α := {i : Nat // i ≤ l.length ∧ ∀ (j : Nat) (x z : Ed), j < i → l[j]? = some x → m[j]? = some z → edgEq x z = true}) (fun y => [(0, .slice A0 l.length c0), (1, .slice A1 m.length c1), (2, .func (.func 98) #[] #[]), (15, .slice A0 l.length c0), (16, .int .i64 (l.length : Nat)), (17, .int .i64 ((y.1 : Nat) : Int))]) (fun y => Pm w []) (fun y => l.length - y.1) (⟨0, Nat.zero_le _, fun j x z hj => absurd hj (Nat.not_lt_zero _)⟩) ⟨rfl, rfl, rfl, rfl, rfl, rfl, trivial⟩ (fun w1 hw => hw) ?_
  rintro ⟨i, hi, he⟩
  try dsimp only at hi he ⊢
  refine zSG ?_
  refine TL.sp bin_lss (fun q18 => ?_) (fun q18 => ?_)
  ·refine zET (zS (zc (zk (zT (zS (zB (zSG ?_)))))))
   refine TL.mv ?_
   have hi20 : i < l.length := by omega
   obtain ⟨x20, hx20⟩ := ex_at hi20
   obtain ⟨b20, o20, hA20, hbb20, hc20⟩ := hr.ad (by omega) (by decide)
   refine TL.val rfl rfl rfl (gA (i := i) Tryz.underlying34 pwisz63 rfl rfl rfl rfl hA20 (by omega)) ?_
   refine TL.v (gR ed_cel pwiag63 pwisz63 hbb20 hx20 hc20) ?_
   refine TL.pnew rfl rfl rfl (exec_alloc (cs := [.int .i64 0, .int .u32 0, .int .u32 0, .slice none 0 0]) rfl pwizv63 rfl) (fun g8 => ?_)
   refine TL.as_ ?_
   refine TL.pstore (k := 0) (vs := x20.cells) rfl rfl rfl rfl rfl rfl rfl pwisz63 (ed_cel.one _) (by show 4 ≤ 4; decide) rfl ?_
   refine zET (zSG ?_)
   refine TL.rn 2 rfl ?_
   have hi24 : i < m.length := by omega
   obtain ⟨x24, hx24⟩ := ex_at hi24
   obtain ⟨b24, o24, hA24, hbb24, hc24⟩ := hr1.ad (by omega) (by decide)
   refine TL.val rfl rfl rfl (gA (i := i) Tryz.underlying34 pwisz63 rfl rfl rfl rfl hA24 (by omega)) ?_
   refine TL.v (gR ed_cel pwiag63 pwisz63 hbb24 hx24 hc24) ?_
   refine TL.pnew rfl rfl rfl (exec_alloc (cs := [.int .i64 0, .int .u32 0, .int .u32 0, .slice none 0 0]) rfl pwizv63 rfl) (fun g9 => ?_)
   refine TL.pstore (k := 0) (vs := x24.cells) rfl rfl rfl rfl rfl rfl rfl pwisz63 (ed_cel.one _) (by show 4 ≤ 4; decide) rfl ?_
   refine zET (zSG ?_)
   refine TL.mv ?_
   refine TL.v (gV 1 (.agg (x20.cells).toArray) pwiag63 pwisz63) ?_
   refine TL.v (gV 0 (.agg (x24.cells).toArray) pwiag63 pwisz63) ?_
   obtain ⟨bv, hbv⟩ : ∃ b, edgEq x20 x24 = b := ⟨_, rfl⟩
   refine TL.callE1 (r := .bool bv) rfl rfl rfl (ent_val rfl rfl rfl Tryz.func98 (by decide) rfl rfl) (fun w1 hw => by rw [← hbv]; exact same2_any x20 x24 w1 ((hs x20 (List.mem_of_getElem? hx20)).1.up hw.bel) ((hs1 x24 (List.mem_of_getElem? hx24)).up hw.bel) (hs x20 (List.mem_of_getElem? hx20)).2) ?_
   cases bv with
   | true =>
    refine TL.val rfl rfl rfl (gives_boolnot rfl rfl) ?_
    refine zET (zd (zk (zN (zT (zG ?_)))))
    refine TL.v (gD ((i + 1 : Nat) : Int)) ?_
    refine TL.mv ?_
    refine zE ?_
    exact TX.round (⟨i + 1, by omega, all_snoc he hx20 hx24 hbv⟩) (by show l.length - (i + 1) < l.length - i; omega) ⟨rfl, rfl, rfl, rfl, rfl, rfl, trivial⟩ (fun w1 hw => hw.pick [] (by decide) rfl)
   | false =>
    refine TL.val rfl rfl rfl (gives_boolnot rfl rfl) ?_
    refine zET (zc (zSG ?_))
    refine TL.as_ ?_
    refine zET (zr (zRR (zR (zRR ?_))))
    exact ret_tmp Tryz.results97 rfl (fun w1 hw => ⟨by rw [listEq_f hx20 hx24 hbv], hw.bel⟩)
  ·refine zET (zS (zd (zx (zX (zX (zM (zT (zSG ?_))))))))
   refine TL.as_ ?_
   refine zET (zr ?_)
   exact ret_tmp Tryz.results97 rfl (fun w1 hw => ⟨by rw [listEq_t (by omega) (fun j x z h8 h9 h10 => he j x z (by omega) h9 h10)], hw.bel⟩)
set_option maxHeartbeats 1000000 in
theorem same_any (m z : Mp) (w : World) (hm : MpR w m) (hz : MpR w z) :
  Calls Tryz.prog 49 #[.agg m.cells.toArray, .agg z.cells.toArray] w fun e w' => e = .returned (.bool (mpEq m z)) ∧ Below w.heap.size w w' := by
 refine begin_ (vs := [.agg m.cells.toArray, .agg z.cells.toArray]) Tryz.func49 rfl rfl rfl ?_ (Pm.start w)
 refine zSG ?_
 refine TL.pnew rfl rfl rfl (exec_box (cs := m.cells) rfl rfl rfl) (fun g2 => ?_)
 refine TL.pnew rfl rfl rfl (exec_box (cs := z.cells) rfl rfl rfl) (fun g3 => ?_)
 refine TL.as_ ?_
 refine zET (zSG ?_)
 refine TL.v (gF psmfld36_0) ?_
 refine TL.v (gV 1 (.agg #[.int .i64 m.tr.v, .int .u32 m.tr.dst, .int .i64 m.tr.proto]) pcpag32 prssz32) ?_
 refine TL.v (gF psmfld36_0) ?_
 refine TL.v (gV 0 (.agg #[.int .i64 z.tr.v, .int .u32 z.tr.dst, .int .i64 z.tr.proto]) pcpag32 prssz32) ?_
 refine TL.vsplit rfl rfl rfl (gives_bin2 rfl rfl rfl (fun w => trc_eql (⟨m.tr.v, m.tr.dst, m.tr.proto⟩ : Trc) (⟨z.tr.v, z.tr.dst, z.tr.proto⟩ : Trc) _ _ w)) (fun h9 => ?_) (fun h9 => ?_)
 ·have q9 := of_decide_eq_true h9
  refine TL.mv ?_
  refine TL.ov (gF psmfld36_1) ?_
  refine TL.ov (gL 1 pcmag3) ?_
  refine TL.ov (gF psmfld36_1) ?_
  refine TL.ov (gL 0 pcmag3) ?_
  refine TL.gu ?_
  refine TL.sp bin_eql (fun q15 => ?_) (fun q15 => ?_)
  ·refine TL.rn 2 rfl ?_
   refine TL.ov (gF pbdfld36_2) ?_
   refine TL.ov (gL 1 pbdag33) ?_
   refine TL.ov (gF pbdfld36_2) ?_
   refine TL.ov (gL 0 pbdag33) ?_
   refine TL.gu ?_
   refine TL.callsplit rfl rfl rfl rfl rfl Tryz.func94 (by decide) rfl (fun w1 hw => eqf1_any m.hops.A m.hops.c m.hops.l z.hops.A z.hops.c z.hops.l w1 (hm.hops.up hw.bel) (hz.hops.up hw.bel) hm.nhops (fun x hx => ⟨(hm.shops x hx).1.up hw.bel, (hm.shops x hx).2⟩) (fun x hx => (hz.shops x hx).1.up hw.bel)) (fun h22 => ?_) (fun h22 => ?_)
   ·refine TL.rn 2 rfl ?_
    refine TL.ov (gF pbdfld36_3) ?_
    refine TL.ov (gL 1 pbdag34) ?_
    refine TL.ov (gF pbdfld36_3) ?_
    refine TL.ov (gL 0 pbdag34) ?_
    refine TL.gu ?_
    refine TL.callsplit rfl rfl rfl rfl rfl Tryz.func97 (by decide) rfl (fun w1 hw => eqf2_any m.edges.A m.edges.c m.edges.l z.edges.A z.edges.c z.edges.l w1 (hm.edges.up hw.bel) (hz.edges.up hw.bel) hm.nedges (fun x hx => ⟨(hm.sedges x hx).1.up hw.bel, (hm.sedges x hx).2⟩) (fun x hx => (hz.sedges x hx).1.up hw.bel)) (fun h29 => ?_) (fun h29 => ?_)
    ·refine TL.rn 2 rfl ?_
     refine zET (zr ?_)
     have hE : (mpEq m z) = true := (by simp [mpEq, q9, q15, h22, h29] <;> first | exact q9 | exact fun h => absurd h q9)
     exact ret_tmp Tryz.results49 rfl (fun w1 hw => ⟨by rw [hE]; try rfl, hw.bel⟩)
    ·refine TL.rn 2 rfl ?_
     refine zET (zr ?_)
     have hE : (mpEq m z) = false := (by simp [mpEq, q9, q15, h22, h29] <;> first | exact q9 | exact fun h => absurd h q9)
     exact ret_tmp Tryz.results49 rfl (fun w1 hw => ⟨by rw [hE]; try rfl, hw.bel⟩)
   ·refine TL.rn 9 rfl ?_
    refine zET (zr ?_)
    have hE : (mpEq m z) = false := (by simp [mpEq, q9, q15, h22] <;> first | exact q9 | exact fun h => absurd h q9)
    exact ret_tmp Tryz.results49 rfl (fun w1 hw => ⟨by rw [hE]; try rfl, hw.bel⟩)
  ·refine TL.rn 16 rfl ?_
   refine zET (zr ?_)
   have hE : (mpEq m z) = false := (by simp [mpEq, q9, q15] <;> first | exact q9 | exact fun h => absurd h q9)
   exact ret_tmp Tryz.results49 rfl (fun w1 hw => ⟨by rw [hE]; try rfl, hw.bel⟩)
 ·have q9 := of_decide_eq_false h9
  refine TL.rn 22 rfl ?_
  refine zET (zr ?_)
  have hE : (mpEq m z) = false := (by simp [mpEq, q9] <;> first | exact q9 | exact fun h => absurd h q9)
  exact ret_tmp Tryz.results49 rfl (fun w1 hw => ⟨by rw [hE]; try rfl, hw.bel⟩)
/-! ### one spot: what its results say does not depend on their order -/
def VInv (h : List Rs) (v : Int × Int) : Prop :=
 (v = (0, 0) ∧ h = []) ∨ (v = (0, 1) ∧ h ≠ [] ∧ ∀ r ∈ h, r.ans = false) ∨ (∃ a, v = (a, 2) ∧ (∃ r ∈ h, r.ans = true ∧ r.src = a) ∧ ∀ r ∈ h, r.ans = true → r.src = a) ∨ (v = (0, 3) ∧ ∃ r ∈ h, ∃ r' ∈ h, r.ans = true ∧ r'.ans = true ∧ r.src ≠ r'.src)
theorem VInv.step {h : List Rs} {v : Int × Int} (hv : VInv h v) (r : Rs) : VInv (h ++ [r]) (vst v r) := by
 have hm : ∀ {x : Rs}, x ∈ h ++ [r] ↔ x ∈ h ∨ x = r := by intro x; rw [List.mem_append, List.mem_singleton]
 have hne : h ++ [r] ≠ [] := by simp
 by_cases ha : r.ans = false
 ·rcases hv with ⟨rfl, h0⟩ | ⟨rfl, h0, h1⟩ | ⟨a, rfl, h1, h2⟩ | ⟨rfl, x, hx, y, hy, h1⟩
  ·refine .inr (.inl ⟨by unfold vst; rw [if_pos ha]; rfl, hne, fun x hx => ?_⟩)
   rcases hm.1 hx with h2 | h2
   ·rw [h0] at h2; cases h2
   ·rw [h2]; exact ha
  ·refine .inr (.inl ⟨by unfold vst; rw [if_pos ha]; rfl, hne, fun x hx => ?_⟩)
   rcases hm.1 hx with h2 | h2
   ·exact h1 x h2
   ·rw [h2]; exact ha
  ·obtain ⟨x, hx, hx2⟩ := h1
   refine .inr (.inr (.inl ⟨a, by unfold vst; rw [if_pos ha]; rfl, ⟨x, hm.2 (.inl hx), hx2⟩, fun y hy hy2 => ?_⟩))
   rcases hm.1 hy with h3 | h3
   ·exact h2 y h3 hy2
   ·rw [h3, ha] at hy2; cases hy2
  ·exact .inr (.inr (.inr ⟨by unfold vst; rw [if_pos ha]; rfl, x, hm.2 (.inl hx), y, hm.2 (.inl hy), h1⟩))
 ·have ha2 : r.ans = true := by simpa using ha
  rcases hv with ⟨rfl, h0⟩ | ⟨rfl, h0, h1⟩ | ⟨a, rfl, h1, h2⟩ | ⟨rfl, x, hx, y, hy, h1⟩
  ·refine .inr (.inr (.inl ⟨r.src, by unfold vst; rw [if_neg ha]; rfl, ⟨r, hm.2 (.inr rfl), ha2, rfl⟩, fun y hy hy2 => ?_⟩))
   rcases hm.1 hy with h3 | h3
   ·rw [h0] at h3; cases h3
   ·rw [h3]
  ·refine .inr (.inr (.inl ⟨r.src, by unfold vst; rw [if_neg ha]; rfl, ⟨r, hm.2 (.inr rfl), ha2, rfl⟩, fun y hy hy2 => ?_⟩))
   rcases hm.1 hy with h3 | h3
   ·rw [h1 y h3] at hy2; cases hy2
   ·rw [h3]
  ·by_cases hs : a = r.src
   ·subst hs
    obtain ⟨x, hx, hx2⟩ := h1
    refine .inr (.inr (.inl ⟨r.src, ?_, ⟨x, hm.2 (.inl hx), hx2⟩, fun y hy hy2 => ?_⟩))
    ·unfold vst
     rw [if_neg ha, if_neg (show ¬ ((2 : Int) ≤ 1) by decide), if_neg (by rintro ⟨_, h3⟩; exact h3 rfl)]
    ·rcases hm.1 hy with h3 | h3
     ·exact h2 y h3 hy2
     ·rw [h3]
   ·obtain ⟨x, hx, hx2, hx3⟩ := h1
    refine .inr (.inr (.inr ⟨?_, x, hm.2 (.inl hx), r, hm.2 (.inr rfl), hx2, ha2, by rw [hx3]; exact hs⟩))
    unfold vst
    rw [if_neg ha, if_neg (show ¬ ((2 : Int) ≤ 1) by decide), if_pos ⟨rfl, hs⟩]
  ·refine .inr (.inr (.inr ⟨?_, x, hm.2 (.inl hx), y, hm.2 (.inl hy), h1⟩))
   unfold vst
   rw [if_neg ha, if_neg (show ¬ ((3 : Int) ≤ 1) by decide), if_neg (by rintro ⟨h3, _⟩; revert h3; decide)]
theorem VInv.all : ∀ (h p : List Rs) (v : Int × Int), VInv p v → VInv (p ++ h) (h.foldl vst v)
 | [], p, v, hv => by rw [List.append_nil]; exact hv
 | r :: h, p, v, hv => by
  have := VInv.all h (p ++ [r]) (vst v r) (hv.step r)
  rwa [List.append_assoc] at this
theorem vinv (e : Int) (l : List Rs) (s : Spot) : VInv (l.filter (hitS e s)) (vwS e l s) := VInv.all (l.filter (hitS e s)) [] (0, 0) (.inl ⟨rfl, rfl⟩)
theorem VInv.eq {h h' : List Rs} {v v' : Int × Int} (hv : VInv h v) (hv' : VInv h' v') (hs : ∀ r, r ∈ h ↔ r ∈ h') : v = v' := by
 have nil_of : h = [] ↔ h' = [] := by
  constructor
  ·intro e; subst e; exact List.eq_nil_iff_forall_not_mem.2 fun r hr => absurd ((hs r).2 hr) List.not_mem_nil
  ·intro e; subst e; exact List.eq_nil_iff_forall_not_mem.2 fun r hr => absurd ((hs r).1 hr) List.not_mem_nil
 rcases hv with ⟨rfl, h0⟩ | ⟨rfl, h0, h1⟩ | ⟨a, rfl, ⟨x, hx, hx2, hx3⟩, h2⟩ | ⟨rfl, x, hx, y, hy, h1, h2, h3⟩ <;>
 rcases hv' with ⟨rfl, k0⟩ | ⟨rfl, k0, k1⟩ | ⟨b, rfl, ⟨z, hz, hz2, hz3⟩, k2⟩ | ⟨rfl, z, hz, u, hu, k1, k2, k3⟩
 ·rfl
 ·exact absurd (nil_of.1 h0) k0
 ·rw [nil_of.1 h0] at hz; cases hz
 ·rw [nil_of.1 h0] at hz; cases hz
 ·exact absurd (nil_of.2 k0) h0
 ·rfl
 ·rw [h1 z ((hs z).2 hz)] at hz2; cases hz2
 ·rw [h1 z ((hs z).2 hz)] at k1; cases k1
 ·rw [nil_of.2 k0] at hx; cases hx
 ·rw [k1 x ((hs x).1 hx)] at hx2; cases hx2
 ·rw [← hx3, k2 x ((hs x).1 hx) hx2]
 ·exact absurd ((h2 z ((hs z).2 hz) k1).trans (h2 u ((hs u).2 hu) k2).symm) k3
 ·rw [nil_of.2 k0] at hx; cases hx
 ·rw [k1 x ((hs x).1 hx)] at h1; cases h1
 ·exact absurd ((k2 x ((hs x).1 hx) h1).trans (k2 y ((hs y).1 hy) h2).symm) h3
 ·rfl
/-! ### the end -/
def IsEnd (l : List Rs) (e : Int) : Prop := (e = 0 ∧ ∀ r ∈ l, finRs r = false) ∨ ((∃ r ∈ l, finRs r = true ∧ r.ttl = e) ∧ ∀ r ∈ l, finRs r = true → e ≤ r.ttl)
theorem fin_ttl {r : Rs} (h : finRs r = true) : 1 ≤ r.ttl ∧ r.ttl ≤ 255 := by
 unfold finRs at h
 simp only [Bool.and_eq_true] at h
 have h2 : useR 0 r = true := by unfold useR; simp [h.2]
 have := use_rng h2
 exact ⟨this.2.2.1, this.2.2.2⟩
theorem end_step : ∀ (l p : List Rs) (e : Int), IsEnd p e → IsEnd (p ++ l) (l.foldl (fun e r => if fitE e r then r.ttl else e) e)
 | [], p, e, h => by rw [List.append_nil]; exact h
 | r :: l, p, e, h => by
  have h1 : IsEnd (p ++ [r]) (if fitE e r then r.ttl else e) := by
   have hm : ∀ {x : Rs}, x ∈ p ++ [r] ↔ x ∈ p ∨ x = r := by intro x; rw [List.mem_append, List.mem_singleton]
   by_cases hf : finRs r = true
   ·by_cases hc : e = 0 ∨ r.ttl < e
    ·have : fitE e r = true := by unfold fitE; simp [hf, hc]
     rw [if_pos this]
     refine .inr ⟨⟨r, hm.2 (.inr rfl), hf, rfl⟩, fun x hx hx2 => ?_⟩
     rcases hm.1 hx with h2 | h2
     ·rcases h with ⟨h3, h4⟩ | ⟨⟨y, hy, hy2, hy3⟩, h4⟩
      ·rw [h4 x h2] at hx2; cases hx2
      ·have h5 := h4 x h2 hx2
       have h6 := fin_ttl hy2
       omega
     ·rw [h2]; exact Int.le_refl _
    ·have : fitE e r = false := by unfold fitE; simp [hf]; omega
     rw [if_neg (by rw [this]; decide)]
     rcases h with ⟨h3, h4⟩ | ⟨⟨y, hy, hy2, hy3⟩, h4⟩
     ·exact absurd (.inl h3) hc
     ·refine .inr ⟨⟨y, hm.2 (.inl hy), hy2, hy3⟩, fun x hx hx2 => ?_⟩
      rcases hm.1 hx with h2 | h2
      ·exact h4 x h2 hx2
      ·rw [h2]; omega
   ·have : fitE e r = false := by unfold fitE; simp [hf]
    rw [if_neg (by rw [this]; decide)]
    rcases h with ⟨h3, h4⟩ | ⟨⟨y, hy, hy2, hy3⟩, h4⟩
    ·refine .inl ⟨h3, fun x hx => ?_⟩
     rcases hm.1 hx with h2 | h2
     ·exact h4 x h2
     ·rw [h2]; simpa using hf
    ·refine .inr ⟨⟨y, hm.2 (.inl hy), hy2, hy3⟩, fun x hx hx2 => ?_⟩
     rcases hm.1 hx with h2 | h2
     ·exact h4 x h2 hx2
     ·rw [h2] at hx2; exact absurd hx2 hf
  have := end_step l (p ++ [r]) _ h1
  rwa [List.append_assoc] at this
theorem isEnd (l : List Rs) : IsEnd l (endT l) := end_step l [] 0 (.inl ⟨rfl, fun r hr => absurd hr List.not_mem_nil⟩)
theorem IsEnd.eq {l l' : List Rs} {e e' : Int} (h : IsEnd l e) (h' : IsEnd l' e') (hs : ∀ r, finRs r = true → (r ∈ l ↔ r ∈ l')) : e = e' := by
 rcases h with ⟨rfl, h1⟩ | ⟨⟨x, hx, hx2, hx3⟩, h1⟩ <;> rcases h' with ⟨rfl, k1⟩ | ⟨⟨y, hy, hy2, hy3⟩, k1⟩
 ·rfl
 ·rw [h1 y ((hs y hy2).2 hy)] at hy2; cases hy2
 ·rw [k1 x ((hs x hx2).1 hx)] at hx2; cases hx2
 ·have := h1 y ((hs y hy2).2 hy) hy2
  have := k1 x ((hs x hx2).1 hx) hx2
  omega
/-! ### a view as pairs -/
theorem look_pos {e : Int} : ∀ (l : List Rs) (p : (Spot → Option Int) × (Spot → Option Int)), (∀ s x, p.2 s = some x → 1 ≤ x) → ∀ s x, (l.foldl (stepK e) p).2 s = some x → 1 ≤ x
 | [], p, h => h
 | r :: l, p, h => by
  refine look_pos l (stepK e p r) fun s x hx => ?_
  have hu : ∀ (v : Int), 1 ≤ v → updF p.2 (spotR r) v s = some x → 1 ≤ x := fun v hv h1 => by
   unfold updF at h1
   split at h1
   ·cases h1; exact hv
   ·exact h s x h1
  unfold stepK at hx
  split at hx
  ·split at hx
   ·exact hu _ (by omega) hx
   ·split at hx
    ·exact hu _ (by decide) hx
    ·split at hx
     ·exact hu _ (by decide) hx
     ·exact h s x hx
  ·exact h s x hx
theorem st_none {l : List Rs} {s : Spot} : (lookS l).2 s ≠ none ↔ (vwS (endT l) l s).2 ≠ 0 := by
 rw [vwS_look]
 show (lookS l).2 s ≠ none ↔ ((lookS l).2 s).getD 0 ≠ 0
 rcases h : (lookS l).2 s with _ | x
 ·simp
 ·have := look_pos (e := endT l) l (fun _ => none, fun _ => none) (fun s x h => by cases h) s x h
  simp; omega
theorem st_val {l : List Rs} {s : Spot} : ((lookS l).2 s).getD 0 = (vwS (endT l) l s).2 := by rw [vwS_look]; rfl
theorem ad_val {l : List Rs} {s : Spot} : ((lookS l).1 s).getD 0 = (vwS (endT l) l s).1 := by rw [vwS_look]; rfl
theorem st_three {l : List Rs} {s : Spot} : (lookS l).2 s = some 3 ↔ (vwS (endT l) l s).2 = 3 := by
 rw [← st_val]
 rcases h : (lookS l).2 s with _ | x
 ·simp
 ·simp
def SameUse (l l' : List Rs) : Prop := ∀ r, usbRs r = true → (r ∈ l ↔ r ∈ l')
theorem fin_use {r : Rs} (h : finRs r = true) : usbRs r = true := by unfold finRs at h; simp only [Bool.and_eq_true] at h; exact h.2
theorem use_usb {e : Int} {r : Rs} (h : useR e r = true) : usbRs r = true := by unfold useR at h; simp only [Bool.and_eq_true] at h; exact h.1
theorem SameUse.end_ {l l' : List Rs} (h : SameUse l l') : endT l = endT l' := (isEnd l).eq (isEnd l') fun r hr => h r (fin_use hr)
theorem SameUse.vw {l l' : List Rs} (h : SameUse l l') (s : Spot) : vwS (endT l) l s = vwS (endT l') l' s := by
 rw [← h.end_]
 refine (vinv _ l s).eq (vinv _ l' s) fun r => ?_
 rw [List.mem_filter, List.mem_filter]
 constructor
 ·rintro ⟨h1, h2⟩
  have h3 := h2
  unfold hitS at h3
  simp only [Bool.and_eq_true] at h3
  exact ⟨(h r (use_usb h3.1)).1 h1, h2⟩
 ·rintro ⟨h1, h2⟩
  have h3 := h2
  unfold hitS at h3
  simp only [Bool.and_eq_true] at h3
  exact ⟨(h r (use_usb h3.1)).2 h1, h2⟩
theorem pairs_asc_eq {β : Type} {key : β → List Int} {n : Nat} : ∀ {a b : List β}, (∀ x ∈ a, (key x).length = n) → (∀ x ∈ b, (key x).length = n) → AscK key a → AscK key b → (∀ x, x ∈ a ↔ x ∈ b) → a = b
 | [], [], _, _, _, _, _ => rfl
 | [], y :: b, _, _, _, _, h => absurd ((h y).2 List.mem_cons_self) List.not_mem_nil
 | x :: a, [], _, _, _, _, h => absurd ((h x).1 List.mem_cons_self) List.not_mem_nil
 | x :: a, y :: b, na, nb, ha, hb, h => by
  obtain ⟨a1, a2⟩ := List.pairwise_cons.1 ha
  obtain ⟨b1, b2⟩ := List.pairwise_cons.1 hb
  have hxy : x = y := by
   rcases List.mem_cons.1 ((h x).1 List.mem_cons_self) with e | e
   ·exact e
   ·rcases List.mem_cons.1 ((h y).2 List.mem_cons_self) with e2 | e2
    ·exact e2.symm
    ·have h1 := a1 y e2
     have h2 := b1 x e
     have h3 := (lexI_swap (a := key x) (b := key y) (by rw [na x List.mem_cons_self, nb y List.mem_cons_self]))
     omega
  subst hxy
  rw [pairs_asc_eq (fun z hz => na z (List.mem_cons_of_mem _ hz)) (fun z hz => nb z (List.mem_cons_of_mem _ hz)) a2 b2 fun z => ?_]
  constructor
  ·intro hz
   rcases List.mem_cons.1 ((h z).1 (List.mem_cons_of_mem _ hz)) with e | e
   ·subst e; exact absurd (a1 z hz) (ltK_irrefl z)
   ·exact e
  ·intro hz
   rcases List.mem_cons.1 ((h z).2 (List.mem_cons_of_mem _ hz)) with e | e
   ·subst e; exact absurd (b1 z hz) (ltK_irrefl z)
   ·exact e
/-! ### lists of groups in order are determined by what they hold -/
section
variable {α : Type} {key : α → List Int} {fl : α → List Int} {n : Nat}
def GrOk (key fl : α → List Int) (P : List Int → Int → Prop) (hs : List α) : Prop := AscK key hs ∧ (∀ h ∈ hs, (fl h).Pairwise (· < ·) ∧ fl h ≠ []) ∧ ∀ k f, (∃ h ∈ hs, key h = k ∧ f ∈ fl h) ↔ P k f
theorem asc_list_eq : ∀ {a b : List Int}, a.Pairwise (· < ·) → b.Pairwise (· < ·) → (∀ x, x ∈ a ↔ x ∈ b) → a = b := fun {a b} ha hb h => by
 refine sortedI_uniq ?_ (ha.imp fun h => by omega) (hb.imp fun h => by omega)
 exact (List.perm_ext_iff_of_nodup (ha.imp fun h => by omega) (hb.imp fun h => by omega)).2 h
theorem key_uniq (hk : ∀ x, (key x).length = n) : ∀ {hs : List α}, AscK key hs → ∀ {x y : α}, x ∈ hs → y ∈ hs → key x = key y → x = y := fun {hs} ha {x y} hx hy e => by
 obtain ⟨i, hi⟩ := List.getElem?_of_mem hx
 obtain ⟨j, hj⟩ := List.getElem?_of_mem hy
 obtain ⟨i1, i2⟩ := List.getElem?_eq_some_iff.1 hi
 obtain ⟨j1, j2⟩ := List.getElem?_eq_some_iff.1 hj
 rcases Nat.lt_trichotomy i j with h1 | h1 | h1
 ·have := List.pairwise_iff_getElem.1 ha i j i1 j1 h1
  rw [i2, j2, e] at this
  exact absurd this (ltK_irrefl (key := key) y)
 ·subst h1; rw [hi] at hj; exact Option.some.inj hj
 ·have := List.pairwise_iff_getElem.1 ha j i j1 i1 h1
  rw [i2, j2, e] at this
  exact absurd this (ltK_irrefl (key := key) y)
theorem gr_flows (hk : ∀ x, (key x).length = n) {P : List Int → Int → Prop} {hs : List α} (h : GrOk key fl P hs) {x : α} (hx : x ∈ hs) (f : Int) : f ∈ fl x ↔ P (key x) f := by
 rw [← h.2.2]
 constructor
 ·exact fun h1 => ⟨x, hx, rfl, h1⟩
 ·rintro ⟨y, hy, e, h1⟩
  rw [← key_uniq hk h.1 hy hx e]; exact h1
theorem gr_pairs (hk : ∀ x, (key x).length = n) {P P' : List Int → Int → Prop} {hs hs' : List α} (h : GrOk key fl P hs) (h' : GrOk key fl P' hs') (hP : ∀ k f, P k f ↔ P' k f) : hs.map (fun x => (key x, fl x)) = hs'.map fun x => (key x, fl x) := by
 have half : ∀ {P P' : List Int → Int → Prop} {hs hs' : List α}, GrOk key fl P hs → GrOk key fl P' hs' → (∀ k f, P k f ↔ P' k f) → ∀ x ∈ hs, (key x, fl x) ∈ hs'.map fun x => (key x, fl x) := by
  intro P P' hs hs' h h' hP x hx
  obtain ⟨f, hf⟩ := List.exists_mem_of_ne_nil _ (h.2.1 x hx).2
  obtain ⟨y, hy, e, hfy⟩ := (h'.2.2 (key x) f).2 ((hP _ _).1 ((gr_flows hk h hx f).1 hf))
  refine List.mem_map.2 ⟨y, hy, ?_⟩
  rw [e]
  congr 1
  refine asc_list_eq (h'.2.1 y hy).1 (h.2.1 x hx).1 fun g => ?_
  rw [gr_flows hk h' hy, gr_flows hk h hx, e, hP]
 have asc : ∀ {P : List Int → Int → Prop} {hs : List α}, GrOk key fl P hs → AscK (fun p : List Int × List Int => p.1) (hs.map fun x => (key x, fl x)) := by
  intro P hs h
  exact List.pairwise_map.2 h.1
 have hn : ∀ x ∈ hs.map (fun x => (key x, fl x)), x.1.length = n := fun x hx => by
  obtain ⟨y, _, rfl⟩ := List.mem_map.1 hx
  exact hk y
 have hm : ∀ x, x ∈ hs.map (fun x => (key x, fl x)) ↔ x ∈ hs'.map fun x => (key x, fl x) := fun x => by
  constructor
  ·intro hx
   obtain ⟨y, hy, rfl⟩ := List.mem_map.1 hx
   exact half h h' hP y hy
  ·intro hx
   obtain ⟨y, hy, rfl⟩ := List.mem_map.1 hx
   exact half h' h (fun k f => (hP k f).symm) y hy
 exact pairs_asc_eq hn (fun x hx => hn x ((hm x).2 hx)) (asc h) (asc h') hm
end
theorem listEq_map {α β : Type} {r : α → α → Bool} {g : α → β} (hr : ∀ x y, g x = g y → r x y = true) : ∀ {l l' : List α}, l.map g = l'.map g → listEq r l l' = true
 | [], [], _ => rfl
 | [], y :: l, h => by cases h
 | x :: l, [], h => by cases h
 | x :: l, y :: l', h => by
  rw [List.map_cons, List.map_cons, List.cons.injEq] at h
  unfold listEq
  rw [hr x y h.1, listEq_map hr h.2]; rfl
/-! ### the graph -/
theorem hpk_len (x : Hpx) : (hpk x).length = 2 := rfl
theorem edk_len (x : Ed) : (edk x).length = 3 := rfl
def HopP (l : List Rs) (k : List Int) (f : Int) : Prop := ∃ t a, k = [t, a] ∧ (vwS (endT l) l ⟨f, t⟩).2 ≠ 0 ∧ (vwS (endT l) l ⟨f, t⟩).1 = a
def hasV (l : List Rs) (s : Spot) : Prop := (vwS (endT l) l s).2 = 2 ∨ (vwS (endT l) l s).2 = 1
def EdgP (l : List Rs) (k : List Int) (f : Int) : Prop := ∃ t a b, k = [t, a, b] ∧ (vwS (endT l) l ⟨f, t⟩).2 ≠ 0 ∧ hasV l ⟨f, t + 1⟩ ∧ (vwS (endT l) l ⟨f, t⟩).1 = a ∧ (vwS (endT l) l ⟨f, t + 1⟩).1 = b
theorem has_v {l : List Rs} {f t : Int} : hasF (lookS l).2 f t = true ↔ hasV l ⟨f, t⟩ := by
 unfold hasF hasV
 rw [st_val]
 simp
theorem hops_gr {l : List Rs} {hs : List Hpx} (h : HopsOk (lookS l).1 (lookS l).2 hs) : GrOk hpk (fun h => h.fl.l) (HopP l) hs := ⟨h.1, h.2.1, fun k f => by
 constructor
 ·rintro ⟨x, hx, rfl, hf⟩
  have := (h.2.2 x.ttl x.addr f).1 ⟨x, hx, rfl, rfl, hf⟩
  exact ⟨x.ttl, x.addr, rfl, st_none.1 this.1, by rw [← ad_val]; exact this.2⟩
 ·rintro ⟨t, a, rfl, h1, h2⟩
  obtain ⟨x, hx, e1, e2, hf⟩ := (h.2.2 t a f).2 ⟨st_none.2 h1, by rw [ad_val]; exact h2⟩
  exact ⟨x, hx, by rw [hpk, e1, e2], hf⟩⟩
theorem edges_gr {l : List Rs} {es : List Ed} (h : EdgesOk (lookS l).1 (lookS l).2 es) : GrOk edk (fun h => h.fl.l) (EdgP l) es := ⟨h.1, h.2.1, fun k f => by
 constructor
 ·rintro ⟨x, hx, rfl, hf⟩
  have := (h.2.2 x.ttl x.frm x.to_ f).1 ⟨x, hx, rfl, rfl, rfl, hf⟩
  exact ⟨x.ttl, x.frm, x.to_, rfl, st_none.1 this.1, has_v.1 this.2.1, by rw [← ad_val]; exact this.2.2.1, by rw [← ad_val]; exact this.2.2.2⟩
 ·rintro ⟨t, a, b, rfl, h1, h2, h3, h4⟩
  obtain ⟨x, hx, e1, e2, e3, hf⟩ := (h.2.2 t a b f).2 ⟨st_none.2 h1, has_v.2 h2, by rw [ad_val]; exact h3, by rw [ad_val]; exact h4⟩
  exact ⟨x, hx, by rw [edk, e1, e2, e3], hf⟩⟩
theorem hop_eq {x y : Hpx} (h : (hpk x, x.fl.l) = (hpk y, y.fl.l)) : hopEq x y = true := by
 simp only [Prod.mk.injEq, hpk, List.cons.injEq, and_true] at h
 simp [hopEq, h.1.1, h.1.2, h.2]
theorem edg_eq {x y : Ed} (h : (edk x, x.fl.l) = (edk y, y.fl.l)) : edgEq x y = true := by
 simp only [Prod.mk.injEq, edk, List.cons.injEq, and_true] at h
 simp [edgEq, h.1.1, h.1.2.1, h.1.2.2, h.2]
theorem graph_same {l l' : List Rs} {m m' : Mp} (hs : SameUse l l') (h : GraphOk l m) (h' : GraphOk l' m') (ht : m.tr = m'.tr) : mpEq m m' = true := by
 obtain ⟨h1, h2, h3, h4⟩ := h
 obtain ⟨k1, k2, k3, k4⟩ := h'
 have e1 : listEq hopEq m.hops.l m'.hops.l = true := listEq_map (fun x y => hop_eq) (gr_pairs hpk_len (hops_gr h3) (hops_gr k3) fun k f => by unfold HopP; simp only [hs.vw])
 have e2 : listEq edgEq m.edges.l m'.edges.l = true := listEq_map (fun x y => edg_eq) (gr_pairs edk_len (edges_gr h4) (edges_gr k4) fun k f => by unfold EdgP hasV; simp only [hs.vw])
 have e3 : m.en = m'.en := by rw [h2, k2]; exact hs.end_
 simp [mpEq, ht, e3, e1, e2]
theorem mpEq_refl (m : Mp) : mpEq m m = true := by
 have e1 : listEq hopEq m.hops.l m.hops.l = true := listEq_map (fun x y => hop_eq) rfl
 have e2 : listEq edgEq m.edges.l m.edges.l = true := listEq_map (fun x y => edg_eq) rfl
 simp [mpEq, e1, e2]
/-! ### the error -/
theorem any_same {l l' : List Rs} (hs : ∀ r, r ∈ l ↔ r ∈ l') (p : Rs → Bool) : l.any p = l'.any p := by
 rw [Bool.eq_iff_iff, List.any_eq_true, List.any_eq_true]
 exact ⟨fun ⟨x, h1, h2⟩ => ⟨x, (hs x).1 h1, h2⟩, fun ⟨x, h1, h2⟩ => ⟨x, (hs x).2 h1, h2⟩⟩
theorem same_use {l l' : List Rs} (hs : ∀ r, r ∈ l ↔ r ∈ l') : SameUse l l' := fun r _ => hs r
theorem ErrOk.same {l l' : List Rs} (hs : ∀ r, r ∈ l ↔ r ∈ l') {e : Int} (h : ErrOk l (lookS l).2 e) : ErrOk l' (lookS l').2 e := by
 have h3 : (∃ s, (lookS l).2 s = some 3) ↔ ∃ s, (lookS l').2 s = some 3 := by
  simp only [st_three, (same_use hs).vw]
 have ho : ∀ o, IsOrd l o ↔ IsOrd l' o := fun o => by unfold IsOrd; simp only [hs]
 have ht : ∀ o, IsTrc l o ↔ IsTrc l' o := fun o => by unfold IsTrc; simp only [hs]
 unfold ErrOk at h ⊢
 simpa only [any_same hs, ho, ht, h3] using h
theorem ErrOk.eq {l : List Rs} {fs : Spot → Option Int} {e e' : Int} (h : ErrOk l fs e) (h' : ErrOk l fs e') : e = e' := by
 rcases h with ⟨h1, h2⟩ | ⟨h2, o, ho, h3⟩ <;> rcases h' with ⟨k1, k2⟩ | ⟨k2, o', ho', k3⟩
 ·omega
 ·rw [h2] at k2; cases k2
 ·rw [h2] at k2; cases k2
 ·obtain rfl := ho.eq ho'
  rcases h3 with ⟨h3, h4⟩ | ⟨h4, t, ht, h5⟩ <;> rcases k3 with ⟨k3, k4⟩ | ⟨k4, t', ht', k5⟩
  ·omega
  ·omega
  ·omega
  ·obtain rfl := ht.eq ht'
   rcases h5 with ⟨h5, h6⟩ | ⟨h6, h7⟩ <;> rcases k5 with ⟨k5, k6⟩ | ⟨k6, k7⟩
   ·omega
   ·omega
   ·omega
   ·rcases h7 with ⟨h7, h8⟩ | ⟨h7, h8⟩ <;> rcases k7 with ⟨k7, k8⟩ | ⟨k7, k8⟩
    ·omega
    ·exact absurd h8 k8
    ·exact absurd k8 h8
    ·omega
theorem trc_one {l : List Rs} {fs : Spot → Option Int} (h : ErrOk l fs 0) {r r' : Rs} (hr : r ∈ l) (hr' : r' ∈ l) : trcR r = trcR r' := by
 rcases h with ⟨h1, _⟩ | ⟨h2, o, ho, h3⟩
 ·omega
 ·rcases h3 with ⟨h3, _⟩ | ⟨_, t, ht, h5⟩
  ·omega
  ·rcases h5 with ⟨h5, _⟩ | ⟨h6, _⟩
   ·omega
   ·have hv : ∀ x ∈ l, trcR x ∈ t := fun x hx => (ht.2 _).2 ⟨x, hx, by
     have := List.any_eq_false.1 h2 x hx
     simpa using this, rfl⟩
    have a1 := hv r hr
    have a2 := hv r' hr'
    cases t with
    | nil => cases a1
    | cons a t =>
     have : t = [] := List.eq_nil_of_length_eq_zero (by rw [List.length_cons] at h6; omega)
     subst this
     rw [List.mem_singleton.1 a1, List.mem_singleton.1 a2]
theorem build_same {l l' : List Rs} {m m' : Mp} {e e' : Int} (hs : ∀ r, r ∈ l ↔ r ∈ l') (h : BuildOk l m e) (h' : BuildOk l' m' e') : e = e' ∧ mpEq m m' = true := by
 have he : e = e' := (h.1.same hs).eq h'.1
 subst he
 refine ⟨rfl, ?_⟩
 have hn : l = [] ↔ l' = [] := by
  constructor
  ·intro h; subst h; exact List.eq_nil_iff_forall_not_mem.2 fun r hr => absurd ((hs r).2 hr) List.not_mem_nil
  ·intro h; subst h; exact List.eq_nil_iff_forall_not_mem.2 fun r hr => absurd ((hs r).1 hr) List.not_mem_nil
 by_cases h0 : e ≠ 0 ∨ l = []
 ·rw [h.2.1 h0, h'.2.1 (h0.imp id hn.1)]; exact mpEq_refl _
 ·have he0 : e = 0 := Decidable.byContradiction fun h1 => h0 (.inl h1)
  have hl : l ≠ [] := fun h1 => h0 (.inr h1)
  have g := h.2.2 he0 hl
  have g' := h'.2.2 he0 fun h1 => hl (hn.2 h1)
  refine graph_same (same_use hs) g g' ?_
  rw [g.1, g'.1]
  obtain ⟨x, hx⟩ := List.exists_mem_of_ne_nil l hl
  obtain ⟨y, t, rfl⟩ : ∃ y t, l = y :: t := List.exists_cons_of_ne_nil hl
  obtain ⟨z, u, rfl⟩ : ∃ y t, l' = y :: t := List.exists_cons_of_ne_nil fun h1 => hl (hn.2 h1)
  subst he0
  exact trc_one h.1 List.mem_cons_self ((hs z).2 List.mem_cons_self)
/-! ### how large a graph is -/
theorem vw_used {l : List Rs} {s : Spot} (h : (vwS (endT l) l s).2 ≠ 0) : ∃ r ∈ l, useR (endT l) r = true ∧ spotR r = s := lookS_use (by rw [st_val]; exact h)
theorem vw_rng {l : List Rs} (hok : ∀ r ∈ l, r.Ok) (s : Spot) : 0 ≤ (vwS (endT l) l s).1 ∧ (vwS (endT l) l s).1 ≤ 4294967295 := by
 rcases vinv (endT l) l s with ⟨e, _⟩ | ⟨e, _⟩ | ⟨a, e, ⟨r, hr, _, hr2⟩, _⟩ | ⟨e, _⟩
 ·rw [e]; decide
 ·rw [e]; decide
 ·rw [e]
  have h1 := hok r (List.mem_filter.1 hr).1
  unfold Rs.Ok at h1
  show 0 ≤ a ∧ a ≤ 4294967295
  omega
 ·rw [e]; decide
theorem hops_len {l : List Rs} {hs : List Hpx} (h : HopsOk (lookS l).1 (lookS l).2 hs) : hs.length ≤ l.length := by
 have g := hops_gr h
 have hn : (hs.map hpk).Nodup := List.pairwise_map.2 (g.1.imp fun {x y} hxy e => by rw [e] at hxy; exact absurd hxy (ltK_irrefl (key := hpk) y))
 have := nodup_len (F := l.map fun r => [r.ttl, (vwS (endT l) l (spotR r)).1]) hn fun k hk => by
  obtain ⟨x, hx, rfl⟩ := List.mem_map.1 hk
  obtain ⟨f, hf⟩ := List.exists_mem_of_ne_nil _ (g.2.1 x hx).2
  obtain ⟨t, a, e, h1, h2⟩ := (gr_flows hpk_len g hx f).1 hf
  obtain ⟨r, hr, _, hr2⟩ := vw_used h1
  refine List.mem_map.2 ⟨r, hr, ?_⟩
  rw [e, hr2, h2]
  have : r.ttl = t := congrArg Spot.ttl hr2
  rw [this]
 rwa [List.length_map, List.length_map] at this
theorem edges_len {l : List Rs} {es : List Ed} (h : EdgesOk (lookS l).1 (lookS l).2 es) : es.length ≤ l.length := by
 have g := edges_gr h
 have hn : (es.map edk).Nodup := List.pairwise_map.2 (g.1.imp fun {x y} hxy e => by rw [e] at hxy; exact absurd hxy (ltK_irrefl (key := edk) y))
 have := nodup_len (F := l.map fun r => [r.ttl, (vwS (endT l) l (spotR r)).1, (vwS (endT l) l ⟨r.flow, r.ttl + 1⟩).1]) hn fun k hk => by
  obtain ⟨x, hx, rfl⟩ := List.mem_map.1 hk
  obtain ⟨f, hf⟩ := List.exists_mem_of_ne_nil _ (g.2.1 x hx).2
  obtain ⟨t, a, b, e, h1, h2, h3, h4⟩ := (gr_flows edk_len g hx f).1 hf
  obtain ⟨r, hr, _, hr2⟩ := vw_used h1
  refine List.mem_map.2 ⟨r, hr, ?_⟩
  have e1 : r.ttl = t := congrArg Spot.ttl hr2
  have e2 : r.flow = f := congrArg Spot.flow hr2
  rw [e, hr2, h3, e1, e2, h4]
 rwa [List.length_map, List.length_map] at this
theorem flows_len {l : List Rs} {fl : List Int} (ha : fl.Pairwise (· < ·)) (h : ∀ f ∈ fl, ∃ t, (vwS (endT l) l ⟨f, t⟩).2 ≠ 0) : fl.length ≤ l.length := by
 have := nodup_len (F := l.map (·.flow)) (p := fl) (ha.imp fun h => by omega) fun f hf => by
  obtain ⟨t, ht⟩ := h f hf
  obtain ⟨r, hr, _, hr2⟩ := vw_used ht
  exact List.mem_map.2 ⟨r, hr, congrArg Spot.flow hr2⟩
 rwa [List.length_map] at this
structure MpLen (m : Mp) (n : Nat) : Prop where
 hops : m.hops.l.length ≤ n
 edges : m.edges.l.length ≤ n
 fh : ∀ x ∈ m.hops.l, x.fl.l.length ≤ n ∧ 1 ≤ x.ttl ∧ x.ttl ≤ 255 ∧ 0 ≤ x.addr ∧ x.addr ≤ 4294967295
 fe : ∀ x ∈ m.edges.l, x.fl.l.length ≤ n ∧ (0 ≤ x.frm ∧ x.frm ≤ 4294967295) ∧ 0 ≤ x.to_ ∧ x.to_ ≤ 4294967295
theorem build_len {l : List Rs} {m : Mp} {e : Int} (hok : ∀ r ∈ l, r.Ok) (h : BuildOk l m e) : MpLen m l.length := by
 by_cases h0 : e ≠ 0 ∨ l = []
 ·rw [h.2.1 h0]
  exact ⟨Nat.zero_le _, Nat.zero_le _, fun x hx => absurd hx List.not_mem_nil, fun x hx => absurd hx List.not_mem_nil⟩
 ·have he0 : e = 0 := Decidable.byContradiction fun h1 => h0 (.inl h1)
  have hl : l ≠ [] := fun h1 => h0 (.inr h1)
  obtain ⟨_, _, h3, h4⟩ := h.2.2 he0 hl
  have g := hops_gr h3
  have g' := edges_gr h4
  refine ⟨hops_len h3, edges_len h4, fun x hx => ⟨flows_len (g.2.1 x hx).1 fun f hf => ?_, ?_⟩, fun x hx => ⟨flows_len (g'.2.1 x hx).1 fun f hf => ?_, ?_⟩⟩
  ·obtain ⟨t, a, e, h1, h2⟩ := (gr_flows hpk_len g hx f).1 hf
   exact ⟨t, h1⟩
  ·obtain ⟨f, hf⟩ := List.exists_mem_of_ne_nil _ (g.2.1 x hx).2
   obtain ⟨t, a, e, h1, h2⟩ := (gr_flows hpk_len g hx f).1 hf
   obtain ⟨r, hr, hu, hr2⟩ := vw_used h1
   have e1 : r.ttl = t := congrArg Spot.ttl hr2
   have e2 := use_rng hu
   have e3 := vw_rng hok ⟨f, t⟩
   simp only [hpk, List.cons.injEq, and_true] at e
   omega
  ·obtain ⟨t, a, b, e, h1, h2⟩ := (gr_flows edk_len g' hx f).1 hf
   exact ⟨t, h1⟩
  ·obtain ⟨f, hf⟩ := List.exists_mem_of_ne_nil _ (g'.2.1 x hx).2
   obtain ⟨t, a, b, e, h1, h2, h3, h4⟩ := (gr_flows edk_len g' hx f).1 hf
   have e3 := vw_rng hok ⟨f, t⟩
   have e4 := vw_rng hok ⟨f, t + 1⟩
   simp only [edk, List.cons.injEq, and_true] at e
   omega
set_option maxRecDepth 20000
theorem cod_stab (cb : Nat) : Stab cb (fun w => Cod w cb) := fun w1 w2 h hs => h.keep fun b hb => hs b (by omega)
theorem cod_cells {w : World} {cb : Nat} (h : Cod w cb) : CellsAt w cb := by
 obtain ⟨A, m, c, l, k, hb, _⟩ := h
 exact ⟨_, hb, rfl⟩
theorem next_cod (cb : Nat) (w : World) (n : Int) (h : Cod w cb) :
  Calls Tryz.prog 25 #[.pointer (some ⟨cb, 0, none⟩), .int .i64 n] w fun e w' => ∃ x : {x : Nat // x ≤ 65535 ∧ (1 ≤ n → (x : Int) < n)}, e = .returned (.int .i64 (x.1 : Int)) ∧ Codr (fun w => Cod w cb) cb w [] w' :=
 (next_any cb w n h).mono fun e w' ⟨x, he, h0, h1, h2, hc, hg, _⟩ => by
  obtain ⟨k, rfl⟩ := Int.eq_ofNat_of_zero_le h0
  exact ⟨⟨k, by omega, h2⟩, he, hc, hg, cod_cells hc, (fun q hq => absurd hq List.not_mem_nil), List.Pairwise.nil⟩
theorem grown_cell {w w1 : World} {cb : Nat} {p : Addr} (hg : w.grownBy w1 (some cb)) (hp : p.block ≠ cb) (hl : p.block < w.heap.size) : w1.cell? p = w.cell? p :=
 World.cell?_of_block (hg.block _ hl fun e => hp (by injection e))
theorem flat_row1 {w0 : Base} {L : List Pc} {w : World} {q g n cc i : Nat} {e : TypeId} {k : IntKind} {l : List Int} {x : Int} (h : Pm w0 L w) (hk : L[q]? = some (.row (.slice (some ⟨g, 0, none⟩) n cc) e 1 n (flat (ic k) l))) (hx : l[i]? = some x) : w.cell? ⟨g, i, none⟩ = some (.int k x) := by
 have := flat_row (ic_cel k) h hk hx 0 _ rfl
 rwa [show 0 + i * 1 + 0 = i by omega] at this
theorem ddrbs48_8_10220 (a0_0 : Int) (a1_0 : Int) (a2_0 : Int) (a3_0 : Int) (a4_0 : Int) (a5_0 : Int) (a6_0 : Int) (a7_0 : Int) (w : World) : (Instr.buildSlice 48 8 #[(0, .int .i64 a0_0), (1, .int .i64 a1_0), (2, .int .i64 a2_0), (3, .int .i64 a3_0), (4, .int .i64 a4_0), (5, .int .i64 a5_0), (6, .int .i64 a6_0), (7, .int .i64 a7_0)]).run Tryz.prog w = .ok (.slice (some ⟨w.heap.size, 0, none⟩) 8 8) (w.alloc (.cells [.int .i64 a0_0, .int .i64 a1_0, .int .i64 a2_0, .int .i64 a3_0, .int .i64 a4_0, .int .i64 a5_0, .int .i64 a6_0, .int .i64 a7_0].toArray 3)) := by kernel_rfl
set_option maxHeartbeats 1000000 in
theorem roll_any (A : Option Addr) (n c : Nat) (l : List Int) (w : World) (hb : Byt w w.heap.size A n l) (hc : n ≤ c) (hn : (n : Int) ≤ 9223372036854775807) : Calls Tryz.prog 11 #[.slice A n c] w fun e w' => e = .returned (.pointer (some ⟨w.heap.size, 0, none⟩)) ∧ Cod w' w.heap.size ∧ Below w.heap.size w w' := by
 refine begin_ (vs := [.slice A n c]) (I := fun w1 => w1 = w) Tryz.func11 rfl rfl rfl ?_ rfl
 refine zSG ?_
 refine TL.as_ ?_
 refine zET (zSG ?_)
 refine TL.mv ?_
 refine TL.call (α := Unit) (r := fun _ => .pointer (some ⟨w.heap.size, 0, none⟩)) (I' := fun _ w2 => Cod w2 w.heap.size ∧ Below w.heap.size w w2) rfl rfl rfl rfl rfl Tryz.func56 (by decide) rfl (fun w1 hw => by cases hw; exact (new_any A n c l w 400 hb hc (by omega) (by decide) (by decide)).mono fun e w2 ⟨h1, h2, h3, _⟩ => ⟨(), h1, h2, h3⟩) (fun _ => ?_)
 refine TL.as_ ?_
 refine zET (zr ?_)
 exact ret_tmp Tryz.results11 rfl (fun w1 hw => ⟨rfl, hw.1, hw.2⟩)
set_option maxHeartbeats 1000000 in
theorem pick_cod (cb : Nat) (w : World) (hC : Cod w cb) (g c : Nat) (tab : List Int) (hgc : g ≠ cb) (hgl : g < w.heap.size) (h0 : 0 < tab.length) (hcell : ∀ (i : Nat) (v : Int), tab[i]? = some v → w.cell? ⟨g, i, none⟩ = some (.int .i64 v)) :
  Calls Tryz.prog 75 #[.pointer (some ⟨cb, 0, none⟩), .slice (some ⟨g, 0, none⟩) tab.length c] w fun e w' => ∃ x : {v : Int // v ∈ tab}, e = .returned (.int .i64 x.1) ∧ Codr (fun w => Cod w cb) cb w ([]) w' := by
 refine begin_ (vs := [.pointer (some ⟨cb, 0, none⟩), .slice (some ⟨g, 0, none⟩) tab.length c]) (I := Pm ⟨w, cb⟩ (.abs cb (fun w => Cod w cb) :: oths cb w)) Tryz.func75 rfl rfl rfl ?_ (Pm.codes hC (cod_cells hC) (cod_stab cb))
 refine zSG ?_
 refine TL.as_ ?_
 refine zET (zSG ?_)
 refine TL.rn 3 rfl ?_
 refine TL.v (gN Tryz.underlying48) ?_
 refine TL.pcallCod (k := 0) (α := {q9 : Nat // q9 ≤ 65535 ∧ (1 ≤ ((tab.length : Nat) : Int) → (q9 : Int) < (tab.length : Nat))}) (fun q9 => .int .i64 ((q9.1 : Nat) : Int)) (fun q9 => []) rfl rfl rfl rfl rfl Tryz.func25 (by decide) rfl rfl (fun w1 hw hC1 => next_cod cb w1 (tab.length : Nat) hC1) ?_
 rintro ⟨x, hx1, hx2⟩
 dsimp only [List.cons_append, List.nil_append]
 refine TL.val rfl rfl rfl (gives_at (v := .pointer (some ⟨g, x, none⟩)) rfl rfl rfl (fun w => at_row Tryz.underlying48 pcmsz3 g _ _ x (by omega) rfl w)) ?_
 obtain ⟨v, hv, hvt⟩ : ∃ v, tab[x]? = some v ∧ v ∈ tab := ⟨_, List.getElem?_eq_getElem (by omega), List.getElem_mem _⟩
 refine TL.val rfl rfl rfl (gives_load (v := .int .i64 v) rfl rfl pcmag3 (fun w1 hw => (grown_cell (hw.kept (fun q hq => by simp [hq])) (by show g ≠ cb; exact hgc) (by show g < _; exact hgl)).trans (hcell x v hv))) ?_
 refine TL.as_ ?_
 refine zET (zr ?_)
 exact ret_tmp Tryz.results75 rfl (fun w1 hw => ⟨⟨v, hvt⟩, rfl, Pm.codr [] (hw) rfl⟩)
set_option maxHeartbeats 1000000 in
theorem daddr_cod (cb : Nat) (w : World) (hC : Cod w cb) :
  Calls Tryz.prog 77 #[.pointer (some ⟨cb, 0, none⟩)] w fun e w' => ∃ x : {a : Int // 167772161 ≤ a ∧ a ≤ 167772173}, e = .returned (.int .u32 x.1) ∧ Codr (fun w => Cod w cb) cb w ([]) w' := by
 refine begin_ (vs := [.pointer (some ⟨cb, 0, none⟩)]) (I := Pm ⟨w, cb⟩ (.abs cb (fun w => Cod w cb) :: oths cb w)) Tryz.func77 rfl rfl rfl ?_ (Pm.codes hC (cod_cells hC) (cod_stab cb))
 refine zSG ?_
 refine TL.as_ ?_
 refine zET (zSG ?_)
 refine TL.mv ?_
 refine TL.prowS (e := 3) (size := 1) (cs := flat (ic .i64) [1, 2, 5, 6, 9, 10, 12, 13]) rfl rfl rfl rfl rfl (fun w => ddrbs48_8_10220 _ _ _ _ _ _ _ _ w) (by decide) rfl (fun g4 => ?_)
 refine TL.pcallCod (k := 1) (α := {v : Int // v ∈ ([1, 2, 5, 6, 9, 10, 12, 13] : List Int)}) (fun x => .int .i64 x.1) (fun x => []) rfl rfl rfl rfl rfl Tryz.func75 (by decide) rfl rfl (fun w1 hw hC1 => pick_cod cb w1 hC1 g4 8 ([1, 2, 5, 6, 9, 10, 12, 13]) (hw.neq (i := 0) (j := 1) rfl rfl (by decide) g4 rfl <| congrArg some ·.symm) (Pc.lt (hw.at_ (k := 0) rfl) g4 rfl).2 (by show 0 < ([1, 2, 5, 6, 9, 10, 12, 13] : List Int).length; simp) (fun i v hi => flat_row1 hw (q := 0) rfl hi)) ?_
 rintro ⟨v, hv⟩
 dsimp only [List.cons_append, List.nil_append]
 have hvb : 1 ≤ v ∧ v ≤ 13 := by simp only [List.mem_cons, List.not_mem_nil, or_false] at hv; omega
 refine TL.v (gD (167772160 + v)) ?_
 refine TL.val rfl rfl rfl (gives_conv rfl rfl (fun w => conv_fit (k := .i64) Tryz.underlying30 Tryz.underlying3 (by simp only [IntKind.wrap_u32]; omega) w)) ?_
 refine TL.as_ ?_
 refine zET (zr ?_)
 exact ret_tmp Tryz.results77 rfl (fun w1 hw => ⟨⟨167772160 + v, by omega⟩, rfl, Pm.codr [] (hw.sel (.cons _ (.cons_cons _ (List.Sublist.refl _)))) rfl⟩)
set_option maxHeartbeats 1000000 in
theorem dbool_cod (cb : Nat) (w : World) (hC : Cod w cb) (n : Nat) (hn : n ≤ 1000) :
  Calls Tryz.prog 13 #[.pointer (some ⟨cb, 0, none⟩), .int .i64 ((n : Nat) : Int)] w fun e w' => ∃ x : Bool, e = .returned (.bool x) ∧ Codr (fun w => Cod w cb) cb w ([]) w' := by
 refine begin_ (vs := [.pointer (some ⟨cb, 0, none⟩), .int .i64 ((n : Nat) : Int)]) (I := Pm ⟨w, cb⟩ (.abs cb (fun w => Cod w cb) :: oths cb w)) Tryz.func13 rfl rfl rfl ?_ (Pm.codes hC (cod_cells hC) (cod_stab cb))
 refine zSG ?_
 refine TL.as_ ?_
 refine zET (zSG ?_)
 refine TL.rn 2 rfl ?_
 refine TL.pcallCod (k := 0) (α := {q9 : Nat // q9 ≤ 65535 ∧ (1 ≤ (((n : Nat) : Int) : Int) → (q9 : Int) < ((n : Nat) : Int))}) (fun q9 => .int .i64 ((q9.1 : Nat) : Int)) (fun q9 => []) rfl rfl rfl rfl rfl Tryz.func25 (by decide) rfl rfl (fun w1 hw hC1 => next_cod cb w1 ((n : Nat) : Int) hC1) ?_
 rintro ⟨x, hx1, hx2⟩
 dsimp only [List.cons_append, List.nil_append]
 refine TL.mv ?_
 refine TL.val rfl rfl rfl (gives_bin rfl rfl rfl (fun w => bin_sub_ (r := (n : Int) - 1) (by simp only [IntKind.wrap_i64]; omega) w)) ?_
 refine TL.val rfl rfl rfl (gives_bin rfl rfl rfl (fun w => bin_eql w)) ?_
 refine TL.as_ ?_
 refine zET (zr ?_)
 exact ret_tmp Tryz.results13 rfl (fun w1 hw => ⟨decide (((x : Nat) : Int) = (n : Int) - 1), rfl, Pm.codr [] (hw) rfl⟩)
set_option maxRecDepth 20000
def TrOk (t : Trc) : Prop := (0 ≤ t.v ∧ t.v ≤ 1) ∧ (167774464 ≤ t.dst ∧ t.dst ≤ 167774466) ∧ (t.proto = 17 ∨ t.proto = 1 ∨ t.proto = 6)
structure Nt where
 v : Int
 dst : Int
 proto : Int
 ps : Sg (Sg Int)
 last : Int
def Nt.cells (n : Nt) : List Value := [.int .i64 n.v, .int .u32 n.dst, .int .i64 n.proto, .slice n.ps.A n.ps.l.length n.ps.c, .int .u32 n.last]
theorem nt_cel : Cel Nt.cells 5 := ⟨fun _ => rfl, fun r u hu => by
 simp only [Nt.cells, List.mem_cons, List.not_mem_nil, or_false] at hu
 rcases hu with rfl | rfl | rfl | rfl | rfl <;> rfl⟩
def PathW (n : Nat) (l : List Int) : Prop := l.length = n ∧ ∀ a ∈ l, 0 ≤ a ∧ a ≤ 167772173
def NtOk (n : Nt) : Prop := TrOk ⟨n.v, n.dst, n.proto⟩ ∧ (1 ≤ n.last ∧ n.last ≤ 167774466) ∧ ∃ lg, 1 ≤ lg ∧ lg ≤ 3 ∧ 1 ≤ n.ps.l.length ∧ n.ps.l.length ≤ 3 ∧ ∀ s ∈ n.ps.l, PathW lg s.l
theorem ad_snoc {p : List Int} {x : Int} (h : ∀ a ∈ p, 0 ≤ a ∧ a ≤ 167772173) (hx : 0 ≤ x ∧ x ≤ 167772173) : ∀ a ∈ p ++ [x], 0 ≤ a ∧ a ≤ 167772173 := fun a ha => by
 rcases List.mem_append.1 ha with ha | ha
 ·exact h a ha
 ·rw [List.mem_singleton.1 ha]; exact hx
theorem pw_snoc {pp : List (Sg Int)} {s : Sg Int} {n : Nat} (h : ∀ s ∈ pp, PathW n s.l) (hs : PathW n s.l) : ∀ x ∈ pp ++ [s], PathW n x.l := fun a ha => by
 rcases List.mem_append.1 ha with ha | ha
 ·exact h a ha
 ·rw [List.mem_singleton.1 ha]; exact hs
def netP (p : Sg (Sg Int)) : List Pc := .row (.slice p.A p.l.length p.c) 64 1 p.l.length (flat sgc p.l) :: segG 30 1 (flat (ic .u32)) p.l
theorem netP_noAbs (p : Sg (Sg Int)) : noAbs (netP p) = true := by
 have h := segG_noAbs (e := 30) (size := 1) (enc := flat (ic .u32)) p.l
 simp only [noAbs, netP, List.all_cons, Bool.and_eq_true] at h ⊢
 exact ⟨rfl, h⟩
section
variable {w0 : Base} {w : World} {α : Type} {e : TypeId} {size : Nat} {enc : List α → List Value} {L P O : List Pc} {ss : List (Sg α)} {s : Sg α}
theorem Pm.tuckEnd (h : Pm w0 (.row (.slice s.A s.l.length s.c) e size s.l.length (enc s.l) :: (P ++ (segG e size enc ss ++ O))) w) : Pm w0 (P ++ (segG e size enc (ss ++ [s]) ++ O)) w := by
 refine h.permute ?_
 have h1 : segG e size enc (ss ++ [s]) = segG e size enc ss ++ [.row (.slice s.A s.l.length s.c) e size s.l.length (enc s.l)] := List.map_append
 rw [h1, List.append_assoc]
 refine List.perm_middle.symm.trans (List.Perm.append_left P ?_)
 exact List.perm_middle.symm
theorem Pm.netOut {p : Sg (Sg Int)} {a : Pc} (h : Pm w0 (.row (.slice p.A p.l.length p.c) 64 1 p.l.length (flat sgc p.l) :: a :: (segG 30 1 (flat (ic .u32)) p.l ++ O)) w) : Pm w0 (netP p ++ a :: O) w := by
 refine h.permute (List.Perm.cons _ ?_)
 exact List.perm_middle.symm
theorem seg_mem {T : List Pc} (h : s ∈ ss) : Pc.row (.slice s.A s.l.length s.c) e size s.l.length (enc s.l) ∈ segG e size enc ss ++ T := List.mem_append_left _ (List.mem_map_of_mem (f := Sg.pc e size enc) h)
theorem segA {A : Option Addr} {n c : Nat} {xs : List Value} (h : Pm w0 L w) (hm : Pc.row (.slice A n c) e size n xs ∈ L) (hn : 0 < n) : ∃ g, A = some ⟨g, 0, none⟩ := by
 obtain ⟨k, hk⟩ := List.getElem?_of_mem hm
 exact rowA h hk hn
theorem seg_cell {c : α → List Value} {k g i : Nat} {x : α} (K : Cel c k) (h : Pm w0 L w) (hm : Pc.row (.slice s.A s.l.length s.c) e k s.l.length (flat c s.l) ∈ L) (hA : s.A = some ⟨g, 0, none⟩) (hx : s.l[i]? = some x) (j : Nat) (u : Value) (hu : (c x)[j]? = some u) : w.cell? ⟨g, 0 + i * k + j, none⟩ = some u := by
 obtain ⟨q, hq⟩ := List.getElem?_of_mem hm
 rw [hA] at hq
 exact flat_row K h hq hx j u hu
end
theorem dntzv119 (w : World) : (zeroValue 119).run Tryz.prog w = .ok (.agg #[.int .i64 0, .int .u32 0, .int .i64 0, .slice none 0 0, .int .u32 0]) w := rfl
theorem dntbld119_60100 (a0_0 : Int) (a0_1 : Int) (a0_2 : Int) (w : World) : (Instr.build 119 #[(0, .agg #[.int .i64 a0_0, .int .u32 a0_1, .int .i64 a0_2])]).run Tryz.prog w = .ok (.agg #[.int .i64 a0_0, .int .u32 a0_1, .int .i64 a0_2, .slice none 0 0, .int .u32 0]) w := by kernel_rfl
theorem dntsz119 (w : World) : (sizeOf 119).run Tryz.prog w = .ok 5 w := rfl
theorem dntone_i64u32i64su32 {a0 : Int} {a1 : Int} {a2 : Int} {a3 : Option Addr} {n3 c3 : Nat} {a4 : Int} : ∀ u ∈ [(.int .i64 a0 : Value), .int .u32 a1, .int .i64 a2, .slice a3 n3 c3, .int .u32 a4], u.oneCell' = true := by
 intro u hu
 simp only [List.mem_cons, List.not_mem_nil, or_false] at hu
 rcases hu with rfl | rfl | rfl | rfl | rfl <;> rfl
theorem dntfld119_0 : FA Tryz.prog 119 0 0 := fun g o w => by kernel_rfl
theorem dntfld119_2 : FA Tryz.prog 119 2 4 := fun g o w => by kernel_rfl
theorem dntsz30 (w : World) : (sizeOf 30).run Tryz.prog w = .ok 1 w := rfl
theorem dntone_u32 {a0 : Int} : ∀ u ∈ [(.int .u32 a0 : Value)], u.oneCell' = true := by
 intro u hu
 rw [List.mem_singleton] at hu
 subst hu; rfl
theorem dntfld119_1 : FA Tryz.prog 119 1 3 := fun g o w => by kernel_rfl
theorem dntag117 (w : World) : (isAgg 117).run Tryz.prog w = .ok false w := rfl
theorem dntsz64 (w : World) : (sizeOf 64).run Tryz.prog w = .ok 1 w := rfl
theorem dntag64 (w : World) : (isAgg 64).run Tryz.prog w = .ok false w := rfl
theorem dntbs117_1_58639 (a0_0 : Option Addr) (a0_0n a0_0c : Nat) (w : World) : (Instr.buildSlice 117 1 #[(0, .slice a0_0 a0_0n a0_0c)]).run Tryz.prog w = .ok (.slice (some ⟨w.heap.size, 0, none⟩) 1 1) (w.alloc (.cells [.slice a0_0 a0_0n a0_0c].toArray 64)) := by kernel_rfl
theorem dntel117 : Elem Tryz.prog 117 64 1 24 := Elem.mk' Tryz.underlying117 (z := .slice none 0 0) (by kernel_rfl) rfl (by omega) (by omega)
theorem dntsz117 (w : World) : (sizeOf 117).run Tryz.prog w = .ok 1 w := rfl
theorem dntag119 (w : World) : (isAgg 119).run Tryz.prog w = .ok true w := rfl
set_option maxHeartbeats 1000000 in
theorem dproto_cod (cb : Nat) (w : World) (hC : Cod w cb) :
  Calls Tryz.prog 159 #[.pointer (some ⟨cb, 0, none⟩)] w fun e w' => ∃ x : {v : Int // v = 17 ∨ v = 1 ∨ v = 6}, e = .returned (.int .i64 x.1) ∧ Codr (fun w => Cod w cb) cb w ([]) w' := by
 refine begin_ (vs := [.pointer (some ⟨cb, 0, none⟩)]) (I := Pm ⟨w, cb⟩ (.abs cb (fun w => Cod w cb) :: oths cb w)) Tryz.func159 rfl rfl rfl ?_ (Pm.codes hC (cod_cells hC) (cod_stab cb))
 refine zSG ?_
 refine TL.as_ ?_
 refine zET (zSG ?_)
 refine TL.mv ?_
 refine TL.prowS (e := 3) (size := 1) (cs := flat (ic .i64) [17, 1, 6]) rfl rfl rfl rfl rfl (fun w => pcmbs48_3_44640 _ _ _ w) (by decide) rfl (fun g4 => ?_)
 refine TL.pcallCod (k := 1) (α := {v : Int // v ∈ ([17, 1, 6] : List Int)}) (fun x => .int .i64 x.1) (fun x => []) rfl rfl rfl rfl rfl Tryz.func75 (by decide) rfl rfl (fun w1 hw hC1 => pick_cod cb w1 hC1 g4 3 ([17, 1, 6]) (hw.neq (i := 0) (j := 1) rfl rfl (by decide) g4 rfl <| congrArg some ·.symm) (Pc.lt (hw.at_ (k := 0) rfl) g4 rfl).2 (by show 0 < ([17, 1, 6] : List Int).length; simp) (fun i v hi => flat_row1 hw (q := 0) rfl hi)) ?_
 rintro ⟨v, hv⟩
 dsimp only [List.cons_append, List.nil_append]
 have hvb : v = 17 ∨ v = 1 ∨ v = 6 := by simpa using hv
 refine TL.as_ ?_
 refine zET (zr ?_)
 exact ret_tmp Tryz.results159 rfl (fun w1 hw => ⟨⟨v, hvb⟩, rfl, Pm.codr [] (hw.sel (.cons _ (.cons_cons _ (List.Sublist.refl _)))) rfl⟩)
set_option maxHeartbeats 1000000 in
theorem dtrace_cod (cb : Nat) (w : World) (hC : Cod w cb) :
  Calls Tryz.prog 111 #[.pointer (some ⟨cb, 0, none⟩)] w fun e w' => ∃ x : {t : Trc // TrOk t}, e = .returned (.agg x.1.cells.toArray) ∧ Codr (fun w => Cod w cb) cb w ([]) w' := by
 refine begin_ (vs := [.pointer (some ⟨cb, 0, none⟩)]) (I := Pm ⟨w, cb⟩ (.abs cb (fun w => Cod w cb) :: oths cb w)) Tryz.func111 rfl rfl rfl ?_ (Pm.codes hC (cod_cells hC) (cod_stab cb))
 refine zSG ?_
 refine TL.pnew rfl rfl rfl (exec_alloc (cs := [.int .i64 0, .int .u32 0, .int .i64 0]) rfl prszv32 rfl) (fun g2 => ?_)
 refine zET (zSG ?_)
 refine TL.mv ?_
 refine TL.pcallCod (k := 1) (α := {q9 : Nat // q9 ≤ 65535 ∧ (1 ≤ (2 : Int) → (q9 : Int) < 2)}) (fun q9 => .int .i64 ((q9.1 : Nat) : Int)) (fun q9 => []) rfl rfl rfl rfl rfl Tryz.func25 (by decide) rfl rfl (fun w1 hw hC1 => next_cod cb w1 2 hC1) ?_
 rintro ⟨a0, ha01, ha02⟩
 dsimp only [List.cons_append, List.nil_append]
 refine TL.mv ?_
 refine TL.pcallCod (k := 1) (α := {q9 : Nat // q9 ≤ 65535 ∧ (1 ≤ (3 : Int) → (q9 : Int) < 3)}) (fun q9 => .int .i64 ((q9.1 : Nat) : Int)) (fun q9 => []) rfl rfl rfl rfl rfl Tryz.func25 (by decide) rfl rfl (fun w1 hw hC1 => next_cod cb w1 3 hC1) ?_
 rintro ⟨a1, ha11, ha12⟩
 dsimp only [List.cons_append, List.nil_append]
 refine TL.v (gD ((167774464 + a1 : Nat) : Int)) ?_
 refine TL.val rfl rfl rfl (gives_conv rfl rfl (fun w => conv_fit (k := .i64) Tryz.underlying30 Tryz.underlying3 (by simp only [IntKind.wrap_u32]; omega) w)) ?_
 refine TL.mv ?_
 refine TL.pcallCod (k := 1) (α := {v : Int // v = 17 ∨ v = 1 ∨ v = 6}) (fun x => .int .i64 x.1) (fun x => []) rfl rfl rfl rfl rfl Tryz.func159 (by decide) rfl rfl (fun w1 hw hC1 => dproto_cod cb w1 hC1) ?_
 rintro ⟨pp, hpp⟩
 dsimp only [List.cons_append, List.nil_append]
 refine TL.val rfl rfl rfl (gives_build (v := .agg #[.int .i64 ((a0 : Nat) : Int), .int .u32 ((167774464 + a1 : Nat) : Int), .int .i64 pp]) rfl rfl (fun w => prsbld32_57312 _ _ _ w)) ?_
 refine TL.pstore (k := 0) (vs := [.int .i64 ((a0 : Nat) : Int), .int .u32 ((167774464 + a1 : Nat) : Int), .int .i64 pp]) rfl rfl rfl rfl rfl rfl rfl prssz32 prsone_i64u32i64 (by show 3 ≤ 3; decide) rfl ?_
 refine zET (zr ?_)
 exact pm_ret_cell (k := 0) Tryz.results111 rfl rfl Tryz.underlying32 rfl rfl (fun w1 hw => ⟨⟨⟨((a0 : Nat) : Int), ((167774464 + a1 : Nat) : Int), pp⟩, by unfold TrOk; dsimp only; omega⟩, rfl, Pm.codr [] (hw.sel (.cons _ (.cons_cons _ (List.Sublist.refl _)))) rfl⟩)
set_option maxHeartbeats 1000000 in
theorem scene_cod (cb : Nat) (w : World) (hC : Cod w cb) :
  Calls Tryz.prog 74 #[.pointer (some ⟨cb, 0, none⟩)] w fun e w' => ∃ x : {y : Nt // NtOk y}, e = .returned (.agg x.1.cells.toArray) ∧ Codr (fun w => Cod w cb) cb w (netP x.1.ps) w' := by
 refine begin_ (vs := [.pointer (some ⟨cb, 0, none⟩)]) (I := Pm ⟨w, cb⟩ (.abs cb (fun w => Cod w cb) :: oths cb w)) Tryz.func74 rfl rfl rfl ?_ (Pm.codes hC (cod_cells hC) (cod_stab cb))
 refine zSG ?_
 refine TL.pnew rfl rfl rfl (exec_alloc (cs := [.int .i64 0, .int .u32 0, .int .i64 0, .slice none 0 0, .int .u32 0]) rfl dntzv119 rfl) (fun g2 => ?_)
 refine zET (zSG ?_)
 refine TL.mv ?_
 refine TL.pcallCod (k := 1) (α := {t : Trc // TrOk t}) (fun x => .agg (x.1.cells).toArray) (fun x => []) rfl rfl rfl rfl rfl Tryz.func111 (by decide) rfl rfl (fun w1 hw hC1 => dtrace_cod cb w1 hC1) ?_
 rintro ⟨tr, htr⟩
 dsimp only [List.cons_append, List.nil_append]
 refine TL.val rfl rfl rfl (gives_build (v := .agg #[.int .i64 tr.v, .int .u32 tr.dst, .int .i64 tr.proto, .slice none 0 0, .int .u32 0]) rfl rfl (fun w => dntbld119_60100 _ _ _ w)) ?_
 refine TL.pnew rfl rfl rfl (exec_alloc (cs := [.int .i64 0, .int .u32 0, .int .i64 0, .slice none 0 0, .int .u32 0]) rfl dntzv119 rfl) (fun g3 => ?_)
 refine TL.pstore (k := 0) (vs := [.int .i64 tr.v, .int .u32 tr.dst, .int .i64 tr.proto, .slice none 0 0, .int .u32 0]) rfl rfl rfl rfl rfl rfl rfl dntsz119 dntone_i64u32i64su32 (by show 5 ≤ 5; decide) rfl ?_
 refine zET (zS ?_)
 have htr2 := htr
 unfold TrOk at htr2
 refine zG ?_
 refine TL.v (gF dntfld119_0) ?_
 refine TL.v (gF pcmfld32_1) ?_
 refine TL.v (gL 0 pcmag30) ?_
 refine TL.v (gF dntfld119_2) ?_
 refine TL.pstore (k := 0) (vs := [.int .u32 tr.dst]) rfl rfl rfl rfl rfl rfl rfl dntsz30 dntone_u32 (by show 5 ≤ 5; decide) rfl ?_
 refine zET ?_
 refine TC.join (α := {a : Int // 1 ≤ a ∧ a ≤ 167774466}) (fun y => [(0, .pointer (some ⟨cb, 0, none⟩)), (2, .pointer (some ⟨g2, 0, none⟩)), (3, .pointer (some ⟨g3, 0, none⟩))]) (fun y => Pm ⟨w, cb⟩ ([.blk g3 119 [.int .i64 tr.v, .int .u32 tr.dst, .int .i64 tr.proto, .slice none 0 0, .int .u32 y.1], .blk g2 119 [.int .i64 0, .int .u32 0, .int .i64 0, .slice none 0 0, .int .u32 0], .abs cb (fun w => Cod w cb)] ++ oths cb w)) ?_ ?_
 ·refine zSG ?_
  refine TL.mv ?_
  refine TL.pcallCod (k := 2) (α := Bool) (fun x => .bool x) (fun x => []) rfl rfl rfl rfl rfl Tryz.func13 (by decide) rfl rfl (fun w1 hw hC1 => dbool_cod cb w1 hC1 4 (by decide)) ?_
  rintro b0
  dsimp only [List.cons_append, List.nil_append]
  refine zET ?_
  refine TC.split (t := b0) rfl (fun c17 => ?_) (fun c17 => ?_)
  ·refine zG ?_
   refine TL.mv ?_
   refine TL.pcallCod (k := 2) (α := {a : Int // 167772161 ≤ a ∧ a ≤ 167772173}) (fun x => .int .u32 x.1) (fun x => []) rfl rfl rfl rfl rfl Tryz.func77 (by decide) rfl rfl (fun w1 hw hC1 => daddr_cod cb w1 hC1) ?_
   rintro ⟨ad, had1, had2⟩
   dsimp only [List.cons_append, List.nil_append]
   refine TL.v (gF dntfld119_2) ?_
   refine TL.pstore (k := 0) (vs := [.int .u32 ad]) rfl rfl rfl rfl rfl rfl rfl dntsz30 dntone_u32 (by show 5 ≤ 5; decide) rfl ?_
   refine zE ?_
   exact TX.joined (⟨ad, by omega⟩) (⟨rfl, rfl, rfl, trivial⟩) (fun w1 hw => hw)
  ·refine zk ?_
   exact TX.joined (⟨tr.dst, by omega⟩) (⟨rfl, rfl, rfl, trivial⟩) (fun w1 hw => hw)
 ·rintro ⟨la, hla⟩
  dsimp only at hla ⊢
  refine zSG ?_
  refine TL.mv ?_
  refine TL.pcallCod (k := 2) (α := {q9 : Nat // q9 ≤ 65535 ∧ (1 ≤ (3 : Int) → (q9 : Int) < 3)}) (fun q9 => .int .i64 ((q9.1 : Nat) : Int)) (fun q9 => []) rfl rfl rfl rfl rfl Tryz.func25 (by decide) rfl rfl (fun w1 hw hC1 => next_cod cb w1 3 hC1) ?_
  rintro ⟨lg, hlg1, hlg2⟩
  dsimp only [List.cons_append, List.nil_append]
  refine TL.v (gD ((lg + 1 : Nat) : Int)) ?_
  refine TL.as_ ?_
  refine zET (zS (zSG ?_))
  refine TL.as_ ?_
  refine zET (zB ?_)
  refine TC.nilrow 64 1 ?_
  refine TC.loop_ (α := {y : Nat × (Option Addr × Nat) × List (Sg Int) // y.1 ≤ 3 ∧ y.2.2.length = y.1 ∧ (∀ s ∈ y.2.2, PathW (lg + 1) s.l) ∧ y.2.2.length ≤ y.2.1.2 ∧ y.2.1.2 ≤ maxLen}) (fun y => [(0, .pointer (some ⟨cb, 0, none⟩)), (2, .pointer (some ⟨g2, 0, none⟩)), (3, .pointer (some ⟨g3, 0, none⟩)), (4, .int .i64 ((lg + 1 : Nat) : Int)), (5, .int .i64 ((y.1.1 : Nat) : Int))]) (fun y => Pm ⟨w, cb⟩ ([.row (.slice y.1.2.1.1 y.1.2.2.length y.1.2.1.2) 64 1 y.1.2.2.length (flat sgc y.1.2.2), .blk g3 119 [.int .i64 tr.v, .int .u32 tr.dst, .int .i64 tr.proto, .slice y.1.2.1.1 y.1.2.2.length y.1.2.1.2, .int .u32 la], .blk g2 119 [.int .i64 0, .int .u32 0, .int .i64 0, .slice none 0 0, .int .u32 0], .abs cb (fun w => Cod w cb)] ++ (segG 30 1 (flat (ic .u32)) y.1.2.2 ++ oths cb w))) (fun y => 3 - y.1.1) (⟨(0, (none, 0), []), Nat.zero_le _, rfl, fun s hs => absurd hs List.not_mem_nil, Nat.le_refl _, Nat.zero_le _⟩) ⟨rfl, rfl, rfl, rfl, rfl, trivial⟩ (fun w1 hw => hw) ?_
  rintro ⟨⟨f, ⟨Ap, cp⟩, pp⟩, hf, hfl, hpw, hpc, hpm⟩
  dsimp only at hf hfl hpw hpc hpm ⊢
  refine zS (zSG ?_)
  refine TL.rn 2 rfl ?_
  refine TL.pcallCod (k := 3) (α := {q9 : Nat // q9 ≤ 65535 ∧ (1 ≤ (3 : Int) → (q9 : Int) < 3)}) (fun q9 => .int .i64 ((q9.1 : Nat) : Int)) (fun q9 => []) rfl rfl rfl rfl rfl Tryz.func25 (by decide) rfl rfl (fun w1 hw hC1 => next_cod cb w1 3 hC1) ?_
  rintro ⟨nf, hnf1, hnf2⟩
  dsimp only [List.cons_append, List.nil_append]
  refine TL.v (gD ((1 + nf : Nat) : Int)) ?_
  refine TL.sp bin_lss (fun q28 => ?_) (fun q28 => ?_)
  ·refine zET (zc (zk (zT (zS (zB (zSG ?_))))))
   refine TL.as_ ?_
   refine zET (zS (zSG ?_))
   refine TL.as_ ?_
   refine zET (zB ?_)
   refine TC.nilrow 30 1 ?_
   refine TC.loop_ (α := {y : Nat × (Option Addr × Nat) × List Int // y.1 ≤ lg + 1 ∧ y.2.2.length = y.1 ∧ (∀ a ∈ y.2.2, 0 ≤ a ∧ a ≤ 167772173) ∧ y.2.2.length ≤ y.2.1.2 ∧ y.2.1.2 ≤ maxLen}) (fun y => [(0, .pointer (some ⟨cb, 0, none⟩)), (2, .pointer (some ⟨g2, 0, none⟩)), (3, .pointer (some ⟨g3, 0, none⟩)), (4, .int .i64 ((lg + 1 : Nat) : Int)), (5, .int .i64 ((f : Nat) : Int)), (7, .int .i64 ((y.1.1 : Nat) : Int)), (6, .slice y.1.2.1.1 y.1.2.2.length y.1.2.1.2)]) (fun y => Pm ⟨w, cb⟩ ([.row (.slice y.1.2.1.1 y.1.2.2.length y.1.2.1.2) 30 1 y.1.2.2.length (flat (ic .u32) y.1.2.2), .row (.slice Ap pp.length cp) 64 1 pp.length (flat sgc pp), .blk g3 119 [.int .i64 tr.v, .int .u32 tr.dst, .int .i64 tr.proto, .slice Ap pp.length cp, .int .u32 la], .blk g2 119 [.int .i64 0, .int .u32 0, .int .i64 0, .slice none 0 0, .int .u32 0], .abs cb (fun w => Cod w cb)] ++ (segG 30 1 (flat (ic .u32)) pp ++ oths cb w))) (fun y => lg + 1 - y.1.1) (⟨(0, (none, 0), []), Nat.zero_le _, rfl, fun s hs => absurd hs List.not_mem_nil, Nat.le_refl _, Nat.zero_le _⟩) ⟨rfl, rfl, rfl, rfl, rfl, rfl, rfl, trivial⟩ (fun w1 hw => hw) ?_
   rintro ⟨⟨i, ⟨Aq, cq⟩, p⟩, hi, hil, hpr, hqc, hqm⟩
   dsimp only at hi hil hpr hqc hqm ⊢
   refine zS (zSG ?_)
   refine TL.rn 2 rfl ?_
   refine TL.sp bin_lss (fun q33 => ?_) (fun q33 => ?_)
   ·refine zET (zc (zk (zT (zS (zB (zSG ?_))))))
    refine TL.mv ?_
    refine TL.pcallCod (k := 4) (α := {a : Int // 167772161 ≤ a ∧ a ≤ 167772173}) (fun x => .int .u32 x.1) (fun x => []) rfl rfl rfl rfl rfl Tryz.func77 (by decide) rfl rfl (fun w1 hw hC1 => daddr_cod cb w1 hC1) ?_
    rintro ⟨ad, had1, had2⟩
    dsimp only [List.cons_append, List.nil_append]
    refine TL.as_ ?_
    refine zET (zS (zSG ?_))
    refine TL.mv ?_
    refine TL.pcallCod (k := 4) (α := Bool) (fun x => .bool x) (fun x => []) rfl rfl rfl rfl rfl Tryz.func13 (by decide) rfl rfl (fun w1 hw hC1 => dbool_cod cb w1 hC1 6 (by decide)) ?_
    rintro b1
    dsimp only [List.cons_append, List.nil_append]
    refine zET ?_
    refine TC.split (t := b1) rfl (fun c39 => ?_) (fun c39 => ?_)
    ·refine zG ?_
     refine TL.as_ ?_
     refine zET (zS (zSG ?_))
     refine TL.mv ?_
     refine TL.sp bin_gtr (fun q41 => ?_) (fun q41 => ?_)
     ·refine TL.rn 2 rfl ?_
      refine TL.ov (gF dntfld119_1) ?_
      refine TL.ov (gL 2 dntag117) ?_
      refine TL.gu ?_
      refine TL.fact (p := ∃ g, Ap = some ⟨g, 0, none⟩) (fun w1 hw => rowA hw (k := 1) rfl (by omega)) ?_
      rintro ⟨g_Ap, rfl⟩
      have hi46 : 0 < pp.length := by omega
      obtain ⟨x46, hx46⟩ := ex_at hi46
      refine TL.val rfl rfl rfl (gA (i := 0) Tryz.underlying117 dntsz64 rfl rfl rfl rfl rfl (by omega)) ?_
      refine TL.gu ?_
      refine TL.val rfl rfl rfl (gives_load (v := .slice x46.A x46.l.length x46.c) rfl rfl dntag64 (fun w1 hw => flat_row sgc_cel hw (q := 1) rfl hx46 0 _ rfl)) ?_
      refine TL.ov (gN Tryz.underlying64) ?_
      refine TL.gu ?_
      refine TL.sp bin_lss (fun q49 => ?_) (fun q49 => ?_)
      ·refine TL.rn 3 rfl ?_
       refine TL.gu ?_
       refine TL.pcallCod (k := 4) (α := Bool) (fun x => .bool x) (fun x => []) rfl rfl rfl rfl rfl Tryz.func13 (by decide) rfl rfl (fun w1 hw hC1 => dbool_cod cb w1 hC1 3 (by decide)) ?_
       rintro b2
       dsimp only [List.cons_append, List.nil_append]
       cases b2 with
       | true =>
        refine TL.rn 2 rfl ?_
        refine zET (zd (zk (zT (zG ?_))))
        refine TL.rn 2 rfl ?_
        refine TL.prowS (e := 30) (size := 1) (cs := flat (ic .u32) [0]) rfl rfl rfl rfl rfl (fun w => patbs64_1_5377 _ w) (by decide) rfl (fun g65 => ?_)
        refine TL.appendT (k := 1) rfl rfl rfl rfl Tryz.underlying64 patel64 rfl rfl rfl (fun w1 hw => pm_reads hw (k := 0) rfl) (flat_one (ic_cel .u32) _) (by show _ * 4 ≤ _; omega) ((p ++ [0]).length) (by rw [List.length_append]; rfl) (flat (ic .u32) (p ++ [0])) ((flat_app _ _).symm) (fun A66 c66 hA661 hA662 => ?_)
        refine TL.as_ ?_
        refine zE (zN (zT (zG ?_)))
        refine TL.mv ?_
        refine TL.v (gD ((i + 1 : Nat) : Int)) ?_
        refine TL.as_ ?_
        refine zE ?_
        exact TX.round (⟨(i + 1, (A66, c66), p ++ [0]), by dsimp only; omega, by dsimp only; rw [List.length_append]; show p.length + 1 = i + 1; omega, ad_snoc hpr (by omega), hA661, hA662⟩) (by show lg + 1 - (i + 1) < lg + 1 - i; omega) ⟨rfl, rfl, rfl, rfl, rfl, rfl, rfl, trivial⟩ (fun w1 hw => hw.sel (.cons _ (.cons_cons _ (.cons_cons _ (.cons_cons _ (.cons_cons _ (.cons_cons _ (List.Sublist.refl _))))))))
       | false =>
        refine TL.rn 2 rfl ?_
        refine zET (zc (zG ?_))
        refine TL.v (gF dntfld119_1) ?_
        refine TL.v (gL 2 dntag117) ?_
        refine TL.val rfl rfl rfl (gA (i := 0) Tryz.underlying117 dntsz64 rfl rfl rfl rfl rfl (by omega)) ?_
        refine TL.val rfl rfl rfl (gives_load (v := .slice x46.A x46.l.length x46.c) rfl rfl dntag64 (fun w1 hw => flat_row sgc_cel hw (q := 1) rfl hx46 0 _ rfl)) ?_
        refine TL.mv ?_
        have hmm61 := seg_mem (e := 30) (size := 1) (enc := flat (ic .u32)) (T := oths cb w) (List.mem_of_getElem? hx46)
        refine TL.fact (p := ∃ g, x46.A = some ⟨g, 0, none⟩) (fun w1 hw => segA hw (List.mem_of_mem_drop (i := 5) (by exact hmm61)) (by omega)) ?_
        rintro ⟨gx61, hgx61⟩
        obtain ⟨z61, hz61⟩ : ∃ z, x46.l[i]? = some z := ⟨_, List.getElem?_eq_getElem (by omega)⟩
        refine TL.val rfl rfl rfl (gA (i := i) Tryz.underlying64 dntsz30 rfl rfl rfl rfl hgx61 (by omega)) ?_
        refine TL.val rfl rfl rfl (gives_load (v := .int .u32 z61) rfl rfl pcmag30 (fun w1 hw => seg_cell (ic_cel .u32) hw (List.mem_of_mem_drop (i := 5) (by exact hmm61)) hgx61 hz61 0 _ rfl)) ?_
        have hzr := (hpw x46 (List.mem_of_getElem? hx46)).2 z61 (List.mem_of_getElem? hz61)
        refine TL.as_ ?_
        refine zET (zG ?_)
        refine TL.rn 2 rfl ?_
        refine TL.prowS (e := 30) (size := 1) (cs := flat (ic .u32) [z61]) rfl rfl rfl rfl rfl (fun w => patbs64_1_5377 _ w) (by decide) rfl (fun g65 => ?_)
        refine TL.appendT (k := 1) rfl rfl rfl rfl Tryz.underlying64 patel64 rfl rfl rfl (fun w1 hw => pm_reads hw (k := 0) rfl) (flat_one (ic_cel .u32) _) (by show _ * 4 ≤ _; omega) ((p ++ [z61]).length) (by rw [List.length_append]; rfl) (flat (ic .u32) (p ++ [z61])) ((flat_app _ _).symm) (fun A66 c66 hA661 hA662 => ?_)
        refine TL.as_ ?_
        refine zE (zN (zT (zG ?_)))
        refine TL.mv ?_
        refine TL.v (gD ((i + 1 : Nat) : Int)) ?_
        refine TL.as_ ?_
        refine zE ?_
        exact TX.round (⟨(i + 1, (A66, c66), p ++ [z61]), by dsimp only; omega, by dsimp only; rw [List.length_append]; show p.length + 1 = i + 1; omega, ad_snoc hpr (by exact hzr), hA661, hA662⟩) (by show lg + 1 - (i + 1) < lg + 1 - i; omega) ⟨rfl, rfl, rfl, rfl, rfl, rfl, rfl, trivial⟩ (fun w1 hw => hw.sel (.cons _ (.cons_cons _ (.cons_cons _ (.cons_cons _ (.cons_cons _ (.cons_cons _ (List.Sublist.refl _))))))))
      ·refine TL.rn 6 rfl ?_
       refine zET (zd (zk (zT (zG ?_))))
       refine TL.rn 2 rfl ?_
       refine TL.prowS (e := 30) (size := 1) (cs := flat (ic .u32) [0]) rfl rfl rfl rfl rfl (fun w => patbs64_1_5377 _ w) (by decide) rfl (fun g65 => ?_)
       refine TL.appendT (k := 1) rfl rfl rfl rfl Tryz.underlying64 patel64 rfl rfl rfl (fun w1 hw => pm_reads hw (k := 0) rfl) (flat_one (ic_cel .u32) _) (by show _ * 4 ≤ _; omega) ((p ++ [0]).length) (by rw [List.length_append]; rfl) (flat (ic .u32) (p ++ [0])) ((flat_app _ _).symm) (fun A66 c66 hA661 hA662 => ?_)
       refine TL.as_ ?_
       refine zE (zN (zT (zG ?_)))
       refine TL.mv ?_
       refine TL.v (gD ((i + 1 : Nat) : Int)) ?_
       refine TL.as_ ?_
       refine zE ?_
       exact TX.round (⟨(i + 1, (A66, c66), p ++ [0]), by dsimp only; omega, by dsimp only; rw [List.length_append]; show p.length + 1 = i + 1; omega, ad_snoc hpr (by omega), hA661, hA662⟩) (by show lg + 1 - (i + 1) < lg + 1 - i; omega) ⟨rfl, rfl, rfl, rfl, rfl, rfl, rfl, trivial⟩ (fun w1 hw => hw.sel (.cons _ (.cons_cons _ (.cons_cons _ (.cons_cons _ (.cons_cons _ (.cons_cons _ (List.Sublist.refl _))))))))
     ·refine TL.rn 14 rfl ?_
      refine zET (zd (zk (zT (zG ?_))))
      refine TL.rn 2 rfl ?_
      refine TL.prowS (e := 30) (size := 1) (cs := flat (ic .u32) [0]) rfl rfl rfl rfl rfl (fun w => patbs64_1_5377 _ w) (by decide) rfl (fun g65 => ?_)
      refine TL.appendT (k := 1) rfl rfl rfl rfl Tryz.underlying64 patel64 rfl rfl rfl (fun w1 hw => pm_reads hw (k := 0) rfl) (flat_one (ic_cel .u32) _) (by show _ * 4 ≤ _; omega) ((p ++ [0]).length) (by rw [List.length_append]; rfl) (flat (ic .u32) (p ++ [0])) ((flat_app _ _).symm) (fun A66 c66 hA661 hA662 => ?_)
      refine TL.as_ ?_
      refine zE (zN (zT (zG ?_)))
      refine TL.mv ?_
      refine TL.v (gD ((i + 1 : Nat) : Int)) ?_
      refine TL.as_ ?_
      refine zE ?_
      exact TX.round (⟨(i + 1, (A66, c66), p ++ [0]), by dsimp only; omega, by dsimp only; rw [List.length_append]; show p.length + 1 = i + 1; omega, ad_snoc hpr (by omega), hA661, hA662⟩) (by show lg + 1 - (i + 1) < lg + 1 - i; omega) ⟨rfl, rfl, rfl, rfl, rfl, rfl, rfl, trivial⟩ (fun w1 hw => hw.sel (.cons _ (.cons_cons _ (.cons_cons _ (.cons_cons _ (.cons_cons _ (.cons_cons _ (List.Sublist.refl _))))))))
    ·refine zk (zT (zS (zSG ?_)))
     refine TL.mv ?_
     refine TL.sp bin_gtr (fun q41 => ?_) (fun q41 => ?_)
     ·refine TL.rn 2 rfl ?_
      refine TL.ov (gF dntfld119_1) ?_
      refine TL.ov (gL 2 dntag117) ?_
      refine TL.gu ?_
      refine TL.fact (p := ∃ g, Ap = some ⟨g, 0, none⟩) (fun w1 hw => rowA hw (k := 1) rfl (by omega)) ?_
      rintro ⟨g_Ap, rfl⟩
      have hi46 : 0 < pp.length := by omega
      obtain ⟨x46, hx46⟩ := ex_at hi46
      refine TL.val rfl rfl rfl (gA (i := 0) Tryz.underlying117 dntsz64 rfl rfl rfl rfl rfl (by omega)) ?_
      refine TL.gu ?_
      refine TL.val rfl rfl rfl (gives_load (v := .slice x46.A x46.l.length x46.c) rfl rfl dntag64 (fun w1 hw => flat_row sgc_cel hw (q := 1) rfl hx46 0 _ rfl)) ?_
      refine TL.ov (gN Tryz.underlying64) ?_
      refine TL.gu ?_
      refine TL.sp bin_lss (fun q49 => ?_) (fun q49 => ?_)
      ·refine TL.rn 3 rfl ?_
       refine TL.gu ?_
       refine TL.pcallCod (k := 4) (α := Bool) (fun x => .bool x) (fun x => []) rfl rfl rfl rfl rfl Tryz.func13 (by decide) rfl rfl (fun w1 hw hC1 => dbool_cod cb w1 hC1 3 (by decide)) ?_
       rintro b2
       dsimp only [List.cons_append, List.nil_append]
       cases b2 with
       | true =>
        refine TL.rn 2 rfl ?_
        refine zET (zd (zk (zT (zG ?_))))
        refine TL.rn 2 rfl ?_
        refine TL.prowS (e := 30) (size := 1) (cs := flat (ic .u32) [ad]) rfl rfl rfl rfl rfl (fun w => patbs64_1_5377 _ w) (by decide) rfl (fun g65 => ?_)
        refine TL.appendT (k := 1) rfl rfl rfl rfl Tryz.underlying64 patel64 rfl rfl rfl (fun w1 hw => pm_reads hw (k := 0) rfl) (flat_one (ic_cel .u32) _) (by show _ * 4 ≤ _; omega) ((p ++ [ad]).length) (by rw [List.length_append]; rfl) (flat (ic .u32) (p ++ [ad])) ((flat_app _ _).symm) (fun A66 c66 hA661 hA662 => ?_)
        refine TL.as_ ?_
        refine zE (zN (zT (zG ?_)))
        refine TL.mv ?_
        refine TL.v (gD ((i + 1 : Nat) : Int)) ?_
        refine TL.as_ ?_
        refine zE ?_
        exact TX.round (⟨(i + 1, (A66, c66), p ++ [ad]), by dsimp only; omega, by dsimp only; rw [List.length_append]; show p.length + 1 = i + 1; omega, ad_snoc hpr (by omega), hA661, hA662⟩) (by show lg + 1 - (i + 1) < lg + 1 - i; omega) ⟨rfl, rfl, rfl, rfl, rfl, rfl, rfl, trivial⟩ (fun w1 hw => hw.sel (.cons _ (.cons_cons _ (.cons_cons _ (.cons_cons _ (.cons_cons _ (.cons_cons _ (List.Sublist.refl _))))))))
       | false =>
        refine TL.rn 2 rfl ?_
        refine zET (zc (zG ?_))
        refine TL.v (gF dntfld119_1) ?_
        refine TL.v (gL 2 dntag117) ?_
        refine TL.val rfl rfl rfl (gA (i := 0) Tryz.underlying117 dntsz64 rfl rfl rfl rfl rfl (by omega)) ?_
        refine TL.val rfl rfl rfl (gives_load (v := .slice x46.A x46.l.length x46.c) rfl rfl dntag64 (fun w1 hw => flat_row sgc_cel hw (q := 1) rfl hx46 0 _ rfl)) ?_
        refine TL.mv ?_
        have hmm61 := seg_mem (e := 30) (size := 1) (enc := flat (ic .u32)) (T := oths cb w) (List.mem_of_getElem? hx46)
        refine TL.fact (p := ∃ g, x46.A = some ⟨g, 0, none⟩) (fun w1 hw => segA hw (List.mem_of_mem_drop (i := 5) (by exact hmm61)) (by omega)) ?_
        rintro ⟨gx61, hgx61⟩
        obtain ⟨z61, hz61⟩ : ∃ z, x46.l[i]? = some z := ⟨_, List.getElem?_eq_getElem (by omega)⟩
        refine TL.val rfl rfl rfl (gA (i := i) Tryz.underlying64 dntsz30 rfl rfl rfl rfl hgx61 (by omega)) ?_
        refine TL.val rfl rfl rfl (gives_load (v := .int .u32 z61) rfl rfl pcmag30 (fun w1 hw => seg_cell (ic_cel .u32) hw (List.mem_of_mem_drop (i := 5) (by exact hmm61)) hgx61 hz61 0 _ rfl)) ?_
        have hzr := (hpw x46 (List.mem_of_getElem? hx46)).2 z61 (List.mem_of_getElem? hz61)
        refine TL.as_ ?_
        refine zET (zG ?_)
        refine TL.rn 2 rfl ?_
        refine TL.prowS (e := 30) (size := 1) (cs := flat (ic .u32) [z61]) rfl rfl rfl rfl rfl (fun w => patbs64_1_5377 _ w) (by decide) rfl (fun g65 => ?_)
        refine TL.appendT (k := 1) rfl rfl rfl rfl Tryz.underlying64 patel64 rfl rfl rfl (fun w1 hw => pm_reads hw (k := 0) rfl) (flat_one (ic_cel .u32) _) (by show _ * 4 ≤ _; omega) ((p ++ [z61]).length) (by rw [List.length_append]; rfl) (flat (ic .u32) (p ++ [z61])) ((flat_app _ _).symm) (fun A66 c66 hA661 hA662 => ?_)
        refine TL.as_ ?_
        refine zE (zN (zT (zG ?_)))
        refine TL.mv ?_
        refine TL.v (gD ((i + 1 : Nat) : Int)) ?_
        refine TL.as_ ?_
        refine zE ?_
        exact TX.round (⟨(i + 1, (A66, c66), p ++ [z61]), by dsimp only; omega, by dsimp only; rw [List.length_append]; show p.length + 1 = i + 1; omega, ad_snoc hpr (by exact hzr), hA661, hA662⟩) (by show lg + 1 - (i + 1) < lg + 1 - i; omega) ⟨rfl, rfl, rfl, rfl, rfl, rfl, rfl, trivial⟩ (fun w1 hw => hw.sel (.cons _ (.cons_cons _ (.cons_cons _ (.cons_cons _ (.cons_cons _ (.cons_cons _ (List.Sublist.refl _))))))))
      ·refine TL.rn 6 rfl ?_
       refine zET (zd (zk (zT (zG ?_))))
       refine TL.rn 2 rfl ?_
       refine TL.prowS (e := 30) (size := 1) (cs := flat (ic .u32) [ad]) rfl rfl rfl rfl rfl (fun w => patbs64_1_5377 _ w) (by decide) rfl (fun g65 => ?_)
       refine TL.appendT (k := 1) rfl rfl rfl rfl Tryz.underlying64 patel64 rfl rfl rfl (fun w1 hw => pm_reads hw (k := 0) rfl) (flat_one (ic_cel .u32) _) (by show _ * 4 ≤ _; omega) ((p ++ [ad]).length) (by rw [List.length_append]; rfl) (flat (ic .u32) (p ++ [ad])) ((flat_app _ _).symm) (fun A66 c66 hA661 hA662 => ?_)
       refine TL.as_ ?_
       refine zE (zN (zT (zG ?_)))
       refine TL.mv ?_
       refine TL.v (gD ((i + 1 : Nat) : Int)) ?_
       refine TL.as_ ?_
       refine zE ?_
       exact TX.round (⟨(i + 1, (A66, c66), p ++ [ad]), by dsimp only; omega, by dsimp only; rw [List.length_append]; show p.length + 1 = i + 1; omega, ad_snoc hpr (by omega), hA661, hA662⟩) (by show lg + 1 - (i + 1) < lg + 1 - i; omega) ⟨rfl, rfl, rfl, rfl, rfl, rfl, rfl, trivial⟩ (fun w1 hw => hw.sel (.cons _ (.cons_cons _ (.cons_cons _ (.cons_cons _ (.cons_cons _ (.cons_cons _ (List.Sublist.refl _))))))))
     ·refine TL.rn 14 rfl ?_
      refine zET (zd (zk (zT (zG ?_))))
      refine TL.rn 2 rfl ?_
      refine TL.prowS (e := 30) (size := 1) (cs := flat (ic .u32) [ad]) rfl rfl rfl rfl rfl (fun w => patbs64_1_5377 _ w) (by decide) rfl (fun g65 => ?_)
      refine TL.appendT (k := 1) rfl rfl rfl rfl Tryz.underlying64 patel64 rfl rfl rfl (fun w1 hw => pm_reads hw (k := 0) rfl) (flat_one (ic_cel .u32) _) (by show _ * 4 ≤ _; omega) ((p ++ [ad]).length) (by rw [List.length_append]; rfl) (flat (ic .u32) (p ++ [ad])) ((flat_app _ _).symm) (fun A66 c66 hA661 hA662 => ?_)
      refine TL.as_ ?_
      refine zE (zN (zT (zG ?_)))
      refine TL.mv ?_
      refine TL.v (gD ((i + 1 : Nat) : Int)) ?_
      refine TL.as_ ?_
      refine zE ?_
      exact TX.round (⟨(i + 1, (A66, c66), p ++ [ad]), by dsimp only; omega, by dsimp only; rw [List.length_append]; show p.length + 1 = i + 1; omega, ad_snoc hpr (by omega), hA661, hA662⟩) (by show lg + 1 - (i + 1) < lg + 1 - i; omega) ⟨rfl, rfl, rfl, rfl, rfl, rfl, rfl, trivial⟩ (fun w1 hw => hw.sel (.cons _ (.cons_cons _ (.cons_cons _ (.cons_cons _ (.cons_cons _ (.cons_cons _ (List.Sublist.refl _))))))))
   ·refine zET (zd (zx (zX (zX (zM (zT (zG ?_)))))))
    refine TL.v (gF dntfld119_1) ?_
    refine TL.v (gL 2 dntag117) ?_
    refine TL.mv ?_
    refine TL.prowS (e := 64) (size := 1) (cs := flat sgc [(⟨Aq, cq, p⟩ : Sg Int)]) rfl rfl rfl rfl rfl (fun w => dntbs117_1_58639 _ _ _ w) (by decide) rfl (fun g70 => ?_)
    refine TL.appendT (k := 2) rfl rfl rfl rfl Tryz.underlying117 dntel117 rfl rfl rfl (fun w1 hw => pm_reads hw (k := 0) rfl) (flat_one sgc_cel _) (by show _ * 24 ≤ _; omega) ((pp ++ [(⟨Aq, cq, p⟩ : Sg Int)]).length) (by rw [List.length_append]; rfl) (flat sgc (pp ++ [(⟨Aq, cq, p⟩ : Sg Int)])) ((flat_app _ _).symm) (fun A71 c71 hA711 hA712 => ?_)
    refine TL.v (gF dntfld119_1) ?_
    refine TL.pstore (k := 3) (vs := [.slice A71 ((pp ++ [(⟨Aq, cq, p⟩ : Sg Int)]).length) c71]) rfl rfl rfl rfl rfl rfl rfl dntsz117 pbdone_s (by show 4 ≤ 5; decide) rfl ?_
    refine zE (zN (zT (zG ?_)))
    refine TL.mv ?_
    refine TL.v (gD ((f + 1 : Nat) : Int)) ?_
    refine TL.as_ ?_
    refine zE ?_
    exact TX.round (⟨(f + 1, (A71, c71), pp ++ [(⟨Aq, cq, p⟩ : Sg Int)]), by dsimp only; omega, by dsimp only; rw [List.length_append]; show pp.length + 1 = f + 1; omega, pw_snoc hpw ⟨by show p.length = _; omega, hpr⟩, hA711, hA712⟩) (by show 3 - (f + 1) < 3 - f; omega) ⟨rfl, rfl, rfl, rfl, rfl, trivial⟩ (fun w1 hw => Pm.tuckEnd (s := ⟨Aq, cq, p⟩) (P := [.row (.slice A71 ((pp ++ [(⟨Aq, cq, p⟩ : Sg Int)]).length) c71) 64 1 ((pp ++ [(⟨Aq, cq, p⟩ : Sg Int)]).length) (flat sgc (pp ++ [(⟨Aq, cq, p⟩ : Sg Int)])), .blk g3 119 [.int .i64 tr.v, .int .u32 tr.dst, .int .i64 tr.proto, .slice A71 ((pp ++ [(⟨Aq, cq, p⟩ : Sg Int)]).length) c71, .int .u32 la], .blk g2 119 [.int .i64 0, .int .u32 0, .int .i64 0, .slice none 0 0, .int .u32 0], .abs cb (fun w => Cod w cb)]) (hw.sel (.cons _ (.cons_cons _ (.cons_cons _ (.cons_cons _ (.cons_cons _ (.cons_cons _ (List.Sublist.refl _)))))))))
  ·refine zET (zd (zx (zX (zX (zM (zT (zSG ?_)))))))
   refine TL.v (gV 1 (.agg #[.int .i64 tr.v, .int .u32 tr.dst, .int .i64 tr.proto, .slice Ap pp.length cp, .int .u32 la]) dntag119 dntsz119) ?_
   refine TL.pstore (k := 2) (vs := [.int .i64 tr.v, .int .u32 tr.dst, .int .i64 tr.proto, .slice Ap pp.length cp, .int .u32 la]) rfl rfl rfl rfl rfl rfl rfl dntsz119 dntone_i64u32i64su32 (by show 5 ≤ 5; decide) rfl ?_
   refine zET (zr ?_)
   exact pm_ret_cell (k := 2) Tryz.results74 rfl rfl Tryz.underlying119 rfl rfl (fun w1 hw => ⟨⟨⟨tr.v, tr.dst, tr.proto, ⟨Ap, cp, pp⟩, la⟩, ⟨htr, hla, lg + 1, by omega, by omega, by show 1 ≤ pp.length; omega, by show pp.length ≤ 3; omega, hpw⟩⟩, rfl, Pm.codr (netP ⟨Ap, cp, pp⟩) (Pm.netOut (p := ⟨Ap, cp, pp⟩) (hw.sel (.cons_cons _ (.cons _ (.cons _ (.cons_cons _ (List.Sublist.refl _))))))) (netP_noAbs _)⟩)
section
variable {P : Program} {N : Fr} {E : Env} {o : Oper} {I : World → Prop}
theorem gives_fieldV {t : TypeId} {x : Operand} {i : Nat} {vx v : Value} (ho : o.op = .field t x i) (hx : ev E x = some vx) (hv : ∀ w : World, (Instr.field t vx i).run P w = .ok v w) : Gives P N o E I v := fun a w ha _ => by
  unfold execOp; rw [ho]
  simp only [ha.eval hx, Sem.run_bind, hv, Result.andThen_ok, Sem.run_pure]
end
set_option maxRecDepth 20000
def NetsOk (ns : List Nt) (PP : List (Sg (Sg Int))) : Prop := 1 ≤ ns.length ∧ ns.length ≤ 2 ∧ ∀ n ∈ ns, NtOk n ∧ n.ps ∈ PP
def netsP (PP : List (Sg (Sg Int))) : List Pc := segG 64 1 (flat sgc) PP ++ segG 30 1 (flat (ic .u32)) (PP.flatMap (·.l))
theorem Pm.netIn {w0 : Base} {w : World} {p : Sg (Sg Int)} {P O : List Pc} {PP : List (Sg (Sg Int))} (h : Pm w0 (netP p ++ (P ++ (netsP PP ++ O))) w) : Pm w0 (P ++ (netsP (p :: PP) ++ O)) w := by
 refine h.permute ?_
 have e : netsP (p :: PP) = .row (.slice p.A p.l.length p.c) 64 1 p.l.length (flat sgc p.l) :: (segG 64 1 (flat sgc) PP ++ (segG 30 1 (flat (ic .u32)) p.l ++ segG 30 1 (flat (ic .u32)) (PP.flatMap (·.l)))) := by
  unfold netsP segG
  rw [List.flatMap_cons, List.map_append]
  rfl
 have h1 : (netP p ++ netsP PP).Perm (netsP (p :: PP)) := by
  rw [e]
  unfold netP netsP
  rw [List.cons_append]
  refine List.Perm.cons _ ?_
  rw [← List.append_assoc, ← List.append_assoc]
  exact List.Perm.append_right _ List.perm_append_comm
 have h2 : (netP p ++ (P ++ (netsP PP ++ O))).Perm (P ++ ((netP p ++ netsP PP) ++ O)) := by
  rw [← List.append_assoc, List.append_assoc (netP p) (netsP PP) O, ← List.append_assoc P]
  exact List.Perm.append_right _ List.perm_append_comm
 exact h2.trans (List.Perm.append_left P (List.Perm.append_right O h1))
theorem nets_mem1 {p : Sg (Sg Int)} {PP : List (Sg (Sg Int))} {T : List Pc} (h : p ∈ PP) : Pc.row (.slice p.A p.l.length p.c) 64 1 p.l.length (flat sgc p.l) ∈ netsP PP ++ T :=
 List.mem_append_left _ (List.mem_append_left _ (List.mem_map_of_mem (f := Sg.pc 64 1 (flat sgc)) h))
theorem nets_mem2 {p : Sg (Sg Int)} {s : Sg Int} {PP : List (Sg (Sg Int))} {T : List Pc} (h : p ∈ PP) (hs : s ∈ p.l) : Pc.row (.slice s.A s.l.length s.c) 30 1 s.l.length (flat (ic .u32) s.l) ∈ netsP PP ++ T :=
 List.mem_append_left _ (List.mem_append_right _ (List.mem_map_of_mem (f := Sg.pc 30 1 (flat (ic .u32))) (List.mem_flatMap.2 ⟨p, h, hs⟩)))
theorem nets_one {n : Nt} (h : NtOk n) : NetsOk [n] [n.ps] := ⟨Nat.le_refl _, by show 1 ≤ 2; decide, fun x hx => by rw [List.mem_singleton.1 hx]; exact ⟨h, List.mem_cons_self⟩⟩
theorem nets_two {n n' : Nt} (h : NtOk n) (h' : NtOk n') : NetsOk ([n] ++ [n']) [n'.ps, n.ps] := ⟨by show 1 ≤ 2; decide, Nat.le_refl _, fun x hx => by
 rcases List.mem_append.1 hx with hx | hx
 ·rw [List.mem_singleton.1 hx]; exact ⟨h, List.mem_cons_of_mem _ List.mem_cons_self⟩
 ·rw [List.mem_singleton.1 hx]; exact ⟨h', List.mem_cons_self⟩⟩
theorem nets_set {ns : List Nt} {PP : List (Sg (Sg Int))} {x y : Nt} {i : Nat} (h : NetsOk ns PP) (hx : ns[i]? = some x) (hy : NtOk y) : NetsOk (ns.set i ⟨x.v, x.dst, x.proto, y.ps, x.last⟩) (y.ps :: PP) := by
 refine ⟨by rw [List.length_set]; exact h.1, by rw [List.length_set]; exact h.2.1, fun z hz => ?_⟩
 rcases List.mem_or_eq_of_mem_set hz with h1 | h1
 ·exact ⟨(h.2.2 z h1).1, List.mem_cons_of_mem _ (h.2.2 z h1).2⟩
 ·rw [h1]
  obtain ⟨⟨h2, h3, _⟩, _⟩ := h.2.2 x (List.mem_of_getElem? hx)
  exact ⟨⟨h2, h3, hy.2.2⟩, List.mem_cons_self⟩
def AnsP (ans dbl : Bool) (src kind left id quo : Int) : Prop := (ans = false ∧ dbl = false ∧ src = 0 ∧ kind = 0 ∧ left = 0 ∧ id = 0 ∧ quo = 0) ∨ (ans = true ∧ 1 ≤ src ∧ src ≤ 167774466 ∧ 1 ≤ kind ∧ kind ≤ 3 ∧ left = 60 ∧ 0 ≤ id ∧ id ≤ 65535 ∧ quo = 1)
def DrR (r : Rs) : Prop := vldRs r = true ∧ r.Ok ∧ r.run = 0 ∧ TrOk ⟨r.v, r.dst, r.proto⟩ ∧ (0 ≤ r.num ∧ r.num ≤ 99) ∧ (0 ≤ r.flow ∧ r.flow ≤ 2) ∧ (1 ≤ r.ttl ∧ r.ttl ≤ 4) ∧ (0 ≤ r.at_ ∧ r.back ≤ 20000) ∧ AnsP r.ans r.dbl r.src r.kind r.left r.id r.quo ∧ r.code = 0
def DrOrd (a b : Rs) : Prop := a.back < b.at_ ∧ (a.v = b.v → a.num < b.num)
def DrawnOk (m : Nat) (l : List Rs) : Prop := (∀ r ∈ l, DrR r) ∧ l.Pairwise DrOrd ∧ l.length ≤ m
def OutOk (l : List Rs) (at_ n0 n1 : Nat) : Prop := (∀ r ∈ l, DrR r ∧ r.back ≤ (at_ : Int) ∧ (r.v = 0 → r.num < (n0 : Int)) ∧ (r.v = 1 → r.num < (n1 : Int))) ∧ l.Pairwise DrOrd ∧ n0 + n1 = l.length
theorem OutOk.nil (a : Nat) : OutOk [] a 0 0 := ⟨fun r hr => absurd hr List.not_mem_nil, .nil, rfl⟩
theorem OutOk.ok {l : List Rs} {a n0 n1 m : Nat} (h : OutOk l a n0 n1) (hm : l.length ≤ m) : DrawnOk m l := ⟨fun r hr => (h.1 r hr).1, h.2.1, hm⟩
theorem ans_vld {r : Rs} (h : r.inRange) (hd : r.dst ≠ 0) (hp : r.proto = 17 ∨ r.proto = 1 ∨ r.proto = 6) (ha : AnsP r.ans r.dbl r.src r.kind r.left r.id r.quo) (hc : r.code = 0) : vldRs r = true := by
 have h1 : chkR r = 0 := by
  unfold chkR
  rw [if_neg (fun h1 => h1 h), if_neg (fun h1 => h1 (by omega))]
  rcases ha with ⟨a1, a2, a3, a4, a5, a6, a7⟩ | ⟨a1, a2, a3, a4, a5, a6, a7, a8, a9⟩
  ·have hn : r.noAns = true := by unfold Rs.noAns; simp [a3, a4, a5, a6, a7, hc]
   rw [if_neg (by rw [a1, a2, hn]; simp), if_neg (by rw [a1]; simp)]
  ·have ho : r.ansOk := by unfold Rs.ansOk; omega
   rw [if_neg (by rw [a1]; simp), if_neg (fun h2 => h2.2 ho)]
 unfold vldRs
 simp only [h1, decide_true, Bool.true_and, Bool.and_eq_true, decide_eq_true_eq, Bool.or_eq_true, Bool.not_eq_true']
 refine ⟨hd, ?_⟩
 rcases ha with ⟨a1, _⟩ | ⟨a1, a2, _⟩
 ·exact .inl a1
 ·exact .inr (by omega)
theorem OutOk.snoc {l : List Rs} {at0 at1 n0 n1 n2 n3 num f tq bq : Nat} {v dst proto : Int} {an db : Bool} {sr kd lf ie qu : Int} (h : OutOk l at0 n0 n1) (ht : TrOk ⟨v, dst, proto⟩)
  (hnum : (v = 0 ∧ num = n0) ∨ (v = 1 ∧ num = n1)) (hn : (v = 0 ∧ n2 = n0 + 1 ∧ n3 = n1) ∨ (v = 1 ∧ n2 = n0 ∧ n3 = n1 + 1)) (ha : AnsP an db sr kd lf ie qu) (hat : at0 < at1) (hf : f ≤ 2) (htq : tq ≤ 3) (hb : bq ≤ 3) (hbd : at1 ≤ 19000 ∧ l.length ≤ 99) :
  OutOk (l ++ [⟨v, 0, (num : Int), (at1 : Int), dst, proto, (f : Int), ((1 + tq : Nat) : Int), an, db, ((at1 + 5 * (1 + tq) + bq : Nat) : Int), sr, kd, 0, lf, ie, qu⟩]) (at1 + 5 * (1 + tq) + bq) n2 n3 := by
 have ht2 := ht
 unfold TrOk at ht2
 dsimp only at ht2
 have hl := h.2.2
 have hso : 0 ≤ sr ∧ sr ≤ 4294967295 := by
  rcases ha with ⟨_, _, a3, _⟩ | ⟨_, a2, a3, _⟩ <;> omega
 have hnew : DrR ⟨v, 0, (num : Int), (at1 : Int), dst, proto, (f : Int), ((1 + tq : Nat) : Int), an, db, ((at1 + 5 * (1 + tq) + bq : Nat) : Int), sr, kd, 0, lf, ie, qu⟩ := by
  refine ⟨ans_vld ?_ (by dsimp only; omega) (by dsimp only; omega) ha rfl, ?_, rfl, ht, ?_, ?_, ?_, ?_, ha, rfl⟩
  ·unfold Rs.inRange; dsimp only; omega
  ·unfold Rs.Ok; dsimp only; omega
  ·dsimp only; omega
  ·dsimp only; omega
  ·dsimp only; omega
  ·dsimp only; omega
 refine ⟨fun r hr => ?_, List.pairwise_append.2 ⟨h.2.1, List.pairwise_singleton _ _, fun a ha2 b hb2 => ?_⟩, by rw [List.length_append]; show n2 + n3 = l.length + 1; omega⟩
 ·rcases List.mem_append.1 hr with hr | hr
  ·obtain ⟨h1, h2, h3, h4⟩ := h.1 r hr
   exact ⟨h1, by omega, fun e => by have := h3 e; omega, fun e => by have := h4 e; omega⟩
  ·rw [List.mem_singleton.1 hr]
   refine ⟨hnew, Int.le_refl _, fun e => ?_, fun e => ?_⟩
   ·dsimp only at e ⊢; omega
   ·dsimp only at e ⊢; omega
 ·rw [List.mem_singleton.1 hb2]
  obtain ⟨h1, h2, h3, h4⟩ := h.1 a ha2
  refine ⟨by dsimp only; omega, fun e => ?_⟩
  dsimp only at e ⊢
  rcases hnum with ⟨e1, e2⟩ | ⟨e1, e2⟩
  ·have := h3 (by omega); omega
  ·have := h4 (by omega); omega
theorem drebs121_1_73147 (a0_0 : Int) (a0_1 : Int) (a0_2 : Int) (a0_3 : Option Addr) (a0_3n a0_3c : Nat) (a0_4 : Int) (w : World) : (Instr.buildSlice 121 1 #[(0, .agg #[.int .i64 a0_0, .int .u32 a0_1, .int .i64 a0_2, .slice a0_3 a0_3n a0_3c, .int .u32 a0_4])]).run Tryz.prog w = .ok (.slice (some ⟨w.heap.size, 0, none⟩) 1 1) (w.alloc (.cells [.int .i64 a0_0, .int .u32 a0_1, .int .i64 a0_2, .slice a0_3 a0_3n a0_3c, .int .u32 a0_4].toArray 119)) := by kernel_rfl
theorem dreel121 : Elem Tryz.prog 121 119 5 56 := Elem.mk' Tryz.underlying121 (z := .agg #[.int .i64 0, .int .u32 0, .int .i64 0, .slice none 0 0, .int .u32 0]) (by kernel_rfl) rfl (by omega) (by omega)
theorem drezv122 (w : World) : (zeroValue 122).run Tryz.prog w = .ok (.agg #[.int .i64 0, .int .i64 0, .int .i64 0, .int .i64 0, .int .i64 0, .int .i64 0, .int .i64 0, .int .i64 0, .int .i64 0, .int .i64 0, .int .i64 0, .int .i64 0, .int .i64 0, .int .i64 0, .int .i64 0, .int .i64 0]) w := rfl
theorem drefv119_1_92971 (a0 : Int) (a1 : Int) (a2 : Int) (a3 : Option Addr) (a3n a3c : Nat) (a4 : Int) (w : World) : (Instr.field 119 (.agg #[.int .i64 a0, .int .u32 a1, .int .i64 a2, .slice a3 a3n a3c, .int .u32 a4]) 1).run Tryz.prog w = .ok (.slice a3 a3n a3c) w := by kernel_rfl
theorem drebld47_74773 (a0_0 : Int) (a1_0 : Int) (a2_0 : Int) (a3_0 : Int) (a4_0 : Int) (a5_0 : Int) (a6_0 : Int) (a7_0 : Int) (w : World) : (Instr.build 47 #[(0, .int .i64 a0_0), (1, .int .i64 a1_0), (2, .int .i64 a2_0), (3, .int .i64 a3_0), (4, .int .u32 a4_0), (5, .int .i64 a5_0), (6, .int .i64 a6_0), (7, .int .i64 a7_0)]).run Tryz.prog w = .ok (.agg #[.int .i64 a0_0, .int .i64 a1_0, .int .i64 a2_0, .int .i64 a3_0, .int .u32 a4_0, .int .i64 a5_0, .int .i64 a6_0, .int .i64 a7_0, .bool false, .bool false, .int .i64 0, .int .u32 0, .int .i64 0, .int .i64 0, .int .i64 0, .int .i64 0, .int .i64 0]) w := by kernel_rfl
theorem dreone_i64i64i64i64u32i64i64i64bbi64u32i64i64i64i64i64 {a0 : Int} {a1 : Int} {a2 : Int} {a3 : Int} {a4 : Int} {a5 : Int} {a6 : Int} {a7 : Int} {a8 : Bool} {a9 : Bool} {a10 : Int} {a11 : Int} {a12 : Int} {a13 : Int} {a14 : Int} {a15 : Int} {a16 : Int} : ∀ u ∈ [(.int .i64 a0 : Value), .int .i64 a1, .int .i64 a2, .int .i64 a3, .int .u32 a4, .int .i64 a5, .int .i64 a6, .int .i64 a7, .bool a8, .bool a9, .int .i64 a10, .int .u32 a11, .int .i64 a12, .int .i64 a13, .int .i64 a14, .int .i64 a15, .int .i64 a16], u.oneCell' = true := by
 intro u hu
 simp only [List.mem_cons, List.not_mem_nil, or_false] at hu
 rcases hu with rfl | rfl | rfl | rfl | rfl | rfl | rfl | rfl | rfl | rfl | rfl | rfl | rfl | rfl | rfl | rfl | rfl <;> rfl
theorem dreone_i64 {a0 : Int} : ∀ u ∈ [(.int .i64 a0 : Value)], u.oneCell' = true := by
 intro u hu
 rw [List.mem_singleton] at hu
 subst hu; rfl
theorem dresz4 (w : World) : (sizeOf 4).run Tryz.prog w = .ok 1 w := rfl
theorem dreone_b {a0 : Bool} : ∀ u ∈ [(.bool a0 : Value)], u.oneCell' = true := by
 intro u hu
 rw [List.mem_singleton] at hu
 subst hu; rfl
theorem drebld45_50928 (a0_0 : Int) (a1_0 : Int) (a3_0 : Int) (a4_0 : Int) (a5_0 : Int) (w : World) : (Instr.build 45 #[(0, .int .u32 a0_0), (1, .int .i64 a1_0), (3, .int .i64 a3_0), (4, .int .i64 a4_0), (5, .int .i64 a5_0)]).run Tryz.prog w = .ok (.agg #[.int .u32 a0_0, .int .i64 a1_0, .int .i64 0, .int .i64 a3_0, .int .i64 a4_0, .int .i64 a5_0]) w := by kernel_rfl
theorem dresz45 (w : World) : (sizeOf 45).run Tryz.prog w = .ok 6 w := rfl
theorem dreone_u32i64i64i64i64i64 {a0 : Int} {a1 : Int} {a2 : Int} {a3 : Int} {a4 : Int} {a5 : Int} : ∀ u ∈ [(.int .u32 a0 : Value), .int .i64 a1, .int .i64 a2, .int .i64 a3, .int .i64 a4, .int .i64 a5], u.oneCell' = true := by
 intro u hu
 simp only [List.mem_cons, List.not_mem_nil, or_false] at hu
 rcases hu with rfl | rfl | rfl | rfl | rfl | rfl <;> rfl
set_option maxHeartbeats 1000000 in
theorem results_cod (cb : Nat) (w : World) (hC : Cod w cb) (m : Nat) (stb : Bool) (hm : m ≤ 100) :
  Calls Tryz.prog 23 #[.pointer (some ⟨cb, 0, none⟩), .int .i64 ((m : Nat) : Int), .bool stb] w fun e w' => ∃ x : {y : (Option Addr × Nat) × List Rs // DrawnOk m y.2 ∧ y.2.length ≤ y.1.2 ∧ y.1.2 ≤ maxLen}, e = .returned (.slice x.1.1.1 x.1.2.length x.1.1.2) ∧ Codr (fun w => Cod w cb) cb w ([.row (.slice x.1.1.1 x.1.2.length x.1.1.2) 47 17 x.1.2.length (flat Rs.cells x.1.2)]) w' := by
 refine begin_ (vs := [.pointer (some ⟨cb, 0, none⟩), .int .i64 ((m : Nat) : Int), .bool stb]) (I := Pm ⟨w, cb⟩ (.abs cb (fun w => Cod w cb) :: oths cb w)) Tryz.func23 rfl rfl rfl ?_ (Pm.codes hC (cod_cells hC) (cod_stab cb))
 refine zSG ?_
 refine TL.as_ ?_
 refine zET (zSG ?_)
 refine TL.mv ?_
 refine TL.call (α := {y : Nt // NtOk y}) (r := fun x => .agg x.1.cells.toArray) (I' := fun x => Pm ⟨w, cb⟩ ([.abs cb (fun w => Cod w cb)] ++ (netsP (x.1.ps :: ([])) ++ oths cb w))) rfl rfl rfl rfl rfl Tryz.func74 (by decide) rfl (fun w1 hw => (scene_cod cb w1 (hw.at_ (k := 0) rfl).1).mono fun e w2 ⟨x, h1, h2⟩ => ⟨x, h1, Pm.netIn (P := [.abs cb (fun w => Cod w cb)]) (PP := ([])) (O := oths cb w) (hw.cods (k := 0) rfl h2 (netP_noAbs _))⟩) ?_
 rintro ⟨sc0, hsc0⟩
 dsimp only
 refine TL.prowS (e := 119) (size := 5) (cs := flat Nt.cells [sc0]) rfl rfl rfl rfl rfl (fun w => drebs121_1_73147 _ _ _ _ _ _ _ w) (by decide) rfl (fun g21 => ?_)
 refine TL.as_ ?_
 refine zET ?_
 refine TC.join (α := {y : (Option Addr × Nat) × List Nt × List (Sg (Sg Int)) // NetsOk y.2.1 y.2.2 ∧ y.2.1.length ≤ y.1.2 ∧ y.1.2 ≤ maxLen}) (fun y => [(0, .pointer (some ⟨cb, 0, none⟩)), (1, .int .i64 ((m : Nat) : Int)), (2, .bool stb), (6, .slice none 0 0), (7, .slice y.1.1.1 y.1.2.1.length y.1.1.2)]) (fun y => Pm ⟨w, cb⟩ ([.row (.slice y.1.1.1 y.1.2.1.length y.1.1.2) 119 5 y.1.2.1.length (flat Nt.cells y.1.2.1), .abs cb (fun w => Cod w cb)] ++ (netsP y.1.2.2 ++ oths cb w))) ?_ ?_
 ·refine zSG ?_
  refine TL.mv ?_
  refine TL.pcallCod (k := 1) (α := Bool) (fun x => .bool x) (fun x => []) rfl rfl rfl rfl rfl Tryz.func13 (by decide) rfl rfl (fun w1 hw hC1 => dbool_cod cb w1 hC1 3 (by decide)) ?_
  rintro b0
  dsimp only [List.cons_append, List.nil_append]
  refine zET ?_
  refine TC.split (t := b0) rfl (fun c23 => ?_) (fun c23 => ?_)
  ·refine zG ?_
   refine TL.rn 2 rfl ?_
   refine TL.call (α := {y : Nt // NtOk y}) (r := fun x => .agg x.1.cells.toArray) (I' := fun x => Pm ⟨w, cb⟩ ([.row (.slice (some ⟨g21, 0, none⟩) 1 1) 119 5 1 (flat Nt.cells [sc0]), .abs cb (fun w => Cod w cb)] ++ (netsP (x.1.ps :: (sc0.ps :: ([]))) ++ oths cb w))) rfl rfl rfl rfl rfl Tryz.func74 (by decide) rfl (fun w1 hw => (scene_cod cb w1 (hw.at_ (k := 1) rfl).1).mono fun e w2 ⟨x, h1, h2⟩ => ⟨x, h1, Pm.netIn (P := [.row (.slice (some ⟨g21, 0, none⟩) 1 1) 119 5 1 (flat Nt.cells [sc0]), .abs cb (fun w => Cod w cb)]) (PP := (sc0.ps :: ([]))) (O := oths cb w) (hw.cods (k := 1) rfl h2 (netP_noAbs _))⟩) ?_
   rintro ⟨sc1, hsc1⟩
   dsimp only
   refine TL.prowS (e := 119) (size := 5) (cs := flat Nt.cells [sc1]) rfl rfl rfl rfl rfl (fun w => drebs121_1_73147 _ _ _ _ _ _ _ w) (by decide) rfl (fun g27 => ?_)
   refine TL.appendT (k := 1) rfl rfl rfl rfl Tryz.underlying121 dreel121 rfl rfl rfl (fun w1 hw => pm_reads hw (k := 0) rfl) (flat_one nt_cel _) (by show _ * 56 ≤ _; omega) (1 + 1) (rfl) (flat Nt.cells (([sc0]) ++ [sc1])) ((flat_app _ _).symm) (fun A28 c28 hA281 hA282 => ?_)
   refine TL.as_ ?_
   refine zE ?_
   exact TX.joined (⟨((A28, c28), ([sc0]) ++ [sc1], (sc1.ps :: (sc0.ps :: ([])))), nets_two hsc0 hsc1, hA281, hA282⟩) (⟨rfl, rfl, rfl, rfl, rfl, trivial⟩) (fun w1 hw => hw.sel (.cons _ (.cons_cons _ (.cons_cons _ (List.Sublist.refl _)))))
  ·refine zk ?_
   exact TX.joined (⟨(((some ⟨g21, 0, none⟩), 1), [sc0], (sc0.ps :: ([]))), nets_one hsc0, by show 1 ≤ 1; decide, by show 1 ≤ maxLen; unfold maxLen; decide⟩) (⟨rfl, rfl, rfl, rfl, rfl, trivial⟩) (fun w1 hw => hw)
 ·rintro ⟨⟨⟨An, cn⟩, ns, PP⟩, hns, hnc, hnm⟩
  dsimp only at hns hnc hnm ⊢
  have hn1 := hns.1
  have hn2 := hns.2.1
  refine zS ?_
  refine TC.fact (p := ∃ g, An = some ⟨g, 0, none⟩) (fun w1 hw => rowA hw (k := 0) rfl (by omega)) ?_
  rintro ⟨g_An, rfl⟩
  refine zG ?_
  refine TL.as_ ?_
  refine zET (zSG ?_)
  refine TL.mv ?_
  refine TL.pcallCod (k := 1) (α := {q9 : Nat // q9 ≤ 65535 ∧ (1 ≤ (50 : Int) → (q9 : Int) < 50)}) (fun q9 => .int .i64 ((q9.1 : Nat) : Int)) (fun q9 => []) rfl rfl rfl rfl rfl Tryz.func25 (by decide) rfl rfl (fun w1 hw hC1 => next_cod cb w1 50 hC1) ?_
  rintro ⟨a0, ha01, ha02⟩
  dsimp only [List.cons_append, List.nil_append]
  refine TL.mv ?_
  refine TL.pcallCod (k := 1) (α := {q9 : Nat // q9 ≤ 65535 ∧ (1 ≤ (700 : Int) → (q9 : Int) < 700)}) (fun q9 => .int .i64 ((q9.1 : Nat) : Int)) (fun q9 => []) rfl rfl rfl rfl rfl Tryz.func25 (by decide) rfl rfl (fun w1 hw hC1 => next_cod cb w1 700 hC1) ?_
  rintro ⟨i0, hi01, hi02⟩
  dsimp only [List.cons_append, List.nil_append]
  refine TL.val rfl rfl rfl (gives_bin rfl rfl rfl (fun w => bin_mul_ (r := ((100 * i0 : Nat) : Int)) (by simp only [IntKind.wrap_i64]; omega) w)) ?_
  refine TL.rn 2 rfl ?_
  refine zET (zSG ?_)
  refine TL.pnew rfl rfl rfl (exec_alloc (cs := [.int .i64 0, .int .i64 0, .int .i64 0, .int .i64 0, .int .i64 0, .int .i64 0, .int .i64 0, .int .i64 0, .int .i64 0, .int .i64 0, .int .i64 0, .int .i64 0, .int .i64 0, .int .i64 0, .int .i64 0, .int .i64 0]) rfl drezv122 rfl) (fun g11 => ?_)
  refine zET (zS (zSG ?_))
  refine TL.rn 2 rfl ?_
  refine TL.v (gD ((m + 1 : Nat) : Int)) ?_
  refine TL.pcallCod (k := 2) (α := {q9 : Nat // q9 ≤ 65535 ∧ (1 ≤ (((m + 1 : Nat) : Int) : Int) → (q9 : Int) < ((m + 1 : Nat) : Int))}) (fun q9 => .int .i64 ((q9.1 : Nat) : Int)) (fun q9 => []) rfl rfl rfl rfl rfl Tryz.func25 (by decide) rfl rfl (fun w1 hw hC1 => next_cod cb w1 ((m + 1 : Nat) : Int) hC1) ?_
  rintro ⟨k0, hk01, hk02⟩
  dsimp only [List.cons_append, List.nil_append]
  refine TL.as_ ?_
  refine zET (zB ?_)
  refine TC.nilrow 47 17 ?_
  refine TC.loop_ (α := {y : Nat × Nat × Nat × (Nat × Nat) × (Option Addr × Nat) × List Rs × List Nt × List (Sg (Sg Int)) // (y.1 + y.2.2.2.2.2.1.length ≤ m ∧ y.2.1 ≤ 100 + 100 * y.2.2.2.2.2.1.length ∧ y.2.2.1 ≤ 70000 + 100 * y.2.2.2.2.2.1.length) ∧ OutOk y.2.2.2.2.2.1 y.2.1 y.2.2.2.1.1 y.2.2.2.1.2 ∧ NetsOk y.2.2.2.2.2.2.1 y.2.2.2.2.2.2.2 ∧ y.2.2.2.2.2.2.1.length = ns.length ∧ y.2.2.2.2.2.1.length ≤ y.2.2.2.2.1.2 ∧ y.2.2.2.2.1.2 ≤ maxLen}) (fun y => [(0, .pointer (some ⟨cb, 0, none⟩)), (2, .bool stb), (7, .slice (some ⟨g_An, 0, none⟩) ns.length cn), (8, .slice y.1.2.2.2.2.1.1 y.1.2.2.2.2.2.1.length y.1.2.2.2.2.1.2), (9, .int .i64 ((y.1.2.1 : Nat) : Int)), (10, .int .i64 ((y.1.2.2.1 : Nat) : Int)), (12, .int .i64 ((y.1.1 : Nat) : Int)), (11, .pointer (some ⟨g11, 0, none⟩))]) (fun y => Pm ⟨w, cb⟩ ([.row (.slice y.1.2.2.2.2.1.1 y.1.2.2.2.2.2.1.length y.1.2.2.2.2.1.2) 47 17 y.1.2.2.2.2.2.1.length (flat Rs.cells y.1.2.2.2.2.2.1), .blk g11 122 [.int .i64 ((y.1.2.2.2.1.1 : Nat) : Int), .int .i64 ((y.1.2.2.2.1.2 : Nat) : Int), .int .i64 0, .int .i64 0, .int .i64 0, .int .i64 0, .int .i64 0, .int .i64 0, .int .i64 0, .int .i64 0, .int .i64 0, .int .i64 0, .int .i64 0, .int .i64 0, .int .i64 0, .int .i64 0], .row (.slice (some ⟨g_An, 0, none⟩) ns.length cn) 119 5 ns.length (flat Nt.cells y.1.2.2.2.2.2.2.1), .abs cb (fun w => Cod w cb)] ++ (netsP y.1.2.2.2.2.2.2.2 ++ oths cb w))) (fun y => y.1.1) (⟨(k0, a0, 100 * i0, (0, 0), (none, 0), [], ns, PP), ⟨by dsimp only [List.length_nil]; omega, by dsimp only [List.length_nil]; omega, by dsimp only [List.length_nil]; omega⟩, OutOk.nil _, hns, rfl, Nat.le_refl _, Nat.zero_le _⟩) ⟨rfl, rfl, rfl, rfl, rfl, rfl, rfl, rfl, trivial⟩ (fun w1 hw => hw) ?_
  rintro ⟨⟨k, at0, idn, ⟨n0, n1⟩, ⟨Ar, cr⟩, out, ns1, P1⟩, ⟨hk, hat, hid⟩, hout, hns1, hnl1, hrc, hrm⟩
  dsimp only at hk hat hid hout hns1 hnl1 hrc hrm ⊢
  refine zS (zSG ?_)
  refine TL.mv ?_
  refine TL.sp bin_gtr (fun q39 => ?_) (fun q39 => ?_)
  ·refine zET (zc (zk (zT (zS (zB (zSG ?_))))))
   refine TL.rn 2 rfl ?_
   refine TL.v (gN Tryz.underlying121) ?_
   refine TL.pcallCod (k := 3) (α := {q9 : Nat // q9 ≤ 65535 ∧ (1 ≤ ((ns.length : Nat) : Int) → (q9 : Int) < (ns.length : Nat))}) (fun q9 => .int .i64 ((q9.1 : Nat) : Int)) (fun q9 => []) rfl rfl rfl rfl rfl Tryz.func25 (by decide) rfl rfl (fun w1 hw hC1 => next_cod cb w1 (ns.length : Nat) hC1) ?_
   rintro ⟨ix, hix1, hix2⟩
   dsimp only [List.cons_append, List.nil_append]
   refine TL.as_ ?_
   refine zET ?_
   refine TC.join (α := {y : List Nt × List (Sg (Sg Int)) // NetsOk y.1 y.2 ∧ y.1.length = ns.length}) (fun y => [(0, .pointer (some ⟨cb, 0, none⟩)), (2, .bool stb), (7, .slice (some ⟨g_An, 0, none⟩) ns.length cn), (8, .slice Ar out.length cr), (9, .int .i64 ((at0 : Nat) : Int)), (10, .int .i64 ((idn : Nat) : Int)), (11, .pointer (some ⟨g11, 0, none⟩)), (12, .int .i64 ((k : Nat) : Int)), (13, .int .i64 ((ix : Nat) : Int))]) (fun y => Pm ⟨w, cb⟩ ([.row (.slice Ar out.length cr) 47 17 out.length (flat Rs.cells out), .blk g11 122 [.int .i64 ((n0 : Nat) : Int), .int .i64 ((n1 : Nat) : Int), .int .i64 0, .int .i64 0, .int .i64 0, .int .i64 0, .int .i64 0, .int .i64 0, .int .i64 0, .int .i64 0, .int .i64 0, .int .i64 0, .int .i64 0, .int .i64 0, .int .i64 0, .int .i64 0], .row (.slice (some ⟨g_An, 0, none⟩) ns.length cn) 119 5 ns.length (flat Nt.cells y.1.1), .abs cb (fun w => Cod w cb)] ++ (netsP y.1.2 ++ oths cb w))) ?_ ?_
   ·refine zSG ?_
    refine TL.mv ?_
    cases stb with
    | true =>
     refine TL.rn 5 rfl ?_
     refine zET (zd (zk ?_))
     exact TX.joined (⟨(ns1, P1), hns1, hnl1⟩) (⟨rfl, rfl, rfl, rfl, rfl, rfl, rfl, rfl, rfl, trivial⟩) (fun w1 hw => hw)
    | false =>
     refine TL.rn 3 rfl ?_
     refine TL.gu ?_
     refine TL.pcallCod (k := 3) (α := Bool) (fun x => .bool x) (fun x => []) rfl rfl rfl rfl rfl Tryz.func13 (by decide) rfl rfl (fun w1 hw hC1 => dbool_cod cb w1 hC1 12 (by decide)) ?_
     rintro b1
     dsimp only [List.cons_append, List.nil_append]
     refine TL.pk ?_
     refine zET ?_
     refine TC.split (t := b1) rfl (fun c51 => ?_) (fun c51 => ?_)
     ·refine zG ?_
      refine TL.rn 3 rfl ?_
      refine TL.call (α := {y : Nt // NtOk y}) (r := fun x => .agg x.1.cells.toArray) (I' := fun x => Pm ⟨w, cb⟩ ([.row (.slice Ar out.length cr) 47 17 out.length (flat Rs.cells out), .blk g11 122 [.int .i64 ((n0 : Nat) : Int), .int .i64 ((n1 : Nat) : Int), .int .i64 0, .int .i64 0, .int .i64 0, .int .i64 0, .int .i64 0, .int .i64 0, .int .i64 0, .int .i64 0, .int .i64 0, .int .i64 0, .int .i64 0, .int .i64 0, .int .i64 0, .int .i64 0], .row (.slice (some ⟨g_An, 0, none⟩) ns.length cn) 119 5 ns.length (flat Nt.cells ns1), .abs cb (fun w => Cod w cb)] ++ (netsP (x.1.ps :: P1) ++ oths cb w))) rfl rfl rfl rfl rfl Tryz.func74 (by decide) rfl (fun w1 hw => (scene_cod cb w1 (hw.at_ (k := 3) rfl).1).mono fun e w2 ⟨x, h1, h2⟩ => ⟨x, h1, Pm.netIn (P := [.row (.slice Ar out.length cr) 47 17 out.length (flat Rs.cells out), .blk g11 122 [.int .i64 ((n0 : Nat) : Int), .int .i64 ((n1 : Nat) : Int), .int .i64 0, .int .i64 0, .int .i64 0, .int .i64 0, .int .i64 0, .int .i64 0, .int .i64 0, .int .i64 0, .int .i64 0, .int .i64 0, .int .i64 0, .int .i64 0, .int .i64 0, .int .i64 0], .row (.slice (some ⟨g_An, 0, none⟩) ns.length cn) 119 5 ns.length (flat Nt.cells ns1), .abs cb (fun w => Cod w cb)]) (PP := P1) (O := oths cb w) (hw.cods (k := 3) rfl h2 (netP_noAbs _))⟩) ?_
      rintro ⟨sc2, hsc2⟩
      dsimp only
      refine TL.val rfl rfl rfl (gives_fieldV (v := .slice sc2.ps.A sc2.ps.l.length sc2.ps.c) rfl rfl (fun w => drefv119_1_92971 _ _ _ _ _ _ _ w)) ?_
      have hi57 : ix < ns1.length := by omega
      obtain ⟨x57, hx57⟩ := ex_at hi57
      refine TL.val rfl rfl rfl (gA (i := ix) Tryz.underlying121 dntsz119 rfl rfl rfl rfl rfl (by omega)) ?_
      refine TL.v (gF dntfld119_1) ?_
      refine TL.rowset (k := 2) (vs := [.slice sc2.ps.A sc2.ps.l.length sc2.ps.c]) (xs' := flat Nt.cells (ns1.set ix (⟨x57.v, x57.dst, x57.proto, sc2.ps, x57.last⟩ : Nt))) rfl rfl rfl rfl rfl rfl rfl dntsz117 pbdone_s (by rw [flat_len nt_cel]; show 0 + ix * 5 + 3 + 1 ≤ _; omega) (flat_put nt_cel (q := 3) (y := (⟨x57.v, x57.dst, x57.proto, sc2.ps, x57.last⟩ : Nt)) hx57 (by show 3 + 1 ≤ 5; decide) rfl) ?_
      try dsimp only [List.set_cons_zero, List.set_cons_succ]
      refine zE ?_
      exact TX.joined (⟨(ns1.set ix (⟨x57.v, x57.dst, x57.proto, sc2.ps, x57.last⟩ : Nt), (sc2.ps :: P1)), nets_set hns1 hx57 hsc2, by dsimp only; rw [List.length_set]; exact hnl1⟩) (⟨rfl, rfl, rfl, rfl, rfl, rfl, rfl, rfl, rfl, trivial⟩) (fun w1 hw => hw)
     ·refine zk ?_
      exact TX.joined (⟨(ns1, P1), hns1, hnl1⟩) (⟨rfl, rfl, rfl, rfl, rfl, rfl, rfl, rfl, rfl, trivial⟩) (fun w1 hw => hw)
   ·rintro ⟨⟨ns2, P2⟩, hns2, hnl2⟩
    dsimp only at hns2 hnl2 ⊢
    refine zSG ?_
    refine TL.rn 2 rfl ?_
    have hi61 : ix < ns2.length := by omega
    obtain ⟨x61, hx61⟩ := ex_at hi61
    refine TL.val rfl rfl rfl (gA (i := ix) Tryz.underlying121 dntsz119 rfl rfl rfl rfl rfl (by omega)) ?_
    refine TL.val rfl rfl rfl (gives_loadR (off := 0 + ix * 5) rfl rfl dntag119 dntsz119 (nt_cel.len x61) (fun w1 hw j9 u9 h9 => flat_row nt_cel hw (q := 2) rfl hx61 j9 u9 h9)) ?_
    refine TL.pnew rfl rfl rfl (exec_alloc (cs := [.int .i64 0, .int .u32 0, .int .i64 0, .slice none 0 0, .int .u32 0]) rfl dntzv119 rfl) (fun g14 => ?_)
    refine TL.pstore (k := 0) (vs := x61.cells) rfl rfl rfl rfl rfl rfl rfl dntsz119 (nt_cel.one _) (by show 5 ≤ 5; decide) rfl ?_
    refine zET (zS ?_)
    have hnn := hout.2.2
    obtain ⟨hx61k, hx61p⟩ := hns2.2.2 x61 (List.mem_of_getElem? hx61)
    obtain ⟨hx61t, hx61l, lg, hlg1, hlg3, hps1, hps3, hlgw⟩ := hx61k
    have hx61t2 := hx61t
    unfold TrOk at hx61t2
    dsimp only at hx61t2
    have hv61 : x61.v = 0 ∨ x61.v = 1 := by omega
    refine zG ?_
    refine TL.mv ?_
    refine TL.v (gF dntfld119_1) ?_
    refine TL.v (gL 0 dntag117) ?_
    refine TL.v (gN Tryz.underlying117) ?_
    refine TL.pcallCod (k := 4) (α := {q9 : Nat // q9 ≤ 65535 ∧ (1 ≤ ((x61.ps.l.length : Nat) : Int) → (q9 : Int) < (x61.ps.l.length : Nat))}) (fun q9 => .int .i64 ((q9.1 : Nat) : Int)) (fun q9 => []) rfl rfl rfl rfl rfl Tryz.func25 (by decide) rfl rfl (fun w1 hw hC1 => next_cod cb w1 (x61.ps.l.length : Nat) hC1) ?_
    rintro ⟨f, hf1, hf2⟩
    dsimp only [List.cons_append, List.nil_append]
    refine TL.as_ ?_
    refine zET (zSG ?_)
    refine TL.v (gF dntfld119_1) ?_
    refine TL.v (gL 0 dntag117) ?_
    refine TL.mv ?_
    have hmm71 := nets_mem1 (T := oths cb w) hx61p
    refine TL.fact (p := ∃ g, x61.ps.A = some ⟨g, 0, none⟩) (fun w1 hw => segA hw (List.mem_of_mem_drop (i := 5) (by exact hmm71)) (by omega)) ?_
    rintro ⟨gx71, hgx71⟩
    obtain ⟨p71, hp71⟩ : ∃ z, x61.ps.l[f]? = some z := ⟨_, List.getElem?_eq_getElem (by omega)⟩
    refine TL.val rfl rfl rfl (gA (i := f) Tryz.underlying117 dntsz64 rfl rfl rfl rfl hgx71 (by omega)) ?_
    refine TL.val rfl rfl rfl (gives_load (v := .slice p71.A p71.l.length p71.c) rfl rfl dntag64 (fun w1 hw => seg_cell sgc_cel hw (List.mem_of_mem_drop (i := 5) (by exact hmm71)) hgx71 hp71 0 _ rfl)) ?_
    have hpw71 := hlgw p71 (List.mem_of_getElem? hp71)
    have hp71l := hpw71.1
    refine TL.as_ ?_
    refine zET (zSG ?_)
    refine TL.rn 2 rfl ?_
    refine TL.pcallCod (k := 4) (α := {q9 : Nat // q9 ≤ 65535 ∧ (1 ≤ (40 : Int) → (q9 : Int) < 40)}) (fun q9 => .int .i64 ((q9.1 : Nat) : Int)) (fun q9 => []) rfl rfl rfl rfl rfl Tryz.func25 (by decide) rfl rfl (fun w1 hw hC1 => next_cod cb w1 40 hC1) ?_
    rintro ⟨dq, hdq1, hdq2⟩
    dsimp only [List.cons_append, List.nil_append]
    refine TL.v (gD ((1 + dq : Nat) : Int)) ?_
    refine TL.v (gD ((at0 + (1 + dq) : Nat) : Int)) ?_
    refine TL.as_ ?_
    refine zET ?_
    refine TC.join (α := {y : (Nat × Nat) × Nat // ((x61.v = 0 ∧ y.1.2 = n0) ∨ (x61.v = 1 ∧ y.1.2 = n1)) ∧ y.2 ≤ p71.l.length}) (fun y => [(0, .pointer (some ⟨cb, 0, none⟩)), (2, .bool stb), (7, .slice (some ⟨g_An, 0, none⟩) ns.length cn), (8, .slice Ar out.length cr), (9, .int .i64 ((at0 + (1 + dq) : Nat) : Int)), (10, .int .i64 ((idn : Nat) : Int)), (11, .pointer (some ⟨g11, 0, none⟩)), (12, .int .i64 ((k : Nat) : Int)), (14, .pointer (some ⟨g14, 0, none⟩)), (15, .int .i64 ((f : Nat) : Int)), (16, .slice p71.A p71.l.length p71.c), (17, .pointer (some ⟨y.1.1.1, 0, none⟩))]) (fun y => Pm ⟨w, cb⟩ ([.blk y.1.1.1 47 [.int .i64 x61.v, .int .i64 0, .int .i64 ((y.1.1.2 : Nat) : Int), .int .i64 ((at0 + (1 + dq) : Nat) : Int), .int .u32 x61.dst, .int .i64 x61.proto, .int .i64 ((f : Nat) : Int), .int .i64 ((1 + y.1.2 : Nat) : Int), .bool false, .bool false, .int .i64 0, .int .u32 0, .int .i64 0, .int .i64 0, .int .i64 0, .int .i64 0, .int .i64 0], .blk g14 119 x61.cells, .row (.slice Ar out.length cr) 47 17 out.length (flat Rs.cells out), .blk g11 122 [.int .i64 ((n0 : Nat) : Int), .int .i64 ((n1 : Nat) : Int), .int .i64 0, .int .i64 0, .int .i64 0, .int .i64 0, .int .i64 0, .int .i64 0, .int .i64 0, .int .i64 0, .int .i64 0, .int .i64 0, .int .i64 0, .int .i64 0, .int .i64 0, .int .i64 0], .row (.slice (some ⟨g_An, 0, none⟩) ns.length cn) 119 5 ns.length (flat Nt.cells ns2), .abs cb (fun w => Cod w cb)] ++ (netsP P2 ++ oths cb w))) ?_ ?_
    ·rcases hv61 with hv0 | hv1
     ·refine TC.cut [(0, .pointer (some ⟨cb, 0, none⟩)), (2, .bool stb), (7, .slice (some ⟨g_An, 0, none⟩) ns.length cn), (8, .slice Ar out.length cr), (9, .int .i64 ((at0 + (1 + dq) : Nat) : Int)), (10, .int .i64 ((idn : Nat) : Int)), (11, .pointer (some ⟨g11, 0, none⟩)), (12, .int .i64 ((k : Nat) : Int)), (13, .int .i64 ((ix : Nat) : Int)), (59, .slice (some ⟨g_An, 0, none⟩) ns.length cn), (60, .int .i64 ((ix : Nat) : Int)), (61, .pointer (some ⟨g_An, 0 + ix * 5, none⟩)), (62, .agg (x61.cells).toArray), (14, .pointer (some ⟨g14, 0, none⟩)), (63, .pointer (some ⟨cb, 0, none⟩)), (64, .pointer (some ⟨g14, 3, none⟩)), (65, .slice x61.ps.A x61.ps.l.length x61.ps.c), (66, .int .i64 (x61.ps.l.length : Nat)), (67, .int .i64 ((f : Nat) : Int)), (15, .int .i64 ((f : Nat) : Int)), (68, .pointer (some ⟨g14, 3, none⟩)), (69, .slice x61.ps.A x61.ps.l.length x61.ps.c), (70, .int .i64 ((f : Nat) : Int)), (71, .pointer (some ⟨gx71, 0 + f * 1, none⟩)), (72, .slice p71.A p71.l.length p71.c), (16, .slice p71.A p71.l.length p71.c), (73, .int .i64 ((at0 : Nat) : Int)), (74, .pointer (some ⟨cb, 0, none⟩)), (75, .int .i64 ((dq : Nat) : Int)), (76, .int .i64 ((1 + dq : Nat) : Int)), (77, .int .i64 ((at0 + (1 + dq) : Nat) : Int))] (Pm ⟨w, cb⟩ ([.blk g14 119 x61.cells, .row (.slice Ar out.length cr) 47 17 out.length (flat Rs.cells out), .blk g11 122 [.int .i64 ((n0 : Nat) : Int), .int .i64 ((n1 : Nat) : Int), .int .i64 0, .int .i64 0, .int .i64 0, .int .i64 0, .int .i64 0, .int .i64 0, .int .i64 0, .int .i64 0, .int .i64 0, .int .i64 0, .int .i64 0, .int .i64 0, .int .i64 0, .int .i64 0], .row (.slice (some ⟨g_An, 0, none⟩) ns.length cn) 119 5 ns.length (flat Nt.cells ns2), .abs cb (fun w => Cod w cb)] ++ (netsP P2 ++ oths cb w))) ⟨rfl, rfl, rfl, rfl, rfl, rfl, rfl, rfl, rfl, rfl, rfl, rfl, rfl, rfl, rfl, rfl, rfl, rfl, rfl, rfl, rfl, rfl, rfl, rfl, rfl, rfl, rfl, rfl, rfl, rfl, rfl, trivial⟩ (fun w1 hw => hw) ?_
      refine TC.held (ls := #[Ff,Ff,Ff,Ff,Ff,Ff,Ff,Ff,Ff,Ff,Ff,Ff,Ff,Ff,Ff,Ff,Ff,Ff,Ff,Ff,Ff,Ff,Ff,Ff,Ff]) (Pm ⟨w, cb⟩ [.blk g14 119 x61.cells, .blk g11 122 [.int .i64 ((n0 : Nat) : Int), .int .i64 ((n1 : Nat) : Int), .int .i64 0, .int .i64 0, .int .i64 0, .int .i64 0, .int .i64 0, .int .i64 0, .int .i64 0, .int .i64 0, .int .i64 0, .int .i64 0, .int .i64 0, .int .i64 0, .int .i64 0, .int .i64 0]]) (by kernel_rfl) rfl rfl (fun w hw => hw.drawn _) ?_
      refine TH.tk 0 rfl rfl rfl (gF dntfld119_0) (fun w1 hw => hw.pick [0, 2] (by decide) rfl) ?_
      refine TH.tk 1 rfl rfl rfl (gF pcmfld32_0) (fun w1 hw => hw.pick [0, 2] (by decide) rfl) ?_
      refine TH.tk 2 rfl rfl rfl (gL 0 pcmag3) (fun w1 hw => hw.pick [0, 2] (by decide) rfl) ?_
      refine TH.tk 3 rfl rfl rfl (gF dntfld119_0) (fun w1 hw => hw.pick [0, 2] (by decide) rfl) ?_
      refine TH.tk 4 rfl rfl rfl (gF pcmfld32_0) (fun w1 hw => hw.pick [0, 2] (by decide) rfl) ?_
      refine TH.tk 5 rfl rfl rfl (show Gives _ _ _ _ _ (Value.int .i64 0) from by rw [show (Value.int .i64 0) = .int .i64 x61.v by rw [hv0]]; exact pm_load (k := 0) (i := 0) rfl rfl pcmag3 rfl rfl) (fun w1 hw => hw.pick [0, 2] (by decide) rfl) ?_
      refine TH.tk 6 rfl rfl rfl (gives_at (v := .pointer (some ⟨g11, 0, none⟩)) rfl rfl rfl (fun w => at_arr Tryz.underlying122 pcmsz3 g11 0 _ 0 (by decide) w)) (fun w1 hw => hw.pick [0, 2] (by decide) rfl) ?_
      refine TH.tk 7 rfl rfl rfl (gL 1 pcmag3) (fun w1 hw => hw.pick [0, 2] (by decide) rfl) ?_
      refine TH.tk 8 rfl rfl rfl (gives_move rfl rfl) (fun w1 hw => hw.pick [0, 2] (by decide) rfl) ?_
      refine TH.tk 9 rfl rfl rfl (gF dntfld119_0) (fun w1 hw => hw.pick [0, 2] (by decide) rfl) ?_
      refine TH.tk 10 rfl rfl rfl (gF pcmfld32_1) (fun w1 hw => hw.pick [0, 2] (by decide) rfl) ?_
      refine TH.tk 11 rfl rfl rfl (gL 0 pcmag30) (fun w1 hw => hw.pick [0, 2] (by decide) rfl) ?_
      refine TH.tk 12 rfl rfl rfl (gF dntfld119_0) (fun w1 hw => hw.pick [0, 2] (by decide) rfl) ?_
      refine TH.tk 13 rfl rfl rfl (gF pcmfld32_2) (fun w1 hw => hw.pick [0, 2] (by decide) rfl) ?_
      refine TH.tk 14 rfl rfl rfl (gL 0 pcmag3) (fun w1 hw => hw.pick [0, 2] (by decide) rfl) ?_
      refine TH.tk 15 rfl rfl rfl (gives_move rfl rfl) (fun w1 hw => hw.pick [0, 2] (by decide) rfl) ?_
      refine TH.tk 16 rfl rfl rfl (gives_move rfl rfl) (fun w1 hw => hw.pick [0, 2] (by decide) rfl) ?_
      refine TH.tk 17 rfl rfl rfl (gives_move rfl rfl) (fun w1 hw => hw.pick [0, 2] (by decide) rfl) ?_
      refine TH.tk 18 rfl rfl rfl (gN Tryz.underlying64) (fun w1 hw => hw.pick [0, 2] (by decide) rfl) ?_
      refine TH.tk 19 rfl rfl rfl (gD ((p71.l.length + 1 : Nat) : Int)) (fun w1 hw => hw.pick [0, 2] (by decide) rfl) ?_
      refine TH.two' (listed1 := #[Tt,Tt,Tt,Tt,Tt,Tt,Tt,Tt,Tt,Tt,Tt,Tt,Tt,Tt,Tt,Tt,Tt,Tt,Tt,Tt,Tt,Ff,Ff,Ff,Ff]) (listed2 := #[Tt,Tt,Tt,Tt,Tt,Tt,Tt,Tt,Tt,Tt,Tt,Tt,Tt,Tt,Tt,Tt,Tt,Tt,Tt,Tt,Ff,Ff,Ff,Tt,Ff]) 20 23 rfl rfl (by kernel_rfl) rfl rfl ?_ ?_
      ·refine TL.pcallCod (k := 4) (α := {q9 : Nat // q9 ≤ 65535 ∧ (1 ≤ (((p71.l.length + 1 : Nat) : Int) : Int) → (q9 : Int) < ((p71.l.length + 1 : Nat) : Int))}) (fun q9 => .int .i64 ((q9.1 : Nat) : Int)) (fun q9 => []) rfl rfl rfl rfl rfl Tryz.func25 (by decide) rfl rfl (fun w1 hw hC1 => next_cod cb w1 ((p71.l.length + 1 : Nat) : Int) hC1) ?_
       rintro ⟨tq, htq1, htq2⟩
       dsimp only [List.cons_append, List.nil_append]
       refine zE ?_
       refine TX.held (fun w1 hw => hw.pick [0, 2] (by decide) rfl) ?_
       refine TH.tk 21 rfl rfl rfl (gD ((1 + tq : Nat) : Int)) (fun w1 hw => hw.pick [0, 2] (by decide) rfl) ?_
       refine TH.tk 22 rfl rfl rfl (gives_build (v := .agg #[.int .i64 x61.v, .int .i64 0, .int .i64 ((n0 : Nat) : Int), .int .i64 ((at0 + (1 + dq) : Nat) : Int), .int .u32 x61.dst, .int .i64 x61.proto, .int .i64 ((f : Nat) : Int), .int .i64 ((1 + tq : Nat) : Int), .bool false, .bool false, .int .i64 0, .int .u32 0, .int .i64 0, .int .i64 0, .int .i64 0, .int .i64 0, .int .i64 0]) rfl rfl (fun w => drebld47_74773 _ _ _ _ _ _ _ _ w)) (fun w1 hw => hw.pick [0, 2] (by decide) rfl) ?_
       refine TH.only' 23 rfl (by kernel_rfl) rfl ?_
       refine TL.pnew rfl rfl rfl (exec_alloc (cs := [.int .i64 0, .int .i64 0, .int .i64 0, .int .i64 0, .int .u32 0, .int .i64 0, .int .i64 0, .int .i64 0, .bool false, .bool false, .int .i64 0, .int .u32 0, .int .i64 0, .int .i64 0, .int .i64 0, .int .i64 0, .int .i64 0]) rfl pcpzv47 rfl) (fun g17 => ?_)
       refine zE ?_
       refine TX.held (fun w1 hw => hw.pick [1, 3] (by decide) rfl) ?_
       refine TH.only' 24 rfl (by kernel_rfl) rfl ?_
       refine TL.pstore (k := 0) (vs := [.int .i64 x61.v, .int .i64 0, .int .i64 ((n0 : Nat) : Int), .int .i64 ((at0 + (1 + dq) : Nat) : Int), .int .u32 x61.dst, .int .i64 x61.proto, .int .i64 ((f : Nat) : Int), .int .i64 ((1 + tq : Nat) : Int), .bool false, .bool false, .int .i64 0, .int .u32 0, .int .i64 0, .int .i64 0, .int .i64 0, .int .i64 0, .int .i64 0]) rfl rfl rfl rfl rfl rfl rfl prssz47 dreone_i64i64i64i64u32i64i64i64bbi64u32i64i64i64i64i64 (by show 17 ≤ 17; decide) rfl ?_
       refine zE ?_
       refine TX.held (fun w1 hw => hw.pick [1, 3] (by decide) rfl) ?_
       refine TH.done (by kernel_rfl) ?_
       exact TX.joined (⟨((g17, n0), tq), by dsimp only; omega, by dsimp only; omega⟩) (⟨rfl, rfl, rfl, rfl, rfl, rfl, rfl, rfl, rfl, rfl, rfl, rfl, trivial⟩) (fun w1 hw => hw)
      ·refine TL.pnew rfl rfl rfl (exec_alloc (cs := [.int .i64 0, .int .i64 0, .int .i64 0, .int .i64 0, .int .u32 0, .int .i64 0, .int .i64 0, .int .i64 0, .bool false, .bool false, .int .i64 0, .int .u32 0, .int .i64 0, .int .i64 0, .int .i64 0, .int .i64 0, .int .i64 0]) rfl pcpzv47 rfl) (fun g17 => ?_)
       refine zE ?_
       refine TX.held (fun w1 hw => hw.pick [1, 3] (by decide) rfl) ?_
       refine TH.only' 20 rfl (by kernel_rfl) rfl ?_
       refine TL.pcallCod (k := 5) (α := {q9 : Nat // q9 ≤ 65535 ∧ (1 ≤ (((p71.l.length + 1 : Nat) : Int) : Int) → (q9 : Int) < ((p71.l.length + 1 : Nat) : Int))}) (fun q9 => .int .i64 ((q9.1 : Nat) : Int)) (fun q9 => []) rfl rfl rfl rfl rfl Tryz.func25 (by decide) rfl rfl (fun w1 hw hC1 => next_cod cb w1 ((p71.l.length + 1 : Nat) : Int) hC1) ?_
       rintro ⟨tq, htq1, htq2⟩
       dsimp only [List.cons_append, List.nil_append]
       refine zE ?_
       refine TX.held (fun w1 hw => hw.pick [1, 3] (by decide) rfl) ?_
       refine TH.tk 21 rfl rfl rfl (gD ((1 + tq : Nat) : Int)) (fun w1 hw => hw.pick [1, 3] (by decide) rfl) ?_
       refine TH.tk 22 rfl rfl rfl (gives_build (v := .agg #[.int .i64 x61.v, .int .i64 0, .int .i64 ((n0 : Nat) : Int), .int .i64 ((at0 + (1 + dq) : Nat) : Int), .int .u32 x61.dst, .int .i64 x61.proto, .int .i64 ((f : Nat) : Int), .int .i64 ((1 + tq : Nat) : Int), .bool false, .bool false, .int .i64 0, .int .u32 0, .int .i64 0, .int .i64 0, .int .i64 0, .int .i64 0, .int .i64 0]) rfl rfl (fun w => drebld47_74773 _ _ _ _ _ _ _ _ w)) (fun w1 hw => hw.pick [1, 3] (by decide) rfl) ?_
       refine TH.only' 24 rfl (by kernel_rfl) rfl ?_
       refine TL.pstore (k := 0) (vs := [.int .i64 x61.v, .int .i64 0, .int .i64 ((n0 : Nat) : Int), .int .i64 ((at0 + (1 + dq) : Nat) : Int), .int .u32 x61.dst, .int .i64 x61.proto, .int .i64 ((f : Nat) : Int), .int .i64 ((1 + tq : Nat) : Int), .bool false, .bool false, .int .i64 0, .int .u32 0, .int .i64 0, .int .i64 0, .int .i64 0, .int .i64 0, .int .i64 0]) rfl rfl rfl rfl rfl rfl rfl prssz47 dreone_i64i64i64i64u32i64i64i64bbi64u32i64i64i64i64i64 (by show 17 ≤ 17; decide) rfl ?_
       refine zE ?_
       refine TX.held (fun w1 hw => hw.pick [1, 3] (by decide) rfl) ?_
       refine TH.done (by kernel_rfl) ?_
       exact TX.joined (⟨((g17, n0), tq), by dsimp only; omega, by dsimp only; omega⟩) (⟨rfl, rfl, rfl, rfl, rfl, rfl, rfl, rfl, rfl, rfl, rfl, rfl, trivial⟩) (fun w1 hw => hw)
     ·refine TC.cut [(0, .pointer (some ⟨cb, 0, none⟩)), (2, .bool stb), (7, .slice (some ⟨g_An, 0, none⟩) ns.length cn), (8, .slice Ar out.length cr), (9, .int .i64 ((at0 + (1 + dq) : Nat) : Int)), (10, .int .i64 ((idn : Nat) : Int)), (11, .pointer (some ⟨g11, 0, none⟩)), (12, .int .i64 ((k : Nat) : Int)), (13, .int .i64 ((ix : Nat) : Int)), (59, .slice (some ⟨g_An, 0, none⟩) ns.length cn), (60, .int .i64 ((ix : Nat) : Int)), (61, .pointer (some ⟨g_An, 0 + ix * 5, none⟩)), (62, .agg (x61.cells).toArray), (14, .pointer (some ⟨g14, 0, none⟩)), (63, .pointer (some ⟨cb, 0, none⟩)), (64, .pointer (some ⟨g14, 3, none⟩)), (65, .slice x61.ps.A x61.ps.l.length x61.ps.c), (66, .int .i64 (x61.ps.l.length : Nat)), (67, .int .i64 ((f : Nat) : Int)), (15, .int .i64 ((f : Nat) : Int)), (68, .pointer (some ⟨g14, 3, none⟩)), (69, .slice x61.ps.A x61.ps.l.length x61.ps.c), (70, .int .i64 ((f : Nat) : Int)), (71, .pointer (some ⟨gx71, 0 + f * 1, none⟩)), (72, .slice p71.A p71.l.length p71.c), (16, .slice p71.A p71.l.length p71.c), (73, .int .i64 ((at0 : Nat) : Int)), (74, .pointer (some ⟨cb, 0, none⟩)), (75, .int .i64 ((dq : Nat) : Int)), (76, .int .i64 ((1 + dq : Nat) : Int)), (77, .int .i64 ((at0 + (1 + dq) : Nat) : Int))] (Pm ⟨w, cb⟩ ([.blk g14 119 x61.cells, .row (.slice Ar out.length cr) 47 17 out.length (flat Rs.cells out), .blk g11 122 [.int .i64 ((n0 : Nat) : Int), .int .i64 ((n1 : Nat) : Int), .int .i64 0, .int .i64 0, .int .i64 0, .int .i64 0, .int .i64 0, .int .i64 0, .int .i64 0, .int .i64 0, .int .i64 0, .int .i64 0, .int .i64 0, .int .i64 0, .int .i64 0, .int .i64 0], .row (.slice (some ⟨g_An, 0, none⟩) ns.length cn) 119 5 ns.length (flat Nt.cells ns2), .abs cb (fun w => Cod w cb)] ++ (netsP P2 ++ oths cb w))) ⟨rfl, rfl, rfl, rfl, rfl, rfl, rfl, rfl, rfl, rfl, rfl, rfl, rfl, rfl, rfl, rfl, rfl, rfl, rfl, rfl, rfl, rfl, rfl, rfl, rfl, rfl, rfl, rfl, rfl, rfl, rfl, trivial⟩ (fun w1 hw => hw) ?_
      refine TC.held (ls := #[Ff,Ff,Ff,Ff,Ff,Ff,Ff,Ff,Ff,Ff,Ff,Ff,Ff,Ff,Ff,Ff,Ff,Ff,Ff,Ff,Ff,Ff,Ff,Ff,Ff]) (Pm ⟨w, cb⟩ [.blk g14 119 x61.cells, .blk g11 122 [.int .i64 ((n0 : Nat) : Int), .int .i64 ((n1 : Nat) : Int), .int .i64 0, .int .i64 0, .int .i64 0, .int .i64 0, .int .i64 0, .int .i64 0, .int .i64 0, .int .i64 0, .int .i64 0, .int .i64 0, .int .i64 0, .int .i64 0, .int .i64 0, .int .i64 0]]) (by kernel_rfl) rfl rfl (fun w hw => hw.drawn _) ?_
      refine TH.tk 0 rfl rfl rfl (gF dntfld119_0) (fun w1 hw => hw.pick [0, 2] (by decide) rfl) ?_
      refine TH.tk 1 rfl rfl rfl (gF pcmfld32_0) (fun w1 hw => hw.pick [0, 2] (by decide) rfl) ?_
      refine TH.tk 2 rfl rfl rfl (gL 0 pcmag3) (fun w1 hw => hw.pick [0, 2] (by decide) rfl) ?_
      refine TH.tk 3 rfl rfl rfl (gF dntfld119_0) (fun w1 hw => hw.pick [0, 2] (by decide) rfl) ?_
      refine TH.tk 4 rfl rfl rfl (gF pcmfld32_0) (fun w1 hw => hw.pick [0, 2] (by decide) rfl) ?_
      refine TH.tk 5 rfl rfl rfl (show Gives _ _ _ _ _ (Value.int .i64 1) from by rw [show (Value.int .i64 1) = .int .i64 x61.v by rw [hv1]]; exact pm_load (k := 0) (i := 0) rfl rfl pcmag3 rfl rfl) (fun w1 hw => hw.pick [0, 2] (by decide) rfl) ?_
      refine TH.tk 6 rfl rfl rfl (gives_at (v := .pointer (some ⟨g11, 1, none⟩)) rfl rfl rfl (fun w => at_arr Tryz.underlying122 pcmsz3 g11 0 _ 1 (by decide) w)) (fun w1 hw => hw.pick [0, 2] (by decide) rfl) ?_
      refine TH.tk 7 rfl rfl rfl (gL 1 pcmag3) (fun w1 hw => hw.pick [0, 2] (by decide) rfl) ?_
      refine TH.tk 8 rfl rfl rfl (gives_move rfl rfl) (fun w1 hw => hw.pick [0, 2] (by decide) rfl) ?_
      refine TH.tk 9 rfl rfl rfl (gF dntfld119_0) (fun w1 hw => hw.pick [0, 2] (by decide) rfl) ?_
      refine TH.tk 10 rfl rfl rfl (gF pcmfld32_1) (fun w1 hw => hw.pick [0, 2] (by decide) rfl) ?_
      refine TH.tk 11 rfl rfl rfl (gL 0 pcmag30) (fun w1 hw => hw.pick [0, 2] (by decide) rfl) ?_
      refine TH.tk 12 rfl rfl rfl (gF dntfld119_0) (fun w1 hw => hw.pick [0, 2] (by decide) rfl) ?_
      refine TH.tk 13 rfl rfl rfl (gF pcmfld32_2) (fun w1 hw => hw.pick [0, 2] (by decide) rfl) ?_
      refine TH.tk 14 rfl rfl rfl (gL 0 pcmag3) (fun w1 hw => hw.pick [0, 2] (by decide) rfl) ?_
      refine TH.tk 15 rfl rfl rfl (gives_move rfl rfl) (fun w1 hw => hw.pick [0, 2] (by decide) rfl) ?_
      refine TH.tk 16 rfl rfl rfl (gives_move rfl rfl) (fun w1 hw => hw.pick [0, 2] (by decide) rfl) ?_
      refine TH.tk 17 rfl rfl rfl (gives_move rfl rfl) (fun w1 hw => hw.pick [0, 2] (by decide) rfl) ?_
      refine TH.tk 18 rfl rfl rfl (gN Tryz.underlying64) (fun w1 hw => hw.pick [0, 2] (by decide) rfl) ?_
      refine TH.tk 19 rfl rfl rfl (gD ((p71.l.length + 1 : Nat) : Int)) (fun w1 hw => hw.pick [0, 2] (by decide) rfl) ?_
      refine TH.two' (listed1 := #[Tt,Tt,Tt,Tt,Tt,Tt,Tt,Tt,Tt,Tt,Tt,Tt,Tt,Tt,Tt,Tt,Tt,Tt,Tt,Tt,Tt,Ff,Ff,Ff,Ff]) (listed2 := #[Tt,Tt,Tt,Tt,Tt,Tt,Tt,Tt,Tt,Tt,Tt,Tt,Tt,Tt,Tt,Tt,Tt,Tt,Tt,Tt,Ff,Ff,Ff,Tt,Ff]) 20 23 rfl rfl (by kernel_rfl) rfl rfl ?_ ?_
      ·refine TL.pcallCod (k := 4) (α := {q9 : Nat // q9 ≤ 65535 ∧ (1 ≤ (((p71.l.length + 1 : Nat) : Int) : Int) → (q9 : Int) < ((p71.l.length + 1 : Nat) : Int))}) (fun q9 => .int .i64 ((q9.1 : Nat) : Int)) (fun q9 => []) rfl rfl rfl rfl rfl Tryz.func25 (by decide) rfl rfl (fun w1 hw hC1 => next_cod cb w1 ((p71.l.length + 1 : Nat) : Int) hC1) ?_
       rintro ⟨tq, htq1, htq2⟩
       dsimp only [List.cons_append, List.nil_append]
       refine zE ?_
       refine TX.held (fun w1 hw => hw.pick [0, 2] (by decide) rfl) ?_
       refine TH.tk 21 rfl rfl rfl (gD ((1 + tq : Nat) : Int)) (fun w1 hw => hw.pick [0, 2] (by decide) rfl) ?_
       refine TH.tk 22 rfl rfl rfl (gives_build (v := .agg #[.int .i64 x61.v, .int .i64 0, .int .i64 ((n1 : Nat) : Int), .int .i64 ((at0 + (1 + dq) : Nat) : Int), .int .u32 x61.dst, .int .i64 x61.proto, .int .i64 ((f : Nat) : Int), .int .i64 ((1 + tq : Nat) : Int), .bool false, .bool false, .int .i64 0, .int .u32 0, .int .i64 0, .int .i64 0, .int .i64 0, .int .i64 0, .int .i64 0]) rfl rfl (fun w => drebld47_74773 _ _ _ _ _ _ _ _ w)) (fun w1 hw => hw.pick [0, 2] (by decide) rfl) ?_
       refine TH.only' 23 rfl (by kernel_rfl) rfl ?_
       refine TL.pnew rfl rfl rfl (exec_alloc (cs := [.int .i64 0, .int .i64 0, .int .i64 0, .int .i64 0, .int .u32 0, .int .i64 0, .int .i64 0, .int .i64 0, .bool false, .bool false, .int .i64 0, .int .u32 0, .int .i64 0, .int .i64 0, .int .i64 0, .int .i64 0, .int .i64 0]) rfl pcpzv47 rfl) (fun g17 => ?_)
       refine zE ?_
       refine TX.held (fun w1 hw => hw.pick [1, 3] (by decide) rfl) ?_
       refine TH.only' 24 rfl (by kernel_rfl) rfl ?_
       refine TL.pstore (k := 0) (vs := [.int .i64 x61.v, .int .i64 0, .int .i64 ((n1 : Nat) : Int), .int .i64 ((at0 + (1 + dq) : Nat) : Int), .int .u32 x61.dst, .int .i64 x61.proto, .int .i64 ((f : Nat) : Int), .int .i64 ((1 + tq : Nat) : Int), .bool false, .bool false, .int .i64 0, .int .u32 0, .int .i64 0, .int .i64 0, .int .i64 0, .int .i64 0, .int .i64 0]) rfl rfl rfl rfl rfl rfl rfl prssz47 dreone_i64i64i64i64u32i64i64i64bbi64u32i64i64i64i64i64 (by show 17 ≤ 17; decide) rfl ?_
       refine zE ?_
       refine TX.held (fun w1 hw => hw.pick [1, 3] (by decide) rfl) ?_
       refine TH.done (by kernel_rfl) ?_
       exact TX.joined (⟨((g17, n1), tq), by dsimp only; omega, by dsimp only; omega⟩) (⟨rfl, rfl, rfl, rfl, rfl, rfl, rfl, rfl, rfl, rfl, rfl, rfl, trivial⟩) (fun w1 hw => hw)
      ·refine TL.pnew rfl rfl rfl (exec_alloc (cs := [.int .i64 0, .int .i64 0, .int .i64 0, .int .i64 0, .int .u32 0, .int .i64 0, .int .i64 0, .int .i64 0, .bool false, .bool false, .int .i64 0, .int .u32 0, .int .i64 0, .int .i64 0, .int .i64 0, .int .i64 0, .int .i64 0]) rfl pcpzv47 rfl) (fun g17 => ?_)
       refine zE ?_
       refine TX.held (fun w1 hw => hw.pick [1, 3] (by decide) rfl) ?_
       refine TH.only' 20 rfl (by kernel_rfl) rfl ?_
       refine TL.pcallCod (k := 5) (α := {q9 : Nat // q9 ≤ 65535 ∧ (1 ≤ (((p71.l.length + 1 : Nat) : Int) : Int) → (q9 : Int) < ((p71.l.length + 1 : Nat) : Int))}) (fun q9 => .int .i64 ((q9.1 : Nat) : Int)) (fun q9 => []) rfl rfl rfl rfl rfl Tryz.func25 (by decide) rfl rfl (fun w1 hw hC1 => next_cod cb w1 ((p71.l.length + 1 : Nat) : Int) hC1) ?_
       rintro ⟨tq, htq1, htq2⟩
       dsimp only [List.cons_append, List.nil_append]
       refine zE ?_
       refine TX.held (fun w1 hw => hw.pick [1, 3] (by decide) rfl) ?_
       refine TH.tk 21 rfl rfl rfl (gD ((1 + tq : Nat) : Int)) (fun w1 hw => hw.pick [1, 3] (by decide) rfl) ?_
       refine TH.tk 22 rfl rfl rfl (gives_build (v := .agg #[.int .i64 x61.v, .int .i64 0, .int .i64 ((n1 : Nat) : Int), .int .i64 ((at0 + (1 + dq) : Nat) : Int), .int .u32 x61.dst, .int .i64 x61.proto, .int .i64 ((f : Nat) : Int), .int .i64 ((1 + tq : Nat) : Int), .bool false, .bool false, .int .i64 0, .int .u32 0, .int .i64 0, .int .i64 0, .int .i64 0, .int .i64 0, .int .i64 0]) rfl rfl (fun w => drebld47_74773 _ _ _ _ _ _ _ _ w)) (fun w1 hw => hw.pick [1, 3] (by decide) rfl) ?_
       refine TH.only' 24 rfl (by kernel_rfl) rfl ?_
       refine TL.pstore (k := 0) (vs := [.int .i64 x61.v, .int .i64 0, .int .i64 ((n1 : Nat) : Int), .int .i64 ((at0 + (1 + dq) : Nat) : Int), .int .u32 x61.dst, .int .i64 x61.proto, .int .i64 ((f : Nat) : Int), .int .i64 ((1 + tq : Nat) : Int), .bool false, .bool false, .int .i64 0, .int .u32 0, .int .i64 0, .int .i64 0, .int .i64 0, .int .i64 0, .int .i64 0]) rfl rfl rfl rfl rfl rfl rfl prssz47 dreone_i64i64i64i64u32i64i64i64bbi64u32i64i64i64i64i64 (by show 17 ≤ 17; decide) rfl ?_
       refine zE ?_
       refine TX.held (fun w1 hw => hw.pick [1, 3] (by decide) rfl) ?_
       refine TH.done (by kernel_rfl) ?_
       exact TX.joined (⟨((g17, n1), tq), by dsimp only; omega, by dsimp only; omega⟩) (⟨rfl, rfl, rfl, rfl, rfl, rfl, rfl, rfl, rfl, rfl, rfl, rfl, trivial⟩) (fun w1 hw => hw)
    ·rintro ⟨⟨⟨gR, num⟩, tq⟩, hnum, htq⟩
     dsimp only at hnum htq ⊢
     refine TC.join (α := {y : Nat × Nat // (x61.v = 0 ∧ y.1 = n0 + 1 ∧ y.2 = n1) ∨ (x61.v = 1 ∧ y.1 = n0 ∧ y.2 = n1 + 1)}) (fun y => [(0, .pointer (some ⟨cb, 0, none⟩)), (2, .bool stb), (7, .slice (some ⟨g_An, 0, none⟩) ns.length cn), (8, .slice Ar out.length cr), (9, .int .i64 ((at0 + (1 + dq) : Nat) : Int)), (10, .int .i64 ((idn : Nat) : Int)), (11, .pointer (some ⟨g11, 0, none⟩)), (12, .int .i64 ((k : Nat) : Int)), (14, .pointer (some ⟨g14, 0, none⟩)), (15, .int .i64 ((f : Nat) : Int)), (16, .slice p71.A p71.l.length p71.c), (17, .pointer (some ⟨gR, 0, none⟩))]) (fun y => Pm ⟨w, cb⟩ ([.blk gR 47 [.int .i64 x61.v, .int .i64 0, .int .i64 ((num : Nat) : Int), .int .i64 ((at0 + (1 + dq) : Nat) : Int), .int .u32 x61.dst, .int .i64 x61.proto, .int .i64 ((f : Nat) : Int), .int .i64 ((1 + tq : Nat) : Int), .bool false, .bool false, .int .i64 0, .int .u32 0, .int .i64 0, .int .i64 0, .int .i64 0, .int .i64 0, .int .i64 0], .blk g14 119 x61.cells, .row (.slice Ar out.length cr) 47 17 out.length (flat Rs.cells out), .blk g11 122 [.int .i64 ((y.1.1 : Nat) : Int), .int .i64 ((y.1.2 : Nat) : Int), .int .i64 0, .int .i64 0, .int .i64 0, .int .i64 0, .int .i64 0, .int .i64 0, .int .i64 0, .int .i64 0, .int .i64 0, .int .i64 0, .int .i64 0, .int .i64 0, .int .i64 0, .int .i64 0], .row (.slice (some ⟨g_An, 0, none⟩) ns.length cn) 119 5 ns.length (flat Nt.cells ns2), .abs cb (fun w => Cod w cb)] ++ (netsP P2 ++ oths cb w))) ?_ ?_
     ·rcases hv61 with hv0 | hv1
      ·refine zG ?_
       refine TL.v (gF dntfld119_0) ?_
       refine TL.v (gF pcmfld32_0) ?_
       refine TL.val rfl rfl rfl (show Gives _ _ _ _ _ (Value.int .i64 0) from by rw [show (Value.int .i64 0) = .int .i64 x61.v by rw [hv0]]; exact pm_load (k := 1) (i := 0) rfl rfl pcmag3 rfl rfl) ?_
       refine TL.val rfl rfl rfl (gives_at (v := .pointer (some ⟨g11, 0, none⟩)) rfl rfl rfl (fun w => at_arr Tryz.underlying122 pcmsz3 g11 0 _ 0 (by decide) w)) ?_
       refine TL.v (gL 3 pcmag3) ?_
       refine TL.v (gD ((n0 + 1 : Nat) : Int)) ?_
       refine TL.val rfl rfl rfl (gives_at (v := .pointer (some ⟨g11, 0, none⟩)) rfl rfl rfl (fun w => at_arr Tryz.underlying122 pcmsz3 g11 0 _ 0 (by decide) w)) ?_
       refine TL.pstore (k := 3) (vs := [.int .i64 ((n0 + 1 : Nat) : Int)]) rfl rfl rfl rfl rfl rfl rfl pcmsz3 dreone_i64 (by show 1 ≤ 16; decide) rfl ?_
       refine zE ?_
       exact TX.joined (⟨(n0 + 1, n1), by dsimp only; omega⟩) (⟨rfl, rfl, rfl, rfl, rfl, rfl, rfl, rfl, rfl, rfl, rfl, rfl, trivial⟩) (fun w1 hw => hw)
      ·refine zG ?_
       refine TL.v (gF dntfld119_0) ?_
       refine TL.v (gF pcmfld32_0) ?_
       refine TL.val rfl rfl rfl (show Gives _ _ _ _ _ (Value.int .i64 1) from by rw [show (Value.int .i64 1) = .int .i64 x61.v by rw [hv1]]; exact pm_load (k := 1) (i := 0) rfl rfl pcmag3 rfl rfl) ?_
       refine TL.val rfl rfl rfl (gives_at (v := .pointer (some ⟨g11, 1, none⟩)) rfl rfl rfl (fun w => at_arr Tryz.underlying122 pcmsz3 g11 0 _ 1 (by decide) w)) ?_
       refine TL.v (gL 3 pcmag3) ?_
       refine TL.v (gD ((n1 + 1 : Nat) : Int)) ?_
       refine TL.val rfl rfl rfl (gives_at (v := .pointer (some ⟨g11, 1, none⟩)) rfl rfl rfl (fun w => at_arr Tryz.underlying122 pcmsz3 g11 0 _ 1 (by decide) w)) ?_
       refine TL.pstore (k := 3) (vs := [.int .i64 ((n1 + 1 : Nat) : Int)]) rfl rfl rfl rfl rfl rfl rfl pcmsz3 dreone_i64 (by show 2 ≤ 16; decide) rfl ?_
       refine zE ?_
       exact TX.joined (⟨(n0, n1 + 1), by dsimp only; omega⟩) (⟨rfl, rfl, rfl, rfl, rfl, rfl, rfl, rfl, rfl, rfl, rfl, rfl, trivial⟩) (fun w1 hw => hw)
     ·rintro ⟨⟨n2, n3⟩, hn23⟩
      dsimp only at hn23 ⊢
      refine zS ?_
      refine TC.held (ls := #[Ff,Ff,Ff,Ff,Ff,Ff,Ff,Ff,Ff,Ff,Ff]) (fun w1 => ∃ b : Int, Pm ⟨w, cb⟩ [.blk gR 47 [.int .i64 x61.v, .int .i64 0, .int .i64 ((num : Nat) : Int), .int .i64 ((at0 + (1 + dq) : Nat) : Int), .int .u32 x61.dst, .int .i64 x61.proto, .int .i64 ((f : Nat) : Int), .int .i64 ((1 + tq : Nat) : Int), .bool false, .bool false, .int .i64 b, .int .u32 0, .int .i64 0, .int .i64 0, .int .i64 0, .int .i64 0, .int .i64 0]] w1) (by kernel_rfl) rfl rfl (fun w hw => hw.drawn _) ?_
      refine TH.tk 0 rfl rfl rfl (gF prsfld47_3) (fun w1 hw => ⟨_, hw.pick [0] (by decide) rfl⟩) ?_
      refine TH.tk 1 rfl rfl rfl (gives_load (v := .int .i64 ((at0 + (1 + dq) : Nat) : Int)) rfl rfl pcmag3 (fun w1 hw => by obtain ⟨b, hw⟩ := hw; exact (hw.cell (k := 0) rfl 3).trans rfl)) (fun w1 hw => ⟨_, hw.pick [0] (by decide) rfl⟩) ?_
      refine TH.tk 2 rfl rfl rfl (gF prsfld47_7) (fun w1 hw => ⟨_, hw.pick [0] (by decide) rfl⟩) ?_
      refine TH.tk 3 rfl rfl rfl (gives_load (v := .int .i64 ((1 + tq : Nat) : Int)) rfl rfl pcmag3 (fun w1 hw => by obtain ⟨b, hw⟩ := hw; exact (hw.cell (k := 0) rfl 7).trans rfl)) (fun w1 hw => ⟨_, hw.pick [0] (by decide) rfl⟩) ?_
      refine TH.tk 4 rfl rfl rfl (gives_bin rfl rfl rfl (fun w => bin_mul_ (r := ((5 * (1 + tq) : Nat) : Int)) (by simp only [IntKind.wrap_i64]; omega) w)) (fun w1 hw => ⟨_, hw.pick [0] (by decide) rfl⟩) ?_
      refine TH.tk 5 rfl rfl rfl (gD ((at0 + (1 + dq) + 5 * (1 + tq) : Nat) : Int)) (fun w1 hw => ⟨_, hw.pick [0] (by decide) rfl⟩) ?_
      refine TH.tk 6 rfl rfl rfl (gives_move rfl rfl) (fun w1 hw => ⟨_, hw.pick [0] (by decide) rfl⟩) ?_
      refine TH.only' 7 rfl (by kernel_rfl) rfl ?_
      refine TL.pcallCod (k := 5) (α := {q9 : Nat // q9 ≤ 65535 ∧ (1 ≤ (4 : Int) → (q9 : Int) < 4)}) (fun q9 => .int .i64 ((q9.1 : Nat) : Int)) (fun q9 => []) rfl rfl rfl rfl rfl Tryz.func25 (by decide) rfl rfl (fun w1 hw hC1 => next_cod cb w1 4 hC1) ?_
      rintro ⟨bq, hbq1, hbq2⟩
      dsimp only [List.cons_append, List.nil_append]
      refine zE ?_
      refine TX.held (fun w1 hw => ⟨_, hw.pick [0] (by decide) rfl⟩) ?_
      refine TH.tk 8 rfl rfl rfl (gD ((at0 + (1 + dq) + 5 * (1 + tq) + bq : Nat) : Int)) (fun w1 hw => ⟨_, hw.pick [0] (by decide) rfl⟩) ?_
      refine TH.tk 9 rfl rfl rfl (gF prsfld47_10) (fun w1 hw => ⟨_, hw.pick [0] (by decide) rfl⟩) ?_
      refine TH.only' 10 rfl (by kernel_rfl) rfl ?_
      refine TL.pstore (k := 0) (vs := [.int .i64 ((at0 + (1 + dq) + 5 * (1 + tq) + bq : Nat) : Int)]) rfl rfl rfl rfl rfl rfl rfl pcmsz3 dreone_i64 (by show 11 ≤ 17; decide) rfl ?_
      refine zE ?_
      refine TX.held (fun w1 hw => ⟨_, hw.pick [0] (by decide) rfl⟩) ?_
      refine TH.done (by kernel_rfl) ?_
      refine zT (zSG ?_)
      refine TL.rn 2 rfl ?_
      refine TL.pcallCod (k := 5) (α := {q9 : Nat // q9 ≤ 65535 ∧ (1 ≤ (5 : Int) → (q9 : Int) < 5)}) (fun q9 => .int .i64 ((q9.1 : Nat) : Int)) (fun q9 => []) rfl rfl rfl rfl rfl Tryz.func25 (by decide) rfl rfl (fun w1 hw hC1 => next_cod cb w1 5 hC1) ?_
      rintro ⟨ec, hec1, hec2⟩
      dsimp only [List.cons_append, List.nil_append]
      refine TL.v (gD ((1 + ec : Nat) : Int)) ?_
      refine TL.v (gD ((idn + (1 + ec) : Nat) : Int)) ?_
      refine TL.as_ ?_
      refine zET (zSG ?_)
      refine TL.v (gF dntfld119_2) ?_
      refine TL.v (gL 1 pcmag30) ?_
      refine TL.as_ ?_
      refine zET ?_
      refine TC.join (α := {a : Int // 0 ≤ a ∧ a ≤ 167774466}) (fun y => [(0, .pointer (some ⟨cb, 0, none⟩)), (2, .bool stb), (7, .slice (some ⟨g_An, 0, none⟩) ns.length cn), (8, .slice Ar out.length cr), (9, .int .i64 ((at0 + (1 + dq) : Nat) : Int)), (10, .int .i64 ((idn + (1 + ec) : Nat) : Int)), (11, .pointer (some ⟨g11, 0, none⟩)), (12, .int .i64 ((k : Nat) : Int)), (16, .slice p71.A p71.l.length p71.c), (17, .pointer (some ⟨gR, 0, none⟩)), (18, .int .u32 y.1)]) (fun y => Pm ⟨w, cb⟩ ([.blk gR 47 [.int .i64 x61.v, .int .i64 0, .int .i64 ((num : Nat) : Int), .int .i64 ((at0 + (1 + dq) : Nat) : Int), .int .u32 x61.dst, .int .i64 x61.proto, .int .i64 ((f : Nat) : Int), .int .i64 ((1 + tq : Nat) : Int), .bool false, .bool false, .int .i64 ((at0 + (1 + dq) + 5 * (1 + tq) + bq : Nat) : Int), .int .u32 0, .int .i64 0, .int .i64 0, .int .i64 0, .int .i64 0, .int .i64 0], .blk g14 119 x61.cells, .row (.slice Ar out.length cr) 47 17 out.length (flat Rs.cells out), .blk g11 122 [.int .i64 ((n2 : Nat) : Int), .int .i64 ((n3 : Nat) : Int), .int .i64 0, .int .i64 0, .int .i64 0, .int .i64 0, .int .i64 0, .int .i64 0, .int .i64 0, .int .i64 0, .int .i64 0, .int .i64 0, .int .i64 0, .int .i64 0, .int .i64 0, .int .i64 0], .row (.slice (some ⟨g_An, 0, none⟩) ns.length cn) 119 5 ns.length (flat Nt.cells ns2), .abs cb (fun w => Cod w cb)] ++ (netsP P2 ++ oths cb w))) ?_ ?_
      ·refine zSG ?_
       refine TL.v (gF prsfld47_7) ?_
       refine TL.v (gL 0 pcmag3) ?_
       refine TL.mv ?_
       refine TL.v (gN Tryz.underlying64) ?_
       refine TL.sp bin_leq (fun q129 => ?_) (fun q129 => ?_)
       ·refine zET (zc (zG ?_))
        refine TL.mv ?_
        refine TL.v (gF prsfld47_7) ?_
        refine TL.v (gL 0 pcmag3) ?_
        refine TL.val rfl rfl rfl (gives_bin rfl rfl rfl (fun w => bin_sub_ (r := ((tq : Nat) : Int)) (by simp only [IntKind.wrap_i64]; omega) w)) ?_
        have hmm134 := nets_mem2 (T := oths cb w) hx61p (List.mem_of_getElem? hp71)
        refine TL.fact (p := ∃ g, p71.A = some ⟨g, 0, none⟩) (fun w1 hw => segA hw (List.mem_of_mem_drop (i := 6) (by exact hmm134)) (by omega)) ?_
        rintro ⟨gx134, hgx134⟩
        obtain ⟨z134, hz134⟩ : ∃ z, p71.l[tq]? = some z := ⟨_, List.getElem?_eq_getElem (by omega)⟩
        refine TL.val rfl rfl rfl (gA (i := tq) Tryz.underlying64 dntsz30 rfl rfl rfl rfl hgx134 (by omega)) ?_
        refine TL.val rfl rfl rfl (gives_load (v := .int .u32 z134) rfl rfl pcmag30 (fun w1 hw => seg_cell (ic_cel .u32) hw (List.mem_of_mem_drop (i := 6) (by exact hmm134)) hgx134 hz134 0 _ rfl)) ?_
        have hz134r := hpw71.2 z134 (List.mem_of_getElem? hz134)
        refine TL.as_ ?_
        refine zE ?_
        exact TX.joined (⟨z134, by omega⟩) (⟨rfl, rfl, rfl, rfl, rfl, rfl, rfl, rfl, rfl, rfl, rfl, trivial⟩) (fun w1 hw => hw)
       ·refine zET (zd (zk ?_))
        exact TX.joined (⟨x61.last, by omega⟩) (⟨rfl, rfl, rfl, rfl, rfl, rfl, rfl, rfl, rfl, rfl, rfl, trivial⟩) (fun w1 hw => hw)
      ·rintro ⟨fa, hfa⟩
       dsimp only at hfa ⊢
       refine TC.join (α := {y : (Bool × Bool) × (Int × Int) × (Int × Int × Int) // AnsP y.1.1 y.1.2 y.2.1.1 y.2.1.2 y.2.2.1 y.2.2.2.1 y.2.2.2.2}) (fun y => [(0, .pointer (some ⟨cb, 0, none⟩)), (2, .bool stb), (7, .slice (some ⟨g_An, 0, none⟩) ns.length cn), (8, .slice Ar out.length cr), (9, .int .i64 ((at0 + (1 + dq) : Nat) : Int)), (10, .int .i64 ((idn + (1 + ec) : Nat) : Int)), (11, .pointer (some ⟨g11, 0, none⟩)), (12, .int .i64 ((k : Nat) : Int)), (16, .slice p71.A p71.l.length p71.c), (17, .pointer (some ⟨gR, 0, none⟩))]) (fun y => Pm ⟨w, cb⟩ ([.blk gR 47 [.int .i64 x61.v, .int .i64 0, .int .i64 ((num : Nat) : Int), .int .i64 ((at0 + (1 + dq) : Nat) : Int), .int .u32 x61.dst, .int .i64 x61.proto, .int .i64 ((f : Nat) : Int), .int .i64 ((1 + tq : Nat) : Int), .bool y.1.1.1, .bool y.1.1.2, .int .i64 ((at0 + (1 + dq) + 5 * (1 + tq) + bq : Nat) : Int), .int .u32 y.1.2.1.1, .int .i64 y.1.2.1.2, .int .i64 0, .int .i64 y.1.2.2.1, .int .i64 y.1.2.2.2.1, .int .i64 y.1.2.2.2.2], .blk g14 119 x61.cells, .row (.slice Ar out.length cr) 47 17 out.length (flat Rs.cells out), .blk g11 122 [.int .i64 ((n2 : Nat) : Int), .int .i64 ((n3 : Nat) : Int), .int .i64 0, .int .i64 0, .int .i64 0, .int .i64 0, .int .i64 0, .int .i64 0, .int .i64 0, .int .i64 0, .int .i64 0, .int .i64 0, .int .i64 0, .int .i64 0, .int .i64 0, .int .i64 0], .row (.slice (some ⟨g_An, 0, none⟩) ns.length cn) 119 5 ns.length (flat Nt.cells ns2), .abs cb (fun w => Cod w cb)] ++ (netsP P2 ++ oths cb w))) ?_ ?_
       ·refine zSG ?_
        refine TL.mv ?_
        refine TL.sp bin_neq (fun q137 => ?_) (fun q137 => ?_)
        ·refine TL.rn 2 rfl ?_
         refine TL.gu ?_
         refine TL.pcallCod (k := 5) (α := Bool) (fun x => .bool x) (fun x => []) rfl rfl rfl rfl rfl Tryz.func13 (by decide) rfl rfl (fun w1 hw hC1 => dbool_cod cb w1 hC1 5 (by decide)) ?_
         rintro b2
         dsimp only [List.cons_append, List.nil_append]
         cases b2 with
         | true =>
          refine TL.rn 2 rfl ?_
          refine zET (zd (zk ?_))
          exact TX.joined (⟨((false, false), (0, 0), (0, 0, 0)), .inl ⟨rfl, rfl, rfl, rfl, rfl, rfl, rfl⟩⟩) (⟨rfl, rfl, rfl, rfl, rfl, rfl, rfl, rfl, rfl, rfl, trivial⟩) (fun w1 hw => hw)
         | false =>
          refine TL.rn 2 rfl ?_
          refine zET (zc (zSG ?_))
          refine TL.mv ?_
          refine TL.pcallCod (k := 5) (α := Bool) (fun x => .bool x) (fun x => []) rfl rfl rfl rfl rfl Tryz.func13 (by decide) rfl rfl (fun w1 hw hC1 => dbool_cod cb w1 hC1 30 (by decide)) ?_
          rintro b3
          dsimp only [List.cons_append, List.nil_append]
          refine TL.v (gF prsfld47_8) ?_
          refine TL.pstore (k := 0) (vs := [.bool true]) rfl rfl rfl rfl rfl rfl rfl dresz4 dreone_b (by show 9 ≤ 17; decide) rfl ?_
          refine TL.v (gF prsfld47_9) ?_
          refine TL.pstore (k := 0) (vs := [.bool b3]) rfl rfl rfl rfl rfl rfl rfl dresz4 dreone_b (by show 10 ≤ 17; decide) rfl ?_
          refine zET (zSG ?_)
          refine TL.rn 2 rfl ?_
          refine TL.val rfl rfl rfl (gives_bin (v := .int .i64 ((((idn + (1 + ec)) % 65536 : Nat) : Nat) : Int)) rfl rfl rfl (fun w => by rw [bin_remk (by omega) (by decide) w]; rfl)) ?_
          refine TL.val rfl rfl rfl (gives_build (v := .agg #[.int .u32 fa, .int .i64 1, .int .i64 0, .int .i64 60, .int .i64 (((idn + (1 + ec)) % 65536 : Nat) : Int), .int .i64 1]) rfl rfl (fun w => drebld45_50928 _ _ _ _ _ w)) ?_
          refine TL.v (gF prsfld47_11) ?_
          refine TL.pstore (k := 0) (vs := [.int .u32 fa, .int .i64 1, .int .i64 0, .int .i64 60, .int .i64 (((idn + (1 + ec)) % 65536 : Nat) : Int), .int .i64 1]) rfl rfl rfl rfl rfl rfl rfl dresz45 dreone_u32i64i64i64i64i64 (by show 17 ≤ 17; decide) rfl ?_
          refine zET (zS (zSG ?_))
          refine TL.v (gF prsfld47_7) ?_
          refine TL.v (gL 0 pcmag3) ?_
          refine TL.mv ?_
          refine TL.v (gN Tryz.underlying64) ?_
          refine TL.sp bin_gtr (fun q156 => ?_) (fun q156 => ?_)
          ·refine zET (zc (zG ?_))
           refine TL.mv ?_
           refine TL.prowS (e := 3) (size := 1) (cs := flat (ic .i64) [3, 3, 2]) rfl rfl rfl rfl rfl (fun w => pcmbs48_3_44640 _ _ _ w) (by decide) rfl (fun g158 => ?_)
           refine TL.pcallCod (k := 6) (α := {v : Int // v ∈ ([3, 3, 2] : List Int)}) (fun x => .int .i64 x.1) (fun x => []) rfl rfl rfl rfl rfl Tryz.func75 (by decide) rfl rfl (fun w1 hw hC1 => pick_cod cb w1 hC1 g158 3 ([3, 3, 2]) (hw.neq (i := 0) (j := 6) rfl rfl (by decide) g158 rfl <| congrArg some ·.symm) (Pc.lt (hw.at_ (k := 0) rfl) g158 rfl).2 (by show 0 < ([3, 3, 2] : List Int).length; simp) (fun i v hi => flat_row1 hw (q := 0) rfl hi)) ?_
           rintro ⟨pk, hpk⟩
           dsimp only [List.cons_append, List.nil_append]
           have hpkb : pk = 3 ∨ pk = 2 := by simp only [List.mem_cons, List.not_mem_nil, or_false] at hpk; omega
           refine TL.v (gF prsfld47_11) ?_
           refine TL.v (gF prsfld45_1) ?_
           refine TL.pstore (k := 1) (vs := [.int .i64 pk]) rfl rfl rfl rfl rfl rfl rfl pcmsz3 dreone_i64 (by show 13 ≤ 17; decide) rfl ?_
           refine zET (zSG ?_)
           refine TL.mv ?_
           refine TL.pcallCod (k := 6) (α := Bool) (fun x => .bool x) (fun x => []) rfl rfl rfl rfl rfl Tryz.func13 (by decide) rfl rfl (fun w1 hw hC1 => dbool_cod cb w1 hC1 5 (by decide)) ?_
           rintro b4
           dsimp only [List.cons_append, List.nil_append]
           refine zET ?_
           refine TC.split (t := b4) rfl (fun c163 => ?_) (fun c163 => ?_)
           ·refine zG ?_
            refine TL.mv ?_
            refine TL.pcallCod (k := 6) (α := {q9 : Nat // q9 ≤ 65535 ∧ (1 ≤ (65536 : Int) → (q9 : Int) < 65536)}) (fun q9 => .int .i64 ((q9.1 : Nat) : Int)) (fun q9 => []) rfl rfl rfl rfl rfl Tryz.func25 (by decide) rfl rfl (fun w1 hw hC1 => next_cod cb w1 65536 hC1) ?_
            rintro ⟨ie0, hie01, hie02⟩
            dsimp only [List.cons_append, List.nil_append]
            refine TL.v (gF prsfld47_11) ?_
            refine TL.v (gF prsfld45_4) ?_
            refine TL.pstore (k := 1) (vs := [.int .i64 ((ie0 : Nat) : Int)]) rfl rfl rfl rfl rfl rfl rfl pcmsz3 dreone_i64 (by show 16 ≤ 17; decide) rfl ?_
            refine zE ?_
            exact TX.joined (⟨((true, b3), (fa, pk), (60, ((ie0 : Nat) : Int), 1)), .inr ⟨rfl, by dsimp only; omega, by dsimp only; omega, by dsimp only; omega, by dsimp only; omega, rfl, by dsimp only; omega, by dsimp only; omega, rfl⟩⟩) (⟨rfl, rfl, rfl, rfl, rfl, rfl, rfl, rfl, rfl, rfl, trivial⟩) (fun w1 hw => hw.sel (.cons _ (.cons_cons _ (.cons_cons _ (.cons_cons _ (.cons_cons _ (.cons_cons _ (.cons_cons _ (List.Sublist.refl _)))))))))
           ·refine zk ?_
            exact TX.joined (⟨((true, b3), (fa, pk), (60, (((idn + (1 + ec)) % 65536 : Nat) : Int), 1)), .inr ⟨rfl, by dsimp only; omega, by dsimp only; omega, by dsimp only; omega, by dsimp only; omega, rfl, by dsimp only; omega, by dsimp only; omega, rfl⟩⟩) (⟨rfl, rfl, rfl, rfl, rfl, rfl, rfl, rfl, rfl, rfl, trivial⟩) (fun w1 hw => hw.sel (.cons _ (.cons_cons _ (.cons_cons _ (.cons_cons _ (.cons_cons _ (.cons_cons _ (.cons_cons _ (List.Sublist.refl _)))))))))
          ·refine zET (zd (zk (zT (zSG ?_))))
           refine TL.mv ?_
           refine TL.pcallCod (k := 5) (α := Bool) (fun x => .bool x) (fun x => []) rfl rfl rfl rfl rfl Tryz.func13 (by decide) rfl rfl (fun w1 hw hC1 => dbool_cod cb w1 hC1 5 (by decide)) ?_
           rintro b4
           dsimp only [List.cons_append, List.nil_append]
           refine zET ?_
           refine TC.split (t := b4) rfl (fun c163 => ?_) (fun c163 => ?_)
           ·refine zG ?_
            refine TL.mv ?_
            refine TL.pcallCod (k := 5) (α := {q9 : Nat // q9 ≤ 65535 ∧ (1 ≤ (65536 : Int) → (q9 : Int) < 65536)}) (fun q9 => .int .i64 ((q9.1 : Nat) : Int)) (fun q9 => []) rfl rfl rfl rfl rfl Tryz.func25 (by decide) rfl rfl (fun w1 hw hC1 => next_cod cb w1 65536 hC1) ?_
            rintro ⟨ie0, hie01, hie02⟩
            dsimp only [List.cons_append, List.nil_append]
            refine TL.v (gF prsfld47_11) ?_
            refine TL.v (gF prsfld45_4) ?_
            refine TL.pstore (k := 0) (vs := [.int .i64 ((ie0 : Nat) : Int)]) rfl rfl rfl rfl rfl rfl rfl pcmsz3 dreone_i64 (by show 16 ≤ 17; decide) rfl ?_
            refine zE ?_
            exact TX.joined (⟨((true, b3), (fa, 1), (60, ((ie0 : Nat) : Int), 1)), .inr ⟨rfl, by dsimp only; omega, by dsimp only; omega, by dsimp only; omega, by dsimp only; omega, rfl, by dsimp only; omega, by dsimp only; omega, rfl⟩⟩) (⟨rfl, rfl, rfl, rfl, rfl, rfl, rfl, rfl, rfl, rfl, trivial⟩) (fun w1 hw => hw)
           ·refine zk ?_
            exact TX.joined (⟨((true, b3), (fa, 1), (60, (((idn + (1 + ec)) % 65536 : Nat) : Int), 1)), .inr ⟨rfl, by dsimp only; omega, by dsimp only; omega, by dsimp only; omega, by dsimp only; omega, rfl, by dsimp only; omega, by dsimp only; omega, rfl⟩⟩) (⟨rfl, rfl, rfl, rfl, rfl, rfl, rfl, rfl, rfl, rfl, trivial⟩) (fun w1 hw => hw)
        ·refine TL.rn 5 rfl ?_
         refine zET (zd (zk ?_))
         exact TX.joined (⟨((false, false), (0, 0), (0, 0, 0)), .inl ⟨rfl, rfl, rfl, rfl, rfl, rfl, rfl⟩⟩) (⟨rfl, rfl, rfl, rfl, rfl, rfl, rfl, rfl, rfl, rfl, trivial⟩) (fun w1 hw => hw)
       ·rintro ⟨⟨⟨an, db⟩, ⟨sr, kd⟩, lf, ie, qu⟩, han⟩
        dsimp only at han ⊢
        refine zS ?_
        have hout2 := hout.snoc hx61t hnum hn23 han (by omega : at0 < at0 + (1 + dq)) (show f ≤ 2 by omega) (show tq ≤ 3 by omega) (show bq ≤ 3 by omega) (by omega)
        refine zG ?_
        refine TL.v (gF prsfld47_10) ?_
        refine TL.v (gL 0 pcmag3) ?_
        refine TL.as_ ?_
        refine zET (zG ?_)
        refine TL.mv ?_
        refine TL.v (gV 0 (.agg #[.int .i64 x61.v, .int .i64 0, .int .i64 ((num : Nat) : Int), .int .i64 ((at0 + (1 + dq) : Nat) : Int), .int .u32 x61.dst, .int .i64 x61.proto, .int .i64 ((f : Nat) : Int), .int .i64 ((1 + tq : Nat) : Int), .bool an, .bool db, .int .i64 ((at0 + (1 + dq) + 5 * (1 + tq) + bq : Nat) : Int), .int .u32 sr, .int .i64 kd, .int .i64 0, .int .i64 lf, .int .i64 ie, .int .i64 qu]) prsag47 prssz47) ?_
        refine TL.prowS (e := 47) (size := 17) (cs := flat Rs.cells [(⟨x61.v, 0, ((num : Nat) : Int), ((at0 + (1 + dq) : Nat) : Int), x61.dst, x61.proto, ((f : Nat) : Int), ((1 + tq : Nat) : Int), an, db, ((at0 + (1 + dq) + 5 * (1 + tq) + bq : Nat) : Int), sr, kd, 0, lf, ie, qu⟩ : Rs)]) rfl rfl rfl rfl rfl (fun w => porbs26_1_99505 _ _ _ _ _ _ _ _ _ _ _ _ _ _ _ _ _ w) (by decide) rfl (fun g172 => ?_)
        refine TL.appendT (k := 3) rfl rfl rfl rfl Tryz.underlying26 porel26 rfl rfl rfl (fun w1 hw => pm_reads hw (k := 0) rfl) (flat_one rs_cel _) (by show _ * 128 ≤ _; omega) ((out ++ [(⟨x61.v, 0, ((num : Nat) : Int), ((at0 + (1 + dq) : Nat) : Int), x61.dst, x61.proto, ((f : Nat) : Int), ((1 + tq : Nat) : Int), an, db, ((at0 + (1 + dq) + 5 * (1 + tq) + bq : Nat) : Int), sr, kd, 0, lf, ie, qu⟩ : Rs)]).length) (by rw [List.length_append]; rfl) (flat Rs.cells (out ++ [(⟨x61.v, 0, ((num : Nat) : Int), ((at0 + (1 + dq) : Nat) : Int), x61.dst, x61.proto, ((f : Nat) : Int), ((1 + tq : Nat) : Int), an, db, ((at0 + (1 + dq) + 5 * (1 + tq) + bq : Nat) : Int), sr, kd, 0, lf, ie, qu⟩ : Rs)])) ((flat_app _ _).symm) (fun A173 c173 hA1731 hA1732 => ?_)
        refine TL.as_ ?_
        refine zE (zN (zT (zG ?_)))
        refine TL.mv ?_
        refine TL.val rfl rfl rfl (gives_bin rfl rfl rfl (fun w => bin_sub_ (r := ((k - 1 : Nat) : Int)) (by simp only [IntKind.wrap_i64]; omega) w)) ?_
        refine TL.as_ ?_
        refine zE ?_
        exact TX.round (⟨(k - 1, at0 + (1 + dq) + 5 * (1 + tq) + bq, idn + (1 + ec), (n2, n3), (A173, c173), out ++ [(⟨x61.v, 0, ((num : Nat) : Int), ((at0 + (1 + dq) : Nat) : Int), x61.dst, x61.proto, ((f : Nat) : Int), ((1 + tq : Nat) : Int), an, db, ((at0 + (1 + dq) + 5 * (1 + tq) + bq : Nat) : Int), sr, kd, 0, lf, ie, qu⟩ : Rs)], ns2, P2), ⟨by dsimp only; rw [List.length_append]; show k - 1 + (out.length + 1) ≤ m; omega, by dsimp only; rw [List.length_append]; show _ ≤ 100 + 100 * (out.length + 1); omega, by dsimp only; rw [List.length_append]; show _ ≤ 70000 + 100 * (out.length + 1); omega⟩, hout2, hns2, by dsimp only; omega, hA1731, hA1732⟩) (by show k - 1 < k; omega) ⟨rfl, rfl, rfl, rfl, rfl, rfl, rfl, rfl, trivial⟩ (fun w1 hw => hw.sel (.cons _ (.cons _ (.cons _ (.cons_cons _ (.cons_cons _ (.cons_cons _ (.cons_cons _ (List.Sublist.refl _)))))))))
  ·refine zET (zd (zx (zX (zX (zM (zT (zSG ?_)))))))
   refine TL.rn 2 rfl ?_
   refine zET (zr ?_)
   exact ret_tmp Tryz.results23 rfl (fun w1 hw => ⟨⟨((Ar, cr), out), hout.ok (by omega), hrc, hrm⟩, rfl, Pm.codr [_] ((hw.sel (.cons_cons _ (.cons _ (.cons _ (.cons_cons _ (List.Sublist.refl _)))))).sel (.cons_cons _ (.cons_cons _ (List.sublist_append_right _ _)))) rfl⟩)
set_option maxRecDepth 20000
def ctrR (a b : Rs) : Bool := usbRs a && usbRs b && a.ans && b.ans && decide (trcR a = trcR b) && decide (a.flow = b.flow) && decide (a.ttl = b.ttl) && decide (a.src ≠ b.src)
def ConL (l : List Rs) : Prop := ∀ (j i : Nat) (x y : Rs), j < i → l[j]? = some x → l[i]? = some y → ctrR x y = false
def ConI (l : List Rs) (n : Nat) : Prop := ∀ (i j : Nat) (x y : Rs), i < n → j < i → l[j]? = some x → l[i]? = some y → ctrR x y = false
theorem conL_of {l : List Rs} {n : Nat} (h : ConI l n) (hn : l.length ≤ n) : ConL l := fun j i x y h1 h2 h3 => h i j x y (Nat.lt_of_lt_of_le (List.getElem?_eq_some_iff.1 h3).1 hn) h1 h2 h3
theorem conI_step {l : List Rs} {i j : Nat} (h : ConI l i) (hj : ∀ (p : Nat) (x y : Rs), p < j → l[p]? = some x → l[i]? = some y → ctrR x y = false) (hij : i ≤ j) : ConI l (i + 1) := fun a b x y h1 h2 h3 h4 => by
 rcases Nat.lt_or_ge a i with h5 | h5
 ·exact h a b x y h5 h2 h3 h4
 ·obtain rfl : a = i := by omega
  exact hj b x y (by omega) h3 h4
theorem conJ_step {l : List Rs} {i j : Nat} {x y : Rs} (h : ∀ (p : Nat) (x y : Rs), p < j → l[p]? = some x → l[i]? = some y → ctrR x y = false) (hx : l[j]? = some x) (hy : l[i]? = some y) (hc : ctrR x y = false) : ∀ (p : Nat) (x y : Rs), p < j + 1 → l[p]? = some x → l[i]? = some y → ctrR x y = false := fun p a b h1 h2 h3 => by
 rcases Nat.lt_or_ge p j with h4 | h4
 ·exact h p a b h4 h2 h3
 ·obtain rfl : p = j := by omega
  rw [hx] at h2; rw [hy] at h3
  cases h2; cases h3
  exact hc
def OneOk (m : Nat) (stb : Bool) (l : List Rs) : Prop := (∀ r ∈ l, DrR r) ∧ AscK Rs.keys l ∧ (∃ t, ∀ r ∈ l, trcR r = t) ∧ l.length ≤ m ∧ l.Pairwise DrOrd ∧ (stb = true → ConL l)
theorem OneOk.nil {m : Nat} {stb : Bool} : OneOk m stb [] := ⟨fun r hr => absurd hr List.not_mem_nil, .nil, ⟨Trc.zero, fun r hr => absurd hr List.not_mem_nil⟩, Nat.zero_le _, .nil, fun _ j i x y _ hx => by cases hx⟩
theorem of_mem {l y : List Rs} {t : Trc} (h : IsOf l t y) {r : Rs} : r ∈ y ↔ (r ∈ l ∧ vldRs r = true) ∧ trcR r = t := by
 obtain ⟨o, h1, rfl⟩ := h
 rw [List.mem_filter, h1.2, decide_eq_true_eq]
theorem of_asc {l y : List Rs} {t : Trc} (h : IsOf l t y) : AscK Rs.keys y := by
 obtain ⟨o, h1, rfl⟩ := h
 exact h1.1.sublist List.filter_sublist
theorem asc_nodup {y : List Rs} (h : AscK Rs.keys y) : y.Nodup := h.imp fun {a b} hab e => by rw [e] at hab; exact ltK_irrefl _ hab
theorem IsOf.len {l y : List Rs} {t : Trc} (h : IsOf l t y) : y.length ≤ l.length := nodup_len (asc_nodup (of_asc h)) fun r hr => ((of_mem h).1 hr).1.1
theorem drawn_asc {m : Nat} {l y : List Rs} (h : DrawnOk m l) (ha : AscK Rs.keys y) (hs : ∀ r ∈ y, r ∈ l) : y.Pairwise DrOrd := by
 refine List.Pairwise.imp_of_mem ?_ ha
 intro a b hma hmb hab
 have key : ∀ x ∈ l, ∀ z ∈ l, x = z ∨ DrOrd x z ∨ DrOrd z x := by
  intro x hx z hz
  obtain ⟨i, hi⟩ := List.getElem?_of_mem hx
  obtain ⟨j, hj⟩ := List.getElem?_of_mem hz
  obtain ⟨i1, i2⟩ := List.getElem?_eq_some_iff.1 hi
  obtain ⟨j1, j2⟩ := List.getElem?_eq_some_iff.1 hj
  rcases Nat.lt_trichotomy i j with h1 | h1 | h1
  ·right; left
   have := List.pairwise_iff_getElem.1 h.2.1 i j i1 j1 h1
   rw [i2, j2] at this; exact this
  ·left
   subst h1; rw [hi] at hj; exact Option.some.inj hj
  ·right; right
   have := List.pairwise_iff_getElem.1 h.2.1 j i j1 i1 h1
   rw [i2, j2] at this; exact this
 rcases key a (hs a hma) b (hs b hmb) with e | e | e
 ·rw [e] at hab; exact absurd hab (ltK_irrefl _)
 ·exact e
 ·exfalso
  have hb := (h.1 b (hs b hmb)).1
  have hr : b.inRange := by
   have : chkR b = 0 := by unfold vldRs at hb; simp only [Bool.and_eq_true, decide_eq_true_eq] at hb; exact hb.1.1
   exact Decidable.by_contra fun h => by have := chk_range h; omega
  obtain ⟨b1, b2, b3, b4, b5, b6, b7, b8, b9, b10, b11, _⟩ := hr
  have h1 : b.at_ < a.at_ := by have := e.1; omega
  have h2 : lexI a.keys b.keys = if cmpI a.at_ b.at_ = 0 then lexI a.keys.tail b.keys.tail else cmpI a.at_ b.at_ := rfl
  have h3 : cmpI a.at_ b.at_ = 1 := by unfold cmpI; rw [if_neg (by omega), if_pos h1]
  rw [h2, h3] at hab
  simp at hab
theorem OneOk.all {m : Nat} {l y : List Rs} {t : Trc} {stb : Bool} (h : DrawnOk m l) (ho : IsOf l t y) (hs : stb = false) : OneOk m stb y :=
 ⟨fun r hr => h.1 r ((of_mem ho).1 hr).1.1, of_asc ho, ⟨t, fun r hr => ((of_mem ho).1 hr).2⟩, Nat.le_trans ho.len h.2.2, drawn_asc h (of_asc ho) (fun r hr => ((of_mem ho).1 hr).1.1), fun e => by rw [hs] at e; cases e⟩
def OneI (m : Nat) (l : List Rs) (t : Trc) (x : List Rs) (i : Nat) (o : List Rs) : Prop := DrawnOk m l ∧ IsOf l t x ∧ o.Sublist (x.take i) ∧ ConL o
theorem OneI.start {m : Nat} {l x : List Rs} {t : Trc} (h : DrawnOk m l) (ho : IsOf l t x) : OneI m l t x 0 [] := ⟨h, ho, List.nil_sublist _, fun j i x y _ hx => by cases hx⟩
theorem OneI.skip {m i : Nat} {l x o : List Rs} {t : Trc} (h : OneI m l t x i o) : OneI m l t x (i + 1) o := ⟨h.1, h.2.1, h.2.2.1.trans (List.take_sublist_take_left (by omega)), h.2.2.2⟩
theorem OneI.snoc {m i : Nat} {l x o : List Rs} {t : Trc} {r : Rs} (h : OneI m l t x i o) (hx : x[i]? = some r) (hc : ConL (o ++ [r])) : OneI m l t x (i + 1) (o ++ [r]) := ⟨h.1, h.2.1, by
 rw [List.take_add_one, hx]
 exact List.Sublist.append h.2.2.1 (List.Sublist.refl _), hc⟩
theorem OneI.done {m i : Nat} {l x o : List Rs} {t : Trc} {stb : Bool} (h : OneI m l t x i o) (hi : x.length ≤ i) : OneOk m stb o := by
 obtain ⟨h1, h2, h3, h4⟩ := h
 rw [List.take_of_length_le hi] at h3
 have h5 : OneOk m false x := OneOk.all h1 h2 rfl
 exact ⟨fun r hr => h5.1 r (h3.subset hr), h5.2.1.sublist h3, ⟨t, fun r hr => ((of_mem h2).1 (h3.subset hr)).2⟩, Nat.le_trans h3.length_le h5.2.2.2.1, h5.2.2.2.2.1.sublist h3, fun _ => h4⟩
section
variable {w0 : Base} {w : World} {L : List Pc}
theorem Pm.start_ {w w' : World} (h : Below w.heap.size w w') : Pm w [] w' := ⟨h, fun q hq => absurd hq List.not_mem_nil, List.Pairwise.nil, others_below h, Nat.le_refl _⟩
end
set_option maxHeartbeats 1000000 in
theorem ctr_any (a b : Rs) (w : World) :
  Calls Tryz.prog 101 #[.agg a.cells.toArray, .agg b.cells.toArray] w fun e w' => e = .returned (.bool (ctrR a b)) ∧ Below w.heap.size w w' := by
 refine begin_ (vs := [.agg a.cells.toArray, .agg b.cells.toArray]) Tryz.func101 rfl rfl rfl ?_ (Pm.start w)
 refine zSG ?_
 refine TL.pnew rfl rfl rfl (exec_box (cs := a.cells) rfl rfl rfl) (fun g2 => ?_)
 refine TL.pnew rfl rfl rfl (exec_box (cs := b.cells) rfl rfl rfl) (fun g3 => ?_)
 refine TL.as_ ?_
 refine zET (zS ?_)
 refine TC.quietP (by kernel_rfl) (by kernel_rfl) (fun w hw => hw.drawn _) ?_
 refine TQ.v (gV 1 (.agg (a.cells).toArray) prsag47 prssz47) ?_
 refine TQ.callsplit rfl rfl rfl rfl rfl Tryz.func29 (by decide) rfl (fun w1 hw => rusbRs_any a w1) (fun h6 => ?_) (fun h6 => ?_)
 ·refine TQ.val rfl rfl rfl (gives_move rfl rfl) ?_
  refine TQ.ov (gV 0 (.agg (b.cells).toArray) prsag47 prssz47) ?_
  refine TQ.on rfl rfl rfl ?_
  refine TQ.callsplit rfl rfl rfl rfl rfl Tryz.func29 (by decide) rfl (fun w1 hw => rusbRs_any b w1) (fun h9 => ?_) (fun h9 => ?_)
  ·refine TQ.rn 2 rfl ?_
   refine TQ.ov (gF prsfld47_8) ?_
   refine TQ.on rfl rfl rfl ?_
   refine TQ.vsplit rfl rfl rfl (gL 1 prsag4) (fun h13 => ?_) (fun h13 => ?_)
   ·refine TQ.rn 2 rfl ?_
    refine TQ.ov (gF prsfld47_8) ?_
    refine TQ.on rfl rfl rfl ?_
    refine TQ.vsplit rfl rfl rfl (gL 0 prsag4) (fun h17 => ?_) (fun h17 => ?_)
    ·refine TQ.rn 2 rfl ?_
     refine TQ.ov (gV 1 (.agg (a.cells).toArray) prsag47 prssz47) ?_
     refine TQ.on rfl rfl rfl ?_
     refine TQ.call (v := .agg ((trcR a).cells).toArray) rfl rfl rfl rfl rfl Tryz.func36 (by decide) rfl (fun w1 hw => (rtrc_any a w1).mono fun en w2 ⟨h1, h2⟩ => ⟨h1, hw.below h2⟩) ?_
     refine TQ.ov (gV 0 (.agg (b.cells).toArray) prsag47 prssz47) ?_
     refine TQ.on rfl rfl rfl ?_
     refine TQ.call (v := .agg ((trcR b).cells).toArray) rfl rfl rfl rfl rfl Tryz.func36 (by decide) rfl (fun w1 hw => (rtrc_any b w1).mono fun en w2 ⟨h1, h2⟩ => ⟨h1, hw.below h2⟩) ?_
     refine TQ.on rfl rfl rfl ?_
     refine TQ.vsplit rfl rfl rfl (gives_bin2 rfl rfl rfl (fun w => trc_eql (trcR a) (trcR b) _ _ w)) (fun h24 => ?_) (fun h24 => ?_)
     ·have q24 := of_decide_eq_true h24
      refine TQ.rn 2 rfl ?_
      refine TQ.ov (gF prsfld47_6) ?_
      refine TQ.ov (gL 1 pcmag3) ?_
      refine TQ.ov (gF prsfld47_6) ?_
      refine TQ.ov (gL 0 pcmag3) ?_
      refine TQ.on rfl rfl rfl ?_
      refine TQ.sp bin_eql (fun q31 => ?_) (fun q31 => ?_)
      ·refine TQ.rn 2 rfl ?_
       refine TQ.ov (gF prsfld47_7) ?_
       refine TQ.ov (gL 1 pcmag3) ?_
       refine TQ.ov (gF prsfld47_7) ?_
       refine TQ.ov (gL 0 pcmag3) ?_
       refine TQ.on rfl rfl rfl ?_
       refine TQ.sp bin_eql (fun q38 => ?_) (fun q38 => ?_)
       ·refine TQ.rn 2 rfl ?_
        refine TQ.ov (gF prsfld47_11) ?_
        refine TQ.ov (gF prsfld45_0) ?_
        refine TQ.ov (gL 1 pcmag30) ?_
        refine TQ.ov (gF prsfld47_11) ?_
        refine TQ.ov (gF prsfld45_0) ?_
        refine TQ.ov (gL 0 pcmag30) ?_
        refine TQ.on rfl rfl rfl ?_
        refine TQ.sp bin_neq (fun q47 => ?_) (fun q47 => ?_)
        ·refine TQ.rn 2 rfl ?_
         refine TQ.fin ?_
         refine zT (zr ?_)
         have hE : (ctrR a b) = true := (by simp [ctrR, h6, h9, h13, h17, q24, q31, q38, q47] <;> first | done | omega)
         exact ret_tmp Tryz.results101 rfl (fun w1 hw => ⟨by rw [hE]; try rfl, hw.bel⟩)
        ·refine TQ.rn 2 rfl ?_
         refine TQ.fin ?_
         refine zT (zr ?_)
         have hE : (ctrR a b) = false := (by simp [ctrR, h6, h9, h13, h17, q24, q31, q38, q47] <;> first | done | omega)
         exact ret_tmp Tryz.results101 rfl (fun w1 hw => ⟨by rw [hE]; try rfl, hw.bel⟩)
       ·refine TQ.rn 11 rfl ?_
        refine TQ.fin ?_
        refine zT (zr ?_)
        have hE : (ctrR a b) = false := (by simp [ctrR, h6, h9, h13, h17, q24, q31, q38] <;> first | done | omega)
        exact ret_tmp Tryz.results101 rfl (fun w1 hw => ⟨by rw [hE]; try rfl, hw.bel⟩)
      ·refine TQ.rn 18 rfl ?_
       refine TQ.fin ?_
       refine zT (zr ?_)
       have hE : (ctrR a b) = false := (by simp [ctrR, h6, h9, h13, h17, q24, q31] <;> first | done | omega)
       exact ret_tmp Tryz.results101 rfl (fun w1 hw => ⟨by rw [hE]; try rfl, hw.bel⟩)
     ·have q24 := of_decide_eq_false h24
      refine TQ.rn 25 rfl ?_
      refine TQ.fin ?_
      refine zT (zr ?_)
      have hE : (ctrR a b) = false := (by simp [ctrR, h6, h9, h13, h17, q24] <;> first | done | omega)
      exact ret_tmp Tryz.results101 rfl (fun w1 hw => ⟨by rw [hE]; try rfl, hw.bel⟩)
    ·refine TQ.rn 32 rfl ?_
     refine TQ.fin ?_
     refine zT (zr ?_)
     have hE : (ctrR a b) = false := (by simp [ctrR, h6, h9, h13, h17] <;> first | done | omega)
     exact ret_tmp Tryz.results101 rfl (fun w1 hw => ⟨by rw [hE]; try rfl, hw.bel⟩)
   ·refine TQ.rn 36 rfl ?_
    refine TQ.fin ?_
    refine zT (zr ?_)
    have hE : (ctrR a b) = false := (by simp [ctrR, h6, h9, h13] <;> first | done | omega)
    exact ret_tmp Tryz.results101 rfl (fun w1 hw => ⟨by rw [hE]; try rfl, hw.bel⟩)
  ·refine TQ.rn 40 rfl ?_
   refine TQ.fin ?_
   refine zT (zr ?_)
   have hE : (ctrR a b) = false := (by simp [ctrR, h6, h9] <;> first | done | omega)
   exact ret_tmp Tryz.results101 rfl (fun w1 hw => ⟨by rw [hE]; try rfl, hw.bel⟩)
 ·refine TQ.rn 43 rfl ?_
  refine TQ.fin ?_
  refine zT (zr ?_)
  have hE : (ctrR a b) = false := (by simp [ctrR, h6] <;> first | done | omega)
  exact ret_tmp Tryz.results101 rfl (fun w1 hw => ⟨by rw [hE]; try rfl, hw.bel⟩)
set_option maxHeartbeats 1000000 in
theorem cons_any (A0 : Option Addr) (c0 : Nat) (l : List Rs) (w : World) (hr : Reads w w.heap.size 17 A0 l.length (flat Rs.cells l)) (hl1 : l.length ≤ 100000) :
  Calls Tryz.prog 57 #[.slice A0 l.length c0] w fun e w' => ∃ x : {b : Bool // b = true → ConL l}, e = .returned (.bool x.1) ∧ Below w.heap.size w w' := by
 refine begin_ (vs := [.slice A0 l.length c0]) Tryz.func57 rfl rfl rfl ?_ (Pm.start w)
 refine zSG ?_
 refine TL.as_ ?_
 refine zET (zS (zSG ?_))
 refine TL.as_ ?_
 refine zET (zB ?_)
 refine TC.loop_ (α := {i : Nat // i ≤ l.length ∧ ConI l i}) (fun y => [(0, .slice A0 l.length c0), (3, .int .i64 ((y.1 : Nat) : Int))]) (fun y => Pm w []) (fun y => l.length - y.1) (⟨0, Nat.zero_le _, fun i j x y h => absurd h (Nat.not_lt_zero _)⟩) ⟨rfl, rfl, trivial⟩ (fun w1 hw => hw) ?_
 rintro ⟨i, hi, hc⟩
 try dsimp only at hi hc ⊢
 refine zS (zSG ?_)
 refine TL.rn 2 rfl ?_
 refine TL.v (gN Tryz.underlying26) ?_
 refine TL.sp bin_lss (fun q8 => ?_) (fun q8 => ?_)
 ·refine zET (zc (zk (zT (zS (zB (zSG ?_))))))
  refine TL.as_ ?_
  refine zET (zB ?_)
  refine TC.loop_ (α := {j : Nat // j ≤ i ∧ ∀ (p : Nat) (x y : Rs), p < j → l[p]? = some x → l[i]? = some y → ctrR x y = false}) (fun y => [(0, .slice A0 l.length c0), (3, .int .i64 ((i : Nat) : Int)), (4, .int .i64 ((y.1 : Nat) : Int))]) (fun y => Pm w []) (fun y => i - y.1) (⟨0, Nat.zero_le _, fun p x y h => absurd h (Nat.not_lt_zero _)⟩) ⟨rfl, rfl, rfl, trivial⟩ (fun w1 hw => hw) ?_
  rintro ⟨j, hji, hj⟩
  try dsimp only at hji hj ⊢
  refine zS (zSG ?_)
  refine TL.rn 2 rfl ?_
  refine TL.sp bin_lss (fun q13 => ?_) (fun q13 => ?_)
  ·refine zET (zc (zk (zT (zS (zB (zS ?_))))))
   refine TC.quietQ (by kernel_rfl) (by kernel_rfl) (fun w hw => hw.drawn _) ?_
   refine TQ.rn 2 rfl ?_
   have hi18 : j < l.length := by omega
   obtain ⟨x18, hx18⟩ := ex_at hi18
   obtain ⟨b18, o18, hA18, hbb18, hc18⟩ := hr.ad (by omega) (by decide)
   refine TQ.val rfl rfl rfl (gA (i := j) Tryz.underlying26 prssz47 rfl rfl rfl rfl hA18 (by omega)) ?_
   refine TQ.v (gR rs_cel prsag47 prssz47 hbb18 hx18 hc18) ?_
   refine TQ.rn 2 rfl ?_
   have hi22 : i < l.length := by omega
   obtain ⟨x22, hx22⟩ := ex_at hi22
   obtain ⟨b22, o22, hA22, hbb22, hc22⟩ := hr.ad (by omega) (by decide)
   refine TQ.val rfl rfl rfl (gA (i := i) Tryz.underlying26 prssz47 rfl rfl rfl rfl hA22 (by omega)) ?_
   refine TQ.v (gR rs_cel prsag47 prssz47 hbb22 hx22 hc22) ?_
   refine TQ.callsplit rfl rfl rfl rfl rfl Tryz.func101 (by decide) rfl (fun w1 hw => ctr_any x18 x22 w1) (fun h24 => ?_) (fun h24 => ?_)
   ·refine TQ.fin ?_
    refine zT (zc (zSG ?_))
    refine TL.as_ ?_
    refine zET (zr (zRR (zR (TX.in_ret (zRR (zR (zRR ?_)))))))
    exact ret_tmp Tryz.results57 rfl (fun w1 hw => ⟨⟨false, fun h => by cases h⟩, rfl, hw.bel⟩)
   ·refine TQ.fin ?_
    refine zT (zd (zk (zN (zT (zG ?_)))))
    refine TL.mv ?_
    refine TL.v (gD ((j + 1 : Nat) : Int)) ?_
    refine TL.as_ ?_
    refine zE ?_
    exact TX.round (⟨j + 1, by omega, conJ_step hj hx18 hx22 h24⟩) (by show i - (j + 1) < i - j; omega) ⟨rfl, rfl, rfl, trivial⟩ (fun w1 hw => hw)
  ·refine zET (zd (zx (zX (zX (zM (zN (zT (zG ?_))))))))
   refine TL.mv ?_
   refine TL.v (gD ((i + 1 : Nat) : Int)) ?_
   refine TL.as_ ?_
   refine zE ?_
   exact TX.round (⟨i + 1, by omega, conI_step hc hj (by omega)⟩) (by show l.length - (i + 1) < l.length - i; omega) ⟨rfl, rfl, trivial⟩ (fun w1 hw => hw)
 ·refine zET (zd (zx (zX (zX (zM (zT (zSG ?_)))))))
  refine TL.as_ ?_
  refine zET (zr ?_)
  exact ret_tmp Tryz.results57 rfl (fun w1 hw => ⟨⟨true, fun _ => conL_of hc (by omega)⟩, rfl, hw.bel⟩)
set_option maxHeartbeats 1000000 in
theorem one_cod (cb : Nat) (w : World) (hC : Cod w cb) (m : Nat) (stb : Bool) (hm : m ≤ 100) :
  Calls Tryz.prog 12 #[.pointer (some ⟨cb, 0, none⟩), .int .i64 ((m : Nat) : Int), .bool stb] w fun e w' => ∃ x : {y : (Option Addr × Nat) × List Rs // OneOk m stb y.2 ∧ y.2.length ≤ y.1.2 ∧ y.1.2 ≤ maxLen}, e = .returned (.slice x.1.1.1 x.1.2.length x.1.1.2) ∧ Codr (fun w => Cod w cb) cb w ([.row (.slice x.1.1.1 x.1.2.length x.1.1.2) 47 17 x.1.2.length (flat Rs.cells x.1.2)]) w' := by
 refine begin_ (vs := [.pointer (some ⟨cb, 0, none⟩), .int .i64 ((m : Nat) : Int), .bool stb]) (I := Pm ⟨w, cb⟩ (.abs cb (fun w => Cod w cb) :: oths cb w)) Tryz.func12 rfl rfl rfl ?_ (Pm.codes hC (cod_cells hC) (cod_stab cb))
 refine zSG ?_
 refine TL.as_ ?_
 refine zET (zSG ?_)
 refine TL.rn 3 rfl ?_
 refine TL.pcallCod (k := 0) (α := {y : (Option Addr × Nat) × List Rs // DrawnOk m y.2 ∧ y.2.length ≤ y.1.2 ∧ y.1.2 ≤ maxLen}) (fun x => .slice x.1.1.1 x.1.2.length x.1.1.2) (fun x => [.row (.slice x.1.1.1 x.1.2.length x.1.1.2) 47 17 x.1.2.length (flat Rs.cells x.1.2)]) rfl rfl rfl rfl rfl Tryz.func23 (by decide) rfl rfl (fun w1 hw hC1 => results_cod cb w1 hC1 m stb (by omega)) ?_
 rintro ⟨⟨⟨Axs, cxs⟩, xs⟩, hxs, hxsc, hxsm⟩
 dsimp only [List.cons_append, List.nil_append]
 dsimp only at hxs hxsc hxsm ⊢
 refine TL.as_ ?_
 refine zET (zS ?_)
 have hxd := hxs
 have hxok : ∀ r ∈ xs, r.Ok := fun r hr => (hxs.1 r hr).2.1
 have hxl := hxs.2.2
 refine zG ?_
 refine TL.mv ?_
 refine TL.pcallPm (α := {y : (Option Addr × Nat) × List Trc // IsTrc xs y.2 ∧ y.2.length ≤ y.1.2 ∧ y.1.2 ≤ maxLen}) (fun x => .slice x.1.1.1 x.1.2.length x.1.1.2) (fun x => [.row (.slice x.1.1.1 x.1.2.length x.1.1.2) 32 3 x.1.2.length (flat Trc.cells x.1.2)]) rfl rfl rfl rfl rfl Tryz.func38 (by decide) rfl (fun w1 hw => rtrs_any Axs cxs xs w1 (pm_rd hw (k := 0) rfl) (by omega) hxok) ?_
 rintro ⟨⟨⟨R17, rc17⟩, tr17⟩, hP17, hR171, hR172⟩
 dsimp only [List.cons_append, List.nil_append]
 dsimp only at hP17 hR171 hR172 ⊢
 refine TL.as_ ?_
 refine zET (zS (zSG ?_))
 refine TL.mv ?_
 refine TL.v (gN Tryz.underlying73) ?_
 refine TL.sp bin_eql (fun q20 => ?_) (fun q20 => ?_)
 ·refine zET (zc (zSG ?_))
  refine TL.as_ ?_
  refine zET (zr (zR ?_))
  refine TX.nilrow 47 17 ?_
  exact ret_tmp Tryz.results12 rfl (fun w1 hw => ⟨⟨((none, 0), []), OneOk.nil, Nat.le_refl _, Nat.zero_le _⟩, rfl, Pm.codr [_] (hw.sel (.cons_cons _ (.cons _ (.cons _ (.cons_cons _ (List.Sublist.refl _)))))) rfl⟩)
 ·refine zET (zd (zk (zT (zSG ?_))))
  refine TL.rn 4 rfl ?_
  refine TL.v (gN Tryz.underlying73) ?_
  refine TL.pcallCod (k := 2) (α := {q9 : Nat // q9 ≤ 65535 ∧ (1 ≤ ((tr17.length : Nat) : Int) → (q9 : Int) < (tr17.length : Nat))}) (fun q9 => .int .i64 ((q9.1 : Nat) : Int)) (fun q9 => []) rfl rfl rfl rfl rfl Tryz.func25 (by decide) rfl rfl (fun w1 hw hC1 => next_cod cb w1 (tr17.length : Nat) hC1) ?_
  rintro ⟨ti, hti1, hti2⟩
  dsimp only [List.cons_append, List.nil_append]
  refine TL.fact (p := ∃ g, R17 = some ⟨g, 0, none⟩) (fun w1 hw => rowA hw (k := 0) rfl (by omega)) ?_
  rintro ⟨g_R17, rfl⟩
  have hi27 : ti < tr17.length := by omega
  obtain ⟨x27, hx27⟩ := ex_at hi27
  refine TL.val rfl rfl rfl (gA (i := ti) Tryz.underlying73 prssz32 rfl rfl rfl rfl rfl (by omega)) ?_
  refine TL.val rfl rfl rfl (gives_loadR (off := 0 + ti * 3) rfl rfl pcpag32 prssz32 (trc_cel.len x27) (fun w1 hw j9 u9 h9 => flat_row trc_cel hw (q := 0) rfl hx27 j9 u9 h9)) ?_
  refine TL.pcallPm (α := {y : (Option Addr × Nat) × List Rs // IsOf xs x27 y.2 ∧ y.2.length ≤ y.1.2 ∧ y.1.2 ≤ maxLen}) (fun x => .slice x.1.1.1 x.1.2.length x.1.1.2) (fun x => [.row (.slice x.1.1.1 x.1.2.length x.1.1.2) 47 17 x.1.2.length (flat Rs.cells x.1.2)]) rfl rfl rfl rfl rfl Tryz.func43 (by decide) rfl (fun w1 hw => rof_any Axs cxs xs x27 w1 (pm_rd hw (k := 1) rfl) (by omega) hxok) ?_
  rintro ⟨⟨⟨R29, rc29⟩, ox29⟩, hP29, hR291, hR292⟩
  dsimp only [List.cons_append, List.nil_append]
  dsimp only at hP29 hR291 hR292 ⊢
  refine TL.as_ ?_
  refine zET (zS (zSG ?_))
  refine TL.mv ?_
  cases stb with
  | true =>
   refine TL.val rfl rfl rfl (gives_boolnot rfl rfl) ?_
   refine zET (zd (zk (zT (zSG ?_))))
   refine TL.as_ ?_
   refine zET (zS (zSG ?_))
   refine TL.as_ ?_
   refine zET (zB ?_)
   refine TC.nilrow 47 17 ?_
   refine TC.loop_ (α := {y : Nat × (Option Addr × Nat) × List Rs // y.1 ≤ ox29.length ∧ (OneI m xs x27 ox29 y.1 y.2.2) ∧ y.2.2.length ≤ y.1 ∧ y.2.2.length ≤ y.2.1.2 ∧ y.2.1.2 ≤ maxLen}) (fun y => [(0, .pointer (some ⟨cb, 0, none⟩)), (9, .slice R29 ox29.length rc29), (11, .int .i64 ((y.1.1 : Nat) : Int)), (10, .slice y.1.2.1.1 y.1.2.2.length y.1.2.1.2)]) (fun y => Pm ⟨w, cb⟩ ([.row (.slice y.1.2.1.1 y.1.2.2.length y.1.2.1.2) 47 17 y.1.2.2.length (flat Rs.cells y.1.2.2), .row (.slice R29 ox29.length rc29) 47 17 ox29.length (flat Rs.cells ox29), .row (.slice (some ⟨g_R17, 0, none⟩) tr17.length rc17) 32 3 tr17.length (flat Trc.cells tr17), .row (.slice Axs xs.length cxs) 47 17 xs.length (flat Rs.cells xs), .abs cb (fun w => Cod w cb)] ++ oths cb w)) (fun y => ox29.length - y.1.1) (⟨(0, (none, 0), []), Nat.zero_le _, OneI.start hxd hP29, Nat.le_refl _, Nat.le_refl _, Nat.zero_le _⟩) ⟨rfl, rfl, rfl, rfl, trivial⟩ (fun w1 hw => hw) ?_
   rintro ⟨⟨i, ⟨Ao, co⟩, out⟩, hi, hout, houtl, houtc, houtm⟩
   dsimp only at hi hout houtl houtc houtm ⊢
   refine zS (zS ?_)
   have hol : ox29.length ≤ xs.length := hP29.len
   refine zG ?_
   refine TL.rn 2 rfl ?_
   refine TL.v (gN Tryz.underlying26) ?_
   refine TL.sp bin_lss (fun q36 => ?_) (fun q36 => ?_)
   ·refine zET (zc (zk (zT (zS (zB (zS ?_))))))
    refine TC.fact (p := ∃ g, R29 = some ⟨g, 0, none⟩) (fun w1 hw => rowA hw (k := 1) rfl (by omega)) ?_
    rintro ⟨g_R29, rfl⟩
    refine TC.held (ls := #[Ff,Ff,Ff,Ff,Ff,Ff,Ff,Ff,Ff]) (Pm ⟨w, cb⟩ [.row (.slice (some ⟨g_R29, 0, none⟩) ox29.length rc29) 47 17 ox29.length (flat Rs.cells ox29)]) (by kernel_rfl) rfl rfl (fun w hw => hw.drawn _) ?_
    refine TH.tk 0 rfl rfl rfl (gives_move rfl rfl) (fun w1 hw => hw.pick [1] (by decide) rfl) ?_
    refine TH.tk 2 rfl rfl rfl (gives_move rfl rfl) (fun w1 hw => hw.pick [1] (by decide) rfl) ?_
    refine TH.tk 3 rfl rfl rfl (gives_move rfl rfl) (fun w1 hw => hw.pick [1] (by decide) rfl) ?_
    have hi43 : i < ox29.length := by omega
    obtain ⟨x43, hx43⟩ := ex_at hi43
    refine TH.tk 4 rfl rfl rfl (gA (i := i) Tryz.underlying26 prssz47 rfl rfl rfl rfl rfl (by omega)) (fun w1 hw => hw.pick [1] (by decide) rfl) ?_
    refine TH.tk 5 rfl rfl rfl (gives_loadR (off := 0 + i * 17) rfl rfl prsag47 prssz47 (rs_cel.len x43) (fun w1 hw j9 u9 h9 => flat_row rs_cel hw (q := 0) rfl hx43 j9 u9 h9)) (fun w1 hw => hw.pick [1] (by decide) rfl) ?_
    refine TH.two' (listed1 := #[Tt,Tt,Tt,Tt,Tt,Tt,Ff,Ff,Ff]) (listed2 := #[Tt,Ff,Tt,Tt,Tt,Tt,Tt,Ff,Ff]) 1 6 rfl rfl (by kernel_rfl) rfl rfl ?_ ?_
    ·refine TL.nilrow 47 17 ?_
     refine TL.appendT (k := 0) rfl rfl rfl rfl Tryz.underlying26 porel26 rfl rfl rfl (fun w1 hw => pm_reads hw (k := 1) rfl) (flat_one rs_cel _) (by show _ * 128 ≤ _; omega) (out.length) (by simp) (flat Rs.cells out) (rfl) (fun A40 c40 hA401 hA402 => ?_)
     refine zE ?_
     refine TX.held (fun w1 hw => hw.pick [2] (by decide) rfl) ?_
     refine TH.only' 6 rfl (by kernel_rfl) rfl ?_
     refine TL.prowS (e := 47) (size := 17) (cs := flat Rs.cells [x43]) rfl rfl rfl rfl rfl (fun w => porbs26_1_99505 _ _ _ _ _ _ _ _ _ _ _ _ _ _ _ _ _ w) (by decide) rfl (fun g45 => ?_)
     refine zE ?_
     refine TX.held (fun w1 hw => hw.pick [3] (by decide) rfl) ?_
     refine TH.only' 7 rfl (by kernel_rfl) rfl ?_
     refine TL.appendT (k := 1) rfl rfl rfl rfl Tryz.underlying26 porel26 rfl rfl rfl (fun w1 hw => pm_reads hw (k := 0) rfl) (flat_one rs_cel _) (by show _ * 128 ≤ _; omega) ((out ++ [x43]).length) (by rw [List.length_append]; rfl) (flat Rs.cells (out ++ [x43])) ((flat_app _ _).symm) (fun A46 c46 hA461 hA462 => ?_)
     refine zE ?_
     refine TX.held (fun w1 hw => hw.pick [3] (by decide) rfl) ?_
     refine TH.only' 8 rfl (by kernel_rfl) rfl ?_
     refine TL.pcallPm (α := {b : Bool // b = true → ConL (out ++ [x43])}) (fun x => .bool x.1) (fun _ => []) rfl rfl rfl rfl rfl Tryz.func57 (by decide) rfl (fun w1 hw => (cons_any A46 c46 (out ++ [x43]) w1 (pm_rd hw (k := 1) rfl) (by rw [List.length_append]; show _ + 1 ≤ _; omega)).mono fun e w2 ⟨x, h1, h2⟩ => ⟨x, h1, Pm.start_ h2⟩) ?_
     rintro ⟨bc, hbc⟩
     dsimp only [List.nil_append]
     refine zE ?_
     refine TX.held (fun w1 hw => hw.pick [3] (by decide) rfl) ?_
     refine TH.done (by kernel_rfl) ?_
     refine zT ?_
     refine TC.split (t := bc) rfl (fun c47 => ?_) (fun c47 => ?_)
     ·refine zG ?_
      refine TL.rn 3 rfl ?_
      refine TL.val rfl rfl rfl (gA (i := i) Tryz.underlying26 prssz47 rfl rfl rfl rfl rfl (by omega)) ?_
      refine TL.val rfl rfl rfl (gives_loadR (off := 0 + i * 17) rfl rfl prsag47 prssz47 (rs_cel.len x43) (fun w1 hw j9 u9 h9 => flat_row rs_cel hw (q := 3) rfl hx43 j9 u9 h9)) ?_
      refine TL.prowS (e := 47) (size := 17) (cs := flat Rs.cells [x43]) rfl rfl rfl rfl rfl (fun w => porbs26_1_99505 _ _ _ _ _ _ _ _ _ _ _ _ _ _ _ _ _ w) (by decide) rfl (fun g53 => ?_)
      refine TL.appendT (k := 3) rfl rfl rfl rfl Tryz.underlying26 porel26 rfl rfl rfl (fun w1 hw => pm_reads hw (k := 0) rfl) (flat_one rs_cel _) (by show _ * 128 ≤ _; omega) ((out ++ [x43]).length) (by rw [List.length_append]; rfl) (flat Rs.cells (out ++ [x43])) ((flat_app _ _).symm) (fun A54 c54 hA541 hA542 => ?_)
      refine TL.as_ ?_
      refine zE (zN (zT (zG ?_)))
      refine TL.mv ?_
      refine TL.v (gD ((i + 1 : Nat) : Int)) ?_
      refine TL.as_ ?_
      refine zE ?_
      exact TX.round (⟨(i + 1, (A54, c54), out ++ [x43]), by dsimp only; omega, hout.snoc hx43 (hbc c47), by dsimp only; rw [List.length_append]; show out.length + 1 ≤ _; omega, hA541, hA542⟩) (by show ox29.length - (i + 1) < ox29.length - i; omega) ⟨rfl, rfl, rfl, rfl, trivial⟩ (fun w1 hw => hw.sel (.cons _ (.cons _ (.cons _ (.cons_cons _ (.cons_cons _ (.cons_cons _ (.cons_cons _ (.cons_cons _ (List.Sublist.refl _))))))))))
     ·refine zk (zN (zT (zG ?_)))
      refine TL.mv ?_
      refine TL.v (gD ((i + 1 : Nat) : Int)) ?_
      refine TL.as_ ?_
      refine zE ?_
      exact TX.round (⟨(i + 1, (Ao, co), out), by dsimp only; omega, hout.skip, by dsimp only; omega, houtc, houtm⟩) (by show ox29.length - (i + 1) < ox29.length - i; omega) ⟨rfl, rfl, rfl, rfl, trivial⟩ (fun w1 hw => hw.sel (.cons _ (.cons _ (.cons_cons _ (.cons_cons _ (.cons_cons _ (.cons_cons _ (.cons_cons _ (List.Sublist.refl _)))))))))
    ·refine TL.prowS (e := 47) (size := 17) (cs := flat Rs.cells [x43]) rfl rfl rfl rfl rfl (fun w => porbs26_1_99505 _ _ _ _ _ _ _ _ _ _ _ _ _ _ _ _ _ w) (by decide) rfl (fun g45 => ?_)
     refine zE ?_
     refine TX.held (fun w1 hw => hw.pick [2] (by decide) rfl) ?_
     refine TH.only' 1 rfl (by kernel_rfl) rfl ?_
     refine TL.nilrow 47 17 ?_
     refine TL.appendT (k := 0) rfl rfl rfl rfl Tryz.underlying26 porel26 rfl rfl rfl (fun w1 hw => pm_reads hw (k := 2) rfl) (flat_one rs_cel _) (by show _ * 128 ≤ _; omega) (out.length) (by simp) (flat Rs.cells out) (rfl) (fun A40 c40 hA401 hA402 => ?_)
     refine zE ?_
     refine TX.held (fun w1 hw => hw.pick [3] (by decide) rfl) ?_
     refine TH.only' 7 rfl (by kernel_rfl) rfl ?_
     refine TL.appendT (k := 0) rfl rfl rfl rfl Tryz.underlying26 porel26 rfl rfl rfl (fun w1 hw => pm_reads hw (k := 1) rfl) (flat_one rs_cel _) (by show _ * 128 ≤ _; omega) ((out ++ [x43]).length) (by rw [List.length_append]; rfl) (flat Rs.cells (out ++ [x43])) ((flat_app _ _).symm) (fun A46 c46 hA461 hA462 => ?_)
     refine zE ?_
     refine TX.held (fun w1 hw => hw.pick [3] (by decide) rfl) ?_
     refine TH.only' 8 rfl (by kernel_rfl) rfl ?_
     refine TL.pcallPm (α := {b : Bool // b = true → ConL (out ++ [x43])}) (fun x => .bool x.1) (fun _ => []) rfl rfl rfl rfl rfl Tryz.func57 (by decide) rfl (fun w1 hw => (cons_any A46 c46 (out ++ [x43]) w1 (pm_rd hw (k := 0) rfl) (by rw [List.length_append]; show _ + 1 ≤ _; omega)).mono fun e w2 ⟨x, h1, h2⟩ => ⟨x, h1, Pm.start_ h2⟩) ?_
     rintro ⟨bc, hbc⟩
     dsimp only [List.nil_append]
     refine zE ?_
     refine TX.held (fun w1 hw => hw.pick [3] (by decide) rfl) ?_
     refine TH.done (by kernel_rfl) ?_
     refine zT ?_
     refine TC.split (t := bc) rfl (fun c47 => ?_) (fun c47 => ?_)
     ·refine zG ?_
      refine TL.rn 3 rfl ?_
      refine TL.val rfl rfl rfl (gA (i := i) Tryz.underlying26 prssz47 rfl rfl rfl rfl rfl (by omega)) ?_
      refine TL.val rfl rfl rfl (gives_loadR (off := 0 + i * 17) rfl rfl prsag47 prssz47 (rs_cel.len x43) (fun w1 hw j9 u9 h9 => flat_row rs_cel hw (q := 3) rfl hx43 j9 u9 h9)) ?_
      refine TL.prowS (e := 47) (size := 17) (cs := flat Rs.cells [x43]) rfl rfl rfl rfl rfl (fun w => porbs26_1_99505 _ _ _ _ _ _ _ _ _ _ _ _ _ _ _ _ _ w) (by decide) rfl (fun g53 => ?_)
      refine TL.appendT (k := 3) rfl rfl rfl rfl Tryz.underlying26 porel26 rfl rfl rfl (fun w1 hw => pm_reads hw (k := 0) rfl) (flat_one rs_cel _) (by show _ * 128 ≤ _; omega) ((out ++ [x43]).length) (by rw [List.length_append]; rfl) (flat Rs.cells (out ++ [x43])) ((flat_app _ _).symm) (fun A54 c54 hA541 hA542 => ?_)
      refine TL.as_ ?_
      refine zE (zN (zT (zG ?_)))
      refine TL.mv ?_
      refine TL.v (gD ((i + 1 : Nat) : Int)) ?_
      refine TL.as_ ?_
      refine zE ?_
      exact TX.round (⟨(i + 1, (A54, c54), out ++ [x43]), by dsimp only; omega, hout.snoc hx43 (hbc c47), by dsimp only; rw [List.length_append]; show out.length + 1 ≤ _; omega, hA541, hA542⟩) (by show ox29.length - (i + 1) < ox29.length - i; omega) ⟨rfl, rfl, rfl, rfl, trivial⟩ (fun w1 hw => hw.sel (.cons _ (.cons _ (.cons _ (.cons_cons _ (.cons_cons _ (.cons_cons _ (.cons_cons _ (.cons_cons _ (List.Sublist.refl _))))))))))
     ·refine zk (zN (zT (zG ?_)))
      refine TL.mv ?_
      refine TL.v (gD ((i + 1 : Nat) : Int)) ?_
      refine TL.as_ ?_
      refine zE ?_
      exact TX.round (⟨(i + 1, (Ao, co), out), by dsimp only; omega, hout.skip, by dsimp only; omega, houtc, houtm⟩) (by show ox29.length - (i + 1) < ox29.length - i; omega) ⟨rfl, rfl, rfl, rfl, trivial⟩ (fun w1 hw => hw.sel (.cons _ (.cons _ (.cons_cons _ (.cons_cons _ (.cons_cons _ (.cons_cons _ (.cons_cons _ (List.Sublist.refl _)))))))))
   ·refine zET (zd (zx (zX (zX (zM (zT (zSG ?_)))))))
    refine TL.rn 2 rfl ?_
    refine zET (zr ?_)
    exact ret_tmp Tryz.results12 rfl (fun w1 hw => ⟨⟨((Ao, co), out), hout.done (by omega), houtc, houtm⟩, rfl, Pm.codr [_] (hw.sel (.cons_cons _ (.cons _ (.cons _ (.cons _ (.cons_cons _ (List.Sublist.refl _))))))) rfl⟩)
  | false =>
   refine TL.val rfl rfl rfl (gives_boolnot rfl rfl) ?_
   refine zET (zc (zSG ?_))
   refine TL.rn 2 rfl ?_
   refine zET (zr (zR ?_))
   exact ret_tmp Tryz.results12 rfl (fun w1 hw => ⟨⟨((R29, rc29), ox29), OneOk.all hxd hP29 rfl, hR291, hR292⟩, rfl, Pm.codr [_] (hw.sel (.cons_cons _ (.cons _ (.cons _ (.cons_cons _ (List.Sublist.refl _)))))) rfl⟩)
set_option maxRecDepth 20000
def ShufOk (l o : List Rs) : Prop := (∀ r, r ∈ o ↔ r ∈ l) ∧ o.length ≤ 2 * l.length
theorem ShufOk.nil {l : List Rs} : ShufOk (l.take 0) [] := ⟨fun r => by rw [List.take_zero], Nat.zero_le _⟩
def mxn (W : Int → Nat) (b : Int) : Nat → Nat
  | 0 => 0
  | n + 1 => max (mxn W b n) (W (b + n + 1))
def IsD (W : Int → Nat) (d : Dm) : Prop := ∃ n : Nat, 0 < n ∧ W d.frm = 1 ∧ d.to_ = d.frm + n + 1 ∧ (∀ j : Nat, 1 ≤ j → j ≤ n → 1 < W (d.frm + j)) ∧ W d.to_ = 1 ∧ d.wid = mxn W d.frm n
def IsDm (W : Int → Nat) (ds : List Dm) : Prop := ds.Pairwise (fun x y => x.frm < y.frm) ∧ ∀ d, d ∈ ds ↔ IsD W d
theorem pair_eq {ds ds' : List Dm} (h : ds.Pairwise fun x y => x.frm < y.frm) (h' : ds'.Pairwise fun x y => x.frm < y.frm) (hm : ∀ d, d ∈ ds ↔ d ∈ ds') : ds = ds' := by
  induction ds generalizing ds' with
  | nil =>
    cases ds' with
    | nil => rfl
    | cons y t => exact absurd ((hm y).2 List.mem_cons_self) List.not_mem_nil
  | cons x t ih =>
    cases ds' with
    | nil => exact absurd ((hm x).1 List.mem_cons_self) List.not_mem_nil
    | cons y t' =>
      obtain ⟨h1, h2⟩ := List.pairwise_cons.1 h
      obtain ⟨h3, h4⟩ := List.pairwise_cons.1 h'
      have e : x = y := by
        rcases List.mem_cons.1 ((hm x).1 List.mem_cons_self) with e | e
        · exact e
        · rcases List.mem_cons.1 ((hm y).2 List.mem_cons_self) with e2 | e2
          · exact e2.symm
          · have := h1 y e2; have := h3 x e; omega
      subst e
      rw [ih h2 h4 fun d => ?_]
      constructor
      · intro hd
        rcases List.mem_cons.1 ((hm d).1 (List.mem_cons_of_mem _ hd)) with e | e
        · subst e; have := h1 d hd; omega
        · exact e
      · intro hd
        rcases List.mem_cons.1 ((hm d).2 (List.mem_cons_of_mem _ hd)) with e | e
        · subst e; have := h3 d hd; omega
        · exact e
theorem IsDm.eq {W : Int → Nat} {ds ds' : List Dm} (h : IsDm W ds) (h' : IsDm W ds') : ds = ds' := pair_eq h.1 h'.1 fun d => by rw [h.2, h'.2]
theorem mxn_pos {W : Int → Nat} {b : Int} {n : Nat} (h : ∀ j : Nat, 1 ≤ j → j ≤ n → 1 < W (b + j)) : 1 < mxn W b n ↔ 0 < n := by
  cases n with
  | zero => simp [mxn]
  | succ n =>
    have := h (n + 1) (by omega) (by omega)
    have e : b + ((n + 1 : Nat) : Int) = b + n + 1 := by omega
    rw [e] at this
    simp only [mxn]; omega
theorem isD_to {W : Int → Nat} {d : Dm} {b : Int} {n : Nat} (hd : IsD W d) (hw : ∀ j : Nat, 1 ≤ j → j ≤ n → 1 < W (b + j)) (hb : W b ≤ 1) (ht : d.to_ = b + n + 1) : d.frm = b ∧ W b = 1 ∧ 0 < n ∧ d.wid = mxn W b n := by
  obtain ⟨m, h0, h1, h2, h3, h4, h5⟩ := hd
  have hmn : m = n := by
    rcases Nat.lt_trichotomy m n with h | h | h
    · have := hw (n - m) (by omega) (by omega)
      have e : b + ((n - m : Nat) : Int) = d.frm := by omega
      rw [e] at this; omega
    · exact h
    · have := h3 (m - n) (by omega) (by omega)
      have e : d.frm + ((m - n : Nat) : Int) = b := by omega
      rw [e] at this; omega
  subst hmn
  obtain e : d.frm = b := by omega
  rw [e] at h1 h5
  exact ⟨e, h1, h0, h5⟩
structure DmI (W : Int → Nat) (T : List Int) (i : Nat) (f : Int) (wd : Nat) (out : List Dm) : Prop where
  mem : ∀ d, d ∈ out ↔ IsD W d ∧ d.to_ ∈ T.take i
  asc : out.Pairwise fun x y => x.frm < y.frm
  zero : i = 0 → f = -1
  top : 0 < i → ∃ (b : Int) (n : Nat), T[i - 1]? = some (b + n) ∧ (∀ j : Nat, 1 ≤ j → j ≤ n → 1 < W (b + j)) ∧ ((f = -1 ∧ W b = 0) ∨ ∃ k : Nat, f = (k : Int) ∧ k < i ∧ T[k]? = some b ∧ W b = 1 ∧ wd = mxn W b n)
def DmJ (W : Int → Nat) (T : List Int) (i : Nat) (f : Int) (wd : Nat) (t : Int) : Prop := ∃ (b : Int) (n : Nat), t = b + n + 1 ∧ (∀ j : Nat, 1 ≤ j → j ≤ n → 1 < W (b + j)) ∧ ((f = -1 ∧ W b = 0) ∨ ∃ k : Nat, f = (k : Int) ∧ k < i ∧ T[k]? = some b ∧ W b = 1 ∧ wd = mxn W b n)
section
variable {W : Int → Nat} {T : List Int} {i : Nat} {f f0 : Int} {wd wd0 : Nat} {out : List Dm} {t s : Int}
theorem DmI.start : DmI W T 0 (-1) 0 [] := ⟨fun d => by simp, .nil, fun _ => rfl, fun h => absurd h (Nat.lt_irrefl _)⟩
theorem asc_lt (ha : T.Pairwise (· < ·)) {i j : Nat} {x y : Int} (hx : T[i]? = some x) (hy : T[j]? = some y) (h : i < j) : x < y := by
  obtain ⟨h1, rfl⟩ := List.getElem?_eq_some_iff.1 hx
  obtain ⟨h2, rfl⟩ := List.getElem?_eq_some_iff.1 hy
  exact List.pairwise_iff_getElem.1 ha i j h1 h2 h
theorem gap_zero (ha : T.Pairwise (· < ·)) (hm : ∀ t, t ∈ T ↔ 0 < W t) (hx : T[i]? = some t) {u : Int} (hu : u < t) (hp : 0 < i → ∃ s, T[i - 1]? = some s ∧ s < u) : W u = 0 := by
  rcases Nat.eq_zero_or_pos (W u) with h | h
  · exact h
  · obtain ⟨j, hj⟩ := List.mem_iff_getElem?.1 ((hm u).2 h)
    exfalso
    rcases Nat.lt_trichotomy j i with h1 | h1 | h1
    · obtain ⟨s, hs, hsu⟩ := hp (by omega)
      rcases Nat.lt_or_ge j (i - 1) with h2 | h2
      · have := asc_lt ha hj hs h2; omega
      · obtain rfl : j = i - 1 := by omega
        rw [hj] at hs; cases hs; omega
    · subst h1; rw [hj] at hx; cases hx; omega
    · have := asc_lt ha hx hj h1; omega
theorem DmI.gap (ha : T.Pairwise (· < ·)) (hm : ∀ t, t ∈ T ↔ 0 < W t) (hx : T[i]? = some t) (h : i = 0 ∨ ∃ s, T[i - 1]? = some s ∧ t - 1 ≠ s) (wd : Nat) : DmJ W T i (-1) wd t := by
  refine ⟨t - 1, 0, by omega, fun j h1 h2 => by omega, .inl ⟨rfl, ?_⟩⟩
  refine gap_zero ha hm hx (by omega) fun h0 => ?_
  rcases h with h | ⟨s, hs, hne⟩
  · omega
  · exact ⟨s, hs, by have := asc_lt ha hs hx (by omega); omega⟩
theorem DmI.on (h : DmI W T i f wd out) (h0 : 0 < i) (hs : T[i - 1]? = some s) (e : t - 1 = s) : DmJ W T i f wd t := by
  obtain ⟨b, n, h1, h2, h3⟩ := h.top h0
  rw [hs] at h1; cases h1
  exact ⟨b, n, by omega, h2, h3⟩
theorem DmI.wide (h : DmI W T i f0 wd0 out) (hJ : DmJ W T i f wd t) (hx : T[i]? = some t) (hw : 1 < W t) : DmI W T (i + 1) f (max wd (W t)) out := by
  obtain ⟨b, n, h1, h2, h3⟩ := hJ
  refine ⟨fun d => ?_, h.asc, fun h0 => by omega, fun _ => ⟨b, n + 1, ?_, fun j hj1 hj2 => ?_, ?_⟩⟩
  · rw [h.mem, mem_take_snoc hx]
    constructor
    · rintro ⟨h4, h5⟩; exact ⟨h4, .inl h5⟩
    · rintro ⟨h4, h5 | h5⟩
      · exact ⟨h4, h5⟩
      · obtain ⟨m, _, _, _, _, h6, _⟩ := h4
        rw [h5] at h6; omega
  · show T[i]? = _
    rw [hx, h1]; congr 1; omega
  · rcases Nat.lt_or_ge n j with h4 | h4
    · obtain rfl : j = n + 1 := by omega
      have e : b + ((n + 1 : Nat) : Int) = t := by omega
      rw [e]; exact hw
    · exact h2 j hj1 h4
  · rcases h3 with h3 | ⟨k, hk, hki, hkb, hb1, hwd⟩
    · exact .inl h3
    · refine .inr ⟨k, hk, by omega, hkb, hb1, ?_⟩
      have e : b + (n : Int) + 1 = t := by omega
      simp only [mxn]; rw [e, hwd]
theorem DmI.close (h : DmI W T i f0 wd0 out) (ha : T.Pairwise (· < ·)) (hJ : DmJ W T i f wd t) (hx : T[i]? = some t) (hw : W t = 1) {k : Nat} {b : Int} (hk : f = (k : Int)) (hb : T[k]? = some b) (h1 : 1 < wd) : DmI W T (i + 1) (i : Int) 0 (out ++ [⟨b, t, (wd : Int)⟩]) := by
  obtain ⟨b', n, h2, h3, h4⟩ := hJ
  rcases h4 with ⟨h4, _⟩ | ⟨k', hk', hki, hkb, hb1, hwd⟩
  · omega
  obtain rfl : k = k' := by omega
  rw [hb] at hkb; cases hkb
  have hn : 0 < n := (mxn_pos h3).1 (by omega)
  have hD : IsD W ⟨b, t, (wd : Int)⟩ := ⟨n, hn, hb1, h2, h3, hw, by rw [hwd]⟩
  refine ⟨fun d => ?_, List.pairwise_append.2 ⟨h.asc, by simp, fun x hx2 y hy => ?_⟩, fun h0 => by omega, fun _ => ⟨t, 0, by rw [Nat.add_sub_cancel, hx]; simp, fun j h5 h6 => by omega, .inr ⟨i, rfl, by omega, hx, hw, rfl⟩⟩⟩
  · rw [List.mem_append, h.mem, mem_take_snoc hx, List.mem_singleton]
    constructor
    · rintro (⟨h5, h6⟩ | rfl)
      · exact ⟨h5, .inl h6⟩
      · exact ⟨hD, .inr rfl⟩
    · rintro ⟨h5, h6 | h6⟩
      · exact .inl ⟨h5, h6⟩
      · obtain ⟨e1, _, _, e2⟩ := isD_to h5 h3 (by omega) (by omega)
        obtain ⟨d1, d2, d3⟩ := d
        simp only at e1 e2 h6
        subst e1 e2 h6
        exact .inr (by rw [hwd])
  · rw [List.mem_singleton] at hy; subst hy
    obtain ⟨h5, h6⟩ := (h.mem x).1 hx2
    obtain ⟨m, h7, h8, h9, h10, h11, _⟩ := h5
    have h12 : x.to_ < t := by
      obtain ⟨j, hj⟩ := List.mem_iff_getElem?.1 h6
      have hji : j < i := by
        have := (List.getElem?_eq_some_iff.1 hj).1
        rw [List.length_take] at this; omega
      rw [List.getElem?_take_of_lt hji] at hj
      exact asc_lt ha hj hx hji
    show x.frm < b
    by_cases h13 : x.to_ ≤ b
    · omega
    · have := h3 (x.to_ - b).toNat (by omega) (by omega)
      have e : b + ((x.to_ - b).toNat : Int) = x.to_ := by omega
      rw [e] at this; omega
theorem DmI.lone (h : DmI W T i f0 wd0 out) (hJ : DmJ W T i f wd t) (hx : T[i]? = some t) (hw : W t = 1) (h1 : f < 0 ∨ ¬ 1 < wd) : DmI W T (i + 1) (i : Int) 0 out := by
  obtain ⟨b, n, h2, h3, h4⟩ := hJ
  refine ⟨fun d => ?_, h.asc, fun h0 => by omega, fun _ => ⟨t, 0, by rw [Nat.add_sub_cancel, hx]; simp, fun j h5 h6 => by omega, .inr ⟨i, rfl, by omega, hx, hw, rfl⟩⟩⟩
  rw [h.mem, mem_take_snoc hx]
  constructor
  · rintro ⟨h5, h6⟩; exact ⟨h5, .inl h6⟩
  · rintro ⟨h5, h6 | h6⟩
    · exact ⟨h5, h6⟩
    · exfalso
      have hb1 : W b ≤ 1 := by rcases h4 with ⟨_, h4⟩ | ⟨k, _, _, _, h4, _⟩ <;> omega
      obtain ⟨e1, e2, e3, e4⟩ := isD_to h5 h3 hb1 (by omega)
      rcases h4 with ⟨_, h4⟩ | ⟨k, hk, _, _, _, hwd⟩
      · omega
      · have := (mxn_pos h3).2 e3; omega
theorem DmI.dm (h : DmI W T i f wd out) (hm : ∀ t, t ∈ T ↔ 0 < W t) (hi : T.length ≤ i) : IsDm W out := ⟨h.asc, fun d => by
  rw [h.mem, List.take_of_length_le hi, hm]
  constructor
  · exact fun h1 => h1.1
  · intro h1
    refine ⟨h1, ?_⟩
    obtain ⟨_, _, _, _, _, h2, _⟩ := h1
    omega⟩
end
structure DmR (W : Int → Nat) (ts : List Int) (i : Nat) (out : List Dm) : Prop where
  mem : ∀ d, d ∈ out ↔ IsD W d ∧ d.frm ∈ ts.take i
  asc : out.Pairwise fun x y => x.frm < y.frm
section
variable {W : Int → Nat} {ts : List Int} {i n : Nat} {out : List Dm} {t : Int}
theorem DmR.start : DmR W ts 0 [] := ⟨fun d => by simp, .nil⟩
theorem DmR.skip (h : DmR W ts i out) (hx : ts[i]? = some t) (hn : ∀ d, IsD W d → d.frm ≠ t) : DmR W ts (i + 1) out := ⟨fun d => by
  rw [h.mem, mem_take_snoc hx]
  constructor
  · rintro ⟨h1, h2⟩; exact ⟨h1, .inl h2⟩
  · rintro ⟨h1, h2 | h2⟩
    · exact ⟨h1, h2⟩
    · exact absurd h2 (hn d h1), h.asc⟩
theorem isD_frm {d : Dm} (hd : IsD W d) (ht : d.frm = t) (hw : ∀ j : Nat, 1 ≤ j → j ≤ n → 1 < W (t + j)) (hn : ¬ 1 < W (t + n + 1)) : 0 < n ∧ W (t + n + 1) = 1 ∧ d = ⟨t, t + n + 1, (mxn W t n : Int)⟩ := by
  obtain ⟨m, h0, h1, h2, h3, h4, h5⟩ := hd
  obtain ⟨d1, d2, d3⟩ := d
  simp only at ht h1 h2 h3 h4 h5
  subst ht
  have hmn : m = n := by
    rcases Nat.lt_trichotomy m n with h | h | h
    · have := hw (m + 1) (by omega) (by omega)
      have e : d1 + ((m + 1 : Nat) : Int) = d2 := by omega
      rw [e] at this; omega
    · exact h
    · have := h3 (n + 1) (by omega) (by omega)
      have e : d1 + ((n + 1 : Nat) : Int) = d1 + n + 1 := by omega
      rw [e] at this; omega
  subst hmn
  subst h2
  exact ⟨h0, h4, by rw [h5]⟩
theorem DmR.wide (h : DmR W ts i out) (hx : ts[i]? = some t) (hw : W t ≠ 1) : DmR W ts (i + 1) out := h.skip hx fun d ⟨_, _, h1, _⟩ e => hw (e ▸ h1)
theorem DmR.no (h : DmR W ts i out) (hx : ts[i]? = some t) (hw : ∀ j : Nat, 1 ≤ j → j ≤ n → 1 < W (t + j)) (hn : ¬ 1 < W (t + n + 1)) (h1 : ¬ (0 < mxn W t n) ∨ W (t + n + 1) ≠ 1) : DmR W ts (i + 1) out := h.skip hx fun d hd e => by
  obtain ⟨h2, h3, _⟩ := isD_frm hd e hw hn
  have := (mxn_pos hw).2 h2
  omega
theorem DmR.yes (h : DmR W ts i out) (hW : ∀ t, W t = (ts.filter fun x => decide (x = t)).length) (ha : ts.Pairwise (· ≤ ·)) (hx : ts[i]? = some t) (h1 : W t = 1) (hw : ∀ j : Nat, 1 ≤ j → j ≤ n → 1 < W (t + j)) (h2 : 0 < mxn W t n) (h3 : W (t + n + 1) = 1) : DmR W ts (i + 1) (out ++ [⟨t, t + n + 1, (mxn W t n : Int)⟩]) := by
  have h0 : 0 < n := by
    rcases Nat.eq_zero_or_pos n with e | e
    · subst e; simp [mxn] at h2
    · exact e
  refine ⟨fun d => ?_, List.pairwise_append.2 ⟨h.asc, by simp, fun x hx2 y hy => ?_⟩⟩
  · rw [List.mem_append, h.mem, mem_take_snoc hx, List.mem_singleton]
    constructor
    · rintro (⟨h5, h6⟩ | rfl)
      · exact ⟨h5, .inl h6⟩
      · exact ⟨⟨n, h0, h1, rfl, hw, h3, rfl⟩, .inr rfl⟩
    · rintro ⟨h5, h6 | h6⟩
      · exact .inl ⟨h5, h6⟩
      · exact .inr (isD_frm h5 h6 hw (by omega)).2.2
  · rw [List.mem_singleton] at hy; subst hy
    obtain ⟨h5, h6⟩ := (h.mem x).1 hx2
    show x.frm < t
    obtain ⟨j, hj⟩ := List.mem_iff_getElem?.1 h6
    have hji : j < i := by
      have := (List.getElem?_eq_some_iff.1 hj).1
      rw [List.length_take] at this; omega
    rw [List.getElem?_take_of_lt hji] at hj
    obtain ⟨a1, a2⟩ := List.getElem?_eq_some_iff.1 hj
    obtain ⟨b1, b2⟩ := List.getElem?_eq_some_iff.1 hx
    have h7 := List.pairwise_iff_getElem.1 ha j i a1 b1 hji
    rw [a2, b2] at h7
    rcases Int.lt_or_eq_of_le h7 with h8 | h8
    · exact h8
    · exfalso
      rw [hW] at h1
      have e1 : ts = ts.take i ++ ts.drop i := (List.take_append_drop i ts).symm
      have e2 : ts.drop i = t :: ts.drop (i + 1) := by rw [List.drop_eq_getElem_cons b1, b2]
      rw [e1, List.filter_append, List.length_append, e2, List.filter_cons_of_pos (by simp)] at h1
      have h9 : x.frm ∈ (ts.take i).filter fun x => decide (x = t) := List.mem_filter.2 ⟨h6, by simp [h8]⟩
      have := List.length_pos_of_mem h9
      simp only [List.length_cons] at h1
      omega
theorem DmR.dm (h : DmR W ts i out) (hW : ∀ t, W t = (ts.filter fun x => decide (x = t)).length) (hi : ts.length ≤ i) : IsDm W out := ⟨h.asc, fun d => by
  rw [h.mem, List.take_of_length_le hi]
  constructor
  · exact fun h1 => h1.1
  · intro h1
    refine ⟨h1, ?_⟩
    obtain ⟨_, _, h2, _⟩ := h1
    rw [hW] at h2
    obtain ⟨x, hx⟩ := List.exists_mem_of_length_pos (l := ts.filter fun x => decide (x = d.frm)) (by omega)
    have h3 := List.mem_filter.1 hx
    rw [← of_decide_eq_true h3.2]; exact h3.1⟩
end
set_option maxRecDepth 20000
def wid (hs : List Hpx) (t : Int) : Nat := (hs.filter fun h => decide (h.ttl = t)).length
theorem wid_t {l : List Hpx} {i k : Nat} {x : Hpx} {t : Int} (hx : l[i]? = some x) (h : x.ttl = t) (hk : wid (l.take i) t = k) : wid (l.take (i + 1)) t = k + 1 := by
 unfold wid at hk ⊢
 rw [List.take_add_one, hx, List.filter_append, List.length_append, hk]
 simp [h]
theorem wid_f {l : List Hpx} {i k : Nat} {x : Hpx} {t : Int} (hx : l[i]? = some x) (h : x.ttl ≠ t) (hk : wid (l.take i) t = k) : wid (l.take (i + 1)) t = k := by
 unfold wid at hk ⊢
 rw [List.take_add_one, hx, List.filter_append, List.length_append, hk]
 simp [h]
def cnt (ts : List Int) (t : Int) : Nat := (ts.filter fun x => decide (x = t)).length
def tlH (hs : List Hpx) : List Int := hs.map (·.ttl)
theorem tlH_len (hs : List Hpx) : (tlH hs).length = hs.length := List.length_map _
theorem tlH_at {hs : List Hpx} {i : Nat} {x : Hpx} (h : hs[i]? = some x) : (tlH hs)[i]? = some x.ttl := by unfold tlH; rw [List.getElem?_map, h]; rfl
theorem wid_cnt (hs : List Hpx) (t : Int) : wid hs t = cnt (tlH hs) t := by
 unfold wid cnt tlH
 rw [List.filter_map, List.length_map]; rfl
theorem cnt_pos {ts : List Int} {t : Int} : 0 < cnt ts t ↔ t ∈ ts := by
 unfold cnt
 constructor
 ·intro h
  obtain ⟨x, hx⟩ := List.exists_mem_of_length_pos h
  have h2 := List.mem_filter.1 hx
  rw [← of_decide_eq_true h2.2]; exact h2.1
 ·intro h; exact List.length_pos_of_mem (List.mem_filter.2 ⟨h, decide_eq_true rfl⟩)
theorem cnt_le (ts : List Int) (t : Int) : cnt ts t ≤ ts.length := List.length_filter_le _ _
theorem wid_le (hs : List Hpx) (t : Int) : wid hs t ≤ hs.length := List.length_filter_le _ _
theorem wid_rng {hs : List Hpx} (hob : ∀ h ∈ hs, 1 ≤ h.ttl ∧ h.ttl ≤ 255) {t : Int} (h : 0 < wid hs t) : 1 ≤ t ∧ t ≤ 255 := by
 obtain ⟨x, hx⟩ := List.exists_mem_of_length_pos h
 have h2 := List.mem_filter.1 hx
 rw [← of_decide_eq_true h2.2]; exact hob x h2.1
theorem wf_ttl {t : Int} (h : 1 ≤ t ∧ t ≤ 255) : (Lit.int .i64 t).wf = true := by simp [Lit.wf, IntKind.min, IntKind.max, IntKind.signed, IntKind.bits]; omega
theorem wf_natI {k : Nat} (h : k ≤ 9223372036854775807) : (Lit.int .i64 ((k : Nat) : Int)).wf = true := by simp [Lit.wf, IntKind.min, IntKind.max, IntKind.signed, IntKind.bits]; omega
def WM (f : Int → Option Int) (c : Int → Nat) : Prop := ∀ t, (f t).getD 0 = ((c t : Nat) : Int)
theorem wm_step {f : Int → Option Int} {hs : List Hpx} {i : Nat} {x : Hpx} (hx : hs[i]? = some x) (h : WM f (cnt ((tlH hs).take i))) : WM (fun v => if v = x.ttl then some ((cnt ((tlH hs).take i) x.ttl + 1 : Nat) : Int) else f v) (cnt ((tlH hs).take (i + 1))) := fun t => by
 have e : cnt ((tlH hs).take (i + 1)) t = cnt ((tlH hs).take i) t + if x.ttl = t then 1 else 0 := by
  unfold cnt
  rw [List.take_add_one, tlH_at hx, List.filter_append, List.length_append]
  by_cases h0 : x.ttl = t <;> simp [h0]
 rw [e]
 by_cases h0 : t = x.ttl
 ·subst h0; simp
 ·show ((if t = x.ttl then some _ else f t) : Option Int).getD 0 = _
  rw [if_neg h0, if_neg (fun e => h0 e.symm), h t]; rfl
def TOk (T l : List Int) : Prop := T.Nodup ∧ ∀ t, t ∈ T ↔ t ∈ l
theorem tok_mem {hs : List Hpx} {i : Nat} {x : Hpx} (hx : hs[i]? = some x) (t : Int) : t ∈ (tlH hs).take (i + 1) ↔ t ∈ (tlH hs).take i ∨ t = x.ttl := mem_take_snoc (tlH_at hx)
theorem tok_t {hs : List Hpx} {T : List Int} {i : Nat} {x : Hpx} (hx : hs[i]? = some x) (h : TOk T ((tlH hs).take i)) (h0 : cnt ((tlH hs).take i) x.ttl = 0) : TOk (T ++ [x.ttl]) ((tlH hs).take (i + 1)) := by
 have hn : x.ttl ∉ T := fun h1 => by have := cnt_pos.2 ((h.2 _).1 h1); omega
 refine ⟨List.nodup_append.2 ⟨h.1, by simp, fun a ha b hb => ?_⟩, fun t => ?_⟩
 ·rw [List.mem_singleton.1 hb]; rintro rfl; exact hn ha
 ·rw [List.mem_append, List.mem_singleton, tok_mem hx, h.2]
theorem tok_f {hs : List Hpx} {T : List Int} {i : Nat} {x : Hpx} (hx : hs[i]? = some x) (h : TOk T ((tlH hs).take i)) (h0 : cnt ((tlH hs).take i) x.ttl ≠ 0) : TOk T ((tlH hs).take (i + 1)) := by
 refine ⟨h.1, fun t => ?_⟩
 rw [h.2, tok_mem hx]
 refine ⟨.inl, fun h1 => h1.elim id fun e => ?_⟩
 rw [e]; exact cnt_pos.1 (by omega)
theorem gives_lookW {P : Program} {N : Fr} {E : Env} {o : Oper} {w0 : Base} {L : List Pc} {x y : Operand} {t k e : TypeId} {g i n : Nat} {ob : Obj} {f : Int → Option Int} {c : Int → Nat} {a : Int} (ho : o.op = .lookup t x y false) (hx : ev E x = some (.map (some g))) (hy : ev E y = some (.int .i64 a)) (T : IMap P t k e .i64 .i64) (hk : L[i]? = some (.oth g ob)) (hm : MapII P k e .i64 .i64 ob n f) (hv : WM f c) (ha : (Lit.int .i64 a).wf = true) :
  Gives P N o E (Pm w0 L) (.int .i64 ((c a : Nat) : Int)) := by
 rw [← hv]
 exact gives_look ho hx hy T hk hm ha
theorem gives_maxN {P : Program} {N : Fr} {E : Env} {o : Oper} {I : World → Prop} {x y : Operand} {ts : Array TypeId} {a b : Nat} (ho : o.op = .call { callee := .builtin .max, args := #[x, y], argTypes := ts }) (hx : ev E x = some (.int .i64 ((a : Nat) : Int))) (hy : ev E y = some (.int .i64 ((b : Nat) : Int))) : Gives P N o E I (.int .i64 ((max a b : Nat) : Int)) := by
 have := @gives_maxI P N E o I x y ts a b ho hx hy
 rwa [show max (a : Int) (b : Int) = ((max a b : Nat) : Int) by omega] at this
theorem imI : IMap Tryz.prog 116 3 3 .i64 .i64 := ⟨Tryz.underlying116, Tryz.underlying3, Tryz.underlying3, fun w => rfl⟩
theorem DmJ.at_ {W : Int → Nat} {T : List Int} {i wd : Nat} {f t : Int} (h : DmJ W T i f wd t) (h0 : f ≥ 0) : ∃ k : Nat, f = (k : Int) ∧ k < i := by
 obtain ⟨b, n, _, _, ⟨h1, _⟩ | ⟨k, h1, h2, _⟩⟩ := h
 ·omega
 ·exact ⟨k, h1, h2⟩
theorem wid_cnt2 (hs : List Hpx) : ∀ t, wid hs t = ((tlH hs).filter fun x => decide (x = t)).length := fun t => wid_cnt hs t
theorem tlH_asc {hs : List Hpx} (h : hs.Pairwise fun x y => x.ttl ≤ y.ttl) : (tlH hs).Pairwise (· ≤ ·) := List.pairwise_map.2 h
theorem wide_snoc {W : Int → Nat} {t : Int} {n : Nat} (h : ∀ j : Nat, 1 ≤ j → j ≤ n → 1 < W (t + j)) (h1 : 1 < W (t + n + 1)) : ∀ j : Nat, 1 ≤ j → j ≤ n + 1 → 1 < W (t + j) := fun j h2 h3 => by
 rcases Nat.lt_or_ge n j with h4 | h4
 ·obtain rfl : j = n + 1 := by omega
  rw [show t + ((n + 1 : Nat) : Int) = t + n + 1 by omega]; exact h1
 ·exact h j h2 h4
theorem pdibld58_57326 (a0_0 : Int) (a1_0 : Int) (a2_0 : Int) (w : World) : (Instr.build 58 #[(0, .int .i64 a0_0), (1, .int .i64 a1_0), (2, .int .i64 a2_0)]).run Tryz.prog w = .ok (.agg #[.int .i64 a0_0, .int .i64 a1_0, .int .i64 a2_0]) w := by kernel_rfl
theorem pdibs55_1_44646 (a0_0 : Int) (a0_1 : Int) (a0_2 : Int) (w : World) : (Instr.buildSlice 55 1 #[(0, .agg #[.int .i64 a0_0, .int .i64 a0_1, .int .i64 a0_2])]).run Tryz.prog w = .ok (.slice (some ⟨w.heap.size, 0, none⟩) 1 1) (w.alloc (.cells [.int .i64 a0_0, .int .i64 a0_1, .int .i64 a0_2].toArray 58)) := by kernel_rfl
theorem pdiel55 : Elem Tryz.prog 55 58 3 24 := Elem.mk' Tryz.underlying55 (z := .agg #[.int .i64 0, .int .i64 0, .int .i64 0]) (by kernel_rfl) rfl (by omega) (by omega)
set_option maxHeartbeats 1000000 in
theorem width_any (m : Mp) (t : Int) (w : World) (hr : Reads w w.heap.size 3 m.hops.A m.hops.l.length (flat Hpx.cells m.hops.l)) (hl1 : m.hops.l.length ≤ 100000) :
  Calls Tryz.prog 100 #[.agg m.cells.toArray, .int .i64 t] w fun e w' => e = .returned (.int .i64 (wid m.hops.l t : Nat)) ∧ Below w.heap.size w w' := by
 refine begin_ (vs := [.agg m.cells.toArray, .int .i64 t]) Tryz.func100 rfl rfl rfl ?_ (Pm.start w)
 refine zSG ?_
 refine TL.pnew rfl rfl rfl (exec_box (cs := m.cells) rfl rfl rfl) (fun g2 => ?_)
 refine TL.as_ ?_
 refine zET (zSG ?_)
 refine TL.as_ ?_
 refine zET (zS (zSG ?_))
 refine TL.as_ ?_
 refine zET (zB ?_)
 refine TC.loop_ (α := {y : Nat × Nat // y.1 ≤ m.hops.l.length ∧ wid (m.hops.l.take y.1) t = y.2 ∧ y.2 ≤ y.1}) (fun y => [(1, .int .i64 t), (2, .pointer (some ⟨g2, 0, none⟩)), (6, .int .i64 ((y.1.1 : Nat) : Int)), (5, .int .i64 ((y.1.2 : Nat) : Int))]) (fun y => Pm w [.blk g2 36 m.cells]) (fun y => m.hops.l.length - y.1.1) (⟨(0, 0), Nat.zero_le _, rfl, Nat.le_refl _⟩) ⟨rfl, rfl, rfl, rfl, trivial⟩ (fun w1 hw => hw) ?_
 rintro ⟨⟨i, k⟩, hi, hk, hki⟩
 dsimp only at hi hk hki ⊢
 refine zS (zSG ?_)
 refine TL.mv ?_
 refine TL.v (gF pbdfld36_2) ?_
 refine TL.v (gL 0 pbdag33) ?_
 refine TL.v (gN Tryz.underlying33) ?_
 refine TL.sp bin_lss (fun q11 => ?_) (fun q11 => ?_)
 ·refine zET (zc (zk (zT (zS (zB (zSG ?_))))))
  refine TL.v (gF pbdfld36_2) ?_
  refine TL.v (gL 0 pbdag33) ?_
  refine TL.mv ?_
  have hi17 : i < m.hops.l.length := by omega
  obtain ⟨x17, hx17⟩ := ex_at hi17
  obtain ⟨b17, o17, hA17, hbb17, hc17⟩ := hr.ad (by omega) (by decide)
  refine TL.val rfl rfl rfl (gA (i := i) Tryz.underlying33 psmsz50 rfl rfl rfl rfl hA17 (by omega)) ?_
  refine TL.v (gF pcmfld50_0) ?_
  refine TL.v (gS 0 hp_cel pcmag3 hbb17 hx17 hc17) ?_
  refine TL.mv ?_
  refine TL.sp bin_eql (fun q21 => ?_) (fun q21 => ?_)
  ·refine zET (zc (zG ?_))
   refine TL.mv ?_
   refine TL.v (gD ((k + 1 : Nat) : Int)) ?_
   refine TL.as_ ?_
   refine zE (zN (zT (zG ?_)))
   refine TL.mv ?_
   refine TL.v (gD ((i + 1 : Nat) : Int)) ?_
   refine TL.as_ ?_
   refine zE ?_
   exact TX.round (⟨(i + 1, k + 1), by dsimp only; omega, wid_t hx17 (by omega) hk, by dsimp only; omega⟩) (by show m.hops.l.length - (i + 1) < m.hops.l.length - i; omega) ⟨rfl, rfl, rfl, rfl, trivial⟩ (fun w1 hw => hw)
  ·refine zET (zd (zk (zN (zT (zG ?_)))))
   refine TL.mv ?_
   refine TL.v (gD ((i + 1 : Nat) : Int)) ?_
   refine TL.as_ ?_
   refine zE ?_
   exact TX.round (⟨(i + 1, k), by dsimp only; omega, wid_f hx17 (by omega) hk, by dsimp only; omega⟩) (by show m.hops.l.length - (i + 1) < m.hops.l.length - i; omega) ⟨rfl, rfl, rfl, rfl, trivial⟩ (fun w1 hw => hw)
 ·refine zET (zd (zx (zX (zX (zM (zT (zSG ?_)))))))
  refine TL.rn 2 rfl ?_
  refine zET (zr ?_)
  have hE : wid m.hops.l t = k := by rw [List.take_of_length_le (by omega)] at hk; exact hk
  exact ret_tmp Tryz.results100 rfl (fun w1 hw => ⟨by rw [hE], hw.bel⟩)
set_option maxHeartbeats 1000000 in
theorem diamonds_any (m : Mp) (w : World) (hr : Reads w w.heap.size 3 m.hops.A m.hops.l.length (flat Hpx.cells m.hops.l)) (hl1 : m.hops.l.length ≤ 100000) (hob : ∀ h ∈ m.hops.l, 1 ≤ h.ttl ∧ h.ttl ≤ 255) :
  Calls Tryz.prog 19 #[.agg m.cells.toArray] w fun e w' => ∃ x : {y : (Option Addr × Nat) × List Dm // IsDm (wid m.hops.l) y.2 ∧ y.2.length ≤ y.1.2 ∧ y.1.2 ≤ maxLen}, e = .returned (.slice x.1.1.1 x.1.2.length x.1.1.2) ∧ Pm w [.row (.slice x.1.1.1 x.1.2.length x.1.1.2) 58 3 x.1.2.length (flat Dm.cells x.1.2)] w' := by
 refine begin_ (vs := [.agg m.cells.toArray]) Tryz.func19 rfl rfl rfl ?_ (Pm.start w)
 refine zSG ?_
 refine TL.pnew rfl rfl rfl (exec_box (cs := m.cells) rfl rfl rfl) (fun g1 => ?_)
 refine TL.as_ ?_
 refine zET (zSG ?_)
 refine TL.mkmap rfl rfl rfl rfl (fun gm hgm => ?_)
 refine TL.as_ ?_
 refine zET (zSG ?_)
 refine TL.as_ ?_
 refine zET (zS (zSG ?_))
 refine TL.v (gF pbdfld36_2) ?_
 refine TL.v (gL 1 pbdag33) ?_
 refine TL.v (gN Tryz.underlying33) ?_
 refine TL.mv ?_
 refine zET (zB ?_)
 refine TC.nilrow 3 1 ?_
 refine TC.loop_ (α := {y : Nat × Obj × (Option Addr × Nat) × List Int // y.1 ≤ m.hops.l.length ∧ (∃ n f, MapII Tryz.prog 3 3 .i64 .i64 y.2.1 n f ∧ WM f (cnt ((tlH m.hops.l).take y.1)) ∧ n ≤ y.1) ∧ TOk y.2.2.2 ((tlH m.hops.l).take y.1) ∧ y.2.2.2.length ≤ y.1 ∧ y.2.2.2.length ≤ y.2.2.1.2 ∧ y.2.2.1.2 ≤ maxLen}) (fun y => [(3, .map (some gm)), (14, .slice m.hops.A m.hops.l.length m.hops.c), (15, .int .i64 (m.hops.l.length : Nat)), (16, .int .i64 ((y.1.1 : Nat) : Int)), (4, .slice y.1.2.2.1.1 y.1.2.2.2.length y.1.2.2.1.2)]) (fun y => Pm w [.row (.slice y.1.2.2.1.1 y.1.2.2.2.length y.1.2.2.1.2) 3 1 y.1.2.2.2.length (flat (ic .i64) y.1.2.2.2), .oth gm y.1.2.1, .blk g1 36 m.cells]) (fun y => m.hops.l.length - y.1.1) (⟨(0, .map #[] 0, (none, 0), []), Nat.zero_le _, ⟨0, fun _ => none, mapII_new _ _ _ _ _, fun t => rfl, Nat.le_refl _⟩, ⟨List.nodup_nil, fun t => by rw [List.take_zero]⟩, Nat.le_refl _, Nat.le_refl _, Nat.zero_le _⟩) ⟨rfl, rfl, rfl, rfl, rfl, trivial⟩ (fun w1 hw => hw) ?_
 rintro ⟨⟨i, ob, ⟨At, ct⟩, tt⟩, hi, ⟨n, f, hmf, hwm, hn⟩, htok, htl0, htc, htm⟩
 dsimp only at hi hmf hwm hn htok htl0 htc htm ⊢
 refine zSG ?_
 refine TL.sp bin_lss (fun q17 => ?_) (fun q17 => ?_)
 ·refine zET (zS (zc (zk (zT (zS (zB (zSG ?_)))))))
  have hi18 : i < m.hops.l.length := by omega
  obtain ⟨x18, hx18⟩ := ex_at hi18
  obtain ⟨b18, o18, hA18, hbb18, hc18⟩ := hr.ad (by omega) (by decide)
  have hxb := hob x18 (List.mem_of_getElem? hx18)
  have hcl := cnt_le ((tlH m.hops.l).take i) x18.ttl
  have htl : ((tlH m.hops.l).take i).length ≤ i := by rw [List.length_take]; omega
  refine TL.val rfl rfl rfl (gA (i := i) Tryz.underlying33 psmsz50 rfl rfl rfl rfl hA18 (by omega)) ?_
  refine TL.v (gR hp_cel psmag50 psmsz50 hbb18 hx18 hc18) ?_
  refine TL.pnew rfl rfl rfl (exec_alloc (cs := [.int .i64 0, .int .u32 0, .slice none 0 0]) rfl psmzv50 rfl) (fun g6 => ?_)
  refine TL.pstore (k := 0) (vs := x18.cells) rfl rfl rfl rfl rfl rfl rfl psmsz50 (hp_cel.one _) (by show 3 ≤ 3; decide) rfl ?_
  refine zET (zS (zSG ?_))
  refine TL.mv ?_
  refine TL.v (gF pcmfld50_0) ?_
  refine TL.v (gL 0 pcmag3) ?_
  refine TL.val rfl rfl rfl (gives_lookW rfl rfl rfl imI (i := 2) rfl hmf hwm (wf_ttl (hxb))) ?_
  refine TL.sp bin_eql (fun q24 => ?_) (fun q24 => ?_)
  ·refine zET (zc (zG ?_))
   refine TL.mv ?_
   refine TL.v (gF pcmfld50_0) ?_
   refine TL.v (gL 0 pcmag3) ?_
   refine TL.prowS (e := 3) (size := 1) (cs := flat (ic .i64) [x18.ttl]) rfl rfl rfl rfl rfl (fun w => pbdbs48_1_5377 _ w) (by decide) rfl (fun g28 => ?_)
   refine TL.appendT (k := 2) rfl rfl rfl rfl Tryz.underlying48 pbdel48 rfl rfl rfl (fun w1 hw => pm_reads hw (k := 0) rfl) (flat_one (ic_cel .i64) _) (by show _ * 8 ≤ _; omega) ((tt ++ [x18.ttl]).length) (by rw [List.length_append]; rfl) (flat (ic .i64) (tt ++ [x18.ttl])) ((flat_app _ _).symm) (fun A29 c29 hA291 hA292 => ?_)
   refine TL.as_ ?_
   refine zET (zG ?_)
   refine TL.mv ?_
   refine TL.v (gF pcmfld50_0) ?_
   refine TL.v (gL 1 pcmag3) ?_
   refine TL.val rfl rfl rfl (gives_lookW rfl rfl rfl imI (i := 3) rfl hmf hwm (wf_ttl (hxb))) ?_
   refine TL.v (gD ((cnt ((tlH m.hops.l).take i) x18.ttl + 1 : Nat) : Int)) ?_
   refine TL.mapset (i := 3) rfl rfl rfl rfl rfl rfl imI rfl hgm hmf (by unfold maxLen; omega) (wf_ttl hxb) (wf_natI (by omega)) (fun ob2 hm2 => ?_)
   try dsimp only [List.set_cons_zero, List.set_cons_succ]
   refine zE (zN (zT (zG ?_)))
   refine TL.v (gD ((i + 1 : Nat) : Int)) ?_
   refine TL.mv ?_
   refine zE ?_
   exact TX.round (⟨(i + 1, ob2, (A29, c29), tt ++ [x18.ttl]), by dsimp only; omega, ⟨_, _, hm2, wm_step hx18 hwm, by split <;> omega⟩, tok_t hx18 htok (by omega), by dsimp only; rw [List.length_append]; show tt.length + 1 ≤ _; omega, hA291, hA292⟩) (by show m.hops.l.length - (i + 1) < m.hops.l.length - i; omega) ⟨rfl, rfl, rfl, rfl, rfl, trivial⟩ (fun w1 hw => hw.pick [2, 3, 4] (by decide) rfl)
  ·refine zET (zd (zk (zT (zG ?_))))
   refine TL.mv ?_
   refine TL.v (gF pcmfld50_0) ?_
   refine TL.v (gL 0 pcmag3) ?_
   refine TL.val rfl rfl rfl (gives_lookW rfl rfl rfl imI (i := 2) rfl hmf hwm (wf_ttl (hxb))) ?_
   refine TL.v (gD ((cnt ((tlH m.hops.l).take i) x18.ttl + 1 : Nat) : Int)) ?_
   refine TL.mapset (i := 2) rfl rfl rfl rfl rfl rfl imI rfl hgm hmf (by unfold maxLen; omega) (wf_ttl hxb) (wf_natI (by omega)) (fun ob2 hm2 => ?_)
   try dsimp only [List.set_cons_zero, List.set_cons_succ]
   refine zE (zN (zT (zG ?_)))
   refine TL.v (gD ((i + 1 : Nat) : Int)) ?_
   refine TL.mv ?_
   refine zE ?_
   exact TX.round (⟨(i + 1, ob2, (At, ct), tt), by dsimp only; omega, ⟨_, _, hm2, wm_step hx18 hwm, by split <;> omega⟩, tok_f hx18 htok (by omega), by dsimp only; omega, htc, htm⟩) (by show m.hops.l.length - (i + 1) < m.hops.l.length - i; omega) ⟨rfl, rfl, rfl, rfl, rfl, trivial⟩ (fun w1 hw => hw.pick [1, 2, 3] (by decide) rfl)
 ·refine zET (zS (zd (zx (zX (zX (zM (zT (zSG ?_))))))))
  refine TL.mv ?_
  refine TL.turnRowD (k := 0) (fun ys => SortedI tt ys) rfl rfl rfl rfl rfl Tryz.func61 (by decide) rfl rfl (fun w1 hw hr9 => sortInt hr9 rfl (by omega)) (fun srt hS37 => ?_)
  try dsimp only [List.set_cons_zero, List.set_cons_succ]
  have hsl : srt.length = tt.length := hS37.1.length_eq
  rw [← hsl]
  rw [List.take_of_length_le (by rw [tlH_len]; omega)] at htok hwm
  have hTm : ∀ t, t ∈ srt ↔ 0 < wid m.hops.l t := fun t => by rw [hS37.1.mem_iff, htok.2, wid_cnt]; exact cnt_pos.symm
  have hTa : srt.Pairwise (· < ·) := asc_of hS37 htok.1
  replace hwm : WM f (wid m.hops.l) := fun t => by rw [wid_cnt]; exact hwm t
  refine zET (zSG ?_)
  refine TL.as_ ?_
  refine zET (zSG ?_)
  refine TL.rn 2 rfl ?_
  refine zET (zS (zSG ?_))
  refine TL.mv ?_
  refine TL.v (gN Tryz.underlying48) ?_
  refine TL.mv ?_
  refine zET (zB ?_)
  refine TC.nilrow 58 3 ?_
  refine TC.loop_ (α := {y : Nat × Int × Nat × (Option Addr × Nat) × List Dm // y.1 ≤ srt.length ∧ DmI (wid m.hops.l) srt y.1 y.2.1 y.2.2.1 y.2.2.2.2 ∧ y.2.2.2.2.length ≤ y.1 ∧ y.2.2.2.2.length ≤ y.2.2.2.1.2 ∧ y.2.2.2.1.2 ≤ maxLen}) (fun y => [(3, .map (some gm)), (4, .slice At srt.length ct), (38, .slice At srt.length ct), (39, .int .i64 (srt.length : Nat)), (40, .int .i64 ((y.1.1 : Nat) : Int)), (8, .int .i64 y.1.2.1), (9, .int .i64 ((y.1.2.2.1 : Nat) : Int)), (7, .slice y.1.2.2.2.1.1 y.1.2.2.2.2.length y.1.2.2.2.1.2)]) (fun y => Pm w [.row (.slice y.1.2.2.2.1.1 y.1.2.2.2.2.length y.1.2.2.2.1.2) 58 3 y.1.2.2.2.2.length (flat Dm.cells y.1.2.2.2.2), .row (.slice At srt.length ct) 3 1 srt.length (flat (ic .i64) srt), .oth gm ob, .blk g1 36 m.cells]) (fun y => srt.length - y.1.1) (⟨(0, -1, 0, (none, 0), []), Nat.zero_le _, DmI.start, Nat.le_refl _, Nat.le_refl _, Nat.zero_le _⟩) ⟨rfl, rfl, rfl, rfl, rfl, rfl, rfl, rfl, trivial⟩ (fun w1 hw => hw) ?_
  rintro ⟨⟨j, fr, wd, ⟨Ao, co⟩, out⟩, hj, hD, hol, hoc, hom⟩
  dsimp only at hj hD hol hoc hom ⊢
  refine zSG ?_
  refine TL.sp bin_lss (fun q41 => ?_) (fun q41 => ?_)
  ·refine zET (zS (zc (zk (zT (zS (zB (zSG ?_)))))))
   refine TL.mv ?_
   refine TL.fact (p := ∃ g, At = some ⟨g, 0, none⟩) (fun w1 hw => rowA hw (k := 1) rfl (by omega)) ?_
   rintro ⟨g_At, rfl⟩
   have hi43 : j < srt.length := by omega
   obtain ⟨x43, hx43⟩ := ex_at hi43
   have hxw := (hTm x43).1 (List.mem_of_getElem? hx43)
   have hxb := wid_rng hob hxw
   have hwl := wid_le m.hops.l x43
   refine TL.val rfl rfl rfl (gA (i := j) Tryz.underlying48 pcmsz3 rfl rfl rfl rfl rfl (by omega)) ?_
   refine TL.val rfl rfl rfl (gives_load (v := .int .i64 x43) rfl rfl pcmag3 (fun w1 hw => flat_row (ic_cel .i64) hw (q := 1) rfl hx43 0 _ rfl)) ?_
   refine TL.rn 2 rfl ?_
   refine zET (zS (zSG ?_))
   refine TL.mv ?_
   refine TL.sp bin_gtr (fun q46 => ?_) (fun q46 => ?_)
   ·refine TL.rn 2 rfl ?_
    refine TL.gu ?_
    refine TL.val rfl rfl rfl (gives_bin rfl rfl rfl (fun w => bin_sub_ (r := x43 - 1) (by simp only [IntKind.wrap_i64]; omega) w)) ?_
    refine TL.rn 2 rfl ?_
    refine TL.gu ?_
    refine TL.val rfl rfl rfl (gives_bin rfl rfl rfl (fun w => bin_sub_ (r := ((j - 1 : Nat) : Int)) (by simp only [IntKind.wrap_i64]; omega) w)) ?_
    refine TL.gu ?_
    have hi53 : j - 1 < srt.length := by omega
    obtain ⟨x53, hx53⟩ := ex_at hi53
    refine TL.val rfl rfl rfl (gA (i := (j - 1)) Tryz.underlying48 pcmsz3 rfl rfl rfl rfl rfl (by omega)) ?_
    refine TL.gu ?_
    refine TL.val rfl rfl rfl (gives_load (v := .int .i64 x53) rfl rfl pcmag3 (fun w1 hw => flat_row (ic_cel .i64) hw (q := 1) rfl hx53 0 _ rfl)) ?_
    refine TL.gu ?_
    refine TL.sp bin_neq (fun q55 => ?_) (fun q55 => ?_)
    ·refine TL.pk ?_
     refine zET (zc (zG ?_))
     refine TL.as_ ?_
     refine zET (zS (zS ?_))
     have hJ := DmI.gap hTa hTm hx43 (.inr ⟨_, hx53, q55⟩) wd
     refine zG ?_
     refine TL.rn 2 rfl ?_
     refine TL.val rfl rfl rfl (gives_lookW rfl rfl rfl imI (i := 2) rfl hmf hwm (wf_ttl hxb)) ?_
     refine TL.sp bin_gtr (fun q60 => ?_) (fun q60 => ?_)
     ·refine zET (zc (zSG ?_))
      refine TL.rn 3 rfl ?_
      refine TL.val rfl rfl rfl (gives_lookW rfl rfl rfl imI (i := 2) rfl hmf hwm (wf_ttl hxb)) ?_
      refine TL.val rfl rfl rfl (gives_maxN rfl rfl rfl) ?_
      refine TL.as_ ?_
      refine zET (zx (zX (zM (zT (zG ?_)))))
      refine TL.v (gD ((j + 1 : Nat) : Int)) ?_
      refine TL.mv ?_
      refine zE ?_
      exact TX.round (⟨(j + 1, -1, max wd (wid m.hops.l x43), (Ao, co), out), by dsimp only; omega, hD.wide hJ hx43 (by omega), by dsimp only; omega, hoc, hom⟩) (by show srt.length - (j + 1) < srt.length - j; omega) ⟨rfl, rfl, rfl, rfl, rfl, rfl, rfl, rfl, trivial⟩ (fun w1 hw => hw)
     ·refine zET (zd (zk (zT (zS (zS ?_)))))
      have hw1 : wid m.hops.l x43 = 1 := by omega
      refine zG ?_
      refine TL.mv ?_
      refine TL.sp bin_geq (fun q67 => ?_) (fun q67 => ?_)
      ·exfalso; omega
      ·refine TL.rn 4 rfl ?_
       refine zET (zd (zk (zT (zG ?_))))
       refine TL.rn 3 rfl ?_
       refine zE (zN (zT (zG ?_)))
       refine TL.v (gD ((j + 1 : Nat) : Int)) ?_
       refine TL.mv ?_
       refine zE ?_
       exact TX.round (⟨(j + 1, ((j : Nat) : Int), 0, (Ao, co), out), by dsimp only; omega, hD.lone hJ hx43 hw1 (by omega), by dsimp only; omega, hoc, hom⟩) (by show srt.length - (j + 1) < srt.length - j; omega) ⟨rfl, rfl, rfl, rfl, rfl, rfl, rfl, rfl, trivial⟩ (fun w1 hw => hw)
    ·refine TL.pk ?_
     refine zET (zd (zk (zT (zS (zS ?_)))))
     have hJ := DmI.on (t := x43) hD (by omega) hx53 (Decidable.not_not.1 q55)
     refine zG ?_
     refine TL.rn 2 rfl ?_
     refine TL.val rfl rfl rfl (gives_lookW rfl rfl rfl imI (i := 2) rfl hmf hwm (wf_ttl hxb)) ?_
     refine TL.sp bin_gtr (fun q60 => ?_) (fun q60 => ?_)
     ·refine zET (zc (zSG ?_))
      refine TL.rn 3 rfl ?_
      refine TL.val rfl rfl rfl (gives_lookW rfl rfl rfl imI (i := 2) rfl hmf hwm (wf_ttl hxb)) ?_
      refine TL.val rfl rfl rfl (gives_maxN rfl rfl rfl) ?_
      refine TL.as_ ?_
      refine zET (zx (zX (zM (zT (zG ?_)))))
      refine TL.v (gD ((j + 1 : Nat) : Int)) ?_
      refine TL.mv ?_
      refine zE ?_
      exact TX.round (⟨(j + 1, fr, max wd (wid m.hops.l x43), (Ao, co), out), by dsimp only; omega, hD.wide hJ hx43 (by omega), by dsimp only; omega, hoc, hom⟩) (by show srt.length - (j + 1) < srt.length - j; omega) ⟨rfl, rfl, rfl, rfl, rfl, rfl, rfl, rfl, trivial⟩ (fun w1 hw => hw)
     ·refine zET (zd (zk (zT (zS (zS ?_)))))
      have hw1 : wid m.hops.l x43 = 1 := by omega
      refine zG ?_
      refine TL.mv ?_
      refine TL.sp bin_geq (fun q67 => ?_) (fun q67 => ?_)
      ·obtain ⟨kf, rfl, hkf⟩ := hJ.at_ q67
       refine TL.rn 2 rfl ?_
       refine TL.gu ?_
       refine TL.sp bin_gtr (fun q70 => ?_) (fun q70 => ?_)
       ·refine TL.pk ?_
        refine zET (zc (zG ?_))
        refine TL.rn 3 rfl ?_
        have hi75 : kf < srt.length := by omega
        obtain ⟨x75, hx75⟩ := ex_at hi75
        refine TL.val rfl rfl rfl (gA (i := kf) Tryz.underlying48 pcmsz3 rfl rfl rfl rfl rfl (by omega)) ?_
        refine TL.val rfl rfl rfl (gives_load (v := .int .i64 x75) rfl rfl pcmag3 (fun w1 hw => flat_row (ic_cel .i64) hw (q := 1) rfl hx75 0 _ rfl)) ?_
        refine TL.rn 2 rfl ?_
        refine TL.val rfl rfl rfl (gives_build (v := .agg #[.int .i64 x75, .int .i64 x43, .int .i64 ((wd : Nat) : Int)]) rfl rfl (fun w => pdibld58_57326 _ _ _ w)) ?_
        refine TL.prowS (e := 58) (size := 3) (cs := flat Dm.cells [(⟨x75, x43, ((wd : Nat) : Int)⟩ : Dm)]) rfl rfl rfl rfl rfl (fun w => pdibs55_1_44646 _ _ _ w) (by decide) rfl (fun g80 => ?_)
        refine TL.appendT (k := 1) rfl rfl rfl rfl Tryz.underlying55 pdiel55 rfl rfl rfl (fun w1 hw => pm_reads hw (k := 0) rfl) (flat_one dm_cel _) (by show _ * 24 ≤ _; omega) ((out ++ [(⟨x75, x43, ((wd : Nat) : Int)⟩ : Dm)]).length) (by rw [List.length_append]; rfl) (flat Dm.cells (out ++ [(⟨x75, x43, ((wd : Nat) : Int)⟩ : Dm)])) ((flat_app _ _).symm) (fun A81 c81 hA811 hA812 => ?_)
        refine TL.as_ ?_
        refine zET (zG ?_)
        refine TL.rn 3 rfl ?_
        refine zE (zN (zT (zG ?_)))
        refine TL.v (gD ((j + 1 : Nat) : Int)) ?_
        refine TL.mv ?_
        refine zE ?_
        exact TX.round (⟨(j + 1, ((j : Nat) : Int), 0, (A81, c81), out ++ [(⟨x75, x43, ((wd : Nat) : Int)⟩ : Dm)]), by dsimp only; omega, hD.close hTa hJ hx43 hw1 rfl hx75 (by omega), by dsimp only; rw [List.length_append]; show out.length + 1 ≤ _; omega, hA811, hA812⟩) (by show srt.length - (j + 1) < srt.length - j; omega) ⟨rfl, rfl, rfl, rfl, rfl, rfl, rfl, rfl, trivial⟩ (fun w1 hw => hw.pick [1, 2, 3, 4] (by decide) rfl)
       ·refine TL.pk ?_
        refine zET (zd (zk (zT (zG ?_))))
        refine TL.rn 3 rfl ?_
        refine zE (zN (zT (zG ?_)))
        refine TL.v (gD ((j + 1 : Nat) : Int)) ?_
        refine TL.mv ?_
        refine zE ?_
        exact TX.round (⟨(j + 1, ((j : Nat) : Int), 0, (Ao, co), out), by dsimp only; omega, hD.lone hJ hx43 hw1 (by omega), by dsimp only; omega, hoc, hom⟩) (by show srt.length - (j + 1) < srt.length - j; omega) ⟨rfl, rfl, rfl, rfl, rfl, rfl, rfl, rfl, trivial⟩ (fun w1 hw => hw)
      ·refine TL.rn 4 rfl ?_
       refine zET (zd (zk (zT (zG ?_))))
       refine TL.rn 3 rfl ?_
       refine zE (zN (zT (zG ?_)))
       refine TL.v (gD ((j + 1 : Nat) : Int)) ?_
       refine TL.mv ?_
       refine zE ?_
       exact TX.round (⟨(j + 1, ((j : Nat) : Int), 0, (Ao, co), out), by dsimp only; omega, hD.lone hJ hx43 hw1 (by omega), by dsimp only; omega, hoc, hom⟩) (by show srt.length - (j + 1) < srt.length - j; omega) ⟨rfl, rfl, rfl, rfl, rfl, rfl, rfl, rfl, trivial⟩ (fun w1 hw => hw)
   ·refine TL.rn 10 rfl ?_
    refine zET (zd (zk (zT (zS (zS ?_)))))
    have hf0 := hD.zero (by omega)
    have hJ : DmJ (wid m.hops.l) srt j fr wd x43 := by rw [hf0]; exact DmI.gap hTa hTm hx43 (.inl (by omega)) wd
    refine zG ?_
    refine TL.rn 2 rfl ?_
    refine TL.val rfl rfl rfl (gives_lookW rfl rfl rfl imI (i := 2) rfl hmf hwm (wf_ttl hxb)) ?_
    refine TL.sp bin_gtr (fun q60 => ?_) (fun q60 => ?_)
    ·refine zET (zc (zSG ?_))
     refine TL.rn 3 rfl ?_
     refine TL.val rfl rfl rfl (gives_lookW rfl rfl rfl imI (i := 2) rfl hmf hwm (wf_ttl hxb)) ?_
     refine TL.val rfl rfl rfl (gives_maxN rfl rfl rfl) ?_
     refine TL.as_ ?_
     refine zET (zx (zX (zM (zT (zG ?_)))))
     refine TL.v (gD ((j + 1 : Nat) : Int)) ?_
     refine TL.mv ?_
     refine zE ?_
     exact TX.round (⟨(j + 1, fr, max wd (wid m.hops.l x43), (Ao, co), out), by dsimp only; omega, hD.wide hJ hx43 (by omega), by dsimp only; omega, hoc, hom⟩) (by show srt.length - (j + 1) < srt.length - j; omega) ⟨rfl, rfl, rfl, rfl, rfl, rfl, rfl, rfl, trivial⟩ (fun w1 hw => hw)
    ·refine zET (zd (zk (zT (zS (zS ?_)))))
     have hw1 : wid m.hops.l x43 = 1 := by omega
     refine zG ?_
     refine TL.mv ?_
     refine TL.sp bin_geq (fun q67 => ?_) (fun q67 => ?_)
     ·obtain ⟨kf, rfl, hkf⟩ := hJ.at_ q67
      refine TL.rn 2 rfl ?_
      refine TL.gu ?_
      refine TL.sp bin_gtr (fun q70 => ?_) (fun q70 => ?_)
      ·refine TL.pk ?_
       refine zET (zc (zG ?_))
       refine TL.rn 3 rfl ?_
       have hi75 : kf < srt.length := by omega
       obtain ⟨x75, hx75⟩ := ex_at hi75
       refine TL.val rfl rfl rfl (gA (i := kf) Tryz.underlying48 pcmsz3 rfl rfl rfl rfl rfl (by omega)) ?_
       refine TL.val rfl rfl rfl (gives_load (v := .int .i64 x75) rfl rfl pcmag3 (fun w1 hw => flat_row (ic_cel .i64) hw (q := 1) rfl hx75 0 _ rfl)) ?_
       refine TL.rn 2 rfl ?_
       refine TL.val rfl rfl rfl (gives_build (v := .agg #[.int .i64 x75, .int .i64 x43, .int .i64 ((wd : Nat) : Int)]) rfl rfl (fun w => pdibld58_57326 _ _ _ w)) ?_
       refine TL.prowS (e := 58) (size := 3) (cs := flat Dm.cells [(⟨x75, x43, ((wd : Nat) : Int)⟩ : Dm)]) rfl rfl rfl rfl rfl (fun w => pdibs55_1_44646 _ _ _ w) (by decide) rfl (fun g80 => ?_)
       refine TL.appendT (k := 1) rfl rfl rfl rfl Tryz.underlying55 pdiel55 rfl rfl rfl (fun w1 hw => pm_reads hw (k := 0) rfl) (flat_one dm_cel _) (by show _ * 24 ≤ _; omega) ((out ++ [(⟨x75, x43, ((wd : Nat) : Int)⟩ : Dm)]).length) (by rw [List.length_append]; rfl) (flat Dm.cells (out ++ [(⟨x75, x43, ((wd : Nat) : Int)⟩ : Dm)])) ((flat_app _ _).symm) (fun A81 c81 hA811 hA812 => ?_)
       refine TL.as_ ?_
       refine zET (zG ?_)
       refine TL.rn 3 rfl ?_
       refine zE (zN (zT (zG ?_)))
       refine TL.v (gD ((j + 1 : Nat) : Int)) ?_
       refine TL.mv ?_
       refine zE ?_
       exact TX.round (⟨(j + 1, ((j : Nat) : Int), 0, (A81, c81), out ++ [(⟨x75, x43, ((wd : Nat) : Int)⟩ : Dm)]), by dsimp only; omega, hD.close hTa hJ hx43 hw1 rfl hx75 (by omega), by dsimp only; rw [List.length_append]; show out.length + 1 ≤ _; omega, hA811, hA812⟩) (by show srt.length - (j + 1) < srt.length - j; omega) ⟨rfl, rfl, rfl, rfl, rfl, rfl, rfl, rfl, trivial⟩ (fun w1 hw => hw.pick [1, 2, 3, 4] (by decide) rfl)
      ·refine TL.pk ?_
       refine zET (zd (zk (zT (zG ?_))))
       refine TL.rn 3 rfl ?_
       refine zE (zN (zT (zG ?_)))
       refine TL.v (gD ((j + 1 : Nat) : Int)) ?_
       refine TL.mv ?_
       refine zE ?_
       exact TX.round (⟨(j + 1, ((j : Nat) : Int), 0, (Ao, co), out), by dsimp only; omega, hD.lone hJ hx43 hw1 (by omega), by dsimp only; omega, hoc, hom⟩) (by show srt.length - (j + 1) < srt.length - j; omega) ⟨rfl, rfl, rfl, rfl, rfl, rfl, rfl, rfl, trivial⟩ (fun w1 hw => hw)
     ·refine TL.rn 4 rfl ?_
      refine zET (zd (zk (zT (zG ?_))))
      refine TL.rn 3 rfl ?_
      refine zE (zN (zT (zG ?_)))
      refine TL.v (gD ((j + 1 : Nat) : Int)) ?_
      refine TL.mv ?_
      refine zE ?_
      exact TX.round (⟨(j + 1, ((j : Nat) : Int), 0, (Ao, co), out), by dsimp only; omega, hD.lone hJ hx43 hw1 (by omega), by dsimp only; omega, hoc, hom⟩) (by show srt.length - (j + 1) < srt.length - j; omega) ⟨rfl, rfl, rfl, rfl, rfl, rfl, rfl, rfl, trivial⟩ (fun w1 hw => hw)
  ·refine zET (zS (zd (zx (zX (zX (zM (zT (zSG ?_))))))))
   refine TL.rn 2 rfl ?_
   refine zET (zr ?_)
   exact ret_tmp Tryz.results19 rfl (fun w1 hw => ⟨⟨((Ao, co), out), hD.dm hTm (by omega), hoc, hom⟩, rfl, hw.pick [0] (by decide) rfl⟩)
set_option maxHeartbeats 1000000 in
theorem rdiamonds_any (m : Mp) (w : World) (hr : Reads w w.heap.size 3 m.hops.A m.hops.l.length (flat Hpx.cells m.hops.l)) (hl1 : m.hops.l.length ≤ 100000) (hob : ∀ h ∈ m.hops.l, 1 ≤ h.ttl ∧ h.ttl ≤ 255) (hsrt : m.hops.l.Pairwise fun x y => x.ttl ≤ y.ttl) :
  Calls Tryz.prog 54 #[.agg m.cells.toArray] w fun e w' => ∃ x : {y : (Option Addr × Nat) × List Dm // IsDm (wid m.hops.l) y.2 ∧ y.2.length ≤ y.1.2 ∧ y.1.2 ≤ maxLen}, e = .returned (.slice x.1.1.1 x.1.2.length x.1.1.2) ∧ Pm w [.row (.slice x.1.1.1 x.1.2.length x.1.1.2) 58 3 x.1.2.length (flat Dm.cells x.1.2)] w' := by
 refine begin_ (vs := [.agg m.cells.toArray]) Tryz.func54 rfl rfl rfl ?_ (Pm.start w)
 refine zSG ?_
 refine TL.pnew rfl rfl rfl (exec_box (cs := m.cells) rfl rfl rfl) (fun g1 => ?_)
 refine TL.as_ ?_
 refine zET (zSG ?_)
 refine TL.as_ ?_
 refine zET (zS (zSG ?_))
 refine TL.as_ ?_
 refine zET (zB ?_)
 refine TC.nilrow 58 3 ?_
 refine TC.loop_ (α := {y : Nat × (Option Addr × Nat) × List Dm // y.1 ≤ m.hops.l.length ∧ (DmR (wid m.hops.l) (tlH m.hops.l) y.1 y.2.2) ∧ y.2.2.length ≤ y.1 ∧ y.2.2.length ≤ y.2.1.2 ∧ y.2.1.2 ≤ maxLen}) (fun y => [(1, .pointer (some ⟨g1, 0, none⟩)), (4, .int .i64 ((y.1.1 : Nat) : Int)), (3, .slice y.1.2.1.1 y.1.2.2.length y.1.2.1.2)]) (fun y => Pm w [.row (.slice y.1.2.1.1 y.1.2.2.length y.1.2.1.2) 58 3 y.1.2.2.length (flat Dm.cells y.1.2.2), .blk g1 36 m.cells]) (fun y => m.hops.l.length - y.1.1) (⟨(0, (none, 0), []), Nat.zero_le _, DmR.start, Nat.le_refl _, Nat.le_refl _, Nat.zero_le _⟩) ⟨rfl, rfl, rfl, trivial⟩ (fun w1 hw => hw) ?_
 rintro ⟨⟨i, ⟨Ao, co⟩, out⟩, hi, hout, houtl, houtc, houtm⟩
 dsimp only at hi hout houtl houtc houtm ⊢
 refine zS (zSG ?_)
 refine TL.mv ?_
 refine TL.v (gF pbdfld36_2) ?_
 refine TL.v (gL 1 pbdag33) ?_
 refine TL.v (gN Tryz.underlying33) ?_
 refine TL.sp bin_lss (fun q12 => ?_) (fun q12 => ?_)
 ·refine zET (zc (zk (zT (zS (zB (zSG ?_))))))
  refine TL.v (gF pbdfld36_2) ?_
  refine TL.v (gL 1 pbdag33) ?_
  refine TL.mv ?_
  have hi18 : i < m.hops.l.length := by omega
  obtain ⟨x18, hx18⟩ := ex_at hi18
  obtain ⟨b18, o18, hA18, hbb18, hc18⟩ := hr.ad (by omega) (by decide)
  have hxb := hob x18 (List.mem_of_getElem? hx18)
  refine TL.val rfl rfl rfl (gA (i := i) Tryz.underlying33 psmsz50 rfl rfl rfl rfl hA18 (by omega)) ?_
  refine TL.v (gF pcmfld50_0) ?_
  refine TL.v (gS 0 hp_cel pcmag3 hbb18 hx18 hc18) ?_
  refine TL.as_ ?_
  refine zET (zS (zS ?_))
  have hwl := wid_le m.hops.l x18.ttl
  refine zG ?_
  refine TL.v (gV 1 (.agg (m.cells).toArray) pbdag36 pbdsz36) ?_
  refine TL.mv ?_
  refine TL.pcall1 (r := .int .i64 ((wid m.hops.l (x18.ttl) : Nat) : Int)) rfl rfl rfl rfl rfl Tryz.func100 (by decide) rfl (fun w1 hw => width_any m x18.ttl w1 (hr.up hw.bel) hl1) ?_
  refine TL.sp bin_neq (fun q24 => ?_) (fun q24 => ?_)
  ·refine zET (zc (zx (zX (zM (zT (zG ?_))))))
   refine TL.mv ?_
   refine TL.v (gD ((i + 1 : Nat) : Int)) ?_
   refine TL.as_ ?_
   refine zE ?_
   exact TX.round (⟨(i + 1, (Ao, co), out), by dsimp only; omega, hout.wide (tlH_at hx18) (by omega), by dsimp only; omega, houtc, houtm⟩) (by show m.hops.l.length - (i + 1) < m.hops.l.length - i; omega) ⟨rfl, rfl, rfl, trivial⟩ (fun w1 hw => hw)
  ·refine zET (zd (zk (zT (zSG ?_))))
   refine TL.mv ?_
   refine TL.v (gD (x18.ttl + ((0 : Nat) : Int) + 1)) ?_
   refine TL.rn 2 rfl ?_
   refine zET (zS (zB ?_))
   refine TC.loop_ (α := {n : Nat // x18.ttl + n ≤ 255 ∧ ∀ j : Nat, 1 ≤ j → j ≤ n → 1 < wid m.hops.l (x18.ttl + j)}) (fun y => [(1, .pointer (some ⟨g1, 0, none⟩)), (3, .slice Ao out.length co), (4, .int .i64 ((i : Nat) : Int)), (5, .int .i64 x18.ttl), (6, .int .i64 ((mxn (wid m.hops.l) x18.ttl y.1 : Nat) : Int)), (7, .int .i64 (x18.ttl + ((y.1 : Nat) : Int) + 1))]) (fun y => Pm w [.row (.slice Ao out.length co) 58 3 out.length (flat Dm.cells out), .blk g1 36 m.cells]) (fun y => 300 - y.1) (⟨0, by omega, fun j h1 h2 => by omega⟩) ⟨rfl, rfl, rfl, rfl, rfl, rfl, trivial⟩ (fun w1 hw => hw) ?_
   rintro ⟨n, hnb, hnw⟩
   dsimp only at hnb hnw ⊢
   refine zS (zS ?_)
   have hwl2 := wid_le m.hops.l (x18.ttl + ((n : Nat) : Int) + 1)
   refine zG ?_
   refine TL.v (gV 1 (.agg (m.cells).toArray) pbdag36 pbdsz36) ?_
   refine TL.mv ?_
   refine TL.pcall1 (r := .int .i64 ((wid m.hops.l (x18.ttl + ((n : Nat) : Int) + 1) : Nat) : Int)) rfl rfl rfl rfl rfl Tryz.func100 (by decide) rfl (fun w1 hw => width_any m (x18.ttl + ((n : Nat) : Int) + 1) w1 (hr.up hw.bel) hl1) ?_
   refine TL.sp bin_gtr (fun q30 => ?_) (fun q30 => ?_)
   ·have hxr := wid_rng hob (t := x18.ttl + ((n : Nat) : Int) + 1) (by omega)
    refine zET (zc (zk (zT (zB (zSG ?_)))))
    refine TL.mv ?_
    refine TL.v (gV 1 (.agg (m.cells).toArray) pbdag36 pbdsz36) ?_
    refine TL.mv ?_
    refine TL.pcall1 (r := .int .i64 ((wid m.hops.l (x18.ttl + ((n : Nat) : Int) + 1) : Nat) : Int)) rfl rfl rfl rfl rfl Tryz.func100 (by decide) rfl (fun w1 hw => width_any m (x18.ttl + ((n : Nat) : Int) + 1) w1 (hr.up hw.bel) hl1) ?_
    refine TL.val rfl rfl rfl (gives_maxN rfl rfl rfl) ?_
    refine TL.as_ ?_
    refine zET (zG ?_)
    refine TL.mv ?_
    refine TL.v (gD (x18.ttl + ((n + 1 : Nat) : Int) + 1)) ?_
    refine TL.as_ ?_
    refine zE (zN ?_)
    exact TX.round (⟨n + 1, by omega, wide_snoc hnw (by omega)⟩) (by show 300 - (n + 1) < 300 - n; omega) ⟨rfl, rfl, rfl, rfl, rfl, rfl, trivial⟩ (fun w1 hw => hw)
   ·refine zET (zd (zx (zX (zX (zM (zT (zSG ?_)))))))
    refine TL.mv ?_
    refine TL.sp bin_gtr (fun q39 => ?_) (fun q39 => ?_)
    ·refine TL.mv ?_
     refine TL.ov (gV 1 (.agg (m.cells).toArray) pbdag36 pbdsz36) ?_
     refine TL.rn 1 rfl ?_
     refine TL.gu ?_
     refine TL.pcall1 (r := .int .i64 ((wid m.hops.l (x18.ttl + ((n : Nat) : Int) + 1) : Nat) : Int)) rfl rfl rfl rfl rfl Tryz.func100 (by decide) rfl (fun w1 hw => width_any m (x18.ttl + ((n : Nat) : Int) + 1) w1 (hr.up hw.bel) hl1) ?_
     refine TL.gu ?_
     refine TL.sp bin_eql (fun q44 => ?_) (fun q44 => ?_)
     ·refine TL.pk ?_
      refine zET (zc (zG ?_))
      refine TL.rn 4 rfl ?_
      refine TL.val rfl rfl rfl (gives_build (v := .agg #[.int .i64 x18.ttl, .int .i64 (x18.ttl + ((n : Nat) : Int) + 1), .int .i64 ((mxn (wid m.hops.l) x18.ttl n : Nat) : Int)]) rfl rfl (fun w => pdibld58_57326 _ _ _ w)) ?_
      refine TL.prowS (e := 58) (size := 3) (cs := flat Dm.cells [(⟨x18.ttl, x18.ttl + ((n : Nat) : Int) + 1, ((mxn (wid m.hops.l) x18.ttl n : Nat) : Int)⟩ : Dm)]) rfl rfl rfl rfl rfl (fun w => pdibs55_1_44646 _ _ _ w) (by decide) rfl (fun g51 => ?_)
      refine TL.appendT (k := 1) rfl rfl rfl rfl Tryz.underlying55 pdiel55 rfl rfl rfl (fun w1 hw => pm_reads hw (k := 0) rfl) (flat_one dm_cel _) (by show _ * 24 ≤ _; omega) ((out ++ [(⟨x18.ttl, x18.ttl + ((n : Nat) : Int) + 1, ((mxn (wid m.hops.l) x18.ttl n : Nat) : Int)⟩ : Dm)]).length) (by rw [List.length_append]; rfl) (flat Dm.cells (out ++ [(⟨x18.ttl, x18.ttl + ((n : Nat) : Int) + 1, ((mxn (wid m.hops.l) x18.ttl n : Nat) : Int)⟩ : Dm)])) ((flat_app _ _).symm) (fun A52 c52 hA521 hA522 => ?_)
      refine TL.as_ ?_
      refine zE (zN (zT (zG ?_)))
      refine TL.mv ?_
      refine TL.v (gD ((i + 1 : Nat) : Int)) ?_
      refine TL.as_ ?_
      refine zE ?_
      exact TX.round (⟨(i + 1, (A52, c52), out ++ [(⟨x18.ttl, x18.ttl + ((n : Nat) : Int) + 1, ((mxn (wid m.hops.l) x18.ttl n : Nat) : Int)⟩ : Dm)]), by dsimp only; omega, hout.yes (wid_cnt2 _) (tlH_asc hsrt) (tlH_at hx18) (by omega) hnw (by omega) (by omega), by dsimp only; rw [List.length_append]; show out.length + 1 ≤ _; omega, hA521, hA522⟩) (by show m.hops.l.length - (i + 1) < m.hops.l.length - i; omega) ⟨rfl, rfl, rfl, trivial⟩ (fun w1 hw => hw.pick [1, 2] (by decide) rfl)
     ·refine TL.pk ?_
      refine zET (zd (zk (zN (zT (zG ?_)))))
      refine TL.mv ?_
      refine TL.v (gD ((i + 1 : Nat) : Int)) ?_
      refine TL.as_ ?_
      refine zE ?_
      exact TX.round (⟨(i + 1, (Ao, co), out), by dsimp only; omega, hout.no (tlH_at hx18) hnw (by omega) (by omega), by dsimp only; omega, houtc, houtm⟩) (by show m.hops.l.length - (i + 1) < m.hops.l.length - i; omega) ⟨rfl, rfl, rfl, trivial⟩ (fun w1 hw => hw)
    ·refine TL.rn 6 rfl ?_
     refine zET (zd (zk (zN (zT (zG ?_)))))
     refine TL.mv ?_
     refine TL.v (gD ((i + 1 : Nat) : Int)) ?_
     refine TL.as_ ?_
     refine zE ?_
     exact TX.round (⟨(i + 1, (Ao, co), out), by dsimp only; omega, hout.no (tlH_at hx18) hnw (by omega) (by omega), by dsimp only; omega, houtc, houtm⟩) (by show m.hops.l.length - (i + 1) < m.hops.l.length - i; omega) ⟨rfl, rfl, rfl, trivial⟩ (fun w1 hw => hw)
 ·refine zET (zd (zx (zX (zX (zM (zT (zSG ?_)))))))
  refine TL.rn 2 rfl ?_
  refine zET (zr ?_)
  exact ret_tmp Tryz.results54 rfl (fun w1 hw => ⟨⟨((Ao, co), out), hout.dm (wid_cnt2 _) (by rw [tlH_len]; omega), houtc, houtm⟩, rfl, hw.pick [0] (by decide) rfl⟩)
end Go.Proofs.YtnejdeklnmkhbaaGreat
