/-
  Texts of the proof, joined: PtRs, PtAwk, OneLaw, PtMpa, PtRw, PtRat, PtRf, SymRdA, PtRh, RbLaw, PtRb.
-/
import Derived.Test.YtnejdeklnmkhbaaGreatPathsGraphsPk4
import Derived.Test.YtnejdeklnmkhbaaGreatPathsGraphsPk3
import Derived.Test.YtnejdeklnmkhbaaGreatPathsGraphsPk1
set_option linter.unusedVariables false
set_option linter.unusedSimpArgs false
namespace Go.Proofs.YtnejdeklnmkhbaaGreat
open Go.RowKit
set_option maxRecDepth 20000
section
variable {m z : Mp}
theorem mpEq_t (h1 : ¬ ((⟨m.tr.v, m.tr.dst, m.tr.proto⟩ : Trc) ≠ ⟨z.tr.v, z.tr.dst, z.tr.proto⟩)) (h2 : m.en = z.en) (h3 : listEq hopEq m.hops.l z.hops.l = true) (h4 : listEq edgEq m.edges.l z.edges.l = true) : mpEq m z = true := by
 have e : m.tr = z.tr := Decidable.not_not.1 h1
 simp [mpEq, e, h2, h3, h4]
theorem mpEq_f1 (h1 : (⟨m.tr.v, m.tr.dst, m.tr.proto⟩ : Trc) ≠ ⟨z.tr.v, z.tr.dst, z.tr.proto⟩) : mpEq m z = false := by
 have e : m.tr ≠ z.tr := h1
 simp [mpEq, e]
theorem mpEq_f2 (h : m.en ≠ z.en) : mpEq m z = false := by simp [mpEq, h]
theorem mpEq_f3 (h : listEq hopEq m.hops.l z.hops.l = false) : mpEq m z = false := by simp [mpEq, h]
theorem mpEq_f4 (h : listEq edgEq m.edges.l z.edges.l = false) : mpEq m z = false := by simp [mpEq, h]
end
set_option maxHeartbeats 1000000 in
theorem ints_any (A0 : Option Addr) (c0 : Nat) (l : List Int) (A1 : Option Addr) (c1 : Nat) (m : List Int) (w : World) (hr : Reads w w.heap.size 1 A0 l.length (flat (ic .i64) l)) (hr1 : Reads w w.heap.size 1 A1 m.length (flat (ic .i64) m)) (hl1 : l.length ≤ 100000) :
  Calls Tryz.prog 70 #[.slice A0 l.length c0, .slice A1 m.length c1] w fun e w' => e = .returned (.bool (decide (l = m))) ∧ Below w.heap.size w w' := by
 refine begin_ (vs := [.slice A0 l.length c0, .slice A1 m.length c1]) Tryz.func70 rfl rfl rfl ?_ (Pm.start w)
 refine zSG ?_
 refine TL.as_ ?_
 refine zET (zS (zSG ?_))
 refine TL.mv ?_
 refine TL.v (gN Tryz.underlying48) ?_
 refine TL.mv ?_
 refine TL.v (gN Tryz.underlying48) ?_
 refine TL.sp bin_neq (fun q10 => ?_) (fun q10 => ?_)
 ·refine zET (zc (zSG ?_))
  refine TL.as_ ?_
  refine zET (zr (zR ?_))
  exact ret_tmp Tryz.results70 rfl (fun w1 hw => ⟨by rw [decide_eq_false (fun h => by have := congrArg List.length h; omega)], hw.bel⟩)
 ·refine zET (zd (zk (zT (zS (zSG ?_)))))
  refine TL.as_ ?_
  refine zET (zB ?_)
  refine TC.loop_ (α := {i : Nat // i ≤ l.length ∧ ∀ j, j < i → l[j]? = m[j]?}) (fun y => [(0, .slice A0 l.length c0), (1, .slice A1 m.length c1), (5, .int .i64 ((y.1 : Nat) : Int))]) (fun y => Pm w []) (fun y => l.length - y.1) (⟨0, Nat.zero_le _, fun j hj => absurd hj (Nat.not_lt_zero _)⟩) ⟨rfl, rfl, rfl, trivial⟩ (fun w1 hw => hw) ?_
  rintro ⟨i, hi, he⟩
  try dsimp only at hi he ⊢
  refine zS (zSG ?_)
  refine TL.rn 2 rfl ?_
  refine TL.v (gN Tryz.underlying48) ?_
  refine TL.sp bin_lss (fun q14 => ?_) (fun q14 => ?_)
  ·refine zET (zc (zk (zT (zS (zB (zS ?_))))))
   refine TC.quietQ (by kernel_rfl) (by kernel_rfl) (fun w hw => hw.drawn _) ?_
   refine TQ.rn 2 rfl ?_
   have hi19 : i < l.length := by omega
   obtain ⟨x19, hx19⟩ := ex_at hi19
   obtain ⟨b19, o19, hA19, hbb19, hc19⟩ := hr.ad (by omega) (by decide)
   refine TQ.val rfl rfl rfl (gA (i := i) Tryz.underlying48 pcmsz3 rfl rfl rfl rfl hA19 (by omega)) ?_
   refine TQ.val rfl rfl rfl (gives_load (v := .int .i64 x19) rfl rfl pcmag3 (fun w1 hw => (hw.bel.cell hbb19).trans <| flat_cell (ic_cel .i64) hx19 hc19 0 _ rfl)) ?_
   refine TQ.rn 2 rfl ?_
   have hi23 : i < m.length := by omega
   obtain ⟨x23, hx23⟩ := ex_at hi23
   obtain ⟨b23, o23, hA23, hbb23, hc23⟩ := hr1.ad (by omega) (by decide)
   refine TQ.val rfl rfl rfl (gA (i := i) Tryz.underlying48 pcmsz3 rfl rfl rfl rfl hA23 (by omega)) ?_
   refine TQ.val rfl rfl rfl (gives_load (v := .int .i64 x23) rfl rfl pcmag3 (fun w1 hw => (hw.bel.cell hbb23).trans <| flat_cell (ic_cel .i64) hx23 hc23 0 _ rfl)) ?_
   refine TQ.sp bin_neq (fun q25 => ?_) (fun q25 => ?_)
   ·refine TQ.fin ?_
    refine zT (zc (zSG ?_))
    refine TL.as_ ?_
    refine zET (zr (zRR (zR (zRR ?_))))
    exact ret_tmp Tryz.results70 rfl (fun w1 hw => ⟨by rw [decide_eq_false (fun h => by rw [h, hx23] at hx19; exact q25 (Option.some.inj hx19).symm)], hw.bel⟩)
   ·have he2 : ∀ j, j < i + 1 → l[j]? = m[j]? := fun j hj => by
     rcases Nat.lt_or_ge j i with h9 | h9
     ·exact he j h9
     ·obtain rfl : j = i := by omega
      rw [hx19, hx23, Decidable.not_not.1 q25]
    refine TQ.fin ?_
    refine zT (zd (zk (zN (zT (zG ?_)))))
    refine TL.mv ?_
    refine TL.v (gD ((i + 1 : Nat) : Int)) ?_
    refine TL.as_ ?_
    refine zE ?_
    exact TX.round (⟨i + 1, by omega, he2⟩) (by show l.length - (i + 1) < l.length - i; omega) ⟨rfl, rfl, rfl, trivial⟩ (fun w1 hw => hw)
  ·refine zET (zd (zx (zX (zX (zM (zT (zSG ?_)))))))
   refine TL.as_ ?_
   refine zET (zr ?_)
   exact ret_tmp Tryz.results70 rfl (fun w1 hw => ⟨by rw [decide_eq_true (List.ext_getElem? fun j => if h9 : j < i then he j h9 else by rw [List.getElem?_eq_none (by omega), List.getElem?_eq_none (by omega)])], hw.bel⟩)
set_option maxHeartbeats 1000000 in
theorem sameA_any (A0 : Option Addr) (c0 : Nat) (l : List Int) (A1 : Option Addr) (c1 : Nat) (m : List Int) (w : World) (hr : Reads w w.heap.size 1 A0 l.length (flat (ic .u32) l)) (hr1 : Reads w w.heap.size 1 A1 m.length (flat (ic .u32) m)) (hl1 : l.length ≤ 100000) :
  Calls Tryz.prog 51 #[.slice A0 l.length c0, .slice A1 m.length c1] w fun e w' => e = .returned (.bool (decide (l = m))) ∧ Below w.heap.size w w' := by
 refine begin_ (vs := [.slice A0 l.length c0, .slice A1 m.length c1]) Tryz.func51 rfl rfl rfl ?_ (Pm.start w)
 refine zSG ?_
 refine TL.as_ ?_
 refine zET (zS (zSG ?_))
 refine TL.mv ?_
 refine TL.v (gN Tryz.underlying64) ?_
 refine TL.mv ?_
 refine TL.v (gN Tryz.underlying64) ?_
 refine TL.sp bin_neq (fun q10 => ?_) (fun q10 => ?_)
 ·refine zET (zc (zSG ?_))
  refine TL.as_ ?_
  refine zET (zr (zR ?_))
  exact ret_tmp Tryz.results51 rfl (fun w1 hw => ⟨by rw [decide_eq_false (fun h => by have := congrArg List.length h; omega)], hw.bel⟩)
 ·refine zET (zd (zk (zT (zS (zSG ?_)))))
  refine TL.as_ ?_
  refine zET (zB ?_)
  refine TC.loop_ (α := {i : Nat // i ≤ l.length ∧ ∀ j, j < i → l[j]? = m[j]?}) (fun y => [(0, .slice A0 l.length c0), (1, .slice A1 m.length c1), (5, .int .i64 ((y.1 : Nat) : Int))]) (fun y => Pm w []) (fun y => l.length - y.1) (⟨0, Nat.zero_le _, fun j hj => absurd hj (Nat.not_lt_zero _)⟩) ⟨rfl, rfl, rfl, trivial⟩ (fun w1 hw => hw) ?_
  rintro ⟨i, hi, he⟩
  try dsimp only at hi he ⊢
  refine zS (zSG ?_)
  refine TL.rn 2 rfl ?_
  refine TL.v (gN Tryz.underlying64) ?_
  refine TL.sp bin_lss (fun q14 => ?_) (fun q14 => ?_)
  ·refine zET (zc (zk (zT (zS (zB (zS ?_))))))
   refine TC.quietQ (by kernel_rfl) (by kernel_rfl) (fun w hw => hw.drawn _) ?_
   refine TQ.rn 2 rfl ?_
   have hi19 : i < l.length := by omega
   obtain ⟨x19, hx19⟩ := ex_at hi19
   obtain ⟨b19, o19, hA19, hbb19, hc19⟩ := hr.ad (by omega) (by decide)
   refine TQ.val rfl rfl rfl (gA (i := i) Tryz.underlying64 dntsz30 rfl rfl rfl rfl hA19 (by omega)) ?_
   refine TQ.val rfl rfl rfl (gives_load (v := .int .u32 x19) rfl rfl pcmag30 (fun w1 hw => (hw.bel.cell hbb19).trans <| flat_cell (ic_cel .u32) hx19 hc19 0 _ rfl)) ?_
   refine TQ.rn 2 rfl ?_
   have hi23 : i < m.length := by omega
   obtain ⟨x23, hx23⟩ := ex_at hi23
   obtain ⟨b23, o23, hA23, hbb23, hc23⟩ := hr1.ad (by omega) (by decide)
   refine TQ.val rfl rfl rfl (gA (i := i) Tryz.underlying64 dntsz30 rfl rfl rfl rfl hA23 (by omega)) ?_
   refine TQ.val rfl rfl rfl (gives_load (v := .int .u32 x23) rfl rfl pcmag30 (fun w1 hw => (hw.bel.cell hbb23).trans <| flat_cell (ic_cel .u32) hx23 hc23 0 _ rfl)) ?_
   refine TQ.sp bin_neq (fun q25 => ?_) (fun q25 => ?_)
   ·refine TQ.fin ?_
    refine zT (zc (zSG ?_))
    refine TL.as_ ?_
    refine zET (zr (zRR (zR (zRR ?_))))
    exact ret_tmp Tryz.results51 rfl (fun w1 hw => ⟨by rw [decide_eq_false (fun h => by rw [h, hx23] at hx19; exact q25 (Option.some.inj hx19).symm)], hw.bel⟩)
   ·have he2 : ∀ j, j < i + 1 → l[j]? = m[j]? := fun j hj => by
     rcases Nat.lt_or_ge j i with h9 | h9
     ·exact he j h9
     ·obtain rfl : j = i := by omega
      rw [hx19, hx23, Decidable.not_not.1 q25]
    refine TQ.fin ?_
    refine zT (zd (zk (zN (zT (zG ?_)))))
    refine TL.mv ?_
    refine TL.v (gD ((i + 1 : Nat) : Int)) ?_
    refine TL.as_ ?_
    refine zE ?_
    exact TX.round (⟨i + 1, by omega, he2⟩) (by show l.length - (i + 1) < l.length - i; omega) ⟨rfl, rfl, rfl, trivial⟩ (fun w1 hw => hw)
  ·refine zET (zd (zx (zX (zX (zM (zT (zSG ?_)))))))
   refine TL.as_ ?_
   refine zET (zr ?_)
   exact ret_tmp Tryz.results51 rfl (fun w1 hw => ⟨by rw [decide_eq_true (List.ext_getElem? fun j => if h9 : j < i then he j h9 else by rw [List.getElem?_eq_none (by omega), List.getElem?_eq_none (by omega)])], hw.bel⟩)
set_option maxHeartbeats 1000000 in
theorem samehops_any (A0 : Option Addr) (c0 : Nat) (l : List Hpx) (A1 : Option Addr) (c1 : Nat) (m : List Hpx) (w : World) (hr : Reads w w.heap.size 3 A0 l.length (flat Hpx.cells l)) (hr1 : Reads w w.heap.size 3 A1 m.length (flat Hpx.cells m)) (hl1 : l.length ≤ 100000) (hs : ∀ x ∈ l, Reads w w.heap.size 1 x.fl.A x.fl.l.length (flat (ic .i64) x.fl.l) ∧ x.fl.l.length ≤ 100000) (hs1 : ∀ x ∈ m, Reads w w.heap.size 1 x.fl.A x.fl.l.length (flat (ic .i64) x.fl.l)) :
  Calls Tryz.prog 69 #[.slice A0 l.length c0, .slice A1 m.length c1] w fun e w' => e = .returned (.bool (listEq hopEq l m)) ∧ Below w.heap.size w w' := by
 refine begin_ (vs := [.slice A0 l.length c0, .slice A1 m.length c1]) Tryz.func69 rfl rfl rfl ?_ (Pm.start w)
 refine zSG ?_
 refine TL.as_ ?_
 refine zET (zS (zSG ?_))
 refine TL.mv ?_
 refine TL.v (gN Tryz.underlying33) ?_
 refine TL.mv ?_
 refine TL.v (gN Tryz.underlying33) ?_
 refine TL.vsplit rfl rfl rfl (gives_bin rfl rfl rfl (fun w => bin_neq w)) (fun h10 => ?_) (fun h10 => ?_)
 ·have q10 := of_decide_eq_true h10
  refine zET (zc (zSG ?_))
  refine TL.as_ ?_
  refine zET (zr (zR ?_))
  exact ret_tmp Tryz.results69 rfl (fun w1 hw => ⟨by rw [listEq_len (by omega)], hw.bel⟩)
 ·have q10 := of_decide_eq_false h10
  refine zET (zd (zk (zT (zS (zSG ?_)))))
  refine TL.as_ ?_
  refine zET (zB ?_)
  refine TC.loop_ (α := {i : Nat // i ≤ l.length ∧ ∀ (j : Nat) (x z : Hpx), j < i → l[j]? = some x → m[j]? = some z → hopEq x z = true}) (fun y => [(0, .slice A0 l.length c0), (1, .slice A1 m.length c1), (5, .int .i64 ((y.1 : Nat) : Int))]) (fun y => Pm w []) (fun y => l.length - y.1) (⟨0, Nat.zero_le _, fun j x z hj => absurd hj (Nat.not_lt_zero _)⟩) ⟨rfl, rfl, rfl, trivial⟩ (fun w1 hw => hw) ?_
  rintro ⟨i, hi, he⟩
  try dsimp only at hi he ⊢
  refine zS (zSG ?_)
  refine TL.rn 2 rfl ?_
  refine TL.v (gN Tryz.underlying33) ?_
  refine TL.sp bin_lss (fun q14 => ?_) (fun q14 => ?_)
  ·refine zET (zc (zk (zT (zS (zB (zS ?_))))))
   refine TC.quietQ (by kernel_rfl) (by kernel_rfl) (fun w hw => hw.drawn _) ?_
   refine TQ.rn 2 rfl ?_
   have hi19 : i < l.length := by omega
   obtain ⟨x19, hx19⟩ := ex_at hi19
   obtain ⟨b19, o19, hA19, hbb19, hc19⟩ := hr.ad (by omega) (by decide)
   refine TQ.val rfl rfl rfl (gA (i := i) Tryz.underlying33 psmsz50 rfl rfl rfl rfl hA19 (by omega)) ?_
   refine TQ.v (gF pcmfld50_0) ?_
   refine TQ.v (gS 0 hp_cel pcmag3 hbb19 hx19 hc19) ?_
   refine TQ.rn 2 rfl ?_
   have hi24 : i < m.length := by omega
   obtain ⟨x24, hx24⟩ := ex_at hi24
   obtain ⟨b24, o24, hA24, hbb24, hc24⟩ := hr1.ad (by omega) (by decide)
   refine TQ.val rfl rfl rfl (gA (i := i) Tryz.underlying33 psmsz50 rfl rfl rfl rfl hA24 (by omega)) ?_
   refine TQ.v (gF pcmfld50_0) ?_
   refine TQ.v (gS 0 hp_cel pcmag3 hbb24 hx24 hc24) ?_
   refine TQ.sp bin_neq (fun q27 => ?_) (fun q27 => ?_)
   ·refine TQ.rn 27 rfl ?_
    refine TQ.fin ?_
    refine zT (zc (zSG ?_))
    refine TL.as_ ?_
    refine zET (zr (zRR (zR (zRR ?_))))
    exact ret_tmp Tryz.results69 rfl (fun w1 hw => ⟨by rw [listEq_f hx19 hx24 (by simp [hopEq, q14, q27] <;> omega)], hw.bel⟩)
   ·refine TQ.rn 3 rfl ?_
    refine TQ.on rfl rfl rfl ?_
    refine TQ.val rfl rfl rfl (gA (i := i) Tryz.underlying33 psmsz50 rfl rfl rfl rfl hA19 (by omega)) ?_
    refine TQ.ov (gF pcmfld50_1) ?_
    refine TQ.ov (gS 1 hp_cel pcmag30 hbb19 hx19 hc19) ?_
    refine TQ.rn 2 rfl ?_
    refine TQ.on rfl rfl rfl ?_
    refine TQ.val rfl rfl rfl (gA (i := i) Tryz.underlying33 psmsz50 rfl rfl rfl rfl hA24 (by omega)) ?_
    refine TQ.ov (gF pcmfld50_1) ?_
    refine TQ.ov (gS 1 hp_cel pcmag30 hbb24 hx24 hc24) ?_
    refine TQ.on rfl rfl rfl ?_
    refine TQ.sp bin_neq (fun q39 => ?_) (fun q39 => ?_)
    ·refine TQ.rn 15 rfl ?_
     refine TQ.fin ?_
     refine zT (zc (zSG ?_))
     refine TL.as_ ?_
     refine zET (zr (zRR (zR (zRR ?_))))
     exact ret_tmp Tryz.results69 rfl (fun w1 hw => ⟨by rw [listEq_f hx19 hx24 (by simp [hopEq, q14, q27, q39] <;> omega)], hw.bel⟩)
    ·refine TQ.rn 4 rfl ?_
     refine TQ.on rfl rfl rfl ?_
     refine TQ.val rfl rfl rfl (gA (i := i) Tryz.underlying33 psmsz50 rfl rfl rfl rfl hA19 (by omega)) ?_
     refine TQ.ov (gF psmfld50_2) ?_
     refine TQ.ov (gS 2 hp_cel psmag48 hbb19 hx19 hc19) ?_
     refine TQ.rn 2 rfl ?_
     refine TQ.on rfl rfl rfl ?_
     refine TQ.val rfl rfl rfl (gA (i := i) Tryz.underlying33 psmsz50 rfl rfl rfl rfl hA24 (by omega)) ?_
     refine TQ.ov (gF psmfld50_2) ?_
     refine TQ.ov (gS 2 hp_cel psmag48 hbb24 hx24 hc24) ?_
     refine TQ.on rfl rfl rfl ?_
     refine TQ.callsplit rfl rfl rfl rfl rfl Tryz.func70 (by decide) rfl (fun w1 hw => ints_any x19.fl.A x19.fl.c x19.fl.l x24.fl.A x24.fl.c x24.fl.l w1 ((hs x19 (List.mem_of_getElem? hx19)).1.up hw.bel) ((hs1 x24 (List.mem_of_getElem? hx24)).up hw.bel) (hs x19 (List.mem_of_getElem? hx19)).2) (fun h52 => ?_) (fun h52 => ?_)
     ·have q52 := of_decide_eq_true h52
      refine TQ.rn 2 rfl ?_
      refine TQ.fin ?_
      refine zT (zd (zk (zN (zT (zG ?_)))))
      refine TL.mv ?_
      refine TL.v (gD ((i + 1 : Nat) : Int)) ?_
      refine TL.as_ ?_
      refine zE ?_
      exact TX.round (⟨i + 1, by omega, all_snoc he hx19 hx24 (by simp [hopEq, q14, q27, q39, q52] <;> omega)⟩) (by show l.length - (i + 1) < l.length - i; omega) ⟨rfl, rfl, rfl, trivial⟩ (fun w1 hw => hw)
     ·have q52 := of_decide_eq_false h52
      refine TQ.rn 2 rfl ?_
      refine TQ.fin ?_
      refine zT (zc (zSG ?_))
      refine TL.as_ ?_
      refine zET (zr (zRR (zR (zRR ?_))))
      exact ret_tmp Tryz.results69 rfl (fun w1 hw => ⟨by rw [listEq_f hx19 hx24 (by simp [hopEq, q14, q27, q39, q52] <;> omega)], hw.bel⟩)
  ·refine zET (zd (zx (zX (zX (zM (zT (zSG ?_)))))))
   refine TL.as_ ?_
   refine zET (zr ?_)
   exact ret_tmp Tryz.results69 rfl (fun w1 hw => ⟨by rw [listEq_t (by omega) (fun j x z h8 h9 h10 => he j x z (by omega) h9 h10)], hw.bel⟩)
set_option maxHeartbeats 1000000 in
theorem rsame_any (m z : Mp) (w : World) (hm : MpR w m) (hz : MpR w z) :
  Calls Tryz.prog 16 #[.agg m.cells.toArray, .agg z.cells.toArray] w fun e w' => e = .returned (.bool (mpEq m z)) ∧ Below w.heap.size w w' := by
 refine begin_ (vs := [.agg m.cells.toArray, .agg z.cells.toArray]) Tryz.func16 rfl rfl rfl ?_ (Pm.start w)
 refine zSG ?_
 refine TL.pnew rfl rfl rfl (exec_box (cs := m.cells) rfl rfl rfl) (fun g2 => ?_)
 refine TL.pnew rfl rfl rfl (exec_box (cs := z.cells) rfl rfl rfl) (fun g3 => ?_)
 refine TL.as_ ?_
 refine zET (zS (zSG ?_))
 refine TL.v (gF psmfld36_0) ?_
 refine TL.v (gV 1 (.agg #[.int .i64 m.tr.v, .int .u32 m.tr.dst, .int .i64 m.tr.proto]) pcpag32 prssz32) ?_
 refine TL.v (gF psmfld36_0) ?_
 refine TL.v (gV 0 (.agg #[.int .i64 z.tr.v, .int .u32 z.tr.dst, .int .i64 z.tr.proto]) pcpag32 prssz32) ?_
 refine TL.vsplit rfl rfl rfl (gives_bin2 rfl rfl rfl (fun w => trc_neqd (⟨m.tr.v, m.tr.dst, m.tr.proto⟩ : Trc) (⟨z.tr.v, z.tr.dst, z.tr.proto⟩ : Trc) _ _ w)) (fun h12 => ?_) (fun h12 => ?_)
 ·have q12 := of_decide_eq_true h12
  refine TL.rn 24 rfl ?_
  refine zET (zc (zSG ?_))
  refine TL.as_ ?_
  refine zET (zr (zR ?_))
  have hE : mpEq m z = false := mpEq_f1 q12
  exact ret_tmp Tryz.results16 rfl (fun w1 hw => ⟨by rw [hE], hw.bel⟩)
 ·have q12 := of_decide_eq_false h12
  refine TL.mv ?_
  refine TL.ov (gF psmfld36_1) ?_
  refine TL.ov (gL 1 pcmag3) ?_
  refine TL.ov (gF psmfld36_1) ?_
  refine TL.ov (gL 0 pcmag3) ?_
  refine TL.gu ?_
  refine TL.sp bin_neq (fun q18 => ?_) (fun q18 => ?_)
  ·refine TL.rn 18 rfl ?_
   refine zET (zc (zSG ?_))
   refine TL.as_ ?_
   refine zET (zr (zR ?_))
   have hE : mpEq m z = false := mpEq_f2 (by omega)
   exact ret_tmp Tryz.results16 rfl (fun w1 hw => ⟨by rw [hE], hw.bel⟩)
  ·refine TL.rn 2 rfl ?_
   refine TL.ov (gF pbdfld36_2) ?_
   refine TL.ov (gL 1 pbdag33) ?_
   refine TL.ov (gF pbdfld36_2) ?_
   refine TL.ov (gL 0 pbdag33) ?_
   refine TL.gu ?_
   refine TL.callsplit rfl rfl rfl rfl rfl Tryz.func69 (by decide) rfl (fun w1 hw => samehops_any m.hops.A m.hops.c m.hops.l z.hops.A z.hops.c z.hops.l w1 (hm.hops.up hw.bel) (hz.hops.up hw.bel) hm.nhops (fun x hx => ⟨(hm.shops x hx).1.up hw.bel, (hm.shops x hx).2⟩) (fun x hx => (hz.shops x hx).1.up hw.bel)) (fun h25 => ?_) (fun h25 => ?_)
   ·refine TL.rn 3 rfl ?_
    refine TL.ov (gF pbdfld36_3) ?_
    refine TL.ov (gL 1 pbdag34) ?_
    refine TL.ov (gN Tryz.underlying34) ?_
    refine TL.ov (gF pbdfld36_3) ?_
    refine TL.ov (gL 0 pbdag34) ?_
    refine TL.ov (gN Tryz.underlying34) ?_
    refine TL.gu ?_
    refine TL.sp bin_neq (fun q35 => ?_) (fun q35 => ?_)
    ·refine TL.pk ?_
     refine zET (zc (zSG ?_))
     refine TL.as_ ?_
     refine zET (zr (zR ?_))
     have hE : mpEq m z = false := mpEq_f4 (listEq_len (by omega))
     exact ret_tmp Tryz.results16 rfl (fun w1 hw => ⟨by rw [hE], hw.bel⟩)
    ·refine TL.pk ?_
     refine zET (zd (zk (zT (zS (zSG ?_)))))
     refine TL.as_ ?_
     refine zET (zB ?_)
     refine TC.loop_ (α := {i : Nat // i ≤ m.edges.l.length ∧ ∀ (j : Nat) (x y : Ed), j < i → m.edges.l[j]? = some x → z.edges.l[j]? = some y → edgEq x y = true}) (fun y => [(2, .pointer (some ⟨g2, 0, none⟩)), (3, .pointer (some ⟨g3, 0, none⟩)), (5, .int .i64 ((y.1 : Nat) : Int))]) (fun y => Pm w [.blk g3 36 z.cells, .blk g2 36 m.cells]) (fun y => m.edges.l.length - y.1) (⟨0, Nat.zero_le _, fun j x z hj => absurd hj (Nat.not_lt_zero _)⟩) ⟨rfl, rfl, rfl, trivial⟩ (fun w1 hw => hw) ?_
     rintro ⟨i, hi, he⟩
     try dsimp only at hi he ⊢
     refine zS (zS ?_)
     have hne := hm.nedges
     refine zG ?_
     refine TL.mv ?_
     refine TL.v (gF pbdfld36_3) ?_
     refine TL.v (gL 1 pbdag34) ?_
     refine TL.v (gN Tryz.underlying34) ?_
     refine TL.sp bin_lss (fun q41 => ?_) (fun q41 => ?_)
     ·refine zET (zc (zk (zT (zS (zB (zS ?_))))))
      refine TC.held (ls := #[Ff,Ff,Ff,Ff,Ff,Ff,Ff,Ff,Ff,Ff,Ff,Ff,Ff,Ff]) (Pm w [.blk g3 36 z.cells, .blk g2 36 m.cells]) (by kernel_rfl) rfl rfl (fun w hw => hw.drawn _) ?_
      refine TH.tk 0 rfl rfl rfl (gF pbdfld36_3) (fun w1 hw => hw) ?_
      refine TH.tk 1 rfl rfl rfl (gL 1 pbdag34) (fun w1 hw => hw) ?_
      refine TH.tk 2 rfl rfl rfl (gives_move rfl rfl) (fun w1 hw => hw) ?_
      have hi47 : i < m.edges.l.length := by omega
      obtain ⟨x47, hx47⟩ := ex_at hi47
      obtain ⟨b47, o47, hA47, hbb47, hc47⟩ := hm.edges.ad (by omega) (by decide)
      refine TH.tk 3 rfl rfl rfl (gA (i := i) Tryz.underlying34 pwisz63 rfl rfl rfl rfl hA47 (by omega)) (fun w1 hw => hw) ?_
      refine TH.tk 4 rfl rfl rfl (gR ed_cel pwiag63 pwisz63 hbb47 hx47 hc47) (fun w1 hw => hw) ?_
      refine TH.tk 5 rfl rfl rfl (gF pbdfld36_3) (fun w1 hw => hw) ?_
      refine TH.tk 6 rfl rfl rfl (gL 0 pbdag34) (fun w1 hw => hw) ?_
      refine TH.tk 7 rfl rfl rfl (gives_move rfl rfl) (fun w1 hw => hw) ?_
      have hi52 : i < z.edges.l.length := by omega
      obtain ⟨x52, hx52⟩ := ex_at hi52
      obtain ⟨b52, o52, hA52, hbb52, hc52⟩ := hz.edges.ad (by omega) (by decide)
      refine TH.tk 8 rfl rfl rfl (gA (i := i) Tryz.underlying34 pwisz63 rfl rfl rfl rfl hA52 (by omega)) (fun w1 hw => hw) ?_
      refine TH.tk 9 rfl rfl rfl (gR ed_cel pwiag63 pwisz63 hbb52 hx52 hc52) (fun w1 hw => hw) ?_
      refine TH.two' (listed1 := #[Tt,Tt,Tt,Tt,Tt,Tt,Tt,Tt,Tt,Tt,Tt,Ff,Ff,Ff]) (listed2 := #[Tt,Tt,Tt,Tt,Tt,Tt,Tt,Tt,Tt,Tt,Ff,Tt,Ff,Ff]) 10 11 rfl rfl (by kernel_rfl) rfl rfl ?_ ?_
      ·refine TL.pnew rfl rfl rfl (exec_alloc (cs := [.int .i64 0, .int .u32 0, .int .u32 0, .slice none 0 0]) rfl pwizv63 rfl) (fun g6 => ?_)
       refine zE ?_
       refine TX.held (fun w1 hw => hw.pick [1, 2] (by decide) rfl) ?_
       refine TH.only' 11 rfl (by kernel_rfl) rfl ?_
       refine TL.pnew rfl rfl rfl (exec_alloc (cs := [.int .i64 0, .int .u32 0, .int .u32 0, .slice none 0 0]) rfl pwizv63 rfl) (fun g7 => ?_)
       refine zE ?_
       refine TX.held (fun w1 hw => hw.pick [2, 3] (by decide) rfl) ?_
       refine TH.only' 12 rfl (by kernel_rfl) rfl ?_
       refine TL.pstore (k := 1) (vs := x47.cells) rfl rfl rfl rfl rfl rfl rfl pwisz63 (ed_cel.one _) (by show 4 ≤ 4; decide) rfl ?_
       refine zE ?_
       refine TX.held (fun w1 hw => hw.pick [2, 3] (by decide) rfl) ?_
       refine TH.only' 13 rfl (by kernel_rfl) rfl ?_
       refine TL.pstore (k := 0) (vs := x52.cells) rfl rfl rfl rfl rfl rfl rfl pwisz63 (ed_cel.one _) (by show 4 ≤ 4; decide) rfl ?_
       refine zE ?_
       refine TX.held (fun w1 hw => hw.pick [2, 3] (by decide) rfl) ?_
       refine TH.done (by kernel_rfl) ?_
       refine zT (zSG ?_)
       refine TL.v (gF pcmfld63_0) ?_
       refine TL.v (gL 1 pcmag3) ?_
       refine TL.v (gF pcmfld63_0) ?_
       refine TL.v (gL 0 pcmag3) ?_
       refine TL.sp bin_neq (fun q58 => ?_) (fun q58 => ?_)
       ·refine TL.rn 22 rfl ?_
        refine zET (zc (zSG ?_))
        refine TL.as_ ?_
        refine zET (zr (zRR (zR (zRR ?_))))
        have hE : mpEq m z = false := mpEq_f4 (listEq_f hx47 hx52 (by simp [edgEq, q41, q58] <;> omega))
        exact ret_tmp Tryz.results16 rfl (fun w1 hw => ⟨by rw [hE], hw.bel⟩)
       ·refine TL.mv ?_
        refine TL.ov (gF pcmfld63_1) ?_
        refine TL.ov (gL 1 pcmag30) ?_
        refine TL.ov (gF pcmfld63_1) ?_
        refine TL.ov (gL 0 pcmag30) ?_
        refine TL.gu ?_
        refine TL.sp bin_neq (fun q64 => ?_) (fun q64 => ?_)
        ·refine TL.rn 16 rfl ?_
         refine zET (zc (zSG ?_))
         refine TL.as_ ?_
         refine zET (zr (zRR (zR (zRR ?_))))
         have hE : mpEq m z = false := mpEq_f4 (listEq_f hx47 hx52 (by simp [edgEq, q41, q58, q64] <;> omega))
         exact ret_tmp Tryz.results16 rfl (fun w1 hw => ⟨by rw [hE], hw.bel⟩)
        ·refine TL.rn 2 rfl ?_
         refine TL.ov (gF pcmfld63_2) ?_
         refine TL.ov (gL 1 pcmag30) ?_
         refine TL.ov (gF pcmfld63_2) ?_
         refine TL.ov (gL 0 pcmag30) ?_
         refine TL.gu ?_
         refine TL.sp bin_neq (fun q71 => ?_) (fun q71 => ?_)
         ·refine TL.rn 9 rfl ?_
          refine zET (zc (zSG ?_))
          refine TL.as_ ?_
          refine zET (zr (zRR (zR (zRR ?_))))
          have hE : mpEq m z = false := mpEq_f4 (listEq_f hx47 hx52 (by simp [edgEq, q41, q58, q64, q71] <;> omega))
          exact ret_tmp Tryz.results16 rfl (fun w1 hw => ⟨by rw [hE], hw.bel⟩)
         ·refine TL.rn 2 rfl ?_
          refine TL.ov (gF psmfld63_3) ?_
          refine TL.ov (gL 1 psmag48) ?_
          refine TL.ov (gF psmfld63_3) ?_
          refine TL.ov (gL 0 psmag48) ?_
          refine TL.gu ?_
          refine TL.callsplit rfl rfl rfl rfl rfl Tryz.func70 (by decide) rfl (fun w1 hw => ints_any x47.fl.A x47.fl.c x47.fl.l x52.fl.A x52.fl.c x52.fl.l w1 ((hm.sedges x47 (List.mem_of_getElem? hx47)).1.up hw.bel) ((hz.sedges x52 (List.mem_of_getElem? hx52)).1.up hw.bel) (hm.sedges x47 (List.mem_of_getElem? hx47)).2) (fun h78 => ?_) (fun h78 => ?_)
          ·have q78 := of_decide_eq_true h78
           refine TL.rn 2 rfl ?_
           refine zET (zd (zk (zN (zT (zG ?_)))))
           refine TL.mv ?_
           refine TL.v (gD ((i + 1 : Nat) : Int)) ?_
           refine TL.as_ ?_
           refine zE ?_
           exact TX.round (⟨i + 1, by omega, all_snoc he hx47 hx52 (by simp [edgEq, q41, q58, q64, q71, q78] <;> omega)⟩) (by show m.edges.l.length - (i + 1) < m.edges.l.length - i; omega) ⟨rfl, rfl, rfl, trivial⟩ (fun w1 hw => hw.pick [2, 3] (by decide) rfl)
          ·have q78 := of_decide_eq_false h78
           refine TL.rn 2 rfl ?_
           refine zET (zc (zSG ?_))
           refine TL.as_ ?_
           refine zET (zr (zRR (zR (zRR ?_))))
           have hE : mpEq m z = false := mpEq_f4 (listEq_f hx47 hx52 (by simp [edgEq, q41, q58, q64, q71, q78] <;> omega))
           exact ret_tmp Tryz.results16 rfl (fun w1 hw => ⟨by rw [hE], hw.bel⟩)
      ·refine TL.pnew rfl rfl rfl (exec_alloc (cs := [.int .i64 0, .int .u32 0, .int .u32 0, .slice none 0 0]) rfl pwizv63 rfl) (fun g7 => ?_)
       refine zE ?_
       refine TX.held (fun w1 hw => hw.pick [1, 2] (by decide) rfl) ?_
       refine TH.only' 10 rfl (by kernel_rfl) rfl ?_
       refine TL.pnew rfl rfl rfl (exec_alloc (cs := [.int .i64 0, .int .u32 0, .int .u32 0, .slice none 0 0]) rfl pwizv63 rfl) (fun g6 => ?_)
       refine zE ?_
       refine TX.held (fun w1 hw => hw.pick [2, 3] (by decide) rfl) ?_
       refine TH.only' 12 rfl (by kernel_rfl) rfl ?_
       refine TL.pstore (k := 0) (vs := x47.cells) rfl rfl rfl rfl rfl rfl rfl pwisz63 (ed_cel.one _) (by show 4 ≤ 4; decide) rfl ?_
       refine zE ?_
       refine TX.held (fun w1 hw => hw.pick [2, 3] (by decide) rfl) ?_
       refine TH.only' 13 rfl (by kernel_rfl) rfl ?_
       refine TL.pstore (k := 1) (vs := x52.cells) rfl rfl rfl rfl rfl rfl rfl pwisz63 (ed_cel.one _) (by show 4 ≤ 4; decide) rfl ?_
       refine zE ?_
       refine TX.held (fun w1 hw => hw.pick [2, 3] (by decide) rfl) ?_
       refine TH.done (by kernel_rfl) ?_
       refine zT (zSG ?_)
       refine TL.v (gF pcmfld63_0) ?_
       refine TL.v (gL 0 pcmag3) ?_
       refine TL.v (gF pcmfld63_0) ?_
       refine TL.v (gL 1 pcmag3) ?_
       refine TL.sp bin_neq (fun q58 => ?_) (fun q58 => ?_)
       ·refine TL.rn 22 rfl ?_
        refine zET (zc (zSG ?_))
        refine TL.as_ ?_
        refine zET (zr (zRR (zR (zRR ?_))))
        have hE : mpEq m z = false := mpEq_f4 (listEq_f hx47 hx52 (by simp [edgEq, q41, q58] <;> omega))
        exact ret_tmp Tryz.results16 rfl (fun w1 hw => ⟨by rw [hE], hw.bel⟩)
       ·refine TL.mv ?_
        refine TL.ov (gF pcmfld63_1) ?_
        refine TL.ov (gL 0 pcmag30) ?_
        refine TL.ov (gF pcmfld63_1) ?_
        refine TL.ov (gL 1 pcmag30) ?_
        refine TL.gu ?_
        refine TL.sp bin_neq (fun q64 => ?_) (fun q64 => ?_)
        ·refine TL.rn 16 rfl ?_
         refine zET (zc (zSG ?_))
         refine TL.as_ ?_
         refine zET (zr (zRR (zR (zRR ?_))))
         have hE : mpEq m z = false := mpEq_f4 (listEq_f hx47 hx52 (by simp [edgEq, q41, q58, q64] <;> omega))
         exact ret_tmp Tryz.results16 rfl (fun w1 hw => ⟨by rw [hE], hw.bel⟩)
        ·refine TL.rn 2 rfl ?_
         refine TL.ov (gF pcmfld63_2) ?_
         refine TL.ov (gL 0 pcmag30) ?_
         refine TL.ov (gF pcmfld63_2) ?_
         refine TL.ov (gL 1 pcmag30) ?_
         refine TL.gu ?_
         refine TL.sp bin_neq (fun q71 => ?_) (fun q71 => ?_)
         ·refine TL.rn 9 rfl ?_
          refine zET (zc (zSG ?_))
          refine TL.as_ ?_
          refine zET (zr (zRR (zR (zRR ?_))))
          have hE : mpEq m z = false := mpEq_f4 (listEq_f hx47 hx52 (by simp [edgEq, q41, q58, q64, q71] <;> omega))
          exact ret_tmp Tryz.results16 rfl (fun w1 hw => ⟨by rw [hE], hw.bel⟩)
         ·refine TL.rn 2 rfl ?_
          refine TL.ov (gF psmfld63_3) ?_
          refine TL.ov (gL 0 psmag48) ?_
          refine TL.ov (gF psmfld63_3) ?_
          refine TL.ov (gL 1 psmag48) ?_
          refine TL.gu ?_
          refine TL.callsplit rfl rfl rfl rfl rfl Tryz.func70 (by decide) rfl (fun w1 hw => ints_any x47.fl.A x47.fl.c x47.fl.l x52.fl.A x52.fl.c x52.fl.l w1 ((hm.sedges x47 (List.mem_of_getElem? hx47)).1.up hw.bel) ((hz.sedges x52 (List.mem_of_getElem? hx52)).1.up hw.bel) (hm.sedges x47 (List.mem_of_getElem? hx47)).2) (fun h78 => ?_) (fun h78 => ?_)
          ·have q78 := of_decide_eq_true h78
           refine TL.rn 2 rfl ?_
           refine zET (zd (zk (zN (zT (zG ?_)))))
           refine TL.mv ?_
           refine TL.v (gD ((i + 1 : Nat) : Int)) ?_
           refine TL.as_ ?_
           refine zE ?_
           exact TX.round (⟨i + 1, by omega, all_snoc he hx47 hx52 (by simp [edgEq, q41, q58, q64, q71, q78] <;> omega)⟩) (by show m.edges.l.length - (i + 1) < m.edges.l.length - i; omega) ⟨rfl, rfl, rfl, trivial⟩ (fun w1 hw => hw.pick [2, 3] (by decide) rfl)
          ·have q78 := of_decide_eq_false h78
           refine TL.rn 2 rfl ?_
           refine zET (zc (zSG ?_))
           refine TL.as_ ?_
           refine zET (zr (zRR (zR (zRR ?_))))
           have hE : mpEq m z = false := mpEq_f4 (listEq_f hx47 hx52 (by simp [edgEq, q41, q58, q64, q71, q78] <;> omega))
           exact ret_tmp Tryz.results16 rfl (fun w1 hw => ⟨by rw [hE], hw.bel⟩)
     ·refine zET (zd (zx (zX (zX (zM (zT (zSG ?_)))))))
      refine TL.as_ ?_
      refine zET (zr ?_)
      have hE : mpEq m z = true := mpEq_t q12 (by omega) h25 (listEq_t (by omega) (fun j x y h8 h9 h10 => he j x y (by omega) h9 h10))
      exact ret_tmp Tryz.results16 rfl (fun w1 hw => ⟨by rw [hE], hw.bel⟩)
   ·refine TL.rn 11 rfl ?_
    refine zET (zc (zSG ?_))
    refine TL.as_ ?_
    refine zET (zr (zR ?_))
    have hE : mpEq m z = false := mpEq_f3 h25
    exact ret_tmp Tryz.results16 rfl (fun w1 hw => ⟨by rw [hE], hw.bel⟩)
set_option maxRecDepth 20000
/-! ### graphs in the tail of the pieces -/
def mpsP (ms : List Mp) : List Pc := ms.flatMap Mp.pcs
theorem pcs_noAbs (m : Mp) : noAbs m.pcs = true := by
 have h := segG_noAbs (e := 3) (size := 1) (enc := flat (ic .i64)) (m.hops.l.map (·.fl) ++ m.edges.l.map (·.fl))
 simp only [noAbs, Mp.pcs, List.cons_append, List.nil_append, List.all_cons, Bool.and_eq_true] at h ⊢
 exact ⟨rfl, rfl, h⟩
theorem Pm.mpsIn {w0 : Base} {w : World} {m : Mp} {P : List Pc} {ms : List Mp} (h : Pm w0 (m.pcs ++ (P ++ mpsP ms)) w) : Pm w0 (P ++ mpsP (m :: ms)) w := by
 refine h.permute ?_
 have e : mpsP (m :: ms) = m.pcs ++ mpsP ms := List.flatMap_cons
 rw [e, ← List.append_assoc, ← List.append_assoc]
 exact List.Perm.append_right _ List.perm_append_comm
theorem mps_mem {m : Mp} {ms : List Mp} (h : m ∈ ms) {q : Pc} (hq : q ∈ m.pcs) : q ∈ mpsP ms := List.mem_flatMap.2 ⟨m, h, hq⟩
theorem pm_rdM {w0 : Base} {L : List Pc} {w : World} {A : Option Addr} {e : TypeId} {size n c : Nat} {xs : List Value} (h : Pm w0 L w) (hm : Pc.row (.slice A n c) e size n xs ∈ L) : Reads w w.heap.size size A n xs := by
 obtain ⟨k, hk⟩ := List.getElem?_of_mem hm
 exact pm_rd h hk
theorem MpR.of {w0 : Base} {w : World} {m : Mp} {L : List Pc} {n : Nat} (hl : MpLen m n) (hn : n ≤ 100000) (h : Pm w0 L w) (hs : ∀ q ∈ m.pcs, q ∈ L) : MpR w m := by
 have hseg : ∀ s ∈ m.hops.l.map (·.fl) ++ m.edges.l.map (·.fl), Pc.row (.slice s.A s.l.length s.c) 3 1 s.l.length (flat (ic .i64) s.l) ∈ L := fun s h9 =>
  hs _ (List.mem_append_right _ (List.mem_map_of_mem (f := Sg.pc 3 1 (flat (ic .i64))) h9))
 refine ⟨pm_rdM h (hs _ List.mem_cons_self), pm_rdM h (hs _ (List.mem_cons_of_mem _ List.mem_cons_self)), Nat.le_trans hl.hops hn, Nat.le_trans hl.edges hn, fun x hx => ⟨pm_rdM h (hseg _ (List.mem_append_left _ (List.mem_map_of_mem hx))), Nat.le_trans (hl.fh x hx).1 hn⟩, fun x hx => ⟨pm_rdM h (hseg _ (List.mem_append_right _ (List.mem_map_of_mem hx))), Nat.le_trans (hl.fe x hx).1 hn⟩⟩
/-! ### the example -/
def rpl (n flow ttl from_ : Int) : Rs := ⟨0, 0, n, n, 9, 17, flow, ttl, true, false, n + 1, from_, 1, 0, 0, 0, 0⟩
def awL : List Rs := [rpl 0 0 1 1, rpl 1 0 2 2, rpl 2 0 3 4, rpl 3 1 1 1, rpl 4 1 2 3, rpl 5 1 3 4]
def awH : List (List Int) := [[1, 1], [2, 2], [2, 3], [3, 4]]
def awE : List (List Int) := [[1, 1, 2], [1, 1, 3], [2, 2, 4], [2, 3, 4]]
theorem awL_ok : ∀ r ∈ awL, r.Ok := by
 intro r hr
 simp only [awL, List.mem_cons, List.not_mem_nil, or_false] at hr
 rcases hr with rfl | rfl | rfl | rfl | rfl | rfl <;> exact ⟨by decide, by decide, by decide, by decide⟩
theorem aw_val : ∀ r ∈ awL, vwS (endT awL) awL (spotR r) = (r.src, 2) := by decide +kernel
theorem aw_src : ∀ x ∈ awL, ∀ y ∈ awL, spotR x = spotR y → x.src = y.src := by decide +kernel
theorem aw_err {e : Int} (h : ErrOk awL (lookS awL).2 e) : e = 0 := by
 rcases h with ⟨_, h2⟩ | ⟨_, o, ho, h3⟩
 ·exact absurd h2 (by decide +kernel)
 ·have hol : o.length ≤ awL.length := nodup_len (asc_nodup ho.1) fun r hr => ((ho.2 r).1 hr).1
  rcases h3 with ⟨_, h3⟩ | ⟨_, t, ht, h5⟩
  ·have : awL.length = 6 := rfl
   omega
  ·have htl : t.length ≤ [(⟨0, 9, 17⟩ : Trc)].length := nodup_len (ht.1.imp fun {a b} hab e => by rw [e] at hab; exact absurd hab (ltK_irrefl b)) fun x hx => by
    obtain ⟨r, hr, _, e⟩ := (ht.2 x).1 hx
    have h9 : ∀ r ∈ awL, trcR r = ⟨0, 9, 17⟩ := by decide +kernel
    rw [← e, h9 r hr]; exact List.mem_singleton.2 rfl
   rcases h5 with ⟨_, h5⟩ | ⟨_, ⟨_, s, hs⟩ | ⟨h7, _⟩⟩
   ·have : [(⟨0, 9, 17⟩ : Trc)].length = 1 := rfl
    omega
   ·exfalso
    have h3 := st_three.1 hs
    rcases vinv (endT awL) awL s with ⟨e, _⟩ | ⟨e, _⟩ | ⟨a, e, _⟩ | ⟨_, x, hx, y, hy, _, _, hn⟩
    ·rw [e] at h3; exact absurd h3 (show ¬ ((0 : Int) = 3) by decide)
    ·rw [e] at h3; exact absurd h3 (show ¬ ((1 : Int) = 3) by decide)
    ·rw [e] at h3; exact absurd h3 (show ¬ ((2 : Int) = 3) by decide)
    ·have hx2 := List.mem_filter.1 hx
     have hy2 := List.mem_filter.1 hy
     have e1 : spotR x = s := by have := hx2.2; unfold hitS at this; simp only [Bool.and_eq_true, decide_eq_true_eq] at this; exact this.2
     have e2 : spotR y = s := by have := hy2.2; unfold hitS at this; simp only [Bool.and_eq_true, decide_eq_true_eq] at this; exact this.2
     exact hn (aw_src x hx2.1 y hy2.1 (e1.trans e2.symm))
   ·exact h7
theorem aw_keys {α : Type} {key : α → List Int} {fl : α → List Int} {n : Nat} {P : List Int → Int → Prop} {hs : List α} {lit : List (List Int)} (hk : ∀ x, (key x).length = n) (g : GrOk key fl P hs) (hn : ∀ x ∈ lit, x.length = n) (ha : AscK (fun k : List Int => k) lit) (h1 : ∀ k f, P k f → k ∈ lit) (h2 : ∀ k ∈ lit, ∃ f, P k f) : hs.map key = lit := by
 refine pairs_asc_eq (key := fun k : List Int => k) (n := n) (fun x hx => ?_) hn (List.pairwise_map.2 g.1) ha fun k => ?_
 ·obtain ⟨y, _, rfl⟩ := List.mem_map.1 hx
  exact hk y
 ·constructor
  ·intro h
   obtain ⟨x, hx, rfl⟩ := List.mem_map.1 h
   obtain ⟨f, hf⟩ := List.exists_mem_of_ne_nil _ (g.2.1 x hx).2
   exact h1 _ f ((gr_flows hk g hx f).1 hf)
  ·intro h
   obtain ⟨f, hf⟩ := h2 k h
   obtain ⟨x, hx, e, _⟩ := (g.2.2 k f).2 hf
   exact List.mem_map.2 ⟨x, hx, e⟩
theorem aw_hops {hs : List Hpx} (h : HopsOk (lookS awL).1 (lookS awL).2 hs) : hs.map hpk = awH := by
 refine aw_keys hpk_len (hops_gr h) (by decide) (by unfold AscK; decide) (fun k f hP => ?_) fun k hk => ?_
 ·obtain ⟨t, a, rfl, h1, h2⟩ := hP
  obtain ⟨r, hr, _, hs⟩ := vw_used h1
  rw [← hs, aw_val r hr] at h2
  have h3 : ∀ r ∈ awL, [r.ttl, r.src] ∈ awH := by decide +kernel
  have := h3 r hr
  rwa [show r.ttl = t from congrArg Spot.ttl hs, show r.src = a from h2] at this
 ·have h3 : ∀ k ∈ awH, ∃ r ∈ awL, k = [r.ttl, r.src] := by decide +kernel
  obtain ⟨r, hr, e⟩ := h3 k hk
  exact ⟨r.flow, r.ttl, r.src, e, by rw [show (⟨r.flow, r.ttl⟩ : Spot) = spotR r from rfl, aw_val r hr]; exact (show (2 : Int) ≠ 0 by decide), by rw [show (⟨r.flow, r.ttl⟩ : Spot) = spotR r from rfl, aw_val r hr]⟩
theorem aw_edges {es : List Ed} (h : EdgesOk (lookS awL).1 (lookS awL).2 es) : es.map edk = awE := by
 refine aw_keys edk_len (edges_gr h) (by decide) (by unfold AscK; decide) (fun k f hP => ?_) fun k hk => ?_
 ·obtain ⟨t, a, b, rfl, h1, h2, h4, h5⟩ := hP
  obtain ⟨r, hr, _, hs⟩ := vw_used h1
  obtain ⟨r', hr', _, hs'⟩ := vw_used (l := awL) (s := ⟨f, t + 1⟩) (by rcases h2 with h2 | h2 <;> rw [h2] <;> decide)
  rw [← hs, aw_val r hr] at h4
  rw [← hs', aw_val r' hr'] at h5
  have h3 : ∀ r ∈ awL, ∀ r' ∈ awL, r'.flow = r.flow → r'.ttl = r.ttl + 1 → [r.ttl, r.src, r'.src] ∈ awE := by decide +kernel
  have e1 : r.ttl = t := congrArg Spot.ttl hs
  have e2 : r.flow = f := congrArg Spot.flow hs
  have e3 : r'.ttl = t + 1 := congrArg Spot.ttl hs'
  have e4 : r'.flow = f := congrArg Spot.flow hs'
  have := h3 r hr r' hr' (by rw [e4, e2]) (by rw [e3, e1])
  rwa [e1, show r.src = a from h4, show r'.src = b from h5] at this
 ·have h3 : ∀ k ∈ awE, ∃ r ∈ awL, ∃ r' ∈ awL, k = [r.ttl, r.src, r'.src] ∧ r'.flow = r.flow ∧ r'.ttl = r.ttl + 1 := by decide +kernel
  obtain ⟨r, hr, r', hr', e, e1, e2⟩ := h3 k hk
  have e3 : (⟨r.flow, r.ttl + 1⟩ : Spot) = spotR r' := by unfold spotR; rw [e1, e2]
  refine ⟨r.flow, r.ttl, r.src, r'.src, e, ?_, ?_, ?_, ?_⟩
  ·rw [show (⟨r.flow, r.ttl⟩ : Spot) = spotR r from rfl, aw_val r hr]; exact (show (2 : Int) ≠ 0 by decide)
  ·unfold hasV; rw [e3, aw_val r' hr']; exact .inl rfl
  ·rw [show (⟨r.flow, r.ttl⟩ : Spot) = spotR r from rfl, aw_val r hr]
  ·rw [e3, aw_val r' hr']
def kw (ks : List (List Int)) (t : Int) : Nat := (ks.filter fun k => decide (k.headD 0 = t)).length
theorem wid_kw (hs : List Hpx) : wid hs = kw (hs.map hpk) := by
 funext t
 unfold wid kw
 rw [List.filter_map, List.length_map]; rfl
theorem kw_pos {t : Int} (h : 0 < kw awH t) : t = 1 ∨ t = 2 ∨ t = 3 := by
 obtain ⟨k, hk⟩ := List.exists_mem_of_length_pos h
 have h1 := List.mem_filter.1 hk
 have h2 : ∀ k ∈ awH, k.headD 0 = 1 ∨ k.headD 0 = 2 ∨ k.headD 0 = 3 := by decide
 have := h2 k h1.1
 rwa [of_decide_eq_true h1.2] at this
theorem aw_dm : IsDm (kw awH) [⟨1, 3, 2⟩] := by
 have w1 : kw awH 1 = 1 := by decide
 have w2 : kw awH 2 = 2 := by decide
 have w3 : kw awH 3 = 1 := by decide
 refine ⟨List.pairwise_singleton _ _, fun d => ?_⟩
 rw [List.mem_singleton]
 constructor
 ·rintro rfl
  refine ⟨1, by decide, w1, rfl, fun j h1 h2 => ?_, w3, by decide⟩
  obtain rfl : j = 1 := by omega
  show 1 < kw awH 2
  omega
 ·rintro ⟨n, h0, h1, h2, h3, h4, h5⟩
  obtain ⟨d1, d2, d3⟩ := d
  simp only at h1 h2 h3 h4 h5
  have a1 := kw_pos (t := d1) (by omega)
  have a2 := h3 1 (by omega) (by omega)
  have a3 := kw_pos (t := d1 + 1) (by have e : d1 + ((1 : Nat) : Int) = d1 + 1 := rfl; rw [e] at a2; omega)
  have a4 := kw_pos (t := d2) (by omega)
  have a5 : d1 = 1 := by
   rcases a1 with e | e | e
   ·exact e
   ·subst e; omega
   ·subst e; omega
  subst a5
  have a6 : d2 = 3 := by
   rcases a4 with e | e | e
   ·subst e; omega
   ·subst e; omega
   ·exact e
  subst a6
  obtain rfl : n = 1 := by omega
  have a7 : mxn (kw awH) 1 1 = 2 := by decide
  rw [h5, a7]; rfl
theorem aw_graph {m : Mp} {e : Int} (h : BuildOk awL m e) : e = 0 ∧ m.hops.l.length = 4 ∧ m.edges.l.length = 4 ∧ (∀ d, IsDm (wid m.hops.l) d → d = [⟨1, 3, 2⟩]) ∧ ∀ o, IsWr m.edges.l o → o.length = 4 := by
 have he := aw_err h.1
 obtain ⟨_, _, g3, g4⟩ := h.2.2 he (by intro h; cases h)
 have k3 := aw_hops g3
 have k4 := aw_edges g4
 refine ⟨he, ?_, ?_, fun d hd => ?_, fun o ho => ?_⟩
 ·have := congrArg List.length k3; rwa [List.length_map] at this
 ·have := congrArg List.length k4; rwa [List.length_map] at this
 ·rw [wid_kw, k3] at hd
  exact hd.eq aw_dm
 ·have : IsWr m.edges.l [⟨1, 2⟩, ⟨1, 3⟩, ⟨2, 4⟩, ⟨3, 4⟩] := by
   refine ⟨by unfold AscK; decide, fun x => ?_⟩
   constructor
   ·intro hx
    have h1 : ∀ x ∈ ([⟨1, 2⟩, ⟨1, 3⟩, ⟨2, 4⟩, ⟨3, 4⟩] : List Wre), ∃ k ∈ awE, k.tail = wrk x ∧ x.frm ≠ 0 ∧ x.to_ ≠ 0 := by decide
    obtain ⟨k, hk, e1, e2, e3⟩ := h1 x hx
    rw [← k4] at hk
    obtain ⟨y, hy, rfl⟩ := List.mem_map.1 hk
    simp only [edk, wrk, List.tail_cons, List.cons.injEq, and_true] at e1
    refine ⟨y, hy, by simp [wireE, e1.1, e1.2, e2, e3], ?_⟩
    unfold edW; rw [e1.1, e1.2]
   ·rintro ⟨y, hy, _, rfl⟩
    have h1 : ∀ k ∈ awE, ∃ x ∈ ([⟨1, 2⟩, ⟨1, 3⟩, ⟨2, 4⟩, ⟨3, 4⟩] : List Wre), k.tail = wrk x := by decide
    have h2 : edk y ∈ awE := by rw [← k4]; exact List.mem_map.2 ⟨y, hy, rfl⟩
    obtain ⟨x, hx, e⟩ := h1 _ h2
    have e2 : wrk (edW y) = wrk x := e
    rw [wrk_inj e2]; exact hx
  rw [ho.eq this]; rfl
theorem pawbld45_27257 (a0_0 : Int) (a1_0 : Int) (w : World) : (Instr.build 45 #[(0, .int .u32 a0_0), (1, .int .i64 a1_0)]).run Tryz.prog w = .ok (.agg #[.int .u32 a0_0, .int .i64 a1_0, .int .i64 0, .int .i64 0, .int .i64 0, .int .i64 0]) w := by kernel_rfl
theorem pawbld47_6431 (a2_0 : Int) (a3_0 : Int) (a4_0 : Int) (a5_0 : Int) (a6_0 : Int) (a7_0 : Int) (a8_0 : Bool) (a10_0 : Int) (a11_0 : Int) (a11_1 : Int) (a11_2 : Int) (a11_3 : Int) (a11_4 : Int) (a11_5 : Int) (w : World) : (Instr.build 47 #[(2, .int .i64 a2_0), (3, .int .i64 a3_0), (4, .int .u32 a4_0), (5, .int .i64 a5_0), (6, .int .i64 a6_0), (7, .int .i64 a7_0), (8, .bool a8_0), (10, .int .i64 a10_0), (11, .agg #[.int .u32 a11_0, .int .i64 a11_1, .int .i64 a11_2, .int .i64 a11_3, .int .i64 a11_4, .int .i64 a11_5])]).run Tryz.prog w = .ok (.agg #[.int .i64 0, .int .i64 0, .int .i64 a2_0, .int .i64 a3_0, .int .u32 a4_0, .int .i64 a5_0, .int .i64 a6_0, .int .i64 a7_0, .bool a8_0, .bool false, .int .i64 a10_0, .int .u32 a11_0, .int .i64 a11_1, .int .i64 a11_2, .int .i64 a11_3, .int .i64 a11_4, .int .i64 a11_5]) w := by kernel_rfl
theorem pawbs26_6_57405 (a0_0 : Int) (a0_1 : Int) (a0_2 : Int) (a0_3 : Int) (a0_4 : Int) (a0_5 : Int) (a0_6 : Int) (a0_7 : Int) (a0_8 : Bool) (a0_9 : Bool) (a0_10 : Int) (a0_11 : Int) (a0_12 : Int) (a0_13 : Int) (a0_14 : Int) (a0_15 : Int) (a0_16 : Int) (a1_0 : Int) (a1_1 : Int) (a1_2 : Int) (a1_3 : Int) (a1_4 : Int) (a1_5 : Int) (a1_6 : Int) (a1_7 : Int) (a1_8 : Bool) (a1_9 : Bool) (a1_10 : Int) (a1_11 : Int) (a1_12 : Int) (a1_13 : Int) (a1_14 : Int) (a1_15 : Int) (a1_16 : Int) (a2_0 : Int) (a2_1 : Int) (a2_2 : Int) (a2_3 : Int) (a2_4 : Int) (a2_5 : Int) (a2_6 : Int) (a2_7 : Int) (a2_8 : Bool) (a2_9 : Bool) (a2_10 : Int) (a2_11 : Int) (a2_12 : Int) (a2_13 : Int) (a2_14 : Int) (a2_15 : Int) (a2_16 : Int) (a3_0 : Int) (a3_1 : Int) (a3_2 : Int) (a3_3 : Int) (a3_4 : Int) (a3_5 : Int) (a3_6 : Int) (a3_7 : Int) (a3_8 : Bool) (a3_9 : Bool) (a3_10 : Int) (a3_11 : Int) (a3_12 : Int) (a3_13 : Int) (a3_14 : Int) (a3_15 : Int) (a3_16 : Int) (a4_0 : Int) (a4_1 : Int) (a4_2 : Int) (a4_3 : Int) (a4_4 : Int) (a4_5 : Int) (a4_6 : Int) (a4_7 : Int) (a4_8 : Bool) (a4_9 : Bool) (a4_10 : Int) (a4_11 : Int) (a4_12 : Int) (a4_13 : Int) (a4_14 : Int) (a4_15 : Int) (a4_16 : Int) (a5_0 : Int) (a5_1 : Int) (a5_2 : Int) (a5_3 : Int) (a5_4 : Int) (a5_5 : Int) (a5_6 : Int) (a5_7 : Int) (a5_8 : Bool) (a5_9 : Bool) (a5_10 : Int) (a5_11 : Int) (a5_12 : Int) (a5_13 : Int) (a5_14 : Int) (a5_15 : Int) (a5_16 : Int) (w : World) : (Instr.buildSlice 26 6 #[(0, .agg #[.int .i64 a0_0, .int .i64 a0_1, .int .i64 a0_2, .int .i64 a0_3, .int .u32 a0_4, .int .i64 a0_5, .int .i64 a0_6, .int .i64 a0_7, .bool a0_8, .bool a0_9, .int .i64 a0_10, .int .u32 a0_11, .int .i64 a0_12, .int .i64 a0_13, .int .i64 a0_14, .int .i64 a0_15, .int .i64 a0_16]), (1, .agg #[.int .i64 a1_0, .int .i64 a1_1, .int .i64 a1_2, .int .i64 a1_3, .int .u32 a1_4, .int .i64 a1_5, .int .i64 a1_6, .int .i64 a1_7, .bool a1_8, .bool a1_9, .int .i64 a1_10, .int .u32 a1_11, .int .i64 a1_12, .int .i64 a1_13, .int .i64 a1_14, .int .i64 a1_15, .int .i64 a1_16]), (2, .agg #[.int .i64 a2_0, .int .i64 a2_1, .int .i64 a2_2, .int .i64 a2_3, .int .u32 a2_4, .int .i64 a2_5, .int .i64 a2_6, .int .i64 a2_7, .bool a2_8, .bool a2_9, .int .i64 a2_10, .int .u32 a2_11, .int .i64 a2_12, .int .i64 a2_13, .int .i64 a2_14, .int .i64 a2_15, .int .i64 a2_16]), (3, .agg #[.int .i64 a3_0, .int .i64 a3_1, .int .i64 a3_2, .int .i64 a3_3, .int .u32 a3_4, .int .i64 a3_5, .int .i64 a3_6, .int .i64 a3_7, .bool a3_8, .bool a3_9, .int .i64 a3_10, .int .u32 a3_11, .int .i64 a3_12, .int .i64 a3_13, .int .i64 a3_14, .int .i64 a3_15, .int .i64 a3_16]), (4, .agg #[.int .i64 a4_0, .int .i64 a4_1, .int .i64 a4_2, .int .i64 a4_3, .int .u32 a4_4, .int .i64 a4_5, .int .i64 a4_6, .int .i64 a4_7, .bool a4_8, .bool a4_9, .int .i64 a4_10, .int .u32 a4_11, .int .i64 a4_12, .int .i64 a4_13, .int .i64 a4_14, .int .i64 a4_15, .int .i64 a4_16]), (5, .agg #[.int .i64 a5_0, .int .i64 a5_1, .int .i64 a5_2, .int .i64 a5_3, .int .u32 a5_4, .int .i64 a5_5, .int .i64 a5_6, .int .i64 a5_7, .bool a5_8, .bool a5_9, .int .i64 a5_10, .int .u32 a5_11, .int .i64 a5_12, .int .i64 a5_13, .int .i64 a5_14, .int .i64 a5_15, .int .i64 a5_16])]).run Tryz.prog w = .ok (.slice (some ⟨w.heap.size, 0, none⟩) 6 6) (w.alloc (.cells [.int .i64 a0_0, .int .i64 a0_1, .int .i64 a0_2, .int .i64 a0_3, .int .u32 a0_4, .int .i64 a0_5, .int .i64 a0_6, .int .i64 a0_7, .bool a0_8, .bool a0_9, .int .i64 a0_10, .int .u32 a0_11, .int .i64 a0_12, .int .i64 a0_13, .int .i64 a0_14, .int .i64 a0_15, .int .i64 a0_16, .int .i64 a1_0, .int .i64 a1_1, .int .i64 a1_2, .int .i64 a1_3, .int .u32 a1_4, .int .i64 a1_5, .int .i64 a1_6, .int .i64 a1_7, .bool a1_8, .bool a1_9, .int .i64 a1_10, .int .u32 a1_11, .int .i64 a1_12, .int .i64 a1_13, .int .i64 a1_14, .int .i64 a1_15, .int .i64 a1_16, .int .i64 a2_0, .int .i64 a2_1, .int .i64 a2_2, .int .i64 a2_3, .int .u32 a2_4, .int .i64 a2_5, .int .i64 a2_6, .int .i64 a2_7, .bool a2_8, .bool a2_9, .int .i64 a2_10, .int .u32 a2_11, .int .i64 a2_12, .int .i64 a2_13, .int .i64 a2_14, .int .i64 a2_15, .int .i64 a2_16, .int .i64 a3_0, .int .i64 a3_1, .int .i64 a3_2, .int .i64 a3_3, .int .u32 a3_4, .int .i64 a3_5, .int .i64 a3_6, .int .i64 a3_7, .bool a3_8, .bool a3_9, .int .i64 a3_10, .int .u32 a3_11, .int .i64 a3_12, .int .i64 a3_13, .int .i64 a3_14, .int .i64 a3_15, .int .i64 a3_16, .int .i64 a4_0, .int .i64 a4_1, .int .i64 a4_2, .int .i64 a4_3, .int .u32 a4_4, .int .i64 a4_5, .int .i64 a4_6, .int .i64 a4_7, .bool a4_8, .bool a4_9, .int .i64 a4_10, .int .u32 a4_11, .int .i64 a4_12, .int .i64 a4_13, .int .i64 a4_14, .int .i64 a4_15, .int .i64 a4_16, .int .i64 a5_0, .int .i64 a5_1, .int .i64 a5_2, .int .i64 a5_3, .int .u32 a5_4, .int .i64 a5_5, .int .i64 a5_6, .int .i64 a5_7, .bool a5_8, .bool a5_9, .int .i64 a5_10, .int .u32 a5_11, .int .i64 a5_12, .int .i64 a5_13, .int .i64 a5_14, .int .i64 a5_15, .int .i64 a5_16].toArray 47)) := by kernel_rfl
theorem pawsz58 (w : World) : (sizeOf 58).run Tryz.prog w = .ok 3 w := rfl
theorem pawag58 (w : World) : (isAgg 58).run Tryz.prog w = .ok true w := rfl
set_option maxHeartbeats 1000000 in
theorem reply_any (n flow ttl from_ : Int) (w : World) (hn : 0 ≤ n ∧ n ≤ 1000) :
  Calls Tryz.prog 55 #[.int .i64 n, .int .i64 flow, .int .i64 ttl, .int .u32 from_] w fun e w' => e = .returned (.agg (rpl n flow ttl from_).cells.toArray) ∧ Below w.heap.size w w' := by
 refine begin_ (vs := [.int .i64 n, .int .i64 flow, .int .i64 ttl, .int .u32 from_]) Tryz.func55 rfl rfl rfl ?_ (Pm.start w)
 refine zSG ?_
 refine TL.pnew rfl rfl rfl (exec_alloc (cs := [.int .i64 0, .int .i64 0, .int .i64 0, .int .i64 0, .int .u32 0, .int .i64 0, .int .i64 0, .int .i64 0, .bool false, .bool false, .int .i64 0, .int .u32 0, .int .i64 0, .int .i64 0, .int .i64 0, .int .i64 0, .int .i64 0]) rfl pcpzv47 rfl) (fun g8 => ?_)
 refine zET (zSG ?_)
 refine TL.rn 5 rfl ?_
 refine TL.v (gD (n + 1)) ?_
 refine TL.mv ?_
 refine TL.val rfl rfl rfl (gives_build (v := .agg #[.int .u32 from_, .int .i64 1, .int .i64 0, .int .i64 0, .int .i64 0, .int .i64 0]) rfl rfl (fun w => pawbld45_27257 _ _ w)) ?_
 refine TL.val rfl rfl rfl (gives_build (v := .agg #[.int .i64 0, .int .i64 0, .int .i64 n, .int .i64 n, .int .u32 9, .int .i64 17, .int .i64 flow, .int .i64 ttl, .bool true, .bool false, .int .i64 (n + 1), .int .u32 from_, .int .i64 1, .int .i64 0, .int .i64 0, .int .i64 0, .int .i64 0]) rfl rfl (fun w => pawbld47_6431 _ _ _ _ _ _ _ _ _ _ _ _ _ _ w)) ?_
 refine TL.pstore (k := 0) (vs := [.int .i64 0, .int .i64 0, .int .i64 n, .int .i64 n, .int .u32 9, .int .i64 17, .int .i64 flow, .int .i64 ttl, .bool true, .bool false, .int .i64 (n + 1), .int .u32 from_, .int .i64 1, .int .i64 0, .int .i64 0, .int .i64 0, .int .i64 0]) rfl rfl rfl rfl rfl rfl rfl prssz47 dreone_i64i64i64i64u32i64i64i64bbi64u32i64i64i64i64i64 (by show 17 ≤ 17; decide) rfl ?_
 refine zET (zr ?_)
 exact pm_ret_cell (k := 0) Tryz.results55 rfl rfl Tryz.underlying47 rfl rfl (fun w1 hw => ⟨rfl, hw.bel⟩)
set_option maxHeartbeats 1000000 in
theorem awake_true  (w : World) :
  Calls Tryz.prog 10 #[] w fun e w' => e = .returned (.bool true) ∧ Below w.heap.size w w' := by
 refine begin_ (vs := []) Tryz.func10 rfl rfl rfl ?_ (Pm.start w)
 refine zSG ?_
 refine TL.as_ ?_
 refine zET (zSG ?_)
 refine TL.pcall1 (r := .agg ((rpl 0 0 1 1).cells).toArray) rfl rfl rfl rfl rfl Tryz.func55 (by decide) rfl (fun w1 hw => reply_any 0 0 1 1 w1 (by decide)) ?_
 refine TL.pcall1 (r := .agg ((rpl 1 0 2 2).cells).toArray) rfl rfl rfl rfl rfl Tryz.func55 (by decide) rfl (fun w1 hw => reply_any 1 0 2 2 w1 (by decide)) ?_
 refine TL.pcall1 (r := .agg ((rpl 2 0 3 4).cells).toArray) rfl rfl rfl rfl rfl Tryz.func55 (by decide) rfl (fun w1 hw => reply_any 2 0 3 4 w1 (by decide)) ?_
 refine TL.pcall1 (r := .agg ((rpl 3 1 1 1).cells).toArray) rfl rfl rfl rfl rfl Tryz.func55 (by decide) rfl (fun w1 hw => reply_any 3 1 1 1 w1 (by decide)) ?_
 refine TL.pcall1 (r := .agg ((rpl 4 1 2 3).cells).toArray) rfl rfl rfl rfl rfl Tryz.func55 (by decide) rfl (fun w1 hw => reply_any 4 1 2 3 w1 (by decide)) ?_
 refine TL.pcall1 (r := .agg ((rpl 5 1 3 4).cells).toArray) rfl rfl rfl rfl rfl Tryz.func55 (by decide) rfl (fun w1 hw => reply_any 5 1 3 4 w1 (by decide)) ?_
 refine TL.prowS (e := 47) (size := 17) (cs := flat Rs.cells [rpl 0 0 1 1, rpl 1 0 2 2, rpl 2 0 3 4, rpl 3 1 1 1, rpl 4 1 2 3, rpl 5 1 3 4]) rfl rfl rfl rfl rfl (fun w => pawbs26_6_57405 _ _ _ _ _ _ _ _ _ _ _ _ _ _ _ _ _ _ _ _ _ _ _ _ _ _ _ _ _ _ _ _ _ _ _ _ _ _ _ _ _ _ _ _ _ _ _ _ _ _ _ _ _ _ _ _ _ _ _ _ _ _ _ _ _ _ _ _ _ _ _ _ _ _ _ _ _ _ _ _ _ _ _ _ _ _ _ _ _ _ _ _ _ _ _ _ _ _ _ _ _ _ w) (by decide) rfl (fun g11 => ?_)
 refine TL.as_ ?_
 refine zET (zSG ?_)
 refine TL.mv ?_
 refine TL.call (α := {y : Mp × Int // BuildOk ([rpl 0 0 1 1, rpl 1 0 2 2, rpl 2 0 3 4, rpl 3 1 1 1, rpl 4 1 2 3, rpl 5 1 3 4]) y.1 y.2}) (r := fun x => .tuple #[.agg x.1.1.cells.toArray, .int .i64 x.1.2]) (I' := fun x => Pm w ([.row (.slice (some ⟨g11, 0, none⟩) 6 6) 47 17 6 (flat Rs.cells [rpl 0 0 1 1, rpl 1 0 2 2, rpl 2 0 3 4, rpl 3 1 1 1, rpl 4 1 2 3, rpl 5 1 3 4])] ++ mpsP (x.1.1 :: []))) rfl rfl rfl rfl rfl Tryz.func14 (by decide) rfl (fun w1 hw => (build_any (some ⟨g11, 0, none⟩) 6 ([rpl 0 0 1 1, rpl 1 0 2 2, rpl 2 0 3 4, rpl 3 1 1 1, rpl 4 1 2 3, rpl 5 1 3 4]) w1 (pm_rd hw (k := 0) rfl) (by decide) awL_ok).mono fun e w2 ⟨x, h1, h2⟩ => ⟨x, h1, Pm.mpsIn (P := [.row (.slice (some ⟨g11, 0, none⟩) 6 6) 47 17 6 (flat Rs.cells [rpl 0 0 1 1, rpl 1 0 2 2, rpl 2 0 3 4, rpl 3 1 1 1, rpl 4 1 2 3, rpl 5 1 3 4])]) (ms := []) (hw.addAll h2 (pcs_noAbs _))⟩) ?_
 rintro ⟨⟨m, em⟩, hbm⟩
 dsimp only at hbm ⊢
 have hml := build_len awL_ok hbm
 refine TL.rn 3 rfl ?_
 refine TL.pnew rfl rfl rfl (exec_alloc (cs := [.int .i64 0, .int .u32 0, .int .i64 0, .int .i64 0, .slice none 0 0, .slice none 0 0]) rfl pbdzv36 rfl) (fun g2 => ?_)
 refine TL.pstore (k := 0) (vs := m.cells) rfl rfl rfl rfl rfl rfl rfl pbdsz36 pbdone_i64u32i64i64ss (by show 6 ≤ 6; decide) rfl ?_
 refine TL.as_ ?_
 refine zET (zS ?_)
 replace hml : MpLen m 6 := hml
 obtain ⟨rfl, hmh, hme, hmd, hmw⟩ := aw_graph hbm
 refine zG ?_
 refine TL.v (gV 0 (.agg (m.cells).toArray) pbdag36 pbdsz36) ?_
 refine TL.pcallPm (α := {y : (Option Addr × Nat) × List Dm // IsDm (wid m.hops.l) y.2 ∧ y.2.length ≤ y.1.2 ∧ y.1.2 ≤ maxLen}) (fun x => .slice x.1.1.1 x.1.2.length x.1.1.2) (fun x => [.row (.slice x.1.1.1 x.1.2.length x.1.1.2) 58 3 x.1.2.length (flat Dm.cells x.1.2)]) rfl rfl rfl rfl rfl Tryz.func19 (by decide) rfl (fun w1 hw => diamonds_any m w1 ((MpR.of (hml) (by omega) hw (fun q hq => List.mem_of_mem_drop (i := 2) (by exact mps_mem (by simp) hq)))).hops ((MpR.of (hml) (by omega) hw (fun q hq => List.mem_of_mem_drop (i := 2) (by exact mps_mem (by simp) hq)))).nhops (fun x hx => ⟨(hml.fh x hx).2.1, (hml.fh x hx).2.2.1⟩)) ?_
 rintro ⟨⟨⟨R18, rc18⟩, dm18⟩, hP18, hR181, hR182⟩
 dsimp only [List.cons_append, List.nil_append]
 dsimp only at hP18 hR181 hR182 ⊢
 refine TL.as_ ?_
 refine zET (zS ?_)
 have hd18 := hmd dm18 hP18
 have hd18l : dm18.length = 1 := by rw [hd18]; rfl
 refine zG ?_
 refine TL.mv ?_
 refine TL.val rfl rfl rfl (gives_bin rfl rfl rfl (fun w => bin_eql_t (rfl) w)) ?_
 refine TL.mv ?_
 refine TL.ov (gF pbdfld36_2) ?_
 refine TL.ov (gL 1 pbdag33) ?_
 refine TL.ov (gN Tryz.underlying33) ?_
 refine TL.gu ?_
 refine TL.val rfl rfl rfl (gives_bin rfl rfl rfl (fun w => bin_eql_t (by rw [hmh]; rfl) w)) ?_
 refine TL.rn 2 rfl ?_
 refine TL.ov (gF pbdfld36_3) ?_
 refine TL.ov (gL 1 pbdag34) ?_
 refine TL.ov (gN Tryz.underlying34) ?_
 refine TL.gu ?_
 refine TL.val rfl rfl rfl (gives_bin rfl rfl rfl (fun w => bin_eql_t (by rw [hme]; rfl) w)) ?_
 refine TL.rn 3 rfl ?_
 refine TL.ov (gN Tryz.underlying55) ?_
 refine TL.gu ?_
 refine TL.val rfl rfl rfl (gives_bin rfl rfl rfl (fun w => bin_eql_t (by rw [hd18]; rfl) w)) ?_
 refine TL.rn 3 rfl ?_
 refine TL.gu ?_
 refine TL.fact (p := ∃ g, R18 = some ⟨g, 0, none⟩) (fun w1 hw => rowA hw (k := 0) rfl (by omega)) ?_
 rintro ⟨g_R18, rfl⟩
 have hi40 : 0 < dm18.length := by omega
 obtain ⟨x40, hx40⟩ := ex_at hi40
 have hx40e : x40 = ⟨1, 3, 2⟩ := by rw [hd18] at hx40; simpa using hx40.symm
 refine TL.val rfl rfl rfl (gA (i := 0) Tryz.underlying55 pawsz58 rfl rfl rfl rfl rfl (by omega)) ?_
 refine TL.gu ?_
 refine TL.val rfl rfl rfl (gives_loadR (off := 0 + 0 * 3) rfl rfl pawag58 pawsz58 (dm_cel.len x40) (fun w1 hw j9 u9 h9 => flat_row dm_cel hw (q := 0) rfl hx40 j9 u9 h9)) ?_
 refine TL.gu ?_
 refine TL.val rfl rfl rfl (gives_build (v := .agg #[.int .i64 1, .int .i64 3, .int .i64 2]) rfl rfl (fun w => pdibld58_57326 _ _ _ w)) ?_
 refine TL.gu ?_
 refine TL.val rfl rfl rfl (gives_bin2 (v := .bool true) rfl rfl rfl (fun w => dm_eql_is (y := ⟨1, 3, 2⟩) (by rw [hx40e]; rfl) _ _ w)) ?_
 refine TL.rn 3 rfl ?_
 refine TL.gu ?_
 have hi47 : 0 < ([rpl 0 0 1 1, rpl 1 0 2 2, rpl 2 0 3 4, rpl 3 1 1 1, rpl 4 1 2 3, rpl 5 1 3 4]).length := by simp
 obtain ⟨x47, hx47⟩ := ex_at hi47
 have hx47v : vldRs x47 = true := by have h9 := Option.some.inj hx47; rw [← h9]; decide +kernel
 refine TL.val rfl rfl rfl (gA (i := 0) Tryz.underlying26 prssz47 rfl rfl rfl rfl rfl (by omega)) ?_
 refine TL.gu ?_
 refine TL.val rfl rfl rfl (gives_loadR (off := 0 + 0 * 17) rfl rfl prsag47 prssz47 (rs_cel.len x47) (fun w1 hw j9 u9 h9 => flat_row rs_cel hw (q := 2) rfl hx47 j9 u9 h9)) ?_
 refine TL.gu ?_
 refine TL.pcall1 (r := .bool true) rfl rfl rfl rfl rfl Tryz.func26 (by decide) rfl (fun w1 hw => (by have h9 := vldRs_any x47 w1; rw [hx47v] at h9; exact h9)) ?_
 refine TL.rn 2 rfl ?_
 refine TL.ov (gV 1 (.agg (m.cells).toArray) pbdag36 pbdsz36) ?_
 refine TL.gu ?_
 refine TL.pcallPm (α := {y : (Option Addr × Nat) × List Wre // IsWr m.edges.l y.2 ∧ y.2.length ≤ y.1.2 ∧ y.1.2 ≤ maxLen}) (fun x => .slice x.1.1.1 x.1.2.length x.1.1.2) (fun x => [.row (.slice x.1.1.1 x.1.2.length x.1.1.2) 54 2 x.1.2.length (flat Wre.cells x.1.2)]) rfl rfl rfl rfl rfl Tryz.func18 (by decide) rfl (fun w1 hw => wires_any m w1 ((MpR.of (hml) (by omega) hw (fun q hq => List.mem_of_mem_drop (i := 3) (by exact mps_mem (by simp) hq)))).edges ((MpR.of (hml) (by omega) hw (fun q hq => List.mem_of_mem_drop (i := 3) (by exact mps_mem (by simp) hq)))).nedges) ?_
 rintro ⟨⟨⟨R53, rc53⟩, wr53⟩, hP53, hR531, hR532⟩
 dsimp only [List.cons_append, List.nil_append]
 dsimp only at hP53 hR531 hR532 ⊢
 refine TL.ov (gN Tryz.underlying51) ?_
 refine TL.gu ?_
 refine TL.val rfl rfl rfl (gives_bin rfl rfl rfl (fun w => bin_eql_t (by rw [hmw wr53 hP53]; rfl) w)) ?_
 refine TL.rn 2 rfl ?_
 refine zET (zr ?_)
 exact ret_tmp Tryz.results10 rfl (fun w1 hw => ⟨rfl, hw.bel⟩)
def blkOf (A : Option Addr) : Nat := match A with
  | some a => a.block
  | none => 0
theorem blkOf_row {w0 : Base} {L : List Pc} {w : World} {A : Option Addr} {n c size : Nat} {e : TypeId} {xs : List Value} (h : Pm w0 L w) (hm : Pc.row (.slice A n c) e size n xs ∈ L) (hn : 0 < n) : A = some ⟨blkOf A, 0, none⟩ := by
  obtain ⟨g, hg⟩ := segA h hm hn
  rw [hg]; rfl
section
variable {m : Mp} {ms : List Mp}
theorem mps_hops (h : m ∈ ms) : Pc.row (.slice m.hops.A m.hops.l.length m.hops.c) 50 3 m.hops.l.length (flat Hpx.cells m.hops.l) ∈ mpsP ms := mps_mem h List.mem_cons_self
theorem mps_edges (h : m ∈ ms) : Pc.row (.slice m.edges.A m.edges.l.length m.edges.c) 63 4 m.edges.l.length (flat Ed.cells m.edges.l) ∈ mpsP ms := mps_mem h (List.mem_cons_of_mem _ List.mem_cons_self)
theorem mps_flh (h : m ∈ ms) {x : Hpx} (hx : x ∈ m.hops.l) : Pc.row (.slice x.fl.A x.fl.l.length x.fl.c) 3 1 x.fl.l.length (flat (ic .i64) x.fl.l) ∈ mpsP ms :=
  mps_mem h (List.mem_append_right _ (List.mem_map_of_mem (f := Sg.pc 3 1 (flat (ic .i64))) (List.mem_append_left _ (List.mem_map_of_mem (f := Hpx.fl) hx))))
theorem mps_fle (h : m ∈ ms) {x : Ed} (hx : x ∈ m.edges.l) : Pc.row (.slice x.fl.A x.fl.l.length x.fl.c) 3 1 x.fl.l.length (flat (ic .i64) x.fl.l) ∈ mpsP ms :=
  mps_mem h (List.mem_append_right _ (List.mem_map_of_mem (f := Sg.pc 3 1 (flat (ic .i64))) (List.mem_append_right _ (List.mem_map_of_mem (f := Ed.fl) hx))))
end
structure MpA (m : Mp) : Prop where
  hops : 0 < m.hops.l.length → m.hops.A = some ⟨blkOf m.hops.A, 0, none⟩
  edges : 0 < m.edges.l.length → m.edges.A = some ⟨blkOf m.edges.A, 0, none⟩
  fh : ∀ x ∈ m.hops.l, 0 < x.fl.l.length → x.fl.A = some ⟨blkOf x.fl.A, 0, none⟩
  fe : ∀ x ∈ m.edges.l, 0 < x.fl.l.length → x.fl.A = some ⟨blkOf x.fl.A, 0, none⟩
theorem MpA.of {w0 : Base} {w : World} {m : Mp} {L : List Pc} (h : Pm w0 L w) (hs : ∀ q ∈ m.pcs, q ∈ L) : MpA m := by
  have e : mpsP [m] = m.pcs := by unfold mpsP; rw [List.flatMap_cons, List.flatMap_nil, List.append_nil]
  have hs2 : ∀ q ∈ mpsP [m], q ∈ L := by rw [e]; exact hs
  have hm : m ∈ [m] := List.mem_singleton.2 rfl
  exact ⟨fun hn => blkOf_row h (hs2 _ (mps_hops hm)) hn, fun hn => blkOf_row h (hs2 _ (mps_edges hm)) hn, fun x hx hn => blkOf_row h (hs2 _ (mps_flh hm hx)) hn, fun x hx hn => blkOf_row h (hs2 _ (mps_fle hm hx)) hn⟩
set_option maxRecDepth 20000
def WreOk (x : Wre) : Prop := (0 ≤ x.frm ∧ x.frm ≤ 4294967295) ∧ 0 ≤ x.to_ ∧ x.to_ ≤ 4294967295
def rcmpW (x y : Wre) : Int := if x.frm ≠ y.frm then cmpI (IntKind.i64.wrap x.frm) (IntKind.i64.wrap y.frm) else cmpI (IntKind.i64.wrap x.to_) (IntKind.i64.wrap y.to_)
theorem wrk_len (x : Wre) : (wrk x).length = 2 := rfl
theorem rcmpW_eq {x y : Wre} (hx : WreOk x) (hy : WreOk y) : rcmpW x y = lexI (wrk x) (wrk y) := by
 have w1 : ∀ z : Int, 0 ≤ z ∧ z ≤ 4294967295 → IntKind.i64.wrap z = z := fun z h => by simp only [IntKind.wrap_i64]; omega
 unfold rcmpW
 rw [w1 _ hx.1, w1 _ hx.2, w1 _ hy.1, w1 _ hy.2]
 show _ = if cmpI x.frm y.frm = 0 then (if cmpI x.to_ y.to_ = 0 then 0 else cmpI x.to_ y.to_) else cmpI x.frm y.frm
 by_cases h : x.frm = y.frm
 ·rw [if_neg (fun h1 => h1 h), if_pos (cmpI_zero.2 h)]
  split
  ·rename_i h0; exact h0
  ·rfl
 ·rw [if_pos h, if_neg (fun h1 => h (cmpI_zero.1 h1))]
theorem wre_lt {x y : Wre} (hy : WreOk y) (hx : WreOk x) (h : rcmpW y x < 0) : lexI (wrk y) (wrk x) < 0 := by rw [← rcmpW_eq hy hx]; exact h
theorem wre_gt {x y : Wre} (hy : WreOk y) (hx : WreOk x) (h : ¬ rcmpW y x < 0) (hne : ¬ y = x) : lexI (wrk x) (wrk y) < 0 := by
 rw [rcmpW_eq hy hx] at h
 have h1 : lexI (wrk y) (wrk x) ≠ 0 := fun h0 => hne (wrk_inj ((lexI_zero (a := wrk y) (b := wrk x) rfl).1 h0))
 exact (posK wrk_len).1 (by omega)
theorem IsWr.nil : IsWr [] [] := ⟨List.Pairwise.nil, fun x => by simp⟩
section
variable {l : List Ed} {o o' : List Wre} {i : Nat} {x : Ed}
theorem IsWr.skip (h : IsWr (l.take i) o) (hx : l[i]? = some x) (hv : wireE x = false) : IsWr (l.take (i + 1)) o := ⟨h.1, fun t => by
 rw [h.2]
 constructor
 ·rintro ⟨r, h1, h2⟩
  exact ⟨r, (mem_take_snoc hx).2 (.inl h1), h2⟩
 ·rintro ⟨r, h1, h2, h3⟩
  rcases (mem_take_snoc hx).1 h1 with h4 | h4
  ·exact ⟨r, h4, h2, h3⟩
  ·rw [h4, hv] at h2; cases h2⟩
theorem IsWr.put (h : IsWr (l.take i) o) (hx : l[i]? = some x) (hv : wireE x = true) (ha : AscK wrk o') (hm : ∀ z, z ∈ o' ↔ z ∈ o ∨ z = edW x) : IsWr (l.take (i + 1)) o' := ⟨ha, fun t => by
 rw [hm, h.2]
 constructor
 ·rintro (⟨r, h3, h4⟩ | hh)
  ·exact ⟨r, (mem_take_snoc hx).2 (.inl h3), h4⟩
  ·exact ⟨x, (mem_take_snoc hx).2 (.inr rfl), hv, hh.symm⟩
 ·rintro ⟨r, h3, h4, h5⟩
  rcases (mem_take_snoc hx).1 h3 with h6 | h6
  ·exact .inl ⟨r, h6, h4, h5⟩
  ·rw [h6] at h5; exact .inr h5.symm⟩
theorem IsWr.rng (h : IsWr (l.take i) o) (hrg : ∀ e ∈ l, WreOk (edW e)) : ∀ z ∈ o, WreOk z := fun z hz => by
 obtain ⟨e, h1, _, h3⟩ := (h.2 z).1 hz
 rw [← h3]; exact hrg e (List.mem_of_mem_take h1)
theorem IsWr.len (h : IsWr (l.take i) o) (hl : o.length ≤ i) (ha : AscK wrk o') (hm : ∀ z, z ∈ o' ↔ z ∈ o ∨ z = edW x) : o'.length ≤ i + 1 := by
 have hn : o'.Nodup := ha.imp fun {a b} hab e => by rw [e] at hab; exact ltK_irrefl _ hab
 have := nodup_len (F := o ++ [edW x]) hn fun z hz => by rw [List.mem_append, List.mem_singleton]; exact (hm z).1 hz
 rw [List.length_append] at this
 exact Nat.le_trans this (by show o.length + 1 ≤ i + 1; omega)
end
set_option maxHeartbeats 1000000 in
theorem rcmpW_any (x y : Wre) (w : World) :
  Calls Tryz.prog 122 #[.agg x.cells.toArray, .agg y.cells.toArray] w fun e w' => e = .returned (.int .i64 (rcmpW x y)) ∧ Below w.heap.size w w' := by
 refine begin_ (vs := [.agg x.cells.toArray, .agg y.cells.toArray]) Tryz.func122 rfl rfl rfl ?_ (Pm.start w)
 refine zSG ?_
 refine TL.pnew rfl rfl rfl (exec_box (cs := x.cells) rfl rfl rfl) (fun g2 => ?_)
 refine TL.pnew rfl rfl rfl (exec_box (cs := y.cells) rfl rfl rfl) (fun g3 => ?_)
 refine TL.as_ ?_
 refine zET (zS (zSG ?_))
 refine TL.v (gF pcmfld54_0) ?_
 refine TL.v (gL 1 pcmag30) ?_
 refine TL.v (gF pcmfld54_0) ?_
 refine TL.v (gL 0 pcmag30) ?_
 refine TL.sp bin_neq (fun q9 => ?_) (fun q9 => ?_)
 ·refine zET (zc (zSG ?_))
  refine TL.v (gF pcmfld54_0) ?_
  refine TL.v (gL 1 pcmag30) ?_
  refine TL.val rfl rfl rfl (gives_conv rfl rfl (fun w => conv_w64 Tryz.underlying3 Tryz.underlying30 w)) ?_
  refine TL.v (gF pcmfld54_0) ?_
  refine TL.v (gL 0 pcmag30) ?_
  refine TL.val rfl rfl rfl (gives_conv rfl rfl (fun w => conv_w64 Tryz.underlying3 Tryz.underlying30 w)) ?_
  refine TL.pcall1 (r := .int .i64 (cmpI (IntKind.i64.wrap x.frm) (IntKind.i64.wrap y.frm))) rfl rfl rfl rfl rfl Tryz.func82 (by decide) rfl (fun w1 hw => still_bel (less_any (IntKind.i64.wrap x.frm) (IntKind.i64.wrap y.frm) w1)) ?_
  refine TL.as_ ?_
  refine zET (zr (zR ?_))
  have hE : (rcmpW x y) = cmpI (IntKind.i64.wrap x.frm) (IntKind.i64.wrap y.frm) := (by simp [rcmpW, q9])
  exact ret_tmp Tryz.results122 rfl (fun w1 hw => ⟨by rw [hE]; try rfl, hw.bel⟩)
 ·refine zET (zd (zk (zT (zSG ?_))))
  refine TL.v (gF pcmfld54_1) ?_
  refine TL.v (gL 1 pcmag30) ?_
  refine TL.val rfl rfl rfl (gives_conv rfl rfl (fun w => conv_w64 Tryz.underlying3 Tryz.underlying30 w)) ?_
  refine TL.v (gF pcmfld54_1) ?_
  refine TL.v (gL 0 pcmag30) ?_
  refine TL.val rfl rfl rfl (gives_conv rfl rfl (fun w => conv_w64 Tryz.underlying3 Tryz.underlying30 w)) ?_
  refine TL.pcall1 (r := .int .i64 (cmpI (IntKind.i64.wrap x.to_) (IntKind.i64.wrap y.to_))) rfl rfl rfl rfl rfl Tryz.func82 (by decide) rfl (fun w1 hw => still_bel (less_any (IntKind.i64.wrap x.to_) (IntKind.i64.wrap y.to_) w1)) ?_
  refine TL.as_ ?_
  refine zET (zr ?_)
  have hE : (rcmpW x y) = cmpI (IntKind.i64.wrap x.to_) (IntKind.i64.wrap y.to_) := (by simp [rcmpW, q9])
  exact ret_tmp Tryz.results122 rfl (fun w1 hw => ⟨by rw [hE]; try rfl, hw.bel⟩)
set_option maxHeartbeats 1000000 in
theorem putwire_any (w0 : Base) (F : List Pc) (A0 : Option Addr) (m c0 : Nat) (o : List Wre) (x : Wre) (w : World) (hw0 : Pm w0 ([.row (.slice A0 m c0) 54 2 m (flat Wre.cells o)] ++ F) w) (hm : o.length = m) (hm1 : m ≤ 100000) (hmc : m ≤ c0) (hcm : c0 ≤ maxLen) (ho : AscK wrk o) (hrg : ∀ z ∈ o, WreOk z) (hxr : WreOk x) :
  Calls Tryz.prog 99 #[.slice A0 m c0, .agg x.cells.toArray] w fun e w' => ∃ y : {y : (Option Addr × Nat) × List Wre // AscK wrk y.2 ∧ (∀ z, z ∈ y.2 ↔ z ∈ o ∨ z = x) ∧ y.2.length ≤ y.1.2 ∧ y.1.2 ≤ maxLen}, e = .returned (.slice y.1.1.1 y.1.2.length y.1.1.2) ∧ Pm w0 ([.row (.slice y.1.1.1 y.1.2.length y.1.1.2) 54 2 y.1.2.length (flat Wre.cells y.1.2)] ++ F) w' := by
 refine begin_ (vs := [.slice A0 m c0, .agg x.cells.toArray]) (I := Pm w0 ([.row (.slice A0 m c0) 54 2 m (flat Wre.cells o)] ++ F)) Tryz.func99 rfl rfl rfl ?_ hw0
 refine zSG ?_
 refine TL.pnew rfl rfl rfl (exec_box (cs := x.cells) rfl rfl rfl) (fun g3 => ?_)
 refine TL.as_ ?_
 refine zET (zSG ?_)
 refine TL.as_ ?_
 refine zET (zS (zB ?_))
 refine TC.loop_ (α := {k : Nat // k ≤ m ∧ ∀ z ∈ o.take k, lexI (wrk z) (wrk x) < 0}) (fun y => [(0, .slice A0 m c0), (3, .pointer (some ⟨g3, 0, none⟩)), (5, .int .i64 ((y.1 : Nat) : Int))]) (fun y => Pm w0 ([.blk g3 54 x.cells, .row (.slice A0 m c0) 54 2 m (flat Wre.cells o)] ++ F)) (fun y => m - y.1) (⟨0, Nat.zero_le _, fun z hz => by rw [List.take_zero] at hz; cases hz⟩) ⟨rfl, rfl, rfl, trivial⟩ (fun w1 hw => hw) ?_
 rintro ⟨k, hk, hlt⟩
 try dsimp only at hk hlt ⊢
 refine zS (zS ?_)
 by_cases hk0 : k = m
 ·refine TC.quietQ (by kernel_rfl) (by kernel_rfl) (fun w hw => hw.drawn _) ?_
  refine TQ.rn 2 rfl ?_
  refine TQ.v (gN Tryz.underlying51) ?_
  refine TQ.val rfl rfl rfl (gives_bin rfl rfl rfl (fun w => bin_lss_f (by omega) w)) ?_
  refine TQ.rn 9 rfl ?_
  refine TQ.fin ?_
  refine zT (zd (zx (zX (zX (zM (zT (zS (zS ?_))))))))
  ·refine TC.quietQ (by kernel_rfl) (by kernel_rfl) (fun w hw => hw.drawn _) ?_
   refine TQ.rn 2 rfl ?_
   refine TQ.v (gN Tryz.underlying51) ?_
   refine TQ.val rfl rfl rfl (gives_bin rfl rfl rfl (fun w => bin_lss_f (by omega) w)) ?_
   refine TQ.rn 8 rfl ?_
   refine TQ.fin ?_
   refine zT (zd (zk (zT (zSG ?_))))
   refine TL.mv ?_
   refine TL.v (gV 0 (.agg (x.cells).toArray) pcpag54 pcpsz54) ?_
   refine TL.prowS (e := 54) (size := 2) (cs := flat Wre.cells [x]) rfl rfl rfl rfl rfl (fun w => pwibs51_1_20251 _ _ w) (by decide) rfl (fun g36 => ?_)
   refine TL.appendT (k := 2) rfl rfl rfl rfl Tryz.underlying51 pwiel51 rfl rfl rfl (fun w1 hw => pm_reads hw (k := 0) rfl) (flat_one wre_cel _) (by show _ * 8 ≤ _; omega) (m + 1) (rfl) (flat Wre.cells (o ++ [x])) ((flat_app _ _).symm) (fun A37 c37 hA371 hA372 => ?_)
   refine TL.as_ ?_
   refine zET (zS ?_)
   have hn1 : (o ++ [x]).length = o.length + 1 := by simp
   have hn2 : (shiftL (o ++ [x]) k).length = o.length + 1 := by rw [shiftL_len _ _ (by omega), hn1]
   refine TC.fact (p := ∃ g, A37 = some ⟨g, 0, none⟩) (fun w1 hw => rowA hw (k := 2) rfl (by omega)) ?_
   rintro ⟨g_A37, rfl⟩
   refine TC.tail 7 (by kernel_rfl) (by kernel_rfl) (fun w hw => hw.drawn _) ?_
   refine TS.val rfl rfl rfl (gives_move rfl rfl) ?_
   refine TS.val rfl rfl rfl (gives_move rfl rfl) ?_
   refine TS.v (gD ((k + 1 : Nat) : Int)) ?_
   refine TS.val rfl rfl rfl (gives_sliceL (v := .slice (if c37 = k + 1 then some ⟨g_A37, 0, none⟩ else (some (⟨g_A37, 0, none⟩ : Addr)).map (·.add ((k + 1) * 2))) ((m + 1) - (k + 1)) (c37 - (k + 1))) rfl rfl rfl (fun w => cut_lo Tryz.underlying51 pcpsz54 _ _ _ (k + 1) rfl (by omega) w)) ?_
   refine TS.val rfl rfl rfl (gives_move rfl rfl) ?_
   refine TS.val rfl rfl rfl (gives_move rfl rfl) ?_
   refine TS.val rfl rfl rfl (gives_tailF (q := k) rfl rfl rfl rfl Tryz.underlying51 pcpsz54 (by omega) (by omega)) ?_
   refine TS.end_ ?_
   refine TL.shiftF wre_cel (kk := 2) (k := k) rfl rfl rfl rfl Tryz.underlying51 pcpsz54 rfl rfl rfl (by omega) (by omega) (by omega) ?_
   try dsimp only [List.set_cons_zero, List.set_cons_succ]
   refine zET (zSG ?_)
   refine TL.rn 2 rfl ?_
   refine TL.v (gV 1 (.agg (x.cells).toArray) pcpag54 pcpsz54) ?_
   have hi49 : k < (shiftL (o ++ [x]) k).length := by omega
   obtain ⟨x49, hx49⟩ := ex_at hi49
   refine TL.val rfl rfl rfl (gA (i := k) Tryz.underlying51 pcpsz54 rfl rfl rfl rfl rfl (by omega)) ?_
   refine TL.rowset (k := 2) (vs := x.cells) (xs' := flat Wre.cells ((shiftL (o ++ [x]) k).set k x)) rfl rfl rfl rfl rfl rfl rfl pcpsz54 (wre_cel.one _) (by rw [flat_len wre_cel]; show 0 + k * 2 + 2 ≤ _; omega) (flat_put wre_cel (q := 0) (y := x) hx49 (by show 0 + 2 ≤ 2; decide) rfl) ?_
   try dsimp only [List.set_cons_zero, List.set_cons_succ]
   refine zET (zSG ?_)
   refine TL.rn 2 rfl ?_
   refine zET (zr ?_)
   rw [shiftL_at _ _ _ _ (by omega)]
   have hln : (o.take k ++ x :: o.drop k).length = m + 1 := by rw [List.length_append, List.length_take, List.length_cons, List.length_drop]; omega
   exact ret_tmp Tryz.results99 rfl (fun w1 hw => ⟨⟨(((some ⟨g_A37, 0, none⟩), c37), o.take k ++ x :: o.drop k), ascK_put wrk_len ho hlt (fun z hz => by rw [List.drop_of_length_le (by omega)] at hz; cases hz), fun z => mem_put, by dsimp only; omega, hA372⟩, by dsimp only; rw [hln], by dsimp only; rw [hln]; exact hw.sel (.cons _ (.cons _ (.cons_cons _ (List.Sublist.refl _))))⟩)
 ·refine TC.fact (p := ∃ g, A0 = some ⟨g, 0, none⟩) (fun w1 hw => rowA hw (k := 1) rfl (by omega)) ?_
  rintro ⟨g_A0, rfl⟩
  refine TC.quietQ (by kernel_rfl) (by kernel_rfl) (fun w hw => hw.drawn _) ?_
  refine TQ.rn 2 rfl ?_
  refine TQ.v (gN Tryz.underlying51) ?_
  refine TQ.val rfl rfl rfl (gives_bin rfl rfl rfl (fun w => bin_lss_t (by omega) w)) ?_
  refine TQ.rn 3 rfl ?_
  refine TQ.on rfl rfl rfl ?_
  have hi13 : k < o.length := by omega
  obtain ⟨x13, hx13⟩ := ex_at hi13
  refine TQ.val rfl rfl rfl (gA (i := k) Tryz.underlying51 pcpsz54 rfl rfl rfl rfl rfl (by omega)) ?_
  refine TQ.on rfl rfl rfl ?_
  refine TQ.val rfl rfl rfl (gives_loadR (off := 0 + k * 2) rfl rfl pcpag54 pcpsz54 (wre_cel.len x13) (fun w1 hw j9 u9 h9 => flat_row wre_cel hw (q := 1) rfl hx13 j9 u9 h9)) ?_
  refine TQ.ov (gV 0 (.agg (x.cells).toArray) pcpag54 pcpsz54) ?_
  refine TQ.on rfl rfl rfl ?_
  refine TQ.call (v := .int .i64 (rcmpW x13 x)) rfl rfl rfl rfl rfl Tryz.func122 (by decide) rfl (fun w1 hw => (rcmpW_any x13 x w1).mono fun en w2 ⟨h1, h2⟩ => ⟨h1, hw.below h2⟩) ?_
  refine TQ.on rfl rfl rfl ?_
  refine TQ.sp bin_lss (fun q17 => ?_) (fun q17 => ?_)
  ·have hlt2 : ∀ z ∈ o.take (k + 1), lexI (wrk z) (wrk x) < 0 := ascK_ahead wrk_len ho hx13 (wre_lt (hrg _ (List.mem_of_getElem? hx13)) hxr q17)
   refine TQ.val rfl rfl rfl (gives_pick rfl rfl rfl) ?_
   refine TQ.fin ?_
   refine zT (zc (zk (zT (zB (zG ?_)))))
   refine TL.mv ?_
   refine TL.v (gD ((k + 1 : Nat) : Int)) ?_
   refine TL.as_ ?_
   refine zE (zN ?_)
   exact TX.round (⟨k + 1, by omega, hlt2⟩) (by show m - (k + 1) < m - k; omega) ⟨rfl, rfl, rfl, trivial⟩ (fun w1 hw => hw)
  ·refine TQ.val rfl rfl rfl (gives_pick rfl rfl rfl) ?_
   refine TQ.fin ?_
   refine zT (zd (zx (zX (zX (zM (zT (zS (zS ?_))))))))
   ·refine TC.quietQ (by kernel_rfl) (by kernel_rfl) (fun w hw => hw.drawn _) ?_
    refine TQ.rn 2 rfl ?_
    refine TQ.v (gN Tryz.underlying51) ?_
    refine TQ.val rfl rfl rfl (gives_bin rfl rfl rfl (fun w => bin_lss_t (by omega) w)) ?_
    refine TQ.rn 3 rfl ?_
    refine TQ.on rfl rfl rfl ?_
    refine TQ.val rfl rfl rfl (gA (i := k) Tryz.underlying51 pcpsz54 rfl rfl rfl rfl rfl (by omega)) ?_
    refine TQ.on rfl rfl rfl ?_
    refine TQ.val rfl rfl rfl (gives_loadR (off := 0 + k * 2) rfl rfl pcpag54 pcpsz54 (wre_cel.len x13) (fun w1 hw j9 u9 h9 => flat_row wre_cel hw (q := 1) rfl hx13 j9 u9 h9)) ?_
    refine TQ.ov (gV 0 (.agg (x.cells).toArray) pcpag54 pcpsz54) ?_
    refine TQ.on rfl rfl rfl ?_
    refine TQ.vsplit rfl rfl rfl (gives_bin2 rfl rfl rfl (fun w => wre_eql x13 x _ _ w)) (fun h31 => ?_) (fun h31 => ?_)
    ·have q31 := of_decide_eq_true h31
     refine TQ.val rfl rfl rfl (gives_pick rfl rfl rfl) ?_
     refine TQ.fin ?_
     refine zT (zc (zSG ?_))
     refine TL.rn 2 rfl ?_
     refine zET (zr (zR ?_))
     subst hm
     exact ret_tmp Tryz.results99 rfl (fun w1 hw => ⟨⟨(((some ⟨g_A0, 0, none⟩), c0), o), ho, fun z => ⟨.inl, fun h => h.elim id fun e => e ▸ (q31 ▸ List.mem_of_getElem? hx13)⟩, by dsimp only; omega, hcm⟩, rfl, hw.sel (.cons _ (.cons_cons _ (List.Sublist.refl _)))⟩)
    ·have q31 := of_decide_eq_false h31
     refine TQ.val rfl rfl rfl (gives_pick rfl rfl rfl) ?_
     refine TQ.fin ?_
     refine zT (zd (zk (zT (zSG ?_))))
     refine TL.mv ?_
     refine TL.v (gV 0 (.agg (x.cells).toArray) pcpag54 pcpsz54) ?_
     refine TL.prowS (e := 54) (size := 2) (cs := flat Wre.cells [x]) rfl rfl rfl rfl rfl (fun w => pwibs51_1_20251 _ _ w) (by decide) rfl (fun g36 => ?_)
     refine TL.appendT (k := 2) rfl rfl rfl rfl Tryz.underlying51 pwiel51 rfl rfl rfl (fun w1 hw => pm_reads hw (k := 0) rfl) (flat_one wre_cel _) (by show _ * 8 ≤ _; omega) (m + 1) (rfl) (flat Wre.cells (o ++ [x])) ((flat_app _ _).symm) (fun A37 c37 hA371 hA372 => ?_)
     refine TL.as_ ?_
     refine zET (zS ?_)
     have hn1 : (o ++ [x]).length = o.length + 1 := by simp
     have hn2 : (shiftL (o ++ [x]) k).length = o.length + 1 := by rw [shiftL_len _ _ (by omega), hn1]
     refine TC.fact (p := ∃ g, A37 = some ⟨g, 0, none⟩) (fun w1 hw => rowA hw (k := 2) rfl (by omega)) ?_
     rintro ⟨g_A37, rfl⟩
     refine TC.tail 7 (by kernel_rfl) (by kernel_rfl) (fun w hw => hw.drawn _) ?_
     refine TS.val rfl rfl rfl (gives_move rfl rfl) ?_
     refine TS.val rfl rfl rfl (gives_move rfl rfl) ?_
     refine TS.v (gD ((k + 1 : Nat) : Int)) ?_
     refine TS.val rfl rfl rfl (gives_sliceL (v := .slice (if c37 = k + 1 then some ⟨g_A37, 0, none⟩ else (some (⟨g_A37, 0, none⟩ : Addr)).map (·.add ((k + 1) * 2))) ((m + 1) - (k + 1)) (c37 - (k + 1))) rfl rfl rfl (fun w => cut_lo Tryz.underlying51 pcpsz54 _ _ _ (k + 1) rfl (by omega) w)) ?_
     refine TS.val rfl rfl rfl (gives_move rfl rfl) ?_
     refine TS.val rfl rfl rfl (gives_move rfl rfl) ?_
     refine TS.val rfl rfl rfl (gives_tailF (q := k) rfl rfl rfl rfl Tryz.underlying51 pcpsz54 (by omega) (by omega)) ?_
     refine TS.end_ ?_
     refine TL.shiftF wre_cel (kk := 2) (k := k) rfl rfl rfl rfl Tryz.underlying51 pcpsz54 rfl rfl rfl (by omega) (by omega) (by omega) ?_
     try dsimp only [List.set_cons_zero, List.set_cons_succ]
     refine zET (zSG ?_)
     refine TL.rn 2 rfl ?_
     refine TL.v (gV 1 (.agg (x.cells).toArray) pcpag54 pcpsz54) ?_
     have hi49 : k < (shiftL (o ++ [x]) k).length := by omega
     obtain ⟨x49, hx49⟩ := ex_at hi49
     refine TL.val rfl rfl rfl (gA (i := k) Tryz.underlying51 pcpsz54 rfl rfl rfl rfl rfl (by omega)) ?_
     refine TL.rowset (k := 2) (vs := x.cells) (xs' := flat Wre.cells ((shiftL (o ++ [x]) k).set k x)) rfl rfl rfl rfl rfl rfl rfl pcpsz54 (wre_cel.one _) (by rw [flat_len wre_cel]; show 0 + k * 2 + 2 ≤ _; omega) (flat_put wre_cel (q := 0) (y := x) hx49 (by show 0 + 2 ≤ 2; decide) rfl) ?_
     try dsimp only [List.set_cons_zero, List.set_cons_succ]
     refine zET (zSG ?_)
     refine TL.rn 2 rfl ?_
     refine zET (zr ?_)
     rw [shiftL_at _ _ _ _ (by omega)]
     have hln : (o.take k ++ x :: o.drop k).length = m + 1 := by rw [List.length_append, List.length_take, List.length_cons, List.length_drop]; omega
     exact ret_tmp Tryz.results99 rfl (fun w1 hw => ⟨⟨(((some ⟨g_A37, 0, none⟩), c37), o.take k ++ x :: o.drop k), ascK_put wrk_len ho hlt (ascK_behind wrk_len ho hx13 (wre_gt (hrg _ (List.mem_of_getElem? hx13)) hxr q17 q31)), fun z => mem_put, by dsimp only; omega, hA372⟩, by dsimp only; rw [hln], by dsimp only; rw [hln]; exact hw.sel (.cons _ (.cons _ (.cons_cons _ (List.Sublist.refl _))))⟩)
set_option maxHeartbeats 1000000 in
theorem rwires_any (m : Mp) (w : World) (hr : Reads w w.heap.size 4 m.edges.A m.edges.l.length (flat Ed.cells m.edges.l)) (hl1 : m.edges.l.length ≤ 100000) (hrg : ∀ e ∈ m.edges.l, WreOk (edW e)) :
  Calls Tryz.prog 53 #[.agg m.cells.toArray] w fun e w' => ∃ x : {y : (Option Addr × Nat) × List Wre // IsWr m.edges.l y.2 ∧ y.2.length ≤ y.1.2 ∧ y.1.2 ≤ maxLen}, e = .returned (.slice x.1.1.1 x.1.2.length x.1.1.2) ∧ Pm w [.row (.slice x.1.1.1 x.1.2.length x.1.1.2) 54 2 x.1.2.length (flat Wre.cells x.1.2)] w' := by
 refine begin_ (vs := [.agg m.cells.toArray]) Tryz.func53 rfl rfl rfl ?_ (Pm.start w)
 refine zSG ?_
 refine TL.pnew rfl rfl rfl (exec_box (cs := m.cells) rfl rfl rfl) (fun g1 => ?_)
 refine TL.as_ ?_
 refine zET (zSG ?_)
 refine TL.as_ ?_
 refine zET (zS (zSG ?_))
 refine TL.as_ ?_
 refine zET (zB ?_)
 refine TC.nilrow 54 2 ?_
 refine TC.loop_ (α := {y : Nat × (Option Addr × Nat) × List Wre // y.1 ≤ m.edges.l.length ∧ (IsWr (m.edges.l.take y.1) y.2.2) ∧ y.2.2.length ≤ y.1 ∧ y.2.2.length ≤ y.2.1.2 ∧ y.2.1.2 ≤ maxLen}) (fun y => [(1, .pointer (some ⟨g1, 0, none⟩)), (4, .int .i64 ((y.1.1 : Nat) : Int)), (3, .slice y.1.2.1.1 y.1.2.2.length y.1.2.1.2)]) (fun y => Pm w [.row (.slice y.1.2.1.1 y.1.2.2.length y.1.2.1.2) 54 2 y.1.2.2.length (flat Wre.cells y.1.2.2), .blk g1 36 m.cells]) (fun y => m.edges.l.length - y.1.1) (⟨(0, (none, 0), []), Nat.zero_le _, IsWr.nil, Nat.le_refl _, Nat.le_refl _, Nat.zero_le _⟩) ⟨rfl, rfl, rfl, trivial⟩ (fun w1 hw => hw) ?_
 rintro ⟨⟨i, ⟨Ao, co⟩, out⟩, hi, hout, houtl, houtc, houtm⟩
 dsimp only at hi hout houtl houtc houtm ⊢
 refine zS (zSG ?_)
 refine TL.mv ?_
 refine TL.v (gF pbdfld36_3) ?_
 refine TL.v (gL 1 pbdag34) ?_
 refine TL.v (gN Tryz.underlying34) ?_
 refine TL.sp bin_lss (fun q9 => ?_) (fun q9 => ?_)
 ·refine zET (zc (zk (zT (zS (zB (zSG ?_))))))
  refine TL.v (gF pbdfld36_3) ?_
  refine TL.v (gL 1 pbdag34) ?_
  refine TL.mv ?_
  have hi15 : i < m.edges.l.length := by omega
  obtain ⟨x15, hx15⟩ := ex_at hi15
  obtain ⟨b15, o15, hA15, hbb15, hc15⟩ := hr.ad (by omega) (by decide)
  refine TL.val rfl rfl rfl (gA (i := i) Tryz.underlying34 pwisz63 rfl rfl rfl rfl hA15 (by omega)) ?_
  refine TL.v (gF pcmfld63_1) ?_
  refine TL.v (gS 1 ed_cel pcmag30 hbb15 hx15 hc15) ?_
  refine TL.sp bin_neq (fun q18 => ?_) (fun q18 => ?_)
  ·refine TL.mv ?_
   refine TL.ov (gF pbdfld36_3) ?_
   refine TL.ov (gL 1 pbdag34) ?_
   refine TL.rn 1 rfl ?_
   refine TL.gu ?_
   refine TL.val rfl rfl rfl (gA (i := i) Tryz.underlying34 pwisz63 rfl rfl rfl rfl hA15 (by omega)) ?_
   refine TL.ov (gF pcmfld63_2) ?_
   refine TL.ov (gS 2 ed_cel pcmag30 hbb15 hx15 hc15) ?_
   refine TL.gu ?_
   refine TL.sp bin_neq (fun q26 => ?_) (fun q26 => ?_)
   ·refine TL.pk ?_
    refine zET (zc ?_)
    refine TC.tail 14 (by kernel_rfl) (by kernel_rfl) (fun w hw => hw.drawn _) ?_
    refine TS.val rfl rfl rfl (gives_move rfl rfl) ?_
    refine TS.v (gF pbdfld36_3) ?_
    refine TS.v (gL 1 pbdag34) ?_
    refine TS.val rfl rfl rfl (gives_move rfl rfl) ?_
    refine TS.val rfl rfl rfl (gA (i := i) Tryz.underlying34 pwisz63 rfl rfl rfl rfl hA15 (by omega)) ?_
    refine TS.v (gF pcmfld63_1) ?_
    refine TS.v (gS 1 ed_cel pcmag30 hbb15 hx15 hc15) ?_
    refine TS.v (gF pbdfld36_3) ?_
    refine TS.v (gL 1 pbdag34) ?_
    refine TS.val rfl rfl rfl (gives_move rfl rfl) ?_
    refine TS.val rfl rfl rfl (gA (i := i) Tryz.underlying34 pwisz63 rfl rfl rfl rfl hA15 (by omega)) ?_
    refine TS.v (gF pcmfld63_2) ?_
    refine TS.v (gS 2 ed_cel pcmag30 hbb15 hx15 hc15) ?_
    refine TS.val rfl rfl rfl (gives_build (v := .agg #[.int .u32 x15.frm, .int .u32 x15.to_]) rfl rfl (fun w => pwibld54_27256 _ _ w)) ?_
    refine TS.end_ ?_
    refine TL.call (α := {y : (Option Addr × Nat) × List Wre // AscK wrk y.2 ∧ (∀ z, z ∈ y.2 ↔ z ∈ out ∨ z = edW x15) ∧ y.2.length ≤ y.1.2 ∧ y.1.2 ≤ maxLen}) (r := fun y => .slice y.1.1.1 y.1.2.length y.1.1.2) (I' := fun y => Pm w [.row (.slice y.1.1.1 y.1.2.length y.1.1.2) 54 2 y.1.2.length (flat Wre.cells y.1.2), .blk g1 36 m.cells]) rfl rfl rfl rfl rfl Tryz.func99 (by decide) rfl (fun w1 hw => putwire_any w [.blk g1 36 m.cells] Ao out.length co out (edW x15) w1 (hw) rfl (by omega) (by omega) houtm hout.1 (hout.rng hrg) (hrg x15 (List.mem_of_getElem? hx15))) ?_
    rintro ⟨⟨⟨R42, rc42⟩, o42⟩, ha42, hm42, hl42, hc42⟩
    dsimp only at ha42 hm42 hl42 hc42 ⊢
    refine TL.as_ ?_
    refine zE (zN (zT (zG ?_)))
    refine TL.mv ?_
    refine TL.v (gD ((i + 1 : Nat) : Int)) ?_
    refine TL.as_ ?_
    refine zE ?_
    exact TX.round (⟨(i + 1, (R42, rc42), o42), by dsimp only; omega, hout.put hx15 (by simp [wireE, q9, q18, q26] <;> omega) ha42 hm42, by dsimp only; exact hout.len houtl ha42 hm42, hl42, hc42⟩) (by show m.edges.l.length - (i + 1) < m.edges.l.length - i; omega) ⟨rfl, rfl, rfl, trivial⟩ (fun w1 hw => hw)
   ·refine TL.pk ?_
    refine zET (zd (zk (zN (zT (zG ?_)))))
    refine TL.mv ?_
    refine TL.v (gD ((i + 1 : Nat) : Int)) ?_
    refine TL.as_ ?_
    refine zE ?_
    exact TX.round (⟨(i + 1, (Ao, co), out), by dsimp only; omega, hout.skip hx15 (by simp [wireE, q9, q18, q26] <;> omega), by dsimp only; omega, houtc, houtm⟩) (by show m.edges.l.length - (i + 1) < m.edges.l.length - i; omega) ⟨rfl, rfl, rfl, trivial⟩ (fun w1 hw => hw)
  ·refine TL.rn 9 rfl ?_
   refine zET (zd (zk (zN (zT (zG ?_)))))
   refine TL.mv ?_
   refine TL.v (gD ((i + 1 : Nat) : Int)) ?_
   refine TL.as_ ?_
   refine zE ?_
   exact TX.round (⟨(i + 1, (Ao, co), out), by dsimp only; omega, hout.skip hx15 (by simp [wireE, q9, q18] <;> omega), by dsimp only; omega, houtc, houtm⟩) (by show m.edges.l.length - (i + 1) < m.edges.l.length - i; omega) ⟨rfl, rfl, rfl, trivial⟩ (fun w1 hw => hw)
 ·refine zET (zd (zx (zX (zX (zM (zT (zSG ?_)))))))
  refine TL.rn 2 rfl ?_
  refine zET (zr ?_)
  exact ret_tmp Tryz.results53 rfl (fun w1 hw => ⟨⟨((Ao, co), out), by rw [List.take_of_length_le (by omega)] at hout; exact hout, houtc, houtm⟩, rfl, hw.pick [0] (by decide) rfl⟩)
set_option maxRecDepth 20000
section
variable {l : List Rs} {flow ttl : Int}
theorem has_t2 (h : ¬ atS l flow ttl ≠ 2) : hasF (lookS l).2 flow ttl = true := by
 have h1 : ((lookS l).2 ⟨flow, ttl⟩).getD 0 = 2 := Decidable.not_not.1 h
 simp [hasF, h1]
theorem has_t1 (h : ¬ atS l flow ttl ≠ 1) : hasF (lookS l).2 flow ttl = true := by
 have h1 : ((lookS l).2 ⟨flow, ttl⟩).getD 0 = 1 := Decidable.not_not.1 h
 simp [hasF, h1]
theorem has_f (h : atS l flow ttl ≠ 2) (h2 : atS l flow ttl ≠ 1) : hasF (lookS l).2 flow ttl = false := by
 unfold atS at h h2
 simp [hasF, h, h2]
end
set_option maxHeartbeats 1000000 in
theorem rat_any (A0 : Option Addr) (c0 : Nat) (l : List Rs) (flow ttl : Int) (w : World) (hr : Reads w w.heap.size 17 A0 l.length (flat Rs.cells l)) (hl1 : l.length ≤ 100000) :
  Calls Tryz.prog 50 #[.slice A0 l.length c0, .int .i64 flow, .int .i64 ttl] w fun e w' => e = .returned (.tuple #[.int .u32 (atA l flow ttl), .int .i64 (atS l flow ttl)]) ∧ Below w.heap.size w w' := by
 refine begin_ (vs := [.slice A0 l.length c0, .int .i64 flow, .int .i64 ttl]) Tryz.func50 rfl rfl rfl ?_ (Pm.start w)
 refine zSG ?_
 refine TL.rn 2 rfl ?_
 refine zET (zSG ?_)
 refine TL.mv ?_
 refine TL.pcall1 (r := .int .i64 (endT l)) rfl rfl rfl rfl rfl Tryz.func48 (by decide) rfl (fun w1 hw => rend_any A0 c0 l w1 (hr.up hw.bel) hl1) ?_
 refine TL.as_ ?_
 refine zET (zSG ?_)
 refine TL.rn 2 rfl ?_
 refine zET (zS (zSG ?_))
 refine TL.mv ?_
 refine TL.sp bin_gtr (fun q16 => ?_) (fun q16 => ?_)
 ·refine TL.rn 3 rfl ?_
  refine TL.gu ?_
  refine TL.sp bin_gtr (fun q20 => ?_) (fun q20 => ?_)
  ·refine TL.pk ?_
   refine zET (zc (zSG ?_))
   refine TL.rn 2 rfl ?_
   refine zET (zr (zR ?_))
   have hE := rat_out (l := l) (flow := flow) (by exact ⟨q16, q20⟩)
   exact ret_pair (v1 := .int .u32 0) (v2 := .int .i64 0) Tryz.results50 rfl rfl (fun w1 hw => ⟨by rw [hE.1, hE.2], hw.bel⟩)
  ·refine TL.pk ?_
   refine zET (zd (zk (zT (zS (zS ?_)))))
   have he : ¬ (endT l > 0 ∧ ttl > endT l) := fun h => q20 h.2
   refine zG ?_
   refine TL.as_ ?_
   refine zET (zB ?_)
   refine TC.loop_ (α := {y : Nat × Int × Int // y.1 ≤ l.length ∧ rat l flow ttl y.1 = (y.2.1, y.2.2) ∧ 0 ≤ y.2.2 ∧ y.2.2 ≤ 2}) (fun y => [(0, .slice A0 l.length c0), (1, .int .i64 flow), (2, .int .i64 ttl), (11, .int .i64 ((y.1.1 : Nat) : Int)), (9, .int .u32 y.1.2.1), (10, .int .i64 y.1.2.2)]) (fun y => Pm w []) (fun y => l.length - y.1.1) (⟨(0, 0, 0), Nat.zero_le _, rat_zero, by decide, by decide⟩) ⟨rfl, rfl, rfl, rfl, rfl, rfl, trivial⟩ (fun w1 hw => hw) ?_
   rintro ⟨⟨i, a, t⟩, hi, hv, ht0, ht2⟩
   dsimp only at hi hv ht0 ht2 ⊢
   refine zS (zSG ?_)
   refine TL.rn 2 rfl ?_
   refine TL.v (gN Tryz.underlying26) ?_
   refine TL.sp bin_lss (fun q25 => ?_) (fun q25 => ?_)
   ·refine zET (zc (zk (zT (zS (zB (zSG ?_))))))
    refine TL.rn 2 rfl ?_
    have hi30 : i < l.length := by omega
    obtain ⟨x30, hx30⟩ := ex_at hi30
    obtain ⟨b30, o30, hA30, hbb30, hc30⟩ := hr.ad (by omega) (by decide)
    refine TL.val rfl rfl rfl (gA (i := i) Tryz.underlying26 prssz47 rfl rfl rfl rfl hA30 (by omega)) ?_
    refine TL.v (gR rs_cel prsag47 prssz47 hbb30 hx30 hc30) ?_
    refine TL.pnew rfl rfl rfl (exec_alloc (cs := [.int .i64 0, .int .i64 0, .int .i64 0, .int .i64 0, .int .u32 0, .int .i64 0, .int .i64 0, .int .i64 0, .bool false, .bool false, .int .i64 0, .int .u32 0, .int .i64 0, .int .i64 0, .int .i64 0, .int .i64 0, .int .i64 0]) rfl pcpzv47 rfl) (fun g12 => ?_)
    refine TL.pstore (k := 0) (vs := x30.cells) rfl rfl rfl rfl rfl rfl rfl prssz47 (rs_cel.one _) (by show 17 ≤ 17; decide) rfl ?_
    refine zET (zS (zSG ?_))
    refine TL.v (gV 0 (.agg (x30.cells).toArray) prsag47 prssz47) ?_
    refine TL.callsplit rfl rfl rfl rfl rfl Tryz.func29 (by decide) rfl (fun w1 hw => rusbRs_any x30 w1) (fun h33 => ?_) (fun h33 => ?_)
    ·refine TL.rn 2 rfl ?_
     refine TL.ov (gF prsfld47_6) ?_
     refine TL.ov (gL 0 pcmag3) ?_
     refine TL.rn 1 rfl ?_
     refine TL.gu ?_
     refine TL.sp bin_neq (fun q39 => ?_) (fun q39 => ?_)
     ·refine TL.rn 7 rfl ?_
      refine zET (zc (zx (zX (zM (zT (zG ?_))))))
      refine TL.mv ?_
      refine TL.v (gD ((i + 1 : Nat) : Int)) ?_
      refine TL.as_ ?_
      refine zE ?_
      exact TX.round (⟨(i + 1, a, t), by dsimp only; omega, rat_skip hx30 (hit_f2 q39) hv, ht0, ht2⟩) (by show l.length - (i + 1) < l.length - i; omega) ⟨rfl, rfl, rfl, rfl, rfl, rfl, trivial⟩ (fun w1 hw => hw.pick [] (by decide) rfl)
     ·refine TL.rn 2 rfl ?_
      refine TL.ov (gF prsfld47_7) ?_
      refine TL.ov (gL 0 pcmag3) ?_
      refine TL.rn 1 rfl ?_
      refine TL.gu ?_
      refine TL.sp bin_neq (fun q45 => ?_) (fun q45 => ?_)
      ·refine TL.pk ?_
       refine zET (zc (zx (zX (zM (zT (zG ?_))))))
       refine TL.mv ?_
       refine TL.v (gD ((i + 1 : Nat) : Int)) ?_
       refine TL.as_ ?_
       refine zE ?_
       exact TX.round (⟨(i + 1, a, t), by dsimp only; omega, rat_skip hx30 (hit_f3 q45) hv, ht0, ht2⟩) (by show l.length - (i + 1) < l.length - i; omega) ⟨rfl, rfl, rfl, rfl, rfl, rfl, trivial⟩ (fun w1 hw => hw.pick [] (by decide) rfl)
      ·refine TL.pk ?_
       refine zET (zd (zk (zT (zB (zSG ?_)))))
       refine TL.v (gF prsfld47_8) ?_
       refine TL.vsplit rfl rfl rfl (gL 0 prsag4) (fun h52 => ?_) (fun h52 => ?_)
       ·refine TL.rn 2 rfl ?_
        refine zET (zd (zSG ?_))
        refine TL.mv ?_
        refine TL.sp bin_eql (fun q58 => ?_) (fun q58 => ?_)
        ·refine TL.rn 2 rfl ?_
         refine TL.ov (gF prsfld47_11) ?_
         refine TL.ov (gF prsfld45_0) ?_
         refine TL.ov (gL 0 pcmag30) ?_
         refine TL.gu ?_
         refine TL.sp bin_neq (fun q64 => ?_) (fun q64 => ?_)
         ·refine TL.rn 2 rfl ?_
          refine zET (zc (zSG ?_))
          refine TL.rn 2 rfl ?_
          refine zET (zr (TX.in_ret (zRR (zR (zRR ?_)))))
          have hE := rat_mix ((rat_hit hx30 (hit_t h33 q39 q45 he) hv).trans (vst_mix h52 q58 q64))
          exact ret_pair (v1 := .int .u32 0) (v2 := .int .i64 3) Tryz.results50 rfl rfl (fun w1 hw => ⟨by rw [hE.1, hE.2], hw.bel⟩)
         ·refine TL.rn 2 rfl ?_
          refine zET (zd (zG ?_))
          refine TL.v (gF prsfld47_11) ?_
          refine TL.v (gF prsfld45_0) ?_
          refine TL.v (gL 0 pcmag30) ?_
          refine TL.rn 2 rfl ?_
          refine zE (zN (zN (zT (zG ?_))))
          refine TL.mv ?_
          refine TL.v (gD ((i + 1 : Nat) : Int)) ?_
          refine TL.as_ ?_
          refine zE ?_
          exact TX.round (⟨(i + 1, x30.src, 2), by dsimp only; omega, (rat_hit hx30 (hit_t h33 q39 q45 he) hv).trans (vst_seen h52 ht2 (by exact .inr (Decidable.not_not.1 q64))), by dsimp only; omega, by dsimp only; omega⟩) (by show l.length - (i + 1) < l.length - i; omega) ⟨rfl, rfl, rfl, rfl, rfl, rfl, trivial⟩ (fun w1 hw => hw.pick [] (by decide) rfl)
        ·refine TL.rn 8 rfl ?_
         refine zET (zd (zG ?_))
         refine TL.v (gF prsfld47_11) ?_
         refine TL.v (gF prsfld45_0) ?_
         refine TL.v (gL 0 pcmag30) ?_
         refine TL.rn 2 rfl ?_
         refine zE (zN (zN (zT (zG ?_))))
         refine TL.mv ?_
         refine TL.v (gD ((i + 1 : Nat) : Int)) ?_
         refine TL.as_ ?_
         refine zE ?_
         exact TX.round (⟨(i + 1, x30.src, 2), by dsimp only; omega, (rat_hit hx30 (hit_t h33 q39 q45 he) hv).trans (vst_seen h52 ht2 (by exact .inl q58)), by dsimp only; omega, by dsimp only; omega⟩) (by show l.length - (i + 1) < l.length - i; omega) ⟨rfl, rfl, rfl, rfl, rfl, rfl, trivial⟩ (fun w1 hw => hw.pick [] (by decide) rfl)
       ·refine TL.rn 2 rfl ?_
        refine zET (zc (zSG ?_))
        refine TL.mv ?_
        refine TL.sp bin_eql (fun q55 => ?_) (fun q55 => ?_)
        ·refine zET (zc (zG ?_))
         refine TL.as_ ?_
         refine zE (zN (zN (zT (zG ?_))))
         refine TL.mv ?_
         refine TL.v (gD ((i + 1 : Nat) : Int)) ?_
         refine TL.as_ ?_
         refine zE ?_
         exact TX.round (⟨(i + 1, a, 1), by dsimp only; omega, (rat_hit hx30 (hit_t h33 q39 q45 he) hv).trans (vst_none h52 (by dsimp only; omega)), by dsimp only; omega, by dsimp only; omega⟩) (by show l.length - (i + 1) < l.length - i; omega) ⟨rfl, rfl, rfl, rfl, rfl, rfl, trivial⟩ (fun w1 hw => hw.pick [] (by decide) rfl)
        ·refine zET (zd (zk (zN (zN (zT (zG ?_))))))
         refine TL.mv ?_
         refine TL.v (gD ((i + 1 : Nat) : Int)) ?_
         refine TL.as_ ?_
         refine zE ?_
         exact TX.round (⟨(i + 1, a, t), by dsimp only; omega, (rat_hit hx30 (hit_t h33 q39 q45 he) hv).trans (vst_none h52 (by dsimp only; omega)), by dsimp only; omega, by dsimp only; omega⟩) (by show l.length - (i + 1) < l.length - i; omega) ⟨rfl, rfl, rfl, rfl, rfl, rfl, trivial⟩ (fun w1 hw => hw.pick [] (by decide) rfl)
    ·refine TL.rn 13 rfl ?_
     refine zET (zc (zx (zX (zM (zT (zG ?_))))))
     refine TL.mv ?_
     refine TL.v (gD ((i + 1 : Nat) : Int)) ?_
     refine TL.as_ ?_
     refine zE ?_
     exact TX.round (⟨(i + 1, a, t), by dsimp only; omega, rat_skip hx30 (hit_f1 h33) hv, ht0, ht2⟩) (by show l.length - (i + 1) < l.length - i; omega) ⟨rfl, rfl, rfl, rfl, rfl, rfl, trivial⟩ (fun w1 hw => hw.pick [] (by decide) rfl)
   ·refine zET (zd (zx (zX (zX (zM (zT (zSG ?_)))))))
    refine TL.rn 4 rfl ?_
    refine zET (zr ?_)
    have hE := rat_end (by omega) hv
    exact ret_pair (v1 := .int .u32 a) (v2 := .int .i64 t) Tryz.results50 rfl rfl (fun w1 hw => ⟨by rw [hE.1, hE.2], hw.bel⟩)
 ·refine TL.rn 5 rfl ?_
  refine zET (zd (zk (zT (zS (zS ?_)))))
  have he : ¬ (endT l > 0 ∧ ttl > endT l) := fun h => q16 h.1
  refine zG ?_
  refine TL.as_ ?_
  refine zET (zB ?_)
  refine TC.loop_ (α := {y : Nat × Int × Int // y.1 ≤ l.length ∧ rat l flow ttl y.1 = (y.2.1, y.2.2) ∧ 0 ≤ y.2.2 ∧ y.2.2 ≤ 2}) (fun y => [(0, .slice A0 l.length c0), (1, .int .i64 flow), (2, .int .i64 ttl), (11, .int .i64 ((y.1.1 : Nat) : Int)), (9, .int .u32 y.1.2.1), (10, .int .i64 y.1.2.2)]) (fun y => Pm w []) (fun y => l.length - y.1.1) (⟨(0, 0, 0), Nat.zero_le _, rat_zero, by decide, by decide⟩) ⟨rfl, rfl, rfl, rfl, rfl, rfl, trivial⟩ (fun w1 hw => hw) ?_
  rintro ⟨⟨i, a, t⟩, hi, hv, ht0, ht2⟩
  dsimp only at hi hv ht0 ht2 ⊢
  refine zS (zSG ?_)
  refine TL.rn 2 rfl ?_
  refine TL.v (gN Tryz.underlying26) ?_
  refine TL.sp bin_lss (fun q25 => ?_) (fun q25 => ?_)
  ·refine zET (zc (zk (zT (zS (zB (zSG ?_))))))
   refine TL.rn 2 rfl ?_
   have hi30 : i < l.length := by omega
   obtain ⟨x30, hx30⟩ := ex_at hi30
   obtain ⟨b30, o30, hA30, hbb30, hc30⟩ := hr.ad (by omega) (by decide)
   refine TL.val rfl rfl rfl (gA (i := i) Tryz.underlying26 prssz47 rfl rfl rfl rfl hA30 (by omega)) ?_
   refine TL.v (gR rs_cel prsag47 prssz47 hbb30 hx30 hc30) ?_
   refine TL.pnew rfl rfl rfl (exec_alloc (cs := [.int .i64 0, .int .i64 0, .int .i64 0, .int .i64 0, .int .u32 0, .int .i64 0, .int .i64 0, .int .i64 0, .bool false, .bool false, .int .i64 0, .int .u32 0, .int .i64 0, .int .i64 0, .int .i64 0, .int .i64 0, .int .i64 0]) rfl pcpzv47 rfl) (fun g12 => ?_)
   refine TL.pstore (k := 0) (vs := x30.cells) rfl rfl rfl rfl rfl rfl rfl prssz47 (rs_cel.one _) (by show 17 ≤ 17; decide) rfl ?_
   refine zET (zS (zSG ?_))
   refine TL.v (gV 0 (.agg (x30.cells).toArray) prsag47 prssz47) ?_
   refine TL.callsplit rfl rfl rfl rfl rfl Tryz.func29 (by decide) rfl (fun w1 hw => rusbRs_any x30 w1) (fun h33 => ?_) (fun h33 => ?_)
   ·refine TL.rn 2 rfl ?_
    refine TL.ov (gF prsfld47_6) ?_
    refine TL.ov (gL 0 pcmag3) ?_
    refine TL.rn 1 rfl ?_
    refine TL.gu ?_
    refine TL.sp bin_neq (fun q39 => ?_) (fun q39 => ?_)
    ·refine TL.rn 7 rfl ?_
     refine zET (zc (zx (zX (zM (zT (zG ?_))))))
     refine TL.mv ?_
     refine TL.v (gD ((i + 1 : Nat) : Int)) ?_
     refine TL.as_ ?_
     refine zE ?_
     exact TX.round (⟨(i + 1, a, t), by dsimp only; omega, rat_skip hx30 (hit_f2 q39) hv, ht0, ht2⟩) (by show l.length - (i + 1) < l.length - i; omega) ⟨rfl, rfl, rfl, rfl, rfl, rfl, trivial⟩ (fun w1 hw => hw.pick [] (by decide) rfl)
    ·refine TL.rn 2 rfl ?_
     refine TL.ov (gF prsfld47_7) ?_
     refine TL.ov (gL 0 pcmag3) ?_
     refine TL.rn 1 rfl ?_
     refine TL.gu ?_
     refine TL.sp bin_neq (fun q45 => ?_) (fun q45 => ?_)
     ·refine TL.pk ?_
      refine zET (zc (zx (zX (zM (zT (zG ?_))))))
      refine TL.mv ?_
      refine TL.v (gD ((i + 1 : Nat) : Int)) ?_
      refine TL.as_ ?_
      refine zE ?_
      exact TX.round (⟨(i + 1, a, t), by dsimp only; omega, rat_skip hx30 (hit_f3 q45) hv, ht0, ht2⟩) (by show l.length - (i + 1) < l.length - i; omega) ⟨rfl, rfl, rfl, rfl, rfl, rfl, trivial⟩ (fun w1 hw => hw.pick [] (by decide) rfl)
     ·refine TL.pk ?_
      refine zET (zd (zk (zT (zB (zSG ?_)))))
      refine TL.v (gF prsfld47_8) ?_
      refine TL.vsplit rfl rfl rfl (gL 0 prsag4) (fun h52 => ?_) (fun h52 => ?_)
      ·refine TL.rn 2 rfl ?_
       refine zET (zd (zSG ?_))
       refine TL.mv ?_
       refine TL.sp bin_eql (fun q58 => ?_) (fun q58 => ?_)
       ·refine TL.rn 2 rfl ?_
        refine TL.ov (gF prsfld47_11) ?_
        refine TL.ov (gF prsfld45_0) ?_
        refine TL.ov (gL 0 pcmag30) ?_
        refine TL.gu ?_
        refine TL.sp bin_neq (fun q64 => ?_) (fun q64 => ?_)
        ·refine TL.rn 2 rfl ?_
         refine zET (zc (zSG ?_))
         refine TL.rn 2 rfl ?_
         refine zET (zr (TX.in_ret (zRR (zR (zRR ?_)))))
         have hE := rat_mix ((rat_hit hx30 (hit_t h33 q39 q45 he) hv).trans (vst_mix h52 q58 q64))
         exact ret_pair (v1 := .int .u32 0) (v2 := .int .i64 3) Tryz.results50 rfl rfl (fun w1 hw => ⟨by rw [hE.1, hE.2], hw.bel⟩)
        ·refine TL.rn 2 rfl ?_
         refine zET (zd (zG ?_))
         refine TL.v (gF prsfld47_11) ?_
         refine TL.v (gF prsfld45_0) ?_
         refine TL.v (gL 0 pcmag30) ?_
         refine TL.rn 2 rfl ?_
         refine zE (zN (zN (zT (zG ?_))))
         refine TL.mv ?_
         refine TL.v (gD ((i + 1 : Nat) : Int)) ?_
         refine TL.as_ ?_
         refine zE ?_
         exact TX.round (⟨(i + 1, x30.src, 2), by dsimp only; omega, (rat_hit hx30 (hit_t h33 q39 q45 he) hv).trans (vst_seen h52 ht2 (by exact .inr (Decidable.not_not.1 q64))), by dsimp only; omega, by dsimp only; omega⟩) (by show l.length - (i + 1) < l.length - i; omega) ⟨rfl, rfl, rfl, rfl, rfl, rfl, trivial⟩ (fun w1 hw => hw.pick [] (by decide) rfl)
       ·refine TL.rn 8 rfl ?_
        refine zET (zd (zG ?_))
        refine TL.v (gF prsfld47_11) ?_
        refine TL.v (gF prsfld45_0) ?_
        refine TL.v (gL 0 pcmag30) ?_
        refine TL.rn 2 rfl ?_
        refine zE (zN (zN (zT (zG ?_))))
        refine TL.mv ?_
        refine TL.v (gD ((i + 1 : Nat) : Int)) ?_
        refine TL.as_ ?_
        refine zE ?_
        exact TX.round (⟨(i + 1, x30.src, 2), by dsimp only; omega, (rat_hit hx30 (hit_t h33 q39 q45 he) hv).trans (vst_seen h52 ht2 (by exact .inl q58)), by dsimp only; omega, by dsimp only; omega⟩) (by show l.length - (i + 1) < l.length - i; omega) ⟨rfl, rfl, rfl, rfl, rfl, rfl, trivial⟩ (fun w1 hw => hw.pick [] (by decide) rfl)
      ·refine TL.rn 2 rfl ?_
       refine zET (zc (zSG ?_))
       refine TL.mv ?_
       refine TL.sp bin_eql (fun q55 => ?_) (fun q55 => ?_)
       ·refine zET (zc (zG ?_))
        refine TL.as_ ?_
        refine zE (zN (zN (zT (zG ?_))))
        refine TL.mv ?_
        refine TL.v (gD ((i + 1 : Nat) : Int)) ?_
        refine TL.as_ ?_
        refine zE ?_
        exact TX.round (⟨(i + 1, a, 1), by dsimp only; omega, (rat_hit hx30 (hit_t h33 q39 q45 he) hv).trans (vst_none h52 (by dsimp only; omega)), by dsimp only; omega, by dsimp only; omega⟩) (by show l.length - (i + 1) < l.length - i; omega) ⟨rfl, rfl, rfl, rfl, rfl, rfl, trivial⟩ (fun w1 hw => hw.pick [] (by decide) rfl)
       ·refine zET (zd (zk (zN (zN (zT (zG ?_))))))
        refine TL.mv ?_
        refine TL.v (gD ((i + 1 : Nat) : Int)) ?_
        refine TL.as_ ?_
        refine zE ?_
        exact TX.round (⟨(i + 1, a, t), by dsimp only; omega, (rat_hit hx30 (hit_t h33 q39 q45 he) hv).trans (vst_none h52 (by dsimp only; omega)), by dsimp only; omega, by dsimp only; omega⟩) (by show l.length - (i + 1) < l.length - i; omega) ⟨rfl, rfl, rfl, rfl, rfl, rfl, trivial⟩ (fun w1 hw => hw.pick [] (by decide) rfl)
   ·refine TL.rn 13 rfl ?_
    refine zET (zc (zx (zX (zM (zT (zG ?_))))))
    refine TL.mv ?_
    refine TL.v (gD ((i + 1 : Nat) : Int)) ?_
    refine TL.as_ ?_
    refine zE ?_
    exact TX.round (⟨(i + 1, a, t), by dsimp only; omega, rat_skip hx30 (hit_f1 h33) hv, ht0, ht2⟩) (by show l.length - (i + 1) < l.length - i; omega) ⟨rfl, rfl, rfl, rfl, rfl, rfl, trivial⟩ (fun w1 hw => hw.pick [] (by decide) rfl)
  ·refine zET (zd (zx (zX (zX (zM (zT (zSG ?_)))))))
   refine TL.rn 4 rfl ?_
   refine zET (zr ?_)
   have hE := rat_end (by omega) hv
   exact ret_pair (v1 := .int .u32 a) (v2 := .int .i64 t) Tryz.results50 rfl rfl (fun w1 hw => ⟨by rw [hE.1, hE.2], hw.bel⟩)
set_option maxHeartbeats 1000000 in
theorem rpath_any (A0 : Option Addr) (c0 : Nat) (l : List Rs) (flow : Int) (w : World) (hr : Reads w w.heap.size 17 A0 l.length (flat Rs.cells l)) (hl1 : l.length ≤ 100000) (hok : ∀ r ∈ l, r.Ok) :
  Calls Tryz.prog 52 #[.slice A0 l.length c0, .int .i64 flow] w fun e w' => ∃ x : {y : (Option Addr × Nat) × List Int // PathOk l flow y.2 ∧ y.2.length ≤ y.1.2 ∧ y.1.2 ≤ maxLen}, e = .returned (.slice x.1.1.1 x.1.2.length x.1.1.2) ∧ Pm w [.row (.slice x.1.1.1 x.1.2.length x.1.1.2) 30 1 x.1.2.length (flat (ic .u32) x.1.2)] w' := by
 refine begin_ (vs := [.slice A0 l.length c0, .int .i64 flow]) Tryz.func52 rfl rfl rfl ?_ (Pm.start w)
 refine zSG ?_
 refine TL.as_ ?_
 refine zET (zSG ?_)
 refine TL.as_ ?_
 refine zET (zSG ?_)
 refine TL.as_ ?_
 refine zET (zB ?_)
 refine TC.nilrow 30 1 ?_
 refine TC.loop_ (α := {y : Nat × (Option Addr × Nat) × List Int // y.1 ≤ 256 ∧ (pathF (lookS l).1 (lookS l).2 flow 0 y.1 y.2.2) ∧ y.2.2.length ≤ y.1 ∧ y.2.2.length ≤ y.2.1.2 ∧ y.2.1.2 ≤ maxLen}) (fun y => [(0, .slice A0 l.length c0), (1, .int .i64 flow), (6, .int .i64 ((y.1.1 + 1 : Nat) : Int)), (5, .slice y.1.2.1.1 y.1.2.2.length y.1.2.1.2)]) (fun y => Pm w [.row (.slice y.1.2.1.1 y.1.2.2.length y.1.2.1.2) 30 1 y.1.2.2.length (flat (ic .u32) y.1.2.2)]) (fun y => 256 - y.1.1) (⟨(0, (none, 0), []), Nat.zero_le _, PathF.nil, Nat.le_refl _, Nat.le_refl _, Nat.zero_le _⟩) ⟨rfl, rfl, rfl, rfl, trivial⟩ (fun w1 hw => hw) ?_
 rintro ⟨⟨i, ⟨Ao, co⟩, out⟩, hi, hpt, houtl, houtc, houtm⟩
 dsimp only at hi hpt houtl houtc houtm ⊢
 refine zS (zB (zSG ?_))
 refine TL.rn 3 rfl ?_
 refine TL.pcall1 (r := .tuple #[.int .u32 (atA l flow ((i + 1 : Nat) : Int)), .int .i64 (atS l flow ((i + 1 : Nat) : Int))]) rfl rfl rfl rfl rfl Tryz.func50 (by decide) rfl (fun w1 hw => rat_any A0 c0 l flow ((i + 1 : Nat) : Int) w1 (hr.up hw.bel) hl1) ?_
 refine TL.rn 5 rfl ?_
 refine zET (zS (zSG ?_))
 refine TL.mv ?_
 refine TL.sp bin_neq (fun q19 => ?_) (fun q19 => ?_)
 ·refine TL.rn 2 rfl ?_
  refine TL.gu ?_
  refine TL.sp bin_neq (fun q22 => ?_) (fun q22 => ?_)
  ·refine TL.pk ?_
   refine zET (zc (zSG ?_))
   refine TL.rn 2 rfl ?_
   refine zET (zr (zR (zRR (zR (TX.in_ret ?_)))))
   exact ret_tmp Tryz.results52 rfl (fun w1 hw => ⟨⟨((Ao, co), out), pathOk_of hpt (has_f q19 q22), by dsimp only; omega, houtm⟩, rfl, hw.pick [0] (by decide) rfl⟩)
  ·refine TL.pk ?_
   refine zET (zd (zk (zT ?_)))
   have hi2 := pathF_lt hok (has_t1 q22)
   refine zG ?_
   refine TL.rn 2 rfl ?_
   refine TL.prowS (e := 30) (size := 1) (cs := flat (ic .u32) [atA l flow ((i + 1 : Nat) : Int)]) rfl rfl rfl rfl rfl (fun w => patbs64_1_5377 _ w) (by decide) rfl (fun g27 => ?_)
   refine TL.appendT (k := 1) rfl rfl rfl rfl Tryz.underlying64 patel64 rfl rfl rfl (fun w1 hw => pm_reads hw (k := 0) rfl) (flat_one (ic_cel .u32) _) (by show _ * 4 ≤ _; omega) ((out ++ [atA l flow ((i + 1 : Nat) : Int)]).length) (by rw [List.length_append]; rfl) (flat (ic .u32) (out ++ [atA l flow ((i + 1 : Nat) : Int)])) ((flat_app _ _).symm) (fun A28 c28 hA281 hA282 => ?_)
   refine TL.as_ ?_
   refine zE (zN (zT (zG ?_)))
   refine TL.mv ?_
   refine TL.v (gD ((i + 1 + 1 : Nat) : Int)) ?_
   refine TL.as_ ?_
   refine zE ?_
   exact TX.round (⟨(i + 1, (A28, c28), out ++ [atA l flow ((i + 1 : Nat) : Int)]), by dsimp only; omega, pathF_snoc hpt (has_t1 q22), by dsimp only; rw [List.length_append]; show out.length + 1 ≤ _; omega, hA281, hA282⟩) (by show 256 - (i + 1) < 256 - i; omega) ⟨rfl, rfl, rfl, rfl, trivial⟩ (fun w1 hw => hw.pick [1] (by decide) rfl)
 ·refine TL.rn 4 rfl ?_
  refine zET (zd (zk (zT ?_)))
  have hi2 := pathF_lt hok (has_t2 q19)
  refine zG ?_
  refine TL.rn 2 rfl ?_
  refine TL.prowS (e := 30) (size := 1) (cs := flat (ic .u32) [atA l flow ((i + 1 : Nat) : Int)]) rfl rfl rfl rfl rfl (fun w => patbs64_1_5377 _ w) (by decide) rfl (fun g27 => ?_)
  refine TL.appendT (k := 1) rfl rfl rfl rfl Tryz.underlying64 patel64 rfl rfl rfl (fun w1 hw => pm_reads hw (k := 0) rfl) (flat_one (ic_cel .u32) _) (by show _ * 4 ≤ _; omega) ((out ++ [atA l flow ((i + 1 : Nat) : Int)]).length) (by rw [List.length_append]; rfl) (flat (ic .u32) (out ++ [atA l flow ((i + 1 : Nat) : Int)])) ((flat_app _ _).symm) (fun A28 c28 hA281 hA282 => ?_)
  refine TL.as_ ?_
  refine zE (zN (zT (zG ?_)))
  refine TL.mv ?_
  refine TL.v (gD ((i + 1 + 1 : Nat) : Int)) ?_
  refine TL.as_ ?_
  refine zE ?_
  exact TX.round (⟨(i + 1, (A28, c28), out ++ [atA l flow ((i + 1 : Nat) : Int)]), by dsimp only; omega, pathF_snoc hpt (has_t2 q19), by dsimp only; rw [List.length_append]; show out.length + 1 ≤ _; omega, hA281, hA282⟩) (by show 256 - (i + 1) < 256 - i; omega) ⟨rfl, rfl, rfl, rfl, trivial⟩ (fun w1 hw => hw.pick [1] (by decide) rfl)
set_option maxRecDepth 20000
def flk (f : Int) : List Int := [f]
theorem flk_len (f : Int) : (flk f).length = 1 := rfl
theorem flk_lt {a b : Int} : lexI (flk a) (flk b) < 0 ↔ a < b := by
 show (if cmpI a b = 0 then (0 : Int) else cmpI a b) < 0 ↔ _
 unfold cmpI
 split <;> split <;> (try split) <;> omega
def IsFl (l : List Rs) (o : List Int) : Prop := AscK flk o ∧ ∀ f, f ∈ o ↔ ∃ r ∈ l, usbRs r = true ∧ r.flow = f
theorem IsFl.nil : IsFl [] [] := ⟨List.Pairwise.nil, fun x => by simp⟩
section
variable {l : List Rs} {o : List Int} {i q : Nat} {x : Rs}
theorem IsFl.skip (h : IsFl (l.take i) o) (hx : l[i]? = some x) (hv : usbRs x = false) : IsFl (l.take (i + 1)) o := ⟨h.1, fun t => by
 rw [h.2]
 constructor
 ·rintro ⟨r, h1, h2⟩
  exact ⟨r, (mem_take_snoc hx).2 (.inl h1), h2⟩
 ·rintro ⟨r, h1, h2, h3⟩
  rcases (mem_take_snoc hx).1 h1 with h4 | h4
  ·exact ⟨r, h4, h2, h3⟩
  ·rw [h4, hv] at h2; cases h2⟩
theorem IsFl.dup (h : IsFl (l.take i) o) (hx : l[i]? = some x) (hv : usbRs x = true) (hm : x.flow ∈ o) : IsFl (l.take (i + 1)) o := ⟨h.1, fun t => by
 constructor
 ·intro ht
  obtain ⟨r, h1, h2⟩ := (h.2 t).1 ht
  exact ⟨r, (mem_take_snoc hx).2 (.inl h1), h2⟩
 ·rintro ⟨r, h1, h2, h3⟩
  rcases (mem_take_snoc hx).1 h1 with h4 | h4
  ·exact (h.2 t).2 ⟨r, h4, h2, h3⟩
  ·rw [← h3, h4]; exact hm⟩
theorem IsFl.put (h : IsFl (l.take i) o) (hx : l[i]? = some x) (hv : usbRs x = true) (h1 : ∀ y ∈ o.take q, lexI (flk y) (flk x.flow) < 0) (h2 : ∀ y ∈ o.drop q, lexI (flk x.flow) (flk y) < 0) : IsFl (l.take (i + 1)) (o.take q ++ x.flow :: o.drop q) := by
 refine ⟨ascK_put flk_len h.1 h1 h2, fun t => ?_⟩
 rw [mem_put, h.2]
 constructor
 ·rintro (⟨r, h3, h4⟩ | hh)
  ·exact ⟨r, (mem_take_snoc hx).2 (.inl h3), h4⟩
  ·exact ⟨x, (mem_take_snoc hx).2 (.inr rfl), hv, hh.symm⟩
 ·rintro ⟨r, h3, h4, h5⟩
  rcases (mem_take_snoc hx).1 h3 with h6 | h6
  ·exact .inl ⟨r, h6, h4, h5⟩
  ·rw [h6] at h5; exact .inr h5.symm
end
def topT (l : List Rs) : Int := l.foldl (fun n r => if usbRs r then max n r.ttl else n) 0
theorem topT_snoc {l : List Rs} {i : Nat} {x : Rs} {n : Int} (hx : l[i]? = some x) (h : topT (l.take i) = n) : topT (l.take (i + 1)) = if usbRs x then max n x.ttl else n := by
 unfold topT at h ⊢
 rw [List.take_add_one, hx, List.foldl_append, h]
 rfl
theorem top_ge : ∀ (l : List Rs) (n : Int), n ≤ l.foldl (fun n r => if usbRs r then max n r.ttl else n) n ∧ ∀ r ∈ l, usbRs r = true → r.ttl ≤ l.foldl (fun n r => if usbRs r then max n r.ttl else n) n
 | [], n => ⟨Int.le_refl _, fun r hr => absurd hr List.not_mem_nil⟩
 | x :: l, n => by
  rw [List.foldl_cons]
  obtain ⟨h1, h2⟩ := top_ge l (if usbRs x then max n x.ttl else n)
  refine ⟨Int.le_trans ?_ h1, fun r hr hu => ?_⟩
  ·split <;> omega
  ·rcases List.mem_cons.1 hr with rfl | h3
   ·rw [if_pos hu] at h1 ⊢; omega
   ·exact h2 r h3 hu
theorem top_le : ∀ (l : List Rs) (n m : Int), n ≤ m → (∀ r ∈ l, usbRs r = true → r.ttl ≤ m) → l.foldl (fun n r => if usbRs r then max n r.ttl else n) n ≤ m
 | [], n, m, h, _ => h
 | x :: l, n, m, h, hr => by
  rw [List.foldl_cons]
  refine top_le l _ m ?_ fun r h1 => hr r (List.mem_cons_of_mem _ h1)
  by_cases hu : usbRs x = true
  ·rw [if_pos hu]; have := hr x List.mem_cons_self hu; omega
  ·rw [if_neg hu]; exact h
/-! ### before -/
def pairsE (a b : Ed) : List (Int × Int) := [(a.ttl, b.ttl), (IntKind.i64.wrap a.frm, IntKind.i64.wrap b.frm), (IntKind.i64.wrap a.to_, IntKind.i64.wrap b.to_)]
def rbefE (a b : Ed) : Bool := decide (orP (pairsE a b) < 0)
theorem bef_at {l l' : List (Int × Int)} {p q : Ed} {z : Int × Int} {b : Bool} {i : Nat} (hd : l.drop i = z :: l') (ho : orP (l.drop i) = orP (pairsE p q)) (hn : z.1 ≠ z.2) (hb : decide (z.1 < z.2) = b) : rbefE p q = b := by
 unfold rbefE
 rw [← ho, hd, orP_cons, if_neg (fun h => hn (cmpI_zero.1 h)), ← hb, decide_eq_decide]
 unfold cmpI
 split <;> (try split) <;> omega
theorem bef_end {p q : Ed} (h : orP (pairsE p q) = 0) : rbefE p q = false := by unfold rbefE; rw [h]; rfl
def EdOk (x : Ed) : Prop := (0 ≤ x.frm ∧ x.frm ≤ 4294967295) ∧ 0 ≤ x.to_ ∧ x.to_ ≤ 4294967295
theorem bef_lex {a b : Ed} (ha : EdOk a) (hb : EdOk b) : rbefE a b = decide (lexI (edk a) (edk b) < 0) := by
 have w1 : ∀ z : Int, 0 ≤ z ∧ z ≤ 4294967295 → IntKind.i64.wrap z = z := fun z h => by simp only [IntKind.wrap_i64]; omega
 unfold rbefE pairsE
 rw [w1 _ ha.1, w1 _ ha.2, w1 _ hb.1, w1 _ hb.2]
 rfl
/-! ### the first error -/
def ChkP (l : List Rs) (e : Int) : Prop := (e = 1 ∧ (l.any fun r => !vldRs r) = true) ∨ ((l.any fun r => !vldRs r) = false ∧ ∃ o, IsOrd l o ∧ ((e = 5 ∧ 512 < o.length) ∨ (o.length ≤ 512 ∧ ((e = 35 ∧ ∃ x ∈ o, ∃ y ∈ o, trcR x ≠ trcR y) ∨ (e = 0 ∧ ∀ x ∈ o, ∀ y ∈ o, trcR x = trcR y)))))
theorem any_bad {l : List Rs} {i : Nat} {x : Rs} (hx : l[i]? = some x) (h : vldRs x = false) : (l.any fun r => !vldRs r) = true := List.any_eq_true.2 ⟨x, List.mem_of_getElem? hx, by rw [h]; rfl⟩
theorem any_ok {l : List Rs} {i : Nat} (h : ∀ (j : Nat) (x : Rs), j < i → l[j]? = some x → vldRs x = true) (hi : l.length ≤ i) : (l.any fun r => !vldRs r) = false := List.any_eq_false.2 fun r hr => by
 obtain ⟨j, hj⟩ := List.getElem?_of_mem hr
 rw [h j r (Nat.lt_of_lt_of_le (List.getElem?_eq_some_iff.1 hj).1 hi) hj]; decide
theorem vld_snoc {l : List Rs} {i : Nat} {x : Rs} (h : ∀ (j : Nat) (x : Rs), j < i → l[j]? = some x → vldRs x = true) (hx : l[i]? = some x) (hv : vldRs x = true) : ∀ (j : Nat) (x : Rs), j < i + 1 → l[j]? = some x → vldRs x = true := fun j y hj hy => by
 rcases Nat.lt_or_ge j i with h1 | h1
 ·exact h j y h1 hy
 ·obtain rfl : j = i := by omega
  rw [hx] at hy; cases hy; exact hv
theorem trc_zero {o : List Rs} {j : Nat} {x y : Rs} (hj : j = 0) (hx : o[j]? = some x) (hy : o[0]? = some y) : trcR x = trcR y := by
 subst hj; rw [hx] at hy; cases hy; rfl
theorem trc_snoc {o : List Rs} {k : Nat} {x y : Rs} (h : ∀ (j : Nat) (x y : Rs), j < k → o[j]? = some x → o[0]? = some y → trcR x = trcR y) (hx : o[k]? = some x) (hy : o[0]? = some y) (e : trcR x = trcR y) : ∀ (j : Nat) (x y : Rs), j < k + 1 → o[j]? = some x → o[0]? = some y → trcR x = trcR y := fun j a b hj ha hb => by
 rcases Nat.lt_or_ge j k with h1 | h1
 ·exact h j a b h1 ha hb
 ·obtain rfl : j = k := by omega
  rw [hx] at ha; rw [hy] at hb; cases ha; cases hb; exact e
theorem all_trc {o : List Rs} {k : Nat} (h : ∀ (j : Nat) (x y : Rs), j < k → o[j]? = some x → o[0]? = some y → trcR x = trcR y) (hk : o.length ≤ k) : ∀ x ∈ o, ∀ y ∈ o, trcR x = trcR y := fun x hx y hy => by
 obtain ⟨i, hi⟩ := List.getElem?_of_mem hx
 obtain ⟨j, hj⟩ := List.getElem?_of_mem hy
 have i1 := (List.getElem?_eq_some_iff.1 hi).1
 have j1 := (List.getElem?_eq_some_iff.1 hj).1
 obtain ⟨z, hz⟩ : ∃ z, o[0]? = some z := ⟨_, List.getElem?_eq_getElem (by omega)⟩
 rw [h i x z (by omega) hi hz, h j y z (by omega) hj hz]
set_option maxHeartbeats 1000000 in
theorem rflows_any (A0 : Option Addr) (c0 : Nat) (l : List Rs) (w : World) (hr : Reads w w.heap.size 17 A0 l.length (flat Rs.cells l)) (hl1 : l.length ≤ 100000) :
  Calls Tryz.prog 90 #[.slice A0 l.length c0] w fun e w' => ∃ x : {y : (Option Addr × Nat) × List Int // IsFl l y.2 ∧ y.2.length ≤ y.1.2 ∧ y.1.2 ≤ maxLen}, e = .returned (.slice x.1.1.1 x.1.2.length x.1.1.2) ∧ Pm w [.row (.slice x.1.1.1 x.1.2.length x.1.1.2) 3 1 x.1.2.length (flat (ic .i64) x.1.2)] w' := by
 refine begin_ (vs := [.slice A0 l.length c0]) Tryz.func90 rfl rfl rfl ?_ (Pm.start w)
 refine zSG ?_
 refine TL.as_ ?_
 refine zET (zSG ?_)
 refine TL.as_ ?_
 refine zET (zS (zSG ?_))
 refine TL.as_ ?_
 refine zET (zB ?_)
 refine TC.nilrow 3 1 ?_
 refine TC.loop_ (α := {y : Nat × (Option Addr × Nat) × Nat × List Int // y.1 ≤ l.length ∧ (IsFl (l.take y.1) y.2.2.2) ∧ y.2.2.1 ≤ y.1 ∧ y.2.2.1 ≤ y.2.1.2 ∧ y.2.1.2 ≤ maxLen ∧ y.2.2.2.length = y.2.2.1}) (fun y => [(0, .slice A0 l.length c0), (2, .slice none 0 0), (4, .int .i64 ((y.1.1 : Nat) : Int)), (3, .slice y.1.2.1.1 y.1.2.2.1 y.1.2.1.2)]) (fun y => Pm w [.row (.slice y.1.2.1.1 y.1.2.2.1 y.1.2.1.2) 3 1 y.1.2.2.1 (flat (ic .i64) y.1.2.2.2)]) (fun y => l.length - y.1.1) (⟨(0, (none, 0), 0, []), Nat.zero_le _, IsFl.nil, Nat.le_refl _, Nat.le_refl _, Nat.zero_le _, rfl⟩) ⟨rfl, rfl, rfl, rfl, trivial⟩ (fun w1 hw => hw) ?_
 rintro ⟨⟨i, ⟨Ao, co⟩, m, out⟩, hi, hout, houtl, houtc, houtm, houtn⟩
 dsimp only at hi hout houtl houtc houtm houtn ⊢
 refine zS (zSG ?_)
 refine TL.rn 2 rfl ?_
 refine TL.v (gN Tryz.underlying26) ?_
 refine TL.vsplit rfl rfl rfl (gives_bin rfl rfl rfl (fun w => bin_lss w)) (fun h9 => ?_) (fun h9 => ?_)
 ·have q9 := of_decide_eq_true h9
  refine zET (zc (zk (zT (zS (zB (zS (zSG ?_)))))))
  refine TL.rn 2 rfl ?_
  have hi14 : i < l.length := by omega
  obtain ⟨x14, hx14⟩ := ex_at hi14
  obtain ⟨b14, o14, hA14, hbb14, hc14⟩ := hr.ad (by omega) (by decide)
  refine TL.val rfl rfl rfl (gA (i := i) Tryz.underlying26 prssz47 rfl rfl rfl rfl hA14 (by omega)) ?_
  refine TL.v (gR rs_cel prsag47 prssz47 hbb14 hx14 hc14) ?_
  refine TL.callsplit rfl rfl rfl rfl rfl Tryz.func29 (by decide) rfl (fun w1 hw => rusbRs_any x14 w1) (fun h16 => ?_) (fun h16 => ?_)
  ·refine TL.val rfl rfl rfl (gives_boolnot rfl rfl) ?_
   refine zET (zd (zk (zT (zSG ?_))))
   refine TL.as_ ?_
   refine zET (zS (zB ?_))
   refine TC.loop_ (α := {k : Nat // k ≤ m ∧ ∀ z ∈ out.take k, lexI (flk z) (flk x14.flow) < 0}) (fun y => [(0, .slice A0 l.length c0), (2, .slice none 0 0), (3, .slice Ao m co), (4, .int .i64 ((i : Nat) : Int)), (5, .int .i64 ((y.1 : Nat) : Int))]) (fun y => Pm w [.row (.slice Ao m co) 3 1 m (flat (ic .i64) out)]) (fun y => m - y.1) (⟨0, Nat.zero_le _, fun z hz => by rw [List.take_zero] at hz; cases hz⟩) ⟨rfl, rfl, rfl, rfl, rfl, trivial⟩ (fun w1 hw => hw) ?_
   rintro ⟨k, hk, hlt⟩
   try dsimp only at hk hlt ⊢
   refine zS (zS ?_)
   by_cases hk0 : k = m
   ·refine TC.quietQ (by kernel_rfl) (by kernel_rfl) (fun w hw => hw.drawn _) ?_
    refine TQ.rn 2 rfl ?_
    refine TQ.v (gN Tryz.underlying48) ?_
    refine TQ.val rfl rfl rfl (gives_bin rfl rfl rfl (fun w => bin_lss_f (by omega) w)) ?_
    refine TQ.rn 12 rfl ?_
    refine TQ.fin ?_
    refine zT (zd (zx (zX (zX (zM (zT (zS (zS ?_))))))))
    ·refine TC.quietQ (by kernel_rfl) (by kernel_rfl) (fun w hw => hw.drawn _) ?_
     refine TQ.rn 2 rfl ?_
     refine TQ.v (gN Tryz.underlying48) ?_
     refine TQ.val rfl rfl rfl (gives_bin rfl rfl rfl (fun w => bin_lss_f (by omega) w)) ?_
     refine TQ.rn 12 rfl ?_
     refine TQ.fin ?_
     refine zT (zd (zk (zT (zSG ?_))))
     refine TL.mv ?_
     refine TL.prowS (e := 3) (size := 1) (cs := flat (ic .i64) [0]) rfl rfl rfl rfl rfl (fun w => pbdbs48_1_5377 _ w) (by decide) rfl (fun g53 => ?_)
     refine TL.appendT (k := 1) rfl rfl rfl rfl Tryz.underlying48 pbdel48 rfl rfl rfl (fun w1 hw => pm_reads hw (k := 0) rfl) (flat_one (ic_cel .i64) _) (by show _ * 8 ≤ _; omega) (m + 1) (rfl) (flat (ic .i64) (out ++ [0])) ((flat_app _ _).symm) (fun A54 c54 hA541 hA542 => ?_)
     refine TL.as_ ?_
     refine zET (zS ?_)
     have hn1 : (out ++ [0]).length = out.length + 1 := by simp
     have hn2 : (shiftL (out ++ [0]) k).length = out.length + 1 := by rw [shiftL_len _ _ (by omega), hn1]
     refine TC.fact (p := ∃ g, A54 = some ⟨g, 0, none⟩) (fun w1 hw => rowA hw (k := 1) rfl (by omega)) ?_
     rintro ⟨g_A54, rfl⟩
     refine TC.tail 7 (by kernel_rfl) (by kernel_rfl) (fun w hw => hw.drawn _) ?_
     refine TS.val rfl rfl rfl (gives_move rfl rfl) ?_
     refine TS.val rfl rfl rfl (gives_move rfl rfl) ?_
     refine TS.v (gD ((k + 1 : Nat) : Int)) ?_
     refine TS.val rfl rfl rfl (gives_sliceL (v := .slice (if c54 = k + 1 then some ⟨g_A54, 0, none⟩ else (some (⟨g_A54, 0, none⟩ : Addr)).map (·.add ((k + 1) * 1))) ((m + 1) - (k + 1)) (c54 - (k + 1))) rfl rfl rfl (fun w => cut_lo Tryz.underlying48 pcmsz3 _ _ _ (k + 1) rfl (by omega) w)) ?_
     refine TS.val rfl rfl rfl (gives_move rfl rfl) ?_
     refine TS.val rfl rfl rfl (gives_move rfl rfl) ?_
     refine TS.val rfl rfl rfl (gives_tailF (q := k) rfl rfl rfl rfl Tryz.underlying48 pcmsz3 (by omega) (by omega)) ?_
     refine TS.end_ ?_
     refine TL.shiftF (ic_cel .i64) (kk := 1) (k := k) rfl rfl rfl rfl Tryz.underlying48 pcmsz3 rfl rfl rfl (by omega) (by omega) (by omega) ?_
     try dsimp only [List.set_cons_zero, List.set_cons_succ]
     refine zET (zG ?_)
     refine TL.rn 4 rfl ?_
     refine TL.val rfl rfl rfl (gA (i := i) Tryz.underlying26 prssz47 rfl rfl rfl rfl hA14 (by omega)) ?_
     refine TL.v (gF prsfld47_6) ?_
     refine TL.v (gS 6 rs_cel pcmag3 hbb14 hx14 hc14) ?_
     have hi70 : k < (shiftL (out ++ [0]) k).length := by omega
     obtain ⟨x70, hx70⟩ := ex_at hi70
     refine TL.val rfl rfl rfl (gA (i := k) Tryz.underlying48 pcmsz3 rfl rfl rfl rfl rfl (by omega)) ?_
     refine TL.rowset (k := 1) (vs := [.int .i64 x14.flow]) (xs' := flat (ic .i64) ((shiftL (out ++ [0]) k).set k x14.flow)) rfl rfl rfl rfl rfl rfl rfl pcmsz3 dreone_i64 (by rw [flat_len (ic_cel .i64)]; show 0 + k * 1 + 1 ≤ _; omega) (flat_put (ic_cel .i64) (q := 0) (y := x14.flow) hx70 (by show 0 + 1 ≤ 1; decide) rfl) ?_
     try dsimp only [List.set_cons_zero, List.set_cons_succ]
     refine zE (zN (zT (zG ?_)))
     refine TL.mv ?_
     refine TL.v (gD ((i + 1 : Nat) : Int)) ?_
     refine TL.as_ ?_
     refine zE ?_
     exact TX.round (⟨(i + 1, ((some ⟨g_A54, 0, none⟩), c54), m + 1, (shiftL (out ++ [0]) k).set k x14.flow), by dsimp only; omega, by dsimp only; rw [shiftL_at _ _ _ _ (by omega)]; exact hout.put hx14 h16 hlt (fun z hz => by rw [List.drop_of_length_le (by omega)] at hz; cases hz), by dsimp only; omega, hA541, hA542, by dsimp only; rw [List.length_set]; omega⟩) (by show l.length - (i + 1) < l.length - i; omega) ⟨rfl, rfl, rfl, rfl, trivial⟩ (fun w1 hw => hw.pick [1] (by decide) rfl)
   ·refine TC.fact (p := ∃ g, Ao = some ⟨g, 0, none⟩) (fun w1 hw => rowA hw (k := 0) rfl (by omega)) ?_
    rintro ⟨g_Ao, rfl⟩
    refine TC.quietQ (by kernel_rfl) (by kernel_rfl) (fun w hw => hw.drawn _) ?_
    refine TQ.rn 2 rfl ?_
    refine TQ.v (gN Tryz.underlying48) ?_
    refine TQ.val rfl rfl rfl (gives_bin rfl rfl rfl (fun w => bin_lss_t (by omega) w)) ?_
    refine TQ.rn 3 rfl ?_
    refine TQ.on rfl rfl rfl ?_
    have hi25 : k < out.length := by omega
    obtain ⟨x25, hx25⟩ := ex_at hi25
    refine TQ.val rfl rfl rfl (gA (i := k) Tryz.underlying48 pcmsz3 rfl rfl rfl rfl rfl (by omega)) ?_
    refine TQ.on rfl rfl rfl ?_
    refine TQ.val rfl rfl rfl (gives_load (v := .int .i64 x25) rfl rfl pcmag3 (fun w1 hw => flat_row (ic_cel .i64) hw (q := 0) rfl hx25 0 _ rfl)) ?_
    refine TQ.rn 2 rfl ?_
    refine TQ.on rfl rfl rfl ?_
    refine TQ.val rfl rfl rfl (gA (i := i) Tryz.underlying26 prssz47 rfl rfl rfl rfl hA14 (by omega)) ?_
    refine TQ.ov (gF prsfld47_6) ?_
    refine TQ.ov (gS 6 rs_cel pcmag3 hbb14 hx14 hc14) ?_
    refine TQ.on rfl rfl rfl ?_
    refine TQ.sp bin_lss (fun q32 => ?_) (fun q32 => ?_)
    ·have hlt2 : ∀ z ∈ out.take (k + 1), lexI (flk z) (flk x14.flow) < 0 := ascK_ahead flk_len hout.1 hx25 (flk_lt.2 (by omega))
     refine TQ.val rfl rfl rfl (gives_pick rfl rfl rfl) ?_
     refine TQ.fin ?_
     refine zT (zc (zk (zT (zB (zG ?_)))))
     refine TL.mv ?_
     refine TL.v (gD ((k + 1 : Nat) : Int)) ?_
     refine TL.as_ ?_
     refine zE (zN ?_)
     exact TX.round (⟨k + 1, by omega, hlt2⟩) (by show m - (k + 1) < m - k; omega) ⟨rfl, rfl, rfl, rfl, rfl, trivial⟩ (fun w1 hw => hw)
    ·refine TQ.val rfl rfl rfl (gives_pick rfl rfl rfl) ?_
     refine TQ.fin ?_
     refine zT (zd (zx (zX (zX (zM (zT (zS (zS ?_))))))))
     ·refine TC.quietQ (by kernel_rfl) (by kernel_rfl) (fun w hw => hw.drawn _) ?_
      refine TQ.rn 2 rfl ?_
      refine TQ.v (gN Tryz.underlying48) ?_
      refine TQ.val rfl rfl rfl (gives_bin rfl rfl rfl (fun w => bin_lss_t (by omega) w)) ?_
      refine TQ.rn 3 rfl ?_
      refine TQ.on rfl rfl rfl ?_
      refine TQ.val rfl rfl rfl (gA (i := k) Tryz.underlying48 pcmsz3 rfl rfl rfl rfl rfl (by omega)) ?_
      refine TQ.on rfl rfl rfl ?_
      refine TQ.val rfl rfl rfl (gives_load (v := .int .i64 x25) rfl rfl pcmag3 (fun w1 hw => flat_row (ic_cel .i64) hw (q := 0) rfl hx25 0 _ rfl)) ?_
      refine TQ.rn 2 rfl ?_
      refine TQ.on rfl rfl rfl ?_
      refine TQ.val rfl rfl rfl (gA (i := i) Tryz.underlying26 prssz47 rfl rfl rfl rfl hA14 (by omega)) ?_
      refine TQ.ov (gF prsfld47_6) ?_
      refine TQ.ov (gS 6 rs_cel pcmag3 hbb14 hx14 hc14) ?_
      refine TQ.on rfl rfl rfl ?_
      refine TQ.sp bin_eql (fun q50 => ?_) (fun q50 => ?_)
      ·refine TQ.val rfl rfl rfl (gives_pick rfl rfl rfl) ?_
       refine TQ.fin ?_
       refine zT (zc (zx (zX (zM (zT (zG ?_))))))
       refine TL.mv ?_
       refine TL.v (gD ((i + 1 : Nat) : Int)) ?_
       refine TL.as_ ?_
       refine zE ?_
       exact TX.round (⟨(i + 1, ((some ⟨g_Ao, 0, none⟩), co), m, out), by dsimp only; omega, hout.dup hx14 h16 (by have e9 := q50; rw [← e9]; exact List.mem_of_getElem? hx25), by dsimp only; omega, houtc, houtm, houtn⟩) (by show l.length - (i + 1) < l.length - i; omega) ⟨rfl, rfl, rfl, rfl, trivial⟩ (fun w1 hw => hw)
      ·refine TQ.val rfl rfl rfl (gives_pick rfl rfl rfl) ?_
       refine TQ.fin ?_
       refine zT (zd (zk (zT (zSG ?_))))
       refine TL.mv ?_
       refine TL.prowS (e := 3) (size := 1) (cs := flat (ic .i64) [0]) rfl rfl rfl rfl rfl (fun w => pbdbs48_1_5377 _ w) (by decide) rfl (fun g53 => ?_)
       refine TL.appendT (k := 1) rfl rfl rfl rfl Tryz.underlying48 pbdel48 rfl rfl rfl (fun w1 hw => pm_reads hw (k := 0) rfl) (flat_one (ic_cel .i64) _) (by show _ * 8 ≤ _; omega) (m + 1) (rfl) (flat (ic .i64) (out ++ [0])) ((flat_app _ _).symm) (fun A54 c54 hA541 hA542 => ?_)
       refine TL.as_ ?_
       refine zET (zS ?_)
       have hn1 : (out ++ [0]).length = out.length + 1 := by simp
       have hn2 : (shiftL (out ++ [0]) k).length = out.length + 1 := by rw [shiftL_len _ _ (by omega), hn1]
       refine TC.fact (p := ∃ g, A54 = some ⟨g, 0, none⟩) (fun w1 hw => rowA hw (k := 1) rfl (by omega)) ?_
       rintro ⟨g_A54, rfl⟩
       refine TC.tail 7 (by kernel_rfl) (by kernel_rfl) (fun w hw => hw.drawn _) ?_
       refine TS.val rfl rfl rfl (gives_move rfl rfl) ?_
       refine TS.val rfl rfl rfl (gives_move rfl rfl) ?_
       refine TS.v (gD ((k + 1 : Nat) : Int)) ?_
       refine TS.val rfl rfl rfl (gives_sliceL (v := .slice (if c54 = k + 1 then some ⟨g_A54, 0, none⟩ else (some (⟨g_A54, 0, none⟩ : Addr)).map (·.add ((k + 1) * 1))) ((m + 1) - (k + 1)) (c54 - (k + 1))) rfl rfl rfl (fun w => cut_lo Tryz.underlying48 pcmsz3 _ _ _ (k + 1) rfl (by omega) w)) ?_
       refine TS.val rfl rfl rfl (gives_move rfl rfl) ?_
       refine TS.val rfl rfl rfl (gives_move rfl rfl) ?_
       refine TS.val rfl rfl rfl (gives_tailF (q := k) rfl rfl rfl rfl Tryz.underlying48 pcmsz3 (by omega) (by omega)) ?_
       refine TS.end_ ?_
       refine TL.shiftF (ic_cel .i64) (kk := 1) (k := k) rfl rfl rfl rfl Tryz.underlying48 pcmsz3 rfl rfl rfl (by omega) (by omega) (by omega) ?_
       try dsimp only [List.set_cons_zero, List.set_cons_succ]
       refine zET (zG ?_)
       refine TL.rn 4 rfl ?_
       refine TL.val rfl rfl rfl (gA (i := i) Tryz.underlying26 prssz47 rfl rfl rfl rfl hA14 (by omega)) ?_
       refine TL.v (gF prsfld47_6) ?_
       refine TL.v (gS 6 rs_cel pcmag3 hbb14 hx14 hc14) ?_
       have hi70 : k < (shiftL (out ++ [0]) k).length := by omega
       obtain ⟨x70, hx70⟩ := ex_at hi70
       refine TL.val rfl rfl rfl (gA (i := k) Tryz.underlying48 pcmsz3 rfl rfl rfl rfl rfl (by omega)) ?_
       refine TL.rowset (k := 1) (vs := [.int .i64 x14.flow]) (xs' := flat (ic .i64) ((shiftL (out ++ [0]) k).set k x14.flow)) rfl rfl rfl rfl rfl rfl rfl pcmsz3 dreone_i64 (by rw [flat_len (ic_cel .i64)]; show 0 + k * 1 + 1 ≤ _; omega) (flat_put (ic_cel .i64) (q := 0) (y := x14.flow) hx70 (by show 0 + 1 ≤ 1; decide) rfl) ?_
       try dsimp only [List.set_cons_zero, List.set_cons_succ]
       refine zE (zN (zT (zG ?_)))
       refine TL.mv ?_
       refine TL.v (gD ((i + 1 : Nat) : Int)) ?_
       refine TL.as_ ?_
       refine zE ?_
       exact TX.round (⟨(i + 1, ((some ⟨g_A54, 0, none⟩), c54), m + 1, (shiftL (out ++ [0]) k).set k x14.flow), by dsimp only; omega, by dsimp only; rw [shiftL_at _ _ _ _ (by omega)]; exact hout.put hx14 h16 hlt (ascK_behind flk_len hout.1 hx25 (flk_lt.2 (by omega))), by dsimp only; omega, hA541, hA542, by dsimp only; rw [List.length_set]; omega⟩) (by show l.length - (i + 1) < l.length - i; omega) ⟨rfl, rfl, rfl, rfl, trivial⟩ (fun w1 hw => hw.pick [1] (by decide) rfl)
  ·refine TL.val rfl rfl rfl (gives_boolnot rfl rfl) ?_
   refine zET (zc (zx (zX (zM (zT (zG ?_))))))
   refine TL.mv ?_
   refine TL.v (gD ((i + 1 : Nat) : Int)) ?_
   refine TL.as_ ?_
   refine zE ?_
   exact TX.round (⟨(i + 1, (Ao, co), m, out), by dsimp only; omega, hout.skip hx14 h16, by dsimp only; omega, houtc, houtm, houtn⟩) (by show l.length - (i + 1) < l.length - i; omega) ⟨rfl, rfl, rfl, rfl, trivial⟩ (fun w1 hw => hw)
 ·have q9 := of_decide_eq_false h9
  refine zET (zd (zx (zX (zX (zM (zT (zSG ?_)))))))
  refine TL.rn 2 rfl ?_
  refine zET (zr ?_)
  subst houtn
  exact ret_tmp Tryz.results90 rfl (fun w1 hw => ⟨⟨((Ao, co), out), by rw [List.take_of_length_le (by omega)] at hout; exact hout, by dsimp only; omega, houtm⟩, rfl, hw.pick [0] (by decide) rfl⟩)
set_option maxHeartbeats 1000000 in
theorem rtop_any (A0 : Option Addr) (c0 : Nat) (l : List Rs) (w : World) (hr : Reads w w.heap.size 17 A0 l.length (flat Rs.cells l)) (hl1 : l.length ≤ 100000) :
  Calls Tryz.prog 91 #[.slice A0 l.length c0] w fun e w' => e = .returned (.int .i64 (topT l)) ∧ Below w.heap.size w w' := by
 refine begin_ (vs := [.slice A0 l.length c0]) Tryz.func91 rfl rfl rfl ?_ (Pm.start w)
 refine zSG ?_
 refine TL.as_ ?_
 refine zET (zSG ?_)
 refine TL.as_ ?_
 refine zET (zS (zSG ?_))
 refine TL.as_ ?_
 refine zET (zB ?_)
 refine TC.loop_ (α := {y : Nat × Int // y.1 ≤ l.length ∧ topT (l.take y.1) = y.2}) (fun y => [(0, .slice A0 l.length c0), (4, .int .i64 ((y.1.1 : Nat) : Int)), (3, .int .i64 y.1.2)]) (fun y => Pm w []) (fun y => l.length - y.1.1) (⟨(0, 0), Nat.zero_le _, rfl⟩) ⟨rfl, rfl, rfl, trivial⟩ (fun w1 hw => hw) ?_
 rintro ⟨⟨i, n⟩, hi, hst⟩
 dsimp only at hi hst ⊢
 refine zS (zSG ?_)
 refine TL.rn 2 rfl ?_
 refine TL.v (gN Tryz.underlying26) ?_
 refine TL.sp bin_lss (fun q8 => ?_) (fun q8 => ?_)
 ·refine zET (zc (zk (zT (zS (zB (zSG ?_))))))
  refine TL.rn 2 rfl ?_
  have hi13 : i < l.length := by omega
  obtain ⟨x13, hx13⟩ := ex_at hi13
  obtain ⟨b13, o13, hA13, hbb13, hc13⟩ := hr.ad (by omega) (by decide)
  refine TL.val rfl rfl rfl (gA (i := i) Tryz.underlying26 prssz47 rfl rfl rfl rfl hA13 (by omega)) ?_
  refine TL.v (gR rs_cel prsag47 prssz47 hbb13 hx13 hc13) ?_
  refine TL.callsplit rfl rfl rfl rfl rfl Tryz.func29 (by decide) rfl (fun w1 hw => rusbRs_any x13 w1) (fun h15 => ?_) (fun h15 => ?_)
  ·refine zET (zc (zG ?_))
   refine TL.rn 3 rfl ?_
   refine TL.val rfl rfl rfl (gA (i := i) Tryz.underlying26 prssz47 rfl rfl rfl rfl hA13 (by omega)) ?_
   refine TL.v (gF prsfld47_7) ?_
   refine TL.v (gS 7 rs_cel pcmag3 hbb13 hx13 hc13) ?_
   refine TL.val rfl rfl rfl (gives_maxI rfl rfl rfl) ?_
   refine TL.as_ ?_
   refine zE (zN (zT (zG ?_)))
   refine TL.mv ?_
   refine TL.v (gD ((i + 1 : Nat) : Int)) ?_
   refine TL.as_ ?_
   refine zE ?_
   exact TX.round (⟨(i + 1, max n x13.ttl), by dsimp only; omega, by rw [topT_snoc hx13 hst, if_pos h15]⟩) (by show l.length - (i + 1) < l.length - i; omega) ⟨rfl, rfl, rfl, trivial⟩ (fun w1 hw => hw)
  ·refine zET (zd (zk (zN (zT (zG ?_)))))
   refine TL.mv ?_
   refine TL.v (gD ((i + 1 : Nat) : Int)) ?_
   refine TL.as_ ?_
   refine zE ?_
   exact TX.round (⟨(i + 1, n), by dsimp only; omega, by rw [topT_snoc hx13 hst, if_neg (by rw [h15]; decide)]⟩) (by show l.length - (i + 1) < l.length - i; omega) ⟨rfl, rfl, rfl, trivial⟩ (fun w1 hw => hw)
 ·refine zET (zd (zx (zX (zX (zM (zT (zSG ?_)))))))
  refine TL.rn 2 rfl ?_
  refine zET (zr ?_)
  have hE : topT l = n := by rw [List.take_of_length_le (by omega)] at hst; exact hst
  exact ret_tmp Tryz.results91 rfl (fun w1 hw => ⟨by rw [hE], hw.bel⟩)
set_option maxHeartbeats 1000000 in
theorem rbef_any (p q : Ed) (w : World) :
  Calls Tryz.prog 121 #[.agg p.cells.toArray, .agg q.cells.toArray] w fun e w' => e = .returned (.bool (rbefE p q)) ∧ Below w.heap.size w w' := by
 refine begin_ (vs := [.agg p.cells.toArray, .agg q.cells.toArray]) Tryz.func121 rfl rfl rfl ?_ (Pm.start w)
 refine zSG ?_
 refine TL.pnew rfl rfl rfl (exec_box (cs := p.cells) rfl rfl rfl) (fun g2 => ?_)
 refine TL.pnew rfl rfl rfl (exec_box (cs := q.cells) rfl rfl rfl) (fun g3 => ?_)
 refine TL.as_ ?_
 refine zET (zS (zSG ?_))
 refine TL.v (gF pcmfld63_0) ?_
 refine TL.v (gL 1 pcmag3) ?_
 refine TL.v (gF pcmfld63_0) ?_
 refine TL.v (gL 0 pcmag3) ?_
 refine TL.val rfl rfl rfl (gives_build (v := .agg #[.int .i64 p.ttl, .int .i64 q.ttl]) rfl rfl (fun w => prsbld129_29183 _ _ w)) ?_
 refine TL.v (gF pcmfld63_1) ?_
 refine TL.v (gL 1 pcmag30) ?_
 refine TL.val rfl rfl rfl (gives_conv rfl rfl (fun w => conv_w64 Tryz.underlying3 Tryz.underlying30 w)) ?_
 refine TL.v (gF pcmfld63_1) ?_
 refine TL.v (gL 0 pcmag30) ?_
 refine TL.val rfl rfl rfl (gives_conv rfl rfl (fun w => conv_w64 Tryz.underlying3 Tryz.underlying30 w)) ?_
 refine TL.val rfl rfl rfl (gives_build (v := .agg #[.int .i64 (IntKind.i64.wrap p.frm), .int .i64 (IntKind.i64.wrap q.frm)]) rfl rfl (fun w => prsbld129_29183 _ _ w)) ?_
 refine TL.v (gF pcmfld63_2) ?_
 refine TL.v (gL 1 pcmag30) ?_
 refine TL.val rfl rfl rfl (gives_conv rfl rfl (fun w => conv_w64 Tryz.underlying3 Tryz.underlying30 w)) ?_
 refine TL.v (gF pcmfld63_2) ?_
 refine TL.v (gL 0 pcmag30) ?_
 refine TL.val rfl rfl rfl (gives_conv rfl rfl (fun w => conv_w64 Tryz.underlying3 Tryz.underlying30 w)) ?_
 refine TL.val rfl rfl rfl (gives_build (v := .agg #[.int .i64 (IntKind.i64.wrap p.to_), .int .i64 (IntKind.i64.wrap q.to_)]) rfl rfl (fun w => prsbld129_29183 _ _ w)) ?_
 refine TL.val rfl rfl rfl (gives_build (v := .agg ((flat pc2 (pairsE p q))).toArray) rfl rfl (fun w => ptrbld161_19242 _ _ _ _ _ _ w)) ?_
 refine TL.mv ?_
 refine zET (zB ?_)
 refine TC.loop_ (α := {i : Nat // i ≤ 3 ∧ orP ((pairsE p q).drop i) = orP (pairsE p q)}) (fun y => [(26, .agg ((flat pc2 (pairsE p q))).toArray), (27, .int .i64 ((y.1 : Nat) : Int))]) (fun y => Pm w [.blk g3 63 q.cells, .blk g2 63 p.cells]) (fun y => 3 - y.1) (⟨0, Nat.zero_le _, rfl⟩) ⟨rfl, rfl, trivial⟩ (fun w1 hw => hw) ?_
 rintro ⟨i, hi, ho⟩
 try dsimp only at hi ho ⊢
 refine zSG ?_
 refine TL.sp bin_lss (fun q28 => ?_) (fun q28 => ?_)
 ·refine zET (zS (zc (zk (zT (zS (zB (zSG ?_)))))))
  obtain ⟨x29, hx29⟩ : ∃ z, (pairsE p q)[i]? = some z := ⟨_, List.getElem?_eq_getElem (by show i < 3; omega)⟩
  have hdr : (pairsE p q).drop i = x29 :: (pairsE p q).drop (i + 1) := by obtain ⟨hlt, e⟩ := List.getElem?_eq_some_iff.1 hx29; rw [List.drop_eq_getElem_cons hlt, e]
  refine TL.val rfl rfl rfl (gives_index (v := .agg (pc2 x29).toArray) rfl rfl rfl (fun w => index_flat pc2_cel Tryz.underlying161 prsag129 prssz129 hx29 rfl rfl w)) ?_
  refine TL.pnew rfl rfl rfl (exec_alloc (cs := [.int .i64 0, .int .i64 0]) rfl prszv129 rfl) (fun g6 => ?_)
  refine TL.pstore (k := 0) (vs := (pc2 x29)) rfl rfl rfl rfl rfl rfl rfl prssz129 (pc2_cel.one _) (by show 2 ≤ 2; decide) rfl ?_
  refine zET (zSG ?_)
  refine TL.val rfl rfl rfl (gives_at (v := .pointer (some ⟨g6, 0, none⟩)) rfl rfl rfl (fun w => at_arr Tryz.underlying129 pcmsz3 g6 0 _ 0 (by decide) w)) ?_
  refine TL.v (gL 0 pcmag3) ?_
  refine TL.val rfl rfl rfl (gives_at (v := .pointer (some ⟨g6, 1, none⟩)) rfl rfl rfl (fun w => at_arr Tryz.underlying129 pcmsz3 g6 0 _ 1 (by decide) w)) ?_
  refine TL.v (gL 0 pcmag3) ?_
  refine TL.sp bin_neq (fun q34 => ?_) (fun q34 => ?_)
  ·refine zET (zc (zSG ?_))
   refine TL.val rfl rfl rfl (gives_at (v := .pointer (some ⟨g6, 0, none⟩)) rfl rfl rfl (fun w => at_arr Tryz.underlying129 pcmsz3 g6 0 _ 0 (by decide) w)) ?_
   refine TL.v (gL 0 pcmag3) ?_
   refine TL.val rfl rfl rfl (gives_at (v := .pointer (some ⟨g6, 1, none⟩)) rfl rfl rfl (fun w => at_arr Tryz.underlying129 pcmsz3 g6 0 _ 1 (by decide) w)) ?_
   refine TL.v (gL 0 pcmag3) ?_
   refine TL.sp bin_lss (fun q39 => ?_) (fun q39 => ?_)
   ·refine TL.as_ ?_
    refine zET (zr (zRR (zR (zRR ?_))))
    exact ret_tmp Tryz.results121 rfl (fun w1 hw => ⟨by rw [show rbefE p q = true from bef_at hdr ho q34 (by simp; omega)], hw.bel⟩)
   ·refine TL.as_ ?_
    refine zET (zr (zRR (zR (zRR ?_))))
    exact ret_tmp Tryz.results121 rfl (fun w1 hw => ⟨by rw [show rbefE p q = false from bef_at hdr ho q34 (by simp; omega)], hw.bel⟩)
  ·have ho2 : orP ((pairsE p q).drop (i + 1)) = orP (pairsE p q) := by rw [← ho, hdr, orP_cons, if_pos (cmpI_zero.2 (Decidable.not_not.1 q34))]
   refine zET (zd (zk (zN (zT (zG ?_)))))
   refine TL.v (gD ((i + 1 : Nat) : Int)) ?_
   refine TL.mv ?_
   refine zE ?_
   exact TX.round (⟨i + 1, by omega, ho2⟩) (by show 3 - (i + 1) < 3 - i; omega) ⟨rfl, rfl, trivial⟩ (fun w1 hw => hw.pick [1, 2] (by decide) rfl)
 ·refine zET (zS (zd (zx (zX (zX (zM (zT (zSG ?_))))))))
  refine TL.as_ ?_
  refine zET (zr ?_)
  exact ret_tmp Tryz.results121 rfl (fun w1 hw => ⟨by rw [show rbefE p q = false from bef_end (by rw [← ho, List.drop_of_length_le (by show 3 ≤ i; omega)]; rfl)], hw.bel⟩)
set_option maxHeartbeats 1000000 in
theorem rchk_any (A0 : Option Addr) (c0 : Nat) (l : List Rs) (w : World) (hr : Reads w w.heap.size 17 A0 l.length (flat Rs.cells l)) (hl1 : l.length ≤ 100000) (hok : ∀ r ∈ l, r.Ok) :
  Calls Tryz.prog 89 #[.slice A0 l.length c0] w fun e w' => ∃ x : {e : Int // ChkP l e}, e = .returned (.int .i64 x.1) ∧ Below w.heap.size w w' := by
 refine begin_ (vs := [.slice A0 l.length c0]) Tryz.func89 rfl rfl rfl ?_ (Pm.start w)
 refine zSG ?_
 refine TL.as_ ?_
 refine zET (zS (zSG ?_))
 refine TL.as_ ?_
 refine zET (zB ?_)
 refine TC.loop_ (α := {i : Nat // i ≤ l.length ∧ ∀ (j : Nat) (x : Rs), j < i → l[j]? = some x → vldRs x = true}) (fun y => [(0, .slice A0 l.length c0), (3, .int .i64 ((y.1 : Nat) : Int))]) (fun y => Pm w []) (fun y => l.length - y.1) (⟨0, Nat.zero_le _, fun j x h => absurd h (Nat.not_lt_zero _)⟩) ⟨rfl, rfl, trivial⟩ (fun w1 hw => hw) ?_
 rintro ⟨i, hi, hvi⟩
 try dsimp only at hi hvi ⊢
 refine zS (zSG ?_)
 refine TL.rn 2 rfl ?_
 refine TL.v (gN Tryz.underlying26) ?_
 refine TL.vsplit rfl rfl rfl (gives_bin rfl rfl rfl (fun w => bin_lss w)) (fun h9 => ?_) (fun h9 => ?_)
 ·have q9 := of_decide_eq_true h9
  refine zET (zc (zk (zT (zS (zB (zSG ?_))))))
  refine TL.rn 2 rfl ?_
  have hi14 : i < l.length := by omega
  obtain ⟨x14, hx14⟩ := ex_at hi14
  obtain ⟨b14, o14, hA14, hbb14, hc14⟩ := hr.ad (by omega) (by decide)
  refine TL.val rfl rfl rfl (gA (i := i) Tryz.underlying26 prssz47 rfl rfl rfl rfl hA14 (by omega)) ?_
  refine TL.v (gR rs_cel prsag47 prssz47 hbb14 hx14 hc14) ?_
  refine TL.callsplit rfl rfl rfl rfl rfl Tryz.func27 (by decide) rfl (fun w1 hw => rvldRs_any x14 w1) (fun h16 => ?_) (fun h16 => ?_)
  ·refine TL.val rfl rfl rfl (gives_boolnot rfl rfl) ?_
   refine zET (zd (zk (zN (zT (zG ?_)))))
   refine TL.mv ?_
   refine TL.v (gD ((i + 1 : Nat) : Int)) ?_
   refine TL.as_ ?_
   refine zE ?_
   exact TX.round (⟨i + 1, by omega, vld_snoc hvi hx14 h16⟩) (by show l.length - (i + 1) < l.length - i; omega) ⟨rfl, rfl, trivial⟩ (fun w1 hw => hw)
  ·refine TL.val rfl rfl rfl (gives_boolnot rfl rfl) ?_
   refine zET (zc (zSG ?_))
   refine TL.as_ ?_
   refine zET (zr (zRR (zR (zRR ?_))))
   exact ret_tmp Tryz.results89 rfl (fun w1 hw => ⟨⟨1, .inl ⟨rfl, any_bad hx14 h16⟩⟩, rfl, hw.bel⟩)
 ·have q9 := of_decide_eq_false h9
  refine zET (zd (zx (zX (zX (zM (zT (zS ?_)))))))
  have hv : (l.any fun r => !vldRs r) = false := any_ok hvi (by omega)
  refine zG ?_
  refine TL.mv ?_
  refine TL.pcallPm (α := {y : (Option Addr × Nat) × List Rs // IsOrd l y.2 ∧ y.2.length ≤ y.1.2 ∧ y.1.2 ≤ maxLen}) (fun x => .slice x.1.1.1 x.1.2.length x.1.1.2) (fun x => [.row (.slice x.1.1.1 x.1.2.length x.1.1.2) 47 17 x.1.2.length (flat Rs.cells x.1.2)]) rfl rfl rfl rfl rfl Tryz.func41 (by decide) rfl (fun w1 hw => rord_any A0 c0 l w1 (hr.up hw.bel) hl1 hok) ?_
  rintro ⟨⟨⟨R19, rc19⟩, o19⟩, hP19, hR191, hR192⟩
  dsimp only [List.cons_append, List.nil_append]
  dsimp only at hP19 hR191 hR192 ⊢
  refine TL.as_ ?_
  refine zET (zS (zS ?_))
  have hol := hP19.le
  refine zG ?_
  refine TL.mv ?_
  refine TL.v (gN Tryz.underlying26) ?_
  refine TL.sp bin_gtr (fun q22 => ?_) (fun q22 => ?_)
  ·refine zET (zc (zSG ?_))
   refine TL.as_ ?_
   refine zET (zr (zR ?_))
   exact ret_tmp Tryz.results89 rfl (fun w1 hw => ⟨⟨5, .inr ⟨hv, o19, hP19, .inl ⟨rfl, by omega⟩⟩⟩, rfl, hw.bel⟩)
  ·refine zET (zd (zk (zT (zS (zSG ?_)))))
   refine TL.as_ ?_
   refine zET (zB ?_)
   refine TC.loop_ (α := {k : Nat // 1 ≤ k ∧ (k ≤ o19.length ∨ k = 1) ∧ ∀ (j : Nat) (x y : Rs), j < k → o19[j]? = some x → o19[0]? = some y → trcR x = trcR y}) (fun y => [(4, .slice R19 o19.length rc19), (5, .int .i64 ((y.1 : Nat) : Int))]) (fun y => Pm w [.row (.slice R19 o19.length rc19) 47 17 o19.length (flat Rs.cells o19)]) (fun y => o19.length + 1 - y.1) (⟨1, Nat.le_refl _, .inr rfl, fun j x y h hx hy => trc_zero (by omega) hx hy⟩) ⟨rfl, rfl, trivial⟩ (fun w1 hw => hw) ?_
   rintro ⟨k, hk1, hk2, hsm⟩
   try dsimp only at hk1 hk2 hsm ⊢
   refine zS (zSG ?_)
   refine TL.rn 2 rfl ?_
   refine TL.v (gN Tryz.underlying26) ?_
   refine TL.sp bin_lss (fun q26 => ?_) (fun q26 => ?_)
   ·refine zET (zc (zk (zT (zS (zB (zS ?_))))))
    refine TC.fact (p := ∃ g, R19 = some ⟨g, 0, none⟩) (fun w1 hw => rowA hw (k := 0) rfl (by omega)) ?_
    rintro ⟨g_R19, rfl⟩
    refine TC.quietQ (by kernel_rfl) (by kernel_rfl) (fun w hw => hw.drawn _) ?_
    refine TQ.rn 2 rfl ?_
    have hi31 : k < o19.length := by omega
    obtain ⟨x31, hx31⟩ := ex_at hi31
    refine TQ.val rfl rfl rfl (gA (i := k) Tryz.underlying26 prssz47 rfl rfl rfl rfl rfl (by omega)) ?_
    refine TQ.val rfl rfl rfl (gives_loadR (off := 0 + k * 17) rfl rfl prsag47 prssz47 (rs_cel.len x31) (fun w1 hw j9 u9 h9 => flat_row rs_cel hw (q := 0) rfl hx31 j9 u9 h9)) ?_
    refine TQ.call (v := .agg ((trcR x31).cells).toArray) rfl rfl rfl rfl rfl Tryz.func36 (by decide) rfl (fun w1 hw => (rtrc_any x31 w1).mono fun en w2 ⟨h1, h2⟩ => ⟨h1, hw.below h2⟩) ?_
    refine TQ.val rfl rfl rfl (gives_move rfl rfl) ?_
    have hi35 : 0 < o19.length := by omega
    obtain ⟨x35, hx35⟩ := ex_at hi35
    refine TQ.val rfl rfl rfl (gA (i := 0) Tryz.underlying26 prssz47 rfl rfl rfl rfl rfl (by omega)) ?_
    refine TQ.val rfl rfl rfl (gives_loadR (off := 0 + 0 * 17) rfl rfl prsag47 prssz47 (rs_cel.len x35) (fun w1 hw j9 u9 h9 => flat_row rs_cel hw (q := 0) rfl hx35 j9 u9 h9)) ?_
    refine TQ.call (v := .agg ((trcR x35).cells).toArray) rfl rfl rfl rfl rfl Tryz.func36 (by decide) rfl (fun w1 hw => (rtrc_any x35 w1).mono fun en w2 ⟨h1, h2⟩ => ⟨h1, hw.below h2⟩) ?_
    refine TQ.vsplit rfl rfl rfl (gives_bin2 rfl rfl rfl (fun w => trc_neqd (trcR x31) (trcR x35) _ _ w)) (fun h38 => ?_) (fun h38 => ?_)
    ·have q38 := of_decide_eq_true h38
     refine TQ.fin ?_
     refine zT (zc (zSG ?_))
     refine TL.as_ ?_
     refine zET (zr (zRR (zR (zRR ?_))))
     exact ret_tmp Tryz.results89 rfl (fun w1 hw => ⟨⟨35, .inr ⟨hv, o19, hP19, .inr ⟨by omega, .inl ⟨rfl, x31, List.mem_of_getElem? hx31, x35, List.mem_of_getElem? hx35, q38⟩⟩⟩⟩, rfl, hw.bel⟩)
    ·have q38 := of_decide_eq_false h38
     refine TQ.fin ?_
     refine zT (zd (zk (zN (zT (zG ?_)))))
     refine TL.mv ?_
     refine TL.v (gD ((k + 1 : Nat) : Int)) ?_
     refine TL.as_ ?_
     refine zE ?_
     exact TX.round (⟨k + 1, by omega, .inl (by omega), trc_snoc hsm hx31 hx35 (Decidable.not_not.1 q38)⟩) (by show o19.length + 1 - (k + 1) < o19.length + 1 - k; omega) ⟨rfl, rfl, trivial⟩ (fun w1 hw => hw)
   ·refine zET (zd (zx (zX (zX (zM (zT (zSG ?_)))))))
    refine TL.as_ ?_
    refine zET (zr ?_)
    exact ret_tmp Tryz.results89 rfl (fun w1 hw => ⟨⟨0, .inr ⟨hv, o19, hP19, .inr ⟨by omega, .inr ⟨rfl, all_trc hsm (by omega)⟩⟩⟩⟩, rfl, hw.bel⟩)
def adB (A : Option Addr) : Nat := match A with
  | some a => a.block
  | none => 0
def adO (A : Option Addr) : Nat := match A with
  | some a => a.off
  | none => 0
section
variable {α : Type} {c : α → List Value} {k : Nat}
theorem Reads.addr {w : World} {B size n : Nat} {A : Option Addr} {xs : List Value} (h : Reads w B size A n xs) (hn : 0 < n) (hs : 0 < size) : A = some ⟨adB A, adO A, none⟩ := by
  obtain ⟨b, o, hA, _, _⟩ := h.ad hn hs
  rw [hA]; rfl
end
set_option maxRecDepth 20000
theorem putA_len {α : Type} {o : List α} {k : Nat} {x : α} : (o.take k ++ x :: o.drop k).length = o.length + 1 := by
 have e : (o.take k ++ o.drop k).length = o.length := by rw [List.take_append_drop]
 rw [List.length_append] at e
 rw [List.length_append, List.length_cons]; omega
section
variable {α : Type} {key : α → List Int} {fl : α → List Int} {n : Nat} {P : List Int → Int → Prop} {hs : List α}
theorem gr_new (hk : ∀ x, (key x).length = n) (h : GrOk key fl P hs) {q : Nat} {x : α} {K : List Int} {f : Int} (hx : key x = K) (hf : fl x = [f]) (h1 : ∀ y ∈ hs.take q, lexI (key y) K < 0) (h2 : ∀ y ∈ hs.drop q, lexI K (key y) < 0) : GrOk key fl (fun k g => P k g ∨ (k = K ∧ g = f)) (hs.take q ++ x :: hs.drop q) := by
 subst hx
 refine ⟨ascK_put hk h.1 h1 h2, fun y hy => ?_, fun k g => ?_⟩
 ·rcases mem_put.1 hy with h3 | h3
  ·exact h.2.1 y h3
  ·rw [h3, hf]; exact ⟨List.pairwise_singleton _ _, by simp⟩
 ·constructor
  ·rintro ⟨y, hy, e, hg⟩
   rcases mem_put.1 hy with h3 | h3
   ·exact .inl ((h.2.2 k g).1 ⟨y, h3, e, hg⟩)
   ·rw [h3] at e hg
    rw [hf, List.mem_singleton] at hg
    exact .inr ⟨e.symm, hg⟩
  ·rintro (h3 | ⟨rfl, rfl⟩)
   ·obtain ⟨y, hy, e, hg⟩ := (h.2.2 k g).2 h3
    exact ⟨y, mem_put.2 (.inl hy), e, hg⟩
   ·exact ⟨x, mem_put.2 (.inr rfl), rfl, by rw [hf]; exact List.mem_singleton.2 rfl⟩
theorem gr_old (hk : ∀ x, (key x).length = n) (h : GrOk key fl P hs) {k : Nat} {x y : α} {K : List Int} {f : Int} (hx : hs[k]? = some x) (hy : key y = key x) (hK : key x = K) (hf : fl y = fl x ++ [f]) (hlt : ∀ g, P K g → g < f) : GrOk key fl (fun k g => P k g ∨ (k = K ∧ g = f)) (hs.set k y) := by
 subst hK
 obtain ⟨hlt1, hget⟩ := List.getElem?_eq_some_iff.1 hx
 have hxm := List.mem_of_getElem? hx
 have hmap : (hs.set k y).map key = hs.map key := by
  rw [List.map_set, hy, ← hget]
  apply List.ext_getElem?
  intro i
  by_cases e : k = i
  ·subst e
   rw [List.getElem?_set_self (by rw [List.length_map]; exact hlt1), List.getElem?_map, List.getElem?_eq_getElem hlt1]; rfl
  ·rw [List.getElem?_set_ne e]
 have hmem : ∀ z, z ∈ hs.set k y → z ∈ hs ∨ z = y := fun z hz => List.mem_or_eq_of_mem_set hz
 have hym : y ∈ hs.set k y := List.mem_of_getElem? (List.getElem?_set_self hlt1)
 have hin : ∀ z ∈ hs, z = x ∨ z ∈ hs.set k y := fun z hz => by
  obtain ⟨j, hj⟩ := List.getElem?_of_mem hz
  by_cases e : k = j
  ·subst e; rw [hx] at hj; cases hj; exact .inl rfl
  ·exact .inr (List.mem_of_getElem? (i := j) (by rw [List.getElem?_set_ne e]; exact hj))
 refine ⟨?_, fun z hz => ?_, fun q g => ?_⟩
 ·have h1 : (hs.map key).Pairwise fun a b => lexI a b < 0 := List.pairwise_map.2 h.1
  rw [← hmap] at h1
  exact List.pairwise_map.1 h1
 ·rcases hmem z hz with h3 | h3
  ·exact h.2.1 z h3
  ·rw [h3, hf]
   refine ⟨List.pairwise_append.2 ⟨(h.2.1 x hxm).1, List.pairwise_singleton _ _, fun a ha b hb => ?_⟩, by simp⟩
   rw [List.mem_singleton.1 hb]
   exact hlt a ((gr_flows hk h hxm a).1 ha)
 ·constructor
  ·rintro ⟨z, hz, e, hg⟩
   rcases hmem z hz with h3 | h3
   ·exact .inl ((h.2.2 q g).1 ⟨z, h3, e, hg⟩)
   ·rw [h3] at e hg
    rw [hf, List.mem_append, List.mem_singleton] at hg
    rcases hg with hg | hg
    ·exact .inl ((h.2.2 q g).1 ⟨x, hxm, by rw [← hy, e], hg⟩)
    ·exact .inr ⟨by rw [← e, hy], hg⟩
  ·rintro (h3 | ⟨rfl, rfl⟩)
   ·obtain ⟨z, hz, e, hg⟩ := (h.2.2 q g).2 h3
    rcases hin z hz with rfl | h4
    ·exact ⟨y, hym, by rw [hy, e], by rw [hf]; exact List.mem_append_left _ hg⟩
    ·exact ⟨z, h4, e, hg⟩
   ·exact ⟨y, hym, hy, by rw [hf]; exact List.mem_append_right _ (List.mem_singleton.2 rfl)⟩
end
section
variable {α β : Type} {e : TypeId} {size : Nat} {enc : List α → List Value} {w0 : Base} {w : World} {P O : List Pc} {ss ss' : List (Sg α)} {s : Sg α} {k : Nat}
theorem Pm.segOutO (h : Pm w0 (P ++ (segG e size enc ss ++ O)) w) (hk : ss[k]? = some s) : Pm w0 (.row (.slice s.A s.l.length s.c) e size s.l.length (enc s.l) :: (P ++ (segG e size enc (ss.eraseIdx k) ++ O))) w := by
 refine h.permute ?_
 have h1 : (segG e size enc ss).Perm (segG e size enc (s :: ss.eraseIdx k)) := (erase_perm hk).map _
 exact (List.Perm.append_left P (List.Perm.append_right O h1)).trans List.perm_middle
theorem Pm.segPut (h : Pm w0 (.row (.slice s.A s.l.length s.c) e size s.l.length (enc s.l) :: (P ++ (segG e size enc ss ++ O))) w) (hp : ss'.Perm (s :: ss)) : Pm w0 (P ++ (segG e size enc ss' ++ O)) w := by
 refine h.permute ?_
 have h1 : (segG e size enc (s :: ss)).Perm (segG e size enc ss') := (hp.symm).map _
 exact List.perm_middle.symm.trans (List.Perm.append_left P (List.Perm.append_right O h1))
theorem old_perm {hs : List β} {fl : β → Sg α} {x y : β} {k : Nat} (hx : hs[k]? = some x) : ((hs.set k y).map fl).Perm (fl y :: (hs.map fl).eraseIdx k) := by
 rw [List.map_set]
 exact set_perm (by rw [List.length_map]; exact (List.getElem?_eq_some_iff.1 hx).1) (fl y)
theorem new_perm {hs : List β} {fl : β → Sg α} {y : β} {k : Nat} : ((hs.take k ++ y :: hs.drop k).map fl).Perm (fl y :: hs.map fl) := by
 rw [List.map_append, List.map_cons]
 refine List.perm_middle.trans (List.Perm.cons _ ?_)
 rw [← List.map_append, List.take_append_drop]
end
theorem hpk_lt {a b : Hpx} : lexI (hpk a) (hpk b) < 0 ↔ a.ttl < b.ttl ∨ (a.ttl = b.ttl ∧ a.addr < b.addr) := by
 show (if cmpI a.ttl b.ttl = 0 then (if cmpI a.addr b.addr = 0 then (0 : Int) else cmpI a.addr b.addr) else cmpI a.ttl b.ttl) < 0 ↔ _
 unfold cmpI
 split <;> split <;> (try split) <;> (try split) <;> (try split) <;> (try split) <;> omega
theorem hop_key {x : Hpx} {ttl a : Int} (h1 : x.ttl = ttl) (h2 : x.addr = a) : hpk x = [ttl, a] := by unfold hpk; rw [h1, h2]
theorem bef_lt {x y : Ed} (hx : EdOk x) (hy : EdOk y) (h : rbefE x y = true) : lexI (edk x) (edk y) < 0 := by rw [bef_lex hx hy] at h; exact of_decide_eq_true h
theorem bef_gt {x : Ed} {ttl a b : Int} (hx : EdOk x) {heo : EdOk ⟨ttl, a, b, ⟨none, 0, []⟩⟩} (h : rbefE ⟨ttl, a, b, ⟨none, 0, []⟩⟩ x = true) : lexI [ttl, a, b] (edk x) < 0 := bef_lt heo hx h
theorem edge_key {x : Ed} {ttl a b : Int} (hx : EdOk x) (heo : EdOk ⟨ttl, a, b, ⟨none, 0, []⟩⟩) (h1 : rbefE x ⟨ttl, a, b, ⟨none, 0, []⟩⟩ = false) (h2 : rbefE ⟨ttl, a, b, ⟨none, 0, []⟩⟩ x = false) : edk x = [ttl, a, b] := by
 rw [bef_lex hx heo] at h1
 rw [bef_lex heo hx] at h2
 have h3 := of_decide_eq_false h1
 have h4 := of_decide_eq_false h2
 have h5 := posK (key := edk) edk_len (x := x) (y := ⟨ttl, a, b, ⟨none, 0, []⟩⟩)
 exact (lexI_zero (a := edk x) (b := edk ⟨ttl, a, b, ⟨none, 0, []⟩⟩) rfl).1 (by omega)
theorem prhbld50_521  (w : World) : (Instr.build 50 #[]).run Tryz.prog w = .ok (.agg #[.int .i64 0, .int .u32 0, .slice none 0 0]) w := by kernel_rfl
theorem prhbld50_27248 (a0_0 : Int) (a1_0 : Int) (w : World) : (Instr.build 50 #[(0, .int .i64 a0_0), (1, .int .u32 a1_0)]).run Tryz.prog w = .ok (.agg #[.int .i64 a0_0, .int .u32 a1_0, .slice none 0 0]) w := by kernel_rfl
theorem prhone_i64u32s {a0 : Int} {a1 : Int} {a2 : Option Addr} {n2 c2 : Nat} : ∀ u ∈ [(.int .i64 a0 : Value), .int .u32 a1, .slice a2 n2 c2], u.oneCell' = true := by
 intro u hu
 simp only [List.mem_cons, List.not_mem_nil, or_false] at hu
 rcases hu with rfl | rfl | rfl <;> rfl
theorem prhsz48 (w : World) : (sizeOf 48).run Tryz.prog w = .ok 1 w := rfl
theorem prhbld63_528  (w : World) : (Instr.build 63 #[]).run Tryz.prog w = .ok (.agg #[.int .i64 0, .int .u32 0, .int .u32 0, .slice none 0 0]) w := by kernel_rfl
theorem prhone_i64u32u32s {a0 : Int} {a1 : Int} {a2 : Int} {a3 : Option Addr} {n3 c3 : Nat} : ∀ u ∈ [(.int .i64 a0 : Value), .int .u32 a1, .int .u32 a2, .slice a3 n3 c3], u.oneCell' = true := by
 intro u hu
 simp only [List.mem_cons, List.not_mem_nil, or_false] at hu
 rcases hu with rfl | rfl | rfl | rfl <;> rfl
set_option maxHeartbeats 8000000 in
theorem rhop_any (w0 : Base) (F : List Pc) (P : List Int → Int → Prop) (A0 : Option Addr) (m c0 : Nat) (hs : List Hpx) (ttl a flow : Int) (w : World) (hw0 : Pm w0 ([.row (.slice A0 m c0) 50 3 m (flat Hpx.cells hs)] ++ (segG 3 1 (flat (ic .i64)) (hs.map (·.fl)) ++ F)) w) (hm : hs.length = m) (hm1 : m ≤ 100000) (hmc : m ≤ c0) (hcm : c0 ≤ maxLen) (hg : GrOk hpk (fun x : Hpx => x.fl.l) P hs) (hlf : ∀ g, P [ttl, a] g → g < flow) (hfl : ∀ x ∈ hs, x.fl.l.length ≤ 100000) :
  Calls Tryz.prog 92 #[.slice A0 m c0, .int .i64 ttl, .int .u32 a, .int .i64 flow] w fun e w' => ∃ y : {y : (Option Addr × Nat) × List Hpx // GrOk hpk (fun x : Hpx => x.fl.l) (fun q g => P q g ∨ (q = [ttl, a] ∧ g = flow)) y.2 ∧ y.2.length ≤ m + 1 ∧ y.2.length ≤ y.1.2 ∧ y.1.2 ≤ maxLen}, e = .returned (.slice y.1.1.1 y.1.2.length y.1.1.2) ∧ Pm w0 ([.row (.slice y.1.1.1 y.1.2.length y.1.1.2) 50 3 y.1.2.length (flat Hpx.cells y.1.2)] ++ (segG 3 1 (flat (ic .i64)) (y.1.2.map (·.fl)) ++ F)) w' := by
 refine begin_ (vs := [.slice A0 m c0, .int .i64 ttl, .int .u32 a, .int .i64 flow]) (I := Pm w0 ([.row (.slice A0 m c0) 50 3 m (flat Hpx.cells hs)] ++ (segG 3 1 (flat (ic .i64)) (hs.map (·.fl)) ++ F))) Tryz.func92 rfl rfl rfl ?_ hw0
 refine zSG ?_
 refine TL.as_ ?_
 refine zET (zSG ?_)
 refine TL.as_ ?_
 refine zET (zS (zB ?_))
 refine TC.loop_ (α := {k : Nat // k ≤ m ∧ ∀ z ∈ hs.take k, lexI (hpk z) [ttl, a] < 0}) (fun y => [(0, .slice A0 m c0), (1, .int .i64 ttl), (2, .int .u32 a), (3, .int .i64 flow), (9, .int .i64 ((y.1 : Nat) : Int))]) (fun y => Pm w0 ([.row (.slice A0 m c0) 50 3 m (flat Hpx.cells hs)] ++ (segG 3 1 (flat (ic .i64)) (hs.map (·.fl)) ++ F))) (fun y => m - y.1) (⟨0, Nat.zero_le _, fun z hz => by rw [List.take_zero] at hz; cases hz⟩) ⟨rfl, rfl, rfl, rfl, rfl, trivial⟩ (fun w1 hw => hw) ?_
 rintro ⟨k, hk, hlt⟩
 try dsimp only at hk hlt ⊢
 refine zS (zSG ?_)
 refine TL.rn 2 rfl ?_
 refine TL.v (gN Tryz.underlying33) ?_
 refine TL.sp bin_lss (fun q13 => ?_) (fun q13 => ?_)
 ·refine TL.rn 3 rfl ?_
  refine TL.gu ?_
  refine TL.fact (p := ∃ g, A0 = some ⟨g, 0, none⟩) (fun w1 hw => rowA hw (k := 0) rfl (by omega)) ?_
  rintro ⟨g_A0, rfl⟩
  have hi17 : k < hs.length := by omega
  obtain ⟨x17, hx17⟩ := ex_at hi17
  refine TL.val rfl rfl rfl (gA (i := k) Tryz.underlying33 psmsz50 rfl rfl rfl rfl rfl (by omega)) ?_
  refine TL.ov (gF pcmfld50_0) ?_
  refine TL.gu ?_
  refine TL.val rfl rfl rfl (gives_load (v := .int .i64 x17.ttl) rfl rfl pcmag3 (fun w1 hw => flat_row hp_cel hw (q := 0) rfl hx17 0 _ rfl)) ?_
  refine TL.rn 1 rfl ?_
  refine TL.gu ?_
  refine TL.sp bin_lss (fun q21 => ?_) (fun q21 => ?_)
  ·refine TL.rn 9 rfl ?_
   refine TL.offU rfl rfl rfl rfl rfl ?_
   refine TL.offU rfl rfl rfl rfl rfl ?_
   refine TL.offU rfl rfl rfl rfl rfl ?_
   refine TL.offU rfl rfl rfl rfl rfl ?_
   refine TL.offU rfl rfl rfl rfl rfl ?_
   refine TL.offU rfl rfl rfl rfl rfl ?_
   refine TL.offU rfl rfl rfl rfl rfl ?_
   refine TL.rn 3 rfl ?_
   refine zET (zc (zk (zT (zB ?_))))
   have hlt2 : ∀ z ∈ hs.take (k + 1), lexI (hpk z) [ttl, a] < 0 := ascK_ahead (x := (⟨ttl, a, (⟨none, 0, []⟩ : Sg Int)⟩ : Hpx)) hpk_len hg.1 hx17 (hpk_lt.2 (by dsimp only; omega))
   refine zG ?_
   refine TL.mv ?_
   refine TL.v (gD ((k + 1 : Nat) : Int)) ?_
   refine TL.as_ ?_
   refine zE (zN ?_)
   exact TX.round (⟨k + 1, by omega, hlt2⟩) (by show m - (k + 1) < m - k; omega) ⟨rfl, rfl, rfl, rfl, rfl, trivial⟩ (fun w1 hw => hw)
  ·refine TL.rn 3 rfl ?_
   refine TL.gu ?_
   refine TL.val rfl rfl rfl (gA (i := k) Tryz.underlying33 psmsz50 rfl rfl rfl rfl rfl (by omega)) ?_
   refine TL.ov (gF pcmfld50_0) ?_
   refine TL.gu ?_
   refine TL.val rfl rfl rfl (gives_load (v := .int .i64 x17.ttl) rfl rfl pcmag3 (fun w1 hw => flat_row hp_cel hw (q := 0) rfl hx17 0 _ rfl)) ?_
   refine TL.rn 1 rfl ?_
   refine TL.gu ?_
   refine TL.sp bin_eql (fun q29 => ?_) (fun q29 => ?_)
   ·refine TL.rn 3 rfl ?_
    refine TL.gu ?_
    refine TL.val rfl rfl rfl (gA (i := k) Tryz.underlying33 psmsz50 rfl rfl rfl rfl rfl (by omega)) ?_
    refine TL.ov (gF pcmfld50_1) ?_
    refine TL.gu ?_
    refine TL.val rfl rfl rfl (gives_load (v := .int .u32 x17.addr) rfl rfl pcmag30 (fun w1 hw => flat_row hp_cel hw (q := 0) rfl hx17 1 _ rfl)) ?_
    refine TL.rn 1 rfl ?_
    refine TL.gu ?_
    refine TL.sp bin_lss (fun q37 => ?_) (fun q37 => ?_)
    ·refine TL.rn 3 rfl ?_
     refine zET (zc (zk (zT (zB ?_))))
     have hlt2 : ∀ z ∈ hs.take (k + 1), lexI (hpk z) [ttl, a] < 0 := ascK_ahead (x := (⟨ttl, a, (⟨none, 0, []⟩ : Sg Int)⟩ : Hpx)) hpk_len hg.1 hx17 (hpk_lt.2 (by dsimp only; omega))
     refine zG ?_
     refine TL.mv ?_
     refine TL.v (gD ((k + 1 : Nat) : Int)) ?_
     refine TL.as_ ?_
     refine zE (zN ?_)
     exact TX.round (⟨k + 1, by omega, hlt2⟩) (by show m - (k + 1) < m - k; omega) ⟨rfl, rfl, rfl, rfl, rfl, trivial⟩ (fun w1 hw => hw)
    ·refine TL.rn 3 rfl ?_
     refine zET (zd (zx (zX (zX (zM (zT (zS (zSG ?_))))))))
     refine TL.rn 2 rfl ?_
     refine TL.v (gN Tryz.underlying33) ?_
     refine TL.sp bin_eql (fun q46 => ?_) (fun q46 => ?_)
     ·exfalso; omega
     ·refine TL.rn 3 rfl ?_
      refine TL.gu ?_
      refine TL.val rfl rfl rfl (gA (i := k) Tryz.underlying33 psmsz50 rfl rfl rfl rfl rfl (by omega)) ?_
      refine TL.ov (gF pcmfld50_0) ?_
      refine TL.gu ?_
      refine TL.val rfl rfl rfl (gives_load (v := .int .i64 x17.ttl) rfl rfl pcmag3 (fun w1 hw => flat_row hp_cel hw (q := 0) rfl hx17 0 _ rfl)) ?_
      refine TL.rn 1 rfl ?_
      refine TL.gu ?_
      refine TL.sp bin_neq (fun q54 => ?_) (fun q54 => ?_)
      ·refine TL.rn 10 rfl ?_
       refine zET (zc (zSG ?_))
       refine TL.mv ?_
       refine TL.val rfl rfl rfl (gives_build (v := .agg #[.int .i64 0, .int .u32 0, .slice none 0 0]) rfl rfl (fun w => prhbld50_521  w)) ?_
       refine TL.prowS (e := 50) (size := 3) (cs := flat Hpx.cells [(⟨0, 0, (⟨none, 0, []⟩ : Sg Int)⟩ : Hpx)]) rfl rfl rfl rfl rfl (fun w => pbdbs33_1_48232 _ _ _ _ _ w) (by decide) rfl (fun g67 => ?_)
       refine TL.appendT (k := 1) rfl rfl rfl rfl Tryz.underlying33 pbdel33 rfl rfl rfl (fun w1 hw => pm_reads hw (k := 0) rfl) (flat_one hp_cel _) (by show _ * 40 ≤ _; omega) (m + 1) (rfl) (flat Hpx.cells (hs ++ [(⟨0, 0, (⟨none, 0, []⟩ : Sg Int)⟩ : Hpx)])) ((flat_app _ _).symm) (fun A68 c68 hA681 hA682 => ?_)
       refine TL.as_ ?_
       refine zET (zS ?_)
       have hn1 : (hs ++ [(⟨0, 0, (⟨none, 0, []⟩ : Sg Int)⟩ : Hpx)]).length = hs.length + 1 := by simp
       have hn2 : (shiftL (hs ++ [(⟨0, 0, (⟨none, 0, []⟩ : Sg Int)⟩ : Hpx)]) k).length = hs.length + 1 := by rw [shiftL_len _ _ (by omega), hn1]
       refine TC.fact (p := ∃ g, A68 = some ⟨g, 0, none⟩) (fun w1 hw => rowA hw (k := 1) rfl (by omega)) ?_
       rintro ⟨g_A68, rfl⟩
       refine TC.tail 7 (by kernel_rfl) (by kernel_rfl) (fun w hw => hw.drawn _) ?_
       refine TS.val rfl rfl rfl (gives_move rfl rfl) ?_
       refine TS.val rfl rfl rfl (gives_move rfl rfl) ?_
       refine TS.v (gD ((k + 1 : Nat) : Int)) ?_
       refine TS.val rfl rfl rfl (gives_sliceL (v := .slice (if c68 = k + 1 then some ⟨g_A68, 0, none⟩ else (some (⟨g_A68, 0, none⟩ : Addr)).map (·.add ((k + 1) * 3))) ((m + 1) - (k + 1)) (c68 - (k + 1))) rfl rfl rfl (fun w => cut_lo Tryz.underlying33 psmsz50 _ _ _ (k + 1) rfl (by omega) w)) ?_
       refine TS.val rfl rfl rfl (gives_move rfl rfl) ?_
       refine TS.val rfl rfl rfl (gives_move rfl rfl) ?_
       refine TS.val rfl rfl rfl (gives_tailF (q := k) rfl rfl rfl rfl Tryz.underlying33 psmsz50 (by omega) (by omega)) ?_
       refine TS.end_ ?_
       refine TL.shiftF hp_cel (kk := 1) (k := k) rfl rfl rfl rfl Tryz.underlying33 psmsz50 rfl rfl rfl (by omega) (by omega) (by omega) ?_
       try dsimp only [List.set_cons_zero, List.set_cons_succ]
       refine zET (zG ?_)
       refine TL.rn 4 rfl ?_
       refine TL.val rfl rfl rfl (gives_build (v := .agg #[.int .i64 ttl, .int .u32 a, .slice none 0 0]) rfl rfl (fun w => prhbld50_27248 _ _ w)) ?_
       have hi82 : k < (shiftL (hs ++ [(⟨0, 0, (⟨none, 0, []⟩ : Sg Int)⟩ : Hpx)]) k).length := by omega
       obtain ⟨x82, hx82⟩ := ex_at hi82
       refine TL.val rfl rfl rfl (gA (i := k) Tryz.underlying33 psmsz50 rfl rfl rfl rfl rfl (by omega)) ?_
       refine TL.rowset (k := 1) (vs := [.int .i64 ttl, .int .u32 a, .slice none 0 0]) (xs' := flat Hpx.cells ((shiftL (hs ++ [(⟨0, 0, (⟨none, 0, []⟩ : Sg Int)⟩ : Hpx)]) k).set k (⟨ttl, a, (⟨none, 0, []⟩ : Sg Int)⟩ : Hpx))) rfl rfl rfl rfl rfl rfl rfl psmsz50 prhone_i64u32s (by rw [flat_len hp_cel]; show 0 + k * 3 + 3 ≤ _; omega) (flat_put hp_cel (q := 0) (y := (⟨ttl, a, (⟨none, 0, []⟩ : Sg Int)⟩ : Hpx)) hx82 (by show 0 + 3 ≤ 3; decide) rfl) ?_
       try dsimp only [List.set_cons_zero, List.set_cons_succ]
       refine zET (zS ?_)
       have hn3 : ((shiftL (hs ++ [(⟨0, 0, (⟨none, 0, []⟩ : Sg Int)⟩ : Hpx)]) k).set k (⟨ttl, a, (⟨none, 0, []⟩ : Sg Int)⟩ : Hpx)).length = hs.length + 1 := by rw [List.length_set, hn2]
       have hx87 : ((shiftL (hs ++ [(⟨0, 0, (⟨none, 0, []⟩ : Sg Int)⟩ : Hpx)]) k).set k (⟨ttl, a, (⟨none, 0, []⟩ : Sg Int)⟩ : Hpx))[k]? = some (⟨ttl, a, (⟨none, 0, []⟩ : Sg Int)⟩ : Hpx) := List.getElem?_set_self (by omega)
       refine zG ?_
       refine TL.rn 4 rfl ?_
       refine TL.val rfl rfl rfl (gA (i := k) Tryz.underlying33 psmsz50 rfl rfl rfl rfl rfl (by omega)) ?_
       refine TL.v (gF psmfld50_2) ?_
       refine TL.val rfl rfl rfl (gives_load (v := .slice none 0 0) rfl rfl psmag48 (fun w1 hw => flat_row hp_cel hw (q := 1) rfl hx87 2 _ rfl)) ?_
       refine TL.mv ?_
       refine TL.prowS (e := 3) (size := 1) (cs := flat (ic .i64) [flow]) rfl rfl rfl rfl rfl (fun w => pbdbs48_1_5377 _ w) (by decide) rfl (fun g91 => ?_)
       refine TL.nilrow 3 1 ?_
       refine TL.appendT (k := 0) rfl rfl rfl rfl Tryz.underlying48 pbdel48 rfl rfl rfl (fun w1 hw => pm_reads hw (k := 1) rfl) (flat_one (ic_cel .i64) _) (by show _ * 8 ≤ _; omega) (([flow]).length) (by simp) (flat (ic .i64) ([flow])) (rfl) (fun A92 c92 hA921 hA922 => ?_)
       refine TL.val rfl rfl rfl (gA (i := k) Tryz.underlying33 psmsz50 rfl rfl rfl rfl rfl (by omega)) ?_
       refine TL.v (gF psmfld50_2) ?_
       refine TL.rowset (k := 3) (vs := [.slice A92 (([flow]).length) c92]) (xs' := flat Hpx.cells (((shiftL (hs ++ [(⟨0, 0, (⟨none, 0, []⟩ : Sg Int)⟩ : Hpx)]) k).set k (⟨ttl, a, (⟨none, 0, []⟩ : Sg Int)⟩ : Hpx)).set k (⟨(⟨ttl, a, (⟨none, 0, []⟩ : Sg Int)⟩ : Hpx).ttl, (⟨ttl, a, (⟨none, 0, []⟩ : Sg Int)⟩ : Hpx).addr, (⟨A92, c92, [flow]⟩ : Sg Int)⟩ : Hpx))) rfl rfl rfl rfl rfl rfl rfl prhsz48 pbdone_s (by rw [flat_len hp_cel]; show 0 + k * 3 + 2 + 1 ≤ _; omega) (flat_put hp_cel (q := 2) (y := (⟨(⟨ttl, a, (⟨none, 0, []⟩ : Sg Int)⟩ : Hpx).ttl, (⟨ttl, a, (⟨none, 0, []⟩ : Sg Int)⟩ : Hpx).addr, (⟨A92, c92, [flow]⟩ : Sg Int)⟩ : Hpx)) hx87 (by show 2 + 1 ≤ 3; decide) rfl) ?_
       try dsimp only [List.set_cons_zero, List.set_cons_succ]
       refine zET (zSG ?_)
       refine TL.rn 2 rfl ?_
       refine zET (zr ?_)
       have hE : ((shiftL (hs ++ [(⟨0, 0, (⟨none, 0, []⟩ : Sg Int)⟩ : Hpx)]) k).set k (⟨ttl, a, (⟨none, 0, []⟩ : Sg Int)⟩ : Hpx)).set k (⟨(⟨ttl, a, (⟨none, 0, []⟩ : Sg Int)⟩ : Hpx).ttl, (⟨ttl, a, (⟨none, 0, []⟩ : Sg Int)⟩ : Hpx).addr, (⟨A92, c92, [flow]⟩ : Sg Int)⟩ : Hpx) = hs.take k ++ (⟨(⟨ttl, a, (⟨none, 0, []⟩ : Sg Int)⟩ : Hpx).ttl, (⟨ttl, a, (⟨none, 0, []⟩ : Sg Int)⟩ : Hpx).addr, (⟨A92, c92, [flow]⟩ : Sg Int)⟩ : Hpx) :: hs.drop k := by rw [List.set_set, shiftL_at _ _ _ _ (by omega)]
       have hln : (hs.take k ++ (⟨(⟨ttl, a, (⟨none, 0, []⟩ : Sg Int)⟩ : Hpx).ttl, (⟨ttl, a, (⟨none, 0, []⟩ : Sg Int)⟩ : Hpx).addr, (⟨A92, c92, [flow]⟩ : Sg Int)⟩ : Hpx) :: hs.drop k).length = m + 1 := by rw [putA_len]; omega
       exact ret_tmp Tryz.results92 rfl (fun w1 hw => ⟨⟨(((some ⟨g_A68, 0, none⟩), c68), hs.take k ++ (⟨(⟨ttl, a, (⟨none, 0, []⟩ : Sg Int)⟩ : Hpx).ttl, (⟨ttl, a, (⟨none, 0, []⟩ : Sg Int)⟩ : Hpx).addr, (⟨A92, c92, [flow]⟩ : Sg Int)⟩ : Hpx) :: hs.drop k), gr_new hpk_len hg (q := k) (x := (⟨(⟨ttl, a, (⟨none, 0, []⟩ : Sg Int)⟩ : Hpx).ttl, (⟨ttl, a, (⟨none, 0, []⟩ : Sg Int)⟩ : Hpx).addr, (⟨A92, c92, [flow]⟩ : Sg Int)⟩ : Hpx)) rfl rfl hlt (ascK_behind (x := (⟨ttl, a, (⟨none, 0, []⟩ : Sg Int)⟩ : Hpx)) hpk_len hg.1 hx17 (hpk_lt.2 (by dsimp only; omega))), by dsimp only; rw [putA_len]; omega, by dsimp only; rw [putA_len]; omega, hA682⟩, by dsimp only; rw [hln], by dsimp only; rw [hln]; rw [hE] at hw; exact Pm.segPut (s := (⟨A92, c92, [flow]⟩ : Sg Int)) (P := [_]) (O := F) (hw.sel (.cons_cons _ (.cons _ (.cons _ (.cons_cons _ (List.Sublist.refl _)))))) (new_perm)⟩)
      ·refine TL.rn 4 rfl ?_
       refine TL.gu ?_
       refine TL.val rfl rfl rfl (gA (i := k) Tryz.underlying33 psmsz50 rfl rfl rfl rfl rfl (by omega)) ?_
       refine TL.ov (gF pcmfld50_1) ?_
       refine TL.gu ?_
       refine TL.val rfl rfl rfl (gives_load (v := .int .u32 x17.addr) rfl rfl pcmag30 (fun w1 hw => flat_row hp_cel hw (q := 0) rfl hx17 1 _ rfl)) ?_
       refine TL.rn 1 rfl ?_
       refine TL.gu ?_
       refine TL.sp bin_neq (fun q63 => ?_) (fun q63 => ?_)
       ·refine TL.pk ?_
        refine zET (zc (zSG ?_))
        refine TL.mv ?_
        refine TL.val rfl rfl rfl (gives_build (v := .agg #[.int .i64 0, .int .u32 0, .slice none 0 0]) rfl rfl (fun w => prhbld50_521  w)) ?_
        refine TL.prowS (e := 50) (size := 3) (cs := flat Hpx.cells [(⟨0, 0, (⟨none, 0, []⟩ : Sg Int)⟩ : Hpx)]) rfl rfl rfl rfl rfl (fun w => pbdbs33_1_48232 _ _ _ _ _ w) (by decide) rfl (fun g67 => ?_)
        refine TL.appendT (k := 1) rfl rfl rfl rfl Tryz.underlying33 pbdel33 rfl rfl rfl (fun w1 hw => pm_reads hw (k := 0) rfl) (flat_one hp_cel _) (by show _ * 40 ≤ _; omega) (m + 1) (rfl) (flat Hpx.cells (hs ++ [(⟨0, 0, (⟨none, 0, []⟩ : Sg Int)⟩ : Hpx)])) ((flat_app _ _).symm) (fun A68 c68 hA681 hA682 => ?_)
        refine TL.as_ ?_
        refine zET (zS ?_)
        have hn1 : (hs ++ [(⟨0, 0, (⟨none, 0, []⟩ : Sg Int)⟩ : Hpx)]).length = hs.length + 1 := by simp
        have hn2 : (shiftL (hs ++ [(⟨0, 0, (⟨none, 0, []⟩ : Sg Int)⟩ : Hpx)]) k).length = hs.length + 1 := by rw [shiftL_len _ _ (by omega), hn1]
        refine TC.fact (p := ∃ g, A68 = some ⟨g, 0, none⟩) (fun w1 hw => rowA hw (k := 1) rfl (by omega)) ?_
        rintro ⟨g_A68, rfl⟩
        refine TC.tail 7 (by kernel_rfl) (by kernel_rfl) (fun w hw => hw.drawn _) ?_
        refine TS.val rfl rfl rfl (gives_move rfl rfl) ?_
        refine TS.val rfl rfl rfl (gives_move rfl rfl) ?_
        refine TS.v (gD ((k + 1 : Nat) : Int)) ?_
        refine TS.val rfl rfl rfl (gives_sliceL (v := .slice (if c68 = k + 1 then some ⟨g_A68, 0, none⟩ else (some (⟨g_A68, 0, none⟩ : Addr)).map (·.add ((k + 1) * 3))) ((m + 1) - (k + 1)) (c68 - (k + 1))) rfl rfl rfl (fun w => cut_lo Tryz.underlying33 psmsz50 _ _ _ (k + 1) rfl (by omega) w)) ?_
        refine TS.val rfl rfl rfl (gives_move rfl rfl) ?_
        refine TS.val rfl rfl rfl (gives_move rfl rfl) ?_
        refine TS.val rfl rfl rfl (gives_tailF (q := k) rfl rfl rfl rfl Tryz.underlying33 psmsz50 (by omega) (by omega)) ?_
        refine TS.end_ ?_
        refine TL.shiftF hp_cel (kk := 1) (k := k) rfl rfl rfl rfl Tryz.underlying33 psmsz50 rfl rfl rfl (by omega) (by omega) (by omega) ?_
        try dsimp only [List.set_cons_zero, List.set_cons_succ]
        refine zET (zG ?_)
        refine TL.rn 4 rfl ?_
        refine TL.val rfl rfl rfl (gives_build (v := .agg #[.int .i64 ttl, .int .u32 a, .slice none 0 0]) rfl rfl (fun w => prhbld50_27248 _ _ w)) ?_
        have hi82 : k < (shiftL (hs ++ [(⟨0, 0, (⟨none, 0, []⟩ : Sg Int)⟩ : Hpx)]) k).length := by omega
        obtain ⟨x82, hx82⟩ := ex_at hi82
        refine TL.val rfl rfl rfl (gA (i := k) Tryz.underlying33 psmsz50 rfl rfl rfl rfl rfl (by omega)) ?_
        refine TL.rowset (k := 1) (vs := [.int .i64 ttl, .int .u32 a, .slice none 0 0]) (xs' := flat Hpx.cells ((shiftL (hs ++ [(⟨0, 0, (⟨none, 0, []⟩ : Sg Int)⟩ : Hpx)]) k).set k (⟨ttl, a, (⟨none, 0, []⟩ : Sg Int)⟩ : Hpx))) rfl rfl rfl rfl rfl rfl rfl psmsz50 prhone_i64u32s (by rw [flat_len hp_cel]; show 0 + k * 3 + 3 ≤ _; omega) (flat_put hp_cel (q := 0) (y := (⟨ttl, a, (⟨none, 0, []⟩ : Sg Int)⟩ : Hpx)) hx82 (by show 0 + 3 ≤ 3; decide) rfl) ?_
        try dsimp only [List.set_cons_zero, List.set_cons_succ]
        refine zET (zS ?_)
        have hn3 : ((shiftL (hs ++ [(⟨0, 0, (⟨none, 0, []⟩ : Sg Int)⟩ : Hpx)]) k).set k (⟨ttl, a, (⟨none, 0, []⟩ : Sg Int)⟩ : Hpx)).length = hs.length + 1 := by rw [List.length_set, hn2]
        have hx87 : ((shiftL (hs ++ [(⟨0, 0, (⟨none, 0, []⟩ : Sg Int)⟩ : Hpx)]) k).set k (⟨ttl, a, (⟨none, 0, []⟩ : Sg Int)⟩ : Hpx))[k]? = some (⟨ttl, a, (⟨none, 0, []⟩ : Sg Int)⟩ : Hpx) := List.getElem?_set_self (by omega)
        refine zG ?_
        refine TL.rn 4 rfl ?_
        refine TL.val rfl rfl rfl (gA (i := k) Tryz.underlying33 psmsz50 rfl rfl rfl rfl rfl (by omega)) ?_
        refine TL.v (gF psmfld50_2) ?_
        refine TL.val rfl rfl rfl (gives_load (v := .slice none 0 0) rfl rfl psmag48 (fun w1 hw => flat_row hp_cel hw (q := 1) rfl hx87 2 _ rfl)) ?_
        refine TL.mv ?_
        refine TL.prowS (e := 3) (size := 1) (cs := flat (ic .i64) [flow]) rfl rfl rfl rfl rfl (fun w => pbdbs48_1_5377 _ w) (by decide) rfl (fun g91 => ?_)
        refine TL.nilrow 3 1 ?_
        refine TL.appendT (k := 0) rfl rfl rfl rfl Tryz.underlying48 pbdel48 rfl rfl rfl (fun w1 hw => pm_reads hw (k := 1) rfl) (flat_one (ic_cel .i64) _) (by show _ * 8 ≤ _; omega) (([flow]).length) (by simp) (flat (ic .i64) ([flow])) (rfl) (fun A92 c92 hA921 hA922 => ?_)
        refine TL.val rfl rfl rfl (gA (i := k) Tryz.underlying33 psmsz50 rfl rfl rfl rfl rfl (by omega)) ?_
        refine TL.v (gF psmfld50_2) ?_
        refine TL.rowset (k := 3) (vs := [.slice A92 (([flow]).length) c92]) (xs' := flat Hpx.cells (((shiftL (hs ++ [(⟨0, 0, (⟨none, 0, []⟩ : Sg Int)⟩ : Hpx)]) k).set k (⟨ttl, a, (⟨none, 0, []⟩ : Sg Int)⟩ : Hpx)).set k (⟨(⟨ttl, a, (⟨none, 0, []⟩ : Sg Int)⟩ : Hpx).ttl, (⟨ttl, a, (⟨none, 0, []⟩ : Sg Int)⟩ : Hpx).addr, (⟨A92, c92, [flow]⟩ : Sg Int)⟩ : Hpx))) rfl rfl rfl rfl rfl rfl rfl prhsz48 pbdone_s (by rw [flat_len hp_cel]; show 0 + k * 3 + 2 + 1 ≤ _; omega) (flat_put hp_cel (q := 2) (y := (⟨(⟨ttl, a, (⟨none, 0, []⟩ : Sg Int)⟩ : Hpx).ttl, (⟨ttl, a, (⟨none, 0, []⟩ : Sg Int)⟩ : Hpx).addr, (⟨A92, c92, [flow]⟩ : Sg Int)⟩ : Hpx)) hx87 (by show 2 + 1 ≤ 3; decide) rfl) ?_
        try dsimp only [List.set_cons_zero, List.set_cons_succ]
        refine zET (zSG ?_)
        refine TL.rn 2 rfl ?_
        refine zET (zr ?_)
        have hE : ((shiftL (hs ++ [(⟨0, 0, (⟨none, 0, []⟩ : Sg Int)⟩ : Hpx)]) k).set k (⟨ttl, a, (⟨none, 0, []⟩ : Sg Int)⟩ : Hpx)).set k (⟨(⟨ttl, a, (⟨none, 0, []⟩ : Sg Int)⟩ : Hpx).ttl, (⟨ttl, a, (⟨none, 0, []⟩ : Sg Int)⟩ : Hpx).addr, (⟨A92, c92, [flow]⟩ : Sg Int)⟩ : Hpx) = hs.take k ++ (⟨(⟨ttl, a, (⟨none, 0, []⟩ : Sg Int)⟩ : Hpx).ttl, (⟨ttl, a, (⟨none, 0, []⟩ : Sg Int)⟩ : Hpx).addr, (⟨A92, c92, [flow]⟩ : Sg Int)⟩ : Hpx) :: hs.drop k := by rw [List.set_set, shiftL_at _ _ _ _ (by omega)]
        have hln : (hs.take k ++ (⟨(⟨ttl, a, (⟨none, 0, []⟩ : Sg Int)⟩ : Hpx).ttl, (⟨ttl, a, (⟨none, 0, []⟩ : Sg Int)⟩ : Hpx).addr, (⟨A92, c92, [flow]⟩ : Sg Int)⟩ : Hpx) :: hs.drop k).length = m + 1 := by rw [putA_len]; omega
        exact ret_tmp Tryz.results92 rfl (fun w1 hw => ⟨⟨(((some ⟨g_A68, 0, none⟩), c68), hs.take k ++ (⟨(⟨ttl, a, (⟨none, 0, []⟩ : Sg Int)⟩ : Hpx).ttl, (⟨ttl, a, (⟨none, 0, []⟩ : Sg Int)⟩ : Hpx).addr, (⟨A92, c92, [flow]⟩ : Sg Int)⟩ : Hpx) :: hs.drop k), gr_new hpk_len hg (q := k) (x := (⟨(⟨ttl, a, (⟨none, 0, []⟩ : Sg Int)⟩ : Hpx).ttl, (⟨ttl, a, (⟨none, 0, []⟩ : Sg Int)⟩ : Hpx).addr, (⟨A92, c92, [flow]⟩ : Sg Int)⟩ : Hpx)) rfl rfl hlt (ascK_behind (x := (⟨ttl, a, (⟨none, 0, []⟩ : Sg Int)⟩ : Hpx)) hpk_len hg.1 hx17 (hpk_lt.2 (by dsimp only; omega))), by dsimp only; rw [putA_len]; omega, by dsimp only; rw [putA_len]; omega, hA682⟩, by dsimp only; rw [hln], by dsimp only; rw [hln]; rw [hE] at hw; exact Pm.segPut (s := (⟨A92, c92, [flow]⟩ : Sg Int)) (P := [_]) (O := F) (hw.sel (.cons_cons _ (.cons _ (.cons _ (.cons_cons _ (List.Sublist.refl _)))))) (new_perm)⟩)
       ·refine TL.pk ?_
        refine zET (zd (zk (zT (zS ?_))))
        have hx87 := hx17
        have hflx := hfl x17 (List.mem_of_getElem? hx17)
        refine TC.mem (fun w1 hw => Pm.segOutO (P := [.row (.slice (some ⟨g_A0, 0, none⟩) m c0) 50 3 m (flat Hpx.cells hs)]) (O := F) (s := x17.fl) hw (k := k) (by rw [List.getElem?_map, hx17]; rfl)) ?_
        refine zG ?_
        refine TL.rn 4 rfl ?_
        refine TL.val rfl rfl rfl (gA (i := k) Tryz.underlying33 psmsz50 rfl rfl rfl rfl rfl (by omega)) ?_
        refine TL.v (gF psmfld50_2) ?_
        refine TL.val rfl rfl rfl (gives_load (v := .slice x17.fl.A x17.fl.l.length x17.fl.c) rfl rfl psmag48 (fun w1 hw => flat_row hp_cel hw (q := 1) rfl hx87 2 _ rfl)) ?_
        refine TL.mv ?_
        refine TL.prowS (e := 3) (size := 1) (cs := flat (ic .i64) [flow]) rfl rfl rfl rfl rfl (fun w => pbdbs48_1_5377 _ w) (by decide) rfl (fun g91 => ?_)
        refine TL.appendT (k := 1) rfl rfl rfl rfl Tryz.underlying48 pbdel48 rfl rfl rfl (fun w1 hw => pm_reads hw (k := 0) rfl) (flat_one (ic_cel .i64) _) (by show _ * 8 ≤ _; omega) ((x17.fl.l ++ [flow]).length) (by rw [List.length_append]; rfl) (flat (ic .i64) (x17.fl.l ++ [flow])) ((flat_app _ _).symm) (fun A92 c92 hA921 hA922 => ?_)
        refine TL.val rfl rfl rfl (gA (i := k) Tryz.underlying33 psmsz50 rfl rfl rfl rfl rfl (by omega)) ?_
        refine TL.v (gF psmfld50_2) ?_
        refine TL.rowset (k := 2) (vs := [.slice A92 ((x17.fl.l ++ [flow]).length) c92]) (xs' := flat Hpx.cells (hs.set k (⟨x17.ttl, x17.addr, (⟨A92, c92, x17.fl.l ++ [flow]⟩ : Sg Int)⟩ : Hpx))) rfl rfl rfl rfl rfl rfl rfl prhsz48 pbdone_s (by rw [flat_len hp_cel]; show 0 + k * 3 + 2 + 1 ≤ _; omega) (flat_put hp_cel (q := 2) (y := (⟨x17.ttl, x17.addr, (⟨A92, c92, x17.fl.l ++ [flow]⟩ : Sg Int)⟩ : Hpx)) hx87 (by show 2 + 1 ≤ 3; decide) rfl) ?_
        try dsimp only [List.set_cons_zero, List.set_cons_succ]
        refine zET (zSG ?_)
        refine TL.rn 2 rfl ?_
        refine zET (zr ?_)
        exact ret_tmp Tryz.results92 rfl (fun w1 hw => ⟨⟨(((some ⟨g_A0, 0, none⟩), c0), hs.set k (⟨x17.ttl, x17.addr, (⟨A92, c92, x17.fl.l ++ [flow]⟩ : Sg Int)⟩ : Hpx)), gr_old hpk_len hg hx87 (y := (⟨x17.ttl, x17.addr, (⟨A92, c92, x17.fl.l ++ [flow]⟩ : Sg Int)⟩ : Hpx)) rfl (show _ = [ttl, a] from hop_key (by omega) (by omega)) rfl hlf, by dsimp only; rw [List.length_set]; omega, by dsimp only; rw [List.length_set]; omega, hcm⟩, by dsimp only; rw [List.length_set, hm], by dsimp only; rw [List.length_set, hm]; exact Pm.segPut (s := (⟨A92, c92, x17.fl.l ++ [flow]⟩ : Sg Int)) (P := [_]) (O := F) (hw.sel (.cons _ (.cons_cons _ (.cons_cons _ (List.Sublist.refl _))))) (old_perm hx87)⟩)
   ·refine TL.rn 11 rfl ?_
    refine zET (zd (zx (zX (zX (zM (zT (zS (zSG ?_))))))))
    refine TL.rn 2 rfl ?_
    refine TL.v (gN Tryz.underlying33) ?_
    refine TL.sp bin_eql (fun q46 => ?_) (fun q46 => ?_)
    ·exfalso; omega
    ·refine TL.rn 3 rfl ?_
     refine TL.gu ?_
     refine TL.val rfl rfl rfl (gA (i := k) Tryz.underlying33 psmsz50 rfl rfl rfl rfl rfl (by omega)) ?_
     refine TL.ov (gF pcmfld50_0) ?_
     refine TL.gu ?_
     refine TL.val rfl rfl rfl (gives_load (v := .int .i64 x17.ttl) rfl rfl pcmag3 (fun w1 hw => flat_row hp_cel hw (q := 0) rfl hx17 0 _ rfl)) ?_
     refine TL.rn 1 rfl ?_
     refine TL.gu ?_
     refine TL.sp bin_neq (fun q54 => ?_) (fun q54 => ?_)
     ·refine TL.rn 10 rfl ?_
      refine zET (zc (zSG ?_))
      refine TL.mv ?_
      refine TL.val rfl rfl rfl (gives_build (v := .agg #[.int .i64 0, .int .u32 0, .slice none 0 0]) rfl rfl (fun w => prhbld50_521  w)) ?_
      refine TL.prowS (e := 50) (size := 3) (cs := flat Hpx.cells [(⟨0, 0, (⟨none, 0, []⟩ : Sg Int)⟩ : Hpx)]) rfl rfl rfl rfl rfl (fun w => pbdbs33_1_48232 _ _ _ _ _ w) (by decide) rfl (fun g67 => ?_)
      refine TL.appendT (k := 1) rfl rfl rfl rfl Tryz.underlying33 pbdel33 rfl rfl rfl (fun w1 hw => pm_reads hw (k := 0) rfl) (flat_one hp_cel _) (by show _ * 40 ≤ _; omega) (m + 1) (rfl) (flat Hpx.cells (hs ++ [(⟨0, 0, (⟨none, 0, []⟩ : Sg Int)⟩ : Hpx)])) ((flat_app _ _).symm) (fun A68 c68 hA681 hA682 => ?_)
      refine TL.as_ ?_
      refine zET (zS ?_)
      have hn1 : (hs ++ [(⟨0, 0, (⟨none, 0, []⟩ : Sg Int)⟩ : Hpx)]).length = hs.length + 1 := by simp
      have hn2 : (shiftL (hs ++ [(⟨0, 0, (⟨none, 0, []⟩ : Sg Int)⟩ : Hpx)]) k).length = hs.length + 1 := by rw [shiftL_len _ _ (by omega), hn1]
      refine TC.fact (p := ∃ g, A68 = some ⟨g, 0, none⟩) (fun w1 hw => rowA hw (k := 1) rfl (by omega)) ?_
      rintro ⟨g_A68, rfl⟩
      refine TC.tail 7 (by kernel_rfl) (by kernel_rfl) (fun w hw => hw.drawn _) ?_
      refine TS.val rfl rfl rfl (gives_move rfl rfl) ?_
      refine TS.val rfl rfl rfl (gives_move rfl rfl) ?_
      refine TS.v (gD ((k + 1 : Nat) : Int)) ?_
      refine TS.val rfl rfl rfl (gives_sliceL (v := .slice (if c68 = k + 1 then some ⟨g_A68, 0, none⟩ else (some (⟨g_A68, 0, none⟩ : Addr)).map (·.add ((k + 1) * 3))) ((m + 1) - (k + 1)) (c68 - (k + 1))) rfl rfl rfl (fun w => cut_lo Tryz.underlying33 psmsz50 _ _ _ (k + 1) rfl (by omega) w)) ?_
      refine TS.val rfl rfl rfl (gives_move rfl rfl) ?_
      refine TS.val rfl rfl rfl (gives_move rfl rfl) ?_
      refine TS.val rfl rfl rfl (gives_tailF (q := k) rfl rfl rfl rfl Tryz.underlying33 psmsz50 (by omega) (by omega)) ?_
      refine TS.end_ ?_
      refine TL.shiftF hp_cel (kk := 1) (k := k) rfl rfl rfl rfl Tryz.underlying33 psmsz50 rfl rfl rfl (by omega) (by omega) (by omega) ?_
      try dsimp only [List.set_cons_zero, List.set_cons_succ]
      refine zET (zG ?_)
      refine TL.rn 4 rfl ?_
      refine TL.val rfl rfl rfl (gives_build (v := .agg #[.int .i64 ttl, .int .u32 a, .slice none 0 0]) rfl rfl (fun w => prhbld50_27248 _ _ w)) ?_
      have hi82 : k < (shiftL (hs ++ [(⟨0, 0, (⟨none, 0, []⟩ : Sg Int)⟩ : Hpx)]) k).length := by omega
      obtain ⟨x82, hx82⟩ := ex_at hi82
      refine TL.val rfl rfl rfl (gA (i := k) Tryz.underlying33 psmsz50 rfl rfl rfl rfl rfl (by omega)) ?_
      refine TL.rowset (k := 1) (vs := [.int .i64 ttl, .int .u32 a, .slice none 0 0]) (xs' := flat Hpx.cells ((shiftL (hs ++ [(⟨0, 0, (⟨none, 0, []⟩ : Sg Int)⟩ : Hpx)]) k).set k (⟨ttl, a, (⟨none, 0, []⟩ : Sg Int)⟩ : Hpx))) rfl rfl rfl rfl rfl rfl rfl psmsz50 prhone_i64u32s (by rw [flat_len hp_cel]; show 0 + k * 3 + 3 ≤ _; omega) (flat_put hp_cel (q := 0) (y := (⟨ttl, a, (⟨none, 0, []⟩ : Sg Int)⟩ : Hpx)) hx82 (by show 0 + 3 ≤ 3; decide) rfl) ?_
      try dsimp only [List.set_cons_zero, List.set_cons_succ]
      refine zET (zS ?_)
      have hn3 : ((shiftL (hs ++ [(⟨0, 0, (⟨none, 0, []⟩ : Sg Int)⟩ : Hpx)]) k).set k (⟨ttl, a, (⟨none, 0, []⟩ : Sg Int)⟩ : Hpx)).length = hs.length + 1 := by rw [List.length_set, hn2]
      have hx87 : ((shiftL (hs ++ [(⟨0, 0, (⟨none, 0, []⟩ : Sg Int)⟩ : Hpx)]) k).set k (⟨ttl, a, (⟨none, 0, []⟩ : Sg Int)⟩ : Hpx))[k]? = some (⟨ttl, a, (⟨none, 0, []⟩ : Sg Int)⟩ : Hpx) := List.getElem?_set_self (by omega)
      refine zG ?_
      refine TL.rn 4 rfl ?_
      refine TL.val rfl rfl rfl (gA (i := k) Tryz.underlying33 psmsz50 rfl rfl rfl rfl rfl (by omega)) ?_
      refine TL.v (gF psmfld50_2) ?_
      refine TL.val rfl rfl rfl (gives_load (v := .slice none 0 0) rfl rfl psmag48 (fun w1 hw => flat_row hp_cel hw (q := 1) rfl hx87 2 _ rfl)) ?_
      refine TL.mv ?_
      refine TL.prowS (e := 3) (size := 1) (cs := flat (ic .i64) [flow]) rfl rfl rfl rfl rfl (fun w => pbdbs48_1_5377 _ w) (by decide) rfl (fun g91 => ?_)
      refine TL.nilrow 3 1 ?_
      refine TL.appendT (k := 0) rfl rfl rfl rfl Tryz.underlying48 pbdel48 rfl rfl rfl (fun w1 hw => pm_reads hw (k := 1) rfl) (flat_one (ic_cel .i64) _) (by show _ * 8 ≤ _; omega) (([flow]).length) (by simp) (flat (ic .i64) ([flow])) (rfl) (fun A92 c92 hA921 hA922 => ?_)
      refine TL.val rfl rfl rfl (gA (i := k) Tryz.underlying33 psmsz50 rfl rfl rfl rfl rfl (by omega)) ?_
      refine TL.v (gF psmfld50_2) ?_
      refine TL.rowset (k := 3) (vs := [.slice A92 (([flow]).length) c92]) (xs' := flat Hpx.cells (((shiftL (hs ++ [(⟨0, 0, (⟨none, 0, []⟩ : Sg Int)⟩ : Hpx)]) k).set k (⟨ttl, a, (⟨none, 0, []⟩ : Sg Int)⟩ : Hpx)).set k (⟨(⟨ttl, a, (⟨none, 0, []⟩ : Sg Int)⟩ : Hpx).ttl, (⟨ttl, a, (⟨none, 0, []⟩ : Sg Int)⟩ : Hpx).addr, (⟨A92, c92, [flow]⟩ : Sg Int)⟩ : Hpx))) rfl rfl rfl rfl rfl rfl rfl prhsz48 pbdone_s (by rw [flat_len hp_cel]; show 0 + k * 3 + 2 + 1 ≤ _; omega) (flat_put hp_cel (q := 2) (y := (⟨(⟨ttl, a, (⟨none, 0, []⟩ : Sg Int)⟩ : Hpx).ttl, (⟨ttl, a, (⟨none, 0, []⟩ : Sg Int)⟩ : Hpx).addr, (⟨A92, c92, [flow]⟩ : Sg Int)⟩ : Hpx)) hx87 (by show 2 + 1 ≤ 3; decide) rfl) ?_
      try dsimp only [List.set_cons_zero, List.set_cons_succ]
      refine zET (zSG ?_)
      refine TL.rn 2 rfl ?_
      refine zET (zr ?_)
      have hE : ((shiftL (hs ++ [(⟨0, 0, (⟨none, 0, []⟩ : Sg Int)⟩ : Hpx)]) k).set k (⟨ttl, a, (⟨none, 0, []⟩ : Sg Int)⟩ : Hpx)).set k (⟨(⟨ttl, a, (⟨none, 0, []⟩ : Sg Int)⟩ : Hpx).ttl, (⟨ttl, a, (⟨none, 0, []⟩ : Sg Int)⟩ : Hpx).addr, (⟨A92, c92, [flow]⟩ : Sg Int)⟩ : Hpx) = hs.take k ++ (⟨(⟨ttl, a, (⟨none, 0, []⟩ : Sg Int)⟩ : Hpx).ttl, (⟨ttl, a, (⟨none, 0, []⟩ : Sg Int)⟩ : Hpx).addr, (⟨A92, c92, [flow]⟩ : Sg Int)⟩ : Hpx) :: hs.drop k := by rw [List.set_set, shiftL_at _ _ _ _ (by omega)]
      have hln : (hs.take k ++ (⟨(⟨ttl, a, (⟨none, 0, []⟩ : Sg Int)⟩ : Hpx).ttl, (⟨ttl, a, (⟨none, 0, []⟩ : Sg Int)⟩ : Hpx).addr, (⟨A92, c92, [flow]⟩ : Sg Int)⟩ : Hpx) :: hs.drop k).length = m + 1 := by rw [putA_len]; omega
      exact ret_tmp Tryz.results92 rfl (fun w1 hw => ⟨⟨(((some ⟨g_A68, 0, none⟩), c68), hs.take k ++ (⟨(⟨ttl, a, (⟨none, 0, []⟩ : Sg Int)⟩ : Hpx).ttl, (⟨ttl, a, (⟨none, 0, []⟩ : Sg Int)⟩ : Hpx).addr, (⟨A92, c92, [flow]⟩ : Sg Int)⟩ : Hpx) :: hs.drop k), gr_new hpk_len hg (q := k) (x := (⟨(⟨ttl, a, (⟨none, 0, []⟩ : Sg Int)⟩ : Hpx).ttl, (⟨ttl, a, (⟨none, 0, []⟩ : Sg Int)⟩ : Hpx).addr, (⟨A92, c92, [flow]⟩ : Sg Int)⟩ : Hpx)) rfl rfl hlt (ascK_behind (x := (⟨ttl, a, (⟨none, 0, []⟩ : Sg Int)⟩ : Hpx)) hpk_len hg.1 hx17 (hpk_lt.2 (by dsimp only; omega))), by dsimp only; rw [putA_len]; omega, by dsimp only; rw [putA_len]; omega, hA682⟩, by dsimp only; rw [hln], by dsimp only; rw [hln]; rw [hE] at hw; exact Pm.segPut (s := (⟨A92, c92, [flow]⟩ : Sg Int)) (P := [_]) (O := F) (hw.sel (.cons_cons _ (.cons _ (.cons _ (.cons_cons _ (List.Sublist.refl _)))))) (new_perm)⟩)
     ·refine TL.rn 4 rfl ?_
      refine TL.gu ?_
      refine TL.val rfl rfl rfl (gA (i := k) Tryz.underlying33 psmsz50 rfl rfl rfl rfl rfl (by omega)) ?_
      refine TL.ov (gF pcmfld50_1) ?_
      refine TL.gu ?_
      refine TL.val rfl rfl rfl (gives_load (v := .int .u32 x17.addr) rfl rfl pcmag30 (fun w1 hw => flat_row hp_cel hw (q := 0) rfl hx17 1 _ rfl)) ?_
      refine TL.rn 1 rfl ?_
      refine TL.gu ?_
      refine TL.sp bin_neq (fun q63 => ?_) (fun q63 => ?_)
      ·refine TL.pk ?_
       refine zET (zc (zSG ?_))
       refine TL.mv ?_
       refine TL.val rfl rfl rfl (gives_build (v := .agg #[.int .i64 0, .int .u32 0, .slice none 0 0]) rfl rfl (fun w => prhbld50_521  w)) ?_
       refine TL.prowS (e := 50) (size := 3) (cs := flat Hpx.cells [(⟨0, 0, (⟨none, 0, []⟩ : Sg Int)⟩ : Hpx)]) rfl rfl rfl rfl rfl (fun w => pbdbs33_1_48232 _ _ _ _ _ w) (by decide) rfl (fun g67 => ?_)
       refine TL.appendT (k := 1) rfl rfl rfl rfl Tryz.underlying33 pbdel33 rfl rfl rfl (fun w1 hw => pm_reads hw (k := 0) rfl) (flat_one hp_cel _) (by show _ * 40 ≤ _; omega) (m + 1) (rfl) (flat Hpx.cells (hs ++ [(⟨0, 0, (⟨none, 0, []⟩ : Sg Int)⟩ : Hpx)])) ((flat_app _ _).symm) (fun A68 c68 hA681 hA682 => ?_)
       refine TL.as_ ?_
       refine zET (zS ?_)
       have hn1 : (hs ++ [(⟨0, 0, (⟨none, 0, []⟩ : Sg Int)⟩ : Hpx)]).length = hs.length + 1 := by simp
       have hn2 : (shiftL (hs ++ [(⟨0, 0, (⟨none, 0, []⟩ : Sg Int)⟩ : Hpx)]) k).length = hs.length + 1 := by rw [shiftL_len _ _ (by omega), hn1]
       refine TC.fact (p := ∃ g, A68 = some ⟨g, 0, none⟩) (fun w1 hw => rowA hw (k := 1) rfl (by omega)) ?_
       rintro ⟨g_A68, rfl⟩
       refine TC.tail 7 (by kernel_rfl) (by kernel_rfl) (fun w hw => hw.drawn _) ?_
       refine TS.val rfl rfl rfl (gives_move rfl rfl) ?_
       refine TS.val rfl rfl rfl (gives_move rfl rfl) ?_
       refine TS.v (gD ((k + 1 : Nat) : Int)) ?_
       refine TS.val rfl rfl rfl (gives_sliceL (v := .slice (if c68 = k + 1 then some ⟨g_A68, 0, none⟩ else (some (⟨g_A68, 0, none⟩ : Addr)).map (·.add ((k + 1) * 3))) ((m + 1) - (k + 1)) (c68 - (k + 1))) rfl rfl rfl (fun w => cut_lo Tryz.underlying33 psmsz50 _ _ _ (k + 1) rfl (by omega) w)) ?_
       refine TS.val rfl rfl rfl (gives_move rfl rfl) ?_
       refine TS.val rfl rfl rfl (gives_move rfl rfl) ?_
       refine TS.val rfl rfl rfl (gives_tailF (q := k) rfl rfl rfl rfl Tryz.underlying33 psmsz50 (by omega) (by omega)) ?_
       refine TS.end_ ?_
       refine TL.shiftF hp_cel (kk := 1) (k := k) rfl rfl rfl rfl Tryz.underlying33 psmsz50 rfl rfl rfl (by omega) (by omega) (by omega) ?_
       try dsimp only [List.set_cons_zero, List.set_cons_succ]
       refine zET (zG ?_)
       refine TL.rn 4 rfl ?_
       refine TL.val rfl rfl rfl (gives_build (v := .agg #[.int .i64 ttl, .int .u32 a, .slice none 0 0]) rfl rfl (fun w => prhbld50_27248 _ _ w)) ?_
       have hi82 : k < (shiftL (hs ++ [(⟨0, 0, (⟨none, 0, []⟩ : Sg Int)⟩ : Hpx)]) k).length := by omega
       obtain ⟨x82, hx82⟩ := ex_at hi82
       refine TL.val rfl rfl rfl (gA (i := k) Tryz.underlying33 psmsz50 rfl rfl rfl rfl rfl (by omega)) ?_
       refine TL.rowset (k := 1) (vs := [.int .i64 ttl, .int .u32 a, .slice none 0 0]) (xs' := flat Hpx.cells ((shiftL (hs ++ [(⟨0, 0, (⟨none, 0, []⟩ : Sg Int)⟩ : Hpx)]) k).set k (⟨ttl, a, (⟨none, 0, []⟩ : Sg Int)⟩ : Hpx))) rfl rfl rfl rfl rfl rfl rfl psmsz50 prhone_i64u32s (by rw [flat_len hp_cel]; show 0 + k * 3 + 3 ≤ _; omega) (flat_put hp_cel (q := 0) (y := (⟨ttl, a, (⟨none, 0, []⟩ : Sg Int)⟩ : Hpx)) hx82 (by show 0 + 3 ≤ 3; decide) rfl) ?_
       try dsimp only [List.set_cons_zero, List.set_cons_succ]
       refine zET (zS ?_)
       have hn3 : ((shiftL (hs ++ [(⟨0, 0, (⟨none, 0, []⟩ : Sg Int)⟩ : Hpx)]) k).set k (⟨ttl, a, (⟨none, 0, []⟩ : Sg Int)⟩ : Hpx)).length = hs.length + 1 := by rw [List.length_set, hn2]
       have hx87 : ((shiftL (hs ++ [(⟨0, 0, (⟨none, 0, []⟩ : Sg Int)⟩ : Hpx)]) k).set k (⟨ttl, a, (⟨none, 0, []⟩ : Sg Int)⟩ : Hpx))[k]? = some (⟨ttl, a, (⟨none, 0, []⟩ : Sg Int)⟩ : Hpx) := List.getElem?_set_self (by omega)
       refine zG ?_
       refine TL.rn 4 rfl ?_
       refine TL.val rfl rfl rfl (gA (i := k) Tryz.underlying33 psmsz50 rfl rfl rfl rfl rfl (by omega)) ?_
       refine TL.v (gF psmfld50_2) ?_
       refine TL.val rfl rfl rfl (gives_load (v := .slice none 0 0) rfl rfl psmag48 (fun w1 hw => flat_row hp_cel hw (q := 1) rfl hx87 2 _ rfl)) ?_
       refine TL.mv ?_
       refine TL.prowS (e := 3) (size := 1) (cs := flat (ic .i64) [flow]) rfl rfl rfl rfl rfl (fun w => pbdbs48_1_5377 _ w) (by decide) rfl (fun g91 => ?_)
       refine TL.nilrow 3 1 ?_
       refine TL.appendT (k := 0) rfl rfl rfl rfl Tryz.underlying48 pbdel48 rfl rfl rfl (fun w1 hw => pm_reads hw (k := 1) rfl) (flat_one (ic_cel .i64) _) (by show _ * 8 ≤ _; omega) (([flow]).length) (by simp) (flat (ic .i64) ([flow])) (rfl) (fun A92 c92 hA921 hA922 => ?_)
       refine TL.val rfl rfl rfl (gA (i := k) Tryz.underlying33 psmsz50 rfl rfl rfl rfl rfl (by omega)) ?_
       refine TL.v (gF psmfld50_2) ?_
       refine TL.rowset (k := 3) (vs := [.slice A92 (([flow]).length) c92]) (xs' := flat Hpx.cells (((shiftL (hs ++ [(⟨0, 0, (⟨none, 0, []⟩ : Sg Int)⟩ : Hpx)]) k).set k (⟨ttl, a, (⟨none, 0, []⟩ : Sg Int)⟩ : Hpx)).set k (⟨(⟨ttl, a, (⟨none, 0, []⟩ : Sg Int)⟩ : Hpx).ttl, (⟨ttl, a, (⟨none, 0, []⟩ : Sg Int)⟩ : Hpx).addr, (⟨A92, c92, [flow]⟩ : Sg Int)⟩ : Hpx))) rfl rfl rfl rfl rfl rfl rfl prhsz48 pbdone_s (by rw [flat_len hp_cel]; show 0 + k * 3 + 2 + 1 ≤ _; omega) (flat_put hp_cel (q := 2) (y := (⟨(⟨ttl, a, (⟨none, 0, []⟩ : Sg Int)⟩ : Hpx).ttl, (⟨ttl, a, (⟨none, 0, []⟩ : Sg Int)⟩ : Hpx).addr, (⟨A92, c92, [flow]⟩ : Sg Int)⟩ : Hpx)) hx87 (by show 2 + 1 ≤ 3; decide) rfl) ?_
       try dsimp only [List.set_cons_zero, List.set_cons_succ]
       refine zET (zSG ?_)
       refine TL.rn 2 rfl ?_
       refine zET (zr ?_)
       have hE : ((shiftL (hs ++ [(⟨0, 0, (⟨none, 0, []⟩ : Sg Int)⟩ : Hpx)]) k).set k (⟨ttl, a, (⟨none, 0, []⟩ : Sg Int)⟩ : Hpx)).set k (⟨(⟨ttl, a, (⟨none, 0, []⟩ : Sg Int)⟩ : Hpx).ttl, (⟨ttl, a, (⟨none, 0, []⟩ : Sg Int)⟩ : Hpx).addr, (⟨A92, c92, [flow]⟩ : Sg Int)⟩ : Hpx) = hs.take k ++ (⟨(⟨ttl, a, (⟨none, 0, []⟩ : Sg Int)⟩ : Hpx).ttl, (⟨ttl, a, (⟨none, 0, []⟩ : Sg Int)⟩ : Hpx).addr, (⟨A92, c92, [flow]⟩ : Sg Int)⟩ : Hpx) :: hs.drop k := by rw [List.set_set, shiftL_at _ _ _ _ (by omega)]
       have hln : (hs.take k ++ (⟨(⟨ttl, a, (⟨none, 0, []⟩ : Sg Int)⟩ : Hpx).ttl, (⟨ttl, a, (⟨none, 0, []⟩ : Sg Int)⟩ : Hpx).addr, (⟨A92, c92, [flow]⟩ : Sg Int)⟩ : Hpx) :: hs.drop k).length = m + 1 := by rw [putA_len]; omega
       exact ret_tmp Tryz.results92 rfl (fun w1 hw => ⟨⟨(((some ⟨g_A68, 0, none⟩), c68), hs.take k ++ (⟨(⟨ttl, a, (⟨none, 0, []⟩ : Sg Int)⟩ : Hpx).ttl, (⟨ttl, a, (⟨none, 0, []⟩ : Sg Int)⟩ : Hpx).addr, (⟨A92, c92, [flow]⟩ : Sg Int)⟩ : Hpx) :: hs.drop k), gr_new hpk_len hg (q := k) (x := (⟨(⟨ttl, a, (⟨none, 0, []⟩ : Sg Int)⟩ : Hpx).ttl, (⟨ttl, a, (⟨none, 0, []⟩ : Sg Int)⟩ : Hpx).addr, (⟨A92, c92, [flow]⟩ : Sg Int)⟩ : Hpx)) rfl rfl hlt (ascK_behind (x := (⟨ttl, a, (⟨none, 0, []⟩ : Sg Int)⟩ : Hpx)) hpk_len hg.1 hx17 (hpk_lt.2 (by dsimp only; omega))), by dsimp only; rw [putA_len]; omega, by dsimp only; rw [putA_len]; omega, hA682⟩, by dsimp only; rw [hln], by dsimp only; rw [hln]; rw [hE] at hw; exact Pm.segPut (s := (⟨A92, c92, [flow]⟩ : Sg Int)) (P := [_]) (O := F) (hw.sel (.cons_cons _ (.cons _ (.cons _ (.cons_cons _ (List.Sublist.refl _)))))) (new_perm)⟩)
      ·refine TL.pk ?_
       refine zET (zd (zk (zT (zS ?_))))
       have hx87 := hx17
       have hflx := hfl x17 (List.mem_of_getElem? hx17)
       refine TC.mem (fun w1 hw => Pm.segOutO (P := [.row (.slice (some ⟨g_A0, 0, none⟩) m c0) 50 3 m (flat Hpx.cells hs)]) (O := F) (s := x17.fl) hw (k := k) (by rw [List.getElem?_map, hx17]; rfl)) ?_
       refine zG ?_
       refine TL.rn 4 rfl ?_
       refine TL.val rfl rfl rfl (gA (i := k) Tryz.underlying33 psmsz50 rfl rfl rfl rfl rfl (by omega)) ?_
       refine TL.v (gF psmfld50_2) ?_
       refine TL.val rfl rfl rfl (gives_load (v := .slice x17.fl.A x17.fl.l.length x17.fl.c) rfl rfl psmag48 (fun w1 hw => flat_row hp_cel hw (q := 1) rfl hx87 2 _ rfl)) ?_
       refine TL.mv ?_
       refine TL.prowS (e := 3) (size := 1) (cs := flat (ic .i64) [flow]) rfl rfl rfl rfl rfl (fun w => pbdbs48_1_5377 _ w) (by decide) rfl (fun g91 => ?_)
       refine TL.appendT (k := 1) rfl rfl rfl rfl Tryz.underlying48 pbdel48 rfl rfl rfl (fun w1 hw => pm_reads hw (k := 0) rfl) (flat_one (ic_cel .i64) _) (by show _ * 8 ≤ _; omega) ((x17.fl.l ++ [flow]).length) (by rw [List.length_append]; rfl) (flat (ic .i64) (x17.fl.l ++ [flow])) ((flat_app _ _).symm) (fun A92 c92 hA921 hA922 => ?_)
       refine TL.val rfl rfl rfl (gA (i := k) Tryz.underlying33 psmsz50 rfl rfl rfl rfl rfl (by omega)) ?_
       refine TL.v (gF psmfld50_2) ?_
       refine TL.rowset (k := 2) (vs := [.slice A92 ((x17.fl.l ++ [flow]).length) c92]) (xs' := flat Hpx.cells (hs.set k (⟨x17.ttl, x17.addr, (⟨A92, c92, x17.fl.l ++ [flow]⟩ : Sg Int)⟩ : Hpx))) rfl rfl rfl rfl rfl rfl rfl prhsz48 pbdone_s (by rw [flat_len hp_cel]; show 0 + k * 3 + 2 + 1 ≤ _; omega) (flat_put hp_cel (q := 2) (y := (⟨x17.ttl, x17.addr, (⟨A92, c92, x17.fl.l ++ [flow]⟩ : Sg Int)⟩ : Hpx)) hx87 (by show 2 + 1 ≤ 3; decide) rfl) ?_
       try dsimp only [List.set_cons_zero, List.set_cons_succ]
       refine zET (zSG ?_)
       refine TL.rn 2 rfl ?_
       refine zET (zr ?_)
       exact ret_tmp Tryz.results92 rfl (fun w1 hw => ⟨⟨(((some ⟨g_A0, 0, none⟩), c0), hs.set k (⟨x17.ttl, x17.addr, (⟨A92, c92, x17.fl.l ++ [flow]⟩ : Sg Int)⟩ : Hpx)), gr_old hpk_len hg hx87 (y := (⟨x17.ttl, x17.addr, (⟨A92, c92, x17.fl.l ++ [flow]⟩ : Sg Int)⟩ : Hpx)) rfl (show _ = [ttl, a] from hop_key (by omega) (by omega)) rfl hlf, by dsimp only; rw [List.length_set]; omega, by dsimp only; rw [List.length_set]; omega, hcm⟩, by dsimp only; rw [List.length_set, hm], by dsimp only; rw [List.length_set, hm]; exact Pm.segPut (s := (⟨A92, c92, x17.fl.l ++ [flow]⟩ : Sg Int)) (P := [_]) (O := F) (hw.sel (.cons _ (.cons_cons _ (.cons_cons _ (List.Sublist.refl _))))) (old_perm hx87)⟩)
 ·refine TL.rn 9 rfl ?_
  refine TL.offU rfl rfl rfl rfl rfl ?_
  refine TL.offU rfl rfl rfl rfl rfl ?_
  refine TL.offU rfl rfl rfl rfl rfl ?_
  refine TL.offU rfl rfl rfl rfl rfl ?_
  refine TL.offU rfl rfl rfl rfl rfl ?_
  refine TL.offU rfl rfl rfl rfl rfl ?_
  refine TL.offU rfl rfl rfl rfl rfl ?_
  refine TL.offU rfl rfl rfl rfl rfl ?_
  refine TL.offU rfl rfl rfl rfl rfl ?_
  refine TL.offU rfl rfl rfl rfl rfl ?_
  refine TL.offU rfl rfl rfl rfl rfl ?_
  refine TL.offU rfl rfl rfl rfl rfl ?_
  refine TL.offU rfl rfl rfl rfl rfl ?_
  refine TL.offU rfl rfl rfl rfl rfl ?_
  refine TL.offU rfl rfl rfl rfl rfl ?_
  refine TL.offU rfl rfl rfl rfl rfl ?_
  refine TL.rn 2 rfl ?_
  refine zET (zd (zx (zX (zX (zM (zT (zS (zSG ?_))))))))
  refine TL.rn 2 rfl ?_
  refine TL.v (gN Tryz.underlying33) ?_
  refine TL.sp bin_eql (fun q46 => ?_) (fun q46 => ?_)
  ·refine TL.rn 18 rfl ?_
   refine zET (zc (zSG ?_))
   refine TL.mv ?_
   refine TL.val rfl rfl rfl (gives_build (v := .agg #[.int .i64 0, .int .u32 0, .slice none 0 0]) rfl rfl (fun w => prhbld50_521  w)) ?_
   refine TL.prowS (e := 50) (size := 3) (cs := flat Hpx.cells [(⟨0, 0, (⟨none, 0, []⟩ : Sg Int)⟩ : Hpx)]) rfl rfl rfl rfl rfl (fun w => pbdbs33_1_48232 _ _ _ _ _ w) (by decide) rfl (fun g67 => ?_)
   refine TL.appendT (k := 1) rfl rfl rfl rfl Tryz.underlying33 pbdel33 rfl rfl rfl (fun w1 hw => pm_reads hw (k := 0) rfl) (flat_one hp_cel _) (by show _ * 40 ≤ _; omega) (m + 1) (rfl) (flat Hpx.cells (hs ++ [(⟨0, 0, (⟨none, 0, []⟩ : Sg Int)⟩ : Hpx)])) ((flat_app _ _).symm) (fun A68 c68 hA681 hA682 => ?_)
   refine TL.as_ ?_
   refine zET (zS ?_)
   have hn1 : (hs ++ [(⟨0, 0, (⟨none, 0, []⟩ : Sg Int)⟩ : Hpx)]).length = hs.length + 1 := by simp
   have hn2 : (shiftL (hs ++ [(⟨0, 0, (⟨none, 0, []⟩ : Sg Int)⟩ : Hpx)]) k).length = hs.length + 1 := by rw [shiftL_len _ _ (by omega), hn1]
   refine TC.fact (p := ∃ g, A68 = some ⟨g, 0, none⟩) (fun w1 hw => rowA hw (k := 1) rfl (by omega)) ?_
   rintro ⟨g_A68, rfl⟩
   refine TC.tail 7 (by kernel_rfl) (by kernel_rfl) (fun w hw => hw.drawn _) ?_
   refine TS.val rfl rfl rfl (gives_move rfl rfl) ?_
   refine TS.val rfl rfl rfl (gives_move rfl rfl) ?_
   refine TS.v (gD ((k + 1 : Nat) : Int)) ?_
   refine TS.val rfl rfl rfl (gives_sliceL (v := .slice (if c68 = k + 1 then some ⟨g_A68, 0, none⟩ else (some (⟨g_A68, 0, none⟩ : Addr)).map (·.add ((k + 1) * 3))) ((m + 1) - (k + 1)) (c68 - (k + 1))) rfl rfl rfl (fun w => cut_lo Tryz.underlying33 psmsz50 _ _ _ (k + 1) rfl (by omega) w)) ?_
   refine TS.val rfl rfl rfl (gives_move rfl rfl) ?_
   refine TS.val rfl rfl rfl (gives_move rfl rfl) ?_
   refine TS.val rfl rfl rfl (gives_tailF (q := k) rfl rfl rfl rfl Tryz.underlying33 psmsz50 (by omega) (by omega)) ?_
   refine TS.end_ ?_
   refine TL.shiftF hp_cel (kk := 1) (k := k) rfl rfl rfl rfl Tryz.underlying33 psmsz50 rfl rfl rfl (by omega) (by omega) (by omega) ?_
   try dsimp only [List.set_cons_zero, List.set_cons_succ]
   refine zET (zG ?_)
   refine TL.rn 4 rfl ?_
   refine TL.val rfl rfl rfl (gives_build (v := .agg #[.int .i64 ttl, .int .u32 a, .slice none 0 0]) rfl rfl (fun w => prhbld50_27248 _ _ w)) ?_
   have hi82 : k < (shiftL (hs ++ [(⟨0, 0, (⟨none, 0, []⟩ : Sg Int)⟩ : Hpx)]) k).length := by omega
   obtain ⟨x82, hx82⟩ := ex_at hi82
   refine TL.val rfl rfl rfl (gA (i := k) Tryz.underlying33 psmsz50 rfl rfl rfl rfl rfl (by omega)) ?_
   refine TL.rowset (k := 1) (vs := [.int .i64 ttl, .int .u32 a, .slice none 0 0]) (xs' := flat Hpx.cells ((shiftL (hs ++ [(⟨0, 0, (⟨none, 0, []⟩ : Sg Int)⟩ : Hpx)]) k).set k (⟨ttl, a, (⟨none, 0, []⟩ : Sg Int)⟩ : Hpx))) rfl rfl rfl rfl rfl rfl rfl psmsz50 prhone_i64u32s (by rw [flat_len hp_cel]; show 0 + k * 3 + 3 ≤ _; omega) (flat_put hp_cel (q := 0) (y := (⟨ttl, a, (⟨none, 0, []⟩ : Sg Int)⟩ : Hpx)) hx82 (by show 0 + 3 ≤ 3; decide) rfl) ?_
   try dsimp only [List.set_cons_zero, List.set_cons_succ]
   refine zET (zS ?_)
   have hn3 : ((shiftL (hs ++ [(⟨0, 0, (⟨none, 0, []⟩ : Sg Int)⟩ : Hpx)]) k).set k (⟨ttl, a, (⟨none, 0, []⟩ : Sg Int)⟩ : Hpx)).length = hs.length + 1 := by rw [List.length_set, hn2]
   have hx87 : ((shiftL (hs ++ [(⟨0, 0, (⟨none, 0, []⟩ : Sg Int)⟩ : Hpx)]) k).set k (⟨ttl, a, (⟨none, 0, []⟩ : Sg Int)⟩ : Hpx))[k]? = some (⟨ttl, a, (⟨none, 0, []⟩ : Sg Int)⟩ : Hpx) := List.getElem?_set_self (by omega)
   refine zG ?_
   refine TL.rn 4 rfl ?_
   refine TL.val rfl rfl rfl (gA (i := k) Tryz.underlying33 psmsz50 rfl rfl rfl rfl rfl (by omega)) ?_
   refine TL.v (gF psmfld50_2) ?_
   refine TL.val rfl rfl rfl (gives_load (v := .slice none 0 0) rfl rfl psmag48 (fun w1 hw => flat_row hp_cel hw (q := 1) rfl hx87 2 _ rfl)) ?_
   refine TL.mv ?_
   refine TL.prowS (e := 3) (size := 1) (cs := flat (ic .i64) [flow]) rfl rfl rfl rfl rfl (fun w => pbdbs48_1_5377 _ w) (by decide) rfl (fun g91 => ?_)
   refine TL.nilrow 3 1 ?_
   refine TL.appendT (k := 0) rfl rfl rfl rfl Tryz.underlying48 pbdel48 rfl rfl rfl (fun w1 hw => pm_reads hw (k := 1) rfl) (flat_one (ic_cel .i64) _) (by show _ * 8 ≤ _; omega) (([flow]).length) (by simp) (flat (ic .i64) ([flow])) (rfl) (fun A92 c92 hA921 hA922 => ?_)
   refine TL.val rfl rfl rfl (gA (i := k) Tryz.underlying33 psmsz50 rfl rfl rfl rfl rfl (by omega)) ?_
   refine TL.v (gF psmfld50_2) ?_
   refine TL.rowset (k := 3) (vs := [.slice A92 (([flow]).length) c92]) (xs' := flat Hpx.cells (((shiftL (hs ++ [(⟨0, 0, (⟨none, 0, []⟩ : Sg Int)⟩ : Hpx)]) k).set k (⟨ttl, a, (⟨none, 0, []⟩ : Sg Int)⟩ : Hpx)).set k (⟨(⟨ttl, a, (⟨none, 0, []⟩ : Sg Int)⟩ : Hpx).ttl, (⟨ttl, a, (⟨none, 0, []⟩ : Sg Int)⟩ : Hpx).addr, (⟨A92, c92, [flow]⟩ : Sg Int)⟩ : Hpx))) rfl rfl rfl rfl rfl rfl rfl prhsz48 pbdone_s (by rw [flat_len hp_cel]; show 0 + k * 3 + 2 + 1 ≤ _; omega) (flat_put hp_cel (q := 2) (y := (⟨(⟨ttl, a, (⟨none, 0, []⟩ : Sg Int)⟩ : Hpx).ttl, (⟨ttl, a, (⟨none, 0, []⟩ : Sg Int)⟩ : Hpx).addr, (⟨A92, c92, [flow]⟩ : Sg Int)⟩ : Hpx)) hx87 (by show 2 + 1 ≤ 3; decide) rfl) ?_
   try dsimp only [List.set_cons_zero, List.set_cons_succ]
   refine zET (zSG ?_)
   refine TL.rn 2 rfl ?_
   refine zET (zr ?_)
   have hE : ((shiftL (hs ++ [(⟨0, 0, (⟨none, 0, []⟩ : Sg Int)⟩ : Hpx)]) k).set k (⟨ttl, a, (⟨none, 0, []⟩ : Sg Int)⟩ : Hpx)).set k (⟨(⟨ttl, a, (⟨none, 0, []⟩ : Sg Int)⟩ : Hpx).ttl, (⟨ttl, a, (⟨none, 0, []⟩ : Sg Int)⟩ : Hpx).addr, (⟨A92, c92, [flow]⟩ : Sg Int)⟩ : Hpx) = hs.take k ++ (⟨(⟨ttl, a, (⟨none, 0, []⟩ : Sg Int)⟩ : Hpx).ttl, (⟨ttl, a, (⟨none, 0, []⟩ : Sg Int)⟩ : Hpx).addr, (⟨A92, c92, [flow]⟩ : Sg Int)⟩ : Hpx) :: hs.drop k := by rw [List.set_set, shiftL_at _ _ _ _ (by omega)]
   have hln : (hs.take k ++ (⟨(⟨ttl, a, (⟨none, 0, []⟩ : Sg Int)⟩ : Hpx).ttl, (⟨ttl, a, (⟨none, 0, []⟩ : Sg Int)⟩ : Hpx).addr, (⟨A92, c92, [flow]⟩ : Sg Int)⟩ : Hpx) :: hs.drop k).length = m + 1 := by rw [putA_len]; omega
   exact ret_tmp Tryz.results92 rfl (fun w1 hw => ⟨⟨(((some ⟨g_A68, 0, none⟩), c68), hs.take k ++ (⟨(⟨ttl, a, (⟨none, 0, []⟩ : Sg Int)⟩ : Hpx).ttl, (⟨ttl, a, (⟨none, 0, []⟩ : Sg Int)⟩ : Hpx).addr, (⟨A92, c92, [flow]⟩ : Sg Int)⟩ : Hpx) :: hs.drop k), gr_new hpk_len hg (q := k) (x := (⟨(⟨ttl, a, (⟨none, 0, []⟩ : Sg Int)⟩ : Hpx).ttl, (⟨ttl, a, (⟨none, 0, []⟩ : Sg Int)⟩ : Hpx).addr, (⟨A92, c92, [flow]⟩ : Sg Int)⟩ : Hpx)) rfl rfl hlt (fun z hz => by rw [List.drop_of_length_le (by omega)] at hz; cases hz), by dsimp only; rw [putA_len]; omega, by dsimp only; rw [putA_len]; omega, hA682⟩, by dsimp only; rw [hln], by dsimp only; rw [hln]; rw [hE] at hw; exact Pm.segPut (s := (⟨A92, c92, [flow]⟩ : Sg Int)) (P := [_]) (O := F) (hw.sel (.cons_cons _ (.cons _ (.cons _ (.cons_cons _ (List.Sublist.refl _)))))) (new_perm)⟩)
  ·exfalso; omega
set_option maxHeartbeats 8000000 in
theorem redge_any (w0 : Base) (F : List Pc) (P : List Int → Int → Prop) (A0 : Option Addr) (m c0 : Nat) (hs : List Ed) (ttl a b flow : Int) (w : World) (hw0 : Pm w0 ([.row (.slice A0 m c0) 63 4 m (flat Ed.cells hs)] ++ (segG 3 1 (flat (ic .i64)) (hs.map (·.fl)) ++ F)) w) (hm : hs.length = m) (hm1 : m ≤ 100000) (hmc : m ≤ c0) (hcm : c0 ≤ maxLen) (hg : GrOk edk (fun x : Ed => x.fl.l) P hs) (hlf : ∀ g, P [ttl, a, b] g → g < flow) (hfl : ∀ x ∈ hs, x.fl.l.length ≤ 100000) (hok : ∀ z ∈ hs, EdOk z) (heo : EdOk (⟨ttl, a, b, (⟨none, 0, []⟩ : Sg Int)⟩ : Ed)) :
  Calls Tryz.prog 93 #[.slice A0 m c0, .agg #[.int .i64 ttl, .int .u32 a, .int .u32 b, .slice none 0 0], .int .i64 flow] w fun e w' => ∃ y : {y : (Option Addr × Nat) × List Ed // GrOk edk (fun x : Ed => x.fl.l) (fun q g => P q g ∨ (q = [ttl, a, b] ∧ g = flow)) y.2 ∧ y.2.length ≤ m + 1 ∧ y.2.length ≤ y.1.2 ∧ y.1.2 ≤ maxLen}, e = .returned (.slice y.1.1.1 y.1.2.length y.1.1.2) ∧ Pm w0 ([.row (.slice y.1.1.1 y.1.2.length y.1.1.2) 63 4 y.1.2.length (flat Ed.cells y.1.2)] ++ (segG 3 1 (flat (ic .i64)) (y.1.2.map (·.fl)) ++ F)) w' := by
 refine begin_ (vs := [.slice A0 m c0, .agg #[.int .i64 ttl, .int .u32 a, .int .u32 b, .slice none 0 0], .int .i64 flow]) (I := Pm w0 ([.row (.slice A0 m c0) 63 4 m (flat Ed.cells hs)] ++ (segG 3 1 (flat (ic .i64)) (hs.map (·.fl)) ++ F))) Tryz.func93 rfl rfl rfl ?_ hw0
 refine zSG ?_
 refine TL.pnew rfl rfl rfl (exec_box (cs := [.int .i64 ttl, .int .u32 a, .int .u32 b, .slice none 0 0]) rfl rfl rfl) (fun g4 => ?_)
 refine TL.as_ ?_
 refine zET (zSG ?_)
 refine TL.as_ ?_
 refine zET (zS (zB ?_))
 refine TC.loop_ (α := {k : Nat // k ≤ m ∧ ∀ z ∈ hs.take k, lexI (edk z) [ttl, a, b] < 0}) (fun y => [(0, .slice A0 m c0), (2, .int .i64 flow), (4, .pointer (some ⟨g4, 0, none⟩)), (7, .int .i64 ((y.1 : Nat) : Int))]) (fun y => Pm w0 ([.blk g4 63 [.int .i64 ttl, .int .u32 a, .int .u32 b, .slice none 0 0], .row (.slice A0 m c0) 63 4 m (flat Ed.cells hs)] ++ (segG 3 1 (flat (ic .i64)) (hs.map (·.fl)) ++ F))) (fun y => m - y.1) (⟨0, Nat.zero_le _, fun z hz => by rw [List.take_zero] at hz; cases hz⟩) ⟨rfl, rfl, rfl, rfl, trivial⟩ (fun w1 hw => hw) ?_
 rintro ⟨k, hk, hlt⟩
 try dsimp only at hk hlt ⊢
 refine zS (zS ?_)
 by_cases hk0 : k = m
 ·refine TC.quietQ (by kernel_rfl) (by kernel_rfl) (fun w hw => hw.drawn _) ?_
  refine TQ.rn 2 rfl ?_
  refine TQ.v (gN Tryz.underlying34) ?_
  refine TQ.val rfl rfl rfl (gives_bin rfl rfl rfl (fun w => bin_lss_f (by omega) w)) ?_
  refine TQ.rn 8 rfl ?_
  refine TQ.fin ?_
  refine zT (zd (zx (zX (zX (zM (zT (zS (zS ?_))))))))
  ·refine TC.quietQ (by kernel_rfl) (by kernel_rfl) (fun w hw => hw.drawn _) ?_
   refine TQ.rn 2 rfl ?_
   refine TQ.v (gN Tryz.underlying34) ?_
   refine TQ.val rfl rfl rfl (gives_bin rfl rfl rfl (fun w => bin_eql_t (by omega) w)) ?_
   refine TQ.rn 8 rfl ?_
   refine TQ.fin ?_
   refine zT (zc (zSG ?_))
   refine TL.mv ?_
   refine TL.val rfl rfl rfl (gives_build (v := .agg #[.int .i64 0, .int .u32 0, .int .u32 0, .slice none 0 0]) rfl rfl (fun w => prhbld63_528  w)) ?_
   refine TL.prowS (e := 63) (size := 4) (cs := flat Ed.cells [(⟨0, 0, 0, (⟨none, 0, []⟩ : Sg Int)⟩ : Ed)]) rfl rfl rfl rfl rfl (fun w => pbdbs34_1_7406 _ _ _ _ _ _ w) (by decide) rfl (fun g36 => ?_)
   refine TL.appendT (k := 2) rfl rfl rfl rfl Tryz.underlying34 pbdel34 rfl rfl rfl (fun w1 hw => pm_reads hw (k := 0) rfl) (flat_one ed_cel _) (by show _ * 40 ≤ _; omega) (m + 1) (rfl) (flat Ed.cells (hs ++ [(⟨0, 0, 0, (⟨none, 0, []⟩ : Sg Int)⟩ : Ed)])) ((flat_app _ _).symm) (fun A37 c37 hA371 hA372 => ?_)
   refine TL.as_ ?_
   refine zET (zS ?_)
   have hn1 : (hs ++ [(⟨0, 0, 0, (⟨none, 0, []⟩ : Sg Int)⟩ : Ed)]).length = hs.length + 1 := by simp
   have hn2 : (shiftL (hs ++ [(⟨0, 0, 0, (⟨none, 0, []⟩ : Sg Int)⟩ : Ed)]) k).length = hs.length + 1 := by rw [shiftL_len _ _ (by omega), hn1]
   refine TC.fact (p := ∃ g, A37 = some ⟨g, 0, none⟩) (fun w1 hw => rowA hw (k := 2) rfl (by omega)) ?_
   rintro ⟨g_A37, rfl⟩
   refine TC.tail 7 (by kernel_rfl) (by kernel_rfl) (fun w hw => hw.drawn _) ?_
   refine TS.val rfl rfl rfl (gives_move rfl rfl) ?_
   refine TS.val rfl rfl rfl (gives_move rfl rfl) ?_
   refine TS.v (gD ((k + 1 : Nat) : Int)) ?_
   refine TS.val rfl rfl rfl (gives_sliceL (v := .slice (if c37 = k + 1 then some ⟨g_A37, 0, none⟩ else (some (⟨g_A37, 0, none⟩ : Addr)).map (·.add ((k + 1) * 4))) ((m + 1) - (k + 1)) (c37 - (k + 1))) rfl rfl rfl (fun w => cut_lo Tryz.underlying34 pwisz63 _ _ _ (k + 1) rfl (by omega) w)) ?_
   refine TS.val rfl rfl rfl (gives_move rfl rfl) ?_
   refine TS.val rfl rfl rfl (gives_move rfl rfl) ?_
   refine TS.val rfl rfl rfl (gives_tailF (q := k) rfl rfl rfl rfl Tryz.underlying34 pwisz63 (by omega) (by omega)) ?_
   refine TS.end_ ?_
   refine TL.shiftF ed_cel (kk := 2) (k := k) rfl rfl rfl rfl Tryz.underlying34 pwisz63 rfl rfl rfl (by omega) (by omega) (by omega) ?_
   try dsimp only [List.set_cons_zero, List.set_cons_succ]
   refine zET (zG ?_)
   refine TL.rn 2 rfl ?_
   refine TL.v (gV 1 (.agg #[.int .i64 ttl, .int .u32 a, .int .u32 b, .slice none 0 0]) pwiag63 pwisz63) ?_
   have hi49 : k < (shiftL (hs ++ [(⟨0, 0, 0, (⟨none, 0, []⟩ : Sg Int)⟩ : Ed)]) k).length := by omega
   obtain ⟨x49, hx49⟩ := ex_at hi49
   refine TL.val rfl rfl rfl (gA (i := k) Tryz.underlying34 pwisz63 rfl rfl rfl rfl rfl (by omega)) ?_
   refine TL.rowset (k := 2) (vs := [.int .i64 ttl, .int .u32 a, .int .u32 b, .slice none 0 0]) (xs' := flat Ed.cells ((shiftL (hs ++ [(⟨0, 0, 0, (⟨none, 0, []⟩ : Sg Int)⟩ : Ed)]) k).set k (⟨ttl, a, b, (⟨none, 0, []⟩ : Sg Int)⟩ : Ed))) rfl rfl rfl rfl rfl rfl rfl pwisz63 prhone_i64u32u32s (by rw [flat_len ed_cel]; show 0 + k * 4 + 4 ≤ _; omega) (flat_put ed_cel (q := 0) (y := (⟨ttl, a, b, (⟨none, 0, []⟩ : Sg Int)⟩ : Ed)) hx49 (by show 0 + 4 ≤ 4; decide) rfl) ?_
   try dsimp only [List.set_cons_zero, List.set_cons_succ]
   refine zET (zS ?_)
   have hn3 : ((shiftL (hs ++ [(⟨0, 0, 0, (⟨none, 0, []⟩ : Sg Int)⟩ : Ed)]) k).set k (⟨ttl, a, b, (⟨none, 0, []⟩ : Sg Int)⟩ : Ed)).length = hs.length + 1 := by rw [List.length_set, hn2]
   have hx54 : ((shiftL (hs ++ [(⟨0, 0, 0, (⟨none, 0, []⟩ : Sg Int)⟩ : Ed)]) k).set k (⟨ttl, a, b, (⟨none, 0, []⟩ : Sg Int)⟩ : Ed))[k]? = some (⟨ttl, a, b, (⟨none, 0, []⟩ : Sg Int)⟩ : Ed) := List.getElem?_set_self (by omega)
   refine zG ?_
   refine TL.rn 4 rfl ?_
   refine TL.val rfl rfl rfl (gA (i := k) Tryz.underlying34 pwisz63 rfl rfl rfl rfl rfl (by omega)) ?_
   refine TL.v (gF psmfld63_3) ?_
   refine TL.val rfl rfl rfl (gives_load (v := .slice none 0 0) rfl rfl psmag48 (fun w1 hw => flat_row ed_cel hw (q := 2) rfl hx54 3 _ rfl)) ?_
   refine TL.mv ?_
   refine TL.prowS (e := 3) (size := 1) (cs := flat (ic .i64) [flow]) rfl rfl rfl rfl rfl (fun w => pbdbs48_1_5377 _ w) (by decide) rfl (fun g58 => ?_)
   refine TL.nilrow 3 1 ?_
   refine TL.appendT (k := 0) rfl rfl rfl rfl Tryz.underlying48 pbdel48 rfl rfl rfl (fun w1 hw => pm_reads hw (k := 1) rfl) (flat_one (ic_cel .i64) _) (by show _ * 8 ≤ _; omega) (([flow]).length) (by simp) (flat (ic .i64) ([flow])) (rfl) (fun A59 c59 hA591 hA592 => ?_)
   refine TL.val rfl rfl rfl (gA (i := k) Tryz.underlying34 pwisz63 rfl rfl rfl rfl rfl (by omega)) ?_
   refine TL.v (gF psmfld63_3) ?_
   refine TL.rowset (k := 4) (vs := [.slice A59 (([flow]).length) c59]) (xs' := flat Ed.cells (((shiftL (hs ++ [(⟨0, 0, 0, (⟨none, 0, []⟩ : Sg Int)⟩ : Ed)]) k).set k (⟨ttl, a, b, (⟨none, 0, []⟩ : Sg Int)⟩ : Ed)).set k (⟨(⟨ttl, a, b, (⟨none, 0, []⟩ : Sg Int)⟩ : Ed).ttl, (⟨ttl, a, b, (⟨none, 0, []⟩ : Sg Int)⟩ : Ed).frm, (⟨ttl, a, b, (⟨none, 0, []⟩ : Sg Int)⟩ : Ed).to_, (⟨A59, c59, [flow]⟩ : Sg Int)⟩ : Ed))) rfl rfl rfl rfl rfl rfl rfl prhsz48 pbdone_s (by rw [flat_len ed_cel]; show 0 + k * 4 + 3 + 1 ≤ _; omega) (flat_put ed_cel (q := 3) (y := (⟨(⟨ttl, a, b, (⟨none, 0, []⟩ : Sg Int)⟩ : Ed).ttl, (⟨ttl, a, b, (⟨none, 0, []⟩ : Sg Int)⟩ : Ed).frm, (⟨ttl, a, b, (⟨none, 0, []⟩ : Sg Int)⟩ : Ed).to_, (⟨A59, c59, [flow]⟩ : Sg Int)⟩ : Ed)) hx54 (by show 3 + 1 ≤ 4; decide) rfl) ?_
   try dsimp only [List.set_cons_zero, List.set_cons_succ]
   refine zET (zSG ?_)
   refine TL.rn 2 rfl ?_
   refine zET (zr ?_)
   have hE : ((shiftL (hs ++ [(⟨0, 0, 0, (⟨none, 0, []⟩ : Sg Int)⟩ : Ed)]) k).set k (⟨ttl, a, b, (⟨none, 0, []⟩ : Sg Int)⟩ : Ed)).set k (⟨(⟨ttl, a, b, (⟨none, 0, []⟩ : Sg Int)⟩ : Ed).ttl, (⟨ttl, a, b, (⟨none, 0, []⟩ : Sg Int)⟩ : Ed).frm, (⟨ttl, a, b, (⟨none, 0, []⟩ : Sg Int)⟩ : Ed).to_, (⟨A59, c59, [flow]⟩ : Sg Int)⟩ : Ed) = hs.take k ++ (⟨(⟨ttl, a, b, (⟨none, 0, []⟩ : Sg Int)⟩ : Ed).ttl, (⟨ttl, a, b, (⟨none, 0, []⟩ : Sg Int)⟩ : Ed).frm, (⟨ttl, a, b, (⟨none, 0, []⟩ : Sg Int)⟩ : Ed).to_, (⟨A59, c59, [flow]⟩ : Sg Int)⟩ : Ed) :: hs.drop k := by rw [List.set_set, shiftL_at _ _ _ _ (by omega)]
   have hln : (hs.take k ++ (⟨(⟨ttl, a, b, (⟨none, 0, []⟩ : Sg Int)⟩ : Ed).ttl, (⟨ttl, a, b, (⟨none, 0, []⟩ : Sg Int)⟩ : Ed).frm, (⟨ttl, a, b, (⟨none, 0, []⟩ : Sg Int)⟩ : Ed).to_, (⟨A59, c59, [flow]⟩ : Sg Int)⟩ : Ed) :: hs.drop k).length = m + 1 := by rw [putA_len]; omega
   exact ret_tmp Tryz.results93 rfl (fun w1 hw => ⟨⟨(((some ⟨g_A37, 0, none⟩), c37), hs.take k ++ (⟨(⟨ttl, a, b, (⟨none, 0, []⟩ : Sg Int)⟩ : Ed).ttl, (⟨ttl, a, b, (⟨none, 0, []⟩ : Sg Int)⟩ : Ed).frm, (⟨ttl, a, b, (⟨none, 0, []⟩ : Sg Int)⟩ : Ed).to_, (⟨A59, c59, [flow]⟩ : Sg Int)⟩ : Ed) :: hs.drop k), gr_new edk_len hg (q := k) (x := (⟨(⟨ttl, a, b, (⟨none, 0, []⟩ : Sg Int)⟩ : Ed).ttl, (⟨ttl, a, b, (⟨none, 0, []⟩ : Sg Int)⟩ : Ed).frm, (⟨ttl, a, b, (⟨none, 0, []⟩ : Sg Int)⟩ : Ed).to_, (⟨A59, c59, [flow]⟩ : Sg Int)⟩ : Ed)) rfl rfl hlt (fun z hz => by rw [List.drop_of_length_le (by omega)] at hz; cases hz), by dsimp only; rw [putA_len]; omega, by dsimp only; rw [putA_len]; omega, hA372⟩, by dsimp only; rw [hln], by dsimp only; rw [hln]; rw [hE] at hw; exact Pm.segPut (s := (⟨A59, c59, [flow]⟩ : Sg Int)) (P := [_]) (O := F) (hw.sel (.cons_cons _ (.cons _ (.cons _ (.cons _ (.cons_cons _ (List.Sublist.refl _))))))) (new_perm)⟩)
 ·refine TC.fact (p := ∃ g, A0 = some ⟨g, 0, none⟩) (fun w1 hw => rowA hw (k := 1) rfl (by omega)) ?_
  rintro ⟨g_A0, rfl⟩
  refine TC.quietQ (by kernel_rfl) (by kernel_rfl) (fun w hw => hw.drawn _) ?_
  refine TQ.rn 2 rfl ?_
  refine TQ.v (gN Tryz.underlying34) ?_
  refine TQ.val rfl rfl rfl (gives_bin rfl rfl rfl (fun w => bin_lss_t (by omega) w)) ?_
  refine TQ.rn 3 rfl ?_
  refine TQ.on rfl rfl rfl ?_
  have hi15 : k < hs.length := by omega
  obtain ⟨x15, hx15⟩ := ex_at hi15
  have hx15k := hok x15 (List.mem_of_getElem? hx15)
  refine TQ.val rfl rfl rfl (gA (i := k) Tryz.underlying34 pwisz63 rfl rfl rfl rfl rfl (by omega)) ?_
  refine TQ.on rfl rfl rfl ?_
  refine TQ.val rfl rfl rfl (gives_loadR (off := 0 + k * 4) rfl rfl pwiag63 pwisz63 (ed_cel.len x15) (fun w1 hw j9 u9 h9 => flat_row ed_cel hw (q := 1) rfl hx15 j9 u9 h9)) ?_
  refine TQ.ov (gV 0 (.agg #[.int .i64 ttl, .int .u32 a, .int .u32 b, .slice none 0 0]) pwiag63 pwisz63) ?_
  refine TQ.on rfl rfl rfl ?_
  refine TQ.callsplit rfl rfl rfl rfl rfl Tryz.func121 (by decide) rfl (fun w1 hw => rbef_any x15 (⟨ttl, a, b, (⟨none, 0, []⟩ : Sg Int)⟩ : Ed) w1) (fun h18 => ?_) (fun h18 => ?_)
  ·refine TQ.val rfl rfl rfl (gives_pick rfl rfl rfl) ?_
   refine TQ.fin ?_
   refine zT (zc (zk (zT (zB ?_))))
   have hlt2 : ∀ z ∈ hs.take (k + 1), lexI (edk z) [ttl, a, b] < 0 := ascK_ahead (x := (⟨ttl, a, b, (⟨none, 0, []⟩ : Sg Int)⟩ : Ed)) edk_len hg.1 hx15 (bef_lt hx15k heo h18)
   refine zG ?_
   refine TL.mv ?_
   refine TL.v (gD ((k + 1 : Nat) : Int)) ?_
   refine TL.as_ ?_
   refine zE (zN ?_)
   exact TX.round (⟨k + 1, by omega, hlt2⟩) (by show m - (k + 1) < m - k; omega) ⟨rfl, rfl, rfl, rfl, trivial⟩ (fun w1 hw => hw)
  ·refine TQ.val rfl rfl rfl (gives_pick rfl rfl rfl) ?_
   refine TQ.fin ?_
   refine zT (zd (zx (zX (zX (zM (zT (zS (zS ?_))))))))
   ·refine TC.quietQ (by kernel_rfl) (by kernel_rfl) (fun w hw => hw.drawn _) ?_
    refine TQ.rn 2 rfl ?_
    refine TQ.v (gN Tryz.underlying34) ?_
    refine TQ.val rfl rfl rfl (gives_bin rfl rfl rfl (fun w => bin_eql_f (by omega) w)) ?_
    refine TQ.val rfl rfl rfl (gives_move rfl rfl) ?_
    refine TQ.ov (gV 0 (.agg #[.int .i64 ttl, .int .u32 a, .int .u32 b, .slice none 0 0]) pwiag63 pwisz63) ?_
    refine TQ.rn 2 rfl ?_
    refine TQ.on rfl rfl rfl ?_
    refine TQ.val rfl rfl rfl (gA (i := k) Tryz.underlying34 pwisz63 rfl rfl rfl rfl rfl (by omega)) ?_
    refine TQ.on rfl rfl rfl ?_
    refine TQ.val rfl rfl rfl (gives_loadR (off := 0 + k * 4) rfl rfl pwiag63 pwisz63 (ed_cel.len x15) (fun w1 hw j9 u9 h9 => flat_row ed_cel hw (q := 1) rfl hx15 j9 u9 h9)) ?_
    refine TQ.on rfl rfl rfl ?_
    refine TQ.callsplit rfl rfl rfl rfl rfl Tryz.func121 (by decide) rfl (fun w1 hw => rbef_any (⟨ttl, a, b, (⟨none, 0, []⟩ : Sg Int)⟩ : Ed) x15 w1) (fun h32 => ?_) (fun h32 => ?_)
    ·refine TQ.val rfl rfl rfl (gives_pick rfl rfl rfl) ?_
     refine TQ.fin ?_
     refine zT (zc (zSG ?_))
     refine TL.mv ?_
     refine TL.val rfl rfl rfl (gives_build (v := .agg #[.int .i64 0, .int .u32 0, .int .u32 0, .slice none 0 0]) rfl rfl (fun w => prhbld63_528  w)) ?_
     refine TL.prowS (e := 63) (size := 4) (cs := flat Ed.cells [(⟨0, 0, 0, (⟨none, 0, []⟩ : Sg Int)⟩ : Ed)]) rfl rfl rfl rfl rfl (fun w => pbdbs34_1_7406 _ _ _ _ _ _ w) (by decide) rfl (fun g36 => ?_)
     refine TL.appendT (k := 2) rfl rfl rfl rfl Tryz.underlying34 pbdel34 rfl rfl rfl (fun w1 hw => pm_reads hw (k := 0) rfl) (flat_one ed_cel _) (by show _ * 40 ≤ _; omega) (m + 1) (rfl) (flat Ed.cells (hs ++ [(⟨0, 0, 0, (⟨none, 0, []⟩ : Sg Int)⟩ : Ed)])) ((flat_app _ _).symm) (fun A37 c37 hA371 hA372 => ?_)
     refine TL.as_ ?_
     refine zET (zS ?_)
     have hn1 : (hs ++ [(⟨0, 0, 0, (⟨none, 0, []⟩ : Sg Int)⟩ : Ed)]).length = hs.length + 1 := by simp
     have hn2 : (shiftL (hs ++ [(⟨0, 0, 0, (⟨none, 0, []⟩ : Sg Int)⟩ : Ed)]) k).length = hs.length + 1 := by rw [shiftL_len _ _ (by omega), hn1]
     refine TC.fact (p := ∃ g, A37 = some ⟨g, 0, none⟩) (fun w1 hw => rowA hw (k := 2) rfl (by omega)) ?_
     rintro ⟨g_A37, rfl⟩
     refine TC.tail 7 (by kernel_rfl) (by kernel_rfl) (fun w hw => hw.drawn _) ?_
     refine TS.val rfl rfl rfl (gives_move rfl rfl) ?_
     refine TS.val rfl rfl rfl (gives_move rfl rfl) ?_
     refine TS.v (gD ((k + 1 : Nat) : Int)) ?_
     refine TS.val rfl rfl rfl (gives_sliceL (v := .slice (if c37 = k + 1 then some ⟨g_A37, 0, none⟩ else (some (⟨g_A37, 0, none⟩ : Addr)).map (·.add ((k + 1) * 4))) ((m + 1) - (k + 1)) (c37 - (k + 1))) rfl rfl rfl (fun w => cut_lo Tryz.underlying34 pwisz63 _ _ _ (k + 1) rfl (by omega) w)) ?_
     refine TS.val rfl rfl rfl (gives_move rfl rfl) ?_
     refine TS.val rfl rfl rfl (gives_move rfl rfl) ?_
     refine TS.val rfl rfl rfl (gives_tailF (q := k) rfl rfl rfl rfl Tryz.underlying34 pwisz63 (by omega) (by omega)) ?_
     refine TS.end_ ?_
     refine TL.shiftF ed_cel (kk := 2) (k := k) rfl rfl rfl rfl Tryz.underlying34 pwisz63 rfl rfl rfl (by omega) (by omega) (by omega) ?_
     try dsimp only [List.set_cons_zero, List.set_cons_succ]
     refine zET (zG ?_)
     refine TL.rn 2 rfl ?_
     refine TL.v (gV 1 (.agg #[.int .i64 ttl, .int .u32 a, .int .u32 b, .slice none 0 0]) pwiag63 pwisz63) ?_
     have hi49 : k < (shiftL (hs ++ [(⟨0, 0, 0, (⟨none, 0, []⟩ : Sg Int)⟩ : Ed)]) k).length := by omega
     obtain ⟨x49, hx49⟩ := ex_at hi49
     refine TL.val rfl rfl rfl (gA (i := k) Tryz.underlying34 pwisz63 rfl rfl rfl rfl rfl (by omega)) ?_
     refine TL.rowset (k := 2) (vs := [.int .i64 ttl, .int .u32 a, .int .u32 b, .slice none 0 0]) (xs' := flat Ed.cells ((shiftL (hs ++ [(⟨0, 0, 0, (⟨none, 0, []⟩ : Sg Int)⟩ : Ed)]) k).set k (⟨ttl, a, b, (⟨none, 0, []⟩ : Sg Int)⟩ : Ed))) rfl rfl rfl rfl rfl rfl rfl pwisz63 prhone_i64u32u32s (by rw [flat_len ed_cel]; show 0 + k * 4 + 4 ≤ _; omega) (flat_put ed_cel (q := 0) (y := (⟨ttl, a, b, (⟨none, 0, []⟩ : Sg Int)⟩ : Ed)) hx49 (by show 0 + 4 ≤ 4; decide) rfl) ?_
     try dsimp only [List.set_cons_zero, List.set_cons_succ]
     refine zET (zS ?_)
     have hn3 : ((shiftL (hs ++ [(⟨0, 0, 0, (⟨none, 0, []⟩ : Sg Int)⟩ : Ed)]) k).set k (⟨ttl, a, b, (⟨none, 0, []⟩ : Sg Int)⟩ : Ed)).length = hs.length + 1 := by rw [List.length_set, hn2]
     have hx54 : ((shiftL (hs ++ [(⟨0, 0, 0, (⟨none, 0, []⟩ : Sg Int)⟩ : Ed)]) k).set k (⟨ttl, a, b, (⟨none, 0, []⟩ : Sg Int)⟩ : Ed))[k]? = some (⟨ttl, a, b, (⟨none, 0, []⟩ : Sg Int)⟩ : Ed) := List.getElem?_set_self (by omega)
     refine zG ?_
     refine TL.rn 4 rfl ?_
     refine TL.val rfl rfl rfl (gA (i := k) Tryz.underlying34 pwisz63 rfl rfl rfl rfl rfl (by omega)) ?_
     refine TL.v (gF psmfld63_3) ?_
     refine TL.val rfl rfl rfl (gives_load (v := .slice none 0 0) rfl rfl psmag48 (fun w1 hw => flat_row ed_cel hw (q := 2) rfl hx54 3 _ rfl)) ?_
     refine TL.mv ?_
     refine TL.prowS (e := 3) (size := 1) (cs := flat (ic .i64) [flow]) rfl rfl rfl rfl rfl (fun w => pbdbs48_1_5377 _ w) (by decide) rfl (fun g58 => ?_)
     refine TL.nilrow 3 1 ?_
     refine TL.appendT (k := 0) rfl rfl rfl rfl Tryz.underlying48 pbdel48 rfl rfl rfl (fun w1 hw => pm_reads hw (k := 1) rfl) (flat_one (ic_cel .i64) _) (by show _ * 8 ≤ _; omega) (([flow]).length) (by simp) (flat (ic .i64) ([flow])) (rfl) (fun A59 c59 hA591 hA592 => ?_)
     refine TL.val rfl rfl rfl (gA (i := k) Tryz.underlying34 pwisz63 rfl rfl rfl rfl rfl (by omega)) ?_
     refine TL.v (gF psmfld63_3) ?_
     refine TL.rowset (k := 4) (vs := [.slice A59 (([flow]).length) c59]) (xs' := flat Ed.cells (((shiftL (hs ++ [(⟨0, 0, 0, (⟨none, 0, []⟩ : Sg Int)⟩ : Ed)]) k).set k (⟨ttl, a, b, (⟨none, 0, []⟩ : Sg Int)⟩ : Ed)).set k (⟨(⟨ttl, a, b, (⟨none, 0, []⟩ : Sg Int)⟩ : Ed).ttl, (⟨ttl, a, b, (⟨none, 0, []⟩ : Sg Int)⟩ : Ed).frm, (⟨ttl, a, b, (⟨none, 0, []⟩ : Sg Int)⟩ : Ed).to_, (⟨A59, c59, [flow]⟩ : Sg Int)⟩ : Ed))) rfl rfl rfl rfl rfl rfl rfl prhsz48 pbdone_s (by rw [flat_len ed_cel]; show 0 + k * 4 + 3 + 1 ≤ _; omega) (flat_put ed_cel (q := 3) (y := (⟨(⟨ttl, a, b, (⟨none, 0, []⟩ : Sg Int)⟩ : Ed).ttl, (⟨ttl, a, b, (⟨none, 0, []⟩ : Sg Int)⟩ : Ed).frm, (⟨ttl, a, b, (⟨none, 0, []⟩ : Sg Int)⟩ : Ed).to_, (⟨A59, c59, [flow]⟩ : Sg Int)⟩ : Ed)) hx54 (by show 3 + 1 ≤ 4; decide) rfl) ?_
     try dsimp only [List.set_cons_zero, List.set_cons_succ]
     refine zET (zSG ?_)
     refine TL.rn 2 rfl ?_
     refine zET (zr ?_)
     have hE : ((shiftL (hs ++ [(⟨0, 0, 0, (⟨none, 0, []⟩ : Sg Int)⟩ : Ed)]) k).set k (⟨ttl, a, b, (⟨none, 0, []⟩ : Sg Int)⟩ : Ed)).set k (⟨(⟨ttl, a, b, (⟨none, 0, []⟩ : Sg Int)⟩ : Ed).ttl, (⟨ttl, a, b, (⟨none, 0, []⟩ : Sg Int)⟩ : Ed).frm, (⟨ttl, a, b, (⟨none, 0, []⟩ : Sg Int)⟩ : Ed).to_, (⟨A59, c59, [flow]⟩ : Sg Int)⟩ : Ed) = hs.take k ++ (⟨(⟨ttl, a, b, (⟨none, 0, []⟩ : Sg Int)⟩ : Ed).ttl, (⟨ttl, a, b, (⟨none, 0, []⟩ : Sg Int)⟩ : Ed).frm, (⟨ttl, a, b, (⟨none, 0, []⟩ : Sg Int)⟩ : Ed).to_, (⟨A59, c59, [flow]⟩ : Sg Int)⟩ : Ed) :: hs.drop k := by rw [List.set_set, shiftL_at _ _ _ _ (by omega)]
     have hln : (hs.take k ++ (⟨(⟨ttl, a, b, (⟨none, 0, []⟩ : Sg Int)⟩ : Ed).ttl, (⟨ttl, a, b, (⟨none, 0, []⟩ : Sg Int)⟩ : Ed).frm, (⟨ttl, a, b, (⟨none, 0, []⟩ : Sg Int)⟩ : Ed).to_, (⟨A59, c59, [flow]⟩ : Sg Int)⟩ : Ed) :: hs.drop k).length = m + 1 := by rw [putA_len]; omega
     exact ret_tmp Tryz.results93 rfl (fun w1 hw => ⟨⟨(((some ⟨g_A37, 0, none⟩), c37), hs.take k ++ (⟨(⟨ttl, a, b, (⟨none, 0, []⟩ : Sg Int)⟩ : Ed).ttl, (⟨ttl, a, b, (⟨none, 0, []⟩ : Sg Int)⟩ : Ed).frm, (⟨ttl, a, b, (⟨none, 0, []⟩ : Sg Int)⟩ : Ed).to_, (⟨A59, c59, [flow]⟩ : Sg Int)⟩ : Ed) :: hs.drop k), gr_new edk_len hg (q := k) (x := (⟨(⟨ttl, a, b, (⟨none, 0, []⟩ : Sg Int)⟩ : Ed).ttl, (⟨ttl, a, b, (⟨none, 0, []⟩ : Sg Int)⟩ : Ed).frm, (⟨ttl, a, b, (⟨none, 0, []⟩ : Sg Int)⟩ : Ed).to_, (⟨A59, c59, [flow]⟩ : Sg Int)⟩ : Ed)) rfl rfl hlt (ascK_behind (x := (⟨ttl, a, b, (⟨none, 0, []⟩ : Sg Int)⟩ : Ed)) edk_len hg.1 hx15 (bef_gt (heo := heo) hx15k h32)), by dsimp only; rw [putA_len]; omega, by dsimp only; rw [putA_len]; omega, hA372⟩, by dsimp only; rw [hln], by dsimp only; rw [hln]; rw [hE] at hw; exact Pm.segPut (s := (⟨A59, c59, [flow]⟩ : Sg Int)) (P := [_]) (O := F) (hw.sel (.cons_cons _ (.cons _ (.cons _ (.cons _ (.cons_cons _ (List.Sublist.refl _))))))) (new_perm)⟩)
    ·refine TQ.val rfl rfl rfl (gives_pick rfl rfl rfl) ?_
     refine TQ.fin ?_
     refine zT (zd (zk (zT (zS ?_))))
     have hx54 := hx15
     have hflx := hfl x15 (List.mem_of_getElem? hx15)
     refine TC.mem (fun w1 hw => Pm.segOutO (P := [.blk g4 63 [.int .i64 ttl, .int .u32 a, .int .u32 b, .slice none 0 0], .row (.slice (some ⟨g_A0, 0, none⟩) m c0) 63 4 m (flat Ed.cells hs)]) (O := F) (s := x15.fl) hw (k := k) (by rw [List.getElem?_map, hx15]; rfl)) ?_
     refine zG ?_
     refine TL.rn 4 rfl ?_
     refine TL.val rfl rfl rfl (gA (i := k) Tryz.underlying34 pwisz63 rfl rfl rfl rfl rfl (by omega)) ?_
     refine TL.v (gF psmfld63_3) ?_
     refine TL.val rfl rfl rfl (gives_load (v := .slice x15.fl.A x15.fl.l.length x15.fl.c) rfl rfl psmag48 (fun w1 hw => flat_row ed_cel hw (q := 2) rfl hx54 3 _ rfl)) ?_
     refine TL.mv ?_
     refine TL.prowS (e := 3) (size := 1) (cs := flat (ic .i64) [flow]) rfl rfl rfl rfl rfl (fun w => pbdbs48_1_5377 _ w) (by decide) rfl (fun g58 => ?_)
     refine TL.appendT (k := 1) rfl rfl rfl rfl Tryz.underlying48 pbdel48 rfl rfl rfl (fun w1 hw => pm_reads hw (k := 0) rfl) (flat_one (ic_cel .i64) _) (by show _ * 8 ≤ _; omega) ((x15.fl.l ++ [flow]).length) (by rw [List.length_append]; rfl) (flat (ic .i64) (x15.fl.l ++ [flow])) ((flat_app _ _).symm) (fun A59 c59 hA591 hA592 => ?_)
     refine TL.val rfl rfl rfl (gA (i := k) Tryz.underlying34 pwisz63 rfl rfl rfl rfl rfl (by omega)) ?_
     refine TL.v (gF psmfld63_3) ?_
     refine TL.rowset (k := 3) (vs := [.slice A59 ((x15.fl.l ++ [flow]).length) c59]) (xs' := flat Ed.cells (hs.set k (⟨x15.ttl, x15.frm, x15.to_, (⟨A59, c59, x15.fl.l ++ [flow]⟩ : Sg Int)⟩ : Ed))) rfl rfl rfl rfl rfl rfl rfl prhsz48 pbdone_s (by rw [flat_len ed_cel]; show 0 + k * 4 + 3 + 1 ≤ _; omega) (flat_put ed_cel (q := 3) (y := (⟨x15.ttl, x15.frm, x15.to_, (⟨A59, c59, x15.fl.l ++ [flow]⟩ : Sg Int)⟩ : Ed)) hx54 (by show 3 + 1 ≤ 4; decide) rfl) ?_
     try dsimp only [List.set_cons_zero, List.set_cons_succ]
     refine zET (zSG ?_)
     refine TL.rn 2 rfl ?_
     refine zET (zr ?_)
     exact ret_tmp Tryz.results93 rfl (fun w1 hw => ⟨⟨(((some ⟨g_A0, 0, none⟩), c0), hs.set k (⟨x15.ttl, x15.frm, x15.to_, (⟨A59, c59, x15.fl.l ++ [flow]⟩ : Sg Int)⟩ : Ed)), gr_old edk_len hg hx54 (y := (⟨x15.ttl, x15.frm, x15.to_, (⟨A59, c59, x15.fl.l ++ [flow]⟩ : Sg Int)⟩ : Ed)) rfl (show _ = [ttl, a, b] from edge_key hx15k heo h18 h32) rfl hlf, by dsimp only; rw [List.length_set]; omega, by dsimp only; rw [List.length_set]; omega, hcm⟩, by dsimp only; rw [List.length_set, hm], by dsimp only; rw [List.length_set, hm]; exact Pm.segPut (s := (⟨A59, c59, x15.fl.l ++ [flow]⟩ : Sg Int)) (P := [_]) (O := F) (hw.sel (.cons _ (.cons_cons _ (.cons _ (.cons_cons _ (List.Sublist.refl _)))))) (old_perm hx54)⟩)
/-! ### lists in order that hold what is asked -/
section
variable {α : Type} {key : α → List Int} {n : Nat}
theorem ascK_ex (hk : ∀ x, (key x).length = n) (hi : ∀ x y, key x = key y → x = y) : ∀ l : List α, ∃ o, AscK key o ∧ ∀ x, x ∈ o ↔ x ∈ l
 | [] => ⟨[], List.Pairwise.nil, fun x => Iff.rfl⟩
 | a :: l => by
  obtain ⟨o, h1, h2⟩ := ascK_ex hk hi l
  by_cases ha : a ∈ o
  ·refine ⟨o, h1, fun x => ?_⟩
   rw [h2, List.mem_cons]
   constructor
   ·exact .inr
   ·rintro (rfl | h)
    ·exact (h2 _).1 ha
    ·exact h
  ·refine ⟨o.filter (fun y => decide (lexI (key y) (key a) < 0)) ++ a :: o.filter (fun y => decide (lexI (key a) (key y) < 0)), ?_, fun x => ?_⟩
   ·refine List.pairwise_append.2 ⟨h1.filter _, List.pairwise_cons.2 ⟨fun y hy => of_decide_eq_true (List.mem_filter.1 hy).2, h1.filter _⟩, fun y hy z hz => ?_⟩
    have hy2 : lexI (key y) (key a) < 0 := of_decide_eq_true (List.mem_filter.1 hy).2
    rcases List.mem_cons.1 hz with rfl | hz
    ·exact hy2
    ·exact ltK_trans hk hy2 (of_decide_eq_true (List.mem_filter.1 hz).2)
   ·rw [List.mem_append, List.mem_cons, List.mem_filter, List.mem_filter, List.mem_cons, ← h2]
    constructor
    ·rintro (⟨h, _⟩ | rfl | ⟨h, _⟩)
     ·exact .inr h
     ·exact .inl rfl
     ·exact .inr h
    ·rintro (rfl | h)
     ·exact .inr (.inl rfl)
     ·have hne : key x ≠ key a := fun e => ha (hi _ _ e ▸ h)
      have h3 := lexI_swap (a := key a) (b := key x) (by rw [hk, hk])
      have h4 : lexI (key x) (key a) ≠ 0 := fun e => hne ((lexI_zero (by rw [hk, hk])).1 e)
      rcases Int.lt_or_gt_of_ne h4 with h5 | h5
      ·exact .inl ⟨h, decide_eq_true h5⟩
      ·exact .inr (.inr ⟨h, decide_eq_true (by omega)⟩)
end
theorem trc_ex (l : List Rs) : ∃ tr, IsTrc l tr := by
 obtain ⟨tr, h1, h2⟩ := ascK_ex (key := trk) trk_len (fun x y h => trk_inj h) ((l.filter vldRs).map trcR)
 refine ⟨tr, h1, fun t => ?_⟩
 rw [h2, List.mem_map]
 constructor
 ·rintro ⟨r, hr, e⟩
  have := List.mem_filter.1 hr
  exact ⟨r, this.1, this.2, e⟩
 ·rintro ⟨r, h3, h4, e⟩
  exact ⟨r, List.mem_filter.2 ⟨h3, h4⟩, e⟩
/-! ### the error -/
theorem chk_err {l : List Rs} {fs : Spot → Option Int} {e : Int} (h : ChkP l e) (h0 : e ≠ 0) : ErrOk l fs e := by
 rcases h with ⟨h1, h2⟩ | ⟨h2, o, ho, ⟨h3, h4⟩ | ⟨h4, ⟨h5, x, hx, y, hy, hn⟩ | ⟨h5, _⟩⟩⟩
 ·exact .inl ⟨h1, h2⟩
 ·exact .inr ⟨h2, o, ho, .inl ⟨h3, h4⟩⟩
 ·obtain ⟨tr, ht⟩ := trc_ex l
  refine .inr ⟨h2, o, ho, .inr ⟨h4, tr, ht, .inl ⟨h5, ?_⟩⟩⟩
  have a1 := (ht.2 (trcR x)).2 ⟨x, ((ho.2 x).1 hx).1, ((ho.2 x).1 hx).2, rfl⟩
  have a2 := (ht.2 (trcR y)).2 ⟨y, ((ho.2 y).1 hy).1, ((ho.2 y).1 hy).2, rfl⟩
  cases tr with
  | nil => cases a1
  | cons a t => cases t with
   | nil => exact absurd ((List.mem_singleton.1 a1).trans (List.mem_singleton.1 a2).symm) hn
   | cons b t => show 1 < t.length + 1 + 1; omega
 ·exact absurd h5 h0
theorem chk_zero {l o : List Rs} {e : Int} (h : ChkP l e) (h0 : e = 0) (ho : IsOrd l o) : (l.any fun r => !vldRs r) = false ∧ o.length ≤ 512 ∧ ∀ x ∈ o, ∀ y ∈ o, trcR x = trcR y := by
 subst h0
 rcases h with ⟨h1, h2⟩ | ⟨h2, o', ho', ⟨h3, h4⟩ | ⟨h4, ⟨h5, x, hx, y, hy, hn⟩ | ⟨h5, h6⟩⟩⟩
 ·cases h1
 ·cases h3
 ·cases h5
 ·obtain rfl := ho.eq ho'
  exact ⟨h2, h4, h6⟩
theorem err_end {l o : List Rs} {fs : Spot → Option Int} {e : Int} (ho : IsOrd l o) (h : (l.any fun r => !vldRs r) = false ∧ o.length ≤ 512 ∧ ∀ x ∈ o, ∀ y ∈ o, trcR x = trcR y) (he : (e = 30 ∧ ∃ s, fs s = some 3) ∨ (e = 0 ∧ ¬ ∃ s, fs s = some 3)) : ErrOk l fs e := by
 obtain ⟨tr, ht⟩ := trc_ex l
 refine .inr ⟨h.1, o, ho, .inr ⟨h.2.1, tr, ht, .inr ⟨?_, he⟩⟩⟩
 have hal : ∀ a ∈ tr, ∀ b ∈ tr, a = b := fun a ha b hb => by
  obtain ⟨r, h1, h2, rfl⟩ := (ht.2 a).1 ha
  obtain ⟨r', h3, h4, rfl⟩ := (ht.2 b).1 hb
  exact h.2.2 r ((ho.2 r).2 ⟨h1, h2⟩) r' ((ho.2 r').2 ⟨h3, h4⟩)
 cases tr with
 | nil => exact Nat.zero_le _
 | cons a t => cases t with
  | nil => exact Nat.le_refl _
  | cons b t =>
   have h1 := (List.pairwise_cons.1 ht.1).1 b List.mem_cons_self
   rw [hal a List.mem_cons_self b (List.mem_cons_of_mem _ List.mem_cons_self)] at h1
   exact absurd h1 (ltK_irrefl (key := trk) b)
theorem usb_vld {r : Rs} (h : usbRs r = true) : vldRs r = true := by unfold usbRs at h; simp only [Bool.and_eq_true] at h; exact h.2
theorem ord_use {l o : List Rs} (ho : IsOrd l o) : SameUse l o := fun r hr => ⟨fun h => (ho.2 r).2 ⟨h, usb_vld hr⟩, fun h => ((ho.2 r).1 h).1⟩
theorem ord_nil {l o : List Rs} (ho : IsOrd l o) (h : (l.any fun r => !vldRs r) = false) (hn : o.length = 0) : l = [] := by
 obtain rfl := List.eq_nil_of_length_eq_zero hn
 refine List.eq_nil_iff_forall_not_mem.2 fun r hr => ?_
 have h1 := List.any_eq_false.1 h r hr
 exact absurd ((ho.2 r).2 ⟨hr, by simpa using h1⟩) List.not_mem_nil
/-! ### the groups, as far as the flows and TTLs are done -/
def Dn (fl : List Int) (i : Nat) (t : Int) (f t' : Int) : Prop := ∃ j, fl[j]? = some f ∧ (j < i ∨ (j = i ∧ t' < t))
def HopQ (o : List Rs) (D : Int → Int → Prop) (k : List Int) (f : Int) : Prop := ∃ t a, k = [t, a] ∧ (vwS (endT o) o ⟨f, t⟩).2 ≠ 0 ∧ (vwS (endT o) o ⟨f, t⟩).1 = a ∧ D f t
def EdgQ (o : List Rs) (D : Int → Int → Prop) (k : List Int) (f : Int) : Prop := ∃ t a b, k = [t, a, b] ∧ (vwS (endT o) o ⟨f, t⟩).2 ≠ 0 ∧ hasV o ⟨f, t + 1⟩ ∧ (vwS (endT o) o ⟨f, t⟩).1 = a ∧ (vwS (endT o) o ⟨f, t + 1⟩).1 = b ∧ D f t
structure BInv (o : List Rs) (fl : List Int) (i : Nat) (t : Int) (hs : List Hpx) (es : List Ed) : Prop where
 gh : GrOk hpk (fun x : Hpx => x.fl.l) (HopQ o (Dn fl i t)) hs
 ge : GrOk edk (fun x : Ed => x.fl.l) (EdgQ o (Dn fl i t)) es
 no : ∀ f t', Dn fl i t f t' → (vwS (endT o) o ⟨f, t'⟩).2 ≠ 3
theorem GrOk.congr {α : Type} {key fl : α → List Int} {P P' : List Int → Int → Prop} {hs : List α} (h : GrOk key fl P hs) (hP : ∀ k f, P k f ↔ P' k f) : GrOk key fl P' hs := ⟨h.1, h.2.1, fun k f => (h.2.2 k f).trans (hP k f)⟩
theorem at_vw1 {o : List Rs} {f t : Int} : (vwS (endT o) o ⟨f, t⟩).1 = atA o f t := by rw [at_vw]
theorem at_vw2 {o : List Rs} {f t : Int} : (vwS (endT o) o ⟨f, t⟩).2 = atS o f t := by rw [at_vw]
theorem vw_ttl {o : List Rs} {f t : Int} (h : (vwS (endT o) o ⟨f, t⟩).2 ≠ 0) : 1 ≤ t ∧ t ≤ topT o ∧ ∃ r ∈ o, usbRs r = true ∧ r.flow = f := by
 obtain ⟨r, h1, h2, h3⟩ := vw_used h
 have e1 : r.flow = f := congrArg Spot.flow h3
 have e2 : r.ttl = t := congrArg Spot.ttl h3
 have h4 := use_rng h2
 have h5 := (top_ge o 0).2 r h1 (use_usb h2)
 have h6 : topT o = o.foldl (fun n r => if usbRs r then max n r.ttl else n) 0 := rfl
 refine ⟨by omega, by omega, r, h1, use_usb h2, e1⟩
theorem top_rng (o : List Rs) : 0 ≤ topT o ∧ topT o ≤ 255 := ⟨(top_ge o 0).1, top_le o 0 255 (by decide) fun r _ hu => (use_rng (e := 0) (by unfold useR; simp [hu])).2.2.2⟩
theorem flk_at {fl : List Int} (h : AscK flk fl) {i j : Nat} {f g : Int} (hi : fl[i]? = some f) (hj : fl[j]? = some g) (hij : i < j) : f < g := by
 obtain ⟨i1, i2⟩ := List.getElem?_eq_some_iff.1 hi
 obtain ⟨j1, j2⟩ := List.getElem?_eq_some_iff.1 hj
 have := List.pairwise_iff_getElem.1 h i j i1 j1 hij
 rw [i2, j2] at this
 exact flk_lt.1 this
section
variable {o l : List Rs} {fl : List Int} {i : Nat} {t f0 : Int} {hs : List Hpx} {es : List Ed}
theorem dn_step (h : AscK flk fl) (hf : fl[i]? = some f0) {f t' : Int} : Dn fl i (t + 1) f t' ↔ Dn fl i t f t' ∨ (f = f0 ∧ t' = t) := by
 constructor
 ·rintro ⟨j, h1, h2 | ⟨rfl, h2⟩⟩
  ·exact .inl ⟨j, h1, .inl h2⟩
  ·by_cases h3 : t' < t
   ·exact .inl ⟨j, h1, .inr ⟨rfl, h3⟩⟩
   ·rw [hf] at h1; cases h1
    exact .inr ⟨rfl, by omega⟩
 ·rintro (⟨j, h1, h2 | ⟨rfl, h2⟩⟩ | ⟨rfl, rfl⟩)
  ·exact ⟨j, h1, .inl h2⟩
  ·exact ⟨j, h1, .inr ⟨rfl, by omega⟩⟩
  ·exact ⟨i, hf, .inr ⟨rfl, by omega⟩⟩
theorem dn_next {f t' : Int} (hu : (vwS (endT o) o ⟨f, t'⟩).2 ≠ 0) (ht : topT o < t) : Dn fl i t f t' ↔ Dn fl (i + 1) 1 f t' := by
 have h0 := vw_ttl hu
 constructor
 ·rintro ⟨j, h1, h2 | ⟨rfl, h2⟩⟩
  ·exact ⟨j, h1, .inl (by omega)⟩
  ·exact ⟨j, h1, .inl (by omega)⟩
 ·rintro ⟨j, h1, h2 | ⟨rfl, h2⟩⟩
  ·by_cases h3 : j = i
   ·exact ⟨j, h1, .inr ⟨h3, by omega⟩⟩
   ·exact ⟨j, h1, .inl (by omega)⟩
  ·omega
theorem dn_zero {f t' : Int} (hu : (vwS (endT o) o ⟨f, t'⟩).2 ≠ 0) : ¬ Dn fl 0 1 f t' := by
 rintro ⟨j, h1, h2 | ⟨rfl, h2⟩⟩
 ·omega
 ·have h0 := vw_ttl hu
  omega
theorem dn_all (h : IsFl o fl) {f t' : Int} (hu : (vwS (endT o) o ⟨f, t'⟩).2 ≠ 0) : Dn fl fl.length 1 f t' := by
 obtain ⟨_, _, h1⟩ := vw_ttl hu
 obtain ⟨j, hj⟩ := List.getElem?_of_mem ((h.2 f).2 h1)
 exact ⟨j, hj, .inl (List.getElem?_eq_some_iff.1 hj).1⟩
theorem HopQ.congr {D D' : Int → Int → Prop} (h : ∀ f t, (vwS (endT o) o ⟨f, t⟩).2 ≠ 0 → (D f t ↔ D' f t)) (k : List Int) (f : Int) : HopQ o D k f ↔ HopQ o D' k f := by
 constructor
 ·rintro ⟨t, a, e, h1, h2, h3⟩; exact ⟨t, a, e, h1, h2, (h f t h1).1 h3⟩
 ·rintro ⟨t, a, e, h1, h2, h3⟩; exact ⟨t, a, e, h1, h2, (h f t h1).2 h3⟩
theorem EdgQ.congr {D D' : Int → Int → Prop} (h : ∀ f t, (vwS (endT o) o ⟨f, t⟩).2 ≠ 0 → hasV o ⟨f, t + 1⟩ → (D f t ↔ D' f t)) (k : List Int) (f : Int) : EdgQ o D k f ↔ EdgQ o D' k f := by
 constructor
 ·rintro ⟨t, a, b, e, h1, h2, h3, h4, h5⟩; exact ⟨t, a, b, e, h1, h2, h3, h4, (h f t h1 h2).1 h5⟩
 ·rintro ⟨t, a, b, e, h1, h2, h3, h4, h5⟩; exact ⟨t, a, b, e, h1, h2, h3, h4, (h f t h1 h2).2 h5⟩
theorem BInv.zero : BInv o fl 0 1 [] [] := ⟨⟨List.Pairwise.nil, fun x hx => absurd hx List.not_mem_nil, fun k f => ⟨fun ⟨x, hx, _⟩ => absurd hx List.not_mem_nil, fun ⟨t, a, _, h1, _, h2⟩ => absurd h2 (dn_zero h1)⟩⟩,
 ⟨List.Pairwise.nil, fun x hx => absurd hx List.not_mem_nil, fun k f => ⟨fun ⟨x, hx, _⟩ => absurd hx List.not_mem_nil, fun ⟨t, a, b, _, h1, _, _, _, h2⟩ => absurd h2 (dn_zero h1)⟩⟩,
 fun f t' h1 h2 => dn_zero (o := o) (by rw [h2]; decide) h1⟩
theorem BInv.next (h : BInv o fl i t hs es) (ht : ¬ t ≤ topT o) : BInv o fl (i + 1) 1 hs es := ⟨h.gh.congr (HopQ.congr fun f t h1 => dn_next h1 (by omega)), h.ge.congr (EdgQ.congr fun f t h1 _ => dn_next h1 (by omega)), fun f t' h1 h2 => h.no f t' ((dn_next (by rw [h2]; decide) (by omega)).2 h1) h2⟩
theorem BInv.skip (h : BInv o fl i t hs es) (ha : AscK flk fl) (hf : fl[i]? = some f0) (h0 : atS o f0 t = 0) : BInv o fl i (t + 1) hs es := by
 have hn : ∀ f t', (vwS (endT o) o ⟨f, t'⟩).2 ≠ 0 → (Dn fl i t f t' ↔ Dn fl i (t + 1) f t') := fun f t' h1 => by
  rw [dn_step ha hf]
  exact ⟨.inl, fun h2 => h2.elim id fun ⟨e1, e2⟩ => absurd (by rw [e1, e2, at_vw2]; exact h0) h1⟩
 exact ⟨h.gh.congr (HopQ.congr hn), h.ge.congr (EdgQ.congr fun f t h1 _ => hn f t h1), fun f t' h1 h2 => h.no f t' ((hn f t' (by rw [h2]; decide)).2 h1) h2⟩
theorem BInv.hop (h : BInv o fl i t hs es) (ha : AscK flk fl) (hf : fl[i]? = some f0) (h0 : atS o f0 t ≠ 0) {hs2 : List Hpx} (hh : GrOk hpk (fun x : Hpx => x.fl.l) (fun q g => HopQ o (Dn fl i t) q g ∨ (q = [t, atA o f0 t] ∧ g = f0)) hs2) : GrOk hpk (fun x : Hpx => x.fl.l) (HopQ o (Dn fl i (t + 1))) hs2 := hh.congr fun k f => by
 constructor
 ·rintro (⟨t', a, e, h1, h2, h3⟩ | ⟨rfl, rfl⟩)
  ·exact ⟨t', a, e, h1, h2, (dn_step ha hf).2 (.inl h3)⟩
  ·exact ⟨t, _, rfl, by rw [at_vw2]; exact h0, at_vw1, (dn_step ha hf).2 (.inr ⟨rfl, rfl⟩)⟩
 ·rintro ⟨t', a, rfl, h1, h2, h3⟩
  rcases (dn_step ha hf).1 h3 with h4 | ⟨rfl, rfl⟩
  ·exact .inl ⟨t', a, rfl, h1, h2, h4⟩
  ·exact .inr ⟨by rw [← h2, at_vw1], rfl⟩
theorem BInv.noSt (h : BInv o fl i t hs es) (ha : AscK flk fl) (hf : fl[i]? = some f0) (h3 : atS o f0 t ≠ 3) : ∀ f t', Dn fl i (t + 1) f t' → (vwS (endT o) o ⟨f, t'⟩).2 ≠ 3 := fun f t' h1 => by
 rcases (dn_step ha hf).1 h1 with h2 | ⟨rfl, rfl⟩
 ·exact h.no f t' h2
 ·rw [at_vw2]; exact h3
theorem hasV_at {f : Int} : hasV o ⟨f, t⟩ ↔ atS o f t = 2 ∨ atS o f t = 1 := by unfold hasV; rw [at_vw2]
theorem BInv.put0 (h : BInv o fl i t hs es) (ha : AscK flk fl) (hf : fl[i]? = some f0) (h0 : atS o f0 t ≠ 0) (h3 : atS o f0 t ≠ 3) {hs2 : List Hpx} (hh : GrOk hpk (fun x : Hpx => x.fl.l) (fun q g => HopQ o (Dn fl i t) q g ∨ (q = [t, atA o f0 t] ∧ g = f0)) hs2) (h4 : atS o f0 (t + 1) ≠ 2) (h5 : atS o f0 (t + 1) ≠ 1) : BInv o fl i (t + 1) hs2 es := by
 refine ⟨h.hop ha hf h0 hh, h.ge.congr (EdgQ.congr fun f t' h1 h2 => ?_), h.noSt ha hf h3⟩
 rw [dn_step ha hf]
 exact ⟨.inl, fun h6 => h6.elim id fun ⟨e1, e2⟩ => absurd h2 (by rw [e1, e2, hasV_at]; omega)⟩
theorem BInv.put1 (h : BInv o fl i t hs es) (ha : AscK flk fl) (hf : fl[i]? = some f0) (h0 : atS o f0 t ≠ 0) (h3 : atS o f0 t ≠ 3) {hs2 : List Hpx} (hh : GrOk hpk (fun x : Hpx => x.fl.l) (fun q g => HopQ o (Dn fl i t) q g ∨ (q = [t, atA o f0 t] ∧ g = f0)) hs2) (h4 : atS o f0 (t + 1) = 2 ∨ atS o f0 (t + 1) = 1) {es2 : List Ed} (he : GrOk edk (fun x : Ed => x.fl.l) (fun q g => EdgQ o (Dn fl i t) q g ∨ (q = [t, atA o f0 t, atA o f0 (t + 1)] ∧ g = f0)) es2) : BInv o fl i (t + 1) hs2 es2 := by
 refine ⟨h.hop ha hf h0 hh, he.congr fun k f => ?_, h.noSt ha hf h3⟩
 constructor
 ·rintro (⟨t', a, b, e, h1, h2, h6, h7, h8⟩ | ⟨rfl, rfl⟩)
  ·exact ⟨t', a, b, e, h1, h2, h6, h7, (dn_step ha hf).2 (.inl h8)⟩
  ·exact ⟨t, _, _, rfl, by rw [at_vw2]; exact h0, hasV_at.2 h4, at_vw1, at_vw1, (dn_step ha hf).2 (.inr ⟨rfl, rfl⟩)⟩
 ·rintro ⟨t', a, b, rfl, h1, h2, h6, h7, h8⟩
  rcases (dn_step ha hf).1 h8 with h9 | ⟨rfl, rfl⟩
  ·exact .inl ⟨t', a, b, rfl, h1, h2, h6, h7, h9⟩
  ·exact .inr ⟨by rw [← h6, ← h7, at_vw1, at_vw1], rfl⟩
theorem dn_lt (ha : AscK flk fl) (hf : fl[i]? = some f0) {g : Int} (h : Dn fl i t g t) : g < f0 := by
 obtain ⟨j, h1, h2 | ⟨_, h2⟩⟩ := h
 ·exact flk_at ha h1 hf h2
 ·omega
theorem hopQ_lt (ha : AscK flk fl) (hf : fl[i]? = some f0) {a : Int} : ∀ g, HopQ o (Dn fl i t) [t, a] g → g < f0 := by
 rintro g ⟨t', a', e, h1, h2, h3⟩
 simp only [List.cons.injEq, and_true] at e
 exact dn_lt ha hf (e.1 ▸ h3)
theorem edgQ_lt (ha : AscK flk fl) (hf : fl[i]? = some f0) {a b : Int} : ∀ g, EdgQ o (Dn fl i t) [t, a, b] g → g < f0 := by
 rintro g ⟨t', a', b', e, h1, h2, h3, h4, h5⟩
 simp only [List.cons.injEq, and_true] at e
 exact dn_lt ha hf (e.1 ▸ h5)
theorem BInv.hlen (h : BInv o fl i t hs es) : hs.length ≤ o.length := by
 have hn : (hs.map hpk).Nodup := List.pairwise_map.2 (h.gh.1.imp fun {x y} hxy e => by rw [e] at hxy; exact absurd hxy (ltK_irrefl (key := hpk) y))
 have := nodup_len (F := o.map fun r => [r.ttl, (vwS (endT o) o (spotR r)).1]) hn fun k hk => by
  obtain ⟨x, hx, rfl⟩ := List.mem_map.1 hk
  obtain ⟨f, hf⟩ := List.exists_mem_of_ne_nil _ (h.gh.2.1 x hx).2
  obtain ⟨t, a, e, h1, h2, _⟩ := (gr_flows hpk_len h.gh hx f).1 hf
  obtain ⟨r, hr, _, hr2⟩ := vw_used h1
  refine List.mem_map.2 ⟨r, hr, ?_⟩
  rw [e, hr2, h2]
  have : r.ttl = t := congrArg Spot.ttl hr2
  rw [this]
 rwa [List.length_map, List.length_map] at this
theorem BInv.elen (h : BInv o fl i t hs es) : es.length ≤ o.length := by
 have hn : (es.map edk).Nodup := List.pairwise_map.2 (h.ge.1.imp fun {x y} hxy e => by rw [e] at hxy; exact absurd hxy (ltK_irrefl (key := edk) y))
 have := nodup_len (F := o.map fun r => [r.ttl, (vwS (endT o) o (spotR r)).1, (vwS (endT o) o ⟨r.flow, r.ttl + 1⟩).1]) hn fun k hk => by
  obtain ⟨x, hx, rfl⟩ := List.mem_map.1 hk
  obtain ⟨f, hf⟩ := List.exists_mem_of_ne_nil _ (h.ge.2.1 x hx).2
  obtain ⟨t, a, b, e, h1, h2, h3, h4, _⟩ := (gr_flows edk_len h.ge hx f).1 hf
  obtain ⟨r, hr, _, hr2⟩ := vw_used h1
  refine List.mem_map.2 ⟨r, hr, ?_⟩
  have e1 : r.ttl = t := congrArg Spot.ttl hr2
  have e2 : r.flow = f := congrArg Spot.flow hr2
  rw [e, hr2, h3, e1, e2, h4]
 rwa [List.length_map, List.length_map] at this
theorem BInv.hfl (h : BInv o fl i t hs es) : ∀ x ∈ hs, x.fl.l.length ≤ o.length := fun x hx => flows_len (h.gh.2.1 x hx).1 fun f hf => by
 obtain ⟨t, a, e, h1, h2, _⟩ := (gr_flows hpk_len h.gh hx f).1 hf
 exact ⟨t, h1⟩
theorem BInv.efl (h : BInv o fl i t hs es) : ∀ x ∈ es, x.fl.l.length ≤ o.length := fun x hx => flows_len (h.ge.2.1 x hx).1 fun f hf => by
 obtain ⟨t, a, b, e, h1, _⟩ := (gr_flows edk_len h.ge hx f).1 hf
 exact ⟨t, h1⟩
theorem BInv.eok (h : BInv o fl i t hs es) (hok : ∀ r ∈ o, r.Ok) : ∀ x ∈ es, EdOk x := fun x hx => by
 obtain ⟨f, hf⟩ := List.exists_mem_of_ne_nil _ (h.ge.2.1 x hx).2
 obtain ⟨t, a, b, e, h1, h2, h3, h4, _⟩ := (gr_flows edk_len h.ge hx f).1 hf
 have e3 := vw_rng hok ⟨f, t⟩
 have e4 := vw_rng hok ⟨f, t + 1⟩
 simp only [edk, List.cons.injEq, and_true] at e
 unfold EdOk
 omega
theorem at_rng (hok : ∀ r ∈ o, r.Ok) (f t : Int) : 0 ≤ atA o f t ∧ atA o f t ≤ 4294967295 := by rw [← at_vw1]; exact vw_rng hok ⟨f, t⟩
theorem fl_len (h : IsFl o fl) : fl.length ≤ o.length := by
 have := nodup_len (F := o.map (·.flow)) (p := fl) (h.1.imp fun {x y} hxy e => by rw [e] at hxy; exact absurd hxy (ltK_irrefl (key := flk) y)) fun f hf => by
  obtain ⟨r, hr, _, e⟩ := (h.2 f).1 hf
  exact List.mem_map.2 ⟨r, hr, e⟩
 rwa [List.length_map] at this
theorem BInv.graph (h : BInv o fl fl.length 1 hs es) (hfl : IsFl o fl) (ho : IsOrd l o) (hz : (l.any fun r => !vldRs r) = false ∧ o.length ≤ 512 ∧ ∀ x ∈ o, ∀ y ∈ o, trcR x = trcR y) {x : Rs} (hx : o[0]? = some x) {A A' : Option Addr} {c c' : Nat} : GraphOk l ⟨trcR x, endT o, ⟨A, c, hs⟩, ⟨A', c', es⟩⟩ := by
 have hs_ := ord_use ho
 have hxo := List.mem_of_getElem? hx
 have g1 : ∀ k f, (∃ y ∈ hs, hpk y = k ∧ f ∈ y.fl.l) ↔ HopP l k f := fun k f => (h.gh.2.2 k f).trans (by
  unfold HopQ HopP
  simp only [hs_.vw]
  exact ⟨fun ⟨t, a, e, h1, h2, _⟩ => ⟨t, a, e, h1, h2⟩, fun ⟨t, a, e, h1, h2⟩ => ⟨t, a, e, h1, h2, dn_all hfl h1⟩⟩)
 have g2 : ∀ k f, (∃ y ∈ es, edk y = k ∧ f ∈ y.fl.l) ↔ EdgP l k f := fun k f => (h.ge.2.2 k f).trans (by
  unfold EdgQ EdgP hasV
  simp only [hs_.vw]
  exact ⟨fun ⟨t, a, b, e, h1, h2, h3, h4, _⟩ => ⟨t, a, b, e, h1, h2, h3, h4⟩, fun ⟨t, a, b, e, h1, h2, h3, h4⟩ => ⟨t, a, b, e, h1, h2, h3, h4, dn_all hfl h1⟩⟩)
 refine ⟨?_, hs_.end_.symm, ⟨h.gh.1, h.gh.2.1, fun t a f => ?_⟩, ⟨h.ge.1, h.ge.2.1, fun t a b f => ?_⟩⟩
 ·obtain ⟨y, u, rfl⟩ : ∃ y t, l = y :: t := List.exists_cons_of_ne_nil fun e => by
   have := ((ho.2 x).1 hxo).1
   rw [e] at this; cases this
  have hy := List.any_eq_false.1 hz.1 y List.mem_cons_self
  exact hz.2.2 x hxo y ((ho.2 y).2 ⟨List.mem_cons_self, by simpa using hy⟩)
 ·constructor
  ·rintro ⟨y, hy, e1, e2, hf⟩
   obtain ⟨t', a', e, h1, h2⟩ := (g1 [t, a] f).1 ⟨y, hy, by rw [hpk, e1, e2], hf⟩
   simp only [List.cons.injEq, and_true] at e
   obtain ⟨rfl, rfl⟩ := e
   exact ⟨st_none.2 h1, by rw [ad_val]; exact h2⟩
  ·rintro ⟨h1, h2⟩
   obtain ⟨y, hy, e, hf⟩ := (g1 [t, a] f).2 ⟨t, a, rfl, st_none.1 h1, by rw [← ad_val]; exact h2⟩
   simp only [hpk, List.cons.injEq, and_true] at e
   exact ⟨y, hy, e.1, e.2, hf⟩
 ·constructor
  ·rintro ⟨y, hy, e1, e2, e3, hf⟩
   obtain ⟨t', a', b', e, h1, h2, h3, h4⟩ := (g2 [t, a, b] f).1 ⟨y, hy, by rw [edk, e1, e2, e3], hf⟩
   simp only [List.cons.injEq, and_true] at e
   obtain ⟨rfl, rfl, rfl⟩ := e
   exact ⟨st_none.2 h1, has_v.2 h2, by rw [ad_val]; exact h3, by rw [ad_val]; exact h4⟩
  ·rintro ⟨h1, h2, h3, h4⟩
   obtain ⟨y, hy, e, hf⟩ := (g2 [t, a, b] f).2 ⟨t, a, b, rfl, st_none.1 h1, has_v.1 h2, by rw [← ad_val]; exact h3, by rw [← ad_val]; exact h4⟩
   simp only [edk, List.cons.injEq, and_true] at e
   exact ⟨y, hy, e.1, e.2.1, e.2.2, hf⟩
theorem BInv.no3 (h : BInv o fl fl.length 1 hs es) (hfl : IsFl o fl) (ho : IsOrd l o) : ¬ ∃ s, (lookS l).2 s = some 3 := by
 rintro ⟨⟨f, t'⟩, h1⟩
 rw [st_three, (ord_use ho).vw] at h1
 exact h.no f t' (dn_all hfl (by rw [h1]; decide)) h1
theorem has3 (ho : IsOrd l o) {f : Int} (h : atS o f t = 3) : ∃ s, (lookS l).2 s = some 3 := ⟨⟨f, t⟩, by rw [st_three, (ord_use ho).vw, at_vw2]; exact h⟩
end
section
variable {w0 : Base} {w : World} {O S T : List Pc} {r r1 : Pc}
theorem toHop (h : Pm w0 (r :: (O ++ (S ++ T))) w) : Pm w0 ([r] ++ (S ++ (O ++ T))) w := h.permute (List.Perm.cons r (by rw [← List.append_assoc, ← List.append_assoc]; exact List.perm_append_comm.append_right T))
theorem ofHop (h : Pm w0 ([r] ++ (S ++ (O ++ T))) w) : Pm w0 (r :: (O ++ (S ++ T))) w := h.permute (List.Perm.cons r (by rw [← List.append_assoc, ← List.append_assoc]; exact List.perm_append_comm.append_right T))
theorem edPerm : (r1 :: r :: (O ++ (S ++ T))).Perm ([r] ++ (T ++ (r1 :: (O ++ S)))) := (List.Perm.swap r r1 _).trans (List.Perm.cons r (by rw [← List.append_assoc, ← List.cons_append]; exact List.perm_append_comm))
theorem toEdge (h : Pm w0 (r1 :: r :: (O ++ (S ++ T))) w) : Pm w0 ([r] ++ (T ++ (r1 :: (O ++ S)))) w := h.permute edPerm
theorem ofEdge (h : Pm w0 ([r] ++ (T ++ (r1 :: (O ++ S)))) w) : Pm w0 (r1 :: r :: (O ++ (S ++ T))) w := h.permute edPerm.symm
end
theorem Pm.segAp {α : Type} {e : TypeId} {size : Nat} {enc : List α → List Value} {w0 : Base} {w : World} {P : List Pc} {a b : List (Sg α)} (h : Pm w0 (P ++ (segG e size enc a ++ segG e size enc b)) w) : Pm w0 (P ++ segG e size enc (a ++ b)) w := by
 unfold segG at *
 rw [List.map_append]; exact h
theorem no3_nil {l : List Rs} (h : l = []) : ¬ ∃ s, (lookS l).2 s = some 3 := by
 subst h
 rintro ⟨s, h⟩; cases h
set_option maxRecDepth 20000
theorem prbbld63_57317 (a0_0 : Int) (a1_0 : Int) (a2_0 : Int) (w : World) : (Instr.build 63 #[(0, .int .i64 a0_0), (1, .int .u32 a1_0), (2, .int .u32 a2_0)]).run Tryz.prog w = .ok (.agg #[.int .i64 a0_0, .int .u32 a1_0, .int .u32 a2_0, .slice none 0 0]) w := by kernel_rfl
set_option maxHeartbeats 8000000 in
theorem rbuild_any (A0 : Option Addr) (c0 : Nat) (l : List Rs) (w : World) (hr : Reads w w.heap.size 17 A0 l.length (flat Rs.cells l)) (hl1 : l.length ≤ 100000) (hok : ∀ r ∈ l, r.Ok) :
  Calls Tryz.prog 47 #[.slice A0 l.length c0] w fun e w' => ∃ x : {y : Mp × Int // BuildOk l y.1 y.2}, e = .returned (.tuple #[.agg x.1.1.cells.toArray, .int .i64 x.1.2]) ∧ Pm w x.1.1.pcs w' := by
 refine begin_ (vs := [.slice A0 l.length c0]) Tryz.func47 rfl rfl rfl ?_ (Pm.start w)
 refine zSG ?_
 refine TL.pnew rfl rfl rfl (exec_alloc (cs := [.int .i64 0, .int .u32 0, .int .i64 0, .int .i64 0, .slice none 0 0, .slice none 0 0]) rfl pbdzv36 rfl) (fun g2 => ?_)
 refine TL.as_ ?_
 refine zET (zS (zSG ?_))
 refine TL.mv ?_
 refine TL.pcallPm (α := {e : Int // ChkP l e}) (fun x => .int .i64 x.1) (fun x => []) rfl rfl rfl rfl rfl Tryz.func89 (by decide) rfl (fun w1 hw => (rchk_any A0 c0 l w1 (hr.up hw.bel) hl1 hok).mono fun en w2 ⟨x, h1, h2⟩ => ⟨x, h1, (Pm.start w1).below h2⟩) ?_
 rintro ⟨er, her⟩
 dsimp only [List.cons_append, List.nil_append]
 refine TL.as_ ?_
 refine zET (zSG ?_)
 refine TL.mv ?_
 refine TL.sp bin_neq (fun q18 => ?_) (fun q18 => ?_)
 ·refine zET (zc (zSG ?_))
  refine TL.val rfl rfl rfl (gives_build (v := .agg #[.int .i64 0, .int .u32 0, .int .i64 0, .int .i64 0, .slice none 0 0, .slice none 0 0]) rfl rfl (fun w => pbdbld36_531  w)) ?_
  refine TL.mv ?_
  refine TL.pstore (k := 0) (vs := [.int .i64 0, .int .u32 0, .int .i64 0, .int .i64 0, .slice none 0 0, .slice none 0 0]) rfl rfl rfl rfl rfl rfl rfl pbdsz36 pbdone_i64u32i64i64ss (by show 6 ≤ 6; decide) rfl ?_
  refine TL.as_ ?_
  refine zET (zr (zR ?_))
  have hB : BuildOk l Mp.zero er := ⟨chk_err her q18, fun _ => rfl, fun h1 _ => absurd h1 q18⟩
  refine TX.nilrow 63 4 ?_
  refine TX.nilrow 50 3 ?_
  exact ret_cell2 (k := 2) Tryz.results47 rfl rfl rfl Tryz.underlying36 rfl rfl (fun w1 hw => ⟨⟨(Mp.zero, er), hB⟩, rfl, show Pm w [_, _] w1 from hw.sel (.cons_cons _ (.cons_cons _ (List.nil_sublist _)))⟩)
 ·refine zET (zd (zk (zT (zSG ?_))))
  refine TL.mv ?_
  refine TL.pcallPm (α := {y : (Option Addr × Nat) × List Rs // IsOrd l y.2 ∧ y.2.length ≤ y.1.2 ∧ y.1.2 ≤ maxLen}) (fun x => .slice x.1.1.1 x.1.2.length x.1.1.2) (fun x => [.row (.slice x.1.1.1 x.1.2.length x.1.1.2) 47 17 x.1.2.length (flat Rs.cells x.1.2)]) rfl rfl rfl rfl rfl Tryz.func41 (by decide) rfl (fun w1 hw => rord_any A0 c0 l w1 (hr.up hw.bel) hl1 hok) ?_
  rintro ⟨⟨⟨R22, rc22⟩, o22⟩, hP22, hR221, hR222⟩
  dsimp only [List.cons_append, List.nil_append]
  dsimp only at hP22 hR221 hR222 ⊢
  refine TL.as_ ?_
  refine zET (zS (zS ?_))
  have hz := chk_zero her (Decidable.not_not.1 q18) hP22
  have hol := hz.2.1
  refine zG ?_
  refine TL.mv ?_
  refine TL.v (gN Tryz.underlying26) ?_
  refine TL.sp bin_eql (fun q25 => ?_) (fun q25 => ?_)
  ·refine zET (zc (zSG ?_))
   refine TL.val rfl rfl rfl (gives_build (v := .agg #[.int .i64 0, .int .u32 0, .int .i64 0, .int .i64 0, .slice none 0 0, .slice none 0 0]) rfl rfl (fun w => pbdbld36_531  w)) ?_
   refine TL.pstore (k := 1) (vs := [.int .i64 0, .int .u32 0, .int .i64 0, .int .i64 0, .slice none 0 0, .slice none 0 0]) rfl rfl rfl rfl rfl rfl rfl pbdsz36 pbdone_i64u32i64i64ss (by show 6 ≤ 6; decide) rfl ?_
   refine TL.as_ ?_
   refine zET (zr (zR ?_))
   have hB : BuildOk l Mp.zero 0 := ⟨err_end hP22 hz (.inr ⟨rfl, no3_nil (ord_nil hP22 hz.1 (by omega))⟩), fun _ => rfl, fun _ h2 => absurd (ord_nil hP22 hz.1 (by omega)) h2⟩
   refine TX.nilrow 63 4 ?_
   refine TX.nilrow 50 3 ?_
   exact ret_cell2 (k := 3) Tryz.results47 rfl rfl rfl Tryz.underlying36 rfl rfl (fun w1 hw => ⟨⟨(Mp.zero, 0), hB⟩, rfl, show Pm w [_, _] w1 from hw.sel (.cons_cons _ (.cons_cons _ (List.nil_sublist _)))⟩)
  ·refine zET (zd (zk (zT (zSG ?_))))
   refine TL.mv ?_
   refine TL.fact (p := ∃ g, R22 = some ⟨g, 0, none⟩) (fun w1 hw => rowA hw (k := 0) rfl (by omega)) ?_
   rintro ⟨g_R22, rfl⟩
   have hi28 : 0 < o22.length := by omega
   obtain ⟨x28, hx28⟩ := ex_at hi28
   refine TL.val rfl rfl rfl (gA (i := 0) Tryz.underlying26 prssz47 rfl rfl rfl rfl rfl (by omega)) ?_
   refine TL.val rfl rfl rfl (gives_loadR (off := 0 + 0 * 17) rfl rfl prsag47 prssz47 (rs_cel.len x28) (fun w1 hw j9 u9 h9 => flat_row rs_cel hw (q := 0) rfl hx28 j9 u9 h9)) ?_
   refine TL.pcall1 (r := .agg ((trcR x28).cells).toArray) rfl rfl rfl rfl rfl Tryz.func36 (by decide) rfl (fun w1 hw => rtrc_any x28 w1) ?_
   refine TL.mv ?_
   refine TL.pcall1 (r := .int .i64 (endT o22)) rfl rfl rfl rfl rfl Tryz.func48 (by decide) rfl (fun w1 hw => rend_any (some ⟨g_R22, 0, none⟩) rc22 o22 w1 (pm_rd hw (k := 0) rfl) (by omega)) ?_
   refine TL.val rfl rfl rfl (gives_build (v := .agg #[.int .i64 ((trcR x28).v), .int .u32 ((trcR x28).dst), .int .i64 ((trcR x28).proto), .int .i64 (endT o22), .slice none 0 0, .slice none 0 0]) rfl rfl (fun w => pbdbld36_98406 _ _ _ _ w)) ?_
   refine TL.pnew rfl rfl rfl (exec_alloc (cs := [.int .i64 0, .int .u32 0, .int .i64 0, .int .i64 0, .slice none 0 0, .slice none 0 0]) rfl pbdzv36 rfl) (fun g6 => ?_)
   refine TL.pstore (k := 0) (vs := [.int .i64 ((trcR x28).v), .int .u32 ((trcR x28).dst), .int .i64 ((trcR x28).proto), .int .i64 (endT o22), .slice none 0 0, .slice none 0 0]) rfl rfl rfl rfl rfl rfl rfl pbdsz36 pbdone_i64u32i64i64ss (by show 6 ≤ 6; decide) rfl ?_
   refine zET (zSG ?_)
   refine TL.mv ?_
   refine TL.pcallPm (α := {y : (Option Addr × Nat) × List Int // IsFl o22 y.2 ∧ y.2.length ≤ y.1.2 ∧ y.1.2 ≤ maxLen}) (fun x => .slice x.1.1.1 x.1.2.length x.1.1.2) (fun x => [.row (.slice x.1.1.1 x.1.2.length x.1.1.2) 3 1 x.1.2.length (flat (ic .i64) x.1.2)]) rfl rfl rfl rfl rfl Tryz.func90 (by decide) rfl (fun w1 hw => rflows_any (some ⟨g_R22, 0, none⟩) rc22 o22 w1 (pm_rd hw (k := 1) rfl) (by omega)) ?_
   rintro ⟨⟨⟨R35, rc35⟩, fl35⟩, hP35, hR351, hR352⟩
   dsimp only [List.cons_append, List.nil_append]
   dsimp only at hP35 hR351 hR352 ⊢
   refine TL.mv ?_
   refine TL.pcall1 (r := .int .i64 (topT o22)) rfl rfl rfl rfl rfl Tryz.func91 (by decide) rfl (fun w1 hw => rtop_any (some ⟨g_R22, 0, none⟩) rc22 o22 w1 (pm_rd hw (k := 2) rfl) (by omega)) ?_
   refine TL.rn 2 rfl ?_
   refine zET (zS (zS ?_))
   have hT := top_rng o22
   have hfn := fl_len hP35
   have hoko : ∀ r ∈ o22, r.Ok := fun r h => hok r ((hP22.2 r).1 h).1
   refine zG ?_
   refine TL.as_ ?_
   refine zET (zB ?_)
   refine TC.nilrow 63 4 ?_
   refine TC.nilrow 50 3 ?_
   refine TC.loop_ (α := {y : Nat × (Option Addr × Nat) × (Option Addr × Nat) × List Hpx × List Ed // y.1 ≤ fl35.length ∧ BInv o22 fl35 y.1 1 y.2.2.2.1 y.2.2.2.2 ∧ y.2.2.2.1.length ≤ y.2.1.2 ∧ y.2.1.2 ≤ maxLen ∧ y.2.2.2.2.length ≤ y.2.2.1.2 ∧ y.2.2.1.2 ≤ maxLen}) (fun y => [(2, .pointer (some ⟨g2, 0, none⟩)), (5, .slice (some ⟨g_R22, 0, none⟩) o22.length rc22), (6, .pointer (some ⟨g6, 0, none⟩)), (7, .slice R35 fl35.length rc35), (8, .int .i64 (topT o22)), (9, .int .i64 ((y.1.1 : Nat) : Int))]) (fun y => Pm w ([.row (.slice y.1.2.1.1 y.1.2.2.2.1.length y.1.2.1.2) 50 3 y.1.2.2.2.1.length (flat Hpx.cells y.1.2.2.2.1), .row (.slice y.1.2.2.1.1 y.1.2.2.2.2.length y.1.2.2.1.2) 63 4 y.1.2.2.2.2.length (flat Ed.cells y.1.2.2.2.2), .row (.slice R35 fl35.length rc35) 3 1 fl35.length (flat (ic .i64) fl35), .blk g6 36 [.int .i64 ((trcR x28).v), .int .u32 ((trcR x28).dst), .int .i64 ((trcR x28).proto), .int .i64 (endT o22), .slice y.1.2.1.1 y.1.2.2.2.1.length y.1.2.1.2, .slice y.1.2.2.1.1 y.1.2.2.2.2.length y.1.2.2.1.2], .row (.slice (some ⟨g_R22, 0, none⟩) o22.length rc22) 47 17 o22.length (flat Rs.cells o22), .blk g2 36 [.int .i64 0, .int .u32 0, .int .i64 0, .int .i64 0, .slice none 0 0, .slice none 0 0]] ++ (segG 3 1 (flat (ic .i64)) (y.1.2.2.2.1.map (·.fl)) ++ segG 3 1 (flat (ic .i64)) (y.1.2.2.2.2.map (·.fl))))) (fun y => fl35.length - y.1.1) (⟨(0, (none, 0), (none, 0), [], []), Nat.zero_le _, BInv.zero, Nat.le_refl _, Nat.zero_le _, Nat.le_refl _, Nat.zero_le _⟩) ⟨rfl, rfl, rfl, rfl, rfl, rfl, trivial⟩ (fun w1 hw => hw) ?_
   rintro ⟨⟨i, ⟨Ah, ch⟩, ⟨Ae, ce⟩, hs, es⟩, hi, hI, hc1, hc2, hc3, hc4⟩
   dsimp only at hi hI hc1 hc2 hc3 hc4 ⊢
   refine zS (zSG ?_)
   refine TL.rn 2 rfl ?_
   refine TL.v (gN Tryz.underlying48) ?_
   refine TL.sp bin_lss (fun q41 => ?_) (fun q41 => ?_)
   ·refine zET (zc (zk (zT (zS (zB (zSG ?_))))))
    refine TL.as_ ?_
    refine zET (zB ?_)
    refine TC.loop_ (α := {y : Int × (Option Addr × Nat) × (Option Addr × Nat) × List Hpx × List Ed // (1 ≤ y.1 ∧ y.1 ≤ topT o22 + 1) ∧ BInv o22 fl35 i y.1 y.2.2.2.1 y.2.2.2.2 ∧ y.2.2.2.1.length ≤ y.2.1.2 ∧ y.2.1.2 ≤ maxLen ∧ y.2.2.2.2.length ≤ y.2.2.1.2 ∧ y.2.2.1.2 ≤ maxLen}) (fun y => [(2, .pointer (some ⟨g2, 0, none⟩)), (5, .slice (some ⟨g_R22, 0, none⟩) o22.length rc22), (6, .pointer (some ⟨g6, 0, none⟩)), (7, .slice R35 fl35.length rc35), (8, .int .i64 (topT o22)), (9, .int .i64 ((i : Nat) : Int)), (41, .bool true), (10, .int .i64 y.1.1)]) (fun y => Pm w ([.row (.slice y.1.2.1.1 y.1.2.2.2.1.length y.1.2.1.2) 50 3 y.1.2.2.2.1.length (flat Hpx.cells y.1.2.2.2.1), .row (.slice y.1.2.2.1.1 y.1.2.2.2.2.length y.1.2.2.1.2) 63 4 y.1.2.2.2.2.length (flat Ed.cells y.1.2.2.2.2), .row (.slice R35 fl35.length rc35) 3 1 fl35.length (flat (ic .i64) fl35), .blk g6 36 [.int .i64 ((trcR x28).v), .int .u32 ((trcR x28).dst), .int .i64 ((trcR x28).proto), .int .i64 (endT o22), .slice y.1.2.1.1 y.1.2.2.2.1.length y.1.2.1.2, .slice y.1.2.2.1.1 y.1.2.2.2.2.length y.1.2.2.1.2], .row (.slice (some ⟨g_R22, 0, none⟩) o22.length rc22) 47 17 o22.length (flat Rs.cells o22), .blk g2 36 [.int .i64 0, .int .u32 0, .int .i64 0, .int .i64 0, .slice none 0 0, .slice none 0 0]] ++ (segG 3 1 (flat (ic .i64)) (y.1.2.2.2.1.map (·.fl)) ++ segG 3 1 (flat (ic .i64)) (y.1.2.2.2.2.map (·.fl))))) (fun y => (topT o22 + 1 - y.1.1).toNat) (⟨(1, (Ah, ch), (Ae, ce), hs, es), ⟨by dsimp only; omega, by dsimp only; omega⟩, hI, hc1, hc2, hc3, hc4⟩) ⟨rfl, rfl, rfl, rfl, rfl, rfl, rfl, rfl, trivial⟩ (fun w1 hw => hw) ?_
    rintro ⟨⟨t, ⟨Bh, dh⟩, ⟨Be, de⟩, hq, eq⟩, ht, hJ, hd1, hd2, hd3, hd4⟩
    dsimp only at ht hJ hd1 hd2 hd3 hd4 ⊢
    refine zS (zSG ?_)
    refine TL.rn 2 rfl ?_
    refine TL.sp bin_leq (fun q46 => ?_) (fun q46 => ?_)
    ·refine zET (zc (zk (zT (zS (zB (zS ?_))))))
     have hJh := hJ.hlen
     have hJe := hJ.elen
     refine zG ?_
     refine TL.rn 3 rfl ?_
     refine TL.fact (p := ∃ g, R35 = some ⟨g, 0, none⟩) (fun w1 hw => rowA hw (k := 2) rfl (by omega)) ?_
     rintro ⟨g_R35, rfl⟩
     have hi53 : i < fl35.length := by omega
     obtain ⟨x53, hx53⟩ := ex_at hi53
     refine TL.val rfl rfl rfl (gA (i := i) Tryz.underlying48 pcmsz3 rfl rfl rfl rfl rfl (by omega)) ?_
     refine TL.val rfl rfl rfl (gives_load (v := .int .i64 x53) rfl rfl pcmag3 (fun w1 hw => flat_row (ic_cel .i64) hw (q := 2) rfl hx53 0 _ rfl)) ?_
     refine TL.mv ?_
     refine TL.pcall1 (r := .tuple #[.int .u32 (atA o22 x53 t), .int .i64 (atS o22 x53 t)]) rfl rfl rfl rfl rfl Tryz.func50 (by decide) rfl (fun w1 hw => rat_any (some ⟨g_R22, 0, none⟩) rc22 o22 x53 t w1 (pm_rd hw (k := 4) rfl) (by omega)) ?_
     refine TL.rn 5 rfl ?_
     refine zET (zS (zSG ?_))
     refine TL.mv ?_
     refine TL.sp bin_eql (fun q60 => ?_) (fun q60 => ?_)
     ·refine zET (zc (zSG ?_))
      refine TL.val rfl rfl rfl (gives_build (v := .agg #[.int .i64 0, .int .u32 0, .int .i64 0, .int .i64 0, .slice none 0 0, .slice none 0 0]) rfl rfl (fun w => pbdbld36_531  w)) ?_
      refine TL.pstore (k := 5) (vs := [.int .i64 0, .int .u32 0, .int .i64 0, .int .i64 0, .slice none 0 0, .slice none 0 0]) rfl rfl rfl rfl rfl rfl rfl pbdsz36 pbdone_i64u32i64i64ss (by show 6 ≤ 6; decide) rfl ?_
      refine TL.as_ ?_
      refine zET (zr (zR (zRR (zR (TX.in_ret (zRR (zR (zRR ?_))))))))
      have hB : BuildOk l Mp.zero 30 := ⟨err_end hP22 hz (.inl ⟨rfl, has3 hP22 q60⟩), fun _ => rfl, fun h1 _ => absurd h1 (by decide)⟩
      refine TX.nilrow 63 4 ?_
      refine TX.nilrow 50 3 ?_
      exact ret_cell2 (k := 7) Tryz.results47 rfl rfl rfl Tryz.underlying36 rfl rfl (fun w1 hw => ⟨⟨(Mp.zero, 30), hB⟩, rfl, show Pm w [_, _] w1 from hw.sel (.cons_cons _ (.cons_cons _ (List.nil_sublist _)))⟩)
     ·refine zET (zd (zk (zT (zS (zSG ?_)))))
      refine TL.mv ?_
      refine TL.sp bin_eql (fun q63 => ?_) (fun q63 => ?_)
      ·refine zET (zc (zx (zX (zM (zT (zG ?_))))))
       refine TL.mv ?_
       refine TL.v (gD (t + 1)) ?_
       refine TL.as_ ?_
       refine zE ?_
       exact TX.round (⟨(t + 1, (Bh, dh), (Be, de), hq, eq), ⟨by dsimp only; omega, by dsimp only; omega⟩, hJ.skip hP35.1 hx53 q63, hd1, hd2, hd3, hd4⟩) (by show (topT o22 + 1 - (t + 1)).toNat < (topT o22 + 1 - t).toNat; omega) ⟨rfl, rfl, rfl, rfl, rfl, rfl, rfl, rfl, trivial⟩ (fun w1 hw => hw)
      ·refine zET (zd (zk (zT (zS ?_))))
       refine TC.tail 8 (by kernel_rfl) (by kernel_rfl) (fun w hw => hw.drawn _) ?_
       refine TS.v (gF pbdfld36_2) ?_
       refine TS.v (gL 3 pbdag33) ?_
       refine TS.val rfl rfl rfl (gives_move rfl rfl) ?_
       refine TS.val rfl rfl rfl (gives_move rfl rfl) ?_
       refine TS.val rfl rfl rfl (gives_move rfl rfl) ?_
       refine TS.val rfl rfl rfl (gives_move rfl rfl) ?_
       refine TS.val rfl rfl rfl (gA (i := i) Tryz.underlying48 pcmsz3 rfl rfl rfl rfl rfl (by omega)) ?_
       refine TS.val rfl rfl rfl (gives_load (v := .int .i64 x53) rfl rfl pcmag3 (fun w1 hw => flat_row (ic_cel .i64) hw (q := 2) rfl hx53 0 _ rfl)) ?_
       refine TS.end_ ?_
       refine TL.call (α := {y : (Option Addr × Nat) × List Hpx // GrOk hpk (fun x : Hpx => x.fl.l) (fun q g => HopQ o22 (Dn fl35 i t) q g ∨ (q = [t, atA o22 x53 t] ∧ g = x53)) y.2 ∧ y.2.length ≤ hq.length + 1 ∧ y.2.length ≤ y.1.2 ∧ y.1.2 ≤ maxLen}) (r := fun y => .slice y.1.1.1 y.1.2.length y.1.1.2) (I' := fun y => Pm w ([.row (.slice y.1.1.1 y.1.2.length y.1.1.2) 50 3 y.1.2.length (flat Hpx.cells y.1.2), .row (.slice Be eq.length de) 63 4 eq.length (flat Ed.cells eq), .row (.slice (some ⟨g_R35, 0, none⟩) fl35.length rc35) 3 1 fl35.length (flat (ic .i64) fl35), .blk g6 36 [.int .i64 ((trcR x28).v), .int .u32 ((trcR x28).dst), .int .i64 ((trcR x28).proto), .int .i64 (endT o22), .slice Bh hq.length dh, .slice Be eq.length de], .row (.slice (some ⟨g_R22, 0, none⟩) o22.length rc22) 47 17 o22.length (flat Rs.cells o22), .blk g2 36 [.int .i64 0, .int .u32 0, .int .i64 0, .int .i64 0, .slice none 0 0, .slice none 0 0]] ++ (segG 3 1 (flat (ic .i64)) (y.1.2.map (·.fl)) ++ segG 3 1 (flat (ic .i64)) (eq.map (·.fl))))) rfl rfl rfl rfl rfl Tryz.func92 (by decide) rfl (fun w1 hw => (rhop_any w ([.row (.slice Be eq.length de) 63 4 eq.length (flat Ed.cells eq), .row (.slice (some ⟨g_R35, 0, none⟩) fl35.length rc35) 3 1 fl35.length (flat (ic .i64) fl35), .blk g6 36 [.int .i64 ((trcR x28).v), .int .u32 ((trcR x28).dst), .int .i64 ((trcR x28).proto), .int .i64 (endT o22), .slice Bh hq.length dh, .slice Be eq.length de], .row (.slice (some ⟨g_R22, 0, none⟩) o22.length rc22) 47 17 o22.length (flat Rs.cells o22), .blk g2 36 [.int .i64 0, .int .u32 0, .int .i64 0, .int .i64 0, .slice none 0 0, .slice none 0 0]] ++ segG 3 1 (flat (ic .i64)) (eq.map (·.fl))) (HopQ o22 (Dn fl35 i t)) Bh hq.length dh hq t (atA o22 x53 t) x53 w1 (toHop (O := [.row (.slice Be eq.length de) 63 4 eq.length (flat Ed.cells eq), .row (.slice (some ⟨g_R35, 0, none⟩) fl35.length rc35) 3 1 fl35.length (flat (ic .i64) fl35), .blk g6 36 [.int .i64 ((trcR x28).v), .int .u32 ((trcR x28).dst), .int .i64 ((trcR x28).proto), .int .i64 (endT o22), .slice Bh hq.length dh, .slice Be eq.length de], .row (.slice (some ⟨g_R22, 0, none⟩) o22.length rc22) 47 17 o22.length (flat Rs.cells o22), .blk g2 36 [.int .i64 0, .int .u32 0, .int .i64 0, .int .i64 0, .slice none 0 0, .slice none 0 0]]) hw) rfl (by omega) hd1 hd2 hJ.gh (hopQ_lt hP35.1 hx53) (fun x hx => by have := hJ.hfl x hx; omega)).mono fun en w2 ⟨y, h1, h2⟩ => ⟨y, h1, ofHop (O := [.row (.slice Be eq.length de) 63 4 eq.length (flat Ed.cells eq), .row (.slice (some ⟨g_R35, 0, none⟩) fl35.length rc35) 3 1 fl35.length (flat (ic .i64) fl35), .blk g6 36 [.int .i64 ((trcR x28).v), .int .u32 ((trcR x28).dst), .int .i64 ((trcR x28).proto), .int .i64 (endT o22), .slice Bh hq.length dh, .slice Be eq.length de], .row (.slice (some ⟨g_R22, 0, none⟩) o22.length rc22) 47 17 o22.length (flat Rs.cells o22), .blk g2 36 [.int .i64 0, .int .u32 0, .int .i64 0, .int .i64 0, .slice none 0 0, .slice none 0 0]]) h2⟩) ?_
       rintro ⟨⟨⟨S72, sc72⟩, zs72⟩, hg72, hl72, hc72, hm72⟩
       dsimp only at hg72 hl72 hc72 hm72 ⊢
       refine TL.v (gF pbdfld36_2) ?_
       refine TL.pstore (k := 3) (vs := [.slice S72 zs72.length sc72]) rfl rfl rfl rfl rfl rfl rfl pbdsz33 pbdone_s (by show 5 ≤ 6; decide) rfl ?_
       refine zET (zSG ?_)
       refine TL.rn 3 rfl ?_
       refine TL.val rfl rfl rfl (gA (i := i) Tryz.underlying48 pcmsz3 rfl rfl rfl rfl rfl (by omega)) ?_
       refine TL.val rfl rfl rfl (gives_load (v := .int .i64 x53) rfl rfl pcmag3 (fun w1 hw => flat_row (ic_cel .i64) hw (q := 2) rfl hx53 0 _ rfl)) ?_
       refine TL.mv ?_
       refine TL.v (gD (t + 1)) ?_
       refine TL.pcall1 (r := .tuple #[.int .u32 (atA o22 x53 (t + 1)), .int .i64 (atS o22 x53 (t + 1))]) rfl rfl rfl rfl rfl Tryz.func50 (by decide) rfl (fun w1 hw => rat_any (some ⟨g_R22, 0, none⟩) rc22 o22 x53 (t + 1) w1 (pm_rd hw (k := 4) rfl) (by omega)) ?_
       refine TL.rn 5 rfl ?_
       refine zET (zSG ?_)
       refine TL.mv ?_
       refine TL.sp bin_eql (fun q86 => ?_) (fun q86 => ?_)
       ·refine TL.rn 4 rfl ?_
        refine zET (zc ?_)
        refine TC.tail 10 (by kernel_rfl) (by kernel_rfl) (fun w hw => hw.drawn _) ?_
        refine TS.v (gF pbdfld36_3) ?_
        refine TS.v (gL 3 pbdag34) ?_
        refine TS.val rfl rfl rfl (gives_move rfl rfl) ?_
        refine TS.val rfl rfl rfl (gives_move rfl rfl) ?_
        refine TS.val rfl rfl rfl (gives_move rfl rfl) ?_
        refine TS.val rfl rfl rfl (gives_build (v := .agg #[.int .i64 t, .int .u32 (atA o22 x53 t), .int .u32 (atA o22 x53 (t + 1)), .slice none 0 0]) rfl rfl (fun w => prbbld63_57317 _ _ _ w)) ?_
        refine TS.val rfl rfl rfl (gives_move rfl rfl) ?_
        refine TS.val rfl rfl rfl (gives_move rfl rfl) ?_
        refine TS.val rfl rfl rfl (gA (i := i) Tryz.underlying48 pcmsz3 rfl rfl rfl rfl rfl (by omega)) ?_
        refine TS.val rfl rfl rfl (gives_load (v := .int .i64 x53) rfl rfl pcmag3 (fun w1 hw => flat_row (ic_cel .i64) hw (q := 2) rfl hx53 0 _ rfl)) ?_
        refine TS.end_ ?_
        refine TL.call (α := {y : (Option Addr × Nat) × List Ed // GrOk edk (fun x : Ed => x.fl.l) (fun q g => EdgQ o22 (Dn fl35 i t) q g ∨ (q = [t, atA o22 x53 t, atA o22 x53 (t + 1)] ∧ g = x53)) y.2 ∧ y.2.length ≤ eq.length + 1 ∧ y.2.length ≤ y.1.2 ∧ y.1.2 ≤ maxLen}) (r := fun y => .slice y.1.1.1 y.1.2.length y.1.1.2) (I' := fun y => Pm w ([.row (.slice S72 zs72.length sc72) 50 3 zs72.length (flat Hpx.cells zs72), .row (.slice y.1.1.1 y.1.2.length y.1.1.2) 63 4 y.1.2.length (flat Ed.cells y.1.2), .row (.slice (some ⟨g_R35, 0, none⟩) fl35.length rc35) 3 1 fl35.length (flat (ic .i64) fl35), .blk g6 36 [.int .i64 ((trcR x28).v), .int .u32 ((trcR x28).dst), .int .i64 ((trcR x28).proto), .int .i64 (endT o22), .slice S72 zs72.length sc72, .slice Be eq.length de], .row (.slice (some ⟨g_R22, 0, none⟩) o22.length rc22) 47 17 o22.length (flat Rs.cells o22), .blk g2 36 [.int .i64 0, .int .u32 0, .int .i64 0, .int .i64 0, .slice none 0 0, .slice none 0 0]] ++ (segG 3 1 (flat (ic .i64)) (zs72.map (·.fl)) ++ segG 3 1 (flat (ic .i64)) (y.1.2.map (·.fl))))) rfl rfl rfl rfl rfl Tryz.func93 (by decide) rfl (fun w1 hw => (redge_any w (.row (.slice S72 zs72.length sc72) 50 3 zs72.length (flat Hpx.cells zs72) :: ([.row (.slice (some ⟨g_R35, 0, none⟩) fl35.length rc35) 3 1 fl35.length (flat (ic .i64) fl35), .blk g6 36 [.int .i64 ((trcR x28).v), .int .u32 ((trcR x28).dst), .int .i64 ((trcR x28).proto), .int .i64 (endT o22), .slice S72 zs72.length sc72, .slice Be eq.length de], .row (.slice (some ⟨g_R22, 0, none⟩) o22.length rc22) 47 17 o22.length (flat Rs.cells o22), .blk g2 36 [.int .i64 0, .int .u32 0, .int .i64 0, .int .i64 0, .slice none 0 0, .slice none 0 0]] ++ segG 3 1 (flat (ic .i64)) (zs72.map (·.fl)))) (EdgQ o22 (Dn fl35 i t)) Be eq.length de eq t (atA o22 x53 t) (atA o22 x53 (t + 1)) x53 w1 (toEdge (O := [.row (.slice (some ⟨g_R35, 0, none⟩) fl35.length rc35) 3 1 fl35.length (flat (ic .i64) fl35), .blk g6 36 [.int .i64 ((trcR x28).v), .int .u32 ((trcR x28).dst), .int .i64 ((trcR x28).proto), .int .i64 (endT o22), .slice S72 zs72.length sc72, .slice Be eq.length de], .row (.slice (some ⟨g_R22, 0, none⟩) o22.length rc22) 47 17 o22.length (flat Rs.cells o22), .blk g2 36 [.int .i64 0, .int .u32 0, .int .i64 0, .int .i64 0, .slice none 0 0, .slice none 0 0]]) hw) rfl (by omega) hd3 hd4 hJ.ge (edgQ_lt hP35.1 hx53) (fun x hx => by have := hJ.efl x hx; omega) (hJ.eok hoko) ⟨at_rng hoko _ _, at_rng hoko _ _⟩).mono fun en w2 ⟨y, h1, h2⟩ => ⟨y, h1, ofEdge (O := [.row (.slice (some ⟨g_R35, 0, none⟩) fl35.length rc35) 3 1 fl35.length (flat (ic .i64) fl35), .blk g6 36 [.int .i64 ((trcR x28).v), .int .u32 ((trcR x28).dst), .int .i64 ((trcR x28).proto), .int .i64 (endT o22), .slice S72 zs72.length sc72, .slice Be eq.length de], .row (.slice (some ⟨g_R22, 0, none⟩) o22.length rc22) 47 17 o22.length (flat Rs.cells o22), .blk g2 36 [.int .i64 0, .int .u32 0, .int .i64 0, .int .i64 0, .slice none 0 0, .slice none 0 0]]) h2⟩) ?_
        rintro ⟨⟨⟨S101, sc101⟩, zs101⟩, hg101, hl101, hc101, hm101⟩
        dsimp only at hg101 hl101 hc101 hm101 ⊢
        refine TL.v (gF pbdfld36_3) ?_
        refine TL.pstore (k := 3) (vs := [.slice S101 zs101.length sc101]) rfl rfl rfl rfl rfl rfl rfl pbdsz34 pbdone_s (by show 6 ≤ 6; decide) rfl ?_
        refine zE (zN (zT (zG ?_)))
        refine TL.mv ?_
        refine TL.v (gD (t + 1)) ?_
        refine TL.as_ ?_
        refine zE ?_
        exact TX.round (⟨(t + 1, (S72, sc72), (S101, sc101), zs72, zs101), ⟨by dsimp only; omega, by dsimp only; omega⟩, hJ.put1 hP35.1 hx53 q63 q60 hg72 (.inl q86) hg101, hc72, hm72, hc101, hm101⟩) (by show (topT o22 + 1 - (t + 1)).toNat < (topT o22 + 1 - t).toNat; omega) ⟨rfl, rfl, rfl, rfl, rfl, rfl, rfl, rfl, trivial⟩ (fun w1 hw => hw)
       ·refine TL.rn 2 rfl ?_
        refine TL.gu ?_
        refine TL.sp bin_eql (fun q89 => ?_) (fun q89 => ?_)
        ·refine TL.pk ?_
         refine zET (zc ?_)
         refine TC.tail 10 (by kernel_rfl) (by kernel_rfl) (fun w hw => hw.drawn _) ?_
         refine TS.v (gF pbdfld36_3) ?_
         refine TS.v (gL 3 pbdag34) ?_
         refine TS.val rfl rfl rfl (gives_move rfl rfl) ?_
         refine TS.val rfl rfl rfl (gives_move rfl rfl) ?_
         refine TS.val rfl rfl rfl (gives_move rfl rfl) ?_
         refine TS.val rfl rfl rfl (gives_build (v := .agg #[.int .i64 t, .int .u32 (atA o22 x53 t), .int .u32 (atA o22 x53 (t + 1)), .slice none 0 0]) rfl rfl (fun w => prbbld63_57317 _ _ _ w)) ?_
         refine TS.val rfl rfl rfl (gives_move rfl rfl) ?_
         refine TS.val rfl rfl rfl (gives_move rfl rfl) ?_
         refine TS.val rfl rfl rfl (gA (i := i) Tryz.underlying48 pcmsz3 rfl rfl rfl rfl rfl (by omega)) ?_
         refine TS.val rfl rfl rfl (gives_load (v := .int .i64 x53) rfl rfl pcmag3 (fun w1 hw => flat_row (ic_cel .i64) hw (q := 2) rfl hx53 0 _ rfl)) ?_
         refine TS.end_ ?_
         refine TL.call (α := {y : (Option Addr × Nat) × List Ed // GrOk edk (fun x : Ed => x.fl.l) (fun q g => EdgQ o22 (Dn fl35 i t) q g ∨ (q = [t, atA o22 x53 t, atA o22 x53 (t + 1)] ∧ g = x53)) y.2 ∧ y.2.length ≤ eq.length + 1 ∧ y.2.length ≤ y.1.2 ∧ y.1.2 ≤ maxLen}) (r := fun y => .slice y.1.1.1 y.1.2.length y.1.1.2) (I' := fun y => Pm w ([.row (.slice S72 zs72.length sc72) 50 3 zs72.length (flat Hpx.cells zs72), .row (.slice y.1.1.1 y.1.2.length y.1.1.2) 63 4 y.1.2.length (flat Ed.cells y.1.2), .row (.slice (some ⟨g_R35, 0, none⟩) fl35.length rc35) 3 1 fl35.length (flat (ic .i64) fl35), .blk g6 36 [.int .i64 ((trcR x28).v), .int .u32 ((trcR x28).dst), .int .i64 ((trcR x28).proto), .int .i64 (endT o22), .slice S72 zs72.length sc72, .slice Be eq.length de], .row (.slice (some ⟨g_R22, 0, none⟩) o22.length rc22) 47 17 o22.length (flat Rs.cells o22), .blk g2 36 [.int .i64 0, .int .u32 0, .int .i64 0, .int .i64 0, .slice none 0 0, .slice none 0 0]] ++ (segG 3 1 (flat (ic .i64)) (zs72.map (·.fl)) ++ segG 3 1 (flat (ic .i64)) (y.1.2.map (·.fl))))) rfl rfl rfl rfl rfl Tryz.func93 (by decide) rfl (fun w1 hw => (redge_any w (.row (.slice S72 zs72.length sc72) 50 3 zs72.length (flat Hpx.cells zs72) :: ([.row (.slice (some ⟨g_R35, 0, none⟩) fl35.length rc35) 3 1 fl35.length (flat (ic .i64) fl35), .blk g6 36 [.int .i64 ((trcR x28).v), .int .u32 ((trcR x28).dst), .int .i64 ((trcR x28).proto), .int .i64 (endT o22), .slice S72 zs72.length sc72, .slice Be eq.length de], .row (.slice (some ⟨g_R22, 0, none⟩) o22.length rc22) 47 17 o22.length (flat Rs.cells o22), .blk g2 36 [.int .i64 0, .int .u32 0, .int .i64 0, .int .i64 0, .slice none 0 0, .slice none 0 0]] ++ segG 3 1 (flat (ic .i64)) (zs72.map (·.fl)))) (EdgQ o22 (Dn fl35 i t)) Be eq.length de eq t (atA o22 x53 t) (atA o22 x53 (t + 1)) x53 w1 (toEdge (O := [.row (.slice (some ⟨g_R35, 0, none⟩) fl35.length rc35) 3 1 fl35.length (flat (ic .i64) fl35), .blk g6 36 [.int .i64 ((trcR x28).v), .int .u32 ((trcR x28).dst), .int .i64 ((trcR x28).proto), .int .i64 (endT o22), .slice S72 zs72.length sc72, .slice Be eq.length de], .row (.slice (some ⟨g_R22, 0, none⟩) o22.length rc22) 47 17 o22.length (flat Rs.cells o22), .blk g2 36 [.int .i64 0, .int .u32 0, .int .i64 0, .int .i64 0, .slice none 0 0, .slice none 0 0]]) hw) rfl (by omega) hd3 hd4 hJ.ge (edgQ_lt hP35.1 hx53) (fun x hx => by have := hJ.efl x hx; omega) (hJ.eok hoko) ⟨at_rng hoko _ _, at_rng hoko _ _⟩).mono fun en w2 ⟨y, h1, h2⟩ => ⟨y, h1, ofEdge (O := [.row (.slice (some ⟨g_R35, 0, none⟩) fl35.length rc35) 3 1 fl35.length (flat (ic .i64) fl35), .blk g6 36 [.int .i64 ((trcR x28).v), .int .u32 ((trcR x28).dst), .int .i64 ((trcR x28).proto), .int .i64 (endT o22), .slice S72 zs72.length sc72, .slice Be eq.length de], .row (.slice (some ⟨g_R22, 0, none⟩) o22.length rc22) 47 17 o22.length (flat Rs.cells o22), .blk g2 36 [.int .i64 0, .int .u32 0, .int .i64 0, .int .i64 0, .slice none 0 0, .slice none 0 0]]) h2⟩) ?_
         rintro ⟨⟨⟨S101, sc101⟩, zs101⟩, hg101, hl101, hc101, hm101⟩
         dsimp only at hg101 hl101 hc101 hm101 ⊢
         refine TL.v (gF pbdfld36_3) ?_
         refine TL.pstore (k := 3) (vs := [.slice S101 zs101.length sc101]) rfl rfl rfl rfl rfl rfl rfl pbdsz34 pbdone_s (by show 6 ≤ 6; decide) rfl ?_
         refine zE (zN (zT (zG ?_)))
         refine TL.mv ?_
         refine TL.v (gD (t + 1)) ?_
         refine TL.as_ ?_
         refine zE ?_
         exact TX.round (⟨(t + 1, (S72, sc72), (S101, sc101), zs72, zs101), ⟨by dsimp only; omega, by dsimp only; omega⟩, hJ.put1 hP35.1 hx53 q63 q60 hg72 (.inr q89) hg101, hc72, hm72, hc101, hm101⟩) (by show (topT o22 + 1 - (t + 1)).toNat < (topT o22 + 1 - t).toNat; omega) ⟨rfl, rfl, rfl, rfl, rfl, rfl, rfl, rfl, trivial⟩ (fun w1 hw => hw)
        ·refine TL.pk ?_
         refine zET (zd (zk (zN (zT (zG ?_)))))
         refine TL.mv ?_
         refine TL.v (gD (t + 1)) ?_
         refine TL.as_ ?_
         refine zE ?_
         exact TX.round (⟨(t + 1, (S72, sc72), (Be, de), zs72, eq), ⟨by dsimp only; omega, by dsimp only; omega⟩, hJ.put0 hP35.1 hx53 q63 q60 hg72 q86 q89, hc72, hm72, hd3, hd4⟩) (by show (topT o22 + 1 - (t + 1)).toNat < (topT o22 + 1 - t).toNat; omega) ⟨rfl, rfl, rfl, rfl, rfl, rfl, rfl, rfl, trivial⟩ (fun w1 hw => hw)
    ·refine zET (zd (zx (zX (zX (zM (zN (zT (zG ?_))))))))
     refine TL.mv ?_
     refine TL.v (gD ((i + 1 : Nat) : Int)) ?_
     refine TL.as_ ?_
     refine zE ?_
     exact TX.round (⟨(i + 1, (Bh, dh), (Be, de), hq, eq), by dsimp only; omega, hJ.next q46, hd1, hd2, hd3, hd4⟩) (by show fl35.length - (i + 1) < fl35.length - i; omega) ⟨rfl, rfl, rfl, rfl, rfl, rfl, trivial⟩ (fun w1 hw => hw)
   ·refine zET (zd (zx (zX (zX (zM (zT (zSG ?_)))))))
    refine TL.v (gV 3 (.agg #[.int .i64 ((trcR x28).v), .int .u32 ((trcR x28).dst), .int .i64 ((trcR x28).proto), .int .i64 (endT o22), .slice Ah hs.length ch, .slice Ae es.length ce]) pbdag36 pbdsz36) ?_
    refine TL.pstore (k := 5) (vs := [.int .i64 ((trcR x28).v), .int .u32 ((trcR x28).dst), .int .i64 ((trcR x28).proto), .int .i64 (endT o22), .slice Ah hs.length ch, .slice Ae es.length ce]) rfl rfl rfl rfl rfl rfl rfl pbdsz36 pbdone_i64u32i64i64ss (by show 6 ≤ 6; decide) rfl ?_
    refine TL.as_ ?_
    refine zET (zr ?_)
    have hi2 : i = fl35.length := by omega
    rw [hi2] at hI
    have hxl := ((hP22.2 x28).1 (List.mem_of_getElem? hx28)).1
    have hB : BuildOk l (⟨trcR x28, endT o22, ⟨Ah, ch, hs⟩, ⟨Ae, ce, es⟩⟩ : Mp) 0 := ⟨err_end hP22 hz (.inr ⟨rfl, hI.no3 hP35 hP22⟩), fun h => absurd h (by rintro (h | h); exact h rfl; rw [h] at hxl; cases hxl), fun _ _ => hI.graph hP35 hP22 hz hx28⟩
    exact ret_cell2 (k := 5) Tryz.results47 rfl rfl rfl Tryz.underlying36 rfl rfl (fun w1 hw => ⟨⟨((⟨trcR x28, endT o22, ⟨Ah, ch, hs⟩, ⟨Ae, ce, es⟩⟩ : Mp), 0), hB⟩, rfl, Pm.segAp (P := [_, _]) (hw.sel (.cons_cons _ (.cons_cons _ (.cons _ (.cons _ (.cons _ (.cons _ (List.Sublist.refl _))))))))⟩)
end Go.Proofs.YtnejdeklnmkhbaaGreat
