/-
  Texts of the proof, joined: PtOf, AnDel, MnDel, MnKey, AnBl, AnSt, AnBh, AnBr, MnRes, MnCon, MnBk, BdAddr, BdReg, AnDt, AnD2, CgLaw, AnCg, AnC2, AnPr, DcDraw, SqDraw, DcNet, AnDr, AnMin, FnLaw, FnLaw2, AnEa, AnSrt.
-/
import Derived.Test.YtijmpjfafpodhaaGreatMinimalStepsPk2
import Derived.Test.YtijmpjfafpodhaaGreatMinimalStepsPk1
import Derived.DeepKeys5
import Derived.Sort.OwnSortedInts
import Derived.Shelf.SortM.Plain
import Derived.Shelf.SortM.SortNone
set_option linter.unusedVariables false
set_option linter.unusedSimpArgs false
namespace Go.Proofs.YtijmpjfafpodhaaGreat
set_option maxHeartbeats 1000000
open Go.RowKit
set_option maxRecDepth 20000
theorem Khn {α : Type} [DecidableEq α] : ∀ {p F : List α}, p.Nodup -> (∀ f ∈ p, f ∈ F) -> p.length <= F.length
 | [], _, _, _ => Nat.zero_le _
 | a :: p, F, h, hs => by
  obtain ⟨h1, h2⟩ := List.nodup_cons.1 h;have := Khn (F := F.erase a) h2 fun f hf => (List.mem_erase_of_ne (fun e => h1 (by rw [<- e]; exact hf))).2 (hs f (List.mem_cons_of_mem _ hf));rw [List.length_erase_of_mem (hs a List.mem_cons_self)] at this;have h3 : 0 < F.length := List.length_pos_of_mem (hs a List.mem_cons_self);rw [List.length_cons];omega
def Kb4 (l : List Rs) (t : Trc) (y : List Rs) : Prop := ∃ o, Kad l o /\ y = o.filter fun r => decide (KC r = t)
theorem Kb4.eq {l y y' : List Rs} {t : Trc} (h : Kb4 l t y) (h' : Kb4 l t y') : y = y' := by
 obtain ⟨o, h1, h2⟩ := h;obtain ⟨o', h3, h4⟩ := h';rw [h2, h4, h1.eq h3]
theorem Kad.le {l o : List Rs} (h : Kad l o) : o.length <= l.length := by
 have hn : o.Nodup := h.1.imp fun {a b} hab e => by subst e; exact KcV _ hab
 exact Khn hn fun x hx => ((h.2 x).1 hx).1
def KbH (u : Idn) (p : Rs × Bool) (r : Rs) : Bool := decide (Kq r = u) && (!p.2 || decide (Ka4 r p.1 < 0)) && Km r
def Kb1 (u : Idn) (p : Rs × Bool) (r : Rs) : Rs × Bool := if KbH u p r then (r, true) else p
def Kae (l : List Rs) (u : Idn) : Rs × Bool := l.foldl (Kb1 u) (Rs.zero, false)
theorem Kc3 {l : List Rs} {u : Idn} {i : Nat} {x : Rs} {p : Rs × Bool} (hx : l[i]? = some x) (hp : Kae (l.take i) u = p) : Kae (l.take (i + 1)) u = if KbH u p x then (x, true) else p := by
 unfold Kae at hp ⊢;rw [List.take_add_one, hx, List.foldl_append, hp]
 rfl
def Kc9 (o : List Rs) (u : Idn) : Rs × Bool := match o.find? (fun r => decide (Kq r = u)) with
 | some r => (r, true)
 | none => (Rs.zero, false)
theorem Ka0 (w : World) : (isAgg 73).run Tryz.prog w = .ok true w := rfl
theorem Knq  (w : World) : (Instr.build 65 #[]).run Tryz.prog w = .ok (.agg #[.int .i64 0, .int .i64 0, .int .i64 0, .int .i64 0, .int .u32 0, .int .i64 0, .int .i64 0, .int .i64 0, .bool false, .bool false, .int .i64 0, .int .u32 0, .int .i64 0, .int .i64 0, .int .i64 0, .int .i64 0, .int .i64 0]) w := by kernel_rfl
theorem Kj1 (A0 : Option Addr) (c0 : Nat) (l : List Rs) (t : Trc) (w : World) (hr : Kg w w.heap.size 17 A0 l.length (Ka Rs.cells l)) (hl1 : l.length <= 100000) (hok : ∀ r ∈ l, r.Ok) :
  Calls Tryz.prog 90 #[.slice A0 l.length c0, .agg t.cells.toArray] w fun e w' => ∃ x : {y : (Option Addr × Nat) × List Rs // Kb4 l t y.2 /\ y.2.length <= y.1.2 /\ y.1.2 <= maxLen}, e = .returned (.slice x.1.1.1 x.1.2.length x.1.1.2) /\ Pm w [.row (.slice x.1.1.1 x.1.2.length x.1.1.2) 65 17 x.1.2.length (Ka Rs.cells x.1.2)] w' := by
 refine Kh Tryz.func90 rfl rfl rfl ?_ (Pm.start w);refine zSG ?_;refine TL.bx fun g3 => ?_;refine TL.as_ ?_;refine zET (zSG (TL.as_ ?_));refine zET (zS (zSG (TL.mv ?_)));refine TL.pM _ _ rfl o88 (fun w1 hw => KfK A0 c0 l w1 (hr.up hw.bel) hl1 hok) ?_;rintro ⟨⟨⟨R9, rc9⟩, o9⟩, hP9, hR91, hR92⟩;dsimp only [lC, lN];dsimp only at hP9 hR91 hR92 ⊢;refine TL.v (gN Tryz.underlying23) ?_;refine TL.mv ?_;refine zET (zB (TC.nilrow 65 17 ?_));have hol := hP9.le;refine TC.lp (α := {y : Nat × (Option Addr × Nat) × List Rs // y.1 <= o9.length /\ ((o9.take y.1).filter (fun r => decide (KC r = t)) = y.2.2) /\ y.2.2.length <= y.1 /\ y.2.2.length <= y.2.1.2 /\ y.2.1.2 <= maxLen}) [3, 9, 10] rfl (fun y => [(11, .int .i64 ((y.1.1 : Nat) : Int)), (5, .slice y.1.2.1.1 y.1.2.2.length y.1.2.1.2)]) (fun y => Pm w [.row (.slice y.1.2.1.1 y.1.2.2.length y.1.2.1.2) 65 17 y.1.2.2.length (Ka Rs.cells y.1.2.2), .row (.slice R9 o9.length rc9) 65 17 o9.length (Ka Rs.cells o9), .blk g3 32 t.cells]) (fun y => o9.length - y.1.1) (⟨(0, (none, 0), []), Nat.zero_le _, rfl, Nat.le_refl _, Nat.le_refl _, Nat.zero_le _⟩) (fun w1 hw => hw) ?_;rintro ⟨⟨i, ⟨Ao, co⟩, out⟩, hi, hout, houtl, houtc, houtm⟩;dsimp only at hi hout houtl houtc houtm ⊢;refine zSG ?_;refine TL.sp Kk (fun q12 => ?_) (fun q12 => ?_)
 ·refine zET (zS (zc (zk (zT (zS (zB (zSG ?_)))))));refine TL.fact (p := ∃ g, R9 = some ⟨g, 0, none⟩) (fun w1 hw => KL hw (k := 1) rfl (by omega)) ?_;rintro ⟨g_R9, rfl⟩;have hi13 : i < o9.length := by omega
  obtain ⟨x13, hx13⟩ := Ko hi13;refine TL.w rfl (gA (i := i) Tryz.underlying23 Kd rfl rfl rfl rfl rfl (by omega)) ?_;refine TL.w rfl (KS (off := 0 + i * 17) rfl rfl Ku Kd (Ke.len x13) (fun w1 hw j9 u9 h9 => Kv Ke hw (q := 1) rfl hx13 j9 u9 h9)) ?_;refine TL.al Kab fun g7 => ?_;refine TL.pstore (k := 0) (vs := x13.cells) rfl rfl rfl rfl rfl rfl rfl Kd (Ke.one _) (by show 17 <= 17; decide) (L' := [.blk g7 65 x13.cells, .row (.slice Ao out.length co) 65 17 out.length (Ka Rs.cells out), .row (.slice (some ⟨g_R9, 0, none⟩) o9.length rc9) 65 17 o9.length (Ka Rs.cells o9), .blk g3 32 t.cells]) rfl ?_;refine zET (zS (TC.quietQ (by kernel_rfl) (by kernel_rfl) (fun w hw => hw.drawn _) ?_));refine TQ.v (gV 0 (.agg (x13.cells).toArray) Ku Kd) ?_;refine TQ.p1 (v := .agg ((KC x13).cells).toArray) rfl Kfj (fun w1 hw => (Kfr x13 w1).mono fun en w2 ⟨h1, h2⟩ => ⟨h1, hw.below h2⟩) ?_;refine TQ.v (gV 3 (.agg (t.cells).toArray) KbJ Kaj) ?_;refine TQ.vw rfl (Kac rfl rfl rfl (fun w => Kgv (KC x13) t _ _ w)) (fun h18 => ?_) (fun h18 => ?_)
  ·have q18 := of_decide_eq_true h18;refine TQ.fin ?_;refine zT (zc (zG (TL.mv ?_)));refine TL.v (gV 0 (.agg (x13.cells).toArray) Ku Kd) ?_;refine TL.prowS (e := 65) (size := 17) (cs := Ka Rs.cells [x13]) rfl rfl rfl rfl rfl (fun w => KbF _ _ _ _ _ _ _ _ _ _ _ _ _ _ _ _ _ w) (by decide) rfl (fun g21 => ?_);refine TL.appendT (k := 2) rfl rfl rfl rfl Tryz.underlying23 KaK rfl rfl rfl (fun w1 hw => KN hw (k := 0) rfl) (KA Ke _) (by show _ * 128 <= _; omega) ((out ++ [x13]).length) (by rw [List.length_append]; rfl) (Ka Rs.cells (out ++ [x13])) ((KF _ _).symm) (fun A22 c22 hA221 hA222 => ?_);refine TL.as_ ?_;refine zE (zN (zT (zG (TL.v (gD ((i + 1 : Nat) : Int)) ?_))));refine TL.mv ?_;refine zE ?_;exact TX.rd (⟨(i + 1, (A22, c22), out ++ [x13]), by dsimp only; omega, Kem (p := fun r => decide (KC r = t)) hx13 (decide_eq_true q18) hout, by dsimp only; rw [List.length_append]; show out.length + 1 <= _; omega, hA221, hA222⟩) (by show o9.length - (i + 1) < o9.length - i; omega) (fun w1 hw => hw.pk [2, 3, 4])
  have q18 := of_decide_eq_false h18;refine TQ.fin ?_;refine zT (zd (zk (zN (zT (zG (TL.v (gD ((i + 1 : Nat) : Int)) ?_))))));refine TL.mv ?_;refine zE ?_;exact TX.rd (⟨(i + 1, (Ao, co), out), by dsimp only; omega, Kde (p := fun r => decide (KC r = t)) hx13 (decide_eq_false q18) hout, by dsimp only; omega, houtc, houtm⟩) (by show o9.length - (i + 1) < o9.length - i; omega) (fun w1 hw => hw.pk [1, 2, 3])
 refine zET (zS (zd (zx (zX (zX (zM (zT (zSG (TL.rn 2 rfl (zET (zr ?_)))))))))));exact Kc Tryz.results90 rfl (fun w1 hw => ⟨⟨((Ao, co), out), ⟨o9, hP9, by rw [List.take_of_length_le (by omega)] at hout; exact hout.symm⟩, by dsimp only; omega, houtm⟩, rfl, hw.pick [0] (by decide) rfl⟩)
theorem KmA (A0 : Option Addr) (c0 : Nat) (l : List Rs) (t : Trc) (w : World) (hr : Kg w w.heap.size 17 A0 l.length (Ka Rs.cells l)) (hl1 : l.length <= 100000) (hok : ∀ r ∈ l, r.Ok) :
  Calls Tryz.prog 60 #[.slice A0 l.length c0, .agg t.cells.toArray] w fun e w' => ∃ x : {y : (Option Addr × Nat) × List Rs // Kb4 l t y.2 /\ y.2.length <= y.1.2 /\ y.1.2 <= maxLen}, e = .returned (.slice x.1.1.1 x.1.2.length x.1.1.2) /\ Pm w [.row (.slice x.1.1.1 x.1.2.length x.1.1.2) 65 17 x.1.2.length (Ka Rs.cells x.1.2)] w' := by
 refine Kh Tryz.func60 rfl rfl rfl ?_ (Pm.start w);refine zSG ?_;refine TL.bx fun g3 => ?_;refine TL.as_ ?_;refine zET (zSG (TL.mv ?_));refine TL.pM _ _ rfl o95 (fun w1 hw => Khl A0 c0 l w1 (hr.up hw.bel) hl1 hok) ?_;rintro ⟨⟨⟨R9, rc9⟩, o9⟩, hP9, hR91, hR92⟩;dsimp only [lC, lN];dsimp only at hP9 hR91 hR92 ⊢;refine TL.as_ ?_;refine zET (zSG (TL.as_ ?_));refine zET (zS (zSG (TL.as_ ?_)));refine zET (zB (TC.nilrow 65 17 ?_));have hol := hP9.le;refine TC.lp (α := {y : Nat × (Option Addr × Nat) × List Rs // y.1 <= o9.length /\ ((o9.take y.1).filter (fun r => decide (KC r = t)) = y.2.2) /\ y.2.2.length <= y.1 /\ y.2.2.length <= y.2.1.2 /\ y.2.1.2 <= maxLen}) [3, 5] rfl (fun y => [(7, .int .i64 ((y.1.1 : Nat) : Int)), (6, .slice y.1.2.1.1 y.1.2.2.length y.1.2.1.2)]) (fun y => Pm w [.row (.slice y.1.2.1.1 y.1.2.2.length y.1.2.1.2) 65 17 y.1.2.2.length (Ka Rs.cells y.1.2.2), .row (.slice R9 o9.length rc9) 65 17 o9.length (Ka Rs.cells o9), .blk g3 32 t.cells]) (fun y => o9.length - y.1.1) (⟨(0, (none, 0), []), Nat.zero_le _, rfl, Nat.le_refl _, Nat.le_refl _, Nat.zero_le _⟩) (fun w1 hw => hw) ?_;rintro ⟨⟨i, ⟨Ao, co⟩, out⟩, hi, hout, houtl, houtc, houtm⟩;dsimp only at hi hout houtl houtc houtm ⊢;refine zS (zSG (TL.rn 2 rfl (TL.v (gN Tryz.underlying23) ?_)));refine TL.sp Kk (fun q13 => ?_) (fun q13 => ?_)
 ·refine zET (zc (zk (zT (zS (zB (zS (TC.fact (p := ∃ g, R9 = some ⟨g, 0, none⟩) (fun w1 hw => KL hw (k := 1) rfl (by omega)) ?_)))))));rintro ⟨g_R9, rfl⟩;refine TC.quietQ (by kernel_rfl) (by kernel_rfl) (fun w hw => hw.drawn _) ?_;refine TQ.rn 2 rfl ?_;have hi18 : i < o9.length := by omega
  obtain ⟨x18, hx18⟩ := Ko hi18;refine TQ.w rfl (gA (i := i) Tryz.underlying23 Kd rfl rfl rfl rfl rfl (by omega)) ?_;refine TQ.w rfl (KS (off := 0 + i * 17) rfl rfl Ku Kd (Ke.len x18) (fun w1 hw j9 u9 h9 => Kv Ke hw (q := 1) rfl hx18 j9 u9 h9)) ?_;refine TQ.p1 (v := .agg ((KC x18).cells).toArray) rfl o69 (fun w1 hw => (Kho x18 w1).mono fun en w2 ⟨h1, h2⟩ => ⟨h1, hw.below h2⟩) ?_;refine TQ.v (gV 2 (.agg (t.cells).toArray) KbJ Kaj) ?_;refine TQ.vw rfl (Kac rfl rfl rfl (fun w => Kgv (KC x18) t _ _ w)) (fun h22 => ?_) (fun h22 => ?_)
  ·have q22 := of_decide_eq_true h22;refine TQ.fin ?_;refine zT (zc (zG (TL.rn 3 rfl ?_)));refine TL.w rfl (gA (i := i) Tryz.underlying23 Kd rfl rfl rfl rfl rfl (by omega)) ?_;refine TL.w rfl (KS (off := 0 + i * 17) rfl rfl Ku Kd (Ke.len x18) (fun w1 hw j9 u9 h9 => Kv Ke hw (q := 1) rfl hx18 j9 u9 h9)) ?_;refine TL.prowS (e := 65) (size := 17) (cs := Ka Rs.cells [x18]) rfl rfl rfl rfl rfl (fun w => KbF _ _ _ _ _ _ _ _ _ _ _ _ _ _ _ _ _ w) (by decide) rfl (fun g28 => ?_);refine TL.appendT (k := 1) rfl rfl rfl rfl Tryz.underlying23 KaK rfl rfl rfl (fun w1 hw => KN hw (k := 0) rfl) (KA Ke _) (by show _ * 128 <= _; omega) ((out ++ [x18]).length) (by rw [List.length_append]; rfl) (Ka Rs.cells (out ++ [x18])) ((KF _ _).symm) (fun A29 c29 hA291 hA292 => ?_);refine TL.as_ ?_;refine zE (zN (zT (zG (TL.mv ?_))));refine TL.v (gD ((i + 1 : Nat) : Int)) ?_;refine TL.as_ ?_;refine zE ?_;exact TX.rd (⟨(i + 1, (A29, c29), out ++ [x18]), by dsimp only; omega, Kem (p := fun r => decide (KC r = t)) hx18 (decide_eq_true q22) hout, by dsimp only; rw [List.length_append]; show out.length + 1 <= _; omega, hA291, hA292⟩) (by show o9.length - (i + 1) < o9.length - i; omega) (fun w1 hw => hw.pk [1, 2, 3])
  have q22 := of_decide_eq_false h22;refine TQ.fin ?_;refine zT (zd (zk (zN (zT (zG (TL.mv ?_))))));refine TL.v (gD ((i + 1 : Nat) : Int)) ?_;refine TL.as_ ?_;refine zE ?_;exact TX.rd (⟨(i + 1, (Ao, co), out), by dsimp only; omega, Kde (p := fun r => decide (KC r = t)) hx18 (decide_eq_false q22) hout, by dsimp only; omega, houtc, houtm⟩) (by show o9.length - (i + 1) < o9.length - i; omega) (fun w1 hw => hw)
 refine zET (zd (zx (zX (zX (zM (zT (zSG (TL.rn 2 rfl (zET (zr ?_))))))))));exact Kc Tryz.results60 rfl (fun w1 hw => ⟨⟨((Ao, co), out), ⟨o9, hP9, by rw [List.take_of_length_le (by omega)] at hout; exact hout.symm⟩, by dsimp only; omega, houtm⟩, rfl, hw.pick [0] (by decide) rfl⟩)
theorem KmD (A0 : Option Addr) (c0 : Nat) (l : List Rs) (u : Idn) (w : World) (hr : Kg w w.heap.size 17 A0 l.length (Ka Rs.cells l)) (hl1 : l.length <= 100000) :
  Calls Tryz.prog 105 #[.slice A0 l.length c0, .agg u.cells.toArray] w fun e w' => e = .returned (.tuple #[.agg (Kae l u).1.cells.toArray, .bool (Kae l u).2]) /\ Below w.heap.size w w' := by
 refine Kh Tryz.func105 rfl rfl rfl ?_ (Pm.start w);refine zSG ?_;refine TL.bx fun g3 => ?_;refine TL.al Kab fun g4 => ?_;refine TL.as_ ?_;refine zET (zSG ?_);refine TL.al Kab fun g6 => ?_;refine zET (zSG (TL.as_ ?_));refine zET (zS (zSG (TL.mv ?_)));refine TL.v (gN Tryz.underlying23) ?_;refine TL.mv ?_;refine zET (zB (TC.lp (α := {y : Nat × Rs × Bool // y.1 <= l.length /\ Kae (l.take y.1) u = y.2}) [3, 4, 5, 6, 10, 11] rfl (fun y => [(12, .int .i64 ((y.1.1 : Nat) : Int)), (7, .bool y.1.2.2)]) (fun y => Pm w [.blk g6 65 y.1.2.1.cells, .blk g4 65 Rs.zero.cells, .blk g3 73 u.cells]) (fun y => l.length - y.1.1) (⟨(0, Rs.zero, false), Nat.zero_le _, rfl⟩) (fun w1 hw => hw) ?_));rintro ⟨⟨i, bst, fnd⟩, hi, hst⟩;dsimp only at hi hst ⊢;refine zS ?_
 cases fnd with
 | true =>
  refine zG ?_;refine TL.sp Kk (fun q13 => ?_) (fun q13 => ?_)
  ·refine zET (zS (zc (zk (zT (zS (zB (zSG ?_)))))));have hi14 : i < l.length := by omega
   obtain ⟨x14, hx14⟩ := Ko hi14;obtain ⟨b14, o14, hA14, hbb14, hc14⟩ := hr.ad (by omega) (by decide);refine TL.w rfl (gA (i := i) Tryz.underlying23 Kd rfl rfl rfl rfl hA14 (by omega)) ?_;refine TL.v (gR Ke Ku Kd hbb14 hx14 hc14) ?_;refine TL.al Kab fun g9 => ?_;refine TL.pstore (k := 0) (vs := x14.cells) rfl rfl rfl rfl rfl rfl rfl Kd (Ke.one _) (by show 17 <= 17; decide) (L' := [.blk g9 65 x14.cells, .blk g6 65 bst.cells, .blk g4 65 Rs.zero.cells, .blk g3 73 u.cells]) rfl ?_;refine zET (zS (TC.quietQ (by kernel_rfl) (by kernel_rfl) (fun w hw => hw.drawn _) ?_));refine TQ.v (gV 0 (.agg (x14.cells).toArray) Ku Kd) ?_;refine TQ.p1 (v := .agg ((Kq x14).cells).toArray) rfl Kd4 (fun w1 hw => (Kea x14 w1).mono fun en w2 ⟨h1, h2⟩ => ⟨h1, hw.below h2⟩) ?_;refine TQ.v (gV 3 (.agg (u.cells).toArray) Ka0 K9) ?_;refine TQ.vw rfl (Kac rfl rfl rfl (fun w => KdD (Kq x14) u _ _ w)) (fun h19 => ?_) (fun h19 => ?_)
   ·have q19 := of_decide_eq_true h19;refine TQ.rn 4 rfl (TQ.ov (gV 0 (.agg (x14.cells).toArray) Ku Kd) ?_);refine TQ.ov (gV 1 (.agg (bst.cells).toArray) Ku Kd) ?_;refine TQ.on rfl rfl rfl ?_;refine TQ.p1 (v := .int .i64 (Ka4 x14 bst)) rfl Klm (fun w1 hw => (Khy x14 bst w1).mono fun en w2 ⟨h1, h2⟩ => ⟨h1, hw.below h2⟩) ?_;refine TQ.on rfl rfl rfl ?_;refine TQ.sp Kk (fun q27 => ?_) (fun q27 => ?_)
    ·refine TQ.rn 3 rfl (TQ.ov (gV 0 (.agg (x14.cells).toArray) Ku Kd) ?_);refine TQ.on rfl rfl rfl ?_;refine TQ.pS rfl o70 (fun w1 hw => KcY x14 w1) (fun h32 => ?_) (fun h32 => ?_)
     ·refine TQ.w rfl (K4 rfl rfl rfl) ?_;refine TQ.fin ?_;refine zT (zc (zG (TL.v (gV 0 (.agg (x14.cells).toArray) Ku Kd) ?_)));refine TL.pstore (k := 1) (vs := x14.cells) rfl rfl rfl rfl rfl rfl rfl Kd (Ke.one _) (by show 17 <= 17; decide) (L' := [.blk g9 65 x14.cells, .blk g6 65 x14.cells, .blk g4 65 Rs.zero.cells, .blk g3 73 u.cells]) rfl ?_;refine TL.as_ ?_;refine zE (zN (zT (zG (TL.v (gD ((i + 1 : Nat) : Int)) ?_))));refine TL.mv ?_;refine zE ?_;exact TX.rd (⟨(i + 1, x14, true), by dsimp only; omega, by rw [Kc3 hx14 hst, if_pos (by simp [KbH, q13, q19, q27, h32])]⟩) (by show l.length - (i + 1) < l.length - i; omega) (fun w1 hw => hw.pk [1, 2, 3])
     refine TQ.w rfl (K4 rfl rfl rfl) ?_;refine TQ.fin ?_;refine zT (zd (zk (zN (zT (zG (TL.v (gD ((i + 1 : Nat) : Int)) ?_))))));refine TL.mv ?_;refine zE ?_;exact TX.rd (⟨(i + 1, bst, true), by dsimp only; omega, by rw [Kc3 hx14 hst, if_neg (by simp [KbH, q13, q19, q27, h32])]⟩) (by show l.length - (i + 1) < l.length - i; omega) (fun w1 hw => hw.pk [1, 2, 3])
    refine TQ.rn 6 rfl ?_;refine TQ.fin ?_;refine zT (zd (zk (zN (zT (zG (TL.v (gD ((i + 1 : Nat) : Int)) ?_))))));refine TL.mv ?_;refine zE ?_;exact TX.rd (⟨(i + 1, bst, true), by dsimp only; omega, by rw [Kc3 hx14 hst, if_neg (by simp [KbH, q13, q19, q27])]⟩) (by show l.length - (i + 1) < l.length - i; omega) (fun w1 hw => hw.pk [1, 2, 3])
   have q19 := of_decide_eq_false h19;refine TQ.rn 4 rfl ?_;refine TQ.offU rfl rfl rfl rfl rfl ?_;refine TQ.offU rfl rfl rfl rfl rfl ?_;refine TQ.offU rfl rfl rfl rfl rfl ?_;refine TQ.offU rfl rfl rfl rfl rfl ?_;refine TQ.rn 6 rfl ?_;refine TQ.fin ?_;refine zT (zd (zk (zN (zT (zG (TL.v (gD ((i + 1 : Nat) : Int)) ?_))))));refine TL.mv ?_;refine zE ?_;exact TX.rd (⟨(i + 1, bst, true), by dsimp only; omega, by rw [Kc3 hx14 hst, if_neg (by simp [KbH, q13, q19])]⟩) (by show l.length - (i + 1) < l.length - i; omega) (fun w1 hw => hw.pk [1, 2, 3])
  refine zET (zS (zd (zx (zX (zX (zM (zT (zSG (TL.v (gV 0 (.agg (bst.cells).toArray) Ku Kd) ?_)))))))));refine TL.mv ?_;refine TL.pstore (k := 1) (vs := bst.cells) rfl rfl rfl rfl rfl rfl rfl Kd (Ke.one _) (by show 17 <= 17; decide) (L' := [.blk g6 65 bst.cells, .blk g4 65 bst.cells, .blk g3 73 u.cells]) rfl ?_;refine TL.as_ ?_;refine zET (zr ?_);have hE : Kae l u = (bst, true) := by rw [List.take_of_length_le (by omega)] at hst; exact hst
  exact KaZ (k := 1) (v := .bool true) Tryz.results105 rfl rfl rfl Tryz.underlying65 rfl rfl (fun w1 hw => ⟨by rw [hE], hw.bel⟩)
 | false =>
  refine zG ?_;refine TL.sp Kk (fun q13 => ?_) (fun q13 => ?_)
  ·refine zET (zS (zc (zk (zT (zS (zB (zSG ?_)))))));have hi14 : i < l.length := by omega
   obtain ⟨x14, hx14⟩ := Ko hi14;obtain ⟨b14, o14, hA14, hbb14, hc14⟩ := hr.ad (by omega) (by decide);refine TL.w rfl (gA (i := i) Tryz.underlying23 Kd rfl rfl rfl rfl hA14 (by omega)) ?_;refine TL.v (gR Ke Ku Kd hbb14 hx14 hc14) ?_;refine TL.al Kab fun g9 => ?_;refine TL.pstore (k := 0) (vs := x14.cells) rfl rfl rfl rfl rfl rfl rfl Kd (Ke.one _) (by show 17 <= 17; decide) (L' := [.blk g9 65 x14.cells, .blk g6 65 bst.cells, .blk g4 65 Rs.zero.cells, .blk g3 73 u.cells]) rfl ?_;refine zET (zS (TC.quietQ (by kernel_rfl) (by kernel_rfl) (fun w hw => hw.drawn _) ?_));refine TQ.v (gV 0 (.agg (x14.cells).toArray) Ku Kd) ?_;refine TQ.p1 (v := .agg ((Kq x14).cells).toArray) rfl Kd4 (fun w1 hw => (Kea x14 w1).mono fun en w2 ⟨h1, h2⟩ => ⟨h1, hw.below h2⟩) ?_;refine TQ.v (gV 3 (.agg (u.cells).toArray) Ka0 K9) ?_;refine TQ.vw rfl (Kac rfl rfl rfl (fun w => KdD (Kq x14) u _ _ w)) (fun h19 => ?_) (fun h19 => ?_)
   ·have q19 := of_decide_eq_true h19;refine TQ.rn 11 rfl (TQ.ov (gV 0 (.agg (x14.cells).toArray) Ku Kd) ?_);refine TQ.on rfl rfl rfl ?_;refine TQ.pS rfl o70 (fun w1 hw => KcY x14 w1) (fun h32 => ?_) (fun h32 => ?_)
    ·refine TQ.w rfl (K4 rfl rfl rfl) ?_;refine TQ.fin ?_;refine zT (zc (zG (TL.v (gV 0 (.agg (x14.cells).toArray) Ku Kd) ?_)));refine TL.pstore (k := 1) (vs := x14.cells) rfl rfl rfl rfl rfl rfl rfl Kd (Ke.one _) (by show 17 <= 17; decide) (L' := [.blk g9 65 x14.cells, .blk g6 65 x14.cells, .blk g4 65 Rs.zero.cells, .blk g3 73 u.cells]) rfl ?_;refine TL.as_ ?_;refine zE (zN (zT (zG (TL.v (gD ((i + 1 : Nat) : Int)) ?_))));refine TL.mv ?_;refine zE ?_;exact TX.rd (⟨(i + 1, x14, true), by dsimp only; omega, by rw [Kc3 hx14 hst, if_pos (by simp [KbH, q13, q19, h32])]⟩) (by show l.length - (i + 1) < l.length - i; omega) (fun w1 hw => hw.pk [1, 2, 3])
    refine TQ.w rfl (K4 rfl rfl rfl) ?_;refine TQ.fin ?_;refine zT (zd (zk (zN (zT (zG (TL.v (gD ((i + 1 : Nat) : Int)) ?_))))));refine TL.mv ?_;refine zE ?_;exact TX.rd (⟨(i + 1, bst, false), by dsimp only; omega, by rw [Kc3 hx14 hst, if_neg (by simp [KbH, q13, q19, h32])]⟩) (by show l.length - (i + 1) < l.length - i; omega) (fun w1 hw => hw.pk [1, 2, 3])
   have q19 := of_decide_eq_false h19;refine TQ.rn 4 rfl ?_;refine TQ.offU rfl rfl rfl rfl rfl ?_;refine TQ.offU rfl rfl rfl rfl rfl ?_;refine TQ.offU rfl rfl rfl rfl rfl ?_;refine TQ.offU rfl rfl rfl rfl rfl ?_;refine TQ.rn 6 rfl ?_;refine TQ.fin ?_;refine zT (zd (zk (zN (zT (zG (TL.v (gD ((i + 1 : Nat) : Int)) ?_))))));refine TL.mv ?_;refine zE ?_;exact TX.rd (⟨(i + 1, bst, false), by dsimp only; omega, by rw [Kc3 hx14 hst, if_neg (by simp [KbH, q13, q19])]⟩) (by show l.length - (i + 1) < l.length - i; omega) (fun w1 hw => hw.pk [1, 2, 3])
  refine zET (zS (zd (zx (zX (zX (zM (zT (zSG (TL.v (gV 0 (.agg (bst.cells).toArray) Ku Kd) ?_)))))))));refine TL.mv ?_;refine TL.pstore (k := 1) (vs := bst.cells) rfl rfl rfl rfl rfl rfl rfl Kd (Ke.one _) (by show 17 <= 17; decide) (L' := [.blk g6 65 bst.cells, .blk g4 65 bst.cells, .blk g3 73 u.cells]) rfl ?_;refine TL.as_ ?_;refine zET (zr ?_);have hE : Kae l u = (bst, false) := by rw [List.take_of_length_le (by omega)] at hst; exact hst
  exact KaZ (k := 1) (v := .bool false) Tryz.results105 rfl rfl rfl Tryz.underlying65 rfl rfl (fun w1 hw => ⟨by rw [hE], hw.bel⟩)
theorem Kmb (A0 : Option Addr) (c0 : Nat) (l : List Rs) (u : Idn) (w : World) (hr : Kg w w.heap.size 17 A0 l.length (Ka Rs.cells l)) (hl1 : l.length <= 100000) (hok : ∀ r ∈ l, r.Ok) :
  Calls Tryz.prog 58 #[.slice A0 l.length c0, .agg u.cells.toArray] w fun e w' => ∃ x : {p : Rs × Bool // ∃ o, Kad l o /\ Kc9 o u = p}, e = .returned (.tuple #[.agg x.1.1.cells.toArray, .bool x.1.2]) /\ Below w.heap.size w w' := by
 refine Kh Tryz.func58 rfl rfl rfl ?_ (Pm.start w);refine zSG ?_;refine TL.bx fun g3 => ?_;refine TL.al Kab fun g4 => ?_;refine TL.as_ ?_;refine zET (zSG (TL.mv ?_));refine TL.pM _ _ rfl o95 (fun w1 hw => Khl A0 c0 l w1 (hr.up hw.bel) hl1 hok) ?_;rintro ⟨⟨⟨R9, rc9⟩, o9⟩, hP9, hR91, hR92⟩;dsimp only [lC, lN];dsimp only at hP9 hR91 hR92 ⊢;refine TL.as_ ?_;refine zET (zS (zSG (TL.as_ ?_)));refine zET (zB ?_);have hol := hP9.le;refine TC.lp (α := {i : Nat // i <= o9.length /\ (o9.drop i).find? (fun r => decide (Kq r = u)) = o9.find? (fun r => decide (Kq r = u))}) [3, 4, 5, 6] rfl (fun y => [(7, .int .i64 ((y.1 : Nat) : Int))]) (fun y => Pm w [.row (.slice R9 o9.length rc9) 65 17 o9.length (Ka Rs.cells o9), .blk g4 65 Rs.zero.cells, .blk g3 73 u.cells]) (fun y => o9.length - y.1) (⟨0, Nat.zero_le _, rfl⟩) (fun w1 hw => hw) ?_;rintro ⟨i, hi, hfd⟩
 try dsimp only at hi hfd ⊢
 refine zS (zSG (TL.rn 2 rfl (TL.v (gN Tryz.underlying23) ?_)));refine TL.sp Kk (fun q13 => ?_) (fun q13 => ?_)
 ·refine zET (zc (zk (zT (zS (zB (zS (TC.fact (p := ∃ g, R9 = some ⟨g, 0, none⟩) (fun w1 hw => KL hw (k := 0) rfl (by omega)) ?_)))))));rintro ⟨g_R9, rfl⟩;refine TC.quietQ (by kernel_rfl) (by kernel_rfl) (fun w hw => hw.drawn _) ?_;refine TQ.rn 2 rfl ?_;have hi18 : i < o9.length := by omega
  obtain ⟨x18, hx18⟩ := Ko hi18;have hdr : o9.drop i = x18 :: o9.drop (i + 1) := by obtain ⟨hlt, e⟩ := List.getElem?_eq_some_iff.1 hx18; rw [List.drop_eq_getElem_cons hlt, e]
  refine TQ.w rfl (gA (i := i) Tryz.underlying23 Kd rfl rfl rfl rfl rfl (by omega)) ?_;refine TQ.w rfl (KS (off := 0 + i * 17) rfl rfl Ku Kd (Ke.len x18) (fun w1 hw j9 u9 h9 => Kv Ke hw (q := 0) rfl hx18 j9 u9 h9)) ?_;refine TQ.p1 (v := .agg ((Kq x18).cells).toArray) rfl o47 (fun w1 hw => (KdG x18 w1).mono fun en w2 ⟨h1, h2⟩ => ⟨h1, hw.below h2⟩) ?_;refine TQ.v (gV 2 (.agg (u.cells).toArray) Ka0 K9) ?_;refine TQ.vw rfl (Kac rfl rfl rfl (fun w => KdD (Kq x18) u _ _ w)) (fun h22 => ?_) (fun h22 => ?_)
  ·have q22 := of_decide_eq_true h22;refine TQ.fin ?_;refine zT (zc (zSG (TL.rn 2 rfl ?_)));refine TL.w rfl (gA (i := i) Tryz.underlying23 Kd rfl rfl rfl rfl rfl (by omega)) ?_;refine TL.w rfl (KS (off := 0 + i * 17) rfl rfl Ku Kd (Ke.len x18) (fun w1 hw j9 u9 h9 => Kv Ke hw (q := 0) rfl hx18 j9 u9 h9)) ?_;refine TL.pstore (k := 1) (vs := x18.cells) rfl rfl rfl rfl rfl rfl rfl Kd (Ke.one _) (by show 17 <= 17; decide) (L' := [.row (.slice (some ⟨g_R9, 0, none⟩) o9.length rc9) 65 17 o9.length (Ka Rs.cells o9), .blk g4 65 x18.cells, .blk g3 73 u.cells]) rfl ?_;refine TL.as_ ?_;refine zET (zr (zRR (zR (zRR ?_))));have hE : Kc9 o9 u = (x18, true) := by unfold Kc9; rw [<- hfd, hdr, List.find?_cons_of_pos (by exact decide_eq_true q22)]
   exact KaZ (k := 1) (v := .bool true) Tryz.results58 rfl rfl rfl Tryz.underlying65 rfl rfl (fun w1 hw => ⟨⟨(x18, true), ⟨o9, hP9, hE⟩⟩, rfl, hw.bel⟩)
  have q22 := of_decide_eq_false h22;have hfd2 : (o9.drop (i + 1)).find? (fun r => decide (Kq r = u)) = o9.find? (fun r => decide (Kq r = u)) := by rw [<- hfd, hdr, List.find?_cons_of_neg (by simpa using q22)]
  refine TQ.fin ?_;refine zT (zd (zk (zN (zT (zG (TL.mv ?_))))));refine TL.v (gD ((i + 1 : Nat) : Int)) ?_;refine TL.as_ ?_;refine zE ?_;exact TX.rd (⟨i + 1, by omega, hfd2⟩) (by show o9.length - (i + 1) < o9.length - i; omega) (fun w1 hw => hw)
 refine zET (zd (zx (zX (zX (zM (zT (zSG ?_)))))));refine TL.w rfl (Kt (v := .agg (Rs.zero.cells).toArray) rfl rfl (fun w => Knq  w)) ?_;refine TL.pstore (k := 1) (vs := Rs.zero.cells) rfl rfl rfl rfl rfl rfl rfl Kd (Ke.one _) (by show 17 <= 17; decide) (L' := [.row (.slice R9 o9.length rc9) 65 17 o9.length (Ka Rs.cells o9), .blk g4 65 Rs.zero.cells, .blk g3 73 u.cells]) rfl ?_;refine TL.as_ ?_;refine zET (zr ?_);have hE : Kc9 o9 u = (Rs.zero, false) := by unfold Kc9; rw [<- hfd, List.drop_of_length_le (by omega)]; rfl
 exact KaZ (k := 1) (v := .bool false) Tryz.results58 rfl rfl rfl Tryz.underlying65 rfl rfl (fun w1 hw => ⟨⟨(Rs.zero, false), ⟨o9, hP9, hE⟩⟩, rfl, hw.bel⟩)
theorem Kk1 (A0 : Option Addr) (c0 : Nat) (l : List Rs) (A1 : Option Addr) (c1 : Nat) (m : List Rs) (w : World) (hr : Kg w w.heap.size 17 A0 l.length (Ka Rs.cells l)) (hr1 : Kg w w.heap.size 17 A1 m.length (Ka Rs.cells m)) (hl1 : l.length <= 100000) :
  Calls Tryz.prog 55 #[.slice A0 l.length c0, .slice A1 m.length c1] w fun e w' => e = .returned (.bool (decide (l = m))) /\ Below w.heap.size w w' := by
 refine Kh Tryz.func55 rfl rfl rfl ?_ (Pm.start w);refine zSG (TL.as_ ?_);refine zET (zS (zSG (TL.mv ?_)));refine TL.v (gN Tryz.underlying23) ?_;refine TL.mv ?_;refine TL.v (gN Tryz.underlying23) ?_;refine TL.sp K5 (fun q10 => ?_) (fun q10 => ?_)
 ·refine zET (zc (zSG (TL.as_ ?_)));refine zET (zr (zR ?_));exact Kc Tryz.results55 rfl (fun w1 hw => ⟨by rw [decide_eq_false (fun h => by have := congrArg List.length h; omega)], hw.bel⟩)
 refine zET (zd (zk (zT (zS (zSG (TL.as_ ?_))))));refine zET (zB (TC.lp (α := {i : Nat // i <= l.length /\ ∀ j, j < i -> l[j]? = m[j]?}) [0, 1] rfl (fun y => [(5, .int .i64 ((y.1 : Nat) : Int))]) (fun y => Pm w []) (fun y => l.length - y.1) (⟨0, Nat.zero_le _, fun j hj => absurd hj (Nat.not_lt_zero _)⟩) (fun w1 hw => hw) ?_));rintro ⟨i, hi, he⟩
 try dsimp only at hi he ⊢
 refine zS (zSG (TL.rn 2 rfl (TL.v (gN Tryz.underlying23) ?_)));refine TL.sp Kk (fun q14 => ?_) (fun q14 => ?_)
 ·refine zET (zc (zk (zT (zS (zB (zS (TC.quietQ (by kernel_rfl) (by kernel_rfl) (fun w hw => hw.drawn _) ?_)))))));refine TQ.rn 2 rfl ?_;have hi19 : i < l.length := by omega
  obtain ⟨x19, hx19⟩ := Ko hi19;obtain ⟨b19, o19, hA19, hbb19, hc19⟩ := hr.ad (by omega) (by decide);refine TQ.w rfl (gA (i := i) Tryz.underlying23 Kd rfl rfl rfl rfl hA19 (by omega)) ?_;refine TQ.v (gR Ke Ku Kd hbb19 hx19 hc19) ?_;refine TQ.rn 2 rfl ?_;have hi23 : i < m.length := by omega
  obtain ⟨x23, hx23⟩ := Ko hi23;obtain ⟨b23, o23, hA23, hbb23, hc23⟩ := hr1.ad (by omega) (by decide);refine TQ.w rfl (gA (i := i) Tryz.underlying23 Kd rfl rfl rfl rfl hA23 (by omega)) ?_;refine TQ.v (gR Ke Ku Kd hbb23 hx23 hc23) ?_;refine TQ.vw rfl (Kac rfl rfl rfl (fun w => Kji x19 x23 _ _ w)) (fun h25 => ?_) (fun h25 => ?_)
  ·have q25 := of_decide_eq_true h25;refine TQ.fin ?_;refine zT (zc (zSG (TL.as_ ?_)));refine zET (zr (zRR (zR (zRR ?_))));exact Kc Tryz.results55 rfl (fun w1 hw => ⟨by rw [decide_eq_false (fun h => by rw [h, hx23] at hx19; exact q25 (Option.some.inj hx19).symm)], hw.bel⟩)
  have q25 := of_decide_eq_false h25
  have he2 : ∀ j, j < i + 1 -> l[j]? = m[j]? := fun j hj => by
   rcases Nat.lt_or_ge j i with h9 | h9
   ·exact he j h9
   obtain rfl : j = i := by omega
   rw [hx19, hx23, Decidable.not_not.1 q25]
  refine TQ.fin ?_;refine zT (zd (zk (zN (zT (zG (TL.mv ?_))))));refine TL.v (gD ((i + 1 : Nat) : Int)) ?_;refine TL.as_ ?_;refine zE ?_;exact TX.rd (⟨i + 1, by omega, he2⟩) (by show l.length - (i + 1) < l.length - i; omega) (fun w1 hw => hw)
 refine zET (zd (zx (zX (zX (zM (zT (zSG (TL.as_ ?_))))))));refine zET (zr ?_);exact Kc Tryz.results55 rfl (fun w1 hw => ⟨by rw [decide_eq_true (List.ext_getElem? fun j => if h9 : j < i then he j h9 else by rw [List.getElem?_eq_none (by omega), List.getElem?_eq_none (by omega)])], hw.bel⟩)
set_option maxRecDepth 20000
def Kfn (p : Rs -> Bool) (l : List Rs) (z : Int) : Prop := (z = -1 /\ ∀ r ∈ l, p r = false) \/ ∃ i : Nat, z = (i : Int) /\ i < l.length /\ (∀ r ∈ l.take i, p r = false) /\ ∃ y, l[i]? = some y /\ p y = true
structure DelI (p : Rs -> Bool) (l : List Rs) (k j : Nat) (ys : List Rs) : Prop where
 len : ys.length = l.length
 kj : k < j
 jn : j <= l.length
 pre : ys.take k = (l.take j).filter fun r => !p r
 post : ∀ q, j <= q -> ys[q]? = l[q]?
section
variable {p : Rs -> Bool} {l ys : List Rs} {k j i : Nat} {x : Rs}
theorem KjM (h : ∀ r ∈ l, p r = false) : (l.filter fun r => !p r) = l := List.filter_eq_self.2 fun r hr => by rw [h r hr]; rfl
theorem DelI.start (hi : i < l.length) (h : ∀ r ∈ l.take i, p r = false) (hx : l[i]? = some x) (hp : p x = true) : DelI p l i (i + 1) l := ⟨rfl, Nat.lt_succ_self _, hi, by
 rw [List.take_add_one, hx, List.filter_append, KjM h];simp [hp], fun q _ => rfl⟩
theorem DelI.at_ (h : DelI p l k j ys) (hx : ys[j]? = some x) : l[j]? = some x := by rw [<- h.post j (Nat.le_refl _)]; exact hx
theorem DelI.out (h : DelI p l k j ys) (hj : j < l.length) (hx : ys[j]? = some x) (hp : p x = true) : DelI p l k (j + 1) ys := ⟨h.len, by have := h.kj; omega, hj, by
 rw [List.take_add_one, h.at_ hx, List.filter_append, h.pre];simp [hp], fun q hq => h.post q (by omega)⟩
theorem DelI.keep (h : DelI p l k j ys) (hj : j < l.length) (hx : ys[j]? = some x) (hp : p x = false) : DelI p l (k + 1) (j + 1) (ys.set k x) := ⟨by rw [List.length_set]; exact h.len, by have := h.kj; omega, hj, by
 have hk : k < ys.length := by have := h.kj; have := h.len; omega
 rw [List.take_add_one, List.getElem?_set_self hk, List.take_set_of_le (Nat.le_refl _), List.take_add_one, h.at_ hx, List.filter_append, h.pre];simp [hp], fun q hq => by rw [List.getElem?_set_ne (by have := h.kj; omega)]; exact h.post q (by omega)⟩
theorem DelI.fin (h : DelI p l k j ys) (hj : l.length <= j) {n : Nat} {z : Rs} : (ys.take k ++ List.replicate n z).take k = (l.filter fun r => !p r) /\ (l.filter fun r => !p r).length = k := by
 have hk : k <= ys.length := by have := h.kj; have := h.len; have := h.jn; omega
 have e := h.pre;rw [List.take_of_length_le hj] at e;have e2 : (ys.take k).length = k := by rw [List.length_take]; omega
 refine ⟨by rw [List.take_left' e2]; exact e, ?_⟩;rw [<- e]; exact e2
end
theorem KhT (A0 : Option Addr) (c0 : Nat) (l : List Rs) (p : Rs -> Bool) (f : FuncId) (fn : Func) (cap : Array Value) (w : World) (hr : Kg w w.heap.size 17 A0 l.length (Ka Rs.cells l)) (hl1 : l.length <= 100000) (hfn : Tryz.prog.funcs[f]? = some fn) (hnm : (fn.name == "runtime.NumGoroutine") = false) (hbd : fn.body.isNone = false) (hf : ∀ (x : Rs) (w1 : World), Below w.heap.size w w1 -> Calls Tryz.prog f (#[] ++ [Value.agg x.cells.toArray].toArray ++ cap) w1 fun e w' => e = .returned (.bool (p x)) /\ Below w1.heap.size w1 w') :
  Calls Tryz.prog 131 #[.slice A0 l.length c0, .func (.func f) #[] cap] w fun e w' => ∃ x : {z : Int // Kfn p l z}, e = .returned (.int .i64 x.1) /\ Below w.heap.size w w' := by
 refine Kh Tryz.func131 rfl rfl rfl ?_ (Pm.start w);refine zSG (TL.as_ ?_);refine zET (zS (zSG (TL.mv ?_)));refine TL.v (gN Tryz.underlying23) ?_;refine TL.mv ?_;refine zET (zB ?_);refine TC.lp (α := {i : Nat // i <= l.length /\ ∀ r ∈ l.take i, p r = false}) [0, 1, 7] rfl (fun y => [(8, .int .i64 ((y.1 : Nat) : Int))]) (fun y => Pm w []) (fun y => l.length - y.1) (⟨0, Nat.zero_le _, fun r hr => by rw [List.take_zero] at hr; cases hr⟩) (fun w1 hw => hw) ?_;rintro ⟨i, hi, hall⟩
 try dsimp only at hi hall ⊢
 refine zSG ?_;refine TL.vw rfl (Ks rfl rfl rfl (fun w => Kk w)) (fun h9 => ?_) (fun h9 => ?_)
 ·have q9 := of_decide_eq_true h9;refine zET (zS (zc (zk (zT (zS (zB (zSG (TL.rn 2 rfl (zET (zSG (TL.rn 3 rfl ?_)))))))))));have hi14 : i < l.length := by omega
  obtain ⟨x14, hx14⟩ := Ko hi14;obtain ⟨b14, o14, hA14, hbb14, hc14⟩ := hr.ad (by omega) (by decide);refine TL.w rfl (gA (i := i) Tryz.underlying23 Kd rfl rfl rfl rfl hA14 (by omega)) ?_;refine TL.v (gR Ke Ku Kd hbb14 hx14 hc14) ?_;obtain ⟨bv, hbv⟩ : ∃ b, p x14 = b := ⟨_, rfl⟩;refine TL.callE1 (r := .bool bv) rfl rfl rfl (KdW rfl rfl rfl hfn hnm hbd rfl) (fun w1 hw => by rw [<- hbv]; exact hf x14 w1 hw.bel) ?_;refine zET ?_;refine TC.split (t := bv) rfl (fun c16 => ?_) (fun c16 => ?_)
  ·refine zSG (TL.rn 2 rfl (zET (zr (zRR (zR (zRR ?_))))));exact Kc Tryz.results131 rfl (fun w1 hw => ⟨⟨(i : Int), .inr ⟨i, rfl, by omega, hall, x14, hx14, by rw [hbv, c16]⟩⟩, rfl, hw.bel⟩)
  refine zk (zN (zT (zG ?_)));refine TL.v (gD ((i + 1 : Nat) : Int)) ?_;refine TL.mv ?_;refine zE ?_;exact TX.rd (⟨i + 1, by omega, fun r hr => by rcases (KaG hx14).1 hr with h9 | h9; exact hall r h9; rw [h9, hbv, c16]⟩) (by show l.length - (i + 1) < l.length - i; omega) (fun w1 hw => hw)
 have q9 := of_decide_eq_false h9;refine zET (zS (zd (zx (zX (zX (zM (zT (zSG (TL.as_ ?_)))))))));refine zET (zr ?_);exact Kc Tryz.results131 rfl (fun w1 hw => ⟨⟨-1, .inl ⟨rfl, by rw [List.take_of_length_le (by omega)] at hall; exact hall⟩⟩, rfl, hw.bel⟩)
theorem Ki7 (w0 : Base) (F : List Pc) (A0 : Option Addr) (c0 : Nat) (l : List Rs) (p : Rs -> Bool) (f : FuncId) (fn : Func) (cap : Array Value) (w : World) (hw0 : Pm w0 ([.row (.slice A0 l.length c0) 65 17 l.length (Ka Rs.cells l)] ++ F) w) (hl1 : l.length <= 100000) (hmc : l.length <= c0) (hcm : c0 <= maxLen) (hfn : Tryz.prog.funcs[f]? = some fn) (hnm : (fn.name == "runtime.NumGoroutine") = false) (hbd : fn.body.isNone = false) (hf : ∀ (x : Rs) (w1 : World), (∃ L1, Pm w0 (L1 ++ F) w1) -> Calls Tryz.prog f (#[] ++ [Value.agg x.cells.toArray].toArray ++ cap) w1 fun e w' => e = .returned (.bool (p x)) /\ Below w1.heap.size w1 w') :
  Calls Tryz.prog 108 #[.slice A0 l.length c0, .func (.func f) #[] cap] w fun e w' => e = .returned (.slice A0 (l.filter fun r => !p r).length c0) /\ Pm w0 ([.row (.slice A0 (l.filter fun r => !p r).length c0) 65 17 (l.filter fun r => !p r).length (Ka Rs.cells (l.filter fun r => !p r))] ++ F) w' := by
 refine Kh (I := Pm w0 ([.row (.slice A0 l.length c0) 65 17 l.length (Ka Rs.cells l)] ++ F)) Tryz.func108 rfl rfl rfl ?_ hw0;refine zSG (TL.as_ ?_);refine zET (zSG (TL.rn 2 rfl ?_));refine TL.pL (α := {z : Int // Kfn p l z}) (r := fun x => .int .i64 x.1) (I' := fun _ => Pm w0 ([.row (.slice A0 l.length c0) 65 17 l.length (Ka Rs.cells l)] ++ F)) rfl Kgo (fun w1 hw => (KhT A0 c0 l p f fn cap w1 (KD hw (k := 0) rfl) (by omega) hfn hnm hbd (fun x w2 hb => hf x w2 ⟨_, hw.below hb⟩)).mono fun en w2 ⟨x, h1, h2⟩ => ⟨x, h1, hw.below h2⟩) ?_;rintro ⟨z, hz⟩;refine TL.as_ ?_;refine zET (zS (zSG (TL.mv ?_)));refine TL.sp Kx (fun q12 => ?_) (fun q12 => ?_)
 ·refine zET (zc (zSG (TL.rn 2 rfl (zET (zr (zR ?_))))));have hE := KjM (hz.elim (fun h => h.2) (fun ⟨i, h, _⟩ => absurd (show (i : Int) = -1 from h.symm.trans q12) (by omega)));exact Kc Tryz.results108 rfl (fun w1 hw => by rw [hE]; exact ⟨rfl, hw⟩)
 obtain ⟨i, rfl, hi, hall, y0, hy0, hpy⟩ : ∃ i : Nat, z = (i : Int) /\ i < l.length /\ (∀ r ∈ l.take i, p r = false) /\ ∃ y, l[i]? = some y /\ p y = true := hz.resolve_left fun h => q12 h.1;refine zET (zd (zk (zT (zS (zSG (TL.mv ?_))))));refine TL.v (gD ((i + 1 : Nat) : Int)) ?_;refine TL.as_ ?_;refine zET (zB (TC.lp (α := {y : Nat × Nat × List Rs // DelI p l y.1 y.2.1 y.2.2}) [0, 1] rfl (fun y => [(5, .int .i64 ((y.1.1 : Nat) : Int)), (6, .int .i64 ((y.1.2.1 : Nat) : Int))]) (fun y => Pm w0 ([.row (.slice A0 l.length c0) 65 17 l.length (Ka Rs.cells y.1.2.2)] ++ F)) (fun y => l.length - y.1.2.1) (⟨(i, i + 1, l), DelI.start hi hall hy0 hpy⟩) (fun w1 hw => hw) ?_));rintro ⟨⟨k, j, ys⟩, hD⟩;dsimp only at hD ⊢;have hyl := hD.len;have hkj := hD.kj;have hjn := hD.jn;refine zS (zSG (TL.rn 2 rfl (TL.v (gN Tryz.underlying23) ?_)));refine TL.sp Kk (fun q19 => ?_) (fun q19 => ?_)
 ·refine zET (zc (zk (zT (zS (zB (zSG (TL.rn 2 rfl ?_)))))));refine TL.fact (p := ∃ g, A0 = some ⟨g, 0, none⟩) (fun w1 hw => KL hw (k := 0) rfl (by omega)) ?_;rintro ⟨g_A0, rfl⟩;have hi24 : j < ys.length := by omega
  obtain ⟨x24, hx24⟩ := Ko hi24;refine TL.w rfl (gA (i := j) Tryz.underlying23 Kd rfl rfl rfl rfl rfl (by omega)) ?_;refine TL.w rfl (KS (off := 0 + j * 17) rfl rfl Ku Kd (Ke.len x24) (fun w1 hw j9 u9 h9 => Kv Ke hw (q := 0) rfl hx24 j9 u9 h9)) ?_;refine TL.al Kab fun g7 => ?_;refine TL.pstore (k := 0) (vs := x24.cells) rfl rfl rfl rfl rfl rfl rfl Kd (Ke.one _) (by show 17 <= 17; decide) (L' := ([.blk g7 65 x24.cells, .row (.slice (some ⟨g_A0, 0, none⟩) l.length c0) 65 17 l.length (Ka Rs.cells ys)] ++ F)) rfl ?_;refine zET (zSG (TL.mv ?_));refine TL.v (gV 0 (.agg (x24.cells).toArray) Ku Kd) ?_;obtain ⟨bv, hbv⟩ : ∃ b, p x24 = b := ⟨_, rfl⟩;refine TL.callE1 (r := .bool bv) rfl rfl rfl (KdW rfl rfl rfl hfn hnm hbd rfl) (fun w1 hw => by rw [<- hbv]; exact hf x24 w1 ⟨_, hw⟩) ?_;refine TL.w rfl (K7 (b := bv) rfl rfl) ?_;refine zET ?_;refine TC.split (t := (!bv)) rfl (fun c29 => ?_) (fun c29 => ?_)
  ·refine zSG (TL.rn 2 rfl (TL.v (gV 0 (.agg (x24.cells).toArray) Ku Kd) ?_));have hi33 : k < ys.length := by omega
   obtain ⟨x33, hx33⟩ := Ko hi33;refine TL.w rfl (gA (i := k) Tryz.underlying23 Kd rfl rfl rfl rfl rfl (by omega)) ?_;refine TL.rowset (k := 1) (vs := x24.cells) (xs' := Ka Rs.cells (ys.set k x24)) rfl rfl rfl rfl rfl rfl rfl Kd (Ke.one _) (by rw [K2 Ke]; show 0 + k * 17 + 17 <= _; omega) (KaQ Ke (q := 0) (y := x24) hx33 (by show 0 + 17 <= 17; decide) rfl) ?_
   try dsimp only [List.set_cons_zero, List.set_cons_succ]
   refine zET (zG (TL.mv ?_));refine TL.v (gD ((k + 1 : Nat) : Int)) ?_;refine TL.as_ ?_;refine zE (zN (zT (zG (TL.mv ?_))));refine TL.v (gD ((j + 1 : Nat) : Int)) ?_;refine TL.as_ ?_;refine zE ?_;exact TX.rd (⟨(k + 1, j + 1, ys.set k x24), hD.keep (by omega) hx24 (by rw [hbv]; simpa using c29)⟩) (by show l.length - (j + 1) < l.length - j; omega) (fun w1 hw => hw.sel (.cons _ (.cons_cons _ (List.Sublist.refl _))))
  refine zk (zN (zT (zG ?_)));refine TL.mv ?_;refine TL.v (gD ((j + 1 : Nat) : Int)) ?_;refine TL.as_ ?_;refine zE ?_;exact TX.rd (⟨(k, j + 1, ys), hD.out (by omega) hx24 (by rw [hbv]; simpa using c29)⟩) (by show l.length - (j + 1) < l.length - j; omega) (fun w1 hw => hw.sel (.cons _ (.cons_cons _ (List.Sublist.refl _))))
 refine zET (zd (zx (zX (zX (zM (zT (zS (TC.fact (p := ∃ g, A0 = some ⟨g, 0, none⟩) (fun w1 hw => KL hw (k := 0) rfl (by omega)) ?_))))))));rintro ⟨g_A0, rfl⟩;refine zG (TL.rn 2 rfl ?_);refine TL.w rfl (Kca (q := k) rfl rfl rfl rfl Tryz.underlying23 Kd (by omega) (by omega)) ?_;refine TL.clearF Ke (kk := 0) (q := k) (z := Rs.zero) rfl rfl rfl rfl Tryz.underlying23 Kab (by omega) (by omega) rfl ?_
 try dsimp only [List.set_cons_zero, List.set_cons_succ]
 refine zET (zSG (TL.rn 2 rfl ?_));refine TL.headF Ke (kk := 0) (hi := k) rfl rfl rfl rfl rfl rfl Tryz.underlying23 Kd rfl (by omega) (by omega) ?_
 try dsimp only [List.set_cons_zero, List.set_cons_succ]
 refine TL.as_ ?_;refine zET (zr ?_);obtain ⟨hf1, hf2⟩ := hD.fin (by omega) (n := l.length - k) (z := Rs.zero);exact Kc Tryz.results108 rfl (fun w1 hw => by rw [<- hf1, List.length_take_of_le (by rw [List.length_append, List.length_take, List.length_replicate]; have := hD.len; have := hD.kj; omega)]; exact ⟨rfl, hw⟩)
set_option maxRecDepth 20000
def IxS (d : Nat -> Bool) (n : Nat) (y : Int × Nat) : Prop := (y.1 = -1 /\ y.2 = n /\ ∀ j, j < n -> d j = false) \/ ∃ i : Nat, y.1 = (i : Int) /\ y.2 = i + 1 /\ i < n /\ (∀ j, j < i -> d j = false) /\ d i = true
def KpS (d : Nat -> Bool) (l : List Rs) (K : Nat -> List Rs) : Prop := K 0 = [] /\ ∀ j x, l[j]? = some x -> K (j + 1) = if d j then K j else K j ++ [x]
structure DelS (d : Nat -> Bool) (l : List Rs) (K : Nat -> List Rs) (k j : Nat) (ys : List Rs) : Prop where
 len : ys.length = l.length
 kj : k < j
 jn : j <= l.length
 pre : ys.take k = K j
 post : ∀ q, j <= q -> ys[q]? = l[q]?
section
variable {d : Nat -> Bool} {K : Nat -> List Rs} {l ys : List Rs} {k j i : Nat} {x : Rs}
theorem KpS.none (hK : KpS d l K) (h : ∀ q, q < j -> d q = false) (hj : j <= l.length) : K j = l.take j := by
 induction j with
 | zero => rw [List.take_zero]; exact hK.1
 | succ j ih =>
  rw [hK.2 j l[j] (List.getElem?_eq_getElem hj), h j (Nat.lt_succ_self _), List.take_add_one, List.getElem?_eq_getElem hj, ih (fun q hq => h q (by omega)) (by omega)]
  rfl
theorem DelS.start (hK : KpS d l K) (hi : i < l.length) (h : ∀ q, q < i -> d q = false) (hp : d i = true) : DelS d l K i (i + 1) l := ⟨rfl, Nat.lt_succ_self _, hi, by
 rw [hK.2 i l[i] (List.getElem?_eq_getElem hi), if_pos hp, hK.none h (by omega)], fun q _ => rfl⟩
theorem DelS.at_ (h : DelS d l K k j ys) (hx : ys[j]? = some x) : l[j]? = some x := by rw [<- h.post j (Nat.le_refl _)]; exact hx
theorem DelS.out (hK : KpS d l K) (h : DelS d l K k j ys) (hj : j < l.length) (hx : ys[j]? = some x) (hp : d j = true) : DelS d l K k (j + 1) ys := ⟨h.len, by have := h.kj; omega, hj, by
 rw [hK.2 j x (h.at_ hx), if_pos hp]; exact h.pre, fun q hq => h.post q (by omega)⟩
theorem DelS.keep (hK : KpS d l K) (h : DelS d l K k j ys) (hj : j < l.length) (hx : ys[j]? = some x) (hp : d j = false) : DelS d l K (k + 1) (j + 1) (ys.set k x) := ⟨by rw [List.length_set]; exact h.len, by have := h.kj; omega, hj, by
 have hk : k < ys.length := by have := h.kj; have := h.len; omega
 rw [hK.2 j x (h.at_ hx), hp, List.take_add_one, List.getElem?_set_self hk, List.take_set_of_le (Nat.le_refl _), h.pre]
 rfl, fun q hq => by rw [List.getElem?_set_ne (by have := h.kj; omega)]; exact h.post q (by omega)⟩
theorem DelS.fin (h : DelS d l K k j ys) (hj : l.length <= j) {n : Nat} {z : Rs} : (ys.take k ++ List.replicate n z).take k = K l.length /\ (K l.length).length = k := by
 have hk : k <= ys.length := by have := h.kj; have := h.len; have := h.jn; omega
 have e := h.pre;have ej : j = l.length := Nat.le_antisymm h.jn hj;rw [ej] at e;have e2 : (ys.take k).length = k := by rw [List.length_take]; omega
 refine ⟨by rw [List.take_left' e2]; exact e, ?_⟩;rw [<- e]; exact e2
end
theorem Kl2 {d : Nat -> Bool} {i : Nat} (h : ∀ j, j < i -> d j = false) (hi : d i = false) : ∀ j, j < i + 1 -> d j = false := fun j hj => by
 rcases Nat.lt_or_ge j i with h9 | h9
 ·exact h j h9
 obtain rfl : j = i := by omega
 exact hi
theorem Kl6 (w0 : Base) (F : List Pc) {σ : Type} (St : σ -> Pc) (Kn : Nat -> σ -> Prop) (s0 : σ) (d : Nat -> Bool) (f : FuncId) (fn : Func) (cap : Array Value) (A0 : Option Addr) (c0 : Nat) (l : List Rs) (w : World) (hw0 : Pm w0 (([.row (.slice A0 l.length c0) 65 17 l.length (Ka Rs.cells l)] ++ [St s0]) ++ F) w) (hl1 : l.length <= 100000) (hfn : Tryz.prog.funcs[f]? = some fn) (hnm : (fn.name == "runtime.NumGoroutine") = false) (hbd : fn.body.isNone = false) (hs0 : Kn 0 s0) (hf : ∀ (j : Nat) (x : Rs) (s : σ) (w1 : World) (L1 : List Pc), l[j]? = some x -> Kn j s -> Pm w0 (L1 ++ ([St s] ++ F)) w1 -> Calls Tryz.prog f (#[] ++ [Value.agg x.cells.toArray].toArray ++ cap) w1 fun e w' => ∃ s2 : {s2 : σ // Kn (j + 1) s2}, e = .returned (.bool (d j)) /\ Pm w0 (L1 ++ ([St s2.1] ++ F)) w') :
  Calls Tryz.prog 131 #[.slice A0 l.length c0, .func (.func f) #[] cap] w fun e w' => ∃ x : {y : (Int × Nat) × σ // IxS d l.length y.1 /\ Kn y.1.2 y.2}, e = .returned (.int .i64 x.1.1.1) /\ Pm w0 ([.row (.slice A0 l.length c0) 65 17 l.length (Ka Rs.cells l)] ++ ([St x.1.2] ++ F)) w' := by
 refine Kh (I := Pm w0 (([.row (.slice A0 l.length c0) 65 17 l.length (Ka Rs.cells l)] ++ [St s0]) ++ F)) Tryz.func131 rfl rfl rfl ?_ hw0;refine zSG (TL.as_ ?_);refine zET (zS (zSG (TL.mv ?_)));refine TL.v (gN Tryz.underlying23) ?_;refine TL.mv ?_;refine zET (zB (TC.lp (α := {y : Nat × σ // y.1 <= l.length /\ Kn y.1 y.2 /\ ∀ j, j < y.1 -> d j = false}) [0, 1, 7] rfl (fun y => [(8, .int .i64 ((y.1.1 : Nat) : Int))]) (fun y => Pm w0 ([.row (.slice A0 l.length c0) 65 17 l.length (Ka Rs.cells l), St y.1.2] ++ F)) (fun y => l.length - y.1.1) (⟨(0, s0), Nat.zero_le _, hs0, fun j hj => absurd hj (by omega)⟩) (fun w1 hw => hw) ?_));rintro ⟨⟨i, s⟩, hi, hs, hall⟩;dsimp only at hi hs hall ⊢;refine zSG ?_;refine TL.vw rfl (Ks rfl rfl rfl (fun w => Kk w)) (fun h9 => ?_) (fun h9 => ?_)
 ·have q9 := of_decide_eq_true h9;refine zET (zS (zc (zk (zT (zS (zB (zSG (TL.rn 2 rfl (zET (zSG (TL.rn 3 rfl ?_)))))))))));refine TL.fact (p := ∃ g, A0 = some ⟨g, 0, none⟩) (fun w1 hw => KL hw (k := 0) rfl (by omega)) ?_;rintro ⟨g_A0, rfl⟩;have hi14 : i < l.length := by omega
  obtain ⟨x14, hx14⟩ := Ko hi14;refine TL.w rfl (gA (i := i) Tryz.underlying23 Kd rfl rfl rfl rfl rfl (by omega)) ?_;refine TL.w rfl (KS (off := 0 + i * 17) rfl rfl Ku Kd (Ke.len x14) (fun w1 hw j9 u9 h9 => Kv Ke hw (q := 0) rfl hx14 j9 u9 h9)) ?_;obtain ⟨bv, hbv⟩ : ∃ b, d i = b := ⟨_, rfl⟩;refine TL.callE (α := {s : σ // Kn (i + 1) s}) (r := fun _ => .bool bv) (I' := fun x => Pm w0 ([.row (.slice (some ⟨g_A0, 0, none⟩) l.length c0) 65 17 l.length (Ka Rs.cells l), St x.1] ++ F)) rfl rfl rfl (KdW rfl rfl rfl hfn hnm hbd rfl) (fun w1 hw => (hf i x14 s w1 [.row (.slice (some ⟨g_A0, 0, none⟩) l.length c0) 65 17 l.length (Ka Rs.cells l)] hx14 hs hw).mono fun en w2 ⟨x, h1, h2⟩ => ⟨x, by rw [h1, hbv], h2⟩) ?_;rintro ⟨sa, hsa⟩;refine zET ?_;refine TC.split (t := bv) rfl (fun c16 => ?_) (fun c16 => ?_)
  ·refine zSG (TL.rn 2 rfl (zET (zr (zRR (zR (zRR ?_))))));exact Kc Tryz.results131 rfl (fun w1 hw => ⟨⟨((((i : Nat) : Int), i + 1), sa), .inr ⟨i, rfl, rfl, by omega, hall, by rw [hbv]; exact c16⟩, hsa⟩, rfl, hw⟩)
  refine zk (zN (zT (zG ?_)));refine TL.v (gD ((i + 1 : Nat) : Int)) ?_;refine TL.mv ?_;refine zE ?_;exact TX.rd (⟨(i + 1, sa), by dsimp only; omega, hsa, Kl2 hall (by rw [hbv]; exact c16)⟩) (by show l.length - (i + 1) < l.length - i; omega) (fun w1 hw => hw)
 have q9 := of_decide_eq_false h9;refine zET (zS (zd (zx (zX (zX (zM (zT (zSG (TL.as_ ?_)))))))));refine zET (zr ?_);obtain rfl : i = l.length := by omega
 exact Kc Tryz.results131 rfl (fun w1 hw => ⟨⟨((-1, l.length), s), .inl ⟨rfl, rfl, fun j hj => hall j (by omega)⟩, hs⟩, rfl, hw⟩)
theorem Kqa (w0 : Base) (F : List Pc) {σ : Type} (St : σ -> Pc) (Kn : Nat -> σ -> Prop) (s0 : σ) (d : Nat -> Bool) (f : FuncId) (fn : Func) (cap : Array Value) (K : Nat -> List Rs) (A0 : Option Addr) (c0 : Nat) (l : List Rs) (w : World) (hw0 : Pm w0 (([.row (.slice A0 l.length c0) 65 17 l.length (Ka Rs.cells l)] ++ [St s0]) ++ F) w) (hl1 : l.length <= 100000) (hmc : l.length <= c0) (hcm : c0 <= maxLen) (hK : KpS d l K) (hfn : Tryz.prog.funcs[f]? = some fn) (hnm : (fn.name == "runtime.NumGoroutine") = false) (hbd : fn.body.isNone = false) (hs0 : Kn 0 s0) (hf : ∀ (j : Nat) (x : Rs) (s : σ) (w1 : World) (L1 : List Pc), l[j]? = some x -> Kn j s -> Pm w0 (L1 ++ ([St s] ++ F)) w1 -> Calls Tryz.prog f (#[] ++ [Value.agg x.cells.toArray].toArray ++ cap) w1 fun e w' => ∃ s2 : {s2 : σ // Kn (j + 1) s2}, e = .returned (.bool (d j)) /\ Pm w0 (L1 ++ ([St s2.1] ++ F)) w') :
  Calls Tryz.prog 108 #[.slice A0 l.length c0, .func (.func f) #[] cap] w fun e w' => ∃ s2 : {s2 : σ // Kn l.length s2}, e = .returned (.slice A0 (K l.length).length c0) /\ Pm w0 ([.row (.slice A0 (K l.length).length c0) 65 17 (K l.length).length (Ka Rs.cells (K l.length))] ++ ([St s2.1] ++ F)) w' := by
 refine Kh (I := Pm w0 (([.row (.slice A0 l.length c0) 65 17 l.length (Ka Rs.cells l)] ++ [St s0]) ++ F)) Tryz.func108 rfl rfl rfl ?_ hw0;refine zSG (TL.as_ ?_);refine zET (zSG (TL.rn 2 rfl ?_));refine TL.pL (α := {y : (Int × Nat) × σ // IxS d l.length y.1 /\ Kn y.1.2 y.2}) (r := fun x => .int .i64 x.1.1.1) (I' := fun x => Pm w0 ([.row (.slice A0 l.length c0) 65 17 l.length (Ka Rs.cells l), St x.1.2] ++ F)) rfl Kgo (fun w1 hw => Kl6 w0 F St Kn s0 d f fn cap A0 c0 l w1 hw hl1 hfn hnm hbd hs0 hf) ?_;rintro ⟨⟨⟨z, m⟩, sb0⟩, hz, hsb0⟩;dsimp only at hz hsb0 ⊢;refine TL.as_ ?_;refine zET (zS (zSG (TL.mv ?_)));refine TL.sp Kx (fun q12 => ?_) (fun q12 => ?_)
 ·refine zET (zc (zSG (TL.rn 2 rfl (zET (zr (zR ?_))))));have hm9 : m = l.length /\ ∀ j, j < l.length -> d j = false := hz.elim (fun h => h.2) (fun ⟨i, h, _⟩ => absurd (show (i : Int) = -1 from h.symm.trans q12) (by omega));obtain ⟨rfl, hm9⟩ := hm9;have hE : K l.length = l := by rw [hK.none hm9 (Nat.le_refl _), List.take_length]
  exact Kc Tryz.results108 rfl (fun w1 hw => by rw [hE]; exact ⟨⟨sb0, hsb0⟩, rfl, hw⟩)
 obtain ⟨i, rfl, rfl, hi, hall, hpy⟩ : ∃ i : Nat, z = (i : Int) /\ m = i + 1 /\ i < l.length /\ (∀ j, j < i -> d j = false) /\ d i = true := hz.resolve_left fun h => q12 h.1;refine zET (zd (zk (zT (zS (zSG (TL.mv ?_))))));refine TL.v (gD ((i + 1 : Nat) : Int)) ?_;refine TL.as_ ?_;refine zET (zB (TC.lp (α := {y : Nat × Nat × List Rs × σ // DelS d l K y.1 y.2.1 y.2.2.1 /\ Kn y.2.1 y.2.2.2}) [0, 1] rfl (fun y => [(5, .int .i64 ((y.1.1 : Nat) : Int)), (6, .int .i64 ((y.1.2.1 : Nat) : Int))]) (fun y => Pm w0 ([.row (.slice A0 l.length c0) 65 17 l.length (Ka Rs.cells y.1.2.2.1), St y.1.2.2.2] ++ F)) (fun y => l.length - y.1.2.1) (⟨(i, i + 1, l, sb0), DelS.start hK hi hall hpy, hsb0⟩) (fun w1 hw => hw) ?_));rintro ⟨⟨k, j, ys, sb⟩, hD, hsb⟩;dsimp only at hD hsb ⊢;have hyl := hD.len;have hkj := hD.kj;have hjn := hD.jn;refine zS (zSG (TL.rn 2 rfl (TL.v (gN Tryz.underlying23) ?_)));refine TL.sp Kk (fun q19 => ?_) (fun q19 => ?_)
 ·refine zET (zc (zk (zT (zS (zB (zSG (TL.rn 2 rfl ?_)))))));refine TL.fact (p := ∃ g, A0 = some ⟨g, 0, none⟩) (fun w1 hw => KL hw (k := 0) rfl (by omega)) ?_;rintro ⟨g_A0, rfl⟩;have hi24 : j < ys.length := by omega
  obtain ⟨x24, hx24⟩ := Ko hi24;refine TL.w rfl (gA (i := j) Tryz.underlying23 Kd rfl rfl rfl rfl rfl (by omega)) ?_;refine TL.w rfl (KS (off := 0 + j * 17) rfl rfl Ku Kd (Ke.len x24) (fun w1 hw j9 u9 h9 => Kv Ke hw (q := 0) rfl hx24 j9 u9 h9)) ?_;refine TL.al Kab fun g7 => ?_;refine TL.pstore (k := 0) (vs := x24.cells) rfl rfl rfl rfl rfl rfl rfl Kd (Ke.one _) (by show 17 <= 17; decide) (L' := ([.blk g7 65 x24.cells, .row (.slice (some ⟨g_A0, 0, none⟩) l.length c0) 65 17 l.length (Ka Rs.cells ys), St sb] ++ F)) rfl ?_;refine zET (zSG (TL.mv ?_));refine TL.v (gV 0 (.agg (x24.cells).toArray) Ku Kd) ?_;obtain ⟨bv, hbv⟩ : ∃ b, d j = b := ⟨_, rfl⟩;refine TL.callE (α := {s : σ // Kn (j + 1) s}) (r := fun _ => .bool bv) (I' := fun x => Pm w0 ([.blk g7 65 x24.cells, .row (.slice (some ⟨g_A0, 0, none⟩) l.length c0) 65 17 l.length (Ka Rs.cells ys), St x.1] ++ F)) rfl rfl rfl (KdW rfl rfl rfl hfn hnm hbd rfl) (fun w1 hw => (hf j x24 sb w1 [.blk g7 65 x24.cells, .row (.slice (some ⟨g_A0, 0, none⟩) l.length c0) 65 17 l.length (Ka Rs.cells ys)] (hD.at_ hx24) hsb hw).mono fun en w2 ⟨x, h1, h2⟩ => ⟨x, by rw [h1, hbv], h2⟩) ?_;rintro ⟨sc, hsc⟩;refine TL.w rfl (K7 (b := bv) rfl rfl) ?_;refine zET ?_;refine TC.split (t := (!bv)) rfl (fun c29 => ?_) (fun c29 => ?_)
  ·refine zSG (TL.rn 2 rfl (TL.v (gV 0 (.agg (x24.cells).toArray) Ku Kd) ?_));have hi33 : k < ys.length := by omega
   obtain ⟨x33, hx33⟩ := Ko hi33;refine TL.w rfl (gA (i := k) Tryz.underlying23 Kd rfl rfl rfl rfl rfl (by omega)) ?_;refine TL.rowset (k := 1) (vs := x24.cells) (xs' := Ka Rs.cells (ys.set k x24)) rfl rfl rfl rfl rfl rfl rfl Kd (Ke.one _) (by rw [K2 Ke]; show 0 + k * 17 + 17 <= _; omega) (KaQ Ke (q := 0) (y := x24) hx33 (by show 0 + 17 <= 17; decide) rfl) ?_
   try dsimp only [List.set_cons_zero, List.set_cons_succ]
   refine zET (zG (TL.mv ?_));refine TL.v (gD ((k + 1 : Nat) : Int)) ?_;refine TL.as_ ?_;refine zE (zN (zT (zG (TL.mv ?_))));refine TL.v (gD ((j + 1 : Nat) : Int)) ?_;refine TL.as_ ?_;refine zE ?_;exact TX.rd (⟨(k + 1, j + 1, ys.set k x24, sc), hD.keep hK (by omega) hx24 (by rw [hbv]; simpa using c29), hsc⟩) (by show l.length - (j + 1) < l.length - j; omega) (fun w1 hw => hw.sel (.cons _ (.cons_cons _ (.cons_cons _ (List.Sublist.refl _)))))
  refine zk (zN (zT (zG ?_)));refine TL.mv ?_;refine TL.v (gD ((j + 1 : Nat) : Int)) ?_;refine TL.as_ ?_;refine zE ?_;exact TX.rd (⟨(k, j + 1, ys, sc), hD.out hK (by omega) hx24 (by rw [hbv]; simpa using c29), hsc⟩) (by show l.length - (j + 1) < l.length - j; omega) (fun w1 hw => hw.sel (.cons _ (.cons_cons _ (.cons_cons _ (List.Sublist.refl _)))))
 refine zET (zd (zx (zX (zX (zM (zT (zS (TC.fact (p := ∃ g, A0 = some ⟨g, 0, none⟩) (fun w1 hw => KL hw (k := 0) rfl (by omega)) ?_))))))));rintro ⟨g_A0, rfl⟩;refine zG (TL.rn 2 rfl ?_);refine TL.w rfl (Kca (q := k) rfl rfl rfl rfl Tryz.underlying23 Kd (by omega) (by omega)) ?_;refine TL.clearF Ke (kk := 0) (q := k) (z := Rs.zero) rfl rfl rfl rfl Tryz.underlying23 Kab (by omega) (by omega) rfl ?_
 try dsimp only [List.set_cons_zero, List.set_cons_succ]
 refine zET (zSG (TL.rn 2 rfl ?_));refine TL.headF Ke (kk := 0) (hi := k) rfl rfl rfl rfl rfl rfl Tryz.underlying23 Kd rfl (by omega) (by omega) ?_
 try dsimp only [List.set_cons_zero, List.set_cons_succ]
 refine TL.as_ ?_;refine zET (zr ?_);obtain ⟨hf1, hf2⟩ := hD.fin (by omega) (n := l.length - k) (z := Rs.zero);obtain rfl : j = l.length := by omega
 exact Kc Tryz.results108 rfl (fun w1 hw => by rw [<- hf1, List.length_take_of_le (by rw [List.length_append, List.length_take, List.length_replicate]; have := hD.len; have := hD.kj; omega)]; exact ⟨⟨sb, hsb⟩, rfl, hw⟩)
open Go Go.RowKit
set_option maxRecDepth 20000
def Idn.Ok (s : Idn) : Prop := (Lit.int .i64 s.v).wf = true /\ (Lit.int .i64 s.run).wf = true /\ (Lit.int .i64 s.num).wf = true
theorem Ko2 (d : Nat) (a0 : Int) (a1 : Int) (a2 : Int) (h0 : (Lit.int .i64 a0).wf = true) (h1 : (Lit.int .i64 a1).wf = true) (h2 : (Lit.int .i64 a2).wf = true) : Tryz.prog.keyLits (d + 2) 73 [.int .i64 a0, .int .i64 a1, .int .i64 a2] = some [.int .i64 a0, .int .i64 a1, .int .i64 a2] := by
  have hc : Tryz.prog.cellsOf 73 = 3 := by kernel_rfl
  have hc3 : Tryz.prog.cellsOf 3 = 1 := by kernel_rfl
  have hu3 := Tryz.underlying3;simp [Program.keyLits, Tryz.underlying73, hc, hc3, hu3, h0, h1, h2]
theorem Kp4 (s : Idn) (h : s.Ok) : ∃ l, keyOf Tryz.prog 73 (.agg s.cells.toArray) = some l := by
  have hkt : Tryz.prog.keyType 73 = true := by kernel_rfl
  have hc : Tryz.prog.cellsOf 73 = 3 := by kernel_rfl
  have hf : (Value.agg s.cells.toArray).formed Tryz.prog 73 = true := by simp [Value.formed, Tryz.underlying73, hc, Idn.cells]
  have hp : 0 < Tryz.prog.types.size := of_decide_eq_true (by kernel_rfl);have hl := Ko2 (Tryz.prog.types.size - 1) s.v s.run s.num h.1 h.2.1 h.2.2;rw [show Tryz.prog.types.size - 1 + 2 = Tryz.prog.types.size + 1 by omega] at hl;refine ⟨.string (keyBytes [.int .i64 s.v, .int .i64 s.run, .int .i64 s.num]), ?_⟩;unfold keyOf;rw [Tryz.underlying73];simp only [hkt, hf, Bool.and_self, if_true];show Option.map _ (Tryz.prog.keyLits _ _ [.int .i64 s.v, .int .i64 s.run, .int .i64 s.num]) = _;rw [hl]
  rfl
theorem Ke1 : MKey Tryz.prog 73 (fun s : Idn => .agg s.cells.toArray) Idn.Ok where
  keyed := Maps.Keyed.of_law (deep_law (m := 2) (by omega) (by kernel_rfl) (by kernel_rfl) (by rw [Tryz.underlying73]))
  lit := Kp4
  inj := fun a b h => by
    cases a; cases b
    simpa [Idn.cells] using h
set_option maxRecDepth 20000
def Kaq (l : List Rs) (t : Trc) (flow : Int) (y : List Rs) : Prop := ∃ x, Kb4 l t x /\ y = x.filter fun r => KM r && decide (r.flow = flow)
theorem Kaq.eq {l y y' : List Rs} {t : Trc} {flow : Int} (h : Kaq l t flow y) (h' : Kaq l t flow y') : y = y' := by
 obtain ⟨x, h1, h2⟩ := h;obtain ⟨x', h3, h4⟩ := h';rw [h2, h4, h1.eq h3]
theorem Kb4.le_ {l y : List Rs} {t : Trc} (h : Kb4 l t y) : y.length <= l.length := by
 obtain ⟨o, h1, rfl⟩ := h;exact Nat.le_trans (List.length_filter_le _ _) h1.le
theorem Kaq.le {l y : List Rs} {t : Trc} {flow : Int} (h : Kaq l t flow y) : y.length <= l.length := by
 obtain ⟨x, h1, rfl⟩ := h;exact Nat.le_trans (List.length_filter_le _ _) h1.le_
def Rp.trc (p : Rp) : Trc := ⟨p.v, p.dst, p.proto⟩
def atL (l : List Rs) (ttl : Int) : List Rs := l.filter fun r => r.ans && decide (r.ttl = ttl)
def Kbs (t e : Int) (r : Rs) : Bool := Kan r && decide (r.back <= t) && (decide (e = 0) || decide (r.ttl < e))
def KcR (l : List Rs) (t : Int) : Int := l.foldl (fun e r => if Kbs t e r then r.ttl else e) 0
theorem Kej {l : List Rs} {t e : Int} {i : Nat} {x : Rs} (hx : l[i]? = some x) (h : KcR (l.take i) t = e) : KcR (l.take (i + 1)) t = if Kbs t e x then x.ttl else e := by
 unfold KcR at h ⊢;rw [List.take_add_one, hx, List.foldl_append, h]; rfl
def Ka8 (e t : Int) (r : Rs) : Bool := !r.ans && decide (r.ttl >= e) && decide (r.at_ >= t)
def KaJ (e t : Int) (l : List Rs) : Nat := (l.filter (Ka8 e t)).length
theorem Kiu {l : List Rs} {e t : Int} {i c : Nat} {x : Rs} (hx : l[i]? = some x) (hp : Ka8 e t x = true) (h : KaJ e t (l.take i) = c) : KaJ e t (l.take (i + 1)) = c + 1 := by
 unfold KaJ at h ⊢;rw [List.take_add_one, hx, List.filter_append, List.length_append, h];simp [hp]
theorem Kdz {l : List Rs} {e t : Int} {i c : Nat} {x : Rs} (hx : l[i]? = some x) (hp : Ka8 e t x = false) (h : KaJ e t (l.take i) = c) : KaJ e t (l.take (i + 1)) = c := by
 unfold KaJ at h ⊢;rw [List.take_add_one, hx, List.filter_append, List.length_append, h];simp [hp]
def bhF (l : List Rs) (losses t : Int) : Bool := decide (0 < KcR l t) && decide (losses <= (KaJ (KcR l t) t l : Int))
theorem KgY (A0 : Option Addr) (c0 : Nat) (l : List Rs) (ttl : Int) (w : World) (hr : Kg w w.heap.size 17 A0 l.length (Ka Rs.cells l)) (hl1 : l.length <= 100000) :
  Calls Tryz.prog 77 #[.slice A0 l.length c0, .int .i64 ttl] w fun e w' => ∃ x : {y : (Option Addr × Nat) × List Rs // y.2 = atL l ttl /\ y.2.length <= y.1.2 /\ y.1.2 <= maxLen}, e = .returned (.slice x.1.1.1 x.1.2.length x.1.1.2) /\ Pm w [.row (.slice x.1.1.1 x.1.2.length x.1.1.2) 65 17 x.1.2.length (Ka Rs.cells x.1.2)] w' := by
 refine Kh Tryz.func77 rfl rfl rfl ?_ (Pm.start w);refine zSG (TL.as_ ?_);refine zET (zSG (TL.as_ ?_));refine zET (zS (zSG (TL.mv ?_)));refine TL.v (gN Tryz.underlying23) ?_;refine TL.mv ?_;refine zET (zB (TC.nilrow 65 17 ?_));refine TC.lp (α := {y : Nat × (Option Addr × Nat) × List Rs // y.1 <= l.length /\ ((l.take y.1).filter (fun r : Rs => r.ans && decide (r.ttl = ttl)) = y.2.2) /\ y.2.2.length <= y.1 /\ y.2.2.length <= y.2.1.2 /\ y.2.1.2 <= maxLen}) [1, 8, 9] rfl (fun y => [(10, .int .i64 ((y.1.1 : Nat) : Int)), (5, .slice y.1.2.1.1 y.1.2.2.length y.1.2.1.2)]) (fun y => Pm w [.row (.slice y.1.2.1.1 y.1.2.2.length y.1.2.1.2) 65 17 y.1.2.2.length (Ka Rs.cells y.1.2.2)]) (fun y => l.length - y.1.1) (⟨(0, (none, 0), []), Nat.zero_le _, rfl, Nat.le_refl _, Nat.le_refl _, Nat.zero_le _⟩) (fun w1 hw => hw) ?_;rintro ⟨⟨i, ⟨Ao, co⟩, out⟩, hi, hout, houtl, houtc, houtm⟩;dsimp only at hi hout houtl houtc houtm ⊢;refine zSG ?_;refine TL.sp Kk (fun q11 => ?_) (fun q11 => ?_)
 ·refine zET (zS (zc (zk (zT (zS (zB (zSG ?_)))))));have hi12 : i < l.length := by omega
  obtain ⟨x12, hx12⟩ := Ko hi12;obtain ⟨b12, o12, hA12, hbb12, hc12⟩ := hr.ad (by omega) (by decide);refine TL.w rfl (gA (i := i) Tryz.underlying23 Kd rfl rfl rfl rfl hA12 (by omega)) ?_;refine TL.v (gR Ke Ku Kd hbb12 hx12 hc12) ?_;refine TL.al Kab fun g7 => ?_;refine TL.pstore (k := 0) (vs := x12.cells) rfl rfl rfl rfl rfl rfl rfl Kd (Ke.one _) (by show 17 <= 17; decide) (L' := [.blk g7 65 x12.cells, .row (.slice Ao out.length co) 65 17 out.length (Ka Rs.cells out)]) rfl ?_;refine zET (zSG (TL.v (gF Kar) ?_));refine TL.vw rfl (gL 0 Kaf) (fun h15 => ?_) (fun h15 => ?_)
  ·refine TL.mv ?_;refine TL.ov (gF Kas) ?_;refine TL.ov (gL 0 Kb) ?_;refine TL.rn 1 rfl (TL.gu ?_);refine TL.sp Kx (fun q20 => ?_) (fun q20 => ?_)
   ·refine TL.pk ?_;refine zET (zc (zG (TL.mv ?_)));refine TL.v (gV 0 (.agg (x12.cells).toArray) Ku Kd) ?_;refine TL.prowS (e := 65) (size := 17) (cs := Ka Rs.cells [x12]) rfl rfl rfl rfl rfl (fun w => KbF _ _ _ _ _ _ _ _ _ _ _ _ _ _ _ _ _ w) (by decide) rfl (fun g24 => ?_);refine TL.appendT (k := 2) rfl rfl rfl rfl Tryz.underlying23 KaK rfl rfl rfl (fun w1 hw => KN hw (k := 0) rfl) (KA Ke _) (by show _ * 128 <= _; omega) ((out ++ [x12]).length) (by rw [List.length_append]; rfl) (Ka Rs.cells (out ++ [x12])) ((KF _ _).symm) (fun A25 c25 hA251 hA252 => ?_);refine TL.as_ ?_;refine zE (zN (zT (zG (TL.v (gD ((i + 1 : Nat) : Int)) ?_))));refine TL.mv ?_;refine zE ?_;exact TX.rd (⟨(i + 1, (A25, c25), out ++ [x12]), by dsimp only; omega, Kem (p := (fun r : Rs => r.ans && decide (r.ttl = ttl))) hx12 (by simp [q11, h15, q20]) hout, by dsimp only; rw [List.length_append]; show out.length + 1 <= _; omega, hA251, hA252⟩) (by show l.length - (i + 1) < l.length - i; omega) (fun w1 hw => hw.pk [2])
   refine TL.pk ?_;refine zET (zd (zk (zN (zT (zG (TL.v (gD ((i + 1 : Nat) : Int)) ?_))))));refine TL.mv ?_;refine zE ?_;exact TX.rd (⟨(i + 1, (Ao, co), out), by dsimp only; omega, Kde (p := (fun r : Rs => r.ans && decide (r.ttl = ttl))) hx12 (by simp [q11, h15, q20]) hout, by dsimp only; omega, houtc, houtm⟩) (by show l.length - (i + 1) < l.length - i; omega) (fun w1 hw => hw.pk [1])
  refine TL.rn 6 rfl (zET (zd (zk (zN (zT (zG (TL.v (gD ((i + 1 : Nat) : Int)) ?_)))))));refine TL.mv ?_;refine zE ?_;exact TX.rd (⟨(i + 1, (Ao, co), out), by dsimp only; omega, Kde (p := (fun r : Rs => r.ans && decide (r.ttl = ttl))) hx12 (by simp [q11, h15]) hout, by dsimp only; omega, houtc, houtm⟩) (by show l.length - (i + 1) < l.length - i; omega) (fun w1 hw => hw.pk [1])
 refine zET (zS (zd (zx (zX (zX (zM (zT (zSG (TL.rn 2 rfl (zET (zr ?_)))))))))));exact Kc Tryz.results77 rfl (fun w1 hw => ⟨⟨((Ao, co), out), by rw [List.take_of_length_le (by omega)] at hout; exact hout.symm, by dsimp only; omega, houtm⟩, rfl, hw.pick [0] (by decide) rfl⟩)
theorem Kgc (A0 : Option Addr) (c0 : Nat) (l : List Rs) (p : Rp) (w : World) (hr : Kg w w.heap.size 17 A0 l.length (Ka Rs.cells l)) (hl1 : l.length <= 100000) (hok : ∀ r ∈ l, r.Ok) :
  Calls Tryz.prog 74 #[.slice A0 l.length c0, .agg p.cells.toArray] w fun e w' => ∃ x : {y : (Option Addr × Nat) × List Rs // Kaq l p.trc p.flow y.2 /\ y.2.length <= y.1.2 /\ y.1.2 <= maxLen}, e = .returned (.slice x.1.1.1 x.1.2.length x.1.1.2) /\ Pm w [.row (.slice x.1.1.1 x.1.2.length x.1.1.2) 65 17 x.1.2.length (Ka Rs.cells x.1.2)] w' := by
 refine Kh Tryz.func74 rfl rfl rfl ?_ (Pm.start w);refine zSG ?_;refine TL.bx fun g3 => ?_;refine TL.as_ ?_;refine zET (zSG (TL.mv ?_));refine TL.v (gF Kay) ?_;refine TL.v (gV 0 (.agg #[.int .i64 p.v, .int .u32 p.dst, .int .i64 p.proto]) KbJ Kaj) ?_;refine TL.pM _ _ rfl o60 (fun w1 hw => KmA A0 c0 l p.trc w1 (hr.up hw.bel) hl1 hok) ?_;rintro ⟨⟨⟨R11, rc11⟩, o11⟩, hP11, hR111, hR112⟩;dsimp only [lC, lN];dsimp only at hP11 hR111 hR112 ⊢;refine TL.as_ ?_;refine zET (zSG (TL.as_ ?_));refine zET (zS (zSG (TL.as_ ?_)));refine zET (zB (TC.nilrow 65 17 ?_));have hol := hP11.le_;refine TC.lp (α := {y : Nat × (Option Addr × Nat) × List Rs // y.1 <= o11.length /\ ((o11.take y.1).filter (fun r : Rs => KM r && decide (r.flow = p.flow)) = y.2.2) /\ y.2.2.length <= y.1 /\ y.2.2.length <= y.2.1.2 /\ y.2.1.2 <= maxLen}) [3, 5] rfl (fun y => [(7, .int .i64 ((y.1.1 : Nat) : Int)), (6, .slice y.1.2.1.1 y.1.2.2.length y.1.2.1.2)]) (fun y => Pm w [.row (.slice y.1.2.1.1 y.1.2.2.length y.1.2.1.2) 65 17 y.1.2.2.length (Ka Rs.cells y.1.2.2), .row (.slice R11 o11.length rc11) 65 17 o11.length (Ka Rs.cells o11), .blk g3 34 p.cells]) (fun y => o11.length - y.1.1) (⟨(0, (none, 0), []), Nat.zero_le _, rfl, Nat.le_refl _, Nat.le_refl _, Nat.zero_le _⟩) (fun w1 hw => hw) ?_;rintro ⟨⟨i, ⟨Ao, co⟩, out⟩, hi, hout, houtl, houtc, houtm⟩;dsimp only at hi hout houtl houtc houtm ⊢;refine zS (zSG (TL.rn 2 rfl (TL.v (gN Tryz.underlying23) ?_)));refine TL.sp Kk (fun q15 => ?_) (fun q15 => ?_)
 ·refine zET (zc (zk (zT (zS (zB (zS (TC.fact (p := ∃ g, R11 = some ⟨g, 0, none⟩) (fun w1 hw => KL hw (k := 1) rfl (by omega)) ?_)))))));rintro ⟨g_R11, rfl⟩;refine TC.quietQ (by kernel_rfl) (by kernel_rfl) (fun w hw => hw.drawn _) ?_;refine TQ.rn 2 rfl ?_;have hi20 : i < o11.length := by omega
  obtain ⟨x20, hx20⟩ := Ko hi20;refine TQ.w rfl (gA (i := i) Tryz.underlying23 Kd rfl rfl rfl rfl rfl (by omega)) ?_;refine TQ.w rfl (KS (off := 0 + i * 17) rfl rfl Ku Kd (Ke.len x20) (fun w1 hw j9 u9 h9 => Kv Ke hw (q := 1) rfl hx20 j9 u9 h9)) ?_;refine TQ.pS rfl o96 (fun w1 hw => KjG x20 w1) (fun h22 => ?_) (fun h22 => ?_)
  ·refine TQ.rn 3 rfl ?_;refine TQ.on rfl rfl rfl ?_;refine TQ.w rfl (gA (i := i) Tryz.underlying23 Kd rfl rfl rfl rfl rfl (by omega)) ?_;refine TQ.ov (gF Kbq) ?_;refine TQ.on rfl rfl rfl ?_;refine TQ.w rfl (Kw (v := .int .i64 x20.flow) rfl rfl Kb (fun w1 hw => Kv Ke hw (q := 1) rfl hx20 6 _ rfl)) ?_;refine TQ.ov (gF Kci) ?_;refine TQ.ov (gL 2 Kb) ?_;refine TQ.on rfl rfl rfl ?_;refine TQ.sp Kx (fun q31 => ?_) (fun q31 => ?_)
   ·refine TQ.w rfl (K4 rfl rfl rfl) ?_;refine TQ.fin ?_;refine zT (zc (zG (TL.rn 3 rfl ?_)));refine TL.w rfl (gA (i := i) Tryz.underlying23 Kd rfl rfl rfl rfl rfl (by omega)) ?_;refine TL.w rfl (KS (off := 0 + i * 17) rfl rfl Ku Kd (Ke.len x20) (fun w1 hw j9 u9 h9 => Kv Ke hw (q := 1) rfl hx20 j9 u9 h9)) ?_;refine TL.prowS (e := 65) (size := 17) (cs := Ka Rs.cells [x20]) rfl rfl rfl rfl rfl (fun w => KbF _ _ _ _ _ _ _ _ _ _ _ _ _ _ _ _ _ w) (by decide) rfl (fun g38 => ?_);refine TL.appendT (k := 1) rfl rfl rfl rfl Tryz.underlying23 KaK rfl rfl rfl (fun w1 hw => KN hw (k := 0) rfl) (KA Ke _) (by show _ * 128 <= _; omega) ((out ++ [x20]).length) (by rw [List.length_append]; rfl) (Ka Rs.cells (out ++ [x20])) ((KF _ _).symm) (fun A39 c39 hA391 hA392 => ?_);refine TL.as_ ?_;refine zE (zN (zT (zG (TL.mv ?_))));refine TL.v (gD ((i + 1 : Nat) : Int)) ?_;refine TL.as_ ?_;refine zE ?_;exact TX.rd (⟨(i + 1, (A39, c39), out ++ [x20]), by dsimp only; omega, Kem (p := (fun r : Rs => KM r && decide (r.flow = p.flow))) hx20 (by simp [q15, h22, q31]) hout, by dsimp only; rw [List.length_append]; show out.length + 1 <= _; omega, hA391, hA392⟩) (by show o11.length - (i + 1) < o11.length - i; omega) (fun w1 hw => hw.pk [1, 2, 3])
   refine TQ.w rfl (K4 rfl rfl rfl) ?_;refine TQ.fin ?_;refine zT (zd (zk (zN (zT (zG (TL.mv ?_))))));refine TL.v (gD ((i + 1 : Nat) : Int)) ?_;refine TL.as_ ?_;refine zE ?_;exact TX.rd (⟨(i + 1, (Ao, co), out), by dsimp only; omega, Kde (p := (fun r : Rs => KM r && decide (r.flow = p.flow))) hx20 (by simp [q15, h22, q31]) hout, by dsimp only; omega, houtc, houtm⟩) (by show o11.length - (i + 1) < o11.length - i; omega) (fun w1 hw => hw)
  refine TQ.rn 10 rfl ?_;refine TQ.fin ?_;refine zT (zd (zk (zN (zT (zG (TL.mv ?_))))));refine TL.v (gD ((i + 1 : Nat) : Int)) ?_;refine TL.as_ ?_;refine zE ?_;exact TX.rd (⟨(i + 1, (Ao, co), out), by dsimp only; omega, Kde (p := (fun r : Rs => KM r && decide (r.flow = p.flow))) hx20 (by simp [q15, h22]) hout, by dsimp only; omega, houtc, houtm⟩) (by show o11.length - (i + 1) < o11.length - i; omega) (fun w1 hw => hw)
 refine zET (zd (zx (zX (zX (zM (zT (zSG (TL.rn 2 rfl (zET (zr ?_))))))))));exact Kc Tryz.results74 rfl (fun w1 hw => ⟨⟨((Ao, co), out), by rw [List.take_of_length_le (by omega)] at hout; exact ⟨o11, hP11, hout.symm⟩, by dsimp only; omega, houtm⟩, rfl, hw.pick [0] (by decide) rfl⟩)
theorem Kkj (A0 : Option Addr) (c0 : Nat) (l : List Rs) (losses t : Int) (w : World) (hr : Kg w w.heap.size 17 A0 l.length (Ka Rs.cells l)) (hl1 : l.length <= 100000) :
  Calls Tryz.prog 72 #[.slice A0 l.length c0, .int .i64 losses, .int .i64 t] w fun e w' => e = .returned (.bool (bhF l losses t)) /\ Below w.heap.size w w' := by
 refine Kh Tryz.func72 rfl rfl rfl ?_ (Pm.start w);refine zSG (TL.as_ ?_);refine zET (zSG (TL.as_ ?_));refine zET (zS (zSG (TL.mv ?_)));refine TL.v (gN Tryz.underlying23) ?_;refine TL.mv ?_;refine zET (zB (TC.lp (α := {y : Nat × Int // y.1 <= l.length /\ KcR (l.take y.1) t = y.2}) [0, 1, 2, 13, 14] rfl (fun y => [(15, .int .i64 ((y.1.1 : Nat) : Int)), (7, .int .i64 y.1.2)]) (fun y => Pm w []) (fun y => l.length - y.1.1) (⟨(0, 0), Nat.zero_le _, rfl⟩) (fun w1 hw => hw) ?_));rintro ⟨⟨i, e⟩, hi, hst⟩;dsimp only at hi hst ⊢;refine zSG ?_;refine TL.sp Kk (fun q16 => ?_) (fun q16 => ?_)
 ·refine zET (zS (zc (zk (zT (zS (zB (zSG ?_)))))));have hi17 : i < l.length := by omega
  obtain ⟨x17, hx17⟩ := Ko hi17;obtain ⟨b17, o17, hA17, hbb17, hc17⟩ := hr.ad (by omega) (by decide);refine TL.w rfl (gA (i := i) Tryz.underlying23 Kd rfl rfl rfl rfl hA17 (by omega)) ?_;refine TL.v (gR Ke Ku Kd hbb17 hx17 hc17) ?_;refine TL.al Kab fun g9 => ?_;refine TL.pstore (k := 0) (vs := x17.cells) rfl rfl rfl rfl rfl rfl rfl Kd (Ke.one _) (by show 17 <= 17; decide) (L' := [.blk g9 65 x17.cells]) rfl ?_;refine zET (zSG (TL.v (gV 0 (.agg (x17.cells).toArray) Ku Kd) ?_));refine TL.pS rfl KpW (fun w1 hw => Kpc x17 w1) (fun h20 => ?_) (fun h20 => ?_)
  ·refine TL.mv ?_;refine TL.ov (gF Kao) ?_;refine TL.ov (gL 0 Kb) ?_;refine TL.rn 1 rfl (TL.gu ?_);refine TL.sp KaB (fun q25 => ?_) (fun q25 => ?_)
   ·refine TL.rn 3 rfl (TL.gu ?_);refine TL.sp Kx (fun q29 => ?_) (fun q29 => ?_)
    ·refine TL.rn 7 rfl (zET (zc (zG (TL.v (gF Kas) ?_))));refine TL.v (gL 0 Kb) ?_;refine TL.as_ ?_;refine zE (zN (zT (zG (TL.v (gD ((i + 1 : Nat) : Int)) ?_))));refine TL.mv ?_;refine zE ?_;exact TX.rd (⟨(i + 1, x17.ttl), by dsimp only; omega, by rw [Kej hx17 hst, if_pos (by simp [Kbs, q16, h20, q25, q29])]⟩) (by show l.length - (i + 1) < l.length - i; omega) (fun w1 hw => hw.pk [])
    refine TL.rn 1 rfl (TL.ov (gF Kas) ?_);refine TL.ov (gL 0 Kb) ?_;refine TL.rn 1 rfl (TL.gu ?_);refine TL.sp Kk (fun q34 => ?_) (fun q34 => ?_)
    ·refine TL.rn 2 rfl (zET (zc (zG (TL.v (gF Kas) ?_))));refine TL.v (gL 0 Kb) ?_;refine TL.as_ ?_;refine zE (zN (zT (zG (TL.v (gD ((i + 1 : Nat) : Int)) ?_))));refine TL.mv ?_;refine zE ?_;exact TX.rd (⟨(i + 1, x17.ttl), by dsimp only; omega, by rw [Kej hx17 hst, if_pos (by simp [Kbs, q16, h20, q25, q29, q34])]⟩) (by show l.length - (i + 1) < l.length - i; omega) (fun w1 hw => hw.pk [])
    refine TL.rn 2 rfl (zET (zd (zk (zN (zT (zG (TL.v (gD ((i + 1 : Nat) : Int)) ?_)))))));refine TL.mv ?_;refine zE ?_;exact TX.rd (⟨(i + 1, e), by dsimp only; omega, by rw [Kej hx17 hst, if_neg (by simp [Kbs, q16, h20, q25, q29, q34])]⟩) (by show l.length - (i + 1) < l.length - i; omega) (fun w1 hw => hw.pk [])
   refine TL.rn 5 rfl ?_;refine TL.offU rfl rfl rfl rfl rfl ?_;refine TL.offU rfl rfl rfl rfl rfl ?_;refine TL.offU rfl rfl rfl rfl rfl ?_;refine TL.offU rfl rfl rfl rfl rfl ?_;refine TL.rn 2 rfl (zET (zd (zk (zN (zT (zG (TL.v (gD ((i + 1 : Nat) : Int)) ?_)))))));refine TL.mv ?_;refine zE ?_;exact TX.rd (⟨(i + 1, e), by dsimp only; omega, by rw [Kej hx17 hst, if_neg (by simp [Kbs, q16, h20, q25])]⟩) (by show l.length - (i + 1) < l.length - i; omega) (fun w1 hw => hw.pk [])
  refine TL.rn 10 rfl ?_;refine TL.offU rfl rfl rfl rfl rfl ?_;refine TL.offU rfl rfl rfl rfl rfl ?_;refine TL.offU rfl rfl rfl rfl rfl ?_;refine TL.offU rfl rfl rfl rfl rfl ?_;refine TL.rn 2 rfl (zET (zd (zk (zN (zT (zG (TL.v (gD ((i + 1 : Nat) : Int)) ?_)))))));refine TL.mv ?_;refine zE ?_;exact TX.rd (⟨(i + 1, e), by dsimp only; omega, by rw [Kej hx17 hst, if_neg (by simp [Kbs, q16, h20])]⟩) (by show l.length - (i + 1) < l.length - i; omega) (fun w1 hw => hw.pk [])
 refine zET (zS (zd (zx (zX (zX (zM (zT (zSG (TL.as_ ?_)))))))));refine zET (zS (zS ?_));have hend : KcR l t = e := by rw [List.take_of_length_le (by omega)] at hst; exact hst
 refine zG (TL.mv ?_);refine TL.v (gN Tryz.underlying23) ?_;refine TL.mv ?_;refine zET (zB (TC.lp (α := {y : Nat × Nat // y.1 <= l.length /\ KaJ e t (l.take y.1) = y.2 /\ y.2 <= y.1}) [0, 1, 2, 7, 40, 41] rfl (fun y => [(42, .int .i64 ((y.1.1 : Nat) : Int)), (10, .int .i64 ((y.1.2 : Nat) : Int))]) (fun y => Pm w []) (fun y => l.length - y.1.1) (⟨(0, 0), Nat.zero_le _, rfl, Nat.le_refl _⟩) (fun w1 hw => hw) ?_));rintro ⟨⟨j, c⟩, hj, hc, hcj⟩;dsimp only at hj hc hcj ⊢;refine zSG ?_;refine TL.sp Kk (fun q43 => ?_) (fun q43 => ?_)
 ·refine zET (zS (zc (zk (zT (zS (zB (zSG ?_)))))));have hi44 : j < l.length := by omega
  obtain ⟨x44, hx44⟩ := Ko hi44;obtain ⟨b44, o44, hA44, hbb44, hc44⟩ := hr.ad (by omega) (by decide);refine TL.w rfl (gA (i := j) Tryz.underlying23 Kd rfl rfl rfl rfl hA44 (by omega)) ?_;refine TL.v (gR Ke Ku Kd hbb44 hx44 hc44) ?_;refine TL.al Kab fun g12 => ?_;refine TL.pstore (k := 0) (vs := x44.cells) rfl rfl rfl rfl rfl rfl rfl Kd (Ke.one _) (by show 17 <= 17; decide) (L' := [.blk g12 65 x44.cells]) rfl ?_;refine zET (zSG (TL.v (gF Kar) ?_));refine TL.vw rfl (gL 0 Kaf) (fun h47 => ?_) (fun h47 => ?_)
  ·refine TL.rn 13 rfl (zET (zd (zk (zN (zT (zG (TL.v (gD ((j + 1 : Nat) : Int)) ?_)))))));refine TL.mv ?_;refine zE ?_;exact TX.rd (⟨(j + 1, c), by dsimp only; omega, Kdz hx44 (by simp [Ka8, q43, h47]) hc, by dsimp only; omega⟩) (by show l.length - (j + 1) < l.length - j; omega) (fun w1 hw => hw.pk [])
  refine TL.rn 2 rfl (TL.ov (gF Kas) ?_);refine TL.ov (gL 0 Kb) ?_;refine TL.rn 1 rfl (TL.gu ?_);refine TL.sp K3 (fun q53 => ?_) (fun q53 => ?_)
  ·refine TL.rn 2 rfl (TL.ov (gF Kal) ?_);refine TL.ov (gL 0 Kb) ?_;refine TL.rn 1 rfl (TL.gu ?_);refine TL.sp K3 (fun q59 => ?_) (fun q59 => ?_)
   ·refine TL.pk ?_;refine zET (zc (zG (TL.mv ?_)));refine TL.v (gD ((c + 1 : Nat) : Int)) ?_;refine TL.as_ ?_;refine zE (zN (zT (zG (TL.v (gD ((j + 1 : Nat) : Int)) ?_))));refine TL.mv ?_;refine zE ?_;exact TX.rd (⟨(j + 1, c + 1), by dsimp only; omega, Kiu hx44 (by simp [Ka8, q43, h47, q53, q59]) hc, by dsimp only; omega⟩) (by show l.length - (j + 1) < l.length - j; omega) (fun w1 hw => hw.pk [])
   refine TL.pk ?_;refine zET (zd (zk (zN (zT (zG (TL.v (gD ((j + 1 : Nat) : Int)) ?_))))));refine TL.mv ?_;refine zE ?_;exact TX.rd (⟨(j + 1, c), by dsimp only; omega, Kdz hx44 (by simp [Ka8, q43, h47, q53, q59]) hc, by dsimp only; omega⟩) (by show l.length - (j + 1) < l.length - j; omega) (fun w1 hw => hw.pk [])
  refine TL.rn 7 rfl (zET (zd (zk (zN (zT (zG (TL.v (gD ((j + 1 : Nat) : Int)) ?_)))))));refine TL.mv ?_;refine zE ?_;exact TX.rd (⟨(j + 1, c), by dsimp only; omega, Kdz hx44 (by simp [Ka8, q43, h47, q53]) hc, by dsimp only; omega⟩) (by show l.length - (j + 1) < l.length - j; omega) (fun w1 hw => hw.pk [])
 refine zET (zS (zd (zx (zX (zX (zM (zT (zSG (TL.mv ?_)))))))));refine TL.sp KK (fun q65 => ?_) (fun q65 => ?_)
 ·refine TL.rn 3 rfl (TL.gu ?_);refine TL.sp K3 (fun q69 => ?_) (fun q69 => ?_)
  ·refine TL.rn 2 rfl (zET (zr ?_));have hc2 : KaJ e t l = c := by rw [List.take_of_length_le (by omega)] at hc; exact hc
   have hE : bhF l losses t = true := by unfold bhF; rw [hend, hc2]; simp only [Bool.and_eq_true, Bool.and_eq_false_iff, decide_eq_true_eq, decide_eq_false_iff_not]; omega
   exact Kc Tryz.results72 rfl (fun w1 hw => ⟨by rw [hE], hw.bel⟩)
  refine TL.rn 2 rfl (zET (zr ?_));have hc2 : KaJ e t l = c := by rw [List.take_of_length_le (by omega)] at hc; exact hc
  have hE : bhF l losses t = false := by unfold bhF; rw [hend, hc2]; simp only [Bool.and_eq_true, Bool.and_eq_false_iff, decide_eq_true_eq, decide_eq_false_iff_not]; omega
  exact Kc Tryz.results72 rfl (fun w1 hw => ⟨by rw [hE], hw.bel⟩)
 refine TL.rn 6 rfl (zET (zr ?_));have hc2 : KaJ e t l = c := by rw [List.take_of_length_le (by omega)] at hc; exact hc
 have hE : bhF l losses t = false := by unfold bhF; rw [hend, hc2]; simp only [Bool.and_eq_true, Bool.and_eq_false_iff, decide_eq_true_eq, decide_eq_false_iff_not]; omega
 exact Kc Tryz.results72 rfl (fun w1 hw => ⟨by rw [hE], hw.bel⟩)
set_option maxRecDepth 20000
theorem Kpy (r : Rs) (flow : Int) (g : Nat) (w : World) (hg : g < w.heap.size) (hc : w.cell? ⟨g, 0, none⟩ = some (.int .i64 flow)) :
  Calls Tryz.prog 123 #[.agg r.cells.toArray, .pointer (some ⟨g, 0, none⟩)] w fun e w' => e = .returned (.bool ((fun r : Rs => !(KM r && decide (r.flow = flow))) r)) /\ Below w.heap.size w w' := by
 refine Kh Tryz.func123 rfl rfl rfl ?_ (Pm.start w);refine zSG ?_;refine TL.bx fun g2 => ?_;refine TL.as_ ?_;refine zET (zSG (TL.v (gF Kbq) ?_));refine TL.v (gL 0 Kb) ?_;refine TL.w rfl (Kw (v := .int .i64 flow) rfl rfl Kb (fun w1 hw => (hw.bel.cell hg).trans hc)) ?_;refine TL.sp K5 (fun q7 => ?_) (fun q7 => ?_)
 ·refine TL.rn 6 rfl (zET (zr ?_));have hE : ((fun r : Rs => !(KM r && decide (r.flow = flow))) r) = true := (by simp [Bool.not_eq_true, q7] <;> omega);exact Kc Tryz.results123 rfl (fun w1 hw => ⟨by rw [hE]; try rfl, hw.bel⟩)
 refine TL.mv ?_;refine TL.ov (gV 0 (.agg (r.cells).toArray) Ku Kd) ?_;refine TL.gu ?_;refine TL.pS rfl o91 (fun w1 hw => KgX r w1) (fun h10 => ?_) (fun h10 => ?_)
 ·refine TL.rn 3 rfl (zET (zr ?_));have hE : ((fun r : Rs => !(KM r && decide (r.flow = flow))) r) = false := (by simp [Bool.not_eq_true, q7, h10] <;> omega);exact Kc Tryz.results123 rfl (fun w1 hw => ⟨by rw [hE]; try rfl, hw.bel⟩)
 refine TL.rn 3 rfl (zET (zr ?_));have hE : ((fun r : Rs => !(KM r && decide (r.flow = flow))) r) = true := (by simp [Bool.not_eq_true, q7, h10] <;> omega);exact Kc Tryz.results123 rfl (fun w1 hw => ⟨by rw [hE]; try rfl, hw.bel⟩)
theorem Kfb (A0 : Option Addr) (c0 : Nat) (l : List Rs) (t : Trc) (flow : Int) (w : World) (hr : Kg w w.heap.size 17 A0 l.length (Ka Rs.cells l)) (hl1 : l.length <= 100000) (hok : ∀ r ∈ l, r.Ok) :
  Calls Tryz.prog 73 #[.slice A0 l.length c0, .agg t.cells.toArray, .int .i64 flow] w fun e w' => ∃ x : {y : (Option Addr × Nat) × List Rs // Kaq l t flow y.2 /\ y.2.length <= y.1.2 /\ y.1.2 <= maxLen}, e = .returned (.slice x.1.1.1 x.1.2.length x.1.1.2) /\ Pm w [.row (.slice x.1.1.1 x.1.2.length x.1.1.2) 65 17 x.1.2.length (Ka Rs.cells x.1.2)] w' := by
 refine Kh Tryz.func73 rfl rfl rfl ?_ (Pm.start w);refine zSG ?_;refine TL.bx fun g4 => ?_;refine TL.bx fun g5 => ?_;refine TL.as_ ?_;refine zET (zSG (TL.mv ?_));refine TL.v (gV 1 (.agg (t.cells).toArray) KbJ Kaj) ?_;refine TL.pM _ _ rfl o90 (fun w1 hw => Kj1 A0 c0 l t w1 (hr.up hw.bel) hl1 hok) ?_;rintro ⟨⟨⟨R9, rc9⟩, o9⟩, hP9, hR91, hR92⟩;dsimp only [lC, lN];dsimp only at hP9 hR91 hR92 ⊢;refine TL.w rfl (Kdg rfl rfl rfl) ?_;have hol := hP9.le_;refine TL.pL (α := Unit) (r := fun _ => .slice R9 ((o9.filter fun r => !((fun r : Rs => !(KM r && decide (r.flow = flow))) r)).length) rc9) (I' := fun _ => Pm w [.row (.slice R9 ((o9.filter fun r => !((fun r : Rs => !(KM r && decide (r.flow = flow))) r)).length) rc9) 65 17 ((o9.filter fun r => !((fun r : Rs => !(KM r && decide (r.flow = flow))) r)).length) (Ka Rs.cells (o9.filter fun r => !((fun r : Rs => !(KM r && decide (r.flow = flow))) r))), .blk g5 3 [.int .i64 flow], .blk g4 32 t.cells]) rfl KgT (fun w1 hw => (Ki7 w [.blk g5 3 [.int .i64 flow], .blk g4 32 t.cells] R9 rc9 o9 (fun r : Rs => !(KM r && decide (r.flow = flow))) 123 _ #[.pointer (some ⟨g5, 0, none⟩)] w1 (hw) (by omega) (by omega) (by omega) Tryz.func123 (by decide) rfl (fun x w1 ⟨L1, h9⟩ => (by have h8 : Pm w [.blk g5 3 [.int .i64 flow], .blk g4 32 t.cells] w1 := h9.sel (List.sublist_append_right L1 _); exact Kpy x flow g5 w1 (Pc.lt (h8.at_ (k := 0) rfl) g5 rfl).2 (h8.cell (k := 0) rfl 0)))).mono fun en w2 ⟨h1, h2⟩ => ⟨(), h1, h2⟩) (fun _ => ?_);refine TL.as_ ?_;refine zET (zr ?_);have hE : (o9.filter fun r => !((fun r : Rs => !(KM r && decide (r.flow = flow))) r)) = o9.filter fun r => KM r && decide (r.flow = flow) := by simp
 exact Kc Tryz.results73 rfl (fun w1 hw => ⟨⟨((R9, rc9), o9.filter fun r => !((fun r : Rs => !(KM r && decide (r.flow = flow))) r)), ⟨o9, hP9, hE⟩, Nat.le_trans (List.length_filter_le _ _) hR91, hR92⟩, rfl, hw.pick [0] (by decide) rfl⟩)
set_option maxRecDepth 20000
def BhP (l : List Rs) (u : Ru) (p : Rp) : Prop := p.kind = 1 /\ ∃ y, Kaq l p.trc p.flow y /\ bhF y u.los p.at_ = true
theorem Kli (A0 : Option Addr) (c0 : Nat) (l : List Rs) (u : Ru) (p : Rp) (w : World) (hr : Kg w w.heap.size 17 A0 l.length (Ka Rs.cells l)) (hl1 : l.length <= 100000) (hok : ∀ r ∈ l, r.Ok) :
  Calls Tryz.prog 29 #[.slice A0 l.length c0, .agg u.cells.toArray, .agg p.cells.toArray] w fun e w' => ∃ x : {b : Bool // b = true ↔ BhP l u p}, e = .returned (.bool x.1) /\ Below w.heap.size w w' := by
 refine Kh Tryz.func29 rfl rfl rfl ?_ (Pm.start w);refine zSG ?_;refine TL.bx fun g4 => ?_;refine TL.bx fun g5 => ?_;refine TL.as_ ?_;refine zET (zS ?_);by_cases hk : p.kind = 1
 ·refine TC.hd 17 (Pm w [.blk g5 34 p.cells, .blk g4 28 u.cells]) (fun w1 hw => hw) fun hS => ?_;refine TH.t 0 rfl (gF Kat) hS ?_;refine TH.t 1 rfl (gL 0 Kb) hS ?_;refine TH.t 2 rfl (Ks rfl rfl rfl (fun w => KcO (hk) w)) hS ?_;refine TH.t 3 rfl (Ki rfl rfl) hS ?_;refine TH.g 4 rfl (Ki rfl rfl) (fun w1 hw => hw) ?_;refine TH.g 5 rfl (gF Kay) (fun w1 hw => hw) ?_;refine TH.g 6 rfl (gV 0 (.agg #[.int .i64 p.v, .int .u32 p.dst, .int .i64 p.proto]) KbJ Kaj) (fun w1 hw => hw) ?_;refine TH.g 7 rfl (gF Kci) (fun w1 hw => hw) ?_;refine TH.g 8 rfl (gL 0 Kb) (fun w1 hw => hw) ?_;refine TH.g 10 rfl (gF KcF) (fun w1 hw => hw) ?_;refine TH.g 11 rfl (gL 1 Kb) (fun w1 hw => hw) ?_;refine TH.g 12 rfl (gF KaS) (fun w1 hw => hw) ?_;refine TH.g 13 rfl (gL 0 Kb) (fun w1 hw => hw) ?_;refine TH.o 9 ?_;refine TL.gu ?_;refine TL.pM _ _ rfl o73 (fun w1 hw => Kfb A0 c0 l p.trc p.flow w1 (hr.up hw.bel) hl1 hok) ?_;rintro ⟨⟨⟨R16, rc16⟩, st16⟩, hP16, hR161, hR162⟩;dsimp only [lC, lN];dsimp only at hP16 hR161 hR162 ⊢;refine zE ?_;refine TX.held (fun w1 hw => hw.pk [1, 2]) ?_;refine TH.o 14 ?_;refine TL.gu ?_;refine TL.p1 rfl o72 (fun w1 hw => Kkj R16 rc16 st16 u.los p.at_ w1 (KD hw (k := 0) rfl) (by have := hP16.le; omega)) ?_;refine zE ?_;refine TX.he (fun w1 hw => hw.pk [1, 2]) fun hS => ?_;refine TH.t 15 rfl (K4 rfl rfl rfl) hS ?_;refine TH.t 16 rfl (K6 rfl rfl) hS ?_;refine TH.done (by kernel_rfl) ?_;refine zT (zr ?_);exact Kc Tryz.results29 rfl (fun w1 hw => ⟨⟨bhF st16 u.los p.at_, fun h => ⟨hk, st16, hP16, h⟩, fun ⟨_, y, h1, h2⟩ => by rw [hP16.eq h1]; exact h2⟩, rfl, hw.bel⟩)
 refine TC.hd 17 (Pm w [.blk g5 34 p.cells, .blk g4 28 u.cells]) (fun w1 hw => hw) fun hS => ?_;refine TH.t 0 rfl (gF Kat) hS ?_;refine TH.t 1 rfl (gL 0 Kb) hS ?_;refine TH.t 2 rfl (Ks rfl rfl rfl (fun w => KgO (hk) w)) hS ?_;refine TH.t 3 rfl (Ki rfl rfl) hS ?_;refine TH.fo 4 (fun w1 hw => hw) ?_;refine TH.fo 5 (fun w1 hw => hw) ?_;refine TH.fo 6 (fun w1 hw => hw) ?_;refine TH.fo 7 (fun w1 hw => hw) ?_;refine TH.fo 8 (fun w1 hw => hw) ?_;refine TH.fo 9 (fun w1 hw => hw) ?_;refine TH.fo 10 (fun w1 hw => hw) ?_;refine TH.fo 11 (fun w1 hw => hw) ?_;refine TH.fo 12 (fun w1 hw => hw) ?_;refine TH.fo 13 (fun w1 hw => hw) ?_;refine TH.fo 14 (fun w1 hw => hw) ?_;refine TH.tk 15 rfl rfl rfl (K4 rfl rfl rfl) (fun w1 hw => hw) ?_;refine TH.tk 16 rfl rfl rfl (K6 rfl rfl) (fun w1 hw => hw) ?_;refine TH.done (by kernel_rfl) ?_;refine zT (zr ?_);exact Kc Tryz.results29 rfl (fun w1 hw => ⟨⟨false, by simp [BhP, hk]⟩, rfl, hw.bel⟩)
set_option maxRecDepth 20000
theorem KcP {r : Rs} (h : Km r = true) : r.inRange := by
 unfold Km at h;simp only [Bool.and_eq_true, decide_eq_true_eq] at h;exact Decidable.by_contra fun h1 => by have := KjC h1; omega
theorem Kkm {r : Rs} (h : Kan r = true) : 1 <= r.ttl /\ r.ttl <= 255 := by
 unfold Kan KM at h;simp only [Bool.and_eq_true] at h;have := KcP h.2.2;unfold Rs.inRange at this;omega
def IsB (l : List Rs) (t e : Int) : Prop := (e = 0 /\ ∀ r ∈ l, Kan r = true -> t < r.back) \/ ((∃ r ∈ l, Kan r = true /\ r.back <= t /\ r.ttl = e) /\ ∀ r ∈ l, Kan r = true -> r.back <= t -> e <= r.ttl)
theorem Kjv (t : Int) : ∀ (l p : List Rs) (e : Int), IsB p t e -> IsB (p ++ l) t (l.foldl (fun e r => if Kbs t e r then r.ttl else e) e)
 | [], p, e, h => by rw [List.append_nil]; exact h
 | r :: l, p, e, h => by
  have h1 : IsB (p ++ [r]) t (if Kbs t e r then r.ttl else e) := by
   have hm : ∀ {x : Rs}, x ∈ p ++ [r] ↔ x ∈ p \/ x = r := by intro x; rw [List.mem_append, List.mem_singleton]
   by_cases hf : Kan r = true /\ r.back <= t
   ·by_cases hc : e = 0 \/ r.ttl < e
    ·have : Kbs t e r = true := by unfold Kbs; simp [hf, hc]
     rw [if_pos this];refine .inr ⟨⟨r, hm.2 (.inr rfl), hf.1, hf.2, rfl⟩, fun x hx hx2 hx3 => ?_⟩;rcases hm.1 hx with h2 | h2
     ·rcases h with ⟨h3, h4⟩ | ⟨⟨y, hy, hy2, hy3, hy4⟩, h4⟩
      ·have := h4 x h2 hx2; omega
      have h5 := h4 x h2 hx2 hx3;have h6 := Kkm hy2;omega
     rw [h2]; exact Int.le_refl _
    have : Kbs t e r = false := by unfold Kbs; simp [hf]; omega
    rw [if_neg (by rw [this]; decide)];rcases h with ⟨h3, h4⟩ | ⟨⟨y, hy, hy2, hy3, hy4⟩, h4⟩
    ·exact absurd (.inl h3) hc
    refine .inr ⟨⟨y, hm.2 (.inl hy), hy2, hy3, hy4⟩, fun x hx hx2 hx3 => ?_⟩;rcases hm.1 hx with h2 | h2
    ·exact h4 x h2 hx2 hx3
    rw [h2]; omega
   have : Kbs t e r = false := by
    unfold Kbs;by_cases h8 : Kan r = true
    ·have : ¬ r.back <= t := fun h9 => hf ⟨h8, h9⟩;simp [this]
    simp [h8]
   rw [if_neg (by rw [this]; decide)];rcases h with ⟨h3, h4⟩ | ⟨⟨y, hy, hy2, hy3, hy4⟩, h4⟩
   ·refine .inl ⟨h3, fun x hx hx2 => ?_⟩;rcases hm.1 hx with h2 | h2
    ·exact h4 x h2 hx2
    subst h2; exact Int.not_le.1 fun h9 => hf ⟨hx2, h9⟩
   refine .inr ⟨⟨y, hm.2 (.inl hy), hy2, hy3, hy4⟩, fun x hx hx2 hx3 => ?_⟩;rcases hm.1 hx with h2 | h2
   ·exact h4 x h2 hx2 hx3
   subst h2; exact absurd ⟨hx2, hx3⟩ hf
  have := Kjv t l (p ++ [r]) _ h1;rwa [List.append_assoc] at this
theorem isB (l : List Rs) (t : Int) : IsB l t (KcR l t) := Kjv t l [] 0 (.inl ⟨rfl, fun r hr => absurd hr List.not_mem_nil⟩)
theorem Kjw {e e' t : Int} (h : e <= e') : ∀ l : List Rs, KaJ e' t l <= KaJ e t l
 | [] => Nat.le_refl _
 | r :: l => by
  have ih := Kjw (t := t) h l;unfold KaJ at ih ⊢;rw [List.filter_cons, List.filter_cons];by_cases h1 : Ka8 e' t r = true
  ·have h2 : Ka8 e t r = true := by
    unfold Ka8 at h1 ⊢;simp only [Bool.and_eq_true, Bool.not_eq_true', decide_eq_true_eq] at h1 ⊢;exact ⟨⟨h1.1.1, by omega⟩, h1.2⟩
   rw [if_pos h1, if_pos h2, List.length_cons, List.length_cons]; omega
  rw [if_neg h1];split
  ·rw [List.length_cons]; omega
  exact ih
def Keo (y : List Rs) (losses t : Int) (x : Rs) : Prop := Kan x = true /\ x.back <= t /\ losses <= (KaJ x.ttl t y : Int)
theorem Kes {y : List Rs} {losses t : Int} : bhF y losses t = true ↔ ∃ x ∈ y, Keo y losses t x := by
 unfold bhF;simp only [Bool.and_eq_true, decide_eq_true_eq];rcases isB y t with ⟨h1, h2⟩ | ⟨⟨r, hr, hr2, hr3, hr4⟩, h2⟩
 ·rw [h1];constructor
  ·rintro ⟨h3, _⟩; omega
  rintro ⟨x, hx, h3, h4, _⟩; have := h2 x hx h3; omega
 constructor
 ·rintro ⟨_, h3⟩; exact ⟨r, hr, hr2, hr3, by rw [hr4]; exact h3⟩
 rintro ⟨x, hx, h3, h4, h5⟩;have h6 := Kkm hr2;have h7 := Kjw (t := t) (h2 x hx h3 h4) y;exact ⟨by omega, by omega⟩
theorem KfU {y : List Rs} {losses t : Int} {i : Nat} {x : Rs} (h : ∀ z ∈ y.take i, ¬ Keo y losses t z) (hx : y[i]? = some x) (hn : ¬ Keo y losses t x) : ∀ z ∈ y.take (i + 1), ¬ Keo y losses t z := fun z hz => by
 rcases (KaG hx).1 hz with h1 | h1
 ·exact h z h1
 rw [h1]; exact hn
theorem KR (w : World) : (isAgg 34).run Tryz.prog w = .ok true w := rfl
theorem KJ (w : World) : (sizeOf 34).run Tryz.prog w = .ok 8 w := rfl
theorem Kk2 (A0 : Option Addr) (c0 : Nat) (l : List Rs) (u : Ru) (p : Rp) (w : World) (hr : Kg w w.heap.size 17 A0 l.length (Ka Rs.cells l)) (hl1 : l.length <= 100000) (hok : ∀ r ∈ l, r.Ok) :
  Calls Tryz.prog 30 #[.slice A0 l.length c0, .agg u.cells.toArray, .agg p.cells.toArray] w fun e w' => ∃ x : {b : Bool // b = true ↔ BhP l u p}, e = .returned (.bool x.1) /\ Below w.heap.size w w' := by
 refine Kh Tryz.func30 rfl rfl rfl ?_ (Pm.start w);refine zSG ?_;refine TL.bx fun g4 => ?_;refine TL.bx fun g5 => ?_;refine TL.as_ ?_;refine zET (zS (zSG (TL.v (gF Kat) ?_)));refine TL.v (gL 0 Kb) ?_;refine TL.sp K5 (fun q13 => ?_) (fun q13 => ?_)
 ·refine zET (zc (zSG (TL.as_ ?_)));refine zET (zr (zR ?_));exact Kc Tryz.results30 rfl (fun w1 hw => ⟨⟨false, fun h => (by cases h), fun h => absurd h.1 q13⟩, rfl, hw.bel⟩)
 refine zET (zd (zk (zT (zSG (TL.mv ?_)))));refine TL.v (gV 0 (.agg (p.cells).toArray) KR KJ) ?_;refine TL.pM _ _ rfl o74 (fun w1 hw => Kgc A0 c0 l p w1 (hr.up hw.bel) hl1 hok) ?_;rintro ⟨⟨⟨R16, rc16⟩, st16⟩, hP16, hR161, hR162⟩;dsimp only [lC, lN];dsimp only at hP16 hR161 hR162 ⊢;refine TL.as_ ?_;refine zET (zS (zS ?_));have hol := hP16.le;refine zG (TL.as_ ?_);refine zET (zB ?_);refine TC.lp (α := {i : Nat // i <= st16.length /\ ∀ z ∈ st16.take i, ¬ Keo st16 u.los p.at_ z}) [4, 5, 7] rfl (fun y => [(8, .int .i64 ((y.1 : Nat) : Int))]) (fun y => Pm w [.row (.slice R16 st16.length rc16) 65 17 st16.length (Ka Rs.cells st16), .blk g5 34 p.cells, .blk g4 28 u.cells]) (fun y => st16.length - y.1) (⟨0, Nat.zero_le _, fun z hz => by rw [List.take_zero] at hz; cases hz⟩) (fun w1 hw => hw) ?_;rintro ⟨i, hi, hmi⟩
 try dsimp only at hi hmi ⊢
 refine zS (zSG (TL.rn 2 rfl (TL.v (gN Tryz.underlying23) ?_)));refine TL.sp Kk (fun q20 => ?_) (fun q20 => ?_)
 ·refine zET (zc (zk (zT (zS (zB (zS (zS (TC.fact (p := ∃ g, R16 = some ⟨g, 0, none⟩) (fun w1 hw => KL hw (k := 0) rfl (by omega)) ?_))))))));rintro ⟨g_R16, rfl⟩;refine TC.quietQ (by kernel_rfl) (by kernel_rfl) (fun w hw => hw.drawn _) ?_;refine TQ.rn 2 rfl ?_;have hi25 : i < st16.length := by omega
  obtain ⟨x25, hx25⟩ := Ko hi25;refine TQ.w rfl (gA (i := i) Tryz.underlying23 Kd rfl rfl rfl rfl rfl (by omega)) ?_;refine TQ.w rfl (KS (off := 0 + i * 17) rfl rfl Ku Kd (Ke.len x25) (fun w1 hw j9 u9 h9 => Kv Ke hw (q := 0) rfl hx25 j9 u9 h9)) ?_;refine TQ.pS rfl o75 (fun w1 hw => Kmo x25 w1) (fun h27 => ?_) (fun h27 => ?_)
  ·refine TQ.rn 4 rfl ?_;refine TQ.on rfl rfl rfl ?_;refine TQ.w rfl (gA (i := i) Tryz.underlying23 Kd rfl rfl rfl rfl rfl (by omega)) ?_;refine TQ.ov (gF Kao) ?_;refine TQ.on rfl rfl rfl ?_;refine TQ.w rfl (Kw (v := .int .i64 x25.back) rfl rfl Kb (fun w1 hw => Kv Ke hw (q := 0) rfl hx25 10 _ rfl)) ?_;refine TQ.ov (gF KaS) ?_;refine TQ.ov (gL 1 Kb) ?_;refine TQ.on rfl rfl rfl ?_;refine TQ.sp KK (fun q37 => ?_) (fun q37 => ?_)
   ·refine TQ.w rfl (K4 rfl rfl rfl) ?_;refine TQ.fin ?_;refine zT (zc (zx (zX (zM (zT (zG (TL.mv ?_)))))));refine TL.v (gD ((i + 1 : Nat) : Int)) ?_;refine TL.as_ ?_;refine zE ?_;exact TX.rd (⟨i + 1, by omega, KfU hmi hx25 (fun h => by have := h.2.1; omega)⟩) (by show st16.length - (i + 1) < st16.length - i; omega) (fun w1 hw => hw)
   refine TQ.w rfl (K4 rfl rfl rfl) ?_;refine TQ.fin ?_;refine zT (zd (zk (zT (zSG (TL.as_ ?_)))));refine zET (zS (zSG (TL.as_ ?_)));refine zET (zB (TC.lp (α := {y : Nat × Nat // y.1 <= st16.length /\ KaJ x25.ttl p.at_ (st16.take y.1) = y.2 /\ y.2 <= y.1}) [4, 5, 7, 8] rfl (fun y => [(10, .int .i64 ((y.1.1 : Nat) : Int)), (9, .int .i64 ((y.1.2 : Nat) : Int))]) (fun y => Pm w [.row (.slice (some ⟨g_R16, 0, none⟩) st16.length rc16) 65 17 st16.length (Ka Rs.cells st16), .blk g5 34 p.cells, .blk g4 28 u.cells]) (fun y => st16.length - y.1.1) (⟨(0, 0), Nat.zero_le _, rfl, Nat.le_refl _⟩) (fun w1 hw => hw) ?_));rintro ⟨⟨j, c⟩, hj, hc, hcj⟩;dsimp only at hj hc hcj ⊢;refine zS (zSG (TL.rn 2 rfl (TL.v (gN Tryz.underlying23) ?_)));refine TL.sp Kk (fun q42 => ?_) (fun q42 => ?_)
   ·refine zET (zc (zk (zT (zS (zB (zS (TC.quietQ (by kernel_rfl) (by kernel_rfl) (fun w hw => hw.drawn _) ?_)))))));refine TQ.rn 2 rfl ?_;have hi47 : j < st16.length := by omega
    obtain ⟨x47, hx47⟩ := Ko hi47;refine TQ.w rfl (gA (i := j) Tryz.underlying23 Kd rfl rfl rfl rfl rfl (by omega)) ?_;refine TQ.v (gF Kar) ?_;refine TQ.vw rfl (Kw (v := .bool x47.ans) rfl rfl Kaf (fun w1 hw => Kv Ke hw (q := 0) rfl hx47 8 _ rfl)) (fun h49 => ?_) (fun h49 => ?_)
    ·refine TQ.rn 24 rfl ?_;refine TQ.fin ?_;refine zT (zd (zk (zN (zT (zG (TL.mv ?_))))));refine TL.v (gD ((j + 1 : Nat) : Int)) ?_;refine TL.as_ ?_;refine zE ?_;exact TX.rd (⟨(j + 1, c), by dsimp only; omega, Kdz hx47 (by simp [Ka8, q42, h49]) hc, by dsimp only; omega⟩) (by show st16.length - (j + 1) < st16.length - j; omega) (fun w1 hw => hw)
    refine TQ.rn 4 rfl ?_;refine TQ.on rfl rfl rfl ?_;refine TQ.w rfl (gA (i := j) Tryz.underlying23 Kd rfl rfl rfl rfl rfl (by omega)) ?_;refine TQ.ov (gF Kas) ?_;refine TQ.on rfl rfl rfl ?_;refine TQ.w rfl (Kw (v := .int .i64 x47.ttl) rfl rfl Kb (fun w1 hw => Kv Ke hw (q := 0) rfl hx47 7 _ rfl)) ?_;refine TQ.rn 2 rfl ?_;refine TQ.on rfl rfl rfl ?_;refine TQ.w rfl (gA (i := i) Tryz.underlying23 Kd rfl rfl rfl rfl rfl (by omega)) ?_;refine TQ.ov (gF Kas) ?_;refine TQ.on rfl rfl rfl ?_;refine TQ.w rfl (Kw (v := .int .i64 x25.ttl) rfl rfl Kb (fun w1 hw => Kv Ke hw (q := 0) rfl hx25 7 _ rfl)) ?_;refine TQ.on rfl rfl rfl ?_;refine TQ.sp K3 (fun q62 => ?_) (fun q62 => ?_)
    ·refine TQ.rn 4 rfl ?_;refine TQ.on rfl rfl rfl ?_;refine TQ.w rfl (gA (i := j) Tryz.underlying23 Kd rfl rfl rfl rfl rfl (by omega)) ?_;refine TQ.ov (gF Kal) ?_;refine TQ.on rfl rfl rfl ?_;refine TQ.w rfl (Kw (v := .int .i64 x47.at_) rfl rfl Kb (fun w1 hw => Kv Ke hw (q := 0) rfl hx47 3 _ rfl)) ?_;refine TQ.ov (gF KaS) ?_;refine TQ.ov (gL 1 Kb) ?_;refine TQ.on rfl rfl rfl ?_;refine TQ.sp K3 (fun q72 => ?_) (fun q72 => ?_)
     ·refine TQ.w rfl (K4 rfl rfl rfl) ?_;refine TQ.fin ?_;refine zT (zc (zG (TL.mv ?_)));refine TL.v (gD ((c + 1 : Nat) : Int)) ?_;refine TL.as_ ?_;refine zE (zN (zT (zG (TL.mv ?_))));refine TL.v (gD ((j + 1 : Nat) : Int)) ?_;refine TL.as_ ?_;refine zE ?_;exact TX.rd (⟨(j + 1, c + 1), by dsimp only; omega, Kiu hx47 (by simp [Ka8, q42, h49, q62, q72]) hc, by dsimp only; omega⟩) (by show st16.length - (j + 1) < st16.length - j; omega) (fun w1 hw => hw)
     refine TQ.w rfl (K4 rfl rfl rfl) ?_;refine TQ.fin ?_;refine zT (zd (zk (zN (zT (zG (TL.mv ?_))))));refine TL.v (gD ((j + 1 : Nat) : Int)) ?_;refine TL.as_ ?_;refine zE ?_;exact TX.rd (⟨(j + 1, c), by dsimp only; omega, Kdz hx47 (by simp [Ka8, q42, h49, q62, q72]) hc, by dsimp only; omega⟩) (by show st16.length - (j + 1) < st16.length - j; omega) (fun w1 hw => hw)
    refine TQ.rn 11 rfl ?_;refine TQ.fin ?_;refine zT (zd (zk (zN (zT (zG (TL.mv ?_))))));refine TL.v (gD ((j + 1 : Nat) : Int)) ?_;refine TL.as_ ?_;refine zE ?_;exact TX.rd (⟨(j + 1, c), by dsimp only; omega, Kdz hx47 (by simp [Ka8, q42, h49, q62]) hc, by dsimp only; omega⟩) (by show st16.length - (j + 1) < st16.length - j; omega) (fun w1 hw => hw)
   refine zET (zd (zx (zX (zX (zM (zT (zS ?_)))))));have hc2 : KaJ x25.ttl p.at_ st16 = c := by rw [List.take_of_length_le (by omega)] at hc; exact hc
   refine zG (TL.mv ?_);refine TL.v (gF KcF) ?_;refine TL.v (gL 2 Kb) ?_;refine TL.sp K3 (fun q79 => ?_) (fun q79 => ?_)
   ·refine zET (zc (zSG (TL.as_ ?_)));refine zET (zr (zRR (zR (zRR ?_))));have hit : BhP l u p := ⟨Decidable.not_not.1 q13, st16, hP16, Kes.2 ⟨x25, List.mem_of_getElem? hx25, h27, by omega, by rw [hc2]; omega⟩⟩;exact Kc Tryz.results30 rfl (fun w1 hw => ⟨⟨true, fun _ => hit, fun _ => rfl⟩, rfl, hw.bel⟩)
   refine zET (zd (zk (zN (zT (zG (TL.mv ?_))))));refine TL.v (gD ((i + 1 : Nat) : Int)) ?_;refine TL.as_ ?_;refine zE ?_;exact TX.rd (⟨i + 1, by omega, KfU hmi hx25 (fun h => q79 (by have := h.2.2; rw [hc2] at this; omega))⟩) (by show st16.length - (i + 1) < st16.length - i; omega) (fun w1 hw => hw)
  refine TQ.rn 11 rfl ?_;refine TQ.fin ?_;refine zT (zc (zx (zX (zM (zT (zG (TL.mv ?_)))))));refine TL.v (gD ((i + 1 : Nat) : Int)) ?_;refine TL.as_ ?_;refine zE ?_;exact TX.rd (⟨i + 1, by omega, KfU hmi hx25 (fun h => by rw [h.1] at h27; cases h27)⟩) (by show st16.length - (i + 1) < st16.length - i; omega) (fun w1 hw => hw)
 refine zET (zd (zx (zX (zX (zM (zT (zSG (TL.as_ ?_))))))));refine zET (zr ?_)
 have hno : ¬ BhP l u p := by
  rintro ⟨_, y0, h1, h2⟩;rw [<- hP16.eq h1, Kes] at h2;obtain ⟨x0, h3, h4⟩ := h2;rw [List.take_of_length_le (by omega)] at hmi;exact hmi x0 h3 h4
 exact Kc Tryz.results30 rfl (fun w1 hw => ⟨⟨false, fun h => (by cases h), fun h => absurd h hno⟩, rfl, hw.bel⟩)
set_option maxRecDepth 20000
def onF (o : List Rs) : List Rs := o.foldl (fun acc x => if Kq x ∈ acc.map Kq then acc else acc ++ [x]) []
theorem Kdr (o : List Rs) (x : Rs) : onF (o ++ [x]) = if Kq x ∈ (onF o).map Kq then onF o else onF o ++ [x] := by
 unfold onF; rw [List.foldl_append]; rfl
theorem Kkl : ∀ (n : Nat) (o : List Rs) (a : Idn), o.length = n -> (a ∈ (onF o).map Kq ↔ a ∈ o.map Kq)
 | 0, o, a, h => by
  obtain rfl : o = [] := List.eq_nil_of_length_eq_zero h;exact Iff.rfl
 | n + 1, o, a, h => by
  have hne : o ≠ [] := fun e => by rw [e] at h; cases h
  rw [<- List.dropLast_concat_getLast hne];have ih := Kkl n o.dropLast a (by rw [List.length_dropLast]; omega);rw [Kdr, List.map_append, List.mem_append, <- ih];split
  ·rename_i hm;constructor
   ·exact .inl
   rintro (h1 | h1)
   ·exact h1
   rw [List.map_singleton, List.mem_singleton] at h1; rw [h1]; exact hm
  rw [List.map_append, List.mem_append]
def dON (o : List Rs) (j : Nat) : Bool := match o[j]? with
 | some x => decide (Kq x ∈ (o.take j).map Kq)
 | none => false
theorem KiM {o : List Rs} {j : Nat} {x : Rs} (h : o[j]? = some x) : dON o j = decide (Kq x ∈ (o.take j).map Kq) := by unfold dON; rw [h]
theorem KfZ (o : List Rs) : KpS (dON o) o (fun j => onF (o.take j)) := ⟨by dsimp only; rw [List.take_zero]; rfl, fun j x h => by
 dsimp only;rw [List.take_add_one, h, Option.toList, Kdr, KiM h];have := Kkl _ (o.take j) (Kq x) rfl;by_cases hm : Kq x ∈ (o.take j).map Kq
 ·rw [if_pos (this.2 hm), if_pos (decide_eq_true hm)]
 rw [if_neg (fun h1 => hm (this.1 h1)), if_neg (by simpa using hm)]⟩
def Kb9 (l y : List Rs) : Prop := ∃ o, Kad l o /\ y = onF o
theorem Kb9.eq {l y y' : List Rs} (h : Kb9 l y) (h' : Kb9 l y') : y = y' := by
 obtain ⟨o, h1, rfl⟩ := h;obtain ⟨o', h2, rfl⟩ := h';rw [h1.eq h2]
def IdM (ob : Obj) (fs : List Idn) : Prop := ∃ f : Idn -> Option Value, Kbp (fun s : Idn => .agg s.cells.toArray) Idn.Ok ob f /\ ∀ a, a.Ok -> (f a).getD (.bool false) = .bool (decide (a ∈ fs))
theorem IdM.new : IdM (.map #[] 0) [] := ⟨_, KjL _ _, fun a _ => rfl⟩
theorem IdM.set {ob : Obj} {fs : List Idn} {x : Idn} {f : Idn -> Option Value} (h2 : ∀ a, a.Ok -> (f a).getD (.bool false) = .bool (decide (a ∈ fs))) (hm : Kbp (fun s : Idn => .agg s.cells.toArray) Idn.Ok ob (fun z => if z = x then some (.bool true) else f z)) : IdM ob (fs ++ [x]) :=
 ⟨_, hm, fun a ha => by
  by_cases e : a = x
  ·simp [e]
  simp [e, h2 a ha]⟩
theorem Kip {r : Rs} (h : Km r = true) : (Kq r).Ok := by
 have h1 := KcP h;unfold Rs.inRange at h1;unfold Idn.Ok Kq;dsimp only;refine ⟨?_, ?_, ?_⟩ <;> (simp [Lit.wf, IntKind.min, IntKind.max, IntKind.signed, IntKind.bits]; omega)
theorem Kl1 : ∀ (o : List Rs) {r : Rs}, r ∈ onF o -> r ∈ o := fun o => by
 induction hn : o.length generalizing o with
 | zero =>
  intro r h;obtain rfl : o = [] := List.eq_nil_of_length_eq_zero hn;exact h
 | succ n ih =>
  intro r h;have hne : o ≠ [] := fun e => by rw [e] at hn; cases hn
  rw [<- List.dropLast_concat_getLast hne, Kdr] at h;have ih' := fun {r} => ih o.dropLast (by rw [List.length_dropLast]; omega) (r := r);split at h
  ·exact List.dropLast_subset _ (ih' h)
  rcases List.mem_append.1 h with h | h
  ·exact List.dropLast_subset _ (ih' h)
  rw [List.mem_singleton.1 h]; exact List.getLast_mem hne
theorem KkD (w : World) : (isAgg 141).run Tryz.prog w = .ok false w := rfl
theorem Knk (w : World) : (zeroValue 141).run Tryz.prog w = .ok (.map none) w := rfl
theorem KmQ (w : World) : (sizeOf 141).run Tryz.prog w = .ok 1 w := rfl
theorem KnZ (w0 : Base) (F : List Pc) (g1 gm : Nat) (ob : Obj) (x : Rs) (fs : List Idn) (w : World) (hw0 : Pm w0 ([.oth gm ob, .blk g1 141 [.map (some gm)]] ++ F) w) (hx : (Kq x).Ok) (hM : IdM ob fs) (hgm : Kel w0 gm) :
  Calls Tryz.prog 149 #[.agg x.cells.toArray, .pointer (some ⟨g1, 0, none⟩)] w fun e w' => ∃ s2 : {ob2 : Obj // IdM ob2 (fs ++ [Kq x])}, e = .returned (.bool (decide (Kq x ∈ fs))) /\ Pm w0 ([.oth gm s2.1, .blk g1 141 [.map (some gm)]] ++ F) w' := by
 refine Kh (I := Pm w0 ([.oth gm ob, .blk g1 141 [.map (some gm)]] ++ F)) Tryz.func149 rfl rfl rfl ?_ hw0;refine zSG ?_;refine TL.bx fun g2 => ?_;refine TL.as_ ?_;refine zET (zS ?_);obtain ⟨fm, hmf, hff⟩ := hM;obtain ⟨mb, hmb⟩ : ∃ b, decide (Kq x ∈ fs) = b := ⟨_, rfl⟩;refine zG (TL.v (gV 0 (.agg (x.cells).toArray) Ku Kd) ?_);refine TL.p1 rfl Kd4 (fun w1 hw => Kea x w1) ?_;refine TL.al Kep fun g4 => ?_;refine TL.pstore (k := 0) (vs := (Kq x).cells) rfl rfl rfl rfl rfl rfl rfl K9 (by first | exact Kaz.one _ | exact KcU.one _) (by show 3 <= 3; decide) (L' := ([.blk g4 73 (Kq x).cells, .blk g2 65 x.cells, .oth gm ob, .blk g1 141 [.map (some gm)]] ++ F)) rfl ?_;refine zET (zSG (TL.v (gL 3 KkD) ?_));refine TL.v (gV 0 (.agg ((Kq x).cells).toArray) Ka0 K9) ?_;refine TL.w rfl (Kg0 (i := 2) (a := Kq x) (v := .bool mb) rfl rfl rfl Ke1 Tryz.underlying141 (fun w => rfl) rfl hmf hx (by rw [hff _ hx, hmb])) ?_;refine TL.as_ ?_;refine zET (zSG (TL.v (gL 3 KkD) ?_));refine TL.v (gV 0 (.agg ((Kq x).cells).toArray) Ka0 K9) ?_;refine TL.mapsetG (enc := fun s : Idn => .agg s.cells.toArray) (a := Kq x) (i := 2) rfl rfl rfl rfl rfl rfl Ke1 Tryz.underlying141 rfl hgm hmf hx (fun ob2 hm2 => ?_)
 try dsimp only [List.set_cons_zero, List.set_cons_succ]
 refine zET (zSG (TL.rn 2 rfl (zET (zr ?_))));exact Kc Tryz.results149 rfl (fun w1 hw => ⟨⟨ob2, IdM.set hff hm2⟩, by rw [hmb], hw.sel (.cons _ (.cons _ (.cons_cons _ (.cons_cons _ (List.Sublist.refl _)))))⟩)
theorem KiH (o : List Rs) : (onF o).length <= o.length := by
 have h := (KfZ o)
 induction hn : o.length generalizing o with
 | zero => obtain rfl : o = [] := List.eq_nil_of_length_eq_zero hn; exact Nat.le_refl _
 | succ n ih =>
  have hne : o ≠ [] := fun e => by rw [e] at hn; cases hn
  rw [<- List.dropLast_concat_getLast hne, Kdr];have := ih o.dropLast (KfZ _) (by rw [List.length_dropLast]; omega);split
  ·omega
  rw [List.length_append]; show _ + 1 <= _; omega
theorem Kjz (A0 : Option Addr) (c0 : Nat) (l : List Rs) (w : World) (hr : Kg w w.heap.size 17 A0 l.length (Ka Rs.cells l)) (hl1 : l.length <= 100000) (hok : ∀ r ∈ l, r.Ok) :
  Calls Tryz.prog 101 #[.slice A0 l.length c0] w fun e w' => ∃ x : {y : (Option Addr × Nat) × List Rs // Kb9 l y.2 /\ y.2.length <= y.1.2 /\ y.1.2 <= maxLen}, e = .returned (.slice x.1.1.1 x.1.2.length x.1.1.2) /\ Pm w [.row (.slice x.1.1.1 x.1.2.length x.1.1.2) 65 17 x.1.2.length (Ka Rs.cells x.1.2)] w' := by
 refine Kh Tryz.func101 rfl rfl rfl ?_ (Pm.start w);refine zSG (TL.as_ ?_);refine zET (zSG ?_);refine TL.mkmap rfl rfl rfl rfl (fun gm hgm => ?_);refine TL.al Knk fun g3 => ?_;refine TL.ps 0 KmQ ?_;refine zET (zSG (TL.mv ?_));refine TL.pM _ _ rfl o88 (fun w1 hw => KfK A0 c0 l w1 (hr.up hw.bel) hl1 hok) ?_;rintro ⟨⟨⟨R6, rc6⟩, o6⟩, hP6, hR61, hR62⟩;dsimp only [lC, lN];dsimp only at hP6 hR61 hR62 ⊢;refine TL.w rfl (Kdg rfl rfl rfl) ?_;have hol := hP6.le;refine TL.pL (α := {ob2 : Obj // IdM ob2 ((o6.take o6.length).map Kq)}) (r := fun _ => .slice R6 ((onF (o6.take o6.length)).length) rc6) (I' := fun x => Pm w ([.row (.slice R6 ((onF (o6.take o6.length)).length) rc6) 65 17 ((onF (o6.take o6.length)).length) (Ka Rs.cells (onF (o6.take o6.length))), .oth gm x.1] ++ [.blk g3 141 [.map (some gm)]])) rfl KgT (fun w1 hw => Kqa w [.blk g3 141 [.map (some gm)]] (fun ob => .oth gm ob) (fun j ob => IdM ob ((o6.take j).map Kq)) (.map #[] 0) (dON o6) 149 _ #[.pointer (some ⟨g3, 0, none⟩)] (fun j => onF (o6.take j)) R6 rc6 o6 w1 (hw.pk [0, 2, 1]) (by omega) (by omega) (by omega) (KfZ o6) Tryz.func149 (by decide) rfl (by rw [List.take_zero]; exact IdM.new) (fun j x ob w1 L1 hx hk h9 => (KnZ w (L1 ++ []) g3 gm ob x ((o6.take j).map Kq) w1 (h9.permute (List.perm_append_comm_assoc L1 [.oth gm ob, .blk g3 141 [.map (some gm)]] [])) (Kip ((hP6.2 x).1 (List.mem_of_getElem? hx)).2) hk hgm).mono fun en w2 ⟨s2, h1, h2⟩ => ⟨⟨s2.1, by rw [List.take_add_one, hx, List.map_append]; exact s2.2⟩, by rw [h1, KiM hx], h2.permute (List.perm_append_comm_assoc L1 [.oth gm s2.1, .blk g3 141 [.map (some gm)]] []).symm⟩)) ?_;rintro ⟨ob9, hob9⟩;refine TL.as_ ?_;refine zET (zr ?_);have hE : onF (o6.take o6.length) = onF o6 := by rw [List.take_length]
 exact Kc Tryz.results101 rfl (fun w1 hw => ⟨⟨((R6, rc6), onF (o6.take o6.length)), ⟨o6, hP6, hE⟩, by dsimp only; have := KiH (o6.take o6.length); rw [List.length_take] at this; omega, hR62⟩, rfl, hw.pick [0] (by decide) rfl⟩)
set_option maxRecDepth 20000
def Kah (ss : List (Sg Rs)) : List Rs := ss.flatMap (·.l)
theorem KiD {ss : List (Sg Rs)} {i : Nat} {x : Sg Rs} (h : ss[i]? = some x) : Kah (ss.take (i + 1)) = Kah (ss.take i) ++ x.l := by
 unfold Kah;rw [List.take_add_one, h, List.flatMap_append];simp
theorem KfM (ss : List (Sg Rs)) (i : Nat) : (Kah (ss.take i)).length <= (Kah ss).length := by
 conv => rhs; rw [<- List.take_append_drop i ss]
 unfold Kah;rw [List.flatMap_append, List.length_append]; omega
theorem Kdv (w : World) : (sizeOf 23).run Tryz.prog w = .ok 1 w := rfl
theorem KaT (w : World) : (isAgg 23).run Tryz.prog w = .ok false w := rfl
theorem KkT (n : Nat) (w : World) (hn : n <= 1000000) :
  Calls Tryz.prog 151 #[.slice none 0 0, .int .i64 ((n : Nat) : Int)] w fun e w' => ∃ x : {y : Option Addr × Nat // n <= y.2 /\ y.2 <= maxLen}, e = .returned (.slice x.1.1 0 x.1.2) /\ Pm w [.row (.slice x.1.1 0 x.1.2) 65 17 0 (Ka Rs.cells [])] w' := by
 refine Kh Tryz.func151 rfl rfl rfl ?_ (Pm.start w);refine zSG (TL.as_ ?_);refine zET (zS (zSG (TL.mv ?_)));refine TL.w rfl (Ks rfl rfl rfl (fun w => Ki9 (by omega) w)) ?_;refine zET (zd (zk (zT (zS (zSG (TL.rn 2 rfl ?_))))));refine TL.w rfl (KjB rfl Tryz.underlying23 rfl) ?_;refine TL.mv ?_;refine TL.v (gN Tryz.underlying23) ?_;refine TL.w rfl (Ks rfl rfl rfl (fun w => K0 (r := 0) (rfl) w)) ?_;refine TL.w rfl (Ks rfl rfl rfl (fun w => K0 (r := ((n : Nat) : Int)) (by simp only [IntKind.wrap_i64]; omega) w)) ?_;refine TL.as_ ?_;refine zET (zSG (TL.mv ?_));refine TL.sp KK (fun q16 => ?_) (fun q16 => ?_)
 ·refine zET (zc (zG (TL.rn 2 rfl ?_)));refine TL.w rfl (KjB rfl Tryz.underlying23 rfl) ?_;refine TL.nilrow 65 17 ?_;refine TL.rowhead (k := 0) (hi := 0) (xs' := []) rfl rfl rfl rfl rfl rfl Tryz.underlying23 Kd rfl (Nat.le_refl _) (Nat.le_refl _) rfl ?_
  try dsimp only [List.set_cons_zero, List.set_cons_succ]
  refine TL.mv ?_;refine TL.zeros (k := 0) (m := n) rfl rfl rfl rfl KaK Tryz.underlying3 rfl rfl rfl (z := .agg Rs.zero.cells.toArray) (by kernel_rfl) (zs := Ka Rs.cells (List.replicate n Rs.zero)) (Kg6 Ke Rs.zero n) (fun k u hu => by have hu2 := hu; rw [show (Value.agg Rs.zero.cells.toArray).cells = Rs.zero.cells.toArray from rfl, Kg6 Ke Rs.zero k] at hu2; exact KA Ke _ u hu2) (by show _ * 128 <= _; omega) n (by omega) (fun A22 c22 hA221 hA222 => ?_)
  try dsimp only [List.set_cons_zero, List.set_cons_succ, List.nil_append]
  refine TL.mv ?_;refine TL.v (gN Tryz.underlying23) ?_;refine TL.rowhead (k := 0) (hi := 0) (xs' := []) rfl rfl rfl rfl rfl rfl Tryz.underlying23 Kd rfl (Nat.zero_le _) hA221 rfl ?_
  try dsimp only [List.set_cons_zero, List.set_cons_succ]
  refine TL.as_ ?_;refine zET (zSG (TL.rn 2 rfl (zET (zr ?_))));exact Kc Tryz.results151 rfl (fun w1 hw => ⟨⟨(A22, c22), hA221, hA222⟩, rfl, hw.pick [0] (by decide) rfl⟩)
 refine zET (zd (zk (zT (zSG (TL.rn 2 rfl (zET (zr ?_)))))));exact Kc Tryz.results151 rfl (fun w1 hw => ⟨⟨(none, 0), by dsimp only; omega, Nat.zero_le _⟩, rfl, (hw.pk []).nilrow _ _⟩)
theorem KpC (A0 : Option Addr) (c0 : Nat) (ss : List (Sg Rs)) (w : World) (hs : Kg w w.heap.size 1 A0 ss.length (Ka sgc ss)) (hb : ∀ s ∈ ss, Kg w w.heap.size 17 s.A s.l.length (Ka Rs.cells s.l)) (hl : ss.length <= 1000) (hcl0 : (Kah ss).length <= 1000000) :
  Calls Tryz.prog 103 #[.slice A0 ss.length c0] w fun e w' => ∃ x : {y : (Option Addr × Nat) × List Rs // y.2 = Kah ss /\ y.2.length <= y.1.2 /\ y.1.2 <= maxLen}, e = .returned (.slice x.1.1.1 x.1.2.length x.1.1.2) /\ Pm w [.row (.slice x.1.1.1 x.1.2.length x.1.1.2) 65 17 x.1.2.length (Ka Rs.cells x.1.2)] w' := by
 refine Kh Tryz.func103 rfl rfl rfl ?_ (Pm.start w);refine zSG (TL.as_ ?_);refine zET (zSG (TL.as_ ?_));refine zET (zS (zSG (TL.mv ?_)));refine TL.v (gN Tryz.underlying45) ?_;refine TL.mv ?_;refine zET (zB (TC.lp (α := {i : Nat // i <= ss.length}) [0, 9, 10] rfl (fun y => [(11, .int .i64 ((y.1 : Nat) : Int)), (3, .int .i64 (((Kah (ss.take y.1)).length : Nat) : Int))]) (fun y => Pm w []) (fun y => ss.length - y.1) (⟨0, Nat.zero_le _⟩) (fun w1 hw => hw) ?_));rintro ⟨i, hi⟩
 try dsimp only at hi ⊢
 refine zSG ?_;refine TL.sp Kk (fun q12 => ?_) (fun q12 => ?_)
 ·refine zET (zS (zc (zk (zT (zS (zB (zSG ?_)))))));have hi13 : i < ss.length := by omega
  obtain ⟨x13, hx13⟩ := Ko hi13;obtain ⟨b13, o13, hA13, hbb13, hc13⟩ := hs.ad (by omega) (by decide);refine TL.w rfl (gA (i := i) Tryz.underlying45 Kdv rfl rfl rfl rfl hA13 (by omega)) ?_;refine TL.v (gS 0 Kbf KaT hbb13 hx13 hc13) ?_;refine TL.as_ ?_;refine zET (zS ?_);have hcs := KiD hx13;have hcl : (Kah (ss.take (i + 1))).length = (Kah (ss.take i)).length + x13.l.length := by rw [hcs, List.length_append]
  have hcm := KfM ss (i + 1);refine zG (TL.rn 2 rfl (TL.v (gN Tryz.underlying23) ?_));refine TL.v (gD (((Kah (ss.take (i + 1))).length : Nat) : Int)) ?_;refine TL.as_ ?_;refine zET (zSG (TL.mv ?_));refine TL.w rfl (Ks rfl rfl rfl (fun w => Ki9 (by omega) w)) ?_;refine zET (zd (zk (zN (zT (zG (TL.v (gD ((i + 1 : Nat) : Int)) ?_))))));refine TL.mv ?_;refine zE ?_;exact TX.rd (⟨i + 1, by omega⟩) (by show ss.length - (i + 1) < ss.length - i; omega) (fun w1 hw => hw)
 refine zET (zS (zd (zx (zX (zX (zM (zT (zS ?_))))))));have hct : Kah (ss.take i) = Kah ss := by rw [List.take_of_length_le (by omega)]
 refine zG (TL.mv ?_);refine TL.pM (α := {y : Option Addr × Nat // (Kah (ss.take i)).length <= y.2 /\ y.2 <= maxLen}) (fun x => .slice x.1.1 0 x.1.2) (fun x => [.row (.slice x.1.1 0 x.1.2) 65 17 0 (Ka Rs.cells ([]))]) rfl KoQ (fun w1 hw => KkT (Kah (ss.take i)).length w1 (by have := KfM ss i; omega)) ?_;rintro ⟨⟨Ag, cg⟩, hg1, hg2⟩;dsimp only [lC, lN];dsimp only at hg1 hg2 ⊢;refine TL.as_ ?_;refine zET (zS (zSG (TL.mv ?_)));refine TL.v (gN Tryz.underlying45) ?_;refine TL.mv ?_;refine zET (zB (TC.lp (α := {y : Nat × (Option Addr × Nat) // y.1 <= ss.length /\ (Kah (ss.take y.1)).length <= y.2.2 /\ y.2.2 <= maxLen}) [0, 25, 26] rfl (fun y => [(27, .int .i64 ((y.1.1 : Nat) : Int)), (6, .slice y.1.2.1 ((Kah (ss.take y.1.1)).length) y.1.2.2)]) (fun y => Pm w [.row (.slice y.1.2.1 ((Kah (ss.take y.1.1)).length) y.1.2.2) 65 17 ((Kah (ss.take y.1.1)).length) (Ka Rs.cells (Kah (ss.take y.1.1)))]) (fun y => ss.length - y.1.1) (⟨(0, (Ag, cg)), Nat.zero_le _, Nat.zero_le _, hg2⟩) (fun w1 hw => hw) ?_));rintro ⟨⟨i, ⟨Ao, co⟩⟩, hi, hoc, hom⟩;dsimp only at hi hoc hom ⊢;refine zSG ?_;refine TL.sp Kk (fun q28 => ?_) (fun q28 => ?_)
 ·refine zET (zS (zc (zk (zT (zS (zB (zSG ?_)))))));have hi29 : i < ss.length := by omega
  obtain ⟨x29, hx29⟩ := Ko hi29;obtain ⟨b29, o29, hA29, hbb29, hc29⟩ := hs.ad (by omega) (by decide);refine TL.w rfl (gA (i := i) Tryz.underlying45 Kdv rfl rfl rfl rfl hA29 (by omega)) ?_;refine TL.v (gS 0 Kbf KaT hbb29 hx29 hc29) ?_;refine TL.as_ ?_;refine zET ?_;have hcs := KiD hx29;have hcl : (Kah (ss.take (i + 1))).length = (Kah (ss.take i)).length + x29.l.length := by rw [hcs, List.length_append]
  have hcm := KfM ss (i + 1);refine zG (TL.rn 2 rfl ?_);refine TL.appendT (k := 0) rfl rfl rfl rfl Tryz.underlying23 KaK rfl rfl rfl (fun w1 hw => ⟨_, ((hb x29 (List.mem_of_getElem? hx29)).up hw.bel)⟩) (KA Ke _) (by show _ * 128 <= _; omega) ((Kah (ss.take (i + 1))).length) (hcl) (Ka Rs.cells (Kah (ss.take (i + 1)))) (by rw [hcs]; exact (KF _ _).symm) (fun A33 c33 hA331 hA332 => ?_);refine TL.as_ ?_;refine zE (zN (zT (zG (TL.v (gD ((i + 1 : Nat) : Int)) ?_))));refine TL.mv ?_;refine zE ?_;exact TX.rd (⟨(i + 1, (A33, c33)), by dsimp only; omega, hA331, hA332⟩) (by show ss.length - (i + 1) < ss.length - i; omega) (fun w1 hw => hw)
 refine zET (zS (zd (zx (zX (zX (zM (zT (zSG (TL.rn 2 rfl (zET (zr ?_)))))))))));have hct : Kah (ss.take i) = Kah ss := by rw [List.take_of_length_le (by omega)]
 exact Kc Tryz.results103 rfl (fun w1 hw => ⟨⟨((Ao, co), Kah (ss.take i)), hct, hoc, hom⟩, rfl, hw.pick [0] (by decide) rfl⟩)
set_option maxRecDepth 20000
theorem KkJ {F : Fence} {m : Nat} {P : Program} {l : Nat} {args : Array Value} {W : World} {R R' : Ending -> World -> Prop} (h : YieldAt F m P l args W R) (hR : ∀ e w, R e w -> R' e w) : YieldAt F m P l args W R' := by
 obtain ⟨fn, tmps, assign, body, h1, h2⟩ := h;exact ⟨fn, tmps, assign, body, h1, h2.mono hR⟩
def Ka3 (n k : Nat) : List (Fin n) := (List.finRange n).reverse.take (n - k)
theorem Kfi {n k : Nat} (h : k < n) : Ka3 n k = Ka3 n (k + 1) ++ [⟨k, h⟩] := by
 unfold Ka3;rw [show n - k = (n - (k + 1)) + 1 by omega, List.take_add_one, List.getElem?_reverse (by simp; omega)]
 have : (List.finRange n)[(List.finRange n).length - 1 - (n - (k + 1))]? = some ⟨k, h⟩ := by
  rw [List.getElem?_eq_getElem (by simp; omega)];simp;omega
 rw [this]; rfl
theorem KnH (n k : Nat) (h : k <= n) : (Ka3 n k).length = n - k := by simp [Ka3]
theorem KfV (n : Nat) : Ka3 n 0 = (List.finRange n).reverse := by
 unfold Ka3;exact List.take_of_length_le (by simp)
def BkK (b1 : Nat) (A0 : Option Addr) (l : List Rs) (W W' : World) : Prop := (∀ v, W.cell? ⟨b1, 0, none⟩ = some v -> W'.cell? ⟨b1, 0, none⟩ = some v) /\ (Kg W W.heap.size 17 A0 l.length (Ka Rs.cells l) -> Kg W' W'.heap.size 17 A0 l.length (Ka Rs.cells l))
theorem BkK.refl (b1 : Nat) (A0 : Option Addr) (l : List Rs) (W : World) : BkK b1 A0 l W W := ⟨fun _ h => h, fun h => h⟩
theorem BkK.trans {b1 : Nat} {A0 : Option Addr} {l : List Rs} {A B C : World} (h : BkK b1 A0 l A B) (k : BkK b1 A0 l B C) : BkK b1 A0 l A C := ⟨fun v e => k.1 v (h.1 v e), fun e => k.2 (h.2 e)⟩
theorem BkK.put {b1 : Nat} {A0 : Option Addr} {l : List Rs} (W : World) (q : Nat) (o o' : Obj) (h : W.heap[q]? = some o) (hc : o.isCells = false) : BkK b1 A0 l W (W.putObj q o') :=
 ⟨fun v e => cell_kept e (grownBy_putObj' W q o') (fun r he => by cases he; exact ⟨o, h, hc⟩),
   fun hR => ⟨hR.1, fun hn => by
     obtain ⟨ad, h1, h2, h3⟩ := hR.2 hn;exact ⟨ad, h1, Nat.lt_of_lt_of_le h2 (grownBy_putObj' W q o').size, fun j u hu => cell_kept (h3 j u hu) (grownBy_putObj' W q o') (fun r he => by cases he; exact ⟨o, h, hc⟩)⟩⟩⟩
theorem KlI (n : Nat) (hn : 1 <= n) (lr b1 : Nat) (A0 : Option Addr) (c0 : Nat) (l : List Rs) (hl1 : l.length <= 1000000) (J : List (Fin l.length) -> World -> Prop)
  (hY : ∀ pre x W, J pre W -> x.1 + pre.length + 1 = l.length -> YieldAt Fence.wide (n - 1) Tryz.prog lr #[.int .i64 ((x.1 : Nat) : Int), .agg (l[x]).cells.toArray] W fun e W' => e = .returned (.bool true) /\ J (pre ++ [x]) W' /\ BkK b1 A0 l W W')
  (W : World) (h1 : W.cell? ⟨b1, 0, none⟩ = some (.slice A0 l.length c0)) (hr0 : Kg W W.heap.size 17 A0 l.length (Ka Rs.cells l)) (h0 : J [] W) :
  CallsIn Fence.wide n Tryz.prog 150 #[.func (.yield lr) #[] #[], .pointer (some ⟨b1, 0, none⟩)] W fun e W' => (∃ v, e = .returned v) /\ ∃ ys, ys = (List.finRange l.length).reverse /\ J ys W' := by
 have hA0 : 0 < l.length -> A0 = some ⟨adB A0, adO A0, none⟩ := fun h => hr0.addr h (by decide);refine callsIn_wide.2 (Kh (vs := [.func (.yield lr) #[] #[], .pointer (some ⟨b1, 0, none⟩)]) (I := fun w1 => J [] w1 /\ BkK b1 A0 l W w1) Tryz.func150 rfl rfl rfl ?_ ⟨h0, BkK.refl _ _ _ _⟩);refine zSG ?_;refine TL.w rfl (Kw (v := .slice A0 l.length c0) rfl rfl KaT (fun w1 hw => hw.2.1 _ h1)) ?_;refine TL.v (gN Tryz.underlying23) ?_;refine TL.w rfl (Ks rfl rfl rfl (fun w => K0 (r := ((l.length : Nat) : Int) - 1) (by simp only [IntKind.wrap_i64]; omega) w)) ?_;refine TL.as_ ?_;refine zET (zB (TC.lp (α := {k : Nat // k <= l.length}) [0, 1] rfl (fun y => [(3, .int .i64 (((y.1 : Nat) : Int) - 1))]) (fun y w1 => J (Ka3 l.length y.1) w1 /\ BkK b1 A0 l W w1) (fun y => y.1) (⟨l.length, Nat.le_refl _⟩) (fun w1 hw => ⟨by unfold Ka3; rw [Nat.sub_self]; exact hw.1, hw.2⟩) ?_));rintro ⟨k, hk⟩;dsimp only;refine zS (zSG (TL.mv ?_));refine TL.sp K3 (fun q8 => ?_) (fun q8 => ?_)
 ·obtain ⟨i, rfl⟩ : ∃ i, k = i + 1 := ⟨k - 1, by omega⟩;refine zET (zc (zk (zT (zS (zB (zS (TC.cut [(0, .func (.yield lr) #[] #[]), (1, .pointer (some ⟨b1, 0, none⟩)), (3, .int .i64 ((i : Nat) : Int)), (7, .int .i64 ((((i + 1) : Nat) : Int) - 1)), (8, .bool true)] (fun w1 => J (Ka3 l.length (i + 1)) w1 /\ BkK b1 A0 l W w1) ⟨rfl, rfl, (by show some (Value.int .i64 (((i + 1 : Nat) : Int) - 1)) = some (Value.int .i64 ((i : Nat) : Int)); congr 2; omega), rfl, rfl, trivial⟩ (fun w1 hw => hw) ?_)))))));refine TC.regionY n ?_;refine TLI.val rfl rfl rfl (Ki rfl rfl) ?_;refine TLI.val rfl rfl rfl (Ki rfl rfl) ?_;refine TLI.val rfl rfl rfl (Kw (v := .slice A0 l.length c0) rfl rfl KaT (fun w1 hw => hw.2.1 _ h1)) ?_;refine TLI.val rfl rfl rfl (Ki rfl rfl) ?_;have hi15 : i < l.length := by omega
  obtain ⟨x15, hx15⟩ := Ko hi15;have hA15 := hA0 (by omega);refine TLI.val rfl rfl rfl (gA (i := i) Tryz.underlying23 Kd rfl rfl rfl rfl hA15 (by omega)) ?_;refine TLI.val rfl rfl rfl (KS (off := (adO A0) + i * 17) rfl rfl Ku Kd (Ke.len x15) (fun w1 hw j9 u9 h9 => KdS Ke (hw.2.2 hr0) hA15 hx15 j9 u9 h9)) ?_;refine TLI.yield (I1 := fun w1 => J (Ka3 l.length i) w1 /\ BkK b1 A0 l W w1) (I2 := fun w1 => False) rfl rfl rfl rfl rfl rfl hn (fun w1 hw => ?_) ?_
  ·have hlt : i < l.length := by omega
   rw [show x15 = l[(⟨i, hlt⟩ : Fin l.length)] from (List.getElem?_eq_some_iff.1 hx15).2.symm];refine (KkJ (hY _ ⟨i, hlt⟩ w1 hw.1 (by rw [KnH _ _ (by omega)]; show i + _ + 1 = _; omega)) ?_);rintro e w2 ⟨h4, h5, h6⟩;exact .inl ⟨h4, by rw [Kfi hlt]; exact h5, hw.2.trans h6⟩
  intro yb
  cases yb with
  | true =>
   refine TLI.val rfl rfl rfl (K7 rfl rfl) ?_;refine TLI.end_ ?_;refine zT (zd (zk (zN (zT (zG (TL.mv ?_))))));refine TL.w rfl (Ks rfl rfl rfl (fun w => K0 (r := ((i : Nat) : Int) - 1) (by simp only [IntKind.wrap_i64]; omega) w)) ?_;refine TL.as_ ?_;refine zE ?_;exact TX.rd (⟨i, by omega⟩) (by show i < i + 1; omega) (fun w1 hw => hw.1 rfl)
  | false =>
   refine TLI.val rfl rfl rfl (K7 rfl rfl) ?_;refine TLI.end_ ?_;refine zT (zc (zr (zRR (zR (TX.in_ret ?_)))));exact KoM Tryz.results150 (fun w1 hw => (hw.2 rfl).elim)
 refine zET (zd (zx (zX (zX (zM ?_)))));obtain rfl : k = 0 := by omega
 exact KoR Tryz.results150 (fun w1 hw => ⟨⟨_, rfl⟩, _, KfV _, hw.1⟩)
theorem Kpw (n : Nat) (hn : 1 <= n) (b1 : Nat) (A0 : Option Addr) (c0 : Nat) (l : List Rs) (hl1 : l.length <= 1000000) (w : World) (hb1 : b1 < w.heap.size) (h1 : w.cell? ⟨b1, 0, none⟩ = some (.slice A0 l.length c0)) (hr0 : Kg w w.heap.size 17 A0 l.length (Ka Rs.cells l)) :
  Ki5 n Tryz.prog 150 #[.pointer (some ⟨b1, 0, none⟩)] (fun x : Fin l.length => #[.int .i64 ((x.1 : Nat) : Int), .agg (l[x]).cells.toArray]) (fun pre x => x.1 + pre.length + 1 = l.length) (BkK b1 A0 l) (fun ys => ys = (List.finRange l.length).reverse) w :=
 fun lr J W hW hY h0 => KlI n hn lr b1 A0 c0 l hl1 J hY W ((hW.cell (p := ⟨b1, 0, none⟩) hb1).trans h1) (hr0.up hW) h0
theorem Kph (A0 : Option Addr) (c0 n0 : Nat) (w : World) :
  Calls Tryz.prog 102 #[.slice A0 n0 c0] w fun e w' => ∃ g1 : Nat, e = .returned (.func (.func 150) #[] #[.pointer (some ⟨g1, 0, none⟩)]) /\ Pm w [.blk g1 23 [.slice A0 n0 c0]] w' := by
 refine Kh Tryz.func102 rfl rfl rfl ?_ (Pm.start w);refine zSG ?_;refine TL.bx fun g1 => ?_;refine TL.as_ ?_;refine zET (zSG ?_);refine TL.w rfl (Kdg rfl rfl rfl) ?_;refine TL.as_ ?_;refine zET (zr ?_);exact Kc Tryz.results102 rfl (fun w1 hw => ⟨g1, rfl, hw⟩)
set_option maxRecDepth 20000
def KcZ (n : Int) : Int := IntKind.u32.wrap (4294967295 * 2 ^ (32 - n).toNat)
def Kbn (a n : Int) : Bool := decide (0 <= n) && decide (n <= 32) && decide (bits .andNot .u32 a (KcZ n) = 0)
def Kbi (a n x : Int) : Bool := Kbn a n && decide (bits .and .u32 x (KcZ n) = a)
def Kap (a n b m : Int) : Int := if Kl a b = 0 then Kl n m else Kl a b
theorem or2 {a n b m : Int} : orI [Kl a b, Kl n m] = Kap a n b m := by
 unfold Kap;show (if Kl a b = 0 then (if Kl n m = 0 then 0 else Kl n m) else Kl a b) = _;split
 ·split
  ·rename_i h; exact h.symm
  rfl
 rfl
theorem KnJ {a n : Int} (h : Kbn a n = true) : 0 <= n /\ n <= 32 := by
 simp [Kbn] at h;exact ⟨h.1.1, h.1.2⟩
theorem Kbk : FA Tryz.prog 100 1 1 := fun g o w => by kernel_rfl
theorem KbX : FA Tryz.prog 100 0 0 := fun g o w => by kernel_rfl
theorem KmN (a0_0 : Int) (a1_0 : Int) (w : World) : (Instr.buildSlice 106 2 #[(0, .int .i64 a0_0), (1, .int .i64 a1_0)]).run Tryz.prog w = .ok (.slice (some ⟨w.heap.size, 0, none⟩) 2 2) (w.alloc (.cells [.int .i64 a0_0, .int .i64 a1_0].toArray 3)) := by kernel_rfl
theorem Kbc (w : World) : (isAgg 100).run Tryz.prog w = .ok true w := rfl
theorem Kba (w : World) : (sizeOf 100).run Tryz.prog w = .ok 2 w := rfl
theorem KjT (n : Int) (h0 : 0 <= n) (h1 : n <= 32) (w : World) :
  Calls Tryz.prog 191 #[.int .i64 n] w fun e w' => e = .returned (.int .u32 (KcZ n)) /\ w' = w := by
 refine Kh (I := fun w1 => w1 = w) Tryz.func191 rfl rfl rfl ?_ rfl;refine zSG (TL.as_ ?_);refine zET (zSG (TL.mv ?_));refine TL.w rfl (Ks rfl rfl rfl (fun w => K0 (r := 32 - n) (by simp only [IntKind.wrap_i64]; omega) w)) ?_;refine TL.w rfl (Ks (v := .int .u32 (KcZ n)) rfl rfl rfl (fun w => Kd8 (2 ^ (32 - n).toNat) (by omega) (by simp only [IntKind.bits]; omega) rfl w)) ?_;refine TL.as_ ?_;refine zET (zr ?_);exact Kc Tryz.results191 rfl (fun w1 hw => ⟨rfl, hw⟩)
theorem KjI (a n : Int) (w : World) :
  Calls Tryz.prog 163 #[.agg #[.int .u32 a, .int .i64 n]] w fun e w' => e = .returned (.bool (Kbn a n)) /\ Below w.heap.size w w' := by
 refine Kh Tryz.func163 rfl rfl rfl ?_ (Pm.start w);refine zSG ?_;refine TL.bx fun g1 => ?_;refine TL.as_ ?_;refine zET (zS (TC.quietQ (by kernel_rfl) (by kernel_rfl) (fun w hw => hw.drawn _) ?_));refine TQ.v (gF Kbk) ?_;refine TQ.v (gL 0 Kb) ?_;refine TQ.sp K3 (fun q5 => ?_) (fun q5 => ?_)
 ·refine TQ.w rfl (Ki rfl rfl) ?_;refine TQ.ov (gF Kbk) ?_;refine TQ.ov (gL 0 Kb) ?_;refine TQ.on rfl rfl rfl ?_;refine TQ.sp KaB (fun q9 => ?_) (fun q9 => ?_)
  ·refine TQ.rn 2 rfl (TQ.ov (gF KbX) ?_);refine TQ.ov (gL 0 KO) ?_;refine TQ.ov (gF Kbk) ?_;refine TQ.ov (gL 0 Kb) ?_;refine TQ.on rfl rfl rfl ?_;refine TQ.p1 (v := .int .u32 (KcZ n)) rfl KiI (fun w1 hw => (KbD (KjT n (by omega) (by omega) w1)).mono fun en w2 ⟨h1, h2⟩ => ⟨h1, hw.below h2⟩) ?_;refine TQ.on rfl rfl rfl ?_;refine TQ.w rfl (Ks rfl rfl rfl (fun w => Klt w)) ?_;refine TQ.on rfl rfl rfl ?_;refine TQ.sp Kx (fun q18 => ?_) (fun q18 => ?_)
   ·refine TQ.rn 2 rfl ?_;refine TQ.fin ?_;refine zT (zr ?_);have hE : (Kbn a n) = true := (by simp [Kbn, q5, q9, q18]; try omega);exact Kc Tryz.results163 rfl (fun w1 hw => ⟨by rw [hE]; try rfl, hw.bel⟩)
   refine TQ.rn 2 rfl ?_;refine TQ.fin ?_;refine zT (zr ?_);have hE : (Kbn a n) = false := (by simp [Kbn, q5, q9, q18]; try omega);exact Kc Tryz.results163 rfl (fun w1 hw => ⟨by rw [hE]; try rfl, hw.bel⟩)
  refine TQ.rn 11 rfl ?_;refine TQ.fin ?_;refine zT (zr ?_);have hE : (Kbn a n) = false := (by simp [Kbn, q5, q9]; try omega);exact Kc Tryz.results163 rfl (fun w1 hw => ⟨by rw [hE]; try rfl, hw.bel⟩)
 refine TQ.rn 15 rfl ?_;refine TQ.fin ?_;refine zT (zr ?_);have hE : (Kbn a n) = false := (by simp [Kbn, q5]; try omega);exact Kc Tryz.results163 rfl (fun w1 hw => ⟨by rw [hE]; try rfl, hw.bel⟩)
theorem KkQ (a n b m : Int) (w : World) :
  Calls Tryz.prog 130 #[.agg #[.int .u32 a, .int .i64 n], .agg #[.int .u32 b, .int .i64 m]] w fun e w' => e = .returned (.int .i64 (Kap a n b m)) /\ Below w.heap.size w w' := by
 refine Kh Tryz.func130 rfl rfl rfl ?_ (Pm.start w);refine zSG ?_;refine TL.bx fun g2 => ?_;refine TL.bx fun g3 => ?_;refine TL.as_ ?_;refine zET (zS (TC.tail 10 (by kernel_rfl) (by kernel_rfl) (fun w hw => hw.drawn _) ?_));refine TS.v (gF KbX) ?_;refine TS.v (gL 1 KO) ?_;refine TS.v (gF KbX) ?_;refine TS.v (gL 0 KO) ?_;refine TS.call (r := .int .i64 (Kl a b)) rfl rfl rfl rfl rfl Tryz.func80 (by decide) rfl (fun w1 hw => KgS a b w1) ?_;refine TS.v (gF Kbk) ?_;refine TS.v (gL 1 Kb) ?_;refine TS.v (gF Kbk) ?_;refine TS.v (gL 0 Kb) ?_;refine TS.call (r := .int .i64 (Kl n m)) rfl rfl rfl rfl rfl Tryz.func79 (by decide) rfl (fun w1 hw => KbY n m w1) ?_;refine TS.end_ ?_;refine TL.prowS (e := 3) (size := 1) (cs := Ka (ic .i64) [Kl a b, Kl n m]) rfl rfl rfl rfl rfl (fun w => KmN _ _ w) (by decide) rfl (fun g15 => ?_);refine TL.p1 (r := .int .i64 (Kap a n b m)) rfl o78 (fun w1 hw => (by have h9 := KgW (some ⟨g15, 0, none⟩) 2 2 ([Kl a b, Kl n m]) w1 (KD hw (k := 0) rfl) rfl (by show 2 <= 100000; decide); rw [or2] at h9; exact h9)) ?_;refine TL.as_ ?_;refine zET (zr ?_);have hE : (Kap a n b m) = Kap a n b m := (by simp [Kap]);exact Kc Tryz.results130 rfl (fun w1 hw => ⟨by rw [hE]; try rfl, hw.bel⟩)
theorem Kkk (a n x : Int) (w : World) :
  Calls Tryz.prog 216 #[.agg #[.int .u32 a, .int .i64 n], .int .u32 x] w fun e w' => e = .returned (.bool (Kbi a n x)) /\ Below w.heap.size w w' := by
 refine Kh Tryz.func216 rfl rfl rfl ?_ (Pm.start w);refine zSG ?_;refine TL.bx fun g2 => ?_;refine TL.as_ ?_;refine zET (zS (TC.quietQ (by kernel_rfl) (by kernel_rfl) (fun w hw => hw.drawn _) ?_));refine TQ.v (gV 0 (.agg #[.int .u32 a, .int .i64 n]) Kbc Kba) ?_;refine TQ.pS rfl Kkn (fun w1 hw => KjI a n w1) (fun h6 => ?_) (fun h6 => ?_)
 ·have hn0 := KnJ h6;refine TQ.rn 2 rfl (TQ.ov (gF Kbk) ?_);refine TQ.ov (gL 0 Kb) ?_;refine TQ.on rfl rfl rfl ?_;refine TQ.p1 (v := .int .u32 (KcZ n)) rfl KiI (fun w1 hw => (KbD (KjT n (by omega) (by omega) w1)).mono fun en w2 ⟨h1, h2⟩ => ⟨h1, hw.below h2⟩) ?_;refine TQ.on rfl rfl rfl ?_;refine TQ.w rfl (Ks rfl rfl rfl (fun w => KlN (by simp) w)) ?_;refine TQ.ov (gF KbX) ?_;refine TQ.ov (gL 0 KO) ?_;refine TQ.on rfl rfl rfl ?_;refine TQ.sp Kx (fun q15 => ?_) (fun q15 => ?_)
  ·refine TQ.rn 2 rfl ?_;refine TQ.fin ?_;refine zT (zr ?_);have hE : (Kbi a n x) = true := (by simp [Kbi, h6, q15]; try omega);exact Kc Tryz.results216 rfl (fun w1 hw => ⟨by rw [hE]; try rfl, hw.bel⟩)
  refine TQ.rn 2 rfl ?_;refine TQ.fin ?_;refine zT (zr ?_);have hE : (Kbi a n x) = false := (by simp [Kbi, h6, q15]; try omega);exact Kc Tryz.results216 rfl (fun w1 hw => ⟨by rw [hE]; try rfl, hw.bel⟩)
 refine TQ.rn 11 rfl ?_;refine TQ.fin ?_;refine zT (zr ?_);have hE : (Kbi a n x) = false := (by simp [Kbi, h6]; try omega);exact Kc Tryz.results216 rfl (fun w1 hw => ⟨by rw [hE]; try rfl, hw.bel⟩)
set_option maxRecDepth 20000
structure En where
 addr : Int
 len : Int
 prov : Int
 frm : Int
 to_ : Int
deriving DecidableEq
def En.cells (r : En) : List Value := [.int .u32 r.addr, .int .i64 r.len, .int .i64 r.prov, .int .i64 r.frm, .int .i64 r.to_]
theorem KV : Cel En.cells 5 := ⟨fun _ => rfl, fun r u hu => by
 simp only [En.cells, List.mem_cons, List.not_mem_nil, or_false] at hu;rcases hu with rfl | rfl | rfl | rfl | rfl <;> rfl⟩
def En.zero : En := ⟨0, 0, 0, 0, 0⟩
def Kam (e : En) : Bool := Kbn e.addr e.len && decide (1 <= e.prov) && decide (e.prov <= 2147483647) && decide (0 <= e.frm) && decide (e.frm < e.to_) && decide (e.to_ <= 1125899906842624)
def Kbv (b x : En) : Bool := decide (Kap b.addr b.len x.addr x.len > 0) || (decide (Kap b.addr b.len x.addr x.len = 0) && decide (x.frm < b.to_))
def Ka1 (es : List En) (i : Nat) : Bool := match es[i]? with
 | none => true
 | some x => Kam x && (decide (i = 0) || match es[i - 1]? with
  | none => true
  | some b => !Kbv b x)
def KZ (es : List En) : Bool := decide (es.length <= 1024) && (List.range es.length).all (Ka1 es)
theorem Kjr {es : List En} {i : Nat} {x : En} (hx : es[i]? = some x) (h : Kam x = false) : Ka1 es i = false := by simp [Ka1, hx, h]
theorem Kjc {es : List En} {x : En} {i : Nat} (hi : i = 0) (hx : es[i]? = some x) (h : Kam x = true) : Ka1 es i = true := by subst hi; simp [Ka1, hx, h]
theorem KcS {es : List En} {x b : En} {i : Nat} {t : Bool} (hi : ¬ i = 0) (hx : es[i]? = some x) (hb : es[i - 1]? = some b) (h : Kam x = true) (ht : Kbv b x = !t) : Ka1 es i = t := by simp [Ka1, hx, hb, h, hi, ht]
theorem Kgg {es : List En} (hl : es.length <= 1024) (h : ∀ j, j < es.length -> Ka1 es j = true) : KZ es = true := by
 simp only [KZ, Bool.and_eq_true, decide_eq_true_eq, List.all_eq_true, List.mem_range];exact ⟨hl, h⟩
theorem KdJ {es : List En} {i : Nat} (hi : i < es.length) (h : Ka1 es i = false) : KZ es = false := by
 cases hv : KZ es with
 | false => rfl
 | true =>
  simp only [KZ, Bool.and_eq_true, decide_eq_true_eq, List.all_eq_true, List.mem_range] at hv;rw [hv.2 i hi] at h; cases h
theorem KlJ {es : List En} (h : KZ es = true) : es.length <= 1024 := by
 simp only [KZ, Bool.and_eq_true, decide_eq_true_eq] at h;exact h.1
def KaH (a t : Int) (p : En × Bool) (e : En) : Bool := decide (e.frm <= t) && decide (t < e.to_) && (!p.2 || decide (e.len > p.1.len)) && Kbi e.addr e.len a
def Keu (a t : Int) (p : En × Bool) (e : En) : En × Bool := if KaH a t p e then (e, true) else p
def KaC (es : List En) (a t : Int) : En × Bool := es.foldl (Keu a t) (En.zero, false)
theorem KaX {es : List En} {a t : Int} {i : Nat} {x : En} {p : En × Bool} (hx : es[i]? = some x) (hp : KaC (es.take i) a t = p) : KaC (es.take (i + 1)) a t = if KaH a t p x then (x, true) else p := by
 unfold KaC at hp ⊢;rw [List.take_add_one, hx, List.foldl_append, hp]
 rfl
def Kbz (es : List En) (a t : Int) : En × Bool := if KZ es then KaC es a t else (En.zero, false)
def Kag (es : List En) (a t : Int) : Int := (Kbz es a t).1.prov
theorem KaV : FA Tryz.prog 102 0 0 := fun g o w => by kernel_rfl
theorem KcJ : FA Tryz.prog 102 1 2 := fun g o w => by kernel_rfl
theorem Kbr : FA Tryz.prog 102 2 3 := fun g o w => by kernel_rfl
theorem Kbh : FA Tryz.prog 102 3 4 := fun g o w => by kernel_rfl
theorem Ka6 : FA Tryz.prog 26 0 0 := fun g o w => by kernel_rfl
theorem Ka7 (w : World) : (isAgg 24).run Tryz.prog w = .ok false w := rfl
theorem Kz (w : World) : (sizeOf 102).run Tryz.prog w = .ok 5 w := rfl
theorem Kau (w : World) : (isAgg 102).run Tryz.prog w = .ok true w := rfl
theorem Kav (w : World) : (zeroValue 102).run Tryz.prog w = .ok (.agg #[.int .u32 0, .int .i64 0, .int .i64 0, .int .i64 0, .int .i64 0]) w := rfl
theorem KX (w : World) : (isAgg 26).run Tryz.prog w = .ok true w := rfl
theorem KH (w : World) : (sizeOf 26).run Tryz.prog w = .ok 1 w := rfl
theorem KfR  (w : World) : (Instr.build 102 #[]).run Tryz.prog w = .ok (.agg #[.int .u32 0, .int .i64 0, .int .i64 0, .int .i64 0, .int .i64 0]) w := by kernel_rfl
theorem KgD {a0 : Int} {a1 : Int} {a2 : Int} {a3 : Int} {a4 : Int} : ∀ u ∈ [(.int .u32 a0 : Value), .int .i64 a1, .int .i64 a2, .int .i64 a3, .int .i64 a4], u.oneCell' = true := by
 intro u hu;simp only [List.mem_cons, List.not_mem_nil, or_false] at hu;rcases hu with rfl | rfl | rfl | rfl | rfl <;> rfl
theorem KoS (x : En) (w : World) :
  Calls Tryz.prog 129 #[.agg x.cells.toArray] w fun e w' => e = .returned (.bool (Kam x)) /\ Below w.heap.size w w' := by
 refine Kh Tryz.func129 rfl rfl rfl ?_ (Pm.start w);refine zSG ?_;refine TL.bx fun g1 => ?_;refine TL.as_ ?_;refine zET (zSG (TL.v (gF KaV) ?_));refine TL.v (gV 0 (.agg #[.int .u32 x.addr, .int .i64 x.len]) Kbc Kba) ?_;refine TL.pS rfl Kkn (fun w1 hw => KjI x.addr x.len w1) (fun h5 => ?_) (fun h5 => ?_)
 ·refine TL.mv ?_;refine TL.ov (gF KcJ) ?_;refine TL.ov (gL 0 Kb) ?_;refine TL.gu ?_;refine TL.sp K3 (fun q9 => ?_) (fun q9 => ?_)
  ·refine TL.rn 2 rfl (TL.ov (gF KcJ) ?_);refine TL.ov (gL 0 Kb) ?_;refine TL.gu ?_;refine TL.sp KaB (fun q14 => ?_) (fun q14 => ?_)
   ·refine TL.rn 2 rfl (TL.ov (gF Kbr) ?_);refine TL.ov (gL 0 Kb) ?_;refine TL.gu ?_;refine TL.sp K3 (fun q19 => ?_) (fun q19 => ?_)
    ·refine TL.rn 2 rfl (TL.ov (gF Kbr) ?_);refine TL.ov (gL 0 Kb) ?_;refine TL.ov (gF Kbh) ?_;refine TL.ov (gL 0 Kb) ?_;refine TL.gu ?_;refine TL.sp Kk (fun q26 => ?_) (fun q26 => ?_)
     ·refine TL.rn 2 rfl (TL.ov (gF Kbh) ?_);refine TL.ov (gL 0 Kb) ?_;refine TL.gu ?_;refine TL.sp KaB (fun q31 => ?_) (fun q31 => ?_)
      ·refine TL.rn 2 rfl (zET (zr ?_));have hE : (Kam x) = true := (by simp [Kam, h5, q9, q14, q19, q26, q31]; try omega);exact Kc Tryz.results129 rfl (fun w1 hw => ⟨by rw [hE]; try rfl, hw.bel⟩)
      refine TL.rn 2 rfl (zET (zr ?_));have hE : (Kam x) = false := (by simp [Kam, h5, q9, q14, q19, q26, q31]; try omega);exact Kc Tryz.results129 rfl (fun w1 hw => ⟨by rw [hE]; try rfl, hw.bel⟩)
     refine TL.rn 7 rfl (zET (zr ?_));have hE : (Kam x) = false := (by simp [Kam, h5, q9, q14, q19, q26]; try omega);exact Kc Tryz.results129 rfl (fun w1 hw => ⟨by rw [hE]; try rfl, hw.bel⟩)
    refine TL.rn 14 rfl (zET (zr ?_));have hE : (Kam x) = false := (by simp [Kam, h5, q9, q14, q19]; try omega);exact Kc Tryz.results129 rfl (fun w1 hw => ⟨by rw [hE]; try rfl, hw.bel⟩)
   refine TL.rn 19 rfl (zET (zr ?_));have hE : (Kam x) = false := (by simp [Kam, h5, q9, q14]; try omega);exact Kc Tryz.results129 rfl (fun w1 hw => ⟨by rw [hE]; try rfl, hw.bel⟩)
  refine TL.rn 24 rfl (zET (zr ?_));have hE : (Kam x) = false := (by simp [Kam, h5, q9]; try omega);exact Kc Tryz.results129 rfl (fun w1 hw => ⟨by rw [hE]; try rfl, hw.bel⟩)
 refine TL.rn 28 rfl (zET (zr ?_));have hE : (Kam x) = false := (by simp [Kam, h5]; try omega);exact Kc Tryz.results129 rfl (fun w1 hw => ⟨by rw [hE]; try rfl, hw.bel⟩)
theorem okN {es : List En} {i : Nat} (h : ∀ j, j < i -> Ka1 es j = true) (hi : Ka1 es i = true) : ∀ j, j < i + 1 -> Ka1 es j = true := fun j hj => by
 rcases Nat.lt_or_ge j i with h1 | h1
 ·exact h j h1
 obtain rfl : j = i := by omega
 exact hi
theorem Ke6 (A0 : Option Addr) (c0 : Nat) (es : List En) (w : World) (hr : Kg w w.heap.size 5 A0 es.length (Ka En.cells es)) :
  Calls Tryz.prog 84 #[.agg #[.slice A0 es.length c0]] w fun e w' => e = .returned (.bool (KZ es)) /\ Below w.heap.size w w' := by
 refine Kh Tryz.func84 rfl rfl rfl ?_ (Pm.start w);refine zSG ?_;refine TL.bx fun g1 => ?_;refine TL.as_ ?_;refine zET (zS (zSG (TL.v (gF Ka6) ?_)));refine TL.v (gL 0 Ka7) ?_;refine TL.v (gN Tryz.underlying24) ?_;refine TL.sp KK (fun q10 => ?_) (fun q10 => ?_)
 ·refine zET (zc (zSG (TL.as_ ?_)));refine zET (zr (zR ?_));have hE : KZ es = false := by simp only [KZ, decide_eq_false (show ¬ es.length <= 1024 by omega), Bool.false_and]
  exact Kc Tryz.results84 rfl (fun w1 hw => ⟨by rw [hE], hw.bel⟩)
 refine zET (zd (zk (zT (zS (zSG (TL.v (gF Ka6) ?_))))));refine TL.v (gL 0 Ka7) ?_;refine TL.v (gN Tryz.underlying24) ?_;refine TL.mv ?_;refine zET (zB (TC.lp (α := {i : Nat // i <= es.length /\ ∀ j, j < i -> Ka1 es j = true}) [1, 12, 13] rfl (fun y => [(14, .int .i64 ((y.1 : Nat) : Int))]) (fun y => Pm w [.blk g1 26 [.slice A0 es.length c0]]) (fun y => es.length - y.1) (⟨0, Nat.zero_le _, fun j hj => absurd hj (Nat.not_lt_zero _)⟩) (fun w1 hw => hw) ?_));rintro ⟨i, hi, hok⟩
 try dsimp only at hi hok ⊢
 refine zSG ?_;refine TL.sp Kk (fun q15 => ?_) (fun q15 => ?_)
 ·refine zET (zS (zc (zk (zT (zS (zB (zSG (TL.mv ?_))))))));have hi17 : i < es.length := by omega
  obtain ⟨x17, hx17⟩ := Ko hi17;obtain ⟨b17, o17, hA17, hbb17, hc17⟩ := hr.ad (by omega) (by decide);refine TL.w rfl (gA (i := i) Tryz.underlying24 Kz rfl rfl rfl rfl hA17 (by omega)) ?_;refine TL.v (gR KV Kau Kz hbb17 hx17 hc17) ?_;refine TL.al Kav fun g4 => ?_;refine TL.as_ ?_;refine TL.pstore (k := 0) (vs := x17.cells) rfl rfl rfl rfl rfl rfl rfl Kz (KV.one _) (by show 5 <= 5; decide) (L' := [.blk g4 102 x17.cells, .blk g1 26 [.slice A0 es.length c0]]) rfl ?_;refine zET (zS (zSG (TL.v (gV 0 (.agg (x17.cells).toArray) Kau Kz) ?_)));refine TL.pS rfl KlB (fun w1 hw => KoS x17 w1) (fun h20 => ?_) (fun h20 => ?_)
  ·refine TL.w rfl (K7 rfl rfl) ?_;refine zET (zd (zk (zT (zS (zSG (TL.mv ?_))))));refine TL.sp Kx (fun q23 => ?_) (fun q23 => ?_)
   ·refine zET (zc (zx (zX (zM (zT (zG (TL.v (gD ((i + 1 : Nat) : Int)) ?_)))))));refine TL.mv ?_;refine zE ?_;exact TX.rd (⟨i + 1, by omega, okN hok (Kjc (by omega) hx17 h20)⟩) (by show es.length - (i + 1) < es.length - i; omega) (fun w1 hw => hw.pk [1])
   refine zET (zd (zk (zT (zSG (TL.v (gF Ka6) ?_)))));refine TL.v (gL 1 Ka7) ?_;refine TL.mv ?_;refine TL.w rfl (Ks rfl rfl rfl (fun w => K0 (r := ((i - 1 : Nat) : Int)) (by simp only [IntKind.wrap_i64]; omega) w)) ?_;have hi28 : i - 1 < es.length := by omega
   obtain ⟨x28, hx28⟩ := Ko hi28;obtain ⟨b28, o28, hA28, hbb28, hc28⟩ := hr.ad (by omega) (by decide);refine TL.w rfl (gA (i := (i - 1)) Tryz.underlying24 Kz rfl rfl rfl rfl hA28 (by omega)) ?_;refine TL.w rfl (KS (off := o28 + (i - 1) * 5) rfl rfl Kau Kz (KV.len x28) (fun w1 hw j9 u9 h9 => (hw.bel.cell hbb28).trans <| Kcr KV hx28 hc28 j9 u9 h9)) ?_;refine TL.al Kav fun g5 => ?_;refine TL.pstore (k := 0) (vs := x28.cells) rfl rfl rfl rfl rfl rfl rfl Kz (KV.one _) (by show 5 <= 5; decide) (L' := [.blk g5 102 x28.cells, .blk g4 102 x17.cells, .blk g1 26 [.slice A0 es.length c0]]) rfl ?_;refine zET (zSG (TL.v (gF KaV) ?_));refine TL.v (gV 0 (.agg #[.int .u32 x28.addr, .int .i64 x28.len]) Kbc Kba) ?_;refine TL.v (gF KaV) ?_;refine TL.v (gV 1 (.agg #[.int .u32 x17.addr, .int .i64 x17.len]) Kbc Kba) ?_;refine TL.p1 rfl KqF (fun w1 hw => KkQ x28.addr x28.len x17.addr x17.len w1) ?_;refine TL.as_ ?_;refine zET (zSG (TL.mv ?_));refine TL.sp KK (fun q36 => ?_) (fun q36 => ?_)
   ·refine TL.rn 4 rfl ?_;refine TL.offU rfl rfl rfl rfl rfl ?_;refine TL.offU rfl rfl rfl rfl rfl ?_;refine TL.offU rfl rfl rfl rfl rfl ?_;refine TL.offU rfl rfl rfl rfl rfl ?_;refine TL.offU rfl rfl rfl rfl rfl ?_;refine TL.rn 2 rfl (zET (zc (zSG (TL.as_ ?_))));refine zET (zr (zRR (zR (zRR ?_))));have hE : KZ es = false := KdJ hi17 (KcS (t := false) (by omega) hx17 hx28 h20 (by simp [Kbv, q15, h20, q23, q36]));exact Kc Tryz.results84 rfl (fun w1 hw => ⟨by rw [hE], hw.bel⟩)
   refine TL.rn 2 rfl (TL.gu ?_);refine TL.sp Kx (fun q39 => ?_) (fun q39 => ?_)
   ·refine TL.rn 1 rfl (TL.ov (gF Kbr) ?_);refine TL.ov (gL 1 Kb) ?_;refine TL.ov (gF Kbh) ?_;refine TL.ov (gL 0 Kb) ?_;refine TL.gu ?_;refine TL.sp Kk (fun q45 => ?_) (fun q45 => ?_)
    ·refine TL.rn 2 rfl (zET (zc (zSG (TL.as_ ?_))));refine zET (zr (zRR (zR (zRR ?_))));have hE : KZ es = false := KdJ hi17 (KcS (t := false) (by omega) hx17 hx28 h20 (by simp [Kbv, q15, h20, q23, q36, q39, q45]));exact Kc Tryz.results84 rfl (fun w1 hw => ⟨by rw [hE], hw.bel⟩)
    refine TL.rn 2 rfl (zET (zd (zk (zN (zT (zG (TL.v (gD ((i + 1 : Nat) : Int)) ?_)))))));refine TL.mv ?_;refine zE ?_;exact TX.rd (⟨i + 1, by omega, okN hok (KcS (t := true) (by omega) hx17 hx28 h20 (by simp [Kbv, q15, h20, q23, q36, q39, q45]))⟩) (by show es.length - (i + 1) < es.length - i; omega) (fun w1 hw => hw.pk [2])
   refine TL.rn 8 rfl (zET (zd (zk (zN (zT (zG (TL.v (gD ((i + 1 : Nat) : Int)) ?_)))))));refine TL.mv ?_;refine zE ?_;exact TX.rd (⟨i + 1, by omega, okN hok (KcS (t := true) (by omega) hx17 hx28 h20 (by simp [Kbv, q15, h20, q23, q36, q39]))⟩) (by show es.length - (i + 1) < es.length - i; omega) (fun w1 hw => hw.pk [2])
  refine TL.w rfl (K7 rfl rfl) ?_;refine zET (zc (zSG (TL.as_ ?_)));refine zET (zr (zR (zRR (zR (zRR ?_)))));have hE : KZ es = false := KdJ hi17 (Kjr hx17 h20);exact Kc Tryz.results84 rfl (fun w1 hw => ⟨by rw [hE], hw.bel⟩)
 refine zET (zS (zd (zx (zX (zX (zM (zT (zSG (TL.as_ ?_)))))))));refine zET (zr ?_);have hE : KZ es = true := Kgg (by omega) (fun j hj => hok j (by omega));exact Kc Tryz.results84 rfl (fun w1 hw => ⟨by rw [hE], hw.bel⟩)
theorem Km0 (A0 : Option Addr) (c0 : Nat) (es : List En) (a t : Int) (w : World) (hr : Kg w w.heap.size 5 A0 es.length (Ka En.cells es)) (hl1 : es.length <= 100000) :
  Calls Tryz.prog 189 #[.agg #[.slice A0 es.length c0], .int .u32 a, .int .i64 t] w fun e w' => e = .returned (.tuple #[.agg (KaC es a t).1.cells.toArray, .bool (KaC es a t).2]) /\ Below w.heap.size w w' := by
 refine Kh Tryz.func189 rfl rfl rfl ?_ (Pm.start w);refine zSG ?_;refine TL.bx fun g3 => ?_;refine TL.al Kav fun g6 => ?_;refine TL.as_ ?_;refine zET (zSG ?_);refine TL.al Kav fun g8 => ?_;refine zET (zSG (TL.as_ ?_));refine zET (zS (zSG (TL.v (gF Ka6) ?_)));refine TL.v (gL 2 Ka7) ?_;refine TL.v (gN Tryz.underlying24) ?_;refine TL.mv ?_;refine zET (zB (TC.lp (α := {y : Nat × En × Bool // y.1 <= es.length /\ KaC (es.take y.1) a t = y.2}) [1, 2, 6, 8, 13, 14] rfl (fun y => [(15, .int .i64 ((y.1.1 : Nat) : Int)), (9, .bool y.1.2.2)]) (fun y => Pm w [.blk g8 102 y.1.2.1.cells, .blk g6 102 En.zero.cells, .blk g3 26 [.slice A0 es.length c0]]) (fun y => es.length - y.1.1) (⟨(0, En.zero, false), Nat.zero_le _, rfl⟩) (fun w1 hw => hw) ?_));rintro ⟨⟨i, bst, fnd⟩, hi, hst⟩;dsimp only at hi hst ⊢;refine zSG ?_;refine TL.sp Kk (fun q16 => ?_) (fun q16 => ?_)
 ·refine zET (zS (zc (zk (zT (zS (zB (zSG ?_)))))));have hi17 : i < es.length := by omega
  obtain ⟨x17, hx17⟩ := Ko hi17;obtain ⟨b17, o17, hA17, hbb17, hc17⟩ := hr.ad (by omega) (by decide);refine TL.w rfl (gA (i := i) Tryz.underlying24 Kz rfl rfl rfl rfl hA17 (by omega)) ?_;refine TL.v (gR KV Kau Kz hbb17 hx17 hc17) ?_;refine TL.al Kav fun g11 => ?_;refine TL.pstore (k := 0) (vs := x17.cells) rfl rfl rfl rfl rfl rfl rfl Kz (KV.one _) (by show 5 <= 5; decide) (L' := [.blk g11 102 x17.cells, .blk g8 102 bst.cells, .blk g6 102 En.zero.cells, .blk g3 26 [.slice A0 es.length c0]]) rfl ?_;refine zET (zS ?_)
  cases fnd with
  | true =>
   refine zG (TL.v (gF Kbr) ?_);refine TL.v (gL 0 Kb) ?_;refine TL.mv ?_;refine TL.sp KaB (fun q22 => ?_) (fun q22 => ?_)
   ·refine TL.rn 2 rfl (TL.ov (gF Kbh) ?_);refine TL.ov (gL 0 Kb) ?_;refine TL.gu ?_;refine TL.sp Kk (fun q27 => ?_) (fun q27 => ?_)
    ·refine TL.rn 5 rfl (TL.ov (gF KaV) ?_);refine TL.ov (gF Kbk) ?_;refine TL.ov (gL 0 Kb) ?_;refine TL.ov (gF KaV) ?_;refine TL.ov (gF Kbk) ?_;refine TL.ov (gL 1 Kb) ?_;refine TL.gu ?_;refine TL.sp KK (fun q39 => ?_) (fun q39 => ?_)
     ·refine TL.rn 3 rfl (TL.ov (gF KaV) ?_);refine TL.ov (gV 0 (.agg #[.int .u32 x17.addr, .int .i64 x17.len]) Kbc Kba) ?_;refine TL.rn 1 rfl (TL.gu ?_);refine TL.pS rfl Ki2 (fun w1 hw => Kkk x17.addr x17.len a w1) (fun h46 => ?_) (fun h46 => ?_)
      ·refine TL.pk ?_;refine zET (zc (zG (TL.v (gV 0 (.agg (x17.cells).toArray) Kau Kz) ?_)));refine TL.pstore (k := 1) (vs := x17.cells) rfl rfl rfl rfl rfl rfl rfl Kz (KV.one _) (by show 5 <= 5; decide) (L' := [.blk g11 102 x17.cells, .blk g8 102 x17.cells, .blk g6 102 En.zero.cells, .blk g3 26 [.slice A0 es.length c0]]) rfl ?_;refine TL.as_ ?_;refine zE (zN (zT (zG (TL.v (gD ((i + 1 : Nat) : Int)) ?_))));refine TL.mv ?_;refine zE ?_;exact TX.rd (⟨(i + 1, x17, true), by dsimp only; omega, by rw [KaX hx17 hst, if_pos (by simp [KaH, q16, q22, q27, q39, h46])]⟩) (by show es.length - (i + 1) < es.length - i; omega) (fun w1 hw => hw.pk [1, 2, 3])
      refine TL.pk ?_;refine zET (zd (zk (zN (zT (zG (TL.v (gD ((i + 1 : Nat) : Int)) ?_))))));refine TL.mv ?_;refine zE ?_;exact TX.rd (⟨(i + 1, bst, true), by dsimp only; omega, by rw [KaX hx17 hst, if_neg (by simp [KaH, q16, q22, q27, q39, h46])]⟩) (by show es.length - (i + 1) < es.length - i; omega) (fun w1 hw => hw.pk [1, 2, 3])
     refine TL.rn 8 rfl (zET (zd (zk (zN (zT (zG (TL.v (gD ((i + 1 : Nat) : Int)) ?_)))))));refine TL.mv ?_;refine zE ?_;exact TX.rd (⟨(i + 1, bst, true), by dsimp only; omega, by rw [KaX hx17 hst, if_neg (by simp [KaH, q16, q22, q27, q39])]⟩) (by show es.length - (i + 1) < es.length - i; omega) (fun w1 hw => hw.pk [1, 2, 3])
    refine TL.rn 5 rfl ?_;refine TL.offU rfl rfl rfl rfl rfl ?_;refine TL.offU rfl rfl rfl rfl rfl ?_;refine TL.offU rfl rfl rfl rfl rfl ?_;refine TL.offU rfl rfl rfl rfl rfl ?_;refine TL.offU rfl rfl rfl rfl rfl ?_;refine TL.offU rfl rfl rfl rfl rfl ?_;refine TL.offU rfl rfl rfl rfl rfl ?_;refine TL.rn 8 rfl (zET (zd (zk (zN (zT (zG (TL.v (gD ((i + 1 : Nat) : Int)) ?_)))))));refine TL.mv ?_;refine zE ?_;exact TX.rd (⟨(i + 1, bst, true), by dsimp only; omega, by rw [KaX hx17 hst, if_neg (by simp [KaH, q16, q22, q27])]⟩) (by show es.length - (i + 1) < es.length - i; omega) (fun w1 hw => hw.pk [1, 2, 3])
   refine TL.rn 10 rfl ?_;refine TL.offU rfl rfl rfl rfl rfl ?_;refine TL.offU rfl rfl rfl rfl rfl ?_;refine TL.offU rfl rfl rfl rfl rfl ?_;refine TL.offU rfl rfl rfl rfl rfl ?_;refine TL.offU rfl rfl rfl rfl rfl ?_;refine TL.offU rfl rfl rfl rfl rfl ?_;refine TL.offU rfl rfl rfl rfl rfl ?_;refine TL.rn 8 rfl (zET (zd (zk (zN (zT (zG (TL.v (gD ((i + 1 : Nat) : Int)) ?_)))))));refine TL.mv ?_;refine zE ?_;exact TX.rd (⟨(i + 1, bst, true), by dsimp only; omega, by rw [KaX hx17 hst, if_neg (by simp [KaH, q16, q22])]⟩) (by show es.length - (i + 1) < es.length - i; omega) (fun w1 hw => hw.pk [1, 2, 3])
  | false =>
   refine zG (TL.v (gF Kbr) ?_);refine TL.v (gL 0 Kb) ?_;refine TL.mv ?_;refine TL.sp KaB (fun q22 => ?_) (fun q22 => ?_)
   ·refine TL.rn 2 rfl (TL.ov (gF Kbh) ?_);refine TL.ov (gL 0 Kb) ?_;refine TL.gu ?_;refine TL.sp Kk (fun q27 => ?_) (fun q27 => ?_)
    ·refine TL.rn 15 rfl (TL.ov (gF KaV) ?_);refine TL.ov (gV 0 (.agg #[.int .u32 x17.addr, .int .i64 x17.len]) Kbc Kba) ?_;refine TL.rn 1 rfl (TL.gu ?_);refine TL.pS rfl Ki2 (fun w1 hw => Kkk x17.addr x17.len a w1) (fun h46 => ?_) (fun h46 => ?_)
     ·refine TL.pk ?_;refine zET (zc (zG (TL.v (gV 0 (.agg (x17.cells).toArray) Kau Kz) ?_)));refine TL.pstore (k := 1) (vs := x17.cells) rfl rfl rfl rfl rfl rfl rfl Kz (KV.one _) (by show 5 <= 5; decide) (L' := [.blk g11 102 x17.cells, .blk g8 102 x17.cells, .blk g6 102 En.zero.cells, .blk g3 26 [.slice A0 es.length c0]]) rfl ?_;refine TL.as_ ?_;refine zE (zN (zT (zG (TL.v (gD ((i + 1 : Nat) : Int)) ?_))));refine TL.mv ?_;refine zE ?_;exact TX.rd (⟨(i + 1, x17, true), by dsimp only; omega, by rw [KaX hx17 hst, if_pos (by simp [KaH, q16, q22, q27, h46])]⟩) (by show es.length - (i + 1) < es.length - i; omega) (fun w1 hw => hw.pk [1, 2, 3])
     refine TL.pk ?_;refine zET (zd (zk (zN (zT (zG (TL.v (gD ((i + 1 : Nat) : Int)) ?_))))));refine TL.mv ?_;refine zE ?_;exact TX.rd (⟨(i + 1, bst, false), by dsimp only; omega, by rw [KaX hx17 hst, if_neg (by simp [KaH, q16, q22, q27, h46])]⟩) (by show es.length - (i + 1) < es.length - i; omega) (fun w1 hw => hw.pk [1, 2, 3])
    refine TL.rn 5 rfl ?_;refine TL.offU rfl rfl rfl rfl rfl ?_;refine TL.offU rfl rfl rfl rfl rfl ?_;refine TL.offU rfl rfl rfl rfl rfl ?_;refine TL.offU rfl rfl rfl rfl rfl ?_;refine TL.offU rfl rfl rfl rfl rfl ?_;refine TL.offU rfl rfl rfl rfl rfl ?_;refine TL.offU rfl rfl rfl rfl rfl ?_;refine TL.rn 8 rfl (zET (zd (zk (zN (zT (zG (TL.v (gD ((i + 1 : Nat) : Int)) ?_)))))));refine TL.mv ?_;refine zE ?_;exact TX.rd (⟨(i + 1, bst, false), by dsimp only; omega, by rw [KaX hx17 hst, if_neg (by simp [KaH, q16, q22, q27])]⟩) (by show es.length - (i + 1) < es.length - i; omega) (fun w1 hw => hw.pk [1, 2, 3])
   refine TL.rn 10 rfl ?_;refine TL.offU rfl rfl rfl rfl rfl ?_;refine TL.offU rfl rfl rfl rfl rfl ?_;refine TL.offU rfl rfl rfl rfl rfl ?_;refine TL.offU rfl rfl rfl rfl rfl ?_;refine TL.offU rfl rfl rfl rfl rfl ?_;refine TL.offU rfl rfl rfl rfl rfl ?_;refine TL.offU rfl rfl rfl rfl rfl ?_;refine TL.rn 8 rfl (zET (zd (zk (zN (zT (zG (TL.v (gD ((i + 1 : Nat) : Int)) ?_)))))));refine TL.mv ?_;refine zE ?_;exact TX.rd (⟨(i + 1, bst, false), by dsimp only; omega, by rw [KaX hx17 hst, if_neg (by simp [KaH, q16, q22])]⟩) (by show es.length - (i + 1) < es.length - i; omega) (fun w1 hw => hw.pk [1, 2, 3])
 refine zET (zS (zd (zx (zX (zX (zM (zT (zSG (TL.v (gV 0 (.agg (bst.cells).toArray) Kau Kz) ?_)))))))));refine TL.mv ?_;refine TL.pstore (k := 1) (vs := bst.cells) rfl rfl rfl rfl rfl rfl rfl Kz (KV.one _) (by show 5 <= 5; decide) (L' := [.blk g8 102 bst.cells, .blk g6 102 bst.cells, .blk g3 26 [.slice A0 es.length c0]]) rfl ?_;refine TL.as_ ?_;refine zET (zr ?_);have hE : KaC es a t = (bst, fnd) := by rw [List.take_of_length_le (by omega)] at hst; exact hst
 exact KaZ (k := 1) (v := .bool fnd) Tryz.results189 rfl rfl rfl Tryz.underlying102 rfl rfl (fun w1 hw => ⟨by rw [hE], hw.bel⟩)
theorem KoE (A0 : Option Addr) (c0 : Nat) (es : List En) (a t : Int) (w : World) (hr : Kg w w.heap.size 5 A0 es.length (Ka En.cells es)) :
  Calls Tryz.prog 161 #[.agg #[.slice A0 es.length c0], .int .u32 a, .int .i64 t] w fun e w' => e = .returned (.tuple #[.agg (Kbz es a t).1.cells.toArray, .bool (Kbz es a t).2]) /\ Below w.heap.size w w' := by
 refine Kh Tryz.func161 rfl rfl rfl ?_ (Pm.start w);refine zSG ?_;refine TL.bx fun g3 => ?_;refine TL.al Kav fun g6 => ?_;refine TL.as_ ?_;refine zET (zS (zSG (TL.v (gV 1 (.agg #[.slice A0 es.length c0]) KX KH) ?_)));refine TL.pS rfl o84 (fun w1 hw => Ke6 A0 c0 es w1 (hr.up hw.bel)) (fun h9 => ?_) (fun h9 => ?_)
 ·refine TL.w rfl (K7 rfl rfl) ?_;refine zET (zd (zk (zT (zSG (TL.v (gV 1 (.agg #[.slice A0 es.length c0]) KX KH) ?_)))));refine TL.rn 2 rfl ?_;refine TL.p1 rfl KpH (fun w1 hw => Km0 A0 c0 es a t w1 (hr.up hw.bel) (Nat.le_trans (KlJ h9) (by decide))) ?_;refine TL.rn 2 rfl ?_;refine TL.pstore (k := 0) (vs := (KaC es a t).1.cells) rfl rfl rfl rfl rfl rfl rfl Kz (KV.one _) (by show 5 <= 5; decide) (L' := [.blk g6 102 (KaC es a t).1.cells, .blk g3 26 [.slice A0 es.length c0]]) rfl ?_;refine TL.as_ ?_;refine zET (zr ?_);have hE : Kbz es a t = KaC es a t := if_pos h9;exact KaZ (k := 0) (v := .bool ((KaC es a t).2)) Tryz.results161 rfl rfl rfl Tryz.underlying102 rfl rfl (fun w1 hw => ⟨by rw [hE], hw.bel⟩)
 refine TL.w rfl (K7 rfl rfl) ?_;refine zET (zc (zSG ?_));refine TL.w rfl (Kt (v := .agg #[.int .u32 0, .int .i64 0, .int .i64 0, .int .i64 0, .int .i64 0]) rfl rfl (fun w => KfR  w)) ?_;refine TL.pstore (k := 0) (vs := [.int .u32 0, .int .i64 0, .int .i64 0, .int .i64 0, .int .i64 0]) rfl rfl rfl rfl rfl rfl rfl Kz KgD (by show 5 <= 5; decide) (L' := [.blk g6 102 [.int .u32 0, .int .i64 0, .int .i64 0, .int .i64 0, .int .i64 0], .blk g3 26 [.slice A0 es.length c0]]) rfl ?_;refine TL.as_ ?_;refine zET (zr (zR ?_));have hE : Kbz es a t = (En.zero, false) := if_neg (by rw [h9]; decide);exact KaZ (k := 0) (v := .bool false) Tryz.results161 rfl rfl rfl Tryz.underlying102 rfl rfl (fun w1 hw => ⟨by rw [hE]; rfl, hw.bel⟩)
theorem KoW (A0 : Option Addr) (c0 : Nat) (es : List En) (a t : Int) (w : World) (hr : Kg w w.heap.size 5 A0 es.length (Ka En.cells es)) :
  Calls Tryz.prog 127 #[.agg #[.slice A0 es.length c0], .int .u32 a, .int .i64 t] w fun e w' => e = .returned (.int .i64 (Kag es a t)) /\ Below w.heap.size w w' := by
 refine Kh Tryz.func127 rfl rfl rfl ?_ (Pm.start w);refine zSG ?_;refine TL.bx fun g3 => ?_;refine TL.as_ ?_;refine zET (zSG (TL.v (gV 0 (.agg #[.slice A0 es.length c0]) KX KH) ?_));refine TL.rn 2 rfl ?_;refine TL.p1 rfl KpL (fun w1 hw => KoE A0 c0 es a t w1 (hr.up hw.bel)) ?_;refine TL.rn 3 rfl ?_;refine TL.al Kav fun g7 => ?_;refine TL.pstore (k := 0) (vs := (Kbz es a t).1.cells) rfl rfl rfl rfl rfl rfl rfl Kz (KV.one _) (by show 5 <= 5; decide) (L' := [.blk g7 102 (Kbz es a t).1.cells, .blk g3 26 [.slice A0 es.length c0]]) rfl ?_;refine TL.as_ ?_;refine zET (zSG (TL.v (gF KcJ) ?_));refine TL.v (gL 0 Kb) ?_;refine TL.as_ ?_;refine zET (zr ?_);exact Kc Tryz.results127 rfl (fun w1 hw => ⟨rfl, hw.bel⟩)
set_option maxRecDepth 20000
def dtA (f : Rs -> Int) (prov t : Int) (a : Rs) : Prop := a.back < t /\ f a ≠ 0 /\ f a ≠ prov
def dtB (f : Rs -> Int) (prov t : Int) (a b : Rs) : Prop := t <= b.at_ /\ f b = prov /\ b.src ≠ a.src
def DtF (f : Rs -> Int) (y : List Rs) (prov t : Int) : Prop := ∃ a ∈ y, dtA f prov t a /\ ∃ b ∈ y, dtB f prov t a b
theorem KaD {α : Type} {y : List α} {P : α -> Prop} {i : Nat} {x : α} (h : ∀ z ∈ y.take i, ¬ P z) (hx : y[i]? = some x) (hn : ¬ P x) : ∀ z ∈ y.take (i + 1), ¬ P z := fun z hz => by
 rw [List.take_add_one, hx, List.mem_append] at hz;rcases hz with h1 | h1
 ·exact h z h1
 rw [show z = x by simpa using h1]; exact hn
theorem Kdo {α β : Type} {f : α -> β} {l : List α} {m : List β} {i : Nat} {x : α} {v : β} (hm : m = l.map f) (hx : l[i]? = some x) (hv : m[i]? = some v) : v = f x := by
 subst hm;rw [List.getElem?_map, hx] at hv;exact (Option.some.inj hv).symm
theorem KcL {α β : Type} {f : α -> β} {l : List α} {m : List β} {i : Nat} {x : α} (hx : l[i]? = some x) (h : (l.take i).map f = m) : (l.take (i + 1)).map f = m ++ [f x] := by
 rw [List.take_add_one, hx, List.map_append, h]; rfl
theorem KbV (a0_0 : Int) (w : World) : (Instr.buildSlice 106 1 #[(0, .int .i64 a0_0)]).run Tryz.prog w = .ok (.slice (some ⟨w.heap.size, 0, none⟩) 1 1) (w.alloc (.cells [.int .i64 a0_0].toArray 3)) := by kernel_rfl
theorem KbM : Elem Tryz.prog 106 3 1 8 := Elem.mk' Tryz.underlying106 (z := .int .i64 0) (by kernel_rfl) rfl (by omega) (by omega)
theorem KiC (A0 : Option Addr) (c0 : Nat) (l : List Rs) (A1 : Option Addr) (c1 : Nat) (es : List En) (w : World) (hr : Kg w w.heap.size 17 A0 l.length (Ka Rs.cells l)) (hl1 : l.length <= 100000) (hr1 : Kg w w.heap.size 5 A1 es.length (Ka En.cells es)) :
  Calls Tryz.prog 82 #[.slice A0 l.length c0, .agg #[.slice A1 es.length c1]] w fun e w' => ∃ x : {y : (Option Addr × Nat) × List Int // y.2 = l.map (fun r : Rs => Kag es r.src r.back) /\ y.2.length <= y.1.2 /\ y.1.2 <= maxLen}, e = .returned (.slice x.1.1.1 x.1.2.length x.1.1.2) /\ Pm w [.row (.slice x.1.1.1 x.1.2.length x.1.1.2) 3 1 x.1.2.length (Ka (ic .i64) x.1.2)] w' := by
 refine Kh Tryz.func82 rfl rfl rfl ?_ (Pm.start w);refine zSG ?_;refine TL.bx fun g3 => ?_;refine TL.as_ ?_;refine zET (zSG (TL.as_ ?_));refine zET (zS (zSG (TL.mv ?_)));refine TL.v (gN Tryz.underlying23) ?_;refine TL.mv ?_;refine zET (zB (TC.nilrow 3 1 ?_));refine TC.lp (α := {y : Nat × (Option Addr × Nat) × List Int // y.1 <= l.length /\ ((l.take y.1).map (fun r : Rs => Kag es r.src r.back) = y.2.2) /\ y.2.2.length <= y.1 /\ y.2.2.length <= y.2.1.2 /\ y.2.1.2 <= maxLen}) [3, 8, 9] rfl (fun y => [(10, .int .i64 ((y.1.1 : Nat) : Int)), (5, .slice y.1.2.1.1 y.1.2.2.length y.1.2.1.2)]) (fun y => Pm w [.row (.slice y.1.2.1.1 y.1.2.2.length y.1.2.1.2) 3 1 y.1.2.2.length (Ka (ic .i64) y.1.2.2), .blk g3 26 [.slice A1 es.length c1]]) (fun y => l.length - y.1.1) (⟨(0, (none, 0), []), Nat.zero_le _, rfl, Nat.le_refl _, Nat.le_refl _, Nat.zero_le _⟩) (fun w1 hw => hw) ?_;rintro ⟨⟨i, ⟨Ao, co⟩, out⟩, hi, hout, houtl, houtc, houtm⟩;dsimp only at hi hout houtl houtc houtm ⊢;refine zSG ?_;refine TL.sp Kk (fun q11 => ?_) (fun q11 => ?_)
 ·refine zET (zS (zc (zk (zT (zS (zB (zSG ?_)))))));have hi12 : i < l.length := by omega
  obtain ⟨x12, hx12⟩ := Ko hi12;obtain ⟨b12, o12, hA12, hbb12, hc12⟩ := hr.ad (by omega) (by decide);refine TL.w rfl (gA (i := i) Tryz.underlying23 Kd rfl rfl rfl rfl hA12 (by omega)) ?_;refine TL.v (gR Ke Ku Kd hbb12 hx12 hc12) ?_;refine TL.al Kab fun g7 => ?_;refine TL.pstore (k := 0) (vs := x12.cells) rfl rfl rfl rfl rfl rfl rfl Kd (Ke.one _) (by show 17 <= 17; decide) (L' := [.blk g7 65 x12.cells, .row (.slice Ao out.length co) 3 1 out.length (Ka (ic .i64) out), .blk g3 26 [.slice A1 es.length c1]]) rfl ?_;refine zET (zG (TL.mv ?_));refine TL.v (gV 2 (.agg #[.slice A1 es.length c1]) KX KH) ?_;refine TL.v (gF KP) ?_;refine TL.v (gF KbC) ?_;refine TL.v (gL 0 KO) ?_;refine TL.v (gF Kao) ?_;refine TL.v (gL 0 Kb) ?_;refine TL.p1 rfl Klc (fun w1 hw => KoW A1 c1 es x12.src x12.back w1 (hr1.up hw.bel)) ?_;refine TL.prowS (e := 3) (size := 1) (cs := Ka (ic .i64) [Kag es x12.src x12.back]) rfl rfl rfl rfl rfl (fun w => KbV _ w) (by decide) rfl (fun g22 => ?_);refine TL.appendT (k := 2) rfl rfl rfl rfl Tryz.underlying106 KbM rfl rfl rfl (fun w1 hw => KN hw (k := 0) rfl) (KA (KQ .i64) _) (by show _ * 8 <= _; omega) ((out ++ [Kag es x12.src x12.back]).length) (by rw [List.length_append]; rfl) (Ka (ic .i64) (out ++ [Kag es x12.src x12.back])) ((KF _ _).symm) (fun A23 c23 hA231 hA232 => ?_);refine TL.as_ ?_;refine zE (zN (zT (zG (TL.v (gD ((i + 1 : Nat) : Int)) ?_))));refine TL.mv ?_;refine zE ?_;exact TX.rd (⟨(i + 1, (A23, c23), out ++ [Kag es x12.src x12.back]), by dsimp only; omega, KcL (f := (fun r : Rs => Kag es r.src r.back)) hx12 hout, by dsimp only; rw [List.length_append]; show out.length + 1 <= _; omega, hA231, hA232⟩) (by show l.length - (i + 1) < l.length - i; omega) (fun w1 hw => hw.pk [2, 3])
 refine zET (zS (zd (zx (zX (zX (zM (zT (zSG (TL.rn 2 rfl (zET (zr ?_)))))))))));exact Kc Tryz.results82 rfl (fun w1 hw => ⟨⟨((Ao, co), out), by rw [List.take_of_length_le (by omega)] at hout; exact hout.symm, by dsimp only; omega, houtm⟩, rfl, hw.pick [0] (by decide) rfl⟩)
theorem Khz (A0 : Option Addr) (c0 : Nat) (l : List Rs) (A1 : Option Addr) (c1 : Nat) (ps : List Int) (f : Rs -> Int) (prov t : Int) (w : World) (hr : Kg w w.heap.size 17 A0 l.length (Ka Rs.cells l)) (hl1 : l.length <= 100000) (hr1 : Kg w w.heap.size 1 A1 ps.length (Ka (ic .i64) ps)) (hps : ps = l.map f) :
  Calls Tryz.prog 81 #[.slice A0 l.length c0, .slice A1 ps.length c1, .int .i64 prov, .int .i64 t] w fun e w' => ∃ x : {b : Bool // b = true ↔ DtF f l prov t}, e = .returned (.bool x.1) /\ Below w.heap.size w w' := by
 have hpl : ps.length = l.length := by rw [hps, List.length_map]
 refine Kh Tryz.func81 rfl rfl rfl ?_ (Pm.start w);refine zSG (TL.as_ ?_);refine zET (zS (zSG (TL.mv ?_)));refine TL.v (gN Tryz.underlying23) ?_;refine TL.mv ?_;refine zET (zB ?_);refine TC.lp (α := {i : Nat // i <= l.length /\ ∀ z ∈ l.take i, ¬ (dtA f prov t z /\ ∃ b ∈ l, dtB f prov t z b)}) [0, 1, 2, 3, 13, 14] rfl (fun y => [(15, .int .i64 ((y.1 : Nat) : Int))]) (fun y => Pm w []) (fun y => l.length - y.1) (⟨0, Nat.zero_le _, fun z hz => by rw [List.take_zero] at hz; cases hz⟩) (fun w1 hw => hw) ?_;rintro ⟨i, hi, hma⟩
 try dsimp only at hi hma ⊢
 refine zSG ?_;refine TL.sp Kk (fun q16 => ?_) (fun q16 => ?_)
 ·refine zET (zS (zc (zk (zT (zS (zB (zSG (TL.mv ?_))))))));have hi18 : i < l.length := by omega
  obtain ⟨x18, hx18⟩ := Ko hi18;obtain ⟨b18, o18, hA18, hbb18, hc18⟩ := hr.ad (by omega) (by decide);refine TL.w rfl (gA (i := i) Tryz.underlying23 Kd rfl rfl rfl rfl hA18 (by omega)) ?_;refine TL.v (gR Ke Ku Kd hbb18 hx18 hc18) ?_;refine TL.al Kab fun g10 => ?_;refine TL.as_ ?_;refine TL.pstore (k := 0) (vs := x18.cells) rfl rfl rfl rfl rfl rfl rfl Kd (Ke.one _) (by show 17 <= 17; decide) (L' := [.blk g10 65 x18.cells]) rfl ?_;refine zET (zS (zSG (TL.v (gF Kao) ?_)));refine TL.v (gL 0 Kb) ?_;refine TL.mv ?_;refine TL.sp K3 (fun q23 => ?_) (fun q23 => ?_)
  ·refine TL.rn 15 rfl (zET (zc (zx (zX (zM (zT (zG (TL.v (gD ((i + 1 : Nat) : Int)) ?_))))))));refine TL.mv ?_;refine zE ?_;exact TX.rd (⟨i + 1, by omega, KaD hma hx18 (fun h => by have := h.1.1; omega)⟩) (by show l.length - (i + 1) < l.length - i; omega) (fun w1 hw => hw.pk [])
  refine TL.rn 3 rfl (TL.gu ?_);have hi27 : i < ps.length := by omega
  obtain ⟨x27, hx27⟩ := Ko hi27;obtain ⟨b27, o27, hA27, hbb27, hc27⟩ := hr1.ad (by omega) (by decide);refine TL.w rfl (gA (i := i) Tryz.underlying106 Ky rfl rfl rfl rfl hA27 (by omega)) ?_;refine TL.gu ?_;refine TL.w rfl (Kw (v := .int .i64 x27) rfl rfl Kb (fun w1 hw => (hw.bel.cell hbb27).trans <| Kcr (KQ .i64) hx27 hc27 0 _ rfl)) ?_;refine TL.gu ?_;refine TL.sp Kx (fun q29 => ?_) (fun q29 => ?_)
  ·refine TL.rn 9 rfl (zET (zc (zx (zX (zM (zT (zG (TL.v (gD ((i + 1 : Nat) : Int)) ?_))))))));refine TL.mv ?_;refine zE ?_;exact TX.rd (⟨i + 1, by omega, KaD hma hx18 (fun h => h.1.2.1 (by rw [<- Kdo hps hx18 hx27]; exact q29))⟩) (by show l.length - (i + 1) < l.length - i; omega) (fun w1 hw => hw.pk [])
  refine TL.rn 4 rfl (TL.gu ?_);refine TL.w rfl (gA (i := i) Tryz.underlying106 Ky rfl rfl rfl rfl hA27 (by omega)) ?_;refine TL.gu ?_;refine TL.w rfl (Kw (v := .int .i64 x27) rfl rfl Kb (fun w1 hw => (hw.bel.cell hbb27).trans <| Kcr (KQ .i64) hx27 hc27 0 _ rfl)) ?_;refine TL.rn 1 rfl (TL.gu ?_);refine TL.sp Kx (fun q37 => ?_) (fun q37 => ?_)
  ·refine TL.pk ?_;refine zET (zc (zx (zX (zM (zT (zG (TL.v (gD ((i + 1 : Nat) : Int)) ?_)))))));refine TL.mv ?_;refine zE ?_;exact TX.rd (⟨i + 1, by omega, KaD hma hx18 (fun h => h.1.2.2 (by rw [<- Kdo hps hx18 hx27]; exact q37))⟩) (by show l.length - (i + 1) < l.length - i; omega) (fun w1 hw => hw.pk [])
  refine TL.pk ?_;refine zET (zd (zk (zT (zSG (TL.mv ?_)))));refine TL.v (gN Tryz.underlying23) ?_;refine TL.mv ?_;refine zET (zB ?_);refine TC.lp (α := {k : Nat // k <= l.length /\ ∀ z ∈ l.take k, ¬ (dtB f prov t x18 z)}) [0, 1, 2, 3, 10, 13, 14, 15, 39, 40] rfl (fun y => [(41, .int .i64 ((y.1 : Nat) : Int))]) (fun y => Pm w [.blk g10 65 x18.cells]) (fun y => l.length - y.1) (⟨0, Nat.zero_le _, fun z hz => by rw [List.take_zero] at hz; cases hz⟩) (fun w1 hw => hw) ?_;rintro ⟨k, hk, hmb⟩
  try dsimp only at hk hmb ⊢
  refine zSG ?_;refine TL.sp Kk (fun q42 => ?_) (fun q42 => ?_)
  ·refine zET (zS (zc (zk (zT (zS (zB (zSG (TL.mv ?_))))))));have hi44 : k < l.length := by omega
   obtain ⟨x44, hx44⟩ := Ko hi44;obtain ⟨b44, o44, hA44, hbb44, hc44⟩ := hr.ad (by omega) (by decide);refine TL.w rfl (gA (i := k) Tryz.underlying23 Kd rfl rfl rfl rfl hA44 (by omega)) ?_;refine TL.v (gR Ke Ku Kd hbb44 hx44 hc44) ?_;refine TL.al Kab fun g12 => ?_;refine TL.as_ ?_;refine TL.pstore (k := 0) (vs := x44.cells) rfl rfl rfl rfl rfl rfl rfl Kd (Ke.one _) (by show 17 <= 17; decide) (L' := [.blk g12 65 x44.cells, .blk g10 65 x18.cells]) rfl ?_;refine zET (zSG (TL.v (gF Kal) ?_));refine TL.v (gL 0 Kb) ?_;refine TL.mv ?_;refine TL.sp K3 (fun q49 => ?_) (fun q49 => ?_)
   ·refine TL.rn 3 rfl (TL.gu ?_);have hi53 : k < ps.length := by omega
    obtain ⟨x53, hx53⟩ := Ko hi53;obtain ⟨b53, o53, hA53, hbb53, hc53⟩ := hr1.ad (by omega) (by decide);refine TL.w rfl (gA (i := k) Tryz.underlying106 Ky rfl rfl rfl rfl hA53 (by omega)) ?_;refine TL.gu ?_;refine TL.w rfl (Kw (v := .int .i64 x53) rfl rfl Kb (fun w1 hw => (hw.bel.cell hbb53).trans <| Kcr (KQ .i64) hx53 hc53 0 _ rfl)) ?_;refine TL.rn 1 rfl (TL.gu ?_);refine TL.sp Kx (fun q56 => ?_) (fun q56 => ?_)
    ·refine TL.rn 2 rfl (TL.ov (gF KP) ?_);refine TL.ov (gF KbC) ?_;refine TL.ov (gL 0 KO) ?_;refine TL.ov (gF KP) ?_;refine TL.ov (gF KbC) ?_;refine TL.ov (gL 1 KO) ?_;refine TL.gu ?_;refine TL.sp K5 (fun q65 => ?_) (fun q65 => ?_)
     ·refine TL.pk ?_;refine zET (zc (zSG (TL.as_ ?_)));refine zET (zr (zRR (zR (TX.in_ret (zRR (zR (zRR ?_)))))));have hit : DtF f l prov t := ⟨x18, List.mem_of_getElem? hx18, ⟨by omega, by rw [<- Kdo hps hx18 hx27]; exact q29, by rw [<- Kdo hps hx18 hx27]; exact q37⟩, x44, List.mem_of_getElem? hx44, by omega, by rw [<- Kdo hps hx44 hx53]; exact q56, q65⟩;exact Kc Tryz.results81 rfl (fun w1 hw => ⟨⟨true, fun _ => hit, fun _ => rfl⟩, rfl, hw.bel⟩)
     refine TL.pk ?_;refine zET (zd (zk (zN (zT (zG (TL.v (gD ((k + 1 : Nat) : Int)) ?_))))));refine TL.mv ?_;refine zE ?_;exact TX.rd (⟨k + 1, by omega, KaD hmb hx44 (fun h => q65 h.2.2)⟩) (by show l.length - (k + 1) < l.length - k; omega) (fun w1 hw => hw.pk [1])
    refine TL.rn 10 rfl (zET (zd (zk (zN (zT (zG (TL.v (gD ((k + 1 : Nat) : Int)) ?_)))))));refine TL.mv ?_;refine zE ?_;exact TX.rd (⟨k + 1, by omega, KaD hmb hx44 (fun h => q56 (by rw [Kdo hps hx44 hx53]; exact h.2.1))⟩) (by show l.length - (k + 1) < l.length - k; omega) (fun w1 hw => hw.pk [1])
   refine TL.rn 17 rfl (zET (zd (zk (zN (zT (zG (TL.v (gD ((k + 1 : Nat) : Int)) ?_)))))));refine TL.mv ?_;refine zE ?_;exact TX.rd (⟨k + 1, by omega, KaD hmb hx44 (fun h => by have := h.1; omega)⟩) (by show l.length - (k + 1) < l.length - k; omega) (fun w1 hw => hw.pk [1])
  refine zET (zS (zd (zx (zX (zX (zM (zN (zT (zG (TL.v (gD ((i + 1 : Nat) : Int)) ?_))))))))));refine TL.mv ?_;refine zE ?_;exact TX.rd (⟨i + 1, by omega, KaD hma hx18 (fun h => by obtain ⟨_, b, hb, h2⟩ := h; rw [List.take_of_length_le (by omega)] at hmb; exact hmb b hb h2)⟩) (by show l.length - (i + 1) < l.length - i; omega) (fun w1 hw => hw.pk [])
 refine zET (zS (zd (zx (zX (zX (zM (zT (zSG (TL.as_ ?_)))))))));refine zET (zr ?_)
 have hno : ¬ DtF f l prov t := by
  rintro ⟨a, h1, h2⟩;rw [List.take_of_length_le (by omega)] at hma;exact hma a h1 h2
 exact Kc Tryz.results81 rfl (fun w1 hw => ⟨⟨false, fun h => (by cases h), fun h => absurd h hno⟩, rfl, hw.bel⟩)
set_option maxRecDepth 20000
def DtP (es : List En) (l : List Rs) (p : Rp) : Prop := p.kind = 2 /\ ∃ y, Kaq l p.trc p.flow y /\ DtF (fun r : Rs => Kag es r.src r.back) (atL y p.ttl) p.prov p.at_
theorem Km4 (g o : Nat) (w : World) : (Instr.fieldAt 34 (.pointer (some ⟨g, o, none⟩)) 1).run Tryz.prog w = .ok (.pointer (some ⟨g, o + 1, none⟩)) w := by kernel_rfl
theorem KnK (w : World) : (isAgg 32).run Tryz.prog w = .ok true w := rfl
theorem Klh (w : World) : (sizeOf 32).run Tryz.prog w = .ok 3 w := rfl
theorem Knt (g o : Nat) (w : World) : (Instr.fieldAt 34 (.pointer (some ⟨g, o, none⟩)) 2).run Tryz.prog w = .ok (.pointer (some ⟨g, o + 4, none⟩)) w := by kernel_rfl
theorem Kdw (w : World) : (isAgg 3).run Tryz.prog w = .ok false w := rfl
theorem KkZ (g o : Nat) (w : World) : (Instr.fieldAt 34 (.pointer (some ⟨g, o, none⟩)) 3).run Tryz.prog w = .ok (.pointer (some ⟨g, o + 5, none⟩)) w := by kernel_rfl
theorem Kil (g o : Nat) (w : World) : (Instr.fieldAt 34 (.pointer (some ⟨g, o, none⟩)) 0).run Tryz.prog w = .ok (.pointer (some ⟨g, o + 0, none⟩)) w := by kernel_rfl
theorem Kn5 (w : World) : (isAgg 26).run Tryz.prog w = .ok true w := rfl
theorem KoN (w : World) : (sizeOf 26).run Tryz.prog w = .ok 1 w := rfl
theorem KmJ (g o : Nat) (w : World) : (Instr.fieldAt 34 (.pointer (some ⟨g, o, none⟩)) 5).run Tryz.prog w = .ok (.pointer (some ⟨g, o + 7, none⟩)) w := by kernel_rfl
theorem Kmw (g o : Nat) (w : World) : (Instr.fieldAt 34 (.pointer (some ⟨g, o, none⟩)) 4).run Tryz.prog w = .ok (.pointer (some ⟨g, o + 6, none⟩)) w := by kernel_rfl
theorem KpX (A0 : Option Addr) (c0 : Nat) (l : List Rs) (A1 : Option Addr) (c1 : Nat) (es : List En) (p : Rp) (w : World) (hr : Kg w w.heap.size 17 A0 l.length (Ka Rs.cells l)) (hl1 : l.length <= 100000) (hok : ∀ r ∈ l, r.Ok) (hr1 : Kg w w.heap.size 5 A1 es.length (Ka En.cells es)) :
  Calls Tryz.prog 35 #[.slice A0 l.length c0, .agg #[.slice A1 es.length c1], .agg p.cells.toArray] w fun e w' => ∃ x : {b : Bool // b = true ↔ DtP es l p}, e = .returned (.bool x.1) /\ Below w.heap.size w w' := by
 refine Kh Tryz.func35 rfl rfl rfl ?_ (Pm.start w);refine zSG ?_;refine TL.bx fun g4 => ?_;refine TL.bx fun g5 => ?_;refine TL.as_ ?_;refine zET (zS (TC.hd 10 (Pm w [.blk g5 34 p.cells, .blk g4 26 [.slice A1 es.length c1]]) (fun w1 hw => hw) fun hS => ?_));refine TH.t 0 rfl (Ki rfl rfl) hS ?_;refine TH.t 1 rfl (gF Km4) hS ?_;refine TH.t 2 rfl (gV 0 (.agg #[.int .i64 p.v, .int .u32 p.dst, .int .i64 p.proto]) KnK Klh) hS ?_;refine TH.t 3 rfl (gF Knt) hS ?_;refine TH.t 4 rfl (gL 0 Kdw) hS ?_;refine TH.t 6 rfl (gF KkZ) hS ?_;refine TH.t 7 rfl (gL 0 Kdw) hS ?_;refine TH.o 5 ?_;refine TL.pM _ _ rfl o73 (fun w1 hw => Kfb A0 c0 l p.trc p.flow w1 (hr.up hw.bel) hl1 hok) ?_;rintro ⟨⟨⟨R13, rc13⟩, st13⟩, hP13, hR131, hR132⟩;dsimp only [lC, lN];dsimp only at hP13 hR131 hR132 ⊢;refine zE ?_;refine TX.held (fun w1 hw => hw.pk [1, 2]) ?_;refine TH.o 8 ?_;refine TL.pM _ _ rfl o77 (fun w1 hw => KgY R13 rc13 st13 p.ttl w1 (KD hw (k := 0) rfl) (by have := hP13.le; omega)) ?_;rintro ⟨⟨⟨R16, rc16⟩, at16⟩, hP16, hR161, hR162⟩;dsimp only [lC, lN];dsimp only at hP16 hR161 hR162 ⊢;refine zE ?_;refine TX.he (fun w1 hw => hw.pk [2, 3]) fun hS => ?_;refine TH.t 9 rfl (K6 rfl rfl) hS ?_;refine TH.done (by kernel_rfl) ?_;refine zT (zS ?_);by_cases hk : p.kind = 2
 ·have hal : at16.length <= 100000 := by have := hP13.le; have := List.length_filter_le (fun r : Rs => r.ans && decide (r.ttl = p.ttl)) st13; rw [hP16]; unfold atL; omega
  refine TC.hd 15 (Pm w [.blk g5 34 p.cells, .blk g4 26 [.slice A1 es.length c1]]) (fun w1 hw => hw.pk [2, 3]) fun hS => ?_;refine TH.t 0 rfl (gF Kil) hS ?_;refine TH.t 1 rfl (gL 0 Kdw) hS ?_;refine TH.t 2 rfl (Ks rfl rfl rfl (fun w => KcO (hk) w)) hS ?_;refine TH.t 3 rfl (Ki rfl rfl) hS ?_;refine TH.g 4 rfl (Ki rfl rfl) (fun w1 hw => hw.pk [2, 3]) ?_;refine TH.g 5 rfl (Ki rfl rfl) (fun w1 hw => hw.pk [2, 3]) ?_;refine TH.g 6 rfl (gV 1 (.agg #[.slice A1 es.length c1]) Kn5 KoN) (fun w1 hw => hw.pk [2, 3]) ?_;refine TH.g 8 rfl (gF KmJ) (fun w1 hw => hw.pk [2, 3]) ?_;refine TH.g 9 rfl (gL 0 Kdw) (fun w1 hw => hw.pk [2, 3]) ?_;refine TH.g 10 rfl (gF Kmw) (fun w1 hw => hw.pk [2, 3]) ?_;refine TH.g 11 rfl (gL 0 Kdw) (fun w1 hw => hw.pk [2, 3]) ?_;refine TH.o 7 ?_;refine TL.gu ?_;refine TL.pM _ _ rfl o82 (fun w1 hw => KiC R16 rc16 at16 A1 c1 es w1 (KD hw (k := 0) rfl) (by omega) (hr1.up hw.bel)) ?_;rintro ⟨⟨⟨R24, rc24⟩, pv24⟩, hP24, hR241, hR242⟩;dsimp only [lC, lN];dsimp only at hP24 hR241 hR242 ⊢;refine zE ?_;refine TX.held (fun w1 hw => hw.pk [3, 4]) ?_;refine TH.o 12 ?_;refine TL.gu ?_;refine TL.pM (α := {b : Bool // b = true ↔ DtF (fun r : Rs => Kag es r.src r.back) at16 p.prov p.at_}) (fun x => .bool x.1) (fun x => []) rfl o81 (fun w1 hw => (Khz R16 rc16 at16 R24 rc24 pv24 (fun r : Rs => Kag es r.src r.back) p.prov p.at_ w1 (KD hw (k := 1) rfl) (by omega) (KD hw (k := 0) rfl) hP24).mono fun en w2 ⟨x, h1, h2⟩ => ⟨x, h1, (Pm.start w1).below h2⟩) ?_;rintro ⟨bd, hbd⟩;dsimp only [lC, lN];refine zE ?_;refine TX.he (fun w1 hw => hw.pk [3, 4]) fun hS => ?_;refine TH.t 13 rfl (K4 rfl rfl rfl) hS ?_;refine TH.t 14 rfl (K6 rfl rfl) hS ?_;refine TH.done (by kernel_rfl) ?_;refine zT (zr ?_);exact Kc Tryz.results35 rfl (fun w1 hw => ⟨⟨bd, hbd.trans ⟨fun h => ⟨hk, st13, hP13, by rw [<- hP16]; exact h⟩, fun ⟨_, y, h1, h2⟩ => by rw [hP16, hP13.eq h1]; exact h2⟩⟩, rfl, hw.bel⟩)
 have hal : at16.length <= 100000 := by have := hP13.le; have := List.length_filter_le (fun r : Rs => r.ans && decide (r.ttl = p.ttl)) st13; rw [hP16]; unfold atL; omega
 refine TC.hd 15 (Pm w [.blk g5 34 p.cells, .blk g4 26 [.slice A1 es.length c1]]) (fun w1 hw => hw.pk [2, 3]) fun hS => ?_;refine TH.t 0 rfl (gF Kil) hS ?_;refine TH.t 1 rfl (gL 0 Kdw) hS ?_;refine TH.t 2 rfl (Ks rfl rfl rfl (fun w => KgO (hk) w)) hS ?_;refine TH.t 3 rfl (Ki rfl rfl) hS ?_;refine TH.fo 4 (fun w1 hw => hw.pk [2, 3]) ?_;refine TH.fo 5 (fun w1 hw => hw.pk [2, 3]) ?_;refine TH.fo 6 (fun w1 hw => hw.pk [2, 3]) ?_;refine TH.fo 7 (fun w1 hw => hw.pk [2, 3]) ?_;refine TH.fo 8 (fun w1 hw => hw.pk [2, 3]) ?_;refine TH.fo 9 (fun w1 hw => hw.pk [2, 3]) ?_;refine TH.fo 10 (fun w1 hw => hw.pk [2, 3]) ?_;refine TH.fo 11 (fun w1 hw => hw.pk [2, 3]) ?_;refine TH.fo 12 (fun w1 hw => hw.pk [2, 3]) ?_;refine TH.tk 13 rfl rfl rfl (K4 rfl rfl rfl) (fun w1 hw => hw.pk [2, 3]) ?_;refine TH.tk 14 rfl rfl rfl (K6 rfl rfl) (fun w1 hw => hw.pk [2, 3]) ?_;refine TH.done (by kernel_rfl) ?_;refine zT (zr ?_);exact Kc Tryz.results35 rfl (fun w1 hw => ⟨⟨false, by simp [DtP, hk]⟩, rfl, hw.bel⟩)
open Go Go.RowKit Go.Shelf Go.Sort
def KcE (l l' : List Int) : Prop := l'.Perm l /\ l'.Pairwise (· <= ·)
theorem Kd5 {b n cap : Nat} {A : Option Addr} {l : List Int} {w : World} (hr : w.ownsRow b 3 1 (.slice A n cap) n (Ka (ic .i64) l)) (hl : l.length = n) (hn : n <= 1000000) :
    Calls Tryz.prog 124 #[.slice A n cap] w fun en w' => en = .returned (.tuple #[]) /\ ∃ l', KcE l l' /\ w'.ownsRow b 3 1 (.slice A n cap) n (Ka (ic .i64) l') /\ w.grownBy w' (Value.ownBlock (.slice A n cap)) := by
  rcases id hr.2 with ⟨hv, h0⟩ | ⟨q, cap', cur, hv, hb, hq, h1, h2, h3, h4⟩
  · cases hv;obtain rfl : l = [] := List.eq_nil_of_length_eq_zero (by omega);refine (AnyM.slices_Sort_int_none KkA none 0 w).mono fun en w' ⟨h5, h6⟩ => ⟨h5, [], ⟨List.Perm.refl _, List.Pairwise.nil⟩, ?_, ?_⟩
    · rw [h6]; exact hr
    · rw [h6]; exact ⟨rfl, rfl, rfl, Nat.le_refl _, fun _ _ _ => rfl⟩
  · cases hv;subst hl;have hqs : q < w.heap.size := (Array.getElem?_eq_some_iff.1 hq).1;rw [Kg5, Nat.mul_one] at h4;have hc := AnyM.slices_Sort_int KkA q 0 cap l w (holds_of_blockI hq h4) hqs (by omega);refine Calls.mono hc ?_;rintro en w' ⟨h5, m, os, hw⟩;have hlen : (l.mergeSort fun x y => decide (x <= y)).length = l.length := List.length_mergeSort l;refine ⟨h5, l.mergeSort fun x y => decide (x <= y), ⟨List.mergeSort_perm _ _, ?_⟩, ?_, ?_⟩
    · have := List.pairwise_mergeSort (le := fun x y : Int => decide (x <= y)) (fun a b c h1 h2 => by simp only [decide_eq_true_eq] at *; exact Int.le_trans h1 h2) (fun a b => by simp only [Bool.or_eq_true, decide_eq_true_eq]; exact Int.le_total a b) l;exact this.imp fun h => of_decide_eq_true h
    · rw [hw, Kg5];exact ownsRow_sortedI hlen hb hq h1 h2 h3
    · rw [hw]; exact grownBy_sortedI _
def eaL (l : List Rs) (t : Int) : List Int := (l.filter fun r => decide (r.back < t)).map fun r => r.back - r.at_
def laL (l : List Rs) (t : Int) : List Int := (l.filter fun r => !decide (r.back < t) && decide (t <= r.at_)).map fun r => r.back - r.at_
section
variable {l : List Rs} {t : Int} {i : Nat} {x : Rs} {o : List Int}
theorem KnE (hx : l[i]? = some x) (h : x.back < t) (ho : eaL (l.take i) t = o) : eaL (l.take (i + 1)) t = o ++ [x.back - x.at_] := by
  unfold eaL at ho ⊢;rw [List.take_add_one, hx, List.filter_append, List.map_append, ho];simp [h]
theorem Kh0 (hx : l[i]? = some x) (h : ¬ x.back < t) (ho : eaL (l.take i) t = o) : eaL (l.take (i + 1)) t = o := by
  unfold eaL at ho ⊢;rw [List.take_add_one, hx, List.filter_append, List.map_append, ho];simp [h]
theorem Klw (hx : l[i]? = some x) (h : ¬ x.back < t) (h2 : x.at_ >= t) (ho : laL (l.take i) t = o) : laL (l.take (i + 1)) t = o ++ [x.back - x.at_] := by
  unfold laL at ho ⊢;rw [List.take_add_one, hx, List.filter_append, List.map_append, ho];have : t <= x.at_ := h2;simp [h, this]
theorem Kj8 (hx : l[i]? = some x) (h : x.back < t \/ ¬ x.at_ >= t) (ho : laL (l.take i) t = o) : laL (l.take (i + 1)) t = o := by
  unfold laL at ho ⊢;rw [List.take_add_one, hx, List.filter_append, List.map_append, ho];rcases h with h | h
  · simp [h]
  · have : ¬ t <= x.at_ := h;simp [this]
theorem Kfh {z : Int} (h : z ∈ eaL l t) : ∃ r ∈ l, z = r.back - r.at_ := by
  obtain ⟨r, hr, rfl⟩ := List.mem_map.1 h;exact ⟨r, (List.mem_filter.1 hr).1, rfl⟩
theorem Kiv {z : Int} (h : z ∈ laL l t) : ∃ r ∈ l, z = r.back - r.at_ := by
  obtain ⟨r, hr, rfl⟩ := List.mem_map.1 h;exact ⟨r, (List.mem_filter.1 hr).1, rfl⟩
end
theorem Kni {s : List Int} (hs : s.Pairwise (· <= ·)) {k : Nat} {v e : Int} (hv : s[k]? = some v) : k + 1 <= (s.filter fun z => decide (z <= e)).length ↔ v <= e := by
  obtain ⟨hk, hg⟩ := List.getElem?_eq_some_iff.1 hv;have hsp : (s.filter fun z => decide (z <= e)) = ((s.take k).filter fun z => decide (z <= e)) ++ ((s.drop k).filter fun z => decide (z <= e)) := by rw [<- List.filter_append, List.take_append_drop]
  have hd : s.drop k = v :: s.drop (k + 1) := by rw [List.drop_eq_getElem_cons hk, hg]
  have hp := List.pairwise_append.1 (by rw [List.take_append_drop]; exact hs : (s.take k ++ s.drop k).Pairwise (· <= ·));constructor
  · intro h;refine Decidable.by_contra fun hn => ?_
    have h0 : ((s.drop k).filter fun z => decide (z <= e)) = [] := List.filter_eq_nil_iff.2 fun z hz => by
      rw [hd] at hz
      have : v <= z := by
        rcases List.mem_cons.1 hz with h1 | h1
        · rw [h1]; exact Int.le_refl _
        · have := hp.2.1;rw [hd] at this;exact (List.pairwise_cons.1 this).1 z h1
      simp; omega
    have h1 := List.length_filter_le (fun z => decide (z <= e)) (s.take k);rw [hsp, h0, List.append_nil] at h;rw [List.length_take] at h1;omega
  · intro h
    have h0 : ((s.take k).filter fun z => decide (z <= e)) = s.take k := List.filter_eq_self.2 fun z hz => by
      have := hp.2.2 z hz v (by rw [hd]; exact List.mem_cons_self);simp; omega
    rw [hsp, h0, hd, List.filter_cons_of_pos (by simpa using h), List.length_append, List.length_take, List.length_cons];omega
theorem KpM {s : List Int} (hs : s.Pairwise (· <= ·)) {k : Nat} {v e : Int} (hv : s[k]? = some v) : s.length - k <= (s.filter fun z => decide (e <= z)).length ↔ e <= v := by
  obtain ⟨hk, hg⟩ := List.getElem?_eq_some_iff.1 hv;have hsp : (s.filter fun z => decide (e <= z)) = ((s.take (k + 1)).filter fun z => decide (e <= z)) ++ ((s.drop (k + 1)).filter fun z => decide (e <= z)) := by rw [<- List.filter_append, List.take_append_drop]
  have ht : s.take (k + 1) = s.take k ++ [v] := by rw [List.take_add_one, hv]; rfl
  have hp := List.pairwise_append.1 (by rw [List.take_append_drop]; exact hs : (s.take (k + 1) ++ s.drop (k + 1)).Pairwise (· <= ·));constructor
  · intro h;refine Decidable.by_contra fun hn => ?_
    have h0 : ((s.take (k + 1)).filter fun z => decide (e <= z)) = [] := List.filter_eq_nil_iff.2 fun z hz => by
      have : z <= v := by
        rw [ht] at hz;rcases List.mem_append.1 hz with h1 | h1
        · have := hp.1;rw [ht] at this;exact (List.pairwise_append.1 this).2.2 z h1 v (List.mem_singleton.2 rfl)
        · rw [List.mem_singleton.1 h1]; exact Int.le_refl _
      simp; omega
    have h1 := List.length_filter_le (fun z => decide (e <= z)) (s.drop (k + 1));rw [hsp, h0, List.nil_append] at h;rw [List.length_drop] at h1;omega
  · intro h
    have h0 : ((s.drop (k + 1)).filter fun z => decide (e <= z)) = s.drop (k + 1) := List.filter_eq_self.2 fun z hz => by
      have := hp.2.2 v (by rw [ht]; exact List.mem_append_right _ (List.mem_singleton.2 rfl)) z hz;simp; omega
    rw [hsp, h0, ht, List.filter_append, List.filter_cons_of_pos (by simpa using h), List.length_append, List.length_append, List.length_drop, List.length_cons];omega
def CgF (ea la : List Int) (prb gro : Int) : Prop := ∃ e ∈ ea, prb <= ((ea.filter fun z => decide (z <= e)).length : Int) /\ prb <= ((la.filter fun z => decide (gro <= z - e)).length : Int)
theorem KjH {ea la : List Int} {prb gro : Int} (h : (ea.length : Int) < prb \/ (la.length : Int) < prb) : ¬ CgF ea la prb gro := by
  rintro ⟨e, _, h1, h2⟩;have h3 := List.length_filter_le (fun z => decide (z <= e)) ea;have h4 := List.length_filter_le (fun z => decide (gro <= z - e)) la;omega
theorem Kkt {ea la sE sL : List Int} {K : Nat} {prb gro e0 b0 : Int} (hE : KcE ea sE) (hL : KcE la sL) (hK : prb = K) (h1 : 1 <= K) (h2 : K <= la.length) (he : sE[K - 1]? = some e0) (hb : sL[la.length - K]? = some b0) : CgF ea la prb gro ↔ b0 - e0 >= gro := by
  subst hK;have hlE : ∀ e, (ea.filter fun z => decide (z <= e)).length = (sE.filter fun z => decide (z <= e)).length := fun e => ((hE.1.filter _).length_eq).symm
  have hf : ∀ e, (la.filter fun z => decide (gro <= z - e)).length = (sL.filter fun z => decide (gro + e <= z)).length := fun e => by
    rw [<- (hL.1.filter _).length_eq]
    congr 2; funext z; congr 1; rw [eq_iff_iff]; omega
  have hn : sL.length = la.length := hL.1.length_eq
  have hi : ∀ e, K <= (sE.filter fun z => decide (z <= e)).length ↔ e0 <= e := fun e => by
    have := Kni hE.2 (e := e) he;rw [show K - 1 + 1 = K by omega] at this; exact this
  have hj : ∀ e, K <= (sL.filter fun z => decide (gro + e <= z)).length ↔ gro + e <= b0 := fun e => by
    have := KpM hL.2 (e := gro + e) hb;rw [hn, show la.length - (la.length - K) = K by omega] at this; exact this
  constructor
  · rintro ⟨e, _, h3, h4⟩;rw [hlE] at h3;rw [hf] at h4;have := (hi e).1 (by omega);have := (hj e).1 (by omega);omega
  · intro h;refine ⟨e0, hE.1.mem_iff.1 (List.mem_of_getElem? he), ?_, ?_⟩
    · rw [hlE]; have := (hi e0).2 (Int.le_refl _); omega
    · rw [hf]; have := (hj e0).2 (by omega); omega
set_option maxRecDepth 20000
theorem KkB (A0 : Option Addr) (c0 : Nat) (l : List Rs) (u : Ru) (t : Int) (w : World) (hr : Kg w w.heap.size 17 A0 l.length (Ka Rs.cells l)) (hl1 : l.length <= 100000) (hin : ∀ r ∈ l, r.inRange) :
  Calls Tryz.prog 76 #[.slice A0 l.length c0, .agg u.cells.toArray, .int .i64 t] w fun e w' => ∃ x : {b : Bool // b = true ↔ u.prb < 1 \/ CgF (eaL l t) (laL l t) u.prb u.gro}, e = .returned (.bool x.1) /\ Below w.heap.size w w' := by
 refine Kh Tryz.func76 rfl rfl rfl ?_ (Pm.start w);refine zSG ?_;refine TL.bx fun g4 => ?_;refine TL.as_ ?_;refine zET (zS (zSG (TL.v (gF Kbt) ?_)));refine TL.v (gL 0 Kb) ?_;refine TL.sp Kk (fun q13 => ?_) (fun q13 => ?_)
 ·refine zET (zc (zSG (TL.as_ ?_)));refine zET (zr (zR ?_));have hres : true = true ↔ u.prb < 1 \/ CgF (eaL l t) (laL l t) u.prb u.gro := ⟨fun _ => .inl q13, fun _ => rfl⟩;exact Kc Tryz.results76 rfl (fun w1 hw => ⟨⟨true, hres⟩, rfl, hw.bel⟩)
 refine zET (zd (zk (zT (zSG (TL.rn 2 rfl (zET (zS (zSG (TL.mv ?_)))))))));refine TL.v (gN Tryz.underlying23) ?_;refine TL.mv ?_;refine zET (zB (TC.nilrow 3 1 ?_));refine TC.nilrow 3 1 ?_;refine TC.lp (α := {y : Nat × (Option Addr × Nat) × (Option Addr × Nat) × List Int × List Int // y.1 <= l.length /\ eaL (l.take y.1) t = y.2.2.2.1 /\ laL (l.take y.1) t = y.2.2.2.2 /\ y.2.2.2.1.length <= y.1 /\ y.2.2.2.2.length <= y.1 /\ y.2.2.2.1.length <= y.2.1.2 /\ y.2.1.2 <= maxLen /\ y.2.2.2.2.length <= y.2.2.1.2 /\ y.2.2.1.2 <= maxLen}) [2, 4, 14, 15] rfl (fun y => [(16, .int .i64 ((y.1.1 : Nat) : Int)), (7, .slice y.1.2.1.1 y.1.2.2.2.1.length y.1.2.1.2), (8, .slice y.1.2.2.1.1 y.1.2.2.2.2.length y.1.2.2.1.2)]) (fun y => Pm w [.row (.slice y.1.2.1.1 y.1.2.2.2.1.length y.1.2.1.2) 3 1 y.1.2.2.2.1.length (Ka (ic .i64) y.1.2.2.2.1), .row (.slice y.1.2.2.1.1 y.1.2.2.2.2.length y.1.2.2.1.2) 3 1 y.1.2.2.2.2.length (Ka (ic .i64) y.1.2.2.2.2), .blk g4 28 u.cells]) (fun y => l.length - y.1.1) (⟨(0, (none, 0), (none, 0), [], []), Nat.zero_le _, rfl, rfl, Nat.le_refl _, Nat.le_refl _, Nat.le_refl _, Nat.zero_le _, Nat.le_refl _, Nat.zero_le _⟩) (fun w1 hw => hw) ?_;rintro ⟨⟨i, ⟨Ae, ce⟩, ⟨Al, cl⟩, ea, la⟩, hi, hE, hL, hel, hll, hc1, hc2, hc3, hc4⟩;dsimp only at hi hE hL hel hll hc1 hc2 hc3 hc4 ⊢;refine zSG ?_;refine TL.sp Kk (fun q17 => ?_) (fun q17 => ?_)
 ·refine zET (zS (zc (zk (zT (zS (zB (zSG ?_)))))));have hi18 : i < l.length := by omega
  obtain ⟨x18, hx18⟩ := Ko hi18;obtain ⟨b18, o18, hA18, hbb18, hc18⟩ := hr.ad (by omega) (by decide);have hin18 := hin x18 (List.mem_of_getElem? hx18);unfold Rs.inRange at hin18;refine TL.w rfl (gA (i := i) Tryz.underlying23 Kd rfl rfl rfl rfl hA18 (by omega)) ?_;refine TL.v (gR Ke Ku Kd hbb18 hx18 hc18) ?_;refine TL.al Kab fun g10 => ?_;refine TL.pstore (k := 0) (vs := x18.cells) rfl rfl rfl rfl rfl rfl rfl Kd (Ke.one _) (by show 17 <= 17; decide) (L' := [.blk g10 65 x18.cells, .row (.slice Ae ea.length ce) 3 1 ea.length (Ka (ic .i64) ea), .row (.slice Al la.length cl) 3 1 la.length (Ka (ic .i64) la), .blk g4 28 u.cells]) rfl ?_;refine zET (zB (zSG (TL.v (gF Kao) ?_)));refine TL.v (gL 0 Kb) ?_;refine TL.mv ?_;refine TL.sp Kk (fun q24 => ?_) (fun q24 => ?_)
  ·refine TL.as_ ?_;refine zET (zc (zG (TL.mv ?_)));refine TL.v (gF Kao) ?_;refine TL.v (gL 0 Kb) ?_;refine TL.v (gF Kal) ?_;refine TL.v (gL 0 Kb) ?_;refine TL.w rfl (Ks rfl rfl rfl (fun w => K0 (r := x18.back - x18.at_) (by simp only [IntKind.wrap_i64]; omega) w)) ?_;refine TL.prowS (e := 3) (size := 1) (cs := Ka (ic .i64) [x18.back - x18.at_]) rfl rfl rfl rfl rfl (fun w => KbV _ w) (by decide) rfl (fun g31 => ?_);refine TL.appendT (k := 2) rfl rfl rfl rfl Tryz.underlying106 KbM rfl rfl rfl (fun w1 hw => KN hw (k := 0) rfl) (KA (KQ .i64) _) (by show _ * 8 <= _; omega) ((ea ++ [x18.back - x18.at_]).length) (by rw [List.length_append]; rfl) (Ka (ic .i64) (ea ++ [x18.back - x18.at_])) ((KF _ _).symm) (fun A32 c32 hA321 hA322 => ?_);refine TL.as_ ?_;refine zE (zN (zN (zT (zG (TL.v (gD ((i + 1 : Nat) : Int)) ?_)))));refine TL.mv ?_;refine zE ?_;exact TX.rd (⟨(i + 1, (A32, c32), (Al, cl), ea ++ [x18.back - x18.at_], la), by dsimp only; omega, KnE hx18 q24 hE, Kj8 hx18 (.inl q24) hL, by dsimp only; rw [List.length_append]; show ea.length + 1 <= _; omega, by dsimp only; omega, hA321, hA322, hc3, hc4⟩) (by show l.length - (i + 1) < l.length - i; omega) (fun w1 hw => hw.pk [2, 3, 4])
  refine TL.as_ ?_;refine zET (zd (zSG (TL.v (gF Kal) ?_)));refine TL.v (gL 0 Kb) ?_;refine TL.mv ?_;refine TL.sp K3 (fun q37 => ?_) (fun q37 => ?_)
  ·refine TL.as_ ?_;refine zET (zc (zG (TL.mv ?_)));refine TL.v (gF Kao) ?_;refine TL.v (gL 0 Kb) ?_;refine TL.v (gF Kal) ?_;refine TL.v (gL 0 Kb) ?_;refine TL.w rfl (Ks rfl rfl rfl (fun w => K0 (r := x18.back - x18.at_) (by simp only [IntKind.wrap_i64]; omega) w)) ?_;refine TL.prowS (e := 3) (size := 1) (cs := Ka (ic .i64) [x18.back - x18.at_]) rfl rfl rfl rfl rfl (fun w => KbV _ w) (by decide) rfl (fun g44 => ?_);refine TL.appendT (k := 3) rfl rfl rfl rfl Tryz.underlying106 KbM rfl rfl rfl (fun w1 hw => KN hw (k := 0) rfl) (KA (KQ .i64) _) (by show _ * 8 <= _; omega) ((la ++ [x18.back - x18.at_]).length) (by rw [List.length_append]; rfl) (Ka (ic .i64) (la ++ [x18.back - x18.at_])) ((KF _ _).symm) (fun A45 c45 hA451 hA452 => ?_);refine TL.as_ ?_;refine zE (zN (zN (zT (zG (TL.v (gD ((i + 1 : Nat) : Int)) ?_)))));refine TL.mv ?_;refine zE ?_;exact TX.rd (⟨(i + 1, (Ae, ce), (A45, c45), ea, la ++ [x18.back - x18.at_]), by dsimp only; omega, Kh0 hx18 q24 hE, Klw hx18 q24 q37 hL, by dsimp only; omega, by dsimp only; rw [List.length_append]; show la.length + 1 <= _; omega, hc1, hc2, hA451, hA452⟩) (by show l.length - (i + 1) < l.length - i; omega) (fun w1 hw => hw.pk [2, 3, 4])
  refine TL.as_ ?_;refine zET (zd (zk (zN (zN (zT (zG (TL.v (gD ((i + 1 : Nat) : Int)) ?_)))))));refine TL.mv ?_;refine zE ?_;exact TX.rd (⟨(i + 1, (Ae, ce), (Al, cl), ea, la), by dsimp only; omega, Kh0 hx18 q24 hE, Kj8 hx18 (.inr q37) hL, by dsimp only; omega, by dsimp only; omega, hc1, hc2, hc3, hc4⟩) (by show l.length - (i + 1) < l.length - i; omega) (fun w1 hw => hw.pk [1, 2, 3])
 refine zET (zS (zd (zx (zX (zX (zM (zT (zS (zS ?_)))))))));have hE2 : eaL l t = ea := by rw [List.take_of_length_le (by omega)] at hE; exact hE
 have hL2 : laL l t = la := by rw [List.take_of_length_le (by omega)] at hL; exact hL
 refine zG (TL.mv ?_);refine TL.v (gN Tryz.underlying106) ?_;refine TL.v (gF Kbt) ?_;refine TL.v (gL 2 Kb) ?_;refine TL.sp Kk (fun q51 => ?_) (fun q51 => ?_)
 ·refine TL.rn 7 rfl (zET (zc (zSG (TL.as_ ?_))));refine zET (zr (zR ?_));have hres : false = true ↔ u.prb < 1 \/ CgF (eaL l t) (laL l t) u.prb u.gro := ⟨fun h => (by cases h), fun h => absurd h (by rintro (h | h); exact q13 h; rw [hE2, hL2] at h; exact KjH (by omega) h)⟩;exact Kc Tryz.results76 rfl (fun w1 hw => ⟨⟨false, hres⟩, rfl, hw.bel⟩)
 refine TL.rn 2 rfl (TL.ov (gN Tryz.underlying106) ?_);refine TL.ov (gF Kbt) ?_;refine TL.ov (gL 2 Kb) ?_;refine TL.gu ?_;refine TL.sp Kk (fun q57 => ?_) (fun q57 => ?_)
 ·refine TL.pk ?_;refine zET (zc (zSG (TL.as_ ?_)));refine zET (zr (zR ?_));have hres : false = true ↔ u.prb < 1 \/ CgF (eaL l t) (laL l t) u.prb u.gro := ⟨fun h => (by cases h), fun h => absurd h (by rintro (h | h); exact q13 h; rw [hE2, hL2] at h; exact KjH (by omega) h)⟩;exact Kc Tryz.results76 rfl (fun w1 hw => ⟨⟨false, hres⟩, rfl, hw.bel⟩)
 refine TL.pk ?_;refine zET (zd (zk (zT (zSG (TL.mv ?_)))));refine TL.turnRowD (k := 0) (fun ys => KcE ea ys) rfl rfl rfl rfl rfl Tryz.func124 (by decide) rfl rfl (fun w1 hw hr9 => Kd5 hr9 rfl (by omega)) (fun sE hsE => ?_)
 try dsimp only [List.set_cons_zero, List.set_cons_succ]
 have hsEl : sE.length = ea.length := hsE.1.length_eq;refine zET (zSG (TL.mv ?_));refine TL.turnRowD (k := 1) (fun ys => KcE la ys) rfl rfl rfl rfl rfl Tryz.func124 (by decide) rfl rfl (fun w1 hw hr9 => Kd5 hr9 rfl (by omega)) (fun sL hsL => ?_)
 try dsimp only [List.set_cons_zero, List.set_cons_succ]
 have hsLl : sL.length = la.length := hsL.1.length_eq;refine zET (zS ?_);obtain ⟨K, hK⟩ : ∃ K : Nat, u.prb = K := ⟨u.prb.toNat, by omega⟩
 have hbsE : ∀ z ∈ sE, 0 <= z /\ z <= 2251799813685248 := fun z hz => by
  obtain ⟨r, hr1, rfl⟩ := Kfh (by rw [hE2]; exact hsE.1.mem_iff.1 hz);have := hin r hr1;unfold Rs.inRange at this;omega
 have hbsL : ∀ z ∈ sL, 0 <= z /\ z <= 2251799813685248 := fun z hz => by
  obtain ⟨r, hr1, rfl⟩ := Kiv (by rw [hL2]; exact hsL.1.mem_iff.1 hz);have := hin r hr1;unfold Rs.inRange at this;omega
 refine TC.fact (p := ∃ g, Al = some ⟨g, 0, none⟩) (fun w1 hw => KL hw (k := 1) rfl (by omega)) ?_;rintro ⟨g_Al, rfl⟩;refine TC.fact (p := ∃ g, Ae = some ⟨g, 0, none⟩) (fun w1 hw => KL hw (k := 0) rfl (by omega)) ?_;rintro ⟨g_Ae, rfl⟩;refine TC.quietQ (by kernel_rfl) (by kernel_rfl) (fun w hw => hw.drawn _) ?_;refine TQ.rn 2 rfl (TQ.v (gN Tryz.underlying106) ?_);refine TQ.v (gF Kbt) ?_;refine TQ.v (gL 2 Kb) ?_;refine TQ.w rfl (Ks rfl rfl rfl (fun w => K0 (r := ((la.length - K : Nat) : Int)) (by simp only [IntKind.wrap_i64]; omega) w)) ?_;have hi69 : la.length - K < sL.length := by omega
 obtain ⟨x69, hx69⟩ := Ko hi69;have hvx69 := hbsL x69 (List.mem_of_getElem? hx69);refine TQ.w rfl (gA (i := (la.length - K)) Tryz.underlying106 Ky rfl rfl rfl rfl rfl (by omega)) ?_;refine TQ.w rfl (Kw (v := .int .i64 x69) rfl rfl Kb (fun w1 hw => Kv (KQ .i64) hw (q := 1) rfl hx69 0 _ rfl)) ?_;refine TQ.w rfl (Ki rfl rfl) ?_;refine TQ.v (gF Kbt) ?_;refine TQ.v (gL 2 Kb) ?_;refine TQ.w rfl (Ks rfl rfl rfl (fun w => K0 (r := ((K - 1 : Nat) : Int)) (by simp only [IntKind.wrap_i64]; omega) w)) ?_;have hi75 : K - 1 < sE.length := by omega
 obtain ⟨x75, hx75⟩ := Ko hi75;have hvx75 := hbsE x75 (List.mem_of_getElem? hx75);refine TQ.w rfl (gA (i := (K - 1)) Tryz.underlying106 Ky rfl rfl rfl rfl rfl (by omega)) ?_;refine TQ.w rfl (Kw (v := .int .i64 x75) rfl rfl Kb (fun w1 hw => Kv (KQ .i64) hw (q := 0) rfl hx75 0 _ rfl)) ?_;refine TQ.w rfl (Ks rfl rfl rfl (fun w => K0 (r := x69 - x75) (by simp only [IntKind.wrap_i64]; omega) w)) ?_;refine TQ.v (gF Kds) ?_;refine TQ.v (gL 2 Kb) ?_;refine TQ.sp K3 (fun q80 => ?_) (fun q80 => ?_)
 ·refine TQ.w rfl (K6 rfl rfl) ?_;refine TQ.fin ?_;refine zT (zr ?_);have hres : true = true ↔ u.prb < 1 \/ CgF (eaL l t) (laL l t) u.prb u.gro := ⟨fun _ => .inr (by rw [hE2, hL2]; exact (Kkt hsE hsL hK (by omega) (by omega) hx75 hx69).2 q80), fun _ => rfl⟩;exact Kc Tryz.results76 rfl (fun w1 hw => ⟨⟨true, hres⟩, rfl, hw.bel⟩)
 refine TQ.w rfl (K6 rfl rfl) ?_;refine TQ.fin ?_;refine zT (zr ?_);have hres : false = true ↔ u.prb < 1 \/ CgF (eaL l t) (laL l t) u.prb u.gro := ⟨fun h => (by cases h), fun h => absurd h (by rintro (h | h); exact q13 h; rw [hE2, hL2] at h; exact q80 ((Kkt hsE hsL hK (by omega) (by omega) hx75 hx69).1 h))⟩;exact Kc Tryz.results76 rfl (fun w1 hw => ⟨⟨false, hres⟩, rfl, hw.bel⟩)
set_option maxRecDepth 20000
def CgP (l : List Rs) (u : Ru) (p : Rp) : Prop := p.kind = 3 /\ (u.prb < 1 \/ ∃ y, Kaq l p.trc p.flow y /\ CgF (eaL (atL y p.ttl) p.at_) (laL (atL y p.ttl) p.at_) u.prb u.gro)
theorem Kaq.in_ {l y : List Rs} {t : Trc} {flow : Int} (h : Kaq l t flow y) (ttl : Int) : ∀ r ∈ atL y ttl, r.inRange := fun r hr => by
 obtain ⟨x, h1, rfl⟩ := h;have h2 := (List.mem_filter.1 (List.mem_filter.1 hr).1).2;unfold KM at h2;simp only [Bool.and_eq_true] at h2;exact KcP h2.1.2
theorem KhE (g o : Nat) (w : World) : (Instr.fieldAt 34 (.pointer (some ⟨g, o, none⟩)) 0).run Tryz.prog w = .ok (.pointer (some ⟨g, o + 0, none⟩)) w := by kernel_rfl
theorem Kd7 (w : World) : (isAgg 3).run Tryz.prog w = .ok false w := rfl
theorem KoC (g o : Nat) (w : World) : (Instr.fieldAt 34 (.pointer (some ⟨g, o, none⟩)) 1).run Tryz.prog w = .ok (.pointer (some ⟨g, o + 1, none⟩)) w := by kernel_rfl
theorem KlW (w : World) : (isAgg 32).run Tryz.prog w = .ok true w := rfl
theorem KmK (w : World) : (sizeOf 32).run Tryz.prog w = .ok 3 w := rfl
theorem KmX (g o : Nat) (w : World) : (Instr.fieldAt 34 (.pointer (some ⟨g, o, none⟩)) 2).run Tryz.prog w = .ok (.pointer (some ⟨g, o + 4, none⟩)) w := by kernel_rfl
theorem KmT (g o : Nat) (w : World) : (Instr.fieldAt 34 (.pointer (some ⟨g, o, none⟩)) 3).run Tryz.prog w = .ok (.pointer (some ⟨g, o + 5, none⟩)) w := by kernel_rfl
theorem KmV (w : World) : (isAgg 28).run Tryz.prog w = .ok true w := rfl
theorem KpD (w : World) : (sizeOf 28).run Tryz.prog w = .ok 3 w := rfl
theorem Kqi (g o : Nat) (w : World) : (Instr.fieldAt 34 (.pointer (some ⟨g, o, none⟩)) 4).run Tryz.prog w = .ok (.pointer (some ⟨g, o + 6, none⟩)) w := by kernel_rfl
theorem KkM (A0 : Option Addr) (c0 : Nat) (l : List Rs) (u : Ru) (p : Rp) (w : World) (hr : Kg w w.heap.size 17 A0 l.length (Ka Rs.cells l)) (hl1 : l.length <= 100000) (hok : ∀ r ∈ l, r.Ok) :
  Calls Tryz.prog 31 #[.slice A0 l.length c0, .agg u.cells.toArray, .agg p.cells.toArray] w fun e w' => ∃ x : {b : Bool // b = true ↔ CgP l u p}, e = .returned (.bool x.1) /\ Below w.heap.size w w' := by
 refine Kh Tryz.func31 rfl rfl rfl ?_ (Pm.start w);refine zSG ?_;refine TL.bx fun g4 => ?_;refine TL.bx fun g5 => ?_;refine TL.as_ ?_;refine zET (zS ?_);by_cases hk : p.kind = 3
 ·refine TC.hd 19 (Pm w [.blk g5 34 p.cells, .blk g4 28 u.cells]) (fun w1 hw => hw) fun hS => ?_;refine TH.t 0 rfl (gF KhE) hS ?_;refine TH.t 1 rfl (gL 0 Kd7) hS ?_;refine TH.t 2 rfl (Ks rfl rfl rfl (fun w => KcO (hk) w)) hS ?_;refine TH.t 3 rfl (Ki rfl rfl) hS ?_;refine TH.g 4 rfl (Ki rfl rfl) (fun w1 hw => hw) ?_;refine TH.g 5 rfl (gF KoC) (fun w1 hw => hw) ?_;refine TH.g 6 rfl (gV 0 (.agg #[.int .i64 p.v, .int .u32 p.dst, .int .i64 p.proto]) KlW KmK) (fun w1 hw => hw) ?_;refine TH.g 7 rfl (gF KmX) (fun w1 hw => hw) ?_;refine TH.g 8 rfl (gL 0 Kd7) (fun w1 hw => hw) ?_;refine TH.g 10 rfl (gF KmT) (fun w1 hw => hw) ?_;refine TH.g 11 rfl (gL 0 Kd7) (fun w1 hw => hw) ?_;refine TH.g 13 rfl (gV 1 (.agg (u.cells).toArray) KmV KpD) (fun w1 hw => hw) ?_;refine TH.g 14 rfl (gF Kqi) (fun w1 hw => hw) ?_;refine TH.g 15 rfl (gL 0 Kd7) (fun w1 hw => hw) ?_;refine TH.o 9 ?_;refine TL.gu ?_;refine TL.pM _ _ rfl o73 (fun w1 hw => Kfb A0 c0 l p.trc p.flow w1 (hr.up hw.bel) hl1 hok) ?_;rintro ⟨⟨⟨R16, rc16⟩, st16⟩, hP16, hR161, hR162⟩;dsimp only [lC, lN];dsimp only at hP16 hR161 hR162 ⊢;refine zE ?_;refine TX.held (fun w1 hw => hw.pk [1, 2]) ?_;refine TH.o 12 ?_;refine TL.gu ?_;refine TL.pM _ _ rfl o77 (fun w1 hw => KgY R16 rc16 st16 p.ttl w1 (KD hw (k := 0) rfl) (by have := hP16.le; omega)) ?_;rintro ⟨⟨⟨R19, rc19⟩, at19⟩, hP19, hR191, hR192⟩;dsimp only [lC, lN];dsimp only at hP19 hR191 hR192 ⊢;refine zE ?_;refine TX.held (fun w1 hw => hw.pk [2, 3]) ?_;refine TH.o 16 ?_;refine TL.gu ?_;refine TL.pM (α := {b : Bool // b = true ↔ u.prb < 1 \/ CgF (eaL at19 p.at_) (laL at19 p.at_) u.prb u.gro}) (fun x => .bool x.1) (fun x => []) rfl o76 (fun w1 hw => (KkB R19 rc19 at19 u p.at_ w1 (KD hw (k := 0) rfl) (by have := hP16.le; have := List.length_filter_le (fun r : Rs => r.ans && decide (r.ttl = p.ttl)) st16; rw [hP19]; unfold atL; omega) (by rw [hP19]; exact hP16.in_ p.ttl)).mono fun en w2 ⟨x, h1, h2⟩ => ⟨x, h1, (Pm.start w1).below h2⟩) ?_;rintro ⟨bd, hbd⟩;dsimp only [lC, lN];refine zE ?_;refine TX.he (fun w1 hw => hw.pk [2, 3]) fun hS => ?_;refine TH.t 17 rfl (K4 rfl rfl rfl) hS ?_;refine TH.t 18 rfl (K6 rfl rfl) hS ?_;refine TH.done (by kernel_rfl) ?_;refine zT (zr ?_);exact Kc Tryz.results31 rfl (fun w1 hw => ⟨⟨bd, hbd.trans ⟨fun h => ⟨hk, h.imp id fun h => ⟨st16, hP16, by rw [<- hP19]; exact h⟩⟩, fun ⟨_, h⟩ => h.imp id fun ⟨y, h1, h2⟩ => by rw [hP19, hP16.eq h1]; exact h2⟩⟩, rfl, hw.bel⟩)
 refine TC.hd 19 (Pm w [.blk g5 34 p.cells, .blk g4 28 u.cells]) (fun w1 hw => hw) fun hS => ?_;refine TH.t 0 rfl (gF KhE) hS ?_;refine TH.t 1 rfl (gL 0 Kd7) hS ?_;refine TH.t 2 rfl (Ks rfl rfl rfl (fun w => KgO (hk) w)) hS ?_;refine TH.t 3 rfl (Ki rfl rfl) hS ?_;refine TH.fo 4 (fun w1 hw => hw) ?_;refine TH.fo 5 (fun w1 hw => hw) ?_;refine TH.fo 6 (fun w1 hw => hw) ?_;refine TH.fo 7 (fun w1 hw => hw) ?_;refine TH.fo 8 (fun w1 hw => hw) ?_;refine TH.fo 9 (fun w1 hw => hw) ?_;refine TH.fo 10 (fun w1 hw => hw) ?_;refine TH.fo 11 (fun w1 hw => hw) ?_;refine TH.fo 12 (fun w1 hw => hw) ?_;refine TH.fo 13 (fun w1 hw => hw) ?_;refine TH.fo 14 (fun w1 hw => hw) ?_;refine TH.fo 15 (fun w1 hw => hw) ?_;refine TH.fo 16 (fun w1 hw => hw) ?_;refine TH.tk 17 rfl rfl rfl (K4 rfl rfl rfl) (fun w1 hw => hw) ?_;refine TH.tk 18 rfl rfl rfl (K6 rfl rfl) (fun w1 hw => hw) ?_;refine TH.done (by kernel_rfl) ?_;refine zT (zr ?_);exact Kc Tryz.results31 rfl (fun w1 hw => ⟨⟨false, by simp [CgP, hk]⟩, rfl, hw.bel⟩)
set_option maxRecDepth 20000
def PrP (es : List En) (l : List Rs) (u : Ru) (p : Rp) : Prop := KW u = true /\ Kr p = true /\ KZ es = true /\ (BhP l u p \/ DtP es l p \/ CgP l u p)
theorem PrP.kinds {es : List En} {l : List Rs} {u : Ru} {p : Rp} (h : Kr p = true) : p.kind = 1 \/ p.kind = 2 \/ p.kind = 3 := by
 unfold Kr at h;simp only [Bool.and_eq_true, decide_eq_true_eq] at h;omega
theorem K1 (w : World) : (isAgg 28).run Tryz.prog w = .ok true w := rfl
theorem KU (w : World) : (sizeOf 28).run Tryz.prog w = .ok 3 w := rfl
theorem Kfg (A0 : Option Addr) (c0 : Nat) (l : List Rs) (A1 : Option Addr) (c1 : Nat) (es : List En) (u : Ru) (p : Rp) (w : World) (hr : Kg w w.heap.size 17 A0 l.length (Ka Rs.cells l)) (hl1 : l.length <= 100000) (hok : ∀ r ∈ l, r.Ok) (hr1 : Kg w w.heap.size 5 A1 es.length (Ka En.cells es)) :
  Calls Tryz.prog 37 #[.slice A0 l.length c0, .agg #[.slice A1 es.length c1], .agg u.cells.toArray, .agg p.cells.toArray] w fun e w' => ∃ x : {b : Bool // b = true ↔ PrP es l u p}, e = .returned (.bool x.1) /\ Below w.heap.size w w' := by
 refine Kh Tryz.func37 rfl rfl rfl ?_ (Pm.start w);refine zSG ?_;refine TL.bx fun g5 => ?_;refine TL.bx fun g6 => ?_;refine TL.bx fun g7 => ?_;refine TL.as_ ?_;refine zET (zS (zSG (TL.v (gV 1 (.agg (u.cells).toArray) K1 KU) ?_)));refine TL.pS rfl o24 (fun w1 hw => KeB u w1) (fun h10 => ?_) (fun h10 => ?_)
 ·refine TL.rn 2 rfl (TL.ov (gV 0 (.agg (p.cells).toArray) KR KJ) ?_);refine TL.gu ?_;refine TL.pS rfl o27 (fun w1 hw => Kgw p w1) (fun h14 => ?_) (fun h14 => ?_)
  ·refine TL.rn 3 rfl (TL.ov (gV 2 (.agg #[.slice A1 es.length c1]) KX KH) ?_);refine TL.gu ?_;refine TL.pS rfl o84 (fun w1 hw => Ke6 A1 c1 es w1 (hr1.up hw.bel)) (fun h19 => ?_) (fun h19 => ?_)
   ·refine TL.rn 2 rfl (zET (zd (zk (zT (zS (zSG (TL.v (gF Kat) ?_)))))));refine TL.v (gL 0 Kb) ?_;refine zET (zB (zSG ?_));refine TL.sp Kx (fun q25 => ?_) (fun q25 => ?_)
    ·refine TL.as_ ?_;refine zET (zc (zSG (TL.mv ?_)));refine TL.v (gV 1 (.agg (u.cells).toArray) K1 KU) ?_;refine TL.v (gV 0 (.agg (p.cells).toArray) KR KJ) ?_;refine TL.pM (α := {b : Bool // b = true ↔ BhP l u p}) (fun x => .bool x.1) (fun x => []) rfl o29 (fun w1 hw => (Kli A0 c0 l u p w1 (hr.up hw.bel) hl1 hok).mono fun en w2 ⟨x, h1, h2⟩ => ⟨x, h1, (Pm.start w1).below h2⟩) ?_;rintro ⟨bd, hbd⟩;dsimp only [lC, lN];refine TL.as_ ?_;refine zET (zr (zRR ?_));exact Kc Tryz.results37 rfl (fun w1 hw => ⟨⟨bd, fun h => ⟨h10, h14, h19, .inl (hbd.1 h)⟩, fun ⟨_, _, _, h4⟩ => hbd.2 (h4.elim id fun h5 => h5.elim (fun h6 => absurd h6.1 (by omega)) fun h6 => absurd h6.1 (by omega))⟩, rfl, hw.bel⟩)
    refine TL.as_ ?_;refine zET (zd (zSG ?_));refine TL.sp Kx (fun q31 => ?_) (fun q31 => ?_)
    ·refine TL.as_ ?_;refine zET (zc (zSG (TL.mv ?_)));refine TL.v (gV 2 (.agg #[.slice A1 es.length c1]) KX KH) ?_;refine TL.v (gV 0 (.agg (p.cells).toArray) KR KJ) ?_;refine TL.pM (α := {b : Bool // b = true ↔ DtP es l p}) (fun x => .bool x.1) (fun x => []) rfl o35 (fun w1 hw => (KpX A0 c0 l A1 c1 es p w1 (hr.up hw.bel) hl1 hok (hr1.up hw.bel)).mono fun en w2 ⟨x, h1, h2⟩ => ⟨x, h1, (Pm.start w1).below h2⟩) ?_;rintro ⟨bd, hbd⟩;dsimp only [lC, lN];refine TL.as_ ?_;refine zET (zr (zRR ?_));exact Kc Tryz.results37 rfl (fun w1 hw => ⟨⟨bd, fun h => ⟨h10, h14, h19, .inr (.inl (hbd.1 h))⟩, fun ⟨_, _, _, h4⟩ => hbd.2 (h4.elim (fun h6 => absurd h6.1 (by omega)) fun h5 => h5.elim id fun h6 => absurd h6.1 (by omega))⟩, rfl, hw.bel⟩)
    refine TL.as_ ?_;refine zET (zd (zk (zN (zT (zSG (TL.mv ?_))))));refine TL.v (gV 1 (.agg (u.cells).toArray) K1 KU) ?_;refine TL.v (gV 0 (.agg (p.cells).toArray) KR KJ) ?_;refine TL.pM (α := {b : Bool // b = true ↔ CgP l u p}) (fun x => .bool x.1) (fun x => []) rfl o31 (fun w1 hw => (KkM A0 c0 l u p w1 (hr.up hw.bel) hl1 hok).mono fun en w2 ⟨x, h1, h2⟩ => ⟨x, h1, (Pm.start w1).below h2⟩) ?_;rintro ⟨bd, hbd⟩;dsimp only [lC, lN];refine TL.as_ ?_;refine zET (zr ?_);exact Kc Tryz.results37 rfl (fun w1 hw => ⟨⟨bd, fun h => ⟨h10, h14, h19, .inr (.inr (hbd.1 h))⟩, fun ⟨_, _, _, h4⟩ => hbd.2 (h4.elim (fun h6 => absurd h6.1 (by omega)) fun h5 => h5.elim (fun h6 => absurd h6.1 (by omega)) id)⟩, rfl, hw.bel⟩)
   refine TL.rn 2 rfl (zET (zc (zSG (TL.as_ ?_))));refine zET (zr (zR ?_));exact Kc Tryz.results37 rfl (fun w1 hw => ⟨⟨false, fun h => (by cases h), fun h => (by have h2 := h.2.2.1; rw [h19] at h2; cases h2)⟩, rfl, hw.bel⟩)
  refine TL.rn 7 rfl (zET (zc (zSG (TL.as_ ?_))));refine zET (zr (zR ?_));exact Kc Tryz.results37 rfl (fun w1 hw => ⟨⟨false, fun h => (by cases h), fun h => (by have h2 := h.2.1; rw [h14] at h2; cases h2)⟩, rfl, hw.bel⟩)
 refine TL.rn 11 rfl (zET (zc (zSG (TL.as_ ?_))));refine zET (zr (zR ?_));exact Kc Tryz.results37 rfl (fun w1 hw => ⟨⟨false, fun h => (by cases h), fun h => (by have h2 := h.1; rw [h10] at h2; cases h2)⟩, rfl, hw.bel⟩)
set_option maxRecDepth 20000
theorem Kbl (cb : Nat) : Khd cb (fun w => Cod w cb) := fun w1 w2 h hs => h.keep fun b hb => hs b (by omega)
theorem Kbj {w : World} {cb : Nat} (h : Cod w cb) : Kfx w cb := by
 obtain ⟨A, m, c, l, k, hb, _⟩ := h;exact ⟨_, hb, rfl⟩
theorem Kaa (cb : Nat) (w : World) (n : Int) (h : Cod w cb) :
  Calls Tryz.prog 21 #[.pointer (some ⟨cb, 0, none⟩), .int .i64 n] w fun e w' => ∃ x : {x : Nat // x <= 65535 /\ (1 <= n -> (x : Int) < n)}, e = .returned (.int .i64 (x.1 : Int)) /\ Codr (fun w => Cod w cb) cb w [] w' :=
 (KkS cb w n h).mono fun e w' ⟨x, he, h0, h1, h2, hc, hg, _⟩ => by
  obtain ⟨k, rfl⟩ := Int.eq_ofNat_of_zero_le h0;exact ⟨⟨k, by omega, h2⟩, he, hc, hg, Kbj hc, (fun q hq => absurd hq List.not_mem_nil), List.Pairwise.nil⟩
theorem Knm {w w1 : World} {cb : Nat} {p : Addr} (hg : w.grownBy w1 (some cb)) (hp : p.block ≠ cb) (hl : p.block < w.heap.size) : w1.cell? p = w.cell? p :=
 World.cell?_of_block (hg.block _ hl fun e => hp (by injection e))
theorem KaP {w0 : Base} {L : List Pc} {w : World} {q g n cc i : Nat} {e : TypeId} {k : IntKind} {l : List Int} {x : Int} (h : Pm w0 L w) (hk : L[q]? = some (.row (.slice (some ⟨g, 0, none⟩) n cc) e 1 n (Ka (ic k) l))) (hx : l[i]? = some x) : w.cell? ⟨g, i, none⟩ = some (.int k x) := by
 have := Kv (KQ k) h hk hx 0 _ rfl;rwa [show 0 + i * 1 + 0 = i by omega] at this
theorem Kmi (A : Option Addr) (n c : Nat) (l : List Int) (w : World) (hb : Byt w w.heap.size A n l) (hc : n <= c) (hn : (n : Int) <= 9223372036854775807) : Calls Tryz.prog 16 #[.slice A n c] w fun e w' => e = .returned (.pointer (some ⟨w.heap.size, 0, none⟩)) /\ Cod w' w.heap.size /\ Below w.heap.size w w' := by
 refine Kh (I := fun w1 => w1 = w) Tryz.func16 rfl rfl rfl ?_ rfl;refine zSG (TL.as_ ?_);refine zET (zSG (TL.mv ?_));refine TL.pL (α := Unit) (r := fun _ => .pointer (some ⟨w.heap.size, 0, none⟩)) (I' := fun _ w2 => Cod w2 w.heap.size /\ Below w.heap.size w w2) rfl o62 (fun w1 hw => by cases hw; exact (KmW A n c l w 400 hb hc (by omega) (by decide) (by decide)).mono fun e w2 ⟨h1, h2, h3, _⟩ => ⟨(), h1, h2, h3⟩) (fun _ => ?_);refine TL.as_ ?_;refine zET (zr ?_);exact Kc Tryz.results16 rfl (fun w1 hw => ⟨rfl, hw.1, hw.2⟩)
theorem KaO (cb : Nat) (w : World) (hC : Cod w cb) (g c : Nat) (tab : List Int) (hgc : g ≠ cb) (hgl : g < w.heap.size) (h0 : 0 < tab.length) (hcell : ∀ (i : Nat) (v : Int), tab[i]? = some v -> w.cell? ⟨g, i, none⟩ = some (.int .i64 v)) :
  Calls Tryz.prog 22 #[.pointer (some ⟨cb, 0, none⟩), .slice (some ⟨g, 0, none⟩) tab.length c] w fun e w' => ∃ x : {v : Int // v ∈ tab}, e = .returned (.int .i64 x.1) /\ Codr (fun w => Cod w cb) cb w ([]) w' := by
 refine Kh (I := Pm ⟨w, cb⟩ (.abs cb (fun w => Cod w cb) :: KE cb w)) Tryz.func22 rfl rfl rfl ?_ (Pm.codes hC (Kbj hC) (Kbl cb));refine zSG (TL.as_ ?_);refine zET (zSG (TL.rn 3 rfl (TL.v (gN Tryz.underlying106) ?_)));refine TL.pC (k := 0) _ _ rfl o21 rfl (fun w1 hw hC1 => Kaa cb w1 (tab.length : Nat) hC1) ?_;rintro ⟨x, hx1, hx2⟩;dsimp only [lC, lN];refine TL.w rfl (Kai (v := .pointer (some ⟨g, x, none⟩)) rfl rfl rfl (fun w => KpQ Tryz.underlying106 Ky g _ _ x (by omega) rfl w)) ?_;obtain ⟨v, hv, hvt⟩ : ∃ v, tab[x]? = some v /\ v ∈ tab := ⟨_, List.getElem?_eq_getElem (by omega), List.getElem_mem _⟩;refine TL.w rfl (Kw (v := .int .i64 v) rfl rfl Kb (fun w1 hw => (Knm (hw.kept (fun q hq => by simp [hq])) (by show g ≠ cb; exact hgc) (by show g < _; exact hgl)).trans (hcell x v hv))) ?_;refine TL.as_ ?_;refine zET (zr ?_);exact Kc Tryz.results22 rfl (fun w1 hw => ⟨⟨v, hvt⟩, rfl, Pm.codr [] (hw) rfl⟩)
theorem KeT (cb : Nat) (w : World) (hC : Cod w cb) :
  Calls Tryz.prog 67 #[.pointer (some ⟨cb, 0, none⟩)] w fun e w' => ∃ x : {a : Int // 167772161 <= a /\ a <= 167772173}, e = .returned (.int .u32 x.1) /\ Codr (fun w => Cod w cb) cb w ([]) w' := by
 refine Kh (I := Pm ⟨w, cb⟩ (.abs cb (fun w => Cod w cb) :: KE cb w)) Tryz.func67 rfl rfl rfl ?_ (Pm.codes hC (Kbj hC) (Kbl cb));refine zSG (TL.as_ ?_);refine zET (zSG (TL.mv ?_));refine TL.prowS (e := 3) (size := 1) (cs := Ka (ic .i64) [1, 2, 5, 6, 9, 10, 12, 13]) rfl rfl rfl rfl rfl (fun w => Kf7 _ _ _ _ _ _ _ _ w) (by decide) rfl (fun g4 => ?_);refine TL.pC (k := 1) _ _ rfl o22 rfl (fun w1 hw hC1 => KaO cb w1 hC1 g4 8 ([1, 2, 5, 6, 9, 10, 12, 13]) (hw.neq (i := 0) (j := 1) rfl rfl (by decide) g4 rfl <| congrArg some ·.symm) (Pc.lt (hw.at_ (k := 0) rfl) g4 rfl).2 (by show 0 < ([1, 2, 5, 6, 9, 10, 12, 13] : List Int).length; simp) (fun i v hi => KaP hw (q := 0) rfl hi)) ?_;rintro ⟨v, hv⟩;dsimp only [lC, lN];have hvb : 1 <= v /\ v <= 13 := by simp only [List.mem_cons, List.not_mem_nil, or_false] at hv; omega
 refine TL.v (gD (167772160 + v)) ?_;refine TL.w rfl (KaW rfl rfl (fun w => Kcc (k := .i64) Tryz.underlying30 Tryz.underlying3 (by simp only [IntKind.wrap_u32]; omega) w)) ?_;refine TL.as_ ?_;refine zET (zr ?_);exact Kc Tryz.results67 rfl (fun w1 hw => ⟨⟨167772160 + v, by omega⟩, rfl, Pm.codr [] (hw.sel (.cons _ (.cons_cons _ (List.Sublist.refl _)))) rfl⟩)
theorem KbP (cb : Nat) (w : World) (hC : Cod w cb) (n : Nat) (hn : n <= 1000) :
  Calls Tryz.prog 18 #[.pointer (some ⟨cb, 0, none⟩), .int .i64 ((n : Nat) : Int)] w fun e w' => ∃ x : Bool, e = .returned (.bool x) /\ Codr (fun w => Cod w cb) cb w ([]) w' := by
 refine Kh (I := Pm ⟨w, cb⟩ (.abs cb (fun w => Cod w cb) :: KE cb w)) Tryz.func18 rfl rfl rfl ?_ (Pm.codes hC (Kbj hC) (Kbl cb));refine zSG (TL.as_ ?_);refine zET (zSG (TL.rn 2 rfl ?_));refine TL.pC (k := 0) _ _ rfl o21 rfl (fun w1 hw hC1 => Kaa cb w1 ((n : Nat) : Int) hC1) ?_;rintro ⟨x, hx1, hx2⟩;dsimp only [lC, lN];refine TL.mv ?_;refine TL.w rfl (Ks rfl rfl rfl (fun w => K0 (r := (n : Int) - 1) (by simp only [IntKind.wrap_i64]; omega) w)) ?_;refine TL.w rfl (Ks rfl rfl rfl (fun w => Kx w)) ?_;refine TL.as_ ?_;refine zET (zr ?_);exact Kc Tryz.results18 rfl (fun w1 hw => ⟨decide (((x : Nat) : Int) = (n : Int) - 1), rfl, Pm.codr [] (hw) rfl⟩)
set_option linter.unusedVariables false
theorem KqC : Kj Tryz.prog 21 := ⟨_, Tryz.func21, by decide, rfl⟩
theorem TL.nx {N : Fr} {Q : Exit -> Act -> World -> Prop} {E : Env} {ops : Array Oper} {l : List Oper} {o : Oper} {w0 : Base} {L : List Pc} {d cb : Nat} {n : Int} (k : Nat) (h0 : Kcm N E o = some (d, 21, [.pointer (some ⟨cb, 0, none⟩), .int .i64 n]))
    (hk : L[k]? = some (.abs cb fun w => Cod w cb)) (h : ∀ q : Nat, q <= 65535 -> (1 <= n -> (q : Int) < n) -> TL Tryz.prog N ops Q l ((d, .int .i64 ((q : Nat) : Int)) :: E) (Pm w0 L)) : TL Tryz.prog N ops Q (o :: l) E (Pm w0 L) :=
  TL.pC (α := {q : Nat // q <= 65535 /\ (1 <= n -> (q : Int) < n)}) (fun q => .int .i64 ((q.1 : Nat) : Int)) (fun _ => []) h0 KqC hk (fun w1 hw hC1 => Kaa cb w1 n hC1) (fun ⟨q, h1, h2⟩ => h q h1 h2)
set_option maxRecDepth 20000
def KcH (t : Trc) : Prop := (0 <= t.v /\ t.v <= 1) /\ (167774464 <= t.dst /\ t.dst <= 167774466) /\ (t.proto = 17 \/ t.proto = 1 \/ t.proto = 6)
structure Nt where
 v : Int
 dst : Int
 proto : Int
 ps : Sg (Sg Int)
 last : Int
def Nt.cells (n : Nt) : List Value := [.int .i64 n.v, .int .u32 n.dst, .int .i64 n.proto, .slice n.ps.A n.ps.l.length n.ps.c, .int .u32 n.last]
theorem Kdn : Cel Nt.cells 5 := ⟨fun _ => rfl, fun r u hu => by
 simp only [Nt.cells, List.mem_cons, List.not_mem_nil, or_false] at hu;rcases hu with rfl | rfl | rfl | rfl | rfl <;> rfl⟩
def KdV (n : Nat) (l : List Int) : Prop := l.length = n /\ ∀ a ∈ l, 0 <= a /\ a <= 167772173
def KcD (n : Nt) : Prop := KcH ⟨n.v, n.dst, n.proto⟩ /\ (1 <= n.last /\ n.last <= 167774466) /\ ∃ lg, 1 <= lg /\ lg <= 3 /\ 1 <= n.ps.l.length /\ n.ps.l.length <= 3 /\ ∀ s ∈ n.ps.l, KdV lg s.l
theorem KcI {p : List Int} {x : Int} (h : ∀ a ∈ p, 0 <= a /\ a <= 167772173) (hx : 0 <= x /\ x <= 167772173) : ∀ a ∈ p ++ [x], 0 <= a /\ a <= 167772173 := fun a ha => by
 rcases List.mem_append.1 ha with ha | ha
 ·exact h a ha
 rw [List.mem_singleton.1 ha]; exact hx
theorem Knc {pp : List (Sg Int)} {s : Sg Int} {n : Nat} (h : ∀ s ∈ pp, KdV n s.l) (hs : KdV n s.l) : ∀ x ∈ pp ++ [s], KdV n x.l := fun a ha => by
 rcases List.mem_append.1 ha with ha | ha
 ·exact h a ha
 rw [List.mem_singleton.1 ha]; exact hs
def Kb2 (p : Sg (Sg Int)) : List Pc := .row (.slice p.A p.l.length p.c) 96 1 p.l.length (Ka sgc p.l) :: KG 30 1 (Ka (ic .u32)) p.l
theorem Kfm (p : Sg (Sg Int)) : Kbw (Kb2 p) = true := by
 have h := KjP (e := 30) (size := 1) (enc := Ka (ic .u32)) p.l;simp only [Kbw, Kb2, List.all_cons, Bool.and_eq_true] at h ⊢;exact ⟨rfl, h⟩
section
variable {w0 : Base} {w : World} {α : Type} {e : TypeId} {size : Nat} {enc : List α -> List Value} {L P O : List Pc} {ss : List (Sg α)} {s : Sg α}
theorem Pm.tuckEnd (h : Pm w0 (.row (.slice s.A s.l.length s.c) e size s.l.length (enc s.l) :: (P ++ (KG e size enc ss ++ O))) w) : Pm w0 (P ++ (KG e size enc (ss ++ [s]) ++ O)) w := by
 refine h.permute ?_;have h1 : KG e size enc (ss ++ [s]) = KG e size enc ss ++ [.row (.slice s.A s.l.length s.c) e size s.l.length (enc s.l)] := List.map_append;rw [h1, List.append_assoc];refine List.perm_middle.symm.trans (List.Perm.append_left P ?_);exact List.perm_middle.symm
theorem Pm.netOut {p : Sg (Sg Int)} {a : Pc} (h : Pm w0 (.row (.slice p.A p.l.length p.c) 96 1 p.l.length (Ka sgc p.l) :: a :: (KG 30 1 (Ka (ic .u32)) p.l ++ O)) w) : Pm w0 (Kb2 p ++ a :: O) w := by
 refine h.permute (List.Perm.cons _ ?_);exact List.perm_middle.symm
theorem KhO {T : List Pc} (h : s ∈ ss) : Pc.row (.slice s.A s.l.length s.c) e size s.l.length (enc s.l) ∈ KG e size enc ss ++ T := List.mem_append_left _ (List.mem_map_of_mem (f := Sg.pc e size enc) h)
theorem Kfc {A : Option Addr} {n c : Nat} {xs : List Value} (h : Pm w0 L w) (hm : Pc.row (.slice A n c) e size n xs ∈ L) (hn : 0 < n) : ∃ g, A = some ⟨g, 0, none⟩ := by
 obtain ⟨k, hk⟩ := List.getElem?_of_mem hm;exact KL h hk hn
theorem Ke7 {c : α -> List Value} {k g i : Nat} {x : α} (K : Cel c k) (h : Pm w0 L w) (hm : Pc.row (.slice s.A s.l.length s.c) e k s.l.length (Ka c s.l) ∈ L) (hA : s.A = some ⟨g, 0, none⟩) (hx : s.l[i]? = some x) (j : Nat) (u : Value) (hu : (c x)[j]? = some u) : w.cell? ⟨g, 0 + i * k + j, none⟩ = some u := by
 obtain ⟨q, hq⟩ := List.getElem?_of_mem hm;rw [hA] at hq;exact Kv K h hq hx j u hu
end
theorem Kge (w : World) : (zeroValue 92).run Tryz.prog w = .ok (.agg #[.int .i64 0, .int .u32 0, .int .i64 0, .slice none 0 0, .int .u32 0]) w := rfl
theorem KnY (a0_0 : Int) (a0_1 : Int) (a0_2 : Int) (w : World) : (Instr.build 92 #[(0, .agg #[.int .i64 a0_0, .int .u32 a0_1, .int .i64 a0_2])]).run Tryz.prog w = .ok (.agg #[.int .i64 a0_0, .int .u32 a0_1, .int .i64 a0_2, .slice none 0 0, .int .u32 0]) w := by kernel_rfl
theorem Kc8 (w : World) : (sizeOf 92).run Tryz.prog w = .ok 5 w := rfl
theorem KbZ : FA Tryz.prog 92 0 0 := fun g o w => by kernel_rfl
theorem Kf1 : FA Tryz.prog 92 2 4 := fun g o w => by kernel_rfl
theorem Kc6 (w : World) : (sizeOf 30).run Tryz.prog w = .ok 1 w := rfl
theorem Kks {a0 : Int} : ∀ u ∈ [(.int .u32 a0 : Value)], u.oneCell' = true := by
 intro u hu;rw [List.mem_singleton] at hu;subst hu; rfl
theorem Kcv : FA Tryz.prog 92 1 3 := fun g o w => by kernel_rfl
theorem Kdj (w : World) : (isAgg 90).run Tryz.prog w = .ok false w := rfl
theorem Kek (w : World) : (sizeOf 96).run Tryz.prog w = .ok 1 w := rfl
theorem Kd1 (w : World) : (isAgg 96).run Tryz.prog w = .ok false w := rfl
theorem KcQ (a0_0 : Int) (w : World) : (Instr.buildSlice 96 1 #[(0, .int .u32 a0_0)]).run Tryz.prog w = .ok (.slice (some ⟨w.heap.size, 0, none⟩) 1 1) (w.alloc (.cells [.int .u32 a0_0].toArray 30)) := by kernel_rfl
theorem KcT : Elem Tryz.prog 96 30 1 4 := Elem.mk' Tryz.underlying96 (z := .int .u32 0) (by kernel_rfl) rfl (by omega) (by omega)
theorem KkX (a0_0 : Option Addr) (a0_0n a0_0c : Nat) (w : World) : (Instr.buildSlice 90 1 #[(0, .slice a0_0 a0_0n a0_0c)]).run Tryz.prog w = .ok (.slice (some ⟨w.heap.size, 0, none⟩) 1 1) (w.alloc (.cells [.slice a0_0 a0_0n a0_0c].toArray 96)) := by kernel_rfl
theorem Kk5 : Elem Tryz.prog 90 96 1 24 := Elem.mk' Tryz.underlying90 (z := .slice none 0 0) (by kernel_rfl) rfl (by omega) (by omega)
theorem KjO (w : World) : (sizeOf 90).run Tryz.prog w = .ok 1 w := rfl
theorem Kc5 {a0 : Option Addr} {n0 c0 : Nat} : ∀ u ∈ [(.slice a0 n0 c0 : Value)], u.oneCell' = true := by
 intro u hu;rw [List.mem_singleton] at hu;subst hu; rfl
theorem KhZ (w : World) : (isAgg 92).run Tryz.prog w = .ok true w := rfl
theorem KnU (cb : Nat) (w : World) (hC : Cod w cb) :
  Calls Tryz.prog 119 #[.pointer (some ⟨cb, 0, none⟩)] w fun e w' => ∃ x : {v : Int // v = 17 \/ v = 1 \/ v = 6}, e = .returned (.int .i64 x.1) /\ Codr (fun w => Cod w cb) cb w ([]) w' := by
 refine Kh (I := Pm ⟨w, cb⟩ (.abs cb (fun w => Cod w cb) :: KE cb w)) Tryz.func119 rfl rfl rfl ?_ (Pm.codes hC (Kbj hC) (Kbl cb));refine zSG (TL.as_ ?_);refine zET (zSG (TL.mv ?_));refine TL.prowS (e := 3) (size := 1) (cs := Ka (ic .i64) [17, 1, 6]) rfl rfl rfl rfl rfl (fun w => KdH _ _ _ w) (by decide) rfl (fun g4 => ?_);refine TL.pC (k := 1) _ _ rfl o22 rfl (fun w1 hw hC1 => KaO cb w1 hC1 g4 3 ([17, 1, 6]) (hw.neq (i := 0) (j := 1) rfl rfl (by decide) g4 rfl <| congrArg some ·.symm) (Pc.lt (hw.at_ (k := 0) rfl) g4 rfl).2 (by show 0 < ([17, 1, 6] : List Int).length; simp) (fun i v hi => KaP hw (q := 0) rfl hi)) ?_;rintro ⟨v, hv⟩;dsimp only [lC, lN];have hvb : v = 17 \/ v = 1 \/ v = 6 := by simpa using hv
 refine TL.as_ ?_;refine zET (zr ?_);exact Kc Tryz.results119 rfl (fun w1 hw => ⟨⟨v, hvb⟩, rfl, Pm.codr [] (hw.sel (.cons _ (.cons_cons _ (List.Sublist.refl _)))) rfl⟩)
theorem Khv (cb : Nat) (w : World) (hC : Cod w cb) :
  Calls Tryz.prog 68 #[.pointer (some ⟨cb, 0, none⟩)] w fun e w' => ∃ x : {t : Trc // KcH t}, e = .returned (.agg x.1.cells.toArray) /\ Codr (fun w => Cod w cb) cb w ([]) w' := by
 refine Kh (I := Pm ⟨w, cb⟩ (.abs cb (fun w => Cod w cb) :: KE cb w)) Tryz.func68 rfl rfl rfl ?_ (Pm.codes hC (Kbj hC) (Kbl cb));refine zSG ?_;refine TL.al Keq fun g2 => ?_;refine zET (zSG (TL.mv ?_));refine TL.nx 1 rfl rfl fun a0 ha01 ha02 => ?_;refine TL.mv ?_;refine TL.nx 1 rfl rfl fun a1 ha11 ha12 => ?_;refine TL.v (gD ((167774464 + a1 : Nat) : Int)) ?_;refine TL.w rfl (KaW rfl rfl (fun w => Kcc (k := .i64) Tryz.underlying30 Tryz.underlying3 (by simp only [IntKind.wrap_u32]; omega) w)) ?_;refine TL.mv ?_;refine TL.pC (k := 1) _ _ rfl Knw rfl (fun w1 hw hC1 => KnU cb w1 hC1) ?_;rintro ⟨pp, hpp⟩;dsimp only [lC, lN];refine TL.w rfl (Kt (v := .agg #[.int .i64 ((a0 : Nat) : Int), .int .u32 ((167774464 + a1 : Nat) : Int), .int .i64 pp]) rfl rfl (fun w => Kgb _ _ _ w)) ?_;refine TL.ps 0 Kaj ?_;refine zET (zr ?_);exact KaN (k := 0) Tryz.results68 rfl rfl Tryz.underlying32 rfl rfl (fun w1 hw => ⟨⟨⟨((a0 : Nat) : Int), ((167774464 + a1 : Nat) : Int), pp⟩, by unfold KcH; dsimp only; omega⟩, rfl, Pm.codr [] (hw.sel (.cons _ (.cons_cons _ (List.Sublist.refl _)))) rfl⟩)
theorem Kgt (cb : Nat) (w : World) (hC : Cod w cb) :
  Calls Tryz.prog 63 #[.pointer (some ⟨cb, 0, none⟩)] w fun e w' => ∃ x : {y : Nt // KcD y}, e = .returned (.agg x.1.cells.toArray) /\ Codr (fun w => Cod w cb) cb w (Kb2 x.1.ps) w' := by
 refine Kh (I := Pm ⟨w, cb⟩ (.abs cb (fun w => Cod w cb) :: KE cb w)) Tryz.func63 rfl rfl rfl ?_ (Pm.codes hC (Kbj hC) (Kbl cb));refine zSG ?_;refine TL.al Kge fun g2 => ?_;refine zET (zSG (TL.mv ?_));refine TL.pC (k := 1) _ _ rfl o68 rfl (fun w1 hw hC1 => Khv cb w1 hC1) ?_;rintro ⟨tr, htr⟩;dsimp only [lC, lN];refine TL.w rfl (Kt (v := .agg #[.int .i64 tr.v, .int .u32 tr.dst, .int .i64 tr.proto, .slice none 0 0, .int .u32 0]) rfl rfl (fun w => KnY _ _ _ w)) ?_;refine TL.al Kge fun g3 => ?_;refine TL.ps 0 Kc8 ?_;refine zET (zS ?_);have htr2 := htr;unfold KcH at htr2;refine zG (TL.v (gF KbZ) ?_);refine TL.v (gF KbR) ?_;refine TL.v (gL 0 KO) ?_;refine TL.v (gF Kf1) ?_;refine TL.ps 0 Kc6 ?_;refine zET ?_;refine TC.join (α := {a : Int // 1 <= a /\ a <= 167774466}) (fun y => [(0, .pointer (some ⟨cb, 0, none⟩)), (2, .pointer (some ⟨g2, 0, none⟩)), (3, .pointer (some ⟨g3, 0, none⟩))]) (fun y => Pm ⟨w, cb⟩ ([.blk g3 92 [.int .i64 tr.v, .int .u32 tr.dst, .int .i64 tr.proto, .slice none 0 0, .int .u32 y.1], .blk g2 92 [.int .i64 0, .int .u32 0, .int .i64 0, .slice none 0 0, .int .u32 0], .abs cb (fun w => Cod w cb)] ++ KE cb w)) ?_ ?_
 ·refine zSG (TL.mv ?_);refine TL.pC (k := 2) _ _ rfl o18 rfl (fun w1 hw hC1 => KbP cb w1 hC1 4 (by decide)) ?_;rintro b0;dsimp only [lC, lN];refine zET ?_;refine TC.split (t := b0) rfl (fun c17 => ?_) (fun c17 => ?_)
  ·refine zG (TL.mv ?_);refine TL.pC (k := 2) _ _ rfl o67 rfl (fun w1 hw hC1 => KeT cb w1 hC1) ?_;rintro ⟨ad, had1, had2⟩;dsimp only [lC, lN];refine TL.v (gF Kf1) ?_;refine TL.ps 0 Kc6 ?_;refine zE ?_;exact TX.jd (⟨ad, by omega⟩) (fun w1 hw => hw)
  refine zk ?_;exact TX.jd (⟨tr.dst, by omega⟩) (fun w1 hw => hw)
 rintro ⟨la, hla⟩;dsimp only at hla ⊢;refine zSG (TL.mv ?_);refine TL.nx 2 rfl rfl fun lg hlg1 hlg2 => ?_;refine TL.v (gD ((lg + 1 : Nat) : Int)) ?_;refine TL.as_ ?_;refine zET (zS (zSG (TL.as_ ?_)));refine zET (zB (TC.nilrow 96 1 ?_));refine TC.lp (α := {y : Nat × (Option Addr × Nat) × List (Sg Int) // y.1 <= 3 /\ y.2.2.length = y.1 /\ (∀ s ∈ y.2.2, KdV (lg + 1) s.l) /\ y.2.2.length <= y.2.1.2 /\ y.2.1.2 <= maxLen}) [0, 2, 3, 4] rfl (fun y => [(5, .int .i64 ((y.1.1 : Nat) : Int))]) (fun y => Pm ⟨w, cb⟩ ([.row (.slice y.1.2.1.1 y.1.2.2.length y.1.2.1.2) 96 1 y.1.2.2.length (Ka sgc y.1.2.2), .blk g3 92 [.int .i64 tr.v, .int .u32 tr.dst, .int .i64 tr.proto, .slice y.1.2.1.1 y.1.2.2.length y.1.2.1.2, .int .u32 la], .blk g2 92 [.int .i64 0, .int .u32 0, .int .i64 0, .slice none 0 0, .int .u32 0], .abs cb (fun w => Cod w cb)] ++ (KG 30 1 (Ka (ic .u32)) y.1.2.2 ++ KE cb w))) (fun y => 3 - y.1.1) (⟨(0, (none, 0), []), Nat.zero_le _, rfl, fun s hs => absurd hs List.not_mem_nil, Nat.le_refl _, Nat.zero_le _⟩) (fun w1 hw => hw) ?_;rintro ⟨⟨f, ⟨Ap, cp⟩, pp⟩, hf, hfl, hpw, hpc, hpm⟩;dsimp only at hf hfl hpw hpc hpm ⊢;refine zS (zSG (TL.rn 2 rfl ?_));refine TL.nx 3 rfl rfl fun nf hnf1 hnf2 => ?_;refine TL.v (gD ((1 + nf : Nat) : Int)) ?_;refine TL.sp Kk (fun q28 => ?_) (fun q28 => ?_)
 ·refine zET (zc (zk (zT (zS (zB (zSG (TL.as_ ?_)))))));refine zET (zS (zSG (TL.as_ ?_)));refine zET (zB (TC.nilrow 30 1 ?_));refine TC.lp (α := {y : Nat × (Option Addr × Nat) × List Int // y.1 <= lg + 1 /\ y.2.2.length = y.1 /\ (∀ a ∈ y.2.2, 0 <= a /\ a <= 167772173) /\ y.2.2.length <= y.2.1.2 /\ y.2.1.2 <= maxLen}) [0, 2, 3, 4, 5] rfl (fun y => [(7, .int .i64 ((y.1.1 : Nat) : Int)), (6, .slice y.1.2.1.1 y.1.2.2.length y.1.2.1.2)]) (fun y => Pm ⟨w, cb⟩ ([.row (.slice y.1.2.1.1 y.1.2.2.length y.1.2.1.2) 30 1 y.1.2.2.length (Ka (ic .u32) y.1.2.2), .row (.slice Ap pp.length cp) 96 1 pp.length (Ka sgc pp), .blk g3 92 [.int .i64 tr.v, .int .u32 tr.dst, .int .i64 tr.proto, .slice Ap pp.length cp, .int .u32 la], .blk g2 92 [.int .i64 0, .int .u32 0, .int .i64 0, .slice none 0 0, .int .u32 0], .abs cb (fun w => Cod w cb)] ++ (KG 30 1 (Ka (ic .u32)) pp ++ KE cb w))) (fun y => lg + 1 - y.1.1) (⟨(0, (none, 0), []), Nat.zero_le _, rfl, fun s hs => absurd hs List.not_mem_nil, Nat.le_refl _, Nat.zero_le _⟩) (fun w1 hw => hw) ?_;rintro ⟨⟨i, ⟨Aq, cq⟩, p⟩, hi, hil, hpr, hqc, hqm⟩;dsimp only at hi hil hpr hqc hqm ⊢;refine zS (zSG (TL.rn 2 rfl ?_));refine TL.sp Kk (fun q33 => ?_) (fun q33 => ?_)
  ·refine zET (zc (zk (zT (zS (zB (zSG (TL.mv ?_)))))));refine TL.pC (k := 4) _ _ rfl o67 rfl (fun w1 hw hC1 => KeT cb w1 hC1) ?_;rintro ⟨ad, had1, had2⟩;dsimp only [lC, lN];refine TL.as_ ?_;refine zET (zS (zSG (TL.mv ?_)));refine TL.pC (k := 4) _ _ rfl o18 rfl (fun w1 hw hC1 => KbP cb w1 hC1 6 (by decide)) ?_;rintro b1;dsimp only [lC, lN];refine zET ?_;refine TC.split (t := b1) rfl (fun c39 => ?_) (fun c39 => ?_)
   ·refine zG (TL.as_ ?_);refine zET (zS (zSG (TL.mv ?_)));refine TL.sp KK (fun q41 => ?_) (fun q41 => ?_)
    ·refine TL.rn 2 rfl (TL.ov (gF Kcv) ?_);refine TL.ov (gL 2 Kdj) ?_;refine TL.gu ?_;refine TL.fact (p := ∃ g, Ap = some ⟨g, 0, none⟩) (fun w1 hw => KL hw (k := 1) rfl (by omega)) ?_;rintro ⟨g_Ap, rfl⟩;have hi46 : 0 < pp.length := by omega
     obtain ⟨x46, hx46⟩ := Ko hi46;refine TL.w rfl (gA (i := 0) Tryz.underlying90 Kek rfl rfl rfl rfl rfl (by omega)) ?_;refine TL.gu ?_;refine TL.w rfl (Kw (v := .slice x46.A x46.l.length x46.c) rfl rfl Kd1 (fun w1 hw => Kv Kbf hw (q := 1) rfl hx46 0 _ rfl)) ?_;refine TL.ov (gN Tryz.underlying96) ?_;refine TL.gu ?_;refine TL.sp Kk (fun q49 => ?_) (fun q49 => ?_)
     ·refine TL.rn 3 rfl (TL.gu ?_);refine TL.pC (k := 4) _ _ rfl o18 rfl (fun w1 hw hC1 => KbP cb w1 hC1 3 (by decide)) ?_;rintro b2;dsimp only [lC, lN]
      cases b2 with
      | true =>
       refine TL.rn 2 rfl (zET (zd (zk (zT (zG (TL.rn 2 rfl ?_))))));refine TL.prowS (e := 30) (size := 1) (cs := Ka (ic .u32) [0]) rfl rfl rfl rfl rfl (fun w => KcQ _ w) (by decide) rfl (fun g65 => ?_);refine TL.appendT (k := 1) rfl rfl rfl rfl Tryz.underlying96 KcT rfl rfl rfl (fun w1 hw => KN hw (k := 0) rfl) (KA (KQ .u32) _) (by show _ * 4 <= _; omega) ((p ++ [0]).length) (by rw [List.length_append]; rfl) (Ka (ic .u32) (p ++ [0])) ((KF _ _).symm) (fun A66 c66 hA661 hA662 => ?_);refine TL.as_ ?_;refine zE (zN (zT (zG (TL.mv ?_))));refine TL.v (gD ((i + 1 : Nat) : Int)) ?_;refine TL.as_ ?_;refine zE ?_;exact TX.rd (⟨(i + 1, (A66, c66), p ++ [0]), by dsimp only; omega, by dsimp only; rw [List.length_append]; show p.length + 1 = i + 1; omega, KcI hpr (by omega), hA661, hA662⟩) (by show lg + 1 - (i + 1) < lg + 1 - i; omega) (fun w1 hw => hw.sel (.cons _ (.cons_cons _ (.cons_cons _ (.cons_cons _ (.cons_cons _ (.cons_cons _ (List.Sublist.refl _))))))))
      | false =>
       refine TL.rn 2 rfl (zET (zc (zG (TL.v (gF Kcv) ?_))));refine TL.v (gL 2 Kdj) ?_;refine TL.w rfl (gA (i := 0) Tryz.underlying90 Kek rfl rfl rfl rfl rfl (by omega)) ?_;refine TL.w rfl (Kw (v := .slice x46.A x46.l.length x46.c) rfl rfl Kd1 (fun w1 hw => Kv Kbf hw (q := 1) rfl hx46 0 _ rfl)) ?_;refine TL.mv ?_;have hmm61 := KhO (e := 30) (size := 1) (enc := Ka (ic .u32)) (T := KE cb w) (List.mem_of_getElem? hx46);refine TL.fact (p := ∃ g, x46.A = some ⟨g, 0, none⟩) (fun w1 hw => Kfc hw (List.mem_of_mem_drop (i := 5) (by exact hmm61)) (by omega)) ?_;rintro ⟨gx61, hgx61⟩;obtain ⟨z61, hz61⟩ : ∃ z, x46.l[i]? = some z := ⟨_, List.getElem?_eq_getElem (by omega)⟩;refine TL.w rfl (gA (i := i) Tryz.underlying96 Kc6 rfl rfl rfl rfl hgx61 (by omega)) ?_;refine TL.w rfl (Kw (v := .int .u32 z61) rfl rfl KO (fun w1 hw => Ke7 (KQ .u32) hw (List.mem_of_mem_drop (i := 5) (by exact hmm61)) hgx61 hz61 0 _ rfl)) ?_;have hzr := (hpw x46 (List.mem_of_getElem? hx46)).2 z61 (List.mem_of_getElem? hz61);refine TL.as_ ?_;refine zET (zG (TL.rn 2 rfl ?_));refine TL.prowS (e := 30) (size := 1) (cs := Ka (ic .u32) [z61]) rfl rfl rfl rfl rfl (fun w => KcQ _ w) (by decide) rfl (fun g65 => ?_);refine TL.appendT (k := 1) rfl rfl rfl rfl Tryz.underlying96 KcT rfl rfl rfl (fun w1 hw => KN hw (k := 0) rfl) (KA (KQ .u32) _) (by show _ * 4 <= _; omega) ((p ++ [z61]).length) (by rw [List.length_append]; rfl) (Ka (ic .u32) (p ++ [z61])) ((KF _ _).symm) (fun A66 c66 hA661 hA662 => ?_);refine TL.as_ ?_;refine zE (zN (zT (zG (TL.mv ?_))));refine TL.v (gD ((i + 1 : Nat) : Int)) ?_;refine TL.as_ ?_;refine zE ?_;exact TX.rd (⟨(i + 1, (A66, c66), p ++ [z61]), by dsimp only; omega, by dsimp only; rw [List.length_append]; show p.length + 1 = i + 1; omega, KcI hpr (by exact hzr), hA661, hA662⟩) (by show lg + 1 - (i + 1) < lg + 1 - i; omega) (fun w1 hw => hw.sel (.cons _ (.cons_cons _ (.cons_cons _ (.cons_cons _ (.cons_cons _ (.cons_cons _ (List.Sublist.refl _))))))))
     refine TL.rn 6 rfl (zET (zd (zk (zT (zG (TL.rn 2 rfl ?_))))));refine TL.prowS (e := 30) (size := 1) (cs := Ka (ic .u32) [0]) rfl rfl rfl rfl rfl (fun w => KcQ _ w) (by decide) rfl (fun g65 => ?_);refine TL.appendT (k := 1) rfl rfl rfl rfl Tryz.underlying96 KcT rfl rfl rfl (fun w1 hw => KN hw (k := 0) rfl) (KA (KQ .u32) _) (by show _ * 4 <= _; omega) ((p ++ [0]).length) (by rw [List.length_append]; rfl) (Ka (ic .u32) (p ++ [0])) ((KF _ _).symm) (fun A66 c66 hA661 hA662 => ?_);refine TL.as_ ?_;refine zE (zN (zT (zG (TL.mv ?_))));refine TL.v (gD ((i + 1 : Nat) : Int)) ?_;refine TL.as_ ?_;refine zE ?_;exact TX.rd (⟨(i + 1, (A66, c66), p ++ [0]), by dsimp only; omega, by dsimp only; rw [List.length_append]; show p.length + 1 = i + 1; omega, KcI hpr (by omega), hA661, hA662⟩) (by show lg + 1 - (i + 1) < lg + 1 - i; omega) (fun w1 hw => hw.sel (.cons _ (.cons_cons _ (.cons_cons _ (.cons_cons _ (.cons_cons _ (.cons_cons _ (List.Sublist.refl _))))))))
    refine TL.rn 14 rfl (zET (zd (zk (zT (zG (TL.rn 2 rfl ?_))))));refine TL.prowS (e := 30) (size := 1) (cs := Ka (ic .u32) [0]) rfl rfl rfl rfl rfl (fun w => KcQ _ w) (by decide) rfl (fun g65 => ?_);refine TL.appendT (k := 1) rfl rfl rfl rfl Tryz.underlying96 KcT rfl rfl rfl (fun w1 hw => KN hw (k := 0) rfl) (KA (KQ .u32) _) (by show _ * 4 <= _; omega) ((p ++ [0]).length) (by rw [List.length_append]; rfl) (Ka (ic .u32) (p ++ [0])) ((KF _ _).symm) (fun A66 c66 hA661 hA662 => ?_);refine TL.as_ ?_;refine zE (zN (zT (zG (TL.mv ?_))));refine TL.v (gD ((i + 1 : Nat) : Int)) ?_;refine TL.as_ ?_;refine zE ?_;exact TX.rd (⟨(i + 1, (A66, c66), p ++ [0]), by dsimp only; omega, by dsimp only; rw [List.length_append]; show p.length + 1 = i + 1; omega, KcI hpr (by omega), hA661, hA662⟩) (by show lg + 1 - (i + 1) < lg + 1 - i; omega) (fun w1 hw => hw.sel (.cons _ (.cons_cons _ (.cons_cons _ (.cons_cons _ (.cons_cons _ (.cons_cons _ (List.Sublist.refl _))))))))
   refine zk (zT (zS (zSG ?_)));refine TL.mv ?_;refine TL.sp KK (fun q41 => ?_) (fun q41 => ?_)
   ·refine TL.rn 2 rfl (TL.ov (gF Kcv) ?_);refine TL.ov (gL 2 Kdj) ?_;refine TL.gu ?_;refine TL.fact (p := ∃ g, Ap = some ⟨g, 0, none⟩) (fun w1 hw => KL hw (k := 1) rfl (by omega)) ?_;rintro ⟨g_Ap, rfl⟩;have hi46 : 0 < pp.length := by omega
    obtain ⟨x46, hx46⟩ := Ko hi46;refine TL.w rfl (gA (i := 0) Tryz.underlying90 Kek rfl rfl rfl rfl rfl (by omega)) ?_;refine TL.gu ?_;refine TL.w rfl (Kw (v := .slice x46.A x46.l.length x46.c) rfl rfl Kd1 (fun w1 hw => Kv Kbf hw (q := 1) rfl hx46 0 _ rfl)) ?_;refine TL.ov (gN Tryz.underlying96) ?_;refine TL.gu ?_;refine TL.sp Kk (fun q49 => ?_) (fun q49 => ?_)
    ·refine TL.rn 3 rfl (TL.gu ?_);refine TL.pC (k := 4) _ _ rfl o18 rfl (fun w1 hw hC1 => KbP cb w1 hC1 3 (by decide)) ?_;rintro b2;dsimp only [lC, lN]
     cases b2 with
     | true =>
      refine TL.rn 2 rfl (zET (zd (zk (zT (zG (TL.rn 2 rfl ?_))))));refine TL.prowS (e := 30) (size := 1) (cs := Ka (ic .u32) [ad]) rfl rfl rfl rfl rfl (fun w => KcQ _ w) (by decide) rfl (fun g65 => ?_);refine TL.appendT (k := 1) rfl rfl rfl rfl Tryz.underlying96 KcT rfl rfl rfl (fun w1 hw => KN hw (k := 0) rfl) (KA (KQ .u32) _) (by show _ * 4 <= _; omega) ((p ++ [ad]).length) (by rw [List.length_append]; rfl) (Ka (ic .u32) (p ++ [ad])) ((KF _ _).symm) (fun A66 c66 hA661 hA662 => ?_);refine TL.as_ ?_;refine zE (zN (zT (zG (TL.mv ?_))));refine TL.v (gD ((i + 1 : Nat) : Int)) ?_;refine TL.as_ ?_;refine zE ?_;exact TX.rd (⟨(i + 1, (A66, c66), p ++ [ad]), by dsimp only; omega, by dsimp only; rw [List.length_append]; show p.length + 1 = i + 1; omega, KcI hpr (by omega), hA661, hA662⟩) (by show lg + 1 - (i + 1) < lg + 1 - i; omega) (fun w1 hw => hw.sel (.cons _ (.cons_cons _ (.cons_cons _ (.cons_cons _ (.cons_cons _ (.cons_cons _ (List.Sublist.refl _))))))))
     | false =>
      refine TL.rn 2 rfl (zET (zc (zG (TL.v (gF Kcv) ?_))));refine TL.v (gL 2 Kdj) ?_;refine TL.w rfl (gA (i := 0) Tryz.underlying90 Kek rfl rfl rfl rfl rfl (by omega)) ?_;refine TL.w rfl (Kw (v := .slice x46.A x46.l.length x46.c) rfl rfl Kd1 (fun w1 hw => Kv Kbf hw (q := 1) rfl hx46 0 _ rfl)) ?_;refine TL.mv ?_;have hmm61 := KhO (e := 30) (size := 1) (enc := Ka (ic .u32)) (T := KE cb w) (List.mem_of_getElem? hx46);refine TL.fact (p := ∃ g, x46.A = some ⟨g, 0, none⟩) (fun w1 hw => Kfc hw (List.mem_of_mem_drop (i := 5) (by exact hmm61)) (by omega)) ?_;rintro ⟨gx61, hgx61⟩;obtain ⟨z61, hz61⟩ : ∃ z, x46.l[i]? = some z := ⟨_, List.getElem?_eq_getElem (by omega)⟩;refine TL.w rfl (gA (i := i) Tryz.underlying96 Kc6 rfl rfl rfl rfl hgx61 (by omega)) ?_;refine TL.w rfl (Kw (v := .int .u32 z61) rfl rfl KO (fun w1 hw => Ke7 (KQ .u32) hw (List.mem_of_mem_drop (i := 5) (by exact hmm61)) hgx61 hz61 0 _ rfl)) ?_;have hzr := (hpw x46 (List.mem_of_getElem? hx46)).2 z61 (List.mem_of_getElem? hz61);refine TL.as_ ?_;refine zET (zG (TL.rn 2 rfl ?_));refine TL.prowS (e := 30) (size := 1) (cs := Ka (ic .u32) [z61]) rfl rfl rfl rfl rfl (fun w => KcQ _ w) (by decide) rfl (fun g65 => ?_);refine TL.appendT (k := 1) rfl rfl rfl rfl Tryz.underlying96 KcT rfl rfl rfl (fun w1 hw => KN hw (k := 0) rfl) (KA (KQ .u32) _) (by show _ * 4 <= _; omega) ((p ++ [z61]).length) (by rw [List.length_append]; rfl) (Ka (ic .u32) (p ++ [z61])) ((KF _ _).symm) (fun A66 c66 hA661 hA662 => ?_);refine TL.as_ ?_;refine zE (zN (zT (zG (TL.mv ?_))));refine TL.v (gD ((i + 1 : Nat) : Int)) ?_;refine TL.as_ ?_;refine zE ?_;exact TX.rd (⟨(i + 1, (A66, c66), p ++ [z61]), by dsimp only; omega, by dsimp only; rw [List.length_append]; show p.length + 1 = i + 1; omega, KcI hpr (by exact hzr), hA661, hA662⟩) (by show lg + 1 - (i + 1) < lg + 1 - i; omega) (fun w1 hw => hw.sel (.cons _ (.cons_cons _ (.cons_cons _ (.cons_cons _ (.cons_cons _ (.cons_cons _ (List.Sublist.refl _))))))))
    refine TL.rn 6 rfl (zET (zd (zk (zT (zG (TL.rn 2 rfl ?_))))));refine TL.prowS (e := 30) (size := 1) (cs := Ka (ic .u32) [ad]) rfl rfl rfl rfl rfl (fun w => KcQ _ w) (by decide) rfl (fun g65 => ?_);refine TL.appendT (k := 1) rfl rfl rfl rfl Tryz.underlying96 KcT rfl rfl rfl (fun w1 hw => KN hw (k := 0) rfl) (KA (KQ .u32) _) (by show _ * 4 <= _; omega) ((p ++ [ad]).length) (by rw [List.length_append]; rfl) (Ka (ic .u32) (p ++ [ad])) ((KF _ _).symm) (fun A66 c66 hA661 hA662 => ?_);refine TL.as_ ?_;refine zE (zN (zT (zG (TL.mv ?_))));refine TL.v (gD ((i + 1 : Nat) : Int)) ?_;refine TL.as_ ?_;refine zE ?_;exact TX.rd (⟨(i + 1, (A66, c66), p ++ [ad]), by dsimp only; omega, by dsimp only; rw [List.length_append]; show p.length + 1 = i + 1; omega, KcI hpr (by omega), hA661, hA662⟩) (by show lg + 1 - (i + 1) < lg + 1 - i; omega) (fun w1 hw => hw.sel (.cons _ (.cons_cons _ (.cons_cons _ (.cons_cons _ (.cons_cons _ (.cons_cons _ (List.Sublist.refl _))))))))
   refine TL.rn 14 rfl (zET (zd (zk (zT (zG (TL.rn 2 rfl ?_))))));refine TL.prowS (e := 30) (size := 1) (cs := Ka (ic .u32) [ad]) rfl rfl rfl rfl rfl (fun w => KcQ _ w) (by decide) rfl (fun g65 => ?_);refine TL.appendT (k := 1) rfl rfl rfl rfl Tryz.underlying96 KcT rfl rfl rfl (fun w1 hw => KN hw (k := 0) rfl) (KA (KQ .u32) _) (by show _ * 4 <= _; omega) ((p ++ [ad]).length) (by rw [List.length_append]; rfl) (Ka (ic .u32) (p ++ [ad])) ((KF _ _).symm) (fun A66 c66 hA661 hA662 => ?_);refine TL.as_ ?_;refine zE (zN (zT (zG (TL.mv ?_))));refine TL.v (gD ((i + 1 : Nat) : Int)) ?_;refine TL.as_ ?_;refine zE ?_;exact TX.rd (⟨(i + 1, (A66, c66), p ++ [ad]), by dsimp only; omega, by dsimp only; rw [List.length_append]; show p.length + 1 = i + 1; omega, KcI hpr (by omega), hA661, hA662⟩) (by show lg + 1 - (i + 1) < lg + 1 - i; omega) (fun w1 hw => hw.sel (.cons _ (.cons_cons _ (.cons_cons _ (.cons_cons _ (.cons_cons _ (.cons_cons _ (List.Sublist.refl _))))))))
  refine zET (zd (zx (zX (zX (zM (zT (zG (TL.v (gF Kcv) ?_))))))));refine TL.v (gL 2 Kdj) ?_;refine TL.mv ?_;refine TL.prowS (e := 96) (size := 1) (cs := Ka sgc [(⟨Aq, cq, p⟩ : Sg Int)]) rfl rfl rfl rfl rfl (fun w => KkX _ _ _ w) (by decide) rfl (fun g70 => ?_);refine TL.appendT (k := 2) rfl rfl rfl rfl Tryz.underlying90 Kk5 rfl rfl rfl (fun w1 hw => KN hw (k := 0) rfl) (KA Kbf _) (by show _ * 24 <= _; omega) ((pp ++ [(⟨Aq, cq, p⟩ : Sg Int)]).length) (by rw [List.length_append]; rfl) (Ka sgc (pp ++ [(⟨Aq, cq, p⟩ : Sg Int)])) ((KF _ _).symm) (fun A71 c71 hA711 hA712 => ?_);refine TL.v (gF Kcv) ?_;refine TL.ps 3 KjO ?_;refine zE (zN (zT (zG (TL.mv ?_))));refine TL.v (gD ((f + 1 : Nat) : Int)) ?_;refine TL.as_ ?_;refine zE ?_;exact TX.rd (⟨(f + 1, (A71, c71), pp ++ [(⟨Aq, cq, p⟩ : Sg Int)]), by dsimp only; omega, by dsimp only; rw [List.length_append]; show pp.length + 1 = f + 1; omega, Knc hpw ⟨by show p.length = _; omega, hpr⟩, hA711, hA712⟩) (by show 3 - (f + 1) < 3 - f; omega) (fun w1 hw => Pm.tuckEnd (s := ⟨Aq, cq, p⟩) (P := [.row (.slice A71 ((pp ++ [(⟨Aq, cq, p⟩ : Sg Int)]).length) c71) 96 1 ((pp ++ [(⟨Aq, cq, p⟩ : Sg Int)]).length) (Ka sgc (pp ++ [(⟨Aq, cq, p⟩ : Sg Int)])), .blk g3 92 [.int .i64 tr.v, .int .u32 tr.dst, .int .i64 tr.proto, .slice A71 ((pp ++ [(⟨Aq, cq, p⟩ : Sg Int)]).length) c71, .int .u32 la], .blk g2 92 [.int .i64 0, .int .u32 0, .int .i64 0, .slice none 0 0, .int .u32 0], .abs cb (fun w => Cod w cb)]) (hw.sel (.cons _ (.cons_cons _ (.cons_cons _ (.cons_cons _ (.cons_cons _ (.cons_cons _ (List.Sublist.refl _)))))))))
 refine zET (zd (zx (zX (zX (zM (zT (zSG (TL.v (gV 1 (.agg #[.int .i64 tr.v, .int .u32 tr.dst, .int .i64 tr.proto, .slice Ap pp.length cp, .int .u32 la]) KhZ Kc8) ?_))))))));refine TL.ps 2 Kc8 ?_;refine zET (zr ?_);exact KaN (k := 2) Tryz.results63 rfl rfl Tryz.underlying92 rfl rfl (fun w1 hw => ⟨⟨⟨tr.v, tr.dst, tr.proto, ⟨Ap, cp, pp⟩, la⟩, ⟨htr, hla, lg + 1, by omega, by omega, by show 1 <= pp.length; omega, by show pp.length <= 3; omega, hpw⟩⟩, rfl, Pm.codr (Kb2 ⟨Ap, cp, pp⟩) (Pm.netOut (p := ⟨Ap, cp, pp⟩) (hw.sel (.cons_cons _ (.cons _ (.cons _ (.cons_cons _ (List.Sublist.refl _))))))) (Kfm _)⟩)
set_option maxRecDepth 20000
def RuG (u : Ru) : Prop := (1 <= u.los /\ u.los <= 3) /\ (1 <= u.gro /\ u.gro <= 6) /\ 1 <= u.prb /\ u.prb <= 2
theorem KdT (w : World) : (zeroValue 28).run Tryz.prog w = .ok (.agg #[.int .i64 0, .int .i64 0, .int .i64 0]) w := rfl
theorem Kmk (a0_0 : Int) (a2_0 : Int) (a1_0 : Int) (w : World) : (Instr.build 28 #[(0, .int .i64 a0_0), (2, .int .i64 a2_0), (1, .int .i64 a1_0)]).run Tryz.prog w = .ok (.agg #[.int .i64 a0_0, .int .i64 a1_0, .int .i64 a2_0]) w := by kernel_rfl
theorem Kot (cb : Nat) (w : World) (hC : Cod w cb) :
  Calls Tryz.prog 20 #[.pointer (some ⟨cb, 0, none⟩)] w fun e w' => ∃ x : {u : Ru // RuG u}, e = .returned (.agg x.1.cells.toArray) /\ Codr (fun w => Cod w cb) cb w ([]) w' := by
 refine Kh (I := Pm ⟨w, cb⟩ (.abs cb (fun w => Cod w cb) :: KE cb w)) Tryz.func20 rfl rfl rfl ?_ (Pm.codes hC (Kbj hC) (Kbl cb));refine zSG ?_;refine TL.al KdT fun g2 => ?_;refine zET (zSG (TL.mv ?_));refine TL.nx 1 rfl rfl fun a0 ha01 ha02 => ?_;refine TL.v (gD ((1 + a0 : Nat) : Int)) ?_;refine TL.mv ?_;refine TL.nx 1 rfl rfl fun a1 ha11 ha12 => ?_;refine TL.v (gD ((1 + a1 : Nat) : Int)) ?_;refine TL.mv ?_;refine TL.nx 1 rfl rfl fun a2 ha21 ha22 => ?_;refine TL.v (gD ((1 + a2 : Nat) : Int)) ?_;refine TL.w rfl (Kt (v := .agg #[.int .i64 ((1 + a0 : Nat) : Int), .int .i64 ((1 + a2 : Nat) : Int), .int .i64 ((1 + a1 : Nat) : Int)]) rfl rfl (fun w => Kmk _ _ _ w)) ?_;refine TL.ps 0 KU ?_;refine zET (zr ?_);exact KaN (k := 0) Tryz.results20 rfl rfl Tryz.underlying28 rfl rfl (fun w1 hw => ⟨⟨⟨((1 + a0 : Nat) : Int), ((1 + a2 : Nat) : Int), ((1 + a1 : Nat) : Int)⟩, by unfold RuG; dsimp only; omega⟩, rfl, Pm.codr [] (hw.sel (.cons _ (.cons_cons _ (List.Sublist.refl _)))) rfl⟩)
open Go.RowKit Go.Shelf
theorem KfL (x : Rp) : x.keys.length = 8 := rfl
theorem Klj {x y : Rp} (h : x.keys = y.keys) : x = y := by
  cases x; cases y;simp only [Rp.keys, List.cons.injEq, and_true] at h;simp only [Rp.mk.injEq];exact h
def Rp.cand (p : Rp) : Rp := { p with at_ := 0 }
def Rp.when (p : Rp) (t : Int) : Rp := { p with at_ := t }
theorem Kgi {p q : Rp} : p.when q.at_ = q ↔ p.cand = q.cand := by
  cases p; cases q; simp [Rp.when, Rp.cand]
theorem KmY {p q : Rp} (h : p.cand = q.cand) (ha : p.at_ = q.at_) : p = q := by
  rw [<- Kgi, <- ha] at h; exact h
def KaR (P S : Rp -> Prop) (out : List Rp) : Prop := Kbb Rp.keys out /\ ∀ p, p ∈ out ↔ S p /\ P p /\ ∀ q, S q -> q.cand = p.cand -> P q -> p.at_ <= q.at_
section
variable {P S S' : Rp -> Prop} {out o1 : List Rp} {p : Rp}
theorem KaR.eq {a b : List Rp} (h : KaR P S a) (h' : KaR P S b) : a = b := KeE KfL h.1 h'.1 fun x => by rw [h.2, h'.2]
theorem KaR.congr (h : KaR P S out) (hS : ∀ p, S p ↔ S' p) : KaR P S' out := by
  have : S = S' := funext fun p => propext (hS p);rw [<- this]; exact h
theorem KaR.nil (hS : ∀ p, ¬ S p) : KaR P S [] := ⟨List.Pairwise.nil, fun p => ⟨fun h => absurd h List.not_mem_nil, fun h => absurd h.1 (hS p)⟩⟩
theorem KhI {R : Rp -> Prop} (h0 : ∀ p, R p -> 0 <= p.at_) : ∀ (n : Nat) {q : Rp}, R q -> q.at_ <= n -> ∃ m, R m /\ ∀ x, R x -> m.at_ <= x.at_
  | 0, q, hq, hn => ⟨q, hq, fun x hx => by have := h0 x hx; have := h0 q hq; omega⟩
  | n + 1, q, hq, hn => by
    by_cases h : ∃ x, R x /\ x.at_ <= n
    · obtain ⟨x, hx, h1⟩ := h;exact KhI h0 n hx h1
    · exact ⟨q, hq, fun x hx => by
        have : ¬ x.at_ <= n := fun h1 => h ⟨x, hx, h1⟩;omega⟩
theorem KaR.ex (h : KaR P S out) (h0 : ∀ p, P p -> 0 <= p.at_) {q : Rp} (hS : S q) (hP : P q) : ∃ m ∈ out, m.cand = q.cand /\ m.at_ <= q.at_ := by
  obtain ⟨m, ⟨h1, h2, h3⟩, h4⟩ := KhI (R := fun x => S x /\ P x /\ x.cand = q.cand) (fun x hx => h0 x hx.2.1) q.at_.toNat ⟨hS, hP, rfl⟩ (by have := h0 q hP; omega);exact ⟨m, (h.2 m).2 ⟨h1, h2, fun x hx hc hp => h4 x ⟨hx, hp, hc.trans h3⟩⟩, h3, h4 q ⟨hS, hP, rfl⟩⟩
theorem KaR.skip (h : KaR P S out) (hn : P p -> ∃ q ∈ out, q.cand = p.cand /\ q.at_ <= p.at_) : KaR P (fun x => S x \/ x = p) out := by
  refine ⟨h.1, fun x => ?_⟩;rw [h.2];constructor
  · rintro ⟨h1, h2, h3⟩;refine ⟨.inl h1, h2, fun q hq hc hP => ?_⟩;rcases hq with hq | rfl
    · exact h3 q hq hc hP
    · obtain ⟨m, hm, hmc, hma⟩ := hn hP;obtain ⟨m1, m2, m3⟩ := (h.2 m).1 hm;have := h3 m m1 (hmc.trans hc) m2;omega
  · rintro ⟨h1, h2, h3⟩;rcases h1 with h1 | rfl
    · exact ⟨h1, h2, fun q hq => h3 q (.inl hq)⟩
    · obtain ⟨m, hm, hmc, hma⟩ := hn h2;obtain ⟨m1, m2, m3⟩ := (h.2 m).1 hm;have := h3 m (.inl m1) hmc m2;have e : m = x := KmY hmc (by omega);subst e;exact ⟨m1, m2, m3⟩
theorem KaR.put (h : KaR P S out) (h0 : ∀ p, P p -> 0 <= p.at_) (hP : P p) (hn : ∀ q ∈ out, q.cand = p.cand -> p.at_ < q.at_) (ho : Kbb Rp.keys o1) (hm : ∀ x, x ∈ o1 ↔ x ∈ out /\ x.cand ≠ p.cand) {k : Nat} (h1 : ∀ y ∈ o1.take k, KI y.keys p.keys < 0) (h2 : ∀ y ∈ o1.drop k, KI p.keys y.keys < 0) : KaR P (fun x => S x \/ x = p) (o1.take k ++ p :: o1.drop k) := by
  refine ⟨Kgk KfL ho h1 h2, fun x => ?_⟩;rw [Kgm, hm, h.2];constructor
  · rintro (⟨⟨a1, a2, a3⟩, a4⟩ | rfl)
    · refine ⟨.inl a1, a2, fun q hq hc hP => ?_⟩;rcases hq with hq | rfl
      · exact a3 q hq hc hP
      · exact absurd hc.symm a4
    · refine ⟨.inr rfl, hP, fun q hq hc hQ => ?_⟩;rcases hq with hq | rfl
      · obtain ⟨m, hm1, hmc, hma⟩ := h.ex h0 hq hQ;have := hn m hm1 (hmc.trans hc);omega
      · exact Int.le_refl _
  · rintro ⟨a1, a2, a3⟩;rcases a1 with a1 | rfl
    · by_cases hc : x.cand = p.cand
      · have b1 := a3 p (.inr rfl) hc.symm hP;have hx : x ∈ out := (h.2 x).2 ⟨a1, a2, fun q hq => a3 q (.inl hq)⟩;have := hn x hx hc;omega
      · exact .inl ⟨⟨a1, a2, fun q hq => a3 q (.inl hq)⟩, hc⟩
    · exact .inr rfl
end
open Go.RowKit Go.Shelf
def Kc7 (l : List Rs) (p : Rp) : Prop := ∃ y, Kaq l p.trc p.flow y /\ ∃ r ∈ y, r.at_ = p.at_
def Kez (es : List En) (l : List Rs) (u : Ru) (out : List Rp) : Prop := KaR (PrP es l u) (Kc7 l) out
theorem Kez.eq {es : List En} {l : List Rs} {u : Ru} {a b : List Rp} (h : Kez es l u a) (h' : Kez es l u b) : a = b := KaR.eq h h'
theorem PrP.at0 {es : List En} {l : List Rs} {u : Ru} {p : Rp} (h : PrP es l u p) : 0 <= p.at_ := by
  have := h.2.1;unfold Kr at this;simp only [Bool.and_eq_true, decide_eq_true_eq] at this;omega
def Kd0 (es : List En) (r : Rs) (p : Rp) : Prop := p.trc = KC r /\ p.flow = r.flow /\ ((p.kind = 1 /\ p.ttl = 0 /\ p.prov = 0) \/ (p.kind = 3 /\ p.ttl = r.ttl /\ p.prov = 0) \/ (p.kind = 2 /\ r.ans = true /\ p.ttl = r.ttl /\ p.prov = Kag es r.src r.back))
theorem Kaq.mem {l y : List Rs} {t : Trc} {flow : Int} (h : Kaq l t flow y) (r : Rs) : r ∈ y ↔ r ∈ l /\ KC r = t /\ KM r = true /\ r.flow = flow := by
  obtain ⟨x, ⟨o, h1, rfl⟩, rfl⟩ := h;rw [List.mem_filter, List.mem_filter, h1.2];simp only [Bool.and_eq_true, decide_eq_true_eq, KM];exact ⟨fun ⟨⟨⟨a, b⟩, c⟩, d, e⟩ => ⟨a, c, d, e⟩, fun ⟨a, c, d, e⟩ => ⟨⟨⟨a, d.2⟩, c⟩, d, e⟩⟩
theorem Kd0.like {es : List En} {r : Rs} {p q : Rp} (h : Kd0 es r p) (hc : q.cand = p.cand) : Kd0 es r q := by
  have h2 := (Kgi (p := p) (q := q)).2 hc.symm;rw [<- h2];exact h
def PrS (es : List En) (y : List Rs) (u : Ru) (p : Rp) : Prop :=
  (p.kind = 1 /\ p.ttl = 0 /\ p.prov = 0 /\ bhF y u.los p.at_ = true) \/
  (p.kind = 3 /\ p.prov = 0 /\ CgF (eaL (atL y p.ttl) p.at_) (laL (atL y p.ttl) p.at_) u.prb u.gro) \/
  (p.kind = 2 /\ p.prov ≠ 0 /\ DtF (fun r : Rs => Kag es r.src r.back) (atL y p.ttl) p.prov p.at_)
theorem KiR (a t : Int) : ∀ (es : List En) (q : En × Bool), (es.foldl (Keu a t) q).1 ∈ es \/ (es.foldl (Keu a t) q) = q
  | [], q => .inr rfl
  | e :: es, q => by
    rw [List.foldl_cons];rcases KiR a t es (Keu a t q e) with h | h
    · exact .inl (List.mem_cons_of_mem _ h)
    · rw [h];unfold Keu;split
      · exact .inl List.mem_cons_self
      · exact .inr rfl
theorem Kmr {es : List En} (a t : Int) : 0 <= Kag es a t /\ Kag es a t <= 2147483647 := by
  unfold Kag Kbz;split
  · rename_i hv;rcases KiR a t es (En.zero, false) with h | h
    · unfold KaC;obtain ⟨i, hi⟩ := List.getElem?_of_mem h;have hv2 := hv;simp only [KZ, Bool.and_eq_true, decide_eq_true_eq, List.all_eq_true, List.mem_range] at hv2;have h3 := hv2.2 i (List.getElem?_eq_some_iff.1 hi).1;unfold Ka1 at h3;rw [hi] at h3;simp only [Kam, Bool.and_eq_true, decide_eq_true_eq] at h3;omega
    · unfold KaC; rw [h]; exact ⟨by decide, by decide⟩
  · exact ⟨by decide, by decide⟩
theorem Kqy {r : Rs} (h : KaL r = 0) : KaL ⟨r.v, 0, 0, 0, r.dst, r.proto, r.flow, 1, false, false, 0, 0, 0, 0, 0, 0, 0⟩ = 0 := by
  have hr : r.inRange := Decidable.by_contra fun h1 => by have := KjC h1; omega
  unfold Rs.inRange at hr;unfold KaL at h ⊢;rw [if_neg (by rw [Decidable.not_not]; unfold Rs.inRange; omega)] at h;split at h
  · cases h
  · rename_i hp;rw [if_neg (by rw [Decidable.not_not]; unfold Rs.inRange; dsimp only; omega), if_neg (by dsimp only; exact hp)];simp [Rs.noAns]
theorem Kob {r : Rs} {p : Rp} (h : Km r = true) (ht : p.trc = KC r) (hf : p.flow = r.flow) : Km p.rs = true := by
  unfold Rp.trc KC at ht
  injection ht with h1 h2 h3
  unfold Km at h ⊢;simp only [Bool.and_eq_true, decide_eq_true_eq] at h ⊢;unfold Rp.rs;rw [h1, h2, h3, hf];exact ⟨⟨Kqy h.1.1, h.1.2⟩, rfl⟩
theorem KnB {es : List En} {l y : List Rs} {u : Ru} {p : Rp} (hu : KW u = true) (he : KZ es = true) (hy : Kaq l p.trc p.flow y) {r : Rs} (hr : r ∈ y) (ha : r.at_ = p.at_) : PrS es y u p ↔ PrP es l u p := by
  have hm := (hy.mem r).1 hr;have hv : Km r = true := by have := hm.2.2.1; unfold KM at this; simp only [Bool.and_eq_true] at this; exact this.2
  have hin := KcP hv;unfold Rs.inRange at hin;have hprb : 1 <= u.prb := by unfold KW at hu; have := of_decide_eq_true hu; omega
  have hvp := Kob hv hm.2.1.symm hm.2.2.2.symm
  have httl : ∀ r ∈ y, 1 <= r.ttl /\ r.ttl <= 255 := fun r hr => by
    have h1 := ((hy.mem r).1 hr).2.2.1;unfold KM at h1;simp only [Bool.and_eq_true] at h1;have := KcP h1.2;unfold Rs.inRange at this;omega
  constructor
  · rintro (⟨a1, a2, a3, a4⟩ | ⟨a1, a2, a3⟩ | ⟨a1, a2, a3⟩)
    · refine ⟨hu, ?_, he, .inl ⟨a1, y, hy, a4⟩⟩;unfold Kr; rw [hvp, Bool.true_and]; exact decide_eq_true (by omega)
    · refine ⟨hu, ?_, he, .inr (.inr ⟨a1, .inr ⟨y, hy, a3⟩⟩)⟩;obtain ⟨e, h1, _⟩ := a3;obtain ⟨s, hs, _⟩ := Kfh h1;have h8 := List.mem_filter.1 hs;simp only [Bool.and_eq_true, decide_eq_true_eq] at h8;have := httl s h8.1;unfold Kr; rw [hvp, Bool.true_and]; exact decide_eq_true (by omega)
    · refine ⟨hu, ?_, he, .inr (.inl ⟨a1, y, hy, a3⟩)⟩;obtain ⟨a, ha, _, b, hb, hb1, hb2, hb3⟩ := a3;have h8 := List.mem_filter.1 hb;simp only [Bool.and_eq_true, decide_eq_true_eq] at h8;have := httl b h8.1;have h9 := Kmr (es := es) b.src b.back;dsimp only at hb2;rw [hb2] at h9;unfold Kr; rw [hvp, Bool.true_and]; exact decide_eq_true (by omega)
  · rintro ⟨_, h2, _, h4⟩;unfold Kr at h2;simp only [Bool.and_eq_true, decide_eq_true_eq] at h2;rcases h4 with ⟨a1, y', a2, a3⟩ | ⟨a1, y', a2, a3⟩ | ⟨a1, a2⟩
    · rw [<- hy.eq a2] at a3; exact .inl ⟨a1, by omega, by omega, a3⟩
    · rw [<- hy.eq a2] at a3; exact .inr (.inr ⟨a1, by omega, a3⟩)
    · rcases a2 with a2 | ⟨y', a2, a3⟩
      · omega
      · rw [<- hy.eq a2] at a3; exact .inr (.inl ⟨a1, by omega, a3⟩)
open Go.RowKit Go.Shelf
theorem Kd0.ok {es : List En} {x : Rs} {p : Rp} (h : Kd0 es x p) (hx : x.Ok) : p.Ok := by
  have h1 := h.1;unfold Rp.trc KC at h1
  injection h1 with a b c
  unfold Rp.Ok;rw [b];exact ⟨hx.1, hx.2.1⟩
theorem Kaq.leo {l y o : List Rs} {t : Trc} {flow : Int} (h : Kaq l t flow y) (ho : Kad l o) : y.length <= o.length := by
  obtain ⟨x, ⟨o', h1, rfl⟩, rfl⟩ := h;rw [ho.eq h1];exact Nat.le_trans (List.length_filter_le _ _) (List.length_filter_le _ _)
def Ke3 (es : List En) (l : List Rs) (u : Ru) (out : List Rp) (z : Int) : Prop :=
  (z = 1 /\ out = [] /\ ¬ ((∀ r ∈ l, Km r = true) /\ KZ es = true /\ KW u = true)) \/
  (z = 5 /\ out = [] /\ ((∀ r ∈ l, Km r = true) /\ KZ es = true /\ KW u = true) /\ ∃ o, Kad l o /\ 512 < o.length) \/
  (z = 0 /\ Kez es l u out /\ ((∀ r ∈ l, Km r = true) /\ KZ es = true /\ KW u = true) /\ ∃ o, Kad l o /\ o.length <= 512)
theorem Ke3.eq {es : List En} {l : List Rs} {u : Ru} {out out' : List Rp} {z z' : Int} (h : Ke3 es l u out z) (h' : Ke3 es l u out' z') : out = out' /\ z = z' := by
  rcases h with ⟨rfl, h1, h2⟩ | ⟨rfl, h1, h2, o, h3, h4⟩ | ⟨rfl, h1, h2, o, h3, h4⟩ <;> rcases h' with ⟨rfl, g1, g2⟩ | ⟨rfl, g1, g2, o', g3, g4⟩ | ⟨rfl, g1, g2, o', g3, g4⟩
  · exact ⟨h1.trans g1.symm, rfl⟩
  · exact absurd g2 h2
  · exact absurd g2 h2
  · exact absurd h2 g2
  · exact ⟨h1.trans g1.symm, rfl⟩
  · rw [h3.eq g3] at h4; omega
  · exact absurd h2 g2
  · rw [h3.eq g3] at h4; omega
  · exact ⟨h1.eq g1, rfl⟩
section
variable {es : List En} {l o own : List Rs} {i k n : Nat} {x s : Rs} {al : List Rp} {c : Rp} {u : Ru} {out : List Rp} {P : Rp -> Prop} {t : Int}
end
set_option maxRecDepth 20000
def KcB (P : Int -> Bool) (p : Rp) (ts : List Int) (o : List Rp) : Prop := (o = [] /\ ∀ t ∈ ts, P t = false) \/ ∃ (i : Nat) (t : Int), ts[i]? = some t /\ (∀ s ∈ ts.take i, P s = false) /\ P t = true /\ o = [p.when t]
theorem Kim (w : World) : (isAgg 106).run Tryz.prog w = .ok false w := rfl
theorem Kee {a0 : Int} : ∀ u ∈ [(.int .i64 a0 : Value)], u.oneCell' = true := by
 intro u hu;rw [List.mem_singleton] at hu;subst hu; rfl
theorem Kpt (a0_0 : Int) (a0_1 : Int) (a0_2 : Int) (a0_3 : Int) (a0_4 : Int) (a0_5 : Int) (a0_6 : Int) (a0_7 : Int) (w : World) : (Instr.buildSlice 49 1 #[(0, .agg #[.int .i64 a0_0, .int .i64 a0_1, .int .u32 a0_2, .int .i64 a0_3, .int .i64 a0_4, .int .i64 a0_5, .int .i64 a0_6, .int .i64 a0_7])]).run Tryz.prog w = .ok (.slice (some ⟨w.heap.size, 0, none⟩) 1 1) (w.alloc (.cells [.int .i64 a0_0, .int .i64 a0_1, .int .u32 a0_2, .int .i64 a0_3, .int .i64 a0_4, .int .i64 a0_5, .int .i64 a0_6, .int .i64 a0_7].toArray 34)) := by kernel_rfl
theorem KkP (A0 : Option Addr) (c0 : Nat) (l : List Rs) (u : Ru) (t : Int) (g1 g2 : Nat) (w : World) (hr : Kg w w.heap.size 17 A0 l.length (Ka Rs.cells l)) (hl1 : l.length <= 100000) (hg1 : g1 < w.heap.size) (hc1 : w.cell? ⟨g1, 0, none⟩ = some (.slice A0 l.length c0)) (hg2 : g2 < w.heap.size) (hc2 : w.cell? ⟨g2, 0, none⟩ = some (.int .i64 u.los)) :
  Calls Tryz.prog 141 #[.int .i64 t, .pointer (some ⟨g1, 0, none⟩), .pointer (some ⟨g2, 0, none⟩)] w fun e w' => e = .returned (.bool (bhF l u.los t)) /\ Below w.heap.size w w' := by
 refine Kh Tryz.func141 rfl rfl rfl ?_ (Pm.start w);refine zSG (TL.as_ ?_);refine zET (zSG ?_);refine TL.w rfl (Kw (v := .slice A0 l.length c0) rfl rfl KaT (fun w1 hw => (hw.bel.cell hg1).trans hc1)) ?_;refine TL.v (gF KcF) ?_;refine TL.w rfl (Kw (v := .int .i64 u.los) rfl rfl Kb (fun w1 hw => (hw.bel.cell hg2).trans hc2)) ?_;refine TL.mv ?_;refine TL.p1 rfl o72 (fun w1 hw => Kkj A0 c0 l u.los t w1 (hr.up hw.bel) hl1) ?_;refine TL.as_ ?_;refine zET (zr ?_);exact Kc Tryz.results141 rfl (fun w1 hw => ⟨rfl, hw.bel⟩)
theorem Ko4 (A0 : Option Addr) (c0 : Nat) (l : List Rs) (u : Ru) (t : Int) (g1 g2 : Nat) (w : World) (hr : Kg w w.heap.size 17 A0 l.length (Ka Rs.cells l)) (hl1 : l.length <= 100000) (hin : ∀ r ∈ l, r.inRange) (hg1 : g1 < w.heap.size) (hc1 : w.cell? ⟨g1, 0, none⟩ = some (.slice A0 l.length c0)) (hg2 : g2 < w.heap.size) (hc2 : ∀ (j : Nat) (v : Value), u.cells[j]? = some v -> w.cell? ⟨g2, 0 + j, none⟩ = some v) :
  Calls Tryz.prog 142 #[.int .i64 t, .pointer (some ⟨g1, 0, none⟩), .pointer (some ⟨g2, 0, none⟩)] w fun e w' => ∃ x : {b : Bool // b = true ↔ u.prb < 1 \/ CgF (eaL l t) (laL l t) u.prb u.gro}, e = .returned (.bool x.1) /\ Below w.heap.size w w' := by
 refine Kh Tryz.func142 rfl rfl rfl ?_ (Pm.start w);refine zSG (TL.as_ ?_);refine zET (zSG ?_);refine TL.w rfl (Kw (v := .slice A0 l.length c0) rfl rfl KaT (fun w1 hw => (hw.bel.cell hg1).trans hc1)) ?_;refine TL.w rfl (KS (off := 0) rfl rfl K1 KU (KcU.len u) (fun w1 hw j9 u9 h9 => (hw.bel.cell hg2).trans (hc2 j9 u9 h9))) ?_;refine TL.mv ?_;refine TL.pM (α := {b : Bool // b = true ↔ u.prb < 1 \/ CgF (eaL l t) (laL l t) u.prb u.gro}) (fun x => .bool x.1) (fun x => []) rfl o76 (fun w1 hw => (KkB A0 c0 l u t w1 (hr.up hw.bel) hl1 hin).mono fun en w2 ⟨x, h1, h2⟩ => ⟨x, h1, (Pm.start w1).below h2⟩) ?_;rintro ⟨bd, hbd⟩;dsimp only [lC, lN];refine TL.as_ ?_;refine zET (zr ?_);exact Kc Tryz.results142 rfl (fun w1 hw => ⟨⟨bd, hbd⟩, rfl, hw.bel⟩)
theorem KoY (A0 : Option Addr) (c0 : Nat) (l : List Rs) (A1 : Option Addr) (c1 : Nat) (ps : List Int) (f : Rs -> Int) (prov t : Int) (g1 g2 g3 : Nat) (w : World) (hr : Kg w w.heap.size 17 A0 l.length (Ka Rs.cells l)) (hl1 : l.length <= 100000) (hr1 : Kg w w.heap.size 1 A1 ps.length (Ka (ic .i64) ps)) (hps : ps = l.map f) (hg1 : g1 < w.heap.size) (hc1_ : w.cell? ⟨g1, 0, none⟩ = some (.slice A0 l.length c0)) (hg2 : g2 < w.heap.size) (hc2_ : w.cell? ⟨g2, 0, none⟩ = some (.slice A1 ps.length c1)) (hg3 : g3 < w.heap.size) (hc3_ : w.cell? ⟨g3, 7, none⟩ = some (.int .i64 prov)) :
  Calls Tryz.prog 144 #[.int .i64 t, .pointer (some ⟨g1, 0, none⟩), .pointer (some ⟨g2, 0, none⟩), .pointer (some ⟨g3, 0, none⟩)] w fun e w' => ∃ x : {b : Bool // b = true ↔ DtF f l prov t}, e = .returned (.bool x.1) /\ Below w.heap.size w w' := by
 refine Kh Tryz.func144 rfl rfl rfl ?_ (Pm.start w);refine zSG (TL.as_ ?_);refine zET (zSG ?_);refine TL.w rfl (Kw (v := .slice A0 l.length c0) rfl rfl KaT (fun w1 hw => (hw.bel.cell hg1).trans hc1_)) ?_;refine TL.w rfl (Kw (v := .slice A1 ps.length c1) rfl rfl Kim (fun w1 hw => (hw.bel.cell hg2).trans hc2_)) ?_;refine TL.v (gF KaE) ?_;refine TL.w rfl (Kw (v := .int .i64 prov) rfl rfl Kb (fun w1 hw => (hw.bel.cell hg3).trans hc3_)) ?_;refine TL.mv ?_;refine TL.pM (α := {b : Bool // b = true ↔ DtF f l prov t}) (fun x => .bool x.1) (fun x => []) rfl o81 (fun w1 hw => (Khz A0 c0 l A1 c1 ps f prov t w1 (hr.up hw.bel) hl1 (hr1.up hw.bel) hps).mono fun en w2 ⟨x, h1, h2⟩ => ⟨x, h1, (Pm.start w1).below h2⟩) ?_;rintro ⟨bd, hbd⟩;dsimp only [lC, lN];refine TL.as_ ?_;refine zET (zr ?_);exact Kc Tryz.results144 rfl (fun w1 hw => ⟨⟨bd, hbd⟩, rfl, hw.bel⟩)
theorem KgU (w0 : Base) (F : List Pc) (A0 : Option Addr) (c0 : Nat) (ts : List Int) (p : Rp) (P : Int -> Bool) (f : FuncId) (fn : Func) (cap : Array Value) (w : World) (hw0 : Pm w0 ([.row (.slice A0 ts.length c0) 3 1 ts.length (Ka (ic .i64) ts)] ++ F) w) (hl1 : ts.length <= 1000000) (hfn : Tryz.prog.funcs[f]? = some fn) (hnm : (fn.name == "runtime.NumGoroutine") = false) (hbd : fn.body.isNone = false) (hf : ∀ (t : Int) (w1 : World), (∃ L1, Pm w0 (L1 ++ F) w1) -> Calls Tryz.prog f (#[] ++ [Value.int .i64 t].toArray ++ cap) w1 fun e w' => e = .returned (.bool (P t)) /\ Below w1.heap.size w1 w') :
  Calls Tryz.prog 140 #[.agg p.cells.toArray, .slice A0 ts.length c0, .func (.func f) #[] cap] w fun e w' => ∃ y : {y : (Option Addr × Nat) × List Rp // KcB P p ts y.2 /\ y.2.length <= 1 /\ y.2.length <= y.1.2 /\ y.1.2 <= maxLen}, e = .returned (.slice y.1.1.1 y.1.2.length y.1.1.2) /\ Pm w0 ([.row (.slice y.1.1.1 y.1.2.length y.1.1.2) 34 8 y.1.2.length (Ka Rp.cells y.1.2), .row (.slice A0 ts.length c0) 3 1 ts.length (Ka (ic .i64) ts)] ++ F) w' := by
 refine Kh (I := Pm w0 ([.row (.slice A0 ts.length c0) 3 1 ts.length (Ka (ic .i64) ts)] ++ F)) Tryz.func140 rfl rfl rfl ?_ hw0;refine zSG ?_;refine TL.bx fun g3 => ?_;refine TL.as_ ?_;refine zET (zS (zSG (TL.mv ?_)));refine TL.v (gN Tryz.underlying106) ?_;refine TL.mv ?_;refine zET (zB ?_);refine TC.lp (α := {i : Nat // i <= ts.length /\ ∀ t ∈ ts.take i, P t = false}) [2, 3, 9, 10] rfl (fun y => [(11, .int .i64 ((y.1 : Nat) : Int))]) (fun y => Pm w0 ([.blk g3 34 p.cells, .row (.slice A0 ts.length c0) 3 1 ts.length (Ka (ic .i64) ts)] ++ F)) (fun y => ts.length - y.1) (⟨0, Nat.zero_le _, fun r hr => by rw [List.take_zero] at hr; cases hr⟩) (fun w1 hw => hw) ?_;rintro ⟨i, hi, hall⟩
 try dsimp only at hi hall ⊢
 refine zSG ?_;refine TL.sp Kk (fun q12 => ?_) (fun q12 => ?_)
 ·refine zET (zS (zc (zk (zT (zS (zB (zSG ?_)))))));refine TL.fact (p := ∃ g, A0 = some ⟨g, 0, none⟩) (fun w1 hw => KL hw (k := 1) rfl (by omega)) ?_;rintro ⟨g_A0, rfl⟩;have hi13 : i < ts.length := by omega
  obtain ⟨x13, hx13⟩ := Ko hi13;refine TL.w rfl (gA (i := i) Tryz.underlying106 Ky rfl rfl rfl rfl rfl (by omega)) ?_;refine TL.w rfl (Kw (v := .int .i64 x13) rfl rfl Kb (fun w1 hw => Kv (KQ .i64) hw (q := 1) rfl hx13 0 _ rfl)) ?_;refine TL.as_ ?_;refine zET (zSG (TL.rn 2 rfl ?_));obtain ⟨bv, hbv⟩ : ∃ b, P x13 = b := ⟨_, rfl⟩;refine TL.callE1 (r := .bool bv) rfl rfl rfl (KdW rfl rfl rfl hfn hnm hbd rfl) (fun w1 hw => by rw [<- hbv]; exact hf x13 w1 ⟨_, hw⟩) ?_;refine zET ?_;refine TC.split (t := bv) rfl (fun c17 => ?_) (fun c17 => ?_)
  ·refine zSG (TL.mv ?_);refine TL.v (gF KaS) ?_;refine TL.ps 0 Ky ?_;refine zET (zSG (TL.v (gV 0 (.agg #[.int .i64 p.kind, .int .i64 p.v, .int .u32 p.dst, .int .i64 p.proto, .int .i64 p.flow, .int .i64 p.ttl, .int .i64 x13, .int .i64 p.prov]) KR KJ) ?_));refine TL.prowS (e := 34) (size := 8) (cs := Ka Rp.cells [(⟨p.kind, p.v, p.dst, p.proto, p.flow, p.ttl, x13, p.prov⟩ : Rp)]) rfl rfl rfl rfl rfl (fun w => Kpt _ _ _ _ _ _ _ _ w) (by decide) rfl (fun g21 => ?_);refine TL.as_ ?_;refine zET (zr (zRR (zR (zRR ?_))));exact Kc Tryz.results140 rfl (fun w1 hw => ⟨⟨(((some ⟨g21, 0, none⟩), 1), [p.when x13]), .inr ⟨i, x13, hx13, hall, by rw [hbv, c17], rfl⟩, Nat.le_refl _, Nat.le_refl _, by show 1 <= maxLen; decide⟩, rfl, hw.sel (.cons_cons _ (.cons _ (.cons_cons _ (List.Sublist.refl _))))⟩)
  refine zk (zN (zT (zG ?_)));refine TL.v (gD ((i + 1 : Nat) : Int)) ?_;refine TL.mv ?_;refine zE ?_;exact TX.rd (⟨i + 1, by omega, fun r hr => by rcases (KaG hx13).1 hr with h9 | h9; exact hall r h9; rw [h9, hbv, c17]⟩) (by show ts.length - (i + 1) < ts.length - i; omega) (fun w1 hw => hw)
 refine zET (zS (zd (zx (zX (zX (zM (zT (zSG (TL.as_ ?_)))))))));refine zET (zr ?_);rw [List.take_of_length_le (by omega)] at hall;exact Kc Tryz.results140 rfl (fun w1 hw => ⟨⟨((none, 0), []), .inl ⟨rfl, hall⟩, Nat.zero_le _, Nat.le_refl _, Nat.zero_le _⟩, rfl, Pm.nilrow (hw.sel (.cons _ (.cons_cons _ (List.Sublist.refl _)))) _ _⟩)
open Go.RowKit Go.Shelf Go.Sort
set_option maxRecDepth 20000
def Kkh : Go.Shelf.Ren := ⟨fun | 6 => 93 | 14 => 145 | 15 => 146 | 20 => 167 | 21 => 168 | 22 => 169 | 23 => 170 | 24 => 171 | 25 => 172 | 26 => 173 | 27 => 174 | 28 => 175 | 29 => 176 | 46 => 208 | 47 => 209 | 48 => 210 | 49 => 211 | 50 => 212 | 57 => 224 | n => n, fun | 22 => 49 | 24 => 34 | 25 => 52 | 39 => 174 | 45 => 191 | 46 => 192 | 50 => 196 | 53 => 29 | 55 => 200 | 66 => 219 | 70 => 223 | 76 => 235 | 77 => 236 | n => n, fun n => n⟩
theorem Kmj : SlLaysF0.n6 Tryz.prog Kkh where
  mixed := by kernel_rfl
  f6 := ⟨Tryz.f93.name, by decide, Tryz.func93.trans (by kernel_rfl)⟩
  f14 := ⟨Tryz.f145.name, by decide, Tryz.func145.trans (by kernel_rfl)⟩
  f15 := Tryz.func146.trans (by kernel_rfl)
  f20 := ⟨Tryz.f167.name, by decide, Tryz.func167.trans (by kernel_rfl)⟩
  f21 := ⟨Tryz.f168.name, by decide, Tryz.func168.trans (by kernel_rfl)⟩
  f22 := ⟨Tryz.f169.name, by decide, Tryz.func169.trans (by kernel_rfl)⟩
  f23 := ⟨Tryz.f170.name, by decide, Tryz.func170.trans (by kernel_rfl)⟩
  f24 := ⟨Tryz.f171.name, by decide, Tryz.func171.trans (by kernel_rfl)⟩
  f25 := ⟨Tryz.f172.name, by decide, Tryz.func172.trans (by kernel_rfl)⟩
  f26 := ⟨Tryz.f173.name, by decide, Tryz.func173.trans (by kernel_rfl)⟩
  f27 := ⟨Tryz.f174.name, by decide, Tryz.func174.trans (by kernel_rfl)⟩
  f28 := Tryz.func175.trans (by kernel_rfl)
  f29 := Tryz.func176.trans (by kernel_rfl)
  f46 := ⟨Tryz.f208.name, by decide, Tryz.func208.trans (by kernel_rfl)⟩
  f47 := Tryz.func209.trans (by kernel_rfl)
  f48 := Tryz.func210.trans (by kernel_rfl)
  f49 := ⟨Tryz.f211.name, by decide, Tryz.func211.trans (by kernel_rfl)⟩
  f50 := ⟨Tryz.f212.name, by decide, Tryz.func212.trans (by kernel_rfl)⟩
  f57 := ⟨Tryz.f224.name, by decide, Tryz.func224.trans (by kernel_rfl)⟩
  t0 := Tryz.underlying0
  a0 := fun w => rfl
  z0 := fun w => rfl
  v0 := fun w => rfl
  t3 := Tryz.underlying3
  a3 := fun w => rfl
  z3 := fun w => rfl
  v3 := fun w => rfl
  t4 := Tryz.underlying4
  a4 := fun w => rfl
  z4 := fun w => rfl
  v4 := fun w => rfl
  t5 := Tryz.underlying5
  a5 := fun w => rfl
  z5 := fun w => rfl
  v5 := fun w => rfl
  t9 := Tryz.underlying9
  a9 := fun w => rfl
  z9 := fun w => rfl
  v9 := fun w => rfl
  t22 := Tryz.underlying49
  a22 := fun w => rfl
  z22 := fun w => rfl
  v22 := fun w => rfl
  t25 := Tryz.underlying52
  a25 := fun w => rfl
  z25 := fun w => rfl
  v25 := fun w => rfl
  t39 := Tryz.underlying174
  a39 := fun w => rfl
  z39 := fun w => rfl
  v39 := fun w => rfl
  t45 := Tryz.underlying191
  a45 := fun w => rfl
  z45 := fun w => rfl
  v45 := fun w => rfl
  t46 := Tryz.underlying192
  a46 := fun w => rfl
  z46 := fun w => rfl
  v46 := fun w => rfl
  t50 := Tryz.underlying196
  a50 := fun w => rfl
  z50 := fun w => rfl
  v50 := fun w => rfl
  t53 := Tryz.underlying29
  a53 := fun w => rfl
  z53 := fun w => rfl
  v53 := fun w => rfl
  t55 := Tryz.underlying200
  a55 := fun w => rfl
  z55 := fun w => rfl
  v55 := fun w => rfl
  t66 := Tryz.underlying219
  a66 := fun w => rfl
  z66 := fun w => rfl
  v66 := fun w => rfl
  t70 := Tryz.underlying223
  a70 := fun w => rfl
  z70 := fun w => rfl
  v70 := fun w => rfl
  t76 := Tryz.underlying235
  a76 := fun w => rfl
  z76 := fun w => rfl
  v76 := fun w => rfl
  t77 := Tryz.underlying236
  a77 := fun w => rfl
  z77 := fun w => rfl
  v77 := fun w => rfl
instance : Inhabited Rp := ⟨⟨0, 0, 0, 0, 0, 0, 0, 0⟩⟩
theorem Kqv {b n cap : Nat} {A : Option Addr} {l : List Rp} {w : World} (hr : w.ownsRow b 34 8 (.slice A n cap) n (Ka Rp.cells l)) (hl : l.length = n) (hn : n <= 100000000000) :
    Calls Tryz.prog 93 #[.slice A n cap, .func (.func 33) #[] #[]] w fun en w' => en = .returned (.tuple #[]) /\ ∃ l', KbU Kdp l l' /\ w'.ownsRow b 34 8 (.slice A n cap) n (Ka Rp.cells l') /\ w.grownBy w' (Value.ownBlock (.slice A n cap)) :=
  KfO (ρ := Kkh) Kmj Kcd (fun w => rfl) (fun w => rfl) Kdp (Kgx (n := 8) (Rp.keys) fun _ => rfl) 33 (enters_of Tryz.func33 (by kernel_rfl) rfl) KnA hr hl (by omega)
end Go.Proofs.YtijmpjfafpodhaaGreat
