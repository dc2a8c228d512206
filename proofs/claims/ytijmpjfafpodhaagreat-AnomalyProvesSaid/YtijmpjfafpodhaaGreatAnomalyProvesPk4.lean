/-
  Texts of the proof, joined: AnEa, AnSrt, FnLaw3, AnLaw, AwLaw, BdRef, Bits, BdBit, BdRR, AnRD, SymMapV, FnLaw4, AnCl, PtCpI, AnSe, AnFd, SymFld.
-/
import Derived.Test.YtijmpjfafpodhaaGreatAnomalyProvesPk3
import Derived.Test.YtijmpjfafpodhaaGreatAnomalyProvesPk2
import Derived.Shelf.SortM.Plain
import Derived.Shelf.SortM.SortNone
import Derived.Test.YtijmpjfafpodhaaGreatAnomalyProvesPk1
import Derived.Laws.BitsAllLaws
import Derived.Laws.BitsLemmas
set_option linter.unusedVariables false
set_option linter.unusedSimpArgs false
namespace Go.Proofs.YtijmpjfafpodhaaGreat
set_option maxHeartbeats 1000000
open Go.RowKit
set_option maxRecDepth 20000
def EarB (P : Int → Bool) (p : Rp) (ts : List Int) (o : List Rp) : Prop := (o = [] ∧ ∀ t ∈ ts, P t = false) ∨ ∃ (i : Nat) (t : Int), ts[i]? = some t ∧ (∀ s ∈ ts.take i, P s = false) ∧ P t = true ∧ o = [p.when t]
theorem aeaag23 (w : World) : (isAgg 23).run Tryz.prog w = .ok false w := rfl
theorem aeaag106 (w : World) : (isAgg 106).run Tryz.prog w = .ok false w := rfl
theorem aeaone_i64 {a0 : Int} : ∀ u ∈ [(.int .i64 a0 : Value)], u.oneCell' = true := by
 intro u hu
 rw [List.mem_singleton] at hu
 subst hu; rfl
theorem aeabs49_1_10276 (a0_0 : Int) (a0_1 : Int) (a0_2 : Int) (a0_3 : Int) (a0_4 : Int) (a0_5 : Int) (a0_6 : Int) (a0_7 : Int) (w : World) : (Instr.buildSlice 49 1 #[(0, .agg #[.int .i64 a0_0, .int .i64 a0_1, .int .u32 a0_2, .int .i64 a0_3, .int .i64 a0_4, .int .i64 a0_5, .int .i64 a0_6, .int .i64 a0_7])]).run Tryz.prog w = .ok (.slice (some ⟨w.heap.size, 0, none⟩) 1 1) (w.alloc (.cells [.int .i64 a0_0, .int .i64 a0_1, .int .u32 a0_2, .int .i64 a0_3, .int .i64 a0_4, .int .i64 a0_5, .int .i64 a0_6, .int .i64 a0_7].toArray 34)) := by kernel_rfl
theorem srch1_any (A0 : Option Addr) (c0 : Nat) (l : List Rs) (u : Ru) (t : Int) (g1 g2 : Nat) (w : World) (hr : Reads w w.heap.size 17 A0 l.length (flat Rs.cells l)) (hl1 : l.length ≤ 100000) (hg1 : g1 < w.heap.size) (hc1 : w.cell? ⟨g1, 0, none⟩ = some (.slice A0 l.length c0)) (hg2 : g2 < w.heap.size) (hc2 : w.cell? ⟨g2, 0, none⟩ = some (.int .i64 u.los)) :
  Calls Tryz.prog 141 #[.int .i64 t, .pointer (some ⟨g1, 0, none⟩), .pointer (some ⟨g2, 0, none⟩)] w fun e w' => e = .returned (.bool (bhF l u.los t)) ∧ Below w.heap.size w w' := by
 refine begin_ (vs := [.int .i64 t, .pointer (some ⟨g1, 0, none⟩), .pointer (some ⟨g2, 0, none⟩)]) Tryz.func141 rfl rfl rfl ?_ (Pm.start w)
 refine zSG (TL.as_ ?_)
 refine zET (zSG ?_)
 refine TL.val rfl rfl rfl (gives_load (v := .slice A0 l.length c0) rfl rfl aeaag23 (fun w1 hw => (hw.bel.cell hg1).trans hc1)) ?_
 refine TL.v (gF arpfld28_0) ?_
 refine TL.val rfl rfl rfl (gives_load (v := .int .i64 u.los) rfl rfl pcmag3 (fun w1 hw => (hw.bel.cell hg2).trans hc2)) ?_
 refine TL.mv ?_
 refine TL.pcall1 (r := .bool (bhF l u.los t)) rfl rfl rfl rfl rfl Tryz.func72 (by decide) rfl (fun w1 hw => blackhole_l A0 c0 l u.los t w1 (hr.up hw.bel) hl1) ?_
 refine TL.as_ ?_
 refine zET (zr ?_)
 exact ret_tmp Tryz.results141 rfl (fun w1 hw => ⟨rfl, hw.bel⟩)
theorem srch2_any (A0 : Option Addr) (c0 : Nat) (l : List Rs) (u : Ru) (t : Int) (g1 g2 : Nat) (w : World) (hr : Reads w w.heap.size 17 A0 l.length (flat Rs.cells l)) (hl1 : l.length ≤ 100000) (hin : ∀ r ∈ l, r.inRange) (hg1 : g1 < w.heap.size) (hc1 : w.cell? ⟨g1, 0, none⟩ = some (.slice A0 l.length c0)) (hg2 : g2 < w.heap.size) (hc2 : ∀ (j : Nat) (v : Value), u.cells[j]? = some v → w.cell? ⟨g2, 0 + j, none⟩ = some v) :
  Calls Tryz.prog 142 #[.int .i64 t, .pointer (some ⟨g1, 0, none⟩), .pointer (some ⟨g2, 0, none⟩)] w fun e w' => ∃ x : {b : Bool // b = true ↔ u.prb < 1 ∨ CgF (eaL l t) (laL l t) u.prb u.gro}, e = .returned (.bool x.1) ∧ Below w.heap.size w w' := by
 refine begin_ (vs := [.int .i64 t, .pointer (some ⟨g1, 0, none⟩), .pointer (some ⟨g2, 0, none⟩)]) Tryz.func142 rfl rfl rfl ?_ (Pm.start w)
 refine zSG (TL.as_ ?_)
 refine zET (zSG ?_)
 refine TL.val rfl rfl rfl (gives_load (v := .slice A0 l.length c0) rfl rfl aeaag23 (fun w1 hw => (hw.bel.cell hg1).trans hc1)) ?_
 refine TL.val rfl rfl rfl (gives_loadR (off := 0) rfl rfl aprag28 aprsz28 (ru_cel.len u) (fun w1 hw j9 u9 h9 => (hw.bel.cell hg2).trans (hc2 j9 u9 h9))) ?_
 refine TL.mv ?_
 refine TL.pcallPm (α := {b : Bool // b = true ↔ u.prb < 1 ∨ CgF (eaL l t) (laL l t) u.prb u.gro}) (fun x => .bool x.1) (fun x => []) rfl rfl rfl rfl rfl Tryz.func76 (by decide) rfl (fun w1 hw => (congestion_l A0 c0 l u t w1 (hr.up hw.bel) hl1 hin).mono fun en w2 ⟨x, h1, h2⟩ => ⟨x, h1, (Pm.start w1).below h2⟩) ?_
 rintro ⟨bd, hbd⟩
 dsimp only [List.cons_append, List.nil_append]
 refine TL.as_ ?_
 refine zET (zr ?_)
 exact ret_tmp Tryz.results142 rfl (fun w1 hw => ⟨⟨bd, hbd⟩, rfl, hw.bel⟩)
theorem srch3_any (A0 : Option Addr) (c0 : Nat) (l : List Rs) (A1 : Option Addr) (c1 : Nat) (ps : List Int) (f : Rs → Int) (prov t : Int) (g1 g2 g3 : Nat) (w : World) (hr : Reads w w.heap.size 17 A0 l.length (flat Rs.cells l)) (hl1 : l.length ≤ 100000) (hr1 : Reads w w.heap.size 1 A1 ps.length (flat (ic .i64) ps)) (hps : ps = l.map f) (hg1 : g1 < w.heap.size) (hc1_ : w.cell? ⟨g1, 0, none⟩ = some (.slice A0 l.length c0)) (hg2 : g2 < w.heap.size) (hc2_ : w.cell? ⟨g2, 0, none⟩ = some (.slice A1 ps.length c1)) (hg3 : g3 < w.heap.size) (hc3_ : w.cell? ⟨g3, 7, none⟩ = some (.int .i64 prov)) :
  Calls Tryz.prog 144 #[.int .i64 t, .pointer (some ⟨g1, 0, none⟩), .pointer (some ⟨g2, 0, none⟩), .pointer (some ⟨g3, 0, none⟩)] w fun e w' => ∃ x : {b : Bool // b = true ↔ DtF f l prov t}, e = .returned (.bool x.1) ∧ Below w.heap.size w w' := by
 refine begin_ (vs := [.int .i64 t, .pointer (some ⟨g1, 0, none⟩), .pointer (some ⟨g2, 0, none⟩), .pointer (some ⟨g3, 0, none⟩)]) Tryz.func144 rfl rfl rfl ?_ (Pm.start w)
 refine zSG (TL.as_ ?_)
 refine zET (zSG ?_)
 refine TL.val rfl rfl rfl (gives_load (v := .slice A0 l.length c0) rfl rfl aeaag23 (fun w1 hw => (hw.bel.cell hg1).trans hc1_)) ?_
 refine TL.val rfl rfl rfl (gives_load (v := .slice A1 ps.length c1) rfl rfl aeaag106 (fun w1 hw => (hw.bel.cell hg2).trans hc2_)) ?_
 refine TL.v (gF arpfld34_5) ?_
 refine TL.val rfl rfl rfl (gives_load (v := .int .i64 prov) rfl rfl pcmag3 (fun w1 hw => (hw.bel.cell hg3).trans hc3_)) ?_
 refine TL.mv ?_
 refine TL.pcallPm (α := {b : Bool // b = true ↔ DtF f l prov t}) (fun x => .bool x.1) (fun x => []) rfl rfl rfl rfl rfl Tryz.func81 (by decide) rfl (fun w1 hw => (detour_l A0 c0 l A1 c1 ps f prov t w1 (hr.up hw.bel) hl1 (hr1.up hw.bel) hps).mono fun en w2 ⟨x, h1, h2⟩ => ⟨x, h1, (Pm.start w1).below h2⟩) ?_
 rintro ⟨bd, hbd⟩
 dsimp only [List.cons_append, List.nil_append]
 refine TL.as_ ?_
 refine zET (zr ?_)
 exact ret_tmp Tryz.results144 rfl (fun w1 hw => ⟨⟨bd, hbd⟩, rfl, hw.bel⟩)
theorem earliest_any (w0 : Base) (F : List Pc) (A0 : Option Addr) (c0 : Nat) (ts : List Int) (p : Rp) (P : Int → Bool) (f : FuncId) (fn : Func) (cap : Array Value) (w : World) (hw0 : Pm w0 ([.row (.slice A0 ts.length c0) 3 1 ts.length (flat (ic .i64) ts)] ++ F) w) (hl1 : ts.length ≤ 1000000) (hfn : Tryz.prog.funcs[f]? = some fn) (hnm : (fn.name == "runtime.NumGoroutine") = false) (hbd : fn.body.isNone = false) (hf : ∀ (t : Int) (w1 : World), (∃ L1, Pm w0 (L1 ++ F) w1) → Calls Tryz.prog f (#[] ++ [Value.int .i64 t].toArray ++ cap) w1 fun e w' => e = .returned (.bool (P t)) ∧ Below w1.heap.size w1 w') :
  Calls Tryz.prog 140 #[.agg p.cells.toArray, .slice A0 ts.length c0, .func (.func f) #[] cap] w fun e w' => ∃ y : {y : (Option Addr × Nat) × List Rp // EarB P p ts y.2 ∧ y.2.length ≤ 1 ∧ y.2.length ≤ y.1.2 ∧ y.1.2 ≤ maxLen}, e = .returned (.slice y.1.1.1 y.1.2.length y.1.1.2) ∧ Pm w0 ([.row (.slice y.1.1.1 y.1.2.length y.1.1.2) 34 8 y.1.2.length (flat Rp.cells y.1.2), .row (.slice A0 ts.length c0) 3 1 ts.length (flat (ic .i64) ts)] ++ F) w' := by
 refine begin_ (vs := [.agg p.cells.toArray, .slice A0 ts.length c0, .func (.func f) #[] cap]) (I := Pm w0 ([.row (.slice A0 ts.length c0) 3 1 ts.length (flat (ic .i64) ts)] ++ F)) Tryz.func140 rfl rfl rfl ?_ hw0
 refine zSG ?_
 refine TL.pnew rfl rfl rfl (exec_box (cs := p.cells) rfl rfl rfl) (fun g3 => ?_)
 refine TL.as_ ?_
 refine zET (zS (zSG (TL.mv ?_)))
 refine TL.v (gN Tryz.underlying106) ?_
 refine TL.mv ?_
 refine zET (zB ?_)
 refine TC.loop_ (α := {i : Nat // i ≤ ts.length ∧ ∀ t ∈ ts.take i, P t = false}) (fun y => [(2, .func (.func f) #[] cap), (3, .pointer (some ⟨g3, 0, none⟩)), (9, .slice A0 ts.length c0), (10, .int .i64 (ts.length : Nat)), (11, .int .i64 ((y.1 : Nat) : Int))]) (fun y => Pm w0 ([.blk g3 34 p.cells, .row (.slice A0 ts.length c0) 3 1 ts.length (flat (ic .i64) ts)] ++ F)) (fun y => ts.length - y.1) (⟨0, Nat.zero_le _, fun r hr => by rw [List.take_zero] at hr; cases hr⟩) ⟨rfl, rfl, rfl, rfl, rfl, trivial⟩ (fun w1 hw => hw) ?_
 rintro ⟨i, hi, hall⟩
 try dsimp only at hi hall ⊢
 refine zSG ?_
 refine TL.sp bin_lss (fun q12 => ?_) (fun q12 => ?_)
 ·refine zET (zS (zc (zk (zT (zS (zB (zSG ?_)))))))
  refine TL.fact (p := ∃ g, A0 = some ⟨g, 0, none⟩) (fun w1 hw => rowA hw (k := 1) rfl (by omega)) ?_
  rintro ⟨g_A0, rfl⟩
  have hi13 : i < ts.length := by omega
  obtain ⟨x13, hx13⟩ := ex_at hi13
  refine TL.val rfl rfl rfl (gA (i := i) Tryz.underlying106 pcmsz3 rfl rfl rfl rfl rfl (by omega)) ?_
  refine TL.val rfl rfl rfl (gives_load (v := .int .i64 x13) rfl rfl pcmag3 (fun w1 hw => flat_row (ic_cel .i64) hw (q := 1) rfl hx13 0 _ rfl)) ?_
  refine TL.as_ ?_
  refine zET (zSG (TL.rn 2 rfl ?_))
  obtain ⟨bv, hbv⟩ : ∃ b, P x13 = b := ⟨_, rfl⟩
  refine TL.callE1 (r := .bool bv) rfl rfl rfl (ent_val rfl rfl rfl hfn hnm hbd rfl) (fun w1 hw => by rw [← hbv]; exact hf x13 w1 ⟨_, hw⟩) ?_
  refine zET ?_
  refine TC.split (t := bv) rfl (fun c17 => ?_) (fun c17 => ?_)
  ·refine zSG (TL.mv ?_)
   refine TL.v (gF arpfld34_4) ?_
   refine TL.pstore (k := 0) (vs := [.int .i64 x13]) rfl rfl rfl rfl rfl rfl rfl pcmsz3 aeaone_i64 (by show 7 ≤ 8; decide) rfl ?_
   refine zET (zSG (TL.v (gV 0 (.agg #[.int .i64 p.kind, .int .i64 p.v, .int .u32 p.dst, .int .i64 p.proto, .int .i64 p.flow, .int .i64 p.ttl, .int .i64 x13, .int .i64 p.prov]) abrag34 abrsz34) ?_))
   refine TL.prowS (e := 34) (size := 8) (cs := flat Rp.cells [(⟨p.kind, p.v, p.dst, p.proto, p.flow, p.ttl, x13, p.prov⟩ : Rp)]) rfl rfl rfl rfl rfl (fun w => aeabs49_1_10276 _ _ _ _ _ _ _ _ w) (by decide) rfl (fun g21 => ?_)
   refine TL.as_ ?_
   refine zET (zr (zRR (zR (zRR ?_))))
   exact ret_tmp Tryz.results140 rfl (fun w1 hw => ⟨⟨(((some ⟨g21, 0, none⟩), 1), [p.when x13]), .inr ⟨i, x13, hx13, hall, by rw [hbv, c17], rfl⟩, Nat.le_refl _, Nat.le_refl _, by show 1 ≤ maxLen; decide⟩, rfl, hw.sel (.cons_cons _ (.cons _ (.cons_cons _ (List.Sublist.refl _))))⟩)
  refine zk (zN (zT (zG ?_)))
  refine TL.v (gD ((i + 1 : Nat) : Int)) ?_
  refine TL.mv ?_
  refine zE ?_
  exact TX.round (⟨i + 1, by omega, fun r hr => by rcases (mem_take_snoc hx13).1 hr with h9 | h9; exact hall r h9; rw [h9, hbv, c17]⟩) (by show ts.length - (i + 1) < ts.length - i; omega) ⟨rfl, rfl, rfl, rfl, rfl, trivial⟩ (fun w1 hw => hw)
 refine zET (zS (zd (zx (zX (zX (zM (zT (zSG (TL.as_ ?_)))))))))
 refine zET (zr ?_)
 rw [List.take_of_length_le (by omega)] at hall
 exact ret_tmp Tryz.results140 rfl (fun w1 hw => ⟨⟨((none, 0), []), .inl ⟨rfl, hall⟩, Nat.zero_le _, Nat.le_refl _, Nat.zero_le _⟩, rfl, Pm.nilrow (hw.sel (.cons _ (.cons_cons _ (List.Sublist.refl _)))) _ _⟩)
open Go.RowKit Go.Shelf Go.Sort
set_option maxRecDepth 20000
def sFRpRen : Go.Shelf.Ren := ⟨fun | 6 => 93 | 14 => 145 | 15 => 146 | 20 => 167 | 21 => 168 | 22 => 169 | 23 => 170 | 24 => 171 | 25 => 172 | 26 => 173 | 27 => 174 | 28 => 175 | 29 => 176 | 46 => 208 | 47 => 209 | 48 => 210 | 49 => 211 | 50 => 212 | 57 => 224 | n => n, fun | 22 => 49 | 24 => 34 | 25 => 52 | 39 => 174 | 45 => 191 | 46 => 192 | 50 => 196 | 53 => 29 | 55 => 200 | 66 => 219 | 70 => 223 | 76 => 235 | 77 => 236 | n => n, fun n => n⟩
theorem sFRp : SlLaysF0.n6 Tryz.prog sFRpRen where
  mixed := by kernel_rfl
  f6 := ⟨Tryz.f93.name, by decide, Tryz.func93.trans (by kernel_rfl)⟩
  f14 := ⟨Tryz.f145.name, by decide, Tryz.func145.trans (by kernel_rfl)⟩
  f15 := Tryz.func146.trans (by kernel_rfl)
  f20 := ⟨Tryz.f167.name, by decide, Tryz.func167.trans (by kernel_rfl)⟩
  f21 := ⟨Tryz.f168.name, by decide, Tryz.func168.trans (by kernel_rfl)⟩
  f22 := ⟨Tryz.f169.name, by decide, Tryz.func169.trans (by kernel_rfl)⟩
  f23 := ⟨Tryz.f170.name, by decide, Tryz.func170.trans (by kernel_rfl)⟩
  f24 := ⟨Tryz.f171.name, by decide, Tryz.func171.trans (by kernel_rfl)⟩
  f25 := ⟨Tryz.f172.name, by decide, Tryz.func172.trans (by kernel_rfl)⟩
  f26 := ⟨Tryz.f173.name, by decide, Tryz.func173.trans (by kernel_rfl)⟩
  f27 := ⟨Tryz.f174.name, by decide, Tryz.func174.trans (by kernel_rfl)⟩
  f28 := Tryz.func175.trans (by kernel_rfl)
  f29 := Tryz.func176.trans (by kernel_rfl)
  f46 := ⟨Tryz.f208.name, by decide, Tryz.func208.trans (by kernel_rfl)⟩
  f47 := Tryz.func209.trans (by kernel_rfl)
  f48 := Tryz.func210.trans (by kernel_rfl)
  f49 := ⟨Tryz.f211.name, by decide, Tryz.func211.trans (by kernel_rfl)⟩
  f50 := ⟨Tryz.f212.name, by decide, Tryz.func212.trans (by kernel_rfl)⟩
  f57 := ⟨Tryz.f224.name, by decide, Tryz.func224.trans (by kernel_rfl)⟩
  t0 := Tryz.underlying0
  a0 := fun w => rfl
  z0 := fun w => rfl
  v0 := fun w => rfl
  t3 := Tryz.underlying3
  a3 := fun w => rfl
  z3 := fun w => rfl
  v3 := fun w => rfl
  t4 := Tryz.underlying4
  a4 := fun w => rfl
  z4 := fun w => rfl
  v4 := fun w => rfl
  t5 := Tryz.underlying5
  a5 := fun w => rfl
  z5 := fun w => rfl
  v5 := fun w => rfl
  t9 := Tryz.underlying9
  a9 := fun w => rfl
  z9 := fun w => rfl
  v9 := fun w => rfl
  t22 := Tryz.underlying49
  a22 := fun w => rfl
  z22 := fun w => rfl
  v22 := fun w => rfl
  t25 := Tryz.underlying52
  a25 := fun w => rfl
  z25 := fun w => rfl
  v25 := fun w => rfl
  t39 := Tryz.underlying174
  a39 := fun w => rfl
  z39 := fun w => rfl
  v39 := fun w => rfl
  t45 := Tryz.underlying191
  a45 := fun w => rfl
  z45 := fun w => rfl
  v45 := fun w => rfl
  t46 := Tryz.underlying192
  a46 := fun w => rfl
  z46 := fun w => rfl
  v46 := fun w => rfl
  t50 := Tryz.underlying196
  a50 := fun w => rfl
  z50 := fun w => rfl
  v50 := fun w => rfl
  t53 := Tryz.underlying29
  a53 := fun w => rfl
  z53 := fun w => rfl
  v53 := fun w => rfl
  t55 := Tryz.underlying200
  a55 := fun w => rfl
  z55 := fun w => rfl
  v55 := fun w => rfl
  t66 := Tryz.underlying219
  a66 := fun w => rfl
  z66 := fun w => rfl
  v66 := fun w => rfl
  t70 := Tryz.underlying223
  a70 := fun w => rfl
  z70 := fun w => rfl
  v70 := fun w => rfl
  t76 := Tryz.underlying235
  a76 := fun w => rfl
  z76 := fun w => rfl
  v76 := fun w => rfl
  t77 := Tryz.underlying236
  a77 := fun w => rfl
  z77 := fun w => rfl
  v77 := fun w => rfl
instance : Inhabited Rp := ⟨⟨0, 0, 0, 0, 0, 0, 0, 0⟩⟩
theorem sortRp {b n cap : Nat} {A : Option Addr} {l : List Rp} {w : World} (hr : w.ownsRow b 34 8 (.slice A n cap) n (flat Rp.cells l)) (hl : l.length = n) (hn : n ≤ 100000000000) :
    Calls Tryz.prog 93 #[.slice A n cap, .func (.func 33) #[] #[]] w fun en w' => en = .returned (.tuple #[]) ∧ ∃ l', Sorted cmpRp l l' ∧ w'.ownsRow b 34 8 (.slice A n cap) n (flat Rp.cells l') ∧ w.grownBy w' (Value.ownBlock (.slice A n cap)) :=
  sortF_row (ρ := sFRpRen) sFRp rp_cel (fun w => rfl) (fun w => rfl) cmpRp (swo_keys (n := 8) (Rp.keys) fun _ => rfl) 33 (enters_of Tryz.func33 (by kernel_rfl) rfl) cmpRp_any hr hl (by omega)
open Go.RowKit Go.Shelf
def MinU (P S : Rp → Prop) (out : List Rp) : Prop := out.Pairwise (fun a b => a.cand ≠ b.cand) ∧ ∀ p, p ∈ out ↔ S p ∧ P p ∧ ∀ q, S q → q.cand = p.cand → P q → p.at_ ≤ q.at_
section
variable {P P' S S' : Rp → Prop} {a b out : List Rp}
theorem MinU.congr (h : MinU P S out) (hS : ∀ p, P p → (S p ↔ S' p)) : MinU P S' out := ⟨h.1, fun p => by
  rw [h.2]
  constructor
  · rintro ⟨h1, h2, h3⟩; exact ⟨(hS p h2).1 h1, h2, fun q hq hc hP => h3 q ((hS q hP).2 hq) hc hP⟩
  · rintro ⟨h1, h2, h3⟩; exact ⟨(hS p h2).2 h1, h2, fun q hq hc hP => h3 q ((hS q hP).1 hq) hc hP⟩⟩
theorem MinU.congrP (h : MinU P S out) (hP : ∀ p, S p → (P p ↔ P' p)) : MinU P' S out := ⟨h.1, fun p => by
  rw [h.2]
  constructor
  · rintro ⟨h1, h2, h3⟩; exact ⟨h1, (hP p h1).1 h2, fun q hq hc hp => h3 q hq hc ((hP q hq).2 hp)⟩
  · rintro ⟨h1, h2, h3⟩; exact ⟨h1, (hP p h1).2 h2, fun q hq hc hp => h3 q hq hc ((hP q hq).1 hp)⟩⟩
theorem MinU.nil (hS : ∀ p, ¬ S p) : MinU P S [] := ⟨List.Pairwise.nil, fun p => ⟨fun h => absurd h List.not_mem_nil, fun h => absurd h.1 (hS p)⟩⟩
theorem MinU.app (h : MinU P S a) (h' : MinU P S' b) (hd : ∀ p q, S p → S' q → p.cand ≠ q.cand) : MinU P (fun p => S p ∨ S' p) (a ++ b) := by
  refine ⟨List.pairwise_append.2 ⟨h.1, h'.1, fun x hx y hy => hd x y ((h.2 x).1 hx).1 ((h'.2 y).1 hy).1⟩, fun p => ?_⟩
  rw [List.mem_append, h.2, h'.2]
  constructor
  · rintro (⟨h1, h2, h3⟩ | ⟨h1, h2, h3⟩)
    · exact ⟨.inl h1, h2, fun q hq hc hP => hq.elim (fun hq => h3 q hq hc hP) fun hq => absurd hc.symm (hd p q h1 hq)⟩
    · exact ⟨.inr h1, h2, fun q hq hc hP => hq.elim (fun hq => absurd hc (hd q p hq h1)) fun hq => h3 q hq hc hP⟩
  · rintro ⟨h1 | h1, h2, h3⟩
    · exact .inl ⟨h1, h2, fun q hq => h3 q (.inl hq)⟩
    · exact .inr ⟨h1, h2, fun q hq => h3 q (.inr hq)⟩
theorem MinU.sorted (h : MinU P S a) (hs : Sorted cmpRp a b) : IsMin P S b := by
  refine ⟨?_, fun p => by rw [hs.1.mem_iff, h.2]⟩
  have hn : b.Pairwise fun x y => x.cand ≠ y.cand := (hs.1.pairwise_iff (fun {x y} h1 h2 => h1 h2.symm)).2 h.1
  refine (hs.2.and hn).imp fun {x y} ⟨h1, h2⟩ => ?_
  have h3 : lexI x.keys y.keys ≠ 0 := fun h0 => h2 (by rw [rpk_inj ((lexI_zero (a := x.keys) (b := y.keys) rfl).1 h0)])
  have h4 : ¬ lexI y.keys x.keys < 0 := h1
  have h5 := (posK rpk_len (x := x) (y := y)).1
  have h6 : ¬ 0 < lexI x.keys y.keys := fun h => h4 (h5 h)
  omega
theorem EarB.minU {B : Int → Bool} {p : Rp} {ts : List Int} (h : EarB B p ts a) (ht : ts.Pairwise (· < ·)) (hB : ∀ t, B t = true ↔ P (p.when t)) : MinU P (fun q => q.cand = p.cand ∧ q.at_ ∈ ts) a := by
  have key : ∀ q : Rp, q.cand = p.cand → q = p.when q.at_ := fun q hq => ((like_iff (p := p) (q := q)).2 hq.symm).symm
  rcases h with ⟨rfl, h1⟩ | ⟨i, t, h1, h2, h3, rfl⟩
  · refine ⟨List.Pairwise.nil, fun q => ⟨fun h => absurd h List.not_mem_nil, ?_⟩⟩
    rintro ⟨⟨h3, h4⟩, h5, _⟩
    rw [key q h3, ← hB, h1 _ h4] at h5; cases h5
  · have hlt : ∀ s ∈ ts, s < t → s ∈ ts.take i := fun s hs hst => by
      obtain ⟨j, hj⟩ := List.getElem?_of_mem hs
      refine List.mem_of_getElem? (i := j) ?_
      obtain ⟨hi, e1⟩ := List.getElem?_eq_some_iff.1 h1
      obtain ⟨hj', e2⟩ := List.getElem?_eq_some_iff.1 hj
      have : j < i := by
        rcases Nat.lt_trichotomy j i with h | h | h
        · exact h
        · subst h; rw [e1] at e2; omega
        · have := (List.pairwise_iff_getElem.1 ht) i j hi hj' h
          rw [e1, e2] at this; omega
      rw [List.getElem?_take_of_lt this]; exact hj
    refine ⟨List.pairwise_singleton _ _, fun q => ?_⟩
    rw [List.mem_singleton]
    constructor
    · rintro rfl
      refine ⟨⟨rfl, List.mem_of_getElem? h1⟩, (hB t).1 h3, ?_⟩
      rintro q ⟨h4, h5⟩ _ h6
      refine Int.not_lt.1 fun h7 => ?_
      have := h2 _ (hlt _ h5 h7)
      rw [key q h4, ← hB, this] at h6; cases h6
    · rintro ⟨⟨h4, h5⟩, h6, h7⟩
      have h8 := h7 (p.when t) ⟨rfl, List.mem_of_getElem? h1⟩ h4.symm ((hB t).1 h3)
      have h9 : ¬ q.at_ < t := fun h => by
        have := h2 _ (hlt _ h5 h)
        rw [key q h4, ← hB, this] at h6; cases h6
      rw [key q h4]
      congr 1
      have : (p.when t).at_ = t := rfl
      omega
end
def IsNum (l o : List Int) : Prop := o.Pairwise (· < ·) ∧ ∀ t, t ∈ o ↔ t ∈ l
theorem isNum_of {l s : List Int} (hs : SortedI l s) : IsNum l (cptG s) := by
  refine ⟨?_, fun t => by rw [mem_cptG, hs.1.mem_iff]⟩
  have h := hs.2
  clear hs
  induction s with
  | nil => exact List.Pairwise.nil
  | cons x s ih =>
    cases s with
    | nil => exact List.pairwise_singleton _ _
    | cons y s =>
      have ih := ih (List.pairwise_cons.1 h).2
      have h1 := (List.pairwise_cons.1 h).1
      have h2 := (List.pairwise_cons.1 (List.pairwise_cons.1 h).2).1
      rw [cptG]
      split
      · exact ih
      · rename_i hne
        refine List.pairwise_cons.2 ⟨fun z hz => ?_, ih⟩
        rw [mem_cptG] at hz
        have h3 := h1 y List.mem_cons_self
        rcases List.mem_cons.1 hz with e | e
        · subst e; omega
        · have := h2 z e; omega
def cB (r : Rs) : Rp := ⟨1, r.v, r.dst, r.proto, r.flow, 0, 0, 0⟩
def cC (r : Rs) (ttl : Int) : Rp := ⟨3, r.v, r.dst, r.proto, r.flow, ttl, 0, 0⟩
def cD (r : Rs) (ttl v : Int) : Rp := ⟨2, r.v, r.dst, r.proto, r.flow, ttl, 0, v⟩
section
variable {es : List En} {y : List Rs} {u : Ru} {r : Rs} {t ttl v : Int}
theorem prS_c1 : bhF y u.los t = true ↔ PrS es y u ((cB r).when t) := by
  unfold PrS cB Rp.when
  simp
theorem prS_c3 (hu : 1 ≤ u.prb) : (u.prb < 1 ∨ CgF (eaL (atL y ttl) t) (laL (atL y ttl) t) u.prb u.gro) ↔ PrS es y u ((cC r ttl).when t) := by
  unfold PrS cC Rp.when
  have : ¬ u.prb < 1 := by omega
  simp [this]
theorem prS_c2 (hv : v ≠ 0) : DtF (fun r : Rs => provR es r.src r.back) (atL y ttl) v t ↔ PrS es y u ((cD r ttl v).when t) := by
  unfold PrS cD Rp.when
  simp [hv]
end
def SA (es : List En) (r : Rs) (own : List Rs) (tm ttls : List Int) (p : Rp) : Prop := p.at_ ∈ tm ∧ (p.cand = cB r ∨ ∃ ttl ∈ ttls, p.cand = cC r ttl ∨ ∃ v ∈ (atL own ttl).map (fun r => provR es r.src r.back), v ≠ 0 ∧ p.cand = cD r ttl v)
def SB (es : List En) (r : Rs) (own : List Rs) (tm ttls : List Int) (ttl : Int) (vs : List Int) (p : Rp) : Prop := SA es r own tm ttls p ∨ (p.at_ ∈ tm ∧ (p.cand = cC r ttl ∨ ∃ v ∈ vs, v ≠ 0 ∧ p.cand = cD r ttl v))
def TmS (r : Rs) (own : List Rs) (p : Rp) : Prop := p.trc = trcR r ∧ p.flow = r.flow ∧ ∃ s ∈ own, s.at_ = p.at_
section
variable {es : List En} {own : List Rs} {u : Ru} {r : Rs} {tm ttls ow vs : List Int} {i j : Nat} {ttl v : Int} {out o : List Rp} {P : Rp → Prop} {B : Int → Bool}
theorem sa_start (h : EarB B (cB r) tm o) (ht : tm.Pairwise (· < ·)) (hB : ∀ t, B t = bhF own u.los t) : MinU (PrS es own u) (SA es r own tm []) o :=
  (h.minU ht fun t => by rw [hB]; exact prS_c1).congr fun p _ => ⟨fun ⟨h1, h2⟩ => ⟨h2, .inl h1⟩, fun ⟨h1, h2⟩ => ⟨h2.elim id fun ⟨t, ht, _⟩ => absurd ht List.not_mem_nil, h1⟩⟩
theorem sb_start (h : MinU (PrS es own u) (SA es r own tm (ttls.take i)) out) (hx : ttls[i]? = some ttl) (hn : ttls.Pairwise (· < ·)) (he : EarB B (cC r ttl) tm o) (ht : tm.Pairwise (· < ·)) (hu : 1 ≤ u.prb) (hB : ∀ t, B t = true ↔ u.prb < 1 ∨ CgF (eaL (atL own ttl) t) (laL (atL own ttl) t) u.prb u.gro) : MinU (PrS es own u) (SB es r own tm (ttls.take i) ttl []) (out ++ o) := by
  have hnot : ttl ∉ ttls.take i := fun hm => by
    obtain ⟨j, hj⟩ := List.getElem?_of_mem hm
    have hj2 : j < i := by have := (List.getElem?_eq_some_iff.1 hj).1; rw [List.length_take] at this; omega
    rw [List.getElem?_take_of_lt hj2] at hj
    obtain ⟨h1, e1⟩ := List.getElem?_eq_some_iff.1 hj
    obtain ⟨h2, e2⟩ := List.getElem?_eq_some_iff.1 hx
    have := (List.pairwise_iff_getElem.1 hn) j i h1 h2 hj2
    omega
  refine (h.app (he.minU ht fun t => by rw [hB]; exact prS_c3 hu) ?_).congr fun p _ => ?_
  · rintro p q ⟨_, h1⟩ ⟨h2, _⟩ h3
    have h4 : p.cand = cC r ttl := h3.trans h2
    rcases h1 with h1 | ⟨t, ht, h1 | ⟨v, _, _, h1⟩⟩
    · rw [h1] at h4; simp [cB, cC] at h4
    · rw [h1] at h4; simp only [cC, Rp.mk.injEq] at h4; exact hnot (h4.2.2.2.2.2.1 ▸ ht)
    · rw [h1] at h4; simp [cD, cC] at h4
  · unfold SB
    exact ⟨fun h => h.imp id fun ⟨h1, h2⟩ => ⟨h2, .inl h1⟩, fun h => h.imp id fun ⟨h1, h2⟩ => ⟨h2.elim id fun ⟨t, ht, _⟩ => absurd ht List.not_mem_nil, h1⟩⟩
theorem sb_zero (h : MinU P (SB es r own tm ttls ttl (ow.take j)) out) (hx : ow[j]? = some v) (hv : v = 0) : MinU P (SB es r own tm ttls ttl (ow.take (j + 1))) out := h.congr fun p _ => by
  unfold SB
  rw [List.take_add_one, hx]
  constructor
  · rintro (h | ⟨h1, h2 | ⟨w, h2, h3⟩⟩)
    · exact .inl h
    · exact .inr ⟨h1, .inl h2⟩
    · exact .inr ⟨h1, .inr ⟨w, List.mem_append_left _ h2, h3⟩⟩
  · rintro (h | ⟨h1, h2 | ⟨w, h2, h3⟩⟩)
    · exact .inl h
    · exact .inr ⟨h1, .inl h2⟩
    · rcases List.mem_append.1 h2 with h4 | h4
      · exact .inr ⟨h1, .inr ⟨w, h4, h3⟩⟩
      · exact absurd ((show w = v by simpa using h4).trans hv) h3.1
theorem sb_next (h : MinU (PrS es own u) (SB es r own tm (ttls.take i) ttl (ow.take j)) out) (ht : ttls[i]? = some ttl) (hn : ttls.Pairwise (· < ·)) (hx : ow[j]? = some v) (ho : ow.Pairwise (· < ·)) (hv : v ≠ 0) (he : EarB B (cD r ttl v) tm o) (htm : tm.Pairwise (· < ·)) (hB : ∀ t, B t = true ↔ DtF (fun r : Rs => provR es r.src r.back) (atL own ttl) v t) : MinU (PrS es own u) (SB es r own tm (ttls.take i) ttl (ow.take (j + 1))) (out ++ o) := by
  have nin : ∀ {l : List Int} {k : Nat} {z : Int}, l.Pairwise (· < ·) → l[k]? = some z → z ∉ l.take k := fun {l k z} hp hz hm => by
    obtain ⟨j, hj⟩ := List.getElem?_of_mem hm
    have hj2 : j < k := by have := (List.getElem?_eq_some_iff.1 hj).1; rw [List.length_take] at this; omega
    rw [List.getElem?_take_of_lt hj2] at hj
    obtain ⟨h1, e1⟩ := List.getElem?_eq_some_iff.1 hj
    obtain ⟨h2, e2⟩ := List.getElem?_eq_some_iff.1 hz
    have := (List.pairwise_iff_getElem.1 hp) j k h1 h2 hj2
    omega
  refine (h.app (he.minU htm fun t => by rw [hB]; exact prS_c2 hv) ?_).congr fun p _ => ?_
  · rintro p q h1 ⟨h2, _⟩ h3
    have h4 : p.cand = cD r ttl v := h3.trans h2
    rcases h1 with ⟨_, h1 | ⟨t, ht', h1 | ⟨w, _, _, h1⟩⟩⟩ | ⟨_, h1 | ⟨w, h5, _, h1⟩⟩
    · rw [h1] at h4; simp [cB, cD] at h4
    · rw [h1] at h4; simp [cC, cD] at h4
    · rw [h1] at h4; simp only [cD, Rp.mk.injEq] at h4; exact nin hn ht (h4.2.2.2.2.2.1 ▸ ht')
    · rw [h1] at h4; simp [cC, cD] at h4
    · rw [h1] at h4; simp only [cD, Rp.mk.injEq] at h4; exact nin ho hx (h4.2.2.2.2.2.2.2 ▸ h5)
  · unfold SB
    rw [List.take_add_one, hx]
    constructor
    · rintro ((h | ⟨h1, h2 | ⟨w, h2, h3⟩⟩) | ⟨h1, h2⟩)
      · exact .inl h
      · exact .inr ⟨h1, .inl h2⟩
      · exact .inr ⟨h1, .inr ⟨w, List.mem_append_left _ h2, h3⟩⟩
      · exact .inr ⟨h2, .inr ⟨v, List.mem_append_right _ (List.mem_singleton.2 rfl), hv, h1⟩⟩
    · rintro (h | ⟨h1, h2 | ⟨w, h2, h3⟩⟩)
      · exact .inl (.inl h)
      · exact .inl (.inr ⟨h1, .inl h2⟩)
      · rcases List.mem_append.1 h2 with h4 | h4
        · exact .inl (.inr ⟨h1, .inr ⟨w, h4, h3⟩⟩)
        · rw [show w = v by simpa using h4] at h3
          exact .inr ⟨h3.2, h1⟩
theorem sb_end (h : MinU P (SB es r own tm (ttls.take i) ttl (ow.take j)) out) (hj : ow.length ≤ j) (ho : IsNum ((atL own ttl).map (fun r => provR es r.src r.back)) ow) (hx : ttls[i]? = some ttl) : MinU P (SA es r own tm (ttls.take (i + 1))) out := h.congr fun p _ => by
  unfold SB SA
  rw [List.take_of_length_le hj, List.take_add_one, hx]
  constructor
  · rintro (⟨h1, h2 | ⟨t, h2, h3⟩⟩ | ⟨h1, h2⟩)
    · exact ⟨h1, .inl h2⟩
    · exact ⟨h1, .inr ⟨t, List.mem_append_left _ h2, h3⟩⟩
    · exact ⟨h1, .inr ⟨ttl, List.mem_append_right _ (List.mem_singleton.2 rfl), h2.imp id fun ⟨v, h3, h4⟩ => ⟨v, (ho.2 v).1 h3, h4⟩⟩⟩
  · rintro ⟨h1, h2 | ⟨t, h2, h3⟩⟩
    · exact .inl ⟨h1, .inl h2⟩
    · rcases List.mem_append.1 h2 with h4 | h4
      · exact .inl ⟨h1, .inr ⟨t, h4, h3⟩⟩
      · rw [show t = ttl by simpa using h4] at h3
        exact .inr ⟨h1, h3.imp id fun ⟨v, h3, h4⟩ => ⟨v, (ho.2 v).2 h3, h4⟩⟩
theorem sa_end (h : MinU (PrS es own u) (SA es r own tm (ttls.take i)) out) (hi : ttls.length ≤ i) (htm : IsNum (own.map fun s => s.at_) tm) (htt : IsNum (own.map fun s => s.ttl) ttls) (hu : 1 ≤ u.prb) : MinU (PrS es own u) (TmS r own) out := h.congr fun p hP => by
  unfold SA TmS
  rw [List.take_of_length_le hi, htm.2, List.mem_map]
  have hc : ∀ {a b c d e f g k : Int}, (⟨a, b, c, d, e, f, g, k⟩ : Rp) = p.cand ↔ a = p.kind ∧ b = p.v ∧ c = p.dst ∧ d = p.proto ∧ e = p.flow ∧ f = p.ttl ∧ g = 0 ∧ k = p.prov := by
    intro a b c d e f g k; unfold Rp.cand; rw [Rp.mk.injEq]
  constructor
  · rintro ⟨⟨s, h1, h2⟩, h3⟩
    have key : p.trc = trcR r ∧ p.flow = r.flow := by
      unfold Rp.trc trcR
      rcases h3 with h3 | ⟨t, _, h3 | ⟨v, _, _, h3⟩⟩ <;> (have h4 := hc.1 h3.symm; exact ⟨by rw [h4.2.1, h4.2.2.1, h4.2.2.2.1], h4.2.2.2.2.1.symm⟩)
    exact ⟨key.1, key.2, s, h1, h2⟩
  · rintro ⟨h1, h2, s, h3, h4⟩
    refine ⟨⟨s, h3, h4⟩, ?_⟩
    unfold Rp.trc trcR at h1
    injection h1 with e1 e2 e3
    rcases hP with ⟨a1, a2, a3, _⟩ | ⟨a1, a2, a3⟩ | ⟨a1, a2, a3⟩
    · exact .inl (hc.2 ⟨a1.symm, e1.symm, e2.symm, e3.symm, h2.symm, a2.symm, rfl, a3.symm⟩).symm
    · obtain ⟨e, h5, _⟩ := a3
      obtain ⟨z, hz, _⟩ := ea_mem h5
      have hz2 := List.mem_filter.1 hz
      simp only [Bool.and_eq_true, decide_eq_true_eq] at hz2
      exact .inr ⟨p.ttl, (htt.2 _).2 (List.mem_map.2 ⟨z, hz2.1, hz2.2.2⟩), .inl (hc.2 ⟨a1.symm, e1.symm, e2.symm, e3.symm, h2.symm, rfl, rfl, a2.symm⟩).symm⟩
    · obtain ⟨a, _, _, b, hb, _, hb2, _⟩ := a3
      have hz2 := List.mem_filter.1 hb
      simp only [Bool.and_eq_true, decide_eq_true_eq] at hz2
      exact .inr ⟨p.ttl, (htt.2 _).2 (List.mem_map.2 ⟨b, hz2.1, hz2.2.2⟩), .inr ⟨p.prov, List.mem_map.2 ⟨b, hb, hb2⟩, a2, (hc.2 ⟨a1.symm, e1.symm, e2.symm, e3.symm, h2.symm, rfl, rfl, rfl⟩).symm⟩⟩
end
section
variable {α : Type} {key : α → List Int} {n : Nat}
theorem ascK_exi (hk : ∀ x, (key x).length = n) : ∀ (l : List α), (∀ x ∈ l, ∀ y ∈ l, key x = key y → x = y) → ∃ o, AscK key o ∧ ∀ x, x ∈ o ↔ x ∈ l
  | [], _ => ⟨[], List.Pairwise.nil, fun x => Iff.rfl⟩
  | a :: l, hi => by
    obtain ⟨o, h1, h2⟩ := ascK_exi hk l fun x hx y hy => hi x (List.mem_cons_of_mem _ hx) y (List.mem_cons_of_mem _ hy)
    by_cases ha : a ∈ o
    · refine ⟨o, h1, fun x => ?_⟩
      rw [h2, List.mem_cons]
      constructor
      · exact .inr
      · rintro (rfl | h)
        · exact (h2 _).1 ha
        · exact h
    · refine ⟨o.filter (fun y => decide (lexI (key y) (key a) < 0)) ++ a :: o.filter (fun y => decide (lexI (key a) (key y) < 0)), ?_, fun x => ?_⟩
      · refine List.pairwise_append.2 ⟨h1.filter _, List.pairwise_cons.2 ⟨fun y hy => of_decide_eq_true (List.mem_filter.1 hy).2, h1.filter _⟩, fun y hy z hz => ?_⟩
        have hy2 : lexI (key y) (key a) < 0 := of_decide_eq_true (List.mem_filter.1 hy).2
        rcases List.mem_cons.1 hz with rfl | hz
        · exact hy2
        · exact ltK_trans hk hy2 (of_decide_eq_true (List.mem_filter.1 hz).2)
      · rw [List.mem_append, List.mem_cons, List.mem_filter, List.mem_filter, List.mem_cons, ← h2]
        constructor
        · rintro (⟨h, _⟩ | rfl | ⟨h, _⟩)
          · exact .inr h
          · exact .inl rfl
          · exact .inr h
        · rintro (rfl | h)
          · exact .inr (.inl rfl)
          · have hne : key x ≠ key a := fun e => ha (hi x (List.mem_cons_of_mem _ ((h2 x).1 h)) a List.mem_cons_self e ▸ h)
            have h3 := lexI_swap (a := key a) (b := key x) (by rw [hk, hk])
            have h4 : lexI (key x) (key a) ≠ 0 := fun e => hne ((lexI_zero (by rw [hk, hk])).1 e)
            rcases Int.lt_or_gt_of_ne h4 with h5 | h5
            · exact .inl ⟨h, decide_eq_true h5⟩
            · exact .inr (.inr ⟨h, decide_eq_true (by omega)⟩)
theorem ascK_sub (hk : ∀ x, (key x).length = n) : ∀ {a b : List α}, AscK key a → AscK key b → (∀ x ∈ a, x ∈ b) → a.Sublist b
  | [], b, _, _, _ => List.nil_sublist b
  | x :: a, [], _, _, h => absurd (h x List.mem_cons_self) List.not_mem_nil
  | x :: a, y :: b, ha, hb, h => by
    have ha' := List.pairwise_cons.1 ha
    have hb' := List.pairwise_cons.1 hb
    rcases List.mem_cons.1 (h x List.mem_cons_self) with rfl | hx
    · refine (ascK_sub hk ha'.2 hb'.2 fun z hz => ?_).cons_cons _
      rcases List.mem_cons.1 (h z (List.mem_cons_of_mem _ hz)) with rfl | h1
      · exact absurd (ha'.1 _ hz) (ltK_irrefl _)
      · exact h1
    · refine (ascK_sub hk ha hb'.2 fun z hz => ?_).cons _
      rcases List.mem_cons.1 (h z hz) with rfl | h1
      · rcases List.mem_cons.1 hz with rfl | h2
        · exact hx
        · exact (ltK_asymm hk (hb'.1 _ hx) (ha'.1 _ h2)).elim
      · exact h1
end
theorem ord_ex {l : List Rs} (hok : ∀ r ∈ l, r.Ok) : ∃ o, IsOrd l o := by
  obtain ⟨o, h1, h2⟩ := ascK_exi (key := Rs.keys) keys_len (l.filter vldRs) fun x hx y hy => keys_inj (hok x (List.mem_filter.1 hx).1) (hok y (List.mem_filter.1 hy).1)
  exact ⟨o, h1, fun x => by rw [h2, List.mem_filter]⟩
theorem st_ex {l : List Rs} (hok : ∀ r ∈ l, r.Ok) (t : Trc) (flow : Int) : ∃ y, IsSt l t flow y := by
  obtain ⟨o, ho⟩ := ord_ex hok
  exact ⟨_, _, ⟨o, ho, rfl⟩, rfl⟩
theorem IsSt.asc {l y : List Rs} {t : Trc} {flow : Int} (h : IsSt l t flow y) : AscK Rs.keys y := by
  obtain ⟨x, ⟨o, h1, rfl⟩, rfl⟩ := h
  exact (h1.1.filter _).filter _
theorem IsSt.sub {l l' y y' : List Rs} {t : Trc} {flow : Int} (h : IsSt l t flow y) (h' : IsSt l' t flow y') (hs : ∀ r ∈ l, r ∈ l') : y.Sublist y' :=
  ascK_sub keys_len h.asc h'.asc fun x hx => by
    have := (h.mem x).1 hx
    exact (h'.mem x).2 ⟨hs x this.1, this.2⟩
section
variable {es : List En} {l l' y y' : List Rs} {u v : Ru} {p : Rp}
theorem lost_sub (hs : y.Sublist y') (e t : Int) : lostN e t y ≤ lostN e t y' := (hs.filter _).length_le
theorem bh_sub (hs : y.Sublist y') {n t : Int} (h : bhF y n t = true) : bhF y' n t = true := by
  obtain ⟨x, h1, h2, h3, h4⟩ := bh_iff.1 h
  have := lost_sub hs x.ttl t
  exact bh_iff.2 ⟨x, hs.subset h1, h2, h3, by omega⟩
theorem dt_sub (hs : y.Sublist y') {f : Rs → Int} {n t : Int} (h : DtF f y n t) : DtF f y' n t := by
  obtain ⟨a, h1, h2, b, h3, h4⟩ := h
  exact ⟨a, hs.subset h1, h2, b, hs.subset h3, h4⟩
theorem cg_sub {ea la ea' la' : List Int} (h1 : ea.Sublist ea') (h2 : la.Sublist la') {n g : Int} (h : CgF ea la n g) : CgF ea' la' n g := by
  obtain ⟨e, h3, h4, h5⟩ := h
  have h6 := (h1.filter fun z => decide (z ≤ e)).length_le
  have h7 := (h2.filter fun z => decide (g ≤ z - e)).length_le
  exact ⟨e, h1.subset h3, by omega, by omega⟩
theorem PrP.mono (h : PrP es l u p) (hs : ∀ r ∈ l, r ∈ l') (hok : ∀ r ∈ l', r.Ok) : PrP es l' u p := by
  obtain ⟨h1, h2, h3, h4⟩ := h
  obtain ⟨y', hy'⟩ := st_ex hok p.trc p.flow
  refine ⟨h1, h2, h3, ?_⟩
  rcases h4 with ⟨h4, y, hy, h5⟩ | ⟨h4, y, hy, h5⟩ | ⟨h4, h5⟩
  · exact .inl ⟨h4, y', hy', bh_sub (hy.sub hy' hs) h5⟩
  · exact .inr (.inl ⟨h4, y', hy', dt_sub ((hy.sub hy' hs).filter _) h5⟩)
  · refine .inr (.inr ⟨h4, h5.elim .inl fun ⟨y, hy, h6⟩ => .inr ⟨y', hy', ?_⟩⟩)
    have hs2 := (hy.sub hy' hs).filter fun r => r.ans && decide (r.ttl = p.ttl)
    exact cg_sub ((hs2.filter _).map _) ((hs2.filter _).map _) h6
end
section
variable {es : List En} {l : List Rs} {u : Ru} {out : List Rp} {z : Int}
theorem FndOk.good (h : FndOk es l u out z) (hv : ∀ r ∈ l, vldRs r = true) (he : validR es = true) (hu : vldRu u = true) (hl : l.length ≤ 512) : z = 0 ∧ IsFnd es l u out := by
  rcases h with ⟨_, _, h⟩ | ⟨_, _, _, o, h1, h2⟩ | ⟨h1, h2, _⟩
  · exact absurd ⟨hv, he, hu⟩ h
  · have := h1.le; omega
  · exact ⟨h1, h2⟩
end
def awR0 : Rs := ⟨0, 0, 0, 0, 9, 17, 0, 3, true, false, 50, 9, 3, 0, 0, 0, 0⟩
def awR1 : Rs := ⟨0, 0, 1, 60, 9, 17, 0, 3, false, false, 70, 0, 0, 0, 0, 0, 0⟩
def awR2 : Rs := ⟨0, 0, 2, 80, 9, 17, 0, 3, false, false, 90, 0, 0, 0, 0, 0, 0⟩
def awL : List Rs := [awR0, awR1, awR2]
def awU : Ru := ⟨2, 1, 1⟩
def awP : Rp := ⟨1, 0, 9, 17, 0, 0, 60, 0⟩
theorem awL_ok : ∀ r ∈ awL, r.Ok := by unfold Rs.Ok; decide +kernel
theorem awL_vld : ∀ r ∈ awL, vldRs r = true := by decide +kernel
theorem awT_ok : ∀ r ∈ awL.take 2, r.Ok := by unfold Rs.Ok; decide +kernel
theorem aw_st : IsSt awL ⟨0, 9, 17⟩ 0 awL :=
  ⟨awL, ⟨awL, ⟨by unfold AscK; decide +kernel, fun x => ⟨fun h => ⟨h, awL_vld x h⟩, fun h => h.1⟩⟩, by decide +kernel⟩, by decide +kernel⟩
theorem aw_st2 : IsSt (awL.take 2) ⟨0, 9, 17⟩ 0 (awL.take 2) :=
  ⟨awL.take 2, ⟨awL.take 2, ⟨by unfold AscK; decide +kernel, fun x => ⟨fun h => ⟨h, awL_vld x (List.mem_of_mem_take h)⟩, fun h => h.1⟩⟩, by decide +kernel⟩, by decide +kernel⟩
theorem aw_mem {r : Rs} (h : r ∈ awL) : r = awR0 ∨ r = awR1 ∨ r = awR2 := by
  unfold awL at h
  simpa only [List.mem_cons, List.not_mem_nil, or_false] using h
theorem aw_ans {r : Rs} {ttl : Int} (h : r ∈ atL awL ttl) : r = awR0 := by
  have h1 := List.mem_filter.1 h
  rcases aw_mem h1.1 with rfl | rfl | rfl
  · rfl
  · exact absurd h1.2 (by simp [awR1])
  · exact absurd h1.2 (by simp [awR2])
theorem aw_pr : PrP [] awL awU awP := ⟨by decide +kernel, by decide +kernel, by decide +kernel, .inl ⟨rfl, awL, aw_st, by decide +kernel⟩⟩
theorem aw_pr2 : ¬ PrP [] (awL.take 2) awU awP := by
  rintro ⟨_, _, _, ⟨_, y, hy, h⟩ | ⟨h, _⟩ | ⟨h, _⟩⟩
  · rw [hy.eq aw_st2] at h
    revert h; decide +kernel
  · exact absurd h (by decide)
  · exact absurd h (by decide)
theorem aw_only {p : Rp} (h : PrP [] awL awU p) (ht : IsTm awL p) : p = awP := by
  obtain ⟨y, hy, r, hr, ha⟩ := ht
  have h1 := (hy.mem r).1 hr
  have h2 : p.trc = ⟨0, 9, 17⟩ ∧ p.flow = 0 ∧ (p.at_ = 0 ∨ p.at_ = 60 ∨ p.at_ = 80) := by
    rw [← h1.2.1, ← h1.2.2.2, ← ha]
    rcases aw_mem h1.1 with rfl | rfl | rfl
    · exact ⟨rfl, rfl, .inl rfl⟩
    · exact ⟨rfl, rfl, .inr (.inl rfl)⟩
    · exact ⟨rfl, rfl, .inr (.inr rfl)⟩
  obtain ⟨h3, h4, h5⟩ := h2
  have e : ∀ z, IsSt awL p.trc p.flow z → z = awL := fun z hz => by rw [h3, h4] at hz; exact hz.eq aw_st
  obtain ⟨_, hv, _, h6⟩ := h
  rcases h6 with ⟨h6, y2, hy2, h7⟩ | ⟨h6, y2, hy2, a, ha, _, b, hb, h8⟩ | ⟨h6, h7⟩
  · rw [e _ hy2] at h7
    have h8 : p.at_ = 60 := by
      rcases h5 with h5 | h5 | h5
      · rw [h5] at h7; exact absurd h7 (by decide +kernel)
      · exact h5
      · rw [h5] at h7; exact absurd h7 (by decide +kernel)
    unfold vldRp at hv
    simp only [Bool.and_eq_true, decide_eq_true_eq] at hv
    have h9 : p.ttl = 0 ∧ p.prov = 0 := by omega
    obtain ⟨kind, v, dst, proto, flow, ttl, at_, prov⟩ := p
    simp only [Rp.trc, Trc.mk.injEq] at h3
    simp only at h4 h6 h8 h9
    obtain ⟨rfl, rfl, rfl⟩ := h3
    obtain ⟨rfl, rfl⟩ := h9
    subst h4 h6 h8
    rfl
  · rw [e _ hy2] at ha hb
    obtain ⟨_, _, h9⟩ := h8
    rw [aw_ans ha, aw_ans hb] at h9
    exact absurd rfl h9
  · rcases h7 with h7 | ⟨y2, hy2, e2, h7, _, h8⟩
    · exact absurd h7 (by decide)
    · rw [e _ hy2] at h7 h8
      obtain ⟨a, ha, _⟩ := List.mem_map.1 h7
      have ha2 := List.mem_filter.1 ha
      have h9 : laL (atL awL p.ttl) p.at_ = [] := by
        unfold laL
        rw [List.map_eq_nil_iff, List.filter_eq_nil_iff]
        intro b hb
        have h10 : a = awR0 := aw_ans ha2.1
        have h11 := ha2.2
        rw [h10] at h11
        rw [aw_ans hb, h11]; simp
      rw [h9] at h8
      exact absurd h8 (by show ¬ (1 : Int) ≤ 0; decide)
theorem aw_fnd {out : List Rp} {z : Int} (h : FndOk [] awL awU out z) : z = 0 ∧ out = [awP] := by
  obtain ⟨h1, h2⟩ := h.good awL_vld (by decide +kernel) (by decide +kernel) (by decide)
  refine ⟨h1, IsFnd.eq h2 ⟨List.pairwise_singleton _ _, fun p => ?_⟩⟩
  rw [List.mem_singleton]
  constructor
  · rintro rfl
    have ht : IsTm awL awP := ⟨awL, aw_st, awR1, by decide +kernel, rfl⟩
    exact ⟨ht, aw_pr, fun q h3 _ h4 => by rw [aw_only h4 h3]; exact Int.le_refl _⟩
  · exact fun h => aw_only h.2.1 h.1
theorem iff_t {P : Prop} {b : Bool} (h : b = true ↔ P) (hp : P) : b = true := h.2 hp
theorem iff_f {P : Prop} {b : Bool} (h : b = true ↔ P) (hp : ¬ P) : b = false := by
  cases b with
  | false => rfl
  | true => exact absurd (h.1 rfl) hp
theorem calls_t {f : FuncId} {vs : Array Value} {w : World} {P : Prop} (h : Calls Tryz.prog f vs w fun e w' => ∃ x : {b : Bool // b = true ↔ P}, e = .returned (.bool x.1) ∧ Below w.heap.size w w') (hp : P) : Calls Tryz.prog f vs w fun e w' => e = .returned (.bool true) ∧ Below w.heap.size w w' :=
  h.mono fun e w' ⟨x, h1, h2⟩ => ⟨by rw [h1, iff_t x.2 hp], h2⟩
theorem calls_f {f : FuncId} {vs : Array Value} {w : World} {P : Prop} (h : Calls Tryz.prog f vs w fun e w' => ∃ x : {b : Bool // b = true ↔ P}, e = .returned (.bool x.1) ∧ Below w.heap.size w w') (hp : ¬ P) : Calls Tryz.prog f vs w fun e w' => e = .returned (.bool false) ∧ Below w.heap.size w w' :=
  h.mono fun e w' ⟨x, h1, h2⟩ => ⟨by rw [h1, iff_f x.2 hp], h2⟩
theorem calls_b {f : FuncId} {vs : Array Value} {w : World} {b c : Bool} (h : Calls Tryz.prog f vs w fun e w' => e = .returned (.bool b) ∧ Below w.heap.size w w') (hb : b = c) : Calls Tryz.prog f vs w fun e w' => e = .returned (.bool c) ∧ Below w.heap.size w w' := hb ▸ h
set_option maxRecDepth 20000
def En.Ok (e : En) : Prop := 0 ≤ e.addr ∧ e.addr ≤ 4294967295
def sizeF (n : Int) : Int := IntKind.i64.wrap (1 * 2 ^ (32 - n).toNat)
def rvldP (a n : Int) : Bool := decide (0 ≤ n) && decide (n ≤ 32) && decide (a % sizeF n = 0)
def rvalidE (e : En) : Bool := rvldP e.addr e.len && decide (1 ≤ e.prov) && decide (e.prov ≤ 2147483647) && decide (0 ≤ e.frm) && decide (e.frm < e.to_) && decide (e.to_ ≤ 1125899906842624)
theorem sizeF_pos (n : Int) (h0 : 0 ≤ n := by omega) (h1 : n ≤ 32 := by omega) : 0 < sizeF n := by
 have key : ∀ k : Fin 33, 0 < IntKind.i64.wrap (1 * 2 ^ k.val) := by decide
 have hk : (32 - n).toNat < 33 := by omega
 exact key ⟨(32 - n).toNat, hk⟩
theorem size_any (n : Int) (h0 : 0 ≤ n) (h1 : n ≤ 32) (w : World) :
  Calls Tryz.prog 179 #[.int .i64 n] w fun e w' => e = .returned (.int .i64 (sizeF n)) ∧ w' = w := by
 refine begin_ (vs := [.int .i64 n]) (I := fun w1 => w1 = w) Tryz.func179 rfl rfl rfl ?_ rfl
 refine zSG (TL.as_ ?_)
 refine zET (zSG (TL.mv ?_))
 refine TL.val rfl rfl rfl (gives_bin rfl rfl rfl (fun w => bin_sub_ (r := 32 - n) (by simp only [IntKind.wrap_i64]; omega) w)) ?_
 refine TL.val rfl rfl rfl (gives_bin (v := .int .i64 (sizeF n)) rfl rfl rfl (fun w => bin_shl (2 ^ (32 - n).toNat) (by omega) (by simp only [IntKind.bits]; omega) rfl w)) ?_
 refine TL.as_ ?_
 refine zET (zr ?_)
 exact ret_tmp Tryz.results179 rfl (fun w1 hw => ⟨rfl, hw⟩)
theorem order_any (x y : Int) (w : World) :
  Calls Tryz.prog 155 #[.int .i64 x, .int .i64 y] w fun e w' => e = .returned (.int .i64 (cmpI x y)) ∧ w' = w := by
 refine begin_ (vs := [.int .i64 x, .int .i64 y]) (I := fun w1 => w1 = w) Tryz.func155 rfl rfl rfl ?_ rfl
 refine zSG (TL.as_ ?_)
 refine zET (zS (zSG (TL.rn 2 rfl ?_)))
 refine TL.sp bin_lss (fun q7 => ?_) (fun q7 => ?_)
 ·refine zET (zc (zSG (TL.as_ ?_)))
  refine zET (zr (zR ?_))
  have hE : (cmpI x y) = -1 := (by simp [cmpI, q7]; try omega)
  exact ret_tmp Tryz.results155 rfl (fun w1 hw => ⟨by rw [hE]; try rfl, hw⟩)
 refine zET (zd (zk (zT (zS (zSG (TL.rn 2 rfl ?_))))))
 refine TL.sp bin_gtr (fun q10 => ?_) (fun q10 => ?_)
 ·refine zET (zc (zSG (TL.as_ ?_)))
  refine zET (zr (zR ?_))
  have hE : (cmpI x y) = 1 := (by simp [cmpI, q7, q10]; try omega)
  exact ret_tmp Tryz.results155 rfl (fun w1 hw => ⟨by rw [hE]; try rfl, hw⟩)
 refine zET (zd (zk (zT (zSG (TL.as_ ?_)))))
 refine zET (zr ?_)
 have hE : (cmpI x y) = 0 := (by simp [cmpI, q7, q10]; try omega)
 exact ret_tmp Tryz.results155 rfl (fun w1 hw => ⟨by rw [hE]; try rfl, hw⟩)
theorem rvld_any (a n : Int) (har : 0 ≤ a ∧ a ≤ 4294967295) (w : World) :
  Calls Tryz.prog 154 #[.agg #[.int .u32 a, .int .i64 n]] w fun e w' => e = .returned (.bool (rvldP a n)) ∧ Below w.heap.size w w' := by
 refine begin_ (vs := [.agg #[.int .u32 a, .int .i64 n]]) Tryz.func154 rfl rfl rfl ?_ (Pm.start w)
 refine zSG ?_
 refine TL.pnew rfl rfl rfl (exec_box (cs := [.int .u32 a, .int .i64 n]) rfl rfl rfl) (fun g1 => ?_)
 refine TL.as_ ?_
 refine zET (zS (TC.quietQ (by kernel_rfl) (by kernel_rfl) (fun w hw => hw.drawn _) ?_))
 refine TQ.v (gF badfld100_1) ?_
 refine TQ.v (gL 0 pcmag3) ?_
 refine TQ.sp bin_geq (fun q5 => ?_) (fun q5 => ?_)
 ·refine TQ.val rfl rfl rfl (gives_move rfl rfl) ?_
  refine TQ.ov (gF badfld100_1) ?_
  refine TQ.ov (gL 0 pcmag3) ?_
  refine TQ.on rfl rfl rfl ?_
  refine TQ.sp bin_leq (fun q9 => ?_) (fun q9 => ?_)
  ·refine TQ.rn 2 rfl (TQ.ov (gF badfld100_0) ?_)
   refine TQ.ov (gL 0 pcmag30) ?_
   refine TQ.on rfl rfl rfl ?_
   refine TQ.val rfl rfl rfl (gives_conv rfl rfl (fun w => conv_fit (k := .u32) Tryz.underlying3 Tryz.underlying30 (by simp only [IntKind.wrap_i64]; omega) w)) ?_
   refine TQ.ov (gF badfld100_1) ?_
   refine TQ.ov (gL 0 pcmag3) ?_
   refine TQ.on rfl rfl rfl ?_
   refine TQ.call (v := .int .i64 (sizeF n)) rfl rfl rfl rfl rfl Tryz.func179 (by decide) rfl (fun w1 hw => (still_bel (size_any n (by omega) (by omega) w1)).mono fun en w2 ⟨h1, h2⟩ => ⟨h1, hw.below h2⟩) ?_
   refine TQ.on rfl rfl rfl ?_
   refine TQ.val rfl rfl rfl (gives_bin rfl rfl rfl (fun w => bin_remk (m := a) (n := sizeF n) (by omega) (by have := sizeF_pos n; omega) w)) ?_
   refine TQ.on rfl rfl rfl ?_
   refine TQ.sp bin_eql (fun q19 => ?_) (fun q19 => ?_)
   ·refine TQ.rn 2 rfl ?_
    refine TQ.fin ?_
    refine zT (zr ?_)
    have hE : (rvldP a n) = true := (by simp [rvldP, q5, q9, q19]; try omega)
    exact ret_tmp Tryz.results154 rfl (fun w1 hw => ⟨by rw [hE]; try rfl, hw.bel⟩)
   refine TQ.rn 2 rfl ?_
   refine TQ.fin ?_
   refine zT (zr ?_)
   have hE : (rvldP a n) = false := (by simp [rvldP, q5, q9, q19]; try omega)
   exact ret_tmp Tryz.results154 rfl (fun w1 hw => ⟨by rw [hE]; try rfl, hw.bel⟩)
  refine TQ.rn 12 rfl ?_
  refine TQ.fin ?_
  refine zT (zr ?_)
  have hE : (rvldP a n) = false := (by simp [rvldP, q5, q9]; try omega)
  exact ret_tmp Tryz.results154 rfl (fun w1 hw => ⟨by rw [hE]; try rfl, hw.bel⟩)
 refine TQ.rn 16 rfl ?_
 refine TQ.fin ?_
 refine zT (zr ?_)
 have hE : (rvldP a n) = false := (by simp [rvldP, q5]; try omega)
 exact ret_tmp Tryz.results154 rfl (fun w1 hw => ⟨by rw [hE]; try rfl, hw.bel⟩)
theorem rcmpP_any (a n b m : Int) (har : 0 ≤ a ∧ a ≤ 4294967295) (hbr : 0 ≤ b ∧ b ≤ 4294967295) (w : World) :
  Calls Tryz.prog 114 #[.agg #[.int .u32 a, .int .i64 n], .agg #[.int .u32 b, .int .i64 m]] w fun e w' => e = .returned (.int .i64 (cmpP a n b m)) ∧ Below w.heap.size w w' := by
 refine begin_ (vs := [.agg #[.int .u32 a, .int .i64 n], .agg #[.int .u32 b, .int .i64 m]]) Tryz.func114 rfl rfl rfl ?_ (Pm.start w)
 refine zSG ?_
 refine TL.pnew rfl rfl rfl (exec_box (cs := [.int .u32 a, .int .i64 n]) rfl rfl rfl) (fun g2 => ?_)
 refine TL.pnew rfl rfl rfl (exec_box (cs := [.int .u32 b, .int .i64 m]) rfl rfl rfl) (fun g3 => ?_)
 refine TL.as_ ?_
 refine zET (zS (zSG (TL.v (gF badfld100_0) ?_)))
 refine TL.v (gL 1 pcmag30) ?_
 refine TL.v (gF badfld100_0) ?_
 refine TL.v (gL 0 pcmag30) ?_
 refine TL.sp bin_neq (fun q9 => ?_) (fun q9 => ?_)
 ·refine zET (zc (zSG (TL.v (gF badfld100_0) ?_)))
  refine TL.v (gL 1 pcmag30) ?_
  refine TL.val rfl rfl rfl (gives_conv rfl rfl (fun w => conv_fit (k := .u32) Tryz.underlying3 Tryz.underlying30 (by simp only [IntKind.wrap_i64]; omega) w)) ?_
  refine TL.v (gF badfld100_0) ?_
  refine TL.v (gL 0 pcmag30) ?_
  refine TL.val rfl rfl rfl (gives_conv rfl rfl (fun w => conv_fit (k := .u32) Tryz.underlying3 Tryz.underlying30 (by simp only [IntKind.wrap_i64]; omega) w)) ?_
  refine TL.pcall1 (r := .int .i64 (cmpI a b)) rfl rfl rfl rfl rfl Tryz.func155 (by decide) rfl (fun w1 hw => still_bel (order_any a b w1)) ?_
  refine TL.as_ ?_
  refine zET (zr (zR ?_))
  have hE : (cmpP a n b m) = cmpI a b := (by simp [cmpP, cmpI_zero, q9]; try omega)
  exact ret_tmp Tryz.results114 rfl (fun w1 hw => ⟨by rw [hE]; try rfl, hw.bel⟩)
 refine zET (zd (zk (zT (zSG (TL.v (gF badfld100_1) ?_)))))
 refine TL.v (gL 1 pcmag3) ?_
 refine TL.v (gF badfld100_1) ?_
 refine TL.v (gL 0 pcmag3) ?_
 refine TL.pcall1 (r := .int .i64 (cmpI n m)) rfl rfl rfl rfl rfl Tryz.func155 (by decide) rfl (fun w1 hw => still_bel (order_any n m w1)) ?_
 refine TL.as_ ?_
 refine zET (zr ?_)
 have hE : (cmpP a n b m) = cmpI n m := (by simp [cmpP, cmpI_zero, q9]; try omega)
 exact ret_tmp Tryz.results114 rfl (fun w1 hw => ⟨by rw [hE]; try rfl, hw.bel⟩)
theorem rvalE_any (x : En) (hx : x.Ok) (w : World) :
  Calls Tryz.prog 113 #[.agg x.cells.toArray] w fun e w' => e = .returned (.bool (rvalidE x)) ∧ Below w.heap.size w w' := by
 refine begin_ (vs := [.agg x.cells.toArray]) Tryz.func113 rfl rfl rfl ?_ (Pm.start w)
 refine zSG ?_
 refine TL.pnew rfl rfl rfl (exec_box (cs := x.cells) rfl rfl rfl) (fun g1 => ?_)
 refine TL.as_ ?_
 refine zET (zSG (TL.v (gF brefld102_0) ?_))
 refine TL.v (gV 0 (.agg #[.int .u32 x.addr, .int .i64 x.len]) badag100 badsz100) ?_
 refine TL.callsplit rfl rfl rfl rfl rfl Tryz.func154 (by decide) rfl (fun w1 hw => rvld_any x.addr x.len hx w1) (fun h5 => ?_) (fun h5 => ?_)
 ·refine TL.mv ?_
  refine TL.ov (gF brefld102_1) ?_
  refine TL.ov (gL 0 pcmag3) ?_
  refine TL.gu ?_
  refine TL.sp bin_geq (fun q9 => ?_) (fun q9 => ?_)
  ·refine TL.rn 2 rfl (TL.ov (gF brefld102_1) ?_)
   refine TL.ov (gL 0 pcmag3) ?_
   refine TL.gu ?_
   refine TL.sp bin_leq (fun q14 => ?_) (fun q14 => ?_)
   ·refine TL.rn 2 rfl (TL.ov (gF brefld102_2) ?_)
    refine TL.ov (gL 0 pcmag3) ?_
    refine TL.gu ?_
    refine TL.sp bin_geq (fun q19 => ?_) (fun q19 => ?_)
    ·refine TL.rn 2 rfl (TL.ov (gF brefld102_2) ?_)
     refine TL.ov (gL 0 pcmag3) ?_
     refine TL.ov (gF brefld102_3) ?_
     refine TL.ov (gL 0 pcmag3) ?_
     refine TL.gu ?_
     refine TL.sp bin_lss (fun q26 => ?_) (fun q26 => ?_)
     ·refine TL.rn 2 rfl (TL.ov (gF brefld102_3) ?_)
      refine TL.ov (gL 0 pcmag3) ?_
      refine TL.gu ?_
      refine TL.sp bin_leq (fun q31 => ?_) (fun q31 => ?_)
      ·refine TL.rn 2 rfl (zET (zr ?_))
       have hE : (rvalidE x) = true := (by simp [rvalidE, h5, q9, q14, q19, q26, q31]; try omega)
       exact ret_tmp Tryz.results113 rfl (fun w1 hw => ⟨by rw [hE]; try rfl, hw.bel⟩)
      refine TL.rn 2 rfl (zET (zr ?_))
      have hE : (rvalidE x) = false := (by simp [rvalidE, h5, q9, q14, q19, q26, q31]; try omega)
      exact ret_tmp Tryz.results113 rfl (fun w1 hw => ⟨by rw [hE]; try rfl, hw.bel⟩)
     refine TL.rn 7 rfl (zET (zr ?_))
     have hE : (rvalidE x) = false := (by simp [rvalidE, h5, q9, q14, q19, q26]; try omega)
     exact ret_tmp Tryz.results113 rfl (fun w1 hw => ⟨by rw [hE]; try rfl, hw.bel⟩)
    refine TL.rn 14 rfl (zET (zr ?_))
    have hE : (rvalidE x) = false := (by simp [rvalidE, h5, q9, q14, q19]; try omega)
    exact ret_tmp Tryz.results113 rfl (fun w1 hw => ⟨by rw [hE]; try rfl, hw.bel⟩)
   refine TL.rn 19 rfl (zET (zr ?_))
   have hE : (rvalidE x) = false := (by simp [rvalidE, h5, q9, q14]; try omega)
   exact ret_tmp Tryz.results113 rfl (fun w1 hw => ⟨by rw [hE]; try rfl, hw.bel⟩)
  refine TL.rn 24 rfl (zET (zr ?_))
  have hE : (rvalidE x) = false := (by simp [rvalidE, h5, q9]; try omega)
  exact ret_tmp Tryz.results113 rfl (fun w1 hw => ⟨by rw [hE]; try rfl, hw.bel⟩)
 refine TL.rn 28 rfl (zET (zr ?_))
 have hE : (rvalidE x) = false := (by simp [rvalidE, h5]; try omega)
 exact ret_tmp Tryz.results113 rfl (fun w1 hw => ⟨by rw [hE]; try rfl, hw.bel⟩)
theorem nat_mask (k x : Nat) (hk : k ≤ 32) (hx : x < 4294967296) : x &&& (4294967296 - 2 ^ k) = 2 ^ k * (x / 2 ^ k) := by
  have hm : 4294967296 - 2 ^ k = 2 ^ k * (2 ^ (32 - k) - 1) := by
    rw [Nat.mul_sub, ← Nat.pow_add, Nat.mul_one, show k + (32 - k) = 32 by omega]
  rw [hm]
  apply Nat.eq_of_testBit_eq
  intro j
  rw [Nat.testBit_and, Nat.testBit_two_pow_mul, Nat.testBit_two_pow_sub_one, Nat.testBit_two_pow_mul, Nat.testBit_div_two_pow]
  by_cases h1 : k ≤ j
  · rw [show j - k + k = j by omega]
    by_cases h2 : j < 32
    · simp [h1, show j - k < 32 - k by omega]
    · have : x.testBit j = false := Nat.testBit_lt_two_pow (Nat.lt_of_lt_of_le hx (by rw [show 4294967296 = 2 ^ 32 by rfl]; exact Nat.pow_le_pow_right (by decide) (by omega)))
      simp [this]
  · simp [h1]
theorem pow_nat (k : Nat) : (2 : Int) ^ k = ((2 ^ k : Nat) : Int) := by simp
theorem pow_bounds (k : Nat) (hk : k ≤ 32) : 0 < 2 ^ k ∧ 2 ^ k ≤ 4294967296 := ⟨Nat.two_pow_pos k, by rw [show 4294967296 = 2 ^ 32 by rfl]; exact Nat.pow_le_pow_right (by decide) hk⟩
theorem sizeF_eq {n : Int} (h0 : 0 ≤ n) (h1 : n ≤ 32) : sizeF n = ((2 ^ (32 - n).toNat : Nat) : Int) := by
  have h2 := pow_bounds (32 - n).toNat (by omega)
  unfold sizeF
  rw [Int.one_mul, pow_nat, IntKind.wrap_i64]
  omega
theorem maskF_eq {n : Int} (h0 : 0 ≤ n) (h1 : n ≤ 32) : maskF n = ((4294967296 - 2 ^ (32 - n).toNat : Nat) : Int) := by
  have h2 := pow_bounds (32 - n).toNat (by omega)
  unfold maskF
  rw [pow_nat, IntKind.wrap_u32]
  omega
theorem vldP_eq {a n : Int} (ha : 0 ≤ a ∧ a ≤ 4294967295) : vldP a n = rvldP a n := by
  unfold vldP rvldP
  by_cases h : 0 ≤ n ∧ n ≤ 32
  · have h2 := pow_bounds (32 - n).toNat (by omega)
    obtain ⟨x, rfl⟩ := Int.eq_ofNat_of_zero_le ha.1
    rw [maskF_eq h.1 h.2, sizeF_eq h.1 h.2, u32_andNot_nat _ _ (by omega) (by omega)]
    rw [show 4294967295 - (4294967296 - 2 ^ (32 - n).toNat) = 2 ^ (32 - n).toNat - 1 by omega, Nat.and_two_pow_sub_one_eq_mod]
    congr 1
  · have : (decide (0 ≤ n) && decide (n ≤ 32)) = false := by
      by_cases h3 : 0 ≤ n
      · have : ¬ n ≤ 32 := fun h4 => h ⟨h3, h4⟩
        simp [this]
      · simp [h3]
    rw [this, Bool.false_and, Bool.false_and]
def rhasP (a n x : Int) : Bool := rvldP a n && decide (a ≤ x ∧ x ≤ a + sizeF n - 1)
theorem hasP_eq {a n x : Int} (ha : 0 ≤ a ∧ a ≤ 4294967295) (hx : 0 ≤ x ∧ x ≤ 4294967295) : hasP a n x = rhasP a n x := by
  unfold hasP rhasP
  rw [vldP_eq ha]
  cases hv : rvldP a n with
  | false => rfl
  | true =>
    unfold rvldP at hv
    simp only [Bool.and_eq_true, decide_eq_true_eq] at hv
    obtain ⟨⟨h0, h1⟩, h2⟩ := hv
    have h3 := pow_bounds (32 - n).toNat (by omega)
    obtain ⟨y, rfl⟩ := Int.eq_ofNat_of_zero_le ha.1
    obtain ⟨z, rfl⟩ := Int.eq_ofNat_of_zero_le hx.1
    rw [sizeF_eq h0 h1] at h2
    have h2' : y % 2 ^ (32 - n).toNat = 0 := by omega
    rw [Bool.true_and, Bool.true_and, decide_eq_decide, maskF_eq h0 h1, u32_and_nat _ _ (by omega) (by omega), nat_mask _ _ (by omega) (by omega), sizeF_eq h0 h1]
    have h32 : 2 ^ (32 - n).toNat * 2 ^ (32 - (32 - n).toNat) = 4294967296 := by rw [← Nat.pow_add, show (32 - n).toNat + (32 - (32 - n).toNat) = 32 by omega]
    generalize 2 ^ (32 - (32 - n).toNat) = t at h32
    generalize 2 ^ (32 - n).toNat = s at *
    obtain ⟨q, rfl⟩ : ∃ q, y = s * q := ⟨y / s, by have := Nat.div_add_mod y s; omega⟩
    have hq : s * q + s ≤ 4294967296 := by
      have h5 : q < t := Nat.lt_of_mul_lt_mul_left (a := s) (by omega)
      have h6 := Nat.mul_le_mul_left s (show q + 1 ≤ t from h5)
      rw [Nat.mul_add, Nat.mul_one] at h6
      omega
    have hz := Nat.div_add_mod z s
    have hr := Nat.mod_lt z h3.1
    constructor
    · intro h
      have h' : s * (z / s) = s * q := by omega
      omega
    · intro h
      have : z / s = q := Nat.div_eq_of_lt_le (by rw [Nat.mul_comm]; omega) (by rw [Nat.mul_comm, Nat.mul_add, Nat.mul_one]; omega)
      rw [this]
theorem bnd_fit {a n : Int} (ha : 0 ≤ a ∧ a ≤ 4294967295) (hv : rvldP a n = true) : 0 ≤ n ∧ n ≤ 32 ∧ 1 ≤ sizeF n ∧ sizeF n ≤ 4294967296 ∧ a + sizeF n - 1 ≤ 4294967295 := by
  unfold rvldP at hv
  simp only [Bool.and_eq_true, decide_eq_true_eq] at hv
  obtain ⟨⟨h0, h1⟩, h2⟩ := hv
  have h3 := pow_bounds (32 - n).toNat (by omega)
  obtain ⟨y, rfl⟩ := Int.eq_ofNat_of_zero_le ha.1
  rw [sizeF_eq h0 h1] at h2 ⊢
  have h2' : y % 2 ^ (32 - n).toNat = 0 := by omega
  refine ⟨h0, h1, by omega, by omega, ?_⟩
  have h32 : 2 ^ (32 - n).toNat * 2 ^ (32 - (32 - n).toNat) = 4294967296 := by rw [← Nat.pow_add, show (32 - n).toNat + (32 - (32 - n).toNat) = 32 by omega]
  generalize 2 ^ (32 - (32 - n).toNat) = t at h32
  generalize 2 ^ (32 - n).toNat = s at *
  obtain ⟨q, rfl⟩ : ∃ q, y = s * q := ⟨y / s, by have := Nat.div_add_mod y s; omega⟩
  have h5 : q < t := Nat.lt_of_mul_lt_mul_left (a := s) (by omega)
  have h6 := Nat.mul_le_mul_left s (show q + 1 ≤ t from h5)
  rw [Nat.mul_add, Nat.mul_one] at h6
  omega
theorem rvalidE_eq {e : En} (h : e.Ok) : rvalidE e = validE e := by unfold rvalidE validE; rw [vldP_eq h]
set_option maxRecDepth 20000
def bndL (a n : Int) : Int := if rvldP a n then a else 0
def bndH (a n : Int) : Int := if rvldP a n then a + sizeF n - 1 else 0
def bndE (a n : Int) : Int := if rvldP a n then 0 else 10
theorem bnd_t {a n : Int} (h : rvldP a n = true) : bndL a n = a ∧ bndH a n = a + sizeF n - 1 ∧ bndE a n = 0 := ⟨if_pos h, if_pos h, if_pos h⟩
theorem bnd_f {a n : Int} (h : rvldP a n = false) : bndL a n = 0 ∧ bndH a n = 0 ∧ bndE a n = 10 := ⟨if_neg (by rw [h]; decide), if_neg (by rw [h]; decide), if_neg (by rw [h]; decide)⟩
theorem has_bnd {a n x : Int} (har : 0 ≤ a ∧ a ≤ 4294967295) (hxr : 0 ≤ x ∧ x ≤ 4294967295) : hasP a n x = (decide (bndE a n = 0) && decide (bndL a n ≤ x) && decide (x ≤ bndH a n)) := by
 rw [hasP_eq har hxr]
 unfold rhasP
 cases h : rvldP a n with
 | false => obtain ⟨h1, h2, h3⟩ := bnd_f h; rw [h1, h2, h3]; rfl
 | true => obtain ⟨h1, h2, h3⟩ := bnd_t h; rw [h1, h2, h3]; simp
theorem brrzv228 (w : World) : (zeroValue 228).run Tryz.prog w = .ok (.agg #[.int .u32 0, .int .u32 0]) w := rfl
theorem brrbld228_29181 (a0_0 : Int) (a1_0 : Int) (w : World) : (Instr.build 228 #[(0, .int .u32 a0_0), (1, .int .u32 a1_0)]).run Tryz.prog w = .ok (.agg #[.int .u32 a0_0, .int .u32 a1_0]) w := by kernel_rfl
theorem brrsz228 (w : World) : (sizeOf 228).run Tryz.prog w = .ok 2 w := rfl
theorem brrone_u32u32 {a0 : Int} {a1 : Int} : ∀ u ∈ [(.int .u32 a0 : Value), .int .u32 a1], u.oneCell' = true := by
 intro u hu
 simp only [List.mem_cons, List.not_mem_nil, or_false] at hu
 rcases hu with rfl | rfl <;> rfl
theorem brrbld228_814  (w : World) : (Instr.build 228 #[]).run Tryz.prog w = .ok (.agg #[.int .u32 0, .int .u32 0]) w := by kernel_rfl
theorem brrfld228_0 : FA Tryz.prog 228 0 0 := fun g o w => by kernel_rfl
theorem brrfld228_1 : FA Tryz.prog 228 1 1 := fun g o w => by kernel_rfl
theorem rbnd_any (a n : Int) (har : 0 ≤ a ∧ a ≤ 4294967295) (w : World) :
  Calls Tryz.prog 217 #[.agg #[.int .u32 a, .int .i64 n]] w fun e w' => e = .returned (.tuple #[.agg #[.int .u32 (bndL a n), .int .u32 (bndH a n)], .int .i64 (bndE a n)]) ∧ Below w.heap.size w w' := by
 refine begin_ (vs := [.agg #[.int .u32 a, .int .i64 n]]) Tryz.func217 rfl rfl rfl ?_ (Pm.start w)
 refine zSG ?_
 refine TL.pnew rfl rfl rfl (exec_box (cs := [.int .u32 a, .int .i64 n]) rfl rfl rfl) (fun g1 => ?_)
 refine TL.pnew rfl rfl rfl (exec_alloc (cs := [.int .u32 0, .int .u32 0]) rfl brrzv228 rfl) (fun g2 => ?_)
 refine TL.as_ ?_
 refine zET (zS (zSG (TL.v (gV 1 (.agg #[.int .u32 a, .int .i64 n]) badag100 badsz100) ?_)))
 refine TL.callsplit rfl rfl rfl rfl rfl Tryz.func154 (by decide) rfl (fun w1 hw => rvld_any a n har w1) (fun h5 => ?_) (fun h5 => ?_)
 ·refine TL.val rfl rfl rfl (gives_boolnot rfl rfl) ?_
  refine zET (zd (zk (zT (zS ?_))))
  have hf := bnd_fit har h5
  refine TC.held (ls := #[Ff,Ff,Ff,Ff,Ff,Ff,Ff,Ff,Ff,Ff,Ff,Ff,Ff,Ff]) (Pm w [.blk g1 100 [.int .u32 a, .int .i64 n]]) (by kernel_rfl) rfl rfl (fun w hw => hw.drawn _) ?_
  refine TH.tk 0 rfl rfl rfl (gF badfld100_0) (fun w1 hw => hw.pick [1] (by decide) rfl) ?_
  refine TH.tk 1 rfl rfl rfl (gL 0 pcmag30) (fun w1 hw => hw.pick [1] (by decide) rfl) ?_
  refine TH.tk 2 rfl rfl rfl (gF badfld100_0) (fun w1 hw => hw.pick [1] (by decide) rfl) ?_
  refine TH.tk 3 rfl rfl rfl (gL 0 pcmag30) (fun w1 hw => hw.pick [1] (by decide) rfl) ?_
  refine TH.tk 4 rfl rfl rfl (gives_conv rfl rfl (fun w => conv_fit (k := .u32) Tryz.underlying3 Tryz.underlying30 (by simp only [IntKind.wrap_i64]; omega) w)) (fun w1 hw => hw.pick [1] (by decide) rfl) ?_
  refine TH.tk 5 rfl rfl rfl (gF badfld100_1) (fun w1 hw => hw.pick [1] (by decide) rfl) ?_
  refine TH.tk 6 rfl rfl rfl (gL 0 pcmag3) (fun w1 hw => hw.pick [1] (by decide) rfl) ?_
  refine TH.only' 7 rfl (by kernel_rfl) rfl ?_
  refine TL.pcall1 (r := .int .i64 (sizeF n)) rfl rfl rfl rfl rfl Tryz.func179 (by decide) rfl (fun w1 hw => still_bel (size_any n hf.1 hf.2.1 w1)) ?_
  refine zE ?_
  refine TX.he (fun w1 hw => hw.pick [1] (by decide) rfl) fun hS => ?_
  refine TH.t 8 rfl (gives_bin rfl rfl rfl (fun w => bin_add_ (r := a + sizeF n) (by have := hf.2.2; simp only [IntKind.wrap_i64]; omega) w)) hS ?_
  refine TH.t 9 rfl (gives_bin rfl rfl rfl (fun w => bin_sub_ (r := a + sizeF n - 1) (by have := hf.2.2; simp only [IntKind.wrap_i64]; omega) w)) hS ?_
  refine TH.t 10 rfl (gives_conv rfl rfl (fun w => conv_fit (k := .i64) Tryz.underlying30 Tryz.underlying3 (by have := hf.2.2; simp only [IntKind.wrap_u32]; omega) w)) hS ?_
  refine TH.t 11 rfl (gives_build (v := .agg #[.int .u32 a, .int .u32 (a + sizeF n - 1)]) rfl rfl (fun w => brrbld228_29181 _ _ w)) hS ?_
  refine TH.only' 12 rfl (by kernel_rfl) rfl ?_
  refine TL.pstore (k := 0) (vs := [.int .u32 a, .int .u32 (a + sizeF n - 1)]) rfl rfl rfl rfl rfl rfl rfl brrsz228 brrone_u32u32 (by show 2 ≤ 2; decide) (L' := [.blk g2 228 [.int .u32 a, .int .u32 (a + sizeF n - 1)], .blk g1 100 [.int .u32 a, .int .i64 n]]) rfl ?_
  refine zE ?_
  refine TX.he (fun w1 hw => hw.pick [1] (by decide) rfl) fun hS => ?_
  refine TH.t 13 rfl (gives_assign rfl rfl) hS ?_
  refine TH.done (by kernel_rfl) ?_
  refine zT (zr ?_)
  obtain ⟨hE1, hE2, hE3⟩ := bnd_t h5
  exact ret_cell2 (k := 0) (v := .int .i64 0) Tryz.results217 rfl rfl rfl Tryz.underlying228 rfl rfl (fun w1 hw => ⟨by rw [hE1, hE2, hE3], hw.bel⟩)
 refine TL.val rfl rfl rfl (gives_boolnot rfl rfl) ?_
 refine zET (zc (zSG ?_))
 refine TL.val rfl rfl rfl (gives_build (v := .agg #[.int .u32 0, .int .u32 0]) rfl rfl (fun w => brrbld228_814  w)) ?_
 refine TL.pstore (k := 0) (vs := [.int .u32 0, .int .u32 0]) rfl rfl rfl rfl rfl rfl rfl brrsz228 brrone_u32u32 (by show 2 ≤ 2; decide) (L' := [.blk g2 228 [.int .u32 0, .int .u32 0], .blk g1 100 [.int .u32 a, .int .i64 n]]) rfl ?_
 refine TL.as_ ?_
 refine zET (zr (zR ?_))
 obtain ⟨hE1, hE2, hE3⟩ := bnd_f h5
 exact ret_cell2 (k := 0) (v := .int .i64 10) Tryz.results217 rfl rfl rfl Tryz.underlying228 rfl rfl (fun w1 hw => ⟨by rw [hE1, hE2, hE3], hw.bel⟩)
theorem rhas_any (a n x : Int) (har : 0 ≤ a ∧ a ≤ 4294967295) (hxr : 0 ≤ x ∧ x ≤ 4294967295) (w : World) :
  Calls Tryz.prog 190 #[.agg #[.int .u32 a, .int .i64 n], .int .u32 x] w fun e w' => e = .returned (.bool (hasP a n x)) ∧ Below w.heap.size w w' := by
 refine begin_ (vs := [.agg #[.int .u32 a, .int .i64 n], .int .u32 x]) Tryz.func190 rfl rfl rfl ?_ (Pm.start w)
 refine zSG ?_
 refine TL.pnew rfl rfl rfl (exec_box (cs := [.int .u32 a, .int .i64 n]) rfl rfl rfl) (fun g2 => ?_)
 refine TL.as_ ?_
 refine zET (zSG (TL.v (gV 0 (.agg #[.int .u32 a, .int .i64 n]) badag100 badsz100) ?_))
 refine TL.pcall1 (r := .tuple #[.agg #[.int .u32 (bndL a n), .int .u32 (bndH a n)], .int .i64 (bndE a n)]) rfl rfl rfl rfl rfl Tryz.func217 (by decide) rfl (fun w1 hw => rbnd_any a n har w1) ?_
 refine TL.rn 3 rfl ?_
 refine TL.pnew rfl rfl rfl (exec_alloc (cs := [.int .u32 0, .int .u32 0]) rfl brrzv228 rfl) (fun g5 => ?_)
 refine TL.pstore (k := 0) (vs := [.int .u32 (bndL a n), .int .u32 (bndH a n)]) rfl rfl rfl rfl rfl rfl rfl brrsz228 brrone_u32u32 (by show 2 ≤ 2; decide) rfl ?_
 refine TL.as_ ?_
 refine zET (zSG (TL.mv ?_))
 refine TL.sp bin_eql (fun q13 => ?_) (fun q13 => ?_)
 ·refine TL.mv ?_
  refine TL.ov (gF brrfld228_0) ?_
  refine TL.ov (gL 0 pcmag30) ?_
  refine TL.rn 1 rfl (TL.gu ?_)
  refine TL.sp bin_leq (fun q18 => ?_) (fun q18 => ?_)
  ·refine TL.rn 3 rfl (TL.ov (gF brrfld228_1) ?_)
   refine TL.ov (gL 0 pcmag30) ?_
   refine TL.gu ?_
   refine TL.sp bin_leq (fun q24 => ?_) (fun q24 => ?_)
   ·refine TL.rn 2 rfl (zET (zr ?_))
    have hE : (hasP a n x) = true := (by simp [has_bnd har hxr, q13, q18, q24]; try omega)
    exact ret_tmp Tryz.results190 rfl (fun w1 hw => ⟨by rw [hE]; try rfl, hw.bel⟩)
   refine TL.rn 2 rfl (zET (zr ?_))
   have hE : (hasP a n x) = false := (by simp [has_bnd har hxr, q13, q18, q24]; try omega)
   exact ret_tmp Tryz.results190 rfl (fun w1 hw => ⟨by rw [hE]; try rfl, hw.bel⟩)
  refine TL.rn 8 rfl (zET (zr ?_))
  have hE : (hasP a n x) = false := (by simp [has_bnd har hxr, q13, q18]; try omega)
  exact ret_tmp Tryz.results190 rfl (fun w1 hw => ⟨by rw [hE]; try rfl, hw.bel⟩)
 refine TL.rn 13 rfl (zET (zr ?_))
 have hE : (hasP a n x) = false := (by simp [has_bnd har hxr, q13]; try omega)
 exact ret_tmp Tryz.results190 rfl (fun w1 hw => ⟨by rw [hE]; try rfl, hw.bel⟩)
theorem rvalX_any (A0 : Option Addr) (c0 : Nat) (es : List En) (w : World) (hr : Reads w w.heap.size 5 A0 es.length (flat En.cells es)) (hl1 : es.length ≤ 100000) (hok : ∀ z ∈ es, z.Ok) :
  Calls Tryz.prog 85 #[.agg #[.slice A0 es.length c0]] w fun e w' => e = .returned (.bool (validR es)) ∧ Below w.heap.size w w' := by
 refine begin_ (vs := [.agg #[.slice A0 es.length c0]]) Tryz.func85 rfl rfl rfl ?_ (Pm.start w)
 refine zSG ?_
 refine TL.pnew rfl rfl rfl (exec_box (cs := [.slice A0 es.length c0]) rfl rfl rfl) (fun g1 => ?_)
 refine TL.as_ ?_
 refine zET (zS (zSG (TL.v (gF brefld26_0) ?_)))
 refine TL.v (gL 0 breag24) ?_
 refine TL.v (gN Tryz.underlying24) ?_
 refine TL.sp bin_gtr (fun q10 => ?_) (fun q10 => ?_)
 ·refine zET (zc (zSG (TL.as_ ?_)))
  refine zET (zr (zR ?_))
  have hE : validR es = false := by simp only [validR, decide_eq_false (show ¬ es.length ≤ 1024 by omega), Bool.false_and]
  exact ret_tmp Tryz.results85 rfl (fun w1 hw => ⟨by rw [hE], hw.bel⟩)
 refine zET (zd (zk (zT (zS (zSG (TL.as_ ?_))))))
 refine zET (zB (TC.loop_ (α := {i : Nat // i ≤ es.length ∧ ∀ j, j < i → okAt es j = true}) (fun y => [(1, .pointer (some ⟨g1, 0, none⟩)), (3, .int .i64 ((y.1 : Nat) : Int))]) (fun y => Pm w [.blk g1 26 [.slice A0 es.length c0]]) (fun y => es.length - y.1) (⟨0, Nat.zero_le _, fun j hj => absurd hj (Nat.not_lt_zero _)⟩) ⟨rfl, rfl, trivial⟩ (fun w1 hw => hw) ?_))
 rintro ⟨i, hi, hok2⟩
 try dsimp only at hi hok2 ⊢
 refine zS (zSG (TL.mv ?_))
 refine TL.v (gF brefld26_0) ?_
 refine TL.v (gL 0 breag24) ?_
 refine TL.v (gN Tryz.underlying24) ?_
 refine TL.sp bin_lss (fun q15 => ?_) (fun q15 => ?_)
 ·refine zET (zc (zk (zT (zS (zB (zS (zSG (TL.v (gF brefld26_0) ?_))))))))
  refine TL.v (gL 0 breag24) ?_
  refine TL.mv ?_
  have hi21 : i < es.length := by omega
  obtain ⟨x21, hx21⟩ := ex_at hi21
  obtain ⟨b21, o21, hA21, hbb21, hc21⟩ := hr.ad (by omega) (by decide)
  refine TL.val rfl rfl rfl (gA (i := i) Tryz.underlying24 bresz102 rfl rfl rfl rfl hA21 (by omega)) ?_
  refine TL.v (gR en_cel breag102 bresz102 hbb21 hx21 hc21) ?_
  refine TL.callsplit rfl rfl rfl rfl rfl Tryz.func113 (by decide) rfl (fun w1 hw => rvalE_any x21 (hok x21 (List.mem_of_getElem? hx21)) w1) (fun h23 => ?_) (fun h23 => ?_)
  ·refine TL.val rfl rfl rfl (gives_boolnot rfl rfl) ?_
   refine zET (zd (zk (zT (zS (zS ?_)))))
   have hv21 : validE x21 = true := by rw [← rvalidE_eq (hok x21 (List.mem_of_getElem? hx21))]; exact h23
   refine zG (TL.mv ?_)
   refine TL.sp bin_eql (fun q26 => ?_) (fun q26 => ?_)
   ·refine zET (zc (zx (zX (zM (zT (zG (TL.mv ?_)))))))
    refine TL.v (gD ((i + 1 : Nat) : Int)) ?_
    refine TL.as_ ?_
    refine zE ?_
    exact TX.round (⟨i + 1, by omega, okN hok2 (okAt_zero (by omega) hx21 hv21)⟩) (by show es.length - (i + 1) < es.length - i; omega) ⟨rfl, rfl, trivial⟩ (fun w1 hw => hw)
   refine zET (zd (zk (zT ?_)))
   have hi0 : ¬ i = 0 := by omega
   have hi31 : i - 1 < es.length := by omega
   obtain ⟨x31, hx31⟩ := ex_at hi31
   have hi36 : i < es.length := by omega
   obtain ⟨x36, hx36⟩ := ex_at hi36
   have e36 : x21 = x36 := by rw [hx21] at hx36; exact Option.some.inj hx36
   rw [e36] at hv21
   obtain ⟨b31, o31, hA31, hbb31, hc31⟩ := hr.ad (by omega) (by decide)
   refine TC.join (α := Nat × Nat) (fun y => [(1, .pointer (some ⟨g1, 0, none⟩)), (3, .int .i64 ((i : Nat) : Int)), (4, .pointer (some ⟨y.1, 0, none⟩)), (5, .pointer (some ⟨y.2, 0, none⟩))]) (fun y => Pm w [.blk y.1 102 x31.cells, .blk y.2 102 x36.cells, .blk g1 26 [.slice A0 es.length c0]]) ?_ ?_
   ·refine TC.held (ls := #[Ff,Ff,Ff,Ff,Ff,Ff,Ff,Ff,Ff,Ff,Ff,Ff,Ff,Ff,Ff]) (Pm w [.blk g1 26 [.slice A0 es.length c0]]) (by kernel_rfl) rfl rfl (fun w hw => hw.drawn _) ?_
    refine TH.tk 0 rfl rfl rfl (gF brefld26_0) (fun w1 hw => hw) ?_
    refine TH.tk 1 rfl rfl rfl (gL 0 breag24) (fun w1 hw => hw) ?_
    refine TH.tk 2 rfl rfl rfl (gives_move rfl rfl) (fun w1 hw => hw) ?_
    refine TH.tk 3 rfl rfl rfl (gives_bin rfl rfl rfl (fun w => bin_sub_ (r := ((i - 1 : Nat) : Int)) (by simp only [IntKind.wrap_i64]; omega) w)) (fun w1 hw => hw) ?_
    refine TH.tk 4 rfl rfl rfl (gA (i := (i - 1)) Tryz.underlying24 bresz102 rfl rfl rfl rfl hA31 (by omega)) (fun w1 hw => hw) ?_
    refine TH.tk 5 rfl rfl rfl (gives_loadR (off := o31 + (i - 1) * 5) rfl rfl breag102 bresz102 (en_cel.len x31) (fun w1 hw j9 u9 h9 => (hw.bel.cell hbb31).trans <| flat_cell en_cel hx31 hc31 j9 u9 h9)) (fun w1 hw => hw) ?_
    refine TH.tk 6 rfl rfl rfl (gF brefld26_0) (fun w1 hw => hw) ?_
    refine TH.tk 7 rfl rfl rfl (gL 0 breag24) (fun w1 hw => hw) ?_
    refine TH.tk 8 rfl rfl rfl (gives_move rfl rfl) (fun w1 hw => hw) ?_
    refine TH.tk 9 rfl rfl rfl (gA (i := i) Tryz.underlying24 bresz102 rfl rfl rfl rfl hA31 (by omega)) (fun w1 hw => hw) ?_
    refine TH.tk 10 rfl rfl rfl (gR en_cel breag102 bresz102 hbb31 hx36 hc31) (fun w1 hw => hw) ?_
    refine TH.two' (listed1 := #[Tt,Tt,Tt,Tt,Tt,Tt,Tt,Tt,Tt,Tt,Tt,Tt,Ff,Ff,Ff]) (listed2 := #[Tt,Tt,Tt,Tt,Tt,Tt,Tt,Tt,Tt,Tt,Tt,Ff,Tt,Ff,Ff]) 11 12 rfl rfl (by kernel_rfl) rfl rfl ?_ ?_
    ·refine TL.pnew rfl rfl rfl (exec_alloc (cs := [.int .u32 0, .int .i64 0, .int .i64 0, .int .i64 0, .int .i64 0]) rfl brezv102 rfl) (fun g4 => ?_)
     refine zE ?_
     refine TX.held (fun w1 hw => hw.pick [1] (by decide) rfl) ?_
     refine TH.only' 12 rfl (by kernel_rfl) rfl ?_
     refine TL.pnew rfl rfl rfl (exec_alloc (cs := [.int .u32 0, .int .i64 0, .int .i64 0, .int .i64 0, .int .i64 0]) rfl brezv102 rfl) (fun g5 => ?_)
     refine zE ?_
     refine TX.held (fun w1 hw => hw.pick [2] (by decide) rfl) ?_
     refine TH.only' 13 rfl (by kernel_rfl) rfl ?_
     refine TL.pstore (k := 1) (vs := x31.cells) rfl rfl rfl rfl rfl rfl rfl bresz102 (en_cel.one _) (by show 5 ≤ 5; decide) (L' := [.blk g5 102 [.int .u32 0, .int .i64 0, .int .i64 0, .int .i64 0, .int .i64 0], .blk g4 102 x31.cells, .blk g1 26 [.slice A0 es.length c0]]) rfl ?_
     refine zE ?_
     refine TX.held (fun w1 hw => hw.pick [2] (by decide) rfl) ?_
     refine TH.only' 14 rfl (by kernel_rfl) rfl ?_
     refine TL.pstore (k := 0) (vs := x36.cells) rfl rfl rfl rfl rfl rfl rfl bresz102 (en_cel.one _) (by show 5 ≤ 5; decide) (L' := [.blk g5 102 x36.cells, .blk g4 102 x31.cells, .blk g1 26 [.slice A0 es.length c0]]) rfl ?_
     refine zE ?_
     refine TX.held (fun w1 hw => hw.pick [2] (by decide) rfl) ?_
     refine TH.done (by kernel_rfl) ?_
     exact TX.joined ((g4, g5)) (⟨rfl, rfl, rfl, rfl, trivial⟩) (fun w1 hw => hw.pick [1, 0, 2] (by decide) rfl)
    refine TL.pnew rfl rfl rfl (exec_alloc (cs := [.int .u32 0, .int .i64 0, .int .i64 0, .int .i64 0, .int .i64 0]) rfl brezv102 rfl) (fun g5 => ?_)
    refine zE ?_
    refine TX.held (fun w1 hw => hw.pick [1] (by decide) rfl) ?_
    refine TH.only' 11 rfl (by kernel_rfl) rfl ?_
    refine TL.pnew rfl rfl rfl (exec_alloc (cs := [.int .u32 0, .int .i64 0, .int .i64 0, .int .i64 0, .int .i64 0]) rfl brezv102 rfl) (fun g4 => ?_)
    refine zE ?_
    refine TX.held (fun w1 hw => hw.pick [2] (by decide) rfl) ?_
    refine TH.only' 13 rfl (by kernel_rfl) rfl ?_
    refine TL.pstore (k := 0) (vs := x31.cells) rfl rfl rfl rfl rfl rfl rfl bresz102 (en_cel.one _) (by show 5 ≤ 5; decide) (L' := [.blk g4 102 x31.cells, .blk g5 102 [.int .u32 0, .int .i64 0, .int .i64 0, .int .i64 0, .int .i64 0], .blk g1 26 [.slice A0 es.length c0]]) rfl ?_
    refine zE ?_
    refine TX.held (fun w1 hw => hw.pick [2] (by decide) rfl) ?_
    refine TH.only' 14 rfl (by kernel_rfl) rfl ?_
    refine TL.pstore (k := 1) (vs := x36.cells) rfl rfl rfl rfl rfl rfl rfl bresz102 (en_cel.one _) (by show 5 ≤ 5; decide) (L' := [.blk g4 102 x31.cells, .blk g5 102 x36.cells, .blk g1 26 [.slice A0 es.length c0]]) rfl ?_
    refine zE ?_
    refine TX.held (fun w1 hw => hw.pick [2] (by decide) rfl) ?_
    refine TH.done (by kernel_rfl) ?_
    exact TX.joined ((g4, g5)) (⟨rfl, rfl, rfl, rfl, trivial⟩) (fun w1 hw => hw)
   rintro ⟨ga, gb⟩
   try dsimp only
   refine zSG (TL.v (gF brefld102_0) ?_)
   refine TL.v (gV 0 (.agg #[.int .u32 x31.addr, .int .i64 x31.len]) badag100 badsz100) ?_
   refine TL.v (gF brefld102_0) ?_
   refine TL.v (gV 1 (.agg #[.int .u32 x36.addr, .int .i64 x36.len]) badag100 badsz100) ?_
   refine TL.pcall1 (r := .int .i64 (cmpP x31.addr x31.len x36.addr x36.len)) rfl rfl rfl rfl rfl Tryz.func114 (by decide) rfl (fun w1 hw => rcmpP_any x31.addr x31.len x36.addr x36.len (hok x31 (List.mem_of_getElem? hx31)) (hok x36 (List.mem_of_getElem? hx36)) w1) ?_
   refine TL.as_ ?_
   refine zET (zSG (TL.mv ?_))
   refine TL.sp bin_gtr (fun q44 => ?_) (fun q44 => ?_)
   ·refine TL.rn 4 rfl ?_
    refine TL.offU rfl rfl rfl rfl rfl ?_
    refine TL.offU rfl rfl rfl rfl rfl ?_
    refine TL.offU rfl rfl rfl rfl rfl ?_
    refine TL.offU rfl rfl rfl rfl rfl ?_
    refine TL.offU rfl rfl rfl rfl rfl ?_
    refine TL.rn 2 rfl (zET (zc (zSG (TL.as_ ?_))))
    refine zET (zr (zRR (zR (zRR ?_))))
    have hE : validR es = false := validR_false hi36 (okAt_pair (t := false) (by omega) hx36 hx31 hv21 (by simp [badP, q44]))
    exact ret_tmp Tryz.results85 rfl (fun w1 hw => ⟨by rw [hE], hw.bel⟩)
   refine TL.rn 2 rfl (TL.gu ?_)
   refine TL.sp bin_eql (fun q47 => ?_) (fun q47 => ?_)
   ·refine TL.rn 1 rfl (TL.ov (gF brefld102_2) ?_)
    refine TL.ov (gL 1 pcmag3) ?_
    refine TL.ov (gF brefld102_3) ?_
    refine TL.ov (gL 0 pcmag3) ?_
    refine TL.gu ?_
    refine TL.sp bin_lss (fun q53 => ?_) (fun q53 => ?_)
    ·refine TL.rn 2 rfl (zET (zc (zSG (TL.as_ ?_))))
     refine zET (zr (zRR (zR (zRR ?_))))
     have hE : validR es = false := validR_false hi36 (okAt_pair (t := false) (by omega) hx36 hx31 hv21 (by simp [badP, q44, q47, q53]))
     exact ret_tmp Tryz.results85 rfl (fun w1 hw => ⟨by rw [hE], hw.bel⟩)
    refine TL.rn 2 rfl (zET (zd (zk (zN (zT (zG (TL.mv ?_)))))))
    refine TL.v (gD ((i + 1 : Nat) : Int)) ?_
    refine TL.as_ ?_
    refine zE ?_
    exact TX.round (⟨i + 1, by omega, okN hok2 (okAt_pair (t := true) (by omega) hx36 hx31 hv21 (by simp [badP, q44, q47, q53]))⟩) (by show es.length - (i + 1) < es.length - i; omega) ⟨rfl, rfl, trivial⟩ (fun w1 hw => hw.pick [2] (by decide) rfl)
   refine TL.rn 8 rfl (zET (zd (zk (zN (zT (zG (TL.mv ?_)))))))
   refine TL.v (gD ((i + 1 : Nat) : Int)) ?_
   refine TL.as_ ?_
   refine zE ?_
   exact TX.round (⟨i + 1, by omega, okN hok2 (okAt_pair (t := true) (by omega) hx36 hx31 hv21 (by simp [badP, q44, q47]))⟩) (by show es.length - (i + 1) < es.length - i; omega) ⟨rfl, rfl, trivial⟩ (fun w1 hw => hw.pick [2] (by decide) rfl)
  refine TL.val rfl rfl rfl (gives_boolnot rfl rfl) ?_
  refine zET (zc (zSG (TL.as_ ?_)))
  refine zET (zr (zR (zRR (zR (zRR ?_)))))
  have hE : validR es = false := validR_false hi21 (okAt_bad hx21 (by rw [← rvalidE_eq (hok x21 (List.mem_of_getElem? hx21))]; exact h23))
  exact ret_tmp Tryz.results85 rfl (fun w1 hw => ⟨by rw [hE], hw.bel⟩)
 refine zET (zd (zx (zX (zX (zM (zT (zSG (TL.as_ ?_))))))))
 refine zET (zr ?_)
 have hE : validR es = true := validR_true (by omega) (fun j hj => hok2 j (by omega))
 exact ret_tmp Tryz.results85 rfl (fun w1 hw => ⟨by rw [hE], hw.bel⟩)
theorem rlookR_any (A0 : Option Addr) (c0 : Nat) (es : List En) (a t : Int) (har : 0 ≤ a ∧ a ≤ 4294967295) (w : World) (hr : Reads w w.heap.size 5 A0 es.length (flat En.cells es)) (hl1 : es.length ≤ 100000) (hok : ∀ z ∈ es, z.Ok) :
  Calls Tryz.prog 162 #[.agg #[.slice A0 es.length c0], .int .u32 a, .int .i64 t] w fun e w' => e = .returned (.tuple #[.agg (lookR es a t).1.cells.toArray, .bool (lookR es a t).2]) ∧ Below w.heap.size w w' := by
 refine begin_ (vs := [.agg #[.slice A0 es.length c0], .int .u32 a, .int .i64 t]) Tryz.func162 rfl rfl rfl ?_ (Pm.start w)
 refine zSG ?_
 refine TL.pnew rfl rfl rfl (exec_box (cs := [.slice A0 es.length c0]) rfl rfl rfl) (fun g3 => ?_)
 refine TL.pnew rfl rfl rfl (exec_alloc (cs := En.zero.cells) rfl brezv102 rfl) (fun g6 => ?_)
 refine TL.as_ ?_
 refine zET (zSG ?_)
 refine TL.val rfl rfl rfl (gives_build (v := .agg #[.int .u32 0, .int .i64 0, .int .i64 0, .int .i64 0, .int .i64 0]) rfl rfl (fun w => brebld102_791  w)) ?_
 refine TL.pnew rfl rfl rfl (exec_alloc (cs := En.zero.cells) rfl brezv102 rfl) (fun g8 => ?_)
 refine TL.pstore (k := 0) (vs := [.int .u32 0, .int .i64 0, .int .i64 0, .int .i64 0, .int .i64 0]) rfl rfl rfl rfl rfl rfl rfl bresz102 breone_u32i64i64i64i64 (by show 5 ≤ 5; decide) (L' := [.blk g8 102 [.int .u32 0, .int .i64 0, .int .i64 0, .int .i64 0, .int .i64 0], .blk g6 102 En.zero.cells, .blk g3 26 [.slice A0 es.length c0]]) rfl ?_
 refine TL.as_ ?_
 refine zET (zS (zSG (TL.as_ ?_)))
 refine zET (zB (TC.loop_ (α := {y : Nat × En × Bool // y.1 ≤ es.length ∧ lookR (es.take y.1) a t = y.2}) (fun y => [(1, .int .u32 a), (2, .int .i64 t), (3, .pointer (some ⟨g3, 0, none⟩)), (6, .pointer (some ⟨g6, 0, none⟩)), (8, .pointer (some ⟨g8, 0, none⟩)), (10, .int .i64 ((y.1.1 : Nat) : Int)), (9, .bool y.1.2.2)]) (fun y => Pm w [.blk g8 102 y.1.2.1.cells, .blk g6 102 En.zero.cells, .blk g3 26 [.slice A0 es.length c0]]) (fun y => es.length - y.1.1) (⟨(0, En.zero, false), Nat.zero_le _, rfl⟩) ⟨rfl, rfl, rfl, rfl, rfl, rfl, rfl, trivial⟩ (fun w1 hw => hw) ?_))
 rintro ⟨⟨i, bst, fnd⟩, hi, hst⟩
 dsimp only at hi hst ⊢
 refine zS (zSG (TL.mv ?_))
 refine TL.v (gF brefld26_0) ?_
 refine TL.v (gL 2 breag24) ?_
 refine TL.v (gN Tryz.underlying24) ?_
 refine TL.sp bin_lss (fun q17 => ?_) (fun q17 => ?_)
 ·refine zET (zc (zk (zT (zS (zB (zSG (TL.v (gF brefld26_0) ?_)))))))
  refine TL.v (gL 2 breag24) ?_
  refine TL.mv ?_
  have hi23 : i < es.length := by omega
  obtain ⟨x23, hx23⟩ := ex_at hi23
  obtain ⟨b23, o23, hA23, hbb23, hc23⟩ := hr.ad (by omega) (by decide)
  refine TL.val rfl rfl rfl (gA (i := i) Tryz.underlying24 bresz102 rfl rfl rfl rfl hA23 (by omega)) ?_
  refine TL.v (gR en_cel breag102 bresz102 hbb23 hx23 hc23) ?_
  refine TL.pnew rfl rfl rfl (exec_alloc (cs := En.zero.cells) rfl brezv102 rfl) (fun g11 => ?_)
  refine TL.pstore (k := 0) (vs := x23.cells) rfl rfl rfl rfl rfl rfl rfl bresz102 (en_cel.one _) (by show 5 ≤ 5; decide) (L' := [.blk g11 102 x23.cells, .blk g8 102 bst.cells, .blk g6 102 En.zero.cells, .blk g3 26 [.slice A0 es.length c0]]) rfl ?_
  refine zET (zS ?_)
  cases fnd with
  | true =>
   refine zG (TL.v (gF brefld102_0) ?_)
   refine TL.v (gV 0 (.agg #[.int .u32 x23.addr, .int .i64 x23.len]) badag100 badsz100) ?_
   refine TL.mv ?_
   refine TL.callsplit rfl rfl rfl rfl rfl Tryz.func190 (by decide) rfl (fun w1 hw => rhas_any x23.addr x23.len a (hok x23 (List.mem_of_getElem? hx23)) har w1) (fun h28 => ?_) (fun h28 => ?_)
   ·refine TL.mv ?_
    refine TL.ov (gF brefld102_2) ?_
    refine TL.ov (gL 0 pcmag3) ?_
    refine TL.rn 1 rfl (TL.gu ?_)
    refine TL.sp bin_leq (fun q33 => ?_) (fun q33 => ?_)
    ·refine TL.rn 3 rfl (TL.ov (gF brefld102_3) ?_)
     refine TL.ov (gL 0 pcmag3) ?_
     refine TL.gu ?_
     refine TL.sp bin_lss (fun q39 => ?_) (fun q39 => ?_)
     ·refine TL.rn 5 rfl (TL.ov (gF brefld102_0) ?_)
      refine TL.ov (gF badfld100_1) ?_
      refine TL.ov (gL 0 pcmag3) ?_
      refine TL.ov (gF brefld102_0) ?_
      refine TL.ov (gF badfld100_1) ?_
      refine TL.ov (gL 1 pcmag3) ?_
      refine TL.gu ?_
      refine TL.sp bin_gtr (fun q51 => ?_) (fun q51 => ?_)
      ·refine TL.rn 2 rfl (zET (zc (zG (TL.v (gV 0 (.agg (x23.cells).toArray) breag102 bresz102) ?_))))
       refine TL.pstore (k := 1) (vs := x23.cells) rfl rfl rfl rfl rfl rfl rfl bresz102 (en_cel.one _) (by show 5 ≤ 5; decide) (L' := [.blk g11 102 x23.cells, .blk g8 102 x23.cells, .blk g6 102 En.zero.cells, .blk g3 26 [.slice A0 es.length c0]]) rfl ?_
       refine TL.as_ ?_
       refine zE (zN (zT (zG (TL.mv ?_))))
       refine TL.v (gD ((i + 1 : Nat) : Int)) ?_
       refine TL.as_ ?_
       refine zE ?_
       exact TX.round (⟨(i + 1, x23, true), by dsimp only; omega, by rw [lookR_snoc hx23 hst, if_pos (by simp [fitsE, q17, h28, q33, q39, q51])]⟩) (by show es.length - (i + 1) < es.length - i; omega) ⟨rfl, rfl, rfl, rfl, rfl, rfl, rfl, trivial⟩ (fun w1 hw => hw.pick [1, 2, 3] (by decide) rfl)
      refine TL.rn 2 rfl (zET (zd (zk (zN (zT (zG (TL.mv ?_)))))))
      refine TL.v (gD ((i + 1 : Nat) : Int)) ?_
      refine TL.as_ ?_
      refine zE ?_
      exact TX.round (⟨(i + 1, bst, true), by dsimp only; omega, by rw [lookR_snoc hx23 hst, if_neg (by simp [fitsE, q17, h28, q33, q39, q51])]⟩) (by show es.length - (i + 1) < es.length - i; omega) ⟨rfl, rfl, rfl, rfl, rfl, rfl, rfl, trivial⟩ (fun w1 hw => hw.pick [1, 2, 3] (by decide) rfl)
     refine TL.rn 5 rfl ?_
     refine TL.offU rfl rfl rfl rfl rfl ?_
     refine TL.offU rfl rfl rfl rfl rfl ?_
     refine TL.offU rfl rfl rfl rfl rfl ?_
     refine TL.offU rfl rfl rfl rfl rfl ?_
     refine TL.offU rfl rfl rfl rfl rfl ?_
     refine TL.offU rfl rfl rfl rfl rfl ?_
     refine TL.offU rfl rfl rfl rfl rfl ?_
     refine TL.rn 2 rfl (zET (zd (zk (zN (zT (zG (TL.mv ?_)))))))
     refine TL.v (gD ((i + 1 : Nat) : Int)) ?_
     refine TL.as_ ?_
     refine zE ?_
     exact TX.round (⟨(i + 1, bst, true), by dsimp only; omega, by rw [lookR_snoc hx23 hst, if_neg (by simp [fitsE, q17, h28, q33, q39])]⟩) (by show es.length - (i + 1) < es.length - i; omega) ⟨rfl, rfl, rfl, rfl, rfl, rfl, rfl, trivial⟩ (fun w1 hw => hw.pick [1, 2, 3] (by decide) rfl)
    refine TL.rn 11 rfl ?_
    refine TL.offU rfl rfl rfl rfl rfl ?_
    refine TL.offU rfl rfl rfl rfl rfl ?_
    refine TL.offU rfl rfl rfl rfl rfl ?_
    refine TL.offU rfl rfl rfl rfl rfl ?_
    refine TL.offU rfl rfl rfl rfl rfl ?_
    refine TL.offU rfl rfl rfl rfl rfl ?_
    refine TL.offU rfl rfl rfl rfl rfl ?_
    refine TL.rn 2 rfl (zET (zd (zk (zN (zT (zG (TL.mv ?_)))))))
    refine TL.v (gD ((i + 1 : Nat) : Int)) ?_
    refine TL.as_ ?_
    refine zE ?_
    exact TX.round (⟨(i + 1, bst, true), by dsimp only; omega, by rw [lookR_snoc hx23 hst, if_neg (by simp [fitsE, q17, h28, q33])]⟩) (by show es.length - (i + 1) < es.length - i; omega) ⟨rfl, rfl, rfl, rfl, rfl, rfl, rfl, trivial⟩ (fun w1 hw => hw.pick [1, 2, 3] (by decide) rfl)
   refine TL.rn 16 rfl ?_
   refine TL.offU rfl rfl rfl rfl rfl ?_
   refine TL.offU rfl rfl rfl rfl rfl ?_
   refine TL.offU rfl rfl rfl rfl rfl ?_
   refine TL.offU rfl rfl rfl rfl rfl ?_
   refine TL.offU rfl rfl rfl rfl rfl ?_
   refine TL.offU rfl rfl rfl rfl rfl ?_
   refine TL.offU rfl rfl rfl rfl rfl ?_
   refine TL.rn 2 rfl (zET (zd (zk (zN (zT (zG (TL.mv ?_)))))))
   refine TL.v (gD ((i + 1 : Nat) : Int)) ?_
   refine TL.as_ ?_
   refine zE ?_
   exact TX.round (⟨(i + 1, bst, true), by dsimp only; omega, by rw [lookR_snoc hx23 hst, if_neg (by simp [fitsE, q17, h28])]⟩) (by show es.length - (i + 1) < es.length - i; omega) ⟨rfl, rfl, rfl, rfl, rfl, rfl, rfl, trivial⟩ (fun w1 hw => hw.pick [1, 2, 3] (by decide) rfl)
  | false =>
   refine zG (TL.v (gF brefld102_0) ?_)
   refine TL.v (gV 0 (.agg #[.int .u32 x23.addr, .int .i64 x23.len]) badag100 badsz100) ?_
   refine TL.mv ?_
   refine TL.callsplit rfl rfl rfl rfl rfl Tryz.func190 (by decide) rfl (fun w1 hw => rhas_any x23.addr x23.len a (hok x23 (List.mem_of_getElem? hx23)) har w1) (fun h28 => ?_) (fun h28 => ?_)
   ·refine TL.mv ?_
    refine TL.ov (gF brefld102_2) ?_
    refine TL.ov (gL 0 pcmag3) ?_
    refine TL.rn 1 rfl (TL.gu ?_)
    refine TL.sp bin_leq (fun q33 => ?_) (fun q33 => ?_)
    ·refine TL.rn 3 rfl (TL.ov (gF brefld102_3) ?_)
     refine TL.ov (gL 0 pcmag3) ?_
     refine TL.gu ?_
     refine TL.sp bin_lss (fun q39 => ?_) (fun q39 => ?_)
     ·refine TL.rn 14 rfl (zET (zc (zG (TL.v (gV 0 (.agg (x23.cells).toArray) breag102 bresz102) ?_))))
      refine TL.pstore (k := 1) (vs := x23.cells) rfl rfl rfl rfl rfl rfl rfl bresz102 (en_cel.one _) (by show 5 ≤ 5; decide) (L' := [.blk g11 102 x23.cells, .blk g8 102 x23.cells, .blk g6 102 En.zero.cells, .blk g3 26 [.slice A0 es.length c0]]) rfl ?_
      refine TL.as_ ?_
      refine zE (zN (zT (zG (TL.mv ?_))))
      refine TL.v (gD ((i + 1 : Nat) : Int)) ?_
      refine TL.as_ ?_
      refine zE ?_
      exact TX.round (⟨(i + 1, x23, true), by dsimp only; omega, by rw [lookR_snoc hx23 hst, if_pos (by simp [fitsE, q17, h28, q33, q39])]⟩) (by show es.length - (i + 1) < es.length - i; omega) ⟨rfl, rfl, rfl, rfl, rfl, rfl, rfl, trivial⟩ (fun w1 hw => hw.pick [1, 2, 3] (by decide) rfl)
     refine TL.rn 5 rfl ?_
     refine TL.offU rfl rfl rfl rfl rfl ?_
     refine TL.offU rfl rfl rfl rfl rfl ?_
     refine TL.offU rfl rfl rfl rfl rfl ?_
     refine TL.offU rfl rfl rfl rfl rfl ?_
     refine TL.offU rfl rfl rfl rfl rfl ?_
     refine TL.offU rfl rfl rfl rfl rfl ?_
     refine TL.offU rfl rfl rfl rfl rfl ?_
     refine TL.rn 2 rfl (zET (zd (zk (zN (zT (zG (TL.mv ?_)))))))
     refine TL.v (gD ((i + 1 : Nat) : Int)) ?_
     refine TL.as_ ?_
     refine zE ?_
     exact TX.round (⟨(i + 1, bst, false), by dsimp only; omega, by rw [lookR_snoc hx23 hst, if_neg (by simp [fitsE, q17, h28, q33, q39])]⟩) (by show es.length - (i + 1) < es.length - i; omega) ⟨rfl, rfl, rfl, rfl, rfl, rfl, rfl, trivial⟩ (fun w1 hw => hw.pick [1, 2, 3] (by decide) rfl)
    refine TL.rn 11 rfl ?_
    refine TL.offU rfl rfl rfl rfl rfl ?_
    refine TL.offU rfl rfl rfl rfl rfl ?_
    refine TL.offU rfl rfl rfl rfl rfl ?_
    refine TL.offU rfl rfl rfl rfl rfl ?_
    refine TL.offU rfl rfl rfl rfl rfl ?_
    refine TL.offU rfl rfl rfl rfl rfl ?_
    refine TL.offU rfl rfl rfl rfl rfl ?_
    refine TL.rn 2 rfl (zET (zd (zk (zN (zT (zG (TL.mv ?_)))))))
    refine TL.v (gD ((i + 1 : Nat) : Int)) ?_
    refine TL.as_ ?_
    refine zE ?_
    exact TX.round (⟨(i + 1, bst, false), by dsimp only; omega, by rw [lookR_snoc hx23 hst, if_neg (by simp [fitsE, q17, h28, q33])]⟩) (by show es.length - (i + 1) < es.length - i; omega) ⟨rfl, rfl, rfl, rfl, rfl, rfl, rfl, trivial⟩ (fun w1 hw => hw.pick [1, 2, 3] (by decide) rfl)
   refine TL.rn 16 rfl ?_
   refine TL.offU rfl rfl rfl rfl rfl ?_
   refine TL.offU rfl rfl rfl rfl rfl ?_
   refine TL.offU rfl rfl rfl rfl rfl ?_
   refine TL.offU rfl rfl rfl rfl rfl ?_
   refine TL.offU rfl rfl rfl rfl rfl ?_
   refine TL.offU rfl rfl rfl rfl rfl ?_
   refine TL.offU rfl rfl rfl rfl rfl ?_
   refine TL.rn 2 rfl (zET (zd (zk (zN (zT (zG (TL.mv ?_)))))))
   refine TL.v (gD ((i + 1 : Nat) : Int)) ?_
   refine TL.as_ ?_
   refine zE ?_
   exact TX.round (⟨(i + 1, bst, false), by dsimp only; omega, by rw [lookR_snoc hx23 hst, if_neg (by simp [fitsE, q17, h28])]⟩) (by show es.length - (i + 1) < es.length - i; omega) ⟨rfl, rfl, rfl, rfl, rfl, rfl, rfl, trivial⟩ (fun w1 hw => hw.pick [1, 2, 3] (by decide) rfl)
 refine zET (zd (zx (zX (zX (zM (zT (zSG (TL.v (gV 0 (.agg (bst.cells).toArray) breag102 bresz102) ?_))))))))
 refine TL.mv ?_
 refine TL.pstore (k := 1) (vs := bst.cells) rfl rfl rfl rfl rfl rfl rfl bresz102 (en_cel.one _) (by show 5 ≤ 5; decide) (L' := [.blk g8 102 bst.cells, .blk g6 102 bst.cells, .blk g3 26 [.slice A0 es.length c0]]) rfl ?_
 refine TL.as_ ?_
 refine zET (zr ?_)
 have hE : lookR es a t = (bst, fnd) := by rw [List.take_of_length_le (by omega)] at hst; exact hst
 exact ret_cell2 (k := 1) (v := .bool fnd) Tryz.results162 rfl rfl rfl Tryz.underlying102 rfl rfl (fun w1 hw => ⟨by rw [hE], hw.bel⟩)
theorem rlookV_any (A0 : Option Addr) (c0 : Nat) (es : List En) (a t : Int) (har : 0 ≤ a ∧ a ≤ 4294967295) (w : World) (hr : Reads w w.heap.size 5 A0 es.length (flat En.cells es)) (hl1 : es.length ≤ 100000) (hok : ∀ z ∈ es, z.Ok) :
  Calls Tryz.prog 128 #[.agg #[.slice A0 es.length c0], .int .u32 a, .int .i64 t] w fun e w' => e = .returned (.tuple #[.agg (lookV es a t).1.cells.toArray, .bool (lookV es a t).2]) ∧ Below w.heap.size w w' := by
 refine begin_ (vs := [.agg #[.slice A0 es.length c0], .int .u32 a, .int .i64 t]) Tryz.func128 rfl rfl rfl ?_ (Pm.start w)
 refine zSG ?_
 refine TL.pnew rfl rfl rfl (exec_box (cs := [.slice A0 es.length c0]) rfl rfl rfl) (fun g3 => ?_)
 refine TL.pnew rfl rfl rfl (exec_alloc (cs := [.int .u32 0, .int .i64 0, .int .i64 0, .int .i64 0, .int .i64 0]) rfl brezv102 rfl) (fun g6 => ?_)
 refine TL.as_ ?_
 refine zET (zS (zSG (TL.v (gV 1 (.agg #[.slice A0 es.length c0]) breag26 bresz26) ?_)))
 refine TL.callsplit rfl rfl rfl rfl rfl Tryz.func85 (by decide) rfl (fun w1 hw => rvalX_any A0 c0 es w1 (hr.up hw.bel) hl1 hok) (fun h9 => ?_) (fun h9 => ?_)
 ·refine TL.val rfl rfl rfl (gives_boolnot rfl rfl) ?_
  refine zET (zd (zk (zT (zSG (TL.v (gV 1 (.agg #[.slice A0 es.length c0]) breag26 bresz26) ?_)))))
  refine TL.rn 2 rfl ?_
  refine TL.pcall1 (r := .tuple #[.agg ((lookR es a t).1.cells).toArray, .bool ((lookR es a t).2)]) rfl rfl rfl rfl rfl Tryz.func162 (by decide) rfl (fun w1 hw => rlookR_any A0 c0 es a t har w1 (hr.up hw.bel) hl1 hok) ?_
  refine TL.rn 2 rfl ?_
  refine TL.pstore (k := 0) (vs := (lookR es a t).1.cells) rfl rfl rfl rfl rfl rfl rfl bresz102 (en_cel.one _) (by show 5 ≤ 5; decide) (L' := [.blk g6 102 (lookR es a t).1.cells, .blk g3 26 [.slice A0 es.length c0]]) rfl ?_
  refine TL.as_ ?_
  refine zET (zr ?_)
  have hE : lookV es a t = lookR es a t := if_pos h9
  exact ret_cell2 (k := 0) (v := .bool ((lookR es a t).2)) Tryz.results128 rfl rfl rfl Tryz.underlying102 rfl rfl (fun w1 hw => ⟨by rw [hE], hw.bel⟩)
 refine TL.val rfl rfl rfl (gives_boolnot rfl rfl) ?_
 refine zET (zc (zSG ?_))
 refine TL.val rfl rfl rfl (gives_build (v := .agg #[.int .u32 0, .int .i64 0, .int .i64 0, .int .i64 0, .int .i64 0]) rfl rfl (fun w => brebld102_791  w)) ?_
 refine TL.pstore (k := 0) (vs := [.int .u32 0, .int .i64 0, .int .i64 0, .int .i64 0, .int .i64 0]) rfl rfl rfl rfl rfl rfl rfl bresz102 breone_u32i64i64i64i64 (by show 5 ≤ 5; decide) (L' := [.blk g6 102 [.int .u32 0, .int .i64 0, .int .i64 0, .int .i64 0, .int .i64 0], .blk g3 26 [.slice A0 es.length c0]]) rfl ?_
 refine TL.as_ ?_
 refine zET (zr (zR ?_))
 have hE : lookV es a t = (En.zero, false) := if_neg (by rw [h9]; decide)
 exact ret_cell2 (k := 0) (v := .bool false) Tryz.results128 rfl rfl rfl Tryz.underlying102 rfl rfl (fun w1 hw => ⟨by rw [hE]; rfl, hw.bel⟩)
theorem rprov_any (A0 : Option Addr) (c0 : Nat) (es : List En) (a t : Int) (har : 0 ≤ a ∧ a ≤ 4294967295) (w : World) (hr : Reads w w.heap.size 5 A0 es.length (flat En.cells es)) (hl1 : es.length ≤ 100000) (hok : ∀ z ∈ es, z.Ok) :
  Calls Tryz.prog 83 #[.agg #[.slice A0 es.length c0], .int .u32 a, .int .i64 t] w fun e w' => e = .returned (.int .i64 (provR es a t)) ∧ Below w.heap.size w w' := by
 refine begin_ (vs := [.agg #[.slice A0 es.length c0], .int .u32 a, .int .i64 t]) Tryz.func83 rfl rfl rfl ?_ (Pm.start w)
 refine zSG ?_
 refine TL.pnew rfl rfl rfl (exec_box (cs := [.slice A0 es.length c0]) rfl rfl rfl) (fun g3 => ?_)
 refine TL.as_ ?_
 refine zET (zSG (TL.v (gV 0 (.agg #[.slice A0 es.length c0]) breag26 bresz26) ?_))
 refine TL.rn 2 rfl ?_
 refine TL.pcall1 (r := .tuple #[.agg ((lookV es a t).1.cells).toArray, .bool ((lookV es a t).2)]) rfl rfl rfl rfl rfl Tryz.func128 (by decide) rfl (fun w1 hw => rlookV_any A0 c0 es a t har w1 (hr.up hw.bel) hl1 hok) ?_
 refine TL.rn 3 rfl ?_
 refine TL.pnew rfl rfl rfl (exec_alloc (cs := [.int .u32 0, .int .i64 0, .int .i64 0, .int .i64 0, .int .i64 0]) rfl brezv102 rfl) (fun g7 => ?_)
 refine TL.pstore (k := 0) (vs := (lookV es a t).1.cells) rfl rfl rfl rfl rfl rfl rfl bresz102 (en_cel.one _) (by show 5 ≤ 5; decide) (L' := [.blk g7 102 (lookV es a t).1.cells, .blk g3 26 [.slice A0 es.length c0]]) rfl ?_
 refine TL.as_ ?_
 refine zET (zSG (TL.v (gF brefld102_1) ?_))
 refine TL.v (gL 0 pcmag3) ?_
 refine TL.as_ ?_
 refine zET (zr ?_)
 exact ret_tmp Tryz.results83 rfl (fun w1 hw => ⟨rfl, hw.bel⟩)
set_option maxRecDepth 20000
def LimOk (l : List Rs) (z : Int) : Prop := (z = 1 ∧ ∃ r ∈ l, vldRs r = false) ∨ (z = 5 ∧ (∀ r ∈ l, vldRs r = true) ∧ ∃ o, IsOrd l o ∧ 512 < o.length) ∨ (z = 0 ∧ (∀ r ∈ l, vldRs r = true) ∧ ∃ o, IsOrd l o ∧ o.length ≤ 512)
theorem LimOk.eq {l : List Rs} {z z' : Int} (h : LimOk l z) (h' : LimOk l z') : z = z' := by
 rcases h with ⟨rfl, r, hr, h1⟩ | ⟨rfl, h1, o, h2, h3⟩ | ⟨rfl, h1, o, h2, h3⟩ <;> rcases h' with ⟨rfl, r', hr', h1'⟩ | ⟨rfl, h1', o', h2', h3'⟩ | ⟨rfl, h1', o', h2', h3'⟩ <;> first | rfl | (rw [h1' r hr] at h1; cases h1) | (rw [h1 r' hr'] at h1'; cases h1') | (rw [h2.eq h2'] at h3; omega)
theorem mem_atL {y : List Rs} {t : Int} {z : Rs} : z ∈ atL y t ↔ z ∈ y ∧ z.ans = true ∧ z.ttl = t := by
 unfold atL
 rw [List.mem_filter]
 simp only [Bool.and_eq_true, decide_eq_true_eq]
theorem rdetour_any (A0 : Option Addr) (c0 : Nat) (l : List Rs) (A1 : Option Addr) (c1 : Nat) (es : List En) (p : Rp) (w : World) (hr : Reads w w.heap.size 17 A0 l.length (flat Rs.cells l)) (hl1 : l.length ≤ 100000) (hok : ∀ r ∈ l, r.Ok) (hr1 : Reads w w.heap.size 5 A1 es.length (flat En.cells es)) (hel1 : es.length ≤ 100000) (heo : ∀ z ∈ es, z.Ok) :
  Calls Tryz.prog 36 #[.slice A0 l.length c0, .agg #[.slice A1 es.length c1], .agg p.cells.toArray] w fun e w' => ∃ x : {b : Bool // b = true ↔ DtP es l p}, e = .returned (.bool x.1) ∧ Below w.heap.size w w' := by
 refine begin_ (vs := [.slice A0 l.length c0, .agg #[.slice A1 es.length c1], .agg p.cells.toArray]) Tryz.func36 rfl rfl rfl ?_ (Pm.start w)
 refine zSG ?_
 refine TL.pnew rfl rfl rfl (exec_box (cs := [.slice A1 es.length c1]) rfl rfl rfl) (fun g4 => ?_)
 refine TL.pnew rfl rfl rfl (exec_box (cs := p.cells) rfl rfl rfl) (fun g5 => ?_)
 refine TL.as_ ?_
 refine zET (zS (zSG (TL.v (gF arpfld34_0) ?_)))
 refine TL.v (gL 0 pcmag3) ?_
 refine TL.sp bin_neq (fun q13 => ?_) (fun q13 => ?_)
 ·refine zET (zc (zSG (TL.as_ ?_)))
  refine zET (zr (zR ?_))
  exact ret_tmp Tryz.results36 rfl (fun w1 hw => ⟨⟨false, fun h => (by cases h), fun h => absurd h.1 q13⟩, rfl, hw.bel⟩)
 refine zET (zd (zk (zT (zSG (TL.mv ?_)))))
 refine TL.v (gV 0 (.agg (p.cells).toArray) abrag34 abrsz34) ?_
 refine TL.pcallPm (α := {y : (Option Addr × Nat) × List Rs // IsSt l p.trc p.flow y.2 ∧ y.2.length ≤ y.1.2 ∧ y.1.2 ≤ maxLen}) (fun x => .slice x.1.1.1 x.1.2.length x.1.1.2) (fun x => [.row (.slice x.1.1.1 x.1.2.length x.1.1.2) 65 17 x.1.2.length (flat Rs.cells x.1.2)]) rfl rfl rfl rfl rfl Tryz.func74 (by decide) rfl (fun w1 hw => about_any A0 c0 l p w1 (hr.up hw.bel) hl1 hok) ?_
 rintro ⟨⟨⟨R16, rc16⟩, st16⟩, hP16, hR161, hR162⟩
 dsimp only [List.cons_append, List.nil_append]
 dsimp only at hP16 hR161 hR162 ⊢
 refine TL.as_ ?_
 refine zET (zS (zS ?_))
 have hol := hP16.le
 refine zG (TL.as_ ?_)
 refine zET (zB ?_)
 refine TC.loop_ (α := {i : Nat // i ≤ st16.length ∧ ∀ z ∈ st16.take i, ¬ ((z.ans = true ∧ z.ttl = p.ttl) ∧ dtA (fun r : Rs => provR es r.src r.back) p.prov p.at_ z ∧ ∃ b ∈ st16, (b.ans = true ∧ b.ttl = p.ttl) ∧ dtB (fun r : Rs => provR es r.src r.back) p.prov p.at_ z b)}) (fun y => [(4, .pointer (some ⟨g4, 0, none⟩)), (5, .pointer (some ⟨g5, 0, none⟩)), (6, .bool false), (7, .slice R16 st16.length rc16), (8, .int .i64 ((y.1 : Nat) : Int))]) (fun y => Pm w [.row (.slice R16 st16.length rc16) 65 17 st16.length (flat Rs.cells st16), .blk g5 34 p.cells, .blk g4 26 [.slice A1 es.length c1]]) (fun y => st16.length - y.1) (⟨0, Nat.zero_le _, fun z hz => by rw [List.take_zero] at hz; cases hz⟩) ⟨rfl, rfl, rfl, rfl, rfl, trivial⟩ (fun w1 hw => hw) ?_
 rintro ⟨i, hi, hma⟩
 try dsimp only at hi hma ⊢
 refine zS (zSG (TL.rn 2 rfl (TL.v (gN Tryz.underlying23) ?_)))
 refine TL.sp bin_lss (fun q20 => ?_) (fun q20 => ?_)
 ·refine zET (zc (zk (zT (zS (zB (zS (zS (TC.fact (p := ∃ g, R16 = some ⟨g, 0, none⟩) (fun w1 hw => rowA hw (k := 0) rfl (by omega)) ?_))))))))
  rintro ⟨g_R16, rfl⟩
  refine TC.quietQ (by kernel_rfl) (by kernel_rfl) (fun w hw => hw.drawn _) ?_
  refine TQ.rn 2 rfl ?_
  have hi25 : i < st16.length := by omega
  obtain ⟨x25, hx25⟩ := ex_at hi25
  refine TQ.val rfl rfl rfl (gA (i := i) Tryz.underlying23 prssz65 rfl rfl rfl rfl rfl (by omega)) ?_
  refine TQ.v (gF prsfld65_8) ?_
  refine TQ.vsplit rfl rfl rfl (gives_load (v := .bool x25.ans) rfl rfl prsag4 (fun w1 hw => flat_row rs_cel hw (q := 0) rfl hx25 8 _ rfl)) (fun h27 => ?_) (fun h27 => ?_)
  ·refine TQ.rn 4 rfl ?_
   refine TQ.on rfl rfl rfl ?_
   refine TQ.val rfl rfl rfl (gA (i := i) Tryz.underlying23 prssz65 rfl rfl rfl rfl rfl (by omega)) ?_
   refine TQ.ov (gF prsfld65_7) ?_
   refine TQ.on rfl rfl rfl ?_
   refine TQ.val rfl rfl rfl (gives_load (v := .int .i64 x25.ttl) rfl rfl pcmag3 (fun w1 hw => flat_row rs_cel hw (q := 0) rfl hx25 7 _ rfl)) ?_
   refine TQ.ov (gF arpfld34_3) ?_
   refine TQ.ov (gL 1 pcmag3) ?_
   refine TQ.on rfl rfl rfl ?_
   refine TQ.sp bin_neq (fun q37 => ?_) (fun q37 => ?_)
   ·refine TQ.rn 11 rfl ?_
    refine TQ.fin ?_
    refine zT (zc (zx (zX (zM (zT (zG (TL.mv ?_)))))))
    refine TL.v (gD ((i + 1 : Nat) : Int)) ?_
    refine TL.as_ ?_
    refine zE ?_
    exact TX.round (⟨i + 1, by omega, not_snoc hma hx25 (fun h => q37 h.1.2)⟩) (by show st16.length - (i + 1) < st16.length - i; omega) ⟨rfl, rfl, rfl, rfl, rfl, trivial⟩ (fun w1 hw => hw)
   refine TQ.rn 4 rfl ?_
   refine TQ.on rfl rfl rfl ?_
   refine TQ.val rfl rfl rfl (gA (i := i) Tryz.underlying23 prssz65 rfl rfl rfl rfl rfl (by omega)) ?_
   refine TQ.ov (gF prsfld65_10) ?_
   refine TQ.on rfl rfl rfl ?_
   refine TQ.val rfl rfl rfl (gives_load (v := .int .i64 x25.back) rfl rfl pcmag3 (fun w1 hw => flat_row rs_cel hw (q := 0) rfl hx25 10 _ rfl)) ?_
   refine TQ.ov (gF arpfld34_4) ?_
   refine TQ.ov (gL 1 pcmag3) ?_
   refine TQ.on rfl rfl rfl ?_
   refine TQ.sp bin_geq (fun q47 => ?_) (fun q47 => ?_)
   ·refine TQ.val rfl rfl rfl (gives_pick rfl rfl rfl) ?_
    refine TQ.fin ?_
    refine zT (zc (zx (zX (zM (zT (zG (TL.mv ?_)))))))
    refine TL.v (gD ((i + 1 : Nat) : Int)) ?_
    refine TL.as_ ?_
    refine zE ?_
    exact TX.round (⟨i + 1, by omega, not_snoc hma hx25 (fun h => by have := h.2.1.1; omega)⟩) (by show st16.length - (i + 1) < st16.length - i; omega) ⟨rfl, rfl, rfl, rfl, rfl, trivial⟩ (fun w1 hw => hw)
   refine TQ.val rfl rfl rfl (gives_pick rfl rfl rfl) ?_
   refine TQ.fin ?_
   refine zT (zd (zk (zT (zS (zS (TC.quietQ (by kernel_rfl) (by kernel_rfl) (fun w hw => hw.drawn _) ?_))))))
   refine TQ.v (gV 2 (.agg #[.slice A1 es.length c1]) breag26 bresz26) ?_
   refine TQ.rn 2 rfl ?_
   refine TQ.val rfl rfl rfl (gA (i := i) Tryz.underlying23 prssz65 rfl rfl rfl rfl rfl (by omega)) ?_
   refine TQ.v (gF prsfld65_11) ?_
   refine TQ.v (gF prsfld63_0) ?_
   refine TQ.val rfl rfl rfl (gives_load (v := .int .u32 x25.src) rfl rfl pcmag30 (fun w1 hw => flat_row rs_cel hw (q := 0) rfl hx25 11 _ rfl)) ?_
   refine TQ.rn 2 rfl ?_
   refine TQ.val rfl rfl rfl (gA (i := i) Tryz.underlying23 prssz65 rfl rfl rfl rfl rfl (by omega)) ?_
   refine TQ.v (gF prsfld65_10) ?_
   refine TQ.val rfl rfl rfl (gives_load (v := .int .i64 x25.back) rfl rfl pcmag3 (fun w1 hw => flat_row rs_cel hw (q := 0) rfl hx25 10 _ rfl)) ?_
   refine TQ.call (v := .int .i64 (provR es x25.src x25.back)) rfl rfl rfl rfl rfl Tryz.func83 (by decide) rfl (fun w1 hw => (rprov_any A1 c1 es x25.src x25.back (by have := hok x25 ((hP16.mem x25).1 (List.mem_of_getElem? hx25)).1; exact ⟨this.2.2.1, this.2.2.2⟩) w1 (hr1.up hw.bel) hel1 heo).mono fun en w2 ⟨h1, h2⟩ => ⟨h1, hw.below h2⟩) ?_
   refine TQ.val rfl rfl rfl (gives_assign rfl rfl) ?_
   refine TQ.fin ?_
   refine zT (zSG (TL.mv ?_))
   refine TL.sp bin_eql (fun q63 => ?_) (fun q63 => ?_)
   ·refine TL.rn 6 rfl (zET (zc (zx (zX (zM (zT (zG (TL.mv ?_))))))))
    refine TL.v (gD ((i + 1 : Nat) : Int)) ?_
    refine TL.as_ ?_
    refine zE ?_
    exact TX.round (⟨i + 1, by omega, not_snoc hma hx25 (fun h => h.2.1.2.1 q63)⟩) (by show st16.length - (i + 1) < st16.length - i; omega) ⟨rfl, rfl, rfl, rfl, rfl, trivial⟩ (fun w1 hw => hw)
   refine TL.rn 2 rfl (TL.ov (gF arpfld34_5) ?_)
   refine TL.ov (gL 1 pcmag3) ?_
   refine TL.gu ?_
   refine TL.sp bin_eql (fun q68 => ?_) (fun q68 => ?_)
   ·refine TL.pk ?_
    refine zET (zc (zx (zX (zM (zT (zG (TL.mv ?_)))))))
    refine TL.v (gD ((i + 1 : Nat) : Int)) ?_
    refine TL.as_ ?_
    refine zE ?_
    exact TX.round (⟨i + 1, by omega, not_snoc hma hx25 (fun h => h.2.1.2.2 q68)⟩) (by show st16.length - (i + 1) < st16.length - i; omega) ⟨rfl, rfl, rfl, rfl, rfl, trivial⟩ (fun w1 hw => hw)
   refine TL.pk ?_
   refine zET (zd (zk (zT (zSG (TL.as_ ?_)))))
   refine zET (zB ?_)
   refine TC.loop_ (α := {k : Nat // k ≤ st16.length ∧ ∀ z ∈ st16.take k, ¬ ((z.ans = true ∧ z.ttl = p.ttl) ∧ dtB (fun r : Rs => provR es r.src r.back) p.prov p.at_ x25 z)}) (fun y => [(4, .pointer (some ⟨g4, 0, none⟩)), (5, .pointer (some ⟨g5, 0, none⟩)), (6, .bool false), (7, .slice (some ⟨g_R16, 0, none⟩) st16.length rc16), (8, .int .i64 ((i : Nat) : Int)), (9, .int .i64 (provR es x25.src x25.back)), (27, .bool true), (37, .bool false), (47, .bool false), (63, .bool false), (68, .bool false), (10, .int .i64 ((y.1 : Nat) : Int))]) (fun y => Pm w [.row (.slice (some ⟨g_R16, 0, none⟩) st16.length rc16) 65 17 st16.length (flat Rs.cells st16), .blk g5 34 p.cells, .blk g4 26 [.slice A1 es.length c1]]) (fun y => st16.length - y.1) (⟨0, Nat.zero_le _, fun z hz => by rw [List.take_zero] at hz; cases hz⟩) ⟨rfl, rfl, rfl, rfl, rfl, rfl, rfl, rfl, rfl, rfl, rfl, rfl, trivial⟩ (fun w1 hw => hw) ?_
   rintro ⟨k, hk, hmb⟩
   try dsimp only at hk hmb ⊢
   refine zS (zSG (TL.rn 2 rfl (TL.v (gN Tryz.underlying23) ?_)))
   refine TL.sp bin_lss (fun q73 => ?_) (fun q73 => ?_)
   ·refine zET (zc (zk (zT (zS (zB (zS (TC.quietQ (by kernel_rfl) (by kernel_rfl) (fun w hw => hw.drawn _) ?_)))))))
    refine TQ.rn 2 rfl ?_
    have hi78 : k < st16.length := by omega
    obtain ⟨x78, hx78⟩ := ex_at hi78
    refine TQ.val rfl rfl rfl (gA (i := k) Tryz.underlying23 prssz65 rfl rfl rfl rfl rfl (by omega)) ?_
    refine TQ.v (gF prsfld65_8) ?_
    refine TQ.vsplit rfl rfl rfl (gives_load (v := .bool x78.ans) rfl rfl prsag4 (fun w1 hw => flat_row rs_cel hw (q := 0) rfl hx78 8 _ rfl)) (fun h80 => ?_) (fun h80 => ?_)
    ·refine TQ.rn 3 rfl ?_
     refine TQ.on rfl rfl rfl ?_
     refine TQ.val rfl rfl rfl (gA (i := k) Tryz.underlying23 prssz65 rfl rfl rfl rfl rfl (by omega)) ?_
     refine TQ.ov (gF prsfld65_7) ?_
     refine TQ.on rfl rfl rfl ?_
     refine TQ.val rfl rfl rfl (gives_load (v := .int .i64 x78.ttl) rfl rfl pcmag3 (fun w1 hw => flat_row rs_cel hw (q := 0) rfl hx78 7 _ rfl)) ?_
     refine TQ.ov (gF arpfld34_3) ?_
     refine TQ.ov (gL 1 pcmag3) ?_
     refine TQ.on rfl rfl rfl ?_
     refine TQ.sp bin_eql (fun q89 => ?_) (fun q89 => ?_)
     ·refine TQ.rn 4 rfl ?_
      refine TQ.on rfl rfl rfl ?_
      refine TQ.val rfl rfl rfl (gA (i := k) Tryz.underlying23 prssz65 rfl rfl rfl rfl rfl (by omega)) ?_
      refine TQ.ov (gF prsfld65_3) ?_
      refine TQ.on rfl rfl rfl ?_
      refine TQ.val rfl rfl rfl (gives_load (v := .int .i64 x78.at_) rfl rfl pcmag3 (fun w1 hw => flat_row rs_cel hw (q := 0) rfl hx78 3 _ rfl)) ?_
      refine TQ.ov (gF arpfld34_4) ?_
      refine TQ.ov (gL 1 pcmag3) ?_
      refine TQ.on rfl rfl rfl ?_
      refine TQ.sp bin_geq (fun q99 => ?_) (fun q99 => ?_)
      ·refine TQ.rn 4 rfl ?_
       refine TQ.on rfl rfl rfl ?_
       refine TQ.val rfl rfl rfl (gA (i := k) Tryz.underlying23 prssz65 rfl rfl rfl rfl rfl (by omega)) ?_
       refine TQ.ov (gF prsfld65_11) ?_
       refine TQ.ov (gF prsfld63_0) ?_
       refine TQ.on rfl rfl rfl ?_
       refine TQ.val rfl rfl rfl (gives_load (v := .int .u32 x78.src) rfl rfl pcmag30 (fun w1 hw => flat_row rs_cel hw (q := 0) rfl hx78 11 _ rfl)) ?_
       refine TQ.rn 2 rfl ?_
       refine TQ.on rfl rfl rfl ?_
       refine TQ.val rfl rfl rfl (gA (i := i) Tryz.underlying23 prssz65 rfl rfl rfl rfl rfl (by omega)) ?_
       refine TQ.ov (gF prsfld65_11) ?_
       refine TQ.ov (gF prsfld63_0) ?_
       refine TQ.on rfl rfl rfl ?_
       refine TQ.val rfl rfl rfl (gives_load (v := .int .u32 x25.src) rfl rfl pcmag30 (fun w1 hw => flat_row rs_cel hw (q := 0) rfl hx25 11 _ rfl)) ?_
       refine TQ.on rfl rfl rfl ?_
       refine TQ.sp bin_neq (fun q114 => ?_) (fun q114 => ?_)
       ·refine TQ.rn 2 rfl (TQ.ov (gV 2 (.agg #[.slice A1 es.length c1]) breag26 bresz26) ?_)
        refine TQ.rn 2 rfl ?_
        refine TQ.on rfl rfl rfl ?_
        refine TQ.val rfl rfl rfl (gA (i := k) Tryz.underlying23 prssz65 rfl rfl rfl rfl rfl (by omega)) ?_
        refine TQ.ov (gF prsfld65_11) ?_
        refine TQ.ov (gF prsfld63_0) ?_
        refine TQ.on rfl rfl rfl ?_
        refine TQ.val rfl rfl rfl (gives_load (v := .int .u32 x78.src) rfl rfl pcmag30 (fun w1 hw => flat_row rs_cel hw (q := 0) rfl hx78 11 _ rfl)) ?_
        refine TQ.rn 2 rfl ?_
        refine TQ.on rfl rfl rfl ?_
        refine TQ.val rfl rfl rfl (gA (i := k) Tryz.underlying23 prssz65 rfl rfl rfl rfl rfl (by omega)) ?_
        refine TQ.ov (gF prsfld65_10) ?_
        refine TQ.on rfl rfl rfl ?_
        refine TQ.val rfl rfl rfl (gives_load (v := .int .i64 x78.back) rfl rfl pcmag3 (fun w1 hw => flat_row rs_cel hw (q := 0) rfl hx78 10 _ rfl)) ?_
        refine TQ.on rfl rfl rfl ?_
        refine TQ.call (v := .int .i64 (provR es x78.src x78.back)) rfl rfl rfl rfl rfl Tryz.func83 (by decide) rfl (fun w1 hw => (rprov_any A1 c1 es x78.src x78.back (by have := hok x78 ((hP16.mem x78).1 (List.mem_of_getElem? hx78)).1; exact ⟨this.2.2.1, this.2.2.2⟩) w1 (hr1.up hw.bel) hel1 heo).mono fun en w2 ⟨h1, h2⟩ => ⟨h1, hw.below h2⟩) ?_
        refine TQ.ov (gF arpfld34_5) ?_
        refine TQ.ov (gL 1 pcmag3) ?_
        refine TQ.on rfl rfl rfl ?_
        refine TQ.sp bin_eql (fun q132 => ?_) (fun q132 => ?_)
        ·refine TQ.val rfl rfl rfl (gives_pick rfl rfl rfl) ?_
         refine TQ.fin ?_
         refine zT (zc (zSG (TL.as_ ?_)))
         refine zET (zr (zRR (zR (TX.in_ret (zRR (zR (zRR ?_)))))))
         have hit : DtP es l p := ⟨Decidable.not_not.1 q13, st16, hP16, x25, mem_atL.2 ⟨List.mem_of_getElem? hx25, h27, by omega⟩, ⟨by omega, q63, q68⟩, x78, mem_atL.2 ⟨List.mem_of_getElem? hx78, h80, q89⟩, by omega, q132, q114⟩
         exact ret_tmp Tryz.results36 rfl (fun w1 hw => ⟨⟨true, fun _ => hit, fun _ => rfl⟩, rfl, hw.bel⟩)
        refine TQ.val rfl rfl rfl (gives_pick rfl rfl rfl) ?_
        refine TQ.fin ?_
        refine zT (zd (zk (zN (zT (zG (TL.mv ?_))))))
        refine TL.v (gD ((k + 1 : Nat) : Int)) ?_
        refine TL.as_ ?_
        refine zE ?_
        exact TX.round (⟨k + 1, by omega, not_snoc hmb hx78 (fun h => q132 h.2.2.1)⟩) (by show st16.length - (k + 1) < st16.length - k; omega) ⟨rfl, rfl, rfl, rfl, rfl, rfl, rfl, rfl, rfl, rfl, rfl, rfl, trivial⟩ (fun w1 hw => hw)
       refine TQ.rn 19 rfl ?_
       refine TQ.fin ?_
       refine zT (zd (zk (zN (zT (zG (TL.mv ?_))))))
       refine TL.v (gD ((k + 1 : Nat) : Int)) ?_
       refine TL.as_ ?_
       refine zE ?_
       exact TX.round (⟨k + 1, by omega, not_snoc hmb hx78 (fun h => q114 h.2.2.2)⟩) (by show st16.length - (k + 1) < st16.length - k; omega) ⟨rfl, rfl, rfl, rfl, rfl, rfl, rfl, rfl, rfl, rfl, rfl, rfl, trivial⟩ (fun w1 hw => hw)
      refine TQ.rn 34 rfl ?_
      refine TQ.fin ?_
      refine zT (zd (zk (zN (zT (zG (TL.mv ?_))))))
      refine TL.v (gD ((k + 1 : Nat) : Int)) ?_
      refine TL.as_ ?_
      refine zE ?_
      exact TX.round (⟨k + 1, by omega, not_snoc hmb hx78 (fun h => by have := h.2.1; omega)⟩) (by show st16.length - (k + 1) < st16.length - k; omega) ⟨rfl, rfl, rfl, rfl, rfl, rfl, rfl, rfl, rfl, rfl, rfl, rfl, trivial⟩ (fun w1 hw => hw)
     refine TQ.rn 44 rfl ?_
     refine TQ.fin ?_
     refine zT (zd (zk (zN (zT (zG (TL.mv ?_))))))
     refine TL.v (gD ((k + 1 : Nat) : Int)) ?_
     refine TL.as_ ?_
     refine zE ?_
     exact TX.round (⟨k + 1, by omega, not_snoc hmb hx78 (fun h => q89 h.1.2)⟩) (by show st16.length - (k + 1) < st16.length - k; omega) ⟨rfl, rfl, rfl, rfl, rfl, rfl, rfl, rfl, rfl, rfl, rfl, rfl, trivial⟩ (fun w1 hw => hw)
    refine TQ.rn 53 rfl ?_
    refine TQ.fin ?_
    refine zT (zd (zk (zN (zT (zG (TL.mv ?_))))))
    refine TL.v (gD ((k + 1 : Nat) : Int)) ?_
    refine TL.as_ ?_
    refine zE ?_
    exact TX.round (⟨k + 1, by omega, not_snoc hmb hx78 (fun h => by rw [h.1.1] at h80; cases h80)⟩) (by show st16.length - (k + 1) < st16.length - k; omega) ⟨rfl, rfl, rfl, rfl, rfl, rfl, rfl, rfl, rfl, rfl, rfl, rfl, trivial⟩ (fun w1 hw => hw)
   refine zET (zd (zx (zX (zX (zM (zN (zT (zG (TL.mv ?_)))))))))
   refine TL.v (gD ((i + 1 : Nat) : Int)) ?_
   refine TL.as_ ?_
   refine zE ?_
   exact TX.round (⟨i + 1, by omega, not_snoc hma hx25 (fun h => by obtain ⟨_, _, b, hb, h2⟩ := h; rw [List.take_of_length_le (by omega)] at hmb; exact hmb b hb h2)⟩) (by show st16.length - (i + 1) < st16.length - i; omega) ⟨rfl, rfl, rfl, rfl, rfl, trivial⟩ (fun w1 hw => hw)
  refine TQ.rn 21 rfl ?_
  refine TQ.fin ?_
  refine zT (zc (zx (zX (zM (zT (zG (TL.mv ?_)))))))
  refine TL.v (gD ((i + 1 : Nat) : Int)) ?_
  refine TL.as_ ?_
  refine zE ?_
  exact TX.round (⟨i + 1, by omega, not_snoc hma hx25 (fun h => by rw [h.1.1] at h27; cases h27)⟩) (by show st16.length - (i + 1) < st16.length - i; omega) ⟨rfl, rfl, rfl, rfl, rfl, trivial⟩ (fun w1 hw => hw)
 refine zET (zd (zx (zX (zX (zM (zT (zSG (TL.as_ ?_))))))))
 refine zET (zr ?_)
 have hno : ¬ DtP es l p := by
  rintro ⟨_, y0, h1, a, ha, h2, b, hb, h3⟩
  rw [← hP16.eq h1] at ha hb
  rw [List.take_of_length_le (by omega)] at hma
  obtain ⟨h4, h5⟩ := mem_atL.1 ha
  obtain ⟨h6, h7⟩ := mem_atL.1 hb
  exact hma a h4 ⟨h5, h2, b, h6, h7, h3⟩
 exact ret_tmp Tryz.results36 rfl (fun w1 hw => ⟨⟨false, fun h => (by cases h), fun h => absurd h hno⟩, rfl, hw.bel⟩)
structure MKey (P : Program) (k : TypeId) {κ : Type} (enc : κ → Value) (Ok : κ → Prop) : Prop where
  keyed : Maps.Keyed P k
  lit : ∀ a, Ok a → ∃ l, keyOf P k (enc a) = some l
  inj : ∀ a b, enc a = enc b → a = b
def MapG {κ : Type} (enc : κ → Value) (Ok : κ → Prop) (o : Obj) (f : κ → Option Value) : Prop :=
  ∃ (es : Array MapEntry) (clock : Nat), o = .map es clock ∧ (∀ e ∈ es.toList, ∃ a, Ok a ∧ e.key = enc a) ∧ (es.toList.map (·.key)).Nodup ∧ ∀ a v, f a = some v ↔ ∃ e ∈ es.toList, e.key = enc a ∧ e.val = v
section
variable {P : Program} {t k e : TypeId} {κ : Type} {enc : κ → Value} {Ok : κ → Prop} {o : Obj} {g : Nat} {f : κ → Option Value} {w : World}
theorem mapG_new (enc : κ → Value) (Ok : κ → Prop) : MapG enc Ok (.map #[] 0) (fun _ => none) :=
  ⟨#[], 0, rfl, fun e h => absurd h List.not_mem_nil, List.nodup_nil, fun a v => ⟨fun h => by (cases h), fun ⟨e, h, _⟩ => absurd h List.not_mem_nil⟩⟩
theorem MapG.find {es : Array MapEntry} {clock : Nat} (h : MapG enc Ok (.map es clock) f) (K : MKey P k enc Ok) {a : κ} (ha : Ok a) (w : World) :
    ((Instr.findKey k (enc a) es.toList).run P w = .ok none w ∧ f a = none) ∨ ∃ j e, (Instr.findKey k (enc a) es.toList).run P w = .ok (some (j, e.val)) w ∧ es[j]? = some e ∧ e.key = enc a ∧ f a = some e.val := by
  obtain ⟨es', clock', he, hk, hnd, hf⟩ := h
  cases he
  obtain ⟨l, hl⟩ := K.lit a ha
  rcases K.keyed.find w hl es.toList (fun e he => by obtain ⟨b, hb, e1⟩ := hk e he; rw [e1]; exact K.lit b hb) with ⟨h1, h2⟩ | ⟨j, e, h1, h2, h3⟩
  · refine .inl ⟨h1, ?_⟩
    cases hfa : f a with
    | none => rfl
    | some v =>
      obtain ⟨e, he, e1, _⟩ := (hf a v).1 hfa
      exact absurd e1 (h2 e he)
  · refine .inr ⟨j, e, h1, by simpa using h2, h3, (hf a e.val).2 ⟨e, List.mem_of_getElem? h2, h3, rfl⟩⟩
theorem MapG.look (h : MapG enc Ok o f) (K : MKey P k enc Ok) (ht : P.underlying t = some (.map k e)) {z : Value} (hz : ∀ w : World, (zeroValue e).run P w = .ok z w) (hb : w.heap[g]? = some o) {a : κ} (ha : Ok a) (co : Bool) :
    (Instr.lookup t (.map (some g)) (enc a) co).run P w = .ok (if co then .tuple #[(f a).getD z, .bool (f a).isSome] else (f a).getD z) w := by
  obtain ⟨es, clock, he, _⟩ := id h
  subst he
  obtain ⟨l, hl⟩ := K.lit a ha
  have hck := K.keyed.check w es.isEmpty hl
  have hgo : (getObj g).run P w = .ok (.map es clock) w := by simp [getObj, Sem.run, hb]
  unfold Instr.lookup
  rcases h.find K ha w with ⟨h1, h2⟩ | ⟨j, e', h1, h2, h3, h4⟩
  · simp [run_underlying ht, hgo, hck, h1, hz, h2]
  · simp [run_underlying ht, hgo, hck, h1, h4]
theorem MapG.put (h : MapG enc Ok o f) (K : MKey P k enc Ok) (ht : P.underlying t = some (.map k e)) (hb : w.heap[g]? = some o) {a : κ} (ha : Ok a) (v : Value) [DecidableEq κ] :
    ∃ o' w', (Instr.mapUpdate t (.map (some g)) (enc a) v).run P w = .ok () w' ∧ w'.heap[g]? = some o' ∧ MapG enc Ok o' (fun x => if x = a then some v else f x) ∧ w.grownBy w' (some g) := by
  obtain ⟨es, clock, he, hk, hnd, hf⟩ := id h
  subst he
  obtain ⟨l, hl⟩ := K.lit a ha
  have hck := K.keyed.check w false hl
  have hst := K.keyed.stays w hl
  have hgo : (getObj g).run P w = .ok (.map es clock) w := by simp [getObj, Sem.run, hb]
  have hlt : g < w.heap.size := (Array.getElem?_eq_some_iff.1 hb).1
  have hso : ∀ ob : Obj, (setObj g ob).run P w = .ok () (w.putObj g ob) := fun ob => by simp [setObj, Sem.run, hb, World.putObj]
  rcases h.find K ha w with ⟨h1, h2⟩ | ⟨j, e', h1, h2, h3, h4⟩
  · refine ⟨.map (es.push ⟨enc a, v, clock⟩) (clock + 1), w.putObj g (.map (es.push ⟨enc a, v, clock⟩) (clock + 1)), ?_, ?_, ⟨_, _, rfl, ?_, ?_, ?_⟩, grownBy_putObj' w g _⟩
    · unfold Instr.mapUpdate
      simp [run_underlying ht, hgo, hck, h1, hso]
    · simp [World.putObj, hlt]
    · intro e1 he1
      simp only [Array.toList_push, List.mem_append, List.mem_singleton] at he1
      rcases he1 with he1 | rfl
      · exact hk e1 he1
      · exact ⟨a, ha, rfl⟩
    · simp only [Array.toList_push, List.map_append, List.map_cons, List.map_nil]
      refine List.nodup_append.2 ⟨hnd, List.pairwise_singleton _ _, fun x hx y hy e1 => ?_⟩
      rw [List.mem_singleton] at hy
      obtain ⟨e2, he2, e3⟩ := List.mem_map.1 hx
      have := (hf a e2.val).2 ⟨e2, he2, by rw [e3, e1, hy], rfl⟩
      rw [h2] at this
      cases this
    · intro x u
      simp only [Array.toList_push, List.mem_append, List.mem_singleton]
      show (if x = a then some v else f x) = some u ↔ _
      by_cases e1 : x = a
      · subst e1
        rw [if_pos rfl]
        constructor
        · intro hu
          cases hu
          exact ⟨_, .inr rfl, rfl, rfl⟩
        · rintro ⟨e2, he2 | rfl, e3, e4⟩
          · have := (hf x e2.val).2 ⟨e2, he2, e3, rfl⟩
            rw [h2] at this
            cases this
          · rw [← e4]
      · rw [if_neg e1, hf]
        constructor
        · rintro ⟨e2, he2, e3⟩
          exact ⟨e2, .inl he2, e3⟩
        · rintro ⟨e2, he2 | rfl, e3⟩
          · exact ⟨e2, he2, e3⟩
          · exact absurd (K.inj _ _ e3.1).symm e1
  · have hjl : j < es.size := (Array.getElem?_eq_some_iff.1 h2).1
    refine ⟨.map (es.modify j fun e => { key := enc a, val := v, born := e.born }) clock, w.putObj g (.map (es.modify j fun e => { key := enc a, val := v, born := e.born }) clock), ?_, ?_, ⟨_, _, rfl, ?_, ?_, ?_⟩, grownBy_putObj' w g _⟩
    · unfold Instr.mapUpdate
      simp [run_underlying ht, hgo, hck, h1, h2, h3, hst, hso]
    · simp [World.putObj, hlt]
    all_goals
      have hm : (es.modify j fun e => { key := enc a, val := v, born := e.born }).toList = es.toList.set j ⟨enc a, v, e'.born⟩ := by
        refine List.ext_getElem? fun i => ?_
        rw [Array.getElem?_toList, Array.getElem?_modify, List.getElem?_set]
        by_cases e1 : j = i
        · subst e1
          rw [if_pos rfl, if_pos rfl, h2, if_pos (by simpa using hjl)]
          rfl
        · rw [if_neg e1, if_neg e1, Array.getElem?_toList]
      rw [hm]
    · intro e1 he1
      rcases List.mem_or_eq_of_mem_set he1 with h5 | rfl
      · exact hk e1 h5
      · exact ⟨a, ha, rfl⟩
    · have : (es.toList.set j ⟨enc a, v, e'.born⟩).map (·.key) = es.toList.map (·.key) := by
        rw [List.map_set]
        refine List.ext_getElem? fun i => ?_
        rw [List.getElem?_set]
        by_cases e1 : j = i
        · subst e1
          rw [if_pos rfl, if_pos (by simpa using hjl), List.getElem?_map, Array.getElem?_toList, h2]
          simp [h3]
        · rw [if_neg e1]
      rw [this]
      exact hnd
    · have hdist : ∀ i e1, es.toList[i]? = some e1 → e1.key = enc a → i = j := fun i e1 hi hk1 => by
        have hi' : i < (es.toList.map (·.key)).length := by rw [List.length_map]; exact (List.getElem?_eq_some_iff.1 hi).1
        refine (List.getElem?_inj hi' hnd).1 ?_
        rw [List.getElem?_map, List.getElem?_map, hi, Array.getElem?_toList, h2]
        simp [hk1, h3]
      intro x u
      show (if x = a then some v else f x) = some u ↔ _
      by_cases e1 : x = a
      · subst e1
        rw [if_pos rfl]
        constructor
        · intro hu
          cases hu
          exact ⟨⟨enc x, v, e'.born⟩, List.mem_set (by rw [Array.length_toList]; exact hjl) _, rfl, rfl⟩
        · rintro ⟨e2, he2, e3, e4⟩
          obtain ⟨i, hi⟩ := List.getElem?_of_mem he2
          rw [List.getElem?_set] at hi
          by_cases e5 : j = i
          · rw [if_pos e5, if_pos (by rw [Array.length_toList]; exact hjl)] at hi
            cases hi
            rw [← e4]
          · rw [if_neg e5] at hi
            exact absurd (hdist i e2 hi e3).symm e5
      · rw [if_neg e1, hf]
        constructor
        · rintro ⟨e2, he2, e3, e4⟩
          obtain ⟨i, hi⟩ := List.getElem?_of_mem he2
          have hij : j ≠ i := fun hh => by
            subst hh
            rw [Array.getElem?_toList, h2] at hi
            cases hi
            rw [h3] at e3
            exact e1 (K.inj _ _ e3).symm
          exact ⟨e2, List.mem_of_getElem? (i := i) (by rw [List.getElem?_set, if_neg hij]; exact hi), e3, e4⟩
        · rintro ⟨e2, he2, e3, e4⟩
          rcases List.mem_or_eq_of_mem_set he2 with h5 | rfl
          · exact ⟨e2, h5, e3, e4⟩
          · exact absurd (K.inj _ _ e3).symm e1
end
section
variable {P : Program} {N : Fr} {Q : Exit → Act → World → Prop} {E : Env} {w0 : Base} {L : List Pc} {ops : Array Oper} {l : List Oper} {o : Oper} {κ : Type} {enc : κ → Value} {Ok : κ → Prop} {t k e : TypeId}
theorem gives_lookG {x y : Operand} {g i : Nat} {ob : Obj} {f : κ → Option Value} {a : κ} {z : Value} (ho : o.op = .lookup t x y false) (hx : ev E x = some (.map (some g))) (hy : ev E y = some (enc a)) (K : MKey P k enc Ok) (ht : P.underlying t = some (.map k e)) (hz : ∀ w : World, (zeroValue e).run P w = .ok z w) (hk : L[i]? = some (.oth g ob)) (hm : MapG enc Ok ob f) (ha : Ok a) {v : Value} (hv : (f a).getD z = v) :
    Gives P N o E (Pm w0 L) v := fun ac w hac hw => by
  unfold execOp; rw [ho]
  subst hv
  simp [hac.eval hx, hac.eval hy, hm.look K ht hz (hw.at_ hk).1 ha false]
theorem TL.mapsetG {x y z : Operand} {g i : Nat} {ob : Obj} {f : κ → Option Value} {a : κ} {v : Value} [DecidableEq κ] (hg : o.guard = none) (hd : o.dst = none) (ho : o.op = .mapUpdate t x y z) (hx : ev E x = some (.map (some g))) (hy : ev E y = some (enc a)) (hz : ev E z = some v)
    (K : MKey P k enc Ok) (ht : P.underlying t = some (.map k e)) (hk : L[i]? = some (.oth g ob)) (hnew : Mine w0 g) (hm : MapG enc Ok ob f) (ha : Ok a)
    (h : ∀ ob', MapG enc Ok ob' (fun x => if x = a then some v else f x) → TL P N ops Q l E (Pm w0 (L.set i (.oth g ob')))) : TL P N ops Q (o :: l) E (Pm w0 L) := fun ac w hac hw =>
  wpList_plain hg fun K' hK => by
    obtain ⟨ob', w', hrun, hob, hm', hgr⟩ := hm.put K ht (hw.at_ hk).1 ha v
    have hex : (execOp ac.eval o).run P w = .ok .skip w' := by
      unfold execOp; rw [ho]
      simp only [hac.eval hx, hac.eval hy, hac.eval hz, Sem.run_bind, hrun, Result.andThen_ok, Sem.run_pure]
    unfold Oper.wp
    rw [hex]
    show K' (ac.put o.dst undef) _
    rw [hd]
    exact hK _ _ (h ob' hm' _ _ (hac.put0 _) (hw.turnO hk hnew hgr hob))
end
theorem mkey_int {P : Program} {k : TypeId} {q : IntKind} (hk : P.underlying k = some (.int q)) : MKey P k (Value.int q) (fun a => (Lit.int q a).wf = true) :=
  ⟨Maps.int_keyed hk, fun a ha => ⟨_, Maps.keyOf_int_mk hk ha⟩, fun a b h => by cases h; rfl⟩
open Go.RowKit Go.Shelf
def fls (l : List Rs) : List Int := (l.filter usbRs).map fun r => r.flow
def FlM (ob : Obj) (fs : List Int) : Prop := ∃ f : Int → Option Value, MapG (Value.int .i64) (fun a => (Lit.int .i64 a).wf = true) ob f ∧ ∀ a, (Lit.int .i64 a).wf = true → (f a).getD (.bool false) = .bool (decide (a ∈ fs))
theorem FlM.new : FlM (.map #[] 0) [] := ⟨_, mapG_new _ _, fun a _ => rfl⟩
theorem fls_snoc_f {of : List Rs} {j : Nat} {x : Rs} (hx : of[j]? = some x) (h : usbRs x = false) : fls (of.take (j + 1)) = fls (of.take j) := by
  unfold fls
  rw [List.take_add_one, hx, List.filter_append]
  simp [h]
theorem fls_snoc_t {of : List Rs} {j : Nat} {x : Rs} (hx : of[j]? = some x) (h : usbRs x = true) : fls (of.take (j + 1)) = fls (of.take j) ++ [x.flow] := by
  unfold fls
  rw [List.take_add_one, hx, List.filter_append, List.map_append]
  simp [h]
theorem FlM.same {ob : Obj} {a b : List Int} (h : FlM ob a) (hm : ∀ z, z ∈ a ↔ z ∈ b) : FlM ob b := by
  obtain ⟨f, h1, h2⟩ := h
  exact ⟨f, h1, fun z hz => by rw [h2 z hz, decide_eq_decide.2 (hm z)]⟩
theorem FlM.set {ob : Obj} {fs : List Int} {x : Int} {f : Int → Option Value} (h2 : ∀ a, (Lit.int .i64 a).wf = true → (f a).getD (.bool false) = .bool (decide (a ∈ fs))) (hm : MapG (Value.int .i64) (fun a => (Lit.int .i64 a).wf = true) ob (fun z => if z = x then some (.bool true) else f z)) : FlM ob (fs ++ [x]) :=
  ⟨_, hm, fun a ha => by
    by_cases e : a = x
    · simp [e]
    · simp [e, h2 a ha]⟩
def FSA (l : List Rs) (ts : List Trc) (p : Rp) : Prop := p.trc ∈ ts ∧ IsTm l p
def FSB (l : List Rs) (ts : List Trc) (t : Trc) (fs : List Int) (p : Rp) : Prop := FSA l ts p ∨ (p.trc = t ∧ p.flow ∈ fs ∧ IsTm l p)
section
variable {es : List En} {l of y ts : List Rs} {tr : List Trc} {u : Ru} {i j : Nat} {x r0 : Rs} {t : Trc} {out o : List Rp} {P : Rp → Prop}
theorem fb_start (h : MinU P (FSA l (tr.take i)) out) : MinU P (FSB l (tr.take i) t (fls (of.take 0))) out := h.congr fun p _ => by
  unfold FSB
  rw [List.take_zero]
  exact ⟨.inl, fun h => h.elim id fun ⟨_, h1, _⟩ => absurd h1 List.not_mem_nil⟩
theorem fb_skip (h : MinU P (FSB l (tr.take i) t (fls (of.take j))) out) (hx : of[j]? = some x) (hs : x.flow ∈ fls (of.take j) ∨ usbRs x = false) : (∀ z, z ∈ fls (of.take j) ↔ z ∈ fls (of.take (j + 1))) ∧ MinU P (FSB l (tr.take i) t (fls (of.take (j + 1)))) out := by
  have key : ∀ z, z ∈ fls (of.take j) ↔ z ∈ fls (of.take (j + 1)) := fun z => by
    by_cases hu : usbRs x = true
    · rw [fls_snoc_t hx hu, List.mem_append, List.mem_singleton]
      rcases hs with hs | hs
      · exact ⟨.inl, fun h => h.elim id fun h => h ▸ hs⟩
      · rw [hs] at hu; cases hu
    · rw [fls_snoc_f hx (by simpa using hu)]
  refine ⟨key, h.congr fun p _ => ?_⟩
  unfold FSB
  rw [key]
theorem stream_ne (hof : IsOf l t of) (hx : of[j]? = some x) (hu : usbRs x = true) (hy : IsSt l t x.flow y) : x ∈ y := by
  obtain ⟨o, h1, rfl⟩ := hof
  have h2 := List.mem_filter.1 (List.mem_of_getElem? hx)
  exact (hy.mem x).2 ⟨((h1.2 x).1 h2.1).1, by simpa using h2.2, hu, rfl⟩
theorem fb_step (h : MinU (PrP es l u) (FSB l (tr.take i) t (fls (of.take j))) out) (ht : tr[i]? = some t) (htr : IsTrc l tr) (hx : of[j]? = some x) (hu : usbRs x = true) (hn : x.flow ∉ fls (of.take j)) (hy : IsSt l t x.flow y) (h0 : y[0]? = some r0) (hvu : vldRu u = true) (hve : validR es = true) (ho : MinU (PrS es y u) (TmS r0 y) o) : MinU (PrP es l u) (FSB l (tr.take i) t (fls (of.take (j + 1)))) (out ++ o) := by
  have hr0 := (hy.mem r0).1 (List.mem_of_getElem? h0)
  have e1 : trcR r0 = t := hr0.2.1
  have e2 : r0.flow = x.flow := hr0.2.2.2
  have hnt : t ∉ tr.take i := fun hm => by
    obtain ⟨q, hq⟩ := List.getElem?_of_mem hm
    have hq2 : q < i := by have := (List.getElem?_eq_some_iff.1 hq).1; rw [List.length_take] at this; omega
    rw [List.getElem?_take_of_lt hq2] at hq
    obtain ⟨h1, g1⟩ := List.getElem?_eq_some_iff.1 hq
    obtain ⟨h2, g2⟩ := List.getElem?_eq_some_iff.1 ht
    have := (List.pairwise_iff_getElem.1 htr.1) q i h1 h2 hq2
    rw [g1, g2] at this
    exact ltK_irrefl _ this
  have htm : ∀ p, TmS r0 y p ↔ p.trc = t ∧ p.flow = x.flow ∧ IsTm l p := fun p => by
    unfold TmS IsTm
    rw [e1, e2]
    constructor
    · rintro ⟨h1, h2, s, h3, h4⟩
      rw [h1, h2]
      exact ⟨rfl, rfl, y, hy, s, h3, h4⟩
    · rintro ⟨h1, h2, y', h3, s, h4, h5⟩
      rw [h1, h2] at h3
      rw [hy.eq h3]
      exact ⟨h1, h2, s, h4, h5⟩
  have ho2 : MinU (PrP es l u) (fun p => p.trc = t ∧ p.flow = x.flow ∧ IsTm l p) o := (ho.congrP (P' := PrP es l u) fun p hp => by
    obtain ⟨h1, h2, s, h3, h4⟩ := hp
    exact prS_iff hvu hve (by rw [h1, h2, e1, e2]; exact hy) h3 h4).congr fun p _ => htm p
  refine (h.app ho2 ?_).congr fun p _ => ?_
  · rintro p q h1 ⟨h2, h3, _⟩ h4
    have h5 := congrArg Rp.trc h4
    have h6 := congrArg Rp.flow h4
    have h7 : p.trc = q.trc := h5
    have h8 : p.flow = q.flow := h6
    rcases h1 with ⟨h1, _⟩ | ⟨_, h1, _⟩
    · rw [h7, h2] at h1; exact hnt h1
    · rw [h8, h3] at h1; exact hn h1
  · unfold FSB
    rw [fls_snoc_t hx hu]
    constructor
    · rintro ((h1 | ⟨h1, h2, h3⟩) | ⟨h1, h2, h3⟩)
      · exact .inl h1
      · exact .inr ⟨h1, List.mem_append_left _ h2, h3⟩
      · exact .inr ⟨h1, List.mem_append_right _ (List.mem_singleton.2 h2), h3⟩
    · rintro (h1 | ⟨h1, h2, h3⟩)
      · exact .inl (.inl h1)
      · rcases List.mem_append.1 h2 with h4 | h4
        · exact .inl (.inr ⟨h1, h4, h3⟩)
        · exact .inr ⟨h1, List.mem_singleton.1 h4, h3⟩
theorem fb_end (h : MinU P (FSB l (tr.take i) t (fls (of.take j))) out) (hj : of.length ≤ j) (hof : IsOf l t of) (ht : tr[i]? = some t) : MinU P (FSA l (tr.take (i + 1))) out := h.congr fun p _ => by
  unfold FSB FSA
  rw [List.take_of_length_le hj, List.take_add_one, ht]
  constructor
  · rintro (⟨h1, h2⟩ | ⟨h1, _, h3⟩)
    · exact ⟨List.mem_append_left _ h1, h2⟩
    · exact ⟨List.mem_append_right _ (by rw [h1]; exact List.mem_singleton.2 rfl), h3⟩
  · rintro ⟨h1, h2⟩
    rcases List.mem_append.1 h1 with h3 | h3
    · exact .inl ⟨h3, h2⟩
    · have h4 : p.trc = t := by simpa using h3
      refine .inr ⟨h4, ?_, h2⟩
      obtain ⟨y, hy, s, hs, _⟩ := h2
      have h5 := (hy.mem s).1 hs
      obtain ⟨o, h6, rfl⟩ := hof
      have hv : vldRs s = true := by have := h5.2.2.1; unfold usbRs at this; simp only [Bool.and_eq_true] at this; exact this.2
      exact List.mem_map.2 ⟨s, List.mem_filter.2 ⟨List.mem_filter.2 ⟨(h6.2 s).2 ⟨h5.1, hv⟩, by rw [← h4]; exact decide_eq_true h5.2.1⟩, h5.2.2.1⟩, h5.2.2.2⟩
theorem fa_end (h : MinU (PrP es l u) (FSA l (tr.take i)) out) (hi : tr.length ≤ i) (htr : IsTrc l tr) (hs : Sorted cmpRp out o) : IsFnd es l u o := (h.congr (S' := IsTm l) fun p _ => by
  unfold FSA
  rw [List.take_of_length_le hi, htr.2]
  refine ⟨fun h => h.2, fun h => ⟨?_, h⟩⟩
  obtain ⟨y, hy, s, hs, _⟩ := h
  have h5 := (hy.mem s).1 hs
  have hv : vldRs s = true := by have := h5.2.2.1; unfold usbRs at this; simp only [Bool.and_eq_true] at this; exact this.2
  exact ⟨s, h5.1, hv, h5.2.1⟩).sorted hs
theorem fa_zero : MinU P (FSA l (tr.take 0)) [] := MinU.nil fun p h => by
  have := h.1; rw [List.take_zero] at this; cases this
theorem trc_le {o : List Rs} (htr : IsTrc l tr) (ho : IsOrd l o) : tr.length ≤ o.length := by
  have hn : tr.Nodup := htr.1.imp fun {a b} hab e => by subst e; exact ltK_irrefl _ hab
  have := nodup_len (F := o.map trcR) hn fun t ht => by
    obtain ⟨r, h1, h2, h3⟩ := (htr.2 t).1 ht
    exact List.mem_map.2 ⟨r, (ho.2 r).2 ⟨h1, h2⟩, h3⟩
  rwa [List.length_map] at this
theorem of_le {o : List Rs} (hof : IsOf l t of) (ho : IsOrd l o) : of.length ≤ o.length := by
  obtain ⟨o', h1, rfl⟩ := hof
  rw [ho.eq h1]
  exact List.length_filter_le _ _
end
theorem wf_flow {r : Rs} (h : vldRs r = true) : (Lit.int .i64 r.flow).wf = true := by
  have := vld_in h
  unfold Rs.inRange at this
  simp [Lit.wf, IntKind.min, IntKind.max, IntKind.signed, IntKind.bits]; omega
set_option maxRecDepth 20000
theorem aclbs106_0_0  (w : World) : (Instr.buildSlice 106 0 #[]).run Tryz.prog w = .ok (.slice (some ⟨w.heap.size, 0, none⟩) 0 0) (w.alloc (.cells [].toArray 3)) := by kernel_rfl
theorem cloneI_none (c0 : Nat) (w : World) :
  Calls Tryz.prog 143 #[.slice none 0 c0] w fun e w' => ∃ x : {p : Option Addr × Nat // (([] : List Int)).length ≤ p.2 ∧ p.2 ≤ maxLen}, e = .returned (.slice x.1.1 (([] : List Int)).length x.1.2) ∧ Pm w [.row (.slice x.1.1 (([] : List Int)).length x.1.2) 3 1 (([] : List Int)).length (flat (ic .i64) (([] : List Int)))] w' := by
 refine begin_ (vs := [.slice none 0 c0]) Tryz.func143 rfl rfl rfl ?_ (Pm.start w)
 refine zSG (TL.as_ ?_)
 refine zET (zS (zSG (TL.mv ?_)))
 refine TL.val rfl rfl rfl (gives_bin2 (v := .bool true) rfl rfl rfl (fun w => slice_nil Tryz.underlying106 w)) ?_
 refine zET (zc (zSG (TL.as_ ?_)))
 refine zET (zr (zR ?_))
 exact ret_tmp Tryz.results143 rfl (fun w1 hw => ⟨⟨(none, 0), Nat.le_refl _, Nat.zero_le _⟩, rfl, (hw.pick [] (by decide) rfl).nilrow _ _⟩)
theorem cloneI_some (a : Addr) (c0 : Nat) (l : List Int) (w : World) (hr : Reads w w.heap.size 1 (some a) l.length (flat (ic .i64) l)) (hl1 : l.length ≤ 1000000) :
  Calls Tryz.prog 143 #[.slice (some a) l.length c0] w fun e w' => ∃ x : {p : Option Addr × Nat // (l).length ≤ p.2 ∧ p.2 ≤ maxLen}, e = .returned (.slice x.1.1 (l).length x.1.2) ∧ Pm w [.row (.slice x.1.1 (l).length x.1.2) 3 1 (l).length (flat (ic .i64) (l))] w' := by
 refine begin_ (vs := [.slice (some a) l.length c0]) Tryz.func143 rfl rfl rfl ?_ (Pm.start w)
 refine zSG (TL.as_ ?_)
 refine zET (zS (zSG (TL.mv ?_)))
 refine TL.val rfl rfl rfl (gives_bin2 (v := .bool false) rfl rfl rfl (fun w => slice_nil Tryz.underlying106 w)) ?_
 refine zET (zd (zk (zT (zSG ?_))))
 refine TL.prowS (e := 3) (size := 1) (cs := flat (ic .i64) []) rfl rfl rfl rfl rfl (fun w => aclbs106_0_0  w) (by decide) rfl (fun g5 => ?_)
 refine TL.mv ?_
 refine TL.appendT (k := 0) rfl rfl rfl rfl Tryz.underlying106 adtel106 rfl rfl rfl (fun w1 hw => ⟨_, (hr.up hw.bel)⟩) (flat_one (ic_cel .i64) _) (by show _ * 8 ≤ _; omega) (l.length) (by simp) (flat (ic .i64) l) (rfl) (fun A7 c7 hA71 hA72 => ?_)
 refine TL.as_ ?_
 refine zET (zr ?_)
 exact ret_tmp Tryz.results143 rfl (fun w1 hw => ⟨⟨(A7, c7), hA71, hA72⟩, rfl, hw.pick [0] (by decide) rfl⟩)
theorem cloneI_any (A0 : Option Addr) (c0 : Nat) (l : List Int) (w : World) (hr : Reads w w.heap.size 1 A0 l.length (flat (ic .i64) l)) (hl1 : l.length ≤ 1000000) :
  Calls Tryz.prog 143 #[.slice A0 l.length c0] w fun e w' => ∃ x : {p : Option Addr × Nat // (l).length ≤ p.2 ∧ p.2 ≤ maxLen}, e = .returned (.slice x.1.1 (l).length x.1.2) ∧ Pm w [.row (.slice x.1.1 (l).length x.1.2) 3 1 (l).length (flat (ic .i64) (l))] w' := by
 cases A0 with
 | some a => exact cloneI_some a c0 l w hr hl1
 | none =>
  have hl : l.length = 0 := by
   rcases Nat.eq_zero_or_pos l.length with h | h
   ·exact h
   obtain ⟨ad, h1, _⟩ := hr.2 h; cases h1
  obtain rfl : l = [] := List.eq_nil_of_length_eq_zero hl
  exact cloneI_none c0 w
set_option maxRecDepth 20000
section
variable {P : Program} {N : Fr} {Q : Exit → Act → World → Prop} {E : Env} {w0 : Base} {L : List Pc} {ops : Array Oper} {l : List Oper} {o : Oper}
theorem TL.clearI {ik : IntKind} {t e : TypeId} {s : Operand} {g q n cc m cc2 kk : Nat} {z : Int} {xs : List Int} (hg : o.guard = none) (hd : o.dst = none) (ho : o.op = .call { callee := .builtin .clear, args := #[s], argTypes := #[t] }) (hs : ev E s = some (.slice (some ⟨g, q * 1, none⟩) m cc2))
  (ht : P.underlying t = some (.slice e)) (hz : ∀ w : World, (zeroValue e).run P w = .ok (.int ik z) w) (hm : 0 < m) (hq : q + m = xs.length)
  (hk : L[kk]? = some (.row (.slice (some ⟨g, 0, none⟩) n cc) e 1 n (flat (ic ik) xs)))
  (h : TL P N ops Q l E (Pm w0 (L.set kk (.row (.slice (some ⟨g, 0, none⟩) n cc) e 1 n (flat (ic ik) (xs.take q ++ List.replicate m z)))))) : TL P N ops Q (o :: l) E (Pm w0 L) := by
 have K := ic_cel ik
 have e1 : (flat (ic ik) (List.replicate m z)).length = m * 1 := by rw [flat_len K, List.length_replicate]
 have e2 : (flat (ic ik) xs).length = q * 1 + m * 1 := by rw [flat_len K, ← hq, Nat.add_mul]
 refine TL.rowclear (zs := flat (ic ik) (List.replicate m z)) hg hd ho hs ht hz (by rw [show (Value.int ik z).cells = #[.int ik z] from rfl, zeroCells_one, flat_ic, List.map_replicate]) (flat_one K _) hm hk (by rw [e1, e2]; omega) (xs' := flat (ic ik) (xs.take q ++ List.replicate m z)) ?_ h
 rw [e1, List.drop_of_length_le (by rw [e2]; omega), List.append_nil, flat_app, flat_take K]
end
theorem pcizv3 (w : World) : (zeroValue 3).run Tryz.prog w = .ok (.int .i64 0) w := rfl
theorem compactInt_g (g n c : Nat) (xs : List Int) (w : World) (h : RwG 3 1 w g n c (flat (ic .i64) xs)) (hl : xs.length = n) (hn : n ≤ 1000000) :
  Calls Tryz.prog 139 #[.slice (some ⟨g, 0, none⟩) n c] w fun en w' => en = .returned (.slice (some ⟨g, 0, none⟩) (cptG xs).length c) ∧ RwG 3 1 w' g (cptG xs).length c (flat (ic .i64) (cptG xs)) ∧ w.grownBy w' (some g) := by
 have hcap := h.obj.2.1
 have hmax := h.obj.2.2
 refine begin_ (vs := [.slice (some ⟨g, 0, none⟩) n c]) (I := Pm ⟨wbut w g, g⟩ (.row (.slice (some ⟨g, 0, none⟩) n c) 3 1 n (flat (ic .i64) xs) :: oths g w)) Tryz.func139 rfl rfl rfl ?_ (Pm.rowStartG h)
 refine zSG (TL.as_ ?_)
 refine zET (zS (zSG (TL.mv ?_)))
 refine TL.v (gN Tryz.underlying106) ?_
 refine TL.sp bin_lss (fun q8 => ?_) (fun q8 => ?_)
 ·have hE : cptG xs = xs := cptG_short (by omega)
  refine zET (zc (zSG (TL.rn 2 rfl (zET (zr (zR ?_))))))
  exact ret_tmp Tryz.results139 rfl (fun w1 hw => by rw [hE, hl]; exact ⟨rfl, pm_rowAtG hw (k := 0) rfl, hw.mapEnd (fun q hq => by simp [hq])⟩)
 refine zET (zd (zk (zT (zS (zSG (TL.as_ ?_))))))
 refine zET (zB ?_)
 refine TC.loop_ (α := {k : Nat // 1 ≤ k ∧ k ≤ n ∧ cptG (xs.take k) = xs.take k}) (fun y => [(0, .slice (some ⟨g, 0, none⟩) n c), (3, .int .i64 ((y.1 : Nat) : Int))]) (fun y => Pm ⟨wbut w g, g⟩ ([.row (.slice (some ⟨g, 0, none⟩) n c) 3 1 n (flat (ic .i64) xs)] ++ oths g w)) (fun y => n - y.1) (⟨1, Nat.le_refl _, by omega, cptG_take1 xs⟩) ⟨rfl, rfl, trivial⟩ (fun w1 hw => hw) ?_
 rintro ⟨k0, hk1, hk2, hK⟩
 try dsimp only
 refine zS (zSG (TL.rn 2 rfl (TL.v (gN Tryz.underlying106) ?_)))
 refine TL.sp bin_lss (fun q13 => ?_) (fun q13 => ?_)
 ·refine zET (zc (zk (zT (zS (zB (zS (TC.quietQ (by kernel_rfl) (by kernel_rfl) (fun w hw => hw.drawn _) ?_)))))))
  refine TQ.rn 2 rfl ?_
  have hi18 : k0 < xs.length := by omega
  obtain ⟨x18, hx18⟩ := ex_at hi18
  refine TQ.val rfl rfl rfl (gA (i := k0) Tryz.underlying106 pcmsz3 rfl rfl rfl rfl rfl (by omega)) ?_
  refine TQ.val rfl rfl rfl (gives_load (v := .int .i64 x18) rfl rfl pcmag3 (fun w1 hw => flat_row (ic_cel .i64) hw (q := 0) rfl hx18 0 _ rfl)) ?_
  refine TQ.rn 2 rfl ?_
  refine TQ.val rfl rfl rfl (gives_bin rfl rfl rfl (fun w => bin_sub_ (r := ((k0 - 1 : Nat) : Int)) (by simp only [IntKind.wrap_i64]; omega) w)) ?_
  have hi23 : k0 - 1 < xs.length := by omega
  obtain ⟨x23, hx23⟩ := ex_at hi23
  refine TQ.val rfl rfl rfl (gA (i := (k0 - 1)) Tryz.underlying106 pcmsz3 rfl rfl rfl rfl rfl (by omega)) ?_
  refine TQ.val rfl rfl rfl (gives_load (v := .int .i64 x23) rfl rfl pcmag3 (fun w1 hw => flat_row (ic_cel .i64) hw (q := 0) rfl hx23 0 _ rfl)) ?_
  refine TQ.sp bin_eql (fun q25 => ?_) (fun q25 => ?_)
  ·have hst := cptG_step hx18 hx23 hk1
   have hK2 : cptG (xs.take (k0 + 1)) = xs.take k0 := by rw [hst, if_pos q25.symm]; exact hK
   refine TQ.fin ?_
   refine zT (zc (zSG (TL.rn 2 rfl ?_)))
   refine TL.val rfl rfl rfl (gives_tailF (q := k0) rfl rfl rfl rfl Tryz.underlying106 pcmsz3 (by omega) (by omega)) ?_
   refine TL.as_ ?_
   refine zET (zS (zSG (TL.as_ ?_)))
   refine zET (zB ?_)
   refine TC.loop_ (α := {y : Nat × Nat × List Int // (1 ≤ y.2.1 ∧ y.2.1 ≤ n - k0 ∧ k0 ≤ y.1 ∧ y.1 ≤ k0 + y.2.1 - 1) ∧ y.2.2.length = n ∧ (∀ p, k0 + y.2.1 - 1 ≤ p → y.2.2[p]? = xs[p]?) ∧ y.2.2.take y.1 = cptG (xs.take (k0 + y.2.1))}) (fun y => [(0, .slice (some ⟨g, 0, none⟩) n c), (3, .int .i64 ((y.1.1 : Nat) : Int)), (4, .slice (some ⟨g, k0 * 1, none⟩) (n - k0) (c - k0)), (5, .int .i64 ((y.1.2.1 : Nat) : Int))]) (fun y => Pm ⟨wbut w g, g⟩ ([.row (.slice (some ⟨g, 0, none⟩) n c) 3 1 n (flat (ic .i64) y.1.2.2)] ++ oths g w)) (fun y => n - y.1.2.1) (⟨(k0, 1, xs), by dsimp only; omega, hl, fun p _ => rfl, hK2.symm⟩) ⟨rfl, rfl, rfl, rfl, trivial⟩ (fun w1 hw => hw) ?_
   rintro ⟨⟨k, j, ys⟩, ⟨hj1, hj2, hj3, hj4⟩, hly, hI, hT⟩
   dsimp only at hj1 hj2 hj3 hj4 hly hI hT ⊢
   refine zS (zSG (TL.rn 2 rfl (TL.v (gN Tryz.underlying106) ?_)))
   refine TL.sp bin_lss (fun q32 => ?_) (fun q32 => ?_)
   ·refine zET (zc (zk (zT (zS (zB (zS (TC.quietQ (by kernel_rfl) (by kernel_rfl) (fun w hw => hw.drawn _) ?_)))))))
    refine TQ.rn 2 rfl ?_
    have hi37 : (k0 + j) < ys.length := by omega
    obtain ⟨x37, hx37⟩ := ex_at hi37
    refine TQ.val rfl rfl rfl (gives_at (v := .pointer (some ⟨g, 0 + (k0 + j) * 1, none⟩)) rfl rfl rfl (fun w => at_elT Tryz.underlying106 pcmsz3 g k0 _ _ j (by omega) rfl w)) ?_
    refine TQ.val rfl rfl rfl (gives_load (v := .int .i64 x37) rfl rfl pcmag3 (fun w1 hw => flat_row (ic_cel .i64) hw (q := 0) rfl hx37 0 _ rfl)) ?_
    refine TQ.rn 2 rfl ?_
    refine TQ.val rfl rfl rfl (gives_bin rfl rfl rfl (fun w => bin_sub_ (r := ((j - 1 : Nat) : Int)) (by simp only [IntKind.wrap_i64]; omega) w)) ?_
    have hi42 : (k0 + (j - 1)) < ys.length := by omega
    obtain ⟨x42, hx42⟩ := ex_at hi42
    refine TQ.val rfl rfl rfl (gives_at (v := .pointer (some ⟨g, 0 + (k0 + (j - 1)) * 1, none⟩)) rfl rfl rfl (fun w => at_elT Tryz.underlying106 pcmsz3 g k0 _ _ (j - 1) (by omega) rfl w)) ?_
    refine TQ.val rfl rfl rfl (gives_load (v := .int .i64 x42) rfl rfl pcmag3 (fun w1 hw => flat_row (ic_cel .i64) hw (q := 0) rfl hx42 0 _ rfl)) ?_
    refine TQ.sp bin_neq (fun q44 => ?_) (fun q44 => ?_)
    ·have hst := cptG_step (by rw [← hI _ (by omega)]; exact hx37) (by rw [← hI _ (by omega), show k0 + j - 1 = k0 + (j - 1) by omega]; exact hx42) (by omega : 1 ≤ k0 + j)
     have hc1 : ∀ p, k0 + (j + 1) - 1 ≤ p → (ys.set k x37)[p]? = xs[p]? := fun p hp => by rw [List.getElem?_set_ne (by omega)]; exact hI p (by omega)
     have hc2 : (ys.set k x37).take (k + 1) = cptG (xs.take (k0 + (j + 1))) := by
      rw [List.take_add_one, List.take_set_of_le (Nat.le_refl _), List.getElem?_set_self (by omega), hT, show k0 + (j + 1) = k0 + j + 1 from rfl, hst, if_neg (fun hh => q44 hh.symm)]; rfl
     refine TQ.fin ?_
     refine zT (zc (zSG (TL.rn 4 rfl ?_)))
     refine TL.val rfl rfl rfl (gives_at (v := .pointer (some ⟨g, 0 + (k0 + j) * 1, none⟩)) rfl rfl rfl (fun w => at_elT Tryz.underlying106 pcmsz3 g k0 _ _ j (by omega) rfl w)) ?_
     refine TL.val rfl rfl rfl (gives_load (v := .int .i64 x37) rfl rfl pcmag3 (fun w1 hw => flat_row (ic_cel .i64) hw (q := 0) rfl hx37 0 _ rfl)) ?_
     have hi51 : k < ys.length := by omega
     obtain ⟨x51, hx51⟩ := ex_at hi51
     refine TL.val rfl rfl rfl (gA (i := k) Tryz.underlying106 pcmsz3 rfl rfl rfl rfl rfl (by omega)) ?_
     refine TL.rowset (k := 0) (vs := [.int .i64 x37]) (xs' := flat (ic .i64) (ys.set k x37)) rfl rfl rfl rfl rfl rfl rfl pcmsz3 aeaone_i64 (by rw [flat_len (ic_cel .i64)]; show 0 + k * 1 + 1 ≤ _; omega) (flat_put (ic_cel .i64) (q := 0) (y := x37) hx51 (by show 0 + 1 ≤ 1; decide) rfl) ?_
     try dsimp only [List.set_cons_zero, List.set_cons_succ]
     refine zET (zG (TL.mv ?_))
     refine TL.v (gD ((k + 1 : Nat) : Int)) ?_
     refine TL.as_ ?_
     refine zE (zN (zT (zG (TL.mv ?_))))
     refine TL.v (gD ((j + 1 : Nat) : Int)) ?_
     refine TL.as_ ?_
     refine zE ?_
     exact TX.round (⟨(k + 1, j + 1, ys.set k x37), by dsimp only; omega, by rw [List.length_set]; exact hly, hc1, hc2⟩) (by show n - (j + 1) < n - j; omega) ⟨rfl, rfl, rfl, rfl, trivial⟩ (fun w1 hw => hw)
    have hst := cptG_step (by rw [← hI _ (by omega)]; exact hx37) (by rw [← hI _ (by omega), show k0 + j - 1 = k0 + (j - 1) by omega]; exact hx42) (by omega : 1 ≤ k0 + j)
    have hd1 : ∀ p, k0 + (j + 1) - 1 ≤ p → ys[p]? = xs[p]? := fun p hp => hI p (by omega)
    have hd2 : ys.take k = cptG (xs.take (k0 + (j + 1))) := by rw [hT, show k0 + (j + 1) = k0 + j + 1 from rfl, hst, if_pos (Decidable.not_not.1 q44).symm]
    refine TQ.fin ?_
    refine zT (zd (zk (zN (zT (zG (TL.mv ?_))))))
    refine TL.v (gD ((j + 1 : Nat) : Int)) ?_
    refine TL.as_ ?_
    refine zE ?_
    exact TX.round (⟨(k, j + 1, ys), by dsimp only; omega, hly, hd1, hd2⟩) (by show n - (j + 1) < n - j; omega) ⟨rfl, rfl, rfl, rfl, trivial⟩ (fun w1 hw => hw)
   obtain rfl : j = n - k0 := by omega
   have hC : ys.take k = cptG xs := by rw [hT, List.take_of_length_le (by omega)]
   refine zET (zd (zx (zX (zX (zM (zT (zSG (TL.rn 2 rfl ?_))))))))
   refine TL.val rfl rfl rfl (gives_tailF (q := k) rfl rfl rfl rfl Tryz.underlying106 pcmsz3 (by omega) (by omega)) ?_
   refine TL.clearI (kk := 0) (q := k) (z := 0) rfl rfl rfl rfl Tryz.underlying106 pcizv3 (by omega) (by omega) rfl ?_
   try dsimp only [List.set_cons_zero]
   refine zET (zSG (TL.rn 2 rfl ?_))
   refine TL.headF (ic_cel .i64) (kk := 0) (hi := k) rfl rfl rfl rfl rfl rfl Tryz.underlying106 pcmsz3 rfl (by omega) (by omega) ?_
   try dsimp only [List.set_cons_zero]
   refine TL.as_ ?_
   refine zET (zr (zRR (zR (zRR ?_))))
   have hfin : (ys.take k ++ List.replicate (n - k) 0).take k = cptG xs := by rw [List.take_left' (by rw [List.length_take]; omega)]; exact hC
   have hkl : (cptG xs).length = k := by rw [← hC, List.length_take]; omega
   rw [hfin]
   exact ret_tmp Tryz.results139 rfl (fun w1 hw => ⟨by rw [hkl], by rw [hkl]; exact (pm_rowAtG hw (k := 0) rfl), hw.mapEnd (fun q hq => by simp [hq])⟩)
  have hst := cptG_step hx18 hx23 hk1
  have hK2 : cptG (xs.take (k0 + 1)) = xs.take (k0 + 1) := by rw [hst, if_neg (fun hh => q25 hh.symm), hK, List.take_add_one, hx18]; rfl
  refine TQ.fin ?_
  refine zT (zd (zk (zN (zT (zG (TL.mv ?_))))))
  refine TL.v (gD ((k0 + 1 : Nat) : Int)) ?_
  refine TL.as_ ?_
  refine zE ?_
  exact TX.round (⟨k0 + 1, by omega, by omega, hK2⟩) (by show n - (k0 + 1) < n - k0; omega) ⟨rfl, rfl, trivial⟩ (fun w1 hw => hw)
 obtain rfl : k0 = n := by omega
 have hE : cptG xs = xs := by rw [List.take_of_length_le (by omega)] at hK; exact hK
 refine zET (zd (zx (zX (zX (zM (zT (zSG (TL.rn 2 rfl (zET (zr ?_))))))))))
 exact ret_tmp Tryz.results139 rfl (fun w1 hw => by rw [hE, hl]; exact ⟨rfl, pm_rowAtG hw (k := 0) rfl, hw.mapEnd (fun q hq => by simp [hq])⟩)
theorem compactInt_nil (w : World) : Calls Tryz.prog 139 #[.slice none 0 0] w fun en w' => en = .returned (.slice none 0 0) ∧ Below w.heap.size w w' := by
 refine begin_ (vs := [.slice none 0 0]) Tryz.func139 rfl rfl rfl ?_ (Pm.start w)
 refine zSG (TL.as_ ?_)
 refine zET (zS (zSG (TL.mv ?_)))
 refine TL.v (gN Tryz.underlying106) ?_
 refine TL.val rfl rfl rfl (gives_bin rfl rfl rfl (fun w => bin_lss_t (by decide) w)) ?_
 refine zET (zc (zSG (TL.rn 2 rfl (zET (zr (zR ?_))))))
 exact ret_tmp Tryz.results139 rfl (fun w1 hw => ⟨rfl, hw.bel⟩)
theorem compactInt {b n cap : Nat} {A : Option Addr} {l : List Int} {w : World} (hr : w.ownsRow b 3 1 (.slice A n cap) n (flat (ic .i64) l)) (hl : l.length = n) (hn : n ≤ 1000000) :
  Calls Tryz.prog 139 #[.slice A n cap] w fun en w' => en = .returned (.slice A (cptG l).length cap) ∧ w'.ownsRow b 3 1 (.slice A (cptG l).length cap) (cptG l).length (flat (ic .i64) (cptG l)) ∧ w.grownBy w' (Value.ownBlock (.slice A n cap)) := by
 rcases id hr.2 with ⟨hv, h0⟩ | ⟨q, cap', cur, hv, hb, hq, h1, h2, h3, h4⟩
 ·cases hv
  obtain rfl : l = [] := List.eq_nil_of_length_eq_zero (by omega)
  refine (compactInt_nil w).mono fun en w' ⟨h5, h6⟩ => ⟨h5, ⟨rfl, .inl ⟨rfl, rfl⟩⟩, ?_⟩
  exact ⟨h6.os, h6.tape, h6.output, h6.size, fun k hk _ => h6.block k hk⟩
 cases hv
 refine (compactInt_g q n cap l w ⟨hr.1, .inr ⟨q, cap, cur, rfl, Nat.le_refl _, hq, h1, h2, h3, h4⟩⟩ hl hn).mono fun en w' ⟨h5, h6, h7⟩ => ⟨h5, ⟨h6.1, ?_⟩, h7⟩
 rcases h6.2 with ⟨e1, _⟩ | ⟨q', c2, cur2, e1, e2, e3⟩
 ·cases e1
 cases e1
 exact .inr ⟨q, cap, cur2, rfl, hb, e3⟩
set_option maxRecDepth 20000
noncomputable def pdec (Q : Prop) : Bool := @decide Q (Classical.propDecidable Q)
theorem pdec_iff {Q : Prop} : pdec Q = true ↔ Q := by unfold pdec; exact @decide_eq_true_iff Q (Classical.propDecidable Q)
theorem pdec_of {Q : Prop} {b : Bool} (h : b = true ↔ Q) : b = pdec Q := by
 rw [Bool.eq_iff_iff, h, pdec_iff]
theorem asebld34_50680 (a0_0 : Int) (a1_0 : Int) (a1_1 : Int) (a1_2 : Int) (a2_0 : Int) (w : World) : (Instr.build 34 #[(0, .int .i64 a0_0), (1, .agg #[.int .i64 a1_0, .int .u32 a1_1, .int .i64 a1_2]), (2, .int .i64 a2_0)]).run Tryz.prog w = .ok (.agg #[.int .i64 a0_0, .int .i64 a1_0, .int .u32 a1_1, .int .i64 a1_2, .int .i64 a2_0, .int .i64 0, .int .i64 0, .int .i64 0]) w := by kernel_rfl
theorem asezv34 (w : World) : (zeroValue 34).run Tryz.prog w = .ok (.agg #[.int .i64 0, .int .i64 0, .int .u32 0, .int .i64 0, .int .i64 0, .int .i64 0, .int .i64 0, .int .i64 0]) w := rfl
theorem aseone_i64i64u32i64i64i64i64i64 {a0 : Int} {a1 : Int} {a2 : Int} {a3 : Int} {a4 : Int} {a5 : Int} {a6 : Int} {a7 : Int} : ∀ u ∈ [(.int .i64 a0 : Value), .int .i64 a1, .int .u32 a2, .int .i64 a3, .int .i64 a4, .int .i64 a5, .int .i64 a6, .int .i64 a7], u.oneCell' = true := by
 intro u hu
 simp only [List.mem_cons, List.not_mem_nil, or_false] at hu
 rcases hu with rfl | rfl | rfl | rfl | rfl | rfl | rfl | rfl <;> rfl
theorem asezv23 (w : World) : (zeroValue 23).run Tryz.prog w = .ok (.slice none 0 0) w := rfl
theorem asesz23 (w : World) : (sizeOf 23).run Tryz.prog w = .ok 1 w := rfl
theorem aseel49 : Elem Tryz.prog 49 34 8 64 := Elem.mk' Tryz.underlying49 (z := .agg #[.int .i64 0, .int .i64 0, .int .u32 0, .int .i64 0, .int .i64 0, .int .i64 0, .int .i64 0, .int .i64 0]) (by kernel_rfl) rfl (by omega) (by omega)
theorem asezv106 (w : World) : (zeroValue 106).run Tryz.prog w = .ok (.slice none 0 0) w := rfl
theorem asesz106 (w : World) : (sizeOf 106).run Tryz.prog w = .ok 1 w := rfl
theorem search_any (A0 : Option Addr) (c0 : Nat) (l : List Rs) (A1 : Option Addr) (c1 : Nat) (es : List En) (u : Ru) (r0 : Rs) (w : World) (hr : Reads w w.heap.size 17 A0 l.length (flat Rs.cells l)) (hl1 : l.length ≤ 100000) (hr1 : Reads w w.heap.size 5 A1 es.length (flat En.cells es)) (hl5 : l.length ≤ 512) (h0 : l[0]? = some r0) (hin : ∀ r ∈ l, r.inRange) (hu : 1 ≤ u.prb) :
  Calls Tryz.prog 92 #[.slice A0 l.length c0, .agg #[.slice A1 es.length c1], .agg u.cells.toArray] w fun e w' => ∃ x : {y : (Option Addr × Nat) × List Rp // (MinU (PrS es l u) (TmS r0 l) y.2 ∧ y.2.length ≤ 262657) ∧ y.2.length ≤ y.1.2 ∧ y.1.2 ≤ maxLen}, e = .returned (.slice x.1.1.1 x.1.2.length x.1.1.2) ∧ Pm w [.row (.slice x.1.1.1 x.1.2.length x.1.1.2) 34 8 x.1.2.length (flat Rp.cells x.1.2)] w' := by
 have hl0 : 0 < l.length := (List.getElem?_eq_some_iff.1 h0).1
 refine begin_ (vs := [.slice A0 l.length c0, .agg #[.slice A1 es.length c1], .agg u.cells.toArray]) Tryz.func92 rfl rfl rfl ?_ (Pm.start w)
 refine zSG ?_
 refine TL.pnew rfl rfl rfl (exec_box (cs := [.slice A0 l.length c0]) rfl rfl rfl) (fun g3 => ?_)
 refine TL.pnew rfl rfl rfl (exec_box (cs := [.slice A1 es.length c1]) rfl rfl rfl) (fun g4 => ?_)
 refine TL.pnew rfl rfl rfl (exec_box (cs := u.cells) rfl rfl rfl) (fun g5 => ?_)
 refine TL.as_ ?_
 refine zET (zSG (TL.rn 2 rfl (zET (zS (zSG (TL.v (gL 2 aeaag23) ?_))))))
 refine TL.v (gN Tryz.underlying23) ?_
 refine TL.mv ?_
 refine zET (zB (TC.nilrow 3 1 ?_))
 refine TC.nilrow 3 1 ?_
 refine TC.loop_ (α := {y : Nat × (Option Addr × Nat) × (Option Addr × Nat) × List Int × List Int // y.1 ≤ l.length ∧ (l.take y.1).map (fun s : Rs => s.at_) = y.2.2.2.1 ∧ (l.take y.1).map (fun s : Rs => s.ttl) = y.2.2.2.2 ∧ y.2.2.2.1.length ≤ y.2.1.2 ∧ y.2.1.2 ≤ maxLen ∧ y.2.2.2.2.length ≤ y.2.2.1.2 ∧ y.2.2.1.2 ≤ maxLen}) (fun y => [(3, .pointer (some ⟨g3, 0, none⟩)), (4, .pointer (some ⟨g4, 0, none⟩)), (5, .pointer (some ⟨g5, 0, none⟩)), (18, .slice A0 l.length c0), (19, .int .i64 (l.length : Nat)), (20, .int .i64 ((y.1.1 : Nat) : Int)), (7, .slice y.1.2.1.1 y.1.2.2.2.1.length y.1.2.1.2), (8, .slice y.1.2.2.1.1 y.1.2.2.2.2.length y.1.2.2.1.2)]) (fun y => Pm w [.row (.slice y.1.2.1.1 y.1.2.2.2.1.length y.1.2.1.2) 3 1 y.1.2.2.2.1.length (flat (ic .i64) y.1.2.2.2.1), .row (.slice y.1.2.2.1.1 y.1.2.2.2.2.length y.1.2.2.1.2) 3 1 y.1.2.2.2.2.length (flat (ic .i64) y.1.2.2.2.2), .blk g5 28 u.cells, .blk g4 26 [.slice A1 es.length c1], .blk g3 23 [.slice A0 l.length c0]]) (fun y => l.length - y.1.1) (⟨(0, (none, 0), (none, 0), [], []), Nat.zero_le _, rfl, rfl, Nat.le_refl _, Nat.zero_le _, Nat.le_refl _, Nat.zero_le _⟩) ⟨rfl, rfl, rfl, rfl, rfl, rfl, rfl, rfl, trivial⟩ (fun w1 hw => hw) ?_
 rintro ⟨⟨i, ⟨At, ct⟩, ⟨Al, cl⟩, tm, tt⟩, hi, hT, hL, hc1, hc2, hc3, hc4⟩
 dsimp only at hi hT hL hc1 hc2 hc3 hc4 ⊢
 have htl : tm.length ≤ 512 := by rw [← hT, List.length_map, List.length_take]; omega
 have hll : tt.length ≤ 512 := by rw [← hL, List.length_map, List.length_take]; omega
 refine zSG ?_
 refine TL.sp bin_lss (fun q21 => ?_) (fun q21 => ?_)
 ·refine zET (zS (zc (zk (zT (zS (zB (zSG ?_)))))))
  have hi22 : i < l.length := by omega
  obtain ⟨x22, hx22⟩ := ex_at hi22
  obtain ⟨b22, o22, hA22, hbb22, hc22⟩ := hr.ad (by omega) (by decide)
  refine TL.val rfl rfl rfl (gA (i := i) Tryz.underlying23 prssz65 rfl rfl rfl rfl hA22 (by omega)) ?_
  refine TL.v (gR rs_cel prsag65 prssz65 hbb22 hx22 hc22) ?_
  refine TL.pnew rfl rfl rfl (exec_alloc (cs := [.int .i64 0, .int .i64 0, .int .i64 0, .int .i64 0, .int .u32 0, .int .i64 0, .int .i64 0, .int .i64 0, .bool false, .bool false, .int .i64 0, .int .u32 0, .int .i64 0, .int .i64 0, .int .i64 0, .int .i64 0, .int .i64 0]) rfl arpzv65 rfl) (fun g10 => ?_)
  refine TL.pstore (k := 0) (vs := x22.cells) rfl rfl rfl rfl rfl rfl rfl prssz65 (rs_cel.one _) (by show 17 ≤ 17; decide) (L' := [.blk g10 65 x22.cells, .row (.slice At tm.length ct) 3 1 tm.length (flat (ic .i64) tm), .row (.slice Al tt.length cl) 3 1 tt.length (flat (ic .i64) tt), .blk g5 28 u.cells, .blk g4 26 [.slice A1 es.length c1], .blk g3 23 [.slice A0 l.length c0]]) rfl ?_
  refine zET (TC.held (ls := #[Ff,Ff,Ff,Ff,Ff,Ff,Ff,Ff,Ff,Ff,Ff,Ff]) (Pm w [.blk g10 65 x22.cells]) (by kernel_rfl) rfl rfl (fun w hw => hw.drawn _) ?_)
  refine TH.tk 0 rfl rfl rfl (gives_move rfl rfl) (fun w1 hw => hw.pick [0] (by decide) rfl) ?_
  refine TH.tk 1 rfl rfl rfl (gF prsfld65_3) (fun w1 hw => hw.pick [0] (by decide) rfl) ?_
  refine TH.tk 2 rfl rfl rfl (gL 0 pcmag3) (fun w1 hw => hw.pick [0] (by decide) rfl) ?_
  refine TH.tk 5 rfl rfl rfl (gives_move rfl rfl) (fun w1 hw => hw.pick [0] (by decide) rfl) ?_
  refine TH.tk 6 rfl rfl rfl (gF prsfld65_7) (fun w1 hw => hw.pick [0] (by decide) rfl) ?_
  refine TH.tk 7 rfl rfl rfl (gL 0 pcmag3) (fun w1 hw => hw.pick [0] (by decide) rfl) ?_
  refine TH.two' (listed1 := #[Tt,Tt,Tt,Tt,Ff,Tt,Tt,Tt,Ff,Ff,Ff,Ff]) (listed2 := #[Tt,Tt,Tt,Ff,Ff,Tt,Tt,Tt,Tt,Ff,Ff,Ff]) 3 8 rfl rfl (by kernel_rfl) rfl rfl ?_ ?_
  ·refine TL.prowS (e := 3) (size := 1) (cs := flat (ic .i64) [x22.at_]) rfl rfl rfl rfl rfl (fun w => adtbs106_1_5377 _ w) (by decide) rfl (fun g27 => ?_)
   refine zE ?_
   refine TX.held (fun w1 hw => hw.pick [1] (by decide) rfl) ?_
   refine TH.two' (listed1 := #[Tt,Tt,Tt,Tt,Tt,Tt,Tt,Tt,Ff,Ff,Ff,Ff]) (listed2 := #[Tt,Tt,Tt,Tt,Ff,Tt,Tt,Tt,Tt,Ff,Ff,Ff]) 4 8 rfl rfl (by kernel_rfl) rfl rfl ?_ ?_
   ·refine TL.appendT (k := 2) rfl rfl rfl rfl Tryz.underlying106 adtel106 rfl rfl rfl (fun w1 hw => pm_reads hw (k := 0) rfl) (flat_one (ic_cel .i64) _) (by show _ * 8 ≤ _; omega) ((tm ++ [x22.at_]).length) (by rw [List.length_append]; rfl) (flat (ic .i64) (tm ++ [x22.at_])) ((flat_app _ _).symm) (fun A28 c28 hA281 hA282 => ?_)
    refine zE ?_
    refine TX.held (fun w1 hw => hw.pick [1] (by decide) rfl) ?_
    refine TH.only' 8 rfl (by kernel_rfl) rfl ?_
    refine TL.prowS (e := 3) (size := 1) (cs := flat (ic .i64) [x22.ttl]) rfl rfl rfl rfl rfl (fun w => adtbs106_1_5377 _ w) (by decide) rfl (fun g32 => ?_)
    refine zE ?_
    refine TX.held (fun w1 hw => hw.pick [2] (by decide) rfl) ?_
    refine TH.only' 9 rfl (by kernel_rfl) rfl ?_
    refine TL.appendT (k := 4) rfl rfl rfl rfl Tryz.underlying106 adtel106 rfl rfl rfl (fun w1 hw => pm_reads hw (k := 0) rfl) (flat_one (ic_cel .i64) _) (by show _ * 8 ≤ _; omega) ((tt ++ [x22.ttl]).length) (by rw [List.length_append]; rfl) (flat (ic .i64) (tt ++ [x22.ttl])) ((flat_app _ _).symm) (fun A33 c33 hA331 hA332 => ?_)
    refine zE ?_
    refine TX.he (fun w1 hw => hw.pick [2] (by decide) rfl) fun hS => ?_
    refine TH.t 10 rfl (gives_assign rfl rfl) hS ?_
    refine TH.t 11 rfl (gives_assign rfl rfl) hS ?_
    refine TH.done (by kernel_rfl) ?_
    refine zN (zT (zG (TL.v (gD ((i + 1 : Nat) : Int)) ?_)))
    refine TL.mv ?_
    refine zE ?_
    exact TX.round (⟨(i + 1, (A28, c28), (A33, c33), tm ++ [x22.at_], tt ++ [x22.ttl]), by dsimp only; omega, mapt_snoc (f := fun s : Rs => s.at_) hx22 hT, mapt_snoc (f := fun s : Rs => s.ttl) hx22 hL, hA281, hA282, hA331, hA332⟩) (by show l.length - (i + 1) < l.length - i; omega) ⟨rfl, rfl, rfl, rfl, rfl, rfl, rfl, rfl, trivial⟩ (fun w1 hw => hw.pick [3, 4, 5, 6, 7] (by decide) rfl)
   refine TL.prowS (e := 3) (size := 1) (cs := flat (ic .i64) [x22.ttl]) rfl rfl rfl rfl rfl (fun w => adtbs106_1_5377 _ w) (by decide) rfl (fun g32 => ?_)
   refine zE ?_
   refine TX.held (fun w1 hw => hw.pick [2] (by decide) rfl) ?_
   refine TH.only' 4 rfl (by kernel_rfl) rfl ?_
   refine TL.appendT (k := 3) rfl rfl rfl rfl Tryz.underlying106 adtel106 rfl rfl rfl (fun w1 hw => pm_reads hw (k := 1) rfl) (flat_one (ic_cel .i64) _) (by show _ * 8 ≤ _; omega) ((tm ++ [x22.at_]).length) (by rw [List.length_append]; rfl) (flat (ic .i64) (tm ++ [x22.at_])) ((flat_app _ _).symm) (fun A28 c28 hA281 hA282 => ?_)
   refine zE ?_
   refine TX.held (fun w1 hw => hw.pick [2] (by decide) rfl) ?_
   refine TH.only' 9 rfl (by kernel_rfl) rfl ?_
   refine TL.appendT (k := 4) rfl rfl rfl rfl Tryz.underlying106 adtel106 rfl rfl rfl (fun w1 hw => pm_reads hw (k := 0) rfl) (flat_one (ic_cel .i64) _) (by show _ * 8 ≤ _; omega) ((tt ++ [x22.ttl]).length) (by rw [List.length_append]; rfl) (flat (ic .i64) (tt ++ [x22.ttl])) ((flat_app _ _).symm) (fun A33 c33 hA331 hA332 => ?_)
   refine zE ?_
   refine TX.he (fun w1 hw => hw.pick [2] (by decide) rfl) fun hS => ?_
   refine TH.t 10 rfl (gives_assign rfl rfl) hS ?_
   refine TH.t 11 rfl (gives_assign rfl rfl) hS ?_
   refine TH.done (by kernel_rfl) ?_
   refine zN (zT (zG (TL.v (gD ((i + 1 : Nat) : Int)) ?_)))
   refine TL.mv ?_
   refine zE ?_
   exact TX.round (⟨(i + 1, (A28, c28), (A33, c33), tm ++ [x22.at_], tt ++ [x22.ttl]), by dsimp only; omega, mapt_snoc (f := fun s : Rs => s.at_) hx22 hT, mapt_snoc (f := fun s : Rs => s.ttl) hx22 hL, hA281, hA282, hA331, hA332⟩) (by show l.length - (i + 1) < l.length - i; omega) ⟨rfl, rfl, rfl, rfl, rfl, rfl, rfl, rfl, trivial⟩ (fun w1 hw => hw.pick [3, 4, 5, 6, 7] (by decide) rfl)
  refine TL.prowS (e := 3) (size := 1) (cs := flat (ic .i64) [x22.ttl]) rfl rfl rfl rfl rfl (fun w => adtbs106_1_5377 _ w) (by decide) rfl (fun g32 => ?_)
  refine zE ?_
  refine TX.held (fun w1 hw => hw.pick [1] (by decide) rfl) ?_
  refine TH.only' 3 rfl (by kernel_rfl) rfl ?_
  refine TL.prowS (e := 3) (size := 1) (cs := flat (ic .i64) [x22.at_]) rfl rfl rfl rfl rfl (fun w => adtbs106_1_5377 _ w) (by decide) rfl (fun g27 => ?_)
  refine zE ?_
  refine TX.held (fun w1 hw => hw.pick [2] (by decide) rfl) ?_
  refine TH.only' 4 rfl (by kernel_rfl) rfl ?_
  refine TL.appendT (k := 3) rfl rfl rfl rfl Tryz.underlying106 adtel106 rfl rfl rfl (fun w1 hw => pm_reads hw (k := 0) rfl) (flat_one (ic_cel .i64) _) (by show _ * 8 ≤ _; omega) ((tm ++ [x22.at_]).length) (by rw [List.length_append]; rfl) (flat (ic .i64) (tm ++ [x22.at_])) ((flat_app _ _).symm) (fun A28 c28 hA281 hA282 => ?_)
  refine zE ?_
  refine TX.held (fun w1 hw => hw.pick [2] (by decide) rfl) ?_
  refine TH.only' 9 rfl (by kernel_rfl) rfl ?_
  refine TL.appendT (k := 4) rfl rfl rfl rfl Tryz.underlying106 adtel106 rfl rfl rfl (fun w1 hw => pm_reads hw (k := 1) rfl) (flat_one (ic_cel .i64) _) (by show _ * 8 ≤ _; omega) ((tt ++ [x22.ttl]).length) (by rw [List.length_append]; rfl) (flat (ic .i64) (tt ++ [x22.ttl])) ((flat_app _ _).symm) (fun A33 c33 hA331 hA332 => ?_)
  refine zE ?_
  refine TX.he (fun w1 hw => hw.pick [2] (by decide) rfl) fun hS => ?_
  refine TH.t 10 rfl (gives_assign rfl rfl) hS ?_
  refine TH.t 11 rfl (gives_assign rfl rfl) hS ?_
  refine TH.done (by kernel_rfl) ?_
  refine zN (zT (zG (TL.v (gD ((i + 1 : Nat) : Int)) ?_)))
  refine TL.mv ?_
  refine zE ?_
  exact TX.round (⟨(i + 1, (A28, c28), (A33, c33), tm ++ [x22.at_], tt ++ [x22.ttl]), by dsimp only; omega, mapt_snoc (f := fun s : Rs => s.at_) hx22 hT, mapt_snoc (f := fun s : Rs => s.ttl) hx22 hL, hA281, hA282, hA331, hA332⟩) (by show l.length - (i + 1) < l.length - i; omega) ⟨rfl, rfl, rfl, rfl, rfl, rfl, rfl, rfl, trivial⟩ (fun w1 hw => hw.pick [3, 4, 5, 6, 7] (by decide) rfl)
 refine zET (zS (zd (zx (zX (zX (zM (zT (zS ?_))))))))
 have hT2 : l.map (fun s : Rs => s.at_) = tm := by rw [List.take_of_length_le (by omega)] at hT; exact hT
 have hL2 : l.map (fun s : Rs => s.ttl) = tt := by rw [List.take_of_length_le (by omega)] at hL; exact hL
 have html : tm.length = l.length := by rw [← hT2, List.length_map]
 have httl : tt.length = l.length := by rw [← hL2, List.length_map]
 refine zG (TL.mv ?_)
 refine TL.turnRowD (k := 0) (fun ys => SortedI tm ys) rfl rfl rfl rfl rfl Tryz.func124 (by decide) rfl rfl (fun w1 hw hr9 => sortInt hr9 rfl (by omega)) (fun sT hsT => ?_)
 try dsimp only [List.set_cons_zero, List.set_cons_succ]
 have hsTl : sT.length = tm.length := hsT.1.length_eq
 have hsTc : (cptG sT).length ≤ sT.length := cptG_le sT
 refine zET (zSG (TL.mv ?_))
 refine TL.turnRowD (k := 1) (fun ys => SortedI tt ys) rfl rfl rfl rfl rfl Tryz.func124 (by decide) rfl rfl (fun w1 hw hr9 => sortInt hr9 rfl (by omega)) (fun sL hsL => ?_)
 try dsimp only [List.set_cons_zero, List.set_cons_succ]
 have hsLl : sL.length = tt.length := hsL.1.length_eq
 have hsLc : (cptG sL).length ≤ sL.length := cptG_le sL
 refine zET (zS ?_)
 have hnT : IsNum (l.map (fun s : Rs => s.at_)) (cptG sT) := by rw [hT2]; exact isNum_of hsT
 have hnL : IsNum (l.map (fun s : Rs => s.ttl)) (cptG sL) := by rw [hL2]; exact isNum_of hsL
 refine zG (TL.mv ?_)
 refine TL.turnRow2 (q := 0) (ys := cptG sT) rfl rfl rfl rfl rfl Tryz.func139 (by decide) rfl rfl (fun w1 hw hr9 => compactInt hr9 (hsTl) (by omega)) ?_
 try dsimp only [List.set_cons_zero, List.set_cons_succ]
 refine TL.mv ?_
 refine TL.turnRow2 (q := 1) (ys := cptG sL) rfl rfl rfl rfl rfl Tryz.func139 (by decide) rfl rfl (fun w1 hw hr9 => compactInt hr9 (hsLl) (by omega)) ?_
 try dsimp only [List.set_cons_zero, List.set_cons_succ]
 refine TL.rn 2 rfl (zET ?_)
 obtain ⟨b44, o44, hA44, hbb44, hc44⟩ := hr.ad (by omega) (by decide)
 have hx44 := h0
 refine TC.join (α := Nat) (fun y => [(3, .pointer (some ⟨g3, 0, none⟩)), (4, .pointer (some ⟨g4, 0, none⟩)), (5, .pointer (some ⟨g5, 0, none⟩)), (7, .slice At ((cptG sT).length) ct), (8, .slice Al ((cptG sL).length) cl), (11, .pointer (some ⟨y, 0, none⟩))]) (fun y => Pm w [.blk y 34 [.int .i64 1, .int .i64 r0.v, .int .u32 r0.dst, .int .i64 r0.proto, .int .i64 r0.flow, .int .i64 0, .int .i64 0, .int .i64 0], .row (.slice At ((cptG sT).length) ct) 3 1 ((cptG sT).length) (flat (ic .i64) (cptG sT)), .row (.slice Al ((cptG sL).length) cl) 3 1 ((cptG sL).length) (flat (ic .i64) (cptG sL)), .blk g5 28 u.cells, .blk g4 26 [.slice A1 es.length c1], .blk g3 23 [.slice A0 l.length c0]]) ?_ ?_
 ·refine TC.held (ls := #[Ff,Ff,Ff,Ff,Ff,Ff,Ff,Ff,Ff,Ff,Ff]) (Pm w [.blk g3 23 [.slice A0 l.length c0]]) (by kernel_rfl) rfl rfl (fun w hw => hw.drawn _) ?_
  refine TH.tk 0 rfl rfl rfl (gL 0 aeaag23) (fun w1 hw => hw.pick [4] (by decide) rfl) ?_
  refine TH.tk 1 rfl rfl rfl (gA (i := 0) Tryz.underlying23 prssz65 rfl rfl rfl rfl hA44 (by omega)) (fun w1 hw => hw.pick [4] (by decide) rfl) ?_
  refine TH.tk 2 rfl rfl rfl (gR rs_cel prsag65 prssz65 hbb44 hx44 hc44) (fun w1 hw => hw.pick [4] (by decide) rfl) ?_
  refine TH.tk 4 rfl rfl rfl (gL 0 aeaag23) (fun w1 hw => hw.pick [4] (by decide) rfl) ?_
  refine TH.tk 5 rfl rfl rfl (gA (i := 0) Tryz.underlying23 prssz65 rfl rfl rfl rfl hA44 (by omega)) (fun w1 hw => hw.pick [4] (by decide) rfl) ?_
  refine TH.tk 6 rfl rfl rfl (gF prsfld65_6) (fun w1 hw => hw.pick [4] (by decide) rfl) ?_
  refine TH.tk 7 rfl rfl rfl (gS 6 rs_cel pcmag3 hbb44 hx44 hc44) (fun w1 hw => hw.pick [4] (by decide) rfl) ?_
  refine TH.two' (listed1 := #[Tt,Tt,Tt,Tt,Tt,Tt,Tt,Tt,Ff,Ff,Ff]) (listed2 := #[Tt,Tt,Tt,Ff,Tt,Tt,Tt,Tt,Ff,Tt,Ff]) 3 9 rfl rfl (by kernel_rfl) rfl rfl ?_ ?_
  ·refine TL.pcall1 (r := .agg ((trcR r0).cells).toArray) rfl rfl rfl rfl rfl Tryz.func135 (by decide) rfl (fun w1 hw => trc_any r0 w1) ?_
   refine zE ?_
   refine TX.he (fun w1 hw => hw.pick [4] (by decide) rfl) fun hS => ?_
   refine TH.t 8 rfl (gives_build (v := .agg #[.int .i64 1, .int .i64 ((trcR r0).v), .int .u32 ((trcR r0).dst), .int .i64 ((trcR r0).proto), .int .i64 r0.flow, .int .i64 0, .int .i64 0, .int .i64 0]) rfl rfl (fun w => asebld34_50680 _ _ _ _ _ w)) hS ?_
   refine TH.only' 9 rfl (by kernel_rfl) rfl ?_
   refine TL.pnew rfl rfl rfl (exec_alloc (cs := [.int .i64 0, .int .i64 0, .int .u32 0, .int .i64 0, .int .i64 0, .int .i64 0, .int .i64 0, .int .i64 0]) rfl asezv34 rfl) (fun g11 => ?_)
   refine zE ?_
   refine TX.held (fun w1 hw => hw.pick [5] (by decide) rfl) ?_
   refine TH.only' 10 rfl (by kernel_rfl) rfl ?_
   refine TL.pstore (k := 0) (vs := [.int .i64 1, .int .i64 ((trcR r0).v), .int .u32 ((trcR r0).dst), .int .i64 ((trcR r0).proto), .int .i64 r0.flow, .int .i64 0, .int .i64 0, .int .i64 0]) rfl rfl rfl rfl rfl rfl rfl abrsz34 aseone_i64i64u32i64i64i64i64i64 (by show 8 ≤ 8; decide) rfl ?_
   refine zE ?_
   refine TX.held (fun w1 hw => hw.pick [5] (by decide) rfl) ?_
   refine TH.done (by kernel_rfl) ?_
   exact TX.joined (g11) (⟨rfl, rfl, rfl, rfl, rfl, rfl, trivial⟩) (fun w1 hw => hw)
  refine TL.pnew rfl rfl rfl (exec_alloc (cs := [.int .i64 0, .int .i64 0, .int .u32 0, .int .i64 0, .int .i64 0, .int .i64 0, .int .i64 0, .int .i64 0]) rfl asezv34 rfl) (fun g11 => ?_)
  refine zE ?_
  refine TX.held (fun w1 hw => hw.pick [5] (by decide) rfl) ?_
  refine TH.only' 3 rfl (by kernel_rfl) rfl ?_
  refine TL.pcall1 (r := .agg ((trcR r0).cells).toArray) rfl rfl rfl rfl rfl Tryz.func135 (by decide) rfl (fun w1 hw => trc_any r0 w1) ?_
  refine zE ?_
  refine TX.he (fun w1 hw => hw.pick [5] (by decide) rfl) fun hS => ?_
  refine TH.t 8 rfl (gives_build (v := .agg #[.int .i64 1, .int .i64 ((trcR r0).v), .int .u32 ((trcR r0).dst), .int .i64 ((trcR r0).proto), .int .i64 r0.flow, .int .i64 0, .int .i64 0, .int .i64 0]) rfl rfl (fun w => asebld34_50680 _ _ _ _ _ w)) hS ?_
  refine TH.only' 10 rfl (by kernel_rfl) rfl ?_
  refine TL.pstore (k := 0) (vs := [.int .i64 1, .int .i64 ((trcR r0).v), .int .u32 ((trcR r0).dst), .int .i64 ((trcR r0).proto), .int .i64 r0.flow, .int .i64 0, .int .i64 0, .int .i64 0]) rfl rfl rfl rfl rfl rfl rfl abrsz34 aseone_i64i64u32i64i64i64i64i64 (by show 8 ≤ 8; decide) rfl ?_
  refine zE ?_
  refine TX.held (fun w1 hw => hw.pick [5] (by decide) rfl) ?_
  refine TH.done (by kernel_rfl) ?_
  exact TX.joined (g11) (⟨rfl, rfl, rfl, rfl, rfl, rfl, trivial⟩) (fun w1 hw => hw)
 rintro g11
 refine zSG (TL.v (gV 0 (.agg #[.int .i64 1, .int .i64 r0.v, .int .u32 r0.dst, .int .i64 r0.proto, .int .i64 r0.flow, .int .i64 0, .int .i64 0, .int .i64 0]) abrag34 abrsz34) ?_)
 refine TL.mv ?_
 refine TL.val rfl rfl rfl (gives_makeFunc rfl rfl rfl) ?_
 refine TL.call (α := {y : (Option Addr × Nat) × List Rp // EarB (fun t => bhF l u.los t) (cB r0) (cptG sT) y.2 ∧ y.2.length ≤ 1 ∧ y.2.length ≤ y.1.2 ∧ y.1.2 ≤ maxLen}) (r := fun y => .slice y.1.1.1 y.1.2.length y.1.1.2) (I' := fun y => Pm w [.row (.slice y.1.1.1 y.1.2.length y.1.1.2) 34 8 y.1.2.length (flat Rp.cells y.1.2), .row (.slice At ((cptG sT).length) ct) 3 1 ((cptG sT).length) (flat (ic .i64) (cptG sT)), .blk g11 34 [.int .i64 1, .int .i64 r0.v, .int .u32 r0.dst, .int .i64 r0.proto, .int .i64 r0.flow, .int .i64 0, .int .i64 0, .int .i64 0], .row (.slice Al ((cptG sL).length) cl) 3 1 ((cptG sL).length) (flat (ic .i64) (cptG sL)), .blk g5 28 u.cells, .blk g4 26 [.slice A1 es.length c1], .blk g3 23 [.slice A0 l.length c0]]) rfl rfl rfl rfl rfl Tryz.func140 (by decide) rfl (fun w1 hw => earliest_any w [.blk g11 34 [.int .i64 1, .int .i64 r0.v, .int .u32 r0.dst, .int .i64 r0.proto, .int .i64 r0.flow, .int .i64 0, .int .i64 0, .int .i64 0], .row (.slice Al ((cptG sL).length) cl) 3 1 ((cptG sL).length) (flat (ic .i64) (cptG sL)), .blk g5 28 u.cells, .blk g4 26 [.slice A1 es.length c1], .blk g3 23 [.slice A0 l.length c0]] At ct (cptG sT) (cB r0) (fun t => bhF l u.los t) 141 _ #[.pointer (some ⟨g3, 0, none⟩), .pointer (some ⟨g5, 0, none⟩)] w1 (hw.pick [1, 0, 2, 3, 4, 5] (by decide) rfl) (by omega) Tryz.func141 (by decide) rfl (fun t w1 ⟨L1, h9⟩ => by have h8 : Pm w [.blk g11 34 [.int .i64 1, .int .i64 r0.v, .int .u32 r0.dst, .int .i64 r0.proto, .int .i64 r0.flow, .int .i64 0, .int .i64 0, .int .i64 0], .row (.slice Al ((cptG sL).length) cl) 3 1 ((cptG sL).length) (flat (ic .i64) (cptG sL)), .blk g5 28 u.cells, .blk g4 26 [.slice A1 es.length c1], .blk g3 23 [.slice A0 l.length c0]] w1 := h9.sel (List.sublist_append_right L1 _); exact srch1_any A0 c0 l u t g3 g5 w1 (hr.up h8.bel) hl1 (Pc.lt (h8.at_ (k := 4) rfl) g3 rfl).2 (h8.cell (k := 4) rfl 0) (Pc.lt (h8.at_ (k := 2) rfl) g5 rfl).2 (h8.cell (k := 2) rfl 0))) ?_
 rintro ⟨⟨⟨R55, rc55⟩, o55⟩, hP55, hl55, hc55, hm55⟩
 dsimp only at hP55 hl55 hc55 hm55 ⊢
 refine TL.as_ ?_
 refine zET (zS (zS ?_))
 have hM0 := sa_start hP55 hnT.1 (fun t => rfl) (es := es)
 refine zG (TL.mv ?_)
 refine TL.v (gN Tryz.underlying106) ?_
 refine TL.mv ?_
 refine zET (zB ?_)
 refine TC.loop_ (α := {y : Nat × (Option Addr × Nat) × List Rp × Int × Int × Int // y.1 ≤ (cptG sL).length ∧ MinU (PrS es l u) (SA es r0 l (cptG sT) ((cptG sL).take y.1)) y.2.2.1 ∧ y.2.2.1.length ≤ 1 + 513 * y.1 ∧ y.2.2.1.length ≤ y.2.1.2 ∧ y.2.1.2 ≤ maxLen}) (fun y => [(3, .pointer (some ⟨g3, 0, none⟩)), (4, .pointer (some ⟨g4, 0, none⟩)), (5, .pointer (some ⟨g5, 0, none⟩)), (7, .slice At ((cptG sT).length) ct), (8, .slice Al ((cptG sL).length) cl), (11, .pointer (some ⟨g11, 0, none⟩)), (56, .slice Al ((cptG sL).length) cl), (57, .int .i64 ((cptG sL).length : Nat)), (58, .int .i64 ((y.1.1 : Nat) : Int)), (12, .slice y.1.2.1.1 y.1.2.2.1.length y.1.2.1.2)]) (fun y => Pm w [.row (.slice y.1.2.1.1 y.1.2.2.1.length y.1.2.1.2) 34 8 y.1.2.2.1.length (flat Rp.cells y.1.2.2.1), .row (.slice At ((cptG sT).length) ct) 3 1 ((cptG sT).length) (flat (ic .i64) (cptG sT)), .blk g11 34 [.int .i64 y.1.2.2.2.1, .int .i64 r0.v, .int .u32 r0.dst, .int .i64 r0.proto, .int .i64 r0.flow, .int .i64 y.1.2.2.2.2.1, .int .i64 0, .int .i64 y.1.2.2.2.2.2], .row (.slice Al ((cptG sL).length) cl) 3 1 ((cptG sL).length) (flat (ic .i64) (cptG sL)), .blk g5 28 u.cells, .blk g4 26 [.slice A1 es.length c1], .blk g3 23 [.slice A0 l.length c0]]) (fun y => (cptG sL).length - y.1.1) (⟨(0, (R55, rc55), o55, 1, 0, 0), Nat.zero_le _, by rw [List.take_zero]; exact hM0, by dsimp only; omega, hc55, hm55⟩) ⟨rfl, rfl, rfl, rfl, rfl, rfl, rfl, rfl, rfl, rfl, trivial⟩ (fun w1 hw => hw) ?_
 rintro ⟨⟨i2, ⟨Ao, co⟩, out, kd, tl, pv⟩, hi2, hM, hol, hoc, hom⟩
 dsimp only at hi2 hM hol hoc hom ⊢
 refine zSG ?_
 refine TL.sp bin_lss (fun q59 => ?_) (fun q59 => ?_)
 ·refine zET (zS (zc (zk (zT (zS (zB (zSG ?_)))))))
  refine TL.fact (p := ∃ g, Al = some ⟨g, 0, none⟩) (fun w1 hw => rowA hw (k := 3) rfl (by omega)) ?_
  rintro ⟨g_Al, rfl⟩
  have hi60 : i2 < (cptG sL).length := by omega
  obtain ⟨x60, hx60⟩ := ex_at hi60
  refine TL.val rfl rfl rfl (gA (i := i2) Tryz.underlying106 pcmsz3 rfl rfl rfl rfl rfl (by omega)) ?_
  refine TL.val rfl rfl rfl (gives_load (v := .int .i64 x60) rfl rfl pcmag3 (fun w1 hw => flat_row (ic_cel .i64) hw (q := 3) rfl hx60 0 _ rfl)) ?_
  refine TL.as_ ?_
  refine zET (zSG (TL.mv ?_))
  refine TL.v (gF arpfld34_3) ?_
  refine TL.pstore (k := 2) (vs := [.int .i64 x60]) rfl rfl rfl rfl rfl rfl rfl pcmsz3 aeaone_i64 (by show 6 ≤ 8; decide) rfl ?_
  refine TL.v (gF arpfld34_5) ?_
  refine TL.pstore (k := 2) (vs := [.int .i64 0]) rfl rfl rfl rfl rfl rfl rfl pcmsz3 aeaone_i64 (by show 8 ≤ 8; decide) rfl ?_
  refine TL.v (gF arpfld34_0) ?_
  refine TL.pstore (k := 2) (vs := [.int .i64 3]) rfl rfl rfl rfl rfl rfl rfl pcmsz3 aeaone_i64 (by show 1 ≤ 8; decide) rfl ?_
  refine zET (zSG (TL.v (gL 6 aeaag23) ?_))
  refine TL.mv ?_
  refine TL.pcallPm (α := {y : (Option Addr × Nat) × List Rs // y.2 = atL l x60 ∧ y.2.length ≤ y.1.2 ∧ y.1.2 ≤ maxLen}) (fun x => .slice x.1.1.1 x.1.2.length x.1.1.2) (fun x => [.row (.slice x.1.1.1 x.1.2.length x.1.1.2) 65 17 x.1.2.length (flat Rs.cells x.1.2)]) rfl rfl rfl rfl rfl Tryz.func77 (by decide) rfl (fun w1 hw => atl_any A0 c0 l x60 w1 (hr.up hw.bel) hl1) ?_
  rintro ⟨⟨⟨R68, rc68⟩, at68⟩, hP68, hR681, hR682⟩
  dsimp only [List.cons_append, List.nil_append]
  dsimp only at hP68 hR681 hR682 ⊢
  refine TL.pnew rfl rfl rfl (exec_alloc (cs := [.slice none 0 0]) rfl asezv23 rfl) (fun g15 => ?_)
  refine TL.pstore (k := 0) (vs := [.slice R68 at68.length rc68]) rfl rfl rfl rfl rfl rfl rfl asesz23 dntone_s (by show 1 ≤ 1; decide) rfl ?_
  refine zET (zS ?_)
  have hat : at68.length ≤ l.length := by rw [hP68]; exact List.length_filter_le _ _
  refine zG (TL.mv ?_)
  refine TL.v (gV 4 (.agg #[.int .i64 3, .int .i64 r0.v, .int .u32 r0.dst, .int .i64 r0.proto, .int .i64 r0.flow, .int .i64 x60, .int .i64 0, .int .i64 0]) abrag34 abrsz34) ?_
  refine TL.mv ?_
  refine TL.val rfl rfl rfl (gives_makeFunc rfl rfl rfl) ?_
  refine TL.call (α := {y : (Option Addr × Nat) × List Rp // EarB (fun t => pdec (u.prb < 1 ∨ CgF (eaL (atL l x60) t) (laL (atL l x60) t) u.prb u.gro)) (cC r0 x60) (cptG sT) y.2 ∧ y.2.length ≤ 1 ∧ y.2.length ≤ y.1.2 ∧ y.1.2 ≤ maxLen}) (r := fun y => .slice y.1.1.1 y.1.2.length y.1.1.2) (I' := fun y => Pm w [.row (.slice y.1.1.1 y.1.2.length y.1.1.2) 34 8 y.1.2.length (flat Rp.cells y.1.2), .row (.slice At ((cptG sT).length) ct) 3 1 ((cptG sT).length) (flat (ic .i64) (cptG sT)), .blk g15 23 [.slice R68 at68.length rc68], .row (.slice R68 at68.length rc68) 65 17 at68.length (flat Rs.cells at68), .row (.slice Ao out.length co) 34 8 out.length (flat Rp.cells out), .blk g11 34 [.int .i64 3, .int .i64 r0.v, .int .u32 r0.dst, .int .i64 r0.proto, .int .i64 r0.flow, .int .i64 x60, .int .i64 0, .int .i64 0], .row (.slice (some ⟨g_Al, 0, none⟩) ((cptG sL).length) cl) 3 1 ((cptG sL).length) (flat (ic .i64) (cptG sL)), .blk g5 28 u.cells, .blk g4 26 [.slice A1 es.length c1], .blk g3 23 [.slice A0 l.length c0]]) rfl rfl rfl rfl rfl Tryz.func140 (by decide) rfl (fun w1 hw => earliest_any w [.blk g15 23 [.slice R68 at68.length rc68], .row (.slice R68 at68.length rc68) 65 17 at68.length (flat Rs.cells at68), .row (.slice Ao out.length co) 34 8 out.length (flat Rp.cells out), .blk g11 34 [.int .i64 3, .int .i64 r0.v, .int .u32 r0.dst, .int .i64 r0.proto, .int .i64 r0.flow, .int .i64 x60, .int .i64 0, .int .i64 0], .row (.slice (some ⟨g_Al, 0, none⟩) ((cptG sL).length) cl) 3 1 ((cptG sL).length) (flat (ic .i64) (cptG sL)), .blk g5 28 u.cells, .blk g4 26 [.slice A1 es.length c1], .blk g3 23 [.slice A0 l.length c0]] At ct (cptG sT) (cC r0 x60) (fun t => pdec (u.prb < 1 ∨ CgF (eaL (atL l x60) t) (laL (atL l x60) t) u.prb u.gro)) 142 _ #[.pointer (some ⟨g15, 0, none⟩), .pointer (some ⟨g5, 0, none⟩)] w1 (hw.pick [3, 0, 1, 2, 4, 5, 6, 7, 8] (by decide) rfl) (by omega) Tryz.func142 (by decide) rfl (fun t w1 ⟨L1, h9⟩ => by have h8 : Pm w [.blk g15 23 [.slice R68 at68.length rc68], .row (.slice R68 at68.length rc68) 65 17 at68.length (flat Rs.cells at68), .row (.slice Ao out.length co) 34 8 out.length (flat Rp.cells out), .blk g11 34 [.int .i64 3, .int .i64 r0.v, .int .u32 r0.dst, .int .i64 r0.proto, .int .i64 r0.flow, .int .i64 x60, .int .i64 0, .int .i64 0], .row (.slice (some ⟨g_Al, 0, none⟩) ((cptG sL).length) cl) 3 1 ((cptG sL).length) (flat (ic .i64) (cptG sL)), .blk g5 28 u.cells, .blk g4 26 [.slice A1 es.length c1], .blk g3 23 [.slice A0 l.length c0]] w1 := h9.sel (List.sublist_append_right L1 _); exact (srch2_any R68 rc68 at68 u t g15 g5 w1 (pm_rd h8 (k := 1) rfl) (by omega) (fun r hr => hin r (mem_atL.1 (hP68 ▸ hr)).1) (Pc.lt (h8.at_ (k := 0) rfl) g15 rfl).2 (h8.cell (k := 0) rfl 0) (Pc.lt (h8.at_ (k := 5) rfl) g5 rfl).2 (fun j v hv => by rw [Nat.zero_add, h8.cell (k := 5) rfl j]; exact hv)).mono fun en w2 ⟨x, h1, h2⟩ => ⟨by rw [h1, pdec_of x.2, hP68], h2⟩)) ?_
  rintro ⟨⟨⟨R73, rc73⟩, o73⟩, hP73, hl73, hc73, hm73⟩
  dsimp only at hP73 hl73 hc73 hm73 ⊢
  refine TL.appendT (k := 4) rfl rfl rfl rfl Tryz.underlying49 aseel49 rfl rfl rfl (fun w1 hw => pm_reads hw (k := 0) rfl) (flat_one rp_cel _) (by show _ * 64 ≤ _; omega) ((out ++ o73).length) (List.length_append) (flat Rp.cells (out ++ o73)) ((flat_app _ _).symm) (fun A74 c74 hA741 hA742 => ?_)
  refine TL.as_ ?_
  refine zET (zS ?_)
  have hM1 := sb_start hM hx60 hnL.1 hP73 hnT.1 hu (fun t => pdec_iff)
  refine zG (TL.v (gL 2 aeaag23) ?_)
  refine TL.v (gV 8 (.agg #[.slice A1 es.length c1]) breag26 bresz26) ?_
  refine TL.pcallPm (α := {y : (Option Addr × Nat) × List Int // y.2 = at68.map (fun r : Rs => provR es r.src r.back) ∧ y.2.length ≤ y.1.2 ∧ y.1.2 ≤ maxLen}) (fun x => .slice x.1.1.1 x.1.2.length x.1.1.2) (fun x => [.row (.slice x.1.1.1 x.1.2.length x.1.1.2) 3 1 x.1.2.length (flat (ic .i64) x.1.2)]) rfl rfl rfl rfl rfl Tryz.func82 (by decide) rfl (fun w1 hw => providers_any R68 rc68 at68 A1 c1 es w1 (pm_rd hw (k := 3) rfl) (by omega) (hr1.up hw.bel)) ?_
  rintro ⟨⟨⟨R77, rc77⟩, pv77⟩, hP77, hR771, hR772⟩
  dsimp only [List.cons_append, List.nil_append]
  dsimp only at hP77 hR771 hR772 ⊢
  refine TL.pnew rfl rfl rfl (exec_alloc (cs := [.slice none 0 0]) rfl asezv106 rfl) (fun g16 => ?_)
  refine TL.pstore (k := 0) (vs := [.slice R77 pv77.length rc77]) rfl rfl rfl rfl rfl rfl rfl asesz106 dntone_s (by show 1 ≤ 1; decide) rfl ?_
  refine zET (zS ?_)
  have hpv : pv77.length = at68.length := by rw [hP77, List.length_map]
  refine zG (TL.v (gL 0 aeaag106) ?_)
  refine TL.pcallPm (α := {p : Option Addr × Nat // (pv77).length ≤ p.2 ∧ p.2 ≤ maxLen}) (fun x => .slice x.1.1 ((pv77).length) x.1.2) (fun x => [.row (.slice x.1.1 ((pv77).length) x.1.2) 3 1 ((pv77).length) (flat (ic .i64) pv77)]) rfl rfl rfl rfl rfl Tryz.func143 (by decide) rfl (fun w1 hw => cloneI_any R77 rc77 pv77 w1 (pm_rd hw (k := 1) rfl) (by omega)) ?_
  rintro ⟨⟨R79, rc79⟩, hR791, hR792⟩
  dsimp only [List.cons_append, List.nil_append]
  refine TL.as_ ?_
  refine zET (zSG (TL.mv ?_))
  refine TL.turnRowD (k := 0) (fun ys => SortedI pv77 ys) rfl rfl rfl rfl rfl Tryz.func124 (by decide) rfl rfl (fun w1 hw hr9 => sortInt hr9 rfl (by omega)) (fun sO hsO => ?_)
  try dsimp only [List.set_cons_zero, List.set_cons_succ]
  have hsOl : sO.length = pv77.length := hsO.1.length_eq
  have hsOc : (cptG sO).length ≤ sO.length := cptG_le sO
  refine zET (zS ?_)
  have hnO : IsNum ((atL l x60).map (fun r : Rs => provR es r.src r.back)) (cptG sO) := by rw [← hP68, ← hP77]; exact isNum_of hsO
  refine zG (TL.mv ?_)
  refine TL.turnRow2 (q := 0) (ys := cptG sO) rfl rfl rfl rfl rfl Tryz.func139 (by decide) rfl rfl (fun w1 hw hr9 => compactInt hr9 (hsOl) (by omega)) ?_
  try dsimp only [List.set_cons_zero, List.set_cons_succ]
  refine TL.v (gN Tryz.underlying106) ?_
  refine TL.mv ?_
  refine zET (zB ?_)
  refine TC.loop_ (α := {y : Nat × (Option Addr × Nat) × List Rp × Int × Int // y.1 ≤ (cptG sO).length ∧ MinU (PrS es l u) (SB es r0 l (cptG sT) ((cptG sL).take i2) x60 ((cptG sO).take y.1)) y.2.2.1 ∧ y.2.2.1.length ≤ 2 + 513 * i2 + y.1 ∧ y.2.2.1.length ≤ y.2.1.2 ∧ y.2.1.2 ≤ maxLen}) (fun y => [(3, .pointer (some ⟨g3, 0, none⟩)), (4, .pointer (some ⟨g4, 0, none⟩)), (5, .pointer (some ⟨g5, 0, none⟩)), (7, .slice At ((cptG sT).length) ct), (8, .slice (some ⟨g_Al, 0, none⟩) ((cptG sL).length) cl), (11, .pointer (some ⟨g11, 0, none⟩)), (56, .slice (some ⟨g_Al, 0, none⟩) ((cptG sL).length) cl), (57, .int .i64 ((cptG sL).length : Nat)), (58, .int .i64 ((i2 : Nat) : Int)), (14, .int .i64 x60), (15, .pointer (some ⟨g15, 0, none⟩)), (16, .pointer (some ⟨g16, 0, none⟩)), (83, .slice R79 ((cptG sO).length) rc79), (84, .int .i64 ((cptG sO).length : Nat)), (85, .int .i64 ((y.1.1 : Nat) : Int)), (12, .slice y.1.2.1.1 y.1.2.2.1.length y.1.2.1.2)]) (fun y => Pm w [.row (.slice R79 ((cptG sO).length) rc79) 3 1 ((cptG sO).length) (flat (ic .i64) (cptG sO)), .blk g16 106 [.slice R77 pv77.length rc77], .row (.slice R77 pv77.length rc77) 3 1 pv77.length (flat (ic .i64) pv77), .row (.slice R73 o73.length rc73) 34 8 o73.length (flat Rp.cells o73), .row (.slice At ((cptG sT).length) ct) 3 1 ((cptG sT).length) (flat (ic .i64) (cptG sT)), .blk g15 23 [.slice R68 at68.length rc68], .row (.slice R68 at68.length rc68) 65 17 at68.length (flat Rs.cells at68), .row (.slice y.1.2.1.1 y.1.2.2.1.length y.1.2.1.2) 34 8 y.1.2.2.1.length (flat Rp.cells y.1.2.2.1), .blk g11 34 [.int .i64 y.1.2.2.2.1, .int .i64 r0.v, .int .u32 r0.dst, .int .i64 r0.proto, .int .i64 r0.flow, .int .i64 x60, .int .i64 0, .int .i64 y.1.2.2.2.2], .row (.slice (some ⟨g_Al, 0, none⟩) ((cptG sL).length) cl) 3 1 ((cptG sL).length) (flat (ic .i64) (cptG sL)), .blk g5 28 u.cells, .blk g4 26 [.slice A1 es.length c1], .blk g3 23 [.slice A0 l.length c0]]) (fun y => (cptG sO).length - y.1.1) (⟨(0, (A74, c74), out ++ o73, 3, 0), Nat.zero_le _, by rw [List.take_zero]; exact hM1, by dsimp only; rw [List.length_append]; omega, hA741, hA742⟩) ⟨rfl, rfl, rfl, rfl, rfl, rfl, rfl, rfl, rfl, rfl, rfl, rfl, rfl, rfl, rfl, rfl, trivial⟩ (fun w1 hw => hw) ?_
  rintro ⟨⟨j, ⟨Ao2, co2⟩, out2, kd2, pv2⟩, hj, hM2, hol2, hoc2, hom2⟩
  dsimp only at hj hM2 hol2 hoc2 hom2 ⊢
  refine zSG ?_
  refine TL.sp bin_lss (fun q86 => ?_) (fun q86 => ?_)
  ·refine zET (zS (zc (zk (zT (zS (zB (zSG ?_)))))))
   refine TL.fact (p := ∃ g, R79 = some ⟨g, 0, none⟩) (fun w1 hw => rowA hw (k := 0) rfl (by omega)) ?_
   rintro ⟨g_R79, rfl⟩
   have hi87 : j < (cptG sO).length := by omega
   obtain ⟨x87, hx87⟩ := ex_at hi87
   refine TL.val rfl rfl rfl (gA (i := j) Tryz.underlying106 pcmsz3 rfl rfl rfl rfl rfl (by omega)) ?_
   refine TL.val rfl rfl rfl (gives_load (v := .int .i64 x87) rfl rfl pcmag3 (fun w1 hw => flat_row (ic_cel .i64) hw (q := 0) rfl hx87 0 _ rfl)) ?_
   refine TL.v (gF arpfld34_5) ?_
   refine TL.pstore (k := 8) (vs := [.int .i64 x87]) rfl rfl rfl rfl rfl rfl rfl pcmsz3 aeaone_i64 (by show 8 ≤ 8; decide) rfl ?_
   refine zET (zS (zSG (TL.v (gF arpfld34_5) ?_)))
   refine TL.v (gL 8 pcmag3) ?_
   refine TL.sp bin_eql (fun q92 => ?_) (fun q92 => ?_)
   ·refine zET (zc (zx (zX (zM (zT (zG (TL.v (gD ((j + 1 : Nat) : Int)) ?_)))))))
    refine TL.mv ?_
    refine zE ?_
    exact TX.round (⟨(j + 1, (Ao2, co2), out2, kd2, x87), by dsimp only; omega, sb_zero hM2 hx87 q92, by dsimp only; omega, hoc2, hom2⟩) (by show (cptG sO).length - (j + 1) < (cptG sO).length - j; omega) ⟨rfl, rfl, rfl, rfl, rfl, rfl, rfl, rfl, rfl, rfl, rfl, rfl, rfl, rfl, rfl, rfl, trivial⟩ (fun w1 hw => hw)
   refine zET (zd (zk (zT (zSG (TL.v (gF arpfld34_0) ?_)))))
   refine TL.pstore (k := 8) (vs := [.int .i64 2]) rfl rfl rfl rfl rfl rfl rfl pcmsz3 aeaone_i64 (by show 1 ≤ 8; decide) rfl ?_
   refine zET (zG (TL.mv ?_))
   refine TL.v (gV 8 (.agg #[.int .i64 2, .int .i64 r0.v, .int .u32 r0.dst, .int .i64 r0.proto, .int .i64 r0.flow, .int .i64 x60, .int .i64 0, .int .i64 x87]) abrag34 abrsz34) ?_
   refine TL.mv ?_
   refine TL.val rfl rfl rfl (gives_makeFunc rfl rfl rfl) ?_
   refine TL.call (α := {y : (Option Addr × Nat) × List Rp // EarB (fun t => pdec (DtF (fun r : Rs => provR es r.src r.back) (atL l x60) x87 t)) (cD r0 x60 x87) (cptG sT) y.2 ∧ y.2.length ≤ 1 ∧ y.2.length ≤ y.1.2 ∧ y.1.2 ≤ maxLen}) (r := fun y => .slice y.1.1.1 y.1.2.length y.1.1.2) (I' := fun y => Pm w [.row (.slice y.1.1.1 y.1.2.length y.1.1.2) 34 8 y.1.2.length (flat Rp.cells y.1.2), .row (.slice At ((cptG sT).length) ct) 3 1 ((cptG sT).length) (flat (ic .i64) (cptG sT)), .row (.slice (some ⟨g_R79, 0, none⟩) ((cptG sO).length) rc79) 3 1 ((cptG sO).length) (flat (ic .i64) (cptG sO)), .blk g16 106 [.slice R77 pv77.length rc77], .row (.slice R77 pv77.length rc77) 3 1 pv77.length (flat (ic .i64) pv77), .row (.slice R73 o73.length rc73) 34 8 o73.length (flat Rp.cells o73), .blk g15 23 [.slice R68 at68.length rc68], .row (.slice R68 at68.length rc68) 65 17 at68.length (flat Rs.cells at68), .row (.slice Ao2 out2.length co2) 34 8 out2.length (flat Rp.cells out2), .blk g11 34 [.int .i64 2, .int .i64 r0.v, .int .u32 r0.dst, .int .i64 r0.proto, .int .i64 r0.flow, .int .i64 x60, .int .i64 0, .int .i64 x87], .row (.slice (some ⟨g_Al, 0, none⟩) ((cptG sL).length) cl) 3 1 ((cptG sL).length) (flat (ic .i64) (cptG sL)), .blk g5 28 u.cells, .blk g4 26 [.slice A1 es.length c1], .blk g3 23 [.slice A0 l.length c0]]) rfl rfl rfl rfl rfl Tryz.func140 (by decide) rfl (fun w1 hw => earliest_any w [.row (.slice (some ⟨g_R79, 0, none⟩) ((cptG sO).length) rc79) 3 1 ((cptG sO).length) (flat (ic .i64) (cptG sO)), .blk g16 106 [.slice R77 pv77.length rc77], .row (.slice R77 pv77.length rc77) 3 1 pv77.length (flat (ic .i64) pv77), .row (.slice R73 o73.length rc73) 34 8 o73.length (flat Rp.cells o73), .blk g15 23 [.slice R68 at68.length rc68], .row (.slice R68 at68.length rc68) 65 17 at68.length (flat Rs.cells at68), .row (.slice Ao2 out2.length co2) 34 8 out2.length (flat Rp.cells out2), .blk g11 34 [.int .i64 2, .int .i64 r0.v, .int .u32 r0.dst, .int .i64 r0.proto, .int .i64 r0.flow, .int .i64 x60, .int .i64 0, .int .i64 x87], .row (.slice (some ⟨g_Al, 0, none⟩) ((cptG sL).length) cl) 3 1 ((cptG sL).length) (flat (ic .i64) (cptG sL)), .blk g5 28 u.cells, .blk g4 26 [.slice A1 es.length c1], .blk g3 23 [.slice A0 l.length c0]] At ct (cptG sT) (cD r0 x60 x87) (fun t => pdec (DtF (fun r : Rs => provR es r.src r.back) (atL l x60) x87 t)) 144 _ #[.pointer (some ⟨g15, 0, none⟩), .pointer (some ⟨g16, 0, none⟩), .pointer (some ⟨g11, 0, none⟩)] w1 (hw.pick [4, 0, 1, 2, 3, 5, 6, 7, 8, 9, 10, 11, 12] (by decide) rfl) (by omega) Tryz.func144 (by decide) rfl (fun t w1 ⟨L1, h9⟩ => by have h8 : Pm w [.row (.slice (some ⟨g_R79, 0, none⟩) ((cptG sO).length) rc79) 3 1 ((cptG sO).length) (flat (ic .i64) (cptG sO)), .blk g16 106 [.slice R77 pv77.length rc77], .row (.slice R77 pv77.length rc77) 3 1 pv77.length (flat (ic .i64) pv77), .row (.slice R73 o73.length rc73) 34 8 o73.length (flat Rp.cells o73), .blk g15 23 [.slice R68 at68.length rc68], .row (.slice R68 at68.length rc68) 65 17 at68.length (flat Rs.cells at68), .row (.slice Ao2 out2.length co2) 34 8 out2.length (flat Rp.cells out2), .blk g11 34 [.int .i64 2, .int .i64 r0.v, .int .u32 r0.dst, .int .i64 r0.proto, .int .i64 r0.flow, .int .i64 x60, .int .i64 0, .int .i64 x87], .row (.slice (some ⟨g_Al, 0, none⟩) ((cptG sL).length) cl) 3 1 ((cptG sL).length) (flat (ic .i64) (cptG sL)), .blk g5 28 u.cells, .blk g4 26 [.slice A1 es.length c1], .blk g3 23 [.slice A0 l.length c0]] w1 := h9.sel (List.sublist_append_right L1 _); exact (srch3_any R68 rc68 at68 R77 rc77 pv77 (fun r : Rs => provR es r.src r.back) x87 t g15 g16 g11 w1 (pm_rd h8 (k := 5) rfl) (by omega) (pm_rd h8 (k := 2) rfl) hP77 (Pc.lt (h8.at_ (k := 4) rfl) g15 rfl).2 (h8.cell (k := 4) rfl 0) (Pc.lt (h8.at_ (k := 1) rfl) g16 rfl).2 (h8.cell (k := 1) rfl 0) (Pc.lt (h8.at_ (k := 7) rfl) g11 rfl).2 (h8.cell (k := 7) rfl 7)).mono fun en w2 ⟨x, h1, h2⟩ => ⟨by rw [h1, pdec_of x.2, hP68], h2⟩)) ?_
   rintro ⟨⟨⟨R98, rc98⟩, o98⟩, hP98, hl98, hc98, hm98⟩
   dsimp only at hP98 hl98 hc98 hm98 ⊢
   refine TL.appendT (k := 8) rfl rfl rfl rfl Tryz.underlying49 aseel49 rfl rfl rfl (fun w1 hw => pm_reads hw (k := 0) rfl) (flat_one rp_cel _) (by show _ * 64 ≤ _; omega) ((out2 ++ o98).length) (List.length_append) (flat Rp.cells (out2 ++ o98)) ((flat_app _ _).symm) (fun A99 c99 hA991 hA992 => ?_)
   refine TL.as_ ?_
   refine zE (zN (zT (zG (TL.v (gD ((j + 1 : Nat) : Int)) ?_))))
   refine TL.mv ?_
   refine zE ?_
   exact TX.round (⟨(j + 1, (A99, c99), out2 ++ o98, 2, x87), by dsimp only; omega, sb_next hM2 hx60 hnL.1 hx87 hnO.1 q92 hP98 hnT.1 (fun t => pdec_iff), by dsimp only; rw [List.length_append]; omega, hA991, hA992⟩) (by show (cptG sO).length - (j + 1) < (cptG sO).length - j; omega) ⟨rfl, rfl, rfl, rfl, rfl, rfl, rfl, rfl, rfl, rfl, rfl, rfl, rfl, rfl, rfl, rfl, trivial⟩ (fun w1 hw => hw.pick [2, 3, 4, 5, 1, 6, 7, 8, 9, 10, 11, 12, 13] (by decide) rfl)
  refine zET (zS (zd (zx (zX (zX (zM (zN (zT (zG (TL.v (gD ((i2 + 1 : Nat) : Int)) ?_))))))))))
  refine TL.mv ?_
  refine zE ?_
  exact TX.round (⟨(i2 + 1, (Ao2, co2), out2, kd2, x60, pv2), by dsimp only; omega, sb_end hM2 (by omega) hnO hx60, by dsimp only; omega, hoc2, hom2⟩) (by show (cptG sL).length - (i2 + 1) < (cptG sL).length - i2; omega) ⟨rfl, rfl, rfl, rfl, rfl, rfl, rfl, rfl, rfl, rfl, trivial⟩ (fun w1 hw => hw.pick [7, 4, 8, 9, 10, 11, 12] (by decide) rfl)
 refine zET (zS (zd (zx (zX (zX (zM (zT (zSG (TL.rn 2 rfl (zET (zr ?_)))))))))))
 exact ret_tmp Tryz.results92 rfl (fun w1 hw => ⟨⟨((Ao, co), out), ⟨sa_end hM (by omega) hnT hnL hu, by dsimp only; omega⟩, hoc, hom⟩, rfl, hw.pick [0] (by decide) rfl⟩)
set_option maxRecDepth 20000
theorem ix_any {p : Rs → Bool} {l : List Rs} {z : Int} (h : IxOk p l z) : l.any p = decide (z ≥ 0) := by
 rcases h with ⟨rfl, h⟩ | ⟨i, rfl, _, _, y, hy, hp⟩
 ·rw [List.any_eq_false.2 fun r hr => by rw [h r hr]; decide]; rfl
 rw [List.any_eq_true.2 ⟨y, List.mem_of_getElem? hy, hp⟩]; exact (decide_eq_true (by omega)).symm
theorem fnd1_any (r : Rs) (w : World) :
  Calls Tryz.prog 87 #[.agg r.cells.toArray] w fun e w' => e = .returned (.bool (!vldRs r)) ∧ Below w.heap.size w w' := by
 refine begin_ (vs := [.agg r.cells.toArray]) Tryz.func87 rfl rfl rfl ?_ (Pm.start w)
 refine zSG ?_
 refine TL.pnew rfl rfl rfl (exec_box (cs := r.cells) rfl rfl rfl) (fun g1 => ?_)
 refine TL.as_ ?_
 refine zET (zSG (TL.v (gV 0 (.agg (r.cells).toArray) prsag65 prssz65) ?_))
 refine TL.callsplit rfl rfl rfl rfl rfl Tryz.func70 (by decide) rfl (fun w1 hw => vldRs_any r w1) (fun h4 => ?_) (fun h4 => ?_)
 ·refine TL.rn 2 rfl (zET (zr ?_))
  have hE : (!vldRs r) = false := (by simp [Bool.not_eq_true, h4])
  exact ret_tmp Tryz.results87 rfl (fun w1 hw => ⟨by rw [hE]; try rfl, hw.bel⟩)
 refine TL.rn 2 rfl (zET (zr ?_))
 have hE : (!vldRs r) = true := (by simp [Bool.not_eq_true, h4])
 exact ret_tmp Tryz.results87 rfl (fun w1 hw => ⟨by rw [hE]; try rfl, hw.bel⟩)
theorem ctG_any (A0 : Option Addr) (c0 : Nat) (l : List Rs) (p : Rs → Bool) (f : FuncId) (fn : Func) (cap : Array Value) (w : World) (hr : Reads w w.heap.size 17 A0 l.length (flat Rs.cells l)) (hl1 : l.length ≤ 100000) (hfn : Tryz.prog.funcs[f]? = some fn) (hnm : (fn.name == "runtime.NumGoroutine") = false) (hbd : fn.body.isNone = false) (hf : ∀ (x : Rs) (w1 : World), Below w.heap.size w w1 → Calls Tryz.prog f (#[] ++ [Value.agg x.cells.toArray].toArray ++ cap) w1 fun e w' => e = .returned (.bool (p x)) ∧ Below w1.heap.size w1 w') :
  Calls Tryz.prog 86 #[.slice A0 l.length c0, .func (.func f) #[] cap] w fun e w' => e = .returned (.bool (l.any p)) ∧ Below w.heap.size w w' := by
 refine begin_ (vs := [.slice A0 l.length c0, .func (.func f) #[] cap]) Tryz.func86 rfl rfl rfl ?_ (Pm.start w)
 refine zSG (TL.as_ ?_)
 refine zET (zSG (TL.rn 2 rfl ?_))
 refine TL.pcallPm (α := {z : Int // IxOk p l z}) (fun x => .int .i64 x.1) (fun x => []) rfl rfl rfl rfl rfl Tryz.func131 (by decide) rfl (fun w1 hw => (ixG_any A0 c0 l p f fn cap w1 (hr.up hw.bel) hl1 hfn hnm hbd (fun x w2 hb => hf x w2 (hw.bel.trans (hb.mono hw.bel.size)))).mono fun en w2 ⟨x, h1, h2⟩ => ⟨x, h1, (Pm.start w1).below h2⟩) ?_
 rintro ⟨z, hz⟩
 dsimp only [List.cons_append, List.nil_append]
 refine TL.sp bin_geq (fun q8 => ?_) (fun q8 => ?_)
 ·refine TL.as_ ?_
  refine zET (zr ?_)
  exact ret_tmp Tryz.results86 rfl (fun w1 hw => ⟨by rw [ix_any hz, decide_eq_true q8], hw.bel⟩)
 refine TL.as_ ?_
 refine zET (zr ?_)
 exact ret_tmp Tryz.results86 rfl (fun w1 hw => ⟨by rw [ix_any hz, decide_eq_false q8], hw.bel⟩)
theorem fnd_any (A0 : Option Addr) (c0 : Nat) (l : List Rs) (A1 : Option Addr) (c1 : Nat) (es : List En) (u : Ru) (w : World) (hr : Reads w w.heap.size 17 A0 l.length (flat Rs.cells l)) (hl1 : l.length ≤ 100000) (hok : ∀ r ∈ l, r.Ok) (hr1 : Reads w w.heap.size 5 A1 es.length (flat En.cells es)) :
  Calls Tryz.prog 39 #[.slice A0 l.length c0, .agg #[.slice A1 es.length c1], .agg u.cells.toArray] w fun e w' => ∃ y : {y : ((Option Addr × Nat) × List Rp) × Int // FndOk es l u y.1.2 y.2 ∧ y.1.2.length ≤ 100000000000 ∧ y.1.2.length ≤ y.1.1.2 ∧ y.1.1.2 ≤ maxLen}, e = .returned (.tuple #[.slice y.1.1.1.1 y.1.1.2.length y.1.1.1.2, .int .i64 y.1.2]) ∧ Pm w [.row (.slice y.1.1.1.1 y.1.1.2.length y.1.1.1.2) 34 8 y.1.1.2.length (flat Rp.cells y.1.1.2)] w' := by
 refine begin_ (vs := [.slice A0 l.length c0, .agg #[.slice A1 es.length c1], .agg u.cells.toArray]) Tryz.func39 rfl rfl rfl ?_ (Pm.start w)
 refine zSG ?_
 refine TL.pnew rfl rfl rfl (exec_box (cs := [.slice A1 es.length c1]) rfl rfl rfl) (fun g4 => ?_)
 refine TL.pnew rfl rfl rfl (exec_box (cs := u.cells) rfl rfl rfl) (fun g5 => ?_)
 refine TL.rn 2 rfl (zET (zS (zSG (TL.v (gV 0 (.agg (u.cells).toArray) aprag28 aprsz28) ?_))))
 refine TL.callsplit rfl rfl rfl rfl rfl Tryz.func24 (by decide) rfl (fun w1 hw => vldRu_any u w1) (fun h15 => ?_) (fun h15 => ?_)
 ·refine TL.rn 2 rfl (TL.ov (gV 1 (.agg #[.slice A1 es.length c1]) breag26 bresz26) ?_)
  refine TL.gu ?_
  refine TL.callsplit rfl rfl rfl rfl rfl Tryz.func84 (by decide) rfl (fun w1 hw => validR_any A1 c1 es w1 (hr1.up hw.bel)) (fun h19 => ?_) (fun h19 => ?_)
  ·refine TL.rn 4 rfl (TL.gu ?_)
   refine TL.callsplit rfl rfl rfl rfl rfl Tryz.func86 (by decide) rfl (fun w1 hw => ctG_any A0 c0 l (fun r : Rs => !vldRs r) 87 _ #[] w1 (hr.up hw.bel) hl1 Tryz.func87 (by decide) rfl (fun x w2 hb => fnd1_any x w2)) (fun h24 => ?_) (fun h24 => ?_)
   ·refine TL.pk ?_
    refine zET (zc (zSG (TL.rn 2 rfl (zET (zr (zR ?_))))))
    exact ret_pair (v1 := .slice none 0 0) (v2 := .int .i64 1) Tryz.results39 rfl rfl (fun w1 hw => ⟨⟨(((none, 0), []), 1), .inl ⟨rfl, rfl, fun h => by rw [List.any_eq_true] at h24; obtain ⟨r, hr, h9⟩ := h24; rw [h.1 r hr] at h9; cases h9⟩, Nat.zero_le _, Nat.le_refl _, Nat.zero_le _⟩, rfl, (hw.pick [] (by decide) rfl).nilrow _ _⟩)
   refine TL.pk ?_
   refine zET (zd (zk (zT (zS (zS ?_)))))
   have hva : ∀ r ∈ l, vldRs r = true := fun r hr => by rw [List.any_eq_false] at h24; have := h24 r hr; simpa using this
   have hprb : 1 ≤ u.prb := by have h9 := h15; unfold vldRu at h9; exact (of_decide_eq_true h9).2.2.1
   refine zG (TL.mv ?_)
   refine TL.pcallPm (α := {y : (Option Addr × Nat) × List Rs // IsOrd l y.2 ∧ y.2.length ≤ y.1.2 ∧ y.1.2 ≤ maxLen}) (fun x => .slice x.1.1.1 x.1.2.length x.1.1.2) (fun x => [.row (.slice x.1.1.1 x.1.2.length x.1.1.2) 65 17 x.1.2.length (flat Rs.cells x.1.2)]) rfl rfl rfl rfl rfl Tryz.func88 (by decide) rfl (fun w1 hw => ord_any A0 c0 l w1 (hr.up hw.bel) hl1 hok) ?_
   rintro ⟨⟨⟨R27, rc27⟩, o27⟩, hP27, hR271, hR272⟩
   dsimp only [List.cons_append, List.nil_append]
   dsimp only at hP27 hR271 hR272 ⊢
   refine TL.v (gN Tryz.underlying23) ?_
   refine TL.sp bin_gtr (fun q29 => ?_) (fun q29 => ?_)
   ·refine zET (zc (zSG (TL.rn 2 rfl (zET (zr (zR ?_))))))
    exact ret_pair (v1 := .slice none 0 0) (v2 := .int .i64 5) Tryz.results39 rfl rfl (fun w1 hw => ⟨⟨(((none, 0), []), 5), .inr (.inl ⟨rfl, rfl, ⟨hva, h19, h15⟩, o27, hP27, by omega⟩), Nat.zero_le _, Nat.le_refl _, Nat.zero_le _⟩, rfl, (hw.pick [] (by decide) rfl).nilrow _ _⟩)
   refine zET (zd (zk (zT (zS ?_))))
   have hol : o27.length ≤ 512 := by omega
   refine zG (TL.as_ ?_)
   refine zET (zS (zSG (TL.mv ?_)))
   refine TL.pcallPm (α := {y : (Option Addr × Nat) × List Trc // IsTrc l y.2 ∧ y.2.length ≤ y.1.2 ∧ y.1.2 ≤ maxLen}) (fun x => .slice x.1.1.1 x.1.2.length x.1.1.2) (fun x => [.row (.slice x.1.1.1 x.1.2.length x.1.1.2) 32 3 x.1.2.length (flat Trc.cells x.1.2)]) rfl rfl rfl rfl rfl Tryz.func89 (by decide) rfl (fun w1 hw => trs_any A0 c0 l w1 (hr.up hw.bel) hl1) ?_
   rintro ⟨⟨⟨R31, rc31⟩, tr31⟩, hP31, hR311, hR312⟩
   dsimp only [List.cons_append, List.nil_append]
   dsimp only at hP31 hR311 hR312 ⊢
   refine TL.v (gN Tryz.underlying128) ?_
   refine TL.mv ?_
   refine zET (zB (TC.nilrow 34 8 ?_))
   refine TC.loop_ (α := {y : Nat × (Option Addr × Nat) × List Rp // y.1 ≤ tr31.length ∧ MinU (PrP es l u) (FSA l (tr31.take y.1)) y.2.2 ∧ y.2.2.length ≤ 134480384 * y.1 ∧ y.2.2.length ≤ y.2.1.2 ∧ y.2.1.2 ≤ maxLen}) (fun y => [(0, .slice A0 l.length c0), (4, .pointer (some ⟨g4, 0, none⟩)), (5, .pointer (some ⟨g5, 0, none⟩)), (31, .slice R31 tr31.length rc31), (32, .int .i64 (tr31.length : Nat)), (33, .int .i64 ((y.1.1 : Nat) : Int)), (8, .slice y.1.2.1.1 y.1.2.2.length y.1.2.1.2)]) (fun y => Pm w [.row (.slice y.1.2.1.1 y.1.2.2.length y.1.2.1.2) 34 8 y.1.2.2.length (flat Rp.cells y.1.2.2), .row (.slice R31 tr31.length rc31) 32 3 tr31.length (flat Trc.cells tr31), .row (.slice R27 o27.length rc27) 65 17 o27.length (flat Rs.cells o27), .blk g5 28 u.cells, .blk g4 26 [.slice A1 es.length c1]]) (fun y => tr31.length - y.1.1) (⟨(0, (none, 0), []), Nat.zero_le _, fa_zero, Nat.zero_le _, Nat.le_refl _, Nat.zero_le _⟩) ⟨rfl, rfl, rfl, rfl, rfl, rfl, rfl, trivial⟩ (fun w1 hw => hw) ?_
   rintro ⟨⟨i, ⟨Ao, co⟩, out⟩, hi, hM, hos, hoc, hom⟩
   dsimp only at hi hM hos hoc hom ⊢
   have htl31 : tr31.length ≤ 512 := Nat.le_trans (trc_le hP31 hP27) hol
   refine zSG ?_
   refine TL.sp bin_lss (fun q34 => ?_) (fun q34 => ?_)
   ·refine zET (zS (zc (zk (zT (zS (zB (zSG ?_)))))))
    refine TL.fact (p := ∃ g, R31 = some ⟨g, 0, none⟩) (fun w1 hw => rowA hw (k := 1) rfl (by omega)) ?_
    rintro ⟨g_R31, rfl⟩
    have hi35 : i < tr31.length := by omega
    obtain ⟨x35, hx35⟩ := ex_at hi35
    refine TL.val rfl rfl rfl (gA (i := i) Tryz.underlying128 prssz32 rfl rfl rfl rfl rfl (by omega)) ?_
    refine TL.val rfl rfl rfl (gives_loadR (off := 0 + i * 3) rfl rfl pcpag32 prssz32 (trc_cel.len x35) (fun w1 hw j9 u9 h9 => flat_row trc_cel hw (q := 1) rfl hx35 j9 u9 h9)) ?_
    refine TL.pnew rfl rfl rfl (exec_alloc (cs := [.int .i64 0, .int .u32 0, .int .i64 0]) rfl prszv32 rfl) (fun g10 => ?_)
    refine TL.pstore (k := 0) (vs := x35.cells) rfl rfl rfl rfl rfl rfl rfl prssz32 (trc_cel.one _) (by show 3 ≤ 3; decide) (L' := [.blk g10 32 x35.cells, .row (.slice Ao out.length co) 34 8 out.length (flat Rp.cells out), .row (.slice (some ⟨g_R31, 0, none⟩) tr31.length rc31) 32 3 tr31.length (flat Trc.cells tr31), .row (.slice R27 o27.length rc27) 65 17 o27.length (flat Rs.cells o27), .blk g5 28 u.cells, .blk g4 26 [.slice A1 es.length c1]]) rfl ?_
    refine zET (zSG ?_)
    refine TL.mkmap rfl rfl rfl rfl (fun gm hgm => ?_)
    refine TL.as_ ?_
    refine zET (zSG (TL.mv ?_))
    refine TL.v (gV 1 (.agg (x35.cells).toArray) pcpag32 prssz32) ?_
    refine TL.pcallPm (α := {y : (Option Addr × Nat) × List Rs // IsOf l x35 y.2 ∧ y.2.length ≤ y.1.2 ∧ y.1.2 ≤ maxLen}) (fun x => .slice x.1.1.1 x.1.2.length x.1.1.2) (fun x => [.row (.slice x.1.1.1 x.1.2.length x.1.1.2) 65 17 x.1.2.length (flat Rs.cells x.1.2)]) rfl rfl rfl rfl rfl Tryz.func90 (by decide) rfl (fun w1 hw => of_any A0 c0 l x35 w1 (hr.up hw.bel) hl1 hok) ?_
    rintro ⟨⟨⟨R40, rc40⟩, of40⟩, hP40, hR401, hR402⟩
    dsimp only [List.cons_append, List.nil_append]
    dsimp only at hP40 hR401 hR402 ⊢
    refine TL.v (gN Tryz.underlying23) ?_
    refine TL.mv ?_
    refine zET (zB ?_)
    refine TC.loop_ (α := {y : Nat × (Option Addr × Nat) × List Rp × Obj // y.1 ≤ of40.length ∧ MinU (PrP es l u) (FSB l (tr31.take i) x35 (fls (of40.take y.1))) y.2.2.1 ∧ FlM y.2.2.2 (fls (of40.take y.1)) ∧ y.2.2.1.length ≤ 134480384 * i + 262657 * y.1 ∧ y.2.2.1.length ≤ y.2.1.2 ∧ y.2.1.2 ≤ maxLen}) (fun y => [(0, .slice A0 l.length c0), (4, .pointer (some ⟨g4, 0, none⟩)), (5, .pointer (some ⟨g5, 0, none⟩)), (10, .pointer (some ⟨g10, 0, none⟩)), (11, .map (some gm)), (31, .slice (some ⟨g_R31, 0, none⟩) tr31.length rc31), (32, .int .i64 (tr31.length : Nat)), (33, .int .i64 ((i : Nat) : Int)), (40, .slice R40 of40.length rc40), (41, .int .i64 (of40.length : Nat)), (42, .int .i64 ((y.1.1 : Nat) : Int)), (8, .slice y.1.2.1.1 y.1.2.2.1.length y.1.2.1.2)]) (fun y => Pm w [.row (.slice R40 of40.length rc40) 65 17 of40.length (flat Rs.cells of40), .oth gm y.1.2.2.2, .blk g10 32 x35.cells, .row (.slice y.1.2.1.1 y.1.2.2.1.length y.1.2.1.2) 34 8 y.1.2.2.1.length (flat Rp.cells y.1.2.2.1), .row (.slice (some ⟨g_R31, 0, none⟩) tr31.length rc31) 32 3 tr31.length (flat Trc.cells tr31), .row (.slice R27 o27.length rc27) 65 17 o27.length (flat Rs.cells o27), .blk g5 28 u.cells, .blk g4 26 [.slice A1 es.length c1]]) (fun y => of40.length - y.1.1) (⟨(0, (Ao, co), out, .map #[] 0), Nat.zero_le _, fb_start hM, by dsimp only; rw [List.take_zero]; exact FlM.new, by dsimp only; omega, hoc, hom⟩) ⟨rfl, rfl, rfl, rfl, rfl, rfl, rfl, rfl, rfl, rfl, rfl, rfl, trivial⟩ (fun w1 hw => hw) ?_
    rintro ⟨⟨j, ⟨Ao2, co2⟩, out2, om⟩, hj, hM2, hFl, hos2, hoc2, hom2⟩
    dsimp only at hj hM2 hFl hos2 hoc2 hom2 ⊢
    obtain ⟨fm, hmf, hff⟩ := id hFl
    have hofl : of40.length ≤ 512 := Nat.le_trans (of_le hP40 hP27) hol
    refine zSG ?_
    refine TL.sp bin_lss (fun q43 => ?_) (fun q43 => ?_)
    ·refine zET (zS (zc (zk (zT (zS (zB (zSG ?_)))))))
     refine TL.fact (p := ∃ g, R40 = some ⟨g, 0, none⟩) (fun w1 hw => rowA hw (k := 0) rfl (by omega)) ?_
     rintro ⟨g_R40, rfl⟩
     have hi44 : j < of40.length := by omega
     obtain ⟨x44, hx44⟩ := ex_at hi44
     refine TL.val rfl rfl rfl (gA (i := j) Tryz.underlying23 prssz65 rfl rfl rfl rfl rfl (by omega)) ?_
     refine TL.val rfl rfl rfl (gives_loadR (off := 0 + j * 17) rfl rfl prsag65 prssz65 (rs_cel.len x44) (fun w1 hw j9 u9 h9 => flat_row rs_cel hw (q := 0) rfl hx44 j9 u9 h9)) ?_
     refine TL.pnew rfl rfl rfl (exec_alloc (cs := [.int .i64 0, .int .i64 0, .int .i64 0, .int .i64 0, .int .u32 0, .int .i64 0, .int .i64 0, .int .i64 0, .bool false, .bool false, .int .i64 0, .int .u32 0, .int .i64 0, .int .i64 0, .int .i64 0, .int .i64 0, .int .i64 0]) rfl arpzv65 rfl) (fun g13 => ?_)
     refine TL.pstore (k := 0) (vs := x44.cells) rfl rfl rfl rfl rfl rfl rfl prssz65 (rs_cel.one _) (by show 17 ≤ 17; decide) (L' := [.blk g13 65 x44.cells, .row (.slice (some ⟨g_R40, 0, none⟩) of40.length rc40) 65 17 of40.length (flat Rs.cells of40), .oth gm om, .blk g10 32 x35.cells, .row (.slice Ao2 out2.length co2) 34 8 out2.length (flat Rp.cells out2), .row (.slice (some ⟨g_R31, 0, none⟩) tr31.length rc31) 32 3 tr31.length (flat Trc.cells tr31), .row (.slice R27 o27.length rc27) 65 17 o27.length (flat Rs.cells o27), .blk g5 28 u.cells, .blk g4 26 [.slice A1 es.length c1]]) rfl ?_
     refine zET (zS (zS ?_))
     have hv44 : vldRs x44 = true := by have h9 := List.mem_of_getElem? hx44; obtain ⟨o9, h10, rfl⟩ := hP40; exact ((h10.2 x44).1 (List.mem_filter.1 h9).1).2
     obtain ⟨mb, hmb⟩ : ∃ b, decide (x44.flow ∈ fls (of40.take j)) = b := ⟨_, rfl⟩
     refine zG (TL.mv ?_)
     refine TL.v (gF prsfld65_6) ?_
     refine TL.v (gL 0 pcmag3) ?_
     refine TL.val rfl rfl rfl (gives_lookG (i := 2) (a := x44.flow) (v := .bool mb) rfl rfl rfl (mkey_int Tryz.underlying3) Tryz.underlying130 (fun w => rfl) rfl hmf (wf_flow hv44) (by rw [hff _ (wf_flow hv44), hmb])) ?_
     refine TL.mv ?_
     cases mb with
     | true =>
      refine TL.rn 4 rfl (zET (zc (zx (zX (zM (zT (zG (TL.v (gD ((j + 1 : Nat) : Int)) ?_))))))))
      refine TL.mv ?_
      refine zE ?_
      exact TX.round (⟨(j + 1, (Ao2, co2), out2, om), by dsimp only; omega, (fb_skip hM2 hx44 (.inl (of_decide_eq_true hmb))).2, hFl.same (fb_skip hM2 hx44 (.inl (of_decide_eq_true hmb))).1, by dsimp only; omega, hoc2, hom2⟩) (by show of40.length - (j + 1) < of40.length - j; omega) ⟨rfl, rfl, rfl, rfl, rfl, rfl, rfl, rfl, rfl, rfl, rfl, rfl, trivial⟩ (fun w1 hw => hw.pick [1, 2, 3, 4, 5, 6, 7, 8] (by decide) rfl)
     | false =>
      refine TL.ov (gV 0 (.agg (x44.cells).toArray) prsag65 prssz65) ?_
      refine TL.gu ?_
      refine TL.callsplit rfl rfl rfl rfl rfl Tryz.func91 (by decide) rfl (fun w1 hw => usbRs_any x44 w1) (fun h52 => ?_) (fun h52 => ?_)
      ·refine TL.rn 2 rfl (zET (zd (zk (zT (zS ?_)))))
       have hu44 : usbRs x44 = true := h52
       have hnm44 : x44.flow ∉ fls (of40.take j) := of_decide_eq_false hmb
       refine zG (TL.mv ?_)
       refine TL.v (gF prsfld65_6) ?_
       refine TL.v (gL 0 pcmag3) ?_
       refine TL.mapsetG (i := 2) rfl rfl rfl rfl rfl rfl (mkey_int Tryz.underlying3) Tryz.underlying130 rfl hgm hmf (wf_flow hv44) (fun ob2 hm2 => ?_)
       try dsimp only [List.set_cons_zero, List.set_cons_succ]
       have hFl2 := FlM.set hff hm2
       refine zET (TC.held (ls := #[Ff,Ff,Ff,Ff,Ff,Ff,Ff,Ff,Ff,Ff,Ff]) (Pm w [.blk g13 65 x44.cells, .blk g10 32 x35.cells, .blk g5 28 u.cells, .blk g4 26 [.slice A1 es.length c1]]) (by kernel_rfl) rfl rfl (fun w hw => hw.drawn _) ?_)
       refine TH.tk 0 rfl rfl rfl (gives_move rfl rfl) (fun w1 hw => hw.pick [0, 3, 7, 8] (by decide) rfl) ?_
       refine TH.tk 1 rfl rfl rfl (gives_move rfl rfl) (fun w1 hw => hw.pick [0, 3, 7, 8] (by decide) rfl) ?_
       refine TH.tk 2 rfl rfl rfl (gV 1 (.agg (x35.cells).toArray) pcpag32 prssz32) (fun w1 hw => hw.pick [0, 3, 7, 8] (by decide) rfl) ?_
       refine TH.tk 3 rfl rfl rfl (gF prsfld65_6) (fun w1 hw => hw.pick [0, 3, 7, 8] (by decide) rfl) ?_
       refine TH.tk 4 rfl rfl rfl (gL 0 pcmag3) (fun w1 hw => hw.pick [0, 3, 7, 8] (by decide) rfl) ?_
       refine TH.tk 6 rfl rfl rfl (gV 3 (.agg #[.slice A1 es.length c1]) breag26 bresz26) (fun w1 hw => hw.pick [0, 3, 7, 8] (by decide) rfl) ?_
       refine TH.tk 7 rfl rfl rfl (gV 2 (.agg (u.cells).toArray) aprag28 aprsz28) (fun w1 hw => hw.pick [0, 3, 7, 8] (by decide) rfl) ?_
       refine TH.only' 5 rfl (by kernel_rfl) rfl ?_
       refine TL.pcallPm (α := {y : (Option Addr × Nat) × List Rs // IsSt l x35 x44.flow y.2 ∧ y.2.length ≤ y.1.2 ∧ y.1.2 ≤ maxLen}) (fun x => .slice x.1.1.1 x.1.2.length x.1.1.2) (fun x => [.row (.slice x.1.1.1 x.1.2.length x.1.1.2) 65 17 x.1.2.length (flat Rs.cells x.1.2)]) rfl rfl rfl rfl rfl Tryz.func73 (by decide) rfl (fun w1 hw => stream_any A0 c0 l x35 x44.flow w1 (hr.up hw.bel) hl1 hok) ?_
       rintro ⟨⟨⟨R63, rc63⟩, st63⟩, hP63, hR631, hR632⟩
       dsimp only [List.cons_append, List.nil_append]
       dsimp only at hP63 hR631 hR632 ⊢
       have hstl : st63.length ≤ 512 := Nat.le_trans (hP63.leo hP27) hol
       have hin63 := stream_ne hP40 hx44 hu44 hP63
       obtain ⟨r0, hr0⟩ : ∃ r0, st63[0]? = some r0 := ⟨_, List.getElem?_eq_getElem (List.length_pos_of_mem hin63)⟩
       refine zE ?_
       refine TX.held (fun w1 hw => hw.pick [1, 4, 8, 9] (by decide) rfl) ?_
       refine TH.only' 8 rfl (by kernel_rfl) rfl ?_
       refine TL.pcallPm (α := {y : (Option Addr × Nat) × List Rp // (MinU (PrS es st63 u) (TmS r0 st63) y.2 ∧ y.2.length ≤ 262657) ∧ y.2.length ≤ y.1.2 ∧ y.1.2 ≤ maxLen}) (fun x => .slice x.1.1.1 x.1.2.length x.1.1.2) (fun x => [.row (.slice x.1.1.1 x.1.2.length x.1.1.2) 34 8 x.1.2.length (flat Rp.cells x.1.2)]) rfl rfl rfl rfl rfl Tryz.func92 (by decide) rfl (fun w1 hw => search_any R63 rc63 st63 A1 c1 es u r0 w1 (pm_rd hw (k := 0) rfl) (by omega) (hr1.up hw.bel) hstl hr0 (fun r hr => vld_in (hva r ((hP63.mem r).1 hr).1)) hprb) ?_
       rintro ⟨⟨⟨R66, rc66⟩, o66⟩, hP66, hR661, hR662⟩
       dsimp only [List.cons_append, List.nil_append]
       dsimp only at hP66 hR661 hR662 ⊢
       refine zE ?_
       refine TX.held (fun w1 hw => hw.pick [2, 5, 9, 10] (by decide) rfl) ?_
       refine TH.only' 9 rfl (by kernel_rfl) rfl ?_
       refine TL.appendT (k := 6) rfl rfl rfl rfl Tryz.underlying49 aseel49 rfl rfl rfl (fun w1 hw => pm_reads hw (k := 0) rfl) (flat_one rp_cel _) (by show _ * 64 ≤ _; omega) ((out2 ++ o66).length) (List.length_append) (flat Rp.cells (out2 ++ o66)) ((flat_app _ _).symm) (fun A67 c67 hA671 hA672 => ?_)
       refine zE ?_
       refine TX.he (fun w1 hw => hw.pick [2, 5, 9, 10] (by decide) rfl) fun hS => ?_
       refine TH.t 10 rfl (gives_assign rfl rfl) hS ?_
       refine TH.done (by kernel_rfl) ?_
       refine zN (zT (zG (TL.v (gD ((j + 1 : Nat) : Int)) ?_)))
       refine TL.mv ?_
       refine zE ?_
       exact TX.round (⟨(j + 1, (A67, c67), out2 ++ o66, ob2), by dsimp only; omega, fb_step hM2 hx35 hP31 hx44 hu44 hnm44 hP63 hr0 h15 h19 hP66.1, by dsimp only; rw [fls_snoc_t hx44 hu44]; exact hFl2, by dsimp only; rw [List.length_append]; omega, hA671, hA672⟩) (by show of40.length - (j + 1) < of40.length - j; omega) ⟨rfl, rfl, rfl, rfl, rfl, rfl, rfl, rfl, rfl, rfl, rfl, rfl, trivial⟩ (fun w1 hw => hw.pick [3, 4, 5, 6, 7, 8, 9, 10] (by decide) rfl)
      refine TL.rn 2 rfl (zET (zc (zx (zX (zM (zT (zG (TL.v (gD ((j + 1 : Nat) : Int)) ?_))))))))
      refine TL.mv ?_
      refine zE ?_
      exact TX.round (⟨(j + 1, (Ao2, co2), out2, om), by dsimp only; omega, (fb_skip hM2 hx44 (.inr h52)).2, hFl.same (fb_skip hM2 hx44 (.inr h52)).1, by dsimp only; omega, hoc2, hom2⟩) (by show of40.length - (j + 1) < of40.length - j; omega) ⟨rfl, rfl, rfl, rfl, rfl, rfl, rfl, rfl, rfl, rfl, rfl, rfl, trivial⟩ (fun w1 hw => hw.pick [1, 2, 3, 4, 5, 6, 7, 8] (by decide) rfl)
    refine zET (zS (zd (zx (zX (zX (zM (zN (zT (zG (TL.v (gD ((i + 1 : Nat) : Int)) ?_))))))))))
    refine TL.mv ?_
    refine zE ?_
    exact TX.round (⟨(i + 1, (Ao2, co2), out2), by dsimp only; omega, fb_end hM2 (by omega) hP40 hx35, by dsimp only; omega, hoc2, hom2⟩) (by show tr31.length - (i + 1) < tr31.length - i; omega) ⟨rfl, rfl, rfl, rfl, rfl, rfl, rfl, trivial⟩ (fun w1 hw => hw.pick [3, 4, 5, 6, 7] (by decide) rfl)
   refine zET (zS (zd (zx (zX (zX (zM (zT (zSG (TL.mv ?_)))))))))
   refine TL.turnRowD (k := 0) (fun ys => Sorted cmpRp out ys) rfl rfl rfl rfl rfl Tryz.func93 (by decide) rfl rfl (fun w1 hw hr9 => sortRp hr9 (rfl) (by omega)) (fun srt71 hS71 => ?_)
   try dsimp only [List.set_cons_zero, List.set_cons_succ]
   refine zET (zSG (TL.rn 3 rfl (zET (zr ?_))))
   have hfe := fa_end hM (by omega) hP31 hS71
   have hsl := hS71.1.length_eq
   exact ret_pair (v1 := .slice Ao out.length co) (v2 := .int .i64 0) Tryz.results39 rfl rfl (fun w1 hw => ⟨⟨(((Ao, co), srt71), 0), .inr (.inr ⟨rfl, hfe, ⟨hva, h19, h15⟩, o27, hP27, hol⟩), by dsimp only; omega, by dsimp only; omega, hom⟩, (by dsimp only; rw [hsl]), (by dsimp only; rw [hsl]; exact hw.pick [0] (by decide) rfl)⟩)
  refine TL.rn 6 rfl (zET (zc (zSG (TL.rn 2 rfl (zET (zr (zR ?_)))))))
  exact ret_pair (v1 := .slice none 0 0) (v2 := .int .i64 1) Tryz.results39 rfl rfl (fun w1 hw => ⟨⟨(((none, 0), []), 1), .inl ⟨rfl, rfl, fun h => by have h9 := h.2.1; rw [h19] at h9; cases h9⟩, Nat.zero_le _, Nat.le_refl _, Nat.zero_le _⟩, rfl, (hw.pick [] (by decide) rfl).nilrow _ _⟩)
 refine TL.rn 10 rfl (zET (zc (zSG (TL.rn 2 rfl (zET (zr (zR ?_)))))))
 exact ret_pair (v1 := .slice none 0 0) (v2 := .int .i64 1) Tryz.results39 rfl rfl (fun w1 hw => ⟨⟨(((none, 0), []), 1), .inl ⟨rfl, rfl, fun h => by have h9 := h.2.2; rw [h15] at h9; cases h9⟩, Nat.zero_le _, Nat.le_refl _, Nat.zero_le _⟩, rfl, (hw.pick [] (by decide) rfl).nilrow _ _⟩)
section
variable {P : Program} {N : Fr} {E : Env} {o : Oper} {I : World → Prop}
theorem gives_fieldV {t : TypeId} {x : Operand} {i : Nat} {vx v : Value} (ho : o.op = .field t x i) (hx : ev E x = some vx) (hv : ∀ w : World, (Instr.field t vx i).run P w = .ok v w) : Gives P N o E I v := fun a w ha _ => by
  unfold execOp; rw [ho]
  simp only [ha.eval hx, Sem.run_bind, hv, Result.andThen_ok, Sem.run_pure]
end
end Go.Proofs.YtijmpjfafpodhaaGreat
