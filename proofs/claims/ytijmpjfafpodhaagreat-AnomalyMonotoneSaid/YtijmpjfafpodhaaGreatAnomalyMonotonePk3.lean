/-
  Texts of the proof, joined: BdReg, AnDt, AnD2, CgLaw, AnCg, AnBr, AnC2, AnPr, DcDraw, DcNet, AnDr, AnMin, FnLaw, FnLaw2, AnEa, AnSrt, FnLaw3, AnLaw, AwLaw, BdRef, Bits, BdBit, BdRR, AnRD, SymMapV, FnLaw4, AnCl, PtCpI.
-/
import Derived.Test.YtijmpjfafpodhaaGreatAnomalyMonotonePk2
import Derived.Sort.OwnSortedInts
import Derived.Test.YtijmpjfafpodhaaGreatAnomalyMonotonePk1
import Derived.Shelf.SortM.Plain
import Derived.Shelf.SortM.SortNone
import Derived.Laws.BitsAllLaws
import Derived.Laws.BitsLemmas
set_option linter.unusedVariables false
set_option linter.unusedSimpArgs false
namespace Go.Proofs.YtijmpjfafpodhaaGreat
set_option maxHeartbeats 1000000
open Go.RowKit
set_option maxRecDepth 20000
structure En where
 addr : Int
 len : Int
 prov : Int
 frm : Int
 to_ : Int
deriving DecidableEq
def En.cells (r : En) : List Value := [.int .u32 r.addr, .int .i64 r.len, .int .i64 r.prov, .int .i64 r.frm, .int .i64 r.to_]
theorem en_cel : Cel En.cells 5 := ⟨fun _ => rfl, fun r u hu => by
 simp only [En.cells, List.mem_cons, List.not_mem_nil, or_false] at hu
 rcases hu with rfl | rfl | rfl | rfl | rfl <;> rfl⟩
def En.zero : En := ⟨0, 0, 0, 0, 0⟩
def validE (e : En) : Bool := vldP e.addr e.len && decide (1 ≤ e.prov) && decide (e.prov ≤ 2147483647) && decide (0 ≤ e.frm) && decide (e.frm < e.to_) && decide (e.to_ ≤ 1125899906842624)
def badP (b x : En) : Bool := decide (cmpP b.addr b.len x.addr x.len > 0) || (decide (cmpP b.addr b.len x.addr x.len = 0) && decide (x.frm < b.to_))
def okAt (es : List En) (i : Nat) : Bool := match es[i]? with
 | none => true
 | some x => validE x && (decide (i = 0) || match es[i - 1]? with
  | none => true
  | some b => !badP b x)
def validR (es : List En) : Bool := decide (es.length ≤ 1024) && (List.range es.length).all (okAt es)
theorem okAt_bad {es : List En} {i : Nat} {x : En} (hx : es[i]? = some x) (h : validE x = false) : okAt es i = false := by simp [okAt, hx, h]
theorem okAt_zero {es : List En} {x : En} {i : Nat} (hi : i = 0) (hx : es[i]? = some x) (h : validE x = true) : okAt es i = true := by subst hi; simp [okAt, hx, h]
theorem okAt_pair {es : List En} {x b : En} {i : Nat} {t : Bool} (hi : ¬ i = 0) (hx : es[i]? = some x) (hb : es[i - 1]? = some b) (h : validE x = true) (ht : badP b x = !t) : okAt es i = t := by simp [okAt, hx, hb, h, hi, ht]
theorem validR_true {es : List En} (hl : es.length ≤ 1024) (h : ∀ j, j < es.length → okAt es j = true) : validR es = true := by
 simp only [validR, Bool.and_eq_true, decide_eq_true_eq, List.all_eq_true, List.mem_range]
 exact ⟨hl, h⟩
theorem validR_false {es : List En} {i : Nat} (hi : i < es.length) (h : okAt es i = false) : validR es = false := by
 cases hv : validR es with
 | false => rfl
 | true =>
  simp only [validR, Bool.and_eq_true, decide_eq_true_eq, List.all_eq_true, List.mem_range] at hv
  rw [hv.2 i hi] at h; cases h
theorem validR_len {es : List En} (h : validR es = true) : es.length ≤ 1024 := by
 simp only [validR, Bool.and_eq_true, decide_eq_true_eq] at h
 exact h.1
def fitsE (a t : Int) (p : En × Bool) (e : En) : Bool := decide (e.frm ≤ t) && decide (t < e.to_) && (!p.2 || decide (e.len > p.1.len)) && hasP e.addr e.len a
def stepL (a t : Int) (p : En × Bool) (e : En) : En × Bool := if fitsE a t p e then (e, true) else p
def lookR (es : List En) (a t : Int) : En × Bool := es.foldl (stepL a t) (En.zero, false)
theorem lookR_snoc {es : List En} {a t : Int} {i : Nat} {x : En} {p : En × Bool} (hx : es[i]? = some x) (hp : lookR (es.take i) a t = p) : lookR (es.take (i + 1)) a t = if fitsE a t p x then (x, true) else p := by
 unfold lookR at hp ⊢
 rw [List.take_add_one, hx, List.foldl_append, hp]
 rfl
def lookV (es : List En) (a t : Int) : En × Bool := if validR es then lookR es a t else (En.zero, false)
def provR (es : List En) (a t : Int) : Int := (lookV es a t).1.prov
theorem brefld102_0 : FA Tryz.prog 102 0 0 := fun g o w => by kernel_rfl
theorem brefld102_1 : FA Tryz.prog 102 1 2 := fun g o w => by kernel_rfl
theorem brefld102_2 : FA Tryz.prog 102 2 3 := fun g o w => by kernel_rfl
theorem brefld102_3 : FA Tryz.prog 102 3 4 := fun g o w => by kernel_rfl
theorem brefld26_0 : FA Tryz.prog 26 0 0 := fun g o w => by kernel_rfl
theorem breag24 (w : World) : (isAgg 24).run Tryz.prog w = .ok false w := rfl
theorem bresz102 (w : World) : (sizeOf 102).run Tryz.prog w = .ok 5 w := rfl
theorem breag102 (w : World) : (isAgg 102).run Tryz.prog w = .ok true w := rfl
theorem brezv102 (w : World) : (zeroValue 102).run Tryz.prog w = .ok (.agg #[.int .u32 0, .int .i64 0, .int .i64 0, .int .i64 0, .int .i64 0]) w := rfl
theorem breag26 (w : World) : (isAgg 26).run Tryz.prog w = .ok true w := rfl
theorem bresz26 (w : World) : (sizeOf 26).run Tryz.prog w = .ok 1 w := rfl
theorem brebld102_791  (w : World) : (Instr.build 102 #[]).run Tryz.prog w = .ok (.agg #[.int .u32 0, .int .i64 0, .int .i64 0, .int .i64 0, .int .i64 0]) w := by kernel_rfl
theorem breone_u32i64i64i64i64 {a0 : Int} {a1 : Int} {a2 : Int} {a3 : Int} {a4 : Int} : ∀ u ∈ [(.int .u32 a0 : Value), .int .i64 a1, .int .i64 a2, .int .i64 a3, .int .i64 a4], u.oneCell' = true := by
 intro u hu
 simp only [List.mem_cons, List.not_mem_nil, or_false] at hu
 rcases hu with rfl | rfl | rfl | rfl | rfl <;> rfl
theorem validE_any (x : En) (w : World) :
  Calls Tryz.prog 129 #[.agg x.cells.toArray] w fun e w' => e = .returned (.bool (validE x)) ∧ Below w.heap.size w w' := by
 refine begin_ (vs := [.agg x.cells.toArray]) Tryz.func129 rfl rfl rfl ?_ (Pm.start w)
 refine zSG ?_
 refine TL.pnew rfl rfl rfl (exec_box (cs := x.cells) rfl rfl rfl) (fun g1 => ?_)
 refine TL.as_ ?_
 refine zET (zSG (TL.v (gF brefld102_0) ?_))
 refine TL.v (gV 0 (.agg #[.int .u32 x.addr, .int .i64 x.len]) badag100 badsz100) ?_
 refine TL.callsplit rfl rfl rfl rfl rfl Tryz.func163 (by decide) rfl (fun w1 hw => vldP_any x.addr x.len w1) (fun h5 => ?_) (fun h5 => ?_)
 ·refine TL.mv ?_
  refine TL.ov (gF brefld102_1) ?_
  refine TL.ov (gL 0 pcmag3) ?_
  refine TL.gu ?_
  refine TL.sp bin_geq (fun q9 => ?_) (fun q9 => ?_)
  ·refine TL.rn 2 rfl (TL.ov (gF brefld102_1) ?_)
   refine TL.ov (gL 0 pcmag3) ?_
   refine TL.gu ?_
   refine TL.sp bin_leq (fun q14 => ?_) (fun q14 => ?_)
   ·refine TL.rn 2 rfl (TL.ov (gF brefld102_2) ?_)
    refine TL.ov (gL 0 pcmag3) ?_
    refine TL.gu ?_
    refine TL.sp bin_geq (fun q19 => ?_) (fun q19 => ?_)
    ·refine TL.rn 2 rfl (TL.ov (gF brefld102_2) ?_)
     refine TL.ov (gL 0 pcmag3) ?_
     refine TL.ov (gF brefld102_3) ?_
     refine TL.ov (gL 0 pcmag3) ?_
     refine TL.gu ?_
     refine TL.sp bin_lss (fun q26 => ?_) (fun q26 => ?_)
     ·refine TL.rn 2 rfl (TL.ov (gF brefld102_3) ?_)
      refine TL.ov (gL 0 pcmag3) ?_
      refine TL.gu ?_
      refine TL.sp bin_leq (fun q31 => ?_) (fun q31 => ?_)
      ·refine TL.rn 2 rfl (zET (zr ?_))
       have hE : (validE x) = true := (by simp [validE, h5, q9, q14, q19, q26, q31]; try omega)
       exact ret_tmp Tryz.results129 rfl (fun w1 hw => ⟨by rw [hE]; try rfl, hw.bel⟩)
      refine TL.rn 2 rfl (zET (zr ?_))
      have hE : (validE x) = false := (by simp [validE, h5, q9, q14, q19, q26, q31]; try omega)
      exact ret_tmp Tryz.results129 rfl (fun w1 hw => ⟨by rw [hE]; try rfl, hw.bel⟩)
     refine TL.rn 7 rfl (zET (zr ?_))
     have hE : (validE x) = false := (by simp [validE, h5, q9, q14, q19, q26]; try omega)
     exact ret_tmp Tryz.results129 rfl (fun w1 hw => ⟨by rw [hE]; try rfl, hw.bel⟩)
    refine TL.rn 14 rfl (zET (zr ?_))
    have hE : (validE x) = false := (by simp [validE, h5, q9, q14, q19]; try omega)
    exact ret_tmp Tryz.results129 rfl (fun w1 hw => ⟨by rw [hE]; try rfl, hw.bel⟩)
   refine TL.rn 19 rfl (zET (zr ?_))
   have hE : (validE x) = false := (by simp [validE, h5, q9, q14]; try omega)
   exact ret_tmp Tryz.results129 rfl (fun w1 hw => ⟨by rw [hE]; try rfl, hw.bel⟩)
  refine TL.rn 24 rfl (zET (zr ?_))
  have hE : (validE x) = false := (by simp [validE, h5, q9]; try omega)
  exact ret_tmp Tryz.results129 rfl (fun w1 hw => ⟨by rw [hE]; try rfl, hw.bel⟩)
 refine TL.rn 28 rfl (zET (zr ?_))
 have hE : (validE x) = false := (by simp [validE, h5]; try omega)
 exact ret_tmp Tryz.results129 rfl (fun w1 hw => ⟨by rw [hE]; try rfl, hw.bel⟩)
theorem okN {es : List En} {i : Nat} (h : ∀ j, j < i → okAt es j = true) (hi : okAt es i = true) : ∀ j, j < i + 1 → okAt es j = true := fun j hj => by
 rcases Nat.lt_or_ge j i with h1 | h1
 ·exact h j h1
 obtain rfl : j = i := by omega
 exact hi
theorem validR_any (A0 : Option Addr) (c0 : Nat) (es : List En) (w : World) (hr : Reads w w.heap.size 5 A0 es.length (flat En.cells es)) :
  Calls Tryz.prog 84 #[.agg #[.slice A0 es.length c0]] w fun e w' => e = .returned (.bool (validR es)) ∧ Below w.heap.size w w' := by
 refine begin_ (vs := [.agg #[.slice A0 es.length c0]]) Tryz.func84 rfl rfl rfl ?_ (Pm.start w)
 refine zSG ?_
 refine TL.pnew rfl rfl rfl (exec_box (cs := [.slice A0 es.length c0]) rfl rfl rfl) (fun g1 => ?_)
 refine TL.as_ ?_
 refine zET (zS (zSG (TL.v (gF brefld26_0) ?_)))
 refine TL.v (gL 0 breag24) ?_
 refine TL.v (gN Tryz.underlying24) ?_
 refine TL.sp bin_gtr (fun q10 => ?_) (fun q10 => ?_)
 ·refine zET (zc (zSG (TL.as_ ?_)))
  refine zET (zr (zR ?_))
  have hE : validR es = false := by simp only [validR, decide_eq_false (show ¬ es.length ≤ 1024 by omega), Bool.false_and]
  exact ret_tmp Tryz.results84 rfl (fun w1 hw => ⟨by rw [hE], hw.bel⟩)
 refine zET (zd (zk (zT (zS (zSG (TL.v (gF brefld26_0) ?_))))))
 refine TL.v (gL 0 breag24) ?_
 refine TL.v (gN Tryz.underlying24) ?_
 refine TL.mv ?_
 refine zET (zB (TC.loop_ (α := {i : Nat // i ≤ es.length ∧ ∀ j, j < i → okAt es j = true}) (fun y => [(1, .pointer (some ⟨g1, 0, none⟩)), (12, .slice A0 es.length c0), (13, .int .i64 (es.length : Nat)), (14, .int .i64 ((y.1 : Nat) : Int))]) (fun y => Pm w [.blk g1 26 [.slice A0 es.length c0]]) (fun y => es.length - y.1) (⟨0, Nat.zero_le _, fun j hj => absurd hj (Nat.not_lt_zero _)⟩) ⟨rfl, rfl, rfl, rfl, trivial⟩ (fun w1 hw => hw) ?_))
 rintro ⟨i, hi, hok⟩
 try dsimp only at hi hok ⊢
 refine zSG ?_
 refine TL.sp bin_lss (fun q15 => ?_) (fun q15 => ?_)
 ·refine zET (zS (zc (zk (zT (zS (zB (zSG (TL.mv ?_))))))))
  have hi17 : i < es.length := by omega
  obtain ⟨x17, hx17⟩ := ex_at hi17
  obtain ⟨b17, o17, hA17, hbb17, hc17⟩ := hr.ad (by omega) (by decide)
  refine TL.val rfl rfl rfl (gA (i := i) Tryz.underlying24 bresz102 rfl rfl rfl rfl hA17 (by omega)) ?_
  refine TL.v (gR en_cel breag102 bresz102 hbb17 hx17 hc17) ?_
  refine TL.pnew rfl rfl rfl (exec_alloc (cs := [.int .u32 0, .int .i64 0, .int .i64 0, .int .i64 0, .int .i64 0]) rfl brezv102 rfl) (fun g4 => ?_)
  refine TL.as_ ?_
  refine TL.pstore (k := 0) (vs := x17.cells) rfl rfl rfl rfl rfl rfl rfl bresz102 (en_cel.one _) (by show 5 ≤ 5; decide) (L' := [.blk g4 102 x17.cells, .blk g1 26 [.slice A0 es.length c0]]) rfl ?_
  refine zET (zS (zSG (TL.v (gV 0 (.agg (x17.cells).toArray) breag102 bresz102) ?_)))
  refine TL.callsplit rfl rfl rfl rfl rfl Tryz.func129 (by decide) rfl (fun w1 hw => validE_any x17 w1) (fun h20 => ?_) (fun h20 => ?_)
  ·refine TL.val rfl rfl rfl (gives_boolnot rfl rfl) ?_
   refine zET (zd (zk (zT (zS (zSG (TL.mv ?_))))))
   refine TL.sp bin_eql (fun q23 => ?_) (fun q23 => ?_)
   ·refine zET (zc (zx (zX (zM (zT (zG (TL.v (gD ((i + 1 : Nat) : Int)) ?_)))))))
    refine TL.mv ?_
    refine zE ?_
    exact TX.round (⟨i + 1, by omega, okN hok (okAt_zero (by omega) hx17 h20)⟩) (by show es.length - (i + 1) < es.length - i; omega) ⟨rfl, rfl, rfl, rfl, trivial⟩ (fun w1 hw => hw.pick [1] (by decide) rfl)
   refine zET (zd (zk (zT (zSG (TL.v (gF brefld26_0) ?_)))))
   refine TL.v (gL 1 breag24) ?_
   refine TL.mv ?_
   refine TL.val rfl rfl rfl (gives_bin rfl rfl rfl (fun w => bin_sub_ (r := ((i - 1 : Nat) : Int)) (by simp only [IntKind.wrap_i64]; omega) w)) ?_
   have hi28 : i - 1 < es.length := by omega
   obtain ⟨x28, hx28⟩ := ex_at hi28
   obtain ⟨b28, o28, hA28, hbb28, hc28⟩ := hr.ad (by omega) (by decide)
   refine TL.val rfl rfl rfl (gA (i := (i - 1)) Tryz.underlying24 bresz102 rfl rfl rfl rfl hA28 (by omega)) ?_
   refine TL.val rfl rfl rfl (gives_loadR (off := o28 + (i - 1) * 5) rfl rfl breag102 bresz102 (en_cel.len x28) (fun w1 hw j9 u9 h9 => (hw.bel.cell hbb28).trans <| flat_cell en_cel hx28 hc28 j9 u9 h9)) ?_
   refine TL.pnew rfl rfl rfl (exec_alloc (cs := [.int .u32 0, .int .i64 0, .int .i64 0, .int .i64 0, .int .i64 0]) rfl brezv102 rfl) (fun g5 => ?_)
   refine TL.pstore (k := 0) (vs := x28.cells) rfl rfl rfl rfl rfl rfl rfl bresz102 (en_cel.one _) (by show 5 ≤ 5; decide) (L' := [.blk g5 102 x28.cells, .blk g4 102 x17.cells, .blk g1 26 [.slice A0 es.length c0]]) rfl ?_
   refine zET (zSG (TL.v (gF brefld102_0) ?_))
   refine TL.v (gV 0 (.agg #[.int .u32 x28.addr, .int .i64 x28.len]) badag100 badsz100) ?_
   refine TL.v (gF brefld102_0) ?_
   refine TL.v (gV 1 (.agg #[.int .u32 x17.addr, .int .i64 x17.len]) badag100 badsz100) ?_
   refine TL.pcall1 (r := .int .i64 (cmpP x28.addr x28.len x17.addr x17.len)) rfl rfl rfl rfl rfl Tryz.func130 (by decide) rfl (fun w1 hw => cmpP_any x28.addr x28.len x17.addr x17.len w1) ?_
   refine TL.as_ ?_
   refine zET (zSG (TL.mv ?_))
   refine TL.sp bin_gtr (fun q36 => ?_) (fun q36 => ?_)
   ·refine TL.rn 4 rfl ?_
    refine TL.offU rfl rfl rfl rfl rfl ?_
    refine TL.offU rfl rfl rfl rfl rfl ?_
    refine TL.offU rfl rfl rfl rfl rfl ?_
    refine TL.offU rfl rfl rfl rfl rfl ?_
    refine TL.offU rfl rfl rfl rfl rfl ?_
    refine TL.rn 2 rfl (zET (zc (zSG (TL.as_ ?_))))
    refine zET (zr (zRR (zR (zRR ?_))))
    have hE : validR es = false := validR_false hi17 (okAt_pair (t := false) (by omega) hx17 hx28 h20 (by simp [badP, q15, h20, q23, q36]))
    exact ret_tmp Tryz.results84 rfl (fun w1 hw => ⟨by rw [hE], hw.bel⟩)
   refine TL.rn 2 rfl (TL.gu ?_)
   refine TL.sp bin_eql (fun q39 => ?_) (fun q39 => ?_)
   ·refine TL.rn 1 rfl (TL.ov (gF brefld102_2) ?_)
    refine TL.ov (gL 1 pcmag3) ?_
    refine TL.ov (gF brefld102_3) ?_
    refine TL.ov (gL 0 pcmag3) ?_
    refine TL.gu ?_
    refine TL.sp bin_lss (fun q45 => ?_) (fun q45 => ?_)
    ·refine TL.rn 2 rfl (zET (zc (zSG (TL.as_ ?_))))
     refine zET (zr (zRR (zR (zRR ?_))))
     have hE : validR es = false := validR_false hi17 (okAt_pair (t := false) (by omega) hx17 hx28 h20 (by simp [badP, q15, h20, q23, q36, q39, q45]))
     exact ret_tmp Tryz.results84 rfl (fun w1 hw => ⟨by rw [hE], hw.bel⟩)
    refine TL.rn 2 rfl (zET (zd (zk (zN (zT (zG (TL.v (gD ((i + 1 : Nat) : Int)) ?_)))))))
    refine TL.mv ?_
    refine zE ?_
    exact TX.round (⟨i + 1, by omega, okN hok (okAt_pair (t := true) (by omega) hx17 hx28 h20 (by simp [badP, q15, h20, q23, q36, q39, q45]))⟩) (by show es.length - (i + 1) < es.length - i; omega) ⟨rfl, rfl, rfl, rfl, trivial⟩ (fun w1 hw => hw.pick [2] (by decide) rfl)
   refine TL.rn 8 rfl (zET (zd (zk (zN (zT (zG (TL.v (gD ((i + 1 : Nat) : Int)) ?_)))))))
   refine TL.mv ?_
   refine zE ?_
   exact TX.round (⟨i + 1, by omega, okN hok (okAt_pair (t := true) (by omega) hx17 hx28 h20 (by simp [badP, q15, h20, q23, q36, q39]))⟩) (by show es.length - (i + 1) < es.length - i; omega) ⟨rfl, rfl, rfl, rfl, trivial⟩ (fun w1 hw => hw.pick [2] (by decide) rfl)
  refine TL.val rfl rfl rfl (gives_boolnot rfl rfl) ?_
  refine zET (zc (zSG (TL.as_ ?_)))
  refine zET (zr (zR (zRR (zR (zRR ?_)))))
  have hE : validR es = false := validR_false hi17 (okAt_bad hx17 h20)
  exact ret_tmp Tryz.results84 rfl (fun w1 hw => ⟨by rw [hE], hw.bel⟩)
 refine zET (zS (zd (zx (zX (zX (zM (zT (zSG (TL.as_ ?_)))))))))
 refine zET (zr ?_)
 have hE : validR es = true := validR_true (by omega) (fun j hj => hok j (by omega))
 exact ret_tmp Tryz.results84 rfl (fun w1 hw => ⟨by rw [hE], hw.bel⟩)
theorem lookR_any (A0 : Option Addr) (c0 : Nat) (es : List En) (a t : Int) (w : World) (hr : Reads w w.heap.size 5 A0 es.length (flat En.cells es)) (hl1 : es.length ≤ 100000) :
  Calls Tryz.prog 189 #[.agg #[.slice A0 es.length c0], .int .u32 a, .int .i64 t] w fun e w' => e = .returned (.tuple #[.agg (lookR es a t).1.cells.toArray, .bool (lookR es a t).2]) ∧ Below w.heap.size w w' := by
 refine begin_ (vs := [.agg #[.slice A0 es.length c0], .int .u32 a, .int .i64 t]) Tryz.func189 rfl rfl rfl ?_ (Pm.start w)
 refine zSG ?_
 refine TL.pnew rfl rfl rfl (exec_box (cs := [.slice A0 es.length c0]) rfl rfl rfl) (fun g3 => ?_)
 refine TL.pnew rfl rfl rfl (exec_alloc (cs := En.zero.cells) rfl brezv102 rfl) (fun g6 => ?_)
 refine TL.as_ ?_
 refine zET (zSG ?_)
 refine TL.pnew rfl rfl rfl (exec_alloc (cs := En.zero.cells) rfl brezv102 rfl) (fun g8 => ?_)
 refine zET (zSG (TL.as_ ?_))
 refine zET (zS (zSG (TL.v (gF brefld26_0) ?_)))
 refine TL.v (gL 2 breag24) ?_
 refine TL.v (gN Tryz.underlying24) ?_
 refine TL.mv ?_
 refine zET (zB (TC.loop_ (α := {y : Nat × En × Bool // y.1 ≤ es.length ∧ lookR (es.take y.1) a t = y.2}) (fun y => [(1, .int .u32 a), (2, .int .i64 t), (6, .pointer (some ⟨g6, 0, none⟩)), (8, .pointer (some ⟨g8, 0, none⟩)), (13, .slice A0 es.length c0), (14, .int .i64 (es.length : Nat)), (15, .int .i64 ((y.1.1 : Nat) : Int)), (9, .bool y.1.2.2)]) (fun y => Pm w [.blk g8 102 y.1.2.1.cells, .blk g6 102 En.zero.cells, .blk g3 26 [.slice A0 es.length c0]]) (fun y => es.length - y.1.1) (⟨(0, En.zero, false), Nat.zero_le _, rfl⟩) ⟨rfl, rfl, rfl, rfl, rfl, rfl, rfl, rfl, trivial⟩ (fun w1 hw => hw) ?_))
 rintro ⟨⟨i, bst, fnd⟩, hi, hst⟩
 dsimp only at hi hst ⊢
 refine zSG ?_
 refine TL.sp bin_lss (fun q16 => ?_) (fun q16 => ?_)
 ·refine zET (zS (zc (zk (zT (zS (zB (zSG ?_)))))))
  have hi17 : i < es.length := by omega
  obtain ⟨x17, hx17⟩ := ex_at hi17
  obtain ⟨b17, o17, hA17, hbb17, hc17⟩ := hr.ad (by omega) (by decide)
  refine TL.val rfl rfl rfl (gA (i := i) Tryz.underlying24 bresz102 rfl rfl rfl rfl hA17 (by omega)) ?_
  refine TL.v (gR en_cel breag102 bresz102 hbb17 hx17 hc17) ?_
  refine TL.pnew rfl rfl rfl (exec_alloc (cs := En.zero.cells) rfl brezv102 rfl) (fun g11 => ?_)
  refine TL.pstore (k := 0) (vs := x17.cells) rfl rfl rfl rfl rfl rfl rfl bresz102 (en_cel.one _) (by show 5 ≤ 5; decide) (L' := [.blk g11 102 x17.cells, .blk g8 102 bst.cells, .blk g6 102 En.zero.cells, .blk g3 26 [.slice A0 es.length c0]]) rfl ?_
  refine zET (zS ?_)
  cases fnd with
  | true =>
   refine zG (TL.v (gF brefld102_2) ?_)
   refine TL.v (gL 0 pcmag3) ?_
   refine TL.mv ?_
   refine TL.sp bin_leq (fun q22 => ?_) (fun q22 => ?_)
   ·refine TL.rn 2 rfl (TL.ov (gF brefld102_3) ?_)
    refine TL.ov (gL 0 pcmag3) ?_
    refine TL.gu ?_
    refine TL.sp bin_lss (fun q27 => ?_) (fun q27 => ?_)
    ·refine TL.rn 5 rfl (TL.ov (gF brefld102_0) ?_)
     refine TL.ov (gF badfld100_1) ?_
     refine TL.ov (gL 0 pcmag3) ?_
     refine TL.ov (gF brefld102_0) ?_
     refine TL.ov (gF badfld100_1) ?_
     refine TL.ov (gL 1 pcmag3) ?_
     refine TL.gu ?_
     refine TL.sp bin_gtr (fun q39 => ?_) (fun q39 => ?_)
     ·refine TL.rn 3 rfl (TL.ov (gF brefld102_0) ?_)
      refine TL.ov (gV 0 (.agg #[.int .u32 x17.addr, .int .i64 x17.len]) badag100 badsz100) ?_
      refine TL.rn 1 rfl (TL.gu ?_)
      refine TL.callsplit rfl rfl rfl rfl rfl Tryz.func216 (by decide) rfl (fun w1 hw => hasP_any x17.addr x17.len a w1) (fun h46 => ?_) (fun h46 => ?_)
      ·refine TL.pk ?_
       refine zET (zc (zG (TL.v (gV 0 (.agg (x17.cells).toArray) breag102 bresz102) ?_)))
       refine TL.pstore (k := 1) (vs := x17.cells) rfl rfl rfl rfl rfl rfl rfl bresz102 (en_cel.one _) (by show 5 ≤ 5; decide) (L' := [.blk g11 102 x17.cells, .blk g8 102 x17.cells, .blk g6 102 En.zero.cells, .blk g3 26 [.slice A0 es.length c0]]) rfl ?_
       refine TL.as_ ?_
       refine zE (zN (zT (zG (TL.v (gD ((i + 1 : Nat) : Int)) ?_))))
       refine TL.mv ?_
       refine zE ?_
       exact TX.round (⟨(i + 1, x17, true), by dsimp only; omega, by rw [lookR_snoc hx17 hst, if_pos (by simp [fitsE, q16, q22, q27, q39, h46])]⟩) (by show es.length - (i + 1) < es.length - i; omega) ⟨rfl, rfl, rfl, rfl, rfl, rfl, rfl, rfl, trivial⟩ (fun w1 hw => hw.pick [1, 2, 3] (by decide) rfl)
      refine TL.pk ?_
      refine zET (zd (zk (zN (zT (zG (TL.v (gD ((i + 1 : Nat) : Int)) ?_))))))
      refine TL.mv ?_
      refine zE ?_
      exact TX.round (⟨(i + 1, bst, true), by dsimp only; omega, by rw [lookR_snoc hx17 hst, if_neg (by simp [fitsE, q16, q22, q27, q39, h46])]⟩) (by show es.length - (i + 1) < es.length - i; omega) ⟨rfl, rfl, rfl, rfl, rfl, rfl, rfl, rfl, trivial⟩ (fun w1 hw => hw.pick [1, 2, 3] (by decide) rfl)
     refine TL.rn 8 rfl (zET (zd (zk (zN (zT (zG (TL.v (gD ((i + 1 : Nat) : Int)) ?_)))))))
     refine TL.mv ?_
     refine zE ?_
     exact TX.round (⟨(i + 1, bst, true), by dsimp only; omega, by rw [lookR_snoc hx17 hst, if_neg (by simp [fitsE, q16, q22, q27, q39])]⟩) (by show es.length - (i + 1) < es.length - i; omega) ⟨rfl, rfl, rfl, rfl, rfl, rfl, rfl, rfl, trivial⟩ (fun w1 hw => hw.pick [1, 2, 3] (by decide) rfl)
    refine TL.rn 5 rfl ?_
    refine TL.offU rfl rfl rfl rfl rfl ?_
    refine TL.offU rfl rfl rfl rfl rfl ?_
    refine TL.offU rfl rfl rfl rfl rfl ?_
    refine TL.offU rfl rfl rfl rfl rfl ?_
    refine TL.offU rfl rfl rfl rfl rfl ?_
    refine TL.offU rfl rfl rfl rfl rfl ?_
    refine TL.offU rfl rfl rfl rfl rfl ?_
    refine TL.rn 8 rfl (zET (zd (zk (zN (zT (zG (TL.v (gD ((i + 1 : Nat) : Int)) ?_)))))))
    refine TL.mv ?_
    refine zE ?_
    exact TX.round (⟨(i + 1, bst, true), by dsimp only; omega, by rw [lookR_snoc hx17 hst, if_neg (by simp [fitsE, q16, q22, q27])]⟩) (by show es.length - (i + 1) < es.length - i; omega) ⟨rfl, rfl, rfl, rfl, rfl, rfl, rfl, rfl, trivial⟩ (fun w1 hw => hw.pick [1, 2, 3] (by decide) rfl)
   refine TL.rn 10 rfl ?_
   refine TL.offU rfl rfl rfl rfl rfl ?_
   refine TL.offU rfl rfl rfl rfl rfl ?_
   refine TL.offU rfl rfl rfl rfl rfl ?_
   refine TL.offU rfl rfl rfl rfl rfl ?_
   refine TL.offU rfl rfl rfl rfl rfl ?_
   refine TL.offU rfl rfl rfl rfl rfl ?_
   refine TL.offU rfl rfl rfl rfl rfl ?_
   refine TL.rn 8 rfl (zET (zd (zk (zN (zT (zG (TL.v (gD ((i + 1 : Nat) : Int)) ?_)))))))
   refine TL.mv ?_
   refine zE ?_
   exact TX.round (⟨(i + 1, bst, true), by dsimp only; omega, by rw [lookR_snoc hx17 hst, if_neg (by simp [fitsE, q16, q22])]⟩) (by show es.length - (i + 1) < es.length - i; omega) ⟨rfl, rfl, rfl, rfl, rfl, rfl, rfl, rfl, trivial⟩ (fun w1 hw => hw.pick [1, 2, 3] (by decide) rfl)
  | false =>
   refine zG (TL.v (gF brefld102_2) ?_)
   refine TL.v (gL 0 pcmag3) ?_
   refine TL.mv ?_
   refine TL.sp bin_leq (fun q22 => ?_) (fun q22 => ?_)
   ·refine TL.rn 2 rfl (TL.ov (gF brefld102_3) ?_)
    refine TL.ov (gL 0 pcmag3) ?_
    refine TL.gu ?_
    refine TL.sp bin_lss (fun q27 => ?_) (fun q27 => ?_)
    ·refine TL.rn 15 rfl (TL.ov (gF brefld102_0) ?_)
     refine TL.ov (gV 0 (.agg #[.int .u32 x17.addr, .int .i64 x17.len]) badag100 badsz100) ?_
     refine TL.rn 1 rfl (TL.gu ?_)
     refine TL.callsplit rfl rfl rfl rfl rfl Tryz.func216 (by decide) rfl (fun w1 hw => hasP_any x17.addr x17.len a w1) (fun h46 => ?_) (fun h46 => ?_)
     ·refine TL.pk ?_
      refine zET (zc (zG (TL.v (gV 0 (.agg (x17.cells).toArray) breag102 bresz102) ?_)))
      refine TL.pstore (k := 1) (vs := x17.cells) rfl rfl rfl rfl rfl rfl rfl bresz102 (en_cel.one _) (by show 5 ≤ 5; decide) (L' := [.blk g11 102 x17.cells, .blk g8 102 x17.cells, .blk g6 102 En.zero.cells, .blk g3 26 [.slice A0 es.length c0]]) rfl ?_
      refine TL.as_ ?_
      refine zE (zN (zT (zG (TL.v (gD ((i + 1 : Nat) : Int)) ?_))))
      refine TL.mv ?_
      refine zE ?_
      exact TX.round (⟨(i + 1, x17, true), by dsimp only; omega, by rw [lookR_snoc hx17 hst, if_pos (by simp [fitsE, q16, q22, q27, h46])]⟩) (by show es.length - (i + 1) < es.length - i; omega) ⟨rfl, rfl, rfl, rfl, rfl, rfl, rfl, rfl, trivial⟩ (fun w1 hw => hw.pick [1, 2, 3] (by decide) rfl)
     refine TL.pk ?_
     refine zET (zd (zk (zN (zT (zG (TL.v (gD ((i + 1 : Nat) : Int)) ?_))))))
     refine TL.mv ?_
     refine zE ?_
     exact TX.round (⟨(i + 1, bst, false), by dsimp only; omega, by rw [lookR_snoc hx17 hst, if_neg (by simp [fitsE, q16, q22, q27, h46])]⟩) (by show es.length - (i + 1) < es.length - i; omega) ⟨rfl, rfl, rfl, rfl, rfl, rfl, rfl, rfl, trivial⟩ (fun w1 hw => hw.pick [1, 2, 3] (by decide) rfl)
    refine TL.rn 5 rfl ?_
    refine TL.offU rfl rfl rfl rfl rfl ?_
    refine TL.offU rfl rfl rfl rfl rfl ?_
    refine TL.offU rfl rfl rfl rfl rfl ?_
    refine TL.offU rfl rfl rfl rfl rfl ?_
    refine TL.offU rfl rfl rfl rfl rfl ?_
    refine TL.offU rfl rfl rfl rfl rfl ?_
    refine TL.offU rfl rfl rfl rfl rfl ?_
    refine TL.rn 8 rfl (zET (zd (zk (zN (zT (zG (TL.v (gD ((i + 1 : Nat) : Int)) ?_)))))))
    refine TL.mv ?_
    refine zE ?_
    exact TX.round (⟨(i + 1, bst, false), by dsimp only; omega, by rw [lookR_snoc hx17 hst, if_neg (by simp [fitsE, q16, q22, q27])]⟩) (by show es.length - (i + 1) < es.length - i; omega) ⟨rfl, rfl, rfl, rfl, rfl, rfl, rfl, rfl, trivial⟩ (fun w1 hw => hw.pick [1, 2, 3] (by decide) rfl)
   refine TL.rn 10 rfl ?_
   refine TL.offU rfl rfl rfl rfl rfl ?_
   refine TL.offU rfl rfl rfl rfl rfl ?_
   refine TL.offU rfl rfl rfl rfl rfl ?_
   refine TL.offU rfl rfl rfl rfl rfl ?_
   refine TL.offU rfl rfl rfl rfl rfl ?_
   refine TL.offU rfl rfl rfl rfl rfl ?_
   refine TL.offU rfl rfl rfl rfl rfl ?_
   refine TL.rn 8 rfl (zET (zd (zk (zN (zT (zG (TL.v (gD ((i + 1 : Nat) : Int)) ?_)))))))
   refine TL.mv ?_
   refine zE ?_
   exact TX.round (⟨(i + 1, bst, false), by dsimp only; omega, by rw [lookR_snoc hx17 hst, if_neg (by simp [fitsE, q16, q22])]⟩) (by show es.length - (i + 1) < es.length - i; omega) ⟨rfl, rfl, rfl, rfl, rfl, rfl, rfl, rfl, trivial⟩ (fun w1 hw => hw.pick [1, 2, 3] (by decide) rfl)
 refine zET (zS (zd (zx (zX (zX (zM (zT (zSG (TL.v (gV 0 (.agg (bst.cells).toArray) breag102 bresz102) ?_)))))))))
 refine TL.mv ?_
 refine TL.pstore (k := 1) (vs := bst.cells) rfl rfl rfl rfl rfl rfl rfl bresz102 (en_cel.one _) (by show 5 ≤ 5; decide) (L' := [.blk g8 102 bst.cells, .blk g6 102 bst.cells, .blk g3 26 [.slice A0 es.length c0]]) rfl ?_
 refine TL.as_ ?_
 refine zET (zr ?_)
 have hE : lookR es a t = (bst, fnd) := by rw [List.take_of_length_le (by omega)] at hst; exact hst
 exact ret_cell2 (k := 1) (v := .bool fnd) Tryz.results189 rfl rfl rfl Tryz.underlying102 rfl rfl (fun w1 hw => ⟨by rw [hE], hw.bel⟩)
theorem lookV_any (A0 : Option Addr) (c0 : Nat) (es : List En) (a t : Int) (w : World) (hr : Reads w w.heap.size 5 A0 es.length (flat En.cells es)) :
  Calls Tryz.prog 161 #[.agg #[.slice A0 es.length c0], .int .u32 a, .int .i64 t] w fun e w' => e = .returned (.tuple #[.agg (lookV es a t).1.cells.toArray, .bool (lookV es a t).2]) ∧ Below w.heap.size w w' := by
 refine begin_ (vs := [.agg #[.slice A0 es.length c0], .int .u32 a, .int .i64 t]) Tryz.func161 rfl rfl rfl ?_ (Pm.start w)
 refine zSG ?_
 refine TL.pnew rfl rfl rfl (exec_box (cs := [.slice A0 es.length c0]) rfl rfl rfl) (fun g3 => ?_)
 refine TL.pnew rfl rfl rfl (exec_alloc (cs := [.int .u32 0, .int .i64 0, .int .i64 0, .int .i64 0, .int .i64 0]) rfl brezv102 rfl) (fun g6 => ?_)
 refine TL.as_ ?_
 refine zET (zS (zSG (TL.v (gV 1 (.agg #[.slice A0 es.length c0]) breag26 bresz26) ?_)))
 refine TL.callsplit rfl rfl rfl rfl rfl Tryz.func84 (by decide) rfl (fun w1 hw => validR_any A0 c0 es w1 (hr.up hw.bel)) (fun h9 => ?_) (fun h9 => ?_)
 ·refine TL.val rfl rfl rfl (gives_boolnot rfl rfl) ?_
  refine zET (zd (zk (zT (zSG (TL.v (gV 1 (.agg #[.slice A0 es.length c0]) breag26 bresz26) ?_)))))
  refine TL.rn 2 rfl ?_
  refine TL.pcall1 (r := .tuple #[.agg ((lookR es a t).1.cells).toArray, .bool ((lookR es a t).2)]) rfl rfl rfl rfl rfl Tryz.func189 (by decide) rfl (fun w1 hw => lookR_any A0 c0 es a t w1 (hr.up hw.bel) (Nat.le_trans (validR_len h9) (by decide))) ?_
  refine TL.rn 2 rfl ?_
  refine TL.pstore (k := 0) (vs := (lookR es a t).1.cells) rfl rfl rfl rfl rfl rfl rfl bresz102 (en_cel.one _) (by show 5 ≤ 5; decide) (L' := [.blk g6 102 (lookR es a t).1.cells, .blk g3 26 [.slice A0 es.length c0]]) rfl ?_
  refine TL.as_ ?_
  refine zET (zr ?_)
  have hE : lookV es a t = lookR es a t := if_pos h9
  exact ret_cell2 (k := 0) (v := .bool ((lookR es a t).2)) Tryz.results161 rfl rfl rfl Tryz.underlying102 rfl rfl (fun w1 hw => ⟨by rw [hE], hw.bel⟩)
 refine TL.val rfl rfl rfl (gives_boolnot rfl rfl) ?_
 refine zET (zc (zSG ?_))
 refine TL.val rfl rfl rfl (gives_build (v := .agg #[.int .u32 0, .int .i64 0, .int .i64 0, .int .i64 0, .int .i64 0]) rfl rfl (fun w => brebld102_791  w)) ?_
 refine TL.pstore (k := 0) (vs := [.int .u32 0, .int .i64 0, .int .i64 0, .int .i64 0, .int .i64 0]) rfl rfl rfl rfl rfl rfl rfl bresz102 breone_u32i64i64i64i64 (by show 5 ≤ 5; decide) (L' := [.blk g6 102 [.int .u32 0, .int .i64 0, .int .i64 0, .int .i64 0, .int .i64 0], .blk g3 26 [.slice A0 es.length c0]]) rfl ?_
 refine TL.as_ ?_
 refine zET (zr (zR ?_))
 have hE : lookV es a t = (En.zero, false) := if_neg (by rw [h9]; decide)
 exact ret_cell2 (k := 0) (v := .bool false) Tryz.results161 rfl rfl rfl Tryz.underlying102 rfl rfl (fun w1 hw => ⟨by rw [hE]; rfl, hw.bel⟩)
theorem prov_any (A0 : Option Addr) (c0 : Nat) (es : List En) (a t : Int) (w : World) (hr : Reads w w.heap.size 5 A0 es.length (flat En.cells es)) :
  Calls Tryz.prog 127 #[.agg #[.slice A0 es.length c0], .int .u32 a, .int .i64 t] w fun e w' => e = .returned (.int .i64 (provR es a t)) ∧ Below w.heap.size w w' := by
 refine begin_ (vs := [.agg #[.slice A0 es.length c0], .int .u32 a, .int .i64 t]) Tryz.func127 rfl rfl rfl ?_ (Pm.start w)
 refine zSG ?_
 refine TL.pnew rfl rfl rfl (exec_box (cs := [.slice A0 es.length c0]) rfl rfl rfl) (fun g3 => ?_)
 refine TL.as_ ?_
 refine zET (zSG (TL.v (gV 0 (.agg #[.slice A0 es.length c0]) breag26 bresz26) ?_))
 refine TL.rn 2 rfl ?_
 refine TL.pcall1 (r := .tuple #[.agg ((lookV es a t).1.cells).toArray, .bool ((lookV es a t).2)]) rfl rfl rfl rfl rfl Tryz.func161 (by decide) rfl (fun w1 hw => lookV_any A0 c0 es a t w1 (hr.up hw.bel)) ?_
 refine TL.rn 3 rfl ?_
 refine TL.pnew rfl rfl rfl (exec_alloc (cs := [.int .u32 0, .int .i64 0, .int .i64 0, .int .i64 0, .int .i64 0]) rfl brezv102 rfl) (fun g7 => ?_)
 refine TL.pstore (k := 0) (vs := (lookV es a t).1.cells) rfl rfl rfl rfl rfl rfl rfl bresz102 (en_cel.one _) (by show 5 ≤ 5; decide) (L' := [.blk g7 102 (lookV es a t).1.cells, .blk g3 26 [.slice A0 es.length c0]]) rfl ?_
 refine TL.as_ ?_
 refine zET (zSG (TL.v (gF brefld102_1) ?_))
 refine TL.v (gL 0 pcmag3) ?_
 refine TL.as_ ?_
 refine zET (zr ?_)
 exact ret_tmp Tryz.results127 rfl (fun w1 hw => ⟨rfl, hw.bel⟩)
set_option maxRecDepth 20000
def dtA (f : Rs → Int) (prov t : Int) (a : Rs) : Prop := a.back < t ∧ f a ≠ 0 ∧ f a ≠ prov
def dtB (f : Rs → Int) (prov t : Int) (a b : Rs) : Prop := t ≤ b.at_ ∧ f b = prov ∧ b.src ≠ a.src
def DtF (f : Rs → Int) (y : List Rs) (prov t : Int) : Prop := ∃ a ∈ y, dtA f prov t a ∧ ∃ b ∈ y, dtB f prov t a b
theorem not_snoc {α : Type} {y : List α} {P : α → Prop} {i : Nat} {x : α} (h : ∀ z ∈ y.take i, ¬ P z) (hx : y[i]? = some x) (hn : ¬ P x) : ∀ z ∈ y.take (i + 1), ¬ P z := fun z hz => by
 rw [List.take_add_one, hx, List.mem_append] at hz
 rcases hz with h1 | h1
 ·exact h z h1
 rw [show z = x by simpa using h1]; exact hn
theorem map_at {α β : Type} {f : α → β} {l : List α} {m : List β} {i : Nat} {x : α} {v : β} (hm : m = l.map f) (hx : l[i]? = some x) (hv : m[i]? = some v) : v = f x := by
 subst hm
 rw [List.getElem?_map, hx] at hv
 exact (Option.some.inj hv).symm
theorem mapt_snoc {α β : Type} {f : α → β} {l : List α} {m : List β} {i : Nat} {x : α} (hx : l[i]? = some x) (h : (l.take i).map f = m) : (l.take (i + 1)).map f = m ++ [f x] := by
 rw [List.take_add_one, hx, List.map_append, h]; rfl
theorem adtbs106_1_5377 (a0_0 : Int) (w : World) : (Instr.buildSlice 106 1 #[(0, .int .i64 a0_0)]).run Tryz.prog w = .ok (.slice (some ⟨w.heap.size, 0, none⟩) 1 1) (w.alloc (.cells [.int .i64 a0_0].toArray 3)) := by kernel_rfl
theorem adtel106 : Elem Tryz.prog 106 3 1 8 := Elem.mk' Tryz.underlying106 (z := .int .i64 0) (by kernel_rfl) rfl (by omega) (by omega)
theorem providers_any (A0 : Option Addr) (c0 : Nat) (l : List Rs) (A1 : Option Addr) (c1 : Nat) (es : List En) (w : World) (hr : Reads w w.heap.size 17 A0 l.length (flat Rs.cells l)) (hl1 : l.length ≤ 100000) (hr1 : Reads w w.heap.size 5 A1 es.length (flat En.cells es)) :
  Calls Tryz.prog 82 #[.slice A0 l.length c0, .agg #[.slice A1 es.length c1]] w fun e w' => ∃ x : {y : (Option Addr × Nat) × List Int // y.2 = l.map (fun r : Rs => provR es r.src r.back) ∧ y.2.length ≤ y.1.2 ∧ y.1.2 ≤ maxLen}, e = .returned (.slice x.1.1.1 x.1.2.length x.1.1.2) ∧ Pm w [.row (.slice x.1.1.1 x.1.2.length x.1.1.2) 3 1 x.1.2.length (flat (ic .i64) x.1.2)] w' := by
 refine begin_ (vs := [.slice A0 l.length c0, .agg #[.slice A1 es.length c1]]) Tryz.func82 rfl rfl rfl ?_ (Pm.start w)
 refine zSG ?_
 refine TL.pnew rfl rfl rfl (exec_box (cs := [.slice A1 es.length c1]) rfl rfl rfl) (fun g3 => ?_)
 refine TL.as_ ?_
 refine zET (zSG (TL.as_ ?_))
 refine zET (zS (zSG (TL.mv ?_)))
 refine TL.v (gN Tryz.underlying23) ?_
 refine TL.mv ?_
 refine zET (zB (TC.nilrow 3 1 ?_))
 refine TC.loop_ (α := {y : Nat × (Option Addr × Nat) × List Int // y.1 ≤ l.length ∧ ((l.take y.1).map (fun r : Rs => provR es r.src r.back) = y.2.2) ∧ y.2.2.length ≤ y.1 ∧ y.2.2.length ≤ y.2.1.2 ∧ y.2.1.2 ≤ maxLen}) (fun y => [(3, .pointer (some ⟨g3, 0, none⟩)), (8, .slice A0 l.length c0), (9, .int .i64 (l.length : Nat)), (10, .int .i64 ((y.1.1 : Nat) : Int)), (5, .slice y.1.2.1.1 y.1.2.2.length y.1.2.1.2)]) (fun y => Pm w [.row (.slice y.1.2.1.1 y.1.2.2.length y.1.2.1.2) 3 1 y.1.2.2.length (flat (ic .i64) y.1.2.2), .blk g3 26 [.slice A1 es.length c1]]) (fun y => l.length - y.1.1) (⟨(0, (none, 0), []), Nat.zero_le _, rfl, Nat.le_refl _, Nat.le_refl _, Nat.zero_le _⟩) ⟨rfl, rfl, rfl, rfl, rfl, trivial⟩ (fun w1 hw => hw) ?_
 rintro ⟨⟨i, ⟨Ao, co⟩, out⟩, hi, hout, houtl, houtc, houtm⟩
 dsimp only at hi hout houtl houtc houtm ⊢
 refine zSG ?_
 refine TL.sp bin_lss (fun q11 => ?_) (fun q11 => ?_)
 ·refine zET (zS (zc (zk (zT (zS (zB (zSG ?_)))))))
  have hi12 : i < l.length := by omega
  obtain ⟨x12, hx12⟩ := ex_at hi12
  obtain ⟨b12, o12, hA12, hbb12, hc12⟩ := hr.ad (by omega) (by decide)
  refine TL.val rfl rfl rfl (gA (i := i) Tryz.underlying23 prssz65 rfl rfl rfl rfl hA12 (by omega)) ?_
  refine TL.v (gR rs_cel prsag65 prssz65 hbb12 hx12 hc12) ?_
  refine TL.pnew rfl rfl rfl (exec_alloc (cs := [.int .i64 0, .int .i64 0, .int .i64 0, .int .i64 0, .int .u32 0, .int .i64 0, .int .i64 0, .int .i64 0, .bool false, .bool false, .int .i64 0, .int .u32 0, .int .i64 0, .int .i64 0, .int .i64 0, .int .i64 0, .int .i64 0]) rfl arpzv65 rfl) (fun g7 => ?_)
  refine TL.pstore (k := 0) (vs := x12.cells) rfl rfl rfl rfl rfl rfl rfl prssz65 (rs_cel.one _) (by show 17 ≤ 17; decide) (L' := [.blk g7 65 x12.cells, .row (.slice Ao out.length co) 3 1 out.length (flat (ic .i64) out), .blk g3 26 [.slice A1 es.length c1]]) rfl ?_
  refine zET (zG (TL.mv ?_))
  refine TL.v (gV 2 (.agg #[.slice A1 es.length c1]) breag26 bresz26) ?_
  refine TL.v (gF prsfld65_11) ?_
  refine TL.v (gF prsfld63_0) ?_
  refine TL.v (gL 0 pcmag30) ?_
  refine TL.v (gF prsfld65_10) ?_
  refine TL.v (gL 0 pcmag3) ?_
  refine TL.pcall1 (r := .int .i64 (provR es x12.src x12.back)) rfl rfl rfl rfl rfl Tryz.func127 (by decide) rfl (fun w1 hw => prov_any A1 c1 es x12.src x12.back w1 (hr1.up hw.bel)) ?_
  refine TL.prowS (e := 3) (size := 1) (cs := flat (ic .i64) [provR es x12.src x12.back]) rfl rfl rfl rfl rfl (fun w => adtbs106_1_5377 _ w) (by decide) rfl (fun g22 => ?_)
  refine TL.appendT (k := 2) rfl rfl rfl rfl Tryz.underlying106 adtel106 rfl rfl rfl (fun w1 hw => pm_reads hw (k := 0) rfl) (flat_one (ic_cel .i64) _) (by show _ * 8 ≤ _; omega) ((out ++ [provR es x12.src x12.back]).length) (by rw [List.length_append]; rfl) (flat (ic .i64) (out ++ [provR es x12.src x12.back])) ((flat_app _ _).symm) (fun A23 c23 hA231 hA232 => ?_)
  refine TL.as_ ?_
  refine zE (zN (zT (zG (TL.v (gD ((i + 1 : Nat) : Int)) ?_))))
  refine TL.mv ?_
  refine zE ?_
  exact TX.round (⟨(i + 1, (A23, c23), out ++ [provR es x12.src x12.back]), by dsimp only; omega, mapt_snoc (f := (fun r : Rs => provR es r.src r.back)) hx12 hout, by dsimp only; rw [List.length_append]; show out.length + 1 ≤ _; omega, hA231, hA232⟩) (by show l.length - (i + 1) < l.length - i; omega) ⟨rfl, rfl, rfl, rfl, rfl, trivial⟩ (fun w1 hw => hw.pick [2, 3] (by decide) rfl)
 refine zET (zS (zd (zx (zX (zX (zM (zT (zSG (TL.rn 2 rfl (zET (zr ?_)))))))))))
 exact ret_tmp Tryz.results82 rfl (fun w1 hw => ⟨⟨((Ao, co), out), by rw [List.take_of_length_le (by omega)] at hout; exact hout.symm, by dsimp only; omega, houtm⟩, rfl, hw.pick [0] (by decide) rfl⟩)
theorem detour_l (A0 : Option Addr) (c0 : Nat) (l : List Rs) (A1 : Option Addr) (c1 : Nat) (ps : List Int) (f : Rs → Int) (prov t : Int) (w : World) (hr : Reads w w.heap.size 17 A0 l.length (flat Rs.cells l)) (hl1 : l.length ≤ 100000) (hr1 : Reads w w.heap.size 1 A1 ps.length (flat (ic .i64) ps)) (hps : ps = l.map f) :
  Calls Tryz.prog 81 #[.slice A0 l.length c0, .slice A1 ps.length c1, .int .i64 prov, .int .i64 t] w fun e w' => ∃ x : {b : Bool // b = true ↔ DtF f l prov t}, e = .returned (.bool x.1) ∧ Below w.heap.size w w' := by
 have hpl : ps.length = l.length := by rw [hps, List.length_map]
 refine begin_ (vs := [.slice A0 l.length c0, .slice A1 ps.length c1, .int .i64 prov, .int .i64 t]) Tryz.func81 rfl rfl rfl ?_ (Pm.start w)
 refine zSG (TL.as_ ?_)
 refine zET (zS (zSG (TL.mv ?_)))
 refine TL.v (gN Tryz.underlying23) ?_
 refine TL.mv ?_
 refine zET (zB ?_)
 refine TC.loop_ (α := {i : Nat // i ≤ l.length ∧ ∀ z ∈ l.take i, ¬ (dtA f prov t z ∧ ∃ b ∈ l, dtB f prov t z b)}) (fun y => [(0, .slice A0 l.length c0), (1, .slice A1 ps.length c1), (2, .int .i64 prov), (3, .int .i64 t), (13, .slice A0 l.length c0), (14, .int .i64 (l.length : Nat)), (15, .int .i64 ((y.1 : Nat) : Int))]) (fun y => Pm w []) (fun y => l.length - y.1) (⟨0, Nat.zero_le _, fun z hz => by rw [List.take_zero] at hz; cases hz⟩) ⟨rfl, rfl, rfl, rfl, rfl, rfl, rfl, trivial⟩ (fun w1 hw => hw) ?_
 rintro ⟨i, hi, hma⟩
 try dsimp only at hi hma ⊢
 refine zSG ?_
 refine TL.sp bin_lss (fun q16 => ?_) (fun q16 => ?_)
 ·refine zET (zS (zc (zk (zT (zS (zB (zSG (TL.mv ?_))))))))
  have hi18 : i < l.length := by omega
  obtain ⟨x18, hx18⟩ := ex_at hi18
  obtain ⟨b18, o18, hA18, hbb18, hc18⟩ := hr.ad (by omega) (by decide)
  refine TL.val rfl rfl rfl (gA (i := i) Tryz.underlying23 prssz65 rfl rfl rfl rfl hA18 (by omega)) ?_
  refine TL.v (gR rs_cel prsag65 prssz65 hbb18 hx18 hc18) ?_
  refine TL.pnew rfl rfl rfl (exec_alloc (cs := [.int .i64 0, .int .i64 0, .int .i64 0, .int .i64 0, .int .u32 0, .int .i64 0, .int .i64 0, .int .i64 0, .bool false, .bool false, .int .i64 0, .int .u32 0, .int .i64 0, .int .i64 0, .int .i64 0, .int .i64 0, .int .i64 0]) rfl arpzv65 rfl) (fun g10 => ?_)
  refine TL.as_ ?_
  refine TL.pstore (k := 0) (vs := x18.cells) rfl rfl rfl rfl rfl rfl rfl prssz65 (rs_cel.one _) (by show 17 ≤ 17; decide) (L' := [.blk g10 65 x18.cells]) rfl ?_
  refine zET (zS (zSG (TL.v (gF prsfld65_10) ?_)))
  refine TL.v (gL 0 pcmag3) ?_
  refine TL.mv ?_
  refine TL.sp bin_geq (fun q23 => ?_) (fun q23 => ?_)
  ·refine TL.rn 15 rfl (zET (zc (zx (zX (zM (zT (zG (TL.v (gD ((i + 1 : Nat) : Int)) ?_))))))))
   refine TL.mv ?_
   refine zE ?_
   exact TX.round (⟨i + 1, by omega, not_snoc hma hx18 (fun h => by have := h.1.1; omega)⟩) (by show l.length - (i + 1) < l.length - i; omega) ⟨rfl, rfl, rfl, rfl, rfl, rfl, rfl, trivial⟩ (fun w1 hw => hw.pick [] (by decide) rfl)
  refine TL.rn 3 rfl (TL.gu ?_)
  have hi27 : i < ps.length := by omega
  obtain ⟨x27, hx27⟩ := ex_at hi27
  obtain ⟨b27, o27, hA27, hbb27, hc27⟩ := hr1.ad (by omega) (by decide)
  refine TL.val rfl rfl rfl (gA (i := i) Tryz.underlying106 pcmsz3 rfl rfl rfl rfl hA27 (by omega)) ?_
  refine TL.gu ?_
  refine TL.val rfl rfl rfl (gives_load (v := .int .i64 x27) rfl rfl pcmag3 (fun w1 hw => (hw.bel.cell hbb27).trans <| flat_cell (ic_cel .i64) hx27 hc27 0 _ rfl)) ?_
  refine TL.gu ?_
  refine TL.sp bin_eql (fun q29 => ?_) (fun q29 => ?_)
  ·refine TL.rn 9 rfl (zET (zc (zx (zX (zM (zT (zG (TL.v (gD ((i + 1 : Nat) : Int)) ?_))))))))
   refine TL.mv ?_
   refine zE ?_
   exact TX.round (⟨i + 1, by omega, not_snoc hma hx18 (fun h => h.1.2.1 (by rw [← map_at hps hx18 hx27]; exact q29))⟩) (by show l.length - (i + 1) < l.length - i; omega) ⟨rfl, rfl, rfl, rfl, rfl, rfl, rfl, trivial⟩ (fun w1 hw => hw.pick [] (by decide) rfl)
  refine TL.rn 4 rfl (TL.gu ?_)
  refine TL.val rfl rfl rfl (gA (i := i) Tryz.underlying106 pcmsz3 rfl rfl rfl rfl hA27 (by omega)) ?_
  refine TL.gu ?_
  refine TL.val rfl rfl rfl (gives_load (v := .int .i64 x27) rfl rfl pcmag3 (fun w1 hw => (hw.bel.cell hbb27).trans <| flat_cell (ic_cel .i64) hx27 hc27 0 _ rfl)) ?_
  refine TL.rn 1 rfl (TL.gu ?_)
  refine TL.sp bin_eql (fun q37 => ?_) (fun q37 => ?_)
  ·refine TL.pk ?_
   refine zET (zc (zx (zX (zM (zT (zG (TL.v (gD ((i + 1 : Nat) : Int)) ?_)))))))
   refine TL.mv ?_
   refine zE ?_
   exact TX.round (⟨i + 1, by omega, not_snoc hma hx18 (fun h => h.1.2.2 (by rw [← map_at hps hx18 hx27]; exact q37))⟩) (by show l.length - (i + 1) < l.length - i; omega) ⟨rfl, rfl, rfl, rfl, rfl, rfl, rfl, trivial⟩ (fun w1 hw => hw.pick [] (by decide) rfl)
  refine TL.pk ?_
  refine zET (zd (zk (zT (zSG (TL.mv ?_)))))
  refine TL.v (gN Tryz.underlying23) ?_
  refine TL.mv ?_
  refine zET (zB ?_)
  refine TC.loop_ (α := {k : Nat // k ≤ l.length ∧ ∀ z ∈ l.take k, ¬ (dtB f prov t x18 z)}) (fun y => [(0, .slice A0 l.length c0), (1, .slice A1 ps.length c1), (2, .int .i64 prov), (3, .int .i64 t), (10, .pointer (some ⟨g10, 0, none⟩)), (13, .slice A0 l.length c0), (14, .int .i64 (l.length : Nat)), (15, .int .i64 ((i : Nat) : Int)), (39, .slice A0 l.length c0), (40, .int .i64 (l.length : Nat)), (41, .int .i64 ((y.1 : Nat) : Int))]) (fun y => Pm w [.blk g10 65 x18.cells]) (fun y => l.length - y.1) (⟨0, Nat.zero_le _, fun z hz => by rw [List.take_zero] at hz; cases hz⟩) ⟨rfl, rfl, rfl, rfl, rfl, rfl, rfl, rfl, rfl, rfl, rfl, trivial⟩ (fun w1 hw => hw) ?_
  rintro ⟨k, hk, hmb⟩
  try dsimp only at hk hmb ⊢
  refine zSG ?_
  refine TL.sp bin_lss (fun q42 => ?_) (fun q42 => ?_)
  ·refine zET (zS (zc (zk (zT (zS (zB (zSG (TL.mv ?_))))))))
   have hi44 : k < l.length := by omega
   obtain ⟨x44, hx44⟩ := ex_at hi44
   obtain ⟨b44, o44, hA44, hbb44, hc44⟩ := hr.ad (by omega) (by decide)
   refine TL.val rfl rfl rfl (gA (i := k) Tryz.underlying23 prssz65 rfl rfl rfl rfl hA44 (by omega)) ?_
   refine TL.v (gR rs_cel prsag65 prssz65 hbb44 hx44 hc44) ?_
   refine TL.pnew rfl rfl rfl (exec_alloc (cs := [.int .i64 0, .int .i64 0, .int .i64 0, .int .i64 0, .int .u32 0, .int .i64 0, .int .i64 0, .int .i64 0, .bool false, .bool false, .int .i64 0, .int .u32 0, .int .i64 0, .int .i64 0, .int .i64 0, .int .i64 0, .int .i64 0]) rfl arpzv65 rfl) (fun g12 => ?_)
   refine TL.as_ ?_
   refine TL.pstore (k := 0) (vs := x44.cells) rfl rfl rfl rfl rfl rfl rfl prssz65 (rs_cel.one _) (by show 17 ≤ 17; decide) (L' := [.blk g12 65 x44.cells, .blk g10 65 x18.cells]) rfl ?_
   refine zET (zSG (TL.v (gF prsfld65_3) ?_))
   refine TL.v (gL 0 pcmag3) ?_
   refine TL.mv ?_
   refine TL.sp bin_geq (fun q49 => ?_) (fun q49 => ?_)
   ·refine TL.rn 3 rfl (TL.gu ?_)
    have hi53 : k < ps.length := by omega
    obtain ⟨x53, hx53⟩ := ex_at hi53
    obtain ⟨b53, o53, hA53, hbb53, hc53⟩ := hr1.ad (by omega) (by decide)
    refine TL.val rfl rfl rfl (gA (i := k) Tryz.underlying106 pcmsz3 rfl rfl rfl rfl hA53 (by omega)) ?_
    refine TL.gu ?_
    refine TL.val rfl rfl rfl (gives_load (v := .int .i64 x53) rfl rfl pcmag3 (fun w1 hw => (hw.bel.cell hbb53).trans <| flat_cell (ic_cel .i64) hx53 hc53 0 _ rfl)) ?_
    refine TL.rn 1 rfl (TL.gu ?_)
    refine TL.sp bin_eql (fun q56 => ?_) (fun q56 => ?_)
    ·refine TL.rn 2 rfl (TL.ov (gF prsfld65_11) ?_)
     refine TL.ov (gF prsfld63_0) ?_
     refine TL.ov (gL 0 pcmag30) ?_
     refine TL.ov (gF prsfld65_11) ?_
     refine TL.ov (gF prsfld63_0) ?_
     refine TL.ov (gL 1 pcmag30) ?_
     refine TL.gu ?_
     refine TL.sp bin_neq (fun q65 => ?_) (fun q65 => ?_)
     ·refine TL.pk ?_
      refine zET (zc (zSG (TL.as_ ?_)))
      refine zET (zr (zRR (zR (TX.in_ret (zRR (zR (zRR ?_)))))))
      have hit : DtF f l prov t := ⟨x18, List.mem_of_getElem? hx18, ⟨by omega, by rw [← map_at hps hx18 hx27]; exact q29, by rw [← map_at hps hx18 hx27]; exact q37⟩, x44, List.mem_of_getElem? hx44, by omega, by rw [← map_at hps hx44 hx53]; exact q56, q65⟩
      exact ret_tmp Tryz.results81 rfl (fun w1 hw => ⟨⟨true, fun _ => hit, fun _ => rfl⟩, rfl, hw.bel⟩)
     refine TL.pk ?_
     refine zET (zd (zk (zN (zT (zG (TL.v (gD ((k + 1 : Nat) : Int)) ?_))))))
     refine TL.mv ?_
     refine zE ?_
     exact TX.round (⟨k + 1, by omega, not_snoc hmb hx44 (fun h => q65 h.2.2)⟩) (by show l.length - (k + 1) < l.length - k; omega) ⟨rfl, rfl, rfl, rfl, rfl, rfl, rfl, rfl, rfl, rfl, rfl, trivial⟩ (fun w1 hw => hw.pick [1] (by decide) rfl)
    refine TL.rn 10 rfl (zET (zd (zk (zN (zT (zG (TL.v (gD ((k + 1 : Nat) : Int)) ?_)))))))
    refine TL.mv ?_
    refine zE ?_
    exact TX.round (⟨k + 1, by omega, not_snoc hmb hx44 (fun h => q56 (by rw [map_at hps hx44 hx53]; exact h.2.1))⟩) (by show l.length - (k + 1) < l.length - k; omega) ⟨rfl, rfl, rfl, rfl, rfl, rfl, rfl, rfl, rfl, rfl, rfl, trivial⟩ (fun w1 hw => hw.pick [1] (by decide) rfl)
   refine TL.rn 17 rfl (zET (zd (zk (zN (zT (zG (TL.v (gD ((k + 1 : Nat) : Int)) ?_)))))))
   refine TL.mv ?_
   refine zE ?_
   exact TX.round (⟨k + 1, by omega, not_snoc hmb hx44 (fun h => by have := h.1; omega)⟩) (by show l.length - (k + 1) < l.length - k; omega) ⟨rfl, rfl, rfl, rfl, rfl, rfl, rfl, rfl, rfl, rfl, rfl, trivial⟩ (fun w1 hw => hw.pick [1] (by decide) rfl)
  refine zET (zS (zd (zx (zX (zX (zM (zN (zT (zG (TL.v (gD ((i + 1 : Nat) : Int)) ?_))))))))))
  refine TL.mv ?_
  refine zE ?_
  exact TX.round (⟨i + 1, by omega, not_snoc hma hx18 (fun h => by obtain ⟨_, b, hb, h2⟩ := h; rw [List.take_of_length_le (by omega)] at hmb; exact hmb b hb h2)⟩) (by show l.length - (i + 1) < l.length - i; omega) ⟨rfl, rfl, rfl, rfl, rfl, rfl, rfl, trivial⟩ (fun w1 hw => hw.pick [] (by decide) rfl)
 refine zET (zS (zd (zx (zX (zX (zM (zT (zSG (TL.as_ ?_)))))))))
 refine zET (zr ?_)
 have hno : ¬ DtF f l prov t := by
  rintro ⟨a, h1, h2⟩
  rw [List.take_of_length_le (by omega)] at hma
  exact hma a h1 h2
 exact ret_tmp Tryz.results81 rfl (fun w1 hw => ⟨⟨false, fun h => (by cases h), fun h => absurd h hno⟩, rfl, hw.bel⟩)
set_option maxRecDepth 20000
def DtP (es : List En) (l : List Rs) (p : Rp) : Prop := p.kind = 2 ∧ ∃ y, IsSt l p.trc p.flow y ∧ DtF (fun r : Rs => provR es r.src r.back) (atL y p.ttl) p.prov p.at_
theorem ad2fld34_1 (g o : Nat) (w : World) : (Instr.fieldAt 34 (.pointer (some ⟨g, o, none⟩)) 1).run Tryz.prog w = .ok (.pointer (some ⟨g, o + 1, none⟩)) w := by kernel_rfl
theorem ad2ag32 (w : World) : (isAgg 32).run Tryz.prog w = .ok true w := rfl
theorem ad2sz32 (w : World) : (sizeOf 32).run Tryz.prog w = .ok 3 w := rfl
theorem ad2fld34_2 (g o : Nat) (w : World) : (Instr.fieldAt 34 (.pointer (some ⟨g, o, none⟩)) 2).run Tryz.prog w = .ok (.pointer (some ⟨g, o + 4, none⟩)) w := by kernel_rfl
theorem ad2ag3 (w : World) : (isAgg 3).run Tryz.prog w = .ok false w := rfl
theorem ad2fld34_3 (g o : Nat) (w : World) : (Instr.fieldAt 34 (.pointer (some ⟨g, o, none⟩)) 3).run Tryz.prog w = .ok (.pointer (some ⟨g, o + 5, none⟩)) w := by kernel_rfl
theorem ad2nm73 : (Tryz.f73.name == "runtime.NumGoroutine") = false := by decide
theorem ad2bd73 : Tryz.f73.body.isNone = false := rfl
theorem ad2nm77 : (Tryz.f77.name == "runtime.NumGoroutine") = false := by decide
theorem ad2bd77 : Tryz.f77.body.isNone = false := rfl
theorem ad2fld34_0 (g o : Nat) (w : World) : (Instr.fieldAt 34 (.pointer (some ⟨g, o, none⟩)) 0).run Tryz.prog w = .ok (.pointer (some ⟨g, o + 0, none⟩)) w := by kernel_rfl
theorem ad2ag26 (w : World) : (isAgg 26).run Tryz.prog w = .ok true w := rfl
theorem ad2sz26 (w : World) : (sizeOf 26).run Tryz.prog w = .ok 1 w := rfl
theorem ad2fld34_5 (g o : Nat) (w : World) : (Instr.fieldAt 34 (.pointer (some ⟨g, o, none⟩)) 5).run Tryz.prog w = .ok (.pointer (some ⟨g, o + 7, none⟩)) w := by kernel_rfl
theorem ad2fld34_4 (g o : Nat) (w : World) : (Instr.fieldAt 34 (.pointer (some ⟨g, o, none⟩)) 4).run Tryz.prog w = .ok (.pointer (some ⟨g, o + 6, none⟩)) w := by kernel_rfl
theorem ad2nm82 : (Tryz.f82.name == "runtime.NumGoroutine") = false := by decide
theorem ad2bd82 : Tryz.f82.body.isNone = false := rfl
theorem ad2nm81 : (Tryz.f81.name == "runtime.NumGoroutine") = false := by decide
theorem ad2bd81 : Tryz.f81.body.isNone = false := rfl
theorem detour_any (A0 : Option Addr) (c0 : Nat) (l : List Rs) (A1 : Option Addr) (c1 : Nat) (es : List En) (p : Rp) (w : World) (hr : Reads w w.heap.size 17 A0 l.length (flat Rs.cells l)) (hl1 : l.length ≤ 100000) (hok : ∀ r ∈ l, r.Ok) (hr1 : Reads w w.heap.size 5 A1 es.length (flat En.cells es)) :
  Calls Tryz.prog 35 #[.slice A0 l.length c0, .agg #[.slice A1 es.length c1], .agg p.cells.toArray] w fun e w' => ∃ x : {b : Bool // b = true ↔ DtP es l p}, e = .returned (.bool x.1) ∧ Below w.heap.size w w' := by
 refine begin_ (vs := [.slice A0 l.length c0, .agg #[.slice A1 es.length c1], .agg p.cells.toArray]) Tryz.func35 rfl rfl rfl ?_ (Pm.start w)
 refine zSG ?_
 refine TL.pnew rfl rfl rfl (exec_box (cs := [.slice A1 es.length c1]) rfl rfl rfl) (fun g4 => ?_)
 refine TL.pnew rfl rfl rfl (exec_box (cs := p.cells) rfl rfl rfl) (fun g5 => ?_)
 refine TL.as_ ?_
 refine zET (zS (TC.held (ls := #[Ff,Ff,Ff,Ff,Ff,Ff,Ff,Ff,Ff,Ff]) (Pm w [.blk g5 34 p.cells, .blk g4 26 [.slice A1 es.length c1]]) (by kernel_rfl) rfl rfl (fun w hw => hw.drawn _) ?_))
 refine TH.tk 0 rfl rfl rfl (gives_move rfl rfl) (fun w1 hw => hw) ?_
 refine TH.tk 1 rfl rfl rfl (gF ad2fld34_1) (fun w1 hw => hw) ?_
 refine TH.tk 2 rfl rfl rfl (gV 0 (.agg #[.int .i64 p.v, .int .u32 p.dst, .int .i64 p.proto]) ad2ag32 ad2sz32) (fun w1 hw => hw) ?_
 refine TH.tk 3 rfl rfl rfl (gF ad2fld34_2) (fun w1 hw => hw) ?_
 refine TH.tk 4 rfl rfl rfl (gL 0 ad2ag3) (fun w1 hw => hw) ?_
 refine TH.tk 6 rfl rfl rfl (gF ad2fld34_3) (fun w1 hw => hw) ?_
 refine TH.tk 7 rfl rfl rfl (gL 0 ad2ag3) (fun w1 hw => hw) ?_
 refine TH.only' 5 rfl (by kernel_rfl) rfl ?_
 refine TL.pcallPm (α := {y : (Option Addr × Nat) × List Rs // IsSt l p.trc p.flow y.2 ∧ y.2.length ≤ y.1.2 ∧ y.1.2 ≤ maxLen}) (fun x => .slice x.1.1.1 x.1.2.length x.1.1.2) (fun x => [.row (.slice x.1.1.1 x.1.2.length x.1.1.2) 65 17 x.1.2.length (flat Rs.cells x.1.2)]) rfl rfl rfl rfl rfl Tryz.func73 ad2nm73 ad2bd73 (fun w1 hw => stream_any A0 c0 l p.trc p.flow w1 (hr.up hw.bel) hl1 hok) ?_
 rintro ⟨⟨⟨R13, rc13⟩, st13⟩, hP13, hR131, hR132⟩
 dsimp only [List.cons_append, List.nil_append]
 dsimp only at hP13 hR131 hR132 ⊢
 refine zE ?_
 refine TX.held (fun w1 hw => hw.pick [1, 2] (by decide) rfl) ?_
 refine TH.only' 8 rfl (by kernel_rfl) rfl ?_
 refine TL.pcallPm (α := {y : (Option Addr × Nat) × List Rs // y.2 = atL st13 p.ttl ∧ y.2.length ≤ y.1.2 ∧ y.1.2 ≤ maxLen}) (fun x => .slice x.1.1.1 x.1.2.length x.1.1.2) (fun x => [.row (.slice x.1.1.1 x.1.2.length x.1.1.2) 65 17 x.1.2.length (flat Rs.cells x.1.2)]) rfl rfl rfl rfl rfl Tryz.func77 ad2nm77 ad2bd77 (fun w1 hw => atl_any R13 rc13 st13 p.ttl w1 (pm_rd hw (k := 0) rfl) (by have := hP13.le; omega)) ?_
 rintro ⟨⟨⟨R16, rc16⟩, at16⟩, hP16, hR161, hR162⟩
 dsimp only [List.cons_append, List.nil_append]
 dsimp only at hP16 hR161 hR162 ⊢
 refine zE ?_
 refine TX.he (fun w1 hw => hw.pick [2, 3] (by decide) rfl) fun hS => ?_
 refine TH.t 9 rfl (gives_assign rfl rfl) hS ?_
 refine TH.done (by kernel_rfl) ?_
 refine zT (zS ?_)
 by_cases hk : p.kind = 2
 ·have hal : at16.length ≤ 100000 := by have := hP13.le; have := List.length_filter_le (fun r : Rs => r.ans && decide (r.ttl = p.ttl)) st13; rw [hP16]; unfold atL; omega
  refine TC.held (ls := #[Ff,Ff,Ff,Ff,Ff,Ff,Ff,Ff,Ff,Ff,Ff,Ff,Ff,Ff,Ff]) (Pm w [.blk g5 34 p.cells, .blk g4 26 [.slice A1 es.length c1]]) (by kernel_rfl) rfl rfl (fun w hw => hw.drawn _) ?_
  refine TH.tk 0 rfl rfl rfl (gF ad2fld34_0) (fun w1 hw => hw.pick [2, 3] (by decide) rfl) ?_
  refine TH.tk 1 rfl rfl rfl (gL 0 ad2ag3) (fun w1 hw => hw.pick [2, 3] (by decide) rfl) ?_
  refine TH.tk 2 rfl rfl rfl (gives_bin rfl rfl rfl (fun w => bin_eql_t (hk) w)) (fun w1 hw => hw.pick [2, 3] (by decide) rfl) ?_
  refine TH.tk 3 rfl rfl rfl (gives_move rfl rfl) (fun w1 hw => hw.pick [2, 3] (by decide) rfl) ?_
  refine TH.takeG 4 rfl (by kernel_rfl) (by kernel_rfl) (by kernel_rfl) rfl rfl rfl rfl rfl rfl (gives_move rfl rfl) (fun w1 hw => hw.pick [2, 3] (by decide) rfl) ?_
  refine TH.takeG 5 rfl (by kernel_rfl) (by kernel_rfl) (by kernel_rfl) rfl rfl rfl rfl rfl rfl (gives_move rfl rfl) (fun w1 hw => hw.pick [2, 3] (by decide) rfl) ?_
  refine TH.takeG 6 rfl (by kernel_rfl) (by kernel_rfl) (by kernel_rfl) rfl rfl rfl rfl rfl rfl (gV 1 (.agg #[.slice A1 es.length c1]) ad2ag26 ad2sz26) (fun w1 hw => hw.pick [2, 3] (by decide) rfl) ?_
  refine TH.takeG 8 rfl (by kernel_rfl) (by kernel_rfl) (by kernel_rfl) rfl rfl rfl rfl rfl rfl (gF ad2fld34_5) (fun w1 hw => hw.pick [2, 3] (by decide) rfl) ?_
  refine TH.takeG 9 rfl (by kernel_rfl) (by kernel_rfl) (by kernel_rfl) rfl rfl rfl rfl rfl rfl (gL 0 ad2ag3) (fun w1 hw => hw.pick [2, 3] (by decide) rfl) ?_
  refine TH.takeG 10 rfl (by kernel_rfl) (by kernel_rfl) (by kernel_rfl) rfl rfl rfl rfl rfl rfl (gF ad2fld34_4) (fun w1 hw => hw.pick [2, 3] (by decide) rfl) ?_
  refine TH.takeG 11 rfl (by kernel_rfl) (by kernel_rfl) (by kernel_rfl) rfl rfl rfl rfl rfl rfl (gL 0 ad2ag3) (fun w1 hw => hw.pick [2, 3] (by decide) rfl) ?_
  refine TH.only' 7 rfl (by kernel_rfl) rfl ?_
  refine TL.gu ?_
  refine TL.pcallPm (α := {y : (Option Addr × Nat) × List Int // y.2 = at16.map (fun r : Rs => provR es r.src r.back) ∧ y.2.length ≤ y.1.2 ∧ y.1.2 ≤ maxLen}) (fun x => .slice x.1.1.1 x.1.2.length x.1.1.2) (fun x => [.row (.slice x.1.1.1 x.1.2.length x.1.1.2) 3 1 x.1.2.length (flat (ic .i64) x.1.2)]) rfl rfl rfl rfl rfl Tryz.func82 ad2nm82 ad2bd82 (fun w1 hw => providers_any R16 rc16 at16 A1 c1 es w1 (pm_rd hw (k := 0) rfl) (by omega) (hr1.up hw.bel)) ?_
  rintro ⟨⟨⟨R24, rc24⟩, pv24⟩, hP24, hR241, hR242⟩
  dsimp only [List.cons_append, List.nil_append]
  dsimp only at hP24 hR241 hR242 ⊢
  refine zE ?_
  refine TX.held (fun w1 hw => hw.pick [3, 4] (by decide) rfl) ?_
  refine TH.only' 12 rfl (by kernel_rfl) rfl ?_
  refine TL.gu ?_
  refine TL.pcallPm (α := {b : Bool // b = true ↔ DtF (fun r : Rs => provR es r.src r.back) at16 p.prov p.at_}) (fun x => .bool x.1) (fun x => []) rfl rfl rfl rfl rfl Tryz.func81 ad2nm81 ad2bd81 (fun w1 hw => (detour_l R16 rc16 at16 R24 rc24 pv24 (fun r : Rs => provR es r.src r.back) p.prov p.at_ w1 (pm_rd hw (k := 1) rfl) (by omega) (pm_rd hw (k := 0) rfl) hP24).mono fun en w2 ⟨x, h1, h2⟩ => ⟨x, h1, (Pm.start w1).below h2⟩) ?_
  rintro ⟨bd, hbd⟩
  dsimp only [List.cons_append, List.nil_append]
  refine zE ?_
  refine TX.he (fun w1 hw => hw.pick [3, 4] (by decide) rfl) fun hS => ?_
  refine TH.t 13 rfl (gives_pick rfl rfl rfl) hS ?_
  refine TH.t 14 rfl (gives_assign rfl rfl) hS ?_
  refine TH.done (by kernel_rfl) ?_
  refine zT (zr ?_)
  exact ret_tmp Tryz.results35 rfl (fun w1 hw => ⟨⟨bd, hbd.trans ⟨fun h => ⟨hk, st13, hP13, by rw [← hP16]; exact h⟩, fun ⟨_, y, h1, h2⟩ => by rw [hP16, hP13.eq h1]; exact h2⟩⟩, rfl, hw.bel⟩)
 have hal : at16.length ≤ 100000 := by have := hP13.le; have := List.length_filter_le (fun r : Rs => r.ans && decide (r.ttl = p.ttl)) st13; rw [hP16]; unfold atL; omega
 refine TC.held (ls := #[Ff,Ff,Ff,Ff,Ff,Ff,Ff,Ff,Ff,Ff,Ff,Ff,Ff,Ff,Ff]) (Pm w [.blk g5 34 p.cells, .blk g4 26 [.slice A1 es.length c1]]) (by kernel_rfl) rfl rfl (fun w hw => hw.drawn _) ?_
 refine TH.tk 0 rfl rfl rfl (gF ad2fld34_0) (fun w1 hw => hw.pick [2, 3] (by decide) rfl) ?_
 refine TH.tk 1 rfl rfl rfl (gL 0 ad2ag3) (fun w1 hw => hw.pick [2, 3] (by decide) rfl) ?_
 refine TH.tk 2 rfl rfl rfl (gives_bin rfl rfl rfl (fun w => bin_eql_f (hk) w)) (fun w1 hw => hw.pick [2, 3] (by decide) rfl) ?_
 refine TH.tk 3 rfl rfl rfl (gives_move rfl rfl) (fun w1 hw => hw.pick [2, 3] (by decide) rfl) ?_
 refine TH.off 4 rfl (by kernel_rfl) (by kernel_rfl) (by kernel_rfl) rfl rfl rfl rfl rfl rfl rfl (fun w1 hw => hw.pick [2, 3] (by decide) rfl) ?_
 refine TH.off 5 rfl (by kernel_rfl) (by kernel_rfl) (by kernel_rfl) rfl rfl rfl rfl rfl rfl rfl (fun w1 hw => hw.pick [2, 3] (by decide) rfl) ?_
 refine TH.off 6 rfl (by kernel_rfl) (by kernel_rfl) (by kernel_rfl) rfl rfl rfl rfl rfl rfl rfl (fun w1 hw => hw.pick [2, 3] (by decide) rfl) ?_
 refine TH.off 7 rfl (by kernel_rfl) (by kernel_rfl) (by kernel_rfl) rfl rfl rfl rfl rfl rfl rfl (fun w1 hw => hw.pick [2, 3] (by decide) rfl) ?_
 refine TH.off 8 rfl (by kernel_rfl) (by kernel_rfl) (by kernel_rfl) rfl rfl rfl rfl rfl rfl rfl (fun w1 hw => hw.pick [2, 3] (by decide) rfl) ?_
 refine TH.off 9 rfl (by kernel_rfl) (by kernel_rfl) (by kernel_rfl) rfl rfl rfl rfl rfl rfl rfl (fun w1 hw => hw.pick [2, 3] (by decide) rfl) ?_
 refine TH.off 10 rfl (by kernel_rfl) (by kernel_rfl) (by kernel_rfl) rfl rfl rfl rfl rfl rfl rfl (fun w1 hw => hw.pick [2, 3] (by decide) rfl) ?_
 refine TH.off 11 rfl (by kernel_rfl) (by kernel_rfl) (by kernel_rfl) rfl rfl rfl rfl rfl rfl rfl (fun w1 hw => hw.pick [2, 3] (by decide) rfl) ?_
 refine TH.off 12 rfl (by kernel_rfl) (by kernel_rfl) (by kernel_rfl) rfl rfl rfl rfl rfl rfl rfl (fun w1 hw => hw.pick [2, 3] (by decide) rfl) ?_
 refine TH.tk 13 rfl rfl rfl (gives_pick rfl rfl rfl) (fun w1 hw => hw.pick [2, 3] (by decide) rfl) ?_
 refine TH.tk 14 rfl rfl rfl (gives_assign rfl rfl) (fun w1 hw => hw.pick [2, 3] (by decide) rfl) ?_
 refine TH.done (by kernel_rfl) ?_
 refine zT (zr ?_)
 exact ret_tmp Tryz.results35 rfl (fun w1 hw => ⟨⟨false, by simp [DtP, hk]⟩, rfl, hw.bel⟩)
open Go Go.RowKit Go.Shelf Go.Sort
def SortedI (l l' : List Int) : Prop := l'.Perm l ∧ l'.Pairwise (· ≤ ·)
theorem sortInt {b n cap : Nat} {A : Option Addr} {l : List Int} {w : World} (hr : w.ownsRow b 3 1 (.slice A n cap) n (flat (ic .i64) l)) (hl : l.length = n) (hn : n ≤ 1000000) :
    Calls Tryz.prog 124 #[.slice A n cap] w fun en w' => en = .returned (.tuple #[]) ∧ ∃ l', SortedI l l' ∧ w'.ownsRow b 3 1 (.slice A n cap) n (flat (ic .i64) l') ∧ w.grownBy w' (Value.ownBlock (.slice A n cap)) := by
  rcases id hr.2 with ⟨hv, h0⟩ | ⟨q, cap', cur, hv, hb, hq, h1, h2, h3, h4⟩
  · cases hv
    obtain rfl : l = [] := List.eq_nil_of_length_eq_zero (by omega)
    refine (AnyM.slices_Sort_int_none sortLay none 0 w).mono fun en w' ⟨h5, h6⟩ => ⟨h5, [], ⟨List.Perm.refl _, List.Pairwise.nil⟩, ?_, ?_⟩
    · rw [h6]; exact hr
    · rw [h6]; exact ⟨rfl, rfl, rfl, Nat.le_refl _, fun _ _ _ => rfl⟩
  · cases hv
    subst hl
    have hqs : q < w.heap.size := (Array.getElem?_eq_some_iff.1 hq).1
    rw [flat_ic, Nat.mul_one] at h4
    have hc := AnyM.slices_Sort_int sortLay q 0 cap l w (holds_of_blockI hq h4) hqs (by omega)
    refine Calls.mono hc ?_
    rintro en w' ⟨h5, m, os, hw⟩
    have hlen : (l.mergeSort fun x y => decide (x ≤ y)).length = l.length := List.length_mergeSort l
    refine ⟨h5, l.mergeSort fun x y => decide (x ≤ y), ⟨List.mergeSort_perm _ _, ?_⟩, ?_, ?_⟩
    · have := List.pairwise_mergeSort (le := fun x y : Int => decide (x ≤ y)) (fun a b c h1 h2 => by simp only [decide_eq_true_eq] at *; exact Int.le_trans h1 h2) (fun a b => by simp only [Bool.or_eq_true, decide_eq_true_eq]; exact Int.le_total a b) l
      exact this.imp fun h => of_decide_eq_true h
    · rw [hw, flat_ic]
      exact ownsRow_sortedI hlen hb hq h1 h2 h3
    · rw [hw]; exact grownBy_sortedI _
def eaL (l : List Rs) (t : Int) : List Int := (l.filter fun r => decide (r.back < t)).map fun r => r.back - r.at_
def laL (l : List Rs) (t : Int) : List Int := (l.filter fun r => !decide (r.back < t) && decide (t ≤ r.at_)).map fun r => r.back - r.at_
section
variable {l : List Rs} {t : Int} {i : Nat} {x : Rs} {o : List Int}
theorem ea_t (hx : l[i]? = some x) (h : x.back < t) (ho : eaL (l.take i) t = o) : eaL (l.take (i + 1)) t = o ++ [x.back - x.at_] := by
  unfold eaL at ho ⊢
  rw [List.take_add_one, hx, List.filter_append, List.map_append, ho]
  simp [h]
theorem ea_f (hx : l[i]? = some x) (h : ¬ x.back < t) (ho : eaL (l.take i) t = o) : eaL (l.take (i + 1)) t = o := by
  unfold eaL at ho ⊢
  rw [List.take_add_one, hx, List.filter_append, List.map_append, ho]
  simp [h]
theorem la_t (hx : l[i]? = some x) (h : ¬ x.back < t) (h2 : x.at_ ≥ t) (ho : laL (l.take i) t = o) : laL (l.take (i + 1)) t = o ++ [x.back - x.at_] := by
  unfold laL at ho ⊢
  rw [List.take_add_one, hx, List.filter_append, List.map_append, ho]
  have : t ≤ x.at_ := h2
  simp [h, this]
theorem la_f (hx : l[i]? = some x) (h : x.back < t ∨ ¬ x.at_ ≥ t) (ho : laL (l.take i) t = o) : laL (l.take (i + 1)) t = o := by
  unfold laL at ho ⊢
  rw [List.take_add_one, hx, List.filter_append, List.map_append, ho]
  rcases h with h | h
  · simp [h]
  · have : ¬ t ≤ x.at_ := h
    simp [this]
theorem ea_mem {z : Int} (h : z ∈ eaL l t) : ∃ r ∈ l, z = r.back - r.at_ := by
  obtain ⟨r, hr, rfl⟩ := List.mem_map.1 h
  exact ⟨r, (List.mem_filter.1 hr).1, rfl⟩
theorem la_mem {z : Int} (h : z ∈ laL l t) : ∃ r ∈ l, z = r.back - r.at_ := by
  obtain ⟨r, hr, rfl⟩ := List.mem_map.1 h
  exact ⟨r, (List.mem_filter.1 hr).1, rfl⟩
end
theorem cnt_low {s : List Int} (hs : s.Pairwise (· ≤ ·)) {k : Nat} {v e : Int} (hv : s[k]? = some v) : k + 1 ≤ (s.filter fun z => decide (z ≤ e)).length ↔ v ≤ e := by
  obtain ⟨hk, hg⟩ := List.getElem?_eq_some_iff.1 hv
  have hsp : (s.filter fun z => decide (z ≤ e)) = ((s.take k).filter fun z => decide (z ≤ e)) ++ ((s.drop k).filter fun z => decide (z ≤ e)) := by rw [← List.filter_append, List.take_append_drop]
  have hd : s.drop k = v :: s.drop (k + 1) := by rw [List.drop_eq_getElem_cons hk, hg]
  have hp := List.pairwise_append.1 (by rw [List.take_append_drop]; exact hs : (s.take k ++ s.drop k).Pairwise (· ≤ ·))
  constructor
  · intro h
    refine Decidable.by_contra fun hn => ?_
    have h0 : ((s.drop k).filter fun z => decide (z ≤ e)) = [] := List.filter_eq_nil_iff.2 fun z hz => by
      rw [hd] at hz
      have : v ≤ z := by
        rcases List.mem_cons.1 hz with h1 | h1
        · rw [h1]; exact Int.le_refl _
        · have := hp.2.1
          rw [hd] at this
          exact (List.pairwise_cons.1 this).1 z h1
      simp; omega
    have h1 := List.length_filter_le (fun z => decide (z ≤ e)) (s.take k)
    rw [hsp, h0, List.append_nil] at h
    rw [List.length_take] at h1
    omega
  · intro h
    have h0 : ((s.take k).filter fun z => decide (z ≤ e)) = s.take k := List.filter_eq_self.2 fun z hz => by
      have := hp.2.2 z hz v (by rw [hd]; exact List.mem_cons_self)
      simp; omega
    rw [hsp, h0, hd, List.filter_cons_of_pos (by simpa using h), List.length_append, List.length_take, List.length_cons]
    omega
theorem cnt_high {s : List Int} (hs : s.Pairwise (· ≤ ·)) {k : Nat} {v e : Int} (hv : s[k]? = some v) : s.length - k ≤ (s.filter fun z => decide (e ≤ z)).length ↔ e ≤ v := by
  obtain ⟨hk, hg⟩ := List.getElem?_eq_some_iff.1 hv
  have hsp : (s.filter fun z => decide (e ≤ z)) = ((s.take (k + 1)).filter fun z => decide (e ≤ z)) ++ ((s.drop (k + 1)).filter fun z => decide (e ≤ z)) := by rw [← List.filter_append, List.take_append_drop]
  have ht : s.take (k + 1) = s.take k ++ [v] := by rw [List.take_add_one, hv]; rfl
  have hp := List.pairwise_append.1 (by rw [List.take_append_drop]; exact hs : (s.take (k + 1) ++ s.drop (k + 1)).Pairwise (· ≤ ·))
  constructor
  · intro h
    refine Decidable.by_contra fun hn => ?_
    have h0 : ((s.take (k + 1)).filter fun z => decide (e ≤ z)) = [] := List.filter_eq_nil_iff.2 fun z hz => by
      have : z ≤ v := by
        rw [ht] at hz
        rcases List.mem_append.1 hz with h1 | h1
        · have := hp.1
          rw [ht] at this
          exact (List.pairwise_append.1 this).2.2 z h1 v (List.mem_singleton.2 rfl)
        · rw [List.mem_singleton.1 h1]; exact Int.le_refl _
      simp; omega
    have h1 := List.length_filter_le (fun z => decide (e ≤ z)) (s.drop (k + 1))
    rw [hsp, h0, List.nil_append] at h
    rw [List.length_drop] at h1
    omega
  · intro h
    have h0 : ((s.drop (k + 1)).filter fun z => decide (e ≤ z)) = s.drop (k + 1) := List.filter_eq_self.2 fun z hz => by
      have := hp.2.2 v (by rw [ht]; exact List.mem_append_right _ (List.mem_singleton.2 rfl)) z hz
      simp; omega
    rw [hsp, h0, ht, List.filter_append, List.filter_cons_of_pos (by simpa using h), List.length_append, List.length_append, List.length_drop, List.length_cons]
    omega
def CgF (ea la : List Int) (prb gro : Int) : Prop := ∃ e ∈ ea, prb ≤ ((ea.filter fun z => decide (z ≤ e)).length : Int) ∧ prb ≤ ((la.filter fun z => decide (gro ≤ z - e)).length : Int)
theorem cg_short {ea la : List Int} {prb gro : Int} (h : (ea.length : Int) < prb ∨ (la.length : Int) < prb) : ¬ CgF ea la prb gro := by
  rintro ⟨e, _, h1, h2⟩
  have h3 := List.length_filter_le (fun z => decide (z ≤ e)) ea
  have h4 := List.length_filter_le (fun z => decide (gro ≤ z - e)) la
  omega
theorem cg_iff {ea la sE sL : List Int} {K : Nat} {prb gro e0 b0 : Int} (hE : SortedI ea sE) (hL : SortedI la sL) (hK : prb = K) (h1 : 1 ≤ K) (h2 : K ≤ la.length) (he : sE[K - 1]? = some e0) (hb : sL[la.length - K]? = some b0) : CgF ea la prb gro ↔ b0 - e0 ≥ gro := by
  subst hK
  have hlE : ∀ e, (ea.filter fun z => decide (z ≤ e)).length = (sE.filter fun z => decide (z ≤ e)).length := fun e => ((hE.1.filter _).length_eq).symm
  have hf : ∀ e, (la.filter fun z => decide (gro ≤ z - e)).length = (sL.filter fun z => decide (gro + e ≤ z)).length := fun e => by
    rw [← (hL.1.filter _).length_eq]
    congr 2; funext z; congr 1; rw [eq_iff_iff]; omega
  have hn : sL.length = la.length := hL.1.length_eq
  have hi : ∀ e, K ≤ (sE.filter fun z => decide (z ≤ e)).length ↔ e0 ≤ e := fun e => by
    have := cnt_low hE.2 (e := e) he
    rw [show K - 1 + 1 = K by omega] at this; exact this
  have hj : ∀ e, K ≤ (sL.filter fun z => decide (gro + e ≤ z)).length ↔ gro + e ≤ b0 := fun e => by
    have := cnt_high hL.2 (e := gro + e) hb
    rw [hn, show la.length - (la.length - K) = K by omega] at this; exact this
  constructor
  · rintro ⟨e, _, h3, h4⟩
    rw [hlE] at h3
    rw [hf] at h4
    have := (hi e).1 (by omega)
    have := (hj e).1 (by omega)
    omega
  · intro h
    refine ⟨e0, hE.1.mem_iff.1 (List.mem_of_getElem? he), ?_, ?_⟩
    · rw [hlE]; have := (hi e0).2 (Int.le_refl _); omega
    · rw [hf]; have := (hj e0).2 (by omega); omega
set_option maxRecDepth 20000
theorem congestion_l (A0 : Option Addr) (c0 : Nat) (l : List Rs) (u : Ru) (t : Int) (w : World) (hr : Reads w w.heap.size 17 A0 l.length (flat Rs.cells l)) (hl1 : l.length ≤ 100000) (hin : ∀ r ∈ l, r.inRange) :
  Calls Tryz.prog 76 #[.slice A0 l.length c0, .agg u.cells.toArray, .int .i64 t] w fun e w' => ∃ x : {b : Bool // b = true ↔ u.prb < 1 ∨ CgF (eaL l t) (laL l t) u.prb u.gro}, e = .returned (.bool x.1) ∧ Below w.heap.size w w' := by
 refine begin_ (vs := [.slice A0 l.length c0, .agg u.cells.toArray, .int .i64 t]) Tryz.func76 rfl rfl rfl ?_ (Pm.start w)
 refine zSG ?_
 refine TL.pnew rfl rfl rfl (exec_box (cs := u.cells) rfl rfl rfl) (fun g4 => ?_)
 refine TL.as_ ?_
 refine zET (zS (zSG (TL.v (gF arpfld28_2) ?_)))
 refine TL.v (gL 0 pcmag3) ?_
 refine TL.sp bin_lss (fun q13 => ?_) (fun q13 => ?_)
 ·refine zET (zc (zSG (TL.as_ ?_)))
  refine zET (zr (zR ?_))
  have hres : true = true ↔ u.prb < 1 ∨ CgF (eaL l t) (laL l t) u.prb u.gro := ⟨fun _ => .inl q13, fun _ => rfl⟩
  exact ret_tmp Tryz.results76 rfl (fun w1 hw => ⟨⟨true, hres⟩, rfl, hw.bel⟩)
 refine zET (zd (zk (zT (zSG (TL.rn 2 rfl (zET (zS (zSG (TL.mv ?_)))))))))
 refine TL.v (gN Tryz.underlying23) ?_
 refine TL.mv ?_
 refine zET (zB (TC.nilrow 3 1 ?_))
 refine TC.nilrow 3 1 ?_
 refine TC.loop_ (α := {y : Nat × (Option Addr × Nat) × (Option Addr × Nat) × List Int × List Int // y.1 ≤ l.length ∧ eaL (l.take y.1) t = y.2.2.2.1 ∧ laL (l.take y.1) t = y.2.2.2.2 ∧ y.2.2.2.1.length ≤ y.1 ∧ y.2.2.2.2.length ≤ y.1 ∧ y.2.2.2.1.length ≤ y.2.1.2 ∧ y.2.1.2 ≤ maxLen ∧ y.2.2.2.2.length ≤ y.2.2.1.2 ∧ y.2.2.1.2 ≤ maxLen}) (fun y => [(2, .int .i64 t), (4, .pointer (some ⟨g4, 0, none⟩)), (14, .slice A0 l.length c0), (15, .int .i64 (l.length : Nat)), (16, .int .i64 ((y.1.1 : Nat) : Int)), (7, .slice y.1.2.1.1 y.1.2.2.2.1.length y.1.2.1.2), (8, .slice y.1.2.2.1.1 y.1.2.2.2.2.length y.1.2.2.1.2)]) (fun y => Pm w [.row (.slice y.1.2.1.1 y.1.2.2.2.1.length y.1.2.1.2) 3 1 y.1.2.2.2.1.length (flat (ic .i64) y.1.2.2.2.1), .row (.slice y.1.2.2.1.1 y.1.2.2.2.2.length y.1.2.2.1.2) 3 1 y.1.2.2.2.2.length (flat (ic .i64) y.1.2.2.2.2), .blk g4 28 u.cells]) (fun y => l.length - y.1.1) (⟨(0, (none, 0), (none, 0), [], []), Nat.zero_le _, rfl, rfl, Nat.le_refl _, Nat.le_refl _, Nat.le_refl _, Nat.zero_le _, Nat.le_refl _, Nat.zero_le _⟩) ⟨rfl, rfl, rfl, rfl, rfl, rfl, rfl, trivial⟩ (fun w1 hw => hw) ?_
 rintro ⟨⟨i, ⟨Ae, ce⟩, ⟨Al, cl⟩, ea, la⟩, hi, hE, hL, hel, hll, hc1, hc2, hc3, hc4⟩
 dsimp only at hi hE hL hel hll hc1 hc2 hc3 hc4 ⊢
 refine zSG ?_
 refine TL.sp bin_lss (fun q17 => ?_) (fun q17 => ?_)
 ·refine zET (zS (zc (zk (zT (zS (zB (zSG ?_)))))))
  have hi18 : i < l.length := by omega
  obtain ⟨x18, hx18⟩ := ex_at hi18
  obtain ⟨b18, o18, hA18, hbb18, hc18⟩ := hr.ad (by omega) (by decide)
  have hin18 := hin x18 (List.mem_of_getElem? hx18)
  unfold Rs.inRange at hin18
  refine TL.val rfl rfl rfl (gA (i := i) Tryz.underlying23 prssz65 rfl rfl rfl rfl hA18 (by omega)) ?_
  refine TL.v (gR rs_cel prsag65 prssz65 hbb18 hx18 hc18) ?_
  refine TL.pnew rfl rfl rfl (exec_alloc (cs := [.int .i64 0, .int .i64 0, .int .i64 0, .int .i64 0, .int .u32 0, .int .i64 0, .int .i64 0, .int .i64 0, .bool false, .bool false, .int .i64 0, .int .u32 0, .int .i64 0, .int .i64 0, .int .i64 0, .int .i64 0, .int .i64 0]) rfl arpzv65 rfl) (fun g10 => ?_)
  refine TL.pstore (k := 0) (vs := x18.cells) rfl rfl rfl rfl rfl rfl rfl prssz65 (rs_cel.one _) (by show 17 ≤ 17; decide) (L' := [.blk g10 65 x18.cells, .row (.slice Ae ea.length ce) 3 1 ea.length (flat (ic .i64) ea), .row (.slice Al la.length cl) 3 1 la.length (flat (ic .i64) la), .blk g4 28 u.cells]) rfl ?_
  refine zET (zB (zSG (TL.v (gF prsfld65_10) ?_)))
  refine TL.v (gL 0 pcmag3) ?_
  refine TL.mv ?_
  refine TL.sp bin_lss (fun q24 => ?_) (fun q24 => ?_)
  ·refine TL.as_ ?_
   refine zET (zc (zG (TL.mv ?_)))
   refine TL.v (gF prsfld65_10) ?_
   refine TL.v (gL 0 pcmag3) ?_
   refine TL.v (gF prsfld65_3) ?_
   refine TL.v (gL 0 pcmag3) ?_
   refine TL.val rfl rfl rfl (gives_bin rfl rfl rfl (fun w => bin_sub_ (r := x18.back - x18.at_) (by simp only [IntKind.wrap_i64]; omega) w)) ?_
   refine TL.prowS (e := 3) (size := 1) (cs := flat (ic .i64) [x18.back - x18.at_]) rfl rfl rfl rfl rfl (fun w => adtbs106_1_5377 _ w) (by decide) rfl (fun g31 => ?_)
   refine TL.appendT (k := 2) rfl rfl rfl rfl Tryz.underlying106 adtel106 rfl rfl rfl (fun w1 hw => pm_reads hw (k := 0) rfl) (flat_one (ic_cel .i64) _) (by show _ * 8 ≤ _; omega) ((ea ++ [x18.back - x18.at_]).length) (by rw [List.length_append]; rfl) (flat (ic .i64) (ea ++ [x18.back - x18.at_])) ((flat_app _ _).symm) (fun A32 c32 hA321 hA322 => ?_)
   refine TL.as_ ?_
   refine zE (zN (zN (zT (zG (TL.v (gD ((i + 1 : Nat) : Int)) ?_)))))
   refine TL.mv ?_
   refine zE ?_
   exact TX.round (⟨(i + 1, (A32, c32), (Al, cl), ea ++ [x18.back - x18.at_], la), by dsimp only; omega, ea_t hx18 q24 hE, la_f hx18 (.inl q24) hL, by dsimp only; rw [List.length_append]; show ea.length + 1 ≤ _; omega, by dsimp only; omega, hA321, hA322, hc3, hc4⟩) (by show l.length - (i + 1) < l.length - i; omega) ⟨rfl, rfl, rfl, rfl, rfl, rfl, rfl, trivial⟩ (fun w1 hw => hw.pick [2, 3, 4] (by decide) rfl)
  refine TL.as_ ?_
  refine zET (zd (zSG (TL.v (gF prsfld65_3) ?_)))
  refine TL.v (gL 0 pcmag3) ?_
  refine TL.mv ?_
  refine TL.sp bin_geq (fun q37 => ?_) (fun q37 => ?_)
  ·refine TL.as_ ?_
   refine zET (zc (zG (TL.mv ?_)))
   refine TL.v (gF prsfld65_10) ?_
   refine TL.v (gL 0 pcmag3) ?_
   refine TL.v (gF prsfld65_3) ?_
   refine TL.v (gL 0 pcmag3) ?_
   refine TL.val rfl rfl rfl (gives_bin rfl rfl rfl (fun w => bin_sub_ (r := x18.back - x18.at_) (by simp only [IntKind.wrap_i64]; omega) w)) ?_
   refine TL.prowS (e := 3) (size := 1) (cs := flat (ic .i64) [x18.back - x18.at_]) rfl rfl rfl rfl rfl (fun w => adtbs106_1_5377 _ w) (by decide) rfl (fun g44 => ?_)
   refine TL.appendT (k := 3) rfl rfl rfl rfl Tryz.underlying106 adtel106 rfl rfl rfl (fun w1 hw => pm_reads hw (k := 0) rfl) (flat_one (ic_cel .i64) _) (by show _ * 8 ≤ _; omega) ((la ++ [x18.back - x18.at_]).length) (by rw [List.length_append]; rfl) (flat (ic .i64) (la ++ [x18.back - x18.at_])) ((flat_app _ _).symm) (fun A45 c45 hA451 hA452 => ?_)
   refine TL.as_ ?_
   refine zE (zN (zN (zT (zG (TL.v (gD ((i + 1 : Nat) : Int)) ?_)))))
   refine TL.mv ?_
   refine zE ?_
   exact TX.round (⟨(i + 1, (Ae, ce), (A45, c45), ea, la ++ [x18.back - x18.at_]), by dsimp only; omega, ea_f hx18 q24 hE, la_t hx18 q24 q37 hL, by dsimp only; omega, by dsimp only; rw [List.length_append]; show la.length + 1 ≤ _; omega, hc1, hc2, hA451, hA452⟩) (by show l.length - (i + 1) < l.length - i; omega) ⟨rfl, rfl, rfl, rfl, rfl, rfl, rfl, trivial⟩ (fun w1 hw => hw.pick [2, 3, 4] (by decide) rfl)
  refine TL.as_ ?_
  refine zET (zd (zk (zN (zN (zT (zG (TL.v (gD ((i + 1 : Nat) : Int)) ?_)))))))
  refine TL.mv ?_
  refine zE ?_
  exact TX.round (⟨(i + 1, (Ae, ce), (Al, cl), ea, la), by dsimp only; omega, ea_f hx18 q24 hE, la_f hx18 (.inr q37) hL, by dsimp only; omega, by dsimp only; omega, hc1, hc2, hc3, hc4⟩) (by show l.length - (i + 1) < l.length - i; omega) ⟨rfl, rfl, rfl, rfl, rfl, rfl, rfl, trivial⟩ (fun w1 hw => hw.pick [1, 2, 3] (by decide) rfl)
 refine zET (zS (zd (zx (zX (zX (zM (zT (zS (zS ?_)))))))))
 have hE2 : eaL l t = ea := by rw [List.take_of_length_le (by omega)] at hE; exact hE
 have hL2 : laL l t = la := by rw [List.take_of_length_le (by omega)] at hL; exact hL
 refine zG (TL.mv ?_)
 refine TL.v (gN Tryz.underlying106) ?_
 refine TL.v (gF arpfld28_2) ?_
 refine TL.v (gL 2 pcmag3) ?_
 refine TL.sp bin_lss (fun q51 => ?_) (fun q51 => ?_)
 ·refine TL.rn 7 rfl (zET (zc (zSG (TL.as_ ?_))))
  refine zET (zr (zR ?_))
  have hres : false = true ↔ u.prb < 1 ∨ CgF (eaL l t) (laL l t) u.prb u.gro := ⟨fun h => (by cases h), fun h => absurd h (by rintro (h | h); exact q13 h; rw [hE2, hL2] at h; exact cg_short (by omega) h)⟩
  exact ret_tmp Tryz.results76 rfl (fun w1 hw => ⟨⟨false, hres⟩, rfl, hw.bel⟩)
 refine TL.rn 2 rfl (TL.ov (gN Tryz.underlying106) ?_)
 refine TL.ov (gF arpfld28_2) ?_
 refine TL.ov (gL 2 pcmag3) ?_
 refine TL.gu ?_
 refine TL.sp bin_lss (fun q57 => ?_) (fun q57 => ?_)
 ·refine TL.pk ?_
  refine zET (zc (zSG (TL.as_ ?_)))
  refine zET (zr (zR ?_))
  have hres : false = true ↔ u.prb < 1 ∨ CgF (eaL l t) (laL l t) u.prb u.gro := ⟨fun h => (by cases h), fun h => absurd h (by rintro (h | h); exact q13 h; rw [hE2, hL2] at h; exact cg_short (by omega) h)⟩
  exact ret_tmp Tryz.results76 rfl (fun w1 hw => ⟨⟨false, hres⟩, rfl, hw.bel⟩)
 refine TL.pk ?_
 refine zET (zd (zk (zT (zSG (TL.mv ?_)))))
 refine TL.turnRowD (k := 0) (fun ys => SortedI ea ys) rfl rfl rfl rfl rfl Tryz.func124 (by decide) rfl rfl (fun w1 hw hr9 => sortInt hr9 rfl (by omega)) (fun sE hsE => ?_)
 try dsimp only [List.set_cons_zero, List.set_cons_succ]
 have hsEl : sE.length = ea.length := hsE.1.length_eq
 refine zET (zSG (TL.mv ?_))
 refine TL.turnRowD (k := 1) (fun ys => SortedI la ys) rfl rfl rfl rfl rfl Tryz.func124 (by decide) rfl rfl (fun w1 hw hr9 => sortInt hr9 rfl (by omega)) (fun sL hsL => ?_)
 try dsimp only [List.set_cons_zero, List.set_cons_succ]
 have hsLl : sL.length = la.length := hsL.1.length_eq
 refine zET (zS ?_)
 obtain ⟨K, hK⟩ : ∃ K : Nat, u.prb = K := ⟨u.prb.toNat, by omega⟩
 have hbsE : ∀ z ∈ sE, 0 ≤ z ∧ z ≤ 2251799813685248 := fun z hz => by
  obtain ⟨r, hr1, rfl⟩ := ea_mem (by rw [hE2]; exact hsE.1.mem_iff.1 hz)
  have := hin r hr1
  unfold Rs.inRange at this
  omega
 have hbsL : ∀ z ∈ sL, 0 ≤ z ∧ z ≤ 2251799813685248 := fun z hz => by
  obtain ⟨r, hr1, rfl⟩ := la_mem (by rw [hL2]; exact hsL.1.mem_iff.1 hz)
  have := hin r hr1
  unfold Rs.inRange at this
  omega
 refine TC.fact (p := ∃ g, Al = some ⟨g, 0, none⟩) (fun w1 hw => rowA hw (k := 1) rfl (by omega)) ?_
 rintro ⟨g_Al, rfl⟩
 refine TC.fact (p := ∃ g, Ae = some ⟨g, 0, none⟩) (fun w1 hw => rowA hw (k := 0) rfl (by omega)) ?_
 rintro ⟨g_Ae, rfl⟩
 refine TC.quietQ (by kernel_rfl) (by kernel_rfl) (fun w hw => hw.drawn _) ?_
 refine TQ.rn 2 rfl (TQ.v (gN Tryz.underlying106) ?_)
 refine TQ.v (gF arpfld28_2) ?_
 refine TQ.v (gL 2 pcmag3) ?_
 refine TQ.val rfl rfl rfl (gives_bin rfl rfl rfl (fun w => bin_sub_ (r := ((la.length - K : Nat) : Int)) (by simp only [IntKind.wrap_i64]; omega) w)) ?_
 have hi69 : la.length - K < sL.length := by omega
 obtain ⟨x69, hx69⟩ := ex_at hi69
 have hvx69 := hbsL x69 (List.mem_of_getElem? hx69)
 refine TQ.val rfl rfl rfl (gA (i := (la.length - K)) Tryz.underlying106 pcmsz3 rfl rfl rfl rfl rfl (by omega)) ?_
 refine TQ.val rfl rfl rfl (gives_load (v := .int .i64 x69) rfl rfl pcmag3 (fun w1 hw => flat_row (ic_cel .i64) hw (q := 1) rfl hx69 0 _ rfl)) ?_
 refine TQ.val rfl rfl rfl (gives_move rfl rfl) ?_
 refine TQ.v (gF arpfld28_2) ?_
 refine TQ.v (gL 2 pcmag3) ?_
 refine TQ.val rfl rfl rfl (gives_bin rfl rfl rfl (fun w => bin_sub_ (r := ((K - 1 : Nat) : Int)) (by simp only [IntKind.wrap_i64]; omega) w)) ?_
 have hi75 : K - 1 < sE.length := by omega
 obtain ⟨x75, hx75⟩ := ex_at hi75
 have hvx75 := hbsE x75 (List.mem_of_getElem? hx75)
 refine TQ.val rfl rfl rfl (gA (i := (K - 1)) Tryz.underlying106 pcmsz3 rfl rfl rfl rfl rfl (by omega)) ?_
 refine TQ.val rfl rfl rfl (gives_load (v := .int .i64 x75) rfl rfl pcmag3 (fun w1 hw => flat_row (ic_cel .i64) hw (q := 0) rfl hx75 0 _ rfl)) ?_
 refine TQ.val rfl rfl rfl (gives_bin rfl rfl rfl (fun w => bin_sub_ (r := x69 - x75) (by simp only [IntKind.wrap_i64]; omega) w)) ?_
 refine TQ.v (gF arpfld28_1) ?_
 refine TQ.v (gL 2 pcmag3) ?_
 refine TQ.sp bin_geq (fun q80 => ?_) (fun q80 => ?_)
 ·refine TQ.val rfl rfl rfl (gives_assign rfl rfl) ?_
  refine TQ.fin ?_
  refine zT (zr ?_)
  have hres : true = true ↔ u.prb < 1 ∨ CgF (eaL l t) (laL l t) u.prb u.gro := ⟨fun _ => .inr (by rw [hE2, hL2]; exact (cg_iff hsE hsL hK (by omega) (by omega) hx75 hx69).2 q80), fun _ => rfl⟩
  exact ret_tmp Tryz.results76 rfl (fun w1 hw => ⟨⟨true, hres⟩, rfl, hw.bel⟩)
 refine TQ.val rfl rfl rfl (gives_assign rfl rfl) ?_
 refine TQ.fin ?_
 refine zT (zr ?_)
 have hres : false = true ↔ u.prb < 1 ∨ CgF (eaL l t) (laL l t) u.prb u.gro := ⟨fun h => (by cases h), fun h => absurd h (by rintro (h | h); exact q13 h; rw [hE2, hL2] at h; exact q80 ((cg_iff hsE hsL hK (by omega) (by omega) hx75 hx69).1 h))⟩
 exact ret_tmp Tryz.results76 rfl (fun w1 hw => ⟨⟨false, hres⟩, rfl, hw.bel⟩)
set_option maxRecDepth 20000
theorem vld_in {r : Rs} (h : vldRs r = true) : r.inRange := by
  unfold vldRs at h
  simp only [Bool.and_eq_true, decide_eq_true_eq] at h
  exact Decidable.by_contra fun h1 => by have := chk_range h1; omega
theorem fin_in {r : Rs} (h : finRs r = true) : 1 ≤ r.ttl ∧ r.ttl ≤ 255 := by
  unfold finRs usbRs at h
  simp only [Bool.and_eq_true] at h
  have := vld_in h.2.2
  unfold Rs.inRange at this
  omega
def IsB (l : List Rs) (t e : Int) : Prop := (e = 0 ∧ ∀ r ∈ l, finRs r = true → t < r.back) ∨ ((∃ r ∈ l, finRs r = true ∧ r.back ≤ t ∧ r.ttl = e) ∧ ∀ r ∈ l, finRs r = true → r.back ≤ t → e ≤ r.ttl)
theorem isB_step (t : Int) : ∀ (l p : List Rs) (e : Int), IsB p t e → IsB (p ++ l) t (l.foldl (fun e r => if fitB t e r then r.ttl else e) e)
  | [], p, e, h => by rw [List.append_nil]; exact h
  | r :: l, p, e, h => by
    have h1 : IsB (p ++ [r]) t (if fitB t e r then r.ttl else e) := by
      have hm : ∀ {x : Rs}, x ∈ p ++ [r] ↔ x ∈ p ∨ x = r := by intro x; rw [List.mem_append, List.mem_singleton]
      by_cases hf : finRs r = true ∧ r.back ≤ t
      · by_cases hc : e = 0 ∨ r.ttl < e
        · have : fitB t e r = true := by unfold fitB; simp [hf, hc]
          rw [if_pos this]
          refine .inr ⟨⟨r, hm.2 (.inr rfl), hf.1, hf.2, rfl⟩, fun x hx hx2 hx3 => ?_⟩
          rcases hm.1 hx with h2 | h2
          · rcases h with ⟨h3, h4⟩ | ⟨⟨y, hy, hy2, hy3, hy4⟩, h4⟩
            · have := h4 x h2 hx2; omega
            · have h5 := h4 x h2 hx2 hx3
              have h6 := fin_in hy2
              omega
          · rw [h2]; exact Int.le_refl _
        · have : fitB t e r = false := by unfold fitB; simp [hf]; omega
          rw [if_neg (by rw [this]; decide)]
          rcases h with ⟨h3, h4⟩ | ⟨⟨y, hy, hy2, hy3, hy4⟩, h4⟩
          · exact absurd (.inl h3) hc
          · refine .inr ⟨⟨y, hm.2 (.inl hy), hy2, hy3, hy4⟩, fun x hx hx2 hx3 => ?_⟩
            rcases hm.1 hx with h2 | h2
            · exact h4 x h2 hx2 hx3
            · rw [h2]; omega
      · have : fitB t e r = false := by
          unfold fitB
          by_cases h8 : finRs r = true
          · have : ¬ r.back ≤ t := fun h9 => hf ⟨h8, h9⟩
            simp [this]
          · simp [h8]
        rw [if_neg (by rw [this]; decide)]
        rcases h with ⟨h3, h4⟩ | ⟨⟨y, hy, hy2, hy3, hy4⟩, h4⟩
        · refine .inl ⟨h3, fun x hx hx2 => ?_⟩
          rcases hm.1 hx with h2 | h2
          · exact h4 x h2 hx2
          · subst h2; exact Int.not_le.1 fun h9 => hf ⟨hx2, h9⟩
        · refine .inr ⟨⟨y, hm.2 (.inl hy), hy2, hy3, hy4⟩, fun x hx hx2 hx3 => ?_⟩
          rcases hm.1 hx with h2 | h2
          · exact h4 x h2 hx2 hx3
          · subst h2; exact absurd ⟨hx2, hx3⟩ hf
    have := isB_step t l (p ++ [r]) _ h1
    rwa [List.append_assoc] at this
theorem isB (l : List Rs) (t : Int) : IsB l t (bend l t) := isB_step t l [] 0 (.inl ⟨rfl, fun r hr => absurd hr List.not_mem_nil⟩)
theorem lost_mono {e e' t : Int} (h : e ≤ e') : ∀ l : List Rs, lostN e' t l ≤ lostN e t l
  | [] => Nat.le_refl _
  | r :: l => by
    have ih := lost_mono (t := t) h l
    unfold lostN at ih ⊢
    rw [List.filter_cons, List.filter_cons]
    by_cases h1 : lostR e' t r = true
    · have h2 : lostR e t r = true := by
        unfold lostR at h1 ⊢
        simp only [Bool.and_eq_true, Bool.not_eq_true', decide_eq_true_eq] at h1 ⊢
        exact ⟨⟨h1.1.1, by omega⟩, h1.2⟩
      rw [if_pos h1, if_pos h2, List.length_cons, List.length_cons]; omega
    · rw [if_neg h1]
      split
      · rw [List.length_cons]; omega
      · exact ih
def hitB (y : List Rs) (losses t : Int) (x : Rs) : Prop := finRs x = true ∧ x.back ≤ t ∧ losses ≤ (lostN x.ttl t y : Int)
theorem bh_iff {y : List Rs} {losses t : Int} : bhF y losses t = true ↔ ∃ x ∈ y, hitB y losses t x := by
  unfold bhF
  simp only [Bool.and_eq_true, decide_eq_true_eq]
  rcases isB y t with ⟨h1, h2⟩ | ⟨⟨r, hr, hr2, hr3, hr4⟩, h2⟩
  · rw [h1]
    constructor
    · rintro ⟨h3, _⟩; omega
    · rintro ⟨x, hx, h3, h4, _⟩; have := h2 x hx h3; omega
  · constructor
    · rintro ⟨_, h3⟩; exact ⟨r, hr, hr2, hr3, by rw [hr4]; exact h3⟩
    · rintro ⟨x, hx, h3, h4, h5⟩
      have h6 := fin_in hr2
      have h7 := lost_mono (t := t) (h2 x hx h3 h4) y
      exact ⟨by omega, by omega⟩
set_option maxRecDepth 20000
def CgP (l : List Rs) (u : Ru) (p : Rp) : Prop := p.kind = 3 ∧ (u.prb < 1 ∨ ∃ y, IsSt l p.trc p.flow y ∧ CgF (eaL (atL y p.ttl) p.at_) (laL (atL y p.ttl) p.at_) u.prb u.gro)
theorem IsSt.in_ {l y : List Rs} {t : Trc} {flow : Int} (h : IsSt l t flow y) (ttl : Int) : ∀ r ∈ atL y ttl, r.inRange := fun r hr => by
 obtain ⟨x, h1, rfl⟩ := h
 have h2 := (List.mem_filter.1 (List.mem_filter.1 hr).1).2
 unfold usbRs at h2
 simp only [Bool.and_eq_true] at h2
 exact vld_in h2.1.2
theorem ac2fld34_0 (g o : Nat) (w : World) : (Instr.fieldAt 34 (.pointer (some ⟨g, o, none⟩)) 0).run Tryz.prog w = .ok (.pointer (some ⟨g, o + 0, none⟩)) w := by kernel_rfl
theorem ac2ag3 (w : World) : (isAgg 3).run Tryz.prog w = .ok false w := rfl
theorem ac2fld34_1 (g o : Nat) (w : World) : (Instr.fieldAt 34 (.pointer (some ⟨g, o, none⟩)) 1).run Tryz.prog w = .ok (.pointer (some ⟨g, o + 1, none⟩)) w := by kernel_rfl
theorem ac2ag32 (w : World) : (isAgg 32).run Tryz.prog w = .ok true w := rfl
theorem ac2sz32 (w : World) : (sizeOf 32).run Tryz.prog w = .ok 3 w := rfl
theorem ac2fld34_2 (g o : Nat) (w : World) : (Instr.fieldAt 34 (.pointer (some ⟨g, o, none⟩)) 2).run Tryz.prog w = .ok (.pointer (some ⟨g, o + 4, none⟩)) w := by kernel_rfl
theorem ac2fld34_3 (g o : Nat) (w : World) : (Instr.fieldAt 34 (.pointer (some ⟨g, o, none⟩)) 3).run Tryz.prog w = .ok (.pointer (some ⟨g, o + 5, none⟩)) w := by kernel_rfl
theorem ac2ag28 (w : World) : (isAgg 28).run Tryz.prog w = .ok true w := rfl
theorem ac2sz28 (w : World) : (sizeOf 28).run Tryz.prog w = .ok 3 w := rfl
theorem ac2fld34_4 (g o : Nat) (w : World) : (Instr.fieldAt 34 (.pointer (some ⟨g, o, none⟩)) 4).run Tryz.prog w = .ok (.pointer (some ⟨g, o + 6, none⟩)) w := by kernel_rfl
theorem ac2nm73 : (Tryz.f73.name == "runtime.NumGoroutine") = false := by decide
theorem ac2bd73 : Tryz.f73.body.isNone = false := rfl
theorem ac2nm77 : (Tryz.f77.name == "runtime.NumGoroutine") = false := by decide
theorem ac2bd77 : Tryz.f77.body.isNone = false := rfl
theorem ac2nm76 : (Tryz.f76.name == "runtime.NumGoroutine") = false := by decide
theorem ac2bd76 : Tryz.f76.body.isNone = false := rfl
theorem congestion_any (A0 : Option Addr) (c0 : Nat) (l : List Rs) (u : Ru) (p : Rp) (w : World) (hr : Reads w w.heap.size 17 A0 l.length (flat Rs.cells l)) (hl1 : l.length ≤ 100000) (hok : ∀ r ∈ l, r.Ok) :
  Calls Tryz.prog 31 #[.slice A0 l.length c0, .agg u.cells.toArray, .agg p.cells.toArray] w fun e w' => ∃ x : {b : Bool // b = true ↔ CgP l u p}, e = .returned (.bool x.1) ∧ Below w.heap.size w w' := by
 refine begin_ (vs := [.slice A0 l.length c0, .agg u.cells.toArray, .agg p.cells.toArray]) Tryz.func31 rfl rfl rfl ?_ (Pm.start w)
 refine zSG ?_
 refine TL.pnew rfl rfl rfl (exec_box (cs := u.cells) rfl rfl rfl) (fun g4 => ?_)
 refine TL.pnew rfl rfl rfl (exec_box (cs := p.cells) rfl rfl rfl) (fun g5 => ?_)
 refine TL.as_ ?_
 refine zET (zS ?_)
 by_cases hk : p.kind = 3
 ·refine TC.held (ls := #[Ff,Ff,Ff,Ff,Ff,Ff,Ff,Ff,Ff,Ff,Ff,Ff,Ff,Ff,Ff,Ff,Ff,Ff,Ff]) (Pm w [.blk g5 34 p.cells, .blk g4 28 u.cells]) (by kernel_rfl) rfl rfl (fun w hw => hw.drawn _) ?_
  refine TH.tk 0 rfl rfl rfl (gF ac2fld34_0) (fun w1 hw => hw) ?_
  refine TH.tk 1 rfl rfl rfl (gL 0 ac2ag3) (fun w1 hw => hw) ?_
  refine TH.tk 2 rfl rfl rfl (gives_bin rfl rfl rfl (fun w => bin_eql_t (hk) w)) (fun w1 hw => hw) ?_
  refine TH.tk 3 rfl rfl rfl (gives_move rfl rfl) (fun w1 hw => hw) ?_
  refine TH.takeG 4 rfl (by kernel_rfl) (by kernel_rfl) (by kernel_rfl) rfl rfl rfl rfl rfl rfl (gives_move rfl rfl) (fun w1 hw => hw) ?_
  refine TH.takeG 5 rfl (by kernel_rfl) (by kernel_rfl) (by kernel_rfl) rfl rfl rfl rfl rfl rfl (gF ac2fld34_1) (fun w1 hw => hw) ?_
  refine TH.takeG 6 rfl (by kernel_rfl) (by kernel_rfl) (by kernel_rfl) rfl rfl rfl rfl rfl rfl (gV 0 (.agg #[.int .i64 p.v, .int .u32 p.dst, .int .i64 p.proto]) ac2ag32 ac2sz32) (fun w1 hw => hw) ?_
  refine TH.takeG 7 rfl (by kernel_rfl) (by kernel_rfl) (by kernel_rfl) rfl rfl rfl rfl rfl rfl (gF ac2fld34_2) (fun w1 hw => hw) ?_
  refine TH.takeG 8 rfl (by kernel_rfl) (by kernel_rfl) (by kernel_rfl) rfl rfl rfl rfl rfl rfl (gL 0 ac2ag3) (fun w1 hw => hw) ?_
  refine TH.takeG 10 rfl (by kernel_rfl) (by kernel_rfl) (by kernel_rfl) rfl rfl rfl rfl rfl rfl (gF ac2fld34_3) (fun w1 hw => hw) ?_
  refine TH.takeG 11 rfl (by kernel_rfl) (by kernel_rfl) (by kernel_rfl) rfl rfl rfl rfl rfl rfl (gL 0 ac2ag3) (fun w1 hw => hw) ?_
  refine TH.takeG 13 rfl (by kernel_rfl) (by kernel_rfl) (by kernel_rfl) rfl rfl rfl rfl rfl rfl (gV 1 (.agg (u.cells).toArray) ac2ag28 ac2sz28) (fun w1 hw => hw) ?_
  refine TH.takeG 14 rfl (by kernel_rfl) (by kernel_rfl) (by kernel_rfl) rfl rfl rfl rfl rfl rfl (gF ac2fld34_4) (fun w1 hw => hw) ?_
  refine TH.takeG 15 rfl (by kernel_rfl) (by kernel_rfl) (by kernel_rfl) rfl rfl rfl rfl rfl rfl (gL 0 ac2ag3) (fun w1 hw => hw) ?_
  refine TH.only' 9 rfl (by kernel_rfl) rfl ?_
  refine TL.gu ?_
  refine TL.pcallPm (α := {y : (Option Addr × Nat) × List Rs // IsSt l p.trc p.flow y.2 ∧ y.2.length ≤ y.1.2 ∧ y.1.2 ≤ maxLen}) (fun x => .slice x.1.1.1 x.1.2.length x.1.1.2) (fun x => [.row (.slice x.1.1.1 x.1.2.length x.1.1.2) 65 17 x.1.2.length (flat Rs.cells x.1.2)]) rfl rfl rfl rfl rfl Tryz.func73 ac2nm73 ac2bd73 (fun w1 hw => stream_any A0 c0 l p.trc p.flow w1 (hr.up hw.bel) hl1 hok) ?_
  rintro ⟨⟨⟨R16, rc16⟩, st16⟩, hP16, hR161, hR162⟩
  dsimp only [List.cons_append, List.nil_append]
  dsimp only at hP16 hR161 hR162 ⊢
  refine zE ?_
  refine TX.held (fun w1 hw => hw.pick [1, 2] (by decide) rfl) ?_
  refine TH.only' 12 rfl (by kernel_rfl) rfl ?_
  refine TL.gu ?_
  refine TL.pcallPm (α := {y : (Option Addr × Nat) × List Rs // y.2 = atL st16 p.ttl ∧ y.2.length ≤ y.1.2 ∧ y.1.2 ≤ maxLen}) (fun x => .slice x.1.1.1 x.1.2.length x.1.1.2) (fun x => [.row (.slice x.1.1.1 x.1.2.length x.1.1.2) 65 17 x.1.2.length (flat Rs.cells x.1.2)]) rfl rfl rfl rfl rfl Tryz.func77 ac2nm77 ac2bd77 (fun w1 hw => atl_any R16 rc16 st16 p.ttl w1 (pm_rd hw (k := 0) rfl) (by have := hP16.le; omega)) ?_
  rintro ⟨⟨⟨R19, rc19⟩, at19⟩, hP19, hR191, hR192⟩
  dsimp only [List.cons_append, List.nil_append]
  dsimp only at hP19 hR191 hR192 ⊢
  refine zE ?_
  refine TX.held (fun w1 hw => hw.pick [2, 3] (by decide) rfl) ?_
  refine TH.only' 16 rfl (by kernel_rfl) rfl ?_
  refine TL.gu ?_
  refine TL.pcallPm (α := {b : Bool // b = true ↔ u.prb < 1 ∨ CgF (eaL at19 p.at_) (laL at19 p.at_) u.prb u.gro}) (fun x => .bool x.1) (fun x => []) rfl rfl rfl rfl rfl Tryz.func76 ac2nm76 ac2bd76 (fun w1 hw => (congestion_l R19 rc19 at19 u p.at_ w1 (pm_rd hw (k := 0) rfl) (by have := hP16.le; have := List.length_filter_le (fun r : Rs => r.ans && decide (r.ttl = p.ttl)) st16; rw [hP19]; unfold atL; omega) (by rw [hP19]; exact hP16.in_ p.ttl)).mono fun en w2 ⟨x, h1, h2⟩ => ⟨x, h1, (Pm.start w1).below h2⟩) ?_
  rintro ⟨bd, hbd⟩
  dsimp only [List.cons_append, List.nil_append]
  refine zE ?_
  refine TX.he (fun w1 hw => hw.pick [2, 3] (by decide) rfl) fun hS => ?_
  refine TH.t 17 rfl (gives_pick rfl rfl rfl) hS ?_
  refine TH.t 18 rfl (gives_assign rfl rfl) hS ?_
  refine TH.done (by kernel_rfl) ?_
  refine zT (zr ?_)
  exact ret_tmp Tryz.results31 rfl (fun w1 hw => ⟨⟨bd, hbd.trans ⟨fun h => ⟨hk, h.imp id fun h => ⟨st16, hP16, by rw [← hP19]; exact h⟩⟩, fun ⟨_, h⟩ => h.imp id fun ⟨y, h1, h2⟩ => by rw [hP19, hP16.eq h1]; exact h2⟩⟩, rfl, hw.bel⟩)
 refine TC.held (ls := #[Ff,Ff,Ff,Ff,Ff,Ff,Ff,Ff,Ff,Ff,Ff,Ff,Ff,Ff,Ff,Ff,Ff,Ff,Ff]) (Pm w [.blk g5 34 p.cells, .blk g4 28 u.cells]) (by kernel_rfl) rfl rfl (fun w hw => hw.drawn _) ?_
 refine TH.tk 0 rfl rfl rfl (gF ac2fld34_0) (fun w1 hw => hw) ?_
 refine TH.tk 1 rfl rfl rfl (gL 0 ac2ag3) (fun w1 hw => hw) ?_
 refine TH.tk 2 rfl rfl rfl (gives_bin rfl rfl rfl (fun w => bin_eql_f (hk) w)) (fun w1 hw => hw) ?_
 refine TH.tk 3 rfl rfl rfl (gives_move rfl rfl) (fun w1 hw => hw) ?_
 refine TH.off 4 rfl (by kernel_rfl) (by kernel_rfl) (by kernel_rfl) rfl rfl rfl rfl rfl rfl rfl (fun w1 hw => hw) ?_
 refine TH.off 5 rfl (by kernel_rfl) (by kernel_rfl) (by kernel_rfl) rfl rfl rfl rfl rfl rfl rfl (fun w1 hw => hw) ?_
 refine TH.off 6 rfl (by kernel_rfl) (by kernel_rfl) (by kernel_rfl) rfl rfl rfl rfl rfl rfl rfl (fun w1 hw => hw) ?_
 refine TH.off 7 rfl (by kernel_rfl) (by kernel_rfl) (by kernel_rfl) rfl rfl rfl rfl rfl rfl rfl (fun w1 hw => hw) ?_
 refine TH.off 8 rfl (by kernel_rfl) (by kernel_rfl) (by kernel_rfl) rfl rfl rfl rfl rfl rfl rfl (fun w1 hw => hw) ?_
 refine TH.off 9 rfl (by kernel_rfl) (by kernel_rfl) (by kernel_rfl) rfl rfl rfl rfl rfl rfl rfl (fun w1 hw => hw) ?_
 refine TH.off 10 rfl (by kernel_rfl) (by kernel_rfl) (by kernel_rfl) rfl rfl rfl rfl rfl rfl rfl (fun w1 hw => hw) ?_
 refine TH.off 11 rfl (by kernel_rfl) (by kernel_rfl) (by kernel_rfl) rfl rfl rfl rfl rfl rfl rfl (fun w1 hw => hw) ?_
 refine TH.off 12 rfl (by kernel_rfl) (by kernel_rfl) (by kernel_rfl) rfl rfl rfl rfl rfl rfl rfl (fun w1 hw => hw) ?_
 refine TH.off 13 rfl (by kernel_rfl) (by kernel_rfl) (by kernel_rfl) rfl rfl rfl rfl rfl rfl rfl (fun w1 hw => hw) ?_
 refine TH.off 14 rfl (by kernel_rfl) (by kernel_rfl) (by kernel_rfl) rfl rfl rfl rfl rfl rfl rfl (fun w1 hw => hw) ?_
 refine TH.off 15 rfl (by kernel_rfl) (by kernel_rfl) (by kernel_rfl) rfl rfl rfl rfl rfl rfl rfl (fun w1 hw => hw) ?_
 refine TH.off 16 rfl (by kernel_rfl) (by kernel_rfl) (by kernel_rfl) rfl rfl rfl rfl rfl rfl rfl (fun w1 hw => hw) ?_
 refine TH.tk 17 rfl rfl rfl (gives_pick rfl rfl rfl) (fun w1 hw => hw) ?_
 refine TH.tk 18 rfl rfl rfl (gives_assign rfl rfl) (fun w1 hw => hw) ?_
 refine TH.done (by kernel_rfl) ?_
 refine zT (zr ?_)
 exact ret_tmp Tryz.results31 rfl (fun w1 hw => ⟨⟨false, by simp [CgP, hk]⟩, rfl, hw.bel⟩)
set_option maxRecDepth 20000
def PrP (es : List En) (l : List Rs) (u : Ru) (p : Rp) : Prop := vldRu u = true ∧ vldRp p = true ∧ validR es = true ∧ (BhP l u p ∨ DtP es l p ∨ CgP l u p)
theorem PrP.kinds {es : List En} {l : List Rs} {u : Ru} {p : Rp} (h : vldRp p = true) : p.kind = 1 ∨ p.kind = 2 ∨ p.kind = 3 := by
 unfold vldRp at h
 simp only [Bool.and_eq_true, decide_eq_true_eq] at h
 omega
theorem aprag28 (w : World) : (isAgg 28).run Tryz.prog w = .ok true w := rfl
theorem aprsz28 (w : World) : (sizeOf 28).run Tryz.prog w = .ok 3 w := rfl
theorem aprag34 (w : World) : (isAgg 34).run Tryz.prog w = .ok true w := rfl
theorem aprsz34 (w : World) : (sizeOf 34).run Tryz.prog w = .ok 8 w := rfl
theorem proves_any (A0 : Option Addr) (c0 : Nat) (l : List Rs) (A1 : Option Addr) (c1 : Nat) (es : List En) (u : Ru) (p : Rp) (w : World) (hr : Reads w w.heap.size 17 A0 l.length (flat Rs.cells l)) (hl1 : l.length ≤ 100000) (hok : ∀ r ∈ l, r.Ok) (hr1 : Reads w w.heap.size 5 A1 es.length (flat En.cells es)) :
  Calls Tryz.prog 37 #[.slice A0 l.length c0, .agg #[.slice A1 es.length c1], .agg u.cells.toArray, .agg p.cells.toArray] w fun e w' => ∃ x : {b : Bool // b = true ↔ PrP es l u p}, e = .returned (.bool x.1) ∧ Below w.heap.size w w' := by
 refine begin_ (vs := [.slice A0 l.length c0, .agg #[.slice A1 es.length c1], .agg u.cells.toArray, .agg p.cells.toArray]) Tryz.func37 rfl rfl rfl ?_ (Pm.start w)
 refine zSG ?_
 refine TL.pnew rfl rfl rfl (exec_box (cs := [.slice A1 es.length c1]) rfl rfl rfl) (fun g5 => ?_)
 refine TL.pnew rfl rfl rfl (exec_box (cs := u.cells) rfl rfl rfl) (fun g6 => ?_)
 refine TL.pnew rfl rfl rfl (exec_box (cs := p.cells) rfl rfl rfl) (fun g7 => ?_)
 refine TL.as_ ?_
 refine zET (zS (zSG (TL.v (gV 1 (.agg (u.cells).toArray) aprag28 aprsz28) ?_)))
 refine TL.callsplit rfl rfl rfl rfl rfl Tryz.func24 (by decide) rfl (fun w1 hw => vldRu_any u w1) (fun h10 => ?_) (fun h10 => ?_)
 ·refine TL.rn 2 rfl (TL.ov (gV 0 (.agg (p.cells).toArray) aprag34 aprsz34) ?_)
  refine TL.gu ?_
  refine TL.callsplit rfl rfl rfl rfl rfl Tryz.func27 (by decide) rfl (fun w1 hw => vldRp_any p w1) (fun h14 => ?_) (fun h14 => ?_)
  ·refine TL.rn 3 rfl (TL.ov (gV 2 (.agg #[.slice A1 es.length c1]) breag26 bresz26) ?_)
   refine TL.gu ?_
   refine TL.callsplit rfl rfl rfl rfl rfl Tryz.func84 (by decide) rfl (fun w1 hw => validR_any A1 c1 es w1 (hr1.up hw.bel)) (fun h19 => ?_) (fun h19 => ?_)
   ·refine TL.rn 2 rfl (zET (zd (zk (zT (zS (zSG (TL.v (gF arpfld34_0) ?_)))))))
    refine TL.v (gL 0 pcmag3) ?_
    refine zET (zB (zSG ?_))
    refine TL.sp bin_eql (fun q25 => ?_) (fun q25 => ?_)
    ·refine TL.as_ ?_
     refine zET (zc (zSG (TL.mv ?_)))
     refine TL.v (gV 1 (.agg (u.cells).toArray) aprag28 aprsz28) ?_
     refine TL.v (gV 0 (.agg (p.cells).toArray) aprag34 aprsz34) ?_
     refine TL.pcallPm (α := {b : Bool // b = true ↔ BhP l u p}) (fun x => .bool x.1) (fun x => []) rfl rfl rfl rfl rfl Tryz.func29 (by decide) rfl (fun w1 hw => (blackhole_any A0 c0 l u p w1 (hr.up hw.bel) hl1 hok).mono fun en w2 ⟨x, h1, h2⟩ => ⟨x, h1, (Pm.start w1).below h2⟩) ?_
     rintro ⟨bd, hbd⟩
     dsimp only [List.cons_append, List.nil_append]
     refine TL.as_ ?_
     refine zET (zr (zRR ?_))
     exact ret_tmp Tryz.results37 rfl (fun w1 hw => ⟨⟨bd, fun h => ⟨h10, h14, h19, .inl (hbd.1 h)⟩, fun ⟨_, _, _, h4⟩ => hbd.2 (h4.elim id fun h5 => h5.elim (fun h6 => absurd h6.1 (by omega)) fun h6 => absurd h6.1 (by omega))⟩, rfl, hw.bel⟩)
    refine TL.as_ ?_
    refine zET (zd (zSG ?_))
    refine TL.sp bin_eql (fun q31 => ?_) (fun q31 => ?_)
    ·refine TL.as_ ?_
     refine zET (zc (zSG (TL.mv ?_)))
     refine TL.v (gV 2 (.agg #[.slice A1 es.length c1]) breag26 bresz26) ?_
     refine TL.v (gV 0 (.agg (p.cells).toArray) aprag34 aprsz34) ?_
     refine TL.pcallPm (α := {b : Bool // b = true ↔ DtP es l p}) (fun x => .bool x.1) (fun x => []) rfl rfl rfl rfl rfl Tryz.func35 (by decide) rfl (fun w1 hw => (detour_any A0 c0 l A1 c1 es p w1 (hr.up hw.bel) hl1 hok (hr1.up hw.bel)).mono fun en w2 ⟨x, h1, h2⟩ => ⟨x, h1, (Pm.start w1).below h2⟩) ?_
     rintro ⟨bd, hbd⟩
     dsimp only [List.cons_append, List.nil_append]
     refine TL.as_ ?_
     refine zET (zr (zRR ?_))
     exact ret_tmp Tryz.results37 rfl (fun w1 hw => ⟨⟨bd, fun h => ⟨h10, h14, h19, .inr (.inl (hbd.1 h))⟩, fun ⟨_, _, _, h4⟩ => hbd.2 (h4.elim (fun h6 => absurd h6.1 (by omega)) fun h5 => h5.elim id fun h6 => absurd h6.1 (by omega))⟩, rfl, hw.bel⟩)
    refine TL.as_ ?_
    refine zET (zd (zk (zN (zT (zSG (TL.mv ?_))))))
    refine TL.v (gV 1 (.agg (u.cells).toArray) aprag28 aprsz28) ?_
    refine TL.v (gV 0 (.agg (p.cells).toArray) aprag34 aprsz34) ?_
    refine TL.pcallPm (α := {b : Bool // b = true ↔ CgP l u p}) (fun x => .bool x.1) (fun x => []) rfl rfl rfl rfl rfl Tryz.func31 (by decide) rfl (fun w1 hw => (congestion_any A0 c0 l u p w1 (hr.up hw.bel) hl1 hok).mono fun en w2 ⟨x, h1, h2⟩ => ⟨x, h1, (Pm.start w1).below h2⟩) ?_
    rintro ⟨bd, hbd⟩
    dsimp only [List.cons_append, List.nil_append]
    refine TL.as_ ?_
    refine zET (zr ?_)
    exact ret_tmp Tryz.results37 rfl (fun w1 hw => ⟨⟨bd, fun h => ⟨h10, h14, h19, .inr (.inr (hbd.1 h))⟩, fun ⟨_, _, _, h4⟩ => hbd.2 (h4.elim (fun h6 => absurd h6.1 (by omega)) fun h5 => h5.elim (fun h6 => absurd h6.1 (by omega)) id)⟩, rfl, hw.bel⟩)
   refine TL.rn 2 rfl (zET (zc (zSG (TL.as_ ?_))))
   refine zET (zr (zR ?_))
   exact ret_tmp Tryz.results37 rfl (fun w1 hw => ⟨⟨false, fun h => (by cases h), fun h => (by have h2 := h.2.2.1; rw [h19] at h2; cases h2)⟩, rfl, hw.bel⟩)
  refine TL.rn 7 rfl (zET (zc (zSG (TL.as_ ?_))))
  refine zET (zr (zR ?_))
  exact ret_tmp Tryz.results37 rfl (fun w1 hw => ⟨⟨false, fun h => (by cases h), fun h => (by have h2 := h.2.1; rw [h14] at h2; cases h2)⟩, rfl, hw.bel⟩)
 refine TL.rn 11 rfl (zET (zc (zSG (TL.as_ ?_))))
 refine zET (zr (zR ?_))
 exact ret_tmp Tryz.results37 rfl (fun w1 hw => ⟨⟨false, fun h => (by cases h), fun h => (by have h2 := h.1; rw [h10] at h2; cases h2)⟩, rfl, hw.bel⟩)
set_option maxRecDepth 20000
theorem cod_stab (cb : Nat) : Stab cb (fun w => Cod w cb) := fun w1 w2 h hs => h.keep fun b hb => hs b (by omega)
theorem cod_cells {w : World} {cb : Nat} (h : Cod w cb) : CellsAt w cb := by
 obtain ⟨A, m, c, l, k, hb, _⟩ := h
 exact ⟨_, hb, rfl⟩
theorem next_cod (cb : Nat) (w : World) (n : Int) (h : Cod w cb) :
  Calls Tryz.prog 21 #[.pointer (some ⟨cb, 0, none⟩), .int .i64 n] w fun e w' => ∃ x : {x : Nat // x ≤ 65535 ∧ (1 ≤ n → (x : Int) < n)}, e = .returned (.int .i64 (x.1 : Int)) ∧ Codr (fun w => Cod w cb) cb w [] w' :=
 (next_any cb w n h).mono fun e w' ⟨x, he, h0, h1, h2, hc, hg, _⟩ => by
  obtain ⟨k, rfl⟩ := Int.eq_ofNat_of_zero_le h0
  exact ⟨⟨k, by omega, h2⟩, he, hc, hg, cod_cells hc, (fun q hq => absurd hq List.not_mem_nil), List.Pairwise.nil⟩
theorem grown_cell {w w1 : World} {cb : Nat} {p : Addr} (hg : w.grownBy w1 (some cb)) (hp : p.block ≠ cb) (hl : p.block < w.heap.size) : w1.cell? p = w.cell? p :=
 World.cell?_of_block (hg.block _ hl fun e => hp (by injection e))
theorem flat_row1 {w0 : Base} {L : List Pc} {w : World} {q g n cc i : Nat} {e : TypeId} {k : IntKind} {l : List Int} {x : Int} (h : Pm w0 L w) (hk : L[q]? = some (.row (.slice (some ⟨g, 0, none⟩) n cc) e 1 n (flat (ic k) l))) (hx : l[i]? = some x) : w.cell? ⟨g, i, none⟩ = some (.int k x) := by
 have := flat_row (ic_cel k) h hk hx 0 _ rfl
 rwa [show 0 + i * 1 + 0 = i by omega] at this
theorem roll_any (A : Option Addr) (n c : Nat) (l : List Int) (w : World) (hb : Byt w w.heap.size A n l) (hc : n ≤ c) (hn : (n : Int) ≤ 9223372036854775807) : Calls Tryz.prog 16 #[.slice A n c] w fun e w' => e = .returned (.pointer (some ⟨w.heap.size, 0, none⟩)) ∧ Cod w' w.heap.size ∧ Below w.heap.size w w' := by
 refine begin_ (vs := [.slice A n c]) (I := fun w1 => w1 = w) Tryz.func16 rfl rfl rfl ?_ rfl
 refine zSG (TL.as_ ?_)
 refine zET (zSG (TL.mv ?_))
 refine TL.call (α := Unit) (r := fun _ => .pointer (some ⟨w.heap.size, 0, none⟩)) (I' := fun _ w2 => Cod w2 w.heap.size ∧ Below w.heap.size w w2) rfl rfl rfl rfl rfl Tryz.func62 (by decide) rfl (fun w1 hw => by cases hw; exact (new_any A n c l w 400 hb hc (by omega) (by decide) (by decide)).mono fun e w2 ⟨h1, h2, h3, _⟩ => ⟨(), h1, h2, h3⟩) (fun _ => ?_)
 refine TL.as_ ?_
 refine zET (zr ?_)
 exact ret_tmp Tryz.results16 rfl (fun w1 hw => ⟨rfl, hw.1, hw.2⟩)
theorem pick_cod (cb : Nat) (w : World) (hC : Cod w cb) (g c : Nat) (tab : List Int) (hgc : g ≠ cb) (hgl : g < w.heap.size) (h0 : 0 < tab.length) (hcell : ∀ (i : Nat) (v : Int), tab[i]? = some v → w.cell? ⟨g, i, none⟩ = some (.int .i64 v)) :
  Calls Tryz.prog 22 #[.pointer (some ⟨cb, 0, none⟩), .slice (some ⟨g, 0, none⟩) tab.length c] w fun e w' => ∃ x : {v : Int // v ∈ tab}, e = .returned (.int .i64 x.1) ∧ Codr (fun w => Cod w cb) cb w ([]) w' := by
 refine begin_ (vs := [.pointer (some ⟨cb, 0, none⟩), .slice (some ⟨g, 0, none⟩) tab.length c]) (I := Pm ⟨w, cb⟩ (.abs cb (fun w => Cod w cb) :: oths cb w)) Tryz.func22 rfl rfl rfl ?_ (Pm.codes hC (cod_cells hC) (cod_stab cb))
 refine zSG (TL.as_ ?_)
 refine zET (zSG (TL.rn 3 rfl (TL.v (gN Tryz.underlying106) ?_)))
 refine TL.pcallCod (k := 0) (α := {q9 : Nat // q9 ≤ 65535 ∧ (1 ≤ ((tab.length : Nat) : Int) → (q9 : Int) < (tab.length : Nat))}) (fun q9 => .int .i64 ((q9.1 : Nat) : Int)) (fun q9 => []) rfl rfl rfl rfl rfl Tryz.func21 (by decide) rfl rfl (fun w1 hw hC1 => next_cod cb w1 (tab.length : Nat) hC1) ?_
 rintro ⟨x, hx1, hx2⟩
 dsimp only [List.cons_append, List.nil_append]
 refine TL.val rfl rfl rfl (gives_at (v := .pointer (some ⟨g, x, none⟩)) rfl rfl rfl (fun w => at_row Tryz.underlying106 pcmsz3 g _ _ x (by omega) rfl w)) ?_
 obtain ⟨v, hv, hvt⟩ : ∃ v, tab[x]? = some v ∧ v ∈ tab := ⟨_, List.getElem?_eq_getElem (by omega), List.getElem_mem _⟩
 refine TL.val rfl rfl rfl (gives_load (v := .int .i64 v) rfl rfl pcmag3 (fun w1 hw => (grown_cell (hw.kept (fun q hq => by simp [hq])) (by show g ≠ cb; exact hgc) (by show g < _; exact hgl)).trans (hcell x v hv))) ?_
 refine TL.as_ ?_
 refine zET (zr ?_)
 exact ret_tmp Tryz.results22 rfl (fun w1 hw => ⟨⟨v, hvt⟩, rfl, Pm.codr [] (hw) rfl⟩)
theorem daddr_cod (cb : Nat) (w : World) (hC : Cod w cb) :
  Calls Tryz.prog 67 #[.pointer (some ⟨cb, 0, none⟩)] w fun e w' => ∃ x : {a : Int // 167772161 ≤ a ∧ a ≤ 167772173}, e = .returned (.int .u32 x.1) ∧ Codr (fun w => Cod w cb) cb w ([]) w' := by
 refine begin_ (vs := [.pointer (some ⟨cb, 0, none⟩)]) (I := Pm ⟨w, cb⟩ (.abs cb (fun w => Cod w cb) :: oths cb w)) Tryz.func67 rfl rfl rfl ?_ (Pm.codes hC (cod_cells hC) (cod_stab cb))
 refine zSG (TL.as_ ?_)
 refine zET (zSG (TL.mv ?_))
 refine TL.prowS (e := 3) (size := 1) (cs := flat (ic .i64) [1, 2, 5, 6, 9, 10, 12, 13]) rfl rfl rfl rfl rfl (fun w => arpbs106_8_10220 _ _ _ _ _ _ _ _ w) (by decide) rfl (fun g4 => ?_)
 refine TL.pcallCod (k := 1) (α := {v : Int // v ∈ ([1, 2, 5, 6, 9, 10, 12, 13] : List Int)}) (fun x => .int .i64 x.1) (fun x => []) rfl rfl rfl rfl rfl Tryz.func22 (by decide) rfl rfl (fun w1 hw hC1 => pick_cod cb w1 hC1 g4 8 ([1, 2, 5, 6, 9, 10, 12, 13]) (hw.neq (i := 0) (j := 1) rfl rfl (by decide) g4 rfl <| congrArg some ·.symm) (Pc.lt (hw.at_ (k := 0) rfl) g4 rfl).2 (by show 0 < ([1, 2, 5, 6, 9, 10, 12, 13] : List Int).length; simp) (fun i v hi => flat_row1 hw (q := 0) rfl hi)) ?_
 rintro ⟨v, hv⟩
 dsimp only [List.cons_append, List.nil_append]
 have hvb : 1 ≤ v ∧ v ≤ 13 := by simp only [List.mem_cons, List.not_mem_nil, or_false] at hv; omega
 refine TL.v (gD (167772160 + v)) ?_
 refine TL.val rfl rfl rfl (gives_conv rfl rfl (fun w => conv_fit (k := .i64) Tryz.underlying30 Tryz.underlying3 (by simp only [IntKind.wrap_u32]; omega) w)) ?_
 refine TL.as_ ?_
 refine zET (zr ?_)
 exact ret_tmp Tryz.results67 rfl (fun w1 hw => ⟨⟨167772160 + v, by omega⟩, rfl, Pm.codr [] (hw.sel (.cons _ (.cons_cons _ (List.Sublist.refl _)))) rfl⟩)
theorem dbool_cod (cb : Nat) (w : World) (hC : Cod w cb) (n : Nat) (hn : n ≤ 1000) :
  Calls Tryz.prog 18 #[.pointer (some ⟨cb, 0, none⟩), .int .i64 ((n : Nat) : Int)] w fun e w' => ∃ x : Bool, e = .returned (.bool x) ∧ Codr (fun w => Cod w cb) cb w ([]) w' := by
 refine begin_ (vs := [.pointer (some ⟨cb, 0, none⟩), .int .i64 ((n : Nat) : Int)]) (I := Pm ⟨w, cb⟩ (.abs cb (fun w => Cod w cb) :: oths cb w)) Tryz.func18 rfl rfl rfl ?_ (Pm.codes hC (cod_cells hC) (cod_stab cb))
 refine zSG (TL.as_ ?_)
 refine zET (zSG (TL.rn 2 rfl ?_))
 refine TL.pcallCod (k := 0) (α := {q9 : Nat // q9 ≤ 65535 ∧ (1 ≤ (((n : Nat) : Int) : Int) → (q9 : Int) < ((n : Nat) : Int))}) (fun q9 => .int .i64 ((q9.1 : Nat) : Int)) (fun q9 => []) rfl rfl rfl rfl rfl Tryz.func21 (by decide) rfl rfl (fun w1 hw hC1 => next_cod cb w1 ((n : Nat) : Int) hC1) ?_
 rintro ⟨x, hx1, hx2⟩
 dsimp only [List.cons_append, List.nil_append]
 refine TL.mv ?_
 refine TL.val rfl rfl rfl (gives_bin rfl rfl rfl (fun w => bin_sub_ (r := (n : Int) - 1) (by simp only [IntKind.wrap_i64]; omega) w)) ?_
 refine TL.val rfl rfl rfl (gives_bin rfl rfl rfl (fun w => bin_eql w)) ?_
 refine TL.as_ ?_
 refine zET (zr ?_)
 exact ret_tmp Tryz.results18 rfl (fun w1 hw => ⟨decide (((x : Nat) : Int) = (n : Int) - 1), rfl, Pm.codr [] (hw) rfl⟩)
set_option maxRecDepth 20000
def TrOk (t : Trc) : Prop := (0 ≤ t.v ∧ t.v ≤ 1) ∧ (167774464 ≤ t.dst ∧ t.dst ≤ 167774466) ∧ (t.proto = 17 ∨ t.proto = 1 ∨ t.proto = 6)
structure Nt where
 v : Int
 dst : Int
 proto : Int
 ps : Sg (Sg Int)
 last : Int
def Nt.cells (n : Nt) : List Value := [.int .i64 n.v, .int .u32 n.dst, .int .i64 n.proto, .slice n.ps.A n.ps.l.length n.ps.c, .int .u32 n.last]
theorem nt_cel : Cel Nt.cells 5 := ⟨fun _ => rfl, fun r u hu => by
 simp only [Nt.cells, List.mem_cons, List.not_mem_nil, or_false] at hu
 rcases hu with rfl | rfl | rfl | rfl | rfl <;> rfl⟩
def PathW (n : Nat) (l : List Int) : Prop := l.length = n ∧ ∀ a ∈ l, 0 ≤ a ∧ a ≤ 167772173
def NtOk (n : Nt) : Prop := TrOk ⟨n.v, n.dst, n.proto⟩ ∧ (1 ≤ n.last ∧ n.last ≤ 167774466) ∧ ∃ lg, 1 ≤ lg ∧ lg ≤ 3 ∧ 1 ≤ n.ps.l.length ∧ n.ps.l.length ≤ 3 ∧ ∀ s ∈ n.ps.l, PathW lg s.l
theorem ad_snoc {p : List Int} {x : Int} (h : ∀ a ∈ p, 0 ≤ a ∧ a ≤ 167772173) (hx : 0 ≤ x ∧ x ≤ 167772173) : ∀ a ∈ p ++ [x], 0 ≤ a ∧ a ≤ 167772173 := fun a ha => by
 rcases List.mem_append.1 ha with ha | ha
 ·exact h a ha
 rw [List.mem_singleton.1 ha]; exact hx
theorem pw_snoc {pp : List (Sg Int)} {s : Sg Int} {n : Nat} (h : ∀ s ∈ pp, PathW n s.l) (hs : PathW n s.l) : ∀ x ∈ pp ++ [s], PathW n x.l := fun a ha => by
 rcases List.mem_append.1 ha with ha | ha
 ·exact h a ha
 rw [List.mem_singleton.1 ha]; exact hs
def netP (p : Sg (Sg Int)) : List Pc := .row (.slice p.A p.l.length p.c) 96 1 p.l.length (flat sgc p.l) :: segG 30 1 (flat (ic .u32)) p.l
theorem netP_noAbs (p : Sg (Sg Int)) : noAbs (netP p) = true := by
 have h := segG_noAbs (e := 30) (size := 1) (enc := flat (ic .u32)) p.l
 simp only [noAbs, netP, List.all_cons, Bool.and_eq_true] at h ⊢
 exact ⟨rfl, h⟩
section
variable {w0 : Base} {w : World} {α : Type} {e : TypeId} {size : Nat} {enc : List α → List Value} {L P O : List Pc} {ss : List (Sg α)} {s : Sg α}
theorem Pm.tuckEnd (h : Pm w0 (.row (.slice s.A s.l.length s.c) e size s.l.length (enc s.l) :: (P ++ (segG e size enc ss ++ O))) w) : Pm w0 (P ++ (segG e size enc (ss ++ [s]) ++ O)) w := by
 refine h.permute ?_
 have h1 : segG e size enc (ss ++ [s]) = segG e size enc ss ++ [.row (.slice s.A s.l.length s.c) e size s.l.length (enc s.l)] := List.map_append
 rw [h1, List.append_assoc]
 refine List.perm_middle.symm.trans (List.Perm.append_left P ?_)
 exact List.perm_middle.symm
theorem Pm.netOut {p : Sg (Sg Int)} {a : Pc} (h : Pm w0 (.row (.slice p.A p.l.length p.c) 96 1 p.l.length (flat sgc p.l) :: a :: (segG 30 1 (flat (ic .u32)) p.l ++ O)) w) : Pm w0 (netP p ++ a :: O) w := by
 refine h.permute (List.Perm.cons _ ?_)
 exact List.perm_middle.symm
theorem seg_mem {T : List Pc} (h : s ∈ ss) : Pc.row (.slice s.A s.l.length s.c) e size s.l.length (enc s.l) ∈ segG e size enc ss ++ T := List.mem_append_left _ (List.mem_map_of_mem (f := Sg.pc e size enc) h)
theorem segA {A : Option Addr} {n c : Nat} {xs : List Value} (h : Pm w0 L w) (hm : Pc.row (.slice A n c) e size n xs ∈ L) (hn : 0 < n) : ∃ g, A = some ⟨g, 0, none⟩ := by
 obtain ⟨k, hk⟩ := List.getElem?_of_mem hm
 exact rowA h hk hn
theorem seg_cell {c : α → List Value} {k g i : Nat} {x : α} (K : Cel c k) (h : Pm w0 L w) (hm : Pc.row (.slice s.A s.l.length s.c) e k s.l.length (flat c s.l) ∈ L) (hA : s.A = some ⟨g, 0, none⟩) (hx : s.l[i]? = some x) (j : Nat) (u : Value) (hu : (c x)[j]? = some u) : w.cell? ⟨g, 0 + i * k + j, none⟩ = some u := by
 obtain ⟨q, hq⟩ := List.getElem?_of_mem hm
 rw [hA] at hq
 exact flat_row K h hq hx j u hu
end
theorem dntzv119 (w : World) : (zeroValue 92).run Tryz.prog w = .ok (.agg #[.int .i64 0, .int .u32 0, .int .i64 0, .slice none 0 0, .int .u32 0]) w := rfl
theorem dntbld119_60100 (a0_0 : Int) (a0_1 : Int) (a0_2 : Int) (w : World) : (Instr.build 92 #[(0, .agg #[.int .i64 a0_0, .int .u32 a0_1, .int .i64 a0_2])]).run Tryz.prog w = .ok (.agg #[.int .i64 a0_0, .int .u32 a0_1, .int .i64 a0_2, .slice none 0 0, .int .u32 0]) w := by kernel_rfl
theorem dntsz119 (w : World) : (sizeOf 92).run Tryz.prog w = .ok 5 w := rfl
theorem dntone_i64u32i64su32 {a0 : Int} {a1 : Int} {a2 : Int} {a3 : Option Addr} {n3 c3 : Nat} {a4 : Int} : ∀ u ∈ [(.int .i64 a0 : Value), .int .u32 a1, .int .i64 a2, .slice a3 n3 c3, .int .u32 a4], u.oneCell' = true := by
 intro u hu
 simp only [List.mem_cons, List.not_mem_nil, or_false] at hu
 rcases hu with rfl | rfl | rfl | rfl | rfl <;> rfl
theorem dntfld119_0 : FA Tryz.prog 92 0 0 := fun g o w => by kernel_rfl
theorem dntfld119_2 : FA Tryz.prog 92 2 4 := fun g o w => by kernel_rfl
theorem dntsz30 (w : World) : (sizeOf 30).run Tryz.prog w = .ok 1 w := rfl
theorem dntone_u32 {a0 : Int} : ∀ u ∈ [(.int .u32 a0 : Value)], u.oneCell' = true := by
 intro u hu
 rw [List.mem_singleton] at hu
 subst hu; rfl
theorem dntfld119_1 : FA Tryz.prog 92 1 3 := fun g o w => by kernel_rfl
theorem dntag117 (w : World) : (isAgg 90).run Tryz.prog w = .ok false w := rfl
theorem dntsz64 (w : World) : (sizeOf 96).run Tryz.prog w = .ok 1 w := rfl
theorem dntag64 (w : World) : (isAgg 96).run Tryz.prog w = .ok false w := rfl
theorem dntbs64_1_5377 (a0_0 : Int) (w : World) : (Instr.buildSlice 96 1 #[(0, .int .u32 a0_0)]).run Tryz.prog w = .ok (.slice (some ⟨w.heap.size, 0, none⟩) 1 1) (w.alloc (.cells [.int .u32 a0_0].toArray 30)) := by kernel_rfl
theorem dntel64 : Elem Tryz.prog 96 30 1 4 := Elem.mk' Tryz.underlying96 (z := .int .u32 0) (by kernel_rfl) rfl (by omega) (by omega)
theorem dntbs117_1_58639 (a0_0 : Option Addr) (a0_0n a0_0c : Nat) (w : World) : (Instr.buildSlice 90 1 #[(0, .slice a0_0 a0_0n a0_0c)]).run Tryz.prog w = .ok (.slice (some ⟨w.heap.size, 0, none⟩) 1 1) (w.alloc (.cells [.slice a0_0 a0_0n a0_0c].toArray 96)) := by kernel_rfl
theorem dntel117 : Elem Tryz.prog 90 96 1 24 := Elem.mk' Tryz.underlying90 (z := .slice none 0 0) (by kernel_rfl) rfl (by omega) (by omega)
theorem dntsz117 (w : World) : (sizeOf 90).run Tryz.prog w = .ok 1 w := rfl
theorem dntone_s {a0 : Option Addr} {n0 c0 : Nat} : ∀ u ∈ [(.slice a0 n0 c0 : Value)], u.oneCell' = true := by
 intro u hu
 rw [List.mem_singleton] at hu
 subst hu; rfl
theorem dntag119 (w : World) : (isAgg 92).run Tryz.prog w = .ok true w := rfl
theorem dproto_cod (cb : Nat) (w : World) (hC : Cod w cb) :
  Calls Tryz.prog 119 #[.pointer (some ⟨cb, 0, none⟩)] w fun e w' => ∃ x : {v : Int // v = 17 ∨ v = 1 ∨ v = 6}, e = .returned (.int .i64 x.1) ∧ Codr (fun w => Cod w cb) cb w ([]) w' := by
 refine begin_ (vs := [.pointer (some ⟨cb, 0, none⟩)]) (I := Pm ⟨w, cb⟩ (.abs cb (fun w => Cod w cb) :: oths cb w)) Tryz.func119 rfl rfl rfl ?_ (Pm.codes hC (cod_cells hC) (cod_stab cb))
 refine zSG (TL.as_ ?_)
 refine zET (zSG (TL.mv ?_))
 refine TL.prowS (e := 3) (size := 1) (cs := flat (ic .i64) [17, 1, 6]) rfl rfl rfl rfl rfl (fun w => pcmbs106_3_44640 _ _ _ w) (by decide) rfl (fun g4 => ?_)
 refine TL.pcallCod (k := 1) (α := {v : Int // v ∈ ([17, 1, 6] : List Int)}) (fun x => .int .i64 x.1) (fun x => []) rfl rfl rfl rfl rfl Tryz.func22 (by decide) rfl rfl (fun w1 hw hC1 => pick_cod cb w1 hC1 g4 3 ([17, 1, 6]) (hw.neq (i := 0) (j := 1) rfl rfl (by decide) g4 rfl <| congrArg some ·.symm) (Pc.lt (hw.at_ (k := 0) rfl) g4 rfl).2 (by show 0 < ([17, 1, 6] : List Int).length; simp) (fun i v hi => flat_row1 hw (q := 0) rfl hi)) ?_
 rintro ⟨v, hv⟩
 dsimp only [List.cons_append, List.nil_append]
 have hvb : v = 17 ∨ v = 1 ∨ v = 6 := by simpa using hv
 refine TL.as_ ?_
 refine zET (zr ?_)
 exact ret_tmp Tryz.results119 rfl (fun w1 hw => ⟨⟨v, hvb⟩, rfl, Pm.codr [] (hw.sel (.cons _ (.cons_cons _ (List.Sublist.refl _)))) rfl⟩)
theorem dtrace_cod (cb : Nat) (w : World) (hC : Cod w cb) :
  Calls Tryz.prog 68 #[.pointer (some ⟨cb, 0, none⟩)] w fun e w' => ∃ x : {t : Trc // TrOk t}, e = .returned (.agg x.1.cells.toArray) ∧ Codr (fun w => Cod w cb) cb w ([]) w' := by
 refine begin_ (vs := [.pointer (some ⟨cb, 0, none⟩)]) (I := Pm ⟨w, cb⟩ (.abs cb (fun w => Cod w cb) :: oths cb w)) Tryz.func68 rfl rfl rfl ?_ (Pm.codes hC (cod_cells hC) (cod_stab cb))
 refine zSG ?_
 refine TL.pnew rfl rfl rfl (exec_alloc (cs := [.int .i64 0, .int .u32 0, .int .i64 0]) rfl prszv32 rfl) (fun g2 => ?_)
 refine zET (zSG (TL.mv ?_))
 refine TL.pcallCod (k := 1) (α := {q9 : Nat // q9 ≤ 65535 ∧ (1 ≤ (2 : Int) → (q9 : Int) < 2)}) (fun q9 => .int .i64 ((q9.1 : Nat) : Int)) (fun q9 => []) rfl rfl rfl rfl rfl Tryz.func21 (by decide) rfl rfl (fun w1 hw hC1 => next_cod cb w1 2 hC1) ?_
 rintro ⟨a0, ha01, ha02⟩
 dsimp only [List.cons_append, List.nil_append]
 refine TL.mv ?_
 refine TL.pcallCod (k := 1) (α := {q9 : Nat // q9 ≤ 65535 ∧ (1 ≤ (3 : Int) → (q9 : Int) < 3)}) (fun q9 => .int .i64 ((q9.1 : Nat) : Int)) (fun q9 => []) rfl rfl rfl rfl rfl Tryz.func21 (by decide) rfl rfl (fun w1 hw hC1 => next_cod cb w1 3 hC1) ?_
 rintro ⟨a1, ha11, ha12⟩
 dsimp only [List.cons_append, List.nil_append]
 refine TL.v (gD ((167774464 + a1 : Nat) : Int)) ?_
 refine TL.val rfl rfl rfl (gives_conv rfl rfl (fun w => conv_fit (k := .i64) Tryz.underlying30 Tryz.underlying3 (by simp only [IntKind.wrap_u32]; omega) w)) ?_
 refine TL.mv ?_
 refine TL.pcallCod (k := 1) (α := {v : Int // v = 17 ∨ v = 1 ∨ v = 6}) (fun x => .int .i64 x.1) (fun x => []) rfl rfl rfl rfl rfl Tryz.func119 (by decide) rfl rfl (fun w1 hw hC1 => dproto_cod cb w1 hC1) ?_
 rintro ⟨pp, hpp⟩
 dsimp only [List.cons_append, List.nil_append]
 refine TL.val rfl rfl rfl (gives_build (v := .agg #[.int .i64 ((a0 : Nat) : Int), .int .u32 ((167774464 + a1 : Nat) : Int), .int .i64 pp]) rfl rfl (fun w => prsbld32_57312 _ _ _ w)) ?_
 refine TL.pstore (k := 0) (vs := [.int .i64 ((a0 : Nat) : Int), .int .u32 ((167774464 + a1 : Nat) : Int), .int .i64 pp]) rfl rfl rfl rfl rfl rfl rfl prssz32 prsone_i64u32i64 (by show 3 ≤ 3; decide) rfl ?_
 refine zET (zr ?_)
 exact pm_ret_cell (k := 0) Tryz.results68 rfl rfl Tryz.underlying32 rfl rfl (fun w1 hw => ⟨⟨⟨((a0 : Nat) : Int), ((167774464 + a1 : Nat) : Int), pp⟩, by unfold TrOk; dsimp only; omega⟩, rfl, Pm.codr [] (hw.sel (.cons _ (.cons_cons _ (List.Sublist.refl _)))) rfl⟩)
theorem scene_cod (cb : Nat) (w : World) (hC : Cod w cb) :
  Calls Tryz.prog 63 #[.pointer (some ⟨cb, 0, none⟩)] w fun e w' => ∃ x : {y : Nt // NtOk y}, e = .returned (.agg x.1.cells.toArray) ∧ Codr (fun w => Cod w cb) cb w (netP x.1.ps) w' := by
 refine begin_ (vs := [.pointer (some ⟨cb, 0, none⟩)]) (I := Pm ⟨w, cb⟩ (.abs cb (fun w => Cod w cb) :: oths cb w)) Tryz.func63 rfl rfl rfl ?_ (Pm.codes hC (cod_cells hC) (cod_stab cb))
 refine zSG ?_
 refine TL.pnew rfl rfl rfl (exec_alloc (cs := [.int .i64 0, .int .u32 0, .int .i64 0, .slice none 0 0, .int .u32 0]) rfl dntzv119 rfl) (fun g2 => ?_)
 refine zET (zSG (TL.mv ?_))
 refine TL.pcallCod (k := 1) (α := {t : Trc // TrOk t}) (fun x => .agg (x.1.cells).toArray) (fun x => []) rfl rfl rfl rfl rfl Tryz.func68 (by decide) rfl rfl (fun w1 hw hC1 => dtrace_cod cb w1 hC1) ?_
 rintro ⟨tr, htr⟩
 dsimp only [List.cons_append, List.nil_append]
 refine TL.val rfl rfl rfl (gives_build (v := .agg #[.int .i64 tr.v, .int .u32 tr.dst, .int .i64 tr.proto, .slice none 0 0, .int .u32 0]) rfl rfl (fun w => dntbld119_60100 _ _ _ w)) ?_
 refine TL.pnew rfl rfl rfl (exec_alloc (cs := [.int .i64 0, .int .u32 0, .int .i64 0, .slice none 0 0, .int .u32 0]) rfl dntzv119 rfl) (fun g3 => ?_)
 refine TL.pstore (k := 0) (vs := [.int .i64 tr.v, .int .u32 tr.dst, .int .i64 tr.proto, .slice none 0 0, .int .u32 0]) rfl rfl rfl rfl rfl rfl rfl dntsz119 dntone_i64u32i64su32 (by show 5 ≤ 5; decide) rfl ?_
 refine zET (zS ?_)
 have htr2 := htr
 unfold TrOk at htr2
 refine zG (TL.v (gF dntfld119_0) ?_)
 refine TL.v (gF pcmfld32_1) ?_
 refine TL.v (gL 0 pcmag30) ?_
 refine TL.v (gF dntfld119_2) ?_
 refine TL.pstore (k := 0) (vs := [.int .u32 tr.dst]) rfl rfl rfl rfl rfl rfl rfl dntsz30 dntone_u32 (by show 5 ≤ 5; decide) rfl ?_
 refine zET ?_
 refine TC.join (α := {a : Int // 1 ≤ a ∧ a ≤ 167774466}) (fun y => [(0, .pointer (some ⟨cb, 0, none⟩)), (2, .pointer (some ⟨g2, 0, none⟩)), (3, .pointer (some ⟨g3, 0, none⟩))]) (fun y => Pm ⟨w, cb⟩ ([.blk g3 92 [.int .i64 tr.v, .int .u32 tr.dst, .int .i64 tr.proto, .slice none 0 0, .int .u32 y.1], .blk g2 92 [.int .i64 0, .int .u32 0, .int .i64 0, .slice none 0 0, .int .u32 0], .abs cb (fun w => Cod w cb)] ++ oths cb w)) ?_ ?_
 ·refine zSG (TL.mv ?_)
  refine TL.pcallCod (k := 2) (α := Bool) (fun x => .bool x) (fun x => []) rfl rfl rfl rfl rfl Tryz.func18 (by decide) rfl rfl (fun w1 hw hC1 => dbool_cod cb w1 hC1 4 (by decide)) ?_
  rintro b0
  dsimp only [List.cons_append, List.nil_append]
  refine zET ?_
  refine TC.split (t := b0) rfl (fun c17 => ?_) (fun c17 => ?_)
  ·refine zG (TL.mv ?_)
   refine TL.pcallCod (k := 2) (α := {a : Int // 167772161 ≤ a ∧ a ≤ 167772173}) (fun x => .int .u32 x.1) (fun x => []) rfl rfl rfl rfl rfl Tryz.func67 (by decide) rfl rfl (fun w1 hw hC1 => daddr_cod cb w1 hC1) ?_
   rintro ⟨ad, had1, had2⟩
   dsimp only [List.cons_append, List.nil_append]
   refine TL.v (gF dntfld119_2) ?_
   refine TL.pstore (k := 0) (vs := [.int .u32 ad]) rfl rfl rfl rfl rfl rfl rfl dntsz30 dntone_u32 (by show 5 ≤ 5; decide) rfl ?_
   refine zE ?_
   exact TX.joined (⟨ad, by omega⟩) (⟨rfl, rfl, rfl, trivial⟩) (fun w1 hw => hw)
  refine zk ?_
  exact TX.joined (⟨tr.dst, by omega⟩) (⟨rfl, rfl, rfl, trivial⟩) (fun w1 hw => hw)
 rintro ⟨la, hla⟩
 dsimp only at hla ⊢
 refine zSG (TL.mv ?_)
 refine TL.pcallCod (k := 2) (α := {q9 : Nat // q9 ≤ 65535 ∧ (1 ≤ (3 : Int) → (q9 : Int) < 3)}) (fun q9 => .int .i64 ((q9.1 : Nat) : Int)) (fun q9 => []) rfl rfl rfl rfl rfl Tryz.func21 (by decide) rfl rfl (fun w1 hw hC1 => next_cod cb w1 3 hC1) ?_
 rintro ⟨lg, hlg1, hlg2⟩
 dsimp only [List.cons_append, List.nil_append]
 refine TL.v (gD ((lg + 1 : Nat) : Int)) ?_
 refine TL.as_ ?_
 refine zET (zS (zSG (TL.as_ ?_)))
 refine zET (zB (TC.nilrow 96 1 ?_))
 refine TC.loop_ (α := {y : Nat × (Option Addr × Nat) × List (Sg Int) // y.1 ≤ 3 ∧ y.2.2.length = y.1 ∧ (∀ s ∈ y.2.2, PathW (lg + 1) s.l) ∧ y.2.2.length ≤ y.2.1.2 ∧ y.2.1.2 ≤ maxLen}) (fun y => [(0, .pointer (some ⟨cb, 0, none⟩)), (2, .pointer (some ⟨g2, 0, none⟩)), (3, .pointer (some ⟨g3, 0, none⟩)), (4, .int .i64 ((lg + 1 : Nat) : Int)), (5, .int .i64 ((y.1.1 : Nat) : Int))]) (fun y => Pm ⟨w, cb⟩ ([.row (.slice y.1.2.1.1 y.1.2.2.length y.1.2.1.2) 96 1 y.1.2.2.length (flat sgc y.1.2.2), .blk g3 92 [.int .i64 tr.v, .int .u32 tr.dst, .int .i64 tr.proto, .slice y.1.2.1.1 y.1.2.2.length y.1.2.1.2, .int .u32 la], .blk g2 92 [.int .i64 0, .int .u32 0, .int .i64 0, .slice none 0 0, .int .u32 0], .abs cb (fun w => Cod w cb)] ++ (segG 30 1 (flat (ic .u32)) y.1.2.2 ++ oths cb w))) (fun y => 3 - y.1.1) (⟨(0, (none, 0), []), Nat.zero_le _, rfl, fun s hs => absurd hs List.not_mem_nil, Nat.le_refl _, Nat.zero_le _⟩) ⟨rfl, rfl, rfl, rfl, rfl, trivial⟩ (fun w1 hw => hw) ?_
 rintro ⟨⟨f, ⟨Ap, cp⟩, pp⟩, hf, hfl, hpw, hpc, hpm⟩
 dsimp only at hf hfl hpw hpc hpm ⊢
 refine zS (zSG (TL.rn 2 rfl ?_))
 refine TL.pcallCod (k := 3) (α := {q9 : Nat // q9 ≤ 65535 ∧ (1 ≤ (3 : Int) → (q9 : Int) < 3)}) (fun q9 => .int .i64 ((q9.1 : Nat) : Int)) (fun q9 => []) rfl rfl rfl rfl rfl Tryz.func21 (by decide) rfl rfl (fun w1 hw hC1 => next_cod cb w1 3 hC1) ?_
 rintro ⟨nf, hnf1, hnf2⟩
 dsimp only [List.cons_append, List.nil_append]
 refine TL.v (gD ((1 + nf : Nat) : Int)) ?_
 refine TL.sp bin_lss (fun q28 => ?_) (fun q28 => ?_)
 ·refine zET (zc (zk (zT (zS (zB (zSG (TL.as_ ?_)))))))
  refine zET (zS (zSG (TL.as_ ?_)))
  refine zET (zB (TC.nilrow 30 1 ?_))
  refine TC.loop_ (α := {y : Nat × (Option Addr × Nat) × List Int // y.1 ≤ lg + 1 ∧ y.2.2.length = y.1 ∧ (∀ a ∈ y.2.2, 0 ≤ a ∧ a ≤ 167772173) ∧ y.2.2.length ≤ y.2.1.2 ∧ y.2.1.2 ≤ maxLen}) (fun y => [(0, .pointer (some ⟨cb, 0, none⟩)), (2, .pointer (some ⟨g2, 0, none⟩)), (3, .pointer (some ⟨g3, 0, none⟩)), (4, .int .i64 ((lg + 1 : Nat) : Int)), (5, .int .i64 ((f : Nat) : Int)), (7, .int .i64 ((y.1.1 : Nat) : Int)), (6, .slice y.1.2.1.1 y.1.2.2.length y.1.2.1.2)]) (fun y => Pm ⟨w, cb⟩ ([.row (.slice y.1.2.1.1 y.1.2.2.length y.1.2.1.2) 30 1 y.1.2.2.length (flat (ic .u32) y.1.2.2), .row (.slice Ap pp.length cp) 96 1 pp.length (flat sgc pp), .blk g3 92 [.int .i64 tr.v, .int .u32 tr.dst, .int .i64 tr.proto, .slice Ap pp.length cp, .int .u32 la], .blk g2 92 [.int .i64 0, .int .u32 0, .int .i64 0, .slice none 0 0, .int .u32 0], .abs cb (fun w => Cod w cb)] ++ (segG 30 1 (flat (ic .u32)) pp ++ oths cb w))) (fun y => lg + 1 - y.1.1) (⟨(0, (none, 0), []), Nat.zero_le _, rfl, fun s hs => absurd hs List.not_mem_nil, Nat.le_refl _, Nat.zero_le _⟩) ⟨rfl, rfl, rfl, rfl, rfl, rfl, rfl, trivial⟩ (fun w1 hw => hw) ?_
  rintro ⟨⟨i, ⟨Aq, cq⟩, p⟩, hi, hil, hpr, hqc, hqm⟩
  dsimp only at hi hil hpr hqc hqm ⊢
  refine zS (zSG (TL.rn 2 rfl ?_))
  refine TL.sp bin_lss (fun q33 => ?_) (fun q33 => ?_)
  ·refine zET (zc (zk (zT (zS (zB (zSG (TL.mv ?_)))))))
   refine TL.pcallCod (k := 4) (α := {a : Int // 167772161 ≤ a ∧ a ≤ 167772173}) (fun x => .int .u32 x.1) (fun x => []) rfl rfl rfl rfl rfl Tryz.func67 (by decide) rfl rfl (fun w1 hw hC1 => daddr_cod cb w1 hC1) ?_
   rintro ⟨ad, had1, had2⟩
   dsimp only [List.cons_append, List.nil_append]
   refine TL.as_ ?_
   refine zET (zS (zSG (TL.mv ?_)))
   refine TL.pcallCod (k := 4) (α := Bool) (fun x => .bool x) (fun x => []) rfl rfl rfl rfl rfl Tryz.func18 (by decide) rfl rfl (fun w1 hw hC1 => dbool_cod cb w1 hC1 6 (by decide)) ?_
   rintro b1
   dsimp only [List.cons_append, List.nil_append]
   refine zET ?_
   refine TC.split (t := b1) rfl (fun c39 => ?_) (fun c39 => ?_)
   ·refine zG (TL.as_ ?_)
    refine zET (zS (zSG (TL.mv ?_)))
    refine TL.sp bin_gtr (fun q41 => ?_) (fun q41 => ?_)
    ·refine TL.rn 2 rfl (TL.ov (gF dntfld119_1) ?_)
     refine TL.ov (gL 2 dntag117) ?_
     refine TL.gu ?_
     refine TL.fact (p := ∃ g, Ap = some ⟨g, 0, none⟩) (fun w1 hw => rowA hw (k := 1) rfl (by omega)) ?_
     rintro ⟨g_Ap, rfl⟩
     have hi46 : 0 < pp.length := by omega
     obtain ⟨x46, hx46⟩ := ex_at hi46
     refine TL.val rfl rfl rfl (gA (i := 0) Tryz.underlying90 dntsz64 rfl rfl rfl rfl rfl (by omega)) ?_
     refine TL.gu ?_
     refine TL.val rfl rfl rfl (gives_load (v := .slice x46.A x46.l.length x46.c) rfl rfl dntag64 (fun w1 hw => flat_row sgc_cel hw (q := 1) rfl hx46 0 _ rfl)) ?_
     refine TL.ov (gN Tryz.underlying96) ?_
     refine TL.gu ?_
     refine TL.sp bin_lss (fun q49 => ?_) (fun q49 => ?_)
     ·refine TL.rn 3 rfl (TL.gu ?_)
      refine TL.pcallCod (k := 4) (α := Bool) (fun x => .bool x) (fun x => []) rfl rfl rfl rfl rfl Tryz.func18 (by decide) rfl rfl (fun w1 hw hC1 => dbool_cod cb w1 hC1 3 (by decide)) ?_
      rintro b2
      dsimp only [List.cons_append, List.nil_append]
      cases b2 with
      | true =>
       refine TL.rn 2 rfl (zET (zd (zk (zT (zG (TL.rn 2 rfl ?_))))))
       refine TL.prowS (e := 30) (size := 1) (cs := flat (ic .u32) [0]) rfl rfl rfl rfl rfl (fun w => dntbs64_1_5377 _ w) (by decide) rfl (fun g65 => ?_)
       refine TL.appendT (k := 1) rfl rfl rfl rfl Tryz.underlying96 dntel64 rfl rfl rfl (fun w1 hw => pm_reads hw (k := 0) rfl) (flat_one (ic_cel .u32) _) (by show _ * 4 ≤ _; omega) ((p ++ [0]).length) (by rw [List.length_append]; rfl) (flat (ic .u32) (p ++ [0])) ((flat_app _ _).symm) (fun A66 c66 hA661 hA662 => ?_)
       refine TL.as_ ?_
       refine zE (zN (zT (zG (TL.mv ?_))))
       refine TL.v (gD ((i + 1 : Nat) : Int)) ?_
       refine TL.as_ ?_
       refine zE ?_
       exact TX.round (⟨(i + 1, (A66, c66), p ++ [0]), by dsimp only; omega, by dsimp only; rw [List.length_append]; show p.length + 1 = i + 1; omega, ad_snoc hpr (by omega), hA661, hA662⟩) (by show lg + 1 - (i + 1) < lg + 1 - i; omega) ⟨rfl, rfl, rfl, rfl, rfl, rfl, rfl, trivial⟩ (fun w1 hw => hw.sel (.cons _ (.cons_cons _ (.cons_cons _ (.cons_cons _ (.cons_cons _ (.cons_cons _ (List.Sublist.refl _))))))))
      | false =>
       refine TL.rn 2 rfl (zET (zc (zG (TL.v (gF dntfld119_1) ?_))))
       refine TL.v (gL 2 dntag117) ?_
       refine TL.val rfl rfl rfl (gA (i := 0) Tryz.underlying90 dntsz64 rfl rfl rfl rfl rfl (by omega)) ?_
       refine TL.val rfl rfl rfl (gives_load (v := .slice x46.A x46.l.length x46.c) rfl rfl dntag64 (fun w1 hw => flat_row sgc_cel hw (q := 1) rfl hx46 0 _ rfl)) ?_
       refine TL.mv ?_
       have hmm61 := seg_mem (e := 30) (size := 1) (enc := flat (ic .u32)) (T := oths cb w) (List.mem_of_getElem? hx46)
       refine TL.fact (p := ∃ g, x46.A = some ⟨g, 0, none⟩) (fun w1 hw => segA hw (List.mem_of_mem_drop (i := 5) (by exact hmm61)) (by omega)) ?_
       rintro ⟨gx61, hgx61⟩
       obtain ⟨z61, hz61⟩ : ∃ z, x46.l[i]? = some z := ⟨_, List.getElem?_eq_getElem (by omega)⟩
       refine TL.val rfl rfl rfl (gA (i := i) Tryz.underlying96 dntsz30 rfl rfl rfl rfl hgx61 (by omega)) ?_
       refine TL.val rfl rfl rfl (gives_load (v := .int .u32 z61) rfl rfl pcmag30 (fun w1 hw => seg_cell (ic_cel .u32) hw (List.mem_of_mem_drop (i := 5) (by exact hmm61)) hgx61 hz61 0 _ rfl)) ?_
       have hzr := (hpw x46 (List.mem_of_getElem? hx46)).2 z61 (List.mem_of_getElem? hz61)
       refine TL.as_ ?_
       refine zET (zG (TL.rn 2 rfl ?_))
       refine TL.prowS (e := 30) (size := 1) (cs := flat (ic .u32) [z61]) rfl rfl rfl rfl rfl (fun w => dntbs64_1_5377 _ w) (by decide) rfl (fun g65 => ?_)
       refine TL.appendT (k := 1) rfl rfl rfl rfl Tryz.underlying96 dntel64 rfl rfl rfl (fun w1 hw => pm_reads hw (k := 0) rfl) (flat_one (ic_cel .u32) _) (by show _ * 4 ≤ _; omega) ((p ++ [z61]).length) (by rw [List.length_append]; rfl) (flat (ic .u32) (p ++ [z61])) ((flat_app _ _).symm) (fun A66 c66 hA661 hA662 => ?_)
       refine TL.as_ ?_
       refine zE (zN (zT (zG (TL.mv ?_))))
       refine TL.v (gD ((i + 1 : Nat) : Int)) ?_
       refine TL.as_ ?_
       refine zE ?_
       exact TX.round (⟨(i + 1, (A66, c66), p ++ [z61]), by dsimp only; omega, by dsimp only; rw [List.length_append]; show p.length + 1 = i + 1; omega, ad_snoc hpr (by exact hzr), hA661, hA662⟩) (by show lg + 1 - (i + 1) < lg + 1 - i; omega) ⟨rfl, rfl, rfl, rfl, rfl, rfl, rfl, trivial⟩ (fun w1 hw => hw.sel (.cons _ (.cons_cons _ (.cons_cons _ (.cons_cons _ (.cons_cons _ (.cons_cons _ (List.Sublist.refl _))))))))
     refine TL.rn 6 rfl (zET (zd (zk (zT (zG (TL.rn 2 rfl ?_))))))
     refine TL.prowS (e := 30) (size := 1) (cs := flat (ic .u32) [0]) rfl rfl rfl rfl rfl (fun w => dntbs64_1_5377 _ w) (by decide) rfl (fun g65 => ?_)
     refine TL.appendT (k := 1) rfl rfl rfl rfl Tryz.underlying96 dntel64 rfl rfl rfl (fun w1 hw => pm_reads hw (k := 0) rfl) (flat_one (ic_cel .u32) _) (by show _ * 4 ≤ _; omega) ((p ++ [0]).length) (by rw [List.length_append]; rfl) (flat (ic .u32) (p ++ [0])) ((flat_app _ _).symm) (fun A66 c66 hA661 hA662 => ?_)
     refine TL.as_ ?_
     refine zE (zN (zT (zG (TL.mv ?_))))
     refine TL.v (gD ((i + 1 : Nat) : Int)) ?_
     refine TL.as_ ?_
     refine zE ?_
     exact TX.round (⟨(i + 1, (A66, c66), p ++ [0]), by dsimp only; omega, by dsimp only; rw [List.length_append]; show p.length + 1 = i + 1; omega, ad_snoc hpr (by omega), hA661, hA662⟩) (by show lg + 1 - (i + 1) < lg + 1 - i; omega) ⟨rfl, rfl, rfl, rfl, rfl, rfl, rfl, trivial⟩ (fun w1 hw => hw.sel (.cons _ (.cons_cons _ (.cons_cons _ (.cons_cons _ (.cons_cons _ (.cons_cons _ (List.Sublist.refl _))))))))
    refine TL.rn 14 rfl (zET (zd (zk (zT (zG (TL.rn 2 rfl ?_))))))
    refine TL.prowS (e := 30) (size := 1) (cs := flat (ic .u32) [0]) rfl rfl rfl rfl rfl (fun w => dntbs64_1_5377 _ w) (by decide) rfl (fun g65 => ?_)
    refine TL.appendT (k := 1) rfl rfl rfl rfl Tryz.underlying96 dntel64 rfl rfl rfl (fun w1 hw => pm_reads hw (k := 0) rfl) (flat_one (ic_cel .u32) _) (by show _ * 4 ≤ _; omega) ((p ++ [0]).length) (by rw [List.length_append]; rfl) (flat (ic .u32) (p ++ [0])) ((flat_app _ _).symm) (fun A66 c66 hA661 hA662 => ?_)
    refine TL.as_ ?_
    refine zE (zN (zT (zG (TL.mv ?_))))
    refine TL.v (gD ((i + 1 : Nat) : Int)) ?_
    refine TL.as_ ?_
    refine zE ?_
    exact TX.round (⟨(i + 1, (A66, c66), p ++ [0]), by dsimp only; omega, by dsimp only; rw [List.length_append]; show p.length + 1 = i + 1; omega, ad_snoc hpr (by omega), hA661, hA662⟩) (by show lg + 1 - (i + 1) < lg + 1 - i; omega) ⟨rfl, rfl, rfl, rfl, rfl, rfl, rfl, trivial⟩ (fun w1 hw => hw.sel (.cons _ (.cons_cons _ (.cons_cons _ (.cons_cons _ (.cons_cons _ (.cons_cons _ (List.Sublist.refl _))))))))
   refine zk (zT (zS (zSG ?_)))
   refine TL.mv ?_
   refine TL.sp bin_gtr (fun q41 => ?_) (fun q41 => ?_)
   ·refine TL.rn 2 rfl (TL.ov (gF dntfld119_1) ?_)
    refine TL.ov (gL 2 dntag117) ?_
    refine TL.gu ?_
    refine TL.fact (p := ∃ g, Ap = some ⟨g, 0, none⟩) (fun w1 hw => rowA hw (k := 1) rfl (by omega)) ?_
    rintro ⟨g_Ap, rfl⟩
    have hi46 : 0 < pp.length := by omega
    obtain ⟨x46, hx46⟩ := ex_at hi46
    refine TL.val rfl rfl rfl (gA (i := 0) Tryz.underlying90 dntsz64 rfl rfl rfl rfl rfl (by omega)) ?_
    refine TL.gu ?_
    refine TL.val rfl rfl rfl (gives_load (v := .slice x46.A x46.l.length x46.c) rfl rfl dntag64 (fun w1 hw => flat_row sgc_cel hw (q := 1) rfl hx46 0 _ rfl)) ?_
    refine TL.ov (gN Tryz.underlying96) ?_
    refine TL.gu ?_
    refine TL.sp bin_lss (fun q49 => ?_) (fun q49 => ?_)
    ·refine TL.rn 3 rfl (TL.gu ?_)
     refine TL.pcallCod (k := 4) (α := Bool) (fun x => .bool x) (fun x => []) rfl rfl rfl rfl rfl Tryz.func18 (by decide) rfl rfl (fun w1 hw hC1 => dbool_cod cb w1 hC1 3 (by decide)) ?_
     rintro b2
     dsimp only [List.cons_append, List.nil_append]
     cases b2 with
     | true =>
      refine TL.rn 2 rfl (zET (zd (zk (zT (zG (TL.rn 2 rfl ?_))))))
      refine TL.prowS (e := 30) (size := 1) (cs := flat (ic .u32) [ad]) rfl rfl rfl rfl rfl (fun w => dntbs64_1_5377 _ w) (by decide) rfl (fun g65 => ?_)
      refine TL.appendT (k := 1) rfl rfl rfl rfl Tryz.underlying96 dntel64 rfl rfl rfl (fun w1 hw => pm_reads hw (k := 0) rfl) (flat_one (ic_cel .u32) _) (by show _ * 4 ≤ _; omega) ((p ++ [ad]).length) (by rw [List.length_append]; rfl) (flat (ic .u32) (p ++ [ad])) ((flat_app _ _).symm) (fun A66 c66 hA661 hA662 => ?_)
      refine TL.as_ ?_
      refine zE (zN (zT (zG (TL.mv ?_))))
      refine TL.v (gD ((i + 1 : Nat) : Int)) ?_
      refine TL.as_ ?_
      refine zE ?_
      exact TX.round (⟨(i + 1, (A66, c66), p ++ [ad]), by dsimp only; omega, by dsimp only; rw [List.length_append]; show p.length + 1 = i + 1; omega, ad_snoc hpr (by omega), hA661, hA662⟩) (by show lg + 1 - (i + 1) < lg + 1 - i; omega) ⟨rfl, rfl, rfl, rfl, rfl, rfl, rfl, trivial⟩ (fun w1 hw => hw.sel (.cons _ (.cons_cons _ (.cons_cons _ (.cons_cons _ (.cons_cons _ (.cons_cons _ (List.Sublist.refl _))))))))
     | false =>
      refine TL.rn 2 rfl (zET (zc (zG (TL.v (gF dntfld119_1) ?_))))
      refine TL.v (gL 2 dntag117) ?_
      refine TL.val rfl rfl rfl (gA (i := 0) Tryz.underlying90 dntsz64 rfl rfl rfl rfl rfl (by omega)) ?_
      refine TL.val rfl rfl rfl (gives_load (v := .slice x46.A x46.l.length x46.c) rfl rfl dntag64 (fun w1 hw => flat_row sgc_cel hw (q := 1) rfl hx46 0 _ rfl)) ?_
      refine TL.mv ?_
      have hmm61 := seg_mem (e := 30) (size := 1) (enc := flat (ic .u32)) (T := oths cb w) (List.mem_of_getElem? hx46)
      refine TL.fact (p := ∃ g, x46.A = some ⟨g, 0, none⟩) (fun w1 hw => segA hw (List.mem_of_mem_drop (i := 5) (by exact hmm61)) (by omega)) ?_
      rintro ⟨gx61, hgx61⟩
      obtain ⟨z61, hz61⟩ : ∃ z, x46.l[i]? = some z := ⟨_, List.getElem?_eq_getElem (by omega)⟩
      refine TL.val rfl rfl rfl (gA (i := i) Tryz.underlying96 dntsz30 rfl rfl rfl rfl hgx61 (by omega)) ?_
      refine TL.val rfl rfl rfl (gives_load (v := .int .u32 z61) rfl rfl pcmag30 (fun w1 hw => seg_cell (ic_cel .u32) hw (List.mem_of_mem_drop (i := 5) (by exact hmm61)) hgx61 hz61 0 _ rfl)) ?_
      have hzr := (hpw x46 (List.mem_of_getElem? hx46)).2 z61 (List.mem_of_getElem? hz61)
      refine TL.as_ ?_
      refine zET (zG (TL.rn 2 rfl ?_))
      refine TL.prowS (e := 30) (size := 1) (cs := flat (ic .u32) [z61]) rfl rfl rfl rfl rfl (fun w => dntbs64_1_5377 _ w) (by decide) rfl (fun g65 => ?_)
      refine TL.appendT (k := 1) rfl rfl rfl rfl Tryz.underlying96 dntel64 rfl rfl rfl (fun w1 hw => pm_reads hw (k := 0) rfl) (flat_one (ic_cel .u32) _) (by show _ * 4 ≤ _; omega) ((p ++ [z61]).length) (by rw [List.length_append]; rfl) (flat (ic .u32) (p ++ [z61])) ((flat_app _ _).symm) (fun A66 c66 hA661 hA662 => ?_)
      refine TL.as_ ?_
      refine zE (zN (zT (zG (TL.mv ?_))))
      refine TL.v (gD ((i + 1 : Nat) : Int)) ?_
      refine TL.as_ ?_
      refine zE ?_
      exact TX.round (⟨(i + 1, (A66, c66), p ++ [z61]), by dsimp only; omega, by dsimp only; rw [List.length_append]; show p.length + 1 = i + 1; omega, ad_snoc hpr (by exact hzr), hA661, hA662⟩) (by show lg + 1 - (i + 1) < lg + 1 - i; omega) ⟨rfl, rfl, rfl, rfl, rfl, rfl, rfl, trivial⟩ (fun w1 hw => hw.sel (.cons _ (.cons_cons _ (.cons_cons _ (.cons_cons _ (.cons_cons _ (.cons_cons _ (List.Sublist.refl _))))))))
    refine TL.rn 6 rfl (zET (zd (zk (zT (zG (TL.rn 2 rfl ?_))))))
    refine TL.prowS (e := 30) (size := 1) (cs := flat (ic .u32) [ad]) rfl rfl rfl rfl rfl (fun w => dntbs64_1_5377 _ w) (by decide) rfl (fun g65 => ?_)
    refine TL.appendT (k := 1) rfl rfl rfl rfl Tryz.underlying96 dntel64 rfl rfl rfl (fun w1 hw => pm_reads hw (k := 0) rfl) (flat_one (ic_cel .u32) _) (by show _ * 4 ≤ _; omega) ((p ++ [ad]).length) (by rw [List.length_append]; rfl) (flat (ic .u32) (p ++ [ad])) ((flat_app _ _).symm) (fun A66 c66 hA661 hA662 => ?_)
    refine TL.as_ ?_
    refine zE (zN (zT (zG (TL.mv ?_))))
    refine TL.v (gD ((i + 1 : Nat) : Int)) ?_
    refine TL.as_ ?_
    refine zE ?_
    exact TX.round (⟨(i + 1, (A66, c66), p ++ [ad]), by dsimp only; omega, by dsimp only; rw [List.length_append]; show p.length + 1 = i + 1; omega, ad_snoc hpr (by omega), hA661, hA662⟩) (by show lg + 1 - (i + 1) < lg + 1 - i; omega) ⟨rfl, rfl, rfl, rfl, rfl, rfl, rfl, trivial⟩ (fun w1 hw => hw.sel (.cons _ (.cons_cons _ (.cons_cons _ (.cons_cons _ (.cons_cons _ (.cons_cons _ (List.Sublist.refl _))))))))
   refine TL.rn 14 rfl (zET (zd (zk (zT (zG (TL.rn 2 rfl ?_))))))
   refine TL.prowS (e := 30) (size := 1) (cs := flat (ic .u32) [ad]) rfl rfl rfl rfl rfl (fun w => dntbs64_1_5377 _ w) (by decide) rfl (fun g65 => ?_)
   refine TL.appendT (k := 1) rfl rfl rfl rfl Tryz.underlying96 dntel64 rfl rfl rfl (fun w1 hw => pm_reads hw (k := 0) rfl) (flat_one (ic_cel .u32) _) (by show _ * 4 ≤ _; omega) ((p ++ [ad]).length) (by rw [List.length_append]; rfl) (flat (ic .u32) (p ++ [ad])) ((flat_app _ _).symm) (fun A66 c66 hA661 hA662 => ?_)
   refine TL.as_ ?_
   refine zE (zN (zT (zG (TL.mv ?_))))
   refine TL.v (gD ((i + 1 : Nat) : Int)) ?_
   refine TL.as_ ?_
   refine zE ?_
   exact TX.round (⟨(i + 1, (A66, c66), p ++ [ad]), by dsimp only; omega, by dsimp only; rw [List.length_append]; show p.length + 1 = i + 1; omega, ad_snoc hpr (by omega), hA661, hA662⟩) (by show lg + 1 - (i + 1) < lg + 1 - i; omega) ⟨rfl, rfl, rfl, rfl, rfl, rfl, rfl, trivial⟩ (fun w1 hw => hw.sel (.cons _ (.cons_cons _ (.cons_cons _ (.cons_cons _ (.cons_cons _ (.cons_cons _ (List.Sublist.refl _))))))))
  refine zET (zd (zx (zX (zX (zM (zT (zG (TL.v (gF dntfld119_1) ?_))))))))
  refine TL.v (gL 2 dntag117) ?_
  refine TL.mv ?_
  refine TL.prowS (e := 96) (size := 1) (cs := flat sgc [(⟨Aq, cq, p⟩ : Sg Int)]) rfl rfl rfl rfl rfl (fun w => dntbs117_1_58639 _ _ _ w) (by decide) rfl (fun g70 => ?_)
  refine TL.appendT (k := 2) rfl rfl rfl rfl Tryz.underlying90 dntel117 rfl rfl rfl (fun w1 hw => pm_reads hw (k := 0) rfl) (flat_one sgc_cel _) (by show _ * 24 ≤ _; omega) ((pp ++ [(⟨Aq, cq, p⟩ : Sg Int)]).length) (by rw [List.length_append]; rfl) (flat sgc (pp ++ [(⟨Aq, cq, p⟩ : Sg Int)])) ((flat_app _ _).symm) (fun A71 c71 hA711 hA712 => ?_)
  refine TL.v (gF dntfld119_1) ?_
  refine TL.pstore (k := 3) (vs := [.slice A71 ((pp ++ [(⟨Aq, cq, p⟩ : Sg Int)]).length) c71]) rfl rfl rfl rfl rfl rfl rfl dntsz117 dntone_s (by show 4 ≤ 5; decide) rfl ?_
  refine zE (zN (zT (zG (TL.mv ?_))))
  refine TL.v (gD ((f + 1 : Nat) : Int)) ?_
  refine TL.as_ ?_
  refine zE ?_
  exact TX.round (⟨(f + 1, (A71, c71), pp ++ [(⟨Aq, cq, p⟩ : Sg Int)]), by dsimp only; omega, by dsimp only; rw [List.length_append]; show pp.length + 1 = f + 1; omega, pw_snoc hpw ⟨by show p.length = _; omega, hpr⟩, hA711, hA712⟩) (by show 3 - (f + 1) < 3 - f; omega) ⟨rfl, rfl, rfl, rfl, rfl, trivial⟩ (fun w1 hw => Pm.tuckEnd (s := ⟨Aq, cq, p⟩) (P := [.row (.slice A71 ((pp ++ [(⟨Aq, cq, p⟩ : Sg Int)]).length) c71) 96 1 ((pp ++ [(⟨Aq, cq, p⟩ : Sg Int)]).length) (flat sgc (pp ++ [(⟨Aq, cq, p⟩ : Sg Int)])), .blk g3 92 [.int .i64 tr.v, .int .u32 tr.dst, .int .i64 tr.proto, .slice A71 ((pp ++ [(⟨Aq, cq, p⟩ : Sg Int)]).length) c71, .int .u32 la], .blk g2 92 [.int .i64 0, .int .u32 0, .int .i64 0, .slice none 0 0, .int .u32 0], .abs cb (fun w => Cod w cb)]) (hw.sel (.cons _ (.cons_cons _ (.cons_cons _ (.cons_cons _ (.cons_cons _ (.cons_cons _ (List.Sublist.refl _)))))))))
 refine zET (zd (zx (zX (zX (zM (zT (zSG (TL.v (gV 1 (.agg #[.int .i64 tr.v, .int .u32 tr.dst, .int .i64 tr.proto, .slice Ap pp.length cp, .int .u32 la]) dntag119 dntsz119) ?_))))))))
 refine TL.pstore (k := 2) (vs := [.int .i64 tr.v, .int .u32 tr.dst, .int .i64 tr.proto, .slice Ap pp.length cp, .int .u32 la]) rfl rfl rfl rfl rfl rfl rfl dntsz119 dntone_i64u32i64su32 (by show 5 ≤ 5; decide) rfl ?_
 refine zET (zr ?_)
 exact pm_ret_cell (k := 2) Tryz.results63 rfl rfl Tryz.underlying92 rfl rfl (fun w1 hw => ⟨⟨⟨tr.v, tr.dst, tr.proto, ⟨Ap, cp, pp⟩, la⟩, ⟨htr, hla, lg + 1, by omega, by omega, by show 1 ≤ pp.length; omega, by show pp.length ≤ 3; omega, hpw⟩⟩, rfl, Pm.codr (netP ⟨Ap, cp, pp⟩) (Pm.netOut (p := ⟨Ap, cp, pp⟩) (hw.sel (.cons_cons _ (.cons _ (.cons _ (.cons_cons _ (List.Sublist.refl _))))))) (netP_noAbs _)⟩)
set_option maxRecDepth 20000
def RuG (u : Ru) : Prop := (1 ≤ u.los ∧ u.los ≤ 3) ∧ (1 ≤ u.gro ∧ u.gro ≤ 6) ∧ 1 ≤ u.prb ∧ u.prb ≤ 2
theorem RuG.vld {u : Ru} (h : RuG u) : vldRu u = true := by unfold RuG at h; unfold vldRu; exact decide_eq_true (by omega)
theorem adrzv28 (w : World) : (zeroValue 28).run Tryz.prog w = .ok (.agg #[.int .i64 0, .int .i64 0, .int .i64 0]) w := rfl
theorem adrbld28_57310 (a0_0 : Int) (a2_0 : Int) (a1_0 : Int) (w : World) : (Instr.build 28 #[(0, .int .i64 a0_0), (2, .int .i64 a2_0), (1, .int .i64 a1_0)]).run Tryz.prog w = .ok (.agg #[.int .i64 a0_0, .int .i64 a1_0, .int .i64 a2_0]) w := by kernel_rfl
theorem adrone_i64i64i64 {a0 : Int} {a1 : Int} {a2 : Int} : ∀ u ∈ [(.int .i64 a0 : Value), .int .i64 a1, .int .i64 a2], u.oneCell' = true := by
 intro u hu
 simp only [List.mem_cons, List.not_mem_nil, or_false] at hu
 rcases hu with rfl | rfl | rfl <;> rfl
theorem drule_cod (cb : Nat) (w : World) (hC : Cod w cb) :
  Calls Tryz.prog 20 #[.pointer (some ⟨cb, 0, none⟩)] w fun e w' => ∃ x : {u : Ru // RuG u}, e = .returned (.agg x.1.cells.toArray) ∧ Codr (fun w => Cod w cb) cb w ([]) w' := by
 refine begin_ (vs := [.pointer (some ⟨cb, 0, none⟩)]) (I := Pm ⟨w, cb⟩ (.abs cb (fun w => Cod w cb) :: oths cb w)) Tryz.func20 rfl rfl rfl ?_ (Pm.codes hC (cod_cells hC) (cod_stab cb))
 refine zSG ?_
 refine TL.pnew rfl rfl rfl (exec_alloc (cs := [.int .i64 0, .int .i64 0, .int .i64 0]) rfl adrzv28 rfl) (fun g2 => ?_)
 refine zET (zSG (TL.mv ?_))
 refine TL.pcallCod (k := 1) (α := {q9 : Nat // q9 ≤ 65535 ∧ (1 ≤ (3 : Int) → (q9 : Int) < 3)}) (fun q9 => .int .i64 ((q9.1 : Nat) : Int)) (fun q9 => []) rfl rfl rfl rfl rfl Tryz.func21 (by decide) rfl rfl (fun w1 hw hC1 => next_cod cb w1 3 hC1) ?_
 rintro ⟨a0, ha01, ha02⟩
 dsimp only [List.cons_append, List.nil_append]
 refine TL.v (gD ((1 + a0 : Nat) : Int)) ?_
 refine TL.mv ?_
 refine TL.pcallCod (k := 1) (α := {q9 : Nat // q9 ≤ 65535 ∧ (1 ≤ (2 : Int) → (q9 : Int) < 2)}) (fun q9 => .int .i64 ((q9.1 : Nat) : Int)) (fun q9 => []) rfl rfl rfl rfl rfl Tryz.func21 (by decide) rfl rfl (fun w1 hw hC1 => next_cod cb w1 2 hC1) ?_
 rintro ⟨a1, ha11, ha12⟩
 dsimp only [List.cons_append, List.nil_append]
 refine TL.v (gD ((1 + a1 : Nat) : Int)) ?_
 refine TL.mv ?_
 refine TL.pcallCod (k := 1) (α := {q9 : Nat // q9 ≤ 65535 ∧ (1 ≤ (6 : Int) → (q9 : Int) < 6)}) (fun q9 => .int .i64 ((q9.1 : Nat) : Int)) (fun q9 => []) rfl rfl rfl rfl rfl Tryz.func21 (by decide) rfl rfl (fun w1 hw hC1 => next_cod cb w1 6 hC1) ?_
 rintro ⟨a2, ha21, ha22⟩
 dsimp only [List.cons_append, List.nil_append]
 refine TL.v (gD ((1 + a2 : Nat) : Int)) ?_
 refine TL.val rfl rfl rfl (gives_build (v := .agg #[.int .i64 ((1 + a0 : Nat) : Int), .int .i64 ((1 + a2 : Nat) : Int), .int .i64 ((1 + a1 : Nat) : Int)]) rfl rfl (fun w => adrbld28_57310 _ _ _ w)) ?_
 refine TL.pstore (k := 0) (vs := [.int .i64 ((1 + a0 : Nat) : Int), .int .i64 ((1 + a2 : Nat) : Int), .int .i64 ((1 + a1 : Nat) : Int)]) rfl rfl rfl rfl rfl rfl rfl aprsz28 adrone_i64i64i64 (by show 3 ≤ 3; decide) rfl ?_
 refine zET (zr ?_)
 exact pm_ret_cell (k := 0) Tryz.results20 rfl rfl Tryz.underlying28 rfl rfl (fun w1 hw => ⟨⟨⟨((1 + a0 : Nat) : Int), ((1 + a2 : Nat) : Int), ((1 + a1 : Nat) : Int)⟩, by unfold RuG; dsimp only; omega⟩, rfl, Pm.codr [] (hw.sel (.cons _ (.cons_cons _ (List.Sublist.refl _)))) rfl⟩)
open Go.RowKit Go.Shelf
theorem rpk_len (x : Rp) : x.keys.length = 8 := rfl
theorem rpk_inj {x y : Rp} (h : x.keys = y.keys) : x = y := by
  cases x; cases y
  simp only [Rp.keys, List.cons.injEq, and_true] at h
  simp only [Rp.mk.injEq]
  exact h
def Rp.cand (p : Rp) : Rp := { p with at_ := 0 }
def Rp.when (p : Rp) (t : Int) : Rp := { p with at_ := t }
theorem like_iff {p q : Rp} : p.when q.at_ = q ↔ p.cand = q.cand := by
  cases p; cases q; simp [Rp.when, Rp.cand]
theorem cand_eq {p q : Rp} (h : p.cand = q.cand) (ha : p.at_ = q.at_) : p = q := by
  rw [← like_iff, ← ha] at h; exact h
def IsMin (P S : Rp → Prop) (out : List Rp) : Prop := AscK Rp.keys out ∧ ∀ p, p ∈ out ↔ S p ∧ P p ∧ ∀ q, S q → q.cand = p.cand → P q → p.at_ ≤ q.at_
section
variable {P S S' : Rp → Prop} {out o1 : List Rp} {p : Rp}
theorem IsMin.eq {a b : List Rp} (h : IsMin P S a) (h' : IsMin P S b) : a = b := ascK_eq rpk_len h.1 h'.1 fun x => by rw [h.2, h'.2]
theorem IsMin.congr (h : IsMin P S out) (hS : ∀ p, S p ↔ S' p) : IsMin P S' out := by
  have : S = S' := funext fun p => propext (hS p)
  rw [← this]; exact h
theorem IsMin.nil (hS : ∀ p, ¬ S p) : IsMin P S [] := ⟨List.Pairwise.nil, fun p => ⟨fun h => absurd h List.not_mem_nil, fun h => absurd h.1 (hS p)⟩⟩
theorem least {R : Rp → Prop} (h0 : ∀ p, R p → 0 ≤ p.at_) : ∀ (n : Nat) {q : Rp}, R q → q.at_ ≤ n → ∃ m, R m ∧ ∀ x, R x → m.at_ ≤ x.at_
  | 0, q, hq, hn => ⟨q, hq, fun x hx => by have := h0 x hx; have := h0 q hq; omega⟩
  | n + 1, q, hq, hn => by
    by_cases h : ∃ x, R x ∧ x.at_ ≤ n
    · obtain ⟨x, hx, h1⟩ := h
      exact least h0 n hx h1
    · exact ⟨q, hq, fun x hx => by
        have : ¬ x.at_ ≤ n := fun h1 => h ⟨x, hx, h1⟩
        omega⟩
theorem IsMin.ex (h : IsMin P S out) (h0 : ∀ p, P p → 0 ≤ p.at_) {q : Rp} (hS : S q) (hP : P q) : ∃ m ∈ out, m.cand = q.cand ∧ m.at_ ≤ q.at_ := by
  obtain ⟨m, ⟨h1, h2, h3⟩, h4⟩ := least (R := fun x => S x ∧ P x ∧ x.cand = q.cand) (fun x hx => h0 x hx.2.1) q.at_.toNat ⟨hS, hP, rfl⟩ (by have := h0 q hP; omega)
  exact ⟨m, (h.2 m).2 ⟨h1, h2, fun x hx hc hp => h4 x ⟨hx, hp, hc.trans h3⟩⟩, h3, h4 q ⟨hS, hP, rfl⟩⟩
theorem IsMin.skip (h : IsMin P S out) (hn : P p → ∃ q ∈ out, q.cand = p.cand ∧ q.at_ ≤ p.at_) : IsMin P (fun x => S x ∨ x = p) out := by
  refine ⟨h.1, fun x => ?_⟩
  rw [h.2]
  constructor
  · rintro ⟨h1, h2, h3⟩
    refine ⟨.inl h1, h2, fun q hq hc hP => ?_⟩
    rcases hq with hq | rfl
    · exact h3 q hq hc hP
    · obtain ⟨m, hm, hmc, hma⟩ := hn hP
      obtain ⟨m1, m2, m3⟩ := (h.2 m).1 hm
      have := h3 m m1 (hmc.trans hc) m2
      omega
  · rintro ⟨h1, h2, h3⟩
    rcases h1 with h1 | rfl
    · exact ⟨h1, h2, fun q hq => h3 q (.inl hq)⟩
    · obtain ⟨m, hm, hmc, hma⟩ := hn h2
      obtain ⟨m1, m2, m3⟩ := (h.2 m).1 hm
      have := h3 m (.inl m1) hmc m2
      have e : m = x := cand_eq hmc (by omega)
      subst e
      exact ⟨m1, m2, m3⟩
theorem IsMin.put (h : IsMin P S out) (h0 : ∀ p, P p → 0 ≤ p.at_) (hP : P p) (hn : ∀ q ∈ out, q.cand = p.cand → p.at_ < q.at_) (ho : AscK Rp.keys o1) (hm : ∀ x, x ∈ o1 ↔ x ∈ out ∧ x.cand ≠ p.cand) {k : Nat} (h1 : ∀ y ∈ o1.take k, lexI y.keys p.keys < 0) (h2 : ∀ y ∈ o1.drop k, lexI p.keys y.keys < 0) : IsMin P (fun x => S x ∨ x = p) (o1.take k ++ p :: o1.drop k) := by
  refine ⟨ascK_put rpk_len ho h1 h2, fun x => ?_⟩
  rw [mem_put, hm, h.2]
  constructor
  · rintro (⟨⟨a1, a2, a3⟩, a4⟩ | rfl)
    · refine ⟨.inl a1, a2, fun q hq hc hP => ?_⟩
      rcases hq with hq | rfl
      · exact a3 q hq hc hP
      · exact absurd hc.symm a4
    · refine ⟨.inr rfl, hP, fun q hq hc hQ => ?_⟩
      rcases hq with hq | rfl
      · obtain ⟨m, hm1, hmc, hma⟩ := h.ex h0 hq hQ
        have := hn m hm1 (hmc.trans hc)
        omega
      · exact Int.le_refl _
  · rintro ⟨a1, a2, a3⟩
    rcases a1 with a1 | rfl
    · by_cases hc : x.cand = p.cand
      · have b1 := a3 p (.inr rfl) hc.symm hP
        have hx : x ∈ out := (h.2 x).2 ⟨a1, a2, fun q hq => a3 q (.inl hq)⟩
        have := hn x hx hc
        omega
      · exact .inl ⟨⟨a1, a2, fun q hq => a3 q (.inl hq)⟩, hc⟩
    · exact .inr rfl
end
open Go.RowKit Go.Shelf
def IsTm (l : List Rs) (p : Rp) : Prop := ∃ y, IsSt l p.trc p.flow y ∧ ∃ r ∈ y, r.at_ = p.at_
def IsFnd (es : List En) (l : List Rs) (u : Ru) (out : List Rp) : Prop := IsMin (PrP es l u) (IsTm l) out
theorem IsFnd.eq {es : List En} {l : List Rs} {u : Ru} {a b : List Rp} (h : IsFnd es l u a) (h' : IsFnd es l u b) : a = b := IsMin.eq h h'
theorem PrP.at0 {es : List En} {l : List Rs} {u : Ru} {p : Rp} (h : PrP es l u p) : 0 ≤ p.at_ := by
  have := h.2.1
  unfold vldRp at this
  simp only [Bool.and_eq_true, decide_eq_true_eq] at this
  omega
def CandOf (es : List En) (r : Rs) (p : Rp) : Prop := p.trc = trcR r ∧ p.flow = r.flow ∧ ((p.kind = 1 ∧ p.ttl = 0 ∧ p.prov = 0) ∨ (p.kind = 3 ∧ p.ttl = r.ttl ∧ p.prov = 0) ∨ (p.kind = 2 ∧ r.ans = true ∧ p.ttl = r.ttl ∧ p.prov = provR es r.src r.back))
theorem IsSt.mem {l y : List Rs} {t : Trc} {flow : Int} (h : IsSt l t flow y) (r : Rs) : r ∈ y ↔ r ∈ l ∧ trcR r = t ∧ usbRs r = true ∧ r.flow = flow := by
  obtain ⟨x, ⟨o, h1, rfl⟩, rfl⟩ := h
  rw [List.mem_filter, List.mem_filter, h1.2]
  simp only [Bool.and_eq_true, decide_eq_true_eq, usbRs]
  exact ⟨fun ⟨⟨⟨a, b⟩, c⟩, d, e⟩ => ⟨a, c, d, e⟩, fun ⟨a, c, d, e⟩ => ⟨⟨⟨a, d.2⟩, c⟩, d, e⟩⟩
theorem CandOf.like {es : List En} {r : Rs} {p q : Rp} (h : CandOf es r p) (hc : q.cand = p.cand) : CandOf es r q := by
  have h2 := (like_iff (p := p) (q := q)).2 hc.symm
  rw [← h2]
  exact h
def PrS (es : List En) (y : List Rs) (u : Ru) (p : Rp) : Prop :=
  (p.kind = 1 ∧ p.ttl = 0 ∧ p.prov = 0 ∧ bhF y u.los p.at_ = true) ∨
  (p.kind = 3 ∧ p.prov = 0 ∧ CgF (eaL (atL y p.ttl) p.at_) (laL (atL y p.ttl) p.at_) u.prb u.gro) ∨
  (p.kind = 2 ∧ p.prov ≠ 0 ∧ DtF (fun r : Rs => provR es r.src r.back) (atL y p.ttl) p.prov p.at_)
theorem lookR_mem (a t : Int) : ∀ (es : List En) (q : En × Bool), (es.foldl (stepL a t) q).1 ∈ es ∨ (es.foldl (stepL a t) q) = q
  | [], q => .inr rfl
  | e :: es, q => by
    rw [List.foldl_cons]
    rcases lookR_mem a t es (stepL a t q e) with h | h
    · exact .inl (List.mem_cons_of_mem _ h)
    · rw [h]
      unfold stepL
      split
      · exact .inl List.mem_cons_self
      · exact .inr rfl
theorem provR_range {es : List En} (a t : Int) : 0 ≤ provR es a t ∧ provR es a t ≤ 2147483647 := by
  unfold provR lookV
  split
  · rename_i hv
    rcases lookR_mem a t es (En.zero, false) with h | h
    · unfold lookR
      obtain ⟨i, hi⟩ := List.getElem?_of_mem h
      have hv2 := hv
      simp only [validR, Bool.and_eq_true, decide_eq_true_eq, List.all_eq_true, List.mem_range] at hv2
      have h3 := hv2.2 i (List.getElem?_eq_some_iff.1 hi).1
      unfold okAt at h3
      rw [hi] at h3
      simp only [validE, Bool.and_eq_true, decide_eq_true_eq] at h3
      omega
    · unfold lookR; rw [h]; exact ⟨by decide, by decide⟩
  · exact ⟨by decide, by decide⟩
theorem chk_probe {r : Rs} (h : chkR r = 0) : chkR ⟨r.v, 0, 0, 0, r.dst, r.proto, r.flow, 1, false, false, 0, 0, 0, 0, 0, 0, 0⟩ = 0 := by
  have hr : r.inRange := Decidable.by_contra fun h1 => by have := chk_range h1; omega
  unfold Rs.inRange at hr
  unfold chkR at h ⊢
  rw [if_neg (by rw [Decidable.not_not]; unfold Rs.inRange; omega)] at h
  split at h
  · cases h
  · rename_i hp
    rw [if_neg (by rw [Decidable.not_not]; unfold Rs.inRange; dsimp only; omega), if_neg (by dsimp only; exact hp)]
    simp [Rs.noAns]
theorem vld_probe {r : Rs} {p : Rp} (h : vldRs r = true) (ht : p.trc = trcR r) (hf : p.flow = r.flow) : vldRs p.rs = true := by
  unfold Rp.trc trcR at ht
  injection ht with h1 h2 h3
  unfold vldRs at h ⊢
  simp only [Bool.and_eq_true, decide_eq_true_eq] at h ⊢
  unfold Rp.rs
  rw [h1, h2, h3, hf]
  exact ⟨⟨chk_probe h.1.1, h.1.2⟩, rfl⟩
theorem prS_iff {es : List En} {l y : List Rs} {u : Ru} {p : Rp} (hu : vldRu u = true) (he : validR es = true) (hy : IsSt l p.trc p.flow y) {r : Rs} (hr : r ∈ y) (ha : r.at_ = p.at_) : PrS es y u p ↔ PrP es l u p := by
  have hm := (hy.mem r).1 hr
  have hv : vldRs r = true := by have := hm.2.2.1; unfold usbRs at this; simp only [Bool.and_eq_true] at this; exact this.2
  have hin := vld_in hv
  unfold Rs.inRange at hin
  have hprb : 1 ≤ u.prb := by unfold vldRu at hu; have := of_decide_eq_true hu; omega
  have hvp := vld_probe hv hm.2.1.symm hm.2.2.2.symm
  have httl : ∀ r ∈ y, 1 ≤ r.ttl ∧ r.ttl ≤ 255 := fun r hr => by
    have h1 := ((hy.mem r).1 hr).2.2.1
    unfold usbRs at h1
    simp only [Bool.and_eq_true] at h1
    have := vld_in h1.2
    unfold Rs.inRange at this
    omega
  constructor
  · rintro (⟨a1, a2, a3, a4⟩ | ⟨a1, a2, a3⟩ | ⟨a1, a2, a3⟩)
    · refine ⟨hu, ?_, he, .inl ⟨a1, y, hy, a4⟩⟩
      unfold vldRp; rw [hvp, Bool.true_and]; exact decide_eq_true (by omega)
    · refine ⟨hu, ?_, he, .inr (.inr ⟨a1, .inr ⟨y, hy, a3⟩⟩)⟩
      obtain ⟨e, h1, _⟩ := a3
      obtain ⟨s, hs, _⟩ := ea_mem h1
      have h8 := List.mem_filter.1 hs
      simp only [Bool.and_eq_true, decide_eq_true_eq] at h8
      have := httl s h8.1
      unfold vldRp; rw [hvp, Bool.true_and]; exact decide_eq_true (by omega)
    · refine ⟨hu, ?_, he, .inr (.inl ⟨a1, y, hy, a3⟩)⟩
      obtain ⟨a, ha, _, b, hb, hb1, hb2, hb3⟩ := a3
      have h8 := List.mem_filter.1 hb
      simp only [Bool.and_eq_true, decide_eq_true_eq] at h8
      have := httl b h8.1
      have h9 := provR_range (es := es) b.src b.back
      dsimp only at hb2
      rw [hb2] at h9
      unfold vldRp; rw [hvp, Bool.true_and]; exact decide_eq_true (by omega)
  · rintro ⟨_, h2, _, h4⟩
    unfold vldRp at h2
    simp only [Bool.and_eq_true, decide_eq_true_eq] at h2
    rcases h4 with ⟨a1, y', a2, a3⟩ | ⟨a1, y', a2, a3⟩ | ⟨a1, a2⟩
    · rw [← hy.eq a2] at a3; exact .inl ⟨a1, by omega, by omega, a3⟩
    · rw [← hy.eq a2] at a3; exact .inr (.inr ⟨a1, by omega, a3⟩)
    · rcases a2 with a2 | ⟨y', a2, a3⟩
      · omega
      · rw [← hy.eq a2] at a3; exact .inr (.inl ⟨a1, by omega, a3⟩)
open Go.RowKit Go.Shelf
theorem CandOf.ok {es : List En} {x : Rs} {p : Rp} (h : CandOf es x p) (hx : x.Ok) : p.Ok := by
  have h1 := h.1
  unfold Rp.trc trcR at h1
  injection h1 with a b c
  unfold Rp.Ok
  rw [b]
  exact ⟨hx.1, hx.2.1⟩
theorem IsSt.leo {l y o : List Rs} {t : Trc} {flow : Int} (h : IsSt l t flow y) (ho : IsOrd l o) : y.length ≤ o.length := by
  obtain ⟨x, ⟨o', h1, rfl⟩, rfl⟩ := h
  rw [ho.eq h1]
  exact Nat.le_trans (List.length_filter_le _ _) (List.length_filter_le _ _)
def FndOk (es : List En) (l : List Rs) (u : Ru) (out : List Rp) (z : Int) : Prop :=
  (z = 1 ∧ out = [] ∧ ¬ ((∀ r ∈ l, vldRs r = true) ∧ validR es = true ∧ vldRu u = true)) ∨
  (z = 5 ∧ out = [] ∧ ((∀ r ∈ l, vldRs r = true) ∧ validR es = true ∧ vldRu u = true) ∧ ∃ o, IsOrd l o ∧ 512 < o.length) ∨
  (z = 0 ∧ IsFnd es l u out ∧ ((∀ r ∈ l, vldRs r = true) ∧ validR es = true ∧ vldRu u = true) ∧ ∃ o, IsOrd l o ∧ o.length ≤ 512)
theorem FndOk.eq {es : List En} {l : List Rs} {u : Ru} {out out' : List Rp} {z z' : Int} (h : FndOk es l u out z) (h' : FndOk es l u out' z') : out = out' ∧ z = z' := by
  rcases h with ⟨rfl, h1, h2⟩ | ⟨rfl, h1, h2, o, h3, h4⟩ | ⟨rfl, h1, h2, o, h3, h4⟩ <;> rcases h' with ⟨rfl, g1, g2⟩ | ⟨rfl, g1, g2, o', g3, g4⟩ | ⟨rfl, g1, g2, o', g3, g4⟩
  · exact ⟨h1.trans g1.symm, rfl⟩
  · exact absurd g2 h2
  · exact absurd g2 h2
  · exact absurd h2 g2
  · exact ⟨h1.trans g1.symm, rfl⟩
  · rw [h3.eq g3] at h4; omega
  · exact absurd h2 g2
  · rw [h3.eq g3] at h4; omega
  · exact ⟨h1.eq g1, rfl⟩
section
variable {es : List En} {l o own : List Rs} {i k n : Nat} {x s : Rs} {al : List Rp} {c : Rp} {u : Ru} {out : List Rp} {P : Rp → Prop} {t : Int}
end
set_option maxRecDepth 20000
def EarB (P : Int → Bool) (p : Rp) (ts : List Int) (o : List Rp) : Prop := (o = [] ∧ ∀ t ∈ ts, P t = false) ∨ ∃ (i : Nat) (t : Int), ts[i]? = some t ∧ (∀ s ∈ ts.take i, P s = false) ∧ P t = true ∧ o = [p.when t]
theorem aeaag23 (w : World) : (isAgg 23).run Tryz.prog w = .ok false w := rfl
theorem aeaag106 (w : World) : (isAgg 106).run Tryz.prog w = .ok false w := rfl
theorem aeaone_i64 {a0 : Int} : ∀ u ∈ [(.int .i64 a0 : Value)], u.oneCell' = true := by
 intro u hu
 rw [List.mem_singleton] at hu
 subst hu; rfl
theorem aeabs49_1_10276 (a0_0 : Int) (a0_1 : Int) (a0_2 : Int) (a0_3 : Int) (a0_4 : Int) (a0_5 : Int) (a0_6 : Int) (a0_7 : Int) (w : World) : (Instr.buildSlice 49 1 #[(0, .agg #[.int .i64 a0_0, .int .i64 a0_1, .int .u32 a0_2, .int .i64 a0_3, .int .i64 a0_4, .int .i64 a0_5, .int .i64 a0_6, .int .i64 a0_7])]).run Tryz.prog w = .ok (.slice (some ⟨w.heap.size, 0, none⟩) 1 1) (w.alloc (.cells [.int .i64 a0_0, .int .i64 a0_1, .int .u32 a0_2, .int .i64 a0_3, .int .i64 a0_4, .int .i64 a0_5, .int .i64 a0_6, .int .i64 a0_7].toArray 34)) := by kernel_rfl
theorem srch1_any (A0 : Option Addr) (c0 : Nat) (l : List Rs) (u : Ru) (t : Int) (g1 g2 : Nat) (w : World) (hr : Reads w w.heap.size 17 A0 l.length (flat Rs.cells l)) (hl1 : l.length ≤ 100000) (hg1 : g1 < w.heap.size) (hc1 : w.cell? ⟨g1, 0, none⟩ = some (.slice A0 l.length c0)) (hg2 : g2 < w.heap.size) (hc2 : w.cell? ⟨g2, 0, none⟩ = some (.int .i64 u.los)) :
  Calls Tryz.prog 141 #[.int .i64 t, .pointer (some ⟨g1, 0, none⟩), .pointer (some ⟨g2, 0, none⟩)] w fun e w' => e = .returned (.bool (bhF l u.los t)) ∧ Below w.heap.size w w' := by
 refine begin_ (vs := [.int .i64 t, .pointer (some ⟨g1, 0, none⟩), .pointer (some ⟨g2, 0, none⟩)]) Tryz.func141 rfl rfl rfl ?_ (Pm.start w)
 refine zSG (TL.as_ ?_)
 refine zET (zSG ?_)
 refine TL.val rfl rfl rfl (gives_load (v := .slice A0 l.length c0) rfl rfl aeaag23 (fun w1 hw => (hw.bel.cell hg1).trans hc1)) ?_
 refine TL.v (gF arpfld28_0) ?_
 refine TL.val rfl rfl rfl (gives_load (v := .int .i64 u.los) rfl rfl pcmag3 (fun w1 hw => (hw.bel.cell hg2).trans hc2)) ?_
 refine TL.mv ?_
 refine TL.pcall1 (r := .bool (bhF l u.los t)) rfl rfl rfl rfl rfl Tryz.func72 (by decide) rfl (fun w1 hw => blackhole_l A0 c0 l u.los t w1 (hr.up hw.bel) hl1) ?_
 refine TL.as_ ?_
 refine zET (zr ?_)
 exact ret_tmp Tryz.results141 rfl (fun w1 hw => ⟨rfl, hw.bel⟩)
theorem srch2_any (A0 : Option Addr) (c0 : Nat) (l : List Rs) (u : Ru) (t : Int) (g1 g2 : Nat) (w : World) (hr : Reads w w.heap.size 17 A0 l.length (flat Rs.cells l)) (hl1 : l.length ≤ 100000) (hin : ∀ r ∈ l, r.inRange) (hg1 : g1 < w.heap.size) (hc1 : w.cell? ⟨g1, 0, none⟩ = some (.slice A0 l.length c0)) (hg2 : g2 < w.heap.size) (hc2 : ∀ (j : Nat) (v : Value), u.cells[j]? = some v → w.cell? ⟨g2, 0 + j, none⟩ = some v) :
  Calls Tryz.prog 142 #[.int .i64 t, .pointer (some ⟨g1, 0, none⟩), .pointer (some ⟨g2, 0, none⟩)] w fun e w' => ∃ x : {b : Bool // b = true ↔ u.prb < 1 ∨ CgF (eaL l t) (laL l t) u.prb u.gro}, e = .returned (.bool x.1) ∧ Below w.heap.size w w' := by
 refine begin_ (vs := [.int .i64 t, .pointer (some ⟨g1, 0, none⟩), .pointer (some ⟨g2, 0, none⟩)]) Tryz.func142 rfl rfl rfl ?_ (Pm.start w)
 refine zSG (TL.as_ ?_)
 refine zET (zSG ?_)
 refine TL.val rfl rfl rfl (gives_load (v := .slice A0 l.length c0) rfl rfl aeaag23 (fun w1 hw => (hw.bel.cell hg1).trans hc1)) ?_
 refine TL.val rfl rfl rfl (gives_loadR (off := 0) rfl rfl aprag28 aprsz28 (ru_cel.len u) (fun w1 hw j9 u9 h9 => (hw.bel.cell hg2).trans (hc2 j9 u9 h9))) ?_
 refine TL.mv ?_
 refine TL.pcallPm (α := {b : Bool // b = true ↔ u.prb < 1 ∨ CgF (eaL l t) (laL l t) u.prb u.gro}) (fun x => .bool x.1) (fun x => []) rfl rfl rfl rfl rfl Tryz.func76 (by decide) rfl (fun w1 hw => (congestion_l A0 c0 l u t w1 (hr.up hw.bel) hl1 hin).mono fun en w2 ⟨x, h1, h2⟩ => ⟨x, h1, (Pm.start w1).below h2⟩) ?_
 rintro ⟨bd, hbd⟩
 dsimp only [List.cons_append, List.nil_append]
 refine TL.as_ ?_
 refine zET (zr ?_)
 exact ret_tmp Tryz.results142 rfl (fun w1 hw => ⟨⟨bd, hbd⟩, rfl, hw.bel⟩)
theorem srch3_any (A0 : Option Addr) (c0 : Nat) (l : List Rs) (A1 : Option Addr) (c1 : Nat) (ps : List Int) (f : Rs → Int) (prov t : Int) (g1 g2 g3 : Nat) (w : World) (hr : Reads w w.heap.size 17 A0 l.length (flat Rs.cells l)) (hl1 : l.length ≤ 100000) (hr1 : Reads w w.heap.size 1 A1 ps.length (flat (ic .i64) ps)) (hps : ps = l.map f) (hg1 : g1 < w.heap.size) (hc1_ : w.cell? ⟨g1, 0, none⟩ = some (.slice A0 l.length c0)) (hg2 : g2 < w.heap.size) (hc2_ : w.cell? ⟨g2, 0, none⟩ = some (.slice A1 ps.length c1)) (hg3 : g3 < w.heap.size) (hc3_ : w.cell? ⟨g3, 7, none⟩ = some (.int .i64 prov)) :
  Calls Tryz.prog 144 #[.int .i64 t, .pointer (some ⟨g1, 0, none⟩), .pointer (some ⟨g2, 0, none⟩), .pointer (some ⟨g3, 0, none⟩)] w fun e w' => ∃ x : {b : Bool // b = true ↔ DtF f l prov t}, e = .returned (.bool x.1) ∧ Below w.heap.size w w' := by
 refine begin_ (vs := [.int .i64 t, .pointer (some ⟨g1, 0, none⟩), .pointer (some ⟨g2, 0, none⟩), .pointer (some ⟨g3, 0, none⟩)]) Tryz.func144 rfl rfl rfl ?_ (Pm.start w)
 refine zSG (TL.as_ ?_)
 refine zET (zSG ?_)
 refine TL.val rfl rfl rfl (gives_load (v := .slice A0 l.length c0) rfl rfl aeaag23 (fun w1 hw => (hw.bel.cell hg1).trans hc1_)) ?_
 refine TL.val rfl rfl rfl (gives_load (v := .slice A1 ps.length c1) rfl rfl aeaag106 (fun w1 hw => (hw.bel.cell hg2).trans hc2_)) ?_
 refine TL.v (gF arpfld34_5) ?_
 refine TL.val rfl rfl rfl (gives_load (v := .int .i64 prov) rfl rfl pcmag3 (fun w1 hw => (hw.bel.cell hg3).trans hc3_)) ?_
 refine TL.mv ?_
 refine TL.pcallPm (α := {b : Bool // b = true ↔ DtF f l prov t}) (fun x => .bool x.1) (fun x => []) rfl rfl rfl rfl rfl Tryz.func81 (by decide) rfl (fun w1 hw => (detour_l A0 c0 l A1 c1 ps f prov t w1 (hr.up hw.bel) hl1 (hr1.up hw.bel) hps).mono fun en w2 ⟨x, h1, h2⟩ => ⟨x, h1, (Pm.start w1).below h2⟩) ?_
 rintro ⟨bd, hbd⟩
 dsimp only [List.cons_append, List.nil_append]
 refine TL.as_ ?_
 refine zET (zr ?_)
 exact ret_tmp Tryz.results144 rfl (fun w1 hw => ⟨⟨bd, hbd⟩, rfl, hw.bel⟩)
theorem earliest_any (w0 : Base) (F : List Pc) (A0 : Option Addr) (c0 : Nat) (ts : List Int) (p : Rp) (P : Int → Bool) (f : FuncId) (fn : Func) (cap : Array Value) (w : World) (hw0 : Pm w0 ([.row (.slice A0 ts.length c0) 3 1 ts.length (flat (ic .i64) ts)] ++ F) w) (hl1 : ts.length ≤ 1000000) (hfn : Tryz.prog.funcs[f]? = some fn) (hnm : (fn.name == "runtime.NumGoroutine") = false) (hbd : fn.body.isNone = false) (hf : ∀ (t : Int) (w1 : World), (∃ L1, Pm w0 (L1 ++ F) w1) → Calls Tryz.prog f (#[] ++ [Value.int .i64 t].toArray ++ cap) w1 fun e w' => e = .returned (.bool (P t)) ∧ Below w1.heap.size w1 w') :
  Calls Tryz.prog 140 #[.agg p.cells.toArray, .slice A0 ts.length c0, .func (.func f) #[] cap] w fun e w' => ∃ y : {y : (Option Addr × Nat) × List Rp // EarB P p ts y.2 ∧ y.2.length ≤ 1 ∧ y.2.length ≤ y.1.2 ∧ y.1.2 ≤ maxLen}, e = .returned (.slice y.1.1.1 y.1.2.length y.1.1.2) ∧ Pm w0 ([.row (.slice y.1.1.1 y.1.2.length y.1.1.2) 34 8 y.1.2.length (flat Rp.cells y.1.2), .row (.slice A0 ts.length c0) 3 1 ts.length (flat (ic .i64) ts)] ++ F) w' := by
 refine begin_ (vs := [.agg p.cells.toArray, .slice A0 ts.length c0, .func (.func f) #[] cap]) (I := Pm w0 ([.row (.slice A0 ts.length c0) 3 1 ts.length (flat (ic .i64) ts)] ++ F)) Tryz.func140 rfl rfl rfl ?_ hw0
 refine zSG ?_
 refine TL.pnew rfl rfl rfl (exec_box (cs := p.cells) rfl rfl rfl) (fun g3 => ?_)
 refine TL.as_ ?_
 refine zET (zS (zSG (TL.mv ?_)))
 refine TL.v (gN Tryz.underlying106) ?_
 refine TL.mv ?_
 refine zET (zB ?_)
 refine TC.loop_ (α := {i : Nat // i ≤ ts.length ∧ ∀ t ∈ ts.take i, P t = false}) (fun y => [(2, .func (.func f) #[] cap), (3, .pointer (some ⟨g3, 0, none⟩)), (9, .slice A0 ts.length c0), (10, .int .i64 (ts.length : Nat)), (11, .int .i64 ((y.1 : Nat) : Int))]) (fun y => Pm w0 ([.blk g3 34 p.cells, .row (.slice A0 ts.length c0) 3 1 ts.length (flat (ic .i64) ts)] ++ F)) (fun y => ts.length - y.1) (⟨0, Nat.zero_le _, fun r hr => by rw [List.take_zero] at hr; cases hr⟩) ⟨rfl, rfl, rfl, rfl, rfl, trivial⟩ (fun w1 hw => hw) ?_
 rintro ⟨i, hi, hall⟩
 try dsimp only at hi hall ⊢
 refine zSG ?_
 refine TL.sp bin_lss (fun q12 => ?_) (fun q12 => ?_)
 ·refine zET (zS (zc (zk (zT (zS (zB (zSG ?_)))))))
  refine TL.fact (p := ∃ g, A0 = some ⟨g, 0, none⟩) (fun w1 hw => rowA hw (k := 1) rfl (by omega)) ?_
  rintro ⟨g_A0, rfl⟩
  have hi13 : i < ts.length := by omega
  obtain ⟨x13, hx13⟩ := ex_at hi13
  refine TL.val rfl rfl rfl (gA (i := i) Tryz.underlying106 pcmsz3 rfl rfl rfl rfl rfl (by omega)) ?_
  refine TL.val rfl rfl rfl (gives_load (v := .int .i64 x13) rfl rfl pcmag3 (fun w1 hw => flat_row (ic_cel .i64) hw (q := 1) rfl hx13 0 _ rfl)) ?_
  refine TL.as_ ?_
  refine zET (zSG (TL.rn 2 rfl ?_))
  obtain ⟨bv, hbv⟩ : ∃ b, P x13 = b := ⟨_, rfl⟩
  refine TL.callE1 (r := .bool bv) rfl rfl rfl (ent_val rfl rfl rfl hfn hnm hbd rfl) (fun w1 hw => by rw [← hbv]; exact hf x13 w1 ⟨_, hw⟩) ?_
  refine zET ?_
  refine TC.split (t := bv) rfl (fun c17 => ?_) (fun c17 => ?_)
  ·refine zSG (TL.mv ?_)
   refine TL.v (gF arpfld34_4) ?_
   refine TL.pstore (k := 0) (vs := [.int .i64 x13]) rfl rfl rfl rfl rfl rfl rfl pcmsz3 aeaone_i64 (by show 7 ≤ 8; decide) rfl ?_
   refine zET (zSG (TL.v (gV 0 (.agg #[.int .i64 p.kind, .int .i64 p.v, .int .u32 p.dst, .int .i64 p.proto, .int .i64 p.flow, .int .i64 p.ttl, .int .i64 x13, .int .i64 p.prov]) aprag34 aprsz34) ?_))
   refine TL.prowS (e := 34) (size := 8) (cs := flat Rp.cells [(⟨p.kind, p.v, p.dst, p.proto, p.flow, p.ttl, x13, p.prov⟩ : Rp)]) rfl rfl rfl rfl rfl (fun w => aeabs49_1_10276 _ _ _ _ _ _ _ _ w) (by decide) rfl (fun g21 => ?_)
   refine TL.as_ ?_
   refine zET (zr (zRR (zR (zRR ?_))))
   exact ret_tmp Tryz.results140 rfl (fun w1 hw => ⟨⟨(((some ⟨g21, 0, none⟩), 1), [p.when x13]), .inr ⟨i, x13, hx13, hall, by rw [hbv, c17], rfl⟩, Nat.le_refl _, Nat.le_refl _, by show 1 ≤ maxLen; decide⟩, rfl, hw.sel (.cons_cons _ (.cons _ (.cons_cons _ (List.Sublist.refl _))))⟩)
  refine zk (zN (zT (zG ?_)))
  refine TL.v (gD ((i + 1 : Nat) : Int)) ?_
  refine TL.mv ?_
  refine zE ?_
  exact TX.round (⟨i + 1, by omega, fun r hr => by rcases (mem_take_snoc hx13).1 hr with h9 | h9; exact hall r h9; rw [h9, hbv, c17]⟩) (by show ts.length - (i + 1) < ts.length - i; omega) ⟨rfl, rfl, rfl, rfl, rfl, trivial⟩ (fun w1 hw => hw)
 refine zET (zS (zd (zx (zX (zX (zM (zT (zSG (TL.as_ ?_)))))))))
 refine zET (zr ?_)
 rw [List.take_of_length_le (by omega)] at hall
 exact ret_tmp Tryz.results140 rfl (fun w1 hw => ⟨⟨((none, 0), []), .inl ⟨rfl, hall⟩, Nat.zero_le _, Nat.le_refl _, Nat.zero_le _⟩, rfl, Pm.nilrow (hw.sel (.cons _ (.cons_cons _ (List.Sublist.refl _)))) _ _⟩)
open Go.RowKit Go.Shelf Go.Sort
set_option maxRecDepth 20000
def sFRpRen : Go.Shelf.Ren := ⟨fun | 6 => 93 | 14 => 145 | 15 => 146 | 20 => 167 | 21 => 168 | 22 => 169 | 23 => 170 | 24 => 171 | 25 => 172 | 26 => 173 | 27 => 174 | 28 => 175 | 29 => 176 | 46 => 208 | 47 => 209 | 48 => 210 | 49 => 211 | 50 => 212 | 57 => 224 | n => n, fun | 22 => 49 | 24 => 34 | 25 => 52 | 39 => 174 | 45 => 191 | 46 => 192 | 50 => 196 | 53 => 29 | 55 => 200 | 66 => 219 | 70 => 223 | 76 => 235 | 77 => 236 | n => n, fun n => n⟩
theorem sFRp : SlLaysF0.n6 Tryz.prog sFRpRen where
  mixed := by kernel_rfl
  f6 := ⟨Tryz.f93.name, by decide, Tryz.func93.trans (by kernel_rfl)⟩
  f14 := ⟨Tryz.f145.name, by decide, Tryz.func145.trans (by kernel_rfl)⟩
  f15 := Tryz.func146.trans (by kernel_rfl)
  f20 := ⟨Tryz.f167.name, by decide, Tryz.func167.trans (by kernel_rfl)⟩
  f21 := ⟨Tryz.f168.name, by decide, Tryz.func168.trans (by kernel_rfl)⟩
  f22 := ⟨Tryz.f169.name, by decide, Tryz.func169.trans (by kernel_rfl)⟩
  f23 := ⟨Tryz.f170.name, by decide, Tryz.func170.trans (by kernel_rfl)⟩
  f24 := ⟨Tryz.f171.name, by decide, Tryz.func171.trans (by kernel_rfl)⟩
  f25 := ⟨Tryz.f172.name, by decide, Tryz.func172.trans (by kernel_rfl)⟩
  f26 := ⟨Tryz.f173.name, by decide, Tryz.func173.trans (by kernel_rfl)⟩
  f27 := ⟨Tryz.f174.name, by decide, Tryz.func174.trans (by kernel_rfl)⟩
  f28 := Tryz.func175.trans (by kernel_rfl)
  f29 := Tryz.func176.trans (by kernel_rfl)
  f46 := ⟨Tryz.f208.name, by decide, Tryz.func208.trans (by kernel_rfl)⟩
  f47 := Tryz.func209.trans (by kernel_rfl)
  f48 := Tryz.func210.trans (by kernel_rfl)
  f49 := ⟨Tryz.f211.name, by decide, Tryz.func211.trans (by kernel_rfl)⟩
  f50 := ⟨Tryz.f212.name, by decide, Tryz.func212.trans (by kernel_rfl)⟩
  f57 := ⟨Tryz.f224.name, by decide, Tryz.func224.trans (by kernel_rfl)⟩
  t0 := Tryz.underlying0
  a0 := fun w => rfl
  z0 := fun w => rfl
  v0 := fun w => rfl
  t3 := Tryz.underlying3
  a3 := fun w => rfl
  z3 := fun w => rfl
  v3 := fun w => rfl
  t4 := Tryz.underlying4
  a4 := fun w => rfl
  z4 := fun w => rfl
  v4 := fun w => rfl
  t5 := Tryz.underlying5
  a5 := fun w => rfl
  z5 := fun w => rfl
  v5 := fun w => rfl
  t9 := Tryz.underlying9
  a9 := fun w => rfl
  z9 := fun w => rfl
  v9 := fun w => rfl
  t22 := Tryz.underlying49
  a22 := fun w => rfl
  z22 := fun w => rfl
  v22 := fun w => rfl
  t25 := Tryz.underlying52
  a25 := fun w => rfl
  z25 := fun w => rfl
  v25 := fun w => rfl
  t39 := Tryz.underlying174
  a39 := fun w => rfl
  z39 := fun w => rfl
  v39 := fun w => rfl
  t45 := Tryz.underlying191
  a45 := fun w => rfl
  z45 := fun w => rfl
  v45 := fun w => rfl
  t46 := Tryz.underlying192
  a46 := fun w => rfl
  z46 := fun w => rfl
  v46 := fun w => rfl
  t50 := Tryz.underlying196
  a50 := fun w => rfl
  z50 := fun w => rfl
  v50 := fun w => rfl
  t53 := Tryz.underlying29
  a53 := fun w => rfl
  z53 := fun w => rfl
  v53 := fun w => rfl
  t55 := Tryz.underlying200
  a55 := fun w => rfl
  z55 := fun w => rfl
  v55 := fun w => rfl
  t66 := Tryz.underlying219
  a66 := fun w => rfl
  z66 := fun w => rfl
  v66 := fun w => rfl
  t70 := Tryz.underlying223
  a70 := fun w => rfl
  z70 := fun w => rfl
  v70 := fun w => rfl
  t76 := Tryz.underlying235
  a76 := fun w => rfl
  z76 := fun w => rfl
  v76 := fun w => rfl
  t77 := Tryz.underlying236
  a77 := fun w => rfl
  z77 := fun w => rfl
  v77 := fun w => rfl
instance : Inhabited Rp := ⟨⟨0, 0, 0, 0, 0, 0, 0, 0⟩⟩
theorem sortRp {b n cap : Nat} {A : Option Addr} {l : List Rp} {w : World} (hr : w.ownsRow b 34 8 (.slice A n cap) n (flat Rp.cells l)) (hl : l.length = n) (hn : n ≤ 100000000000) :
    Calls Tryz.prog 93 #[.slice A n cap, .func (.func 33) #[] #[]] w fun en w' => en = .returned (.tuple #[]) ∧ ∃ l', Sorted cmpRp l l' ∧ w'.ownsRow b 34 8 (.slice A n cap) n (flat Rp.cells l') ∧ w.grownBy w' (Value.ownBlock (.slice A n cap)) :=
  sortF_row (ρ := sFRpRen) sFRp rp_cel (fun w => rfl) (fun w => rfl) cmpRp (swo_keys (n := 8) (Rp.keys) fun _ => rfl) 33 (enters_of Tryz.func33 (by kernel_rfl) rfl) cmpRp_any hr hl (by omega)
open Go.RowKit Go.Shelf
def MinU (P S : Rp → Prop) (out : List Rp) : Prop := out.Pairwise (fun a b => a.cand ≠ b.cand) ∧ ∀ p, p ∈ out ↔ S p ∧ P p ∧ ∀ q, S q → q.cand = p.cand → P q → p.at_ ≤ q.at_
section
variable {P P' S S' : Rp → Prop} {a b out : List Rp}
theorem MinU.congr (h : MinU P S out) (hS : ∀ p, P p → (S p ↔ S' p)) : MinU P S' out := ⟨h.1, fun p => by
  rw [h.2]
  constructor
  · rintro ⟨h1, h2, h3⟩; exact ⟨(hS p h2).1 h1, h2, fun q hq hc hP => h3 q ((hS q hP).2 hq) hc hP⟩
  · rintro ⟨h1, h2, h3⟩; exact ⟨(hS p h2).2 h1, h2, fun q hq hc hP => h3 q ((hS q hP).1 hq) hc hP⟩⟩
theorem MinU.congrP (h : MinU P S out) (hP : ∀ p, S p → (P p ↔ P' p)) : MinU P' S out := ⟨h.1, fun p => by
  rw [h.2]
  constructor
  · rintro ⟨h1, h2, h3⟩; exact ⟨h1, (hP p h1).1 h2, fun q hq hc hp => h3 q hq hc ((hP q hq).2 hp)⟩
  · rintro ⟨h1, h2, h3⟩; exact ⟨h1, (hP p h1).2 h2, fun q hq hc hp => h3 q hq hc ((hP q hq).1 hp)⟩⟩
theorem MinU.nil (hS : ∀ p, ¬ S p) : MinU P S [] := ⟨List.Pairwise.nil, fun p => ⟨fun h => absurd h List.not_mem_nil, fun h => absurd h.1 (hS p)⟩⟩
theorem MinU.app (h : MinU P S a) (h' : MinU P S' b) (hd : ∀ p q, S p → S' q → p.cand ≠ q.cand) : MinU P (fun p => S p ∨ S' p) (a ++ b) := by
  refine ⟨List.pairwise_append.2 ⟨h.1, h'.1, fun x hx y hy => hd x y ((h.2 x).1 hx).1 ((h'.2 y).1 hy).1⟩, fun p => ?_⟩
  rw [List.mem_append, h.2, h'.2]
  constructor
  · rintro (⟨h1, h2, h3⟩ | ⟨h1, h2, h3⟩)
    · exact ⟨.inl h1, h2, fun q hq hc hP => hq.elim (fun hq => h3 q hq hc hP) fun hq => absurd hc.symm (hd p q h1 hq)⟩
    · exact ⟨.inr h1, h2, fun q hq hc hP => hq.elim (fun hq => absurd hc (hd q p hq h1)) fun hq => h3 q hq hc hP⟩
  · rintro ⟨h1 | h1, h2, h3⟩
    · exact .inl ⟨h1, h2, fun q hq => h3 q (.inl hq)⟩
    · exact .inr ⟨h1, h2, fun q hq => h3 q (.inr hq)⟩
theorem MinU.sorted (h : MinU P S a) (hs : Sorted cmpRp a b) : IsMin P S b := by
  refine ⟨?_, fun p => by rw [hs.1.mem_iff, h.2]⟩
  have hn : b.Pairwise fun x y => x.cand ≠ y.cand := (hs.1.pairwise_iff (fun {x y} h1 h2 => h1 h2.symm)).2 h.1
  refine (hs.2.and hn).imp fun {x y} ⟨h1, h2⟩ => ?_
  have h3 : lexI x.keys y.keys ≠ 0 := fun h0 => h2 (by rw [rpk_inj ((lexI_zero (a := x.keys) (b := y.keys) rfl).1 h0)])
  have h4 : ¬ lexI y.keys x.keys < 0 := h1
  have h5 := (posK rpk_len (x := x) (y := y)).1
  have h6 : ¬ 0 < lexI x.keys y.keys := fun h => h4 (h5 h)
  omega
theorem EarB.minU {B : Int → Bool} {p : Rp} {ts : List Int} (h : EarB B p ts a) (ht : ts.Pairwise (· < ·)) (hB : ∀ t, B t = true ↔ P (p.when t)) : MinU P (fun q => q.cand = p.cand ∧ q.at_ ∈ ts) a := by
  have key : ∀ q : Rp, q.cand = p.cand → q = p.when q.at_ := fun q hq => ((like_iff (p := p) (q := q)).2 hq.symm).symm
  rcases h with ⟨rfl, h1⟩ | ⟨i, t, h1, h2, h3, rfl⟩
  · refine ⟨List.Pairwise.nil, fun q => ⟨fun h => absurd h List.not_mem_nil, ?_⟩⟩
    rintro ⟨⟨h3, h4⟩, h5, _⟩
    rw [key q h3, ← hB, h1 _ h4] at h5; cases h5
  · have hlt : ∀ s ∈ ts, s < t → s ∈ ts.take i := fun s hs hst => by
      obtain ⟨j, hj⟩ := List.getElem?_of_mem hs
      refine List.mem_of_getElem? (i := j) ?_
      obtain ⟨hi, e1⟩ := List.getElem?_eq_some_iff.1 h1
      obtain ⟨hj', e2⟩ := List.getElem?_eq_some_iff.1 hj
      have : j < i := by
        rcases Nat.lt_trichotomy j i with h | h | h
        · exact h
        · subst h; rw [e1] at e2; omega
        · have := (List.pairwise_iff_getElem.1 ht) i j hi hj' h
          rw [e1, e2] at this; omega
      rw [List.getElem?_take_of_lt this]; exact hj
    refine ⟨List.pairwise_singleton _ _, fun q => ?_⟩
    rw [List.mem_singleton]
    constructor
    · rintro rfl
      refine ⟨⟨rfl, List.mem_of_getElem? h1⟩, (hB t).1 h3, ?_⟩
      rintro q ⟨h4, h5⟩ _ h6
      refine Int.not_lt.1 fun h7 => ?_
      have := h2 _ (hlt _ h5 h7)
      rw [key q h4, ← hB, this] at h6; cases h6
    · rintro ⟨⟨h4, h5⟩, h6, h7⟩
      have h8 := h7 (p.when t) ⟨rfl, List.mem_of_getElem? h1⟩ h4.symm ((hB t).1 h3)
      have h9 : ¬ q.at_ < t := fun h => by
        have := h2 _ (hlt _ h5 h)
        rw [key q h4, ← hB, this] at h6; cases h6
      rw [key q h4]
      congr 1
      have : (p.when t).at_ = t := rfl
      omega
end
def IsNum (l o : List Int) : Prop := o.Pairwise (· < ·) ∧ ∀ t, t ∈ o ↔ t ∈ l
theorem isNum_of {l s : List Int} (hs : SortedI l s) : IsNum l (cptG s) := by
  refine ⟨?_, fun t => by rw [mem_cptG, hs.1.mem_iff]⟩
  have h := hs.2
  clear hs
  induction s with
  | nil => exact List.Pairwise.nil
  | cons x s ih =>
    cases s with
    | nil => exact List.pairwise_singleton _ _
    | cons y s =>
      have ih := ih (List.pairwise_cons.1 h).2
      have h1 := (List.pairwise_cons.1 h).1
      have h2 := (List.pairwise_cons.1 (List.pairwise_cons.1 h).2).1
      rw [cptG]
      split
      · exact ih
      · rename_i hne
        refine List.pairwise_cons.2 ⟨fun z hz => ?_, ih⟩
        rw [mem_cptG] at hz
        have h3 := h1 y List.mem_cons_self
        rcases List.mem_cons.1 hz with e | e
        · subst e; omega
        · have := h2 z e; omega
def cB (r : Rs) : Rp := ⟨1, r.v, r.dst, r.proto, r.flow, 0, 0, 0⟩
def cC (r : Rs) (ttl : Int) : Rp := ⟨3, r.v, r.dst, r.proto, r.flow, ttl, 0, 0⟩
def cD (r : Rs) (ttl v : Int) : Rp := ⟨2, r.v, r.dst, r.proto, r.flow, ttl, 0, v⟩
section
variable {es : List En} {y : List Rs} {u : Ru} {r : Rs} {t ttl v : Int}
theorem prS_c1 : bhF y u.los t = true ↔ PrS es y u ((cB r).when t) := by
  unfold PrS cB Rp.when
  simp
theorem prS_c3 (hu : 1 ≤ u.prb) : (u.prb < 1 ∨ CgF (eaL (atL y ttl) t) (laL (atL y ttl) t) u.prb u.gro) ↔ PrS es y u ((cC r ttl).when t) := by
  unfold PrS cC Rp.when
  have : ¬ u.prb < 1 := by omega
  simp [this]
theorem prS_c2 (hv : v ≠ 0) : DtF (fun r : Rs => provR es r.src r.back) (atL y ttl) v t ↔ PrS es y u ((cD r ttl v).when t) := by
  unfold PrS cD Rp.when
  simp [hv]
end
def SA (es : List En) (r : Rs) (own : List Rs) (tm ttls : List Int) (p : Rp) : Prop := p.at_ ∈ tm ∧ (p.cand = cB r ∨ ∃ ttl ∈ ttls, p.cand = cC r ttl ∨ ∃ v ∈ (atL own ttl).map (fun r => provR es r.src r.back), v ≠ 0 ∧ p.cand = cD r ttl v)
def SB (es : List En) (r : Rs) (own : List Rs) (tm ttls : List Int) (ttl : Int) (vs : List Int) (p : Rp) : Prop := SA es r own tm ttls p ∨ (p.at_ ∈ tm ∧ (p.cand = cC r ttl ∨ ∃ v ∈ vs, v ≠ 0 ∧ p.cand = cD r ttl v))
def TmS (r : Rs) (own : List Rs) (p : Rp) : Prop := p.trc = trcR r ∧ p.flow = r.flow ∧ ∃ s ∈ own, s.at_ = p.at_
section
variable {es : List En} {own : List Rs} {u : Ru} {r : Rs} {tm ttls ow vs : List Int} {i j : Nat} {ttl v : Int} {out o : List Rp} {P : Rp → Prop} {B : Int → Bool}
theorem sa_start (h : EarB B (cB r) tm o) (ht : tm.Pairwise (· < ·)) (hB : ∀ t, B t = bhF own u.los t) : MinU (PrS es own u) (SA es r own tm []) o :=
  (h.minU ht fun t => by rw [hB]; exact prS_c1).congr fun p _ => ⟨fun ⟨h1, h2⟩ => ⟨h2, .inl h1⟩, fun ⟨h1, h2⟩ => ⟨h2.elim id fun ⟨t, ht, _⟩ => absurd ht List.not_mem_nil, h1⟩⟩
theorem sb_start (h : MinU (PrS es own u) (SA es r own tm (ttls.take i)) out) (hx : ttls[i]? = some ttl) (hn : ttls.Pairwise (· < ·)) (he : EarB B (cC r ttl) tm o) (ht : tm.Pairwise (· < ·)) (hu : 1 ≤ u.prb) (hB : ∀ t, B t = true ↔ u.prb < 1 ∨ CgF (eaL (atL own ttl) t) (laL (atL own ttl) t) u.prb u.gro) : MinU (PrS es own u) (SB es r own tm (ttls.take i) ttl []) (out ++ o) := by
  have hnot : ttl ∉ ttls.take i := fun hm => by
    obtain ⟨j, hj⟩ := List.getElem?_of_mem hm
    have hj2 : j < i := by have := (List.getElem?_eq_some_iff.1 hj).1; rw [List.length_take] at this; omega
    rw [List.getElem?_take_of_lt hj2] at hj
    obtain ⟨h1, e1⟩ := List.getElem?_eq_some_iff.1 hj
    obtain ⟨h2, e2⟩ := List.getElem?_eq_some_iff.1 hx
    have := (List.pairwise_iff_getElem.1 hn) j i h1 h2 hj2
    omega
  refine (h.app (he.minU ht fun t => by rw [hB]; exact prS_c3 hu) ?_).congr fun p _ => ?_
  · rintro p q ⟨_, h1⟩ ⟨h2, _⟩ h3
    have h4 : p.cand = cC r ttl := h3.trans h2
    rcases h1 with h1 | ⟨t, ht, h1 | ⟨v, _, _, h1⟩⟩
    · rw [h1] at h4; simp [cB, cC] at h4
    · rw [h1] at h4; simp only [cC, Rp.mk.injEq] at h4; exact hnot (h4.2.2.2.2.2.1 ▸ ht)
    · rw [h1] at h4; simp [cD, cC] at h4
  · unfold SB
    exact ⟨fun h => h.imp id fun ⟨h1, h2⟩ => ⟨h2, .inl h1⟩, fun h => h.imp id fun ⟨h1, h2⟩ => ⟨h2.elim id fun ⟨t, ht, _⟩ => absurd ht List.not_mem_nil, h1⟩⟩
theorem sb_zero (h : MinU P (SB es r own tm ttls ttl (ow.take j)) out) (hx : ow[j]? = some v) (hv : v = 0) : MinU P (SB es r own tm ttls ttl (ow.take (j + 1))) out := h.congr fun p _ => by
  unfold SB
  rw [List.take_add_one, hx]
  constructor
  · rintro (h | ⟨h1, h2 | ⟨w, h2, h3⟩⟩)
    · exact .inl h
    · exact .inr ⟨h1, .inl h2⟩
    · exact .inr ⟨h1, .inr ⟨w, List.mem_append_left _ h2, h3⟩⟩
  · rintro (h | ⟨h1, h2 | ⟨w, h2, h3⟩⟩)
    · exact .inl h
    · exact .inr ⟨h1, .inl h2⟩
    · rcases List.mem_append.1 h2 with h4 | h4
      · exact .inr ⟨h1, .inr ⟨w, h4, h3⟩⟩
      · exact absurd ((show w = v by simpa using h4).trans hv) h3.1
theorem sb_next (h : MinU (PrS es own u) (SB es r own tm (ttls.take i) ttl (ow.take j)) out) (ht : ttls[i]? = some ttl) (hn : ttls.Pairwise (· < ·)) (hx : ow[j]? = some v) (ho : ow.Pairwise (· < ·)) (hv : v ≠ 0) (he : EarB B (cD r ttl v) tm o) (htm : tm.Pairwise (· < ·)) (hB : ∀ t, B t = true ↔ DtF (fun r : Rs => provR es r.src r.back) (atL own ttl) v t) : MinU (PrS es own u) (SB es r own tm (ttls.take i) ttl (ow.take (j + 1))) (out ++ o) := by
  have nin : ∀ {l : List Int} {k : Nat} {z : Int}, l.Pairwise (· < ·) → l[k]? = some z → z ∉ l.take k := fun {l k z} hp hz hm => by
    obtain ⟨j, hj⟩ := List.getElem?_of_mem hm
    have hj2 : j < k := by have := (List.getElem?_eq_some_iff.1 hj).1; rw [List.length_take] at this; omega
    rw [List.getElem?_take_of_lt hj2] at hj
    obtain ⟨h1, e1⟩ := List.getElem?_eq_some_iff.1 hj
    obtain ⟨h2, e2⟩ := List.getElem?_eq_some_iff.1 hz
    have := (List.pairwise_iff_getElem.1 hp) j k h1 h2 hj2
    omega
  refine (h.app (he.minU htm fun t => by rw [hB]; exact prS_c2 hv) ?_).congr fun p _ => ?_
  · rintro p q h1 ⟨h2, _⟩ h3
    have h4 : p.cand = cD r ttl v := h3.trans h2
    rcases h1 with ⟨_, h1 | ⟨t, ht', h1 | ⟨w, _, _, h1⟩⟩⟩ | ⟨_, h1 | ⟨w, h5, _, h1⟩⟩
    · rw [h1] at h4; simp [cB, cD] at h4
    · rw [h1] at h4; simp [cC, cD] at h4
    · rw [h1] at h4; simp only [cD, Rp.mk.injEq] at h4; exact nin hn ht (h4.2.2.2.2.2.1 ▸ ht')
    · rw [h1] at h4; simp [cC, cD] at h4
    · rw [h1] at h4; simp only [cD, Rp.mk.injEq] at h4; exact nin ho hx (h4.2.2.2.2.2.2.2 ▸ h5)
  · unfold SB
    rw [List.take_add_one, hx]
    constructor
    · rintro ((h | ⟨h1, h2 | ⟨w, h2, h3⟩⟩) | ⟨h1, h2⟩)
      · exact .inl h
      · exact .inr ⟨h1, .inl h2⟩
      · exact .inr ⟨h1, .inr ⟨w, List.mem_append_left _ h2, h3⟩⟩
      · exact .inr ⟨h2, .inr ⟨v, List.mem_append_right _ (List.mem_singleton.2 rfl), hv, h1⟩⟩
    · rintro (h | ⟨h1, h2 | ⟨w, h2, h3⟩⟩)
      · exact .inl (.inl h)
      · exact .inl (.inr ⟨h1, .inl h2⟩)
      · rcases List.mem_append.1 h2 with h4 | h4
        · exact .inl (.inr ⟨h1, .inr ⟨w, h4, h3⟩⟩)
        · rw [show w = v by simpa using h4] at h3
          exact .inr ⟨h3.2, h1⟩
theorem sb_end (h : MinU P (SB es r own tm (ttls.take i) ttl (ow.take j)) out) (hj : ow.length ≤ j) (ho : IsNum ((atL own ttl).map (fun r => provR es r.src r.back)) ow) (hx : ttls[i]? = some ttl) : MinU P (SA es r own tm (ttls.take (i + 1))) out := h.congr fun p _ => by
  unfold SB SA
  rw [List.take_of_length_le hj, List.take_add_one, hx]
  constructor
  · rintro (⟨h1, h2 | ⟨t, h2, h3⟩⟩ | ⟨h1, h2⟩)
    · exact ⟨h1, .inl h2⟩
    · exact ⟨h1, .inr ⟨t, List.mem_append_left _ h2, h3⟩⟩
    · exact ⟨h1, .inr ⟨ttl, List.mem_append_right _ (List.mem_singleton.2 rfl), h2.imp id fun ⟨v, h3, h4⟩ => ⟨v, (ho.2 v).1 h3, h4⟩⟩⟩
  · rintro ⟨h1, h2 | ⟨t, h2, h3⟩⟩
    · exact .inl ⟨h1, .inl h2⟩
    · rcases List.mem_append.1 h2 with h4 | h4
      · exact .inl ⟨h1, .inr ⟨t, h4, h3⟩⟩
      · rw [show t = ttl by simpa using h4] at h3
        exact .inr ⟨h1, h3.imp id fun ⟨v, h3, h4⟩ => ⟨v, (ho.2 v).2 h3, h4⟩⟩
theorem sa_end (h : MinU (PrS es own u) (SA es r own tm (ttls.take i)) out) (hi : ttls.length ≤ i) (htm : IsNum (own.map fun s => s.at_) tm) (htt : IsNum (own.map fun s => s.ttl) ttls) (hu : 1 ≤ u.prb) : MinU (PrS es own u) (TmS r own) out := h.congr fun p hP => by
  unfold SA TmS
  rw [List.take_of_length_le hi, htm.2, List.mem_map]
  have hc : ∀ {a b c d e f g k : Int}, (⟨a, b, c, d, e, f, g, k⟩ : Rp) = p.cand ↔ a = p.kind ∧ b = p.v ∧ c = p.dst ∧ d = p.proto ∧ e = p.flow ∧ f = p.ttl ∧ g = 0 ∧ k = p.prov := by
    intro a b c d e f g k; unfold Rp.cand; rw [Rp.mk.injEq]
  constructor
  · rintro ⟨⟨s, h1, h2⟩, h3⟩
    have key : p.trc = trcR r ∧ p.flow = r.flow := by
      unfold Rp.trc trcR
      rcases h3 with h3 | ⟨t, _, h3 | ⟨v, _, _, h3⟩⟩ <;> (have h4 := hc.1 h3.symm; exact ⟨by rw [h4.2.1, h4.2.2.1, h4.2.2.2.1], h4.2.2.2.2.1.symm⟩)
    exact ⟨key.1, key.2, s, h1, h2⟩
  · rintro ⟨h1, h2, s, h3, h4⟩
    refine ⟨⟨s, h3, h4⟩, ?_⟩
    unfold Rp.trc trcR at h1
    injection h1 with e1 e2 e3
    rcases hP with ⟨a1, a2, a3, _⟩ | ⟨a1, a2, a3⟩ | ⟨a1, a2, a3⟩
    · exact .inl (hc.2 ⟨a1.symm, e1.symm, e2.symm, e3.symm, h2.symm, a2.symm, rfl, a3.symm⟩).symm
    · obtain ⟨e, h5, _⟩ := a3
      obtain ⟨z, hz, _⟩ := ea_mem h5
      have hz2 := List.mem_filter.1 hz
      simp only [Bool.and_eq_true, decide_eq_true_eq] at hz2
      exact .inr ⟨p.ttl, (htt.2 _).2 (List.mem_map.2 ⟨z, hz2.1, hz2.2.2⟩), .inl (hc.2 ⟨a1.symm, e1.symm, e2.symm, e3.symm, h2.symm, rfl, rfl, a2.symm⟩).symm⟩
    · obtain ⟨a, _, _, b, hb, _, hb2, _⟩ := a3
      have hz2 := List.mem_filter.1 hb
      simp only [Bool.and_eq_true, decide_eq_true_eq] at hz2
      exact .inr ⟨p.ttl, (htt.2 _).2 (List.mem_map.2 ⟨b, hz2.1, hz2.2.2⟩), .inr ⟨p.prov, List.mem_map.2 ⟨b, hb, hb2⟩, a2, (hc.2 ⟨a1.symm, e1.symm, e2.symm, e3.symm, h2.symm, rfl, rfl, rfl⟩).symm⟩⟩
end
section
variable {α : Type} {key : α → List Int} {n : Nat}
theorem ascK_exi (hk : ∀ x, (key x).length = n) : ∀ (l : List α), (∀ x ∈ l, ∀ y ∈ l, key x = key y → x = y) → ∃ o, AscK key o ∧ ∀ x, x ∈ o ↔ x ∈ l
  | [], _ => ⟨[], List.Pairwise.nil, fun x => Iff.rfl⟩
  | a :: l, hi => by
    obtain ⟨o, h1, h2⟩ := ascK_exi hk l fun x hx y hy => hi x (List.mem_cons_of_mem _ hx) y (List.mem_cons_of_mem _ hy)
    by_cases ha : a ∈ o
    · refine ⟨o, h1, fun x => ?_⟩
      rw [h2, List.mem_cons]
      constructor
      · exact .inr
      · rintro (rfl | h)
        · exact (h2 _).1 ha
        · exact h
    · refine ⟨o.filter (fun y => decide (lexI (key y) (key a) < 0)) ++ a :: o.filter (fun y => decide (lexI (key a) (key y) < 0)), ?_, fun x => ?_⟩
      · refine List.pairwise_append.2 ⟨h1.filter _, List.pairwise_cons.2 ⟨fun y hy => of_decide_eq_true (List.mem_filter.1 hy).2, h1.filter _⟩, fun y hy z hz => ?_⟩
        have hy2 : lexI (key y) (key a) < 0 := of_decide_eq_true (List.mem_filter.1 hy).2
        rcases List.mem_cons.1 hz with rfl | hz
        · exact hy2
        · exact ltK_trans hk hy2 (of_decide_eq_true (List.mem_filter.1 hz).2)
      · rw [List.mem_append, List.mem_cons, List.mem_filter, List.mem_filter, List.mem_cons, ← h2]
        constructor
        · rintro (⟨h, _⟩ | rfl | ⟨h, _⟩)
          · exact .inr h
          · exact .inl rfl
          · exact .inr h
        · rintro (rfl | h)
          · exact .inr (.inl rfl)
          · have hne : key x ≠ key a := fun e => ha (hi x (List.mem_cons_of_mem _ ((h2 x).1 h)) a List.mem_cons_self e ▸ h)
            have h3 := lexI_swap (a := key a) (b := key x) (by rw [hk, hk])
            have h4 : lexI (key x) (key a) ≠ 0 := fun e => hne ((lexI_zero (by rw [hk, hk])).1 e)
            rcases Int.lt_or_gt_of_ne h4 with h5 | h5
            · exact .inl ⟨h, decide_eq_true h5⟩
            · exact .inr (.inr ⟨h, decide_eq_true (by omega)⟩)
theorem ascK_sub (hk : ∀ x, (key x).length = n) : ∀ {a b : List α}, AscK key a → AscK key b → (∀ x ∈ a, x ∈ b) → a.Sublist b
  | [], b, _, _, _ => List.nil_sublist b
  | x :: a, [], _, _, h => absurd (h x List.mem_cons_self) List.not_mem_nil
  | x :: a, y :: b, ha, hb, h => by
    have ha' := List.pairwise_cons.1 ha
    have hb' := List.pairwise_cons.1 hb
    rcases List.mem_cons.1 (h x List.mem_cons_self) with rfl | hx
    · refine (ascK_sub hk ha'.2 hb'.2 fun z hz => ?_).cons_cons _
      rcases List.mem_cons.1 (h z (List.mem_cons_of_mem _ hz)) with rfl | h1
      · exact absurd (ha'.1 _ hz) (ltK_irrefl _)
      · exact h1
    · refine (ascK_sub hk ha hb'.2 fun z hz => ?_).cons _
      rcases List.mem_cons.1 (h z hz) with rfl | h1
      · rcases List.mem_cons.1 hz with rfl | h2
        · exact hx
        · exact (ltK_asymm hk (hb'.1 _ hx) (ha'.1 _ h2)).elim
      · exact h1
end
theorem ord_ex {l : List Rs} (hok : ∀ r ∈ l, r.Ok) : ∃ o, IsOrd l o := by
  obtain ⟨o, h1, h2⟩ := ascK_exi (key := Rs.keys) keys_len (l.filter vldRs) fun x hx y hy => keys_inj (hok x (List.mem_filter.1 hx).1) (hok y (List.mem_filter.1 hy).1)
  exact ⟨o, h1, fun x => by rw [h2, List.mem_filter]⟩
theorem st_ex {l : List Rs} (hok : ∀ r ∈ l, r.Ok) (t : Trc) (flow : Int) : ∃ y, IsSt l t flow y := by
  obtain ⟨o, ho⟩ := ord_ex hok
  exact ⟨_, _, ⟨o, ho, rfl⟩, rfl⟩
theorem IsSt.asc {l y : List Rs} {t : Trc} {flow : Int} (h : IsSt l t flow y) : AscK Rs.keys y := by
  obtain ⟨x, ⟨o, h1, rfl⟩, rfl⟩ := h
  exact (h1.1.filter _).filter _
theorem IsSt.sub {l l' y y' : List Rs} {t : Trc} {flow : Int} (h : IsSt l t flow y) (h' : IsSt l' t flow y') (hs : ∀ r ∈ l, r ∈ l') : y.Sublist y' :=
  ascK_sub keys_len h.asc h'.asc fun x hx => by
    have := (h.mem x).1 hx
    exact (h'.mem x).2 ⟨hs x this.1, this.2⟩
section
variable {es : List En} {l l' y y' : List Rs} {u v : Ru} {p : Rp}
theorem lost_sub (hs : y.Sublist y') (e t : Int) : lostN e t y ≤ lostN e t y' := (hs.filter _).length_le
theorem bh_sub (hs : y.Sublist y') {n t : Int} (h : bhF y n t = true) : bhF y' n t = true := by
  obtain ⟨x, h1, h2, h3, h4⟩ := bh_iff.1 h
  have := lost_sub hs x.ttl t
  exact bh_iff.2 ⟨x, hs.subset h1, h2, h3, by omega⟩
theorem dt_sub (hs : y.Sublist y') {f : Rs → Int} {n t : Int} (h : DtF f y n t) : DtF f y' n t := by
  obtain ⟨a, h1, h2, b, h3, h4⟩ := h
  exact ⟨a, hs.subset h1, h2, b, hs.subset h3, h4⟩
theorem cg_sub {ea la ea' la' : List Int} (h1 : ea.Sublist ea') (h2 : la.Sublist la') {n g : Int} (h : CgF ea la n g) : CgF ea' la' n g := by
  obtain ⟨e, h3, h4, h5⟩ := h
  have h6 := (h1.filter fun z => decide (z ≤ e)).length_le
  have h7 := (h2.filter fun z => decide (g ≤ z - e)).length_le
  exact ⟨e, h1.subset h3, by omega, by omega⟩
theorem PrP.mono (h : PrP es l u p) (hs : ∀ r ∈ l, r ∈ l') (hok : ∀ r ∈ l', r.Ok) : PrP es l' u p := by
  obtain ⟨h1, h2, h3, h4⟩ := h
  obtain ⟨y', hy'⟩ := st_ex hok p.trc p.flow
  refine ⟨h1, h2, h3, ?_⟩
  rcases h4 with ⟨h4, y, hy, h5⟩ | ⟨h4, y, hy, h5⟩ | ⟨h4, h5⟩
  · exact .inl ⟨h4, y', hy', bh_sub (hy.sub hy' hs) h5⟩
  · exact .inr (.inl ⟨h4, y', hy', dt_sub ((hy.sub hy' hs).filter _) h5⟩)
  · refine .inr (.inr ⟨h4, h5.elim .inl fun ⟨y, hy, h6⟩ => .inr ⟨y', hy', ?_⟩⟩)
    have hs2 := (hy.sub hy' hs).filter fun r => r.ans && decide (r.ttl = p.ttl)
    exact cg_sub ((hs2.filter _).map _) ((hs2.filter _).map _) h6
end
section
variable {es : List En} {l : List Rs} {u : Ru} {out : List Rp} {z : Int}
theorem FndOk.good (h : FndOk es l u out z) (hv : ∀ r ∈ l, vldRs r = true) (he : validR es = true) (hu : vldRu u = true) (hl : l.length ≤ 512) : z = 0 ∧ IsFnd es l u out := by
  rcases h with ⟨_, _, h⟩ | ⟨_, _, _, o, h1, h2⟩ | ⟨h1, h2, _⟩
  · exact absurd ⟨hv, he, hu⟩ h
  · have := h1.le; omega
  · exact ⟨h1, h2⟩
theorem IsFnd.prP (h : IsFnd es l u out) {p : Rp} (hp : p ∈ out) : PrP es l u p := ((h.2 p).1 hp).2.1
end
def awR0 : Rs := ⟨0, 0, 0, 0, 9, 17, 0, 3, true, false, 50, 9, 3, 0, 0, 0, 0⟩
def awR1 : Rs := ⟨0, 0, 1, 60, 9, 17, 0, 3, false, false, 70, 0, 0, 0, 0, 0, 0⟩
def awR2 : Rs := ⟨0, 0, 2, 80, 9, 17, 0, 3, false, false, 90, 0, 0, 0, 0, 0, 0⟩
def awL : List Rs := [awR0, awR1, awR2]
def awU : Ru := ⟨2, 1, 1⟩
def awP : Rp := ⟨1, 0, 9, 17, 0, 0, 60, 0⟩
theorem awL_ok : ∀ r ∈ awL, r.Ok := by unfold Rs.Ok; decide +kernel
theorem awL_vld : ∀ r ∈ awL, vldRs r = true := by decide +kernel
theorem awT_ok : ∀ r ∈ awL.take 2, r.Ok := by unfold Rs.Ok; decide +kernel
theorem aw_st : IsSt awL ⟨0, 9, 17⟩ 0 awL :=
  ⟨awL, ⟨awL, ⟨by unfold AscK; decide +kernel, fun x => ⟨fun h => ⟨h, awL_vld x h⟩, fun h => h.1⟩⟩, by decide +kernel⟩, by decide +kernel⟩
theorem aw_st2 : IsSt (awL.take 2) ⟨0, 9, 17⟩ 0 (awL.take 2) :=
  ⟨awL.take 2, ⟨awL.take 2, ⟨by unfold AscK; decide +kernel, fun x => ⟨fun h => ⟨h, awL_vld x (List.mem_of_mem_take h)⟩, fun h => h.1⟩⟩, by decide +kernel⟩, by decide +kernel⟩
theorem aw_mem {r : Rs} (h : r ∈ awL) : r = awR0 ∨ r = awR1 ∨ r = awR2 := by
  unfold awL at h
  simpa only [List.mem_cons, List.not_mem_nil, or_false] using h
theorem aw_ans {r : Rs} {ttl : Int} (h : r ∈ atL awL ttl) : r = awR0 := by
  have h1 := List.mem_filter.1 h
  rcases aw_mem h1.1 with rfl | rfl | rfl
  · rfl
  · exact absurd h1.2 (by simp [awR1])
  · exact absurd h1.2 (by simp [awR2])
theorem aw_pr : PrP [] awL awU awP := ⟨by decide +kernel, by decide +kernel, by decide +kernel, .inl ⟨rfl, awL, aw_st, by decide +kernel⟩⟩
theorem aw_pr2 : ¬ PrP [] (awL.take 2) awU awP := by
  rintro ⟨_, _, _, ⟨_, y, hy, h⟩ | ⟨h, _⟩ | ⟨h, _⟩⟩
  · rw [hy.eq aw_st2] at h
    revert h; decide +kernel
  · exact absurd h (by decide)
  · exact absurd h (by decide)
theorem aw_only {p : Rp} (h : PrP [] awL awU p) (ht : IsTm awL p) : p = awP := by
  obtain ⟨y, hy, r, hr, ha⟩ := ht
  have h1 := (hy.mem r).1 hr
  have h2 : p.trc = ⟨0, 9, 17⟩ ∧ p.flow = 0 ∧ (p.at_ = 0 ∨ p.at_ = 60 ∨ p.at_ = 80) := by
    rw [← h1.2.1, ← h1.2.2.2, ← ha]
    rcases aw_mem h1.1 with rfl | rfl | rfl
    · exact ⟨rfl, rfl, .inl rfl⟩
    · exact ⟨rfl, rfl, .inr (.inl rfl)⟩
    · exact ⟨rfl, rfl, .inr (.inr rfl)⟩
  obtain ⟨h3, h4, h5⟩ := h2
  have e : ∀ z, IsSt awL p.trc p.flow z → z = awL := fun z hz => by rw [h3, h4] at hz; exact hz.eq aw_st
  obtain ⟨_, hv, _, h6⟩ := h
  rcases h6 with ⟨h6, y2, hy2, h7⟩ | ⟨h6, y2, hy2, a, ha, _, b, hb, h8⟩ | ⟨h6, h7⟩
  · rw [e _ hy2] at h7
    have h8 : p.at_ = 60 := by
      rcases h5 with h5 | h5 | h5
      · rw [h5] at h7; exact absurd h7 (by decide +kernel)
      · exact h5
      · rw [h5] at h7; exact absurd h7 (by decide +kernel)
    unfold vldRp at hv
    simp only [Bool.and_eq_true, decide_eq_true_eq] at hv
    have h9 : p.ttl = 0 ∧ p.prov = 0 := by omega
    obtain ⟨kind, v, dst, proto, flow, ttl, at_, prov⟩ := p
    simp only [Rp.trc, Trc.mk.injEq] at h3
    simp only at h4 h6 h8 h9
    obtain ⟨rfl, rfl, rfl⟩ := h3
    obtain ⟨rfl, rfl⟩ := h9
    subst h4 h6 h8
    rfl
  · rw [e _ hy2] at ha hb
    obtain ⟨_, _, h9⟩ := h8
    rw [aw_ans ha, aw_ans hb] at h9
    exact absurd rfl h9
  · rcases h7 with h7 | ⟨y2, hy2, e2, h7, _, h8⟩
    · exact absurd h7 (by decide)
    · rw [e _ hy2] at h7 h8
      obtain ⟨a, ha, _⟩ := List.mem_map.1 h7
      have ha2 := List.mem_filter.1 ha
      have h9 : laL (atL awL p.ttl) p.at_ = [] := by
        unfold laL
        rw [List.map_eq_nil_iff, List.filter_eq_nil_iff]
        intro b hb
        have h10 : a = awR0 := aw_ans ha2.1
        have h11 := ha2.2
        rw [h10] at h11
        rw [aw_ans hb, h11]; simp
      rw [h9] at h8
      exact absurd h8 (by show ¬ (1 : Int) ≤ 0; decide)
theorem aw_fnd {out : List Rp} {z : Int} (h : FndOk [] awL awU out z) : z = 0 ∧ out = [awP] := by
  obtain ⟨h1, h2⟩ := h.good awL_vld (by decide +kernel) (by decide +kernel) (by decide)
  refine ⟨h1, IsFnd.eq h2 ⟨List.pairwise_singleton _ _, fun p => ?_⟩⟩
  rw [List.mem_singleton]
  constructor
  · rintro rfl
    have ht : IsTm awL awP := ⟨awL, aw_st, awR1, by decide +kernel, rfl⟩
    exact ⟨ht, aw_pr, fun q h3 _ h4 => by rw [aw_only h4 h3]; exact Int.le_refl _⟩
  · exact fun h => aw_only h.2.1 h.1
theorem iff_t {P : Prop} {b : Bool} (h : b = true ↔ P) (hp : P) : b = true := h.2 hp
theorem iff_f {P : Prop} {b : Bool} (h : b = true ↔ P) (hp : ¬ P) : b = false := by
  cases b with
  | false => rfl
  | true => exact absurd (h.1 rfl) hp
theorem calls_t {f : FuncId} {vs : Array Value} {w : World} {P : Prop} (h : Calls Tryz.prog f vs w fun e w' => ∃ x : {b : Bool // b = true ↔ P}, e = .returned (.bool x.1) ∧ Below w.heap.size w w') (hp : P) : Calls Tryz.prog f vs w fun e w' => e = .returned (.bool true) ∧ Below w.heap.size w w' :=
  h.mono fun e w' ⟨x, h1, h2⟩ => ⟨by rw [h1, iff_t x.2 hp], h2⟩
theorem calls_f {f : FuncId} {vs : Array Value} {w : World} {P : Prop} (h : Calls Tryz.prog f vs w fun e w' => ∃ x : {b : Bool // b = true ↔ P}, e = .returned (.bool x.1) ∧ Below w.heap.size w w') (hp : ¬ P) : Calls Tryz.prog f vs w fun e w' => e = .returned (.bool false) ∧ Below w.heap.size w w' :=
  h.mono fun e w' ⟨x, h1, h2⟩ => ⟨by rw [h1, iff_f x.2 hp], h2⟩
theorem calls_b {f : FuncId} {vs : Array Value} {w : World} {b c : Bool} (h : Calls Tryz.prog f vs w fun e w' => e = .returned (.bool b) ∧ Below w.heap.size w w') (hb : b = c) : Calls Tryz.prog f vs w fun e w' => e = .returned (.bool c) ∧ Below w.heap.size w w' := hb ▸ h
set_option maxRecDepth 20000
def En.Ok (e : En) : Prop := 0 ≤ e.addr ∧ e.addr ≤ 4294967295
def sizeF (n : Int) : Int := IntKind.i64.wrap (1 * 2 ^ (32 - n).toNat)
def rvldP (a n : Int) : Bool := decide (0 ≤ n) && decide (n ≤ 32) && decide (a % sizeF n = 0)
def rvalidE (e : En) : Bool := rvldP e.addr e.len && decide (1 ≤ e.prov) && decide (e.prov ≤ 2147483647) && decide (0 ≤ e.frm) && decide (e.frm < e.to_) && decide (e.to_ ≤ 1125899906842624)
theorem sizeF_pos (n : Int) (h0 : 0 ≤ n := by omega) (h1 : n ≤ 32 := by omega) : 0 < sizeF n := by
 have key : ∀ k : Fin 33, 0 < IntKind.i64.wrap (1 * 2 ^ k.val) := by decide
 have hk : (32 - n).toNat < 33 := by omega
 exact key ⟨(32 - n).toNat, hk⟩
theorem size_any (n : Int) (h0 : 0 ≤ n) (h1 : n ≤ 32) (w : World) :
  Calls Tryz.prog 179 #[.int .i64 n] w fun e w' => e = .returned (.int .i64 (sizeF n)) ∧ w' = w := by
 refine begin_ (vs := [.int .i64 n]) (I := fun w1 => w1 = w) Tryz.func179 rfl rfl rfl ?_ rfl
 refine zSG (TL.as_ ?_)
 refine zET (zSG (TL.mv ?_))
 refine TL.val rfl rfl rfl (gives_bin rfl rfl rfl (fun w => bin_sub_ (r := 32 - n) (by simp only [IntKind.wrap_i64]; omega) w)) ?_
 refine TL.val rfl rfl rfl (gives_bin (v := .int .i64 (sizeF n)) rfl rfl rfl (fun w => bin_shl (2 ^ (32 - n).toNat) (by omega) (by simp only [IntKind.bits]; omega) rfl w)) ?_
 refine TL.as_ ?_
 refine zET (zr ?_)
 exact ret_tmp Tryz.results179 rfl (fun w1 hw => ⟨rfl, hw⟩)
theorem order_any (x y : Int) (w : World) :
  Calls Tryz.prog 155 #[.int .i64 x, .int .i64 y] w fun e w' => e = .returned (.int .i64 (cmpI x y)) ∧ w' = w := by
 refine begin_ (vs := [.int .i64 x, .int .i64 y]) (I := fun w1 => w1 = w) Tryz.func155 rfl rfl rfl ?_ rfl
 refine zSG (TL.as_ ?_)
 refine zET (zS (zSG (TL.rn 2 rfl ?_)))
 refine TL.sp bin_lss (fun q7 => ?_) (fun q7 => ?_)
 ·refine zET (zc (zSG (TL.as_ ?_)))
  refine zET (zr (zR ?_))
  have hE : (cmpI x y) = -1 := (by simp [cmpI, q7]; try omega)
  exact ret_tmp Tryz.results155 rfl (fun w1 hw => ⟨by rw [hE]; try rfl, hw⟩)
 refine zET (zd (zk (zT (zS (zSG (TL.rn 2 rfl ?_))))))
 refine TL.sp bin_gtr (fun q10 => ?_) (fun q10 => ?_)
 ·refine zET (zc (zSG (TL.as_ ?_)))
  refine zET (zr (zR ?_))
  have hE : (cmpI x y) = 1 := (by simp [cmpI, q7, q10]; try omega)
  exact ret_tmp Tryz.results155 rfl (fun w1 hw => ⟨by rw [hE]; try rfl, hw⟩)
 refine zET (zd (zk (zT (zSG (TL.as_ ?_)))))
 refine zET (zr ?_)
 have hE : (cmpI x y) = 0 := (by simp [cmpI, q7, q10]; try omega)
 exact ret_tmp Tryz.results155 rfl (fun w1 hw => ⟨by rw [hE]; try rfl, hw⟩)
theorem rvld_any (a n : Int) (har : 0 ≤ a ∧ a ≤ 4294967295) (w : World) :
  Calls Tryz.prog 154 #[.agg #[.int .u32 a, .int .i64 n]] w fun e w' => e = .returned (.bool (rvldP a n)) ∧ Below w.heap.size w w' := by
 refine begin_ (vs := [.agg #[.int .u32 a, .int .i64 n]]) Tryz.func154 rfl rfl rfl ?_ (Pm.start w)
 refine zSG ?_
 refine TL.pnew rfl rfl rfl (exec_box (cs := [.int .u32 a, .int .i64 n]) rfl rfl rfl) (fun g1 => ?_)
 refine TL.as_ ?_
 refine zET (zS (TC.quietQ (by kernel_rfl) (by kernel_rfl) (fun w hw => hw.drawn _) ?_))
 refine TQ.v (gF badfld100_1) ?_
 refine TQ.v (gL 0 pcmag3) ?_
 refine TQ.sp bin_geq (fun q5 => ?_) (fun q5 => ?_)
 ·refine TQ.val rfl rfl rfl (gives_move rfl rfl) ?_
  refine TQ.ov (gF badfld100_1) ?_
  refine TQ.ov (gL 0 pcmag3) ?_
  refine TQ.on rfl rfl rfl ?_
  refine TQ.sp bin_leq (fun q9 => ?_) (fun q9 => ?_)
  ·refine TQ.rn 2 rfl (TQ.ov (gF badfld100_0) ?_)
   refine TQ.ov (gL 0 pcmag30) ?_
   refine TQ.on rfl rfl rfl ?_
   refine TQ.val rfl rfl rfl (gives_conv rfl rfl (fun w => conv_fit (k := .u32) Tryz.underlying3 Tryz.underlying30 (by simp only [IntKind.wrap_i64]; omega) w)) ?_
   refine TQ.ov (gF badfld100_1) ?_
   refine TQ.ov (gL 0 pcmag3) ?_
   refine TQ.on rfl rfl rfl ?_
   refine TQ.call (v := .int .i64 (sizeF n)) rfl rfl rfl rfl rfl Tryz.func179 (by decide) rfl (fun w1 hw => (still_bel (size_any n (by omega) (by omega) w1)).mono fun en w2 ⟨h1, h2⟩ => ⟨h1, hw.below h2⟩) ?_
   refine TQ.on rfl rfl rfl ?_
   refine TQ.val rfl rfl rfl (gives_bin rfl rfl rfl (fun w => bin_remk (m := a) (n := sizeF n) (by omega) (by have := sizeF_pos n; omega) w)) ?_
   refine TQ.on rfl rfl rfl ?_
   refine TQ.sp bin_eql (fun q19 => ?_) (fun q19 => ?_)
   ·refine TQ.rn 2 rfl ?_
    refine TQ.fin ?_
    refine zT (zr ?_)
    have hE : (rvldP a n) = true := (by simp [rvldP, q5, q9, q19]; try omega)
    exact ret_tmp Tryz.results154 rfl (fun w1 hw => ⟨by rw [hE]; try rfl, hw.bel⟩)
   refine TQ.rn 2 rfl ?_
   refine TQ.fin ?_
   refine zT (zr ?_)
   have hE : (rvldP a n) = false := (by simp [rvldP, q5, q9, q19]; try omega)
   exact ret_tmp Tryz.results154 rfl (fun w1 hw => ⟨by rw [hE]; try rfl, hw.bel⟩)
  refine TQ.rn 12 rfl ?_
  refine TQ.fin ?_
  refine zT (zr ?_)
  have hE : (rvldP a n) = false := (by simp [rvldP, q5, q9]; try omega)
  exact ret_tmp Tryz.results154 rfl (fun w1 hw => ⟨by rw [hE]; try rfl, hw.bel⟩)
 refine TQ.rn 16 rfl ?_
 refine TQ.fin ?_
 refine zT (zr ?_)
 have hE : (rvldP a n) = false := (by simp [rvldP, q5]; try omega)
 exact ret_tmp Tryz.results154 rfl (fun w1 hw => ⟨by rw [hE]; try rfl, hw.bel⟩)
theorem rcmpP_any (a n b m : Int) (har : 0 ≤ a ∧ a ≤ 4294967295) (hbr : 0 ≤ b ∧ b ≤ 4294967295) (w : World) :
  Calls Tryz.prog 114 #[.agg #[.int .u32 a, .int .i64 n], .agg #[.int .u32 b, .int .i64 m]] w fun e w' => e = .returned (.int .i64 (cmpP a n b m)) ∧ Below w.heap.size w w' := by
 refine begin_ (vs := [.agg #[.int .u32 a, .int .i64 n], .agg #[.int .u32 b, .int .i64 m]]) Tryz.func114 rfl rfl rfl ?_ (Pm.start w)
 refine zSG ?_
 refine TL.pnew rfl rfl rfl (exec_box (cs := [.int .u32 a, .int .i64 n]) rfl rfl rfl) (fun g2 => ?_)
 refine TL.pnew rfl rfl rfl (exec_box (cs := [.int .u32 b, .int .i64 m]) rfl rfl rfl) (fun g3 => ?_)
 refine TL.as_ ?_
 refine zET (zS (zSG (TL.v (gF badfld100_0) ?_)))
 refine TL.v (gL 1 pcmag30) ?_
 refine TL.v (gF badfld100_0) ?_
 refine TL.v (gL 0 pcmag30) ?_
 refine TL.sp bin_neq (fun q9 => ?_) (fun q9 => ?_)
 ·refine zET (zc (zSG (TL.v (gF badfld100_0) ?_)))
  refine TL.v (gL 1 pcmag30) ?_
  refine TL.val rfl rfl rfl (gives_conv rfl rfl (fun w => conv_fit (k := .u32) Tryz.underlying3 Tryz.underlying30 (by simp only [IntKind.wrap_i64]; omega) w)) ?_
  refine TL.v (gF badfld100_0) ?_
  refine TL.v (gL 0 pcmag30) ?_
  refine TL.val rfl rfl rfl (gives_conv rfl rfl (fun w => conv_fit (k := .u32) Tryz.underlying3 Tryz.underlying30 (by simp only [IntKind.wrap_i64]; omega) w)) ?_
  refine TL.pcall1 (r := .int .i64 (cmpI a b)) rfl rfl rfl rfl rfl Tryz.func155 (by decide) rfl (fun w1 hw => still_bel (order_any a b w1)) ?_
  refine TL.as_ ?_
  refine zET (zr (zR ?_))
  have hE : (cmpP a n b m) = cmpI a b := (by simp [cmpP, cmpI_zero, q9]; try omega)
  exact ret_tmp Tryz.results114 rfl (fun w1 hw => ⟨by rw [hE]; try rfl, hw.bel⟩)
 refine zET (zd (zk (zT (zSG (TL.v (gF badfld100_1) ?_)))))
 refine TL.v (gL 1 pcmag3) ?_
 refine TL.v (gF badfld100_1) ?_
 refine TL.v (gL 0 pcmag3) ?_
 refine TL.pcall1 (r := .int .i64 (cmpI n m)) rfl rfl rfl rfl rfl Tryz.func155 (by decide) rfl (fun w1 hw => still_bel (order_any n m w1)) ?_
 refine TL.as_ ?_
 refine zET (zr ?_)
 have hE : (cmpP a n b m) = cmpI n m := (by simp [cmpP, cmpI_zero, q9]; try omega)
 exact ret_tmp Tryz.results114 rfl (fun w1 hw => ⟨by rw [hE]; try rfl, hw.bel⟩)
theorem rvalE_any (x : En) (hx : x.Ok) (w : World) :
  Calls Tryz.prog 113 #[.agg x.cells.toArray] w fun e w' => e = .returned (.bool (rvalidE x)) ∧ Below w.heap.size w w' := by
 refine begin_ (vs := [.agg x.cells.toArray]) Tryz.func113 rfl rfl rfl ?_ (Pm.start w)
 refine zSG ?_
 refine TL.pnew rfl rfl rfl (exec_box (cs := x.cells) rfl rfl rfl) (fun g1 => ?_)
 refine TL.as_ ?_
 refine zET (zSG (TL.v (gF brefld102_0) ?_))
 refine TL.v (gV 0 (.agg #[.int .u32 x.addr, .int .i64 x.len]) badag100 badsz100) ?_
 refine TL.callsplit rfl rfl rfl rfl rfl Tryz.func154 (by decide) rfl (fun w1 hw => rvld_any x.addr x.len hx w1) (fun h5 => ?_) (fun h5 => ?_)
 ·refine TL.mv ?_
  refine TL.ov (gF brefld102_1) ?_
  refine TL.ov (gL 0 pcmag3) ?_
  refine TL.gu ?_
  refine TL.sp bin_geq (fun q9 => ?_) (fun q9 => ?_)
  ·refine TL.rn 2 rfl (TL.ov (gF brefld102_1) ?_)
   refine TL.ov (gL 0 pcmag3) ?_
   refine TL.gu ?_
   refine TL.sp bin_leq (fun q14 => ?_) (fun q14 => ?_)
   ·refine TL.rn 2 rfl (TL.ov (gF brefld102_2) ?_)
    refine TL.ov (gL 0 pcmag3) ?_
    refine TL.gu ?_
    refine TL.sp bin_geq (fun q19 => ?_) (fun q19 => ?_)
    ·refine TL.rn 2 rfl (TL.ov (gF brefld102_2) ?_)
     refine TL.ov (gL 0 pcmag3) ?_
     refine TL.ov (gF brefld102_3) ?_
     refine TL.ov (gL 0 pcmag3) ?_
     refine TL.gu ?_
     refine TL.sp bin_lss (fun q26 => ?_) (fun q26 => ?_)
     ·refine TL.rn 2 rfl (TL.ov (gF brefld102_3) ?_)
      refine TL.ov (gL 0 pcmag3) ?_
      refine TL.gu ?_
      refine TL.sp bin_leq (fun q31 => ?_) (fun q31 => ?_)
      ·refine TL.rn 2 rfl (zET (zr ?_))
       have hE : (rvalidE x) = true := (by simp [rvalidE, h5, q9, q14, q19, q26, q31]; try omega)
       exact ret_tmp Tryz.results113 rfl (fun w1 hw => ⟨by rw [hE]; try rfl, hw.bel⟩)
      refine TL.rn 2 rfl (zET (zr ?_))
      have hE : (rvalidE x) = false := (by simp [rvalidE, h5, q9, q14, q19, q26, q31]; try omega)
      exact ret_tmp Tryz.results113 rfl (fun w1 hw => ⟨by rw [hE]; try rfl, hw.bel⟩)
     refine TL.rn 7 rfl (zET (zr ?_))
     have hE : (rvalidE x) = false := (by simp [rvalidE, h5, q9, q14, q19, q26]; try omega)
     exact ret_tmp Tryz.results113 rfl (fun w1 hw => ⟨by rw [hE]; try rfl, hw.bel⟩)
    refine TL.rn 14 rfl (zET (zr ?_))
    have hE : (rvalidE x) = false := (by simp [rvalidE, h5, q9, q14, q19]; try omega)
    exact ret_tmp Tryz.results113 rfl (fun w1 hw => ⟨by rw [hE]; try rfl, hw.bel⟩)
   refine TL.rn 19 rfl (zET (zr ?_))
   have hE : (rvalidE x) = false := (by simp [rvalidE, h5, q9, q14]; try omega)
   exact ret_tmp Tryz.results113 rfl (fun w1 hw => ⟨by rw [hE]; try rfl, hw.bel⟩)
  refine TL.rn 24 rfl (zET (zr ?_))
  have hE : (rvalidE x) = false := (by simp [rvalidE, h5, q9]; try omega)
  exact ret_tmp Tryz.results113 rfl (fun w1 hw => ⟨by rw [hE]; try rfl, hw.bel⟩)
 refine TL.rn 28 rfl (zET (zr ?_))
 have hE : (rvalidE x) = false := (by simp [rvalidE, h5]; try omega)
 exact ret_tmp Tryz.results113 rfl (fun w1 hw => ⟨by rw [hE]; try rfl, hw.bel⟩)
theorem pow_nat (k : Nat) : (2 : Int) ^ k = ((2 ^ k : Nat) : Int) := by simp
theorem pow_bounds (k : Nat) (hk : k ≤ 32) : 0 < 2 ^ k ∧ 2 ^ k ≤ 4294967296 := ⟨Nat.two_pow_pos k, by rw [show 4294967296 = 2 ^ 32 by rfl]; exact Nat.pow_le_pow_right (by decide) hk⟩
theorem sizeF_eq {n : Int} (h0 : 0 ≤ n) (h1 : n ≤ 32) : sizeF n = ((2 ^ (32 - n).toNat : Nat) : Int) := by
  have h2 := pow_bounds (32 - n).toNat (by omega)
  unfold sizeF
  rw [Int.one_mul, pow_nat, IntKind.wrap_i64]
  omega
theorem maskF_eq {n : Int} (h0 : 0 ≤ n) (h1 : n ≤ 32) : maskF n = ((4294967296 - 2 ^ (32 - n).toNat : Nat) : Int) := by
  have h2 := pow_bounds (32 - n).toNat (by omega)
  unfold maskF
  rw [pow_nat, IntKind.wrap_u32]
  omega
theorem vldP_eq {a n : Int} (ha : 0 ≤ a ∧ a ≤ 4294967295) : vldP a n = rvldP a n := by
  unfold vldP rvldP
  by_cases h : 0 ≤ n ∧ n ≤ 32
  · have h2 := pow_bounds (32 - n).toNat (by omega)
    obtain ⟨x, rfl⟩ := Int.eq_ofNat_of_zero_le ha.1
    rw [maskF_eq h.1 h.2, sizeF_eq h.1 h.2, u32_andNot_nat _ _ (by omega) (by omega)]
    rw [show 4294967295 - (4294967296 - 2 ^ (32 - n).toNat) = 2 ^ (32 - n).toNat - 1 by omega, Nat.and_two_pow_sub_one_eq_mod]
    congr 1
  · have : (decide (0 ≤ n) && decide (n ≤ 32)) = false := by
      by_cases h3 : 0 ≤ n
      · have : ¬ n ≤ 32 := fun h4 => h ⟨h3, h4⟩
        simp [this]
      · simp [h3]
    rw [this, Bool.false_and, Bool.false_and]
theorem rvalidE_eq {e : En} (h : e.Ok) : rvalidE e = validE e := by unfold rvalidE validE; rw [vldP_eq h]
set_option maxRecDepth 20000
theorem rvalX_any (A0 : Option Addr) (c0 : Nat) (es : List En) (w : World) (hr : Reads w w.heap.size 5 A0 es.length (flat En.cells es)) (hl1 : es.length ≤ 100000) (hok : ∀ z ∈ es, z.Ok) :
  Calls Tryz.prog 85 #[.agg #[.slice A0 es.length c0]] w fun e w' => e = .returned (.bool (validR es)) ∧ Below w.heap.size w w' := by
 refine begin_ (vs := [.agg #[.slice A0 es.length c0]]) Tryz.func85 rfl rfl rfl ?_ (Pm.start w)
 refine zSG ?_
 refine TL.pnew rfl rfl rfl (exec_box (cs := [.slice A0 es.length c0]) rfl rfl rfl) (fun g1 => ?_)
 refine TL.as_ ?_
 refine zET (zS (zSG (TL.v (gF brefld26_0) ?_)))
 refine TL.v (gL 0 breag24) ?_
 refine TL.v (gN Tryz.underlying24) ?_
 refine TL.sp bin_gtr (fun q10 => ?_) (fun q10 => ?_)
 ·refine zET (zc (zSG (TL.as_ ?_)))
  refine zET (zr (zR ?_))
  have hE : validR es = false := by simp only [validR, decide_eq_false (show ¬ es.length ≤ 1024 by omega), Bool.false_and]
  exact ret_tmp Tryz.results85 rfl (fun w1 hw => ⟨by rw [hE], hw.bel⟩)
 refine zET (zd (zk (zT (zS (zSG (TL.as_ ?_))))))
 refine zET (zB (TC.loop_ (α := {i : Nat // i ≤ es.length ∧ ∀ j, j < i → okAt es j = true}) (fun y => [(1, .pointer (some ⟨g1, 0, none⟩)), (3, .int .i64 ((y.1 : Nat) : Int))]) (fun y => Pm w [.blk g1 26 [.slice A0 es.length c0]]) (fun y => es.length - y.1) (⟨0, Nat.zero_le _, fun j hj => absurd hj (Nat.not_lt_zero _)⟩) ⟨rfl, rfl, trivial⟩ (fun w1 hw => hw) ?_))
 rintro ⟨i, hi, hok2⟩
 try dsimp only at hi hok2 ⊢
 refine zS (zSG (TL.mv ?_))
 refine TL.v (gF brefld26_0) ?_
 refine TL.v (gL 0 breag24) ?_
 refine TL.v (gN Tryz.underlying24) ?_
 refine TL.sp bin_lss (fun q15 => ?_) (fun q15 => ?_)
 ·refine zET (zc (zk (zT (zS (zB (zS (zSG (TL.v (gF brefld26_0) ?_))))))))
  refine TL.v (gL 0 breag24) ?_
  refine TL.mv ?_
  have hi21 : i < es.length := by omega
  obtain ⟨x21, hx21⟩ := ex_at hi21
  obtain ⟨b21, o21, hA21, hbb21, hc21⟩ := hr.ad (by omega) (by decide)
  refine TL.val rfl rfl rfl (gA (i := i) Tryz.underlying24 bresz102 rfl rfl rfl rfl hA21 (by omega)) ?_
  refine TL.v (gR en_cel breag102 bresz102 hbb21 hx21 hc21) ?_
  refine TL.callsplit rfl rfl rfl rfl rfl Tryz.func113 (by decide) rfl (fun w1 hw => rvalE_any x21 (hok x21 (List.mem_of_getElem? hx21)) w1) (fun h23 => ?_) (fun h23 => ?_)
  ·refine TL.val rfl rfl rfl (gives_boolnot rfl rfl) ?_
   refine zET (zd (zk (zT (zS (zS ?_)))))
   have hv21 : validE x21 = true := by rw [← rvalidE_eq (hok x21 (List.mem_of_getElem? hx21))]; exact h23
   refine zG (TL.mv ?_)
   refine TL.sp bin_eql (fun q26 => ?_) (fun q26 => ?_)
   ·refine zET (zc (zx (zX (zM (zT (zG (TL.mv ?_)))))))
    refine TL.v (gD ((i + 1 : Nat) : Int)) ?_
    refine TL.as_ ?_
    refine zE ?_
    exact TX.round (⟨i + 1, by omega, okN hok2 (okAt_zero (by omega) hx21 hv21)⟩) (by show es.length - (i + 1) < es.length - i; omega) ⟨rfl, rfl, trivial⟩ (fun w1 hw => hw)
   refine zET (zd (zk (zT ?_)))
   have hi0 : ¬ i = 0 := by omega
   have hi31 : i - 1 < es.length := by omega
   obtain ⟨x31, hx31⟩ := ex_at hi31
   have hi36 : i < es.length := by omega
   obtain ⟨x36, hx36⟩ := ex_at hi36
   have e36 : x21 = x36 := by rw [hx21] at hx36; exact Option.some.inj hx36
   rw [e36] at hv21
   obtain ⟨b31, o31, hA31, hbb31, hc31⟩ := hr.ad (by omega) (by decide)
   refine TC.join (α := Nat × Nat) (fun y => [(1, .pointer (some ⟨g1, 0, none⟩)), (3, .int .i64 ((i : Nat) : Int)), (4, .pointer (some ⟨y.1, 0, none⟩)), (5, .pointer (some ⟨y.2, 0, none⟩))]) (fun y => Pm w [.blk y.1 102 x31.cells, .blk y.2 102 x36.cells, .blk g1 26 [.slice A0 es.length c0]]) ?_ ?_
   ·refine TC.held (ls := #[Ff,Ff,Ff,Ff,Ff,Ff,Ff,Ff,Ff,Ff,Ff,Ff,Ff,Ff,Ff]) (Pm w [.blk g1 26 [.slice A0 es.length c0]]) (by kernel_rfl) rfl rfl (fun w hw => hw.drawn _) ?_
    refine TH.tk 0 rfl rfl rfl (gF brefld26_0) (fun w1 hw => hw) ?_
    refine TH.tk 1 rfl rfl rfl (gL 0 breag24) (fun w1 hw => hw) ?_
    refine TH.tk 2 rfl rfl rfl (gives_move rfl rfl) (fun w1 hw => hw) ?_
    refine TH.tk 3 rfl rfl rfl (gives_bin rfl rfl rfl (fun w => bin_sub_ (r := ((i - 1 : Nat) : Int)) (by simp only [IntKind.wrap_i64]; omega) w)) (fun w1 hw => hw) ?_
    refine TH.tk 4 rfl rfl rfl (gA (i := (i - 1)) Tryz.underlying24 bresz102 rfl rfl rfl rfl hA31 (by omega)) (fun w1 hw => hw) ?_
    refine TH.tk 5 rfl rfl rfl (gives_loadR (off := o31 + (i - 1) * 5) rfl rfl breag102 bresz102 (en_cel.len x31) (fun w1 hw j9 u9 h9 => (hw.bel.cell hbb31).trans <| flat_cell en_cel hx31 hc31 j9 u9 h9)) (fun w1 hw => hw) ?_
    refine TH.tk 6 rfl rfl rfl (gF brefld26_0) (fun w1 hw => hw) ?_
    refine TH.tk 7 rfl rfl rfl (gL 0 breag24) (fun w1 hw => hw) ?_
    refine TH.tk 8 rfl rfl rfl (gives_move rfl rfl) (fun w1 hw => hw) ?_
    refine TH.tk 9 rfl rfl rfl (gA (i := i) Tryz.underlying24 bresz102 rfl rfl rfl rfl hA31 (by omega)) (fun w1 hw => hw) ?_
    refine TH.tk 10 rfl rfl rfl (gR en_cel breag102 bresz102 hbb31 hx36 hc31) (fun w1 hw => hw) ?_
    refine TH.two' (listed1 := #[Tt,Tt,Tt,Tt,Tt,Tt,Tt,Tt,Tt,Tt,Tt,Tt,Ff,Ff,Ff]) (listed2 := #[Tt,Tt,Tt,Tt,Tt,Tt,Tt,Tt,Tt,Tt,Tt,Ff,Tt,Ff,Ff]) 11 12 rfl rfl (by kernel_rfl) rfl rfl ?_ ?_
    ·refine TL.pnew rfl rfl rfl (exec_alloc (cs := [.int .u32 0, .int .i64 0, .int .i64 0, .int .i64 0, .int .i64 0]) rfl brezv102 rfl) (fun g4 => ?_)
     refine zE ?_
     refine TX.held (fun w1 hw => hw.pick [1] (by decide) rfl) ?_
     refine TH.only' 12 rfl (by kernel_rfl) rfl ?_
     refine TL.pnew rfl rfl rfl (exec_alloc (cs := [.int .u32 0, .int .i64 0, .int .i64 0, .int .i64 0, .int .i64 0]) rfl brezv102 rfl) (fun g5 => ?_)
     refine zE ?_
     refine TX.held (fun w1 hw => hw.pick [2] (by decide) rfl) ?_
     refine TH.only' 13 rfl (by kernel_rfl) rfl ?_
     refine TL.pstore (k := 1) (vs := x31.cells) rfl rfl rfl rfl rfl rfl rfl bresz102 (en_cel.one _) (by show 5 ≤ 5; decide) (L' := [.blk g5 102 [.int .u32 0, .int .i64 0, .int .i64 0, .int .i64 0, .int .i64 0], .blk g4 102 x31.cells, .blk g1 26 [.slice A0 es.length c0]]) rfl ?_
     refine zE ?_
     refine TX.held (fun w1 hw => hw.pick [2] (by decide) rfl) ?_
     refine TH.only' 14 rfl (by kernel_rfl) rfl ?_
     refine TL.pstore (k := 0) (vs := x36.cells) rfl rfl rfl rfl rfl rfl rfl bresz102 (en_cel.one _) (by show 5 ≤ 5; decide) (L' := [.blk g5 102 x36.cells, .blk g4 102 x31.cells, .blk g1 26 [.slice A0 es.length c0]]) rfl ?_
     refine zE ?_
     refine TX.held (fun w1 hw => hw.pick [2] (by decide) rfl) ?_
     refine TH.done (by kernel_rfl) ?_
     exact TX.joined ((g4, g5)) (⟨rfl, rfl, rfl, rfl, trivial⟩) (fun w1 hw => hw.pick [1, 0, 2] (by decide) rfl)
    refine TL.pnew rfl rfl rfl (exec_alloc (cs := [.int .u32 0, .int .i64 0, .int .i64 0, .int .i64 0, .int .i64 0]) rfl brezv102 rfl) (fun g5 => ?_)
    refine zE ?_
    refine TX.held (fun w1 hw => hw.pick [1] (by decide) rfl) ?_
    refine TH.only' 11 rfl (by kernel_rfl) rfl ?_
    refine TL.pnew rfl rfl rfl (exec_alloc (cs := [.int .u32 0, .int .i64 0, .int .i64 0, .int .i64 0, .int .i64 0]) rfl brezv102 rfl) (fun g4 => ?_)
    refine zE ?_
    refine TX.held (fun w1 hw => hw.pick [2] (by decide) rfl) ?_
    refine TH.only' 13 rfl (by kernel_rfl) rfl ?_
    refine TL.pstore (k := 0) (vs := x31.cells) rfl rfl rfl rfl rfl rfl rfl bresz102 (en_cel.one _) (by show 5 ≤ 5; decide) (L' := [.blk g4 102 x31.cells, .blk g5 102 [.int .u32 0, .int .i64 0, .int .i64 0, .int .i64 0, .int .i64 0], .blk g1 26 [.slice A0 es.length c0]]) rfl ?_
    refine zE ?_
    refine TX.held (fun w1 hw => hw.pick [2] (by decide) rfl) ?_
    refine TH.only' 14 rfl (by kernel_rfl) rfl ?_
    refine TL.pstore (k := 1) (vs := x36.cells) rfl rfl rfl rfl rfl rfl rfl bresz102 (en_cel.one _) (by show 5 ≤ 5; decide) (L' := [.blk g4 102 x31.cells, .blk g5 102 x36.cells, .blk g1 26 [.slice A0 es.length c0]]) rfl ?_
    refine zE ?_
    refine TX.held (fun w1 hw => hw.pick [2] (by decide) rfl) ?_
    refine TH.done (by kernel_rfl) ?_
    exact TX.joined ((g4, g5)) (⟨rfl, rfl, rfl, rfl, trivial⟩) (fun w1 hw => hw)
   rintro ⟨ga, gb⟩
   try dsimp only
   refine zSG (TL.v (gF brefld102_0) ?_)
   refine TL.v (gV 0 (.agg #[.int .u32 x31.addr, .int .i64 x31.len]) badag100 badsz100) ?_
   refine TL.v (gF brefld102_0) ?_
   refine TL.v (gV 1 (.agg #[.int .u32 x36.addr, .int .i64 x36.len]) badag100 badsz100) ?_
   refine TL.pcall1 (r := .int .i64 (cmpP x31.addr x31.len x36.addr x36.len)) rfl rfl rfl rfl rfl Tryz.func114 (by decide) rfl (fun w1 hw => rcmpP_any x31.addr x31.len x36.addr x36.len (hok x31 (List.mem_of_getElem? hx31)) (hok x36 (List.mem_of_getElem? hx36)) w1) ?_
   refine TL.as_ ?_
   refine zET (zSG (TL.mv ?_))
   refine TL.sp bin_gtr (fun q44 => ?_) (fun q44 => ?_)
   ·refine TL.rn 4 rfl ?_
    refine TL.offU rfl rfl rfl rfl rfl ?_
    refine TL.offU rfl rfl rfl rfl rfl ?_
    refine TL.offU rfl rfl rfl rfl rfl ?_
    refine TL.offU rfl rfl rfl rfl rfl ?_
    refine TL.offU rfl rfl rfl rfl rfl ?_
    refine TL.rn 2 rfl (zET (zc (zSG (TL.as_ ?_))))
    refine zET (zr (zRR (zR (zRR ?_))))
    have hE : validR es = false := validR_false hi36 (okAt_pair (t := false) (by omega) hx36 hx31 hv21 (by simp [badP, q44]))
    exact ret_tmp Tryz.results85 rfl (fun w1 hw => ⟨by rw [hE], hw.bel⟩)
   refine TL.rn 2 rfl (TL.gu ?_)
   refine TL.sp bin_eql (fun q47 => ?_) (fun q47 => ?_)
   ·refine TL.rn 1 rfl (TL.ov (gF brefld102_2) ?_)
    refine TL.ov (gL 1 pcmag3) ?_
    refine TL.ov (gF brefld102_3) ?_
    refine TL.ov (gL 0 pcmag3) ?_
    refine TL.gu ?_
    refine TL.sp bin_lss (fun q53 => ?_) (fun q53 => ?_)
    ·refine TL.rn 2 rfl (zET (zc (zSG (TL.as_ ?_))))
     refine zET (zr (zRR (zR (zRR ?_))))
     have hE : validR es = false := validR_false hi36 (okAt_pair (t := false) (by omega) hx36 hx31 hv21 (by simp [badP, q44, q47, q53]))
     exact ret_tmp Tryz.results85 rfl (fun w1 hw => ⟨by rw [hE], hw.bel⟩)
    refine TL.rn 2 rfl (zET (zd (zk (zN (zT (zG (TL.mv ?_)))))))
    refine TL.v (gD ((i + 1 : Nat) : Int)) ?_
    refine TL.as_ ?_
    refine zE ?_
    exact TX.round (⟨i + 1, by omega, okN hok2 (okAt_pair (t := true) (by omega) hx36 hx31 hv21 (by simp [badP, q44, q47, q53]))⟩) (by show es.length - (i + 1) < es.length - i; omega) ⟨rfl, rfl, trivial⟩ (fun w1 hw => hw.pick [2] (by decide) rfl)
   refine TL.rn 8 rfl (zET (zd (zk (zN (zT (zG (TL.mv ?_)))))))
   refine TL.v (gD ((i + 1 : Nat) : Int)) ?_
   refine TL.as_ ?_
   refine zE ?_
   exact TX.round (⟨i + 1, by omega, okN hok2 (okAt_pair (t := true) (by omega) hx36 hx31 hv21 (by simp [badP, q44, q47]))⟩) (by show es.length - (i + 1) < es.length - i; omega) ⟨rfl, rfl, trivial⟩ (fun w1 hw => hw.pick [2] (by decide) rfl)
  refine TL.val rfl rfl rfl (gives_boolnot rfl rfl) ?_
  refine zET (zc (zSG (TL.as_ ?_)))
  refine zET (zr (zR (zRR (zR (zRR ?_)))))
  have hE : validR es = false := validR_false hi21 (okAt_bad hx21 (by rw [← rvalidE_eq (hok x21 (List.mem_of_getElem? hx21))]; exact h23))
  exact ret_tmp Tryz.results85 rfl (fun w1 hw => ⟨by rw [hE], hw.bel⟩)
 refine zET (zd (zx (zX (zX (zM (zT (zSG (TL.as_ ?_))))))))
 refine zET (zr ?_)
 have hE : validR es = true := validR_true (by omega) (fun j hj => hok2 j (by omega))
 exact ret_tmp Tryz.results85 rfl (fun w1 hw => ⟨by rw [hE], hw.bel⟩)
set_option maxRecDepth 20000
def LimOk (l : List Rs) (z : Int) : Prop := (z = 1 ∧ ∃ r ∈ l, vldRs r = false) ∨ (z = 5 ∧ (∀ r ∈ l, vldRs r = true) ∧ ∃ o, IsOrd l o ∧ 512 < o.length) ∨ (z = 0 ∧ (∀ r ∈ l, vldRs r = true) ∧ ∃ o, IsOrd l o ∧ o.length ≤ 512)
theorem LimOk.eq {l : List Rs} {z z' : Int} (h : LimOk l z) (h' : LimOk l z') : z = z' := by
  rcases h with ⟨rfl, r, hr, h1⟩ | ⟨rfl, h1, o, h2, h3⟩ | ⟨rfl, h1, o, h2, h3⟩ <;> rcases h' with ⟨rfl, r', hr', h1'⟩ | ⟨rfl, h1', o', h2', h3'⟩ | ⟨rfl, h1', o', h2', h3'⟩ <;> first | rfl | (rw [h1' r hr] at h1; cases h1) | (rw [h1 r' hr'] at h1'; cases h1') | (rw [h2.eq h2'] at h3; omega)
theorem mem_atL {y : List Rs} {t : Int} {z : Rs} : z ∈ atL y t ↔ z ∈ y ∧ z.ans = true ∧ z.ttl = t := by
  unfold atL
  rw [List.mem_filter]
  simp only [Bool.and_eq_true, decide_eq_true_eq]
structure MKey (P : Program) (k : TypeId) {κ : Type} (enc : κ → Value) (Ok : κ → Prop) : Prop where
  keyed : Maps.Keyed P k
  lit : ∀ a, Ok a → ∃ l, keyOf P k (enc a) = some l
  inj : ∀ a b, enc a = enc b → a = b
def MapG {κ : Type} (enc : κ → Value) (Ok : κ → Prop) (o : Obj) (f : κ → Option Value) : Prop :=
  ∃ (es : Array MapEntry) (clock : Nat), o = .map es clock ∧ (∀ e ∈ es.toList, ∃ a, Ok a ∧ e.key = enc a) ∧ (es.toList.map (·.key)).Nodup ∧ ∀ a v, f a = some v ↔ ∃ e ∈ es.toList, e.key = enc a ∧ e.val = v
section
variable {P : Program} {t k e : TypeId} {κ : Type} {enc : κ → Value} {Ok : κ → Prop} {o : Obj} {g : Nat} {f : κ → Option Value} {w : World}
theorem mapG_new (enc : κ → Value) (Ok : κ → Prop) : MapG enc Ok (.map #[] 0) (fun _ => none) :=
  ⟨#[], 0, rfl, fun e h => absurd h List.not_mem_nil, List.nodup_nil, fun a v => ⟨fun h => by (cases h), fun ⟨e, h, _⟩ => absurd h List.not_mem_nil⟩⟩
theorem MapG.find {es : Array MapEntry} {clock : Nat} (h : MapG enc Ok (.map es clock) f) (K : MKey P k enc Ok) {a : κ} (ha : Ok a) (w : World) :
    ((Instr.findKey k (enc a) es.toList).run P w = .ok none w ∧ f a = none) ∨ ∃ j e, (Instr.findKey k (enc a) es.toList).run P w = .ok (some (j, e.val)) w ∧ es[j]? = some e ∧ e.key = enc a ∧ f a = some e.val := by
  obtain ⟨es', clock', he, hk, hnd, hf⟩ := h
  cases he
  obtain ⟨l, hl⟩ := K.lit a ha
  rcases K.keyed.find w hl es.toList (fun e he => by obtain ⟨b, hb, e1⟩ := hk e he; rw [e1]; exact K.lit b hb) with ⟨h1, h2⟩ | ⟨j, e, h1, h2, h3⟩
  · refine .inl ⟨h1, ?_⟩
    cases hfa : f a with
    | none => rfl
    | some v =>
      obtain ⟨e, he, e1, _⟩ := (hf a v).1 hfa
      exact absurd e1 (h2 e he)
  · refine .inr ⟨j, e, h1, by simpa using h2, h3, (hf a e.val).2 ⟨e, List.mem_of_getElem? h2, h3, rfl⟩⟩
theorem MapG.look (h : MapG enc Ok o f) (K : MKey P k enc Ok) (ht : P.underlying t = some (.map k e)) {z : Value} (hz : ∀ w : World, (zeroValue e).run P w = .ok z w) (hb : w.heap[g]? = some o) {a : κ} (ha : Ok a) (co : Bool) :
    (Instr.lookup t (.map (some g)) (enc a) co).run P w = .ok (if co then .tuple #[(f a).getD z, .bool (f a).isSome] else (f a).getD z) w := by
  obtain ⟨es, clock, he, _⟩ := id h
  subst he
  obtain ⟨l, hl⟩ := K.lit a ha
  have hck := K.keyed.check w es.isEmpty hl
  have hgo : (getObj g).run P w = .ok (.map es clock) w := by simp [getObj, Sem.run, hb]
  unfold Instr.lookup
  rcases h.find K ha w with ⟨h1, h2⟩ | ⟨j, e', h1, h2, h3, h4⟩
  · simp [run_underlying ht, hgo, hck, h1, hz, h2]
  · simp [run_underlying ht, hgo, hck, h1, h4]
theorem MapG.put (h : MapG enc Ok o f) (K : MKey P k enc Ok) (ht : P.underlying t = some (.map k e)) (hb : w.heap[g]? = some o) {a : κ} (ha : Ok a) (v : Value) [DecidableEq κ] :
    ∃ o' w', (Instr.mapUpdate t (.map (some g)) (enc a) v).run P w = .ok () w' ∧ w'.heap[g]? = some o' ∧ MapG enc Ok o' (fun x => if x = a then some v else f x) ∧ w.grownBy w' (some g) := by
  obtain ⟨es, clock, he, hk, hnd, hf⟩ := id h
  subst he
  obtain ⟨l, hl⟩ := K.lit a ha
  have hck := K.keyed.check w false hl
  have hst := K.keyed.stays w hl
  have hgo : (getObj g).run P w = .ok (.map es clock) w := by simp [getObj, Sem.run, hb]
  have hlt : g < w.heap.size := (Array.getElem?_eq_some_iff.1 hb).1
  have hso : ∀ ob : Obj, (setObj g ob).run P w = .ok () (w.putObj g ob) := fun ob => by simp [setObj, Sem.run, hb, World.putObj]
  rcases h.find K ha w with ⟨h1, h2⟩ | ⟨j, e', h1, h2, h3, h4⟩
  · refine ⟨.map (es.push ⟨enc a, v, clock⟩) (clock + 1), w.putObj g (.map (es.push ⟨enc a, v, clock⟩) (clock + 1)), ?_, ?_, ⟨_, _, rfl, ?_, ?_, ?_⟩, grownBy_putObj' w g _⟩
    · unfold Instr.mapUpdate
      simp [run_underlying ht, hgo, hck, h1, hso]
    · simp [World.putObj, hlt]
    · intro e1 he1
      simp only [Array.toList_push, List.mem_append, List.mem_singleton] at he1
      rcases he1 with he1 | rfl
      · exact hk e1 he1
      · exact ⟨a, ha, rfl⟩
    · simp only [Array.toList_push, List.map_append, List.map_cons, List.map_nil]
      refine List.nodup_append.2 ⟨hnd, List.pairwise_singleton _ _, fun x hx y hy e1 => ?_⟩
      rw [List.mem_singleton] at hy
      obtain ⟨e2, he2, e3⟩ := List.mem_map.1 hx
      have := (hf a e2.val).2 ⟨e2, he2, by rw [e3, e1, hy], rfl⟩
      rw [h2] at this
      cases this
    · intro x u
      simp only [Array.toList_push, List.mem_append, List.mem_singleton]
      show (if x = a then some v else f x) = some u ↔ _
      by_cases e1 : x = a
      · subst e1
        rw [if_pos rfl]
        constructor
        · intro hu
          cases hu
          exact ⟨_, .inr rfl, rfl, rfl⟩
        · rintro ⟨e2, he2 | rfl, e3, e4⟩
          · have := (hf x e2.val).2 ⟨e2, he2, e3, rfl⟩
            rw [h2] at this
            cases this
          · rw [← e4]
      · rw [if_neg e1, hf]
        constructor
        · rintro ⟨e2, he2, e3⟩
          exact ⟨e2, .inl he2, e3⟩
        · rintro ⟨e2, he2 | rfl, e3⟩
          · exact ⟨e2, he2, e3⟩
          · exact absurd (K.inj _ _ e3.1).symm e1
  · have hjl : j < es.size := (Array.getElem?_eq_some_iff.1 h2).1
    refine ⟨.map (es.modify j fun e => { key := enc a, val := v, born := e.born }) clock, w.putObj g (.map (es.modify j fun e => { key := enc a, val := v, born := e.born }) clock), ?_, ?_, ⟨_, _, rfl, ?_, ?_, ?_⟩, grownBy_putObj' w g _⟩
    · unfold Instr.mapUpdate
      simp [run_underlying ht, hgo, hck, h1, h2, h3, hst, hso]
    · simp [World.putObj, hlt]
    all_goals
      have hm : (es.modify j fun e => { key := enc a, val := v, born := e.born }).toList = es.toList.set j ⟨enc a, v, e'.born⟩ := by
        refine List.ext_getElem? fun i => ?_
        rw [Array.getElem?_toList, Array.getElem?_modify, List.getElem?_set]
        by_cases e1 : j = i
        · subst e1
          rw [if_pos rfl, if_pos rfl, h2, if_pos (by simpa using hjl)]
          rfl
        · rw [if_neg e1, if_neg e1, Array.getElem?_toList]
      rw [hm]
    · intro e1 he1
      rcases List.mem_or_eq_of_mem_set he1 with h5 | rfl
      · exact hk e1 h5
      · exact ⟨a, ha, rfl⟩
    · have : (es.toList.set j ⟨enc a, v, e'.born⟩).map (·.key) = es.toList.map (·.key) := by
        rw [List.map_set]
        refine List.ext_getElem? fun i => ?_
        rw [List.getElem?_set]
        by_cases e1 : j = i
        · subst e1
          rw [if_pos rfl, if_pos (by simpa using hjl), List.getElem?_map, Array.getElem?_toList, h2]
          simp [h3]
        · rw [if_neg e1]
      rw [this]
      exact hnd
    · have hdist : ∀ i e1, es.toList[i]? = some e1 → e1.key = enc a → i = j := fun i e1 hi hk1 => by
        have hi' : i < (es.toList.map (·.key)).length := by rw [List.length_map]; exact (List.getElem?_eq_some_iff.1 hi).1
        refine (List.getElem?_inj hi' hnd).1 ?_
        rw [List.getElem?_map, List.getElem?_map, hi, Array.getElem?_toList, h2]
        simp [hk1, h3]
      intro x u
      show (if x = a then some v else f x) = some u ↔ _
      by_cases e1 : x = a
      · subst e1
        rw [if_pos rfl]
        constructor
        · intro hu
          cases hu
          exact ⟨⟨enc x, v, e'.born⟩, List.mem_set (by rw [Array.length_toList]; exact hjl) _, rfl, rfl⟩
        · rintro ⟨e2, he2, e3, e4⟩
          obtain ⟨i, hi⟩ := List.getElem?_of_mem he2
          rw [List.getElem?_set] at hi
          by_cases e5 : j = i
          · rw [if_pos e5, if_pos (by rw [Array.length_toList]; exact hjl)] at hi
            cases hi
            rw [← e4]
          · rw [if_neg e5] at hi
            exact absurd (hdist i e2 hi e3).symm e5
      · rw [if_neg e1, hf]
        constructor
        · rintro ⟨e2, he2, e3, e4⟩
          obtain ⟨i, hi⟩ := List.getElem?_of_mem he2
          have hij : j ≠ i := fun hh => by
            subst hh
            rw [Array.getElem?_toList, h2] at hi
            cases hi
            rw [h3] at e3
            exact e1 (K.inj _ _ e3).symm
          exact ⟨e2, List.mem_of_getElem? (i := i) (by rw [List.getElem?_set, if_neg hij]; exact hi), e3, e4⟩
        · rintro ⟨e2, he2, e3, e4⟩
          rcases List.mem_or_eq_of_mem_set he2 with h5 | rfl
          · exact ⟨e2, h5, e3, e4⟩
          · exact absurd (K.inj _ _ e3).symm e1
end
section
variable {P : Program} {N : Fr} {Q : Exit → Act → World → Prop} {E : Env} {w0 : Base} {L : List Pc} {ops : Array Oper} {l : List Oper} {o : Oper} {κ : Type} {enc : κ → Value} {Ok : κ → Prop} {t k e : TypeId}
theorem gives_lookG {x y : Operand} {g i : Nat} {ob : Obj} {f : κ → Option Value} {a : κ} {z : Value} (ho : o.op = .lookup t x y false) (hx : ev E x = some (.map (some g))) (hy : ev E y = some (enc a)) (K : MKey P k enc Ok) (ht : P.underlying t = some (.map k e)) (hz : ∀ w : World, (zeroValue e).run P w = .ok z w) (hk : L[i]? = some (.oth g ob)) (hm : MapG enc Ok ob f) (ha : Ok a) {v : Value} (hv : (f a).getD z = v) :
    Gives P N o E (Pm w0 L) v := fun ac w hac hw => by
  unfold execOp; rw [ho]
  subst hv
  simp [hac.eval hx, hac.eval hy, hm.look K ht hz (hw.at_ hk).1 ha false]
theorem TL.mapsetG {x y z : Operand} {g i : Nat} {ob : Obj} {f : κ → Option Value} {a : κ} {v : Value} [DecidableEq κ] (hg : o.guard = none) (hd : o.dst = none) (ho : o.op = .mapUpdate t x y z) (hx : ev E x = some (.map (some g))) (hy : ev E y = some (enc a)) (hz : ev E z = some v)
    (K : MKey P k enc Ok) (ht : P.underlying t = some (.map k e)) (hk : L[i]? = some (.oth g ob)) (hnew : Mine w0 g) (hm : MapG enc Ok ob f) (ha : Ok a)
    (h : ∀ ob', MapG enc Ok ob' (fun x => if x = a then some v else f x) → TL P N ops Q l E (Pm w0 (L.set i (.oth g ob')))) : TL P N ops Q (o :: l) E (Pm w0 L) := fun ac w hac hw =>
  wpList_plain hg fun K' hK => by
    obtain ⟨ob', w', hrun, hob, hm', hgr⟩ := hm.put K ht (hw.at_ hk).1 ha v
    have hex : (execOp ac.eval o).run P w = .ok .skip w' := by
      unfold execOp; rw [ho]
      simp only [hac.eval hx, hac.eval hy, hac.eval hz, Sem.run_bind, hrun, Result.andThen_ok, Sem.run_pure]
    unfold Oper.wp
    rw [hex]
    show K' (ac.put o.dst undef) _
    rw [hd]
    exact hK _ _ (h ob' hm' _ _ (hac.put0 _) (hw.turnO hk hnew hgr hob))
end
theorem mkey_int {P : Program} {k : TypeId} {q : IntKind} (hk : P.underlying k = some (.int q)) : MKey P k (Value.int q) (fun a => (Lit.int q a).wf = true) :=
  ⟨Maps.int_keyed hk, fun a ha => ⟨_, Maps.keyOf_int_mk hk ha⟩, fun a b h => by cases h; rfl⟩
open Go.RowKit Go.Shelf
def fls (l : List Rs) : List Int := (l.filter usbRs).map fun r => r.flow
def FlM (ob : Obj) (fs : List Int) : Prop := ∃ f : Int → Option Value, MapG (Value.int .i64) (fun a => (Lit.int .i64 a).wf = true) ob f ∧ ∀ a, (Lit.int .i64 a).wf = true → (f a).getD (.bool false) = .bool (decide (a ∈ fs))
theorem FlM.new : FlM (.map #[] 0) [] := ⟨_, mapG_new _ _, fun a _ => rfl⟩
theorem fls_snoc_f {of : List Rs} {j : Nat} {x : Rs} (hx : of[j]? = some x) (h : usbRs x = false) : fls (of.take (j + 1)) = fls (of.take j) := by
  unfold fls
  rw [List.take_add_one, hx, List.filter_append]
  simp [h]
theorem fls_snoc_t {of : List Rs} {j : Nat} {x : Rs} (hx : of[j]? = some x) (h : usbRs x = true) : fls (of.take (j + 1)) = fls (of.take j) ++ [x.flow] := by
  unfold fls
  rw [List.take_add_one, hx, List.filter_append, List.map_append]
  simp [h]
theorem FlM.same {ob : Obj} {a b : List Int} (h : FlM ob a) (hm : ∀ z, z ∈ a ↔ z ∈ b) : FlM ob b := by
  obtain ⟨f, h1, h2⟩ := h
  exact ⟨f, h1, fun z hz => by rw [h2 z hz, decide_eq_decide.2 (hm z)]⟩
theorem FlM.set {ob : Obj} {fs : List Int} {x : Int} {f : Int → Option Value} (h2 : ∀ a, (Lit.int .i64 a).wf = true → (f a).getD (.bool false) = .bool (decide (a ∈ fs))) (hm : MapG (Value.int .i64) (fun a => (Lit.int .i64 a).wf = true) ob (fun z => if z = x then some (.bool true) else f z)) : FlM ob (fs ++ [x]) :=
  ⟨_, hm, fun a ha => by
    by_cases e : a = x
    · simp [e]
    · simp [e, h2 a ha]⟩
def FSA (l : List Rs) (ts : List Trc) (p : Rp) : Prop := p.trc ∈ ts ∧ IsTm l p
def FSB (l : List Rs) (ts : List Trc) (t : Trc) (fs : List Int) (p : Rp) : Prop := FSA l ts p ∨ (p.trc = t ∧ p.flow ∈ fs ∧ IsTm l p)
section
variable {es : List En} {l of y ts : List Rs} {tr : List Trc} {u : Ru} {i j : Nat} {x r0 : Rs} {t : Trc} {out o : List Rp} {P : Rp → Prop}
theorem fb_start (h : MinU P (FSA l (tr.take i)) out) : MinU P (FSB l (tr.take i) t (fls (of.take 0))) out := h.congr fun p _ => by
  unfold FSB
  rw [List.take_zero]
  exact ⟨.inl, fun h => h.elim id fun ⟨_, h1, _⟩ => absurd h1 List.not_mem_nil⟩
theorem fb_skip (h : MinU P (FSB l (tr.take i) t (fls (of.take j))) out) (hx : of[j]? = some x) (hs : x.flow ∈ fls (of.take j) ∨ usbRs x = false) : (∀ z, z ∈ fls (of.take j) ↔ z ∈ fls (of.take (j + 1))) ∧ MinU P (FSB l (tr.take i) t (fls (of.take (j + 1)))) out := by
  have key : ∀ z, z ∈ fls (of.take j) ↔ z ∈ fls (of.take (j + 1)) := fun z => by
    by_cases hu : usbRs x = true
    · rw [fls_snoc_t hx hu, List.mem_append, List.mem_singleton]
      rcases hs with hs | hs
      · exact ⟨.inl, fun h => h.elim id fun h => h ▸ hs⟩
      · rw [hs] at hu; cases hu
    · rw [fls_snoc_f hx (by simpa using hu)]
  refine ⟨key, h.congr fun p _ => ?_⟩
  unfold FSB
  rw [key]
theorem stream_ne (hof : IsOf l t of) (hx : of[j]? = some x) (hu : usbRs x = true) (hy : IsSt l t x.flow y) : x ∈ y := by
  obtain ⟨o, h1, rfl⟩ := hof
  have h2 := List.mem_filter.1 (List.mem_of_getElem? hx)
  exact (hy.mem x).2 ⟨((h1.2 x).1 h2.1).1, by simpa using h2.2, hu, rfl⟩
theorem fb_step (h : MinU (PrP es l u) (FSB l (tr.take i) t (fls (of.take j))) out) (ht : tr[i]? = some t) (htr : IsTrc l tr) (hx : of[j]? = some x) (hu : usbRs x = true) (hn : x.flow ∉ fls (of.take j)) (hy : IsSt l t x.flow y) (h0 : y[0]? = some r0) (hvu : vldRu u = true) (hve : validR es = true) (ho : MinU (PrS es y u) (TmS r0 y) o) : MinU (PrP es l u) (FSB l (tr.take i) t (fls (of.take (j + 1)))) (out ++ o) := by
  have hr0 := (hy.mem r0).1 (List.mem_of_getElem? h0)
  have e1 : trcR r0 = t := hr0.2.1
  have e2 : r0.flow = x.flow := hr0.2.2.2
  have hnt : t ∉ tr.take i := fun hm => by
    obtain ⟨q, hq⟩ := List.getElem?_of_mem hm
    have hq2 : q < i := by have := (List.getElem?_eq_some_iff.1 hq).1; rw [List.length_take] at this; omega
    rw [List.getElem?_take_of_lt hq2] at hq
    obtain ⟨h1, g1⟩ := List.getElem?_eq_some_iff.1 hq
    obtain ⟨h2, g2⟩ := List.getElem?_eq_some_iff.1 ht
    have := (List.pairwise_iff_getElem.1 htr.1) q i h1 h2 hq2
    rw [g1, g2] at this
    exact ltK_irrefl _ this
  have htm : ∀ p, TmS r0 y p ↔ p.trc = t ∧ p.flow = x.flow ∧ IsTm l p := fun p => by
    unfold TmS IsTm
    rw [e1, e2]
    constructor
    · rintro ⟨h1, h2, s, h3, h4⟩
      rw [h1, h2]
      exact ⟨rfl, rfl, y, hy, s, h3, h4⟩
    · rintro ⟨h1, h2, y', h3, s, h4, h5⟩
      rw [h1, h2] at h3
      rw [hy.eq h3]
      exact ⟨h1, h2, s, h4, h5⟩
  have ho2 : MinU (PrP es l u) (fun p => p.trc = t ∧ p.flow = x.flow ∧ IsTm l p) o := (ho.congrP (P' := PrP es l u) fun p hp => by
    obtain ⟨h1, h2, s, h3, h4⟩ := hp
    exact prS_iff hvu hve (by rw [h1, h2, e1, e2]; exact hy) h3 h4).congr fun p _ => htm p
  refine (h.app ho2 ?_).congr fun p _ => ?_
  · rintro p q h1 ⟨h2, h3, _⟩ h4
    have h5 := congrArg Rp.trc h4
    have h6 := congrArg Rp.flow h4
    have h7 : p.trc = q.trc := h5
    have h8 : p.flow = q.flow := h6
    rcases h1 with ⟨h1, _⟩ | ⟨_, h1, _⟩
    · rw [h7, h2] at h1; exact hnt h1
    · rw [h8, h3] at h1; exact hn h1
  · unfold FSB
    rw [fls_snoc_t hx hu]
    constructor
    · rintro ((h1 | ⟨h1, h2, h3⟩) | ⟨h1, h2, h3⟩)
      · exact .inl h1
      · exact .inr ⟨h1, List.mem_append_left _ h2, h3⟩
      · exact .inr ⟨h1, List.mem_append_right _ (List.mem_singleton.2 h2), h3⟩
    · rintro (h1 | ⟨h1, h2, h3⟩)
      · exact .inl (.inl h1)
      · rcases List.mem_append.1 h2 with h4 | h4
        · exact .inl (.inr ⟨h1, h4, h3⟩)
        · exact .inr ⟨h1, List.mem_singleton.1 h4, h3⟩
theorem fb_end (h : MinU P (FSB l (tr.take i) t (fls (of.take j))) out) (hj : of.length ≤ j) (hof : IsOf l t of) (ht : tr[i]? = some t) : MinU P (FSA l (tr.take (i + 1))) out := h.congr fun p _ => by
  unfold FSB FSA
  rw [List.take_of_length_le hj, List.take_add_one, ht]
  constructor
  · rintro (⟨h1, h2⟩ | ⟨h1, _, h3⟩)
    · exact ⟨List.mem_append_left _ h1, h2⟩
    · exact ⟨List.mem_append_right _ (by rw [h1]; exact List.mem_singleton.2 rfl), h3⟩
  · rintro ⟨h1, h2⟩
    rcases List.mem_append.1 h1 with h3 | h3
    · exact .inl ⟨h3, h2⟩
    · have h4 : p.trc = t := by simpa using h3
      refine .inr ⟨h4, ?_, h2⟩
      obtain ⟨y, hy, s, hs, _⟩ := h2
      have h5 := (hy.mem s).1 hs
      obtain ⟨o, h6, rfl⟩ := hof
      have hv : vldRs s = true := by have := h5.2.2.1; unfold usbRs at this; simp only [Bool.and_eq_true] at this; exact this.2
      exact List.mem_map.2 ⟨s, List.mem_filter.2 ⟨List.mem_filter.2 ⟨(h6.2 s).2 ⟨h5.1, hv⟩, by rw [← h4]; exact decide_eq_true h5.2.1⟩, h5.2.2.1⟩, h5.2.2.2⟩
theorem fa_end (h : MinU (PrP es l u) (FSA l (tr.take i)) out) (hi : tr.length ≤ i) (htr : IsTrc l tr) (hs : Sorted cmpRp out o) : IsFnd es l u o := (h.congr (S' := IsTm l) fun p _ => by
  unfold FSA
  rw [List.take_of_length_le hi, htr.2]
  refine ⟨fun h => h.2, fun h => ⟨?_, h⟩⟩
  obtain ⟨y, hy, s, hs, _⟩ := h
  have h5 := (hy.mem s).1 hs
  have hv : vldRs s = true := by have := h5.2.2.1; unfold usbRs at this; simp only [Bool.and_eq_true] at this; exact this.2
  exact ⟨s, h5.1, hv, h5.2.1⟩).sorted hs
theorem fa_zero : MinU P (FSA l (tr.take 0)) [] := MinU.nil fun p h => by
  have := h.1; rw [List.take_zero] at this; cases this
theorem trc_le {o : List Rs} (htr : IsTrc l tr) (ho : IsOrd l o) : tr.length ≤ o.length := by
  have hn : tr.Nodup := htr.1.imp fun {a b} hab e => by subst e; exact ltK_irrefl _ hab
  have := nodup_len (F := o.map trcR) hn fun t ht => by
    obtain ⟨r, h1, h2, h3⟩ := (htr.2 t).1 ht
    exact List.mem_map.2 ⟨r, (ho.2 r).2 ⟨h1, h2⟩, h3⟩
  rwa [List.length_map] at this
theorem of_le {o : List Rs} (hof : IsOf l t of) (ho : IsOrd l o) : of.length ≤ o.length := by
  obtain ⟨o', h1, rfl⟩ := hof
  rw [ho.eq h1]
  exact List.length_filter_le _ _
end
theorem wf_flow {r : Rs} (h : vldRs r = true) : (Lit.int .i64 r.flow).wf = true := by
  have := vld_in h
  unfold Rs.inRange at this
  simp [Lit.wf, IntKind.min, IntKind.max, IntKind.signed, IntKind.bits]; omega
set_option maxRecDepth 20000
theorem aclbs106_0_0  (w : World) : (Instr.buildSlice 106 0 #[]).run Tryz.prog w = .ok (.slice (some ⟨w.heap.size, 0, none⟩) 0 0) (w.alloc (.cells [].toArray 3)) := by kernel_rfl
theorem cloneI_none (c0 : Nat) (w : World) :
  Calls Tryz.prog 143 #[.slice none 0 c0] w fun e w' => ∃ x : {p : Option Addr × Nat // (([] : List Int)).length ≤ p.2 ∧ p.2 ≤ maxLen}, e = .returned (.slice x.1.1 (([] : List Int)).length x.1.2) ∧ Pm w [.row (.slice x.1.1 (([] : List Int)).length x.1.2) 3 1 (([] : List Int)).length (flat (ic .i64) (([] : List Int)))] w' := by
 refine begin_ (vs := [.slice none 0 c0]) Tryz.func143 rfl rfl rfl ?_ (Pm.start w)
 refine zSG (TL.as_ ?_)
 refine zET (zS (zSG (TL.mv ?_)))
 refine TL.val rfl rfl rfl (gives_bin2 (v := .bool true) rfl rfl rfl (fun w => slice_nil Tryz.underlying106 w)) ?_
 refine zET (zc (zSG (TL.as_ ?_)))
 refine zET (zr (zR ?_))
 exact ret_tmp Tryz.results143 rfl (fun w1 hw => ⟨⟨(none, 0), Nat.le_refl _, Nat.zero_le _⟩, rfl, (hw.pick [] (by decide) rfl).nilrow _ _⟩)
theorem cloneI_some (a : Addr) (c0 : Nat) (l : List Int) (w : World) (hr : Reads w w.heap.size 1 (some a) l.length (flat (ic .i64) l)) (hl1 : l.length ≤ 1000000) :
  Calls Tryz.prog 143 #[.slice (some a) l.length c0] w fun e w' => ∃ x : {p : Option Addr × Nat // (l).length ≤ p.2 ∧ p.2 ≤ maxLen}, e = .returned (.slice x.1.1 (l).length x.1.2) ∧ Pm w [.row (.slice x.1.1 (l).length x.1.2) 3 1 (l).length (flat (ic .i64) (l))] w' := by
 refine begin_ (vs := [.slice (some a) l.length c0]) Tryz.func143 rfl rfl rfl ?_ (Pm.start w)
 refine zSG (TL.as_ ?_)
 refine zET (zS (zSG (TL.mv ?_)))
 refine TL.val rfl rfl rfl (gives_bin2 (v := .bool false) rfl rfl rfl (fun w => slice_nil Tryz.underlying106 w)) ?_
 refine zET (zd (zk (zT (zSG ?_))))
 refine TL.prowS (e := 3) (size := 1) (cs := flat (ic .i64) []) rfl rfl rfl rfl rfl (fun w => aclbs106_0_0  w) (by decide) rfl (fun g5 => ?_)
 refine TL.mv ?_
 refine TL.appendT (k := 0) rfl rfl rfl rfl Tryz.underlying106 adtel106 rfl rfl rfl (fun w1 hw => ⟨_, (hr.up hw.bel)⟩) (flat_one (ic_cel .i64) _) (by show _ * 8 ≤ _; omega) (l.length) (by simp) (flat (ic .i64) l) (rfl) (fun A7 c7 hA71 hA72 => ?_)
 refine TL.as_ ?_
 refine zET (zr ?_)
 exact ret_tmp Tryz.results143 rfl (fun w1 hw => ⟨⟨(A7, c7), hA71, hA72⟩, rfl, hw.pick [0] (by decide) rfl⟩)
theorem cloneI_any (A0 : Option Addr) (c0 : Nat) (l : List Int) (w : World) (hr : Reads w w.heap.size 1 A0 l.length (flat (ic .i64) l)) (hl1 : l.length ≤ 1000000) :
  Calls Tryz.prog 143 #[.slice A0 l.length c0] w fun e w' => ∃ x : {p : Option Addr × Nat // (l).length ≤ p.2 ∧ p.2 ≤ maxLen}, e = .returned (.slice x.1.1 (l).length x.1.2) ∧ Pm w [.row (.slice x.1.1 (l).length x.1.2) 3 1 (l).length (flat (ic .i64) (l))] w' := by
 cases A0 with
 | some a => exact cloneI_some a c0 l w hr hl1
 | none =>
  have hl : l.length = 0 := by
   rcases Nat.eq_zero_or_pos l.length with h | h
   ·exact h
   obtain ⟨ad, h1, _⟩ := hr.2 h; cases h1
  obtain rfl : l = [] := List.eq_nil_of_length_eq_zero hl
  exact cloneI_none c0 w
set_option maxRecDepth 20000
section
variable {P : Program} {N : Fr} {Q : Exit → Act → World → Prop} {E : Env} {w0 : Base} {L : List Pc} {ops : Array Oper} {l : List Oper} {o : Oper}
theorem TL.clearI {ik : IntKind} {t e : TypeId} {s : Operand} {g q n cc m cc2 kk : Nat} {z : Int} {xs : List Int} (hg : o.guard = none) (hd : o.dst = none) (ho : o.op = .call { callee := .builtin .clear, args := #[s], argTypes := #[t] }) (hs : ev E s = some (.slice (some ⟨g, q * 1, none⟩) m cc2))
  (ht : P.underlying t = some (.slice e)) (hz : ∀ w : World, (zeroValue e).run P w = .ok (.int ik z) w) (hm : 0 < m) (hq : q + m = xs.length)
  (hk : L[kk]? = some (.row (.slice (some ⟨g, 0, none⟩) n cc) e 1 n (flat (ic ik) xs)))
  (h : TL P N ops Q l E (Pm w0 (L.set kk (.row (.slice (some ⟨g, 0, none⟩) n cc) e 1 n (flat (ic ik) (xs.take q ++ List.replicate m z)))))) : TL P N ops Q (o :: l) E (Pm w0 L) := by
 have K := ic_cel ik
 have e1 : (flat (ic ik) (List.replicate m z)).length = m * 1 := by rw [flat_len K, List.length_replicate]
 have e2 : (flat (ic ik) xs).length = q * 1 + m * 1 := by rw [flat_len K, ← hq, Nat.add_mul]
 refine TL.rowclear (zs := flat (ic ik) (List.replicate m z)) hg hd ho hs ht hz (by rw [show (Value.int ik z).cells = #[.int ik z] from rfl, zeroCells_one, flat_ic, List.map_replicate]) (flat_one K _) hm hk (by rw [e1, e2]; omega) (xs' := flat (ic ik) (xs.take q ++ List.replicate m z)) ?_ h
 rw [e1, List.drop_of_length_le (by rw [e2]; omega), List.append_nil, flat_app, flat_take K]
end
theorem pcizv3 (w : World) : (zeroValue 3).run Tryz.prog w = .ok (.int .i64 0) w := rfl
theorem compactInt_g (g n c : Nat) (xs : List Int) (w : World) (h : RwG 3 1 w g n c (flat (ic .i64) xs)) (hl : xs.length = n) (hn : n ≤ 1000000) :
  Calls Tryz.prog 139 #[.slice (some ⟨g, 0, none⟩) n c] w fun en w' => en = .returned (.slice (some ⟨g, 0, none⟩) (cptG xs).length c) ∧ RwG 3 1 w' g (cptG xs).length c (flat (ic .i64) (cptG xs)) ∧ w.grownBy w' (some g) := by
 have hcap := h.obj.2.1
 have hmax := h.obj.2.2
 refine begin_ (vs := [.slice (some ⟨g, 0, none⟩) n c]) (I := Pm ⟨wbut w g, g⟩ (.row (.slice (some ⟨g, 0, none⟩) n c) 3 1 n (flat (ic .i64) xs) :: oths g w)) Tryz.func139 rfl rfl rfl ?_ (Pm.rowStartG h)
 refine zSG (TL.as_ ?_)
 refine zET (zS (zSG (TL.mv ?_)))
 refine TL.v (gN Tryz.underlying106) ?_
 refine TL.sp bin_lss (fun q8 => ?_) (fun q8 => ?_)
 ·have hE : cptG xs = xs := cptG_short (by omega)
  refine zET (zc (zSG (TL.rn 2 rfl (zET (zr (zR ?_))))))
  exact ret_tmp Tryz.results139 rfl (fun w1 hw => by rw [hE, hl]; exact ⟨rfl, pm_rowAtG hw (k := 0) rfl, hw.mapEnd (fun q hq => by simp [hq])⟩)
 refine zET (zd (zk (zT (zS (zSG (TL.as_ ?_))))))
 refine zET (zB ?_)
 refine TC.loop_ (α := {k : Nat // 1 ≤ k ∧ k ≤ n ∧ cptG (xs.take k) = xs.take k}) (fun y => [(0, .slice (some ⟨g, 0, none⟩) n c), (3, .int .i64 ((y.1 : Nat) : Int))]) (fun y => Pm ⟨wbut w g, g⟩ ([.row (.slice (some ⟨g, 0, none⟩) n c) 3 1 n (flat (ic .i64) xs)] ++ oths g w)) (fun y => n - y.1) (⟨1, Nat.le_refl _, by omega, cptG_take1 xs⟩) ⟨rfl, rfl, trivial⟩ (fun w1 hw => hw) ?_
 rintro ⟨k0, hk1, hk2, hK⟩
 try dsimp only
 refine zS (zSG (TL.rn 2 rfl (TL.v (gN Tryz.underlying106) ?_)))
 refine TL.sp bin_lss (fun q13 => ?_) (fun q13 => ?_)
 ·refine zET (zc (zk (zT (zS (zB (zS (TC.quietQ (by kernel_rfl) (by kernel_rfl) (fun w hw => hw.drawn _) ?_)))))))
  refine TQ.rn 2 rfl ?_
  have hi18 : k0 < xs.length := by omega
  obtain ⟨x18, hx18⟩ := ex_at hi18
  refine TQ.val rfl rfl rfl (gA (i := k0) Tryz.underlying106 pcmsz3 rfl rfl rfl rfl rfl (by omega)) ?_
  refine TQ.val rfl rfl rfl (gives_load (v := .int .i64 x18) rfl rfl pcmag3 (fun w1 hw => flat_row (ic_cel .i64) hw (q := 0) rfl hx18 0 _ rfl)) ?_
  refine TQ.rn 2 rfl ?_
  refine TQ.val rfl rfl rfl (gives_bin rfl rfl rfl (fun w => bin_sub_ (r := ((k0 - 1 : Nat) : Int)) (by simp only [IntKind.wrap_i64]; omega) w)) ?_
  have hi23 : k0 - 1 < xs.length := by omega
  obtain ⟨x23, hx23⟩ := ex_at hi23
  refine TQ.val rfl rfl rfl (gA (i := (k0 - 1)) Tryz.underlying106 pcmsz3 rfl rfl rfl rfl rfl (by omega)) ?_
  refine TQ.val rfl rfl rfl (gives_load (v := .int .i64 x23) rfl rfl pcmag3 (fun w1 hw => flat_row (ic_cel .i64) hw (q := 0) rfl hx23 0 _ rfl)) ?_
  refine TQ.sp bin_eql (fun q25 => ?_) (fun q25 => ?_)
  ·have hst := cptG_step hx18 hx23 hk1
   have hK2 : cptG (xs.take (k0 + 1)) = xs.take k0 := by rw [hst, if_pos q25.symm]; exact hK
   refine TQ.fin ?_
   refine zT (zc (zSG (TL.rn 2 rfl ?_)))
   refine TL.val rfl rfl rfl (gives_tailF (q := k0) rfl rfl rfl rfl Tryz.underlying106 pcmsz3 (by omega) (by omega)) ?_
   refine TL.as_ ?_
   refine zET (zS (zSG (TL.as_ ?_)))
   refine zET (zB ?_)
   refine TC.loop_ (α := {y : Nat × Nat × List Int // (1 ≤ y.2.1 ∧ y.2.1 ≤ n - k0 ∧ k0 ≤ y.1 ∧ y.1 ≤ k0 + y.2.1 - 1) ∧ y.2.2.length = n ∧ (∀ p, k0 + y.2.1 - 1 ≤ p → y.2.2[p]? = xs[p]?) ∧ y.2.2.take y.1 = cptG (xs.take (k0 + y.2.1))}) (fun y => [(0, .slice (some ⟨g, 0, none⟩) n c), (3, .int .i64 ((y.1.1 : Nat) : Int)), (4, .slice (some ⟨g, k0 * 1, none⟩) (n - k0) (c - k0)), (5, .int .i64 ((y.1.2.1 : Nat) : Int))]) (fun y => Pm ⟨wbut w g, g⟩ ([.row (.slice (some ⟨g, 0, none⟩) n c) 3 1 n (flat (ic .i64) y.1.2.2)] ++ oths g w)) (fun y => n - y.1.2.1) (⟨(k0, 1, xs), by dsimp only; omega, hl, fun p _ => rfl, hK2.symm⟩) ⟨rfl, rfl, rfl, rfl, trivial⟩ (fun w1 hw => hw) ?_
   rintro ⟨⟨k, j, ys⟩, ⟨hj1, hj2, hj3, hj4⟩, hly, hI, hT⟩
   dsimp only at hj1 hj2 hj3 hj4 hly hI hT ⊢
   refine zS (zSG (TL.rn 2 rfl (TL.v (gN Tryz.underlying106) ?_)))
   refine TL.sp bin_lss (fun q32 => ?_) (fun q32 => ?_)
   ·refine zET (zc (zk (zT (zS (zB (zS (TC.quietQ (by kernel_rfl) (by kernel_rfl) (fun w hw => hw.drawn _) ?_)))))))
    refine TQ.rn 2 rfl ?_
    have hi37 : (k0 + j) < ys.length := by omega
    obtain ⟨x37, hx37⟩ := ex_at hi37
    refine TQ.val rfl rfl rfl (gives_at (v := .pointer (some ⟨g, 0 + (k0 + j) * 1, none⟩)) rfl rfl rfl (fun w => at_elT Tryz.underlying106 pcmsz3 g k0 _ _ j (by omega) rfl w)) ?_
    refine TQ.val rfl rfl rfl (gives_load (v := .int .i64 x37) rfl rfl pcmag3 (fun w1 hw => flat_row (ic_cel .i64) hw (q := 0) rfl hx37 0 _ rfl)) ?_
    refine TQ.rn 2 rfl ?_
    refine TQ.val rfl rfl rfl (gives_bin rfl rfl rfl (fun w => bin_sub_ (r := ((j - 1 : Nat) : Int)) (by simp only [IntKind.wrap_i64]; omega) w)) ?_
    have hi42 : (k0 + (j - 1)) < ys.length := by omega
    obtain ⟨x42, hx42⟩ := ex_at hi42
    refine TQ.val rfl rfl rfl (gives_at (v := .pointer (some ⟨g, 0 + (k0 + (j - 1)) * 1, none⟩)) rfl rfl rfl (fun w => at_elT Tryz.underlying106 pcmsz3 g k0 _ _ (j - 1) (by omega) rfl w)) ?_
    refine TQ.val rfl rfl rfl (gives_load (v := .int .i64 x42) rfl rfl pcmag3 (fun w1 hw => flat_row (ic_cel .i64) hw (q := 0) rfl hx42 0 _ rfl)) ?_
    refine TQ.sp bin_neq (fun q44 => ?_) (fun q44 => ?_)
    ·have hst := cptG_step (by rw [← hI _ (by omega)]; exact hx37) (by rw [← hI _ (by omega), show k0 + j - 1 = k0 + (j - 1) by omega]; exact hx42) (by omega : 1 ≤ k0 + j)
     have hc1 : ∀ p, k0 + (j + 1) - 1 ≤ p → (ys.set k x37)[p]? = xs[p]? := fun p hp => by rw [List.getElem?_set_ne (by omega)]; exact hI p (by omega)
     have hc2 : (ys.set k x37).take (k + 1) = cptG (xs.take (k0 + (j + 1))) := by
      rw [List.take_add_one, List.take_set_of_le (Nat.le_refl _), List.getElem?_set_self (by omega), hT, show k0 + (j + 1) = k0 + j + 1 from rfl, hst, if_neg (fun hh => q44 hh.symm)]; rfl
     refine TQ.fin ?_
     refine zT (zc (zSG (TL.rn 4 rfl ?_)))
     refine TL.val rfl rfl rfl (gives_at (v := .pointer (some ⟨g, 0 + (k0 + j) * 1, none⟩)) rfl rfl rfl (fun w => at_elT Tryz.underlying106 pcmsz3 g k0 _ _ j (by omega) rfl w)) ?_
     refine TL.val rfl rfl rfl (gives_load (v := .int .i64 x37) rfl rfl pcmag3 (fun w1 hw => flat_row (ic_cel .i64) hw (q := 0) rfl hx37 0 _ rfl)) ?_
     have hi51 : k < ys.length := by omega
     obtain ⟨x51, hx51⟩ := ex_at hi51
     refine TL.val rfl rfl rfl (gA (i := k) Tryz.underlying106 pcmsz3 rfl rfl rfl rfl rfl (by omega)) ?_
     refine TL.rowset (k := 0) (vs := [.int .i64 x37]) (xs' := flat (ic .i64) (ys.set k x37)) rfl rfl rfl rfl rfl rfl rfl pcmsz3 aeaone_i64 (by rw [flat_len (ic_cel .i64)]; show 0 + k * 1 + 1 ≤ _; omega) (flat_put (ic_cel .i64) (q := 0) (y := x37) hx51 (by show 0 + 1 ≤ 1; decide) rfl) ?_
     try dsimp only [List.set_cons_zero, List.set_cons_succ]
     refine zET (zG (TL.mv ?_))
     refine TL.v (gD ((k + 1 : Nat) : Int)) ?_
     refine TL.as_ ?_
     refine zE (zN (zT (zG (TL.mv ?_))))
     refine TL.v (gD ((j + 1 : Nat) : Int)) ?_
     refine TL.as_ ?_
     refine zE ?_
     exact TX.round (⟨(k + 1, j + 1, ys.set k x37), by dsimp only; omega, by rw [List.length_set]; exact hly, hc1, hc2⟩) (by show n - (j + 1) < n - j; omega) ⟨rfl, rfl, rfl, rfl, trivial⟩ (fun w1 hw => hw)
    have hst := cptG_step (by rw [← hI _ (by omega)]; exact hx37) (by rw [← hI _ (by omega), show k0 + j - 1 = k0 + (j - 1) by omega]; exact hx42) (by omega : 1 ≤ k0 + j)
    have hd1 : ∀ p, k0 + (j + 1) - 1 ≤ p → ys[p]? = xs[p]? := fun p hp => hI p (by omega)
    have hd2 : ys.take k = cptG (xs.take (k0 + (j + 1))) := by rw [hT, show k0 + (j + 1) = k0 + j + 1 from rfl, hst, if_pos (Decidable.not_not.1 q44).symm]
    refine TQ.fin ?_
    refine zT (zd (zk (zN (zT (zG (TL.mv ?_))))))
    refine TL.v (gD ((j + 1 : Nat) : Int)) ?_
    refine TL.as_ ?_
    refine zE ?_
    exact TX.round (⟨(k, j + 1, ys), by dsimp only; omega, hly, hd1, hd2⟩) (by show n - (j + 1) < n - j; omega) ⟨rfl, rfl, rfl, rfl, trivial⟩ (fun w1 hw => hw)
   obtain rfl : j = n - k0 := by omega
   have hC : ys.take k = cptG xs := by rw [hT, List.take_of_length_le (by omega)]
   refine zET (zd (zx (zX (zX (zM (zT (zSG (TL.rn 2 rfl ?_))))))))
   refine TL.val rfl rfl rfl (gives_tailF (q := k) rfl rfl rfl rfl Tryz.underlying106 pcmsz3 (by omega) (by omega)) ?_
   refine TL.clearI (kk := 0) (q := k) (z := 0) rfl rfl rfl rfl Tryz.underlying106 pcizv3 (by omega) (by omega) rfl ?_
   try dsimp only [List.set_cons_zero]
   refine zET (zSG (TL.rn 2 rfl ?_))
   refine TL.headF (ic_cel .i64) (kk := 0) (hi := k) rfl rfl rfl rfl rfl rfl Tryz.underlying106 pcmsz3 rfl (by omega) (by omega) ?_
   try dsimp only [List.set_cons_zero]
   refine TL.as_ ?_
   refine zET (zr (zRR (zR (zRR ?_))))
   have hfin : (ys.take k ++ List.replicate (n - k) 0).take k = cptG xs := by rw [List.take_left' (by rw [List.length_take]; omega)]; exact hC
   have hkl : (cptG xs).length = k := by rw [← hC, List.length_take]; omega
   rw [hfin]
   exact ret_tmp Tryz.results139 rfl (fun w1 hw => ⟨by rw [hkl], by rw [hkl]; exact (pm_rowAtG hw (k := 0) rfl), hw.mapEnd (fun q hq => by simp [hq])⟩)
  have hst := cptG_step hx18 hx23 hk1
  have hK2 : cptG (xs.take (k0 + 1)) = xs.take (k0 + 1) := by rw [hst, if_neg (fun hh => q25 hh.symm), hK, List.take_add_one, hx18]; rfl
  refine TQ.fin ?_
  refine zT (zd (zk (zN (zT (zG (TL.mv ?_))))))
  refine TL.v (gD ((k0 + 1 : Nat) : Int)) ?_
  refine TL.as_ ?_
  refine zE ?_
  exact TX.round (⟨k0 + 1, by omega, by omega, hK2⟩) (by show n - (k0 + 1) < n - k0; omega) ⟨rfl, rfl, trivial⟩ (fun w1 hw => hw)
 obtain rfl : k0 = n := by omega
 have hE : cptG xs = xs := by rw [List.take_of_length_le (by omega)] at hK; exact hK
 refine zET (zd (zx (zX (zX (zM (zT (zSG (TL.rn 2 rfl (zET (zr ?_))))))))))
 exact ret_tmp Tryz.results139 rfl (fun w1 hw => by rw [hE, hl]; exact ⟨rfl, pm_rowAtG hw (k := 0) rfl, hw.mapEnd (fun q hq => by simp [hq])⟩)
theorem compactInt_nil (w : World) : Calls Tryz.prog 139 #[.slice none 0 0] w fun en w' => en = .returned (.slice none 0 0) ∧ Below w.heap.size w w' := by
 refine begin_ (vs := [.slice none 0 0]) Tryz.func139 rfl rfl rfl ?_ (Pm.start w)
 refine zSG (TL.as_ ?_)
 refine zET (zS (zSG (TL.mv ?_)))
 refine TL.v (gN Tryz.underlying106) ?_
 refine TL.val rfl rfl rfl (gives_bin rfl rfl rfl (fun w => bin_lss_t (by decide) w)) ?_
 refine zET (zc (zSG (TL.rn 2 rfl (zET (zr (zR ?_))))))
 exact ret_tmp Tryz.results139 rfl (fun w1 hw => ⟨rfl, hw.bel⟩)
theorem compactInt {b n cap : Nat} {A : Option Addr} {l : List Int} {w : World} (hr : w.ownsRow b 3 1 (.slice A n cap) n (flat (ic .i64) l)) (hl : l.length = n) (hn : n ≤ 1000000) :
  Calls Tryz.prog 139 #[.slice A n cap] w fun en w' => en = .returned (.slice A (cptG l).length cap) ∧ w'.ownsRow b 3 1 (.slice A (cptG l).length cap) (cptG l).length (flat (ic .i64) (cptG l)) ∧ w.grownBy w' (Value.ownBlock (.slice A n cap)) := by
 rcases id hr.2 with ⟨hv, h0⟩ | ⟨q, cap', cur, hv, hb, hq, h1, h2, h3, h4⟩
 ·cases hv
  obtain rfl : l = [] := List.eq_nil_of_length_eq_zero (by omega)
  refine (compactInt_nil w).mono fun en w' ⟨h5, h6⟩ => ⟨h5, ⟨rfl, .inl ⟨rfl, rfl⟩⟩, ?_⟩
  exact ⟨h6.os, h6.tape, h6.output, h6.size, fun k hk _ => h6.block k hk⟩
 cases hv
 refine (compactInt_g q n cap l w ⟨hr.1, .inr ⟨q, cap, cur, rfl, Nat.le_refl _, hq, h1, h2, h3, h4⟩⟩ hl hn).mono fun en w' ⟨h5, h6, h7⟩ => ⟨h5, ⟨h6.1, ?_⟩, h7⟩
 rcases h6.2 with ⟨e1, _⟩ | ⟨q', c2, cur2, e1, e2, e3⟩
 ·cases e1
 cases e1
 exact .inr ⟨q, cap, cur2, rfl, hb, e3⟩
end Go.Proofs.YtijmpjfafpodhaaGreat
