/-
  Texts of the proof, joined: PtTrc, PtOf, AnDel, MnDel, SymMapV, MnKey, AnBl, AnSt, AnBh, AnBr, MnRes, MnCon, SymRg2, SymYld, SymRg3, SymRdA, MnBk, BdAddr, BdReg, AnDt, AnD2, CgLaw, AnCg, AnC2, AnPr, DcDraw.
-/
import Derived.Test.YtijmpjfafpodhaaGreatMinimalContradictsPk2
import Derived.Test.YtijmpjfafpodhaaGreatMinimalContradictsPk1
import Derived.DeepKeys5
import Derived.OrdersIn
import Derived.RangeFuncSeq
import Derived.Sort.OwnSortedInts
set_option linter.unusedVariables false
set_option linter.unusedSimpArgs false
namespace Go.Proofs.YtijmpjfafpodhaaGreat
set_option maxHeartbeats 1000000
open Go.RowKit
set_option maxRecDepth 20000
theorem mapf_snoc_t {α β : Type} {p : α → Bool} {f : α → β} {l : List α} {out : List β} {i : Nat} {x : α} (hx : l[i]? = some x) (h : p x = true) (ho : ((l.take i).filter p).map f = out) : ((l.take (i + 1)).filter p).map f = out ++ [f x] := by
 rw [List.take_add_one, hx, List.filter_append, List.map_append, ho]
 simp [h]
theorem mapf_snoc_f {α β : Type} {p : α → Bool} {f : α → β} {l : List α} {out : List β} {i : Nat} {x : α} (hx : l[i]? = some x) (h : p x = false) (ho : ((l.take i).filter p).map f = out) : ((l.take (i + 1)).filter p).map f = out := by
 rw [List.take_add_one, hx, List.filter_append, List.map_append, ho]
 simp [h]
def trk (t : Trc) : List Int := [t.v, t.dst, t.proto]
theorem trk_len (t : Trc) : (trk t).length = 3 := rfl
theorem trk_inj {x y : Trc} (h : trk x = trk y) : x = y := by
 obtain ⟨a, b, c⟩ := x
 obtain ⟨a', b', c'⟩ := y
 simp only [trk, List.cons.injEq, and_true] at h
 obtain ⟨h1, h2, h3⟩ := h
 subst h1 h2 h3
 rfl
def IsTrc (l : List Rs) (o : List Trc) : Prop := AscK trk o ∧ ∀ t, t ∈ o ↔ ∃ r ∈ l, vldRs r = true ∧ trcR r = t
theorem IsTrc.eq {l : List Rs} {o o' : List Trc} (h : IsTrc l o) (h' : IsTrc l o') : o = o' := ascK_eq trk_len h.1 h'.1 fun x => by rw [h.2, h'.2]
theorem isTrc_of {l : List Rs} {o s : List Trc} (ho : (l.filter vldRs).map trcR = o) (hs : Sorted cmpT o s) : IsTrc l (cptG s) := by
 refine ⟨cptG_asc trk_len s hs.2 fun x hx y hy h => trk_inj h, fun t => ?_⟩
 rw [mem_cptG, hs.1.mem_iff, ← ho, List.mem_map]
 constructor
 ·rintro ⟨r, hr, e⟩
  have := List.mem_filter.1 hr
  exact ⟨r, this.1, this.2, e⟩
 rintro ⟨r, h1, h2, e⟩
 exact ⟨r, List.mem_filter.2 ⟨h1, h2⟩, e⟩
def pairsT (a b : Trc) : List (Int × Int) := [(a.v, b.v), (IntKind.i64.wrap a.dst, IntKind.i64.wrap b.dst), (a.proto, b.proto)]
def rcmpT (a b : Trc) : Int := orP (pairsT a b)
theorem rcmpT_eq {a b : Trc} (h1 : 0 ≤ a.dst) (h2 : a.dst ≤ 4294967295) (h3 : 0 ≤ b.dst) (h4 : b.dst ≤ 4294967295) : rcmpT a b = lexI (trk a) (trk b) := by
 have w1 : ∀ z : Int, 0 ≤ z → z ≤ 4294967295 → IntKind.i64.wrap z = z := fun z h0 h1 => by simp only [IntKind.wrap_i64]; omega
 rw [rcmpT, pairsT, w1 _ h1 h2, w1 _ h3 h4]
 rfl
theorem IsTrc.nil : IsTrc [] [] := ⟨List.Pairwise.nil, fun x => by simp⟩
section
variable {l : List Rs} {o : List Trc} {i q : Nat} {x : Rs}
theorem IsTrc.skip (h : IsTrc (l.take i) o) (hx : l[i]? = some x) (hv : vldRs x = false) : IsTrc (l.take (i + 1)) o := ⟨h.1, fun t => by
 rw [h.2]
 constructor
 ·rintro ⟨r, h1, h2⟩
  exact ⟨r, (mem_take_snoc hx).2 (.inl h1), h2⟩
 rintro ⟨r, h1, h2, h3⟩
 rcases (mem_take_snoc hx).1 h1 with h4 | h4
 ·exact ⟨r, h4, h2, h3⟩
 rw [h4, hv] at h2; cases h2⟩
theorem IsTrc.dup (h : IsTrc (l.take i) o) (hx : l[i]? = some x) (hv : vldRs x = true) (hm : trcR x ∈ o) : IsTrc (l.take (i + 1)) o := ⟨h.1, fun t => by
 constructor
 ·intro ht
  obtain ⟨r, h1, h2⟩ := (h.2 t).1 ht
  exact ⟨r, (mem_take_snoc hx).2 (.inl h1), h2⟩
 rintro ⟨r, h1, h2, h3⟩
 rcases (mem_take_snoc hx).1 h1 with h4 | h4
 ·exact (h.2 t).2 ⟨r, h4, h2, h3⟩
 rw [← h3, h4]; exact hm⟩
theorem IsTrc.put (h : IsTrc (l.take i) o) (hx : l[i]? = some x) (hv : vldRs x = true) (h1 : ∀ y ∈ o.take q, lexI (trk y) (trk (trcR x)) < 0) (h2 : ∀ y ∈ o.drop q, lexI (trk (trcR x)) (trk y) < 0) : IsTrc (l.take (i + 1)) (o.take q ++ trcR x :: o.drop q) := by
 refine ⟨ascK_put trk_len h.1 h1 h2, fun t => ?_⟩
 rw [mem_put, h.2]
 constructor
 ·rintro (⟨r, h3, h4⟩ | hh)
  ·exact ⟨r, (mem_take_snoc hx).2 (.inl h3), h4⟩
  exact ⟨x, (mem_take_snoc hx).2 (.inr rfl), hv, hh.symm⟩
 rintro ⟨r, h3, h4, h5⟩
 rcases (mem_take_snoc hx).1 h3 with h6 | h6
 ·exact .inl ⟨r, h6, h4, h5⟩
 rw [h6] at h5; exact .inr h5.symm
theorem IsTrc.rng (h : IsTrc (l.take i) o) (hok : ∀ r ∈ l, r.Ok) {y : Trc} (hy : y ∈ o) : 0 ≤ y.dst ∧ y.dst ≤ 4294967295 := by
 obtain ⟨r, h1, _, h3⟩ := (h.2 y).1 hy
 have := hok r (List.mem_of_mem_take h1)
 rw [← h3]
 exact ⟨this.1, this.2.1⟩
theorem IsTrc.cmp (h : IsTrc (l.take i) o) (hx : l[i]? = some x) (hok : ∀ r ∈ l, r.Ok) {y : Trc} (hy : y ∈ o) : rcmpT y (trcR x) = lexI (trk y) (trk (trcR x)) := by
 have h1 := h.rng hok hy
 have h2 := hok x (List.mem_of_getElem? hx)
 exact rcmpT_eq h1.1 h1.2 h2.1 h2.2.1
theorem IsTrc.lt (h : IsTrc (l.take i) o) (hx : l[i]? = some x) (hok : ∀ r ∈ l, r.Ok) {y : Trc} (hy : y ∈ o) (hc : rcmpT y (trcR x) < 0) : lexI (trk y) (trk (trcR x)) < 0 := by rw [← h.cmp hx hok hy]; exact hc
end
theorem ptrbs128_1_44646 (a0_0 : Int) (a0_1 : Int) (a0_2 : Int) (w : World) : (Instr.buildSlice 128 1 #[(0, .agg #[.int .i64 a0_0, .int .u32 a0_1, .int .i64 a0_2])]).run Tryz.prog w = .ok (.slice (some ⟨w.heap.size, 0, none⟩) 1 1) (w.alloc (.cells [.int .i64 a0_0, .int .u32 a0_1, .int .i64 a0_2].toArray 32)) := by kernel_rfl
theorem ptrel128 : Elem Tryz.prog 128 32 3 24 := Elem.mk' Tryz.underlying128 (z := .agg #[.int .i64 0, .int .u32 0, .int .i64 0]) (by kernel_rfl) rfl (by omega) (by omega)
theorem trs_any (A0 : Option Addr) (c0 : Nat) (l : List Rs) (w : World) (hr : Reads w w.heap.size 17 A0 l.length (flat Rs.cells l)) (hl1 : l.length ≤ 100000) :
  Calls Tryz.prog 89 #[.slice A0 l.length c0] w fun e w' => ∃ x : {y : (Option Addr × Nat) × List Trc // IsTrc l y.2 ∧ y.2.length ≤ y.1.2 ∧ y.1.2 ≤ maxLen}, e = .returned (.slice x.1.1.1 x.1.2.length x.1.1.2) ∧ Pm w [.row (.slice x.1.1.1 x.1.2.length x.1.1.2) 32 3 x.1.2.length (flat Trc.cells x.1.2)] w' := by
 refine begin_ (vs := [.slice A0 l.length c0]) Tryz.func89 rfl rfl rfl ?_ (Pm.start w)
 refine zSG (TL.as_ ?_)
 refine zET (zSG (TL.as_ ?_))
 refine zET (zS (zSG (TL.mv ?_)))
 refine TL.v (gN Tryz.underlying23) ?_
 refine TL.mv ?_
 refine zET (zB (TC.nilrow 32 3 ?_))
 refine TC.loop_ (α := {y : Nat × (Option Addr × Nat) × List Trc // y.1 ≤ l.length ∧ (((l.take y.1).filter vldRs).map trcR = y.2.2) ∧ y.2.2.length ≤ y.1 ∧ y.2.2.length ≤ y.2.1.2 ∧ y.2.1.2 ≤ maxLen}) (fun y => [(2, .slice none 0 0), (6, .slice A0 l.length c0), (7, .int .i64 (l.length : Nat)), (8, .int .i64 ((y.1.1 : Nat) : Int)), (3, .slice y.1.2.1.1 y.1.2.2.length y.1.2.1.2)]) (fun y => Pm w [.row (.slice y.1.2.1.1 y.1.2.2.length y.1.2.1.2) 32 3 y.1.2.2.length (flat Trc.cells y.1.2.2)]) (fun y => l.length - y.1.1) (⟨(0, (none, 0), []), Nat.zero_le _, rfl, Nat.le_refl _, Nat.le_refl _, Nat.zero_le _⟩) ⟨rfl, rfl, rfl, rfl, rfl, trivial⟩ (fun w1 hw => hw) ?_
 rintro ⟨⟨i, ⟨Ao, co⟩, out⟩, hi, hout, houtl, houtc, houtm⟩
 dsimp only at hi hout houtl houtc houtm ⊢
 refine zSG ?_
 refine TL.vsplit rfl rfl rfl (gives_bin rfl rfl rfl (fun w => bin_lss w)) (fun h9 => ?_) (fun h9 => ?_)
 ·have q9 := of_decide_eq_true h9
  refine zET (zS (zc (zk (zT (zS (zB (zSG ?_)))))))
  have hi10 : i < l.length := by omega
  obtain ⟨x10, hx10⟩ := ex_at hi10
  obtain ⟨b10, o10, hA10, hbb10, hc10⟩ := hr.ad (by omega) (by decide)
  refine TL.val rfl rfl rfl (gA (i := i) Tryz.underlying23 prssz65 rfl rfl rfl rfl hA10 (by omega)) ?_
  refine TL.v (gR rs_cel prsag65 prssz65 hbb10 hx10 hc10) ?_
  refine TL.pnew rfl rfl rfl (exec_alloc (cs := [.int .i64 0, .int .i64 0, .int .i64 0, .int .i64 0, .int .u32 0, .int .i64 0, .int .i64 0, .int .i64 0, .bool false, .bool false, .int .i64 0, .int .u32 0, .int .i64 0, .int .i64 0, .int .i64 0, .int .i64 0, .int .i64 0]) rfl arpzv65 rfl) (fun g5 => ?_)
  refine TL.pstore (k := 0) (vs := x10.cells) rfl rfl rfl rfl rfl rfl rfl prssz65 (rs_cel.one _) (by show 17 ≤ 17; decide) (L' := [.blk g5 65 x10.cells, .row (.slice Ao out.length co) 32 3 out.length (flat Trc.cells out)]) rfl ?_
  refine zET (zSG (TL.v (gV 0 (.agg (x10.cells).toArray) prsag65 prssz65) ?_))
  refine TL.callsplit rfl rfl rfl rfl rfl Tryz.func70 (by decide) rfl (fun w1 hw => vldRs_any x10 w1) (fun h13 => ?_) (fun h13 => ?_)
  ·refine zET (zc (zG (TL.mv ?_)))
   refine TL.v (gV 0 (.agg (x10.cells).toArray) prsag65 prssz65) ?_
   refine TL.pcall1 (r := .agg ((trcR x10).cells).toArray) rfl rfl rfl rfl rfl Tryz.func135 (by decide) rfl (fun w1 hw => trc_any x10 w1) ?_
   refine TL.prowS (e := 32) (size := 3) (cs := flat Trc.cells [trcR x10]) rfl rfl rfl rfl rfl (fun w => ptrbs128_1_44646 _ _ _ w) (by decide) rfl (fun g17 => ?_)
   refine TL.appendT (k := 2) rfl rfl rfl rfl Tryz.underlying128 ptrel128 rfl rfl rfl (fun w1 hw => pm_reads hw (k := 0) rfl) (flat_one trc_cel _) (by show _ * 24 ≤ _; omega) ((out ++ [trcR x10]).length) (by rw [List.length_append]; rfl) (flat Trc.cells (out ++ [trcR x10])) ((flat_app _ _).symm) (fun A18 c18 hA181 hA182 => ?_)
   refine TL.as_ ?_
   refine zE (zN (zT (zG (TL.v (gD ((i + 1 : Nat) : Int)) ?_))))
   refine TL.mv ?_
   refine zE ?_
   exact TX.round (⟨(i + 1, (A18, c18), out ++ [trcR x10]), by dsimp only; omega, mapf_snoc_t hx10 h13 hout, by dsimp only; rw [List.length_append]; show out.length + 1 ≤ _; omega, hA181, hA182⟩) (by show l.length - (i + 1) < l.length - i; omega) ⟨rfl, rfl, rfl, rfl, rfl, trivial⟩ (fun w1 hw => hw.pick [2] (by decide) rfl)
  refine zET (zd (zk (zN (zT (zG (TL.v (gD ((i + 1 : Nat) : Int)) ?_))))))
  refine TL.mv ?_
  refine zE ?_
  exact TX.round (⟨(i + 1, (Ao, co), out), by dsimp only; omega, mapf_snoc_f hx10 h13 hout, by dsimp only; omega, houtc, houtm⟩) (by show l.length - (i + 1) < l.length - i; omega) ⟨rfl, rfl, rfl, rfl, rfl, trivial⟩ (fun w1 hw => hw.pick [1] (by decide) rfl)
 have q9 := of_decide_eq_false h9
 refine zET (zS (zd (zx (zX (zX (zM (zT (zSG (TL.mv ?_)))))))))
 refine TL.turnRowD (k := 0) (fun ys => Sorted cmpT out ys) rfl rfl rfl rfl rfl Tryz.func136 (by decide) rfl rfl (fun w1 hw hr9 => sortTrc hr9 (rfl) (by omega)) (fun srt21 hS21 => ?_)
 try dsimp only [List.set_cons_zero, List.set_cons_succ]
 refine zET (zSG (TL.mv ?_))
 refine TL.turnRow2 (q := 0) (ys := cptG srt21) rfl rfl rfl rfl rfl Tryz.func138 (by decide) rfl rfl (fun w1 hw hr9 => compactTrc hr9 (hS21.1.length_eq) (by omega)) ?_
 try dsimp only [List.set_cons_zero, List.set_cons_succ]
 refine TL.as_ ?_
 refine zET (zr ?_)
 have hle : (cptG srt21).length ≤ out.length := Nat.le_trans (cptG_le _) (Nat.le_of_eq hS21.1.length_eq)
 exact ret_tmp Tryz.results89 rfl (fun w1 hw => ⟨⟨((Ao, co), cptG srt21), isTrc_of (by rw [List.take_of_length_le (by omega)] at hout; exact hout) hS21, by dsimp only; omega, houtm⟩, rfl, hw.pick [0] (by decide) rfl⟩)
set_option maxRecDepth 20000
theorem nodup_len {α : Type} [DecidableEq α] : ∀ {p F : List α}, p.Nodup → (∀ f ∈ p, f ∈ F) → p.length ≤ F.length
 | [], _, _, _ => Nat.zero_le _
 | a :: p, F, h, hs => by
  obtain ⟨h1, h2⟩ := List.nodup_cons.1 h
  have := nodup_len (F := F.erase a) h2 fun f hf => (List.mem_erase_of_ne (fun e => h1 (by rw [← e]; exact hf))).2 (hs f (List.mem_cons_of_mem _ hf))
  rw [List.length_erase_of_mem (hs a List.mem_cons_self)] at this
  have h3 : 0 < F.length := List.length_pos_of_mem (hs a List.mem_cons_self)
  rw [List.length_cons]
  omega
def IsOf (l : List Rs) (t : Trc) (y : List Rs) : Prop := ∃ o, IsOrd l o ∧ y = o.filter fun r => decide (trcR r = t)
theorem IsOf.eq {l y y' : List Rs} {t : Trc} (h : IsOf l t y) (h' : IsOf l t y') : y = y' := by
 obtain ⟨o, h1, h2⟩ := h
 obtain ⟨o', h3, h4⟩ := h'
 rw [h2, h4, h1.eq h3]
theorem IsOrd.le {l o : List Rs} (h : IsOrd l o) : o.length ≤ l.length := by
 have hn : o.Nodup := h.1.imp fun {a b} hab e => by subst e; exact ltK_irrefl _ hab
 exact nodup_len hn fun x hx => ((h.2 x).1 hx).1
def fitF (u : Idn) (p : Rs × Bool) (r : Rs) : Bool := decide (idnR r = u) && (!p.2 || decide (cmpRs r p.1 < 0)) && vldRs r
def stepF (u : Idn) (p : Rs × Bool) (r : Rs) : Rs × Bool := if fitF u p r then (r, true) else p
def findS (l : List Rs) (u : Idn) : Rs × Bool := l.foldl (stepF u) (Rs.zero, false)
theorem findS_snoc {l : List Rs} {u : Idn} {i : Nat} {x : Rs} {p : Rs × Bool} (hx : l[i]? = some x) (hp : findS (l.take i) u = p) : findS (l.take (i + 1)) u = if fitF u p x then (x, true) else p := by
 unfold findS at hp ⊢
 rw [List.take_add_one, hx, List.foldl_append, hp]
 rfl
def rfindS (o : List Rs) (u : Idn) : Rs × Bool := match o.find? (fun r => decide (idnR r = u)) with
 | some r => (r, true)
 | none => (Rs.zero, false)
theorem pofag73 (w : World) : (isAgg 73).run Tryz.prog w = .ok true w := rfl
theorem pofbld65_532  (w : World) : (Instr.build 65 #[]).run Tryz.prog w = .ok (.agg #[.int .i64 0, .int .i64 0, .int .i64 0, .int .i64 0, .int .u32 0, .int .i64 0, .int .i64 0, .int .i64 0, .bool false, .bool false, .int .i64 0, .int .u32 0, .int .i64 0, .int .i64 0, .int .i64 0, .int .i64 0, .int .i64 0]) w := by kernel_rfl
theorem of_any (A0 : Option Addr) (c0 : Nat) (l : List Rs) (t : Trc) (w : World) (hr : Reads w w.heap.size 17 A0 l.length (flat Rs.cells l)) (hl1 : l.length ≤ 100000) (hok : ∀ r ∈ l, r.Ok) :
  Calls Tryz.prog 90 #[.slice A0 l.length c0, .agg t.cells.toArray] w fun e w' => ∃ x : {y : (Option Addr × Nat) × List Rs // IsOf l t y.2 ∧ y.2.length ≤ y.1.2 ∧ y.1.2 ≤ maxLen}, e = .returned (.slice x.1.1.1 x.1.2.length x.1.1.2) ∧ Pm w [.row (.slice x.1.1.1 x.1.2.length x.1.1.2) 65 17 x.1.2.length (flat Rs.cells x.1.2)] w' := by
 refine begin_ (vs := [.slice A0 l.length c0, .agg t.cells.toArray]) Tryz.func90 rfl rfl rfl ?_ (Pm.start w)
 refine zSG ?_
 refine TL.pnew rfl rfl rfl (exec_box (cs := t.cells) rfl rfl rfl) (fun g3 => ?_)
 refine TL.as_ ?_
 refine zET (zSG (TL.as_ ?_))
 refine zET (zS (zSG (TL.mv ?_)))
 refine TL.pcallPm (α := {y : (Option Addr × Nat) × List Rs // IsOrd l y.2 ∧ y.2.length ≤ y.1.2 ∧ y.1.2 ≤ maxLen}) (fun x => .slice x.1.1.1 x.1.2.length x.1.1.2) (fun x => [.row (.slice x.1.1.1 x.1.2.length x.1.1.2) 65 17 x.1.2.length (flat Rs.cells x.1.2)]) rfl rfl rfl rfl rfl Tryz.func88 (by decide) rfl (fun w1 hw => ord_any A0 c0 l w1 (hr.up hw.bel) hl1 hok) ?_
 rintro ⟨⟨⟨R9, rc9⟩, o9⟩, hP9, hR91, hR92⟩
 dsimp only [List.cons_append, List.nil_append]
 dsimp only at hP9 hR91 hR92 ⊢
 refine TL.v (gN Tryz.underlying23) ?_
 refine TL.mv ?_
 refine zET (zB (TC.nilrow 65 17 ?_))
 have hol := hP9.le
 refine TC.loop_ (α := {y : Nat × (Option Addr × Nat) × List Rs // y.1 ≤ o9.length ∧ ((o9.take y.1).filter (fun r => decide (trcR r = t)) = y.2.2) ∧ y.2.2.length ≤ y.1 ∧ y.2.2.length ≤ y.2.1.2 ∧ y.2.1.2 ≤ maxLen}) (fun y => [(3, .pointer (some ⟨g3, 0, none⟩)), (9, .slice R9 o9.length rc9), (10, .int .i64 (o9.length : Nat)), (11, .int .i64 ((y.1.1 : Nat) : Int)), (5, .slice y.1.2.1.1 y.1.2.2.length y.1.2.1.2)]) (fun y => Pm w [.row (.slice y.1.2.1.1 y.1.2.2.length y.1.2.1.2) 65 17 y.1.2.2.length (flat Rs.cells y.1.2.2), .row (.slice R9 o9.length rc9) 65 17 o9.length (flat Rs.cells o9), .blk g3 32 t.cells]) (fun y => o9.length - y.1.1) (⟨(0, (none, 0), []), Nat.zero_le _, rfl, Nat.le_refl _, Nat.le_refl _, Nat.zero_le _⟩) ⟨rfl, rfl, rfl, rfl, rfl, trivial⟩ (fun w1 hw => hw) ?_
 rintro ⟨⟨i, ⟨Ao, co⟩, out⟩, hi, hout, houtl, houtc, houtm⟩
 dsimp only at hi hout houtl houtc houtm ⊢
 refine zSG ?_
 refine TL.sp bin_lss (fun q12 => ?_) (fun q12 => ?_)
 ·refine zET (zS (zc (zk (zT (zS (zB (zSG ?_)))))))
  refine TL.fact (p := ∃ g, R9 = some ⟨g, 0, none⟩) (fun w1 hw => rowA hw (k := 1) rfl (by omega)) ?_
  rintro ⟨g_R9, rfl⟩
  have hi13 : i < o9.length := by omega
  obtain ⟨x13, hx13⟩ := ex_at hi13
  refine TL.val rfl rfl rfl (gA (i := i) Tryz.underlying23 prssz65 rfl rfl rfl rfl rfl (by omega)) ?_
  refine TL.val rfl rfl rfl (gives_loadR (off := 0 + i * 17) rfl rfl prsag65 prssz65 (rs_cel.len x13) (fun w1 hw j9 u9 h9 => flat_row rs_cel hw (q := 1) rfl hx13 j9 u9 h9)) ?_
  refine TL.pnew rfl rfl rfl (exec_alloc (cs := [.int .i64 0, .int .i64 0, .int .i64 0, .int .i64 0, .int .u32 0, .int .i64 0, .int .i64 0, .int .i64 0, .bool false, .bool false, .int .i64 0, .int .u32 0, .int .i64 0, .int .i64 0, .int .i64 0, .int .i64 0, .int .i64 0]) rfl arpzv65 rfl) (fun g7 => ?_)
  refine TL.pstore (k := 0) (vs := x13.cells) rfl rfl rfl rfl rfl rfl rfl prssz65 (rs_cel.one _) (by show 17 ≤ 17; decide) (L' := [.blk g7 65 x13.cells, .row (.slice Ao out.length co) 65 17 out.length (flat Rs.cells out), .row (.slice (some ⟨g_R9, 0, none⟩) o9.length rc9) 65 17 o9.length (flat Rs.cells o9), .blk g3 32 t.cells]) rfl ?_
  refine zET (zS (TC.quietQ (by kernel_rfl) (by kernel_rfl) (fun w hw => hw.drawn _) ?_))
  refine TQ.v (gV 0 (.agg (x13.cells).toArray) prsag65 prssz65) ?_
  refine TQ.call (v := .agg ((trcR x13).cells).toArray) rfl rfl rfl rfl rfl Tryz.func135 (by decide) rfl (fun w1 hw => (trc_any x13 w1).mono fun en w2 ⟨h1, h2⟩ => ⟨h1, hw.below h2⟩) ?_
  refine TQ.v (gV 3 (.agg (t.cells).toArray) pcpag32 prssz32) ?_
  refine TQ.vsplit rfl rfl rfl (gives_bin2 rfl rfl rfl (fun w => trc_eql (trcR x13) t _ _ w)) (fun h18 => ?_) (fun h18 => ?_)
  ·have q18 := of_decide_eq_true h18
   refine TQ.fin ?_
   refine zT (zc (zG (TL.mv ?_)))
   refine TL.v (gV 0 (.agg (x13.cells).toArray) prsag65 prssz65) ?_
   refine TL.prowS (e := 65) (size := 17) (cs := flat Rs.cells [x13]) rfl rfl rfl rfl rfl (fun w => porbs23_1_99505 _ _ _ _ _ _ _ _ _ _ _ _ _ _ _ _ _ w) (by decide) rfl (fun g21 => ?_)
   refine TL.appendT (k := 2) rfl rfl rfl rfl Tryz.underlying23 porel23 rfl rfl rfl (fun w1 hw => pm_reads hw (k := 0) rfl) (flat_one rs_cel _) (by show _ * 128 ≤ _; omega) ((out ++ [x13]).length) (by rw [List.length_append]; rfl) (flat Rs.cells (out ++ [x13])) ((flat_app _ _).symm) (fun A22 c22 hA221 hA222 => ?_)
   refine TL.as_ ?_
   refine zE (zN (zT (zG (TL.v (gD ((i + 1 : Nat) : Int)) ?_))))
   refine TL.mv ?_
   refine zE ?_
   exact TX.round (⟨(i + 1, (A22, c22), out ++ [x13]), by dsimp only; omega, filt_snoc_t (p := fun r => decide (trcR r = t)) hx13 (decide_eq_true q18) hout, by dsimp only; rw [List.length_append]; show out.length + 1 ≤ _; omega, hA221, hA222⟩) (by show o9.length - (i + 1) < o9.length - i; omega) ⟨rfl, rfl, rfl, rfl, rfl, trivial⟩ (fun w1 hw => hw.pick [2, 3, 4] (by decide) rfl)
  have q18 := of_decide_eq_false h18
  refine TQ.fin ?_
  refine zT (zd (zk (zN (zT (zG (TL.v (gD ((i + 1 : Nat) : Int)) ?_))))))
  refine TL.mv ?_
  refine zE ?_
  exact TX.round (⟨(i + 1, (Ao, co), out), by dsimp only; omega, filt_snoc_f (p := fun r => decide (trcR r = t)) hx13 (decide_eq_false q18) hout, by dsimp only; omega, houtc, houtm⟩) (by show o9.length - (i + 1) < o9.length - i; omega) ⟨rfl, rfl, rfl, rfl, rfl, trivial⟩ (fun w1 hw => hw.pick [1, 2, 3] (by decide) rfl)
 refine zET (zS (zd (zx (zX (zX (zM (zT (zSG (TL.rn 2 rfl (zET (zr ?_)))))))))))
 exact ret_tmp Tryz.results90 rfl (fun w1 hw => ⟨⟨((Ao, co), out), ⟨o9, hP9, by rw [List.take_of_length_le (by omega)] at hout; exact hout.symm⟩, by dsimp only; omega, houtm⟩, rfl, hw.pick [0] (by decide) rfl⟩)
theorem rof_any (A0 : Option Addr) (c0 : Nat) (l : List Rs) (t : Trc) (w : World) (hr : Reads w w.heap.size 17 A0 l.length (flat Rs.cells l)) (hl1 : l.length ≤ 100000) (hok : ∀ r ∈ l, r.Ok) :
  Calls Tryz.prog 60 #[.slice A0 l.length c0, .agg t.cells.toArray] w fun e w' => ∃ x : {y : (Option Addr × Nat) × List Rs // IsOf l t y.2 ∧ y.2.length ≤ y.1.2 ∧ y.1.2 ≤ maxLen}, e = .returned (.slice x.1.1.1 x.1.2.length x.1.1.2) ∧ Pm w [.row (.slice x.1.1.1 x.1.2.length x.1.1.2) 65 17 x.1.2.length (flat Rs.cells x.1.2)] w' := by
 refine begin_ (vs := [.slice A0 l.length c0, .agg t.cells.toArray]) Tryz.func60 rfl rfl rfl ?_ (Pm.start w)
 refine zSG ?_
 refine TL.pnew rfl rfl rfl (exec_box (cs := t.cells) rfl rfl rfl) (fun g3 => ?_)
 refine TL.as_ ?_
 refine zET (zSG (TL.mv ?_))
 refine TL.pcallPm (α := {y : (Option Addr × Nat) × List Rs // IsOrd l y.2 ∧ y.2.length ≤ y.1.2 ∧ y.1.2 ≤ maxLen}) (fun x => .slice x.1.1.1 x.1.2.length x.1.1.2) (fun x => [.row (.slice x.1.1.1 x.1.2.length x.1.1.2) 65 17 x.1.2.length (flat Rs.cells x.1.2)]) rfl rfl rfl rfl rfl Tryz.func95 (by decide) rfl (fun w1 hw => rord_any A0 c0 l w1 (hr.up hw.bel) hl1 hok) ?_
 rintro ⟨⟨⟨R9, rc9⟩, o9⟩, hP9, hR91, hR92⟩
 dsimp only [List.cons_append, List.nil_append]
 dsimp only at hP9 hR91 hR92 ⊢
 refine TL.as_ ?_
 refine zET (zSG (TL.as_ ?_))
 refine zET (zS (zSG (TL.as_ ?_)))
 refine zET (zB (TC.nilrow 65 17 ?_))
 have hol := hP9.le
 refine TC.loop_ (α := {y : Nat × (Option Addr × Nat) × List Rs // y.1 ≤ o9.length ∧ ((o9.take y.1).filter (fun r => decide (trcR r = t)) = y.2.2) ∧ y.2.2.length ≤ y.1 ∧ y.2.2.length ≤ y.2.1.2 ∧ y.2.1.2 ≤ maxLen}) (fun y => [(3, .pointer (some ⟨g3, 0, none⟩)), (5, .slice R9 o9.length rc9), (7, .int .i64 ((y.1.1 : Nat) : Int)), (6, .slice y.1.2.1.1 y.1.2.2.length y.1.2.1.2)]) (fun y => Pm w [.row (.slice y.1.2.1.1 y.1.2.2.length y.1.2.1.2) 65 17 y.1.2.2.length (flat Rs.cells y.1.2.2), .row (.slice R9 o9.length rc9) 65 17 o9.length (flat Rs.cells o9), .blk g3 32 t.cells]) (fun y => o9.length - y.1.1) (⟨(0, (none, 0), []), Nat.zero_le _, rfl, Nat.le_refl _, Nat.le_refl _, Nat.zero_le _⟩) ⟨rfl, rfl, rfl, rfl, trivial⟩ (fun w1 hw => hw) ?_
 rintro ⟨⟨i, ⟨Ao, co⟩, out⟩, hi, hout, houtl, houtc, houtm⟩
 dsimp only at hi hout houtl houtc houtm ⊢
 refine zS (zSG (TL.rn 2 rfl (TL.v (gN Tryz.underlying23) ?_)))
 refine TL.sp bin_lss (fun q13 => ?_) (fun q13 => ?_)
 ·refine zET (zc (zk (zT (zS (zB (zS (TC.fact (p := ∃ g, R9 = some ⟨g, 0, none⟩) (fun w1 hw => rowA hw (k := 1) rfl (by omega)) ?_)))))))
  rintro ⟨g_R9, rfl⟩
  refine TC.quietQ (by kernel_rfl) (by kernel_rfl) (fun w hw => hw.drawn _) ?_
  refine TQ.rn 2 rfl ?_
  have hi18 : i < o9.length := by omega
  obtain ⟨x18, hx18⟩ := ex_at hi18
  refine TQ.val rfl rfl rfl (gA (i := i) Tryz.underlying23 prssz65 rfl rfl rfl rfl rfl (by omega)) ?_
  refine TQ.val rfl rfl rfl (gives_loadR (off := 0 + i * 17) rfl rfl prsag65 prssz65 (rs_cel.len x18) (fun w1 hw j9 u9 h9 => flat_row rs_cel hw (q := 1) rfl hx18 j9 u9 h9)) ?_
  refine TQ.call (v := .agg ((trcR x18).cells).toArray) rfl rfl rfl rfl rfl Tryz.func69 (by decide) rfl (fun w1 hw => (rtrc_any x18 w1).mono fun en w2 ⟨h1, h2⟩ => ⟨h1, hw.below h2⟩) ?_
  refine TQ.v (gV 2 (.agg (t.cells).toArray) pcpag32 prssz32) ?_
  refine TQ.vsplit rfl rfl rfl (gives_bin2 rfl rfl rfl (fun w => trc_eql (trcR x18) t _ _ w)) (fun h22 => ?_) (fun h22 => ?_)
  ·have q22 := of_decide_eq_true h22
   refine TQ.fin ?_
   refine zT (zc (zG (TL.rn 3 rfl ?_)))
   refine TL.val rfl rfl rfl (gA (i := i) Tryz.underlying23 prssz65 rfl rfl rfl rfl rfl (by omega)) ?_
   refine TL.val rfl rfl rfl (gives_loadR (off := 0 + i * 17) rfl rfl prsag65 prssz65 (rs_cel.len x18) (fun w1 hw j9 u9 h9 => flat_row rs_cel hw (q := 1) rfl hx18 j9 u9 h9)) ?_
   refine TL.prowS (e := 65) (size := 17) (cs := flat Rs.cells [x18]) rfl rfl rfl rfl rfl (fun w => porbs23_1_99505 _ _ _ _ _ _ _ _ _ _ _ _ _ _ _ _ _ w) (by decide) rfl (fun g28 => ?_)
   refine TL.appendT (k := 1) rfl rfl rfl rfl Tryz.underlying23 porel23 rfl rfl rfl (fun w1 hw => pm_reads hw (k := 0) rfl) (flat_one rs_cel _) (by show _ * 128 ≤ _; omega) ((out ++ [x18]).length) (by rw [List.length_append]; rfl) (flat Rs.cells (out ++ [x18])) ((flat_app _ _).symm) (fun A29 c29 hA291 hA292 => ?_)
   refine TL.as_ ?_
   refine zE (zN (zT (zG (TL.mv ?_))))
   refine TL.v (gD ((i + 1 : Nat) : Int)) ?_
   refine TL.as_ ?_
   refine zE ?_
   exact TX.round (⟨(i + 1, (A29, c29), out ++ [x18]), by dsimp only; omega, filt_snoc_t (p := fun r => decide (trcR r = t)) hx18 (decide_eq_true q22) hout, by dsimp only; rw [List.length_append]; show out.length + 1 ≤ _; omega, hA291, hA292⟩) (by show o9.length - (i + 1) < o9.length - i; omega) ⟨rfl, rfl, rfl, rfl, trivial⟩ (fun w1 hw => hw.pick [1, 2, 3] (by decide) rfl)
  have q22 := of_decide_eq_false h22
  refine TQ.fin ?_
  refine zT (zd (zk (zN (zT (zG (TL.mv ?_))))))
  refine TL.v (gD ((i + 1 : Nat) : Int)) ?_
  refine TL.as_ ?_
  refine zE ?_
  exact TX.round (⟨(i + 1, (Ao, co), out), by dsimp only; omega, filt_snoc_f (p := fun r => decide (trcR r = t)) hx18 (decide_eq_false q22) hout, by dsimp only; omega, houtc, houtm⟩) (by show o9.length - (i + 1) < o9.length - i; omega) ⟨rfl, rfl, rfl, rfl, trivial⟩ (fun w1 hw => hw)
 refine zET (zd (zx (zX (zX (zM (zT (zSG (TL.rn 2 rfl (zET (zr ?_))))))))))
 exact ret_tmp Tryz.results60 rfl (fun w1 hw => ⟨⟨((Ao, co), out), ⟨o9, hP9, by rw [List.take_of_length_le (by omega)] at hout; exact hout.symm⟩, by dsimp only; omega, houtm⟩, rfl, hw.pick [0] (by decide) rfl⟩)
theorem find_any (A0 : Option Addr) (c0 : Nat) (l : List Rs) (u : Idn) (w : World) (hr : Reads w w.heap.size 17 A0 l.length (flat Rs.cells l)) (hl1 : l.length ≤ 100000) :
  Calls Tryz.prog 105 #[.slice A0 l.length c0, .agg u.cells.toArray] w fun e w' => e = .returned (.tuple #[.agg (findS l u).1.cells.toArray, .bool (findS l u).2]) ∧ Below w.heap.size w w' := by
 refine begin_ (vs := [.slice A0 l.length c0, .agg u.cells.toArray]) Tryz.func105 rfl rfl rfl ?_ (Pm.start w)
 refine zSG ?_
 refine TL.pnew rfl rfl rfl (exec_box (cs := u.cells) rfl rfl rfl) (fun g3 => ?_)
 refine TL.pnew rfl rfl rfl (exec_alloc (cs := Rs.zero.cells) rfl arpzv65 rfl) (fun g4 => ?_)
 refine TL.as_ ?_
 refine zET (zSG ?_)
 refine TL.pnew rfl rfl rfl (exec_alloc (cs := Rs.zero.cells) rfl arpzv65 rfl) (fun g6 => ?_)
 refine zET (zSG (TL.as_ ?_))
 refine zET (zS (zSG (TL.mv ?_)))
 refine TL.v (gN Tryz.underlying23) ?_
 refine TL.mv ?_
 refine zET (zB (TC.loop_ (α := {y : Nat × Rs × Bool // y.1 ≤ l.length ∧ findS (l.take y.1) u = y.2}) (fun y => [(3, .pointer (some ⟨g3, 0, none⟩)), (4, .pointer (some ⟨g4, 0, none⟩)), (5, .bool false), (6, .pointer (some ⟨g6, 0, none⟩)), (10, .slice A0 l.length c0), (11, .int .i64 (l.length : Nat)), (12, .int .i64 ((y.1.1 : Nat) : Int)), (7, .bool y.1.2.2)]) (fun y => Pm w [.blk g6 65 y.1.2.1.cells, .blk g4 65 Rs.zero.cells, .blk g3 73 u.cells]) (fun y => l.length - y.1.1) (⟨(0, Rs.zero, false), Nat.zero_le _, rfl⟩) ⟨rfl, rfl, rfl, rfl, rfl, rfl, rfl, rfl, trivial⟩ (fun w1 hw => hw) ?_))
 rintro ⟨⟨i, bst, fnd⟩, hi, hst⟩
 dsimp only at hi hst ⊢
 refine zS ?_
 cases fnd with
 | true =>
  refine zG ?_
  refine TL.sp bin_lss (fun q13 => ?_) (fun q13 => ?_)
  ·refine zET (zS (zc (zk (zT (zS (zB (zSG ?_)))))))
   have hi14 : i < l.length := by omega
   obtain ⟨x14, hx14⟩ := ex_at hi14
   obtain ⟨b14, o14, hA14, hbb14, hc14⟩ := hr.ad (by omega) (by decide)
   refine TL.val rfl rfl rfl (gA (i := i) Tryz.underlying23 prssz65 rfl rfl rfl rfl hA14 (by omega)) ?_
   refine TL.v (gR rs_cel prsag65 prssz65 hbb14 hx14 hc14) ?_
   refine TL.pnew rfl rfl rfl (exec_alloc (cs := Rs.zero.cells) rfl arpzv65 rfl) (fun g9 => ?_)
   refine TL.pstore (k := 0) (vs := x14.cells) rfl rfl rfl rfl rfl rfl rfl prssz65 (rs_cel.one _) (by show 17 ≤ 17; decide) (L' := [.blk g9 65 x14.cells, .blk g6 65 bst.cells, .blk g4 65 Rs.zero.cells, .blk g3 73 u.cells]) rfl ?_
   refine zET (zS (TC.quietQ (by kernel_rfl) (by kernel_rfl) (fun w hw => hw.drawn _) ?_))
   refine TQ.v (gV 0 (.agg (x14.cells).toArray) prsag65 prssz65) ?_
   refine TQ.call (v := .agg ((idnR x14).cells).toArray) rfl rfl rfl rfl rfl Tryz.func104 (by decide) rfl (fun w1 hw => (idn_any x14 w1).mono fun en w2 ⟨h1, h2⟩ => ⟨h1, hw.below h2⟩) ?_
   refine TQ.v (gV 3 (.agg (u.cells).toArray) pofag73 prssz73) ?_
   refine TQ.vsplit rfl rfl rfl (gives_bin2 rfl rfl rfl (fun w => idn_eql (idnR x14) u _ _ w)) (fun h19 => ?_) (fun h19 => ?_)
   ·have q19 := of_decide_eq_true h19
    refine TQ.rn 4 rfl (TQ.ov (gV 0 (.agg (x14.cells).toArray) prsag65 prssz65) ?_)
    refine TQ.ov (gV 1 (.agg (bst.cells).toArray) prsag65 prssz65) ?_
    refine TQ.on rfl rfl rfl ?_
    refine TQ.call (v := .int .i64 (cmpRs x14 bst)) rfl rfl rfl rfl rfl Tryz.func133 (by decide) rfl (fun w1 hw => (cmpRs_any x14 bst w1).mono fun en w2 ⟨h1, h2⟩ => ⟨h1, hw.below h2⟩) ?_
    refine TQ.on rfl rfl rfl ?_
    refine TQ.sp bin_lss (fun q27 => ?_) (fun q27 => ?_)
    ·refine TQ.rn 3 rfl (TQ.ov (gV 0 (.agg (x14.cells).toArray) prsag65 prssz65) ?_)
     refine TQ.on rfl rfl rfl ?_
     refine TQ.callsplit rfl rfl rfl rfl rfl Tryz.func70 (by decide) rfl (fun w1 hw => vldRs_any x14 w1) (fun h32 => ?_) (fun h32 => ?_)
     ·refine TQ.val rfl rfl rfl (gives_pick rfl rfl rfl) ?_
      refine TQ.fin ?_
      refine zT (zc (zG (TL.v (gV 0 (.agg (x14.cells).toArray) prsag65 prssz65) ?_)))
      refine TL.pstore (k := 1) (vs := x14.cells) rfl rfl rfl rfl rfl rfl rfl prssz65 (rs_cel.one _) (by show 17 ≤ 17; decide) (L' := [.blk g9 65 x14.cells, .blk g6 65 x14.cells, .blk g4 65 Rs.zero.cells, .blk g3 73 u.cells]) rfl ?_
      refine TL.as_ ?_
      refine zE (zN (zT (zG (TL.v (gD ((i + 1 : Nat) : Int)) ?_))))
      refine TL.mv ?_
      refine zE ?_
      exact TX.round (⟨(i + 1, x14, true), by dsimp only; omega, by rw [findS_snoc hx14 hst, if_pos (by simp [fitF, q13, q19, q27, h32])]⟩) (by show l.length - (i + 1) < l.length - i; omega) ⟨rfl, rfl, rfl, rfl, rfl, rfl, rfl, rfl, trivial⟩ (fun w1 hw => hw.pick [1, 2, 3] (by decide) rfl)
     refine TQ.val rfl rfl rfl (gives_pick rfl rfl rfl) ?_
     refine TQ.fin ?_
     refine zT (zd (zk (zN (zT (zG (TL.v (gD ((i + 1 : Nat) : Int)) ?_))))))
     refine TL.mv ?_
     refine zE ?_
     exact TX.round (⟨(i + 1, bst, true), by dsimp only; omega, by rw [findS_snoc hx14 hst, if_neg (by simp [fitF, q13, q19, q27, h32])]⟩) (by show l.length - (i + 1) < l.length - i; omega) ⟨rfl, rfl, rfl, rfl, rfl, rfl, rfl, rfl, trivial⟩ (fun w1 hw => hw.pick [1, 2, 3] (by decide) rfl)
    refine TQ.rn 6 rfl ?_
    refine TQ.fin ?_
    refine zT (zd (zk (zN (zT (zG (TL.v (gD ((i + 1 : Nat) : Int)) ?_))))))
    refine TL.mv ?_
    refine zE ?_
    exact TX.round (⟨(i + 1, bst, true), by dsimp only; omega, by rw [findS_snoc hx14 hst, if_neg (by simp [fitF, q13, q19, q27])]⟩) (by show l.length - (i + 1) < l.length - i; omega) ⟨rfl, rfl, rfl, rfl, rfl, rfl, rfl, rfl, trivial⟩ (fun w1 hw => hw.pick [1, 2, 3] (by decide) rfl)
   have q19 := of_decide_eq_false h19
   refine TQ.rn 4 rfl ?_
   refine TQ.offU rfl rfl rfl rfl rfl ?_
   refine TQ.offU rfl rfl rfl rfl rfl ?_
   refine TQ.offU rfl rfl rfl rfl rfl ?_
   refine TQ.offU rfl rfl rfl rfl rfl ?_
   refine TQ.rn 6 rfl ?_
   refine TQ.fin ?_
   refine zT (zd (zk (zN (zT (zG (TL.v (gD ((i + 1 : Nat) : Int)) ?_))))))
   refine TL.mv ?_
   refine zE ?_
   exact TX.round (⟨(i + 1, bst, true), by dsimp only; omega, by rw [findS_snoc hx14 hst, if_neg (by simp [fitF, q13, q19])]⟩) (by show l.length - (i + 1) < l.length - i; omega) ⟨rfl, rfl, rfl, rfl, rfl, rfl, rfl, rfl, trivial⟩ (fun w1 hw => hw.pick [1, 2, 3] (by decide) rfl)
  refine zET (zS (zd (zx (zX (zX (zM (zT (zSG (TL.v (gV 0 (.agg (bst.cells).toArray) prsag65 prssz65) ?_)))))))))
  refine TL.mv ?_
  refine TL.pstore (k := 1) (vs := bst.cells) rfl rfl rfl rfl rfl rfl rfl prssz65 (rs_cel.one _) (by show 17 ≤ 17; decide) (L' := [.blk g6 65 bst.cells, .blk g4 65 bst.cells, .blk g3 73 u.cells]) rfl ?_
  refine TL.as_ ?_
  refine zET (zr ?_)
  have hE : findS l u = (bst, true) := by rw [List.take_of_length_le (by omega)] at hst; exact hst
  exact ret_cell2 (k := 1) (v := .bool true) Tryz.results105 rfl rfl rfl Tryz.underlying65 rfl rfl (fun w1 hw => ⟨by rw [hE], hw.bel⟩)
 | false =>
  refine zG ?_
  refine TL.sp bin_lss (fun q13 => ?_) (fun q13 => ?_)
  ·refine zET (zS (zc (zk (zT (zS (zB (zSG ?_)))))))
   have hi14 : i < l.length := by omega
   obtain ⟨x14, hx14⟩ := ex_at hi14
   obtain ⟨b14, o14, hA14, hbb14, hc14⟩ := hr.ad (by omega) (by decide)
   refine TL.val rfl rfl rfl (gA (i := i) Tryz.underlying23 prssz65 rfl rfl rfl rfl hA14 (by omega)) ?_
   refine TL.v (gR rs_cel prsag65 prssz65 hbb14 hx14 hc14) ?_
   refine TL.pnew rfl rfl rfl (exec_alloc (cs := Rs.zero.cells) rfl arpzv65 rfl) (fun g9 => ?_)
   refine TL.pstore (k := 0) (vs := x14.cells) rfl rfl rfl rfl rfl rfl rfl prssz65 (rs_cel.one _) (by show 17 ≤ 17; decide) (L' := [.blk g9 65 x14.cells, .blk g6 65 bst.cells, .blk g4 65 Rs.zero.cells, .blk g3 73 u.cells]) rfl ?_
   refine zET (zS (TC.quietQ (by kernel_rfl) (by kernel_rfl) (fun w hw => hw.drawn _) ?_))
   refine TQ.v (gV 0 (.agg (x14.cells).toArray) prsag65 prssz65) ?_
   refine TQ.call (v := .agg ((idnR x14).cells).toArray) rfl rfl rfl rfl rfl Tryz.func104 (by decide) rfl (fun w1 hw => (idn_any x14 w1).mono fun en w2 ⟨h1, h2⟩ => ⟨h1, hw.below h2⟩) ?_
   refine TQ.v (gV 3 (.agg (u.cells).toArray) pofag73 prssz73) ?_
   refine TQ.vsplit rfl rfl rfl (gives_bin2 rfl rfl rfl (fun w => idn_eql (idnR x14) u _ _ w)) (fun h19 => ?_) (fun h19 => ?_)
   ·have q19 := of_decide_eq_true h19
    refine TQ.rn 11 rfl (TQ.ov (gV 0 (.agg (x14.cells).toArray) prsag65 prssz65) ?_)
    refine TQ.on rfl rfl rfl ?_
    refine TQ.callsplit rfl rfl rfl rfl rfl Tryz.func70 (by decide) rfl (fun w1 hw => vldRs_any x14 w1) (fun h32 => ?_) (fun h32 => ?_)
    ·refine TQ.val rfl rfl rfl (gives_pick rfl rfl rfl) ?_
     refine TQ.fin ?_
     refine zT (zc (zG (TL.v (gV 0 (.agg (x14.cells).toArray) prsag65 prssz65) ?_)))
     refine TL.pstore (k := 1) (vs := x14.cells) rfl rfl rfl rfl rfl rfl rfl prssz65 (rs_cel.one _) (by show 17 ≤ 17; decide) (L' := [.blk g9 65 x14.cells, .blk g6 65 x14.cells, .blk g4 65 Rs.zero.cells, .blk g3 73 u.cells]) rfl ?_
     refine TL.as_ ?_
     refine zE (zN (zT (zG (TL.v (gD ((i + 1 : Nat) : Int)) ?_))))
     refine TL.mv ?_
     refine zE ?_
     exact TX.round (⟨(i + 1, x14, true), by dsimp only; omega, by rw [findS_snoc hx14 hst, if_pos (by simp [fitF, q13, q19, h32])]⟩) (by show l.length - (i + 1) < l.length - i; omega) ⟨rfl, rfl, rfl, rfl, rfl, rfl, rfl, rfl, trivial⟩ (fun w1 hw => hw.pick [1, 2, 3] (by decide) rfl)
    refine TQ.val rfl rfl rfl (gives_pick rfl rfl rfl) ?_
    refine TQ.fin ?_
    refine zT (zd (zk (zN (zT (zG (TL.v (gD ((i + 1 : Nat) : Int)) ?_))))))
    refine TL.mv ?_
    refine zE ?_
    exact TX.round (⟨(i + 1, bst, false), by dsimp only; omega, by rw [findS_snoc hx14 hst, if_neg (by simp [fitF, q13, q19, h32])]⟩) (by show l.length - (i + 1) < l.length - i; omega) ⟨rfl, rfl, rfl, rfl, rfl, rfl, rfl, rfl, trivial⟩ (fun w1 hw => hw.pick [1, 2, 3] (by decide) rfl)
   have q19 := of_decide_eq_false h19
   refine TQ.rn 4 rfl ?_
   refine TQ.offU rfl rfl rfl rfl rfl ?_
   refine TQ.offU rfl rfl rfl rfl rfl ?_
   refine TQ.offU rfl rfl rfl rfl rfl ?_
   refine TQ.offU rfl rfl rfl rfl rfl ?_
   refine TQ.rn 6 rfl ?_
   refine TQ.fin ?_
   refine zT (zd (zk (zN (zT (zG (TL.v (gD ((i + 1 : Nat) : Int)) ?_))))))
   refine TL.mv ?_
   refine zE ?_
   exact TX.round (⟨(i + 1, bst, false), by dsimp only; omega, by rw [findS_snoc hx14 hst, if_neg (by simp [fitF, q13, q19])]⟩) (by show l.length - (i + 1) < l.length - i; omega) ⟨rfl, rfl, rfl, rfl, rfl, rfl, rfl, rfl, trivial⟩ (fun w1 hw => hw.pick [1, 2, 3] (by decide) rfl)
  refine zET (zS (zd (zx (zX (zX (zM (zT (zSG (TL.v (gV 0 (.agg (bst.cells).toArray) prsag65 prssz65) ?_)))))))))
  refine TL.mv ?_
  refine TL.pstore (k := 1) (vs := bst.cells) rfl rfl rfl rfl rfl rfl rfl prssz65 (rs_cel.one _) (by show 17 ≤ 17; decide) (L' := [.blk g6 65 bst.cells, .blk g4 65 bst.cells, .blk g3 73 u.cells]) rfl ?_
  refine TL.as_ ?_
  refine zET (zr ?_)
  have hE : findS l u = (bst, false) := by rw [List.take_of_length_le (by omega)] at hst; exact hst
  exact ret_cell2 (k := 1) (v := .bool false) Tryz.results105 rfl rfl rfl Tryz.underlying65 rfl rfl (fun w1 hw => ⟨by rw [hE], hw.bel⟩)
theorem rfind_any (A0 : Option Addr) (c0 : Nat) (l : List Rs) (u : Idn) (w : World) (hr : Reads w w.heap.size 17 A0 l.length (flat Rs.cells l)) (hl1 : l.length ≤ 100000) (hok : ∀ r ∈ l, r.Ok) :
  Calls Tryz.prog 58 #[.slice A0 l.length c0, .agg u.cells.toArray] w fun e w' => ∃ x : {p : Rs × Bool // ∃ o, IsOrd l o ∧ rfindS o u = p}, e = .returned (.tuple #[.agg x.1.1.cells.toArray, .bool x.1.2]) ∧ Below w.heap.size w w' := by
 refine begin_ (vs := [.slice A0 l.length c0, .agg u.cells.toArray]) Tryz.func58 rfl rfl rfl ?_ (Pm.start w)
 refine zSG ?_
 refine TL.pnew rfl rfl rfl (exec_box (cs := u.cells) rfl rfl rfl) (fun g3 => ?_)
 refine TL.pnew rfl rfl rfl (exec_alloc (cs := Rs.zero.cells) rfl arpzv65 rfl) (fun g4 => ?_)
 refine TL.as_ ?_
 refine zET (zSG (TL.mv ?_))
 refine TL.pcallPm (α := {y : (Option Addr × Nat) × List Rs // IsOrd l y.2 ∧ y.2.length ≤ y.1.2 ∧ y.1.2 ≤ maxLen}) (fun x => .slice x.1.1.1 x.1.2.length x.1.1.2) (fun x => [.row (.slice x.1.1.1 x.1.2.length x.1.1.2) 65 17 x.1.2.length (flat Rs.cells x.1.2)]) rfl rfl rfl rfl rfl Tryz.func95 (by decide) rfl (fun w1 hw => rord_any A0 c0 l w1 (hr.up hw.bel) hl1 hok) ?_
 rintro ⟨⟨⟨R9, rc9⟩, o9⟩, hP9, hR91, hR92⟩
 dsimp only [List.cons_append, List.nil_append]
 dsimp only at hP9 hR91 hR92 ⊢
 refine TL.as_ ?_
 refine zET (zS (zSG (TL.as_ ?_)))
 refine zET (zB ?_)
 have hol := hP9.le
 refine TC.loop_ (α := {i : Nat // i ≤ o9.length ∧ (o9.drop i).find? (fun r => decide (idnR r = u)) = o9.find? (fun r => decide (idnR r = u))}) (fun y => [(3, .pointer (some ⟨g3, 0, none⟩)), (4, .pointer (some ⟨g4, 0, none⟩)), (5, .bool false), (6, .slice R9 o9.length rc9), (7, .int .i64 ((y.1 : Nat) : Int))]) (fun y => Pm w [.row (.slice R9 o9.length rc9) 65 17 o9.length (flat Rs.cells o9), .blk g4 65 Rs.zero.cells, .blk g3 73 u.cells]) (fun y => o9.length - y.1) (⟨0, Nat.zero_le _, rfl⟩) ⟨rfl, rfl, rfl, rfl, rfl, trivial⟩ (fun w1 hw => hw) ?_
 rintro ⟨i, hi, hfd⟩
 try dsimp only at hi hfd ⊢
 refine zS (zSG (TL.rn 2 rfl (TL.v (gN Tryz.underlying23) ?_)))
 refine TL.sp bin_lss (fun q13 => ?_) (fun q13 => ?_)
 ·refine zET (zc (zk (zT (zS (zB (zS (TC.fact (p := ∃ g, R9 = some ⟨g, 0, none⟩) (fun w1 hw => rowA hw (k := 0) rfl (by omega)) ?_)))))))
  rintro ⟨g_R9, rfl⟩
  refine TC.quietQ (by kernel_rfl) (by kernel_rfl) (fun w hw => hw.drawn _) ?_
  refine TQ.rn 2 rfl ?_
  have hi18 : i < o9.length := by omega
  obtain ⟨x18, hx18⟩ := ex_at hi18
  have hdr : o9.drop i = x18 :: o9.drop (i + 1) := by obtain ⟨hlt, e⟩ := List.getElem?_eq_some_iff.1 hx18; rw [List.drop_eq_getElem_cons hlt, e]
  refine TQ.val rfl rfl rfl (gA (i := i) Tryz.underlying23 prssz65 rfl rfl rfl rfl rfl (by omega)) ?_
  refine TQ.val rfl rfl rfl (gives_loadR (off := 0 + i * 17) rfl rfl prsag65 prssz65 (rs_cel.len x18) (fun w1 hw j9 u9 h9 => flat_row rs_cel hw (q := 0) rfl hx18 j9 u9 h9)) ?_
  refine TQ.call (v := .agg ((idnR x18).cells).toArray) rfl rfl rfl rfl rfl Tryz.func47 (by decide) rfl (fun w1 hw => (ridn_any x18 w1).mono fun en w2 ⟨h1, h2⟩ => ⟨h1, hw.below h2⟩) ?_
  refine TQ.v (gV 2 (.agg (u.cells).toArray) pofag73 prssz73) ?_
  refine TQ.vsplit rfl rfl rfl (gives_bin2 rfl rfl rfl (fun w => idn_eql (idnR x18) u _ _ w)) (fun h22 => ?_) (fun h22 => ?_)
  ·have q22 := of_decide_eq_true h22
   refine TQ.fin ?_
   refine zT (zc (zSG (TL.rn 2 rfl ?_)))
   refine TL.val rfl rfl rfl (gA (i := i) Tryz.underlying23 prssz65 rfl rfl rfl rfl rfl (by omega)) ?_
   refine TL.val rfl rfl rfl (gives_loadR (off := 0 + i * 17) rfl rfl prsag65 prssz65 (rs_cel.len x18) (fun w1 hw j9 u9 h9 => flat_row rs_cel hw (q := 0) rfl hx18 j9 u9 h9)) ?_
   refine TL.pstore (k := 1) (vs := x18.cells) rfl rfl rfl rfl rfl rfl rfl prssz65 (rs_cel.one _) (by show 17 ≤ 17; decide) (L' := [.row (.slice (some ⟨g_R9, 0, none⟩) o9.length rc9) 65 17 o9.length (flat Rs.cells o9), .blk g4 65 x18.cells, .blk g3 73 u.cells]) rfl ?_
   refine TL.as_ ?_
   refine zET (zr (zRR (zR (zRR ?_))))
   have hE : rfindS o9 u = (x18, true) := by unfold rfindS; rw [← hfd, hdr, List.find?_cons_of_pos (by exact decide_eq_true q22)]
   exact ret_cell2 (k := 1) (v := .bool true) Tryz.results58 rfl rfl rfl Tryz.underlying65 rfl rfl (fun w1 hw => ⟨⟨(x18, true), ⟨o9, hP9, hE⟩⟩, rfl, hw.bel⟩)
  have q22 := of_decide_eq_false h22
  have hfd2 : (o9.drop (i + 1)).find? (fun r => decide (idnR r = u)) = o9.find? (fun r => decide (idnR r = u)) := by rw [← hfd, hdr, List.find?_cons_of_neg (by simpa using q22)]
  refine TQ.fin ?_
  refine zT (zd (zk (zN (zT (zG (TL.mv ?_))))))
  refine TL.v (gD ((i + 1 : Nat) : Int)) ?_
  refine TL.as_ ?_
  refine zE ?_
  exact TX.round (⟨i + 1, by omega, hfd2⟩) (by show o9.length - (i + 1) < o9.length - i; omega) ⟨rfl, rfl, rfl, rfl, rfl, trivial⟩ (fun w1 hw => hw)
 refine zET (zd (zx (zX (zX (zM (zT (zSG ?_)))))))
 refine TL.val rfl rfl rfl (gives_build (v := .agg (Rs.zero.cells).toArray) rfl rfl (fun w => pofbld65_532  w)) ?_
 refine TL.pstore (k := 1) (vs := Rs.zero.cells) rfl rfl rfl rfl rfl rfl rfl prssz65 (rs_cel.one _) (by show 17 ≤ 17; decide) (L' := [.row (.slice R9 o9.length rc9) 65 17 o9.length (flat Rs.cells o9), .blk g4 65 Rs.zero.cells, .blk g3 73 u.cells]) rfl ?_
 refine TL.as_ ?_
 refine zET (zr ?_)
 have hE : rfindS o9 u = (Rs.zero, false) := by unfold rfindS; rw [← hfd, List.drop_of_length_le (by omega)]; rfl
 exact ret_cell2 (k := 1) (v := .bool false) Tryz.results58 rfl rfl rfl Tryz.underlying65 rfl rfl (fun w1 hw => ⟨⟨(Rs.zero, false), ⟨o9, hP9, hE⟩⟩, rfl, hw.bel⟩)
set_option maxRecDepth 20000
def IxOk (p : Rs → Bool) (l : List Rs) (z : Int) : Prop := (z = -1 ∧ ∀ r ∈ l, p r = false) ∨ ∃ i : Nat, z = (i : Int) ∧ i < l.length ∧ (∀ r ∈ l.take i, p r = false) ∧ ∃ y, l[i]? = some y ∧ p y = true
structure DelI (p : Rs → Bool) (l : List Rs) (k j : Nat) (ys : List Rs) : Prop where
 len : ys.length = l.length
 kj : k < j
 jn : j ≤ l.length
 pre : ys.take k = (l.take j).filter fun r => !p r
 post : ∀ q, j ≤ q → ys[q]? = l[q]?
section
variable {p : Rs → Bool} {l ys : List Rs} {k j i : Nat} {x : Rs}
theorem all_keep (h : ∀ r ∈ l, p r = false) : (l.filter fun r => !p r) = l := List.filter_eq_self.2 fun r hr => by rw [h r hr]; rfl
theorem DelI.start (hi : i < l.length) (h : ∀ r ∈ l.take i, p r = false) (hx : l[i]? = some x) (hp : p x = true) : DelI p l i (i + 1) l := ⟨rfl, Nat.lt_succ_self _, hi, by
 rw [List.take_add_one, hx, List.filter_append, all_keep h]
 simp [hp], fun q _ => rfl⟩
theorem DelI.at_ (h : DelI p l k j ys) (hx : ys[j]? = some x) : l[j]? = some x := by rw [← h.post j (Nat.le_refl _)]; exact hx
theorem DelI.out (h : DelI p l k j ys) (hj : j < l.length) (hx : ys[j]? = some x) (hp : p x = true) : DelI p l k (j + 1) ys := ⟨h.len, by have := h.kj; omega, hj, by
 rw [List.take_add_one, h.at_ hx, List.filter_append, h.pre]
 simp [hp], fun q hq => h.post q (by omega)⟩
theorem DelI.keep (h : DelI p l k j ys) (hj : j < l.length) (hx : ys[j]? = some x) (hp : p x = false) : DelI p l (k + 1) (j + 1) (ys.set k x) := ⟨by rw [List.length_set]; exact h.len, by have := h.kj; omega, hj, by
 have hk : k < ys.length := by have := h.kj; have := h.len; omega
 rw [List.take_add_one, List.getElem?_set_self hk, List.take_set_of_le (Nat.le_refl _), List.take_add_one, h.at_ hx, List.filter_append, h.pre]
 simp [hp], fun q hq => by rw [List.getElem?_set_ne (by have := h.kj; omega)]; exact h.post q (by omega)⟩
theorem DelI.fin (h : DelI p l k j ys) (hj : l.length ≤ j) {n : Nat} {z : Rs} : (ys.take k ++ List.replicate n z).take k = (l.filter fun r => !p r) ∧ (l.filter fun r => !p r).length = k := by
 have hk : k ≤ ys.length := by have := h.kj; have := h.len; have := h.jn; omega
 have e := h.pre
 rw [List.take_of_length_le hj] at e
 have e2 : (ys.take k).length = k := by rw [List.length_take]; omega
 refine ⟨by rw [List.take_left' e2]; exact e, ?_⟩
 rw [← e]; exact e2
end
theorem ixG_any (A0 : Option Addr) (c0 : Nat) (l : List Rs) (p : Rs → Bool) (f : FuncId) (fn : Func) (cap : Array Value) (w : World) (hr : Reads w w.heap.size 17 A0 l.length (flat Rs.cells l)) (hl1 : l.length ≤ 100000) (hfn : Tryz.prog.funcs[f]? = some fn) (hnm : (fn.name == "runtime.NumGoroutine") = false) (hbd : fn.body.isNone = false) (hf : ∀ (x : Rs) (w1 : World), Below w.heap.size w w1 → Calls Tryz.prog f (#[] ++ [Value.agg x.cells.toArray].toArray ++ cap) w1 fun e w' => e = .returned (.bool (p x)) ∧ Below w1.heap.size w1 w') :
  Calls Tryz.prog 131 #[.slice A0 l.length c0, .func (.func f) #[] cap] w fun e w' => ∃ x : {z : Int // IxOk p l z}, e = .returned (.int .i64 x.1) ∧ Below w.heap.size w w' := by
 refine begin_ (vs := [.slice A0 l.length c0, .func (.func f) #[] cap]) Tryz.func131 rfl rfl rfl ?_ (Pm.start w)
 refine zSG (TL.as_ ?_)
 refine zET (zS (zSG (TL.mv ?_)))
 refine TL.v (gN Tryz.underlying23) ?_
 refine TL.mv ?_
 refine zET (zB ?_)
 refine TC.loop_ (α := {i : Nat // i ≤ l.length ∧ ∀ r ∈ l.take i, p r = false}) (fun y => [(0, .slice A0 l.length c0), (1, .func (.func f) #[] cap), (7, .int .i64 (l.length : Nat)), (8, .int .i64 ((y.1 : Nat) : Int))]) (fun y => Pm w []) (fun y => l.length - y.1) (⟨0, Nat.zero_le _, fun r hr => by rw [List.take_zero] at hr; cases hr⟩) ⟨rfl, rfl, rfl, rfl, trivial⟩ (fun w1 hw => hw) ?_
 rintro ⟨i, hi, hall⟩
 try dsimp only at hi hall ⊢
 refine zSG ?_
 refine TL.vsplit rfl rfl rfl (gives_bin rfl rfl rfl (fun w => bin_lss w)) (fun h9 => ?_) (fun h9 => ?_)
 ·have q9 := of_decide_eq_true h9
  refine zET (zS (zc (zk (zT (zS (zB (zSG (TL.rn 2 rfl (zET (zSG (TL.rn 3 rfl ?_)))))))))))
  have hi14 : i < l.length := by omega
  obtain ⟨x14, hx14⟩ := ex_at hi14
  obtain ⟨b14, o14, hA14, hbb14, hc14⟩ := hr.ad (by omega) (by decide)
  refine TL.val rfl rfl rfl (gA (i := i) Tryz.underlying23 prssz65 rfl rfl rfl rfl hA14 (by omega)) ?_
  refine TL.v (gR rs_cel prsag65 prssz65 hbb14 hx14 hc14) ?_
  obtain ⟨bv, hbv⟩ : ∃ b, p x14 = b := ⟨_, rfl⟩
  refine TL.callE1 (r := .bool bv) rfl rfl rfl (ent_val rfl rfl rfl hfn hnm hbd rfl) (fun w1 hw => by rw [← hbv]; exact hf x14 w1 hw.bel) ?_
  refine zET ?_
  refine TC.split (t := bv) rfl (fun c16 => ?_) (fun c16 => ?_)
  ·refine zSG (TL.rn 2 rfl (zET (zr (zRR (zR (zRR ?_))))))
   exact ret_tmp Tryz.results131 rfl (fun w1 hw => ⟨⟨(i : Int), .inr ⟨i, rfl, by omega, hall, x14, hx14, by rw [hbv, c16]⟩⟩, rfl, hw.bel⟩)
  refine zk (zN (zT (zG ?_)))
  refine TL.v (gD ((i + 1 : Nat) : Int)) ?_
  refine TL.mv ?_
  refine zE ?_
  exact TX.round (⟨i + 1, by omega, fun r hr => by rcases (mem_take_snoc hx14).1 hr with h9 | h9; exact hall r h9; rw [h9, hbv, c16]⟩) (by show l.length - (i + 1) < l.length - i; omega) ⟨rfl, rfl, rfl, rfl, trivial⟩ (fun w1 hw => hw)
 have q9 := of_decide_eq_false h9
 refine zET (zS (zd (zx (zX (zX (zM (zT (zSG (TL.as_ ?_)))))))))
 refine zET (zr ?_)
 exact ret_tmp Tryz.results131 rfl (fun w1 hw => ⟨⟨-1, .inl ⟨rfl, by rw [List.take_of_length_le (by omega)] at hall; exact hall⟩⟩, rfl, hw.bel⟩)
theorem delG_any (w0 : Base) (F : List Pc) (A0 : Option Addr) (c0 : Nat) (l : List Rs) (p : Rs → Bool) (f : FuncId) (fn : Func) (cap : Array Value) (w : World) (hw0 : Pm w0 ([.row (.slice A0 l.length c0) 65 17 l.length (flat Rs.cells l)] ++ F) w) (hl1 : l.length ≤ 100000) (hmc : l.length ≤ c0) (hcm : c0 ≤ maxLen) (hfn : Tryz.prog.funcs[f]? = some fn) (hnm : (fn.name == "runtime.NumGoroutine") = false) (hbd : fn.body.isNone = false) (hf : ∀ (x : Rs) (w1 : World), (∃ L1, Pm w0 (L1 ++ F) w1) → Calls Tryz.prog f (#[] ++ [Value.agg x.cells.toArray].toArray ++ cap) w1 fun e w' => e = .returned (.bool (p x)) ∧ Below w1.heap.size w1 w') :
  Calls Tryz.prog 108 #[.slice A0 l.length c0, .func (.func f) #[] cap] w fun e w' => e = .returned (.slice A0 (l.filter fun r => !p r).length c0) ∧ Pm w0 ([.row (.slice A0 (l.filter fun r => !p r).length c0) 65 17 (l.filter fun r => !p r).length (flat Rs.cells (l.filter fun r => !p r))] ++ F) w' := by
 refine begin_ (vs := [.slice A0 l.length c0, .func (.func f) #[] cap]) (I := Pm w0 ([.row (.slice A0 l.length c0) 65 17 l.length (flat Rs.cells l)] ++ F)) Tryz.func108 rfl rfl rfl ?_ hw0
 refine zSG (TL.as_ ?_)
 refine zET (zSG (TL.rn 2 rfl ?_))
 refine TL.call (α := {z : Int // IxOk p l z}) (r := fun x => .int .i64 x.1) (I' := fun _ => Pm w0 ([.row (.slice A0 l.length c0) 65 17 l.length (flat Rs.cells l)] ++ F)) rfl rfl rfl rfl rfl Tryz.func131 (by decide) rfl (fun w1 hw => (ixG_any A0 c0 l p f fn cap w1 (pm_rd hw (k := 0) rfl) (by omega) hfn hnm hbd (fun x w2 hb => hf x w2 ⟨_, hw.below hb⟩)).mono fun en w2 ⟨x, h1, h2⟩ => ⟨x, h1, hw.below h2⟩) ?_
 rintro ⟨z, hz⟩
 refine TL.as_ ?_
 refine zET (zS (zSG (TL.mv ?_)))
 refine TL.sp bin_eql (fun q12 => ?_) (fun q12 => ?_)
 ·refine zET (zc (zSG (TL.rn 2 rfl (zET (zr (zR ?_))))))
  have hE := all_keep (hz.elim (fun h => h.2) (fun ⟨i, h, _⟩ => absurd (show (i : Int) = -1 from h.symm.trans q12) (by omega)))
  exact ret_tmp Tryz.results108 rfl (fun w1 hw => by rw [hE]; exact ⟨rfl, hw⟩)
 obtain ⟨i, rfl, hi, hall, y0, hy0, hpy⟩ : ∃ i : Nat, z = (i : Int) ∧ i < l.length ∧ (∀ r ∈ l.take i, p r = false) ∧ ∃ y, l[i]? = some y ∧ p y = true := hz.resolve_left fun h => q12 h.1
 refine zET (zd (zk (zT (zS (zSG (TL.mv ?_))))))
 refine TL.v (gD ((i + 1 : Nat) : Int)) ?_
 refine TL.as_ ?_
 refine zET (zB (TC.loop_ (α := {y : Nat × Nat × List Rs // DelI p l y.1 y.2.1 y.2.2}) (fun y => [(0, .slice A0 l.length c0), (1, .func (.func f) #[] cap), (5, .int .i64 ((y.1.1 : Nat) : Int)), (6, .int .i64 ((y.1.2.1 : Nat) : Int))]) (fun y => Pm w0 ([.row (.slice A0 l.length c0) 65 17 l.length (flat Rs.cells y.1.2.2)] ++ F)) (fun y => l.length - y.1.2.1) (⟨(i, i + 1, l), DelI.start hi hall hy0 hpy⟩) ⟨rfl, rfl, rfl, rfl, trivial⟩ (fun w1 hw => hw) ?_))
 rintro ⟨⟨k, j, ys⟩, hD⟩
 dsimp only at hD ⊢
 have hyl := hD.len
 have hkj := hD.kj
 have hjn := hD.jn
 refine zS (zSG (TL.rn 2 rfl (TL.v (gN Tryz.underlying23) ?_)))
 refine TL.sp bin_lss (fun q19 => ?_) (fun q19 => ?_)
 ·refine zET (zc (zk (zT (zS (zB (zSG (TL.rn 2 rfl ?_)))))))
  refine TL.fact (p := ∃ g, A0 = some ⟨g, 0, none⟩) (fun w1 hw => rowA hw (k := 0) rfl (by omega)) ?_
  rintro ⟨g_A0, rfl⟩
  have hi24 : j < ys.length := by omega
  obtain ⟨x24, hx24⟩ := ex_at hi24
  refine TL.val rfl rfl rfl (gA (i := j) Tryz.underlying23 prssz65 rfl rfl rfl rfl rfl (by omega)) ?_
  refine TL.val rfl rfl rfl (gives_loadR (off := 0 + j * 17) rfl rfl prsag65 prssz65 (rs_cel.len x24) (fun w1 hw j9 u9 h9 => flat_row rs_cel hw (q := 0) rfl hx24 j9 u9 h9)) ?_
  refine TL.pnew rfl rfl rfl (exec_alloc (cs := [.int .i64 0, .int .i64 0, .int .i64 0, .int .i64 0, .int .u32 0, .int .i64 0, .int .i64 0, .int .i64 0, .bool false, .bool false, .int .i64 0, .int .u32 0, .int .i64 0, .int .i64 0, .int .i64 0, .int .i64 0, .int .i64 0]) rfl arpzv65 rfl) (fun g7 => ?_)
  refine TL.pstore (k := 0) (vs := x24.cells) rfl rfl rfl rfl rfl rfl rfl prssz65 (rs_cel.one _) (by show 17 ≤ 17; decide) (L' := ([.blk g7 65 x24.cells, .row (.slice (some ⟨g_A0, 0, none⟩) l.length c0) 65 17 l.length (flat Rs.cells ys)] ++ F)) rfl ?_
  refine zET (zSG (TL.mv ?_))
  refine TL.v (gV 0 (.agg (x24.cells).toArray) prsag65 prssz65) ?_
  obtain ⟨bv, hbv⟩ : ∃ b, p x24 = b := ⟨_, rfl⟩
  refine TL.callE1 (r := .bool bv) rfl rfl rfl (ent_val rfl rfl rfl hfn hnm hbd rfl) (fun w1 hw => by rw [← hbv]; exact hf x24 w1 ⟨_, hw⟩) ?_
  refine TL.val rfl rfl rfl (gives_boolnot (b := bv) rfl rfl) ?_
  refine zET ?_
  refine TC.split (t := (!bv)) rfl (fun c29 => ?_) (fun c29 => ?_)
  ·refine zSG (TL.rn 2 rfl (TL.v (gV 0 (.agg (x24.cells).toArray) prsag65 prssz65) ?_))
   have hi33 : k < ys.length := by omega
   obtain ⟨x33, hx33⟩ := ex_at hi33
   refine TL.val rfl rfl rfl (gA (i := k) Tryz.underlying23 prssz65 rfl rfl rfl rfl rfl (by omega)) ?_
   refine TL.rowset (k := 1) (vs := x24.cells) (xs' := flat Rs.cells (ys.set k x24)) rfl rfl rfl rfl rfl rfl rfl prssz65 (rs_cel.one _) (by rw [flat_len rs_cel]; show 0 + k * 17 + 17 ≤ _; omega) (flat_put rs_cel (q := 0) (y := x24) hx33 (by show 0 + 17 ≤ 17; decide) rfl) ?_
   try dsimp only [List.set_cons_zero, List.set_cons_succ]
   refine zET (zG (TL.mv ?_))
   refine TL.v (gD ((k + 1 : Nat) : Int)) ?_
   refine TL.as_ ?_
   refine zE (zN (zT (zG (TL.mv ?_))))
   refine TL.v (gD ((j + 1 : Nat) : Int)) ?_
   refine TL.as_ ?_
   refine zE ?_
   exact TX.round (⟨(k + 1, j + 1, ys.set k x24), hD.keep (by omega) hx24 (by rw [hbv]; simpa using c29)⟩) (by show l.length - (j + 1) < l.length - j; omega) ⟨rfl, rfl, rfl, rfl, trivial⟩ (fun w1 hw => hw.sel (.cons _ (.cons_cons _ (List.Sublist.refl _))))
  refine zk (zN (zT (zG ?_)))
  refine TL.mv ?_
  refine TL.v (gD ((j + 1 : Nat) : Int)) ?_
  refine TL.as_ ?_
  refine zE ?_
  exact TX.round (⟨(k, j + 1, ys), hD.out (by omega) hx24 (by rw [hbv]; simpa using c29)⟩) (by show l.length - (j + 1) < l.length - j; omega) ⟨rfl, rfl, rfl, rfl, trivial⟩ (fun w1 hw => hw.sel (.cons _ (.cons_cons _ (List.Sublist.refl _))))
 refine zET (zd (zx (zX (zX (zM (zT (zS (TC.fact (p := ∃ g, A0 = some ⟨g, 0, none⟩) (fun w1 hw => rowA hw (k := 0) rfl (by omega)) ?_))))))))
 rintro ⟨g_A0, rfl⟩
 refine zG (TL.rn 2 rfl ?_)
 refine TL.val rfl rfl rfl (gives_tailF (q := k) rfl rfl rfl rfl Tryz.underlying23 prssz65 (by omega) (by omega)) ?_
 refine TL.clearF rs_cel (kk := 0) (q := k) (z := Rs.zero) rfl rfl rfl rfl Tryz.underlying23 arpzv65 (by omega) (by omega) rfl ?_
 try dsimp only [List.set_cons_zero, List.set_cons_succ]
 refine zET (zSG (TL.rn 2 rfl ?_))
 refine TL.headF rs_cel (kk := 0) (hi := k) rfl rfl rfl rfl rfl rfl Tryz.underlying23 prssz65 rfl (by omega) (by omega) ?_
 try dsimp only [List.set_cons_zero, List.set_cons_succ]
 refine TL.as_ ?_
 refine zET (zr ?_)
 obtain ⟨hf1, hf2⟩ := hD.fin (by omega) (n := l.length - k) (z := Rs.zero)
 exact ret_tmp Tryz.results108 rfl (fun w1 hw => by rw [← hf1, List.length_take_of_le (by rw [List.length_append, List.length_take, List.length_replicate]; have := hD.len; have := hD.kj; omega)]; exact ⟨rfl, hw⟩)
set_option maxRecDepth 20000
def IxS (d : Nat → Bool) (n : Nat) (y : Int × Nat) : Prop := (y.1 = -1 ∧ y.2 = n ∧ ∀ j, j < n → d j = false) ∨ ∃ i : Nat, y.1 = (i : Int) ∧ y.2 = i + 1 ∧ i < n ∧ (∀ j, j < i → d j = false) ∧ d i = true
def KpS (d : Nat → Bool) (l : List Rs) (K : Nat → List Rs) : Prop := K 0 = [] ∧ ∀ j x, l[j]? = some x → K (j + 1) = if d j then K j else K j ++ [x]
structure DelS (d : Nat → Bool) (l : List Rs) (K : Nat → List Rs) (k j : Nat) (ys : List Rs) : Prop where
 len : ys.length = l.length
 kj : k < j
 jn : j ≤ l.length
 pre : ys.take k = K j
 post : ∀ q, j ≤ q → ys[q]? = l[q]?
section
variable {d : Nat → Bool} {K : Nat → List Rs} {l ys : List Rs} {k j i : Nat} {x : Rs}
theorem KpS.none (hK : KpS d l K) (h : ∀ q, q < j → d q = false) (hj : j ≤ l.length) : K j = l.take j := by
 induction j with
 | zero => rw [List.take_zero]; exact hK.1
 | succ j ih =>
  rw [hK.2 j l[j] (List.getElem?_eq_getElem hj), h j (Nat.lt_succ_self _), List.take_add_one, List.getElem?_eq_getElem hj, ih (fun q hq => h q (by omega)) (by omega)]
  rfl
theorem DelS.start (hK : KpS d l K) (hi : i < l.length) (h : ∀ q, q < i → d q = false) (hp : d i = true) : DelS d l K i (i + 1) l := ⟨rfl, Nat.lt_succ_self _, hi, by
 rw [hK.2 i l[i] (List.getElem?_eq_getElem hi), if_pos hp, hK.none h (by omega)], fun q _ => rfl⟩
theorem DelS.at_ (h : DelS d l K k j ys) (hx : ys[j]? = some x) : l[j]? = some x := by rw [← h.post j (Nat.le_refl _)]; exact hx
theorem DelS.out (hK : KpS d l K) (h : DelS d l K k j ys) (hj : j < l.length) (hx : ys[j]? = some x) (hp : d j = true) : DelS d l K k (j + 1) ys := ⟨h.len, by have := h.kj; omega, hj, by
 rw [hK.2 j x (h.at_ hx), if_pos hp]; exact h.pre, fun q hq => h.post q (by omega)⟩
theorem DelS.keep (hK : KpS d l K) (h : DelS d l K k j ys) (hj : j < l.length) (hx : ys[j]? = some x) (hp : d j = false) : DelS d l K (k + 1) (j + 1) (ys.set k x) := ⟨by rw [List.length_set]; exact h.len, by have := h.kj; omega, hj, by
 have hk : k < ys.length := by have := h.kj; have := h.len; omega
 rw [hK.2 j x (h.at_ hx), hp, List.take_add_one, List.getElem?_set_self hk, List.take_set_of_le (Nat.le_refl _), h.pre]
 rfl, fun q hq => by rw [List.getElem?_set_ne (by have := h.kj; omega)]; exact h.post q (by omega)⟩
theorem DelS.fin (h : DelS d l K k j ys) (hj : l.length ≤ j) {n : Nat} {z : Rs} : (ys.take k ++ List.replicate n z).take k = K l.length ∧ (K l.length).length = k := by
 have hk : k ≤ ys.length := by have := h.kj; have := h.len; have := h.jn; omega
 have e := h.pre
 have ej : j = l.length := Nat.le_antisymm h.jn hj
 rw [ej] at e
 have e2 : (ys.take k).length = k := by rw [List.length_take]; omega
 refine ⟨by rw [List.take_left' e2]; exact e, ?_⟩
 rw [← e]; exact e2
end
theorem lt_snoc {d : Nat → Bool} {i : Nat} (h : ∀ j, j < i → d j = false) (hi : d i = false) : ∀ j, j < i + 1 → d j = false := fun j hj => by
 rcases Nat.lt_or_ge j i with h9 | h9
 ·exact h j h9
 obtain rfl : j = i := by omega
 exact hi
theorem ixS_fr (w0 : Base) (F : List Pc) {σ : Type} (St : σ → Pc) (Kn : Nat → σ → Prop) (s0 : σ) (d : Nat → Bool) (f : FuncId) (fn : Func) (cap : Array Value) (A0 : Option Addr) (c0 : Nat) (l : List Rs) (w : World) (hw0 : Pm w0 (([.row (.slice A0 l.length c0) 65 17 l.length (flat Rs.cells l)] ++ [St s0]) ++ F) w) (hl1 : l.length ≤ 100000) (hfn : Tryz.prog.funcs[f]? = some fn) (hnm : (fn.name == "runtime.NumGoroutine") = false) (hbd : fn.body.isNone = false) (hs0 : Kn 0 s0) (hf : ∀ (j : Nat) (x : Rs) (s : σ) (w1 : World) (L1 : List Pc), l[j]? = some x → Kn j s → Pm w0 (L1 ++ ([St s] ++ F)) w1 → Calls Tryz.prog f (#[] ++ [Value.agg x.cells.toArray].toArray ++ cap) w1 fun e w' => ∃ s2 : {s2 : σ // Kn (j + 1) s2}, e = .returned (.bool (d j)) ∧ Pm w0 (L1 ++ ([St s2.1] ++ F)) w') :
  Calls Tryz.prog 131 #[.slice A0 l.length c0, .func (.func f) #[] cap] w fun e w' => ∃ x : {y : (Int × Nat) × σ // IxS d l.length y.1 ∧ Kn y.1.2 y.2}, e = .returned (.int .i64 x.1.1.1) ∧ Pm w0 ([.row (.slice A0 l.length c0) 65 17 l.length (flat Rs.cells l)] ++ ([St x.1.2] ++ F)) w' := by
 refine begin_ (vs := [.slice A0 l.length c0, .func (.func f) #[] cap]) (I := Pm w0 (([.row (.slice A0 l.length c0) 65 17 l.length (flat Rs.cells l)] ++ [St s0]) ++ F)) Tryz.func131 rfl rfl rfl ?_ hw0
 refine zSG (TL.as_ ?_)
 refine zET (zS (zSG (TL.mv ?_)))
 refine TL.v (gN Tryz.underlying23) ?_
 refine TL.mv ?_
 refine zET (zB (TC.loop_ (α := {y : Nat × σ // y.1 ≤ l.length ∧ Kn y.1 y.2 ∧ ∀ j, j < y.1 → d j = false}) (fun y => [(0, .slice A0 l.length c0), (1, .func (.func f) #[] cap), (7, .int .i64 (l.length : Nat)), (8, .int .i64 ((y.1.1 : Nat) : Int))]) (fun y => Pm w0 ([.row (.slice A0 l.length c0) 65 17 l.length (flat Rs.cells l), St y.1.2] ++ F)) (fun y => l.length - y.1.1) (⟨(0, s0), Nat.zero_le _, hs0, fun j hj => absurd hj (by omega)⟩) ⟨rfl, rfl, rfl, rfl, trivial⟩ (fun w1 hw => hw) ?_))
 rintro ⟨⟨i, s⟩, hi, hs, hall⟩
 dsimp only at hi hs hall ⊢
 refine zSG ?_
 refine TL.vsplit rfl rfl rfl (gives_bin rfl rfl rfl (fun w => bin_lss w)) (fun h9 => ?_) (fun h9 => ?_)
 ·have q9 := of_decide_eq_true h9
  refine zET (zS (zc (zk (zT (zS (zB (zSG (TL.rn 2 rfl (zET (zSG (TL.rn 3 rfl ?_)))))))))))
  refine TL.fact (p := ∃ g, A0 = some ⟨g, 0, none⟩) (fun w1 hw => rowA hw (k := 0) rfl (by omega)) ?_
  rintro ⟨g_A0, rfl⟩
  have hi14 : i < l.length := by omega
  obtain ⟨x14, hx14⟩ := ex_at hi14
  refine TL.val rfl rfl rfl (gA (i := i) Tryz.underlying23 prssz65 rfl rfl rfl rfl rfl (by omega)) ?_
  refine TL.val rfl rfl rfl (gives_loadR (off := 0 + i * 17) rfl rfl prsag65 prssz65 (rs_cel.len x14) (fun w1 hw j9 u9 h9 => flat_row rs_cel hw (q := 0) rfl hx14 j9 u9 h9)) ?_
  obtain ⟨bv, hbv⟩ : ∃ b, d i = b := ⟨_, rfl⟩
  refine TL.callE (α := {s : σ // Kn (i + 1) s}) (r := fun _ => .bool bv) (I' := fun x => Pm w0 ([.row (.slice (some ⟨g_A0, 0, none⟩) l.length c0) 65 17 l.length (flat Rs.cells l), St x.1] ++ F)) rfl rfl rfl (ent_val rfl rfl rfl hfn hnm hbd rfl) (fun w1 hw => (hf i x14 s w1 [.row (.slice (some ⟨g_A0, 0, none⟩) l.length c0) 65 17 l.length (flat Rs.cells l)] hx14 hs hw).mono fun en w2 ⟨x, h1, h2⟩ => ⟨x, by rw [h1, hbv], h2⟩) ?_
  rintro ⟨sa, hsa⟩
  refine zET ?_
  refine TC.split (t := bv) rfl (fun c16 => ?_) (fun c16 => ?_)
  ·refine zSG (TL.rn 2 rfl (zET (zr (zRR (zR (zRR ?_))))))
   exact ret_tmp Tryz.results131 rfl (fun w1 hw => ⟨⟨((((i : Nat) : Int), i + 1), sa), .inr ⟨i, rfl, rfl, by omega, hall, by rw [hbv]; exact c16⟩, hsa⟩, rfl, hw⟩)
  refine zk (zN (zT (zG ?_)))
  refine TL.v (gD ((i + 1 : Nat) : Int)) ?_
  refine TL.mv ?_
  refine zE ?_
  exact TX.round (⟨(i + 1, sa), by dsimp only; omega, hsa, lt_snoc hall (by rw [hbv]; exact c16)⟩) (by show l.length - (i + 1) < l.length - i; omega) ⟨rfl, rfl, rfl, rfl, trivial⟩ (fun w1 hw => hw)
 have q9 := of_decide_eq_false h9
 refine zET (zS (zd (zx (zX (zX (zM (zT (zSG (TL.as_ ?_)))))))))
 refine zET (zr ?_)
 obtain rfl : i = l.length := by omega
 exact ret_tmp Tryz.results131 rfl (fun w1 hw => ⟨⟨((-1, l.length), s), .inl ⟨rfl, rfl, fun j hj => hall j (by omega)⟩, hs⟩, rfl, hw⟩)
theorem delS_fr (w0 : Base) (F : List Pc) {σ : Type} (St : σ → Pc) (Kn : Nat → σ → Prop) (s0 : σ) (d : Nat → Bool) (f : FuncId) (fn : Func) (cap : Array Value) (K : Nat → List Rs) (A0 : Option Addr) (c0 : Nat) (l : List Rs) (w : World) (hw0 : Pm w0 (([.row (.slice A0 l.length c0) 65 17 l.length (flat Rs.cells l)] ++ [St s0]) ++ F) w) (hl1 : l.length ≤ 100000) (hmc : l.length ≤ c0) (hcm : c0 ≤ maxLen) (hK : KpS d l K) (hfn : Tryz.prog.funcs[f]? = some fn) (hnm : (fn.name == "runtime.NumGoroutine") = false) (hbd : fn.body.isNone = false) (hs0 : Kn 0 s0) (hf : ∀ (j : Nat) (x : Rs) (s : σ) (w1 : World) (L1 : List Pc), l[j]? = some x → Kn j s → Pm w0 (L1 ++ ([St s] ++ F)) w1 → Calls Tryz.prog f (#[] ++ [Value.agg x.cells.toArray].toArray ++ cap) w1 fun e w' => ∃ s2 : {s2 : σ // Kn (j + 1) s2}, e = .returned (.bool (d j)) ∧ Pm w0 (L1 ++ ([St s2.1] ++ F)) w') :
  Calls Tryz.prog 108 #[.slice A0 l.length c0, .func (.func f) #[] cap] w fun e w' => ∃ s2 : {s2 : σ // Kn l.length s2}, e = .returned (.slice A0 (K l.length).length c0) ∧ Pm w0 ([.row (.slice A0 (K l.length).length c0) 65 17 (K l.length).length (flat Rs.cells (K l.length))] ++ ([St s2.1] ++ F)) w' := by
 refine begin_ (vs := [.slice A0 l.length c0, .func (.func f) #[] cap]) (I := Pm w0 (([.row (.slice A0 l.length c0) 65 17 l.length (flat Rs.cells l)] ++ [St s0]) ++ F)) Tryz.func108 rfl rfl rfl ?_ hw0
 refine zSG (TL.as_ ?_)
 refine zET (zSG (TL.rn 2 rfl ?_))
 refine TL.call (α := {y : (Int × Nat) × σ // IxS d l.length y.1 ∧ Kn y.1.2 y.2}) (r := fun x => .int .i64 x.1.1.1) (I' := fun x => Pm w0 ([.row (.slice A0 l.length c0) 65 17 l.length (flat Rs.cells l), St x.1.2] ++ F)) rfl rfl rfl rfl rfl Tryz.func131 (by decide) rfl (fun w1 hw => ixS_fr w0 F St Kn s0 d f fn cap A0 c0 l w1 hw hl1 hfn hnm hbd hs0 hf) ?_
 rintro ⟨⟨⟨z, m⟩, sb0⟩, hz, hsb0⟩
 dsimp only at hz hsb0 ⊢
 refine TL.as_ ?_
 refine zET (zS (zSG (TL.mv ?_)))
 refine TL.sp bin_eql (fun q12 => ?_) (fun q12 => ?_)
 ·refine zET (zc (zSG (TL.rn 2 rfl (zET (zr (zR ?_))))))
  have hm9 : m = l.length ∧ ∀ j, j < l.length → d j = false := hz.elim (fun h => h.2) (fun ⟨i, h, _⟩ => absurd (show (i : Int) = -1 from h.symm.trans q12) (by omega))
  obtain ⟨rfl, hm9⟩ := hm9
  have hE : K l.length = l := by rw [hK.none hm9 (Nat.le_refl _), List.take_length]
  exact ret_tmp Tryz.results108 rfl (fun w1 hw => by rw [hE]; exact ⟨⟨sb0, hsb0⟩, rfl, hw⟩)
 obtain ⟨i, rfl, rfl, hi, hall, hpy⟩ : ∃ i : Nat, z = (i : Int) ∧ m = i + 1 ∧ i < l.length ∧ (∀ j, j < i → d j = false) ∧ d i = true := hz.resolve_left fun h => q12 h.1
 refine zET (zd (zk (zT (zS (zSG (TL.mv ?_))))))
 refine TL.v (gD ((i + 1 : Nat) : Int)) ?_
 refine TL.as_ ?_
 refine zET (zB (TC.loop_ (α := {y : Nat × Nat × List Rs × σ // DelS d l K y.1 y.2.1 y.2.2.1 ∧ Kn y.2.1 y.2.2.2}) (fun y => [(0, .slice A0 l.length c0), (1, .func (.func f) #[] cap), (5, .int .i64 ((y.1.1 : Nat) : Int)), (6, .int .i64 ((y.1.2.1 : Nat) : Int))]) (fun y => Pm w0 ([.row (.slice A0 l.length c0) 65 17 l.length (flat Rs.cells y.1.2.2.1), St y.1.2.2.2] ++ F)) (fun y => l.length - y.1.2.1) (⟨(i, i + 1, l, sb0), DelS.start hK hi hall hpy, hsb0⟩) ⟨rfl, rfl, rfl, rfl, trivial⟩ (fun w1 hw => hw) ?_))
 rintro ⟨⟨k, j, ys, sb⟩, hD, hsb⟩
 dsimp only at hD hsb ⊢
 have hyl := hD.len
 have hkj := hD.kj
 have hjn := hD.jn
 refine zS (zSG (TL.rn 2 rfl (TL.v (gN Tryz.underlying23) ?_)))
 refine TL.sp bin_lss (fun q19 => ?_) (fun q19 => ?_)
 ·refine zET (zc (zk (zT (zS (zB (zSG (TL.rn 2 rfl ?_)))))))
  refine TL.fact (p := ∃ g, A0 = some ⟨g, 0, none⟩) (fun w1 hw => rowA hw (k := 0) rfl (by omega)) ?_
  rintro ⟨g_A0, rfl⟩
  have hi24 : j < ys.length := by omega
  obtain ⟨x24, hx24⟩ := ex_at hi24
  refine TL.val rfl rfl rfl (gA (i := j) Tryz.underlying23 prssz65 rfl rfl rfl rfl rfl (by omega)) ?_
  refine TL.val rfl rfl rfl (gives_loadR (off := 0 + j * 17) rfl rfl prsag65 prssz65 (rs_cel.len x24) (fun w1 hw j9 u9 h9 => flat_row rs_cel hw (q := 0) rfl hx24 j9 u9 h9)) ?_
  refine TL.pnew rfl rfl rfl (exec_alloc (cs := [.int .i64 0, .int .i64 0, .int .i64 0, .int .i64 0, .int .u32 0, .int .i64 0, .int .i64 0, .int .i64 0, .bool false, .bool false, .int .i64 0, .int .u32 0, .int .i64 0, .int .i64 0, .int .i64 0, .int .i64 0, .int .i64 0]) rfl arpzv65 rfl) (fun g7 => ?_)
  refine TL.pstore (k := 0) (vs := x24.cells) rfl rfl rfl rfl rfl rfl rfl prssz65 (rs_cel.one _) (by show 17 ≤ 17; decide) (L' := ([.blk g7 65 x24.cells, .row (.slice (some ⟨g_A0, 0, none⟩) l.length c0) 65 17 l.length (flat Rs.cells ys), St sb] ++ F)) rfl ?_
  refine zET (zSG (TL.mv ?_))
  refine TL.v (gV 0 (.agg (x24.cells).toArray) prsag65 prssz65) ?_
  obtain ⟨bv, hbv⟩ : ∃ b, d j = b := ⟨_, rfl⟩
  refine TL.callE (α := {s : σ // Kn (j + 1) s}) (r := fun _ => .bool bv) (I' := fun x => Pm w0 ([.blk g7 65 x24.cells, .row (.slice (some ⟨g_A0, 0, none⟩) l.length c0) 65 17 l.length (flat Rs.cells ys), St x.1] ++ F)) rfl rfl rfl (ent_val rfl rfl rfl hfn hnm hbd rfl) (fun w1 hw => (hf j x24 sb w1 [.blk g7 65 x24.cells, .row (.slice (some ⟨g_A0, 0, none⟩) l.length c0) 65 17 l.length (flat Rs.cells ys)] (hD.at_ hx24) hsb hw).mono fun en w2 ⟨x, h1, h2⟩ => ⟨x, by rw [h1, hbv], h2⟩) ?_
  rintro ⟨sc, hsc⟩
  refine TL.val rfl rfl rfl (gives_boolnot (b := bv) rfl rfl) ?_
  refine zET ?_
  refine TC.split (t := (!bv)) rfl (fun c29 => ?_) (fun c29 => ?_)
  ·refine zSG (TL.rn 2 rfl (TL.v (gV 0 (.agg (x24.cells).toArray) prsag65 prssz65) ?_))
   have hi33 : k < ys.length := by omega
   obtain ⟨x33, hx33⟩ := ex_at hi33
   refine TL.val rfl rfl rfl (gA (i := k) Tryz.underlying23 prssz65 rfl rfl rfl rfl rfl (by omega)) ?_
   refine TL.rowset (k := 1) (vs := x24.cells) (xs' := flat Rs.cells (ys.set k x24)) rfl rfl rfl rfl rfl rfl rfl prssz65 (rs_cel.one _) (by rw [flat_len rs_cel]; show 0 + k * 17 + 17 ≤ _; omega) (flat_put rs_cel (q := 0) (y := x24) hx33 (by show 0 + 17 ≤ 17; decide) rfl) ?_
   try dsimp only [List.set_cons_zero, List.set_cons_succ]
   refine zET (zG (TL.mv ?_))
   refine TL.v (gD ((k + 1 : Nat) : Int)) ?_
   refine TL.as_ ?_
   refine zE (zN (zT (zG (TL.mv ?_))))
   refine TL.v (gD ((j + 1 : Nat) : Int)) ?_
   refine TL.as_ ?_
   refine zE ?_
   exact TX.round (⟨(k + 1, j + 1, ys.set k x24, sc), hD.keep hK (by omega) hx24 (by rw [hbv]; simpa using c29), hsc⟩) (by show l.length - (j + 1) < l.length - j; omega) ⟨rfl, rfl, rfl, rfl, trivial⟩ (fun w1 hw => hw.sel (.cons _ (.cons_cons _ (.cons_cons _ (List.Sublist.refl _)))))
  refine zk (zN (zT (zG ?_)))
  refine TL.mv ?_
  refine TL.v (gD ((j + 1 : Nat) : Int)) ?_
  refine TL.as_ ?_
  refine zE ?_
  exact TX.round (⟨(k, j + 1, ys, sc), hD.out hK (by omega) hx24 (by rw [hbv]; simpa using c29), hsc⟩) (by show l.length - (j + 1) < l.length - j; omega) ⟨rfl, rfl, rfl, rfl, trivial⟩ (fun w1 hw => hw.sel (.cons _ (.cons_cons _ (.cons_cons _ (List.Sublist.refl _)))))
 refine zET (zd (zx (zX (zX (zM (zT (zS (TC.fact (p := ∃ g, A0 = some ⟨g, 0, none⟩) (fun w1 hw => rowA hw (k := 0) rfl (by omega)) ?_))))))))
 rintro ⟨g_A0, rfl⟩
 refine zG (TL.rn 2 rfl ?_)
 refine TL.val rfl rfl rfl (gives_tailF (q := k) rfl rfl rfl rfl Tryz.underlying23 prssz65 (by omega) (by omega)) ?_
 refine TL.clearF rs_cel (kk := 0) (q := k) (z := Rs.zero) rfl rfl rfl rfl Tryz.underlying23 arpzv65 (by omega) (by omega) rfl ?_
 try dsimp only [List.set_cons_zero, List.set_cons_succ]
 refine zET (zSG (TL.rn 2 rfl ?_))
 refine TL.headF rs_cel (kk := 0) (hi := k) rfl rfl rfl rfl rfl rfl Tryz.underlying23 prssz65 rfl (by omega) (by omega) ?_
 try dsimp only [List.set_cons_zero, List.set_cons_succ]
 refine TL.as_ ?_
 refine zET (zr ?_)
 obtain ⟨hf1, hf2⟩ := hD.fin (by omega) (n := l.length - k) (z := Rs.zero)
 obtain rfl : j = l.length := by omega
 exact ret_tmp Tryz.results108 rfl (fun w1 hw => by rw [← hf1, List.length_take_of_le (by rw [List.length_append, List.length_take, List.length_replicate]; have := hD.len; have := hD.kj; omega)]; exact ⟨⟨sb, hsb⟩, rfl, hw⟩)
structure MKey (P : Program) (k : TypeId) {κ : Type} (enc : κ → Value) (Ok : κ → Prop) : Prop where
  keyed : Maps.Keyed P k
  lit : ∀ a, Ok a → ∃ l, keyOf P k (enc a) = some l
  inj : ∀ a b, enc a = enc b → a = b
def MapG {κ : Type} (enc : κ → Value) (Ok : κ → Prop) (o : Obj) (f : κ → Option Value) : Prop :=
  ∃ (es : Array MapEntry) (clock : Nat), o = .map es clock ∧ (∀ e ∈ es.toList, ∃ a, Ok a ∧ e.key = enc a) ∧ (es.toList.map (·.key)).Nodup ∧ ∀ a v, f a = some v ↔ ∃ e ∈ es.toList, e.key = enc a ∧ e.val = v
section
variable {P : Program} {t k e : TypeId} {κ : Type} {enc : κ → Value} {Ok : κ → Prop} {o : Obj} {g : Nat} {f : κ → Option Value} {w : World}
theorem mapG_new (enc : κ → Value) (Ok : κ → Prop) : MapG enc Ok (.map #[] 0) (fun _ => none) :=
  ⟨#[], 0, rfl, fun e h => absurd h List.not_mem_nil, List.nodup_nil, fun a v => ⟨fun h => by (cases h), fun ⟨e, h, _⟩ => absurd h List.not_mem_nil⟩⟩
theorem MapG.find {es : Array MapEntry} {clock : Nat} (h : MapG enc Ok (.map es clock) f) (K : MKey P k enc Ok) {a : κ} (ha : Ok a) (w : World) :
    ((Instr.findKey k (enc a) es.toList).run P w = .ok none w ∧ f a = none) ∨ ∃ j e, (Instr.findKey k (enc a) es.toList).run P w = .ok (some (j, e.val)) w ∧ es[j]? = some e ∧ e.key = enc a ∧ f a = some e.val := by
  obtain ⟨es', clock', he, hk, hnd, hf⟩ := h
  cases he
  obtain ⟨l, hl⟩ := K.lit a ha
  rcases K.keyed.find w hl es.toList (fun e he => by obtain ⟨b, hb, e1⟩ := hk e he; rw [e1]; exact K.lit b hb) with ⟨h1, h2⟩ | ⟨j, e, h1, h2, h3⟩
  · refine .inl ⟨h1, ?_⟩
    cases hfa : f a with
    | none => rfl
    | some v =>
      obtain ⟨e, he, e1, _⟩ := (hf a v).1 hfa
      exact absurd e1 (h2 e he)
  · refine .inr ⟨j, e, h1, by simpa using h2, h3, (hf a e.val).2 ⟨e, List.mem_of_getElem? h2, h3, rfl⟩⟩
theorem MapG.look (h : MapG enc Ok o f) (K : MKey P k enc Ok) (ht : P.underlying t = some (.map k e)) {z : Value} (hz : ∀ w : World, (zeroValue e).run P w = .ok z w) (hb : w.heap[g]? = some o) {a : κ} (ha : Ok a) (co : Bool) :
    (Instr.lookup t (.map (some g)) (enc a) co).run P w = .ok (if co then .tuple #[(f a).getD z, .bool (f a).isSome] else (f a).getD z) w := by
  obtain ⟨es, clock, he, _⟩ := id h
  subst he
  obtain ⟨l, hl⟩ := K.lit a ha
  have hck := K.keyed.check w es.isEmpty hl
  have hgo : (getObj g).run P w = .ok (.map es clock) w := by simp [getObj, Sem.run, hb]
  unfold Instr.lookup
  rcases h.find K ha w with ⟨h1, h2⟩ | ⟨j, e', h1, h2, h3, h4⟩
  · simp [run_underlying ht, hgo, hck, h1, hz, h2]
  · simp [run_underlying ht, hgo, hck, h1, h4]
theorem MapG.put (h : MapG enc Ok o f) (K : MKey P k enc Ok) (ht : P.underlying t = some (.map k e)) (hb : w.heap[g]? = some o) {a : κ} (ha : Ok a) (v : Value) [DecidableEq κ] :
    ∃ o' w', (Instr.mapUpdate t (.map (some g)) (enc a) v).run P w = .ok () w' ∧ w'.heap[g]? = some o' ∧ MapG enc Ok o' (fun x => if x = a then some v else f x) ∧ w.grownBy w' (some g) := by
  obtain ⟨es, clock, he, hk, hnd, hf⟩ := id h
  subst he
  obtain ⟨l, hl⟩ := K.lit a ha
  have hck := K.keyed.check w false hl
  have hst := K.keyed.stays w hl
  have hgo : (getObj g).run P w = .ok (.map es clock) w := by simp [getObj, Sem.run, hb]
  have hlt : g < w.heap.size := (Array.getElem?_eq_some_iff.1 hb).1
  have hso : ∀ ob : Obj, (setObj g ob).run P w = .ok () (w.putObj g ob) := fun ob => by simp [setObj, Sem.run, hb, World.putObj]
  rcases h.find K ha w with ⟨h1, h2⟩ | ⟨j, e', h1, h2, h3, h4⟩
  · refine ⟨.map (es.push ⟨enc a, v, clock⟩) (clock + 1), w.putObj g (.map (es.push ⟨enc a, v, clock⟩) (clock + 1)), ?_, ?_, ⟨_, _, rfl, ?_, ?_, ?_⟩, grownBy_putObj' w g _⟩
    · unfold Instr.mapUpdate
      simp [run_underlying ht, hgo, hck, h1, hso]
    · simp [World.putObj, hlt]
    · intro e1 he1
      simp only [Array.toList_push, List.mem_append, List.mem_singleton] at he1
      rcases he1 with he1 | rfl
      · exact hk e1 he1
      · exact ⟨a, ha, rfl⟩
    · simp only [Array.toList_push, List.map_append, List.map_cons, List.map_nil]
      refine List.nodup_append.2 ⟨hnd, List.pairwise_singleton _ _, fun x hx y hy e1 => ?_⟩
      rw [List.mem_singleton] at hy
      obtain ⟨e2, he2, e3⟩ := List.mem_map.1 hx
      have := (hf a e2.val).2 ⟨e2, he2, by rw [e3, e1, hy], rfl⟩
      rw [h2] at this
      cases this
    · intro x u
      simp only [Array.toList_push, List.mem_append, List.mem_singleton]
      show (if x = a then some v else f x) = some u ↔ _
      by_cases e1 : x = a
      · subst e1
        rw [if_pos rfl]
        constructor
        · intro hu
          cases hu
          exact ⟨_, .inr rfl, rfl, rfl⟩
        · rintro ⟨e2, he2 | rfl, e3, e4⟩
          · have := (hf x e2.val).2 ⟨e2, he2, e3, rfl⟩
            rw [h2] at this
            cases this
          · rw [← e4]
      · rw [if_neg e1, hf]
        constructor
        · rintro ⟨e2, he2, e3⟩
          exact ⟨e2, .inl he2, e3⟩
        · rintro ⟨e2, he2 | rfl, e3⟩
          · exact ⟨e2, he2, e3⟩
          · exact absurd (K.inj _ _ e3.1).symm e1
  · have hjl : j < es.size := (Array.getElem?_eq_some_iff.1 h2).1
    refine ⟨.map (es.modify j fun e => { key := enc a, val := v, born := e.born }) clock, w.putObj g (.map (es.modify j fun e => { key := enc a, val := v, born := e.born }) clock), ?_, ?_, ⟨_, _, rfl, ?_, ?_, ?_⟩, grownBy_putObj' w g _⟩
    · unfold Instr.mapUpdate
      simp [run_underlying ht, hgo, hck, h1, h2, h3, hst, hso]
    · simp [World.putObj, hlt]
    all_goals
      have hm : (es.modify j fun e => { key := enc a, val := v, born := e.born }).toList = es.toList.set j ⟨enc a, v, e'.born⟩ := by
        refine List.ext_getElem? fun i => ?_
        rw [Array.getElem?_toList, Array.getElem?_modify, List.getElem?_set]
        by_cases e1 : j = i
        · subst e1
          rw [if_pos rfl, if_pos rfl, h2, if_pos (by simpa using hjl)]
          rfl
        · rw [if_neg e1, if_neg e1, Array.getElem?_toList]
      rw [hm]
    · intro e1 he1
      rcases List.mem_or_eq_of_mem_set he1 with h5 | rfl
      · exact hk e1 h5
      · exact ⟨a, ha, rfl⟩
    · have : (es.toList.set j ⟨enc a, v, e'.born⟩).map (·.key) = es.toList.map (·.key) := by
        rw [List.map_set]
        refine List.ext_getElem? fun i => ?_
        rw [List.getElem?_set]
        by_cases e1 : j = i
        · subst e1
          rw [if_pos rfl, if_pos (by simpa using hjl), List.getElem?_map, Array.getElem?_toList, h2]
          simp [h3]
        · rw [if_neg e1]
      rw [this]
      exact hnd
    · have hdist : ∀ i e1, es.toList[i]? = some e1 → e1.key = enc a → i = j := fun i e1 hi hk1 => by
        have hi' : i < (es.toList.map (·.key)).length := by rw [List.length_map]; exact (List.getElem?_eq_some_iff.1 hi).1
        refine (List.getElem?_inj hi' hnd).1 ?_
        rw [List.getElem?_map, List.getElem?_map, hi, Array.getElem?_toList, h2]
        simp [hk1, h3]
      intro x u
      show (if x = a then some v else f x) = some u ↔ _
      by_cases e1 : x = a
      · subst e1
        rw [if_pos rfl]
        constructor
        · intro hu
          cases hu
          exact ⟨⟨enc x, v, e'.born⟩, List.mem_set (by rw [Array.length_toList]; exact hjl) _, rfl, rfl⟩
        · rintro ⟨e2, he2, e3, e4⟩
          obtain ⟨i, hi⟩ := List.getElem?_of_mem he2
          rw [List.getElem?_set] at hi
          by_cases e5 : j = i
          · rw [if_pos e5, if_pos (by rw [Array.length_toList]; exact hjl)] at hi
            cases hi
            rw [← e4]
          · rw [if_neg e5] at hi
            exact absurd (hdist i e2 hi e3).symm e5
      · rw [if_neg e1, hf]
        constructor
        · rintro ⟨e2, he2, e3, e4⟩
          obtain ⟨i, hi⟩ := List.getElem?_of_mem he2
          have hij : j ≠ i := fun hh => by
            subst hh
            rw [Array.getElem?_toList, h2] at hi
            cases hi
            rw [h3] at e3
            exact e1 (K.inj _ _ e3).symm
          exact ⟨e2, List.mem_of_getElem? (i := i) (by rw [List.getElem?_set, if_neg hij]; exact hi), e3, e4⟩
        · rintro ⟨e2, he2, e3, e4⟩
          rcases List.mem_or_eq_of_mem_set he2 with h5 | rfl
          · exact ⟨e2, h5, e3, e4⟩
          · exact absurd (K.inj _ _ e3).symm e1
end
section
variable {P : Program} {N : Fr} {Q : Exit → Act → World → Prop} {E : Env} {w0 : Base} {L : List Pc} {ops : Array Oper} {l : List Oper} {o : Oper} {κ : Type} {enc : κ → Value} {Ok : κ → Prop} {t k e : TypeId}
theorem gives_lookG {x y : Operand} {g i : Nat} {ob : Obj} {f : κ → Option Value} {a : κ} {z : Value} (ho : o.op = .lookup t x y false) (hx : ev E x = some (.map (some g))) (hy : ev E y = some (enc a)) (K : MKey P k enc Ok) (ht : P.underlying t = some (.map k e)) (hz : ∀ w : World, (zeroValue e).run P w = .ok z w) (hk : L[i]? = some (.oth g ob)) (hm : MapG enc Ok ob f) (ha : Ok a) {v : Value} (hv : (f a).getD z = v) :
    Gives P N o E (Pm w0 L) v := fun ac w hac hw => by
  unfold execOp; rw [ho]
  subst hv
  simp [hac.eval hx, hac.eval hy, hm.look K ht hz (hw.at_ hk).1 ha false]
theorem gives_lookGOk {x y : Operand} {g i : Nat} {ob : Obj} {f : κ → Option Value} {a : κ} {z : Value} (ho : o.op = .lookup t x y true) (hx : ev E x = some (.map (some g))) (hy : ev E y = some (enc a)) (K : MKey P k enc Ok) (ht : P.underlying t = some (.map k e)) (hz : ∀ w : World, (zeroValue e).run P w = .ok z w) (hk : L[i]? = some (.oth g ob)) (hm : MapG enc Ok ob f) (ha : Ok a) {v : Value} {b : Bool} (hv : (f a).getD z = v) (hb : (f a).isSome = b) :
    Gives P N o E (Pm w0 L) (.tuple #[v, .bool b]) := fun ac w hac hw => by
  unfold execOp; rw [ho]
  subst hv hb
  simp [hac.eval hx, hac.eval hy, hm.look K ht hz (hw.at_ hk).1 ha true]
theorem TL.mapsetG {x y z : Operand} {g i : Nat} {ob : Obj} {f : κ → Option Value} {a : κ} {v : Value} [DecidableEq κ] (hg : o.guard = none) (hd : o.dst = none) (ho : o.op = .mapUpdate t x y z) (hx : ev E x = some (.map (some g))) (hy : ev E y = some (enc a)) (hz : ev E z = some v)
    (K : MKey P k enc Ok) (ht : P.underlying t = some (.map k e)) (hk : L[i]? = some (.oth g ob)) (hnew : Mine w0 g) (hm : MapG enc Ok ob f) (ha : Ok a)
    (h : ∀ ob', MapG enc Ok ob' (fun x => if x = a then some v else f x) → TL P N ops Q l E (Pm w0 (L.set i (.oth g ob')))) : TL P N ops Q (o :: l) E (Pm w0 L) := fun ac w hac hw =>
  wpList_plain hg fun K' hK => by
    obtain ⟨ob', w', hrun, hob, hm', hgr⟩ := hm.put K ht (hw.at_ hk).1 ha v
    have hex : (execOp ac.eval o).run P w = .ok .skip w' := by
      unfold execOp; rw [ho]
      simp only [hac.eval hx, hac.eval hy, hac.eval hz, Sem.run_bind, hrun, Result.andThen_ok, Sem.run_pure]
    unfold Oper.wp
    rw [hex]
    show K' (ac.put o.dst undef) _
    rw [hd]
    exact hK _ _ (h ob' hm' _ _ (hac.put0 _) (hw.turnO hk hnew hgr hob))
end
theorem mkey_int {P : Program} {k : TypeId} {q : IntKind} (hk : P.underlying k = some (.int q)) : MKey P k (Value.int q) (fun a => (Lit.int q a).wf = true) :=
  ⟨Maps.int_keyed hk, fun a ha => ⟨_, Maps.keyOf_int_mk hk ha⟩, fun a b h => by cases h; rfl⟩
open Go Go.RowKit
set_option maxRecDepth 20000
def Idn.Ok (s : Idn) : Prop := (Lit.int .i64 s.v).wf = true ∧ (Lit.int .i64 s.run).wf = true ∧ (Lit.int .i64 s.num).wf = true
theorem idn_lits (d : Nat) (a0 : Int) (a1 : Int) (a2 : Int) (h0 : (Lit.int .i64 a0).wf = true) (h1 : (Lit.int .i64 a1).wf = true) (h2 : (Lit.int .i64 a2).wf = true) : Tryz.prog.keyLits (d + 2) 73 [.int .i64 a0, .int .i64 a1, .int .i64 a2] = some [.int .i64 a0, .int .i64 a1, .int .i64 a2] := by
  have hc : Tryz.prog.cellsOf 73 = 3 := by kernel_rfl
  have hc3 : Tryz.prog.cellsOf 3 = 1 := by kernel_rfl
  have hu3 := Tryz.underlying3
  simp [Program.keyLits, Tryz.underlying73, hc, hc3, hu3, h0, h1, h2]
theorem idn_lit (s : Idn) (h : s.Ok) : ∃ l, keyOf Tryz.prog 73 (.agg s.cells.toArray) = some l := by
  have hkt : Tryz.prog.keyType 73 = true := by kernel_rfl
  have hc : Tryz.prog.cellsOf 73 = 3 := by kernel_rfl
  have hf : (Value.agg s.cells.toArray).formed Tryz.prog 73 = true := by simp [Value.formed, Tryz.underlying73, hc, Idn.cells]
  have hp : 0 < Tryz.prog.types.size := of_decide_eq_true (by kernel_rfl)
  have hl := idn_lits (Tryz.prog.types.size - 1) s.v s.run s.num h.1 h.2.1 h.2.2
  rw [show Tryz.prog.types.size - 1 + 2 = Tryz.prog.types.size + 1 by omega] at hl
  refine ⟨.string (keyBytes [.int .i64 s.v, .int .i64 s.run, .int .i64 s.num]), ?_⟩
  unfold keyOf
  rw [Tryz.underlying73]
  simp only [hkt, hf, Bool.and_self, if_true]
  show Option.map _ (Tryz.prog.keyLits _ _ [.int .i64 s.v, .int .i64 s.run, .int .i64 s.num]) = _
  rw [hl]
  rfl
theorem idn_key : MKey Tryz.prog 73 (fun s : Idn => .agg s.cells.toArray) Idn.Ok where
  keyed := Maps.Keyed.of_law (deep_law (m := 2) (by omega) (by kernel_rfl) (by kernel_rfl) (by rw [Tryz.underlying73]))
  lit := idn_lit
  inj := fun a b h => by
    cases a; cases b
    simpa [Idn.cells] using h
set_option maxRecDepth 20000
def IsSt (l : List Rs) (t : Trc) (flow : Int) (y : List Rs) : Prop := ∃ x, IsOf l t x ∧ y = x.filter fun r => usbRs r && decide (r.flow = flow)
theorem IsSt.eq {l y y' : List Rs} {t : Trc} {flow : Int} (h : IsSt l t flow y) (h' : IsSt l t flow y') : y = y' := by
 obtain ⟨x, h1, h2⟩ := h
 obtain ⟨x', h3, h4⟩ := h'
 rw [h2, h4, h1.eq h3]
theorem IsOf.le_ {l y : List Rs} {t : Trc} (h : IsOf l t y) : y.length ≤ l.length := by
 obtain ⟨o, h1, rfl⟩ := h
 exact Nat.le_trans (List.length_filter_le _ _) h1.le
theorem IsSt.le {l y : List Rs} {t : Trc} {flow : Int} (h : IsSt l t flow y) : y.length ≤ l.length := by
 obtain ⟨x, h1, rfl⟩ := h
 exact Nat.le_trans (List.length_filter_le _ _) h1.le_
def Rp.trc (p : Rp) : Trc := ⟨p.v, p.dst, p.proto⟩
def atL (l : List Rs) (ttl : Int) : List Rs := l.filter fun r => r.ans && decide (r.ttl = ttl)
def fitB (t e : Int) (r : Rs) : Bool := finRs r && decide (r.back ≤ t) && (decide (e = 0) || decide (r.ttl < e))
def bend (l : List Rs) (t : Int) : Int := l.foldl (fun e r => if fitB t e r then r.ttl else e) 0
theorem bend_snoc {l : List Rs} {t e : Int} {i : Nat} {x : Rs} (hx : l[i]? = some x) (h : bend (l.take i) t = e) : bend (l.take (i + 1)) t = if fitB t e x then x.ttl else e := by
 unfold bend at h ⊢
 rw [List.take_add_one, hx, List.foldl_append, h]; rfl
def lostR (e t : Int) (r : Rs) : Bool := !r.ans && decide (r.ttl ≥ e) && decide (r.at_ ≥ t)
def lostN (e t : Int) (l : List Rs) : Nat := (l.filter (lostR e t)).length
theorem lost_t {l : List Rs} {e t : Int} {i c : Nat} {x : Rs} (hx : l[i]? = some x) (hp : lostR e t x = true) (h : lostN e t (l.take i) = c) : lostN e t (l.take (i + 1)) = c + 1 := by
 unfold lostN at h ⊢
 rw [List.take_add_one, hx, List.filter_append, List.length_append, h]
 simp [hp]
theorem lost_f {l : List Rs} {e t : Int} {i c : Nat} {x : Rs} (hx : l[i]? = some x) (hp : lostR e t x = false) (h : lostN e t (l.take i) = c) : lostN e t (l.take (i + 1)) = c := by
 unfold lostN at h ⊢
 rw [List.take_add_one, hx, List.filter_append, List.length_append, h]
 simp [hp]
def bhF (l : List Rs) (losses t : Int) : Bool := decide (0 < bend l t) && decide (losses ≤ (lostN (bend l t) t l : Int))
theorem atl_any (A0 : Option Addr) (c0 : Nat) (l : List Rs) (ttl : Int) (w : World) (hr : Reads w w.heap.size 17 A0 l.length (flat Rs.cells l)) (hl1 : l.length ≤ 100000) :
  Calls Tryz.prog 77 #[.slice A0 l.length c0, .int .i64 ttl] w fun e w' => ∃ x : {y : (Option Addr × Nat) × List Rs // y.2 = atL l ttl ∧ y.2.length ≤ y.1.2 ∧ y.1.2 ≤ maxLen}, e = .returned (.slice x.1.1.1 x.1.2.length x.1.1.2) ∧ Pm w [.row (.slice x.1.1.1 x.1.2.length x.1.1.2) 65 17 x.1.2.length (flat Rs.cells x.1.2)] w' := by
 refine begin_ (vs := [.slice A0 l.length c0, .int .i64 ttl]) Tryz.func77 rfl rfl rfl ?_ (Pm.start w)
 refine zSG (TL.as_ ?_)
 refine zET (zSG (TL.as_ ?_))
 refine zET (zS (zSG (TL.mv ?_)))
 refine TL.v (gN Tryz.underlying23) ?_
 refine TL.mv ?_
 refine zET (zB (TC.nilrow 65 17 ?_))
 refine TC.loop_ (α := {y : Nat × (Option Addr × Nat) × List Rs // y.1 ≤ l.length ∧ ((l.take y.1).filter (fun r : Rs => r.ans && decide (r.ttl = ttl)) = y.2.2) ∧ y.2.2.length ≤ y.1 ∧ y.2.2.length ≤ y.2.1.2 ∧ y.2.1.2 ≤ maxLen}) (fun y => [(1, .int .i64 ttl), (8, .slice A0 l.length c0), (9, .int .i64 (l.length : Nat)), (10, .int .i64 ((y.1.1 : Nat) : Int)), (5, .slice y.1.2.1.1 y.1.2.2.length y.1.2.1.2)]) (fun y => Pm w [.row (.slice y.1.2.1.1 y.1.2.2.length y.1.2.1.2) 65 17 y.1.2.2.length (flat Rs.cells y.1.2.2)]) (fun y => l.length - y.1.1) (⟨(0, (none, 0), []), Nat.zero_le _, rfl, Nat.le_refl _, Nat.le_refl _, Nat.zero_le _⟩) ⟨rfl, rfl, rfl, rfl, rfl, trivial⟩ (fun w1 hw => hw) ?_
 rintro ⟨⟨i, ⟨Ao, co⟩, out⟩, hi, hout, houtl, houtc, houtm⟩
 dsimp only at hi hout houtl houtc houtm ⊢
 refine zSG ?_
 refine TL.sp bin_lss (fun q11 => ?_) (fun q11 => ?_)
 ·refine zET (zS (zc (zk (zT (zS (zB (zSG ?_)))))))
  have hi12 : i < l.length := by omega
  obtain ⟨x12, hx12⟩ := ex_at hi12
  obtain ⟨b12, o12, hA12, hbb12, hc12⟩ := hr.ad (by omega) (by decide)
  refine TL.val rfl rfl rfl (gA (i := i) Tryz.underlying23 prssz65 rfl rfl rfl rfl hA12 (by omega)) ?_
  refine TL.v (gR rs_cel prsag65 prssz65 hbb12 hx12 hc12) ?_
  refine TL.pnew rfl rfl rfl (exec_alloc (cs := [.int .i64 0, .int .i64 0, .int .i64 0, .int .i64 0, .int .u32 0, .int .i64 0, .int .i64 0, .int .i64 0, .bool false, .bool false, .int .i64 0, .int .u32 0, .int .i64 0, .int .i64 0, .int .i64 0, .int .i64 0, .int .i64 0]) rfl arpzv65 rfl) (fun g7 => ?_)
  refine TL.pstore (k := 0) (vs := x12.cells) rfl rfl rfl rfl rfl rfl rfl prssz65 (rs_cel.one _) (by show 17 ≤ 17; decide) (L' := [.blk g7 65 x12.cells, .row (.slice Ao out.length co) 65 17 out.length (flat Rs.cells out)]) rfl ?_
  refine zET (zSG (TL.v (gF prsfld65_8) ?_))
  refine TL.vsplit rfl rfl rfl (gL 0 prsag4) (fun h15 => ?_) (fun h15 => ?_)
  ·refine TL.mv ?_
   refine TL.ov (gF prsfld65_7) ?_
   refine TL.ov (gL 0 pcmag3) ?_
   refine TL.rn 1 rfl (TL.gu ?_)
   refine TL.sp bin_eql (fun q20 => ?_) (fun q20 => ?_)
   ·refine TL.pk ?_
    refine zET (zc (zG (TL.mv ?_)))
    refine TL.v (gV 0 (.agg (x12.cells).toArray) prsag65 prssz65) ?_
    refine TL.prowS (e := 65) (size := 17) (cs := flat Rs.cells [x12]) rfl rfl rfl rfl rfl (fun w => porbs23_1_99505 _ _ _ _ _ _ _ _ _ _ _ _ _ _ _ _ _ w) (by decide) rfl (fun g24 => ?_)
    refine TL.appendT (k := 2) rfl rfl rfl rfl Tryz.underlying23 porel23 rfl rfl rfl (fun w1 hw => pm_reads hw (k := 0) rfl) (flat_one rs_cel _) (by show _ * 128 ≤ _; omega) ((out ++ [x12]).length) (by rw [List.length_append]; rfl) (flat Rs.cells (out ++ [x12])) ((flat_app _ _).symm) (fun A25 c25 hA251 hA252 => ?_)
    refine TL.as_ ?_
    refine zE (zN (zT (zG (TL.v (gD ((i + 1 : Nat) : Int)) ?_))))
    refine TL.mv ?_
    refine zE ?_
    exact TX.round (⟨(i + 1, (A25, c25), out ++ [x12]), by dsimp only; omega, filt_snoc_t (p := (fun r : Rs => r.ans && decide (r.ttl = ttl))) hx12 (by simp [q11, h15, q20]) hout, by dsimp only; rw [List.length_append]; show out.length + 1 ≤ _; omega, hA251, hA252⟩) (by show l.length - (i + 1) < l.length - i; omega) ⟨rfl, rfl, rfl, rfl, rfl, trivial⟩ (fun w1 hw => hw.pick [2] (by decide) rfl)
   refine TL.pk ?_
   refine zET (zd (zk (zN (zT (zG (TL.v (gD ((i + 1 : Nat) : Int)) ?_))))))
   refine TL.mv ?_
   refine zE ?_
   exact TX.round (⟨(i + 1, (Ao, co), out), by dsimp only; omega, filt_snoc_f (p := (fun r : Rs => r.ans && decide (r.ttl = ttl))) hx12 (by simp [q11, h15, q20]) hout, by dsimp only; omega, houtc, houtm⟩) (by show l.length - (i + 1) < l.length - i; omega) ⟨rfl, rfl, rfl, rfl, rfl, trivial⟩ (fun w1 hw => hw.pick [1] (by decide) rfl)
  refine TL.rn 6 rfl (zET (zd (zk (zN (zT (zG (TL.v (gD ((i + 1 : Nat) : Int)) ?_)))))))
  refine TL.mv ?_
  refine zE ?_
  exact TX.round (⟨(i + 1, (Ao, co), out), by dsimp only; omega, filt_snoc_f (p := (fun r : Rs => r.ans && decide (r.ttl = ttl))) hx12 (by simp [q11, h15]) hout, by dsimp only; omega, houtc, houtm⟩) (by show l.length - (i + 1) < l.length - i; omega) ⟨rfl, rfl, rfl, rfl, rfl, trivial⟩ (fun w1 hw => hw.pick [1] (by decide) rfl)
 refine zET (zS (zd (zx (zX (zX (zM (zT (zSG (TL.rn 2 rfl (zET (zr ?_)))))))))))
 exact ret_tmp Tryz.results77 rfl (fun w1 hw => ⟨⟨((Ao, co), out), by rw [List.take_of_length_le (by omega)] at hout; exact hout.symm, by dsimp only; omega, houtm⟩, rfl, hw.pick [0] (by decide) rfl⟩)
theorem blackhole_l (A0 : Option Addr) (c0 : Nat) (l : List Rs) (losses t : Int) (w : World) (hr : Reads w w.heap.size 17 A0 l.length (flat Rs.cells l)) (hl1 : l.length ≤ 100000) :
  Calls Tryz.prog 72 #[.slice A0 l.length c0, .int .i64 losses, .int .i64 t] w fun e w' => e = .returned (.bool (bhF l losses t)) ∧ Below w.heap.size w w' := by
 refine begin_ (vs := [.slice A0 l.length c0, .int .i64 losses, .int .i64 t]) Tryz.func72 rfl rfl rfl ?_ (Pm.start w)
 refine zSG (TL.as_ ?_)
 refine zET (zSG (TL.as_ ?_))
 refine zET (zS (zSG (TL.mv ?_)))
 refine TL.v (gN Tryz.underlying23) ?_
 refine TL.mv ?_
 refine zET (zB (TC.loop_ (α := {y : Nat × Int // y.1 ≤ l.length ∧ bend (l.take y.1) t = y.2}) (fun y => [(0, .slice A0 l.length c0), (1, .int .i64 losses), (2, .int .i64 t), (13, .slice A0 l.length c0), (14, .int .i64 (l.length : Nat)), (15, .int .i64 ((y.1.1 : Nat) : Int)), (7, .int .i64 y.1.2)]) (fun y => Pm w []) (fun y => l.length - y.1.1) (⟨(0, 0), Nat.zero_le _, rfl⟩) ⟨rfl, rfl, rfl, rfl, rfl, rfl, rfl, trivial⟩ (fun w1 hw => hw) ?_))
 rintro ⟨⟨i, e⟩, hi, hst⟩
 dsimp only at hi hst ⊢
 refine zSG ?_
 refine TL.sp bin_lss (fun q16 => ?_) (fun q16 => ?_)
 ·refine zET (zS (zc (zk (zT (zS (zB (zSG ?_)))))))
  have hi17 : i < l.length := by omega
  obtain ⟨x17, hx17⟩ := ex_at hi17
  obtain ⟨b17, o17, hA17, hbb17, hc17⟩ := hr.ad (by omega) (by decide)
  refine TL.val rfl rfl rfl (gA (i := i) Tryz.underlying23 prssz65 rfl rfl rfl rfl hA17 (by omega)) ?_
  refine TL.v (gR rs_cel prsag65 prssz65 hbb17 hx17 hc17) ?_
  refine TL.pnew rfl rfl rfl (exec_alloc (cs := [.int .i64 0, .int .i64 0, .int .i64 0, .int .i64 0, .int .u32 0, .int .i64 0, .int .i64 0, .int .i64 0, .bool false, .bool false, .int .i64 0, .int .u32 0, .int .i64 0, .int .i64 0, .int .i64 0, .int .i64 0, .int .i64 0]) rfl arpzv65 rfl) (fun g9 => ?_)
  refine TL.pstore (k := 0) (vs := x17.cells) rfl rfl rfl rfl rfl rfl rfl prssz65 (rs_cel.one _) (by show 17 ≤ 17; decide) (L' := [.blk g9 65 x17.cells]) rfl ?_
  refine zET (zSG (TL.v (gV 0 (.agg (x17.cells).toArray) prsag65 prssz65) ?_))
  refine TL.callsplit rfl rfl rfl rfl rfl Tryz.func122 (by decide) rfl (fun w1 hw => finRs_any x17 w1) (fun h20 => ?_) (fun h20 => ?_)
  ·refine TL.mv ?_
   refine TL.ov (gF prsfld65_10) ?_
   refine TL.ov (gL 0 pcmag3) ?_
   refine TL.rn 1 rfl (TL.gu ?_)
   refine TL.sp bin_leq (fun q25 => ?_) (fun q25 => ?_)
   ·refine TL.rn 3 rfl (TL.gu ?_)
    refine TL.sp bin_eql (fun q29 => ?_) (fun q29 => ?_)
    ·refine TL.rn 7 rfl (zET (zc (zG (TL.v (gF prsfld65_7) ?_))))
     refine TL.v (gL 0 pcmag3) ?_
     refine TL.as_ ?_
     refine zE (zN (zT (zG (TL.v (gD ((i + 1 : Nat) : Int)) ?_))))
     refine TL.mv ?_
     refine zE ?_
     exact TX.round (⟨(i + 1, x17.ttl), by dsimp only; omega, by rw [bend_snoc hx17 hst, if_pos (by simp [fitB, q16, h20, q25, q29])]⟩) (by show l.length - (i + 1) < l.length - i; omega) ⟨rfl, rfl, rfl, rfl, rfl, rfl, rfl, trivial⟩ (fun w1 hw => hw.pick [] (by decide) rfl)
    refine TL.rn 1 rfl (TL.ov (gF prsfld65_7) ?_)
    refine TL.ov (gL 0 pcmag3) ?_
    refine TL.rn 1 rfl (TL.gu ?_)
    refine TL.sp bin_lss (fun q34 => ?_) (fun q34 => ?_)
    ·refine TL.rn 2 rfl (zET (zc (zG (TL.v (gF prsfld65_7) ?_))))
     refine TL.v (gL 0 pcmag3) ?_
     refine TL.as_ ?_
     refine zE (zN (zT (zG (TL.v (gD ((i + 1 : Nat) : Int)) ?_))))
     refine TL.mv ?_
     refine zE ?_
     exact TX.round (⟨(i + 1, x17.ttl), by dsimp only; omega, by rw [bend_snoc hx17 hst, if_pos (by simp [fitB, q16, h20, q25, q29, q34])]⟩) (by show l.length - (i + 1) < l.length - i; omega) ⟨rfl, rfl, rfl, rfl, rfl, rfl, rfl, trivial⟩ (fun w1 hw => hw.pick [] (by decide) rfl)
    refine TL.rn 2 rfl (zET (zd (zk (zN (zT (zG (TL.v (gD ((i + 1 : Nat) : Int)) ?_)))))))
    refine TL.mv ?_
    refine zE ?_
    exact TX.round (⟨(i + 1, e), by dsimp only; omega, by rw [bend_snoc hx17 hst, if_neg (by simp [fitB, q16, h20, q25, q29, q34])]⟩) (by show l.length - (i + 1) < l.length - i; omega) ⟨rfl, rfl, rfl, rfl, rfl, rfl, rfl, trivial⟩ (fun w1 hw => hw.pick [] (by decide) rfl)
   refine TL.rn 5 rfl ?_
   refine TL.offU rfl rfl rfl rfl rfl ?_
   refine TL.offU rfl rfl rfl rfl rfl ?_
   refine TL.offU rfl rfl rfl rfl rfl ?_
   refine TL.offU rfl rfl rfl rfl rfl ?_
   refine TL.rn 2 rfl (zET (zd (zk (zN (zT (zG (TL.v (gD ((i + 1 : Nat) : Int)) ?_)))))))
   refine TL.mv ?_
   refine zE ?_
   exact TX.round (⟨(i + 1, e), by dsimp only; omega, by rw [bend_snoc hx17 hst, if_neg (by simp [fitB, q16, h20, q25])]⟩) (by show l.length - (i + 1) < l.length - i; omega) ⟨rfl, rfl, rfl, rfl, rfl, rfl, rfl, trivial⟩ (fun w1 hw => hw.pick [] (by decide) rfl)
  refine TL.rn 10 rfl ?_
  refine TL.offU rfl rfl rfl rfl rfl ?_
  refine TL.offU rfl rfl rfl rfl rfl ?_
  refine TL.offU rfl rfl rfl rfl rfl ?_
  refine TL.offU rfl rfl rfl rfl rfl ?_
  refine TL.rn 2 rfl (zET (zd (zk (zN (zT (zG (TL.v (gD ((i + 1 : Nat) : Int)) ?_)))))))
  refine TL.mv ?_
  refine zE ?_
  exact TX.round (⟨(i + 1, e), by dsimp only; omega, by rw [bend_snoc hx17 hst, if_neg (by simp [fitB, q16, h20])]⟩) (by show l.length - (i + 1) < l.length - i; omega) ⟨rfl, rfl, rfl, rfl, rfl, rfl, rfl, trivial⟩ (fun w1 hw => hw.pick [] (by decide) rfl)
 refine zET (zS (zd (zx (zX (zX (zM (zT (zSG (TL.as_ ?_)))))))))
 refine zET (zS (zS ?_))
 have hend : bend l t = e := by rw [List.take_of_length_le (by omega)] at hst; exact hst
 refine zG (TL.mv ?_)
 refine TL.v (gN Tryz.underlying23) ?_
 refine TL.mv ?_
 refine zET (zB (TC.loop_ (α := {y : Nat × Nat // y.1 ≤ l.length ∧ lostN e t (l.take y.1) = y.2 ∧ y.2 ≤ y.1}) (fun y => [(0, .slice A0 l.length c0), (1, .int .i64 losses), (2, .int .i64 t), (7, .int .i64 e), (40, .slice A0 l.length c0), (41, .int .i64 (l.length : Nat)), (42, .int .i64 ((y.1.1 : Nat) : Int)), (10, .int .i64 ((y.1.2 : Nat) : Int))]) (fun y => Pm w []) (fun y => l.length - y.1.1) (⟨(0, 0), Nat.zero_le _, rfl, Nat.le_refl _⟩) ⟨rfl, rfl, rfl, rfl, rfl, rfl, rfl, rfl, trivial⟩ (fun w1 hw => hw) ?_))
 rintro ⟨⟨j, c⟩, hj, hc, hcj⟩
 dsimp only at hj hc hcj ⊢
 refine zSG ?_
 refine TL.sp bin_lss (fun q43 => ?_) (fun q43 => ?_)
 ·refine zET (zS (zc (zk (zT (zS (zB (zSG ?_)))))))
  have hi44 : j < l.length := by omega
  obtain ⟨x44, hx44⟩ := ex_at hi44
  obtain ⟨b44, o44, hA44, hbb44, hc44⟩ := hr.ad (by omega) (by decide)
  refine TL.val rfl rfl rfl (gA (i := j) Tryz.underlying23 prssz65 rfl rfl rfl rfl hA44 (by omega)) ?_
  refine TL.v (gR rs_cel prsag65 prssz65 hbb44 hx44 hc44) ?_
  refine TL.pnew rfl rfl rfl (exec_alloc (cs := [.int .i64 0, .int .i64 0, .int .i64 0, .int .i64 0, .int .u32 0, .int .i64 0, .int .i64 0, .int .i64 0, .bool false, .bool false, .int .i64 0, .int .u32 0, .int .i64 0, .int .i64 0, .int .i64 0, .int .i64 0, .int .i64 0]) rfl arpzv65 rfl) (fun g12 => ?_)
  refine TL.pstore (k := 0) (vs := x44.cells) rfl rfl rfl rfl rfl rfl rfl prssz65 (rs_cel.one _) (by show 17 ≤ 17; decide) (L' := [.blk g12 65 x44.cells]) rfl ?_
  refine zET (zSG (TL.v (gF prsfld65_8) ?_))
  refine TL.vsplit rfl rfl rfl (gL 0 prsag4) (fun h47 => ?_) (fun h47 => ?_)
  ·refine TL.rn 13 rfl (zET (zd (zk (zN (zT (zG (TL.v (gD ((j + 1 : Nat) : Int)) ?_)))))))
   refine TL.mv ?_
   refine zE ?_
   exact TX.round (⟨(j + 1, c), by dsimp only; omega, lost_f hx44 (by simp [lostR, q43, h47]) hc, by dsimp only; omega⟩) (by show l.length - (j + 1) < l.length - j; omega) ⟨rfl, rfl, rfl, rfl, rfl, rfl, rfl, rfl, trivial⟩ (fun w1 hw => hw.pick [] (by decide) rfl)
  refine TL.rn 2 rfl (TL.ov (gF prsfld65_7) ?_)
  refine TL.ov (gL 0 pcmag3) ?_
  refine TL.rn 1 rfl (TL.gu ?_)
  refine TL.sp bin_geq (fun q53 => ?_) (fun q53 => ?_)
  ·refine TL.rn 2 rfl (TL.ov (gF prsfld65_3) ?_)
   refine TL.ov (gL 0 pcmag3) ?_
   refine TL.rn 1 rfl (TL.gu ?_)
   refine TL.sp bin_geq (fun q59 => ?_) (fun q59 => ?_)
   ·refine TL.pk ?_
    refine zET (zc (zG (TL.mv ?_)))
    refine TL.v (gD ((c + 1 : Nat) : Int)) ?_
    refine TL.as_ ?_
    refine zE (zN (zT (zG (TL.v (gD ((j + 1 : Nat) : Int)) ?_))))
    refine TL.mv ?_
    refine zE ?_
    exact TX.round (⟨(j + 1, c + 1), by dsimp only; omega, lost_t hx44 (by simp [lostR, q43, h47, q53, q59]) hc, by dsimp only; omega⟩) (by show l.length - (j + 1) < l.length - j; omega) ⟨rfl, rfl, rfl, rfl, rfl, rfl, rfl, rfl, trivial⟩ (fun w1 hw => hw.pick [] (by decide) rfl)
   refine TL.pk ?_
   refine zET (zd (zk (zN (zT (zG (TL.v (gD ((j + 1 : Nat) : Int)) ?_))))))
   refine TL.mv ?_
   refine zE ?_
   exact TX.round (⟨(j + 1, c), by dsimp only; omega, lost_f hx44 (by simp [lostR, q43, h47, q53, q59]) hc, by dsimp only; omega⟩) (by show l.length - (j + 1) < l.length - j; omega) ⟨rfl, rfl, rfl, rfl, rfl, rfl, rfl, rfl, trivial⟩ (fun w1 hw => hw.pick [] (by decide) rfl)
  refine TL.rn 7 rfl (zET (zd (zk (zN (zT (zG (TL.v (gD ((j + 1 : Nat) : Int)) ?_)))))))
  refine TL.mv ?_
  refine zE ?_
  exact TX.round (⟨(j + 1, c), by dsimp only; omega, lost_f hx44 (by simp [lostR, q43, h47, q53]) hc, by dsimp only; omega⟩) (by show l.length - (j + 1) < l.length - j; omega) ⟨rfl, rfl, rfl, rfl, rfl, rfl, rfl, rfl, trivial⟩ (fun w1 hw => hw.pick [] (by decide) rfl)
 refine zET (zS (zd (zx (zX (zX (zM (zT (zSG (TL.mv ?_)))))))))
 refine TL.sp bin_gtr (fun q65 => ?_) (fun q65 => ?_)
 ·refine TL.rn 3 rfl (TL.gu ?_)
  refine TL.sp bin_geq (fun q69 => ?_) (fun q69 => ?_)
  ·refine TL.rn 2 rfl (zET (zr ?_))
   have hc2 : lostN e t l = c := by rw [List.take_of_length_le (by omega)] at hc; exact hc
   have hE : bhF l losses t = true := by unfold bhF; rw [hend, hc2]; simp only [Bool.and_eq_true, Bool.and_eq_false_iff, decide_eq_true_eq, decide_eq_false_iff_not]; omega
   exact ret_tmp Tryz.results72 rfl (fun w1 hw => ⟨by rw [hE], hw.bel⟩)
  refine TL.rn 2 rfl (zET (zr ?_))
  have hc2 : lostN e t l = c := by rw [List.take_of_length_le (by omega)] at hc; exact hc
  have hE : bhF l losses t = false := by unfold bhF; rw [hend, hc2]; simp only [Bool.and_eq_true, Bool.and_eq_false_iff, decide_eq_true_eq, decide_eq_false_iff_not]; omega
  exact ret_tmp Tryz.results72 rfl (fun w1 hw => ⟨by rw [hE], hw.bel⟩)
 refine TL.rn 6 rfl (zET (zr ?_))
 have hc2 : lostN e t l = c := by rw [List.take_of_length_le (by omega)] at hc; exact hc
 have hE : bhF l losses t = false := by unfold bhF; rw [hend, hc2]; simp only [Bool.and_eq_true, Bool.and_eq_false_iff, decide_eq_true_eq, decide_eq_false_iff_not]; omega
 exact ret_tmp Tryz.results72 rfl (fun w1 hw => ⟨by rw [hE], hw.bel⟩)
set_option maxRecDepth 20000
theorem strm1_any (r : Rs) (flow : Int) (g : Nat) (w : World) (hg : g < w.heap.size) (hc : w.cell? ⟨g, 0, none⟩ = some (.int .i64 flow)) :
  Calls Tryz.prog 123 #[.agg r.cells.toArray, .pointer (some ⟨g, 0, none⟩)] w fun e w' => e = .returned (.bool ((fun r : Rs => !(usbRs r && decide (r.flow = flow))) r)) ∧ Below w.heap.size w w' := by
 refine begin_ (vs := [.agg r.cells.toArray, .pointer (some ⟨g, 0, none⟩)]) Tryz.func123 rfl rfl rfl ?_ (Pm.start w)
 refine zSG ?_
 refine TL.pnew rfl rfl rfl (exec_box (cs := r.cells) rfl rfl rfl) (fun g2 => ?_)
 refine TL.as_ ?_
 refine zET (zSG (TL.v (gF prsfld65_6) ?_))
 refine TL.v (gL 0 pcmag3) ?_
 refine TL.val rfl rfl rfl (gives_load (v := .int .i64 flow) rfl rfl pcmag3 (fun w1 hw => (hw.bel.cell hg).trans hc)) ?_
 refine TL.sp bin_neq (fun q7 => ?_) (fun q7 => ?_)
 ·refine TL.rn 6 rfl (zET (zr ?_))
  have hE : ((fun r : Rs => !(usbRs r && decide (r.flow = flow))) r) = true := (by simp [Bool.not_eq_true, q7] <;> omega)
  exact ret_tmp Tryz.results123 rfl (fun w1 hw => ⟨by rw [hE]; try rfl, hw.bel⟩)
 refine TL.mv ?_
 refine TL.ov (gV 0 (.agg (r.cells).toArray) prsag65 prssz65) ?_
 refine TL.gu ?_
 refine TL.callsplit rfl rfl rfl rfl rfl Tryz.func91 (by decide) rfl (fun w1 hw => usbRs_any r w1) (fun h10 => ?_) (fun h10 => ?_)
 ·refine TL.rn 3 rfl (zET (zr ?_))
  have hE : ((fun r : Rs => !(usbRs r && decide (r.flow = flow))) r) = false := (by simp [Bool.not_eq_true, q7, h10] <;> omega)
  exact ret_tmp Tryz.results123 rfl (fun w1 hw => ⟨by rw [hE]; try rfl, hw.bel⟩)
 refine TL.rn 3 rfl (zET (zr ?_))
 have hE : ((fun r : Rs => !(usbRs r && decide (r.flow = flow))) r) = true := (by simp [Bool.not_eq_true, q7, h10] <;> omega)
 exact ret_tmp Tryz.results123 rfl (fun w1 hw => ⟨by rw [hE]; try rfl, hw.bel⟩)
theorem stream_any (A0 : Option Addr) (c0 : Nat) (l : List Rs) (t : Trc) (flow : Int) (w : World) (hr : Reads w w.heap.size 17 A0 l.length (flat Rs.cells l)) (hl1 : l.length ≤ 100000) (hok : ∀ r ∈ l, r.Ok) :
  Calls Tryz.prog 73 #[.slice A0 l.length c0, .agg t.cells.toArray, .int .i64 flow] w fun e w' => ∃ x : {y : (Option Addr × Nat) × List Rs // IsSt l t flow y.2 ∧ y.2.length ≤ y.1.2 ∧ y.1.2 ≤ maxLen}, e = .returned (.slice x.1.1.1 x.1.2.length x.1.1.2) ∧ Pm w [.row (.slice x.1.1.1 x.1.2.length x.1.1.2) 65 17 x.1.2.length (flat Rs.cells x.1.2)] w' := by
 refine begin_ (vs := [.slice A0 l.length c0, .agg t.cells.toArray, .int .i64 flow]) Tryz.func73 rfl rfl rfl ?_ (Pm.start w)
 refine zSG ?_
 refine TL.pnew rfl rfl rfl (exec_box (cs := t.cells) rfl rfl rfl) (fun g4 => ?_)
 refine TL.pnew rfl rfl rfl (exec_box (cs := [.int .i64 flow]) rfl rfl rfl) (fun g5 => ?_)
 refine TL.as_ ?_
 refine zET (zSG (TL.mv ?_))
 refine TL.v (gV 1 (.agg (t.cells).toArray) pcpag32 prssz32) ?_
 refine TL.pcallPm (α := {y : (Option Addr × Nat) × List Rs // IsOf l t y.2 ∧ y.2.length ≤ y.1.2 ∧ y.1.2 ≤ maxLen}) (fun x => .slice x.1.1.1 x.1.2.length x.1.1.2) (fun x => [.row (.slice x.1.1.1 x.1.2.length x.1.1.2) 65 17 x.1.2.length (flat Rs.cells x.1.2)]) rfl rfl rfl rfl rfl Tryz.func90 (by decide) rfl (fun w1 hw => of_any A0 c0 l t w1 (hr.up hw.bel) hl1 hok) ?_
 rintro ⟨⟨⟨R9, rc9⟩, o9⟩, hP9, hR91, hR92⟩
 dsimp only [List.cons_append, List.nil_append]
 dsimp only at hP9 hR91 hR92 ⊢
 refine TL.val rfl rfl rfl (gives_makeFunc rfl rfl rfl) ?_
 have hol := hP9.le_
 refine TL.call (α := Unit) (r := fun _ => .slice R9 ((o9.filter fun r => !((fun r : Rs => !(usbRs r && decide (r.flow = flow))) r)).length) rc9) (I' := fun _ => Pm w [.row (.slice R9 ((o9.filter fun r => !((fun r : Rs => !(usbRs r && decide (r.flow = flow))) r)).length) rc9) 65 17 ((o9.filter fun r => !((fun r : Rs => !(usbRs r && decide (r.flow = flow))) r)).length) (flat Rs.cells (o9.filter fun r => !((fun r : Rs => !(usbRs r && decide (r.flow = flow))) r))), .blk g5 3 [.int .i64 flow], .blk g4 32 t.cells]) rfl rfl rfl rfl rfl Tryz.func108 (by decide) rfl (fun w1 hw => (delG_any w [.blk g5 3 [.int .i64 flow], .blk g4 32 t.cells] R9 rc9 o9 (fun r : Rs => !(usbRs r && decide (r.flow = flow))) 123 _ #[.pointer (some ⟨g5, 0, none⟩)] w1 (hw) (by omega) (by omega) (by omega) Tryz.func123 (by decide) rfl (fun x w1 ⟨L1, h9⟩ => (by have h8 : Pm w [.blk g5 3 [.int .i64 flow], .blk g4 32 t.cells] w1 := h9.sel (List.sublist_append_right L1 _); exact strm1_any x flow g5 w1 (Pc.lt (h8.at_ (k := 0) rfl) g5 rfl).2 (h8.cell (k := 0) rfl 0)))).mono fun en w2 ⟨h1, h2⟩ => ⟨(), h1, h2⟩) (fun _ => ?_)
 refine TL.as_ ?_
 refine zET (zr ?_)
 have hE : (o9.filter fun r => !((fun r : Rs => !(usbRs r && decide (r.flow = flow))) r)) = o9.filter fun r => usbRs r && decide (r.flow = flow) := by simp
 exact ret_tmp Tryz.results73 rfl (fun w1 hw => ⟨⟨((R9, rc9), o9.filter fun r => !((fun r : Rs => !(usbRs r && decide (r.flow = flow))) r)), ⟨o9, hP9, hE⟩, Nat.le_trans (List.length_filter_le _ _) hR91, hR92⟩, rfl, hw.pick [0] (by decide) rfl⟩)
set_option maxRecDepth 20000
def BhP (l : List Rs) (u : Ru) (p : Rp) : Prop := p.kind = 1 ∧ ∃ y, IsSt l p.trc p.flow y ∧ bhF y u.los p.at_ = true
theorem blackhole_any (A0 : Option Addr) (c0 : Nat) (l : List Rs) (u : Ru) (p : Rp) (w : World) (hr : Reads w w.heap.size 17 A0 l.length (flat Rs.cells l)) (hl1 : l.length ≤ 100000) (hok : ∀ r ∈ l, r.Ok) :
  Calls Tryz.prog 29 #[.slice A0 l.length c0, .agg u.cells.toArray, .agg p.cells.toArray] w fun e w' => ∃ x : {b : Bool // b = true ↔ BhP l u p}, e = .returned (.bool x.1) ∧ Below w.heap.size w w' := by
 refine begin_ (vs := [.slice A0 l.length c0, .agg u.cells.toArray, .agg p.cells.toArray]) Tryz.func29 rfl rfl rfl ?_ (Pm.start w)
 refine zSG ?_
 refine TL.pnew rfl rfl rfl (exec_box (cs := u.cells) rfl rfl rfl) (fun g4 => ?_)
 refine TL.pnew rfl rfl rfl (exec_box (cs := p.cells) rfl rfl rfl) (fun g5 => ?_)
 refine TL.as_ ?_
 refine zET (zS ?_)
 by_cases hk : p.kind = 1
 ·refine TC.held (ls := #[Ff,Ff,Ff,Ff,Ff,Ff,Ff,Ff,Ff,Ff,Ff,Ff,Ff,Ff,Ff,Ff,Ff]) (Pm w [.blk g5 34 p.cells, .blk g4 28 u.cells]) (by kernel_rfl) rfl rfl (fun w hw => hw.drawn _) ?_
  refine TH.tk 0 rfl rfl rfl (gF arpfld34_0) (fun w1 hw => hw) ?_
  refine TH.tk 1 rfl rfl rfl (gL 0 pcmag3) (fun w1 hw => hw) ?_
  refine TH.tk 2 rfl rfl rfl (gives_bin rfl rfl rfl (fun w => bin_eql_t (hk) w)) (fun w1 hw => hw) ?_
  refine TH.tk 3 rfl rfl rfl (gives_move rfl rfl) (fun w1 hw => hw) ?_
  refine TH.takeG 4 rfl (by kernel_rfl) (by kernel_rfl) (by kernel_rfl) rfl rfl rfl rfl rfl rfl (gives_move rfl rfl) (fun w1 hw => hw) ?_
  refine TH.takeG 5 rfl (by kernel_rfl) (by kernel_rfl) (by kernel_rfl) rfl rfl rfl rfl rfl rfl (gF arpfld34_1) (fun w1 hw => hw) ?_
  refine TH.takeG 6 rfl (by kernel_rfl) (by kernel_rfl) (by kernel_rfl) rfl rfl rfl rfl rfl rfl (gV 0 (.agg #[.int .i64 p.v, .int .u32 p.dst, .int .i64 p.proto]) pcpag32 prssz32) (fun w1 hw => hw) ?_
  refine TH.takeG 7 rfl (by kernel_rfl) (by kernel_rfl) (by kernel_rfl) rfl rfl rfl rfl rfl rfl (gF arpfld34_2) (fun w1 hw => hw) ?_
  refine TH.takeG 8 rfl (by kernel_rfl) (by kernel_rfl) (by kernel_rfl) rfl rfl rfl rfl rfl rfl (gL 0 pcmag3) (fun w1 hw => hw) ?_
  refine TH.takeG 10 rfl (by kernel_rfl) (by kernel_rfl) (by kernel_rfl) rfl rfl rfl rfl rfl rfl (gF arpfld28_0) (fun w1 hw => hw) ?_
  refine TH.takeG 11 rfl (by kernel_rfl) (by kernel_rfl) (by kernel_rfl) rfl rfl rfl rfl rfl rfl (gL 1 pcmag3) (fun w1 hw => hw) ?_
  refine TH.takeG 12 rfl (by kernel_rfl) (by kernel_rfl) (by kernel_rfl) rfl rfl rfl rfl rfl rfl (gF arpfld34_4) (fun w1 hw => hw) ?_
  refine TH.takeG 13 rfl (by kernel_rfl) (by kernel_rfl) (by kernel_rfl) rfl rfl rfl rfl rfl rfl (gL 0 pcmag3) (fun w1 hw => hw) ?_
  refine TH.only' 9 rfl (by kernel_rfl) rfl ?_
  refine TL.gu ?_
  refine TL.pcallPm (α := {y : (Option Addr × Nat) × List Rs // IsSt l p.trc p.flow y.2 ∧ y.2.length ≤ y.1.2 ∧ y.1.2 ≤ maxLen}) (fun x => .slice x.1.1.1 x.1.2.length x.1.1.2) (fun x => [.row (.slice x.1.1.1 x.1.2.length x.1.1.2) 65 17 x.1.2.length (flat Rs.cells x.1.2)]) rfl rfl rfl rfl rfl Tryz.func73 (by decide) rfl (fun w1 hw => stream_any A0 c0 l p.trc p.flow w1 (hr.up hw.bel) hl1 hok) ?_
  rintro ⟨⟨⟨R16, rc16⟩, st16⟩, hP16, hR161, hR162⟩
  dsimp only [List.cons_append, List.nil_append]
  dsimp only at hP16 hR161 hR162 ⊢
  refine zE ?_
  refine TX.held (fun w1 hw => hw.pick [1, 2] (by decide) rfl) ?_
  refine TH.only' 14 rfl (by kernel_rfl) rfl ?_
  refine TL.gu ?_
  refine TL.pcall1 (r := .bool (bhF st16 u.los p.at_)) rfl rfl rfl rfl rfl Tryz.func72 (by decide) rfl (fun w1 hw => blackhole_l R16 rc16 st16 u.los p.at_ w1 (pm_rd hw (k := 0) rfl) (by have := hP16.le; omega)) ?_
  refine zE ?_
  refine TX.he (fun w1 hw => hw.pick [1, 2] (by decide) rfl) fun hS => ?_
  refine TH.t 15 rfl (gives_pick rfl rfl rfl) hS ?_
  refine TH.t 16 rfl (gives_assign rfl rfl) hS ?_
  refine TH.done (by kernel_rfl) ?_
  refine zT (zr ?_)
  exact ret_tmp Tryz.results29 rfl (fun w1 hw => ⟨⟨bhF st16 u.los p.at_, fun h => ⟨hk, st16, hP16, h⟩, fun ⟨_, y, h1, h2⟩ => by rw [hP16.eq h1]; exact h2⟩, rfl, hw.bel⟩)
 refine TC.held (ls := #[Ff,Ff,Ff,Ff,Ff,Ff,Ff,Ff,Ff,Ff,Ff,Ff,Ff,Ff,Ff,Ff,Ff]) (Pm w [.blk g5 34 p.cells, .blk g4 28 u.cells]) (by kernel_rfl) rfl rfl (fun w hw => hw.drawn _) ?_
 refine TH.tk 0 rfl rfl rfl (gF arpfld34_0) (fun w1 hw => hw) ?_
 refine TH.tk 1 rfl rfl rfl (gL 0 pcmag3) (fun w1 hw => hw) ?_
 refine TH.tk 2 rfl rfl rfl (gives_bin rfl rfl rfl (fun w => bin_eql_f (hk) w)) (fun w1 hw => hw) ?_
 refine TH.tk 3 rfl rfl rfl (gives_move rfl rfl) (fun w1 hw => hw) ?_
 refine TH.off 4 rfl (by kernel_rfl) (by kernel_rfl) (by kernel_rfl) rfl rfl rfl rfl rfl rfl rfl (fun w1 hw => hw) ?_
 refine TH.off 5 rfl (by kernel_rfl) (by kernel_rfl) (by kernel_rfl) rfl rfl rfl rfl rfl rfl rfl (fun w1 hw => hw) ?_
 refine TH.off 6 rfl (by kernel_rfl) (by kernel_rfl) (by kernel_rfl) rfl rfl rfl rfl rfl rfl rfl (fun w1 hw => hw) ?_
 refine TH.off 7 rfl (by kernel_rfl) (by kernel_rfl) (by kernel_rfl) rfl rfl rfl rfl rfl rfl rfl (fun w1 hw => hw) ?_
 refine TH.off 8 rfl (by kernel_rfl) (by kernel_rfl) (by kernel_rfl) rfl rfl rfl rfl rfl rfl rfl (fun w1 hw => hw) ?_
 refine TH.off 9 rfl (by kernel_rfl) (by kernel_rfl) (by kernel_rfl) rfl rfl rfl rfl rfl rfl rfl (fun w1 hw => hw) ?_
 refine TH.off 10 rfl (by kernel_rfl) (by kernel_rfl) (by kernel_rfl) rfl rfl rfl rfl rfl rfl rfl (fun w1 hw => hw) ?_
 refine TH.off 11 rfl (by kernel_rfl) (by kernel_rfl) (by kernel_rfl) rfl rfl rfl rfl rfl rfl rfl (fun w1 hw => hw) ?_
 refine TH.off 12 rfl (by kernel_rfl) (by kernel_rfl) (by kernel_rfl) rfl rfl rfl rfl rfl rfl rfl (fun w1 hw => hw) ?_
 refine TH.off 13 rfl (by kernel_rfl) (by kernel_rfl) (by kernel_rfl) rfl rfl rfl rfl rfl rfl rfl (fun w1 hw => hw) ?_
 refine TH.off 14 rfl (by kernel_rfl) (by kernel_rfl) (by kernel_rfl) rfl rfl rfl rfl rfl rfl rfl (fun w1 hw => hw) ?_
 refine TH.tk 15 rfl rfl rfl (gives_pick rfl rfl rfl) (fun w1 hw => hw) ?_
 refine TH.tk 16 rfl rfl rfl (gives_assign rfl rfl) (fun w1 hw => hw) ?_
 refine TH.done (by kernel_rfl) ?_
 refine zT (zr ?_)
 exact ret_tmp Tryz.results29 rfl (fun w1 hw => ⟨⟨false, by simp [BhP, hk]⟩, rfl, hw.bel⟩)
set_option maxRecDepth 20000
theorem vld_in {r : Rs} (h : vldRs r = true) : r.inRange := by
  unfold vldRs at h
  simp only [Bool.and_eq_true, decide_eq_true_eq] at h
  exact Decidable.by_contra fun h1 => by have := chk_range h1; omega
theorem fin_in {r : Rs} (h : finRs r = true) : 1 ≤ r.ttl ∧ r.ttl ≤ 255 := by
  unfold finRs usbRs at h
  simp only [Bool.and_eq_true] at h
  have := vld_in h.2.2
  unfold Rs.inRange at this
  omega
def IsB (l : List Rs) (t e : Int) : Prop := (e = 0 ∧ ∀ r ∈ l, finRs r = true → t < r.back) ∨ ((∃ r ∈ l, finRs r = true ∧ r.back ≤ t ∧ r.ttl = e) ∧ ∀ r ∈ l, finRs r = true → r.back ≤ t → e ≤ r.ttl)
theorem isB_step (t : Int) : ∀ (l p : List Rs) (e : Int), IsB p t e → IsB (p ++ l) t (l.foldl (fun e r => if fitB t e r then r.ttl else e) e)
  | [], p, e, h => by rw [List.append_nil]; exact h
  | r :: l, p, e, h => by
    have h1 : IsB (p ++ [r]) t (if fitB t e r then r.ttl else e) := by
      have hm : ∀ {x : Rs}, x ∈ p ++ [r] ↔ x ∈ p ∨ x = r := by intro x; rw [List.mem_append, List.mem_singleton]
      by_cases hf : finRs r = true ∧ r.back ≤ t
      · by_cases hc : e = 0 ∨ r.ttl < e
        · have : fitB t e r = true := by unfold fitB; simp [hf, hc]
          rw [if_pos this]
          refine .inr ⟨⟨r, hm.2 (.inr rfl), hf.1, hf.2, rfl⟩, fun x hx hx2 hx3 => ?_⟩
          rcases hm.1 hx with h2 | h2
          · rcases h with ⟨h3, h4⟩ | ⟨⟨y, hy, hy2, hy3, hy4⟩, h4⟩
            · have := h4 x h2 hx2; omega
            · have h5 := h4 x h2 hx2 hx3
              have h6 := fin_in hy2
              omega
          · rw [h2]; exact Int.le_refl _
        · have : fitB t e r = false := by unfold fitB; simp [hf]; omega
          rw [if_neg (by rw [this]; decide)]
          rcases h with ⟨h3, h4⟩ | ⟨⟨y, hy, hy2, hy3, hy4⟩, h4⟩
          · exact absurd (.inl h3) hc
          · refine .inr ⟨⟨y, hm.2 (.inl hy), hy2, hy3, hy4⟩, fun x hx hx2 hx3 => ?_⟩
            rcases hm.1 hx with h2 | h2
            · exact h4 x h2 hx2 hx3
            · rw [h2]; omega
      · have : fitB t e r = false := by
          unfold fitB
          by_cases h8 : finRs r = true
          · have : ¬ r.back ≤ t := fun h9 => hf ⟨h8, h9⟩
            simp [this]
          · simp [h8]
        rw [if_neg (by rw [this]; decide)]
        rcases h with ⟨h3, h4⟩ | ⟨⟨y, hy, hy2, hy3, hy4⟩, h4⟩
        · refine .inl ⟨h3, fun x hx hx2 => ?_⟩
          rcases hm.1 hx with h2 | h2
          · exact h4 x h2 hx2
          · subst h2; exact Int.not_le.1 fun h9 => hf ⟨hx2, h9⟩
        · refine .inr ⟨⟨y, hm.2 (.inl hy), hy2, hy3, hy4⟩, fun x hx hx2 hx3 => ?_⟩
          rcases hm.1 hx with h2 | h2
          · exact h4 x h2 hx2 hx3
          · subst h2; exact absurd ⟨hx2, hx3⟩ hf
    have := isB_step t l (p ++ [r]) _ h1
    rwa [List.append_assoc] at this
theorem isB (l : List Rs) (t : Int) : IsB l t (bend l t) := isB_step t l [] 0 (.inl ⟨rfl, fun r hr => absurd hr List.not_mem_nil⟩)
theorem lost_mono {e e' t : Int} (h : e ≤ e') : ∀ l : List Rs, lostN e' t l ≤ lostN e t l
  | [] => Nat.le_refl _
  | r :: l => by
    have ih := lost_mono (t := t) h l
    unfold lostN at ih ⊢
    rw [List.filter_cons, List.filter_cons]
    by_cases h1 : lostR e' t r = true
    · have h2 : lostR e t r = true := by
        unfold lostR at h1 ⊢
        simp only [Bool.and_eq_true, Bool.not_eq_true', decide_eq_true_eq] at h1 ⊢
        exact ⟨⟨h1.1.1, by omega⟩, h1.2⟩
      rw [if_pos h1, if_pos h2, List.length_cons, List.length_cons]; omega
    · rw [if_neg h1]
      split
      · rw [List.length_cons]; omega
      · exact ih
def hitB (y : List Rs) (losses t : Int) (x : Rs) : Prop := finRs x = true ∧ x.back ≤ t ∧ losses ≤ (lostN x.ttl t y : Int)
theorem bh_iff {y : List Rs} {losses t : Int} : bhF y losses t = true ↔ ∃ x ∈ y, hitB y losses t x := by
  unfold bhF
  simp only [Bool.and_eq_true, decide_eq_true_eq]
  rcases isB y t with ⟨h1, h2⟩ | ⟨⟨r, hr, hr2, hr3, hr4⟩, h2⟩
  · rw [h1]
    constructor
    · rintro ⟨h3, _⟩; omega
    · rintro ⟨x, hx, h3, h4, _⟩; have := h2 x hx h3; omega
  · constructor
    · rintro ⟨_, h3⟩; exact ⟨r, hr, hr2, hr3, by rw [hr4]; exact h3⟩
    · rintro ⟨x, hx, h3, h4, h5⟩
      have h6 := fin_in hr2
      have h7 := lost_mono (t := t) (h2 x hx h3 h4) y
      exact ⟨by omega, by omega⟩
set_option maxRecDepth 20000
def onF (o : List Rs) : List Rs := o.foldl (fun acc x => if idnR x ∈ acc.map idnR then acc else acc ++ [x]) []
theorem onF_snoc (o : List Rs) (x : Rs) : onF (o ++ [x]) = if idnR x ∈ (onF o).map idnR then onF o else onF o ++ [x] := by
 unfold onF; rw [List.foldl_append]; rfl
theorem onF_ids : ∀ (n : Nat) (o : List Rs) (a : Idn), o.length = n → (a ∈ (onF o).map idnR ↔ a ∈ o.map idnR)
 | 0, o, a, h => by
  obtain rfl : o = [] := List.eq_nil_of_length_eq_zero h
  exact Iff.rfl
 | n + 1, o, a, h => by
  have hne : o ≠ [] := fun e => by rw [e] at h; cases h
  rw [← List.dropLast_concat_getLast hne]
  have ih := onF_ids n o.dropLast a (by rw [List.length_dropLast]; omega)
  rw [onF_snoc, List.map_append, List.mem_append, ← ih]
  split
  ·rename_i hm
   constructor
   ·exact .inl
   rintro (h1 | h1)
   ·exact h1
   rw [List.map_singleton, List.mem_singleton] at h1; rw [h1]; exact hm
  rw [List.map_append, List.mem_append]
def dON (o : List Rs) (j : Nat) : Bool := match o[j]? with
 | some x => decide (idnR x ∈ (o.take j).map idnR)
 | none => false
theorem dON_at {o : List Rs} {j : Nat} {x : Rs} (h : o[j]? = some x) : dON o j = decide (idnR x ∈ (o.take j).map idnR) := by unfold dON; rw [h]
theorem onF_kp (o : List Rs) : KpS (dON o) o (fun j => onF (o.take j)) := ⟨by dsimp only; rw [List.take_zero]; rfl, fun j x h => by
 dsimp only
 rw [List.take_add_one, h, Option.toList, onF_snoc, dON_at h]
 have := onF_ids _ (o.take j) (idnR x) rfl
 by_cases hm : idnR x ∈ (o.take j).map idnR
 ·rw [if_pos (this.2 hm), if_pos (decide_eq_true hm)]
 rw [if_neg (fun h1 => hm (this.1 h1)), if_neg (by simpa using hm)]⟩
def OncP (l y : List Rs) : Prop := ∃ o, IsOrd l o ∧ y = onF o
theorem OncP.eq {l y y' : List Rs} (h : OncP l y) (h' : OncP l y') : y = y' := by
 obtain ⟨o, h1, rfl⟩ := h
 obtain ⟨o', h2, rfl⟩ := h'
 rw [h1.eq h2]
def IdM (ob : Obj) (fs : List Idn) : Prop := ∃ f : Idn → Option Value, MapG (fun s : Idn => .agg s.cells.toArray) Idn.Ok ob f ∧ ∀ a, a.Ok → (f a).getD (.bool false) = .bool (decide (a ∈ fs))
theorem IdM.new : IdM (.map #[] 0) [] := ⟨_, mapG_new _ _, fun a _ => rfl⟩
theorem IdM.set {ob : Obj} {fs : List Idn} {x : Idn} {f : Idn → Option Value} (h2 : ∀ a, a.Ok → (f a).getD (.bool false) = .bool (decide (a ∈ fs))) (hm : MapG (fun s : Idn => .agg s.cells.toArray) Idn.Ok ob (fun z => if z = x then some (.bool true) else f z)) : IdM ob (fs ++ [x]) :=
 ⟨_, hm, fun a ha => by
  by_cases e : a = x
  ·simp [e]
  simp [e, h2 a ha]⟩
theorem idn_ok {r : Rs} (h : vldRs r = true) : (idnR r).Ok := by
 have h1 := vld_in h
 unfold Rs.inRange at h1
 unfold Idn.Ok idnR
 dsimp only
 refine ⟨?_, ?_, ?_⟩ <;> (simp [Lit.wf, IntKind.min, IntKind.max, IntKind.signed, IntKind.bits]; omega)
theorem onF_sub : ∀ (o : List Rs) {r : Rs}, r ∈ onF o → r ∈ o := fun o => by
 induction hn : o.length generalizing o with
 | zero =>
  intro r h
  obtain rfl : o = [] := List.eq_nil_of_length_eq_zero hn
  exact h
 | succ n ih =>
  intro r h
  have hne : o ≠ [] := fun e => by rw [e] at hn; cases hn
  rw [← List.dropLast_concat_getLast hne, onF_snoc] at h
  have ih' := fun {r} => ih o.dropLast (by rw [List.length_dropLast]; omega) (r := r)
  split at h
  ·exact List.dropLast_subset _ (ih' h)
  rcases List.mem_append.1 h with h | h
  ·exact List.dropLast_subset _ (ih' h)
  rw [List.mem_singleton.1 h]; exact List.getLast_mem hne
theorem mreag141 (w : World) : (isAgg 141).run Tryz.prog w = .ok false w := rfl
theorem mrezv141 (w : World) : (zeroValue 141).run Tryz.prog w = .ok (.map none) w := rfl
theorem mresz141 (w : World) : (sizeOf 141).run Tryz.prog w = .ok 1 w := rfl
theorem mreone_m {a0 : Nat} : ∀ u ∈ [(.map (some a0) : Value)], u.oneCell' = true := by
 intro u hu
 rw [List.mem_singleton] at hu
 subst hu; rfl
theorem res1_fr (w0 : Base) (F : List Pc) (g1 gm : Nat) (ob : Obj) (x : Rs) (fs : List Idn) (w : World) (hw0 : Pm w0 ([.oth gm ob, .blk g1 141 [.map (some gm)]] ++ F) w) (hx : (idnR x).Ok) (hM : IdM ob fs) (hgm : Mine w0 gm) :
  Calls Tryz.prog 149 #[.agg x.cells.toArray, .pointer (some ⟨g1, 0, none⟩)] w fun e w' => ∃ s2 : {ob2 : Obj // IdM ob2 (fs ++ [idnR x])}, e = .returned (.bool (decide (idnR x ∈ fs))) ∧ Pm w0 ([.oth gm s2.1, .blk g1 141 [.map (some gm)]] ++ F) w' := by
 refine begin_ (vs := [.agg x.cells.toArray, .pointer (some ⟨g1, 0, none⟩)]) (I := Pm w0 ([.oth gm ob, .blk g1 141 [.map (some gm)]] ++ F)) Tryz.func149 rfl rfl rfl ?_ hw0
 refine zSG ?_
 refine TL.pnew rfl rfl rfl (exec_box (cs := x.cells) rfl rfl rfl) (fun g2 => ?_)
 refine TL.as_ ?_
 refine zET (zS ?_)
 obtain ⟨fm, hmf, hff⟩ := hM
 obtain ⟨mb, hmb⟩ : ∃ b, decide (idnR x ∈ fs) = b := ⟨_, rfl⟩
 refine zG (TL.v (gV 0 (.agg (x.cells).toArray) prsag65 prssz65) ?_)
 refine TL.pcall1 (r := .agg ((idnR x).cells).toArray) rfl rfl rfl rfl rfl Tryz.func104 (by decide) rfl (fun w1 hw => idn_any x w1) ?_
 refine TL.pnew rfl rfl rfl (exec_alloc (cs := [.int .i64 0, .int .i64 0, .int .i64 0]) rfl prszv73 rfl) (fun g4 => ?_)
 refine TL.pstore (k := 0) (vs := (idnR x).cells) rfl rfl rfl rfl rfl rfl rfl prssz73 (by first | exact idn_cel.one _ | exact ru_cel.one _) (by show 3 ≤ 3; decide) (L' := ([.blk g4 73 (idnR x).cells, .blk g2 65 x.cells, .oth gm ob, .blk g1 141 [.map (some gm)]] ++ F)) rfl ?_
 refine zET (zSG (TL.v (gL 3 mreag141) ?_))
 refine TL.v (gV 0 (.agg ((idnR x).cells).toArray) pofag73 prssz73) ?_
 refine TL.val rfl rfl rfl (gives_lookG (i := 2) (a := idnR x) (v := .bool mb) rfl rfl rfl idn_key Tryz.underlying141 (fun w => rfl) rfl hmf hx (by rw [hff _ hx, hmb])) ?_
 refine TL.as_ ?_
 refine zET (zSG (TL.v (gL 3 mreag141) ?_))
 refine TL.v (gV 0 (.agg ((idnR x).cells).toArray) pofag73 prssz73) ?_
 refine TL.mapsetG (enc := fun s : Idn => .agg s.cells.toArray) (a := idnR x) (i := 2) rfl rfl rfl rfl rfl rfl idn_key Tryz.underlying141 rfl hgm hmf hx (fun ob2 hm2 => ?_)
 try dsimp only [List.set_cons_zero, List.set_cons_succ]
 refine zET (zSG (TL.rn 2 rfl (zET (zr ?_))))
 exact ret_tmp Tryz.results149 rfl (fun w1 hw => ⟨⟨ob2, IdM.set hff hm2⟩, by rw [hmb], hw.sel (.cons _ (.cons _ (.cons_cons _ (.cons_cons _ (List.Sublist.refl _)))))⟩)
theorem onF_le (o : List Rs) : (onF o).length ≤ o.length := by
 have h := (onF_kp o)
 induction hn : o.length generalizing o with
 | zero => obtain rfl : o = [] := List.eq_nil_of_length_eq_zero hn; exact Nat.le_refl _
 | succ n ih =>
  have hne : o ≠ [] := fun e => by rw [e] at hn; cases hn
  rw [← List.dropLast_concat_getLast hne, onF_snoc]
  have := ih o.dropLast (onF_kp _) (by rw [List.length_dropLast]; omega)
  split
  ·omega
  rw [List.length_append]; show _ + 1 ≤ _; omega
theorem results_any (A0 : Option Addr) (c0 : Nat) (l : List Rs) (w : World) (hr : Reads w w.heap.size 17 A0 l.length (flat Rs.cells l)) (hl1 : l.length ≤ 100000) (hok : ∀ r ∈ l, r.Ok) :
  Calls Tryz.prog 101 #[.slice A0 l.length c0] w fun e w' => ∃ x : {y : (Option Addr × Nat) × List Rs // OncP l y.2 ∧ y.2.length ≤ y.1.2 ∧ y.1.2 ≤ maxLen}, e = .returned (.slice x.1.1.1 x.1.2.length x.1.1.2) ∧ Pm w [.row (.slice x.1.1.1 x.1.2.length x.1.1.2) 65 17 x.1.2.length (flat Rs.cells x.1.2)] w' := by
 refine begin_ (vs := [.slice A0 l.length c0]) Tryz.func101 rfl rfl rfl ?_ (Pm.start w)
 refine zSG (TL.as_ ?_)
 refine zET (zSG ?_)
 refine TL.mkmap rfl rfl rfl rfl (fun gm hgm => ?_)
 refine TL.pnew rfl rfl rfl (exec_alloc (cs := [.map none]) rfl mrezv141 rfl) (fun g3 => ?_)
 refine TL.pstore (k := 0) (vs := [.map (some gm)]) rfl rfl rfl rfl rfl rfl rfl mresz141 mreone_m (by show 1 ≤ 1; decide) rfl ?_
 refine zET (zSG (TL.mv ?_))
 refine TL.pcallPm (α := {y : (Option Addr × Nat) × List Rs // IsOrd l y.2 ∧ y.2.length ≤ y.1.2 ∧ y.1.2 ≤ maxLen}) (fun x => .slice x.1.1.1 x.1.2.length x.1.1.2) (fun x => [.row (.slice x.1.1.1 x.1.2.length x.1.1.2) 65 17 x.1.2.length (flat Rs.cells x.1.2)]) rfl rfl rfl rfl rfl Tryz.func88 (by decide) rfl (fun w1 hw => ord_any A0 c0 l w1 (hr.up hw.bel) hl1 hok) ?_
 rintro ⟨⟨⟨R6, rc6⟩, o6⟩, hP6, hR61, hR62⟩
 dsimp only [List.cons_append, List.nil_append]
 dsimp only at hP6 hR61 hR62 ⊢
 refine TL.val rfl rfl rfl (gives_makeFunc rfl rfl rfl) ?_
 have hol := hP6.le
 refine TL.call (α := {ob2 : Obj // IdM ob2 ((o6.take o6.length).map idnR)}) (r := fun _ => .slice R6 ((onF (o6.take o6.length)).length) rc6) (I' := fun x => Pm w ([.row (.slice R6 ((onF (o6.take o6.length)).length) rc6) 65 17 ((onF (o6.take o6.length)).length) (flat Rs.cells (onF (o6.take o6.length))), .oth gm x.1] ++ [.blk g3 141 [.map (some gm)]])) rfl rfl rfl rfl rfl Tryz.func108 (by decide) rfl (fun w1 hw => delS_fr w [.blk g3 141 [.map (some gm)]] (fun ob => .oth gm ob) (fun j ob => IdM ob ((o6.take j).map idnR)) (.map #[] 0) (dON o6) 149 _ #[.pointer (some ⟨g3, 0, none⟩)] (fun j => onF (o6.take j)) R6 rc6 o6 w1 (hw.pick [0, 2, 1] (by decide) rfl) (by omega) (by omega) (by omega) (onF_kp o6) Tryz.func149 (by decide) rfl (by rw [List.take_zero]; exact IdM.new) (fun j x ob w1 L1 hx hk h9 => (res1_fr w (L1 ++ []) g3 gm ob x ((o6.take j).map idnR) w1 (h9.permute (List.perm_append_comm_assoc L1 [.oth gm ob, .blk g3 141 [.map (some gm)]] [])) (idn_ok ((hP6.2 x).1 (List.mem_of_getElem? hx)).2) hk hgm).mono fun en w2 ⟨s2, h1, h2⟩ => ⟨⟨s2.1, by rw [List.take_add_one, hx, List.map_append]; exact s2.2⟩, by rw [h1, dON_at hx], h2.permute (List.perm_append_comm_assoc L1 [.oth gm s2.1, .blk g3 141 [.map (some gm)]] []).symm⟩)) ?_
 rintro ⟨ob9, hob9⟩
 refine TL.as_ ?_
 refine zET (zr ?_)
 have hE : onF (o6.take o6.length) = onF o6 := by rw [List.take_length]
 exact ret_tmp Tryz.results101 rfl (fun w1 hw => ⟨⟨((R6, rc6), onF (o6.take o6.length)), ⟨o6, hP6, hE⟩, by dsimp only; have := onF_le (o6.take o6.length); rw [List.length_take] at this; omega, hR62⟩, rfl, hw.pick [0] (by decide) rfl⟩)
set_option maxRecDepth 20000
def catL (ss : List (Sg Rs)) : List Rs := ss.flatMap (·.l)
theorem catL_snoc {ss : List (Sg Rs)} {i : Nat} {x : Sg Rs} (h : ss[i]? = some x) : catL (ss.take (i + 1)) = catL (ss.take i) ++ x.l := by
 unfold catL
 rw [List.take_add_one, h, List.flatMap_append]
 simp
theorem catL_le (ss : List (Sg Rs)) (i : Nat) : (catL (ss.take i)).length ≤ (catL ss).length := by
 conv => rhs; rw [← List.take_append_drop i ss]
 unfold catL
 rw [List.flatMap_append, List.length_append]; omega
theorem mcosz23 (w : World) : (sizeOf 23).run Tryz.prog w = .ok 1 w := rfl
theorem mcoag23 (w : World) : (isAgg 23).run Tryz.prog w = .ok false w := rfl
theorem growR_nil (n : Nat) (w : World) (hn : n ≤ 1000000) :
  Calls Tryz.prog 151 #[.slice none 0 0, .int .i64 ((n : Nat) : Int)] w fun e w' => ∃ x : {y : Option Addr × Nat // n ≤ y.2 ∧ y.2 ≤ maxLen}, e = .returned (.slice x.1.1 0 x.1.2) ∧ Pm w [.row (.slice x.1.1 0 x.1.2) 65 17 0 (flat Rs.cells [])] w' := by
 refine begin_ (vs := [.slice none 0 0, .int .i64 ((n : Nat) : Int)]) Tryz.func151 rfl rfl rfl ?_ (Pm.start w)
 refine zSG (TL.as_ ?_)
 refine zET (zS (zSG (TL.mv ?_)))
 refine TL.val rfl rfl rfl (gives_bin rfl rfl rfl (fun w => bin_lss_f (by omega) w)) ?_
 refine zET (zd (zk (zT (zS (zSG (TL.rn 2 rfl ?_))))))
 refine TL.val rfl rfl rfl (gives_cap rfl Tryz.underlying23 rfl) ?_
 refine TL.mv ?_
 refine TL.v (gN Tryz.underlying23) ?_
 refine TL.val rfl rfl rfl (gives_bin rfl rfl rfl (fun w => bin_sub_ (r := 0) (rfl) w)) ?_
 refine TL.val rfl rfl rfl (gives_bin rfl rfl rfl (fun w => bin_sub_ (r := ((n : Nat) : Int)) (by simp only [IntKind.wrap_i64]; omega) w)) ?_
 refine TL.as_ ?_
 refine zET (zSG (TL.mv ?_))
 refine TL.sp bin_gtr (fun q16 => ?_) (fun q16 => ?_)
 ·refine zET (zc (zG (TL.rn 2 rfl ?_)))
  refine TL.val rfl rfl rfl (gives_cap rfl Tryz.underlying23 rfl) ?_
  refine TL.nilrow 65 17 ?_
  refine TL.rowhead (k := 0) (hi := 0) (xs' := []) rfl rfl rfl rfl rfl rfl Tryz.underlying23 prssz65 rfl (Nat.le_refl _) (Nat.le_refl _) rfl ?_
  try dsimp only [List.set_cons_zero, List.set_cons_succ]
  refine TL.mv ?_
  refine TL.zeros (k := 0) (m := n) rfl rfl rfl rfl porel23 Tryz.underlying3 rfl rfl rfl (z := .agg Rs.zero.cells.toArray) (by kernel_rfl) (zs := flat Rs.cells (List.replicate n Rs.zero)) (zeroCells_flat rs_cel Rs.zero n) (fun k u hu => by have hu2 := hu; rw [show (Value.agg Rs.zero.cells.toArray).cells = Rs.zero.cells.toArray from rfl, zeroCells_flat rs_cel Rs.zero k] at hu2; exact flat_one rs_cel _ u hu2) (by show _ * 128 ≤ _; omega) n (by omega) (fun A22 c22 hA221 hA222 => ?_)
  try dsimp only [List.set_cons_zero, List.set_cons_succ, List.nil_append]
  refine TL.mv ?_
  refine TL.v (gN Tryz.underlying23) ?_
  refine TL.rowhead (k := 0) (hi := 0) (xs' := []) rfl rfl rfl rfl rfl rfl Tryz.underlying23 prssz65 rfl (Nat.zero_le _) hA221 rfl ?_
  try dsimp only [List.set_cons_zero, List.set_cons_succ]
  refine TL.as_ ?_
  refine zET (zSG (TL.rn 2 rfl (zET (zr ?_))))
  exact ret_tmp Tryz.results151 rfl (fun w1 hw => ⟨⟨(A22, c22), hA221, hA222⟩, rfl, hw.pick [0] (by decide) rfl⟩)
 refine zET (zd (zk (zT (zSG (TL.rn 2 rfl (zET (zr ?_)))))))
 exact ret_tmp Tryz.results151 rfl (fun w1 hw => ⟨⟨(none, 0), by dsimp only; omega, Nat.zero_le _⟩, rfl, (hw.pick [] (by decide) rfl).nilrow _ _⟩)
theorem concR_any (A0 : Option Addr) (c0 : Nat) (ss : List (Sg Rs)) (w : World) (hs : Reads w w.heap.size 1 A0 ss.length (flat sgc ss)) (hb : ∀ s ∈ ss, Reads w w.heap.size 17 s.A s.l.length (flat Rs.cells s.l)) (hl : ss.length ≤ 1000) (hcl0 : (catL ss).length ≤ 1000000) :
  Calls Tryz.prog 103 #[.slice A0 ss.length c0] w fun e w' => ∃ x : {y : (Option Addr × Nat) × List Rs // y.2 = catL ss ∧ y.2.length ≤ y.1.2 ∧ y.1.2 ≤ maxLen}, e = .returned (.slice x.1.1.1 x.1.2.length x.1.1.2) ∧ Pm w [.row (.slice x.1.1.1 x.1.2.length x.1.1.2) 65 17 x.1.2.length (flat Rs.cells x.1.2)] w' := by
 refine begin_ (vs := [.slice A0 ss.length c0]) Tryz.func103 rfl rfl rfl ?_ (Pm.start w)
 refine zSG (TL.as_ ?_)
 refine zET (zSG (TL.as_ ?_))
 refine zET (zS (zSG (TL.mv ?_)))
 refine TL.v (gN Tryz.underlying45) ?_
 refine TL.mv ?_
 refine zET (zB (TC.loop_ (α := {i : Nat // i ≤ ss.length}) (fun y => [(0, .slice A0 ss.length c0), (9, .slice A0 ss.length c0), (10, .int .i64 (ss.length : Nat)), (11, .int .i64 ((y.1 : Nat) : Int)), (3, .int .i64 (((catL (ss.take y.1)).length : Nat) : Int))]) (fun y => Pm w []) (fun y => ss.length - y.1) (⟨0, Nat.zero_le _⟩) ⟨rfl, rfl, rfl, rfl, rfl, trivial⟩ (fun w1 hw => hw) ?_))
 rintro ⟨i, hi⟩
 try dsimp only at hi ⊢
 refine zSG ?_
 refine TL.sp bin_lss (fun q12 => ?_) (fun q12 => ?_)
 ·refine zET (zS (zc (zk (zT (zS (zB (zSG ?_)))))))
  have hi13 : i < ss.length := by omega
  obtain ⟨x13, hx13⟩ := ex_at hi13
  obtain ⟨b13, o13, hA13, hbb13, hc13⟩ := hs.ad (by omega) (by decide)
  refine TL.val rfl rfl rfl (gA (i := i) Tryz.underlying45 mcosz23 rfl rfl rfl rfl hA13 (by omega)) ?_
  refine TL.v (gS 0 sgc_cel mcoag23 hbb13 hx13 hc13) ?_
  refine TL.as_ ?_
  refine zET (zS ?_)
  have hcs := catL_snoc hx13
  have hcl : (catL (ss.take (i + 1))).length = (catL (ss.take i)).length + x13.l.length := by rw [hcs, List.length_append]
  have hcm := catL_le ss (i + 1)
  refine zG (TL.rn 2 rfl (TL.v (gN Tryz.underlying23) ?_))
  refine TL.v (gD (((catL (ss.take (i + 1))).length : Nat) : Int)) ?_
  refine TL.as_ ?_
  refine zET (zSG (TL.mv ?_))
  refine TL.val rfl rfl rfl (gives_bin rfl rfl rfl (fun w => bin_lss_f (by omega) w)) ?_
  refine zET (zd (zk (zN (zT (zG (TL.v (gD ((i + 1 : Nat) : Int)) ?_))))))
  refine TL.mv ?_
  refine zE ?_
  exact TX.round (⟨i + 1, by omega⟩) (by show ss.length - (i + 1) < ss.length - i; omega) ⟨rfl, rfl, rfl, rfl, rfl, trivial⟩ (fun w1 hw => hw)
 refine zET (zS (zd (zx (zX (zX (zM (zT (zS ?_))))))))
 have hct : catL (ss.take i) = catL ss := by rw [List.take_of_length_le (by omega)]
 refine zG (TL.mv ?_)
 refine TL.pcallPm (α := {y : Option Addr × Nat // (catL (ss.take i)).length ≤ y.2 ∧ y.2 ≤ maxLen}) (fun x => .slice x.1.1 0 x.1.2) (fun x => [.row (.slice x.1.1 0 x.1.2) 65 17 0 (flat Rs.cells ([]))]) rfl rfl rfl rfl rfl Tryz.func151 (by decide) rfl (fun w1 hw => growR_nil (catL (ss.take i)).length w1 (by have := catL_le ss i; omega)) ?_
 rintro ⟨⟨Ag, cg⟩, hg1, hg2⟩
 dsimp only [List.cons_append, List.nil_append]
 dsimp only at hg1 hg2 ⊢
 refine TL.as_ ?_
 refine zET (zS (zSG (TL.mv ?_)))
 refine TL.v (gN Tryz.underlying45) ?_
 refine TL.mv ?_
 refine zET (zB (TC.loop_ (α := {y : Nat × (Option Addr × Nat) // y.1 ≤ ss.length ∧ (catL (ss.take y.1)).length ≤ y.2.2 ∧ y.2.2 ≤ maxLen}) (fun y => [(0, .slice A0 ss.length c0), (25, .slice A0 ss.length c0), (26, .int .i64 (ss.length : Nat)), (27, .int .i64 ((y.1.1 : Nat) : Int)), (6, .slice y.1.2.1 ((catL (ss.take y.1.1)).length) y.1.2.2)]) (fun y => Pm w [.row (.slice y.1.2.1 ((catL (ss.take y.1.1)).length) y.1.2.2) 65 17 ((catL (ss.take y.1.1)).length) (flat Rs.cells (catL (ss.take y.1.1)))]) (fun y => ss.length - y.1.1) (⟨(0, (Ag, cg)), Nat.zero_le _, Nat.zero_le _, hg2⟩) ⟨rfl, rfl, rfl, rfl, rfl, trivial⟩ (fun w1 hw => hw) ?_))
 rintro ⟨⟨i, ⟨Ao, co⟩⟩, hi, hoc, hom⟩
 dsimp only at hi hoc hom ⊢
 refine zSG ?_
 refine TL.sp bin_lss (fun q28 => ?_) (fun q28 => ?_)
 ·refine zET (zS (zc (zk (zT (zS (zB (zSG ?_)))))))
  have hi29 : i < ss.length := by omega
  obtain ⟨x29, hx29⟩ := ex_at hi29
  obtain ⟨b29, o29, hA29, hbb29, hc29⟩ := hs.ad (by omega) (by decide)
  refine TL.val rfl rfl rfl (gA (i := i) Tryz.underlying45 mcosz23 rfl rfl rfl rfl hA29 (by omega)) ?_
  refine TL.v (gS 0 sgc_cel mcoag23 hbb29 hx29 hc29) ?_
  refine TL.as_ ?_
  refine zET ?_
  have hcs := catL_snoc hx29
  have hcl : (catL (ss.take (i + 1))).length = (catL (ss.take i)).length + x29.l.length := by rw [hcs, List.length_append]
  have hcm := catL_le ss (i + 1)
  refine zG (TL.rn 2 rfl ?_)
  refine TL.appendT (k := 0) rfl rfl rfl rfl Tryz.underlying23 porel23 rfl rfl rfl (fun w1 hw => ⟨_, ((hb x29 (List.mem_of_getElem? hx29)).up hw.bel)⟩) (flat_one rs_cel _) (by show _ * 128 ≤ _; omega) ((catL (ss.take (i + 1))).length) (hcl) (flat Rs.cells (catL (ss.take (i + 1)))) (by rw [hcs]; exact (flat_app _ _).symm) (fun A33 c33 hA331 hA332 => ?_)
  refine TL.as_ ?_
  refine zE (zN (zT (zG (TL.v (gD ((i + 1 : Nat) : Int)) ?_))))
  refine TL.mv ?_
  refine zE ?_
  exact TX.round (⟨(i + 1, (A33, c33)), by dsimp only; omega, hA331, hA332⟩) (by show ss.length - (i + 1) < ss.length - i; omega) ⟨rfl, rfl, rfl, rfl, rfl, trivial⟩ (fun w1 hw => hw)
 refine zET (zS (zd (zx (zX (zX (zM (zT (zSG (TL.rn 2 rfl (zET (zr ?_)))))))))))
 have hct : catL (ss.take i) = catL ss := by rw [List.take_of_length_le (by omega)]
 exact ret_tmp Tryz.results103 rfl (fun w1 hw => ⟨⟨((Ao, co), catL (ss.take i)), hct, hoc, hom⟩, rfl, hw.pick [0] (by decide) rfl⟩)
section
variable {P : Program} {Q : Exit → Act → World → Prop}
theorem wpOp_inRound {lr n : Nat} {ops : Array Oper} (hQ : LetsOut Q → False) (hd : ∀ (i : Nat) (o : Oper), ops[i]? = some o → ∀ c, o.op ≠ .defer c) (i : Nat) {K K' : Act → World → Prop} (hK : ∀ a w, K a w → K' a w) (a : Act) (w : World) (h : wpOp P ops Q i K a w) : wpOpIn (Fence.wide.inRound lr) n P ops Q i K' a w := by
  unfold wpOp at h
  unfold wpOpIn
  cases ho : ops[i]? with
  | none => rw [ho] at h; exact hK _ _ h
  | some o =>
    rw [ho] at h
    dsimp only at h ⊢
    by_cases hw : Region.wanted o (yielded ops a.tmps) = true
    · rw [if_pos hw] at h ⊢
      rcases h with h | h
      · refine ⟨fun f _ => trivial, ?_⟩
        rw [Oper.semAt_eq _ _ _ (hd i o ho)]
        unfold Oper.wp at h
        generalize (execOp a.eval o).run P w = res at h
        cases res with
        | ok x w' =>
          cases x with
          | value v => exact hK _ _ h
          | skip => exact hK _ _ h
          | defer d => exact hK _ _ h
          | enter f args =>
            refine ⟨fun h => (by cases h), CallsIn.inRound lr (callsIn_wide.2 (Calls.mono h fun e w'' q => ?_))⟩
            cases e with
            | returned v => exact hK _ _ q
            | panicked c => exact q
            | outgrown => exact q
          | row row args =>
            exact ⟨fun h => (by cases h), fun c cs hr => by
              obtain ⟨v, w'', q, st⟩ := h c cs
              exact ⟨v, w'', hK _ _ q, stepsIn_wide.2 st⟩⟩
          | round => exact h.elim
          | _ => exact h.elim
        | halt x w' =>
          cases x with
          | panic v => exact h
          | _ => exact h.elim
      · exact (hQ h.2).elim
    · rw [if_neg hw] at h ⊢
      exact ⟨fun f _ => trivial, hK _ _ h⟩
theorem wpAny_inRound {lr n : Nat} {md : Region.Mode} {ops : Array Oper} (hQ : LetsOut Q → False) (hd : ∀ (i : Nat) (o : Oper), ops[i]? = some o → ∀ c, o.op ≠ .defer c) : ∀ (fuel : Nat) (listed : Array Bool) (a : Act) (w : World), wpAny P md ops Q fuel listed a w → wpAnyIn (Fence.wide.inRound lr) n P md ops Q fuel listed a w
  | 0, _, _, _, h => h
  | fuel + 1, _, a, w, h => ⟨h.1, fun i hi => wpOp_inRound hQ hd i (fun a' w' h' => wpAny_inRound hQ hd fuel _ a' w' h') a w (h.2 i hi)⟩
end
section
variable {P : Program} {N : Fr} {E : Env} {I S : World → Prop} {lr n : Nat} {Q : Exit → Act → World → Prop}
theorem TR.held {id m : Nat} {l : List Oper} {ls : Array Bool} (S : World → Prop) (hm : P.follows .mixedOrders = true) (hn : l.toArray.size = m) (hls : Array.replicate m false = ls) (hI : ∀ w, I w → I { w with drawn := w.drawn + 1 })
    (h : TH P N l.toArray S Q m ls E I) (hd : noDefer l = true := by rfl) (hQ : LetsOut Q → False := by (intro h; obtain ⟨_, _, h, _⟩ := h; cases h)) : TR P N lr n Q (.region id l.toArray true) E I := fun a w ha hw => by
  subst hn hls
  have h1 : wpAny P .any l.toArray (NoPanic Q) l.toArray.size (Array.replicate l.toArray.size false) a { w with drawn := w.drawn + 1 } := wpAny_of_held _ _ _ _ (h a _ ha (hI w hw))
  have hd' : ∀ (i : Nat) (o : Oper), l.toArray[i]? = some o → ∀ c, o.op ≠ .defer c := fun i o ho => noDefer_at hd o (List.mem_of_getElem? (by simpa using ho))
  have h2 : wpAnyIn (Fence.wide.inRound lr) n P .any l.toArray (NoPanic Q) l.toArray.size (Array.replicate l.toArray.size false) a { w with drawn := w.drawn + 1 } := wpAny_inRound (Q := NoPanic Q) (fun ⟨a, w, h⟩ => hQ ⟨a, w, h⟩) hd' _ _ _ _ h1
  exact wpIn_mono (wpIn_region_any hm h2) fun e a w q => by cases e <;> first | exact q | exact q.elim
theorem TR.region_ {id : Nat} {l : List Oper} (h : TL P N l.toArray Q l E I) (hd : noDefer l = true := by rfl) (hQ : LetsOut Q → False := by (intro h; obtain ⟨_, _, h, _⟩ := h; cases h)) : TR P N lr n Q (.region id l.toArray false) E I := TR.region hQ hd h
theorem TR.seq_ {x y : Code} (h : TR P N lr n (Exit.then (y.wpIn (Fence.wide.inRound lr) n P Q) Q) x E I) : TR P N lr n Q (.seq x y) E I := fun a w ha hw => wpIn_seq (h a w ha hw)
theorem TX.thenR {y : Code} (h : TR P N lr n Q y E I) : TX N (Exit.then (y.wpIn (Fence.wide.inRound lr) n P Q) Q) .normal E I := fun a w ha hw => h a w ha hw
theorem TR.condT {c : Operand} {x y : Code} (hc : ev E c = some (.bool true)) (h : TR P N lr n Q x E I) : TR P N lr n Q (.cond c x y) E I := fun a w ha hw => wpIn_cond_true (ha.eval hc) (h a w ha hw)
theorem TR.condF {c : Operand} {x y : Code} (hc : ev E c = some (.bool false)) (h : TR P N lr n Q y E I) : TR P N lr n Q (.cond c x y) E I := fun a w ha hw => wpIn_cond_false (ha.eval hc) (h a w ha hw)
theorem TR.skip_ (h : TX N Q .normal E I) : TR P N lr n Q .skip E I := fun a w ha hw => wpIn_skip (h a w ha hw)
theorem retM0_pair {F : Fence} {n : Nat} {fn : Func} {t u : Tmp} {v1 v2 : Value} {R : Ending → World → Prop} (hr : fn.results = #[.tmp t, .tmp u]) (h1 : look E t = some v1) (h2 : look E u = some v2) (hR : ∀ w, I w → R (.returned (.tuple #[v1, v2])) w) (hD : N.ds = [] := by rfl) : TX N (bodyPostM F n P fn R) .ret E I := fun a w ha hw => by
  show LeavesInM F n P fn a.tmps R a.defers .returning w
  rw [ha.defers, hD]
  exact ⟨.tuple #[v1, v2], by rw [results_tmp2 hr]; have e1 := ha.slot t _ h1; have e2 := ha.slot u _ h2; simp [e1, e2], hR w hw⟩
theorem retM_pair {F : Fence} {n : Nat} {fn : Func} {t u : Tmp} {v1 v2 : Value} {D : Nat} {R : Ending → World → Prop} (hr : fn.results = #[.tmp t, .tmp u]) (h1 : look E t = some v1) (h2 : look E u = some v2) (hD : N.ds = [{ target := .collected D, args := #[] }])
    (hK : ∀ w, I w → w.heap[D]? = some (.deferred (some []))) (hR : ∀ w, I w → R (.returned (.tuple #[v1, v2])) (w.putObj D (.deferred none))) : TX N (bodyPostM F n P fn R) .ret E I := fun a w ha hw => by
  show LeavesInM F n P fn a.tmps R a.defers .returning w
  rw [ha.defers, hD]
  refine ⟨by simp, .inl ⟨_, _, rfl, run_takeDeferred (hK w hw), ?_⟩⟩
  have e1 := ha.slot t _ h1
  have e2 := ha.slot u _ h2
  exact ⟨.tuple #[v1, v2], by rw [results_tmp2 hr]; simp [e1, e2], hR w hw⟩
end
section
variable {P : Program} {N : Fr} {E : Env} {Q : Exit → Act → World → Prop} {w0 : Base}
end
section
variable {P : Program} {N : Fr} {n : Nat} {ops : Array Oper} {Q : Exit → Act → World → Prop} {l : List Oper} {o : Oper} {E : Env} {I : World → Prop}
def TLI (P : Program) (N : Fr) (n : Nat) (ops : Array Oper) (Q : Exit → Act → World → Prop) (l : List Oper) (E : Env) (I : World → Prop) : Prop := ∀ a w, EnvOk N E a → I w → wpListIn Fence.wide n P ops Q l a w
theorem TC.regionY {id : Nat} {l : List Oper} (n : Nat) (h : TLI P N n l.toArray Q l E I) : TC P N Q (.region id l.toArray false) E I := fun a w ha hw => (wpIn_wide (n := n)).1 (wpIn_region_lit (h a w ha hw))
theorem TLI.end_ (h : TX N Q .normal E I) : TLI P N n ops Q [] E I := fun a w ha hw => h a w ha hw
theorem TLI.val {d : Nat} {v : Value} (hg : o.guard = none) (hd : o.dst = some d) (hN : Nat.blt d N.n = true) (hv : Gives P N o E I v) (h : TLI P N n ops Q l ((d, v) :: E) I) : TLI P N n ops Q (o :: l) E I := fun a w ha hw => by
  unfold wpListIn
  rw [if_pos (by simp [Region.wanted, hg])]
  refine ⟨fun f _ => trivial, ?_⟩
  rw [show Fence.wide.round = none from rfl, Oper.semAt_none, hv a w ha hw]
  have := h (a.put o.dst v) w (hd ▸ ha.put d v (by simpa [Nat.blt_eq] using hN)) hw
  exact this
theorem TLI.yield {d lr : Nat} {x : Operand} {xs : List Operand} {ts : Array TypeId} {vs : List Value} {I1 I2 : World → Prop} (hg : o.guard = none) (hd : o.dst = some d) (hN : Nat.blt d N.n = true) (ho : o.op = .call { callee := .value x, args := xs.toArray, argTypes := ts }) (hx : ev E x = some (.func (.yield lr) #[] #[])) (hvs : evs E xs = some vs) (hn : 1 ≤ n)
    (hY : ∀ w, I w → YieldAt Fence.wide (n - 1) P lr vs.toArray w fun e w' => (e = .returned (.bool true) ∧ I1 w') ∨ (e = .returned (.bool false) ∧ I2 w'))
    (h : ∀ b : Bool, TLI P N n ops Q l ((d, .bool b) :: E) (fun w => (b = true → I1 w) ∧ (b = false → I2 w))) : TLI P N n ops Q (o :: l) E I := fun a w ha hw => by
  unfold wpListIn
  rw [if_pos (by simp [Region.wanted, hg])]
  refine ⟨fun f _ => trivial, ?_⟩
  obtain ⟨fn, tmps, assign, body, hy, hR⟩ := hY w hw
  have harr : xs.toArray.map a.eval = vs.toArray := by rw [List.map_toArray, ha.evals hvs]
  have hex : (execOp a.eval o).run P w = .ok (.round lr fn tmps assign body) w := by
    unfold execOp; rw [ho]
    simp only [resolve, harr, ha.eval hx, Deferred.ofValue]
    simp [invoke, hy]
  rw [show Fence.wide.round = none from rfl, Oper.semAt_none, hex]
  refine ⟨fun _ => hn, hR.mono ?_⟩
  rintro e w3 (⟨rfl, h3⟩ | ⟨rfl, h3⟩)
  · exact h true (a.put o.dst (.bool true)) w3 (hd ▸ ha.put d _ (by simpa [Nat.blt_eq] using hN)) ⟨fun _ => h3, fun h => by cases h⟩
  · exact h false (a.put o.dst (.bool false)) w3 (hd ▸ ha.put d _ (by simpa [Nat.blt_eq] using hN)) ⟨fun h => (by cases h), fun _ => h3⟩
end
def SeqNext {α : Type} (n : Nat) (P : Program) (g : Nat) (lb : Array Value) (encs : α → Array Value) (Nx : List α → α → Prop) (Kp : World → World → Prop) (S : List α → Prop) (w : World) : Prop :=
  ∀ (l : Nat) (J : List α → World → Prop) (W : World), Below w.heap.size w W →
    (∀ pre x W1, J pre W1 → Nx pre x → YieldAt Fence.wide (n - 1) P l (encs x) W1 fun e W' => e = .returned (.bool true) ∧ J (pre ++ [x]) W' ∧ Kp W1 W') →
    J [] W → CallsIn Fence.wide n P g (#[.func (.yield l) #[] #[]] ++ lb) W fun e W' => (∃ v, e = .returned v) ∧ ∃ xs, S xs ∧ J xs W'
section
variable {P : Program} {N : Fr} {E : Env} {Q : Exit → Act → World → Prop} {w0 : Base}
theorem TC.rangeF3 {α σ : Type} {g : Operand} {p q id : Nat} {la : List Oper} {body : Code} {gf : Nat} {lb : Array Value} {fn : Func} (n : Nat) (h1 : 1 ≤ n)
    (hg : ev E g = some (.func (.func gf) #[] lb)) (hf : P.funcs[gf]? = some fn) (hn : (fn.name == "runtime.NumGoroutine") = false) (hb : fn.body.isNone = false) (hp : Nat.blt p N.n = true) (hq : Nat.blt q N.n = true)
    (enc1 enc2 : α → Value) (Nx : List α → α → Prop) (Kp : World → World → Prop) (S : List α → Prop) (Inv : List α → σ → Prop) (L : σ → List Pc) (hoth : ∀ s, noOth (L s) = true) (s0 : σ) (hs0 : Inv [] s0)
    (hseq : ∀ w, Pm w0 (L s0) w → SeqNext (n - 1) P gf lb (fun x => #[enc1 x, enc2 x]) Nx Kp S w)
    (hKt : ∀ {A B C : World}, Kp A B → Kp B C → Kp A C) (hKb : ∀ (W : World) (l : Nat) (o o' : Obj), W.heap[l]? = some o → o.isCells = false → Kp W (W.putObj l o'))
    (hKp : ∀ s s' b W W', Pm ⟨W, b⟩ (L s) W → Pm ⟨W, b⟩ (L s') W' → Kp W W')
    (E' : α → Env) (hd : noDefer la = true)
    (hassign : ∀ (x : α) (Q' : Exit → Act → World → Prop) (I : World → Prop), TX ⟨N.n, []⟩ Q' .normal (E' x) I → TL P ⟨N.n, []⟩ la.toArray Q' la ((q, enc2 x) :: (p, enc1 x) :: E) I)
    (hbody : ∀ (lr : Nat) (pre : List α) (s : σ) (x : α) (W : World), Inv pre s → Nx pre x → Pm w0 (L s) W → TR P ⟨N.n, []⟩ lr (n - 1 - 1) (RoundQ (fun W' => ∃ s2, Inv (pre ++ [x]) s2 ∧ Pm ⟨W, w0.b⟩ (L s2) W')) body (E' x) (Pm ⟨W, w0.b⟩ (L s)))
    (hdone : ∀ (D : Nat) (xs : List α) (s : σ), S xs → Inv xs s → TX ⟨N.n, { target := .collected D, args := #[] } :: N.ds⟩ Q .normal E (Pm w0 (.oth D (.deferred (some [])) :: L s))) :
    TC P N Q (.rangeFunc g #[p, q] (.region id la.toArray false) body) E (Pm w0 (L s0)) := fun a w ha hw => by
  have hn' : ¬ fn.name = "runtime.NumGoroutine" := by simpa using hn
  have hb' : ¬ fn.body = none := by intro e; rw [e] at hb; simp at hb
  refine (wpIn_wide (n := n)).1 (wpIn_rangeFunc fun fc _ => ?_)
  obtain ⟨R, hR⟩ : ∃ R : LoopState → Loop, R = fun st => { state := st, pending := none, fn := fc, tmps := a.tmps, params := #[p, q], assign := .region id la.toArray false, body, defers := w.heap.size } := ⟨_, rfl⟩
  obtain ⟨V, hV⟩ : ∃ V, (w.alloc (.deferred (some []))).alloc (.loop (R .ready)) = V := ⟨_, rfl⟩
  have own : OwnFrom w.heap.size (fun (pre : List α) W => ∃ s, Inv pre s ∧ Pm w0 (L s) W) := fun pre W W' row ⟨s, h4, h5⟩ h6 h7 => ⟨s, h4, pm_ownFrom (β := σ) hw.base hw.bel.size hoth s W W' row h5 h6 h7⟩
  have v1 : V.heap[w.heap.size + 1]? = some (.loop (R .ready)) := by
    have := World.alloc_heap_new (w.alloc (.deferred (some []))) (.loop (R .ready))
    rw [World.size_alloc] at this
    rw [← hV]; exact this
  have v0 : V.heap[w.heap.size]? = some (.deferred (some [])) := by
    rw [← hV]; exact (Below.heap_alloc _ _ _ (by simp)).trans (World.alloc_heap_new w _)
  have vI : ∃ s, Inv [] s ∧ Pm w0 (L s) V := hV ▸ own.alloc (s := []) _ (own.alloc (s := []) _ ⟨s0, hs0, hw⟩)
  have vB : Below w.heap.size w V := by
    rw [← hV]; exact ((Below.refl _ w).alloc (Nat.le_refl _) _).alloc (by simp) _
  refine ⟨w.heap.size + 1, [{ target := .collected w.heap.size, args := #[] }], V, { target := .fn (.func gf) lb, args := #[.func (.yield (w.heap.size + 1)) #[] #[]] }, V, gf, #[.func (.yield (w.heap.size + 1)) #[] #[]] ++ lb, V, ?_, ?_, fun _ _ => trivial, ?_, fun _ => h1, ?_⟩
  · rw [← hV, hR]; exact run_enterLoop_outer _ _ _ _ _
  · simp only [resolve, ha.eval hg]
    simp [go_sem]
  · simp [invoke, callFunc, hf, hn', hb', go_sem]
  · refine (hseq w hw (w.heap.size + 1) (fun pre W => (∃ s, Inv pre s ∧ Pm w0 (L s) W) ∧ W.heap[w.heap.size + 1]? = some (.loop (R .ready)) ∧ W.heap[w.heap.size]? = some (.deferred (some []))) V vB ?_ ⟨vI, v1, v0⟩).mono ?_
    · rintro pre x W ⟨⟨s, hs, hI⟩, hl, hk⟩ hx
      have hlt : w.heap.size + 1 < W.heap.size := (Array.getElem?_eq_some_iff.1 hl).1
      have hy := run_yield (P := P) (args := #[enc1 x, enc2 x]) hl (by rw [hR]; rfl)
      rw [hR] at hy
      refine ⟨fc, _, _, body, hy, roundIn_of_wpIn trivial ?_⟩
      refine wpIn_region_lit (wpList_inRound (fun ⟨a, w, h⟩ => h) la (noDefer_at hd) _ W (hassign x _ (fun W' => W' = W) (fun a' W' ha' hW => ?_) _ W ?_ rfl))
      · subst hW
        refine ⟨_, run_beginRound hl (by rw [hR]), ?_⟩
        obtain ⟨B, hB⟩ : ∃ B, W'.putObj (w.heap.size + 1) (.loop { R .ready with state := .busy }) = B := ⟨_, rfl⟩
        have b1 : B.heap[w.heap.size + 1]? = some (.loop { R .ready with state := .busy }) := by rw [← hB]; exact World.putObj_heap_same hlt
        have b0 : B.heap[w.heap.size]? = some (.deferred (some [])) := by rw [← hB]; exact (World.putObj_heap_other (by omega)).trans hk
        have bK : Kp W' B := hB ▸ hKb _ _ _ _ hl rfl
        obtain ⟨sb, hsb, hIb⟩ : ∃ s, Inv pre s ∧ Pm w0 (L s) B := hB ▸ own.putObj (s := pre) _ ⟨s, hs, hI⟩ (by omega) hl rfl
        rw [hB]
        refine wpIn_mono (hbody _ pre sb x B hsb hx hIb a' B ha' hIb.from_) ?_
        rintro e a3 C ⟨rfl, s2, hs2, hJ⟩
        have kf := hJ.oth
        have c1 := kf.same _ _ b1 rfl
        have c0 := kf.same _ _ b0 rfl
        have hend := run_endRound (P := P) none c1
        have hlc := (Array.getElem?_eq_some_iff.1 c1).1
        have eR : (Obj.loop { { R .ready with state := .busy } with state := if (none : Option Code).isNone then .ready else .done, pending := none }) = .loop (R .ready) := by rw [hR]; rfl
        rw [eR] at hend
        refine ⟨_, _, hend, rfl, ⟨own.putObj (s := pre ++ [x]) _ ⟨s2, hs2, hIb.trans hJ⟩ (by omega) c1 rfl, World.putObj_heap_same hlc, (World.putObj_heap_other (by omega)).trans c0⟩, hKt bK (hKt (hKp sb s2 _ B C hIb.from_ hJ) (hKb _ _ _ _ c1 rfl))⟩
      · have h0 : EnvOk ⟨N.n, []⟩ E { a with defers := [] } := ⟨rfl, ha.size, ha.slot⟩
        have := (h0.put p (enc1 x) (by simpa [Nat.blt_eq] using hp)).put q (enc2 x) (by simpa [Nat.blt_eq] using hq)
        simpa [Act.put] using this
    · rintro e W2 ⟨⟨v, rfl⟩, xs, hS, hJ, hl, hk⟩
      have hend := run_endLoop (P := P) hl (by rw [hR]; simp)
      obtain ⟨s, hs, hI⟩ := own.putObj (s := xs) (.loop { R .ready with state := .exhausted }) hJ (by omega) hl rfl
      have hk2 : (W2.putObj (w.heap.size + 1) (.loop { R .ready with state := .exhausted })).heap[w.heap.size]? = some (.deferred (some [])) := (World.putObj_heap_other (by omega)).trans hk
      refine ⟨none, _, by rw [show (none : Option Code) = (R .ready).pending by rw [hR]]; exact hend, ?_⟩
      refine hdone w.heap.size xs s hS hs _ _ ⟨by simp [ha.defers], ha.size, ha.slot⟩ ⟨hI.bel, fun q hq => ?_, List.Pairwise.cons (fun q hq g hg he => ?_) hI.apart, hI.oth, hI.low⟩
      · rcases List.mem_cons.1 hq with rfl | hq
        · exact ⟨hk2, hw.base⟩
        · exact hI.own q hq
      · simp only [Pc.key, Option.some.injEq] at hg
        subst hg
        obtain ⟨o, ho, hc⟩ := Pc.cells (hI.own q hq) (noOth_at (hoth s) q hq) _ he
        rw [hk2] at ho
        cases ho
        cases hc
end
def adB (A : Option Addr) : Nat := match A with
  | some a => a.block
  | none => 0
def adO (A : Option Addr) : Nat := match A with
  | some a => a.off
  | none => 0
section
variable {α : Type} {c : α → List Value} {k : Nat}
theorem Reads.addr {w : World} {B size n : Nat} {A : Option Addr} {xs : List Value} (h : Reads w B size A n xs) (hn : 0 < n) (hs : 0 < size) : A = some ⟨adB A, adO A, none⟩ := by
  obtain ⟨b, o, hA, _, _⟩ := h.ad hn hs
  rw [hA]; rfl
theorem reads_cell (K : Cel c k) {w : World} {B n g o i : Nat} {A : Option Addr} {l : List α} {x : α} (h : Reads w B k A n (flat c l)) (hA : A = some ⟨g, o, none⟩) (hx : l[i]? = some x) (j : Nat) (u : Value) (hu : (c x)[j]? = some u) : w.cell? ⟨g, o + i * k + j, none⟩ = some u := by
  have hk : 0 < k := by
    have := (List.getElem?_eq_some_iff.1 hu).1
    rw [K.len] at this; omega
  have hn : 0 < n := by
    have h1 := h.1
    have h2 := (List.getElem?_eq_some_iff.1 hx).1
    rw [flat_len K] at h1
    rcases Nat.eq_zero_or_pos n with h3 | h3
    · subst h3
      rw [Nat.zero_mul] at h1
      have := Nat.mul_pos (show 0 < l.length by omega) hk
      omega
    · exact h3
  obtain ⟨b, o', hA', _, hc⟩ := h.ad hn hk
  rw [hA] at hA'
  cases hA'
  exact flat_cell K hx hc j u hu
end
set_option maxRecDepth 20000
theorem yield_mono {F : Fence} {m : Nat} {P : Program} {l : Nat} {args : Array Value} {W : World} {R R' : Ending → World → Prop} (h : YieldAt F m P l args W R) (hR : ∀ e w, R e w → R' e w) : YieldAt F m P l args W R' := by
 obtain ⟨fn, tmps, assign, body, h1, h2⟩ := h
 exact ⟨fn, tmps, assign, body, h1, h2.mono hR⟩
def revTo (n k : Nat) : List (Fin n) := (List.finRange n).reverse.take (n - k)
theorem revTo_step {n k : Nat} (h : k < n) : revTo n k = revTo n (k + 1) ++ [⟨k, h⟩] := by
 unfold revTo
 rw [show n - k = (n - (k + 1)) + 1 by omega, List.take_add_one, List.getElem?_reverse (by simp; omega)]
 have : (List.finRange n)[(List.finRange n).length - 1 - (n - (k + 1))]? = some ⟨k, h⟩ := by
  rw [List.getElem?_eq_getElem (by simp; omega)]
  simp
  omega
 rw [this]; rfl
theorem revTo_len (n k : Nat) (h : k ≤ n) : (revTo n k).length = n - k := by simp [revTo]
theorem revTo_zero (n : Nat) : revTo n 0 = (List.finRange n).reverse := by
 unfold revTo
 exact List.take_of_length_le (by simp)
def BkK (b1 : Nat) (A0 : Option Addr) (l : List Rs) (W W' : World) : Prop := (∀ v, W.cell? ⟨b1, 0, none⟩ = some v → W'.cell? ⟨b1, 0, none⟩ = some v) ∧ (Reads W W.heap.size 17 A0 l.length (flat Rs.cells l) → Reads W' W'.heap.size 17 A0 l.length (flat Rs.cells l))
theorem BkK.refl (b1 : Nat) (A0 : Option Addr) (l : List Rs) (W : World) : BkK b1 A0 l W W := ⟨fun _ h => h, fun h => h⟩
theorem BkK.trans {b1 : Nat} {A0 : Option Addr} {l : List Rs} {A B C : World} (h : BkK b1 A0 l A B) (k : BkK b1 A0 l B C) : BkK b1 A0 l A C := ⟨fun v e => k.1 v (h.1 v e), fun e => k.2 (h.2 e)⟩
theorem BkK.put {b1 : Nat} {A0 : Option Addr} {l : List Rs} (W : World) (q : Nat) (o o' : Obj) (h : W.heap[q]? = some o) (hc : o.isCells = false) : BkK b1 A0 l W (W.putObj q o') :=
 ⟨fun v e => cell_kept e (grownBy_putObj' W q o') (fun r he => by cases he; exact ⟨o, h, hc⟩),
   fun hR => ⟨hR.1, fun hn => by
     obtain ⟨ad, h1, h2, h3⟩ := hR.2 hn
     exact ⟨ad, h1, Nat.lt_of_lt_of_le h2 (grownBy_putObj' W q o').size, fun j u hu => cell_kept (h3 j u hu) (grownBy_putObj' W q o') (fun r he => by cases he; exact ⟨o, h, hc⟩)⟩⟩⟩
theorem back_in (n : Nat) (hn : 1 ≤ n) (lr b1 : Nat) (A0 : Option Addr) (c0 : Nat) (l : List Rs) (hl1 : l.length ≤ 1000000) (J : List (Fin l.length) → World → Prop)
  (hY : ∀ pre x W, J pre W → x.1 + pre.length + 1 = l.length → YieldAt Fence.wide (n - 1) Tryz.prog lr #[.int .i64 ((x.1 : Nat) : Int), .agg (l[x]).cells.toArray] W fun e W' => e = .returned (.bool true) ∧ J (pre ++ [x]) W' ∧ BkK b1 A0 l W W')
  (W : World) (h1 : W.cell? ⟨b1, 0, none⟩ = some (.slice A0 l.length c0)) (hr0 : Reads W W.heap.size 17 A0 l.length (flat Rs.cells l)) (h0 : J [] W) :
  CallsIn Fence.wide n Tryz.prog 150 #[.func (.yield lr) #[] #[], .pointer (some ⟨b1, 0, none⟩)] W fun e W' => (∃ v, e = .returned v) ∧ ∃ ys, ys = (List.finRange l.length).reverse ∧ J ys W' := by
 have hA0 : 0 < l.length → A0 = some ⟨adB A0, adO A0, none⟩ := fun h => hr0.addr h (by decide)
 refine callsIn_wide.2 (begin_ (vs := [.func (.yield lr) #[] #[], .pointer (some ⟨b1, 0, none⟩)]) (I := fun w1 => J [] w1 ∧ BkK b1 A0 l W w1) Tryz.func150 rfl rfl rfl ?_ ⟨h0, BkK.refl _ _ _ _⟩)
 refine zSG ?_
 refine TL.val rfl rfl rfl (gives_load (v := .slice A0 l.length c0) rfl rfl mcoag23 (fun w1 hw => hw.2.1 _ h1)) ?_
 refine TL.v (gN Tryz.underlying23) ?_
 refine TL.val rfl rfl rfl (gives_bin rfl rfl rfl (fun w => bin_sub_ (r := ((l.length : Nat) : Int) - 1) (by simp only [IntKind.wrap_i64]; omega) w)) ?_
 refine TL.as_ ?_
 refine zET (zB (TC.loop_ (α := {k : Nat // k ≤ l.length}) (fun y => [(0, .func (.yield lr) #[] #[]), (1, .pointer (some ⟨b1, 0, none⟩)), (3, .int .i64 (((y.1 : Nat) : Int) - 1))]) (fun y w1 => J (revTo l.length y.1) w1 ∧ BkK b1 A0 l W w1) (fun y => y.1) (⟨l.length, Nat.le_refl _⟩) ⟨rfl, rfl, rfl, trivial⟩ (fun w1 hw => ⟨by unfold revTo; rw [Nat.sub_self]; exact hw.1, hw.2⟩) ?_))
 rintro ⟨k, hk⟩
 dsimp only
 refine zS (zSG (TL.mv ?_))
 refine TL.sp bin_geq (fun q8 => ?_) (fun q8 => ?_)
 ·obtain ⟨i, rfl⟩ : ∃ i, k = i + 1 := ⟨k - 1, by omega⟩
  refine zET (zc (zk (zT (zS (zB (zS (TC.cut [(0, .func (.yield lr) #[] #[]), (1, .pointer (some ⟨b1, 0, none⟩)), (3, .int .i64 ((i : Nat) : Int)), (7, .int .i64 ((((i + 1) : Nat) : Int) - 1)), (8, .bool true)] (fun w1 => J (revTo l.length (i + 1)) w1 ∧ BkK b1 A0 l W w1) ⟨rfl, rfl, (by show some (Value.int .i64 (((i + 1 : Nat) : Int) - 1)) = some (Value.int .i64 ((i : Nat) : Int)); congr 2; omega), rfl, rfl, trivial⟩ (fun w1 hw => hw) ?_)))))))
  refine TC.regionY n ?_
  refine TLI.val rfl rfl rfl (gives_move rfl rfl) ?_
  refine TLI.val rfl rfl rfl (gives_move rfl rfl) ?_
  refine TLI.val rfl rfl rfl (gives_load (v := .slice A0 l.length c0) rfl rfl mcoag23 (fun w1 hw => hw.2.1 _ h1)) ?_
  refine TLI.val rfl rfl rfl (gives_move rfl rfl) ?_
  have hi15 : i < l.length := by omega
  obtain ⟨x15, hx15⟩ := ex_at hi15
  have hA15 := hA0 (by omega)
  refine TLI.val rfl rfl rfl (gA (i := i) Tryz.underlying23 prssz65 rfl rfl rfl rfl hA15 (by omega)) ?_
  refine TLI.val rfl rfl rfl (gives_loadR (off := (adO A0) + i * 17) rfl rfl prsag65 prssz65 (rs_cel.len x15) (fun w1 hw j9 u9 h9 => reads_cell rs_cel (hw.2.2 hr0) hA15 hx15 j9 u9 h9)) ?_
  refine TLI.yield (I1 := fun w1 => J (revTo l.length i) w1 ∧ BkK b1 A0 l W w1) (I2 := fun w1 => False) rfl rfl rfl rfl rfl rfl hn (fun w1 hw => ?_) ?_
  ·have hlt : i < l.length := by omega
   rw [show x15 = l[(⟨i, hlt⟩ : Fin l.length)] from (List.getElem?_eq_some_iff.1 hx15).2.symm]
   refine (yield_mono (hY _ ⟨i, hlt⟩ w1 hw.1 (by rw [revTo_len _ _ (by omega)]; show i + _ + 1 = _; omega)) ?_)
   rintro e w2 ⟨h4, h5, h6⟩
   exact .inl ⟨h4, by rw [revTo_step hlt]; exact h5, hw.2.trans h6⟩
  intro yb
  cases yb with
  | true =>
   refine TLI.val rfl rfl rfl (gives_boolnot rfl rfl) ?_
   refine TLI.end_ ?_
   refine zT (zd (zk (zN (zT (zG (TL.mv ?_))))))
   refine TL.val rfl rfl rfl (gives_bin rfl rfl rfl (fun w => bin_sub_ (r := ((i : Nat) : Int) - 1) (by simp only [IntKind.wrap_i64]; omega) w)) ?_
   refine TL.as_ ?_
   refine zE ?_
   exact TX.round (⟨i, by omega⟩) (by show i < i + 1; omega) ⟨rfl, rfl, rfl, trivial⟩ (fun w1 hw => hw.1 rfl)
  | false =>
   refine TLI.val rfl rfl rfl (gives_boolnot rfl rfl) ?_
   refine TLI.end_ ?_
   refine zT (zc (zr (zRR (zR (TX.in_ret ?_)))))
   exact ret_none Tryz.results150 (fun w1 hw => (hw.2 rfl).elim)
 refine zET (zd (zx (zX (zX (zM ?_)))))
 obtain rfl : k = 0 := by omega
 exact end_none Tryz.results150 (fun w1 hw => ⟨⟨_, rfl⟩, _, revTo_zero _, hw.1⟩)
theorem back_next (n : Nat) (hn : 1 ≤ n) (b1 : Nat) (A0 : Option Addr) (c0 : Nat) (l : List Rs) (hl1 : l.length ≤ 1000000) (w : World) (hb1 : b1 < w.heap.size) (h1 : w.cell? ⟨b1, 0, none⟩ = some (.slice A0 l.length c0)) (hr0 : Reads w w.heap.size 17 A0 l.length (flat Rs.cells l)) :
  SeqNext n Tryz.prog 150 #[.pointer (some ⟨b1, 0, none⟩)] (fun x : Fin l.length => #[.int .i64 ((x.1 : Nat) : Int), .agg (l[x]).cells.toArray]) (fun pre x => x.1 + pre.length + 1 = l.length) (BkK b1 A0 l) (fun ys => ys = (List.finRange l.length).reverse) w :=
 fun lr J W hW hY h0 => back_in n hn lr b1 A0 c0 l hl1 J hY W ((hW.cell (p := ⟨b1, 0, none⟩) hb1).trans h1) (hr0.up hW) h0
theorem backward_any (A0 : Option Addr) (c0 n0 : Nat) (w : World) :
  Calls Tryz.prog 102 #[.slice A0 n0 c0] w fun e w' => ∃ g1 : Nat, e = .returned (.func (.func 150) #[] #[.pointer (some ⟨g1, 0, none⟩)]) ∧ Pm w [.blk g1 23 [.slice A0 n0 c0]] w' := by
 refine begin_ (vs := [.slice A0 n0 c0]) Tryz.func102 rfl rfl rfl ?_ (Pm.start w)
 refine zSG ?_
 refine TL.pnew rfl rfl rfl (exec_box (cs := [.slice A0 n0 c0]) rfl rfl rfl) (fun g1 => ?_)
 refine TL.as_ ?_
 refine zET (zSG ?_)
 refine TL.val rfl rfl rfl (gives_makeFunc rfl rfl rfl) ?_
 refine TL.as_ ?_
 refine zET (zr ?_)
 exact ret_tmp Tryz.results102 rfl (fun w1 hw => ⟨g1, rfl, hw⟩)
set_option maxRecDepth 20000
def maskF (n : Int) : Int := IntKind.u32.wrap (4294967295 * 2 ^ (32 - n).toNat)
def vldP (a n : Int) : Bool := decide (0 ≤ n) && decide (n ≤ 32) && decide (bits .andNot .u32 a (maskF n) = 0)
def hasP (a n x : Int) : Bool := vldP a n && decide (bits .and .u32 x (maskF n) = a)
def cmpP (a n b m : Int) : Int := if cmpI a b = 0 then cmpI n m else cmpI a b
theorem or2 {a n b m : Int} : orI [cmpI a b, cmpI n m] = cmpP a n b m := by
 unfold cmpP
 show (if cmpI a b = 0 then (if cmpI n m = 0 then 0 else cmpI n m) else cmpI a b) = _
 split
 ·split
  ·rename_i h; exact h.symm
  rfl
 rfl
theorem vldP_le {a n : Int} (h : vldP a n = true) : 0 ≤ n ∧ n ≤ 32 := by
 simp [vldP] at h
 exact ⟨h.1.1, h.1.2⟩
theorem badfld100_1 : FA Tryz.prog 100 1 1 := fun g o w => by kernel_rfl
theorem badfld100_0 : FA Tryz.prog 100 0 0 := fun g o w => by kernel_rfl
theorem badbs106_2_20249 (a0_0 : Int) (a1_0 : Int) (w : World) : (Instr.buildSlice 106 2 #[(0, .int .i64 a0_0), (1, .int .i64 a1_0)]).run Tryz.prog w = .ok (.slice (some ⟨w.heap.size, 0, none⟩) 2 2) (w.alloc (.cells [.int .i64 a0_0, .int .i64 a1_0].toArray 3)) := by kernel_rfl
theorem badag100 (w : World) : (isAgg 100).run Tryz.prog w = .ok true w := rfl
theorem badsz100 (w : World) : (sizeOf 100).run Tryz.prog w = .ok 2 w := rfl
theorem mask_any (n : Int) (h0 : 0 ≤ n) (h1 : n ≤ 32) (w : World) :
  Calls Tryz.prog 191 #[.int .i64 n] w fun e w' => e = .returned (.int .u32 (maskF n)) ∧ w' = w := by
 refine begin_ (vs := [.int .i64 n]) (I := fun w1 => w1 = w) Tryz.func191 rfl rfl rfl ?_ rfl
 refine zSG (TL.as_ ?_)
 refine zET (zSG (TL.mv ?_))
 refine TL.val rfl rfl rfl (gives_bin rfl rfl rfl (fun w => bin_sub_ (r := 32 - n) (by simp only [IntKind.wrap_i64]; omega) w)) ?_
 refine TL.val rfl rfl rfl (gives_bin (v := .int .u32 (maskF n)) rfl rfl rfl (fun w => bin_shl (2 ^ (32 - n).toNat) (by omega) (by simp only [IntKind.bits]; omega) rfl w)) ?_
 refine TL.as_ ?_
 refine zET (zr ?_)
 exact ret_tmp Tryz.results191 rfl (fun w1 hw => ⟨rfl, hw⟩)
theorem vldP_any (a n : Int) (w : World) :
  Calls Tryz.prog 163 #[.agg #[.int .u32 a, .int .i64 n]] w fun e w' => e = .returned (.bool (vldP a n)) ∧ Below w.heap.size w w' := by
 refine begin_ (vs := [.agg #[.int .u32 a, .int .i64 n]]) Tryz.func163 rfl rfl rfl ?_ (Pm.start w)
 refine zSG ?_
 refine TL.pnew rfl rfl rfl (exec_box (cs := [.int .u32 a, .int .i64 n]) rfl rfl rfl) (fun g1 => ?_)
 refine TL.as_ ?_
 refine zET (zS (TC.quietQ (by kernel_rfl) (by kernel_rfl) (fun w hw => hw.drawn _) ?_))
 refine TQ.v (gF badfld100_1) ?_
 refine TQ.v (gL 0 pcmag3) ?_
 refine TQ.sp bin_geq (fun q5 => ?_) (fun q5 => ?_)
 ·refine TQ.val rfl rfl rfl (gives_move rfl rfl) ?_
  refine TQ.ov (gF badfld100_1) ?_
  refine TQ.ov (gL 0 pcmag3) ?_
  refine TQ.on rfl rfl rfl ?_
  refine TQ.sp bin_leq (fun q9 => ?_) (fun q9 => ?_)
  ·refine TQ.rn 2 rfl (TQ.ov (gF badfld100_0) ?_)
   refine TQ.ov (gL 0 pcmag30) ?_
   refine TQ.ov (gF badfld100_1) ?_
   refine TQ.ov (gL 0 pcmag3) ?_
   refine TQ.on rfl rfl rfl ?_
   refine TQ.call (v := .int .u32 (maskF n)) rfl rfl rfl rfl rfl Tryz.func191 (by decide) rfl (fun w1 hw => (still_bel (mask_any n (by omega) (by omega) w1)).mono fun en w2 ⟨h1, h2⟩ => ⟨h1, hw.below h2⟩) ?_
   refine TQ.on rfl rfl rfl ?_
   refine TQ.val rfl rfl rfl (gives_bin rfl rfl rfl (fun w => bin_andNot w)) ?_
   refine TQ.on rfl rfl rfl ?_
   refine TQ.sp bin_eql (fun q18 => ?_) (fun q18 => ?_)
   ·refine TQ.rn 2 rfl ?_
    refine TQ.fin ?_
    refine zT (zr ?_)
    have hE : (vldP a n) = true := (by simp [vldP, q5, q9, q18]; try omega)
    exact ret_tmp Tryz.results163 rfl (fun w1 hw => ⟨by rw [hE]; try rfl, hw.bel⟩)
   refine TQ.rn 2 rfl ?_
   refine TQ.fin ?_
   refine zT (zr ?_)
   have hE : (vldP a n) = false := (by simp [vldP, q5, q9, q18]; try omega)
   exact ret_tmp Tryz.results163 rfl (fun w1 hw => ⟨by rw [hE]; try rfl, hw.bel⟩)
  refine TQ.rn 11 rfl ?_
  refine TQ.fin ?_
  refine zT (zr ?_)
  have hE : (vldP a n) = false := (by simp [vldP, q5, q9]; try omega)
  exact ret_tmp Tryz.results163 rfl (fun w1 hw => ⟨by rw [hE]; try rfl, hw.bel⟩)
 refine TQ.rn 15 rfl ?_
 refine TQ.fin ?_
 refine zT (zr ?_)
 have hE : (vldP a n) = false := (by simp [vldP, q5]; try omega)
 exact ret_tmp Tryz.results163 rfl (fun w1 hw => ⟨by rw [hE]; try rfl, hw.bel⟩)
theorem cmpP_any (a n b m : Int) (w : World) :
  Calls Tryz.prog 130 #[.agg #[.int .u32 a, .int .i64 n], .agg #[.int .u32 b, .int .i64 m]] w fun e w' => e = .returned (.int .i64 (cmpP a n b m)) ∧ Below w.heap.size w w' := by
 refine begin_ (vs := [.agg #[.int .u32 a, .int .i64 n], .agg #[.int .u32 b, .int .i64 m]]) Tryz.func130 rfl rfl rfl ?_ (Pm.start w)
 refine zSG ?_
 refine TL.pnew rfl rfl rfl (exec_box (cs := [.int .u32 a, .int .i64 n]) rfl rfl rfl) (fun g2 => ?_)
 refine TL.pnew rfl rfl rfl (exec_box (cs := [.int .u32 b, .int .i64 m]) rfl rfl rfl) (fun g3 => ?_)
 refine TL.as_ ?_
 refine zET (zS (TC.tail 10 (by kernel_rfl) (by kernel_rfl) (fun w hw => hw.drawn _) ?_))
 refine TS.v (gF badfld100_0) ?_
 refine TS.v (gL 1 pcmag30) ?_
 refine TS.v (gF badfld100_0) ?_
 refine TS.v (gL 0 pcmag30) ?_
 refine TS.call (r := .int .i64 (cmpI a b)) rfl rfl rfl rfl rfl Tryz.func80 (by decide) rfl (fun w1 hw => cmpA_any a b w1) ?_
 refine TS.v (gF badfld100_1) ?_
 refine TS.v (gL 1 pcmag3) ?_
 refine TS.v (gF badfld100_1) ?_
 refine TS.v (gL 0 pcmag3) ?_
 refine TS.call (r := .int .i64 (cmpI n m)) rfl rfl rfl rfl rfl Tryz.func79 (by decide) rfl (fun w1 hw => cmpI_any n m w1) ?_
 refine TS.end_ ?_
 refine TL.prowS (e := 3) (size := 1) (cs := flat (ic .i64) [cmpI a b, cmpI n m]) rfl rfl rfl rfl rfl (fun w => badbs106_2_20249 _ _ w) (by decide) rfl (fun g15 => ?_)
 refine TL.pcall1 (r := .int .i64 (cmpP a n b m)) rfl rfl rfl rfl rfl Tryz.func78 (by decide) rfl (fun w1 hw => (by have h9 := orI_any (some ⟨g15, 0, none⟩) 2 2 ([cmpI a b, cmpI n m]) w1 (pm_rd hw (k := 0) rfl) rfl (by show 2 ≤ 100000; decide); rw [or2] at h9; exact h9)) ?_
 refine TL.as_ ?_
 refine zET (zr ?_)
 have hE : (cmpP a n b m) = cmpP a n b m := (by simp [cmpP])
 exact ret_tmp Tryz.results130 rfl (fun w1 hw => ⟨by rw [hE]; try rfl, hw.bel⟩)
theorem hasP_any (a n x : Int) (w : World) :
  Calls Tryz.prog 216 #[.agg #[.int .u32 a, .int .i64 n], .int .u32 x] w fun e w' => e = .returned (.bool (hasP a n x)) ∧ Below w.heap.size w w' := by
 refine begin_ (vs := [.agg #[.int .u32 a, .int .i64 n], .int .u32 x]) Tryz.func216 rfl rfl rfl ?_ (Pm.start w)
 refine zSG ?_
 refine TL.pnew rfl rfl rfl (exec_box (cs := [.int .u32 a, .int .i64 n]) rfl rfl rfl) (fun g2 => ?_)
 refine TL.as_ ?_
 refine zET (zS (TC.quietQ (by kernel_rfl) (by kernel_rfl) (fun w hw => hw.drawn _) ?_))
 refine TQ.v (gV 0 (.agg #[.int .u32 a, .int .i64 n]) badag100 badsz100) ?_
 refine TQ.callsplit rfl rfl rfl rfl rfl Tryz.func163 (by decide) rfl (fun w1 hw => vldP_any a n w1) (fun h6 => ?_) (fun h6 => ?_)
 ·have hn0 := vldP_le h6
  refine TQ.rn 2 rfl (TQ.ov (gF badfld100_1) ?_)
  refine TQ.ov (gL 0 pcmag3) ?_
  refine TQ.on rfl rfl rfl ?_
  refine TQ.call (v := .int .u32 (maskF n)) rfl rfl rfl rfl rfl Tryz.func191 (by decide) rfl (fun w1 hw => (still_bel (mask_any n (by omega) (by omega) w1)).mono fun en w2 ⟨h1, h2⟩ => ⟨h1, hw.below h2⟩) ?_
  refine TQ.on rfl rfl rfl ?_
  refine TQ.val rfl rfl rfl (gives_bin rfl rfl rfl (fun w => bin_bits (by simp) w)) ?_
  refine TQ.ov (gF badfld100_0) ?_
  refine TQ.ov (gL 0 pcmag30) ?_
  refine TQ.on rfl rfl rfl ?_
  refine TQ.sp bin_eql (fun q15 => ?_) (fun q15 => ?_)
  ·refine TQ.rn 2 rfl ?_
   refine TQ.fin ?_
   refine zT (zr ?_)
   have hE : (hasP a n x) = true := (by simp [hasP, h6, q15]; try omega)
   exact ret_tmp Tryz.results216 rfl (fun w1 hw => ⟨by rw [hE]; try rfl, hw.bel⟩)
  refine TQ.rn 2 rfl ?_
  refine TQ.fin ?_
  refine zT (zr ?_)
  have hE : (hasP a n x) = false := (by simp [hasP, h6, q15]; try omega)
  exact ret_tmp Tryz.results216 rfl (fun w1 hw => ⟨by rw [hE]; try rfl, hw.bel⟩)
 refine TQ.rn 11 rfl ?_
 refine TQ.fin ?_
 refine zT (zr ?_)
 have hE : (hasP a n x) = false := (by simp [hasP, h6]; try omega)
 exact ret_tmp Tryz.results216 rfl (fun w1 hw => ⟨by rw [hE]; try rfl, hw.bel⟩)
set_option maxRecDepth 20000
structure En where
 addr : Int
 len : Int
 prov : Int
 frm : Int
 to_ : Int
deriving DecidableEq
def En.cells (r : En) : List Value := [.int .u32 r.addr, .int .i64 r.len, .int .i64 r.prov, .int .i64 r.frm, .int .i64 r.to_]
theorem en_cel : Cel En.cells 5 := ⟨fun _ => rfl, fun r u hu => by
 simp only [En.cells, List.mem_cons, List.not_mem_nil, or_false] at hu
 rcases hu with rfl | rfl | rfl | rfl | rfl <;> rfl⟩
def En.zero : En := ⟨0, 0, 0, 0, 0⟩
def validE (e : En) : Bool := vldP e.addr e.len && decide (1 ≤ e.prov) && decide (e.prov ≤ 2147483647) && decide (0 ≤ e.frm) && decide (e.frm < e.to_) && decide (e.to_ ≤ 1125899906842624)
def badP (b x : En) : Bool := decide (cmpP b.addr b.len x.addr x.len > 0) || (decide (cmpP b.addr b.len x.addr x.len = 0) && decide (x.frm < b.to_))
def okAt (es : List En) (i : Nat) : Bool := match es[i]? with
 | none => true
 | some x => validE x && (decide (i = 0) || match es[i - 1]? with
  | none => true
  | some b => !badP b x)
def validR (es : List En) : Bool := decide (es.length ≤ 1024) && (List.range es.length).all (okAt es)
theorem okAt_bad {es : List En} {i : Nat} {x : En} (hx : es[i]? = some x) (h : validE x = false) : okAt es i = false := by simp [okAt, hx, h]
theorem okAt_zero {es : List En} {x : En} {i : Nat} (hi : i = 0) (hx : es[i]? = some x) (h : validE x = true) : okAt es i = true := by subst hi; simp [okAt, hx, h]
theorem okAt_pair {es : List En} {x b : En} {i : Nat} {t : Bool} (hi : ¬ i = 0) (hx : es[i]? = some x) (hb : es[i - 1]? = some b) (h : validE x = true) (ht : badP b x = !t) : okAt es i = t := by simp [okAt, hx, hb, h, hi, ht]
theorem validR_true {es : List En} (hl : es.length ≤ 1024) (h : ∀ j, j < es.length → okAt es j = true) : validR es = true := by
 simp only [validR, Bool.and_eq_true, decide_eq_true_eq, List.all_eq_true, List.mem_range]
 exact ⟨hl, h⟩
theorem validR_false {es : List En} {i : Nat} (hi : i < es.length) (h : okAt es i = false) : validR es = false := by
 cases hv : validR es with
 | false => rfl
 | true =>
  simp only [validR, Bool.and_eq_true, decide_eq_true_eq, List.all_eq_true, List.mem_range] at hv
  rw [hv.2 i hi] at h; cases h
theorem validR_len {es : List En} (h : validR es = true) : es.length ≤ 1024 := by
 simp only [validR, Bool.and_eq_true, decide_eq_true_eq] at h
 exact h.1
def fitsE (a t : Int) (p : En × Bool) (e : En) : Bool := decide (e.frm ≤ t) && decide (t < e.to_) && (!p.2 || decide (e.len > p.1.len)) && hasP e.addr e.len a
def stepL (a t : Int) (p : En × Bool) (e : En) : En × Bool := if fitsE a t p e then (e, true) else p
def lookR (es : List En) (a t : Int) : En × Bool := es.foldl (stepL a t) (En.zero, false)
theorem lookR_snoc {es : List En} {a t : Int} {i : Nat} {x : En} {p : En × Bool} (hx : es[i]? = some x) (hp : lookR (es.take i) a t = p) : lookR (es.take (i + 1)) a t = if fitsE a t p x then (x, true) else p := by
 unfold lookR at hp ⊢
 rw [List.take_add_one, hx, List.foldl_append, hp]
 rfl
def lookV (es : List En) (a t : Int) : En × Bool := if validR es then lookR es a t else (En.zero, false)
def provR (es : List En) (a t : Int) : Int := (lookV es a t).1.prov
theorem brefld102_0 : FA Tryz.prog 102 0 0 := fun g o w => by kernel_rfl
theorem brefld102_1 : FA Tryz.prog 102 1 2 := fun g o w => by kernel_rfl
theorem brefld102_2 : FA Tryz.prog 102 2 3 := fun g o w => by kernel_rfl
theorem brefld102_3 : FA Tryz.prog 102 3 4 := fun g o w => by kernel_rfl
theorem brefld26_0 : FA Tryz.prog 26 0 0 := fun g o w => by kernel_rfl
theorem breag24 (w : World) : (isAgg 24).run Tryz.prog w = .ok false w := rfl
theorem bresz102 (w : World) : (sizeOf 102).run Tryz.prog w = .ok 5 w := rfl
theorem breag102 (w : World) : (isAgg 102).run Tryz.prog w = .ok true w := rfl
theorem brezv102 (w : World) : (zeroValue 102).run Tryz.prog w = .ok (.agg #[.int .u32 0, .int .i64 0, .int .i64 0, .int .i64 0, .int .i64 0]) w := rfl
theorem breag26 (w : World) : (isAgg 26).run Tryz.prog w = .ok true w := rfl
theorem bresz26 (w : World) : (sizeOf 26).run Tryz.prog w = .ok 1 w := rfl
theorem brebld102_791  (w : World) : (Instr.build 102 #[]).run Tryz.prog w = .ok (.agg #[.int .u32 0, .int .i64 0, .int .i64 0, .int .i64 0, .int .i64 0]) w := by kernel_rfl
theorem breone_u32i64i64i64i64 {a0 : Int} {a1 : Int} {a2 : Int} {a3 : Int} {a4 : Int} : ∀ u ∈ [(.int .u32 a0 : Value), .int .i64 a1, .int .i64 a2, .int .i64 a3, .int .i64 a4], u.oneCell' = true := by
 intro u hu
 simp only [List.mem_cons, List.not_mem_nil, or_false] at hu
 rcases hu with rfl | rfl | rfl | rfl | rfl <;> rfl
theorem validE_any (x : En) (w : World) :
  Calls Tryz.prog 129 #[.agg x.cells.toArray] w fun e w' => e = .returned (.bool (validE x)) ∧ Below w.heap.size w w' := by
 refine begin_ (vs := [.agg x.cells.toArray]) Tryz.func129 rfl rfl rfl ?_ (Pm.start w)
 refine zSG ?_
 refine TL.pnew rfl rfl rfl (exec_box (cs := x.cells) rfl rfl rfl) (fun g1 => ?_)
 refine TL.as_ ?_
 refine zET (zSG (TL.v (gF brefld102_0) ?_))
 refine TL.v (gV 0 (.agg #[.int .u32 x.addr, .int .i64 x.len]) badag100 badsz100) ?_
 refine TL.callsplit rfl rfl rfl rfl rfl Tryz.func163 (by decide) rfl (fun w1 hw => vldP_any x.addr x.len w1) (fun h5 => ?_) (fun h5 => ?_)
 ·refine TL.mv ?_
  refine TL.ov (gF brefld102_1) ?_
  refine TL.ov (gL 0 pcmag3) ?_
  refine TL.gu ?_
  refine TL.sp bin_geq (fun q9 => ?_) (fun q9 => ?_)
  ·refine TL.rn 2 rfl (TL.ov (gF brefld102_1) ?_)
   refine TL.ov (gL 0 pcmag3) ?_
   refine TL.gu ?_
   refine TL.sp bin_leq (fun q14 => ?_) (fun q14 => ?_)
   ·refine TL.rn 2 rfl (TL.ov (gF brefld102_2) ?_)
    refine TL.ov (gL 0 pcmag3) ?_
    refine TL.gu ?_
    refine TL.sp bin_geq (fun q19 => ?_) (fun q19 => ?_)
    ·refine TL.rn 2 rfl (TL.ov (gF brefld102_2) ?_)
     refine TL.ov (gL 0 pcmag3) ?_
     refine TL.ov (gF brefld102_3) ?_
     refine TL.ov (gL 0 pcmag3) ?_
     refine TL.gu ?_
     refine TL.sp bin_lss (fun q26 => ?_) (fun q26 => ?_)
     ·refine TL.rn 2 rfl (TL.ov (gF brefld102_3) ?_)
      refine TL.ov (gL 0 pcmag3) ?_
      refine TL.gu ?_
      refine TL.sp bin_leq (fun q31 => ?_) (fun q31 => ?_)
      ·refine TL.rn 2 rfl (zET (zr ?_))
       have hE : (validE x) = true := (by simp [validE, h5, q9, q14, q19, q26, q31]; try omega)
       exact ret_tmp Tryz.results129 rfl (fun w1 hw => ⟨by rw [hE]; try rfl, hw.bel⟩)
      refine TL.rn 2 rfl (zET (zr ?_))
      have hE : (validE x) = false := (by simp [validE, h5, q9, q14, q19, q26, q31]; try omega)
      exact ret_tmp Tryz.results129 rfl (fun w1 hw => ⟨by rw [hE]; try rfl, hw.bel⟩)
     refine TL.rn 7 rfl (zET (zr ?_))
     have hE : (validE x) = false := (by simp [validE, h5, q9, q14, q19, q26]; try omega)
     exact ret_tmp Tryz.results129 rfl (fun w1 hw => ⟨by rw [hE]; try rfl, hw.bel⟩)
    refine TL.rn 14 rfl (zET (zr ?_))
    have hE : (validE x) = false := (by simp [validE, h5, q9, q14, q19]; try omega)
    exact ret_tmp Tryz.results129 rfl (fun w1 hw => ⟨by rw [hE]; try rfl, hw.bel⟩)
   refine TL.rn 19 rfl (zET (zr ?_))
   have hE : (validE x) = false := (by simp [validE, h5, q9, q14]; try omega)
   exact ret_tmp Tryz.results129 rfl (fun w1 hw => ⟨by rw [hE]; try rfl, hw.bel⟩)
  refine TL.rn 24 rfl (zET (zr ?_))
  have hE : (validE x) = false := (by simp [validE, h5, q9]; try omega)
  exact ret_tmp Tryz.results129 rfl (fun w1 hw => ⟨by rw [hE]; try rfl, hw.bel⟩)
 refine TL.rn 28 rfl (zET (zr ?_))
 have hE : (validE x) = false := (by simp [validE, h5]; try omega)
 exact ret_tmp Tryz.results129 rfl (fun w1 hw => ⟨by rw [hE]; try rfl, hw.bel⟩)
theorem okN {es : List En} {i : Nat} (h : ∀ j, j < i → okAt es j = true) (hi : okAt es i = true) : ∀ j, j < i + 1 → okAt es j = true := fun j hj => by
 rcases Nat.lt_or_ge j i with h1 | h1
 ·exact h j h1
 obtain rfl : j = i := by omega
 exact hi
theorem validR_any (A0 : Option Addr) (c0 : Nat) (es : List En) (w : World) (hr : Reads w w.heap.size 5 A0 es.length (flat En.cells es)) :
  Calls Tryz.prog 84 #[.agg #[.slice A0 es.length c0]] w fun e w' => e = .returned (.bool (validR es)) ∧ Below w.heap.size w w' := by
 refine begin_ (vs := [.agg #[.slice A0 es.length c0]]) Tryz.func84 rfl rfl rfl ?_ (Pm.start w)
 refine zSG ?_
 refine TL.pnew rfl rfl rfl (exec_box (cs := [.slice A0 es.length c0]) rfl rfl rfl) (fun g1 => ?_)
 refine TL.as_ ?_
 refine zET (zS (zSG (TL.v (gF brefld26_0) ?_)))
 refine TL.v (gL 0 breag24) ?_
 refine TL.v (gN Tryz.underlying24) ?_
 refine TL.sp bin_gtr (fun q10 => ?_) (fun q10 => ?_)
 ·refine zET (zc (zSG (TL.as_ ?_)))
  refine zET (zr (zR ?_))
  have hE : validR es = false := by simp only [validR, decide_eq_false (show ¬ es.length ≤ 1024 by omega), Bool.false_and]
  exact ret_tmp Tryz.results84 rfl (fun w1 hw => ⟨by rw [hE], hw.bel⟩)
 refine zET (zd (zk (zT (zS (zSG (TL.v (gF brefld26_0) ?_))))))
 refine TL.v (gL 0 breag24) ?_
 refine TL.v (gN Tryz.underlying24) ?_
 refine TL.mv ?_
 refine zET (zB (TC.loop_ (α := {i : Nat // i ≤ es.length ∧ ∀ j, j < i → okAt es j = true}) (fun y => [(1, .pointer (some ⟨g1, 0, none⟩)), (12, .slice A0 es.length c0), (13, .int .i64 (es.length : Nat)), (14, .int .i64 ((y.1 : Nat) : Int))]) (fun y => Pm w [.blk g1 26 [.slice A0 es.length c0]]) (fun y => es.length - y.1) (⟨0, Nat.zero_le _, fun j hj => absurd hj (Nat.not_lt_zero _)⟩) ⟨rfl, rfl, rfl, rfl, trivial⟩ (fun w1 hw => hw) ?_))
 rintro ⟨i, hi, hok⟩
 try dsimp only at hi hok ⊢
 refine zSG ?_
 refine TL.sp bin_lss (fun q15 => ?_) (fun q15 => ?_)
 ·refine zET (zS (zc (zk (zT (zS (zB (zSG (TL.mv ?_))))))))
  have hi17 : i < es.length := by omega
  obtain ⟨x17, hx17⟩ := ex_at hi17
  obtain ⟨b17, o17, hA17, hbb17, hc17⟩ := hr.ad (by omega) (by decide)
  refine TL.val rfl rfl rfl (gA (i := i) Tryz.underlying24 bresz102 rfl rfl rfl rfl hA17 (by omega)) ?_
  refine TL.v (gR en_cel breag102 bresz102 hbb17 hx17 hc17) ?_
  refine TL.pnew rfl rfl rfl (exec_alloc (cs := [.int .u32 0, .int .i64 0, .int .i64 0, .int .i64 0, .int .i64 0]) rfl brezv102 rfl) (fun g4 => ?_)
  refine TL.as_ ?_
  refine TL.pstore (k := 0) (vs := x17.cells) rfl rfl rfl rfl rfl rfl rfl bresz102 (en_cel.one _) (by show 5 ≤ 5; decide) (L' := [.blk g4 102 x17.cells, .blk g1 26 [.slice A0 es.length c0]]) rfl ?_
  refine zET (zS (zSG (TL.v (gV 0 (.agg (x17.cells).toArray) breag102 bresz102) ?_)))
  refine TL.callsplit rfl rfl rfl rfl rfl Tryz.func129 (by decide) rfl (fun w1 hw => validE_any x17 w1) (fun h20 => ?_) (fun h20 => ?_)
  ·refine TL.val rfl rfl rfl (gives_boolnot rfl rfl) ?_
   refine zET (zd (zk (zT (zS (zSG (TL.mv ?_))))))
   refine TL.sp bin_eql (fun q23 => ?_) (fun q23 => ?_)
   ·refine zET (zc (zx (zX (zM (zT (zG (TL.v (gD ((i + 1 : Nat) : Int)) ?_)))))))
    refine TL.mv ?_
    refine zE ?_
    exact TX.round (⟨i + 1, by omega, okN hok (okAt_zero (by omega) hx17 h20)⟩) (by show es.length - (i + 1) < es.length - i; omega) ⟨rfl, rfl, rfl, rfl, trivial⟩ (fun w1 hw => hw.pick [1] (by decide) rfl)
   refine zET (zd (zk (zT (zSG (TL.v (gF brefld26_0) ?_)))))
   refine TL.v (gL 1 breag24) ?_
   refine TL.mv ?_
   refine TL.val rfl rfl rfl (gives_bin rfl rfl rfl (fun w => bin_sub_ (r := ((i - 1 : Nat) : Int)) (by simp only [IntKind.wrap_i64]; omega) w)) ?_
   have hi28 : i - 1 < es.length := by omega
   obtain ⟨x28, hx28⟩ := ex_at hi28
   obtain ⟨b28, o28, hA28, hbb28, hc28⟩ := hr.ad (by omega) (by decide)
   refine TL.val rfl rfl rfl (gA (i := (i - 1)) Tryz.underlying24 bresz102 rfl rfl rfl rfl hA28 (by omega)) ?_
   refine TL.val rfl rfl rfl (gives_loadR (off := o28 + (i - 1) * 5) rfl rfl breag102 bresz102 (en_cel.len x28) (fun w1 hw j9 u9 h9 => (hw.bel.cell hbb28).trans <| flat_cell en_cel hx28 hc28 j9 u9 h9)) ?_
   refine TL.pnew rfl rfl rfl (exec_alloc (cs := [.int .u32 0, .int .i64 0, .int .i64 0, .int .i64 0, .int .i64 0]) rfl brezv102 rfl) (fun g5 => ?_)
   refine TL.pstore (k := 0) (vs := x28.cells) rfl rfl rfl rfl rfl rfl rfl bresz102 (en_cel.one _) (by show 5 ≤ 5; decide) (L' := [.blk g5 102 x28.cells, .blk g4 102 x17.cells, .blk g1 26 [.slice A0 es.length c0]]) rfl ?_
   refine zET (zSG (TL.v (gF brefld102_0) ?_))
   refine TL.v (gV 0 (.agg #[.int .u32 x28.addr, .int .i64 x28.len]) badag100 badsz100) ?_
   refine TL.v (gF brefld102_0) ?_
   refine TL.v (gV 1 (.agg #[.int .u32 x17.addr, .int .i64 x17.len]) badag100 badsz100) ?_
   refine TL.pcall1 (r := .int .i64 (cmpP x28.addr x28.len x17.addr x17.len)) rfl rfl rfl rfl rfl Tryz.func130 (by decide) rfl (fun w1 hw => cmpP_any x28.addr x28.len x17.addr x17.len w1) ?_
   refine TL.as_ ?_
   refine zET (zSG (TL.mv ?_))
   refine TL.sp bin_gtr (fun q36 => ?_) (fun q36 => ?_)
   ·refine TL.rn 4 rfl ?_
    refine TL.offU rfl rfl rfl rfl rfl ?_
    refine TL.offU rfl rfl rfl rfl rfl ?_
    refine TL.offU rfl rfl rfl rfl rfl ?_
    refine TL.offU rfl rfl rfl rfl rfl ?_
    refine TL.offU rfl rfl rfl rfl rfl ?_
    refine TL.rn 2 rfl (zET (zc (zSG (TL.as_ ?_))))
    refine zET (zr (zRR (zR (zRR ?_))))
    have hE : validR es = false := validR_false hi17 (okAt_pair (t := false) (by omega) hx17 hx28 h20 (by simp [badP, q15, h20, q23, q36]))
    exact ret_tmp Tryz.results84 rfl (fun w1 hw => ⟨by rw [hE], hw.bel⟩)
   refine TL.rn 2 rfl (TL.gu ?_)
   refine TL.sp bin_eql (fun q39 => ?_) (fun q39 => ?_)
   ·refine TL.rn 1 rfl (TL.ov (gF brefld102_2) ?_)
    refine TL.ov (gL 1 pcmag3) ?_
    refine TL.ov (gF brefld102_3) ?_
    refine TL.ov (gL 0 pcmag3) ?_
    refine TL.gu ?_
    refine TL.sp bin_lss (fun q45 => ?_) (fun q45 => ?_)
    ·refine TL.rn 2 rfl (zET (zc (zSG (TL.as_ ?_))))
     refine zET (zr (zRR (zR (zRR ?_))))
     have hE : validR es = false := validR_false hi17 (okAt_pair (t := false) (by omega) hx17 hx28 h20 (by simp [badP, q15, h20, q23, q36, q39, q45]))
     exact ret_tmp Tryz.results84 rfl (fun w1 hw => ⟨by rw [hE], hw.bel⟩)
    refine TL.rn 2 rfl (zET (zd (zk (zN (zT (zG (TL.v (gD ((i + 1 : Nat) : Int)) ?_)))))))
    refine TL.mv ?_
    refine zE ?_
    exact TX.round (⟨i + 1, by omega, okN hok (okAt_pair (t := true) (by omega) hx17 hx28 h20 (by simp [badP, q15, h20, q23, q36, q39, q45]))⟩) (by show es.length - (i + 1) < es.length - i; omega) ⟨rfl, rfl, rfl, rfl, trivial⟩ (fun w1 hw => hw.pick [2] (by decide) rfl)
   refine TL.rn 8 rfl (zET (zd (zk (zN (zT (zG (TL.v (gD ((i + 1 : Nat) : Int)) ?_)))))))
   refine TL.mv ?_
   refine zE ?_
   exact TX.round (⟨i + 1, by omega, okN hok (okAt_pair (t := true) (by omega) hx17 hx28 h20 (by simp [badP, q15, h20, q23, q36, q39]))⟩) (by show es.length - (i + 1) < es.length - i; omega) ⟨rfl, rfl, rfl, rfl, trivial⟩ (fun w1 hw => hw.pick [2] (by decide) rfl)
  refine TL.val rfl rfl rfl (gives_boolnot rfl rfl) ?_
  refine zET (zc (zSG (TL.as_ ?_)))
  refine zET (zr (zR (zRR (zR (zRR ?_)))))
  have hE : validR es = false := validR_false hi17 (okAt_bad hx17 h20)
  exact ret_tmp Tryz.results84 rfl (fun w1 hw => ⟨by rw [hE], hw.bel⟩)
 refine zET (zS (zd (zx (zX (zX (zM (zT (zSG (TL.as_ ?_)))))))))
 refine zET (zr ?_)
 have hE : validR es = true := validR_true (by omega) (fun j hj => hok j (by omega))
 exact ret_tmp Tryz.results84 rfl (fun w1 hw => ⟨by rw [hE], hw.bel⟩)
theorem lookR_any (A0 : Option Addr) (c0 : Nat) (es : List En) (a t : Int) (w : World) (hr : Reads w w.heap.size 5 A0 es.length (flat En.cells es)) (hl1 : es.length ≤ 100000) :
  Calls Tryz.prog 189 #[.agg #[.slice A0 es.length c0], .int .u32 a, .int .i64 t] w fun e w' => e = .returned (.tuple #[.agg (lookR es a t).1.cells.toArray, .bool (lookR es a t).2]) ∧ Below w.heap.size w w' := by
 refine begin_ (vs := [.agg #[.slice A0 es.length c0], .int .u32 a, .int .i64 t]) Tryz.func189 rfl rfl rfl ?_ (Pm.start w)
 refine zSG ?_
 refine TL.pnew rfl rfl rfl (exec_box (cs := [.slice A0 es.length c0]) rfl rfl rfl) (fun g3 => ?_)
 refine TL.pnew rfl rfl rfl (exec_alloc (cs := En.zero.cells) rfl brezv102 rfl) (fun g6 => ?_)
 refine TL.as_ ?_
 refine zET (zSG ?_)
 refine TL.pnew rfl rfl rfl (exec_alloc (cs := En.zero.cells) rfl brezv102 rfl) (fun g8 => ?_)
 refine zET (zSG (TL.as_ ?_))
 refine zET (zS (zSG (TL.v (gF brefld26_0) ?_)))
 refine TL.v (gL 2 breag24) ?_
 refine TL.v (gN Tryz.underlying24) ?_
 refine TL.mv ?_
 refine zET (zB (TC.loop_ (α := {y : Nat × En × Bool // y.1 ≤ es.length ∧ lookR (es.take y.1) a t = y.2}) (fun y => [(1, .int .u32 a), (2, .int .i64 t), (6, .pointer (some ⟨g6, 0, none⟩)), (8, .pointer (some ⟨g8, 0, none⟩)), (13, .slice A0 es.length c0), (14, .int .i64 (es.length : Nat)), (15, .int .i64 ((y.1.1 : Nat) : Int)), (9, .bool y.1.2.2)]) (fun y => Pm w [.blk g8 102 y.1.2.1.cells, .blk g6 102 En.zero.cells, .blk g3 26 [.slice A0 es.length c0]]) (fun y => es.length - y.1.1) (⟨(0, En.zero, false), Nat.zero_le _, rfl⟩) ⟨rfl, rfl, rfl, rfl, rfl, rfl, rfl, rfl, trivial⟩ (fun w1 hw => hw) ?_))
 rintro ⟨⟨i, bst, fnd⟩, hi, hst⟩
 dsimp only at hi hst ⊢
 refine zSG ?_
 refine TL.sp bin_lss (fun q16 => ?_) (fun q16 => ?_)
 ·refine zET (zS (zc (zk (zT (zS (zB (zSG ?_)))))))
  have hi17 : i < es.length := by omega
  obtain ⟨x17, hx17⟩ := ex_at hi17
  obtain ⟨b17, o17, hA17, hbb17, hc17⟩ := hr.ad (by omega) (by decide)
  refine TL.val rfl rfl rfl (gA (i := i) Tryz.underlying24 bresz102 rfl rfl rfl rfl hA17 (by omega)) ?_
  refine TL.v (gR en_cel breag102 bresz102 hbb17 hx17 hc17) ?_
  refine TL.pnew rfl rfl rfl (exec_alloc (cs := En.zero.cells) rfl brezv102 rfl) (fun g11 => ?_)
  refine TL.pstore (k := 0) (vs := x17.cells) rfl rfl rfl rfl rfl rfl rfl bresz102 (en_cel.one _) (by show 5 ≤ 5; decide) (L' := [.blk g11 102 x17.cells, .blk g8 102 bst.cells, .blk g6 102 En.zero.cells, .blk g3 26 [.slice A0 es.length c0]]) rfl ?_
  refine zET (zS ?_)
  cases fnd with
  | true =>
   refine zG (TL.v (gF brefld102_2) ?_)
   refine TL.v (gL 0 pcmag3) ?_
   refine TL.mv ?_
   refine TL.sp bin_leq (fun q22 => ?_) (fun q22 => ?_)
   ·refine TL.rn 2 rfl (TL.ov (gF brefld102_3) ?_)
    refine TL.ov (gL 0 pcmag3) ?_
    refine TL.gu ?_
    refine TL.sp bin_lss (fun q27 => ?_) (fun q27 => ?_)
    ·refine TL.rn 5 rfl (TL.ov (gF brefld102_0) ?_)
     refine TL.ov (gF badfld100_1) ?_
     refine TL.ov (gL 0 pcmag3) ?_
     refine TL.ov (gF brefld102_0) ?_
     refine TL.ov (gF badfld100_1) ?_
     refine TL.ov (gL 1 pcmag3) ?_
     refine TL.gu ?_
     refine TL.sp bin_gtr (fun q39 => ?_) (fun q39 => ?_)
     ·refine TL.rn 3 rfl (TL.ov (gF brefld102_0) ?_)
      refine TL.ov (gV 0 (.agg #[.int .u32 x17.addr, .int .i64 x17.len]) badag100 badsz100) ?_
      refine TL.rn 1 rfl (TL.gu ?_)
      refine TL.callsplit rfl rfl rfl rfl rfl Tryz.func216 (by decide) rfl (fun w1 hw => hasP_any x17.addr x17.len a w1) (fun h46 => ?_) (fun h46 => ?_)
      ·refine TL.pk ?_
       refine zET (zc (zG (TL.v (gV 0 (.agg (x17.cells).toArray) breag102 bresz102) ?_)))
       refine TL.pstore (k := 1) (vs := x17.cells) rfl rfl rfl rfl rfl rfl rfl bresz102 (en_cel.one _) (by show 5 ≤ 5; decide) (L' := [.blk g11 102 x17.cells, .blk g8 102 x17.cells, .blk g6 102 En.zero.cells, .blk g3 26 [.slice A0 es.length c0]]) rfl ?_
       refine TL.as_ ?_
       refine zE (zN (zT (zG (TL.v (gD ((i + 1 : Nat) : Int)) ?_))))
       refine TL.mv ?_
       refine zE ?_
       exact TX.round (⟨(i + 1, x17, true), by dsimp only; omega, by rw [lookR_snoc hx17 hst, if_pos (by simp [fitsE, q16, q22, q27, q39, h46])]⟩) (by show es.length - (i + 1) < es.length - i; omega) ⟨rfl, rfl, rfl, rfl, rfl, rfl, rfl, rfl, trivial⟩ (fun w1 hw => hw.pick [1, 2, 3] (by decide) rfl)
      refine TL.pk ?_
      refine zET (zd (zk (zN (zT (zG (TL.v (gD ((i + 1 : Nat) : Int)) ?_))))))
      refine TL.mv ?_
      refine zE ?_
      exact TX.round (⟨(i + 1, bst, true), by dsimp only; omega, by rw [lookR_snoc hx17 hst, if_neg (by simp [fitsE, q16, q22, q27, q39, h46])]⟩) (by show es.length - (i + 1) < es.length - i; omega) ⟨rfl, rfl, rfl, rfl, rfl, rfl, rfl, rfl, trivial⟩ (fun w1 hw => hw.pick [1, 2, 3] (by decide) rfl)
     refine TL.rn 8 rfl (zET (zd (zk (zN (zT (zG (TL.v (gD ((i + 1 : Nat) : Int)) ?_)))))))
     refine TL.mv ?_
     refine zE ?_
     exact TX.round (⟨(i + 1, bst, true), by dsimp only; omega, by rw [lookR_snoc hx17 hst, if_neg (by simp [fitsE, q16, q22, q27, q39])]⟩) (by show es.length - (i + 1) < es.length - i; omega) ⟨rfl, rfl, rfl, rfl, rfl, rfl, rfl, rfl, trivial⟩ (fun w1 hw => hw.pick [1, 2, 3] (by decide) rfl)
    refine TL.rn 5 rfl ?_
    refine TL.offU rfl rfl rfl rfl rfl ?_
    refine TL.offU rfl rfl rfl rfl rfl ?_
    refine TL.offU rfl rfl rfl rfl rfl ?_
    refine TL.offU rfl rfl rfl rfl rfl ?_
    refine TL.offU rfl rfl rfl rfl rfl ?_
    refine TL.offU rfl rfl rfl rfl rfl ?_
    refine TL.offU rfl rfl rfl rfl rfl ?_
    refine TL.rn 8 rfl (zET (zd (zk (zN (zT (zG (TL.v (gD ((i + 1 : Nat) : Int)) ?_)))))))
    refine TL.mv ?_
    refine zE ?_
    exact TX.round (⟨(i + 1, bst, true), by dsimp only; omega, by rw [lookR_snoc hx17 hst, if_neg (by simp [fitsE, q16, q22, q27])]⟩) (by show es.length - (i + 1) < es.length - i; omega) ⟨rfl, rfl, rfl, rfl, rfl, rfl, rfl, rfl, trivial⟩ (fun w1 hw => hw.pick [1, 2, 3] (by decide) rfl)
   refine TL.rn 10 rfl ?_
   refine TL.offU rfl rfl rfl rfl rfl ?_
   refine TL.offU rfl rfl rfl rfl rfl ?_
   refine TL.offU rfl rfl rfl rfl rfl ?_
   refine TL.offU rfl rfl rfl rfl rfl ?_
   refine TL.offU rfl rfl rfl rfl rfl ?_
   refine TL.offU rfl rfl rfl rfl rfl ?_
   refine TL.offU rfl rfl rfl rfl rfl ?_
   refine TL.rn 8 rfl (zET (zd (zk (zN (zT (zG (TL.v (gD ((i + 1 : Nat) : Int)) ?_)))))))
   refine TL.mv ?_
   refine zE ?_
   exact TX.round (⟨(i + 1, bst, true), by dsimp only; omega, by rw [lookR_snoc hx17 hst, if_neg (by simp [fitsE, q16, q22])]⟩) (by show es.length - (i + 1) < es.length - i; omega) ⟨rfl, rfl, rfl, rfl, rfl, rfl, rfl, rfl, trivial⟩ (fun w1 hw => hw.pick [1, 2, 3] (by decide) rfl)
  | false =>
   refine zG (TL.v (gF brefld102_2) ?_)
   refine TL.v (gL 0 pcmag3) ?_
   refine TL.mv ?_
   refine TL.sp bin_leq (fun q22 => ?_) (fun q22 => ?_)
   ·refine TL.rn 2 rfl (TL.ov (gF brefld102_3) ?_)
    refine TL.ov (gL 0 pcmag3) ?_
    refine TL.gu ?_
    refine TL.sp bin_lss (fun q27 => ?_) (fun q27 => ?_)
    ·refine TL.rn 15 rfl (TL.ov (gF brefld102_0) ?_)
     refine TL.ov (gV 0 (.agg #[.int .u32 x17.addr, .int .i64 x17.len]) badag100 badsz100) ?_
     refine TL.rn 1 rfl (TL.gu ?_)
     refine TL.callsplit rfl rfl rfl rfl rfl Tryz.func216 (by decide) rfl (fun w1 hw => hasP_any x17.addr x17.len a w1) (fun h46 => ?_) (fun h46 => ?_)
     ·refine TL.pk ?_
      refine zET (zc (zG (TL.v (gV 0 (.agg (x17.cells).toArray) breag102 bresz102) ?_)))
      refine TL.pstore (k := 1) (vs := x17.cells) rfl rfl rfl rfl rfl rfl rfl bresz102 (en_cel.one _) (by show 5 ≤ 5; decide) (L' := [.blk g11 102 x17.cells, .blk g8 102 x17.cells, .blk g6 102 En.zero.cells, .blk g3 26 [.slice A0 es.length c0]]) rfl ?_
      refine TL.as_ ?_
      refine zE (zN (zT (zG (TL.v (gD ((i + 1 : Nat) : Int)) ?_))))
      refine TL.mv ?_
      refine zE ?_
      exact TX.round (⟨(i + 1, x17, true), by dsimp only; omega, by rw [lookR_snoc hx17 hst, if_pos (by simp [fitsE, q16, q22, q27, h46])]⟩) (by show es.length - (i + 1) < es.length - i; omega) ⟨rfl, rfl, rfl, rfl, rfl, rfl, rfl, rfl, trivial⟩ (fun w1 hw => hw.pick [1, 2, 3] (by decide) rfl)
     refine TL.pk ?_
     refine zET (zd (zk (zN (zT (zG (TL.v (gD ((i + 1 : Nat) : Int)) ?_))))))
     refine TL.mv ?_
     refine zE ?_
     exact TX.round (⟨(i + 1, bst, false), by dsimp only; omega, by rw [lookR_snoc hx17 hst, if_neg (by simp [fitsE, q16, q22, q27, h46])]⟩) (by show es.length - (i + 1) < es.length - i; omega) ⟨rfl, rfl, rfl, rfl, rfl, rfl, rfl, rfl, trivial⟩ (fun w1 hw => hw.pick [1, 2, 3] (by decide) rfl)
    refine TL.rn 5 rfl ?_
    refine TL.offU rfl rfl rfl rfl rfl ?_
    refine TL.offU rfl rfl rfl rfl rfl ?_
    refine TL.offU rfl rfl rfl rfl rfl ?_
    refine TL.offU rfl rfl rfl rfl rfl ?_
    refine TL.offU rfl rfl rfl rfl rfl ?_
    refine TL.offU rfl rfl rfl rfl rfl ?_
    refine TL.offU rfl rfl rfl rfl rfl ?_
    refine TL.rn 8 rfl (zET (zd (zk (zN (zT (zG (TL.v (gD ((i + 1 : Nat) : Int)) ?_)))))))
    refine TL.mv ?_
    refine zE ?_
    exact TX.round (⟨(i + 1, bst, false), by dsimp only; omega, by rw [lookR_snoc hx17 hst, if_neg (by simp [fitsE, q16, q22, q27])]⟩) (by show es.length - (i + 1) < es.length - i; omega) ⟨rfl, rfl, rfl, rfl, rfl, rfl, rfl, rfl, trivial⟩ (fun w1 hw => hw.pick [1, 2, 3] (by decide) rfl)
   refine TL.rn 10 rfl ?_
   refine TL.offU rfl rfl rfl rfl rfl ?_
   refine TL.offU rfl rfl rfl rfl rfl ?_
   refine TL.offU rfl rfl rfl rfl rfl ?_
   refine TL.offU rfl rfl rfl rfl rfl ?_
   refine TL.offU rfl rfl rfl rfl rfl ?_
   refine TL.offU rfl rfl rfl rfl rfl ?_
   refine TL.offU rfl rfl rfl rfl rfl ?_
   refine TL.rn 8 rfl (zET (zd (zk (zN (zT (zG (TL.v (gD ((i + 1 : Nat) : Int)) ?_)))))))
   refine TL.mv ?_
   refine zE ?_
   exact TX.round (⟨(i + 1, bst, false), by dsimp only; omega, by rw [lookR_snoc hx17 hst, if_neg (by simp [fitsE, q16, q22])]⟩) (by show es.length - (i + 1) < es.length - i; omega) ⟨rfl, rfl, rfl, rfl, rfl, rfl, rfl, rfl, trivial⟩ (fun w1 hw => hw.pick [1, 2, 3] (by decide) rfl)
 refine zET (zS (zd (zx (zX (zX (zM (zT (zSG (TL.v (gV 0 (.agg (bst.cells).toArray) breag102 bresz102) ?_)))))))))
 refine TL.mv ?_
 refine TL.pstore (k := 1) (vs := bst.cells) rfl rfl rfl rfl rfl rfl rfl bresz102 (en_cel.one _) (by show 5 ≤ 5; decide) (L' := [.blk g8 102 bst.cells, .blk g6 102 bst.cells, .blk g3 26 [.slice A0 es.length c0]]) rfl ?_
 refine TL.as_ ?_
 refine zET (zr ?_)
 have hE : lookR es a t = (bst, fnd) := by rw [List.take_of_length_le (by omega)] at hst; exact hst
 exact ret_cell2 (k := 1) (v := .bool fnd) Tryz.results189 rfl rfl rfl Tryz.underlying102 rfl rfl (fun w1 hw => ⟨by rw [hE], hw.bel⟩)
theorem lookV_any (A0 : Option Addr) (c0 : Nat) (es : List En) (a t : Int) (w : World) (hr : Reads w w.heap.size 5 A0 es.length (flat En.cells es)) :
  Calls Tryz.prog 161 #[.agg #[.slice A0 es.length c0], .int .u32 a, .int .i64 t] w fun e w' => e = .returned (.tuple #[.agg (lookV es a t).1.cells.toArray, .bool (lookV es a t).2]) ∧ Below w.heap.size w w' := by
 refine begin_ (vs := [.agg #[.slice A0 es.length c0], .int .u32 a, .int .i64 t]) Tryz.func161 rfl rfl rfl ?_ (Pm.start w)
 refine zSG ?_
 refine TL.pnew rfl rfl rfl (exec_box (cs := [.slice A0 es.length c0]) rfl rfl rfl) (fun g3 => ?_)
 refine TL.pnew rfl rfl rfl (exec_alloc (cs := [.int .u32 0, .int .i64 0, .int .i64 0, .int .i64 0, .int .i64 0]) rfl brezv102 rfl) (fun g6 => ?_)
 refine TL.as_ ?_
 refine zET (zS (zSG (TL.v (gV 1 (.agg #[.slice A0 es.length c0]) breag26 bresz26) ?_)))
 refine TL.callsplit rfl rfl rfl rfl rfl Tryz.func84 (by decide) rfl (fun w1 hw => validR_any A0 c0 es w1 (hr.up hw.bel)) (fun h9 => ?_) (fun h9 => ?_)
 ·refine TL.val rfl rfl rfl (gives_boolnot rfl rfl) ?_
  refine zET (zd (zk (zT (zSG (TL.v (gV 1 (.agg #[.slice A0 es.length c0]) breag26 bresz26) ?_)))))
  refine TL.rn 2 rfl ?_
  refine TL.pcall1 (r := .tuple #[.agg ((lookR es a t).1.cells).toArray, .bool ((lookR es a t).2)]) rfl rfl rfl rfl rfl Tryz.func189 (by decide) rfl (fun w1 hw => lookR_any A0 c0 es a t w1 (hr.up hw.bel) (Nat.le_trans (validR_len h9) (by decide))) ?_
  refine TL.rn 2 rfl ?_
  refine TL.pstore (k := 0) (vs := (lookR es a t).1.cells) rfl rfl rfl rfl rfl rfl rfl bresz102 (en_cel.one _) (by show 5 ≤ 5; decide) (L' := [.blk g6 102 (lookR es a t).1.cells, .blk g3 26 [.slice A0 es.length c0]]) rfl ?_
  refine TL.as_ ?_
  refine zET (zr ?_)
  have hE : lookV es a t = lookR es a t := if_pos h9
  exact ret_cell2 (k := 0) (v := .bool ((lookR es a t).2)) Tryz.results161 rfl rfl rfl Tryz.underlying102 rfl rfl (fun w1 hw => ⟨by rw [hE], hw.bel⟩)
 refine TL.val rfl rfl rfl (gives_boolnot rfl rfl) ?_
 refine zET (zc (zSG ?_))
 refine TL.val rfl rfl rfl (gives_build (v := .agg #[.int .u32 0, .int .i64 0, .int .i64 0, .int .i64 0, .int .i64 0]) rfl rfl (fun w => brebld102_791  w)) ?_
 refine TL.pstore (k := 0) (vs := [.int .u32 0, .int .i64 0, .int .i64 0, .int .i64 0, .int .i64 0]) rfl rfl rfl rfl rfl rfl rfl bresz102 breone_u32i64i64i64i64 (by show 5 ≤ 5; decide) (L' := [.blk g6 102 [.int .u32 0, .int .i64 0, .int .i64 0, .int .i64 0, .int .i64 0], .blk g3 26 [.slice A0 es.length c0]]) rfl ?_
 refine TL.as_ ?_
 refine zET (zr (zR ?_))
 have hE : lookV es a t = (En.zero, false) := if_neg (by rw [h9]; decide)
 exact ret_cell2 (k := 0) (v := .bool false) Tryz.results161 rfl rfl rfl Tryz.underlying102 rfl rfl (fun w1 hw => ⟨by rw [hE]; rfl, hw.bel⟩)
theorem prov_any (A0 : Option Addr) (c0 : Nat) (es : List En) (a t : Int) (w : World) (hr : Reads w w.heap.size 5 A0 es.length (flat En.cells es)) :
  Calls Tryz.prog 127 #[.agg #[.slice A0 es.length c0], .int .u32 a, .int .i64 t] w fun e w' => e = .returned (.int .i64 (provR es a t)) ∧ Below w.heap.size w w' := by
 refine begin_ (vs := [.agg #[.slice A0 es.length c0], .int .u32 a, .int .i64 t]) Tryz.func127 rfl rfl rfl ?_ (Pm.start w)
 refine zSG ?_
 refine TL.pnew rfl rfl rfl (exec_box (cs := [.slice A0 es.length c0]) rfl rfl rfl) (fun g3 => ?_)
 refine TL.as_ ?_
 refine zET (zSG (TL.v (gV 0 (.agg #[.slice A0 es.length c0]) breag26 bresz26) ?_))
 refine TL.rn 2 rfl ?_
 refine TL.pcall1 (r := .tuple #[.agg ((lookV es a t).1.cells).toArray, .bool ((lookV es a t).2)]) rfl rfl rfl rfl rfl Tryz.func161 (by decide) rfl (fun w1 hw => lookV_any A0 c0 es a t w1 (hr.up hw.bel)) ?_
 refine TL.rn 3 rfl ?_
 refine TL.pnew rfl rfl rfl (exec_alloc (cs := [.int .u32 0, .int .i64 0, .int .i64 0, .int .i64 0, .int .i64 0]) rfl brezv102 rfl) (fun g7 => ?_)
 refine TL.pstore (k := 0) (vs := (lookV es a t).1.cells) rfl rfl rfl rfl rfl rfl rfl bresz102 (en_cel.one _) (by show 5 ≤ 5; decide) (L' := [.blk g7 102 (lookV es a t).1.cells, .blk g3 26 [.slice A0 es.length c0]]) rfl ?_
 refine TL.as_ ?_
 refine zET (zSG (TL.v (gF brefld102_1) ?_))
 refine TL.v (gL 0 pcmag3) ?_
 refine TL.as_ ?_
 refine zET (zr ?_)
 exact ret_tmp Tryz.results127 rfl (fun w1 hw => ⟨rfl, hw.bel⟩)
set_option maxRecDepth 20000
def dtA (f : Rs → Int) (prov t : Int) (a : Rs) : Prop := a.back < t ∧ f a ≠ 0 ∧ f a ≠ prov
def dtB (f : Rs → Int) (prov t : Int) (a b : Rs) : Prop := t ≤ b.at_ ∧ f b = prov ∧ b.src ≠ a.src
def DtF (f : Rs → Int) (y : List Rs) (prov t : Int) : Prop := ∃ a ∈ y, dtA f prov t a ∧ ∃ b ∈ y, dtB f prov t a b
theorem not_snoc {α : Type} {y : List α} {P : α → Prop} {i : Nat} {x : α} (h : ∀ z ∈ y.take i, ¬ P z) (hx : y[i]? = some x) (hn : ¬ P x) : ∀ z ∈ y.take (i + 1), ¬ P z := fun z hz => by
 rw [List.take_add_one, hx, List.mem_append] at hz
 rcases hz with h1 | h1
 ·exact h z h1
 rw [show z = x by simpa using h1]; exact hn
theorem map_at {α β : Type} {f : α → β} {l : List α} {m : List β} {i : Nat} {x : α} {v : β} (hm : m = l.map f) (hx : l[i]? = some x) (hv : m[i]? = some v) : v = f x := by
 subst hm
 rw [List.getElem?_map, hx] at hv
 exact (Option.some.inj hv).symm
theorem mapt_snoc {α β : Type} {f : α → β} {l : List α} {m : List β} {i : Nat} {x : α} (hx : l[i]? = some x) (h : (l.take i).map f = m) : (l.take (i + 1)).map f = m ++ [f x] := by
 rw [List.take_add_one, hx, List.map_append, h]; rfl
theorem adtbs106_1_5377 (a0_0 : Int) (w : World) : (Instr.buildSlice 106 1 #[(0, .int .i64 a0_0)]).run Tryz.prog w = .ok (.slice (some ⟨w.heap.size, 0, none⟩) 1 1) (w.alloc (.cells [.int .i64 a0_0].toArray 3)) := by kernel_rfl
theorem adtel106 : Elem Tryz.prog 106 3 1 8 := Elem.mk' Tryz.underlying106 (z := .int .i64 0) (by kernel_rfl) rfl (by omega) (by omega)
theorem providers_any (A0 : Option Addr) (c0 : Nat) (l : List Rs) (A1 : Option Addr) (c1 : Nat) (es : List En) (w : World) (hr : Reads w w.heap.size 17 A0 l.length (flat Rs.cells l)) (hl1 : l.length ≤ 100000) (hr1 : Reads w w.heap.size 5 A1 es.length (flat En.cells es)) :
  Calls Tryz.prog 82 #[.slice A0 l.length c0, .agg #[.slice A1 es.length c1]] w fun e w' => ∃ x : {y : (Option Addr × Nat) × List Int // y.2 = l.map (fun r : Rs => provR es r.src r.back) ∧ y.2.length ≤ y.1.2 ∧ y.1.2 ≤ maxLen}, e = .returned (.slice x.1.1.1 x.1.2.length x.1.1.2) ∧ Pm w [.row (.slice x.1.1.1 x.1.2.length x.1.1.2) 3 1 x.1.2.length (flat (ic .i64) x.1.2)] w' := by
 refine begin_ (vs := [.slice A0 l.length c0, .agg #[.slice A1 es.length c1]]) Tryz.func82 rfl rfl rfl ?_ (Pm.start w)
 refine zSG ?_
 refine TL.pnew rfl rfl rfl (exec_box (cs := [.slice A1 es.length c1]) rfl rfl rfl) (fun g3 => ?_)
 refine TL.as_ ?_
 refine zET (zSG (TL.as_ ?_))
 refine zET (zS (zSG (TL.mv ?_)))
 refine TL.v (gN Tryz.underlying23) ?_
 refine TL.mv ?_
 refine zET (zB (TC.nilrow 3 1 ?_))
 refine TC.loop_ (α := {y : Nat × (Option Addr × Nat) × List Int // y.1 ≤ l.length ∧ ((l.take y.1).map (fun r : Rs => provR es r.src r.back) = y.2.2) ∧ y.2.2.length ≤ y.1 ∧ y.2.2.length ≤ y.2.1.2 ∧ y.2.1.2 ≤ maxLen}) (fun y => [(3, .pointer (some ⟨g3, 0, none⟩)), (8, .slice A0 l.length c0), (9, .int .i64 (l.length : Nat)), (10, .int .i64 ((y.1.1 : Nat) : Int)), (5, .slice y.1.2.1.1 y.1.2.2.length y.1.2.1.2)]) (fun y => Pm w [.row (.slice y.1.2.1.1 y.1.2.2.length y.1.2.1.2) 3 1 y.1.2.2.length (flat (ic .i64) y.1.2.2), .blk g3 26 [.slice A1 es.length c1]]) (fun y => l.length - y.1.1) (⟨(0, (none, 0), []), Nat.zero_le _, rfl, Nat.le_refl _, Nat.le_refl _, Nat.zero_le _⟩) ⟨rfl, rfl, rfl, rfl, rfl, trivial⟩ (fun w1 hw => hw) ?_
 rintro ⟨⟨i, ⟨Ao, co⟩, out⟩, hi, hout, houtl, houtc, houtm⟩
 dsimp only at hi hout houtl houtc houtm ⊢
 refine zSG ?_
 refine TL.sp bin_lss (fun q11 => ?_) (fun q11 => ?_)
 ·refine zET (zS (zc (zk (zT (zS (zB (zSG ?_)))))))
  have hi12 : i < l.length := by omega
  obtain ⟨x12, hx12⟩ := ex_at hi12
  obtain ⟨b12, o12, hA12, hbb12, hc12⟩ := hr.ad (by omega) (by decide)
  refine TL.val rfl rfl rfl (gA (i := i) Tryz.underlying23 prssz65 rfl rfl rfl rfl hA12 (by omega)) ?_
  refine TL.v (gR rs_cel prsag65 prssz65 hbb12 hx12 hc12) ?_
  refine TL.pnew rfl rfl rfl (exec_alloc (cs := [.int .i64 0, .int .i64 0, .int .i64 0, .int .i64 0, .int .u32 0, .int .i64 0, .int .i64 0, .int .i64 0, .bool false, .bool false, .int .i64 0, .int .u32 0, .int .i64 0, .int .i64 0, .int .i64 0, .int .i64 0, .int .i64 0]) rfl arpzv65 rfl) (fun g7 => ?_)
  refine TL.pstore (k := 0) (vs := x12.cells) rfl rfl rfl rfl rfl rfl rfl prssz65 (rs_cel.one _) (by show 17 ≤ 17; decide) (L' := [.blk g7 65 x12.cells, .row (.slice Ao out.length co) 3 1 out.length (flat (ic .i64) out), .blk g3 26 [.slice A1 es.length c1]]) rfl ?_
  refine zET (zG (TL.mv ?_))
  refine TL.v (gV 2 (.agg #[.slice A1 es.length c1]) breag26 bresz26) ?_
  refine TL.v (gF prsfld65_11) ?_
  refine TL.v (gF prsfld63_0) ?_
  refine TL.v (gL 0 pcmag30) ?_
  refine TL.v (gF prsfld65_10) ?_
  refine TL.v (gL 0 pcmag3) ?_
  refine TL.pcall1 (r := .int .i64 (provR es x12.src x12.back)) rfl rfl rfl rfl rfl Tryz.func127 (by decide) rfl (fun w1 hw => prov_any A1 c1 es x12.src x12.back w1 (hr1.up hw.bel)) ?_
  refine TL.prowS (e := 3) (size := 1) (cs := flat (ic .i64) [provR es x12.src x12.back]) rfl rfl rfl rfl rfl (fun w => adtbs106_1_5377 _ w) (by decide) rfl (fun g22 => ?_)
  refine TL.appendT (k := 2) rfl rfl rfl rfl Tryz.underlying106 adtel106 rfl rfl rfl (fun w1 hw => pm_reads hw (k := 0) rfl) (flat_one (ic_cel .i64) _) (by show _ * 8 ≤ _; omega) ((out ++ [provR es x12.src x12.back]).length) (by rw [List.length_append]; rfl) (flat (ic .i64) (out ++ [provR es x12.src x12.back])) ((flat_app _ _).symm) (fun A23 c23 hA231 hA232 => ?_)
  refine TL.as_ ?_
  refine zE (zN (zT (zG (TL.v (gD ((i + 1 : Nat) : Int)) ?_))))
  refine TL.mv ?_
  refine zE ?_
  exact TX.round (⟨(i + 1, (A23, c23), out ++ [provR es x12.src x12.back]), by dsimp only; omega, mapt_snoc (f := (fun r : Rs => provR es r.src r.back)) hx12 hout, by dsimp only; rw [List.length_append]; show out.length + 1 ≤ _; omega, hA231, hA232⟩) (by show l.length - (i + 1) < l.length - i; omega) ⟨rfl, rfl, rfl, rfl, rfl, trivial⟩ (fun w1 hw => hw.pick [2, 3] (by decide) rfl)
 refine zET (zS (zd (zx (zX (zX (zM (zT (zSG (TL.rn 2 rfl (zET (zr ?_)))))))))))
 exact ret_tmp Tryz.results82 rfl (fun w1 hw => ⟨⟨((Ao, co), out), by rw [List.take_of_length_le (by omega)] at hout; exact hout.symm, by dsimp only; omega, houtm⟩, rfl, hw.pick [0] (by decide) rfl⟩)
theorem detour_l (A0 : Option Addr) (c0 : Nat) (l : List Rs) (A1 : Option Addr) (c1 : Nat) (ps : List Int) (f : Rs → Int) (prov t : Int) (w : World) (hr : Reads w w.heap.size 17 A0 l.length (flat Rs.cells l)) (hl1 : l.length ≤ 100000) (hr1 : Reads w w.heap.size 1 A1 ps.length (flat (ic .i64) ps)) (hps : ps = l.map f) :
  Calls Tryz.prog 81 #[.slice A0 l.length c0, .slice A1 ps.length c1, .int .i64 prov, .int .i64 t] w fun e w' => ∃ x : {b : Bool // b = true ↔ DtF f l prov t}, e = .returned (.bool x.1) ∧ Below w.heap.size w w' := by
 have hpl : ps.length = l.length := by rw [hps, List.length_map]
 refine begin_ (vs := [.slice A0 l.length c0, .slice A1 ps.length c1, .int .i64 prov, .int .i64 t]) Tryz.func81 rfl rfl rfl ?_ (Pm.start w)
 refine zSG (TL.as_ ?_)
 refine zET (zS (zSG (TL.mv ?_)))
 refine TL.v (gN Tryz.underlying23) ?_
 refine TL.mv ?_
 refine zET (zB ?_)
 refine TC.loop_ (α := {i : Nat // i ≤ l.length ∧ ∀ z ∈ l.take i, ¬ (dtA f prov t z ∧ ∃ b ∈ l, dtB f prov t z b)}) (fun y => [(0, .slice A0 l.length c0), (1, .slice A1 ps.length c1), (2, .int .i64 prov), (3, .int .i64 t), (13, .slice A0 l.length c0), (14, .int .i64 (l.length : Nat)), (15, .int .i64 ((y.1 : Nat) : Int))]) (fun y => Pm w []) (fun y => l.length - y.1) (⟨0, Nat.zero_le _, fun z hz => by rw [List.take_zero] at hz; cases hz⟩) ⟨rfl, rfl, rfl, rfl, rfl, rfl, rfl, trivial⟩ (fun w1 hw => hw) ?_
 rintro ⟨i, hi, hma⟩
 try dsimp only at hi hma ⊢
 refine zSG ?_
 refine TL.sp bin_lss (fun q16 => ?_) (fun q16 => ?_)
 ·refine zET (zS (zc (zk (zT (zS (zB (zSG (TL.mv ?_))))))))
  have hi18 : i < l.length := by omega
  obtain ⟨x18, hx18⟩ := ex_at hi18
  obtain ⟨b18, o18, hA18, hbb18, hc18⟩ := hr.ad (by omega) (by decide)
  refine TL.val rfl rfl rfl (gA (i := i) Tryz.underlying23 prssz65 rfl rfl rfl rfl hA18 (by omega)) ?_
  refine TL.v (gR rs_cel prsag65 prssz65 hbb18 hx18 hc18) ?_
  refine TL.pnew rfl rfl rfl (exec_alloc (cs := [.int .i64 0, .int .i64 0, .int .i64 0, .int .i64 0, .int .u32 0, .int .i64 0, .int .i64 0, .int .i64 0, .bool false, .bool false, .int .i64 0, .int .u32 0, .int .i64 0, .int .i64 0, .int .i64 0, .int .i64 0, .int .i64 0]) rfl arpzv65 rfl) (fun g10 => ?_)
  refine TL.as_ ?_
  refine TL.pstore (k := 0) (vs := x18.cells) rfl rfl rfl rfl rfl rfl rfl prssz65 (rs_cel.one _) (by show 17 ≤ 17; decide) (L' := [.blk g10 65 x18.cells]) rfl ?_
  refine zET (zS (zSG (TL.v (gF prsfld65_10) ?_)))
  refine TL.v (gL 0 pcmag3) ?_
  refine TL.mv ?_
  refine TL.sp bin_geq (fun q23 => ?_) (fun q23 => ?_)
  ·refine TL.rn 15 rfl (zET (zc (zx (zX (zM (zT (zG (TL.v (gD ((i + 1 : Nat) : Int)) ?_))))))))
   refine TL.mv ?_
   refine zE ?_
   exact TX.round (⟨i + 1, by omega, not_snoc hma hx18 (fun h => by have := h.1.1; omega)⟩) (by show l.length - (i + 1) < l.length - i; omega) ⟨rfl, rfl, rfl, rfl, rfl, rfl, rfl, trivial⟩ (fun w1 hw => hw.pick [] (by decide) rfl)
  refine TL.rn 3 rfl (TL.gu ?_)
  have hi27 : i < ps.length := by omega
  obtain ⟨x27, hx27⟩ := ex_at hi27
  obtain ⟨b27, o27, hA27, hbb27, hc27⟩ := hr1.ad (by omega) (by decide)
  refine TL.val rfl rfl rfl (gA (i := i) Tryz.underlying106 pcmsz3 rfl rfl rfl rfl hA27 (by omega)) ?_
  refine TL.gu ?_
  refine TL.val rfl rfl rfl (gives_load (v := .int .i64 x27) rfl rfl pcmag3 (fun w1 hw => (hw.bel.cell hbb27).trans <| flat_cell (ic_cel .i64) hx27 hc27 0 _ rfl)) ?_
  refine TL.gu ?_
  refine TL.sp bin_eql (fun q29 => ?_) (fun q29 => ?_)
  ·refine TL.rn 9 rfl (zET (zc (zx (zX (zM (zT (zG (TL.v (gD ((i + 1 : Nat) : Int)) ?_))))))))
   refine TL.mv ?_
   refine zE ?_
   exact TX.round (⟨i + 1, by omega, not_snoc hma hx18 (fun h => h.1.2.1 (by rw [← map_at hps hx18 hx27]; exact q29))⟩) (by show l.length - (i + 1) < l.length - i; omega) ⟨rfl, rfl, rfl, rfl, rfl, rfl, rfl, trivial⟩ (fun w1 hw => hw.pick [] (by decide) rfl)
  refine TL.rn 4 rfl (TL.gu ?_)
  refine TL.val rfl rfl rfl (gA (i := i) Tryz.underlying106 pcmsz3 rfl rfl rfl rfl hA27 (by omega)) ?_
  refine TL.gu ?_
  refine TL.val rfl rfl rfl (gives_load (v := .int .i64 x27) rfl rfl pcmag3 (fun w1 hw => (hw.bel.cell hbb27).trans <| flat_cell (ic_cel .i64) hx27 hc27 0 _ rfl)) ?_
  refine TL.rn 1 rfl (TL.gu ?_)
  refine TL.sp bin_eql (fun q37 => ?_) (fun q37 => ?_)
  ·refine TL.pk ?_
   refine zET (zc (zx (zX (zM (zT (zG (TL.v (gD ((i + 1 : Nat) : Int)) ?_)))))))
   refine TL.mv ?_
   refine zE ?_
   exact TX.round (⟨i + 1, by omega, not_snoc hma hx18 (fun h => h.1.2.2 (by rw [← map_at hps hx18 hx27]; exact q37))⟩) (by show l.length - (i + 1) < l.length - i; omega) ⟨rfl, rfl, rfl, rfl, rfl, rfl, rfl, trivial⟩ (fun w1 hw => hw.pick [] (by decide) rfl)
  refine TL.pk ?_
  refine zET (zd (zk (zT (zSG (TL.mv ?_)))))
  refine TL.v (gN Tryz.underlying23) ?_
  refine TL.mv ?_
  refine zET (zB ?_)
  refine TC.loop_ (α := {k : Nat // k ≤ l.length ∧ ∀ z ∈ l.take k, ¬ (dtB f prov t x18 z)}) (fun y => [(0, .slice A0 l.length c0), (1, .slice A1 ps.length c1), (2, .int .i64 prov), (3, .int .i64 t), (10, .pointer (some ⟨g10, 0, none⟩)), (13, .slice A0 l.length c0), (14, .int .i64 (l.length : Nat)), (15, .int .i64 ((i : Nat) : Int)), (39, .slice A0 l.length c0), (40, .int .i64 (l.length : Nat)), (41, .int .i64 ((y.1 : Nat) : Int))]) (fun y => Pm w [.blk g10 65 x18.cells]) (fun y => l.length - y.1) (⟨0, Nat.zero_le _, fun z hz => by rw [List.take_zero] at hz; cases hz⟩) ⟨rfl, rfl, rfl, rfl, rfl, rfl, rfl, rfl, rfl, rfl, rfl, trivial⟩ (fun w1 hw => hw) ?_
  rintro ⟨k, hk, hmb⟩
  try dsimp only at hk hmb ⊢
  refine zSG ?_
  refine TL.sp bin_lss (fun q42 => ?_) (fun q42 => ?_)
  ·refine zET (zS (zc (zk (zT (zS (zB (zSG (TL.mv ?_))))))))
   have hi44 : k < l.length := by omega
   obtain ⟨x44, hx44⟩ := ex_at hi44
   obtain ⟨b44, o44, hA44, hbb44, hc44⟩ := hr.ad (by omega) (by decide)
   refine TL.val rfl rfl rfl (gA (i := k) Tryz.underlying23 prssz65 rfl rfl rfl rfl hA44 (by omega)) ?_
   refine TL.v (gR rs_cel prsag65 prssz65 hbb44 hx44 hc44) ?_
   refine TL.pnew rfl rfl rfl (exec_alloc (cs := [.int .i64 0, .int .i64 0, .int .i64 0, .int .i64 0, .int .u32 0, .int .i64 0, .int .i64 0, .int .i64 0, .bool false, .bool false, .int .i64 0, .int .u32 0, .int .i64 0, .int .i64 0, .int .i64 0, .int .i64 0, .int .i64 0]) rfl arpzv65 rfl) (fun g12 => ?_)
   refine TL.as_ ?_
   refine TL.pstore (k := 0) (vs := x44.cells) rfl rfl rfl rfl rfl rfl rfl prssz65 (rs_cel.one _) (by show 17 ≤ 17; decide) (L' := [.blk g12 65 x44.cells, .blk g10 65 x18.cells]) rfl ?_
   refine zET (zSG (TL.v (gF prsfld65_3) ?_))
   refine TL.v (gL 0 pcmag3) ?_
   refine TL.mv ?_
   refine TL.sp bin_geq (fun q49 => ?_) (fun q49 => ?_)
   ·refine TL.rn 3 rfl (TL.gu ?_)
    have hi53 : k < ps.length := by omega
    obtain ⟨x53, hx53⟩ := ex_at hi53
    obtain ⟨b53, o53, hA53, hbb53, hc53⟩ := hr1.ad (by omega) (by decide)
    refine TL.val rfl rfl rfl (gA (i := k) Tryz.underlying106 pcmsz3 rfl rfl rfl rfl hA53 (by omega)) ?_
    refine TL.gu ?_
    refine TL.val rfl rfl rfl (gives_load (v := .int .i64 x53) rfl rfl pcmag3 (fun w1 hw => (hw.bel.cell hbb53).trans <| flat_cell (ic_cel .i64) hx53 hc53 0 _ rfl)) ?_
    refine TL.rn 1 rfl (TL.gu ?_)
    refine TL.sp bin_eql (fun q56 => ?_) (fun q56 => ?_)
    ·refine TL.rn 2 rfl (TL.ov (gF prsfld65_11) ?_)
     refine TL.ov (gF prsfld63_0) ?_
     refine TL.ov (gL 0 pcmag30) ?_
     refine TL.ov (gF prsfld65_11) ?_
     refine TL.ov (gF prsfld63_0) ?_
     refine TL.ov (gL 1 pcmag30) ?_
     refine TL.gu ?_
     refine TL.sp bin_neq (fun q65 => ?_) (fun q65 => ?_)
     ·refine TL.pk ?_
      refine zET (zc (zSG (TL.as_ ?_)))
      refine zET (zr (zRR (zR (TX.in_ret (zRR (zR (zRR ?_)))))))
      have hit : DtF f l prov t := ⟨x18, List.mem_of_getElem? hx18, ⟨by omega, by rw [← map_at hps hx18 hx27]; exact q29, by rw [← map_at hps hx18 hx27]; exact q37⟩, x44, List.mem_of_getElem? hx44, by omega, by rw [← map_at hps hx44 hx53]; exact q56, q65⟩
      exact ret_tmp Tryz.results81 rfl (fun w1 hw => ⟨⟨true, fun _ => hit, fun _ => rfl⟩, rfl, hw.bel⟩)
     refine TL.pk ?_
     refine zET (zd (zk (zN (zT (zG (TL.v (gD ((k + 1 : Nat) : Int)) ?_))))))
     refine TL.mv ?_
     refine zE ?_
     exact TX.round (⟨k + 1, by omega, not_snoc hmb hx44 (fun h => q65 h.2.2)⟩) (by show l.length - (k + 1) < l.length - k; omega) ⟨rfl, rfl, rfl, rfl, rfl, rfl, rfl, rfl, rfl, rfl, rfl, trivial⟩ (fun w1 hw => hw.pick [1] (by decide) rfl)
    refine TL.rn 10 rfl (zET (zd (zk (zN (zT (zG (TL.v (gD ((k + 1 : Nat) : Int)) ?_)))))))
    refine TL.mv ?_
    refine zE ?_
    exact TX.round (⟨k + 1, by omega, not_snoc hmb hx44 (fun h => q56 (by rw [map_at hps hx44 hx53]; exact h.2.1))⟩) (by show l.length - (k + 1) < l.length - k; omega) ⟨rfl, rfl, rfl, rfl, rfl, rfl, rfl, rfl, rfl, rfl, rfl, trivial⟩ (fun w1 hw => hw.pick [1] (by decide) rfl)
   refine TL.rn 17 rfl (zET (zd (zk (zN (zT (zG (TL.v (gD ((k + 1 : Nat) : Int)) ?_)))))))
   refine TL.mv ?_
   refine zE ?_
   exact TX.round (⟨k + 1, by omega, not_snoc hmb hx44 (fun h => by have := h.1; omega)⟩) (by show l.length - (k + 1) < l.length - k; omega) ⟨rfl, rfl, rfl, rfl, rfl, rfl, rfl, rfl, rfl, rfl, rfl, trivial⟩ (fun w1 hw => hw.pick [1] (by decide) rfl)
  refine zET (zS (zd (zx (zX (zX (zM (zN (zT (zG (TL.v (gD ((i + 1 : Nat) : Int)) ?_))))))))))
  refine TL.mv ?_
  refine zE ?_
  exact TX.round (⟨i + 1, by omega, not_snoc hma hx18 (fun h => by obtain ⟨_, b, hb, h2⟩ := h; rw [List.take_of_length_le (by omega)] at hmb; exact hmb b hb h2)⟩) (by show l.length - (i + 1) < l.length - i; omega) ⟨rfl, rfl, rfl, rfl, rfl, rfl, rfl, trivial⟩ (fun w1 hw => hw.pick [] (by decide) rfl)
 refine zET (zS (zd (zx (zX (zX (zM (zT (zSG (TL.as_ ?_)))))))))
 refine zET (zr ?_)
 have hno : ¬ DtF f l prov t := by
  rintro ⟨a, h1, h2⟩
  rw [List.take_of_length_le (by omega)] at hma
  exact hma a h1 h2
 exact ret_tmp Tryz.results81 rfl (fun w1 hw => ⟨⟨false, fun h => (by cases h), fun h => absurd h hno⟩, rfl, hw.bel⟩)
set_option maxRecDepth 20000
def DtP (es : List En) (l : List Rs) (p : Rp) : Prop := p.kind = 2 ∧ ∃ y, IsSt l p.trc p.flow y ∧ DtF (fun r : Rs => provR es r.src r.back) (atL y p.ttl) p.prov p.at_
theorem ad2fld34_1 (g o : Nat) (w : World) : (Instr.fieldAt 34 (.pointer (some ⟨g, o, none⟩)) 1).run Tryz.prog w = .ok (.pointer (some ⟨g, o + 1, none⟩)) w := by kernel_rfl
theorem ad2ag32 (w : World) : (isAgg 32).run Tryz.prog w = .ok true w := rfl
theorem ad2sz32 (w : World) : (sizeOf 32).run Tryz.prog w = .ok 3 w := rfl
theorem ad2fld34_2 (g o : Nat) (w : World) : (Instr.fieldAt 34 (.pointer (some ⟨g, o, none⟩)) 2).run Tryz.prog w = .ok (.pointer (some ⟨g, o + 4, none⟩)) w := by kernel_rfl
theorem ad2ag3 (w : World) : (isAgg 3).run Tryz.prog w = .ok false w := rfl
theorem ad2fld34_3 (g o : Nat) (w : World) : (Instr.fieldAt 34 (.pointer (some ⟨g, o, none⟩)) 3).run Tryz.prog w = .ok (.pointer (some ⟨g, o + 5, none⟩)) w := by kernel_rfl
theorem ad2nm73 : (Tryz.f73.name == "runtime.NumGoroutine") = false := by decide
theorem ad2bd73 : Tryz.f73.body.isNone = false := rfl
theorem ad2nm77 : (Tryz.f77.name == "runtime.NumGoroutine") = false := by decide
theorem ad2bd77 : Tryz.f77.body.isNone = false := rfl
theorem ad2fld34_0 (g o : Nat) (w : World) : (Instr.fieldAt 34 (.pointer (some ⟨g, o, none⟩)) 0).run Tryz.prog w = .ok (.pointer (some ⟨g, o + 0, none⟩)) w := by kernel_rfl
theorem ad2ag26 (w : World) : (isAgg 26).run Tryz.prog w = .ok true w := rfl
theorem ad2sz26 (w : World) : (sizeOf 26).run Tryz.prog w = .ok 1 w := rfl
theorem ad2fld34_5 (g o : Nat) (w : World) : (Instr.fieldAt 34 (.pointer (some ⟨g, o, none⟩)) 5).run Tryz.prog w = .ok (.pointer (some ⟨g, o + 7, none⟩)) w := by kernel_rfl
theorem ad2fld34_4 (g o : Nat) (w : World) : (Instr.fieldAt 34 (.pointer (some ⟨g, o, none⟩)) 4).run Tryz.prog w = .ok (.pointer (some ⟨g, o + 6, none⟩)) w := by kernel_rfl
theorem ad2nm82 : (Tryz.f82.name == "runtime.NumGoroutine") = false := by decide
theorem ad2bd82 : Tryz.f82.body.isNone = false := rfl
theorem ad2nm81 : (Tryz.f81.name == "runtime.NumGoroutine") = false := by decide
theorem ad2bd81 : Tryz.f81.body.isNone = false := rfl
theorem detour_any (A0 : Option Addr) (c0 : Nat) (l : List Rs) (A1 : Option Addr) (c1 : Nat) (es : List En) (p : Rp) (w : World) (hr : Reads w w.heap.size 17 A0 l.length (flat Rs.cells l)) (hl1 : l.length ≤ 100000) (hok : ∀ r ∈ l, r.Ok) (hr1 : Reads w w.heap.size 5 A1 es.length (flat En.cells es)) :
  Calls Tryz.prog 35 #[.slice A0 l.length c0, .agg #[.slice A1 es.length c1], .agg p.cells.toArray] w fun e w' => ∃ x : {b : Bool // b = true ↔ DtP es l p}, e = .returned (.bool x.1) ∧ Below w.heap.size w w' := by
 refine begin_ (vs := [.slice A0 l.length c0, .agg #[.slice A1 es.length c1], .agg p.cells.toArray]) Tryz.func35 rfl rfl rfl ?_ (Pm.start w)
 refine zSG ?_
 refine TL.pnew rfl rfl rfl (exec_box (cs := [.slice A1 es.length c1]) rfl rfl rfl) (fun g4 => ?_)
 refine TL.pnew rfl rfl rfl (exec_box (cs := p.cells) rfl rfl rfl) (fun g5 => ?_)
 refine TL.as_ ?_
 refine zET (zS (TC.held (ls := #[Ff,Ff,Ff,Ff,Ff,Ff,Ff,Ff,Ff,Ff]) (Pm w [.blk g5 34 p.cells, .blk g4 26 [.slice A1 es.length c1]]) (by kernel_rfl) rfl rfl (fun w hw => hw.drawn _) ?_))
 refine TH.tk 0 rfl rfl rfl (gives_move rfl rfl) (fun w1 hw => hw) ?_
 refine TH.tk 1 rfl rfl rfl (gF ad2fld34_1) (fun w1 hw => hw) ?_
 refine TH.tk 2 rfl rfl rfl (gV 0 (.agg #[.int .i64 p.v, .int .u32 p.dst, .int .i64 p.proto]) ad2ag32 ad2sz32) (fun w1 hw => hw) ?_
 refine TH.tk 3 rfl rfl rfl (gF ad2fld34_2) (fun w1 hw => hw) ?_
 refine TH.tk 4 rfl rfl rfl (gL 0 ad2ag3) (fun w1 hw => hw) ?_
 refine TH.tk 6 rfl rfl rfl (gF ad2fld34_3) (fun w1 hw => hw) ?_
 refine TH.tk 7 rfl rfl rfl (gL 0 ad2ag3) (fun w1 hw => hw) ?_
 refine TH.only' 5 rfl (by kernel_rfl) rfl ?_
 refine TL.pcallPm (α := {y : (Option Addr × Nat) × List Rs // IsSt l p.trc p.flow y.2 ∧ y.2.length ≤ y.1.2 ∧ y.1.2 ≤ maxLen}) (fun x => .slice x.1.1.1 x.1.2.length x.1.1.2) (fun x => [.row (.slice x.1.1.1 x.1.2.length x.1.1.2) 65 17 x.1.2.length (flat Rs.cells x.1.2)]) rfl rfl rfl rfl rfl Tryz.func73 ad2nm73 ad2bd73 (fun w1 hw => stream_any A0 c0 l p.trc p.flow w1 (hr.up hw.bel) hl1 hok) ?_
 rintro ⟨⟨⟨R13, rc13⟩, st13⟩, hP13, hR131, hR132⟩
 dsimp only [List.cons_append, List.nil_append]
 dsimp only at hP13 hR131 hR132 ⊢
 refine zE ?_
 refine TX.held (fun w1 hw => hw.pick [1, 2] (by decide) rfl) ?_
 refine TH.only' 8 rfl (by kernel_rfl) rfl ?_
 refine TL.pcallPm (α := {y : (Option Addr × Nat) × List Rs // y.2 = atL st13 p.ttl ∧ y.2.length ≤ y.1.2 ∧ y.1.2 ≤ maxLen}) (fun x => .slice x.1.1.1 x.1.2.length x.1.1.2) (fun x => [.row (.slice x.1.1.1 x.1.2.length x.1.1.2) 65 17 x.1.2.length (flat Rs.cells x.1.2)]) rfl rfl rfl rfl rfl Tryz.func77 ad2nm77 ad2bd77 (fun w1 hw => atl_any R13 rc13 st13 p.ttl w1 (pm_rd hw (k := 0) rfl) (by have := hP13.le; omega)) ?_
 rintro ⟨⟨⟨R16, rc16⟩, at16⟩, hP16, hR161, hR162⟩
 dsimp only [List.cons_append, List.nil_append]
 dsimp only at hP16 hR161 hR162 ⊢
 refine zE ?_
 refine TX.he (fun w1 hw => hw.pick [2, 3] (by decide) rfl) fun hS => ?_
 refine TH.t 9 rfl (gives_assign rfl rfl) hS ?_
 refine TH.done (by kernel_rfl) ?_
 refine zT (zS ?_)
 by_cases hk : p.kind = 2
 ·have hal : at16.length ≤ 100000 := by have := hP13.le; have := List.length_filter_le (fun r : Rs => r.ans && decide (r.ttl = p.ttl)) st13; rw [hP16]; unfold atL; omega
  refine TC.held (ls := #[Ff,Ff,Ff,Ff,Ff,Ff,Ff,Ff,Ff,Ff,Ff,Ff,Ff,Ff,Ff]) (Pm w [.blk g5 34 p.cells, .blk g4 26 [.slice A1 es.length c1]]) (by kernel_rfl) rfl rfl (fun w hw => hw.drawn _) ?_
  refine TH.tk 0 rfl rfl rfl (gF ad2fld34_0) (fun w1 hw => hw.pick [2, 3] (by decide) rfl) ?_
  refine TH.tk 1 rfl rfl rfl (gL 0 ad2ag3) (fun w1 hw => hw.pick [2, 3] (by decide) rfl) ?_
  refine TH.tk 2 rfl rfl rfl (gives_bin rfl rfl rfl (fun w => bin_eql_t (hk) w)) (fun w1 hw => hw.pick [2, 3] (by decide) rfl) ?_
  refine TH.tk 3 rfl rfl rfl (gives_move rfl rfl) (fun w1 hw => hw.pick [2, 3] (by decide) rfl) ?_
  refine TH.takeG 4 rfl (by kernel_rfl) (by kernel_rfl) (by kernel_rfl) rfl rfl rfl rfl rfl rfl (gives_move rfl rfl) (fun w1 hw => hw.pick [2, 3] (by decide) rfl) ?_
  refine TH.takeG 5 rfl (by kernel_rfl) (by kernel_rfl) (by kernel_rfl) rfl rfl rfl rfl rfl rfl (gives_move rfl rfl) (fun w1 hw => hw.pick [2, 3] (by decide) rfl) ?_
  refine TH.takeG 6 rfl (by kernel_rfl) (by kernel_rfl) (by kernel_rfl) rfl rfl rfl rfl rfl rfl (gV 1 (.agg #[.slice A1 es.length c1]) ad2ag26 ad2sz26) (fun w1 hw => hw.pick [2, 3] (by decide) rfl) ?_
  refine TH.takeG 8 rfl (by kernel_rfl) (by kernel_rfl) (by kernel_rfl) rfl rfl rfl rfl rfl rfl (gF ad2fld34_5) (fun w1 hw => hw.pick [2, 3] (by decide) rfl) ?_
  refine TH.takeG 9 rfl (by kernel_rfl) (by kernel_rfl) (by kernel_rfl) rfl rfl rfl rfl rfl rfl (gL 0 ad2ag3) (fun w1 hw => hw.pick [2, 3] (by decide) rfl) ?_
  refine TH.takeG 10 rfl (by kernel_rfl) (by kernel_rfl) (by kernel_rfl) rfl rfl rfl rfl rfl rfl (gF ad2fld34_4) (fun w1 hw => hw.pick [2, 3] (by decide) rfl) ?_
  refine TH.takeG 11 rfl (by kernel_rfl) (by kernel_rfl) (by kernel_rfl) rfl rfl rfl rfl rfl rfl (gL 0 ad2ag3) (fun w1 hw => hw.pick [2, 3] (by decide) rfl) ?_
  refine TH.only' 7 rfl (by kernel_rfl) rfl ?_
  refine TL.gu ?_
  refine TL.pcallPm (α := {y : (Option Addr × Nat) × List Int // y.2 = at16.map (fun r : Rs => provR es r.src r.back) ∧ y.2.length ≤ y.1.2 ∧ y.1.2 ≤ maxLen}) (fun x => .slice x.1.1.1 x.1.2.length x.1.1.2) (fun x => [.row (.slice x.1.1.1 x.1.2.length x.1.1.2) 3 1 x.1.2.length (flat (ic .i64) x.1.2)]) rfl rfl rfl rfl rfl Tryz.func82 ad2nm82 ad2bd82 (fun w1 hw => providers_any R16 rc16 at16 A1 c1 es w1 (pm_rd hw (k := 0) rfl) (by omega) (hr1.up hw.bel)) ?_
  rintro ⟨⟨⟨R24, rc24⟩, pv24⟩, hP24, hR241, hR242⟩
  dsimp only [List.cons_append, List.nil_append]
  dsimp only at hP24 hR241 hR242 ⊢
  refine zE ?_
  refine TX.held (fun w1 hw => hw.pick [3, 4] (by decide) rfl) ?_
  refine TH.only' 12 rfl (by kernel_rfl) rfl ?_
  refine TL.gu ?_
  refine TL.pcallPm (α := {b : Bool // b = true ↔ DtF (fun r : Rs => provR es r.src r.back) at16 p.prov p.at_}) (fun x => .bool x.1) (fun x => []) rfl rfl rfl rfl rfl Tryz.func81 ad2nm81 ad2bd81 (fun w1 hw => (detour_l R16 rc16 at16 R24 rc24 pv24 (fun r : Rs => provR es r.src r.back) p.prov p.at_ w1 (pm_rd hw (k := 1) rfl) (by omega) (pm_rd hw (k := 0) rfl) hP24).mono fun en w2 ⟨x, h1, h2⟩ => ⟨x, h1, (Pm.start w1).below h2⟩) ?_
  rintro ⟨bd, hbd⟩
  dsimp only [List.cons_append, List.nil_append]
  refine zE ?_
  refine TX.he (fun w1 hw => hw.pick [3, 4] (by decide) rfl) fun hS => ?_
  refine TH.t 13 rfl (gives_pick rfl rfl rfl) hS ?_
  refine TH.t 14 rfl (gives_assign rfl rfl) hS ?_
  refine TH.done (by kernel_rfl) ?_
  refine zT (zr ?_)
  exact ret_tmp Tryz.results35 rfl (fun w1 hw => ⟨⟨bd, hbd.trans ⟨fun h => ⟨hk, st13, hP13, by rw [← hP16]; exact h⟩, fun ⟨_, y, h1, h2⟩ => by rw [hP16, hP13.eq h1]; exact h2⟩⟩, rfl, hw.bel⟩)
 have hal : at16.length ≤ 100000 := by have := hP13.le; have := List.length_filter_le (fun r : Rs => r.ans && decide (r.ttl = p.ttl)) st13; rw [hP16]; unfold atL; omega
 refine TC.held (ls := #[Ff,Ff,Ff,Ff,Ff,Ff,Ff,Ff,Ff,Ff,Ff,Ff,Ff,Ff,Ff]) (Pm w [.blk g5 34 p.cells, .blk g4 26 [.slice A1 es.length c1]]) (by kernel_rfl) rfl rfl (fun w hw => hw.drawn _) ?_
 refine TH.tk 0 rfl rfl rfl (gF ad2fld34_0) (fun w1 hw => hw.pick [2, 3] (by decide) rfl) ?_
 refine TH.tk 1 rfl rfl rfl (gL 0 ad2ag3) (fun w1 hw => hw.pick [2, 3] (by decide) rfl) ?_
 refine TH.tk 2 rfl rfl rfl (gives_bin rfl rfl rfl (fun w => bin_eql_f (hk) w)) (fun w1 hw => hw.pick [2, 3] (by decide) rfl) ?_
 refine TH.tk 3 rfl rfl rfl (gives_move rfl rfl) (fun w1 hw => hw.pick [2, 3] (by decide) rfl) ?_
 refine TH.off 4 rfl (by kernel_rfl) (by kernel_rfl) (by kernel_rfl) rfl rfl rfl rfl rfl rfl rfl (fun w1 hw => hw.pick [2, 3] (by decide) rfl) ?_
 refine TH.off 5 rfl (by kernel_rfl) (by kernel_rfl) (by kernel_rfl) rfl rfl rfl rfl rfl rfl rfl (fun w1 hw => hw.pick [2, 3] (by decide) rfl) ?_
 refine TH.off 6 rfl (by kernel_rfl) (by kernel_rfl) (by kernel_rfl) rfl rfl rfl rfl rfl rfl rfl (fun w1 hw => hw.pick [2, 3] (by decide) rfl) ?_
 refine TH.off 7 rfl (by kernel_rfl) (by kernel_rfl) (by kernel_rfl) rfl rfl rfl rfl rfl rfl rfl (fun w1 hw => hw.pick [2, 3] (by decide) rfl) ?_
 refine TH.off 8 rfl (by kernel_rfl) (by kernel_rfl) (by kernel_rfl) rfl rfl rfl rfl rfl rfl rfl (fun w1 hw => hw.pick [2, 3] (by decide) rfl) ?_
 refine TH.off 9 rfl (by kernel_rfl) (by kernel_rfl) (by kernel_rfl) rfl rfl rfl rfl rfl rfl rfl (fun w1 hw => hw.pick [2, 3] (by decide) rfl) ?_
 refine TH.off 10 rfl (by kernel_rfl) (by kernel_rfl) (by kernel_rfl) rfl rfl rfl rfl rfl rfl rfl (fun w1 hw => hw.pick [2, 3] (by decide) rfl) ?_
 refine TH.off 11 rfl (by kernel_rfl) (by kernel_rfl) (by kernel_rfl) rfl rfl rfl rfl rfl rfl rfl (fun w1 hw => hw.pick [2, 3] (by decide) rfl) ?_
 refine TH.off 12 rfl (by kernel_rfl) (by kernel_rfl) (by kernel_rfl) rfl rfl rfl rfl rfl rfl rfl (fun w1 hw => hw.pick [2, 3] (by decide) rfl) ?_
 refine TH.tk 13 rfl rfl rfl (gives_pick rfl rfl rfl) (fun w1 hw => hw.pick [2, 3] (by decide) rfl) ?_
 refine TH.tk 14 rfl rfl rfl (gives_assign rfl rfl) (fun w1 hw => hw.pick [2, 3] (by decide) rfl) ?_
 refine TH.done (by kernel_rfl) ?_
 refine zT (zr ?_)
 exact ret_tmp Tryz.results35 rfl (fun w1 hw => ⟨⟨false, by simp [DtP, hk]⟩, rfl, hw.bel⟩)
open Go Go.RowKit Go.Shelf Go.Sort
def SortedI (l l' : List Int) : Prop := l'.Perm l ∧ l'.Pairwise (· ≤ ·)
theorem sortInt {b n cap : Nat} {A : Option Addr} {l : List Int} {w : World} (hr : w.ownsRow b 3 1 (.slice A n cap) n (flat (ic .i64) l)) (hl : l.length = n) (hn : n ≤ 1000000) :
    Calls Tryz.prog 124 #[.slice A n cap] w fun en w' => en = .returned (.tuple #[]) ∧ ∃ l', SortedI l l' ∧ w'.ownsRow b 3 1 (.slice A n cap) n (flat (ic .i64) l') ∧ w.grownBy w' (Value.ownBlock (.slice A n cap)) := by
  rcases id hr.2 with ⟨hv, h0⟩ | ⟨q, cap', cur, hv, hb, hq, h1, h2, h3, h4⟩
  · cases hv
    obtain rfl : l = [] := List.eq_nil_of_length_eq_zero (by omega)
    refine (AnyM.slices_Sort_int_none sortLay none 0 w).mono fun en w' ⟨h5, h6⟩ => ⟨h5, [], ⟨List.Perm.refl _, List.Pairwise.nil⟩, ?_, ?_⟩
    · rw [h6]; exact hr
    · rw [h6]; exact ⟨rfl, rfl, rfl, Nat.le_refl _, fun _ _ _ => rfl⟩
  · cases hv
    subst hl
    have hqs : q < w.heap.size := (Array.getElem?_eq_some_iff.1 hq).1
    rw [flat_ic, Nat.mul_one] at h4
    have hc := AnyM.slices_Sort_int sortLay q 0 cap l w (holds_of_blockI hq h4) hqs (by omega)
    refine Calls.mono hc ?_
    rintro en w' ⟨h5, m, os, hw⟩
    have hlen : (l.mergeSort fun x y => decide (x ≤ y)).length = l.length := List.length_mergeSort l
    refine ⟨h5, l.mergeSort fun x y => decide (x ≤ y), ⟨List.mergeSort_perm _ _, ?_⟩, ?_, ?_⟩
    · have := List.pairwise_mergeSort (le := fun x y : Int => decide (x ≤ y)) (fun a b c h1 h2 => by simp only [decide_eq_true_eq] at *; exact Int.le_trans h1 h2) (fun a b => by simp only [Bool.or_eq_true, decide_eq_true_eq]; exact Int.le_total a b) l
      exact this.imp fun h => of_decide_eq_true h
    · rw [hw, flat_ic]
      exact ownsRow_sortedI hlen hb hq h1 h2 h3
    · rw [hw]; exact grownBy_sortedI _
def eaL (l : List Rs) (t : Int) : List Int := (l.filter fun r => decide (r.back < t)).map fun r => r.back - r.at_
def laL (l : List Rs) (t : Int) : List Int := (l.filter fun r => !decide (r.back < t) && decide (t ≤ r.at_)).map fun r => r.back - r.at_
section
variable {l : List Rs} {t : Int} {i : Nat} {x : Rs} {o : List Int}
theorem ea_t (hx : l[i]? = some x) (h : x.back < t) (ho : eaL (l.take i) t = o) : eaL (l.take (i + 1)) t = o ++ [x.back - x.at_] := by
  unfold eaL at ho ⊢
  rw [List.take_add_one, hx, List.filter_append, List.map_append, ho]
  simp [h]
theorem ea_f (hx : l[i]? = some x) (h : ¬ x.back < t) (ho : eaL (l.take i) t = o) : eaL (l.take (i + 1)) t = o := by
  unfold eaL at ho ⊢
  rw [List.take_add_one, hx, List.filter_append, List.map_append, ho]
  simp [h]
theorem la_t (hx : l[i]? = some x) (h : ¬ x.back < t) (h2 : x.at_ ≥ t) (ho : laL (l.take i) t = o) : laL (l.take (i + 1)) t = o ++ [x.back - x.at_] := by
  unfold laL at ho ⊢
  rw [List.take_add_one, hx, List.filter_append, List.map_append, ho]
  have : t ≤ x.at_ := h2
  simp [h, this]
theorem la_f (hx : l[i]? = some x) (h : x.back < t ∨ ¬ x.at_ ≥ t) (ho : laL (l.take i) t = o) : laL (l.take (i + 1)) t = o := by
  unfold laL at ho ⊢
  rw [List.take_add_one, hx, List.filter_append, List.map_append, ho]
  rcases h with h | h
  · simp [h]
  · have : ¬ t ≤ x.at_ := h
    simp [this]
theorem ea_mem {z : Int} (h : z ∈ eaL l t) : ∃ r ∈ l, z = r.back - r.at_ := by
  obtain ⟨r, hr, rfl⟩ := List.mem_map.1 h
  exact ⟨r, (List.mem_filter.1 hr).1, rfl⟩
theorem la_mem {z : Int} (h : z ∈ laL l t) : ∃ r ∈ l, z = r.back - r.at_ := by
  obtain ⟨r, hr, rfl⟩ := List.mem_map.1 h
  exact ⟨r, (List.mem_filter.1 hr).1, rfl⟩
end
theorem cnt_low {s : List Int} (hs : s.Pairwise (· ≤ ·)) {k : Nat} {v e : Int} (hv : s[k]? = some v) : k + 1 ≤ (s.filter fun z => decide (z ≤ e)).length ↔ v ≤ e := by
  obtain ⟨hk, hg⟩ := List.getElem?_eq_some_iff.1 hv
  have hsp : (s.filter fun z => decide (z ≤ e)) = ((s.take k).filter fun z => decide (z ≤ e)) ++ ((s.drop k).filter fun z => decide (z ≤ e)) := by rw [← List.filter_append, List.take_append_drop]
  have hd : s.drop k = v :: s.drop (k + 1) := by rw [List.drop_eq_getElem_cons hk, hg]
  have hp := List.pairwise_append.1 (by rw [List.take_append_drop]; exact hs : (s.take k ++ s.drop k).Pairwise (· ≤ ·))
  constructor
  · intro h
    refine Decidable.by_contra fun hn => ?_
    have h0 : ((s.drop k).filter fun z => decide (z ≤ e)) = [] := List.filter_eq_nil_iff.2 fun z hz => by
      rw [hd] at hz
      have : v ≤ z := by
        rcases List.mem_cons.1 hz with h1 | h1
        · rw [h1]; exact Int.le_refl _
        · have := hp.2.1
          rw [hd] at this
          exact (List.pairwise_cons.1 this).1 z h1
      simp; omega
    have h1 := List.length_filter_le (fun z => decide (z ≤ e)) (s.take k)
    rw [hsp, h0, List.append_nil] at h
    rw [List.length_take] at h1
    omega
  · intro h
    have h0 : ((s.take k).filter fun z => decide (z ≤ e)) = s.take k := List.filter_eq_self.2 fun z hz => by
      have := hp.2.2 z hz v (by rw [hd]; exact List.mem_cons_self)
      simp; omega
    rw [hsp, h0, hd, List.filter_cons_of_pos (by simpa using h), List.length_append, List.length_take, List.length_cons]
    omega
theorem cnt_high {s : List Int} (hs : s.Pairwise (· ≤ ·)) {k : Nat} {v e : Int} (hv : s[k]? = some v) : s.length - k ≤ (s.filter fun z => decide (e ≤ z)).length ↔ e ≤ v := by
  obtain ⟨hk, hg⟩ := List.getElem?_eq_some_iff.1 hv
  have hsp : (s.filter fun z => decide (e ≤ z)) = ((s.take (k + 1)).filter fun z => decide (e ≤ z)) ++ ((s.drop (k + 1)).filter fun z => decide (e ≤ z)) := by rw [← List.filter_append, List.take_append_drop]
  have ht : s.take (k + 1) = s.take k ++ [v] := by rw [List.take_add_one, hv]; rfl
  have hp := List.pairwise_append.1 (by rw [List.take_append_drop]; exact hs : (s.take (k + 1) ++ s.drop (k + 1)).Pairwise (· ≤ ·))
  constructor
  · intro h
    refine Decidable.by_contra fun hn => ?_
    have h0 : ((s.take (k + 1)).filter fun z => decide (e ≤ z)) = [] := List.filter_eq_nil_iff.2 fun z hz => by
      have : z ≤ v := by
        rw [ht] at hz
        rcases List.mem_append.1 hz with h1 | h1
        · have := hp.1
          rw [ht] at this
          exact (List.pairwise_append.1 this).2.2 z h1 v (List.mem_singleton.2 rfl)
        · rw [List.mem_singleton.1 h1]; exact Int.le_refl _
      simp; omega
    have h1 := List.length_filter_le (fun z => decide (e ≤ z)) (s.drop (k + 1))
    rw [hsp, h0, List.nil_append] at h
    rw [List.length_drop] at h1
    omega
  · intro h
    have h0 : ((s.drop (k + 1)).filter fun z => decide (e ≤ z)) = s.drop (k + 1) := List.filter_eq_self.2 fun z hz => by
      have := hp.2.2 v (by rw [ht]; exact List.mem_append_right _ (List.mem_singleton.2 rfl)) z hz
      simp; omega
    rw [hsp, h0, ht, List.filter_append, List.filter_cons_of_pos (by simpa using h), List.length_append, List.length_append, List.length_drop, List.length_cons]
    omega
def CgF (ea la : List Int) (prb gro : Int) : Prop := ∃ e ∈ ea, prb ≤ ((ea.filter fun z => decide (z ≤ e)).length : Int) ∧ prb ≤ ((la.filter fun z => decide (gro ≤ z - e)).length : Int)
theorem cg_short {ea la : List Int} {prb gro : Int} (h : (ea.length : Int) < prb ∨ (la.length : Int) < prb) : ¬ CgF ea la prb gro := by
  rintro ⟨e, _, h1, h2⟩
  have h3 := List.length_filter_le (fun z => decide (z ≤ e)) ea
  have h4 := List.length_filter_le (fun z => decide (gro ≤ z - e)) la
  omega
theorem cg_iff {ea la sE sL : List Int} {K : Nat} {prb gro e0 b0 : Int} (hE : SortedI ea sE) (hL : SortedI la sL) (hK : prb = K) (h1 : 1 ≤ K) (h2 : K ≤ la.length) (he : sE[K - 1]? = some e0) (hb : sL[la.length - K]? = some b0) : CgF ea la prb gro ↔ b0 - e0 ≥ gro := by
  subst hK
  have hlE : ∀ e, (ea.filter fun z => decide (z ≤ e)).length = (sE.filter fun z => decide (z ≤ e)).length := fun e => ((hE.1.filter _).length_eq).symm
  have hf : ∀ e, (la.filter fun z => decide (gro ≤ z - e)).length = (sL.filter fun z => decide (gro + e ≤ z)).length := fun e => by
    rw [← (hL.1.filter _).length_eq]
    congr 2; funext z; congr 1; rw [eq_iff_iff]; omega
  have hn : sL.length = la.length := hL.1.length_eq
  have hi : ∀ e, K ≤ (sE.filter fun z => decide (z ≤ e)).length ↔ e0 ≤ e := fun e => by
    have := cnt_low hE.2 (e := e) he
    rw [show K - 1 + 1 = K by omega] at this; exact this
  have hj : ∀ e, K ≤ (sL.filter fun z => decide (gro + e ≤ z)).length ↔ gro + e ≤ b0 := fun e => by
    have := cnt_high hL.2 (e := gro + e) hb
    rw [hn, show la.length - (la.length - K) = K by omega] at this; exact this
  constructor
  · rintro ⟨e, _, h3, h4⟩
    rw [hlE] at h3
    rw [hf] at h4
    have := (hi e).1 (by omega)
    have := (hj e).1 (by omega)
    omega
  · intro h
    refine ⟨e0, hE.1.mem_iff.1 (List.mem_of_getElem? he), ?_, ?_⟩
    · rw [hlE]; have := (hi e0).2 (Int.le_refl _); omega
    · rw [hf]; have := (hj e0).2 (by omega); omega
set_option maxRecDepth 20000
theorem congestion_l (A0 : Option Addr) (c0 : Nat) (l : List Rs) (u : Ru) (t : Int) (w : World) (hr : Reads w w.heap.size 17 A0 l.length (flat Rs.cells l)) (hl1 : l.length ≤ 100000) (hin : ∀ r ∈ l, r.inRange) :
  Calls Tryz.prog 76 #[.slice A0 l.length c0, .agg u.cells.toArray, .int .i64 t] w fun e w' => ∃ x : {b : Bool // b = true ↔ u.prb < 1 ∨ CgF (eaL l t) (laL l t) u.prb u.gro}, e = .returned (.bool x.1) ∧ Below w.heap.size w w' := by
 refine begin_ (vs := [.slice A0 l.length c0, .agg u.cells.toArray, .int .i64 t]) Tryz.func76 rfl rfl rfl ?_ (Pm.start w)
 refine zSG ?_
 refine TL.pnew rfl rfl rfl (exec_box (cs := u.cells) rfl rfl rfl) (fun g4 => ?_)
 refine TL.as_ ?_
 refine zET (zS (zSG (TL.v (gF arpfld28_2) ?_)))
 refine TL.v (gL 0 pcmag3) ?_
 refine TL.sp bin_lss (fun q13 => ?_) (fun q13 => ?_)
 ·refine zET (zc (zSG (TL.as_ ?_)))
  refine zET (zr (zR ?_))
  have hres : true = true ↔ u.prb < 1 ∨ CgF (eaL l t) (laL l t) u.prb u.gro := ⟨fun _ => .inl q13, fun _ => rfl⟩
  exact ret_tmp Tryz.results76 rfl (fun w1 hw => ⟨⟨true, hres⟩, rfl, hw.bel⟩)
 refine zET (zd (zk (zT (zSG (TL.rn 2 rfl (zET (zS (zSG (TL.mv ?_)))))))))
 refine TL.v (gN Tryz.underlying23) ?_
 refine TL.mv ?_
 refine zET (zB (TC.nilrow 3 1 ?_))
 refine TC.nilrow 3 1 ?_
 refine TC.loop_ (α := {y : Nat × (Option Addr × Nat) × (Option Addr × Nat) × List Int × List Int // y.1 ≤ l.length ∧ eaL (l.take y.1) t = y.2.2.2.1 ∧ laL (l.take y.1) t = y.2.2.2.2 ∧ y.2.2.2.1.length ≤ y.1 ∧ y.2.2.2.2.length ≤ y.1 ∧ y.2.2.2.1.length ≤ y.2.1.2 ∧ y.2.1.2 ≤ maxLen ∧ y.2.2.2.2.length ≤ y.2.2.1.2 ∧ y.2.2.1.2 ≤ maxLen}) (fun y => [(2, .int .i64 t), (4, .pointer (some ⟨g4, 0, none⟩)), (14, .slice A0 l.length c0), (15, .int .i64 (l.length : Nat)), (16, .int .i64 ((y.1.1 : Nat) : Int)), (7, .slice y.1.2.1.1 y.1.2.2.2.1.length y.1.2.1.2), (8, .slice y.1.2.2.1.1 y.1.2.2.2.2.length y.1.2.2.1.2)]) (fun y => Pm w [.row (.slice y.1.2.1.1 y.1.2.2.2.1.length y.1.2.1.2) 3 1 y.1.2.2.2.1.length (flat (ic .i64) y.1.2.2.2.1), .row (.slice y.1.2.2.1.1 y.1.2.2.2.2.length y.1.2.2.1.2) 3 1 y.1.2.2.2.2.length (flat (ic .i64) y.1.2.2.2.2), .blk g4 28 u.cells]) (fun y => l.length - y.1.1) (⟨(0, (none, 0), (none, 0), [], []), Nat.zero_le _, rfl, rfl, Nat.le_refl _, Nat.le_refl _, Nat.le_refl _, Nat.zero_le _, Nat.le_refl _, Nat.zero_le _⟩) ⟨rfl, rfl, rfl, rfl, rfl, rfl, rfl, trivial⟩ (fun w1 hw => hw) ?_
 rintro ⟨⟨i, ⟨Ae, ce⟩, ⟨Al, cl⟩, ea, la⟩, hi, hE, hL, hel, hll, hc1, hc2, hc3, hc4⟩
 dsimp only at hi hE hL hel hll hc1 hc2 hc3 hc4 ⊢
 refine zSG ?_
 refine TL.sp bin_lss (fun q17 => ?_) (fun q17 => ?_)
 ·refine zET (zS (zc (zk (zT (zS (zB (zSG ?_)))))))
  have hi18 : i < l.length := by omega
  obtain ⟨x18, hx18⟩ := ex_at hi18
  obtain ⟨b18, o18, hA18, hbb18, hc18⟩ := hr.ad (by omega) (by decide)
  have hin18 := hin x18 (List.mem_of_getElem? hx18)
  unfold Rs.inRange at hin18
  refine TL.val rfl rfl rfl (gA (i := i) Tryz.underlying23 prssz65 rfl rfl rfl rfl hA18 (by omega)) ?_
  refine TL.v (gR rs_cel prsag65 prssz65 hbb18 hx18 hc18) ?_
  refine TL.pnew rfl rfl rfl (exec_alloc (cs := [.int .i64 0, .int .i64 0, .int .i64 0, .int .i64 0, .int .u32 0, .int .i64 0, .int .i64 0, .int .i64 0, .bool false, .bool false, .int .i64 0, .int .u32 0, .int .i64 0, .int .i64 0, .int .i64 0, .int .i64 0, .int .i64 0]) rfl arpzv65 rfl) (fun g10 => ?_)
  refine TL.pstore (k := 0) (vs := x18.cells) rfl rfl rfl rfl rfl rfl rfl prssz65 (rs_cel.one _) (by show 17 ≤ 17; decide) (L' := [.blk g10 65 x18.cells, .row (.slice Ae ea.length ce) 3 1 ea.length (flat (ic .i64) ea), .row (.slice Al la.length cl) 3 1 la.length (flat (ic .i64) la), .blk g4 28 u.cells]) rfl ?_
  refine zET (zB (zSG (TL.v (gF prsfld65_10) ?_)))
  refine TL.v (gL 0 pcmag3) ?_
  refine TL.mv ?_
  refine TL.sp bin_lss (fun q24 => ?_) (fun q24 => ?_)
  ·refine TL.as_ ?_
   refine zET (zc (zG (TL.mv ?_)))
   refine TL.v (gF prsfld65_10) ?_
   refine TL.v (gL 0 pcmag3) ?_
   refine TL.v (gF prsfld65_3) ?_
   refine TL.v (gL 0 pcmag3) ?_
   refine TL.val rfl rfl rfl (gives_bin rfl rfl rfl (fun w => bin_sub_ (r := x18.back - x18.at_) (by simp only [IntKind.wrap_i64]; omega) w)) ?_
   refine TL.prowS (e := 3) (size := 1) (cs := flat (ic .i64) [x18.back - x18.at_]) rfl rfl rfl rfl rfl (fun w => adtbs106_1_5377 _ w) (by decide) rfl (fun g31 => ?_)
   refine TL.appendT (k := 2) rfl rfl rfl rfl Tryz.underlying106 adtel106 rfl rfl rfl (fun w1 hw => pm_reads hw (k := 0) rfl) (flat_one (ic_cel .i64) _) (by show _ * 8 ≤ _; omega) ((ea ++ [x18.back - x18.at_]).length) (by rw [List.length_append]; rfl) (flat (ic .i64) (ea ++ [x18.back - x18.at_])) ((flat_app _ _).symm) (fun A32 c32 hA321 hA322 => ?_)
   refine TL.as_ ?_
   refine zE (zN (zN (zT (zG (TL.v (gD ((i + 1 : Nat) : Int)) ?_)))))
   refine TL.mv ?_
   refine zE ?_
   exact TX.round (⟨(i + 1, (A32, c32), (Al, cl), ea ++ [x18.back - x18.at_], la), by dsimp only; omega, ea_t hx18 q24 hE, la_f hx18 (.inl q24) hL, by dsimp only; rw [List.length_append]; show ea.length + 1 ≤ _; omega, by dsimp only; omega, hA321, hA322, hc3, hc4⟩) (by show l.length - (i + 1) < l.length - i; omega) ⟨rfl, rfl, rfl, rfl, rfl, rfl, rfl, trivial⟩ (fun w1 hw => hw.pick [2, 3, 4] (by decide) rfl)
  refine TL.as_ ?_
  refine zET (zd (zSG (TL.v (gF prsfld65_3) ?_)))
  refine TL.v (gL 0 pcmag3) ?_
  refine TL.mv ?_
  refine TL.sp bin_geq (fun q37 => ?_) (fun q37 => ?_)
  ·refine TL.as_ ?_
   refine zET (zc (zG (TL.mv ?_)))
   refine TL.v (gF prsfld65_10) ?_
   refine TL.v (gL 0 pcmag3) ?_
   refine TL.v (gF prsfld65_3) ?_
   refine TL.v (gL 0 pcmag3) ?_
   refine TL.val rfl rfl rfl (gives_bin rfl rfl rfl (fun w => bin_sub_ (r := x18.back - x18.at_) (by simp only [IntKind.wrap_i64]; omega) w)) ?_
   refine TL.prowS (e := 3) (size := 1) (cs := flat (ic .i64) [x18.back - x18.at_]) rfl rfl rfl rfl rfl (fun w => adtbs106_1_5377 _ w) (by decide) rfl (fun g44 => ?_)
   refine TL.appendT (k := 3) rfl rfl rfl rfl Tryz.underlying106 adtel106 rfl rfl rfl (fun w1 hw => pm_reads hw (k := 0) rfl) (flat_one (ic_cel .i64) _) (by show _ * 8 ≤ _; omega) ((la ++ [x18.back - x18.at_]).length) (by rw [List.length_append]; rfl) (flat (ic .i64) (la ++ [x18.back - x18.at_])) ((flat_app _ _).symm) (fun A45 c45 hA451 hA452 => ?_)
   refine TL.as_ ?_
   refine zE (zN (zN (zT (zG (TL.v (gD ((i + 1 : Nat) : Int)) ?_)))))
   refine TL.mv ?_
   refine zE ?_
   exact TX.round (⟨(i + 1, (Ae, ce), (A45, c45), ea, la ++ [x18.back - x18.at_]), by dsimp only; omega, ea_f hx18 q24 hE, la_t hx18 q24 q37 hL, by dsimp only; omega, by dsimp only; rw [List.length_append]; show la.length + 1 ≤ _; omega, hc1, hc2, hA451, hA452⟩) (by show l.length - (i + 1) < l.length - i; omega) ⟨rfl, rfl, rfl, rfl, rfl, rfl, rfl, trivial⟩ (fun w1 hw => hw.pick [2, 3, 4] (by decide) rfl)
  refine TL.as_ ?_
  refine zET (zd (zk (zN (zN (zT (zG (TL.v (gD ((i + 1 : Nat) : Int)) ?_)))))))
  refine TL.mv ?_
  refine zE ?_
  exact TX.round (⟨(i + 1, (Ae, ce), (Al, cl), ea, la), by dsimp only; omega, ea_f hx18 q24 hE, la_f hx18 (.inr q37) hL, by dsimp only; omega, by dsimp only; omega, hc1, hc2, hc3, hc4⟩) (by show l.length - (i + 1) < l.length - i; omega) ⟨rfl, rfl, rfl, rfl, rfl, rfl, rfl, trivial⟩ (fun w1 hw => hw.pick [1, 2, 3] (by decide) rfl)
 refine zET (zS (zd (zx (zX (zX (zM (zT (zS (zS ?_)))))))))
 have hE2 : eaL l t = ea := by rw [List.take_of_length_le (by omega)] at hE; exact hE
 have hL2 : laL l t = la := by rw [List.take_of_length_le (by omega)] at hL; exact hL
 refine zG (TL.mv ?_)
 refine TL.v (gN Tryz.underlying106) ?_
 refine TL.v (gF arpfld28_2) ?_
 refine TL.v (gL 2 pcmag3) ?_
 refine TL.sp bin_lss (fun q51 => ?_) (fun q51 => ?_)
 ·refine TL.rn 7 rfl (zET (zc (zSG (TL.as_ ?_))))
  refine zET (zr (zR ?_))
  have hres : false = true ↔ u.prb < 1 ∨ CgF (eaL l t) (laL l t) u.prb u.gro := ⟨fun h => (by cases h), fun h => absurd h (by rintro (h | h); exact q13 h; rw [hE2, hL2] at h; exact cg_short (by omega) h)⟩
  exact ret_tmp Tryz.results76 rfl (fun w1 hw => ⟨⟨false, hres⟩, rfl, hw.bel⟩)
 refine TL.rn 2 rfl (TL.ov (gN Tryz.underlying106) ?_)
 refine TL.ov (gF arpfld28_2) ?_
 refine TL.ov (gL 2 pcmag3) ?_
 refine TL.gu ?_
 refine TL.sp bin_lss (fun q57 => ?_) (fun q57 => ?_)
 ·refine TL.pk ?_
  refine zET (zc (zSG (TL.as_ ?_)))
  refine zET (zr (zR ?_))
  have hres : false = true ↔ u.prb < 1 ∨ CgF (eaL l t) (laL l t) u.prb u.gro := ⟨fun h => (by cases h), fun h => absurd h (by rintro (h | h); exact q13 h; rw [hE2, hL2] at h; exact cg_short (by omega) h)⟩
  exact ret_tmp Tryz.results76 rfl (fun w1 hw => ⟨⟨false, hres⟩, rfl, hw.bel⟩)
 refine TL.pk ?_
 refine zET (zd (zk (zT (zSG (TL.mv ?_)))))
 refine TL.turnRowD (k := 0) (fun ys => SortedI ea ys) rfl rfl rfl rfl rfl Tryz.func124 (by decide) rfl rfl (fun w1 hw hr9 => sortInt hr9 rfl (by omega)) (fun sE hsE => ?_)
 try dsimp only [List.set_cons_zero, List.set_cons_succ]
 have hsEl : sE.length = ea.length := hsE.1.length_eq
 refine zET (zSG (TL.mv ?_))
 refine TL.turnRowD (k := 1) (fun ys => SortedI la ys) rfl rfl rfl rfl rfl Tryz.func124 (by decide) rfl rfl (fun w1 hw hr9 => sortInt hr9 rfl (by omega)) (fun sL hsL => ?_)
 try dsimp only [List.set_cons_zero, List.set_cons_succ]
 have hsLl : sL.length = la.length := hsL.1.length_eq
 refine zET (zS ?_)
 obtain ⟨K, hK⟩ : ∃ K : Nat, u.prb = K := ⟨u.prb.toNat, by omega⟩
 have hbsE : ∀ z ∈ sE, 0 ≤ z ∧ z ≤ 2251799813685248 := fun z hz => by
  obtain ⟨r, hr1, rfl⟩ := ea_mem (by rw [hE2]; exact hsE.1.mem_iff.1 hz)
  have := hin r hr1
  unfold Rs.inRange at this
  omega
 have hbsL : ∀ z ∈ sL, 0 ≤ z ∧ z ≤ 2251799813685248 := fun z hz => by
  obtain ⟨r, hr1, rfl⟩ := la_mem (by rw [hL2]; exact hsL.1.mem_iff.1 hz)
  have := hin r hr1
  unfold Rs.inRange at this
  omega
 refine TC.fact (p := ∃ g, Al = some ⟨g, 0, none⟩) (fun w1 hw => rowA hw (k := 1) rfl (by omega)) ?_
 rintro ⟨g_Al, rfl⟩
 refine TC.fact (p := ∃ g, Ae = some ⟨g, 0, none⟩) (fun w1 hw => rowA hw (k := 0) rfl (by omega)) ?_
 rintro ⟨g_Ae, rfl⟩
 refine TC.quietQ (by kernel_rfl) (by kernel_rfl) (fun w hw => hw.drawn _) ?_
 refine TQ.rn 2 rfl (TQ.v (gN Tryz.underlying106) ?_)
 refine TQ.v (gF arpfld28_2) ?_
 refine TQ.v (gL 2 pcmag3) ?_
 refine TQ.val rfl rfl rfl (gives_bin rfl rfl rfl (fun w => bin_sub_ (r := ((la.length - K : Nat) : Int)) (by simp only [IntKind.wrap_i64]; omega) w)) ?_
 have hi69 : la.length - K < sL.length := by omega
 obtain ⟨x69, hx69⟩ := ex_at hi69
 have hvx69 := hbsL x69 (List.mem_of_getElem? hx69)
 refine TQ.val rfl rfl rfl (gA (i := (la.length - K)) Tryz.underlying106 pcmsz3 rfl rfl rfl rfl rfl (by omega)) ?_
 refine TQ.val rfl rfl rfl (gives_load (v := .int .i64 x69) rfl rfl pcmag3 (fun w1 hw => flat_row (ic_cel .i64) hw (q := 1) rfl hx69 0 _ rfl)) ?_
 refine TQ.val rfl rfl rfl (gives_move rfl rfl) ?_
 refine TQ.v (gF arpfld28_2) ?_
 refine TQ.v (gL 2 pcmag3) ?_
 refine TQ.val rfl rfl rfl (gives_bin rfl rfl rfl (fun w => bin_sub_ (r := ((K - 1 : Nat) : Int)) (by simp only [IntKind.wrap_i64]; omega) w)) ?_
 have hi75 : K - 1 < sE.length := by omega
 obtain ⟨x75, hx75⟩ := ex_at hi75
 have hvx75 := hbsE x75 (List.mem_of_getElem? hx75)
 refine TQ.val rfl rfl rfl (gA (i := (K - 1)) Tryz.underlying106 pcmsz3 rfl rfl rfl rfl rfl (by omega)) ?_
 refine TQ.val rfl rfl rfl (gives_load (v := .int .i64 x75) rfl rfl pcmag3 (fun w1 hw => flat_row (ic_cel .i64) hw (q := 0) rfl hx75 0 _ rfl)) ?_
 refine TQ.val rfl rfl rfl (gives_bin rfl rfl rfl (fun w => bin_sub_ (r := x69 - x75) (by simp only [IntKind.wrap_i64]; omega) w)) ?_
 refine TQ.v (gF arpfld28_1) ?_
 refine TQ.v (gL 2 pcmag3) ?_
 refine TQ.sp bin_geq (fun q80 => ?_) (fun q80 => ?_)
 ·refine TQ.val rfl rfl rfl (gives_assign rfl rfl) ?_
  refine TQ.fin ?_
  refine zT (zr ?_)
  have hres : true = true ↔ u.prb < 1 ∨ CgF (eaL l t) (laL l t) u.prb u.gro := ⟨fun _ => .inr (by rw [hE2, hL2]; exact (cg_iff hsE hsL hK (by omega) (by omega) hx75 hx69).2 q80), fun _ => rfl⟩
  exact ret_tmp Tryz.results76 rfl (fun w1 hw => ⟨⟨true, hres⟩, rfl, hw.bel⟩)
 refine TQ.val rfl rfl rfl (gives_assign rfl rfl) ?_
 refine TQ.fin ?_
 refine zT (zr ?_)
 have hres : false = true ↔ u.prb < 1 ∨ CgF (eaL l t) (laL l t) u.prb u.gro := ⟨fun h => (by cases h), fun h => absurd h (by rintro (h | h); exact q13 h; rw [hE2, hL2] at h; exact q80 ((cg_iff hsE hsL hK (by omega) (by omega) hx75 hx69).1 h))⟩
 exact ret_tmp Tryz.results76 rfl (fun w1 hw => ⟨⟨false, hres⟩, rfl, hw.bel⟩)
set_option maxRecDepth 20000
def CgP (l : List Rs) (u : Ru) (p : Rp) : Prop := p.kind = 3 ∧ (u.prb < 1 ∨ ∃ y, IsSt l p.trc p.flow y ∧ CgF (eaL (atL y p.ttl) p.at_) (laL (atL y p.ttl) p.at_) u.prb u.gro)
theorem IsSt.in_ {l y : List Rs} {t : Trc} {flow : Int} (h : IsSt l t flow y) (ttl : Int) : ∀ r ∈ atL y ttl, r.inRange := fun r hr => by
 obtain ⟨x, h1, rfl⟩ := h
 have h2 := (List.mem_filter.1 (List.mem_filter.1 hr).1).2
 unfold usbRs at h2
 simp only [Bool.and_eq_true] at h2
 exact vld_in h2.1.2
theorem ac2fld34_0 (g o : Nat) (w : World) : (Instr.fieldAt 34 (.pointer (some ⟨g, o, none⟩)) 0).run Tryz.prog w = .ok (.pointer (some ⟨g, o + 0, none⟩)) w := by kernel_rfl
theorem ac2ag3 (w : World) : (isAgg 3).run Tryz.prog w = .ok false w := rfl
theorem ac2fld34_1 (g o : Nat) (w : World) : (Instr.fieldAt 34 (.pointer (some ⟨g, o, none⟩)) 1).run Tryz.prog w = .ok (.pointer (some ⟨g, o + 1, none⟩)) w := by kernel_rfl
theorem ac2ag32 (w : World) : (isAgg 32).run Tryz.prog w = .ok true w := rfl
theorem ac2sz32 (w : World) : (sizeOf 32).run Tryz.prog w = .ok 3 w := rfl
theorem ac2fld34_2 (g o : Nat) (w : World) : (Instr.fieldAt 34 (.pointer (some ⟨g, o, none⟩)) 2).run Tryz.prog w = .ok (.pointer (some ⟨g, o + 4, none⟩)) w := by kernel_rfl
theorem ac2fld34_3 (g o : Nat) (w : World) : (Instr.fieldAt 34 (.pointer (some ⟨g, o, none⟩)) 3).run Tryz.prog w = .ok (.pointer (some ⟨g, o + 5, none⟩)) w := by kernel_rfl
theorem ac2ag28 (w : World) : (isAgg 28).run Tryz.prog w = .ok true w := rfl
theorem ac2sz28 (w : World) : (sizeOf 28).run Tryz.prog w = .ok 3 w := rfl
theorem ac2fld34_4 (g o : Nat) (w : World) : (Instr.fieldAt 34 (.pointer (some ⟨g, o, none⟩)) 4).run Tryz.prog w = .ok (.pointer (some ⟨g, o + 6, none⟩)) w := by kernel_rfl
theorem ac2nm73 : (Tryz.f73.name == "runtime.NumGoroutine") = false := by decide
theorem ac2bd73 : Tryz.f73.body.isNone = false := rfl
theorem ac2nm77 : (Tryz.f77.name == "runtime.NumGoroutine") = false := by decide
theorem ac2bd77 : Tryz.f77.body.isNone = false := rfl
theorem ac2nm76 : (Tryz.f76.name == "runtime.NumGoroutine") = false := by decide
theorem ac2bd76 : Tryz.f76.body.isNone = false := rfl
theorem congestion_any (A0 : Option Addr) (c0 : Nat) (l : List Rs) (u : Ru) (p : Rp) (w : World) (hr : Reads w w.heap.size 17 A0 l.length (flat Rs.cells l)) (hl1 : l.length ≤ 100000) (hok : ∀ r ∈ l, r.Ok) :
  Calls Tryz.prog 31 #[.slice A0 l.length c0, .agg u.cells.toArray, .agg p.cells.toArray] w fun e w' => ∃ x : {b : Bool // b = true ↔ CgP l u p}, e = .returned (.bool x.1) ∧ Below w.heap.size w w' := by
 refine begin_ (vs := [.slice A0 l.length c0, .agg u.cells.toArray, .agg p.cells.toArray]) Tryz.func31 rfl rfl rfl ?_ (Pm.start w)
 refine zSG ?_
 refine TL.pnew rfl rfl rfl (exec_box (cs := u.cells) rfl rfl rfl) (fun g4 => ?_)
 refine TL.pnew rfl rfl rfl (exec_box (cs := p.cells) rfl rfl rfl) (fun g5 => ?_)
 refine TL.as_ ?_
 refine zET (zS ?_)
 by_cases hk : p.kind = 3
 ·refine TC.held (ls := #[Ff,Ff,Ff,Ff,Ff,Ff,Ff,Ff,Ff,Ff,Ff,Ff,Ff,Ff,Ff,Ff,Ff,Ff,Ff]) (Pm w [.blk g5 34 p.cells, .blk g4 28 u.cells]) (by kernel_rfl) rfl rfl (fun w hw => hw.drawn _) ?_
  refine TH.tk 0 rfl rfl rfl (gF ac2fld34_0) (fun w1 hw => hw) ?_
  refine TH.tk 1 rfl rfl rfl (gL 0 ac2ag3) (fun w1 hw => hw) ?_
  refine TH.tk 2 rfl rfl rfl (gives_bin rfl rfl rfl (fun w => bin_eql_t (hk) w)) (fun w1 hw => hw) ?_
  refine TH.tk 3 rfl rfl rfl (gives_move rfl rfl) (fun w1 hw => hw) ?_
  refine TH.takeG 4 rfl (by kernel_rfl) (by kernel_rfl) (by kernel_rfl) rfl rfl rfl rfl rfl rfl (gives_move rfl rfl) (fun w1 hw => hw) ?_
  refine TH.takeG 5 rfl (by kernel_rfl) (by kernel_rfl) (by kernel_rfl) rfl rfl rfl rfl rfl rfl (gF ac2fld34_1) (fun w1 hw => hw) ?_
  refine TH.takeG 6 rfl (by kernel_rfl) (by kernel_rfl) (by kernel_rfl) rfl rfl rfl rfl rfl rfl (gV 0 (.agg #[.int .i64 p.v, .int .u32 p.dst, .int .i64 p.proto]) ac2ag32 ac2sz32) (fun w1 hw => hw) ?_
  refine TH.takeG 7 rfl (by kernel_rfl) (by kernel_rfl) (by kernel_rfl) rfl rfl rfl rfl rfl rfl (gF ac2fld34_2) (fun w1 hw => hw) ?_
  refine TH.takeG 8 rfl (by kernel_rfl) (by kernel_rfl) (by kernel_rfl) rfl rfl rfl rfl rfl rfl (gL 0 ac2ag3) (fun w1 hw => hw) ?_
  refine TH.takeG 10 rfl (by kernel_rfl) (by kernel_rfl) (by kernel_rfl) rfl rfl rfl rfl rfl rfl (gF ac2fld34_3) (fun w1 hw => hw) ?_
  refine TH.takeG 11 rfl (by kernel_rfl) (by kernel_rfl) (by kernel_rfl) rfl rfl rfl rfl rfl rfl (gL 0 ac2ag3) (fun w1 hw => hw) ?_
  refine TH.takeG 13 rfl (by kernel_rfl) (by kernel_rfl) (by kernel_rfl) rfl rfl rfl rfl rfl rfl (gV 1 (.agg (u.cells).toArray) ac2ag28 ac2sz28) (fun w1 hw => hw) ?_
  refine TH.takeG 14 rfl (by kernel_rfl) (by kernel_rfl) (by kernel_rfl) rfl rfl rfl rfl rfl rfl (gF ac2fld34_4) (fun w1 hw => hw) ?_
  refine TH.takeG 15 rfl (by kernel_rfl) (by kernel_rfl) (by kernel_rfl) rfl rfl rfl rfl rfl rfl (gL 0 ac2ag3) (fun w1 hw => hw) ?_
  refine TH.only' 9 rfl (by kernel_rfl) rfl ?_
  refine TL.gu ?_
  refine TL.pcallPm (α := {y : (Option Addr × Nat) × List Rs // IsSt l p.trc p.flow y.2 ∧ y.2.length ≤ y.1.2 ∧ y.1.2 ≤ maxLen}) (fun x => .slice x.1.1.1 x.1.2.length x.1.1.2) (fun x => [.row (.slice x.1.1.1 x.1.2.length x.1.1.2) 65 17 x.1.2.length (flat Rs.cells x.1.2)]) rfl rfl rfl rfl rfl Tryz.func73 ac2nm73 ac2bd73 (fun w1 hw => stream_any A0 c0 l p.trc p.flow w1 (hr.up hw.bel) hl1 hok) ?_
  rintro ⟨⟨⟨R16, rc16⟩, st16⟩, hP16, hR161, hR162⟩
  dsimp only [List.cons_append, List.nil_append]
  dsimp only at hP16 hR161 hR162 ⊢
  refine zE ?_
  refine TX.held (fun w1 hw => hw.pick [1, 2] (by decide) rfl) ?_
  refine TH.only' 12 rfl (by kernel_rfl) rfl ?_
  refine TL.gu ?_
  refine TL.pcallPm (α := {y : (Option Addr × Nat) × List Rs // y.2 = atL st16 p.ttl ∧ y.2.length ≤ y.1.2 ∧ y.1.2 ≤ maxLen}) (fun x => .slice x.1.1.1 x.1.2.length x.1.1.2) (fun x => [.row (.slice x.1.1.1 x.1.2.length x.1.1.2) 65 17 x.1.2.length (flat Rs.cells x.1.2)]) rfl rfl rfl rfl rfl Tryz.func77 ac2nm77 ac2bd77 (fun w1 hw => atl_any R16 rc16 st16 p.ttl w1 (pm_rd hw (k := 0) rfl) (by have := hP16.le; omega)) ?_
  rintro ⟨⟨⟨R19, rc19⟩, at19⟩, hP19, hR191, hR192⟩
  dsimp only [List.cons_append, List.nil_append]
  dsimp only at hP19 hR191 hR192 ⊢
  refine zE ?_
  refine TX.held (fun w1 hw => hw.pick [2, 3] (by decide) rfl) ?_
  refine TH.only' 16 rfl (by kernel_rfl) rfl ?_
  refine TL.gu ?_
  refine TL.pcallPm (α := {b : Bool // b = true ↔ u.prb < 1 ∨ CgF (eaL at19 p.at_) (laL at19 p.at_) u.prb u.gro}) (fun x => .bool x.1) (fun x => []) rfl rfl rfl rfl rfl Tryz.func76 ac2nm76 ac2bd76 (fun w1 hw => (congestion_l R19 rc19 at19 u p.at_ w1 (pm_rd hw (k := 0) rfl) (by have := hP16.le; have := List.length_filter_le (fun r : Rs => r.ans && decide (r.ttl = p.ttl)) st16; rw [hP19]; unfold atL; omega) (by rw [hP19]; exact hP16.in_ p.ttl)).mono fun en w2 ⟨x, h1, h2⟩ => ⟨x, h1, (Pm.start w1).below h2⟩) ?_
  rintro ⟨bd, hbd⟩
  dsimp only [List.cons_append, List.nil_append]
  refine zE ?_
  refine TX.he (fun w1 hw => hw.pick [2, 3] (by decide) rfl) fun hS => ?_
  refine TH.t 17 rfl (gives_pick rfl rfl rfl) hS ?_
  refine TH.t 18 rfl (gives_assign rfl rfl) hS ?_
  refine TH.done (by kernel_rfl) ?_
  refine zT (zr ?_)
  exact ret_tmp Tryz.results31 rfl (fun w1 hw => ⟨⟨bd, hbd.trans ⟨fun h => ⟨hk, h.imp id fun h => ⟨st16, hP16, by rw [← hP19]; exact h⟩⟩, fun ⟨_, h⟩ => h.imp id fun ⟨y, h1, h2⟩ => by rw [hP19, hP16.eq h1]; exact h2⟩⟩, rfl, hw.bel⟩)
 refine TC.held (ls := #[Ff,Ff,Ff,Ff,Ff,Ff,Ff,Ff,Ff,Ff,Ff,Ff,Ff,Ff,Ff,Ff,Ff,Ff,Ff]) (Pm w [.blk g5 34 p.cells, .blk g4 28 u.cells]) (by kernel_rfl) rfl rfl (fun w hw => hw.drawn _) ?_
 refine TH.tk 0 rfl rfl rfl (gF ac2fld34_0) (fun w1 hw => hw) ?_
 refine TH.tk 1 rfl rfl rfl (gL 0 ac2ag3) (fun w1 hw => hw) ?_
 refine TH.tk 2 rfl rfl rfl (gives_bin rfl rfl rfl (fun w => bin_eql_f (hk) w)) (fun w1 hw => hw) ?_
 refine TH.tk 3 rfl rfl rfl (gives_move rfl rfl) (fun w1 hw => hw) ?_
 refine TH.off 4 rfl (by kernel_rfl) (by kernel_rfl) (by kernel_rfl) rfl rfl rfl rfl rfl rfl rfl (fun w1 hw => hw) ?_
 refine TH.off 5 rfl (by kernel_rfl) (by kernel_rfl) (by kernel_rfl) rfl rfl rfl rfl rfl rfl rfl (fun w1 hw => hw) ?_
 refine TH.off 6 rfl (by kernel_rfl) (by kernel_rfl) (by kernel_rfl) rfl rfl rfl rfl rfl rfl rfl (fun w1 hw => hw) ?_
 refine TH.off 7 rfl (by kernel_rfl) (by kernel_rfl) (by kernel_rfl) rfl rfl rfl rfl rfl rfl rfl (fun w1 hw => hw) ?_
 refine TH.off 8 rfl (by kernel_rfl) (by kernel_rfl) (by kernel_rfl) rfl rfl rfl rfl rfl rfl rfl (fun w1 hw => hw) ?_
 refine TH.off 9 rfl (by kernel_rfl) (by kernel_rfl) (by kernel_rfl) rfl rfl rfl rfl rfl rfl rfl (fun w1 hw => hw) ?_
 refine TH.off 10 rfl (by kernel_rfl) (by kernel_rfl) (by kernel_rfl) rfl rfl rfl rfl rfl rfl rfl (fun w1 hw => hw) ?_
 refine TH.off 11 rfl (by kernel_rfl) (by kernel_rfl) (by kernel_rfl) rfl rfl rfl rfl rfl rfl rfl (fun w1 hw => hw) ?_
 refine TH.off 12 rfl (by kernel_rfl) (by kernel_rfl) (by kernel_rfl) rfl rfl rfl rfl rfl rfl rfl (fun w1 hw => hw) ?_
 refine TH.off 13 rfl (by kernel_rfl) (by kernel_rfl) (by kernel_rfl) rfl rfl rfl rfl rfl rfl rfl (fun w1 hw => hw) ?_
 refine TH.off 14 rfl (by kernel_rfl) (by kernel_rfl) (by kernel_rfl) rfl rfl rfl rfl rfl rfl rfl (fun w1 hw => hw) ?_
 refine TH.off 15 rfl (by kernel_rfl) (by kernel_rfl) (by kernel_rfl) rfl rfl rfl rfl rfl rfl rfl (fun w1 hw => hw) ?_
 refine TH.off 16 rfl (by kernel_rfl) (by kernel_rfl) (by kernel_rfl) rfl rfl rfl rfl rfl rfl rfl (fun w1 hw => hw) ?_
 refine TH.tk 17 rfl rfl rfl (gives_pick rfl rfl rfl) (fun w1 hw => hw) ?_
 refine TH.tk 18 rfl rfl rfl (gives_assign rfl rfl) (fun w1 hw => hw) ?_
 refine TH.done (by kernel_rfl) ?_
 refine zT (zr ?_)
 exact ret_tmp Tryz.results31 rfl (fun w1 hw => ⟨⟨false, by simp [CgP, hk]⟩, rfl, hw.bel⟩)
set_option maxRecDepth 20000
def PrP (es : List En) (l : List Rs) (u : Ru) (p : Rp) : Prop := vldRu u = true ∧ vldRp p = true ∧ validR es = true ∧ (BhP l u p ∨ DtP es l p ∨ CgP l u p)
theorem PrP.kinds {es : List En} {l : List Rs} {u : Ru} {p : Rp} (h : vldRp p = true) : p.kind = 1 ∨ p.kind = 2 ∨ p.kind = 3 := by
 unfold vldRp at h
 simp only [Bool.and_eq_true, decide_eq_true_eq] at h
 omega
theorem aprag28 (w : World) : (isAgg 28).run Tryz.prog w = .ok true w := rfl
theorem aprsz28 (w : World) : (sizeOf 28).run Tryz.prog w = .ok 3 w := rfl
theorem aprag34 (w : World) : (isAgg 34).run Tryz.prog w = .ok true w := rfl
theorem aprsz34 (w : World) : (sizeOf 34).run Tryz.prog w = .ok 8 w := rfl
theorem proves_any (A0 : Option Addr) (c0 : Nat) (l : List Rs) (A1 : Option Addr) (c1 : Nat) (es : List En) (u : Ru) (p : Rp) (w : World) (hr : Reads w w.heap.size 17 A0 l.length (flat Rs.cells l)) (hl1 : l.length ≤ 100000) (hok : ∀ r ∈ l, r.Ok) (hr1 : Reads w w.heap.size 5 A1 es.length (flat En.cells es)) :
  Calls Tryz.prog 37 #[.slice A0 l.length c0, .agg #[.slice A1 es.length c1], .agg u.cells.toArray, .agg p.cells.toArray] w fun e w' => ∃ x : {b : Bool // b = true ↔ PrP es l u p}, e = .returned (.bool x.1) ∧ Below w.heap.size w w' := by
 refine begin_ (vs := [.slice A0 l.length c0, .agg #[.slice A1 es.length c1], .agg u.cells.toArray, .agg p.cells.toArray]) Tryz.func37 rfl rfl rfl ?_ (Pm.start w)
 refine zSG ?_
 refine TL.pnew rfl rfl rfl (exec_box (cs := [.slice A1 es.length c1]) rfl rfl rfl) (fun g5 => ?_)
 refine TL.pnew rfl rfl rfl (exec_box (cs := u.cells) rfl rfl rfl) (fun g6 => ?_)
 refine TL.pnew rfl rfl rfl (exec_box (cs := p.cells) rfl rfl rfl) (fun g7 => ?_)
 refine TL.as_ ?_
 refine zET (zS (zSG (TL.v (gV 1 (.agg (u.cells).toArray) aprag28 aprsz28) ?_)))
 refine TL.callsplit rfl rfl rfl rfl rfl Tryz.func24 (by decide) rfl (fun w1 hw => vldRu_any u w1) (fun h10 => ?_) (fun h10 => ?_)
 ·refine TL.rn 2 rfl (TL.ov (gV 0 (.agg (p.cells).toArray) aprag34 aprsz34) ?_)
  refine TL.gu ?_
  refine TL.callsplit rfl rfl rfl rfl rfl Tryz.func27 (by decide) rfl (fun w1 hw => vldRp_any p w1) (fun h14 => ?_) (fun h14 => ?_)
  ·refine TL.rn 3 rfl (TL.ov (gV 2 (.agg #[.slice A1 es.length c1]) breag26 bresz26) ?_)
   refine TL.gu ?_
   refine TL.callsplit rfl rfl rfl rfl rfl Tryz.func84 (by decide) rfl (fun w1 hw => validR_any A1 c1 es w1 (hr1.up hw.bel)) (fun h19 => ?_) (fun h19 => ?_)
   ·refine TL.rn 2 rfl (zET (zd (zk (zT (zS (zSG (TL.v (gF arpfld34_0) ?_)))))))
    refine TL.v (gL 0 pcmag3) ?_
    refine zET (zB (zSG ?_))
    refine TL.sp bin_eql (fun q25 => ?_) (fun q25 => ?_)
    ·refine TL.as_ ?_
     refine zET (zc (zSG (TL.mv ?_)))
     refine TL.v (gV 1 (.agg (u.cells).toArray) aprag28 aprsz28) ?_
     refine TL.v (gV 0 (.agg (p.cells).toArray) aprag34 aprsz34) ?_
     refine TL.pcallPm (α := {b : Bool // b = true ↔ BhP l u p}) (fun x => .bool x.1) (fun x => []) rfl rfl rfl rfl rfl Tryz.func29 (by decide) rfl (fun w1 hw => (blackhole_any A0 c0 l u p w1 (hr.up hw.bel) hl1 hok).mono fun en w2 ⟨x, h1, h2⟩ => ⟨x, h1, (Pm.start w1).below h2⟩) ?_
     rintro ⟨bd, hbd⟩
     dsimp only [List.cons_append, List.nil_append]
     refine TL.as_ ?_
     refine zET (zr (zRR ?_))
     exact ret_tmp Tryz.results37 rfl (fun w1 hw => ⟨⟨bd, fun h => ⟨h10, h14, h19, .inl (hbd.1 h)⟩, fun ⟨_, _, _, h4⟩ => hbd.2 (h4.elim id fun h5 => h5.elim (fun h6 => absurd h6.1 (by omega)) fun h6 => absurd h6.1 (by omega))⟩, rfl, hw.bel⟩)
    refine TL.as_ ?_
    refine zET (zd (zSG ?_))
    refine TL.sp bin_eql (fun q31 => ?_) (fun q31 => ?_)
    ·refine TL.as_ ?_
     refine zET (zc (zSG (TL.mv ?_)))
     refine TL.v (gV 2 (.agg #[.slice A1 es.length c1]) breag26 bresz26) ?_
     refine TL.v (gV 0 (.agg (p.cells).toArray) aprag34 aprsz34) ?_
     refine TL.pcallPm (α := {b : Bool // b = true ↔ DtP es l p}) (fun x => .bool x.1) (fun x => []) rfl rfl rfl rfl rfl Tryz.func35 (by decide) rfl (fun w1 hw => (detour_any A0 c0 l A1 c1 es p w1 (hr.up hw.bel) hl1 hok (hr1.up hw.bel)).mono fun en w2 ⟨x, h1, h2⟩ => ⟨x, h1, (Pm.start w1).below h2⟩) ?_
     rintro ⟨bd, hbd⟩
     dsimp only [List.cons_append, List.nil_append]
     refine TL.as_ ?_
     refine zET (zr (zRR ?_))
     exact ret_tmp Tryz.results37 rfl (fun w1 hw => ⟨⟨bd, fun h => ⟨h10, h14, h19, .inr (.inl (hbd.1 h))⟩, fun ⟨_, _, _, h4⟩ => hbd.2 (h4.elim (fun h6 => absurd h6.1 (by omega)) fun h5 => h5.elim id fun h6 => absurd h6.1 (by omega))⟩, rfl, hw.bel⟩)
    refine TL.as_ ?_
    refine zET (zd (zk (zN (zT (zSG (TL.mv ?_))))))
    refine TL.v (gV 1 (.agg (u.cells).toArray) aprag28 aprsz28) ?_
    refine TL.v (gV 0 (.agg (p.cells).toArray) aprag34 aprsz34) ?_
    refine TL.pcallPm (α := {b : Bool // b = true ↔ CgP l u p}) (fun x => .bool x.1) (fun x => []) rfl rfl rfl rfl rfl Tryz.func31 (by decide) rfl (fun w1 hw => (congestion_any A0 c0 l u p w1 (hr.up hw.bel) hl1 hok).mono fun en w2 ⟨x, h1, h2⟩ => ⟨x, h1, (Pm.start w1).below h2⟩) ?_
    rintro ⟨bd, hbd⟩
    dsimp only [List.cons_append, List.nil_append]
    refine TL.as_ ?_
    refine zET (zr ?_)
    exact ret_tmp Tryz.results37 rfl (fun w1 hw => ⟨⟨bd, fun h => ⟨h10, h14, h19, .inr (.inr (hbd.1 h))⟩, fun ⟨_, _, _, h4⟩ => hbd.2 (h4.elim (fun h6 => absurd h6.1 (by omega)) fun h5 => h5.elim (fun h6 => absurd h6.1 (by omega)) id)⟩, rfl, hw.bel⟩)
   refine TL.rn 2 rfl (zET (zc (zSG (TL.as_ ?_))))
   refine zET (zr (zR ?_))
   exact ret_tmp Tryz.results37 rfl (fun w1 hw => ⟨⟨false, fun h => (by cases h), fun h => (by have h2 := h.2.2.1; rw [h19] at h2; cases h2)⟩, rfl, hw.bel⟩)
  refine TL.rn 7 rfl (zET (zc (zSG (TL.as_ ?_))))
  refine zET (zr (zR ?_))
  exact ret_tmp Tryz.results37 rfl (fun w1 hw => ⟨⟨false, fun h => (by cases h), fun h => (by have h2 := h.2.1; rw [h14] at h2; cases h2)⟩, rfl, hw.bel⟩)
 refine TL.rn 11 rfl (zET (zc (zSG (TL.as_ ?_))))
 refine zET (zr (zR ?_))
 exact ret_tmp Tryz.results37 rfl (fun w1 hw => ⟨⟨false, fun h => (by cases h), fun h => (by have h2 := h.1; rw [h10] at h2; cases h2)⟩, rfl, hw.bel⟩)
set_option maxRecDepth 20000
theorem cod_stab (cb : Nat) : Stab cb (fun w => Cod w cb) := fun w1 w2 h hs => h.keep fun b hb => hs b (by omega)
theorem cod_cells {w : World} {cb : Nat} (h : Cod w cb) : CellsAt w cb := by
 obtain ⟨A, m, c, l, k, hb, _⟩ := h
 exact ⟨_, hb, rfl⟩
theorem next_cod (cb : Nat) (w : World) (n : Int) (h : Cod w cb) :
  Calls Tryz.prog 21 #[.pointer (some ⟨cb, 0, none⟩), .int .i64 n] w fun e w' => ∃ x : {x : Nat // x ≤ 65535 ∧ (1 ≤ n → (x : Int) < n)}, e = .returned (.int .i64 (x.1 : Int)) ∧ Codr (fun w => Cod w cb) cb w [] w' :=
 (next_any cb w n h).mono fun e w' ⟨x, he, h0, h1, h2, hc, hg, _⟩ => by
  obtain ⟨k, rfl⟩ := Int.eq_ofNat_of_zero_le h0
  exact ⟨⟨k, by omega, h2⟩, he, hc, hg, cod_cells hc, (fun q hq => absurd hq List.not_mem_nil), List.Pairwise.nil⟩
theorem grown_cell {w w1 : World} {cb : Nat} {p : Addr} (hg : w.grownBy w1 (some cb)) (hp : p.block ≠ cb) (hl : p.block < w.heap.size) : w1.cell? p = w.cell? p :=
 World.cell?_of_block (hg.block _ hl fun e => hp (by injection e))
theorem flat_row1 {w0 : Base} {L : List Pc} {w : World} {q g n cc i : Nat} {e : TypeId} {k : IntKind} {l : List Int} {x : Int} (h : Pm w0 L w) (hk : L[q]? = some (.row (.slice (some ⟨g, 0, none⟩) n cc) e 1 n (flat (ic k) l))) (hx : l[i]? = some x) : w.cell? ⟨g, i, none⟩ = some (.int k x) := by
 have := flat_row (ic_cel k) h hk hx 0 _ rfl
 rwa [show 0 + i * 1 + 0 = i by omega] at this
theorem roll_any (A : Option Addr) (n c : Nat) (l : List Int) (w : World) (hb : Byt w w.heap.size A n l) (hc : n ≤ c) (hn : (n : Int) ≤ 9223372036854775807) : Calls Tryz.prog 16 #[.slice A n c] w fun e w' => e = .returned (.pointer (some ⟨w.heap.size, 0, none⟩)) ∧ Cod w' w.heap.size ∧ Below w.heap.size w w' := by
 refine begin_ (vs := [.slice A n c]) (I := fun w1 => w1 = w) Tryz.func16 rfl rfl rfl ?_ rfl
 refine zSG (TL.as_ ?_)
 refine zET (zSG (TL.mv ?_))
 refine TL.call (α := Unit) (r := fun _ => .pointer (some ⟨w.heap.size, 0, none⟩)) (I' := fun _ w2 => Cod w2 w.heap.size ∧ Below w.heap.size w w2) rfl rfl rfl rfl rfl Tryz.func62 (by decide) rfl (fun w1 hw => by cases hw; exact (new_any A n c l w 400 hb hc (by omega) (by decide) (by decide)).mono fun e w2 ⟨h1, h2, h3, _⟩ => ⟨(), h1, h2, h3⟩) (fun _ => ?_)
 refine TL.as_ ?_
 refine zET (zr ?_)
 exact ret_tmp Tryz.results16 rfl (fun w1 hw => ⟨rfl, hw.1, hw.2⟩)
theorem pick_cod (cb : Nat) (w : World) (hC : Cod w cb) (g c : Nat) (tab : List Int) (hgc : g ≠ cb) (hgl : g < w.heap.size) (h0 : 0 < tab.length) (hcell : ∀ (i : Nat) (v : Int), tab[i]? = some v → w.cell? ⟨g, i, none⟩ = some (.int .i64 v)) :
  Calls Tryz.prog 22 #[.pointer (some ⟨cb, 0, none⟩), .slice (some ⟨g, 0, none⟩) tab.length c] w fun e w' => ∃ x : {v : Int // v ∈ tab}, e = .returned (.int .i64 x.1) ∧ Codr (fun w => Cod w cb) cb w ([]) w' := by
 refine begin_ (vs := [.pointer (some ⟨cb, 0, none⟩), .slice (some ⟨g, 0, none⟩) tab.length c]) (I := Pm ⟨w, cb⟩ (.abs cb (fun w => Cod w cb) :: oths cb w)) Tryz.func22 rfl rfl rfl ?_ (Pm.codes hC (cod_cells hC) (cod_stab cb))
 refine zSG (TL.as_ ?_)
 refine zET (zSG (TL.rn 3 rfl (TL.v (gN Tryz.underlying106) ?_)))
 refine TL.pcallCod (k := 0) (α := {q9 : Nat // q9 ≤ 65535 ∧ (1 ≤ ((tab.length : Nat) : Int) → (q9 : Int) < (tab.length : Nat))}) (fun q9 => .int .i64 ((q9.1 : Nat) : Int)) (fun q9 => []) rfl rfl rfl rfl rfl Tryz.func21 (by decide) rfl rfl (fun w1 hw hC1 => next_cod cb w1 (tab.length : Nat) hC1) ?_
 rintro ⟨x, hx1, hx2⟩
 dsimp only [List.cons_append, List.nil_append]
 refine TL.val rfl rfl rfl (gives_at (v := .pointer (some ⟨g, x, none⟩)) rfl rfl rfl (fun w => at_row Tryz.underlying106 pcmsz3 g _ _ x (by omega) rfl w)) ?_
 obtain ⟨v, hv, hvt⟩ : ∃ v, tab[x]? = some v ∧ v ∈ tab := ⟨_, List.getElem?_eq_getElem (by omega), List.getElem_mem _⟩
 refine TL.val rfl rfl rfl (gives_load (v := .int .i64 v) rfl rfl pcmag3 (fun w1 hw => (grown_cell (hw.kept (fun q hq => by simp [hq])) (by show g ≠ cb; exact hgc) (by show g < _; exact hgl)).trans (hcell x v hv))) ?_
 refine TL.as_ ?_
 refine zET (zr ?_)
 exact ret_tmp Tryz.results22 rfl (fun w1 hw => ⟨⟨v, hvt⟩, rfl, Pm.codr [] (hw) rfl⟩)
theorem daddr_cod (cb : Nat) (w : World) (hC : Cod w cb) :
  Calls Tryz.prog 67 #[.pointer (some ⟨cb, 0, none⟩)] w fun e w' => ∃ x : {a : Int // 167772161 ≤ a ∧ a ≤ 167772173}, e = .returned (.int .u32 x.1) ∧ Codr (fun w => Cod w cb) cb w ([]) w' := by
 refine begin_ (vs := [.pointer (some ⟨cb, 0, none⟩)]) (I := Pm ⟨w, cb⟩ (.abs cb (fun w => Cod w cb) :: oths cb w)) Tryz.func67 rfl rfl rfl ?_ (Pm.codes hC (cod_cells hC) (cod_stab cb))
 refine zSG (TL.as_ ?_)
 refine zET (zSG (TL.mv ?_))
 refine TL.prowS (e := 3) (size := 1) (cs := flat (ic .i64) [1, 2, 5, 6, 9, 10, 12, 13]) rfl rfl rfl rfl rfl (fun w => arpbs106_8_10220 _ _ _ _ _ _ _ _ w) (by decide) rfl (fun g4 => ?_)
 refine TL.pcallCod (k := 1) (α := {v : Int // v ∈ ([1, 2, 5, 6, 9, 10, 12, 13] : List Int)}) (fun x => .int .i64 x.1) (fun x => []) rfl rfl rfl rfl rfl Tryz.func22 (by decide) rfl rfl (fun w1 hw hC1 => pick_cod cb w1 hC1 g4 8 ([1, 2, 5, 6, 9, 10, 12, 13]) (hw.neq (i := 0) (j := 1) rfl rfl (by decide) g4 rfl <| congrArg some ·.symm) (Pc.lt (hw.at_ (k := 0) rfl) g4 rfl).2 (by show 0 < ([1, 2, 5, 6, 9, 10, 12, 13] : List Int).length; simp) (fun i v hi => flat_row1 hw (q := 0) rfl hi)) ?_
 rintro ⟨v, hv⟩
 dsimp only [List.cons_append, List.nil_append]
 have hvb : 1 ≤ v ∧ v ≤ 13 := by simp only [List.mem_cons, List.not_mem_nil, or_false] at hv; omega
 refine TL.v (gD (167772160 + v)) ?_
 refine TL.val rfl rfl rfl (gives_conv rfl rfl (fun w => conv_fit (k := .i64) Tryz.underlying30 Tryz.underlying3 (by simp only [IntKind.wrap_u32]; omega) w)) ?_
 refine TL.as_ ?_
 refine zET (zr ?_)
 exact ret_tmp Tryz.results67 rfl (fun w1 hw => ⟨⟨167772160 + v, by omega⟩, rfl, Pm.codr [] (hw.sel (.cons _ (.cons_cons _ (List.Sublist.refl _)))) rfl⟩)
theorem dbool_cod (cb : Nat) (w : World) (hC : Cod w cb) (n : Nat) (hn : n ≤ 1000) :
  Calls Tryz.prog 18 #[.pointer (some ⟨cb, 0, none⟩), .int .i64 ((n : Nat) : Int)] w fun e w' => ∃ x : Bool, e = .returned (.bool x) ∧ Codr (fun w => Cod w cb) cb w ([]) w' := by
 refine begin_ (vs := [.pointer (some ⟨cb, 0, none⟩), .int .i64 ((n : Nat) : Int)]) (I := Pm ⟨w, cb⟩ (.abs cb (fun w => Cod w cb) :: oths cb w)) Tryz.func18 rfl rfl rfl ?_ (Pm.codes hC (cod_cells hC) (cod_stab cb))
 refine zSG (TL.as_ ?_)
 refine zET (zSG (TL.rn 2 rfl ?_))
 refine TL.pcallCod (k := 0) (α := {q9 : Nat // q9 ≤ 65535 ∧ (1 ≤ (((n : Nat) : Int) : Int) → (q9 : Int) < ((n : Nat) : Int))}) (fun q9 => .int .i64 ((q9.1 : Nat) : Int)) (fun q9 => []) rfl rfl rfl rfl rfl Tryz.func21 (by decide) rfl rfl (fun w1 hw hC1 => next_cod cb w1 ((n : Nat) : Int) hC1) ?_
 rintro ⟨x, hx1, hx2⟩
 dsimp only [List.cons_append, List.nil_append]
 refine TL.mv ?_
 refine TL.val rfl rfl rfl (gives_bin rfl rfl rfl (fun w => bin_sub_ (r := (n : Int) - 1) (by simp only [IntKind.wrap_i64]; omega) w)) ?_
 refine TL.val rfl rfl rfl (gives_bin rfl rfl rfl (fun w => bin_eql w)) ?_
 refine TL.as_ ?_
 refine zET (zr ?_)
 exact ret_tmp Tryz.results18 rfl (fun w1 hw => ⟨decide (((x : Nat) : Int) = (n : Int) - 1), rfl, Pm.codr [] (hw) rfl⟩)
end Go.Proofs.YtijmpjfafpodhaaGreat
