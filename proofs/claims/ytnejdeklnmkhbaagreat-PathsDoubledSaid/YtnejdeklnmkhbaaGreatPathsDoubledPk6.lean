/-
  Texts of the proof, joined: PtLD.
-/
import Derived.Test.YtnejdeklnmkhbaaGreatPathsDoubledPk5
set_option linter.unusedVariables false
set_option linter.unusedSimpArgs false
namespace Go.Proofs.YtnejdeklnmkhbaaGreat
open Go.RowKit
set_option maxRecDepth 20000
structure AllI (xs : List Rs) (i : Nat) (o : List Rs) : Prop where
 len : o.length ≤ 2 * i
 low : i ≤ o.length
 mem : ∀ r, usbRs r = true → (r ∈ o ↔ r ∈ xs.take i)
 vld : ∀ r ∈ o, vldRs r = true ∧ r.Ok ∧ ∃ r' ∈ xs, trcR r = trcR r'
theorem AllI.nil {xs : List Rs} : AllI xs 0 [] := ⟨Nat.zero_le _, Nat.zero_le _, fun r _ => by rw [List.take_zero], fun r hr => absurd hr List.not_mem_nil⟩
section
variable {xs o : List Rs} {i : Nat} {x : Rs}
theorem AllI.one (h : AllI xs i o) (hx : xs[i]? = some x) (hd : DrR x) : AllI xs (i + 1) (o ++ [x]) := by
 refine ⟨?_, ?_, fun r hr => ?_, fun r hr => ?_⟩
 ·have := h.len; rw [List.length_append]; show o.length + 1 ≤ _; omega
 ·have := h.low; rw [List.length_append]; show _ ≤ o.length + 1; omega
 ·rw [List.mem_append, List.mem_singleton, mem_take_snoc hx, h.mem r hr]
 ·rcases List.mem_append.1 hr with h1 | h1
  ·exact h.vld r h1
  ·rw [List.mem_singleton.1 h1]
   exact ⟨hd.1, hd.2.1, x, List.mem_of_getElem? hx, rfl⟩
theorem AllI.dbl (h : AllI xs i o) (hx : xs[i]? = some x) (hd : DrR x) : AllI xs (i + 1) (o ++ [x] ++ [⟨x.v, x.run, x.num + 500, x.at_, x.dst, x.proto, x.flow, x.ttl, true, true, x.back, 77, 3, 0, 0, 0, 0⟩]) := by
 have h2 := h.one hx hd
 have hnew : ∀ {r : Rs}, usbRs r = true → r ≠ ⟨x.v, x.run, x.num + 500, x.at_, x.dst, x.proto, x.flow, x.ttl, true, true, x.back, 77, 3, 0, 0, 0, 0⟩ := fun {r} hr e => by rw [e] at hr; simp [usbRs] at hr
 refine ⟨?_, ?_, fun r hr => ?_, fun r hr => ?_⟩
 ·have := h.len
  rw [List.length_append, List.length_append]; show o.length + 1 + 1 ≤ _; omega
 ·have := h2.low; rw [List.length_append]; omega
 ·rw [List.mem_append, List.mem_singleton, h2.mem r hr]
  exact ⟨fun h3 => h3.elim id fun e => absurd e (hnew hr), .inl⟩
 ·rcases List.mem_append.1 hr with h1 | h1
  ·exact h2.vld r h1
  ·rw [List.mem_singleton.1 h1]
   obtain ⟨d1, d2, d3, d4, d5, d6, d7, d8, d9⟩ := hd
   unfold TrOk at d4
   dsimp only at d4
   have d1' := d1
   have hr2 : x.inRange := by
    have : chkR x = 0 := by unfold vldRs at d1; simp only [Bool.and_eq_true, decide_eq_true_eq] at d1; exact d1.1.1
    exact Decidable.by_contra fun h => by have := chk_range h; omega
   unfold Rs.inRange at hr2
   refine ⟨?_, ?_, x, List.mem_of_getElem? hx, rfl⟩
   ·have hi : (⟨x.v, x.run, x.num + 500, x.at_, x.dst, x.proto, x.flow, x.ttl, true, true, x.back, 77, 3, 0, 0, 0, 0⟩ : Rs).inRange := by unfold Rs.inRange; dsimp only; omega
    have ho : (⟨x.v, x.run, x.num + 500, x.at_, x.dst, x.proto, x.flow, x.ttl, true, true, x.back, 77, 3, 0, 0, 0, 0⟩ : Rs).ansOk := by unfold Rs.ansOk; dsimp only; omega
    have hc : chkR ⟨x.v, x.run, x.num + 500, x.at_, x.dst, x.proto, x.flow, x.ttl, true, true, x.back, 77, 3, 0, 0, 0, 0⟩ = 0 := by
     unfold chkR
     rw [if_neg (fun h1 => h1 hi), if_neg (fun h1 => h1 (by dsimp only; omega)), if_neg (by simp), if_neg (fun h2 => h2.2 ho)]
    unfold vldRs
    simp only [hc, decide_true, Bool.true_and, Bool.and_eq_true, decide_eq_true_eq, Bool.or_eq_true, Bool.not_eq_true']
    exact ⟨by omega, .inr (by decide)⟩
   ·unfold Rs.Ok at d2 ⊢; dsimp only; omega
end
structure AllOk (xs o : List Rs) : Prop where
 use : SameUse xs o
 vld : ∀ r ∈ o, vldRs r = true
 ok : ∀ r ∈ o, r.Ok
 trc : ∃ t, (∀ r ∈ o, trcR r = t) ∧ ∀ r ∈ xs, trcR r = t
 nil : o = [] ↔ xs = []
theorem AllI.done {xs o : List Rs} {i m : Nat} {stb : Bool} (h : AllI xs i o) (h1 : OneOk m stb xs) (hi : xs.length ≤ i) : AllOk xs o := by
 obtain ⟨t, ht⟩ := h1.2.2.1
 have hm := h.mem
 rw [List.take_of_length_le hi] at hm
 refine ⟨fun r hr => (hm r hr).symm, fun r hr => (h.vld r hr).1, fun r hr => (h.vld r hr).2.1, ⟨t, fun r hr => ?_, ht⟩, ?_⟩
 ·obtain ⟨r', hr', e⟩ := (h.vld r hr).2.2
  rw [e]; exact ht r' hr'
 ·have h2 := h.low
  have h3 := h.len
  constructor
  ·intro e; subst e; exact List.eq_nil_of_length_eq_zero (by rw [List.length_nil] at h2; omega)
  ·intro e
   subst e
   refine List.eq_nil_iff_forall_not_mem.2 fun r hr => ?_
   obtain ⟨r', hr', _⟩ := (h.vld r hr).2.2
   cases hr'
theorem AllOk.err {xs o : List Rs} {m : Nat} {e : Int} (h : AllOk xs o) (h1 : OneOk m true xs) (hl : o.length ≤ 512) (he : ErrOk o (lookS o).2 e) : e = 0 := by
 obtain ⟨t, ht, _⟩ := h.trc
 refine err_zero h.vld hl ⟨t, ht⟩ (fun x hx y hy ux uy ax ay hf htl => ?_) he
 exact (one_con h1) x ((h.use x ux).2 hx) y ((h.use y uy).2 hy) ux uy ax ay hf htl
theorem AllOk.same {xs o : List Rs} {m z : Mp} {e e' : Int} (h : AllOk xs o) (hm : BuildOk xs m e) (hz : BuildOk o z e') (he : e = 0) (he' : e' = 0) : mpEq m z = true := by
 by_cases h0 : xs = []
 ·rw [hm.2.1 (.inr h0), hz.2.1 (.inr (h.nil.2 h0))]; exact mpEq_refl _
 ·have g := hm.2.2 he h0
  have g' := hz.2.2 he' fun e => h0 (h.nil.1 e)
  refine graph_same h.use g g' ?_
  obtain ⟨t, h1, h2⟩ := h.trc
  obtain ⟨y, u, hu⟩ := List.exists_cons_of_ne_nil h0
  obtain ⟨y', u', hu'⟩ := List.exists_cons_of_ne_nil fun e => h0 (h.nil.1 e)
  rw [g.1, g'.1, hu, hu']
  show trcR y = trcR y'
  rw [h2 y (by rw [hu]; exact List.mem_cons_self), h1 y' (by rw [hu']; exact List.mem_cons_self)]
theorem pldnm10 : (Tryz.f10.name == "runtime.NumGoroutine") = false := by decide
theorem pldbd10 : Tryz.f10.body.isNone = false := rfl
theorem pldnm11 : (Tryz.f11.name == "runtime.NumGoroutine") = false := by decide
theorem pldbd11 : Tryz.f11.body.isNone = false := rfl
theorem pldnm12 : (Tryz.f12.name == "runtime.NumGoroutine") = false := by decide
theorem pldbd12 : Tryz.f12.body.isNone = false := rfl
theorem pldsz47 (w : World) : (sizeOf 47).run Tryz.prog w = .ok 17 w := rfl
theorem pldag47 (w : World) : (isAgg 47).run Tryz.prog w = .ok true w := rfl
theorem pldbs26_1_99505 (a0_0 : Int) (a0_1 : Int) (a0_2 : Int) (a0_3 : Int) (a0_4 : Int) (a0_5 : Int) (a0_6 : Int) (a0_7 : Int) (a0_8 : Bool) (a0_9 : Bool) (a0_10 : Int) (a0_11 : Int) (a0_12 : Int) (a0_13 : Int) (a0_14 : Int) (a0_15 : Int) (a0_16 : Int) (w : World) : (Instr.buildSlice 26 1 #[(0, .agg #[.int .i64 a0_0, .int .i64 a0_1, .int .i64 a0_2, .int .i64 a0_3, .int .u32 a0_4, .int .i64 a0_5, .int .i64 a0_6, .int .i64 a0_7, .bool a0_8, .bool a0_9, .int .i64 a0_10, .int .u32 a0_11, .int .i64 a0_12, .int .i64 a0_13, .int .i64 a0_14, .int .i64 a0_15, .int .i64 a0_16])]).run Tryz.prog w = .ok (.slice (some ⟨w.heap.size, 0, none⟩) 1 1) (w.alloc (.cells [.int .i64 a0_0, .int .i64 a0_1, .int .i64 a0_2, .int .i64 a0_3, .int .u32 a0_4, .int .i64 a0_5, .int .i64 a0_6, .int .i64 a0_7, .bool a0_8, .bool a0_9, .int .i64 a0_10, .int .u32 a0_11, .int .i64 a0_12, .int .i64 a0_13, .int .i64 a0_14, .int .i64 a0_15, .int .i64 a0_16].toArray 47)) := by kernel_rfl
theorem pldel26 : Elem Tryz.prog 26 47 17 128 := Elem.mk' Tryz.underlying26 (z := .agg #[.int .i64 0, .int .i64 0, .int .i64 0, .int .i64 0, .int .u32 0, .int .i64 0, .int .i64 0, .int .i64 0, .bool false, .bool false, .int .i64 0, .int .u32 0, .int .i64 0, .int .i64 0, .int .i64 0, .int .i64 0, .int .i64 0]) (by kernel_rfl) rfl (by omega) (by omega)
theorem pldnm13 : (Tryz.f13.name == "runtime.NumGoroutine") = false := by decide
theorem pldbd13 : Tryz.f13.body.isNone = false := rfl
theorem pldzv47 (w : World) : (zeroValue 47).run Tryz.prog w = .ok (.agg #[.int .i64 0, .int .i64 0, .int .i64 0, .int .i64 0, .int .u32 0, .int .i64 0, .int .i64 0, .int .i64 0, .bool false, .bool false, .int .i64 0, .int .u32 0, .int .i64 0, .int .i64 0, .int .i64 0, .int .i64 0, .int .i64 0]) w := rfl
theorem pldfld47_2 (g o : Nat) (w : World) : (Instr.fieldAt 47 (.pointer (some ⟨g, o, none⟩)) 2).run Tryz.prog w = .ok (.pointer (some ⟨g, o + 2, none⟩)) w := by kernel_rfl
theorem pldag3 (w : World) : (isAgg 3).run Tryz.prog w = .ok false w := rfl
theorem pldsz3 (w : World) : (sizeOf 3).run Tryz.prog w = .ok 1 w := rfl
theorem pldone_i64 {a0 : Int} : ∀ u ∈ [(.int .i64 a0 : Value)], u.oneCell' = true := by
 intro u hu
 rw [List.mem_singleton] at hu
 subst hu; rfl
theorem pldbld45_27257 (a0_0 : Int) (a1_0 : Int) (w : World) : (Instr.build 45 #[(0, .int .u32 a0_0), (1, .int .i64 a1_0)]).run Tryz.prog w = .ok (.agg #[.int .u32 a0_0, .int .i64 a1_0, .int .i64 0, .int .i64 0, .int .i64 0, .int .i64 0]) w := by kernel_rfl
theorem pldfld47_8 (g o : Nat) (w : World) : (Instr.fieldAt 47 (.pointer (some ⟨g, o, none⟩)) 8).run Tryz.prog w = .ok (.pointer (some ⟨g, o + 8, none⟩)) w := by kernel_rfl
theorem pldsz4 (w : World) : (sizeOf 4).run Tryz.prog w = .ok 1 w := rfl
theorem pldone_b {a0 : Bool} : ∀ u ∈ [(.bool a0 : Value)], u.oneCell' = true := by
 intro u hu
 rw [List.mem_singleton] at hu
 subst hu; rfl
theorem pldfld47_9 (g o : Nat) (w : World) : (Instr.fieldAt 47 (.pointer (some ⟨g, o, none⟩)) 9).run Tryz.prog w = .ok (.pointer (some ⟨g, o + 9, none⟩)) w := by kernel_rfl
theorem pldfld47_11 (g o : Nat) (w : World) : (Instr.fieldAt 47 (.pointer (some ⟨g, o, none⟩)) 11).run Tryz.prog w = .ok (.pointer (some ⟨g, o + 11, none⟩)) w := by kernel_rfl
theorem pldsz45 (w : World) : (sizeOf 45).run Tryz.prog w = .ok 6 w := rfl
theorem pldone_u32i64i64i64i64i64 {a0 : Int} {a1 : Int} {a2 : Int} {a3 : Int} {a4 : Int} {a5 : Int} : ∀ u ∈ [(.int .u32 a0 : Value), .int .i64 a1, .int .i64 a2, .int .i64 a3, .int .i64 a4, .int .i64 a5], u.oneCell' = true := by
 intro u hu
 simp only [List.mem_cons, List.not_mem_nil, or_false] at hu
 rcases hu with rfl | rfl | rfl | rfl | rfl | rfl <;> rfl
theorem pldnm14 : (Tryz.f14.name == "runtime.NumGoroutine") = false := by decide
theorem pldbd14 : Tryz.f14.body.isNone = false := rfl
theorem pldzv36 (w : World) : (zeroValue 36).run Tryz.prog w = .ok (.agg #[.int .i64 0, .int .u32 0, .int .i64 0, .int .i64 0, .slice none 0 0, .slice none 0 0]) w := rfl
theorem pldsz36 (w : World) : (sizeOf 36).run Tryz.prog w = .ok 6 w := rfl
theorem pldone_i64u32i64i64ss {a0 : Int} {a1 : Int} {a2 : Int} {a3 : Int} {a4 : Option Addr} {n4 c4 : Nat} {a5 : Option Addr} {n5 c5 : Nat} : ∀ u ∈ [(.int .i64 a0 : Value), .int .u32 a1, .int .i64 a2, .int .i64 a3, .slice a4 n4 c4, .slice a5 n5 c5], u.oneCell' = true := by
 intro u hu
 simp only [List.mem_cons, List.not_mem_nil, or_false] at hu
 rcases hu with rfl | rfl | rfl | rfl | rfl | rfl <;> rfl
theorem pldag36 (w : World) : (isAgg 36).run Tryz.prog w = .ok true w := rfl
theorem pldnm16 : (Tryz.f16.name == "runtime.NumGoroutine") = false := by decide
theorem pldbd16 : Tryz.f16.body.isNone = false := rfl
theorem pldnm20 : (Tryz.f20.name == "runtime.NumGoroutine") = false := by decide
theorem pldbd20 : Tryz.f20.body.isNone = false := rfl
set_option maxHeartbeats 1000000 in
theorem pathsDoubled_walk (A0 : Option Addr) (n0 c0 : Nat) (l0 : List Int) (w : World) (hb0 : Byt w w.heap.size A0 n0 l0) (hc0 : n0 ≤ c0) (hm0 : c0 ≤ maxLen) :
  Calls Tryz.prog 6 #[.slice A0 n0 c0] w fun e w' => e = .returned (.bool true) ∧ Below w.heap.size w w' := by
 have hn0 : (n0 : Int) ≤ 9223372036854775807 := by unfold maxLen at hm0; omega
 refine begin_ (vs := [.slice A0 n0 c0]) Tryz.func6 rfl rfl rfl ?_ (Pm.start w)
 refine TC.seq_ (TC.region ?_)
 refine TL.as_ ?_
 refine TL.end_ (TX.then_ (TC.seq_ (TC.seq_ (TC.region ?_))))
 refine TL.pcall1 (r := .bool true) rfl rfl rfl rfl rfl Tryz.func10 pldnm10 pldbd10 (fun w1 hw => awake_true w1) ?_
 refine TL.val rfl rfl rfl (gives_boolnot rfl rfl) ?_
 refine TL.end_ (TX.then_ (TC.condF rfl (TC.skip_ (TX.then_ (TC.seq_ (TC.region ?_))))))
 refine TL.mv ?_
 refine TL.callNew (I := Pm w []) (p := fun cb w => Cod w cb) rfl rfl rfl rfl rfl Tryz.func11 pldnm11 pldbd11 (fun w1 hw => (roll_any A0 n0 c0 l0 w1 ((hb0.below hw.bel).more hw.bel.size) hc0 hn0).mono fun e w2 ⟨h1, h2, h3⟩ => ⟨h1, h2, cod_cells h2, h3⟩) cod_stab (fun wn hwn => ?_)
 have hwb := hwn.bel
 refine TL.as_ ?_
 refine TL.end_ (TX.then_ (TC.seq_ (TC.region ?_)))
 refine TL.mv ?_
 refine TL.pcallCod (k := 0) (α := {y : (Option Addr × Nat) × List Rs // OneOk 20 true y.2 ∧ y.2.length ≤ y.1.2 ∧ y.1.2 ≤ maxLen}) (fun x => .slice x.1.1.1 x.1.2.length x.1.1.2) (fun x => [.row (.slice x.1.1.1 x.1.2.length x.1.1.2) 47 17 x.1.2.length (flat Rs.cells x.1.2)]) rfl rfl rfl rfl rfl Tryz.func12 pldnm12 pldbd12 rfl (fun w1 hw hC1 => one_cod wn.heap.size w1 hC1 20 true (by decide)) ?_
 rintro ⟨⟨⟨Axs, cxs⟩, xs⟩, hxs, hxsc, hxsm⟩
 dsimp only [List.cons_append, List.nil_append]
 dsimp only at hxs hxsc hxsm ⊢
 have hxslen := hxs.2.2.2.1
 have hxsok : ∀ r ∈ xs, r.Ok := fun r hr => (hxs.1 r hr).2.1
 refine TL.as_ ?_
 refine TL.end_ (TX.then_ (TC.seq_ (TC.region ?_)))
 refine TL.as_ ?_
 refine TL.end_ (TX.then_ (TC.seq_ (TC.seq_ (TC.region ?_))))
 refine TL.mv ?_
 refine TL.val rfl rfl rfl (gives_len rfl Tryz.underlying26 rfl) ?_
 refine TL.mv ?_
 refine TL.end_ (TX.then_ (TC.block ?_))
 refine TC.nilrow 47 17 ?_
 refine TC.loop_ (α := {y : Nat × (Option Addr × Nat) × List Rs // y.1 ≤ xs.length ∧ AllI xs y.1 y.2.2 ∧ y.2.2.length ≤ y.2.1.2 ∧ y.2.1.2 ≤ maxLen}) (fun y => [(3, .pointer (some ⟨wn.heap.size, 0, none⟩)), (4, .slice Axs xs.length cxs), (18, .slice Axs xs.length cxs), (19, .int .i64 (xs.length : Nat)), (20, .int .i64 ((y.1.1 : Nat) : Int)), (5, .slice y.1.2.1.1 y.1.2.2.length y.1.2.1.2)]) (fun y => Pm wn ([.row (.slice y.1.2.1.1 y.1.2.2.length y.1.2.1.2) 47 17 y.1.2.2.length (flat Rs.cells y.1.2.2), .row (.slice Axs xs.length cxs) 47 17 xs.length (flat Rs.cells xs), .abs wn.heap.size (fun w => Cod w wn.heap.size)] ++ mpsP [])) (fun y => xs.length - y.1.1) (⟨(0, (none, 0), []), Nat.zero_le _, AllI.nil, Nat.le_refl _, Nat.zero_le _⟩) ⟨rfl, rfl, rfl, rfl, rfl, rfl, trivial⟩ (fun w1 hw => hw) ?_
 rintro ⟨⟨i, ⟨Ao, co⟩, all⟩, hi, hall, hac, ham⟩
 dsimp only at hi hall hac ham ⊢
 have hall1 := hall.len
 refine TC.seq_ (TC.region ?_)
 refine TL.vsplit rfl rfl rfl (gives_bin rfl rfl rfl (fun w => bin_lss w)) (fun h21 => ?_) (fun h21 => ?_)
 ·have q21 := of_decide_eq_true h21
  refine TL.end_ (TX.then_ (TC.seq_ (TC.condT rfl (TC.skip_ (TX.then_ (TC.seq_ (TC.block (TC.seq_ (TC.region ?_)))))))))
  refine TL.mv ?_
  refine TL.as_ ?_
  refine TL.end_ (TX.then_ (TC.seq_ (TC.region ?_)))
  refine TL.mv ?_
  refine TL.mv ?_
  refine TL.mv ?_
  refine TL.fact (p := ∃ g, Axs = some ⟨g, 0, none⟩) (fun w1 hw => rowA hw (k := 1) rfl (by omega)) ?_
  rintro ⟨g_Axs, rfl⟩
  have hi26 : i < xs.length := by omega
  obtain ⟨x26, hx26⟩ : ∃ x26, xs[i]? = some x26 := ⟨_, List.getElem?_eq_getElem hi26⟩
  refine TL.val rfl rfl rfl (gives_at (v := .pointer (some ⟨g_Axs, 0 + i * 17, none⟩)) rfl rfl rfl (fun w => at_el Tryz.underlying26 pldsz47 rfl _ _ i (by omega) rfl w)) ?_
  refine TL.val rfl rfl rfl (gives_loadR (off := 0 + i * 17) rfl rfl pldag47 pldsz47 (rs_cel.len x26) (fun w1 hw j9 u9 h9 => flat_row rs_cel hw (q := 1) rfl hx26 j9 u9 h9)) ?_
  refine TL.prowS (e := 47) (size := 17) (cs := flat Rs.cells [x26]) rfl rfl rfl rfl rfl (fun w => pldbs26_1_99505 _ _ _ _ _ _ _ _ _ _ _ _ _ _ _ _ _ w) (by decide) rfl (fun g28 => ?_)
  refine TL.appendT (k := 1) rfl rfl rfl rfl Tryz.underlying26 pldel26 rfl rfl rfl (fun w1 hw => pm_reads hw (k := 0) rfl) (flat_one rs_cel _) (by show _ * 128 ≤ _; omega) ((all ++ [x26]).length) (by rw [List.length_append]; rfl) (flat Rs.cells (all ++ [x26])) ((flat_app _ _).symm) (fun A29 c29 hA291 hA292 => ?_)
  refine TL.as_ ?_
  refine TL.end_ (TX.then_ (TC.seq_ (TC.region ?_)))
  refine TL.mv ?_
  refine TL.pcallCod (k := 3) (α := Bool) (fun x => .bool x) (fun x => []) rfl rfl rfl rfl rfl Tryz.func13 pldnm13 pldbd13 rfl (fun w1 hw hC1 => dbool_cod wn.heap.size w1 hC1 4 (by decide)) ?_
  rintro b0
  dsimp only [List.cons_append, List.nil_append]
  refine TL.end_ (TX.then_ ?_)
  refine TC.split (t := b0) rfl (fun c31 => ?_) (fun c31 => ?_)
  ·refine TC.seq_ (TC.region ?_)
   refine TL.mv ?_
   refine TL.mv ?_
   refine TL.val rfl rfl rfl (gives_at (v := .pointer (some ⟨g_Axs, 0 + i * 17, none⟩)) rfl rfl rfl (fun w => at_el Tryz.underlying26 pldsz47 rfl _ _ i (by omega) rfl w)) ?_
   refine TL.val rfl rfl rfl (gives_loadR (off := 0 + i * 17) rfl rfl pldag47 pldsz47 (rs_cel.len x26) (fun w1 hw j9 u9 h9 => flat_row rs_cel hw (q := 2) rfl hx26 j9 u9 h9)) ?_
   refine TL.pnew rfl rfl rfl (exec_alloc (cs := [.int .i64 0, .int .i64 0, .int .i64 0, .int .i64 0, .int .u32 0, .int .i64 0, .int .i64 0, .int .i64 0, .bool false, .bool false, .int .i64 0, .int .u32 0, .int .i64 0, .int .i64 0, .int .i64 0, .int .i64 0, .int .i64 0]) rfl pldzv47 rfl) (fun g7 => ?_)
   refine TL.pstore (k := 0) (vs := x26.cells) rfl rfl rfl rfl rfl rfl rfl pldsz47 (rs_cel.one _) (by show 17 ≤ 17; decide) (L' := ([.blk g7 47 x26.cells, .row (.slice (some ⟨g28, 0, none⟩) 1 1) 47 17 1 (flat Rs.cells [x26]), .row (.slice A29 ((all ++ [x26]).length) c29) 47 17 ((all ++ [x26]).length) (flat Rs.cells (all ++ [x26])), .row (.slice (some ⟨g_Axs, 0, none⟩) xs.length cxs) 47 17 xs.length (flat Rs.cells xs), .abs wn.heap.size (fun w => Cod w wn.heap.size)] ++ mpsP [])) rfl ?_
   refine TL.end_ (TX.then_ (TC.seq_ ?_))
   have hxn := (hxs.1 x26 (List.mem_of_getElem? hx26)).2.2.2.2.1
   refine TC.region ?_
   refine TL.val rfl rfl rfl (gives_field (v := .pointer (some ⟨g7, 2, none⟩)) rfl rfl (fun w => pldfld47_2 _ _ w)) ?_
   refine TL.val rfl rfl rfl (pm_load (k := 0) (i := 2) rfl rfl pldag3 rfl rfl) ?_
   refine TL.val rfl rfl rfl (gives_bin rfl rfl rfl (fun w => bin_add_ (r := x26.num + 500) (by simp only [IntKind.wrap_i64]; omega) w)) ?_
   refine TL.val rfl rfl rfl (gives_field (v := .pointer (some ⟨g7, 2, none⟩)) rfl rfl (fun w => pldfld47_2 _ _ w)) ?_
   refine TL.pstore (k := 0) (vs := [.int .i64 (x26.num + 500)]) rfl rfl rfl rfl rfl rfl rfl pldsz3 pldone_i64 (by show 3 ≤ 17; decide) (L' := ([.blk g7 47 [.int .i64 x26.v, .int .i64 x26.run, .int .i64 (x26.num + 500), .int .i64 x26.at_, .int .u32 x26.dst, .int .i64 x26.proto, .int .i64 x26.flow, .int .i64 x26.ttl, .bool x26.ans, .bool x26.dbl, .int .i64 x26.back, .int .u32 x26.src, .int .i64 x26.kind, .int .i64 x26.code, .int .i64 x26.left, .int .i64 x26.id, .int .i64 x26.quo], .row (.slice (some ⟨g28, 0, none⟩) 1 1) 47 17 1 (flat Rs.cells [x26]), .row (.slice A29 ((all ++ [x26]).length) c29) 47 17 ((all ++ [x26]).length) (flat Rs.cells (all ++ [x26])), .row (.slice (some ⟨g_Axs, 0, none⟩) xs.length cxs) 47 17 xs.length (flat Rs.cells xs), .abs wn.heap.size (fun w => Cod w wn.heap.size)] ++ mpsP [])) rfl ?_
   refine TL.end_ (TX.then_ (TC.seq_ (TC.region ?_)))
   refine TL.val rfl rfl rfl (gives_build (v := .agg #[.int .u32 77, .int .i64 3, .int .i64 0, .int .i64 0, .int .i64 0, .int .i64 0]) rfl rfl (fun w => pldbld45_27257 _ _ w)) ?_
   refine TL.val rfl rfl rfl (gives_field (v := .pointer (some ⟨g7, 8, none⟩)) rfl rfl (fun w => pldfld47_8 _ _ w)) ?_
   refine TL.pstore (k := 0) (vs := [.bool true]) rfl rfl rfl rfl rfl rfl rfl pldsz4 pldone_b (by show 9 ≤ 17; decide) (L' := ([.blk g7 47 [.int .i64 x26.v, .int .i64 x26.run, .int .i64 (x26.num + 500), .int .i64 x26.at_, .int .u32 x26.dst, .int .i64 x26.proto, .int .i64 x26.flow, .int .i64 x26.ttl, .bool true, .bool x26.dbl, .int .i64 x26.back, .int .u32 x26.src, .int .i64 x26.kind, .int .i64 x26.code, .int .i64 x26.left, .int .i64 x26.id, .int .i64 x26.quo], .row (.slice (some ⟨g28, 0, none⟩) 1 1) 47 17 1 (flat Rs.cells [x26]), .row (.slice A29 ((all ++ [x26]).length) c29) 47 17 ((all ++ [x26]).length) (flat Rs.cells (all ++ [x26])), .row (.slice (some ⟨g_Axs, 0, none⟩) xs.length cxs) 47 17 xs.length (flat Rs.cells xs), .abs wn.heap.size (fun w => Cod w wn.heap.size)] ++ mpsP [])) rfl ?_
   refine TL.val rfl rfl rfl (gives_field (v := .pointer (some ⟨g7, 9, none⟩)) rfl rfl (fun w => pldfld47_9 _ _ w)) ?_
   refine TL.pstore (k := 0) (vs := [.bool true]) rfl rfl rfl rfl rfl rfl rfl pldsz4 pldone_b (by show 10 ≤ 17; decide) (L' := ([.blk g7 47 [.int .i64 x26.v, .int .i64 x26.run, .int .i64 (x26.num + 500), .int .i64 x26.at_, .int .u32 x26.dst, .int .i64 x26.proto, .int .i64 x26.flow, .int .i64 x26.ttl, .bool true, .bool true, .int .i64 x26.back, .int .u32 x26.src, .int .i64 x26.kind, .int .i64 x26.code, .int .i64 x26.left, .int .i64 x26.id, .int .i64 x26.quo], .row (.slice (some ⟨g28, 0, none⟩) 1 1) 47 17 1 (flat Rs.cells [x26]), .row (.slice A29 ((all ++ [x26]).length) c29) 47 17 ((all ++ [x26]).length) (flat Rs.cells (all ++ [x26])), .row (.slice (some ⟨g_Axs, 0, none⟩) xs.length cxs) 47 17 xs.length (flat Rs.cells xs), .abs wn.heap.size (fun w => Cod w wn.heap.size)] ++ mpsP [])) rfl ?_
   refine TL.val rfl rfl rfl (gives_field (v := .pointer (some ⟨g7, 11, none⟩)) rfl rfl (fun w => pldfld47_11 _ _ w)) ?_
   refine TL.pstore (k := 0) (vs := [.int .u32 77, .int .i64 3, .int .i64 0, .int .i64 0, .int .i64 0, .int .i64 0]) rfl rfl rfl rfl rfl rfl rfl pldsz45 pldone_u32i64i64i64i64i64 (by show 17 ≤ 17; decide) (L' := ([.blk g7 47 [.int .i64 x26.v, .int .i64 x26.run, .int .i64 (x26.num + 500), .int .i64 x26.at_, .int .u32 x26.dst, .int .i64 x26.proto, .int .i64 x26.flow, .int .i64 x26.ttl, .bool true, .bool true, .int .i64 x26.back, .int .u32 77, .int .i64 3, .int .i64 0, .int .i64 0, .int .i64 0, .int .i64 0], .row (.slice (some ⟨g28, 0, none⟩) 1 1) 47 17 1 (flat Rs.cells [x26]), .row (.slice A29 ((all ++ [x26]).length) c29) 47 17 ((all ++ [x26]).length) (flat Rs.cells (all ++ [x26])), .row (.slice (some ⟨g_Axs, 0, none⟩) xs.length cxs) 47 17 xs.length (flat Rs.cells xs), .abs wn.heap.size (fun w => Cod w wn.heap.size)] ++ mpsP [])) rfl ?_
   refine TL.end_ (TX.then_ ?_)
   have hal1 : (all ++ [x26]).length = all.length + 1 := by simp
   refine TC.region ?_
   refine TL.mv ?_
   refine TL.val rfl rfl rfl (pm_loadV (k := 0) (i := 0) (n := 17) (v := .agg #[.int .i64 x26.v, .int .i64 x26.run, .int .i64 (x26.num + 500), .int .i64 x26.at_, .int .u32 x26.dst, .int .i64 x26.proto, .int .i64 x26.flow, .int .i64 x26.ttl, .bool true, .bool true, .int .i64 x26.back, .int .u32 77, .int .i64 3, .int .i64 0, .int .i64 0, .int .i64 0, .int .i64 0]) rfl rfl pldag47 pldsz47 rfl (by show 17 ≤ 17; decide) rfl) ?_
   refine TL.prowS (e := 47) (size := 17) (cs := flat Rs.cells [(⟨x26.v, x26.run, x26.num + 500, x26.at_, x26.dst, x26.proto, x26.flow, x26.ttl, true, true, x26.back, 77, 3, 0, 0, 0, 0⟩ : Rs)]) rfl rfl rfl rfl rfl (fun w => pldbs26_1_99505 _ _ _ _ _ _ _ _ _ _ _ _ _ _ _ _ _ w) (by decide) rfl (fun g46 => ?_)
   refine TL.appendT (k := 3) rfl rfl rfl rfl Tryz.underlying26 pldel26 rfl rfl rfl (fun w1 hw => pm_reads hw (k := 0) rfl) (flat_one rs_cel _) (by show _ * 128 ≤ _; omega) (((all ++ [x26]) ++ [(⟨x26.v, x26.run, x26.num + 500, x26.at_, x26.dst, x26.proto, x26.flow, x26.ttl, true, true, x26.back, 77, 3, 0, 0, 0, 0⟩ : Rs)]).length) (by rw [List.length_append]; rfl) (flat Rs.cells ((all ++ [x26]) ++ [(⟨x26.v, x26.run, x26.num + 500, x26.at_, x26.dst, x26.proto, x26.flow, x26.ttl, true, true, x26.back, 77, 3, 0, 0, 0, 0⟩ : Rs)])) ((flat_app _ _).symm) (fun A47 c47 hA471 hA472 => ?_)
   refine TL.as_ ?_
   refine TL.end_ (TX.in_normal (TX.then_ (TC.region ?_)))
   refine TL.val rfl rfl rfl (gives_bin rfl rfl rfl (fun w => bin_add_ (r := ((i + 1 : Nat) : Int)) (by simp only [IntKind.wrap_i64]; omega) w)) ?_
   refine TL.mv ?_
   refine TL.end_ ?_
   exact TX.round (⟨(i + 1, (A47, c47), (all ++ [x26]) ++ [(⟨x26.v, x26.run, x26.num + 500, x26.at_, x26.dst, x26.proto, x26.flow, x26.ttl, true, true, x26.back, 77, 3, 0, 0, 0, 0⟩ : Rs)]), by dsimp only; omega, hall.dbl hx26 (hxs.1 x26 (List.mem_of_getElem? hx26)), hA471, hA472⟩) (by show xs.length - (i + 1) < xs.length - i; omega) ⟨rfl, rfl, rfl, rfl, rfl, rfl, trivial⟩ (fun w1 hw => hw.sel (.cons _ (.cons _ (.cons _ (.cons_cons _ (.cons_cons _ (.cons_cons _ (List.Sublist.refl _))))))))
  ·refine TC.skip_ (TX.in_normal (TX.then_ (TC.region ?_)))
   refine TL.val rfl rfl rfl (gives_bin rfl rfl rfl (fun w => bin_add_ (r := ((i + 1 : Nat) : Int)) (by simp only [IntKind.wrap_i64]; omega) w)) ?_
   refine TL.mv ?_
   refine TL.end_ ?_
   exact TX.round (⟨(i + 1, (A29, c29), all ++ [x26]), by dsimp only; omega, hall.one hx26 (hxs.1 x26 (List.mem_of_getElem? hx26)), hA291, hA292⟩) (by show xs.length - (i + 1) < xs.length - i; omega) ⟨rfl, rfl, rfl, rfl, rfl, rfl, trivial⟩ (fun w1 hw => hw.sel (.cons _ (.cons_cons _ (.cons_cons _ (.cons_cons _ (List.Sublist.refl _))))))
 ·have q21 := of_decide_eq_false h21
  refine TL.end_ (TX.then_ (TC.seq_ (TC.condF rfl (TC.exit_ (TX.then_exit (TX.then_exit (TX.in_same (TX.then_ (TC.seq_ ?_)))))))))
  have hall2 := hall.done hxs (by omega)
  have hal : all.length ≤ 40 := by have := hall.len; omega
  have haok := hall2.ok
  refine TC.region ?_
  refine TL.mv ?_
  refine TL.call (α := {y : Mp × Int // BuildOk xs y.1 y.2}) (r := fun x => .tuple #[.agg x.1.1.cells.toArray, .int .i64 x.1.2]) (I' := fun x => Pm wn ([.row (.slice Ao all.length co) 47 17 all.length (flat Rs.cells all), .row (.slice Axs xs.length cxs) 47 17 xs.length (flat Rs.cells xs), .abs wn.heap.size (fun w => Cod w wn.heap.size)] ++ mpsP (x.1.1 :: []))) rfl rfl rfl rfl rfl Tryz.func14 pldnm14 pldbd14 (fun w1 hw => (build_any Axs cxs xs w1 (pm_rd hw (k := 1) rfl) (by omega) hxsok).mono fun e w2 ⟨x, h1, h2⟩ => ⟨x, h1, Pm.mpsIn (P := [.row (.slice Ao all.length co) 47 17 all.length (flat Rs.cells all), .row (.slice Axs xs.length cxs) 47 17 xs.length (flat Rs.cells xs), .abs wn.heap.size (fun w => Cod w wn.heap.size)]) (ms := []) (hw.addAll h2 (pcs_noAbs _))⟩) ?_
  rintro ⟨⟨m, em⟩, hbm⟩
  dsimp only at hbm ⊢
  have hml := build_len hxsok hbm
  refine TL.mv ?_
  refine TL.ex ?_
  refine TL.ex ?_
  refine TL.pnew rfl rfl rfl (exec_alloc (cs := [.int .i64 0, .int .u32 0, .int .i64 0, .int .i64 0, .slice none 0 0, .slice none 0 0]) rfl pldzv36 rfl) (fun g8 => ?_)
  refine TL.pstore (k := 0) (vs := m.cells) rfl rfl rfl rfl rfl rfl rfl pldsz36 pldone_i64u32i64i64ss (by show 6 ≤ 6; decide) (L' := ([.blk g8 36 m.cells, .row (.slice Ao all.length co) 47 17 all.length (flat Rs.cells all), .row (.slice Axs xs.length cxs) 47 17 xs.length (flat Rs.cells xs), .abs wn.heap.size (fun w => Cod w wn.heap.size)] ++ mpsP [m])) rfl ?_
  refine TL.as_ ?_
  refine TL.end_ (TX.then_ (TC.seq_ (TC.region ?_)))
  refine TL.mv ?_
  refine TL.call (α := {y : Mp × Int // BuildOk all y.1 y.2}) (r := fun x => .tuple #[.agg x.1.1.cells.toArray, .int .i64 x.1.2]) (I' := fun x => Pm wn ([.blk g8 36 m.cells, .row (.slice Ao all.length co) 47 17 all.length (flat Rs.cells all), .row (.slice Axs xs.length cxs) 47 17 xs.length (flat Rs.cells xs), .abs wn.heap.size (fun w => Cod w wn.heap.size)] ++ mpsP (x.1.1 :: [m]))) rfl rfl rfl rfl rfl Tryz.func14 pldnm14 pldbd14 (fun w1 hw => (build_any Ao co all w1 (pm_rd hw (k := 1) rfl) (by omega) haok).mono fun e w2 ⟨x, h1, h2⟩ => ⟨x, h1, Pm.mpsIn (P := [.blk g8 36 m.cells, .row (.slice Ao all.length co) 47 17 all.length (flat Rs.cells all), .row (.slice Axs xs.length cxs) 47 17 xs.length (flat Rs.cells xs), .abs wn.heap.size (fun w => Cod w wn.heap.size)]) (ms := [m]) (hw.addAll h2 (pcs_noAbs _))⟩) ?_
  rintro ⟨⟨z, ez⟩, hbz⟩
  dsimp only at hbz ⊢
  have hzl := build_len haok hbz
  refine TL.mv ?_
  refine TL.ex ?_
  refine TL.ex ?_
  refine TL.pnew rfl rfl rfl (exec_alloc (cs := [.int .i64 0, .int .u32 0, .int .i64 0, .int .i64 0, .slice none 0 0, .slice none 0 0]) rfl pldzv36 rfl) (fun g10 => ?_)
  refine TL.pstore (k := 0) (vs := z.cells) rfl rfl rfl rfl rfl rfl rfl pldsz36 pldone_i64u32i64i64ss (by show 6 ≤ 6; decide) (L' := ([.blk g10 36 z.cells, .blk g8 36 m.cells, .row (.slice Ao all.length co) 47 17 all.length (flat Rs.cells all), .row (.slice Axs xs.length cxs) 47 17 xs.length (flat Rs.cells xs), .abs wn.heap.size (fun w => Cod w wn.heap.size)] ++ mpsP [z, m])) rfl ?_
  refine TL.as_ ?_
  refine TL.end_ (TX.then_ (TC.seq_ ?_))
  have hem := one_err hxs (by decide) hbm.1
  have hez := hall2.err hxs (by omega) hbz.1
  have hsame := hall2.same hbm hbz hem hez
  refine TC.region ?_
  refine TL.mv ?_
  refine TL.val rfl rfl rfl (gives_bin rfl rfl rfl (fun w => bin_eql_t (hem) w)) ?_
  iterate 4 (first | refine TL.gu ?_ | refine TL.mv ?_)
  refine TL.val rfl rfl rfl (gives_bin rfl rfl rfl (fun w => bin_eql_t (hez) w)) ?_
  refine TL.pk ?_
  refine TL.mv ?_
  refine TL.gu ?_
  refine TL.val rfl rfl rfl (pm_loadV (k := 1) (i := 0) (n := 6) (v := .agg (m.cells).toArray) rfl rfl pldag36 pldsz36 rfl (by show 6 ≤ 6; decide) rfl) ?_
  refine TL.gu ?_
  refine TL.val rfl rfl rfl (pm_loadV (k := 0) (i := 0) (n := 6) (v := .agg (z.cells).toArray) rfl rfl pldag36 pldsz36 rfl (by show 6 ≤ 6; decide) rfl) ?_
  refine TL.gu ?_
  refine TL.pcall1 (r := .bool true) rfl rfl rfl rfl rfl Tryz.func16 pldnm16 pldbd16 (fun w1 hw => (by have h9 := rsame_any m z w1 (MpR.of (hml) (by omega) hw (fun q hq => List.mem_of_mem_drop (i := 5) (by exact mps_mem (by simp) hq))) (MpR.of (hzl) (by omega) hw (fun q hq => List.mem_of_mem_drop (i := 5) (by exact mps_mem (by simp) hq))); rw [hsame] at h9; exact h9)) ?_
  iterate 5 (first | refine TL.gu ?_ | refine TL.mv ?_ | refine TL.pk ?_)
  refine TL.pcall1 (r := .int .i64 (endT xs)) rfl rfl rfl rfl rfl Tryz.func20 pldnm20 pldbd20 (fun w1 hw => end_any Axs cxs xs w1 (pm_rd hw (k := 3) rfl) (by omega)) ?_
  refine TL.gu ?_
  refine TL.mv ?_
  refine TL.gu ?_
  refine TL.pcall1 (r := .int .i64 (endT all)) rfl rfl rfl rfl rfl Tryz.func20 pldnm20 pldbd20 (fun w1 hw => end_any Ao co all w1 (pm_rd hw (k := 2) rfl) (by omega)) ?_
  refine TL.gu ?_
  refine TL.val rfl rfl rfl (gives_bin rfl rfl rfl (fun w => bin_eql_t (hall2.use.end_) w)) ?_
  refine TL.pk ?_
  refine TL.as_ ?_
  refine TL.end_ (TX.then_ (TC.ret_ ?_))
  exact ret_tmp Tryz.results6 rfl (fun w1 hw => ⟨rfl, hwb.trans (hw.bel.mono hwb.size)⟩)
end Go.Proofs.YtnejdeklnmkhbaaGreat
