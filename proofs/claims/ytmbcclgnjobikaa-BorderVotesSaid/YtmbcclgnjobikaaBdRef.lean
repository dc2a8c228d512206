/-
  Registries of the reference (chapters 1 and 32).
-/
import Derived.Test.YtmbcclgnjobikaaBdReg
import Derived.Test.YtmbcclgnjobikaaDcDraw
namespace Go.Proofs.Ytmbcclgnjobikaa
open Go.RowKit
set_option linter.unusedVariables false
set_option linter.unusedSimpArgs false
set_option maxRecDepth 20000
def En.Ok (e : En) : Prop := 0 ≤ e.addr ∧ e.addr ≤ 4294967295
def sizeF (n : Int) : Int := IntKind.i64.wrap (1 * 2 ^ (32 - n).toNat)
def rvldP (a n : Int) : Bool := decide (0 ≤ n) && decide (n ≤ 32) && decide (a % sizeF n = 0)
def rvalidE (e : En) : Bool := rvldP e.addr e.len && decide (1 ≤ e.prov) && decide (e.prov ≤ 2147483647) && decide (0 ≤ e.frm) && decide (e.frm < e.to_) && decide (e.to_ ≤ 1125899906842624)
theorem sizeF_pos (n : Int) (h0 : 0 ≤ n := by omega) (h1 : n ≤ 32 := by omega) : 0 < sizeF n := by
  have key : ∀ k : Fin 33, 0 < IntKind.i64.wrap (1 * 2 ^ k.val) := by decide
  have hk : (32 - n).toNat < 33 := by omega
  exact key ⟨(32 - n).toNat, hk⟩
theorem cmpI_zero {a b : Int} : cmpI a b = 0 ↔ a = b := by unfold cmpI; split <;> (try split) <;> omega
theorem brffld43_1 (g o : Nat) (w : World) : (Instr.fieldAt 43 (.pointer (some ⟨g, o, none⟩)) 1).run Try.prog w = .ok (.pointer (some ⟨g, o + 1, none⟩)) w := by kernel_rfl
theorem brfag3 (w : World) : (isAgg 3).run Try.prog w = .ok false w := rfl
theorem brffld43_0 (g o : Nat) (w : World) : (Instr.fieldAt 43 (.pointer (some ⟨g, o, none⟩)) 0).run Try.prog w = .ok (.pointer (some ⟨g, o + 0, none⟩)) w := by kernel_rfl
theorem brfag29 (w : World) : (isAgg 29).run Try.prog w = .ok false w := rfl
theorem brfnm46 : (Try.f46.name == "runtime.NumGoroutine") = false := by decide
theorem brfbd46 : Try.f46.body.isNone = false := rfl
theorem brfnm39 : (Try.f39.name == "runtime.NumGoroutine") = false := by decide
theorem brfbd39 : Try.f39.body.isNone = false := rfl
theorem brffld45_0 (g o : Nat) (w : World) : (Instr.fieldAt 45 (.pointer (some ⟨g, o, none⟩)) 0).run Try.prog w = .ok (.pointer (some ⟨g, o + 0, none⟩)) w := by kernel_rfl
theorem brfag43 (w : World) : (isAgg 43).run Try.prog w = .ok true w := rfl
theorem brfsz43 (w : World) : (sizeOf 43).run Try.prog w = .ok 2 w := rfl
theorem brfnm38 : (Try.f38.name == "runtime.NumGoroutine") = false := by decide
theorem brfbd38 : Try.f38.body.isNone = false := rfl
theorem brffld45_1 (g o : Nat) (w : World) : (Instr.fieldAt 45 (.pointer (some ⟨g, o, none⟩)) 1).run Try.prog w = .ok (.pointer (some ⟨g, o + 2, none⟩)) w := by kernel_rfl
theorem brffld45_2 (g o : Nat) (w : World) : (Instr.fieldAt 45 (.pointer (some ⟨g, o, none⟩)) 2).run Try.prog w = .ok (.pointer (some ⟨g, o + 3, none⟩)) w := by kernel_rfl
theorem brffld45_3 (g o : Nat) (w : World) : (Instr.fieldAt 45 (.pointer (some ⟨g, o, none⟩)) 3).run Try.prog w = .ok (.pointer (some ⟨g, o + 4, none⟩)) w := by kernel_rfl
theorem brfnm30 : (Try.f30.name == "runtime.NumGoroutine") = false := by decide
theorem brfbd30 : Try.f30.body.isNone = false := rfl
theorem brfbld79_27268 (a0_0 : Int) (a1_0 : Int) (w : World) : (Instr.build 79 #[(0, .int .i64 a0_0), (1, .int .i64 a1_0)]).run Try.prog w = .ok (.agg #[.int .i64 a0_0, .int .i64 a1_0]) w := by kernel_rfl
theorem brfbld80_13922 (a0_0 : Int) (a0_1 : Int) (a1_0 : Int) (a1_1 : Int) (a2_0 : Int) (a2_1 : Int) (w : World) : (Instr.build 80 #[(0, .agg #[.int .i64 a0_0, .int .i64 a0_1]), (1, .agg #[.int .i64 a1_0, .int .i64 a1_1]), (2, .agg #[.int .i64 a2_0, .int .i64 a2_1])]).run Try.prog w = .ok (.agg #[.int .i64 a0_0, .int .i64 a0_1, .int .i64 a1_0, .int .i64 a1_1, .int .i64 a2_0, .int .i64 a2_1]) w := by kernel_rfl
theorem brfzv79 (w : World) : (zeroValue 79).run Try.prog w = .ok (.agg #[.int .i64 0, .int .i64 0]) w := rfl
theorem brfsz79 (w : World) : (sizeOf 79).run Try.prog w = .ok 2 w := rfl
theorem brfone_i64i64 {a0 : Int} {a1 : Int} : ∀ u ∈ [(.int .i64 a0 : Value), .int .i64 a1], u.oneCell' = true := by
  intro u hu
  simp only [List.mem_cons, List.not_mem_nil, or_false] at hu
  rcases hu with rfl | rfl <;> rfl
theorem brfsz3 (w : World) : (sizeOf 3).run Try.prog w = .ok 1 w := rfl
theorem brffld34_0 (g o : Nat) (w : World) : (Instr.fieldAt 34 (.pointer (some ⟨g, o, none⟩)) 0).run Try.prog w = .ok (.pointer (some ⟨g, o + 0, none⟩)) w := by kernel_rfl
theorem brfag32 (w : World) : (isAgg 32).run Try.prog w = .ok false w := rfl
theorem brfsz45 (w : World) : (sizeOf 45).run Try.prog w = .ok 5 w := rfl
theorem brfag45 (w : World) : (isAgg 45).run Try.prog w = .ok true w := rfl
theorem brfnm29 : (Try.f29.name == "runtime.NumGoroutine") = false := by decide
theorem brfbd29 : Try.f29.body.isNone = false := rfl
theorem brfzv45 (w : World) : (zeroValue 45).run Try.prog w = .ok (.agg #[.int .u32 0, .int .i64 0, .int .i64 0, .int .i64 0, .int .i64 0]) w := rfl
set_option maxHeartbeats 1000000 in
theorem size_any (n : Int) (h0 : 0 ≤ n) (h1 : n ≤ 32) (w : World) :
    Calls Try.prog 46 #[.int .i64 n] w fun e w' => e = .returned (.int .i64 (sizeF n)) ∧ w' = w := by
  refine begin_ (vs := [.int .i64 n]) (I := fun w1 => w1 = w) Try.func46 rfl rfl rfl ?_ rfl
  refine TC.seq_ ?_
  refine TC.region ?_
  refine TL.val rfl rfl rfl (gives_assign rfl rfl) ?_
  refine TL.end_ ?_
  refine TX.then_ ?_
  refine TC.seq_ ?_
  refine TC.region ?_
  refine TL.val rfl rfl rfl (gives_move rfl rfl) ?_
  refine TL.val rfl rfl rfl (gives_bin rfl rfl rfl (fun w => bin_sub_ (r := 32 - n) (by simp only [IntKind.wrap_i64]; omega) w)) ?_
  refine TL.val rfl rfl rfl (gives_bin (v := .int .i64 (sizeF n)) rfl rfl rfl (fun w => bin_shl (2 ^ (32 - n).toNat) (by omega) (by simp only [IntKind.bits]; omega) rfl w)) ?_
  refine TL.val rfl rfl rfl (gives_assign rfl rfl) ?_
  refine TL.end_ ?_
  refine TX.then_ ?_
  refine TC.ret_ ?_
  exact ret_tmp Try.results46 rfl (fun w1 hw => ⟨rfl, hw⟩)
set_option maxHeartbeats 1000000 in
theorem order_any (x y : Int) (w : World) :
    Calls Try.prog 39 #[.int .i64 x, .int .i64 y] w fun e w' => e = .returned (.int .i64 (cmpI x y)) ∧ w' = w := by
  refine begin_ (vs := [.int .i64 x, .int .i64 y]) (I := fun w1 => w1 = w) Try.func39 rfl rfl rfl ?_ rfl
  refine TC.seq_ ?_
  refine TC.region ?_
  refine TL.val rfl rfl rfl (gives_assign rfl rfl) ?_
  refine TL.end_ ?_
  refine TX.then_ ?_
  refine TC.seq_ ?_
  refine TC.seq_ ?_
  refine TC.region ?_
  refine TL.val rfl rfl rfl (gives_move rfl rfl) ?_
  refine TL.val rfl rfl rfl (gives_move rfl rfl) ?_
  refine TL.vsplit rfl rfl rfl (gives_bin rfl rfl rfl (fun w => bin_lss w)) (fun h7 => ?_) (fun h7 => ?_)
  · have q7 := of_decide_eq_true h7
    refine TL.end_ ?_
    refine TX.then_ ?_
    refine TC.condT rfl ?_
    refine TC.seq_ ?_
    refine TC.region ?_
    refine TL.val rfl rfl rfl (gives_assign rfl rfl) ?_
    refine TL.end_ ?_
    refine TX.then_ ?_
    refine TC.ret_ ?_
    refine TX.then_ret ?_
    have hE : (cmpI x y) = -1 := (by simp [cmpI, q7]; try omega)
    exact ret_tmp Try.results39 rfl (fun w1 hw => ⟨by rw [hE], hw⟩)
  · have q7 := of_decide_eq_false h7
    refine TL.end_ ?_
    refine TX.then_ ?_
    refine TC.condF rfl ?_
    refine TC.skip_ ?_
    refine TX.then_ ?_
    refine TC.seq_ ?_
    refine TC.seq_ ?_
    refine TC.region ?_
    refine TL.val rfl rfl rfl (gives_move rfl rfl) ?_
    refine TL.val rfl rfl rfl (gives_move rfl rfl) ?_
    refine TL.vsplit rfl rfl rfl (gives_bin rfl rfl rfl (fun w => bin_gtr w)) (fun h10 => ?_) (fun h10 => ?_)
    · have q10 := of_decide_eq_true h10
      refine TL.end_ ?_
      refine TX.then_ ?_
      refine TC.condT rfl ?_
      refine TC.seq_ ?_
      refine TC.region ?_
      refine TL.val rfl rfl rfl (gives_assign rfl rfl) ?_
      refine TL.end_ ?_
      refine TX.then_ ?_
      refine TC.ret_ ?_
      refine TX.then_ret ?_
      have hE : (cmpI x y) = 1 := (by simp [cmpI, q7, q10]; try omega)
      exact ret_tmp Try.results39 rfl (fun w1 hw => ⟨by rw [hE], hw⟩)
    · have q10 := of_decide_eq_false h10
      refine TL.end_ ?_
      refine TX.then_ ?_
      refine TC.condF rfl ?_
      refine TC.skip_ ?_
      refine TX.then_ ?_
      refine TC.seq_ ?_
      refine TC.region ?_
      refine TL.val rfl rfl rfl (gives_assign rfl rfl) ?_
      refine TL.end_ ?_
      refine TX.then_ ?_
      refine TC.ret_ ?_
      have hE : (cmpI x y) = 0 := (by simp [cmpI, q7, q10]; try omega)
      exact ret_tmp Try.results39 rfl (fun w1 hw => ⟨by rw [hE], hw⟩)
set_option maxHeartbeats 1000000 in
theorem rvld_any (a n : Int) (har : 0 ≤ a ∧ a ≤ 4294967295) (w : World) :
    Calls Try.prog 38 #[.agg #[.int .u32 a, .int .i64 n]] w fun e w' => e = .returned (.bool (rvldP a n)) ∧ Below w.heap.size w w' := by
  refine begin_ (vs := [.agg #[.int .u32 a, .int .i64 n]]) Try.func38 rfl rfl rfl ?_ (Pm.start w)
  refine TC.seq_ ?_
  refine TC.region ?_
  refine TL.pnew rfl rfl rfl (exec_box (cs := [.int .u32 a, .int .i64 n]) rfl rfl rfl) (fun g1 => ?_)
  refine TL.val rfl rfl rfl (gives_assign rfl rfl) ?_
  refine TL.end_ ?_
  refine TX.then_ ?_
  refine TC.seq_ ?_
  refine TC.quietQ (by kernel_rfl) (by kernel_rfl) (fun w hw => hw.drawn _) ?_
  refine TQ.val rfl rfl rfl (gives_field (v := .pointer (some ⟨g1, 1, none⟩)) rfl rfl (fun w => brffld43_1 _ _ w)) ?_
  refine TQ.val rfl rfl rfl (pm_load (k := 0) (i := 1) rfl rfl brfag3 rfl rfl) ?_
  refine TQ.vsplit rfl rfl rfl (gives_bin rfl rfl rfl (fun w => bin_geq w)) (fun h5 => ?_) (fun h5 => ?_)
  · have q5 := of_decide_eq_true h5
    refine TQ.val rfl rfl rfl (gives_move rfl rfl) ?_
    refine TQ.on rfl rfl rfl ?_
    refine TQ.val rfl rfl rfl (gives_field (v := .pointer (some ⟨g1, 1, none⟩)) rfl rfl (fun w => brffld43_1 _ _ w)) ?_
    refine TQ.on rfl rfl rfl ?_
    refine TQ.val rfl rfl rfl (pm_load (k := 0) (i := 1) rfl rfl brfag3 rfl rfl) ?_
    refine TQ.on rfl rfl rfl ?_
    refine TQ.vsplit rfl rfl rfl (gives_bin rfl rfl rfl (fun w => bin_leq w)) (fun h9 => ?_) (fun h9 => ?_)
    · have q9 := of_decide_eq_true h9
      refine TQ.val rfl rfl rfl (gives_pick rfl rfl rfl) ?_
      refine TQ.val rfl rfl rfl (gives_move rfl rfl) ?_
      refine TQ.on rfl rfl rfl ?_
      refine TQ.val rfl rfl rfl (gives_field (v := .pointer (some ⟨g1, 0, none⟩)) rfl rfl (fun w => brffld43_0 _ _ w)) ?_
      refine TQ.on rfl rfl rfl ?_
      refine TQ.val rfl rfl rfl (pm_load (k := 0) (i := 0) rfl rfl brfag29 rfl rfl) ?_
      refine TQ.on rfl rfl rfl ?_
      refine TQ.val rfl rfl rfl (gives_conv rfl rfl (fun w => conv_fit (k := .u32) Try.underlying3 Try.underlying29 (by simp only [IntKind.wrap_i64]; omega) w)) ?_
      refine TQ.on rfl rfl rfl ?_
      refine TQ.val rfl rfl rfl (gives_field (v := .pointer (some ⟨g1, 1, none⟩)) rfl rfl (fun w => brffld43_1 _ _ w)) ?_
      refine TQ.on rfl rfl rfl ?_
      refine TQ.val rfl rfl rfl (pm_load (k := 0) (i := 1) rfl rfl brfag3 rfl rfl) ?_
      refine TQ.on rfl rfl rfl ?_
      refine TQ.call (v := .int .i64 (sizeF n)) rfl rfl rfl rfl rfl Try.func46 brfnm46 brfbd46 (fun w1 hw => (still_bel (size_any n (by omega) (by omega) w1)).mono fun en w2 ⟨h1, h2⟩ => ⟨h1, hw.below h2⟩) ?_
      refine TQ.on rfl rfl rfl ?_
      refine TQ.val rfl rfl rfl (gives_bin rfl rfl rfl (fun w => bin_remk (m := a) (n := sizeF n) (by omega) (by have := sizeF_pos n; omega) w)) ?_
      refine TQ.on rfl rfl rfl ?_
      refine TQ.vsplit rfl rfl rfl (gives_bin rfl rfl rfl (fun w => bin_eql w)) (fun h19 => ?_) (fun h19 => ?_)
      · have q19 := of_decide_eq_true h19
        refine TQ.val rfl rfl rfl (gives_pick rfl rfl rfl) ?_
        refine TQ.val rfl rfl rfl (gives_assign rfl rfl) ?_
        refine TQ.fin ?_
        refine TX.then_ ?_
        refine TC.ret_ ?_
        have hE : (rvldP a n) = true := (by simp [rvldP, q5, q9, q19]; try omega)
        exact ret_tmp Try.results38 rfl (fun w1 hw => ⟨by rw [hE], hw.bel⟩)
      · have q19 := of_decide_eq_false h19
        refine TQ.val rfl rfl rfl (gives_pick rfl rfl rfl) ?_
        refine TQ.val rfl rfl rfl (gives_assign rfl rfl) ?_
        refine TQ.fin ?_
        refine TX.then_ ?_
        refine TC.ret_ ?_
        have hE : (rvldP a n) = false := (by simp [rvldP, q5, q9, q19]; try omega)
        exact ret_tmp Try.results38 rfl (fun w1 hw => ⟨by rw [hE], hw.bel⟩)
    · have q9 := of_decide_eq_false h9
      refine TQ.val rfl rfl rfl (gives_pick rfl rfl rfl) ?_
      refine TQ.val rfl rfl rfl (gives_move rfl rfl) ?_
      refine TQ.off rfl rfl rfl rfl rfl rfl ?_
      refine TQ.off rfl rfl rfl rfl rfl rfl ?_
      refine TQ.off rfl rfl rfl rfl rfl rfl ?_
      refine TQ.off rfl rfl rfl rfl rfl rfl ?_
      refine TQ.off rfl rfl rfl rfl rfl rfl ?_
      refine TQ.off rfl rfl rfl rfl rfl rfl ?_
      refine TQ.off rfl rfl rfl rfl rfl rfl ?_
      refine TQ.off rfl rfl rfl rfl rfl rfl ?_
      refine TQ.val rfl rfl rfl (gives_pick rfl rfl rfl) ?_
      refine TQ.val rfl rfl rfl (gives_assign rfl rfl) ?_
      refine TQ.fin ?_
      refine TX.then_ ?_
      refine TC.ret_ ?_
      have hE : (rvldP a n) = false := (by simp [rvldP, q5, q9]; try omega)
      exact ret_tmp Try.results38 rfl (fun w1 hw => ⟨by rw [hE], hw.bel⟩)
  · have q5 := of_decide_eq_false h5
    refine TQ.val rfl rfl rfl (gives_move rfl rfl) ?_
    refine TQ.off rfl rfl rfl rfl rfl rfl ?_
    refine TQ.off rfl rfl rfl rfl rfl rfl ?_
    refine TQ.off rfl rfl rfl rfl rfl rfl ?_
    refine TQ.val rfl rfl rfl (gives_pick rfl rfl rfl) ?_
    refine TQ.val rfl rfl rfl (gives_move rfl rfl) ?_
    refine TQ.off rfl rfl rfl rfl rfl rfl ?_
    refine TQ.off rfl rfl rfl rfl rfl rfl ?_
    refine TQ.off rfl rfl rfl rfl rfl rfl ?_
    refine TQ.off rfl rfl rfl rfl rfl rfl ?_
    refine TQ.off rfl rfl rfl rfl rfl rfl ?_
    refine TQ.off rfl rfl rfl rfl rfl rfl ?_
    refine TQ.off rfl rfl rfl rfl rfl rfl ?_
    refine TQ.off rfl rfl rfl rfl rfl rfl ?_
    refine TQ.val rfl rfl rfl (gives_pick rfl rfl rfl) ?_
    refine TQ.val rfl rfl rfl (gives_assign rfl rfl) ?_
    refine TQ.fin ?_
    refine TX.then_ ?_
    refine TC.ret_ ?_
    have hE : (rvldP a n) = false := (by simp [rvldP, q5]; try omega)
    exact ret_tmp Try.results38 rfl (fun w1 hw => ⟨by rw [hE], hw.bel⟩)
set_option maxHeartbeats 1000000 in
theorem rcmpP_any (a n b m : Int) (har : 0 ≤ a ∧ a ≤ 4294967295) (hbr : 0 ≤ b ∧ b ≤ 4294967295) (w : World) :
    Calls Try.prog 30 #[.agg #[.int .u32 a, .int .i64 n], .agg #[.int .u32 b, .int .i64 m]] w fun e w' => e = .returned (.int .i64 (cmpP a n b m)) ∧ Below w.heap.size w w' := by
  refine begin_ (vs := [.agg #[.int .u32 a, .int .i64 n], .agg #[.int .u32 b, .int .i64 m]]) Try.func30 rfl rfl rfl ?_ (Pm.start w)
  refine TC.seq_ ?_
  refine TC.region ?_
  refine TL.pnew rfl rfl rfl (exec_box (cs := [.int .u32 a, .int .i64 n]) rfl rfl rfl) (fun g2 => ?_)
  refine TL.pnew rfl rfl rfl (exec_box (cs := [.int .u32 b, .int .i64 m]) rfl rfl rfl) (fun g3 => ?_)
  refine TL.val rfl rfl rfl (gives_assign rfl rfl) ?_
  refine TL.end_ ?_
  refine TX.then_ ?_
  refine TC.seq_ ?_
  refine TC.seq_ ?_
  refine TC.region ?_
  refine TL.val rfl rfl rfl (gives_field (v := .pointer (some ⟨g2, 0, none⟩)) rfl rfl (fun w => brffld43_0 _ _ w)) ?_
  refine TL.val rfl rfl rfl (pm_load (k := 1) (i := 0) rfl rfl brfag29 rfl rfl) ?_
  refine TL.val rfl rfl rfl (gives_field (v := .pointer (some ⟨g3, 0, none⟩)) rfl rfl (fun w => brffld43_0 _ _ w)) ?_
  refine TL.val rfl rfl rfl (pm_load (k := 0) (i := 0) rfl rfl brfag29 rfl rfl) ?_
  refine TL.vsplit rfl rfl rfl (gives_bin rfl rfl rfl (fun w => bin_neq w)) (fun h9 => ?_) (fun h9 => ?_)
  · have q9 := of_decide_eq_true h9
    refine TL.end_ ?_
    refine TX.then_ ?_
    refine TC.condT rfl ?_
    refine TC.seq_ ?_
    refine TC.region ?_
    refine TL.val rfl rfl rfl (gives_field (v := .pointer (some ⟨g2, 0, none⟩)) rfl rfl (fun w => brffld43_0 _ _ w)) ?_
    refine TL.val rfl rfl rfl (pm_load (k := 1) (i := 0) rfl rfl brfag29 rfl rfl) ?_
    refine TL.val rfl rfl rfl (gives_conv rfl rfl (fun w => conv_fit (k := .u32) Try.underlying3 Try.underlying29 (by simp only [IntKind.wrap_i64]; omega) w)) ?_
    refine TL.val rfl rfl rfl (gives_field (v := .pointer (some ⟨g3, 0, none⟩)) rfl rfl (fun w => brffld43_0 _ _ w)) ?_
    refine TL.val rfl rfl rfl (pm_load (k := 0) (i := 0) rfl rfl brfag29 rfl rfl) ?_
    refine TL.val rfl rfl rfl (gives_conv rfl rfl (fun w => conv_fit (k := .u32) Try.underlying3 Try.underlying29 (by simp only [IntKind.wrap_i64]; omega) w)) ?_
    refine TL.pcall1 (r := .int .i64 (cmpI a b)) rfl rfl rfl rfl rfl Try.func39 brfnm39 brfbd39 (fun w1 hw => still_bel (order_any a b w1)) ?_
    refine TL.val rfl rfl rfl (gives_assign rfl rfl) ?_
    refine TL.end_ ?_
    refine TX.then_ ?_
    refine TC.ret_ ?_
    refine TX.then_ret ?_
    have hE : (cmpP a n b m) = cmpI a b := (by simp [cmpP, cmpI_zero, q9]; try omega)
    exact ret_tmp Try.results30 rfl (fun w1 hw => ⟨by rw [hE], hw.bel⟩)
  · have q9 := of_decide_eq_false h9
    refine TL.end_ ?_
    refine TX.then_ ?_
    refine TC.condF rfl ?_
    refine TC.skip_ ?_
    refine TX.then_ ?_
    refine TC.seq_ ?_
    refine TC.region ?_
    refine TL.val rfl rfl rfl (gives_field (v := .pointer (some ⟨g2, 1, none⟩)) rfl rfl (fun w => brffld43_1 _ _ w)) ?_
    refine TL.val rfl rfl rfl (pm_load (k := 1) (i := 1) rfl rfl brfag3 rfl rfl) ?_
    refine TL.val rfl rfl rfl (gives_field (v := .pointer (some ⟨g3, 1, none⟩)) rfl rfl (fun w => brffld43_1 _ _ w)) ?_
    refine TL.val rfl rfl rfl (pm_load (k := 0) (i := 1) rfl rfl brfag3 rfl rfl) ?_
    refine TL.pcall1 (r := .int .i64 (cmpI n m)) rfl rfl rfl rfl rfl Try.func39 brfnm39 brfbd39 (fun w1 hw => still_bel (order_any n m w1)) ?_
    refine TL.val rfl rfl rfl (gives_assign rfl rfl) ?_
    refine TL.end_ ?_
    refine TX.then_ ?_
    refine TC.ret_ ?_
    have hE : (cmpP a n b m) = cmpI n m := (by simp [cmpP, cmpI_zero, q9]; try omega)
    exact ret_tmp Try.results30 rfl (fun w1 hw => ⟨by rw [hE], hw.bel⟩)
set_option maxHeartbeats 1000000 in
theorem rvalE_any (x : En) (hx : x.Ok) (w : World) :
    Calls Try.prog 29 #[.agg x.cells.toArray] w fun e w' => e = .returned (.bool (rvalidE x)) ∧ Below w.heap.size w w' := by
  refine begin_ (vs := [.agg x.cells.toArray]) Try.func29 rfl rfl rfl ?_ (Pm.start w)
  refine TC.seq_ ?_
  refine TC.region ?_
  refine TL.pnew rfl rfl rfl (exec_box (cs := x.cells) rfl rfl rfl) (fun g1 => ?_)
  refine TL.val rfl rfl rfl (gives_assign rfl rfl) ?_
  refine TL.end_ ?_
  refine TX.then_ ?_
  refine TC.seq_ ?_
  refine TC.region ?_
  refine TL.val rfl rfl rfl (gives_field (v := .pointer (some ⟨g1, 0, none⟩)) rfl rfl (fun w => brffld45_0 _ _ w)) ?_
  refine TL.val rfl rfl rfl (pm_loadV (k := 0) (i := 0) (n := 2) (v := .agg #[.int .u32 x.addr, .int .i64 x.len]) rfl rfl brfag43 brfsz43 rfl (by show 2 ≤ 5; decide) rfl) ?_
  refine TL.callsplit rfl rfl rfl rfl rfl Try.func38 brfnm38 brfbd38 (fun w1 hw => rvld_any x.addr x.len hx w1) (fun h5 => ?_) (fun h5 => ?_)
  · refine TL.val rfl rfl rfl (gives_move rfl rfl) ?_
    refine TL.on rfl rfl rfl ?_
    refine TL.val rfl rfl rfl (gives_field (v := .pointer (some ⟨g1, 2, none⟩)) rfl rfl (fun w => brffld45_1 _ _ w)) ?_
    refine TL.on rfl rfl rfl ?_
    refine TL.val rfl rfl rfl (pm_load (k := 0) (i := 2) rfl rfl brfag3 rfl rfl) ?_
    refine TL.on rfl rfl rfl ?_
    refine TL.vsplit rfl rfl rfl (gives_bin rfl rfl rfl (fun w => bin_geq w)) (fun h9 => ?_) (fun h9 => ?_)
    · have q9 := of_decide_eq_true h9
      refine TL.val rfl rfl rfl (gives_pick rfl rfl rfl) ?_
      refine TL.val rfl rfl rfl (gives_move rfl rfl) ?_
      refine TL.on rfl rfl rfl ?_
      refine TL.val rfl rfl rfl (gives_field (v := .pointer (some ⟨g1, 2, none⟩)) rfl rfl (fun w => brffld45_1 _ _ w)) ?_
      refine TL.on rfl rfl rfl ?_
      refine TL.val rfl rfl rfl (pm_load (k := 0) (i := 2) rfl rfl brfag3 rfl rfl) ?_
      refine TL.on rfl rfl rfl ?_
      refine TL.vsplit rfl rfl rfl (gives_bin rfl rfl rfl (fun w => bin_leq w)) (fun h14 => ?_) (fun h14 => ?_)
      · have q14 := of_decide_eq_true h14
        refine TL.val rfl rfl rfl (gives_pick rfl rfl rfl) ?_
        refine TL.val rfl rfl rfl (gives_move rfl rfl) ?_
        refine TL.on rfl rfl rfl ?_
        refine TL.val rfl rfl rfl (gives_field (v := .pointer (some ⟨g1, 3, none⟩)) rfl rfl (fun w => brffld45_2 _ _ w)) ?_
        refine TL.on rfl rfl rfl ?_
        refine TL.val rfl rfl rfl (pm_load (k := 0) (i := 3) rfl rfl brfag3 rfl rfl) ?_
        refine TL.on rfl rfl rfl ?_
        refine TL.vsplit rfl rfl rfl (gives_bin rfl rfl rfl (fun w => bin_geq w)) (fun h19 => ?_) (fun h19 => ?_)
        · have q19 := of_decide_eq_true h19
          refine TL.val rfl rfl rfl (gives_pick rfl rfl rfl) ?_
          refine TL.val rfl rfl rfl (gives_move rfl rfl) ?_
          refine TL.on rfl rfl rfl ?_
          refine TL.val rfl rfl rfl (gives_field (v := .pointer (some ⟨g1, 3, none⟩)) rfl rfl (fun w => brffld45_2 _ _ w)) ?_
          refine TL.on rfl rfl rfl ?_
          refine TL.val rfl rfl rfl (pm_load (k := 0) (i := 3) rfl rfl brfag3 rfl rfl) ?_
          refine TL.on rfl rfl rfl ?_
          refine TL.val rfl rfl rfl (gives_field (v := .pointer (some ⟨g1, 4, none⟩)) rfl rfl (fun w => brffld45_3 _ _ w)) ?_
          refine TL.on rfl rfl rfl ?_
          refine TL.val rfl rfl rfl (pm_load (k := 0) (i := 4) rfl rfl brfag3 rfl rfl) ?_
          refine TL.on rfl rfl rfl ?_
          refine TL.vsplit rfl rfl rfl (gives_bin rfl rfl rfl (fun w => bin_lss w)) (fun h26 => ?_) (fun h26 => ?_)
          · have q26 := of_decide_eq_true h26
            refine TL.val rfl rfl rfl (gives_pick rfl rfl rfl) ?_
            refine TL.val rfl rfl rfl (gives_move rfl rfl) ?_
            refine TL.on rfl rfl rfl ?_
            refine TL.val rfl rfl rfl (gives_field (v := .pointer (some ⟨g1, 4, none⟩)) rfl rfl (fun w => brffld45_3 _ _ w)) ?_
            refine TL.on rfl rfl rfl ?_
            refine TL.val rfl rfl rfl (pm_load (k := 0) (i := 4) rfl rfl brfag3 rfl rfl) ?_
            refine TL.on rfl rfl rfl ?_
            refine TL.vsplit rfl rfl rfl (gives_bin rfl rfl rfl (fun w => bin_leq w)) (fun h31 => ?_) (fun h31 => ?_)
            · have q31 := of_decide_eq_true h31
              refine TL.val rfl rfl rfl (gives_pick rfl rfl rfl) ?_
              refine TL.val rfl rfl rfl (gives_assign rfl rfl) ?_
              refine TL.end_ ?_
              refine TX.then_ ?_
              refine TC.ret_ ?_
              have hE : (rvalidE x) = true := (by simp [rvalidE, h5, q9, q14, q19, q26, q31]; try omega)
              exact ret_tmp Try.results29 rfl (fun w1 hw => ⟨by rw [hE], hw.bel⟩)
            · have q31 := of_decide_eq_false h31
              refine TL.val rfl rfl rfl (gives_pick rfl rfl rfl) ?_
              refine TL.val rfl rfl rfl (gives_assign rfl rfl) ?_
              refine TL.end_ ?_
              refine TX.then_ ?_
              refine TC.ret_ ?_
              have hE : (rvalidE x) = false := (by simp [rvalidE, h5, q9, q14, q19, q26, q31]; try omega)
              exact ret_tmp Try.results29 rfl (fun w1 hw => ⟨by rw [hE], hw.bel⟩)
          · have q26 := of_decide_eq_false h26
            refine TL.val rfl rfl rfl (gives_pick rfl rfl rfl) ?_
            refine TL.val rfl rfl rfl (gives_move rfl rfl) ?_
            refine TL.off rfl rfl rfl rfl rfl rfl ?_
            refine TL.off rfl rfl rfl rfl rfl rfl ?_
            refine TL.off rfl rfl rfl rfl rfl rfl ?_
            refine TL.val rfl rfl rfl (gives_pick rfl rfl rfl) ?_
            refine TL.val rfl rfl rfl (gives_assign rfl rfl) ?_
            refine TL.end_ ?_
            refine TX.then_ ?_
            refine TC.ret_ ?_
            have hE : (rvalidE x) = false := (by simp [rvalidE, h5, q9, q14, q19, q26]; try omega)
            exact ret_tmp Try.results29 rfl (fun w1 hw => ⟨by rw [hE], hw.bel⟩)
        · have q19 := of_decide_eq_false h19
          refine TL.val rfl rfl rfl (gives_pick rfl rfl rfl) ?_
          refine TL.val rfl rfl rfl (gives_move rfl rfl) ?_
          refine TL.off rfl rfl rfl rfl rfl rfl ?_
          refine TL.off rfl rfl rfl rfl rfl rfl ?_
          refine TL.off rfl rfl rfl rfl rfl rfl ?_
          refine TL.off rfl rfl rfl rfl rfl rfl ?_
          refine TL.off rfl rfl rfl rfl rfl rfl ?_
          refine TL.val rfl rfl rfl (gives_pick rfl rfl rfl) ?_
          refine TL.val rfl rfl rfl (gives_move rfl rfl) ?_
          refine TL.off rfl rfl rfl rfl rfl rfl ?_
          refine TL.off rfl rfl rfl rfl rfl rfl ?_
          refine TL.off rfl rfl rfl rfl rfl rfl ?_
          refine TL.val rfl rfl rfl (gives_pick rfl rfl rfl) ?_
          refine TL.val rfl rfl rfl (gives_assign rfl rfl) ?_
          refine TL.end_ ?_
          refine TX.then_ ?_
          refine TC.ret_ ?_
          have hE : (rvalidE x) = false := (by simp [rvalidE, h5, q9, q14, q19]; try omega)
          exact ret_tmp Try.results29 rfl (fun w1 hw => ⟨by rw [hE], hw.bel⟩)
      · have q14 := of_decide_eq_false h14
        refine TL.val rfl rfl rfl (gives_pick rfl rfl rfl) ?_
        refine TL.val rfl rfl rfl (gives_move rfl rfl) ?_
        refine TL.off rfl rfl rfl rfl rfl rfl ?_
        refine TL.off rfl rfl rfl rfl rfl rfl ?_
        refine TL.off rfl rfl rfl rfl rfl rfl ?_
        refine TL.val rfl rfl rfl (gives_pick rfl rfl rfl) ?_
        refine TL.val rfl rfl rfl (gives_move rfl rfl) ?_
        refine TL.off rfl rfl rfl rfl rfl rfl ?_
        refine TL.off rfl rfl rfl rfl rfl rfl ?_
        refine TL.off rfl rfl rfl rfl rfl rfl ?_
        refine TL.off rfl rfl rfl rfl rfl rfl ?_
        refine TL.off rfl rfl rfl rfl rfl rfl ?_
        refine TL.val rfl rfl rfl (gives_pick rfl rfl rfl) ?_
        refine TL.val rfl rfl rfl (gives_move rfl rfl) ?_
        refine TL.off rfl rfl rfl rfl rfl rfl ?_
        refine TL.off rfl rfl rfl rfl rfl rfl ?_
        refine TL.off rfl rfl rfl rfl rfl rfl ?_
        refine TL.val rfl rfl rfl (gives_pick rfl rfl rfl) ?_
        refine TL.val rfl rfl rfl (gives_assign rfl rfl) ?_
        refine TL.end_ ?_
        refine TX.then_ ?_
        refine TC.ret_ ?_
        have hE : (rvalidE x) = false := (by simp [rvalidE, h5, q9, q14]; try omega)
        exact ret_tmp Try.results29 rfl (fun w1 hw => ⟨by rw [hE], hw.bel⟩)
    · have q9 := of_decide_eq_false h9
      refine TL.val rfl rfl rfl (gives_pick rfl rfl rfl) ?_
      refine TL.val rfl rfl rfl (gives_move rfl rfl) ?_
      refine TL.off rfl rfl rfl rfl rfl rfl ?_
      refine TL.off rfl rfl rfl rfl rfl rfl ?_
      refine TL.off rfl rfl rfl rfl rfl rfl ?_
      refine TL.val rfl rfl rfl (gives_pick rfl rfl rfl) ?_
      refine TL.val rfl rfl rfl (gives_move rfl rfl) ?_
      refine TL.off rfl rfl rfl rfl rfl rfl ?_
      refine TL.off rfl rfl rfl rfl rfl rfl ?_
      refine TL.off rfl rfl rfl rfl rfl rfl ?_
      refine TL.val rfl rfl rfl (gives_pick rfl rfl rfl) ?_
      refine TL.val rfl rfl rfl (gives_move rfl rfl) ?_
      refine TL.off rfl rfl rfl rfl rfl rfl ?_
      refine TL.off rfl rfl rfl rfl rfl rfl ?_
      refine TL.off rfl rfl rfl rfl rfl rfl ?_
      refine TL.off rfl rfl rfl rfl rfl rfl ?_
      refine TL.off rfl rfl rfl rfl rfl rfl ?_
      refine TL.val rfl rfl rfl (gives_pick rfl rfl rfl) ?_
      refine TL.val rfl rfl rfl (gives_move rfl rfl) ?_
      refine TL.off rfl rfl rfl rfl rfl rfl ?_
      refine TL.off rfl rfl rfl rfl rfl rfl ?_
      refine TL.off rfl rfl rfl rfl rfl rfl ?_
      refine TL.val rfl rfl rfl (gives_pick rfl rfl rfl) ?_
      refine TL.val rfl rfl rfl (gives_assign rfl rfl) ?_
      refine TL.end_ ?_
      refine TX.then_ ?_
      refine TC.ret_ ?_
      have hE : (rvalidE x) = false := (by simp [rvalidE, h5, q9]; try omega)
      exact ret_tmp Try.results29 rfl (fun w1 hw => ⟨by rw [hE], hw.bel⟩)
  · refine TL.val rfl rfl rfl (gives_move rfl rfl) ?_
    refine TL.off rfl rfl rfl rfl rfl rfl ?_
    refine TL.off rfl rfl rfl rfl rfl rfl ?_
    refine TL.off rfl rfl rfl rfl rfl rfl ?_
    refine TL.val rfl rfl rfl (gives_pick rfl rfl rfl) ?_
    refine TL.val rfl rfl rfl (gives_move rfl rfl) ?_
    refine TL.off rfl rfl rfl rfl rfl rfl ?_
    refine TL.off rfl rfl rfl rfl rfl rfl ?_
    refine TL.off rfl rfl rfl rfl rfl rfl ?_
    refine TL.val rfl rfl rfl (gives_pick rfl rfl rfl) ?_
    refine TL.val rfl rfl rfl (gives_move rfl rfl) ?_
    refine TL.off rfl rfl rfl rfl rfl rfl ?_
    refine TL.off rfl rfl rfl rfl rfl rfl ?_
    refine TL.off rfl rfl rfl rfl rfl rfl ?_
    refine TL.val rfl rfl rfl (gives_pick rfl rfl rfl) ?_
    refine TL.val rfl rfl rfl (gives_move rfl rfl) ?_
    refine TL.off rfl rfl rfl rfl rfl rfl ?_
    refine TL.off rfl rfl rfl rfl rfl rfl ?_
    refine TL.off rfl rfl rfl rfl rfl rfl ?_
    refine TL.off rfl rfl rfl rfl rfl rfl ?_
    refine TL.off rfl rfl rfl rfl rfl rfl ?_
    refine TL.val rfl rfl rfl (gives_pick rfl rfl rfl) ?_
    refine TL.val rfl rfl rfl (gives_move rfl rfl) ?_
    refine TL.off rfl rfl rfl rfl rfl rfl ?_
    refine TL.off rfl rfl rfl rfl rfl rfl ?_
    refine TL.off rfl rfl rfl rfl rfl rfl ?_
    refine TL.val rfl rfl rfl (gives_pick rfl rfl rfl) ?_
    refine TL.val rfl rfl rfl (gives_assign rfl rfl) ?_
    refine TL.end_ ?_
    refine TX.then_ ?_
    refine TC.ret_ ?_
    have hE : (rvalidE x) = false := (by simp [rvalidE, h5]; try omega)
    exact ret_tmp Try.results29 rfl (fun w1 hw => ⟨by rw [hE], hw.bel⟩)
set_option maxHeartbeats 1000000 in
theorem rcmpE_any (x y : En) (hx : x.Ok) (hy : y.Ok) (w : World) :
    Calls Try.prog 31 #[.agg x.cells.toArray, .agg y.cells.toArray] w fun e w' => ∃ z : Int, e = .returned (.int .i64 z) ∧ Below w.heap.size w w' := by
  refine begin_ (vs := [.agg x.cells.toArray, .agg y.cells.toArray]) Try.func31 rfl rfl rfl ?_ (Pm.start w)
  refine TC.seq_ ?_
  refine TC.region ?_
  refine TL.pnew rfl rfl rfl (exec_box (cs := x.cells) rfl rfl rfl) (fun g2 => ?_)
  refine TL.pnew rfl rfl rfl (exec_box (cs := y.cells) rfl rfl rfl) (fun g3 => ?_)
  refine TL.val rfl rfl rfl (gives_assign rfl rfl) ?_
  refine TL.end_ ?_
  refine TX.then_ ?_
  refine TC.seq_ ?_
  refine TC.seq_ ?_
  refine TC.region ?_
  refine TL.val rfl rfl rfl (gives_field (v := .pointer (some ⟨g2, 0, none⟩)) rfl rfl (fun w => brffld45_0 _ _ w)) ?_
  refine TL.val rfl rfl rfl (pm_loadV (k := 1) (i := 0) (n := 2) (v := .agg #[.int .u32 x.addr, .int .i64 x.len]) rfl rfl brfag43 brfsz43 rfl (by show 2 ≤ 5; decide) rfl) ?_
  refine TL.val rfl rfl rfl (gives_field (v := .pointer (some ⟨g3, 0, none⟩)) rfl rfl (fun w => brffld45_0 _ _ w)) ?_
  refine TL.val rfl rfl rfl (pm_loadV (k := 0) (i := 0) (n := 2) (v := .agg #[.int .u32 y.addr, .int .i64 y.len]) rfl rfl brfag43 brfsz43 rfl (by show 2 ≤ 5; decide) rfl) ?_
  refine TL.pcall1 (r := .int .i64 (cmpP x.addr x.len y.addr y.len)) rfl rfl rfl rfl rfl Try.func30 brfnm30 brfbd30 (fun w1 hw => rcmpP_any x.addr x.len y.addr y.len hx hy w1) ?_
  refine TL.val rfl rfl rfl (gives_assign rfl rfl) ?_
  refine TL.end_ ?_
  refine TX.then_ ?_
  refine TC.seq_ ?_
  refine TC.region ?_
  refine TL.val rfl rfl rfl (gives_move rfl rfl) ?_
  refine TL.vsplit rfl rfl rfl (gives_bin rfl rfl rfl (fun w => bin_neq w)) (fun h14 => ?_) (fun h14 => ?_)
  · have q14 := of_decide_eq_true h14
    refine TL.end_ ?_
    refine TX.then_ ?_
    refine TC.condT rfl ?_
    refine TC.seq_ ?_
    refine TC.region ?_
    refine TL.val rfl rfl rfl (gives_move rfl rfl) ?_
    refine TL.val rfl rfl rfl (gives_assign rfl rfl) ?_
    refine TL.end_ ?_
    refine TX.then_ ?_
    refine TC.ret_ ?_
    refine TX.then_ret ?_
    exact ret_tmp Try.results31 rfl (fun w1 hw => ⟨_, rfl, hw.bel⟩)
  · have q14 := of_decide_eq_false h14
    refine TL.end_ ?_
    refine TX.then_ ?_
    refine TC.condF rfl ?_
    refine TC.skip_ ?_
    refine TX.then_ ?_
    refine TC.seq_ ?_
    refine TC.seq_ ?_
    refine TC.region ?_
    refine TL.val rfl rfl rfl (gives_field (v := .pointer (some ⟨g2, 3, none⟩)) rfl rfl (fun w => brffld45_2 _ _ w)) ?_
    refine TL.val rfl rfl rfl (pm_load (k := 1) (i := 3) rfl rfl brfag3 rfl rfl) ?_
    refine TL.val rfl rfl rfl (gives_field (v := .pointer (some ⟨g3, 3, none⟩)) rfl rfl (fun w => brffld45_2 _ _ w)) ?_
    refine TL.val rfl rfl rfl (pm_load (k := 0) (i := 3) rfl rfl brfag3 rfl rfl) ?_
    refine TL.val rfl rfl rfl (gives_build (v := .agg #[.int .i64 x.frm, .int .i64 y.frm]) rfl rfl (fun w => brfbld79_27268 _ _ w)) ?_
    refine TL.val rfl rfl rfl (gives_field (v := .pointer (some ⟨g2, 4, none⟩)) rfl rfl (fun w => brffld45_3 _ _ w)) ?_
    refine TL.val rfl rfl rfl (pm_load (k := 1) (i := 4) rfl rfl brfag3 rfl rfl) ?_
    refine TL.val rfl rfl rfl (gives_field (v := .pointer (some ⟨g3, 4, none⟩)) rfl rfl (fun w => brffld45_3 _ _ w)) ?_
    refine TL.val rfl rfl rfl (pm_load (k := 0) (i := 4) rfl rfl brfag3 rfl rfl) ?_
    refine TL.val rfl rfl rfl (gives_build (v := .agg #[.int .i64 x.to_, .int .i64 y.to_]) rfl rfl (fun w => brfbld79_27268 _ _ w)) ?_
    refine TL.val rfl rfl rfl (gives_field (v := .pointer (some ⟨g2, 2, none⟩)) rfl rfl (fun w => brffld45_1 _ _ w)) ?_
    refine TL.val rfl rfl rfl (pm_load (k := 1) (i := 2) rfl rfl brfag3 rfl rfl) ?_
    refine TL.val rfl rfl rfl (gives_field (v := .pointer (some ⟨g3, 2, none⟩)) rfl rfl (fun w => brffld45_1 _ _ w)) ?_
    refine TL.val rfl rfl rfl (pm_load (k := 0) (i := 2) rfl rfl brfag3 rfl rfl) ?_
    refine TL.val rfl rfl rfl (gives_build (v := .agg #[.int .i64 x.prov, .int .i64 y.prov]) rfl rfl (fun w => brfbld79_27268 _ _ w)) ?_
    refine TL.val rfl rfl rfl (gives_build (v := .agg #[.int .i64 x.frm, .int .i64 y.frm, .int .i64 x.to_, .int .i64 y.to_, .int .i64 x.prov, .int .i64 y.prov]) rfl rfl (fun w => brfbld80_13922 _ _ _ _ _ _ w)) ?_
    refine TL.val rfl rfl rfl (gives_move rfl rfl) ?_
    refine TL.end_ ?_
    refine TX.then_ ?_
    refine TC.block ?_
    refine TC.loop_ (α := {i : Nat // i ≤ 3}) (fun z => [(31, .agg #[.int .i64 x.frm, .int .i64 y.frm, .int .i64 x.to_, .int .i64 y.to_, .int .i64 x.prov, .int .i64 y.prov]), (32, .int .i64 ((z.1 : Nat) : Int))]) (fun z => Pm w [.blk g3 45 y.cells, .blk g2 45 x.cells]) (fun z => 3 - z.1) (⟨0, Nat.zero_le _⟩) ⟨rfl, rfl, trivial⟩ (fun w1 hw => hw) ?_
    rintro ⟨i, hi⟩
    try dsimp only
    refine TC.seq_ ?_
    refine TC.region ?_
    refine TL.vsplit rfl rfl rfl (gives_bin rfl rfl rfl (fun w => bin_lss w)) (fun h33 => ?_) (fun h33 => ?_)
    · have q33 := of_decide_eq_true h33
      have hi2 : i < 3 := by omega
      obtain ⟨p, q, hpq⟩ : ∃ p q : Int, ∀ w : World, (Instr.index 80 (.agg #[.int .i64 x.frm, .int .i64 y.frm, .int .i64 x.to_, .int .i64 y.to_, .int .i64 x.prov, .int .i64 y.prov]) (.int .i64 ((i : Nat) : Int))).run Try.prog w = .ok (.agg #[.int .i64 p, .int .i64 q]) w := by
        have h3 : i = 0 ∨ i = 1 ∨ i = 2 := by omega
        rcases h3 with rfl | rfl | rfl
        · exact ⟨x.frm, y.frm, fun w => by kernel_rfl⟩
        · exact ⟨x.to_, y.to_, fun w => by kernel_rfl⟩
        · exact ⟨x.prov, y.prov, fun w => by kernel_rfl⟩
      refine TL.end_ ?_
      refine TX.then_ ?_
      refine TC.seq_ ?_
      refine TC.condT rfl ?_
      refine TC.skip_ ?_
      refine TX.then_ ?_
      refine TC.seq_ ?_
      refine TC.block ?_
      refine TC.seq_ ?_
      refine TC.region ?_
      refine TL.val rfl rfl rfl (gives_index (v := .agg #[.int .i64 p, .int .i64 q]) rfl rfl rfl hpq) ?_
      refine TL.pnew rfl rfl rfl (exec_alloc (cs := [.int .i64 0, .int .i64 0]) rfl brfzv79 rfl) (fun g7 => ?_)
      refine TL.pstore (k := 0) (vs := [.int .i64 p, .int .i64 q]) rfl rfl rfl rfl rfl rfl rfl brfsz79 brfone_i64i64 (by show 2 ≤ 2; decide) (L' := [.blk g7 79 [.int .i64 p, .int .i64 q], .blk g3 45 y.cells, .blk g2 45 x.cells]) rfl ?_
      refine TL.end_ ?_
      refine TX.then_ ?_
      refine TC.seq_ ?_
      refine TC.seq_ ?_
      refine TC.region ?_
      refine TL.val rfl rfl rfl (gives_at (v := .pointer (some ⟨g7, 0, none⟩)) rfl rfl rfl (fun w => at_arr Try.underlying79 brfsz3 g7 0 _ 0 (by decide) w)) ?_
      refine TL.val rfl rfl rfl (pm_load (k := 0) (i := 0) rfl rfl brfag3 rfl rfl) ?_
      refine TL.val rfl rfl rfl (gives_at (v := .pointer (some ⟨g7, 1, none⟩)) rfl rfl rfl (fun w => at_arr Try.underlying79 brfsz3 g7 0 _ 1 (by decide) w)) ?_
      refine TL.val rfl rfl rfl (pm_load (k := 0) (i := 1) rfl rfl brfag3 rfl rfl) ?_
      refine TL.vsplit rfl rfl rfl (gives_bin rfl rfl rfl (fun w => bin_lss w)) (fun h39 => ?_) (fun h39 => ?_)
      · have q39 := of_decide_eq_true h39
        refine TL.end_ ?_
        refine TX.then_ ?_
        refine TC.condT rfl ?_
        refine TC.seq_ ?_
        refine TC.region ?_
        refine TL.val rfl rfl rfl (gives_assign rfl rfl) ?_
        refine TL.end_ ?_
        refine TX.then_ ?_
        refine TC.ret_ ?_
        refine TX.then_ret ?_
        refine TX.in_ret ?_
        refine TX.then_ret ?_
        refine TX.then_ret ?_
        refine TX.in_ret ?_
        refine TX.then_ret ?_
        exact ret_tmp Try.results31 rfl (fun w1 hw => ⟨_, rfl, hw.bel⟩)
      · have q39 := of_decide_eq_false h39
        refine TL.end_ ?_
        refine TX.then_ ?_
        refine TC.condF rfl ?_
        refine TC.skip_ ?_
        refine TX.then_ ?_
        refine TC.seq_ ?_
        refine TC.region ?_
        refine TL.val rfl rfl rfl (gives_at (v := .pointer (some ⟨g7, 0, none⟩)) rfl rfl rfl (fun w => at_arr Try.underlying79 brfsz3 g7 0 _ 0 (by decide) w)) ?_
        refine TL.val rfl rfl rfl (pm_load (k := 0) (i := 0) rfl rfl brfag3 rfl rfl) ?_
        refine TL.val rfl rfl rfl (gives_at (v := .pointer (some ⟨g7, 1, none⟩)) rfl rfl rfl (fun w => at_arr Try.underlying79 brfsz3 g7 0 _ 1 (by decide) w)) ?_
        refine TL.val rfl rfl rfl (pm_load (k := 0) (i := 1) rfl rfl brfag3 rfl rfl) ?_
        refine TL.vsplit rfl rfl rfl (gives_bin rfl rfl rfl (fun w => bin_gtr w)) (fun h44 => ?_) (fun h44 => ?_)
        · have q44 := of_decide_eq_true h44
          refine TL.end_ ?_
          refine TX.then_ ?_
          refine TC.condT rfl ?_
          refine TC.seq_ ?_
          refine TC.region ?_
          refine TL.val rfl rfl rfl (gives_assign rfl rfl) ?_
          refine TL.end_ ?_
          refine TX.then_ ?_
          refine TC.ret_ ?_
          refine TX.in_ret ?_
          refine TX.then_ret ?_
          refine TX.then_ret ?_
          refine TX.in_ret ?_
          refine TX.then_ret ?_
          exact ret_tmp Try.results31 rfl (fun w1 hw => ⟨_, rfl, hw.bel⟩)
        · have q44 := of_decide_eq_false h44
          refine TL.end_ ?_
          refine TX.then_ ?_
          refine TC.condF rfl ?_
          refine TC.skip_ ?_
          refine TX.in_normal ?_
          refine TX.then_ ?_
          refine TC.region ?_
          refine TL.val rfl rfl rfl (gives_bin rfl rfl rfl (fun w => bin_add_ (r := ((i + 1 : Nat) : Int)) (by simp only [IntKind.wrap_i64]; omega) w)) ?_
          refine TL.val rfl rfl rfl (gives_move rfl rfl) ?_
          refine TL.end_ ?_
          exact TX.round (⟨i + 1, by omega⟩) (by show 3 - (i + 1) < 3 - i; omega) ⟨rfl, rfl, trivial⟩ (fun w1 hw => hw.pick [1, 2] (by decide) rfl)
    · have q33 := of_decide_eq_false h33
      refine TL.end_ ?_
      refine TX.then_ ?_
      refine TC.seq_ ?_
      refine TC.condF rfl ?_
      refine TC.exit_ ?_
      refine TX.then_exit ?_
      refine TX.then_exit ?_
      refine TX.in_same ?_
      refine TX.then_ ?_
      refine TC.seq_ ?_
      refine TC.region ?_
      refine TL.val rfl rfl rfl (gives_assign rfl rfl) ?_
      refine TL.end_ ?_
      refine TX.then_ ?_
      refine TC.ret_ ?_
      exact ret_tmp Try.results31 rfl (fun w1 hw => ⟨_, rfl, hw.bel⟩)
set_option maxHeartbeats 1000000 in
theorem rvalR_any (A0 : Option Addr) (c0 : Nat) (es : List En) (w : World) (hr : Reads w w.heap.size 5 A0 es.length (flat En.cells es)) (hl1 : es.length ≤ 100000) (hok : ∀ z ∈ es, z.Ok) :
    Calls Try.prog 28 #[.agg #[.slice A0 es.length c0]] w fun e w' => ∃ b : Bool, e = .returned (.bool b) ∧ Below w.heap.size w w' := by
  refine begin_ (vs := [.agg #[.slice A0 es.length c0]]) Try.func28 rfl rfl rfl ?_ (Pm.start w)
  refine TC.seq_ ?_
  refine TC.region ?_
  refine TL.pnew rfl rfl rfl (exec_box (cs := [.slice A0 es.length c0]) rfl rfl rfl) (fun g1 => ?_)
  refine TL.val rfl rfl rfl (gives_assign rfl rfl) ?_
  refine TL.end_ ?_
  refine TX.then_ ?_
  refine TC.seq_ ?_
  refine TC.seq_ ?_
  refine TC.region ?_
  refine TL.val rfl rfl rfl (gives_field (v := .pointer (some ⟨g1, 0, none⟩)) rfl rfl (fun w => brffld34_0 _ _ w)) ?_
  refine TL.val rfl rfl rfl (pm_load (k := 0) (i := 0) rfl rfl brfag32 rfl rfl) ?_
  refine TL.val rfl rfl rfl (gives_len rfl Try.underlying32 rfl) ?_
  refine TL.vsplit rfl rfl rfl (gives_bin rfl rfl rfl (fun w => bin_gtr w)) (fun h10 => ?_) (fun h10 => ?_)
  · have q10 := of_decide_eq_true h10
    refine TL.end_ ?_
    refine TX.then_ ?_
    refine TC.condT rfl ?_
    refine TC.seq_ ?_
    refine TC.region ?_
    refine TL.val rfl rfl rfl (gives_assign rfl rfl) ?_
    refine TL.end_ ?_
    refine TX.then_ ?_
    refine TC.ret_ ?_
    refine TX.then_ret ?_
    exact ret_tmp Try.results28 rfl (fun w1 hw => ⟨_, rfl, hw.bel⟩)
  · have q10 := of_decide_eq_false h10
    refine TL.end_ ?_
    refine TX.then_ ?_
    refine TC.condF rfl ?_
    refine TC.skip_ ?_
    refine TX.then_ ?_
    refine TC.seq_ ?_
    refine TC.seq_ ?_
    refine TC.region ?_
    refine TL.val rfl rfl rfl (gives_assign rfl rfl) ?_
    refine TL.end_ ?_
    refine TX.then_ ?_
    refine TC.block ?_
    refine TC.loop_ (α := {i : Nat // i ≤ es.length}) (fun y => [(1, .pointer (some ⟨g1, 0, none⟩)), (3, .int .i64 ((y.1 : Nat) : Int))]) (fun y => Pm w [.blk g1 34 [.slice A0 es.length c0]]) (fun y => es.length - y.1) (⟨0, Nat.zero_le _⟩) ⟨rfl, rfl, trivial⟩ (fun w1 hw => hw) ?_
    rintro ⟨i, hi⟩
    try dsimp only
    refine TC.seq_ ?_
    refine TC.seq_ ?_
    refine TC.region ?_
    refine TL.val rfl rfl rfl (gives_move rfl rfl) ?_
    refine TL.val rfl rfl rfl (gives_field (v := .pointer (some ⟨g1, 0, none⟩)) rfl rfl (fun w => brffld34_0 _ _ w)) ?_
    refine TL.val rfl rfl rfl (pm_load (k := 0) (i := 0) rfl rfl brfag32 rfl rfl) ?_
    refine TL.val rfl rfl rfl (gives_len rfl Try.underlying32 rfl) ?_
    refine TL.vsplit rfl rfl rfl (gives_bin rfl rfl rfl (fun w => bin_lss w)) (fun h15 => ?_) (fun h15 => ?_)
    · have q15 := of_decide_eq_true h15
      refine TL.end_ ?_
      refine TX.then_ ?_
      refine TC.condT rfl ?_
      refine TC.skip_ ?_
      refine TX.then_ ?_
      refine TC.seq_ ?_
      refine TC.block ?_
      refine TC.seq_ ?_
      refine TC.seq_ ?_
      refine TC.region ?_
      refine TL.val rfl rfl rfl (gives_field (v := .pointer (some ⟨g1, 0, none⟩)) rfl rfl (fun w => brffld34_0 _ _ w)) ?_
      refine TL.val rfl rfl rfl (pm_load (k := 0) (i := 0) rfl rfl brfag32 rfl rfl) ?_
      refine TL.val rfl rfl rfl (gives_move rfl rfl) ?_
      have hi21 : i < es.length := by omega
      obtain ⟨x21, hx21⟩ : ∃ x21, es[i]? = some x21 := ⟨_, List.getElem?_eq_getElem hi21⟩
      obtain ⟨b21, o21, hA21, hbb21, hc21⟩ := hr.ad (by omega) (by decide)
      refine TL.val rfl rfl rfl (gives_at (v := .pointer (some ⟨b21, o21 + i * 5, none⟩)) rfl rfl rfl (fun w => at_el Try.underlying32 brfsz45 hA21 _ _ i (by omega) rfl w)) ?_
      refine TL.val rfl rfl rfl (gives_loadR (off := o21 + i * 5) rfl rfl brfag45 brfsz45 (en_cel.len x21) (fun w1 hw j9 u9 h9 => (hw.bel.cell hbb21).trans <| flat_cell en_cel hx21 hc21 j9 u9 h9)) ?_
      refine TL.callsplit rfl rfl rfl rfl rfl Try.func29 brfnm29 brfbd29 (fun w1 hw => rvalE_any x21 (hok x21 (List.mem_of_getElem? hx21)) w1) (fun h23 => ?_) (fun h23 => ?_)
      · refine TL.val rfl rfl rfl (gives_boolnot rfl rfl) ?_
        refine TL.end_ ?_
        refine TX.then_ ?_
        refine TC.condF rfl ?_
        refine TC.skip_ ?_
        refine TX.then_ ?_
        refine TC.seq_ ?_
        refine TC.seq_ ?_
        refine TC.region ?_
        refine TL.val rfl rfl rfl (gives_move rfl rfl) ?_
        refine TL.vsplit rfl rfl rfl (gives_bin rfl rfl rfl (fun w => bin_eql w)) (fun h26 => ?_) (fun h26 => ?_)
        · have q26 := of_decide_eq_true h26
          refine TL.end_ ?_
          refine TX.then_ ?_
          refine TC.condT rfl ?_
          refine TC.exit_ ?_
          refine TX.then_exit ?_
          refine TX.in_same ?_
          refine TX.then_ ?_
          refine TC.region ?_
          refine TL.val rfl rfl rfl (gives_move rfl rfl) ?_
          refine TL.val rfl rfl rfl (gives_bin rfl rfl rfl (fun w => bin_add_ (r := ((i + 1 : Nat) : Int)) (by simp only [IntKind.wrap_i64]; omega) w)) ?_
          refine TL.val rfl rfl rfl (gives_assign rfl rfl) ?_
          refine TL.end_ ?_
          exact TX.round (⟨i + 1, by omega⟩) (by show es.length - (i + 1) < es.length - i; omega) ⟨rfl, rfl, trivial⟩ (fun w1 hw => hw)
        · have q26 := of_decide_eq_false h26
          refine TL.end_ ?_
          refine TX.then_ ?_
          refine TC.condF rfl ?_
          refine TC.skip_ ?_
          refine TX.then_ ?_
          have hi0 : ¬ i = 0 := by omega
          have hi31 : i - 1 < es.length := by omega
          obtain ⟨x31, hx31⟩ : ∃ x31, es[i - 1]? = some x31 := ⟨_, List.getElem?_eq_getElem hi31⟩
          have hi36 : i < es.length := by omega
          obtain ⟨x36, hx36⟩ : ∃ x36, es[i]? = some x36 := ⟨_, List.getElem?_eq_getElem hi36⟩
          obtain ⟨b31, o31, hA31, hbb31, hc31⟩ := hr.ad (by omega) (by decide)
          refine TC.join (α := Nat × Nat) (fun y => [(1, .pointer (some ⟨g1, 0, none⟩)), (3, .int .i64 ((i : Nat) : Int)), (4, .pointer (some ⟨y.1, 0, none⟩)), (5, .pointer (some ⟨y.2, 0, none⟩))]) (fun y => Pm w [.blk y.1 45 x31.cells, .blk y.2 45 x36.cells, .blk g1 34 [.slice A0 es.length c0]]) ?_ ?_
          · refine TC.held (ls := #[false, false, false, false, false, false, false, false, false, false, false, false, false, false, false]) (Pm w [.blk g1 34 [.slice A0 es.length c0]]) (by kernel_rfl) rfl rfl (fun w hw => hw.drawn _) ?_
            refine TH.take (listed' := #[true, false, false, false, false, false, false, false, false, false, false, false, false, false, false]) 0 rfl (by kernel_rfl) (by kernel_rfl) (by kernel_rfl) rfl rfl rfl rfl (gives_field (v := .pointer (some ⟨g1, 0, none⟩)) rfl rfl (fun w => brffld34_0 _ _ w)) (fun w1 hw => hw) ?_
            refine TH.take (listed' := #[true, true, false, false, false, false, false, false, false, false, false, false, false, false, false]) 1 rfl (by kernel_rfl) (by kernel_rfl) (by kernel_rfl) rfl rfl rfl rfl (pm_load (k := 0) (i := 0) rfl rfl brfag32 rfl rfl) (fun w1 hw => hw) ?_
            refine TH.take (listed' := #[true, true, true, false, false, false, false, false, false, false, false, false, false, false, false]) 2 rfl (by kernel_rfl) (by kernel_rfl) (by kernel_rfl) rfl rfl rfl rfl (gives_move rfl rfl) (fun w1 hw => hw) ?_
            refine TH.take (listed' := #[true, true, true, true, false, false, false, false, false, false, false, false, false, false, false]) 3 rfl (by kernel_rfl) (by kernel_rfl) (by kernel_rfl) rfl rfl rfl rfl (gives_bin rfl rfl rfl (fun w => bin_sub_ (r := ((i - 1 : Nat) : Int)) (by simp only [IntKind.wrap_i64]; omega) w)) (fun w1 hw => hw) ?_
            refine TH.take (listed' := #[true, true, true, true, true, false, false, false, false, false, false, false, false, false, false]) 4 rfl (by kernel_rfl) (by kernel_rfl) (by kernel_rfl) rfl rfl rfl rfl (gives_at (v := .pointer (some ⟨b31, o31 + (i - 1) * 5, none⟩)) rfl rfl rfl (fun w => at_el Try.underlying32 brfsz45 hA31 _ _ (i - 1) (by omega) rfl w)) (fun w1 hw => hw) ?_
            refine TH.take (listed' := #[true, true, true, true, true, true, false, false, false, false, false, false, false, false, false]) 5 rfl (by kernel_rfl) (by kernel_rfl) (by kernel_rfl) rfl rfl rfl rfl (gives_loadR (off := o31 + (i - 1) * 5) rfl rfl brfag45 brfsz45 (en_cel.len x31) (fun w1 hw j9 u9 h9 => (hw.bel.cell hbb31).trans <| flat_cell en_cel hx31 hc31 j9 u9 h9)) (fun w1 hw => hw) ?_
            refine TH.take (listed' := #[true, true, true, true, true, true, true, false, false, false, false, false, false, false, false]) 6 rfl (by kernel_rfl) (by kernel_rfl) (by kernel_rfl) rfl rfl rfl rfl (gives_field (v := .pointer (some ⟨g1, 0, none⟩)) rfl rfl (fun w => brffld34_0 _ _ w)) (fun w1 hw => hw) ?_
            refine TH.take (listed' := #[true, true, true, true, true, true, true, true, false, false, false, false, false, false, false]) 7 rfl (by kernel_rfl) (by kernel_rfl) (by kernel_rfl) rfl rfl rfl rfl (pm_load (k := 0) (i := 0) rfl rfl brfag32 rfl rfl) (fun w1 hw => hw) ?_
            refine TH.take (listed' := #[true, true, true, true, true, true, true, true, true, false, false, false, false, false, false]) 8 rfl (by kernel_rfl) (by kernel_rfl) (by kernel_rfl) rfl rfl rfl rfl (gives_move rfl rfl) (fun w1 hw => hw) ?_
            refine TH.take (listed' := #[true, true, true, true, true, true, true, true, true, true, false, false, false, false, false]) 9 rfl (by kernel_rfl) (by kernel_rfl) (by kernel_rfl) rfl rfl rfl rfl (gives_at (v := .pointer (some ⟨b31, o31 + i * 5, none⟩)) rfl rfl rfl (fun w => at_el Try.underlying32 brfsz45 hA31 _ _ i (by omega) rfl w)) (fun w1 hw => hw) ?_
            refine TH.take (listed' := #[true, true, true, true, true, true, true, true, true, true, true, false, false, false, false]) 10 rfl (by kernel_rfl) (by kernel_rfl) (by kernel_rfl) rfl rfl rfl rfl (gives_loadR (off := o31 + i * 5) rfl rfl brfag45 brfsz45 (en_cel.len x36) (fun w1 hw j9 u9 h9 => (hw.bel.cell hbb31).trans <| flat_cell en_cel hx36 hc31 j9 u9 h9)) (fun w1 hw => hw) ?_
            refine TH.two' (listed1 := #[true, true, true, true, true, true, true, true, true, true, true, true, false, false, false]) (listed2 := #[true, true, true, true, true, true, true, true, true, true, true, false, true, false, false]) 11 12 rfl rfl (by kernel_rfl) rfl rfl ?_ ?_
            · refine TL.pnew rfl rfl rfl (exec_alloc (cs := [.int .u32 0, .int .i64 0, .int .i64 0, .int .i64 0, .int .i64 0]) rfl brfzv45 rfl) (fun g4 => ?_)
              refine TL.end_ ?_
              refine TX.held (fun w1 hw => hw.pick [1] (by decide) rfl) ?_
              refine TH.only' (listed' := #[true, true, true, true, true, true, true, true, true, true, true, true, true, false, false]) 12 rfl (by kernel_rfl) rfl ?_
              refine TL.pnew rfl rfl rfl (exec_alloc (cs := [.int .u32 0, .int .i64 0, .int .i64 0, .int .i64 0, .int .i64 0]) rfl brfzv45 rfl) (fun g5 => ?_)
              refine TL.end_ ?_
              refine TX.held (fun w1 hw => hw.pick [2] (by decide) rfl) ?_
              refine TH.only' (listed' := #[true, true, true, true, true, true, true, true, true, true, true, true, true, true, false]) 13 rfl (by kernel_rfl) rfl ?_
              refine TL.pstore (k := 1) (vs := x31.cells) rfl rfl rfl rfl rfl rfl rfl brfsz45 (en_cel.one _) (by show 5 ≤ 5; decide) (L' := [.blk g5 45 [.int .u32 0, .int .i64 0, .int .i64 0, .int .i64 0, .int .i64 0], .blk g4 45 x31.cells, .blk g1 34 [.slice A0 es.length c0]]) rfl ?_
              refine TL.end_ ?_
              refine TX.held (fun w1 hw => hw.pick [2] (by decide) rfl) ?_
              refine TH.only' (listed' := #[true, true, true, true, true, true, true, true, true, true, true, true, true, true, true]) 14 rfl (by kernel_rfl) rfl ?_
              refine TL.pstore (k := 0) (vs := x36.cells) rfl rfl rfl rfl rfl rfl rfl brfsz45 (en_cel.one _) (by show 5 ≤ 5; decide) (L' := [.blk g5 45 x36.cells, .blk g4 45 x31.cells, .blk g1 34 [.slice A0 es.length c0]]) rfl ?_
              refine TL.end_ ?_
              refine TX.held (fun w1 hw => hw.pick [2] (by decide) rfl) ?_
              refine TH.done (by kernel_rfl) ?_
              exact TX.joined ((g4, g5)) (⟨rfl, rfl, rfl, rfl, trivial⟩) (fun w1 hw => hw.pick [1, 0, 2] (by decide) rfl)
            · refine TL.pnew rfl rfl rfl (exec_alloc (cs := [.int .u32 0, .int .i64 0, .int .i64 0, .int .i64 0, .int .i64 0]) rfl brfzv45 rfl) (fun g5 => ?_)
              refine TL.end_ ?_
              refine TX.held (fun w1 hw => hw.pick [1] (by decide) rfl) ?_
              refine TH.only' (listed' := #[true, true, true, true, true, true, true, true, true, true, true, true, true, false, false]) 11 rfl (by kernel_rfl) rfl ?_
              refine TL.pnew rfl rfl rfl (exec_alloc (cs := [.int .u32 0, .int .i64 0, .int .i64 0, .int .i64 0, .int .i64 0]) rfl brfzv45 rfl) (fun g4 => ?_)
              refine TL.end_ ?_
              refine TX.held (fun w1 hw => hw.pick [2] (by decide) rfl) ?_
              refine TH.only' (listed' := #[true, true, true, true, true, true, true, true, true, true, true, true, true, true, false]) 13 rfl (by kernel_rfl) rfl ?_
              refine TL.pstore (k := 0) (vs := x31.cells) rfl rfl rfl rfl rfl rfl rfl brfsz45 (en_cel.one _) (by show 5 ≤ 5; decide) (L' := [.blk g4 45 x31.cells, .blk g5 45 [.int .u32 0, .int .i64 0, .int .i64 0, .int .i64 0, .int .i64 0], .blk g1 34 [.slice A0 es.length c0]]) rfl ?_
              refine TL.end_ ?_
              refine TX.held (fun w1 hw => hw.pick [2] (by decide) rfl) ?_
              refine TH.only' (listed' := #[true, true, true, true, true, true, true, true, true, true, true, true, true, true, true]) 14 rfl (by kernel_rfl) rfl ?_
              refine TL.pstore (k := 1) (vs := x36.cells) rfl rfl rfl rfl rfl rfl rfl brfsz45 (en_cel.one _) (by show 5 ≤ 5; decide) (L' := [.blk g4 45 x31.cells, .blk g5 45 x36.cells, .blk g1 34 [.slice A0 es.length c0]]) rfl ?_
              refine TL.end_ ?_
              refine TX.held (fun w1 hw => hw.pick [2] (by decide) rfl) ?_
              refine TH.done (by kernel_rfl) ?_
              exact TX.joined ((g4, g5)) (⟨rfl, rfl, rfl, rfl, trivial⟩) (fun w1 hw => hw)
          · rintro ⟨ga, gb⟩
            try dsimp only
            refine TC.seq_ ?_
            refine TC.region ?_
            refine TL.val rfl rfl rfl (gives_field (v := .pointer (some ⟨ga, 0, none⟩)) rfl rfl (fun w => brffld45_0 _ _ w)) ?_
            refine TL.val rfl rfl rfl (pm_loadV (k := 0) (i := 0) (n := 2) (v := .agg #[.int .u32 x31.addr, .int .i64 x31.len]) rfl rfl brfag43 brfsz43 rfl (by show 2 ≤ 5; decide) rfl) ?_
            refine TL.val rfl rfl rfl (gives_field (v := .pointer (some ⟨gb, 0, none⟩)) rfl rfl (fun w => brffld45_0 _ _ w)) ?_
            refine TL.val rfl rfl rfl (pm_loadV (k := 1) (i := 0) (n := 2) (v := .agg #[.int .u32 x36.addr, .int .i64 x36.len]) rfl rfl brfag43 brfsz43 rfl (by show 2 ≤ 5; decide) rfl) ?_
            refine TL.pcall1 (r := .int .i64 (cmpP x31.addr x31.len x36.addr x36.len)) rfl rfl rfl rfl rfl Try.func30 brfnm30 brfbd30 (fun w1 hw => rcmpP_any x31.addr x31.len x36.addr x36.len (hok x31 (List.mem_of_getElem? hx31)) (hok x36 (List.mem_of_getElem? hx36)) w1) ?_
            refine TL.val rfl rfl rfl (gives_assign rfl rfl) ?_
            refine TL.end_ ?_
            refine TX.then_ ?_
            refine TC.seq_ ?_
            refine TC.region ?_
            refine TL.val rfl rfl rfl (gives_move rfl rfl) ?_
            refine TL.vsplit rfl rfl rfl (gives_bin rfl rfl rfl (fun w => bin_gtr w)) (fun h44 => ?_) (fun h44 => ?_)
            · have q44 := of_decide_eq_true h44
              refine TL.val rfl rfl rfl (gives_move rfl rfl) ?_
              refine TL.off rfl rfl rfl rfl rfl rfl ?_
              refine TL.off rfl rfl rfl rfl rfl rfl ?_
              refine TL.off rfl rfl rfl rfl rfl rfl ?_
              refine TL.offU rfl rfl rfl rfl rfl ?_
              refine TL.offU rfl rfl rfl rfl rfl ?_
              refine TL.offU rfl rfl rfl rfl rfl ?_
              refine TL.offU rfl rfl rfl rfl rfl ?_
              refine TL.offU rfl rfl rfl rfl rfl ?_
              refine TL.off rfl rfl rfl rfl rfl rfl ?_
              refine TL.val rfl rfl rfl (gives_pick rfl rfl rfl) ?_
              refine TL.end_ ?_
              refine TX.then_ ?_
              refine TC.condT rfl ?_
              refine TC.seq_ ?_
              refine TC.region ?_
              refine TL.val rfl rfl rfl (gives_assign rfl rfl) ?_
              refine TL.end_ ?_
              refine TX.then_ ?_
              refine TC.ret_ ?_
              refine TX.in_ret ?_
              refine TX.then_ret ?_
              refine TX.then_ret ?_
              refine TX.in_ret ?_
              refine TX.then_ret ?_
              exact ret_tmp Try.results28 rfl (fun w1 hw => ⟨_, rfl, hw.bel⟩)
            · have q44 := of_decide_eq_false h44
              refine TL.val rfl rfl rfl (gives_move rfl rfl) ?_
              refine TL.on rfl rfl rfl ?_
              refine TL.val rfl rfl rfl (gives_move rfl rfl) ?_
              refine TL.on rfl rfl rfl ?_
              refine TL.vsplit rfl rfl rfl (gives_bin rfl rfl rfl (fun w => bin_eql w)) (fun h47 => ?_) (fun h47 => ?_)
              · have q47 := of_decide_eq_true h47
                refine TL.on rfl rfl rfl ?_
                refine TL.val rfl rfl rfl (gives_move rfl rfl) ?_
                refine TL.on rfl rfl rfl ?_
                refine TL.val rfl rfl rfl (gives_field (v := .pointer (some ⟨gb, 3, none⟩)) rfl rfl (fun w => brffld45_2 _ _ w)) ?_
                refine TL.on rfl rfl rfl ?_
                refine TL.val rfl rfl rfl (pm_load (k := 1) (i := 3) rfl rfl brfag3 rfl rfl) ?_
                refine TL.on rfl rfl rfl ?_
                refine TL.val rfl rfl rfl (gives_field (v := .pointer (some ⟨ga, 4, none⟩)) rfl rfl (fun w => brffld45_3 _ _ w)) ?_
                refine TL.on rfl rfl rfl ?_
                refine TL.val rfl rfl rfl (pm_load (k := 0) (i := 4) rfl rfl brfag3 rfl rfl) ?_
                refine TL.on rfl rfl rfl ?_
                refine TL.vsplit rfl rfl rfl (gives_bin rfl rfl rfl (fun w => bin_lss w)) (fun h53 => ?_) (fun h53 => ?_)
                · have q53 := of_decide_eq_true h53
                  refine TL.on rfl rfl rfl ?_
                  refine TL.val rfl rfl rfl (gives_pick rfl rfl rfl) ?_
                  refine TL.val rfl rfl rfl (gives_pick rfl rfl rfl) ?_
                  refine TL.end_ ?_
                  refine TX.then_ ?_
                  refine TC.condT rfl ?_
                  refine TC.seq_ ?_
                  refine TC.region ?_
                  refine TL.val rfl rfl rfl (gives_assign rfl rfl) ?_
                  refine TL.end_ ?_
                  refine TX.then_ ?_
                  refine TC.ret_ ?_
                  refine TX.in_ret ?_
                  refine TX.then_ret ?_
                  refine TX.then_ret ?_
                  refine TX.in_ret ?_
                  refine TX.then_ret ?_
                  exact ret_tmp Try.results28 rfl (fun w1 hw => ⟨_, rfl, hw.bel⟩)
                · have q53 := of_decide_eq_false h53
                  refine TL.on rfl rfl rfl ?_
                  refine TL.val rfl rfl rfl (gives_pick rfl rfl rfl) ?_
                  refine TL.val rfl rfl rfl (gives_pick rfl rfl rfl) ?_
                  refine TL.end_ ?_
                  refine TX.then_ ?_
                  refine TC.condF rfl ?_
                  refine TC.skip_ ?_
                  refine TX.in_normal ?_
                  refine TX.then_ ?_
                  refine TC.region ?_
                  refine TL.val rfl rfl rfl (gives_move rfl rfl) ?_
                  refine TL.val rfl rfl rfl (gives_bin rfl rfl rfl (fun w => bin_add_ (r := ((i + 1 : Nat) : Int)) (by simp only [IntKind.wrap_i64]; omega) w)) ?_
                  refine TL.val rfl rfl rfl (gives_assign rfl rfl) ?_
                  refine TL.end_ ?_
                  exact TX.round (⟨i + 1, by omega⟩) (by show es.length - (i + 1) < es.length - i; omega) ⟨rfl, rfl, trivial⟩ (fun w1 hw => hw.pick [2] (by decide) rfl)
              · have q47 := of_decide_eq_false h47
                refine TL.on rfl rfl rfl ?_
                refine TL.val rfl rfl rfl (gives_move rfl rfl) ?_
                refine TL.off rfl rfl rfl rfl rfl rfl ?_
                refine TL.off rfl rfl rfl rfl rfl rfl ?_
                refine TL.off rfl rfl rfl rfl rfl rfl ?_
                refine TL.off rfl rfl rfl rfl rfl rfl ?_
                refine TL.off rfl rfl rfl rfl rfl rfl ?_
                refine TL.on rfl rfl rfl ?_
                refine TL.val rfl rfl rfl (gives_pick rfl rfl rfl) ?_
                refine TL.val rfl rfl rfl (gives_pick rfl rfl rfl) ?_
                refine TL.end_ ?_
                refine TX.then_ ?_
                refine TC.condF rfl ?_
                refine TC.skip_ ?_
                refine TX.in_normal ?_
                refine TX.then_ ?_
                refine TC.region ?_
                refine TL.val rfl rfl rfl (gives_move rfl rfl) ?_
                refine TL.val rfl rfl rfl (gives_bin rfl rfl rfl (fun w => bin_add_ (r := ((i + 1 : Nat) : Int)) (by simp only [IntKind.wrap_i64]; omega) w)) ?_
                refine TL.val rfl rfl rfl (gives_assign rfl rfl) ?_
                refine TL.end_ ?_
                exact TX.round (⟨i + 1, by omega⟩) (by show es.length - (i + 1) < es.length - i; omega) ⟨rfl, rfl, trivial⟩ (fun w1 hw => hw.pick [2] (by decide) rfl)
      · refine TL.val rfl rfl rfl (gives_boolnot rfl rfl) ?_
        refine TL.end_ ?_
        refine TX.then_ ?_
        refine TC.condT rfl ?_
        refine TC.seq_ ?_
        refine TC.region ?_
        refine TL.val rfl rfl rfl (gives_assign rfl rfl) ?_
        refine TL.end_ ?_
        refine TX.then_ ?_
        refine TC.ret_ ?_
        refine TX.then_ret ?_
        refine TX.in_ret ?_
        refine TX.then_ret ?_
        refine TX.then_ret ?_
        refine TX.in_ret ?_
        refine TX.then_ret ?_
        exact ret_tmp Try.results28 rfl (fun w1 hw => ⟨_, rfl, hw.bel⟩)
    · have q15 := of_decide_eq_false h15
      refine TL.end_ ?_
      refine TX.then_ ?_
      refine TC.condF rfl ?_
      refine TC.exit_ ?_
      refine TX.then_exit ?_
      refine TX.then_exit ?_
      refine TX.in_same ?_
      refine TX.then_ ?_
      refine TC.seq_ ?_
      refine TC.region ?_
      refine TL.val rfl rfl rfl (gives_assign rfl rfl) ?_
      refine TL.end_ ?_
      refine TX.then_ ?_
      refine TC.ret_ ?_
      exact ret_tmp Try.results28 rfl (fun w1 hw => ⟨_, rfl, hw.bel⟩)
end Go.Proofs.Ytmbcclgnjobikaa
