/-
  The walks of awake and of DigestSums, by rules.
-/
import Derived.Test.YtllaojnnackhhaaDoorDgSum
import Derived.Test.YtllaojnnackhhaaDoorDgRAll
import Derived.Test.YtllaojnnackhhaaDoorREq
import Derived.Test.YtllaojnnackhhaaDoorFrame
import Derived.Test.YtllaojnnackhhaaDoorHex
import Derived.Test.YtllaojnnackhhaaDoorConcat
namespace Go.Proofs.YtllaojnnackhhaaDoor
open Go.RowKit
set_option linter.unusedVariables false
set_option linter.unusedSimpArgs false
def emptyHex : List Int := [101, 51, 98, 48, 99, 52, 52, 50, 57, 56, 102, 99, 49, 99, 49, 52, 57, 97, 102, 98, 102, 52, 99, 56, 57, 57, 54, 102, 98, 57, 50, 52, 50, 55, 97, 101, 52, 49, 101, 52, 54, 52, 57, 98, 57, 51, 52, 99, 97, 52, 57, 53, 57, 57, 49, 98, 55, 56, 53, 50, 98, 56, 53, 53]
theorem emptyHex_bs : Bs emptyHex := by unfold Bs; decide
set_option maxRecDepth 1000000 in
theorem empty_known : decide (hexL (shaF []) = emptyHex) = true := by decide +kernel
theorem byt_nil (w : World) : Byt w w.heap.size none 0 [] := ⟨⟨rfl, fun h => absurd h (by omega)⟩, Bs.nil⟩
theorem eq_true {f : FuncId} {vs : Array Value} {w : World} {l : List Int} {P : Program} (h : Calls P f vs w fun e w' => e = .returned (.bool (eqB l l)) ∧ ∃ q, w' = w.drewN q) : Calls P f vs w fun e w' => e = .returned (.bool true) ∧ Below w.heap.size w w' :=
  h.mono fun e w' ⟨he, q, hq⟩ => ⟨by rw [he, show eqB l l = true from decide_eq_true rfl], by subst hq; exact below_drewN (Below.refl _ _) q⟩
theorem nmSum : (Tryd.f9.name == "runtime.NumGoroutine") = false := by decide
theorem bdSum : Tryd.f9.body.isNone = false := rfl
theorem nmHex : (Tryd.f13.name == "runtime.NumGoroutine") = false := by decide
theorem bdHex : Tryd.f13.body.isNone = false := rfl
theorem nmRSum : (Tryd.f10.name == "runtime.NumGoroutine") = false := by decide
theorem bdRSum : Tryd.f10.body.isNone = false := rfl
theorem nmEqual : (Tryd.f8.name == "runtime.NumGoroutine") = false := by decide
theorem bdEqual : Tryd.f8.body.isNone = false := rfl
theorem nmAwake : (Tryd.f7.name == "runtime.NumGoroutine") = false := by decide
theorem bdAwake : Tryd.f7.body.isNone = false := rfl
theorem awake_any (w : World) {ts tk : TypeId} (hst : Blk w 0 ts start8.cells) (hky : Blk w 1 tk (arrOf keysL)) :
    Calls Tryd.prog 7 #[] w fun e w' => e = .returned (.bool true) ∧ Below w.heap.size w w' := by
  refine begin_ (vs := []) Tryd.func7 rfl rfl rfl ?_ (Pm.start w)
  refine TC.seq_ ?_
  refine TC.region ?_
  refine TL.val rfl rfl rfl (gives_assign rfl rfl) ?_
  refine TL.end_ ?_
  refine TX.then_ ?_
  refine TC.seq_ ?_
  refine TC.region ?_
  refine TL.pcallRow (n := 32) (ys := bv (shaF [])) rfl rfl rfl rfl rfl Tryd.func9 nmSum bdSum (fun w1 hw => sum_any none 0 0 [] w1 (byt_nil w1) (by decide) (hst.below hw.bel hst.lt) (hky.below hw.bel hky.lt)) (fun A1 c1 hA11 hA12 => ?_)
  refine TL.pcall1 (r := sv (hexL (shaF []))) rfl rfl rfl rfl rfl Tryd.func13 nmHex bdHex (fun w1 hw => hex_any A1 32 c1 _ w1 (byt_own (hw.at_ (k := 0) rfl) (shaF_bs _)) (by decide)) ?_
  refine TL.val rfl rfl rfl (gives_bin2 (vy := sv emptyHex) (v := .bool true) rfl rfl rfl (fun w => by rw [bin_streq (hexL_bs _ (shaF_bs _)) emptyHex_bs w, empty_known])) ?_
  refine TL.val rfl rfl rfl (gives_assign rfl rfl) ?_
  refine TL.end_ ?_
  refine TX.then_ ?_
  refine TC.ret_ ?_
  exact ret_tmp Tryd.results7 rfl (fun w1 hw => ⟨rfl, hw.bel⟩)
set_option maxRecDepth 100000 in
theorem digestSums_run (A : Option Addr) (n c : Nat) (l : List Int) (x : Int) (w : World) (hb : Byt w w.heap.size A n l) (hx : 0 ≤ x ∧ x ≤ 255) {ts tk : TypeId} (hst : Blk w 0 ts start8.cells) (hky : Blk w 1 tk (arrOf keysL)) :
    Calls Tryd.prog 3 #[.slice A n c, .int .u8 x] w fun e w' => e = .returned (.bool true) ∧ Below w.heap.size w w' := by
  refine begin_ (vs := [.slice A n c, .int .u8 x]) Tryd.func3 rfl rfl rfl ?_ (Pm.start w)
  refine TC.seq_ ?_
  refine TC.region ?_
  refine TL.val rfl rfl rfl (gives_assign rfl rfl) ?_
  refine TL.end_ ?_
  refine TX.then_ ?_
  refine TC.seq_ ?_
  refine TC.seq_ ?_
  refine TC.region ?_
  refine TL.pcall1 (r := .bool true) rfl rfl rfl rfl rfl Tryd.func7 nmAwake bdAwake (fun w1 hw => awake_any w1 (hst.below hw.bel hst.lt) (hky.below hw.bel hky.lt)) ?_
  refine TL.val rfl rfl rfl (gives_boolnot rfl rfl) ?_
  refine TL.val rfl rfl rfl (gives_move rfl rfl) ?_
  refine TL.on rfl rfl rfl ?_
  refine TL.val rfl rfl rfl (gives_move rfl rfl) ?_
  refine TL.on rfl rfl rfl ?_
  refine TL.val rfl rfl rfl (gives_len rfl Tryd.underlying22 rfl) ?_
  refine TL.on rfl rfl rfl ?_
  refine TL.val rfl rfl rfl (gives_bin rfl rfl rfl (fun w => bin_gtr w)) ?_
  refine TL.val rfl rfl rfl (gives_pick rfl rfl rfl) ?_
  refine TL.end_ ?_
  refine TX.then_ ?_
  refine TC.split rfl (fun hc12 => ?_) (fun hc12 => ?_)
  · refine TC.seq_ ?_
    refine TC.region ?_
    refine TL.val rfl rfl rfl (gives_move rfl rfl) ?_
    refine TL.val rfl rfl rfl (gives_len rfl Tryd.underlying22 rfl) ?_
    refine TL.val rfl rfl rfl (gives_bin rfl rfl rfl (fun w => bin_gtr w)) ?_
    refine TL.val rfl rfl rfl (gives_assign rfl rfl) ?_
    refine TL.end_ ?_
    refine TX.then_ ?_
    refine TC.ret_ ?_
    refine TX.then_ret ?_
    exact ret_tmp Tryd.results3 (v := .bool true) (by rw [show (true : Bool) = decide ((n : Int) > 3000) from hc12.symm]; rfl) (fun w1 hw => ⟨rfl, hw.bel⟩)
  · have hn3 : n ≤ 3000 := by have := of_decide_eq_false hc12; omega
    obtain ⟨m, hm, hm2⟩ : ∃ m : Nat, x % 130 = (m : Int) ∧ m < 130 := ⟨(x % 130).toNat, by omega, by omega⟩
    refine TC.skip_ ?_
    refine TX.then_ ?_
    refine TC.seq_ ?_
    refine TC.region ?_
    refine TL.val rfl rfl rfl (gives_move rfl rfl) ?_
    refine TL.nilrow 5 1 ?_
    refine TL.append (k := 0) rfl rfl rfl rfl elU8 rfl rfl rfl (fun w hw => pm_byt hw hb) (bv_one l) (by rw [Nat.mul_one]; omega) n (by omega) (fun A1 c1 hA11 hA12 => ?_)
    refine TL.val rfl rfl rfl (gives_move rfl rfl) ?_
    refine TL.val rfl rfl rfl (gives_conv rfl rfl (fun w => conv_fit Tryd.underlying3 Tryd.underlying5 (by simp only [IntKind.wrap_i64]; omega) w)) ?_
    refine TL.val rfl rfl rfl (gives_bin rfl rfl rfl (fun w => by rw [bin_remi hx.1 (by omega), hm])) ?_
    refine TL.zeros (k := 0) (m := m) rfl rfl rfl rfl elU8 Tryd.underlying3 rfl rfl rfl (z := .int .u8 0) (by kernel_rfl) (zs := bv (zeroL m)) (zero_cells m) zero_one (by rw [Nat.mul_one]; omega) (n + m) rfl (fun A2 c2 hA21 hA22 => ?_)
    refine TL.mem (I' := Pm w [.row (.slice A2 (n + m) c2) 5 1 (n + m) (bv (l ++ zeroL m))]) (fun w hw => by rw [bv_append]; exact hw) ?_
    refine TL.val rfl rfl rfl (gives_assign rfl rfl) ?_
    refine TL.end_ ?_
    refine TX.then_ ?_
    refine TC.seq_ ?_
    refine TC.region ?_
    refine TL.val rfl rfl rfl (gives_move rfl rfl) ?_
    refine TL.pcallRow (n := 32) (ys := bv (shaF l)) rfl rfl rfl rfl rfl Tryd.func9 nmSum bdSum (fun w1 hw => sum_any A n c l w1 ((hb.below hw.bel).more hw.bel.size) (by omega) (hst.below hw.bel hst.lt) (hky.below hw.bel hky.lt)) (fun A3 c3 hA31 hA32 => ?_)
    refine TL.val rfl rfl rfl (gives_move rfl rfl) ?_
    refine TL.pcallRow (n := 32) (ys := bv (shaF l)) rfl rfl rfl rfl rfl Tryd.func10 nmRSum bdRSum (fun w1 hw => rsum_all A n c l w1 ((hb.below hw.bel).more hw.bel.size) (by omega)) (fun A4 c4 hA41 hA42 => ?_)
    refine TL.pcall1 (r := .bool true) rfl rfl rfl rfl rfl Tryd.func8 nmEqual bdEqual (fun w1 hw => eq_true (requal_any A3 A4 32 c3 32 c4 _ _ w1 _ (byt_own (hw.at_ (k := 1) rfl) (shaF_bs _)) (byt_own (hw.at_ (k := 0) rfl) (shaF_bs _)) (by decide) (by decide))) ?_
    refine TL.val rfl rfl rfl (gives_move rfl rfl) ?_
    refine TL.on rfl rfl rfl ?_
    refine TL.val rfl rfl rfl (gives_move rfl rfl) ?_
    refine TL.on rfl rfl rfl ?_
    refine TL.pcallRow (n := 32) (ys := bv (shaF (l ++ zeroL m))) rfl rfl rfl rfl rfl Tryd.func9 nmSum bdSum (fun w1 hw => sum_any A2 (n + m) c2 (l ++ zeroL m) w1 (byt_own (hw.at_ (k := 2) rfl) (hb.2.app (zeroL_bs m))) (by omega) (hst.below hw.bel hst.lt) (hky.below hw.bel hky.lt)) (fun A5 c5 hA51 hA52 => ?_)
    refine TL.on rfl rfl rfl ?_
    refine TL.val rfl rfl rfl (gives_move rfl rfl) ?_
    refine TL.on rfl rfl rfl ?_
    refine TL.pcallRow (n := 32) (ys := bv (shaF (l ++ zeroL m))) rfl rfl rfl rfl rfl Tryd.func10 nmRSum bdRSum (fun w1 hw => rsum_all A2 (n + m) c2 (l ++ zeroL m) w1 (byt_own (hw.at_ (k := 3) rfl) (hb.2.app (zeroL_bs m))) (by omega)) (fun A6 c6 hA61 hA62 => ?_)
    refine TL.on rfl rfl rfl ?_
    refine TL.pcall1 (r := .bool true) rfl rfl rfl rfl rfl Tryd.func8 nmEqual bdEqual (fun w1 hw => eq_true (requal_any A5 A6 32 c5 32 c6 _ _ w1 _ (byt_own (hw.at_ (k := 1) rfl) (shaF_bs _)) (byt_own (hw.at_ (k := 0) rfl) (shaF_bs _)) (by decide) (by decide))) ?_
    refine TL.val rfl rfl rfl (gives_pick rfl rfl rfl) ?_
    refine TL.val rfl rfl rfl (gives_move rfl rfl) ?_
    refine TL.on rfl rfl rfl ?_
    refine TL.val rfl rfl rfl (gives_move rfl rfl) ?_
    refine TL.on rfl rfl rfl ?_
    refine TL.pcallRow (n := 32) (ys := bv (shaF (l ++ zeroL m))) rfl rfl rfl rfl rfl Tryd.func9 nmSum bdSum (fun w1 hw => sum_any A2 (n + m) c2 (l ++ zeroL m) w1 (byt_own (hw.at_ (k := 4) rfl) (hb.2.app (zeroL_bs m))) (by omega) (hst.below hw.bel hst.lt) (hky.below hw.bel hky.lt)) (fun A7 c7 hA71 hA72 => ?_)
    refine TL.on rfl rfl rfl ?_
    refine TL.val rfl rfl rfl (gives_len rfl Tryd.underlying22 rfl) ?_
    refine TL.on rfl rfl rfl ?_
    refine TL.val rfl rfl rfl (gives_bin rfl rfl rfl (fun w => bin_eql w)) ?_
    refine TL.val rfl rfl rfl (gives_pick rfl rfl rfl) ?_
    refine TL.val rfl rfl rfl (gives_assign rfl rfl) ?_
    refine TL.end_ ?_
    refine TX.then_ ?_
    refine TC.ret_ ?_
    exact ret_tmp Tryd.results3 rfl (fun w1 hw => ⟨rfl, hw.bel⟩)
theorem digestSums_walk (A : Option Addr) (n c : Nat) (l : List Int) (x : Int) (w : World) (hb : Byt w w.heap.size A n l) (hc : n ≤ c) (hx : (Lit.int .u8 x).wf = true) {ts tk : TypeId} (hst : Blk w 0 ts start8.cells) (hky : Blk w 1 tk (arrOf keysL)) :
    Calls Tryd.prog 3 #[.slice A n c, .int .u8 x] w fun e w' => e = .returned (.bool true) ∧ Below w.heap.size w w' := digestSums_run A n c l x w hb (wf_u8 hx) hst hky
end Go.Proofs.YtllaojnnackhhaaDoor
