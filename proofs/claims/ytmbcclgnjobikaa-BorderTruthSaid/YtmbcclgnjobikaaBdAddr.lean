/-
  Addresses and prefixes (chapter 1): the program's functions.
-/
import Derived.Test.YtmbcclgnjobikaaSymFlat
import Derived.Test.YtmbcclgnjobikaaDraw
namespace Go.Proofs.Ytmbcclgnjobikaa
open Go.RowKit
set_option linter.unusedVariables false
set_option linter.unusedSimpArgs false
set_option maxRecDepth 20000
/-- how two numbers compare -/
def cmpI (x y : Int) : Int := if x < y then -1 else if y < x then 1 else 0
/-- the first number that is not 0 -/
def orI : List Int → Int
  | [] => 0
  | x :: r => if x = 0 then orI r else x
def maskF (n : Int) : Int := IntKind.u32.wrap (4294967295 * 2 ^ (32 - n).toNat)
def vldP (a n : Int) : Bool := decide (0 ≤ n) && decide (n ≤ 32) && decide (bits .andNot .u32 a (maskF n) = 0)
def hasP (a n x : Int) : Bool := vldP a n && decide (bits .and .u32 x (maskF n) = a)
/-- how two prefixes compare -/
def cmpP (a n b m : Int) : Int := if cmpI a b = 0 then cmpI n m else cmpI a b
theorem or2 {a n b m : Int} : orI [cmpI a b, cmpI n m] = cmpP a n b m := by
  unfold cmpP
  show (if cmpI a b = 0 then (if cmpI n m = 0 then 0 else cmpI n m) else cmpI a b) = _
  split
  · split
    · rename_i h; exact h.symm
    · rfl
  · rfl
theorem vldP_le {a n : Int} (h : vldP a n = true) : 0 ≤ n ∧ n ≤ 32 := by
  simp [vldP] at h
  exact ⟨h.1.1, h.1.2⟩
theorem badnm68 : (Try.f68.name == "runtime.NumGoroutine") = false := by decide
theorem badbd68 : Try.f68.body.isNone = false := rfl
theorem badnm69 : (Try.f69.name == "runtime.NumGoroutine") = false := by decide
theorem badbd69 : Try.f69.body.isNone = false := rfl
theorem badsz3 (w : World) : (sizeOf 3).run Try.prog w = .ok 1 w := rfl
theorem badag3 (w : World) : (isAgg 3).run Try.prog w = .ok false w := rfl
theorem badfld43_1 (g o : Nat) (w : World) : (Instr.fieldAt 43 (.pointer (some ⟨g, o, none⟩)) 1).run Try.prog w = .ok (.pointer (some ⟨g, o + 1, none⟩)) w := by kernel_rfl
theorem badfld43_0 (g o : Nat) (w : World) : (Instr.fieldAt 43 (.pointer (some ⟨g, o, none⟩)) 0).run Try.prog w = .ok (.pointer (some ⟨g, o + 0, none⟩)) w := by kernel_rfl
theorem badag29 (w : World) : (isAgg 29).run Try.prog w = .ok false w := rfl
theorem badnm62 : (Try.f62.name == "runtime.NumGoroutine") = false := by decide
theorem badbd62 : Try.f62.body.isNone = false := rfl
theorem badnm60 : (Try.f60.name == "runtime.NumGoroutine") = false := by decide
theorem badbd60 : Try.f60.body.isNone = false := rfl
theorem badnm61 : (Try.f61.name == "runtime.NumGoroutine") = false := by decide
theorem badbd61 : Try.f61.body.isNone = false := rfl
theorem badbs30_2_20249 (a0_0 : Int) (a1_0 : Int) (w : World) : (Instr.buildSlice 30 2 #[(0, .int .i64 a0_0), (1, .int .i64 a1_0)]).run Try.prog w = .ok (.slice (some ⟨w.heap.size, 0, none⟩) 2 2) (w.alloc (.cells [.int .i64 a0_0, .int .i64 a1_0].toArray 3)) := by kernel_rfl
theorem badnm59 : (Try.f59.name == "runtime.NumGoroutine") = false := by decide
theorem badbd59 : Try.f59.body.isNone = false := rfl
theorem badag43 (w : World) : (isAgg 43).run Try.prog w = .ok true w := rfl
theorem badsz43 (w : World) : (sizeOf 43).run Try.prog w = .ok 2 w := rfl
theorem badnm58 : (Try.f58.name == "runtime.NumGoroutine") = false := by decide
theorem badbd58 : Try.f58.body.isNone = false := rfl
set_option maxHeartbeats 1000000 in
theorem nanI_any (x : Int) (w : World) :
    Calls Try.prog 68 #[.int .i64 x] w fun e w' => e = .returned (.bool false) ∧ w' = w := by
  refine begin_ (vs := [.int .i64 x]) (I := fun w1 => w1 = w) Try.func68 rfl rfl rfl ?_ rfl
  refine TC.seq_ ?_
  refine TC.region ?_
  refine TL.val rfl rfl rfl (gives_assign rfl rfl) ?_
  refine TL.end_ ?_
  refine TX.then_ ?_
  refine TC.seq_ ?_
  refine TC.region ?_
  refine TL.val rfl rfl rfl (gives_move rfl rfl) ?_
  refine TL.val rfl rfl rfl (gives_move rfl rfl) ?_
  refine TL.val rfl rfl rfl (gives_bin rfl rfl rfl (fun w => bin_neq_f rfl w)) ?_
  refine TL.val rfl rfl rfl (gives_assign rfl rfl) ?_
  refine TL.end_ ?_
  refine TX.then_ ?_
  refine TC.ret_ ?_
  exact ret_tmp Try.results68 rfl (fun w1 hw => ⟨rfl, hw⟩)
set_option maxHeartbeats 1000000 in
theorem nanA_any (x : Int) (w : World) :
    Calls Try.prog 69 #[.int .u32 x] w fun e w' => e = .returned (.bool false) ∧ w' = w := by
  refine begin_ (vs := [.int .u32 x]) (I := fun w1 => w1 = w) Try.func69 rfl rfl rfl ?_ rfl
  refine TC.seq_ ?_
  refine TC.region ?_
  refine TL.val rfl rfl rfl (gives_assign rfl rfl) ?_
  refine TL.end_ ?_
  refine TX.then_ ?_
  refine TC.seq_ ?_
  refine TC.region ?_
  refine TL.val rfl rfl rfl (gives_move rfl rfl) ?_
  refine TL.val rfl rfl rfl (gives_move rfl rfl) ?_
  refine TL.val rfl rfl rfl (gives_bin rfl rfl rfl (fun w => bin_neq_f rfl w)) ?_
  refine TL.val rfl rfl rfl (gives_assign rfl rfl) ?_
  refine TL.end_ ?_
  refine TX.then_ ?_
  refine TC.ret_ ?_
  exact ret_tmp Try.results69 rfl (fun w1 hw => ⟨rfl, hw⟩)
set_option maxHeartbeats 1000000 in
theorem cmpI_any (x y : Int) (w : World) :
    Calls Try.prog 61 #[.int .i64 x, .int .i64 y] w fun e w' => e = .returned (.int .i64 (cmpI x y)) ∧ w' = w := by
  refine begin_ (vs := [.int .i64 x, .int .i64 y]) (I := fun w1 => w1 = w) Try.func61 rfl rfl rfl ?_ rfl
  refine TC.seq_ ?_
  refine TC.region ?_
  refine TL.val rfl rfl rfl (gives_assign rfl rfl) ?_
  refine TL.end_ ?_
  refine TX.then_ ?_
  refine TC.seq_ ?_
  refine TC.region ?_
  refine TL.val rfl rfl rfl (gives_move rfl rfl) ?_
  refine TL.stcall (r := .bool false) rfl rfl rfl rfl rfl Try.func68 badnm68 badbd68 (fun w1 hw => nanI_any x w1) ?_
  refine TL.val rfl rfl rfl (gives_assign rfl rfl) ?_
  refine TL.end_ ?_
  refine TX.then_ ?_
  refine TC.seq_ ?_
  refine TC.region ?_
  refine TL.val rfl rfl rfl (gives_move rfl rfl) ?_
  refine TL.stcall (r := .bool false) rfl rfl rfl rfl rfl Try.func68 badnm68 badbd68 (fun w1 hw => nanI_any y w1) ?_
  refine TL.val rfl rfl rfl (gives_assign rfl rfl) ?_
  refine TL.end_ ?_
  refine TX.then_ ?_
  refine TC.seq_ ?_
  refine TC.seq_ ?_
  refine TC.region ?_
  refine TL.val rfl rfl rfl (gives_move rfl rfl) ?_
  refine TL.end_ ?_
  refine TX.then_ ?_
  refine TC.condF rfl ?_
  refine TC.skip_ ?_
  refine TX.then_ ?_
  refine TC.seq_ ?_
  refine TC.seq_ ?_
  refine TC.region ?_
  refine TL.val rfl rfl rfl (gives_move rfl rfl) ?_
  refine TL.end_ ?_
  refine TX.then_ ?_
  refine TC.condF rfl ?_
  refine TC.skip_ ?_
  refine TX.then_ ?_
  refine TC.seq_ ?_
  refine TC.seq_ ?_
  refine TC.region ?_
  refine TL.val rfl rfl rfl (gives_move rfl rfl) ?_
  refine TL.val rfl rfl rfl (gives_move rfl rfl) ?_
  refine TL.vsplit rfl rfl rfl (gives_bin rfl rfl rfl (fun w => bin_lss w)) (fun h16 => ?_) (fun h16 => ?_)
  · have q16 := of_decide_eq_true h16
    refine TL.end_ ?_
    refine TX.then_ ?_
    refine TC.condT rfl ?_
    refine TC.seq_ ?_
    refine TC.region ?_
    refine TL.val rfl rfl rfl (gives_assign rfl rfl) ?_
    refine TL.end_ ?_
    refine TX.then_ ?_
    refine TC.ret_ ?_
    refine TX.then_ret ?_
    have hE : (cmpI x y) = -1 := (by simp [cmpI, q16]; try omega)
    exact ret_tmp Try.results61 rfl (fun w1 hw => ⟨by rw [hE], hw⟩)
  · have q16 := of_decide_eq_false h16
    refine TL.end_ ?_
    refine TX.then_ ?_
    refine TC.condF rfl ?_
    refine TC.skip_ ?_
    refine TX.then_ ?_
    refine TC.seq_ ?_
    refine TC.seq_ ?_
    refine TC.region ?_
    refine TL.val rfl rfl rfl (gives_move rfl rfl) ?_
    refine TL.val rfl rfl rfl (gives_move rfl rfl) ?_
    refine TL.vsplit rfl rfl rfl (gives_bin rfl rfl rfl (fun w => bin_gtr w)) (fun h19 => ?_) (fun h19 => ?_)
    · have q19 := of_decide_eq_true h19
      refine TL.end_ ?_
      refine TX.then_ ?_
      refine TC.condT rfl ?_
      refine TC.seq_ ?_
      refine TC.region ?_
      refine TL.val rfl rfl rfl (gives_assign rfl rfl) ?_
      refine TL.end_ ?_
      refine TX.then_ ?_
      refine TC.ret_ ?_
      refine TX.then_ret ?_
      have hE : (cmpI x y) = 1 := (by simp [cmpI, q16, q19]; try omega)
      exact ret_tmp Try.results61 rfl (fun w1 hw => ⟨by rw [hE], hw⟩)
    · have q19 := of_decide_eq_false h19
      refine TL.end_ ?_
      refine TX.then_ ?_
      refine TC.condF rfl ?_
      refine TC.skip_ ?_
      refine TX.then_ ?_
      refine TC.seq_ ?_
      refine TC.region ?_
      refine TL.val rfl rfl rfl (gives_assign rfl rfl) ?_
      refine TL.end_ ?_
      refine TX.then_ ?_
      refine TC.ret_ ?_
      have hE : (cmpI x y) = 0 := (by simp [cmpI, q16, q19]; try omega)
      exact ret_tmp Try.results61 rfl (fun w1 hw => ⟨by rw [hE], hw⟩)
set_option maxHeartbeats 1000000 in
theorem cmpA_any (x y : Int) (w : World) :
    Calls Try.prog 60 #[.int .u32 x, .int .u32 y] w fun e w' => e = .returned (.int .i64 (cmpI x y)) ∧ w' = w := by
  refine begin_ (vs := [.int .u32 x, .int .u32 y]) (I := fun w1 => w1 = w) Try.func60 rfl rfl rfl ?_ rfl
  refine TC.seq_ ?_
  refine TC.region ?_
  refine TL.val rfl rfl rfl (gives_assign rfl rfl) ?_
  refine TL.end_ ?_
  refine TX.then_ ?_
  refine TC.seq_ ?_
  refine TC.region ?_
  refine TL.val rfl rfl rfl (gives_move rfl rfl) ?_
  refine TL.stcall (r := .bool false) rfl rfl rfl rfl rfl Try.func69 badnm69 badbd69 (fun w1 hw => nanA_any x w1) ?_
  refine TL.val rfl rfl rfl (gives_assign rfl rfl) ?_
  refine TL.end_ ?_
  refine TX.then_ ?_
  refine TC.seq_ ?_
  refine TC.region ?_
  refine TL.val rfl rfl rfl (gives_move rfl rfl) ?_
  refine TL.stcall (r := .bool false) rfl rfl rfl rfl rfl Try.func69 badnm69 badbd69 (fun w1 hw => nanA_any y w1) ?_
  refine TL.val rfl rfl rfl (gives_assign rfl rfl) ?_
  refine TL.end_ ?_
  refine TX.then_ ?_
  refine TC.seq_ ?_
  refine TC.seq_ ?_
  refine TC.region ?_
  refine TL.val rfl rfl rfl (gives_move rfl rfl) ?_
  refine TL.end_ ?_
  refine TX.then_ ?_
  refine TC.condF rfl ?_
  refine TC.skip_ ?_
  refine TX.then_ ?_
  refine TC.seq_ ?_
  refine TC.seq_ ?_
  refine TC.region ?_
  refine TL.val rfl rfl rfl (gives_move rfl rfl) ?_
  refine TL.end_ ?_
  refine TX.then_ ?_
  refine TC.condF rfl ?_
  refine TC.skip_ ?_
  refine TX.then_ ?_
  refine TC.seq_ ?_
  refine TC.seq_ ?_
  refine TC.region ?_
  refine TL.val rfl rfl rfl (gives_move rfl rfl) ?_
  refine TL.val rfl rfl rfl (gives_move rfl rfl) ?_
  refine TL.vsplit rfl rfl rfl (gives_bin rfl rfl rfl (fun w => bin_lss w)) (fun h16 => ?_) (fun h16 => ?_)
  · have q16 := of_decide_eq_true h16
    refine TL.end_ ?_
    refine TX.then_ ?_
    refine TC.condT rfl ?_
    refine TC.seq_ ?_
    refine TC.region ?_
    refine TL.val rfl rfl rfl (gives_assign rfl rfl) ?_
    refine TL.end_ ?_
    refine TX.then_ ?_
    refine TC.ret_ ?_
    refine TX.then_ret ?_
    have hE : (cmpI x y) = -1 := (by simp [cmpI, q16]; try omega)
    exact ret_tmp Try.results60 rfl (fun w1 hw => ⟨by rw [hE], hw⟩)
  · have q16 := of_decide_eq_false h16
    refine TL.end_ ?_
    refine TX.then_ ?_
    refine TC.condF rfl ?_
    refine TC.skip_ ?_
    refine TX.then_ ?_
    refine TC.seq_ ?_
    refine TC.seq_ ?_
    refine TC.region ?_
    refine TL.val rfl rfl rfl (gives_move rfl rfl) ?_
    refine TL.val rfl rfl rfl (gives_move rfl rfl) ?_
    refine TL.vsplit rfl rfl rfl (gives_bin rfl rfl rfl (fun w => bin_gtr w)) (fun h19 => ?_) (fun h19 => ?_)
    · have q19 := of_decide_eq_true h19
      refine TL.end_ ?_
      refine TX.then_ ?_
      refine TC.condT rfl ?_
      refine TC.seq_ ?_
      refine TC.region ?_
      refine TL.val rfl rfl rfl (gives_assign rfl rfl) ?_
      refine TL.end_ ?_
      refine TX.then_ ?_
      refine TC.ret_ ?_
      refine TX.then_ret ?_
      have hE : (cmpI x y) = 1 := (by simp [cmpI, q16, q19]; try omega)
      exact ret_tmp Try.results60 rfl (fun w1 hw => ⟨by rw [hE], hw⟩)
    · have q19 := of_decide_eq_false h19
      refine TL.end_ ?_
      refine TX.then_ ?_
      refine TC.condF rfl ?_
      refine TC.skip_ ?_
      refine TX.then_ ?_
      refine TC.seq_ ?_
      refine TC.region ?_
      refine TL.val rfl rfl rfl (gives_assign rfl rfl) ?_
      refine TL.end_ ?_
      refine TX.then_ ?_
      refine TC.ret_ ?_
      have hE : (cmpI x y) = 0 := (by simp [cmpI, q16, q19]; try omega)
      exact ret_tmp Try.results60 rfl (fun w1 hw => ⟨by rw [hE], hw⟩)
set_option maxHeartbeats 1000000 in
theorem mask_any (n : Int) (h0 : 0 ≤ n) (h1 : n ≤ 32) (w : World) :
    Calls Try.prog 62 #[.int .i64 n] w fun e w' => e = .returned (.int .u32 (maskF n)) ∧ w' = w := by
  refine begin_ (vs := [.int .i64 n]) (I := fun w1 => w1 = w) Try.func62 rfl rfl rfl ?_ rfl
  refine TC.seq_ ?_
  refine TC.region ?_
  refine TL.val rfl rfl rfl (gives_assign rfl rfl) ?_
  refine TL.end_ ?_
  refine TX.then_ ?_
  refine TC.seq_ ?_
  refine TC.region ?_
  refine TL.val rfl rfl rfl (gives_move rfl rfl) ?_
  refine TL.val rfl rfl rfl (gives_bin rfl rfl rfl (fun w => bin_sub_ (r := 32 - n) (by simp only [IntKind.wrap_i64]; omega) w)) ?_
  refine TL.val rfl rfl rfl (gives_bin (v := .int .u32 (maskF n)) rfl rfl rfl (fun w => bin_shl (2 ^ (32 - n).toNat) (by omega) (by simp only [IntKind.bits]; omega) rfl w)) ?_
  refine TL.val rfl rfl rfl (gives_assign rfl rfl) ?_
  refine TL.end_ ?_
  refine TX.then_ ?_
  refine TC.ret_ ?_
  exact ret_tmp Try.results62 rfl (fun w1 hw => ⟨rfl, hw⟩)
set_option maxHeartbeats 1000000 in
theorem orI_any (A0 : Option Addr) (n0 c0 : Nat) (xs : List Int) (w : World) (hr : Reads w w.heap.size 1 A0 n0 (flat (ic .i64) xs)) (hl : xs.length = n0) (hl1 : xs.length ≤ 100000) :
    Calls Try.prog 59 #[.slice A0 n0 c0] w fun e w' => e = .returned (.int .i64 (orI xs)) ∧ Below w.heap.size w w' := by
  subst hl
  refine begin_ (vs := [.slice A0 xs.length c0]) Try.func59 rfl rfl rfl ?_ (Pm.start w)
  refine TC.seq_ ?_
  refine TC.region ?_
  refine TL.val rfl rfl rfl (gives_assign rfl rfl) ?_
  refine TL.end_ ?_
  refine TX.then_ ?_
  refine TC.seq_ ?_
  refine TC.region ?_
  refine TL.val rfl rfl rfl (gives_assign rfl rfl) ?_
  refine TL.end_ ?_
  refine TX.then_ ?_
  refine TC.seq_ ?_
  refine TC.seq_ ?_
  refine TC.region ?_
  refine TL.val rfl rfl rfl (gives_move rfl rfl) ?_
  refine TL.val rfl rfl rfl (gives_len rfl Try.underlying30 rfl) ?_
  refine TL.val rfl rfl rfl (gives_move rfl rfl) ?_
  refine TL.end_ ?_
  refine TX.then_ ?_
  refine TC.block ?_
  refine TC.loop_ (α := {i : Nat // i ≤ xs.length ∧ orI (xs.drop i) = orI xs}) (fun y => [(0, .slice A0 xs.length c0), (3, .int .i64 0), (6, .slice A0 xs.length c0), (7, .int .i64 (xs.length : Nat)), (8, .int .i64 ((y.1 : Nat) : Int))]) (fun y => Pm w []) (fun y => xs.length - y.1) (⟨0, Nat.zero_le _, rfl⟩) ⟨rfl, rfl, rfl, rfl, rfl, trivial⟩ (fun w1 hw => hw) ?_
  rintro ⟨i, hi, ho⟩
  try dsimp only at hi ho ⊢
  refine TC.seq_ ?_
  refine TC.region ?_
  refine TL.vsplit rfl rfl rfl (gives_bin rfl rfl rfl (fun w => bin_lss w)) (fun h9 => ?_) (fun h9 => ?_)
  · have q9 := of_decide_eq_true h9
    refine TL.end_ ?_
    refine TX.then_ ?_
    refine TC.seq_ ?_
    refine TC.condT rfl ?_
    refine TC.skip_ ?_
    refine TX.then_ ?_
    refine TC.seq_ ?_
    refine TC.block ?_
    refine TC.seq_ ?_
    refine TC.region ?_
    have hi10 : i < xs.length := by omega
    obtain ⟨x10, hx10⟩ : ∃ x10, xs[i]? = some x10 := ⟨_, List.getElem?_eq_getElem hi10⟩
    obtain ⟨b10, o10, hA10, hbb10, hc10⟩ := hr.ad (by omega) (by decide)
    have hdr : xs.drop i = x10 :: xs.drop (i + 1) := by obtain ⟨hlt, e⟩ := List.getElem?_eq_some_iff.1 hx10; rw [List.drop_eq_getElem_cons hlt, e]
    refine TL.val rfl rfl rfl (gives_at (v := .pointer (some ⟨b10, o10 + i * 1, none⟩)) rfl rfl rfl (fun w => at_el Try.underlying30 badsz3 hA10 _ _ i (by omega) rfl w)) ?_
    refine TL.val rfl rfl rfl (gives_load (v := .int .i64 x10) rfl rfl badag3 (fun w1 hw => (hw.bel.cell hbb10).trans <| flat_cell (ic_cel .i64) hx10 hc10 0 _ rfl)) ?_
    refine TL.val rfl rfl rfl (gives_assign rfl rfl) ?_
    refine TL.end_ ?_
    refine TX.then_ ?_
    refine TC.seq_ ?_
    refine TC.region ?_
    refine TL.val rfl rfl rfl (gives_move rfl rfl) ?_
    refine TL.val rfl rfl rfl (gives_move rfl rfl) ?_
    refine TL.vsplit rfl rfl rfl (gives_bin rfl rfl rfl (fun w => bin_neq w)) (fun h14 => ?_) (fun h14 => ?_)
    · have q14 := of_decide_eq_true h14
      refine TL.end_ ?_
      refine TX.then_ ?_
      refine TC.condT rfl ?_
      refine TC.seq_ ?_
      refine TC.region ?_
      refine TL.val rfl rfl rfl (gives_move rfl rfl) ?_
      refine TL.val rfl rfl rfl (gives_assign rfl rfl) ?_
      refine TL.end_ ?_
      refine TX.then_ ?_
      refine TC.ret_ ?_
      refine TX.in_ret ?_
      refine TX.then_ret ?_
      refine TX.then_ret ?_
      refine TX.in_ret ?_
      refine TX.then_ret ?_
      exact ret_tmp Try.results59 rfl (fun w1 hw => ⟨by rw [← ho, hdr]; unfold orI; rw [if_neg q14], hw.bel⟩)
    · have q14 := of_decide_eq_false h14
      have ho2 : orI (xs.drop (i + 1)) = orI xs := by rw [← ho, hdr]; exact (if_pos (Decidable.not_not.1 q14)).symm
      refine TL.end_ ?_
      refine TX.then_ ?_
      refine TC.condF rfl ?_
      refine TC.skip_ ?_
      refine TX.in_normal ?_
      refine TX.then_ ?_
      refine TC.region ?_
      refine TL.val rfl rfl rfl (gives_bin rfl rfl rfl (fun w => bin_add_ (r := ((i + 1 : Nat) : Int)) (by simp only [IntKind.wrap_i64]; omega) w)) ?_
      refine TL.val rfl rfl rfl (gives_move rfl rfl) ?_
      refine TL.end_ ?_
      exact TX.round (⟨i + 1, by omega, ho2⟩) (by show xs.length - (i + 1) < xs.length - i; omega) ⟨rfl, rfl, rfl, rfl, rfl, trivial⟩ (fun w1 hw => hw)
  · have q9 := of_decide_eq_false h9
    refine TL.end_ ?_
    refine TX.then_ ?_
    refine TC.seq_ ?_
    refine TC.condF rfl ?_
    refine TC.exit_ ?_
    refine TX.then_exit ?_
    refine TX.then_exit ?_
    refine TX.in_same ?_
    refine TX.then_ ?_
    refine TC.seq_ ?_
    refine TC.region ?_
    refine TL.val rfl rfl rfl (gives_move rfl rfl) ?_
    refine TL.val rfl rfl rfl (gives_assign rfl rfl) ?_
    refine TL.end_ ?_
    refine TX.then_ ?_
    refine TC.ret_ ?_
    exact ret_tmp Try.results59 rfl (fun w1 hw => ⟨by rw [← ho, List.drop_of_length_le (by omega)]; rfl, hw.bel⟩)
set_option maxHeartbeats 1000000 in
theorem vldP_any (a n : Int) (w : World) :
    Calls Try.prog 58 #[.agg #[.int .u32 a, .int .i64 n]] w fun e w' => e = .returned (.bool (vldP a n)) ∧ Below w.heap.size w w' := by
  refine begin_ (vs := [.agg #[.int .u32 a, .int .i64 n]]) Try.func58 rfl rfl rfl ?_ (Pm.start w)
  refine TC.seq_ ?_
  refine TC.region ?_
  refine TL.pnew rfl rfl rfl (exec_box (cs := [.int .u32 a, .int .i64 n]) rfl rfl rfl) (fun g1 => ?_)
  refine TL.val rfl rfl rfl (gives_assign rfl rfl) ?_
  refine TL.end_ ?_
  refine TX.then_ ?_
  refine TC.seq_ ?_
  refine TC.quietQ (by kernel_rfl) (by kernel_rfl) (fun w hw => hw.drawn _) ?_
  refine TQ.val rfl rfl rfl (gives_field (v := .pointer (some ⟨g1, 1, none⟩)) rfl rfl (fun w => badfld43_1 _ _ w)) ?_
  refine TQ.val rfl rfl rfl (pm_load (k := 0) (i := 1) rfl rfl badag3 rfl rfl) ?_
  refine TQ.vsplit rfl rfl rfl (gives_bin rfl rfl rfl (fun w => bin_geq w)) (fun h5 => ?_) (fun h5 => ?_)
  · have q5 := of_decide_eq_true h5
    refine TQ.val rfl rfl rfl (gives_move rfl rfl) ?_
    refine TQ.on rfl rfl rfl ?_
    refine TQ.val rfl rfl rfl (gives_field (v := .pointer (some ⟨g1, 1, none⟩)) rfl rfl (fun w => badfld43_1 _ _ w)) ?_
    refine TQ.on rfl rfl rfl ?_
    refine TQ.val rfl rfl rfl (pm_load (k := 0) (i := 1) rfl rfl badag3 rfl rfl) ?_
    refine TQ.on rfl rfl rfl ?_
    refine TQ.vsplit rfl rfl rfl (gives_bin rfl rfl rfl (fun w => bin_leq w)) (fun h9 => ?_) (fun h9 => ?_)
    · have q9 := of_decide_eq_true h9
      refine TQ.val rfl rfl rfl (gives_pick rfl rfl rfl) ?_
      refine TQ.val rfl rfl rfl (gives_move rfl rfl) ?_
      refine TQ.on rfl rfl rfl ?_
      refine TQ.val rfl rfl rfl (gives_field (v := .pointer (some ⟨g1, 0, none⟩)) rfl rfl (fun w => badfld43_0 _ _ w)) ?_
      refine TQ.on rfl rfl rfl ?_
      refine TQ.val rfl rfl rfl (pm_load (k := 0) (i := 0) rfl rfl badag29 rfl rfl) ?_
      refine TQ.on rfl rfl rfl ?_
      refine TQ.val rfl rfl rfl (gives_field (v := .pointer (some ⟨g1, 1, none⟩)) rfl rfl (fun w => badfld43_1 _ _ w)) ?_
      refine TQ.on rfl rfl rfl ?_
      refine TQ.val rfl rfl rfl (pm_load (k := 0) (i := 1) rfl rfl badag3 rfl rfl) ?_
      refine TQ.on rfl rfl rfl ?_
      refine TQ.call (v := .int .u32 (maskF n)) rfl rfl rfl rfl rfl Try.func62 badnm62 badbd62 (fun w1 hw => (still_bel (mask_any n (by omega) (by omega) w1)).mono fun en w2 ⟨h1, h2⟩ => ⟨h1, hw.below h2⟩) ?_
      refine TQ.on rfl rfl rfl ?_
      refine TQ.val rfl rfl rfl (gives_bin rfl rfl rfl (fun w => bin_andNot w)) ?_
      refine TQ.on rfl rfl rfl ?_
      refine TQ.vsplit rfl rfl rfl (gives_bin rfl rfl rfl (fun w => bin_eql w)) (fun h18 => ?_) (fun h18 => ?_)
      · have q18 := of_decide_eq_true h18
        refine TQ.val rfl rfl rfl (gives_pick rfl rfl rfl) ?_
        refine TQ.val rfl rfl rfl (gives_assign rfl rfl) ?_
        refine TQ.fin ?_
        refine TX.then_ ?_
        refine TC.ret_ ?_
        have hE : (vldP a n) = true := (by simp [vldP, q5, q9, q18]; try omega)
        exact ret_tmp Try.results58 rfl (fun w1 hw => ⟨by rw [hE], hw.bel⟩)
      · have q18 := of_decide_eq_false h18
        refine TQ.val rfl rfl rfl (gives_pick rfl rfl rfl) ?_
        refine TQ.val rfl rfl rfl (gives_assign rfl rfl) ?_
        refine TQ.fin ?_
        refine TX.then_ ?_
        refine TC.ret_ ?_
        have hE : (vldP a n) = false := (by simp [vldP, q5, q9, q18]; try omega)
        exact ret_tmp Try.results58 rfl (fun w1 hw => ⟨by rw [hE], hw.bel⟩)
    · have q9 := of_decide_eq_false h9
      refine TQ.val rfl rfl rfl (gives_pick rfl rfl rfl) ?_
      refine TQ.val rfl rfl rfl (gives_move rfl rfl) ?_
      refine TQ.off rfl rfl rfl rfl rfl rfl ?_
      refine TQ.off rfl rfl rfl rfl rfl rfl ?_
      refine TQ.off rfl rfl rfl rfl rfl rfl ?_
      refine TQ.off rfl rfl rfl rfl rfl rfl ?_
      refine TQ.off rfl rfl rfl rfl rfl rfl ?_
      refine TQ.off rfl rfl rfl rfl rfl rfl ?_
      refine TQ.off rfl rfl rfl rfl rfl rfl ?_
      refine TQ.val rfl rfl rfl (gives_pick rfl rfl rfl) ?_
      refine TQ.val rfl rfl rfl (gives_assign rfl rfl) ?_
      refine TQ.fin ?_
      refine TX.then_ ?_
      refine TC.ret_ ?_
      have hE : (vldP a n) = false := (by simp [vldP, q5, q9]; try omega)
      exact ret_tmp Try.results58 rfl (fun w1 hw => ⟨by rw [hE], hw.bel⟩)
  · have q5 := of_decide_eq_false h5
    refine TQ.val rfl rfl rfl (gives_move rfl rfl) ?_
    refine TQ.off rfl rfl rfl rfl rfl rfl ?_
    refine TQ.off rfl rfl rfl rfl rfl rfl ?_
    refine TQ.off rfl rfl rfl rfl rfl rfl ?_
    refine TQ.val rfl rfl rfl (gives_pick rfl rfl rfl) ?_
    refine TQ.val rfl rfl rfl (gives_move rfl rfl) ?_
    refine TQ.off rfl rfl rfl rfl rfl rfl ?_
    refine TQ.off rfl rfl rfl rfl rfl rfl ?_
    refine TQ.off rfl rfl rfl rfl rfl rfl ?_
    refine TQ.off rfl rfl rfl rfl rfl rfl ?_
    refine TQ.off rfl rfl rfl rfl rfl rfl ?_
    refine TQ.off rfl rfl rfl rfl rfl rfl ?_
    refine TQ.off rfl rfl rfl rfl rfl rfl ?_
    refine TQ.val rfl rfl rfl (gives_pick rfl rfl rfl) ?_
    refine TQ.val rfl rfl rfl (gives_assign rfl rfl) ?_
    refine TQ.fin ?_
    refine TX.then_ ?_
    refine TC.ret_ ?_
    have hE : (vldP a n) = false := (by simp [vldP, q5]; try omega)
    exact ret_tmp Try.results58 rfl (fun w1 hw => ⟨by rw [hE], hw.bel⟩)
set_option maxHeartbeats 1000000 in
theorem cmpP_any (a n b m : Int) (w : World) :
    Calls Try.prog 44 #[.agg #[.int .u32 a, .int .i64 n], .agg #[.int .u32 b, .int .i64 m]] w fun e w' => e = .returned (.int .i64 (cmpP a n b m)) ∧ Below w.heap.size w w' := by
  refine begin_ (vs := [.agg #[.int .u32 a, .int .i64 n], .agg #[.int .u32 b, .int .i64 m]]) Try.func44 rfl rfl rfl ?_ (Pm.start w)
  refine TC.seq_ ?_
  refine TC.region ?_
  refine TL.pnew rfl rfl rfl (exec_box (cs := [.int .u32 a, .int .i64 n]) rfl rfl rfl) (fun g2 => ?_)
  refine TL.pnew rfl rfl rfl (exec_box (cs := [.int .u32 b, .int .i64 m]) rfl rfl rfl) (fun g3 => ?_)
  refine TL.val rfl rfl rfl (gives_assign rfl rfl) ?_
  refine TL.end_ ?_
  refine TX.then_ ?_
  refine TC.seq_ ?_
  refine TC.tail 10 (by kernel_rfl) (by kernel_rfl) (fun w hw => hw.drawn _) ?_
  refine TS.val rfl rfl rfl (gives_field (v := .pointer (some ⟨g2, 0, none⟩)) rfl rfl (fun w => badfld43_0 _ _ w)) ?_
  refine TS.val rfl rfl rfl (pm_load (k := 1) (i := 0) rfl rfl badag29 rfl rfl) ?_
  refine TS.val rfl rfl rfl (gives_field (v := .pointer (some ⟨g3, 0, none⟩)) rfl rfl (fun w => badfld43_0 _ _ w)) ?_
  refine TS.val rfl rfl rfl (pm_load (k := 0) (i := 0) rfl rfl badag29 rfl rfl) ?_
  refine TS.call (r := .int .i64 (cmpI a b)) rfl rfl rfl rfl rfl Try.func60 badnm60 badbd60 (fun w1 hw => cmpA_any a b w1) ?_
  refine TS.val rfl rfl rfl (gives_field (v := .pointer (some ⟨g2, 1, none⟩)) rfl rfl (fun w => badfld43_1 _ _ w)) ?_
  refine TS.val rfl rfl rfl (pm_load (k := 1) (i := 1) rfl rfl badag3 rfl rfl) ?_
  refine TS.val rfl rfl rfl (gives_field (v := .pointer (some ⟨g3, 1, none⟩)) rfl rfl (fun w => badfld43_1 _ _ w)) ?_
  refine TS.val rfl rfl rfl (pm_load (k := 0) (i := 1) rfl rfl badag3 rfl rfl) ?_
  refine TS.call (r := .int .i64 (cmpI n m)) rfl rfl rfl rfl rfl Try.func61 badnm61 badbd61 (fun w1 hw => cmpI_any n m w1) ?_
  refine TS.end_ ?_
  refine TL.prowS (e := 3) (size := 1) (cs := flat (ic .i64) [cmpI a b, cmpI n m]) rfl rfl rfl rfl rfl (fun w => badbs30_2_20249 _ _ w) (by decide) rfl (fun g15 => ?_)
  refine TL.pcall1 (r := .int .i64 (cmpP a n b m)) rfl rfl rfl rfl rfl Try.func59 badnm59 badbd59 (fun w1 hw => (by have h9 := orI_any (some ⟨g15, 0, none⟩) 2 2 ([cmpI a b, cmpI n m]) w1 (pm_rd hw (k := 0) rfl) rfl (by show 2 ≤ 100000; decide); rw [or2] at h9; exact h9)) ?_
  refine TL.val rfl rfl rfl (gives_assign rfl rfl) ?_
  refine TL.end_ ?_
  refine TX.then_ ?_
  refine TC.ret_ ?_
  have hE : (cmpP a n b m) = cmpP a n b m := (by simp [cmpP])
  exact ret_tmp Try.results44 rfl (fun w1 hw => ⟨by rw [hE], hw.bel⟩)
set_option maxHeartbeats 1000000 in
theorem hasP_any (a n x : Int) (w : World) :
    Calls Try.prog 45 #[.agg #[.int .u32 a, .int .i64 n], .int .u32 x] w fun e w' => e = .returned (.bool (hasP a n x)) ∧ Below w.heap.size w w' := by
  refine begin_ (vs := [.agg #[.int .u32 a, .int .i64 n], .int .u32 x]) Try.func45 rfl rfl rfl ?_ (Pm.start w)
  refine TC.seq_ ?_
  refine TC.region ?_
  refine TL.pnew rfl rfl rfl (exec_box (cs := [.int .u32 a, .int .i64 n]) rfl rfl rfl) (fun g2 => ?_)
  refine TL.val rfl rfl rfl (gives_assign rfl rfl) ?_
  refine TL.end_ ?_
  refine TX.then_ ?_
  refine TC.seq_ ?_
  refine TC.quietQ (by kernel_rfl) (by kernel_rfl) (fun w hw => hw.drawn _) ?_
  refine TQ.val rfl rfl rfl (pm_loadV (k := 0) (i := 0) (n := 2) (v := .agg #[.int .u32 a, .int .i64 n]) rfl rfl badag43 badsz43 rfl (by show 2 ≤ 2; decide) rfl) ?_
  refine TQ.callsplit rfl rfl rfl rfl rfl Try.func58 badnm58 badbd58 (fun w1 hw => vldP_any a n w1) (fun h6 => ?_) (fun h6 => ?_)
  · have hn0 := vldP_le h6
    refine TQ.val rfl rfl rfl (gives_move rfl rfl) ?_
    refine TQ.on rfl rfl rfl ?_
    refine TQ.val rfl rfl rfl (gives_move rfl rfl) ?_
    refine TQ.on rfl rfl rfl ?_
    refine TQ.val rfl rfl rfl (gives_field (v := .pointer (some ⟨g2, 1, none⟩)) rfl rfl (fun w => badfld43_1 _ _ w)) ?_
    refine TQ.on rfl rfl rfl ?_
    refine TQ.val rfl rfl rfl (pm_load (k := 0) (i := 1) rfl rfl badag3 rfl rfl) ?_
    refine TQ.on rfl rfl rfl ?_
    refine TQ.call (v := .int .u32 (maskF n)) rfl rfl rfl rfl rfl Try.func62 badnm62 badbd62 (fun w1 hw => (still_bel (mask_any n (by omega) (by omega) w1)).mono fun en w2 ⟨h1, h2⟩ => ⟨h1, hw.below h2⟩) ?_
    refine TQ.on rfl rfl rfl ?_
    refine TQ.val rfl rfl rfl (gives_bin rfl rfl rfl (fun w => bin_bits (by simp) w)) ?_
    refine TQ.on rfl rfl rfl ?_
    refine TQ.val rfl rfl rfl (gives_field (v := .pointer (some ⟨g2, 0, none⟩)) rfl rfl (fun w => badfld43_0 _ _ w)) ?_
    refine TQ.on rfl rfl rfl ?_
    refine TQ.val rfl rfl rfl (pm_load (k := 0) (i := 0) rfl rfl badag29 rfl rfl) ?_
    refine TQ.on rfl rfl rfl ?_
    refine TQ.vsplit rfl rfl rfl (gives_bin rfl rfl rfl (fun w => bin_eql w)) (fun h15 => ?_) (fun h15 => ?_)
    · have q15 := of_decide_eq_true h15
      refine TQ.val rfl rfl rfl (gives_pick rfl rfl rfl) ?_
      refine TQ.val rfl rfl rfl (gives_assign rfl rfl) ?_
      refine TQ.fin ?_
      refine TX.then_ ?_
      refine TC.ret_ ?_
      have hE : (hasP a n x) = true := (by simp [hasP, h6, q15]; try omega)
      exact ret_tmp Try.results45 rfl (fun w1 hw => ⟨by rw [hE], hw.bel⟩)
    · have q15 := of_decide_eq_false h15
      refine TQ.val rfl rfl rfl (gives_pick rfl rfl rfl) ?_
      refine TQ.val rfl rfl rfl (gives_assign rfl rfl) ?_
      refine TQ.fin ?_
      refine TX.then_ ?_
      refine TC.ret_ ?_
      have hE : (hasP a n x) = false := (by simp [hasP, h6, q15]; try omega)
      exact ret_tmp Try.results45 rfl (fun w1 hw => ⟨by rw [hE], hw.bel⟩)
  · refine TQ.val rfl rfl rfl (gives_move rfl rfl) ?_
    refine TQ.off rfl rfl rfl rfl rfl rfl ?_
    refine TQ.off rfl rfl rfl rfl rfl rfl ?_
    refine TQ.off rfl rfl rfl rfl rfl rfl ?_
    refine TQ.off rfl rfl rfl rfl rfl rfl ?_
    refine TQ.off rfl rfl rfl rfl rfl rfl ?_
    refine TQ.off rfl rfl rfl rfl rfl rfl ?_
    refine TQ.off rfl rfl rfl rfl rfl rfl ?_
    refine TQ.off rfl rfl rfl rfl rfl rfl ?_
    refine TQ.val rfl rfl rfl (gives_pick rfl rfl rfl) ?_
    refine TQ.val rfl rfl rfl (gives_assign rfl rfl) ?_
    refine TQ.fin ?_
    refine TX.then_ ?_
    refine TC.ret_ ?_
    have hE : (hasP a n x) = false := (by simp [hasP, h6]; try omega)
    exact ret_tmp Try.results45 rfl (fun w1 hw => ⟨by rw [hE], hw.bel⟩)
end Go.Proofs.Ytmbcclgnjobikaa
