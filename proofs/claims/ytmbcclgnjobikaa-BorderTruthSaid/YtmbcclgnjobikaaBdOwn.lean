/-
  Borders (chapter 33): owners, windows, counts.
-/
import Derived.Test.YtmbcclgnjobikaaBdReg
namespace Go.Proofs.Ytmbcclgnjobikaa
open Go.RowKit
set_option linter.unusedVariables false
set_option linter.unusedSimpArgs false
set_option maxRecDepth 20000
structure Bd where
  near : Int
  far : Int
  frm : Int
  to_ : Int
deriving DecidableEq
def Bd.cells (r : Bd) : List Value := [.int .u32 r.near, .int .u32 r.far, .int .i64 r.frm, .int .i64 r.to_]
theorem bd_cel : Cel Bd.cells 4 := ⟨fun _ => rfl, fun r u hu => by
  simp only [Bd.cells, List.mem_cons, List.not_mem_nil, or_false] at hu
  rcases hu with rfl | rfl | rfl | rfl <;> rfl⟩

def ownE (es : List En) (t a : Int) : Int := if a = 0 then 0 else provR es a t
def ownF (es : List En) (t : Int) (ps : List Int) : List Int := ps.map (ownE es t)
theorem ownF_len (es : List En) (t : Int) (ps : List Int) : (ownF es t ps).length = ps.length := List.length_map ..
theorem ownF_snoc {es : List En} {t : Int} {ps out : List Int} {i : Nat} {x v : Int} (hx : ps[i]? = some x) (h : ownF es t (ps.take i) = out) (hv : ownE es t x = v) : ownF es t (ps.take (i + 1)) = out ++ [v] := by
  unfold ownF at h ⊢
  rw [List.take_add_one, hx, List.map_append, h]
  show out ++ [ownE es t x] = _
  rw [hv]
/-- the windows, so far: the last place that is known, and the windows -/
def stepW (ps own : List Int) (p : Int × List Bd) (j : Nat) : Int × List Bd :=
  if own.getD j 0 = 0 then p else ((j : Int), if p.1 ≥ 0 ∧ own.getD p.1.toNat 0 ≠ own.getD j 0 then p.2 ++ [⟨if p.1 > 0 then ps.getD (p.1.toNat - 1) 0 else 0, ps.getD j 0, own.getD p.1.toNat 0, own.getD j 0⟩] else p.2)
def winS (ps own : List Int) : Nat → Int × List Bd
  | 0 => (-1, [])
  | j + 1 => stepW ps own (winS ps own j) j
def winV (es : List En) (t : Int) (ps : List Int) : List Bd := (winS ps (ownF es t ps) ps.length).2
def cntI (xs : List Int) (v : Int) : Nat := xs.countP fun x => decide (x = v)
theorem cntI_snoc {xs : List Int} {i : Nat} {x v : Int} (hx : xs[i]? = some x) : cntI (xs.take (i + 1)) v = cntI (xs.take i) v + if x = v then 1 else 0 := by
  unfold cntI
  rw [List.take_add_one, hx, List.countP_append]
  show _ + List.countP _ [x] = _
  by_cases h : x = v <;> simp [h]
theorem cntI_le (xs : List Int) (v : Int) : cntI xs v ≤ xs.length := List.countP_le_length
/-- the registry of the examples -/
def ownL : List En := [⟨1, 32, 5, 0, 9⟩, ⟨2, 32, 5, 0, 9⟩, ⟨3, 32, 7, 0, 9⟩, ⟨4, 32, 7, 0, 9⟩]
theorem bowsz29 (w : World) : (sizeOf 29).run Try.prog w = .ok 1 w := rfl
theorem bowag29 (w : World) : (isAgg 29).run Try.prog w = .ok false w := rfl
theorem bowag34 (w : World) : (isAgg 34).run Try.prog w = .ok true w := rfl
theorem bowsz34 (w : World) : (sizeOf 34).run Try.prog w = .ok 1 w := rfl
theorem bownm20 : (Try.f20.name == "runtime.NumGoroutine") = false := by decide
theorem bowbd20 : Try.f20.body.isNone = false := rfl
theorem bowbs30_1_5377 (a0_0 : Int) (w : World) : (Instr.buildSlice 30 1 #[(0, .int .i64 a0_0)]).run Try.prog w = .ok (.slice (some ⟨w.heap.size, 0, none⟩) 1 1) (w.alloc (.cells [.int .i64 a0_0].toArray 3)) := by kernel_rfl
theorem bowel30 : Elem Try.prog 30 3 1 8 := Elem.mk' Try.underlying30 (z := .int .i64 0) (by kernel_rfl) rfl (by omega) (by omega)
theorem bownm9 : (Try.f9.name == "runtime.NumGoroutine") = false := by decide
theorem bowbd9 : Try.f9.body.isNone = false := rfl
theorem bowsz3 (w : World) : (sizeOf 3).run Try.prog w = .ok 1 w := rfl
theorem bowag3 (w : World) : (isAgg 3).run Try.prog w = .ok false w := rfl
theorem bowbld39_57383 (a1_0 : Int) (a2_0 : Int) (a3_0 : Int) (w : World) : (Instr.build 39 #[(1, .int .u32 a1_0), (2, .int .i64 a2_0), (3, .int .i64 a3_0)]).run Try.prog w = .ok (.agg #[.int .u32 0, .int .u32 a1_0, .int .i64 a2_0, .int .i64 a3_0]) w := by kernel_rfl
theorem bowzv39 (w : World) : (zeroValue 39).run Try.prog w = .ok (.agg #[.int .u32 0, .int .u32 0, .int .i64 0, .int .i64 0]) w := rfl
theorem bowsz39 (w : World) : (sizeOf 39).run Try.prog w = .ok 4 w := rfl
theorem bowone_u32u32i64i64 {a0 : Int} {a1 : Int} {a2 : Int} {a3 : Int} : ∀ u ∈ [(.int .u32 a0 : Value), .int .u32 a1, .int .i64 a2, .int .i64 a3], u.oneCell' = true := by
  intro u hu
  simp only [List.mem_cons, List.not_mem_nil, or_false] at hu
  rcases hu with rfl | rfl | rfl | rfl <;> rfl
theorem bowfld39_0 (g o : Nat) (w : World) : (Instr.fieldAt 39 (.pointer (some ⟨g, o, none⟩)) 0).run Try.prog w = .ok (.pointer (some ⟨g, o + 0, none⟩)) w := by kernel_rfl
theorem bowone_u32 {a0 : Int} : ∀ u ∈ [(.int .u32 a0 : Value)], u.oneCell' = true := by
  intro u hu
  rw [List.mem_singleton] at hu
  subst hu; rfl
theorem bowag39 (w : World) : (isAgg 39).run Try.prog w = .ok true w := rfl
theorem bowbs36_1_78586 (a0_0 : Int) (a0_1 : Int) (a0_2 : Int) (a0_3 : Int) (w : World) : (Instr.buildSlice 36 1 #[(0, .agg #[.int .u32 a0_0, .int .u32 a0_1, .int .i64 a0_2, .int .i64 a0_3])]).run Try.prog w = .ok (.slice (some ⟨w.heap.size, 0, none⟩) 1 1) (w.alloc (.cells [.int .u32 a0_0, .int .u32 a0_1, .int .i64 a0_2, .int .i64 a0_3].toArray 39)) := by kernel_rfl
theorem bowel36 : Elem Try.prog 36 39 4 24 := Elem.mk' Try.underlying36 (z := .agg #[.int .u32 0, .int .u32 0, .int .i64 0, .int .i64 0]) (by kernel_rfl) rfl (by omega) (by omega)
theorem bowzv34 (w : World) : (zeroValue 34).run Try.prog w = .ok (.agg #[.slice none 0 0]) w := rfl
theorem bowbld43_27253 (a0_0 : Int) (a1_0 : Int) (w : World) : (Instr.build 43 #[(0, .int .u32 a0_0), (1, .int .i64 a1_0)]).run Try.prog w = .ok (.agg #[.int .u32 a0_0, .int .i64 a1_0]) w := by kernel_rfl
theorem bowbld45_98459 (a0_0 : Int) (a0_1 : Int) (a1_0 : Int) (a3_0 : Int) (w : World) : (Instr.build 45 #[(0, .agg #[.int .u32 a0_0, .int .i64 a0_1]), (1, .int .i64 a1_0), (3, .int .i64 a3_0)]).run Try.prog w = .ok (.agg #[.int .u32 a0_0, .int .i64 a0_1, .int .i64 a1_0, .int .i64 0, .int .i64 a3_0]) w := by kernel_rfl
theorem bowbs32_4_18990 (a0_0 : Int) (a0_1 : Int) (a0_2 : Int) (a0_3 : Int) (a0_4 : Int) (a1_0 : Int) (a1_1 : Int) (a1_2 : Int) (a1_3 : Int) (a1_4 : Int) (a2_0 : Int) (a2_1 : Int) (a2_2 : Int) (a2_3 : Int) (a2_4 : Int) (a3_0 : Int) (a3_1 : Int) (a3_2 : Int) (a3_3 : Int) (a3_4 : Int) (w : World) : (Instr.buildSlice 32 4 #[(0, .agg #[.int .u32 a0_0, .int .i64 a0_1, .int .i64 a0_2, .int .i64 a0_3, .int .i64 a0_4]), (1, .agg #[.int .u32 a1_0, .int .i64 a1_1, .int .i64 a1_2, .int .i64 a1_3, .int .i64 a1_4]), (2, .agg #[.int .u32 a2_0, .int .i64 a2_1, .int .i64 a2_2, .int .i64 a2_3, .int .i64 a2_4]), (3, .agg #[.int .u32 a3_0, .int .i64 a3_1, .int .i64 a3_2, .int .i64 a3_3, .int .i64 a3_4])]).run Try.prog w = .ok (.slice (some ⟨w.heap.size, 0, none⟩) 4 4) (w.alloc (.cells [.int .u32 a0_0, .int .i64 a0_1, .int .i64 a0_2, .int .i64 a0_3, .int .i64 a0_4, .int .u32 a1_0, .int .i64 a1_1, .int .i64 a1_2, .int .i64 a1_3, .int .i64 a1_4, .int .u32 a2_0, .int .i64 a2_1, .int .i64 a2_2, .int .i64 a2_3, .int .i64 a2_4, .int .u32 a3_0, .int .i64 a3_1, .int .i64 a3_2, .int .i64 a3_3, .int .i64 a3_4].toArray 45)) := by kernel_rfl
theorem bowbld34_67800 (a0_0 : Option Addr) (a0_0n a0_0c : Nat) (w : World) : (Instr.build 34 #[(0, .slice a0_0 a0_0n a0_0c)]).run Try.prog w = .ok (.agg #[.slice a0_0 a0_0n a0_0c]) w := by kernel_rfl
theorem bowone_s {a0 : Option Addr} {n0 c0 : Nat} : ∀ u ∈ [(.slice a0 n0 c0 : Value)], u.oneCell' = true := by
  intro u hu
  rw [List.mem_singleton] at hu
  subst hu; rfl
theorem bownm16 : (Try.f16.name == "runtime.NumGoroutine") = false := by decide
theorem bowbd16 : Try.f16.body.isNone = false := rfl
set_option maxHeartbeats 1000000 in
theorem owners_any (A1 : Option Addr) (c1 : Nat) (ps : List Int) (A0 : Option Addr) (c0 : Nat) (es : List En) (t : Int) (w : World) (hr1 : Reads w w.heap.size 1 A1 ps.length (flat (ic .u32) ps)) (hl1 : ps.length ≤ 100000) (hr : Reads w w.heap.size 5 A0 es.length (flat En.cells es)) :
    Calls Try.prog 9 #[.slice A1 ps.length c1, .agg #[.slice A0 es.length c0], .int .i64 t] w fun e w' => ∃ x : {p : Option Addr × Nat // (ownF es t ps).length ≤ p.2 ∧ p.2 ≤ maxLen}, e = .returned (.slice x.1.1 (ownF es t ps).length x.1.2) ∧ Pm w [.row (.slice x.1.1 (ownF es t ps).length x.1.2) 3 1 (ownF es t ps).length (flat (ic .i64) (ownF es t ps))] w' := by
  refine begin_ (vs := [.slice A1 ps.length c1, .agg #[.slice A0 es.length c0], .int .i64 t]) Try.func9 rfl rfl rfl ?_ (Pm.start w)
  refine TC.seq_ ?_
  refine TC.region ?_
  refine TL.pnew rfl rfl rfl (exec_box (cs := [.slice A0 es.length c0]) rfl rfl rfl) (fun g4 => ?_)
  refine TL.val rfl rfl rfl (gives_assign rfl rfl) ?_
  refine TL.end_ ?_
  refine TX.then_ ?_
  refine TC.seq_ ?_
  refine TC.region ?_
  refine TL.val rfl rfl rfl (gives_assign rfl rfl) ?_
  refine TL.end_ ?_
  refine TX.then_ ?_
  refine TC.seq_ ?_
  refine TC.seq_ ?_
  refine TC.region ?_
  refine TL.val rfl rfl rfl (gives_move rfl rfl) ?_
  refine TL.val rfl rfl rfl (gives_len rfl Try.underlying26 rfl) ?_
  refine TL.val rfl rfl rfl (gives_move rfl rfl) ?_
  refine TL.end_ ?_
  refine TX.then_ ?_
  refine TC.block ?_
  refine TC.nilrow 3 1 ?_
  refine TC.loop_ (α := {y : Nat × (Option Addr × Nat) × List Int // y.1 ≤ ps.length ∧ ownF es t (ps.take y.1) = y.2.2 ∧ y.2.2.length = y.1 ∧ y.2.2.length ≤ y.2.1.2 ∧ y.2.1.2 ≤ maxLen}) (fun y => [(2, .int .i64 t), (4, .pointer (some ⟨g4, 0, none⟩)), (11, .slice A1 ps.length c1), (12, .int .i64 (ps.length : Nat)), (13, .int .i64 ((y.1.1 : Nat) : Int)), (7, .slice y.1.2.1.1 y.1.2.2.length y.1.2.1.2)]) (fun y => Pm w [.row (.slice y.1.2.1.1 y.1.2.2.length y.1.2.1.2) 3 1 y.1.2.2.length (flat (ic .i64) y.1.2.2), .blk g4 34 [.slice A0 es.length c0]]) (fun y => ps.length - y.1.1) (⟨(0, (none, 0), []), Nat.zero_le _, rfl, rfl, Nat.le_refl _, Nat.zero_le _⟩) ⟨rfl, rfl, rfl, rfl, rfl, rfl, trivial⟩ (fun w1 hw => hw) ?_
  rintro ⟨⟨i, ⟨Ao, co⟩, out⟩, hi, hown, hol, hoc, hom⟩
  dsimp only at hi hown hol hoc hom ⊢
  refine TC.seq_ ?_
  refine TC.region ?_
  refine TL.vsplit rfl rfl rfl (gives_bin rfl rfl rfl (fun w => bin_lss w)) (fun h14 => ?_) (fun h14 => ?_)
  · have q14 := of_decide_eq_true h14
    refine TL.end_ ?_
    refine TX.then_ ?_
    refine TC.seq_ ?_
    refine TC.condT rfl ?_
    refine TC.skip_ ?_
    refine TX.then_ ?_
    refine TC.seq_ ?_
    refine TC.block ?_
    refine TC.seq_ ?_
    refine TC.region ?_
    have hi15 : i < ps.length := by omega
    obtain ⟨x15, hx15⟩ : ∃ x15, ps[i]? = some x15 := ⟨_, List.getElem?_eq_getElem hi15⟩
    obtain ⟨b15, o15, hA15, hbb15, hc15⟩ := hr1.ad (by omega) (by decide)
    refine TL.val rfl rfl rfl (gives_at (v := .pointer (some ⟨b15, o15 + i * 1, none⟩)) rfl rfl rfl (fun w => at_el Try.underlying26 bowsz29 hA15 _ _ i (by omega) rfl w)) ?_
    refine TL.val rfl rfl rfl (gives_load (v := .int .u32 x15) rfl rfl bowag29 (fun w1 hw => (hw.bel.cell hbb15).trans <| flat_cell (ic_cel .u32) hx15 hc15 0 _ rfl)) ?_
    refine TL.val rfl rfl rfl (gives_assign rfl rfl) ?_
    refine TL.end_ ?_
    refine TX.then_ ?_
    refine TC.seq_ ?_
    refine TC.region ?_
    refine TL.val rfl rfl rfl (gives_assign rfl rfl) ?_
    refine TL.end_ ?_
    refine TX.then_ ?_
    refine TC.seq_ ?_
    refine TC.seq_ ?_
    refine TC.region ?_
    refine TL.val rfl rfl rfl (gives_move rfl rfl) ?_
    refine TL.vsplit rfl rfl rfl (gives_bin rfl rfl rfl (fun w => bin_neq w)) (fun h18 => ?_) (fun h18 => ?_)
    · have q18 := of_decide_eq_true h18
      refine TL.end_ ?_
      refine TX.then_ ?_
      refine TC.condT rfl ?_
      refine TC.region ?_
      refine TL.val rfl rfl rfl (pm_loadV (k := 1) (i := 0) (n := 1) (v := .agg #[.slice A0 es.length c0]) rfl rfl bowag34 bowsz34 rfl (by show 1 ≤ 1; decide) rfl) ?_
      refine TL.val rfl rfl rfl (gives_move rfl rfl) ?_
      refine TL.val rfl rfl rfl (gives_move rfl rfl) ?_
      refine TL.pcall1 (r := .int .i64 (provR es x15 t)) rfl rfl rfl rfl rfl Try.func20 bownm20 bowbd20 (fun w1 hw => prov_any A0 c0 es x15 t w1 (hr.up hw.bel)) ?_
      refine TL.val rfl rfl rfl (gives_assign rfl rfl) ?_
      refine TL.end_ ?_
      refine TX.then_ ?_
      refine TC.region ?_
      refine TL.val rfl rfl rfl (gives_move rfl rfl) ?_
      refine TL.val rfl rfl rfl (gives_move rfl rfl) ?_
      refine TL.prowS (e := 3) (size := 1) (cs := flat (ic .i64) [provR es x15 t]) rfl rfl rfl rfl rfl (fun w => bowbs30_1_5377 _ w) (by decide) rfl (fun g25 => ?_)
      refine TL.appendT (k := 1) rfl rfl rfl rfl Try.underlying30 bowel30 rfl rfl rfl (fun w1 hw => pm_reads hw (k := 0) rfl) (flat_one (ic_cel .i64) _) (by show _ * 8 ≤ _; omega) ((out ++ ([provR es x15 t])).length) (by rw [List.length_append]; rfl) (flat (ic .i64) (out ++ ([provR es x15 t]))) ((flat_app _ _).symm) (fun A26 c26 hA261 hA262 => ?_)
      refine TL.val rfl rfl rfl (gives_assign rfl rfl) ?_
      refine TL.end_ ?_
      refine TX.in_normal ?_
      refine TX.then_ ?_
      refine TC.region ?_
      refine TL.val rfl rfl rfl (gives_bin rfl rfl rfl (fun w => bin_add_ (r := ((i + 1 : Nat) : Int)) (by simp only [IntKind.wrap_i64]; omega) w)) ?_
      refine TL.val rfl rfl rfl (gives_move rfl rfl) ?_
      refine TL.end_ ?_
      exact TX.round (⟨(i + 1, (A26, c26), out ++ [provR es x15 t]), by dsimp only; omega, ownF_snoc hx15 hown (if_neg q18), by dsimp only; rw [List.length_append]; show out.length + 1 = _; omega, hA261, hA262⟩) (by show ps.length - (i + 1) < ps.length - i; omega) ⟨rfl, rfl, rfl, rfl, rfl, rfl, trivial⟩ (fun w1 hw => hw.pick [1, 2] (by decide) rfl)
    · have q18 := of_decide_eq_false h18
      refine TL.end_ ?_
      refine TX.then_ ?_
      refine TC.condF rfl ?_
      refine TC.skip_ ?_
      refine TX.then_ ?_
      refine TC.region ?_
      refine TL.val rfl rfl rfl (gives_move rfl rfl) ?_
      refine TL.val rfl rfl rfl (gives_move rfl rfl) ?_
      refine TL.prowS (e := 3) (size := 1) (cs := flat (ic .i64) [0]) rfl rfl rfl rfl rfl (fun w => bowbs30_1_5377 _ w) (by decide) rfl (fun g25 => ?_)
      refine TL.appendT (k := 1) rfl rfl rfl rfl Try.underlying30 bowel30 rfl rfl rfl (fun w1 hw => pm_reads hw (k := 0) rfl) (flat_one (ic_cel .i64) _) (by show _ * 8 ≤ _; omega) ((out ++ ([0])).length) (by rw [List.length_append]; rfl) (flat (ic .i64) (out ++ ([0]))) ((flat_app _ _).symm) (fun A26 c26 hA261 hA262 => ?_)
      refine TL.val rfl rfl rfl (gives_assign rfl rfl) ?_
      refine TL.end_ ?_
      refine TX.in_normal ?_
      refine TX.then_ ?_
      refine TC.region ?_
      refine TL.val rfl rfl rfl (gives_bin rfl rfl rfl (fun w => bin_add_ (r := ((i + 1 : Nat) : Int)) (by simp only [IntKind.wrap_i64]; omega) w)) ?_
      refine TL.val rfl rfl rfl (gives_move rfl rfl) ?_
      refine TL.end_ ?_
      exact TX.round (⟨(i + 1, (A26, c26), out ++ [0]), by dsimp only; omega, ownF_snoc hx15 hown (if_pos (Decidable.not_not.1 q18)), by dsimp only; rw [List.length_append]; show out.length + 1 = _; omega, hA261, hA262⟩) (by show ps.length - (i + 1) < ps.length - i; omega) ⟨rfl, rfl, rfl, rfl, rfl, rfl, trivial⟩ (fun w1 hw => hw.pick [1, 2] (by decide) rfl)
  · have q14 := of_decide_eq_false h14
    refine TL.end_ ?_
    refine TX.then_ ?_
    refine TC.seq_ ?_
    refine TC.condF rfl ?_
    refine TC.exit_ ?_
    refine TX.then_exit ?_
    refine TX.then_exit ?_
    refine TX.in_same ?_
    refine TX.then_ ?_
    refine TC.seq_ ?_
    refine TC.region ?_
    refine TL.val rfl rfl rfl (gives_move rfl rfl) ?_
    refine TL.val rfl rfl rfl (gives_assign rfl rfl) ?_
    refine TL.end_ ?_
    refine TX.then_ ?_
    refine TC.ret_ ?_
    have hE : out = ownF es t ps := by rw [List.take_of_length_le (by omega)] at hown; exact hown.symm
    subst hE
    exact ret_tmp Try.results9 rfl (fun w1 hw => ⟨⟨(Ao, co), hoc, hom⟩, rfl, hw.pick [0] (by decide) rfl⟩)
set_option maxHeartbeats 1000000 in
theorem windows_any (A1 : Option Addr) (c1 : Nat) (ps : List Int) (A0 : Option Addr) (c0 : Nat) (es : List En) (t : Int) (w : World) (hr1 : Reads w w.heap.size 1 A1 ps.length (flat (ic .u32) ps)) (hl1 : ps.length ≤ 100000) (hr : Reads w w.heap.size 5 A0 es.length (flat En.cells es)) :
    Calls Try.prog 11 #[.slice A1 ps.length c1, .agg #[.slice A0 es.length c0], .int .i64 t] w fun e w' => ∃ x : {p : Option Addr × Nat // (winV es t ps).length ≤ p.2 ∧ p.2 ≤ maxLen}, e = .returned (.slice x.1.1 (winV es t ps).length x.1.2) ∧ Pm w [.row (.slice x.1.1 (winV es t ps).length x.1.2) 39 4 (winV es t ps).length (flat Bd.cells (winV es t ps))] w' := by
  refine begin_ (vs := [.slice A1 ps.length c1, .agg #[.slice A0 es.length c0], .int .i64 t]) Try.func11 rfl rfl rfl ?_ (Pm.start w)
  refine TC.seq_ ?_
  refine TC.region ?_
  refine TL.pnew rfl rfl rfl (exec_box (cs := [.slice A0 es.length c0]) rfl rfl rfl) (fun g4 => ?_)
  refine TL.val rfl rfl rfl (gives_assign rfl rfl) ?_
  refine TL.end_ ?_
  refine TX.then_ ?_
  refine TC.seq_ ?_
  refine TC.region ?_
  refine TL.val rfl rfl rfl (gives_assign rfl rfl) ?_
  refine TL.end_ ?_
  refine TX.then_ ?_
  refine TC.seq_ ?_
  refine TC.region ?_
  refine TL.val rfl rfl rfl (gives_assign rfl rfl) ?_
  refine TL.end_ ?_
  refine TX.then_ ?_
  refine TC.seq_ ?_
  refine TC.region ?_
  refine TL.val rfl rfl rfl (gives_move rfl rfl) ?_
  refine TL.val rfl rfl rfl (pm_loadV (k := 0) (i := 0) (n := 1) (v := .agg #[.slice A0 es.length c0]) rfl rfl bowag34 bowsz34 rfl (by show 1 ≤ 1; decide) rfl) ?_
  refine TL.val rfl rfl rfl (gives_move rfl rfl) ?_
  refine TL.pcallPm (α := {p : Option Addr × Nat // (ownF es t ps).length ≤ p.2 ∧ p.2 ≤ maxLen}) (fun x => .slice x.1.1 ((ownF es t ps).length) x.1.2) (fun x => [.row (.slice x.1.1 ((ownF es t ps).length) x.1.2) 3 1 ((ownF es t ps).length) (flat (ic .i64) (ownF es t ps))]) rfl rfl rfl rfl rfl Try.func9 bownm9 bowbd9 (fun w1 hw => owners_any A1 c1 ps A0 c0 es t w1 (hr1.up hw.bel) hl1 (hr.up hw.bel)) ?_
  rintro ⟨⟨R16, rc16⟩, hR161, hR162⟩
  dsimp only [List.cons_append, List.nil_append]
  refine TL.val rfl rfl rfl (gives_assign rfl rfl) ?_
  refine TL.end_ ?_
  refine TX.then_ ?_
  refine TC.seq_ ?_
  refine TC.seq_ ?_
  refine TC.region ?_
  refine TL.val rfl rfl rfl (gives_move rfl rfl) ?_
  refine TL.val rfl rfl rfl (gives_len rfl Try.underlying30 rfl) ?_
  refine TL.val rfl rfl rfl (gives_move rfl rfl) ?_
  refine TL.end_ ?_
  refine TX.then_ ?_
  refine TC.block ?_
  have hof := ownF_len es t ps
  refine TC.nilrow 39 4 ?_
  refine TC.loop_ (α := {y : Nat × Int × (Option Addr × Nat) × List Bd // y.1 ≤ ps.length ∧ (-1 ≤ y.2.1 ∧ y.2.1 < y.1) ∧ winS ps (ownF es t ps) y.1 = (y.2.1, y.2.2.2) ∧ y.2.2.2.length ≤ y.1 ∧ y.2.2.2.length ≤ y.2.2.1.2 ∧ y.2.2.1.2 ≤ maxLen}) (fun y => [(0, .slice A1 ps.length c1), (9, .slice R16 ((ownF es t ps).length) rc16), (17, .slice R16 ((ownF es t ps).length) rc16), (18, .int .i64 ((ownF es t ps).length : Nat)), (19, .int .i64 ((y.1.1 : Nat) : Int)), (8, .int .i64 y.1.2.1), (7, .slice y.1.2.2.1.1 y.1.2.2.2.length y.1.2.2.1.2)]) (fun y => Pm w [.row (.slice y.1.2.2.1.1 y.1.2.2.2.length y.1.2.2.1.2) 39 4 y.1.2.2.2.length (flat Bd.cells y.1.2.2.2), .row (.slice R16 ((ownF es t ps).length) rc16) 3 1 ((ownF es t ps).length) (flat (ic .i64) (ownF es t ps)), .blk g4 34 [.slice A0 es.length c0]]) (fun y => ps.length - y.1.1) (⟨(0, -1, (none, 0), []), Nat.zero_le _, by decide, rfl, Nat.le_refl _, Nat.le_refl _, Nat.zero_le _⟩) ⟨rfl, rfl, rfl, rfl, rfl, rfl, rfl, trivial⟩ (fun w1 hw => hw) ?_
  rintro ⟨⟨i, z, ⟨Ao, co⟩, out⟩, hi, hz, hst, hol, hoc, hom⟩
  dsimp only at hi hz hst hol hoc hom ⊢
  refine TC.seq_ ?_
  refine TC.region ?_
  refine TL.vsplit rfl rfl rfl (gives_bin rfl rfl rfl (fun w => bin_lss w)) (fun h20 => ?_) (fun h20 => ?_)
  · have q20 := of_decide_eq_true h20
    refine TL.end_ ?_
    refine TX.then_ ?_
    refine TC.seq_ ?_
    refine TC.condT rfl ?_
    refine TC.skip_ ?_
    refine TX.then_ ?_
    refine TC.seq_ ?_
    refine TC.block ?_
    refine TC.seq_ ?_
    refine TC.region ?_
    refine TL.val rfl rfl rfl (gives_move rfl rfl) ?_
    refine TL.fact (p := ∃ g, R16 = some ⟨g, 0, none⟩) (fun w1 hw => rowA hw (k := 1) rfl (by omega)) ?_
    rintro ⟨g_R16, rfl⟩
    have hi22 : i < (ownF es t ps).length := by omega
    obtain ⟨x22, hx22⟩ : ∃ x22, (ownF es t ps)[i]? = some x22 := ⟨_, List.getElem?_eq_getElem hi22⟩
    refine TL.val rfl rfl rfl (gives_at (v := .pointer (some ⟨g_R16, 0 + i * 1, none⟩)) rfl rfl rfl (fun w => at_el Try.underlying30 bowsz3 rfl _ _ i (by omega) rfl w)) ?_
    refine TL.val rfl rfl rfl (gives_load (v := .int .i64 x22) rfl rfl bowag3 (fun w1 hw => flat_row (ic_cel .i64) hw (q := 1) rfl hx22 0 _ rfl)) ?_
    refine TL.val rfl rfl rfl (gives_assign rfl rfl) ?_
    refine TL.val rfl rfl rfl (gives_assign rfl rfl) ?_
    refine TL.end_ ?_
    refine TX.then_ ?_
    refine TC.seq_ ?_
    refine TC.seq_ ?_
    refine TC.region ?_
    refine TL.val rfl rfl rfl (gives_move rfl rfl) ?_
    refine TL.vsplit rfl rfl rfl (gives_bin rfl rfl rfl (fun w => bin_eql w)) (fun h25 => ?_) (fun h25 => ?_)
    · have q25 := of_decide_eq_true h25
      refine TL.end_ ?_
      refine TX.then_ ?_
      refine TC.condT rfl ?_
      refine TC.exit_ ?_
      refine TX.then_exit ?_
      refine TX.in_same ?_
      refine TX.then_ ?_
      refine TC.region ?_
      refine TL.val rfl rfl rfl (gives_bin rfl rfl rfl (fun w => bin_add_ (r := ((i + 1 : Nat) : Int)) (by simp only [IntKind.wrap_i64]; omega) w)) ?_
      refine TL.val rfl rfl rfl (gives_move rfl rfl) ?_
      refine TL.end_ ?_
      exact TX.round (⟨(i + 1, z, (Ao, co), out), by dsimp only; omega, by dsimp only; omega, by show stepW _ _ (winS _ _ i) i = _; rw [hst]; simp [stepW, List.getD_eq_getElem?_getD, hx22, q20, q25], by dsimp only; omega, hoc, hom⟩) (by show ps.length - (i + 1) < ps.length - i; omega) ⟨rfl, rfl, rfl, rfl, rfl, rfl, rfl, trivial⟩ (fun w1 hw => hw)
    · have q25 := of_decide_eq_false h25
      refine TL.end_ ?_
      refine TX.then_ ?_
      refine TC.condF rfl ?_
      refine TC.skip_ ?_
      refine TX.then_ ?_
      refine TC.seq_ ?_
      refine TC.seq_ ?_
      refine TC.region ?_
      refine TL.val rfl rfl rfl (gives_move rfl rfl) ?_
      refine TL.vsplit rfl rfl rfl (gives_bin rfl rfl rfl (fun w => bin_geq w)) (fun h27 => ?_) (fun h27 => ?_)
      · have q27 := of_decide_eq_true h27
        obtain ⟨m, rfl⟩ := Int.eq_ofNat_of_zero_le q27
        refine TL.val rfl rfl rfl (gives_move rfl rfl) ?_
        refine TL.on rfl rfl rfl ?_
        refine TL.val rfl rfl rfl (gives_move rfl rfl) ?_
        refine TL.on rfl rfl rfl ?_
        refine TL.val rfl rfl rfl (gives_move rfl rfl) ?_
        refine TL.on rfl rfl rfl ?_
        have hi31 : m < (ownF es t ps).length := by omega
        obtain ⟨x31, hx31⟩ : ∃ x31, (ownF es t ps)[m]? = some x31 := ⟨_, List.getElem?_eq_getElem hi31⟩
        refine TL.val rfl rfl rfl (gives_at (v := .pointer (some ⟨g_R16, 0 + m * 1, none⟩)) rfl rfl rfl (fun w => at_el Try.underlying30 bowsz3 rfl _ _ m (by omega) rfl w)) ?_
        refine TL.on rfl rfl rfl ?_
        refine TL.val rfl rfl rfl (gives_load (v := .int .i64 x31) rfl rfl bowag3 (fun w1 hw => flat_row (ic_cel .i64) hw (q := 1) rfl hx31 0 _ rfl)) ?_
        refine TL.on rfl rfl rfl ?_
        refine TL.val rfl rfl rfl (gives_move rfl rfl) ?_
        refine TL.on rfl rfl rfl ?_
        refine TL.vsplit rfl rfl rfl (gives_bin rfl rfl rfl (fun w => bin_neq w)) (fun h34 => ?_) (fun h34 => ?_)
        · have q34 := of_decide_eq_true h34
          refine TL.val rfl rfl rfl (gives_pick rfl rfl rfl) ?_
          refine TL.end_ ?_
          refine TX.then_ ?_
          refine TC.condT rfl ?_
          refine TC.seq_ ?_
          refine TC.held (ls := #[false, false, false, false, false, false, false, false, false, false, false, false]) (Pm w [.row (.slice (some ⟨g_R16, 0, none⟩) ((ownF es t ps).length) rc16) 3 1 ((ownF es t ps).length) (flat (ic .i64) (ownF es t ps))]) (by kernel_rfl) rfl rfl (fun w hw => hw.drawn _) ?_
          refine TH.take (listed' := #[true, false, false, false, false, false, false, false, false, false, false, false]) 0 rfl (by kernel_rfl) (by kernel_rfl) (by kernel_rfl) rfl rfl rfl rfl (gives_move rfl rfl) (fun w1 hw => hw.pick [1] (by decide) rfl) ?_
          refine TH.take (listed' := #[true, true, false, false, false, false, false, false, false, false, false, false]) 1 rfl (by kernel_rfl) (by kernel_rfl) (by kernel_rfl) rfl rfl rfl rfl (gives_move rfl rfl) (fun w1 hw => hw.pick [1] (by decide) rfl) ?_
          have hi38 : i < ps.length := by omega
          obtain ⟨x38, hx38⟩ : ∃ x38, ps[i]? = some x38 := ⟨_, List.getElem?_eq_getElem hi38⟩
          obtain ⟨b38, o38, hA38, hbb38, hc38⟩ := hr1.ad (by omega) (by decide)
          refine TH.take (listed' := #[true, true, true, false, false, false, false, false, false, false, false, false]) 2 rfl (by kernel_rfl) (by kernel_rfl) (by kernel_rfl) rfl rfl rfl rfl (gives_at (v := .pointer (some ⟨b38, o38 + i * 1, none⟩)) rfl rfl rfl (fun w => at_el Try.underlying26 bowsz29 hA38 _ _ i (by omega) rfl w)) (fun w1 hw => hw.pick [1] (by decide) rfl) ?_
          refine TH.take (listed' := #[true, true, true, true, false, false, false, false, false, false, false, false]) 3 rfl (by kernel_rfl) (by kernel_rfl) (by kernel_rfl) rfl rfl rfl rfl (gives_load (v := .int .u32 x38) rfl rfl bowag29 (fun w1 hw => (hw.bel.cell hbb38).trans <| flat_cell (ic_cel .u32) hx38 hc38 0 _ rfl)) (fun w1 hw => hw.pick [1] (by decide) rfl) ?_
          refine TH.take (listed' := #[true, true, true, true, true, false, false, false, false, false, false, false]) 4 rfl (by kernel_rfl) (by kernel_rfl) (by kernel_rfl) rfl rfl rfl rfl (gives_move rfl rfl) (fun w1 hw => hw.pick [1] (by decide) rfl) ?_
          refine TH.take (listed' := #[true, true, true, true, true, true, false, false, false, false, false, false]) 5 rfl (by kernel_rfl) (by kernel_rfl) (by kernel_rfl) rfl rfl rfl rfl (gives_move rfl rfl) (fun w1 hw => hw.pick [1] (by decide) rfl) ?_
          refine TH.take (listed' := #[true, true, true, true, true, true, true, false, false, false, false, false]) 6 rfl (by kernel_rfl) (by kernel_rfl) (by kernel_rfl) rfl rfl rfl rfl (gives_at (v := .pointer (some ⟨g_R16, 0 + m * 1, none⟩)) rfl rfl rfl (fun w => at_el Try.underlying30 bowsz3 rfl _ _ m (by omega) rfl w)) (fun w1 hw => hw.pick [1] (by decide) rfl) ?_
          refine TH.take (listed' := #[true, true, true, true, true, true, true, true, false, false, false, false]) 7 rfl (by kernel_rfl) (by kernel_rfl) (by kernel_rfl) rfl rfl rfl rfl (gives_load (v := .int .i64 x31) rfl rfl bowag3 (fun w1 hw => flat_row (ic_cel .i64) hw (q := 0) rfl hx31 0 _ rfl)) (fun w1 hw => hw.pick [1] (by decide) rfl) ?_
          refine TH.take (listed' := #[true, true, true, true, true, true, true, true, true, false, false, false]) 8 rfl (by kernel_rfl) (by kernel_rfl) (by kernel_rfl) rfl rfl rfl rfl (gives_move rfl rfl) (fun w1 hw => hw.pick [1] (by decide) rfl) ?_
          refine TH.take (listed' := #[true, true, true, true, true, true, true, true, true, true, false, false]) 9 rfl (by kernel_rfl) (by kernel_rfl) (by kernel_rfl) rfl rfl rfl rfl (gives_build (v := .agg #[.int .u32 0, .int .u32 x38, .int .i64 x31, .int .i64 x22]) rfl rfl (fun w => bowbld39_57383 _ _ _ w)) (fun w1 hw => hw.pick [1] (by decide) rfl) ?_
          refine TH.only' (listed' := #[true, true, true, true, true, true, true, true, true, true, true, false]) 10 rfl (by kernel_rfl) rfl ?_
          refine TL.pnew rfl rfl rfl (exec_alloc (cs := [.int .u32 0, .int .u32 0, .int .i64 0, .int .i64 0]) rfl bowzv39 rfl) (fun g12 => ?_)
          refine TL.end_ ?_
          refine TX.held (fun w1 hw => hw.pick [2] (by decide) rfl) ?_
          refine TH.only' (listed' := #[true, true, true, true, true, true, true, true, true, true, true, true]) 11 rfl (by kernel_rfl) rfl ?_
          refine TL.pstore (k := 0) (vs := [.int .u32 0, .int .u32 x38, .int .i64 x31, .int .i64 x22]) rfl rfl rfl rfl rfl rfl rfl bowsz39 bowone_u32u32i64i64 (by show 4 ≤ 4; decide) (L' := [.blk g12 39 [.int .u32 0, .int .u32 x38, .int .i64 x31, .int .i64 x22], .row (.slice Ao out.length co) 39 4 out.length (flat Bd.cells out), .row (.slice (some ⟨g_R16, 0, none⟩) ((ownF es t ps).length) rc16) 3 1 ((ownF es t ps).length) (flat (ic .i64) (ownF es t ps)), .blk g4 34 [.slice A0 es.length c0]]) rfl ?_
          refine TL.end_ ?_
          refine TX.held (fun w1 hw => hw.pick [2] (by decide) rfl) ?_
          refine TH.done (by kernel_rfl) ?_
          refine TX.then_ ?_
          refine TC.seq_ ?_
          refine TC.seq_ ?_
          refine TC.region ?_
          refine TL.val rfl rfl rfl (gives_move rfl rfl) ?_
          refine TL.vsplit rfl rfl rfl (gives_bin rfl rfl rfl (fun w => bin_gtr w)) (fun h47 => ?_) (fun h47 => ?_)
          · have q47 := of_decide_eq_true h47
            have hm0 : ¬ m = 0 := by omega
            refine TL.end_ ?_
            refine TX.then_ ?_
            refine TC.condT rfl ?_
            refine TC.region ?_
            refine TL.val rfl rfl rfl (gives_move rfl rfl) ?_
            refine TL.val rfl rfl rfl (gives_move rfl rfl) ?_
            refine TL.val rfl rfl rfl (gives_bin rfl rfl rfl (fun w => bin_sub_ (r := ((m - 1 : Nat) : Int)) (by simp only [IntKind.wrap_i64]; omega) w)) ?_
            have hi51 : m - 1 < ps.length := by omega
            obtain ⟨x51, hx51⟩ : ∃ x51, ps[m - 1]? = some x51 := ⟨_, List.getElem?_eq_getElem hi51⟩
            obtain ⟨b51, o51, hA51, hbb51, hc51⟩ := hr1.ad (by omega) (by decide)
            refine TL.val rfl rfl rfl (gives_at (v := .pointer (some ⟨b51, o51 + (m - 1) * 1, none⟩)) rfl rfl rfl (fun w => at_el Try.underlying26 bowsz29 hA51 _ _ (m - 1) (by omega) rfl w)) ?_
            refine TL.val rfl rfl rfl (gives_load (v := .int .u32 x51) rfl rfl bowag29 (fun w1 hw => (hw.bel.cell hbb51).trans <| flat_cell (ic_cel .u32) hx51 hc51 0 _ rfl)) ?_
            refine TL.val rfl rfl rfl (gives_field (v := .pointer (some ⟨g12, 0, none⟩)) rfl rfl (fun w => bowfld39_0 _ _ w)) ?_
            refine TL.pstore (k := 0) (vs := [.int .u32 x51]) rfl rfl rfl rfl rfl rfl rfl bowsz29 bowone_u32 (by show 1 ≤ 4; decide) (L' := [.blk g12 39 [.int .u32 x51, .int .u32 x38, .int .i64 x31, .int .i64 x22], .row (.slice Ao out.length co) 39 4 out.length (flat Bd.cells out), .row (.slice (some ⟨g_R16, 0, none⟩) ((ownF es t ps).length) rc16) 3 1 ((ownF es t ps).length) (flat (ic .i64) (ownF es t ps)), .blk g4 34 [.slice A0 es.length c0]]) rfl ?_
            refine TL.end_ ?_
            refine TX.then_ ?_
            refine TC.region ?_
            refine TL.val rfl rfl rfl (gives_move rfl rfl) ?_
            refine TL.val rfl rfl rfl (pm_loadV (k := 0) (i := 0) (n := 4) (v := .agg #[.int .u32 x51, .int .u32 x38, .int .i64 x31, .int .i64 x22]) rfl rfl bowag39 bowsz39 rfl (by show 4 ≤ 4; decide) rfl) ?_
            refine TL.prowS (e := 39) (size := 4) (cs := flat Bd.cells [(⟨x51, x38, x31, x22⟩ : Bd)]) rfl rfl rfl rfl rfl (fun w => bowbs36_1_78586 _ _ _ _ w) (by decide) rfl (fun g56 => ?_)
            refine TL.appendT (k := 2) rfl rfl rfl rfl Try.underlying36 bowel36 rfl rfl rfl (fun w1 hw => pm_reads hw (k := 0) rfl) (flat_one bd_cel _) (by show _ * 24 ≤ _; omega) ((out ++ ([(⟨x51, x38, x31, x22⟩ : Bd)])).length) (by rw [List.length_append]; rfl) (flat Bd.cells (out ++ ([(⟨x51, x38, x31, x22⟩ : Bd)]))) ((flat_app _ _).symm) (fun A57 c57 hA571 hA572 => ?_)
            refine TL.val rfl rfl rfl (gives_assign rfl rfl) ?_
            refine TL.end_ ?_
            refine TX.then_ ?_
            refine TC.region ?_
            refine TL.val rfl rfl rfl (gives_move rfl rfl) ?_
            refine TL.val rfl rfl rfl (gives_assign rfl rfl) ?_
            refine TL.end_ ?_
            refine TX.in_normal ?_
            refine TX.then_ ?_
            refine TC.region ?_
            refine TL.val rfl rfl rfl (gives_bin rfl rfl rfl (fun w => bin_add_ (r := ((i + 1 : Nat) : Int)) (by simp only [IntKind.wrap_i64]; omega) w)) ?_
            refine TL.val rfl rfl rfl (gives_move rfl rfl) ?_
            refine TL.end_ ?_
            exact TX.round (⟨(i + 1, ((i : Nat) : Int), (A57, c57), out ++ ([(⟨x51, x38, x31, x22⟩ : Bd)])), by dsimp only; omega, by dsimp only; omega, by show stepW _ _ (winS _ _ i) i = _; rw [hst]; simp [stepW, List.getD_eq_getElem?_getD, hx22, hx31, hx38, hx51, q20, q25, q27, q34, q47, hm0], by dsimp only; rw [List.length_append]; show _ + 1 ≤ _; omega, hA571, hA572⟩) (by show ps.length - (i + 1) < ps.length - i; omega) ⟨rfl, rfl, rfl, rfl, rfl, rfl, rfl, trivial⟩ (fun w1 hw => hw.pick [2, 3, 4] (by decide) rfl)
          · have q47 := of_decide_eq_false h47
            have hmz : m = 0 := by omega
            refine TL.end_ ?_
            refine TX.then_ ?_
            refine TC.condF rfl ?_
            refine TC.skip_ ?_
            refine TX.then_ ?_
            refine TC.region ?_
            refine TL.val rfl rfl rfl (gives_move rfl rfl) ?_
            refine TL.val rfl rfl rfl (pm_loadV (k := 0) (i := 0) (n := 4) (v := .agg #[.int .u32 0, .int .u32 x38, .int .i64 x31, .int .i64 x22]) rfl rfl bowag39 bowsz39 rfl (by show 4 ≤ 4; decide) rfl) ?_
            refine TL.prowS (e := 39) (size := 4) (cs := flat Bd.cells [(⟨0, x38, x31, x22⟩ : Bd)]) rfl rfl rfl rfl rfl (fun w => bowbs36_1_78586 _ _ _ _ w) (by decide) rfl (fun g56 => ?_)
            refine TL.appendT (k := 2) rfl rfl rfl rfl Try.underlying36 bowel36 rfl rfl rfl (fun w1 hw => pm_reads hw (k := 0) rfl) (flat_one bd_cel _) (by show _ * 24 ≤ _; omega) ((out ++ ([(⟨0, x38, x31, x22⟩ : Bd)])).length) (by rw [List.length_append]; rfl) (flat Bd.cells (out ++ ([(⟨0, x38, x31, x22⟩ : Bd)]))) ((flat_app _ _).symm) (fun A57 c57 hA571 hA572 => ?_)
            refine TL.val rfl rfl rfl (gives_assign rfl rfl) ?_
            refine TL.end_ ?_
            refine TX.then_ ?_
            refine TC.region ?_
            refine TL.val rfl rfl rfl (gives_move rfl rfl) ?_
            refine TL.val rfl rfl rfl (gives_assign rfl rfl) ?_
            refine TL.end_ ?_
            refine TX.in_normal ?_
            refine TX.then_ ?_
            refine TC.region ?_
            refine TL.val rfl rfl rfl (gives_bin rfl rfl rfl (fun w => bin_add_ (r := ((i + 1 : Nat) : Int)) (by simp only [IntKind.wrap_i64]; omega) w)) ?_
            refine TL.val rfl rfl rfl (gives_move rfl rfl) ?_
            refine TL.end_ ?_
            exact TX.round (⟨(i + 1, ((i : Nat) : Int), (A57, c57), out ++ ([(⟨0, x38, x31, x22⟩ : Bd)])), by dsimp only; omega, by dsimp only; omega, by show stepW _ _ (winS _ _ i) i = _; rw [hst]; subst hmz; simp [stepW, List.getD_eq_getElem?_getD, hx22, hx31, hx38, q20, q25, q27, q34, q47], by dsimp only; rw [List.length_append]; show _ + 1 ≤ _; omega, hA571, hA572⟩) (by show ps.length - (i + 1) < ps.length - i; omega) ⟨rfl, rfl, rfl, rfl, rfl, rfl, rfl, trivial⟩ (fun w1 hw => hw.pick [2, 3, 4] (by decide) rfl)
        · have q34 := of_decide_eq_false h34
          refine TL.val rfl rfl rfl (gives_pick rfl rfl rfl) ?_
          refine TL.end_ ?_
          refine TX.then_ ?_
          refine TC.condF rfl ?_
          refine TC.skip_ ?_
          refine TX.then_ ?_
          refine TC.region ?_
          refine TL.val rfl rfl rfl (gives_move rfl rfl) ?_
          refine TL.val rfl rfl rfl (gives_assign rfl rfl) ?_
          refine TL.end_ ?_
          refine TX.in_normal ?_
          refine TX.then_ ?_
          refine TC.region ?_
          refine TL.val rfl rfl rfl (gives_bin rfl rfl rfl (fun w => bin_add_ (r := ((i + 1 : Nat) : Int)) (by simp only [IntKind.wrap_i64]; omega) w)) ?_
          refine TL.val rfl rfl rfl (gives_move rfl rfl) ?_
          refine TL.end_ ?_
          exact TX.round (⟨(i + 1, ((i : Nat) : Int), (Ao, co), out), by dsimp only; omega, by dsimp only; omega, by show stepW _ _ (winS _ _ i) i = _; rw [hst]; simp [stepW, List.getD_eq_getElem?_getD, hx22, hx31, q20, q25, q27, q34], by dsimp only; omega, hoc, hom⟩) (by show ps.length - (i + 1) < ps.length - i; omega) ⟨rfl, rfl, rfl, rfl, rfl, rfl, rfl, trivial⟩ (fun w1 hw => hw)
      · have q27 := of_decide_eq_false h27
        refine TL.val rfl rfl rfl (gives_move rfl rfl) ?_
        refine TL.off rfl rfl rfl rfl rfl rfl ?_
        refine TL.off rfl rfl rfl rfl rfl rfl ?_
        refine TL.off rfl rfl rfl rfl rfl rfl ?_
        refine TL.off rfl rfl rfl rfl rfl rfl ?_
        refine TL.off rfl rfl rfl rfl rfl rfl ?_
        refine TL.off rfl rfl rfl rfl rfl rfl ?_
        refine TL.val rfl rfl rfl (gives_pick rfl rfl rfl) ?_
        refine TL.end_ ?_
        refine TX.then_ ?_
        refine TC.condF rfl ?_
        refine TC.skip_ ?_
        refine TX.then_ ?_
        refine TC.region ?_
        refine TL.val rfl rfl rfl (gives_move rfl rfl) ?_
        refine TL.val rfl rfl rfl (gives_assign rfl rfl) ?_
        refine TL.end_ ?_
        refine TX.in_normal ?_
        refine TX.then_ ?_
        refine TC.region ?_
        refine TL.val rfl rfl rfl (gives_bin rfl rfl rfl (fun w => bin_add_ (r := ((i + 1 : Nat) : Int)) (by simp only [IntKind.wrap_i64]; omega) w)) ?_
        refine TL.val rfl rfl rfl (gives_move rfl rfl) ?_
        refine TL.end_ ?_
        exact TX.round (⟨(i + 1, ((i : Nat) : Int), (Ao, co), out), by dsimp only; omega, by dsimp only; omega, by show stepW _ _ (winS _ _ i) i = _; rw [hst]; simp [stepW, List.getD_eq_getElem?_getD, hx22, q20, q25, q27], by dsimp only; omega, hoc, hom⟩) (by show ps.length - (i + 1) < ps.length - i; omega) ⟨rfl, rfl, rfl, rfl, rfl, rfl, rfl, trivial⟩ (fun w1 hw => hw)
  · have q20 := of_decide_eq_false h20
    refine TL.end_ ?_
    refine TX.then_ ?_
    refine TC.seq_ ?_
    refine TC.condF rfl ?_
    refine TC.exit_ ?_
    refine TX.then_exit ?_
    refine TX.then_exit ?_
    refine TX.in_same ?_
    refine TX.then_ ?_
    refine TC.seq_ ?_
    refine TC.region ?_
    refine TL.val rfl rfl rfl (gives_move rfl rfl) ?_
    refine TL.val rfl rfl rfl (gives_assign rfl rfl) ?_
    refine TL.end_ ?_
    refine TX.then_ ?_
    refine TC.ret_ ?_
    have hE : out = winV es t ps := by have e9 : i = ps.length := (by omega); unfold winV; rw [← e9, hst]
    subst hE
    exact ret_tmp Try.results11 rfl (fun w1 hw => ⟨⟨(Ao, co), hoc, hom⟩, rfl, hw.pick [0] (by decide) rfl⟩)
set_option maxHeartbeats 1000000 in
theorem own_any  (w : World) :
    Calls Try.prog 10 #[] w fun e w' => ∃ g : Nat, e = .returned (.agg #[.slice (some ⟨g, 0, none⟩) 4 4]) ∧ Pm w [.row (.slice (some ⟨g, 0, none⟩) 4 4) 45 5 4 (flat En.cells ownL)] w' := by
  refine begin_ (vs := []) Try.func10 rfl rfl rfl ?_ (Pm.start w)
  refine TC.seq_ ?_
  refine TC.region ?_
  refine TL.pnew rfl rfl rfl (exec_alloc (cs := [.slice none 0 0]) rfl bowzv34 rfl) (fun g0 => ?_)
  refine TL.end_ ?_
  refine TX.then_ ?_
  refine TC.seq_ ?_
  refine TC.region ?_
  refine TL.val rfl rfl rfl (gives_build (v := .agg #[.int .u32 1, .int .i64 32]) rfl rfl (fun w => bowbld43_27253 _ _ w)) ?_
  refine TL.val rfl rfl rfl (gives_build (v := .agg #[.int .u32 1, .int .i64 32, .int .i64 5, .int .i64 0, .int .i64 9]) rfl rfl (fun w => bowbld45_98459 _ _ _ _ w)) ?_
  refine TL.val rfl rfl rfl (gives_build (v := .agg #[.int .u32 2, .int .i64 32]) rfl rfl (fun w => bowbld43_27253 _ _ w)) ?_
  refine TL.val rfl rfl rfl (gives_build (v := .agg #[.int .u32 2, .int .i64 32, .int .i64 5, .int .i64 0, .int .i64 9]) rfl rfl (fun w => bowbld45_98459 _ _ _ _ w)) ?_
  refine TL.val rfl rfl rfl (gives_build (v := .agg #[.int .u32 3, .int .i64 32]) rfl rfl (fun w => bowbld43_27253 _ _ w)) ?_
  refine TL.val rfl rfl rfl (gives_build (v := .agg #[.int .u32 3, .int .i64 32, .int .i64 7, .int .i64 0, .int .i64 9]) rfl rfl (fun w => bowbld45_98459 _ _ _ _ w)) ?_
  refine TL.val rfl rfl rfl (gives_build (v := .agg #[.int .u32 4, .int .i64 32]) rfl rfl (fun w => bowbld43_27253 _ _ w)) ?_
  refine TL.val rfl rfl rfl (gives_build (v := .agg #[.int .u32 4, .int .i64 32, .int .i64 7, .int .i64 0, .int .i64 9]) rfl rfl (fun w => bowbld45_98459 _ _ _ _ w)) ?_
  refine TL.prowS (e := 45) (size := 5) (cs := flat En.cells ownL) rfl rfl rfl rfl rfl (fun w => bowbs32_4_18990 _ _ _ _ _ _ _ _ _ _ _ _ _ _ _ _ _ _ _ _ w) (by decide) rfl (fun g9 => ?_)
  refine TL.val rfl rfl rfl (gives_build (v := .agg #[.slice (some ⟨g9, 0, none⟩) 4 4]) rfl rfl (fun w => bowbld34_67800 _ _ _ w)) ?_
  refine TL.pstore (k := 1) (vs := [.slice (some ⟨g9, 0, none⟩) 4 4]) rfl rfl rfl rfl rfl rfl rfl bowsz34 bowone_s (by show 1 ≤ 1; decide) (L' := [.row (.slice (some ⟨g9, 0, none⟩) 4 4) 45 5 4 (flat En.cells ownL), .blk g0 34 [.slice (some ⟨g9, 0, none⟩) 4 4]]) rfl ?_
  refine TL.end_ ?_
  refine TX.then_ ?_
  refine TC.ret_ ?_
  exact pm_ret_cell (k := 1) Try.results10 rfl rfl Try.underlying34 rfl rfl (fun w1 hw => ⟨g9, rfl, hw.pick [0] (by decide) rfl⟩)
set_option maxHeartbeats 1000000 in
theorem count_any (A0 : Option Addr) (c0 : Nat) (xs : List Int) (v : Int) (w : World) (hr : Reads w w.heap.size 1 A0 xs.length (flat (ic .i64) xs)) (hl1 : xs.length ≤ 100000) :
    Calls Try.prog 16 #[.slice A0 xs.length c0, .int .i64 v] w fun e w' => e = .returned (.int .i64 ((cntI xs v : Nat) : Int)) ∧ Below w.heap.size w w' := by
  refine begin_ (vs := [.slice A0 xs.length c0, .int .i64 v]) Try.func16 rfl rfl rfl ?_ (Pm.start w)
  refine TC.seq_ ?_
  refine TC.region ?_
  refine TL.val rfl rfl rfl (gives_assign rfl rfl) ?_
  refine TL.end_ ?_
  refine TX.then_ ?_
  refine TC.seq_ ?_
  refine TC.region ?_
  refine TL.val rfl rfl rfl (gives_assign rfl rfl) ?_
  refine TL.end_ ?_
  refine TX.then_ ?_
  refine TC.seq_ ?_
  refine TC.seq_ ?_
  refine TC.region ?_
  refine TL.val rfl rfl rfl (gives_move rfl rfl) ?_
  refine TL.val rfl rfl rfl (gives_len rfl Try.underlying30 rfl) ?_
  refine TL.val rfl rfl rfl (gives_move rfl rfl) ?_
  refine TL.end_ ?_
  refine TX.then_ ?_
  refine TC.block ?_
  refine TC.loop_ (α := {y : Nat × Nat // y.1 ≤ xs.length ∧ cntI (xs.take y.1) v = y.2}) (fun y => [(1, .int .i64 v), (8, .slice A0 xs.length c0), (9, .int .i64 (xs.length : Nat)), (10, .int .i64 ((y.1.1 : Nat) : Int)), (5, .int .i64 ((y.1.2 : Nat) : Int))]) (fun y => Pm w []) (fun y => xs.length - y.1.1) (⟨(0, 0), Nat.zero_le _, rfl⟩) ⟨rfl, rfl, rfl, rfl, rfl, trivial⟩ (fun w1 hw => hw) ?_
  rintro ⟨⟨i, k⟩, hi, hk⟩
  dsimp only at hi hk ⊢
  have hkl := cntI_le (xs.take i) v
  have hlt := List.length_take (l := xs) (i := i)
  refine TC.seq_ ?_
  refine TC.region ?_
  refine TL.vsplit rfl rfl rfl (gives_bin rfl rfl rfl (fun w => bin_lss w)) (fun h11 => ?_) (fun h11 => ?_)
  · have q11 := of_decide_eq_true h11
    refine TL.end_ ?_
    refine TX.then_ ?_
    refine TC.seq_ ?_
    refine TC.condT rfl ?_
    refine TC.skip_ ?_
    refine TX.then_ ?_
    refine TC.seq_ ?_
    refine TC.block ?_
    refine TC.seq_ ?_
    refine TC.region ?_
    have hi12 : i < xs.length := by omega
    obtain ⟨x12, hx12⟩ : ∃ x12, xs[i]? = some x12 := ⟨_, List.getElem?_eq_getElem hi12⟩
    obtain ⟨b12, o12, hA12, hbb12, hc12⟩ := hr.ad (by omega) (by decide)
    refine TL.val rfl rfl rfl (gives_at (v := .pointer (some ⟨b12, o12 + i * 1, none⟩)) rfl rfl rfl (fun w => at_el Try.underlying30 bowsz3 hA12 _ _ i (by omega) rfl w)) ?_
    refine TL.val rfl rfl rfl (gives_load (v := .int .i64 x12) rfl rfl bowag3 (fun w1 hw => (hw.bel.cell hbb12).trans <| flat_cell (ic_cel .i64) hx12 hc12 0 _ rfl)) ?_
    refine TL.val rfl rfl rfl (gives_assign rfl rfl) ?_
    refine TL.end_ ?_
    refine TX.then_ ?_
    refine TC.seq_ ?_
    refine TC.region ?_
    refine TL.val rfl rfl rfl (gives_move rfl rfl) ?_
    refine TL.val rfl rfl rfl (gives_move rfl rfl) ?_
    refine TL.vsplit rfl rfl rfl (gives_bin rfl rfl rfl (fun w => bin_eql w)) (fun h16 => ?_) (fun h16 => ?_)
    · have q16 := of_decide_eq_true h16
      refine TL.end_ ?_
      refine TX.then_ ?_
      refine TC.condT rfl ?_
      refine TC.region ?_
      refine TL.val rfl rfl rfl (gives_move rfl rfl) ?_
      refine TL.val rfl rfl rfl (gives_bin rfl rfl rfl (fun w => bin_add_ (r := ((k + 1 : Nat) : Int)) (by simp only [IntKind.wrap_i64]; omega) w)) ?_
      refine TL.val rfl rfl rfl (gives_assign rfl rfl) ?_
      refine TL.end_ ?_
      refine TX.in_normal ?_
      refine TX.then_ ?_
      refine TC.region ?_
      refine TL.val rfl rfl rfl (gives_bin rfl rfl rfl (fun w => bin_add_ (r := ((i + 1 : Nat) : Int)) (by simp only [IntKind.wrap_i64]; omega) w)) ?_
      refine TL.val rfl rfl rfl (gives_move rfl rfl) ?_
      refine TL.end_ ?_
      exact TX.round (⟨(i + 1, k + 1), by dsimp only; omega, by rw [cntI_snoc hx12, hk]; simp [q11, q16]⟩) (by show xs.length - (i + 1) < xs.length - i; omega) ⟨rfl, rfl, rfl, rfl, rfl, trivial⟩ (fun w1 hw => hw)
    · have q16 := of_decide_eq_false h16
      refine TL.end_ ?_
      refine TX.then_ ?_
      refine TC.condF rfl ?_
      refine TC.skip_ ?_
      refine TX.in_normal ?_
      refine TX.then_ ?_
      refine TC.region ?_
      refine TL.val rfl rfl rfl (gives_bin rfl rfl rfl (fun w => bin_add_ (r := ((i + 1 : Nat) : Int)) (by simp only [IntKind.wrap_i64]; omega) w)) ?_
      refine TL.val rfl rfl rfl (gives_move rfl rfl) ?_
      refine TL.end_ ?_
      exact TX.round (⟨(i + 1, k), by dsimp only; omega, by rw [cntI_snoc hx12, hk]; simp [q11, q16]⟩) (by show xs.length - (i + 1) < xs.length - i; omega) ⟨rfl, rfl, rfl, rfl, rfl, trivial⟩ (fun w1 hw => hw)
  · have q11 := of_decide_eq_false h11
    refine TL.end_ ?_
    refine TX.then_ ?_
    refine TC.seq_ ?_
    refine TC.condF rfl ?_
    refine TC.exit_ ?_
    refine TX.then_exit ?_
    refine TX.then_exit ?_
    refine TX.in_same ?_
    refine TX.then_ ?_
    refine TC.seq_ ?_
    refine TC.region ?_
    refine TL.val rfl rfl rfl (gives_move rfl rfl) ?_
    refine TL.val rfl rfl rfl (gives_assign rfl rfl) ?_
    refine TL.end_ ?_
    refine TX.then_ ?_
    refine TC.ret_ ?_
    have hE : cntI xs v = k := by rw [List.take_of_length_le (by omega)] at hk; exact hk
    exact ret_tmp Try.results16 rfl (fun w1 hw => ⟨by rw [hE], hw.bel⟩)
set_option maxHeartbeats 1000000 in
theorem voters_any (A0 : Option Addr) (c0 : Nat) (xs : List Int) (w : World) (hr : Reads w w.heap.size 1 A0 xs.length (flat (ic .i64) xs)) (hl1 : xs.length ≤ 100000) :
    Calls Try.prog 17 #[.slice A0 xs.length c0] w fun e w' => e = .returned (.int .i64 ((xs.length - cntI xs 0 : Nat) : Int)) ∧ Below w.heap.size w w' := by
  refine begin_ (vs := [.slice A0 xs.length c0]) Try.func17 rfl rfl rfl ?_ (Pm.start w)
  refine TC.seq_ ?_
  refine TC.region ?_
  refine TL.val rfl rfl rfl (gives_assign rfl rfl) ?_
  refine TL.end_ ?_
  refine TX.then_ ?_
  refine TC.seq_ ?_
  have hcl := cntI_le xs 0
  refine TC.region ?_
  refine TL.val rfl rfl rfl (gives_move rfl rfl) ?_
  refine TL.val rfl rfl rfl (gives_len rfl Try.underlying30 rfl) ?_
  refine TL.val rfl rfl rfl (gives_move rfl rfl) ?_
  refine TL.pcall1 (r := .int .i64 ((cntI xs 0 : Nat) : Int)) rfl rfl rfl rfl rfl Try.func16 bownm16 bowbd16 (fun w1 hw => count_any A0 c0 xs 0 w1 (hr.up hw.bel) hl1) ?_
  refine TL.val rfl rfl rfl (gives_bin rfl rfl rfl (fun w => bin_sub_ (r := ((xs.length - cntI xs 0 : Nat) : Int)) (by simp only [IntKind.wrap_i64]; omega) w)) ?_
  refine TL.val rfl rfl rfl (gives_assign rfl rfl) ?_
  refine TL.end_ ?_
  refine TX.then_ ?_
  refine TC.ret_ ?_
  exact ret_tmp Try.results17 rfl (fun w1 hw => ⟨rfl, hw.bel⟩)
set_option maxHeartbeats 1000000 in
theorem ints_any (A0 : Option Addr) (c0 : Nat) (xs : List Int) (A1 : Option Addr) (c1 : Nat) (ys : List Int) (w : World) (hr : Reads w w.heap.size 1 A0 xs.length (flat (ic .i64) xs)) (hl1 : xs.length ≤ 100000) (hr1 : Reads w w.heap.size 1 A1 ys.length (flat (ic .i64) ys)) (hl2 : ys.length ≤ 100000) :
    Calls Try.prog 18 #[.slice A0 xs.length c0, .slice A1 ys.length c1] w fun e w' => e = .returned (.bool (decide (xs = ys))) ∧ Below w.heap.size w w' := by
  refine begin_ (vs := [.slice A0 xs.length c0, .slice A1 ys.length c1]) Try.func18 rfl rfl rfl ?_ (Pm.start w)
  refine TC.seq_ ?_
  refine TC.region ?_
  refine TL.val rfl rfl rfl (gives_assign rfl rfl) ?_
  refine TL.end_ ?_
  refine TX.then_ ?_
  refine TC.seq_ ?_
  refine TC.seq_ ?_
  refine TC.region ?_
  refine TL.val rfl rfl rfl (gives_move rfl rfl) ?_
  refine TL.val rfl rfl rfl (gives_len rfl Try.underlying30 rfl) ?_
  refine TL.val rfl rfl rfl (gives_move rfl rfl) ?_
  refine TL.val rfl rfl rfl (gives_len rfl Try.underlying30 rfl) ?_
  refine TL.vsplit rfl rfl rfl (gives_bin rfl rfl rfl (fun w => bin_neq w)) (fun h10 => ?_) (fun h10 => ?_)
  · have q10 := of_decide_eq_true h10
    refine TL.end_ ?_
    refine TX.then_ ?_
    refine TC.condT rfl ?_
    refine TC.seq_ ?_
    refine TC.region ?_
    refine TL.val rfl rfl rfl (gives_assign rfl rfl) ?_
    refine TL.end_ ?_
    refine TX.then_ ?_
    refine TC.ret_ ?_
    refine TX.then_ret ?_
    have hE : decide (xs = ys) = false := decide_eq_false (fun hh => q10 (by rw [hh]))
    exact ret_tmp Try.results18 rfl (fun w1 hw => ⟨by rw [hE], hw.bel⟩)
  · have q10 := of_decide_eq_false h10
    have hll : xs.length = ys.length := by omega
    refine TL.end_ ?_
    refine TX.then_ ?_
    refine TC.condF rfl ?_
    refine TC.skip_ ?_
    refine TX.then_ ?_
    refine TC.seq_ ?_
    refine TC.seq_ ?_
    refine TC.region ?_
    refine TL.val rfl rfl rfl (gives_assign rfl rfl) ?_
    refine TL.end_ ?_
    refine TX.then_ ?_
    refine TC.block ?_
    refine TC.loop_ (α := {i : Nat // i ≤ xs.length ∧ xs.take i = ys.take i}) (fun y => [(0, .slice A0 xs.length c0), (1, .slice A1 ys.length c1), (5, .int .i64 ((y.1 : Nat) : Int))]) (fun y => Pm w []) (fun y => xs.length - y.1) (⟨0, Nat.zero_le _, rfl⟩) ⟨rfl, rfl, rfl, trivial⟩ (fun w1 hw => hw) ?_
    rintro ⟨i, hi, ht⟩
    dsimp only at hi ht ⊢
    refine TC.seq_ ?_
    refine TC.seq_ ?_
    refine TC.region ?_
    refine TL.val rfl rfl rfl (gives_move rfl rfl) ?_
    refine TL.val rfl rfl rfl (gives_move rfl rfl) ?_
    refine TL.val rfl rfl rfl (gives_len rfl Try.underlying30 rfl) ?_
    refine TL.vsplit rfl rfl rfl (gives_bin rfl rfl rfl (fun w => bin_lss w)) (fun h14 => ?_) (fun h14 => ?_)
    · have q14 := of_decide_eq_true h14
      refine TL.end_ ?_
      refine TX.then_ ?_
      refine TC.condT rfl ?_
      refine TC.skip_ ?_
      refine TX.then_ ?_
      refine TC.seq_ ?_
      refine TC.block ?_
      refine TC.seq_ ?_
      refine TC.quietQ (by kernel_rfl) (by kernel_rfl) (fun w hw => hw.drawn _) ?_
      refine TQ.val rfl rfl rfl (gives_move rfl rfl) ?_
      refine TQ.val rfl rfl rfl (gives_move rfl rfl) ?_
      have hi19 : i < xs.length := by omega
      obtain ⟨x19, hx19⟩ : ∃ x19, xs[i]? = some x19 := ⟨_, List.getElem?_eq_getElem hi19⟩
      obtain ⟨b19, o19, hA19, hbb19, hc19⟩ := hr.ad (by omega) (by decide)
      refine TQ.val rfl rfl rfl (gives_at (v := .pointer (some ⟨b19, o19 + i * 1, none⟩)) rfl rfl rfl (fun w => at_el Try.underlying30 bowsz3 hA19 _ _ i (by omega) rfl w)) ?_
      refine TQ.val rfl rfl rfl (gives_load (v := .int .i64 x19) rfl rfl bowag3 (fun w1 hw => (hw.bel.cell hbb19).trans <| flat_cell (ic_cel .i64) hx19 hc19 0 _ rfl)) ?_
      refine TQ.val rfl rfl rfl (gives_move rfl rfl) ?_
      refine TQ.val rfl rfl rfl (gives_move rfl rfl) ?_
      have hi23 : i < ys.length := by omega
      obtain ⟨x23, hx23⟩ : ∃ x23, ys[i]? = some x23 := ⟨_, List.getElem?_eq_getElem hi23⟩
      obtain ⟨b23, o23, hA23, hbb23, hc23⟩ := hr1.ad (by omega) (by decide)
      refine TQ.val rfl rfl rfl (gives_at (v := .pointer (some ⟨b23, o23 + i * 1, none⟩)) rfl rfl rfl (fun w => at_el Try.underlying30 bowsz3 hA23 _ _ i (by omega) rfl w)) ?_
      refine TQ.val rfl rfl rfl (gives_load (v := .int .i64 x23) rfl rfl bowag3 (fun w1 hw => (hw.bel.cell hbb23).trans <| flat_cell (ic_cel .i64) hx23 hc23 0 _ rfl)) ?_
      refine TQ.vsplit rfl rfl rfl (gives_bin rfl rfl rfl (fun w => bin_neq w)) (fun h25 => ?_) (fun h25 => ?_)
      · have q25 := of_decide_eq_true h25
        refine TQ.fin ?_
        refine TX.then_ ?_
        refine TC.condT rfl ?_
        refine TC.seq_ ?_
        refine TC.region ?_
        refine TL.val rfl rfl rfl (gives_assign rfl rfl) ?_
        refine TL.end_ ?_
        refine TX.then_ ?_
        refine TC.ret_ ?_
        refine TX.in_ret ?_
        refine TX.then_ret ?_
        refine TX.then_ret ?_
        refine TX.in_ret ?_
        refine TX.then_ret ?_
        have hE : decide (xs = ys) = false := decide_eq_false (fun hh => q25 (by subst hh; rw [hx19] at hx23; injection hx23))
        exact ret_tmp Try.results18 rfl (fun w1 hw => ⟨by rw [hE], hw.bel⟩)
      · have q25 := of_decide_eq_false h25
        refine TQ.fin ?_
        refine TX.then_ ?_
        refine TC.condF rfl ?_
        refine TC.skip_ ?_
        refine TX.in_normal ?_
        refine TX.then_ ?_
        refine TC.region ?_
        refine TL.val rfl rfl rfl (gives_move rfl rfl) ?_
        refine TL.val rfl rfl rfl (gives_bin rfl rfl rfl (fun w => bin_add_ (r := ((i + 1 : Nat) : Int)) (by simp only [IntKind.wrap_i64]; omega) w)) ?_
        refine TL.val rfl rfl rfl (gives_assign rfl rfl) ?_
        refine TL.end_ ?_
        exact TX.round (⟨i + 1, by omega, by rw [List.take_add_one, List.take_add_one, hx19, hx23, ht, Decidable.not_not.1 q25]⟩) (by show xs.length - (i + 1) < xs.length - i; omega) ⟨rfl, rfl, rfl, trivial⟩ (fun w1 hw => hw)
    · have q14 := of_decide_eq_false h14
      refine TL.end_ ?_
      refine TX.then_ ?_
      refine TC.condF rfl ?_
      refine TC.exit_ ?_
      refine TX.then_exit ?_
      refine TX.then_exit ?_
      refine TX.in_same ?_
      refine TX.then_ ?_
      refine TC.seq_ ?_
      refine TC.region ?_
      refine TL.val rfl rfl rfl (gives_assign rfl rfl) ?_
      refine TL.end_ ?_
      refine TX.then_ ?_
      refine TC.ret_ ?_
      have hE : decide (xs = ys) = true := decide_eq_true (by rw [List.take_of_length_le (by omega), List.take_of_length_le (by omega)] at ht; exact ht)
      exact ret_tmp Try.results18 rfl (fun w1 hw => ⟨by rw [hE], hw.bel⟩)
end Go.Proofs.Ytmbcclgnjobikaa
