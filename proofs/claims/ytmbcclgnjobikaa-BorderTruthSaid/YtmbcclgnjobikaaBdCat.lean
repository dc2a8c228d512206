/-
  slices.Grow from nil and slices.Concat of addresses.
-/
import Derived.Test.YtmbcclgnjobikaaBdOwn
namespace Go.Proofs.Ytmbcclgnjobikaa
open Go.RowKit
set_option linter.unusedVariables false
set_option linter.unusedSimpArgs false
set_option maxRecDepth 20000
theorem zeroCells1 (v : Value) (hv : v.cells = #[v]) (m : Nat) : (Builtin.zeroCells v.cells m).toList = List.replicate m v := by
  rw [hv]
  simp only [Builtin.zeroCells, List.size_toArray, List.length_singleton, Nat.mul_one, Array.toList_map, Array.toList_range]
  refine List.ext_getElem (by simp) fun i h1 h2 => ?_
  simp [Nat.mod_one]
theorem zero_one1 (q : IntKind) : ∀ k, ∀ u ∈ (Builtin.zeroCells (Value.int q 0).cells k).toList, u.oneCell' = true := by
  intro k u hu
  rw [zeroCells1 _ rfl] at hu
  rw [(List.mem_replicate.1 hu).2]; rfl
/-- slices, one behind the other -/
def catS {α : Type} (ss : List (Sg α)) : List α := ss.flatMap (·.l)
def sumL {α : Type} (ss : List (Sg α)) : Nat := (catS ss).length
theorem catS_snoc {α : Type} {ss : List (Sg α)} {i : Nat} {x : Sg α} (hx : ss[i]? = some x) : catS (ss.take (i + 1)) = catS (ss.take i) ++ x.l := by
  unfold catS; rw [List.take_add_one, hx]; simp
theorem sumL_snoc {α : Type} {ss : List (Sg α)} {i : Nat} {x : Sg α} (hx : ss[i]? = some x) : sumL (ss.take (i + 1)) = sumL (ss.take i) + x.l.length := by
  unfold sumL; rw [catS_snoc hx, List.length_append]
theorem sumL_le {α : Type} (ss : List (Sg α)) (i : Nat) : sumL (ss.take i) ≤ sumL ss := by
  have h : catS ss = catS (ss.take i) ++ catS (ss.drop i) := by unfold catS; rw [← List.flatMap_append, List.take_append_drop]
  unfold sumL; rw [h, List.length_append]; omega
theorem catS_len {α : Type} (ss : List (Sg α)) (i : Nat) : (catS (ss.take i)).length ≤ sumL ss := sumL_le ss i
theorem bcael26 : Elem Try.prog 26 29 1 4 := Elem.mk' Try.underlying26 (z := .int .u32 0) (by kernel_rfl) rfl (by omega) (by omega)
theorem bcasz26 (w : World) : (sizeOf 26).run Try.prog w = .ok 1 w := rfl
theorem bcaag26 (w : World) : (isAgg 26).run Try.prog w = .ok false w := rfl
theorem bcanm32 : (Try.f32.name == "runtime.NumGoroutine") = false := by decide
theorem bcabd32 : Try.f32.body.isNone = false := rfl
set_option maxHeartbeats 1000000 in
theorem grow_nil (n : Nat) (w : World) (hlim : n ≤ 10000000) :
    Calls Try.prog 32 #[.slice none 0 0, .int .i64 ((n : Nat) : Int)] w fun e w' => ∃ x : {p : Option Addr × Nat // n ≤ p.2 ∧ p.2 ≤ maxLen}, e = .returned (.slice x.1.1 0 x.1.2) ∧ Pm w [.row (.slice x.1.1 0 x.1.2) 29 1 0 (flat (ic .u32) [])] w' := by
  refine begin_ (vs := [.slice none 0 0, .int .i64 ((n : Nat) : Int)]) Try.func32 rfl rfl rfl ?_ (Pm.start w)
  refine TC.seq_ ?_
  refine TC.region ?_
  refine TL.val rfl rfl rfl (gives_assign rfl rfl) ?_
  refine TL.end_ ?_
  refine TX.then_ ?_
  refine TC.seq_ ?_
  refine TC.seq_ ?_
  refine TC.region ?_
  refine TL.val rfl rfl rfl (gives_move rfl rfl) ?_
  refine TL.vsplit rfl rfl rfl (gives_bin rfl rfl rfl (fun w => bin_lss w)) (fun h6 => ?_) (fun h6 => ?_)
  · have q6 := of_decide_eq_true h6
    exfalso; omega
  · have q6 := of_decide_eq_false h6
    refine TL.end_ ?_
    refine TX.then_ ?_
    refine TC.condF rfl ?_
    refine TC.skip_ ?_
    refine TX.then_ ?_
    refine TC.seq_ ?_
    refine TC.seq_ ?_
    refine TC.region ?_
    refine TL.val rfl rfl rfl (gives_move rfl rfl) ?_
    refine TL.val rfl rfl rfl (gives_move rfl rfl) ?_
    refine TL.val rfl rfl rfl (gives_cap rfl Try.underlying26 rfl) ?_
    refine TL.val rfl rfl rfl (gives_move rfl rfl) ?_
    refine TL.val rfl rfl rfl (gives_len rfl Try.underlying26 rfl) ?_
    refine TL.val rfl rfl rfl (gives_bin rfl rfl rfl (fun w => bin_sub_ (r := 0) (by decide) w)) ?_
    refine TL.val rfl rfl rfl (gives_bin rfl rfl rfl (fun w => bin_sub_ (r := ((n : Nat) : Int)) (by simp only [IntKind.wrap_i64]; omega) w)) ?_
    refine TL.val rfl rfl rfl (gives_assign rfl rfl) ?_
    refine TL.end_ ?_
    refine TX.then_ ?_
    refine TC.seq_ ?_
    refine TC.region ?_
    refine TL.val rfl rfl rfl (gives_move rfl rfl) ?_
    refine TL.vsplit rfl rfl rfl (gives_bin rfl rfl rfl (fun w => bin_gtr w)) (fun h16 => ?_) (fun h16 => ?_)
    · have q16 := of_decide_eq_true h16
      refine TL.end_ ?_
      refine TX.then_ ?_
      refine TC.condT rfl ?_
      refine TC.region ?_
      refine TL.val rfl rfl rfl (gives_move rfl rfl) ?_
      refine TL.val rfl rfl rfl (gives_move rfl rfl) ?_
      refine TL.val rfl rfl rfl (gives_cap rfl Try.underlying26 rfl) ?_
      refine TL.nilrow 29 1 ?_
      refine TL.rowhead (k := 0) (hi := 0) (xs' := []) rfl rfl rfl rfl rfl rfl Try.underlying26 (fun w => rfl) rfl (Nat.le_refl _) (Nat.le_refl _) rfl ?_
      refine TL.val rfl rfl rfl (gives_move rfl rfl) ?_
      refine TL.zeros (k := 0) (m := n) rfl rfl rfl rfl bcael26 Try.underlying3 rfl rfl rfl (z := .int .u32 0) (by kernel_rfl) rfl (zero_one1 .u32) (by show _ * 4 ≤ _; omega) n (by omega) (fun A22 c22 hA221 hA222 => ?_)
      try dsimp only [List.set_cons_zero, List.set_cons_succ]
      refine TL.val rfl rfl rfl (gives_move rfl rfl) ?_
      refine TL.val rfl rfl rfl (gives_len rfl Try.underlying26 rfl) ?_
      refine TL.rowhead (k := 0) (hi := 0) (xs' := []) rfl rfl rfl rfl rfl rfl Try.underlying26 (fun w => rfl) rfl (Nat.zero_le _) hA221 rfl ?_
      try dsimp only [List.set_cons_zero, List.set_cons_succ]
      refine TL.val rfl rfl rfl (gives_assign rfl rfl) ?_
      refine TL.end_ ?_
      refine TX.then_ ?_
      refine TC.seq_ ?_
      refine TC.region ?_
      refine TL.val rfl rfl rfl (gives_move rfl rfl) ?_
      refine TL.val rfl rfl rfl (gives_assign rfl rfl) ?_
      refine TL.end_ ?_
      refine TX.then_ ?_
      refine TC.ret_ ?_
      exact ret_tmp Try.results32 rfl (fun w1 hw => ⟨⟨(A22, c22), hA221, hA222⟩, rfl, hw.pick [0] (by decide) rfl⟩)
    · have q16 := of_decide_eq_false h16
      refine TL.end_ ?_
      refine TX.then_ ?_
      refine TC.condF rfl ?_
      refine TC.skip_ ?_
      refine TX.then_ ?_
      refine TC.seq_ ?_
      refine TC.region ?_
      refine TL.val rfl rfl rfl (gives_move rfl rfl) ?_
      refine TL.val rfl rfl rfl (gives_assign rfl rfl) ?_
      refine TL.end_ ?_
      refine TX.then_ ?_
      refine TC.ret_ ?_
      have hn0 : n = 0 := by omega
      subst hn0
      exact ret_tmp Try.results32 rfl (fun w1 hw => ⟨⟨(none, 0), Nat.le_refl _, Nat.zero_le _⟩, rfl, hw.nilrow _ _⟩)
set_option maxHeartbeats 1000000 in
theorem concat_any (A0 : Option Addr) (c0 : Nat) (ss : List (Sg Int)) (w : World) (hr : Reads w w.heap.size 1 A0 ss.length (flat sgc ss)) (hl : ss.length ≤ 100000) (hs : sumL ss ≤ 1000000) (hss : ∀ s ∈ ss, Reads w w.heap.size 1 s.A s.l.length (flat (ic .u32) s.l)) :
    Calls Try.prog 24 #[.slice A0 ss.length c0] w fun e w' => ∃ x : {p : Option Addr × Nat // (catS ss).length ≤ p.2 ∧ p.2 ≤ maxLen}, e = .returned (.slice x.1.1 (catS ss).length x.1.2) ∧ Pm w [.row (.slice x.1.1 (catS ss).length x.1.2) 29 1 (catS ss).length (flat (ic .u32) (catS ss))] w' := by
  refine begin_ (vs := [.slice A0 ss.length c0]) Try.func24 rfl rfl rfl ?_ (Pm.start w)
  refine TC.seq_ ?_
  refine TC.region ?_
  refine TL.val rfl rfl rfl (gives_assign rfl rfl) ?_
  refine TL.end_ ?_
  refine TX.then_ ?_
  refine TC.seq_ ?_
  refine TC.region ?_
  refine TL.val rfl rfl rfl (gives_assign rfl rfl) ?_
  refine TL.end_ ?_
  refine TX.then_ ?_
  refine TC.seq_ ?_
  refine TC.seq_ ?_
  refine TC.region ?_
  refine TL.val rfl rfl rfl (gives_move rfl rfl) ?_
  refine TL.val rfl rfl rfl (gives_len rfl Try.underlying73 rfl) ?_
  refine TL.val rfl rfl rfl (gives_move rfl rfl) ?_
  refine TL.end_ ?_
  refine TX.then_ ?_
  refine TC.block ?_
  refine TC.loop_ (α := {i : Nat // i ≤ ss.length}) (fun y => [(0, .slice A0 ss.length c0), (9, .slice A0 ss.length c0), (10, .int .i64 (ss.length : Nat)), (11, .int .i64 ((y.1 : Nat) : Int)), (3, .int .i64 ((sumL (ss.take y.1) : Nat) : Int))]) (fun y => Pm w []) (fun y => ss.length - y.1) (⟨0, Nat.zero_le _⟩) ⟨rfl, rfl, rfl, rfl, rfl, trivial⟩ (fun w1 hw => hw) ?_
  rintro ⟨i, hi⟩
  try dsimp only at hi ⊢
  have hsl0 := sumL_le ss i
  refine TC.seq_ ?_
  refine TC.region ?_
  refine TL.vsplit rfl rfl rfl (gives_bin rfl rfl rfl (fun w => bin_lss w)) (fun h12 => ?_) (fun h12 => ?_)
  · have q12 := of_decide_eq_true h12
    refine TL.end_ ?_
    refine TX.then_ ?_
    refine TC.seq_ ?_
    refine TC.condT rfl ?_
    refine TC.skip_ ?_
    refine TX.then_ ?_
    refine TC.seq_ ?_
    refine TC.block ?_
    refine TC.seq_ ?_
    refine TC.region ?_
    have hi13 : i < ss.length := by omega
    obtain ⟨x13, hx13⟩ : ∃ x13, ss[i]? = some x13 := ⟨_, List.getElem?_eq_getElem hi13⟩
    obtain ⟨b13, o13, hA13, hbb13, hc13⟩ := hr.ad (by omega) (by decide)
    have hsm := sumL_snoc hx13
    have hsl := sumL_le ss (i + 1)
    have hcm := catS_snoc hx13
    refine TL.val rfl rfl rfl (gives_at (v := .pointer (some ⟨b13, o13 + i * 1, none⟩)) rfl rfl rfl (fun w => at_el Try.underlying73 bcasz26 hA13 _ _ i (by omega) rfl w)) ?_
    refine TL.val rfl rfl rfl (gives_load (v := .slice x13.A x13.l.length x13.c) rfl rfl bcaag26 (fun w1 hw => (hw.bel.cell hbb13).trans <| flat_cell sgc_cel hx13 hc13 0 _ rfl)) ?_
    refine TL.val rfl rfl rfl (gives_assign rfl rfl) ?_
    refine TL.end_ ?_
    refine TX.then_ ?_
    refine TC.seq_ ?_
    refine TC.region ?_
    refine TL.val rfl rfl rfl (gives_move rfl rfl) ?_
    refine TL.val rfl rfl rfl (gives_move rfl rfl) ?_
    refine TL.val rfl rfl rfl (gives_len rfl Try.underlying26 rfl) ?_
    refine TL.val rfl rfl rfl (gives_bin rfl rfl rfl (fun w => bin_add_ (r := ((sumL (ss.take (i + 1)) : Nat) : Int)) (by rw [hsm]; simp only [IntKind.wrap_i64]; omega) w)) ?_
    refine TL.val rfl rfl rfl (gives_assign rfl rfl) ?_
    refine TL.end_ ?_
    refine TX.then_ ?_
    refine TC.seq_ ?_
    refine TC.region ?_
    refine TL.val rfl rfl rfl (gives_move rfl rfl) ?_
    refine TL.vsplit rfl rfl rfl (gives_bin rfl rfl rfl (fun w => bin_lss w)) (fun h20 => ?_) (fun h20 => ?_)
    · have q20 := of_decide_eq_true h20
      exfalso; omega
    · have q20 := of_decide_eq_false h20
      refine TL.end_ ?_
      refine TX.then_ ?_
      refine TC.condF rfl ?_
      refine TC.skip_ ?_
      refine TX.in_normal ?_
      refine TX.then_ ?_
      refine TC.region ?_
      refine TL.val rfl rfl rfl (gives_bin rfl rfl rfl (fun w => bin_add_ (r := ((i + 1 : Nat) : Int)) (by simp only [IntKind.wrap_i64]; omega) w)) ?_
      refine TL.val rfl rfl rfl (gives_move rfl rfl) ?_
      refine TL.end_ ?_
      exact TX.round (⟨i + 1, by omega⟩) (by show ss.length - (i + 1) < ss.length - i; omega) ⟨rfl, rfl, rfl, rfl, rfl, trivial⟩ (fun w1 hw => hw)
  · have q12 := of_decide_eq_false h12
    refine TL.end_ ?_
    refine TX.then_ ?_
    refine TC.seq_ ?_
    refine TC.condF rfl ?_
    refine TC.exit_ ?_
    refine TX.then_exit ?_
    refine TX.then_exit ?_
    refine TX.in_same ?_
    refine TX.then_ ?_
    refine TC.seq_ ?_
    refine TC.region ?_
    refine TL.val rfl rfl rfl (gives_move rfl rfl) ?_
    refine TL.pcallPm (α := {p : Option Addr × Nat // sumL (ss.take i) ≤ p.2 ∧ p.2 ≤ maxLen}) (fun x => .slice x.1.1 0 x.1.2) (fun x => [.row (.slice x.1.1 0 x.1.2) 29 1 0 (flat (ic .u32) ([]))]) rfl rfl rfl rfl rfl Try.func32 bcanm32 bcabd32 (fun w1 hw => grow_nil (sumL (ss.take i)) w1 (by omega)) ?_
    rintro ⟨⟨Ag, cg⟩, hg1, hg2⟩
    dsimp only [List.cons_append, List.nil_append]
    refine TL.val rfl rfl rfl (gives_assign rfl rfl) ?_
    refine TL.end_ ?_
    refine TX.then_ ?_
    refine TC.seq_ ?_
    refine TC.seq_ ?_
    refine TC.region ?_
    refine TL.val rfl rfl rfl (gives_move rfl rfl) ?_
    refine TL.val rfl rfl rfl (gives_len rfl Try.underlying73 rfl) ?_
    refine TL.val rfl rfl rfl (gives_move rfl rfl) ?_
    refine TL.end_ ?_
    refine TX.then_ ?_
    refine TC.block ?_
    refine TC.loop_ (α := {y : Nat × (Option Addr × Nat) × List Int // y.1 ≤ ss.length ∧ catS (ss.take y.1) = y.2.2 ∧ y.2.2.length ≤ y.2.1.2 ∧ y.2.1.2 ≤ maxLen}) (fun y => [(25, .slice A0 ss.length c0), (26, .int .i64 (ss.length : Nat)), (27, .int .i64 ((y.1.1 : Nat) : Int)), (6, .slice y.1.2.1.1 y.1.2.2.length y.1.2.1.2)]) (fun y => Pm w [.row (.slice y.1.2.1.1 y.1.2.2.length y.1.2.1.2) 29 1 y.1.2.2.length (flat (ic .u32) y.1.2.2)]) (fun y => ss.length - y.1.1) (⟨(0, (Ag, cg), []), Nat.zero_le _, rfl, Nat.zero_le _, hg2⟩) ⟨rfl, rfl, rfl, rfl, trivial⟩ (fun w1 hw => hw) ?_
    rintro ⟨⟨i, ⟨Ao, co⟩, out⟩, hi, hot, hoc, hom⟩
    dsimp only at hi hot hoc hom ⊢
    subst hot
    refine TC.seq_ ?_
    refine TC.region ?_
    refine TL.vsplit rfl rfl rfl (gives_bin rfl rfl rfl (fun w => bin_lss w)) (fun h28 => ?_) (fun h28 => ?_)
    · have q28 := of_decide_eq_true h28
      refine TL.end_ ?_
      refine TX.then_ ?_
      refine TC.seq_ ?_
      refine TC.condT rfl ?_
      refine TC.skip_ ?_
      refine TX.then_ ?_
      refine TC.seq_ ?_
      refine TC.block ?_
      refine TC.seq_ ?_
      refine TC.region ?_
      have hi29 : i < ss.length := by omega
      obtain ⟨x29, hx29⟩ : ∃ x29, ss[i]? = some x29 := ⟨_, List.getElem?_eq_getElem hi29⟩
      obtain ⟨b29, o29, hA29, hbb29, hc29⟩ := hr.ad (by omega) (by decide)
      have hsm := sumL_snoc hx29
      have hsl := sumL_le ss (i + 1)
      have hcm := catS_snoc hx29
      refine TL.val rfl rfl rfl (gives_at (v := .pointer (some ⟨b29, o29 + i * 1, none⟩)) rfl rfl rfl (fun w => at_el Try.underlying73 bcasz26 hA29 _ _ i (by omega) rfl w)) ?_
      refine TL.val rfl rfl rfl (gives_load (v := .slice x29.A x29.l.length x29.c) rfl rfl bcaag26 (fun w1 hw => (hw.bel.cell hbb29).trans <| flat_cell sgc_cel hx29 hc29 0 _ rfl)) ?_
      refine TL.val rfl rfl rfl (gives_assign rfl rfl) ?_
      refine TL.end_ ?_
      refine TX.then_ ?_
      refine TC.region ?_
      refine TL.val rfl rfl rfl (gives_move rfl rfl) ?_
      refine TL.val rfl rfl rfl (gives_move rfl rfl) ?_
      refine TL.appendT (k := 0) rfl rfl rfl rfl Try.underlying26 bcael26 rfl rfl rfl (fun w1 hw => ⟨_, ((hss x29 (List.mem_of_getElem? hx29)).up hw.bel)⟩) (flat_one (ic_cel .u32) _) (by have h8 := catS_len ss i; have h9 := catS_len ss (i + 1); rw [hcm, List.length_append] at h9; show _ * 4 ≤ _; omega) (((catS (ss.take i)) ++ x29.l).length) (by rw [List.length_append]) (flat (ic .u32) ((catS (ss.take i)) ++ x29.l)) ((flat_app _ _).symm) (fun A33 c33 hA331 hA332 => ?_)
      refine TL.val rfl rfl rfl (gives_assign rfl rfl) ?_
      refine TL.end_ ?_
      refine TX.in_normal ?_
      refine TX.then_ ?_
      refine TC.region ?_
      refine TL.val rfl rfl rfl (gives_bin rfl rfl rfl (fun w => bin_add_ (r := ((i + 1 : Nat) : Int)) (by simp only [IntKind.wrap_i64]; omega) w)) ?_
      refine TL.val rfl rfl rfl (gives_move rfl rfl) ?_
      refine TL.end_ ?_
      exact TX.round (⟨(i + 1, (A33, c33), catS (ss.take i) ++ x29.l), by dsimp only; omega, hcm, hA331, hA332⟩) (by show ss.length - (i + 1) < ss.length - i; omega) ⟨rfl, rfl, rfl, rfl, trivial⟩ (fun w1 hw => hw)
    · have q28 := of_decide_eq_false h28
      refine TL.end_ ?_
      refine TX.then_ ?_
      refine TC.seq_ ?_
      refine TC.condF rfl ?_
      refine TC.exit_ ?_
      refine TX.then_exit ?_
      refine TX.then_exit ?_
      refine TX.in_same ?_
      refine TX.then_ ?_
      refine TC.seq_ ?_
      refine TC.region ?_
      refine TL.val rfl rfl rfl (gives_move rfl rfl) ?_
      refine TL.val rfl rfl rfl (gives_assign rfl rfl) ?_
      refine TL.end_ ?_
      refine TX.then_ ?_
      refine TC.ret_ ?_
      have e9 : ss.take i = ss := List.take_of_length_le (by omega)
      rw [e9] at hoc ⊢
      exact ret_tmp Try.results24 rfl (fun w1 hw => ⟨⟨(Ao, co), hoc, hom⟩, rfl, hw.pick [0] (by decide) rfl⟩)
end Go.Proofs.Ytmbcclgnjobikaa
