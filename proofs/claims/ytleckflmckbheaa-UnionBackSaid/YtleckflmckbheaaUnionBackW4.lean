/-
  The walk of SameFacts.
-/
import Derived.Test.YtleckflmckbheaaUnionBackW3
import Derived.Test.YtleckflmckbheaaPu6
namespace Go.Proofs.Ytleckflmckbheaa
open Go.RowKit
set_option linter.unusedVariables false
set_option linter.unusedSimpArgs false
set_option maxRecDepth 20000
theorem usfsz42 (w : World) : (sizeOf 42).run Try.prog w = .ok 3 w := rfl
theorem usfag42 (w : World) : (isAgg 42).run Try.prog w = .ok true w := rfl
set_option maxHeartbeats 1000000 in
theorem sf_any (A0 : Option Addr) (n0 c0 : Nat) (l : List Fc) (w : World) (hr : Reads w w.heap.size 3 A0 n0 (fcs l)) (hl : l.length = n0) (A1 : Option Addr) (n1 c1 : Nat) (m : List Fc) (hr1 : Reads w w.heap.size 3 A1 n1 (fcs m)) (hm : m.length = n1) (hl1 : l.length ≤ 100000) (hm1 : m.length ≤ 100000) :
    Calls Try.prog 25 #[.slice A0 n0 c0, .slice A1 n1 c1] w fun e w' => e = .returned (.bool (decide (l = m))) ∧ Below w.heap.size w w' := by
  subst hl hm
  refine begin_ (vs := [.slice A0 l.length c0, .slice A1 m.length c1]) Try.func25 rfl rfl rfl ?_ (Pm.start w)
  refine TC.seq_ ?_
  refine TC.region ?_
  refine TL.val rfl rfl rfl (gives_assign rfl rfl) ?_
  refine TL.end_ ?_
  refine TX.then_ ?_
  refine TC.seq_ ?_
  refine TC.seq_ ?_
  refine TC.region ?_
  refine TL.val rfl rfl rfl (gives_move rfl rfl) ?_
  refine TL.val rfl rfl rfl (gives_len rfl Try.underlying26 rfl) ?_
  refine TL.val rfl rfl rfl (gives_move rfl rfl) ?_
  refine TL.val rfl rfl rfl (gives_len rfl Try.underlying26 rfl) ?_
  refine TL.vsplit rfl rfl rfl (gives_bin rfl rfl rfl (fun w => bin_neq w)) (fun h10 => ?_) (fun h10 => ?_)
  · have q10 := of_decide_eq_true h10
    have hll : l.length ≠ m.length := by omega
    refine TL.end_ ?_
    refine TX.then_ ?_
    refine TC.condT rfl ?_
    refine TC.seq_ ?_
    refine TC.region ?_
    refine TL.val rfl rfl rfl (gives_assign rfl rfl) ?_
    refine TL.end_ ?_
    refine TX.then_ ?_
    refine TC.ret_ ?_
    refine TX.then_ret ?_
    exact ret_tmp Try.results25 rfl (fun w1 hw => ⟨by rw [decide_eq_false (fun hh => hll (by rw [hh]))], hw.bel⟩)
  · have q10 := of_decide_eq_false h10
    have hll : l.length = m.length := by omega
    refine TL.end_ ?_
    refine TX.then_ ?_
    refine TC.condF rfl ?_
    refine TC.skip_ ?_
    refine TX.then_ ?_
    refine TC.seq_ ?_
    refine TC.seq_ ?_
    refine TC.region ?_
    refine TL.val rfl rfl rfl (gives_assign rfl rfl) ?_
    refine TL.end_ ?_
    refine TX.then_ ?_
    refine TC.block ?_
    refine TC.loop_ (α := {i : Nat // i ≤ l.length ∧ l.take i = m.take i}) (fun y => [(0, .slice A0 l.length c0), (1, .slice A1 m.length c1), (5, .int .i64 ((y.1 : Nat) : Int))]) (fun y => Pm w []) (fun y => l.length - y.1) (⟨0, Nat.zero_le _, rfl⟩) ⟨rfl, rfl, rfl, trivial⟩ (fun w1 hw => hw) ?_
    rintro ⟨i, hi, ht⟩
    dsimp only at hi ht ⊢
    refine TC.seq_ ?_
    refine TC.seq_ ?_
    refine TC.region ?_
    refine TL.val rfl rfl rfl (gives_move rfl rfl) ?_
    refine TL.val rfl rfl rfl (gives_move rfl rfl) ?_
    refine TL.val rfl rfl rfl (gives_len rfl Try.underlying26 rfl) ?_
    refine TL.vsplit rfl rfl rfl (gives_bin rfl rfl rfl (fun w => bin_lss w)) (fun h14 => ?_) (fun h14 => ?_)
    · have q14 := of_decide_eq_true h14
      have hi2 : i < l.length := by omega
      obtain ⟨x, hx⟩ : ∃ x, l[i]? = some x := ⟨_, List.getElem?_eq_getElem hi2⟩
      obtain ⟨b2, o2, hA2, hbb2, hc2⟩ := hr.ad (by omega) (by decide)
      have hi3 : i < m.length := by omega
      obtain ⟨y, hy⟩ : ∃ y, m[i]? = some y := ⟨_, List.getElem?_eq_getElem hi3⟩
      obtain ⟨b3, o3, hA3, hbb3, hc3⟩ := hr1.ad (by omega) (by decide)
      refine TL.end_ ?_
      refine TX.then_ ?_
      refine TC.condT rfl ?_
      refine TC.skip_ ?_
      refine TX.then_ ?_
      refine TC.seq_ ?_
      refine TC.block ?_
      refine TC.seq_ ?_
      rcases Classical.em (x = y) with hxy | hxy
      · have ht2 : l.take (i + 1) = m.take (i + 1) := by rw [List.take_add_one, List.take_add_one, hx, hy, ht, hxy]
        refine TC.quiet_ (E' := ?_) (by kernel_rfl) (by kernel_rfl) (fun w hw => hw.drawn _) ?_ ?_
        rotate_left
        · refine TQ.val rfl rfl rfl (gives_move rfl rfl) ?_
          refine TQ.val rfl rfl rfl (gives_move rfl rfl) ?_
          refine TQ.val rfl rfl rfl (gives_at (v := .pointer (some ⟨b2, o2 + i * 3, none⟩)) rfl rfl rfl (fun w => at_el Try.underlying26 usfsz42 hA2 _ _ i hi2 rfl w)) ?_
          refine TQ.val rfl rfl rfl (gives_loadR rfl rfl usfag42 usfsz42 (fc_cells_len x) (fun w1 hw j u hu => (hw.bel.cell hbb2).trans (fcs_cell hx hc2 j u hu))) ?_
          refine TQ.val rfl rfl rfl (gives_move rfl rfl) ?_
          refine TQ.val rfl rfl rfl (gives_move rfl rfl) ?_
          refine TQ.val rfl rfl rfl (gives_at (v := .pointer (some ⟨b3, o3 + i * 3, none⟩)) rfl rfl rfl (fun w => at_el Try.underlying26 usfsz42 hA3 _ _ i hi3 rfl w)) ?_
          refine TQ.val rfl rfl rfl (gives_loadR rfl rfl usfag42 usfsz42 (fc_cells_len y) (fun w1 hw j u hu => (hw.bel.cell hbb3).trans (fcs_cell hy hc3 j u hu))) ?_
          refine TQ.val rfl rfl rfl (gives_bin2 (v := .bool false) rfl rfl rfl (fun w => fc_neq_is (by rw [decide_eq_true hxy]; rfl) _ _ w)) ?_
          exact TQ.end_
        refine TX.then_ ?_
        refine TC.condF rfl ?_
        refine TC.skip_ ?_
        refine TX.in_normal ?_
        refine TX.then_ ?_
        refine TC.region ?_
        refine TL.val rfl rfl rfl (gives_move rfl rfl) ?_
        refine TL.val rfl rfl rfl (gives_bin rfl rfl rfl (fun w => bin_add_ (r := ((i + 1 : Nat) : Int)) (by simp only [IntKind.wrap_i64]; omega) w)) ?_
        refine TL.val rfl rfl rfl (gives_assign rfl rfl) ?_
        refine TL.end_ ?_
        exact TX.round (⟨i + 1, hi2, ht2⟩) (by show l.length - (i + 1) < l.length - i; omega) ⟨rfl, rfl, rfl, trivial⟩ (fun w1 hw => hw)
      · refine TC.quiet_ (E' := ?_) (by kernel_rfl) (by kernel_rfl) (fun w hw => hw.drawn _) ?_ ?_
        rotate_left
        · refine TQ.val rfl rfl rfl (gives_move rfl rfl) ?_
          refine TQ.val rfl rfl rfl (gives_move rfl rfl) ?_
          refine TQ.val rfl rfl rfl (gives_at (v := .pointer (some ⟨b2, o2 + i * 3, none⟩)) rfl rfl rfl (fun w => at_el Try.underlying26 usfsz42 hA2 _ _ i hi2 rfl w)) ?_
          refine TQ.val rfl rfl rfl (gives_loadR rfl rfl usfag42 usfsz42 (fc_cells_len x) (fun w1 hw j u hu => (hw.bel.cell hbb2).trans (fcs_cell hx hc2 j u hu))) ?_
          refine TQ.val rfl rfl rfl (gives_move rfl rfl) ?_
          refine TQ.val rfl rfl rfl (gives_move rfl rfl) ?_
          refine TQ.val rfl rfl rfl (gives_at (v := .pointer (some ⟨b3, o3 + i * 3, none⟩)) rfl rfl rfl (fun w => at_el Try.underlying26 usfsz42 hA3 _ _ i hi3 rfl w)) ?_
          refine TQ.val rfl rfl rfl (gives_loadR rfl rfl usfag42 usfsz42 (fc_cells_len y) (fun w1 hw j u hu => (hw.bel.cell hbb3).trans (fcs_cell hy hc3 j u hu))) ?_
          refine TQ.val rfl rfl rfl (gives_bin2 (v := .bool true) rfl rfl rfl (fun w => fc_neq_is (by rw [decide_eq_false hxy]; rfl) _ _ w)) ?_
          exact TQ.end_
        refine TX.then_ ?_
        refine TC.condT rfl ?_
        refine TC.seq_ ?_
        refine TC.region ?_
        refine TL.val rfl rfl rfl (gives_assign rfl rfl) ?_
        refine TL.end_ ?_
        refine TX.then_ ?_
        refine TC.ret_ ?_
        refine TX.in_ret ?_
        refine TX.then_ret ?_
        refine TX.then_ret ?_
        refine TX.in_ret ?_
        refine TX.then_ret ?_
        exact ret_tmp Try.results25 rfl (fun w1 hw => ⟨by rw [decide_eq_false (fun hh => hxy (by subst hh; rw [hx] at hy; injection hy))], hw.bel⟩)
    · have q14 := of_decide_eq_false h14
      refine TL.end_ ?_
      refine TX.then_ ?_
      refine TC.condF rfl ?_
      refine TC.exit_ ?_
      refine TX.then_exit ?_
      refine TX.then_exit ?_
      refine TX.in_same ?_
      refine TX.then_ ?_
      refine TC.seq_ ?_
      refine TC.region ?_
      refine TL.val rfl rfl rfl (gives_assign rfl rfl) ?_
      refine TL.end_ ?_
      refine TX.then_ ?_
      refine TC.ret_ ?_
      exact ret_tmp Try.results25 rfl (fun w1 hw => ⟨by rw [decide_eq_true (by rw [List.take_of_length_le (by omega), List.take_of_length_le (by omega)] at ht; exact ht)], hw.bel⟩)
theorem sf_is (A0 : Option Addr) (n0 c0 : Nat) (l : List Fc) (w : World) (hr : Reads w w.heap.size 3 A0 n0 (fcs l)) (hl : l.length = n0) (A1 : Option Addr) (n1 c1 : Nat) (m : List Fc) (hr1 : Reads w w.heap.size 3 A1 n1 (fcs m)) (hm : m.length = n1) (hl1 : l.length ≤ 100000) (hm1 : m.length ≤ 100000) {t : Bool} (ht : decide (l = m) = t) :
    Calls Try.prog 25 #[.slice A0 n0 c0, .slice A1 n1 c1] w fun e w' => e = .returned (.bool t) ∧ Below w.heap.size w w' := by
  subst ht
  exact sf_any A0 n0 c0 l w hr hl A1 n1 c1 m hr1 hm hl1 hm1
end Go.Proofs.Ytleckflmckbheaa
