/-
  Texts of the proof, joined: PtCpt, SymOrd, PtOrd, SymCopy, PtROrd, PtTrc, PtOf, AnBl, AnDel, AnSt, AnBh, BdAddr, BdReg, AnDt.
-/
import Derived.Test.YtijmpjfafpodhaaGreatAnomalyQuietPk2
import Derived.Test.YtijmpjfafpodhaaGreatAnomalyQuietPk1
import Derived.Lib.Overlaps
set_option linter.unusedVariables false
set_option linter.unusedSimpArgs false
namespace Go.Proofs.YtijmpjfafpodhaaGreat
open Go.RowKit
set_option maxRecDepth 20000
def Trc.zero : Trc := ⟨0, 0, 0⟩
theorem pcpag32 (w : World) : (isAgg 32).run Tryz.prog w = .ok true w := rfl
set_option maxHeartbeats 1000000 in
theorem compactRs_g (g n c : Nat) (xs : List Rs) (w : World) (h : RwG 65 17 w g n c (flat Rs.cells xs)) (hl : xs.length = n) (hn : n ≤ 1000000) :
    Calls Tryz.prog 134 #[.slice (some ⟨g, 0, none⟩) n c] w fun en w' => en = .returned (.slice (some ⟨g, 0, none⟩) (cptG xs).length c) ∧ RwG 65 17 w' g (cptG xs).length c (flat Rs.cells (cptG xs)) ∧ w.grownBy w' (some g) := by
  have hcap := h.obj.2.1
  have hmax := h.obj.2.2
  refine begin_ (vs := [.slice (some ⟨g, 0, none⟩) n c]) (I := Pm ⟨wbut w g, g⟩ (.row (.slice (some ⟨g, 0, none⟩) n c) 65 17 n (flat Rs.cells xs) :: oths g w)) Tryz.func134 rfl rfl rfl ?_ (Pm.rowStartG h)
  refine TC.seq_ ?_
  refine TC.region ?_
  refine TL.val rfl rfl rfl (gives_assign rfl rfl) ?_
  refine TL.end_ ?_
  refine TX.then_ ?_
  refine TC.seq_ ?_
  refine TC.seq_ ?_
  refine TC.region ?_
  refine TL.val rfl rfl rfl (gives_move rfl rfl) ?_
  refine TL.val rfl rfl rfl (gives_len rfl Tryz.underlying23 rfl) ?_
  refine TL.vsplit rfl rfl rfl (gives_bin rfl rfl rfl (fun w => bin_lss w)) (fun h8 => ?_) (fun h8 => ?_)
  · have q8 := of_decide_eq_true h8
    have hE : cptG xs = xs := cptG_short (by omega)
    refine TL.end_ ?_
    refine TX.then_ ?_
    refine TC.condT rfl ?_
    refine TC.seq_ ?_
    refine TC.region ?_
    refine TL.val rfl rfl rfl (gives_move rfl rfl) ?_
    refine TL.val rfl rfl rfl (gives_assign rfl rfl) ?_
    refine TL.end_ ?_
    refine TX.then_ ?_
    refine TC.ret_ ?_
    refine TX.then_ret ?_
    exact ret_tmp Tryz.results134 rfl (fun w1 hw => by rw [hE, hl]; exact ⟨rfl, pm_rowAtG hw (k := 0) rfl, hw.mapEnd (fun q hq => by simp [hq])⟩)
  · have q8 := of_decide_eq_false h8
    refine TL.end_ ?_
    refine TX.then_ ?_
    refine TC.condF rfl ?_
    refine TC.skip_ ?_
    refine TX.then_ ?_
    refine TC.seq_ ?_
    refine TC.seq_ ?_
    refine TC.region ?_
    refine TL.val rfl rfl rfl (gives_assign rfl rfl) ?_
    refine TL.end_ ?_
    refine TX.then_ ?_
    refine TC.block ?_
    refine TC.loop_ (α := {k : Nat // 1 ≤ k ∧ k ≤ n ∧ cptG (xs.take k) = xs.take k}) (fun y => [(0, .slice (some ⟨g, 0, none⟩) n c), (3, .int .i64 ((y.1 : Nat) : Int))]) (fun y => Pm ⟨wbut w g, g⟩ ([.row (.slice (some ⟨g, 0, none⟩) n c) 65 17 n (flat Rs.cells xs)] ++ oths g w)) (fun y => n - y.1) (⟨1, Nat.le_refl _, by omega, cptG_take1 xs⟩) ⟨rfl, rfl, trivial⟩ (fun w1 hw => hw) ?_
    rintro ⟨k0, hk1, hk2, hK⟩
    try dsimp only
    refine TC.seq_ ?_
    refine TC.seq_ ?_
    refine TC.region ?_
    refine TL.val rfl rfl rfl (gives_move rfl rfl) ?_
    refine TL.val rfl rfl rfl (gives_move rfl rfl) ?_
    refine TL.val rfl rfl rfl (gives_len rfl Tryz.underlying23 rfl) ?_
    refine TL.vsplit rfl rfl rfl (gives_bin rfl rfl rfl (fun w => bin_lss w)) (fun h13 => ?_) (fun h13 => ?_)
    · have q13 := of_decide_eq_true h13
      refine TL.end_ ?_
      refine TX.then_ ?_
      refine TC.condT rfl ?_
      refine TC.skip_ ?_
      refine TX.then_ ?_
      refine TC.seq_ ?_
      refine TC.block ?_
      refine TC.seq_ ?_
      refine TC.quietQ (by kernel_rfl) (by kernel_rfl) (fun w hw => hw.drawn _) ?_
      refine TQ.val rfl rfl rfl (gives_move rfl rfl) ?_
      refine TQ.val rfl rfl rfl (gives_move rfl rfl) ?_
      have hi18 : k0 < xs.length := by omega
      obtain ⟨x18, hx18⟩ : ∃ x18, xs[k0]? = some x18 := ⟨_, List.getElem?_eq_getElem hi18⟩
      refine TQ.val rfl rfl rfl (gives_at (v := .pointer (some ⟨g, 0 + k0 * 17, none⟩)) rfl rfl rfl (fun w => at_el Tryz.underlying23 prssz65 rfl _ _ k0 (by omega) rfl w)) ?_
      refine TQ.val rfl rfl rfl (gives_loadR (off := 0 + k0 * 17) rfl rfl prsag65 prssz65 (rs_cel.len x18) (fun w1 hw j9 u9 h9 => flat_row rs_cel hw (q := 0) rfl hx18 j9 u9 h9)) ?_
      refine TQ.val rfl rfl rfl (gives_move rfl rfl) ?_
      refine TQ.val rfl rfl rfl (gives_move rfl rfl) ?_
      refine TQ.val rfl rfl rfl (gives_bin rfl rfl rfl (fun w => bin_sub_ (r := ((k0 - 1 : Nat) : Int)) (by simp only [IntKind.wrap_i64]; omega) w)) ?_
      have hi23 : k0 - 1 < xs.length := by omega
      obtain ⟨x23, hx23⟩ : ∃ x23, xs[k0 - 1]? = some x23 := ⟨_, List.getElem?_eq_getElem hi23⟩
      refine TQ.val rfl rfl rfl (gives_at (v := .pointer (some ⟨g, 0 + (k0 - 1) * 17, none⟩)) rfl rfl rfl (fun w => at_el Tryz.underlying23 prssz65 rfl _ _ (k0 - 1) (by omega) rfl w)) ?_
      refine TQ.val rfl rfl rfl (gives_loadR (off := 0 + (k0 - 1) * 17) rfl rfl prsag65 prssz65 (rs_cel.len x23) (fun w1 hw j9 u9 h9 => flat_row rs_cel hw (q := 0) rfl hx23 j9 u9 h9)) ?_
      refine TQ.vsplit rfl rfl rfl (gives_bin2 rfl rfl rfl (fun w => rs_eql x18 x23 _ _ w)) (fun h25 => ?_) (fun h25 => ?_)
      · have q25 := of_decide_eq_true h25
        have hst := cptG_step hx18 hx23 hk1
        have hK2 : cptG (xs.take (k0 + 1)) = xs.take k0 := by rw [hst, if_pos q25.symm]; exact hK
        refine TQ.fin ?_
        refine TX.then_ ?_
        refine TC.condT rfl ?_
        refine TC.seq_ ?_
        refine TC.region ?_
        refine TL.val rfl rfl rfl (gives_move rfl rfl) ?_
        refine TL.val rfl rfl rfl (gives_move rfl rfl) ?_
        refine TL.val rfl rfl rfl (gives_tailF (q := k0) rfl rfl rfl rfl Tryz.underlying23 prssz65 (by omega) (by omega)) ?_
        refine TL.val rfl rfl rfl (gives_assign rfl rfl) ?_
        refine TL.end_ ?_
        refine TX.then_ ?_
        refine TC.seq_ ?_
        refine TC.seq_ ?_
        refine TC.region ?_
        refine TL.val rfl rfl rfl (gives_assign rfl rfl) ?_
        refine TL.end_ ?_
        refine TX.then_ ?_
        refine TC.block ?_
        refine TC.loop_ (α := {y : Nat × Nat × List Rs // (1 ≤ y.2.1 ∧ y.2.1 ≤ n - k0 ∧ k0 ≤ y.1 ∧ y.1 ≤ k0 + y.2.1 - 1) ∧ y.2.2.length = n ∧ (∀ p, k0 + y.2.1 - 1 ≤ p → y.2.2[p]? = xs[p]?) ∧ y.2.2.take y.1 = cptG (xs.take (k0 + y.2.1))}) (fun y => [(0, .slice (some ⟨g, 0, none⟩) n c), (3, .int .i64 ((y.1.1 : Nat) : Int)), (4, .slice (some ⟨g, k0 * 17, none⟩) (n - k0) (c - k0)), (5, .int .i64 ((y.1.2.1 : Nat) : Int))]) (fun y => Pm ⟨wbut w g, g⟩ ([.row (.slice (some ⟨g, 0, none⟩) n c) 65 17 n (flat Rs.cells y.1.2.2)] ++ oths g w)) (fun y => n - y.1.2.1) (⟨(k0, 1, xs), by dsimp only; omega, hl, fun p _ => rfl, hK2.symm⟩) ⟨rfl, rfl, rfl, rfl, trivial⟩ (fun w1 hw => hw) ?_
        rintro ⟨⟨k, j, ys⟩, ⟨hj1, hj2, hj3, hj4⟩, hly, hI, hT⟩
        dsimp only at hj1 hj2 hj3 hj4 hly hI hT ⊢
        refine TC.seq_ ?_
        refine TC.seq_ ?_
        refine TC.region ?_
        refine TL.val rfl rfl rfl (gives_move rfl rfl) ?_
        refine TL.val rfl rfl rfl (gives_move rfl rfl) ?_
        refine TL.val rfl rfl rfl (gives_len rfl Tryz.underlying23 rfl) ?_
        refine TL.vsplit rfl rfl rfl (gives_bin rfl rfl rfl (fun w => bin_lss w)) (fun h32 => ?_) (fun h32 => ?_)
        · have q32 := of_decide_eq_true h32
          refine TL.end_ ?_
          refine TX.then_ ?_
          refine TC.condT rfl ?_
          refine TC.skip_ ?_
          refine TX.then_ ?_
          refine TC.seq_ ?_
          refine TC.block ?_
          refine TC.seq_ ?_
          refine TC.quietQ (by kernel_rfl) (by kernel_rfl) (fun w hw => hw.drawn _) ?_
          refine TQ.val rfl rfl rfl (gives_move rfl rfl) ?_
          refine TQ.val rfl rfl rfl (gives_move rfl rfl) ?_
          have hi37 : (k0 + j) < ys.length := by omega
          obtain ⟨x37, hx37⟩ : ∃ x37, ys[(k0 + j)]? = some x37 := ⟨_, List.getElem?_eq_getElem hi37⟩
          refine TQ.val rfl rfl rfl (gives_at (v := .pointer (some ⟨g, 0 + (k0 + j) * 17, none⟩)) rfl rfl rfl (fun w => at_elT Tryz.underlying23 prssz65 g k0 _ _ j (by omega) rfl w)) ?_
          refine TQ.val rfl rfl rfl (gives_loadR (off := 0 + (k0 + j) * 17) rfl rfl prsag65 prssz65 (rs_cel.len x37) (fun w1 hw j9 u9 h9 => flat_row rs_cel hw (q := 0) rfl hx37 j9 u9 h9)) ?_
          refine TQ.val rfl rfl rfl (gives_move rfl rfl) ?_
          refine TQ.val rfl rfl rfl (gives_move rfl rfl) ?_
          refine TQ.val rfl rfl rfl (gives_bin rfl rfl rfl (fun w => bin_sub_ (r := ((j - 1 : Nat) : Int)) (by simp only [IntKind.wrap_i64]; omega) w)) ?_
          have hi42 : (k0 + (j - 1)) < ys.length := by omega
          obtain ⟨x42, hx42⟩ : ∃ x42, ys[(k0 + (j - 1))]? = some x42 := ⟨_, List.getElem?_eq_getElem hi42⟩
          refine TQ.val rfl rfl rfl (gives_at (v := .pointer (some ⟨g, 0 + (k0 + (j - 1)) * 17, none⟩)) rfl rfl rfl (fun w => at_elT Tryz.underlying23 prssz65 g k0 _ _ (j - 1) (by omega) rfl w)) ?_
          refine TQ.val rfl rfl rfl (gives_loadR (off := 0 + (k0 + (j - 1)) * 17) rfl rfl prsag65 prssz65 (rs_cel.len x42) (fun w1 hw j9 u9 h9 => flat_row rs_cel hw (q := 0) rfl hx42 j9 u9 h9)) ?_
          refine TQ.vsplit rfl rfl rfl (gives_bin2 rfl rfl rfl (fun w => rs_neqd x37 x42 _ _ w)) (fun h44 => ?_) (fun h44 => ?_)
          · have q44 := of_decide_eq_true h44
            have hst := cptG_step (by rw [← hI _ (by omega)]; exact hx37) (by rw [← hI _ (by omega), show k0 + j - 1 = k0 + (j - 1) by omega]; exact hx42) (by omega : 1 ≤ k0 + j)
            have hc1 : ∀ p, k0 + (j + 1) - 1 ≤ p → (ys.set k x37)[p]? = xs[p]? := fun p hp => by rw [List.getElem?_set_ne (by omega)]; exact hI p (by omega)
            have hc2 : (ys.set k x37).take (k + 1) = cptG (xs.take (k0 + (j + 1))) := by
              rw [List.take_add_one, List.take_set_of_le (Nat.le_refl _), List.getElem?_set_self (by omega), hT, show k0 + (j + 1) = k0 + j + 1 from rfl, hst, if_neg (fun hh => q44 hh.symm)]; rfl
            refine TQ.fin ?_
            refine TX.then_ ?_
            refine TC.condT rfl ?_
            refine TC.seq_ ?_
            refine TC.region ?_
            refine TL.val rfl rfl rfl (gives_move rfl rfl) ?_
            refine TL.val rfl rfl rfl (gives_move rfl rfl) ?_
            refine TL.val rfl rfl rfl (gives_move rfl rfl) ?_
            refine TL.val rfl rfl rfl (gives_move rfl rfl) ?_
            refine TL.val rfl rfl rfl (gives_at (v := .pointer (some ⟨g, 0 + (k0 + j) * 17, none⟩)) rfl rfl rfl (fun w => at_elT Tryz.underlying23 prssz65 g k0 _ _ j (by omega) rfl w)) ?_
            refine TL.val rfl rfl rfl (gives_loadR (off := 0 + (k0 + j) * 17) rfl rfl prsag65 prssz65 (rs_cel.len x37) (fun w1 hw j9 u9 h9 => flat_row rs_cel hw (q := 0) rfl hx37 j9 u9 h9)) ?_
            have hi51 : k < ys.length := by omega
            obtain ⟨x51, hx51⟩ : ∃ x51, ys[k]? = some x51 := ⟨_, List.getElem?_eq_getElem hi51⟩
            refine TL.val rfl rfl rfl (gives_at (v := .pointer (some ⟨g, 0 + k * 17, none⟩)) rfl rfl rfl (fun w => at_el Tryz.underlying23 prssz65 rfl _ _ k (by omega) rfl w)) ?_
            refine TL.rowset (k := 0) (vs := x37.cells) (xs' := flat Rs.cells (ys.set k x37)) rfl rfl rfl rfl rfl rfl rfl prssz65 (rs_cel.one _) (by rw [flat_len rs_cel]; show 0 + k * 17 + 17 ≤ _; omega) (flat_put rs_cel (q := 0) (y := x37) hx51 (by show 0 + 17 ≤ 17; decide) rfl) ?_
            try dsimp only [List.set_cons_zero, List.set_cons_succ]
            refine TL.end_ ?_
            refine TX.then_ ?_
            refine TC.region ?_
            refine TL.val rfl rfl rfl (gives_move rfl rfl) ?_
            refine TL.val rfl rfl rfl (gives_bin rfl rfl rfl (fun w => bin_add_ (r := ((k + 1 : Nat) : Int)) (by simp only [IntKind.wrap_i64]; omega) w)) ?_
            refine TL.val rfl rfl rfl (gives_assign rfl rfl) ?_
            refine TL.end_ ?_
            refine TX.in_normal ?_
            refine TX.then_ ?_
            refine TC.region ?_
            refine TL.val rfl rfl rfl (gives_move rfl rfl) ?_
            refine TL.val rfl rfl rfl (gives_bin rfl rfl rfl (fun w => bin_add_ (r := ((j + 1 : Nat) : Int)) (by simp only [IntKind.wrap_i64]; omega) w)) ?_
            refine TL.val rfl rfl rfl (gives_assign rfl rfl) ?_
            refine TL.end_ ?_
            exact TX.round (⟨(k + 1, j + 1, ys.set k x37), by dsimp only; omega, by rw [List.length_set]; exact hly, hc1, hc2⟩) (by show n - (j + 1) < n - j; omega) ⟨rfl, rfl, rfl, rfl, trivial⟩ (fun w1 hw => hw)
          · have q44 := of_decide_eq_false h44
            have hst := cptG_step (by rw [← hI _ (by omega)]; exact hx37) (by rw [← hI _ (by omega), show k0 + j - 1 = k0 + (j - 1) by omega]; exact hx42) (by omega : 1 ≤ k0 + j)
            have hd1 : ∀ p, k0 + (j + 1) - 1 ≤ p → ys[p]? = xs[p]? := fun p hp => hI p (by omega)
            have hd2 : ys.take k = cptG (xs.take (k0 + (j + 1))) := by rw [hT, show k0 + (j + 1) = k0 + j + 1 from rfl, hst, if_pos (Decidable.not_not.1 q44).symm]
            refine TQ.fin ?_
            refine TX.then_ ?_
            refine TC.condF rfl ?_
            refine TC.skip_ ?_
            refine TX.in_normal ?_
            refine TX.then_ ?_
            refine TC.region ?_
            refine TL.val rfl rfl rfl (gives_move rfl rfl) ?_
            refine TL.val rfl rfl rfl (gives_bin rfl rfl rfl (fun w => bin_add_ (r := ((j + 1 : Nat) : Int)) (by simp only [IntKind.wrap_i64]; omega) w)) ?_
            refine TL.val rfl rfl rfl (gives_assign rfl rfl) ?_
            refine TL.end_ ?_
            exact TX.round (⟨(k, j + 1, ys), by dsimp only; omega, hly, hd1, hd2⟩) (by show n - (j + 1) < n - j; omega) ⟨rfl, rfl, rfl, rfl, trivial⟩ (fun w1 hw => hw)
        · have q32 := of_decide_eq_false h32
          obtain rfl : j = n - k0 := by omega
          have hC : ys.take k = cptG xs := by rw [hT, List.take_of_length_le (by omega)]
          refine TL.end_ ?_
          refine TX.then_ ?_
          refine TC.condF rfl ?_
          refine TC.exit_ ?_
          refine TX.then_exit ?_
          refine TX.then_exit ?_
          refine TX.in_same ?_
          refine TX.then_ ?_
          refine TC.seq_ ?_
          refine TC.region ?_
          refine TL.val rfl rfl rfl (gives_move rfl rfl) ?_
          refine TL.val rfl rfl rfl (gives_move rfl rfl) ?_
          refine TL.val rfl rfl rfl (gives_tailF (q := k) rfl rfl rfl rfl Tryz.underlying23 prssz65 (by omega) (by omega)) ?_
          refine TL.clearF rs_cel (kk := 0) (q := k) (z := Rs.zero) rfl rfl rfl rfl Tryz.underlying23 arpzv65 (by omega) (by omega) rfl ?_
          try dsimp only [List.set_cons_zero]
          refine TL.end_ ?_
          refine TX.then_ ?_
          refine TC.seq_ ?_
          refine TC.region ?_
          refine TL.val rfl rfl rfl (gives_move rfl rfl) ?_
          refine TL.val rfl rfl rfl (gives_move rfl rfl) ?_
          refine TL.headF rs_cel (kk := 0) (hi := k) rfl rfl rfl rfl rfl rfl Tryz.underlying23 prssz65 rfl (by omega) (by omega) ?_
          try dsimp only [List.set_cons_zero]
          refine TL.val rfl rfl rfl (gives_assign rfl rfl) ?_
          refine TL.end_ ?_
          refine TX.then_ ?_
          refine TC.ret_ ?_
          refine TX.in_ret ?_
          refine TX.then_ret ?_
          refine TX.then_ret ?_
          refine TX.in_ret ?_
          refine TX.then_ret ?_
          have hfin : (ys.take k ++ List.replicate (n - k) Rs.zero).take k = cptG xs := by rw [List.take_left' (by rw [List.length_take]; omega)]; exact hC
          have hkl : (cptG xs).length = k := by rw [← hC, List.length_take]; omega
          rw [hfin]
          exact ret_tmp Tryz.results134 rfl (fun w1 hw => ⟨by rw [hkl], by rw [hkl]; exact (pm_rowAtG hw (k := 0) rfl), hw.mapEnd (fun q hq => by simp [hq])⟩)
      · have q25 := of_decide_eq_false h25
        have hst := cptG_step hx18 hx23 hk1
        have hK2 : cptG (xs.take (k0 + 1)) = xs.take (k0 + 1) := by rw [hst, if_neg (fun hh => q25 hh.symm), hK, List.take_add_one, hx18]; rfl
        refine TQ.fin ?_
        refine TX.then_ ?_
        refine TC.condF rfl ?_
        refine TC.skip_ ?_
        refine TX.in_normal ?_
        refine TX.then_ ?_
        refine TC.region ?_
        refine TL.val rfl rfl rfl (gives_move rfl rfl) ?_
        refine TL.val rfl rfl rfl (gives_bin rfl rfl rfl (fun w => bin_add_ (r := ((k0 + 1 : Nat) : Int)) (by simp only [IntKind.wrap_i64]; omega) w)) ?_
        refine TL.val rfl rfl rfl (gives_assign rfl rfl) ?_
        refine TL.end_ ?_
        exact TX.round (⟨k0 + 1, by omega, by omega, hK2⟩) (by show n - (k0 + 1) < n - k0; omega) ⟨rfl, rfl, trivial⟩ (fun w1 hw => hw)
    · have q13 := of_decide_eq_false h13
      obtain rfl : k0 = n := by omega
      have hE : cptG xs = xs := by rw [List.take_of_length_le (by omega)] at hK; exact hK
      refine TL.end_ ?_
      refine TX.then_ ?_
      refine TC.condF rfl ?_
      refine TC.exit_ ?_
      refine TX.then_exit ?_
      refine TX.then_exit ?_
      refine TX.in_same ?_
      refine TX.then_ ?_
      refine TC.seq_ ?_
      refine TC.region ?_
      refine TL.val rfl rfl rfl (gives_move rfl rfl) ?_
      refine TL.val rfl rfl rfl (gives_assign rfl rfl) ?_
      refine TL.end_ ?_
      refine TX.then_ ?_
      refine TC.ret_ ?_
      exact ret_tmp Tryz.results134 rfl (fun w1 hw => by rw [hE, hl]; exact ⟨rfl, pm_rowAtG hw (k := 0) rfl, hw.mapEnd (fun q hq => by simp [hq])⟩)
set_option maxHeartbeats 1000000 in
theorem compactRs_nil (w : World) : Calls Tryz.prog 134 #[.slice none 0 0] w fun en w' => en = .returned (.slice none 0 0) ∧ Below w.heap.size w w' := by
  refine begin_ (vs := [.slice none 0 0]) Tryz.func134 rfl rfl rfl ?_ (Pm.start w)
  refine TC.seq_ ?_
  refine TC.region ?_
  refine TL.val rfl rfl rfl (gives_assign rfl rfl) ?_
  refine TL.end_ ?_
  refine TX.then_ ?_
  refine TC.seq_ ?_
  refine TC.seq_ ?_
  refine TC.region ?_
  refine TL.val rfl rfl rfl (gives_move rfl rfl) ?_
  refine TL.val rfl rfl rfl (gives_len rfl Tryz.underlying23 rfl) ?_
  refine TL.val rfl rfl rfl (gives_bin rfl rfl rfl (fun w => bin_lss_t (by decide) w)) ?_
  refine TL.end_ ?_
  refine TX.then_ ?_
  refine TC.condT rfl ?_
  refine TC.seq_ ?_
  refine TC.region ?_
  refine TL.val rfl rfl rfl (gives_move rfl rfl) ?_
  refine TL.val rfl rfl rfl (gives_assign rfl rfl) ?_
  refine TL.end_ ?_
  refine TX.then_ ?_
  refine TC.ret_ ?_
  refine TX.then_ret ?_
  exact ret_tmp Tryz.results134 rfl (fun w1 hw => ⟨rfl, hw.bel⟩)
theorem compactRs {b n cap : Nat} {A : Option Addr} {l : List Rs} {w : World} (hr : w.ownsRow b 65 17 (.slice A n cap) n (flat Rs.cells l)) (hl : l.length = n) (hn : n ≤ 1000000) :
    Calls Tryz.prog 134 #[.slice A n cap] w fun en w' => en = .returned (.slice A (cptG l).length cap) ∧ w'.ownsRow b 65 17 (.slice A (cptG l).length cap) (cptG l).length (flat Rs.cells (cptG l)) ∧ w.grownBy w' (Value.ownBlock (.slice A n cap)) := by
  rcases id hr.2 with ⟨hv, h0⟩ | ⟨q, cap', cur, hv, hb, hq, h1, h2, h3, h4⟩
  · cases hv
    obtain rfl : l = [] := List.eq_nil_of_length_eq_zero (by omega)
    refine (compactRs_nil w).mono fun en w' ⟨h5, h6⟩ => ⟨h5, ⟨rfl, .inl ⟨rfl, rfl⟩⟩, ?_⟩
    exact ⟨h6.os, h6.tape, h6.output, h6.size, fun k hk _ => h6.block k hk⟩
  · cases hv
    refine (compactRs_g q n cap l w ⟨hr.1, .inr ⟨q, cap, cur, rfl, Nat.le_refl _, hq, h1, h2, h3, h4⟩⟩ hl hn).mono fun en w' ⟨h5, h6, h7⟩ => ⟨h5, ⟨h6.1, ?_⟩, h7⟩
    rcases h6.2 with ⟨e1, _⟩ | ⟨q', c2, cur2, e1, e2, e3⟩
    · cases e1
    · cases e1
      exact .inr ⟨q, cap, cur2, rfl, hb, e3⟩
set_option maxHeartbeats 1000000 in
theorem compactTrc_g (g n c : Nat) (xs : List Trc) (w : World) (h : RwG 32 3 w g n c (flat Trc.cells xs)) (hl : xs.length = n) (hn : n ≤ 1000000) :
    Calls Tryz.prog 138 #[.slice (some ⟨g, 0, none⟩) n c] w fun en w' => en = .returned (.slice (some ⟨g, 0, none⟩) (cptG xs).length c) ∧ RwG 32 3 w' g (cptG xs).length c (flat Trc.cells (cptG xs)) ∧ w.grownBy w' (some g) := by
  have hcap := h.obj.2.1
  have hmax := h.obj.2.2
  refine begin_ (vs := [.slice (some ⟨g, 0, none⟩) n c]) (I := Pm ⟨wbut w g, g⟩ (.row (.slice (some ⟨g, 0, none⟩) n c) 32 3 n (flat Trc.cells xs) :: oths g w)) Tryz.func138 rfl rfl rfl ?_ (Pm.rowStartG h)
  refine TC.seq_ ?_
  refine TC.region ?_
  refine TL.val rfl rfl rfl (gives_assign rfl rfl) ?_
  refine TL.end_ ?_
  refine TX.then_ ?_
  refine TC.seq_ ?_
  refine TC.seq_ ?_
  refine TC.region ?_
  refine TL.val rfl rfl rfl (gives_move rfl rfl) ?_
  refine TL.val rfl rfl rfl (gives_len rfl Tryz.underlying128 rfl) ?_
  refine TL.vsplit rfl rfl rfl (gives_bin rfl rfl rfl (fun w => bin_lss w)) (fun h8 => ?_) (fun h8 => ?_)
  · have q8 := of_decide_eq_true h8
    have hE : cptG xs = xs := cptG_short (by omega)
    refine TL.end_ ?_
    refine TX.then_ ?_
    refine TC.condT rfl ?_
    refine TC.seq_ ?_
    refine TC.region ?_
    refine TL.val rfl rfl rfl (gives_move rfl rfl) ?_
    refine TL.val rfl rfl rfl (gives_assign rfl rfl) ?_
    refine TL.end_ ?_
    refine TX.then_ ?_
    refine TC.ret_ ?_
    refine TX.then_ret ?_
    exact ret_tmp Tryz.results138 rfl (fun w1 hw => by rw [hE, hl]; exact ⟨rfl, pm_rowAtG hw (k := 0) rfl, hw.mapEnd (fun q hq => by simp [hq])⟩)
  · have q8 := of_decide_eq_false h8
    refine TL.end_ ?_
    refine TX.then_ ?_
    refine TC.condF rfl ?_
    refine TC.skip_ ?_
    refine TX.then_ ?_
    refine TC.seq_ ?_
    refine TC.seq_ ?_
    refine TC.region ?_
    refine TL.val rfl rfl rfl (gives_assign rfl rfl) ?_
    refine TL.end_ ?_
    refine TX.then_ ?_
    refine TC.block ?_
    refine TC.loop_ (α := {k : Nat // 1 ≤ k ∧ k ≤ n ∧ cptG (xs.take k) = xs.take k}) (fun y => [(0, .slice (some ⟨g, 0, none⟩) n c), (3, .int .i64 ((y.1 : Nat) : Int))]) (fun y => Pm ⟨wbut w g, g⟩ ([.row (.slice (some ⟨g, 0, none⟩) n c) 32 3 n (flat Trc.cells xs)] ++ oths g w)) (fun y => n - y.1) (⟨1, Nat.le_refl _, by omega, cptG_take1 xs⟩) ⟨rfl, rfl, trivial⟩ (fun w1 hw => hw) ?_
    rintro ⟨k0, hk1, hk2, hK⟩
    try dsimp only
    refine TC.seq_ ?_
    refine TC.seq_ ?_
    refine TC.region ?_
    refine TL.val rfl rfl rfl (gives_move rfl rfl) ?_
    refine TL.val rfl rfl rfl (gives_move rfl rfl) ?_
    refine TL.val rfl rfl rfl (gives_len rfl Tryz.underlying128 rfl) ?_
    refine TL.vsplit rfl rfl rfl (gives_bin rfl rfl rfl (fun w => bin_lss w)) (fun h13 => ?_) (fun h13 => ?_)
    · have q13 := of_decide_eq_true h13
      refine TL.end_ ?_
      refine TX.then_ ?_
      refine TC.condT rfl ?_
      refine TC.skip_ ?_
      refine TX.then_ ?_
      refine TC.seq_ ?_
      refine TC.block ?_
      refine TC.seq_ ?_
      refine TC.quietQ (by kernel_rfl) (by kernel_rfl) (fun w hw => hw.drawn _) ?_
      refine TQ.val rfl rfl rfl (gives_move rfl rfl) ?_
      refine TQ.val rfl rfl rfl (gives_move rfl rfl) ?_
      have hi18 : k0 < xs.length := by omega
      obtain ⟨x18, hx18⟩ : ∃ x18, xs[k0]? = some x18 := ⟨_, List.getElem?_eq_getElem hi18⟩
      refine TQ.val rfl rfl rfl (gives_at (v := .pointer (some ⟨g, 0 + k0 * 3, none⟩)) rfl rfl rfl (fun w => at_el Tryz.underlying128 prssz32 rfl _ _ k0 (by omega) rfl w)) ?_
      refine TQ.val rfl rfl rfl (gives_loadR (off := 0 + k0 * 3) rfl rfl pcpag32 prssz32 (trc_cel.len x18) (fun w1 hw j9 u9 h9 => flat_row trc_cel hw (q := 0) rfl hx18 j9 u9 h9)) ?_
      refine TQ.val rfl rfl rfl (gives_move rfl rfl) ?_
      refine TQ.val rfl rfl rfl (gives_move rfl rfl) ?_
      refine TQ.val rfl rfl rfl (gives_bin rfl rfl rfl (fun w => bin_sub_ (r := ((k0 - 1 : Nat) : Int)) (by simp only [IntKind.wrap_i64]; omega) w)) ?_
      have hi23 : k0 - 1 < xs.length := by omega
      obtain ⟨x23, hx23⟩ : ∃ x23, xs[k0 - 1]? = some x23 := ⟨_, List.getElem?_eq_getElem hi23⟩
      refine TQ.val rfl rfl rfl (gives_at (v := .pointer (some ⟨g, 0 + (k0 - 1) * 3, none⟩)) rfl rfl rfl (fun w => at_el Tryz.underlying128 prssz32 rfl _ _ (k0 - 1) (by omega) rfl w)) ?_
      refine TQ.val rfl rfl rfl (gives_loadR (off := 0 + (k0 - 1) * 3) rfl rfl pcpag32 prssz32 (trc_cel.len x23) (fun w1 hw j9 u9 h9 => flat_row trc_cel hw (q := 0) rfl hx23 j9 u9 h9)) ?_
      refine TQ.vsplit rfl rfl rfl (gives_bin2 rfl rfl rfl (fun w => trc_eql x18 x23 _ _ w)) (fun h25 => ?_) (fun h25 => ?_)
      · have q25 := of_decide_eq_true h25
        have hst := cptG_step hx18 hx23 hk1
        have hK2 : cptG (xs.take (k0 + 1)) = xs.take k0 := by rw [hst, if_pos q25.symm]; exact hK
        refine TQ.fin ?_
        refine TX.then_ ?_
        refine TC.condT rfl ?_
        refine TC.seq_ ?_
        refine TC.region ?_
        refine TL.val rfl rfl rfl (gives_move rfl rfl) ?_
        refine TL.val rfl rfl rfl (gives_move rfl rfl) ?_
        refine TL.val rfl rfl rfl (gives_tailF (q := k0) rfl rfl rfl rfl Tryz.underlying128 prssz32 (by omega) (by omega)) ?_
        refine TL.val rfl rfl rfl (gives_assign rfl rfl) ?_
        refine TL.end_ ?_
        refine TX.then_ ?_
        refine TC.seq_ ?_
        refine TC.seq_ ?_
        refine TC.region ?_
        refine TL.val rfl rfl rfl (gives_assign rfl rfl) ?_
        refine TL.end_ ?_
        refine TX.then_ ?_
        refine TC.block ?_
        refine TC.loop_ (α := {y : Nat × Nat × List Trc // (1 ≤ y.2.1 ∧ y.2.1 ≤ n - k0 ∧ k0 ≤ y.1 ∧ y.1 ≤ k0 + y.2.1 - 1) ∧ y.2.2.length = n ∧ (∀ p, k0 + y.2.1 - 1 ≤ p → y.2.2[p]? = xs[p]?) ∧ y.2.2.take y.1 = cptG (xs.take (k0 + y.2.1))}) (fun y => [(0, .slice (some ⟨g, 0, none⟩) n c), (3, .int .i64 ((y.1.1 : Nat) : Int)), (4, .slice (some ⟨g, k0 * 3, none⟩) (n - k0) (c - k0)), (5, .int .i64 ((y.1.2.1 : Nat) : Int))]) (fun y => Pm ⟨wbut w g, g⟩ ([.row (.slice (some ⟨g, 0, none⟩) n c) 32 3 n (flat Trc.cells y.1.2.2)] ++ oths g w)) (fun y => n - y.1.2.1) (⟨(k0, 1, xs), by dsimp only; omega, hl, fun p _ => rfl, hK2.symm⟩) ⟨rfl, rfl, rfl, rfl, trivial⟩ (fun w1 hw => hw) ?_
        rintro ⟨⟨k, j, ys⟩, ⟨hj1, hj2, hj3, hj4⟩, hly, hI, hT⟩
        dsimp only at hj1 hj2 hj3 hj4 hly hI hT ⊢
        refine TC.seq_ ?_
        refine TC.seq_ ?_
        refine TC.region ?_
        refine TL.val rfl rfl rfl (gives_move rfl rfl) ?_
        refine TL.val rfl rfl rfl (gives_move rfl rfl) ?_
        refine TL.val rfl rfl rfl (gives_len rfl Tryz.underlying128 rfl) ?_
        refine TL.vsplit rfl rfl rfl (gives_bin rfl rfl rfl (fun w => bin_lss w)) (fun h32 => ?_) (fun h32 => ?_)
        · have q32 := of_decide_eq_true h32
          refine TL.end_ ?_
          refine TX.then_ ?_
          refine TC.condT rfl ?_
          refine TC.skip_ ?_
          refine TX.then_ ?_
          refine TC.seq_ ?_
          refine TC.block ?_
          refine TC.seq_ ?_
          refine TC.quietQ (by kernel_rfl) (by kernel_rfl) (fun w hw => hw.drawn _) ?_
          refine TQ.val rfl rfl rfl (gives_move rfl rfl) ?_
          refine TQ.val rfl rfl rfl (gives_move rfl rfl) ?_
          have hi37 : (k0 + j) < ys.length := by omega
          obtain ⟨x37, hx37⟩ : ∃ x37, ys[(k0 + j)]? = some x37 := ⟨_, List.getElem?_eq_getElem hi37⟩
          refine TQ.val rfl rfl rfl (gives_at (v := .pointer (some ⟨g, 0 + (k0 + j) * 3, none⟩)) rfl rfl rfl (fun w => at_elT Tryz.underlying128 prssz32 g k0 _ _ j (by omega) rfl w)) ?_
          refine TQ.val rfl rfl rfl (gives_loadR (off := 0 + (k0 + j) * 3) rfl rfl pcpag32 prssz32 (trc_cel.len x37) (fun w1 hw j9 u9 h9 => flat_row trc_cel hw (q := 0) rfl hx37 j9 u9 h9)) ?_
          refine TQ.val rfl rfl rfl (gives_move rfl rfl) ?_
          refine TQ.val rfl rfl rfl (gives_move rfl rfl) ?_
          refine TQ.val rfl rfl rfl (gives_bin rfl rfl rfl (fun w => bin_sub_ (r := ((j - 1 : Nat) : Int)) (by simp only [IntKind.wrap_i64]; omega) w)) ?_
          have hi42 : (k0 + (j - 1)) < ys.length := by omega
          obtain ⟨x42, hx42⟩ : ∃ x42, ys[(k0 + (j - 1))]? = some x42 := ⟨_, List.getElem?_eq_getElem hi42⟩
          refine TQ.val rfl rfl rfl (gives_at (v := .pointer (some ⟨g, 0 + (k0 + (j - 1)) * 3, none⟩)) rfl rfl rfl (fun w => at_elT Tryz.underlying128 prssz32 g k0 _ _ (j - 1) (by omega) rfl w)) ?_
          refine TQ.val rfl rfl rfl (gives_loadR (off := 0 + (k0 + (j - 1)) * 3) rfl rfl pcpag32 prssz32 (trc_cel.len x42) (fun w1 hw j9 u9 h9 => flat_row trc_cel hw (q := 0) rfl hx42 j9 u9 h9)) ?_
          refine TQ.vsplit rfl rfl rfl (gives_bin2 rfl rfl rfl (fun w => trc_neqd x37 x42 _ _ w)) (fun h44 => ?_) (fun h44 => ?_)
          · have q44 := of_decide_eq_true h44
            have hst := cptG_step (by rw [← hI _ (by omega)]; exact hx37) (by rw [← hI _ (by omega), show k0 + j - 1 = k0 + (j - 1) by omega]; exact hx42) (by omega : 1 ≤ k0 + j)
            have hc1 : ∀ p, k0 + (j + 1) - 1 ≤ p → (ys.set k x37)[p]? = xs[p]? := fun p hp => by rw [List.getElem?_set_ne (by omega)]; exact hI p (by omega)
            have hc2 : (ys.set k x37).take (k + 1) = cptG (xs.take (k0 + (j + 1))) := by
              rw [List.take_add_one, List.take_set_of_le (Nat.le_refl _), List.getElem?_set_self (by omega), hT, show k0 + (j + 1) = k0 + j + 1 from rfl, hst, if_neg (fun hh => q44 hh.symm)]; rfl
            refine TQ.fin ?_
            refine TX.then_ ?_
            refine TC.condT rfl ?_
            refine TC.seq_ ?_
            refine TC.region ?_
            refine TL.val rfl rfl rfl (gives_move rfl rfl) ?_
            refine TL.val rfl rfl rfl (gives_move rfl rfl) ?_
            refine TL.val rfl rfl rfl (gives_move rfl rfl) ?_
            refine TL.val rfl rfl rfl (gives_move rfl rfl) ?_
            refine TL.val rfl rfl rfl (gives_at (v := .pointer (some ⟨g, 0 + (k0 + j) * 3, none⟩)) rfl rfl rfl (fun w => at_elT Tryz.underlying128 prssz32 g k0 _ _ j (by omega) rfl w)) ?_
            refine TL.val rfl rfl rfl (gives_loadR (off := 0 + (k0 + j) * 3) rfl rfl pcpag32 prssz32 (trc_cel.len x37) (fun w1 hw j9 u9 h9 => flat_row trc_cel hw (q := 0) rfl hx37 j9 u9 h9)) ?_
            have hi51 : k < ys.length := by omega
            obtain ⟨x51, hx51⟩ : ∃ x51, ys[k]? = some x51 := ⟨_, List.getElem?_eq_getElem hi51⟩
            refine TL.val rfl rfl rfl (gives_at (v := .pointer (some ⟨g, 0 + k * 3, none⟩)) rfl rfl rfl (fun w => at_el Tryz.underlying128 prssz32 rfl _ _ k (by omega) rfl w)) ?_
            refine TL.rowset (k := 0) (vs := x37.cells) (xs' := flat Trc.cells (ys.set k x37)) rfl rfl rfl rfl rfl rfl rfl prssz32 (trc_cel.one _) (by rw [flat_len trc_cel]; show 0 + k * 3 + 3 ≤ _; omega) (flat_put trc_cel (q := 0) (y := x37) hx51 (by show 0 + 3 ≤ 3; decide) rfl) ?_
            try dsimp only [List.set_cons_zero, List.set_cons_succ]
            refine TL.end_ ?_
            refine TX.then_ ?_
            refine TC.region ?_
            refine TL.val rfl rfl rfl (gives_move rfl rfl) ?_
            refine TL.val rfl rfl rfl (gives_bin rfl rfl rfl (fun w => bin_add_ (r := ((k + 1 : Nat) : Int)) (by simp only [IntKind.wrap_i64]; omega) w)) ?_
            refine TL.val rfl rfl rfl (gives_assign rfl rfl) ?_
            refine TL.end_ ?_
            refine TX.in_normal ?_
            refine TX.then_ ?_
            refine TC.region ?_
            refine TL.val rfl rfl rfl (gives_move rfl rfl) ?_
            refine TL.val rfl rfl rfl (gives_bin rfl rfl rfl (fun w => bin_add_ (r := ((j + 1 : Nat) : Int)) (by simp only [IntKind.wrap_i64]; omega) w)) ?_
            refine TL.val rfl rfl rfl (gives_assign rfl rfl) ?_
            refine TL.end_ ?_
            exact TX.round (⟨(k + 1, j + 1, ys.set k x37), by dsimp only; omega, by rw [List.length_set]; exact hly, hc1, hc2⟩) (by show n - (j + 1) < n - j; omega) ⟨rfl, rfl, rfl, rfl, trivial⟩ (fun w1 hw => hw)
          · have q44 := of_decide_eq_false h44
            have hst := cptG_step (by rw [← hI _ (by omega)]; exact hx37) (by rw [← hI _ (by omega), show k0 + j - 1 = k0 + (j - 1) by omega]; exact hx42) (by omega : 1 ≤ k0 + j)
            have hd1 : ∀ p, k0 + (j + 1) - 1 ≤ p → ys[p]? = xs[p]? := fun p hp => hI p (by omega)
            have hd2 : ys.take k = cptG (xs.take (k0 + (j + 1))) := by rw [hT, show k0 + (j + 1) = k0 + j + 1 from rfl, hst, if_pos (Decidable.not_not.1 q44).symm]
            refine TQ.fin ?_
            refine TX.then_ ?_
            refine TC.condF rfl ?_
            refine TC.skip_ ?_
            refine TX.in_normal ?_
            refine TX.then_ ?_
            refine TC.region ?_
            refine TL.val rfl rfl rfl (gives_move rfl rfl) ?_
            refine TL.val rfl rfl rfl (gives_bin rfl rfl rfl (fun w => bin_add_ (r := ((j + 1 : Nat) : Int)) (by simp only [IntKind.wrap_i64]; omega) w)) ?_
            refine TL.val rfl rfl rfl (gives_assign rfl rfl) ?_
            refine TL.end_ ?_
            exact TX.round (⟨(k, j + 1, ys), by dsimp only; omega, hly, hd1, hd2⟩) (by show n - (j + 1) < n - j; omega) ⟨rfl, rfl, rfl, rfl, trivial⟩ (fun w1 hw => hw)
        · have q32 := of_decide_eq_false h32
          obtain rfl : j = n - k0 := by omega
          have hC : ys.take k = cptG xs := by rw [hT, List.take_of_length_le (by omega)]
          refine TL.end_ ?_
          refine TX.then_ ?_
          refine TC.condF rfl ?_
          refine TC.exit_ ?_
          refine TX.then_exit ?_
          refine TX.then_exit ?_
          refine TX.in_same ?_
          refine TX.then_ ?_
          refine TC.seq_ ?_
          refine TC.region ?_
          refine TL.val rfl rfl rfl (gives_move rfl rfl) ?_
          refine TL.val rfl rfl rfl (gives_move rfl rfl) ?_
          refine TL.val rfl rfl rfl (gives_tailF (q := k) rfl rfl rfl rfl Tryz.underlying128 prssz32 (by omega) (by omega)) ?_
          refine TL.clearF trc_cel (kk := 0) (q := k) (z := Trc.zero) rfl rfl rfl rfl Tryz.underlying128 prszv32 (by omega) (by omega) rfl ?_
          try dsimp only [List.set_cons_zero]
          refine TL.end_ ?_
          refine TX.then_ ?_
          refine TC.seq_ ?_
          refine TC.region ?_
          refine TL.val rfl rfl rfl (gives_move rfl rfl) ?_
          refine TL.val rfl rfl rfl (gives_move rfl rfl) ?_
          refine TL.headF trc_cel (kk := 0) (hi := k) rfl rfl rfl rfl rfl rfl Tryz.underlying128 prssz32 rfl (by omega) (by omega) ?_
          try dsimp only [List.set_cons_zero]
          refine TL.val rfl rfl rfl (gives_assign rfl rfl) ?_
          refine TL.end_ ?_
          refine TX.then_ ?_
          refine TC.ret_ ?_
          refine TX.in_ret ?_
          refine TX.then_ret ?_
          refine TX.then_ret ?_
          refine TX.in_ret ?_
          refine TX.then_ret ?_
          have hfin : (ys.take k ++ List.replicate (n - k) Trc.zero).take k = cptG xs := by rw [List.take_left' (by rw [List.length_take]; omega)]; exact hC
          have hkl : (cptG xs).length = k := by rw [← hC, List.length_take]; omega
          rw [hfin]
          exact ret_tmp Tryz.results138 rfl (fun w1 hw => ⟨by rw [hkl], by rw [hkl]; exact (pm_rowAtG hw (k := 0) rfl), hw.mapEnd (fun q hq => by simp [hq])⟩)
      · have q25 := of_decide_eq_false h25
        have hst := cptG_step hx18 hx23 hk1
        have hK2 : cptG (xs.take (k0 + 1)) = xs.take (k0 + 1) := by rw [hst, if_neg (fun hh => q25 hh.symm), hK, List.take_add_one, hx18]; rfl
        refine TQ.fin ?_
        refine TX.then_ ?_
        refine TC.condF rfl ?_
        refine TC.skip_ ?_
        refine TX.in_normal ?_
        refine TX.then_ ?_
        refine TC.region ?_
        refine TL.val rfl rfl rfl (gives_move rfl rfl) ?_
        refine TL.val rfl rfl rfl (gives_bin rfl rfl rfl (fun w => bin_add_ (r := ((k0 + 1 : Nat) : Int)) (by simp only [IntKind.wrap_i64]; omega) w)) ?_
        refine TL.val rfl rfl rfl (gives_assign rfl rfl) ?_
        refine TL.end_ ?_
        exact TX.round (⟨k0 + 1, by omega, by omega, hK2⟩) (by show n - (k0 + 1) < n - k0; omega) ⟨rfl, rfl, trivial⟩ (fun w1 hw => hw)
    · have q13 := of_decide_eq_false h13
      obtain rfl : k0 = n := by omega
      have hE : cptG xs = xs := by rw [List.take_of_length_le (by omega)] at hK; exact hK
      refine TL.end_ ?_
      refine TX.then_ ?_
      refine TC.condF rfl ?_
      refine TC.exit_ ?_
      refine TX.then_exit ?_
      refine TX.then_exit ?_
      refine TX.in_same ?_
      refine TX.then_ ?_
      refine TC.seq_ ?_
      refine TC.region ?_
      refine TL.val rfl rfl rfl (gives_move rfl rfl) ?_
      refine TL.val rfl rfl rfl (gives_assign rfl rfl) ?_
      refine TL.end_ ?_
      refine TX.then_ ?_
      refine TC.ret_ ?_
      exact ret_tmp Tryz.results138 rfl (fun w1 hw => by rw [hE, hl]; exact ⟨rfl, pm_rowAtG hw (k := 0) rfl, hw.mapEnd (fun q hq => by simp [hq])⟩)
set_option maxHeartbeats 1000000 in
theorem compactTrc_nil (w : World) : Calls Tryz.prog 138 #[.slice none 0 0] w fun en w' => en = .returned (.slice none 0 0) ∧ Below w.heap.size w w' := by
  refine begin_ (vs := [.slice none 0 0]) Tryz.func138 rfl rfl rfl ?_ (Pm.start w)
  refine TC.seq_ ?_
  refine TC.region ?_
  refine TL.val rfl rfl rfl (gives_assign rfl rfl) ?_
  refine TL.end_ ?_
  refine TX.then_ ?_
  refine TC.seq_ ?_
  refine TC.seq_ ?_
  refine TC.region ?_
  refine TL.val rfl rfl rfl (gives_move rfl rfl) ?_
  refine TL.val rfl rfl rfl (gives_len rfl Tryz.underlying128 rfl) ?_
  refine TL.val rfl rfl rfl (gives_bin rfl rfl rfl (fun w => bin_lss_t (by decide) w)) ?_
  refine TL.end_ ?_
  refine TX.then_ ?_
  refine TC.condT rfl ?_
  refine TC.seq_ ?_
  refine TC.region ?_
  refine TL.val rfl rfl rfl (gives_move rfl rfl) ?_
  refine TL.val rfl rfl rfl (gives_assign rfl rfl) ?_
  refine TL.end_ ?_
  refine TX.then_ ?_
  refine TC.ret_ ?_
  refine TX.then_ret ?_
  exact ret_tmp Tryz.results138 rfl (fun w1 hw => ⟨rfl, hw.bel⟩)
theorem compactTrc {b n cap : Nat} {A : Option Addr} {l : List Trc} {w : World} (hr : w.ownsRow b 32 3 (.slice A n cap) n (flat Trc.cells l)) (hl : l.length = n) (hn : n ≤ 1000000) :
    Calls Tryz.prog 138 #[.slice A n cap] w fun en w' => en = .returned (.slice A (cptG l).length cap) ∧ w'.ownsRow b 32 3 (.slice A (cptG l).length cap) (cptG l).length (flat Trc.cells (cptG l)) ∧ w.grownBy w' (Value.ownBlock (.slice A n cap)) := by
  rcases id hr.2 with ⟨hv, h0⟩ | ⟨q, cap', cur, hv, hb, hq, h1, h2, h3, h4⟩
  · cases hv
    obtain rfl : l = [] := List.eq_nil_of_length_eq_zero (by omega)
    refine (compactTrc_nil w).mono fun en w' ⟨h5, h6⟩ => ⟨h5, ⟨rfl, .inl ⟨rfl, rfl⟩⟩, ?_⟩
    exact ⟨h6.os, h6.tape, h6.output, h6.size, fun k hk _ => h6.block k hk⟩
  · cases hv
    refine (compactTrc_g q n cap l w ⟨hr.1, .inr ⟨q, cap, cur, rfl, Nat.le_refl _, hq, h1, h2, h3, h4⟩⟩ hl hn).mono fun en w' ⟨h5, h6, h7⟩ => ⟨h5, ⟨h6.1, ?_⟩, h7⟩
    rcases h6.2 with ⟨e1, _⟩ | ⟨q', c2, cur2, e1, e2, e3⟩
    · cases e1
    · cases e1
      exact .inr ⟨q, cap, cur2, rfl, hb, e3⟩
end Go.Proofs.YtijmpjfafpodhaaGreat

namespace Go.Proofs.YtijmpjfafpodhaaGreat
open Go.RowKit
section
variable {α : Type} {key : α → List Int} {n : Nat}
def AscK (key : α → List Int) (l : List α) : Prop := l.Pairwise fun x y => lexI (key x) (key y) < 0
theorem ltK_irrefl (x : α) : ¬ lexI (key x) (key x) < 0 := by rw [lexI_self]; omega
theorem ltK_trans (hk : ∀ x, (key x).length = n) {x y z : α} (h1 : lexI (key x) (key y) < 0) (h2 : lexI (key y) (key z) < 0) : lexI (key x) (key z) < 0 :=
  (lexI_trans (by rw [hk, hk]) (by rw [hk, hk]) (by omega) (by omega)).2 (.inl h1)
theorem ltK_asymm (hk : ∀ x, (key x).length = n) {x y : α} (h1 : lexI (key x) (key y) < 0) (h2 : lexI (key y) (key x) < 0) : False := ltK_irrefl x (ltK_trans hk h1 h2)
theorem posK (hk : ∀ x, (key x).length = n) {x y : α} : 0 < lexI (key x) (key y) ↔ lexI (key y) (key x) < 0 := (lexI_swap (by rw [hk, hk])).symm
theorem ascK_eq (hk : ∀ x, (key x).length = n) : ∀ {a b : List α}, AscK key a → AscK key b → (∀ x, x ∈ a ↔ x ∈ b) → a = b
  | [], [], _, _, _ => rfl
  | [], y :: b, _, _, h => absurd ((h y).2 List.mem_cons_self) List.not_mem_nil
  | x :: a, [], _, _, h => absurd ((h x).1 List.mem_cons_self) List.not_mem_nil
  | x :: a, y :: b, ha, hb, h => by
    obtain ⟨a1, a2⟩ := List.pairwise_cons.1 ha
    obtain ⟨b1, b2⟩ := List.pairwise_cons.1 hb
    have hxy : x = y := by
      rcases List.mem_cons.1 ((h x).1 List.mem_cons_self) with e | e
      · exact e
      · rcases List.mem_cons.1 ((h y).2 List.mem_cons_self) with e2 | e2
        · exact e2.symm
        · exact (ltK_asymm hk (a1 y e2) (b1 x e)).elim
    subst hxy
    rw [ascK_eq hk a2 b2 fun z => ?_]
    constructor
    · intro hz
      rcases List.mem_cons.1 ((h z).1 (List.mem_cons_of_mem _ hz)) with e | e
      · subst e; exact absurd (a1 z hz) (ltK_irrefl z)
      · exact e
    · intro hz
      rcases List.mem_cons.1 ((h z).2 (List.mem_cons_of_mem _ hz)) with e | e
      · subst e; exact absurd (b1 z hz) (ltK_irrefl z)
      · exact e
theorem cptG_asc [DecidableEq α] (hk : ∀ x, (key x).length = n) : ∀ (l : List α), l.Pairwise (fun x y => ¬ lexI (key y) (key x) < 0) → (∀ x ∈ l, ∀ y ∈ l, key x = key y → x = y) → AscK key (cptG l)
  | [], _, _ => List.Pairwise.nil
  | [a], _, _ => List.pairwise_singleton _ _
  | a :: b :: l, h, hi => by
    obtain ⟨h1, h2⟩ := List.pairwise_cons.1 h
    have ih := cptG_asc hk (b :: l) h2 fun x hx y hy => hi x (List.mem_cons_of_mem _ hx) y (List.mem_cons_of_mem _ hy)
    rw [cptG]
    split
    · exact ih
    · rename_i hne
      refine List.pairwise_cons.2 ⟨fun y hy => ?_, ih⟩
      have hy2 := (mem_cptG y (b :: l)).1 hy
      have hle : ∀ z, z ∈ b :: l → lexI (key a) (key z) ≤ 0 := fun z hz => by
        have e1 := h1 z hz
        have e2 := @posK _ key n hk a z
        omega
      have hab : lexI (key a) (key b) < 0 := by
        have e0 := hle b List.mem_cons_self
        rcases Int.lt_or_eq_of_le e0 with e | e
        · exact e
        · exact absurd (hi a List.mem_cons_self b (List.mem_cons_of_mem _ List.mem_cons_self) ((lexI_zero (by rw [hk, hk])).1 e)) hne
      have hby : lexI (key b) (key y) ≤ 0 := by
        rcases List.mem_cons.1 hy2 with e | e
        · rw [e, lexI_self]; exact Int.le_refl _
        · have e1 := (List.pairwise_cons.1 h2).1 y e
          have e2 := @posK _ key n hk b y
          omega
      exact (lexI_trans (by rw [hk, hk]) (by rw [hk, hk]) (by omega) hby).2 (.inl hab)
theorem ascK_put (hk : ∀ x, (key x).length = n) {o : List α} {q : Nat} {x : α} (h : AscK key o) (h1 : ∀ y ∈ o.take q, lexI (key y) (key x) < 0) (h2 : ∀ y ∈ o.drop q, lexI (key x) (key y) < 0) : AscK key (o.take q ++ x :: o.drop q) := by
  refine List.pairwise_append.2 ⟨h.sublist (List.take_sublist _ _), List.pairwise_cons.2 ⟨h2, h.sublist (List.drop_sublist _ _)⟩, fun a ha b hb => ?_⟩
  rcases List.mem_cons.1 hb with e | e
  · rw [e]; exact h1 a ha
  · exact ltK_trans hk (h1 a ha) (h2 b e)
theorem mem_put {o : List α} {q : Nat} {x z : α} : z ∈ o.take q ++ x :: o.drop q ↔ z ∈ o ∨ z = x := by
  rw [List.mem_append, List.mem_cons]
  have : z ∈ o ↔ z ∈ o.take q ∨ z ∈ o.drop q := by rw [← List.mem_append, List.take_append_drop]
  rw [this]
  constructor
  · rintro (h | h | h)
    · exact .inl (.inl h)
    · exact .inr h
    · exact .inl (.inr h)
  · rintro ((h | h) | h)
    · exact .inl h
    · exact .inr (.inr h)
    · exact .inr (.inl h)
end
end Go.Proofs.YtijmpjfafpodhaaGreat

namespace Go.Proofs.YtijmpjfafpodhaaGreat
open Go.RowKit
set_option maxRecDepth 20000
theorem filt_snoc_t {α : Type} {p : α → Bool} {l out : List α} {i : Nat} {x : α} (hx : l[i]? = some x) (h : p x = true) (ho : (l.take i).filter p = out) : (l.take (i + 1)).filter p = out ++ [x] := by
  rw [List.take_add_one, hx, List.filter_append, ho]
  simp [h]
theorem filt_snoc_f {α : Type} {p : α → Bool} {l out : List α} {i : Nat} {x : α} (hx : l[i]? = some x) (h : p x = false) (ho : (l.take i).filter p = out) : (l.take (i + 1)).filter p = out := by
  rw [List.take_add_one, hx, List.filter_append, ho]
  simp [h]
def IsOrd (l o : List Rs) : Prop := AscK Rs.keys o ∧ ∀ x, x ∈ o ↔ x ∈ l ∧ vldRs x = true
theorem keys_len (x : Rs) : x.keys.length = 17 := rfl
theorem IsOrd.eq {l o o' : List Rs} (h : IsOrd l o) (h' : IsOrd l o') : o = o' := ascK_eq keys_len h.1 h'.1 fun x => by rw [h.2, h'.2]
theorem keys_inj {x y : Rs} (hx : x.Ok) (hy : y.Ok) (h : x.keys = y.keys) : x = y := by
  obtain ⟨a1, a2, a3, a4⟩ := hx
  obtain ⟨b1, b2, b3, b4⟩ := hy
  have w1 : ∀ z : Int, 0 ≤ z → z ≤ 4294967295 → IntKind.i64.wrap z = z := fun z h0 h1 => by simp only [IntKind.wrap_i64]; omega
  have hb : ∀ p q : Bool, b2i p = b2i q → p = q := fun p q => by cases p <;> cases q <;> decide
  simp only [Rs.keys, List.cons.injEq, and_true] at h
  rw [w1 _ a1 a2, w1 _ b1 b2, w1 _ a3 a4, w1 _ b3 b4] at h
  obtain ⟨v, run, num, at_, dst, proto, flow, ttl, ans, dbl, back, src, kind, code, left, id, quo⟩ := x
  obtain ⟨v', run', num', at', dst', proto', flow', ttl', ans', dbl', back', src', kind', code', left', id', quo'⟩ := y
  simp only at h
  obtain ⟨h1, h2, h3, h4, h5, h6, h7, h8, h9, h10, h11, h12, h13, h14, h15, h16, h17⟩ := h
  have h9 := hb _ _ h9
  have h10 := hb _ _ h10
  subst h1 h2 h3 h4 h5 h6 h7 h8 h9 h10 h11 h12 h13 h14 h15 h16 h17
  rfl
theorem isOrd_of {l o s : List Rs} (hok : ∀ r ∈ l, r.Ok) (ho : l.filter vldRs = o) (hs : Sorted cmpRs o s) : IsOrd l (cptG s) := by
  have hm : ∀ x, x ∈ s ↔ x ∈ l ∧ vldRs x = true := fun x => by rw [hs.1.mem_iff, ← ho, List.mem_filter]
  refine ⟨cptG_asc keys_len s hs.2 fun x hx y hy h => keys_inj (hok x ((hm x).1 hx).1) (hok y ((hm y).1 hy).1) h, fun x => by rw [mem_cptG, hm]⟩
theorem porbs23_1_99505 (a0_0 : Int) (a0_1 : Int) (a0_2 : Int) (a0_3 : Int) (a0_4 : Int) (a0_5 : Int) (a0_6 : Int) (a0_7 : Int) (a0_8 : Bool) (a0_9 : Bool) (a0_10 : Int) (a0_11 : Int) (a0_12 : Int) (a0_13 : Int) (a0_14 : Int) (a0_15 : Int) (a0_16 : Int) (w : World) : (Instr.buildSlice 23 1 #[(0, .agg #[.int .i64 a0_0, .int .i64 a0_1, .int .i64 a0_2, .int .i64 a0_3, .int .u32 a0_4, .int .i64 a0_5, .int .i64 a0_6, .int .i64 a0_7, .bool a0_8, .bool a0_9, .int .i64 a0_10, .int .u32 a0_11, .int .i64 a0_12, .int .i64 a0_13, .int .i64 a0_14, .int .i64 a0_15, .int .i64 a0_16])]).run Tryz.prog w = .ok (.slice (some ⟨w.heap.size, 0, none⟩) 1 1) (w.alloc (.cells [.int .i64 a0_0, .int .i64 a0_1, .int .i64 a0_2, .int .i64 a0_3, .int .u32 a0_4, .int .i64 a0_5, .int .i64 a0_6, .int .i64 a0_7, .bool a0_8, .bool a0_9, .int .i64 a0_10, .int .u32 a0_11, .int .i64 a0_12, .int .i64 a0_13, .int .i64 a0_14, .int .i64 a0_15, .int .i64 a0_16].toArray 65)) := by kernel_rfl
theorem porel23 : Elem Tryz.prog 23 65 17 128 := Elem.mk' Tryz.underlying23 (z := .agg #[.int .i64 0, .int .i64 0, .int .i64 0, .int .i64 0, .int .u32 0, .int .i64 0, .int .i64 0, .int .i64 0, .bool false, .bool false, .int .i64 0, .int .u32 0, .int .i64 0, .int .i64 0, .int .i64 0, .int .i64 0, .int .i64 0]) (by kernel_rfl) rfl (by omega) (by omega)
theorem pornm132 : (Tryz.f132.name == "runtime.NumGoroutine") = false := by decide
theorem porbd132 : Tryz.f132.body.isNone = false := rfl
theorem pornm134 : (Tryz.f134.name == "runtime.NumGoroutine") = false := by decide
theorem porbd134 : Tryz.f134.body.isNone = false := rfl
set_option maxHeartbeats 1000000 in
theorem ord_any (A0 : Option Addr) (c0 : Nat) (l : List Rs) (w : World) (hr : Reads w w.heap.size 17 A0 l.length (flat Rs.cells l)) (hl1 : l.length ≤ 100000) (hok : ∀ r ∈ l, r.Ok) :
    Calls Tryz.prog 88 #[.slice A0 l.length c0] w fun e w' => ∃ x : {y : (Option Addr × Nat) × List Rs // IsOrd l y.2 ∧ y.2.length ≤ y.1.2 ∧ y.1.2 ≤ maxLen}, e = .returned (.slice x.1.1.1 x.1.2.length x.1.1.2) ∧ Pm w [.row (.slice x.1.1.1 x.1.2.length x.1.1.2) 65 17 x.1.2.length (flat Rs.cells x.1.2)] w' := by
  refine begin_ (vs := [.slice A0 l.length c0]) Tryz.func88 rfl rfl rfl ?_ (Pm.start w)
  refine TC.seq_ ?_
  refine TC.region ?_
  refine TL.val rfl rfl rfl (gives_assign rfl rfl) ?_
  refine TL.end_ ?_
  refine TX.then_ ?_
  refine TC.seq_ ?_
  refine TC.region ?_
  refine TL.val rfl rfl rfl (gives_assign rfl rfl) ?_
  refine TL.end_ ?_
  refine TX.then_ ?_
  refine TC.seq_ ?_
  refine TC.seq_ ?_
  refine TC.region ?_
  refine TL.val rfl rfl rfl (gives_move rfl rfl) ?_
  refine TL.val rfl rfl rfl (gives_len rfl Tryz.underlying23 rfl) ?_
  refine TL.val rfl rfl rfl (gives_move rfl rfl) ?_
  refine TL.end_ ?_
  refine TX.then_ ?_
  refine TC.block ?_
  refine TC.nilrow 65 17 ?_
  refine TC.loop_ (α := {y : Nat × (Option Addr × Nat) × List Rs // y.1 ≤ l.length ∧ ((l.take y.1).filter vldRs = y.2.2) ∧ y.2.2.length ≤ y.1 ∧ y.2.2.length ≤ y.2.1.2 ∧ y.2.1.2 ≤ maxLen}) (fun y => [(2, .slice none 0 0), (6, .slice A0 l.length c0), (7, .int .i64 (l.length : Nat)), (8, .int .i64 ((y.1.1 : Nat) : Int)), (3, .slice y.1.2.1.1 y.1.2.2.length y.1.2.1.2)]) (fun y => Pm w [.row (.slice y.1.2.1.1 y.1.2.2.length y.1.2.1.2) 65 17 y.1.2.2.length (flat Rs.cells y.1.2.2)]) (fun y => l.length - y.1.1) (⟨(0, (none, 0), []), Nat.zero_le _, rfl, Nat.le_refl _, Nat.le_refl _, Nat.zero_le _⟩) ⟨rfl, rfl, rfl, rfl, rfl, trivial⟩ (fun w1 hw => hw) ?_
  rintro ⟨⟨i, ⟨Ao, co⟩, out⟩, hi, hout, houtl, houtc, houtm⟩
  dsimp only at hi hout houtl houtc houtm ⊢
  refine TC.seq_ ?_
  refine TC.region ?_
  refine TL.vsplit rfl rfl rfl (gives_bin rfl rfl rfl (fun w => bin_lss w)) (fun h9 => ?_) (fun h9 => ?_)
  · have q9 := of_decide_eq_true h9
    refine TL.end_ ?_
    refine TX.then_ ?_
    refine TC.seq_ ?_
    refine TC.condT rfl ?_
    refine TC.skip_ ?_
    refine TX.then_ ?_
    refine TC.seq_ ?_
    refine TC.block ?_
    refine TC.seq_ ?_
    refine TC.region ?_
    have hi10 : i < l.length := by omega
    obtain ⟨x10, hx10⟩ : ∃ x10, l[i]? = some x10 := ⟨_, List.getElem?_eq_getElem hi10⟩
    obtain ⟨b10, o10, hA10, hbb10, hc10⟩ := hr.ad (by omega) (by decide)
    refine TL.val rfl rfl rfl (gives_at (v := .pointer (some ⟨b10, o10 + i * 17, none⟩)) rfl rfl rfl (fun w => at_el Tryz.underlying23 prssz65 hA10 _ _ i (by omega) rfl w)) ?_
    refine TL.val rfl rfl rfl (gives_loadR (off := o10 + i * 17) rfl rfl prsag65 prssz65 (rs_cel.len x10) (fun w1 hw j9 u9 h9 => (hw.bel.cell hbb10).trans <| flat_cell rs_cel hx10 hc10 j9 u9 h9)) ?_
    refine TL.pnew rfl rfl rfl (exec_alloc (cs := [.int .i64 0, .int .i64 0, .int .i64 0, .int .i64 0, .int .u32 0, .int .i64 0, .int .i64 0, .int .i64 0, .bool false, .bool false, .int .i64 0, .int .u32 0, .int .i64 0, .int .i64 0, .int .i64 0, .int .i64 0, .int .i64 0]) rfl arpzv65 rfl) (fun g5 => ?_)
    refine TL.pstore (k := 0) (vs := x10.cells) rfl rfl rfl rfl rfl rfl rfl prssz65 (rs_cel.one _) (by show 17 ≤ 17; decide) (L' := [.blk g5 65 x10.cells, .row (.slice Ao out.length co) 65 17 out.length (flat Rs.cells out)]) rfl ?_
    refine TL.end_ ?_
    refine TX.then_ ?_
    refine TC.seq_ ?_
    refine TC.region ?_
    refine TL.val rfl rfl rfl (pm_loadV (k := 0) (i := 0) (n := 17) (v := .agg (x10.cells).toArray) rfl rfl prsag65 prssz65 rfl (by show 17 ≤ 17; decide) rfl) ?_
    refine TL.callsplit rfl rfl rfl rfl rfl Tryz.func70 prsnm70 prsbd70 (fun w1 hw => vldRs_any x10 w1) (fun h13 => ?_) (fun h13 => ?_)
    · refine TL.end_ ?_
      refine TX.then_ ?_
      refine TC.condT rfl ?_
      refine TC.region ?_
      refine TL.val rfl rfl rfl (gives_move rfl rfl) ?_
      refine TL.val rfl rfl rfl (pm_loadV (k := 0) (i := 0) (n := 17) (v := .agg (x10.cells).toArray) rfl rfl prsag65 prssz65 rfl (by show 17 ≤ 17; decide) rfl) ?_
      refine TL.prowS (e := 65) (size := 17) (cs := flat Rs.cells [x10]) rfl rfl rfl rfl rfl (fun w => porbs23_1_99505 _ _ _ _ _ _ _ _ _ _ _ _ _ _ _ _ _ w) (by decide) rfl (fun g16 => ?_)
      refine TL.appendT (k := 2) rfl rfl rfl rfl Tryz.underlying23 porel23 rfl rfl rfl (fun w1 hw => pm_reads hw (k := 0) rfl) (flat_one rs_cel _) (by show _ * 128 ≤ _; omega) ((out ++ [x10]).length) (by rw [List.length_append]; rfl) (flat Rs.cells (out ++ [x10])) ((flat_app _ _).symm) (fun A17 c17 hA171 hA172 => ?_)
      refine TL.val rfl rfl rfl (gives_assign rfl rfl) ?_
      refine TL.end_ ?_
      refine TX.in_normal ?_
      refine TX.then_ ?_
      refine TC.region ?_
      refine TL.val rfl rfl rfl (gives_bin rfl rfl rfl (fun w => bin_add_ (r := ((i + 1 : Nat) : Int)) (by simp only [IntKind.wrap_i64]; omega) w)) ?_
      refine TL.val rfl rfl rfl (gives_move rfl rfl) ?_
      refine TL.end_ ?_
      exact TX.round (⟨(i + 1, (A17, c17), out ++ [x10]), by dsimp only; omega, filt_snoc_t hx10 h13 hout, by dsimp only; rw [List.length_append]; show out.length + 1 ≤ _; omega, hA171, hA172⟩) (by show l.length - (i + 1) < l.length - i; omega) ⟨rfl, rfl, rfl, rfl, rfl, trivial⟩ (fun w1 hw => hw.pick [2] (by decide) rfl)
    · refine TL.end_ ?_
      refine TX.then_ ?_
      refine TC.condF rfl ?_
      refine TC.skip_ ?_
      refine TX.in_normal ?_
      refine TX.then_ ?_
      refine TC.region ?_
      refine TL.val rfl rfl rfl (gives_bin rfl rfl rfl (fun w => bin_add_ (r := ((i + 1 : Nat) : Int)) (by simp only [IntKind.wrap_i64]; omega) w)) ?_
      refine TL.val rfl rfl rfl (gives_move rfl rfl) ?_
      refine TL.end_ ?_
      exact TX.round (⟨(i + 1, (Ao, co), out), by dsimp only; omega, filt_snoc_f hx10 h13 hout, by dsimp only; omega, houtc, houtm⟩) (by show l.length - (i + 1) < l.length - i; omega) ⟨rfl, rfl, rfl, rfl, rfl, trivial⟩ (fun w1 hw => hw.pick [1] (by decide) rfl)
  · have q9 := of_decide_eq_false h9
    refine TL.end_ ?_
    refine TX.then_ ?_
    refine TC.seq_ ?_
    refine TC.condF rfl ?_
    refine TC.exit_ ?_
    refine TX.then_exit ?_
    refine TX.then_exit ?_
    refine TX.in_same ?_
    refine TX.then_ ?_
    refine TC.seq_ ?_
    refine TC.region ?_
    refine TL.val rfl rfl rfl (gives_move rfl rfl) ?_
    refine TL.turnRowD (k := 0) (fun ys => Sorted cmpRs out ys) rfl rfl rfl rfl rfl Tryz.func132 pornm132 porbd132 rfl (fun w1 hw hr9 => sortRs hr9 (rfl) (by omega)) (fun srt20 hS20 => ?_)
    try dsimp only [List.set_cons_zero, List.set_cons_succ]
    refine TL.end_ ?_
    refine TX.then_ ?_
    refine TC.seq_ ?_
    refine TC.region ?_
    refine TL.val rfl rfl rfl (gives_move rfl rfl) ?_
    refine TL.turnRow2 (q := 0) (ys := cptG srt20) rfl rfl rfl rfl rfl Tryz.func134 pornm134 porbd134 rfl (fun w1 hw hr9 => compactRs hr9 (hS20.1.length_eq) (by omega)) ?_
    try dsimp only [List.set_cons_zero, List.set_cons_succ]
    refine TL.val rfl rfl rfl (gives_assign rfl rfl) ?_
    refine TL.end_ ?_
    refine TX.then_ ?_
    refine TC.ret_ ?_
    have hle : (cptG srt20).length ≤ out.length := Nat.le_trans (cptG_le _) (Nat.le_of_eq hS20.1.length_eq)
    exact ret_tmp Tryz.results88 rfl (fun w1 hw => ⟨⟨((Ao, co), cptG srt20), isOrd_of hok (by rw [List.take_of_length_le (by omega)] at hout; exact hout) hS20, by dsimp only; omega, houtm⟩, rfl, hw.pick [0] (by decide) rfl⟩)
end Go.Proofs.YtijmpjfafpodhaaGreat

namespace Go.Proofs.YtijmpjfafpodhaaGreat
open Go.RowKit
section
variable {P : Program}
variable {N : Fr} {Q : Exit → Act → World → Prop} {E : Env} {w0 : Base} {L : List Pc} {ops : Array Oper} {l : List Oper} {o : Oper}
end
end Go.Proofs.YtijmpjfafpodhaaGreat

namespace Go.Proofs.YtijmpjfafpodhaaGreat
open Go.RowKit
set_option maxRecDepth 20000
theorem IsOrd.nil : IsOrd [] [] := ⟨List.Pairwise.nil, fun x => by simp⟩
theorem mem_take_snoc {α : Type} {l : List α} {i : Nat} {x z : α} (hx : l[i]? = some x) : z ∈ l.take (i + 1) ↔ z ∈ l.take i ∨ z = x := by
  rw [List.take_add_one, hx, List.mem_append]
  simp
theorem IsOrd.skip {l o : List Rs} {i : Nat} {x : Rs} (h : IsOrd (l.take i) o) (hx : l[i]? = some x) (hv : vldRs x = false) : IsOrd (l.take (i + 1)) o := ⟨h.1, fun z => by
  rw [h.2, mem_take_snoc hx]
  constructor
  · exact fun hh => ⟨.inl hh.1, hh.2⟩
  · rintro ⟨h1 | h1, h2⟩
    · exact ⟨h1, h2⟩
    · subst h1; rw [hv] at h2; cases h2⟩
theorem IsOrd.put {l o : List Rs} {i q : Nat} {x : Rs} (h : IsOrd (l.take i) o) (hx : l[i]? = some x) (hv : vldRs x = true) (h1 : ∀ y ∈ o.take q, lexI y.keys x.keys < 0) (h2 : ∀ y ∈ o.drop q, lexI x.keys y.keys < 0) : IsOrd (l.take (i + 1)) (o.take q ++ x :: o.drop q) := by
  refine ⟨ascK_put keys_len h.1 h1 h2, fun z => ?_⟩
  rw [mem_put, h.2, mem_take_snoc hx]
  constructor
  · rintro (hh | hh)
    · exact ⟨.inl hh.1, hh.2⟩
    · rw [hh]; exact ⟨.inr rfl, hv⟩
  · rintro ⟨h3 | h3, h4⟩
    · exact .inl ⟨h3, h4⟩
    · exact .inr h3
end Go.Proofs.YtijmpjfafpodhaaGreat

namespace Go.Proofs.YtijmpjfafpodhaaGreat
open Go.RowKit
set_option maxRecDepth 20000
theorem mapf_snoc_t {α β : Type} {p : α → Bool} {f : α → β} {l : List α} {out : List β} {i : Nat} {x : α} (hx : l[i]? = some x) (h : p x = true) (ho : ((l.take i).filter p).map f = out) : ((l.take (i + 1)).filter p).map f = out ++ [f x] := by
  rw [List.take_add_one, hx, List.filter_append, List.map_append, ho]
  simp [h]
theorem mapf_snoc_f {α β : Type} {p : α → Bool} {f : α → β} {l : List α} {out : List β} {i : Nat} {x : α} (hx : l[i]? = some x) (h : p x = false) (ho : ((l.take i).filter p).map f = out) : ((l.take (i + 1)).filter p).map f = out := by
  rw [List.take_add_one, hx, List.filter_append, List.map_append, ho]
  simp [h]
def trk (t : Trc) : List Int := [t.v, t.dst, t.proto]
theorem trk_len (t : Trc) : (trk t).length = 3 := rfl
theorem trk_inj {x y : Trc} (h : trk x = trk y) : x = y := by
  obtain ⟨a, b, c⟩ := x
  obtain ⟨a', b', c'⟩ := y
  simp only [trk, List.cons.injEq, and_true] at h
  obtain ⟨h1, h2, h3⟩ := h
  subst h1 h2 h3
  rfl
def IsTrc (l : List Rs) (o : List Trc) : Prop := AscK trk o ∧ ∀ t, t ∈ o ↔ ∃ r ∈ l, vldRs r = true ∧ trcR r = t
theorem IsTrc.eq {l : List Rs} {o o' : List Trc} (h : IsTrc l o) (h' : IsTrc l o') : o = o' := ascK_eq trk_len h.1 h'.1 fun x => by rw [h.2, h'.2]
theorem isTrc_of {l : List Rs} {o s : List Trc} (ho : (l.filter vldRs).map trcR = o) (hs : Sorted cmpT o s) : IsTrc l (cptG s) := by
  refine ⟨cptG_asc trk_len s hs.2 fun x hx y hy h => trk_inj h, fun t => ?_⟩
  rw [mem_cptG, hs.1.mem_iff, ← ho, List.mem_map]
  constructor
  · rintro ⟨r, hr, e⟩
    have := List.mem_filter.1 hr
    exact ⟨r, this.1, this.2, e⟩
  · rintro ⟨r, h1, h2, e⟩
    exact ⟨r, List.mem_filter.2 ⟨h1, h2⟩, e⟩
def pairsT (a b : Trc) : List (Int × Int) := [(a.v, b.v), (IntKind.i64.wrap a.dst, IntKind.i64.wrap b.dst), (a.proto, b.proto)]
def rcmpT (a b : Trc) : Int := orP (pairsT a b)
theorem rcmpT_eq {a b : Trc} (h1 : 0 ≤ a.dst) (h2 : a.dst ≤ 4294967295) (h3 : 0 ≤ b.dst) (h4 : b.dst ≤ 4294967295) : rcmpT a b = lexI (trk a) (trk b) := by
  have w1 : ∀ z : Int, 0 ≤ z → z ≤ 4294967295 → IntKind.i64.wrap z = z := fun z h0 h1 => by simp only [IntKind.wrap_i64]; omega
  rw [rcmpT, pairsT, w1 _ h1 h2, w1 _ h3 h4]
  rfl
theorem IsTrc.nil : IsTrc [] [] := ⟨List.Pairwise.nil, fun x => by simp⟩
section
variable {l : List Rs} {o : List Trc} {i q : Nat} {x : Rs}
theorem IsTrc.skip (h : IsTrc (l.take i) o) (hx : l[i]? = some x) (hv : vldRs x = false) : IsTrc (l.take (i + 1)) o := ⟨h.1, fun t => by
  rw [h.2]
  constructor
  · rintro ⟨r, h1, h2⟩
    exact ⟨r, (mem_take_snoc hx).2 (.inl h1), h2⟩
  · rintro ⟨r, h1, h2, h3⟩
    rcases (mem_take_snoc hx).1 h1 with h4 | h4
    · exact ⟨r, h4, h2, h3⟩
    · rw [h4, hv] at h2; cases h2⟩
theorem IsTrc.put (h : IsTrc (l.take i) o) (hx : l[i]? = some x) (hv : vldRs x = true) (h1 : ∀ y ∈ o.take q, lexI (trk y) (trk (trcR x)) < 0) (h2 : ∀ y ∈ o.drop q, lexI (trk (trcR x)) (trk y) < 0) : IsTrc (l.take (i + 1)) (o.take q ++ trcR x :: o.drop q) := by
  refine ⟨ascK_put trk_len h.1 h1 h2, fun t => ?_⟩
  rw [mem_put, h.2]
  constructor
  · rintro (⟨r, h3, h4⟩ | hh)
    · exact ⟨r, (mem_take_snoc hx).2 (.inl h3), h4⟩
    · exact ⟨x, (mem_take_snoc hx).2 (.inr rfl), hv, hh.symm⟩
  · rintro ⟨r, h3, h4, h5⟩
    rcases (mem_take_snoc hx).1 h3 with h6 | h6
    · exact .inl ⟨r, h6, h4, h5⟩
    · rw [h6] at h5; exact .inr h5.symm
theorem IsTrc.rng (h : IsTrc (l.take i) o) (hok : ∀ r ∈ l, r.Ok) {y : Trc} (hy : y ∈ o) : 0 ≤ y.dst ∧ y.dst ≤ 4294967295 := by
  obtain ⟨r, h1, _, h3⟩ := (h.2 y).1 hy
  have := hok r (List.mem_of_mem_take h1)
  rw [← h3]
  exact ⟨this.1, this.2.1⟩
theorem IsTrc.cmp (h : IsTrc (l.take i) o) (hx : l[i]? = some x) (hok : ∀ r ∈ l, r.Ok) {y : Trc} (hy : y ∈ o) : rcmpT y (trcR x) = lexI (trk y) (trk (trcR x)) := by
  have h1 := h.rng hok hy
  have h2 := hok x (List.mem_of_getElem? hx)
  exact rcmpT_eq h1.1 h1.2 h2.1 h2.2.1
theorem IsTrc.lt (h : IsTrc (l.take i) o) (hx : l[i]? = some x) (hok : ∀ r ∈ l, r.Ok) {y : Trc} (hy : y ∈ o) (hc : rcmpT y (trcR x) < 0) : lexI (trk y) (trk (trcR x)) < 0 := by rw [← h.cmp hx hok hy]; exact hc
end
theorem ptrnm135 : (Tryz.f135.name == "runtime.NumGoroutine") = false := by decide
theorem ptrbd135 : Tryz.f135.body.isNone = false := rfl
theorem ptrbs128_1_44646 (a0_0 : Int) (a0_1 : Int) (a0_2 : Int) (w : World) : (Instr.buildSlice 128 1 #[(0, .agg #[.int .i64 a0_0, .int .u32 a0_1, .int .i64 a0_2])]).run Tryz.prog w = .ok (.slice (some ⟨w.heap.size, 0, none⟩) 1 1) (w.alloc (.cells [.int .i64 a0_0, .int .u32 a0_1, .int .i64 a0_2].toArray 32)) := by kernel_rfl
theorem ptrel128 : Elem Tryz.prog 128 32 3 24 := Elem.mk' Tryz.underlying128 (z := .agg #[.int .i64 0, .int .u32 0, .int .i64 0]) (by kernel_rfl) rfl (by omega) (by omega)
theorem ptrnm136 : (Tryz.f136.name == "runtime.NumGoroutine") = false := by decide
theorem ptrbd136 : Tryz.f136.body.isNone = false := rfl
theorem ptrnm138 : (Tryz.f138.name == "runtime.NumGoroutine") = false := by decide
theorem ptrbd138 : Tryz.f138.body.isNone = false := rfl
set_option maxHeartbeats 1000000 in
theorem trs_any (A0 : Option Addr) (c0 : Nat) (l : List Rs) (w : World) (hr : Reads w w.heap.size 17 A0 l.length (flat Rs.cells l)) (hl1 : l.length ≤ 100000) :
    Calls Tryz.prog 89 #[.slice A0 l.length c0] w fun e w' => ∃ x : {y : (Option Addr × Nat) × List Trc // IsTrc l y.2 ∧ y.2.length ≤ y.1.2 ∧ y.1.2 ≤ maxLen}, e = .returned (.slice x.1.1.1 x.1.2.length x.1.1.2) ∧ Pm w [.row (.slice x.1.1.1 x.1.2.length x.1.1.2) 32 3 x.1.2.length (flat Trc.cells x.1.2)] w' := by
  refine begin_ (vs := [.slice A0 l.length c0]) Tryz.func89 rfl rfl rfl ?_ (Pm.start w)
  refine TC.seq_ ?_
  refine TC.region ?_
  refine TL.val rfl rfl rfl (gives_assign rfl rfl) ?_
  refine TL.end_ ?_
  refine TX.then_ ?_
  refine TC.seq_ ?_
  refine TC.region ?_
  refine TL.val rfl rfl rfl (gives_assign rfl rfl) ?_
  refine TL.end_ ?_
  refine TX.then_ ?_
  refine TC.seq_ ?_
  refine TC.seq_ ?_
  refine TC.region ?_
  refine TL.val rfl rfl rfl (gives_move rfl rfl) ?_
  refine TL.val rfl rfl rfl (gives_len rfl Tryz.underlying23 rfl) ?_
  refine TL.val rfl rfl rfl (gives_move rfl rfl) ?_
  refine TL.end_ ?_
  refine TX.then_ ?_
  refine TC.block ?_
  refine TC.nilrow 32 3 ?_
  refine TC.loop_ (α := {y : Nat × (Option Addr × Nat) × List Trc // y.1 ≤ l.length ∧ (((l.take y.1).filter vldRs).map trcR = y.2.2) ∧ y.2.2.length ≤ y.1 ∧ y.2.2.length ≤ y.2.1.2 ∧ y.2.1.2 ≤ maxLen}) (fun y => [(2, .slice none 0 0), (6, .slice A0 l.length c0), (7, .int .i64 (l.length : Nat)), (8, .int .i64 ((y.1.1 : Nat) : Int)), (3, .slice y.1.2.1.1 y.1.2.2.length y.1.2.1.2)]) (fun y => Pm w [.row (.slice y.1.2.1.1 y.1.2.2.length y.1.2.1.2) 32 3 y.1.2.2.length (flat Trc.cells y.1.2.2)]) (fun y => l.length - y.1.1) (⟨(0, (none, 0), []), Nat.zero_le _, rfl, Nat.le_refl _, Nat.le_refl _, Nat.zero_le _⟩) ⟨rfl, rfl, rfl, rfl, rfl, trivial⟩ (fun w1 hw => hw) ?_
  rintro ⟨⟨i, ⟨Ao, co⟩, out⟩, hi, hout, houtl, houtc, houtm⟩
  dsimp only at hi hout houtl houtc houtm ⊢
  refine TC.seq_ ?_
  refine TC.region ?_
  refine TL.vsplit rfl rfl rfl (gives_bin rfl rfl rfl (fun w => bin_lss w)) (fun h9 => ?_) (fun h9 => ?_)
  · have q9 := of_decide_eq_true h9
    refine TL.end_ ?_
    refine TX.then_ ?_
    refine TC.seq_ ?_
    refine TC.condT rfl ?_
    refine TC.skip_ ?_
    refine TX.then_ ?_
    refine TC.seq_ ?_
    refine TC.block ?_
    refine TC.seq_ ?_
    refine TC.region ?_
    have hi10 : i < l.length := by omega
    obtain ⟨x10, hx10⟩ : ∃ x10, l[i]? = some x10 := ⟨_, List.getElem?_eq_getElem hi10⟩
    obtain ⟨b10, o10, hA10, hbb10, hc10⟩ := hr.ad (by omega) (by decide)
    refine TL.val rfl rfl rfl (gives_at (v := .pointer (some ⟨b10, o10 + i * 17, none⟩)) rfl rfl rfl (fun w => at_el Tryz.underlying23 prssz65 hA10 _ _ i (by omega) rfl w)) ?_
    refine TL.val rfl rfl rfl (gives_loadR (off := o10 + i * 17) rfl rfl prsag65 prssz65 (rs_cel.len x10) (fun w1 hw j9 u9 h9 => (hw.bel.cell hbb10).trans <| flat_cell rs_cel hx10 hc10 j9 u9 h9)) ?_
    refine TL.pnew rfl rfl rfl (exec_alloc (cs := [.int .i64 0, .int .i64 0, .int .i64 0, .int .i64 0, .int .u32 0, .int .i64 0, .int .i64 0, .int .i64 0, .bool false, .bool false, .int .i64 0, .int .u32 0, .int .i64 0, .int .i64 0, .int .i64 0, .int .i64 0, .int .i64 0]) rfl arpzv65 rfl) (fun g5 => ?_)
    refine TL.pstore (k := 0) (vs := x10.cells) rfl rfl rfl rfl rfl rfl rfl prssz65 (rs_cel.one _) (by show 17 ≤ 17; decide) (L' := [.blk g5 65 x10.cells, .row (.slice Ao out.length co) 32 3 out.length (flat Trc.cells out)]) rfl ?_
    refine TL.end_ ?_
    refine TX.then_ ?_
    refine TC.seq_ ?_
    refine TC.region ?_
    refine TL.val rfl rfl rfl (pm_loadV (k := 0) (i := 0) (n := 17) (v := .agg (x10.cells).toArray) rfl rfl prsag65 prssz65 rfl (by show 17 ≤ 17; decide) rfl) ?_
    refine TL.callsplit rfl rfl rfl rfl rfl Tryz.func70 prsnm70 prsbd70 (fun w1 hw => vldRs_any x10 w1) (fun h13 => ?_) (fun h13 => ?_)
    · refine TL.end_ ?_
      refine TX.then_ ?_
      refine TC.condT rfl ?_
      refine TC.region ?_
      refine TL.val rfl rfl rfl (gives_move rfl rfl) ?_
      refine TL.val rfl rfl rfl (pm_loadV (k := 0) (i := 0) (n := 17) (v := .agg (x10.cells).toArray) rfl rfl prsag65 prssz65 rfl (by show 17 ≤ 17; decide) rfl) ?_
      refine TL.pcall1 (r := .agg ((trcR x10).cells).toArray) rfl rfl rfl rfl rfl Tryz.func135 ptrnm135 ptrbd135 (fun w1 hw => trc_any x10 w1) ?_
      refine TL.prowS (e := 32) (size := 3) (cs := flat Trc.cells [trcR x10]) rfl rfl rfl rfl rfl (fun w => ptrbs128_1_44646 _ _ _ w) (by decide) rfl (fun g17 => ?_)
      refine TL.appendT (k := 2) rfl rfl rfl rfl Tryz.underlying128 ptrel128 rfl rfl rfl (fun w1 hw => pm_reads hw (k := 0) rfl) (flat_one trc_cel _) (by show _ * 24 ≤ _; omega) ((out ++ [trcR x10]).length) (by rw [List.length_append]; rfl) (flat Trc.cells (out ++ [trcR x10])) ((flat_app _ _).symm) (fun A18 c18 hA181 hA182 => ?_)
      refine TL.val rfl rfl rfl (gives_assign rfl rfl) ?_
      refine TL.end_ ?_
      refine TX.in_normal ?_
      refine TX.then_ ?_
      refine TC.region ?_
      refine TL.val rfl rfl rfl (gives_bin rfl rfl rfl (fun w => bin_add_ (r := ((i + 1 : Nat) : Int)) (by simp only [IntKind.wrap_i64]; omega) w)) ?_
      refine TL.val rfl rfl rfl (gives_move rfl rfl) ?_
      refine TL.end_ ?_
      exact TX.round (⟨(i + 1, (A18, c18), out ++ [trcR x10]), by dsimp only; omega, mapf_snoc_t hx10 h13 hout, by dsimp only; rw [List.length_append]; show out.length + 1 ≤ _; omega, hA181, hA182⟩) (by show l.length - (i + 1) < l.length - i; omega) ⟨rfl, rfl, rfl, rfl, rfl, trivial⟩ (fun w1 hw => hw.pick [2] (by decide) rfl)
    · refine TL.end_ ?_
      refine TX.then_ ?_
      refine TC.condF rfl ?_
      refine TC.skip_ ?_
      refine TX.in_normal ?_
      refine TX.then_ ?_
      refine TC.region ?_
      refine TL.val rfl rfl rfl (gives_bin rfl rfl rfl (fun w => bin_add_ (r := ((i + 1 : Nat) : Int)) (by simp only [IntKind.wrap_i64]; omega) w)) ?_
      refine TL.val rfl rfl rfl (gives_move rfl rfl) ?_
      refine TL.end_ ?_
      exact TX.round (⟨(i + 1, (Ao, co), out), by dsimp only; omega, mapf_snoc_f hx10 h13 hout, by dsimp only; omega, houtc, houtm⟩) (by show l.length - (i + 1) < l.length - i; omega) ⟨rfl, rfl, rfl, rfl, rfl, trivial⟩ (fun w1 hw => hw.pick [1] (by decide) rfl)
  · have q9 := of_decide_eq_false h9
    refine TL.end_ ?_
    refine TX.then_ ?_
    refine TC.seq_ ?_
    refine TC.condF rfl ?_
    refine TC.exit_ ?_
    refine TX.then_exit ?_
    refine TX.then_exit ?_
    refine TX.in_same ?_
    refine TX.then_ ?_
    refine TC.seq_ ?_
    refine TC.region ?_
    refine TL.val rfl rfl rfl (gives_move rfl rfl) ?_
    refine TL.turnRowD (k := 0) (fun ys => Sorted cmpT out ys) rfl rfl rfl rfl rfl Tryz.func136 ptrnm136 ptrbd136 rfl (fun w1 hw hr9 => sortTrc hr9 (rfl) (by omega)) (fun srt21 hS21 => ?_)
    try dsimp only [List.set_cons_zero, List.set_cons_succ]
    refine TL.end_ ?_
    refine TX.then_ ?_
    refine TC.seq_ ?_
    refine TC.region ?_
    refine TL.val rfl rfl rfl (gives_move rfl rfl) ?_
    refine TL.turnRow2 (q := 0) (ys := cptG srt21) rfl rfl rfl rfl rfl Tryz.func138 ptrnm138 ptrbd138 rfl (fun w1 hw hr9 => compactTrc hr9 (hS21.1.length_eq) (by omega)) ?_
    try dsimp only [List.set_cons_zero, List.set_cons_succ]
    refine TL.val rfl rfl rfl (gives_assign rfl rfl) ?_
    refine TL.end_ ?_
    refine TX.then_ ?_
    refine TC.ret_ ?_
    have hle : (cptG srt21).length ≤ out.length := Nat.le_trans (cptG_le _) (Nat.le_of_eq hS21.1.length_eq)
    exact ret_tmp Tryz.results89 rfl (fun w1 hw => ⟨⟨((Ao, co), cptG srt21), isTrc_of (by rw [List.take_of_length_le (by omega)] at hout; exact hout) hS21, by dsimp only; omega, houtm⟩, rfl, hw.pick [0] (by decide) rfl⟩)
end Go.Proofs.YtijmpjfafpodhaaGreat

namespace Go.Proofs.YtijmpjfafpodhaaGreat
open Go.RowKit
set_option maxRecDepth 20000
theorem nodup_len {α : Type} [DecidableEq α] : ∀ {p F : List α}, p.Nodup → (∀ f ∈ p, f ∈ F) → p.length ≤ F.length
  | [], _, _, _ => Nat.zero_le _
  | a :: p, F, h, hs => by
    obtain ⟨h1, h2⟩ := List.nodup_cons.1 h
    have := nodup_len (F := F.erase a) h2 fun f hf => (List.mem_erase_of_ne (fun e => h1 (by rw [← e]; exact hf))).2 (hs f (List.mem_cons_of_mem _ hf))
    rw [List.length_erase_of_mem (hs a List.mem_cons_self)] at this
    have h3 : 0 < F.length := List.length_pos_of_mem (hs a List.mem_cons_self)
    rw [List.length_cons]
    omega
def IsOf (l : List Rs) (t : Trc) (y : List Rs) : Prop := ∃ o, IsOrd l o ∧ y = o.filter fun r => decide (trcR r = t)
theorem IsOf.eq {l y y' : List Rs} {t : Trc} (h : IsOf l t y) (h' : IsOf l t y') : y = y' := by
  obtain ⟨o, h1, h2⟩ := h
  obtain ⟨o', h3, h4⟩ := h'
  rw [h2, h4, h1.eq h3]
theorem IsOrd.le {l o : List Rs} (h : IsOrd l o) : o.length ≤ l.length := by
  have hn : o.Nodup := h.1.imp fun {a b} hab e => by subst e; exact ltK_irrefl _ hab
  exact nodup_len hn fun x hx => ((h.2 x).1 hx).1
theorem pofnm88 : (Tryz.f88.name == "runtime.NumGoroutine") = false := by decide
theorem pofbd88 : Tryz.f88.body.isNone = false := rfl
set_option maxHeartbeats 1000000 in
theorem of_any (A0 : Option Addr) (c0 : Nat) (l : List Rs) (t : Trc) (w : World) (hr : Reads w w.heap.size 17 A0 l.length (flat Rs.cells l)) (hl1 : l.length ≤ 100000) (hok : ∀ r ∈ l, r.Ok) :
    Calls Tryz.prog 90 #[.slice A0 l.length c0, .agg t.cells.toArray] w fun e w' => ∃ x : {y : (Option Addr × Nat) × List Rs // IsOf l t y.2 ∧ y.2.length ≤ y.1.2 ∧ y.1.2 ≤ maxLen}, e = .returned (.slice x.1.1.1 x.1.2.length x.1.1.2) ∧ Pm w [.row (.slice x.1.1.1 x.1.2.length x.1.1.2) 65 17 x.1.2.length (flat Rs.cells x.1.2)] w' := by
  refine begin_ (vs := [.slice A0 l.length c0, .agg t.cells.toArray]) Tryz.func90 rfl rfl rfl ?_ (Pm.start w)
  refine TC.seq_ ?_
  refine TC.region ?_
  refine TL.pnew rfl rfl rfl (exec_box (cs := t.cells) rfl rfl rfl) (fun g3 => ?_)
  refine TL.val rfl rfl rfl (gives_assign rfl rfl) ?_
  refine TL.end_ ?_
  refine TX.then_ ?_
  refine TC.seq_ ?_
  refine TC.region ?_
  refine TL.val rfl rfl rfl (gives_assign rfl rfl) ?_
  refine TL.end_ ?_
  refine TX.then_ ?_
  refine TC.seq_ ?_
  refine TC.seq_ ?_
  refine TC.region ?_
  refine TL.val rfl rfl rfl (gives_move rfl rfl) ?_
  refine TL.pcallPm (α := {y : (Option Addr × Nat) × List Rs // IsOrd l y.2 ∧ y.2.length ≤ y.1.2 ∧ y.1.2 ≤ maxLen}) (fun x => .slice x.1.1.1 x.1.2.length x.1.1.2) (fun x => [.row (.slice x.1.1.1 x.1.2.length x.1.1.2) 65 17 x.1.2.length (flat Rs.cells x.1.2)]) rfl rfl rfl rfl rfl Tryz.func88 pofnm88 pofbd88 (fun w1 hw => ord_any A0 c0 l w1 (hr.up hw.bel) hl1 hok) ?_
  rintro ⟨⟨⟨R9, rc9⟩, o9⟩, hP9, hR91, hR92⟩
  dsimp only [List.cons_append, List.nil_append]
  dsimp only at hP9 hR91 hR92 ⊢
  refine TL.val rfl rfl rfl (gives_len rfl Tryz.underlying23 rfl) ?_
  refine TL.val rfl rfl rfl (gives_move rfl rfl) ?_
  refine TL.end_ ?_
  refine TX.then_ ?_
  refine TC.block ?_
  refine TC.nilrow 65 17 ?_
  have hol := hP9.le
  refine TC.loop_ (α := {y : Nat × (Option Addr × Nat) × List Rs // y.1 ≤ o9.length ∧ ((o9.take y.1).filter (fun r => decide (trcR r = t)) = y.2.2) ∧ y.2.2.length ≤ y.1 ∧ y.2.2.length ≤ y.2.1.2 ∧ y.2.1.2 ≤ maxLen}) (fun y => [(3, .pointer (some ⟨g3, 0, none⟩)), (9, .slice R9 o9.length rc9), (10, .int .i64 (o9.length : Nat)), (11, .int .i64 ((y.1.1 : Nat) : Int)), (5, .slice y.1.2.1.1 y.1.2.2.length y.1.2.1.2)]) (fun y => Pm w [.row (.slice y.1.2.1.1 y.1.2.2.length y.1.2.1.2) 65 17 y.1.2.2.length (flat Rs.cells y.1.2.2), .row (.slice R9 o9.length rc9) 65 17 o9.length (flat Rs.cells o9), .blk g3 32 t.cells]) (fun y => o9.length - y.1.1) (⟨(0, (none, 0), []), Nat.zero_le _, rfl, Nat.le_refl _, Nat.le_refl _, Nat.zero_le _⟩) ⟨rfl, rfl, rfl, rfl, rfl, trivial⟩ (fun w1 hw => hw) ?_
  rintro ⟨⟨i, ⟨Ao, co⟩, out⟩, hi, hout, houtl, houtc, houtm⟩
  dsimp only at hi hout houtl houtc houtm ⊢
  refine TC.seq_ ?_
  refine TC.region ?_
  refine TL.vsplit rfl rfl rfl (gives_bin rfl rfl rfl (fun w => bin_lss w)) (fun h12 => ?_) (fun h12 => ?_)
  · have q12 := of_decide_eq_true h12
    refine TL.end_ ?_
    refine TX.then_ ?_
    refine TC.seq_ ?_
    refine TC.condT rfl ?_
    refine TC.skip_ ?_
    refine TX.then_ ?_
    refine TC.seq_ ?_
    refine TC.block ?_
    refine TC.seq_ ?_
    refine TC.region ?_
    refine TL.fact (p := ∃ g, R9 = some ⟨g, 0, none⟩) (fun w1 hw => rowA hw (k := 1) rfl (by omega)) ?_
    rintro ⟨g_R9, rfl⟩
    have hi13 : i < o9.length := by omega
    obtain ⟨x13, hx13⟩ : ∃ x13, o9[i]? = some x13 := ⟨_, List.getElem?_eq_getElem hi13⟩
    refine TL.val rfl rfl rfl (gives_at (v := .pointer (some ⟨g_R9, 0 + i * 17, none⟩)) rfl rfl rfl (fun w => at_el Tryz.underlying23 prssz65 rfl _ _ i (by omega) rfl w)) ?_
    refine TL.val rfl rfl rfl (gives_loadR (off := 0 + i * 17) rfl rfl prsag65 prssz65 (rs_cel.len x13) (fun w1 hw j9 u9 h9 => flat_row rs_cel hw (q := 1) rfl hx13 j9 u9 h9)) ?_
    refine TL.pnew rfl rfl rfl (exec_alloc (cs := [.int .i64 0, .int .i64 0, .int .i64 0, .int .i64 0, .int .u32 0, .int .i64 0, .int .i64 0, .int .i64 0, .bool false, .bool false, .int .i64 0, .int .u32 0, .int .i64 0, .int .i64 0, .int .i64 0, .int .i64 0, .int .i64 0]) rfl arpzv65 rfl) (fun g7 => ?_)
    refine TL.pstore (k := 0) (vs := x13.cells) rfl rfl rfl rfl rfl rfl rfl prssz65 (rs_cel.one _) (by show 17 ≤ 17; decide) (L' := [.blk g7 65 x13.cells, .row (.slice Ao out.length co) 65 17 out.length (flat Rs.cells out), .row (.slice (some ⟨g_R9, 0, none⟩) o9.length rc9) 65 17 o9.length (flat Rs.cells o9), .blk g3 32 t.cells]) rfl ?_
    refine TL.end_ ?_
    refine TX.then_ ?_
    refine TC.seq_ ?_
    refine TC.quietQ (by kernel_rfl) (by kernel_rfl) (fun w hw => hw.drawn _) ?_
    refine TQ.val rfl rfl rfl (pm_loadV (k := 0) (i := 0) (n := 17) (v := .agg (x13.cells).toArray) rfl rfl prsag65 prssz65 rfl (by show 17 ≤ 17; decide) rfl) ?_
    refine TQ.call (v := .agg ((trcR x13).cells).toArray) rfl rfl rfl rfl rfl Tryz.func135 ptrnm135 ptrbd135 (fun w1 hw => (trc_any x13 w1).mono fun en w2 ⟨h1, h2⟩ => ⟨h1, hw.below h2⟩) ?_
    refine TQ.val rfl rfl rfl (pm_loadV (k := 3) (i := 0) (n := 3) (v := .agg (t.cells).toArray) rfl rfl pcpag32 prssz32 rfl (by show 3 ≤ 3; decide) rfl) ?_
    refine TQ.vsplit rfl rfl rfl (gives_bin2 rfl rfl rfl (fun w => trc_eql (trcR x13) t _ _ w)) (fun h18 => ?_) (fun h18 => ?_)
    · have q18 := of_decide_eq_true h18
      refine TQ.fin ?_
      refine TX.then_ ?_
      refine TC.condT rfl ?_
      refine TC.region ?_
      refine TL.val rfl rfl rfl (gives_move rfl rfl) ?_
      refine TL.val rfl rfl rfl (pm_loadV (k := 0) (i := 0) (n := 17) (v := .agg (x13.cells).toArray) rfl rfl prsag65 prssz65 rfl (by show 17 ≤ 17; decide) rfl) ?_
      refine TL.prowS (e := 65) (size := 17) (cs := flat Rs.cells [x13]) rfl rfl rfl rfl rfl (fun w => porbs23_1_99505 _ _ _ _ _ _ _ _ _ _ _ _ _ _ _ _ _ w) (by decide) rfl (fun g21 => ?_)
      refine TL.appendT (k := 2) rfl rfl rfl rfl Tryz.underlying23 porel23 rfl rfl rfl (fun w1 hw => pm_reads hw (k := 0) rfl) (flat_one rs_cel _) (by show _ * 128 ≤ _; omega) ((out ++ [x13]).length) (by rw [List.length_append]; rfl) (flat Rs.cells (out ++ [x13])) ((flat_app _ _).symm) (fun A22 c22 hA221 hA222 => ?_)
      refine TL.val rfl rfl rfl (gives_assign rfl rfl) ?_
      refine TL.end_ ?_
      refine TX.in_normal ?_
      refine TX.then_ ?_
      refine TC.region ?_
      refine TL.val rfl rfl rfl (gives_bin rfl rfl rfl (fun w => bin_add_ (r := ((i + 1 : Nat) : Int)) (by simp only [IntKind.wrap_i64]; omega) w)) ?_
      refine TL.val rfl rfl rfl (gives_move rfl rfl) ?_
      refine TL.end_ ?_
      exact TX.round (⟨(i + 1, (A22, c22), out ++ [x13]), by dsimp only; omega, filt_snoc_t (p := fun r => decide (trcR r = t)) hx13 (decide_eq_true q18) hout, by dsimp only; rw [List.length_append]; show out.length + 1 ≤ _; omega, hA221, hA222⟩) (by show o9.length - (i + 1) < o9.length - i; omega) ⟨rfl, rfl, rfl, rfl, rfl, trivial⟩ (fun w1 hw => hw.pick [2, 3, 4] (by decide) rfl)
    · have q18 := of_decide_eq_false h18
      refine TQ.fin ?_
      refine TX.then_ ?_
      refine TC.condF rfl ?_
      refine TC.skip_ ?_
      refine TX.in_normal ?_
      refine TX.then_ ?_
      refine TC.region ?_
      refine TL.val rfl rfl rfl (gives_bin rfl rfl rfl (fun w => bin_add_ (r := ((i + 1 : Nat) : Int)) (by simp only [IntKind.wrap_i64]; omega) w)) ?_
      refine TL.val rfl rfl rfl (gives_move rfl rfl) ?_
      refine TL.end_ ?_
      exact TX.round (⟨(i + 1, (Ao, co), out), by dsimp only; omega, filt_snoc_f (p := fun r => decide (trcR r = t)) hx13 (decide_eq_false q18) hout, by dsimp only; omega, houtc, houtm⟩) (by show o9.length - (i + 1) < o9.length - i; omega) ⟨rfl, rfl, rfl, rfl, rfl, trivial⟩ (fun w1 hw => hw.pick [1, 2, 3] (by decide) rfl)
  · have q12 := of_decide_eq_false h12
    refine TL.end_ ?_
    refine TX.then_ ?_
    refine TC.seq_ ?_
    refine TC.condF rfl ?_
    refine TC.exit_ ?_
    refine TX.then_exit ?_
    refine TX.then_exit ?_
    refine TX.in_same ?_
    refine TX.then_ ?_
    refine TC.seq_ ?_
    refine TC.region ?_
    refine TL.val rfl rfl rfl (gives_move rfl rfl) ?_
    refine TL.val rfl rfl rfl (gives_assign rfl rfl) ?_
    refine TL.end_ ?_
    refine TX.then_ ?_
    refine TC.ret_ ?_
    exact ret_tmp Tryz.results90 rfl (fun w1 hw => ⟨⟨((Ao, co), out), ⟨o9, hP9, by rw [List.take_of_length_le (by omega)] at hout; exact hout.symm⟩, by dsimp only; omega, houtm⟩, rfl, hw.pick [0] (by decide) rfl⟩)
end Go.Proofs.YtijmpjfafpodhaaGreat

namespace Go.Proofs.YtijmpjfafpodhaaGreat
open Go.RowKit
set_option maxRecDepth 20000
def IsSt (l : List Rs) (t : Trc) (flow : Int) (y : List Rs) : Prop := ∃ x, IsOf l t x ∧ y = x.filter fun r => usbRs r && decide (r.flow = flow)
theorem IsSt.eq {l y y' : List Rs} {t : Trc} {flow : Int} (h : IsSt l t flow y) (h' : IsSt l t flow y') : y = y' := by
  obtain ⟨x, h1, h2⟩ := h
  obtain ⟨x', h3, h4⟩ := h'
  rw [h2, h4, h1.eq h3]
theorem IsOf.le_ {l y : List Rs} {t : Trc} (h : IsOf l t y) : y.length ≤ l.length := by
  obtain ⟨o, h1, rfl⟩ := h
  exact Nat.le_trans (List.length_filter_le _ _) h1.le
theorem IsSt.le {l y : List Rs} {t : Trc} {flow : Int} (h : IsSt l t flow y) : y.length ≤ l.length := by
  obtain ⟨x, h1, rfl⟩ := h
  exact Nat.le_trans (List.length_filter_le _ _) h1.le_
def Rp.trc (p : Rp) : Trc := ⟨p.v, p.dst, p.proto⟩
def atL (l : List Rs) (ttl : Int) : List Rs := l.filter fun r => r.ans && decide (r.ttl = ttl)
/-! ### blackholes -/
def fitB (t e : Int) (r : Rs) : Bool := finRs r && decide (r.back ≤ t) && (decide (e = 0) || decide (r.ttl < e))
def bend (l : List Rs) (t : Int) : Int := l.foldl (fun e r => if fitB t e r then r.ttl else e) 0
theorem bend_snoc {l : List Rs} {t e : Int} {i : Nat} {x : Rs} (hx : l[i]? = some x) (h : bend (l.take i) t = e) : bend (l.take (i + 1)) t = if fitB t e x then x.ttl else e := by
  unfold bend at h ⊢
  rw [List.take_add_one, hx, List.foldl_append, h]; rfl
def lostR (e t : Int) (r : Rs) : Bool := !r.ans && decide (r.ttl ≥ e) && decide (r.at_ ≥ t)
def lostN (e t : Int) (l : List Rs) : Nat := (l.filter (lostR e t)).length
theorem lost_t {l : List Rs} {e t : Int} {i c : Nat} {x : Rs} (hx : l[i]? = some x) (hp : lostR e t x = true) (h : lostN e t (l.take i) = c) : lostN e t (l.take (i + 1)) = c + 1 := by
  unfold lostN at h ⊢
  rw [List.take_add_one, hx, List.filter_append, List.length_append, h]
  simp [hp]
theorem lost_f {l : List Rs} {e t : Int} {i c : Nat} {x : Rs} (hx : l[i]? = some x) (hp : lostR e t x = false) (h : lostN e t (l.take i) = c) : lostN e t (l.take (i + 1)) = c := by
  unfold lostN at h ⊢
  rw [List.take_add_one, hx, List.filter_append, List.length_append, h]
  simp [hp]
def bhF (l : List Rs) (losses t : Int) : Bool := decide (0 < bend l t) && decide (losses ≤ (lostN (bend l t) t l : Int))
theorem ablnm122 : (Tryz.f122.name == "runtime.NumGoroutine") = false := by decide
theorem ablbd122 : Tryz.f122.body.isNone = false := rfl
set_option maxHeartbeats 1000000 in
theorem atl_any (A0 : Option Addr) (c0 : Nat) (l : List Rs) (ttl : Int) (w : World) (hr : Reads w w.heap.size 17 A0 l.length (flat Rs.cells l)) (hl1 : l.length ≤ 100000) :
    Calls Tryz.prog 77 #[.slice A0 l.length c0, .int .i64 ttl] w fun e w' => ∃ x : {y : (Option Addr × Nat) × List Rs // y.2 = atL l ttl ∧ y.2.length ≤ y.1.2 ∧ y.1.2 ≤ maxLen}, e = .returned (.slice x.1.1.1 x.1.2.length x.1.1.2) ∧ Pm w [.row (.slice x.1.1.1 x.1.2.length x.1.1.2) 65 17 x.1.2.length (flat Rs.cells x.1.2)] w' := by
  refine begin_ (vs := [.slice A0 l.length c0, .int .i64 ttl]) Tryz.func77 rfl rfl rfl ?_ (Pm.start w)
  refine TC.seq_ ?_
  refine TC.region ?_
  refine TL.val rfl rfl rfl (gives_assign rfl rfl) ?_
  refine TL.end_ ?_
  refine TX.then_ ?_
  refine TC.seq_ ?_
  refine TC.region ?_
  refine TL.val rfl rfl rfl (gives_assign rfl rfl) ?_
  refine TL.end_ ?_
  refine TX.then_ ?_
  refine TC.seq_ ?_
  refine TC.seq_ ?_
  refine TC.region ?_
  refine TL.val rfl rfl rfl (gives_move rfl rfl) ?_
  refine TL.val rfl rfl rfl (gives_len rfl Tryz.underlying23 rfl) ?_
  refine TL.val rfl rfl rfl (gives_move rfl rfl) ?_
  refine TL.end_ ?_
  refine TX.then_ ?_
  refine TC.block ?_
  refine TC.nilrow 65 17 ?_
  refine TC.loop_ (α := {y : Nat × (Option Addr × Nat) × List Rs // y.1 ≤ l.length ∧ ((l.take y.1).filter (fun r : Rs => r.ans && decide (r.ttl = ttl)) = y.2.2) ∧ y.2.2.length ≤ y.1 ∧ y.2.2.length ≤ y.2.1.2 ∧ y.2.1.2 ≤ maxLen}) (fun y => [(1, .int .i64 ttl), (8, .slice A0 l.length c0), (9, .int .i64 (l.length : Nat)), (10, .int .i64 ((y.1.1 : Nat) : Int)), (5, .slice y.1.2.1.1 y.1.2.2.length y.1.2.1.2)]) (fun y => Pm w [.row (.slice y.1.2.1.1 y.1.2.2.length y.1.2.1.2) 65 17 y.1.2.2.length (flat Rs.cells y.1.2.2)]) (fun y => l.length - y.1.1) (⟨(0, (none, 0), []), Nat.zero_le _, rfl, Nat.le_refl _, Nat.le_refl _, Nat.zero_le _⟩) ⟨rfl, rfl, rfl, rfl, rfl, trivial⟩ (fun w1 hw => hw) ?_
  rintro ⟨⟨i, ⟨Ao, co⟩, out⟩, hi, hout, houtl, houtc, houtm⟩
  dsimp only at hi hout houtl houtc houtm ⊢
  refine TC.seq_ ?_
  refine TC.region ?_
  refine TL.vsplit rfl rfl rfl (gives_bin rfl rfl rfl (fun w => bin_lss w)) (fun h11 => ?_) (fun h11 => ?_)
  · have q11 := of_decide_eq_true h11
    refine TL.end_ ?_
    refine TX.then_ ?_
    refine TC.seq_ ?_
    refine TC.condT rfl ?_
    refine TC.skip_ ?_
    refine TX.then_ ?_
    refine TC.seq_ ?_
    refine TC.block ?_
    refine TC.seq_ ?_
    refine TC.region ?_
    have hi12 : i < l.length := by omega
    obtain ⟨x12, hx12⟩ : ∃ x12, l[i]? = some x12 := ⟨_, List.getElem?_eq_getElem hi12⟩
    obtain ⟨b12, o12, hA12, hbb12, hc12⟩ := hr.ad (by omega) (by decide)
    refine TL.val rfl rfl rfl (gives_at (v := .pointer (some ⟨b12, o12 + i * 17, none⟩)) rfl rfl rfl (fun w => at_el Tryz.underlying23 prssz65 hA12 _ _ i (by omega) rfl w)) ?_
    refine TL.val rfl rfl rfl (gives_loadR (off := o12 + i * 17) rfl rfl prsag65 prssz65 (rs_cel.len x12) (fun w1 hw j9 u9 h9 => (hw.bel.cell hbb12).trans <| flat_cell rs_cel hx12 hc12 j9 u9 h9)) ?_
    refine TL.pnew rfl rfl rfl (exec_alloc (cs := [.int .i64 0, .int .i64 0, .int .i64 0, .int .i64 0, .int .u32 0, .int .i64 0, .int .i64 0, .int .i64 0, .bool false, .bool false, .int .i64 0, .int .u32 0, .int .i64 0, .int .i64 0, .int .i64 0, .int .i64 0, .int .i64 0]) rfl arpzv65 rfl) (fun g7 => ?_)
    refine TL.pstore (k := 0) (vs := x12.cells) rfl rfl rfl rfl rfl rfl rfl prssz65 (rs_cel.one _) (by show 17 ≤ 17; decide) (L' := [.blk g7 65 x12.cells, .row (.slice Ao out.length co) 65 17 out.length (flat Rs.cells out)]) rfl ?_
    refine TL.end_ ?_
    refine TX.then_ ?_
    refine TC.seq_ ?_
    refine TC.region ?_
    refine TL.val rfl rfl rfl (gives_field (v := .pointer (some ⟨g7, 8, none⟩)) rfl rfl (fun w => prsfld65_8 _ _ w)) ?_
    refine TL.vsplit rfl rfl rfl (pm_load (k := 0) (i := 8) rfl rfl prsag4 rfl rfl) (fun h15 => ?_) (fun h15 => ?_)
    · refine TL.val rfl rfl rfl (gives_move rfl rfl) ?_
      refine TL.on rfl rfl rfl ?_
      refine TL.val rfl rfl rfl (gives_field (v := .pointer (some ⟨g7, 7, none⟩)) rfl rfl (fun w => prsfld65_7 _ _ w)) ?_
      refine TL.on rfl rfl rfl ?_
      refine TL.val rfl rfl rfl (pm_load (k := 0) (i := 7) rfl rfl pcmag3 rfl rfl) ?_
      refine TL.on rfl rfl rfl ?_
      refine TL.val rfl rfl rfl (gives_move rfl rfl) ?_
      refine TL.on rfl rfl rfl ?_
      refine TL.vsplit rfl rfl rfl (gives_bin rfl rfl rfl (fun w => bin_eql w)) (fun h20 => ?_) (fun h20 => ?_)
      · have q20 := of_decide_eq_true h20
        refine TL.val rfl rfl rfl (gives_pick rfl rfl rfl) ?_
        refine TL.end_ ?_
        refine TX.then_ ?_
        refine TC.condT rfl ?_
        refine TC.region ?_
        refine TL.val rfl rfl rfl (gives_move rfl rfl) ?_
        refine TL.val rfl rfl rfl (pm_loadV (k := 0) (i := 0) (n := 17) (v := .agg (x12.cells).toArray) rfl rfl prsag65 prssz65 rfl (by show 17 ≤ 17; decide) rfl) ?_
        refine TL.prowS (e := 65) (size := 17) (cs := flat Rs.cells [x12]) rfl rfl rfl rfl rfl (fun w => porbs23_1_99505 _ _ _ _ _ _ _ _ _ _ _ _ _ _ _ _ _ w) (by decide) rfl (fun g24 => ?_)
        refine TL.appendT (k := 2) rfl rfl rfl rfl Tryz.underlying23 porel23 rfl rfl rfl (fun w1 hw => pm_reads hw (k := 0) rfl) (flat_one rs_cel _) (by show _ * 128 ≤ _; omega) ((out ++ [x12]).length) (by rw [List.length_append]; rfl) (flat Rs.cells (out ++ [x12])) ((flat_app _ _).symm) (fun A25 c25 hA251 hA252 => ?_)
        refine TL.val rfl rfl rfl (gives_assign rfl rfl) ?_
        refine TL.end_ ?_
        refine TX.in_normal ?_
        refine TX.then_ ?_
        refine TC.region ?_
        refine TL.val rfl rfl rfl (gives_bin rfl rfl rfl (fun w => bin_add_ (r := ((i + 1 : Nat) : Int)) (by simp only [IntKind.wrap_i64]; omega) w)) ?_
        refine TL.val rfl rfl rfl (gives_move rfl rfl) ?_
        refine TL.end_ ?_
        exact TX.round (⟨(i + 1, (A25, c25), out ++ [x12]), by dsimp only; omega, filt_snoc_t (p := (fun r : Rs => r.ans && decide (r.ttl = ttl))) hx12 (by simp [q11, h15, q20]) hout, by dsimp only; rw [List.length_append]; show out.length + 1 ≤ _; omega, hA251, hA252⟩) (by show l.length - (i + 1) < l.length - i; omega) ⟨rfl, rfl, rfl, rfl, rfl, trivial⟩ (fun w1 hw => hw.pick [2] (by decide) rfl)
      · have q20 := of_decide_eq_false h20
        refine TL.val rfl rfl rfl (gives_pick rfl rfl rfl) ?_
        refine TL.end_ ?_
        refine TX.then_ ?_
        refine TC.condF rfl ?_
        refine TC.skip_ ?_
        refine TX.in_normal ?_
        refine TX.then_ ?_
        refine TC.region ?_
        refine TL.val rfl rfl rfl (gives_bin rfl rfl rfl (fun w => bin_add_ (r := ((i + 1 : Nat) : Int)) (by simp only [IntKind.wrap_i64]; omega) w)) ?_
        refine TL.val rfl rfl rfl (gives_move rfl rfl) ?_
        refine TL.end_ ?_
        exact TX.round (⟨(i + 1, (Ao, co), out), by dsimp only; omega, filt_snoc_f (p := (fun r : Rs => r.ans && decide (r.ttl = ttl))) hx12 (by simp [q11, h15, q20]) hout, by dsimp only; omega, houtc, houtm⟩) (by show l.length - (i + 1) < l.length - i; omega) ⟨rfl, rfl, rfl, rfl, rfl, trivial⟩ (fun w1 hw => hw.pick [1] (by decide) rfl)
    · refine TL.val rfl rfl rfl (gives_move rfl rfl) ?_
      refine TL.off rfl rfl rfl rfl rfl rfl ?_
      refine TL.off rfl rfl rfl rfl rfl rfl ?_
      refine TL.off rfl rfl rfl rfl rfl rfl ?_
      refine TL.off rfl rfl rfl rfl rfl rfl ?_
      refine TL.val rfl rfl rfl (gives_pick rfl rfl rfl) ?_
      refine TL.end_ ?_
      refine TX.then_ ?_
      refine TC.condF rfl ?_
      refine TC.skip_ ?_
      refine TX.in_normal ?_
      refine TX.then_ ?_
      refine TC.region ?_
      refine TL.val rfl rfl rfl (gives_bin rfl rfl rfl (fun w => bin_add_ (r := ((i + 1 : Nat) : Int)) (by simp only [IntKind.wrap_i64]; omega) w)) ?_
      refine TL.val rfl rfl rfl (gives_move rfl rfl) ?_
      refine TL.end_ ?_
      exact TX.round (⟨(i + 1, (Ao, co), out), by dsimp only; omega, filt_snoc_f (p := (fun r : Rs => r.ans && decide (r.ttl = ttl))) hx12 (by simp [q11, h15]) hout, by dsimp only; omega, houtc, houtm⟩) (by show l.length - (i + 1) < l.length - i; omega) ⟨rfl, rfl, rfl, rfl, rfl, trivial⟩ (fun w1 hw => hw.pick [1] (by decide) rfl)
  · have q11 := of_decide_eq_false h11
    refine TL.end_ ?_
    refine TX.then_ ?_
    refine TC.seq_ ?_
    refine TC.condF rfl ?_
    refine TC.exit_ ?_
    refine TX.then_exit ?_
    refine TX.then_exit ?_
    refine TX.in_same ?_
    refine TX.then_ ?_
    refine TC.seq_ ?_
    refine TC.region ?_
    refine TL.val rfl rfl rfl (gives_move rfl rfl) ?_
    refine TL.val rfl rfl rfl (gives_assign rfl rfl) ?_
    refine TL.end_ ?_
    refine TX.then_ ?_
    refine TC.ret_ ?_
    exact ret_tmp Tryz.results77 rfl (fun w1 hw => ⟨⟨((Ao, co), out), by rw [List.take_of_length_le (by omega)] at hout; exact hout.symm, by dsimp only; omega, houtm⟩, rfl, hw.pick [0] (by decide) rfl⟩)
set_option maxHeartbeats 1000000 in
theorem blackhole_l (A0 : Option Addr) (c0 : Nat) (l : List Rs) (losses t : Int) (w : World) (hr : Reads w w.heap.size 17 A0 l.length (flat Rs.cells l)) (hl1 : l.length ≤ 100000) :
    Calls Tryz.prog 72 #[.slice A0 l.length c0, .int .i64 losses, .int .i64 t] w fun e w' => e = .returned (.bool (bhF l losses t)) ∧ Below w.heap.size w w' := by
  refine begin_ (vs := [.slice A0 l.length c0, .int .i64 losses, .int .i64 t]) Tryz.func72 rfl rfl rfl ?_ (Pm.start w)
  refine TC.seq_ ?_
  refine TC.region ?_
  refine TL.val rfl rfl rfl (gives_assign rfl rfl) ?_
  refine TL.end_ ?_
  refine TX.then_ ?_
  refine TC.seq_ ?_
  refine TC.region ?_
  refine TL.val rfl rfl rfl (gives_assign rfl rfl) ?_
  refine TL.end_ ?_
  refine TX.then_ ?_
  refine TC.seq_ ?_
  refine TC.seq_ ?_
  refine TC.region ?_
  refine TL.val rfl rfl rfl (gives_move rfl rfl) ?_
  refine TL.val rfl rfl rfl (gives_len rfl Tryz.underlying23 rfl) ?_
  refine TL.val rfl rfl rfl (gives_move rfl rfl) ?_
  refine TL.end_ ?_
  refine TX.then_ ?_
  refine TC.block ?_
  refine TC.loop_ (α := {y : Nat × Int // y.1 ≤ l.length ∧ bend (l.take y.1) t = y.2}) (fun y => [(0, .slice A0 l.length c0), (1, .int .i64 losses), (2, .int .i64 t), (13, .slice A0 l.length c0), (14, .int .i64 (l.length : Nat)), (15, .int .i64 ((y.1.1 : Nat) : Int)), (7, .int .i64 y.1.2)]) (fun y => Pm w []) (fun y => l.length - y.1.1) (⟨(0, 0), Nat.zero_le _, rfl⟩) ⟨rfl, rfl, rfl, rfl, rfl, rfl, rfl, trivial⟩ (fun w1 hw => hw) ?_
  rintro ⟨⟨i, e⟩, hi, hst⟩
  dsimp only at hi hst ⊢
  refine TC.seq_ ?_
  refine TC.region ?_
  refine TL.vsplit rfl rfl rfl (gives_bin rfl rfl rfl (fun w => bin_lss w)) (fun h16 => ?_) (fun h16 => ?_)
  · have q16 := of_decide_eq_true h16
    refine TL.end_ ?_
    refine TX.then_ ?_
    refine TC.seq_ ?_
    refine TC.condT rfl ?_
    refine TC.skip_ ?_
    refine TX.then_ ?_
    refine TC.seq_ ?_
    refine TC.block ?_
    refine TC.seq_ ?_
    refine TC.region ?_
    have hi17 : i < l.length := by omega
    obtain ⟨x17, hx17⟩ : ∃ x17, l[i]? = some x17 := ⟨_, List.getElem?_eq_getElem hi17⟩
    obtain ⟨b17, o17, hA17, hbb17, hc17⟩ := hr.ad (by omega) (by decide)
    refine TL.val rfl rfl rfl (gives_at (v := .pointer (some ⟨b17, o17 + i * 17, none⟩)) rfl rfl rfl (fun w => at_el Tryz.underlying23 prssz65 hA17 _ _ i (by omega) rfl w)) ?_
    refine TL.val rfl rfl rfl (gives_loadR (off := o17 + i * 17) rfl rfl prsag65 prssz65 (rs_cel.len x17) (fun w1 hw j9 u9 h9 => (hw.bel.cell hbb17).trans <| flat_cell rs_cel hx17 hc17 j9 u9 h9)) ?_
    refine TL.pnew rfl rfl rfl (exec_alloc (cs := [.int .i64 0, .int .i64 0, .int .i64 0, .int .i64 0, .int .u32 0, .int .i64 0, .int .i64 0, .int .i64 0, .bool false, .bool false, .int .i64 0, .int .u32 0, .int .i64 0, .int .i64 0, .int .i64 0, .int .i64 0, .int .i64 0]) rfl arpzv65 rfl) (fun g9 => ?_)
    refine TL.pstore (k := 0) (vs := x17.cells) rfl rfl rfl rfl rfl rfl rfl prssz65 (rs_cel.one _) (by show 17 ≤ 17; decide) (L' := [.blk g9 65 x17.cells]) rfl ?_
    refine TL.end_ ?_
    refine TX.then_ ?_
    refine TC.seq_ ?_
    refine TC.region ?_
    refine TL.val rfl rfl rfl (pm_loadV (k := 0) (i := 0) (n := 17) (v := .agg (x17.cells).toArray) rfl rfl prsag65 prssz65 rfl (by show 17 ≤ 17; decide) rfl) ?_
    refine TL.callsplit rfl rfl rfl rfl rfl Tryz.func122 ablnm122 ablbd122 (fun w1 hw => finRs_any x17 w1) (fun h20 => ?_) (fun h20 => ?_)
    · refine TL.val rfl rfl rfl (gives_move rfl rfl) ?_
      refine TL.on rfl rfl rfl ?_
      refine TL.val rfl rfl rfl (gives_field (v := .pointer (some ⟨g9, 10, none⟩)) rfl rfl (fun w => prsfld65_10 _ _ w)) ?_
      refine TL.on rfl rfl rfl ?_
      refine TL.val rfl rfl rfl (pm_load (k := 0) (i := 10) rfl rfl pcmag3 rfl rfl) ?_
      refine TL.on rfl rfl rfl ?_
      refine TL.val rfl rfl rfl (gives_move rfl rfl) ?_
      refine TL.on rfl rfl rfl ?_
      refine TL.vsplit rfl rfl rfl (gives_bin rfl rfl rfl (fun w => bin_leq w)) (fun h25 => ?_) (fun h25 => ?_)
      · have q25 := of_decide_eq_true h25
        refine TL.val rfl rfl rfl (gives_pick rfl rfl rfl) ?_
        refine TL.val rfl rfl rfl (gives_move rfl rfl) ?_
        refine TL.on rfl rfl rfl ?_
        refine TL.val rfl rfl rfl (gives_move rfl rfl) ?_
        refine TL.on rfl rfl rfl ?_
        refine TL.vsplit rfl rfl rfl (gives_bin rfl rfl rfl (fun w => bin_eql w)) (fun h29 => ?_) (fun h29 => ?_)
        · have q29 := of_decide_eq_true h29
          refine TL.on rfl rfl rfl ?_
          refine TL.val rfl rfl rfl (gives_move rfl rfl) ?_
          refine TL.off rfl rfl rfl rfl rfl rfl ?_
          refine TL.off rfl rfl rfl rfl rfl rfl ?_
          refine TL.off rfl rfl rfl rfl rfl rfl ?_
          refine TL.off rfl rfl rfl rfl rfl rfl ?_
          refine TL.on rfl rfl rfl ?_
          refine TL.val rfl rfl rfl (gives_pick rfl rfl rfl) ?_
          refine TL.val rfl rfl rfl (gives_pick rfl rfl rfl) ?_
          refine TL.end_ ?_
          refine TX.then_ ?_
          refine TC.condT rfl ?_
          refine TC.region ?_
          refine TL.val rfl rfl rfl (gives_field (v := .pointer (some ⟨g9, 7, none⟩)) rfl rfl (fun w => prsfld65_7 _ _ w)) ?_
          refine TL.val rfl rfl rfl (pm_load (k := 0) (i := 7) rfl rfl pcmag3 rfl rfl) ?_
          refine TL.val rfl rfl rfl (gives_assign rfl rfl) ?_
          refine TL.end_ ?_
          refine TX.in_normal ?_
          refine TX.then_ ?_
          refine TC.region ?_
          refine TL.val rfl rfl rfl (gives_bin rfl rfl rfl (fun w => bin_add_ (r := ((i + 1 : Nat) : Int)) (by simp only [IntKind.wrap_i64]; omega) w)) ?_
          refine TL.val rfl rfl rfl (gives_move rfl rfl) ?_
          refine TL.end_ ?_
          exact TX.round (⟨(i + 1, x17.ttl), by dsimp only; omega, by rw [bend_snoc hx17 hst, if_pos (by simp [fitB, q16, h20, q25, q29])]⟩) (by show l.length - (i + 1) < l.length - i; omega) ⟨rfl, rfl, rfl, rfl, rfl, rfl, rfl, trivial⟩ (fun w1 hw => hw.pick [] (by decide) rfl)
        · have q29 := of_decide_eq_false h29
          refine TL.on rfl rfl rfl ?_
          refine TL.val rfl rfl rfl (gives_move rfl rfl) ?_
          refine TL.on rfl rfl rfl ?_
          refine TL.val rfl rfl rfl (gives_field (v := .pointer (some ⟨g9, 7, none⟩)) rfl rfl (fun w => prsfld65_7 _ _ w)) ?_
          refine TL.on rfl rfl rfl ?_
          refine TL.val rfl rfl rfl (pm_load (k := 0) (i := 7) rfl rfl pcmag3 rfl rfl) ?_
          refine TL.on rfl rfl rfl ?_
          refine TL.val rfl rfl rfl (gives_move rfl rfl) ?_
          refine TL.on rfl rfl rfl ?_
          refine TL.vsplit rfl rfl rfl (gives_bin rfl rfl rfl (fun w => bin_lss w)) (fun h34 => ?_) (fun h34 => ?_)
          · have q34 := of_decide_eq_true h34
            refine TL.on rfl rfl rfl ?_
            refine TL.val rfl rfl rfl (gives_pick rfl rfl rfl) ?_
            refine TL.val rfl rfl rfl (gives_pick rfl rfl rfl) ?_
            refine TL.end_ ?_
            refine TX.then_ ?_
            refine TC.condT rfl ?_
            refine TC.region ?_
            refine TL.val rfl rfl rfl (gives_field (v := .pointer (some ⟨g9, 7, none⟩)) rfl rfl (fun w => prsfld65_7 _ _ w)) ?_
            refine TL.val rfl rfl rfl (pm_load (k := 0) (i := 7) rfl rfl pcmag3 rfl rfl) ?_
            refine TL.val rfl rfl rfl (gives_assign rfl rfl) ?_
            refine TL.end_ ?_
            refine TX.in_normal ?_
            refine TX.then_ ?_
            refine TC.region ?_
            refine TL.val rfl rfl rfl (gives_bin rfl rfl rfl (fun w => bin_add_ (r := ((i + 1 : Nat) : Int)) (by simp only [IntKind.wrap_i64]; omega) w)) ?_
            refine TL.val rfl rfl rfl (gives_move rfl rfl) ?_
            refine TL.end_ ?_
            exact TX.round (⟨(i + 1, x17.ttl), by dsimp only; omega, by rw [bend_snoc hx17 hst, if_pos (by simp [fitB, q16, h20, q25, q29, q34])]⟩) (by show l.length - (i + 1) < l.length - i; omega) ⟨rfl, rfl, rfl, rfl, rfl, rfl, rfl, trivial⟩ (fun w1 hw => hw.pick [] (by decide) rfl)
          · have q34 := of_decide_eq_false h34
            refine TL.on rfl rfl rfl ?_
            refine TL.val rfl rfl rfl (gives_pick rfl rfl rfl) ?_
            refine TL.val rfl rfl rfl (gives_pick rfl rfl rfl) ?_
            refine TL.end_ ?_
            refine TX.then_ ?_
            refine TC.condF rfl ?_
            refine TC.skip_ ?_
            refine TX.in_normal ?_
            refine TX.then_ ?_
            refine TC.region ?_
            refine TL.val rfl rfl rfl (gives_bin rfl rfl rfl (fun w => bin_add_ (r := ((i + 1 : Nat) : Int)) (by simp only [IntKind.wrap_i64]; omega) w)) ?_
            refine TL.val rfl rfl rfl (gives_move rfl rfl) ?_
            refine TL.end_ ?_
            exact TX.round (⟨(i + 1, e), by dsimp only; omega, by rw [bend_snoc hx17 hst, if_neg (by simp [fitB, q16, h20, q25, q29, q34])]⟩) (by show l.length - (i + 1) < l.length - i; omega) ⟨rfl, rfl, rfl, rfl, rfl, rfl, rfl, trivial⟩ (fun w1 hw => hw.pick [] (by decide) rfl)
      · have q25 := of_decide_eq_false h25
        refine TL.val rfl rfl rfl (gives_pick rfl rfl rfl) ?_
        refine TL.val rfl rfl rfl (gives_move rfl rfl) ?_
        refine TL.off rfl rfl rfl rfl rfl rfl ?_
        refine TL.off rfl rfl rfl rfl rfl rfl ?_
        refine TL.off rfl rfl rfl rfl rfl rfl ?_
        refine TL.offU rfl rfl rfl rfl rfl ?_
        refine TL.offU rfl rfl rfl rfl rfl ?_
        refine TL.offU rfl rfl rfl rfl rfl ?_
        refine TL.offU rfl rfl rfl rfl rfl ?_
        refine TL.off rfl rfl rfl rfl rfl rfl ?_
        refine TL.val rfl rfl rfl (gives_pick rfl rfl rfl) ?_
        refine TL.end_ ?_
        refine TX.then_ ?_
        refine TC.condF rfl ?_
        refine TC.skip_ ?_
        refine TX.in_normal ?_
        refine TX.then_ ?_
        refine TC.region ?_
        refine TL.val rfl rfl rfl (gives_bin rfl rfl rfl (fun w => bin_add_ (r := ((i + 1 : Nat) : Int)) (by simp only [IntKind.wrap_i64]; omega) w)) ?_
        refine TL.val rfl rfl rfl (gives_move rfl rfl) ?_
        refine TL.end_ ?_
        exact TX.round (⟨(i + 1, e), by dsimp only; omega, by rw [bend_snoc hx17 hst, if_neg (by simp [fitB, q16, h20, q25])]⟩) (by show l.length - (i + 1) < l.length - i; omega) ⟨rfl, rfl, rfl, rfl, rfl, rfl, rfl, trivial⟩ (fun w1 hw => hw.pick [] (by decide) rfl)
    · refine TL.val rfl rfl rfl (gives_move rfl rfl) ?_
      refine TL.off rfl rfl rfl rfl rfl rfl ?_
      refine TL.off rfl rfl rfl rfl rfl rfl ?_
      refine TL.off rfl rfl rfl rfl rfl rfl ?_
      refine TL.off rfl rfl rfl rfl rfl rfl ?_
      refine TL.val rfl rfl rfl (gives_pick rfl rfl rfl) ?_
      refine TL.val rfl rfl rfl (gives_move rfl rfl) ?_
      refine TL.off rfl rfl rfl rfl rfl rfl ?_
      refine TL.off rfl rfl rfl rfl rfl rfl ?_
      refine TL.off rfl rfl rfl rfl rfl rfl ?_
      refine TL.offU rfl rfl rfl rfl rfl ?_
      refine TL.offU rfl rfl rfl rfl rfl ?_
      refine TL.offU rfl rfl rfl rfl rfl ?_
      refine TL.offU rfl rfl rfl rfl rfl ?_
      refine TL.off rfl rfl rfl rfl rfl rfl ?_
      refine TL.val rfl rfl rfl (gives_pick rfl rfl rfl) ?_
      refine TL.end_ ?_
      refine TX.then_ ?_
      refine TC.condF rfl ?_
      refine TC.skip_ ?_
      refine TX.in_normal ?_
      refine TX.then_ ?_
      refine TC.region ?_
      refine TL.val rfl rfl rfl (gives_bin rfl rfl rfl (fun w => bin_add_ (r := ((i + 1 : Nat) : Int)) (by simp only [IntKind.wrap_i64]; omega) w)) ?_
      refine TL.val rfl rfl rfl (gives_move rfl rfl) ?_
      refine TL.end_ ?_
      exact TX.round (⟨(i + 1, e), by dsimp only; omega, by rw [bend_snoc hx17 hst, if_neg (by simp [fitB, q16, h20])]⟩) (by show l.length - (i + 1) < l.length - i; omega) ⟨rfl, rfl, rfl, rfl, rfl, rfl, rfl, trivial⟩ (fun w1 hw => hw.pick [] (by decide) rfl)
  · have q16 := of_decide_eq_false h16
    refine TL.end_ ?_
    refine TX.then_ ?_
    refine TC.seq_ ?_
    refine TC.condF rfl ?_
    refine TC.exit_ ?_
    refine TX.then_exit ?_
    refine TX.then_exit ?_
    refine TX.in_same ?_
    refine TX.then_ ?_
    refine TC.seq_ ?_
    refine TC.region ?_
    refine TL.val rfl rfl rfl (gives_assign rfl rfl) ?_
    refine TL.end_ ?_
    refine TX.then_ ?_
    refine TC.seq_ ?_
    refine TC.seq_ ?_
    have hend : bend l t = e := by rw [List.take_of_length_le (by omega)] at hst; exact hst
    refine TC.region ?_
    refine TL.val rfl rfl rfl (gives_move rfl rfl) ?_
    refine TL.val rfl rfl rfl (gives_len rfl Tryz.underlying23 rfl) ?_
    refine TL.val rfl rfl rfl (gives_move rfl rfl) ?_
    refine TL.end_ ?_
    refine TX.then_ ?_
    refine TC.block ?_
    refine TC.loop_ (α := {y : Nat × Nat // y.1 ≤ l.length ∧ lostN e t (l.take y.1) = y.2 ∧ y.2 ≤ y.1}) (fun y => [(0, .slice A0 l.length c0), (1, .int .i64 losses), (2, .int .i64 t), (7, .int .i64 e), (40, .slice A0 l.length c0), (41, .int .i64 (l.length : Nat)), (42, .int .i64 ((y.1.1 : Nat) : Int)), (10, .int .i64 ((y.1.2 : Nat) : Int))]) (fun y => Pm w []) (fun y => l.length - y.1.1) (⟨(0, 0), Nat.zero_le _, rfl, Nat.le_refl _⟩) ⟨rfl, rfl, rfl, rfl, rfl, rfl, rfl, rfl, trivial⟩ (fun w1 hw => hw) ?_
    rintro ⟨⟨j, c⟩, hj, hc, hcj⟩
    dsimp only at hj hc hcj ⊢
    refine TC.seq_ ?_
    refine TC.region ?_
    refine TL.vsplit rfl rfl rfl (gives_bin rfl rfl rfl (fun w => bin_lss w)) (fun h43 => ?_) (fun h43 => ?_)
    · have q43 := of_decide_eq_true h43
      refine TL.end_ ?_
      refine TX.then_ ?_
      refine TC.seq_ ?_
      refine TC.condT rfl ?_
      refine TC.skip_ ?_
      refine TX.then_ ?_
      refine TC.seq_ ?_
      refine TC.block ?_
      refine TC.seq_ ?_
      refine TC.region ?_
      have hi44 : j < l.length := by omega
      obtain ⟨x44, hx44⟩ : ∃ x44, l[j]? = some x44 := ⟨_, List.getElem?_eq_getElem hi44⟩
      obtain ⟨b44, o44, hA44, hbb44, hc44⟩ := hr.ad (by omega) (by decide)
      refine TL.val rfl rfl rfl (gives_at (v := .pointer (some ⟨b44, o44 + j * 17, none⟩)) rfl rfl rfl (fun w => at_el Tryz.underlying23 prssz65 hA44 _ _ j (by omega) rfl w)) ?_
      refine TL.val rfl rfl rfl (gives_loadR (off := o44 + j * 17) rfl rfl prsag65 prssz65 (rs_cel.len x44) (fun w1 hw j9 u9 h9 => (hw.bel.cell hbb44).trans <| flat_cell rs_cel hx44 hc44 j9 u9 h9)) ?_
      refine TL.pnew rfl rfl rfl (exec_alloc (cs := [.int .i64 0, .int .i64 0, .int .i64 0, .int .i64 0, .int .u32 0, .int .i64 0, .int .i64 0, .int .i64 0, .bool false, .bool false, .int .i64 0, .int .u32 0, .int .i64 0, .int .i64 0, .int .i64 0, .int .i64 0, .int .i64 0]) rfl arpzv65 rfl) (fun g12 => ?_)
      refine TL.pstore (k := 0) (vs := x44.cells) rfl rfl rfl rfl rfl rfl rfl prssz65 (rs_cel.one _) (by show 17 ≤ 17; decide) (L' := [.blk g12 65 x44.cells]) rfl ?_
      refine TL.end_ ?_
      refine TX.then_ ?_
      refine TC.seq_ ?_
      refine TC.region ?_
      refine TL.val rfl rfl rfl (gives_field (v := .pointer (some ⟨g12, 8, none⟩)) rfl rfl (fun w => prsfld65_8 _ _ w)) ?_
      refine TL.vsplit rfl rfl rfl (pm_load (k := 0) (i := 8) rfl rfl prsag4 rfl rfl) (fun h47 => ?_) (fun h47 => ?_)
      · refine TL.val rfl rfl rfl (gives_boolnot rfl rfl) ?_
        refine TL.val rfl rfl rfl (gives_move rfl rfl) ?_
        refine TL.off rfl rfl rfl rfl rfl rfl ?_
        refine TL.off rfl rfl rfl rfl rfl rfl ?_
        refine TL.off rfl rfl rfl rfl rfl rfl ?_
        refine TL.off rfl rfl rfl rfl rfl rfl ?_
        refine TL.val rfl rfl rfl (gives_pick rfl rfl rfl) ?_
        refine TL.val rfl rfl rfl (gives_move rfl rfl) ?_
        refine TL.off rfl rfl rfl rfl rfl rfl ?_
        refine TL.off rfl rfl rfl rfl rfl rfl ?_
        refine TL.off rfl rfl rfl rfl rfl rfl ?_
        refine TL.off rfl rfl rfl rfl rfl rfl ?_
        refine TL.val rfl rfl rfl (gives_pick rfl rfl rfl) ?_
        refine TL.end_ ?_
        refine TX.then_ ?_
        refine TC.condF rfl ?_
        refine TC.skip_ ?_
        refine TX.in_normal ?_
        refine TX.then_ ?_
        refine TC.region ?_
        refine TL.val rfl rfl rfl (gives_bin rfl rfl rfl (fun w => bin_add_ (r := ((j + 1 : Nat) : Int)) (by simp only [IntKind.wrap_i64]; omega) w)) ?_
        refine TL.val rfl rfl rfl (gives_move rfl rfl) ?_
        refine TL.end_ ?_
        exact TX.round (⟨(j + 1, c), by dsimp only; omega, lost_f hx44 (by simp [lostR, q43, h47]) hc, by dsimp only; omega⟩) (by show l.length - (j + 1) < l.length - j; omega) ⟨rfl, rfl, rfl, rfl, rfl, rfl, rfl, rfl, trivial⟩ (fun w1 hw => hw.pick [] (by decide) rfl)
      · refine TL.val rfl rfl rfl (gives_boolnot rfl rfl) ?_
        refine TL.val rfl rfl rfl (gives_move rfl rfl) ?_
        refine TL.on rfl rfl rfl ?_
        refine TL.val rfl rfl rfl (gives_field (v := .pointer (some ⟨g12, 7, none⟩)) rfl rfl (fun w => prsfld65_7 _ _ w)) ?_
        refine TL.on rfl rfl rfl ?_
        refine TL.val rfl rfl rfl (pm_load (k := 0) (i := 7) rfl rfl pcmag3 rfl rfl) ?_
        refine TL.on rfl rfl rfl ?_
        refine TL.val rfl rfl rfl (gives_move rfl rfl) ?_
        refine TL.on rfl rfl rfl ?_
        refine TL.vsplit rfl rfl rfl (gives_bin rfl rfl rfl (fun w => bin_geq w)) (fun h53 => ?_) (fun h53 => ?_)
        · have q53 := of_decide_eq_true h53
          refine TL.val rfl rfl rfl (gives_pick rfl rfl rfl) ?_
          refine TL.val rfl rfl rfl (gives_move rfl rfl) ?_
          refine TL.on rfl rfl rfl ?_
          refine TL.val rfl rfl rfl (gives_field (v := .pointer (some ⟨g12, 3, none⟩)) rfl rfl (fun w => prsfld65_3 _ _ w)) ?_
          refine TL.on rfl rfl rfl ?_
          refine TL.val rfl rfl rfl (pm_load (k := 0) (i := 3) rfl rfl pcmag3 rfl rfl) ?_
          refine TL.on rfl rfl rfl ?_
          refine TL.val rfl rfl rfl (gives_move rfl rfl) ?_
          refine TL.on rfl rfl rfl ?_
          refine TL.vsplit rfl rfl rfl (gives_bin rfl rfl rfl (fun w => bin_geq w)) (fun h59 => ?_) (fun h59 => ?_)
          · have q59 := of_decide_eq_true h59
            refine TL.val rfl rfl rfl (gives_pick rfl rfl rfl) ?_
            refine TL.end_ ?_
            refine TX.then_ ?_
            refine TC.condT rfl ?_
            refine TC.region ?_
            refine TL.val rfl rfl rfl (gives_move rfl rfl) ?_
            refine TL.val rfl rfl rfl (gives_bin rfl rfl rfl (fun w => bin_add_ (r := ((c + 1 : Nat) : Int)) (by simp only [IntKind.wrap_i64]; omega) w)) ?_
            refine TL.val rfl rfl rfl (gives_assign rfl rfl) ?_
            refine TL.end_ ?_
            refine TX.in_normal ?_
            refine TX.then_ ?_
            refine TC.region ?_
            refine TL.val rfl rfl rfl (gives_bin rfl rfl rfl (fun w => bin_add_ (r := ((j + 1 : Nat) : Int)) (by simp only [IntKind.wrap_i64]; omega) w)) ?_
            refine TL.val rfl rfl rfl (gives_move rfl rfl) ?_
            refine TL.end_ ?_
            exact TX.round (⟨(j + 1, c + 1), by dsimp only; omega, lost_t hx44 (by simp [lostR, q43, h47, q53, q59]) hc, by dsimp only; omega⟩) (by show l.length - (j + 1) < l.length - j; omega) ⟨rfl, rfl, rfl, rfl, rfl, rfl, rfl, rfl, trivial⟩ (fun w1 hw => hw.pick [] (by decide) rfl)
          · have q59 := of_decide_eq_false h59
            refine TL.val rfl rfl rfl (gives_pick rfl rfl rfl) ?_
            refine TL.end_ ?_
            refine TX.then_ ?_
            refine TC.condF rfl ?_
            refine TC.skip_ ?_
            refine TX.in_normal ?_
            refine TX.then_ ?_
            refine TC.region ?_
            refine TL.val rfl rfl rfl (gives_bin rfl rfl rfl (fun w => bin_add_ (r := ((j + 1 : Nat) : Int)) (by simp only [IntKind.wrap_i64]; omega) w)) ?_
            refine TL.val rfl rfl rfl (gives_move rfl rfl) ?_
            refine TL.end_ ?_
            exact TX.round (⟨(j + 1, c), by dsimp only; omega, lost_f hx44 (by simp [lostR, q43, h47, q53, q59]) hc, by dsimp only; omega⟩) (by show l.length - (j + 1) < l.length - j; omega) ⟨rfl, rfl, rfl, rfl, rfl, rfl, rfl, rfl, trivial⟩ (fun w1 hw => hw.pick [] (by decide) rfl)
        · have q53 := of_decide_eq_false h53
          refine TL.val rfl rfl rfl (gives_pick rfl rfl rfl) ?_
          refine TL.val rfl rfl rfl (gives_move rfl rfl) ?_
          refine TL.off rfl rfl rfl rfl rfl rfl ?_
          refine TL.off rfl rfl rfl rfl rfl rfl ?_
          refine TL.off rfl rfl rfl rfl rfl rfl ?_
          refine TL.off rfl rfl rfl rfl rfl rfl ?_
          refine TL.val rfl rfl rfl (gives_pick rfl rfl rfl) ?_
          refine TL.end_ ?_
          refine TX.then_ ?_
          refine TC.condF rfl ?_
          refine TC.skip_ ?_
          refine TX.in_normal ?_
          refine TX.then_ ?_
          refine TC.region ?_
          refine TL.val rfl rfl rfl (gives_bin rfl rfl rfl (fun w => bin_add_ (r := ((j + 1 : Nat) : Int)) (by simp only [IntKind.wrap_i64]; omega) w)) ?_
          refine TL.val rfl rfl rfl (gives_move rfl rfl) ?_
          refine TL.end_ ?_
          exact TX.round (⟨(j + 1, c), by dsimp only; omega, lost_f hx44 (by simp [lostR, q43, h47, q53]) hc, by dsimp only; omega⟩) (by show l.length - (j + 1) < l.length - j; omega) ⟨rfl, rfl, rfl, rfl, rfl, rfl, rfl, rfl, trivial⟩ (fun w1 hw => hw.pick [] (by decide) rfl)
    · have q43 := of_decide_eq_false h43
      refine TL.end_ ?_
      refine TX.then_ ?_
      refine TC.seq_ ?_
      refine TC.condF rfl ?_
      refine TC.exit_ ?_
      refine TX.then_exit ?_
      refine TX.then_exit ?_
      refine TX.in_same ?_
      refine TX.then_ ?_
      refine TC.seq_ ?_
      refine TC.region ?_
      refine TL.val rfl rfl rfl (gives_move rfl rfl) ?_
      refine TL.vsplit rfl rfl rfl (gives_bin rfl rfl rfl (fun w => bin_gtr w)) (fun h65 => ?_) (fun h65 => ?_)
      · have q65 := of_decide_eq_true h65
        refine TL.val rfl rfl rfl (gives_move rfl rfl) ?_
        refine TL.on rfl rfl rfl ?_
        refine TL.val rfl rfl rfl (gives_move rfl rfl) ?_
        refine TL.on rfl rfl rfl ?_
        refine TL.val rfl rfl rfl (gives_move rfl rfl) ?_
        refine TL.on rfl rfl rfl ?_
        refine TL.vsplit rfl rfl rfl (gives_bin rfl rfl rfl (fun w => bin_geq w)) (fun h69 => ?_) (fun h69 => ?_)
        · have q69 := of_decide_eq_true h69
          refine TL.val rfl rfl rfl (gives_pick rfl rfl rfl) ?_
          refine TL.val rfl rfl rfl (gives_assign rfl rfl) ?_
          refine TL.end_ ?_
          refine TX.then_ ?_
          refine TC.ret_ ?_
          have hc2 : lostN e t l = c := by rw [List.take_of_length_le (by omega)] at hc; exact hc
          have hE : bhF l losses t = true := by unfold bhF; rw [hend, hc2]; simp only [Bool.and_eq_true, Bool.and_eq_false_iff, decide_eq_true_eq, decide_eq_false_iff_not]; omega
          exact ret_tmp Tryz.results72 rfl (fun w1 hw => ⟨by rw [hE], hw.bel⟩)
        · have q69 := of_decide_eq_false h69
          refine TL.val rfl rfl rfl (gives_pick rfl rfl rfl) ?_
          refine TL.val rfl rfl rfl (gives_assign rfl rfl) ?_
          refine TL.end_ ?_
          refine TX.then_ ?_
          refine TC.ret_ ?_
          have hc2 : lostN e t l = c := by rw [List.take_of_length_le (by omega)] at hc; exact hc
          have hE : bhF l losses t = false := by unfold bhF; rw [hend, hc2]; simp only [Bool.and_eq_true, Bool.and_eq_false_iff, decide_eq_true_eq, decide_eq_false_iff_not]; omega
          exact ret_tmp Tryz.results72 rfl (fun w1 hw => ⟨by rw [hE], hw.bel⟩)
      · have q65 := of_decide_eq_false h65
        refine TL.val rfl rfl rfl (gives_move rfl rfl) ?_
        refine TL.off rfl rfl rfl rfl rfl rfl ?_
        refine TL.off rfl rfl rfl rfl rfl rfl ?_
        refine TL.off rfl rfl rfl rfl rfl rfl ?_
        refine TL.val rfl rfl rfl (gives_pick rfl rfl rfl) ?_
        refine TL.val rfl rfl rfl (gives_assign rfl rfl) ?_
        refine TL.end_ ?_
        refine TX.then_ ?_
        refine TC.ret_ ?_
        have hc2 : lostN e t l = c := by rw [List.take_of_length_le (by omega)] at hc; exact hc
        have hE : bhF l losses t = false := by unfold bhF; rw [hend, hc2]; simp only [Bool.and_eq_true, Bool.and_eq_false_iff, decide_eq_true_eq, decide_eq_false_iff_not]; omega
        exact ret_tmp Tryz.results72 rfl (fun w1 hw => ⟨by rw [hE], hw.bel⟩)
end Go.Proofs.YtijmpjfafpodhaaGreat

namespace Go.Proofs.YtijmpjfafpodhaaGreat
open Go.RowKit
set_option maxRecDepth 20000
def IxOk (p : Rs → Bool) (l : List Rs) (z : Int) : Prop := (z = -1 ∧ ∀ r ∈ l, p r = false) ∨ ∃ i : Nat, z = (i : Int) ∧ i < l.length ∧ (∀ r ∈ l.take i, p r = false) ∧ ∃ y, l[i]? = some y ∧ p y = true
structure DelI (p : Rs → Bool) (l : List Rs) (k j : Nat) (ys : List Rs) : Prop where
  len : ys.length = l.length
  kj : k < j
  jn : j ≤ l.length
  pre : ys.take k = (l.take j).filter fun r => !p r
  post : ∀ q, j ≤ q → ys[q]? = l[q]?
section
variable {p : Rs → Bool} {l ys : List Rs} {k j i : Nat} {x : Rs}
theorem all_keep (h : ∀ r ∈ l, p r = false) : (l.filter fun r => !p r) = l := List.filter_eq_self.2 fun r hr => by rw [h r hr]; rfl
theorem DelI.start (hi : i < l.length) (h : ∀ r ∈ l.take i, p r = false) (hx : l[i]? = some x) (hp : p x = true) : DelI p l i (i + 1) l := ⟨rfl, Nat.lt_succ_self _, hi, by
  rw [List.take_add_one, hx, List.filter_append, all_keep h]
  simp [hp], fun q _ => rfl⟩
theorem DelI.at_ (h : DelI p l k j ys) (hx : ys[j]? = some x) : l[j]? = some x := by rw [← h.post j (Nat.le_refl _)]; exact hx
theorem DelI.out (h : DelI p l k j ys) (hj : j < l.length) (hx : ys[j]? = some x) (hp : p x = true) : DelI p l k (j + 1) ys := ⟨h.len, by have := h.kj; omega, hj, by
  rw [List.take_add_one, h.at_ hx, List.filter_append, h.pre]
  simp [hp], fun q hq => h.post q (by omega)⟩
theorem DelI.keep (h : DelI p l k j ys) (hj : j < l.length) (hx : ys[j]? = some x) (hp : p x = false) : DelI p l (k + 1) (j + 1) (ys.set k x) := ⟨by rw [List.length_set]; exact h.len, by have := h.kj; omega, hj, by
  have hk : k < ys.length := by have := h.kj; have := h.len; omega
  rw [List.take_add_one, List.getElem?_set_self hk, List.take_set_of_le (Nat.le_refl _), List.take_add_one, h.at_ hx, List.filter_append, h.pre]
  simp [hp], fun q hq => by rw [List.getElem?_set_ne (by have := h.kj; omega)]; exact h.post q (by omega)⟩
theorem DelI.fin (h : DelI p l k j ys) (hj : l.length ≤ j) {n : Nat} {z : Rs} : (ys.take k ++ List.replicate n z).take k = (l.filter fun r => !p r) ∧ (l.filter fun r => !p r).length = k := by
  have hk : k ≤ ys.length := by have := h.kj; have := h.len; have := h.jn; omega
  have e := h.pre
  rw [List.take_of_length_le hj] at e
  have e2 : (ys.take k).length = k := by rw [List.length_take]; omega
  refine ⟨by rw [List.take_left' e2]; exact e, ?_⟩
  rw [← e]; exact e2
end
theorem adenm131 : (Tryz.f131.name == "runtime.NumGoroutine") = false := by decide
theorem adebd131 : Tryz.f131.body.isNone = false := rfl
set_option maxHeartbeats 1000000 in
theorem ixG_any (A0 : Option Addr) (c0 : Nat) (l : List Rs) (p : Rs → Bool) (f : FuncId) (fn : Func) (cap : Array Value) (w : World) (hr : Reads w w.heap.size 17 A0 l.length (flat Rs.cells l)) (hl1 : l.length ≤ 100000) (hfn : Tryz.prog.funcs[f]? = some fn) (hnm : (fn.name == "runtime.NumGoroutine") = false) (hbd : fn.body.isNone = false) (hf : ∀ (x : Rs) (w1 : World), Below w.heap.size w w1 → Calls Tryz.prog f (#[] ++ [Value.agg x.cells.toArray].toArray ++ cap) w1 fun e w' => e = .returned (.bool (p x)) ∧ Below w1.heap.size w1 w') :
    Calls Tryz.prog 131 #[.slice A0 l.length c0, .func (.func f) #[] cap] w fun e w' => ∃ x : {z : Int // IxOk p l z}, e = .returned (.int .i64 x.1) ∧ Below w.heap.size w w' := by
  refine begin_ (vs := [.slice A0 l.length c0, .func (.func f) #[] cap]) Tryz.func131 rfl rfl rfl ?_ (Pm.start w)
  refine TC.seq_ ?_
  refine TC.region ?_
  refine TL.val rfl rfl rfl (gives_assign rfl rfl) ?_
  refine TL.end_ ?_
  refine TX.then_ ?_
  refine TC.seq_ ?_
  refine TC.seq_ ?_
  refine TC.region ?_
  refine TL.val rfl rfl rfl (gives_move rfl rfl) ?_
  refine TL.val rfl rfl rfl (gives_len rfl Tryz.underlying23 rfl) ?_
  refine TL.val rfl rfl rfl (gives_move rfl rfl) ?_
  refine TL.end_ ?_
  refine TX.then_ ?_
  refine TC.block ?_
  refine TC.loop_ (α := {i : Nat // i ≤ l.length ∧ ∀ r ∈ l.take i, p r = false}) (fun y => [(0, .slice A0 l.length c0), (1, .func (.func f) #[] cap), (7, .int .i64 (l.length : Nat)), (8, .int .i64 ((y.1 : Nat) : Int))]) (fun y => Pm w []) (fun y => l.length - y.1) (⟨0, Nat.zero_le _, fun r hr => by rw [List.take_zero] at hr; cases hr⟩) ⟨rfl, rfl, rfl, rfl, trivial⟩ (fun w1 hw => hw) ?_
  rintro ⟨i, hi, hall⟩
  try dsimp only at hi hall ⊢
  refine TC.seq_ ?_
  refine TC.region ?_
  refine TL.vsplit rfl rfl rfl (gives_bin rfl rfl rfl (fun w => bin_lss w)) (fun h9 => ?_) (fun h9 => ?_)
  · have q9 := of_decide_eq_true h9
    refine TL.end_ ?_
    refine TX.then_ ?_
    refine TC.seq_ ?_
    refine TC.condT rfl ?_
    refine TC.skip_ ?_
    refine TX.then_ ?_
    refine TC.seq_ ?_
    refine TC.block ?_
    refine TC.seq_ ?_
    refine TC.region ?_
    refine TL.val rfl rfl rfl (gives_move rfl rfl) ?_
    refine TL.val rfl rfl rfl (gives_assign rfl rfl) ?_
    refine TL.end_ ?_
    refine TX.then_ ?_
    refine TC.seq_ ?_
    refine TC.region ?_
    refine TL.val rfl rfl rfl (gives_move rfl rfl) ?_
    refine TL.val rfl rfl rfl (gives_move rfl rfl) ?_
    refine TL.val rfl rfl rfl (gives_move rfl rfl) ?_
    have hi14 : i < l.length := by omega
    obtain ⟨x14, hx14⟩ : ∃ x14, l[i]? = some x14 := ⟨_, List.getElem?_eq_getElem hi14⟩
    obtain ⟨b14, o14, hA14, hbb14, hc14⟩ := hr.ad (by omega) (by decide)
    refine TL.val rfl rfl rfl (gives_at (v := .pointer (some ⟨b14, o14 + i * 17, none⟩)) rfl rfl rfl (fun w => at_el Tryz.underlying23 prssz65 hA14 _ _ i (by omega) rfl w)) ?_
    refine TL.val rfl rfl rfl (gives_loadR (off := o14 + i * 17) rfl rfl prsag65 prssz65 (rs_cel.len x14) (fun w1 hw j9 u9 h9 => (hw.bel.cell hbb14).trans <| flat_cell rs_cel hx14 hc14 j9 u9 h9)) ?_
    obtain ⟨bv, hbv⟩ : ∃ b, p x14 = b := ⟨_, rfl⟩
    refine TL.callE1 (r := .bool bv) rfl rfl rfl (ent_val rfl rfl rfl hfn hnm hbd rfl) (fun w1 hw => by rw [← hbv]; exact hf x14 w1 hw.bel) ?_
    refine TL.end_ ?_
    refine TX.then_ ?_
    refine TC.split (t := bv) rfl (fun c16 => ?_) (fun c16 => ?_)
    · refine TC.seq_ ?_
      refine TC.region ?_
      refine TL.val rfl rfl rfl (gives_move rfl rfl) ?_
      refine TL.val rfl rfl rfl (gives_assign rfl rfl) ?_
      refine TL.end_ ?_
      refine TX.then_ ?_
      refine TC.ret_ ?_
      refine TX.in_ret ?_
      refine TX.then_ret ?_
      refine TX.then_ret ?_
      refine TX.in_ret ?_
      refine TX.then_ret ?_
      exact ret_tmp Tryz.results131 rfl (fun w1 hw => ⟨⟨(i : Int), .inr ⟨i, rfl, by omega, hall, x14, hx14, by rw [hbv, c16]⟩⟩, rfl, hw.bel⟩)
    · refine TC.skip_ ?_
      refine TX.in_normal ?_
      refine TX.then_ ?_
      refine TC.region ?_
      refine TL.val rfl rfl rfl (gives_bin rfl rfl rfl (fun w => bin_add_ (r := ((i + 1 : Nat) : Int)) (by simp only [IntKind.wrap_i64]; omega) w)) ?_
      refine TL.val rfl rfl rfl (gives_move rfl rfl) ?_
      refine TL.end_ ?_
      exact TX.round (⟨i + 1, by omega, fun r hr => by rcases (mem_take_snoc hx14).1 hr with h9 | h9; exact hall r h9; rw [h9, hbv, c16]⟩) (by show l.length - (i + 1) < l.length - i; omega) ⟨rfl, rfl, rfl, rfl, trivial⟩ (fun w1 hw => hw)
  · have q9 := of_decide_eq_false h9
    refine TL.end_ ?_
    refine TX.then_ ?_
    refine TC.seq_ ?_
    refine TC.condF rfl ?_
    refine TC.exit_ ?_
    refine TX.then_exit ?_
    refine TX.then_exit ?_
    refine TX.in_same ?_
    refine TX.then_ ?_
    refine TC.seq_ ?_
    refine TC.region ?_
    refine TL.val rfl rfl rfl (gives_assign rfl rfl) ?_
    refine TL.end_ ?_
    refine TX.then_ ?_
    refine TC.ret_ ?_
    exact ret_tmp Tryz.results131 rfl (fun w1 hw => ⟨⟨-1, .inl ⟨rfl, by rw [List.take_of_length_le (by omega)] at hall; exact hall⟩⟩, rfl, hw.bel⟩)
set_option maxHeartbeats 1000000 in
theorem delG_any (w0 : Base) (F : List Pc) (A0 : Option Addr) (c0 : Nat) (l : List Rs) (p : Rs → Bool) (f : FuncId) (fn : Func) (cap : Array Value) (w : World) (hw0 : Pm w0 ([.row (.slice A0 l.length c0) 65 17 l.length (flat Rs.cells l)] ++ F) w) (hl1 : l.length ≤ 100000) (hmc : l.length ≤ c0) (hcm : c0 ≤ maxLen) (hfn : Tryz.prog.funcs[f]? = some fn) (hnm : (fn.name == "runtime.NumGoroutine") = false) (hbd : fn.body.isNone = false) (hf : ∀ (x : Rs) (w1 : World), (∃ L1, Pm w0 (L1 ++ F) w1) → Calls Tryz.prog f (#[] ++ [Value.agg x.cells.toArray].toArray ++ cap) w1 fun e w' => e = .returned (.bool (p x)) ∧ Below w1.heap.size w1 w') :
    Calls Tryz.prog 108 #[.slice A0 l.length c0, .func (.func f) #[] cap] w fun e w' => e = .returned (.slice A0 (l.filter fun r => !p r).length c0) ∧ Pm w0 ([.row (.slice A0 (l.filter fun r => !p r).length c0) 65 17 (l.filter fun r => !p r).length (flat Rs.cells (l.filter fun r => !p r))] ++ F) w' := by
  refine begin_ (vs := [.slice A0 l.length c0, .func (.func f) #[] cap]) (I := Pm w0 ([.row (.slice A0 l.length c0) 65 17 l.length (flat Rs.cells l)] ++ F)) Tryz.func108 rfl rfl rfl ?_ hw0
  refine TC.seq_ ?_
  refine TC.region ?_
  refine TL.val rfl rfl rfl (gives_assign rfl rfl) ?_
  refine TL.end_ ?_
  refine TX.then_ ?_
  refine TC.seq_ ?_
  refine TC.region ?_
  refine TL.val rfl rfl rfl (gives_move rfl rfl) ?_
  refine TL.val rfl rfl rfl (gives_move rfl rfl) ?_
  refine TL.call (α := {z : Int // IxOk p l z}) (r := fun x => .int .i64 x.1) (I' := fun _ => Pm w0 ([.row (.slice A0 l.length c0) 65 17 l.length (flat Rs.cells l)] ++ F)) rfl rfl rfl rfl rfl Tryz.func131 adenm131 adebd131 (fun w1 hw => (ixG_any A0 c0 l p f fn cap w1 (pm_rd hw (k := 0) rfl) (by omega) hfn hnm hbd (fun x w2 hb => hf x w2 ⟨_, hw.below hb⟩)).mono fun en w2 ⟨x, h1, h2⟩ => ⟨x, h1, hw.below h2⟩) ?_
  rintro ⟨z, hz⟩
  refine TL.val rfl rfl rfl (gives_assign rfl rfl) ?_
  refine TL.end_ ?_
  refine TX.then_ ?_
  refine TC.seq_ ?_
  refine TC.seq_ ?_
  refine TC.region ?_
  refine TL.val rfl rfl rfl (gives_move rfl rfl) ?_
  refine TL.vsplit rfl rfl rfl (gives_bin rfl rfl rfl (fun w => bin_eql w)) (fun h12 => ?_) (fun h12 => ?_)
  · have q12 := of_decide_eq_true h12
    refine TL.end_ ?_
    refine TX.then_ ?_
    refine TC.condT rfl ?_
    refine TC.seq_ ?_
    refine TC.region ?_
    refine TL.val rfl rfl rfl (gives_move rfl rfl) ?_
    refine TL.val rfl rfl rfl (gives_assign rfl rfl) ?_
    refine TL.end_ ?_
    refine TX.then_ ?_
    refine TC.ret_ ?_
    refine TX.then_ret ?_
    have hE := all_keep (hz.elim (fun h => h.2) (fun ⟨i, h, _⟩ => absurd (show (i : Int) = -1 from h.symm.trans q12) (by omega)))
    exact ret_tmp Tryz.results108 rfl (fun w1 hw => by rw [hE]; exact ⟨rfl, hw⟩)
  · have q12 := of_decide_eq_false h12
    obtain ⟨i, rfl, hi, hall, y0, hy0, hpy⟩ : ∃ i : Nat, z = (i : Int) ∧ i < l.length ∧ (∀ r ∈ l.take i, p r = false) ∧ ∃ y, l[i]? = some y ∧ p y = true := hz.resolve_left fun h => q12 h.1
    refine TL.end_ ?_
    refine TX.then_ ?_
    refine TC.condF rfl ?_
    refine TC.skip_ ?_
    refine TX.then_ ?_
    refine TC.seq_ ?_
    refine TC.seq_ ?_
    refine TC.region ?_
    refine TL.val rfl rfl rfl (gives_move rfl rfl) ?_
    refine TL.val rfl rfl rfl (gives_bin rfl rfl rfl (fun w => bin_add_ (r := ((i + 1 : Nat) : Int)) (by simp only [IntKind.wrap_i64]; omega) w)) ?_
    refine TL.val rfl rfl rfl (gives_assign rfl rfl) ?_
    refine TL.end_ ?_
    refine TX.then_ ?_
    refine TC.block ?_
    refine TC.loop_ (α := {y : Nat × Nat × List Rs // DelI p l y.1 y.2.1 y.2.2}) (fun y => [(0, .slice A0 l.length c0), (1, .func (.func f) #[] cap), (5, .int .i64 ((y.1.1 : Nat) : Int)), (6, .int .i64 ((y.1.2.1 : Nat) : Int))]) (fun y => Pm w0 ([.row (.slice A0 l.length c0) 65 17 l.length (flat Rs.cells y.1.2.2)] ++ F)) (fun y => l.length - y.1.2.1) (⟨(i, i + 1, l), DelI.start hi hall hy0 hpy⟩) ⟨rfl, rfl, rfl, rfl, trivial⟩ (fun w1 hw => hw) ?_
    rintro ⟨⟨k, j, ys⟩, hD⟩
    dsimp only at hD ⊢
    have hyl := hD.len
    have hkj := hD.kj
    have hjn := hD.jn
    refine TC.seq_ ?_
    refine TC.seq_ ?_
    refine TC.region ?_
    refine TL.val rfl rfl rfl (gives_move rfl rfl) ?_
    refine TL.val rfl rfl rfl (gives_move rfl rfl) ?_
    refine TL.val rfl rfl rfl (gives_len rfl Tryz.underlying23 rfl) ?_
    refine TL.vsplit rfl rfl rfl (gives_bin rfl rfl rfl (fun w => bin_lss w)) (fun h19 => ?_) (fun h19 => ?_)
    · have q19 := of_decide_eq_true h19
      refine TL.end_ ?_
      refine TX.then_ ?_
      refine TC.condT rfl ?_
      refine TC.skip_ ?_
      refine TX.then_ ?_
      refine TC.seq_ ?_
      refine TC.block ?_
      refine TC.seq_ ?_
      refine TC.region ?_
      refine TL.val rfl rfl rfl (gives_move rfl rfl) ?_
      refine TL.val rfl rfl rfl (gives_move rfl rfl) ?_
      refine TL.fact (p := ∃ g, A0 = some ⟨g, 0, none⟩) (fun w1 hw => rowA hw (k := 0) rfl (by omega)) ?_
      rintro ⟨g_A0, rfl⟩
      have hi24 : j < ys.length := by omega
      obtain ⟨x24, hx24⟩ : ∃ x24, ys[j]? = some x24 := ⟨_, List.getElem?_eq_getElem hi24⟩
      refine TL.val rfl rfl rfl (gives_at (v := .pointer (some ⟨g_A0, 0 + j * 17, none⟩)) rfl rfl rfl (fun w => at_el Tryz.underlying23 prssz65 rfl _ _ j (by omega) rfl w)) ?_
      refine TL.val rfl rfl rfl (gives_loadR (off := 0 + j * 17) rfl rfl prsag65 prssz65 (rs_cel.len x24) (fun w1 hw j9 u9 h9 => flat_row rs_cel hw (q := 0) rfl hx24 j9 u9 h9)) ?_
      refine TL.pnew rfl rfl rfl (exec_alloc (cs := [.int .i64 0, .int .i64 0, .int .i64 0, .int .i64 0, .int .u32 0, .int .i64 0, .int .i64 0, .int .i64 0, .bool false, .bool false, .int .i64 0, .int .u32 0, .int .i64 0, .int .i64 0, .int .i64 0, .int .i64 0, .int .i64 0]) rfl arpzv65 rfl) (fun g7 => ?_)
      refine TL.pstore (k := 0) (vs := x24.cells) rfl rfl rfl rfl rfl rfl rfl prssz65 (rs_cel.one _) (by show 17 ≤ 17; decide) (L' := ([.blk g7 65 x24.cells, .row (.slice (some ⟨g_A0, 0, none⟩) l.length c0) 65 17 l.length (flat Rs.cells ys)] ++ F)) rfl ?_
      refine TL.end_ ?_
      refine TX.then_ ?_
      refine TC.seq_ ?_
      refine TC.region ?_
      refine TL.val rfl rfl rfl (gives_move rfl rfl) ?_
      refine TL.val rfl rfl rfl (pm_loadV (k := 0) (i := 0) (n := 17) (v := .agg (x24.cells).toArray) rfl rfl prsag65 prssz65 rfl (by show 17 ≤ 17; decide) rfl) ?_
      obtain ⟨bv, hbv⟩ : ∃ b, p x24 = b := ⟨_, rfl⟩
      refine TL.callE1 (r := .bool bv) rfl rfl rfl (ent_val rfl rfl rfl hfn hnm hbd rfl) (fun w1 hw => by rw [← hbv]; exact hf x24 w1 ⟨_, hw⟩) ?_
      refine TL.val rfl rfl rfl (gives_boolnot (b := bv) rfl rfl) ?_
      refine TL.end_ ?_
      refine TX.then_ ?_
      refine TC.split (t := (!bv)) rfl (fun c29 => ?_) (fun c29 => ?_)
      · refine TC.seq_ ?_
        refine TC.region ?_
        refine TL.val rfl rfl rfl (gives_move rfl rfl) ?_
        refine TL.val rfl rfl rfl (gives_move rfl rfl) ?_
        refine TL.val rfl rfl rfl (pm_loadV (k := 0) (i := 0) (n := 17) (v := .agg (x24.cells).toArray) rfl rfl prsag65 prssz65 rfl (by show 17 ≤ 17; decide) rfl) ?_
        have hi33 : k < ys.length := by omega
        obtain ⟨x33, hx33⟩ : ∃ x33, ys[k]? = some x33 := ⟨_, List.getElem?_eq_getElem hi33⟩
        refine TL.val rfl rfl rfl (gives_at (v := .pointer (some ⟨g_A0, 0 + k * 17, none⟩)) rfl rfl rfl (fun w => at_el Tryz.underlying23 prssz65 rfl _ _ k (by omega) rfl w)) ?_
        refine TL.rowset (k := 1) (vs := x24.cells) (xs' := flat Rs.cells (ys.set k x24)) rfl rfl rfl rfl rfl rfl rfl prssz65 (rs_cel.one _) (by rw [flat_len rs_cel]; show 0 + k * 17 + 17 ≤ _; omega) (flat_put rs_cel (q := 0) (y := x24) hx33 (by show 0 + 17 ≤ 17; decide) rfl) ?_
        try dsimp only [List.set_cons_zero, List.set_cons_succ]
        refine TL.end_ ?_
        refine TX.then_ ?_
        refine TC.region ?_
        refine TL.val rfl rfl rfl (gives_move rfl rfl) ?_
        refine TL.val rfl rfl rfl (gives_bin rfl rfl rfl (fun w => bin_add_ (r := ((k + 1 : Nat) : Int)) (by simp only [IntKind.wrap_i64]; omega) w)) ?_
        refine TL.val rfl rfl rfl (gives_assign rfl rfl) ?_
        refine TL.end_ ?_
        refine TX.in_normal ?_
        refine TX.then_ ?_
        refine TC.region ?_
        refine TL.val rfl rfl rfl (gives_move rfl rfl) ?_
        refine TL.val rfl rfl rfl (gives_bin rfl rfl rfl (fun w => bin_add_ (r := ((j + 1 : Nat) : Int)) (by simp only [IntKind.wrap_i64]; omega) w)) ?_
        refine TL.val rfl rfl rfl (gives_assign rfl rfl) ?_
        refine TL.end_ ?_
        exact TX.round (⟨(k + 1, j + 1, ys.set k x24), hD.keep (by omega) hx24 (by rw [hbv]; simpa using c29)⟩) (by show l.length - (j + 1) < l.length - j; omega) ⟨rfl, rfl, rfl, rfl, trivial⟩ (fun w1 hw => hw.sel (.cons _ (.cons_cons _ (List.Sublist.refl _))))
      · refine TC.skip_ ?_
        refine TX.in_normal ?_
        refine TX.then_ ?_
        refine TC.region ?_
        refine TL.val rfl rfl rfl (gives_move rfl rfl) ?_
        refine TL.val rfl rfl rfl (gives_bin rfl rfl rfl (fun w => bin_add_ (r := ((j + 1 : Nat) : Int)) (by simp only [IntKind.wrap_i64]; omega) w)) ?_
        refine TL.val rfl rfl rfl (gives_assign rfl rfl) ?_
        refine TL.end_ ?_
        exact TX.round (⟨(k, j + 1, ys), hD.out (by omega) hx24 (by rw [hbv]; simpa using c29)⟩) (by show l.length - (j + 1) < l.length - j; omega) ⟨rfl, rfl, rfl, rfl, trivial⟩ (fun w1 hw => hw.sel (.cons _ (.cons_cons _ (List.Sublist.refl _))))
    · have q19 := of_decide_eq_false h19
      refine TL.end_ ?_
      refine TX.then_ ?_
      refine TC.condF rfl ?_
      refine TC.exit_ ?_
      refine TX.then_exit ?_
      refine TX.then_exit ?_
      refine TX.in_same ?_
      refine TX.then_ ?_
      refine TC.seq_ ?_
      refine TC.fact (p := ∃ g, A0 = some ⟨g, 0, none⟩) (fun w1 hw => rowA hw (k := 0) rfl (by omega)) ?_
      rintro ⟨g_A0, rfl⟩
      refine TC.region ?_
      refine TL.val rfl rfl rfl (gives_move rfl rfl) ?_
      refine TL.val rfl rfl rfl (gives_move rfl rfl) ?_
      refine TL.val rfl rfl rfl (gives_tailF (q := k) rfl rfl rfl rfl Tryz.underlying23 prssz65 (by omega) (by omega)) ?_
      refine TL.clearF rs_cel (kk := 0) (q := k) (z := Rs.zero) rfl rfl rfl rfl Tryz.underlying23 arpzv65 (by omega) (by omega) rfl ?_
      try dsimp only [List.set_cons_zero, List.set_cons_succ]
      refine TL.end_ ?_
      refine TX.then_ ?_
      refine TC.seq_ ?_
      refine TC.region ?_
      refine TL.val rfl rfl rfl (gives_move rfl rfl) ?_
      refine TL.val rfl rfl rfl (gives_move rfl rfl) ?_
      refine TL.headF rs_cel (kk := 0) (hi := k) rfl rfl rfl rfl rfl rfl Tryz.underlying23 prssz65 rfl (by omega) (by omega) ?_
      try dsimp only [List.set_cons_zero, List.set_cons_succ]
      refine TL.val rfl rfl rfl (gives_assign rfl rfl) ?_
      refine TL.end_ ?_
      refine TX.then_ ?_
      refine TC.ret_ ?_
      obtain ⟨hf1, hf2⟩ := hD.fin (by omega) (n := l.length - k) (z := Rs.zero)
      exact ret_tmp Tryz.results108 rfl (fun w1 hw => by rw [← hf1, List.length_take_of_le (by rw [List.length_append, List.length_take, List.length_replicate]; have := hD.len; have := hD.kj; omega)]; exact ⟨rfl, hw⟩)
end Go.Proofs.YtijmpjfafpodhaaGreat

namespace Go.Proofs.YtijmpjfafpodhaaGreat
open Go.RowKit
set_option maxRecDepth 20000
theorem astnm90 : (Tryz.f90.name == "runtime.NumGoroutine") = false := by decide
theorem astbd90 : Tryz.f90.body.isNone = false := rfl
theorem astnm108 : (Tryz.f108.name == "runtime.NumGoroutine") = false := by decide
theorem astbd108 : Tryz.f108.body.isNone = false := rfl
theorem astnm123 : (Tryz.f123.name == "runtime.NumGoroutine") = false := by decide
theorem astbd123 : Tryz.f123.body.isNone = false := rfl
set_option maxHeartbeats 1000000 in
theorem strm1_any (r : Rs) (flow : Int) (g : Nat) (w : World) (hg : g < w.heap.size) (hc : w.cell? ⟨g, 0, none⟩ = some (.int .i64 flow)) :
    Calls Tryz.prog 123 #[.agg r.cells.toArray, .pointer (some ⟨g, 0, none⟩)] w fun e w' => e = .returned (.bool ((fun r : Rs => !(usbRs r && decide (r.flow = flow))) r)) ∧ Below w.heap.size w w' := by
  refine begin_ (vs := [.agg r.cells.toArray, .pointer (some ⟨g, 0, none⟩)]) Tryz.func123 rfl rfl rfl ?_ (Pm.start w)
  refine TC.seq_ ?_
  refine TC.region ?_
  refine TL.pnew rfl rfl rfl (exec_box (cs := r.cells) rfl rfl rfl) (fun g2 => ?_)
  refine TL.val rfl rfl rfl (gives_assign rfl rfl) ?_
  refine TL.end_ ?_
  refine TX.then_ ?_
  refine TC.seq_ ?_
  refine TC.region ?_
  refine TL.val rfl rfl rfl (gives_field (v := .pointer (some ⟨g2, 6, none⟩)) rfl rfl (fun w => prsfld65_6 _ _ w)) ?_
  refine TL.val rfl rfl rfl (pm_load (k := 0) (i := 6) rfl rfl pcmag3 rfl rfl) ?_
  refine TL.val rfl rfl rfl (gives_load (v := .int .i64 flow) rfl rfl pcmag3 (fun w1 hw => (hw.bel.cell hg).trans hc)) ?_
  refine TL.vsplit rfl rfl rfl (gives_bin rfl rfl rfl (fun w => bin_neq w)) (fun h7 => ?_) (fun h7 => ?_)
  · have q7 := of_decide_eq_true h7
    refine TL.val rfl rfl rfl (gives_move rfl rfl) ?_
    refine TL.off rfl rfl rfl rfl rfl rfl ?_
    refine TL.off rfl rfl rfl rfl rfl rfl ?_
    refine TL.off rfl rfl rfl rfl rfl rfl ?_
    refine TL.val rfl rfl rfl (gives_pick rfl rfl rfl) ?_
    refine TL.val rfl rfl rfl (gives_assign rfl rfl) ?_
    refine TL.end_ ?_
    refine TX.then_ ?_
    refine TC.ret_ ?_
    have hE : ((fun r : Rs => !(usbRs r && decide (r.flow = flow))) r) = true := (by simp [Bool.not_eq_true, q7] <;> omega)
    exact ret_tmp Tryz.results123 rfl (fun w1 hw => ⟨by rw [hE]; try rfl, hw.bel⟩)
  · have q7 := of_decide_eq_false h7
    refine TL.val rfl rfl rfl (gives_move rfl rfl) ?_
    refine TL.on rfl rfl rfl ?_
    refine TL.val rfl rfl rfl (pm_loadV (k := 0) (i := 0) (n := 17) (v := .agg (r.cells).toArray) rfl rfl prsag65 prssz65 rfl (by show 17 ≤ 17; decide) rfl) ?_
    refine TL.on rfl rfl rfl ?_
    refine TL.callsplit rfl rfl rfl rfl rfl Tryz.func91 prsnm91 prsbd91 (fun w1 hw => usbRs_any r w1) (fun h10 => ?_) (fun h10 => ?_)
    · refine TL.on rfl rfl rfl ?_
      refine TL.val rfl rfl rfl (gives_boolnot rfl rfl) ?_
      refine TL.val rfl rfl rfl (gives_pick rfl rfl rfl) ?_
      refine TL.val rfl rfl rfl (gives_assign rfl rfl) ?_
      refine TL.end_ ?_
      refine TX.then_ ?_
      refine TC.ret_ ?_
      have hE : ((fun r : Rs => !(usbRs r && decide (r.flow = flow))) r) = false := (by simp [Bool.not_eq_true, q7, h10] <;> omega)
      exact ret_tmp Tryz.results123 rfl (fun w1 hw => ⟨by rw [hE]; try rfl, hw.bel⟩)
    · refine TL.on rfl rfl rfl ?_
      refine TL.val rfl rfl rfl (gives_boolnot rfl rfl) ?_
      refine TL.val rfl rfl rfl (gives_pick rfl rfl rfl) ?_
      refine TL.val rfl rfl rfl (gives_assign rfl rfl) ?_
      refine TL.end_ ?_
      refine TX.then_ ?_
      refine TC.ret_ ?_
      have hE : ((fun r : Rs => !(usbRs r && decide (r.flow = flow))) r) = true := (by simp [Bool.not_eq_true, q7, h10] <;> omega)
      exact ret_tmp Tryz.results123 rfl (fun w1 hw => ⟨by rw [hE]; try rfl, hw.bel⟩)
set_option maxHeartbeats 1000000 in
theorem stream_any (A0 : Option Addr) (c0 : Nat) (l : List Rs) (t : Trc) (flow : Int) (w : World) (hr : Reads w w.heap.size 17 A0 l.length (flat Rs.cells l)) (hl1 : l.length ≤ 100000) (hok : ∀ r ∈ l, r.Ok) :
    Calls Tryz.prog 73 #[.slice A0 l.length c0, .agg t.cells.toArray, .int .i64 flow] w fun e w' => ∃ x : {y : (Option Addr × Nat) × List Rs // IsSt l t flow y.2 ∧ y.2.length ≤ y.1.2 ∧ y.1.2 ≤ maxLen}, e = .returned (.slice x.1.1.1 x.1.2.length x.1.1.2) ∧ Pm w [.row (.slice x.1.1.1 x.1.2.length x.1.1.2) 65 17 x.1.2.length (flat Rs.cells x.1.2)] w' := by
  refine begin_ (vs := [.slice A0 l.length c0, .agg t.cells.toArray, .int .i64 flow]) Tryz.func73 rfl rfl rfl ?_ (Pm.start w)
  refine TC.seq_ ?_
  refine TC.region ?_
  refine TL.pnew rfl rfl rfl (exec_box (cs := t.cells) rfl rfl rfl) (fun g4 => ?_)
  refine TL.pnew rfl rfl rfl (exec_box (cs := [.int .i64 flow]) rfl rfl rfl) (fun g5 => ?_)
  refine TL.val rfl rfl rfl (gives_assign rfl rfl) ?_
  refine TL.end_ ?_
  refine TX.then_ ?_
  refine TC.seq_ ?_
  refine TC.region ?_
  refine TL.val rfl rfl rfl (gives_move rfl rfl) ?_
  refine TL.val rfl rfl rfl (pm_loadV (k := 1) (i := 0) (n := 3) (v := .agg (t.cells).toArray) rfl rfl pcpag32 prssz32 rfl (by show 3 ≤ 3; decide) rfl) ?_
  refine TL.pcallPm (α := {y : (Option Addr × Nat) × List Rs // IsOf l t y.2 ∧ y.2.length ≤ y.1.2 ∧ y.1.2 ≤ maxLen}) (fun x => .slice x.1.1.1 x.1.2.length x.1.1.2) (fun x => [.row (.slice x.1.1.1 x.1.2.length x.1.1.2) 65 17 x.1.2.length (flat Rs.cells x.1.2)]) rfl rfl rfl rfl rfl Tryz.func90 astnm90 astbd90 (fun w1 hw => of_any A0 c0 l t w1 (hr.up hw.bel) hl1 hok) ?_
  rintro ⟨⟨⟨R9, rc9⟩, o9⟩, hP9, hR91, hR92⟩
  dsimp only [List.cons_append, List.nil_append]
  dsimp only at hP9 hR91 hR92 ⊢
  refine TL.val rfl rfl rfl (gives_makeFunc rfl rfl rfl) ?_
  have hol := hP9.le_
  refine TL.call (α := Unit) (r := fun _ => .slice R9 ((o9.filter fun r => !((fun r : Rs => !(usbRs r && decide (r.flow = flow))) r)).length) rc9) (I' := fun _ => Pm w [.row (.slice R9 ((o9.filter fun r => !((fun r : Rs => !(usbRs r && decide (r.flow = flow))) r)).length) rc9) 65 17 ((o9.filter fun r => !((fun r : Rs => !(usbRs r && decide (r.flow = flow))) r)).length) (flat Rs.cells (o9.filter fun r => !((fun r : Rs => !(usbRs r && decide (r.flow = flow))) r))), .blk g5 3 [.int .i64 flow], .blk g4 32 t.cells]) rfl rfl rfl rfl rfl Tryz.func108 astnm108 astbd108 (fun w1 hw => (delG_any w [.blk g5 3 [.int .i64 flow], .blk g4 32 t.cells] R9 rc9 o9 (fun r : Rs => !(usbRs r && decide (r.flow = flow))) 123 _ #[.pointer (some ⟨g5, 0, none⟩)] w1 (hw) (by omega) (by omega) (by omega) Tryz.func123 astnm123 astbd123 (fun x w1 ⟨L1, h9⟩ => (by have h8 : Pm w [.blk g5 3 [.int .i64 flow], .blk g4 32 t.cells] w1 := h9.sel (List.sublist_append_right L1 _); exact strm1_any x flow g5 w1 (Pc.lt (h8.at_ (k := 0) rfl) g5 rfl).2 (h8.cell (k := 0) rfl 0)))).mono fun en w2 ⟨h1, h2⟩ => ⟨(), h1, h2⟩) (fun _ => ?_)
  refine TL.val rfl rfl rfl (gives_assign rfl rfl) ?_
  refine TL.end_ ?_
  refine TX.then_ ?_
  refine TC.ret_ ?_
  have hE : (o9.filter fun r => !((fun r : Rs => !(usbRs r && decide (r.flow = flow))) r)) = o9.filter fun r => usbRs r && decide (r.flow = flow) := by simp
  exact ret_tmp Tryz.results73 rfl (fun w1 hw => ⟨⟨((R9, rc9), o9.filter fun r => !((fun r : Rs => !(usbRs r && decide (r.flow = flow))) r)), ⟨o9, hP9, hE⟩, Nat.le_trans (List.length_filter_le _ _) hR91, hR92⟩, rfl, hw.pick [0] (by decide) rfl⟩)
end Go.Proofs.YtijmpjfafpodhaaGreat

namespace Go.Proofs.YtijmpjfafpodhaaGreat
open Go.RowKit
set_option maxRecDepth 20000
def BhP (l : List Rs) (u : Ru) (p : Rp) : Prop := p.kind = 1 ∧ ∃ y, IsSt l p.trc p.flow y ∧ bhF y u.los p.at_ = true
theorem abhnm73 : (Tryz.f73.name == "runtime.NumGoroutine") = false := by decide
theorem abhbd73 : Tryz.f73.body.isNone = false := rfl
theorem abhnm72 : (Tryz.f72.name == "runtime.NumGoroutine") = false := by decide
theorem abhbd72 : Tryz.f72.body.isNone = false := rfl
set_option maxHeartbeats 1000000 in
theorem blackhole_any (A0 : Option Addr) (c0 : Nat) (l : List Rs) (u : Ru) (p : Rp) (w : World) (hr : Reads w w.heap.size 17 A0 l.length (flat Rs.cells l)) (hl1 : l.length ≤ 100000) (hok : ∀ r ∈ l, r.Ok) :
    Calls Tryz.prog 29 #[.slice A0 l.length c0, .agg u.cells.toArray, .agg p.cells.toArray] w fun e w' => ∃ x : {b : Bool // b = true ↔ BhP l u p}, e = .returned (.bool x.1) ∧ Below w.heap.size w w' := by
  refine begin_ (vs := [.slice A0 l.length c0, .agg u.cells.toArray, .agg p.cells.toArray]) Tryz.func29 rfl rfl rfl ?_ (Pm.start w)
  refine TC.seq_ ?_
  refine TC.region ?_
  refine TL.pnew rfl rfl rfl (exec_box (cs := u.cells) rfl rfl rfl) (fun g4 => ?_)
  refine TL.pnew rfl rfl rfl (exec_box (cs := p.cells) rfl rfl rfl) (fun g5 => ?_)
  refine TL.val rfl rfl rfl (gives_assign rfl rfl) ?_
  refine TL.end_ ?_
  refine TX.then_ ?_
  refine TC.seq_ ?_
  by_cases hk : p.kind = 1
  · refine TC.held (ls := #[false, false, false, false, false, false, false, false, false, false, false, false, false, false, false, false, false]) (Pm w [.blk g5 34 p.cells, .blk g4 28 u.cells]) (by kernel_rfl) rfl rfl (fun w hw => hw.drawn _) ?_
    refine TH.take (listed' := #[true, false, false, false, false, false, false, false, false, false, false, false, false, false, false, false, false]) 0 rfl (by kernel_rfl) (by kernel_rfl) (by kernel_rfl) rfl rfl rfl rfl (gives_field (v := .pointer (some ⟨g5, 0, none⟩)) rfl rfl (fun w => arpfld34_0 _ _ w)) (fun w1 hw => hw) ?_
    refine TH.take (listed' := #[true, true, false, false, false, false, false, false, false, false, false, false, false, false, false, false, false]) 1 rfl (by kernel_rfl) (by kernel_rfl) (by kernel_rfl) rfl rfl rfl rfl (pm_load (k := 0) (i := 0) rfl rfl pcmag3 rfl rfl) (fun w1 hw => hw) ?_
    refine TH.take (listed' := #[true, true, true, false, false, false, false, false, false, false, false, false, false, false, false, false, false]) 2 rfl (by kernel_rfl) (by kernel_rfl) (by kernel_rfl) rfl rfl rfl rfl (gives_bin rfl rfl rfl (fun w => bin_eql_t (hk) w)) (fun w1 hw => hw) ?_
    refine TH.take (listed' := #[true, true, true, true, false, false, false, false, false, false, false, false, false, false, false, false, false]) 3 rfl (by kernel_rfl) (by kernel_rfl) (by kernel_rfl) rfl rfl rfl rfl (gives_move rfl rfl) (fun w1 hw => hw) ?_
    refine TH.takeG (listed' := #[true, true, true, true, true, false, false, false, false, false, false, false, false, false, false, false, false]) 4 rfl (by kernel_rfl) (by kernel_rfl) (by kernel_rfl) rfl rfl rfl rfl rfl rfl (gives_move rfl rfl) (fun w1 hw => hw) ?_
    refine TH.takeG (listed' := #[true, true, true, true, true, true, false, false, false, false, false, false, false, false, false, false, false]) 5 rfl (by kernel_rfl) (by kernel_rfl) (by kernel_rfl) rfl rfl rfl rfl rfl rfl (gives_field (v := .pointer (some ⟨g5, 1, none⟩)) rfl rfl (fun w => arpfld34_1 _ _ w)) (fun w1 hw => hw) ?_
    refine TH.takeG (listed' := #[true, true, true, true, true, true, true, false, false, false, false, false, false, false, false, false, false]) 6 rfl (by kernel_rfl) (by kernel_rfl) (by kernel_rfl) rfl rfl rfl rfl rfl rfl (pm_loadV (k := 0) (i := 1) (n := 3) (v := .agg #[.int .i64 p.v, .int .u32 p.dst, .int .i64 p.proto]) rfl rfl pcpag32 prssz32 rfl (by show 4 ≤ 8; decide) rfl) (fun w1 hw => hw) ?_
    refine TH.takeG (listed' := #[true, true, true, true, true, true, true, true, false, false, false, false, false, false, false, false, false]) 7 rfl (by kernel_rfl) (by kernel_rfl) (by kernel_rfl) rfl rfl rfl rfl rfl rfl (gives_field (v := .pointer (some ⟨g5, 4, none⟩)) rfl rfl (fun w => arpfld34_2 _ _ w)) (fun w1 hw => hw) ?_
    refine TH.takeG (listed' := #[true, true, true, true, true, true, true, true, true, false, false, false, false, false, false, false, false]) 8 rfl (by kernel_rfl) (by kernel_rfl) (by kernel_rfl) rfl rfl rfl rfl rfl rfl (pm_load (k := 0) (i := 4) rfl rfl pcmag3 rfl rfl) (fun w1 hw => hw) ?_
    refine TH.takeG (listed' := #[true, true, true, true, true, true, true, true, true, false, true, false, false, false, false, false, false]) 10 rfl (by kernel_rfl) (by kernel_rfl) (by kernel_rfl) rfl rfl rfl rfl rfl rfl (gives_field (v := .pointer (some ⟨g4, 0, none⟩)) rfl rfl (fun w => arpfld28_0 _ _ w)) (fun w1 hw => hw) ?_
    refine TH.takeG (listed' := #[true, true, true, true, true, true, true, true, true, false, true, true, false, false, false, false, false]) 11 rfl (by kernel_rfl) (by kernel_rfl) (by kernel_rfl) rfl rfl rfl rfl rfl rfl (pm_load (k := 1) (i := 0) rfl rfl pcmag3 rfl rfl) (fun w1 hw => hw) ?_
    refine TH.takeG (listed' := #[true, true, true, true, true, true, true, true, true, false, true, true, true, false, false, false, false]) 12 rfl (by kernel_rfl) (by kernel_rfl) (by kernel_rfl) rfl rfl rfl rfl rfl rfl (gives_field (v := .pointer (some ⟨g5, 6, none⟩)) rfl rfl (fun w => arpfld34_4 _ _ w)) (fun w1 hw => hw) ?_
    refine TH.takeG (listed' := #[true, true, true, true, true, true, true, true, true, false, true, true, true, true, false, false, false]) 13 rfl (by kernel_rfl) (by kernel_rfl) (by kernel_rfl) rfl rfl rfl rfl rfl rfl (pm_load (k := 0) (i := 6) rfl rfl pcmag3 rfl rfl) (fun w1 hw => hw) ?_
    refine TH.only' (listed' := #[true, true, true, true, true, true, true, true, true, true, true, true, true, true, false, false, false]) 9 rfl (by kernel_rfl) rfl ?_
    refine TL.on rfl rfl rfl ?_
    refine TL.pcallPm (α := {y : (Option Addr × Nat) × List Rs // IsSt l p.trc p.flow y.2 ∧ y.2.length ≤ y.1.2 ∧ y.1.2 ≤ maxLen}) (fun x => .slice x.1.1.1 x.1.2.length x.1.1.2) (fun x => [.row (.slice x.1.1.1 x.1.2.length x.1.1.2) 65 17 x.1.2.length (flat Rs.cells x.1.2)]) rfl rfl rfl rfl rfl Tryz.func73 abhnm73 abhbd73 (fun w1 hw => stream_any A0 c0 l p.trc p.flow w1 (hr.up hw.bel) hl1 hok) ?_
    rintro ⟨⟨⟨R16, rc16⟩, st16⟩, hP16, hR161, hR162⟩
    dsimp only [List.cons_append, List.nil_append]
    dsimp only at hP16 hR161 hR162 ⊢
    refine TL.end_ ?_
    refine TX.held (fun w1 hw => hw.pick [1, 2] (by decide) rfl) ?_
    refine TH.only' (listed' := #[true, true, true, true, true, true, true, true, true, true, true, true, true, true, true, false, false]) 14 rfl (by kernel_rfl) rfl ?_
    refine TL.on rfl rfl rfl ?_
    refine TL.pcall1 (r := .bool (bhF st16 u.los p.at_)) rfl rfl rfl rfl rfl Tryz.func72 abhnm72 abhbd72 (fun w1 hw => blackhole_l R16 rc16 st16 u.los p.at_ w1 (pm_rd hw (k := 0) rfl) (by have := hP16.le; omega)) ?_
    refine TL.end_ ?_
    refine TX.held (fun w1 hw => hw.pick [1, 2] (by decide) rfl) ?_
    refine TH.take (listed' := #[true, true, true, true, true, true, true, true, true, true, true, true, true, true, true, true, false]) 15 rfl (by kernel_rfl) (by kernel_rfl) (by kernel_rfl) rfl rfl rfl rfl (gives_pick rfl rfl rfl) (fun w1 hw => hw.pick [1, 2] (by decide) rfl) ?_
    refine TH.take (listed' := #[true, true, true, true, true, true, true, true, true, true, true, true, true, true, true, true, true]) 16 rfl (by kernel_rfl) (by kernel_rfl) (by kernel_rfl) rfl rfl rfl rfl (gives_assign rfl rfl) (fun w1 hw => hw.pick [1, 2] (by decide) rfl) ?_
    refine TH.done (by kernel_rfl) ?_
    refine TX.then_ ?_
    refine TC.ret_ ?_
    exact ret_tmp Tryz.results29 rfl (fun w1 hw => ⟨⟨bhF st16 u.los p.at_, fun h => ⟨hk, st16, hP16, h⟩, fun ⟨_, y, h1, h2⟩ => by rw [hP16.eq h1]; exact h2⟩, rfl, hw.bel⟩)
  · refine TC.held (ls := #[false, false, false, false, false, false, false, false, false, false, false, false, false, false, false, false, false]) (Pm w [.blk g5 34 p.cells, .blk g4 28 u.cells]) (by kernel_rfl) rfl rfl (fun w hw => hw.drawn _) ?_
    refine TH.take (listed' := #[true, false, false, false, false, false, false, false, false, false, false, false, false, false, false, false, false]) 0 rfl (by kernel_rfl) (by kernel_rfl) (by kernel_rfl) rfl rfl rfl rfl (gives_field (v := .pointer (some ⟨g5, 0, none⟩)) rfl rfl (fun w => arpfld34_0 _ _ w)) (fun w1 hw => hw) ?_
    refine TH.take (listed' := #[true, true, false, false, false, false, false, false, false, false, false, false, false, false, false, false, false]) 1 rfl (by kernel_rfl) (by kernel_rfl) (by kernel_rfl) rfl rfl rfl rfl (pm_load (k := 0) (i := 0) rfl rfl pcmag3 rfl rfl) (fun w1 hw => hw) ?_
    refine TH.take (listed' := #[true, true, true, false, false, false, false, false, false, false, false, false, false, false, false, false, false]) 2 rfl (by kernel_rfl) (by kernel_rfl) (by kernel_rfl) rfl rfl rfl rfl (gives_bin rfl rfl rfl (fun w => bin_eql_f (hk) w)) (fun w1 hw => hw) ?_
    refine TH.take (listed' := #[true, true, true, true, false, false, false, false, false, false, false, false, false, false, false, false, false]) 3 rfl (by kernel_rfl) (by kernel_rfl) (by kernel_rfl) rfl rfl rfl rfl (gives_move rfl rfl) (fun w1 hw => hw) ?_
    refine TH.off (listed' := #[true, true, true, true, true, false, false, false, false, false, false, false, false, false, false, false, false]) 4 rfl (by kernel_rfl) (by kernel_rfl) (by kernel_rfl) rfl rfl rfl rfl rfl rfl rfl (fun w1 hw => hw) ?_
    refine TH.off (listed' := #[true, true, true, true, true, true, false, false, false, false, false, false, false, false, false, false, false]) 5 rfl (by kernel_rfl) (by kernel_rfl) (by kernel_rfl) rfl rfl rfl rfl rfl rfl rfl (fun w1 hw => hw) ?_
    refine TH.off (listed' := #[true, true, true, true, true, true, true, false, false, false, false, false, false, false, false, false, false]) 6 rfl (by kernel_rfl) (by kernel_rfl) (by kernel_rfl) rfl rfl rfl rfl rfl rfl rfl (fun w1 hw => hw) ?_
    refine TH.off (listed' := #[true, true, true, true, true, true, true, true, false, false, false, false, false, false, false, false, false]) 7 rfl (by kernel_rfl) (by kernel_rfl) (by kernel_rfl) rfl rfl rfl rfl rfl rfl rfl (fun w1 hw => hw) ?_
    refine TH.off (listed' := #[true, true, true, true, true, true, true, true, true, false, false, false, false, false, false, false, false]) 8 rfl (by kernel_rfl) (by kernel_rfl) (by kernel_rfl) rfl rfl rfl rfl rfl rfl rfl (fun w1 hw => hw) ?_
    refine TH.off (listed' := #[true, true, true, true, true, true, true, true, true, true, false, false, false, false, false, false, false]) 9 rfl (by kernel_rfl) (by kernel_rfl) (by kernel_rfl) rfl rfl rfl rfl rfl rfl rfl (fun w1 hw => hw) ?_
    refine TH.off (listed' := #[true, true, true, true, true, true, true, true, true, true, true, false, false, false, false, false, false]) 10 rfl (by kernel_rfl) (by kernel_rfl) (by kernel_rfl) rfl rfl rfl rfl rfl rfl rfl (fun w1 hw => hw) ?_
    refine TH.off (listed' := #[true, true, true, true, true, true, true, true, true, true, true, true, false, false, false, false, false]) 11 rfl (by kernel_rfl) (by kernel_rfl) (by kernel_rfl) rfl rfl rfl rfl rfl rfl rfl (fun w1 hw => hw) ?_
    refine TH.off (listed' := #[true, true, true, true, true, true, true, true, true, true, true, true, true, false, false, false, false]) 12 rfl (by kernel_rfl) (by kernel_rfl) (by kernel_rfl) rfl rfl rfl rfl rfl rfl rfl (fun w1 hw => hw) ?_
    refine TH.off (listed' := #[true, true, true, true, true, true, true, true, true, true, true, true, true, true, false, false, false]) 13 rfl (by kernel_rfl) (by kernel_rfl) (by kernel_rfl) rfl rfl rfl rfl rfl rfl rfl (fun w1 hw => hw) ?_
    refine TH.off (listed' := #[true, true, true, true, true, true, true, true, true, true, true, true, true, true, true, false, false]) 14 rfl (by kernel_rfl) (by kernel_rfl) (by kernel_rfl) rfl rfl rfl rfl rfl rfl rfl (fun w1 hw => hw) ?_
    refine TH.take (listed' := #[true, true, true, true, true, true, true, true, true, true, true, true, true, true, true, true, false]) 15 rfl (by kernel_rfl) (by kernel_rfl) (by kernel_rfl) rfl rfl rfl rfl (gives_pick rfl rfl rfl) (fun w1 hw => hw) ?_
    refine TH.take (listed' := #[true, true, true, true, true, true, true, true, true, true, true, true, true, true, true, true, true]) 16 rfl (by kernel_rfl) (by kernel_rfl) (by kernel_rfl) rfl rfl rfl rfl (gives_assign rfl rfl) (fun w1 hw => hw) ?_
    refine TH.done (by kernel_rfl) ?_
    refine TX.then_ ?_
    refine TC.ret_ ?_
    exact ret_tmp Tryz.results29 rfl (fun w1 hw => ⟨⟨false, by simp [BhP, hk]⟩, rfl, hw.bel⟩)
end Go.Proofs.YtijmpjfafpodhaaGreat

namespace Go.Proofs.YtijmpjfafpodhaaGreat
open Go.RowKit
set_option maxRecDepth 20000
def maskF (n : Int) : Int := IntKind.u32.wrap (4294967295 * 2 ^ (32 - n).toNat)
def vldP (a n : Int) : Bool := decide (0 ≤ n) && decide (n ≤ 32) && decide (bits .andNot .u32 a (maskF n) = 0)
def hasP (a n x : Int) : Bool := vldP a n && decide (bits .and .u32 x (maskF n) = a)
def cmpP (a n b m : Int) : Int := if cmpI a b = 0 then cmpI n m else cmpI a b
theorem or2 {a n b m : Int} : orI [cmpI a b, cmpI n m] = cmpP a n b m := by
  unfold cmpP
  show (if cmpI a b = 0 then (if cmpI n m = 0 then 0 else cmpI n m) else cmpI a b) = _
  split
  · split
    · rename_i h; exact h.symm
    · rfl
  · rfl
theorem vldP_le {a n : Int} (h : vldP a n = true) : 0 ≤ n ∧ n ≤ 32 := by
  simp [vldP] at h
  exact ⟨h.1.1, h.1.2⟩
theorem badfld100_1 (g o : Nat) (w : World) : (Instr.fieldAt 100 (.pointer (some ⟨g, o, none⟩)) 1).run Tryz.prog w = .ok (.pointer (some ⟨g, o + 1, none⟩)) w := by kernel_rfl
theorem badfld100_0 (g o : Nat) (w : World) : (Instr.fieldAt 100 (.pointer (some ⟨g, o, none⟩)) 0).run Tryz.prog w = .ok (.pointer (some ⟨g, o + 0, none⟩)) w := by kernel_rfl
theorem badnm191 : (Tryz.f191.name == "runtime.NumGoroutine") = false := by decide
theorem badbd191 : Tryz.f191.body.isNone = false := rfl
theorem badbs106_2_20249 (a0_0 : Int) (a1_0 : Int) (w : World) : (Instr.buildSlice 106 2 #[(0, .int .i64 a0_0), (1, .int .i64 a1_0)]).run Tryz.prog w = .ok (.slice (some ⟨w.heap.size, 0, none⟩) 2 2) (w.alloc (.cells [.int .i64 a0_0, .int .i64 a1_0].toArray 3)) := by kernel_rfl
theorem badag100 (w : World) : (isAgg 100).run Tryz.prog w = .ok true w := rfl
theorem badsz100 (w : World) : (sizeOf 100).run Tryz.prog w = .ok 2 w := rfl
theorem badnm163 : (Tryz.f163.name == "runtime.NumGoroutine") = false := by decide
theorem badbd163 : Tryz.f163.body.isNone = false := rfl
set_option maxHeartbeats 1000000 in
theorem mask_any (n : Int) (h0 : 0 ≤ n) (h1 : n ≤ 32) (w : World) :
    Calls Tryz.prog 191 #[.int .i64 n] w fun e w' => e = .returned (.int .u32 (maskF n)) ∧ w' = w := by
  refine begin_ (vs := [.int .i64 n]) (I := fun w1 => w1 = w) Tryz.func191 rfl rfl rfl ?_ rfl
  refine TC.seq_ ?_
  refine TC.region ?_
  refine TL.val rfl rfl rfl (gives_assign rfl rfl) ?_
  refine TL.end_ ?_
  refine TX.then_ ?_
  refine TC.seq_ ?_
  refine TC.region ?_
  refine TL.val rfl rfl rfl (gives_move rfl rfl) ?_
  refine TL.val rfl rfl rfl (gives_bin rfl rfl rfl (fun w => bin_sub_ (r := 32 - n) (by simp only [IntKind.wrap_i64]; omega) w)) ?_
  refine TL.val rfl rfl rfl (gives_bin (v := .int .u32 (maskF n)) rfl rfl rfl (fun w => bin_shl (2 ^ (32 - n).toNat) (by omega) (by simp only [IntKind.bits]; omega) rfl w)) ?_
  refine TL.val rfl rfl rfl (gives_assign rfl rfl) ?_
  refine TL.end_ ?_
  refine TX.then_ ?_
  refine TC.ret_ ?_
  exact ret_tmp Tryz.results191 rfl (fun w1 hw => ⟨rfl, hw⟩)
set_option maxHeartbeats 1000000 in
theorem vldP_any (a n : Int) (w : World) :
    Calls Tryz.prog 163 #[.agg #[.int .u32 a, .int .i64 n]] w fun e w' => e = .returned (.bool (vldP a n)) ∧ Below w.heap.size w w' := by
  refine begin_ (vs := [.agg #[.int .u32 a, .int .i64 n]]) Tryz.func163 rfl rfl rfl ?_ (Pm.start w)
  refine TC.seq_ ?_
  refine TC.region ?_
  refine TL.pnew rfl rfl rfl (exec_box (cs := [.int .u32 a, .int .i64 n]) rfl rfl rfl) (fun g1 => ?_)
  refine TL.val rfl rfl rfl (gives_assign rfl rfl) ?_
  refine TL.end_ ?_
  refine TX.then_ ?_
  refine TC.seq_ ?_
  refine TC.quietQ (by kernel_rfl) (by kernel_rfl) (fun w hw => hw.drawn _) ?_
  refine TQ.val rfl rfl rfl (gives_field (v := .pointer (some ⟨g1, 1, none⟩)) rfl rfl (fun w => badfld100_1 _ _ w)) ?_
  refine TQ.val rfl rfl rfl (pm_load (k := 0) (i := 1) rfl rfl pcmag3 rfl rfl) ?_
  refine TQ.vsplit rfl rfl rfl (gives_bin rfl rfl rfl (fun w => bin_geq w)) (fun h5 => ?_) (fun h5 => ?_)
  · have q5 := of_decide_eq_true h5
    refine TQ.val rfl rfl rfl (gives_move rfl rfl) ?_
    refine TQ.on rfl rfl rfl ?_
    refine TQ.val rfl rfl rfl (gives_field (v := .pointer (some ⟨g1, 1, none⟩)) rfl rfl (fun w => badfld100_1 _ _ w)) ?_
    refine TQ.on rfl rfl rfl ?_
    refine TQ.val rfl rfl rfl (pm_load (k := 0) (i := 1) rfl rfl pcmag3 rfl rfl) ?_
    refine TQ.on rfl rfl rfl ?_
    refine TQ.vsplit rfl rfl rfl (gives_bin rfl rfl rfl (fun w => bin_leq w)) (fun h9 => ?_) (fun h9 => ?_)
    · have q9 := of_decide_eq_true h9
      refine TQ.val rfl rfl rfl (gives_pick rfl rfl rfl) ?_
      refine TQ.val rfl rfl rfl (gives_move rfl rfl) ?_
      refine TQ.on rfl rfl rfl ?_
      refine TQ.val rfl rfl rfl (gives_field (v := .pointer (some ⟨g1, 0, none⟩)) rfl rfl (fun w => badfld100_0 _ _ w)) ?_
      refine TQ.on rfl rfl rfl ?_
      refine TQ.val rfl rfl rfl (pm_load (k := 0) (i := 0) rfl rfl pcmag30 rfl rfl) ?_
      refine TQ.on rfl rfl rfl ?_
      refine TQ.val rfl rfl rfl (gives_field (v := .pointer (some ⟨g1, 1, none⟩)) rfl rfl (fun w => badfld100_1 _ _ w)) ?_
      refine TQ.on rfl rfl rfl ?_
      refine TQ.val rfl rfl rfl (pm_load (k := 0) (i := 1) rfl rfl pcmag3 rfl rfl) ?_
      refine TQ.on rfl rfl rfl ?_
      refine TQ.call (v := .int .u32 (maskF n)) rfl rfl rfl rfl rfl Tryz.func191 badnm191 badbd191 (fun w1 hw => (still_bel (mask_any n (by omega) (by omega) w1)).mono fun en w2 ⟨h1, h2⟩ => ⟨h1, hw.below h2⟩) ?_
      refine TQ.on rfl rfl rfl ?_
      refine TQ.val rfl rfl rfl (gives_bin rfl rfl rfl (fun w => bin_andNot w)) ?_
      refine TQ.on rfl rfl rfl ?_
      refine TQ.vsplit rfl rfl rfl (gives_bin rfl rfl rfl (fun w => bin_eql w)) (fun h18 => ?_) (fun h18 => ?_)
      · have q18 := of_decide_eq_true h18
        refine TQ.val rfl rfl rfl (gives_pick rfl rfl rfl) ?_
        refine TQ.val rfl rfl rfl (gives_assign rfl rfl) ?_
        refine TQ.fin ?_
        refine TX.then_ ?_
        refine TC.ret_ ?_
        have hE : (vldP a n) = true := (by simp [vldP, q5, q9, q18]; try omega)
        exact ret_tmp Tryz.results163 rfl (fun w1 hw => ⟨by rw [hE]; try rfl, hw.bel⟩)
      · have q18 := of_decide_eq_false h18
        refine TQ.val rfl rfl rfl (gives_pick rfl rfl rfl) ?_
        refine TQ.val rfl rfl rfl (gives_assign rfl rfl) ?_
        refine TQ.fin ?_
        refine TX.then_ ?_
        refine TC.ret_ ?_
        have hE : (vldP a n) = false := (by simp [vldP, q5, q9, q18]; try omega)
        exact ret_tmp Tryz.results163 rfl (fun w1 hw => ⟨by rw [hE]; try rfl, hw.bel⟩)
    · have q9 := of_decide_eq_false h9
      refine TQ.val rfl rfl rfl (gives_pick rfl rfl rfl) ?_
      refine TQ.val rfl rfl rfl (gives_move rfl rfl) ?_
      refine TQ.off rfl rfl rfl rfl rfl rfl ?_
      refine TQ.off rfl rfl rfl rfl rfl rfl ?_
      refine TQ.off rfl rfl rfl rfl rfl rfl ?_
      refine TQ.off rfl rfl rfl rfl rfl rfl ?_
      refine TQ.off rfl rfl rfl rfl rfl rfl ?_
      refine TQ.off rfl rfl rfl rfl rfl rfl ?_
      refine TQ.off rfl rfl rfl rfl rfl rfl ?_
      refine TQ.val rfl rfl rfl (gives_pick rfl rfl rfl) ?_
      refine TQ.val rfl rfl rfl (gives_assign rfl rfl) ?_
      refine TQ.fin ?_
      refine TX.then_ ?_
      refine TC.ret_ ?_
      have hE : (vldP a n) = false := (by simp [vldP, q5, q9]; try omega)
      exact ret_tmp Tryz.results163 rfl (fun w1 hw => ⟨by rw [hE]; try rfl, hw.bel⟩)
  · have q5 := of_decide_eq_false h5
    refine TQ.val rfl rfl rfl (gives_move rfl rfl) ?_
    refine TQ.off rfl rfl rfl rfl rfl rfl ?_
    refine TQ.off rfl rfl rfl rfl rfl rfl ?_
    refine TQ.off rfl rfl rfl rfl rfl rfl ?_
    refine TQ.val rfl rfl rfl (gives_pick rfl rfl rfl) ?_
    refine TQ.val rfl rfl rfl (gives_move rfl rfl) ?_
    refine TQ.off rfl rfl rfl rfl rfl rfl ?_
    refine TQ.off rfl rfl rfl rfl rfl rfl ?_
    refine TQ.off rfl rfl rfl rfl rfl rfl ?_
    refine TQ.off rfl rfl rfl rfl rfl rfl ?_
    refine TQ.off rfl rfl rfl rfl rfl rfl ?_
    refine TQ.off rfl rfl rfl rfl rfl rfl ?_
    refine TQ.off rfl rfl rfl rfl rfl rfl ?_
    refine TQ.val rfl rfl rfl (gives_pick rfl rfl rfl) ?_
    refine TQ.val rfl rfl rfl (gives_assign rfl rfl) ?_
    refine TQ.fin ?_
    refine TX.then_ ?_
    refine TC.ret_ ?_
    have hE : (vldP a n) = false := (by simp [vldP, q5]; try omega)
    exact ret_tmp Tryz.results163 rfl (fun w1 hw => ⟨by rw [hE]; try rfl, hw.bel⟩)
set_option maxHeartbeats 1000000 in
theorem cmpP_any (a n b m : Int) (w : World) :
    Calls Tryz.prog 130 #[.agg #[.int .u32 a, .int .i64 n], .agg #[.int .u32 b, .int .i64 m]] w fun e w' => e = .returned (.int .i64 (cmpP a n b m)) ∧ Below w.heap.size w w' := by
  refine begin_ (vs := [.agg #[.int .u32 a, .int .i64 n], .agg #[.int .u32 b, .int .i64 m]]) Tryz.func130 rfl rfl rfl ?_ (Pm.start w)
  refine TC.seq_ ?_
  refine TC.region ?_
  refine TL.pnew rfl rfl rfl (exec_box (cs := [.int .u32 a, .int .i64 n]) rfl rfl rfl) (fun g2 => ?_)
  refine TL.pnew rfl rfl rfl (exec_box (cs := [.int .u32 b, .int .i64 m]) rfl rfl rfl) (fun g3 => ?_)
  refine TL.val rfl rfl rfl (gives_assign rfl rfl) ?_
  refine TL.end_ ?_
  refine TX.then_ ?_
  refine TC.seq_ ?_
  refine TC.tail 10 (by kernel_rfl) (by kernel_rfl) (fun w hw => hw.drawn _) ?_
  refine TS.val rfl rfl rfl (gives_field (v := .pointer (some ⟨g2, 0, none⟩)) rfl rfl (fun w => badfld100_0 _ _ w)) ?_
  refine TS.val rfl rfl rfl (pm_load (k := 1) (i := 0) rfl rfl pcmag30 rfl rfl) ?_
  refine TS.val rfl rfl rfl (gives_field (v := .pointer (some ⟨g3, 0, none⟩)) rfl rfl (fun w => badfld100_0 _ _ w)) ?_
  refine TS.val rfl rfl rfl (pm_load (k := 0) (i := 0) rfl rfl pcmag30 rfl rfl) ?_
  refine TS.call (r := .int .i64 (cmpI a b)) rfl rfl rfl rfl rfl Tryz.func80 pcmnm80 pcmbd80 (fun w1 hw => cmpA_any a b w1) ?_
  refine TS.val rfl rfl rfl (gives_field (v := .pointer (some ⟨g2, 1, none⟩)) rfl rfl (fun w => badfld100_1 _ _ w)) ?_
  refine TS.val rfl rfl rfl (pm_load (k := 1) (i := 1) rfl rfl pcmag3 rfl rfl) ?_
  refine TS.val rfl rfl rfl (gives_field (v := .pointer (some ⟨g3, 1, none⟩)) rfl rfl (fun w => badfld100_1 _ _ w)) ?_
  refine TS.val rfl rfl rfl (pm_load (k := 0) (i := 1) rfl rfl pcmag3 rfl rfl) ?_
  refine TS.call (r := .int .i64 (cmpI n m)) rfl rfl rfl rfl rfl Tryz.func79 pcmnm79 pcmbd79 (fun w1 hw => cmpI_any n m w1) ?_
  refine TS.end_ ?_
  refine TL.prowS (e := 3) (size := 1) (cs := flat (ic .i64) [cmpI a b, cmpI n m]) rfl rfl rfl rfl rfl (fun w => badbs106_2_20249 _ _ w) (by decide) rfl (fun g15 => ?_)
  refine TL.pcall1 (r := .int .i64 (cmpP a n b m)) rfl rfl rfl rfl rfl Tryz.func78 pcmnm78 pcmbd78 (fun w1 hw => (by have h9 := orI_any (some ⟨g15, 0, none⟩) 2 2 ([cmpI a b, cmpI n m]) w1 (pm_rd hw (k := 0) rfl) rfl (by show 2 ≤ 100000; decide); rw [or2] at h9; exact h9)) ?_
  refine TL.val rfl rfl rfl (gives_assign rfl rfl) ?_
  refine TL.end_ ?_
  refine TX.then_ ?_
  refine TC.ret_ ?_
  have hE : (cmpP a n b m) = cmpP a n b m := (by simp [cmpP])
  exact ret_tmp Tryz.results130 rfl (fun w1 hw => ⟨by rw [hE]; try rfl, hw.bel⟩)
set_option maxHeartbeats 1000000 in
theorem hasP_any (a n x : Int) (w : World) :
    Calls Tryz.prog 216 #[.agg #[.int .u32 a, .int .i64 n], .int .u32 x] w fun e w' => e = .returned (.bool (hasP a n x)) ∧ Below w.heap.size w w' := by
  refine begin_ (vs := [.agg #[.int .u32 a, .int .i64 n], .int .u32 x]) Tryz.func216 rfl rfl rfl ?_ (Pm.start w)
  refine TC.seq_ ?_
  refine TC.region ?_
  refine TL.pnew rfl rfl rfl (exec_box (cs := [.int .u32 a, .int .i64 n]) rfl rfl rfl) (fun g2 => ?_)
  refine TL.val rfl rfl rfl (gives_assign rfl rfl) ?_
  refine TL.end_ ?_
  refine TX.then_ ?_
  refine TC.seq_ ?_
  refine TC.quietQ (by kernel_rfl) (by kernel_rfl) (fun w hw => hw.drawn _) ?_
  refine TQ.val rfl rfl rfl (pm_loadV (k := 0) (i := 0) (n := 2) (v := .agg #[.int .u32 a, .int .i64 n]) rfl rfl badag100 badsz100 rfl (by show 2 ≤ 2; decide) rfl) ?_
  refine TQ.callsplit rfl rfl rfl rfl rfl Tryz.func163 badnm163 badbd163 (fun w1 hw => vldP_any a n w1) (fun h6 => ?_) (fun h6 => ?_)
  · have hn0 := vldP_le h6
    refine TQ.val rfl rfl rfl (gives_move rfl rfl) ?_
    refine TQ.on rfl rfl rfl ?_
    refine TQ.val rfl rfl rfl (gives_move rfl rfl) ?_
    refine TQ.on rfl rfl rfl ?_
    refine TQ.val rfl rfl rfl (gives_field (v := .pointer (some ⟨g2, 1, none⟩)) rfl rfl (fun w => badfld100_1 _ _ w)) ?_
    refine TQ.on rfl rfl rfl ?_
    refine TQ.val rfl rfl rfl (pm_load (k := 0) (i := 1) rfl rfl pcmag3 rfl rfl) ?_
    refine TQ.on rfl rfl rfl ?_
    refine TQ.call (v := .int .u32 (maskF n)) rfl rfl rfl rfl rfl Tryz.func191 badnm191 badbd191 (fun w1 hw => (still_bel (mask_any n (by omega) (by omega) w1)).mono fun en w2 ⟨h1, h2⟩ => ⟨h1, hw.below h2⟩) ?_
    refine TQ.on rfl rfl rfl ?_
    refine TQ.val rfl rfl rfl (gives_bin rfl rfl rfl (fun w => bin_bits (by simp) w)) ?_
    refine TQ.on rfl rfl rfl ?_
    refine TQ.val rfl rfl rfl (gives_field (v := .pointer (some ⟨g2, 0, none⟩)) rfl rfl (fun w => badfld100_0 _ _ w)) ?_
    refine TQ.on rfl rfl rfl ?_
    refine TQ.val rfl rfl rfl (pm_load (k := 0) (i := 0) rfl rfl pcmag30 rfl rfl) ?_
    refine TQ.on rfl rfl rfl ?_
    refine TQ.vsplit rfl rfl rfl (gives_bin rfl rfl rfl (fun w => bin_eql w)) (fun h15 => ?_) (fun h15 => ?_)
    · have q15 := of_decide_eq_true h15
      refine TQ.val rfl rfl rfl (gives_pick rfl rfl rfl) ?_
      refine TQ.val rfl rfl rfl (gives_assign rfl rfl) ?_
      refine TQ.fin ?_
      refine TX.then_ ?_
      refine TC.ret_ ?_
      have hE : (hasP a n x) = true := (by simp [hasP, h6, q15]; try omega)
      exact ret_tmp Tryz.results216 rfl (fun w1 hw => ⟨by rw [hE]; try rfl, hw.bel⟩)
    · have q15 := of_decide_eq_false h15
      refine TQ.val rfl rfl rfl (gives_pick rfl rfl rfl) ?_
      refine TQ.val rfl rfl rfl (gives_assign rfl rfl) ?_
      refine TQ.fin ?_
      refine TX.then_ ?_
      refine TC.ret_ ?_
      have hE : (hasP a n x) = false := (by simp [hasP, h6, q15]; try omega)
      exact ret_tmp Tryz.results216 rfl (fun w1 hw => ⟨by rw [hE]; try rfl, hw.bel⟩)
  · refine TQ.val rfl rfl rfl (gives_move rfl rfl) ?_
    refine TQ.off rfl rfl rfl rfl rfl rfl ?_
    refine TQ.off rfl rfl rfl rfl rfl rfl ?_
    refine TQ.off rfl rfl rfl rfl rfl rfl ?_
    refine TQ.off rfl rfl rfl rfl rfl rfl ?_
    refine TQ.off rfl rfl rfl rfl rfl rfl ?_
    refine TQ.off rfl rfl rfl rfl rfl rfl ?_
    refine TQ.off rfl rfl rfl rfl rfl rfl ?_
    refine TQ.off rfl rfl rfl rfl rfl rfl ?_
    refine TQ.val rfl rfl rfl (gives_pick rfl rfl rfl) ?_
    refine TQ.val rfl rfl rfl (gives_assign rfl rfl) ?_
    refine TQ.fin ?_
    refine TX.then_ ?_
    refine TC.ret_ ?_
    have hE : (hasP a n x) = false := (by simp [hasP, h6]; try omega)
    exact ret_tmp Tryz.results216 rfl (fun w1 hw => ⟨by rw [hE]; try rfl, hw.bel⟩)
end Go.Proofs.YtijmpjfafpodhaaGreat

namespace Go.Proofs.YtijmpjfafpodhaaGreat
open Go.RowKit
set_option maxRecDepth 20000
structure En where
  addr : Int
  len : Int
  prov : Int
  frm : Int
  to_ : Int
deriving DecidableEq
def En.cells (r : En) : List Value := [.int .u32 r.addr, .int .i64 r.len, .int .i64 r.prov, .int .i64 r.frm, .int .i64 r.to_]
theorem en_cel : Cel En.cells 5 := ⟨fun _ => rfl, fun r u hu => by
  simp only [En.cells, List.mem_cons, List.not_mem_nil, or_false] at hu
  rcases hu with rfl | rfl | rfl | rfl | rfl <;> rfl⟩
def En.zero : En := ⟨0, 0, 0, 0, 0⟩
def validE (e : En) : Bool := vldP e.addr e.len && decide (1 ≤ e.prov) && decide (e.prov ≤ 2147483647) && decide (0 ≤ e.frm) && decide (e.frm < e.to_) && decide (e.to_ ≤ 1125899906842624)
def badP (b x : En) : Bool := decide (cmpP b.addr b.len x.addr x.len > 0) || (decide (cmpP b.addr b.len x.addr x.len = 0) && decide (x.frm < b.to_))
def okAt (es : List En) (i : Nat) : Bool := match es[i]? with
  | none => true
  | some x => validE x && (decide (i = 0) || match es[i - 1]? with
    | none => true
    | some b => !badP b x)
def validR (es : List En) : Bool := decide (es.length ≤ 1024) && (List.range es.length).all (okAt es)
theorem okAt_bad {es : List En} {i : Nat} {x : En} (hx : es[i]? = some x) (h : validE x = false) : okAt es i = false := by simp [okAt, hx, h]
theorem okAt_zero {es : List En} {x : En} {i : Nat} (hi : i = 0) (hx : es[i]? = some x) (h : validE x = true) : okAt es i = true := by subst hi; simp [okAt, hx, h]
theorem okAt_pair {es : List En} {x b : En} {i : Nat} {t : Bool} (hi : ¬ i = 0) (hx : es[i]? = some x) (hb : es[i - 1]? = some b) (h : validE x = true) (ht : badP b x = !t) : okAt es i = t := by simp [okAt, hx, hb, h, hi, ht]
theorem validR_true {es : List En} (hl : es.length ≤ 1024) (h : ∀ j, j < es.length → okAt es j = true) : validR es = true := by
  simp only [validR, Bool.and_eq_true, decide_eq_true_eq, List.all_eq_true, List.mem_range]
  exact ⟨hl, h⟩
theorem validR_false {es : List En} {i : Nat} (hi : i < es.length) (h : okAt es i = false) : validR es = false := by
  cases hv : validR es with
  | false => rfl
  | true =>
    simp only [validR, Bool.and_eq_true, decide_eq_true_eq, List.all_eq_true, List.mem_range] at hv
    rw [hv.2 i hi] at h; cases h
theorem validR_len {es : List En} (h : validR es = true) : es.length ≤ 1024 := by
  simp only [validR, Bool.and_eq_true, decide_eq_true_eq] at h
  exact h.1
def fitsE (a t : Int) (p : En × Bool) (e : En) : Bool := decide (e.frm ≤ t) && decide (t < e.to_) && (!p.2 || decide (e.len > p.1.len)) && hasP e.addr e.len a
def stepL (a t : Int) (p : En × Bool) (e : En) : En × Bool := if fitsE a t p e then (e, true) else p
def lookR (es : List En) (a t : Int) : En × Bool := es.foldl (stepL a t) (En.zero, false)
theorem lookR_snoc {es : List En} {a t : Int} {i : Nat} {x : En} {p : En × Bool} (hx : es[i]? = some x) (hp : lookR (es.take i) a t = p) : lookR (es.take (i + 1)) a t = if fitsE a t p x then (x, true) else p := by
  unfold lookR at hp ⊢
  rw [List.take_add_one, hx, List.foldl_append, hp]
  rfl
def lookV (es : List En) (a t : Int) : En × Bool := if validR es then lookR es a t else (En.zero, false)
def provR (es : List En) (a t : Int) : Int := (lookV es a t).1.prov
theorem brefld102_0 (g o : Nat) (w : World) : (Instr.fieldAt 102 (.pointer (some ⟨g, o, none⟩)) 0).run Tryz.prog w = .ok (.pointer (some ⟨g, o + 0, none⟩)) w := by kernel_rfl
theorem brefld102_1 (g o : Nat) (w : World) : (Instr.fieldAt 102 (.pointer (some ⟨g, o, none⟩)) 1).run Tryz.prog w = .ok (.pointer (some ⟨g, o + 2, none⟩)) w := by kernel_rfl
theorem brefld102_2 (g o : Nat) (w : World) : (Instr.fieldAt 102 (.pointer (some ⟨g, o, none⟩)) 2).run Tryz.prog w = .ok (.pointer (some ⟨g, o + 3, none⟩)) w := by kernel_rfl
theorem brefld102_3 (g o : Nat) (w : World) : (Instr.fieldAt 102 (.pointer (some ⟨g, o, none⟩)) 3).run Tryz.prog w = .ok (.pointer (some ⟨g, o + 4, none⟩)) w := by kernel_rfl
theorem brefld26_0 (g o : Nat) (w : World) : (Instr.fieldAt 26 (.pointer (some ⟨g, o, none⟩)) 0).run Tryz.prog w = .ok (.pointer (some ⟨g, o + 0, none⟩)) w := by kernel_rfl
theorem breag24 (w : World) : (isAgg 24).run Tryz.prog w = .ok false w := rfl
theorem bresz102 (w : World) : (sizeOf 102).run Tryz.prog w = .ok 5 w := rfl
theorem breag102 (w : World) : (isAgg 102).run Tryz.prog w = .ok true w := rfl
theorem brezv102 (w : World) : (zeroValue 102).run Tryz.prog w = .ok (.agg #[.int .u32 0, .int .i64 0, .int .i64 0, .int .i64 0, .int .i64 0]) w := rfl
theorem brenm129 : (Tryz.f129.name == "runtime.NumGoroutine") = false := by decide
theorem brebd129 : Tryz.f129.body.isNone = false := rfl
theorem brenm130 : (Tryz.f130.name == "runtime.NumGoroutine") = false := by decide
theorem brebd130 : Tryz.f130.body.isNone = false := rfl
theorem brenm216 : (Tryz.f216.name == "runtime.NumGoroutine") = false := by decide
theorem brebd216 : Tryz.f216.body.isNone = false := rfl
theorem breag26 (w : World) : (isAgg 26).run Tryz.prog w = .ok true w := rfl
theorem bresz26 (w : World) : (sizeOf 26).run Tryz.prog w = .ok 1 w := rfl
theorem brenm84 : (Tryz.f84.name == "runtime.NumGoroutine") = false := by decide
theorem brebd84 : Tryz.f84.body.isNone = false := rfl
theorem brenm189 : (Tryz.f189.name == "runtime.NumGoroutine") = false := by decide
theorem brebd189 : Tryz.f189.body.isNone = false := rfl
theorem brebld102_791  (w : World) : (Instr.build 102 #[]).run Tryz.prog w = .ok (.agg #[.int .u32 0, .int .i64 0, .int .i64 0, .int .i64 0, .int .i64 0]) w := by kernel_rfl
theorem breone_u32i64i64i64i64 {a0 : Int} {a1 : Int} {a2 : Int} {a3 : Int} {a4 : Int} : ∀ u ∈ [(.int .u32 a0 : Value), .int .i64 a1, .int .i64 a2, .int .i64 a3, .int .i64 a4], u.oneCell' = true := by
  intro u hu
  simp only [List.mem_cons, List.not_mem_nil, or_false] at hu
  rcases hu with rfl | rfl | rfl | rfl | rfl <;> rfl
theorem brenm161 : (Tryz.f161.name == "runtime.NumGoroutine") = false := by decide
theorem brebd161 : Tryz.f161.body.isNone = false := rfl
set_option maxHeartbeats 1000000 in
theorem validE_any (x : En) (w : World) :
    Calls Tryz.prog 129 #[.agg x.cells.toArray] w fun e w' => e = .returned (.bool (validE x)) ∧ Below w.heap.size w w' := by
  refine begin_ (vs := [.agg x.cells.toArray]) Tryz.func129 rfl rfl rfl ?_ (Pm.start w)
  refine TC.seq_ ?_
  refine TC.region ?_
  refine TL.pnew rfl rfl rfl (exec_box (cs := x.cells) rfl rfl rfl) (fun g1 => ?_)
  refine TL.val rfl rfl rfl (gives_assign rfl rfl) ?_
  refine TL.end_ ?_
  refine TX.then_ ?_
  refine TC.seq_ ?_
  refine TC.region ?_
  refine TL.val rfl rfl rfl (gives_field (v := .pointer (some ⟨g1, 0, none⟩)) rfl rfl (fun w => brefld102_0 _ _ w)) ?_
  refine TL.val rfl rfl rfl (pm_loadV (k := 0) (i := 0) (n := 2) (v := .agg #[.int .u32 x.addr, .int .i64 x.len]) rfl rfl badag100 badsz100 rfl (by show 2 ≤ 5; decide) rfl) ?_
  refine TL.callsplit rfl rfl rfl rfl rfl Tryz.func163 badnm163 badbd163 (fun w1 hw => vldP_any x.addr x.len w1) (fun h5 => ?_) (fun h5 => ?_)
  · refine TL.val rfl rfl rfl (gives_move rfl rfl) ?_
    refine TL.on rfl rfl rfl ?_
    refine TL.val rfl rfl rfl (gives_field (v := .pointer (some ⟨g1, 2, none⟩)) rfl rfl (fun w => brefld102_1 _ _ w)) ?_
    refine TL.on rfl rfl rfl ?_
    refine TL.val rfl rfl rfl (pm_load (k := 0) (i := 2) rfl rfl pcmag3 rfl rfl) ?_
    refine TL.on rfl rfl rfl ?_
    refine TL.vsplit rfl rfl rfl (gives_bin rfl rfl rfl (fun w => bin_geq w)) (fun h9 => ?_) (fun h9 => ?_)
    · have q9 := of_decide_eq_true h9
      refine TL.val rfl rfl rfl (gives_pick rfl rfl rfl) ?_
      refine TL.val rfl rfl rfl (gives_move rfl rfl) ?_
      refine TL.on rfl rfl rfl ?_
      refine TL.val rfl rfl rfl (gives_field (v := .pointer (some ⟨g1, 2, none⟩)) rfl rfl (fun w => brefld102_1 _ _ w)) ?_
      refine TL.on rfl rfl rfl ?_
      refine TL.val rfl rfl rfl (pm_load (k := 0) (i := 2) rfl rfl pcmag3 rfl rfl) ?_
      refine TL.on rfl rfl rfl ?_
      refine TL.vsplit rfl rfl rfl (gives_bin rfl rfl rfl (fun w => bin_leq w)) (fun h14 => ?_) (fun h14 => ?_)
      · have q14 := of_decide_eq_true h14
        refine TL.val rfl rfl rfl (gives_pick rfl rfl rfl) ?_
        refine TL.val rfl rfl rfl (gives_move rfl rfl) ?_
        refine TL.on rfl rfl rfl ?_
        refine TL.val rfl rfl rfl (gives_field (v := .pointer (some ⟨g1, 3, none⟩)) rfl rfl (fun w => brefld102_2 _ _ w)) ?_
        refine TL.on rfl rfl rfl ?_
        refine TL.val rfl rfl rfl (pm_load (k := 0) (i := 3) rfl rfl pcmag3 rfl rfl) ?_
        refine TL.on rfl rfl rfl ?_
        refine TL.vsplit rfl rfl rfl (gives_bin rfl rfl rfl (fun w => bin_geq w)) (fun h19 => ?_) (fun h19 => ?_)
        · have q19 := of_decide_eq_true h19
          refine TL.val rfl rfl rfl (gives_pick rfl rfl rfl) ?_
          refine TL.val rfl rfl rfl (gives_move rfl rfl) ?_
          refine TL.on rfl rfl rfl ?_
          refine TL.val rfl rfl rfl (gives_field (v := .pointer (some ⟨g1, 3, none⟩)) rfl rfl (fun w => brefld102_2 _ _ w)) ?_
          refine TL.on rfl rfl rfl ?_
          refine TL.val rfl rfl rfl (pm_load (k := 0) (i := 3) rfl rfl pcmag3 rfl rfl) ?_
          refine TL.on rfl rfl rfl ?_
          refine TL.val rfl rfl rfl (gives_field (v := .pointer (some ⟨g1, 4, none⟩)) rfl rfl (fun w => brefld102_3 _ _ w)) ?_
          refine TL.on rfl rfl rfl ?_
          refine TL.val rfl rfl rfl (pm_load (k := 0) (i := 4) rfl rfl pcmag3 rfl rfl) ?_
          refine TL.on rfl rfl rfl ?_
          refine TL.vsplit rfl rfl rfl (gives_bin rfl rfl rfl (fun w => bin_lss w)) (fun h26 => ?_) (fun h26 => ?_)
          · have q26 := of_decide_eq_true h26
            refine TL.val rfl rfl rfl (gives_pick rfl rfl rfl) ?_
            refine TL.val rfl rfl rfl (gives_move rfl rfl) ?_
            refine TL.on rfl rfl rfl ?_
            refine TL.val rfl rfl rfl (gives_field (v := .pointer (some ⟨g1, 4, none⟩)) rfl rfl (fun w => brefld102_3 _ _ w)) ?_
            refine TL.on rfl rfl rfl ?_
            refine TL.val rfl rfl rfl (pm_load (k := 0) (i := 4) rfl rfl pcmag3 rfl rfl) ?_
            refine TL.on rfl rfl rfl ?_
            refine TL.vsplit rfl rfl rfl (gives_bin rfl rfl rfl (fun w => bin_leq w)) (fun h31 => ?_) (fun h31 => ?_)
            · have q31 := of_decide_eq_true h31
              refine TL.val rfl rfl rfl (gives_pick rfl rfl rfl) ?_
              refine TL.val rfl rfl rfl (gives_assign rfl rfl) ?_
              refine TL.end_ ?_
              refine TX.then_ ?_
              refine TC.ret_ ?_
              have hE : (validE x) = true := (by simp [validE, h5, q9, q14, q19, q26, q31]; try omega)
              exact ret_tmp Tryz.results129 rfl (fun w1 hw => ⟨by rw [hE]; try rfl, hw.bel⟩)
            · have q31 := of_decide_eq_false h31
              refine TL.val rfl rfl rfl (gives_pick rfl rfl rfl) ?_
              refine TL.val rfl rfl rfl (gives_assign rfl rfl) ?_
              refine TL.end_ ?_
              refine TX.then_ ?_
              refine TC.ret_ ?_
              have hE : (validE x) = false := (by simp [validE, h5, q9, q14, q19, q26, q31]; try omega)
              exact ret_tmp Tryz.results129 rfl (fun w1 hw => ⟨by rw [hE]; try rfl, hw.bel⟩)
          · have q26 := of_decide_eq_false h26
            refine TL.val rfl rfl rfl (gives_pick rfl rfl rfl) ?_
            refine TL.val rfl rfl rfl (gives_move rfl rfl) ?_
            refine TL.off rfl rfl rfl rfl rfl rfl ?_
            refine TL.off rfl rfl rfl rfl rfl rfl ?_
            refine TL.off rfl rfl rfl rfl rfl rfl ?_
            refine TL.val rfl rfl rfl (gives_pick rfl rfl rfl) ?_
            refine TL.val rfl rfl rfl (gives_assign rfl rfl) ?_
            refine TL.end_ ?_
            refine TX.then_ ?_
            refine TC.ret_ ?_
            have hE : (validE x) = false := (by simp [validE, h5, q9, q14, q19, q26]; try omega)
            exact ret_tmp Tryz.results129 rfl (fun w1 hw => ⟨by rw [hE]; try rfl, hw.bel⟩)
        · have q19 := of_decide_eq_false h19
          refine TL.val rfl rfl rfl (gives_pick rfl rfl rfl) ?_
          refine TL.val rfl rfl rfl (gives_move rfl rfl) ?_
          refine TL.off rfl rfl rfl rfl rfl rfl ?_
          refine TL.off rfl rfl rfl rfl rfl rfl ?_
          refine TL.off rfl rfl rfl rfl rfl rfl ?_
          refine TL.off rfl rfl rfl rfl rfl rfl ?_
          refine TL.off rfl rfl rfl rfl rfl rfl ?_
          refine TL.val rfl rfl rfl (gives_pick rfl rfl rfl) ?_
          refine TL.val rfl rfl rfl (gives_move rfl rfl) ?_
          refine TL.off rfl rfl rfl rfl rfl rfl ?_
          refine TL.off rfl rfl rfl rfl rfl rfl ?_
          refine TL.off rfl rfl rfl rfl rfl rfl ?_
          refine TL.val rfl rfl rfl (gives_pick rfl rfl rfl) ?_
          refine TL.val rfl rfl rfl (gives_assign rfl rfl) ?_
          refine TL.end_ ?_
          refine TX.then_ ?_
          refine TC.ret_ ?_
          have hE : (validE x) = false := (by simp [validE, h5, q9, q14, q19]; try omega)
          exact ret_tmp Tryz.results129 rfl (fun w1 hw => ⟨by rw [hE]; try rfl, hw.bel⟩)
      · have q14 := of_decide_eq_false h14
        refine TL.val rfl rfl rfl (gives_pick rfl rfl rfl) ?_
        refine TL.val rfl rfl rfl (gives_move rfl rfl) ?_
        refine TL.off rfl rfl rfl rfl rfl rfl ?_
        refine TL.off rfl rfl rfl rfl rfl rfl ?_
        refine TL.off rfl rfl rfl rfl rfl rfl ?_
        refine TL.val rfl rfl rfl (gives_pick rfl rfl rfl) ?_
        refine TL.val rfl rfl rfl (gives_move rfl rfl) ?_
        refine TL.off rfl rfl rfl rfl rfl rfl ?_
        refine TL.off rfl rfl rfl rfl rfl rfl ?_
        refine TL.off rfl rfl rfl rfl rfl rfl ?_
        refine TL.off rfl rfl rfl rfl rfl rfl ?_
        refine TL.off rfl rfl rfl rfl rfl rfl ?_
        refine TL.val rfl rfl rfl (gives_pick rfl rfl rfl) ?_
        refine TL.val rfl rfl rfl (gives_move rfl rfl) ?_
        refine TL.off rfl rfl rfl rfl rfl rfl ?_
        refine TL.off rfl rfl rfl rfl rfl rfl ?_
        refine TL.off rfl rfl rfl rfl rfl rfl ?_
        refine TL.val rfl rfl rfl (gives_pick rfl rfl rfl) ?_
        refine TL.val rfl rfl rfl (gives_assign rfl rfl) ?_
        refine TL.end_ ?_
        refine TX.then_ ?_
        refine TC.ret_ ?_
        have hE : (validE x) = false := (by simp [validE, h5, q9, q14]; try omega)
        exact ret_tmp Tryz.results129 rfl (fun w1 hw => ⟨by rw [hE]; try rfl, hw.bel⟩)
    · have q9 := of_decide_eq_false h9
      refine TL.val rfl rfl rfl (gives_pick rfl rfl rfl) ?_
      refine TL.val rfl rfl rfl (gives_move rfl rfl) ?_
      refine TL.off rfl rfl rfl rfl rfl rfl ?_
      refine TL.off rfl rfl rfl rfl rfl rfl ?_
      refine TL.off rfl rfl rfl rfl rfl rfl ?_
      refine TL.val rfl rfl rfl (gives_pick rfl rfl rfl) ?_
      refine TL.val rfl rfl rfl (gives_move rfl rfl) ?_
      refine TL.off rfl rfl rfl rfl rfl rfl ?_
      refine TL.off rfl rfl rfl rfl rfl rfl ?_
      refine TL.off rfl rfl rfl rfl rfl rfl ?_
      refine TL.val rfl rfl rfl (gives_pick rfl rfl rfl) ?_
      refine TL.val rfl rfl rfl (gives_move rfl rfl) ?_
      refine TL.off rfl rfl rfl rfl rfl rfl ?_
      refine TL.off rfl rfl rfl rfl rfl rfl ?_
      refine TL.off rfl rfl rfl rfl rfl rfl ?_
      refine TL.off rfl rfl rfl rfl rfl rfl ?_
      refine TL.off rfl rfl rfl rfl rfl rfl ?_
      refine TL.val rfl rfl rfl (gives_pick rfl rfl rfl) ?_
      refine TL.val rfl rfl rfl (gives_move rfl rfl) ?_
      refine TL.off rfl rfl rfl rfl rfl rfl ?_
      refine TL.off rfl rfl rfl rfl rfl rfl ?_
      refine TL.off rfl rfl rfl rfl rfl rfl ?_
      refine TL.val rfl rfl rfl (gives_pick rfl rfl rfl) ?_
      refine TL.val rfl rfl rfl (gives_assign rfl rfl) ?_
      refine TL.end_ ?_
      refine TX.then_ ?_
      refine TC.ret_ ?_
      have hE : (validE x) = false := (by simp [validE, h5, q9]; try omega)
      exact ret_tmp Tryz.results129 rfl (fun w1 hw => ⟨by rw [hE]; try rfl, hw.bel⟩)
  · refine TL.val rfl rfl rfl (gives_move rfl rfl) ?_
    refine TL.off rfl rfl rfl rfl rfl rfl ?_
    refine TL.off rfl rfl rfl rfl rfl rfl ?_
    refine TL.off rfl rfl rfl rfl rfl rfl ?_
    refine TL.val rfl rfl rfl (gives_pick rfl rfl rfl) ?_
    refine TL.val rfl rfl rfl (gives_move rfl rfl) ?_
    refine TL.off rfl rfl rfl rfl rfl rfl ?_
    refine TL.off rfl rfl rfl rfl rfl rfl ?_
    refine TL.off rfl rfl rfl rfl rfl rfl ?_
    refine TL.val rfl rfl rfl (gives_pick rfl rfl rfl) ?_
    refine TL.val rfl rfl rfl (gives_move rfl rfl) ?_
    refine TL.off rfl rfl rfl rfl rfl rfl ?_
    refine TL.off rfl rfl rfl rfl rfl rfl ?_
    refine TL.off rfl rfl rfl rfl rfl rfl ?_
    refine TL.val rfl rfl rfl (gives_pick rfl rfl rfl) ?_
    refine TL.val rfl rfl rfl (gives_move rfl rfl) ?_
    refine TL.off rfl rfl rfl rfl rfl rfl ?_
    refine TL.off rfl rfl rfl rfl rfl rfl ?_
    refine TL.off rfl rfl rfl rfl rfl rfl ?_
    refine TL.off rfl rfl rfl rfl rfl rfl ?_
    refine TL.off rfl rfl rfl rfl rfl rfl ?_
    refine TL.val rfl rfl rfl (gives_pick rfl rfl rfl) ?_
    refine TL.val rfl rfl rfl (gives_move rfl rfl) ?_
    refine TL.off rfl rfl rfl rfl rfl rfl ?_
    refine TL.off rfl rfl rfl rfl rfl rfl ?_
    refine TL.off rfl rfl rfl rfl rfl rfl ?_
    refine TL.val rfl rfl rfl (gives_pick rfl rfl rfl) ?_
    refine TL.val rfl rfl rfl (gives_assign rfl rfl) ?_
    refine TL.end_ ?_
    refine TX.then_ ?_
    refine TC.ret_ ?_
    have hE : (validE x) = false := (by simp [validE, h5]; try omega)
    exact ret_tmp Tryz.results129 rfl (fun w1 hw => ⟨by rw [hE]; try rfl, hw.bel⟩)
theorem okN {es : List En} {i : Nat} (h : ∀ j, j < i → okAt es j = true) (hi : okAt es i = true) : ∀ j, j < i + 1 → okAt es j = true := fun j hj => by
  rcases Nat.lt_or_ge j i with h1 | h1
  · exact h j h1
  · obtain rfl : j = i := by omega
    exact hi
set_option maxHeartbeats 1000000 in
theorem validR_any (A0 : Option Addr) (c0 : Nat) (es : List En) (w : World) (hr : Reads w w.heap.size 5 A0 es.length (flat En.cells es)) :
    Calls Tryz.prog 84 #[.agg #[.slice A0 es.length c0]] w fun e w' => e = .returned (.bool (validR es)) ∧ Below w.heap.size w w' := by
  refine begin_ (vs := [.agg #[.slice A0 es.length c0]]) Tryz.func84 rfl rfl rfl ?_ (Pm.start w)
  refine TC.seq_ ?_
  refine TC.region ?_
  refine TL.pnew rfl rfl rfl (exec_box (cs := [.slice A0 es.length c0]) rfl rfl rfl) (fun g1 => ?_)
  refine TL.val rfl rfl rfl (gives_assign rfl rfl) ?_
  refine TL.end_ ?_
  refine TX.then_ ?_
  refine TC.seq_ ?_
  refine TC.seq_ ?_
  refine TC.region ?_
  refine TL.val rfl rfl rfl (gives_field (v := .pointer (some ⟨g1, 0, none⟩)) rfl rfl (fun w => brefld26_0 _ _ w)) ?_
  refine TL.val rfl rfl rfl (pm_load (k := 0) (i := 0) rfl rfl breag24 rfl rfl) ?_
  refine TL.val rfl rfl rfl (gives_len rfl Tryz.underlying24 rfl) ?_
  refine TL.vsplit rfl rfl rfl (gives_bin rfl rfl rfl (fun w => bin_gtr w)) (fun h10 => ?_) (fun h10 => ?_)
  · have q10 := of_decide_eq_true h10
    refine TL.end_ ?_
    refine TX.then_ ?_
    refine TC.condT rfl ?_
    refine TC.seq_ ?_
    refine TC.region ?_
    refine TL.val rfl rfl rfl (gives_assign rfl rfl) ?_
    refine TL.end_ ?_
    refine TX.then_ ?_
    refine TC.ret_ ?_
    refine TX.then_ret ?_
    have hE : validR es = false := by simp only [validR, decide_eq_false (show ¬ es.length ≤ 1024 by omega), Bool.false_and]
    exact ret_tmp Tryz.results84 rfl (fun w1 hw => ⟨by rw [hE], hw.bel⟩)
  · have q10 := of_decide_eq_false h10
    refine TL.end_ ?_
    refine TX.then_ ?_
    refine TC.condF rfl ?_
    refine TC.skip_ ?_
    refine TX.then_ ?_
    refine TC.seq_ ?_
    refine TC.seq_ ?_
    refine TC.region ?_
    refine TL.val rfl rfl rfl (gives_field (v := .pointer (some ⟨g1, 0, none⟩)) rfl rfl (fun w => brefld26_0 _ _ w)) ?_
    refine TL.val rfl rfl rfl (pm_load (k := 0) (i := 0) rfl rfl breag24 rfl rfl) ?_
    refine TL.val rfl rfl rfl (gives_len rfl Tryz.underlying24 rfl) ?_
    refine TL.val rfl rfl rfl (gives_move rfl rfl) ?_
    refine TL.end_ ?_
    refine TX.then_ ?_
    refine TC.block ?_
    refine TC.loop_ (α := {i : Nat // i ≤ es.length ∧ ∀ j, j < i → okAt es j = true}) (fun y => [(1, .pointer (some ⟨g1, 0, none⟩)), (12, .slice A0 es.length c0), (13, .int .i64 (es.length : Nat)), (14, .int .i64 ((y.1 : Nat) : Int))]) (fun y => Pm w [.blk g1 26 [.slice A0 es.length c0]]) (fun y => es.length - y.1) (⟨0, Nat.zero_le _, fun j hj => absurd hj (Nat.not_lt_zero _)⟩) ⟨rfl, rfl, rfl, rfl, trivial⟩ (fun w1 hw => hw) ?_
    rintro ⟨i, hi, hok⟩
    try dsimp only at hi hok ⊢
    refine TC.seq_ ?_
    refine TC.region ?_
    refine TL.vsplit rfl rfl rfl (gives_bin rfl rfl rfl (fun w => bin_lss w)) (fun h15 => ?_) (fun h15 => ?_)
    · have q15 := of_decide_eq_true h15
      refine TL.end_ ?_
      refine TX.then_ ?_
      refine TC.seq_ ?_
      refine TC.condT rfl ?_
      refine TC.skip_ ?_
      refine TX.then_ ?_
      refine TC.seq_ ?_
      refine TC.block ?_
      refine TC.seq_ ?_
      refine TC.region ?_
      refine TL.val rfl rfl rfl (gives_move rfl rfl) ?_
      have hi17 : i < es.length := by omega
      obtain ⟨x17, hx17⟩ : ∃ x17, es[i]? = some x17 := ⟨_, List.getElem?_eq_getElem hi17⟩
      obtain ⟨b17, o17, hA17, hbb17, hc17⟩ := hr.ad (by omega) (by decide)
      refine TL.val rfl rfl rfl (gives_at (v := .pointer (some ⟨b17, o17 + i * 5, none⟩)) rfl rfl rfl (fun w => at_el Tryz.underlying24 bresz102 hA17 _ _ i (by omega) rfl w)) ?_
      refine TL.val rfl rfl rfl (gives_loadR (off := o17 + i * 5) rfl rfl breag102 bresz102 (en_cel.len x17) (fun w1 hw j9 u9 h9 => (hw.bel.cell hbb17).trans <| flat_cell en_cel hx17 hc17 j9 u9 h9)) ?_
      refine TL.pnew rfl rfl rfl (exec_alloc (cs := [.int .u32 0, .int .i64 0, .int .i64 0, .int .i64 0, .int .i64 0]) rfl brezv102 rfl) (fun g4 => ?_)
      refine TL.val rfl rfl rfl (gives_assign rfl rfl) ?_
      refine TL.pstore (k := 0) (vs := x17.cells) rfl rfl rfl rfl rfl rfl rfl bresz102 (en_cel.one _) (by show 5 ≤ 5; decide) (L' := [.blk g4 102 x17.cells, .blk g1 26 [.slice A0 es.length c0]]) rfl ?_
      refine TL.end_ ?_
      refine TX.then_ ?_
      refine TC.seq_ ?_
      refine TC.seq_ ?_
      refine TC.region ?_
      refine TL.val rfl rfl rfl (pm_loadV (k := 0) (i := 0) (n := 5) (v := .agg (x17.cells).toArray) rfl rfl breag102 bresz102 rfl (by show 5 ≤ 5; decide) rfl) ?_
      refine TL.callsplit rfl rfl rfl rfl rfl Tryz.func129 brenm129 brebd129 (fun w1 hw => validE_any x17 w1) (fun h20 => ?_) (fun h20 => ?_)
      · refine TL.val rfl rfl rfl (gives_boolnot rfl rfl) ?_
        refine TL.end_ ?_
        refine TX.then_ ?_
        refine TC.condF rfl ?_
        refine TC.skip_ ?_
        refine TX.then_ ?_
        refine TC.seq_ ?_
        refine TC.seq_ ?_
        refine TC.region ?_
        refine TL.val rfl rfl rfl (gives_move rfl rfl) ?_
        refine TL.vsplit rfl rfl rfl (gives_bin rfl rfl rfl (fun w => bin_eql w)) (fun h23 => ?_) (fun h23 => ?_)
        · have q23 := of_decide_eq_true h23
          refine TL.end_ ?_
          refine TX.then_ ?_
          refine TC.condT rfl ?_
          refine TC.exit_ ?_
          refine TX.then_exit ?_
          refine TX.in_same ?_
          refine TX.then_ ?_
          refine TC.region ?_
          refine TL.val rfl rfl rfl (gives_bin rfl rfl rfl (fun w => bin_add_ (r := ((i + 1 : Nat) : Int)) (by simp only [IntKind.wrap_i64]; omega) w)) ?_
          refine TL.val rfl rfl rfl (gives_move rfl rfl) ?_
          refine TL.end_ ?_
          exact TX.round (⟨i + 1, by omega, okN hok (okAt_zero (by omega) hx17 h20)⟩) (by show es.length - (i + 1) < es.length - i; omega) ⟨rfl, rfl, rfl, rfl, trivial⟩ (fun w1 hw => hw.pick [1] (by decide) rfl)
        · have q23 := of_decide_eq_false h23
          refine TL.end_ ?_
          refine TX.then_ ?_
          refine TC.condF rfl ?_
          refine TC.skip_ ?_
          refine TX.then_ ?_
          refine TC.seq_ ?_
          refine TC.region ?_
          refine TL.val rfl rfl rfl (gives_field (v := .pointer (some ⟨g1, 0, none⟩)) rfl rfl (fun w => brefld26_0 _ _ w)) ?_
          refine TL.val rfl rfl rfl (pm_load (k := 1) (i := 0) rfl rfl breag24 rfl rfl) ?_
          refine TL.val rfl rfl rfl (gives_move rfl rfl) ?_
          refine TL.val rfl rfl rfl (gives_bin rfl rfl rfl (fun w => bin_sub_ (r := ((i - 1 : Nat) : Int)) (by simp only [IntKind.wrap_i64]; omega) w)) ?_
          have hi28 : i - 1 < es.length := by omega
          obtain ⟨x28, hx28⟩ : ∃ x28, es[i - 1]? = some x28 := ⟨_, List.getElem?_eq_getElem hi28⟩
          obtain ⟨b28, o28, hA28, hbb28, hc28⟩ := hr.ad (by omega) (by decide)
          refine TL.val rfl rfl rfl (gives_at (v := .pointer (some ⟨b28, o28 + (i - 1) * 5, none⟩)) rfl rfl rfl (fun w => at_el Tryz.underlying24 bresz102 hA28 _ _ (i - 1) (by omega) rfl w)) ?_
          refine TL.val rfl rfl rfl (gives_loadR (off := o28 + (i - 1) * 5) rfl rfl breag102 bresz102 (en_cel.len x28) (fun w1 hw j9 u9 h9 => (hw.bel.cell hbb28).trans <| flat_cell en_cel hx28 hc28 j9 u9 h9)) ?_
          refine TL.pnew rfl rfl rfl (exec_alloc (cs := [.int .u32 0, .int .i64 0, .int .i64 0, .int .i64 0, .int .i64 0]) rfl brezv102 rfl) (fun g5 => ?_)
          refine TL.pstore (k := 0) (vs := x28.cells) rfl rfl rfl rfl rfl rfl rfl bresz102 (en_cel.one _) (by show 5 ≤ 5; decide) (L' := [.blk g5 102 x28.cells, .blk g4 102 x17.cells, .blk g1 26 [.slice A0 es.length c0]]) rfl ?_
          refine TL.end_ ?_
          refine TX.then_ ?_
          refine TC.seq_ ?_
          refine TC.region ?_
          refine TL.val rfl rfl rfl (gives_field (v := .pointer (some ⟨g5, 0, none⟩)) rfl rfl (fun w => brefld102_0 _ _ w)) ?_
          refine TL.val rfl rfl rfl (pm_loadV (k := 0) (i := 0) (n := 2) (v := .agg #[.int .u32 x28.addr, .int .i64 x28.len]) rfl rfl badag100 badsz100 rfl (by show 2 ≤ 5; decide) rfl) ?_
          refine TL.val rfl rfl rfl (gives_field (v := .pointer (some ⟨g4, 0, none⟩)) rfl rfl (fun w => brefld102_0 _ _ w)) ?_
          refine TL.val rfl rfl rfl (pm_loadV (k := 1) (i := 0) (n := 2) (v := .agg #[.int .u32 x17.addr, .int .i64 x17.len]) rfl rfl badag100 badsz100 rfl (by show 2 ≤ 5; decide) rfl) ?_
          refine TL.pcall1 (r := .int .i64 (cmpP x28.addr x28.len x17.addr x17.len)) rfl rfl rfl rfl rfl Tryz.func130 brenm130 brebd130 (fun w1 hw => cmpP_any x28.addr x28.len x17.addr x17.len w1) ?_
          refine TL.val rfl rfl rfl (gives_assign rfl rfl) ?_
          refine TL.end_ ?_
          refine TX.then_ ?_
          refine TC.seq_ ?_
          refine TC.region ?_
          refine TL.val rfl rfl rfl (gives_move rfl rfl) ?_
          refine TL.vsplit rfl rfl rfl (gives_bin rfl rfl rfl (fun w => bin_gtr w)) (fun h36 => ?_) (fun h36 => ?_)
          · have q36 := of_decide_eq_true h36
            refine TL.val rfl rfl rfl (gives_move rfl rfl) ?_
            refine TL.off rfl rfl rfl rfl rfl rfl ?_
            refine TL.off rfl rfl rfl rfl rfl rfl ?_
            refine TL.off rfl rfl rfl rfl rfl rfl ?_
            refine TL.offU rfl rfl rfl rfl rfl ?_
            refine TL.offU rfl rfl rfl rfl rfl ?_
            refine TL.offU rfl rfl rfl rfl rfl ?_
            refine TL.offU rfl rfl rfl rfl rfl ?_
            refine TL.offU rfl rfl rfl rfl rfl ?_
            refine TL.off rfl rfl rfl rfl rfl rfl ?_
            refine TL.val rfl rfl rfl (gives_pick rfl rfl rfl) ?_
            refine TL.end_ ?_
            refine TX.then_ ?_
            refine TC.condT rfl ?_
            refine TC.seq_ ?_
            refine TC.region ?_
            refine TL.val rfl rfl rfl (gives_assign rfl rfl) ?_
            refine TL.end_ ?_
            refine TX.then_ ?_
            refine TC.ret_ ?_
            refine TX.in_ret ?_
            refine TX.then_ret ?_
            refine TX.then_ret ?_
            refine TX.in_ret ?_
            refine TX.then_ret ?_
            have hE : validR es = false := validR_false hi17 (okAt_pair (t := false) (by omega) hx17 hx28 h20 (by simp [badP, q15, h20, q23, q36]))
            exact ret_tmp Tryz.results84 rfl (fun w1 hw => ⟨by rw [hE], hw.bel⟩)
          · have q36 := of_decide_eq_false h36
            refine TL.val rfl rfl rfl (gives_move rfl rfl) ?_
            refine TL.on rfl rfl rfl ?_
            refine TL.val rfl rfl rfl (gives_move rfl rfl) ?_
            refine TL.on rfl rfl rfl ?_
            refine TL.vsplit rfl rfl rfl (gives_bin rfl rfl rfl (fun w => bin_eql w)) (fun h39 => ?_) (fun h39 => ?_)
            · have q39 := of_decide_eq_true h39
              refine TL.on rfl rfl rfl ?_
              refine TL.val rfl rfl rfl (gives_move rfl rfl) ?_
              refine TL.on rfl rfl rfl ?_
              refine TL.val rfl rfl rfl (gives_field (v := .pointer (some ⟨g4, 3, none⟩)) rfl rfl (fun w => brefld102_2 _ _ w)) ?_
              refine TL.on rfl rfl rfl ?_
              refine TL.val rfl rfl rfl (pm_load (k := 1) (i := 3) rfl rfl pcmag3 rfl rfl) ?_
              refine TL.on rfl rfl rfl ?_
              refine TL.val rfl rfl rfl (gives_field (v := .pointer (some ⟨g5, 4, none⟩)) rfl rfl (fun w => brefld102_3 _ _ w)) ?_
              refine TL.on rfl rfl rfl ?_
              refine TL.val rfl rfl rfl (pm_load (k := 0) (i := 4) rfl rfl pcmag3 rfl rfl) ?_
              refine TL.on rfl rfl rfl ?_
              refine TL.vsplit rfl rfl rfl (gives_bin rfl rfl rfl (fun w => bin_lss w)) (fun h45 => ?_) (fun h45 => ?_)
              · have q45 := of_decide_eq_true h45
                refine TL.on rfl rfl rfl ?_
                refine TL.val rfl rfl rfl (gives_pick rfl rfl rfl) ?_
                refine TL.val rfl rfl rfl (gives_pick rfl rfl rfl) ?_
                refine TL.end_ ?_
                refine TX.then_ ?_
                refine TC.condT rfl ?_
                refine TC.seq_ ?_
                refine TC.region ?_
                refine TL.val rfl rfl rfl (gives_assign rfl rfl) ?_
                refine TL.end_ ?_
                refine TX.then_ ?_
                refine TC.ret_ ?_
                refine TX.in_ret ?_
                refine TX.then_ret ?_
                refine TX.then_ret ?_
                refine TX.in_ret ?_
                refine TX.then_ret ?_
                have hE : validR es = false := validR_false hi17 (okAt_pair (t := false) (by omega) hx17 hx28 h20 (by simp [badP, q15, h20, q23, q36, q39, q45]))
                exact ret_tmp Tryz.results84 rfl (fun w1 hw => ⟨by rw [hE], hw.bel⟩)
              · have q45 := of_decide_eq_false h45
                refine TL.on rfl rfl rfl ?_
                refine TL.val rfl rfl rfl (gives_pick rfl rfl rfl) ?_
                refine TL.val rfl rfl rfl (gives_pick rfl rfl rfl) ?_
                refine TL.end_ ?_
                refine TX.then_ ?_
                refine TC.condF rfl ?_
                refine TC.skip_ ?_
                refine TX.in_normal ?_
                refine TX.then_ ?_
                refine TC.region ?_
                refine TL.val rfl rfl rfl (gives_bin rfl rfl rfl (fun w => bin_add_ (r := ((i + 1 : Nat) : Int)) (by simp only [IntKind.wrap_i64]; omega) w)) ?_
                refine TL.val rfl rfl rfl (gives_move rfl rfl) ?_
                refine TL.end_ ?_
                exact TX.round (⟨i + 1, by omega, okN hok (okAt_pair (t := true) (by omega) hx17 hx28 h20 (by simp [badP, q15, h20, q23, q36, q39, q45]))⟩) (by show es.length - (i + 1) < es.length - i; omega) ⟨rfl, rfl, rfl, rfl, trivial⟩ (fun w1 hw => hw.pick [2] (by decide) rfl)
            · have q39 := of_decide_eq_false h39
              refine TL.on rfl rfl rfl ?_
              refine TL.val rfl rfl rfl (gives_move rfl rfl) ?_
              refine TL.off rfl rfl rfl rfl rfl rfl ?_
              refine TL.off rfl rfl rfl rfl rfl rfl ?_
              refine TL.off rfl rfl rfl rfl rfl rfl ?_
              refine TL.off rfl rfl rfl rfl rfl rfl ?_
              refine TL.off rfl rfl rfl rfl rfl rfl ?_
              refine TL.on rfl rfl rfl ?_
              refine TL.val rfl rfl rfl (gives_pick rfl rfl rfl) ?_
              refine TL.val rfl rfl rfl (gives_pick rfl rfl rfl) ?_
              refine TL.end_ ?_
              refine TX.then_ ?_
              refine TC.condF rfl ?_
              refine TC.skip_ ?_
              refine TX.in_normal ?_
              refine TX.then_ ?_
              refine TC.region ?_
              refine TL.val rfl rfl rfl (gives_bin rfl rfl rfl (fun w => bin_add_ (r := ((i + 1 : Nat) : Int)) (by simp only [IntKind.wrap_i64]; omega) w)) ?_
              refine TL.val rfl rfl rfl (gives_move rfl rfl) ?_
              refine TL.end_ ?_
              exact TX.round (⟨i + 1, by omega, okN hok (okAt_pair (t := true) (by omega) hx17 hx28 h20 (by simp [badP, q15, h20, q23, q36, q39]))⟩) (by show es.length - (i + 1) < es.length - i; omega) ⟨rfl, rfl, rfl, rfl, trivial⟩ (fun w1 hw => hw.pick [2] (by decide) rfl)
      · refine TL.val rfl rfl rfl (gives_boolnot rfl rfl) ?_
        refine TL.end_ ?_
        refine TX.then_ ?_
        refine TC.condT rfl ?_
        refine TC.seq_ ?_
        refine TC.region ?_
        refine TL.val rfl rfl rfl (gives_assign rfl rfl) ?_
        refine TL.end_ ?_
        refine TX.then_ ?_
        refine TC.ret_ ?_
        refine TX.then_ret ?_
        refine TX.in_ret ?_
        refine TX.then_ret ?_
        refine TX.then_ret ?_
        refine TX.in_ret ?_
        refine TX.then_ret ?_
        have hE : validR es = false := validR_false hi17 (okAt_bad hx17 h20)
        exact ret_tmp Tryz.results84 rfl (fun w1 hw => ⟨by rw [hE], hw.bel⟩)
    · have q15 := of_decide_eq_false h15
      refine TL.end_ ?_
      refine TX.then_ ?_
      refine TC.seq_ ?_
      refine TC.condF rfl ?_
      refine TC.exit_ ?_
      refine TX.then_exit ?_
      refine TX.then_exit ?_
      refine TX.in_same ?_
      refine TX.then_ ?_
      refine TC.seq_ ?_
      refine TC.region ?_
      refine TL.val rfl rfl rfl (gives_assign rfl rfl) ?_
      refine TL.end_ ?_
      refine TX.then_ ?_
      refine TC.ret_ ?_
      have hE : validR es = true := validR_true (by omega) (fun j hj => hok j (by omega))
      exact ret_tmp Tryz.results84 rfl (fun w1 hw => ⟨by rw [hE], hw.bel⟩)
set_option maxHeartbeats 1000000 in
theorem lookR_any (A0 : Option Addr) (c0 : Nat) (es : List En) (a t : Int) (w : World) (hr : Reads w w.heap.size 5 A0 es.length (flat En.cells es)) (hl1 : es.length ≤ 100000) :
    Calls Tryz.prog 189 #[.agg #[.slice A0 es.length c0], .int .u32 a, .int .i64 t] w fun e w' => e = .returned (.tuple #[.agg (lookR es a t).1.cells.toArray, .bool (lookR es a t).2]) ∧ Below w.heap.size w w' := by
  refine begin_ (vs := [.agg #[.slice A0 es.length c0], .int .u32 a, .int .i64 t]) Tryz.func189 rfl rfl rfl ?_ (Pm.start w)
  refine TC.seq_ ?_
  refine TC.region ?_
  refine TL.pnew rfl rfl rfl (exec_box (cs := [.slice A0 es.length c0]) rfl rfl rfl) (fun g3 => ?_)
  refine TL.pnew rfl rfl rfl (exec_alloc (cs := En.zero.cells) rfl brezv102 rfl) (fun g6 => ?_)
  refine TL.val rfl rfl rfl (gives_assign rfl rfl) ?_
  refine TL.end_ ?_
  refine TX.then_ ?_
  refine TC.seq_ ?_
  refine TC.region ?_
  refine TL.pnew rfl rfl rfl (exec_alloc (cs := En.zero.cells) rfl brezv102 rfl) (fun g8 => ?_)
  refine TL.end_ ?_
  refine TX.then_ ?_
  refine TC.seq_ ?_
  refine TC.region ?_
  refine TL.val rfl rfl rfl (gives_assign rfl rfl) ?_
  refine TL.end_ ?_
  refine TX.then_ ?_
  refine TC.seq_ ?_
  refine TC.seq_ ?_
  refine TC.region ?_
  refine TL.val rfl rfl rfl (gives_field (v := .pointer (some ⟨g3, 0, none⟩)) rfl rfl (fun w => brefld26_0 _ _ w)) ?_
  refine TL.val rfl rfl rfl (pm_load (k := 2) (i := 0) rfl rfl breag24 rfl rfl) ?_
  refine TL.val rfl rfl rfl (gives_len rfl Tryz.underlying24 rfl) ?_
  refine TL.val rfl rfl rfl (gives_move rfl rfl) ?_
  refine TL.end_ ?_
  refine TX.then_ ?_
  refine TC.block ?_
  refine TC.loop_ (α := {y : Nat × En × Bool // y.1 ≤ es.length ∧ lookR (es.take y.1) a t = y.2}) (fun y => [(1, .int .u32 a), (2, .int .i64 t), (6, .pointer (some ⟨g6, 0, none⟩)), (8, .pointer (some ⟨g8, 0, none⟩)), (13, .slice A0 es.length c0), (14, .int .i64 (es.length : Nat)), (15, .int .i64 ((y.1.1 : Nat) : Int)), (9, .bool y.1.2.2)]) (fun y => Pm w [.blk g8 102 y.1.2.1.cells, .blk g6 102 En.zero.cells, .blk g3 26 [.slice A0 es.length c0]]) (fun y => es.length - y.1.1) (⟨(0, En.zero, false), Nat.zero_le _, rfl⟩) ⟨rfl, rfl, rfl, rfl, rfl, rfl, rfl, rfl, trivial⟩ (fun w1 hw => hw) ?_
  rintro ⟨⟨i, bst, fnd⟩, hi, hst⟩
  dsimp only at hi hst ⊢
  refine TC.seq_ ?_
  refine TC.region ?_
  refine TL.vsplit rfl rfl rfl (gives_bin rfl rfl rfl (fun w => bin_lss w)) (fun h16 => ?_) (fun h16 => ?_)
  · have q16 := of_decide_eq_true h16
    refine TL.end_ ?_
    refine TX.then_ ?_
    refine TC.seq_ ?_
    refine TC.condT rfl ?_
    refine TC.skip_ ?_
    refine TX.then_ ?_
    refine TC.seq_ ?_
    refine TC.block ?_
    refine TC.seq_ ?_
    refine TC.region ?_
    have hi17 : i < es.length := by omega
    obtain ⟨x17, hx17⟩ : ∃ x17, es[i]? = some x17 := ⟨_, List.getElem?_eq_getElem hi17⟩
    obtain ⟨b17, o17, hA17, hbb17, hc17⟩ := hr.ad (by omega) (by decide)
    refine TL.val rfl rfl rfl (gives_at (v := .pointer (some ⟨b17, o17 + i * 5, none⟩)) rfl rfl rfl (fun w => at_el Tryz.underlying24 bresz102 hA17 _ _ i (by omega) rfl w)) ?_
    refine TL.val rfl rfl rfl (gives_loadR (off := o17 + i * 5) rfl rfl breag102 bresz102 (en_cel.len x17) (fun w1 hw j9 u9 h9 => (hw.bel.cell hbb17).trans <| flat_cell en_cel hx17 hc17 j9 u9 h9)) ?_
    refine TL.pnew rfl rfl rfl (exec_alloc (cs := En.zero.cells) rfl brezv102 rfl) (fun g11 => ?_)
    refine TL.pstore (k := 0) (vs := x17.cells) rfl rfl rfl rfl rfl rfl rfl bresz102 (en_cel.one _) (by show 5 ≤ 5; decide) (L' := [.blk g11 102 x17.cells, .blk g8 102 bst.cells, .blk g6 102 En.zero.cells, .blk g3 26 [.slice A0 es.length c0]]) rfl ?_
    refine TL.end_ ?_
    refine TX.then_ ?_
    refine TC.seq_ ?_
    cases fnd with
    | true =>
      refine TC.region ?_
      refine TL.val rfl rfl rfl (gives_field (v := .pointer (some ⟨g11, 3, none⟩)) rfl rfl (fun w => brefld102_2 _ _ w)) ?_
      refine TL.val rfl rfl rfl (pm_load (k := 0) (i := 3) rfl rfl pcmag3 rfl rfl) ?_
      refine TL.val rfl rfl rfl (gives_move rfl rfl) ?_
      refine TL.vsplit rfl rfl rfl (gives_bin rfl rfl rfl (fun w => bin_leq w)) (fun h22 => ?_) (fun h22 => ?_)
      · have q22 := of_decide_eq_true h22
        refine TL.val rfl rfl rfl (gives_move rfl rfl) ?_
        refine TL.on rfl rfl rfl ?_
        refine TL.val rfl rfl rfl (gives_move rfl rfl) ?_
        refine TL.on rfl rfl rfl ?_
        refine TL.val rfl rfl rfl (gives_field (v := .pointer (some ⟨g11, 4, none⟩)) rfl rfl (fun w => brefld102_3 _ _ w)) ?_
        refine TL.on rfl rfl rfl ?_
        refine TL.val rfl rfl rfl (pm_load (k := 0) (i := 4) rfl rfl pcmag3 rfl rfl) ?_
        refine TL.on rfl rfl rfl ?_
        refine TL.vsplit rfl rfl rfl (gives_bin rfl rfl rfl (fun w => bin_lss w)) (fun h27 => ?_) (fun h27 => ?_)
        · have q27 := of_decide_eq_true h27
          refine TL.val rfl rfl rfl (gives_pick rfl rfl rfl) ?_
          refine TL.val rfl rfl rfl (gives_move rfl rfl) ?_
          refine TL.on rfl rfl rfl ?_
          refine TL.val rfl rfl rfl (gives_move rfl rfl) ?_
          refine TL.on rfl rfl rfl ?_
          refine TL.val rfl rfl rfl (gives_boolnot rfl rfl) ?_
          refine TL.on rfl rfl rfl ?_
          refine TL.val rfl rfl rfl (gives_move rfl rfl) ?_
          refine TL.on rfl rfl rfl ?_
          refine TL.val rfl rfl rfl (gives_field (v := .pointer (some ⟨g11, 0, none⟩)) rfl rfl (fun w => brefld102_0 _ _ w)) ?_
          refine TL.on rfl rfl rfl ?_
          refine TL.val rfl rfl rfl (gives_field (v := .pointer (some ⟨g11, 1, none⟩)) rfl rfl (fun w => badfld100_1 _ _ w)) ?_
          refine TL.on rfl rfl rfl ?_
          refine TL.val rfl rfl rfl (pm_load (k := 0) (i := 1) rfl rfl pcmag3 rfl rfl) ?_
          refine TL.on rfl rfl rfl ?_
          refine TL.val rfl rfl rfl (gives_field (v := .pointer (some ⟨g8, 0, none⟩)) rfl rfl (fun w => brefld102_0 _ _ w)) ?_
          refine TL.on rfl rfl rfl ?_
          refine TL.val rfl rfl rfl (gives_field (v := .pointer (some ⟨g8, 1, none⟩)) rfl rfl (fun w => badfld100_1 _ _ w)) ?_
          refine TL.on rfl rfl rfl ?_
          refine TL.val rfl rfl rfl (pm_load (k := 1) (i := 1) rfl rfl pcmag3 rfl rfl) ?_
          refine TL.on rfl rfl rfl ?_
          refine TL.vsplit rfl rfl rfl (gives_bin rfl rfl rfl (fun w => bin_gtr w)) (fun h39 => ?_) (fun h39 => ?_)
          · have q39 := of_decide_eq_true h39
            refine TL.on rfl rfl rfl ?_
            refine TL.val rfl rfl rfl (gives_pick rfl rfl rfl) ?_
            refine TL.val rfl rfl rfl (gives_pick rfl rfl rfl) ?_
            refine TL.val rfl rfl rfl (gives_move rfl rfl) ?_
            refine TL.on rfl rfl rfl ?_
            refine TL.val rfl rfl rfl (gives_field (v := .pointer (some ⟨g11, 0, none⟩)) rfl rfl (fun w => brefld102_0 _ _ w)) ?_
            refine TL.on rfl rfl rfl ?_
            refine TL.val rfl rfl rfl (pm_loadV (k := 0) (i := 0) (n := 2) (v := .agg #[.int .u32 x17.addr, .int .i64 x17.len]) rfl rfl badag100 badsz100 rfl (by show 2 ≤ 5; decide) rfl) ?_
            refine TL.on rfl rfl rfl ?_
            refine TL.val rfl rfl rfl (gives_move rfl rfl) ?_
            refine TL.on rfl rfl rfl ?_
            refine TL.callsplit rfl rfl rfl rfl rfl Tryz.func216 brenm216 brebd216 (fun w1 hw => hasP_any x17.addr x17.len a w1) (fun h46 => ?_) (fun h46 => ?_)
            · refine TL.val rfl rfl rfl (gives_pick rfl rfl rfl) ?_
              refine TL.end_ ?_
              refine TX.then_ ?_
              refine TC.condT rfl ?_
              refine TC.region ?_
              refine TL.val rfl rfl rfl (pm_loadV (k := 0) (i := 0) (n := 5) (v := .agg (x17.cells).toArray) rfl rfl breag102 bresz102 rfl (by show 5 ≤ 5; decide) rfl) ?_
              refine TL.pstore (k := 1) (vs := x17.cells) rfl rfl rfl rfl rfl rfl rfl bresz102 (en_cel.one _) (by show 5 ≤ 5; decide) (L' := [.blk g11 102 x17.cells, .blk g8 102 x17.cells, .blk g6 102 En.zero.cells, .blk g3 26 [.slice A0 es.length c0]]) rfl ?_
              refine TL.val rfl rfl rfl (gives_assign rfl rfl) ?_
              refine TL.end_ ?_
              refine TX.in_normal ?_
              refine TX.then_ ?_
              refine TC.region ?_
              refine TL.val rfl rfl rfl (gives_bin rfl rfl rfl (fun w => bin_add_ (r := ((i + 1 : Nat) : Int)) (by simp only [IntKind.wrap_i64]; omega) w)) ?_
              refine TL.val rfl rfl rfl (gives_move rfl rfl) ?_
              refine TL.end_ ?_
              exact TX.round (⟨(i + 1, x17, true), by dsimp only; omega, by rw [lookR_snoc hx17 hst, if_pos (by simp [fitsE, q16, q22, q27, q39, h46])]⟩) (by show es.length - (i + 1) < es.length - i; omega) ⟨rfl, rfl, rfl, rfl, rfl, rfl, rfl, rfl, trivial⟩ (fun w1 hw => hw.pick [1, 2, 3] (by decide) rfl)
            · refine TL.val rfl rfl rfl (gives_pick rfl rfl rfl) ?_
              refine TL.end_ ?_
              refine TX.then_ ?_
              refine TC.condF rfl ?_
              refine TC.skip_ ?_
              refine TX.in_normal ?_
              refine TX.then_ ?_
              refine TC.region ?_
              refine TL.val rfl rfl rfl (gives_bin rfl rfl rfl (fun w => bin_add_ (r := ((i + 1 : Nat) : Int)) (by simp only [IntKind.wrap_i64]; omega) w)) ?_
              refine TL.val rfl rfl rfl (gives_move rfl rfl) ?_
              refine TL.end_ ?_
              exact TX.round (⟨(i + 1, bst, true), by dsimp only; omega, by rw [lookR_snoc hx17 hst, if_neg (by simp [fitsE, q16, q22, q27, q39, h46])]⟩) (by show es.length - (i + 1) < es.length - i; omega) ⟨rfl, rfl, rfl, rfl, rfl, rfl, rfl, rfl, trivial⟩ (fun w1 hw => hw.pick [1, 2, 3] (by decide) rfl)
          · have q39 := of_decide_eq_false h39
            refine TL.on rfl rfl rfl ?_
            refine TL.val rfl rfl rfl (gives_pick rfl rfl rfl) ?_
            refine TL.val rfl rfl rfl (gives_pick rfl rfl rfl) ?_
            refine TL.val rfl rfl rfl (gives_move rfl rfl) ?_
            refine TL.off rfl rfl rfl rfl rfl rfl ?_
            refine TL.off rfl rfl rfl rfl rfl rfl ?_
            refine TL.off rfl rfl rfl rfl rfl rfl ?_
            refine TL.off rfl rfl rfl rfl rfl rfl ?_
            refine TL.val rfl rfl rfl (gives_pick rfl rfl rfl) ?_
            refine TL.end_ ?_
            refine TX.then_ ?_
            refine TC.condF rfl ?_
            refine TC.skip_ ?_
            refine TX.in_normal ?_
            refine TX.then_ ?_
            refine TC.region ?_
            refine TL.val rfl rfl rfl (gives_bin rfl rfl rfl (fun w => bin_add_ (r := ((i + 1 : Nat) : Int)) (by simp only [IntKind.wrap_i64]; omega) w)) ?_
            refine TL.val rfl rfl rfl (gives_move rfl rfl) ?_
            refine TL.end_ ?_
            exact TX.round (⟨(i + 1, bst, true), by dsimp only; omega, by rw [lookR_snoc hx17 hst, if_neg (by simp [fitsE, q16, q22, q27, q39])]⟩) (by show es.length - (i + 1) < es.length - i; omega) ⟨rfl, rfl, rfl, rfl, rfl, rfl, rfl, rfl, trivial⟩ (fun w1 hw => hw.pick [1, 2, 3] (by decide) rfl)
        · have q27 := of_decide_eq_false h27
          refine TL.val rfl rfl rfl (gives_pick rfl rfl rfl) ?_
          refine TL.val rfl rfl rfl (gives_move rfl rfl) ?_
          refine TL.off rfl rfl rfl rfl rfl rfl ?_
          refine TL.off rfl rfl rfl rfl rfl rfl ?_
          refine TL.off rfl rfl rfl rfl rfl rfl ?_
          refine TL.offU rfl rfl rfl rfl rfl ?_
          refine TL.offU rfl rfl rfl rfl rfl ?_
          refine TL.offU rfl rfl rfl rfl rfl ?_
          refine TL.offU rfl rfl rfl rfl rfl ?_
          refine TL.offU rfl rfl rfl rfl rfl ?_
          refine TL.offU rfl rfl rfl rfl rfl ?_
          refine TL.offU rfl rfl rfl rfl rfl ?_
          refine TL.off rfl rfl rfl rfl rfl rfl ?_
          refine TL.val rfl rfl rfl (gives_pick rfl rfl rfl) ?_
          refine TL.val rfl rfl rfl (gives_move rfl rfl) ?_
          refine TL.off rfl rfl rfl rfl rfl rfl ?_
          refine TL.off rfl rfl rfl rfl rfl rfl ?_
          refine TL.off rfl rfl rfl rfl rfl rfl ?_
          refine TL.off rfl rfl rfl rfl rfl rfl ?_
          refine TL.val rfl rfl rfl (gives_pick rfl rfl rfl) ?_
          refine TL.end_ ?_
          refine TX.then_ ?_
          refine TC.condF rfl ?_
          refine TC.skip_ ?_
          refine TX.in_normal ?_
          refine TX.then_ ?_
          refine TC.region ?_
          refine TL.val rfl rfl rfl (gives_bin rfl rfl rfl (fun w => bin_add_ (r := ((i + 1 : Nat) : Int)) (by simp only [IntKind.wrap_i64]; omega) w)) ?_
          refine TL.val rfl rfl rfl (gives_move rfl rfl) ?_
          refine TL.end_ ?_
          exact TX.round (⟨(i + 1, bst, true), by dsimp only; omega, by rw [lookR_snoc hx17 hst, if_neg (by simp [fitsE, q16, q22, q27])]⟩) (by show es.length - (i + 1) < es.length - i; omega) ⟨rfl, rfl, rfl, rfl, rfl, rfl, rfl, rfl, trivial⟩ (fun w1 hw => hw.pick [1, 2, 3] (by decide) rfl)
      · have q22 := of_decide_eq_false h22
        refine TL.val rfl rfl rfl (gives_move rfl rfl) ?_
        refine TL.off rfl rfl rfl rfl rfl rfl ?_
        refine TL.off rfl rfl rfl rfl rfl rfl ?_
        refine TL.off rfl rfl rfl rfl rfl rfl ?_
        refine TL.off rfl rfl rfl rfl rfl rfl ?_
        refine TL.val rfl rfl rfl (gives_pick rfl rfl rfl) ?_
        refine TL.val rfl rfl rfl (gives_move rfl rfl) ?_
        refine TL.off rfl rfl rfl rfl rfl rfl ?_
        refine TL.off rfl rfl rfl rfl rfl rfl ?_
        refine TL.off rfl rfl rfl rfl rfl rfl ?_
        refine TL.offU rfl rfl rfl rfl rfl ?_
        refine TL.offU rfl rfl rfl rfl rfl ?_
        refine TL.offU rfl rfl rfl rfl rfl ?_
        refine TL.offU rfl rfl rfl rfl rfl ?_
        refine TL.offU rfl rfl rfl rfl rfl ?_
        refine TL.offU rfl rfl rfl rfl rfl ?_
        refine TL.offU rfl rfl rfl rfl rfl ?_
        refine TL.off rfl rfl rfl rfl rfl rfl ?_
        refine TL.val rfl rfl rfl (gives_pick rfl rfl rfl) ?_
        refine TL.val rfl rfl rfl (gives_move rfl rfl) ?_
        refine TL.off rfl rfl rfl rfl rfl rfl ?_
        refine TL.off rfl rfl rfl rfl rfl rfl ?_
        refine TL.off rfl rfl rfl rfl rfl rfl ?_
        refine TL.off rfl rfl rfl rfl rfl rfl ?_
        refine TL.val rfl rfl rfl (gives_pick rfl rfl rfl) ?_
        refine TL.end_ ?_
        refine TX.then_ ?_
        refine TC.condF rfl ?_
        refine TC.skip_ ?_
        refine TX.in_normal ?_
        refine TX.then_ ?_
        refine TC.region ?_
        refine TL.val rfl rfl rfl (gives_bin rfl rfl rfl (fun w => bin_add_ (r := ((i + 1 : Nat) : Int)) (by simp only [IntKind.wrap_i64]; omega) w)) ?_
        refine TL.val rfl rfl rfl (gives_move rfl rfl) ?_
        refine TL.end_ ?_
        exact TX.round (⟨(i + 1, bst, true), by dsimp only; omega, by rw [lookR_snoc hx17 hst, if_neg (by simp [fitsE, q16, q22])]⟩) (by show es.length - (i + 1) < es.length - i; omega) ⟨rfl, rfl, rfl, rfl, rfl, rfl, rfl, rfl, trivial⟩ (fun w1 hw => hw.pick [1, 2, 3] (by decide) rfl)
    | false =>
      refine TC.region ?_
      refine TL.val rfl rfl rfl (gives_field (v := .pointer (some ⟨g11, 3, none⟩)) rfl rfl (fun w => brefld102_2 _ _ w)) ?_
      refine TL.val rfl rfl rfl (pm_load (k := 0) (i := 3) rfl rfl pcmag3 rfl rfl) ?_
      refine TL.val rfl rfl rfl (gives_move rfl rfl) ?_
      refine TL.vsplit rfl rfl rfl (gives_bin rfl rfl rfl (fun w => bin_leq w)) (fun h22 => ?_) (fun h22 => ?_)
      · have q22 := of_decide_eq_true h22
        refine TL.val rfl rfl rfl (gives_move rfl rfl) ?_
        refine TL.on rfl rfl rfl ?_
        refine TL.val rfl rfl rfl (gives_move rfl rfl) ?_
        refine TL.on rfl rfl rfl ?_
        refine TL.val rfl rfl rfl (gives_field (v := .pointer (some ⟨g11, 4, none⟩)) rfl rfl (fun w => brefld102_3 _ _ w)) ?_
        refine TL.on rfl rfl rfl ?_
        refine TL.val rfl rfl rfl (pm_load (k := 0) (i := 4) rfl rfl pcmag3 rfl rfl) ?_
        refine TL.on rfl rfl rfl ?_
        refine TL.vsplit rfl rfl rfl (gives_bin rfl rfl rfl (fun w => bin_lss w)) (fun h27 => ?_) (fun h27 => ?_)
        · have q27 := of_decide_eq_true h27
          refine TL.val rfl rfl rfl (gives_pick rfl rfl rfl) ?_
          refine TL.val rfl rfl rfl (gives_move rfl rfl) ?_
          refine TL.on rfl rfl rfl ?_
          refine TL.val rfl rfl rfl (gives_move rfl rfl) ?_
          refine TL.on rfl rfl rfl ?_
          refine TL.val rfl rfl rfl (gives_boolnot rfl rfl) ?_
          refine TL.on rfl rfl rfl ?_
          refine TL.val rfl rfl rfl (gives_move rfl rfl) ?_
          refine TL.off rfl rfl rfl rfl rfl rfl ?_
          refine TL.off rfl rfl rfl rfl rfl rfl ?_
          refine TL.off rfl rfl rfl rfl rfl rfl ?_
          refine TL.off rfl rfl rfl rfl rfl rfl ?_
          refine TL.off rfl rfl rfl rfl rfl rfl ?_
          refine TL.off rfl rfl rfl rfl rfl rfl ?_
          refine TL.off rfl rfl rfl rfl rfl rfl ?_
          refine TL.on rfl rfl rfl ?_
          refine TL.val rfl rfl rfl (gives_pick rfl rfl rfl) ?_
          refine TL.val rfl rfl rfl (gives_pick rfl rfl rfl) ?_
          refine TL.val rfl rfl rfl (gives_move rfl rfl) ?_
          refine TL.on rfl rfl rfl ?_
          refine TL.val rfl rfl rfl (gives_field (v := .pointer (some ⟨g11, 0, none⟩)) rfl rfl (fun w => brefld102_0 _ _ w)) ?_
          refine TL.on rfl rfl rfl ?_
          refine TL.val rfl rfl rfl (pm_loadV (k := 0) (i := 0) (n := 2) (v := .agg #[.int .u32 x17.addr, .int .i64 x17.len]) rfl rfl badag100 badsz100 rfl (by show 2 ≤ 5; decide) rfl) ?_
          refine TL.on rfl rfl rfl ?_
          refine TL.val rfl rfl rfl (gives_move rfl rfl) ?_
          refine TL.on rfl rfl rfl ?_
          refine TL.callsplit rfl rfl rfl rfl rfl Tryz.func216 brenm216 brebd216 (fun w1 hw => hasP_any x17.addr x17.len a w1) (fun h46 => ?_) (fun h46 => ?_)
          · refine TL.val rfl rfl rfl (gives_pick rfl rfl rfl) ?_
            refine TL.end_ ?_
            refine TX.then_ ?_
            refine TC.condT rfl ?_
            refine TC.region ?_
            refine TL.val rfl rfl rfl (pm_loadV (k := 0) (i := 0) (n := 5) (v := .agg (x17.cells).toArray) rfl rfl breag102 bresz102 rfl (by show 5 ≤ 5; decide) rfl) ?_
            refine TL.pstore (k := 1) (vs := x17.cells) rfl rfl rfl rfl rfl rfl rfl bresz102 (en_cel.one _) (by show 5 ≤ 5; decide) (L' := [.blk g11 102 x17.cells, .blk g8 102 x17.cells, .blk g6 102 En.zero.cells, .blk g3 26 [.slice A0 es.length c0]]) rfl ?_
            refine TL.val rfl rfl rfl (gives_assign rfl rfl) ?_
            refine TL.end_ ?_
            refine TX.in_normal ?_
            refine TX.then_ ?_
            refine TC.region ?_
            refine TL.val rfl rfl rfl (gives_bin rfl rfl rfl (fun w => bin_add_ (r := ((i + 1 : Nat) : Int)) (by simp only [IntKind.wrap_i64]; omega) w)) ?_
            refine TL.val rfl rfl rfl (gives_move rfl rfl) ?_
            refine TL.end_ ?_
            exact TX.round (⟨(i + 1, x17, true), by dsimp only; omega, by rw [lookR_snoc hx17 hst, if_pos (by simp [fitsE, q16, q22, q27, h46])]⟩) (by show es.length - (i + 1) < es.length - i; omega) ⟨rfl, rfl, rfl, rfl, rfl, rfl, rfl, rfl, trivial⟩ (fun w1 hw => hw.pick [1, 2, 3] (by decide) rfl)
          · refine TL.val rfl rfl rfl (gives_pick rfl rfl rfl) ?_
            refine TL.end_ ?_
            refine TX.then_ ?_
            refine TC.condF rfl ?_
            refine TC.skip_ ?_
            refine TX.in_normal ?_
            refine TX.then_ ?_
            refine TC.region ?_
            refine TL.val rfl rfl rfl (gives_bin rfl rfl rfl (fun w => bin_add_ (r := ((i + 1 : Nat) : Int)) (by simp only [IntKind.wrap_i64]; omega) w)) ?_
            refine TL.val rfl rfl rfl (gives_move rfl rfl) ?_
            refine TL.end_ ?_
            exact TX.round (⟨(i + 1, bst, false), by dsimp only; omega, by rw [lookR_snoc hx17 hst, if_neg (by simp [fitsE, q16, q22, q27, h46])]⟩) (by show es.length - (i + 1) < es.length - i; omega) ⟨rfl, rfl, rfl, rfl, rfl, rfl, rfl, rfl, trivial⟩ (fun w1 hw => hw.pick [1, 2, 3] (by decide) rfl)
        · have q27 := of_decide_eq_false h27
          refine TL.val rfl rfl rfl (gives_pick rfl rfl rfl) ?_
          refine TL.val rfl rfl rfl (gives_move rfl rfl) ?_
          refine TL.off rfl rfl rfl rfl rfl rfl ?_
          refine TL.off rfl rfl rfl rfl rfl rfl ?_
          refine TL.off rfl rfl rfl rfl rfl rfl ?_
          refine TL.offU rfl rfl rfl rfl rfl ?_
          refine TL.offU rfl rfl rfl rfl rfl ?_
          refine TL.offU rfl rfl rfl rfl rfl ?_
          refine TL.offU rfl rfl rfl rfl rfl ?_
          refine TL.offU rfl rfl rfl rfl rfl ?_
          refine TL.offU rfl rfl rfl rfl rfl ?_
          refine TL.offU rfl rfl rfl rfl rfl ?_
          refine TL.off rfl rfl rfl rfl rfl rfl ?_
          refine TL.val rfl rfl rfl (gives_pick rfl rfl rfl) ?_
          refine TL.val rfl rfl rfl (gives_move rfl rfl) ?_
          refine TL.off rfl rfl rfl rfl rfl rfl ?_
          refine TL.off rfl rfl rfl rfl rfl rfl ?_
          refine TL.off rfl rfl rfl rfl rfl rfl ?_
          refine TL.off rfl rfl rfl rfl rfl rfl ?_
          refine TL.val rfl rfl rfl (gives_pick rfl rfl rfl) ?_
          refine TL.end_ ?_
          refine TX.then_ ?_
          refine TC.condF rfl ?_
          refine TC.skip_ ?_
          refine TX.in_normal ?_
          refine TX.then_ ?_
          refine TC.region ?_
          refine TL.val rfl rfl rfl (gives_bin rfl rfl rfl (fun w => bin_add_ (r := ((i + 1 : Nat) : Int)) (by simp only [IntKind.wrap_i64]; omega) w)) ?_
          refine TL.val rfl rfl rfl (gives_move rfl rfl) ?_
          refine TL.end_ ?_
          exact TX.round (⟨(i + 1, bst, false), by dsimp only; omega, by rw [lookR_snoc hx17 hst, if_neg (by simp [fitsE, q16, q22, q27])]⟩) (by show es.length - (i + 1) < es.length - i; omega) ⟨rfl, rfl, rfl, rfl, rfl, rfl, rfl, rfl, trivial⟩ (fun w1 hw => hw.pick [1, 2, 3] (by decide) rfl)
      · have q22 := of_decide_eq_false h22
        refine TL.val rfl rfl rfl (gives_move rfl rfl) ?_
        refine TL.off rfl rfl rfl rfl rfl rfl ?_
        refine TL.off rfl rfl rfl rfl rfl rfl ?_
        refine TL.off rfl rfl rfl rfl rfl rfl ?_
        refine TL.off rfl rfl rfl rfl rfl rfl ?_
        refine TL.val rfl rfl rfl (gives_pick rfl rfl rfl) ?_
        refine TL.val rfl rfl rfl (gives_move rfl rfl) ?_
        refine TL.off rfl rfl rfl rfl rfl rfl ?_
        refine TL.off rfl rfl rfl rfl rfl rfl ?_
        refine TL.off rfl rfl rfl rfl rfl rfl ?_
        refine TL.offU rfl rfl rfl rfl rfl ?_
        refine TL.offU rfl rfl rfl rfl rfl ?_
        refine TL.offU rfl rfl rfl rfl rfl ?_
        refine TL.offU rfl rfl rfl rfl rfl ?_
        refine TL.offU rfl rfl rfl rfl rfl ?_
        refine TL.offU rfl rfl rfl rfl rfl ?_
        refine TL.offU rfl rfl rfl rfl rfl ?_
        refine TL.off rfl rfl rfl rfl rfl rfl ?_
        refine TL.val rfl rfl rfl (gives_pick rfl rfl rfl) ?_
        refine TL.val rfl rfl rfl (gives_move rfl rfl) ?_
        refine TL.off rfl rfl rfl rfl rfl rfl ?_
        refine TL.off rfl rfl rfl rfl rfl rfl ?_
        refine TL.off rfl rfl rfl rfl rfl rfl ?_
        refine TL.off rfl rfl rfl rfl rfl rfl ?_
        refine TL.val rfl rfl rfl (gives_pick rfl rfl rfl) ?_
        refine TL.end_ ?_
        refine TX.then_ ?_
        refine TC.condF rfl ?_
        refine TC.skip_ ?_
        refine TX.in_normal ?_
        refine TX.then_ ?_
        refine TC.region ?_
        refine TL.val rfl rfl rfl (gives_bin rfl rfl rfl (fun w => bin_add_ (r := ((i + 1 : Nat) : Int)) (by simp only [IntKind.wrap_i64]; omega) w)) ?_
        refine TL.val rfl rfl rfl (gives_move rfl rfl) ?_
        refine TL.end_ ?_
        exact TX.round (⟨(i + 1, bst, false), by dsimp only; omega, by rw [lookR_snoc hx17 hst, if_neg (by simp [fitsE, q16, q22])]⟩) (by show es.length - (i + 1) < es.length - i; omega) ⟨rfl, rfl, rfl, rfl, rfl, rfl, rfl, rfl, trivial⟩ (fun w1 hw => hw.pick [1, 2, 3] (by decide) rfl)
  · have q16 := of_decide_eq_false h16
    refine TL.end_ ?_
    refine TX.then_ ?_
    refine TC.seq_ ?_
    refine TC.condF rfl ?_
    refine TC.exit_ ?_
    refine TX.then_exit ?_
    refine TX.then_exit ?_
    refine TX.in_same ?_
    refine TX.then_ ?_
    refine TC.seq_ ?_
    refine TC.region ?_
    refine TL.val rfl rfl rfl (pm_loadV (k := 0) (i := 0) (n := 5) (v := .agg (bst.cells).toArray) rfl rfl breag102 bresz102 rfl (by show 5 ≤ 5; decide) rfl) ?_
    refine TL.val rfl rfl rfl (gives_move rfl rfl) ?_
    refine TL.pstore (k := 1) (vs := bst.cells) rfl rfl rfl rfl rfl rfl rfl bresz102 (en_cel.one _) (by show 5 ≤ 5; decide) (L' := [.blk g8 102 bst.cells, .blk g6 102 bst.cells, .blk g3 26 [.slice A0 es.length c0]]) rfl ?_
    refine TL.val rfl rfl rfl (gives_assign rfl rfl) ?_
    refine TL.end_ ?_
    refine TX.then_ ?_
    refine TC.ret_ ?_
    have hE : lookR es a t = (bst, fnd) := by rw [List.take_of_length_le (by omega)] at hst; exact hst
    exact ret_cell2 (k := 1) (v := .bool fnd) Tryz.results189 rfl rfl rfl Tryz.underlying102 rfl rfl (fun w1 hw => ⟨by rw [hE], hw.bel⟩)
set_option maxHeartbeats 1000000 in
theorem lookV_any (A0 : Option Addr) (c0 : Nat) (es : List En) (a t : Int) (w : World) (hr : Reads w w.heap.size 5 A0 es.length (flat En.cells es)) :
    Calls Tryz.prog 161 #[.agg #[.slice A0 es.length c0], .int .u32 a, .int .i64 t] w fun e w' => e = .returned (.tuple #[.agg (lookV es a t).1.cells.toArray, .bool (lookV es a t).2]) ∧ Below w.heap.size w w' := by
  refine begin_ (vs := [.agg #[.slice A0 es.length c0], .int .u32 a, .int .i64 t]) Tryz.func161 rfl rfl rfl ?_ (Pm.start w)
  refine TC.seq_ ?_
  refine TC.region ?_
  refine TL.pnew rfl rfl rfl (exec_box (cs := [.slice A0 es.length c0]) rfl rfl rfl) (fun g3 => ?_)
  refine TL.pnew rfl rfl rfl (exec_alloc (cs := [.int .u32 0, .int .i64 0, .int .i64 0, .int .i64 0, .int .i64 0]) rfl brezv102 rfl) (fun g6 => ?_)
  refine TL.val rfl rfl rfl (gives_assign rfl rfl) ?_
  refine TL.end_ ?_
  refine TX.then_ ?_
  refine TC.seq_ ?_
  refine TC.seq_ ?_
  refine TC.region ?_
  refine TL.val rfl rfl rfl (pm_loadV (k := 1) (i := 0) (n := 1) (v := .agg #[.slice A0 es.length c0]) rfl rfl breag26 bresz26 rfl (by show 1 ≤ 1; decide) rfl) ?_
  refine TL.callsplit rfl rfl rfl rfl rfl Tryz.func84 brenm84 brebd84 (fun w1 hw => validR_any A0 c0 es w1 (hr.up hw.bel)) (fun h9 => ?_) (fun h9 => ?_)
  · refine TL.val rfl rfl rfl (gives_boolnot rfl rfl) ?_
    refine TL.end_ ?_
    refine TX.then_ ?_
    refine TC.condF rfl ?_
    refine TC.skip_ ?_
    refine TX.then_ ?_
    refine TC.seq_ ?_
    refine TC.region ?_
    refine TL.val rfl rfl rfl (pm_loadV (k := 1) (i := 0) (n := 1) (v := .agg #[.slice A0 es.length c0]) rfl rfl breag26 bresz26 rfl (by show 1 ≤ 1; decide) rfl) ?_
    refine TL.val rfl rfl rfl (gives_move rfl rfl) ?_
    refine TL.val rfl rfl rfl (gives_move rfl rfl) ?_
    refine TL.pcall1 (r := .tuple #[.agg ((lookR es a t).1.cells).toArray, .bool ((lookR es a t).2)]) rfl rfl rfl rfl rfl Tryz.func189 brenm189 brebd189 (fun w1 hw => lookR_any A0 c0 es a t w1 (hr.up hw.bel) (Nat.le_trans (validR_len h9) (by decide))) ?_
    refine TL.val rfl rfl rfl (gives_extract rfl rfl rfl) ?_
    refine TL.val rfl rfl rfl (gives_extract rfl rfl rfl) ?_
    refine TL.pstore (k := 0) (vs := (lookR es a t).1.cells) rfl rfl rfl rfl rfl rfl rfl bresz102 (en_cel.one _) (by show 5 ≤ 5; decide) (L' := [.blk g6 102 (lookR es a t).1.cells, .blk g3 26 [.slice A0 es.length c0]]) rfl ?_
    refine TL.val rfl rfl rfl (gives_assign rfl rfl) ?_
    refine TL.end_ ?_
    refine TX.then_ ?_
    refine TC.ret_ ?_
    have hE : lookV es a t = lookR es a t := if_pos h9
    exact ret_cell2 (k := 0) (v := .bool ((lookR es a t).2)) Tryz.results161 rfl rfl rfl Tryz.underlying102 rfl rfl (fun w1 hw => ⟨by rw [hE], hw.bel⟩)
  · refine TL.val rfl rfl rfl (gives_boolnot rfl rfl) ?_
    refine TL.end_ ?_
    refine TX.then_ ?_
    refine TC.condT rfl ?_
    refine TC.seq_ ?_
    refine TC.region ?_
    refine TL.val rfl rfl rfl (gives_build (v := .agg #[.int .u32 0, .int .i64 0, .int .i64 0, .int .i64 0, .int .i64 0]) rfl rfl (fun w => brebld102_791  w)) ?_
    refine TL.pstore (k := 0) (vs := [.int .u32 0, .int .i64 0, .int .i64 0, .int .i64 0, .int .i64 0]) rfl rfl rfl rfl rfl rfl rfl bresz102 breone_u32i64i64i64i64 (by show 5 ≤ 5; decide) (L' := [.blk g6 102 [.int .u32 0, .int .i64 0, .int .i64 0, .int .i64 0, .int .i64 0], .blk g3 26 [.slice A0 es.length c0]]) rfl ?_
    refine TL.val rfl rfl rfl (gives_assign rfl rfl) ?_
    refine TL.end_ ?_
    refine TX.then_ ?_
    refine TC.ret_ ?_
    refine TX.then_ret ?_
    have hE : lookV es a t = (En.zero, false) := if_neg (by rw [h9]; decide)
    exact ret_cell2 (k := 0) (v := .bool false) Tryz.results161 rfl rfl rfl Tryz.underlying102 rfl rfl (fun w1 hw => ⟨by rw [hE]; rfl, hw.bel⟩)
set_option maxHeartbeats 1000000 in
theorem prov_any (A0 : Option Addr) (c0 : Nat) (es : List En) (a t : Int) (w : World) (hr : Reads w w.heap.size 5 A0 es.length (flat En.cells es)) :
    Calls Tryz.prog 127 #[.agg #[.slice A0 es.length c0], .int .u32 a, .int .i64 t] w fun e w' => e = .returned (.int .i64 (provR es a t)) ∧ Below w.heap.size w w' := by
  refine begin_ (vs := [.agg #[.slice A0 es.length c0], .int .u32 a, .int .i64 t]) Tryz.func127 rfl rfl rfl ?_ (Pm.start w)
  refine TC.seq_ ?_
  refine TC.region ?_
  refine TL.pnew rfl rfl rfl (exec_box (cs := [.slice A0 es.length c0]) rfl rfl rfl) (fun g3 => ?_)
  refine TL.val rfl rfl rfl (gives_assign rfl rfl) ?_
  refine TL.end_ ?_
  refine TX.then_ ?_
  refine TC.seq_ ?_
  refine TC.region ?_
  refine TL.val rfl rfl rfl (pm_loadV (k := 0) (i := 0) (n := 1) (v := .agg #[.slice A0 es.length c0]) rfl rfl breag26 bresz26 rfl (by show 1 ≤ 1; decide) rfl) ?_
  refine TL.val rfl rfl rfl (gives_move rfl rfl) ?_
  refine TL.val rfl rfl rfl (gives_move rfl rfl) ?_
  refine TL.pcall1 (r := .tuple #[.agg ((lookV es a t).1.cells).toArray, .bool ((lookV es a t).2)]) rfl rfl rfl rfl rfl Tryz.func161 brenm161 brebd161 (fun w1 hw => lookV_any A0 c0 es a t w1 (hr.up hw.bel)) ?_
  refine TL.val rfl rfl rfl (gives_move rfl rfl) ?_
  refine TL.val rfl rfl rfl (gives_extract rfl rfl rfl) ?_
  refine TL.val rfl rfl rfl (gives_extract rfl rfl rfl) ?_
  refine TL.pnew rfl rfl rfl (exec_alloc (cs := [.int .u32 0, .int .i64 0, .int .i64 0, .int .i64 0, .int .i64 0]) rfl brezv102 rfl) (fun g7 => ?_)
  refine TL.pstore (k := 0) (vs := (lookV es a t).1.cells) rfl rfl rfl rfl rfl rfl rfl bresz102 (en_cel.one _) (by show 5 ≤ 5; decide) (L' := [.blk g7 102 (lookV es a t).1.cells, .blk g3 26 [.slice A0 es.length c0]]) rfl ?_
  refine TL.val rfl rfl rfl (gives_assign rfl rfl) ?_
  refine TL.end_ ?_
  refine TX.then_ ?_
  refine TC.seq_ ?_
  refine TC.region ?_
  refine TL.val rfl rfl rfl (gives_field (v := .pointer (some ⟨g7, 2, none⟩)) rfl rfl (fun w => brefld102_1 _ _ w)) ?_
  refine TL.val rfl rfl rfl (pm_load (k := 0) (i := 2) rfl rfl pcmag3 rfl rfl) ?_
  refine TL.val rfl rfl rfl (gives_assign rfl rfl) ?_
  refine TL.end_ ?_
  refine TX.then_ ?_
  refine TC.ret_ ?_
  exact ret_tmp Tryz.results127 rfl (fun w1 hw => ⟨rfl, hw.bel⟩)
end Go.Proofs.YtijmpjfafpodhaaGreat

namespace Go.Proofs.YtijmpjfafpodhaaGreat
open Go.RowKit
set_option maxRecDepth 20000
/-! ### detours -/
def dtA (f : Rs → Int) (prov t : Int) (a : Rs) : Prop := a.back < t ∧ f a ≠ 0 ∧ f a ≠ prov
def dtB (f : Rs → Int) (prov t : Int) (a b : Rs) : Prop := t ≤ b.at_ ∧ f b = prov ∧ b.src ≠ a.src
def DtF (f : Rs → Int) (y : List Rs) (prov t : Int) : Prop := ∃ a ∈ y, dtA f prov t a ∧ ∃ b ∈ y, dtB f prov t a b
theorem not_snoc {α : Type} {y : List α} {P : α → Prop} {i : Nat} {x : α} (h : ∀ z ∈ y.take i, ¬ P z) (hx : y[i]? = some x) (hn : ¬ P x) : ∀ z ∈ y.take (i + 1), ¬ P z := fun z hz => by
  rw [List.take_add_one, hx, List.mem_append] at hz
  rcases hz with h1 | h1
  · exact h z h1
  · rw [show z = x by simpa using h1]; exact hn
theorem map_at {α β : Type} {f : α → β} {l : List α} {m : List β} {i : Nat} {x : α} {v : β} (hm : m = l.map f) (hx : l[i]? = some x) (hv : m[i]? = some v) : v = f x := by
  subst hm
  rw [List.getElem?_map, hx] at hv
  exact (Option.some.inj hv).symm
theorem mapt_snoc {α β : Type} {f : α → β} {l : List α} {m : List β} {i : Nat} {x : α} (hx : l[i]? = some x) (h : (l.take i).map f = m) : (l.take (i + 1)).map f = m ++ [f x] := by
  rw [List.take_add_one, hx, List.map_append, h]; rfl
theorem adtnm127 : (Tryz.f127.name == "runtime.NumGoroutine") = false := by decide
theorem adtbd127 : Tryz.f127.body.isNone = false := rfl
theorem adtbs106_1_5377 (a0_0 : Int) (w : World) : (Instr.buildSlice 106 1 #[(0, .int .i64 a0_0)]).run Tryz.prog w = .ok (.slice (some ⟨w.heap.size, 0, none⟩) 1 1) (w.alloc (.cells [.int .i64 a0_0].toArray 3)) := by kernel_rfl
theorem adtel106 : Elem Tryz.prog 106 3 1 8 := Elem.mk' Tryz.underlying106 (z := .int .i64 0) (by kernel_rfl) rfl (by omega) (by omega)
set_option maxHeartbeats 1000000 in
theorem providers_any (A0 : Option Addr) (c0 : Nat) (l : List Rs) (A1 : Option Addr) (c1 : Nat) (es : List En) (w : World) (hr : Reads w w.heap.size 17 A0 l.length (flat Rs.cells l)) (hl1 : l.length ≤ 100000) (hr1 : Reads w w.heap.size 5 A1 es.length (flat En.cells es)) :
    Calls Tryz.prog 82 #[.slice A0 l.length c0, .agg #[.slice A1 es.length c1]] w fun e w' => ∃ x : {y : (Option Addr × Nat) × List Int // y.2 = l.map (fun r : Rs => provR es r.src r.back) ∧ y.2.length ≤ y.1.2 ∧ y.1.2 ≤ maxLen}, e = .returned (.slice x.1.1.1 x.1.2.length x.1.1.2) ∧ Pm w [.row (.slice x.1.1.1 x.1.2.length x.1.1.2) 3 1 x.1.2.length (flat (ic .i64) x.1.2)] w' := by
  refine begin_ (vs := [.slice A0 l.length c0, .agg #[.slice A1 es.length c1]]) Tryz.func82 rfl rfl rfl ?_ (Pm.start w)
  refine TC.seq_ ?_
  refine TC.region ?_
  refine TL.pnew rfl rfl rfl (exec_box (cs := [.slice A1 es.length c1]) rfl rfl rfl) (fun g3 => ?_)
  refine TL.val rfl rfl rfl (gives_assign rfl rfl) ?_
  refine TL.end_ ?_
  refine TX.then_ ?_
  refine TC.seq_ ?_
  refine TC.region ?_
  refine TL.val rfl rfl rfl (gives_assign rfl rfl) ?_
  refine TL.end_ ?_
  refine TX.then_ ?_
  refine TC.seq_ ?_
  refine TC.seq_ ?_
  refine TC.region ?_
  refine TL.val rfl rfl rfl (gives_move rfl rfl) ?_
  refine TL.val rfl rfl rfl (gives_len rfl Tryz.underlying23 rfl) ?_
  refine TL.val rfl rfl rfl (gives_move rfl rfl) ?_
  refine TL.end_ ?_
  refine TX.then_ ?_
  refine TC.block ?_
  refine TC.nilrow 3 1 ?_
  refine TC.loop_ (α := {y : Nat × (Option Addr × Nat) × List Int // y.1 ≤ l.length ∧ ((l.take y.1).map (fun r : Rs => provR es r.src r.back) = y.2.2) ∧ y.2.2.length ≤ y.1 ∧ y.2.2.length ≤ y.2.1.2 ∧ y.2.1.2 ≤ maxLen}) (fun y => [(3, .pointer (some ⟨g3, 0, none⟩)), (8, .slice A0 l.length c0), (9, .int .i64 (l.length : Nat)), (10, .int .i64 ((y.1.1 : Nat) : Int)), (5, .slice y.1.2.1.1 y.1.2.2.length y.1.2.1.2)]) (fun y => Pm w [.row (.slice y.1.2.1.1 y.1.2.2.length y.1.2.1.2) 3 1 y.1.2.2.length (flat (ic .i64) y.1.2.2), .blk g3 26 [.slice A1 es.length c1]]) (fun y => l.length - y.1.1) (⟨(0, (none, 0), []), Nat.zero_le _, rfl, Nat.le_refl _, Nat.le_refl _, Nat.zero_le _⟩) ⟨rfl, rfl, rfl, rfl, rfl, trivial⟩ (fun w1 hw => hw) ?_
  rintro ⟨⟨i, ⟨Ao, co⟩, out⟩, hi, hout, houtl, houtc, houtm⟩
  dsimp only at hi hout houtl houtc houtm ⊢
  refine TC.seq_ ?_
  refine TC.region ?_
  refine TL.vsplit rfl rfl rfl (gives_bin rfl rfl rfl (fun w => bin_lss w)) (fun h11 => ?_) (fun h11 => ?_)
  · have q11 := of_decide_eq_true h11
    refine TL.end_ ?_
    refine TX.then_ ?_
    refine TC.seq_ ?_
    refine TC.condT rfl ?_
    refine TC.skip_ ?_
    refine TX.then_ ?_
    refine TC.seq_ ?_
    refine TC.block ?_
    refine TC.seq_ ?_
    refine TC.region ?_
    have hi12 : i < l.length := by omega
    obtain ⟨x12, hx12⟩ : ∃ x12, l[i]? = some x12 := ⟨_, List.getElem?_eq_getElem hi12⟩
    obtain ⟨b12, o12, hA12, hbb12, hc12⟩ := hr.ad (by omega) (by decide)
    refine TL.val rfl rfl rfl (gives_at (v := .pointer (some ⟨b12, o12 + i * 17, none⟩)) rfl rfl rfl (fun w => at_el Tryz.underlying23 prssz65 hA12 _ _ i (by omega) rfl w)) ?_
    refine TL.val rfl rfl rfl (gives_loadR (off := o12 + i * 17) rfl rfl prsag65 prssz65 (rs_cel.len x12) (fun w1 hw j9 u9 h9 => (hw.bel.cell hbb12).trans <| flat_cell rs_cel hx12 hc12 j9 u9 h9)) ?_
    refine TL.pnew rfl rfl rfl (exec_alloc (cs := [.int .i64 0, .int .i64 0, .int .i64 0, .int .i64 0, .int .u32 0, .int .i64 0, .int .i64 0, .int .i64 0, .bool false, .bool false, .int .i64 0, .int .u32 0, .int .i64 0, .int .i64 0, .int .i64 0, .int .i64 0, .int .i64 0]) rfl arpzv65 rfl) (fun g7 => ?_)
    refine TL.pstore (k := 0) (vs := x12.cells) rfl rfl rfl rfl rfl rfl rfl prssz65 (rs_cel.one _) (by show 17 ≤ 17; decide) (L' := [.blk g7 65 x12.cells, .row (.slice Ao out.length co) 3 1 out.length (flat (ic .i64) out), .blk g3 26 [.slice A1 es.length c1]]) rfl ?_
    refine TL.end_ ?_
    refine TX.then_ ?_
    refine TC.region ?_
    refine TL.val rfl rfl rfl (gives_move rfl rfl) ?_
    refine TL.val rfl rfl rfl (pm_loadV (k := 2) (i := 0) (n := 1) (v := .agg #[.slice A1 es.length c1]) rfl rfl breag26 bresz26 rfl (by show 1 ≤ 1; decide) rfl) ?_
    refine TL.val rfl rfl rfl (gives_field (v := .pointer (some ⟨g7, 11, none⟩)) rfl rfl (fun w => prsfld65_11 _ _ w)) ?_
    refine TL.val rfl rfl rfl (gives_field (v := .pointer (some ⟨g7, 11, none⟩)) rfl rfl (fun w => prsfld63_0 _ _ w)) ?_
    refine TL.val rfl rfl rfl (pm_load (k := 0) (i := 11) rfl rfl pcmag30 rfl rfl) ?_
    refine TL.val rfl rfl rfl (gives_field (v := .pointer (some ⟨g7, 10, none⟩)) rfl rfl (fun w => prsfld65_10 _ _ w)) ?_
    refine TL.val rfl rfl rfl (pm_load (k := 0) (i := 10) rfl rfl pcmag3 rfl rfl) ?_
    refine TL.pcall1 (r := .int .i64 (provR es x12.src x12.back)) rfl rfl rfl rfl rfl Tryz.func127 adtnm127 adtbd127 (fun w1 hw => prov_any A1 c1 es x12.src x12.back w1 (hr1.up hw.bel)) ?_
    refine TL.prowS (e := 3) (size := 1) (cs := flat (ic .i64) [provR es x12.src x12.back]) rfl rfl rfl rfl rfl (fun w => adtbs106_1_5377 _ w) (by decide) rfl (fun g22 => ?_)
    refine TL.appendT (k := 2) rfl rfl rfl rfl Tryz.underlying106 adtel106 rfl rfl rfl (fun w1 hw => pm_reads hw (k := 0) rfl) (flat_one (ic_cel .i64) _) (by show _ * 8 ≤ _; omega) ((out ++ [provR es x12.src x12.back]).length) (by rw [List.length_append]; rfl) (flat (ic .i64) (out ++ [provR es x12.src x12.back])) ((flat_app _ _).symm) (fun A23 c23 hA231 hA232 => ?_)
    refine TL.val rfl rfl rfl (gives_assign rfl rfl) ?_
    refine TL.end_ ?_
    refine TX.in_normal ?_
    refine TX.then_ ?_
    refine TC.region ?_
    refine TL.val rfl rfl rfl (gives_bin rfl rfl rfl (fun w => bin_add_ (r := ((i + 1 : Nat) : Int)) (by simp only [IntKind.wrap_i64]; omega) w)) ?_
    refine TL.val rfl rfl rfl (gives_move rfl rfl) ?_
    refine TL.end_ ?_
    exact TX.round (⟨(i + 1, (A23, c23), out ++ [provR es x12.src x12.back]), by dsimp only; omega, mapt_snoc (f := (fun r : Rs => provR es r.src r.back)) hx12 hout, by dsimp only; rw [List.length_append]; show out.length + 1 ≤ _; omega, hA231, hA232⟩) (by show l.length - (i + 1) < l.length - i; omega) ⟨rfl, rfl, rfl, rfl, rfl, trivial⟩ (fun w1 hw => hw.pick [2, 3] (by decide) rfl)
  · have q11 := of_decide_eq_false h11
    refine TL.end_ ?_
    refine TX.then_ ?_
    refine TC.seq_ ?_
    refine TC.condF rfl ?_
    refine TC.exit_ ?_
    refine TX.then_exit ?_
    refine TX.then_exit ?_
    refine TX.in_same ?_
    refine TX.then_ ?_
    refine TC.seq_ ?_
    refine TC.region ?_
    refine TL.val rfl rfl rfl (gives_move rfl rfl) ?_
    refine TL.val rfl rfl rfl (gives_assign rfl rfl) ?_
    refine TL.end_ ?_
    refine TX.then_ ?_
    refine TC.ret_ ?_
    exact ret_tmp Tryz.results82 rfl (fun w1 hw => ⟨⟨((Ao, co), out), by rw [List.take_of_length_le (by omega)] at hout; exact hout.symm, by dsimp only; omega, houtm⟩, rfl, hw.pick [0] (by decide) rfl⟩)
set_option maxHeartbeats 1000000 in
theorem detour_l (A0 : Option Addr) (c0 : Nat) (l : List Rs) (A1 : Option Addr) (c1 : Nat) (ps : List Int) (f : Rs → Int) (prov t : Int) (w : World) (hr : Reads w w.heap.size 17 A0 l.length (flat Rs.cells l)) (hl1 : l.length ≤ 100000) (hr1 : Reads w w.heap.size 1 A1 ps.length (flat (ic .i64) ps)) (hps : ps = l.map f) :
    Calls Tryz.prog 81 #[.slice A0 l.length c0, .slice A1 ps.length c1, .int .i64 prov, .int .i64 t] w fun e w' => ∃ x : {b : Bool // b = true ↔ DtF f l prov t}, e = .returned (.bool x.1) ∧ Below w.heap.size w w' := by
  have hpl : ps.length = l.length := by rw [hps, List.length_map]
  refine begin_ (vs := [.slice A0 l.length c0, .slice A1 ps.length c1, .int .i64 prov, .int .i64 t]) Tryz.func81 rfl rfl rfl ?_ (Pm.start w)
  refine TC.seq_ ?_
  refine TC.region ?_
  refine TL.val rfl rfl rfl (gives_assign rfl rfl) ?_
  refine TL.end_ ?_
  refine TX.then_ ?_
  refine TC.seq_ ?_
  refine TC.seq_ ?_
  refine TC.region ?_
  refine TL.val rfl rfl rfl (gives_move rfl rfl) ?_
  refine TL.val rfl rfl rfl (gives_len rfl Tryz.underlying23 rfl) ?_
  refine TL.val rfl rfl rfl (gives_move rfl rfl) ?_
  refine TL.end_ ?_
  refine TX.then_ ?_
  refine TC.block ?_
  refine TC.loop_ (α := {i : Nat // i ≤ l.length ∧ ∀ z ∈ l.take i, ¬ (dtA f prov t z ∧ ∃ b ∈ l, dtB f prov t z b)}) (fun y => [(0, .slice A0 l.length c0), (1, .slice A1 ps.length c1), (2, .int .i64 prov), (3, .int .i64 t), (13, .slice A0 l.length c0), (14, .int .i64 (l.length : Nat)), (15, .int .i64 ((y.1 : Nat) : Int))]) (fun y => Pm w []) (fun y => l.length - y.1) (⟨0, Nat.zero_le _, fun z hz => by rw [List.take_zero] at hz; cases hz⟩) ⟨rfl, rfl, rfl, rfl, rfl, rfl, rfl, trivial⟩ (fun w1 hw => hw) ?_
  rintro ⟨i, hi, hma⟩
  try dsimp only at hi hma ⊢
  refine TC.seq_ ?_
  refine TC.region ?_
  refine TL.vsplit rfl rfl rfl (gives_bin rfl rfl rfl (fun w => bin_lss w)) (fun h16 => ?_) (fun h16 => ?_)
  · have q16 := of_decide_eq_true h16
    refine TL.end_ ?_
    refine TX.then_ ?_
    refine TC.seq_ ?_
    refine TC.condT rfl ?_
    refine TC.skip_ ?_
    refine TX.then_ ?_
    refine TC.seq_ ?_
    refine TC.block ?_
    refine TC.seq_ ?_
    refine TC.region ?_
    refine TL.val rfl rfl rfl (gives_move rfl rfl) ?_
    have hi18 : i < l.length := by omega
    obtain ⟨x18, hx18⟩ : ∃ x18, l[i]? = some x18 := ⟨_, List.getElem?_eq_getElem hi18⟩
    obtain ⟨b18, o18, hA18, hbb18, hc18⟩ := hr.ad (by omega) (by decide)
    refine TL.val rfl rfl rfl (gives_at (v := .pointer (some ⟨b18, o18 + i * 17, none⟩)) rfl rfl rfl (fun w => at_el Tryz.underlying23 prssz65 hA18 _ _ i (by omega) rfl w)) ?_
    refine TL.val rfl rfl rfl (gives_loadR (off := o18 + i * 17) rfl rfl prsag65 prssz65 (rs_cel.len x18) (fun w1 hw j9 u9 h9 => (hw.bel.cell hbb18).trans <| flat_cell rs_cel hx18 hc18 j9 u9 h9)) ?_
    refine TL.pnew rfl rfl rfl (exec_alloc (cs := [.int .i64 0, .int .i64 0, .int .i64 0, .int .i64 0, .int .u32 0, .int .i64 0, .int .i64 0, .int .i64 0, .bool false, .bool false, .int .i64 0, .int .u32 0, .int .i64 0, .int .i64 0, .int .i64 0, .int .i64 0, .int .i64 0]) rfl arpzv65 rfl) (fun g10 => ?_)
    refine TL.val rfl rfl rfl (gives_assign rfl rfl) ?_
    refine TL.pstore (k := 0) (vs := x18.cells) rfl rfl rfl rfl rfl rfl rfl prssz65 (rs_cel.one _) (by show 17 ≤ 17; decide) (L' := [.blk g10 65 x18.cells]) rfl ?_
    refine TL.end_ ?_
    refine TX.then_ ?_
    refine TC.seq_ ?_
    refine TC.seq_ ?_
    refine TC.region ?_
    refine TL.val rfl rfl rfl (gives_field (v := .pointer (some ⟨g10, 10, none⟩)) rfl rfl (fun w => prsfld65_10 _ _ w)) ?_
    refine TL.val rfl rfl rfl (pm_load (k := 0) (i := 10) rfl rfl pcmag3 rfl rfl) ?_
    refine TL.val rfl rfl rfl (gives_move rfl rfl) ?_
    refine TL.vsplit rfl rfl rfl (gives_bin rfl rfl rfl (fun w => bin_geq w)) (fun h23 => ?_) (fun h23 => ?_)
    · have q23 := of_decide_eq_true h23
      refine TL.val rfl rfl rfl (gives_move rfl rfl) ?_
      refine TL.off rfl rfl rfl rfl rfl rfl ?_
      refine TL.off rfl rfl rfl rfl rfl rfl ?_
      refine TL.off rfl rfl rfl rfl rfl rfl ?_
      refine TL.off rfl rfl rfl rfl rfl rfl ?_
      refine TL.off rfl rfl rfl rfl rfl rfl ?_
      refine TL.val rfl rfl rfl (gives_pick rfl rfl rfl) ?_
      refine TL.val rfl rfl rfl (gives_move rfl rfl) ?_
      refine TL.off rfl rfl rfl rfl rfl rfl ?_
      refine TL.off rfl rfl rfl rfl rfl rfl ?_
      refine TL.off rfl rfl rfl rfl rfl rfl ?_
      refine TL.off rfl rfl rfl rfl rfl rfl ?_
      refine TL.off rfl rfl rfl rfl rfl rfl ?_
      refine TL.off rfl rfl rfl rfl rfl rfl ?_
      refine TL.val rfl rfl rfl (gives_pick rfl rfl rfl) ?_
      refine TL.end_ ?_
      refine TX.then_ ?_
      refine TC.condT rfl ?_
      refine TC.exit_ ?_
      refine TX.then_exit ?_
      refine TX.in_same ?_
      refine TX.then_ ?_
      refine TC.region ?_
      refine TL.val rfl rfl rfl (gives_bin rfl rfl rfl (fun w => bin_add_ (r := ((i + 1 : Nat) : Int)) (by simp only [IntKind.wrap_i64]; omega) w)) ?_
      refine TL.val rfl rfl rfl (gives_move rfl rfl) ?_
      refine TL.end_ ?_
      exact TX.round (⟨i + 1, by omega, not_snoc hma hx18 (fun h => by have := h.1.1; omega)⟩) (by show l.length - (i + 1) < l.length - i; omega) ⟨rfl, rfl, rfl, rfl, rfl, rfl, rfl, trivial⟩ (fun w1 hw => hw.pick [] (by decide) rfl)
    · have q23 := of_decide_eq_false h23
      refine TL.val rfl rfl rfl (gives_move rfl rfl) ?_
      refine TL.on rfl rfl rfl ?_
      refine TL.val rfl rfl rfl (gives_move rfl rfl) ?_
      refine TL.on rfl rfl rfl ?_
      refine TL.val rfl rfl rfl (gives_move rfl rfl) ?_
      refine TL.on rfl rfl rfl ?_
      have hi27 : i < ps.length := by omega
      obtain ⟨x27, hx27⟩ : ∃ x27, ps[i]? = some x27 := ⟨_, List.getElem?_eq_getElem hi27⟩
      obtain ⟨b27, o27, hA27, hbb27, hc27⟩ := hr1.ad (by omega) (by decide)
      refine TL.val rfl rfl rfl (gives_at (v := .pointer (some ⟨b27, o27 + i * 1, none⟩)) rfl rfl rfl (fun w => at_el Tryz.underlying106 pcmsz3 hA27 _ _ i (by omega) rfl w)) ?_
      refine TL.on rfl rfl rfl ?_
      refine TL.val rfl rfl rfl (gives_load (v := .int .i64 x27) rfl rfl pcmag3 (fun w1 hw => (hw.bel.cell hbb27).trans <| flat_cell (ic_cel .i64) hx27 hc27 0 _ rfl)) ?_
      refine TL.on rfl rfl rfl ?_
      refine TL.vsplit rfl rfl rfl (gives_bin rfl rfl rfl (fun w => bin_eql w)) (fun h29 => ?_) (fun h29 => ?_)
      · have q29 := of_decide_eq_true h29
        refine TL.val rfl rfl rfl (gives_pick rfl rfl rfl) ?_
        refine TL.val rfl rfl rfl (gives_move rfl rfl) ?_
        refine TL.off rfl rfl rfl rfl rfl rfl ?_
        refine TL.off rfl rfl rfl rfl rfl rfl ?_
        refine TL.off rfl rfl rfl rfl rfl rfl ?_
        refine TL.off rfl rfl rfl rfl rfl rfl ?_
        refine TL.off rfl rfl rfl rfl rfl rfl ?_
        refine TL.off rfl rfl rfl rfl rfl rfl ?_
        refine TL.val rfl rfl rfl (gives_pick rfl rfl rfl) ?_
        refine TL.end_ ?_
        refine TX.then_ ?_
        refine TC.condT rfl ?_
        refine TC.exit_ ?_
        refine TX.then_exit ?_
        refine TX.in_same ?_
        refine TX.then_ ?_
        refine TC.region ?_
        refine TL.val rfl rfl rfl (gives_bin rfl rfl rfl (fun w => bin_add_ (r := ((i + 1 : Nat) : Int)) (by simp only [IntKind.wrap_i64]; omega) w)) ?_
        refine TL.val rfl rfl rfl (gives_move rfl rfl) ?_
        refine TL.end_ ?_
        exact TX.round (⟨i + 1, by omega, not_snoc hma hx18 (fun h => h.1.2.1 (by rw [← map_at hps hx18 hx27]; exact q29))⟩) (by show l.length - (i + 1) < l.length - i; omega) ⟨rfl, rfl, rfl, rfl, rfl, rfl, rfl, trivial⟩ (fun w1 hw => hw.pick [] (by decide) rfl)
      · have q29 := of_decide_eq_false h29
        refine TL.val rfl rfl rfl (gives_pick rfl rfl rfl) ?_
        refine TL.val rfl rfl rfl (gives_move rfl rfl) ?_
        refine TL.on rfl rfl rfl ?_
        refine TL.val rfl rfl rfl (gives_move rfl rfl) ?_
        refine TL.on rfl rfl rfl ?_
        refine TL.val rfl rfl rfl (gives_move rfl rfl) ?_
        refine TL.on rfl rfl rfl ?_
        refine TL.val rfl rfl rfl (gives_at (v := .pointer (some ⟨b27, o27 + i * 1, none⟩)) rfl rfl rfl (fun w => at_el Tryz.underlying106 pcmsz3 hA27 _ _ i (by omega) rfl w)) ?_
        refine TL.on rfl rfl rfl ?_
        refine TL.val rfl rfl rfl (gives_load (v := .int .i64 x27) rfl rfl pcmag3 (fun w1 hw => (hw.bel.cell hbb27).trans <| flat_cell (ic_cel .i64) hx27 hc27 0 _ rfl)) ?_
        refine TL.on rfl rfl rfl ?_
        refine TL.val rfl rfl rfl (gives_move rfl rfl) ?_
        refine TL.on rfl rfl rfl ?_
        refine TL.vsplit rfl rfl rfl (gives_bin rfl rfl rfl (fun w => bin_eql w)) (fun h37 => ?_) (fun h37 => ?_)
        · have q37 := of_decide_eq_true h37
          refine TL.val rfl rfl rfl (gives_pick rfl rfl rfl) ?_
          refine TL.end_ ?_
          refine TX.then_ ?_
          refine TC.condT rfl ?_
          refine TC.exit_ ?_
          refine TX.then_exit ?_
          refine TX.in_same ?_
          refine TX.then_ ?_
          refine TC.region ?_
          refine TL.val rfl rfl rfl (gives_bin rfl rfl rfl (fun w => bin_add_ (r := ((i + 1 : Nat) : Int)) (by simp only [IntKind.wrap_i64]; omega) w)) ?_
          refine TL.val rfl rfl rfl (gives_move rfl rfl) ?_
          refine TL.end_ ?_
          exact TX.round (⟨i + 1, by omega, not_snoc hma hx18 (fun h => h.1.2.2 (by rw [← map_at hps hx18 hx27]; exact q37))⟩) (by show l.length - (i + 1) < l.length - i; omega) ⟨rfl, rfl, rfl, rfl, rfl, rfl, rfl, trivial⟩ (fun w1 hw => hw.pick [] (by decide) rfl)
        · have q37 := of_decide_eq_false h37
          refine TL.val rfl rfl rfl (gives_pick rfl rfl rfl) ?_
          refine TL.end_ ?_
          refine TX.then_ ?_
          refine TC.condF rfl ?_
          refine TC.skip_ ?_
          refine TX.then_ ?_
          refine TC.seq_ ?_
          refine TC.region ?_
          refine TL.val rfl rfl rfl (gives_move rfl rfl) ?_
          refine TL.val rfl rfl rfl (gives_len rfl Tryz.underlying23 rfl) ?_
          refine TL.val rfl rfl rfl (gives_move rfl rfl) ?_
          refine TL.end_ ?_
          refine TX.then_ ?_
          refine TC.block ?_
          refine TC.loop_ (α := {k : Nat // k ≤ l.length ∧ ∀ z ∈ l.take k, ¬ (dtB f prov t x18 z)}) (fun y => [(0, .slice A0 l.length c0), (1, .slice A1 ps.length c1), (2, .int .i64 prov), (3, .int .i64 t), (10, .pointer (some ⟨g10, 0, none⟩)), (13, .slice A0 l.length c0), (14, .int .i64 (l.length : Nat)), (15, .int .i64 ((i : Nat) : Int)), (39, .slice A0 l.length c0), (40, .int .i64 (l.length : Nat)), (41, .int .i64 ((y.1 : Nat) : Int))]) (fun y => Pm w [.blk g10 65 x18.cells]) (fun y => l.length - y.1) (⟨0, Nat.zero_le _, fun z hz => by rw [List.take_zero] at hz; cases hz⟩) ⟨rfl, rfl, rfl, rfl, rfl, rfl, rfl, rfl, rfl, rfl, rfl, trivial⟩ (fun w1 hw => hw) ?_
          rintro ⟨k, hk, hmb⟩
          try dsimp only at hk hmb ⊢
          refine TC.seq_ ?_
          refine TC.region ?_
          refine TL.vsplit rfl rfl rfl (gives_bin rfl rfl rfl (fun w => bin_lss w)) (fun h42 => ?_) (fun h42 => ?_)
          · have q42 := of_decide_eq_true h42
            refine TL.end_ ?_
            refine TX.then_ ?_
            refine TC.seq_ ?_
            refine TC.condT rfl ?_
            refine TC.skip_ ?_
            refine TX.then_ ?_
            refine TC.seq_ ?_
            refine TC.block ?_
            refine TC.seq_ ?_
            refine TC.region ?_
            refine TL.val rfl rfl rfl (gives_move rfl rfl) ?_
            have hi44 : k < l.length := by omega
            obtain ⟨x44, hx44⟩ : ∃ x44, l[k]? = some x44 := ⟨_, List.getElem?_eq_getElem hi44⟩
            obtain ⟨b44, o44, hA44, hbb44, hc44⟩ := hr.ad (by omega) (by decide)
            refine TL.val rfl rfl rfl (gives_at (v := .pointer (some ⟨b44, o44 + k * 17, none⟩)) rfl rfl rfl (fun w => at_el Tryz.underlying23 prssz65 hA44 _ _ k (by omega) rfl w)) ?_
            refine TL.val rfl rfl rfl (gives_loadR (off := o44 + k * 17) rfl rfl prsag65 prssz65 (rs_cel.len x44) (fun w1 hw j9 u9 h9 => (hw.bel.cell hbb44).trans <| flat_cell rs_cel hx44 hc44 j9 u9 h9)) ?_
            refine TL.pnew rfl rfl rfl (exec_alloc (cs := [.int .i64 0, .int .i64 0, .int .i64 0, .int .i64 0, .int .u32 0, .int .i64 0, .int .i64 0, .int .i64 0, .bool false, .bool false, .int .i64 0, .int .u32 0, .int .i64 0, .int .i64 0, .int .i64 0, .int .i64 0, .int .i64 0]) rfl arpzv65 rfl) (fun g12 => ?_)
            refine TL.val rfl rfl rfl (gives_assign rfl rfl) ?_
            refine TL.pstore (k := 0) (vs := x44.cells) rfl rfl rfl rfl rfl rfl rfl prssz65 (rs_cel.one _) (by show 17 ≤ 17; decide) (L' := [.blk g12 65 x44.cells, .blk g10 65 x18.cells]) rfl ?_
            refine TL.end_ ?_
            refine TX.then_ ?_
            refine TC.seq_ ?_
            refine TC.region ?_
            refine TL.val rfl rfl rfl (gives_field (v := .pointer (some ⟨g12, 3, none⟩)) rfl rfl (fun w => prsfld65_3 _ _ w)) ?_
            refine TL.val rfl rfl rfl (pm_load (k := 0) (i := 3) rfl rfl pcmag3 rfl rfl) ?_
            refine TL.val rfl rfl rfl (gives_move rfl rfl) ?_
            refine TL.vsplit rfl rfl rfl (gives_bin rfl rfl rfl (fun w => bin_geq w)) (fun h49 => ?_) (fun h49 => ?_)
            · have q49 := of_decide_eq_true h49
              refine TL.val rfl rfl rfl (gives_move rfl rfl) ?_
              refine TL.on rfl rfl rfl ?_
              refine TL.val rfl rfl rfl (gives_move rfl rfl) ?_
              refine TL.on rfl rfl rfl ?_
              refine TL.val rfl rfl rfl (gives_move rfl rfl) ?_
              refine TL.on rfl rfl rfl ?_
              have hi53 : k < ps.length := by omega
              obtain ⟨x53, hx53⟩ : ∃ x53, ps[k]? = some x53 := ⟨_, List.getElem?_eq_getElem hi53⟩
              obtain ⟨b53, o53, hA53, hbb53, hc53⟩ := hr1.ad (by omega) (by decide)
              refine TL.val rfl rfl rfl (gives_at (v := .pointer (some ⟨b53, o53 + k * 1, none⟩)) rfl rfl rfl (fun w => at_el Tryz.underlying106 pcmsz3 hA53 _ _ k (by omega) rfl w)) ?_
              refine TL.on rfl rfl rfl ?_
              refine TL.val rfl rfl rfl (gives_load (v := .int .i64 x53) rfl rfl pcmag3 (fun w1 hw => (hw.bel.cell hbb53).trans <| flat_cell (ic_cel .i64) hx53 hc53 0 _ rfl)) ?_
              refine TL.on rfl rfl rfl ?_
              refine TL.val rfl rfl rfl (gives_move rfl rfl) ?_
              refine TL.on rfl rfl rfl ?_
              refine TL.vsplit rfl rfl rfl (gives_bin rfl rfl rfl (fun w => bin_eql w)) (fun h56 => ?_) (fun h56 => ?_)
              · have q56 := of_decide_eq_true h56
                refine TL.val rfl rfl rfl (gives_pick rfl rfl rfl) ?_
                refine TL.val rfl rfl rfl (gives_move rfl rfl) ?_
                refine TL.on rfl rfl rfl ?_
                refine TL.val rfl rfl rfl (gives_field (v := .pointer (some ⟨g12, 11, none⟩)) rfl rfl (fun w => prsfld65_11 _ _ w)) ?_
                refine TL.on rfl rfl rfl ?_
                refine TL.val rfl rfl rfl (gives_field (v := .pointer (some ⟨g12, 11, none⟩)) rfl rfl (fun w => prsfld63_0 _ _ w)) ?_
                refine TL.on rfl rfl rfl ?_
                refine TL.val rfl rfl rfl (pm_load (k := 0) (i := 11) rfl rfl pcmag30 rfl rfl) ?_
                refine TL.on rfl rfl rfl ?_
                refine TL.val rfl rfl rfl (gives_field (v := .pointer (some ⟨g10, 11, none⟩)) rfl rfl (fun w => prsfld65_11 _ _ w)) ?_
                refine TL.on rfl rfl rfl ?_
                refine TL.val rfl rfl rfl (gives_field (v := .pointer (some ⟨g10, 11, none⟩)) rfl rfl (fun w => prsfld63_0 _ _ w)) ?_
                refine TL.on rfl rfl rfl ?_
                refine TL.val rfl rfl rfl (pm_load (k := 1) (i := 11) rfl rfl pcmag30 rfl rfl) ?_
                refine TL.on rfl rfl rfl ?_
                refine TL.vsplit rfl rfl rfl (gives_bin rfl rfl rfl (fun w => bin_neq w)) (fun h65 => ?_) (fun h65 => ?_)
                · have q65 := of_decide_eq_true h65
                  refine TL.val rfl rfl rfl (gives_pick rfl rfl rfl) ?_
                  refine TL.end_ ?_
                  refine TX.then_ ?_
                  refine TC.condT rfl ?_
                  refine TC.seq_ ?_
                  refine TC.region ?_
                  refine TL.val rfl rfl rfl (gives_assign rfl rfl) ?_
                  refine TL.end_ ?_
                  refine TX.then_ ?_
                  refine TC.ret_ ?_
                  refine TX.in_ret ?_
                  refine TX.then_ret ?_
                  refine TX.then_ret ?_
                  refine TX.in_ret ?_
                  refine TX.in_ret ?_
                  refine TX.then_ret ?_
                  refine TX.then_ret ?_
                  refine TX.in_ret ?_
                  refine TX.then_ret ?_
                  have hit : DtF f l prov t := ⟨x18, List.mem_of_getElem? hx18, ⟨by omega, by rw [← map_at hps hx18 hx27]; exact q29, by rw [← map_at hps hx18 hx27]; exact q37⟩, x44, List.mem_of_getElem? hx44, by omega, by rw [← map_at hps hx44 hx53]; exact q56, q65⟩
                  exact ret_tmp Tryz.results81 rfl (fun w1 hw => ⟨⟨true, fun _ => hit, fun _ => rfl⟩, rfl, hw.bel⟩)
                · have q65 := of_decide_eq_false h65
                  refine TL.val rfl rfl rfl (gives_pick rfl rfl rfl) ?_
                  refine TL.end_ ?_
                  refine TX.then_ ?_
                  refine TC.condF rfl ?_
                  refine TC.skip_ ?_
                  refine TX.in_normal ?_
                  refine TX.then_ ?_
                  refine TC.region ?_
                  refine TL.val rfl rfl rfl (gives_bin rfl rfl rfl (fun w => bin_add_ (r := ((k + 1 : Nat) : Int)) (by simp only [IntKind.wrap_i64]; omega) w)) ?_
                  refine TL.val rfl rfl rfl (gives_move rfl rfl) ?_
                  refine TL.end_ ?_
                  exact TX.round (⟨k + 1, by omega, not_snoc hmb hx44 (fun h => q65 h.2.2)⟩) (by show l.length - (k + 1) < l.length - k; omega) ⟨rfl, rfl, rfl, rfl, rfl, rfl, rfl, rfl, rfl, rfl, rfl, trivial⟩ (fun w1 hw => hw.pick [1] (by decide) rfl)
              · have q56 := of_decide_eq_false h56
                refine TL.val rfl rfl rfl (gives_pick rfl rfl rfl) ?_
                refine TL.val rfl rfl rfl (gives_move rfl rfl) ?_
                refine TL.off rfl rfl rfl rfl rfl rfl ?_
                refine TL.off rfl rfl rfl rfl rfl rfl ?_
                refine TL.off rfl rfl rfl rfl rfl rfl ?_
                refine TL.off rfl rfl rfl rfl rfl rfl ?_
                refine TL.off rfl rfl rfl rfl rfl rfl ?_
                refine TL.off rfl rfl rfl rfl rfl rfl ?_
                refine TL.off rfl rfl rfl rfl rfl rfl ?_
                refine TL.val rfl rfl rfl (gives_pick rfl rfl rfl) ?_
                refine TL.end_ ?_
                refine TX.then_ ?_
                refine TC.condF rfl ?_
                refine TC.skip_ ?_
                refine TX.in_normal ?_
                refine TX.then_ ?_
                refine TC.region ?_
                refine TL.val rfl rfl rfl (gives_bin rfl rfl rfl (fun w => bin_add_ (r := ((k + 1 : Nat) : Int)) (by simp only [IntKind.wrap_i64]; omega) w)) ?_
                refine TL.val rfl rfl rfl (gives_move rfl rfl) ?_
                refine TL.end_ ?_
                exact TX.round (⟨k + 1, by omega, not_snoc hmb hx44 (fun h => q56 (by rw [map_at hps hx44 hx53]; exact h.2.1))⟩) (by show l.length - (k + 1) < l.length - k; omega) ⟨rfl, rfl, rfl, rfl, rfl, rfl, rfl, rfl, rfl, rfl, rfl, trivial⟩ (fun w1 hw => hw.pick [1] (by decide) rfl)
            · have q49 := of_decide_eq_false h49
              refine TL.val rfl rfl rfl (gives_move rfl rfl) ?_
              refine TL.off rfl rfl rfl rfl rfl rfl ?_
              refine TL.off rfl rfl rfl rfl rfl rfl ?_
              refine TL.off rfl rfl rfl rfl rfl rfl ?_
              refine TL.off rfl rfl rfl rfl rfl rfl ?_
              refine TL.off rfl rfl rfl rfl rfl rfl ?_
              refine TL.off rfl rfl rfl rfl rfl rfl ?_
              refine TL.val rfl rfl rfl (gives_pick rfl rfl rfl) ?_
              refine TL.val rfl rfl rfl (gives_move rfl rfl) ?_
              refine TL.off rfl rfl rfl rfl rfl rfl ?_
              refine TL.off rfl rfl rfl rfl rfl rfl ?_
              refine TL.off rfl rfl rfl rfl rfl rfl ?_
              refine TL.off rfl rfl rfl rfl rfl rfl ?_
              refine TL.off rfl rfl rfl rfl rfl rfl ?_
              refine TL.off rfl rfl rfl rfl rfl rfl ?_
              refine TL.off rfl rfl rfl rfl rfl rfl ?_
              refine TL.val rfl rfl rfl (gives_pick rfl rfl rfl) ?_
              refine TL.end_ ?_
              refine TX.then_ ?_
              refine TC.condF rfl ?_
              refine TC.skip_ ?_
              refine TX.in_normal ?_
              refine TX.then_ ?_
              refine TC.region ?_
              refine TL.val rfl rfl rfl (gives_bin rfl rfl rfl (fun w => bin_add_ (r := ((k + 1 : Nat) : Int)) (by simp only [IntKind.wrap_i64]; omega) w)) ?_
              refine TL.val rfl rfl rfl (gives_move rfl rfl) ?_
              refine TL.end_ ?_
              exact TX.round (⟨k + 1, by omega, not_snoc hmb hx44 (fun h => by have := h.1; omega)⟩) (by show l.length - (k + 1) < l.length - k; omega) ⟨rfl, rfl, rfl, rfl, rfl, rfl, rfl, rfl, rfl, rfl, rfl, trivial⟩ (fun w1 hw => hw.pick [1] (by decide) rfl)
          · have q42 := of_decide_eq_false h42
            refine TL.end_ ?_
            refine TX.then_ ?_
            refine TC.seq_ ?_
            refine TC.condF rfl ?_
            refine TC.exit_ ?_
            refine TX.then_exit ?_
            refine TX.then_exit ?_
            refine TX.in_same ?_
            refine TX.in_normal ?_
            refine TX.then_ ?_
            refine TC.region ?_
            refine TL.val rfl rfl rfl (gives_bin rfl rfl rfl (fun w => bin_add_ (r := ((i + 1 : Nat) : Int)) (by simp only [IntKind.wrap_i64]; omega) w)) ?_
            refine TL.val rfl rfl rfl (gives_move rfl rfl) ?_
            refine TL.end_ ?_
            exact TX.round (⟨i + 1, by omega, not_snoc hma hx18 (fun h => by obtain ⟨_, b, hb, h2⟩ := h; rw [List.take_of_length_le (by omega)] at hmb; exact hmb b hb h2)⟩) (by show l.length - (i + 1) < l.length - i; omega) ⟨rfl, rfl, rfl, rfl, rfl, rfl, rfl, trivial⟩ (fun w1 hw => hw.pick [] (by decide) rfl)
  · have q16 := of_decide_eq_false h16
    refine TL.end_ ?_
    refine TX.then_ ?_
    refine TC.seq_ ?_
    refine TC.condF rfl ?_
    refine TC.exit_ ?_
    refine TX.then_exit ?_
    refine TX.then_exit ?_
    refine TX.in_same ?_
    refine TX.then_ ?_
    refine TC.seq_ ?_
    refine TC.region ?_
    refine TL.val rfl rfl rfl (gives_assign rfl rfl) ?_
    refine TL.end_ ?_
    refine TX.then_ ?_
    refine TC.ret_ ?_
    have hno : ¬ DtF f l prov t := by
      rintro ⟨a, h1, h2⟩
      rw [List.take_of_length_le (by omega)] at hma
      exact hma a h1 h2
    exact ret_tmp Tryz.results81 rfl (fun w1 hw => ⟨⟨false, fun h => (by cases h), fun h => absurd h hno⟩, rfl, hw.bel⟩)
end Go.Proofs.YtijmpjfafpodhaaGreat
