/-
  The walks of the two codes of bytes with a key, by rules.
-/
import Derived.Test.YtllaojnnackhhaaDoorDgSums
import Derived.Test.YtllaojnnackhhaaDoorDgMacLaw
import Derived.Test.YtllaojnnackhhaaDoorConcat
namespace Go.Proofs.YtllaojnnackhhaaDoor
open Go.RowKit
set_option linter.unusedVariables false
set_option linter.unusedSimpArgs false
theorem mzero64 (w : World) : (zeroValue 53).run Tryd.prog w = .ok (.agg (List.replicate 64 (Value.int .u8 0)).toArray) w := by kernel_rfl
theorem row2s (A B : Option Addr) (n c m d : Nat) (w : World) : (Instr.buildSlice 60 2 #[(0, .slice A n c), (1, .slice B m d)]).run Tryd.prog w = .ok (.slice (some ⟨w.heap.size, 0, none⟩) 2 2) (w.alloc (.cells #[.slice A n c, .slice B m d] 22)) := by kernel_rfl
theorem concat2 (g c : Nat) (A1 : Option Addr) (n1 c1 : Nat) (A2 : Option Addr) (n2 c2 : Nat) (l1 l2 : List Int) (w : World) (hs : Reads w w.heap.size 1 (some ⟨g, 0, none⟩) 2 [.slice A1 n1 c1, .slice A2 n2 c2]) (h1 : Byt w w.heap.size A1 n1 l1) (h2 : Byt w w.heap.size A2 n2 l2) (hlim : n1 + n2 ≤ 140737488355328) :
    Calls Tryd.prog 26 #[.slice (some ⟨g, 0, none⟩) 2 c] w fun e w' => ∃ A' c', e = .returned (.slice A' (n1 + n2) c') ∧ n1 + n2 ≤ c' ∧ c' ≤ maxLen ∧ w'.ownsRow w.heap.size 5 1 (.slice A' (n1 + n2) c') (n1 + n2) (bv (l1 ++ l2)) ∧ Below w.heap.size w w' := by
  have hs1 : sumN [⟨A1, n1, c1, l1⟩, ⟨A2, n2, c2, l2⟩] 2 = n1 + n2 := by simp [sumN]
  have hs2 : catL [⟨A1, n1, c1, l1⟩, ⟨A2, n2, c2, l2⟩] 2 = l1 ++ l2 := by simp [catL]
  have h := concat_any [⟨A1, n1, c1, l1⟩, ⟨A2, n2, c2, l2⟩] g 2 c w hs (by
    intro s hs
    simp only [List.mem_cons, List.not_mem_nil, or_false] at hs
    rcases hs with rfl | rfl
    · exact h1
    · exact h2) (by rw [hs1]; exact hlim) (by decide)
  rw [hs1, hs2] at h
  exact h
theorem nmConc : (Tryd.f26.name == "runtime.NumGoroutine") = false := by decide
theorem bdConc : Tryd.f26.body.isNone = false := rfl
set_option maxRecDepth 100000 in
theorem mac_any (A0 : Option Addr) (n0 c0 : Nat) (l0 : List Int) (A1 : Option Addr) (n1 c1 : Nat) (l1 : List Int) (w : World) (hb0 : Byt w w.heap.size A0 n0 l0) (hb1 : Byt w w.heap.size A1 n1 l1) (hlim0 : n0 + 1000 ≤ 140737488355328) (hlim1 : n1 + 1000 ≤ 140737488355328) {ts tk : TypeId} (hst : Blk w 0 ts start8.cells) (hky : Blk w 1 tk (arrOf keysL)) :
    Calls Tryd.prog 17 #[.slice A0 n0 c0, .slice A1 n1 c1] w fun e w' => ∃ A' c', e = .returned (.slice A' 32 c') ∧ 32 ≤ c' ∧ c' ≤ maxLen ∧ w'.ownsRow w.heap.size 5 1 (.slice A' 32 c') 32 (bv (macF l0 l1)) ∧ Below w.heap.size w w' := by
  refine begin_ (vs := [.slice A0 n0 c0, .slice A1 n1 c1]) Tryd.func17 rfl rfl rfl ?_ (Pm.start w)
  refine TC.seq_ ?_
  refine TC.region ?_
  refine TL.val rfl rfl rfl (gives_assign rfl rfl) ?_
  refine TL.end_ ?_
  refine TX.then_ ?_
  refine TC.join (α := {x : Sl × List Pc // x.1.l = macKey l0 ∧ ∀ w1, Pm w x.2 w1 → Byt w1 w1.heap.size x.1.A x.1.n x.1.l}) (fun x => [(0, x.1.1.val), (1, .slice A1 n1 c1)]) (fun x => Pm w x.1.2) ?_ ?_
  · refine TC.seq_ ?_
    refine TC.region ?_
    refine TL.val rfl rfl rfl (gives_move rfl rfl) ?_
    refine TL.val rfl rfl rfl (gives_len rfl Tryd.underlying22 rfl) ?_
    refine TL.val rfl rfl rfl (gives_bin rfl rfl rfl (fun w => bin_gtr w)) ?_
    refine TL.end_ ?_
    refine TX.then_ ?_
    refine TC.split rfl (fun hc11 => ?_) (fun hc11 => ?_)
    · refine TC.region ?_
      refine TL.val rfl rfl rfl (gives_move rfl rfl) ?_
      refine TL.pcallRow (n := 32) (ys := bv (shaF (l0))) rfl rfl rfl rfl rfl Tryd.func9 nmSum bdSum (fun w1 hw => sum_any A0 (n0) c0 (l0) w1 ((hb0.below hw.bel).more hw.bel.size) (by omega) (hst.below hw.bel hst.lt) (hky.below hw.bel hky.lt)) (fun A2 c2 hA21 hA22 => ?_)
      refine TL.val rfl rfl rfl (gives_assign rfl rfl) ?_
      refine TL.end_ ?_
      exact TX.joined (⟨(⟨A2, 32, c2, shaF l0⟩, [.row (.slice A2 32 c2) 5 1 32 (bv (shaF l0))]), by have := of_decide_eq_true hc11; exact (if_pos (by rw [hb0.len]; omega)).symm, fun w1 hw => byt_own (hw.at_ (k := 0) rfl) (shaF_bs _)⟩) (⟨rfl, rfl, trivial⟩) (fun w hw => hw)
    · refine TC.skip_ ?_
      exact TX.joined (⟨(⟨A0, n0, c0, l0⟩, []), by have := of_decide_eq_false hc11; exact (if_neg (by rw [hb0.len]; omega)).symm, fun w1 hw => (hb0.below hw.bel).more hw.bel.size⟩) (⟨rfl, rfl, trivial⟩) (fun w hw => hw)
  · rintro ⟨⟨⟨A, n, c, l⟩, X⟩, hl, hX⟩
    dsimp only at hl hX ⊢
    subst hl
    refine TC.fact (p := (macKey l0).length = n) (fun w1 hw => (hX w1 hw).len) (fun hln => ?_)
    have hn64 := macKey_le l0
    rw [hln] at hn64
    have hp : (padK (macKey l0)).length = 64 := padK_len _ (by omega)
    refine TC.seq_ ?_
    refine TC.region ?_
    refine TL.pnew rfl rfl rfl (exec_alloc (cs := List.replicate 64 (.int .u8 0)) rfl mzero64 rfl) (fun g5 => ?_)
    refine TL.pnew rfl rfl rfl (exec_alloc (cs := List.replicate 64 (.int .u8 0)) rfl mzero64 rfl) (fun g6 => ?_)
    refine TL.end_ ?_
    refine TX.then_ ?_
    refine TC.seq_ ?_
    refine TC.seq_ ?_
    refine TC.region ?_
    refine TL.val rfl rfl rfl (gives_move rfl rfl) ?_
    refine TL.end_ ?_
    refine TX.then_ ?_
    refine TC.block ?_
    refine TC.loop_ (α := {i : Nat // i ≤ 64}) (fun x => [(0, .slice A n c), (1, .slice A1 n1 c1), (5, .pointer (some ⟨g5, 0, none⟩)), (6, .pointer (some ⟨g6, 0, none⟩)), (14, .int .i64 (x.1 : Int))]) (fun x => Pm w (.blk g6 53 (arr64 (xorL (padK (macKey l0)) 92) x.1) :: .blk g5 53 (arr64 (xorL (padK (macKey l0)) 54) x.1) :: X)) (fun x => 64 - x.1) (⟨0, Nat.zero_le _⟩) ⟨rfl, rfl, rfl, rfl, rfl, trivial⟩ (fun w hw => by rw [← arr64_zero, ← arr64_zero]; exact hw) ?_
    rintro ⟨i, hi⟩
    dsimp only at hi ⊢
    refine TC.seq_ ?_
    refine TC.region ?_
    refine TL.val rfl rfl rfl (gives_bin rfl rfl rfl (fun w => bin_lss w)) ?_
    refine TL.end_ ?_
    refine TX.then_ ?_
    refine TC.seq_ ?_
    refine TC.split rfl (fun hc15 => ?_) (fun hc15 => ?_)
    · have hi2 : i < 64 := by have := of_decide_eq_true hc15; omega
      refine TC.skip_ ?_
      refine TX.then_ ?_
      refine TC.seq_ ?_
      refine TC.block ?_
      refine TC.seq_ ?_
      refine TC.region ?_
      refine TL.val rfl rfl rfl (gives_move rfl rfl) ?_
      refine TL.val rfl rfl rfl (gives_assign rfl rfl) ?_
      refine TL.end_ ?_
      refine TX.then_ ?_
      refine TC.seq_ ?_
      refine TC.region ?_
      refine TL.val rfl rfl rfl (gives_assign rfl rfl) ?_
      refine TL.end_ ?_
      refine TX.then_ ?_
      refine TC.join (α := Unit) (fun _ => [(0, .slice A n c), (1, .slice A1 n1 c1), (5, .pointer (some ⟨g5, 0, none⟩)), (6, .pointer (some ⟨g6, 0, none⟩)), (7, .int .i64 (i : Int)), (14, .int .i64 (i : Int)), (8, .int .u8 ((padK (macKey l0)).getD i 0))]) (fun _ => Pm w (.blk g6 53 (arr64 (xorL (padK (macKey l0)) 92) i) :: .blk g5 53 (arr64 (xorL (padK (macKey l0)) 54) i) :: X)) ?_ ?_
      · refine TC.seq_ ?_
        refine TC.region ?_
        refine TL.val rfl rfl rfl (gives_move rfl rfl) ?_
        refine TL.val rfl rfl rfl (gives_move rfl rfl) ?_
        refine TL.val rfl rfl rfl (gives_len rfl Tryd.underlying22 rfl) ?_
        refine TL.val rfl rfl rfl (gives_bin rfl rfl rfl (fun w => bin_lss w)) ?_
        refine TL.end_ ?_
        refine TX.then_ ?_
        refine TC.split rfl (fun hc20 => ?_) (fun hc20 => ?_)
        · have hi3 : i < n := by have := of_decide_eq_true hc20; omega
          refine TC.fact (p := ∃ b o, A = some ⟨b, o, none⟩) (fun w1 hw => by obtain ⟨b, o, x, h, _⟩ := (hX w1 (Pm.tail (Pm.tail hw))).at' (k := i) hi3; exact ⟨b, o, h⟩) (fun hA => ?_)
          obtain ⟨b, o, rfl⟩ := hA
          obtain ⟨y, hy⟩ : ∃ y, (macKey l0)[i]? = some y := ⟨_, List.getElem?_eq_getElem (by omega)⟩
          refine TC.region ?_
          refine TL.val rfl rfl rfl (gives_move rfl rfl) ?_
          refine TL.val rfl rfl rfl (gives_move rfl rfl) ?_
          refine TL.val rfl rfl rfl (gives_at rfl rfl rfl (fun w => at_u8 b o n c i hi3 w)) ?_
          refine TL.val rfl rfl rfl (gives_load rfl rfl (fun w => rfl) (fun w1 hw => byt_cell_eq (hX w1 (Pm.tail (Pm.tail hw))) hi3 hy)) ?_
          refine TL.val rfl rfl rfl (gives_assign rfl rfl) ?_
          refine TL.end_ ?_
          exact TX.joined (()) (⟨rfl, rfl, rfl, rfl, rfl, rfl, by rw [padK_at _ hy]; rfl, trivial⟩) (fun w hw => hw)
        · refine TC.skip_ ?_
          exact TX.joined (()) (⟨rfl, rfl, rfl, rfl, rfl, rfl, by rw [padK_out _ (by have := of_decide_eq_false hc20; omega)]; rfl, trivial⟩) (fun w hw => hw)
      · rintro _
        refine TC.region ?_
        refine TL.val rfl rfl rfl (gives_move rfl rfl) ?_
        refine TL.val rfl rfl rfl (gives_move rfl rfl) ?_
        refine TL.val rfl rfl rfl (gives_move rfl rfl) ?_
        refine TL.val rfl rfl rfl (gives_bin rfl rfl rfl (fun w => bin_bits (.inr (.inr rfl)) w)) ?_
        refine TL.val rfl rfl rfl (gives_move rfl rfl) ?_
        refine TL.val rfl rfl rfl (gives_bin rfl rfl rfl (fun w => bin_bits (.inr (.inr rfl)) w)) ?_
        refine TL.val rfl rfl rfl (gives_at rfl rfl rfl (fun w => at_arr Tryd.underlying53 (fun w => rfl) _ 0 _ i hi2 w)) ?_
        refine TL.pstore (k := 1) (vs := [.int .u8 (bits .xor .u8 ((padK (macKey l0)).getD i 0) 54)]) rfl rfl rfl rfl rfl rfl rfl (fun w => rfl) (by intro u hu; simp only [List.mem_cons, List.not_mem_nil, or_false] at hu; subst hu; rfl) (by rw [arr64_len _ (by rw [xorL_len]; exact hp) hi]; show 0 + i + 1 ≤ 64; omega) (L' := .blk g6 53 (arr64 (xorL (padK (macKey l0)) 92) i) :: .blk g5 53 (arr64 (xorL (padK (macKey l0)) 54) (i + 1)) :: X) (congrArg (fun z => Pc.blk g6 53 (arr64 (xorL (padK (macKey l0)) 92) i) :: Pc.blk g5 53 z :: X) (arr64_put _ (by rw [xorL_len]; exact hp) (xorL_at _ _ (by omega)))) ?_
        refine TL.val rfl rfl rfl (gives_at rfl rfl rfl (fun w => at_arr Tryd.underlying53 (fun w => rfl) _ 0 _ i hi2 w)) ?_
        refine TL.pstore (k := 0) (vs := [.int .u8 (bits .xor .u8 ((padK (macKey l0)).getD i 0) 92)]) rfl rfl rfl rfl rfl rfl rfl (fun w => rfl) (by intro u hu; simp only [List.mem_cons, List.not_mem_nil, or_false] at hu; subst hu; rfl) (by rw [arr64_len _ (by rw [xorL_len]; exact hp) hi]; show 0 + i + 1 ≤ 64; omega) (L' := .blk g6 53 (arr64 (xorL (padK (macKey l0)) 92) (i + 1)) :: .blk g5 53 (arr64 (xorL (padK (macKey l0)) 54) (i + 1)) :: X) (congrArg (fun z => Pc.blk g6 53 z :: Pc.blk g5 53 (arr64 (xorL (padK (macKey l0)) 54) (i + 1)) :: X) (arr64_put _ (by rw [xorL_len]; exact hp) (xorL_at _ _ (by omega)))) ?_
        refine TL.end_ ?_
        refine TX.in_normal ?_
        refine TX.then_ ?_
        refine TC.region ?_
        refine TL.val rfl rfl rfl (gives_bin rfl rfl rfl (fun w => bin_add_ (r := ((i + 1 : Nat) : Int)) (by simp only [IntKind.wrap_i64]; omega) w)) ?_
        refine TL.val rfl rfl rfl (gives_move rfl rfl) ?_
        refine TL.end_ ?_
        exact TX.round (⟨i + 1, hi2⟩) (by show 64 - (i + 1) < 64 - i; omega) ⟨rfl, rfl, rfl, rfl, rfl, trivial⟩ (fun w hw => hw)
    · have hi2 : i = 64 := by have := of_decide_eq_false hc15; omega
      subst hi2
      refine TC.mem (I' := Pm w (.blk g6 53 (bv (xorL (padK (macKey l0)) 92)) :: .blk g5 53 (bv (xorL (padK (macKey l0)) 54)) :: X)) (fun w hw => by rw [arr64_all _ (by rw [xorL_len]; exact hp), arr64_all _ (by rw [xorL_len]; exact hp)] at hw; exact hw) ?_
      refine TC.exit_ ?_
      refine TX.then_exit ?_
      refine TX.then_exit ?_
      refine TX.in_same ?_
      refine TX.then_ ?_
      refine TC.seq_ ?_
      refine TC.held (ls := #[false, false, false, false, false, false, false, false, false, false]) (fun _ => True) (by kernel_rfl) rfl rfl (fun w hw => hw.drawn _) ?_
      refine TH.take (listed' := #[true, false, false, false, false, false, false, false, false, false]) 0 rfl (by kernel_rfl) (by kernel_rfl) (by kernel_rfl) rfl rfl rfl rfl (gives_whole (n := 64) rfl rfl Tryd.underlying53 (by kernel_rfl) (fun w => rfl)) (fun w hw => trivial) ?_
      refine TH.take (listed' := #[true, true, false, false, false, false, false, false, false, false]) 1 rfl (by kernel_rfl) (by kernel_rfl) (by kernel_rfl) rfl rfl rfl rfl (gives_whole (n := 64) rfl rfl Tryd.underlying53 (by kernel_rfl) (fun w => rfl)) (fun w hw => trivial) ?_
      refine TH.take (listed' := #[true, true, true, false, false, false, false, false, false, false]) 2 rfl (by kernel_rfl) (by kernel_rfl) (by kernel_rfl) rfl rfl rfl rfl (gives_move rfl rfl) (fun w hw => trivial) ?_
      refine TH.only (listed' := #[true, true, true, true, false, false, false, false, false, false]) 3 rfl (by kernel_rfl) rfl rfl ?_
      refine TL.prow (cs := [.slice (some ⟨g5, 0, none⟩) 64 64, .slice A1 n1 c1]) rfl rfl rfl rfl rfl (fun w => row2s _ _ _ _ _ _ w) (by decide) rfl (fun g7 => ?_)
      refine TL.end_ ?_
      refine TX.held (fun w hw => trivial) ?_
      refine TH.only (listed' := #[true, true, true, true, true, false, false, false, false, false]) 4 rfl (by kernel_rfl) rfl rfl ?_
      refine TL.pcallRow (n := 64 + n1) (ys := bv ((xorL (padK (macKey l0)) 54) ++ l1)) rfl rfl rfl rfl rfl Tryd.func26 nmConc bdConc (fun w1 hw => concat2 g7 2 _ 64 64 _ n1 _ (xorL (padK (macKey l0)) 54) l1 w1 (Reads.of_own (hw.at_ (k := 0) rfl)) (byt_blk (hw.at_ (k := 2) rfl).1 (xorL_bs _ _) (by rw [xorL_len]; exact hp)) ((hb1.below hw.bel).more hw.bel.size) (by omega)) (fun A3 c3 hA31 hA32 => ?_)
      refine TL.end_ ?_
      refine TX.held (fun w hw => trivial) ?_
      refine TH.only (listed' := #[true, true, true, true, true, true, false, false, false, false]) 5 rfl (by kernel_rfl) rfl rfl ?_
      refine TL.pcallRow (n := 32) (ys := bv (shaF ((xorL (padK (macKey l0)) 54) ++ l1))) rfl rfl rfl rfl rfl Tryd.func9 nmSum bdSum (fun w1 hw => sum_any A3 (64 + n1) c3 ((xorL (padK (macKey l0)) 54) ++ l1) w1 (byt_own (hw.at_ (k := 0) rfl) ((xorL_bs _ _).app hb1.2)) (by omega) (hst.below hw.bel hst.lt) (hky.below hw.bel hky.lt)) (fun A4 c4 hA41 hA42 => ?_)
      refine TL.end_ ?_
      refine TX.held (fun w hw => trivial) ?_
      refine TH.only (listed' := #[true, true, true, true, true, true, true, false, false, false]) 6 rfl (by kernel_rfl) rfl rfl ?_
      refine TL.prow (cs := [.slice (some ⟨g6, 0, none⟩) 64 64, .slice A4 32 c4]) rfl rfl rfl rfl rfl (fun w => row2s _ _ _ _ _ _ w) (by decide) rfl (fun g8 => ?_)
      refine TL.end_ ?_
      refine TX.held (fun w hw => trivial) ?_
      refine TH.only (listed' := #[true, true, true, true, true, true, true, true, false, false]) 7 rfl (by kernel_rfl) rfl rfl ?_
      refine TL.pcallRow (n := 64 + 32) (ys := bv ((xorL (padK (macKey l0)) 92) ++ (shaF ((xorL (padK (macKey l0)) 54) ++ l1)))) rfl rfl rfl rfl rfl Tryd.func26 nmConc bdConc (fun w1 hw => concat2 g8 2 _ 64 64 _ 32 _ (xorL (padK (macKey l0)) 92) (shaF ((xorL (padK (macKey l0)) 54) ++ l1)) w1 (Reads.of_own (hw.at_ (k := 0) rfl)) (byt_blk (hw.at_ (k := 4) rfl).1 (xorL_bs _ _) (by rw [xorL_len]; exact hp)) (byt_own (hw.at_ (k := 1) rfl) (shaF_bs _)) (by omega)) (fun A5 c5 hA51 hA52 => ?_)
      refine TL.end_ ?_
      refine TX.held (fun w hw => trivial) ?_
      refine TH.only (listed' := #[true, true, true, true, true, true, true, true, true, false]) 8 rfl (by kernel_rfl) rfl rfl ?_
      refine TL.pcallRow (n := 32) (ys := bv (shaF ((xorL (padK (macKey l0)) 92) ++ shaF ((xorL (padK (macKey l0)) 54) ++ l1)))) rfl rfl rfl rfl rfl Tryd.func9 nmSum bdSum (fun w1 hw => sum_any A5 (64 + 32) c5 ((xorL (padK (macKey l0)) 92) ++ shaF ((xorL (padK (macKey l0)) 54) ++ l1)) w1 (byt_own (hw.at_ (k := 0) rfl) ((xorL_bs _ _).app (shaF_bs _))) (by decide) (hst.below hw.bel hst.lt) (hky.below hw.bel hky.lt)) (fun A6 c6 hA61 hA62 => ?_)
      refine TL.end_ ?_
      refine TX.held (fun w hw => trivial) ?_
      refine TH.take (listed' := #[true, true, true, true, true, true, true, true, true, true]) 9 rfl (by kernel_rfl) (by kernel_rfl) (by kernel_rfl) rfl rfl rfl rfl (gives_assign rfl rfl) (fun w hw => trivial) ?_
      refine TH.done (by kernel_rfl) ?_
      refine TX.then_ ?_
      refine TC.ret_ ?_
      exact pm_ret_row (k := 0) Tryd.results17 rfl rfl (fun w1 hown hbel => ⟨A6, c6, rfl, hA61, hA62, hown, hbel⟩)
set_option maxRecDepth 100000 in
theorem rmac_any (A0 : Option Addr) (n0 c0 : Nat) (l0 : List Int) (A1 : Option Addr) (n1 c1 : Nat) (l1 : List Int) (w : World) (hb0 : Byt w w.heap.size A0 n0 l0) (hb1 : Byt w w.heap.size A1 n1 l1) (hlim0 : n0 + 1000 ≤ 140737488355328) (hlim1 : n1 + 1000 ≤ 140737488355328) :
    Calls Tryd.prog 18 #[.slice A0 n0 c0, .slice A1 n1 c1] w fun e w' => ∃ A' c', e = .returned (.slice A' 32 c') ∧ 32 ≤ c' ∧ c' ≤ maxLen ∧ w'.ownsRow w.heap.size 5 1 (.slice A' 32 c') 32 (bv (macF l0 l1)) ∧ Below w.heap.size w w' := by
  refine begin_ (vs := [.slice A0 n0 c0, .slice A1 n1 c1]) Tryd.func18 rfl rfl rfl ?_ (Pm.start w)
  refine TC.seq_ ?_
  refine TC.region ?_
  refine TL.val rfl rfl rfl (gives_assign rfl rfl) ?_
  refine TL.end_ ?_
  refine TX.then_ ?_
  refine TC.seq_ ?_
  refine TC.region ?_
  refine TL.val rfl rfl rfl (gives_move rfl rfl) ?_
  refine TL.nilrow 5 1 ?_
  refine TL.append (k := 0) rfl rfl rfl rfl elU8 rfl rfl rfl (fun w hw => pm_byt hw hb0) (bv_one l0) (by rw [Nat.mul_one]; omega) n0 (by omega) (fun A2 c2 hA21 hA22 => ?_)
  refine TL.val rfl rfl rfl (gives_assign rfl rfl) ?_
  refine TL.end_ ?_
  refine TX.then_ ?_
  refine TC.join (α := {x : Sl // x.l = macKey l0 ∧ x.l.length = x.n ∧ x.n ≤ x.c ∧ x.c ≤ maxLen}) (fun x => [(5, x.1.val), (1, .slice A1 n1 c1)]) (fun x => Pm w [.row x.1.val 5 1 x.1.n (bv x.1.l)]) ?_ ?_
  · refine TC.seq_ ?_
    refine TC.region ?_
    refine TL.val rfl rfl rfl (gives_move rfl rfl) ?_
    refine TL.val rfl rfl rfl (gives_len rfl Tryd.underlying22 rfl) ?_
    refine TL.val rfl rfl rfl (gives_bin rfl rfl rfl (fun w => bin_gtr w)) ?_
    refine TL.end_ ?_
    refine TX.then_ ?_
    refine TC.split rfl (fun hc13 => ?_) (fun hc13 => ?_)
    · refine TC.region ?_
      refine TL.val rfl rfl rfl (gives_move rfl rfl) ?_
      refine TL.pcallRow (n := 32) (ys := bv (shaF (l0))) rfl rfl rfl rfl rfl Tryd.func10 nmRSum bdRSum (fun w1 hw => rsum_all A2 (n0) c2 (l0) w1 (byt_own (hw.at_ (k := 0) rfl) hb0.2) (by omega)) (fun A3 c3 hA31 hA32 => ?_)
      refine TL.val rfl rfl rfl (gives_assign rfl rfl) ?_
      refine TL.end_ ?_
      exact TX.joined (⟨⟨A3, 32, c3, shaF l0⟩, by have := of_decide_eq_true hc13; exact (if_pos (by rw [hb0.len]; omega)).symm, shaF_len _, hA31, hA32⟩) (⟨rfl, rfl, trivial⟩) (fun w hw => hw.sel (.cons_cons _ (List.nil_sublist _)))
    · refine TC.skip_ ?_
      exact TX.joined (⟨⟨A2, n0, c2, l0⟩, by have := of_decide_eq_false hc13; exact (if_neg (by rw [hb0.len]; omega)).symm, hb0.len, hA21, hA22⟩) (⟨rfl, rfl, trivial⟩) (fun w hw => hw)
  · rintro ⟨⟨A, n, c, l⟩, hl, hln, hcc⟩
    dsimp only at hl hln hcc ⊢
    subst hl
    have hn64 := macKey_le l0
    rw [hln] at hn64
    have hp : (padK (macKey l0)).length = 64 := padK_len _ (by omega)
    refine TC.seq_ ?_
    refine TC.block ?_
    refine TC.loop_ (α := {x : Nat × Option Addr × Nat // x.1 ≤ 64 - n ∧ n + x.1 ≤ x.2.2 ∧ x.2.2 ≤ maxLen}) (fun x => [(5, .slice x.1.2.1 (n + x.1.1) x.1.2.2), (1, .slice A1 n1 c1)]) (fun x => Pm w [.row (.slice x.1.2.1 (n + x.1.1) x.1.2.2) 5 1 (n + x.1.1) (bv (macKey l0 ++ zeroL x.1.1))]) (fun x => 64 - n - x.1.1) (⟨(0, A, c), Nat.zero_le _, hcc⟩) ⟨rfl, rfl, trivial⟩ (fun w hw => by rw [show macKey l0 ++ zeroL 0 = macKey l0 from List.append_nil _]; exact hw) ?_
    rintro ⟨⟨z, A, c⟩, hz, hcc⟩
    dsimp only at hz hcc ⊢
    refine TC.seq_ ?_
    refine TC.seq_ ?_
    refine TC.region ?_
    refine TL.val rfl rfl rfl (gives_move rfl rfl) ?_
    refine TL.val rfl rfl rfl (gives_len rfl Tryd.underlying22 rfl) ?_
    refine TL.val rfl rfl rfl (gives_bin rfl rfl rfl (fun w => bin_lss w)) ?_
    refine TL.end_ ?_
    refine TX.then_ ?_
    refine TC.split rfl (fun hc18 => ?_) (fun hc18 => ?_)
    · have hz2 : z < 64 - n := by have := of_decide_eq_true hc18; omega
      refine TC.skip_ ?_
      refine TX.then_ ?_
      refine TC.block ?_
      refine TC.region ?_
      refine TL.val rfl rfl rfl (gives_move rfl rfl) ?_
      refine TL.prow (cs := [.int .u8 0]) rfl rfl rfl rfl rfl (fun w => row1 _ w) (by decide) rfl (fun g2 => ?_)
      refine TL.append (k := 1) rfl rfl rfl rfl elU8 rfl rfl rfl (fun w hw => pm_reads hw (k := 0) rfl) (one1b _) (by rw [Nat.mul_one]; omega) (n + (z + 1)) (by omega) (fun A4 c4 hA41 hA42 => ?_)
      refine TL.val rfl rfl rfl (gives_assign rfl rfl) ?_
      refine TL.end_ ?_
      refine TX.in_normal ?_
      exact TX.round (⟨(z + 1, A4, c4), hz2, hA41, hA42⟩) (by show 64 - n - (z + 1) < 64 - n - z; omega) ⟨rfl, rfl, trivial⟩ (fun w hw => by have h := Pm.tail hw; rw [show macKey l0 ++ zeroL (z + 1) = macKey l0 ++ zeroL z ++ [0] by rw [List.append_assoc, zeroL, zeroL, List.replicate_succ'], bv_append]; exact h)
    · have hz2 : z = 64 - n := by have := of_decide_eq_false hc18; omega
      subst hz2
      have hnz : n + (64 - n) = 64 := by omega
      refine TC.cut [(5, .slice A 64 c), (1, .slice A1 n1 c1)] (Pm w [.row (.slice A 64 c) 5 1 (64) (bv (padK (macKey l0)))]) ⟨by rw [hnz]; rfl, rfl, trivial⟩ (fun w hw => by rw [hnz] at hw; unfold padK; rw [hln]; exact hw) ?_
      refine TC.fact (p := ∃ gk, A = some ⟨gk, 0, none⟩) (fun w1 hw => row_some (hw.at_ (k := 0) rfl) (by omega)) (fun hgk => ?_)
      obtain ⟨gk, rfl⟩ := hgk
      refine TC.exit_ ?_
      refine TX.then_exit ?_
      refine TX.then_exit ?_
      refine TX.in_same ?_
      refine TX.then_ ?_
      refine TC.join (α := Nat × Nat) (fun x => [(5, .slice (some ⟨gk, 0, none⟩) 64 c), (1, .slice A1 n1 c1), (6, .slice (some ⟨x.1, 0, none⟩) 64 64), (7, .slice (some ⟨x.2, 0, none⟩) 64 64)]) (fun x => Pm w [.row (.slice (some ⟨x.2, 0, none⟩) 64 64) 5 1 (64) (List.replicate 64 (.int .u8 0)), .row (.slice (some ⟨x.1, 0, none⟩) 64 64) 5 1 (64) (List.replicate 64 (.int .u8 0)), .row (.slice (some ⟨gk, 0, none⟩) 64 c) 5 1 (64) (bv (padK (macKey l0)))]) ?_ ?_
      · refine TC.held (ls := #[false, false, false, false]) (fun _ => True) (by kernel_rfl) rfl rfl (fun w hw => hw.drawn _) ?_
        refine TH.two (listed1 := #[true, false, false, false]) (listed2 := #[false, true, false, false]) 0 1 rfl rfl (by kernel_rfl) rfl rfl rfl rfl ?_ ?_
        · refine TL.mkrow (m := 64) rfl rfl rfl rfl rfl rfl elU8 (z := .int .u8 0) (by kernel_rfl) (zs := List.replicate 64 (.int .u8 0)) (made_one _ rfl 64) (by decide) (fun g6 => ?_)
          refine TL.end_ ?_
          refine TX.held (fun w hw => trivial) ?_
          refine TH.take (listed' := #[true, false, true, false]) 2 rfl (by kernel_rfl) (by kernel_rfl) (by kernel_rfl) rfl rfl rfl rfl (gives_assign rfl rfl) (fun w hw => trivial) ?_
          refine TH.only (listed' := #[true, true, true, false]) 1 rfl (by kernel_rfl) rfl rfl ?_
          refine TL.mkrow (m := 64) rfl rfl rfl rfl rfl rfl elU8 (z := .int .u8 0) (by kernel_rfl) (zs := List.replicate 64 (.int .u8 0)) (made_one _ rfl 64) (by decide) (fun g7 => ?_)
          refine TL.end_ ?_
          refine TX.held (fun w hw => trivial) ?_
          refine TH.take (listed' := #[true, true, true, true]) 3 rfl (by kernel_rfl) (by kernel_rfl) (by kernel_rfl) rfl rfl rfl rfl (gives_assign rfl rfl) (fun w hw => trivial) ?_
          refine TH.done (by kernel_rfl) ?_
          exact TX.joined ((g6, g7)) (⟨rfl, rfl, rfl, rfl, trivial⟩) (fun w hw => hw)
        · refine TL.mkrow (m := 64) rfl rfl rfl rfl rfl rfl elU8 (z := .int .u8 0) (by kernel_rfl) (zs := List.replicate 64 (.int .u8 0)) (made_one _ rfl 64) (by decide) (fun g7 => ?_)
          refine TL.end_ ?_
          refine TX.held (fun w hw => trivial) ?_
          refine TH.only (listed' := #[true, true, false, false]) 0 rfl (by kernel_rfl) rfl rfl ?_
          refine TL.mkrow (m := 64) rfl rfl rfl rfl rfl rfl elU8 (z := .int .u8 0) (by kernel_rfl) (zs := List.replicate 64 (.int .u8 0)) (made_one _ rfl 64) (by decide) (fun g6 => ?_)
          refine TL.end_ ?_
          refine TX.held (fun w hw => trivial) ?_
          refine TH.take (listed' := #[true, true, true, false]) 2 rfl (by kernel_rfl) (by kernel_rfl) (by kernel_rfl) rfl rfl rfl rfl (gives_assign rfl rfl) (fun w hw => trivial) ?_
          refine TH.take (listed' := #[true, true, true, true]) 3 rfl (by kernel_rfl) (by kernel_rfl) (by kernel_rfl) rfl rfl rfl rfl (gives_assign rfl rfl) (fun w hw => trivial) ?_
          refine TH.done (by kernel_rfl) ?_
          exact TX.joined ((g6, g7)) (⟨rfl, rfl, rfl, rfl, trivial⟩) (fun w hw => hw.swap)
      · rintro ⟨g6, g7⟩
        dsimp only
        refine TC.seq_ ?_
        refine TC.seq_ ?_
        refine TC.region ?_
        refine TL.val rfl rfl rfl (gives_assign rfl rfl) ?_
        refine TL.end_ ?_
        refine TX.then_ ?_
        refine TC.block ?_
        refine TC.loop_ (α := {i : Nat // i ≤ 64}) (fun x => [(5, .slice (some ⟨gk, 0, none⟩) 64 c), (1, .slice A1 n1 c1), (6, .slice (some ⟨g6, 0, none⟩) 64 64), (7, .slice (some ⟨g7, 0, none⟩) 64 64), (8, .int .i64 (x.1 : Int))]) (fun x => Pm w [.row (.slice (some ⟨g7, 0, none⟩) 64 64) 5 1 (64) (arr64 (xorL (padK (macKey l0)) 92) x.1), .row (.slice (some ⟨g6, 0, none⟩) 64 64) 5 1 (64) (arr64 (xorL (padK (macKey l0)) 54) x.1), .row (.slice (some ⟨gk, 0, none⟩) 64 c) 5 1 (64) (bv (padK (macKey l0)))]) (fun x => 64 - x.1) (⟨0, Nat.zero_le _⟩) ⟨rfl, rfl, rfl, rfl, rfl, trivial⟩ (fun w hw => by rw [← arr64_zero, ← arr64_zero]; exact hw) ?_
        rintro ⟨i, hi⟩
        dsimp only at hi ⊢
        refine TC.seq_ ?_
        refine TC.seq_ ?_
        refine TC.region ?_
        refine TL.val rfl rfl rfl (gives_move rfl rfl) ?_
        refine TL.val rfl rfl rfl (gives_bin rfl rfl rfl (fun w => bin_lss w)) ?_
        refine TL.end_ ?_
        refine TX.then_ ?_
        refine TC.split rfl (fun hc25 => ?_) (fun hc25 => ?_)
        · have hi2 : i < 64 := by have := of_decide_eq_true hc25; omega
          have hy : (bv (padK (macKey l0)))[0 + i]? = some (.int .u8 ((padK (macKey l0)).getD i 0)) := by rw [Nat.zero_add]; simp only [bv, List.getElem?_map, List.getD_eq_getElem?_getD]; rw [List.getElem?_eq_getElem (by omega)]; rfl
          refine TC.skip_ ?_
          refine TX.then_ ?_
          refine TC.seq_ ?_
          refine TC.block ?_
          refine TC.held (ls := #[false, false, false, false, false, false, false, false, false, false, false, false, false, false, false, false, false, false]) (Pm w [.row (.slice (some ⟨gk, 0, none⟩) 64 c) 5 1 (64) (bv (padK (macKey l0)))]) (by kernel_rfl) rfl rfl (fun w hw => hw.drawn _) ?_
          refine TH.take (listed' := #[true, false, false, false, false, false, false, false, false, false, false, false, false, false, false, false, false, false]) 0 rfl (by kernel_rfl) (by kernel_rfl) (by kernel_rfl) rfl rfl rfl rfl (gives_move rfl rfl) (fun w hw => hw.sel (.cons _ (.cons _ (.cons_cons _ (List.nil_sublist _))))) ?_
          refine TH.take (listed' := #[true, true, false, false, false, false, false, false, false, false, false, false, false, false, false, false, false, false]) 1 rfl (by kernel_rfl) (by kernel_rfl) (by kernel_rfl) rfl rfl rfl rfl (gives_move rfl rfl) (fun w hw => hw.sel (.cons _ (.cons _ (.cons_cons _ (List.nil_sublist _))))) ?_
          refine TH.take (listed' := #[true, true, true, false, false, false, false, false, false, false, false, false, false, false, false, false, false, false]) 2 rfl (by kernel_rfl) (by kernel_rfl) (by kernel_rfl) rfl rfl rfl rfl (gives_move rfl rfl) (fun w hw => hw.sel (.cons _ (.cons _ (.cons_cons _ (List.nil_sublist _))))) ?_
          refine TH.take (listed' := #[true, true, true, true, false, false, false, false, false, false, false, false, false, false, false, false, false, false]) 3 rfl (by kernel_rfl) (by kernel_rfl) (by kernel_rfl) rfl rfl rfl rfl (gives_move rfl rfl) (fun w hw => hw.sel (.cons _ (.cons _ (.cons_cons _ (List.nil_sublist _))))) ?_
          refine TH.take (listed' := #[true, true, true, true, true, false, false, false, false, false, false, false, false, false, false, false, false, false]) 4 rfl (by kernel_rfl) (by kernel_rfl) (by kernel_rfl) rfl rfl rfl rfl (gives_move rfl rfl) (fun w hw => hw.sel (.cons _ (.cons _ (.cons_cons _ (List.nil_sublist _))))) ?_
          refine TH.take (listed' := #[true, true, true, true, true, true, false, false, false, false, false, false, false, false, false, false, false, false]) 5 rfl (by kernel_rfl) (by kernel_rfl) (by kernel_rfl) rfl rfl rfl rfl (gives_move rfl rfl) (fun w hw => hw.sel (.cons _ (.cons _ (.cons_cons _ (List.nil_sublist _))))) ?_
          refine TH.take (listed' := #[true, true, true, true, true, true, true, false, false, false, false, false, false, false, false, false, false, false]) 6 rfl (by kernel_rfl) (by kernel_rfl) (by kernel_rfl) rfl rfl rfl rfl (gives_at rfl rfl rfl (fun w => at_u8 gk 0 64 c i hi2 w)) (fun w hw => hw.sel (.cons _ (.cons _ (.cons_cons _ (List.nil_sublist _))))) ?_
          refine TH.take (listed' := #[true, true, true, true, true, true, true, true, false, false, false, false, false, false, false, false, false, false]) 7 rfl (by kernel_rfl) (by kernel_rfl) (by kernel_rfl) rfl rfl rfl rfl (pm_loadRow (k := 0) (v := .int .u8 ((padK (macKey l0)).getD i 0)) rfl rfl (fun w => rfl) rfl hy) (fun w hw => hw.sel (.cons _ (.cons _ (.cons_cons _ (List.nil_sublist _))))) ?_
          refine TH.take (listed' := #[true, true, true, true, true, true, true, true, true, false, false, false, false, false, false, false, false, false]) 8 rfl (by kernel_rfl) (by kernel_rfl) (by kernel_rfl) rfl rfl rfl rfl (gives_bin rfl rfl rfl (fun w => bin_bits (.inr (.inr rfl)) w)) (fun w hw => hw.sel (.cons _ (.cons _ (.cons_cons _ (List.nil_sublist _))))) ?_
          refine TH.take (listed' := #[true, true, true, true, true, true, true, true, true, true, false, false, false, false, false, false, false, false]) 9 rfl (by kernel_rfl) (by kernel_rfl) (by kernel_rfl) rfl rfl rfl rfl (gives_move rfl rfl) (fun w hw => hw.sel (.cons _ (.cons _ (.cons_cons _ (List.nil_sublist _))))) ?_
          refine TH.take (listed' := #[true, true, true, true, true, true, true, true, true, true, true, false, false, false, false, false, false, false]) 10 rfl (by kernel_rfl) (by kernel_rfl) (by kernel_rfl) rfl rfl rfl rfl (gives_move rfl rfl) (fun w hw => hw.sel (.cons _ (.cons _ (.cons_cons _ (List.nil_sublist _))))) ?_
          refine TH.take (listed' := #[true, true, true, true, true, true, true, true, true, true, true, true, false, false, false, false, false, false]) 11 rfl (by kernel_rfl) (by kernel_rfl) (by kernel_rfl) rfl rfl rfl rfl (gives_at rfl rfl rfl (fun w => at_u8 gk 0 64 c i hi2 w)) (fun w hw => hw.sel (.cons _ (.cons _ (.cons_cons _ (List.nil_sublist _))))) ?_
          refine TH.take (listed' := #[true, true, true, true, true, true, true, true, true, true, true, true, true, false, false, false, false, false]) 12 rfl (by kernel_rfl) (by kernel_rfl) (by kernel_rfl) rfl rfl rfl rfl (pm_loadRow (k := 0) (v := .int .u8 ((padK (macKey l0)).getD i 0)) rfl rfl (fun w => rfl) rfl hy) (fun w hw => hw.sel (.cons _ (.cons _ (.cons_cons _ (List.nil_sublist _))))) ?_
          refine TH.take (listed' := #[true, true, true, true, true, true, true, true, true, true, true, true, true, true, false, false, false, false]) 13 rfl (by kernel_rfl) (by kernel_rfl) (by kernel_rfl) rfl rfl rfl rfl (gives_bin rfl rfl rfl (fun w => bin_bits (.inr (.inr rfl)) w)) (fun w hw => hw.sel (.cons _ (.cons _ (.cons_cons _ (List.nil_sublist _))))) ?_
          refine TH.take (listed' := #[true, true, true, true, true, true, true, true, true, true, true, true, true, true, true, false, false, false]) 14 rfl (by kernel_rfl) (by kernel_rfl) (by kernel_rfl) rfl rfl rfl rfl (gives_at rfl rfl rfl (fun w => at_u8 g6 0 64 64 i hi2 w)) (fun w hw => hw.sel (.cons _ (.cons _ (.cons_cons _ (List.nil_sublist _))))) ?_
          refine TH.only (listed' := #[true, true, true, true, true, true, true, true, true, true, true, true, true, true, true, true, false, false]) 15 rfl (by kernel_rfl) rfl rfl ?_
          refine TL.rowset (k := 1) (vs := [.int .u8 (bits .xor .u8 ((padK (macKey l0)).getD i 0) 54)]) rfl rfl rfl rfl rfl rfl rfl (fun w => rfl) (by intro u hu; simp only [List.mem_cons, List.not_mem_nil, or_false] at hu; subst hu; rfl) (by rw [arr64_len _ (by rw [xorL_len]; exact hp) hi]; show 0 + i + 1 ≤ 64; omega) (xs' := arr64 (xorL (padK (macKey l0)) 54) (i + 1)) (arr64_put _ (by rw [xorL_len]; exact hp) (xorL_at _ _ (by omega))) ?_
          refine TL.end_ ?_
          refine TX.held (fun w hw => hw.sel (.cons _ (.cons _ (.cons_cons _ (List.nil_sublist _))))) ?_
          refine TH.take (listed' := #[true, true, true, true, true, true, true, true, true, true, true, true, true, true, true, true, true, false]) 16 rfl (by kernel_rfl) (by kernel_rfl) (by kernel_rfl) rfl rfl rfl rfl (gives_at rfl rfl rfl (fun w => at_u8 g7 0 64 64 i hi2 w)) (fun w hw => hw.sel (.cons _ (.cons _ (.cons_cons _ (List.nil_sublist _))))) ?_
          refine TH.only (listed' := #[true, true, true, true, true, true, true, true, true, true, true, true, true, true, true, true, true, true]) 17 rfl (by kernel_rfl) rfl rfl ?_
          refine TL.rowset (k := 0) (vs := [.int .u8 (bits .xor .u8 ((padK (macKey l0)).getD i 0) 92)]) rfl rfl rfl rfl rfl rfl rfl (fun w => rfl) (by intro u hu; simp only [List.mem_cons, List.not_mem_nil, or_false] at hu; subst hu; rfl) (by rw [arr64_len _ (by rw [xorL_len]; exact hp) hi]; show 0 + i + 1 ≤ 64; omega) (xs' := arr64 (xorL (padK (macKey l0)) 92) (i + 1)) (arr64_put _ (by rw [xorL_len]; exact hp) (xorL_at _ _ (by omega))) ?_
          refine TL.end_ ?_
          refine TX.held (fun w hw => hw.sel (.cons _ (.cons _ (.cons_cons _ (List.nil_sublist _))))) ?_
          refine TH.done (by kernel_rfl) ?_
          refine TX.in_normal ?_
          refine TX.then_ ?_
          refine TC.region ?_
          refine TL.val rfl rfl rfl (gives_move rfl rfl) ?_
          refine TL.val rfl rfl rfl (gives_bin rfl rfl rfl (fun w => bin_add_ (r := ((i + 1 : Nat) : Int)) (by simp only [IntKind.wrap_i64]; omega) w)) ?_
          refine TL.val rfl rfl rfl (gives_assign rfl rfl) ?_
          refine TL.end_ ?_
          exact TX.round (⟨i + 1, hi2⟩) (by show 64 - (i + 1) < 64 - i; omega) ⟨rfl, rfl, rfl, rfl, rfl, trivial⟩ (fun w hw => hw)
        · have hi2 : i = 64 := by have := of_decide_eq_false hc25; omega
          subst hi2
          refine TC.mem (I' := Pm w [.row (.slice (some ⟨g7, 0, none⟩) 64 64) 5 1 (64) (bv (xorL (padK (macKey l0)) 92)), .row (.slice (some ⟨g6, 0, none⟩) 64 64) 5 1 (64) (bv (xorL (padK (macKey l0)) 54)), .row (.slice (some ⟨gk, 0, none⟩) 64 c) 5 1 (64) (bv (padK (macKey l0)))]) (fun w hw => by rw [arr64_all _ (by rw [xorL_len]; exact hp), arr64_all _ (by rw [xorL_len]; exact hp)] at hw; exact hw) ?_
          refine TC.exit_ ?_
          refine TX.then_exit ?_
          refine TX.then_exit ?_
          refine TX.in_same ?_
          refine TX.then_ ?_
          refine TC.seq_ ?_
          refine TC.region ?_
          refine TL.val rfl rfl rfl (gives_move rfl rfl) ?_
          refine TL.val rfl rfl rfl (gives_move rfl rfl) ?_
          refine TL.val rfl rfl rfl (gives_move rfl rfl) ?_
          refine TL.append (k := 1) rfl rfl rfl rfl elU8 rfl rfl rfl (fun w hw => pm_byt hw hb1) (bv_one l1) (by rw [Nat.mul_one]; omega) (64 + n1) (by omega) (fun A5 c5 hA51 hA52 => ?_)
          refine TL.mem (I' := Pm w [.row (.slice (some ⟨g7, 0, none⟩) 64 64) 5 1 (64) (bv (xorL (padK (macKey l0)) 92)), .row (.slice A5 (64 + n1) c5) 5 1 (64 + n1) (bv ((xorL (padK (macKey l0)) 54) ++ l1)), .row (.slice (some ⟨gk, 0, none⟩) 64 c) 5 1 (64) (bv (padK (macKey l0)))]) (fun w hw => by rw [bv_append]; exact hw) ?_
          refine TL.pcallRow (n := 32) (ys := bv (shaF ((xorL (padK (macKey l0)) 54) ++ l1))) rfl rfl rfl rfl rfl Tryd.func10 nmRSum bdRSum (fun w1 hw => rsum_all A5 (64 + n1) c5 ((xorL (padK (macKey l0)) 54) ++ l1) w1 (byt_own (hw.at_ (k := 1) rfl) ((xorL_bs _ _).app hb1.2)) (by omega)) (fun A6 c6 hA61 hA62 => ?_)
          refine TL.append (k := 1) rfl rfl rfl rfl elU8 rfl rfl rfl (fun w hw => pm_reads hw (k := 0) rfl) (bv_one _) (by decide) (64 + 32) (by omega) (fun A7 c7 hA71 hA72 => ?_)
          refine TL.mem (I' := Pm w [.row (.slice A6 32 c6) 5 1 (32) (bv (shaF ((xorL (padK (macKey l0)) 54) ++ l1))), .row (.slice A7 (64 + 32) c7) 5 1 (64 + 32) (bv ((xorL (padK (macKey l0)) 92) ++ shaF ((xorL (padK (macKey l0)) 54) ++ l1))), .row (.slice A5 (64 + n1) c5) 5 1 (64 + n1) (bv ((xorL (padK (macKey l0)) 54) ++ l1)), .row (.slice (some ⟨gk, 0, none⟩) 64 c) 5 1 (64) (bv (padK (macKey l0)))]) (fun w hw => by rw [bv_append]; exact hw) ?_
          refine TL.pcallRow (n := 32) (ys := bv (shaF ((xorL (padK (macKey l0)) 92) ++ shaF ((xorL (padK (macKey l0)) 54) ++ l1)))) rfl rfl rfl rfl rfl Tryd.func10 nmRSum bdRSum (fun w1 hw => rsum_all A7 (64 + 32) c7 ((xorL (padK (macKey l0)) 92) ++ shaF ((xorL (padK (macKey l0)) 54) ++ l1)) w1 (byt_own (hw.at_ (k := 1) rfl) ((xorL_bs _ _).app (shaF_bs _))) (by decide)) (fun A8 c8 hA81 hA82 => ?_)
          refine TL.val rfl rfl rfl (gives_assign rfl rfl) ?_
          refine TL.end_ ?_
          refine TX.then_ ?_
          refine TC.ret_ ?_
          exact pm_ret_row (k := 0) Tryd.results18 rfl rfl (fun w1 hown hbel => ⟨A8, c8, rfl, hA81, hA82, hown, hbel⟩)
end Go.Proofs.YtllaojnnackhhaaDoor
