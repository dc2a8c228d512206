/-
  The walk of the reference's block, by rules.
-/
import Derived.Test.YtllaojnnackhhaaDoorDgComp2
import Derived.Test.YtllaojnnackhhaaDoorDgBlockLaw
import Derived.Test.YtllaojnnackhhaaDoorDgRSum
namespace Go.Proofs.YtllaojnnackhhaaDoor
open Go.RowKit
set_option linter.unusedVariables false
set_option linter.unusedSimpArgs false
theorem take4 {l : List Int} {k : Nat} {a b c d : Int} (h0 : l[k + 0]? = some a) (h1 : l[k + 1]? = some b) (h2 : l[k + 2]? = some c) (h3 : l[k + 3]? = some d) : (l.drop k).take 4 = [a, b, c, d] := by
  apply List.ext_getElem?
  intro i
  rw [List.getElem?_take]
  match i with
  | 0 => simpa using h0
  | 1 => simpa using h1
  | 2 => simpa using h2
  | 3 => simpa using h3
  | i + 4 => simp; intro hh; omega
theorem wList_next (b : List Int) (j : Nat) : wList b (j + 1) = wList b j ++ [addW (addW (addW ((wList b j).getD j 0) (sig0 ((wList b j).getD (j + 1) 0))) ((wList b j).getD (9 + j) 0)) (sig1 ((wList b j).getD (14 + j) 0))] := by
  show wList b j ++ [wNext (wList b j)] = _
  unfold wNext
  rw [wList_len, show 16 + j - 16 = j by omega, show 16 + j - 15 = j + 1 by omega, show 16 + j - 7 = 9 + j by omega, show 16 + j - 2 = 14 + j by omega]
theorem wList_old (b : List Int) (j i : Nat) (h : i < 16 + j) : (wList b (j + 1)).getD i 0 = (wList b j).getD i 0 := by
  show (wList b j ++ _).getD i 0 = _
  rw [List.getD_eq_getElem?_getD, List.getD_eq_getElem?_getD, List.getElem?_append_left (by rw [wList_len]; exact h)]
theorem arrW_one (L : List Int) : ∀ u ∈ arrW L, u.oneCell' = true := by
  intro u hu
  simp only [arrW, List.mem_append, List.mem_map, List.mem_replicate] at hu
  rcases hu with ⟨x, _, rfl⟩ | ⟨_, rfl⟩ <;> rfl
theorem rzero64 (w : World) : (zeroValue 56).run Tryd.prog w = .ok (.agg (arrW []).toArray) w := rfl
theorem rsz64 (w : World) : (sizeOf 56).run Tryd.prog w = .ok 64 w := rfl
theorem rnmTurn : (Tryd.f31.name == "runtime.NumGoroutine") = false := by decide
theorem rbdTurn : Tryd.f31.body.isNone = false := rfl
theorem rnmWords : (Tryd.f30.name == "runtime.NumGoroutine") = false := by decide
theorem rbdWords : Tryd.f30.body.isNone = false := rfl
theorem at_byte (g off n c j : Nat) (hj : j < n) (w : World) : (Instr.indexAt 22 (.slice (some ⟨g, off, none⟩) n c) (.int .i64 (j : Int))).run Tryd.prog w = .ok (.pointer (some ⟨g, off + j, none⟩)) w := by
  have hs : ∀ w : World, (sizeOf 5).run Tryd.prog w = .ok 1 w := fun w => rfl
  have h1 : (0 : Int) ≤ (j : Int) ∧ (j : Int) < n := by omega
  simp [Instr.indexAt, run_underlying Tryd.underlying22, asIntOf, hs, h1, add_at, go_sem]
  try (intro hh; exact absurd hh (by omega))
theorem rbuild8x (a b c d e f g h : Int) (w : World) : (Instr.build 41 #[(0, .int .u32 a), (1, .int .u32 b), (2, .int .u32 c), (3, .int .u32 d), (4, .int .u32 e), (5, .int .u32 f), (6, .int .u32 g), (7, .int .u32 h)]).run Tryd.prog w = .ok (.agg #[.int .u32 a, .int .u32 b, .int .u32 c, .int .u32 d, .int .u32 e, .int .u32 f, .int .u32 g, .int .u32 h]) w := by kernel_rfl
theorem rwords_any (w : World) : Calls Tryd.prog 30 #[] w fun e w' => e = .returned (.agg (arrW keysL).toArray) ∧ Below w.heap.size w w' := by
  refine begin_ (vs := []) Tryd.func30 rfl rfl rfl ?_ (Pm.start w)
  refine TC.seq_ ?_
  refine TC.region ?_
  refine TL.pnew rfl rfl rfl (exec_alloc (cs := arrW []) rfl rzero64 rfl) (fun g0 => ?_)
  refine TL.end_ ?_
  refine TX.then_ ?_
  refine TC.seq_ ?_
  refine TC.region ?_
  refine TL.val rfl rfl rfl (gives_build (v := .agg (arrW keysL).toArray) rfl rfl (fun w => by kernel_rfl)) ?_
  refine TL.pstore (k := 0) (vs := arrW keysL) rfl rfl rfl rfl rfl rfl rfl rsz64 (arrW_one _) (Nat.le_refl 64) (L' := [.blk g0 56 (arrW keysL)]) rfl ?_
  refine TL.end_ ?_
  refine TX.then_ ?_
  refine TC.ret_ ?_
  exact pm_ret_cell (k := 0) Tryd.results30 rfl rfl Tryd.underlying56 rfl rfl (fun w1 hw => ⟨rfl, hw.bel⟩)
theorem rblock_any (s : S8) (hok : s.Ok) (b0 o c : Nat) (b : List Int) (w : World) (hb : Byt w w.heap.size (some ⟨b0, o, none⟩) 64 b) (hc : 64 ≤ c) (hc2 : c ≤ maxLen) :
    Calls Tryd.prog 22 #[.agg s.cells, .slice (some ⟨b0, o, none⟩) 64 c] w fun e w' => e = .returned (.agg (blockF s b).cells) ∧ Below w.heap.size w w' := by
  have hb0 : b0 < w.heap.size := by
    obtain ⟨b', o', x, hA, hlt, _⟩ := hb.at' (k := 0) (by omega)
    injection hA with e
    injection e with e1 e2
    omega
  refine begin_ (vs := [.agg s.cells, .slice (some ⟨b0, o, none⟩) 64 c]) Tryd.func22 rfl rfl rfl ?_ (Pm.start w)
  refine TC.seq_ ?_
  refine TC.region ?_
  refine TL.pnew rfl rfl rfl (exec_box (cs := s.cells.toList) rfl rfl rfl) (fun g2 => ?_)
  refine TL.pnew rfl rfl rfl (exec_alloc (cs := [.int .u32 0, .int .u32 0, .int .u32 0, .int .u32 0, .int .u32 0, .int .u32 0, .int .u32 0, .int .u32 0]) rfl rzero8 rfl) (fun g4 => ?_)
  refine TL.end_ ?_
  refine TX.then_ ?_
  refine TC.seq_ ?_
  refine TC.region ?_
  refine TL.pcall1 (r := .agg (arrW keysL).toArray) rfl rfl rfl rfl rfl Tryd.func30 rnmWords rbdWords (fun w hw => rwords_any w) ?_
  refine TL.pnew rfl rfl rfl (exec_alloc (cs := arrW []) rfl rzero64 rfl) (fun g5 => ?_)
  refine TL.pstore (k := 0) (vs := arrW keysL) rfl rfl rfl rfl rfl rfl rfl rsz64 (arrW_one _) (Nat.le_refl 64) (L' := [.blk g5 56 (arrW keysL), .blk g4 41 [.int .u32 0, .int .u32 0, .int .u32 0, .int .u32 0, .int .u32 0, .int .u32 0, .int .u32 0, .int .u32 0], .blk g2 41 s.cells.toList]) rfl ?_
  refine TL.end_ ?_
  refine TX.then_ ?_
  refine TC.seq_ ?_
  refine TC.region ?_
  refine TL.pnew rfl rfl rfl (exec_alloc (cs := arrW []) rfl rzero64 rfl) (fun g6 => ?_)
  refine TL.end_ ?_
  refine TX.then_ ?_
  refine TC.seq_ ?_
  refine TC.seq_ ?_
  refine TC.region ?_
  refine TL.val rfl rfl rfl (gives_assign rfl rfl) ?_
  refine TL.end_ ?_
  refine TX.then_ ?_
  refine TC.block ?_
  refine TC.loop_ (α := {i : Nat // i ≤ 16}) (fun x => [(1, .slice (some ⟨b0, o, none⟩) 64 c), (2, .pointer (some ⟨g2, 0, none⟩)), (4, .pointer (some ⟨g4, 0, none⟩)), (5, .pointer (some ⟨g5, 0, none⟩)), (6, .pointer (some ⟨g6, 0, none⟩)), (7, .int .i64 (x.1 : Int))]) (fun x => Pm w [.blk g6 56 (arrW (w16 b x.1)), .blk g5 56 (arrW keysL), .blk g4 41 [.int .u32 0, .int .u32 0, .int .u32 0, .int .u32 0, .int .u32 0, .int .u32 0, .int .u32 0, .int .u32 0], .blk g2 41 s.cells.toList]) (fun x => 16 - x.1) (⟨0, Nat.zero_le _⟩) ⟨rfl, rfl, rfl, rfl, rfl, rfl, trivial⟩ (fun w hw => hw) ?_
  rintro ⟨i, hi⟩
  dsimp only at hi ⊢
  refine TC.seq_ ?_
  refine TC.seq_ ?_
  refine TC.region ?_
  refine TL.val rfl rfl rfl (gives_move rfl rfl) ?_
  refine TL.val rfl rfl rfl (gives_bin rfl rfl rfl (fun w => bin_lss w)) ?_
  refine TL.end_ ?_
  refine TX.then_ ?_
  refine TC.split rfl (fun hc18 => ?_) (fun hc18 => ?_)
  · have hi2 : i < 16 := by have := of_decide_eq_true hc18; omega
    obtain ⟨y0, hl0, hz0, hm0, hy0⟩ := byt_cell_at hb (k := 4 * i + 0) (by omega)
    obtain ⟨y1, hl1, hz1, hm1, hy1⟩ := byt_cell_at hb (k := 4 * i + 1) (by omega)
    obtain ⟨y2, hl2, hz2, hm2, hy2⟩ := byt_cell_at hb (k := 4 * i + 2) (by omega)
    obtain ⟨y3, hl3, hz3, hm3, hy3⟩ := byt_cell_at hb (k := 4 * i + 3) (by omega)
    have hr0 : 0 ≤ y0 ∧ y0 ≤ 255 := ⟨hz0, hm0⟩
    have hr1 : 0 ≤ y1 ∧ y1 ≤ 255 := ⟨hz1, hm1⟩
    have hr2 : 0 ≤ y2 ∧ y2 ≤ 255 := ⟨hz2, hm2⟩
    have hr3 : 0 ≤ y3 ∧ y3 ≤ 255 := ⟨hz3, hm3⟩
    have h4 : (b.drop (4 * i)).take 4 = [y0, y1, y2, y3] := take4 hl0 hl1 hl2 hl3
    refine TC.skip_ ?_
    refine TX.then_ ?_
    refine TC.seq_ ?_
    refine TC.block ?_
    refine TC.tail 35 (by kernel_rfl) (by kernel_rfl) (fun w hw => hw.drawn _) ?_
    refine TS.val rfl rfl rfl (gives_move rfl rfl) ?_
    refine TS.val rfl rfl rfl (gives_move rfl rfl) ?_
    refine TS.val rfl rfl rfl (gives_move rfl rfl) ?_
    refine TS.val rfl rfl rfl (gives_bin rfl rfl rfl (fun w => bin_mul_ (r := ((4 * i : Nat) : Int)) (by simp only [IntKind.wrap_i64]; omega) w)) ?_
    refine TS.val rfl rfl rfl (gives_at rfl rfl rfl (fun w => at_byte b0 o 64 c (4 * i + 0) (by omega) w)) ?_
    refine TS.val rfl rfl rfl (gives_load rfl rfl (fun w => rfl) (fun w1 hw => (hw.bel.cell (p := ⟨b0, o + (4 * i + 0), none⟩) hb0).trans hy0)) ?_
    refine TS.val rfl rfl rfl (gives_conv rfl rfl (fun w => conv_fit Tryd.underlying40 Tryd.underlying5 (by simp only [IntKind.wrap_u32]; omega) w)) ?_
    refine TS.val rfl rfl rfl (gives_bin rfl rfl rfl (fun w => bin_shl 16777216 (by decide) (by decide) rfl w)) ?_
    refine TS.val rfl rfl rfl (gives_move rfl rfl) ?_
    refine TS.val rfl rfl rfl (gives_move rfl rfl) ?_
    refine TS.val rfl rfl rfl (gives_bin rfl rfl rfl (fun w => bin_mul_ (r := ((4 * i : Nat) : Int)) (by simp only [IntKind.wrap_i64]; omega) w)) ?_
    refine TS.val rfl rfl rfl (gives_bin rfl rfl rfl (fun w => bin_add_ (r := ((4 * i + 1 : Nat) : Int)) (by simp only [IntKind.wrap_i64]; omega) w)) ?_
    refine TS.val rfl rfl rfl (gives_at rfl rfl rfl (fun w => at_byte b0 o 64 c (4 * i + 1) (by omega) w)) ?_
    refine TS.val rfl rfl rfl (gives_load rfl rfl (fun w => rfl) (fun w1 hw => (hw.bel.cell (p := ⟨b0, o + (4 * i + 1), none⟩) hb0).trans hy1)) ?_
    refine TS.val rfl rfl rfl (gives_conv rfl rfl (fun w => conv_fit Tryd.underlying40 Tryd.underlying5 (by simp only [IntKind.wrap_u32]; omega) w)) ?_
    refine TS.val rfl rfl rfl (gives_bin rfl rfl rfl (fun w => bin_shl 65536 (by decide) (by decide) rfl w)) ?_
    refine TS.val rfl rfl rfl (gives_bin rfl rfl rfl (fun w => bin_bits (.inr (.inl rfl)) w)) ?_
    refine TS.val rfl rfl rfl (gives_move rfl rfl) ?_
    refine TS.val rfl rfl rfl (gives_move rfl rfl) ?_
    refine TS.val rfl rfl rfl (gives_bin rfl rfl rfl (fun w => bin_mul_ (r := ((4 * i : Nat) : Int)) (by simp only [IntKind.wrap_i64]; omega) w)) ?_
    refine TS.val rfl rfl rfl (gives_bin rfl rfl rfl (fun w => bin_add_ (r := ((4 * i + 2 : Nat) : Int)) (by simp only [IntKind.wrap_i64]; omega) w)) ?_
    refine TS.val rfl rfl rfl (gives_at rfl rfl rfl (fun w => at_byte b0 o 64 c (4 * i + 2) (by omega) w)) ?_
    refine TS.val rfl rfl rfl (gives_load rfl rfl (fun w => rfl) (fun w1 hw => (hw.bel.cell (p := ⟨b0, o + (4 * i + 2), none⟩) hb0).trans hy2)) ?_
    refine TS.val rfl rfl rfl (gives_conv rfl rfl (fun w => conv_fit Tryd.underlying40 Tryd.underlying5 (by simp only [IntKind.wrap_u32]; omega) w)) ?_
    refine TS.val rfl rfl rfl (gives_bin rfl rfl rfl (fun w => bin_shl 256 (by decide) (by decide) rfl w)) ?_
    refine TS.val rfl rfl rfl (gives_bin rfl rfl rfl (fun w => bin_bits (.inr (.inl rfl)) w)) ?_
    refine TS.val rfl rfl rfl (gives_move rfl rfl) ?_
    refine TS.val rfl rfl rfl (gives_move rfl rfl) ?_
    refine TS.val rfl rfl rfl (gives_bin rfl rfl rfl (fun w => bin_mul_ (r := ((4 * i : Nat) : Int)) (by simp only [IntKind.wrap_i64]; omega) w)) ?_
    refine TS.val rfl rfl rfl (gives_bin rfl rfl rfl (fun w => bin_add_ (r := ((4 * i + 3 : Nat) : Int)) (by simp only [IntKind.wrap_i64]; omega) w)) ?_
    refine TS.val rfl rfl rfl (gives_at rfl rfl rfl (fun w => at_byte b0 o 64 c (4 * i + 3) (by omega) w)) ?_
    refine TS.val rfl rfl rfl (gives_load rfl rfl (fun w => rfl) (fun w1 hw => (hw.bel.cell (p := ⟨b0, o + (4 * i + 3), none⟩) hb0).trans hy3)) ?_
    refine TS.val rfl rfl rfl (gives_conv rfl rfl (fun w => conv_fit Tryd.underlying40 Tryd.underlying5 (by simp only [IntKind.wrap_u32]; omega) w)) ?_
    refine TS.val rfl rfl rfl (gives_bin rfl rfl rfl (fun w => bin_bits (.inr (.inl rfl)) w)) ?_
    refine TS.val rfl rfl rfl (gives_at rfl rfl rfl (fun w => at_arr Tryd.underlying56 sz1 _ 0 _ (i) (by omega) w)) ?_
    refine TS.end_ ?_
    refine TL.pstore (k := 0) (vs := [.int .u32 _]) rfl rfl rfl rfl rfl rfl rfl sz1 (one1 _) (by rw [arrW_len _ (by rw [w16_len]; omega)]; show 0 + i + 1 ≤ 64; omega) (L' := [.blk g6 56 (arrW (w16 b (i + 1))), .blk g5 56 (arrW keysL), .blk g4 41 [.int .u32 0, .int .u32 0, .int .u32 0, .int .u32 0, .int .u32 0, .int .u32 0, .int .u32 0, .int .u32 0], .blk g2 41 s.cells.toList]) (by rw [or4 y0 y1 y2 y3 hr0 hr1 hr2 hr3, w16_succ, h4, ← arrW_put (w16 b i) _ (w16_len b i) (by omega)]; rfl) ?_
    refine TL.end_ ?_
    refine TX.in_normal ?_
    refine TX.then_ ?_
    refine TC.region ?_
    refine TL.val rfl rfl rfl (gives_move rfl rfl) ?_
    refine TL.val rfl rfl rfl (gives_bin rfl rfl rfl (fun w => bin_add_ (r := ((i + 1 : Nat) : Int)) (by simp only [IntKind.wrap_i64]; omega) w)) ?_
    refine TL.val rfl rfl rfl (gives_assign rfl rfl) ?_
    refine TL.end_ ?_
    exact TX.round (⟨i + 1, hi2⟩) (by show 16 - (i + 1) < 16 - i; omega) ⟨rfl, rfl, rfl, rfl, rfl, rfl, trivial⟩ (fun w hw => hw)
  · have hi2 : i = 16 := by have := of_decide_eq_false hc18; omega
    subst hi2
    refine TC.exit_ ?_
    refine TX.then_exit ?_
    refine TX.then_exit ?_
    refine TX.in_same ?_
    refine TX.then_ ?_
    refine TC.seq_ ?_
    refine TC.seq_ ?_
    refine TC.region ?_
    refine TL.val rfl rfl rfl (gives_assign rfl rfl) ?_
    refine TL.end_ ?_
    refine TX.then_ ?_
    refine TC.block ?_
    refine TC.loop_ (α := {j : Nat // j ≤ 48}) (fun x => [(2, .pointer (some ⟨g2, 0, none⟩)), (4, .pointer (some ⟨g4, 0, none⟩)), (5, .pointer (some ⟨g5, 0, none⟩)), (6, .pointer (some ⟨g6, 0, none⟩)), (8, .int .i64 ((16 + x.1 : Nat) : Int))]) (fun x => Pm w [.blk g6 56 (arrW (wList b x.1)), .blk g5 56 (arrW keysL), .blk g4 41 [.int .u32 0, .int .u32 0, .int .u32 0, .int .u32 0, .int .u32 0, .int .u32 0, .int .u32 0, .int .u32 0], .blk g2 41 s.cells.toList]) (fun x => 48 - x.1) (⟨0, Nat.zero_le _⟩) ⟨rfl, rfl, rfl, rfl, rfl, trivial⟩ (fun w hw => hw) ?_
    rintro ⟨j, hj⟩
    dsimp only at hj ⊢
    refine TC.seq_ ?_
    refine TC.seq_ ?_
    refine TC.region ?_
    refine TL.val rfl rfl rfl (gives_move rfl rfl) ?_
    refine TL.val rfl rfl rfl (gives_bin rfl rfl rfl (fun w => bin_lss w)) ?_
    refine TL.end_ ?_
    refine TX.then_ ?_
    refine TC.split rfl (fun hc57 => ?_) (fun hc57 => ?_)
    · have hj2 : j < 48 := by have := of_decide_eq_true hc57; omega
      have hw1 : W32 ((wList b j).getD (j + 1) 0) := wList_w b hb.2 j _
      have hw2 : W32 ((wList b j).getD (14 + j) 0) := wList_w b hb.2 j _
      have hnx := wList_next b j
      refine TC.skip_ ?_
      refine TX.then_ ?_
      refine TC.seq_ ?_
      refine TC.block ?_
      refine TC.seq_ ?_
      refine TC.quiet_ (E' := ?_) (by kernel_rfl) (by kernel_rfl) (fun w hw => hw.drawn _) ?_ ?_
      rotate_left
      · refine TQ.val rfl rfl rfl (gives_move rfl rfl) ?_
        refine TQ.val rfl rfl rfl (gives_bin rfl rfl rfl (fun w => bin_sub_ (r := ((j + 1 : Nat) : Int)) (by simp only [IntKind.wrap_i64]; omega) w)) ?_
        refine TQ.val rfl rfl rfl (gives_at rfl rfl rfl (fun w => at_arr Tryd.underlying56 sz1 _ 0 _ (j + 1) (by omega) w)) ?_
        refine TQ.val rfl rfl rfl (pm_load (k := 0) rfl rfl ag1 rfl (arrW_at (wList b j) (j + 1) (by rw [wList_len]; omega))) ?_
        refine TQ.val rfl rfl rfl (gives_move rfl rfl) ?_
        refine TQ.val rfl rfl rfl (gives_bin rfl rfl rfl (fun w => bin_sub_ (r := ((14 + j : Nat) : Int)) (by simp only [IntKind.wrap_i64]; omega) w)) ?_
        refine TQ.val rfl rfl rfl (gives_at rfl rfl rfl (fun w => at_arr Tryd.underlying56 sz1 _ 0 _ (14 + j) (by omega) w)) ?_
        refine TQ.val rfl rfl rfl (pm_load (k := 0) rfl rfl ag1 rfl (arrW_at (wList b j) (14 + j) (by rw [wList_len]; omega))) ?_
        refine TQ.val rfl rfl rfl (gives_assign rfl rfl) ?_
        refine TQ.val rfl rfl rfl (gives_assign rfl rfl) ?_
        exact TQ.end_
      refine TX.then_ ?_
      refine TC.held (ls := #[false, false, false, false, false, false, false, false, false, false, false, false, false, false, false, false, false, false, false, false, false, false, false, false, false, false, false, false, false, false]) (fun w1 => ∀ i, i < 16 + j → w1.cell? ⟨g6, i, none⟩ = some (.int .u32 ((wList b j).getD i 0))) (by kernel_rfl) rfl rfl (fun w hw => hw.drawn _) ?_
      refine TH.take (listed' := #[true, false, false, false, false, false, false, false, false, false, false, false, false, false, false, false, false, false, false, false, false, false, false, false, false, false, false, false, false, false]) 0 rfl (by kernel_rfl) (by kernel_rfl) (by kernel_rfl) rfl rfl rfl rfl (gives_move rfl rfl) (fun w1 hw i hi => (hw.cell (k := 0) rfl i).trans (by have := arrW_at (wList b j) i (by rw [wList_len]; omega); rwa [Nat.zero_add] at this)) ?_
      refine TH.take (listed' := #[true, true, false, false, false, false, false, false, false, false, false, false, false, false, false, false, false, false, false, false, false, false, false, false, false, false, false, false, false, false]) 1 rfl (by kernel_rfl) (by kernel_rfl) (by kernel_rfl) rfl rfl rfl rfl (gives_move rfl rfl) (fun w1 hw i hi => (hw.cell (k := 0) rfl i).trans (by have := arrW_at (wList b j) i (by rw [wList_len]; omega); rwa [Nat.zero_add] at this)) ?_
      refine TH.take (listed' := #[true, true, true, false, false, false, false, false, false, false, false, false, false, false, false, false, false, false, false, false, false, false, false, false, false, false, false, false, false, false]) 2 rfl (by kernel_rfl) (by kernel_rfl) (by kernel_rfl) rfl rfl rfl rfl (gives_bin rfl rfl rfl (fun w => bin_sub_ (r := ((j : Nat) : Int)) (by simp only [IntKind.wrap_i64]; omega) w)) (fun w1 hw i hi => (hw.cell (k := 0) rfl i).trans (by have := arrW_at (wList b j) i (by rw [wList_len]; omega); rwa [Nat.zero_add] at this)) ?_
      refine TH.take (listed' := #[true, true, true, true, false, false, false, false, false, false, false, false, false, false, false, false, false, false, false, false, false, false, false, false, false, false, false, false, false, false]) 3 rfl (by kernel_rfl) (by kernel_rfl) (by kernel_rfl) rfl rfl rfl rfl (gives_at rfl rfl rfl (fun w => at_arr Tryd.underlying56 sz1 _ 0 _ (j) (by omega) w)) (fun w1 hw i hi => (hw.cell (k := 0) rfl i).trans (by have := arrW_at (wList b j) i (by rw [wList_len]; omega); rwa [Nat.zero_add] at this)) ?_
      refine TH.take (listed' := #[true, true, true, true, true, false, false, false, false, false, false, false, false, false, false, false, false, false, false, false, false, false, false, false, false, false, false, false, false, false]) 4 rfl (by kernel_rfl) (by kernel_rfl) (by kernel_rfl) rfl rfl rfl rfl (gives_load rfl rfl ag1 (fun w hw => hw _ (by omega))) (fun w1 hw i hi => (hw.cell (k := 0) rfl i).trans (by have := arrW_at (wList b j) i (by rw [wList_len]; omega); rwa [Nat.zero_add] at this)) ?_
      refine TH.take (listed' := #[true, true, true, true, true, true, false, false, false, false, false, false, false, false, false, false, false, false, false, false, false, false, false, false, false, false, false, false, false, false]) 5 rfl (by kernel_rfl) (by kernel_rfl) (by kernel_rfl) rfl rfl rfl rfl (gives_move rfl rfl) (fun w1 hw i hi => (hw.cell (k := 0) rfl i).trans (by have := arrW_at (wList b j) i (by rw [wList_len]; omega); rwa [Nat.zero_add] at this)) ?_
      refine TH.take (listed' := #[true, true, true, true, true, true, false, true, false, false, false, false, false, false, false, false, false, false, false, false, false, false, false, false, false, false, false, false, false, false]) 7 rfl (by kernel_rfl) (by kernel_rfl) (by kernel_rfl) rfl rfl rfl rfl (gives_move rfl rfl) (fun w1 hw i hi => (hw.cell (k := 0) rfl i).trans (by have := arrW_at (wList b j) i (by rw [wList_len]; omega); rwa [Nat.zero_add] at this)) ?_
      refine TH.take (listed' := #[true, true, true, true, true, true, false, true, false, false, true, false, false, false, false, false, false, false, false, false, false, false, false, false, false, false, false, false, false, false]) 10 rfl (by kernel_rfl) (by kernel_rfl) (by kernel_rfl) rfl rfl rfl rfl (gives_move rfl rfl) (fun w1 hw i hi => (hw.cell (k := 0) rfl i).trans (by have := arrW_at (wList b j) i (by rw [wList_len]; omega); rwa [Nat.zero_add] at this)) ?_
      refine TH.take (listed' := #[true, true, true, true, true, true, false, true, false, false, true, true, false, false, false, false, false, false, false, false, false, false, false, false, false, false, false, false, false, false]) 11 rfl (by kernel_rfl) (by kernel_rfl) (by kernel_rfl) rfl rfl rfl rfl (gives_bin rfl rfl rfl (fun w => bin_shr (2 ^ 3) (by decide) (by decide) rfl w)) (fun w1 hw i hi => (hw.cell (k := 0) rfl i).trans (by have := arrW_at (wList b j) i (by rw [wList_len]; omega); rwa [Nat.zero_add] at this)) ?_
      refine TH.take (listed' := #[true, true, true, true, true, true, false, true, false, false, true, true, false, false, true, false, false, false, false, false, false, false, false, false, false, false, false, false, false, false]) 14 rfl (by kernel_rfl) (by kernel_rfl) (by kernel_rfl) rfl rfl rfl rfl (gives_move rfl rfl) (fun w1 hw i hi => (hw.cell (k := 0) rfl i).trans (by have := arrW_at (wList b j) i (by rw [wList_len]; omega); rwa [Nat.zero_add] at this)) ?_
      refine TH.take (listed' := #[true, true, true, true, true, true, false, true, false, false, true, true, false, false, true, true, false, false, false, false, false, false, false, false, false, false, false, false, false, false]) 15 rfl (by kernel_rfl) (by kernel_rfl) (by kernel_rfl) rfl rfl rfl rfl (gives_bin rfl rfl rfl (fun w => bin_sub_ (r := ((9 + j : Nat) : Int)) (by simp only [IntKind.wrap_i64]; omega) w)) (fun w1 hw i hi => (hw.cell (k := 0) rfl i).trans (by have := arrW_at (wList b j) i (by rw [wList_len]; omega); rwa [Nat.zero_add] at this)) ?_
      refine TH.take (listed' := #[true, true, true, true, true, true, false, true, false, false, true, true, false, false, true, true, true, false, false, false, false, false, false, false, false, false, false, false, false, false]) 16 rfl (by kernel_rfl) (by kernel_rfl) (by kernel_rfl) rfl rfl rfl rfl (gives_at rfl rfl rfl (fun w => at_arr Tryd.underlying56 sz1 _ 0 _ (9 + j) (by omega) w)) (fun w1 hw i hi => (hw.cell (k := 0) rfl i).trans (by have := arrW_at (wList b j) i (by rw [wList_len]; omega); rwa [Nat.zero_add] at this)) ?_
      refine TH.take (listed' := #[true, true, true, true, true, true, false, true, false, false, true, true, false, false, true, true, true, true, false, false, false, false, false, false, false, false, false, false, false, false]) 17 rfl (by kernel_rfl) (by kernel_rfl) (by kernel_rfl) rfl rfl rfl rfl (gives_load rfl rfl ag1 (fun w hw => hw _ (by omega))) (fun w1 hw i hi => (hw.cell (k := 0) rfl i).trans (by have := arrW_at (wList b j) i (by rw [wList_len]; omega); rwa [Nat.zero_add] at this)) ?_
      refine TH.take (listed' := #[true, true, true, true, true, true, false, true, false, false, true, true, false, false, true, true, true, true, false, true, false, false, false, false, false, false, false, false, false, false]) 19 rfl (by kernel_rfl) (by kernel_rfl) (by kernel_rfl) rfl rfl rfl rfl (gives_move rfl rfl) (fun w1 hw i hi => (hw.cell (k := 0) rfl i).trans (by have := arrW_at (wList b j) i (by rw [wList_len]; omega); rwa [Nat.zero_add] at this)) ?_
      refine TH.take (listed' := #[true, true, true, true, true, true, false, true, false, false, true, true, false, false, true, true, true, true, false, true, false, true, false, false, false, false, false, false, false, false]) 21 rfl (by kernel_rfl) (by kernel_rfl) (by kernel_rfl) rfl rfl rfl rfl (gives_move rfl rfl) (fun w1 hw i hi => (hw.cell (k := 0) rfl i).trans (by have := arrW_at (wList b j) i (by rw [wList_len]; omega); rwa [Nat.zero_add] at this)) ?_
      refine TH.take (listed' := #[true, true, true, true, true, true, false, true, false, false, true, true, false, false, true, true, true, true, false, true, false, true, false, false, true, false, false, false, false, false]) 24 rfl (by kernel_rfl) (by kernel_rfl) (by kernel_rfl) rfl rfl rfl rfl (gives_move rfl rfl) (fun w1 hw i hi => (hw.cell (k := 0) rfl i).trans (by have := arrW_at (wList b j) i (by rw [wList_len]; omega); rwa [Nat.zero_add] at this)) ?_
      refine TH.take (listed' := #[true, true, true, true, true, true, false, true, false, false, true, true, false, false, true, true, true, true, false, true, false, true, false, false, true, true, false, false, false, false]) 25 rfl (by kernel_rfl) (by kernel_rfl) (by kernel_rfl) rfl rfl rfl rfl (gives_bin rfl rfl rfl (fun w => bin_shr (2 ^ 10) (by decide) (by decide) rfl w)) (fun w1 hw i hi => (hw.cell (k := 0) rfl i).trans (by have := arrW_at (wList b j) i (by rw [wList_len]; omega); rwa [Nat.zero_add] at this)) ?_
      refine TH.only (listed' := #[true, true, true, true, true, true, true, true, false, false, true, true, false, false, true, true, true, true, false, true, false, true, false, false, true, true, false, false, false, false]) 6 rfl (by kernel_rfl) rfl rfl ?_
      refine TL.pcall1 rfl rfl rfl rfl rfl Tryd.func31 rnmTurn rbdTurn (fun w hw => (rturn_7 _ hw1 w).mono (fun e w2 ⟨he, q, hq⟩ => ⟨he, hq ▸ below_drewN (Below.refl _ _) q⟩)) ?_
      refine TL.end_ ?_
      refine TX.held (fun w1 hw i hi => (hw.cell (k := 0) rfl i).trans (by have := arrW_at (wList b j) i (by rw [wList_len]; omega); rwa [Nat.zero_add] at this)) ?_
      refine TH.only (listed' := #[true, true, true, true, true, true, true, true, true, false, true, true, false, false, true, true, true, true, false, true, false, true, false, false, true, true, false, false, false, false]) 8 rfl (by kernel_rfl) rfl rfl ?_
      refine TL.pcall1 rfl rfl rfl rfl rfl Tryd.func31 rnmTurn rbdTurn (fun w hw => (rturn_18 _ hw1 w).mono (fun e w2 ⟨he, q, hq⟩ => ⟨he, hq ▸ below_drewN (Below.refl _ _) q⟩)) ?_
      refine TL.end_ ?_
      refine TX.held (fun w1 hw i hi => (hw.cell (k := 0) rfl i).trans (by have := arrW_at (wList b j) i (by rw [wList_len]; omega); rwa [Nat.zero_add] at this)) ?_
      refine TH.take (listed' := #[true, true, true, true, true, true, true, true, true, true, true, true, false, false, true, true, true, true, false, true, false, true, false, false, true, true, false, false, false, false]) 9 rfl (by kernel_rfl) (by kernel_rfl) (by kernel_rfl) rfl rfl rfl rfl (gives_bin rfl rfl rfl (fun w => bin_bits (.inr (.inr rfl)) w)) (fun w1 hw i hi => (hw.cell (k := 0) rfl i).trans (by have := arrW_at (wList b j) i (by rw [wList_len]; omega); rwa [Nat.zero_add] at this)) ?_
      refine TH.take (listed' := #[true, true, true, true, true, true, true, true, true, true, true, true, true, false, true, true, true, true, false, true, false, true, false, false, true, true, false, false, false, false]) 12 rfl (by kernel_rfl) (by kernel_rfl) (by kernel_rfl) rfl rfl rfl rfl (gives_bin rfl rfl rfl (fun w => bin_bits (.inr (.inr rfl)) w)) (fun w1 hw i hi => (hw.cell (k := 0) rfl i).trans (by have := arrW_at (wList b j) i (by rw [wList_len]; omega); rwa [Nat.zero_add] at this)) ?_
      refine TH.take (listed' := #[true, true, true, true, true, true, true, true, true, true, true, true, true, true, true, true, true, true, false, true, false, true, false, false, true, true, false, false, false, false]) 13 rfl (by kernel_rfl) (by kernel_rfl) (by kernel_rfl) rfl rfl rfl rfl (gives_bin rfl rfl rfl (fun w => bin_add w)) (fun w1 hw i hi => (hw.cell (k := 0) rfl i).trans (by have := arrW_at (wList b j) i (by rw [wList_len]; omega); rwa [Nat.zero_add] at this)) ?_
      refine TH.take (listed' := #[true, true, true, true, true, true, true, true, true, true, true, true, true, true, true, true, true, true, true, true, false, true, false, false, true, true, false, false, false, false]) 18 rfl (by kernel_rfl) (by kernel_rfl) (by kernel_rfl) rfl rfl rfl rfl (gives_bin rfl rfl rfl (fun w => bin_add w)) (fun w1 hw i hi => (hw.cell (k := 0) rfl i).trans (by have := arrW_at (wList b j) i (by rw [wList_len]; omega); rwa [Nat.zero_add] at this)) ?_
      refine TH.only (listed' := #[true, true, true, true, true, true, true, true, true, true, true, true, true, true, true, true, true, true, true, true, true, true, false, false, true, true, false, false, false, false]) 20 rfl (by kernel_rfl) rfl rfl ?_
      refine TL.pcall1 rfl rfl rfl rfl rfl Tryd.func31 rnmTurn rbdTurn (fun w hw => (rturn_17 _ hw2 w).mono (fun e w2 ⟨he, q, hq⟩ => ⟨he, hq ▸ below_drewN (Below.refl _ _) q⟩)) ?_
      refine TL.end_ ?_
      refine TX.held (fun w1 hw i hi => (hw.cell (k := 0) rfl i).trans (by have := arrW_at (wList b j) i (by rw [wList_len]; omega); rwa [Nat.zero_add] at this)) ?_
      refine TH.only (listed' := #[true, true, true, true, true, true, true, true, true, true, true, true, true, true, true, true, true, true, true, true, true, true, true, false, true, true, false, false, false, false]) 22 rfl (by kernel_rfl) rfl rfl ?_
      refine TL.pcall1 rfl rfl rfl rfl rfl Tryd.func31 rnmTurn rbdTurn (fun w hw => (rturn_19 _ hw2 w).mono (fun e w2 ⟨he, q, hq⟩ => ⟨he, hq ▸ below_drewN (Below.refl _ _) q⟩)) ?_
      refine TL.end_ ?_
      refine TX.held (fun w1 hw i hi => (hw.cell (k := 0) rfl i).trans (by have := arrW_at (wList b j) i (by rw [wList_len]; omega); rwa [Nat.zero_add] at this)) ?_
      refine TH.take (listed' := #[true, true, true, true, true, true, true, true, true, true, true, true, true, true, true, true, true, true, true, true, true, true, true, true, true, true, false, false, false, false]) 23 rfl (by kernel_rfl) (by kernel_rfl) (by kernel_rfl) rfl rfl rfl rfl (gives_bin rfl rfl rfl (fun w => bin_bits (.inr (.inr rfl)) w)) (fun w1 hw i hi => (hw.cell (k := 0) rfl i).trans (by have := arrW_at (wList b j) i (by rw [wList_len]; omega); rwa [Nat.zero_add] at this)) ?_
      refine TH.take (listed' := #[true, true, true, true, true, true, true, true, true, true, true, true, true, true, true, true, true, true, true, true, true, true, true, true, true, true, true, false, false, false]) 26 rfl (by kernel_rfl) (by kernel_rfl) (by kernel_rfl) rfl rfl rfl rfl (gives_bin rfl rfl rfl (fun w => bin_bits (.inr (.inr rfl)) w)) (fun w1 hw i hi => (hw.cell (k := 0) rfl i).trans (by have := arrW_at (wList b j) i (by rw [wList_len]; omega); rwa [Nat.zero_add] at this)) ?_
      refine TH.take (listed' := #[true, true, true, true, true, true, true, true, true, true, true, true, true, true, true, true, true, true, true, true, true, true, true, true, true, true, true, true, false, false]) 27 rfl (by kernel_rfl) (by kernel_rfl) (by kernel_rfl) rfl rfl rfl rfl (gives_bin rfl rfl rfl (fun w => bin_add w)) (fun w1 hw i hi => (hw.cell (k := 0) rfl i).trans (by have := arrW_at (wList b j) i (by rw [wList_len]; omega); rwa [Nat.zero_add] at this)) ?_
      refine TH.take (listed' := #[true, true, true, true, true, true, true, true, true, true, true, true, true, true, true, true, true, true, true, true, true, true, true, true, true, true, true, true, true, false]) 28 rfl (by kernel_rfl) (by kernel_rfl) (by kernel_rfl) rfl rfl rfl rfl (gives_at rfl rfl rfl (fun w => at_arr Tryd.underlying56 sz1 _ 0 _ (16 + j) (by omega) w)) (fun w1 hw i hi => (hw.cell (k := 0) rfl i).trans (by have := arrW_at (wList b j) i (by rw [wList_len]; omega); rwa [Nat.zero_add] at this)) ?_
      refine TH.only (listed' := #[true, true, true, true, true, true, true, true, true, true, true, true, true, true, true, true, true, true, true, true, true, true, true, true, true, true, true, true, true, true]) 29 rfl (by kernel_rfl) rfl rfl ?_
      refine TL.pstore (k := 0) (vs := [.int .u32 _]) rfl rfl rfl rfl rfl rfl rfl sz1 (one1 _) (by rw [arrW_len _ (by rw [wList_len]; omega)]; show 0 + (16 + j) + 1 ≤ 64; omega) (L' := [.blk g6 56 (arrW (wList b (j + 1))), .blk g5 56 (arrW keysL), .blk g4 41 [.int .u32 0, .int .u32 0, .int .u32 0, .int .u32 0, .int .u32 0, .int .u32 0, .int .u32 0, .int .u32 0], .blk g2 41 s.cells.toList]) (by rw [hnx, ← arrW_put (wList b j) _ (wList_len b j) (by omega)]; simp only [Nat.zero_add]; rfl) ?_
      refine TL.end_ ?_
      refine TX.held (fun w1 hw i hi => (hw.cell (k := 0) rfl i).trans (by have := arrW_at (wList b (j + 1)) i (by rw [wList_len]; omega); rw [Nat.zero_add, wList_old b j i hi] at this; exact this)) ?_
      refine TH.done (by kernel_rfl) ?_
      refine TX.in_normal ?_
      refine TX.then_ ?_
      refine TC.region ?_
      refine TL.val rfl rfl rfl (gives_move rfl rfl) ?_
      refine TL.val rfl rfl rfl (gives_bin rfl rfl rfl (fun w => bin_add_ (r := ((16 + (j + 1) : Nat) : Int)) (by simp only [IntKind.wrap_i64]; omega) w)) ?_
      refine TL.val rfl rfl rfl (gives_assign rfl rfl) ?_
      refine TL.end_ ?_
      exact TX.round (⟨j + 1, hj2⟩) (by show 48 - (j + 1) < 48 - j; omega) ⟨rfl, rfl, rfl, rfl, rfl, trivial⟩ (fun w hw => hw)
    · have hj2 : j = 48 := by have := of_decide_eq_false hc57; omega
      subst hj2
      obtain ⟨ws, hwsd⟩ : ∃ ws, ws = wList b 48 := ⟨_, rfl⟩
      have hws : ws.length = 64 := by rw [hwsd]; exact wList_len b 48
      have hbk : blockF s b = sumS s (roundsF ws s 64) := by rw [hwsd]; rfl
      rw [hbk, ← hwsd]
      refine TC.exit_ ?_
      refine TX.then_exit ?_
      refine TX.then_exit ?_
      refine TX.in_same ?_
      refine TX.then_ ?_
      refine TC.seq_ ?_
      refine TC.region ?_
      refine TL.val rfl rfl rfl (pm_loadAgg (k := 3) (n := 8) rfl rfl rag8 rsz8 rfl (Nat.le_refl 8)) ?_
      refine TL.pnew rfl rfl rfl (exec_alloc (cs := [.int .u32 0, .int .u32 0, .int .u32 0, .int .u32 0, .int .u32 0, .int .u32 0, .int .u32 0, .int .u32 0]) rfl rzero8 rfl) (fun g11 => ?_)
      refine TL.pstore (k := 0) (vs := s.cells.toList) rfl rfl rfl rfl rfl rfl rfl rsz8 (one8 _ _ _ _ _ _ _ _) (Nat.le_refl 8) (L' := [.blk g11 41 s.cells.toList, .blk g6 56 (arrW (ws)), .blk g5 56 (arrW keysL), .blk g4 41 [.int .u32 0, .int .u32 0, .int .u32 0, .int .u32 0, .int .u32 0, .int .u32 0, .int .u32 0, .int .u32 0], .blk g2 41 s.cells.toList]) rfl ?_
      refine TL.end_ ?_
      refine TX.then_ ?_
      refine TC.seq_ ?_
      refine TC.seq_ ?_
      refine TC.region ?_
      refine TL.val rfl rfl rfl (gives_assign rfl rfl) ?_
      refine TL.end_ ?_
      refine TX.then_ ?_
      refine TC.block ?_
      refine TC.loop_ (α := {i : Nat // i ≤ 64}) (fun x => [(2, .pointer (some ⟨g2, 0, none⟩)), (4, .pointer (some ⟨g4, 0, none⟩)), (5, .pointer (some ⟨g5, 0, none⟩)), (6, .pointer (some ⟨g6, 0, none⟩)), (11, .pointer (some ⟨g11, 0, none⟩)), (12, .int .i64 (x.1 : Int))]) (fun x => Pm w [.blk g11 41 (roundsF ws s x.1).cells.toList, .blk g6 56 (arrW (ws)), .blk g5 56 (arrW keysL), .blk g4 41 [.int .u32 0, .int .u32 0, .int .u32 0, .int .u32 0, .int .u32 0, .int .u32 0, .int .u32 0, .int .u32 0], .blk g2 41 s.cells.toList]) (fun x => 64 - x.1) (⟨0, Nat.zero_le _⟩) ⟨rfl, rfl, rfl, rfl, rfl, rfl, trivial⟩ (fun w hw => hw) ?_
      rintro ⟨i, hi⟩
      dsimp only at hi ⊢
      refine TC.seq_ ?_
      refine TC.seq_ ?_
      refine TC.region ?_
      refine TL.val rfl rfl rfl (gives_move rfl rfl) ?_
      refine TL.val rfl rfl rfl (gives_bin rfl rfl rfl (fun w => bin_lss w)) ?_
      refine TL.end_ ?_
      refine TX.then_ ?_
      refine TC.split rfl (fun hc99 => ?_) (fun hc99 => ?_)
      · have hi2 : i < 64 := by have := of_decide_eq_true hc99; omega
        have hx := roundsF_ok ws s hok i
        have hnx : roundsF ws s (i + 1) = roundF (roundsF ws s i) (keysL.getD i 0) (ws.getD i 0) := rfl
        generalize roundsF ws s i = x at *
        obtain ⟨xa, xb, xc, xd, xe, xf, xg, xh⟩ := x
        obtain ⟨oa, ob, oc, od, oe, of', og, oh⟩ := hx
        refine TC.skip_ ?_
        refine TX.then_ ?_
        refine TC.seq_ ?_
        refine TC.block ?_
        refine TC.seq_ ?_
        refine TC.quiet_ (E' := ?_) (by kernel_rfl) (by kernel_rfl) (fun w hw => hw.drawn _) ?_ ?_
        rotate_left
        · refine TQ.val rfl rfl rfl (gives_at rfl rfl rfl (fun w => at_arr Tryd.underlying41 sz1 _ 0 _ (7) (by decide) w)) ?_
          refine TQ.val rfl rfl rfl (pm_load (k := 0) rfl rfl ag1 rfl rfl) ?_
          refine TQ.val rfl rfl rfl (gives_at rfl rfl rfl (fun w => at_arr Tryd.underlying41 sz1 _ 0 _ (4) (by decide) w)) ?_
          refine TQ.val rfl rfl rfl (pm_load (k := 0) rfl rfl ag1 rfl rfl) ?_
          refine TQ.call rfl rfl rfl rfl rfl Tryd.func31 rnmTurn rbdTurn (fun w hw => (rturn_6 _ oe w).mono (fun e w2 ⟨he, q, hq⟩ => ⟨he, hq ▸ pm_drewN hw q⟩)) ?_
          refine TQ.val rfl rfl rfl (gives_at rfl rfl rfl (fun w => at_arr Tryd.underlying41 sz1 _ 0 _ (4) (by decide) w)) ?_
          refine TQ.val rfl rfl rfl (pm_load (k := 0) rfl rfl ag1 rfl rfl) ?_
          refine TQ.call rfl rfl rfl rfl rfl Tryd.func31 rnmTurn rbdTurn (fun w hw => (rturn_11 _ oe w).mono (fun e w2 ⟨he, q, hq⟩ => ⟨he, hq ▸ pm_drewN hw q⟩)) ?_
          refine TQ.val rfl rfl rfl (gives_bin rfl rfl rfl (fun w => bin_bits (.inr (.inr rfl)) w)) ?_
          refine TQ.val rfl rfl rfl (gives_at rfl rfl rfl (fun w => at_arr Tryd.underlying41 sz1 _ 0 _ (4) (by decide) w)) ?_
          refine TQ.val rfl rfl rfl (pm_load (k := 0) rfl rfl ag1 rfl rfl) ?_
          refine TQ.call rfl rfl rfl rfl rfl Tryd.func31 rnmTurn rbdTurn (fun w hw => (rturn_25 _ oe w).mono (fun e w2 ⟨he, q, hq⟩ => ⟨he, hq ▸ pm_drewN hw q⟩)) ?_
          refine TQ.val rfl rfl rfl (gives_bin rfl rfl rfl (fun w => bin_bits (.inr (.inr rfl)) w)) ?_
          refine TQ.val rfl rfl rfl (gives_bin rfl rfl rfl (fun w => bin_add w)) ?_
          refine TQ.val rfl rfl rfl (gives_at rfl rfl rfl (fun w => at_arr Tryd.underlying41 sz1 _ 0 _ (4) (by decide) w)) ?_
          refine TQ.val rfl rfl rfl (pm_load (k := 0) rfl rfl ag1 rfl rfl) ?_
          refine TQ.val rfl rfl rfl (gives_at rfl rfl rfl (fun w => at_arr Tryd.underlying41 sz1 _ 0 _ (5) (by decide) w)) ?_
          refine TQ.val rfl rfl rfl (pm_load (k := 0) rfl rfl ag1 rfl rfl) ?_
          refine TQ.val rfl rfl rfl (gives_bin rfl rfl rfl (fun w => bin_bits (.inl rfl) w)) ?_
          refine TQ.val rfl rfl rfl (gives_at rfl rfl rfl (fun w => at_arr Tryd.underlying41 sz1 _ 0 _ (4) (by decide) w)) ?_
          refine TQ.val rfl rfl rfl (pm_load (k := 0) rfl rfl ag1 rfl rfl) ?_
          refine TQ.val rfl rfl rfl (gives_not rfl rfl) ?_
          refine TQ.val rfl rfl rfl (gives_at rfl rfl rfl (fun w => at_arr Tryd.underlying41 sz1 _ 0 _ (6) (by decide) w)) ?_
          refine TQ.val rfl rfl rfl (pm_load (k := 0) rfl rfl ag1 rfl rfl) ?_
          refine TQ.val rfl rfl rfl (gives_bin rfl rfl rfl (fun w => bin_bits (.inl rfl) w)) ?_
          refine TQ.val rfl rfl rfl (gives_bin rfl rfl rfl (fun w => bin_bits (.inr (.inr rfl)) w)) ?_
          refine TQ.val rfl rfl rfl (gives_bin rfl rfl rfl (fun w => bin_add w)) ?_
          refine TQ.val rfl rfl rfl (gives_move rfl rfl) ?_
          refine TQ.val rfl rfl rfl (gives_at rfl rfl rfl (fun w => at_arr Tryd.underlying56 sz1 _ 0 _ (i) (by omega) w)) ?_
          refine TQ.val rfl rfl rfl (pm_load (k := 2) rfl rfl ag1 rfl (arrW_at keysL i (by rw [keysL_len]; omega))) ?_
          refine TQ.val rfl rfl rfl (gives_bin rfl rfl rfl (fun w => bin_add w)) ?_
          refine TQ.val rfl rfl rfl (gives_move rfl rfl) ?_
          refine TQ.val rfl rfl rfl (gives_at rfl rfl rfl (fun w => at_arr Tryd.underlying56 sz1 _ 0 _ (i) (by omega) w)) ?_
          refine TQ.val rfl rfl rfl (pm_load (k := 1) rfl rfl ag1 rfl (arrW_at ws i (by omega))) ?_
          refine TQ.val rfl rfl rfl (gives_bin rfl rfl rfl (fun w => bin_add w)) ?_
          refine TQ.val rfl rfl rfl (gives_assign rfl rfl) ?_
          exact TQ.end_
        refine TX.then_ ?_
        refine TC.seq_ ?_
        refine TC.quiet_ (E' := ?_) (by kernel_rfl) (by kernel_rfl) (fun w hw => hw.drawn _) ?_ ?_
        rotate_left
        · refine TQ.val rfl rfl rfl (gives_at rfl rfl rfl (fun w => at_arr Tryd.underlying41 sz1 _ 0 _ (0) (by decide) w)) ?_
          refine TQ.val rfl rfl rfl (pm_load (k := 0) rfl rfl ag1 rfl rfl) ?_
          refine TQ.call rfl rfl rfl rfl rfl Tryd.func31 rnmTurn rbdTurn (fun w hw => (rturn_2 _ oa w).mono (fun e w2 ⟨he, q, hq⟩ => ⟨he, hq ▸ pm_drewN hw q⟩)) ?_
          refine TQ.val rfl rfl rfl (gives_at rfl rfl rfl (fun w => at_arr Tryd.underlying41 sz1 _ 0 _ (0) (by decide) w)) ?_
          refine TQ.val rfl rfl rfl (pm_load (k := 0) rfl rfl ag1 rfl rfl) ?_
          refine TQ.call rfl rfl rfl rfl rfl Tryd.func31 rnmTurn rbdTurn (fun w hw => (rturn_13 _ oa w).mono (fun e w2 ⟨he, q, hq⟩ => ⟨he, hq ▸ pm_drewN hw q⟩)) ?_
          refine TQ.val rfl rfl rfl (gives_bin rfl rfl rfl (fun w => bin_bits (.inr (.inr rfl)) w)) ?_
          refine TQ.val rfl rfl rfl (gives_at rfl rfl rfl (fun w => at_arr Tryd.underlying41 sz1 _ 0 _ (0) (by decide) w)) ?_
          refine TQ.val rfl rfl rfl (pm_load (k := 0) rfl rfl ag1 rfl rfl) ?_
          refine TQ.call rfl rfl rfl rfl rfl Tryd.func31 rnmTurn rbdTurn (fun w hw => (rturn_22 _ oa w).mono (fun e w2 ⟨he, q, hq⟩ => ⟨he, hq ▸ pm_drewN hw q⟩)) ?_
          refine TQ.val rfl rfl rfl (gives_bin rfl rfl rfl (fun w => bin_bits (.inr (.inr rfl)) w)) ?_
          refine TQ.val rfl rfl rfl (gives_at rfl rfl rfl (fun w => at_arr Tryd.underlying41 sz1 _ 0 _ (0) (by decide) w)) ?_
          refine TQ.val rfl rfl rfl (pm_load (k := 0) rfl rfl ag1 rfl rfl) ?_
          refine TQ.val rfl rfl rfl (gives_at rfl rfl rfl (fun w => at_arr Tryd.underlying41 sz1 _ 0 _ (1) (by decide) w)) ?_
          refine TQ.val rfl rfl rfl (pm_load (k := 0) rfl rfl ag1 rfl rfl) ?_
          refine TQ.val rfl rfl rfl (gives_bin rfl rfl rfl (fun w => bin_bits (.inl rfl) w)) ?_
          refine TQ.val rfl rfl rfl (gives_at rfl rfl rfl (fun w => at_arr Tryd.underlying41 sz1 _ 0 _ (0) (by decide) w)) ?_
          refine TQ.val rfl rfl rfl (pm_load (k := 0) rfl rfl ag1 rfl rfl) ?_
          refine TQ.val rfl rfl rfl (gives_at rfl rfl rfl (fun w => at_arr Tryd.underlying41 sz1 _ 0 _ (2) (by decide) w)) ?_
          refine TQ.val rfl rfl rfl (pm_load (k := 0) rfl rfl ag1 rfl rfl) ?_
          refine TQ.val rfl rfl rfl (gives_bin rfl rfl rfl (fun w => bin_bits (.inl rfl) w)) ?_
          refine TQ.val rfl rfl rfl (gives_bin rfl rfl rfl (fun w => bin_bits (.inr (.inr rfl)) w)) ?_
          refine TQ.val rfl rfl rfl (gives_at rfl rfl rfl (fun w => at_arr Tryd.underlying41 sz1 _ 0 _ (1) (by decide) w)) ?_
          refine TQ.val rfl rfl rfl (pm_load (k := 0) rfl rfl ag1 rfl rfl) ?_
          refine TQ.val rfl rfl rfl (gives_at rfl rfl rfl (fun w => at_arr Tryd.underlying41 sz1 _ 0 _ (2) (by decide) w)) ?_
          refine TQ.val rfl rfl rfl (pm_load (k := 0) rfl rfl ag1 rfl rfl) ?_
          refine TQ.val rfl rfl rfl (gives_bin rfl rfl rfl (fun w => bin_bits (.inl rfl) w)) ?_
          refine TQ.val rfl rfl rfl (gives_bin rfl rfl rfl (fun w => bin_bits (.inr (.inr rfl)) w)) ?_
          refine TQ.val rfl rfl rfl (gives_bin rfl rfl rfl (fun w => bin_add w)) ?_
          refine TQ.val rfl rfl rfl (gives_assign rfl rfl) ?_
          exact TQ.end_
        refine TX.then_ ?_
        refine TC.region ?_
        refine TL.val rfl rfl rfl (gives_move rfl rfl) ?_
        refine TL.val rfl rfl rfl (gives_move rfl rfl) ?_
        refine TL.val rfl rfl rfl (gives_bin rfl rfl rfl (fun w => bin_add w)) ?_
        refine TL.val rfl rfl rfl (gives_at rfl rfl rfl (fun w => at_arr Tryd.underlying41 sz1 _ 0 _ (0) (by decide) w)) ?_
        refine TL.val rfl rfl rfl (pm_load (k := 0) rfl rfl ag1 rfl rfl) ?_
        refine TL.val rfl rfl rfl (gives_at rfl rfl rfl (fun w => at_arr Tryd.underlying41 sz1 _ 0 _ (1) (by decide) w)) ?_
        refine TL.val rfl rfl rfl (pm_load (k := 0) rfl rfl ag1 rfl rfl) ?_
        refine TL.val rfl rfl rfl (gives_at rfl rfl rfl (fun w => at_arr Tryd.underlying41 sz1 _ 0 _ (2) (by decide) w)) ?_
        refine TL.val rfl rfl rfl (pm_load (k := 0) rfl rfl ag1 rfl rfl) ?_
        refine TL.val rfl rfl rfl (gives_at rfl rfl rfl (fun w => at_arr Tryd.underlying41 sz1 _ 0 _ (3) (by decide) w)) ?_
        refine TL.val rfl rfl rfl (pm_load (k := 0) rfl rfl ag1 rfl rfl) ?_
        refine TL.val rfl rfl rfl (gives_move rfl rfl) ?_
        refine TL.val rfl rfl rfl (gives_bin rfl rfl rfl (fun w => bin_add w)) ?_
        refine TL.val rfl rfl rfl (gives_at rfl rfl rfl (fun w => at_arr Tryd.underlying41 sz1 _ 0 _ (4) (by decide) w)) ?_
        refine TL.val rfl rfl rfl (pm_load (k := 0) rfl rfl ag1 rfl rfl) ?_
        refine TL.val rfl rfl rfl (gives_at rfl rfl rfl (fun w => at_arr Tryd.underlying41 sz1 _ 0 _ (5) (by decide) w)) ?_
        refine TL.val rfl rfl rfl (pm_load (k := 0) rfl rfl ag1 rfl rfl) ?_
        refine TL.val rfl rfl rfl (gives_at rfl rfl rfl (fun w => at_arr Tryd.underlying41 sz1 _ 0 _ (6) (by decide) w)) ?_
        refine TL.val rfl rfl rfl (pm_load (k := 0) rfl rfl ag1 rfl rfl) ?_
        refine TL.val rfl rfl rfl (gives_build rfl rfl (fun w => rbuild8x _ _ _ _ _ _ _ _ w)) ?_
        refine TL.pstore (k := 0) (vs := (roundF ⟨xa, xb, xc, xd, xe, xf, xg, xh⟩ (keysL.getD i 0) (ws.getD i 0)).cells.toList) rfl rfl rfl rfl rfl rfl rfl rsz8 (one8 _ _ _ _ _ _ _ _) (Nat.le_refl 8) rfl ?_
        refine TL.end_ ?_
        refine TX.in_normal ?_
        refine TX.then_ ?_
        refine TC.region ?_
        refine TL.val rfl rfl rfl (gives_move rfl rfl) ?_
        refine TL.val rfl rfl rfl (gives_bin rfl rfl rfl (fun w => bin_add_ (r := ((i + 1 : Nat) : Int)) (by simp only [IntKind.wrap_i64]; omega) w)) ?_
        refine TL.val rfl rfl rfl (gives_assign rfl rfl) ?_
        refine TL.end_ ?_
        exact TX.round (⟨i + 1, hi2⟩) (by show 64 - (i + 1) < 64 - i; omega) ⟨rfl, rfl, rfl, rfl, rfl, rfl, trivial⟩ (fun w1 hw => by rw [hnx]; exact hw)
      · have hi2 : i = 64 := by have := of_decide_eq_false hc99; omega
        subst hi2
        refine TC.exit_ ?_
        refine TX.then_exit ?_
        refine TX.then_exit ?_
        refine TX.in_same ?_
        refine TX.then_ ?_
        refine TC.seq_ ?_
        refine TC.seq_ ?_
        refine TC.region ?_
        refine TL.val rfl rfl rfl (gives_assign rfl rfl) ?_
        refine TL.end_ ?_
        refine TX.then_ ?_
        refine TC.block ?_
        refine TC.loop_ (α := {j : Nat // j ≤ 8}) (fun x => [(2, .pointer (some ⟨g2, 0, none⟩)), (4, .pointer (some ⟨g4, 0, none⟩)), (11, .pointer (some ⟨g11, 0, none⟩)), (15, .int .i64 (x.1 : Int))]) (fun x => Pm w [.blk g11 41 (roundsF ws s 64).cells.toList, .blk g6 56 (arrW (ws)), .blk g5 56 (arrW keysL), .blk g4 41 [.int .u32 0, .int .u32 0, .int .u32 0, .int .u32 0, .int .u32 0, .int .u32 0, .int .u32 0, .int .u32 0], .blk g2 41 (mixC (sumS s (roundsF ws s 64)) s x.1)]) (fun x => 8 - x.1) (⟨0, Nat.zero_le _⟩) ⟨rfl, rfl, rfl, rfl, trivial⟩ (fun w hw => hw) ?_
        rintro ⟨j, hj⟩
        dsimp only at hj ⊢
        refine TC.seq_ ?_
        refine TC.seq_ ?_
        refine TC.region ?_
        refine TL.val rfl rfl rfl (gives_move rfl rfl) ?_
        refine TL.val rfl rfl rfl (gives_bin rfl rfl rfl (fun w => bin_lss w)) ?_
        refine TL.end_ ?_
        refine TX.then_ ?_
        refine TC.split rfl (fun hc187 => ?_) (fun hc187 => ?_)
        · have hj2 : j < 8 := by have := of_decide_eq_true hc187; omega
          refine TC.skip_ ?_
          refine TX.then_ ?_
          refine TC.seq_ ?_
          refine TC.block ?_
          refine TC.tail 8 (by kernel_rfl) (by kernel_rfl) (fun w hw => hw.drawn _) ?_
          refine TS.val rfl rfl rfl (gives_move rfl rfl) ?_
          refine TS.val rfl rfl rfl (gives_at rfl rfl rfl (fun w => at_arr Tryd.underlying41 sz1 _ 0 _ (j) hj2 w)) ?_
          refine TS.val rfl rfl rfl (pm_load (k := 4) rfl rfl ag1 rfl (mix_get _ _ j hj2)) ?_
          refine TS.val rfl rfl rfl (gives_move rfl rfl) ?_
          refine TS.val rfl rfl rfl (gives_at rfl rfl rfl (fun w => at_arr Tryd.underlying41 sz1 _ 0 _ (j) hj2 w)) ?_
          refine TS.val rfl rfl rfl (pm_load (k := 0) rfl rfl ag1 rfl (cell_get _ j hj2)) ?_
          refine TS.val rfl rfl rfl (gives_bin rfl rfl rfl (fun w => bin_add w)) ?_
          refine TS.val rfl rfl rfl (gives_at rfl rfl rfl (fun w => at_arr Tryd.underlying41 sz1 _ 0 _ (j) hj2 w)) ?_
          refine TS.end_ ?_
          refine TL.pstore (k := 4) (vs := [.int .u32 _]) rfl rfl rfl rfl rfl rfl rfl sz1 (one1 _) (by rw [mix_len _ _ _ (by omega)]; show 0 + j + 1 ≤ 8; omega) rfl ?_
          refine TL.end_ ?_
          refine TX.in_normal ?_
          refine TX.then_ ?_
          refine TC.region ?_
          refine TL.val rfl rfl rfl (gives_move rfl rfl) ?_
          refine TL.val rfl rfl rfl (gives_bin rfl rfl rfl (fun w => bin_add_ (r := ((j + 1 : Nat) : Int)) (by simp only [IntKind.wrap_i64]; omega) w)) ?_
          refine TL.val rfl rfl rfl (gives_assign rfl rfl) ?_
          refine TL.end_ ?_
          exact TX.round (⟨j + 1, hj2⟩) (by show 8 - (j + 1) < 8 - j; omega) ⟨rfl, rfl, rfl, rfl, trivial⟩ (fun w1 hw => by rw [← mix_put s (roundsF ws s 64) j hj2]; exact hw)
        · have hj2 : j = 8 := by have := of_decide_eq_false hc187; omega
          subst hj2
          refine TC.exit_ ?_
          refine TX.then_exit ?_
          refine TX.then_exit ?_
          refine TX.in_same ?_
          refine TX.then_ ?_
          refine TC.seq_ ?_
          refine TC.region ?_
          refine TL.val rfl rfl rfl (pm_loadAgg (k := 4) (n := 8) rfl rfl rag8 rsz8 rfl (Nat.le_refl 8)) ?_
          refine TL.pstore (k := 3) (vs := (sumS s (roundsF ws s 64)).cells.toList) rfl rfl rfl rfl rfl rfl rfl rsz8 (one8 _ _ _ _ _ _ _ _) (Nat.le_refl 8) rfl ?_
          refine TL.end_ ?_
          refine TX.then_ ?_
          refine TC.ret_ ?_
          exact pm_ret_cell (k := 3) Tryd.results22 rfl rfl Tryd.underlying41 rfl rfl (fun w1 hw => ⟨rfl, hw.bel⟩)
end Go.Proofs.YtllaojnnackhhaaDoor
