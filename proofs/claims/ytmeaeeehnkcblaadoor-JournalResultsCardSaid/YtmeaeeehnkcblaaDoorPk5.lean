/-
  Texts of the proof, joined: DgRBlock, DgRAll, DgNames, DgMac, JrAc, JrSeg, JrAp, JrPart, JrBack, JrSame.
-/
import Derived.Test.YtmeaeeehnkcblaaDoorPk3
import Derived.Test.YtmeaeeehnkcblaaDoorPk4
import Derived.Test.YtmeaeeehnkcblaaDoorPk1
import Derived.Test.YtmeaeeehnkcblaaDoorPk2
namespace Go.Proofs.YtmeaeeehnkcblaaDoor
open Go.RowKit
set_option linter.unusedVariables false
set_option linter.unusedSimpArgs false
set_option maxRecDepth 20000
theorem take4 {l : List Int} {k : Nat} {a b c d : Int} (h0 : l[k + 0]? = some a) (h1 : l[k + 1]? = some b) (h2 : l[k + 2]? = some c) (h3 : l[k + 3]? = some d) : (l.drop k).take 4 = [a, b, c, d] := by
 apply List.ext_getElem?
 intro i
 rw [List.getElem?_take]
 match i with
 | 0 => simpa using h0
 | 1 => simpa using h1
 | 2 => simpa using h2
 | 3 => simpa using h3
 | i + 4 => simp; intro hh; omega
theorem wList_next (b : List Int) (j : Nat) : wList b (j + 1) = wList b j ++ [addW (addW (addW ((wList b j).getD j 0) (sig0 ((wList b j).getD (j + 1) 0))) ((wList b j).getD (9 + j) 0)) (sig1 ((wList b j).getD (14 + j) 0))] := by
 show wList b j ++ [wNext (wList b j)] = _
 unfold wNext
 rw [wList_len, show 16 + j - 16 = j by omega, show 16 + j - 15 = j + 1 by omega, show 16 + j - 7 = 9 + j by omega, show 16 + j - 2 = 14 + j by omega]
theorem wList_old (b : List Int) (j i : Nat) (h : i < 16 + j) : (wList b (j + 1)).getD i 0 = (wList b j).getD i 0 := by
 show (wList b j ++ _).getD i 0 = _
 rw [List.getD_eq_getElem?_getD, List.getD_eq_getElem?_getD, List.getElem?_append_left (by rw [wList_len]; exact h)]
theorem arrW_one (L : List Int) : ∀ u ∈ arrW L, u.oneCell' = true := by
 intro u hu
 simp only [arrW, List.mem_append, List.mem_map, List.mem_replicate] at hu
 rcases hu with ⟨x, _, rfl⟩ | ⟨_, rfl⟩ <;> rfl
theorem rzero64 (w : World) : (zeroValue 111).run Tryd.prog w = .ok (.agg (arrW []).toArray) w := rfl
theorem rsz64 (w : World) : (sizeOf 111).run Tryd.prog w = .ok 64 w := rfl
theorem rnmTurn : (Tryd.f78.name == "runtime.NumGoroutine") = false := by decide
theorem rbdTurn : Tryd.f78.body.isNone = false := rfl
theorem rnmWords : (Tryd.f77.name == "runtime.NumGoroutine") = false := by decide
theorem rbdWords : Tryd.f77.body.isNone = false := rfl
theorem at_byte (g off n c j : Nat) (hj : j < n) (w : World) : (Instr.indexAt 28 (.slice (some ⟨g, off, none⟩) n c) (.int .i64 (j : Int))).run Tryd.prog w = .ok (.pointer (some ⟨g, off + j, none⟩)) w := by
 have hs : ∀ w : World, (sizeOf 5).run Tryd.prog w = .ok 1 w := fun w => rfl
 have h1 : (0 : Int) ≤ (j : Int) ∧ (j : Int) < n := by omega
 simp [Instr.indexAt, run_underlying Tryd.underlying28, asIntOf, hs, h1, add_at, go_sem]
 try (intro hh; exact absurd hh (by omega))
theorem rbuild8x (a b c d e f g h : Int) (w : World) : (Instr.build 103 #[(0, .int .u32 a), (1, .int .u32 b), (2, .int .u32 c), (3, .int .u32 d), (4, .int .u32 e), (5, .int .u32 f), (6, .int .u32 g), (7, .int .u32 h)]).run Tryd.prog w = .ok (.agg #[.int .u32 a, .int .u32 b, .int .u32 c, .int .u32 d, .int .u32 e, .int .u32 f, .int .u32 g, .int .u32 h]) w := by kernel_rfl
theorem rwords_any (w : World) : Calls Tryd.prog 77 #[] w fun e w' => e = .returned (.agg (arrW keysL).toArray) ∧ Below w.heap.size w w' := by
 refine begin_ (vs := []) Tryd.func77 rfl rfl rfl ?_ (Pm.start w)
 refine TC.seq_ (TC.region ?_)
 refine TL.pnew rfl rfl rfl (exec_alloc (cs := arrW []) rfl rzero64 rfl) (fun g0 => ?_)
 refine TL.end_ (TX.then_ (TC.seq_ (TC.region ?_)))
 refine TL.val rfl rfl rfl (gives_build (v := .agg (arrW keysL).toArray) rfl rfl (fun w => by kernel_rfl)) ?_
 refine TL.pstore (k := 0) (vs := arrW keysL) rfl rfl rfl rfl rfl rfl rfl rsz64 (arrW_one _) (Nat.le_refl 64) (L' := [.blk g0 111 (arrW keysL)]) rfl ?_
 refine TL.end_ (TX.then_ (TC.ret_ ?_))
 exact pm_ret_cell (k := 0) Tryd.results77 rfl rfl Tryd.underlying111 rfl rfl (fun w1 hw => ⟨rfl, hw.bel⟩)
theorem rblock_any (s : S8) (hok : s.Ok) (b0 o c : Nat) (b : List Int) (w : World) (hb : Byt w w.heap.size (some ⟨b0, o, none⟩) 64 b) (hc : 64 ≤ c) (hc2 : c ≤ maxLen) :
  Calls Tryd.prog 72 #[.agg s.cells, .slice (some ⟨b0, o, none⟩) 64 c] w fun e w' => e = .returned (.agg (blockF s b).cells) ∧ Below w.heap.size w w' := by
 have hb0 : b0 < w.heap.size := by
  obtain ⟨b', o', x, hA, hlt, _⟩ := hb.at' (k := 0) (by omega)
  injection hA with e
  injection e with e1 e2
  omega
 refine begin_ (vs := [.agg s.cells, .slice (some ⟨b0, o, none⟩) 64 c]) Tryd.func72 rfl rfl rfl ?_ (Pm.start w)
 refine TC.seq_ (TC.region ?_)
 refine TL.pnew rfl rfl rfl (exec_box (cs := s.cells.toList) rfl rfl rfl) (fun g2 => ?_)
 refine TL.pnew rfl rfl rfl (exec_alloc (cs := [.int .u32 0, .int .u32 0, .int .u32 0, .int .u32 0, .int .u32 0, .int .u32 0, .int .u32 0, .int .u32 0]) rfl rzero8 rfl) (fun g4 => ?_)
 refine TL.end_ (TX.then_ (TC.seq_ (TC.region ?_)))
 refine TL.pcall1 (r := .agg (arrW keysL).toArray) rfl rfl rfl rfl rfl Tryd.func77 rnmWords rbdWords (fun w hw => rwords_any w) ?_
 refine TL.pnew rfl rfl rfl (exec_alloc (cs := arrW []) rfl rzero64 rfl) (fun g5 => ?_)
 refine TL.pstore (k := 0) (vs := arrW keysL) rfl rfl rfl rfl rfl rfl rfl rsz64 (arrW_one _) (Nat.le_refl 64) (L' := [.blk g5 111 (arrW keysL), .blk g4 103 [.int .u32 0, .int .u32 0, .int .u32 0, .int .u32 0, .int .u32 0, .int .u32 0, .int .u32 0, .int .u32 0], .blk g2 103 s.cells.toList]) rfl ?_
 refine TL.end_ (TX.then_ (TC.seq_ (TC.region ?_)))
 refine TL.pnew rfl rfl rfl (exec_alloc (cs := arrW []) rfl rzero64 rfl) (fun g6 => ?_)
 refine TL.end_ (TX.then_ (TC.seq_ (TC.seq_ (TC.region ?_))))
 refine TL.val rfl rfl rfl (gives_assign rfl rfl) ?_
 refine TL.end_ (TX.then_ (TC.block ?_))
 refine TC.loop_ (α := {i : Nat // i ≤ 16}) (fun x => [(1, .slice (some ⟨b0, o, none⟩) 64 c), (2, .pointer (some ⟨g2, 0, none⟩)), (4, .pointer (some ⟨g4, 0, none⟩)), (5, .pointer (some ⟨g5, 0, none⟩)), (6, .pointer (some ⟨g6, 0, none⟩)), (7, .int .i64 (x.1 : Int))]) (fun x => Pm w [.blk g6 111 (arrW (w16 b x.1)), .blk g5 111 (arrW keysL), .blk g4 103 [.int .u32 0, .int .u32 0, .int .u32 0, .int .u32 0, .int .u32 0, .int .u32 0, .int .u32 0, .int .u32 0], .blk g2 103 s.cells.toList]) (fun x => 16 - x.1) (⟨0, Nat.zero_le _⟩) ⟨rfl, rfl, rfl, rfl, rfl, rfl, trivial⟩ (fun w hw => hw) ?_
 rintro ⟨i, hi⟩
 dsimp only at hi ⊢
 refine TC.seq_ (TC.seq_ (TC.region ?_))
 refine TL.val rfl rfl rfl (gives_move rfl rfl) ?_
 refine TL.val rfl rfl rfl (gives_bin rfl rfl rfl (fun w => bin_lss w)) ?_
 refine TL.end_ (TX.then_ ?_)
 refine TC.split rfl (fun hc18 => ?_) (fun hc18 => ?_)
 ·have hi2 : i < 16 := by have := of_decide_eq_true hc18; omega
  obtain ⟨y0, hl0, hz0, hm0, hy0⟩ := byt_cell_at hb (k := 4 * i + 0) (by omega)
  obtain ⟨y1, hl1, hz1, hm1, hy1⟩ := byt_cell_at hb (k := 4 * i + 1) (by omega)
  obtain ⟨y2, hl2, hz2, hm2, hy2⟩ := byt_cell_at hb (k := 4 * i + 2) (by omega)
  obtain ⟨y3, hl3, hz3, hm3, hy3⟩ := byt_cell_at hb (k := 4 * i + 3) (by omega)
  have hr0 : 0 ≤ y0 ∧ y0 ≤ 255 := ⟨hz0, hm0⟩
  have hr1 : 0 ≤ y1 ∧ y1 ≤ 255 := ⟨hz1, hm1⟩
  have hr2 : 0 ≤ y2 ∧ y2 ≤ 255 := ⟨hz2, hm2⟩
  have hr3 : 0 ≤ y3 ∧ y3 ≤ 255 := ⟨hz3, hm3⟩
  have h4 : (b.drop (4 * i)).take 4 = [y0, y1, y2, y3] := take4 hl0 hl1 hl2 hl3
  refine TC.skip_ (TX.then_ (TC.seq_ (TC.block ?_)))
  refine TC.tail 35 (by kernel_rfl) (by kernel_rfl) (fun w hw => hw.drawn _) ?_
  refine TS.val rfl rfl rfl (gives_move rfl rfl) ?_
  refine TS.val rfl rfl rfl (gives_move rfl rfl) ?_
  refine TS.val rfl rfl rfl (gives_move rfl rfl) ?_
  refine TS.val rfl rfl rfl (gives_bin rfl rfl rfl (fun w => bin_mul_ (r := ((4 * i : Nat) : Int)) (by simp only [IntKind.wrap_i64]; omega) w)) ?_
  refine TS.val rfl rfl rfl (gives_at rfl rfl rfl (fun w => at_byte b0 o 64 c (4 * i + 0) (by omega) w)) ?_
  refine TS.val rfl rfl rfl (gives_load rfl rfl (fun w => rfl) (fun w1 hw => (hw.bel.cell (p := ⟨b0, o + (4 * i + 0), none⟩) hb0).trans hy0)) ?_
  refine TS.val rfl rfl rfl (gives_conv rfl rfl (fun w => conv_fit Tryd.underlying22 Tryd.underlying5 (by simp only [IntKind.wrap_u32]; omega) w)) ?_
  refine TS.val rfl rfl rfl (gives_bin rfl rfl rfl (fun w => bin_shl 16777216 (by decide) (by decide) rfl w)) ?_
  refine TS.val rfl rfl rfl (gives_move rfl rfl) ?_
  refine TS.val rfl rfl rfl (gives_move rfl rfl) ?_
  refine TS.val rfl rfl rfl (gives_bin rfl rfl rfl (fun w => bin_mul_ (r := ((4 * i : Nat) : Int)) (by simp only [IntKind.wrap_i64]; omega) w)) ?_
  refine TS.val rfl rfl rfl (gives_bin rfl rfl rfl (fun w => bin_add_ (r := ((4 * i + 1 : Nat) : Int)) (by simp only [IntKind.wrap_i64]; omega) w)) ?_
  refine TS.val rfl rfl rfl (gives_at rfl rfl rfl (fun w => at_byte b0 o 64 c (4 * i + 1) (by omega) w)) ?_
  refine TS.val rfl rfl rfl (gives_load rfl rfl (fun w => rfl) (fun w1 hw => (hw.bel.cell (p := ⟨b0, o + (4 * i + 1), none⟩) hb0).trans hy1)) ?_
  refine TS.val rfl rfl rfl (gives_conv rfl rfl (fun w => conv_fit Tryd.underlying22 Tryd.underlying5 (by simp only [IntKind.wrap_u32]; omega) w)) ?_
  refine TS.val rfl rfl rfl (gives_bin rfl rfl rfl (fun w => bin_shl 65536 (by decide) (by decide) rfl w)) ?_
  refine TS.val rfl rfl rfl (gives_bin rfl rfl rfl (fun w => bin_bits (.inr (.inl rfl)) w)) ?_
  refine TS.val rfl rfl rfl (gives_move rfl rfl) ?_
  refine TS.val rfl rfl rfl (gives_move rfl rfl) ?_
  refine TS.val rfl rfl rfl (gives_bin rfl rfl rfl (fun w => bin_mul_ (r := ((4 * i : Nat) : Int)) (by simp only [IntKind.wrap_i64]; omega) w)) ?_
  refine TS.val rfl rfl rfl (gives_bin rfl rfl rfl (fun w => bin_add_ (r := ((4 * i + 2 : Nat) : Int)) (by simp only [IntKind.wrap_i64]; omega) w)) ?_
  refine TS.val rfl rfl rfl (gives_at rfl rfl rfl (fun w => at_byte b0 o 64 c (4 * i + 2) (by omega) w)) ?_
  refine TS.val rfl rfl rfl (gives_load rfl rfl (fun w => rfl) (fun w1 hw => (hw.bel.cell (p := ⟨b0, o + (4 * i + 2), none⟩) hb0).trans hy2)) ?_
  refine TS.val rfl rfl rfl (gives_conv rfl rfl (fun w => conv_fit Tryd.underlying22 Tryd.underlying5 (by simp only [IntKind.wrap_u32]; omega) w)) ?_
  refine TS.val rfl rfl rfl (gives_bin rfl rfl rfl (fun w => bin_shl 256 (by decide) (by decide) rfl w)) ?_
  refine TS.val rfl rfl rfl (gives_bin rfl rfl rfl (fun w => bin_bits (.inr (.inl rfl)) w)) ?_
  refine TS.val rfl rfl rfl (gives_move rfl rfl) ?_
  refine TS.val rfl rfl rfl (gives_move rfl rfl) ?_
  refine TS.val rfl rfl rfl (gives_bin rfl rfl rfl (fun w => bin_mul_ (r := ((4 * i : Nat) : Int)) (by simp only [IntKind.wrap_i64]; omega) w)) ?_
  refine TS.val rfl rfl rfl (gives_bin rfl rfl rfl (fun w => bin_add_ (r := ((4 * i + 3 : Nat) : Int)) (by simp only [IntKind.wrap_i64]; omega) w)) ?_
  refine TS.val rfl rfl rfl (gives_at rfl rfl rfl (fun w => at_byte b0 o 64 c (4 * i + 3) (by omega) w)) ?_
  refine TS.val rfl rfl rfl (gives_load rfl rfl (fun w => rfl) (fun w1 hw => (hw.bel.cell (p := ⟨b0, o + (4 * i + 3), none⟩) hb0).trans hy3)) ?_
  refine TS.val rfl rfl rfl (gives_conv rfl rfl (fun w => conv_fit Tryd.underlying22 Tryd.underlying5 (by simp only [IntKind.wrap_u32]; omega) w)) ?_
  refine TS.val rfl rfl rfl (gives_bin rfl rfl rfl (fun w => bin_bits (.inr (.inl rfl)) w)) ?_
  refine TS.val rfl rfl rfl (gives_at rfl rfl rfl (fun w => at_arr Tryd.underlying111 sz1 _ 0 _ (i) (by omega) w)) ?_
  refine TS.end_ ?_
  refine TL.pstore (k := 0) (vs := [.int .u32 _]) rfl rfl rfl rfl rfl rfl rfl sz1 (one1 _) (by rw [arrW_len _ (by rw [w16_len]; omega)]; show 0 + i + 1 ≤ 64; omega) (L' := [.blk g6 111 (arrW (w16 b (i + 1))), .blk g5 111 (arrW keysL), .blk g4 103 [.int .u32 0, .int .u32 0, .int .u32 0, .int .u32 0, .int .u32 0, .int .u32 0, .int .u32 0, .int .u32 0], .blk g2 103 s.cells.toList]) (by rw [or4 y0 y1 y2 y3 hr0 hr1 hr2 hr3, w16_succ, h4, ← arrW_put (w16 b i) _ (w16_len b i) (by omega)]; rfl) ?_
  refine TL.end_ (TX.in_normal (TX.then_ (TC.region ?_)))
  refine TL.val rfl rfl rfl (gives_move rfl rfl) ?_
  refine TL.val rfl rfl rfl (gives_bin rfl rfl rfl (fun w => bin_add_ (r := ((i + 1 : Nat) : Int)) (by simp only [IntKind.wrap_i64]; omega) w)) ?_
  refine TL.val rfl rfl rfl (gives_assign rfl rfl) ?_
  refine TL.end_ ?_
  exact TX.round (⟨i + 1, hi2⟩) (by show 16 - (i + 1) < 16 - i; omega) ⟨rfl, rfl, rfl, rfl, rfl, rfl, trivial⟩ (fun w hw => hw)
 ·have hi2 : i = 16 := by have := of_decide_eq_false hc18; omega
  subst hi2
  refine TC.exit_ (TX.then_exit (TX.then_exit (TX.in_same (TX.then_ (TC.seq_ (TC.seq_ (TC.region ?_)))))))
  refine TL.val rfl rfl rfl (gives_assign rfl rfl) ?_
  refine TL.end_ (TX.then_ (TC.block ?_))
  refine TC.loop_ (α := {j : Nat // j ≤ 48}) (fun x => [(2, .pointer (some ⟨g2, 0, none⟩)), (4, .pointer (some ⟨g4, 0, none⟩)), (5, .pointer (some ⟨g5, 0, none⟩)), (6, .pointer (some ⟨g6, 0, none⟩)), (8, .int .i64 ((16 + x.1 : Nat) : Int))]) (fun x => Pm w [.blk g6 111 (arrW (wList b x.1)), .blk g5 111 (arrW keysL), .blk g4 103 [.int .u32 0, .int .u32 0, .int .u32 0, .int .u32 0, .int .u32 0, .int .u32 0, .int .u32 0, .int .u32 0], .blk g2 103 s.cells.toList]) (fun x => 48 - x.1) (⟨0, Nat.zero_le _⟩) ⟨rfl, rfl, rfl, rfl, rfl, trivial⟩ (fun w hw => hw) ?_
  rintro ⟨j, hj⟩
  dsimp only at hj ⊢
  refine TC.seq_ (TC.seq_ (TC.region ?_))
  refine TL.val rfl rfl rfl (gives_move rfl rfl) ?_
  refine TL.val rfl rfl rfl (gives_bin rfl rfl rfl (fun w => bin_lss w)) ?_
  refine TL.end_ (TX.then_ ?_)
  refine TC.split rfl (fun hc57 => ?_) (fun hc57 => ?_)
  ·have hj2 : j < 48 := by have := of_decide_eq_true hc57; omega
   have hw1 : W32 ((wList b j).getD (j + 1) 0) := wList_w b hb.2 j _
   have hw2 : W32 ((wList b j).getD (14 + j) 0) := wList_w b hb.2 j _
   have hnx := wList_next b j
   refine TC.skip_ (TX.then_ (TC.seq_ (TC.block (TC.seq_ ?_))))
   refine TC.quiet_ (E' := ?_) (by kernel_rfl) (by kernel_rfl) (fun w hw => hw.drawn _) ?_ ?_
   rotate_left
   ·refine TQ.val rfl rfl rfl (gives_move rfl rfl) ?_
    refine TQ.val rfl rfl rfl (gives_bin rfl rfl rfl (fun w => bin_sub_ (r := ((j + 1 : Nat) : Int)) (by simp only [IntKind.wrap_i64]; omega) w)) ?_
    refine TQ.val rfl rfl rfl (gives_at rfl rfl rfl (fun w => at_arr Tryd.underlying111 sz1 _ 0 _ (j + 1) (by omega) w)) ?_
    refine TQ.val rfl rfl rfl (pm_load (k := 0) rfl rfl ag1 rfl (arrW_at (wList b j) (j + 1) (by rw [wList_len]; omega))) ?_
    refine TQ.val rfl rfl rfl (gives_move rfl rfl) ?_
    refine TQ.val rfl rfl rfl (gives_bin rfl rfl rfl (fun w => bin_sub_ (r := ((14 + j : Nat) : Int)) (by simp only [IntKind.wrap_i64]; omega) w)) ?_
    refine TQ.val rfl rfl rfl (gives_at rfl rfl rfl (fun w => at_arr Tryd.underlying111 sz1 _ 0 _ (14 + j) (by omega) w)) ?_
    refine TQ.val rfl rfl rfl (pm_load (k := 0) rfl rfl ag1 rfl (arrW_at (wList b j) (14 + j) (by rw [wList_len]; omega))) ?_
    refine TQ.val rfl rfl rfl (gives_assign rfl rfl) ?_
    refine TQ.val rfl rfl rfl (gives_assign rfl rfl) ?_
    exact TQ.end_
   refine TX.then_ ?_
   refine TC.held (ls := #[false, false, false, false, false, false, false, false, false, false, false, false, false, false, false, false, false, false, false, false, false, false, false, false, false, false, false, false, false, false]) (fun w1 => ∀ i, i < 16 + j → w1.cell? ⟨g6, i, none⟩ = some (.int .u32 ((wList b j).getD i 0))) (by kernel_rfl) rfl rfl (fun w hw => hw.drawn _) ?_
   refine TH.take (listed' := #[true, false, false, false, false, false, false, false, false, false, false, false, false, false, false, false, false, false, false, false, false, false, false, false, false, false, false, false, false, false]) 0 rfl (by kernel_rfl) (by kernel_rfl) (by kernel_rfl) rfl rfl rfl rfl (gives_move rfl rfl) (fun w1 hw i hi => (hw.cell (k := 0) rfl i).trans (by have := arrW_at (wList b j) i (by rw [wList_len]; omega); rwa [Nat.zero_add] at this)) ?_
   refine TH.take (listed' := #[true, true, false, false, false, false, false, false, false, false, false, false, false, false, false, false, false, false, false, false, false, false, false, false, false, false, false, false, false, false]) 1 rfl (by kernel_rfl) (by kernel_rfl) (by kernel_rfl) rfl rfl rfl rfl (gives_move rfl rfl) (fun w1 hw i hi => (hw.cell (k := 0) rfl i).trans (by have := arrW_at (wList b j) i (by rw [wList_len]; omega); rwa [Nat.zero_add] at this)) ?_
   refine TH.take (listed' := #[true, true, true, false, false, false, false, false, false, false, false, false, false, false, false, false, false, false, false, false, false, false, false, false, false, false, false, false, false, false]) 2 rfl (by kernel_rfl) (by kernel_rfl) (by kernel_rfl) rfl rfl rfl rfl (gives_bin rfl rfl rfl (fun w => bin_sub_ (r := ((j : Nat) : Int)) (by simp only [IntKind.wrap_i64]; omega) w)) (fun w1 hw i hi => (hw.cell (k := 0) rfl i).trans (by have := arrW_at (wList b j) i (by rw [wList_len]; omega); rwa [Nat.zero_add] at this)) ?_
   refine TH.take (listed' := #[true, true, true, true, false, false, false, false, false, false, false, false, false, false, false, false, false, false, false, false, false, false, false, false, false, false, false, false, false, false]) 3 rfl (by kernel_rfl) (by kernel_rfl) (by kernel_rfl) rfl rfl rfl rfl (gives_at rfl rfl rfl (fun w => at_arr Tryd.underlying111 sz1 _ 0 _ (j) (by omega) w)) (fun w1 hw i hi => (hw.cell (k := 0) rfl i).trans (by have := arrW_at (wList b j) i (by rw [wList_len]; omega); rwa [Nat.zero_add] at this)) ?_
   refine TH.take (listed' := #[true, true, true, true, true, false, false, false, false, false, false, false, false, false, false, false, false, false, false, false, false, false, false, false, false, false, false, false, false, false]) 4 rfl (by kernel_rfl) (by kernel_rfl) (by kernel_rfl) rfl rfl rfl rfl (gives_load rfl rfl ag1 (fun w hw => hw _ (by omega))) (fun w1 hw i hi => (hw.cell (k := 0) rfl i).trans (by have := arrW_at (wList b j) i (by rw [wList_len]; omega); rwa [Nat.zero_add] at this)) ?_
   refine TH.take (listed' := #[true, true, true, true, true, true, false, false, false, false, false, false, false, false, false, false, false, false, false, false, false, false, false, false, false, false, false, false, false, false]) 5 rfl (by kernel_rfl) (by kernel_rfl) (by kernel_rfl) rfl rfl rfl rfl (gives_move rfl rfl) (fun w1 hw i hi => (hw.cell (k := 0) rfl i).trans (by have := arrW_at (wList b j) i (by rw [wList_len]; omega); rwa [Nat.zero_add] at this)) ?_
   refine TH.take (listed' := #[true, true, true, true, true, true, false, true, false, false, false, false, false, false, false, false, false, false, false, false, false, false, false, false, false, false, false, false, false, false]) 7 rfl (by kernel_rfl) (by kernel_rfl) (by kernel_rfl) rfl rfl rfl rfl (gives_move rfl rfl) (fun w1 hw i hi => (hw.cell (k := 0) rfl i).trans (by have := arrW_at (wList b j) i (by rw [wList_len]; omega); rwa [Nat.zero_add] at this)) ?_
   refine TH.take (listed' := #[true, true, true, true, true, true, false, true, false, false, true, false, false, false, false, false, false, false, false, false, false, false, false, false, false, false, false, false, false, false]) 10 rfl (by kernel_rfl) (by kernel_rfl) (by kernel_rfl) rfl rfl rfl rfl (gives_move rfl rfl) (fun w1 hw i hi => (hw.cell (k := 0) rfl i).trans (by have := arrW_at (wList b j) i (by rw [wList_len]; omega); rwa [Nat.zero_add] at this)) ?_
   refine TH.take (listed' := #[true, true, true, true, true, true, false, true, false, false, true, true, false, false, false, false, false, false, false, false, false, false, false, false, false, false, false, false, false, false]) 11 rfl (by kernel_rfl) (by kernel_rfl) (by kernel_rfl) rfl rfl rfl rfl (gives_bin rfl rfl rfl (fun w => bin_shr (2 ^ 3) (by decide) (by decide) rfl w)) (fun w1 hw i hi => (hw.cell (k := 0) rfl i).trans (by have := arrW_at (wList b j) i (by rw [wList_len]; omega); rwa [Nat.zero_add] at this)) ?_
   refine TH.take (listed' := #[true, true, true, true, true, true, false, true, false, false, true, true, false, false, true, false, false, false, false, false, false, false, false, false, false, false, false, false, false, false]) 14 rfl (by kernel_rfl) (by kernel_rfl) (by kernel_rfl) rfl rfl rfl rfl (gives_move rfl rfl) (fun w1 hw i hi => (hw.cell (k := 0) rfl i).trans (by have := arrW_at (wList b j) i (by rw [wList_len]; omega); rwa [Nat.zero_add] at this)) ?_
   refine TH.take (listed' := #[true, true, true, true, true, true, false, true, false, false, true, true, false, false, true, true, false, false, false, false, false, false, false, false, false, false, false, false, false, false]) 15 rfl (by kernel_rfl) (by kernel_rfl) (by kernel_rfl) rfl rfl rfl rfl (gives_bin rfl rfl rfl (fun w => bin_sub_ (r := ((9 + j : Nat) : Int)) (by simp only [IntKind.wrap_i64]; omega) w)) (fun w1 hw i hi => (hw.cell (k := 0) rfl i).trans (by have := arrW_at (wList b j) i (by rw [wList_len]; omega); rwa [Nat.zero_add] at this)) ?_
   refine TH.take (listed' := #[true, true, true, true, true, true, false, true, false, false, true, true, false, false, true, true, true, false, false, false, false, false, false, false, false, false, false, false, false, false]) 16 rfl (by kernel_rfl) (by kernel_rfl) (by kernel_rfl) rfl rfl rfl rfl (gives_at rfl rfl rfl (fun w => at_arr Tryd.underlying111 sz1 _ 0 _ (9 + j) (by omega) w)) (fun w1 hw i hi => (hw.cell (k := 0) rfl i).trans (by have := arrW_at (wList b j) i (by rw [wList_len]; omega); rwa [Nat.zero_add] at this)) ?_
   refine TH.take (listed' := #[true, true, true, true, true, true, false, true, false, false, true, true, false, false, true, true, true, true, false, false, false, false, false, false, false, false, false, false, false, false]) 17 rfl (by kernel_rfl) (by kernel_rfl) (by kernel_rfl) rfl rfl rfl rfl (gives_load rfl rfl ag1 (fun w hw => hw _ (by omega))) (fun w1 hw i hi => (hw.cell (k := 0) rfl i).trans (by have := arrW_at (wList b j) i (by rw [wList_len]; omega); rwa [Nat.zero_add] at this)) ?_
   refine TH.take (listed' := #[true, true, true, true, true, true, false, true, false, false, true, true, false, false, true, true, true, true, false, true, false, false, false, false, false, false, false, false, false, false]) 19 rfl (by kernel_rfl) (by kernel_rfl) (by kernel_rfl) rfl rfl rfl rfl (gives_move rfl rfl) (fun w1 hw i hi => (hw.cell (k := 0) rfl i).trans (by have := arrW_at (wList b j) i (by rw [wList_len]; omega); rwa [Nat.zero_add] at this)) ?_
   refine TH.take (listed' := #[true, true, true, true, true, true, false, true, false, false, true, true, false, false, true, true, true, true, false, true, false, true, false, false, false, false, false, false, false, false]) 21 rfl (by kernel_rfl) (by kernel_rfl) (by kernel_rfl) rfl rfl rfl rfl (gives_move rfl rfl) (fun w1 hw i hi => (hw.cell (k := 0) rfl i).trans (by have := arrW_at (wList b j) i (by rw [wList_len]; omega); rwa [Nat.zero_add] at this)) ?_
   refine TH.take (listed' := #[true, true, true, true, true, true, false, true, false, false, true, true, false, false, true, true, true, true, false, true, false, true, false, false, true, false, false, false, false, false]) 24 rfl (by kernel_rfl) (by kernel_rfl) (by kernel_rfl) rfl rfl rfl rfl (gives_move rfl rfl) (fun w1 hw i hi => (hw.cell (k := 0) rfl i).trans (by have := arrW_at (wList b j) i (by rw [wList_len]; omega); rwa [Nat.zero_add] at this)) ?_
   refine TH.take (listed' := #[true, true, true, true, true, true, false, true, false, false, true, true, false, false, true, true, true, true, false, true, false, true, false, false, true, true, false, false, false, false]) 25 rfl (by kernel_rfl) (by kernel_rfl) (by kernel_rfl) rfl rfl rfl rfl (gives_bin rfl rfl rfl (fun w => bin_shr (2 ^ 10) (by decide) (by decide) rfl w)) (fun w1 hw i hi => (hw.cell (k := 0) rfl i).trans (by have := arrW_at (wList b j) i (by rw [wList_len]; omega); rwa [Nat.zero_add] at this)) ?_
   refine TH.only (listed' := #[true, true, true, true, true, true, true, true, false, false, true, true, false, false, true, true, true, true, false, true, false, true, false, false, true, true, false, false, false, false]) 6 rfl (by kernel_rfl) rfl rfl ?_
   refine TL.pcall1 rfl rfl rfl rfl rfl Tryd.func78 rnmTurn rbdTurn (fun w hw => (rturn_7 _ hw1 w).mono (fun e w2 ⟨he, q, hq⟩ => ⟨he, hq ▸ below_drewN (Below.refl _ _) q⟩)) ?_
   refine TL.end_ ?_
   refine TX.held (fun w1 hw i hi => (hw.cell (k := 0) rfl i).trans (by have := arrW_at (wList b j) i (by rw [wList_len]; omega); rwa [Nat.zero_add] at this)) ?_
   refine TH.only (listed' := #[true, true, true, true, true, true, true, true, true, false, true, true, false, false, true, true, true, true, false, true, false, true, false, false, true, true, false, false, false, false]) 8 rfl (by kernel_rfl) rfl rfl ?_
   refine TL.pcall1 rfl rfl rfl rfl rfl Tryd.func78 rnmTurn rbdTurn (fun w hw => (rturn_18 _ hw1 w).mono (fun e w2 ⟨he, q, hq⟩ => ⟨he, hq ▸ below_drewN (Below.refl _ _) q⟩)) ?_
   refine TL.end_ ?_
   refine TX.held (fun w1 hw i hi => (hw.cell (k := 0) rfl i).trans (by have := arrW_at (wList b j) i (by rw [wList_len]; omega); rwa [Nat.zero_add] at this)) ?_
   refine TH.take (listed' := #[true, true, true, true, true, true, true, true, true, true, true, true, false, false, true, true, true, true, false, true, false, true, false, false, true, true, false, false, false, false]) 9 rfl (by kernel_rfl) (by kernel_rfl) (by kernel_rfl) rfl rfl rfl rfl (gives_bin rfl rfl rfl (fun w => bin_bits (.inr (.inr rfl)) w)) (fun w1 hw i hi => (hw.cell (k := 0) rfl i).trans (by have := arrW_at (wList b j) i (by rw [wList_len]; omega); rwa [Nat.zero_add] at this)) ?_
   refine TH.take (listed' := #[true, true, true, true, true, true, true, true, true, true, true, true, true, false, true, true, true, true, false, true, false, true, false, false, true, true, false, false, false, false]) 12 rfl (by kernel_rfl) (by kernel_rfl) (by kernel_rfl) rfl rfl rfl rfl (gives_bin rfl rfl rfl (fun w => bin_bits (.inr (.inr rfl)) w)) (fun w1 hw i hi => (hw.cell (k := 0) rfl i).trans (by have := arrW_at (wList b j) i (by rw [wList_len]; omega); rwa [Nat.zero_add] at this)) ?_
   refine TH.take (listed' := #[true, true, true, true, true, true, true, true, true, true, true, true, true, true, true, true, true, true, false, true, false, true, false, false, true, true, false, false, false, false]) 13 rfl (by kernel_rfl) (by kernel_rfl) (by kernel_rfl) rfl rfl rfl rfl (gives_bin rfl rfl rfl (fun w => bin_add w)) (fun w1 hw i hi => (hw.cell (k := 0) rfl i).trans (by have := arrW_at (wList b j) i (by rw [wList_len]; omega); rwa [Nat.zero_add] at this)) ?_
   refine TH.take (listed' := #[true, true, true, true, true, true, true, true, true, true, true, true, true, true, true, true, true, true, true, true, false, true, false, false, true, true, false, false, false, false]) 18 rfl (by kernel_rfl) (by kernel_rfl) (by kernel_rfl) rfl rfl rfl rfl (gives_bin rfl rfl rfl (fun w => bin_add w)) (fun w1 hw i hi => (hw.cell (k := 0) rfl i).trans (by have := arrW_at (wList b j) i (by rw [wList_len]; omega); rwa [Nat.zero_add] at this)) ?_
   refine TH.only (listed' := #[true, true, true, true, true, true, true, true, true, true, true, true, true, true, true, true, true, true, true, true, true, true, false, false, true, true, false, false, false, false]) 20 rfl (by kernel_rfl) rfl rfl ?_
   refine TL.pcall1 rfl rfl rfl rfl rfl Tryd.func78 rnmTurn rbdTurn (fun w hw => (rturn_17 _ hw2 w).mono (fun e w2 ⟨he, q, hq⟩ => ⟨he, hq ▸ below_drewN (Below.refl _ _) q⟩)) ?_
   refine TL.end_ ?_
   refine TX.held (fun w1 hw i hi => (hw.cell (k := 0) rfl i).trans (by have := arrW_at (wList b j) i (by rw [wList_len]; omega); rwa [Nat.zero_add] at this)) ?_
   refine TH.only (listed' := #[true, true, true, true, true, true, true, true, true, true, true, true, true, true, true, true, true, true, true, true, true, true, true, false, true, true, false, false, false, false]) 22 rfl (by kernel_rfl) rfl rfl ?_
   refine TL.pcall1 rfl rfl rfl rfl rfl Tryd.func78 rnmTurn rbdTurn (fun w hw => (rturn_19 _ hw2 w).mono (fun e w2 ⟨he, q, hq⟩ => ⟨he, hq ▸ below_drewN (Below.refl _ _) q⟩)) ?_
   refine TL.end_ ?_
   refine TX.held (fun w1 hw i hi => (hw.cell (k := 0) rfl i).trans (by have := arrW_at (wList b j) i (by rw [wList_len]; omega); rwa [Nat.zero_add] at this)) ?_
   refine TH.take (listed' := #[true, true, true, true, true, true, true, true, true, true, true, true, true, true, true, true, true, true, true, true, true, true, true, true, true, true, false, false, false, false]) 23 rfl (by kernel_rfl) (by kernel_rfl) (by kernel_rfl) rfl rfl rfl rfl (gives_bin rfl rfl rfl (fun w => bin_bits (.inr (.inr rfl)) w)) (fun w1 hw i hi => (hw.cell (k := 0) rfl i).trans (by have := arrW_at (wList b j) i (by rw [wList_len]; omega); rwa [Nat.zero_add] at this)) ?_
   refine TH.take (listed' := #[true, true, true, true, true, true, true, true, true, true, true, true, true, true, true, true, true, true, true, true, true, true, true, true, true, true, true, false, false, false]) 26 rfl (by kernel_rfl) (by kernel_rfl) (by kernel_rfl) rfl rfl rfl rfl (gives_bin rfl rfl rfl (fun w => bin_bits (.inr (.inr rfl)) w)) (fun w1 hw i hi => (hw.cell (k := 0) rfl i).trans (by have := arrW_at (wList b j) i (by rw [wList_len]; omega); rwa [Nat.zero_add] at this)) ?_
   refine TH.take (listed' := #[true, true, true, true, true, true, true, true, true, true, true, true, true, true, true, true, true, true, true, true, true, true, true, true, true, true, true, true, false, false]) 27 rfl (by kernel_rfl) (by kernel_rfl) (by kernel_rfl) rfl rfl rfl rfl (gives_bin rfl rfl rfl (fun w => bin_add w)) (fun w1 hw i hi => (hw.cell (k := 0) rfl i).trans (by have := arrW_at (wList b j) i (by rw [wList_len]; omega); rwa [Nat.zero_add] at this)) ?_
   refine TH.take (listed' := #[true, true, true, true, true, true, true, true, true, true, true, true, true, true, true, true, true, true, true, true, true, true, true, true, true, true, true, true, true, false]) 28 rfl (by kernel_rfl) (by kernel_rfl) (by kernel_rfl) rfl rfl rfl rfl (gives_at rfl rfl rfl (fun w => at_arr Tryd.underlying111 sz1 _ 0 _ (16 + j) (by omega) w)) (fun w1 hw i hi => (hw.cell (k := 0) rfl i).trans (by have := arrW_at (wList b j) i (by rw [wList_len]; omega); rwa [Nat.zero_add] at this)) ?_
   refine TH.only (listed' := #[true, true, true, true, true, true, true, true, true, true, true, true, true, true, true, true, true, true, true, true, true, true, true, true, true, true, true, true, true, true]) 29 rfl (by kernel_rfl) rfl rfl ?_
   refine TL.pstore (k := 0) (vs := [.int .u32 _]) rfl rfl rfl rfl rfl rfl rfl sz1 (one1 _) (by rw [arrW_len _ (by rw [wList_len]; omega)]; show 0 + (16 + j) + 1 ≤ 64; omega) (L' := [.blk g6 111 (arrW (wList b (j + 1))), .blk g5 111 (arrW keysL), .blk g4 103 [.int .u32 0, .int .u32 0, .int .u32 0, .int .u32 0, .int .u32 0, .int .u32 0, .int .u32 0, .int .u32 0], .blk g2 103 s.cells.toList]) (by rw [hnx, ← arrW_put (wList b j) _ (wList_len b j) (by omega)]; simp only [Nat.zero_add]; rfl) ?_
   refine TL.end_ ?_
   refine TX.held (fun w1 hw i hi => (hw.cell (k := 0) rfl i).trans (by have := arrW_at (wList b (j + 1)) i (by rw [wList_len]; omega); rw [Nat.zero_add, wList_old b j i hi] at this; exact this)) ?_
   refine TH.done (by kernel_rfl) ?_
   refine TX.in_normal (TX.then_ (TC.region ?_))
   refine TL.val rfl rfl rfl (gives_move rfl rfl) ?_
   refine TL.val rfl rfl rfl (gives_bin rfl rfl rfl (fun w => bin_add_ (r := ((16 + (j + 1) : Nat) : Int)) (by simp only [IntKind.wrap_i64]; omega) w)) ?_
   refine TL.val rfl rfl rfl (gives_assign rfl rfl) ?_
   refine TL.end_ ?_
   exact TX.round (⟨j + 1, hj2⟩) (by show 48 - (j + 1) < 48 - j; omega) ⟨rfl, rfl, rfl, rfl, rfl, trivial⟩ (fun w hw => hw)
  ·have hj2 : j = 48 := by have := of_decide_eq_false hc57; omega
   subst hj2
   obtain ⟨ws, hwsd⟩ : ∃ ws, ws = wList b 48 := ⟨_, rfl⟩
   have hws : ws.length = 64 := by rw [hwsd]; exact wList_len b 48
   have hbk : blockF s b = sumS s (roundsF ws s 64) := by rw [hwsd]; rfl
   rw [hbk, ← hwsd]
   refine TC.exit_ (TX.then_exit (TX.then_exit (TX.in_same (TX.then_ (TC.seq_ (TC.region ?_))))))
   refine TL.val rfl rfl rfl (pm_loadAgg (k := 3) (n := 8) rfl rfl rag8 rsz8 rfl (Nat.le_refl 8)) ?_
   refine TL.pnew rfl rfl rfl (exec_alloc (cs := [.int .u32 0, .int .u32 0, .int .u32 0, .int .u32 0, .int .u32 0, .int .u32 0, .int .u32 0, .int .u32 0]) rfl rzero8 rfl) (fun g11 => ?_)
   refine TL.pstore (k := 0) (vs := s.cells.toList) rfl rfl rfl rfl rfl rfl rfl rsz8 (one8 _ _ _ _ _ _ _ _) (Nat.le_refl 8) (L' := [.blk g11 103 s.cells.toList, .blk g6 111 (arrW (ws)), .blk g5 111 (arrW keysL), .blk g4 103 [.int .u32 0, .int .u32 0, .int .u32 0, .int .u32 0, .int .u32 0, .int .u32 0, .int .u32 0, .int .u32 0], .blk g2 103 s.cells.toList]) rfl ?_
   refine TL.end_ (TX.then_ (TC.seq_ (TC.seq_ (TC.region ?_))))
   refine TL.val rfl rfl rfl (gives_assign rfl rfl) ?_
   refine TL.end_ (TX.then_ (TC.block ?_))
   refine TC.loop_ (α := {i : Nat // i ≤ 64}) (fun x => [(2, .pointer (some ⟨g2, 0, none⟩)), (4, .pointer (some ⟨g4, 0, none⟩)), (5, .pointer (some ⟨g5, 0, none⟩)), (6, .pointer (some ⟨g6, 0, none⟩)), (11, .pointer (some ⟨g11, 0, none⟩)), (12, .int .i64 (x.1 : Int))]) (fun x => Pm w [.blk g11 103 (roundsF ws s x.1).cells.toList, .blk g6 111 (arrW (ws)), .blk g5 111 (arrW keysL), .blk g4 103 [.int .u32 0, .int .u32 0, .int .u32 0, .int .u32 0, .int .u32 0, .int .u32 0, .int .u32 0, .int .u32 0], .blk g2 103 s.cells.toList]) (fun x => 64 - x.1) (⟨0, Nat.zero_le _⟩) ⟨rfl, rfl, rfl, rfl, rfl, rfl, trivial⟩ (fun w hw => hw) ?_
   rintro ⟨i, hi⟩
   dsimp only at hi ⊢
   refine TC.seq_ (TC.seq_ (TC.region ?_))
   refine TL.val rfl rfl rfl (gives_move rfl rfl) ?_
   refine TL.val rfl rfl rfl (gives_bin rfl rfl rfl (fun w => bin_lss w)) ?_
   refine TL.end_ (TX.then_ ?_)
   refine TC.split rfl (fun hc99 => ?_) (fun hc99 => ?_)
   ·have hi2 : i < 64 := by have := of_decide_eq_true hc99; omega
    have hx := roundsF_ok ws s hok i
    have hnx : roundsF ws s (i + 1) = roundF (roundsF ws s i) (keysL.getD i 0) (ws.getD i 0) := rfl
    generalize roundsF ws s i = x at *
    obtain ⟨xa, xb, xc, xd, xe, xf, xg, xh⟩ := x
    obtain ⟨oa, ob, oc, od, oe, of', og, oh⟩ := hx
    refine TC.skip_ (TX.then_ (TC.seq_ (TC.block (TC.seq_ ?_))))
    refine TC.quiet_ (E' := ?_) (by kernel_rfl) (by kernel_rfl) (fun w hw => hw.drawn _) ?_ ?_
    rotate_left
    ·refine TQ.val rfl rfl rfl (gives_at rfl rfl rfl (fun w => at_arr Tryd.underlying103 sz1 _ 0 _ (7) (by decide) w)) ?_
     refine TQ.val rfl rfl rfl (pm_load (k := 0) rfl rfl ag1 rfl rfl) ?_
     refine TQ.val rfl rfl rfl (gives_at rfl rfl rfl (fun w => at_arr Tryd.underlying103 sz1 _ 0 _ (4) (by decide) w)) ?_
     refine TQ.val rfl rfl rfl (pm_load (k := 0) rfl rfl ag1 rfl rfl) ?_
     refine TQ.call rfl rfl rfl rfl rfl Tryd.func78 rnmTurn rbdTurn (fun w hw => (rturn_6 _ oe w).mono (fun e w2 ⟨he, q, hq⟩ => ⟨he, hq ▸ pm_drewN hw q⟩)) ?_
     refine TQ.val rfl rfl rfl (gives_at rfl rfl rfl (fun w => at_arr Tryd.underlying103 sz1 _ 0 _ (4) (by decide) w)) ?_
     refine TQ.val rfl rfl rfl (pm_load (k := 0) rfl rfl ag1 rfl rfl) ?_
     refine TQ.call rfl rfl rfl rfl rfl Tryd.func78 rnmTurn rbdTurn (fun w hw => (rturn_11 _ oe w).mono (fun e w2 ⟨he, q, hq⟩ => ⟨he, hq ▸ pm_drewN hw q⟩)) ?_
     refine TQ.val rfl rfl rfl (gives_bin rfl rfl rfl (fun w => bin_bits (.inr (.inr rfl)) w)) ?_
     refine TQ.val rfl rfl rfl (gives_at rfl rfl rfl (fun w => at_arr Tryd.underlying103 sz1 _ 0 _ (4) (by decide) w)) ?_
     refine TQ.val rfl rfl rfl (pm_load (k := 0) rfl rfl ag1 rfl rfl) ?_
     refine TQ.call rfl rfl rfl rfl rfl Tryd.func78 rnmTurn rbdTurn (fun w hw => (rturn_25 _ oe w).mono (fun e w2 ⟨he, q, hq⟩ => ⟨he, hq ▸ pm_drewN hw q⟩)) ?_
     refine TQ.val rfl rfl rfl (gives_bin rfl rfl rfl (fun w => bin_bits (.inr (.inr rfl)) w)) ?_
     refine TQ.val rfl rfl rfl (gives_bin rfl rfl rfl (fun w => bin_add w)) ?_
     refine TQ.val rfl rfl rfl (gives_at rfl rfl rfl (fun w => at_arr Tryd.underlying103 sz1 _ 0 _ (4) (by decide) w)) ?_
     refine TQ.val rfl rfl rfl (pm_load (k := 0) rfl rfl ag1 rfl rfl) ?_
     refine TQ.val rfl rfl rfl (gives_at rfl rfl rfl (fun w => at_arr Tryd.underlying103 sz1 _ 0 _ (5) (by decide) w)) ?_
     refine TQ.val rfl rfl rfl (pm_load (k := 0) rfl rfl ag1 rfl rfl) ?_
     refine TQ.val rfl rfl rfl (gives_bin rfl rfl rfl (fun w => bin_bits (.inl rfl) w)) ?_
     refine TQ.val rfl rfl rfl (gives_at rfl rfl rfl (fun w => at_arr Tryd.underlying103 sz1 _ 0 _ (4) (by decide) w)) ?_
     refine TQ.val rfl rfl rfl (pm_load (k := 0) rfl rfl ag1 rfl rfl) ?_
     refine TQ.val rfl rfl rfl (gives_not rfl rfl) ?_
     refine TQ.val rfl rfl rfl (gives_at rfl rfl rfl (fun w => at_arr Tryd.underlying103 sz1 _ 0 _ (6) (by decide) w)) ?_
     refine TQ.val rfl rfl rfl (pm_load (k := 0) rfl rfl ag1 rfl rfl) ?_
     refine TQ.val rfl rfl rfl (gives_bin rfl rfl rfl (fun w => bin_bits (.inl rfl) w)) ?_
     refine TQ.val rfl rfl rfl (gives_bin rfl rfl rfl (fun w => bin_bits (.inr (.inr rfl)) w)) ?_
     refine TQ.val rfl rfl rfl (gives_bin rfl rfl rfl (fun w => bin_add w)) ?_
     refine TQ.val rfl rfl rfl (gives_move rfl rfl) ?_
     refine TQ.val rfl rfl rfl (gives_at rfl rfl rfl (fun w => at_arr Tryd.underlying111 sz1 _ 0 _ (i) (by omega) w)) ?_
     refine TQ.val rfl rfl rfl (pm_load (k := 2) rfl rfl ag1 rfl (arrW_at keysL i (by rw [keysL_len]; omega))) ?_
     refine TQ.val rfl rfl rfl (gives_bin rfl rfl rfl (fun w => bin_add w)) ?_
     refine TQ.val rfl rfl rfl (gives_move rfl rfl) ?_
     refine TQ.val rfl rfl rfl (gives_at rfl rfl rfl (fun w => at_arr Tryd.underlying111 sz1 _ 0 _ (i) (by omega) w)) ?_
     refine TQ.val rfl rfl rfl (pm_load (k := 1) rfl rfl ag1 rfl (arrW_at ws i (by omega))) ?_
     refine TQ.val rfl rfl rfl (gives_bin rfl rfl rfl (fun w => bin_add w)) ?_
     refine TQ.val rfl rfl rfl (gives_assign rfl rfl) ?_
     exact TQ.end_
    refine TX.then_ (TC.seq_ ?_)
    refine TC.quiet_ (E' := ?_) (by kernel_rfl) (by kernel_rfl) (fun w hw => hw.drawn _) ?_ ?_
    rotate_left
    ·refine TQ.val rfl rfl rfl (gives_at rfl rfl rfl (fun w => at_arr Tryd.underlying103 sz1 _ 0 _ (0) (by decide) w)) ?_
     refine TQ.val rfl rfl rfl (pm_load (k := 0) rfl rfl ag1 rfl rfl) ?_
     refine TQ.call rfl rfl rfl rfl rfl Tryd.func78 rnmTurn rbdTurn (fun w hw => (rturn_2 _ oa w).mono (fun e w2 ⟨he, q, hq⟩ => ⟨he, hq ▸ pm_drewN hw q⟩)) ?_
     refine TQ.val rfl rfl rfl (gives_at rfl rfl rfl (fun w => at_arr Tryd.underlying103 sz1 _ 0 _ (0) (by decide) w)) ?_
     refine TQ.val rfl rfl rfl (pm_load (k := 0) rfl rfl ag1 rfl rfl) ?_
     refine TQ.call rfl rfl rfl rfl rfl Tryd.func78 rnmTurn rbdTurn (fun w hw => (rturn_13 _ oa w).mono (fun e w2 ⟨he, q, hq⟩ => ⟨he, hq ▸ pm_drewN hw q⟩)) ?_
     refine TQ.val rfl rfl rfl (gives_bin rfl rfl rfl (fun w => bin_bits (.inr (.inr rfl)) w)) ?_
     refine TQ.val rfl rfl rfl (gives_at rfl rfl rfl (fun w => at_arr Tryd.underlying103 sz1 _ 0 _ (0) (by decide) w)) ?_
     refine TQ.val rfl rfl rfl (pm_load (k := 0) rfl rfl ag1 rfl rfl) ?_
     refine TQ.call rfl rfl rfl rfl rfl Tryd.func78 rnmTurn rbdTurn (fun w hw => (rturn_22 _ oa w).mono (fun e w2 ⟨he, q, hq⟩ => ⟨he, hq ▸ pm_drewN hw q⟩)) ?_
     refine TQ.val rfl rfl rfl (gives_bin rfl rfl rfl (fun w => bin_bits (.inr (.inr rfl)) w)) ?_
     refine TQ.val rfl rfl rfl (gives_at rfl rfl rfl (fun w => at_arr Tryd.underlying103 sz1 _ 0 _ (0) (by decide) w)) ?_
     refine TQ.val rfl rfl rfl (pm_load (k := 0) rfl rfl ag1 rfl rfl) ?_
     refine TQ.val rfl rfl rfl (gives_at rfl rfl rfl (fun w => at_arr Tryd.underlying103 sz1 _ 0 _ (1) (by decide) w)) ?_
     refine TQ.val rfl rfl rfl (pm_load (k := 0) rfl rfl ag1 rfl rfl) ?_
     refine TQ.val rfl rfl rfl (gives_bin rfl rfl rfl (fun w => bin_bits (.inl rfl) w)) ?_
     refine TQ.val rfl rfl rfl (gives_at rfl rfl rfl (fun w => at_arr Tryd.underlying103 sz1 _ 0 _ (0) (by decide) w)) ?_
     refine TQ.val rfl rfl rfl (pm_load (k := 0) rfl rfl ag1 rfl rfl) ?_
     refine TQ.val rfl rfl rfl (gives_at rfl rfl rfl (fun w => at_arr Tryd.underlying103 sz1 _ 0 _ (2) (by decide) w)) ?_
     refine TQ.val rfl rfl rfl (pm_load (k := 0) rfl rfl ag1 rfl rfl) ?_
     refine TQ.val rfl rfl rfl (gives_bin rfl rfl rfl (fun w => bin_bits (.inl rfl) w)) ?_
     refine TQ.val rfl rfl rfl (gives_bin rfl rfl rfl (fun w => bin_bits (.inr (.inr rfl)) w)) ?_
     refine TQ.val rfl rfl rfl (gives_at rfl rfl rfl (fun w => at_arr Tryd.underlying103 sz1 _ 0 _ (1) (by decide) w)) ?_
     refine TQ.val rfl rfl rfl (pm_load (k := 0) rfl rfl ag1 rfl rfl) ?_
     refine TQ.val rfl rfl rfl (gives_at rfl rfl rfl (fun w => at_arr Tryd.underlying103 sz1 _ 0 _ (2) (by decide) w)) ?_
     refine TQ.val rfl rfl rfl (pm_load (k := 0) rfl rfl ag1 rfl rfl) ?_
     refine TQ.val rfl rfl rfl (gives_bin rfl rfl rfl (fun w => bin_bits (.inl rfl) w)) ?_
     refine TQ.val rfl rfl rfl (gives_bin rfl rfl rfl (fun w => bin_bits (.inr (.inr rfl)) w)) ?_
     refine TQ.val rfl rfl rfl (gives_bin rfl rfl rfl (fun w => bin_add w)) ?_
     refine TQ.val rfl rfl rfl (gives_assign rfl rfl) ?_
     exact TQ.end_
    refine TX.then_ (TC.region ?_)
    refine TL.val rfl rfl rfl (gives_move rfl rfl) ?_
    refine TL.val rfl rfl rfl (gives_move rfl rfl) ?_
    refine TL.val rfl rfl rfl (gives_bin rfl rfl rfl (fun w => bin_add w)) ?_
    refine TL.val rfl rfl rfl (gives_at rfl rfl rfl (fun w => at_arr Tryd.underlying103 sz1 _ 0 _ (0) (by decide) w)) ?_
    refine TL.val rfl rfl rfl (pm_load (k := 0) rfl rfl ag1 rfl rfl) ?_
    refine TL.val rfl rfl rfl (gives_at rfl rfl rfl (fun w => at_arr Tryd.underlying103 sz1 _ 0 _ (1) (by decide) w)) ?_
    refine TL.val rfl rfl rfl (pm_load (k := 0) rfl rfl ag1 rfl rfl) ?_
    refine TL.val rfl rfl rfl (gives_at rfl rfl rfl (fun w => at_arr Tryd.underlying103 sz1 _ 0 _ (2) (by decide) w)) ?_
    refine TL.val rfl rfl rfl (pm_load (k := 0) rfl rfl ag1 rfl rfl) ?_
    refine TL.val rfl rfl rfl (gives_at rfl rfl rfl (fun w => at_arr Tryd.underlying103 sz1 _ 0 _ (3) (by decide) w)) ?_
    refine TL.val rfl rfl rfl (pm_load (k := 0) rfl rfl ag1 rfl rfl) ?_
    refine TL.val rfl rfl rfl (gives_move rfl rfl) ?_
    refine TL.val rfl rfl rfl (gives_bin rfl rfl rfl (fun w => bin_add w)) ?_
    refine TL.val rfl rfl rfl (gives_at rfl rfl rfl (fun w => at_arr Tryd.underlying103 sz1 _ 0 _ (4) (by decide) w)) ?_
    refine TL.val rfl rfl rfl (pm_load (k := 0) rfl rfl ag1 rfl rfl) ?_
    refine TL.val rfl rfl rfl (gives_at rfl rfl rfl (fun w => at_arr Tryd.underlying103 sz1 _ 0 _ (5) (by decide) w)) ?_
    refine TL.val rfl rfl rfl (pm_load (k := 0) rfl rfl ag1 rfl rfl) ?_
    refine TL.val rfl rfl rfl (gives_at rfl rfl rfl (fun w => at_arr Tryd.underlying103 sz1 _ 0 _ (6) (by decide) w)) ?_
    refine TL.val rfl rfl rfl (pm_load (k := 0) rfl rfl ag1 rfl rfl) ?_
    refine TL.val rfl rfl rfl (gives_build rfl rfl (fun w => rbuild8x _ _ _ _ _ _ _ _ w)) ?_
    refine TL.pstore (k := 0) (vs := (roundF ⟨xa, xb, xc, xd, xe, xf, xg, xh⟩ (keysL.getD i 0) (ws.getD i 0)).cells.toList) rfl rfl rfl rfl rfl rfl rfl rsz8 (one8 _ _ _ _ _ _ _ _) (Nat.le_refl 8) rfl ?_
    refine TL.end_ (TX.in_normal (TX.then_ (TC.region ?_)))
    refine TL.val rfl rfl rfl (gives_move rfl rfl) ?_
    refine TL.val rfl rfl rfl (gives_bin rfl rfl rfl (fun w => bin_add_ (r := ((i + 1 : Nat) : Int)) (by simp only [IntKind.wrap_i64]; omega) w)) ?_
    refine TL.val rfl rfl rfl (gives_assign rfl rfl) ?_
    refine TL.end_ ?_
    exact TX.round (⟨i + 1, hi2⟩) (by show 64 - (i + 1) < 64 - i; omega) ⟨rfl, rfl, rfl, rfl, rfl, rfl, trivial⟩ (fun w1 hw => by rw [hnx]; exact hw)
   ·have hi2 : i = 64 := by have := of_decide_eq_false hc99; omega
    subst hi2
    refine TC.exit_ (TX.then_exit (TX.then_exit (TX.in_same (TX.then_ (TC.seq_ (TC.seq_ (TC.region ?_)))))))
    refine TL.val rfl rfl rfl (gives_assign rfl rfl) ?_
    refine TL.end_ (TX.then_ (TC.block ?_))
    refine TC.loop_ (α := {j : Nat // j ≤ 8}) (fun x => [(2, .pointer (some ⟨g2, 0, none⟩)), (4, .pointer (some ⟨g4, 0, none⟩)), (11, .pointer (some ⟨g11, 0, none⟩)), (15, .int .i64 (x.1 : Int))]) (fun x => Pm w [.blk g11 103 (roundsF ws s 64).cells.toList, .blk g6 111 (arrW (ws)), .blk g5 111 (arrW keysL), .blk g4 103 [.int .u32 0, .int .u32 0, .int .u32 0, .int .u32 0, .int .u32 0, .int .u32 0, .int .u32 0, .int .u32 0], .blk g2 103 (mixC (sumS s (roundsF ws s 64)) s x.1)]) (fun x => 8 - x.1) (⟨0, Nat.zero_le _⟩) ⟨rfl, rfl, rfl, rfl, trivial⟩ (fun w hw => hw) ?_
    rintro ⟨j, hj⟩
    dsimp only at hj ⊢
    refine TC.seq_ (TC.seq_ (TC.region ?_))
    refine TL.val rfl rfl rfl (gives_move rfl rfl) ?_
    refine TL.val rfl rfl rfl (gives_bin rfl rfl rfl (fun w => bin_lss w)) ?_
    refine TL.end_ (TX.then_ ?_)
    refine TC.split rfl (fun hc187 => ?_) (fun hc187 => ?_)
    ·have hj2 : j < 8 := by have := of_decide_eq_true hc187; omega
     refine TC.skip_ (TX.then_ (TC.seq_ (TC.block ?_)))
     refine TC.tail 8 (by kernel_rfl) (by kernel_rfl) (fun w hw => hw.drawn _) ?_
     refine TS.val rfl rfl rfl (gives_move rfl rfl) ?_
     refine TS.val rfl rfl rfl (gives_at rfl rfl rfl (fun w => at_arr Tryd.underlying103 sz1 _ 0 _ (j) hj2 w)) ?_
     refine TS.val rfl rfl rfl (pm_load (k := 4) rfl rfl ag1 rfl (mix_get _ _ j hj2)) ?_
     refine TS.val rfl rfl rfl (gives_move rfl rfl) ?_
     refine TS.val rfl rfl rfl (gives_at rfl rfl rfl (fun w => at_arr Tryd.underlying103 sz1 _ 0 _ (j) hj2 w)) ?_
     refine TS.val rfl rfl rfl (pm_load (k := 0) rfl rfl ag1 rfl (cell_get _ j hj2)) ?_
     refine TS.val rfl rfl rfl (gives_bin rfl rfl rfl (fun w => bin_add w)) ?_
     refine TS.val rfl rfl rfl (gives_at rfl rfl rfl (fun w => at_arr Tryd.underlying103 sz1 _ 0 _ (j) hj2 w)) ?_
     refine TS.end_ ?_
     refine TL.pstore (k := 4) (vs := [.int .u32 _]) rfl rfl rfl rfl rfl rfl rfl sz1 (one1 _) (by rw [mix_len _ _ _ (by omega)]; show 0 + j + 1 ≤ 8; omega) rfl ?_
     refine TL.end_ (TX.in_normal (TX.then_ (TC.region ?_)))
     refine TL.val rfl rfl rfl (gives_move rfl rfl) ?_
     refine TL.val rfl rfl rfl (gives_bin rfl rfl rfl (fun w => bin_add_ (r := ((j + 1 : Nat) : Int)) (by simp only [IntKind.wrap_i64]; omega) w)) ?_
     refine TL.val rfl rfl rfl (gives_assign rfl rfl) ?_
     refine TL.end_ ?_
     exact TX.round (⟨j + 1, hj2⟩) (by show 8 - (j + 1) < 8 - j; omega) ⟨rfl, rfl, rfl, rfl, trivial⟩ (fun w1 hw => by rw [← mix_put s (roundsF ws s 64) j hj2]; exact hw)
    ·have hj2 : j = 8 := by have := of_decide_eq_false hc187; omega
     subst hj2
     refine TC.exit_ (TX.then_exit (TX.then_exit (TX.in_same (TX.then_ (TC.seq_ (TC.region ?_))))))
     refine TL.val rfl rfl rfl (pm_loadAgg (k := 4) (n := 8) rfl rfl rag8 rsz8 rfl (Nat.le_refl 8)) ?_
     refine TL.pstore (k := 3) (vs := (sumS s (roundsF ws s 64)).cells.toList) rfl rfl rfl rfl rfl rfl rfl rsz8 (one8 _ _ _ _ _ _ _ _) (Nat.le_refl 8) rfl ?_
     refine TL.end_ (TX.then_ (TC.ret_ ?_))
     exact pm_ret_cell (k := 3) Tryd.results72 rfl rfl Tryd.underlying103 rfl rfl (fun w1 hw => ⟨rfl, hw.bel⟩)
end Go.Proofs.YtmeaeeehnkcblaaDoor

namespace Go.Proofs.YtmeaeeehnkcblaaDoor
open Go.RowKit
set_option maxRecDepth 20000
theorem rblock_gen (s : S8) (A : Option Addr) (c : Nat) (b : List Int) (w : World) (hok : s.Ok) (hb : Byt w w.heap.size A 64 b) (hc : 64 ≤ c) (hc2 : c ≤ maxLen) :
    Calls Tryd.prog 72 #[.agg s.cells, .slice A 64 c] w fun e w' => e = .returned (.agg (blockF s b).cells) ∧ Below w.heap.size w w' := by
  obtain ⟨b', o', x, rfl, _⟩ := hb.at' (k := 0) (by omega)
  exact rblock_any s hok b' o' c b w hb hc hc2
theorem rsum_all (A : Option Addr) (n c : Nat) (l : List Int) (w : World) (hb : Byt w w.heap.size A n l) (hlim : n + 100 ≤ 140737488355328) :
    Calls Tryd.prog 57 #[.slice A n c] w fun e w' => ∃ A' c', e = .returned (.slice A' 32 c') ∧ 32 ≤ c' ∧ c' ≤ maxLen ∧ w'.ownsRow w.heap.size 5 1 (.slice A' 32 c') 32 (bv (shaF l)) ∧ Below w.heap.size w w' :=
  rsum_any rblock_gen A n c l w hb hlim
end Go.Proofs.YtmeaeeehnkcblaaDoor

namespace Go.Proofs.YtmeaeeehnkcblaaDoor
open Go.RowKit
set_option linter.unusedVariables false
set_option linter.unusedSimpArgs false
set_option maxRecDepth 20000
theorem byt_nil (w : World) : Byt w w.heap.size none 0 [] := ⟨⟨rfl, fun h => absurd h (by omega)⟩, Bs.nil⟩
theorem eq_true {f : FuncId} {vs : Array Value} {w : World} {l : List Int} {P : Program} (h : Calls P f vs w fun e w' => e = .returned (.bool (eqB l l)) ∧ ∃ q, w' = w.drewN q) : Calls P f vs w fun e w' => e = .returned (.bool true) ∧ Below w.heap.size w w' :=
  h.mono fun e w' ⟨he, q, hq⟩ => ⟨by rw [he, show eqB l l = true from decide_eq_true rfl], by subst hq; exact below_drewN (Below.refl _ _) q⟩
theorem nmSum : (Tryd.f54.name == "runtime.NumGoroutine") = false := by decide
theorem bdSum : Tryd.f54.body.isNone = false := rfl
theorem nmRSum : (Tryd.f57.name == "runtime.NumGoroutine") = false := by decide
theorem bdRSum : Tryd.f57.body.isNone = false := rfl
theorem nmEqual : (Tryd.f16.name == "runtime.NumGoroutine") = false := by decide
theorem bdEqual : Tryd.f16.body.isNone = false := rfl
end Go.Proofs.YtmeaeeehnkcblaaDoor

namespace Go.Proofs.YtmeaeeehnkcblaaDoor
open Go.RowKit
set_option linter.unusedVariables false
set_option linter.unusedSimpArgs false
set_option maxRecDepth 20000
theorem mzero64 (w : World) : (zeroValue 91).run Tryd.prog w = .ok (.agg (List.replicate 64 (Value.int .u8 0)).toArray) w := by kernel_rfl
theorem row2s (A B : Option Addr) (n c m d : Nat) (w : World) : (Instr.buildSlice 40 2 #[(0, .slice A n c), (1, .slice B m d)]).run Tryd.prog w = .ok (.slice (some ⟨w.heap.size, 0, none⟩) 2 2) (w.alloc (.cells #[.slice A n c, .slice B m d] 28)) := by kernel_rfl
theorem concat2 (g c : Nat) (A1 : Option Addr) (n1 c1 : Nat) (A2 : Option Addr) (n2 c2 : Nat) (l1 l2 : List Int) (w : World) (hs : Reads w w.heap.size 1 (some ⟨g, 0, none⟩) 2 [.slice A1 n1 c1, .slice A2 n2 c2]) (h1 : Byt w w.heap.size A1 n1 l1) (h2 : Byt w w.heap.size A2 n2 l2) (hlim : n1 + n2 ≤ 140737488355328) :
  Calls Tryd.prog 58 #[.slice (some ⟨g, 0, none⟩) 2 c] w fun e w' => ∃ A' c', e = .returned (.slice A' (n1 + n2) c') ∧ n1 + n2 ≤ c' ∧ c' ≤ maxLen ∧ w'.ownsRow w.heap.size 5 1 (.slice A' (n1 + n2) c') (n1 + n2) (bv (l1 ++ l2)) ∧ Below w.heap.size w w' := by
 have hs1 : sumN [⟨A1, n1, c1, l1⟩, ⟨A2, n2, c2, l2⟩] 2 = n1 + n2 := by simp [sumN]
 have hs2 : catL [⟨A1, n1, c1, l1⟩, ⟨A2, n2, c2, l2⟩] 2 = l1 ++ l2 := by simp [catL]
 have h := concat_any [⟨A1, n1, c1, l1⟩, ⟨A2, n2, c2, l2⟩] g 2 c w hs (by
  intro s hs
  simp only [List.mem_cons, List.not_mem_nil, or_false] at hs
  rcases hs with rfl | rfl
  ·exact h1
  ·exact h2) (by rw [hs1]; exact hlim) (by decide)
 rw [hs1, hs2] at h
 exact h
theorem nmConc : (Tryd.f58.name == "runtime.NumGoroutine") = false := by decide
theorem bdConc : Tryd.f58.body.isNone = false := rfl
set_option maxRecDepth 100000 in
theorem mac_any (A0 : Option Addr) (n0 c0 : Nat) (l0 : List Int) (A1 : Option Addr) (n1 c1 : Nat) (l1 : List Int) (w : World) (hb0 : Byt w w.heap.size A0 n0 l0) (hb1 : Byt w w.heap.size A1 n1 l1) (hlim0 : n0 + 1000 ≤ 140737488355328) (hlim1 : n1 + 1000 ≤ 140737488355328) {ts tk : TypeId} (hst : Blk w 0 ts start8.cells) (hky : Blk w 1 tk (arrOf keysL)) :
  Calls Tryd.prog 30 #[.slice A0 n0 c0, .slice A1 n1 c1] w fun e w' => ∃ A' c', e = .returned (.slice A' 32 c') ∧ 32 ≤ c' ∧ c' ≤ maxLen ∧ w'.ownsRow w.heap.size 5 1 (.slice A' 32 c') 32 (bv (macF l0 l1)) ∧ Below w.heap.size w w' := by
 refine begin_ (vs := [.slice A0 n0 c0, .slice A1 n1 c1]) Tryd.func30 rfl rfl rfl ?_ (Pm.start w)
 refine TC.seq_ (TC.region ?_)
 refine TL.val rfl rfl rfl (gives_assign rfl rfl) ?_
 refine TL.end_ (TX.then_ ?_)
 refine TC.join (α := {x : Sl × List Pc // x.1.l = macKey l0 ∧ ∀ w1, Pm w x.2 w1 → Byt w1 w1.heap.size x.1.A x.1.n x.1.l}) (fun x => [(0, x.1.1.val), (1, .slice A1 n1 c1)]) (fun x => Pm w x.1.2) ?_ ?_
 ·refine TC.seq_ (TC.region ?_)
  refine TL.val rfl rfl rfl (gives_move rfl rfl) ?_
  refine TL.val rfl rfl rfl (gives_len rfl Tryd.underlying28 rfl) ?_
  refine TL.val rfl rfl rfl (gives_bin rfl rfl rfl (fun w => bin_gtr w)) ?_
  refine TL.end_ (TX.then_ ?_)
  refine TC.split rfl (fun hc11 => ?_) (fun hc11 => ?_)
  ·refine TC.region ?_
   refine TL.val rfl rfl rfl (gives_move rfl rfl) ?_
   refine TL.pcallRow (n := 32) (ys := bv (shaF (l0))) rfl rfl rfl rfl rfl Tryd.func54 nmSum bdSum (fun w1 hw => sum_any A0 (n0) c0 (l0) w1 ((hb0.below hw.bel).more hw.bel.size) (by omega) (hst.below hw.bel hst.lt) (hky.below hw.bel hky.lt)) (fun A2 c2 hA21 hA22 => ?_)
   refine TL.val rfl rfl rfl (gives_assign rfl rfl) ?_
   refine TL.end_ ?_
   exact TX.joined (⟨(⟨A2, 32, c2, shaF l0⟩, [.row (.slice A2 32 c2) 5 1 32 (bv (shaF l0))]), by have := of_decide_eq_true hc11; exact (if_pos (by rw [hb0.len]; omega)).symm, fun w1 hw => byt_own (hw.at_ (k := 0) rfl) (shaF_bs _)⟩) (⟨rfl, rfl, trivial⟩) (fun w hw => hw)
  ·refine TC.skip_ ?_
   exact TX.joined (⟨(⟨A0, n0, c0, l0⟩, []), by have := of_decide_eq_false hc11; exact (if_neg (by rw [hb0.len]; omega)).symm, fun w1 hw => (hb0.below hw.bel).more hw.bel.size⟩) (⟨rfl, rfl, trivial⟩) (fun w hw => hw)
 ·rintro ⟨⟨⟨A, n, c, l⟩, X⟩, hl, hX⟩
  dsimp only at hl hX ⊢
  subst hl
  refine TC.fact (p := (macKey l0).length = n) (fun w1 hw => (hX w1 hw).len) (fun hln => ?_)
  have hn64 := macKey_le l0
  rw [hln] at hn64
  have hp : (padK (macKey l0)).length = 64 := padK_len _ (by omega)
  refine TC.seq_ (TC.region ?_)
  refine TL.pnew rfl rfl rfl (exec_alloc (cs := List.replicate 64 (.int .u8 0)) rfl mzero64 rfl) (fun g5 => ?_)
  refine TL.pnew rfl rfl rfl (exec_alloc (cs := List.replicate 64 (.int .u8 0)) rfl mzero64 rfl) (fun g6 => ?_)
  refine TL.end_ (TX.then_ (TC.seq_ (TC.seq_ (TC.region ?_))))
  refine TL.val rfl rfl rfl (gives_move rfl rfl) ?_
  refine TL.end_ (TX.then_ (TC.block ?_))
  refine TC.loop_ (α := {i : Nat // i ≤ 64}) (fun x => [(0, .slice A n c), (1, .slice A1 n1 c1), (5, .pointer (some ⟨g5, 0, none⟩)), (6, .pointer (some ⟨g6, 0, none⟩)), (14, .int .i64 (x.1 : Int))]) (fun x => Pm w (.blk g6 91 (arr64 (xorL (padK (macKey l0)) 92) x.1) :: .blk g5 91 (arr64 (xorL (padK (macKey l0)) 54) x.1) :: X)) (fun x => 64 - x.1) (⟨0, Nat.zero_le _⟩) ⟨rfl, rfl, rfl, rfl, rfl, trivial⟩ (fun w hw => by rw [← arr64_zero, ← arr64_zero]; exact hw) ?_
  rintro ⟨i, hi⟩
  dsimp only at hi ⊢
  refine TC.seq_ (TC.region ?_)
  refine TL.val rfl rfl rfl (gives_bin rfl rfl rfl (fun w => bin_lss w)) ?_
  refine TL.end_ (TX.then_ (TC.seq_ ?_))
  refine TC.split rfl (fun hc15 => ?_) (fun hc15 => ?_)
  ·have hi2 : i < 64 := by have := of_decide_eq_true hc15; omega
   refine TC.skip_ (TX.then_ (TC.seq_ (TC.block (TC.seq_ (TC.region ?_)))))
   refine TL.val rfl rfl rfl (gives_move rfl rfl) ?_
   refine TL.val rfl rfl rfl (gives_assign rfl rfl) ?_
   refine TL.end_ (TX.then_ (TC.seq_ (TC.region ?_)))
   refine TL.val rfl rfl rfl (gives_assign rfl rfl) ?_
   refine TL.end_ (TX.then_ ?_)
   refine TC.join (α := Unit) (fun _ => [(0, .slice A n c), (1, .slice A1 n1 c1), (5, .pointer (some ⟨g5, 0, none⟩)), (6, .pointer (some ⟨g6, 0, none⟩)), (7, .int .i64 (i : Int)), (14, .int .i64 (i : Int)), (8, .int .u8 ((padK (macKey l0)).getD i 0))]) (fun _ => Pm w (.blk g6 91 (arr64 (xorL (padK (macKey l0)) 92) i) :: .blk g5 91 (arr64 (xorL (padK (macKey l0)) 54) i) :: X)) ?_ ?_
   ·refine TC.seq_ (TC.region ?_)
    refine TL.val rfl rfl rfl (gives_move rfl rfl) ?_
    refine TL.val rfl rfl rfl (gives_move rfl rfl) ?_
    refine TL.val rfl rfl rfl (gives_len rfl Tryd.underlying28 rfl) ?_
    refine TL.val rfl rfl rfl (gives_bin rfl rfl rfl (fun w => bin_lss w)) ?_
    refine TL.end_ (TX.then_ ?_)
    refine TC.split rfl (fun hc20 => ?_) (fun hc20 => ?_)
    ·have hi3 : i < n := by have := of_decide_eq_true hc20; omega
     refine TC.fact (p := ∃ b o, A = some ⟨b, o, none⟩) (fun w1 hw => by obtain ⟨b, o, x, h, _⟩ := (hX w1 (Pm.tail (Pm.tail hw))).at' (k := i) hi3; exact ⟨b, o, h⟩) (fun hA => ?_)
     obtain ⟨b, o, rfl⟩ := hA
     obtain ⟨y, hy⟩ : ∃ y, (macKey l0)[i]? = some y := ⟨_, List.getElem?_eq_getElem (by omega)⟩
     refine TC.region ?_
     refine TL.val rfl rfl rfl (gives_move rfl rfl) ?_
     refine TL.val rfl rfl rfl (gives_move rfl rfl) ?_
     refine TL.val rfl rfl rfl (gives_at rfl rfl rfl (fun w => at_u8 b o n c i hi3 w)) ?_
     refine TL.val rfl rfl rfl (gives_load rfl rfl (fun w => rfl) (fun w1 hw => byt_cell_eq (hX w1 (Pm.tail (Pm.tail hw))) hi3 hy)) ?_
     refine TL.val rfl rfl rfl (gives_assign rfl rfl) ?_
     refine TL.end_ ?_
     exact TX.joined (()) (⟨rfl, rfl, rfl, rfl, rfl, rfl, by rw [padK_at _ hy]; rfl, trivial⟩) (fun w hw => hw)
    ·refine TC.skip_ ?_
     exact TX.joined (()) (⟨rfl, rfl, rfl, rfl, rfl, rfl, by rw [padK_out _ (by have := of_decide_eq_false hc20; omega)]; rfl, trivial⟩) (fun w hw => hw)
   ·rintro _
    refine TC.region ?_
    refine TL.val rfl rfl rfl (gives_move rfl rfl) ?_
    refine TL.val rfl rfl rfl (gives_move rfl rfl) ?_
    refine TL.val rfl rfl rfl (gives_move rfl rfl) ?_
    refine TL.val rfl rfl rfl (gives_bin rfl rfl rfl (fun w => bin_bits (.inr (.inr rfl)) w)) ?_
    refine TL.val rfl rfl rfl (gives_move rfl rfl) ?_
    refine TL.val rfl rfl rfl (gives_bin rfl rfl rfl (fun w => bin_bits (.inr (.inr rfl)) w)) ?_
    refine TL.val rfl rfl rfl (gives_at rfl rfl rfl (fun w => at_arr Tryd.underlying91 (fun w => rfl) _ 0 _ i hi2 w)) ?_
    refine TL.pstore (k := 1) (vs := [.int .u8 (bits .xor .u8 ((padK (macKey l0)).getD i 0) 54)]) rfl rfl rfl rfl rfl rfl rfl (fun w => rfl) (by intro u hu; simp only [List.mem_cons, List.not_mem_nil, or_false] at hu; subst hu; rfl) (by rw [arr64_len _ (by rw [xorL_len]; exact hp) hi]; show 0 + i + 1 ≤ 64; omega) (L' := .blk g6 91 (arr64 (xorL (padK (macKey l0)) 92) i) :: .blk g5 91 (arr64 (xorL (padK (macKey l0)) 54) (i + 1)) :: X) (congrArg (fun z => Pc.blk g6 91 (arr64 (xorL (padK (macKey l0)) 92) i) :: Pc.blk g5 91 z :: X) (arr64_put _ (by rw [xorL_len]; exact hp) (xorL_at _ _ (by omega)))) ?_
    refine TL.val rfl rfl rfl (gives_at rfl rfl rfl (fun w => at_arr Tryd.underlying91 (fun w => rfl) _ 0 _ i hi2 w)) ?_
    refine TL.pstore (k := 0) (vs := [.int .u8 (bits .xor .u8 ((padK (macKey l0)).getD i 0) 92)]) rfl rfl rfl rfl rfl rfl rfl (fun w => rfl) (by intro u hu; simp only [List.mem_cons, List.not_mem_nil, or_false] at hu; subst hu; rfl) (by rw [arr64_len _ (by rw [xorL_len]; exact hp) hi]; show 0 + i + 1 ≤ 64; omega) (L' := .blk g6 91 (arr64 (xorL (padK (macKey l0)) 92) (i + 1)) :: .blk g5 91 (arr64 (xorL (padK (macKey l0)) 54) (i + 1)) :: X) (congrArg (fun z => Pc.blk g6 91 z :: Pc.blk g5 91 (arr64 (xorL (padK (macKey l0)) 54) (i + 1)) :: X) (arr64_put _ (by rw [xorL_len]; exact hp) (xorL_at _ _ (by omega)))) ?_
    refine TL.end_ (TX.in_normal (TX.then_ (TC.region ?_)))
    refine TL.val rfl rfl rfl (gives_bin rfl rfl rfl (fun w => bin_add_ (r := ((i + 1 : Nat) : Int)) (by simp only [IntKind.wrap_i64]; omega) w)) ?_
    refine TL.val rfl rfl rfl (gives_move rfl rfl) ?_
    refine TL.end_ ?_
    exact TX.round (⟨i + 1, hi2⟩) (by show 64 - (i + 1) < 64 - i; omega) ⟨rfl, rfl, rfl, rfl, rfl, trivial⟩ (fun w hw => hw)
  ·have hi2 : i = 64 := by have := of_decide_eq_false hc15; omega
   subst hi2
   refine TC.mem (I' := Pm w (.blk g6 91 (bv (xorL (padK (macKey l0)) 92)) :: .blk g5 91 (bv (xorL (padK (macKey l0)) 54)) :: X)) (fun w hw => by rw [arr64_all _ (by rw [xorL_len]; exact hp), arr64_all _ (by rw [xorL_len]; exact hp)] at hw; exact hw) ?_
   refine TC.exit_ (TX.then_exit (TX.then_exit (TX.in_same (TX.then_ (TC.seq_ ?_)))))
   refine TC.held (ls := #[false, false, false, false, false, false, false, false, false, false]) (fun _ => True) (by kernel_rfl) rfl rfl (fun w hw => hw.drawn _) ?_
   refine TH.take (listed' := #[true, false, false, false, false, false, false, false, false, false]) 0 rfl (by kernel_rfl) (by kernel_rfl) (by kernel_rfl) rfl rfl rfl rfl (gives_whole (n := 64) rfl rfl Tryd.underlying91 (by kernel_rfl) (fun w => rfl)) (fun w hw => trivial) ?_
   refine TH.take (listed' := #[true, true, false, false, false, false, false, false, false, false]) 1 rfl (by kernel_rfl) (by kernel_rfl) (by kernel_rfl) rfl rfl rfl rfl (gives_whole (n := 64) rfl rfl Tryd.underlying91 (by kernel_rfl) (fun w => rfl)) (fun w hw => trivial) ?_
   refine TH.take (listed' := #[true, true, true, false, false, false, false, false, false, false]) 2 rfl (by kernel_rfl) (by kernel_rfl) (by kernel_rfl) rfl rfl rfl rfl (gives_move rfl rfl) (fun w hw => trivial) ?_
   refine TH.only (listed' := #[true, true, true, true, false, false, false, false, false, false]) 3 rfl (by kernel_rfl) rfl rfl ?_
   refine TL.prow (cs := [.slice (some ⟨g5, 0, none⟩) 64 64, .slice A1 n1 c1]) rfl rfl rfl rfl rfl (fun w => row2s _ _ _ _ _ _ w) (by decide) rfl (fun g7 => ?_)
   refine TL.end_ ?_
   refine TX.held (fun w hw => trivial) ?_
   refine TH.only (listed' := #[true, true, true, true, true, false, false, false, false, false]) 4 rfl (by kernel_rfl) rfl rfl ?_
   refine TL.pcallRow (n := 64 + n1) (ys := bv ((xorL (padK (macKey l0)) 54) ++ l1)) rfl rfl rfl rfl rfl Tryd.func58 nmConc bdConc (fun w1 hw => concat2 g7 2 _ 64 64 _ n1 _ (xorL (padK (macKey l0)) 54) l1 w1 (Reads.of_own (hw.at_ (k := 0) rfl)) (byt_blk (hw.at_ (k := 2) rfl).1 (xorL_bs _ _) (by rw [xorL_len]; exact hp)) ((hb1.below hw.bel).more hw.bel.size) (by omega)) (fun A3 c3 hA31 hA32 => ?_)
   refine TL.end_ ?_
   refine TX.held (fun w hw => trivial) ?_
   refine TH.only (listed' := #[true, true, true, true, true, true, false, false, false, false]) 5 rfl (by kernel_rfl) rfl rfl ?_
   refine TL.pcallRow (n := 32) (ys := bv (shaF ((xorL (padK (macKey l0)) 54) ++ l1))) rfl rfl rfl rfl rfl Tryd.func54 nmSum bdSum (fun w1 hw => sum_any A3 (64 + n1) c3 ((xorL (padK (macKey l0)) 54) ++ l1) w1 (byt_own (hw.at_ (k := 0) rfl) ((xorL_bs _ _).app hb1.2)) (by omega) (hst.below hw.bel hst.lt) (hky.below hw.bel hky.lt)) (fun A4 c4 hA41 hA42 => ?_)
   refine TL.end_ ?_
   refine TX.held (fun w hw => trivial) ?_
   refine TH.only (listed' := #[true, true, true, true, true, true, true, false, false, false]) 6 rfl (by kernel_rfl) rfl rfl ?_
   refine TL.prow (cs := [.slice (some ⟨g6, 0, none⟩) 64 64, .slice A4 32 c4]) rfl rfl rfl rfl rfl (fun w => row2s _ _ _ _ _ _ w) (by decide) rfl (fun g8 => ?_)
   refine TL.end_ ?_
   refine TX.held (fun w hw => trivial) ?_
   refine TH.only (listed' := #[true, true, true, true, true, true, true, true, false, false]) 7 rfl (by kernel_rfl) rfl rfl ?_
   refine TL.pcallRow (n := 64 + 32) (ys := bv ((xorL (padK (macKey l0)) 92) ++ (shaF ((xorL (padK (macKey l0)) 54) ++ l1)))) rfl rfl rfl rfl rfl Tryd.func58 nmConc bdConc (fun w1 hw => concat2 g8 2 _ 64 64 _ 32 _ (xorL (padK (macKey l0)) 92) (shaF ((xorL (padK (macKey l0)) 54) ++ l1)) w1 (Reads.of_own (hw.at_ (k := 0) rfl)) (byt_blk (hw.at_ (k := 4) rfl).1 (xorL_bs _ _) (by rw [xorL_len]; exact hp)) (byt_own (hw.at_ (k := 1) rfl) (shaF_bs _)) (by omega)) (fun A5 c5 hA51 hA52 => ?_)
   refine TL.end_ ?_
   refine TX.held (fun w hw => trivial) ?_
   refine TH.only (listed' := #[true, true, true, true, true, true, true, true, true, false]) 8 rfl (by kernel_rfl) rfl rfl ?_
   refine TL.pcallRow (n := 32) (ys := bv (shaF ((xorL (padK (macKey l0)) 92) ++ shaF ((xorL (padK (macKey l0)) 54) ++ l1)))) rfl rfl rfl rfl rfl Tryd.func54 nmSum bdSum (fun w1 hw => sum_any A5 (64 + 32) c5 ((xorL (padK (macKey l0)) 92) ++ shaF ((xorL (padK (macKey l0)) 54) ++ l1)) w1 (byt_own (hw.at_ (k := 0) rfl) ((xorL_bs _ _).app (shaF_bs _))) (by decide) (hst.below hw.bel hst.lt) (hky.below hw.bel hky.lt)) (fun A6 c6 hA61 hA62 => ?_)
   refine TL.end_ ?_
   refine TX.held (fun w hw => trivial) ?_
   refine TH.take (listed' := #[true, true, true, true, true, true, true, true, true, true]) 9 rfl (by kernel_rfl) (by kernel_rfl) (by kernel_rfl) rfl rfl rfl rfl (gives_assign rfl rfl) (fun w hw => trivial) ?_
   refine TH.done (by kernel_rfl) ?_
   refine TX.then_ (TC.ret_ ?_)
   exact pm_ret_row (k := 0) Tryd.results30 rfl rfl (fun w1 hown hbel => ⟨A6, c6, rfl, hA61, hA62, hown, hbel⟩)
set_option maxRecDepth 100000 in
theorem rmac_any (A0 : Option Addr) (n0 c0 : Nat) (l0 : List Int) (A1 : Option Addr) (n1 c1 : Nat) (l1 : List Int) (w : World) (hb0 : Byt w w.heap.size A0 n0 l0) (hb1 : Byt w w.heap.size A1 n1 l1) (hlim0 : n0 + 1000 ≤ 140737488355328) (hlim1 : n1 + 1000 ≤ 140737488355328) :
  Calls Tryd.prog 29 #[.slice A0 n0 c0, .slice A1 n1 c1] w fun e w' => ∃ A' c', e = .returned (.slice A' 32 c') ∧ 32 ≤ c' ∧ c' ≤ maxLen ∧ w'.ownsRow w.heap.size 5 1 (.slice A' 32 c') 32 (bv (macF l0 l1)) ∧ Below w.heap.size w w' := by
 refine begin_ (vs := [.slice A0 n0 c0, .slice A1 n1 c1]) Tryd.func29 rfl rfl rfl ?_ (Pm.start w)
 refine TC.seq_ (TC.region ?_)
 refine TL.val rfl rfl rfl (gives_assign rfl rfl) ?_
 refine TL.end_ (TX.then_ (TC.seq_ (TC.region ?_)))
 refine TL.val rfl rfl rfl (gives_move rfl rfl) ?_
 refine TL.nilrow 5 1 ?_
 refine TL.append (k := 0) rfl rfl rfl rfl elU8 rfl rfl rfl (fun w hw => pm_byt hw hb0) (bv_one l0) (by rw [Nat.mul_one]; omega) n0 (by omega) (fun A2 c2 hA21 hA22 => ?_)
 refine TL.val rfl rfl rfl (gives_assign rfl rfl) ?_
 refine TL.end_ (TX.then_ ?_)
 refine TC.join (α := {x : Sl // x.l = macKey l0 ∧ x.l.length = x.n ∧ x.n ≤ x.c ∧ x.c ≤ maxLen}) (fun x => [(5, x.1.val), (1, .slice A1 n1 c1)]) (fun x => Pm w [.row x.1.val 5 1 x.1.n (bv x.1.l)]) ?_ ?_
 ·refine TC.seq_ (TC.region ?_)
  refine TL.val rfl rfl rfl (gives_move rfl rfl) ?_
  refine TL.val rfl rfl rfl (gives_len rfl Tryd.underlying28 rfl) ?_
  refine TL.val rfl rfl rfl (gives_bin rfl rfl rfl (fun w => bin_gtr w)) ?_
  refine TL.end_ (TX.then_ ?_)
  refine TC.split rfl (fun hc13 => ?_) (fun hc13 => ?_)
  ·refine TC.region ?_
   refine TL.val rfl rfl rfl (gives_move rfl rfl) ?_
   refine TL.pcallRow (n := 32) (ys := bv (shaF (l0))) rfl rfl rfl rfl rfl Tryd.func57 nmRSum bdRSum (fun w1 hw => rsum_all A2 (n0) c2 (l0) w1 (byt_own (hw.at_ (k := 0) rfl) hb0.2) (by omega)) (fun A3 c3 hA31 hA32 => ?_)
   refine TL.val rfl rfl rfl (gives_assign rfl rfl) ?_
   refine TL.end_ ?_
   exact TX.joined (⟨⟨A3, 32, c3, shaF l0⟩, by have := of_decide_eq_true hc13; exact (if_pos (by rw [hb0.len]; omega)).symm, shaF_len _, hA31, hA32⟩) (⟨rfl, rfl, trivial⟩) (fun w hw => hw.sel (.cons_cons _ (List.nil_sublist _)))
  ·refine TC.skip_ ?_
   exact TX.joined (⟨⟨A2, n0, c2, l0⟩, by have := of_decide_eq_false hc13; exact (if_neg (by rw [hb0.len]; omega)).symm, hb0.len, hA21, hA22⟩) (⟨rfl, rfl, trivial⟩) (fun w hw => hw)
 ·rintro ⟨⟨A, n, c, l⟩, hl, hln, hcc⟩
  dsimp only at hl hln hcc ⊢
  subst hl
  have hn64 := macKey_le l0
  rw [hln] at hn64
  have hp : (padK (macKey l0)).length = 64 := padK_len _ (by omega)
  refine TC.seq_ (TC.block ?_)
  refine TC.loop_ (α := {x : Nat × Option Addr × Nat // x.1 ≤ 64 - n ∧ n + x.1 ≤ x.2.2 ∧ x.2.2 ≤ maxLen}) (fun x => [(5, .slice x.1.2.1 (n + x.1.1) x.1.2.2), (1, .slice A1 n1 c1)]) (fun x => Pm w [.row (.slice x.1.2.1 (n + x.1.1) x.1.2.2) 5 1 (n + x.1.1) (bv (macKey l0 ++ zeroL x.1.1))]) (fun x => 64 - n - x.1.1) (⟨(0, A, c), Nat.zero_le _, hcc⟩) ⟨rfl, rfl, trivial⟩ (fun w hw => by rw [show macKey l0 ++ zeroL 0 = macKey l0 from List.append_nil _]; exact hw) ?_
  rintro ⟨⟨z, A, c⟩, hz, hcc⟩
  dsimp only at hz hcc ⊢
  refine TC.seq_ (TC.seq_ (TC.region ?_))
  refine TL.val rfl rfl rfl (gives_move rfl rfl) ?_
  refine TL.val rfl rfl rfl (gives_len rfl Tryd.underlying28 rfl) ?_
  refine TL.val rfl rfl rfl (gives_bin rfl rfl rfl (fun w => bin_lss w)) ?_
  refine TL.end_ (TX.then_ ?_)
  refine TC.split rfl (fun hc18 => ?_) (fun hc18 => ?_)
  ·have hz2 : z < 64 - n := by have := of_decide_eq_true hc18; omega
   refine TC.skip_ (TX.then_ (TC.block (TC.region ?_)))
   refine TL.val rfl rfl rfl (gives_move rfl rfl) ?_
   refine TL.prow (cs := [.int .u8 0]) rfl rfl rfl rfl rfl (fun w => row1 _ w) (by decide) rfl (fun g2 => ?_)
   refine TL.append (k := 1) rfl rfl rfl rfl elU8 rfl rfl rfl (fun w hw => pm_reads hw (k := 0) rfl) (one1b _) (by rw [Nat.mul_one]; omega) (n + (z + 1)) (by omega) (fun A4 c4 hA41 hA42 => ?_)
   refine TL.val rfl rfl rfl (gives_assign rfl rfl) ?_
   refine TL.end_ (TX.in_normal ?_)
   exact TX.round (⟨(z + 1, A4, c4), hz2, hA41, hA42⟩) (by show 64 - n - (z + 1) < 64 - n - z; omega) ⟨rfl, rfl, trivial⟩ (fun w hw => by have h := Pm.tail hw; rw [show macKey l0 ++ zeroL (z + 1) = macKey l0 ++ zeroL z ++ [0] by rw [List.append_assoc, zeroL, zeroL, List.replicate_succ'], bv_append]; exact h)
  ·have hz2 : z = 64 - n := by have := of_decide_eq_false hc18; omega
   subst hz2
   have hnz : n + (64 - n) = 64 := by omega
   refine TC.cut [(5, .slice A 64 c), (1, .slice A1 n1 c1)] (Pm w [.row (.slice A 64 c) 5 1 (64) (bv (padK (macKey l0)))]) ⟨by rw [hnz]; rfl, rfl, trivial⟩ (fun w hw => by rw [hnz] at hw; unfold padK; rw [hln]; exact hw) ?_
   refine TC.fact (p := ∃ gk, A = some ⟨gk, 0, none⟩) (fun w1 hw => row_some (hw.at_ (k := 0) rfl) (by omega)) (fun hgk => ?_)
   obtain ⟨gk, rfl⟩ := hgk
   refine TC.exit_ (TX.then_exit (TX.then_exit (TX.in_same (TX.then_ ?_))))
   refine TC.join (α := Nat × Nat) (fun x => [(5, .slice (some ⟨gk, 0, none⟩) 64 c), (1, .slice A1 n1 c1), (6, .slice (some ⟨x.1, 0, none⟩) 64 64), (7, .slice (some ⟨x.2, 0, none⟩) 64 64)]) (fun x => Pm w [.row (.slice (some ⟨x.2, 0, none⟩) 64 64) 5 1 (64) (List.replicate 64 (.int .u8 0)), .row (.slice (some ⟨x.1, 0, none⟩) 64 64) 5 1 (64) (List.replicate 64 (.int .u8 0)), .row (.slice (some ⟨gk, 0, none⟩) 64 c) 5 1 (64) (bv (padK (macKey l0)))]) ?_ ?_
   ·refine TC.held (ls := #[false, false, false, false]) (fun _ => True) (by kernel_rfl) rfl rfl (fun w hw => hw.drawn _) ?_
    refine TH.two (listed1 := #[true, false, false, false]) (listed2 := #[false, true, false, false]) 0 1 rfl rfl (by kernel_rfl) rfl rfl rfl rfl ?_ ?_
    ·refine TL.mkrow (m := 64) rfl rfl rfl rfl rfl rfl elU8 (z := .int .u8 0) (by kernel_rfl) (zs := List.replicate 64 (.int .u8 0)) (made_one _ rfl 64) (by decide) (fun g6 => ?_)
     refine TL.end_ ?_
     refine TX.held (fun w hw => trivial) ?_
     refine TH.take (listed' := #[true, false, true, false]) 2 rfl (by kernel_rfl) (by kernel_rfl) (by kernel_rfl) rfl rfl rfl rfl (gives_assign rfl rfl) (fun w hw => trivial) ?_
     refine TH.only (listed' := #[true, true, true, false]) 1 rfl (by kernel_rfl) rfl rfl ?_
     refine TL.mkrow (m := 64) rfl rfl rfl rfl rfl rfl elU8 (z := .int .u8 0) (by kernel_rfl) (zs := List.replicate 64 (.int .u8 0)) (made_one _ rfl 64) (by decide) (fun g7 => ?_)
     refine TL.end_ ?_
     refine TX.held (fun w hw => trivial) ?_
     refine TH.take (listed' := #[true, true, true, true]) 3 rfl (by kernel_rfl) (by kernel_rfl) (by kernel_rfl) rfl rfl rfl rfl (gives_assign rfl rfl) (fun w hw => trivial) ?_
     refine TH.done (by kernel_rfl) ?_
     exact TX.joined ((g6, g7)) (⟨rfl, rfl, rfl, rfl, trivial⟩) (fun w hw => hw)
    ·refine TL.mkrow (m := 64) rfl rfl rfl rfl rfl rfl elU8 (z := .int .u8 0) (by kernel_rfl) (zs := List.replicate 64 (.int .u8 0)) (made_one _ rfl 64) (by decide) (fun g7 => ?_)
     refine TL.end_ ?_
     refine TX.held (fun w hw => trivial) ?_
     refine TH.only (listed' := #[true, true, false, false]) 0 rfl (by kernel_rfl) rfl rfl ?_
     refine TL.mkrow (m := 64) rfl rfl rfl rfl rfl rfl elU8 (z := .int .u8 0) (by kernel_rfl) (zs := List.replicate 64 (.int .u8 0)) (made_one _ rfl 64) (by decide) (fun g6 => ?_)
     refine TL.end_ ?_
     refine TX.held (fun w hw => trivial) ?_
     refine TH.take (listed' := #[true, true, true, false]) 2 rfl (by kernel_rfl) (by kernel_rfl) (by kernel_rfl) rfl rfl rfl rfl (gives_assign rfl rfl) (fun w hw => trivial) ?_
     refine TH.take (listed' := #[true, true, true, true]) 3 rfl (by kernel_rfl) (by kernel_rfl) (by kernel_rfl) rfl rfl rfl rfl (gives_assign rfl rfl) (fun w hw => trivial) ?_
     refine TH.done (by kernel_rfl) ?_
     exact TX.joined ((g6, g7)) (⟨rfl, rfl, rfl, rfl, trivial⟩) (fun w hw => hw.swap)
   ·rintro ⟨g6, g7⟩
    dsimp only
    refine TC.seq_ (TC.seq_ (TC.region ?_))
    refine TL.val rfl rfl rfl (gives_assign rfl rfl) ?_
    refine TL.end_ (TX.then_ (TC.block ?_))
    refine TC.loop_ (α := {i : Nat // i ≤ 64}) (fun x => [(5, .slice (some ⟨gk, 0, none⟩) 64 c), (1, .slice A1 n1 c1), (6, .slice (some ⟨g6, 0, none⟩) 64 64), (7, .slice (some ⟨g7, 0, none⟩) 64 64), (8, .int .i64 (x.1 : Int))]) (fun x => Pm w [.row (.slice (some ⟨g7, 0, none⟩) 64 64) 5 1 (64) (arr64 (xorL (padK (macKey l0)) 92) x.1), .row (.slice (some ⟨g6, 0, none⟩) 64 64) 5 1 (64) (arr64 (xorL (padK (macKey l0)) 54) x.1), .row (.slice (some ⟨gk, 0, none⟩) 64 c) 5 1 (64) (bv (padK (macKey l0)))]) (fun x => 64 - x.1) (⟨0, Nat.zero_le _⟩) ⟨rfl, rfl, rfl, rfl, rfl, trivial⟩ (fun w hw => by rw [← arr64_zero, ← arr64_zero]; exact hw) ?_
    rintro ⟨i, hi⟩
    dsimp only at hi ⊢
    refine TC.seq_ (TC.seq_ (TC.region ?_))
    refine TL.val rfl rfl rfl (gives_move rfl rfl) ?_
    refine TL.val rfl rfl rfl (gives_bin rfl rfl rfl (fun w => bin_lss w)) ?_
    refine TL.end_ (TX.then_ ?_)
    refine TC.split rfl (fun hc25 => ?_) (fun hc25 => ?_)
    ·have hi2 : i < 64 := by have := of_decide_eq_true hc25; omega
     have hy : (bv (padK (macKey l0)))[0 + i]? = some (.int .u8 ((padK (macKey l0)).getD i 0)) := by rw [Nat.zero_add]; simp only [bv, List.getElem?_map, List.getD_eq_getElem?_getD]; rw [List.getElem?_eq_getElem (by omega)]; rfl
     refine TC.skip_ (TX.then_ (TC.seq_ (TC.block ?_)))
     refine TC.held (ls := #[false, false, false, false, false, false, false, false, false, false, false, false, false, false, false, false, false, false]) (Pm w [.row (.slice (some ⟨gk, 0, none⟩) 64 c) 5 1 (64) (bv (padK (macKey l0)))]) (by kernel_rfl) rfl rfl (fun w hw => hw.drawn _) ?_
     refine TH.take (listed' := #[true, false, false, false, false, false, false, false, false, false, false, false, false, false, false, false, false, false]) 0 rfl (by kernel_rfl) (by kernel_rfl) (by kernel_rfl) rfl rfl rfl rfl (gives_move rfl rfl) (fun w hw => hw.sel (.cons _ (.cons _ (.cons_cons _ (List.nil_sublist _))))) ?_
     refine TH.take (listed' := #[true, true, false, false, false, false, false, false, false, false, false, false, false, false, false, false, false, false]) 1 rfl (by kernel_rfl) (by kernel_rfl) (by kernel_rfl) rfl rfl rfl rfl (gives_move rfl rfl) (fun w hw => hw.sel (.cons _ (.cons _ (.cons_cons _ (List.nil_sublist _))))) ?_
     refine TH.take (listed' := #[true, true, true, false, false, false, false, false, false, false, false, false, false, false, false, false, false, false]) 2 rfl (by kernel_rfl) (by kernel_rfl) (by kernel_rfl) rfl rfl rfl rfl (gives_move rfl rfl) (fun w hw => hw.sel (.cons _ (.cons _ (.cons_cons _ (List.nil_sublist _))))) ?_
     refine TH.take (listed' := #[true, true, true, true, false, false, false, false, false, false, false, false, false, false, false, false, false, false]) 3 rfl (by kernel_rfl) (by kernel_rfl) (by kernel_rfl) rfl rfl rfl rfl (gives_move rfl rfl) (fun w hw => hw.sel (.cons _ (.cons _ (.cons_cons _ (List.nil_sublist _))))) ?_
     refine TH.take (listed' := #[true, true, true, true, true, false, false, false, false, false, false, false, false, false, false, false, false, false]) 4 rfl (by kernel_rfl) (by kernel_rfl) (by kernel_rfl) rfl rfl rfl rfl (gives_move rfl rfl) (fun w hw => hw.sel (.cons _ (.cons _ (.cons_cons _ (List.nil_sublist _))))) ?_
     refine TH.take (listed' := #[true, true, true, true, true, true, false, false, false, false, false, false, false, false, false, false, false, false]) 5 rfl (by kernel_rfl) (by kernel_rfl) (by kernel_rfl) rfl rfl rfl rfl (gives_move rfl rfl) (fun w hw => hw.sel (.cons _ (.cons _ (.cons_cons _ (List.nil_sublist _))))) ?_
     refine TH.take (listed' := #[true, true, true, true, true, true, true, false, false, false, false, false, false, false, false, false, false, false]) 6 rfl (by kernel_rfl) (by kernel_rfl) (by kernel_rfl) rfl rfl rfl rfl (gives_at rfl rfl rfl (fun w => at_u8 gk 0 64 c i hi2 w)) (fun w hw => hw.sel (.cons _ (.cons _ (.cons_cons _ (List.nil_sublist _))))) ?_
     refine TH.take (listed' := #[true, true, true, true, true, true, true, true, false, false, false, false, false, false, false, false, false, false]) 7 rfl (by kernel_rfl) (by kernel_rfl) (by kernel_rfl) rfl rfl rfl rfl (pm_loadRow (k := 0) (v := .int .u8 ((padK (macKey l0)).getD i 0)) rfl rfl (fun w => rfl) rfl hy) (fun w hw => hw.sel (.cons _ (.cons _ (.cons_cons _ (List.nil_sublist _))))) ?_
     refine TH.take (listed' := #[true, true, true, true, true, true, true, true, true, false, false, false, false, false, false, false, false, false]) 8 rfl (by kernel_rfl) (by kernel_rfl) (by kernel_rfl) rfl rfl rfl rfl (gives_bin rfl rfl rfl (fun w => bin_bits (.inr (.inr rfl)) w)) (fun w hw => hw.sel (.cons _ (.cons _ (.cons_cons _ (List.nil_sublist _))))) ?_
     refine TH.take (listed' := #[true, true, true, true, true, true, true, true, true, true, false, false, false, false, false, false, false, false]) 9 rfl (by kernel_rfl) (by kernel_rfl) (by kernel_rfl) rfl rfl rfl rfl (gives_move rfl rfl) (fun w hw => hw.sel (.cons _ (.cons _ (.cons_cons _ (List.nil_sublist _))))) ?_
     refine TH.take (listed' := #[true, true, true, true, true, true, true, true, true, true, true, false, false, false, false, false, false, false]) 10 rfl (by kernel_rfl) (by kernel_rfl) (by kernel_rfl) rfl rfl rfl rfl (gives_move rfl rfl) (fun w hw => hw.sel (.cons _ (.cons _ (.cons_cons _ (List.nil_sublist _))))) ?_
     refine TH.take (listed' := #[true, true, true, true, true, true, true, true, true, true, true, true, false, false, false, false, false, false]) 11 rfl (by kernel_rfl) (by kernel_rfl) (by kernel_rfl) rfl rfl rfl rfl (gives_at rfl rfl rfl (fun w => at_u8 gk 0 64 c i hi2 w)) (fun w hw => hw.sel (.cons _ (.cons _ (.cons_cons _ (List.nil_sublist _))))) ?_
     refine TH.take (listed' := #[true, true, true, true, true, true, true, true, true, true, true, true, true, false, false, false, false, false]) 12 rfl (by kernel_rfl) (by kernel_rfl) (by kernel_rfl) rfl rfl rfl rfl (pm_loadRow (k := 0) (v := .int .u8 ((padK (macKey l0)).getD i 0)) rfl rfl (fun w => rfl) rfl hy) (fun w hw => hw.sel (.cons _ (.cons _ (.cons_cons _ (List.nil_sublist _))))) ?_
     refine TH.take (listed' := #[true, true, true, true, true, true, true, true, true, true, true, true, true, true, false, false, false, false]) 13 rfl (by kernel_rfl) (by kernel_rfl) (by kernel_rfl) rfl rfl rfl rfl (gives_bin rfl rfl rfl (fun w => bin_bits (.inr (.inr rfl)) w)) (fun w hw => hw.sel (.cons _ (.cons _ (.cons_cons _ (List.nil_sublist _))))) ?_
     refine TH.take (listed' := #[true, true, true, true, true, true, true, true, true, true, true, true, true, true, true, false, false, false]) 14 rfl (by kernel_rfl) (by kernel_rfl) (by kernel_rfl) rfl rfl rfl rfl (gives_at rfl rfl rfl (fun w => at_u8 g6 0 64 64 i hi2 w)) (fun w hw => hw.sel (.cons _ (.cons _ (.cons_cons _ (List.nil_sublist _))))) ?_
     refine TH.only (listed' := #[true, true, true, true, true, true, true, true, true, true, true, true, true, true, true, true, false, false]) 15 rfl (by kernel_rfl) rfl rfl ?_
     refine TL.rowset (k := 1) (vs := [.int .u8 (bits .xor .u8 ((padK (macKey l0)).getD i 0) 54)]) rfl rfl rfl rfl rfl rfl rfl (fun w => rfl) (by intro u hu; simp only [List.mem_cons, List.not_mem_nil, or_false] at hu; subst hu; rfl) (by rw [arr64_len _ (by rw [xorL_len]; exact hp) hi]; show 0 + i + 1 ≤ 64; omega) (xs' := arr64 (xorL (padK (macKey l0)) 54) (i + 1)) (arr64_put _ (by rw [xorL_len]; exact hp) (xorL_at _ _ (by omega))) ?_
     refine TL.end_ ?_
     refine TX.held (fun w hw => hw.sel (.cons _ (.cons _ (.cons_cons _ (List.nil_sublist _))))) ?_
     refine TH.take (listed' := #[true, true, true, true, true, true, true, true, true, true, true, true, true, true, true, true, true, false]) 16 rfl (by kernel_rfl) (by kernel_rfl) (by kernel_rfl) rfl rfl rfl rfl (gives_at rfl rfl rfl (fun w => at_u8 g7 0 64 64 i hi2 w)) (fun w hw => hw.sel (.cons _ (.cons _ (.cons_cons _ (List.nil_sublist _))))) ?_
     refine TH.only (listed' := #[true, true, true, true, true, true, true, true, true, true, true, true, true, true, true, true, true, true]) 17 rfl (by kernel_rfl) rfl rfl ?_
     refine TL.rowset (k := 0) (vs := [.int .u8 (bits .xor .u8 ((padK (macKey l0)).getD i 0) 92)]) rfl rfl rfl rfl rfl rfl rfl (fun w => rfl) (by intro u hu; simp only [List.mem_cons, List.not_mem_nil, or_false] at hu; subst hu; rfl) (by rw [arr64_len _ (by rw [xorL_len]; exact hp) hi]; show 0 + i + 1 ≤ 64; omega) (xs' := arr64 (xorL (padK (macKey l0)) 92) (i + 1)) (arr64_put _ (by rw [xorL_len]; exact hp) (xorL_at _ _ (by omega))) ?_
     refine TL.end_ ?_
     refine TX.held (fun w hw => hw.sel (.cons _ (.cons _ (.cons_cons _ (List.nil_sublist _))))) ?_
     refine TH.done (by kernel_rfl) ?_
     refine TX.in_normal (TX.then_ (TC.region ?_))
     refine TL.val rfl rfl rfl (gives_move rfl rfl) ?_
     refine TL.val rfl rfl rfl (gives_bin rfl rfl rfl (fun w => bin_add_ (r := ((i + 1 : Nat) : Int)) (by simp only [IntKind.wrap_i64]; omega) w)) ?_
     refine TL.val rfl rfl rfl (gives_assign rfl rfl) ?_
     refine TL.end_ ?_
     exact TX.round (⟨i + 1, hi2⟩) (by show 64 - (i + 1) < 64 - i; omega) ⟨rfl, rfl, rfl, rfl, rfl, trivial⟩ (fun w hw => hw)
    ·have hi2 : i = 64 := by have := of_decide_eq_false hc25; omega
     subst hi2
     refine TC.mem (I' := Pm w [.row (.slice (some ⟨g7, 0, none⟩) 64 64) 5 1 (64) (bv (xorL (padK (macKey l0)) 92)), .row (.slice (some ⟨g6, 0, none⟩) 64 64) 5 1 (64) (bv (xorL (padK (macKey l0)) 54)), .row (.slice (some ⟨gk, 0, none⟩) 64 c) 5 1 (64) (bv (padK (macKey l0)))]) (fun w hw => by rw [arr64_all _ (by rw [xorL_len]; exact hp), arr64_all _ (by rw [xorL_len]; exact hp)] at hw; exact hw) ?_
     refine TC.exit_ (TX.then_exit (TX.then_exit (TX.in_same (TX.then_ (TC.seq_ (TC.region ?_))))))
     refine TL.val rfl rfl rfl (gives_move rfl rfl) ?_
     refine TL.val rfl rfl rfl (gives_move rfl rfl) ?_
     refine TL.val rfl rfl rfl (gives_move rfl rfl) ?_
     refine TL.append (k := 1) rfl rfl rfl rfl elU8 rfl rfl rfl (fun w hw => pm_byt hw hb1) (bv_one l1) (by rw [Nat.mul_one]; omega) (64 + n1) (by omega) (fun A5 c5 hA51 hA52 => ?_)
     refine TL.mem (I' := Pm w [.row (.slice (some ⟨g7, 0, none⟩) 64 64) 5 1 (64) (bv (xorL (padK (macKey l0)) 92)), .row (.slice A5 (64 + n1) c5) 5 1 (64 + n1) (bv ((xorL (padK (macKey l0)) 54) ++ l1)), .row (.slice (some ⟨gk, 0, none⟩) 64 c) 5 1 (64) (bv (padK (macKey l0)))]) (fun w hw => by rw [bv_append]; exact hw) ?_
     refine TL.pcallRow (n := 32) (ys := bv (shaF ((xorL (padK (macKey l0)) 54) ++ l1))) rfl rfl rfl rfl rfl Tryd.func57 nmRSum bdRSum (fun w1 hw => rsum_all A5 (64 + n1) c5 ((xorL (padK (macKey l0)) 54) ++ l1) w1 (byt_own (hw.at_ (k := 1) rfl) ((xorL_bs _ _).app hb1.2)) (by omega)) (fun A6 c6 hA61 hA62 => ?_)
     refine TL.append (k := 1) rfl rfl rfl rfl elU8 rfl rfl rfl (fun w hw => pm_reads hw (k := 0) rfl) (bv_one _) (by decide) (64 + 32) (by omega) (fun A7 c7 hA71 hA72 => ?_)
     refine TL.mem (I' := Pm w [.row (.slice A6 32 c6) 5 1 (32) (bv (shaF ((xorL (padK (macKey l0)) 54) ++ l1))), .row (.slice A7 (64 + 32) c7) 5 1 (64 + 32) (bv ((xorL (padK (macKey l0)) 92) ++ shaF ((xorL (padK (macKey l0)) 54) ++ l1))), .row (.slice A5 (64 + n1) c5) 5 1 (64 + n1) (bv ((xorL (padK (macKey l0)) 54) ++ l1)), .row (.slice (some ⟨gk, 0, none⟩) 64 c) 5 1 (64) (bv (padK (macKey l0)))]) (fun w hw => by rw [bv_append]; exact hw) ?_
     refine TL.pcallRow (n := 32) (ys := bv (shaF ((xorL (padK (macKey l0)) 92) ++ shaF ((xorL (padK (macKey l0)) 54) ++ l1)))) rfl rfl rfl rfl rfl Tryd.func57 nmRSum bdRSum (fun w1 hw => rsum_all A7 (64 + 32) c7 ((xorL (padK (macKey l0)) 92) ++ shaF ((xorL (padK (macKey l0)) 54) ++ l1)) w1 (byt_own (hw.at_ (k := 1) rfl) ((xorL_bs _ _).app (shaF_bs _))) (by decide)) (fun A8 c8 hA81 hA82 => ?_)
     refine TL.val rfl rfl rfl (gives_assign rfl rfl) ?_
     refine TL.end_ (TX.then_ (TC.ret_ ?_))
     exact pm_ret_row (k := 0) Tryd.results29 rfl rfl (fun w1 hown hbel => ⟨A8, c8, rfl, hA81, hA82, hown, hbel⟩)
end Go.Proofs.YtmeaeeehnkcblaaDoor

namespace Go.Proofs.YtmeaeeehnkcblaaDoor
open Go.RowKit
set_option linter.unusedVariables false
set_option linter.unusedSimpArgs false
set_option maxRecDepth 20000
theorem read_ok (A : Option Addr) (n c : Nat) (l : List Int) (w : World) (hb : Byt w w.heap.size A n l) (hnc : n ≤ c) (hlim : n ≤ 140737488355328) (hwh : wholeB l) (hok : okB l) :
  Calls Tryd.prog 52 #[.slice A n c] w fun e w' => ∃ y : PartY l, e = .returned (.tuple #[.agg #[.int .i64 (pid l), .int .i64 (prun l), .int .i64 (pfirst l), .int .i64 (getN l 8 1), .slice y.1.1.1 32 y.1.1.2, .slice y.1.2.1 (cnt l) y.1.2.2], .int .i64 0]) ∧ Pm w [.row (.slice y.1.1.1 32 y.1.1.2) 5 1 32 (bv (pbef l)), .row (.slice y.1.2.1 (cnt l) y.1.2.2) 27 17 (cnt l) (rcs (rlB l))] w' :=
 (read_any A n c l w hb hnc hlim hwh).mono fun e w' h => by
  rcases h with ⟨_, h⟩ | ⟨h, _⟩
  ·exact h
  ·exact absurd hok h
theorem read_bad (A : Option Addr) (n c : Nat) (l : List Int) (w : World) (hb : Byt w w.heap.size A n l) (hnc : n ≤ c) (hlim : n ≤ 140737488355328) (hwh : wholeB l) (hok : ¬ okB l) :
  Calls Tryd.prog 52 #[.slice A n c] w fun e w' => e = .returned (.tuple #[.agg #[.int .i64 0, .int .i64 0, .int .i64 0, .int .i64 0, .slice none 0 0, .slice none 0 0], .int .i64 2]) ∧ Below w.heap.size w w' :=
 (read_any A n c l w hb hnc hlim hwh).mono fun e w' h => by
  rcases h with ⟨h, _⟩ | ⟨_, h⟩
  ·exact absurd h hok
  ·exact h
theorem jaczv45 (w : World) : (zeroValue 45).run Tryd.prog w = .ok (.agg #[.int .i64 0, .int .i64 0, .int .i64 0, .slice none 0 0]) w := rfl
theorem jacnm24 : (Tryd.f24.name == "runtime.NumGoroutine") = false := by decide
theorem jacbd24 : Tryd.f24.body.isNone = false := rfl
theorem jacbld45_530  (w : World) : (Instr.build 45 #[]).run Tryd.prog w = .ok (.agg #[.int .i64 0, .int .i64 0, .int .i64 0, .slice none 0 0]) w := by kernel_rfl
theorem jacsz45 (w : World) : (sizeOf 45).run Tryd.prog w = .ok 4 w := rfl
theorem jacone_i64i64i64s {a0 : Int} {a1 : Int} {a2 : Int} {a3 : Option Addr} {n3 c3 : Nat} : ∀ u ∈ [(.int .i64 a0 : Value), .int .i64 a1, .int .i64 a2, .slice a3 n3 c3], u.oneCell' = true := by
 intro u hu
 simp only [List.mem_cons, List.not_mem_nil, or_false] at hu
 rcases hu with rfl | rfl | rfl | rfl <;> rfl
theorem jacnm52 : (Tryd.f52.name == "runtime.NumGoroutine") = false := by decide
theorem jacbd52 : Tryd.f52.body.isNone = false := rfl
theorem jaczv86 (w : World) : (zeroValue 86).run Tryd.prog w = .ok (.agg #[.int .i64 0, .int .i64 0, .int .i64 0, .int .i64 0, .slice none 0 0, .slice none 0 0]) w := rfl
theorem jacsz86 (w : World) : (sizeOf 86).run Tryd.prog w = .ok 6 w := rfl
theorem jacone_i64i64i64i64ss {a0 : Int} {a1 : Int} {a2 : Int} {a3 : Int} {a4 : Option Addr} {n4 c4 : Nat} {a5 : Option Addr} {n5 c5 : Nat} : ∀ u ∈ [(.int .i64 a0 : Value), .int .i64 a1, .int .i64 a2, .int .i64 a3, .slice a4 n4 c4, .slice a5 n5 c5], u.oneCell' = true := by
 intro u hu
 simp only [List.mem_cons, List.not_mem_nil, or_false] at hu
 rcases hu with rfl | rfl | rfl | rfl | rfl | rfl <;> rfl
theorem jacnm30 : (Tryd.f30.name == "runtime.NumGoroutine") = false := by decide
theorem jacbd30 : Tryd.f30.body.isNone = false := rfl
theorem jacnm28 : (Tryd.f28.name == "runtime.NumGoroutine") = false := by decide
theorem jacbd28 : Tryd.f28.body.isNone = false := rfl
theorem jacag45 (w : World) : (isAgg 45).run Tryd.prog w = .ok true w := rfl
theorem jacag86 (w : World) : (isAgg 86).run Tryd.prog w = .ok true w := rfl
theorem jacnm53 : (Tryd.f53.name == "runtime.NumGoroutine") = false := by decide
theorem jacbd53 : Tryd.f53.body.isNone = false := rfl
theorem jacfld86_0 (g o : Nat) (w : World) : (Instr.fieldAt 86 (.pointer (some ⟨g, o, none⟩)) 0).run Tryd.prog w = .ok (.pointer (some ⟨g, o + 0, none⟩)) w := by kernel_rfl
theorem jacag3 (w : World) : (isAgg 3).run Tryd.prog w = .ok false w := rfl
theorem jacfld86_1 (g o : Nat) (w : World) : (Instr.fieldAt 86 (.pointer (some ⟨g, o, none⟩)) 1).run Tryd.prog w = .ok (.pointer (some ⟨g, o + 1, none⟩)) w := by kernel_rfl
theorem jacfld45_2 (g o : Nat) (w : World) : (Instr.fieldAt 45 (.pointer (some ⟨g, o, none⟩)) 2).run Tryd.prog w = .ok (.pointer (some ⟨g, o + 2, none⟩)) w := by kernel_rfl
theorem jacfld86_3 (g o : Nat) (w : World) : (Instr.fieldAt 86 (.pointer (some ⟨g, o, none⟩)) 3).run Tryd.prog w = .ok (.pointer (some ⟨g, o + 3, none⟩)) w := by kernel_rfl
theorem jacfld86_5 (g o : Nat) (w : World) : (Instr.fieldAt 86 (.pointer (some ⟨g, o, none⟩)) 5).run Tryd.prog w = .ok (.pointer (some ⟨g, o + 5, none⟩)) w := by kernel_rfl
theorem jacag33 (w : World) : (isAgg 33).run Tryd.prog w = .ok false w := rfl
theorem jacnm54 : (Tryd.f54.name == "runtime.NumGoroutine") = false := by decide
theorem jacbd54 : Tryd.f54.body.isNone = false := rfl
theorem jacbld45_39861 (a0_0 : Int) (a1_0 : Int) (a2_0 : Int) (a3_0 : Option Addr) (a3_0n a3_0c : Nat) (w : World) : (Instr.build 45 #[(0, .int .i64 a0_0), (1, .int .i64 a1_0), (2, .int .i64 a2_0), (3, .slice a3_0 a3_0n a3_0c)]).run Tryd.prog w = .ok (.agg #[.int .i64 a0_0, .int .i64 a1_0, .int .i64 a2_0, .slice a3_0 a3_0n a3_0c]) w := by kernel_rfl
set_option maxHeartbeats 2000000 in
theorem accept_any (A0 : Option Addr) (n0 c0 : Nat) (ch : Chn) (A1 : Option Addr) (n1 c1 : Nat) (l : List Int) (A2 : Option Addr) (n2 c2 : Nat) (key : List Int) (w : World) (hb0 : Byt w w.heap.size A0 n0 ch.dg) (hb1 : Byt w w.heap.size A1 n1 l) (hb2 : Byt w w.heap.size A2 n2 key) (hnc : n1 ≤ c1) (hn1l : n1 ≤ 1000000000) (hn2l : n2 ≤ 1000000000) (hn0 : -1000000 ≤ ch.n) (hn1 : ch.n ≤ 1000000) {ts tk : TypeId} (hst : Blk w 0 ts start8.cells) (hky : Blk w 1 tk (arrOf keysL)) :
  Calls Tryd.prog 22 #[.agg #[.int .i64 ch.v, .int .i64 ch.run, .int .i64 ch.n, .slice A0 n0 c0], .slice A1 n1 c1, .slice A2 n2 c2] w fun e w' => AccR (accC ch l key) (accL ch l key) (accE ch l key) w e w' := by
 obtain rfl : n1 = l.length := hb1.len.symm
 refine begin_ (vs := [.agg #[.int .i64 ch.v, .int .i64 ch.run, .int .i64 ch.n, .slice A0 n0 c0], .slice A1 l.length c1, .slice A2 n2 c2]) Tryd.func22 rfl rfl rfl ?_ (Pm.start w)
 refine TC.seq_ (TC.region ?_)
 refine TL.pnew rfl rfl rfl (exec_box (cs := [.int .i64 ch.v, .int .i64 ch.run, .int .i64 ch.n, .slice A0 n0 c0]) rfl rfl rfl) (fun g3 => ?_)
 refine TL.pnew rfl rfl rfl (exec_alloc (cs := [.int .i64 0, .int .i64 0, .int .i64 0, .slice none 0 0]) rfl jaczv45 rfl) (fun g6 => ?_)
 refine TL.val rfl rfl rfl (gives_assign rfl rfl) ?_
 refine TL.val rfl rfl rfl (gives_assign rfl rfl) ?_
 refine TL.end_ (TX.then_ (TC.seq_ (TC.region ?_)))
 refine TL.val rfl rfl rfl (gives_move rfl rfl) ?_
 refine TL.pcall1 (r := .tuple #[.int .i64 (lenN l), .int .i64 (lenE l)]) rfl rfl rfl rfl rfl Tryd.func24 jacnm24 jacbd24 (fun w1 hw => length_any A1 _ c1 l w1 ((hb1.below hw.bel).more hw.bel.size) hnc) ?_
 iterate 5 (first | refine TL.val rfl rfl rfl (gives_assign rfl rfl) ?_ | refine TL.val rfl rfl rfl (gives_extract rfl rfl rfl) ?_ | refine TL.val rfl rfl rfl (gives_move rfl rfl) ?_)
 refine TL.end_ (TX.then_ (TC.seq_ (TC.block (TC.seq_ (TC.region ?_)))))
 refine TL.val rfl rfl rfl (gives_move rfl rfl) ?_
 refine TL.vsplit rfl rfl rfl (gives_bin rfl rfl rfl (fun w => bin_neq w)) (fun h19 => ?_) (fun h19 => ?_)
 ·have q19 := of_decide_eq_true h19
  have hE := acR_bad (c := ch) (key := key) (acc_len q19) q19
  refine TL.val rfl rfl rfl (gives_assign rfl rfl) ?_
  refine TL.end_ (TX.then_ (TC.condT rfl (TC.seq_ (TC.region ?_))))
  refine TL.val rfl rfl rfl (gives_build (v := .agg #[.int .i64 0, .int .i64 0, .int .i64 0, .slice none 0 0]) rfl rfl (fun w => jacbld45_530  w)) ?_
  refine TL.val rfl rfl rfl (gives_move rfl rfl) ?_
  refine TL.pstore (k := 0) (vs := [.int .i64 0, .int .i64 0, .int .i64 0, .slice none 0 0]) rfl rfl rfl rfl rfl rfl rfl jacsz45 jacone_i64i64i64s (by show 4 ≤ 4; decide) (L' := [.blk g6 45 [.int .i64 0, .int .i64 0, .int .i64 0, .slice none 0 0], .blk g3 45 [.int .i64 ch.v, .int .i64 ch.run, .int .i64 ch.n, .slice A0 n0 c0]]) rfl ?_
  refine TL.val rfl rfl rfl (gives_assign rfl rfl) ?_
  refine TL.val rfl rfl rfl (gives_assign rfl rfl) ?_
  refine TL.end_ (TX.then_ (TC.ret_ (TX.in_ret (TX.then_ret ?_))))
  exact ret_cell3 (k := 0) (v := .slice none 0 0) (v2 := .int .i64 (lenE l)) Tryd.results22 rfl rfl rfl rfl Tryd.underlying45 rfl rfl (fun w1 hw => by rw [hE.1, hE.2.1, hE.2.2]; exact AccR.none_ hw)
 ·have q19 := of_decide_eq_false h19
  have h0 : lenE l = 0 := Decidable.not_not.1 q19
  refine TL.val rfl rfl rfl (gives_assign rfl rfl) ?_
  refine TL.end_ (TX.then_ (TC.condF rfl (TC.seq_ (TC.region ?_))))
  refine TL.val rfl rfl rfl (gives_move rfl rfl) ?_
  refine TL.val rfl rfl rfl (gives_len rfl Tryd.underlying28 rfl) ?_
  refine TL.val rfl rfl rfl (gives_move rfl rfl) ?_
  refine TL.vsplit rfl rfl rfl (gives_bin rfl rfl rfl (fun w => bin_lss w)) (fun h26 => ?_) (fun h26 => ?_)
  ·have q26 := of_decide_eq_true h26
   have hE := acR_bad (c := ch) (key := key) (acc_short h0 (by omega)) (by decide)
   refine TL.val rfl rfl rfl (gives_assign rfl rfl) ?_
   refine TL.end_ (TX.then_ (TC.condT rfl (TC.seq_ (TC.region ?_))))
   refine TL.val rfl rfl rfl (gives_build (v := .agg #[.int .i64 0, .int .i64 0, .int .i64 0, .slice none 0 0]) rfl rfl (fun w => jacbld45_530  w)) ?_
   refine TL.pstore (k := 0) (vs := [.int .i64 0, .int .i64 0, .int .i64 0, .slice none 0 0]) rfl rfl rfl rfl rfl rfl rfl jacsz45 jacone_i64i64i64s (by show 4 ≤ 4; decide) (L' := [.blk g6 45 [.int .i64 0, .int .i64 0, .int .i64 0, .slice none 0 0], .blk g3 45 [.int .i64 ch.v, .int .i64 ch.run, .int .i64 ch.n, .slice A0 n0 c0]]) rfl ?_
   refine TL.val rfl rfl rfl (gives_assign rfl rfl) ?_
   refine TL.val rfl rfl rfl (gives_assign rfl rfl) ?_
   refine TL.end_ (TX.then_ (TC.ret_ (TX.in_ret (TX.then_ret ?_))))
   exact ret_cell3 (k := 0) (v := .slice none 0 0) (v2 := .int .i64 3) Tryd.results22 rfl rfl rfl rfl Tryd.underlying45 rfl rfl (fun w1 hw => by rw [hE.1, hE.2.1, hE.2.2]; exact AccR.none_ hw)
  ·have q26 := of_decide_eq_false h26
   have h1 : ¬ (l.length : Int) < lenN l := by omega
   refine TL.val rfl rfl rfl (gives_assign rfl rfl) ?_
   refine TL.end_ (TX.then_ (TC.condF rfl (TC.seq_ (TC.region ?_))))
   refine TL.val rfl rfl rfl (gives_move rfl rfl) ?_
   refine TL.val rfl rfl rfl (gives_len rfl Tryd.underlying28 rfl) ?_
   refine TL.val rfl rfl rfl (gives_move rfl rfl) ?_
   refine TL.vsplit rfl rfl rfl (gives_bin rfl rfl rfl (fun w => bin_gtr w)) (fun h32 => ?_) (fun h32 => ?_)
   ·have q32 := of_decide_eq_true h32
    have hE := acR_bad (c := ch) (key := key) (acc_long h0 h1 (by omega)) (by decide)
    refine TL.val rfl rfl rfl (gives_assign rfl rfl) ?_
    refine TL.end_ (TX.then_ (TC.condT rfl (TC.seq_ (TC.region ?_))))
    refine TL.val rfl rfl rfl (gives_build (v := .agg #[.int .i64 0, .int .i64 0, .int .i64 0, .slice none 0 0]) rfl rfl (fun w => jacbld45_530  w)) ?_
    refine TL.pstore (k := 0) (vs := [.int .i64 0, .int .i64 0, .int .i64 0, .slice none 0 0]) rfl rfl rfl rfl rfl rfl rfl jacsz45 jacone_i64i64i64s (by show 4 ≤ 4; decide) (L' := [.blk g6 45 [.int .i64 0, .int .i64 0, .int .i64 0, .slice none 0 0], .blk g3 45 [.int .i64 ch.v, .int .i64 ch.run, .int .i64 ch.n, .slice A0 n0 c0]]) rfl ?_
    refine TL.val rfl rfl rfl (gives_assign rfl rfl) ?_
    refine TL.val rfl rfl rfl (gives_assign rfl rfl) ?_
    refine TL.end_ (TX.then_ (TC.ret_ (TX.in_ret (TX.then_ret ?_))))
    exact ret_cell3 (k := 0) (v := .slice none 0 0) (v2 := .int .i64 2) Tryd.results22 rfl rfl rfl rfl Tryd.underlying45 rfl rfl (fun w1 hw => by rw [hE.1, hE.2.1, hE.2.2]; exact AccR.none_ hw)
   ·have q32 := of_decide_eq_false h32
    have h2 : ¬ (l.length : Int) > lenN l := by omega
    have hwh := whole_of h0 h1 h2
    obtain ⟨hc1, hc2, hc3, hc4, hc5⟩ := whole_cnt hb1.2 hwh
    obtain ⟨m, hm⟩ : ∃ m, l.length = m + 32 := ⟨41 + 37 * cnt l, by omega⟩
    have hm2 : l.length - 32 = m := by omega
    refine TL.val rfl rfl rfl (gives_assign rfl rfl) ?_
    refine TL.end_ (TX.then_ (TC.condF rfl (TC.skip_ (TX.in_normal (TX.then_ (TC.seq_ ?_))))))
    by_cases hok : okB l
    ·refine TC.region ?_
     refine TL.val rfl rfl rfl (gives_move rfl rfl) ?_
     refine TL.pcallPm (α := PartY l) (fun y => .tuple #[.agg #[.int .i64 (pid l), .int .i64 (prun l), .int .i64 (pfirst l), .int .i64 (getN l 8 1), .slice y.1.1.1 32 y.1.1.2, .slice y.1.2.1 (cnt l) y.1.2.2], .int .i64 0]) (fun y => [.row (.slice y.1.1.1 32 y.1.1.2) 5 1 32 (bv (pbef l)), .row (.slice y.1.2.1 (cnt l) y.1.2.2) 27 17 (cnt l) (rcs (rlB l))]) rfl rfl rfl rfl rfl Tryd.func52 jacnm52 jacbd52 (fun w1 hw => read_ok A1 _ c1 l w1 ((hb1.below hw.bel).more hw.bel.size) hnc (by omega) hwh hok) ?_
     rintro ⟨⟨⟨AP, cP⟩, ⟨AR, cR⟩⟩, ⟨hAP1, hAP2⟩, ⟨hAR1, hAR2⟩⟩
     dsimp only [List.cons_append, List.nil_append]
     dsimp only at hAP1 hAP2 hAR1 hAR2
     refine TL.val rfl rfl rfl (gives_move rfl rfl) ?_
     refine TL.val rfl rfl rfl (gives_extract rfl rfl rfl) ?_
     refine TL.val rfl rfl rfl (gives_extract rfl rfl rfl) ?_
     refine TL.pnew rfl rfl rfl (exec_alloc (cs := [.int .i64 0, .int .i64 0, .int .i64 0, .int .i64 0, .slice none 0 0, .slice none 0 0]) rfl jaczv86 rfl) (fun g11 => ?_)
     refine TL.pstore (k := 0) (vs := [.int .i64 (pid l), .int .i64 (prun l), .int .i64 (pfirst l), .int .i64 (getN l 8 1), .slice AP 32 cP, .slice AR (cnt l) cR]) rfl rfl rfl rfl rfl rfl rfl jacsz86 jacone_i64i64i64i64ss (by show 6 ≤ 6; decide) (L' := [.blk g11 86 [.int .i64 (pid l), .int .i64 (prun l), .int .i64 (pfirst l), .int .i64 (getN l 8 1), .slice AP 32 cP, .slice AR (cnt l) cR], .row (.slice AP 32 cP) 5 1 32 (bv (pbef l)), .row (.slice AR (cnt l) cR) 27 17 (cnt l) (rcs (rlB l)), .blk g6 45 [.int .i64 0, .int .i64 0, .int .i64 0, .slice none 0 0], .blk g3 45 [.int .i64 ch.v, .int .i64 ch.run, .int .i64 ch.n, .slice A0 n0 c0]]) rfl ?_
     refine TL.val rfl rfl rfl (gives_assign rfl rfl) ?_
     refine TL.end_ (TX.then_ (TC.seq_ (TC.seq_ (TC.region ?_))))
     refine TL.val rfl rfl rfl (gives_move rfl rfl) ?_
     refine TL.val rfl rfl rfl (gives_bin rfl rfl rfl (fun w => bin_neq_f (by decide) w)) ?_
     refine TL.end_ (TX.then_ (TC.condF rfl (TC.skip_ (TX.then_ (TC.seq_ (TC.seq_ ?_))))))
     by_cases hs : sigB l key
     ·have hs2 : l.drop m = macF key (l.take m) := hm2 ▸ hs
      refine TC.held (ls := #[false, false, false, false, false, false, false, false, false, false, false, false]) (Pm w []) (by kernel_rfl) rfl rfl (fun w hw => hw.drawn _) ?_
      refine TH.take (listed' := #[true, false, false, false, false, false, false, false, false, false, false, false]) 0 rfl (by kernel_rfl) (by kernel_rfl) (by kernel_rfl) rfl rfl rfl rfl (gives_move rfl rfl) (fun w1 hw => hw.pick [] (by decide) rfl) ?_
      refine TH.take (listed' := #[true, true, false, false, false, false, false, false, false, false, false, false]) 1 rfl (by kernel_rfl) (by kernel_rfl) (by kernel_rfl) rfl rfl rfl rfl (gives_move rfl rfl) (fun w1 hw => hw.pick [] (by decide) rfl) ?_
      refine TH.take (listed' := #[true, true, true, false, false, false, false, false, false, false, false, false]) 2 rfl (by kernel_rfl) (by kernel_rfl) (by kernel_rfl) rfl rfl rfl rfl (gives_bin rfl rfl rfl (fun w => bin_sub_ (r := ((m : Nat) : Int)) (by simp only [IntKind.wrap_i64]; omega) w)) (fun w1 hw => hw.pick [] (by decide) rfl) ?_
      refine TH.take (listed' := #[true, true, true, true, false, false, false, false, false, false, false, false]) 3 rfl (by kernel_rfl) (by kernel_rfl) (by kernel_rfl) rfl rfl rfl rfl (gives_sliceL (v := .slice (if c1 = m then A1 else A1.map (·.add m)) (l.length - m) (c1 - m)) rfl rfl rfl (fun w => cut_lo1 Tryd.underlying28 (fun w => rfl) A1 l.length c1 m rfl (by omega) w)) (fun w1 hw => hw.pick [] (by decide) rfl) ?_
      refine TH.take (listed' := #[true, true, true, true, true, false, false, false, false, false, false, false]) 4 rfl (by kernel_rfl) (by kernel_rfl) (by kernel_rfl) rfl rfl rfl rfl (gives_move rfl rfl) (fun w1 hw => hw.pick [] (by decide) rfl) ?_
      refine TH.take (listed' := #[true, true, true, true, true, true, false, false, false, false, false, false]) 5 rfl (by kernel_rfl) (by kernel_rfl) (by kernel_rfl) rfl rfl rfl rfl (gives_move rfl rfl) (fun w1 hw => hw.pick [] (by decide) rfl) ?_
      refine TH.take (listed' := #[true, true, true, true, true, true, true, false, false, false, false, false]) 6 rfl (by kernel_rfl) (by kernel_rfl) (by kernel_rfl) rfl rfl rfl rfl (gives_move rfl rfl) (fun w1 hw => hw.pick [] (by decide) rfl) ?_
      refine TH.take (listed' := #[true, true, true, true, true, true, true, true, false, false, false, false]) 7 rfl (by kernel_rfl) (by kernel_rfl) (by kernel_rfl) rfl rfl rfl rfl (gives_bin rfl rfl rfl (fun w => bin_sub_ (r := ((m : Nat) : Int)) (by simp only [IntKind.wrap_i64]; omega) w)) (fun w1 hw => hw.pick [] (by decide) rfl) ?_
      refine TH.take (listed' := #[true, true, true, true, true, true, true, true, true, false, false, false]) 8 rfl (by kernel_rfl) (by kernel_rfl) (by kernel_rfl) rfl rfl rfl rfl (gives_sliceH (v := .slice A1 m c1) rfl rfl rfl (fun w => cut_hi Tryd.underlying28 (fun w => rfl) A1 l.length c1 m rfl (by omega) w)) (fun w1 hw => hw.pick [] (by decide) rfl) ?_
      refine TH.only' (listed' := #[true, true, true, true, true, true, true, true, true, true, false, false]) 9 rfl (by kernel_rfl) rfl ?_
      refine TL.pcallRow (n := 32) (ys := bv (macF key (l.take m))) rfl rfl rfl rfl rfl Tryd.func30 jacnm30 jacbd30 (fun w1 hw => mac_any _ _ _ key _ _ _ (l.take m) w1 ((hb2.below hw.bel).more hw.bel.size) (((hb1.below hw.bel).more hw.bel.size).head (by omega)) (by omega) (by omega) (hst.below hw.bel hst.lt) (hky.below hw.bel hky.lt)) (fun A51 c51 hA511 hA512 => ?_)
      refine TL.end_ ?_
      refine TX.held (fun w1 hw => hw.pick [] (by decide) rfl) ?_
      refine TH.only' (listed' := #[true, true, true, true, true, true, true, true, true, true, true, false]) 10 rfl (by kernel_rfl) rfl ?_
      refine TL.pcall1 (r := .bool true) rfl rfl rfl rfl rfl Tryd.func28 jacnm28 jacbd28 (fun w1 hw => retb_lit (decide_eq_true hs2) (wequal _ _ _ _ _ _ (l.drop m) (macF key (l.take m)) w1 (((hb1.below hw.bel).more hw.bel.size).cut (by omega) hnc) (byt_own (hw.at_ (k := 0) rfl) (macF_bs _ _)))) ?_
      refine TL.end_ ?_
      refine TX.held (fun w1 hw => hw.pick [] (by decide) rfl) ?_
      refine TH.take (listed' := #[true, true, true, true, true, true, true, true, true, true, true, true]) 11 rfl (by kernel_rfl) (by kernel_rfl) (by kernel_rfl) rfl rfl rfl rfl (gives_boolnot rfl rfl) (fun w1 hw => hw.pick [] (by decide) rfl) ?_
      refine TH.done (by kernel_rfl) ?_
      refine TX.then_ (TC.condF rfl (TC.skip_ (TX.then_ (TC.seq_ (TC.seq_ (TC.region ?_))))))
      refine TL.val rfl rfl rfl (pm_loadV (k := 5) (i := 0) (n := 4) (v := .agg #[.int .i64 ch.v, .int .i64 ch.run, .int .i64 ch.n, .slice A0 n0 c0]) rfl rfl jacag45 jacsz45 rfl (by show 4 ≤ 4; decide) rfl) ?_
      refine TL.val rfl rfl rfl (pm_loadV (k := 1) (i := 0) (n := 6) (v := .agg #[.int .i64 (pid l), .int .i64 (prun l), .int .i64 (pfirst l), .int .i64 (getN l 8 1), .slice AP 32 cP, .slice AR (cnt l) cR]) rfl rfl jacag86 jacsz86 rfl (by show 6 ≤ 6; decide) rfl) ?_
      refine TL.callsplit rfl rfl rfl rfl rfl Tryd.func53 jacnm53 jacbd53 (fun w1 hw => linked_any A0 n0 c0 ch AP cP AR cR l w1 ((hb0.below hw.bel).more hw.bel.size) (byt_own (hw.at_ (k := 2) rfl) ((hb1.2.drop _).take _)) (Reads.of_own (hw.at_ (k := 3) rfl)) hc1 hc2 hn0 hn1) (fun h57 => ?_) (fun h57 => ?_)
      ·have hE := acR_ok (c := ch) (key := key) (acc_ok h0 h1 h2 hok hs (of_decide_eq_true h57))
       refine TL.val rfl rfl rfl (gives_boolnot rfl rfl) ?_
       refine TL.end_ (TX.then_ (TC.condF rfl (TC.skip_ (TX.then_ (TC.seq_ ?_)))))
       refine TC.held (ls := #[false, false, false, false, false, false, false, false, false, false, false, false, false, false, false, false, false]) (Pm w [.blk g11 86 [.int .i64 (pid l), .int .i64 (prun l), .int .i64 (pfirst l), .int .i64 (getN l 8 1), .slice AP 32 cP, .slice AR (cnt l) cR], .blk g3 45 [.int .i64 ch.v, .int .i64 ch.run, .int .i64 ch.n, .slice A0 n0 c0]]) (by kernel_rfl) rfl rfl (fun w hw => hw.drawn _) ?_
       refine TH.take (listed' := #[true, false, false, false, false, false, false, false, false, false, false, false, false, false, false, false, false]) 0 rfl (by kernel_rfl) (by kernel_rfl) (by kernel_rfl) rfl rfl rfl rfl (gives_field (v := .pointer (some ⟨g11, 0, none⟩)) rfl rfl (fun w => jacfld86_0 _ _ w)) (fun w1 hw => hw.pick [1, 5] (by decide) rfl) ?_
       refine TH.take (listed' := #[true, true, false, false, false, false, false, false, false, false, false, false, false, false, false, false, false]) 1 rfl (by kernel_rfl) (by kernel_rfl) (by kernel_rfl) rfl rfl rfl rfl (pm_load (k := 0) (i := 0) rfl rfl jacag3 rfl rfl) (fun w1 hw => hw.pick [1, 5] (by decide) rfl) ?_
       refine TH.take (listed' := #[true, true, true, false, false, false, false, false, false, false, false, false, false, false, false, false, false]) 2 rfl (by kernel_rfl) (by kernel_rfl) (by kernel_rfl) rfl rfl rfl rfl (gives_field (v := .pointer (some ⟨g11, 1, none⟩)) rfl rfl (fun w => jacfld86_1 _ _ w)) (fun w1 hw => hw.pick [1, 5] (by decide) rfl) ?_
       refine TH.take (listed' := #[true, true, true, true, false, false, false, false, false, false, false, false, false, false, false, false, false]) 3 rfl (by kernel_rfl) (by kernel_rfl) (by kernel_rfl) rfl rfl rfl rfl (pm_load (k := 0) (i := 1) rfl rfl jacag3 rfl rfl) (fun w1 hw => hw.pick [1, 5] (by decide) rfl) ?_
       refine TH.take (listed' := #[true, true, true, true, true, false, false, false, false, false, false, false, false, false, false, false, false]) 4 rfl (by kernel_rfl) (by kernel_rfl) (by kernel_rfl) rfl rfl rfl rfl (gives_field (v := .pointer (some ⟨g3, 2, none⟩)) rfl rfl (fun w => jacfld45_2 _ _ w)) (fun w1 hw => hw.pick [1, 5] (by decide) rfl) ?_
       refine TH.take (listed' := #[true, true, true, true, true, true, false, false, false, false, false, false, false, false, false, false, false]) 5 rfl (by kernel_rfl) (by kernel_rfl) (by kernel_rfl) rfl rfl rfl rfl (pm_load (k := 1) (i := 2) rfl rfl jacag3 rfl rfl) (fun w1 hw => hw.pick [1, 5] (by decide) rfl) ?_
       refine TH.take (listed' := #[true, true, true, true, true, true, true, false, false, false, false, false, false, false, false, false, false]) 6 rfl (by kernel_rfl) (by kernel_rfl) (by kernel_rfl) rfl rfl rfl rfl (gives_field (v := .pointer (some ⟨g11, 3, none⟩)) rfl rfl (fun w => jacfld86_3 _ _ w)) (fun w1 hw => hw.pick [1, 5] (by decide) rfl) ?_
       refine TH.take (listed' := #[true, true, true, true, true, true, true, true, false, false, false, false, false, false, false, false, false]) 7 rfl (by kernel_rfl) (by kernel_rfl) (by kernel_rfl) rfl rfl rfl rfl (pm_load (k := 0) (i := 3) rfl rfl jacag3 rfl rfl) (fun w1 hw => hw.pick [1, 5] (by decide) rfl) ?_
       refine TH.take (listed' := #[true, true, true, true, true, true, true, true, true, false, false, false, false, false, false, false, false]) 8 rfl (by kernel_rfl) (by kernel_rfl) (by kernel_rfl) rfl rfl rfl rfl (gives_bin rfl rfl rfl (fun w => bin_add_ (r := ch.n + (cnt l : Nat)) (by simp only [IntKind.wrap_i64]; omega) w)) (fun w1 hw => hw.pick [1, 5] (by decide) rfl) ?_
       refine TH.take (listed' := #[true, true, true, true, true, true, true, true, true, true, false, false, false, false, false, false, false]) 9 rfl (by kernel_rfl) (by kernel_rfl) (by kernel_rfl) rfl rfl rfl rfl (gives_move rfl rfl) (fun w1 hw => hw.pick [1, 5] (by decide) rfl) ?_
       refine TH.take (listed' := #[true, true, true, true, true, true, true, true, true, true, false, false, true, false, false, false, false]) 12 rfl (by kernel_rfl) (by kernel_rfl) (by kernel_rfl) rfl rfl rfl rfl (gives_field (v := .pointer (some ⟨g11, 5, none⟩)) rfl rfl (fun w => jacfld86_5 _ _ w)) (fun w1 hw => hw.pick [1, 5] (by decide) rfl) ?_
       refine TH.take (listed' := #[true, true, true, true, true, true, true, true, true, true, false, false, true, true, false, false, false]) 13 rfl (by kernel_rfl) (by kernel_rfl) (by kernel_rfl) rfl rfl rfl rfl (pm_load (k := 0) (i := 5) rfl rfl jacag33 rfl rfl) (fun w1 hw => hw.pick [1, 5] (by decide) rfl) ?_
       refine TH.only' (listed' := #[true, true, true, true, true, true, true, true, true, true, true, false, true, true, false, false, false]) 10 rfl (by kernel_rfl) rfl ?_
       refine TL.pcallRow (n := 32) (ys := bv (shaF l)) rfl rfl rfl rfl rfl Tryd.func54 jacnm54 jacbd54 (fun w1 hw => sum_any _ _ _ l w1 ((hb1.below hw.bel).more hw.bel.size) (by omega) (hst.below hw.bel hst.lt) (hky.below hw.bel hky.lt)) (fun A70 c70 hA701 hA702 => ?_)
       refine TL.end_ ?_
       refine TX.held (fun w1 hw => hw.pick [2, 6] (by decide) rfl) ?_
       refine TH.take (listed' := #[true, true, true, true, true, true, true, true, true, true, true, true, true, true, false, false, false]) 11 rfl (by kernel_rfl) (by kernel_rfl) (by kernel_rfl) rfl rfl rfl rfl (gives_build (v := .agg #[.int .i64 (pid l), .int .i64 (prun l), .int .i64 (ch.n + (cnt l : Nat)), .slice A70 32 c70]) rfl rfl (fun w => jacbld45_39861 _ _ _ _ _ _ w)) (fun w1 hw => hw.pick [2, 6] (by decide) rfl) ?_
       refine TH.only' (listed' := #[true, true, true, true, true, true, true, true, true, true, true, true, true, true, true, false, false]) 14 rfl (by kernel_rfl) rfl ?_
       refine TL.pstore (k := 5) (vs := [.int .i64 (pid l), .int .i64 (prun l), .int .i64 (ch.n + (cnt l : Nat)), .slice A70 32 c70]) rfl rfl rfl rfl rfl rfl rfl jacsz45 jacone_i64i64i64s (by show 4 ≤ 4; decide) (L' := [.row (.slice A70 32 c70) 5 1 32 (bv (shaF l)), .row (.slice A51 32 c51) 5 1 32 (bv (macF key (l.take m))), .blk g11 86 [.int .i64 (pid l), .int .i64 (prun l), .int .i64 (pfirst l), .int .i64 (getN l 8 1), .slice AP 32 cP, .slice AR (cnt l) cR], .row (.slice AP 32 cP) 5 1 32 (bv (pbef l)), .row (.slice AR (cnt l) cR) 27 17 (cnt l) (rcs (rlB l)), .blk g6 45 [.int .i64 (pid l), .int .i64 (prun l), .int .i64 (ch.n + (cnt l : Nat)), .slice A70 32 c70], .blk g3 45 [.int .i64 ch.v, .int .i64 ch.run, .int .i64 ch.n, .slice A0 n0 c0]]) rfl ?_
       refine TL.end_ ?_
       refine TX.held (fun w1 hw => hw.pick [2, 6] (by decide) rfl) ?_
       refine TH.take (listed' := #[true, true, true, true, true, true, true, true, true, true, true, true, true, true, true, true, false]) 15 rfl (by kernel_rfl) (by kernel_rfl) (by kernel_rfl) rfl rfl rfl rfl (gives_assign rfl rfl) (fun w1 hw => hw.pick [2, 6] (by decide) rfl) ?_
       refine TH.take (listed' := #[true, true, true, true, true, true, true, true, true, true, true, true, true, true, true, true, true]) 16 rfl (by kernel_rfl) (by kernel_rfl) (by kernel_rfl) rfl rfl rfl rfl (gives_assign rfl rfl) (fun w1 hw => hw.pick [2, 6] (by decide) rfl) ?_
       refine TH.done (by kernel_rfl) ?_
       refine TX.then_ (TC.ret_ ?_)
       exact ret_cell3 (k := 5) (v := .slice AR (cnt l) cR) (v2 := .int .i64 0) Tryd.results22 rfl rfl rfl rfl Tryd.underlying45 rfl rfl (fun w1 hw => by rw [hE.1, hE.2.1, hE.2.2]; exact ⟨AR, cR, A70, c70, _, _, rlB_len l, shaF_len _, hAR1, hAR2, hA701, hA702, rfl, hw.pick [4, 0] (by decide) rfl⟩)
      ·have hE := acR_bad (c := ch) (key := key) (acc_chain h0 h1 h2 hok hs (of_decide_eq_false h57)) (by decide)
       refine TL.val rfl rfl rfl (gives_boolnot rfl rfl) ?_
       refine TL.end_ (TX.then_ (TC.condT rfl (TC.seq_ (TC.region ?_))))
       refine TL.val rfl rfl rfl (gives_build (v := .agg #[.int .i64 0, .int .i64 0, .int .i64 0, .slice none 0 0]) rfl rfl (fun w => jacbld45_530  w)) ?_
       refine TL.pstore (k := 4) (vs := [.int .i64 0, .int .i64 0, .int .i64 0, .slice none 0 0]) rfl rfl rfl rfl rfl rfl rfl jacsz45 jacone_i64i64i64s (by show 4 ≤ 4; decide) (L' := [.row (.slice A51 32 c51) 5 1 32 (bv (macF key (l.take m))), .blk g11 86 [.int .i64 (pid l), .int .i64 (prun l), .int .i64 (pfirst l), .int .i64 (getN l 8 1), .slice AP 32 cP, .slice AR (cnt l) cR], .row (.slice AP 32 cP) 5 1 32 (bv (pbef l)), .row (.slice AR (cnt l) cR) 27 17 (cnt l) (rcs (rlB l)), .blk g6 45 [.int .i64 0, .int .i64 0, .int .i64 0, .slice none 0 0], .blk g3 45 [.int .i64 ch.v, .int .i64 ch.run, .int .i64 ch.n, .slice A0 n0 c0]]) rfl ?_
       refine TL.val rfl rfl rfl (gives_assign rfl rfl) ?_
       refine TL.val rfl rfl rfl (gives_assign rfl rfl) ?_
       refine TL.end_ (TX.then_ (TC.ret_ (TX.then_ret ?_)))
       exact ret_cell3 (k := 4) (v := .slice none 0 0) (v2 := .int .i64 18) Tryd.results22 rfl rfl rfl rfl Tryd.underlying45 rfl rfl (fun w1 hw => by rw [hE.1, hE.2.1, hE.2.2]; exact AccR.none_ hw)
     ·have hs2 : ¬ l.drop m = macF key (l.take m) := hm2 ▸ hs
      have hE := acR_bad (c := ch) (key := key) (acc_sig h0 h1 h2 hok hs) (by decide)
      refine TC.held (ls := #[false, false, false, false, false, false, false, false, false, false, false, false]) (Pm w []) (by kernel_rfl) rfl rfl (fun w hw => hw.drawn _) ?_
      refine TH.take (listed' := #[true, false, false, false, false, false, false, false, false, false, false, false]) 0 rfl (by kernel_rfl) (by kernel_rfl) (by kernel_rfl) rfl rfl rfl rfl (gives_move rfl rfl) (fun w1 hw => hw.pick [] (by decide) rfl) ?_
      refine TH.take (listed' := #[true, true, false, false, false, false, false, false, false, false, false, false]) 1 rfl (by kernel_rfl) (by kernel_rfl) (by kernel_rfl) rfl rfl rfl rfl (gives_move rfl rfl) (fun w1 hw => hw.pick [] (by decide) rfl) ?_
      refine TH.take (listed' := #[true, true, true, false, false, false, false, false, false, false, false, false]) 2 rfl (by kernel_rfl) (by kernel_rfl) (by kernel_rfl) rfl rfl rfl rfl (gives_bin rfl rfl rfl (fun w => bin_sub_ (r := ((m : Nat) : Int)) (by simp only [IntKind.wrap_i64]; omega) w)) (fun w1 hw => hw.pick [] (by decide) rfl) ?_
      refine TH.take (listed' := #[true, true, true, true, false, false, false, false, false, false, false, false]) 3 rfl (by kernel_rfl) (by kernel_rfl) (by kernel_rfl) rfl rfl rfl rfl (gives_sliceL (v := .slice (if c1 = m then A1 else A1.map (·.add m)) (l.length - m) (c1 - m)) rfl rfl rfl (fun w => cut_lo1 Tryd.underlying28 (fun w => rfl) A1 l.length c1 m rfl (by omega) w)) (fun w1 hw => hw.pick [] (by decide) rfl) ?_
      refine TH.take (listed' := #[true, true, true, true, true, false, false, false, false, false, false, false]) 4 rfl (by kernel_rfl) (by kernel_rfl) (by kernel_rfl) rfl rfl rfl rfl (gives_move rfl rfl) (fun w1 hw => hw.pick [] (by decide) rfl) ?_
      refine TH.take (listed' := #[true, true, true, true, true, true, false, false, false, false, false, false]) 5 rfl (by kernel_rfl) (by kernel_rfl) (by kernel_rfl) rfl rfl rfl rfl (gives_move rfl rfl) (fun w1 hw => hw.pick [] (by decide) rfl) ?_
      refine TH.take (listed' := #[true, true, true, true, true, true, true, false, false, false, false, false]) 6 rfl (by kernel_rfl) (by kernel_rfl) (by kernel_rfl) rfl rfl rfl rfl (gives_move rfl rfl) (fun w1 hw => hw.pick [] (by decide) rfl) ?_
      refine TH.take (listed' := #[true, true, true, true, true, true, true, true, false, false, false, false]) 7 rfl (by kernel_rfl) (by kernel_rfl) (by kernel_rfl) rfl rfl rfl rfl (gives_bin rfl rfl rfl (fun w => bin_sub_ (r := ((m : Nat) : Int)) (by simp only [IntKind.wrap_i64]; omega) w)) (fun w1 hw => hw.pick [] (by decide) rfl) ?_
      refine TH.take (listed' := #[true, true, true, true, true, true, true, true, true, false, false, false]) 8 rfl (by kernel_rfl) (by kernel_rfl) (by kernel_rfl) rfl rfl rfl rfl (gives_sliceH (v := .slice A1 m c1) rfl rfl rfl (fun w => cut_hi Tryd.underlying28 (fun w => rfl) A1 l.length c1 m rfl (by omega) w)) (fun w1 hw => hw.pick [] (by decide) rfl) ?_
      refine TH.only' (listed' := #[true, true, true, true, true, true, true, true, true, true, false, false]) 9 rfl (by kernel_rfl) rfl ?_
      refine TL.pcallRow (n := 32) (ys := bv (macF key (l.take m))) rfl rfl rfl rfl rfl Tryd.func30 jacnm30 jacbd30 (fun w1 hw => mac_any _ _ _ key _ _ _ (l.take m) w1 ((hb2.below hw.bel).more hw.bel.size) (((hb1.below hw.bel).more hw.bel.size).head (by omega)) (by omega) (by omega) (hst.below hw.bel hst.lt) (hky.below hw.bel hky.lt)) (fun A51 c51 hA511 hA512 => ?_)
      refine TL.end_ ?_
      refine TX.held (fun w1 hw => hw.pick [] (by decide) rfl) ?_
      refine TH.only' (listed' := #[true, true, true, true, true, true, true, true, true, true, true, false]) 10 rfl (by kernel_rfl) rfl ?_
      refine TL.pcall1 (r := .bool false) rfl rfl rfl rfl rfl Tryd.func28 jacnm28 jacbd28 (fun w1 hw => retb_lit (decide_eq_false hs2) (wequal _ _ _ _ _ _ (l.drop m) (macF key (l.take m)) w1 (((hb1.below hw.bel).more hw.bel.size).cut (by omega) hnc) (byt_own (hw.at_ (k := 0) rfl) (macF_bs _ _)))) ?_
      refine TL.end_ ?_
      refine TX.held (fun w1 hw => hw.pick [] (by decide) rfl) ?_
      refine TH.take (listed' := #[true, true, true, true, true, true, true, true, true, true, true, true]) 11 rfl (by kernel_rfl) (by kernel_rfl) (by kernel_rfl) rfl rfl rfl rfl (gives_boolnot rfl rfl) (fun w1 hw => hw.pick [] (by decide) rfl) ?_
      refine TH.done (by kernel_rfl) ?_
      refine TX.then_ (TC.condT rfl (TC.seq_ (TC.region ?_)))
      refine TL.val rfl rfl rfl (gives_build (v := .agg #[.int .i64 0, .int .i64 0, .int .i64 0, .slice none 0 0]) rfl rfl (fun w => jacbld45_530  w)) ?_
      refine TL.pstore (k := 4) (vs := [.int .i64 0, .int .i64 0, .int .i64 0, .slice none 0 0]) rfl rfl rfl rfl rfl rfl rfl jacsz45 jacone_i64i64i64s (by show 4 ≤ 4; decide) (L' := [.row (.slice A51 32 c51) 5 1 32 (bv (macF key (l.take m))), .blk g11 86 [.int .i64 (pid l), .int .i64 (prun l), .int .i64 (pfirst l), .int .i64 (getN l 8 1), .slice AP 32 cP, .slice AR (cnt l) cR], .row (.slice AP 32 cP) 5 1 32 (bv (pbef l)), .row (.slice AR (cnt l) cR) 27 17 (cnt l) (rcs (rlB l)), .blk g6 45 [.int .i64 0, .int .i64 0, .int .i64 0, .slice none 0 0], .blk g3 45 [.int .i64 ch.v, .int .i64 ch.run, .int .i64 ch.n, .slice A0 n0 c0]]) rfl ?_
      refine TL.val rfl rfl rfl (gives_assign rfl rfl) ?_
      refine TL.val rfl rfl rfl (gives_assign rfl rfl) ?_
      refine TL.end_ (TX.then_ (TC.ret_ (TX.then_ret ?_)))
      exact ret_cell3 (k := 4) (v := .slice none 0 0) (v2 := .int .i64 19) Tryd.results22 rfl rfl rfl rfl Tryd.underlying45 rfl rfl (fun w1 hw => by rw [hE.1, hE.2.1, hE.2.2]; exact AccR.none_ hw)
    ·have hE := acR_bad (c := ch) (key := key) (acc_form h0 h1 h2 hok) (by decide)
     refine TC.region ?_
     refine TL.val rfl rfl rfl (gives_move rfl rfl) ?_
     refine TL.pcall1 (r := .tuple #[.agg #[.int .i64 0, .int .i64 0, .int .i64 0, .int .i64 0, .slice none 0 0, .slice none 0 0], .int .i64 2]) rfl rfl rfl rfl rfl Tryd.func52 jacnm52 jacbd52 (fun w1 hw => read_bad A1 _ c1 l w1 ((hb1.below hw.bel).more hw.bel.size) hnc (by omega) hwh hok) ?_
     refine TL.val rfl rfl rfl (gives_move rfl rfl) ?_
     refine TL.val rfl rfl rfl (gives_extract rfl rfl rfl) ?_
     refine TL.val rfl rfl rfl (gives_extract rfl rfl rfl) ?_
     refine TL.pnew rfl rfl rfl (exec_alloc (cs := [.int .i64 0, .int .i64 0, .int .i64 0, .int .i64 0, .slice none 0 0, .slice none 0 0]) rfl jaczv86 rfl) (fun g11 => ?_)
     refine TL.pstore (k := 0) (vs := [.int .i64 0, .int .i64 0, .int .i64 0, .int .i64 0, .slice none 0 0, .slice none 0 0]) rfl rfl rfl rfl rfl rfl rfl jacsz86 jacone_i64i64i64i64ss (by show 6 ≤ 6; decide) (L' := [.blk g11 86 [.int .i64 0, .int .i64 0, .int .i64 0, .int .i64 0, .slice none 0 0, .slice none 0 0], .blk g6 45 [.int .i64 0, .int .i64 0, .int .i64 0, .slice none 0 0], .blk g3 45 [.int .i64 ch.v, .int .i64 ch.run, .int .i64 ch.n, .slice A0 n0 c0]]) rfl ?_
     refine TL.val rfl rfl rfl (gives_assign rfl rfl) ?_
     refine TL.end_ (TX.then_ (TC.seq_ (TC.seq_ (TC.region ?_))))
     refine TL.val rfl rfl rfl (gives_move rfl rfl) ?_
     refine TL.val rfl rfl rfl (gives_bin rfl rfl rfl (fun w => bin_neq_t (by decide) w)) ?_
     refine TL.end_ (TX.then_ (TC.condT rfl (TC.seq_ (TC.region ?_))))
     refine TL.val rfl rfl rfl (gives_build (v := .agg #[.int .i64 0, .int .i64 0, .int .i64 0, .slice none 0 0]) rfl rfl (fun w => jacbld45_530  w)) ?_
     refine TL.pstore (k := 1) (vs := [.int .i64 0, .int .i64 0, .int .i64 0, .slice none 0 0]) rfl rfl rfl rfl rfl rfl rfl jacsz45 jacone_i64i64i64s (by show 4 ≤ 4; decide) (L' := [.blk g11 86 [.int .i64 0, .int .i64 0, .int .i64 0, .int .i64 0, .slice none 0 0, .slice none 0 0], .blk g6 45 [.int .i64 0, .int .i64 0, .int .i64 0, .slice none 0 0], .blk g3 45 [.int .i64 ch.v, .int .i64 ch.run, .int .i64 ch.n, .slice A0 n0 c0]]) rfl ?_
     refine TL.val rfl rfl rfl (gives_assign rfl rfl) ?_
     refine TL.val rfl rfl rfl (gives_assign rfl rfl) ?_
     refine TL.end_ (TX.then_ (TC.ret_ (TX.then_ret ?_)))
     exact ret_cell3 (k := 1) (v := .slice none 0 0) (v2 := .int .i64 2) Tryd.results22 rfl rfl rfl rfl Tryd.underlying45 rfl rfl (fun w1 hw => by rw [hE.1, hE.2.1, hE.2.2]; exact AccR.none_ hw)
end Go.Proofs.YtmeaeeehnkcblaaDoor

namespace Go.Proofs.YtmeaeeehnkcblaaDoor
open Go.RowKit
set_option linter.unusedVariables false
set_option linter.unusedSimpArgs false
set_option maxRecDepth 20000
theorem jsegsz27 (w : World) : (sizeOf 27).run Tryd.prog w = .ok 17 w := rfl
theorem jsegag27 (w : World) : (isAgg 27).run Tryd.prog w = .ok true w := rfl
theorem jsegbs72_4_78574 (a0_0 : Int) (a1_0 : Int) (a2_0 : Int) (a3_0 : Int) (w : World) : (Instr.buildSlice 72 4 #[(0, .int .u8 a0_0), (1, .int .u8 a1_0), (2, .int .u8 a2_0), (3, .int .u8 a3_0)]).run Tryd.prog w = .ok (.slice (some ⟨w.heap.size, 0, none⟩) 4 4) (w.alloc (.cells [.int .u8 a0_0, .int .u8 a1_0, .int .u8 a2_0, .int .u8 a3_0].toArray 5)) := by kernel_rfl
theorem jsegzv72 (w : World) : (zeroValue 72).run Tryd.prog w = .ok (.slice none 0 0) w := rfl
theorem jsegsz72 (w : World) : (sizeOf 72).run Tryd.prog w = .ok 1 w := rfl
theorem jsegone_s {a0 : Option Addr} {n0 c0 : Nat} : ∀ u ∈ [(.slice a0 n0 c0 : Value)], u.oneCell' = true := by
 intro u hu
 rw [List.mem_singleton] at hu
 subst hu; rfl
theorem jsegfld45_0 (g o : Nat) (w : World) : (Instr.fieldAt 45 (.pointer (some ⟨g, o, none⟩)) 0).run Tryd.prog w = .ok (.pointer (some ⟨g, o + 0, none⟩)) w := by kernel_rfl
theorem jsegag3 (w : World) : (isAgg 3).run Tryd.prog w = .ok false w := rfl
theorem jsegnm43 : (Tryd.f43.name == "runtime.NumGoroutine") = false := by decide
theorem jsegbd43 : Tryd.f43.body.isNone = false := rfl
theorem jsegfld45_1 (g o : Nat) (w : World) : (Instr.fieldAt 45 (.pointer (some ⟨g, o, none⟩)) 1).run Tryd.prog w = .ok (.pointer (some ⟨g, o + 1, none⟩)) w := by kernel_rfl
theorem jsegfld45_2 (g o : Nat) (w : World) : (Instr.fieldAt 45 (.pointer (some ⟨g, o, none⟩)) 2).run Tryd.prog w = .ok (.pointer (some ⟨g, o + 2, none⟩)) w := by kernel_rfl
theorem jsegag72 (w : World) : (isAgg 72).run Tryd.prog w = .ok false w := rfl
theorem jsegel72 : Elem Tryd.prog 72 5 1 1 := Elem.mk' Tryd.underlying72 (z := .int .u8 0) (by kernel_rfl) rfl (by omega) (by omega)
theorem jsegzv27 (w : World) : (zeroValue 27).run Tryd.prog w = .ok (.agg #[.int .i64 0, .int .i64 0, .int .i64 0, .int .i64 0, .int .u32 0, .int .i64 0, .int .i64 0, .int .i64 0, .bool false, .bool false, .int .i64 0, .int .u32 0, .int .i64 0, .int .i64 0, .int .i64 0, .int .i64 0, .int .i64 0]) w := rfl
theorem jsegnm12 : (Tryd.f12.name == "runtime.NumGoroutine") = false := by decide
theorem jsegbd12 : Tryd.f12.body.isNone = false := rfl
theorem jsegnm30 : (Tryd.f30.name == "runtime.NumGoroutine") = false := by decide
theorem jsegbd30 : Tryd.f30.body.isNone = false := rfl
theorem jsegzv45 (w : World) : (zeroValue 45).run Tryd.prog w = .ok (.agg #[.int .i64 0, .int .i64 0, .int .i64 0, .slice none 0 0]) w := rfl
theorem jsegbs28_4_78574 (a0_0 : Int) (a1_0 : Int) (a2_0 : Int) (a3_0 : Int) (w : World) : (Instr.buildSlice 28 4 #[(0, .int .u8 a0_0), (1, .int .u8 a1_0), (2, .int .u8 a2_0), (3, .int .u8 a3_0)]).run Tryd.prog w = .ok (.slice (some ⟨w.heap.size, 0, none⟩) 4 4) (w.alloc (.cells [.int .u8 a0_0, .int .u8 a1_0, .int .u8 a2_0, .int .u8 a3_0].toArray 5)) := by kernel_rfl
theorem jsegnm44 : (Tryd.f44.name == "runtime.NumGoroutine") = false := by decide
theorem jsegbd44 : Tryd.f44.body.isNone = false := rfl
theorem jsegfld45_3 (g o : Nat) (w : World) : (Instr.fieldAt 45 (.pointer (some ⟨g, o, none⟩)) 3).run Tryd.prog w = .ok (.pointer (some ⟨g, o + 3, none⟩)) w := by kernel_rfl
theorem jsegag28 (w : World) : (isAgg 28).run Tryd.prog w = .ok false w := rfl
theorem jsegel28 : Elem Tryd.prog 28 5 1 1 := Elem.mk' Tryd.underlying28 (z := .int .u8 0) (by kernel_rfl) rfl (by omega) (by omega)
theorem jsegnm13 : (Tryd.f13.name == "runtime.NumGoroutine") = false := by decide
theorem jsegbd13 : Tryd.f13.body.isNone = false := rfl
theorem jsegnm29 : (Tryd.f29.name == "runtime.NumGoroutine") = false := by decide
theorem jsegbd29 : Tryd.f29.body.isNone = false := rfl
theorem jsegsz3 (w : World) : (sizeOf 3).run Tryd.prog w = .ok 1 w := rfl
theorem jsegone_i64 {a0 : Int} : ∀ u ∈ [(.int .i64 a0 : Value)], u.oneCell' = true := by
 intro u hu
 rw [List.mem_singleton] at hu
 subst hu; rfl
theorem jsegnm57 : (Tryd.f57.name == "runtime.NumGoroutine") = false := by decide
theorem jsegbd57 : Tryd.f57.body.isNone = false := rfl
theorem jsegsz28 (w : World) : (sizeOf 28).run Tryd.prog w = .ok 1 w := rfl
theorem jsegag45 (w : World) : (isAgg 45).run Tryd.prog w = .ok true w := rfl
theorem jsegsz45 (w : World) : (sizeOf 45).run Tryd.prog w = .ok 4 w := rfl
theorem jsegone_i64i64i64s {a0 : Int} {a1 : Int} {a2 : Int} {a3 : Option Addr} {n3 c3 : Nat} : ∀ u ∈ [(.int .i64 a0 : Value), .int .i64 a1, .int .i64 a2, .slice a3 n3 c3], u.oneCell' = true := by
 intro u hu
 simp only [List.mem_cons, List.not_mem_nil, or_false] at hu
 rcases hu with rfl | rfl | rfl | rfl <;> rfl
set_option maxHeartbeats 2000000 in
theorem seg_any (v run n : Int) (A0 : Option Addr) (n0 c0 : Nat) (A1 : Option Addr) (n1 c1 : Nat) (d : List Int) (A2 : Option Addr) (c2 : Nat) (rl : List Rs) (A3 : Option Addr) (n3 c3 : Nat) (key : List Int) (w : World) (hb1 : Byt w w.heap.size A1 n1 d) (hr2 : Reads w w.heap.size 17 A2 rl.length (rcs rl)) (hb3 : Byt w w.heap.size A3 n3 key) (hv0 : 0 ≤ v) (hv1 : v ≤ 255) (hr0 : 0 ≤ run) (hr1 : run ≤ 255) (hn0 : 0 ≤ n) (hn1 : n ≤ 65535) (hm : rl.length ≤ 255) (hd : d.length ≤ 10000) (hk : n3 ≤ 1000000000) (hOk : ∀ r ∈ rl, r.Ok) {ts tk : TypeId} (hst : Blk w 0 ts start8.cells) (hky : Blk w 1 tk (arrOf keysL)) :
  Calls Tryd.prog 59 #[.agg #[.int .i64 v, .int .i64 run, .int .i64 n, .slice A0 n0 c0], .slice A1 n1 c1, .slice A2 rl.length c2, .slice A3 n3 c3] w fun e w' => ∃ A c, e = .returned (.slice A (segL v run n d rl key).length c) ∧ (segL v run n d rl key).length ≤ c ∧ c ≤ maxLen ∧ w'.ownsRow w.heap.size 5 1 (.slice A (segL v run n d rl key).length c) (segL v run n d rl key).length (bv (segL v run n d rl key)) ∧ Below w.heap.size w w' := by
 have hl1 := hb1.len
 refine begin_ (vs := [.agg #[.int .i64 v, .int .i64 run, .int .i64 n, .slice A0 n0 c0], .slice A1 n1 c1, .slice A2 rl.length c2, .slice A3 n3 c3]) Tryd.func59 rfl rfl rfl ?_ (Pm.start w)
 refine TC.seq_ (TC.region ?_)
 refine TL.pnew rfl rfl rfl (exec_box (cs := [.int .i64 v, .int .i64 run, .int .i64 n, .slice A0 n0 c0]) rfl rfl rfl) (fun g4 => ?_)
 refine TL.val rfl rfl rfl (gives_assign rfl rfl) ?_
 refine TL.end_ (TX.then_ (TC.seq_ (TC.region ?_)))
 refine TL.prowS (e := 5) (size := 1) (cs := bv rsj) rfl rfl rfl rfl rfl (fun w => jsegbs72_4_78574 _ _ _ _ w) (by decide) rfl (fun g14 => ?_)
 refine TL.mark (k := 0) rfl rfl rfl rfl rfl Tryd.underlying72 Tryd.underlying5 rfl ?_
 refine TL.pnew rfl rfl rfl (exec_alloc (cs := [.slice none 0 0]) rfl jsegzv72 rfl) (fun g9 => ?_)
 refine TL.pstore (k := 0) (vs := [.slice (some ⟨g14, 0, none⟩) 4 4]) rfl rfl rfl rfl rfl rfl rfl jsegsz72 jsegone_s (by show 1 ≤ 1; decide) (L' := [.blk g9 72 [.slice (some ⟨g14, 0, none⟩) 4 4], .oth g14 (.cells (bv rsj).toArray 5 (4, 4 + 1)), .blk g4 45 [.int .i64 v, .int .i64 run, .int .i64 n, .slice A0 n0 c0]]) rfl ?_
 refine TL.end_ (TX.then_ (TC.seq_ (TC.region ?_)))
 refine TL.val rfl rfl rfl (gives_field (v := .pointer (some ⟨g4, 0, none⟩)) rfl rfl (fun w => jsegfld45_0 _ _ w)) ?_
 refine TL.val rfl rfl rfl (pm_load (k := 2) (i := 0) rfl rfl jsegag3 rfl rfl) ?_
 refine TL.pcallChg (k := 0) (α := {p : Option Addr × Nat // 5 ≤ p.2 ∧ p.2 ≤ maxLen}) (fun y => .tuple #[]) (fun y => [.slice y.1.1 5 y.1.2]) (fun y => [.row (.slice y.1.1 5 y.1.2) 5 1 5 (bv (rsj ++ enc v 1))]) rfl rfl rfl rfl rfl Tryd.func43 jsegnm43 jsegbd43 rfl (fun w1 hw => wput g9 (some ⟨g14, 0, none⟩) 4 4 (rsj) v 1 w1 (hw.at_ (k := 0) rfl).1 (byt_oth (hw.at_ (k := 1) rfl).1 rsj_bs rfl) (fun _ ad e hg => hw.neq (i := 1) (j := 0) rfl rfl (by decide) ad.block (by first | (subst e; rfl) | (cases e; rfl)) (congrArg some hg.symm)) (by omega) hv0 (by simp only [Int.pow_succ, Int.pow_zero]; omega) (by decide) (by decide)) ?_
 rintro ⟨⟨A18, c18⟩, hA181, hA182⟩
 dsimp only [List.cons_append, List.nil_append, List.set]
 dsimp only at hA181 hA182
 refine TL.end_ (TX.then_ (TC.seq_ (TC.region ?_)))
 refine TL.val rfl rfl rfl (gives_field (v := .pointer (some ⟨g4, 1, none⟩)) rfl rfl (fun w => jsegfld45_1 _ _ w)) ?_
 refine TL.val rfl rfl rfl (pm_load (k := 3) (i := 1) rfl rfl jsegag3 rfl rfl) ?_
 refine TL.pcallChg (k := 1) (α := {p : Option Addr × Nat // 6 ≤ p.2 ∧ p.2 ≤ maxLen}) (fun y => .tuple #[]) (fun y => [.slice y.1.1 6 y.1.2]) (fun y => [.row (.slice y.1.1 6 y.1.2) 5 1 6 (bv ((rsj ++ enc v 1) ++ enc run 1))]) rfl rfl rfl rfl rfl Tryd.func43 jsegnm43 jsegbd43 rfl (fun w1 hw => wput g9 A18 5 c18 (rsj ++ enc v 1) run 1 w1 (hw.at_ (k := 1) rfl).1 (byt_own (hw.at_ (k := 0) rfl) (rsj_bs.app (enc_bs _ _))) (fun _ ad e hg => hw.neq (i := 0) (j := 1) rfl rfl (by decide) ad.block (by first | (subst e; rfl) | (cases e; rfl)) (congrArg some hg.symm)) (by omega) hr0 (by simp only [Int.pow_succ, Int.pow_zero]; omega) (by decide) (by decide)) ?_
 rintro ⟨⟨A21, c21⟩, hA211, hA212⟩
 dsimp only [List.cons_append, List.nil_append, List.set]
 dsimp only at hA211 hA212
 refine TL.end_ (TX.then_ (TC.seq_ (TC.region ?_)))
 refine TL.val rfl rfl rfl (gives_field (v := .pointer (some ⟨g4, 2, none⟩)) rfl rfl (fun w => jsegfld45_2 _ _ w)) ?_
 refine TL.val rfl rfl rfl (pm_load (k := 4) (i := 2) rfl rfl jsegag3 rfl rfl) ?_
 refine TL.pcallChg (k := 2) (α := {p : Option Addr × Nat // 8 ≤ p.2 ∧ p.2 ≤ maxLen}) (fun y => .tuple #[]) (fun y => [.slice y.1.1 8 y.1.2]) (fun y => [.row (.slice y.1.1 8 y.1.2) 5 1 8 (bv (((rsj ++ enc v 1) ++ enc run 1) ++ enc n 2))]) rfl rfl rfl rfl rfl Tryd.func43 jsegnm43 jsegbd43 rfl (fun w1 hw => wput g9 A21 6 c21 ((rsj ++ enc v 1) ++ enc run 1) n 2 w1 (hw.at_ (k := 2) rfl).1 (byt_own (hw.at_ (k := 0) rfl) ((rsj_bs.app (enc_bs _ _)).app (enc_bs _ _))) (fun _ ad e hg => hw.neq (i := 0) (j := 2) rfl rfl (by decide) ad.block (by first | (subst e; rfl) | (cases e; rfl)) (congrArg some hg.symm)) (by omega) hn0 (by simp only [Int.pow_succ, Int.pow_zero]; omega) (by decide) (by decide)) ?_
 rintro ⟨⟨A24, c24⟩, hA241, hA242⟩
 dsimp only [List.cons_append, List.nil_append, List.set]
 dsimp only at hA241 hA242
 refine TL.end_ (TX.then_ (TC.seq_ (TC.region ?_)))
 refine TL.val rfl rfl rfl (gives_move rfl rfl) ?_
 refine TL.val rfl rfl rfl (gives_len rfl Tryd.underlying33 rfl) ?_
 refine TL.pcallChg (k := 3) (α := {p : Option Addr × Nat // 9 ≤ p.2 ∧ p.2 ≤ maxLen}) (fun y => .tuple #[]) (fun y => [.slice y.1.1 9 y.1.2]) (fun y => [.row (.slice y.1.1 9 y.1.2) 5 1 9 (bv ((((rsj ++ enc v 1) ++ enc run 1) ++ enc n 2) ++ enc (rl.length : Nat) 1))]) rfl rfl rfl rfl rfl Tryd.func43 jsegnm43 jsegbd43 rfl (fun w1 hw => wput g9 A24 8 c24 (((rsj ++ enc v 1) ++ enc run 1) ++ enc n 2) (rl.length : Nat) 1 w1 (hw.at_ (k := 3) rfl).1 (byt_own (hw.at_ (k := 0) rfl) (((rsj_bs.app (enc_bs _ _)).app (enc_bs _ _)).app (enc_bs _ _))) (fun _ ad e hg => hw.neq (i := 0) (j := 3) rfl rfl (by decide) ad.block (by first | (subst e; rfl) | (cases e; rfl)) (congrArg some hg.symm)) (by omega) (by omega) (by simp only [Int.pow_succ, Int.pow_zero]; omega) (by decide) (by decide)) ?_
 rintro ⟨⟨A27, c27⟩, hA271, hA272⟩
 dsimp only [List.cons_append, List.nil_append, List.set]
 dsimp only at hA271 hA272
 refine TL.end_ (TX.then_ (TC.seq_ (TC.region ?_)))
 refine TL.val rfl rfl rfl (pm_load (k := 4) (i := 0) rfl rfl jsegag72 rfl rfl) ?_
 refine TL.val rfl rfl rfl (gives_move rfl rfl) ?_
 refine TL.appendT (k := 0) rfl rfl rfl rfl Tryd.underlying28 jsegel72 rfl rfl rfl (fun w1 hw => ⟨_, (hb1.below hw.bel).1⟩) (bv_one _) (by have := hb1.len; omega) ((segW v run n rl.length d rl 0).length) (by rw [segW_zero, List.length_append, segH_len, hb1.len]) (bv (segW v run n rl.length d rl 0)) (by rw [segW_zero, bv_app]; rfl) (fun A30 c30 hA301 hA302 => ?_)
 refine TL.pstore (k := 4) (vs := [.slice A30 ((segW v run n rl.length d rl 0).length) c30]) rfl rfl rfl rfl rfl rfl rfl jsegsz72 jsegone_s (by show 1 ≤ 1; decide) (L' := [.row (.slice A30 ((segW v run n rl.length d rl 0).length) c30) 5 1 ((segW v run n rl.length d rl 0).length) (bv (segW v run n rl.length d rl 0)), .row (.slice A24 8 c24) 5 1 8 (bv (((rsj ++ enc v 1) ++ enc run 1) ++ enc n 2)), .row (.slice A21 6 c21) 5 1 6 (bv ((rsj ++ enc v 1) ++ enc run 1)), .row (.slice A18 5 c18) 5 1 5 (bv (rsj ++ enc v 1)), .blk g9 72 [.slice A30 ((segW v run n rl.length d rl 0).length) c30], .oth g14 (.cells (bv rsj).toArray 5 (4, 4 + 1)), .blk g4 45 [.int .i64 v, .int .i64 run, .int .i64 n, .slice A0 n0 c0]]) rfl ?_
 refine TL.end_ (TX.then_ (TC.seq_ (TC.seq_ (TC.region ?_))))
 refine TL.val rfl rfl rfl (gives_move rfl rfl) ?_
 refine TL.val rfl rfl rfl (gives_len rfl Tryd.underlying33 rfl) ?_
 refine TL.val rfl rfl rfl (gives_move rfl rfl) ?_
 refine TL.end_ (TX.then_ (TC.block ?_))
 refine TC.loop_ (α := {y : Nat × Option Addr × Nat // y.1 ≤ rl.length ∧ (segW v run n rl.length d rl y.1).length ≤ y.2.2 ∧ y.2.2 ≤ maxLen}) (fun y => [(3, .slice A3 n3 c3), (9, .pointer (some ⟨g9, 0, none⟩)), (31, .slice A2 rl.length c2), (32, .int .i64 (rl.length : Nat)), (33, .int .i64 (y.1.1 : Nat))]) (fun y => Pm w [.row (.slice y.1.2.1 ((segW v run n rl.length d rl y.1.1).length) y.1.2.2) 5 1 ((segW v run n rl.length d rl y.1.1).length) (bv (segW v run n rl.length d rl y.1.1)), .blk g9 72 [.slice y.1.2.1 ((segW v run n rl.length d rl y.1.1).length) y.1.2.2]]) (fun y => rl.length - y.1.1) (⟨(0, A30, c30), Nat.zero_le _, hA301, hA302⟩) ⟨rfl, rfl, rfl, rfl, rfl, trivial⟩ (fun w1 hw => hw.pick [0, 4] (by decide) rfl) ?_
 rintro ⟨⟨i, A, c⟩, hi, hc, hc9⟩
 dsimp only at hi hc hc9 ⊢
 refine TC.seq_ (TC.region ?_)
 refine TL.vsplit rfl rfl rfl (gives_bin rfl rfl rfl (fun w => bin_lss w)) (fun h34 => ?_) (fun h34 => ?_)
 ·have q34 := of_decide_eq_true h34
  have hi2 : i < rl.length := by omega
  obtain ⟨r, hxr⟩ : ∃ r, rl[i]? = some r := ⟨_, List.getElem?_eq_getElem hi2⟩
  obtain ⟨b2, o2, hA2, hbb2, hc2⟩ := hr2.ad (by omega) (by decide)
  have hro := hOk r (List.mem_of_getElem? hxr)
  have hle := segW_le v run n rl.length d rl i
  have hle2 := segW_le v run n rl.length d rl (i + 1)
  have hen := encO_len r
  have hen2 : (encO r).length ≤ 37 := by rw [hen]; split <;> omega
  refine TL.end_ (TX.then_ (TC.seq_ (TC.condT rfl (TC.skip_ (TX.then_ (TC.seq_ (TC.block (TC.seq_ (TC.region ?_)))))))))
  refine TL.val rfl rfl rfl (gives_at (v := .pointer (some ⟨b2, o2 + i * 17, none⟩)) rfl rfl rfl (fun w => at_el Tryd.underlying33 jsegsz27 hA2 _ _ i hi2 rfl w)) ?_
  refine TL.val rfl rfl rfl (gives_loadR rfl rfl jsegag27 jsegsz27 (rs_cells_len r) (fun w1 hw j u hu => (hw.bel.cell hbb2).trans (rcs_cell hxr hc2 j u hu))) ?_
  refine TL.pnew rfl rfl rfl (exec_alloc (cs := [.int .i64 0, .int .i64 0, .int .i64 0, .int .i64 0, .int .u32 0, .int .i64 0, .int .i64 0, .int .i64 0, .bool false, .bool false, .int .i64 0, .int .u32 0, .int .i64 0, .int .i64 0, .int .i64 0, .int .i64 0, .int .i64 0]) rfl jsegzv27 rfl) (fun g11 => ?_)
  refine TL.pstore (k := 0) (vs := r.cells) rfl rfl rfl rfl rfl rfl rfl jsegsz27 (rs_one r) (by show 17 ≤ 17; decide) (L' := [.blk g11 27 r.cells, .row (.slice A ((segW v run n rl.length d rl i).length) c) 5 1 ((segW v run n rl.length d rl i).length) (bv (segW v run n rl.length d rl i)), .blk g9 72 [.slice A ((segW v run n rl.length d rl i).length) c]]) rfl ?_
  refine TL.end_ (TX.then_ (TC.seq_ (TC.region ?_)))
  refine TL.val rfl rfl rfl (pm_loadV (k := 0) (i := 0) (n := 17) (v := .agg (r.cells).toArray) rfl rfl jsegag27 jsegsz27 rfl (by show 17 ≤ 17; decide) rfl) ?_
  refine TL.pcallPair (n := (encO r).length) (ys := bv (encO r)) (v := .int .i64 (chkR r)) rfl rfl rfl rfl rfl Tryd.func12 jsegnm12 jsegbd12 (fun w1 hw => encode_any r hro w1) (fun A39 c39 hA391 hA392 => ?_)
  iterate 5 (first | refine TL.val rfl rfl rfl (gives_assign rfl rfl) ?_ | refine TL.val rfl rfl rfl (gives_extract rfl rfl rfl) ?_ | refine TL.val rfl rfl rfl (gives_move rfl rfl) ?_)
  refine TL.end_ (TX.then_ (TC.region ?_))
  refine TL.val rfl rfl rfl (pm_load (k := 3) (i := 0) rfl rfl jsegag72 rfl rfl) ?_
  refine TL.val rfl rfl rfl (gives_move rfl rfl) ?_
  refine TL.appendT (k := 2) rfl rfl rfl rfl Tryd.underlying28 jsegel72 rfl rfl rfl (fun w1 hw => pm_reads hw (k := 0) rfl) (bv_one _) (by omega) ((segW v run n rl.length d rl (i + 1)).length) (by rw [segW_succ hxr, List.length_append]) (bv (segW v run n rl.length d rl (i + 1))) (by rw [segW_succ hxr, bv_app]) (fun A44 c44 hA441 hA442 => ?_)
  refine TL.pstore (k := 3) (vs := [.slice A44 ((segW v run n rl.length d rl (i + 1)).length) c44]) rfl rfl rfl rfl rfl rfl rfl jsegsz72 jsegone_s (by show 1 ≤ 1; decide) (L' := [.row (.slice A39 ((encO r).length) c39) 5 1 ((encO r).length) (bv (encO r)), .blk g11 27 r.cells, .row (.slice A44 ((segW v run n rl.length d rl (i + 1)).length) c44) 5 1 ((segW v run n rl.length d rl (i + 1)).length) (bv (segW v run n rl.length d rl (i + 1))), .blk g9 72 [.slice A44 ((segW v run n rl.length d rl (i + 1)).length) c44]]) rfl ?_
  refine TL.end_ (TX.in_normal (TX.then_ (TC.region ?_)))
  refine TL.val rfl rfl rfl (gives_bin rfl rfl rfl (fun w => bin_add_ (r := ((i + 1 : Nat) : Int)) (by simp only [IntKind.wrap_i64]; omega) w)) ?_
  refine TL.val rfl rfl rfl (gives_move rfl rfl) ?_
  refine TL.end_ ?_
  exact TX.round (⟨(i + 1, A44, c44), hi2, hA441, hA442⟩) (by show rl.length - (i + 1) < rl.length - i; omega) ⟨rfl, rfl, rfl, rfl, rfl, trivial⟩ (fun w1 hw => hw.pick [2, 3] (by decide) rfl)
 ·have q34 := of_decide_eq_false h34
  have hi2 : i = rl.length := by omega
  subst hi2
  have hle := segW_le v run n rl.length d rl rl.length
  refine TL.end_ (TX.then_ (TC.seq_ (TC.condF rfl (TC.exit_ (TX.then_exit (TX.then_exit (TX.in_same (TX.then_ (TC.seq_ ?_)))))))))
  refine TC.held (ls := #[false, false, false, false, false, false]) (Pm w [.blk g9 72 [.slice A ((segW v run n rl.length d rl rl.length).length) c]]) (by kernel_rfl) rfl rfl (fun w hw => hw.drawn _) ?_
  refine TH.take (listed' := #[true, false, false, false, false, false]) 0 rfl (by kernel_rfl) (by kernel_rfl) (by kernel_rfl) rfl rfl rfl rfl (pm_load (k := 0) (i := 0) rfl rfl jsegag72 rfl rfl) (fun w1 hw => hw.pick [1] (by decide) rfl) ?_
  refine TH.take (listed' := #[true, true, false, false, false, false]) 1 rfl (by kernel_rfl) (by kernel_rfl) (by kernel_rfl) rfl rfl rfl rfl (gives_move rfl rfl) (fun w1 hw => hw.pick [1] (by decide) rfl) ?_
  refine TH.take (listed' := #[true, true, true, false, false, false]) 2 rfl (by kernel_rfl) (by kernel_rfl) (by kernel_rfl) rfl rfl rfl rfl (pm_load (k := 0) (i := 0) rfl rfl jsegag72 rfl rfl) (fun w1 hw => hw.pick [1] (by decide) rfl) ?_
  refine TH.only' (listed' := #[true, true, true, true, false, false]) 3 rfl (by kernel_rfl) rfl ?_
  refine TL.pcallRow (n := 32) (ys := bv (macF key (segW v run n rl.length d rl rl.length))) rfl rfl rfl rfl rfl Tryd.func30 jsegnm30 jsegbd30 (fun w1 hw => mac_any _ _ _ key _ _ _ (segW v run n rl.length d rl rl.length) w1 ((hb3.below hw.bel).more hw.bel.size) (byt_own (hw.at_ (k := 0) rfl) (segW_bs v run n rl.length hb1.2 rl _)) (by omega) (by omega) (hst.below hw.bel hst.lt) (hky.below hw.bel hky.lt)) (fun A49 c49 hA491 hA492 => ?_)
  refine TL.end_ ?_
  refine TX.held (fun w1 hw => hw.pick [2] (by decide) rfl) ?_
  refine TH.only' (listed' := #[true, true, true, true, true, false]) 4 rfl (by kernel_rfl) rfl ?_
  refine TL.appendT (k := 1) rfl rfl rfl rfl Tryd.underlying28 jsegel72 rfl rfl rfl (fun w1 hw => pm_reads hw (k := 0) rfl) (bv_one _) (by omega) ((segL v run n d rl key).length) (segL_len v run n d rl key) (bv (segL v run n d rl key)) (by rw [segL, bv_app]; rfl) (fun A50 c50 hA501 hA502 => ?_)
  refine TL.end_ ?_
  refine TX.held (fun w1 hw => hw.pick [2] (by decide) rfl) ?_
  refine TH.take (listed' := #[true, true, true, true, true, true]) 5 rfl (by kernel_rfl) (by kernel_rfl) (by kernel_rfl) rfl rfl rfl rfl (gives_assign rfl rfl) (fun w1 hw => hw.pick [2] (by decide) rfl) ?_
  refine TH.done (by kernel_rfl) ?_
  refine TX.then_ (TC.ret_ ?_)
  exact ret_tmp Tryd.results59 rfl (fun w1 hw => ⟨A50, c50, rfl, hA501, hA502, hw.at_ (k := 1) rfl, hw.bel⟩)
set_option maxHeartbeats 2000000 in
theorem rseg_any (v run n : Int) (A0 : Option Addr) (n0 c0 : Nat) (d : List Int) (A2 : Option Addr) (c2 : Nat) (rl : List Rs) (A3 : Option Addr) (n3 c3 : Nat) (key : List Int) (w : World) (hb0 : Byt w w.heap.size A0 n0 d) (hr2 : Reads w w.heap.size 17 A2 rl.length (rcs rl)) (hb3 : Byt w w.heap.size A3 n3 key) (hv0 : 0 ≤ v) (hv1 : v ≤ 255) (hr0 : 0 ≤ run) (hr1 : run ≤ 255) (hn0 : 0 ≤ n) (hn1 : n ≤ 65535) (hm : rl.length ≤ 255) (hd : d.length ≤ 10000) (hk : n3 ≤ 1000000000) (hOk : ∀ r ∈ rl, r.Ok) :
  Calls Tryd.prog 60 #[.agg #[.int .i64 v, .int .i64 run, .int .i64 n, .slice A0 n0 c0], .slice A2 rl.length c2, .slice A3 n3 c3] w fun e w' => ∃ y : {p : (Option Addr × Nat) × (Option Addr × Nat) // ((segL v run n d rl key).length ≤ p.1.2 ∧ p.1.2 ≤ maxLen) ∧ (32 ≤ p.2.2 ∧ p.2.2 ≤ maxLen)}, e = .returned (.tuple #[.agg #[.int .i64 v, .int .i64 run, .int .i64 (n + (rl.length : Nat)), .slice y.1.2.1 32 y.1.2.2], .slice y.1.1.1 (segL v run n d rl key).length y.1.1.2]) ∧ Pm w [.row (.slice y.1.1.1 (segL v run n d rl key).length y.1.1.2) 5 1 (segL v run n d rl key).length (bv (segL v run n d rl key)), .row (.slice y.1.2.1 32 y.1.2.2) 5 1 32 (bv (shaF (segL v run n d rl key)))] w' := by
 have hl0 := hb0.len
 refine begin_ (vs := [.agg #[.int .i64 v, .int .i64 run, .int .i64 n, .slice A0 n0 c0], .slice A2 rl.length c2, .slice A3 n3 c3]) Tryd.func60 rfl rfl rfl ?_ (Pm.start w)
 refine TC.seq_ (TC.region ?_)
 refine TL.pnew rfl rfl rfl (exec_box (cs := [.int .i64 v, .int .i64 run, .int .i64 n, .slice A0 n0 c0]) rfl rfl rfl) (fun g3 => ?_)
 refine TL.pnew rfl rfl rfl (exec_alloc (cs := [.int .i64 0, .int .i64 0, .int .i64 0, .slice none 0 0]) rfl jsegzv45 rfl) (fun g6 => ?_)
 refine TL.val rfl rfl rfl (gives_assign rfl rfl) ?_
 refine TL.end_ (TX.then_ (TC.seq_ (TC.region ?_)))
 refine TL.prowS (e := 5) (size := 1) (cs := bv rsj) rfl rfl rfl rfl rfl (fun w => jsegbs28_4_78574 _ _ _ _ w) (by decide) rfl (fun g12 => ?_)
 refine TL.mark (k := 0) rfl rfl rfl rfl rfl Tryd.underlying28 Tryd.underlying5 rfl ?_
 refine TL.val rfl rfl rfl (gives_assign rfl rfl) ?_
 refine TL.end_ (TX.then_ (TC.seq_ (TC.region ?_)))
 refine TL.val rfl rfl rfl (gives_move rfl rfl) ?_
 refine TL.val rfl rfl rfl (gives_field (v := .pointer (some ⟨g3, 0, none⟩)) rfl rfl (fun w => jsegfld45_0 _ _ w)) ?_
 refine TL.val rfl rfl rfl (pm_load (k := 2) (i := 0) rfl rfl jsegag3 rfl rfl) ?_
 refine TL.pcallRow (n := 5) (ys := bv (rsj ++ enc v 1)) rfl rfl rfl rfl rfl Tryd.func44 jsegnm44 jsegbd44 (fun w1 hw => jpush (some ⟨g12, 0, none⟩) 4 4 (rsj) v 1 w1 (byt_oth (hw.at_ (k := 0) rfl).1 rsj_bs rfl) (by omega) hv0 (by simp only [Int.pow_succ, Int.pow_zero]; omega) (by decide) (by decide)) (fun A17 c17 hA171 hA172 => ?_)
 refine TL.val rfl rfl rfl (gives_assign rfl rfl) ?_
 refine TL.end_ (TX.then_ (TC.seq_ (TC.region ?_)))
 refine TL.val rfl rfl rfl (gives_move rfl rfl) ?_
 refine TL.val rfl rfl rfl (gives_field (v := .pointer (some ⟨g3, 1, none⟩)) rfl rfl (fun w => jsegfld45_1 _ _ w)) ?_
 refine TL.val rfl rfl rfl (pm_load (k := 3) (i := 1) rfl rfl jsegag3 rfl rfl) ?_
 refine TL.pcallRow (n := 6) (ys := bv ((rsj ++ enc v 1) ++ enc run 1)) rfl rfl rfl rfl rfl Tryd.func44 jsegnm44 jsegbd44 (fun w1 hw => jpush A17 5 c17 (rsj ++ enc v 1) run 1 w1 (byt_own (hw.at_ (k := 0) rfl) (rsj_bs.app (enc_bs _ _))) (by omega) hr0 (by simp only [Int.pow_succ, Int.pow_zero]; omega) (by decide) (by decide)) (fun A21 c21 hA211 hA212 => ?_)
 refine TL.val rfl rfl rfl (gives_assign rfl rfl) ?_
 refine TL.end_ (TX.then_ (TC.seq_ (TC.region ?_)))
 refine TL.val rfl rfl rfl (gives_move rfl rfl) ?_
 refine TL.val rfl rfl rfl (gives_field (v := .pointer (some ⟨g3, 2, none⟩)) rfl rfl (fun w => jsegfld45_2 _ _ w)) ?_
 refine TL.val rfl rfl rfl (pm_load (k := 4) (i := 2) rfl rfl jsegag3 rfl rfl) ?_
 refine TL.pcallRow (n := 8) (ys := bv (((rsj ++ enc v 1) ++ enc run 1) ++ enc n 2)) rfl rfl rfl rfl rfl Tryd.func44 jsegnm44 jsegbd44 (fun w1 hw => jpush A21 6 c21 ((rsj ++ enc v 1) ++ enc run 1) n 2 w1 (byt_own (hw.at_ (k := 0) rfl) ((rsj_bs.app (enc_bs _ _)).app (enc_bs _ _))) (by omega) hn0 (by simp only [Int.pow_succ, Int.pow_zero]; omega) (by decide) (by decide)) (fun A25 c25 hA251 hA252 => ?_)
 refine TL.val rfl rfl rfl (gives_assign rfl rfl) ?_
 refine TL.end_ (TX.then_ (TC.seq_ (TC.region ?_)))
 refine TL.val rfl rfl rfl (gives_move rfl rfl) ?_
 refine TL.val rfl rfl rfl (gives_move rfl rfl) ?_
 refine TL.val rfl rfl rfl (gives_len rfl Tryd.underlying33 rfl) ?_
 refine TL.pcallRow (n := 9) (ys := bv ((((rsj ++ enc v 1) ++ enc run 1) ++ enc n 2) ++ enc (rl.length : Nat) 1)) rfl rfl rfl rfl rfl Tryd.func44 jsegnm44 jsegbd44 (fun w1 hw => jpush A25 8 c25 (((rsj ++ enc v 1) ++ enc run 1) ++ enc n 2) (rl.length : Nat) 1 w1 (byt_own (hw.at_ (k := 0) rfl) (((rsj_bs.app (enc_bs _ _)).app (enc_bs _ _)).app (enc_bs _ _))) (by omega) (by omega) (by simp only [Int.pow_succ, Int.pow_zero]; omega) (by decide) (by decide)) (fun A29 c29 hA291 hA292 => ?_)
 refine TL.val rfl rfl rfl (gives_assign rfl rfl) ?_
 refine TL.end_ (TX.then_ (TC.seq_ (TC.region ?_)))
 refine TL.val rfl rfl rfl (gives_move rfl rfl) ?_
 refine TL.val rfl rfl rfl (gives_field (v := .pointer (some ⟨g3, 3, none⟩)) rfl rfl (fun w => jsegfld45_3 _ _ w)) ?_
 refine TL.val rfl rfl rfl (pm_load (k := 6) (i := 3) rfl rfl jsegag28 rfl rfl) ?_
 refine TL.appendT (k := 0) rfl rfl rfl rfl Tryd.underlying28 jsegel28 rfl rfl rfl (fun w1 hw => ⟨_, (hb0.below hw.bel).1⟩) (bv_one _) (by have := hb0.len; omega) ((segW v run n rl.length d rl 0).length) (by rw [segW_zero, List.length_append, segH_len, hb0.len]) (bv (segW v run n rl.length d rl 0)) (by rw [segW_zero, bv_app]; rfl) (fun A33 c33 hA331 hA332 => ?_)
 refine TL.val rfl rfl rfl (gives_assign rfl rfl) ?_
 refine TL.end_ (TX.then_ (TC.seq_ (TC.seq_ (TC.region ?_))))
 refine TL.val rfl rfl rfl (gives_assign rfl rfl) ?_
 refine TL.end_ (TX.then_ (TC.block ?_))
 refine TC.loop_ (α := {y : Nat × Option Addr × Nat // y.1 ≤ rl.length ∧ (segW v run n rl.length d rl y.1).length ≤ y.2.2 ∧ y.2.2 ≤ maxLen}) (fun y => [(1, .slice A2 rl.length c2), (2, .slice A3 n3 c3), (3, .pointer (some ⟨g3, 0, none⟩)), (6, .pointer (some ⟨g6, 0, none⟩)), (8, .slice y.1.2.1 ((segW v run n rl.length d rl y.1.1).length) y.1.2.2), (9, .int .i64 (y.1.1 : Nat))]) (fun y => Pm w [.row (.slice y.1.2.1 ((segW v run n rl.length d rl y.1.1).length) y.1.2.2) 5 1 ((segW v run n rl.length d rl y.1.1).length) (bv (segW v run n rl.length d rl y.1.1)), .blk g3 45 [.int .i64 v, .int .i64 run, .int .i64 n, .slice A0 n0 c0], .blk g6 45 [.int .i64 0, .int .i64 0, .int .i64 0, .slice none 0 0]]) (fun y => rl.length - y.1.1) (⟨(0, A33, c33), Nat.zero_le _, hA331, hA332⟩) ⟨rfl, rfl, rfl, rfl, rfl, rfl, trivial⟩ (fun w1 hw => hw.pick [0, 6, 5] (by decide) rfl) ?_
 rintro ⟨⟨i, A, c⟩, hi, hc, hc9⟩
 dsimp only at hi hc hc9 ⊢
 refine TC.seq_ (TC.seq_ (TC.region ?_))
 refine TL.val rfl rfl rfl (gives_move rfl rfl) ?_
 refine TL.val rfl rfl rfl (gives_move rfl rfl) ?_
 refine TL.val rfl rfl rfl (gives_len rfl Tryd.underlying33 rfl) ?_
 refine TL.vsplit rfl rfl rfl (gives_bin rfl rfl rfl (fun w => bin_lss w)) (fun h37 => ?_) (fun h37 => ?_)
 ·have q37 := of_decide_eq_true h37
  have hi2 : i < rl.length := by omega
  obtain ⟨r, hxr⟩ : ∃ r, rl[i]? = some r := ⟨_, List.getElem?_eq_getElem hi2⟩
  obtain ⟨b2, o2, hA2, hbb2, hc2⟩ := hr2.ad (by omega) (by decide)
  have hro := hOk r (List.mem_of_getElem? hxr)
  have hle := segW_le v run n rl.length d rl i
  have hle2 := segW_le v run n rl.length d rl (i + 1)
  have hen := encO_len r
  have hen2 : (encO r).length ≤ 37 := by rw [hen]; split <;> omega
  refine TL.end_ (TX.then_ (TC.condT rfl (TC.skip_ (TX.then_ (TC.seq_ (TC.block (TC.seq_ (TC.region ?_))))))))
  refine TL.val rfl rfl rfl (gives_move rfl rfl) ?_
  refine TL.val rfl rfl rfl (gives_move rfl rfl) ?_
  refine TL.val rfl rfl rfl (gives_at (v := .pointer (some ⟨b2, o2 + i * 17, none⟩)) rfl rfl rfl (fun w => at_el Tryd.underlying33 jsegsz27 hA2 _ _ i hi2 rfl w)) ?_
  refine TL.val rfl rfl rfl (gives_loadR rfl rfl jsegag27 jsegsz27 (rs_cells_len r) (fun w1 hw j u hu => (hw.bel.cell hbb2).trans (rcs_cell hxr hc2 j u hu))) ?_
  refine TL.pcallPair (n := (encO r).length) (ys := bv (encO r)) (v := .int .i64 (chkR r)) rfl rfl rfl rfl rfl Tryd.func13 jsegnm13 jsegbd13 (fun w1 hw => rencode_any r hro w1) (fun A45 c45 hA451 hA452 => ?_)
  iterate 5 (first | refine TL.val rfl rfl rfl (gives_assign rfl rfl) ?_ | refine TL.val rfl rfl rfl (gives_extract rfl rfl rfl) ?_ | refine TL.val rfl rfl rfl (gives_move rfl rfl) ?_)
  refine TL.end_ (TX.then_ (TC.region ?_))
  refine TL.val rfl rfl rfl (gives_move rfl rfl) ?_
  refine TL.val rfl rfl rfl (gives_move rfl rfl) ?_
  refine TL.appendT (k := 1) rfl rfl rfl rfl Tryd.underlying28 jsegel28 rfl rfl rfl (fun w1 hw => pm_reads hw (k := 0) rfl) (bv_one _) (by omega) ((segW v run n rl.length d rl (i + 1)).length) (by rw [segW_succ hxr, List.length_append]) (bv (segW v run n rl.length d rl (i + 1))) (by rw [segW_succ hxr, bv_app]) (fun A50 c50 hA501 hA502 => ?_)
  refine TL.val rfl rfl rfl (gives_assign rfl rfl) ?_
  refine TL.end_ (TX.in_normal (TX.then_ (TC.region ?_)))
  refine TL.val rfl rfl rfl (gives_move rfl rfl) ?_
  refine TL.val rfl rfl rfl (gives_bin rfl rfl rfl (fun w => bin_add_ (r := ((i + 1 : Nat) : Int)) (by simp only [IntKind.wrap_i64]; omega) w)) ?_
  refine TL.val rfl rfl rfl (gives_assign rfl rfl) ?_
  refine TL.end_ ?_
  exact TX.round (⟨(i + 1, A50, c50), hi2, hA501, hA502⟩) (by show rl.length - (i + 1) < rl.length - i; omega) ⟨rfl, rfl, rfl, rfl, rfl, rfl, trivial⟩ (fun w1 hw => hw.pick [1, 2, 3] (by decide) rfl)
 ·have q37 := of_decide_eq_false h37
  have hi2 : i = rl.length := by omega
  subst hi2
  have hle := segW_le v run n rl.length d rl rl.length
  refine TL.end_ (TX.then_ (TC.condF rfl (TC.exit_ (TX.then_exit (TX.then_exit (TX.in_same (TX.then_ (TC.seq_ (TC.region ?_)))))))))
  refine TL.val rfl rfl rfl (gives_move rfl rfl) ?_
  refine TL.val rfl rfl rfl (gives_move rfl rfl) ?_
  refine TL.val rfl rfl rfl (gives_move rfl rfl) ?_
  refine TL.pcallRow (n := 32) (ys := bv (macF key (segW v run n rl.length d rl rl.length))) rfl rfl rfl rfl rfl Tryd.func29 jsegnm29 jsegbd29 (fun w1 hw => rmac_any _ _ _ key _ _ _ (segW v run n rl.length d rl rl.length) w1 ((hb3.below hw.bel).more hw.bel.size) (byt_own (hw.at_ (k := 0) rfl) (segW_bs v run n rl.length hb0.2 rl _)) (by omega) (by omega)) (fun A54 c54 hA541 hA542 => ?_)
  refine TL.appendT (k := 1) rfl rfl rfl rfl Tryd.underlying28 jsegel28 rfl rfl rfl (fun w1 hw => pm_reads hw (k := 0) rfl) (bv_one _) (by omega) ((segL v run n d rl key).length) (segL_len v run n d rl key) (bv (segL v run n d rl key)) (by rw [segL, bv_app]; rfl) (fun A55 c55 hA551 hA552 => ?_)
  refine TL.val rfl rfl rfl (gives_assign rfl rfl) ?_
  refine TL.end_ (TX.then_ (TC.seq_ (TC.region ?_)))
  refine TL.val rfl rfl rfl (gives_field (v := .pointer (some ⟨g3, 2, none⟩)) rfl rfl (fun w => jsegfld45_2 _ _ w)) ?_
  refine TL.val rfl rfl rfl (pm_load (k := 2) (i := 2) rfl rfl jsegag3 rfl rfl) ?_
  refine TL.val rfl rfl rfl (gives_move rfl rfl) ?_
  refine TL.val rfl rfl rfl (gives_len rfl Tryd.underlying33 rfl) ?_
  refine TL.val rfl rfl rfl (gives_bin rfl rfl rfl (fun w => bin_add_ (r := n + (rl.length : Nat)) (by simp only [IntKind.wrap_i64]; omega) w)) ?_
  refine TL.val rfl rfl rfl (gives_field (v := .pointer (some ⟨g3, 2, none⟩)) rfl rfl (fun w => jsegfld45_2 _ _ w)) ?_
  refine TL.pstore (k := 2) (vs := [.int .i64 (n + (rl.length : Nat))]) rfl rfl rfl rfl rfl rfl rfl jsegsz3 jsegone_i64 (by show 3 ≤ 4; decide) (L' := [.row (.slice A54 32 c54) 5 1 32 (bv (macF key (segW v run n rl.length d rl rl.length))), .row (.slice A55 ((segL v run n d rl key).length) c55) 5 1 ((segL v run n d rl key).length) (bv (segL v run n d rl key)), .blk g3 45 [.int .i64 v, .int .i64 run, .int .i64 (n + (rl.length : Nat)), .slice A0 n0 c0], .blk g6 45 [.int .i64 0, .int .i64 0, .int .i64 0, .slice none 0 0]]) rfl ?_
  refine TL.end_ (TX.then_ (TC.seq_ (TC.region ?_)))
  refine TL.val rfl rfl rfl (gives_move rfl rfl) ?_
  refine TL.pcallRow (n := 32) (ys := bv (shaF (segL v run n d rl key))) rfl rfl rfl rfl rfl Tryd.func57 jsegnm57 jsegbd57 (fun w1 hw => rsum_all _ _ _ (segL v run n d rl key) w1 (byt_own (hw.at_ (k := 1) rfl) (segL_bs v run n hb0.2 rl key)) (by have := segL_le v run n d rl key; have := hb0.len; omega)) (fun A63 c63 hA631 hA632 => ?_)
  refine TL.val rfl rfl rfl (gives_field (v := .pointer (some ⟨g3, 3, none⟩)) rfl rfl (fun w => jsegfld45_3 _ _ w)) ?_
  refine TL.pstore (k := 3) (vs := [.slice A63 32 c63]) rfl rfl rfl rfl rfl rfl rfl jsegsz28 jsegone_s (by show 4 ≤ 4; decide) (L' := [.row (.slice A63 32 c63) 5 1 32 (bv (shaF (segL v run n d rl key))), .row (.slice A54 32 c54) 5 1 32 (bv (macF key (segW v run n rl.length d rl rl.length))), .row (.slice A55 ((segL v run n d rl key).length) c55) 5 1 ((segL v run n d rl key).length) (bv (segL v run n d rl key)), .blk g3 45 [.int .i64 v, .int .i64 run, .int .i64 (n + (rl.length : Nat)), .slice A63 32 c63], .blk g6 45 [.int .i64 0, .int .i64 0, .int .i64 0, .slice none 0 0]]) rfl ?_
  refine TL.end_ (TX.then_ (TC.seq_ (TC.region ?_)))
  refine TL.val rfl rfl rfl (pm_loadV (k := 3) (i := 0) (n := 4) (v := .agg #[.int .i64 v, .int .i64 run, .int .i64 (n + (rl.length : Nat)), .slice A63 32 c63]) rfl rfl jsegag45 jsegsz45 rfl (by show 4 ≤ 4; decide) rfl) ?_
  refine TL.val rfl rfl rfl (gives_move rfl rfl) ?_
  refine TL.pstore (k := 4) (vs := [.int .i64 v, .int .i64 run, .int .i64 (n + (rl.length : Nat)), .slice A63 32 c63]) rfl rfl rfl rfl rfl rfl rfl jsegsz45 jsegone_i64i64i64s (by show 4 ≤ 4; decide) (L' := [.row (.slice A63 32 c63) 5 1 32 (bv (shaF (segL v run n d rl key))), .row (.slice A54 32 c54) 5 1 32 (bv (macF key (segW v run n rl.length d rl rl.length))), .row (.slice A55 ((segL v run n d rl key).length) c55) 5 1 ((segL v run n d rl key).length) (bv (segL v run n d rl key)), .blk g3 45 [.int .i64 v, .int .i64 run, .int .i64 (n + (rl.length : Nat)), .slice A63 32 c63], .blk g6 45 [.int .i64 v, .int .i64 run, .int .i64 (n + (rl.length : Nat)), .slice A63 32 c63]]) rfl ?_
  refine TL.val rfl rfl rfl (gives_assign rfl rfl) ?_
  refine TL.end_ (TX.then_ (TC.ret_ ?_))
  exact ret_cell2 (k := 4) (v := .slice A55 ((segL v run n d rl key).length) c55) Tryd.results60 rfl rfl rfl Tryd.underlying45 rfl rfl (fun w1 hw => ⟨⟨((A55, c55), (A63, c63)), ⟨hA551, hA552⟩, ⟨hA631, hA632⟩⟩, rfl, hw.pick [2, 0] (by decide) rfl⟩)
end Go.Proofs.YtmeaeeehnkcblaaDoor

namespace Go.Proofs.YtmeaeeehnkcblaaDoor
open Go.RowKit
set_option linter.unusedVariables false
set_option linter.unusedSimpArgs false
set_option maxRecDepth 20000
theorem japzv45 (w : World) : (zeroValue 45).run Tryd.prog w = .ok (.agg #[.int .i64 0, .int .i64 0, .int .i64 0, .slice none 0 0]) w := rfl
theorem japnm45 : (Tryd.f45.name == "runtime.NumGoroutine") = false := by decide
theorem japbd45 : Tryd.f45.body.isNone = false := rfl
theorem japbld45_27257 (a0_0 : Int) (a1_0 : Int) (w : World) : (Instr.build 45 #[(0, .int .i64 a0_0), (1, .int .i64 a1_0)]).run Tryd.prog w = .ok (.agg #[.int .i64 a0_0, .int .i64 a1_0, .int .i64 0, .slice none 0 0]) w := by kernel_rfl
theorem japsz45 (w : World) : (sizeOf 45).run Tryd.prog w = .ok 4 w := rfl
theorem japone_i64i64i64s {a0 : Int} {a1 : Int} {a2 : Int} {a3 : Option Addr} {n3 c3 : Nat} : ∀ u ∈ [(.int .i64 a0 : Value), .int .i64 a1, .int .i64 a2, .slice a3 n3 c3], u.oneCell' = true := by
 intro u hu
 simp only [List.mem_cons, List.not_mem_nil, or_false] at hu
 rcases hu with rfl | rfl | rfl | rfl <;> rfl
theorem japag45 (w : World) : (isAgg 45).run Tryd.prog w = .ok true w := rfl
theorem japel28 : Elem Tryd.prog 28 5 1 1 := Elem.mk' Tryd.underlying28 (z := .int .u8 0) (by kernel_rfl) rfl (by omega) (by omega)
theorem japnm59 : (Tryd.f59.name == "runtime.NumGoroutine") = false := by decide
theorem japbd59 : Tryd.f59.body.isNone = false := rfl
theorem japnm54 : (Tryd.f54.name == "runtime.NumGoroutine") = false := by decide
theorem japbd54 : Tryd.f54.body.isNone = false := rfl
theorem japfld45_3 (g o : Nat) (w : World) : (Instr.fieldAt 45 (.pointer (some ⟨g, o, none⟩)) 3).run Tryd.prog w = .ok (.pointer (some ⟨g, o + 3, none⟩)) w := by kernel_rfl
theorem japsz28 (w : World) : (sizeOf 28).run Tryd.prog w = .ok 1 w := rfl
theorem japone_s {a0 : Option Addr} {n0 c0 : Nat} : ∀ u ∈ [(.slice a0 n0 c0 : Value)], u.oneCell' = true := by
 intro u hu
 rw [List.mem_singleton] at hu
 subst hu; rfl
theorem japbld45_530  (w : World) : (Instr.build 45 #[]).run Tryd.prog w = .ok (.agg #[.int .i64 0, .int .i64 0, .int .i64 0, .slice none 0 0]) w := by kernel_rfl
theorem japnm47 : (Tryd.f47.name == "runtime.NumGoroutine") = false := by decide
theorem japbd47 : Tryd.f47.body.isNone = false := rfl
theorem japbld45_71501 (a0_0 : Int) (a1_0 : Int) (a3_0 : Option Addr) (a3_0n a3_0c : Nat) (w : World) : (Instr.build 45 #[(0, .int .i64 a0_0), (1, .int .i64 a1_0), (3, .slice a3_0 a3_0n a3_0c)]).run Tryd.prog w = .ok (.agg #[.int .i64 a0_0, .int .i64 a1_0, .int .i64 0, .slice a3_0 a3_0n a3_0c]) w := by kernel_rfl
theorem japnm60 : (Tryd.f60.name == "runtime.NumGoroutine") = false := by decide
theorem japbd60 : Tryd.f60.body.isNone = false := rfl
theorem japsz27 (w : World) : (sizeOf 27).run Tryd.prog w = .ok 17 w := rfl
theorem japag27 (w : World) : (isAgg 27).run Tryd.prog w = .ok true w := rfl
theorem japfld45_2 (g o : Nat) (w : World) : (Instr.fieldAt 45 (.pointer (some ⟨g, o, none⟩)) 2).run Tryd.prog w = .ok (.pointer (some ⟨g, o + 2, none⟩)) w := by kernel_rfl
theorem japag3 (w : World) : (isAgg 3).run Tryd.prog w = .ok false w := rfl
theorem japzv27 (w : World) : (zeroValue 27).run Tryd.prog w = .ok (.agg #[.int .i64 0, .int .i64 0, .int .i64 0, .int .i64 0, .int .u32 0, .int .i64 0, .int .i64 0, .int .i64 0, .bool false, .bool false, .int .i64 0, .int .u32 0, .int .i64 0, .int .i64 0, .int .i64 0, .int .i64 0, .int .i64 0]) w := rfl
theorem japnm14 : (Tryd.f14.name == "runtime.NumGoroutine") = false := by decide
theorem japbd14 : Tryd.f14.body.isNone = false := rfl
theorem japnm62 : (Tryd.f62.name == "runtime.NumGoroutine") = false := by decide
theorem japbd62 : Tryd.f62.body.isNone = false := rfl
theorem japag28 (w : World) : (isAgg 28).run Tryd.prog w = .ok false w := rfl
theorem japsz3 (w : World) : (sizeOf 3).run Tryd.prog w = .ok 1 w := rfl
theorem japone_i64 {a0 : Int} : ∀ u ∈ [(.int .i64 a0 : Value)], u.oneCell' = true := by
 intro u hu
 rw [List.mem_singleton] at hu
 subst hu; rfl
theorem japnm15 : (Tryd.f15.name == "runtime.NumGoroutine") = false := by decide
theorem japbd15 : Tryd.f15.body.isNone = false := rfl
theorem japfld27_0 (g o : Nat) (w : World) : (Instr.fieldAt 27 (.pointer (some ⟨g, o, none⟩)) 0).run Tryd.prog w = .ok (.pointer (some ⟨g, o + 0, none⟩)) w := by kernel_rfl
theorem japfld45_0 (g o : Nat) (w : World) : (Instr.fieldAt 45 (.pointer (some ⟨g, o, none⟩)) 0).run Tryd.prog w = .ok (.pointer (some ⟨g, o + 0, none⟩)) w := by kernel_rfl
theorem japfld27_1 (g o : Nat) (w : World) : (Instr.fieldAt 27 (.pointer (some ⟨g, o, none⟩)) 1).run Tryd.prog w = .ok (.pointer (some ⟨g, o + 1, none⟩)) w := by kernel_rfl
theorem japfld45_1 (g o : Nat) (w : World) : (Instr.fieldAt 45 (.pointer (some ⟨g, o, none⟩)) 1).run Tryd.prog w = .ok (.pointer (some ⟨g, o + 1, none⟩)) w := by kernel_rfl
theorem japfld27_2 (g o : Nat) (w : World) : (Instr.fieldAt 27 (.pointer (some ⟨g, o, none⟩)) 2).run Tryd.prog w = .ok (.pointer (some ⟨g, o + 2, none⟩)) w := by kernel_rfl
set_option maxHeartbeats 1000000 in
theorem begin_any (id run : Int) (A3 : Option Addr) (n3 c3 : Nat) (key : List Int) (w : World) (hb3 : Byt w w.heap.size A3 n3 key) (hk : n3 ≤ 1000000000) {ts tk : TypeId} (hst : Blk w 0 ts start8.cells) (hky : Blk w 1 tk (arrOf keysL)) :
  Calls Tryd.prog 33 #[.int .i64 id, .int .i64 run, .slice A3 n3 c3] w fun e w' => SegR (bgC id run key) (bgS id run key) (bgE id run) w e w' := by
 refine begin_ (vs := [.int .i64 id, .int .i64 run, .slice A3 n3 c3]) Tryd.func33 rfl rfl rfl ?_ (Pm.start w)
 refine TC.seq_ (TC.region ?_)
 refine TL.pnew rfl rfl rfl (exec_alloc (cs := [.int .i64 0, .int .i64 0, .int .i64 0, .slice none 0 0]) rfl japzv45 rfl) (fun g6 => ?_)
 refine TL.val rfl rfl rfl (gives_assign rfl rfl) ?_
 refine TL.val rfl rfl rfl (gives_assign rfl rfl) ?_
 refine TL.end_ (TX.then_ (TC.seq_ (TC.seq_ (TC.region ?_))))
 refine TL.val rfl rfl rfl (gives_move rfl rfl) ?_
 refine TL.val rfl rfl rfl (gives_move rfl rfl) ?_
 refine TL.callsplit rfl rfl rfl rfl rfl Tryd.func45 japnm45 japbd45 (fun w1 hw => run_any id run w1) (fun h13 => ?_) (fun h13 => ?_)
 ·have hx : idOk id run := of_decide_eq_true h13
  have hx2 : 0 ≤ id ∧ id ≤ 15 ∧ 0 ≤ run ∧ run ≤ 63 := hx
  have hsl := segL_le id run 0 (zeroL 32) [] key
  have hz32 : (zeroL 32).length = 32 := rfl
  have hz0 : ([] : List Rs).length = 0 := rfl
  refine TL.val rfl rfl rfl (gives_boolnot rfl rfl) ?_
  refine TL.end_ (TX.then_ (TC.condF rfl (TC.skip_ (TX.then_ (TC.seq_ (TC.region ?_))))))
  refine TL.val rfl rfl rfl (gives_move rfl rfl) ?_
  refine TL.val rfl rfl rfl (gives_move rfl rfl) ?_
  refine TL.val rfl rfl rfl (gives_build (v := .agg #[.int .i64 id, .int .i64 run, .int .i64 0, .slice none 0 0]) rfl rfl (fun w => japbld45_27257 _ _ w)) ?_
  refine TL.pnew rfl rfl rfl (exec_alloc (cs := [.int .i64 0, .int .i64 0, .int .i64 0, .slice none 0 0]) rfl japzv45 rfl) (fun g9 => ?_)
  refine TL.pstore (k := 0) (vs := [.int .i64 id, .int .i64 run, .int .i64 0, .slice none 0 0]) rfl rfl rfl rfl rfl rfl rfl japsz45 japone_i64i64i64s (by show 4 ≤ 4; decide) (L' := [.blk g9 45 [.int .i64 id, .int .i64 run, .int .i64 0, .slice none 0 0], .blk g6 45 [.int .i64 0, .int .i64 0, .int .i64 0, .slice none 0 0]]) rfl ?_
  refine TL.end_ (TX.then_ (TC.seq_ ?_))
  refine TC.held (ls := #[false, false, false, false, false]) (Pm w [.blk g9 45 [.int .i64 id, .int .i64 run, .int .i64 0, .slice none 0 0]]) (by kernel_rfl) rfl rfl (fun w hw => hw.drawn _) ?_
  refine TH.take (listed' := #[true, false, false, false, false]) 0 rfl (by kernel_rfl) (by kernel_rfl) (by kernel_rfl) rfl rfl rfl rfl (pm_loadV (k := 0) (i := 0) (n := 4) (v := .agg #[.int .i64 id, .int .i64 run, .int .i64 0, .slice none 0 0]) rfl rfl japag45 japsz45 rfl (by show 4 ≤ 4; decide) rfl) (fun w1 hw => hw.pick [0] (by decide) rfl) ?_
  refine TH.take (listed' := #[true, false, true, false, false]) 2 rfl (by kernel_rfl) (by kernel_rfl) (by kernel_rfl) rfl rfl rfl rfl (gives_move rfl rfl) (fun w1 hw => hw.pick [0] (by decide) rfl) ?_
  refine TH.only' (listed' := #[true, true, true, false, false]) 1 rfl (by kernel_rfl) rfl ?_
  refine TL.mkrow (m := 32) rfl rfl rfl rfl rfl rfl japel28 (z := .int .u8 0) (by kernel_rfl) (zs := bv (zeroL 32)) ((made_one _ rfl 32).trans rfl) (by decide) (fun g20 => ?_)
  refine TL.end_ ?_
  refine TX.held (fun w1 hw => hw.pick [1] (by decide) rfl) ?_
  refine TH.only' (listed' := #[true, true, true, true, false]) 3 rfl (by kernel_rfl) rfl ?_
  refine TL.pcallRow (n := (segL id run 0 (zeroL 32) ([]) key).length) (ys := bv (segL id run 0 (zeroL 32) ([]) key)) rfl rfl rfl rfl rfl Tryd.func59 japnm59 japbd59 (fun w1 hw => seg_any id run 0 _ _ _ _ _ _ (zeroL 32) _ _ ([]) _ _ _ key w1 (byt_own (hw.at_ (k := 0) rfl) (zeroL_bs _)) ⟨rfl, fun h => absurd h (by decide)⟩ ((hb3.below hw.bel).more hw.bel.size) (by first | omega | decide | exact (by simp [zeroL])) (by first | omega | decide | exact (by simp [zeroL])) (by first | omega | decide | exact (by simp [zeroL])) (by first | omega | decide | exact (by simp [zeroL])) (by first | omega | decide | exact (by simp [zeroL])) (by first | omega | decide | exact (by simp [zeroL])) (by first | omega | decide | exact (by simp [zeroL])) (by first | omega | decide | exact (by simp [zeroL])) (by first | omega | decide | exact (by simp [zeroL])) (fun r hr => by cases hr) (hst.below hw.bel hst.lt) (hky.below hw.bel hky.lt)) (fun A22 c22 hA221 hA222 => ?_)
  refine TL.end_ ?_
  refine TX.held (fun w1 hw => hw.pick [2] (by decide) rfl) ?_
  refine TH.take (listed' := #[true, true, true, true, true]) 4 rfl (by kernel_rfl) (by kernel_rfl) (by kernel_rfl) rfl rfl rfl rfl (gives_assign rfl rfl) (fun w1 hw => hw.pick [2] (by decide) rfl) ?_
  refine TH.done (by kernel_rfl) ?_
  refine TX.then_ (TC.seq_ (TC.region ?_))
  refine TL.val rfl rfl rfl (gives_move rfl rfl) ?_
  refine TL.pcallRow (n := 32) (ys := bv (shaF (segL id run 0 (zeroL 32) ([]) key))) rfl rfl rfl rfl rfl Tryd.func54 japnm54 japbd54 (fun w1 hw => sum_any _ _ _ (segL id run 0 (zeroL 32) ([]) key) w1 (byt_own (hw.at_ (k := 0) rfl) (segL_bs _ _ _ (zeroL_bs _) _ _)) (by omega) (hst.below hw.bel hst.lt) (hky.below hw.bel hky.lt)) (fun A24 c24 hA241 hA242 => ?_)
  refine TL.val rfl rfl rfl (gives_field (v := .pointer (some ⟨g9, 3, none⟩)) rfl rfl (fun w => japfld45_3 _ _ w)) ?_
  refine TL.pstore (k := 3) (vs := [.slice A24 32 c24]) rfl rfl rfl rfl rfl rfl rfl japsz28 japone_s (by show 4 ≤ 4; decide) (L' := [.row (.slice A24 32 c24) 5 1 32 (bv (shaF (segL id run 0 (zeroL 32) ([]) key))), .row (.slice A22 ((segL id run 0 (zeroL 32) ([]) key).length) c22) 5 1 ((segL id run 0 (zeroL 32) ([]) key).length) (bv (segL id run 0 (zeroL 32) ([]) key)), .row (.slice (some ⟨g20, 0, none⟩) 32 32) 5 1 32 (bv (zeroL 32)), .blk g9 45 [.int .i64 id, .int .i64 run, .int .i64 0, .slice A24 32 c24], .blk g6 45 [.int .i64 0, .int .i64 0, .int .i64 0, .slice none 0 0]]) rfl ?_
  refine TL.end_ (TX.then_ (TC.seq_ (TC.region ?_)))
  refine TL.val rfl rfl rfl (pm_loadV (k := 3) (i := 0) (n := 4) (v := .agg #[.int .i64 id, .int .i64 run, .int .i64 0, .slice A24 32 c24]) rfl rfl japag45 japsz45 rfl (by show 4 ≤ 4; decide) rfl) ?_
  refine TL.val rfl rfl rfl (gives_move rfl rfl) ?_
  refine TL.pstore (k := 4) (vs := [.int .i64 id, .int .i64 run, .int .i64 0, .slice A24 32 c24]) rfl rfl rfl rfl rfl rfl rfl japsz45 japone_i64i64i64s (by show 4 ≤ 4; decide) (L' := [.row (.slice A24 32 c24) 5 1 32 (bv (shaF (segL id run 0 (zeroL 32) ([]) key))), .row (.slice A22 ((segL id run 0 (zeroL 32) ([]) key).length) c22) 5 1 ((segL id run 0 (zeroL 32) ([]) key).length) (bv (segL id run 0 (zeroL 32) ([]) key)), .row (.slice (some ⟨g20, 0, none⟩) 32 32) 5 1 32 (bv (zeroL 32)), .blk g9 45 [.int .i64 id, .int .i64 run, .int .i64 0, .slice A24 32 c24], .blk g6 45 [.int .i64 id, .int .i64 run, .int .i64 0, .slice A24 32 c24]]) rfl ?_
  refine TL.val rfl rfl rfl (gives_assign rfl rfl) ?_
  refine TL.val rfl rfl rfl (gives_assign rfl rfl) ?_
  refine TL.end_ (TX.then_ (TC.ret_ ?_))
  exact ret_cell3 (k := 4) (v := .slice A22 ((segL id run 0 (zeroL 32) ([]) key).length) c22) (v2 := .int .i64 0) Tryd.results33 rfl rfl rfl rfl Tryd.underlying45 rfl rfl (fun w1 hw => by rw [(bg_ok hx key).1, (bg_ok hx key).2.1, (bg_ok hx key).2.2]; exact ⟨A22, c22, A24, c24, _, _, rfl, shaF_len _, hA221, hA222, hA241, hA242, rfl, hw.pick [1, 0] (by decide) rfl⟩)
 ·have hx : ¬ idOk id run := of_decide_eq_false h13
  refine TL.val rfl rfl rfl (gives_boolnot rfl rfl) ?_
  refine TL.end_ (TX.then_ (TC.condT rfl (TC.seq_ (TC.region ?_))))
  refine TL.val rfl rfl rfl (gives_build (v := .agg #[.int .i64 0, .int .i64 0, .int .i64 0, .slice none 0 0]) rfl rfl (fun w => japbld45_530  w)) ?_
  refine TL.pstore (k := 0) (vs := [.int .i64 0, .int .i64 0, .int .i64 0, .slice none 0 0]) rfl rfl rfl rfl rfl rfl rfl japsz45 japone_i64i64i64s (by show 4 ≤ 4; decide) (L' := [.blk g6 45 [.int .i64 0, .int .i64 0, .int .i64 0, .slice none 0 0]]) rfl ?_
  refine TL.val rfl rfl rfl (gives_assign rfl rfl) ?_
  refine TL.val rfl rfl rfl (gives_assign rfl rfl) ?_
  refine TL.end_ (TX.then_ (TC.ret_ (TX.then_ret ?_)))
  exact ret_cell3 (k := 0) (v := .slice none 0 0) (v2 := .int .i64 1) Tryd.results33 rfl rfl rfl rfl Tryd.underlying45 rfl rfl (fun w1 hw => by rw [(bg_bad hx key).1, (bg_bad hx key).2.1, (bg_bad hx key).2.2]; exact SegR.none_ hw)
set_option maxHeartbeats 1000000 in
theorem rbegin_any (id run : Int) (A3 : Option Addr) (n3 c3 : Nat) (key : List Int) (w : World) (hb3 : Byt w w.heap.size A3 n3 key) (hk : n3 ≤ 1000000000) :
  Calls Tryd.prog 34 #[.int .i64 id, .int .i64 run, .slice A3 n3 c3] w fun e w' => SegR (bgC id run key) (bgS id run key) (bgE id run) w e w' := by
 refine begin_ (vs := [.int .i64 id, .int .i64 run, .slice A3 n3 c3]) Tryd.func34 rfl rfl rfl ?_ (Pm.start w)
 refine TC.seq_ (TC.region ?_)
 refine TL.pnew rfl rfl rfl (exec_alloc (cs := [.int .i64 0, .int .i64 0, .int .i64 0, .slice none 0 0]) rfl japzv45 rfl) (fun g6 => ?_)
 refine TL.val rfl rfl rfl (gives_assign rfl rfl) ?_
 refine TL.val rfl rfl rfl (gives_assign rfl rfl) ?_
 refine TL.end_ (TX.then_ (TC.seq_ (TC.seq_ (TC.region ?_))))
 refine TL.val rfl rfl rfl (gives_move rfl rfl) ?_
 refine TL.val rfl rfl rfl (gives_move rfl rfl) ?_
 refine TL.callsplit rfl rfl rfl rfl rfl Tryd.func47 japnm47 japbd47 (fun w1 hw => ident_any id run w1) (fun h13 => ?_) (fun h13 => ?_)
 ·have hx : idOk id run := of_decide_eq_true h13
  have hx2 : 0 ≤ id ∧ id ≤ 15 ∧ 0 ≤ run ∧ run ≤ 63 := hx
  have hsl := segL_le id run 0 (zeroL 32) [] key
  have hz32 : (zeroL 32).length = 32 := rfl
  have hz0 : ([] : List Rs).length = 0 := rfl
  refine TL.val rfl rfl rfl (gives_boolnot rfl rfl) ?_
  refine TL.end_ (TX.then_ (TC.condF rfl (TC.skip_ (TX.then_ (TC.seq_ (TC.region ?_))))))
  refine TL.val rfl rfl rfl (gives_move rfl rfl) ?_
  refine TL.val rfl rfl rfl (gives_move rfl rfl) ?_
  refine TL.mkrow (m := 32) rfl rfl rfl rfl rfl rfl japel28 (z := .int .u8 0) (by kernel_rfl) (zs := bv (zeroL 32)) ((made_one _ rfl 32).trans rfl) (by decide) (fun g19 => ?_)
  refine TL.val rfl rfl rfl (gives_build (v := .agg #[.int .i64 id, .int .i64 run, .int .i64 0, .slice (some ⟨g19, 0, none⟩) 32 32]) rfl rfl (fun w => japbld45_71501 _ _ _ _ _ w)) ?_
  refine TL.val rfl rfl rfl (gives_move rfl rfl) ?_
  refine TL.pcallPm (α := {p : (Option Addr × Nat) × (Option Addr × Nat) // ((segL id run 0 (zeroL 32) ([]) key).length ≤ p.1.2 ∧ p.1.2 ≤ maxLen) ∧ (32 ≤ p.2.2 ∧ p.2.2 ≤ maxLen)}) (fun y => .tuple #[.agg #[.int .i64 id, .int .i64 run, .int .i64 (0 + (([] : List Rs).length : Nat)), .slice y.1.2.1 32 y.1.2.2], .slice y.1.1.1 ((segL id run 0 (zeroL 32) ([]) key).length) y.1.1.2]) (fun y => [.row (.slice y.1.1.1 ((segL id run 0 (zeroL 32) ([]) key).length) y.1.1.2) 5 1 ((segL id run 0 (zeroL 32) ([]) key).length) (bv (segL id run 0 (zeroL 32) ([]) key)), .row (.slice y.1.2.1 32 y.1.2.2) 5 1 32 (bv (shaF (segL id run 0 (zeroL 32) ([]) key)))]) rfl rfl rfl rfl rfl Tryd.func60 japnm60 japbd60 (fun w1 hw => rseg_any id run 0 _ _ _ (zeroL 32) _ _ ([]) _ _ _ key w1 (byt_own (hw.at_ (k := 0) rfl) (zeroL_bs _)) ⟨rfl, fun h => absurd h (by decide)⟩ ((hb3.below hw.bel).more hw.bel.size) (by first | omega | decide | exact (by simp [zeroL])) (by first | omega | decide | exact (by simp [zeroL])) (by first | omega | decide | exact (by simp [zeroL])) (by first | omega | decide | exact (by simp [zeroL])) (by first | omega | decide | exact (by simp [zeroL])) (by first | omega | decide | exact (by simp [zeroL])) (by first | omega | decide | exact (by simp [zeroL])) (by first | omega | decide | exact (by simp [zeroL])) (by first | omega | decide | exact (by simp [zeroL])) (fun r hr => by cases hr)) ?_
  rintro ⟨⟨⟨A22, c22⟩, ⟨D22, e22⟩⟩, ⟨hA221, hA222⟩, ⟨hD221, hD222⟩⟩
  dsimp only [List.cons_append, List.nil_append]
  dsimp only at hA221 hA222 hD221 hD222
  refine TL.val rfl rfl rfl (gives_move rfl rfl) ?_
  refine TL.val rfl rfl rfl (gives_extract rfl rfl rfl) ?_
  refine TL.val rfl rfl rfl (gives_extract rfl rfl rfl) ?_
  refine TL.pnew rfl rfl rfl (exec_alloc (cs := [.int .i64 0, .int .i64 0, .int .i64 0, .slice none 0 0]) rfl japzv45 rfl) (fun g9 => ?_)
  refine TL.pstore (k := 0) (vs := [.int .i64 id, .int .i64 run, .int .i64 (0 + (([] : List Rs).length : Nat)), .slice D22 32 e22]) rfl rfl rfl rfl rfl rfl rfl japsz45 japone_i64i64i64s (by show 4 ≤ 4; decide) (L' := [.blk g9 45 [.int .i64 id, .int .i64 run, .int .i64 (0 + (([] : List Rs).length : Nat)), .slice D22 32 e22], .row (.slice A22 ((segL id run 0 (zeroL 32) ([]) key).length) c22) 5 1 ((segL id run 0 (zeroL 32) ([]) key).length) (bv (segL id run 0 (zeroL 32) ([]) key)), .row (.slice D22 32 e22) 5 1 32 (bv (shaF (segL id run 0 (zeroL 32) ([]) key))), .row (.slice (some ⟨g19, 0, none⟩) 32 32) 5 1 32 (bv (zeroL 32)), .blk g6 45 [.int .i64 0, .int .i64 0, .int .i64 0, .slice none 0 0]]) rfl ?_
  refine TL.val rfl rfl rfl (gives_assign rfl rfl) ?_
  refine TL.end_ (TX.then_ (TC.seq_ (TC.region ?_)))
  refine TL.val rfl rfl rfl (pm_loadV (k := 0) (i := 0) (n := 4) (v := .agg #[.int .i64 id, .int .i64 run, .int .i64 (0 + (([] : List Rs).length : Nat)), .slice D22 32 e22]) rfl rfl japag45 japsz45 rfl (by show 4 ≤ 4; decide) rfl) ?_
  refine TL.val rfl rfl rfl (gives_move rfl rfl) ?_
  refine TL.pstore (k := 4) (vs := [.int .i64 id, .int .i64 run, .int .i64 (0 + (([] : List Rs).length : Nat)), .slice D22 32 e22]) rfl rfl rfl rfl rfl rfl rfl japsz45 japone_i64i64i64s (by show 4 ≤ 4; decide) (L' := [.blk g9 45 [.int .i64 id, .int .i64 run, .int .i64 (0 + (([] : List Rs).length : Nat)), .slice D22 32 e22], .row (.slice A22 ((segL id run 0 (zeroL 32) ([]) key).length) c22) 5 1 ((segL id run 0 (zeroL 32) ([]) key).length) (bv (segL id run 0 (zeroL 32) ([]) key)), .row (.slice D22 32 e22) 5 1 32 (bv (shaF (segL id run 0 (zeroL 32) ([]) key))), .row (.slice (some ⟨g19, 0, none⟩) 32 32) 5 1 32 (bv (zeroL 32)), .blk g6 45 [.int .i64 id, .int .i64 run, .int .i64 (0 + (([] : List Rs).length : Nat)), .slice D22 32 e22]]) rfl ?_
  refine TL.val rfl rfl rfl (gives_assign rfl rfl) ?_
  refine TL.val rfl rfl rfl (gives_assign rfl rfl) ?_
  refine TL.end_ (TX.then_ (TC.ret_ ?_))
  exact ret_cell3 (k := 4) (v := .slice A22 ((segL id run 0 (zeroL 32) ([]) key).length) c22) (v2 := .int .i64 0) Tryd.results34 rfl rfl rfl rfl Tryd.underlying45 rfl rfl (fun w1 hw => by rw [(bg_ok hx key).1, (bg_ok hx key).2.1, (bg_ok hx key).2.2]; exact ⟨A22, c22, D22, e22, _, _, rfl, shaF_len _, hA221, hA222, hD221, hD222, rfl, hw.pick [1, 2] (by decide) rfl⟩)
 ·have hx : ¬ idOk id run := of_decide_eq_false h13
  refine TL.val rfl rfl rfl (gives_boolnot rfl rfl) ?_
  refine TL.end_ (TX.then_ (TC.condT rfl (TC.seq_ (TC.region ?_))))
  refine TL.val rfl rfl rfl (gives_build (v := .agg #[.int .i64 0, .int .i64 0, .int .i64 0, .slice none 0 0]) rfl rfl (fun w => japbld45_530  w)) ?_
  refine TL.pstore (k := 0) (vs := [.int .i64 0, .int .i64 0, .int .i64 0, .slice none 0 0]) rfl rfl rfl rfl rfl rfl rfl japsz45 japone_i64i64i64s (by show 4 ≤ 4; decide) (L' := [.blk g6 45 [.int .i64 0, .int .i64 0, .int .i64 0, .slice none 0 0]]) rfl ?_
  refine TL.val rfl rfl rfl (gives_assign rfl rfl) ?_
  refine TL.val rfl rfl rfl (gives_assign rfl rfl) ?_
  refine TL.end_ (TX.then_ (TC.ret_ (TX.then_ret ?_)))
  exact ret_cell3 (k := 0) (v := .slice none 0 0) (v2 := .int .i64 1) Tryd.results34 rfl rfl rfl rfl Tryd.underlying45 rfl rfl (fun w1 hw => by rw [(bg_bad hx key).1, (bg_bad hx key).2.1, (bg_bad hx key).2.2]; exact SegR.none_ hw)
set_option maxHeartbeats 2000000 in
theorem append_any (A0 : Option Addr) (n0 c0 : Nat) (ch : Chn) (A2 : Option Addr) (c2 : Nat) (rl : List Rs) (A3 : Option Addr) (n3 c3 : Nat) (key : List Int) (w : World) (hb3 : Byt w w.heap.size A3 n3 key) (hk : n3 ≤ 1000000000) (hb0 : Byt w w.heap.size A0 n0 ch.dg) (hr2 : Reads w w.heap.size 17 A2 rl.length (rcs rl)) (hn0 : -1000000 ≤ ch.n) (hn1 : ch.n ≤ 1000000) (hd : ch.dg.length ≤ 10000) (hrl : rl.length ≤ 1000000000) (hOk : ∀ r ∈ rl, r.Ok) {ts tk : TypeId} (hst : Blk w 0 ts start8.cells) (hky : Blk w 1 tk (arrOf keysL)) :
  Calls Tryd.prog 36 #[.agg #[.int .i64 ch.v, .int .i64 ch.run, .int .i64 ch.n, .slice A0 n0 c0], .slice A2 rl.length c2, .slice A3 n3 c3] w fun e w' => SegR (apC ch rl key) (apS ch rl key) (apE ch rl) w e w' := by
 have hl0 := hb0.len
 refine begin_ (vs := [.agg #[.int .i64 ch.v, .int .i64 ch.run, .int .i64 ch.n, .slice A0 n0 c0], .slice A2 rl.length c2, .slice A3 n3 c3]) Tryd.func36 rfl rfl rfl ?_ (Pm.start w)
 refine TC.seq_ (TC.region ?_)
 refine TL.pnew rfl rfl rfl (exec_box (cs := [.int .i64 ch.v, .int .i64 ch.run, .int .i64 ch.n, .slice A0 n0 c0]) rfl rfl rfl) (fun g3 => ?_)
 refine TL.pnew rfl rfl rfl (exec_alloc (cs := [.int .i64 0, .int .i64 0, .int .i64 0, .slice none 0 0]) rfl japzv45 rfl) (fun g6 => ?_)
 refine TL.val rfl rfl rfl (gives_assign rfl rfl) ?_
 refine TL.val rfl rfl rfl (gives_assign rfl rfl) ?_
 refine TL.end_ (TX.then_ (TC.seq_ (TC.seq_ (TC.region ?_))))
 refine TL.val rfl rfl rfl (gives_move rfl rfl) ?_
 refine TL.val rfl rfl rfl (gives_len rfl Tryd.underlying33 rfl) ?_
 refine TL.vsplit rfl rfl rfl (gives_bin rfl rfl rfl (fun w => bin_lss w)) (fun h15 => ?_) (fun h15 => ?_)
 ·have q15 := of_decide_eq_true h15
  have hbig : apBig ch rl := by unfold apBig; omega
  iterate 13 (first | refine TL.off rfl rfl rfl rfl rfl rfl ?_ | refine TL.val rfl rfl rfl (gives_move rfl rfl) ?_ | refine TL.val rfl rfl rfl (gives_pick rfl rfl rfl) ?_)
  refine TL.end_ (TX.then_ (TC.condT rfl (TC.seq_ (TC.region ?_))))
  refine TL.val rfl rfl rfl (gives_build (v := .agg #[.int .i64 0, .int .i64 0, .int .i64 0, .slice none 0 0]) rfl rfl (fun w => japbld45_530  w)) ?_
  refine TL.pstore (k := 0) (vs := [.int .i64 0, .int .i64 0, .int .i64 0, .slice none 0 0]) rfl rfl rfl rfl rfl rfl rfl japsz45 japone_i64i64i64s (by show 4 ≤ 4; decide) (L' := [.blk g6 45 [.int .i64 0, .int .i64 0, .int .i64 0, .slice none 0 0], .blk g3 45 [.int .i64 ch.v, .int .i64 ch.run, .int .i64 ch.n, .slice A0 n0 c0]]) rfl ?_
  refine TL.val rfl rfl rfl (gives_assign rfl rfl) ?_
  refine TL.val rfl rfl rfl (gives_assign rfl rfl) ?_
  refine TL.end_ (TX.then_ (TC.ret_ (TX.then_ret ?_)))
  exact ret_cell3 (k := 0) (v := .slice none 0 0) (v2 := .int .i64 5) Tryd.results36 rfl rfl rfl rfl Tryd.underlying45 rfl rfl (fun w1 hw => by rw [(ap_bad (apE_big hbig) (by decide) key).1, (ap_bad (apE_big hbig) (by decide) key).2.1, (ap_bad (apE_big hbig) (by decide) key).2.2]; exact SegR.none_ hw)
 ·have q15 := of_decide_eq_false h15
  iterate 4 (first | refine TL.on rfl rfl rfl ?_ | refine TL.val rfl rfl rfl (gives_move rfl rfl) ?_)
  refine TL.val rfl rfl rfl (gives_len rfl Tryd.underlying33 rfl) ?_
  refine TL.on rfl rfl rfl ?_
  refine TL.vsplit rfl rfl rfl (gives_bin rfl rfl rfl (fun w => bin_gtr w)) (fun h19 => ?_) (fun h19 => ?_)
  ·have q19 := of_decide_eq_true h19
   have hbig : apBig ch rl := by unfold apBig; omega
   iterate 9 (first | refine TL.off rfl rfl rfl rfl rfl rfl ?_ | refine TL.val rfl rfl rfl (gives_pick rfl rfl rfl) ?_ | refine TL.val rfl rfl rfl (gives_move rfl rfl) ?_)
   refine TL.end_ (TX.then_ (TC.condT rfl (TC.seq_ (TC.region ?_))))
   refine TL.val rfl rfl rfl (gives_build (v := .agg #[.int .i64 0, .int .i64 0, .int .i64 0, .slice none 0 0]) rfl rfl (fun w => japbld45_530  w)) ?_
   refine TL.pstore (k := 0) (vs := [.int .i64 0, .int .i64 0, .int .i64 0, .slice none 0 0]) rfl rfl rfl rfl rfl rfl rfl japsz45 japone_i64i64i64s (by show 4 ≤ 4; decide) (L' := [.blk g6 45 [.int .i64 0, .int .i64 0, .int .i64 0, .slice none 0 0], .blk g3 45 [.int .i64 ch.v, .int .i64 ch.run, .int .i64 ch.n, .slice A0 n0 c0]]) rfl ?_
   refine TL.val rfl rfl rfl (gives_assign rfl rfl) ?_
   refine TL.val rfl rfl rfl (gives_assign rfl rfl) ?_
   refine TL.end_ (TX.then_ (TC.ret_ (TX.then_ret ?_)))
   exact ret_cell3 (k := 0) (v := .slice none 0 0) (v2 := .int .i64 5) Tryd.results36 rfl rfl rfl rfl Tryd.underlying45 rfl rfl (fun w1 hw => by rw [(ap_bad (apE_big hbig) (by decide) key).1, (ap_bad (apE_big hbig) (by decide) key).2.1, (ap_bad (apE_big hbig) (by decide) key).2.2]; exact SegR.none_ hw)
  ·have q19 := of_decide_eq_false h19
   refine TL.val rfl rfl rfl (gives_pick rfl rfl rfl) ?_
   refine TL.val rfl rfl rfl (gives_move rfl rfl) ?_
   refine TL.on rfl rfl rfl ?_
   refine TL.val rfl rfl rfl (gives_field (v := .pointer (some ⟨g3, 2, none⟩)) rfl rfl (fun w => japfld45_2 _ _ w)) ?_
   refine TL.on rfl rfl rfl ?_
   refine TL.val rfl rfl rfl (pm_load (k := 1) (i := 2) rfl rfl japag3 rfl rfl) ?_
   refine TL.on rfl rfl rfl ?_
   refine TL.val rfl rfl rfl (gives_move rfl rfl) ?_
   refine TL.on rfl rfl rfl ?_
   refine TL.val rfl rfl rfl (gives_len rfl Tryd.underlying33 rfl) ?_
   refine TL.on rfl rfl rfl ?_
   refine TL.val rfl rfl rfl (gives_bin rfl rfl rfl (fun w => bin_sub_ (r := 1000 - (rl.length : Nat)) (by simp only [IntKind.wrap_i64]; omega) w)) ?_
   refine TL.on rfl rfl rfl ?_
   refine TL.vsplit rfl rfl rfl (gives_bin rfl rfl rfl (fun w => bin_gtr w)) (fun h27 => ?_) (fun h27 => ?_)
   ·have q27 := of_decide_eq_true h27
    have hbig : apBig ch rl := by unfold apBig; omega
    refine TL.val rfl rfl rfl (gives_pick rfl rfl rfl) ?_
    refine TL.end_ (TX.then_ (TC.condT rfl (TC.seq_ (TC.region ?_))))
    refine TL.val rfl rfl rfl (gives_build (v := .agg #[.int .i64 0, .int .i64 0, .int .i64 0, .slice none 0 0]) rfl rfl (fun w => japbld45_530  w)) ?_
    refine TL.pstore (k := 0) (vs := [.int .i64 0, .int .i64 0, .int .i64 0, .slice none 0 0]) rfl rfl rfl rfl rfl rfl rfl japsz45 japone_i64i64i64s (by show 4 ≤ 4; decide) (L' := [.blk g6 45 [.int .i64 0, .int .i64 0, .int .i64 0, .slice none 0 0], .blk g3 45 [.int .i64 ch.v, .int .i64 ch.run, .int .i64 ch.n, .slice A0 n0 c0]]) rfl ?_
    refine TL.val rfl rfl rfl (gives_assign rfl rfl) ?_
    refine TL.val rfl rfl rfl (gives_assign rfl rfl) ?_
    refine TL.end_ (TX.then_ (TC.ret_ (TX.then_ret ?_)))
    exact ret_cell3 (k := 0) (v := .slice none 0 0) (v2 := .int .i64 5) Tryd.results36 rfl rfl rfl rfl Tryd.underlying45 rfl rfl (fun w1 hw => by rw [(ap_bad (apE_big hbig) (by decide) key).1, (ap_bad (apE_big hbig) (by decide) key).2.1, (ap_bad (apE_big hbig) (by decide) key).2.2]; exact SegR.none_ hw)
   ·have q27 := of_decide_eq_false h27
    have hbig : ¬ apBig ch rl := by unfold apBig; omega
    refine TL.val rfl rfl rfl (gives_pick rfl rfl rfl) ?_
    refine TL.end_ (TX.then_ (TC.condF rfl (TC.skip_ (TX.then_ (TC.seq_ (TC.seq_ (TC.region ?_)))))))
    refine TL.val rfl rfl rfl (gives_move rfl rfl) ?_
    refine TL.val rfl rfl rfl (gives_len rfl Tryd.underlying33 rfl) ?_
    refine TL.val rfl rfl rfl (gives_move rfl rfl) ?_
    refine TL.end_ (TX.then_ (TC.block ?_))
    refine TC.loop_ (α := {i : Nat // i ≤ rl.length ∧ badR ch rl 0 = badR ch (rl.drop i) i}) (fun y => [(1, .slice A2 rl.length c2), (2, .slice A3 n3 c3), (3, .pointer (some ⟨g3, 0, none⟩)), (6, .pointer (some ⟨g6, 0, none⟩)), (30, .slice A2 rl.length c2), (31, .int .i64 (rl.length : Nat)), (32, .int .i64 (y.1 : Nat))]) (fun y => Pm w [.blk g3 45 [.int .i64 ch.v, .int .i64 ch.run, .int .i64 ch.n, .slice A0 n0 c0], .blk g6 45 [.int .i64 0, .int .i64 0, .int .i64 0, .slice none 0 0]]) (fun y => rl.length - y.1) (⟨0, Nat.zero_le _, by rw [List.drop_zero]⟩) ⟨rfl, rfl, rfl, rfl, rfl, rfl, rfl, trivial⟩ (fun w1 hw => hw.pick [1, 0] (by decide) rfl) ?_
    rintro ⟨i, hi, hinv⟩
    dsimp only at hi hinv ⊢
    refine TC.seq_ (TC.region ?_)
    refine TL.vsplit rfl rfl rfl (gives_bin rfl rfl rfl (fun w => bin_lss w)) (fun h33 => ?_) (fun h33 => ?_)
    ·have q33 := of_decide_eq_true h33
     have hi2 : i < rl.length := by omega
     obtain ⟨r, hxr⟩ : ∃ r, rl[i]? = some r := ⟨_, List.getElem?_eq_getElem hi2⟩
     obtain ⟨b2, o2, hA2, hbb2, hc2⟩ := hr2.ad (by omega) (by decide)
     refine TL.end_ (TX.then_ (TC.seq_ (TC.condT rfl (TC.skip_ (TX.then_ (TC.seq_ (TC.block (TC.seq_ (TC.region ?_)))))))))
     refine TL.val rfl rfl rfl (gives_move rfl rfl) ?_
     refine TL.val rfl rfl rfl (gives_at (v := .pointer (some ⟨b2, o2 + i * 17, none⟩)) rfl rfl rfl (fun w => at_el Tryd.underlying33 japsz27 hA2 _ _ i hi2 rfl w)) ?_
     refine TL.val rfl rfl rfl (gives_loadR rfl rfl japag27 japsz27 (rs_cells_len r) (fun w1 hw j u hu => (hw.bel.cell hbb2).trans (rcs_cell hxr hc2 j u hu))) ?_
     refine TL.pnew rfl rfl rfl (exec_alloc (cs := [.int .i64 0, .int .i64 0, .int .i64 0, .int .i64 0, .int .u32 0, .int .i64 0, .int .i64 0, .int .i64 0, .bool false, .bool false, .int .i64 0, .int .u32 0, .int .i64 0, .int .i64 0, .int .i64 0, .int .i64 0, .int .i64 0]) rfl japzv27 rfl) (fun g10 => ?_)
     refine TL.val rfl rfl rfl (gives_assign rfl rfl) ?_
     refine TL.pstore (k := 0) (vs := r.cells) rfl rfl rfl rfl rfl rfl rfl japsz27 (rs_one r) (by show 17 ≤ 17; decide) (L' := [.blk g10 27 r.cells, .blk g3 45 [.int .i64 ch.v, .int .i64 ch.run, .int .i64 ch.n, .slice A0 n0 c0], .blk g6 45 [.int .i64 0, .int .i64 0, .int .i64 0, .slice none 0 0]]) rfl ?_
     refine TL.end_ (TX.then_ (TC.seq_ (TC.seq_ (TC.region ?_))))
     refine TL.val rfl rfl rfl (pm_loadV (k := 0) (i := 0) (n := 17) (v := .agg (r.cells).toArray) rfl rfl japag27 japsz27 rfl (by show 17 ≤ 17; decide) rfl) ?_
     refine TL.pcall1 (r := .int .i64 (chkR r)) rfl rfl rfl rfl rfl Tryd.func14 japnm14 japbd14 (fun w1 hw => check_any r w1) ?_
     refine TL.val rfl rfl rfl (gives_assign rfl rfl) ?_
     refine TL.end_ (TX.then_ (TC.seq_ (TC.region ?_)))
     refine TL.val rfl rfl rfl (gives_move rfl rfl) ?_
     refine TL.vsplit rfl rfl rfl (gives_bin rfl rfl rfl (fun w => bin_neq w)) (fun h40 => ?_) (fun h40 => ?_)
     ·have q40 := of_decide_eq_true h40
      have hq : chkR r ≠ 0 := q40
      have hE : apE ch rl = chkR r := by rw [apE, if_neg hbig, hinv, badR_chk hxr hq]
      refine TL.end_ (TX.then_ (TC.condT rfl (TC.seq_ (TC.region ?_))))
      refine TL.val rfl rfl rfl (gives_build (v := .agg #[.int .i64 0, .int .i64 0, .int .i64 0, .slice none 0 0]) rfl rfl (fun w => japbld45_530  w)) ?_
      refine TL.val rfl rfl rfl (gives_move rfl rfl) ?_
      refine TL.pstore (k := 2) (vs := [.int .i64 0, .int .i64 0, .int .i64 0, .slice none 0 0]) rfl rfl rfl rfl rfl rfl rfl japsz45 japone_i64i64i64s (by show 4 ≤ 4; decide) (L' := [.blk g10 27 r.cells, .blk g3 45 [.int .i64 ch.v, .int .i64 ch.run, .int .i64 ch.n, .slice A0 n0 c0], .blk g6 45 [.int .i64 0, .int .i64 0, .int .i64 0, .slice none 0 0]]) rfl ?_
      refine TL.val rfl rfl rfl (gives_assign rfl rfl) ?_
      refine TL.val rfl rfl rfl (gives_assign rfl rfl) ?_
      refine TL.end_ (TX.then_ (TC.ret_ (TX.then_ret (TX.in_ret (TX.then_ret (TX.then_ret (TX.in_ret (TX.then_ret ?_))))))))
      exact ret_cell3 (k := 2) (v := .slice none 0 0) (v2 := .int .i64 (chkR r)) Tryd.results36 rfl rfl rfl rfl Tryd.underlying45 rfl rfl (fun w1 hw => by rw [(ap_bad hE hq key).1, (ap_bad hE hq key).2.1, (ap_bad hE hq key).2.2]; exact SegR.none_ hw)
     ·have q40 := of_decide_eq_false h40
      have hc0 : chkR r = 0 := Decidable.not_not.1 q40
      refine TL.end_ (TX.then_ (TC.condF rfl (TC.skip_ (TX.then_ (TC.seq_ (TC.region ?_))))))
      refine TL.val rfl rfl rfl (pm_loadV (k := 1) (i := 0) (n := 4) (v := .agg #[.int .i64 ch.v, .int .i64 ch.run, .int .i64 ch.n, .slice A0 n0 c0]) rfl rfl japag45 japsz45 rfl (by show 4 ≤ 4; decide) rfl) ?_
      refine TL.val rfl rfl rfl (gives_move rfl rfl) ?_
      refine TL.val rfl rfl rfl (pm_loadV (k := 0) (i := 0) (n := 17) (v := .agg (r.cells).toArray) rfl rfl japag27 japsz27 rfl (by show 17 ≤ 17; decide) rfl) ?_
      refine TL.callsplit rfl rfl rfl rfl rfl Tryd.func62 japnm62 japbd62 (fun w1 hw => follows_any ch.v ch.run ch.n (i : Nat) A0 n0 c0 r w1 (by omega)) (fun h46 => ?_) (fun h46 => ?_)
      ·refine TL.val rfl rfl rfl (gives_boolnot rfl rfl) ?_
       refine TL.end_ (TX.then_ (TC.condF rfl (TC.skip_ (TX.in_normal (TX.then_ (TC.region ?_))))))
       refine TL.val rfl rfl rfl (gives_bin rfl rfl rfl (fun w => bin_add_ (r := ((i + 1 : Nat) : Int)) (by simp only [IntKind.wrap_i64]; omega) w)) ?_
       refine TL.val rfl rfl rfl (gives_move rfl rfl) ?_
       refine TL.end_ ?_
       exact TX.round (⟨i + 1, hi2, by rw [hinv, badR_next hxr hc0 h46]⟩) (by show rl.length - (i + 1) < rl.length - i; omega) ⟨rfl, rfl, rfl, rfl, rfl, rfl, rfl, trivial⟩ (fun w1 hw => hw.pick [1, 2] (by decide) rfl)
      ·have hE : apE ch rl = 18 := by rw [apE, if_neg hbig, hinv, badR_fol hxr hc0 h46]
       refine TL.val rfl rfl rfl (gives_boolnot rfl rfl) ?_
       refine TL.end_ (TX.then_ (TC.condT rfl (TC.seq_ (TC.region ?_))))
       refine TL.val rfl rfl rfl (gives_build (v := .agg #[.int .i64 0, .int .i64 0, .int .i64 0, .slice none 0 0]) rfl rfl (fun w => japbld45_530  w)) ?_
       refine TL.pstore (k := 2) (vs := [.int .i64 0, .int .i64 0, .int .i64 0, .slice none 0 0]) rfl rfl rfl rfl rfl rfl rfl japsz45 japone_i64i64i64s (by show 4 ≤ 4; decide) (L' := [.blk g10 27 r.cells, .blk g3 45 [.int .i64 ch.v, .int .i64 ch.run, .int .i64 ch.n, .slice A0 n0 c0], .blk g6 45 [.int .i64 0, .int .i64 0, .int .i64 0, .slice none 0 0]]) rfl ?_
       refine TL.val rfl rfl rfl (gives_assign rfl rfl) ?_
       refine TL.val rfl rfl rfl (gives_assign rfl rfl) ?_
       refine TL.end_ (TX.then_ (TC.ret_ (TX.in_ret (TX.then_ret (TX.then_ret (TX.in_ret (TX.then_ret ?_)))))))
       exact ret_cell3 (k := 2) (v := .slice none 0 0) (v2 := .int .i64 18) Tryd.results36 rfl rfl rfl rfl Tryd.underlying45 rfl rfl (fun w1 hw => by rw [(ap_bad hE (by decide) key).1, (ap_bad hE (by decide) key).2.1, (ap_bad hE (by decide) key).2.2]; exact SegR.none_ hw)
    ·have q33 := of_decide_eq_false h33
     have hi2 : i = rl.length := by omega
     subst hi2
     have hE : apE ch rl = 0 := by rw [apE, if_neg hbig, hinv, List.drop_length]; rfl
     obtain ⟨g1, g2, g3_, g4, g5, g6_, g7, g8, g9, g10⟩ := ap_id hE
     have hsl := segL_le ch.v ch.run ch.n ch.dg rl key
     refine TL.end_ (TX.then_ (TC.seq_ (TC.condF rfl (TC.exit_ (TX.then_exit (TX.then_exit (TX.in_same (TX.then_ (TC.seq_ (TC.region ?_))))))))))
     refine TL.val rfl rfl rfl (pm_loadV (k := 0) (i := 0) (n := 4) (v := .agg #[.int .i64 ch.v, .int .i64 ch.run, .int .i64 ch.n, .slice A0 n0 c0]) rfl rfl japag45 japsz45 rfl (by show 4 ≤ 4; decide) rfl) ?_
     refine TL.val rfl rfl rfl (gives_field (v := .pointer (some ⟨g3, 3, none⟩)) rfl rfl (fun w => japfld45_3 _ _ w)) ?_
     refine TL.val rfl rfl rfl (pm_load (k := 0) (i := 3) rfl rfl japag28 rfl rfl) ?_
     refine TL.val rfl rfl rfl (gives_move rfl rfl) ?_
     refine TL.val rfl rfl rfl (gives_move rfl rfl) ?_
     refine TL.pcallRow (n := (segL ch.v ch.run ch.n ch.dg rl key).length) (ys := bv (segL ch.v ch.run ch.n ch.dg rl key)) rfl rfl rfl rfl rfl Tryd.func59 japnm59 japbd59 (fun w1 hw => seg_any ch.v ch.run ch.n _ _ _ _ _ _ ch.dg _ _ rl _ _ _ key w1 ((hb0.below hw.bel).more hw.bel.size) ((hr2.below hw.bel).more hw.bel.size) ((hb3.below hw.bel).more hw.bel.size) (by first | omega | decide | exact (by simp [zeroL])) (by first | omega | decide | exact (by simp [zeroL])) (by first | omega | decide | exact (by simp [zeroL])) (by first | omega | decide | exact (by simp [zeroL])) (by first | omega | decide | exact (by simp [zeroL])) (by first | omega | decide | exact (by simp [zeroL])) (by first | omega | decide | exact (by simp [zeroL])) (by first | omega | decide | exact (by simp [zeroL])) (by first | omega | decide | exact (by simp [zeroL])) hOk (hst.below hw.bel hst.lt) (hky.below hw.bel hky.lt)) (fun A55 c55 hA551 hA552 => ?_)
     refine TL.val rfl rfl rfl (gives_assign rfl rfl) ?_
     refine TL.end_ (TX.then_ (TC.seq_ (TC.region ?_)))
     refine TL.val rfl rfl rfl (gives_field (v := .pointer (some ⟨g3, 2, none⟩)) rfl rfl (fun w => japfld45_2 _ _ w)) ?_
     refine TL.val rfl rfl rfl (pm_load (k := 1) (i := 2) rfl rfl japag3 rfl rfl) ?_
     refine TL.val rfl rfl rfl (gives_move rfl rfl) ?_
     refine TL.val rfl rfl rfl (gives_len rfl Tryd.underlying33 rfl) ?_
     refine TL.val rfl rfl rfl (gives_bin rfl rfl rfl (fun w => bin_add_ (r := ch.n + (rl.length : Nat)) (by simp only [IntKind.wrap_i64]; omega) w)) ?_
     refine TL.val rfl rfl rfl (gives_field (v := .pointer (some ⟨g3, 2, none⟩)) rfl rfl (fun w => japfld45_2 _ _ w)) ?_
     refine TL.pstore (k := 1) (vs := [.int .i64 (ch.n + (rl.length : Nat))]) rfl rfl rfl rfl rfl rfl rfl japsz3 japone_i64 (by show 3 ≤ 4; decide) (L' := [.row (.slice A55 ((segL ch.v ch.run ch.n ch.dg rl key).length) c55) 5 1 ((segL ch.v ch.run ch.n ch.dg rl key).length) (bv (segL ch.v ch.run ch.n ch.dg rl key)), .blk g3 45 [.int .i64 ch.v, .int .i64 ch.run, .int .i64 (ch.n + (rl.length : Nat)), .slice A0 n0 c0], .blk g6 45 [.int .i64 0, .int .i64 0, .int .i64 0, .slice none 0 0]]) rfl ?_
     refine TL.end_ (TX.then_ (TC.seq_ (TC.region ?_)))
     refine TL.val rfl rfl rfl (gives_move rfl rfl) ?_
     refine TL.pcallRow (n := 32) (ys := bv (shaF (segL ch.v ch.run ch.n ch.dg rl key))) rfl rfl rfl rfl rfl Tryd.func54 japnm54 japbd54 (fun w1 hw => sum_any _ _ _ (segL ch.v ch.run ch.n ch.dg rl key) w1 (byt_own (hw.at_ (k := 0) rfl) (segL_bs _ _ _ hb0.2 _ _)) (by omega) (hst.below hw.bel hst.lt) (hky.below hw.bel hky.lt)) (fun A63 c63 hA631 hA632 => ?_)
     refine TL.val rfl rfl rfl (gives_field (v := .pointer (some ⟨g3, 3, none⟩)) rfl rfl (fun w => japfld45_3 _ _ w)) ?_
     refine TL.pstore (k := 2) (vs := [.slice A63 32 c63]) rfl rfl rfl rfl rfl rfl rfl japsz28 japone_s (by show 4 ≤ 4; decide) (L' := [.row (.slice A63 32 c63) 5 1 32 (bv (shaF (segL ch.v ch.run ch.n ch.dg rl key))), .row (.slice A55 ((segL ch.v ch.run ch.n ch.dg rl key).length) c55) 5 1 ((segL ch.v ch.run ch.n ch.dg rl key).length) (bv (segL ch.v ch.run ch.n ch.dg rl key)), .blk g3 45 [.int .i64 ch.v, .int .i64 ch.run, .int .i64 (ch.n + (rl.length : Nat)), .slice A63 32 c63], .blk g6 45 [.int .i64 0, .int .i64 0, .int .i64 0, .slice none 0 0]]) rfl ?_
     refine TL.end_ (TX.then_ (TC.seq_ (TC.region ?_)))
     refine TL.val rfl rfl rfl (pm_loadV (k := 2) (i := 0) (n := 4) (v := .agg #[.int .i64 ch.v, .int .i64 ch.run, .int .i64 (ch.n + (rl.length : Nat)), .slice A63 32 c63]) rfl rfl japag45 japsz45 rfl (by show 4 ≤ 4; decide) rfl) ?_
     refine TL.val rfl rfl rfl (gives_move rfl rfl) ?_
     refine TL.pstore (k := 3) (vs := [.int .i64 ch.v, .int .i64 ch.run, .int .i64 (ch.n + (rl.length : Nat)), .slice A63 32 c63]) rfl rfl rfl rfl rfl rfl rfl japsz45 japone_i64i64i64s (by show 4 ≤ 4; decide) (L' := [.row (.slice A63 32 c63) 5 1 32 (bv (shaF (segL ch.v ch.run ch.n ch.dg rl key))), .row (.slice A55 ((segL ch.v ch.run ch.n ch.dg rl key).length) c55) 5 1 ((segL ch.v ch.run ch.n ch.dg rl key).length) (bv (segL ch.v ch.run ch.n ch.dg rl key)), .blk g3 45 [.int .i64 ch.v, .int .i64 ch.run, .int .i64 (ch.n + (rl.length : Nat)), .slice A63 32 c63], .blk g6 45 [.int .i64 ch.v, .int .i64 ch.run, .int .i64 (ch.n + (rl.length : Nat)), .slice A63 32 c63]]) rfl ?_
     refine TL.val rfl rfl rfl (gives_assign rfl rfl) ?_
     refine TL.val rfl rfl rfl (gives_assign rfl rfl) ?_
     refine TL.end_ (TX.then_ (TC.ret_ ?_))
     exact ret_cell3 (k := 3) (v := .slice A55 ((segL ch.v ch.run ch.n ch.dg rl key).length) c55) (v2 := .int .i64 0) Tryd.results36 rfl rfl rfl rfl Tryd.underlying45 rfl rfl (fun w1 hw => by rw [(ap_ok hE key).1, (ap_ok hE key).2.1, (ap_ok hE key).2.2]; exact ⟨A55, c55, A63, c63, _, _, rfl, shaF_len _, hA551, hA552, hA631, hA632, rfl, hw.pick [1, 0] (by decide) rfl⟩)
set_option maxHeartbeats 2000000 in
theorem rappend_any (A0 : Option Addr) (n0 c0 : Nat) (ch : Chn) (A2 : Option Addr) (c2 : Nat) (rl : List Rs) (A3 : Option Addr) (n3 c3 : Nat) (key : List Int) (w : World) (hb3 : Byt w w.heap.size A3 n3 key) (hk : n3 ≤ 1000000000) (hb0 : Byt w w.heap.size A0 n0 ch.dg) (hr2 : Reads w w.heap.size 17 A2 rl.length (rcs rl)) (hn0 : -1000000 ≤ ch.n) (hn1 : ch.n ≤ 1000000) (hd : ch.dg.length ≤ 10000) (hrl : rl.length ≤ 1000000000) (hOk : ∀ r ∈ rl, r.Ok) :
  Calls Tryd.prog 37 #[.agg #[.int .i64 ch.v, .int .i64 ch.run, .int .i64 ch.n, .slice A0 n0 c0], .slice A2 rl.length c2, .slice A3 n3 c3] w fun e w' => SegR (apC ch rl key) (apS ch rl key) (apE ch rl) w e w' := by
 have hl0 := hb0.len
 refine begin_ (vs := [.agg #[.int .i64 ch.v, .int .i64 ch.run, .int .i64 ch.n, .slice A0 n0 c0], .slice A2 rl.length c2, .slice A3 n3 c3]) Tryd.func37 rfl rfl rfl ?_ (Pm.start w)
 refine TC.seq_ (TC.region ?_)
 refine TL.pnew rfl rfl rfl (exec_box (cs := [.int .i64 ch.v, .int .i64 ch.run, .int .i64 ch.n, .slice A0 n0 c0]) rfl rfl rfl) (fun g3 => ?_)
 refine TL.pnew rfl rfl rfl (exec_alloc (cs := [.int .i64 0, .int .i64 0, .int .i64 0, .slice none 0 0]) rfl japzv45 rfl) (fun g6 => ?_)
 refine TL.val rfl rfl rfl (gives_assign rfl rfl) ?_
 refine TL.val rfl rfl rfl (gives_assign rfl rfl) ?_
 refine TL.end_ (TX.then_ (TC.seq_ (TC.seq_ (TC.region ?_))))
 refine TL.val rfl rfl rfl (gives_move rfl rfl) ?_
 refine TL.val rfl rfl rfl (gives_len rfl Tryd.underlying33 rfl) ?_
 refine TL.vsplit rfl rfl rfl (gives_bin rfl rfl rfl (fun w => bin_lss w)) (fun h14 => ?_) (fun h14 => ?_)
 ·have q14 := of_decide_eq_true h14
  have hbig : apBig ch rl := by unfold apBig; omega
  iterate 13 (first | refine TL.off rfl rfl rfl rfl rfl rfl ?_ | refine TL.val rfl rfl rfl (gives_move rfl rfl) ?_ | refine TL.val rfl rfl rfl (gives_pick rfl rfl rfl) ?_)
  refine TL.end_ (TX.then_ (TC.condT rfl (TC.seq_ (TC.region ?_))))
  refine TL.val rfl rfl rfl (gives_build (v := .agg #[.int .i64 0, .int .i64 0, .int .i64 0, .slice none 0 0]) rfl rfl (fun w => japbld45_530  w)) ?_
  refine TL.pstore (k := 0) (vs := [.int .i64 0, .int .i64 0, .int .i64 0, .slice none 0 0]) rfl rfl rfl rfl rfl rfl rfl japsz45 japone_i64i64i64s (by show 4 ≤ 4; decide) (L' := [.blk g6 45 [.int .i64 0, .int .i64 0, .int .i64 0, .slice none 0 0], .blk g3 45 [.int .i64 ch.v, .int .i64 ch.run, .int .i64 ch.n, .slice A0 n0 c0]]) rfl ?_
  refine TL.val rfl rfl rfl (gives_assign rfl rfl) ?_
  refine TL.val rfl rfl rfl (gives_assign rfl rfl) ?_
  refine TL.end_ (TX.then_ (TC.ret_ (TX.then_ret ?_)))
  exact ret_cell3 (k := 0) (v := .slice none 0 0) (v2 := .int .i64 5) Tryd.results37 rfl rfl rfl rfl Tryd.underlying45 rfl rfl (fun w1 hw => by rw [(ap_bad (apE_big hbig) (by decide) key).1, (ap_bad (apE_big hbig) (by decide) key).2.1, (ap_bad (apE_big hbig) (by decide) key).2.2]; exact SegR.none_ hw)
 ·have q14 := of_decide_eq_false h14
  iterate 4 (first | refine TL.on rfl rfl rfl ?_ | refine TL.val rfl rfl rfl (gives_move rfl rfl) ?_)
  refine TL.val rfl rfl rfl (gives_len rfl Tryd.underlying33 rfl) ?_
  refine TL.on rfl rfl rfl ?_
  refine TL.vsplit rfl rfl rfl (gives_bin rfl rfl rfl (fun w => bin_gtr w)) (fun h18 => ?_) (fun h18 => ?_)
  ·have q18 := of_decide_eq_true h18
   have hbig : apBig ch rl := by unfold apBig; omega
   iterate 9 (first | refine TL.off rfl rfl rfl rfl rfl rfl ?_ | refine TL.val rfl rfl rfl (gives_pick rfl rfl rfl) ?_ | refine TL.val rfl rfl rfl (gives_move rfl rfl) ?_)
   refine TL.end_ (TX.then_ (TC.condT rfl (TC.seq_ (TC.region ?_))))
   refine TL.val rfl rfl rfl (gives_build (v := .agg #[.int .i64 0, .int .i64 0, .int .i64 0, .slice none 0 0]) rfl rfl (fun w => japbld45_530  w)) ?_
   refine TL.pstore (k := 0) (vs := [.int .i64 0, .int .i64 0, .int .i64 0, .slice none 0 0]) rfl rfl rfl rfl rfl rfl rfl japsz45 japone_i64i64i64s (by show 4 ≤ 4; decide) (L' := [.blk g6 45 [.int .i64 0, .int .i64 0, .int .i64 0, .slice none 0 0], .blk g3 45 [.int .i64 ch.v, .int .i64 ch.run, .int .i64 ch.n, .slice A0 n0 c0]]) rfl ?_
   refine TL.val rfl rfl rfl (gives_assign rfl rfl) ?_
   refine TL.val rfl rfl rfl (gives_assign rfl rfl) ?_
   refine TL.end_ (TX.then_ (TC.ret_ (TX.then_ret ?_)))
   exact ret_cell3 (k := 0) (v := .slice none 0 0) (v2 := .int .i64 5) Tryd.results37 rfl rfl rfl rfl Tryd.underlying45 rfl rfl (fun w1 hw => by rw [(ap_bad (apE_big hbig) (by decide) key).1, (ap_bad (apE_big hbig) (by decide) key).2.1, (ap_bad (apE_big hbig) (by decide) key).2.2]; exact SegR.none_ hw)
  ·have q18 := of_decide_eq_false h18
   refine TL.val rfl rfl rfl (gives_pick rfl rfl rfl) ?_
   refine TL.val rfl rfl rfl (gives_move rfl rfl) ?_
   refine TL.on rfl rfl rfl ?_
   refine TL.val rfl rfl rfl (gives_field (v := .pointer (some ⟨g3, 2, none⟩)) rfl rfl (fun w => japfld45_2 _ _ w)) ?_
   refine TL.on rfl rfl rfl ?_
   refine TL.val rfl rfl rfl (pm_load (k := 1) (i := 2) rfl rfl japag3 rfl rfl) ?_
   refine TL.on rfl rfl rfl ?_
   refine TL.val rfl rfl rfl (gives_move rfl rfl) ?_
   refine TL.on rfl rfl rfl ?_
   refine TL.val rfl rfl rfl (gives_len rfl Tryd.underlying33 rfl) ?_
   refine TL.on rfl rfl rfl ?_
   refine TL.val rfl rfl rfl (gives_bin rfl rfl rfl (fun w => bin_add_ (r := ch.n + (rl.length : Nat)) (by simp only [IntKind.wrap_i64]; omega) w)) ?_
   refine TL.on rfl rfl rfl ?_
   refine TL.vsplit rfl rfl rfl (gives_bin rfl rfl rfl (fun w => bin_gtr w)) (fun h26 => ?_) (fun h26 => ?_)
   ·have q26 := of_decide_eq_true h26
    have hbig : apBig ch rl := by unfold apBig; omega
    refine TL.val rfl rfl rfl (gives_pick rfl rfl rfl) ?_
    refine TL.end_ (TX.then_ (TC.condT rfl (TC.seq_ (TC.region ?_))))
    refine TL.val rfl rfl rfl (gives_build (v := .agg #[.int .i64 0, .int .i64 0, .int .i64 0, .slice none 0 0]) rfl rfl (fun w => japbld45_530  w)) ?_
    refine TL.pstore (k := 0) (vs := [.int .i64 0, .int .i64 0, .int .i64 0, .slice none 0 0]) rfl rfl rfl rfl rfl rfl rfl japsz45 japone_i64i64i64s (by show 4 ≤ 4; decide) (L' := [.blk g6 45 [.int .i64 0, .int .i64 0, .int .i64 0, .slice none 0 0], .blk g3 45 [.int .i64 ch.v, .int .i64 ch.run, .int .i64 ch.n, .slice A0 n0 c0]]) rfl ?_
    refine TL.val rfl rfl rfl (gives_assign rfl rfl) ?_
    refine TL.val rfl rfl rfl (gives_assign rfl rfl) ?_
    refine TL.end_ (TX.then_ (TC.ret_ (TX.then_ret ?_)))
    exact ret_cell3 (k := 0) (v := .slice none 0 0) (v2 := .int .i64 5) Tryd.results37 rfl rfl rfl rfl Tryd.underlying45 rfl rfl (fun w1 hw => by rw [(ap_bad (apE_big hbig) (by decide) key).1, (ap_bad (apE_big hbig) (by decide) key).2.1, (ap_bad (apE_big hbig) (by decide) key).2.2]; exact SegR.none_ hw)
   ·have q26 := of_decide_eq_false h26
    have hbig : ¬ apBig ch rl := by unfold apBig; omega
    refine TL.val rfl rfl rfl (gives_pick rfl rfl rfl) ?_
    refine TL.end_ (TX.then_ (TC.condF rfl (TC.skip_ (TX.then_ (TC.seq_ (TC.seq_ (TC.region ?_)))))))
    refine TL.val rfl rfl rfl (gives_assign rfl rfl) ?_
    refine TL.end_ (TX.then_ (TC.block ?_))
    refine TC.loop_ (α := {i : Nat // i ≤ rl.length ∧ badR ch rl 0 = badR ch (rl.drop i) i}) (fun y => [(1, .slice A2 rl.length c2), (2, .slice A3 n3 c3), (3, .pointer (some ⟨g3, 0, none⟩)), (6, .pointer (some ⟨g6, 0, none⟩)), (9, .int .i64 (y.1 : Nat))]) (fun y => Pm w [.blk g3 45 [.int .i64 ch.v, .int .i64 ch.run, .int .i64 ch.n, .slice A0 n0 c0], .blk g6 45 [.int .i64 0, .int .i64 0, .int .i64 0, .slice none 0 0]]) (fun y => rl.length - y.1) (⟨0, Nat.zero_le _, by rw [List.drop_zero]⟩) ⟨rfl, rfl, rfl, rfl, rfl, trivial⟩ (fun w1 hw => hw.pick [1, 0] (by decide) rfl) ?_
    rintro ⟨i, hi, hinv⟩
    dsimp only at hi hinv ⊢
    refine TC.seq_ (TC.seq_ (TC.region ?_))
    refine TL.val rfl rfl rfl (gives_move rfl rfl) ?_
    refine TL.val rfl rfl rfl (gives_move rfl rfl) ?_
    refine TL.val rfl rfl rfl (gives_len rfl Tryd.underlying33 rfl) ?_
    refine TL.vsplit rfl rfl rfl (gives_bin rfl rfl rfl (fun w => bin_lss w)) (fun h32 => ?_) (fun h32 => ?_)
    ·have q32 := of_decide_eq_true h32
     have hi2 : i < rl.length := by omega
     obtain ⟨r, hxr⟩ : ∃ r, rl[i]? = some r := ⟨_, List.getElem?_eq_getElem hi2⟩
     obtain ⟨b2, o2, hA2, hbb2, hc2⟩ := hr2.ad (by omega) (by decide)
     refine TL.end_ (TX.then_ (TC.condT rfl (TC.skip_ (TX.then_ (TC.seq_ (TC.block (TC.seq_ (TC.seq_ (TC.region ?_)))))))))
     refine TL.val rfl rfl rfl (gives_move rfl rfl) ?_
     refine TL.val rfl rfl rfl (gives_move rfl rfl) ?_
     refine TL.val rfl rfl rfl (gives_at (v := .pointer (some ⟨b2, o2 + i * 17, none⟩)) rfl rfl rfl (fun w => at_el Tryd.underlying33 japsz27 hA2 _ _ i hi2 rfl w)) ?_
     refine TL.val rfl rfl rfl (gives_loadR rfl rfl japag27 japsz27 (rs_cells_len r) (fun w1 hw j u hu => (hw.bel.cell hbb2).trans (rcs_cell hxr hc2 j u hu))) ?_
     refine TL.pcall1 (r := .int .i64 (chkR r)) rfl rfl rfl rfl rfl Tryd.func15 japnm15 japbd15 (fun w1 hw => rcheck_any r w1) ?_
     refine TL.val rfl rfl rfl (gives_assign rfl rfl) ?_
     refine TL.end_ (TX.then_ (TC.seq_ (TC.region ?_)))
     refine TL.val rfl rfl rfl (gives_move rfl rfl) ?_
     refine TL.vsplit rfl rfl rfl (gives_bin rfl rfl rfl (fun w => bin_neq w)) (fun h41 => ?_) (fun h41 => ?_)
     ·have q41 := of_decide_eq_true h41
      have hq : chkR r ≠ 0 := q41
      have hE : apE ch rl = chkR r := by rw [apE, if_neg hbig, hinv, badR_chk hxr hq]
      refine TL.end_ (TX.then_ (TC.condT rfl (TC.seq_ (TC.region ?_))))
      refine TL.val rfl rfl rfl (gives_build (v := .agg #[.int .i64 0, .int .i64 0, .int .i64 0, .slice none 0 0]) rfl rfl (fun w => japbld45_530  w)) ?_
      refine TL.val rfl rfl rfl (gives_move rfl rfl) ?_
      refine TL.pstore (k := 1) (vs := [.int .i64 0, .int .i64 0, .int .i64 0, .slice none 0 0]) rfl rfl rfl rfl rfl rfl rfl japsz45 japone_i64i64i64s (by show 4 ≤ 4; decide) (L' := [.blk g3 45 [.int .i64 ch.v, .int .i64 ch.run, .int .i64 ch.n, .slice A0 n0 c0], .blk g6 45 [.int .i64 0, .int .i64 0, .int .i64 0, .slice none 0 0]]) rfl ?_
      refine TL.val rfl rfl rfl (gives_assign rfl rfl) ?_
      refine TL.val rfl rfl rfl (gives_assign rfl rfl) ?_
      refine TL.end_ (TX.then_ (TC.ret_ (TX.then_ret (TX.in_ret (TX.then_ret (TX.then_ret (TX.in_ret (TX.then_ret ?_))))))))
      exact ret_cell3 (k := 1) (v := .slice none 0 0) (v2 := .int .i64 (chkR r)) Tryd.results37 rfl rfl rfl rfl Tryd.underlying45 rfl rfl (fun w1 hw => by rw [(ap_bad hE hq key).1, (ap_bad hE hq key).2.1, (ap_bad hE hq key).2.2]; exact SegR.none_ hw)
     ·have q41 := of_decide_eq_false h41
      have hc0 : chkR r = 0 := Decidable.not_not.1 q41
      refine TL.end_ (TX.then_ (TC.condF rfl (TC.skip_ (TX.then_ (TC.seq_ ?_)))))
      rcases (by omega : (¬ r.v = ch.v) ∨ (r.v = ch.v ∧ ¬ r.run = ch.run) ∨ (r.v = ch.v ∧ r.run = ch.run ∧ ¬ r.num = ch.n + (i : Nat)) ∨ (r.v = ch.v ∧ r.run = ch.run ∧ r.num = ch.n + (i : Nat))) with p1 | ⟨p1, p2⟩ | ⟨p1, p2, p3⟩ | ⟨p1, p2, p3⟩
      ·have hf : followsC ch.v ch.run ch.n i r = false := decide_eq_false (by rintro ⟨x1, x2, x3⟩; omega)
       have hE : apE ch rl = 18 := by rw [apE, if_neg hbig, hinv, badR_fol hxr hc0 hf]
       refine TC.quiet_ (E' := ?_) (by kernel_rfl) (by kernel_rfl) (fun w hw => hw.drawn _) ?_ ?_
       rotate_left
       ·refine TQ.val rfl rfl rfl (gives_move rfl rfl) ?_
        refine TQ.val rfl rfl rfl (gives_move rfl rfl) ?_
        refine TQ.val rfl rfl rfl (gives_at (v := .pointer (some ⟨b2, o2 + i * 17, none⟩)) rfl rfl rfl (fun w => at_el Tryd.underlying33 japsz27 hA2 _ _ i hi2 rfl w)) ?_
        refine TQ.val rfl rfl rfl (gives_field (v := .pointer (some ⟨b2, o2 + i * 17 + 0, none⟩)) rfl rfl (fun w => japfld27_0 _ _ w)) ?_
        refine TQ.val rfl rfl rfl (gives_load (v := .int .i64 r.v) rfl rfl (fun w => rfl) (fun w1 hw => (hw.bel.cell hbb2).trans (rcs_cell hxr hc2 0 _ rfl))) ?_
        refine TQ.val rfl rfl rfl (gives_field (v := .pointer (some ⟨g3, 0, none⟩)) rfl rfl (fun w => japfld45_0 _ _ w)) ?_
        refine TQ.val rfl rfl rfl (pm_load (k := 0) (i := 0) rfl rfl japag3 rfl rfl) ?_
        refine TQ.val rfl rfl rfl (gives_bin rfl rfl rfl (fun w => bin_neq_t (p1) w)) ?_
        iterate 22 (first | refine TQ.off rfl rfl rfl rfl rfl rfl ?_ | refine TQ.val rfl rfl rfl (gives_move rfl rfl) ?_ | refine TQ.val rfl rfl rfl (gives_pick rfl rfl rfl) ?_)
        exact TQ.end_
       refine TX.then_ (TC.condT rfl (TC.seq_ (TC.region ?_)))
       refine TL.val rfl rfl rfl (gives_build (v := .agg #[.int .i64 0, .int .i64 0, .int .i64 0, .slice none 0 0]) rfl rfl (fun w => japbld45_530  w)) ?_
       refine TL.pstore (k := 1) (vs := [.int .i64 0, .int .i64 0, .int .i64 0, .slice none 0 0]) rfl rfl rfl rfl rfl rfl rfl japsz45 japone_i64i64i64s (by show 4 ≤ 4; decide) (L' := [.blk g3 45 [.int .i64 ch.v, .int .i64 ch.run, .int .i64 ch.n, .slice A0 n0 c0], .blk g6 45 [.int .i64 0, .int .i64 0, .int .i64 0, .slice none 0 0]]) rfl ?_
       refine TL.val rfl rfl rfl (gives_assign rfl rfl) ?_
       refine TL.val rfl rfl rfl (gives_assign rfl rfl) ?_
       refine TL.end_ (TX.then_ (TC.ret_ (TX.in_ret (TX.then_ret (TX.then_ret (TX.in_ret (TX.then_ret ?_)))))))
       exact ret_cell3 (k := 1) (v := .slice none 0 0) (v2 := .int .i64 18) Tryd.results37 rfl rfl rfl rfl Tryd.underlying45 rfl rfl (fun w1 hw => by rw [(ap_bad hE (by decide) key).1, (ap_bad hE (by decide) key).2.1, (ap_bad hE (by decide) key).2.2]; exact SegR.none_ hw)
      ·have hf : followsC ch.v ch.run ch.n i r = false := decide_eq_false (by rintro ⟨x1, x2, x3⟩; omega)
       have hE : apE ch rl = 18 := by rw [apE, if_neg hbig, hinv, badR_fol hxr hc0 hf]
       refine TC.quiet_ (E' := ?_) (by kernel_rfl) (by kernel_rfl) (fun w hw => hw.drawn _) ?_ ?_
       rotate_left
       ·refine TQ.val rfl rfl rfl (gives_move rfl rfl) ?_
        refine TQ.val rfl rfl rfl (gives_move rfl rfl) ?_
        refine TQ.val rfl rfl rfl (gives_at (v := .pointer (some ⟨b2, o2 + i * 17, none⟩)) rfl rfl rfl (fun w => at_el Tryd.underlying33 japsz27 hA2 _ _ i hi2 rfl w)) ?_
        refine TQ.val rfl rfl rfl (gives_field (v := .pointer (some ⟨b2, o2 + i * 17 + 0, none⟩)) rfl rfl (fun w => japfld27_0 _ _ w)) ?_
        refine TQ.val rfl rfl rfl (gives_load (v := .int .i64 r.v) rfl rfl (fun w => rfl) (fun w1 hw => (hw.bel.cell hbb2).trans (rcs_cell hxr hc2 0 _ rfl))) ?_
        refine TQ.val rfl rfl rfl (gives_field (v := .pointer (some ⟨g3, 0, none⟩)) rfl rfl (fun w => japfld45_0 _ _ w)) ?_
        refine TQ.val rfl rfl rfl (pm_load (k := 0) (i := 0) rfl rfl japag3 rfl rfl) ?_
        refine TQ.val rfl rfl rfl (gives_bin rfl rfl rfl (fun w => bin_neq_f (p1) w)) ?_
        iterate 6 (first | refine TQ.val rfl rfl rfl (gives_move rfl rfl) ?_ | refine TQ.on rfl rfl rfl ?_)
        refine TQ.val rfl rfl rfl (gives_at (v := .pointer (some ⟨b2, o2 + i * 17, none⟩)) rfl rfl rfl (fun w => at_el Tryd.underlying33 japsz27 hA2 _ _ i hi2 rfl w)) ?_
        refine TQ.on rfl rfl rfl ?_
        refine TQ.val rfl rfl rfl (gives_field (v := .pointer (some ⟨b2, o2 + i * 17 + 1, none⟩)) rfl rfl (fun w => japfld27_1 _ _ w)) ?_
        refine TQ.on rfl rfl rfl ?_
        refine TQ.val rfl rfl rfl (gives_load (v := .int .i64 r.run) rfl rfl (fun w => rfl) (fun w1 hw => (hw.bel.cell hbb2).trans (rcs_cell hxr hc2 1 _ rfl))) ?_
        refine TQ.on rfl rfl rfl ?_
        refine TQ.val rfl rfl rfl (gives_field (v := .pointer (some ⟨g3, 1, none⟩)) rfl rfl (fun w => japfld45_1 _ _ w)) ?_
        refine TQ.on rfl rfl rfl ?_
        refine TQ.val rfl rfl rfl (pm_load (k := 0) (i := 1) rfl rfl japag3 rfl rfl) ?_
        refine TQ.on rfl rfl rfl ?_
        refine TQ.val rfl rfl rfl (gives_bin rfl rfl rfl (fun w => bin_neq_t (p2) w)) ?_
        iterate 13 (first | refine TQ.off rfl rfl rfl rfl rfl rfl ?_ | refine TQ.val rfl rfl rfl (gives_pick rfl rfl rfl) ?_ | refine TQ.val rfl rfl rfl (gives_move rfl rfl) ?_)
        exact TQ.end_
       refine TX.then_ (TC.condT rfl (TC.seq_ (TC.region ?_)))
       refine TL.val rfl rfl rfl (gives_build (v := .agg #[.int .i64 0, .int .i64 0, .int .i64 0, .slice none 0 0]) rfl rfl (fun w => japbld45_530  w)) ?_
       refine TL.pstore (k := 1) (vs := [.int .i64 0, .int .i64 0, .int .i64 0, .slice none 0 0]) rfl rfl rfl rfl rfl rfl rfl japsz45 japone_i64i64i64s (by show 4 ≤ 4; decide) (L' := [.blk g3 45 [.int .i64 ch.v, .int .i64 ch.run, .int .i64 ch.n, .slice A0 n0 c0], .blk g6 45 [.int .i64 0, .int .i64 0, .int .i64 0, .slice none 0 0]]) rfl ?_
       refine TL.val rfl rfl rfl (gives_assign rfl rfl) ?_
       refine TL.val rfl rfl rfl (gives_assign rfl rfl) ?_
       refine TL.end_ (TX.then_ (TC.ret_ (TX.in_ret (TX.then_ret (TX.then_ret (TX.in_ret (TX.then_ret ?_)))))))
       exact ret_cell3 (k := 1) (v := .slice none 0 0) (v2 := .int .i64 18) Tryd.results37 rfl rfl rfl rfl Tryd.underlying45 rfl rfl (fun w1 hw => by rw [(ap_bad hE (by decide) key).1, (ap_bad hE (by decide) key).2.1, (ap_bad hE (by decide) key).2.2]; exact SegR.none_ hw)
      ·have hf : followsC ch.v ch.run ch.n i r = false := decide_eq_false (by rintro ⟨x1, x2, x3⟩; omega)
       have hE : apE ch rl = 18 := by rw [apE, if_neg hbig, hinv, badR_fol hxr hc0 hf]
       refine TC.quiet_ (E' := ?_) (by kernel_rfl) (by kernel_rfl) (fun w hw => hw.drawn _) ?_ ?_
       rotate_left
       ·refine TQ.val rfl rfl rfl (gives_move rfl rfl) ?_
        refine TQ.val rfl rfl rfl (gives_move rfl rfl) ?_
        refine TQ.val rfl rfl rfl (gives_at (v := .pointer (some ⟨b2, o2 + i * 17, none⟩)) rfl rfl rfl (fun w => at_el Tryd.underlying33 japsz27 hA2 _ _ i hi2 rfl w)) ?_
        refine TQ.val rfl rfl rfl (gives_field (v := .pointer (some ⟨b2, o2 + i * 17 + 0, none⟩)) rfl rfl (fun w => japfld27_0 _ _ w)) ?_
        refine TQ.val rfl rfl rfl (gives_load (v := .int .i64 r.v) rfl rfl (fun w => rfl) (fun w1 hw => (hw.bel.cell hbb2).trans (rcs_cell hxr hc2 0 _ rfl))) ?_
        refine TQ.val rfl rfl rfl (gives_field (v := .pointer (some ⟨g3, 0, none⟩)) rfl rfl (fun w => japfld45_0 _ _ w)) ?_
        refine TQ.val rfl rfl rfl (pm_load (k := 0) (i := 0) rfl rfl japag3 rfl rfl) ?_
        refine TQ.val rfl rfl rfl (gives_bin rfl rfl rfl (fun w => bin_neq_f (p1) w)) ?_
        iterate 6 (first | refine TQ.val rfl rfl rfl (gives_move rfl rfl) ?_ | refine TQ.on rfl rfl rfl ?_)
        refine TQ.val rfl rfl rfl (gives_at (v := .pointer (some ⟨b2, o2 + i * 17, none⟩)) rfl rfl rfl (fun w => at_el Tryd.underlying33 japsz27 hA2 _ _ i hi2 rfl w)) ?_
        refine TQ.on rfl rfl rfl ?_
        refine TQ.val rfl rfl rfl (gives_field (v := .pointer (some ⟨b2, o2 + i * 17 + 1, none⟩)) rfl rfl (fun w => japfld27_1 _ _ w)) ?_
        refine TQ.on rfl rfl rfl ?_
        refine TQ.val rfl rfl rfl (gives_load (v := .int .i64 r.run) rfl rfl (fun w => rfl) (fun w1 hw => (hw.bel.cell hbb2).trans (rcs_cell hxr hc2 1 _ rfl))) ?_
        refine TQ.on rfl rfl rfl ?_
        refine TQ.val rfl rfl rfl (gives_field (v := .pointer (some ⟨g3, 1, none⟩)) rfl rfl (fun w => japfld45_1 _ _ w)) ?_
        refine TQ.on rfl rfl rfl ?_
        refine TQ.val rfl rfl rfl (pm_load (k := 0) (i := 1) rfl rfl japag3 rfl rfl) ?_
        refine TQ.on rfl rfl rfl ?_
        refine TQ.val rfl rfl rfl (gives_bin rfl rfl rfl (fun w => bin_neq_f (p2) w)) ?_
        iterate 7 (first | refine TQ.val rfl rfl rfl (gives_move rfl rfl) ?_ | refine TQ.on rfl rfl rfl ?_ | refine TQ.val rfl rfl rfl (gives_pick rfl rfl rfl) ?_)
        refine TQ.val rfl rfl rfl (gives_at (v := .pointer (some ⟨b2, o2 + i * 17, none⟩)) rfl rfl rfl (fun w => at_el Tryd.underlying33 japsz27 hA2 _ _ i hi2 rfl w)) ?_
        refine TQ.on rfl rfl rfl ?_
        refine TQ.val rfl rfl rfl (gives_field (v := .pointer (some ⟨b2, o2 + i * 17 + 2, none⟩)) rfl rfl (fun w => japfld27_2 _ _ w)) ?_
        refine TQ.on rfl rfl rfl ?_
        refine TQ.val rfl rfl rfl (gives_load (v := .int .i64 r.num) rfl rfl (fun w => rfl) (fun w1 hw => (hw.bel.cell hbb2).trans (rcs_cell hxr hc2 2 _ rfl))) ?_
        refine TQ.on rfl rfl rfl ?_
        refine TQ.val rfl rfl rfl (gives_field (v := .pointer (some ⟨g3, 2, none⟩)) rfl rfl (fun w => japfld45_2 _ _ w)) ?_
        refine TQ.on rfl rfl rfl ?_
        refine TQ.val rfl rfl rfl (pm_load (k := 0) (i := 2) rfl rfl japag3 rfl rfl) ?_
        refine TQ.on rfl rfl rfl ?_
        refine TQ.val rfl rfl rfl (gives_move rfl rfl) ?_
        refine TQ.on rfl rfl rfl ?_
        refine TQ.val rfl rfl rfl (gives_bin rfl rfl rfl (fun w => bin_add_ (r := ch.n + (i : Nat)) (by simp only [IntKind.wrap_i64]; omega) w)) ?_
        refine TQ.on rfl rfl rfl ?_
        refine TQ.val rfl rfl rfl (gives_bin rfl rfl rfl (fun w => bin_neq_t (p3) w)) ?_
        refine TQ.val rfl rfl rfl (gives_pick rfl rfl rfl) ?_
        exact TQ.end_
       refine TX.then_ (TC.condT rfl (TC.seq_ (TC.region ?_)))
       refine TL.val rfl rfl rfl (gives_build (v := .agg #[.int .i64 0, .int .i64 0, .int .i64 0, .slice none 0 0]) rfl rfl (fun w => japbld45_530  w)) ?_
       refine TL.pstore (k := 1) (vs := [.int .i64 0, .int .i64 0, .int .i64 0, .slice none 0 0]) rfl rfl rfl rfl rfl rfl rfl japsz45 japone_i64i64i64s (by show 4 ≤ 4; decide) (L' := [.blk g3 45 [.int .i64 ch.v, .int .i64 ch.run, .int .i64 ch.n, .slice A0 n0 c0], .blk g6 45 [.int .i64 0, .int .i64 0, .int .i64 0, .slice none 0 0]]) rfl ?_
       refine TL.val rfl rfl rfl (gives_assign rfl rfl) ?_
       refine TL.val rfl rfl rfl (gives_assign rfl rfl) ?_
       refine TL.end_ (TX.then_ (TC.ret_ (TX.in_ret (TX.then_ret (TX.then_ret (TX.in_ret (TX.then_ret ?_)))))))
       exact ret_cell3 (k := 1) (v := .slice none 0 0) (v2 := .int .i64 18) Tryd.results37 rfl rfl rfl rfl Tryd.underlying45 rfl rfl (fun w1 hw => by rw [(ap_bad hE (by decide) key).1, (ap_bad hE (by decide) key).2.1, (ap_bad hE (by decide) key).2.2]; exact SegR.none_ hw)
      ·have hf : followsC ch.v ch.run ch.n i r = true := decide_eq_true (⟨p1, p2, p3⟩)
       refine TC.quiet_ (E' := ?_) (by kernel_rfl) (by kernel_rfl) (fun w hw => hw.drawn _) ?_ ?_
       rotate_left
       ·refine TQ.val rfl rfl rfl (gives_move rfl rfl) ?_
        refine TQ.val rfl rfl rfl (gives_move rfl rfl) ?_
        refine TQ.val rfl rfl rfl (gives_at (v := .pointer (some ⟨b2, o2 + i * 17, none⟩)) rfl rfl rfl (fun w => at_el Tryd.underlying33 japsz27 hA2 _ _ i hi2 rfl w)) ?_
        refine TQ.val rfl rfl rfl (gives_field (v := .pointer (some ⟨b2, o2 + i * 17 + 0, none⟩)) rfl rfl (fun w => japfld27_0 _ _ w)) ?_
        refine TQ.val rfl rfl rfl (gives_load (v := .int .i64 r.v) rfl rfl (fun w => rfl) (fun w1 hw => (hw.bel.cell hbb2).trans (rcs_cell hxr hc2 0 _ rfl))) ?_
        refine TQ.val rfl rfl rfl (gives_field (v := .pointer (some ⟨g3, 0, none⟩)) rfl rfl (fun w => japfld45_0 _ _ w)) ?_
        refine TQ.val rfl rfl rfl (pm_load (k := 0) (i := 0) rfl rfl japag3 rfl rfl) ?_
        refine TQ.val rfl rfl rfl (gives_bin rfl rfl rfl (fun w => bin_neq_f (p1) w)) ?_
        iterate 6 (first | refine TQ.val rfl rfl rfl (gives_move rfl rfl) ?_ | refine TQ.on rfl rfl rfl ?_)
        refine TQ.val rfl rfl rfl (gives_at (v := .pointer (some ⟨b2, o2 + i * 17, none⟩)) rfl rfl rfl (fun w => at_el Tryd.underlying33 japsz27 hA2 _ _ i hi2 rfl w)) ?_
        refine TQ.on rfl rfl rfl ?_
        refine TQ.val rfl rfl rfl (gives_field (v := .pointer (some ⟨b2, o2 + i * 17 + 1, none⟩)) rfl rfl (fun w => japfld27_1 _ _ w)) ?_
        refine TQ.on rfl rfl rfl ?_
        refine TQ.val rfl rfl rfl (gives_load (v := .int .i64 r.run) rfl rfl (fun w => rfl) (fun w1 hw => (hw.bel.cell hbb2).trans (rcs_cell hxr hc2 1 _ rfl))) ?_
        refine TQ.on rfl rfl rfl ?_
        refine TQ.val rfl rfl rfl (gives_field (v := .pointer (some ⟨g3, 1, none⟩)) rfl rfl (fun w => japfld45_1 _ _ w)) ?_
        refine TQ.on rfl rfl rfl ?_
        refine TQ.val rfl rfl rfl (pm_load (k := 0) (i := 1) rfl rfl japag3 rfl rfl) ?_
        refine TQ.on rfl rfl rfl ?_
        refine TQ.val rfl rfl rfl (gives_bin rfl rfl rfl (fun w => bin_neq_f (p2) w)) ?_
        iterate 7 (first | refine TQ.val rfl rfl rfl (gives_move rfl rfl) ?_ | refine TQ.on rfl rfl rfl ?_ | refine TQ.val rfl rfl rfl (gives_pick rfl rfl rfl) ?_)
        refine TQ.val rfl rfl rfl (gives_at (v := .pointer (some ⟨b2, o2 + i * 17, none⟩)) rfl rfl rfl (fun w => at_el Tryd.underlying33 japsz27 hA2 _ _ i hi2 rfl w)) ?_
        refine TQ.on rfl rfl rfl ?_
        refine TQ.val rfl rfl rfl (gives_field (v := .pointer (some ⟨b2, o2 + i * 17 + 2, none⟩)) rfl rfl (fun w => japfld27_2 _ _ w)) ?_
        refine TQ.on rfl rfl rfl ?_
        refine TQ.val rfl rfl rfl (gives_load (v := .int .i64 r.num) rfl rfl (fun w => rfl) (fun w1 hw => (hw.bel.cell hbb2).trans (rcs_cell hxr hc2 2 _ rfl))) ?_
        refine TQ.on rfl rfl rfl ?_
        refine TQ.val rfl rfl rfl (gives_field (v := .pointer (some ⟨g3, 2, none⟩)) rfl rfl (fun w => japfld45_2 _ _ w)) ?_
        refine TQ.on rfl rfl rfl ?_
        refine TQ.val rfl rfl rfl (pm_load (k := 0) (i := 2) rfl rfl japag3 rfl rfl) ?_
        refine TQ.on rfl rfl rfl ?_
        refine TQ.val rfl rfl rfl (gives_move rfl rfl) ?_
        refine TQ.on rfl rfl rfl ?_
        refine TQ.val rfl rfl rfl (gives_bin rfl rfl rfl (fun w => bin_add_ (r := ch.n + (i : Nat)) (by simp only [IntKind.wrap_i64]; omega) w)) ?_
        refine TQ.on rfl rfl rfl ?_
        refine TQ.val rfl rfl rfl (gives_bin rfl rfl rfl (fun w => bin_neq_f (p3) w)) ?_
        refine TQ.val rfl rfl rfl (gives_pick rfl rfl rfl) ?_
        exact TQ.end_
       refine TX.then_ (TC.condF rfl (TC.skip_ (TX.in_normal (TX.then_ (TC.region ?_)))))
       refine TL.val rfl rfl rfl (gives_move rfl rfl) ?_
       refine TL.val rfl rfl rfl (gives_bin rfl rfl rfl (fun w => bin_add_ (r := ((i + 1 : Nat) : Int)) (by simp only [IntKind.wrap_i64]; omega) w)) ?_
       refine TL.val rfl rfl rfl (gives_assign rfl rfl) ?_
       refine TL.end_ ?_
       exact TX.round (⟨i + 1, hi2, by rw [hinv, badR_next hxr hc0 hf]⟩) (by show rl.length - (i + 1) < rl.length - i; omega) ⟨rfl, rfl, rfl, rfl, rfl, trivial⟩ (fun w1 hw => hw)
    ·have q32 := of_decide_eq_false h32
     have hi2 : i = rl.length := by omega
     subst hi2
     have hE : apE ch rl = 0 := by rw [apE, if_neg hbig, hinv, List.drop_length]; rfl
     obtain ⟨g1, g2, g3_, g4, g5, g6_, g7, g8, g9, g10⟩ := ap_id hE
     have hsl := segL_le ch.v ch.run ch.n ch.dg rl key
     refine TL.end_ (TX.then_ (TC.condF rfl (TC.exit_ (TX.then_exit (TX.then_exit (TX.in_same (TX.then_ (TC.seq_ (TC.region ?_)))))))))
     refine TL.val rfl rfl rfl (pm_loadV (k := 0) (i := 0) (n := 4) (v := .agg #[.int .i64 ch.v, .int .i64 ch.run, .int .i64 ch.n, .slice A0 n0 c0]) rfl rfl japag45 japsz45 rfl (by show 4 ≤ 4; decide) rfl) ?_
     refine TL.val rfl rfl rfl (gives_move rfl rfl) ?_
     refine TL.val rfl rfl rfl (gives_move rfl rfl) ?_
     refine TL.pcallPm (α := {p : (Option Addr × Nat) × (Option Addr × Nat) // ((segL ch.v ch.run ch.n ch.dg rl key).length ≤ p.1.2 ∧ p.1.2 ≤ maxLen) ∧ (32 ≤ p.2.2 ∧ p.2.2 ≤ maxLen)}) (fun y => .tuple #[.agg #[.int .i64 ch.v, .int .i64 ch.run, .int .i64 (ch.n + (rl.length : Nat)), .slice y.1.2.1 32 y.1.2.2], .slice y.1.1.1 ((segL ch.v ch.run ch.n ch.dg rl key).length) y.1.1.2]) (fun y => [.row (.slice y.1.1.1 ((segL ch.v ch.run ch.n ch.dg rl key).length) y.1.1.2) 5 1 ((segL ch.v ch.run ch.n ch.dg rl key).length) (bv (segL ch.v ch.run ch.n ch.dg rl key)), .row (.slice y.1.2.1 32 y.1.2.2) 5 1 32 (bv (shaF (segL ch.v ch.run ch.n ch.dg rl key)))]) rfl rfl rfl rfl rfl Tryd.func60 japnm60 japbd60 (fun w1 hw => rseg_any ch.v ch.run ch.n _ _ _ ch.dg _ _ rl _ _ _ key w1 ((hb0.below hw.bel).more hw.bel.size) ((hr2.below hw.bel).more hw.bel.size) ((hb3.below hw.bel).more hw.bel.size) (by first | omega | decide | exact (by simp [zeroL])) (by first | omega | decide | exact (by simp [zeroL])) (by first | omega | decide | exact (by simp [zeroL])) (by first | omega | decide | exact (by simp [zeroL])) (by first | omega | decide | exact (by simp [zeroL])) (by first | omega | decide | exact (by simp [zeroL])) (by first | omega | decide | exact (by simp [zeroL])) (by first | omega | decide | exact (by simp [zeroL])) (by first | omega | decide | exact (by simp [zeroL])) hOk) ?_
     rintro ⟨⟨⟨A79, c79⟩, ⟨D79, e79⟩⟩, ⟨hA791, hA792⟩, ⟨hD791, hD792⟩⟩
     dsimp only [List.cons_append, List.nil_append]
     dsimp only at hA791 hA792 hD791 hD792
     refine TL.val rfl rfl rfl (gives_move rfl rfl) ?_
     refine TL.val rfl rfl rfl (gives_extract rfl rfl rfl) ?_
     refine TL.val rfl rfl rfl (gives_extract rfl rfl rfl) ?_
     refine TL.pstore (k := 2) (vs := [.int .i64 ch.v, .int .i64 ch.run, .int .i64 (ch.n + (rl.length : Nat)), .slice D79 32 e79]) rfl rfl rfl rfl rfl rfl rfl japsz45 japone_i64i64i64s (by show 4 ≤ 4; decide) (L' := [.row (.slice A79 ((segL ch.v ch.run ch.n ch.dg rl key).length) c79) 5 1 ((segL ch.v ch.run ch.n ch.dg rl key).length) (bv (segL ch.v ch.run ch.n ch.dg rl key)), .row (.slice D79 32 e79) 5 1 32 (bv (shaF (segL ch.v ch.run ch.n ch.dg rl key))), .blk g3 45 [.int .i64 ch.v, .int .i64 ch.run, .int .i64 (ch.n + (rl.length : Nat)), .slice D79 32 e79], .blk g6 45 [.int .i64 0, .int .i64 0, .int .i64 0, .slice none 0 0]]) rfl ?_
     refine TL.val rfl rfl rfl (gives_assign rfl rfl) ?_
     refine TL.end_ (TX.then_ (TC.seq_ (TC.region ?_)))
     refine TL.val rfl rfl rfl (pm_loadV (k := 2) (i := 0) (n := 4) (v := .agg #[.int .i64 ch.v, .int .i64 ch.run, .int .i64 (ch.n + (rl.length : Nat)), .slice D79 32 e79]) rfl rfl japag45 japsz45 rfl (by show 4 ≤ 4; decide) rfl) ?_
     refine TL.val rfl rfl rfl (gives_move rfl rfl) ?_
     refine TL.pstore (k := 3) (vs := [.int .i64 ch.v, .int .i64 ch.run, .int .i64 (ch.n + (rl.length : Nat)), .slice D79 32 e79]) rfl rfl rfl rfl rfl rfl rfl japsz45 japone_i64i64i64s (by show 4 ≤ 4; decide) (L' := [.row (.slice A79 ((segL ch.v ch.run ch.n ch.dg rl key).length) c79) 5 1 ((segL ch.v ch.run ch.n ch.dg rl key).length) (bv (segL ch.v ch.run ch.n ch.dg rl key)), .row (.slice D79 32 e79) 5 1 32 (bv (shaF (segL ch.v ch.run ch.n ch.dg rl key))), .blk g3 45 [.int .i64 ch.v, .int .i64 ch.run, .int .i64 (ch.n + (rl.length : Nat)), .slice D79 32 e79], .blk g6 45 [.int .i64 ch.v, .int .i64 ch.run, .int .i64 (ch.n + (rl.length : Nat)), .slice D79 32 e79]]) rfl ?_
     refine TL.val rfl rfl rfl (gives_assign rfl rfl) ?_
     refine TL.val rfl rfl rfl (gives_assign rfl rfl) ?_
     refine TL.end_ (TX.then_ (TC.ret_ ?_))
     exact ret_cell3 (k := 3) (v := .slice A79 ((segL ch.v ch.run ch.n ch.dg rl key).length) c79) (v2 := .int .i64 0) Tryd.results37 rfl rfl rfl rfl Tryd.underlying45 rfl rfl (fun w1 hw => by rw [(ap_ok hE key).1, (ap_ok hE key).2.1, (ap_ok hE key).2.2]; exact ⟨A79, c79, D79, e79, _, _, rfl, shaF_len _, hA791, hA792, hD791, hD792, rfl, hw.pick [0, 1] (by decide) rfl⟩)
end Go.Proofs.YtmeaeeehnkcblaaDoor

namespace Go.Proofs.YtmeaeeehnkcblaaDoor
open Go.RowKit
set_option linter.unusedVariables false
set_option linter.unusedSimpArgs false
theorem enc_g1 {b : List Int} (hb : Bs b) {p : Nat} (h : p + 1 ≤ b.length) : enc (getN b p 1) 1 = (b.drop p).take 1 := by
  have e : b.drop p = b[p] :: b.drop (p + 1) := List.drop_eq_getElem_cons (by omega)
  have hx := hb b[p] (List.getElem_mem _)
  have e2 : getN b p 1 = b[p] := by rw [getN, e, List.take_succ_cons, List.take_zero]; simp only [be, List.foldl_cons, List.foldl_nil]; omega
  rw [e2, e]
  simp only [enc, List.take_succ_cons, List.take_zero, Int.pow_zero]
  congr 1
  omega
theorem enc_g2 {b : List Int} (hb : Bs b) {p : Nat} (h : p + 2 ≤ b.length) : enc (getN b p 2) 2 = (b.drop p).take 2 := by
  have e : b.drop p = b[p] :: b.drop (p + 1) := List.drop_eq_getElem_cons (by omega)
  have e1 : b.drop (p + 1) = b[p + 1] :: b.drop (p + 1 + 1) := List.drop_eq_getElem_cons (by omega)
  have hx := hb b[p] (List.getElem_mem _)
  have hy := hb b[p + 1] (List.getElem_mem _)
  have e2 : getN b p 2 = b[p] * 256 + b[p + 1] := by rw [getN, e, e1, List.take_succ_cons, List.take_succ_cons, List.take_zero]; simp only [be, List.foldl_cons, List.foldl_nil]; omega
  rw [e2, e, e1]
  simp only [enc, List.take_succ_cons, List.take_zero, Int.pow_zero, Int.pow_succ]
  congr 1
  · omega
  · congr 1
    omega
theorem head_parts {b : List Int} (hb : Bs b) (h : 9 ≤ b.length) (hr : b.take 4 = rsj) : segH (pid b) (prun b) (pfirst b) (getN b 8 1) = b.take 9 := by
  have e1 : b.take 9 = b.take 4 ++ ((b.drop 4).take 1 ++ ((b.drop 5).take 1 ++ ((b.drop 6).take 2 ++ (b.drop 8).take 1))) := by
    rw [show 9 = 4 + (1 + (1 + (2 + 1))) from rfl, List.take_add, List.take_add (i := 1), List.drop_drop, List.take_add (i := 1), List.drop_drop, List.take_add (i := 2), List.drop_drop]
  rw [e1, hr, segH, pid, prun, pfirst, enc_g1 hb (by omega), enc_g1 hb (by omega), enc_g2 hb (by omega), enc_g1 hb (by omega)]
  simp only [List.append_assoc]
theorem encs_app (a b : List Rs) : encs (a ++ b) = encs a ++ encs b := by simp [encs]
theorem encs_parts {b : List Int} (hb : Bs b) : ∀ (k : Nat), 41 + 37 * k ≤ b.length → okN b k → encs (rlN b k) = (b.drop 41).take (37 * k)
  | 0, _, _ => by simp [rlN, encs]
  | k + 1, h, hok => by
    have ih := encs_parts hb k (by omega) fun i hi => hok i (by omega)
    have hd := dec_zero (l := rsAt b k) ((hb.drop _).take _) (hok k (by omega))
    rw [rlN_succ, encs_app, ih, Nat.mul_succ, List.take_add, List.drop_drop]
    congr 1
    show [decR (rsAt b k)].flatMap encO = _
    rw [List.flatMap_singleton, hd.2.2.1]
    rfl
theorem body_parts {b : List Int} (hb : Bs b) (hw : wholeB b) (hok : okB b) : segB (pid b) (prun b) (pfirst b) (pbef b) (rlB b) = b.take (b.length - 32) := by
  obtain ⟨c1, c2, c3, c4, c5⟩ := whole_cnt hb hw
  have hl : (rlB b).length = cnt b := rlB_len b
  have e : b.length - 32 = 9 + (32 + 37 * cnt b) := by omega
  rw [segB, segW, List.take_of_length_le (Nat.le_refl _), hl, c1, head_parts hb (by omega) hw.2.1.1, e, List.take_add, List.take_add, List.append_assoc, List.drop_drop, rlB, encs_parts hb (cnt b) (by omega) hok, pbef]
theorem seg_parts {b key : List Int} (hb : Bs b) (hw : wholeB b) (hok : okB b) (hs : sigB b key) : segL (pid b) (prun b) (pfirst b) (pbef b) (rlB b) key = b := by
  have e := body_parts hb hw hok
  unfold sigB at hs
  rw [segL, e, ← hs, List.take_append_drop]
/-- what a segment holds -/
theorem seg_split (v run n : Int) (d : List Int) (rl : List Rs) (key : List Int) : segL v run n d rl key = rsj ++ (enc v 1 ++ (enc run 1 ++ (enc n 2 ++ (enc (rl.length : Nat) 1 ++ (d ++ (encs rl ++ macF key (segB v run n d rl))))))) := by
  rw [segL]
  conv => lhs; lhs; rw [segB, segW, List.take_of_length_le (Nat.le_refl _), segH]
  simp only [List.append_assoc]
theorem seg_len {v run n : Int} {d : List Int} {rl : List Rs} {key : List Int} (hd : d.length = 32) (h : ∀ r ∈ rl, chkR r = 0) : (segL v run n d rl key).length = 73 + 37 * rl.length := by
  rw [seg_split]
  simp only [List.length_append, enc_len, macF_len, encs_len h, hd]
  simp only [rsj, List.length_cons, List.length_nil]
  omega
theorem seg_len' {v run n : Int} {d : List Int} {rl : List Rs} {key : List Int} (h : ∀ r ∈ rl, chkR r = 0) : (segL v run n d rl key).length = 41 + d.length + 37 * rl.length := by
  rw [seg_split]
  simp only [List.length_append, enc_len, macF_len, encs_len h]
  simp only [rsj, List.length_cons, List.length_nil]
  omega
theorem seg_v {v run n : Int} (d : List Int) (rl : List Rs) (key : List Int) (h0 : 0 ≤ v) (h1 : v ≤ 255) : pid (segL v run n d rl key) = v := by
  rw [seg_split]; exact be_fit (p := (v, 1)) ⟨h0, by simp only [Int.pow_succ, Int.pow_zero]; omega⟩
theorem seg_run {v run n : Int} (d : List Int) (rl : List Rs) (key : List Int) (h0 : 0 ≤ run) (h1 : run ≤ 255) : prun (segL v run n d rl key) = run := by
  rw [seg_split]; exact be_fit (p := (run, 1)) ⟨h0, by simp only [Int.pow_succ, Int.pow_zero]; omega⟩
theorem seg_n {v run n : Int} (d : List Int) (rl : List Rs) (key : List Int) (h0 : 0 ≤ n) (h1 : n ≤ 65535) : pfirst (segL v run n d rl key) = n := by
  rw [seg_split]; exact be_fit (p := (n, 2)) ⟨h0, by simp only [Int.pow_succ, Int.pow_zero]; omega⟩
theorem seg_m {v run n : Int} (d : List Int) (rl : List Rs) (key : List Int) (h1 : rl.length ≤ 255) : getN (segL v run n d rl key) 8 1 = (rl.length : Nat) := by
  rw [seg_split]; exact be_fit (p := ((rl.length : Int), 1)) ⟨by omega, by simp only [Int.pow_succ, Int.pow_zero]; omega⟩
theorem seg_cnt {v run n : Int} (d : List Int) (rl : List Rs) (key : List Int) (h1 : rl.length ≤ 255) : cnt (segL v run n d rl key) = rl.length := by
  rw [cnt, seg_m d rl key h1]; rfl
theorem seg_bef {v run n : Int} {d : List Int} (rl : List Rs) (key : List Int) (hd : d.length = 32) : pbef (segL v run n d rl key) = d := by
  rw [seg_split]
  show (d ++ (encs rl ++ macF key (segB v run n d rl))).take 32 = d
  exact List.take_left' hd
/-- what begins a journal, as the document has it -/
theorem bg_iff {b key : List Int} (hb : Bs b) (hw : wholeB b) (hok : okB b) (hs : sigB b key) : (bgE (pid b) (prun b) = 0 ∧ bgS (pid b) (prun b) key = b) ↔ lnkE b := by
  obtain ⟨c1, c2, c3, c4, c5⟩ := whole_cnt hb hw
  unfold bgE bgS lnkE
  by_cases hi : idOk (pid b) (prun b)
  · rw [if_pos hi, if_pos hi]
    constructor
    · rintro ⟨_, h⟩
      have hl := seg_len (v := pid b) (run := prun b) (n := 0) (d := zeroL 32) (rl := []) (key := key) rfl (fun r hr => by cases hr)
      rw [h] at hl
      simp only [List.length_nil] at hl
      refine ⟨?_, by omega, ?_, hi⟩
      · rw [← h]; exact seg_n _ _ _ (by decide) (by decide)
      · rw [← h]; exact seg_bef _ _ rfl
    · rintro ⟨h1, h2, h3, _⟩
      have e := seg_parts hb hw hok hs
      have : rlB b = [] := List.eq_nil_of_length_eq_zero (by rw [rlB_len, h2])
      rw [h1, h3, this] at e
      exact ⟨rfl, e⟩
  · rw [if_neg hi]
    constructor
    · rintro ⟨h, _⟩; exact absurd h (by decide)
    · rintro ⟨_, _, _, h⟩; exact absurd h hi
theorem rlB_ok {b : List Int} (hb : Bs b) (hok : okB b) : ∀ r ∈ rlB b, chkR r = 0 ∧ r.Ok := by
  intro r hr
  simp only [rlB, rlN, List.mem_map, List.mem_range] at hr
  obtain ⟨i, hi, rfl⟩ := hr
  have := dec_zero (l := rsAt b i) ((hb.drop _).take _) (hok i hi)
  exact ⟨this.2.1, this.2.2.2.1⟩
/-- what continues a journal, as the document has it -/
theorem ap_iff {c : Chn} {b key : List Int} (hb : Bs b) (hw : wholeB b) (hok : okB b) (hs : sigB b key) : (apE c (rlB b) = 0 ∧ apS c (rlB b) key = b) ↔ lnkN c b := by
  obtain ⟨c1, c2, c3, c4, c5⟩ := whole_cnt hb hw
  have hr := rlB_ok hb hok
  have hl := rlB_len b
  constructor
  · rintro ⟨h1, h2⟩
    obtain ⟨g1, g2, g3, g4, g5, g6, g7, g8, g9, g10⟩ := ap_id h1
    rw [apS, if_pos h1] at h2
    have hsl := seg_len' (v := c.v) (run := c.run) (n := c.n) (d := c.dg) (rl := rlB b) (key := key) fun r h => (hr r h).1
    rw [h2] at hsl
    have hf : folAll c (rlB b) 0 = true := by
      refine (folAll_iff c (rlB b) 0 fun r h => (hr r h).1).1 ?_
      unfold apE at h1
      split at h1
      · exact absurd h1 (by decide)
      · exact h1
    refine ⟨by omega, ?_, ?_, ?_, ?_, by omega, hf⟩
    · rw [← h2]; exact seg_v _ _ _ (by omega) (by omega)
    · rw [← h2]; exact seg_run _ _ _ (by omega) (by omega)
    · rw [← h2]; exact seg_n _ _ _ (by omega) (by omega)
    · rw [← h2]; exact seg_bef _ _ (by omega)
  · rintro ⟨h1, h2, h3, h4, h5, h6, h7⟩
    have hE : apE c (rlB b) = 0 := by
      rw [apE, if_neg (by unfold apBig; omega)]
      exact (folAll_iff c (rlB b) 0 fun r h => (hr r h).1).2 h7
    refine ⟨hE, ?_⟩
    have e := seg_parts hb hw hok hs
    rw [h2, h3, h4, h5] at e
    rw [apS, if_pos hE, e]
/-- a first segment that is accepted -/
theorem acc_bg {c : Chn} {b key : List Int} (hb : Bs b) (h0 : lenE b = 0) (h1 : ¬ (b.length : Int) < lenN b) (h2 : ¬ (b.length : Int) > lenN b) (hok : okB b) (hs : sigB b key) (hK : emptyK c) (h : bgE (pid b) (prun b) = 0 ∧ bgS (pid b) (prun b) key = b) : accC c b key = bgC (pid b) (prun b) key ∧ accL c b key = [] ∧ accE c b key = 0 := by
  have hl := (bg_iff hb (whole_of h0 h1 h2) hok hs).1 h
  have hE := acR_ok (c := c) (key := key) (acc_ok h0 h1 h2 hok hs (by rw [lnk, if_pos hK]; exact hl))
  obtain ⟨x1, x2, x3, x4⟩ := hl
  obtain ⟨y1, y2, y3, y4⟩ := hK
  have hg := bg_ok x4 key
  refine ⟨?_, ?_, hE.2.2⟩
  · rw [hE.1, hg.1, ← hg.2.1, h.2, y3, x2]
    rfl
  · rw [hE.2.1]
    exact List.eq_nil_of_length_eq_zero (by rw [rlB_len, x2])
theorem acc_nbg {c : Chn} {b key : List Int} (hb : Bs b) (h0 : lenE b = 0) (h1 : ¬ (b.length : Int) < lenN b) (h2 : ¬ (b.length : Int) > lenN b) (hok : okB b) (hs : sigB b key) (hK : emptyK c) (h : ¬ (bgE (pid b) (prun b) = 0 ∧ bgS (pid b) (prun b) key = b)) : accC c b key = Chn.zero ∧ accL c b key = [] ∧ accE c b key = 18 :=
  acR_bad (acc_chain h0 h1 h2 hok hs (by rw [lnk, if_pos hK]; exact fun hl => h ((bg_iff hb (whole_of h0 h1 h2) hok hs).2 hl))) (by decide)
/-- a further segment that is accepted -/
theorem acc_ap {c : Chn} {b key : List Int} (hb : Bs b) (h0 : lenE b = 0) (h1 : ¬ (b.length : Int) < lenN b) (h2 : ¬ (b.length : Int) > lenN b) (hok : okB b) (hs : sigB b key) (hK : ¬ emptyK c) (h : apE c (rlB b) = 0 ∧ apS c (rlB b) key = b) : accC c b key = apC c (rlB b) key ∧ accL c b key = rlB b ∧ accE c b key = 0 := by
  have hl := (ap_iff hb (whole_of h0 h1 h2) hok hs).1 h
  have hE := acR_ok (c := c) (key := key) (acc_ok h0 h1 h2 hok hs (by rw [lnk, if_neg hK]; exact hl))
  have hg := ap_ok h.1 key
  refine ⟨?_, hE.2.1, hE.2.2⟩
  rw [hE.1, hg.1, ← hg.2.1, h.2, hl.2.1, hl.2.2.1, rlB_len]
theorem acc_nap {c : Chn} {b key : List Int} (hb : Bs b) (h0 : lenE b = 0) (h1 : ¬ (b.length : Int) < lenN b) (h2 : ¬ (b.length : Int) > lenN b) (hok : okB b) (hs : sigB b key) (hK : ¬ emptyK c) (h : ¬ (apE c (rlB b) = 0 ∧ apS c (rlB b) key = b)) : accC c b key = Chn.zero ∧ accL c b key = [] ∧ accE c b key = 18 :=
  acR_bad (acc_chain h0 h1 h2 hok hs (by rw [lnk, if_neg hK]; exact fun hl => h ((ap_iff hb (whole_of h0 h1 h2) hok hs).2 hl))) (by decide)
end Go.Proofs.YtmeaeeehnkcblaaDoor

namespace Go.Proofs.YtmeaeeehnkcblaaDoor
open Go.RowKit
set_option linter.unusedVariables false
set_option linter.unusedSimpArgs false
theorem encO_ok {r : Rs} (h : chkR r = 0) : encO r = encR r := by unfold encO; rw [if_pos h]
theorem encs_at {rl : List Rs} {i : Nat} {r : Rs} (hr : rl[i]? = some r) (h : ∀ x ∈ rl, chkR x = 0) (X : List Int) : ((encs rl ++ X).drop (37 * i)).take 37 = encR r := by
  have h1 : rl = rl.take i ++ r :: rl.drop (i + 1) := by rw [← drop_at hr, List.take_append_drop]
  have hi := (List.getElem?_eq_some_iff.1 hr).1
  have h2 : (encs (rl.take i)).length = 37 * i := by
    rw [encs_len fun x hx => h x (List.mem_of_mem_take hx), List.length_take]
    omega
  have hc := h r (List.mem_of_getElem? hr)
  have h3 : encs rl = encs (rl.take i) ++ (encR r ++ encs (rl.drop (i + 1))) := by
    conv => lhs; rw [h1]
    rw [encs_app]
    congr 1
    show encO r ++ encs (rl.drop (i + 1)) = _
    rw [encO_ok hc]
  rw [h3, List.append_assoc, List.append_assoc, List.drop_left' h2]
  exact List.take_left' (encR_len r)
theorem seg_head (v run n : Int) {d : List Int} (hd : d.length = 32) (rl : List Rs) (key : List Int) : ∃ P : List Int, P.length = 41 ∧ segL v run n d rl key = P ++ (encs rl ++ macF key (segB v run n d rl)) := by
  refine ⟨rsj ++ (enc v 1 ++ (enc run 1 ++ (enc n 2 ++ (enc (rl.length : Nat) 1 ++ d)))), ?_, ?_⟩
  · simp only [List.length_append, enc_len, hd]
    rfl
  · rw [seg_split]
    simp only [List.append_assoc]
theorem seg_rsAt {v run n : Int} {d : List Int} {rl : List Rs} {key : List Int} (hd : d.length = 32) (h : ∀ x ∈ rl, chkR x = 0) {i : Nat} {r : Rs} (hr : rl[i]? = some r) : rsAt (segL v run n d rl key) i = encR r := by
  obtain ⟨P, hP, e⟩ := seg_head v run n hd rl key
  rw [rsAt, e, ← List.drop_drop, List.drop_left' hP]
  exact encs_at hr h _
theorem seg_whole {v run n : Int} {d : List Int} {rl : List Rs} {key : List Int} (hd : d.length = 32) (hm : rl.length ≤ 64) (h : ∀ x ∈ rl, chkR x = 0) : wholeB (segL v run n d rl key) := by
  have hl := seg_len (v := v) (run := run) (n := n) (key := key) hd h
  have h8 := seg_m (v := v) (run := run) (n := n) d rl key (by omega)
  refine ⟨by omega, ⟨?_, by omega⟩, by omega⟩
  rw [seg_split]
  rfl
theorem seg_ok {v run n : Int} {d : List Int} {rl : List Rs} {key : List Int} (hd : d.length = 32) (hm : rl.length ≤ 64) (h : ∀ x ∈ rl, chkR x = 0) (ho : ∀ x ∈ rl, x.Ok) : okB (segL v run n d rl key) := by
  intro i hi
  rw [seg_cnt d rl key (by omega)] at hi
  have hr := List.getElem?_eq_getElem hi
  have hmem := List.mem_of_getElem? hr
  rw [seg_rsAt hd h hr]
  exact (dec_enc _ (h _ hmem) (ho _ hmem)).1
theorem seg_rlB {v run n : Int} {d : List Int} {rl : List Rs} {key : List Int} (hd : d.length = 32) (hm : rl.length ≤ 64) (h : ∀ x ∈ rl, chkR x = 0) (ho : ∀ x ∈ rl, x.Ok) : rlB (segL v run n d rl key) = rl := by
  refine List.ext_getElem? fun i => ?_
  rcases Nat.lt_or_ge i rl.length with hi | hi
  · have hr := List.getElem?_eq_getElem hi
    have hmem := List.mem_of_getElem? hr
    rw [rlB, rlN_at (by rw [seg_cnt d rl key (by omega)]; exact hi), seg_rsAt hd h hr, (dec_enc _ (h _ hmem) (ho _ hmem)).2, hr]
  · rw [List.getElem?_eq_none (by rw [rlB_len, seg_cnt d rl key (by omega)]; exact hi), List.getElem?_eq_none hi]
theorem seg_sig (v run n : Int) (d : List Int) (rl : List Rs) (key : List Int) : sigB (segL v run n d rl key) key := by
  have e : (segL v run n d rl key).length - 32 = (segB v run n d rl).length := by rw [segL_len]; omega
  rw [sigB, e, segL, List.drop_left' rfl, List.take_left' rfl]
theorem whole_len {b : List Int} (hb : Bs b) (hw : wholeB b) : lenE b = 0 ∧ ¬ (b.length : Int) < lenN b ∧ ¬ (b.length : Int) > lenN b := by
  obtain ⟨c1, c2, c3, c4, c5⟩ := whole_cnt hb hw
  exact ⟨c5, by omega, by omega⟩
theorem zero32 : (zeroL 32).length = 32 := rfl
/-- the first segment of a run is accepted -/
theorem acc_begin {v run : Int} (h : idOk v run) (key : List Int) : accC Chn.zero (bgS v run key) key = bgC v run key ∧ accL Chn.zero (bgS v run key) key = [] ∧ accE Chn.zero (bgS v run key) key = 0 := by
  have hg := bg_ok h key
  have hh : ∀ x ∈ ([] : List Rs), chkR x = 0 := fun x hx => by cases hx
  have ho : ∀ x ∈ ([] : List Rs), x.Ok := fun x hx => by cases hx
  have hb : Bs (bgS v run key) := by rw [hg.2.1]; exact segL_bs _ _ _ (zeroL_bs _) _ _
  have hw : wholeB (bgS v run key) := by rw [hg.2.1]; exact seg_whole zero32 (by decide) hh
  have hok : okB (bgS v run key) := by rw [hg.2.1]; exact seg_ok zero32 (by decide) hh ho
  have hs : sigB (bgS v run key) key := by rw [hg.2.1]; exact seg_sig _ _ _ _ _ _
  have hid : 0 ≤ v ∧ v ≤ 15 ∧ 0 ≤ run ∧ run ≤ 63 := h
  have e1 : pid (bgS v run key) = v := by rw [hg.2.1]; exact seg_v _ _ _ (by omega) (by omega)
  have e2 : prun (bgS v run key) = run := by rw [hg.2.1]; exact seg_run _ _ _ (by omega) (by omega)
  obtain ⟨x1, x2, x3⟩ := whole_len hb hw
  have := acc_bg (c := Chn.zero) hb x1 x2 x3 hok hs ⟨rfl, rfl, rfl, rfl⟩ (by rw [e1, e2]; exact ⟨hg.2.2, rfl⟩)
  rw [e1, e2] at this
  exact this
/-- a further segment is accepted -/
theorem acc_append {c : Chn} {rl : List Rs} (h : apE c rl = 0) (hd : c.dg.length = 32) (hbd : Bs c.dg) (ho : ∀ x ∈ rl, x.Ok) (key : List Int) : accC c (apS c rl key) key = apC c rl key ∧ accL c (apS c rl key) key = rl ∧ accE c (apS c rl key) key = 0 := by
  have hg := ap_ok h key
  obtain ⟨g1, g2, g3, g4, g5, g6, g7, g8, g9, hh⟩ := ap_id h
  have hb : Bs (apS c rl key) := by rw [hg.2.1]; exact segL_bs _ _ _ hbd _ _
  have hw : wholeB (apS c rl key) := by rw [hg.2.1]; exact seg_whole hd g8 hh
  have hok : okB (apS c rl key) := by rw [hg.2.1]; exact seg_ok hd g8 hh ho
  have hs : sigB (apS c rl key) key := by rw [hg.2.1]; exact seg_sig _ _ _ _ _ _
  have e1 : rlB (apS c rl key) = rl := by rw [hg.2.1]; exact seg_rlB hd g8 hh ho
  obtain ⟨x1, x2, x3⟩ := whole_len hb hw
  have := acc_ap (c := c) hb x1 x2 x3 hok hs (fun hK => by have := hK.2.2.2; omega) (by rw [e1]; exact ⟨h, rfl⟩)
  rw [e1] at this
  exact this
end Go.Proofs.YtmeaeeehnkcblaaDoor

namespace Go.Proofs.YtmeaeeehnkcblaaDoor
open Go.RowKit
set_option linter.unusedVariables false
set_option linter.unusedSimpArgs false
set_option maxRecDepth 20000
theorem chn_eq {x y : Chn} (h1 : x.v = y.v) (h2 : x.run = y.run) (h3 : x.n = y.n) (h4 : x.dg = y.dg) : x = y := by
 cases x; cases y
 simp only at h1 h2 h3 h4
 rw [h1, h2, h3, h4]
theorem rs_dec (r s : Rs) : decide (r.v = s.v ∧ r.run = s.run ∧ r.num = s.num ∧ r.at_ = s.at_ ∧ r.dst = s.dst ∧ r.proto = s.proto ∧ r.flow = s.flow ∧ r.ttl = s.ttl ∧ r.ans = s.ans ∧ r.dbl = s.dbl ∧ r.back = s.back ∧ r.src = s.src ∧ r.kind = s.kind ∧ r.code = s.code ∧ r.left = s.left ∧ r.id = s.id ∧ r.quo = s.quo) = decide (r = s) := by
 refine decide_eq_decide.2 ⟨fun h => ?_, fun h => by subst h; exact ⟨rfl, rfl, rfl, rfl, rfl, rfl, rfl, rfl, rfl, rfl, rfl, rfl, rfl, rfl, rfl, rfl, rfl⟩⟩
 cases r; cases s
 simp only at h
 obtain ⟨rfl, rfl, rfl, rfl, rfl, rfl, rfl, rfl, rfl, rfl, rfl, rfl, rfl, rfl, rfl, rfl, rfl⟩ := h
 rfl
theorem neqR (r s : Rs) {x y : Operand} (w : World) : (do eqGuard .neq 27 x y (.agg r.cells.toArray) (.agg s.cells.toArray); binOp .neq 27 (.agg r.cells.toArray) (.agg s.cells.toArray) : Sem Value).run Tryd.prog w = .ok (.bool (!decide (r = s))) w := by
 have hm : Tryd.prog.eqGuardType Tryd.prog.depth 27 = false := by kernel_rfl
 have h := eqR r.v r.run r.num r.at_ r.dst r.proto r.flow r.ttl r.back r.src r.kind r.code r.left r.id r.quo s.v s.run s.num s.at_ s.dst s.proto s.flow s.ttl s.back s.src s.kind s.code s.left s.id s.quo r.ans r.dbl s.ans s.dbl w
 rw [rs_dec] at h
 simp only [Sem.run_bind, run_eqGuard_agg w .neq 27 x y _ _ hm, Result.andThen_ok, run_neq_struct]
 exact (congrArg (fun q => Result.andThen q _) h).trans rfl
theorem neqR_t {r s : Rs} (h : ¬ r = s) {x y : Operand} (w : World) : (do eqGuard .neq 27 x y (.agg r.cells.toArray) (.agg s.cells.toArray); binOp .neq 27 (.agg r.cells.toArray) (.agg s.cells.toArray) : Sem Value).run Tryd.prog w = .ok (.bool true) w := by
 rw [neqR, decide_eq_false h]; rfl
theorem neqR_f {r s : Rs} (h : r = s) {x y : Operand} (w : World) : (do eqGuard .neq 27 x y (.agg r.cells.toArray) (.agg s.cells.toArray); binOp .neq 27 (.agg r.cells.toArray) (.agg s.cells.toArray) : Sem Value).run Tryd.prog w = .ok (.bool false) w := by
 rw [neqR, decide_eq_true h]; rfl
def keyB : List Int := [107, 101, 121]
theorem keyB_bs : Bs keyB := by intro x hx; simp only [keyB, List.mem_cons, List.not_mem_nil, or_false] at hx; omega
theorem jsamefld45_0 (g o : Nat) (w : World) : (Instr.fieldAt 45 (.pointer (some ⟨g, o, none⟩)) 0).run Tryd.prog w = .ok (.pointer (some ⟨g, o + 0, none⟩)) w := by kernel_rfl
theorem jsameag3 (w : World) : (isAgg 3).run Tryd.prog w = .ok false w := rfl
theorem jsamefld45_1 (g o : Nat) (w : World) : (Instr.fieldAt 45 (.pointer (some ⟨g, o, none⟩)) 1).run Tryd.prog w = .ok (.pointer (some ⟨g, o + 1, none⟩)) w := by kernel_rfl
theorem jsamefld45_2 (g o : Nat) (w : World) : (Instr.fieldAt 45 (.pointer (some ⟨g, o, none⟩)) 2).run Tryd.prog w = .ok (.pointer (some ⟨g, o + 2, none⟩)) w := by kernel_rfl
theorem jsamefld45_3 (g o : Nat) (w : World) : (Instr.fieldAt 45 (.pointer (some ⟨g, o, none⟩)) 3).run Tryd.prog w = .ok (.pointer (some ⟨g, o + 3, none⟩)) w := by kernel_rfl
theorem jsameag28 (w : World) : (isAgg 28).run Tryd.prog w = .ok false w := rfl
theorem jsamenm16 : (Tryd.f16.name == "runtime.NumGoroutine") = false := by decide
theorem jsamebd16 : Tryd.f16.body.isNone = false := rfl
theorem jsamesz27 (w : World) : (sizeOf 27).run Tryd.prog w = .ok 17 w := rfl
theorem jsameag27 (w : World) : (isAgg 27).run Tryd.prog w = .ok true w := rfl
theorem jsamebs28_3_44640 (a0_0 : Int) (a1_0 : Int) (a2_0 : Int) (w : World) : (Instr.buildSlice 28 3 #[(0, .int .u8 a0_0), (1, .int .u8 a1_0), (2, .int .u8 a2_0)]).run Tryd.prog w = .ok (.slice (some ⟨w.heap.size, 0, none⟩) 3 3) (w.alloc (.cells [.int .u8 a0_0, .int .u8 a1_0, .int .u8 a2_0].toArray 5)) := by kernel_rfl
theorem jsamenm33 : (Tryd.f33.name == "runtime.NumGoroutine") = false := by decide
theorem jsamebd33 : Tryd.f33.body.isNone = false := rfl
theorem jsamezv45 (w : World) : (zeroValue 45).run Tryd.prog w = .ok (.agg #[.int .i64 0, .int .i64 0, .int .i64 0, .slice none 0 0]) w := rfl
theorem jsamesz45 (w : World) : (sizeOf 45).run Tryd.prog w = .ok 4 w := rfl
theorem jsameone_i64i64i64s {a0 : Int} {a1 : Int} {a2 : Int} {a3 : Option Addr} {n3 c3 : Nat} : ∀ u ∈ [(.int .i64 a0 : Value), .int .i64 a1, .int .i64 a2, .slice a3 n3 c3], u.oneCell' = true := by
 intro u hu
 simp only [List.mem_cons, List.not_mem_nil, or_false] at hu
 rcases hu with rfl | rfl | rfl | rfl <;> rfl
theorem jsamebld45_530  (w : World) : (Instr.build 45 #[]).run Tryd.prog w = .ok (.agg #[.int .i64 0, .int .i64 0, .int .i64 0, .slice none 0 0]) w := by kernel_rfl
theorem jsamenm22 : (Tryd.f22.name == "runtime.NumGoroutine") = false := by decide
theorem jsamebd22 : Tryd.f22.body.isNone = false := rfl
theorem jsameag45 (w : World) : (isAgg 45).run Tryd.prog w = .ok true w := rfl
theorem jsamenm26 : (Tryd.f26.name == "runtime.NumGoroutine") = false := by decide
theorem jsamebd26 : Tryd.f26.body.isNone = false := rfl
theorem samechain_any (x y : Chn) (A0 : Option Addr) (n0 c0 : Nat) (A1 : Option Addr) (n1 c1 : Nat) (w : World) (hb0 : Byt w w.heap.size A0 n0 x.dg) (hb1 : Byt w w.heap.size A1 n1 y.dg) (hd0 : x.dg.length ≤ 10000) (hd1 : y.dg.length ≤ 10000) :
  Calls Tryd.prog 26 #[.agg #[.int .i64 x.v, .int .i64 x.run, .int .i64 x.n, .slice A0 n0 c0], .agg #[.int .i64 y.v, .int .i64 y.run, .int .i64 y.n, .slice A1 n1 c1]] w fun e w' => e = .returned (.bool (decide (x = y))) ∧ Below w.heap.size w w' := by
 have hl0 := hb0.len
 have hl1 := hb1.len
 refine begin_ (vs := [.agg #[.int .i64 x.v, .int .i64 x.run, .int .i64 x.n, .slice A0 n0 c0], .agg #[.int .i64 y.v, .int .i64 y.run, .int .i64 y.n, .slice A1 n1 c1]]) Tryd.func26 rfl rfl rfl ?_ (Pm.start w)
 refine TC.seq_ (TC.region ?_)
 refine TL.pnew rfl rfl rfl (exec_box (cs := [.int .i64 x.v, .int .i64 x.run, .int .i64 x.n, .slice A0 n0 c0]) rfl rfl rfl) (fun g2 => ?_)
 refine TL.pnew rfl rfl rfl (exec_box (cs := [.int .i64 y.v, .int .i64 y.run, .int .i64 y.n, .slice A1 n1 c1]) rfl rfl rfl) (fun g3 => ?_)
 refine TL.val rfl rfl rfl (gives_assign rfl rfl) ?_
 refine TL.end_ (TX.then_ (TC.seq_ (TC.region ?_)))
 refine TL.val rfl rfl rfl (gives_field (v := .pointer (some ⟨g2, 0, none⟩)) rfl rfl (fun w => jsamefld45_0 _ _ w)) ?_
 refine TL.val rfl rfl rfl (pm_load (k := 1) (i := 0) rfl rfl jsameag3 rfl rfl) ?_
 refine TL.val rfl rfl rfl (gives_field (v := .pointer (some ⟨g3, 0, none⟩)) rfl rfl (fun w => jsamefld45_0 _ _ w)) ?_
 refine TL.val rfl rfl rfl (pm_load (k := 0) (i := 0) rfl rfl jsameag3 rfl rfl) ?_
 refine TL.vsplit rfl rfl rfl (gives_bin rfl rfl rfl (fun w => bin_eql w)) (fun h9 => ?_) (fun h9 => ?_)
 ·have q9 := of_decide_eq_true h9
  refine TL.val rfl rfl rfl (gives_move rfl rfl) ?_
  refine TL.on rfl rfl rfl ?_
  refine TL.val rfl rfl rfl (gives_field (v := .pointer (some ⟨g2, 1, none⟩)) rfl rfl (fun w => jsamefld45_1 _ _ w)) ?_
  refine TL.on rfl rfl rfl ?_
  refine TL.val rfl rfl rfl (pm_load (k := 1) (i := 1) rfl rfl jsameag3 rfl rfl) ?_
  refine TL.on rfl rfl rfl ?_
  refine TL.val rfl rfl rfl (gives_field (v := .pointer (some ⟨g3, 1, none⟩)) rfl rfl (fun w => jsamefld45_1 _ _ w)) ?_
  refine TL.on rfl rfl rfl ?_
  refine TL.val rfl rfl rfl (pm_load (k := 0) (i := 1) rfl rfl jsameag3 rfl rfl) ?_
  refine TL.on rfl rfl rfl ?_
  refine TL.vsplit rfl rfl rfl (gives_bin rfl rfl rfl (fun w => bin_eql w)) (fun h15 => ?_) (fun h15 => ?_)
  ·have q15 := of_decide_eq_true h15
   refine TL.val rfl rfl rfl (gives_pick rfl rfl rfl) ?_
   refine TL.val rfl rfl rfl (gives_move rfl rfl) ?_
   refine TL.on rfl rfl rfl ?_
   refine TL.val rfl rfl rfl (gives_field (v := .pointer (some ⟨g2, 2, none⟩)) rfl rfl (fun w => jsamefld45_2 _ _ w)) ?_
   refine TL.on rfl rfl rfl ?_
   refine TL.val rfl rfl rfl (pm_load (k := 1) (i := 2) rfl rfl jsameag3 rfl rfl) ?_
   refine TL.on rfl rfl rfl ?_
   refine TL.val rfl rfl rfl (gives_field (v := .pointer (some ⟨g3, 2, none⟩)) rfl rfl (fun w => jsamefld45_2 _ _ w)) ?_
   refine TL.on rfl rfl rfl ?_
   refine TL.val rfl rfl rfl (pm_load (k := 0) (i := 2) rfl rfl jsameag3 rfl rfl) ?_
   refine TL.on rfl rfl rfl ?_
   refine TL.vsplit rfl rfl rfl (gives_bin rfl rfl rfl (fun w => bin_eql w)) (fun h22 => ?_) (fun h22 => ?_)
   ·have q22 := of_decide_eq_true h22
    refine TL.val rfl rfl rfl (gives_pick rfl rfl rfl) ?_
    refine TL.val rfl rfl rfl (gives_move rfl rfl) ?_
    refine TL.on rfl rfl rfl ?_
    refine TL.val rfl rfl rfl (gives_field (v := .pointer (some ⟨g2, 3, none⟩)) rfl rfl (fun w => jsamefld45_3 _ _ w)) ?_
    refine TL.on rfl rfl rfl ?_
    refine TL.val rfl rfl rfl (pm_load (k := 1) (i := 3) rfl rfl jsameag28 rfl rfl) ?_
    refine TL.on rfl rfl rfl ?_
    refine TL.val rfl rfl rfl (gives_field (v := .pointer (some ⟨g3, 3, none⟩)) rfl rfl (fun w => jsamefld45_3 _ _ w)) ?_
    refine TL.on rfl rfl rfl ?_
    refine TL.val rfl rfl rfl (pm_load (k := 0) (i := 3) rfl rfl jsameag28 rfl rfl) ?_
    refine TL.on rfl rfl rfl ?_
    refine TL.callsplit rfl rfl rfl rfl rfl Tryd.func16 jsamenm16 jsamebd16 (fun w1 hw => (requal_any A0 A1 n0 c0 n1 c1 x.dg y.dg w1 w1.heap.size ((hb0.below hw.bel).more hw.bel.size) ((hb1.below hw.bel).more hw.bel.size) (by omega) (by omega)).mono fun e w2 ⟨h1, q, h2⟩ => ⟨h1, h2 ▸ drewN_below q⟩) (fun h29 => ?_) (fun h29 => ?_)
    ·have q29 := of_decide_eq_true h29
     have hR : x = y := chn_eq q9 q15 q22 q29
     refine TL.val rfl rfl rfl (gives_pick rfl rfl rfl) ?_
     refine TL.val rfl rfl rfl (gives_assign rfl rfl) ?_
     refine TL.end_ (TX.then_ (TC.ret_ ?_))
     exact ret_tmp Tryd.results26 rfl (fun w1 hw => ⟨by rw [decide_eq_true hR], hw.bel⟩)
    ·have q29 := of_decide_eq_false h29
     have hR : ¬ x = y := fun h => q29 (by rw [h])
     refine TL.val rfl rfl rfl (gives_pick rfl rfl rfl) ?_
     refine TL.val rfl rfl rfl (gives_assign rfl rfl) ?_
     refine TL.end_ (TX.then_ (TC.ret_ ?_))
     exact ret_tmp Tryd.results26 rfl (fun w1 hw => ⟨by rw [decide_eq_false hR], hw.bel⟩)
   ·have q22 := of_decide_eq_false h22
    have hR : ¬ x = y := fun h => q22 (by rw [h])
    iterate 9 (first | refine TL.off rfl rfl rfl rfl rfl rfl ?_ | refine TL.val rfl rfl rfl (gives_pick rfl rfl rfl) ?_ | refine TL.val rfl rfl rfl (gives_move rfl rfl) ?_ | refine TL.val rfl rfl rfl (gives_assign rfl rfl) ?_)
    refine TL.end_ (TX.then_ (TC.ret_ ?_))
    exact ret_tmp Tryd.results26 rfl (fun w1 hw => ⟨by rw [decide_eq_false hR], hw.bel⟩)
  ·have q15 := of_decide_eq_false h15
   have hR : ¬ x = y := fun h => q15 (by rw [h])
   iterate 16 (first | refine TL.off rfl rfl rfl rfl rfl rfl ?_ | refine TL.val rfl rfl rfl (gives_pick rfl rfl rfl) ?_ | refine TL.val rfl rfl rfl (gives_move rfl rfl) ?_ | refine TL.val rfl rfl rfl (gives_assign rfl rfl) ?_)
   refine TL.end_ (TX.then_ (TC.ret_ ?_))
   exact ret_tmp Tryd.results26 rfl (fun w1 hw => ⟨by rw [decide_eq_false hR], hw.bel⟩)
 ·have q9 := of_decide_eq_false h9
  have hR : ¬ x = y := fun h => q9 (by rw [h])
  iterate 22 (first | refine TL.off rfl rfl rfl rfl rfl rfl ?_ | refine TL.val rfl rfl rfl (gives_move rfl rfl) ?_ | refine TL.val rfl rfl rfl (gives_pick rfl rfl rfl) ?_ | refine TL.val rfl rfl rfl (gives_assign rfl rfl) ?_)
  refine TL.end_ (TX.then_ (TC.ret_ ?_))
  exact ret_tmp Tryd.results26 rfl (fun w1 hw => ⟨by rw [decide_eq_false hR], hw.bel⟩)
theorem sameresults_any (A1 : Option Addr) (n1 c1 : Nat) (l1 : List Rs) (A2 : Option Addr) (n2 c2 : Nat) (l2 : List Rs) (w : World) (hr1 : Reads w w.heap.size 17 A1 n1 (rcs l1)) (hr2 : Reads w w.heap.size 17 A2 n2 (rcs l2)) (e1 : l1.length = n1) (e2 : l2.length = n2) (hm1 : n1 ≤ 1000000000) (hm2 : n2 ≤ 1000000000) :
  Calls Tryd.prog 27 #[.slice A1 n1 c1, .slice A2 n2 c2] w fun e w' => e = .returned (.bool (decide (l1 = l2))) ∧ Below w.heap.size w w' := by
 subst e1 e2
 refine begin_ (vs := [.slice A1 l1.length c1, .slice A2 l2.length c2]) Tryd.func27 rfl rfl rfl ?_ (Pm.start w)
 refine TC.seq_ (TC.region ?_)
 refine TL.val rfl rfl rfl (gives_assign rfl rfl) ?_
 refine TL.end_ (TX.then_ (TC.seq_ (TC.seq_ (TC.region ?_))))
 refine TL.val rfl rfl rfl (gives_move rfl rfl) ?_
 refine TL.val rfl rfl rfl (gives_len rfl Tryd.underlying33 rfl) ?_
 refine TL.val rfl rfl rfl (gives_move rfl rfl) ?_
 refine TL.val rfl rfl rfl (gives_len rfl Tryd.underlying33 rfl) ?_
 refine TL.vsplit rfl rfl rfl (gives_bin rfl rfl rfl (fun w => bin_neq w)) (fun h10 => ?_) (fun h10 => ?_)
 ·have q10 := of_decide_eq_true h10
  have hR : ¬ l1 = l2 := fun h => by rw [h] at q10; exact q10 rfl
  refine TL.end_ (TX.then_ (TC.condT rfl (TC.seq_ (TC.region ?_))))
  refine TL.val rfl rfl rfl (gives_assign rfl rfl) ?_
  refine TL.end_ (TX.then_ (TC.ret_ (TX.then_ret ?_)))
  exact ret_tmp Tryd.results27 rfl (fun w1 hw => ⟨by rw [decide_eq_false hR], hw.bel⟩)
 ·have q10 := of_decide_eq_false h10
  have hll : l1.length = l2.length := by omega
  refine TL.end_ (TX.then_ (TC.condF rfl (TC.skip_ (TX.then_ (TC.seq_ (TC.seq_ (TC.region ?_)))))))
  refine TL.val rfl rfl rfl (gives_assign rfl rfl) ?_
  refine TL.end_ (TX.then_ (TC.block ?_))
  refine TC.loop_ (α := {i : Nat // i ≤ l1.length ∧ l1.take i = l2.take i}) (fun y => [(0, .slice A1 l1.length c1), (1, .slice A2 l2.length c2), (5, .int .i64 (y.1 : Nat))]) (fun y => Pm w []) (fun y => l1.length - y.1) (⟨0, Nat.zero_le _, rfl⟩) ⟨rfl, rfl, rfl, trivial⟩ (fun w1 hw => hw) ?_
  rintro ⟨i, hi, hinv⟩
  dsimp only at hi hinv ⊢
  refine TC.seq_ (TC.seq_ (TC.region ?_))
  refine TL.val rfl rfl rfl (gives_move rfl rfl) ?_
  refine TL.val rfl rfl rfl (gives_move rfl rfl) ?_
  refine TL.val rfl rfl rfl (gives_len rfl Tryd.underlying33 rfl) ?_
  refine TL.vsplit rfl rfl rfl (gives_bin rfl rfl rfl (fun w => bin_lss w)) (fun h14 => ?_) (fun h14 => ?_)
  ·have q14 := of_decide_eq_true h14
   have hi2 : i < l1.length := by omega
   obtain ⟨r, hxr⟩ : ∃ r, l1[i]? = some r := ⟨_, List.getElem?_eq_getElem hi2⟩
   obtain ⟨s, hxs⟩ : ∃ s, l2[i]? = some s := ⟨_, List.getElem?_eq_getElem (by omega)⟩
   obtain ⟨b1, o1, hA1, hbb1, hc1⟩ := hr1.ad (by omega) (by decide)
   obtain ⟨b2, o2, hA2, hbb2, hc2⟩ := hr2.ad (by omega) (by decide)
   refine TL.end_ (TX.then_ (TC.condT rfl (TC.skip_ (TX.then_ (TC.seq_ (TC.block (TC.seq_ ?_)))))))
   by_cases he : r = s
   ·refine TC.quiet_ (E' := ?_) (by kernel_rfl) (by kernel_rfl) (fun w hw => hw.drawn _) ?_ ?_
    rotate_left
    ·refine TQ.val rfl rfl rfl (gives_move rfl rfl) ?_
     refine TQ.val rfl rfl rfl (gives_move rfl rfl) ?_
     refine TQ.val rfl rfl rfl (gives_at (v := .pointer (some ⟨b1, o1 + i * 17, none⟩)) rfl rfl rfl (fun w => at_el Tryd.underlying33 jsamesz27 hA1 _ _ i hi2 rfl w)) ?_
     refine TQ.val rfl rfl rfl (gives_loadR rfl rfl jsameag27 jsamesz27 (rs_cells_len r) (fun w1 hw j u hu => (hw.bel.cell hbb1).trans (rcs_cell hxr hc1 j u hu))) ?_
     refine TQ.val rfl rfl rfl (gives_move rfl rfl) ?_
     refine TQ.val rfl rfl rfl (gives_move rfl rfl) ?_
     refine TQ.val rfl rfl rfl (gives_at (v := .pointer (some ⟨b2, o2 + i * 17, none⟩)) rfl rfl rfl (fun w => at_el Tryd.underlying33 jsamesz27 hA2 _ _ i (by omega) rfl w)) ?_
     refine TQ.val rfl rfl rfl (gives_loadR rfl rfl jsameag27 jsamesz27 (rs_cells_len s) (fun w1 hw j u hu => (hw.bel.cell hbb2).trans (rcs_cell hxs hc2 j u hu))) ?_
     refine TQ.val rfl rfl rfl (gives_bin2 (v := .bool false) rfl rfl rfl (fun w => neqR_f he w)) ?_
     exact TQ.end_
    refine TX.then_ (TC.condF rfl (TC.skip_ (TX.in_normal (TX.then_ (TC.region ?_)))))
    refine TL.val rfl rfl rfl (gives_move rfl rfl) ?_
    refine TL.val rfl rfl rfl (gives_bin rfl rfl rfl (fun w => bin_add_ (r := ((i + 1 : Nat) : Int)) (by simp only [IntKind.wrap_i64]; omega) w)) ?_
    refine TL.val rfl rfl rfl (gives_assign rfl rfl) ?_
    refine TL.end_ ?_
    exact TX.round (⟨i + 1, hi2, by rw [List.take_add_one, List.take_add_one, hinv, hxr, hxs, he]⟩) (by show l1.length - (i + 1) < l1.length - i; omega) ⟨rfl, rfl, rfl, trivial⟩ (fun w1 hw => hw)
   ·have hR : ¬ l1 = l2 := fun h => by rw [h, hxs] at hxr; exact he (Option.some.inj hxr).symm
    refine TC.quiet_ (E' := ?_) (by kernel_rfl) (by kernel_rfl) (fun w hw => hw.drawn _) ?_ ?_
    rotate_left
    ·refine TQ.val rfl rfl rfl (gives_move rfl rfl) ?_
     refine TQ.val rfl rfl rfl (gives_move rfl rfl) ?_
     refine TQ.val rfl rfl rfl (gives_at (v := .pointer (some ⟨b1, o1 + i * 17, none⟩)) rfl rfl rfl (fun w => at_el Tryd.underlying33 jsamesz27 hA1 _ _ i hi2 rfl w)) ?_
     refine TQ.val rfl rfl rfl (gives_loadR rfl rfl jsameag27 jsamesz27 (rs_cells_len r) (fun w1 hw j u hu => (hw.bel.cell hbb1).trans (rcs_cell hxr hc1 j u hu))) ?_
     refine TQ.val rfl rfl rfl (gives_move rfl rfl) ?_
     refine TQ.val rfl rfl rfl (gives_move rfl rfl) ?_
     refine TQ.val rfl rfl rfl (gives_at (v := .pointer (some ⟨b2, o2 + i * 17, none⟩)) rfl rfl rfl (fun w => at_el Tryd.underlying33 jsamesz27 hA2 _ _ i (by omega) rfl w)) ?_
     refine TQ.val rfl rfl rfl (gives_loadR rfl rfl jsameag27 jsamesz27 (rs_cells_len s) (fun w1 hw j u hu => (hw.bel.cell hbb2).trans (rcs_cell hxs hc2 j u hu))) ?_
     refine TQ.val rfl rfl rfl (gives_bin2 (v := .bool true) rfl rfl rfl (fun w => neqR_t he w)) ?_
     exact TQ.end_
    refine TX.then_ (TC.condT rfl (TC.seq_ (TC.region ?_)))
    refine TL.val rfl rfl rfl (gives_assign rfl rfl) ?_
    refine TL.end_ (TX.then_ (TC.ret_ (TX.in_ret (TX.then_ret (TX.then_ret (TX.in_ret (TX.then_ret ?_)))))))
    exact ret_tmp Tryd.results27 rfl (fun w1 hw => ⟨by rw [decide_eq_false hR], hw.bel⟩)
  ·have q14 := of_decide_eq_false h14
   have hi2 : i = l1.length := by omega
   subst hi2
   have hR : l1 = l2 := by rw [List.take_of_length_le (Nat.le_refl _), hll, List.take_of_length_le (Nat.le_refl _)] at hinv; exact hinv
   refine TL.end_ (TX.then_ (TC.condF rfl (TC.exit_ (TX.then_exit (TX.then_exit (TX.in_same (TX.then_ (TC.seq_ (TC.region ?_)))))))))
   refine TL.val rfl rfl rfl (gives_assign rfl rfl) ?_
   refine TL.end_ (TX.then_ (TC.ret_ ?_))
   exact ret_tmp Tryd.results27 rfl (fun w1 hw => ⟨by rw [decide_eq_true hR], hw.bel⟩)
set_option maxHeartbeats 1000000 in
theorem awake_any (w : World) {ts tk : TypeId} (hst : Blk w 0 ts start8.cells) (hky : Blk w 1 tk (arrOf keysL)) :
  Calls Tryd.prog 9 #[] w fun e w' => e = .returned (.bool true) ∧ Below w.heap.size w w' := by
 have hid : idOk 1 2 := by decide
 have hg := bg_ok hid keyB
 have hE := acc_begin hid keyB
 have hbs : Bs (bgS 1 2 keyB) := by rw [hg.2.1]; exact segL_bs _ _ _ (zeroL_bs _) _ _
 have hln : (bgS 1 2 keyB).length = 73 := by rw [hg.2.1]; exact seg_len (rl := []) zero32 (fun r hr => by cases hr)
 have hdg : Bs (bgC 1 2 keyB).dg := by rw [hg.1]; exact shaF_bs _
 have hdl : (bgC 1 2 keyB).dg.length = 32 := by rw [hg.1]; exact shaF_len _
 refine begin_ (vs := []) Tryd.func9 rfl rfl rfl ?_ (Pm.start w)
 refine TC.seq_ (TC.region ?_)
 refine TL.val rfl rfl rfl (gives_assign rfl rfl) ?_
 refine TL.end_ (TX.then_ (TC.seq_ (TC.region ?_)))
 refine TL.prowS (e := 5) (size := 1) (cs := bv keyB) rfl rfl rfl rfl rfl (fun w => jsamebs28_3_44640 _ _ _ w) (by decide) rfl (fun g8 => ?_)
 refine TL.mark (k := 0) rfl rfl rfl rfl rfl Tryd.underlying28 Tryd.underlying5 rfl ?_
 refine TL.pcallPm (α := SegY (bgC 1 2 keyB) (bgS 1 2 keyB)) (fun y => .tuple #[.agg #[.int .i64 ((bgC 1 2 keyB).v), .int .i64 ((bgC 1 2 keyB).run), .int .i64 ((bgC 1 2 keyB).n), .slice y.1.2.1 ((bgC 1 2 keyB).dg.length) y.1.2.2], .slice y.1.1.1 ((bgS 1 2 keyB).length) y.1.1.2, .int .i64 0]) (fun y => [.row (.slice y.1.1.1 ((bgS 1 2 keyB).length) y.1.1.2) 5 1 ((bgS 1 2 keyB).length) (bv (bgS 1 2 keyB)), .row (.slice y.1.2.1 ((bgC 1 2 keyB).dg.length) y.1.2.2) 5 1 ((bgC 1 2 keyB).dg.length) (bv (bgC 1 2 keyB).dg)]) rfl rfl rfl rfl rfl Tryd.func33 jsamenm33 jsamebd33 (fun w1 hw => (begin_any 1 2 _ _ _ keyB w1 (byt_oth (hw.at_ (k := 0) rfl).1 keyB_bs rfl) (by decide) (hst.below hw.bel hst.lt) (hky.below hw.bel hky.lt)).mono fun e w2 h => by rw [hg.2.2] at h; exact h.use) ?_
 rintro ⟨⟨⟨AB, cB⟩, ⟨DB, eB⟩⟩, ⟨hAB1, hAB2⟩, ⟨hDB1, hDB2⟩⟩
 dsimp only [List.cons_append, List.nil_append]
 dsimp only at hAB1 hAB2 hDB1 hDB2
 iterate 4 (first | refine TL.val rfl rfl rfl (gives_extract rfl rfl rfl) ?_ | refine TL.val rfl rfl rfl (gives_move rfl rfl) ?_)
 refine TL.pnew rfl rfl rfl (exec_alloc (cs := [.int .i64 0, .int .i64 0, .int .i64 0, .slice none 0 0]) rfl jsamezv45 rfl) (fun g1 => ?_)
 refine TL.pstore (k := 0) (vs := [.int .i64 ((bgC 1 2 keyB).v), .int .i64 ((bgC 1 2 keyB).run), .int .i64 ((bgC 1 2 keyB).n), .slice DB ((bgC 1 2 keyB).dg.length) eB]) rfl rfl rfl rfl rfl rfl rfl jsamesz45 jsameone_i64i64i64s (by show 4 ≤ 4; decide) (L' := [.blk g1 45 [.int .i64 ((bgC 1 2 keyB).v), .int .i64 ((bgC 1 2 keyB).run), .int .i64 ((bgC 1 2 keyB).n), .slice DB ((bgC 1 2 keyB).dg.length) eB], .row (.slice AB ((bgS 1 2 keyB).length) cB) 5 1 ((bgS 1 2 keyB).length) (bv (bgS 1 2 keyB)), .row (.slice DB ((bgC 1 2 keyB).dg.length) eB) 5 1 ((bgC 1 2 keyB).dg.length) (bv (bgC 1 2 keyB).dg), .oth g8 (.cells (bv keyB).toArray 5 (3, 3 + 1))]) rfl ?_
 refine TL.val rfl rfl rfl (gives_assign rfl rfl) ?_
 refine TL.val rfl rfl rfl (gives_assign rfl rfl) ?_
 refine TL.end_ (TX.then_ (TC.seq_ (TC.region ?_)))
 refine TL.val rfl rfl rfl (gives_build (v := .agg #[.int .i64 0, .int .i64 0, .int .i64 0, .slice none 0 0]) rfl rfl (fun w => jsamebld45_530  w)) ?_
 refine TL.val rfl rfl rfl (gives_move rfl rfl) ?_
 refine TL.prowS (e := 5) (size := 1) (cs := bv keyB) rfl rfl rfl rfl rfl (fun w => jsamebs28_3_44640 _ _ _ w) (by decide) rfl (fun g17 => ?_)
 refine TL.mark (k := 0) rfl rfl rfl rfl rfl Tryd.underlying28 Tryd.underlying5 rfl ?_
 refine TL.pcallPm (α := AccY (bgC 1 2 keyB) ([] : List Rs)) (fun y => .tuple #[.agg #[.int .i64 ((bgC 1 2 keyB).v), .int .i64 ((bgC 1 2 keyB).run), .int .i64 ((bgC 1 2 keyB).n), .slice y.1.2.1 ((bgC 1 2 keyB).dg.length) y.1.2.2], .slice y.1.1.1 (([] : List Rs).length) y.1.1.2, .int .i64 0]) (fun y => [.row (.slice y.1.1.1 (([] : List Rs).length) y.1.1.2) 27 17 (([] : List Rs).length) (rcs ([] : List Rs)), .row (.slice y.1.2.1 ((bgC 1 2 keyB).dg.length) y.1.2.2) 5 1 ((bgC 1 2 keyB).dg.length) (bv (bgC 1 2 keyB).dg)]) rfl rfl rfl rfl rfl Tryd.func22 jsamenm22 jsamebd22 (fun w1 hw => (accept_any none 0 0 Chn.zero AB _ cB (bgS 1 2 keyB) _ _ _ keyB w1 (byt_nil w1) (byt_own (hw.at_ (k := 2) rfl) hbs) (byt_oth (hw.at_ (k := 0) rfl).1 keyB_bs rfl) hAB1 (by omega) (by decide) (by decide) (by decide) (hst.below hw.bel hst.lt) (hky.below hw.bel hky.lt)).mono fun e w2 h => by rw [hE.1, hE.2.1, hE.2.2] at h; exact h.use) ?_
 rintro ⟨⟨⟨AR, cR⟩, ⟨DR, eR⟩⟩, ⟨hAR1, hAR2⟩, ⟨hDR1, hDR2⟩⟩
 dsimp only [List.cons_append, List.nil_append]
 dsimp only at hAR1 hAR2 hDR1 hDR2
 iterate 4 (first | refine TL.val rfl rfl rfl (gives_extract rfl rfl rfl) ?_ | refine TL.val rfl rfl rfl (gives_move rfl rfl) ?_)
 refine TL.pnew rfl rfl rfl (exec_alloc (cs := [.int .i64 0, .int .i64 0, .int .i64 0, .slice none 0 0]) rfl jsamezv45 rfl) (fun g4 => ?_)
 refine TL.pstore (k := 0) (vs := [.int .i64 ((bgC 1 2 keyB).v), .int .i64 ((bgC 1 2 keyB).run), .int .i64 ((bgC 1 2 keyB).n), .slice DR ((bgC 1 2 keyB).dg.length) eR]) rfl rfl rfl rfl rfl rfl rfl jsamesz45 jsameone_i64i64i64s (by show 4 ≤ 4; decide) (L' := [.blk g4 45 [.int .i64 ((bgC 1 2 keyB).v), .int .i64 ((bgC 1 2 keyB).run), .int .i64 ((bgC 1 2 keyB).n), .slice DR ((bgC 1 2 keyB).dg.length) eR], .row (.slice AR (([] : List Rs).length) cR) 27 17 (([] : List Rs).length) (rcs ([] : List Rs)), .row (.slice DR ((bgC 1 2 keyB).dg.length) eR) 5 1 ((bgC 1 2 keyB).dg.length) (bv (bgC 1 2 keyB).dg), .oth g17 (.cells (bv keyB).toArray 5 (3, 3 + 1)), .blk g1 45 [.int .i64 ((bgC 1 2 keyB).v), .int .i64 ((bgC 1 2 keyB).run), .int .i64 ((bgC 1 2 keyB).n), .slice DB ((bgC 1 2 keyB).dg.length) eB], .row (.slice AB ((bgS 1 2 keyB).length) cB) 5 1 ((bgS 1 2 keyB).length) (bv (bgS 1 2 keyB)), .row (.slice DB ((bgC 1 2 keyB).dg.length) eB) 5 1 ((bgC 1 2 keyB).dg.length) (bv (bgC 1 2 keyB).dg), .oth g8 (.cells (bv keyB).toArray 5 (3, 3 + 1))]) rfl ?_
 refine TL.val rfl rfl rfl (gives_assign rfl rfl) ?_
 refine TL.val rfl rfl rfl (gives_assign rfl rfl) ?_
 refine TL.end_ (TX.then_ (TC.seq_ (TC.region ?_)))
 refine TL.val rfl rfl rfl (gives_move rfl rfl) ?_
 refine TL.val rfl rfl rfl (gives_bin rfl rfl rfl (fun w => bin_eql_t (by decide) w)) ?_
 iterate 4 (first | refine TL.on rfl rfl rfl ?_ | refine TL.val rfl rfl rfl (gives_move rfl rfl) ?_)
 refine TL.val rfl rfl rfl (gives_len rfl Tryd.underlying28 rfl) ?_
 refine TL.on rfl rfl rfl ?_
 refine TL.val rfl rfl rfl (gives_bin rfl rfl rfl (fun w => bin_eql_t (by omega) w)) ?_
 iterate 5 (first | refine TL.on rfl rfl rfl ?_ | refine TL.val rfl rfl rfl (gives_move rfl rfl) ?_ | refine TL.val rfl rfl rfl (gives_pick rfl rfl rfl) ?_)
 refine TL.val rfl rfl rfl (gives_bin rfl rfl rfl (fun w => bin_eql_t (by decide) w)) ?_
 iterate 5 (first | refine TL.on rfl rfl rfl ?_ | refine TL.val rfl rfl rfl (gives_move rfl rfl) ?_ | refine TL.val rfl rfl rfl (gives_pick rfl rfl rfl) ?_)
 refine TL.val rfl rfl rfl (gives_len rfl Tryd.underlying33 rfl) ?_
 refine TL.on rfl rfl rfl ?_
 refine TL.val rfl rfl rfl (gives_bin rfl rfl rfl (fun w => bin_eql_t (by rfl) w)) ?_
 refine TL.val rfl rfl rfl (gives_pick rfl rfl rfl) ?_
 refine TL.val rfl rfl rfl (gives_move rfl rfl) ?_
 refine TL.on rfl rfl rfl ?_
 refine TL.val rfl rfl rfl (pm_loadV (k := 4) (i := 0) (n := 4) (v := .agg #[.int .i64 ((bgC 1 2 keyB).v), .int .i64 ((bgC 1 2 keyB).run), .int .i64 ((bgC 1 2 keyB).n), .slice DB ((bgC 1 2 keyB).dg.length) eB]) rfl rfl jsameag45 jsamesz45 rfl (by show 4 ≤ 4; decide) rfl) ?_
 refine TL.on rfl rfl rfl ?_
 refine TL.val rfl rfl rfl (pm_loadV (k := 0) (i := 0) (n := 4) (v := .agg #[.int .i64 ((bgC 1 2 keyB).v), .int .i64 ((bgC 1 2 keyB).run), .int .i64 ((bgC 1 2 keyB).n), .slice DR ((bgC 1 2 keyB).dg.length) eR]) rfl rfl jsameag45 jsamesz45 rfl (by show 4 ≤ 4; decide) rfl) ?_
 refine TL.on rfl rfl rfl ?_
 refine TL.pcall1 (r := .bool true) rfl rfl rfl rfl rfl Tryd.func26 jsamenm26 jsamebd26 (fun w1 hw => retb_lit (decide_eq_true rfl) (samechain_any (bgC 1 2 keyB) (bgC 1 2 keyB) DB _ eB DR _ eR w1 (byt_own (hw.at_ (k := 6) rfl) hdg) (byt_own (hw.at_ (k := 2) rfl) hdg) (by omega) (by omega))) ?_
 refine TL.val rfl rfl rfl (gives_pick rfl rfl rfl) ?_
 refine TL.val rfl rfl rfl (gives_move rfl rfl) ?_
 refine TL.on rfl rfl rfl ?_
 refine TL.val rfl rfl rfl (gives_field (v := .pointer (some ⟨g1, 1, none⟩)) rfl rfl (fun w => jsamefld45_1 _ _ w)) ?_
 refine TL.on rfl rfl rfl ?_
 refine TL.val rfl rfl rfl (pm_load (k := 4) (i := 1) rfl rfl jsameag3 rfl rfl) ?_
 refine TL.on rfl rfl rfl ?_
 refine TL.val rfl rfl rfl (gives_bin rfl rfl rfl (fun w => bin_eql_t (by rw [hg.1]) w)) ?_
 refine TL.val rfl rfl rfl (gives_pick rfl rfl rfl) ?_
 refine TL.val rfl rfl rfl (gives_assign rfl rfl) ?_
 refine TL.end_ (TX.then_ (TC.ret_ ?_))
 exact ret_tmp Tryd.results9 rfl (fun w1 hw => ⟨rfl, hw.bel⟩)
end Go.Proofs.YtmeaeeehnkcblaaDoor
