/-
  Texts of the proof, joined: JrDec, DgLaw, DgWordsLaw, DgRoundLaw, DgSumLaw, DgMacLaw, SymEl, Concat, JrSegLaw, JrApLaw, JrAcLaw, JrPart, JrBack, Draw, DgTurn, DgWords, DgComp2, ChunkMake, Chunk, DgSum, Spo.
-/
import Derived.Test.YtmeaeeehnkcblaaDoorPr2
import Derived.Test.YtmeaeeehnkcblaaDoorPr1
import Derived.Test.YtmeaeeehnkcblaaDoorRows
import Derived.Test.YtmeaeeehnkcblaaDoorProg
import Derived.Laws.ShiftsVarLaws
import Derived.Deep.WholeRow
import Derived.StillTailTactics
import Derived.Deep.DeepCutAuto
import Derived.Deep.DeepFit
import Derived.KernelRfl
import Derived.RangeFuncNested
import Derived.RangeFuncBound
import Derived.RangeFuncCalls
import Derived.RangeFuncLeaves
import Derived.Shelf.Abstract
import Derived.Shelf.RegionOpen
import Derived.WalkKit
import Derived.OwnWalkIn
import Derived.TacticsInMore
import Derived.LoopNIn
import Derived.LoopIn
import Derived.Sort.QuietIn
set_option linter.unusedVariables false
set_option linter.unusedSimpArgs false
namespace Go.Proofs.YtmeaeeehnkcblaaDoor
open Go.RowKit
set_option maxRecDepth 20000
def eAt (l : List Int) (p : Nat) : Int := if l.length < p then 3 else 0
theorem e0_ {l : List Int} : (0 : Int) = eAt l 0 := (if_neg (Nat.not_lt_zero _)).symm
theorem eAt_next (l : List Int) (p k : Nat) : (if eAt l p = 0 then getJE l p k else eAt l p) = eAt l (p + k) := by
 unfold eAt getJE
 by_cases h : l.length < p
 ·rw [if_pos h, if_neg (by decide), if_pos (by omega)]
 ·rw [if_neg h, if_pos rfl]
theorem cnext' (g : Nat) (A : Option Addr) (n c : Nat) (l : List Int) (p k : Nat) (e0 : Int) (w : World) (hg : Blk w g 82 #[.slice A n c, .int .i64 (p : Int), .int .i64 e0]) (hb : Byt w w.heap.size A n l) (hne : 0 < n → ∀ ad, A = some ad → ad.block ≠ g) (hnc : n ≤ c) (hlim : n ≤ 140737488355328) (hk1 : 1 ≤ k) (hk7 : k ≤ 7) (hp9 : p ≤ 1000000000) (he : e0 = eAt l p) :
  Calls Tryd.prog 49 #[.pointer (some ⟨g, 0, none⟩), .int .i64 (k : Int)] w fun e w' => ∃ y : Unit, e = .returned (.int .i64 (getJ l p k)) ∧ Chg g 82 [.slice A n c, .int .i64 ((p + k : Nat) : Int), .int .i64 (eAt l (p + k))] w [] w' := by
 have h := cnext g A n c l p k e0 w hg hb hne hnc hlim hk1 hk7 hp9
 rw [he, eAt_next] at h
 exact h
theorem getJ_ok {l : List Int} (p k : Nat) (h : p + k ≤ l.length) : getJ l p k = getN l p k := if_neg (by omega)
theorem fit4 {l : List Int} (hl : Bs l) (p : Nat) : getJ l p 4 % 4294967296 = getJ l p 4 := by
 unfold getJ
 split
 ·rfl
 ·have hb : Bs ((l.drop p).take 4) := (hl.drop p).take 4
  have h1 := be_bd _ hb
  have hn : ((l.drop p).take 4).length = 4 := by simp; omega
  rw [hn] at h1
  unfold getN
  simp only [Int.pow_succ, Int.pow_zero] at h1
  omega
theorem flagI : ∀ x : Fin 256, decide (bits .and .i64 (x.val : Int) 1 = 1) = decide ((x.val : Int) % 2 = 1) ∧ decide (bits .and .i64 (x.val : Int) 2 = 2) = decide ((x.val : Int) / 2 % 2 = 1) := by decide +kernel
theorem flagU : ∀ x : Fin 256, decide (bits .and .u8 (x.val : Int) 1 = 1) = decide ((x.val : Int) % 2 = 1) ∧ decide (bits .and .u8 (x.val : Int) 2 = 2) = decide ((x.val : Int) / 2 % 2 = 1) := by decide +kernel
theorem fin_of {x : Int} (h0 : 0 ≤ x) (h1 : x ≤ 255) : ∃ y : Fin 256, x = (y.val : Int) := ⟨⟨x.toNat, by omega⟩, by simp; omega⟩
theorem byte_at {l : List Int} (hl : Bs l) (p : Nat) (h : p < l.length) : l[p]? = some (getN l p 1) ∧ 0 ≤ getN l p 1 ∧ getN l p 1 ≤ 255 := by
 have e : l[p]? = some l[p] := List.getElem?_eq_getElem h
 rw [get1 e]
 exact ⟨e, hl _ (List.getElem_mem h)⟩
theorem encO_bs (r : Rs) : Bs (encO r) := by unfold encO; split; exact encP_bs _; exact Bs.nil
theorem encO_len (r : Rs) : (encO r).length = if chkR r = 0 then 37 else 0 := by unfold encO; split; exact encR_len r; rfl
theorem drewN_below {w : World} (q : Nat) : Below w.heap.size w (w.drewN q) := ⟨rfl, rfl, rfl, Nat.le_refl _, fun _ _ => rfl⟩
theorem dec_short {l : List Int} (h : l.length < 37) : decR l = Rs.zero ∧ decE l = 3 := by
 have e : decE l = 3 := if_pos h
 exact ⟨by rw [decR, if_neg (by rw [e]; decide)], e⟩
theorem dec_form {l : List Int} (h : ¬ l.length < 37) (hx : ¬ (chkR (rdR l) = 0 ∧ encO (rdR l) = l)) : decR l = Rs.zero ∧ decE l = 2 := by
 have e : decE l = 2 := by
  rw [decE, if_neg h, if_pos]
  by_cases hz : chkR (rdR l) = 0
  ·right; intro he; exact hx ⟨hz, by rw [encO, if_pos hz, he]⟩
  ·exact .inl hz
 exact ⟨by rw [decR, if_neg (by rw [e]; decide)], e⟩
theorem dec_ok {l : List Int} (h : ¬ l.length < 37) (hz : chkR (rdR l) = 0) (hx : encO (rdR l) = l) : decR l = rdR l ∧ decE l = 0 := by
 have e : decE l = 0 := by
  rw [encO, if_pos hz] at hx
  rw [decE, if_neg h, if_neg (by rintro (h | h); exact h hz; exact h hx)]
 exact ⟨by rw [decR, if_pos e], e⟩
theorem cells_j {l : List Int} (hl : Bs l) (h : 37 ≤ l.length) : [.int .i64 (getJ l 0 1), .int .i64 (getJ l 1 1), .int .i64 (getJ l 2 2), .int .i64 (getJ l 4 7), .int .u32 (getJ l 11 4), .int .i64 (getJ l 15 1), .int .i64 (getJ l 16 2), .int .i64 (getJ l 18 1), .bool (decide (bits .and .i64 (getJ l 19 1) 1 = 1)), .bool (decide (bits .and .i64 (getJ l 19 1) 2 = 2)), .int .i64 (getJ l 20 7), .int .u32 (getJ l 27 4), .int .i64 (getJ l 31 1), .int .i64 (getJ l 32 1), .int .i64 (getJ l 33 1), .int .i64 (getJ l 34 2), .int .i64 (getJ l 36 1)] = (rdR l).cells := by
 obtain ⟨_, b0, b1⟩ := byte_at hl 19 (by omega)
 obtain ⟨y, hy⟩ := fin_of b0 b1
 simp only [getJ_ok _ _ (show 0 + 1 ≤ l.length by omega), getJ_ok _ _ (show 1 + 1 ≤ l.length by omega), getJ_ok _ _ (show 2 + 2 ≤ l.length by omega), getJ_ok _ _ (show 4 + 7 ≤ l.length by omega), getJ_ok _ _ (show 11 + 4 ≤ l.length by omega), getJ_ok _ _ (show 15 + 1 ≤ l.length by omega), getJ_ok _ _ (show 16 + 2 ≤ l.length by omega), getJ_ok _ _ (show 18 + 1 ≤ l.length by omega), getJ_ok _ _ (show 19 + 1 ≤ l.length by omega), getJ_ok _ _ (show 20 + 7 ≤ l.length by omega), getJ_ok _ _ (show 27 + 4 ≤ l.length by omega), getJ_ok _ _ (show 31 + 1 ≤ l.length by omega), getJ_ok _ _ (show 32 + 1 ≤ l.length by omega), getJ_ok _ _ (show 33 + 1 ≤ l.length by omega), getJ_ok _ _ (show 34 + 2 ≤ l.length by omega), getJ_ok _ _ (show 36 + 1 ≤ l.length by omega), hy, flagI]
 rw [← hy]
 rfl
theorem cells_r {l : List Int} {x : Int} (hl : Bs l) (h : 37 ≤ l.length) (hx : l[19]? = some x) : [.int .i64 (getJ l 0 1), .int .i64 (getJ l 1 1), .int .i64 (getJ l 2 2), .int .i64 (getJ l 4 7), .int .u32 (getJ l 11 4), .int .i64 (getJ l 15 1), .int .i64 (getJ l 16 2), .int .i64 (getJ l 18 1), .bool (decide (bits .and .u8 x 1 = 1)), .bool (decide (bits .and .u8 x 2 = 2)), .int .i64 (getJ l 20 7), .int .u32 (getJ l 27 4), .int .i64 (getJ l 31 1), .int .i64 (getJ l 32 1), .int .i64 (getJ l 33 1), .int .i64 (getJ l 34 2), .int .i64 (getJ l 36 1)] = (rdR l).cells := by
 obtain ⟨e, b0, b1⟩ := byte_at hl 19 (by omega)
 rw [e] at hx
 obtain rfl := Option.some.inj hx
 obtain ⟨y, hy⟩ := fin_of b0 b1
 rw [← cells_j hl h, getJ_ok 19 1 (by omega), hy]
 simp only [flagI, flagU]
theorem jdeczv27 (w : World) : (zeroValue 27).run Tryd.prog w = .ok (.agg #[.int .i64 0, .int .i64 0, .int .i64 0, .int .i64 0, .int .u32 0, .int .i64 0, .int .i64 0, .int .i64 0, .bool false, .bool false, .int .i64 0, .int .u32 0, .int .i64 0, .int .i64 0, .int .i64 0, .int .i64 0, .int .i64 0]) w := rfl
theorem jdecbld82_67801 (a0_0 : Option Addr) (a0_0n a0_0c : Nat) (w : World) : (Instr.build 82 #[(0, .slice a0_0 a0_0n a0_0c)]).run Tryd.prog w = .ok (.agg #[.slice a0_0 a0_0n a0_0c, .int .i64 0, .int .i64 0]) w := by kernel_rfl
theorem jdecnm49 : (Tryd.f49.name == "runtime.NumGoroutine") = false := by decide
theorem jdecbd49 : Tryd.f49.body.isNone = false := rfl
theorem jdecbld27_74771 (a0_0 : Int) (a1_0 : Int) (a2_0 : Int) (a3_0 : Int) (a4_0 : Int) (a5_0 : Int) (a6_0 : Int) (a7_0 : Int) (w : World) : (Instr.build 27 #[(0, .int .i64 a0_0), (1, .int .i64 a1_0), (2, .int .i64 a2_0), (3, .int .i64 a3_0), (4, .int .u32 a4_0), (5, .int .i64 a5_0), (6, .int .i64 a6_0), (7, .int .i64 a7_0)]).run Tryd.prog w = .ok (.agg #[.int .i64 a0_0, .int .i64 a1_0, .int .i64 a2_0, .int .i64 a3_0, .int .u32 a4_0, .int .i64 a5_0, .int .i64 a6_0, .int .i64 a7_0, .bool false, .bool false, .int .i64 0, .int .u32 0, .int .i64 0, .int .i64 0, .int .i64 0, .int .i64 0, .int .i64 0]) w := by kernel_rfl
theorem jdecsz27 (w : World) : (sizeOf 27).run Tryd.prog w = .ok 17 w := rfl
theorem jdecone_i64i64i64i64u32i64i64i64bbi64u32i64i64i64i64i64 {a0 : Int} {a1 : Int} {a2 : Int} {a3 : Int} {a4 : Int} {a5 : Int} {a6 : Int} {a7 : Int} {a8 : Bool} {a9 : Bool} {a10 : Int} {a11 : Int} {a12 : Int} {a13 : Int} {a14 : Int} {a15 : Int} {a16 : Int} : ∀ u ∈ [(.int .i64 a0 : Value), .int .i64 a1, .int .i64 a2, .int .i64 a3, .int .u32 a4, .int .i64 a5, .int .i64 a6, .int .i64 a7, .bool a8, .bool a9, .int .i64 a10, .int .u32 a11, .int .i64 a12, .int .i64 a13, .int .i64 a14, .int .i64 a15, .int .i64 a16], u.oneCell' = true := by
 intro u hu
 simp only [List.mem_cons, List.not_mem_nil, or_false] at hu
 rcases hu with rfl | rfl | rfl | rfl | rfl | rfl | rfl | rfl | rfl | rfl | rfl | rfl | rfl | rfl | rfl | rfl | rfl <;> rfl
theorem jdecfld27_8 (g o : Nat) (w : World) : (Instr.fieldAt 27 (.pointer (some ⟨g, o, none⟩)) 8).run Tryd.prog w = .ok (.pointer (some ⟨g, o + 8, none⟩)) w := by kernel_rfl
theorem jdecsz4 (w : World) : (sizeOf 4).run Tryd.prog w = .ok 1 w := rfl
theorem jdecone_b {a0 : Bool} : ∀ u ∈ [(.bool a0 : Value)], u.oneCell' = true := by
 intro u hu
 rw [List.mem_singleton] at hu
 subst hu; rfl
theorem jdecfld27_9 (g o : Nat) (w : World) : (Instr.fieldAt 27 (.pointer (some ⟨g, o, none⟩)) 9).run Tryd.prog w = .ok (.pointer (some ⟨g, o + 9, none⟩)) w := by kernel_rfl
theorem jdecfld27_10 (g o : Nat) (w : World) : (Instr.fieldAt 27 (.pointer (some ⟨g, o, none⟩)) 10).run Tryd.prog w = .ok (.pointer (some ⟨g, o + 10, none⟩)) w := by kernel_rfl
theorem jdecsz3 (w : World) : (sizeOf 3).run Tryd.prog w = .ok 1 w := rfl
theorem jdecone_i64 {a0 : Int} : ∀ u ∈ [(.int .i64 a0 : Value)], u.oneCell' = true := by
 intro u hu
 rw [List.mem_singleton] at hu
 subst hu; rfl
theorem jdecbld25_14255 (a0_0 : Int) (a1_0 : Int) (a2_0 : Int) (a3_0 : Int) (a4_0 : Int) (a5_0 : Int) (w : World) : (Instr.build 25 #[(0, .int .u32 a0_0), (1, .int .i64 a1_0), (2, .int .i64 a2_0), (3, .int .i64 a3_0), (4, .int .i64 a4_0), (5, .int .i64 a5_0)]).run Tryd.prog w = .ok (.agg #[.int .u32 a0_0, .int .i64 a1_0, .int .i64 a2_0, .int .i64 a3_0, .int .i64 a4_0, .int .i64 a5_0]) w := by kernel_rfl
theorem jdecfld27_11 (g o : Nat) (w : World) : (Instr.fieldAt 27 (.pointer (some ⟨g, o, none⟩)) 11).run Tryd.prog w = .ok (.pointer (some ⟨g, o + 11, none⟩)) w := by kernel_rfl
theorem jdecsz25 (w : World) : (sizeOf 25).run Tryd.prog w = .ok 6 w := rfl
theorem jdecone_u32i64i64i64i64i64 {a0 : Int} {a1 : Int} {a2 : Int} {a3 : Int} {a4 : Int} {a5 : Int} : ∀ u ∈ [(.int .u32 a0 : Value), .int .i64 a1, .int .i64 a2, .int .i64 a3, .int .i64 a4, .int .i64 a5], u.oneCell' = true := by
 intro u hu
 simp only [List.mem_cons, List.not_mem_nil, or_false] at hu
 rcases hu with rfl | rfl | rfl | rfl | rfl | rfl <;> rfl
theorem jdecfld82_2 (g o : Nat) (w : World) : (Instr.fieldAt 82 (.pointer (some ⟨g, o, none⟩)) 2).run Tryd.prog w = .ok (.pointer (some ⟨g, o + 2, none⟩)) w := by kernel_rfl
theorem jdecag34 (w : World) : (isAgg 34).run Tryd.prog w = .ok false w := rfl
theorem jdecbld27_532  (w : World) : (Instr.build 27 #[]).run Tryd.prog w = .ok (.agg #[.int .i64 0, .int .i64 0, .int .i64 0, .int .i64 0, .int .u32 0, .int .i64 0, .int .i64 0, .int .i64 0, .bool false, .bool false, .int .i64 0, .int .u32 0, .int .i64 0, .int .i64 0, .int .i64 0, .int .i64 0, .int .i64 0]) w := by kernel_rfl
theorem jdecag27 (w : World) : (isAgg 27).run Tryd.prog w = .ok true w := rfl
theorem jdecnm12 : (Tryd.f12.name == "runtime.NumGoroutine") = false := by decide
theorem jdecbd12 : Tryd.f12.body.isNone = false := rfl
theorem jdecnm28 : (Tryd.f28.name == "runtime.NumGoroutine") = false := by decide
theorem jdecbd28 : Tryd.f28.body.isNone = false := rfl
theorem jdecnm50 : (Tryd.f50.name == "runtime.NumGoroutine") = false := by decide
theorem jdecbd50 : Tryd.f50.body.isNone = false := rfl
theorem jdecbld27_33074 (a0_0 : Int) (a1_0 : Int) (a2_0 : Int) (a3_0 : Int) (a4_0 : Int) (a5_0 : Int) (a6_0 : Int) (a7_0 : Int) (a8_0 : Bool) (a9_0 : Bool) (a10_0 : Int) (w : World) : (Instr.build 27 #[(0, .int .i64 a0_0), (1, .int .i64 a1_0), (2, .int .i64 a2_0), (3, .int .i64 a3_0), (4, .int .u32 a4_0), (5, .int .i64 a5_0), (6, .int .i64 a6_0), (7, .int .i64 a7_0), (8, .bool a8_0), (9, .bool a9_0), (10, .int .i64 a10_0)]).run Tryd.prog w = .ok (.agg #[.int .i64 a0_0, .int .i64 a1_0, .int .i64 a2_0, .int .i64 a3_0, .int .u32 a4_0, .int .i64 a5_0, .int .i64 a6_0, .int .i64 a7_0, .bool a8_0, .bool a9_0, .int .i64 a10_0, .int .u32 0, .int .i64 0, .int .i64 0, .int .i64 0, .int .i64 0, .int .i64 0]) w := by kernel_rfl
theorem jdecnm13 : (Tryd.f13.name == "runtime.NumGoroutine") = false := by decide
theorem jdecbd13 : Tryd.f13.body.isNone = false := rfl
theorem jdecnm16 : (Tryd.f16.name == "runtime.NumGoroutine") = false := by decide
theorem jdecbd16 : Tryd.f16.body.isNone = false := rfl
set_option maxHeartbeats 2000000 in
theorem decode_any (A : Option Addr) (n c : Nat) (l : List Int) (w : World) (hb : Byt w w.heap.size A n l) (hnc : n ≤ c) (hlim : n ≤ 140737488355328) :
  Calls Tryd.prog 18 #[.slice A n c] w fun e w' => e = .returned (.tuple #[.agg (decR l).cells.toArray, .int .i64 (decE l)]) ∧ Below w.heap.size w w' := by
 have hln := hb.len
 refine begin_ (vs := [.slice A n c]) Tryd.func18 rfl rfl rfl ?_ (Pm.start w)
 refine TC.seq_ (TC.region ?_)
 refine TL.pnew rfl rfl rfl (exec_alloc (cs := [.int .i64 0, .int .i64 0, .int .i64 0, .int .i64 0, .int .u32 0, .int .i64 0, .int .i64 0, .int .i64 0, .bool false, .bool false, .int .i64 0, .int .u32 0, .int .i64 0, .int .i64 0, .int .i64 0, .int .i64 0, .int .i64 0]) rfl jdeczv27 rfl) (fun g2 => ?_)
 refine TL.as_ ?_
 refine TL.end_ (TX.then_ (TC.seq_ (TC.region ?_)))
 refine TL.mv ?_
 refine TL.val rfl rfl rfl (gives_build (v := .agg #[.slice A n c, .int .i64 0, .int .i64 0]) rfl rfl (fun w => jdecbld82_67801 _ _ _ w)) ?_
 refine TL.pnew rfl rfl rfl (exec_box (cs := [.slice A n c, .int .i64 0, .int .i64 0]) rfl rfl rfl) (fun g11 => ?_)
 refine TL.as_ ?_
 refine TL.end_ (TX.then_ (TC.seq_ (TC.region ?_)))
 refine TL.mv ?_
 refine TL.pcallChg (k := 0) (α := Unit) (fun _ => .int .i64 (getJ l 0 1)) (fun _ => [.slice A n c, .int .i64 1, .int .i64 (eAt l 1)]) (fun _ => []) rfl rfl rfl rfl rfl Tryd.func49 jdecnm49 jdecbd49 rfl (fun w1 hw => cnext' g11 A n c l 0 1 _ w1 (hw.at_ (k := 0) rfl).1 ((hb.below hw.bel).more hw.bel.size) (byt_ne ((hb.below hw.bel)) (hw.at_ (k := 0) rfl).2) hnc hlim (by decide) (by decide) (by decide) e0_) ?_
 rintro _
 dsimp only [List.cons_append, List.nil_append, List.set]
 refine TL.mv ?_
 refine TL.pcallChg (k := 0) (α := Unit) (fun _ => .int .i64 (getJ l 1 1)) (fun _ => [.slice A n c, .int .i64 2, .int .i64 (eAt l 2)]) (fun _ => []) rfl rfl rfl rfl rfl Tryd.func49 jdecnm49 jdecbd49 rfl (fun w1 hw => cnext' g11 A n c l 1 1 _ w1 (hw.at_ (k := 0) rfl).1 ((hb.below hw.bel).more hw.bel.size) (byt_ne ((hb.below hw.bel)) (hw.at_ (k := 0) rfl).2) hnc hlim (by decide) (by decide) (by decide) rfl) ?_
 rintro _
 dsimp only [List.cons_append, List.nil_append, List.set]
 refine TL.mv ?_
 refine TL.pcallChg (k := 0) (α := Unit) (fun _ => .int .i64 (getJ l 2 2)) (fun _ => [.slice A n c, .int .i64 4, .int .i64 (eAt l 4)]) (fun _ => []) rfl rfl rfl rfl rfl Tryd.func49 jdecnm49 jdecbd49 rfl (fun w1 hw => cnext' g11 A n c l 2 2 _ w1 (hw.at_ (k := 0) rfl).1 ((hb.below hw.bel).more hw.bel.size) (byt_ne ((hb.below hw.bel)) (hw.at_ (k := 0) rfl).2) hnc hlim (by decide) (by decide) (by decide) rfl) ?_
 rintro _
 dsimp only [List.cons_append, List.nil_append, List.set]
 refine TL.mv ?_
 refine TL.pcallChg (k := 0) (α := Unit) (fun _ => .int .i64 (getJ l 4 7)) (fun _ => [.slice A n c, .int .i64 11, .int .i64 (eAt l 11)]) (fun _ => []) rfl rfl rfl rfl rfl Tryd.func49 jdecnm49 jdecbd49 rfl (fun w1 hw => cnext' g11 A n c l 4 7 _ w1 (hw.at_ (k := 0) rfl).1 ((hb.below hw.bel).more hw.bel.size) (byt_ne ((hb.below hw.bel)) (hw.at_ (k := 0) rfl).2) hnc hlim (by decide) (by decide) (by decide) rfl) ?_
 rintro _
 dsimp only [List.cons_append, List.nil_append, List.set]
 refine TL.mv ?_
 refine TL.pcallChg (k := 0) (α := Unit) (fun _ => .int .i64 (getJ l 11 4)) (fun _ => [.slice A n c, .int .i64 15, .int .i64 (eAt l 15)]) (fun _ => []) rfl rfl rfl rfl rfl Tryd.func49 jdecnm49 jdecbd49 rfl (fun w1 hw => cnext' g11 A n c l 11 4 _ w1 (hw.at_ (k := 0) rfl).1 ((hb.below hw.bel).more hw.bel.size) (byt_ne ((hb.below hw.bel)) (hw.at_ (k := 0) rfl).2) hnc hlim (by decide) (by decide) (by decide) rfl) ?_
 rintro _
 dsimp only [List.cons_append, List.nil_append, List.set]
 refine TL.val rfl rfl rfl (gives_conv rfl rfl (fun w => conv_fit (k := .i64) Tryd.underlying23 Tryd.underlying3 (by simp only [IntKind.wrap_u32]; exact fit4 hb.2 11) w)) ?_
 refine TL.mv ?_
 refine TL.pcallChg (k := 0) (α := Unit) (fun _ => .int .i64 (getJ l 15 1)) (fun _ => [.slice A n c, .int .i64 16, .int .i64 (eAt l 16)]) (fun _ => []) rfl rfl rfl rfl rfl Tryd.func49 jdecnm49 jdecbd49 rfl (fun w1 hw => cnext' g11 A n c l 15 1 _ w1 (hw.at_ (k := 0) rfl).1 ((hb.below hw.bel).more hw.bel.size) (byt_ne ((hb.below hw.bel)) (hw.at_ (k := 0) rfl).2) hnc hlim (by decide) (by decide) (by decide) rfl) ?_
 rintro _
 dsimp only [List.cons_append, List.nil_append, List.set]
 refine TL.mv ?_
 refine TL.pcallChg (k := 0) (α := Unit) (fun _ => .int .i64 (getJ l 16 2)) (fun _ => [.slice A n c, .int .i64 18, .int .i64 (eAt l 18)]) (fun _ => []) rfl rfl rfl rfl rfl Tryd.func49 jdecnm49 jdecbd49 rfl (fun w1 hw => cnext' g11 A n c l 16 2 _ w1 (hw.at_ (k := 0) rfl).1 ((hb.below hw.bel).more hw.bel.size) (byt_ne ((hb.below hw.bel)) (hw.at_ (k := 0) rfl).2) hnc hlim (by decide) (by decide) (by decide) rfl) ?_
 rintro _
 dsimp only [List.cons_append, List.nil_append, List.set]
 refine TL.mv ?_
 refine TL.pcallChg (k := 0) (α := Unit) (fun _ => .int .i64 (getJ l 18 1)) (fun _ => [.slice A n c, .int .i64 19, .int .i64 (eAt l 19)]) (fun _ => []) rfl rfl rfl rfl rfl Tryd.func49 jdecnm49 jdecbd49 rfl (fun w1 hw => cnext' g11 A n c l 18 1 _ w1 (hw.at_ (k := 0) rfl).1 ((hb.below hw.bel).more hw.bel.size) (byt_ne ((hb.below hw.bel)) (hw.at_ (k := 0) rfl).2) hnc hlim (by decide) (by decide) (by decide) rfl) ?_
 rintro _
 dsimp only [List.cons_append, List.nil_append, List.set]
 refine TL.val rfl rfl rfl (gives_build (v := .agg #[.int .i64 (getJ l 0 1), .int .i64 (getJ l 1 1), .int .i64 (getJ l 2 2), .int .i64 (getJ l 4 7), .int .u32 (getJ l 11 4), .int .i64 (getJ l 15 1), .int .i64 (getJ l 16 2), .int .i64 (getJ l 18 1), .bool false, .bool false, .int .i64 0, .int .u32 0, .int .i64 0, .int .i64 0, .int .i64 0, .int .i64 0, .int .i64 0]) rfl rfl (fun w => jdecbld27_74771 _ _ _ _ _ _ _ _ w)) ?_
 refine TL.pnew rfl rfl rfl (exec_alloc (cs := [.int .i64 0, .int .i64 0, .int .i64 0, .int .i64 0, .int .u32 0, .int .i64 0, .int .i64 0, .int .i64 0, .bool false, .bool false, .int .i64 0, .int .u32 0, .int .i64 0, .int .i64 0, .int .i64 0, .int .i64 0, .int .i64 0]) rfl jdeczv27 rfl) (fun g5 => ?_)
 refine TL.pstore (k := 0) (vs := [.int .i64 (getJ l 0 1), .int .i64 (getJ l 1 1), .int .i64 (getJ l 2 2), .int .i64 (getJ l 4 7), .int .u32 (getJ l 11 4), .int .i64 (getJ l 15 1), .int .i64 (getJ l 16 2), .int .i64 (getJ l 18 1), .bool false, .bool false, .int .i64 0, .int .u32 0, .int .i64 0, .int .i64 0, .int .i64 0, .int .i64 0, .int .i64 0]) rfl rfl rfl rfl rfl rfl rfl jdecsz27 jdecone_i64i64i64i64u32i64i64i64bbi64u32i64i64i64i64i64 (by show 17 ≤ 17; decide) (L' := [.blk g5 27 [.int .i64 (getJ l 0 1), .int .i64 (getJ l 1 1), .int .i64 (getJ l 2 2), .int .i64 (getJ l 4 7), .int .u32 (getJ l 11 4), .int .i64 (getJ l 15 1), .int .i64 (getJ l 16 2), .int .i64 (getJ l 18 1), .bool false, .bool false, .int .i64 0, .int .u32 0, .int .i64 0, .int .i64 0, .int .i64 0, .int .i64 0, .int .i64 0], .blk g11 82 [.slice A n c, .int .i64 19, .int .i64 (eAt l 19)], .blk g2 27 [.int .i64 0, .int .i64 0, .int .i64 0, .int .i64 0, .int .u32 0, .int .i64 0, .int .i64 0, .int .i64 0, .bool false, .bool false, .int .i64 0, .int .u32 0, .int .i64 0, .int .i64 0, .int .i64 0, .int .i64 0, .int .i64 0]]) rfl ?_
 refine TL.end_ (TX.then_ (TC.seq_ (TC.region ?_)))
 refine TL.mv ?_
 refine TL.pcallChg (k := 1) (α := Unit) (fun _ => .int .i64 (getJ l 19 1)) (fun _ => [.slice A n c, .int .i64 20, .int .i64 (eAt l 20)]) (fun _ => []) rfl rfl rfl rfl rfl Tryd.func49 jdecnm49 jdecbd49 rfl (fun w1 hw => cnext' g11 A n c l 19 1 _ w1 (hw.at_ (k := 1) rfl).1 ((hb.below hw.bel).more hw.bel.size) (byt_ne ((hb.below hw.bel)) (hw.at_ (k := 1) rfl).2) hnc hlim (by decide) (by decide) (by decide) rfl) ?_
 rintro _
 dsimp only [List.cons_append, List.nil_append, List.set]
 refine TL.as_ ?_
 refine TL.end_ (TX.then_ (TC.seq_ (TC.region ?_)))
 refine TL.mv ?_
 refine TL.val rfl rfl rfl (gives_bin rfl rfl rfl (fun w => bin_bits (.inl rfl) w)) ?_
 refine TL.val rfl rfl rfl (gives_bin rfl rfl rfl (fun w => bin_eql w)) ?_
 refine TL.mv ?_
 refine TL.val rfl rfl rfl (gives_bin rfl rfl rfl (fun w => bin_bits (.inl rfl) w)) ?_
 refine TL.val rfl rfl rfl (gives_bin rfl rfl rfl (fun w => bin_eql w)) ?_
 refine TL.val rfl rfl rfl (gives_field (v := .pointer (some ⟨g5, 8, none⟩)) rfl rfl (fun w => jdecfld27_8 _ _ w)) ?_
 refine TL.pstore (k := 0) (vs := [.bool (decide (bits .and .i64 (getJ l 19 1) 1 = 1))]) rfl rfl rfl rfl rfl rfl rfl jdecsz4 jdecone_b (by show 9 ≤ 17; decide) (L' := [.blk g5 27 [.int .i64 (getJ l 0 1), .int .i64 (getJ l 1 1), .int .i64 (getJ l 2 2), .int .i64 (getJ l 4 7), .int .u32 (getJ l 11 4), .int .i64 (getJ l 15 1), .int .i64 (getJ l 16 2), .int .i64 (getJ l 18 1), .bool (decide (bits .and .i64 (getJ l 19 1) 1 = 1)), .bool false, .int .i64 0, .int .u32 0, .int .i64 0, .int .i64 0, .int .i64 0, .int .i64 0, .int .i64 0], .blk g11 82 [.slice A n c, .int .i64 20, .int .i64 (eAt l 20)], .blk g2 27 [.int .i64 0, .int .i64 0, .int .i64 0, .int .i64 0, .int .u32 0, .int .i64 0, .int .i64 0, .int .i64 0, .bool false, .bool false, .int .i64 0, .int .u32 0, .int .i64 0, .int .i64 0, .int .i64 0, .int .i64 0, .int .i64 0]]) rfl ?_
 refine TL.val rfl rfl rfl (gives_field (v := .pointer (some ⟨g5, 9, none⟩)) rfl rfl (fun w => jdecfld27_9 _ _ w)) ?_
 refine TL.pstore (k := 0) (vs := [.bool (decide (bits .and .i64 (getJ l 19 1) 2 = 2))]) rfl rfl rfl rfl rfl rfl rfl jdecsz4 jdecone_b (by show 10 ≤ 17; decide) (L' := [.blk g5 27 [.int .i64 (getJ l 0 1), .int .i64 (getJ l 1 1), .int .i64 (getJ l 2 2), .int .i64 (getJ l 4 7), .int .u32 (getJ l 11 4), .int .i64 (getJ l 15 1), .int .i64 (getJ l 16 2), .int .i64 (getJ l 18 1), .bool (decide (bits .and .i64 (getJ l 19 1) 1 = 1)), .bool (decide (bits .and .i64 (getJ l 19 1) 2 = 2)), .int .i64 0, .int .u32 0, .int .i64 0, .int .i64 0, .int .i64 0, .int .i64 0, .int .i64 0], .blk g11 82 [.slice A n c, .int .i64 20, .int .i64 (eAt l 20)], .blk g2 27 [.int .i64 0, .int .i64 0, .int .i64 0, .int .i64 0, .int .u32 0, .int .i64 0, .int .i64 0, .int .i64 0, .bool false, .bool false, .int .i64 0, .int .u32 0, .int .i64 0, .int .i64 0, .int .i64 0, .int .i64 0, .int .i64 0]]) rfl ?_
 refine TL.end_ (TX.then_ (TC.seq_ (TC.region ?_)))
 refine TL.mv ?_
 refine TL.pcallChg (k := 1) (α := Unit) (fun _ => .int .i64 (getJ l 20 7)) (fun _ => [.slice A n c, .int .i64 27, .int .i64 (eAt l 27)]) (fun _ => []) rfl rfl rfl rfl rfl Tryd.func49 jdecnm49 jdecbd49 rfl (fun w1 hw => cnext' g11 A n c l 20 7 _ w1 (hw.at_ (k := 1) rfl).1 ((hb.below hw.bel).more hw.bel.size) (byt_ne ((hb.below hw.bel)) (hw.at_ (k := 1) rfl).2) hnc hlim (by decide) (by decide) (by decide) rfl) ?_
 rintro _
 dsimp only [List.cons_append, List.nil_append, List.set]
 refine TL.val rfl rfl rfl (gives_field (v := .pointer (some ⟨g5, 10, none⟩)) rfl rfl (fun w => jdecfld27_10 _ _ w)) ?_
 refine TL.pstore (k := 0) (vs := [.int .i64 (getJ l 20 7)]) rfl rfl rfl rfl rfl rfl rfl jdecsz3 jdecone_i64 (by show 11 ≤ 17; decide) (L' := [.blk g5 27 [.int .i64 (getJ l 0 1), .int .i64 (getJ l 1 1), .int .i64 (getJ l 2 2), .int .i64 (getJ l 4 7), .int .u32 (getJ l 11 4), .int .i64 (getJ l 15 1), .int .i64 (getJ l 16 2), .int .i64 (getJ l 18 1), .bool (decide (bits .and .i64 (getJ l 19 1) 1 = 1)), .bool (decide (bits .and .i64 (getJ l 19 1) 2 = 2)), .int .i64 (getJ l 20 7), .int .u32 0, .int .i64 0, .int .i64 0, .int .i64 0, .int .i64 0, .int .i64 0], .blk g11 82 [.slice A n c, .int .i64 27, .int .i64 (eAt l 27)], .blk g2 27 [.int .i64 0, .int .i64 0, .int .i64 0, .int .i64 0, .int .u32 0, .int .i64 0, .int .i64 0, .int .i64 0, .bool false, .bool false, .int .i64 0, .int .u32 0, .int .i64 0, .int .i64 0, .int .i64 0, .int .i64 0, .int .i64 0]]) rfl ?_
 refine TL.end_ (TX.then_ (TC.seq_ (TC.region ?_)))
 refine TL.mv ?_
 refine TL.pcallChg (k := 1) (α := Unit) (fun _ => .int .i64 (getJ l 27 4)) (fun _ => [.slice A n c, .int .i64 31, .int .i64 (eAt l 31)]) (fun _ => []) rfl rfl rfl rfl rfl Tryd.func49 jdecnm49 jdecbd49 rfl (fun w1 hw => cnext' g11 A n c l 27 4 _ w1 (hw.at_ (k := 1) rfl).1 ((hb.below hw.bel).more hw.bel.size) (byt_ne ((hb.below hw.bel)) (hw.at_ (k := 1) rfl).2) hnc hlim (by decide) (by decide) (by decide) rfl) ?_
 rintro _
 dsimp only [List.cons_append, List.nil_append, List.set]
 refine TL.val rfl rfl rfl (gives_conv rfl rfl (fun w => conv_fit (k := .i64) Tryd.underlying23 Tryd.underlying3 (by simp only [IntKind.wrap_u32]; exact fit4 hb.2 27) w)) ?_
 refine TL.mv ?_
 refine TL.pcallChg (k := 1) (α := Unit) (fun _ => .int .i64 (getJ l 31 1)) (fun _ => [.slice A n c, .int .i64 32, .int .i64 (eAt l 32)]) (fun _ => []) rfl rfl rfl rfl rfl Tryd.func49 jdecnm49 jdecbd49 rfl (fun w1 hw => cnext' g11 A n c l 31 1 _ w1 (hw.at_ (k := 1) rfl).1 ((hb.below hw.bel).more hw.bel.size) (byt_ne ((hb.below hw.bel)) (hw.at_ (k := 1) rfl).2) hnc hlim (by decide) (by decide) (by decide) rfl) ?_
 rintro _
 dsimp only [List.cons_append, List.nil_append, List.set]
 refine TL.mv ?_
 refine TL.pcallChg (k := 1) (α := Unit) (fun _ => .int .i64 (getJ l 32 1)) (fun _ => [.slice A n c, .int .i64 33, .int .i64 (eAt l 33)]) (fun _ => []) rfl rfl rfl rfl rfl Tryd.func49 jdecnm49 jdecbd49 rfl (fun w1 hw => cnext' g11 A n c l 32 1 _ w1 (hw.at_ (k := 1) rfl).1 ((hb.below hw.bel).more hw.bel.size) (byt_ne ((hb.below hw.bel)) (hw.at_ (k := 1) rfl).2) hnc hlim (by decide) (by decide) (by decide) rfl) ?_
 rintro _
 dsimp only [List.cons_append, List.nil_append, List.set]
 refine TL.mv ?_
 refine TL.pcallChg (k := 1) (α := Unit) (fun _ => .int .i64 (getJ l 33 1)) (fun _ => [.slice A n c, .int .i64 34, .int .i64 (eAt l 34)]) (fun _ => []) rfl rfl rfl rfl rfl Tryd.func49 jdecnm49 jdecbd49 rfl (fun w1 hw => cnext' g11 A n c l 33 1 _ w1 (hw.at_ (k := 1) rfl).1 ((hb.below hw.bel).more hw.bel.size) (byt_ne ((hb.below hw.bel)) (hw.at_ (k := 1) rfl).2) hnc hlim (by decide) (by decide) (by decide) rfl) ?_
 rintro _
 dsimp only [List.cons_append, List.nil_append, List.set]
 refine TL.mv ?_
 refine TL.pcallChg (k := 1) (α := Unit) (fun _ => .int .i64 (getJ l 34 2)) (fun _ => [.slice A n c, .int .i64 36, .int .i64 (eAt l 36)]) (fun _ => []) rfl rfl rfl rfl rfl Tryd.func49 jdecnm49 jdecbd49 rfl (fun w1 hw => cnext' g11 A n c l 34 2 _ w1 (hw.at_ (k := 1) rfl).1 ((hb.below hw.bel).more hw.bel.size) (byt_ne ((hb.below hw.bel)) (hw.at_ (k := 1) rfl).2) hnc hlim (by decide) (by decide) (by decide) rfl) ?_
 rintro _
 dsimp only [List.cons_append, List.nil_append, List.set]
 refine TL.mv ?_
 refine TL.pcallChg (k := 1) (α := Unit) (fun _ => .int .i64 (getJ l 36 1)) (fun _ => [.slice A n c, .int .i64 37, .int .i64 (eAt l 37)]) (fun _ => []) rfl rfl rfl rfl rfl Tryd.func49 jdecnm49 jdecbd49 rfl (fun w1 hw => cnext' g11 A n c l 36 1 _ w1 (hw.at_ (k := 1) rfl).1 ((hb.below hw.bel).more hw.bel.size) (byt_ne ((hb.below hw.bel)) (hw.at_ (k := 1) rfl).2) hnc hlim (by decide) (by decide) (by decide) rfl) ?_
 rintro _
 dsimp only [List.cons_append, List.nil_append, List.set]
 refine TL.val rfl rfl rfl (gives_build (v := .agg #[.int .u32 (getJ l 27 4), .int .i64 (getJ l 31 1), .int .i64 (getJ l 32 1), .int .i64 (getJ l 33 1), .int .i64 (getJ l 34 2), .int .i64 (getJ l 36 1)]) rfl rfl (fun w => jdecbld25_14255 _ _ _ _ _ _ w)) ?_
 refine TL.val rfl rfl rfl (gives_field (v := .pointer (some ⟨g5, 11, none⟩)) rfl rfl (fun w => jdecfld27_11 _ _ w)) ?_
 refine TL.pstore (k := 0) (vs := [.int .u32 (getJ l 27 4), .int .i64 (getJ l 31 1), .int .i64 (getJ l 32 1), .int .i64 (getJ l 33 1), .int .i64 (getJ l 34 2), .int .i64 (getJ l 36 1)]) rfl rfl rfl rfl rfl rfl rfl jdecsz25 jdecone_u32i64i64i64i64i64 (by show 17 ≤ 17; decide) (L' := [.blk g5 27 [.int .i64 (getJ l 0 1), .int .i64 (getJ l 1 1), .int .i64 (getJ l 2 2), .int .i64 (getJ l 4 7), .int .u32 (getJ l 11 4), .int .i64 (getJ l 15 1), .int .i64 (getJ l 16 2), .int .i64 (getJ l 18 1), .bool (decide (bits .and .i64 (getJ l 19 1) 1 = 1)), .bool (decide (bits .and .i64 (getJ l 19 1) 2 = 2)), .int .i64 (getJ l 20 7), .int .u32 (getJ l 27 4), .int .i64 (getJ l 31 1), .int .i64 (getJ l 32 1), .int .i64 (getJ l 33 1), .int .i64 (getJ l 34 2), .int .i64 (getJ l 36 1)], .blk g11 82 [.slice A n c, .int .i64 37, .int .i64 (eAt l 37)], .blk g2 27 [.int .i64 0, .int .i64 0, .int .i64 0, .int .i64 0, .int .u32 0, .int .i64 0, .int .i64 0, .int .i64 0, .bool false, .bool false, .int .i64 0, .int .u32 0, .int .i64 0, .int .i64 0, .int .i64 0, .int .i64 0, .int .i64 0]]) rfl ?_
 refine TL.end_ (TX.then_ (TC.seq_ (TC.seq_ (TC.region ?_))))
 refine TL.mv ?_
 refine TL.val rfl rfl rfl (gives_nilCheck rfl rfl) ?_
 refine TL.val rfl rfl rfl (gives_field (v := .pointer (some ⟨g11, 2, none⟩)) rfl rfl (fun w => jdecfld82_2 _ _ w)) ?_
 refine TL.val rfl rfl rfl (pm_load (k := 1) (i := 2) rfl rfl jdecag34 rfl rfl) ?_
 refine TL.vsplit rfl rfl rfl (gives_bin rfl rfl rfl (fun w => bin_neq w)) (fun h62 => ?_) (fun h62 => ?_)
 ·have q62 := of_decide_eq_true h62
  have hl : l.length < 37 := Decidable.byContradiction fun hl => q62 (if_neg hl)
  refine TL.end_ (TX.then_ (TC.condT rfl (TC.seq_ (TC.region ?_))))
  refine TL.val rfl rfl rfl (gives_build (v := .agg #[.int .i64 0, .int .i64 0, .int .i64 0, .int .i64 0, .int .u32 0, .int .i64 0, .int .i64 0, .int .i64 0, .bool false, .bool false, .int .i64 0, .int .u32 0, .int .i64 0, .int .i64 0, .int .i64 0, .int .i64 0, .int .i64 0]) rfl rfl (fun w => jdecbld27_532  w)) ?_
  refine TL.pstore (k := 2) (vs := [.int .i64 0, .int .i64 0, .int .i64 0, .int .i64 0, .int .u32 0, .int .i64 0, .int .i64 0, .int .i64 0, .bool false, .bool false, .int .i64 0, .int .u32 0, .int .i64 0, .int .i64 0, .int .i64 0, .int .i64 0, .int .i64 0]) rfl rfl rfl rfl rfl rfl rfl jdecsz27 jdecone_i64i64i64i64u32i64i64i64bbi64u32i64i64i64i64i64 (by show 17 ≤ 17; decide) (L' := [.blk g5 27 [.int .i64 (getJ l 0 1), .int .i64 (getJ l 1 1), .int .i64 (getJ l 2 2), .int .i64 (getJ l 4 7), .int .u32 (getJ l 11 4), .int .i64 (getJ l 15 1), .int .i64 (getJ l 16 2), .int .i64 (getJ l 18 1), .bool (decide (bits .and .i64 (getJ l 19 1) 1 = 1)), .bool (decide (bits .and .i64 (getJ l 19 1) 2 = 2)), .int .i64 (getJ l 20 7), .int .u32 (getJ l 27 4), .int .i64 (getJ l 31 1), .int .i64 (getJ l 32 1), .int .i64 (getJ l 33 1), .int .i64 (getJ l 34 2), .int .i64 (getJ l 36 1)], .blk g11 82 [.slice A n c, .int .i64 37, .int .i64 (eAt l 37)], .blk g2 27 [.int .i64 0, .int .i64 0, .int .i64 0, .int .i64 0, .int .u32 0, .int .i64 0, .int .i64 0, .int .i64 0, .bool false, .bool false, .int .i64 0, .int .u32 0, .int .i64 0, .int .i64 0, .int .i64 0, .int .i64 0, .int .i64 0]]) rfl ?_
  refine TL.as_ ?_
  refine TL.end_ (TX.then_ (TC.ret_ (TX.then_ret ?_)))
  exact ret_cell2 (k := 2) (v := .int .i64 3) Tryd.results18 rfl rfl rfl Tryd.underlying27 rfl rfl (fun w1 hw => ⟨by rw [(dec_short (by omega)).1, (dec_short (by omega)).2]; rfl, hw.bel⟩)
 ·have q62 := of_decide_eq_false h62
  have hl : ¬ l.length < 37 := fun hl => by rw [eAt, if_pos hl] at q62; exact q62 (by decide)
  refine TL.end_ (TX.then_ (TC.condF rfl (TC.skip_ (TX.then_ (TC.seq_ (TC.seq_ ?_))))))
  have hcells : [.int .i64 (getJ l 0 1), .int .i64 (getJ l 1 1), .int .i64 (getJ l 2 2), .int .i64 (getJ l 4 7), .int .u32 (getJ l 11 4), .int .i64 (getJ l 15 1), .int .i64 (getJ l 16 2), .int .i64 (getJ l 18 1), .bool (decide (bits .and .i64 (getJ l 19 1) 1 = 1)), .bool (decide (bits .and .i64 (getJ l 19 1) 2 = 2)), .int .i64 (getJ l 20 7), .int .u32 (getJ l 27 4), .int .i64 (getJ l 31 1), .int .i64 (getJ l 32 1), .int .i64 (getJ l 33 1), .int .i64 (getJ l 34 2), .int .i64 (getJ l 36 1)] = (rdR l).cells := cells_j hb.2 (by omega)
  refine TC.mem (I' := Pm w [.blk g5 27 (rdR l).cells, .blk g11 82 [.slice A n c, .int .i64 37, .int .i64 (eAt l 37)], .blk g2 27 [.int .i64 0, .int .i64 0, .int .i64 0, .int .i64 0, .int .u32 0, .int .i64 0, .int .i64 0, .int .i64 0, .bool false, .bool false, .int .i64 0, .int .u32 0, .int .i64 0, .int .i64 0, .int .i64 0, .int .i64 0, .int .i64 0]]) (fun w1 hw => by rw [← hcells]; exact hw) ?_
  refine TC.region ?_
  refine TL.val rfl rfl rfl (pm_loadV (k := 0) (i := 0) (n := 17) (v := .agg ((rdR l).cells).toArray) rfl rfl jdecag27 jdecsz27 rfl (by show 17 ≤ 17; decide) rfl) ?_
  refine TL.pcallPair (n := (encO (rdR l)).length) (ys := bv (encO (rdR l))) (v := .int .i64 (chkR (rdR l))) rfl rfl rfl rfl rfl Tryd.func12 jdecnm12 jdecbd12 (fun w1 hw => encode_any (rdR l) (rd_ok l hb.2) w1) (fun A66 c66 hA661 hA662 => ?_)
  iterate 5 (first | refine TL.as_ ?_ | refine TL.ex ?_ | refine TL.mv ?_)
  refine TL.end_ (TX.then_ (TC.seq_ (TC.region ?_)))
  refine TL.mv ?_
  refine TL.vsplit rfl rfl rfl (gives_bin rfl rfl rfl (fun w => bin_neq w)) (fun h70 => ?_) (fun h70 => ?_)
  ·have q70 := of_decide_eq_true h70
   have hx : ¬ (chkR (rdR l) = 0 ∧ encO (rdR l) = l) := fun hh => q70 hh.1
   iterate 6 (first | refine TL.of ?_ | refine TL.mv ?_ | refine TL.pk ?_)
   refine TL.end_ (TX.then_ (TC.condT rfl (TC.seq_ (TC.region ?_))))
   refine TL.val rfl rfl rfl (gives_build (v := .agg #[.int .i64 0, .int .i64 0, .int .i64 0, .int .i64 0, .int .u32 0, .int .i64 0, .int .i64 0, .int .i64 0, .bool false, .bool false, .int .i64 0, .int .u32 0, .int .i64 0, .int .i64 0, .int .i64 0, .int .i64 0, .int .i64 0]) rfl rfl (fun w => jdecbld27_532  w)) ?_
   refine TL.pstore (k := 3) (vs := [.int .i64 0, .int .i64 0, .int .i64 0, .int .i64 0, .int .u32 0, .int .i64 0, .int .i64 0, .int .i64 0, .bool false, .bool false, .int .i64 0, .int .u32 0, .int .i64 0, .int .i64 0, .int .i64 0, .int .i64 0, .int .i64 0]) rfl rfl rfl rfl rfl rfl rfl jdecsz27 jdecone_i64i64i64i64u32i64i64i64bbi64u32i64i64i64i64i64 (by show 17 ≤ 17; decide) (L' := [.row (.slice A66 ((encO (rdR l)).length) c66) 5 1 ((encO (rdR l)).length) (bv (encO (rdR l))), .blk g5 27 (rdR l).cells, .blk g11 82 [.slice A n c, .int .i64 37, .int .i64 (eAt l 37)], .blk g2 27 [.int .i64 0, .int .i64 0, .int .i64 0, .int .i64 0, .int .u32 0, .int .i64 0, .int .i64 0, .int .i64 0, .bool false, .bool false, .int .i64 0, .int .u32 0, .int .i64 0, .int .i64 0, .int .i64 0, .int .i64 0, .int .i64 0]]) rfl ?_
   refine TL.as_ ?_
   refine TL.end_ (TX.then_ (TC.ret_ (TX.then_ret ?_)))
   exact ret_cell2 (k := 3) (v := .int .i64 2) Tryd.results18 rfl rfl rfl Tryd.underlying27 rfl rfl (fun w1 hw => ⟨by rw [(dec_form (by omega) hx).1, (dec_form (by omega) hx).2]; rfl, hw.bel⟩)
  ·have q70 := of_decide_eq_false h70
   have hz : chkR (rdR l) = 0 := Decidable.not_not.1 q70
   iterate 6 (first | refine TL.gu ?_ | refine TL.mv ?_)
   refine TL.callsplit rfl rfl rfl rfl rfl Tryd.func28 jdecnm28 jdecbd28 (fun w1 hw => wequal A66 A (encO (rdR l)).length c66 n c (encO (rdR l)) l w1 (byt_own (hw.at_ (k := 0) rfl) (encO_bs _)) ((hb.below hw.bel).more hw.bel.size)) (fun h74 => ?_) (fun h74 => ?_)
   ·have hx : chkR (rdR l) = 0 ∧ encO (rdR l) = l := ⟨hz, of_decide_eq_true h74⟩
    refine TL.gu ?_
    refine TL.val rfl rfl rfl (gives_boolnot rfl rfl) ?_
    refine TL.pk ?_
    refine TL.end_ (TX.then_ (TC.condF rfl (TC.skip_ (TX.then_ (TC.seq_ (TC.region ?_))))))
    refine TL.val rfl rfl rfl (pm_loadV (k := 1) (i := 0) (n := 17) (v := .agg ((rdR l).cells).toArray) rfl rfl jdecag27 jdecsz27 rfl (by show 17 ≤ 17; decide) rfl) ?_
    refine TL.pstore (k := 3) (vs := (rdR l).cells) rfl rfl rfl rfl rfl rfl rfl jdecsz27 jdecone_i64i64i64i64u32i64i64i64bbi64u32i64i64i64i64i64 (by show 17 ≤ 17; decide) (L' := [.row (.slice A66 ((encO (rdR l)).length) c66) 5 1 ((encO (rdR l)).length) (bv (encO (rdR l))), .blk g5 27 (rdR l).cells, .blk g11 82 [.slice A n c, .int .i64 37, .int .i64 (eAt l 37)], .blk g2 27 (rdR l).cells]) rfl ?_
    refine TL.as_ ?_
    refine TL.end_ (TX.then_ (TC.ret_ ?_))
    exact ret_cell2 (k := 3) (v := .int .i64 0) Tryd.results18 rfl rfl rfl Tryd.underlying27 rfl rfl (fun w1 hw => ⟨by rw [(dec_ok (by omega) hx.1 hx.2).1, (dec_ok (by omega) hx.1 hx.2).2], hw.bel⟩)
   ·have hx : ¬ (chkR (rdR l) = 0 ∧ encO (rdR l) = l) := fun hh => absurd hh.2 (of_decide_eq_false h74)
    refine TL.gu ?_
    refine TL.val rfl rfl rfl (gives_boolnot rfl rfl) ?_
    refine TL.pk ?_
    refine TL.end_ (TX.then_ (TC.condT rfl (TC.seq_ (TC.region ?_))))
    refine TL.val rfl rfl rfl (gives_build (v := .agg #[.int .i64 0, .int .i64 0, .int .i64 0, .int .i64 0, .int .u32 0, .int .i64 0, .int .i64 0, .int .i64 0, .bool false, .bool false, .int .i64 0, .int .u32 0, .int .i64 0, .int .i64 0, .int .i64 0, .int .i64 0, .int .i64 0]) rfl rfl (fun w => jdecbld27_532  w)) ?_
    refine TL.pstore (k := 3) (vs := [.int .i64 0, .int .i64 0, .int .i64 0, .int .i64 0, .int .u32 0, .int .i64 0, .int .i64 0, .int .i64 0, .bool false, .bool false, .int .i64 0, .int .u32 0, .int .i64 0, .int .i64 0, .int .i64 0, .int .i64 0, .int .i64 0]) rfl rfl rfl rfl rfl rfl rfl jdecsz27 jdecone_i64i64i64i64u32i64i64i64bbi64u32i64i64i64i64i64 (by show 17 ≤ 17; decide) (L' := [.row (.slice A66 ((encO (rdR l)).length) c66) 5 1 ((encO (rdR l)).length) (bv (encO (rdR l))), .blk g5 27 (rdR l).cells, .blk g11 82 [.slice A n c, .int .i64 37, .int .i64 (eAt l 37)], .blk g2 27 [.int .i64 0, .int .i64 0, .int .i64 0, .int .i64 0, .int .u32 0, .int .i64 0, .int .i64 0, .int .i64 0, .bool false, .bool false, .int .i64 0, .int .u32 0, .int .i64 0, .int .i64 0, .int .i64 0, .int .i64 0, .int .i64 0]]) rfl ?_
    refine TL.as_ ?_
    refine TL.end_ (TX.then_ (TC.ret_ (TX.then_ret ?_)))
    exact ret_cell2 (k := 3) (v := .int .i64 2) Tryd.results18 rfl rfl rfl Tryd.underlying27 rfl rfl (fun w1 hw => ⟨by rw [(dec_form (by omega) hx).1, (dec_form (by omega) hx).2]; rfl, hw.bel⟩)
set_option maxHeartbeats 2000000 in
theorem rdecode_any (A : Option Addr) (n c : Nat) (l : List Int) (w : World) (hb : Byt w w.heap.size A n l) (hnc : n ≤ c) (hlim : n ≤ 140737488355328) :
  Calls Tryd.prog 19 #[.slice A n c] w fun e w' => e = .returned (.tuple #[.agg (decR l).cells.toArray, .int .i64 (decE l)]) ∧ Below w.heap.size w w' := by
 have hln := hb.len
 refine begin_ (vs := [.slice A n c]) Tryd.func19 rfl rfl rfl ?_ (Pm.start w)
 refine TC.seq_ (TC.region ?_)
 refine TL.pnew rfl rfl rfl (exec_alloc (cs := [.int .i64 0, .int .i64 0, .int .i64 0, .int .i64 0, .int .u32 0, .int .i64 0, .int .i64 0, .int .i64 0, .bool false, .bool false, .int .i64 0, .int .u32 0, .int .i64 0, .int .i64 0, .int .i64 0, .int .i64 0, .int .i64 0]) rfl jdeczv27 rfl) (fun g2 => ?_)
 refine TL.as_ ?_
 refine TL.end_ (TX.then_ (TC.seq_ (TC.seq_ (TC.region ?_))))
 refine TL.mv ?_
 refine TL.val rfl rfl rfl (gives_len rfl Tryd.underlying28 rfl) ?_
 refine TL.vsplit rfl rfl rfl (gives_bin rfl rfl rfl (fun w => bin_lss w)) (fun h9 => ?_) (fun h9 => ?_)
 ·have q9 := of_decide_eq_true h9
  have hl : l.length < 37 := by omega
  refine TL.end_ (TX.then_ (TC.condT rfl (TC.seq_ (TC.region ?_))))
  refine TL.val rfl rfl rfl (gives_build (v := .agg #[.int .i64 0, .int .i64 0, .int .i64 0, .int .i64 0, .int .u32 0, .int .i64 0, .int .i64 0, .int .i64 0, .bool false, .bool false, .int .i64 0, .int .u32 0, .int .i64 0, .int .i64 0, .int .i64 0, .int .i64 0, .int .i64 0]) rfl rfl (fun w => jdecbld27_532  w)) ?_
  refine TL.pstore (k := 0) (vs := [.int .i64 0, .int .i64 0, .int .i64 0, .int .i64 0, .int .u32 0, .int .i64 0, .int .i64 0, .int .i64 0, .bool false, .bool false, .int .i64 0, .int .u32 0, .int .i64 0, .int .i64 0, .int .i64 0, .int .i64 0, .int .i64 0]) rfl rfl rfl rfl rfl rfl rfl jdecsz27 jdecone_i64i64i64i64u32i64i64i64bbi64u32i64i64i64i64i64 (by show 17 ≤ 17; decide) (L' := [.blk g2 27 [.int .i64 0, .int .i64 0, .int .i64 0, .int .i64 0, .int .u32 0, .int .i64 0, .int .i64 0, .int .i64 0, .bool false, .bool false, .int .i64 0, .int .u32 0, .int .i64 0, .int .i64 0, .int .i64 0, .int .i64 0, .int .i64 0]]) rfl ?_
  refine TL.as_ ?_
  refine TL.end_ (TX.then_ (TC.ret_ (TX.then_ret ?_)))
  exact ret_cell2 (k := 0) (v := .int .i64 3) Tryd.results19 rfl rfl rfl Tryd.underlying27 rfl rfl (fun w1 hw => ⟨by rw [(dec_short (by omega)).1, (dec_short (by omega)).2]; rfl, hw.bel⟩)
 ·have q9 := of_decide_eq_false h9
  have hl : ¬ l.length < 37 := by omega
  obtain ⟨b0, o, y, rfl, hbB, hl19, hy0, hy1, hy⟩ := hb.at' (k := 19) (by omega)
  refine TL.end_ (TX.then_ (TC.condF rfl (TC.skip_ (TX.then_ (TC.seq_ ?_)))))
  refine TC.held (ls := #[Ff,Ff,Ff,Ff,Ff,Ff,Ff,Ff,Ff,Ff,Ff,Ff,Ff,Ff,Ff,Ff,Ff,Ff,Ff,Ff,Ff,Ff,Ff,Ff,Ff,Ff,Ff,Ff,Ff,Ff,Ff,Ff]) (Pm w [.blk g2 27 [.int .i64 0, .int .i64 0, .int .i64 0, .int .i64 0, .int .u32 0, .int .i64 0, .int .i64 0, .int .i64 0, .bool false, .bool false, .int .i64 0, .int .u32 0, .int .i64 0, .int .i64 0, .int .i64 0, .int .i64 0, .int .i64 0]]) (by kernel_rfl) rfl rfl (fun w hw => hw.drawn _) ?_
  refine TH.tk (listed' := #[Tt,Ff,Ff,Ff,Ff,Ff,Ff,Ff,Ff,Ff,Ff,Ff,Ff,Ff,Ff,Ff,Ff,Ff,Ff,Ff,Ff,Ff,Ff,Ff,Ff,Ff,Ff,Ff,Ff,Ff,Ff,Ff]) 0 rfl rfl rfl (gives_move rfl rfl) (fun w1 hw => hw) ?_
  refine TH.takeC (r := .int .i64 (getJ l 0 1)) (listed' := #[Tt,Tt,Ff,Ff,Ff,Ff,Ff,Ff,Ff,Ff,Ff,Ff,Ff,Ff,Ff,Ff,Ff,Ff,Ff,Ff,Ff,Ff,Ff,Ff,Ff,Ff,Ff,Ff,Ff,Ff,Ff,Ff]) 1 rfl (by kernel_rfl) (by kernel_rfl) (by kernel_rfl) rfl rfl rfl rfl rfl rfl Tryd.func50 jdecnm50 jdecbd50 (fun w1 hw => sat _ n c l 0 1 w1 ((hb.below hw.bel).more hw.bel.size) hnc hlim (by decide) (by decide) (by decide)) (fun w1 hw => hw) ?_
  refine TH.tk (listed' := #[Tt,Tt,Tt,Ff,Ff,Ff,Ff,Ff,Ff,Ff,Ff,Ff,Ff,Ff,Ff,Ff,Ff,Ff,Ff,Ff,Ff,Ff,Ff,Ff,Ff,Ff,Ff,Ff,Ff,Ff,Ff,Ff]) 2 rfl rfl rfl (gives_move rfl rfl) (fun w1 hw => hw) ?_
  refine TH.takeC (r := .int .i64 (getJ l 1 1)) (listed' := #[Tt,Tt,Tt,Tt,Ff,Ff,Ff,Ff,Ff,Ff,Ff,Ff,Ff,Ff,Ff,Ff,Ff,Ff,Ff,Ff,Ff,Ff,Ff,Ff,Ff,Ff,Ff,Ff,Ff,Ff,Ff,Ff]) 3 rfl (by kernel_rfl) (by kernel_rfl) (by kernel_rfl) rfl rfl rfl rfl rfl rfl Tryd.func50 jdecnm50 jdecbd50 (fun w1 hw => sat _ n c l 1 1 w1 ((hb.below hw.bel).more hw.bel.size) hnc hlim (by decide) (by decide) (by decide)) (fun w1 hw => hw) ?_
  refine TH.tk (listed' := #[Tt,Tt,Tt,Tt,Tt,Ff,Ff,Ff,Ff,Ff,Ff,Ff,Ff,Ff,Ff,Ff,Ff,Ff,Ff,Ff,Ff,Ff,Ff,Ff,Ff,Ff,Ff,Ff,Ff,Ff,Ff,Ff]) 4 rfl rfl rfl (gives_move rfl rfl) (fun w1 hw => hw) ?_
  refine TH.takeC (r := .int .i64 (getJ l 2 2)) (listed' := #[Tt,Tt,Tt,Tt,Tt,Tt,Ff,Ff,Ff,Ff,Ff,Ff,Ff,Ff,Ff,Ff,Ff,Ff,Ff,Ff,Ff,Ff,Ff,Ff,Ff,Ff,Ff,Ff,Ff,Ff,Ff,Ff]) 5 rfl (by kernel_rfl) (by kernel_rfl) (by kernel_rfl) rfl rfl rfl rfl rfl rfl Tryd.func50 jdecnm50 jdecbd50 (fun w1 hw => sat _ n c l 2 2 w1 ((hb.below hw.bel).more hw.bel.size) hnc hlim (by decide) (by decide) (by decide)) (fun w1 hw => hw) ?_
  refine TH.tk (listed' := #[Tt,Tt,Tt,Tt,Tt,Tt,Tt,Ff,Ff,Ff,Ff,Ff,Ff,Ff,Ff,Ff,Ff,Ff,Ff,Ff,Ff,Ff,Ff,Ff,Ff,Ff,Ff,Ff,Ff,Ff,Ff,Ff]) 6 rfl rfl rfl (gives_move rfl rfl) (fun w1 hw => hw) ?_
  refine TH.takeC (r := .int .i64 (getJ l 4 7)) (listed' := #[Tt,Tt,Tt,Tt,Tt,Tt,Tt,Tt,Ff,Ff,Ff,Ff,Ff,Ff,Ff,Ff,Ff,Ff,Ff,Ff,Ff,Ff,Ff,Ff,Ff,Ff,Ff,Ff,Ff,Ff,Ff,Ff]) 7 rfl (by kernel_rfl) (by kernel_rfl) (by kernel_rfl) rfl rfl rfl rfl rfl rfl Tryd.func50 jdecnm50 jdecbd50 (fun w1 hw => sat _ n c l 4 7 w1 ((hb.below hw.bel).more hw.bel.size) hnc hlim (by decide) (by decide) (by decide)) (fun w1 hw => hw) ?_
  refine TH.tk (listed' := #[Tt,Tt,Tt,Tt,Tt,Tt,Tt,Tt,Tt,Ff,Ff,Ff,Ff,Ff,Ff,Ff,Ff,Ff,Ff,Ff,Ff,Ff,Ff,Ff,Ff,Ff,Ff,Ff,Ff,Ff,Ff,Ff]) 8 rfl rfl rfl (gives_move rfl rfl) (fun w1 hw => hw) ?_
  refine TH.takeC (r := .int .i64 (getJ l 11 4)) (listed' := #[Tt,Tt,Tt,Tt,Tt,Tt,Tt,Tt,Tt,Tt,Ff,Ff,Ff,Ff,Ff,Ff,Ff,Ff,Ff,Ff,Ff,Ff,Ff,Ff,Ff,Ff,Ff,Ff,Ff,Ff,Ff,Ff]) 9 rfl (by kernel_rfl) (by kernel_rfl) (by kernel_rfl) rfl rfl rfl rfl rfl rfl Tryd.func50 jdecnm50 jdecbd50 (fun w1 hw => sat _ n c l 11 4 w1 ((hb.below hw.bel).more hw.bel.size) hnc hlim (by decide) (by decide) (by decide)) (fun w1 hw => hw) ?_
  refine TH.tk (listed' := #[Tt,Tt,Tt,Tt,Tt,Tt,Tt,Tt,Tt,Tt,Tt,Ff,Ff,Ff,Ff,Ff,Ff,Ff,Ff,Ff,Ff,Ff,Ff,Ff,Ff,Ff,Ff,Ff,Ff,Ff,Ff,Ff]) 10 rfl rfl rfl (gives_conv rfl rfl (fun w => conv_fit (k := .i64) Tryd.underlying23 Tryd.underlying3 (by simp only [IntKind.wrap_u32]; exact fit4 hb.2 11) w)) (fun w1 hw => hw) ?_
  refine TH.tk (listed' := #[Tt,Tt,Tt,Tt,Tt,Tt,Tt,Tt,Tt,Tt,Tt,Tt,Ff,Ff,Ff,Ff,Ff,Ff,Ff,Ff,Ff,Ff,Ff,Ff,Ff,Ff,Ff,Ff,Ff,Ff,Ff,Ff]) 11 rfl rfl rfl (gives_move rfl rfl) (fun w1 hw => hw) ?_
  refine TH.takeC (r := .int .i64 (getJ l 15 1)) (listed' := #[Tt,Tt,Tt,Tt,Tt,Tt,Tt,Tt,Tt,Tt,Tt,Tt,Tt,Ff,Ff,Ff,Ff,Ff,Ff,Ff,Ff,Ff,Ff,Ff,Ff,Ff,Ff,Ff,Ff,Ff,Ff,Ff]) 12 rfl (by kernel_rfl) (by kernel_rfl) (by kernel_rfl) rfl rfl rfl rfl rfl rfl Tryd.func50 jdecnm50 jdecbd50 (fun w1 hw => sat _ n c l 15 1 w1 ((hb.below hw.bel).more hw.bel.size) hnc hlim (by decide) (by decide) (by decide)) (fun w1 hw => hw) ?_
  refine TH.tk (listed' := #[Tt,Tt,Tt,Tt,Tt,Tt,Tt,Tt,Tt,Tt,Tt,Tt,Tt,Tt,Ff,Ff,Ff,Ff,Ff,Ff,Ff,Ff,Ff,Ff,Ff,Ff,Ff,Ff,Ff,Ff,Ff,Ff]) 13 rfl rfl rfl (gives_move rfl rfl) (fun w1 hw => hw) ?_
  refine TH.takeC (r := .int .i64 (getJ l 16 2)) (listed' := #[Tt,Tt,Tt,Tt,Tt,Tt,Tt,Tt,Tt,Tt,Tt,Tt,Tt,Tt,Tt,Ff,Ff,Ff,Ff,Ff,Ff,Ff,Ff,Ff,Ff,Ff,Ff,Ff,Ff,Ff,Ff,Ff]) 14 rfl (by kernel_rfl) (by kernel_rfl) (by kernel_rfl) rfl rfl rfl rfl rfl rfl Tryd.func50 jdecnm50 jdecbd50 (fun w1 hw => sat _ n c l 16 2 w1 ((hb.below hw.bel).more hw.bel.size) hnc hlim (by decide) (by decide) (by decide)) (fun w1 hw => hw) ?_
  refine TH.tk (listed' := #[Tt,Tt,Tt,Tt,Tt,Tt,Tt,Tt,Tt,Tt,Tt,Tt,Tt,Tt,Tt,Tt,Ff,Ff,Ff,Ff,Ff,Ff,Ff,Ff,Ff,Ff,Ff,Ff,Ff,Ff,Ff,Ff]) 15 rfl rfl rfl (gives_move rfl rfl) (fun w1 hw => hw) ?_
  refine TH.takeC (r := .int .i64 (getJ l 18 1)) (listed' := #[Tt,Tt,Tt,Tt,Tt,Tt,Tt,Tt,Tt,Tt,Tt,Tt,Tt,Tt,Tt,Tt,Tt,Ff,Ff,Ff,Ff,Ff,Ff,Ff,Ff,Ff,Ff,Ff,Ff,Ff,Ff,Ff]) 16 rfl (by kernel_rfl) (by kernel_rfl) (by kernel_rfl) rfl rfl rfl rfl rfl rfl Tryd.func50 jdecnm50 jdecbd50 (fun w1 hw => sat _ n c l 18 1 w1 ((hb.below hw.bel).more hw.bel.size) hnc hlim (by decide) (by decide) (by decide)) (fun w1 hw => hw) ?_
  refine TH.tk (listed' := #[Tt,Tt,Tt,Tt,Tt,Tt,Tt,Tt,Tt,Tt,Tt,Tt,Tt,Tt,Tt,Tt,Tt,Tt,Ff,Ff,Ff,Ff,Ff,Ff,Ff,Ff,Ff,Ff,Ff,Ff,Ff,Ff]) 17 rfl rfl rfl (gives_move rfl rfl) (fun w1 hw => hw) ?_
  refine TH.tk (listed' := #[Tt,Tt,Tt,Tt,Tt,Tt,Tt,Tt,Tt,Tt,Tt,Tt,Tt,Tt,Tt,Tt,Tt,Tt,Tt,Ff,Ff,Ff,Ff,Ff,Ff,Ff,Ff,Ff,Ff,Ff,Ff,Ff]) 18 rfl rfl rfl (gives_at (v := .pointer (some ⟨b0, o + 19, none⟩)) rfl rfl rfl (fun w => at_u8 b0 o n c 19 (by omega) w)) (fun w1 hw => hw) ?_
  refine TH.tk (listed' := #[Tt,Tt,Tt,Tt,Tt,Tt,Tt,Tt,Tt,Tt,Tt,Tt,Tt,Tt,Tt,Tt,Tt,Tt,Tt,Tt,Ff,Ff,Ff,Ff,Ff,Ff,Ff,Ff,Ff,Ff,Ff,Ff]) 19 rfl rfl rfl (gives_load (v := .int .u8 y) rfl rfl (fun w => rfl) (fun w1 hw => (hw.bel.cell (p := ⟨b0, o + 19, none⟩) hbB).trans hy)) (fun w1 hw => hw) ?_
  refine TH.tk (listed' := #[Tt,Tt,Tt,Tt,Tt,Tt,Tt,Tt,Tt,Tt,Tt,Tt,Tt,Tt,Tt,Tt,Tt,Tt,Tt,Tt,Tt,Ff,Ff,Ff,Ff,Ff,Ff,Ff,Ff,Ff,Ff,Ff]) 20 rfl rfl rfl (gives_bin rfl rfl rfl (fun w => bin_bits (.inl rfl) w)) (fun w1 hw => hw) ?_
  refine TH.tk (listed' := #[Tt,Tt,Tt,Tt,Tt,Tt,Tt,Tt,Tt,Tt,Tt,Tt,Tt,Tt,Tt,Tt,Tt,Tt,Tt,Tt,Tt,Tt,Ff,Ff,Ff,Ff,Ff,Ff,Ff,Ff,Ff,Ff]) 21 rfl rfl rfl (gives_bin rfl rfl rfl (fun w => bin_eql w)) (fun w1 hw => hw) ?_
  refine TH.tk (listed' := #[Tt,Tt,Tt,Tt,Tt,Tt,Tt,Tt,Tt,Tt,Tt,Tt,Tt,Tt,Tt,Tt,Tt,Tt,Tt,Tt,Tt,Tt,Tt,Ff,Ff,Ff,Ff,Ff,Ff,Ff,Ff,Ff]) 22 rfl rfl rfl (gives_move rfl rfl) (fun w1 hw => hw) ?_
  refine TH.tk (listed' := #[Tt,Tt,Tt,Tt,Tt,Tt,Tt,Tt,Tt,Tt,Tt,Tt,Tt,Tt,Tt,Tt,Tt,Tt,Tt,Tt,Tt,Tt,Tt,Tt,Ff,Ff,Ff,Ff,Ff,Ff,Ff,Ff]) 23 rfl rfl rfl (gives_at (v := .pointer (some ⟨b0, o + 19, none⟩)) rfl rfl rfl (fun w => at_u8 b0 o n c 19 (by omega) w)) (fun w1 hw => hw) ?_
  refine TH.tk (listed' := #[Tt,Tt,Tt,Tt,Tt,Tt,Tt,Tt,Tt,Tt,Tt,Tt,Tt,Tt,Tt,Tt,Tt,Tt,Tt,Tt,Tt,Tt,Tt,Tt,Tt,Ff,Ff,Ff,Ff,Ff,Ff,Ff]) 24 rfl rfl rfl (gives_load (v := .int .u8 y) rfl rfl (fun w => rfl) (fun w1 hw => (hw.bel.cell (p := ⟨b0, o + 19, none⟩) hbB).trans hy)) (fun w1 hw => hw) ?_
  refine TH.tk (listed' := #[Tt,Tt,Tt,Tt,Tt,Tt,Tt,Tt,Tt,Tt,Tt,Tt,Tt,Tt,Tt,Tt,Tt,Tt,Tt,Tt,Tt,Tt,Tt,Tt,Tt,Tt,Ff,Ff,Ff,Ff,Ff,Ff]) 25 rfl rfl rfl (gives_bin rfl rfl rfl (fun w => bin_bits (.inl rfl) w)) (fun w1 hw => hw) ?_
  refine TH.tk (listed' := #[Tt,Tt,Tt,Tt,Tt,Tt,Tt,Tt,Tt,Tt,Tt,Tt,Tt,Tt,Tt,Tt,Tt,Tt,Tt,Tt,Tt,Tt,Tt,Tt,Tt,Tt,Tt,Ff,Ff,Ff,Ff,Ff]) 26 rfl rfl rfl (gives_bin rfl rfl rfl (fun w => bin_eql w)) (fun w1 hw => hw) ?_
  refine TH.tk (listed' := #[Tt,Tt,Tt,Tt,Tt,Tt,Tt,Tt,Tt,Tt,Tt,Tt,Tt,Tt,Tt,Tt,Tt,Tt,Tt,Tt,Tt,Tt,Tt,Tt,Tt,Tt,Tt,Tt,Ff,Ff,Ff,Ff]) 27 rfl rfl rfl (gives_move rfl rfl) (fun w1 hw => hw) ?_
  refine TH.takeC (r := .int .i64 (getJ l 20 7)) (listed' := #[Tt,Tt,Tt,Tt,Tt,Tt,Tt,Tt,Tt,Tt,Tt,Tt,Tt,Tt,Tt,Tt,Tt,Tt,Tt,Tt,Tt,Tt,Tt,Tt,Tt,Tt,Tt,Tt,Tt,Ff,Ff,Ff]) 28 rfl (by kernel_rfl) (by kernel_rfl) (by kernel_rfl) rfl rfl rfl rfl rfl rfl Tryd.func50 jdecnm50 jdecbd50 (fun w1 hw => sat _ n c l 20 7 w1 ((hb.below hw.bel).more hw.bel.size) hnc hlim (by decide) (by decide) (by decide)) (fun w1 hw => hw) ?_
  refine TH.tk (listed' := #[Tt,Tt,Tt,Tt,Tt,Tt,Tt,Tt,Tt,Tt,Tt,Tt,Tt,Tt,Tt,Tt,Tt,Tt,Tt,Tt,Tt,Tt,Tt,Tt,Tt,Tt,Tt,Tt,Tt,Tt,Ff,Ff]) 29 rfl rfl rfl (gives_build (v := .agg #[.int .i64 (getJ l 0 1), .int .i64 (getJ l 1 1), .int .i64 (getJ l 2 2), .int .i64 (getJ l 4 7), .int .u32 (getJ l 11 4), .int .i64 (getJ l 15 1), .int .i64 (getJ l 16 2), .int .i64 (getJ l 18 1), .bool (decide (bits .and .u8 y 1 = 1)), .bool (decide (bits .and .u8 y 2 = 2)), .int .i64 (getJ l 20 7), .int .u32 0, .int .i64 0, .int .i64 0, .int .i64 0, .int .i64 0, .int .i64 0]) rfl rfl (fun w => jdecbld27_33074 _ _ _ _ _ _ _ _ _ _ _ w)) (fun w1 hw => hw) ?_
  refine TH.only' (listed' := #[Tt,Tt,Tt,Tt,Tt,Tt,Tt,Tt,Tt,Tt,Tt,Tt,Tt,Tt,Tt,Tt,Tt,Tt,Tt,Tt,Tt,Tt,Tt,Tt,Tt,Tt,Tt,Tt,Tt,Tt,Tt,Ff]) 30 rfl (by kernel_rfl) rfl ?_
  refine TL.pnew rfl rfl rfl (exec_alloc (cs := [.int .i64 0, .int .i64 0, .int .i64 0, .int .i64 0, .int .u32 0, .int .i64 0, .int .i64 0, .int .i64 0, .bool false, .bool false, .int .i64 0, .int .u32 0, .int .i64 0, .int .i64 0, .int .i64 0, .int .i64 0, .int .i64 0]) rfl jdeczv27 rfl) (fun g4 => ?_)
  refine TL.end_ ?_
  refine TX.held (fun w1 hw => hw.pick [1] (by decide) rfl) ?_
  refine TH.only' (listed' := #[Tt,Tt,Tt,Tt,Tt,Tt,Tt,Tt,Tt,Tt,Tt,Tt,Tt,Tt,Tt,Tt,Tt,Tt,Tt,Tt,Tt,Tt,Tt,Tt,Tt,Tt,Tt,Tt,Tt,Tt,Tt,Tt]) 31 rfl (by kernel_rfl) rfl ?_
  refine TL.pstore (k := 0) (vs := [.int .i64 (getJ l 0 1), .int .i64 (getJ l 1 1), .int .i64 (getJ l 2 2), .int .i64 (getJ l 4 7), .int .u32 (getJ l 11 4), .int .i64 (getJ l 15 1), .int .i64 (getJ l 16 2), .int .i64 (getJ l 18 1), .bool (decide (bits .and .u8 y 1 = 1)), .bool (decide (bits .and .u8 y 2 = 2)), .int .i64 (getJ l 20 7), .int .u32 0, .int .i64 0, .int .i64 0, .int .i64 0, .int .i64 0, .int .i64 0]) rfl rfl rfl rfl rfl rfl rfl jdecsz27 jdecone_i64i64i64i64u32i64i64i64bbi64u32i64i64i64i64i64 (by show 17 ≤ 17; decide) (L' := [.blk g4 27 [.int .i64 (getJ l 0 1), .int .i64 (getJ l 1 1), .int .i64 (getJ l 2 2), .int .i64 (getJ l 4 7), .int .u32 (getJ l 11 4), .int .i64 (getJ l 15 1), .int .i64 (getJ l 16 2), .int .i64 (getJ l 18 1), .bool (decide (bits .and .u8 y 1 = 1)), .bool (decide (bits .and .u8 y 2 = 2)), .int .i64 (getJ l 20 7), .int .u32 0, .int .i64 0, .int .i64 0, .int .i64 0, .int .i64 0, .int .i64 0], .blk g2 27 [.int .i64 0, .int .i64 0, .int .i64 0, .int .i64 0, .int .u32 0, .int .i64 0, .int .i64 0, .int .i64 0, .bool false, .bool false, .int .i64 0, .int .u32 0, .int .i64 0, .int .i64 0, .int .i64 0, .int .i64 0, .int .i64 0]]) rfl ?_
  refine TL.end_ ?_
  refine TX.held (fun w1 hw => hw.pick [1] (by decide) rfl) ?_
  refine TH.done (by kernel_rfl) ?_
  refine TX.then_ (TC.seq_ (TC.region ?_))
  refine TL.mv ?_
  refine TL.pcall1 (r := .int .i64 (getJ l 27 4)) rfl rfl rfl rfl rfl Tryd.func50 jdecnm50 jdecbd50 (fun w1 hw => jat _ n c l 27 4 w1 ((hb.below hw.bel).more hw.bel.size) hnc hlim (by decide) (by decide) (by decide)) ?_
  refine TL.val rfl rfl rfl (gives_conv rfl rfl (fun w => conv_fit (k := .i64) Tryd.underlying23 Tryd.underlying3 (by simp only [IntKind.wrap_u32]; exact fit4 hb.2 27) w)) ?_
  refine TL.mv ?_
  refine TL.pcall1 (r := .int .i64 (getJ l 31 1)) rfl rfl rfl rfl rfl Tryd.func50 jdecnm50 jdecbd50 (fun w1 hw => jat _ n c l 31 1 w1 ((hb.below hw.bel).more hw.bel.size) hnc hlim (by decide) (by decide) (by decide)) ?_
  refine TL.mv ?_
  refine TL.pcall1 (r := .int .i64 (getJ l 32 1)) rfl rfl rfl rfl rfl Tryd.func50 jdecnm50 jdecbd50 (fun w1 hw => jat _ n c l 32 1 w1 ((hb.below hw.bel).more hw.bel.size) hnc hlim (by decide) (by decide) (by decide)) ?_
  refine TL.mv ?_
  refine TL.pcall1 (r := .int .i64 (getJ l 33 1)) rfl rfl rfl rfl rfl Tryd.func50 jdecnm50 jdecbd50 (fun w1 hw => jat _ n c l 33 1 w1 ((hb.below hw.bel).more hw.bel.size) hnc hlim (by decide) (by decide) (by decide)) ?_
  refine TL.mv ?_
  refine TL.pcall1 (r := .int .i64 (getJ l 34 2)) rfl rfl rfl rfl rfl Tryd.func50 jdecnm50 jdecbd50 (fun w1 hw => jat _ n c l 34 2 w1 ((hb.below hw.bel).more hw.bel.size) hnc hlim (by decide) (by decide) (by decide)) ?_
  refine TL.mv ?_
  refine TL.pcall1 (r := .int .i64 (getJ l 36 1)) rfl rfl rfl rfl rfl Tryd.func50 jdecnm50 jdecbd50 (fun w1 hw => jat _ n c l 36 1 w1 ((hb.below hw.bel).more hw.bel.size) hnc hlim (by decide) (by decide) (by decide)) ?_
  refine TL.val rfl rfl rfl (gives_build (v := .agg #[.int .u32 (getJ l 27 4), .int .i64 (getJ l 31 1), .int .i64 (getJ l 32 1), .int .i64 (getJ l 33 1), .int .i64 (getJ l 34 2), .int .i64 (getJ l 36 1)]) rfl rfl (fun w => jdecbld25_14255 _ _ _ _ _ _ w)) ?_
  refine TL.val rfl rfl rfl (gives_field (v := .pointer (some ⟨g4, 11, none⟩)) rfl rfl (fun w => jdecfld27_11 _ _ w)) ?_
  refine TL.pstore (k := 0) (vs := [.int .u32 (getJ l 27 4), .int .i64 (getJ l 31 1), .int .i64 (getJ l 32 1), .int .i64 (getJ l 33 1), .int .i64 (getJ l 34 2), .int .i64 (getJ l 36 1)]) rfl rfl rfl rfl rfl rfl rfl jdecsz25 jdecone_u32i64i64i64i64i64 (by show 17 ≤ 17; decide) (L' := [.blk g4 27 [.int .i64 (getJ l 0 1), .int .i64 (getJ l 1 1), .int .i64 (getJ l 2 2), .int .i64 (getJ l 4 7), .int .u32 (getJ l 11 4), .int .i64 (getJ l 15 1), .int .i64 (getJ l 16 2), .int .i64 (getJ l 18 1), .bool (decide (bits .and .u8 y 1 = 1)), .bool (decide (bits .and .u8 y 2 = 2)), .int .i64 (getJ l 20 7), .int .u32 (getJ l 27 4), .int .i64 (getJ l 31 1), .int .i64 (getJ l 32 1), .int .i64 (getJ l 33 1), .int .i64 (getJ l 34 2), .int .i64 (getJ l 36 1)], .blk g2 27 [.int .i64 0, .int .i64 0, .int .i64 0, .int .i64 0, .int .u32 0, .int .i64 0, .int .i64 0, .int .i64 0, .bool false, .bool false, .int .i64 0, .int .u32 0, .int .i64 0, .int .i64 0, .int .i64 0, .int .i64 0, .int .i64 0]]) rfl ?_
  refine TL.end_ (TX.then_ (TC.seq_ ?_))
  have hcells : [.int .i64 (getJ l 0 1), .int .i64 (getJ l 1 1), .int .i64 (getJ l 2 2), .int .i64 (getJ l 4 7), .int .u32 (getJ l 11 4), .int .i64 (getJ l 15 1), .int .i64 (getJ l 16 2), .int .i64 (getJ l 18 1), .bool (decide (bits .and .u8 y 1 = 1)), .bool (decide (bits .and .u8 y 2 = 2)), .int .i64 (getJ l 20 7), .int .u32 (getJ l 27 4), .int .i64 (getJ l 31 1), .int .i64 (getJ l 32 1), .int .i64 (getJ l 33 1), .int .i64 (getJ l 34 2), .int .i64 (getJ l 36 1)] = (rdR l).cells := cells_r hb.2 (by omega) hl19
  refine TC.mem (I' := Pm w [.blk g4 27 (rdR l).cells, .blk g2 27 [.int .i64 0, .int .i64 0, .int .i64 0, .int .i64 0, .int .u32 0, .int .i64 0, .int .i64 0, .int .i64 0, .bool false, .bool false, .int .i64 0, .int .u32 0, .int .i64 0, .int .i64 0, .int .i64 0, .int .i64 0, .int .i64 0]]) (fun w1 hw => by rw [← hcells]; exact hw) ?_
  refine TC.region ?_
  refine TL.val rfl rfl rfl (pm_loadV (k := 0) (i := 0) (n := 17) (v := .agg ((rdR l).cells).toArray) rfl rfl jdecag27 jdecsz27 rfl (by show 17 ≤ 17; decide) rfl) ?_
  refine TL.pcallPair (n := (encO (rdR l)).length) (ys := bv (encO (rdR l))) (v := .int .i64 (chkR (rdR l))) rfl rfl rfl rfl rfl Tryd.func13 jdecnm13 jdecbd13 (fun w1 hw => rencode_any (rdR l) (rd_ok l hb.2) w1) (fun A58 c58 hA581 hA582 => ?_)
  iterate 5 (first | refine TL.as_ ?_ | refine TL.ex ?_ | refine TL.mv ?_)
  refine TL.end_ (TX.then_ (TC.seq_ (TC.seq_ (TC.region ?_))))
  refine TL.mv ?_
  refine TL.vsplit rfl rfl rfl (gives_bin rfl rfl rfl (fun w => bin_neq w)) (fun h62 => ?_) (fun h62 => ?_)
  ·have q62 := of_decide_eq_true h62
   have hx : ¬ (chkR (rdR l) = 0 ∧ encO (rdR l) = l) := fun hh => q62 hh.1
   iterate 6 (first | refine TL.of ?_ | refine TL.mv ?_ | refine TL.pk ?_)
   refine TL.end_ (TX.then_ (TC.condT rfl (TC.seq_ (TC.region ?_))))
   refine TL.val rfl rfl rfl (gives_build (v := .agg #[.int .i64 0, .int .i64 0, .int .i64 0, .int .i64 0, .int .u32 0, .int .i64 0, .int .i64 0, .int .i64 0, .bool false, .bool false, .int .i64 0, .int .u32 0, .int .i64 0, .int .i64 0, .int .i64 0, .int .i64 0, .int .i64 0]) rfl rfl (fun w => jdecbld27_532  w)) ?_
   refine TL.pstore (k := 2) (vs := [.int .i64 0, .int .i64 0, .int .i64 0, .int .i64 0, .int .u32 0, .int .i64 0, .int .i64 0, .int .i64 0, .bool false, .bool false, .int .i64 0, .int .u32 0, .int .i64 0, .int .i64 0, .int .i64 0, .int .i64 0, .int .i64 0]) rfl rfl rfl rfl rfl rfl rfl jdecsz27 jdecone_i64i64i64i64u32i64i64i64bbi64u32i64i64i64i64i64 (by show 17 ≤ 17; decide) (L' := [.row (.slice A58 ((encO (rdR l)).length) c58) 5 1 ((encO (rdR l)).length) (bv (encO (rdR l))), .blk g4 27 (rdR l).cells, .blk g2 27 [.int .i64 0, .int .i64 0, .int .i64 0, .int .i64 0, .int .u32 0, .int .i64 0, .int .i64 0, .int .i64 0, .bool false, .bool false, .int .i64 0, .int .u32 0, .int .i64 0, .int .i64 0, .int .i64 0, .int .i64 0, .int .i64 0]]) rfl ?_
   refine TL.as_ ?_
   refine TL.end_ (TX.then_ (TC.ret_ (TX.then_ret ?_)))
   exact ret_cell2 (k := 2) (v := .int .i64 2) Tryd.results19 rfl rfl rfl Tryd.underlying27 rfl rfl (fun w1 hw => ⟨by rw [(dec_form (by omega) hx).1, (dec_form (by omega) hx).2]; rfl, hw.bel⟩)
  ·have q62 := of_decide_eq_false h62
   have hz : chkR (rdR l) = 0 := Decidable.not_not.1 q62
   iterate 6 (first | refine TL.gu ?_ | refine TL.mv ?_)
   refine TL.callsplit rfl rfl rfl rfl rfl Tryd.func16 jdecnm16 jdecbd16 (fun w1 hw => (requal_any A58 (some ⟨b0, o, none⟩) (encO (rdR l)).length c58 n c (encO (rdR l)) l w1 w1.heap.size (byt_own (hw.at_ (k := 0) rfl) (encO_bs _)) ((hb.below hw.bel).more hw.bel.size) (by rw [encO_len]; split <;> omega) (by omega)).mono fun e w2 ⟨h1, q, h2⟩ => ⟨h1, h2 ▸ drewN_below q⟩) (fun h66 => ?_) (fun h66 => ?_)
   ·have hx : chkR (rdR l) = 0 ∧ encO (rdR l) = l := ⟨hz, of_decide_eq_true h66⟩
    refine TL.gu ?_
    refine TL.val rfl rfl rfl (gives_boolnot rfl rfl) ?_
    refine TL.pk ?_
    refine TL.end_ (TX.then_ (TC.condF rfl (TC.skip_ (TX.then_ (TC.seq_ (TC.region ?_))))))
    refine TL.val rfl rfl rfl (pm_loadV (k := 1) (i := 0) (n := 17) (v := .agg ((rdR l).cells).toArray) rfl rfl jdecag27 jdecsz27 rfl (by show 17 ≤ 17; decide) rfl) ?_
    refine TL.pstore (k := 2) (vs := (rdR l).cells) rfl rfl rfl rfl rfl rfl rfl jdecsz27 jdecone_i64i64i64i64u32i64i64i64bbi64u32i64i64i64i64i64 (by show 17 ≤ 17; decide) (L' := [.row (.slice A58 ((encO (rdR l)).length) c58) 5 1 ((encO (rdR l)).length) (bv (encO (rdR l))), .blk g4 27 (rdR l).cells, .blk g2 27 (rdR l).cells]) rfl ?_
    refine TL.as_ ?_
    refine TL.end_ (TX.then_ (TC.ret_ ?_))
    exact ret_cell2 (k := 2) (v := .int .i64 0) Tryd.results19 rfl rfl rfl Tryd.underlying27 rfl rfl (fun w1 hw => ⟨by rw [(dec_ok (by omega) hx.1 hx.2).1, (dec_ok (by omega) hx.1 hx.2).2], hw.bel⟩)
   ·have hx : ¬ (chkR (rdR l) = 0 ∧ encO (rdR l) = l) := fun hh => absurd hh.2 (of_decide_eq_false h66)
    refine TL.gu ?_
    refine TL.val rfl rfl rfl (gives_boolnot rfl rfl) ?_
    refine TL.pk ?_
    refine TL.end_ (TX.then_ (TC.condT rfl (TC.seq_ (TC.region ?_))))
    refine TL.val rfl rfl rfl (gives_build (v := .agg #[.int .i64 0, .int .i64 0, .int .i64 0, .int .i64 0, .int .u32 0, .int .i64 0, .int .i64 0, .int .i64 0, .bool false, .bool false, .int .i64 0, .int .u32 0, .int .i64 0, .int .i64 0, .int .i64 0, .int .i64 0, .int .i64 0]) rfl rfl (fun w => jdecbld27_532  w)) ?_
    refine TL.pstore (k := 2) (vs := [.int .i64 0, .int .i64 0, .int .i64 0, .int .i64 0, .int .u32 0, .int .i64 0, .int .i64 0, .int .i64 0, .bool false, .bool false, .int .i64 0, .int .u32 0, .int .i64 0, .int .i64 0, .int .i64 0, .int .i64 0, .int .i64 0]) rfl rfl rfl rfl rfl rfl rfl jdecsz27 jdecone_i64i64i64i64u32i64i64i64bbi64u32i64i64i64i64i64 (by show 17 ≤ 17; decide) (L' := [.row (.slice A58 ((encO (rdR l)).length) c58) 5 1 ((encO (rdR l)).length) (bv (encO (rdR l))), .blk g4 27 (rdR l).cells, .blk g2 27 [.int .i64 0, .int .i64 0, .int .i64 0, .int .i64 0, .int .u32 0, .int .i64 0, .int .i64 0, .int .i64 0, .bool false, .bool false, .int .i64 0, .int .u32 0, .int .i64 0, .int .i64 0, .int .i64 0, .int .i64 0, .int .i64 0]]) rfl ?_
    refine TL.as_ ?_
    refine TL.end_ (TX.then_ (TC.ret_ (TX.then_ret ?_)))
    exact ret_cell2 (k := 2) (v := .int .i64 2) Tryd.results19 rfl rfl rfl Tryd.underlying27 rfl rfl (fun w1 hw => ⟨by rw [(dec_form (by omega) hx).1, (dec_form (by omega) hx).2]; rfl, hw.bel⟩)
end Go.Proofs.YtmeaeeehnkcblaaDoor

namespace Go.Proofs.YtmeaeeehnkcblaaDoor
open Go.RowKit
set_option maxRecDepth 20000
def W32 (x : Int) : Prop := 0 ≤ x ∧ x ≤ 4294967295
def addW (x y : Int) : Int := (x + y) % 4294967296
def xorW (x y : Int) : Int := bits .xor .u32 x y
def andW (x y : Int) : Int := bits .and .u32 x y
def orW (x y : Int) : Int := bits .or .u32 x y
def notW (x : Int) : Int := bits .xor .u32 4294967295 x
def shrW (x : Int) (n : Nat) : Int := x / 2 ^ n
def shlW (x : Int) (n : Nat) : Int := x * 2 ^ n % 4294967296
def rotW (x : Int) (n : Nat) : Int := orW (shlW x (32 - n)) (shrW x n)
def rotO (a b : Int) : Int := orW a b
theorem u32_bits (op : BinOp) (a b : Int) : W32 (bits op .u32 a b) := by
  unfold bits W32
  simp only [IntKind.wrap_u32]
  omega
theorem addW_w (x y : Int) : W32 (addW x y) := by unfold addW W32; omega
theorem rotW_w (x : Int) (n : Nat) : W32 (rotW x n) := u32_bits .or (shlW x (32 - n)) (shrW x n)
theorem bits_or_comm (a b : Int) : bits .or .u32 b a = rotO a b := by
  unfold rotO orW bits
  simp only [BitVec.or_comm]
end Go.Proofs.YtmeaeeehnkcblaaDoor

namespace Go.Proofs.YtmeaeeehnkcblaaDoor
open Go.RowKit
set_option maxRecDepth 20000
def w16 (b : List Int) (k : Nat) : List Int := (List.range k).map fun i => be ((b.drop (4 * i)).take 4)
def sig0 (x : Int) : Int := xorW (xorW (rotW x 7) (rotW x 18)) (shrW x 3)
def sig1 (x : Int) : Int := xorW (xorW (rotW x 17) (rotW x 19)) (shrW x 10)
def wNext (L : List Int) : Int := addW (addW (addW (L.getD (L.length - 16) 0) (sig0 (L.getD (L.length - 15) 0))) (L.getD (L.length - 7) 0)) (sig1 (L.getD (L.length - 2) 0))
def wList (b : List Int) : Nat → List Int
 | 0 => w16 b 16
 | k + 1 => wList b k ++ [wNext (wList b k)]
theorem w16_len (b : List Int) (k : Nat) : (w16 b k).length = k := by simp [w16]
theorem w16_succ (b : List Int) (k : Nat) : w16 b (k + 1) = w16 b k ++ [be ((b.drop (4 * k)).take 4)] := by simp [w16, List.range_succ]
theorem wList_len (b : List Int) (k : Nat) : (wList b k).length = 16 + k := by
 induction k with
 | zero => simp [wList, w16_len]
 | succ k ih => simp [wList, ih]; omega
theorem be_w32 (l : List Int) (h : Bs l) (hl : l.length ≤ 4) : W32 (be l) := by
 have := be_bd l h
 have h2 : (256 : Int) ^ l.length ≤ 4294967296 := by
  rcases (by omega : l.length = 0 ∨ l.length = 1 ∨ l.length = 2 ∨ l.length = 3 ∨ l.length = 4) with e | e | e | e | e <;> (rw [e]; decide)
 unfold W32; omega
def arrOf (L : List Int) : Array Value := ((L.map (Value.int .u32)) ++ List.replicate (64 - L.length) (Value.int .u32 0)).toArray
theorem arrOf_size (L : List Int) (h : L.length ≤ 64) : (arrOf L).size = 64 := by simp [arrOf]; omega
theorem arrOf_at (L : List Int) (i : Nat) (h : i < L.length) : (arrOf L)[i]? = some (.int .u32 (L.getD i 0)) := by
 unfold arrOf
 simp only [List.getElem?_toArray]
 rw [List.getElem?_append_left (by simpa using h)]
 simp [List.getElem?_map, List.getElem?_eq_getElem h, List.getD_eq_getElem?_getD]
theorem arrOf_grow (L : List Int) (h : L.length < 64) : arrOf L = arrOf (L ++ [0]) := by
 unfold arrOf
 congr 1
 rw [List.map_append, List.append_assoc]
 congr 1
 rw [show 64 - L.length = (64 - (L ++ [0]).length) + 1 by simp; omega, List.replicate_succ]
 rfl
theorem arrOf_set (L : List Int) (x y : Int) (h : L.length < 64) : (arrOf (L ++ [x])).setIfInBounds L.length (.int .u32 y) = arrOf (L ++ [y]) := by
 unfold arrOf
 simp only [List.setIfInBounds_toArray, List.map_append, List.map_cons, List.map_nil, List.append_assoc, List.length_append, List.length_singleton]
 congr 1
 rw [List.set_append_right _ _ (by simp)]
 simp
theorem or_byte (v x : Int) (h : 0 ≤ v) (h1 : v ≤ 16777215) (hx : 0 ≤ x) (hx1 : x ≤ 255) : bits .or .u32 (v * 256) x = v * 256 + x := by
 obtain ⟨a, rfl⟩ := Int.eq_ofNat_of_zero_le h
 obtain ⟨b, rfl⟩ := Int.eq_ofNat_of_zero_le hx
 have e1 : (BitVec.ofInt 32 ((a : Int) * 256)).toNat = a * 256 := by
  rw [BitVec.toNat_ofInt]; omega
 have e2 : (BitVec.ofInt 32 (b : Int)).toNat = b := by
  rw [BitVec.toNat_ofInt]; omega
 unfold bits
 simp only [IntKind.wrap_u32]
 show ((((BitVec.ofInt 32 ((a : Int) * 256)) ||| (BitVec.ofInt 32 (b : Int))).toNat : Nat) : Int) % 4294967296 = _
 rw [BitVec.toNat_or, e1, e2]
 have : a * 256 ||| b = a * 256 + b := by
  have := Nat.shiftLeft_add_eq_or_of_lt (i := 8) (b := b) (by omega) a
  rw [Nat.shiftLeft_eq] at this
  exact this.symm
 rw [this]; omega
theorem wNext_w (L : List Int) : W32 (wNext L) := addW_w _ _
theorem wList_all (b : List Int) (hb : Bs b) : ∀ k, ∀ x ∈ wList b k, W32 x
 | 0, x, hx => by
  simp only [wList, w16, List.mem_map] at hx
  obtain ⟨i, _, rfl⟩ := hx
  exact be_w32 _ ((hb.drop _).take _) (by simp; omega)
 | k + 1, x, hx => by
  simp only [wList, List.mem_append, List.mem_singleton] at hx
  rcases hx with hx | rfl
  ·exact wList_all b hb k x hx
  ·exact wNext_w _
theorem wList_w (b : List Int) (hb : Bs b) (k i : Nat) : W32 ((wList b k).getD i 0) := by
 rw [List.getD_eq_getElem?_getD]
 cases h : (wList b k)[i]? with
 | none => exact ⟨by decide, by decide⟩
 | some x => exact wList_all b hb k x (List.mem_of_getElem? h)
theorem arrOf_one (L : List Int) : (arrOf L).all (·.oneCell') = true := by
 unfold arrOf
 rw [Array.all_eq_true_iff_forall_mem]
 intro v hv
 simp only [List.mem_toArray, List.mem_append, List.mem_map, List.mem_replicate] at hv
 rcases hv with ⟨x, _, rfl⟩ | ⟨_, rfl⟩ <;> rfl
end Go.Proofs.YtmeaeeehnkcblaaDoor

namespace Go.Proofs.YtmeaeeehnkcblaaDoor
open Go.RowKit
set_option maxRecDepth 20000
def keysL : List Int := [1116352408, 1899447441, 3049323471, 3921009573, 961987163, 1508970993, 2453635748, 2870763221, 3624381080, 310598401, 607225278, 1426881987, 1925078388, 2162078206, 2614888103, 3248222580, 3835390401, 4022224774, 264347078, 604807628, 770255983, 1249150122, 1555081692, 1996064986, 2554220882, 2821834349, 2952996808, 3210313671, 3336571891, 3584528711, 113926993, 338241895, 666307205, 773529912, 1294757372, 1396182291, 1695183700, 1986661051, 2177026350, 2456956037, 2730485921, 2820302411, 3259730800, 3345764771, 3516065817, 3600352804, 4094571909, 275423344, 430227734, 506948616, 659060556, 883997877, 958139571, 1322822218, 1537002063, 1747873779, 1955562222, 2024104815, 2227730452, 2361852424, 2428436474, 2756734187, 3204031479, 3329325298]
theorem keysL_len : keysL.length = 64 := rfl
theorem keysL_w : ∀ x ∈ keysL, W32 x := by
 intro x hx
 have h : keysL.all (fun x => decide (0 ≤ x ∧ x ≤ 4294967295)) = true := by decide
 have h2 : 0 ≤ x ∧ x ≤ 4294967295 := of_decide_eq_true (List.all_eq_true.1 h x hx)
 exact h2
structure S8 where
 a : Int
 b : Int
 c : Int
 d : Int
 e : Int
 f : Int
 g : Int
 h : Int
def S8.Ok (s : S8) : Prop := W32 s.a ∧ W32 s.b ∧ W32 s.c ∧ W32 s.d ∧ W32 s.e ∧ W32 s.f ∧ W32 s.g ∧ W32 s.h
def t1F (s : S8) (k w : Int) : Int := addW (addW (addW (addW s.h (xorW (xorW (rotW s.e 6) (rotW s.e 11)) (rotW s.e 25))) (xorW (andW s.e s.f) (andW (notW s.e) s.g))) k) w
def t2F (s : S8) : Int := addW (xorW (xorW (rotW s.a 2) (rotW s.a 13)) (rotW s.a 22)) (xorW (xorW (andW s.a s.b) (andW s.a s.c)) (andW s.b s.c))
def roundF (s : S8) (k w : Int) : S8 := ⟨addW (t1F s k w) (t2F s), s.a, s.b, s.c, addW s.d (t1F s k w), s.e, s.f, s.g⟩
def roundsF (ws : List Int) (s : S8) : Nat → S8
 | 0 => s
 | i + 1 => roundF (roundsF ws s i) (keysL.getD i 0) (ws.getD i 0)
def sumS (s t : S8) : S8 := ⟨addW s.a t.a, addW s.b t.b, addW s.c t.c, addW s.d t.d, addW s.e t.e, addW s.f t.f, addW s.g t.g, addW s.h t.h⟩
def blockF (s : S8) (b : List Int) : S8 := sumS s (roundsF (wList b 48) s 64)
theorem roundF_ok (s : S8) (h : s.Ok) (k w : Int) : (roundF s k w).Ok := by
 obtain ⟨h1, h2, h3, h4, h5, h6, h7, h8⟩ := h
 exact ⟨addW_w _ _, h1, h2, h3, addW_w _ _, h5, h6, h7⟩
theorem roundsF_ok (ws : List Int) (s : S8) (h : s.Ok) : ∀ i, (roundsF ws s i).Ok
 | 0 => h
 | i + 1 => roundF_ok _ (roundsF_ok ws s h i) _ _
theorem sumS_ok (s t : S8) : (sumS s t).Ok := ⟨addW_w _ _, addW_w _ _, addW_w _ _, addW_w _ _, addW_w _ _, addW_w _ _, addW_w _ _, addW_w _ _⟩
def S8.cells (s : S8) : Array Value := #[.int .u32 s.a, .int .u32 s.b, .int .u32 s.c, .int .u32 s.d, .int .u32 s.e, .int .u32 s.f, .int .u32 s.g, .int .u32 s.h]
def S8.list (s : S8) : List Int := [s.a, s.b, s.c, s.d, s.e, s.f, s.g, s.h]
end Go.Proofs.YtmeaeeehnkcblaaDoor

namespace Go.Proofs.YtmeaeeehnkcblaaDoor
open Go.RowKit
set_option maxRecDepth 20000
def padZ (n : Nat) : Nat := (119 - n % 64) % 64
theorem padZ_mod (n : Nat) : (n + 1 + padZ n) % 64 = 56 := by unfold padZ; omega
theorem padZ_lt (n z : Nat) (h : z < padZ n) : (n + 1 + z) % 64 ≠ 56 := by unfold padZ at h; omega
theorem padZ_le (n : Nat) : padZ n ≤ 63 := by unfold padZ; omega
def padv (l : List Int) (z : Nat) : List Int := l ++ 128 :: List.replicate z 0
theorem padv_len (l : List Int) (z : Nat) : (padv l z).length = l.length + 1 + z := by simp [padv]; omega
theorem padv_succ (l : List Int) (z : Nat) : bv (padv l z) ++ [Value.int .u8 0] = bv (padv l (z + 1)) := by
 simp [padv, bv, List.replicate_succ']
theorem padv_bs (l : List Int) (z : Nat) (h : Bs l) : Bs (padv l z) := by
 intro x hx
 simp only [padv, List.mem_append, List.mem_cons, List.mem_replicate] at hx
 rcases hx with h1 | rfl | ⟨_, rfl⟩
 ·exact h x h1
 ·omega
 ·omega
def lenW (n : Nat) : Int := IntKind.u64.wrap ((n : Int) * 8)
def lenB (n j : Nat) : List Int := (List.range j).map fun i => IntKind.u8.wrap (lenW n / 2 ^ (56 - 8 * i))
theorem lenB_succ (n j : Nat) : bv (lenB n (j + 1)) = bv (lenB n j) ++ [Value.int .u8 (IntKind.u8.wrap (lenW n / 2 ^ (56 - 8 * j)))] := by simp [lenB, bv, List.range_succ]
theorem lenB_len (n j : Nat) : (lenB n j).length = j := by simp [lenB]
theorem lenB_bs (n j : Nat) : Bs (lenB n j) := by
 intro x hx
 simp only [lenB, List.mem_map] at hx
 obtain ⟨i, _, rfl⟩ := hx
 simp only [IntKind.wrap_u8]
 omega
def padF (l : List Int) : List Int := padv l (padZ l.length) ++ lenB l.length 8
theorem padF_len (l : List Int) : (padF l).length = l.length + 1 + padZ l.length + 8 := by simp [padF, padv_len, lenB_len]
theorem padF_bs (l : List Int) (h : Bs l) : Bs (padF l) := (padv_bs l _ h).app (lenB_bs _ _)
def foldB (b : List Int) (s : S8) : Nat → S8
 | 0 => s
 | k + 1 => blockF (foldB b s k) ((b.drop (64 * k)).take 64)
theorem foldB_ok (b : List Int) (s : S8) (h : s.Ok) : ∀ k, (foldB b s k).Ok
 | 0 => h
 | k + 1 => sumS_ok _ _
def start8 : S8 := ⟨1779033703, 3144134277, 1013904242, 2773480762, 1359893119, 2600822924, 528734635, 1541459225⟩
theorem start8_ok : start8.Ok := by unfold S8.Ok W32 start8; decide
def word4 (x : Int) : List Int := [IntKind.u8.wrap (x / 16777216), IntKind.u8.wrap (x / 65536), IntKind.u8.wrap (x / 256), IntKind.u8.wrap x]
def outB (s : S8) : Nat → List Int
 | 0 => []
 | j + 1 => outB s j ++ word4 (s.list.getD j 0)
theorem outB_len (s : S8) (j : Nat) : (outB s j).length = 4 * j := by
 induction j with
 | zero => rfl
 | succ j ih => simp [outB, ih, word4]; omega
theorem outB_succ (s : S8) (j : Nat) : bv (outB s j) ++ bv (word4 (s.list.getD j 0)) = bv (outB s (j + 1)) := by simp [outB, bv]
theorem word4_bs (x : Int) : Bs (word4 x) := by
 intro y hy
 simp only [word4, List.mem_cons, List.not_mem_nil, or_false, IntKind.wrap_u8] at hy
 omega
theorem outB_bs (s : S8) (j : Nat) : Bs (outB s j) := by
 induction j with
 | zero => exact Bs.nil
 | succ j ih => exact ih.app (word4_bs _)
def shaF (l : List Int) : List Int := outB (foldB (padF l) start8 ((padF l).length / 64)) 8
theorem shaF_len (l : List Int) : (shaF l).length = 32 := outB_len _ _
theorem shaF_bs (l : List Int) : Bs (shaF l) := outB_bs _ _
end Go.Proofs.YtmeaeeehnkcblaaDoor

namespace Go.Proofs.YtmeaeeehnkcblaaDoor
open Go.RowKit
set_option maxRecDepth 20000
def macKey (k : List Int) : List Int := if k.length > 64 then shaF k else k
theorem macKey_le (k : List Int) : (macKey k).length ≤ 64 := by
 unfold macKey; split
 ·rw [shaF_len]; omega
 ·omega
theorem macKey_bs (k : List Int) (h : Bs k) : Bs (macKey k) := by
 unfold macKey; split
 ·exact shaF_bs k
 ·exact h
def padK (k : List Int) : List Int := k ++ List.replicate (64 - k.length) 0
theorem padK_len (k : List Int) (h : k.length ≤ 64) : (padK k).length = 64 := by simp [padK]; omega
theorem padK_at (k : List Int) {i : Nat} {y : Int} (h : k[i]? = some y) : (padK k).getD i 0 = y := by
 have hlt := (List.getElem?_eq_some_iff.1 h).1
 simp [padK, List.getD_eq_getElem?_getD, List.getElem?_append_left hlt, h]
theorem padK_out (k : List Int) {i : Nat} (h : k.length ≤ i) : (padK k).getD i 0 = 0 := by
 simp only [padK, List.getD_eq_getElem?_getD, List.getElem?_append_right h, List.getElem?_replicate]
 split <;> rfl
theorem padK_bs (k : List Int) (h : Bs k) : Bs (padK k) := by
 refine h.app fun x hx => ?_
 have := (List.mem_replicate.1 hx).2
 omega
def xorL (k : List Int) (c : Int) : List Int := k.map fun x => bits .xor .u8 x c
theorem xorL_len (k : List Int) (c : Int) : (xorL k c).length = k.length := by simp [xorL]
theorem xorL_bs (k : List Int) (c : Int) : Bs (xorL k c) := by
 intro x hx
 simp only [xorL, List.mem_map] at hx
 obtain ⟨y, _, rfl⟩ := hx
 unfold bits
 simp only [IntKind.wrap_u8]
 omega
theorem xorL_at (k : List Int) (c : Int) {i : Nat} (h : i < k.length) : (xorL k c)[i]? = some (bits .xor .u8 (k.getD i 0) c) := by
 simp [xorL, List.getElem?_map, List.getElem?_eq_getElem h, List.getD_eq_getElem?_getD]
def macF (k d : List Int) : List Int := shaF (xorL (padK (macKey k)) 92 ++ shaF (xorL (padK (macKey k)) 54 ++ d))
theorem macF_len (k d : List Int) : (macF k d).length = 32 := shaF_len _
theorem macF_bs (k d : List Int) : Bs (macF k d) := shaF_bs _
def arr64 (q : List Int) (i : Nat) : List Value := bv (q.take i) ++ List.replicate (64 - i) (.int .u8 0)
theorem arr64_zero (q : List Int) : List.replicate 64 (Value.int .u8 0) = arr64 q 0 := by simp [arr64, bv]
theorem arr64_len (q : List Int) (hq : q.length = 64) {i : Nat} (h : i ≤ 64) : (arr64 q i).length = 64 := by simp [arr64, bv]; omega
theorem arr64_all (q : List Int) (hq : q.length = 64) : arr64 q 64 = bv q := by simp [arr64, List.take_of_length_le (Nat.le_of_eq hq)]
theorem arr64_put (q : List Int) (hq : q.length = 64) {i : Nat} {x : Int} (h : q[i]? = some x) : (arr64 q i).take (0 + i) ++ [Value.int .u8 x] ++ (arr64 q i).drop (0 + i + 1) = arr64 q (i + 1) := by
 have hlt : i < 64 := by rw [← hq]; exact (List.getElem?_eq_some_iff.1 h).1
 have hl : (bv (q.take i)).length = i := by simp [bv]; omega
 unfold arr64
 rw [Nat.zero_add, List.take_append_of_le_length (by omega), List.take_of_length_le (by omega), List.drop_append, List.drop_of_length_le (by omega), hl, List.drop_replicate, List.take_add_one, h]
 simp only [List.nil_append, bv, List.map_append, Option.toList_some, List.map_cons, List.map_nil]
 rw [show 64 - i - (i + 1 - i) = 64 - (i + 1) by omega]
end Go.Proofs.YtmeaeeehnkcblaaDoor

namespace Go.Proofs.YtmeaeeehnkcblaaDoor
open Go.RowKit
theorem Reads.ad {w : World} {B size n : Nat} {A : Option Addr} {xs : List Value} (h : Reads w B size A n xs) (hn : 0 < n) (hs : 0 < size) : ∃ b o, A = some ⟨b, o, none⟩ ∧ b < B ∧ ∀ (j : Nat) (u : Value), xs[j]? = some u → w.cell? ⟨b, o + j, none⟩ = some u := by
 obtain ⟨⟨b, o, sp⟩, hA, hb, hc⟩ := h.2 hn
 have hl : 0 < xs.length := by rw [h.1]; exact Nat.mul_pos hn hs
 have hsp : sp = none := by
  have := hc 0 xs[0] (List.getElem?_eq_getElem hl)
  simpa [Addr.add] using World.cell?_spot this
 subst hsp
 refine ⟨b, o, hA, hb, fun j u hu => ?_⟩
 have e : (⟨b, o, none⟩ : Addr).add j = ⟨b, o + j, none⟩ := by unfold Addr.add; split <;> simp_all
 rw [← e]
 exact hc j u hu
section
variable {P : Program} {N : Fr} {Q : Exit → Act → World → Prop} {E : Env} {w0 : Base} {L : List Pc} {ops : Array Oper} {l : List Oper} {o : Oper} {I : World → Prop}
theorem at_el {t e : TypeId} {size : Nat} (ht : P.underlying t = some (.slice e)) (hs : ∀ w : World, (sizeOf e).run P w = .ok size w) {A : Option Addr} {b off : Nat} (hA : A = some ⟨b, off, none⟩) (n c i : Nat) (hi : i < n) {z : Int} (hz : z = (i : Int)) (w : World) :
  (Instr.indexAt t (.slice A n c) (.int .i64 z)).run P w = .ok (.pointer (some ⟨b, off + i * size, none⟩)) w := by
 subst hA hz
 have h1 : (0 : Int) ≤ (i : Int) ∧ (i : Int) < n := by omega
 have hadd : (⟨b, off, none⟩ : Addr).add (i * size) = ⟨b, off + i * size, none⟩ := by unfold Addr.add; split <;> simp_all
 simp [Instr.indexAt, run_underlying ht, asIntOf, hs, h1, hadd, go_sem]
 try (intro hh; exact absurd hh (by omega))
theorem append_types {t u e e' : TypeId} (ht : P.underlying t = some (.slice e)) (hu : P.underlying u = some (.slice e')) (ty : TypeId) (vs : Array Value) (w : World) : (Builtin.append_ #[t, u] ty vs).run P w = (Builtin.append_ #[t, t] ty vs).run P w := by
 unfold Builtin.append_
 cases h0 : vs[0]? with
 | none => simp [h0]
 | some s =>
  cases h1 : vs[1]? with
  | none => simp [h0, h1]
  | some x =>
   cases s <;> simp [h0, h1, Sem.run_bind, run_underlying ht, run_underlying hu]
theorem TL.appendT {d k : Nat} {s x : Operand} {t u e e' : TypeId} {size bytes n c m cc : Nat} {A0 A : Option Addr} {olds news : List Value} (hg : o.guard = none) (hd : o.dst = some d) (hN : Nat.blt d N.n = true)
  (ho : o.op = .call { callee := .builtin .append, args := #[s, x], argTypes := #[t, u] }) (hu : P.underlying u = some (.slice e')) (hE : Elem P t e size bytes) (hs : ev E s = some (.slice A0 n c)) (hx : ev E x = some (.slice A m cc))
  (hk : L[k]? = some (.row (.slice A0 n c) e size n olds)) (hr : ∀ w, Pm w0 L w → ∃ B, Reads w B size A m news) (h1 : ∀ u ∈ news, u.oneCell' = true) (hlim : (n + m) * bytes ≤ 140737488355328) (M : Nat) (hM : M = n + m) (res : List Value) (hres : olds ++ news = res)
  (h : ∀ A' c', M ≤ c' → c' ≤ maxLen → TL P N ops Q l ((d, .slice A' M c') :: E) (Pm w0 (L.set k (.row (.slice A' M c') e size M res)))) : TL P N ops Q (o :: l) E (Pm w0 L) := by
 subst hM hres
 refine TL.run (α := { p : Option Addr × Nat // n + m ≤ p.2 ∧ p.2 ≤ maxLen }) (r := fun p => .slice p.1.1 (n + m) p.1.2) (I' := fun p => Pm w0 (L.set k (.row (.slice p.1.1 (n + m) p.1.2) e size (n + m) (olds ++ news)))) hg hd hN (fun a w ha hw => ?_) (fun p => h p.1.1 p.1.2 p.2.1 p.2.2)
 obtain ⟨i, z, hi, hz, hsz, hby, hzs⟩ := hE.info
 obtain ⟨B, hrd⟩ := hr w hw
 have hmx : n + m ≤ maxLen := by
  have : n + m ≤ (n + m) * bytes := Nat.le_mul_of_pos_right _ hE.big
  unfold maxLen; omega
 obtain ⟨v', w', hrun, hown', hgr, hkey⟩ := run_append_any (P := P) w w0.b t o.type e i z size bytes hE.und hi hz hsz hby hzs hE.pos _ n olds (hw.at_ hk) B A m cc news hrd h1 hmx hlim hw.base
 rw [← append_types hE.und hu] at hrun
 obtain ⟨A', c', rfl, hc1, hc2⟩ := own_shape hown'
 refine ⟨⟨(A', c'), hc1, hc2⟩, w', ?_, hw.turn hk hgr hown' (fun g hg => ?_) (fun k o e => ?_)⟩
 ·unfold execOp; rw [ho]
  simp only [resolve, invoke, builtin, Sem.run_bind, Sem.run_pure, Result.andThen_ok, List.map_toArray, List.map_cons, List.map_nil, ha.eval hs, ha.eval hx, hrun]
 ·rcases hkey with hkey | hkey
  ·exact .inl (hkey.symm.trans hg)
  ·right
   have : (Value.slice A' (n + m) c').ownBlock = some g := hg
   rw [hkey] at this
   injection this with this
   omega
 ·cases e
/-! guards in a quiet drawn region -/
theorem TQ.on {R : Act → Prop} {j d : Nat} {b : Bool} (hg : o.guard = some (j, b)) (hd : (ops[j]?).bind (·.dst) = some d) (hE : look E d = some (.bool b)) (h : TQ P N ops R ({ o with guard := none } :: l) E I) : TQ P N ops R (o :: l) E I := fun a ha => by
 have hw1 := wanted_of ha hg hd hE
 have := h a ha
 unfold wpQuiet at this ⊢
 rw [if_pos (by simp [Region.wanted])] at this
 rw [if_pos (by simp [hw1])]
 exact this
theorem TQ.off {R : Act → Prop} {j d t : Nat} {b b' : Bool} (hg : o.guard = some (j, b')) (hd : (ops[j]?).bind (·.dst) = some d) (hE : look E d = some (.bool b)) (hne : (b == b') = false) (ht : o.dst = some t) (hN : Nat.blt t N.n = true) (h : TQ P N ops R l ((t, undef) :: E) I) : TQ P N ops R (o :: l) E I := fun a ha => by
 have hw1 := wanted_of ha hg hd hE
 unfold wpQuiet
 rw [if_neg (by rw [hw1, hne]; decide), ht]
 exact h _ (ha.put t undef (by simpa [Nat.blt_eq] using hN))
theorem TQ.offU {R : Act → Prop} {j d t : Nat} {b' : Bool} (hg : o.guard = some (j, b')) (hd : (ops[j]?).bind (·.dst) = some d) (hE : look E d = some undef) (ht : o.dst = some t) (hN : Nat.blt t N.n = true) (h : TQ P N ops R l ((t, undef) :: E) I) : TQ P N ops R (o :: l) E I := fun a ha => by
 have h1 : yielded ops a.tmps j = none := by
  have := ha.slot d _ hE
  simp [yielded, hd, this, undef]
 have hw1 : Region.wanted o (yielded ops a.tmps) = false := by
  unfold Region.wanted
  rw [hg]
  simp [h1]
 unfold wpQuiet
 rw [if_neg (by rw [hw1]; decide), ht]
 exact h _ (ha.put t undef (by simpa [Nat.blt_eq] using hN))
theorem gives_loadR {t : TypeId} {x : Operand} {b off size : Nat} {cs : List Value} (ho : o.op = .load t x) (hx : ev E x = some (.pointer (some ⟨b, off, none⟩))) (hag : ∀ w : World, (isAgg t).run P w = .ok true w) (hs : ∀ w : World, (sizeOf t).run P w = .ok size w) (hlen : cs.length = size)
  (hc : ∀ w, I w → ∀ (j : Nat) (u : Value), cs[j]? = some u → w.cell? ⟨b, off + j, none⟩ = some u) : Gives P N o E I (.agg cs.toArray) := fun a w ha hw => by
 unfold execOp; rw [ho]
 simp only [ha.eval hx]
 have hl := run_loadCells_list (P := P) w ⟨b, off, none⟩ cs (fun j v hj => by
  have hadd : (⟨b, off, none⟩ : Addr).add j = ⟨b, off + j, none⟩ := by unfold Addr.add; split <;> simp_all
  rw [hadd]
  exact hc w hw j v hj)
 rw [hlen] at hl
 simp only [Instr.loadAt, Instr.sureAddr, Sem.run_bind, Sem.run_pure, Result.andThen_ok, loadVar, hag, hs, hl, if_true]
end
end Go.Proofs.YtmeaeeehnkcblaaDoor

namespace Go.Proofs.YtmeaeeehnkcblaaDoor
open Go.RowKit
set_option maxRecDepth 20000
def zeroL (m : Nat) : List Int := List.replicate m 0
theorem zeroL_bs (m : Nat) : Bs (zeroL m) := by
 intro x hx
 have := (List.mem_replicate.1 hx).2
 omega
theorem zeroCells1 (v : Value) (hv : v.cells = #[v]) (m : Nat) : (Builtin.zeroCells v.cells m).toList = List.replicate m v := by
 rw [hv]
 simp only [Builtin.zeroCells, List.size_toArray, List.length_singleton, Nat.mul_one, Array.toList_map, Array.toList_range]
 refine List.ext_getElem (by simp) fun i h1 h2 => ?_
 simp [Nat.mod_one]
theorem zero_cells (m : Nat) : (Builtin.zeroCells (Value.int .u8 0).cells m).toList = bv (zeroL m) := by
 rw [zeroCells1 _ rfl]; simp [bv, zeroL]
theorem zero_one : ∀ k, ∀ u ∈ (Builtin.zeroCells (Value.int .u8 0).cells k).toList, u.oneCell' = true := by
 intro k u hu
 rw [zeroCells1 _ rfl] at hu
 rw [(List.mem_replicate.1 hu).2]; rfl
theorem bv_append (a b : List Int) : bv (a ++ b) = bv a ++ bv b := by simp [bv]
structure Sl where
 A : Option Addr
 n : Nat
 c : Nat
 l : List Int
abbrev Sl.val (s : Sl) : Value := .slice s.A s.n s.c
def sumN (ss : List Sl) (k : Nat) : Nat := ((ss.take k).map (·.n)).sum
def catL (ss : List Sl) (k : Nat) : List Int := (ss.take k).flatMap (·.l)
theorem sumN_succ {ss : List Sl} {i : Nat} {s : Sl} (h : ss[i]? = some s) : sumN ss (i + 1) = sumN ss i + s.n := by
 unfold sumN; rw [List.take_add_one, h]; simp
theorem catL_succ {ss : List Sl} {i : Nat} {s : Sl} (h : ss[i]? = some s) : catL ss (i + 1) = catL ss i ++ s.l := by
 unfold catL; rw [List.take_add_one, h]; simp
theorem sumN_le (ss : List Sl) (i : Nat) : sumN ss i ≤ sumN ss ss.length := by
 have h : ss.map (·.n) = (ss.take i).map (·.n) ++ (ss.drop i).map (·.n) := by rw [← List.map_append, List.take_append_drop]
 unfold sumN
 rw [List.take_length, h, List.sum_append]
 omega
theorem concat_at {w : World} {B g K : Nat} {ss : List Sl} (hs : Reads w B 1 (some ⟨g, 0, none⟩) K (ss.map Sl.val)) (hb : ∀ s ∈ ss, Byt w B s.A s.n s.l) {i : Nat} (hi : i < K) :
  ∃ s, ss[i]? = some s ∧ w.cell? ⟨g, 0 + i, none⟩ = some s.val ∧ g < B ∧ Byt w B s.A s.n s.l := by
 have hlen : ss.length = K := by have := hs.1; simpa using this
 obtain ⟨ad, hA, hg, hc⟩ := hs.2 (by omega)
 cases hA
 refine ⟨ss[i], List.getElem?_eq_getElem (by omega), ?_, hg, hb _ (List.getElem_mem _)⟩
 have := hc i (ss[i]).val (by rw [List.getElem?_map, List.getElem?_eq_getElem (by omega)]; rfl)
 rw [← this]
 congr 1
 unfold Addr.add; split <;> simp_all
theorem at_s60 (g off n c j : Nat) (hj : j < n) (w : World) : (Instr.indexAt 40 (.slice (some ⟨g, off, none⟩) n c) (.int .i64 (j : Int))).run Tryd.prog w = .ok (.pointer (some ⟨g, off + j, none⟩)) w := by
 have hs : ∀ w : World, (sizeOf 28).run Tryd.prog w = .ok 1 w := fun w => rfl
 have h1 : (0 : Int) ≤ (j : Int) ∧ (j : Int) < n := by omega
 have hadd : (⟨g, off, none⟩ : Addr).add j = ⟨g, off + j, none⟩ := by unfold Addr.add; split <;> simp_all
 simp [Instr.indexAt, run_underlying Tryd.underlying40, asIntOf, hs, h1, hadd, go_sem]
 try (intro hh; exact absurd hh (by omega))
theorem nmGrow : (Tryd.f73.name == "runtime.NumGoroutine") = false := by decide
theorem bdGrow : Tryd.f73.body.isNone = false := rfl
theorem grow_nil (n : Nat) (w : World) (hlim : n ≤ 140737488355328) :
  Calls Tryd.prog 73 #[.slice none 0 0, .int .i64 (n : Int)] w fun e w' => ∃ A c, e = .returned (.slice A 0 c) ∧ n ≤ c ∧ c ≤ maxLen ∧ w'.ownsRow w.heap.size 5 1 (.slice A 0 c) 0 [] ∧ Below w.heap.size w w' := by
 refine begin_ (vs := [.slice none 0 0, .int .i64 (n : Int)]) Tryd.func73 rfl rfl rfl ?_ (Pm.start w)
 refine TC.seq_ (TC.region ?_)
 refine TL.as_ ?_
 refine TL.end_ (TX.then_ (TC.seq_ (TC.seq_ (TC.region ?_))))
 refine TL.mv ?_
 refine TL.val rfl rfl rfl (gives_bin rfl rfl rfl (fun w => bin_lss w)) ?_
 refine TL.end_ (TX.then_ ?_)
 refine TC.split rfl (fun hc6 => ?_) (fun hc6 => ?_)
 ·exact absurd (of_decide_eq_true hc6) (by omega)
 ·refine TC.skip_ (TX.then_ (TC.seq_ (TC.seq_ (TC.region ?_))))
  refine TL.mv ?_
  refine TL.mv ?_
  refine TL.val rfl rfl rfl (gives_cap rfl Tryd.underlying28 rfl) ?_
  refine TL.mv ?_
  refine TL.val rfl rfl rfl (gives_len rfl Tryd.underlying28 rfl) ?_
  refine TL.val rfl rfl rfl (gives_bin rfl rfl rfl (fun w => bin_sub_ (r := 0) rfl w)) ?_
  refine TL.val rfl rfl rfl (gives_bin rfl rfl rfl (fun w => bin_sub_ (r := (n : Int)) (by simp only [IntKind.wrap_i64]; omega) w)) ?_
  refine TL.as_ ?_
  refine TL.end_ (TX.then_ (TC.seq_ (TC.region ?_)))
  refine TL.mv ?_
  refine TL.val rfl rfl rfl (gives_bin rfl rfl rfl (fun w => bin_gtr w)) ?_
  refine TL.end_ (TX.then_ ?_)
  refine TC.split rfl (fun hc16 => ?_) (fun hc16 => ?_)
  ·refine TC.region ?_
   refine TL.mv ?_
   refine TL.mv ?_
   refine TL.val rfl rfl rfl (gives_cap rfl Tryd.underlying28 rfl) ?_
   refine TL.nilrow 5 1 ?_
   refine TL.rowhead (k := 0) (hi := 0) (xs' := []) rfl rfl rfl rfl rfl rfl Tryd.underlying28 (fun w => rfl) rfl (Nat.le_refl _) (Nat.le_refl _) rfl ?_
   refine TL.mv ?_
   refine TL.zeros (k := 0) (m := n) rfl rfl rfl rfl elU8 Tryd.underlying3 rfl rfl rfl (z := .int .u8 0) (by kernel_rfl) (zs := bv (zeroL n)) (zero_cells n) zero_one (by rw [Nat.mul_one]; omega) n (by omega) (fun A2 c2 hA21 hA22 => ?_)
   refine TL.mv ?_
   refine TL.val rfl rfl rfl (gives_len rfl Tryd.underlying28 rfl) ?_
   refine TL.rowhead (k := 0) (hi := 0) (xs' := []) rfl rfl rfl rfl rfl rfl Tryd.underlying28 (fun w => rfl) rfl (Nat.zero_le _) hA21 rfl ?_
   refine TL.as_ ?_
   refine TL.end_ (TX.then_ (TC.seq_ (TC.region ?_)))
   refine TL.mv ?_
   refine TL.as_ ?_
   refine TL.end_ (TX.then_ (TC.ret_ ?_))
   exact pm_ret_row (k := 0) Tryd.results73 rfl rfl (fun w1 hown hbel => ⟨A2, c2, rfl, hA21, hA22, hown, hbel⟩)
  ·have hn0 : n = 0 := by have := of_decide_eq_false hc16; omega
   subst hn0
   refine TC.skip_ (TX.then_ (TC.seq_ (TC.region ?_)))
   refine TL.mv ?_
   refine TL.as_ ?_
   refine TL.end_ (TX.then_ (TC.ret_ ?_))
   refine TX.nilrow 5 1 ?_
   exact pm_ret_row (k := 0) Tryd.results73 rfl rfl (fun w1 hown hbel => ⟨none, 0, rfl, Nat.le_refl _, Nat.zero_le _, hown, hbel⟩)
theorem concat_any (ss : List Sl) (g K c : Nat) (w : World) (hs : Reads w w.heap.size 1 (some ⟨g, 0, none⟩) K (ss.map Sl.val)) (hb : ∀ s ∈ ss, Byt w w.heap.size s.A s.n s.l) (hlim : sumN ss K ≤ 140737488355328) (hK : K ≤ 1000000) :
  Calls Tryd.prog 58 #[.slice (some ⟨g, 0, none⟩) K c] w fun e w' => ∃ A' c', e = .returned (.slice A' (sumN ss K) c') ∧ sumN ss K ≤ c' ∧ c' ≤ maxLen ∧ w'.ownsRow w.heap.size 5 1 (.slice A' (sumN ss K) c') (sumN ss K) (bv (catL ss K)) ∧ Below w.heap.size w w' := by
 have hlen : ss.length = K := by have := hs.1; simpa using this
 have hle0 := sumN_le ss K
 have hall : ∀ i, sumN ss i ≤ sumN ss K := fun i => hlen ▸ sumN_le ss i
 refine begin_ (vs := [.slice (some ⟨g, 0, none⟩) K c]) Tryd.func58 rfl rfl rfl ?_ (Pm.start w)
 refine TC.seq_ (TC.region ?_)
 refine TL.as_ ?_
 refine TL.end_ (TX.then_ (TC.seq_ (TC.region ?_)))
 refine TL.as_ ?_
 refine TL.end_ (TX.then_ (TC.seq_ (TC.seq_ (TC.region ?_))))
 refine TL.mv ?_
 refine TL.val rfl rfl rfl (gives_len rfl Tryd.underlying40 rfl) ?_
 refine TL.mv ?_
 refine TL.end_ (TX.then_ (TC.block ?_))
 refine TC.loop_ (α := {i : Nat // i ≤ K}) (fun x => [(0, .slice (some ⟨g, 0, none⟩) K c), (9, .slice (some ⟨g, 0, none⟩) K c), (10, .int .i64 (K : Int)), (11, .int .i64 (x.1 : Int)), (3, .int .i64 ((sumN ss x.1 : Nat) : Int))]) (fun x => Pm w []) (fun x => K - x.1) (⟨0, Nat.zero_le _⟩) ⟨rfl, rfl, rfl, rfl, rfl, trivial⟩ (fun w hw => hw) ?_
 rintro ⟨i, hi⟩
 dsimp only at hi ⊢
 refine TC.seq_ (TC.region ?_)
 refine TL.val rfl rfl rfl (gives_bin rfl rfl rfl (fun w => bin_lss w)) ?_
 refine TL.end_ (TX.then_ (TC.seq_ ?_))
 refine TC.split rfl (fun hc12 => ?_) (fun hc12 => ?_)
 ·have hi2 : i < K := by have := of_decide_eq_true hc12; omega
  obtain ⟨⟨sA, sn, sc, sl⟩, hsi, hcell, hg, hbs⟩ := concat_at hs hb hi2
  have hsum := sumN_succ hsi
  dsimp only [Sl.val] at hcell hbs hsum
  have hle := hall (i + 1)
  refine TC.skip_ (TX.then_ (TC.seq_ (TC.block (TC.seq_ (TC.region ?_)))))
  refine TL.val rfl rfl rfl (gives_at rfl rfl rfl (fun w => at_s60 g 0 K c i hi2 w)) ?_
  refine TL.val rfl rfl rfl (gives_load rfl rfl (fun w => rfl) (fun w1 hw => (hw.bel.cell (p := ⟨g, 0 + i, none⟩) hg).trans hcell)) ?_
  refine TL.as_ ?_
  refine TL.end_ (TX.then_ (TC.seq_ (TC.region ?_)))
  refine TL.mv ?_
  refine TL.mv ?_
  refine TL.val rfl rfl rfl (gives_len rfl Tryd.underlying28 rfl) ?_
  refine TL.val rfl rfl rfl (gives_bin rfl rfl rfl (fun w => bin_add_ (r := ((sumN ss (i + 1) : Nat) : Int)) (by rw [hsum]; simp only [IntKind.wrap_i64]; omega) w)) ?_
  refine TL.as_ ?_
  refine TL.end_ (TX.then_ (TC.seq_ (TC.region ?_)))
  refine TL.mv ?_
  refine TL.val rfl rfl rfl (gives_bin rfl rfl rfl (fun w => bin_lss w)) ?_
  refine TL.end_ (TX.then_ ?_)
  refine TC.split rfl (fun hc20 => ?_) (fun hc20 => ?_)
  ·exact absurd (of_decide_eq_true hc20) (by omega)
  ·refine TC.skip_ (TX.in_normal (TX.then_ (TC.region ?_)))
   refine TL.val rfl rfl rfl (gives_bin rfl rfl rfl (fun w => bin_add_ (r := ((i + 1 : Nat) : Int)) (by simp only [IntKind.wrap_i64]; omega) w)) ?_
   refine TL.mv ?_
   refine TL.end_ ?_
   exact TX.round (⟨i + 1, hi2⟩) (by show K - (i + 1) < K - i; omega) ⟨rfl, rfl, rfl, rfl, rfl, trivial⟩ (fun w hw => hw)
 ·have hi2 : K = i := by have := of_decide_eq_false hc12; omega
  subst hi2
  refine TC.exit_ (TX.then_exit (TX.then_exit (TX.in_same (TX.then_ (TC.seq_ (TC.region ?_))))))
  refine TL.mv ?_
  refine TL.pcallRow (n := 0) (ys := []) rfl rfl rfl rfl rfl Tryd.func73 nmGrow bdGrow (fun w1 hw => (grow_nil (sumN ss K) w1 (by omega)).mono fun e w2 ⟨A1, c1, h1, h2, h3, h4, h5⟩ => ⟨A1, c1, h1, Nat.zero_le _, h3, h4, h5⟩) (fun A1 c1 hA11 hA12 => ?_)
  refine TL.as_ ?_
  refine TL.end_ (TX.then_ (TC.seq_ (TC.seq_ (TC.region ?_))))
  refine TL.mv ?_
  refine TL.val rfl rfl rfl (gives_len rfl Tryd.underlying40 rfl) ?_
  refine TL.mv ?_
  refine TL.end_ (TX.then_ (TC.block ?_))
  refine TC.loop_ (α := {x : Nat × Option Addr × Nat // x.1 ≤ K ∧ sumN ss x.1 ≤ x.2.2 ∧ x.2.2 ≤ maxLen}) (fun x => [(25, .slice (some ⟨g, 0, none⟩) K c), (26, .int .i64 (K : Int)), (27, .int .i64 (x.1.1 : Int)), (6, .slice x.1.2.1 (sumN ss x.1.1) x.1.2.2)]) (fun x => Pm w [.row (.slice x.1.2.1 (sumN ss x.1.1) x.1.2.2) 5 1 (sumN ss x.1.1) (bv (catL ss x.1.1))]) (fun x => K - x.1.1) (⟨(0, A1, c1), Nat.zero_le _, Nat.zero_le _, hA12⟩) ⟨rfl, rfl, rfl, rfl, trivial⟩ (fun w hw => hw) ?_
  rintro ⟨⟨i, A2, c2⟩, hi, hcc⟩
  dsimp only at hi hcc ⊢
  refine TC.seq_ (TC.region ?_)
  refine TL.val rfl rfl rfl (gives_bin rfl rfl rfl (fun w => bin_lss w)) ?_
  refine TL.end_ (TX.then_ (TC.seq_ ?_))
  refine TC.split rfl (fun hc28 => ?_) (fun hc28 => ?_)
  ·have hi2 : i < K := by have := of_decide_eq_true hc28; omega
   obtain ⟨⟨sA, sn, sc, sl⟩, hsi, hcell, hg, hbs⟩ := concat_at hs hb hi2
   have hsum := sumN_succ hsi
   dsimp only [Sl.val] at hcell hbs hsum
   have hle := hall (i + 1)
   refine TC.skip_ (TX.then_ (TC.seq_ (TC.block (TC.seq_ (TC.region ?_)))))
   refine TL.val rfl rfl rfl (gives_at rfl rfl rfl (fun w => at_s60 g 0 K c i hi2 w)) ?_
   refine TL.val rfl rfl rfl (gives_load rfl rfl (fun w => rfl) (fun w1 hw => (hw.bel.cell (p := ⟨g, 0 + i, none⟩) hg).trans hcell)) ?_
   refine TL.as_ ?_
   refine TL.end_ (TX.then_ (TC.region ?_))
   refine TL.mv ?_
   refine TL.mv ?_
   refine TL.append (k := 0) rfl rfl rfl rfl elU8 rfl rfl rfl (fun w hw => pm_byt hw hbs) (bv_one _) (by rw [Nat.mul_one]; omega) (sumN ss (i + 1)) hsum (fun A3 c3 hA31 hA32 => ?_)
   refine TL.as_ ?_
   refine TL.end_ (TX.in_normal (TX.then_ (TC.region ?_)))
   refine TL.val rfl rfl rfl (gives_bin rfl rfl rfl (fun w => bin_add_ (r := ((i + 1 : Nat) : Int)) (by simp only [IntKind.wrap_i64]; omega) w)) ?_
   refine TL.mv ?_
   refine TL.end_ ?_
   exact TX.round (⟨(i + 1, A3, c3), hi2, hA31, hA32⟩) (by show K - (i + 1) < K - i; omega) ⟨rfl, rfl, rfl, rfl, trivial⟩ (fun w hw => by rw [catL_succ hsi, bv_append]; exact hw)
  ·have hi2 : K = i := by have := of_decide_eq_false hc28; omega
   subst hi2
   refine TC.exit_ (TX.then_exit (TX.then_exit (TX.in_same (TX.then_ (TC.seq_ (TC.region ?_))))))
   refine TL.mv ?_
   refine TL.as_ ?_
   refine TL.end_ (TX.then_ (TC.ret_ ?_))
   exact pm_ret_row (k := 0) Tryd.results58 rfl rfl (fun w1 hown hbel => ⟨A2, c2, rfl, hcc.1, hcc.2, hown, hbel⟩)
end Go.Proofs.YtmeaeeehnkcblaaDoor

namespace Go.Proofs.YtmeaeeehnkcblaaDoor
open Go.RowKit
def rcs (rl : List Rs) : List Value := rl.flatMap Rs.cells
theorem rcs_len (rl : List Rs) : (rcs rl).length = rl.length * 17 := by
 induction rl with
 | nil => rfl
 | cons r rl ih => simp only [rcs, List.flatMap_cons, List.length_append] at ih ⊢; rw [ih]; simp only [Rs.cells, List.length_cons, List.length_nil]; omega
theorem rcs_app (a b : List Rs) : rcs (a ++ b) = rcs a ++ rcs b := by simp [rcs]
theorem rcs_ix : ∀ {rl : List Rs} {i : Nat} {r : Rs} (h : rl[i]? = some r) (k : Nat) (hk : k < 17), (rcs rl)[i * 17 + k]? = r.cells[k]?
 | [], _, _, h, _, _ => by cases h
 | x :: rl, 0, r, h, k, hk => by
  obtain rfl : x = r := by simpa using h
  show (x.cells ++ rcs rl)[0 * 17 + k]? = _
  rw [Nat.zero_mul, Nat.zero_add, List.getElem?_append_left (by simpa [Rs.cells] using hk)]
 | x :: rl, i + 1, r, h, k, hk => by
  show (x.cells ++ rcs rl)[(i + 1) * 17 + k]? = _
  rw [List.getElem?_append_right (by simp [Rs.cells]; omega), show (i + 1) * 17 + k - x.cells.length = i * 17 + k by simp [Rs.cells]; omega]
  exact rcs_ix (by simpa using h) k hk
theorem rcs_cell {rl : List Rs} {i : Nat} {r : Rs} (h : rl[i]? = some r) {w : World} {b o : Nat} (hc : ∀ (j : Nat) (u : Value), (rcs rl)[j]? = some u → w.cell? ⟨b, o + j, none⟩ = some u) (j : Nat) (u : Value) (hu : r.cells[j]? = some u) : w.cell? ⟨b, o + i * 17 + j, none⟩ = some u := by
 have hj : j < 17 := by have := (List.getElem?_eq_some_iff.1 hu).1; simpa [Rs.cells] using this
 rw [Nat.add_assoc]
 exact hc _ u (by rw [rcs_ix h j hj]; exact hu)
theorem rs_cells_len (r : Rs) : r.cells.length = 17 := rfl
theorem rcs_one (rl : List Rs) : ∀ u ∈ rcs rl, u.oneCell' = true := by
 intro u hu
 simp only [rcs, List.mem_flatMap] at hu
 obtain ⟨r, _, hu⟩ := hu
 simp only [Rs.cells, List.mem_cons, List.not_mem_nil, or_false] at hu
 rcases hu with rfl | rfl | rfl | rfl | rfl | rfl | rfl | rfl | rfl | rfl | rfl | rfl | rfl | rfl | rfl | rfl | rfl <;> rfl
theorem rs_one (r : Rs) : ∀ u ∈ r.cells, u.oneCell' = true := fun u hu => rcs_one [r] u (by simpa [rcs] using hu)
def encs (rl : List Rs) : List Int := rl.flatMap encO
theorem encs_bs (rl : List Rs) : Bs (encs rl) := by
 intro x hx
 simp only [encs, List.mem_flatMap] at hx
 obtain ⟨r, _, hx⟩ := hx
 exact encO_bs r x hx
theorem encs_succ {rl : List Rs} {i : Nat} {r : Rs} (h : rl[i]? = some r) : encs (rl.take (i + 1)) = encs (rl.take i) ++ encO r := by
 rw [List.take_add_one, h]
 simp [encs]
theorem encs_le (rl : List Rs) : (encs rl).length ≤ rl.length * 37 := by
 induction rl with
 | nil => simp [encs]
 | cons r rl ih =>
  have := encO_len r
  simp only [encs, List.flatMap_cons, List.length_append, List.length_cons] at ih ⊢
  split at this <;> omega
theorem encs_len {rl : List Rs} (h : ∀ r ∈ rl, chkR r = 0) : (encs rl).length = rl.length * 37 := by
 induction rl with
 | nil => simp [encs]
 | cons r rl ih =>
  have h1 := encO_len r
  rw [if_pos (h r List.mem_cons_self)] at h1
  have h2 := ih (fun x hx => h x (List.mem_cons_of_mem _ hx))
  simp only [encs, List.flatMap_cons, List.length_append, List.length_cons] at h2 ⊢
  omega
def segH (v run n m : Int) : List Int := rsj ++ enc v 1 ++ enc run 1 ++ enc n 2 ++ enc m 1
theorem segH_len (v run n m : Int) : (segH v run n m).length = 9 := by simp [segH, rsj, enc_len]
theorem segH_bs (v run n m : Int) : Bs (segH v run n m) := (((rsj_bs.app (enc_bs _ _)).app (enc_bs _ _)).app (enc_bs _ _)).app (enc_bs _ _)
def segW (v run n m : Int) (d : List Int) (rl : List Rs) (i : Nat) : List Int := segH v run n m ++ d ++ encs (rl.take i)
theorem segW_bs (v run n m : Int) {d : List Int} (hd : Bs d) (rl : List Rs) (i : Nat) : Bs (segW v run n m d rl i) := ((segH_bs _ _ _ _).app hd).app (encs_bs _)
theorem segW_zero (v run n m : Int) (d : List Int) (rl : List Rs) : segW v run n m d rl 0 = segH v run n m ++ d := by simp [segW, encs]
theorem segW_succ {v run n m : Int} {d : List Int} {rl : List Rs} {i : Nat} {r : Rs} (h : rl[i]? = some r) : segW v run n m d rl (i + 1) = segW v run n m d rl i ++ encO r := by
 unfold segW; rw [encs_succ h]; simp only [List.append_assoc]
theorem segW_le (v run n m : Int) (d : List Int) (rl : List Rs) (i : Nat) : (segW v run n m d rl i).length ≤ 9 + d.length + rl.length * 37 := by
 unfold segW
 rw [List.length_append, List.length_append, segH_len]
 have h1 := encs_le (rl.take i)
 have h2 : (rl.take i).length ≤ rl.length := by rw [List.length_take]; omega
 omega
def segB (v run n : Int) (d : List Int) (rl : List Rs) : List Int := segW v run n rl.length d rl rl.length
def segL (v run n : Int) (d : List Int) (rl : List Rs) (key : List Int) : List Int := segB v run n d rl ++ macF key (segB v run n d rl)
theorem segB_bs (v run n : Int) {d : List Int} (hd : Bs d) (rl : List Rs) : Bs (segB v run n d rl) := segW_bs _ _ _ _ hd _ _
theorem segL_bs (v run n : Int) {d : List Int} (hd : Bs d) (rl : List Rs) (key : List Int) : Bs (segL v run n d rl key) := (segB_bs v run n hd rl).app (macF_bs _ _)
theorem segL_len (v run n : Int) (d : List Int) (rl : List Rs) (key : List Int) : (segL v run n d rl key).length = (segB v run n d rl).length + 32 := by rw [segL, List.length_append, macF_len]
theorem segL_le (v run n : Int) (d : List Int) (rl : List Rs) (key : List Int) : (segL v run n d rl key).length ≤ 41 + d.length + rl.length * 37 := by
 have := segW_le v run n rl.length d rl rl.length
 rw [segL_len]
 unfold segB
 omega
end Go.Proofs.YtmeaeeehnkcblaaDoor

namespace Go.Proofs.YtmeaeeehnkcblaaDoor
open Go.RowKit
structure Chn where
 v : Int
 run : Int
 n : Int
 dg : List Int
deriving DecidableEq
def Chn.zero : Chn := ⟨0, 0, 0, []⟩
def idOk (v run : Int) : Prop := 0 ≤ v ∧ v ≤ 15 ∧ 0 ≤ run ∧ run ≤ 63
instance (v run : Int) : Decidable (idOk v run) := by unfold idOk; infer_instance
def bgE (v run : Int) : Int := if idOk v run then 0 else 1
def bgS (v run : Int) (key : List Int) : List Int := if idOk v run then segL v run 0 (zeroL 32) [] key else []
def bgC (v run : Int) (key : List Int) : Chn := if idOk v run then ⟨v, run, 0, shaF (segL v run 0 (zeroL 32) [] key)⟩ else Chn.zero
theorem bg_bad {v run : Int} (h : ¬ idOk v run) (key : List Int) : bgC v run key = Chn.zero ∧ bgS v run key = [] ∧ bgE v run = 1 := ⟨if_neg h, if_neg h, if_neg h⟩
theorem bg_ok {v run : Int} (h : idOk v run) (key : List Int) : bgC v run key = ⟨v, run, 0, shaF (segL v run 0 (zeroL 32) [] key)⟩ ∧ bgS v run key = segL v run 0 (zeroL 32) [] key ∧ bgE v run = 0 := ⟨if_pos h, if_pos h, if_pos h⟩
def badR (c : Chn) : List Rs → Nat → Int
 | [], _ => 0
 | r :: rl, i => if chkR r ≠ 0 then chkR r else if followsC c.v c.run c.n i r = false then 18 else badR c rl (i + 1)
def apBig (c : Chn) (rl : List Rs) : Prop := rl.length < 1 ∨ rl.length > 64 ∨ c.n + rl.length > 1000
instance (c : Chn) (rl : List Rs) : Decidable (apBig c rl) := by unfold apBig; infer_instance
def apE (c : Chn) (rl : List Rs) : Int := if apBig c rl then 5 else badR c rl 0
def apS (c : Chn) (rl : List Rs) (key : List Int) : List Int := if apE c rl = 0 then segL c.v c.run c.n c.dg rl key else []
def apC (c : Chn) (rl : List Rs) (key : List Int) : Chn := if apE c rl = 0 then ⟨c.v, c.run, c.n + rl.length, shaF (segL c.v c.run c.n c.dg rl key)⟩ else Chn.zero
theorem ap_bad {c : Chn} {rl : List Rs} {e : Int} (h : apE c rl = e) (he : e ≠ 0) (key : List Int) : apC c rl key = Chn.zero ∧ apS c rl key = [] ∧ apE c rl = e := ⟨if_neg (by rw [h]; exact he), if_neg (by rw [h]; exact he), h⟩
theorem ap_ok {c : Chn} {rl : List Rs} (h : apE c rl = 0) (key : List Int) : apC c rl key = ⟨c.v, c.run, c.n + rl.length, shaF (segL c.v c.run c.n c.dg rl key)⟩ ∧ apS c rl key = segL c.v c.run c.n c.dg rl key ∧ apE c rl = 0 := ⟨if_pos h, if_pos h, h⟩
theorem apE_big {c : Chn} {rl : List Rs} (h : apBig c rl) : apE c rl = 5 := if_pos h
theorem drop_at {rl : List Rs} {i : Nat} {r : Rs} (h : rl[i]? = some r) : rl.drop i = r :: rl.drop (i + 1) := by
 obtain ⟨hi, he⟩ := List.getElem?_eq_some_iff.1 h
 rw [← he]; exact List.drop_eq_getElem_cons hi
theorem badR_chk {c : Chn} {rl : List Rs} {i : Nat} {r : Rs} (h : rl[i]? = some r) (hc : chkR r ≠ 0) : badR c (rl.drop i) i = chkR r := by rw [drop_at h, badR, if_pos hc]
theorem badR_fol {c : Chn} {rl : List Rs} {i : Nat} {r : Rs} (h : rl[i]? = some r) (hc : chkR r = 0) (hf : followsC c.v c.run c.n i r = false) : badR c (rl.drop i) i = 18 := by rw [drop_at h, badR, if_neg (by rw [hc]; simp), if_pos hf]
theorem badR_next {c : Chn} {rl : List Rs} {i : Nat} {r : Rs} (h : rl[i]? = some r) (hc : chkR r = 0) (hf : followsC c.v c.run c.n i r = true) : badR c (rl.drop i) i = badR c (rl.drop (i + 1)) (i + 1) := by
 rw [drop_at h, badR, if_neg (by rw [hc]; simp), if_neg (by rw [hf]; simp)]
theorem badR_zero (c : Chn) : ∀ (rl : List Rs) (k : Nat), badR c rl k = 0 → ∀ (j : Nat) (r : Rs), rl[j]? = some r → chkR r = 0 ∧ r.v = c.v ∧ r.run = c.run ∧ r.num = c.n + ((k + j : Nat) : Int)
 | [], _, _, _, _, h => by cases h
 | x :: rl, k, h, j, r, hr => by
  rw [badR] at h
  by_cases h1 : chkR x = 0
  ·rw [if_neg (by rw [h1]; simp)] at h
   cases h2 : followsC c.v c.run c.n k x with
   | false => rw [if_pos h2] at h; exact absurd h (by decide)
   | true =>
    rw [if_neg (by rw [h2]; simp)] at h
    cases j with
    | zero =>
     obtain rfl : x = r := by simpa using hr
     have := of_decide_eq_true h2
     exact ⟨h1, this.1, this.2.1, this.2.2⟩
    | succ j =>
     have := badR_zero c rl (k + 1) h j r (by simpa using hr)
     refine ⟨this.1, this.2.1, this.2.2.1, ?_⟩
     rw [this.2.2.2]
     omega
  ·rw [if_pos h1] at h; exact absurd h h1
theorem chk_id {r : Rs} (h : chkR r = 0) : 0 ≤ r.v ∧ r.v ≤ 15 ∧ 0 ≤ r.run ∧ r.run ≤ 63 ∧ 0 ≤ r.num ∧ r.num ≤ 999 := by
 unfold chkR at h
 split at h
 ·omega
 ·rename_i h1
  have h1 := Decidable.not_not.1 h1
  unfold Rs.inRange at h1
  omega
theorem ap_id {c : Chn} {rl : List Rs} (h : apE c rl = 0) : 0 ≤ c.v ∧ c.v ≤ 15 ∧ 0 ≤ c.run ∧ c.run ≤ 63 ∧ 0 ≤ c.n ∧ c.n ≤ 999 ∧ 1 ≤ rl.length ∧ rl.length ≤ 64 ∧ c.n + rl.length ≤ 1000 ∧ ∀ r ∈ rl, chkR r = 0 := by
 unfold apE at h
 split at h
 ·exact absurd h (by decide)
 rename_i hb
 unfold apBig at hb
 have hp : 0 < rl.length := by omega
 obtain ⟨h1, h2, h3, h4⟩ := badR_zero c rl 0 h 0 rl[0] (List.getElem?_eq_getElem hp)
 have h5 := chk_id h1
 refine ⟨by omega, by omega, by omega, by omega, by omega, by omega, by omega, by omega, by omega, fun r hr => ?_⟩
 obtain ⟨j, hj⟩ := List.getElem?_of_mem hr
 exact (badR_zero c rl 0 h j r hj).1
def SegR (ch : Chn) (bs : List Int) (er : Int) (w : World) (e : Ending) (w' : World) : Prop :=
 ∃ (A : Option Addr) (c : Nat) (A' : Option Addr) (c' : Nat) (m k : Nat), bs.length = m ∧ ch.dg.length = k ∧ m ≤ c ∧ c ≤ maxLen ∧ k ≤ c' ∧ c' ≤ maxLen ∧
  e = .returned (.tuple #[.agg #[.int .i64 ch.v, .int .i64 ch.run, .int .i64 ch.n, .slice A' k c'], .slice A m c, .int .i64 er]) ∧
  Pm w [.row (.slice A m c) 5 1 m (bv bs), .row (.slice A' k c') 5 1 k (bv ch.dg)] w'
abbrev SegY (ch : Chn) (bs : List Int) : Type := {p : (Option Addr × Nat) × (Option Addr × Nat) // (bs.length ≤ p.1.2 ∧ p.1.2 ≤ maxLen) ∧ (ch.dg.length ≤ p.2.2 ∧ p.2.2 ≤ maxLen)}
theorem SegR.use {ch : Chn} {bs : List Int} {er : Int} {w w' : World} {e : Ending} (h : SegR ch bs er w e w') : ∃ y : SegY ch bs, e = .returned (.tuple #[.agg #[.int .i64 ch.v, .int .i64 ch.run, .int .i64 ch.n, .slice y.1.2.1 ch.dg.length y.1.2.2], .slice y.1.1.1 bs.length y.1.1.2, .int .i64 er]) ∧
  Pm w [.row (.slice y.1.1.1 bs.length y.1.1.2) 5 1 bs.length (bv bs), .row (.slice y.1.2.1 ch.dg.length y.1.2.2) 5 1 ch.dg.length (bv ch.dg)] w' := by
 obtain ⟨A, c, A', c', m, k, rfl, rfl, h1, h2, h3, h4, h5, h6⟩ := h
 exact ⟨⟨((A, c), (A', c')), ⟨h1, h2⟩, ⟨h3, h4⟩⟩, h5, h6⟩
theorem SegR.none_ {er : Int} {w w' : World} {L : List Pc} (h : Pm w L w') : SegR Chn.zero [] er w (.returned (.tuple #[.agg #[.int .i64 0, .int .i64 0, .int .i64 0, .slice none 0 0], .slice none 0 0, .int .i64 er])) w' :=
 ⟨none, 0, none, 0, 0, 0, rfl, rfl, Nat.le_refl _, Nat.zero_le _, Nat.le_refl _, Nat.zero_le _, rfl, (((h.sel (List.nil_sublist _)).nilrow _ 1).nilrow _ 1)⟩
def AccR (ch : Chn) (rl : List Rs) (er : Int) (w : World) (e : Ending) (w' : World) : Prop :=
 ∃ (A : Option Addr) (c : Nat) (A' : Option Addr) (c' : Nat) (m k : Nat), rl.length = m ∧ ch.dg.length = k ∧ m ≤ c ∧ c ≤ maxLen ∧ k ≤ c' ∧ c' ≤ maxLen ∧
  e = .returned (.tuple #[.agg #[.int .i64 ch.v, .int .i64 ch.run, .int .i64 ch.n, .slice A' k c'], .slice A m c, .int .i64 er]) ∧
  Pm w [.row (.slice A m c) 27 17 m (rcs rl), .row (.slice A' k c') 5 1 k (bv ch.dg)] w'
abbrev AccY (ch : Chn) (rl : List Rs) : Type := {p : (Option Addr × Nat) × (Option Addr × Nat) // (rl.length ≤ p.1.2 ∧ p.1.2 ≤ maxLen) ∧ (ch.dg.length ≤ p.2.2 ∧ p.2.2 ≤ maxLen)}
theorem AccR.use {ch : Chn} {rl : List Rs} {er : Int} {w w' : World} {e : Ending} (h : AccR ch rl er w e w') : ∃ y : AccY ch rl, e = .returned (.tuple #[.agg #[.int .i64 ch.v, .int .i64 ch.run, .int .i64 ch.n, .slice y.1.2.1 ch.dg.length y.1.2.2], .slice y.1.1.1 rl.length y.1.1.2, .int .i64 er]) ∧
  Pm w [.row (.slice y.1.1.1 rl.length y.1.1.2) 27 17 rl.length (rcs rl), .row (.slice y.1.2.1 ch.dg.length y.1.2.2) 5 1 ch.dg.length (bv ch.dg)] w' := by
 obtain ⟨A, c, A', c', m, k, rfl, rfl, h1, h2, h3, h4, h5, h6⟩ := h
 exact ⟨⟨((A, c), (A', c')), ⟨h1, h2⟩, ⟨h3, h4⟩⟩, h5, h6⟩
theorem AccR.none_ {er : Int} {w w' : World} {L : List Pc} (h : Pm w L w') : AccR Chn.zero [] er w (.returned (.tuple #[.agg #[.int .i64 0, .int .i64 0, .int .i64 0, .slice none 0 0], .slice none 0 0, .int .i64 er])) w' :=
 ⟨none, 0, none, 0, 0, 0, rfl, rfl, Nat.le_refl _, Nat.zero_le _, Nat.le_refl _, Nat.zero_le _, rfl, (((h.sel (List.nil_sublist _)).nilrow _ 1).nilrow _ 17)⟩
end Go.Proofs.YtmeaeeehnkcblaaDoor

namespace Go.Proofs.YtmeaeeehnkcblaaDoor
open Go.RowKit
def pid (b : List Int) : Int := getN b 4 1
def prun (b : List Int) : Int := getN b 5 1
def pfirst (b : List Int) : Int := getN b 6 2
def cnt (b : List Int) : Nat := (getN b 8 1).toNat
def pbef (b : List Int) : List Int := (b.drop 9).take 32
def rsAt (b : List Int) (i : Nat) : List Int := (b.drop (41 + 37 * i)).take 37
def rlN (b : List Int) (k : Nat) : List Rs := (List.range k).map fun i => decR (rsAt b i)
def rlB (b : List Int) : List Rs := rlN b (cnt b)
def okN (b : List Int) (k : Nat) : Prop := ∀ i, i < k → decE (rsAt b i) = 0
instance (b : List Int) (k : Nat) : Decidable (okN b k) := by unfold okN; infer_instance
def okB (b : List Int) : Prop := okN b (cnt b)
instance (b : List Int) : Decidable (okB b) := by unfold okB; infer_instance
def sigB (b key : List Int) : Prop := b.drop (b.length - 32) = macF key (b.take (b.length - 32))
instance (b key : List Int) : Decidable (sigB b key) := by unfold sigB; infer_instance
def emptyK (c : Chn) : Prop := c.v = 0 ∧ c.run = 0 ∧ c.n = 0 ∧ c.dg.length = 0
instance (c : Chn) : Decidable (emptyK c) := by unfold emptyK; infer_instance
def folAll (c : Chn) : List Rs → Nat → Bool
 | [], _ => true
 | r :: rl, i => followsC c.v c.run c.n i r && folAll c rl (i + 1)
def lnkE (b : List Int) : Prop := pfirst b = 0 ∧ cnt b = 0 ∧ pbef b = zeroL 32 ∧ idOk (pid b) (prun b)
def lnkN (c : Chn) (b : List Int) : Prop := ¬ cnt b = 0 ∧ pid b = c.v ∧ prun b = c.run ∧ pfirst b = c.n ∧ pbef b = c.dg ∧ c.n + cnt b ≤ 1000 ∧ folAll c (rlB b) 0 = true
def lnk (c : Chn) (b : List Int) : Prop := if emptyK c then lnkE b else lnkN c b
instance (b : List Int) : Decidable (lnkE b) := by unfold lnkE; infer_instance
instance (c : Chn) (b : List Int) : Decidable (lnkN c b) := by unfold lnkN; infer_instance
instance (c : Chn) (b : List Int) : Decidable (lnk c b) := by unfold lnk; infer_instance
def accE (c : Chn) (b key : List Int) : Int :=
 if lenE b ≠ 0 then lenE b else if (b.length : Int) < lenN b then 3 else if (b.length : Int) > lenN b then 2 else if ¬ okB b then 2 else if ¬ sigB b key then 19 else if ¬ lnk c b then 18 else 0
def accC (c : Chn) (b key : List Int) : Chn := if accE c b key = 0 then ⟨pid b, prun b, c.n + cnt b, shaF b⟩ else Chn.zero
def accL (c : Chn) (b key : List Int) : List Rs := if accE c b key = 0 then rlB b else []
def wholeB (b : List Int) : Prop := 41 ≤ b.length ∧ headOk b ∧ (b.length : Int) = 41 + 37 * getN b 8 1 + 32
theorem acc_len {c : Chn} {b key : List Int} (h : lenE b ≠ 0) : accE c b key = lenE b := if_pos h
theorem acc_short {c : Chn} {b key : List Int} (h : lenE b = 0) (h2 : (b.length : Int) < lenN b) : accE c b key = 3 := by rw [accE, if_neg (by rw [h]; simp), if_pos h2]
theorem acc_long {c : Chn} {b key : List Int} (h : lenE b = 0) (h2 : ¬ (b.length : Int) < lenN b) (h3 : (b.length : Int) > lenN b) : accE c b key = 2 := by rw [accE, if_neg (by rw [h]; simp), if_neg h2, if_pos h3]
theorem acc_whole {c : Chn} {b key : List Int} (h : lenE b = 0) (h2 : ¬ (b.length : Int) < lenN b) (h3 : ¬ (b.length : Int) > lenN b) : accE c b key = if ¬ okB b then 2 else if ¬ sigB b key then 19 else if ¬ lnk c b then 18 else 0 := by rw [accE, if_neg (by rw [h]; simp), if_neg h2, if_neg h3]
theorem acc_form {c : Chn} {b key : List Int} (h : lenE b = 0) (h2 : ¬ (b.length : Int) < lenN b) (h3 : ¬ (b.length : Int) > lenN b) (h4 : ¬ okB b) : accE c b key = 2 := by rw [acc_whole h h2 h3, if_pos h4]
theorem acc_sig {c : Chn} {b key : List Int} (h : lenE b = 0) (h2 : ¬ (b.length : Int) < lenN b) (h3 : ¬ (b.length : Int) > lenN b) (h4 : okB b) (h5 : ¬ sigB b key) : accE c b key = 19 := by rw [acc_whole h h2 h3, if_neg (fun hh => hh h4), if_pos h5]
theorem acc_chain {c : Chn} {b key : List Int} (h : lenE b = 0) (h2 : ¬ (b.length : Int) < lenN b) (h3 : ¬ (b.length : Int) > lenN b) (h4 : okB b) (h5 : sigB b key) (h6 : ¬ lnk c b) : accE c b key = 18 := by rw [acc_whole h h2 h3, if_neg (fun hh => hh h4), if_neg (fun hh => hh h5), if_pos h6]
theorem acc_ok {c : Chn} {b key : List Int} (h : lenE b = 0) (h2 : ¬ (b.length : Int) < lenN b) (h3 : ¬ (b.length : Int) > lenN b) (h4 : okB b) (h5 : sigB b key) (h6 : lnk c b) : accE c b key = 0 := by rw [acc_whole h h2 h3, if_neg (fun hh => hh h4), if_neg (fun hh => hh h5), if_neg (fun hh => hh h6)]
theorem acR_bad {c : Chn} {b key : List Int} {e : Int} (h : accE c b key = e) (he : e ≠ 0) : accC c b key = Chn.zero ∧ accL c b key = [] ∧ accE c b key = e := ⟨if_neg (by rw [h]; exact he), if_neg (by rw [h]; exact he), h⟩
theorem acR_ok {c : Chn} {b key : List Int} (h : accE c b key = 0) : accC c b key = ⟨pid b, prun b, c.n + cnt b, shaF b⟩ ∧ accL c b key = rlB b ∧ accE c b key = 0 := ⟨if_pos h, if_pos h, h⟩
theorem len_dec {l : List Int} (h : lenE l = 0) : 41 ≤ l.length ∧ headOk l ∧ lenN l = 41 + 37 * getN l 8 1 + 32 := by
 by_cases h1 : l.length < 41
 ·rw [(len_short h1).2] at h; exact absurd h (by decide)
 ·by_cases h2 : headOk l
  ·exact ⟨by omega, h2, (len_ok h1 h2).1⟩
  ·rw [(len_form h1 h2).2] at h; exact absurd h (by decide)
theorem whole_of {b : List Int} (h : lenE b = 0) (h2 : ¬ (b.length : Int) < lenN b) (h3 : ¬ (b.length : Int) > lenN b) : wholeB b := by
 obtain ⟨x1, x2, x3⟩ := len_dec h
 exact ⟨x1, x2, by omega⟩
theorem whole_cnt {b : List Int} (hb : Bs b) (h : wholeB b) : (cnt b : Int) = getN b 8 1 ∧ cnt b ≤ 64 ∧ b.length = 73 + 37 * cnt b ∧ lenN b = 73 + 37 * (cnt b : Int) ∧ lenE b = 0 := by
 obtain ⟨x1, x2, x3⟩ := h
 obtain ⟨_, y0, y1⟩ := byte_at hb 8 (by omega)
 have x4 := x2.2
 have e1 := (len_ok (by omega : ¬ b.length < 41) x2)
 unfold cnt
 refine ⟨by omega, by omega, by omega, by rw [e1.1]; omega, e1.2⟩
theorem rlN_succ (b : List Int) (k : Nat) : rlN b (k + 1) = rlN b k ++ [decR (rsAt b k)] := by simp [rlN, List.range_succ]
theorem rlN_len (b : List Int) (k : Nat) : (rlN b k).length = k := by simp [rlN]
theorem rlB_len (b : List Int) : (rlB b).length = cnt b := rlN_len _ _
theorem rlN_at {b : List Int} {k i : Nat} (h : i < k) : (rlN b k)[i]? = some (decR (rsAt b i)) := by simp [rlN, h]
theorem okN_succ {b : List Int} {k : Nat} (h : okN b k) (h2 : decE (rsAt b k) = 0) : okN b (k + 1) := fun i hi => by
 rcases Nat.lt_or_ge i k with h3 | h3
 ·exact h i h3
 ·obtain rfl : i = k := by omega
  exact h2
theorem dec_zero {l : List Int} (hl : Bs l) (h : decE l = 0) : decR l = rdR l ∧ chkR (decR l) = 0 ∧ encO (decR l) = l ∧ (decR l).Ok ∧ l.length = 37 := by
 have e : decR l = rdR l := if_pos h
 have hlen : ¬ l.length < 37 := fun hh => by rw [decE, if_pos hh] at h; exact absurd h (by decide)
 by_cases hx : chkR (rdR l) = 0 ∧ encO (rdR l) = l
 ·rw [e]
  refine ⟨rfl, hx.1, hx.2, rd_ok l hl, ?_⟩
  have := encO_len (rdR l)
  rw [hx.2, if_pos hx.1] at this
  exact this
 ·rw [(dec_form hlen hx).2] at h; exact absurd h (by decide)
theorem folAll_iff (c : Chn) : ∀ (rl : List Rs) (k : Nat), (∀ r ∈ rl, chkR r = 0) → (badR c rl k = 0 ↔ folAll c rl k = true)
 | [], _, _ => by simp [badR, folAll]
 | r :: rl, k, h => by
  have h1 := h r List.mem_cons_self
  rw [badR, if_neg (by rw [h1]; simp), folAll]
  cases hf : followsC c.v c.run c.n k r with
  | false => simp
  | true => rw [if_neg (by simp), Bool.true_and]; exact folAll_iff c rl (k + 1) fun x hx => h x (List.mem_cons_of_mem _ hx)
theorem folAll_at {c : Chn} {rl : List Rs} {i : Nat} {r : Rs} (h : rl[i]? = some r) : folAll c (rl.drop i) i = (followsC c.v c.run c.n i r && folAll c (rl.drop (i + 1)) (i + 1)) := by rw [drop_at h, folAll]
end Go.Proofs.YtmeaeeehnkcblaaDoor

namespace Go.Proofs.YtmeaeeehnkcblaaDoor
open Go.RowKit
theorem enc_g1 {b : List Int} (hb : Bs b) {p : Nat} (h : p + 1 ≤ b.length) : enc (getN b p 1) 1 = (b.drop p).take 1 := by
 have e : b.drop p = b[p] :: b.drop (p + 1) := List.drop_eq_getElem_cons (by omega)
 have hx := hb b[p] (List.getElem_mem _)
 have e2 : getN b p 1 = b[p] := by rw [getN, e, List.take_succ_cons, List.take_zero]; simp only [be, List.foldl_cons, List.foldl_nil]; omega
 rw [e2, e]
 simp only [enc, List.take_succ_cons, List.take_zero, Int.pow_zero]
 congr 1
 omega
theorem enc_g2 {b : List Int} (hb : Bs b) {p : Nat} (h : p + 2 ≤ b.length) : enc (getN b p 2) 2 = (b.drop p).take 2 := by
 have e : b.drop p = b[p] :: b.drop (p + 1) := List.drop_eq_getElem_cons (by omega)
 have e1 : b.drop (p + 1) = b[p + 1] :: b.drop (p + 1 + 1) := List.drop_eq_getElem_cons (by omega)
 have hx := hb b[p] (List.getElem_mem _)
 have hy := hb b[p + 1] (List.getElem_mem _)
 have e2 : getN b p 2 = b[p] * 256 + b[p + 1] := by rw [getN, e, e1, List.take_succ_cons, List.take_succ_cons, List.take_zero]; simp only [be, List.foldl_cons, List.foldl_nil]; omega
 rw [e2, e, e1]
 simp only [enc, List.take_succ_cons, List.take_zero, Int.pow_zero, Int.pow_succ]
 congr 1
 ·omega
 ·congr 1
  omega
theorem head_parts {b : List Int} (hb : Bs b) (h : 9 ≤ b.length) (hr : b.take 4 = rsj) : segH (pid b) (prun b) (pfirst b) (getN b 8 1) = b.take 9 := by
 have e1 : b.take 9 = b.take 4 ++ ((b.drop 4).take 1 ++ ((b.drop 5).take 1 ++ ((b.drop 6).take 2 ++ (b.drop 8).take 1))) := by
  rw [show 9 = 4 + (1 + (1 + (2 + 1))) from rfl, List.take_add, List.take_add (i := 1), List.drop_drop, List.take_add (i := 1), List.drop_drop, List.take_add (i := 2), List.drop_drop]
 rw [e1, hr, segH, pid, prun, pfirst, enc_g1 hb (by omega), enc_g1 hb (by omega), enc_g2 hb (by omega), enc_g1 hb (by omega)]
 simp only [List.append_assoc]
theorem encs_app (a b : List Rs) : encs (a ++ b) = encs a ++ encs b := by simp [encs]
theorem encs_parts {b : List Int} (hb : Bs b) : ∀ (k : Nat), 41 + 37 * k ≤ b.length → okN b k → encs (rlN b k) = (b.drop 41).take (37 * k)
 | 0, _, _ => by simp [rlN, encs]
 | k + 1, h, hok => by
  have ih := encs_parts hb k (by omega) fun i hi => hok i (by omega)
  have hd := dec_zero (l := rsAt b k) ((hb.drop _).take _) (hok k (by omega))
  rw [rlN_succ, encs_app, ih, Nat.mul_succ, List.take_add, List.drop_drop]
  congr 1
  show [decR (rsAt b k)].flatMap encO = _
  rw [List.flatMap_singleton, hd.2.2.1]
  rfl
theorem body_parts {b : List Int} (hb : Bs b) (hw : wholeB b) (hok : okB b) : segB (pid b) (prun b) (pfirst b) (pbef b) (rlB b) = b.take (b.length - 32) := by
 obtain ⟨c1, c2, c3, c4, c5⟩ := whole_cnt hb hw
 have hl : (rlB b).length = cnt b := rlB_len b
 have e : b.length - 32 = 9 + (32 + 37 * cnt b) := by omega
 rw [segB, segW, List.take_of_length_le (Nat.le_refl _), hl, c1, head_parts hb (by omega) hw.2.1.1, e, List.take_add, List.take_add, List.append_assoc, List.drop_drop, rlB, encs_parts hb (cnt b) (by omega) hok, pbef]
theorem seg_parts {b key : List Int} (hb : Bs b) (hw : wholeB b) (hok : okB b) (hs : sigB b key) : segL (pid b) (prun b) (pfirst b) (pbef b) (rlB b) key = b := by
 have e := body_parts hb hw hok
 unfold sigB at hs
 rw [segL, e, ← hs, List.take_append_drop]
theorem seg_split (v run n : Int) (d : List Int) (rl : List Rs) (key : List Int) : segL v run n d rl key = rsj ++ (enc v 1 ++ (enc run 1 ++ (enc n 2 ++ (enc (rl.length : Nat) 1 ++ (d ++ (encs rl ++ macF key (segB v run n d rl))))))) := by
 rw [segL]
 conv => lhs; lhs; rw [segB, segW, List.take_of_length_le (Nat.le_refl _), segH]
 simp only [List.append_assoc]
theorem seg_len {v run n : Int} {d : List Int} {rl : List Rs} {key : List Int} (hd : d.length = 32) (h : ∀ r ∈ rl, chkR r = 0) : (segL v run n d rl key).length = 73 + 37 * rl.length := by
 rw [seg_split]
 simp only [List.length_append, enc_len, macF_len, encs_len h, hd]
 simp only [rsj, List.length_cons, List.length_nil]
 omega
theorem seg_len' {v run n : Int} {d : List Int} {rl : List Rs} {key : List Int} (h : ∀ r ∈ rl, chkR r = 0) : (segL v run n d rl key).length = 41 + d.length + 37 * rl.length := by
 rw [seg_split]
 simp only [List.length_append, enc_len, macF_len, encs_len h]
 simp only [rsj, List.length_cons, List.length_nil]
 omega
theorem seg_v {v run n : Int} (d : List Int) (rl : List Rs) (key : List Int) (h0 : 0 ≤ v) (h1 : v ≤ 255) : pid (segL v run n d rl key) = v := by
 rw [seg_split]; exact be_fit (p := (v, 1)) ⟨h0, by simp only [Int.pow_succ, Int.pow_zero]; omega⟩
theorem seg_run {v run n : Int} (d : List Int) (rl : List Rs) (key : List Int) (h0 : 0 ≤ run) (h1 : run ≤ 255) : prun (segL v run n d rl key) = run := by
 rw [seg_split]; exact be_fit (p := (run, 1)) ⟨h0, by simp only [Int.pow_succ, Int.pow_zero]; omega⟩
theorem seg_n {v run n : Int} (d : List Int) (rl : List Rs) (key : List Int) (h0 : 0 ≤ n) (h1 : n ≤ 65535) : pfirst (segL v run n d rl key) = n := by
 rw [seg_split]; exact be_fit (p := (n, 2)) ⟨h0, by simp only [Int.pow_succ, Int.pow_zero]; omega⟩
theorem seg_m {v run n : Int} (d : List Int) (rl : List Rs) (key : List Int) (h1 : rl.length ≤ 255) : getN (segL v run n d rl key) 8 1 = (rl.length : Nat) := by
 rw [seg_split]; exact be_fit (p := ((rl.length : Int), 1)) ⟨by omega, by simp only [Int.pow_succ, Int.pow_zero]; omega⟩
theorem seg_cnt {v run n : Int} (d : List Int) (rl : List Rs) (key : List Int) (h1 : rl.length ≤ 255) : cnt (segL v run n d rl key) = rl.length := by
 rw [cnt, seg_m d rl key h1]; rfl
theorem seg_bef {v run n : Int} {d : List Int} (rl : List Rs) (key : List Int) (hd : d.length = 32) : pbef (segL v run n d rl key) = d := by
 rw [seg_split]
 show (d ++ (encs rl ++ macF key (segB v run n d rl))).take 32 = d
 exact List.take_left' hd
theorem bg_iff {b key : List Int} (hb : Bs b) (hw : wholeB b) (hok : okB b) (hs : sigB b key) : (bgE (pid b) (prun b) = 0 ∧ bgS (pid b) (prun b) key = b) ↔ lnkE b := by
 obtain ⟨c1, c2, c3, c4, c5⟩ := whole_cnt hb hw
 unfold bgE bgS lnkE
 by_cases hi : idOk (pid b) (prun b)
 ·rw [if_pos hi, if_pos hi]
  constructor
  ·rintro ⟨_, h⟩
   have hl := seg_len (v := pid b) (run := prun b) (n := 0) (d := zeroL 32) (rl := []) (key := key) rfl (fun r hr => by cases hr)
   rw [h] at hl
   simp only [List.length_nil] at hl
   refine ⟨?_, by omega, ?_, hi⟩
   ·rw [← h]; exact seg_n _ _ _ (by decide) (by decide)
   ·rw [← h]; exact seg_bef _ _ rfl
  ·rintro ⟨h1, h2, h3, _⟩
   have e := seg_parts hb hw hok hs
   have : rlB b = [] := List.eq_nil_of_length_eq_zero (by rw [rlB_len, h2])
   rw [h1, h3, this] at e
   exact ⟨rfl, e⟩
 ·rw [if_neg hi]
  constructor
  ·rintro ⟨h, _⟩; exact absurd h (by decide)
  ·rintro ⟨_, _, _, h⟩; exact absurd h hi
theorem rlB_ok {b : List Int} (hb : Bs b) (hok : okB b) : ∀ r ∈ rlB b, chkR r = 0 ∧ r.Ok := by
 intro r hr
 simp only [rlB, rlN, List.mem_map, List.mem_range] at hr
 obtain ⟨i, hi, rfl⟩ := hr
 have := dec_zero (l := rsAt b i) ((hb.drop _).take _) (hok i hi)
 exact ⟨this.2.1, this.2.2.2.1⟩
theorem ap_iff {c : Chn} {b key : List Int} (hb : Bs b) (hw : wholeB b) (hok : okB b) (hs : sigB b key) : (apE c (rlB b) = 0 ∧ apS c (rlB b) key = b) ↔ lnkN c b := by
 obtain ⟨c1, c2, c3, c4, c5⟩ := whole_cnt hb hw
 have hr := rlB_ok hb hok
 have hl := rlB_len b
 constructor
 ·rintro ⟨h1, h2⟩
  obtain ⟨g1, g2, g3, g4, g5, g6, g7, g8, g9, g10⟩ := ap_id h1
  rw [apS, if_pos h1] at h2
  have hsl := seg_len' (v := c.v) (run := c.run) (n := c.n) (d := c.dg) (rl := rlB b) (key := key) fun r h => (hr r h).1
  rw [h2] at hsl
  have hf : folAll c (rlB b) 0 = true := by
   refine (folAll_iff c (rlB b) 0 fun r h => (hr r h).1).1 ?_
   unfold apE at h1
   split at h1
   ·exact absurd h1 (by decide)
   ·exact h1
  refine ⟨by omega, ?_, ?_, ?_, ?_, by omega, hf⟩
  ·rw [← h2]; exact seg_v _ _ _ (by omega) (by omega)
  ·rw [← h2]; exact seg_run _ _ _ (by omega) (by omega)
  ·rw [← h2]; exact seg_n _ _ _ (by omega) (by omega)
  ·rw [← h2]; exact seg_bef _ _ (by omega)
 ·rintro ⟨h1, h2, h3, h4, h5, h6, h7⟩
  have hE : apE c (rlB b) = 0 := by
   rw [apE, if_neg (by unfold apBig; omega)]
   exact (folAll_iff c (rlB b) 0 fun r h => (hr r h).1).2 h7
  refine ⟨hE, ?_⟩
  have e := seg_parts hb hw hok hs
  rw [h2, h3, h4, h5] at e
  rw [apS, if_pos hE, e]
theorem acc_bg {c : Chn} {b key : List Int} (hb : Bs b) (h0 : lenE b = 0) (h1 : ¬ (b.length : Int) < lenN b) (h2 : ¬ (b.length : Int) > lenN b) (hok : okB b) (hs : sigB b key) (hK : emptyK c) (h : bgE (pid b) (prun b) = 0 ∧ bgS (pid b) (prun b) key = b) : accC c b key = bgC (pid b) (prun b) key ∧ accL c b key = [] ∧ accE c b key = 0 := by
 have hl := (bg_iff hb (whole_of h0 h1 h2) hok hs).1 h
 have hE := acR_ok (c := c) (key := key) (acc_ok h0 h1 h2 hok hs (by rw [lnk, if_pos hK]; exact hl))
 obtain ⟨x1, x2, x3, x4⟩ := hl
 obtain ⟨y1, y2, y3, y4⟩ := hK
 have hg := bg_ok x4 key
 refine ⟨?_, ?_, hE.2.2⟩
 ·rw [hE.1, hg.1, ← hg.2.1, h.2, y3, x2]
  rfl
 ·rw [hE.2.1]
  exact List.eq_nil_of_length_eq_zero (by rw [rlB_len, x2])
theorem acc_nbg {c : Chn} {b key : List Int} (hb : Bs b) (h0 : lenE b = 0) (h1 : ¬ (b.length : Int) < lenN b) (h2 : ¬ (b.length : Int) > lenN b) (hok : okB b) (hs : sigB b key) (hK : emptyK c) (h : ¬ (bgE (pid b) (prun b) = 0 ∧ bgS (pid b) (prun b) key = b)) : accC c b key = Chn.zero ∧ accL c b key = [] ∧ accE c b key = 18 :=
 acR_bad (acc_chain h0 h1 h2 hok hs (by rw [lnk, if_pos hK]; exact fun hl => h ((bg_iff hb (whole_of h0 h1 h2) hok hs).2 hl))) (by decide)
theorem acc_ap {c : Chn} {b key : List Int} (hb : Bs b) (h0 : lenE b = 0) (h1 : ¬ (b.length : Int) < lenN b) (h2 : ¬ (b.length : Int) > lenN b) (hok : okB b) (hs : sigB b key) (hK : ¬ emptyK c) (h : apE c (rlB b) = 0 ∧ apS c (rlB b) key = b) : accC c b key = apC c (rlB b) key ∧ accL c b key = rlB b ∧ accE c b key = 0 := by
 have hl := (ap_iff hb (whole_of h0 h1 h2) hok hs).1 h
 have hE := acR_ok (c := c) (key := key) (acc_ok h0 h1 h2 hok hs (by rw [lnk, if_neg hK]; exact hl))
 have hg := ap_ok h.1 key
 refine ⟨?_, hE.2.1, hE.2.2⟩
 rw [hE.1, hg.1, ← hg.2.1, h.2, hl.2.1, hl.2.2.1, rlB_len]
theorem acc_nap {c : Chn} {b key : List Int} (hb : Bs b) (h0 : lenE b = 0) (h1 : ¬ (b.length : Int) < lenN b) (h2 : ¬ (b.length : Int) > lenN b) (hok : okB b) (hs : sigB b key) (hK : ¬ emptyK c) (h : ¬ (apE c (rlB b) = 0 ∧ apS c (rlB b) key = b)) : accC c b key = Chn.zero ∧ accL c b key = [] ∧ accE c b key = 18 :=
 acR_bad (acc_chain h0 h1 h2 hok hs (by rw [lnk, if_neg hK]; exact fun hl => h ((ap_iff hb (whole_of h0 h1 h2) hok hs).2 hl))) (by decide)
end Go.Proofs.YtmeaeeehnkcblaaDoor

namespace Go.Proofs.YtmeaeeehnkcblaaDoor
open Go.RowKit
theorem encO_ok {r : Rs} (h : chkR r = 0) : encO r = encR r := by unfold encO; rw [if_pos h]
theorem encs_at {rl : List Rs} {i : Nat} {r : Rs} (hr : rl[i]? = some r) (h : ∀ x ∈ rl, chkR x = 0) (X : List Int) : ((encs rl ++ X).drop (37 * i)).take 37 = encR r := by
 have h1 : rl = rl.take i ++ r :: rl.drop (i + 1) := by rw [← drop_at hr, List.take_append_drop]
 have hi := (List.getElem?_eq_some_iff.1 hr).1
 have h2 : (encs (rl.take i)).length = 37 * i := by
  rw [encs_len fun x hx => h x (List.mem_of_mem_take hx), List.length_take]
  omega
 have hc := h r (List.mem_of_getElem? hr)
 have h3 : encs rl = encs (rl.take i) ++ (encR r ++ encs (rl.drop (i + 1))) := by
  conv => lhs; rw [h1]
  rw [encs_app]
  congr 1
  show encO r ++ encs (rl.drop (i + 1)) = _
  rw [encO_ok hc]
 rw [h3, List.append_assoc, List.append_assoc, List.drop_left' h2]
 exact List.take_left' (encR_len r)
theorem seg_head (v run n : Int) {d : List Int} (hd : d.length = 32) (rl : List Rs) (key : List Int) : ∃ P : List Int, P.length = 41 ∧ segL v run n d rl key = P ++ (encs rl ++ macF key (segB v run n d rl)) := by
 refine ⟨rsj ++ (enc v 1 ++ (enc run 1 ++ (enc n 2 ++ (enc (rl.length : Nat) 1 ++ d)))), ?_, ?_⟩
 ·simp only [List.length_append, enc_len, hd]
  rfl
 ·rw [seg_split]
  simp only [List.append_assoc]
theorem seg_rsAt {v run n : Int} {d : List Int} {rl : List Rs} {key : List Int} (hd : d.length = 32) (h : ∀ x ∈ rl, chkR x = 0) {i : Nat} {r : Rs} (hr : rl[i]? = some r) : rsAt (segL v run n d rl key) i = encR r := by
 obtain ⟨P, hP, e⟩ := seg_head v run n hd rl key
 rw [rsAt, e, ← List.drop_drop, List.drop_left' hP]
 exact encs_at hr h _
theorem seg_whole {v run n : Int} {d : List Int} {rl : List Rs} {key : List Int} (hd : d.length = 32) (hm : rl.length ≤ 64) (h : ∀ x ∈ rl, chkR x = 0) : wholeB (segL v run n d rl key) := by
 have hl := seg_len (v := v) (run := run) (n := n) (key := key) hd h
 have h8 := seg_m (v := v) (run := run) (n := n) d rl key (by omega)
 refine ⟨by omega, ⟨?_, by omega⟩, by omega⟩
 rw [seg_split]
 rfl
theorem seg_ok {v run n : Int} {d : List Int} {rl : List Rs} {key : List Int} (hd : d.length = 32) (hm : rl.length ≤ 64) (h : ∀ x ∈ rl, chkR x = 0) (ho : ∀ x ∈ rl, x.Ok) : okB (segL v run n d rl key) := by
 intro i hi
 rw [seg_cnt d rl key (by omega)] at hi
 have hr := List.getElem?_eq_getElem hi
 have hmem := List.mem_of_getElem? hr
 rw [seg_rsAt hd h hr]
 exact (dec_enc _ (h _ hmem) (ho _ hmem)).1
theorem seg_rlB {v run n : Int} {d : List Int} {rl : List Rs} {key : List Int} (hd : d.length = 32) (hm : rl.length ≤ 64) (h : ∀ x ∈ rl, chkR x = 0) (ho : ∀ x ∈ rl, x.Ok) : rlB (segL v run n d rl key) = rl := by
 refine List.ext_getElem? fun i => ?_
 rcases Nat.lt_or_ge i rl.length with hi | hi
 ·have hr := List.getElem?_eq_getElem hi
  have hmem := List.mem_of_getElem? hr
  rw [rlB, rlN_at (by rw [seg_cnt d rl key (by omega)]; exact hi), seg_rsAt hd h hr, (dec_enc _ (h _ hmem) (ho _ hmem)).2, hr]
 ·rw [List.getElem?_eq_none (by rw [rlB_len, seg_cnt d rl key (by omega)]; exact hi), List.getElem?_eq_none hi]
theorem seg_sig (v run n : Int) (d : List Int) (rl : List Rs) (key : List Int) : sigB (segL v run n d rl key) key := by
 have e : (segL v run n d rl key).length - 32 = (segB v run n d rl).length := by rw [segL_len]; omega
 rw [sigB, e, segL, List.drop_left' rfl, List.take_left' rfl]
theorem whole_len {b : List Int} (hb : Bs b) (hw : wholeB b) : lenE b = 0 ∧ ¬ (b.length : Int) < lenN b ∧ ¬ (b.length : Int) > lenN b := by
 obtain ⟨c1, c2, c3, c4, c5⟩ := whole_cnt hb hw
 exact ⟨c5, by omega, by omega⟩
theorem zero32 : (zeroL 32).length = 32 := rfl
theorem acc_begin {v run : Int} (h : idOk v run) (key : List Int) : accC Chn.zero (bgS v run key) key = bgC v run key ∧ accL Chn.zero (bgS v run key) key = [] ∧ accE Chn.zero (bgS v run key) key = 0 := by
 have hg := bg_ok h key
 have hh : ∀ x ∈ ([] : List Rs), chkR x = 0 := fun x hx => by cases hx
 have ho : ∀ x ∈ ([] : List Rs), x.Ok := fun x hx => by cases hx
 have hb : Bs (bgS v run key) := by rw [hg.2.1]; exact segL_bs _ _ _ (zeroL_bs _) _ _
 have hw : wholeB (bgS v run key) := by rw [hg.2.1]; exact seg_whole zero32 (by decide) hh
 have hok : okB (bgS v run key) := by rw [hg.2.1]; exact seg_ok zero32 (by decide) hh ho
 have hs : sigB (bgS v run key) key := by rw [hg.2.1]; exact seg_sig _ _ _ _ _ _
 have hid : 0 ≤ v ∧ v ≤ 15 ∧ 0 ≤ run ∧ run ≤ 63 := h
 have e1 : pid (bgS v run key) = v := by rw [hg.2.1]; exact seg_v _ _ _ (by omega) (by omega)
 have e2 : prun (bgS v run key) = run := by rw [hg.2.1]; exact seg_run _ _ _ (by omega) (by omega)
 obtain ⟨x1, x2, x3⟩ := whole_len hb hw
 have := acc_bg (c := Chn.zero) hb x1 x2 x3 hok hs ⟨rfl, rfl, rfl, rfl⟩ (by rw [e1, e2]; exact ⟨hg.2.2, rfl⟩)
 rw [e1, e2] at this
 exact this
theorem acc_append {c : Chn} {rl : List Rs} (h : apE c rl = 0) (hd : c.dg.length = 32) (hbd : Bs c.dg) (ho : ∀ x ∈ rl, x.Ok) (key : List Int) : accC c (apS c rl key) key = apC c rl key ∧ accL c (apS c rl key) key = rl ∧ accE c (apS c rl key) key = 0 := by
 have hg := ap_ok h key
 obtain ⟨g1, g2, g3, g4, g5, g6, g7, g8, g9, hh⟩ := ap_id h
 have hb : Bs (apS c rl key) := by rw [hg.2.1]; exact segL_bs _ _ _ hbd _ _
 have hw : wholeB (apS c rl key) := by rw [hg.2.1]; exact seg_whole hd g8 hh
 have hok : okB (apS c rl key) := by rw [hg.2.1]; exact seg_ok hd g8 hh ho
 have hs : sigB (apS c rl key) key := by rw [hg.2.1]; exact seg_sig _ _ _ _ _ _
 have e1 : rlB (apS c rl key) = rl := by rw [hg.2.1]; exact seg_rlB hd g8 hh ho
 obtain ⟨x1, x2, x3⟩ := whole_len hb hw
 have := acc_ap (c := c) hb x1 x2 x3 hok hs (fun hK => by have := hK.2.2.2; omega) (by rw [e1]; exact ⟨h, rfl⟩)
 rw [e1] at this
 exact this
end Go.Proofs.YtmeaeeehnkcblaaDoor

namespace Go.Proofs.YtmeaeeehnkcblaaDoor
open Go.RowKit
set_option maxRecDepth 20000
def Cod (w : World) (cb : Nat) : Prop :=
 ∃ A m c l k, Blk w cb 69 #[.slice A m c, .int .i64 ((k : Nat) : Int)] ∧ k ≤ m ∧ m ≤ 1000000 ∧ Byt w cb A m l
theorem Cod.lt {w : World} {cb : Nat} (h : Cod w cb) : cb < w.heap.size := by
 obtain ⟨A, m, c, l, k, hb, _⟩ := h
 exact hb.lt
theorem Cod.keep {w w' : World} {cb : Nat} (h : Cod w cb) (hk : ∀ b, b ≤ cb → w'.heap[b]? = w.heap[b]?) : Cod w' cb := by
 obtain ⟨A, m, c, l, k, hb, h1, h2, h3⟩ := h
 exact ⟨A, m, c, l, k, (hk cb (Nat.le_refl _)).trans hb, h1, h2, h3.keep fun p hp => World.cell?_of_block (hk _ (Nat.le_of_lt hp))⟩
theorem Cod.below {w w' : World} {cb B : Nat} (h : Cod w cb) (hb : Below B w w') (hB : cb < B) : Cod w' cb := h.keep fun b hb' => hb.block b (by omega)
theorem Cod.alloc {w : World} {cb : Nat} (h : Cod w cb) (o : Obj) : Cod (w.alloc o) cb := h.keep fun b hb' => Below.heap_alloc w o b (Nat.lt_of_le_of_lt hb' h.lt)
theorem Cod.drewN {w : World} {cb : Nat} (h : Cod w cb) (n : Nat) : Cod (w.drewN n) cb := h
theorem new_any (A : Option Addr) (n c : Nat) (l : List Int) (w : World) (mo : Int) (h : Byt w w.heap.size A n l) (hc : n ≤ c) (hn : (n : Int) ≤ 9223372036854775807) (h0 : 0 ≤ mo) (h1 : mo ≤ 1000000) :
  Calls Tryd.prog 10 #[.slice A n c, .int .i64 mo] w fun e w' => e = .returned (.pointer (some ⟨w.heap.size, 0, none⟩)) ∧ Cod w' w.heap.size ∧ Below w.heap.size w w' ∧ w'.heap.size = w.heap.size + 1 := by
 obtain ⟨mo, rfl⟩ := Int.eq_ofNat_of_zero_le h0
 have key : ∀ (m : Nat), m ≤ 1000000 → m ≤ n → Cod (w.alloc (.cells #[.slice A m c, .int .i64 0] 69)) w.heap.size := fun m hm hmn =>
  ⟨A, m, c, l.take m, 0, Blk.new _ _ _, Nat.zero_le _, hm, (h.head hmn).alloc (Nat.le_refl _) _⟩
 have hb : ∀ o, Below w.heap.size w (w.alloc o) := fun o => (Below.refl _ _).alloc (Nat.le_refl _) o
 by_cases hlt : mo < n
 ·have k1 := Lib.hid (key mo (by omega) (by omega))
  clear key
  go_enter Tryd.func10, Tryd.ntmps10
  go_wp2
  go_ret
  exact ⟨rfl, k1.out, hb _, by simp⟩
 ·have k1 := Lib.hid (key n (by omega) (by omega))
  clear key
  go_enter Tryd.func10, Tryd.ntmps10
  go_wp2
  go_ret
  exact ⟨rfl, k1.out, hb _, by simp⟩
theorem next_end (cb : Nat) (w : World) (n : Int) (A : Option Addr) (m c : Nat) (k : Nat) (hb : Blk w cb 69 #[.slice A m c, .int .i64 k]) (hk : k ≤ 1000000) (h : m ≤ k ∨ n < 1) :
  Calls Tryd.prog 21 #[.pointer (some ⟨cb, 0, none⟩), .int .i64 n] w fun e w' => e = .returned (.int .i64 0) ∧ ∃ q, w' = w.drewN q := by
 have hc0 := hb.cell 0
 have hc1 := hb.cell 1
 simp at hc0 hc1
 by_cases hm : m ≤ k
 ·clear h
  go_enter Tryd.func21, Tryd.ntmps21
  go_wp2
  go_quiet (fail)
  go_wp2
  go_ret
  exact ⟨rfl, _, rfl⟩
 ·have h : n < 1 := by omega
  go_enter Tryd.func21, Tryd.ntmps21
  go_wp2
  go_quiet (fail)
  go_wp2
  go_ret
  exact ⟨rfl, _, rfl⟩
theorem next_small (cb : Nat) (w : World) (n : Int) (ad : Addr) (m c : Nat) (k : Nat) (x : Int) (hb : Blk w cb 69 #[.slice (some ad) m c, .int .i64 k]) (hk : k < m) (hm : m ≤ 1000000) (h0 : 1 ≤ n) (h1 : n ≤ 256)
  (hx : w.cell? (ad.add k) = some (.int .u8 x)) (hx0 : 0 ≤ x) (hx1 : x ≤ 255) :
  Calls Tryd.prog 21 #[.pointer (some ⟨cb, 0, none⟩), .int .i64 n] w fun e w' => e = .returned (.int .i64 (x % n)) ∧ ∃ q, w' = (w.drewN q).setCell ⟨cb, 1, none⟩ (.int .i64 ((k + 1 : Nat) : Int)) := by
 have hc0 := hb.cell 0
 have hc1 := hb.cell 1
 have hf0 := hb.frozen 0
 have hf1 := hb.frozen 1
 simp at hc0 hc1
 go_enter Tryd.func21, Tryd.ntmps21
 go_wp2
 go_quiet (fail)
 go_wp2
 go_quiet (fail)
 go_wp2
 go_ret
 exact ⟨rfl, _, rfl⟩
theorem Cod.moved {w : World} {cb : Nat} {A : Option Addr} {m c k : Nat} {l : List Int} (hb : Blk w cb 69 #[.slice A m c, .int .i64 k]) (hk : k + 1 ≤ m) (hm : m ≤ 1000000) (hl : Byt w cb A m l) (q : Nat) :
  Cod ((w.drewN q).setCell ⟨cb, 1, none⟩ (.int .i64 ((k + 1 : Nat) : Int))) cb ∧ w.grownBy ((w.drewN q).setCell ⟨cb, 1, none⟩ (.int .i64 ((k + 1 : Nat) : Int))) (some cb) := by
 refine ⟨⟨A, m, c, l, k + 1, ?_, hk, hm, ?_⟩, ?_⟩
 ·exact (hb.drewN q).set_ 1 _
 ·exact (hl.drewN q).keep fun p hp => World.cell?_setCell_other _ _ _ _ (fun e => by subst e; simp at hp)
 ·refine ⟨rfl, rfl, rfl, by simp, fun i hi hne => ?_⟩
  exact (Below.heap_setCell (w.drewN q) _ _ i (fun e => hne (by rw [e])))
def Chosen (n : Int) (w : World) (cb : Nat) (e : Ending) (w' : World) : Prop :=
 ∃ x : Int, e = .returned (.int .i64 x) ∧ 0 ≤ x ∧ x ≤ 65535 ∧ (1 ≤ n → x < n) ∧ Cod w' cb ∧ w.grownBy w' (some cb) ∧ w'.heap.size ≤ w.heap.size
theorem next_256 (cb : Nat) (w : World) (n : Int) (h : Cod w cb) (hn : n ≤ 256) :
  Calls Tryd.prog 21 #[.pointer (some ⟨cb, 0, none⟩), .int .i64 n] w (Chosen n w cb) := by
 obtain ⟨A, m, c, l, k, hb, hk, hm, hl⟩ := h
 by_cases hd : m ≤ k ∨ n < 1
 ·refine (next_end cb w n A m c k hb (by omega) hd).mono fun e w' ⟨he, q, hw⟩ => ?_
  subst hw
  refine ⟨0, he, by omega, by omega, by omega, ⟨A, m, c, l, k, hb.drewN q, hk, hm, hl.drewN q⟩, ⟨rfl, rfl, rfl, Nat.le_refl _, fun _ _ _ => rfl⟩, Nat.le_refl _⟩
 ·have hkm : k < m := by omega
  obtain ⟨ad, x, rfl, _, _, hx0, hx1, hc⟩ := hl.at_ hkm
  refine (next_small cb w n ad m c k x hb hkm hm (by omega) hn hc hx0 hx1).mono fun e w' ⟨he, q, hw⟩ => ?_
  subst hw
  obtain ⟨m1, m2⟩ := Cod.moved hb hkm hm hl q
  have e1 : 0 ≤ x % n := Int.emod_nonneg _ (by omega)
  have e2 : x % n < n := Int.emod_lt_of_pos _ (by omega)
  exact ⟨x % n, he, e1, by omega, fun _ => e2, m1, m2, by simp⟩
theorem next_big (cb : Nat) (w : World) (n : Int) (ad : Addr) (m c : Nat) (k : Nat) (x : Int) (hb : Blk w cb 69 #[.slice (some ad) m c, .int .i64 k]) (hk : k < m) (hm : m ≤ 1000000) (h1 : 256 < n)
  (hx : w.cell? (ad.add k) = some (.int .u8 x)) (hx0 : 0 ≤ x) (hx1 : x ≤ 255) (hC : ∀ q, Cod ((w.drewN q).setCell ⟨cb, 1, none⟩ (.int .i64 ((k + 1 : Nat) : Int))) cb) :
  Calls Tryd.prog 21 #[.pointer (some ⟨cb, 0, none⟩), .int .i64 n] w fun e w' => ∃ y q, e = .returned (.int .i64 ((256 * x + y) % n)) ∧ 0 ≤ y ∧ y ≤ 255 ∧ Cod w' cb ∧ ((w.drewN q).setCell ⟨cb, 1, none⟩ (.int .i64 ((k + 1 : Nat) : Int))).grownBy w' (some cb) ∧ w'.heap.size ≤ w.heap.size := by
 have hc0 := hb.cell 0
 have hc1 := hb.cell 1
 have hf0 := hb.frozen 0
 have hf1 := hb.frozen 1
 simp at hc0 hc1
 have HC := Lib.hid hC
 clear hC
 go_enter Tryd.func21, Tryd.ntmps21
 go_wp2_with fail
 go_quiet (fail)
 go_wp2_with fail
 go_quiet (fail)
 go_wp2_with fail
 refine (next_256 cb _ 256 (HC.out _) (by omega)).mono ?_
 rintro e w' ⟨y, rfl, hy0, _, hy1, hy2, hy3, hy4⟩
 have hy1 := hy1 (by omega)
 go_wp2_with fail
 go_ret
 exact ⟨y, _, rfl, hy0, by omega, hy2, hy3, Nat.le_trans hy4 (by simp)⟩
theorem next_any (cb : Nat) (w : World) (n : Int) (h : Cod w cb) :
  Calls Tryd.prog 21 #[.pointer (some ⟨cb, 0, none⟩), .int .i64 n] w (Chosen n w cb) := by
 by_cases hn : n ≤ 256
 ·exact next_256 cb w n h hn
 ·obtain ⟨A, m, c, l, k, hb, hk, hm, hl⟩ := h
  by_cases hd : m ≤ k
  ·refine (next_end cb w n A m c k hb (by omega) (.inl hd)).mono fun e w' ⟨he, q, hw⟩ => ?_
   subst hw
   refine ⟨0, he, by omega, by omega, by omega, ⟨A, m, c, l, k, hb.drewN q, hk, hm, hl.drewN q⟩, ⟨rfl, rfl, rfl, Nat.le_refl _, fun _ _ _ => rfl⟩, Nat.le_refl _⟩
  ·have hkm : k < m := by omega
   obtain ⟨ad, x, rfl, _, _, hx0, hx1, hc⟩ := hl.at_ hkm
   refine (next_big cb w n ad m c k x hb hkm hm (by omega) hc hx0 hx1 (fun q => (Cod.moved hb hkm hm hl q).1)).mono fun e w' ⟨y, q, he, hy0, hy1, hC, hg, hs⟩ => ?_
   have g := (Cod.moved hb hkm hm hl q).2
   have e1 : 0 ≤ (256 * x + y) % n := Int.emod_nonneg _ (by omega)
   have e2 : (256 * x + y) % n < n := Int.emod_lt_of_pos _ (by omega)
   have e3 : (256 * x + y) % n ≤ 65535 := by
    by_cases hlt : 256 * x + y < n
    ·rw [Int.emod_eq_of_lt (by omega) hlt]; omega
    ·omega
   refine ⟨_, he, e1, e3, fun _ => e2, hC, ⟨hg.os.trans g.os, hg.tape.trans g.tape, hg.output.trans g.output, Nat.le_trans g.size hg.size, fun i hi hne => ?_⟩, hs⟩
   exact (hg.block i (Nat.lt_of_lt_of_le hi g.size) hne).trans (g.block i hi hne)
end Go.Proofs.YtmeaeeehnkcblaaDoor

namespace Go.Proofs.YtmeaeeehnkcblaaDoor
open Go.RowKit
set_option maxRecDepth 20000
theorem rot32_2 (x : Int) (hx : W32 x) (w : World) : Calls Tryd.prog 79 #[.int .u32 x, .int .i64 (-2)] w fun e w' => e = .returned (.int .u32 (rotW x 2)) ∧ w = w' := by
 obtain ⟨h0, h1⟩ := hx
 have hb : bits .and .u64 (IntKind.u64.wrap (-2)) 31 = 30 := by decide
 go_enter Tryd.func79, Tryd.ntmps79
 go_wp2_with fail
 go_ret
 exact ⟨ret_int rfl, rfl⟩
theorem turn_2 (x : Int) (hx : W32 x) (w : World) : Calls Tryd.prog 76 #[.int .u32 x, .int .i64 2] w fun e w' => e = .returned (.int .u32 (rotW x 2)) ∧ w = w' := by
 go_enter Tryd.func76, Tryd.ntmps76
 go_wp2_with fail
 refine (rot32_2 x hx _).mono ?_
 rintro e w' ⟨rfl, rfl⟩
 go_wp2_with fail
 go_ret
 exact ⟨rfl, rfl⟩
theorem rturn_2 (x : Int) (hx : W32 x) (w : World) : Calls Tryd.prog 78 #[.int .u32 x, .int .i64 2] w fun e w' => e = .returned (.int .u32 (rotW x 2)) ∧ ∃ q, w' = w.drewN q := by
 obtain ⟨h0, h1⟩ := hx
 have hc := bits_or_comm (shlW x 30) (shrW x 2)
 have HC := Lib.hid hc
 clear hc
 go_enter Tryd.func78, Tryd.ntmps78
 go_wp2_with fail
 go_quiet (fail)
 go_wp2_with fail
 go_ret
 exact ⟨ret_int HC.out, _, rfl⟩
theorem rot32_6 (x : Int) (hx : W32 x) (w : World) : Calls Tryd.prog 79 #[.int .u32 x, .int .i64 (-6)] w fun e w' => e = .returned (.int .u32 (rotW x 6)) ∧ w = w' := by
 obtain ⟨h0, h1⟩ := hx
 have hb : bits .and .u64 (IntKind.u64.wrap (-6)) 31 = 26 := by decide
 go_enter Tryd.func79, Tryd.ntmps79
 go_wp2_with fail
 go_ret
 exact ⟨ret_int rfl, rfl⟩
theorem turn_6 (x : Int) (hx : W32 x) (w : World) : Calls Tryd.prog 76 #[.int .u32 x, .int .i64 6] w fun e w' => e = .returned (.int .u32 (rotW x 6)) ∧ w = w' := by
 go_enter Tryd.func76, Tryd.ntmps76
 go_wp2_with fail
 refine (rot32_6 x hx _).mono ?_
 rintro e w' ⟨rfl, rfl⟩
 go_wp2_with fail
 go_ret
 exact ⟨rfl, rfl⟩
theorem rturn_6 (x : Int) (hx : W32 x) (w : World) : Calls Tryd.prog 78 #[.int .u32 x, .int .i64 6] w fun e w' => e = .returned (.int .u32 (rotW x 6)) ∧ ∃ q, w' = w.drewN q := by
 obtain ⟨h0, h1⟩ := hx
 have hc := bits_or_comm (shlW x 26) (shrW x 6)
 have HC := Lib.hid hc
 clear hc
 go_enter Tryd.func78, Tryd.ntmps78
 go_wp2_with fail
 go_quiet (fail)
 go_wp2_with fail
 go_ret
 exact ⟨ret_int HC.out, _, rfl⟩
theorem rot32_7 (x : Int) (hx : W32 x) (w : World) : Calls Tryd.prog 79 #[.int .u32 x, .int .i64 (-7)] w fun e w' => e = .returned (.int .u32 (rotW x 7)) ∧ w = w' := by
 obtain ⟨h0, h1⟩ := hx
 have hb : bits .and .u64 (IntKind.u64.wrap (-7)) 31 = 25 := by decide
 go_enter Tryd.func79, Tryd.ntmps79
 go_wp2_with fail
 go_ret
 exact ⟨ret_int rfl, rfl⟩
theorem turn_7 (x : Int) (hx : W32 x) (w : World) : Calls Tryd.prog 76 #[.int .u32 x, .int .i64 7] w fun e w' => e = .returned (.int .u32 (rotW x 7)) ∧ w = w' := by
 go_enter Tryd.func76, Tryd.ntmps76
 go_wp2_with fail
 refine (rot32_7 x hx _).mono ?_
 rintro e w' ⟨rfl, rfl⟩
 go_wp2_with fail
 go_ret
 exact ⟨rfl, rfl⟩
theorem rturn_7 (x : Int) (hx : W32 x) (w : World) : Calls Tryd.prog 78 #[.int .u32 x, .int .i64 7] w fun e w' => e = .returned (.int .u32 (rotW x 7)) ∧ ∃ q, w' = w.drewN q := by
 obtain ⟨h0, h1⟩ := hx
 have hc := bits_or_comm (shlW x 25) (shrW x 7)
 have HC := Lib.hid hc
 clear hc
 go_enter Tryd.func78, Tryd.ntmps78
 go_wp2_with fail
 go_quiet (fail)
 go_wp2_with fail
 go_ret
 exact ⟨ret_int HC.out, _, rfl⟩
theorem rot32_11 (x : Int) (hx : W32 x) (w : World) : Calls Tryd.prog 79 #[.int .u32 x, .int .i64 (-11)] w fun e w' => e = .returned (.int .u32 (rotW x 11)) ∧ w = w' := by
 obtain ⟨h0, h1⟩ := hx
 have hb : bits .and .u64 (IntKind.u64.wrap (-11)) 31 = 21 := by decide
 go_enter Tryd.func79, Tryd.ntmps79
 go_wp2_with fail
 go_ret
 exact ⟨ret_int rfl, rfl⟩
theorem turn_11 (x : Int) (hx : W32 x) (w : World) : Calls Tryd.prog 76 #[.int .u32 x, .int .i64 11] w fun e w' => e = .returned (.int .u32 (rotW x 11)) ∧ w = w' := by
 go_enter Tryd.func76, Tryd.ntmps76
 go_wp2_with fail
 refine (rot32_11 x hx _).mono ?_
 rintro e w' ⟨rfl, rfl⟩
 go_wp2_with fail
 go_ret
 exact ⟨rfl, rfl⟩
theorem rturn_11 (x : Int) (hx : W32 x) (w : World) : Calls Tryd.prog 78 #[.int .u32 x, .int .i64 11] w fun e w' => e = .returned (.int .u32 (rotW x 11)) ∧ ∃ q, w' = w.drewN q := by
 obtain ⟨h0, h1⟩ := hx
 have hc := bits_or_comm (shlW x 21) (shrW x 11)
 have HC := Lib.hid hc
 clear hc
 go_enter Tryd.func78, Tryd.ntmps78
 go_wp2_with fail
 go_quiet (fail)
 go_wp2_with fail
 go_ret
 exact ⟨ret_int HC.out, _, rfl⟩
theorem rot32_13 (x : Int) (hx : W32 x) (w : World) : Calls Tryd.prog 79 #[.int .u32 x, .int .i64 (-13)] w fun e w' => e = .returned (.int .u32 (rotW x 13)) ∧ w = w' := by
 obtain ⟨h0, h1⟩ := hx
 have hb : bits .and .u64 (IntKind.u64.wrap (-13)) 31 = 19 := by decide
 go_enter Tryd.func79, Tryd.ntmps79
 go_wp2_with fail
 go_ret
 exact ⟨ret_int rfl, rfl⟩
theorem turn_13 (x : Int) (hx : W32 x) (w : World) : Calls Tryd.prog 76 #[.int .u32 x, .int .i64 13] w fun e w' => e = .returned (.int .u32 (rotW x 13)) ∧ w = w' := by
 go_enter Tryd.func76, Tryd.ntmps76
 go_wp2_with fail
 refine (rot32_13 x hx _).mono ?_
 rintro e w' ⟨rfl, rfl⟩
 go_wp2_with fail
 go_ret
 exact ⟨rfl, rfl⟩
theorem rturn_13 (x : Int) (hx : W32 x) (w : World) : Calls Tryd.prog 78 #[.int .u32 x, .int .i64 13] w fun e w' => e = .returned (.int .u32 (rotW x 13)) ∧ ∃ q, w' = w.drewN q := by
 obtain ⟨h0, h1⟩ := hx
 have hc := bits_or_comm (shlW x 19) (shrW x 13)
 have HC := Lib.hid hc
 clear hc
 go_enter Tryd.func78, Tryd.ntmps78
 go_wp2_with fail
 go_quiet (fail)
 go_wp2_with fail
 go_ret
 exact ⟨ret_int HC.out, _, rfl⟩
theorem rot32_17 (x : Int) (hx : W32 x) (w : World) : Calls Tryd.prog 79 #[.int .u32 x, .int .i64 (-17)] w fun e w' => e = .returned (.int .u32 (rotW x 17)) ∧ w = w' := by
 obtain ⟨h0, h1⟩ := hx
 have hb : bits .and .u64 (IntKind.u64.wrap (-17)) 31 = 15 := by decide
 go_enter Tryd.func79, Tryd.ntmps79
 go_wp2_with fail
 go_ret
 exact ⟨ret_int rfl, rfl⟩
theorem turn_17 (x : Int) (hx : W32 x) (w : World) : Calls Tryd.prog 76 #[.int .u32 x, .int .i64 17] w fun e w' => e = .returned (.int .u32 (rotW x 17)) ∧ w = w' := by
 go_enter Tryd.func76, Tryd.ntmps76
 go_wp2_with fail
 refine (rot32_17 x hx _).mono ?_
 rintro e w' ⟨rfl, rfl⟩
 go_wp2_with fail
 go_ret
 exact ⟨rfl, rfl⟩
theorem rturn_17 (x : Int) (hx : W32 x) (w : World) : Calls Tryd.prog 78 #[.int .u32 x, .int .i64 17] w fun e w' => e = .returned (.int .u32 (rotW x 17)) ∧ ∃ q, w' = w.drewN q := by
 obtain ⟨h0, h1⟩ := hx
 have hc := bits_or_comm (shlW x 15) (shrW x 17)
 have HC := Lib.hid hc
 clear hc
 go_enter Tryd.func78, Tryd.ntmps78
 go_wp2_with fail
 go_quiet (fail)
 go_wp2_with fail
 go_ret
 exact ⟨ret_int HC.out, _, rfl⟩
theorem rot32_18 (x : Int) (hx : W32 x) (w : World) : Calls Tryd.prog 79 #[.int .u32 x, .int .i64 (-18)] w fun e w' => e = .returned (.int .u32 (rotW x 18)) ∧ w = w' := by
 obtain ⟨h0, h1⟩ := hx
 have hb : bits .and .u64 (IntKind.u64.wrap (-18)) 31 = 14 := by decide
 go_enter Tryd.func79, Tryd.ntmps79
 go_wp2_with fail
 go_ret
 exact ⟨ret_int rfl, rfl⟩
theorem turn_18 (x : Int) (hx : W32 x) (w : World) : Calls Tryd.prog 76 #[.int .u32 x, .int .i64 18] w fun e w' => e = .returned (.int .u32 (rotW x 18)) ∧ w = w' := by
 go_enter Tryd.func76, Tryd.ntmps76
 go_wp2_with fail
 refine (rot32_18 x hx _).mono ?_
 rintro e w' ⟨rfl, rfl⟩
 go_wp2_with fail
 go_ret
 exact ⟨rfl, rfl⟩
theorem rturn_18 (x : Int) (hx : W32 x) (w : World) : Calls Tryd.prog 78 #[.int .u32 x, .int .i64 18] w fun e w' => e = .returned (.int .u32 (rotW x 18)) ∧ ∃ q, w' = w.drewN q := by
 obtain ⟨h0, h1⟩ := hx
 have hc := bits_or_comm (shlW x 14) (shrW x 18)
 have HC := Lib.hid hc
 clear hc
 go_enter Tryd.func78, Tryd.ntmps78
 go_wp2_with fail
 go_quiet (fail)
 go_wp2_with fail
 go_ret
 exact ⟨ret_int HC.out, _, rfl⟩
theorem rot32_19 (x : Int) (hx : W32 x) (w : World) : Calls Tryd.prog 79 #[.int .u32 x, .int .i64 (-19)] w fun e w' => e = .returned (.int .u32 (rotW x 19)) ∧ w = w' := by
 obtain ⟨h0, h1⟩ := hx
 have hb : bits .and .u64 (IntKind.u64.wrap (-19)) 31 = 13 := by decide
 go_enter Tryd.func79, Tryd.ntmps79
 go_wp2_with fail
 go_ret
 exact ⟨ret_int rfl, rfl⟩
theorem turn_19 (x : Int) (hx : W32 x) (w : World) : Calls Tryd.prog 76 #[.int .u32 x, .int .i64 19] w fun e w' => e = .returned (.int .u32 (rotW x 19)) ∧ w = w' := by
 go_enter Tryd.func76, Tryd.ntmps76
 go_wp2_with fail
 refine (rot32_19 x hx _).mono ?_
 rintro e w' ⟨rfl, rfl⟩
 go_wp2_with fail
 go_ret
 exact ⟨rfl, rfl⟩
theorem rturn_19 (x : Int) (hx : W32 x) (w : World) : Calls Tryd.prog 78 #[.int .u32 x, .int .i64 19] w fun e w' => e = .returned (.int .u32 (rotW x 19)) ∧ ∃ q, w' = w.drewN q := by
 obtain ⟨h0, h1⟩ := hx
 have hc := bits_or_comm (shlW x 13) (shrW x 19)
 have HC := Lib.hid hc
 clear hc
 go_enter Tryd.func78, Tryd.ntmps78
 go_wp2_with fail
 go_quiet (fail)
 go_wp2_with fail
 go_ret
 exact ⟨ret_int HC.out, _, rfl⟩
theorem rot32_22 (x : Int) (hx : W32 x) (w : World) : Calls Tryd.prog 79 #[.int .u32 x, .int .i64 (-22)] w fun e w' => e = .returned (.int .u32 (rotW x 22)) ∧ w = w' := by
 obtain ⟨h0, h1⟩ := hx
 have hb : bits .and .u64 (IntKind.u64.wrap (-22)) 31 = 10 := by decide
 go_enter Tryd.func79, Tryd.ntmps79
 go_wp2_with fail
 go_ret
 exact ⟨ret_int rfl, rfl⟩
theorem turn_22 (x : Int) (hx : W32 x) (w : World) : Calls Tryd.prog 76 #[.int .u32 x, .int .i64 22] w fun e w' => e = .returned (.int .u32 (rotW x 22)) ∧ w = w' := by
 go_enter Tryd.func76, Tryd.ntmps76
 go_wp2_with fail
 refine (rot32_22 x hx _).mono ?_
 rintro e w' ⟨rfl, rfl⟩
 go_wp2_with fail
 go_ret
 exact ⟨rfl, rfl⟩
theorem rturn_22 (x : Int) (hx : W32 x) (w : World) : Calls Tryd.prog 78 #[.int .u32 x, .int .i64 22] w fun e w' => e = .returned (.int .u32 (rotW x 22)) ∧ ∃ q, w' = w.drewN q := by
 obtain ⟨h0, h1⟩ := hx
 have hc := bits_or_comm (shlW x 10) (shrW x 22)
 have HC := Lib.hid hc
 clear hc
 go_enter Tryd.func78, Tryd.ntmps78
 go_wp2_with fail
 go_quiet (fail)
 go_wp2_with fail
 go_ret
 exact ⟨ret_int HC.out, _, rfl⟩
theorem rot32_25 (x : Int) (hx : W32 x) (w : World) : Calls Tryd.prog 79 #[.int .u32 x, .int .i64 (-25)] w fun e w' => e = .returned (.int .u32 (rotW x 25)) ∧ w = w' := by
 obtain ⟨h0, h1⟩ := hx
 have hb : bits .and .u64 (IntKind.u64.wrap (-25)) 31 = 7 := by decide
 go_enter Tryd.func79, Tryd.ntmps79
 go_wp2_with fail
 go_ret
 exact ⟨ret_int rfl, rfl⟩
theorem turn_25 (x : Int) (hx : W32 x) (w : World) : Calls Tryd.prog 76 #[.int .u32 x, .int .i64 25] w fun e w' => e = .returned (.int .u32 (rotW x 25)) ∧ w = w' := by
 go_enter Tryd.func76, Tryd.ntmps76
 go_wp2_with fail
 refine (rot32_25 x hx _).mono ?_
 rintro e w' ⟨rfl, rfl⟩
 go_wp2_with fail
 go_ret
 exact ⟨rfl, rfl⟩
theorem rturn_25 (x : Int) (hx : W32 x) (w : World) : Calls Tryd.prog 78 #[.int .u32 x, .int .i64 25] w fun e w' => e = .returned (.int .u32 (rotW x 25)) ∧ ∃ q, w' = w.drewN q := by
 obtain ⟨h0, h1⟩ := hx
 have hc := bits_or_comm (shlW x 7) (shrW x 25)
 have HC := Lib.hid hc
 clear hc
 go_enter Tryd.func78, Tryd.ntmps78
 go_wp2_with fail
 go_quiet (fail)
 go_wp2_with fail
 go_ret
 exact ⟨ret_int HC.out, _, rfl⟩
end Go.Proofs.YtmeaeeehnkcblaaDoor

namespace Go.Proofs.YtmeaeeehnkcblaaDoor
open Go.RowKit
set_option maxRecDepth 20000
set_option maxRecDepth 10000 in
theorem cut_mid (A : Option Addr) (n c lo : Nat) (a b : Int) (ha : a = lo) (hb : b = ((lo + 4 : Nat) : Int)) (h : lo + 4 ≤ c) (h1 : c ≠ lo) (w : World) : (Instr.sliceAt 28 (.slice A n c) (some (.int .i64 a)) (some (.int .i64 b)) none).run Tryd.prog w = .ok (.slice (A.map (·.add lo)) 4 (c - lo)) w := by
 subst ha hb
 rw [run_sliceAt_slice w 28 _ _ _ _ Tryd.underlying28, run_slice_lh w 28 A n c Tryd.underlying28 .i64 .i64 lo ((lo + 4 : Nat) : Int) (by omega) (by omega) (by omega)]
 have hs : (sizeOf (Tryd.prog.elem 28)).run Tryd.prog w = .ok 1 w := rfl
 have h1 : ((lo + 4 : Nat) : Int).toNat = lo + 4 := rfl
 simp only [hs, Result.andThen, sliced, Int.toNat_natCast, h1]
 rw [if_neg (by omega), Nat.mul_one, Nat.add_sub_cancel_left]
theorem byt_cell_at {w : World} {B b0 o n k : Nat} {l : List Int} (h : Byt w B (some ⟨b0, o, none⟩) n l) (hk : k < n) : ∃ x, l[k]? = some x ∧ 0 ≤ x ∧ x ≤ 255 ∧ w.cell? ⟨b0, o + k, none⟩ = some (.int .u8 x) := by
 obtain ⟨b', o', x, hA, _, h1, h2, h3, h4⟩ := h.at' hk
 injection hA with e
 injection e with e1 e2
 subst e1 e2
 exact ⟨x, h1, h2, h3, h4⟩
theorem be_bd3 (l : List Int) (h : Bs l) (hl : l.length ≤ 3) : 0 ≤ be l ∧ be l ≤ 16777215 := by
 have := be_bd l h
 have h2 : (256 : Int) ^ l.length ≤ 16777216 := by
  rcases (by omega : l.length = 0 ∨ l.length = 1 ∨ l.length = 2 ∨ l.length = 3) with e | e | e | e <;> (rw [e]; decide)
 omega
theorem arrOf_nil : #[.int .u32 0, .int .u32 0, .int .u32 0, .int .u32 0, .int .u32 0, .int .u32 0, .int .u32 0, .int .u32 0, .int .u32 0, .int .u32 0, .int .u32 0, .int .u32 0, .int .u32 0, .int .u32 0, .int .u32 0, .int .u32 0, .int .u32 0, .int .u32 0, .int .u32 0, .int .u32 0, .int .u32 0, .int .u32 0, .int .u32 0, .int .u32 0, .int .u32 0, .int .u32 0, .int .u32 0, .int .u32 0, .int .u32 0, .int .u32 0, .int .u32 0, .int .u32 0, .int .u32 0, .int .u32 0, .int .u32 0, .int .u32 0, .int .u32 0, .int .u32 0, .int .u32 0, .int .u32 0, .int .u32 0, .int .u32 0, .int .u32 0, .int .u32 0, .int .u32 0, .int .u32 0, .int .u32 0, .int .u32 0, .int .u32 0, .int .u32 0, .int .u32 0, .int .u32 0, .int .u32 0, .int .u32 0, .int .u32 0, .int .u32 0, .int .u32 0, .int .u32 0, .int .u32 0, .int .u32 0, .int .u32 0, .int .u32 0, .int .u32 0, .int .u32 0] = arrOf [] := rfl
theorem add_at (b o k : Nat) : (⟨b, o, none⟩ : Addr).add k = ⟨b, o + k, none⟩ := by unfold Addr.add; split <;> simp_all
set_option maxRecDepth 100000 in
set_option maxHeartbeats 4000000 in
theorem words_any (b0 o c : Nat) (b : List Int) (w : World) (hb : Byt w w.heap.size (some ⟨b0, o, none⟩) 64 b) (hc : 64 ≤ c) (hc2 : c ≤ maxLen) :
  Calls Tryd.prog 75 #[.slice (some ⟨b0, o, none⟩) 64 c] w fun e w' => e = .returned (.agg (arrOf (wList b 48))) ∧ Below w.heap.size w w' := by
 unfold maxLen at hc2
 have R0 := (Blk.new w 111 #[.int .u32 0, .int .u32 0, .int .u32 0, .int .u32 0, .int .u32 0, .int .u32 0, .int .u32 0, .int .u32 0, .int .u32 0, .int .u32 0, .int .u32 0, .int .u32 0, .int .u32 0, .int .u32 0, .int .u32 0, .int .u32 0, .int .u32 0, .int .u32 0, .int .u32 0, .int .u32 0, .int .u32 0, .int .u32 0, .int .u32 0, .int .u32 0, .int .u32 0, .int .u32 0, .int .u32 0, .int .u32 0, .int .u32 0, .int .u32 0, .int .u32 0, .int .u32 0, .int .u32 0, .int .u32 0, .int .u32 0, .int .u32 0, .int .u32 0, .int .u32 0, .int .u32 0, .int .u32 0, .int .u32 0, .int .u32 0, .int .u32 0, .int .u32 0, .int .u32 0, .int .u32 0, .int .u32 0, .int .u32 0, .int .u32 0, .int .u32 0, .int .u32 0, .int .u32 0, .int .u32 0, .int .u32 0, .int .u32 0, .int .u32 0, .int .u32 0, .int .u32 0, .int .u32 0, .int .u32 0, .int .u32 0, .int .u32 0, .int .u32 0, .int .u32 0]).alloc (.cells #[.int .u32 0, .int .u32 0, .int .u32 0, .int .u32 0, .int .u32 0, .int .u32 0, .int .u32 0, .int .u32 0, .int .u32 0, .int .u32 0, .int .u32 0, .int .u32 0, .int .u32 0, .int .u32 0, .int .u32 0, .int .u32 0, .int .u32 0, .int .u32 0, .int .u32 0, .int .u32 0, .int .u32 0, .int .u32 0, .int .u32 0, .int .u32 0, .int .u32 0, .int .u32 0, .int .u32 0, .int .u32 0, .int .u32 0, .int .u32 0, .int .u32 0, .int .u32 0, .int .u32 0, .int .u32 0, .int .u32 0, .int .u32 0, .int .u32 0, .int .u32 0, .int .u32 0, .int .u32 0, .int .u32 0, .int .u32 0, .int .u32 0, .int .u32 0, .int .u32 0, .int .u32 0, .int .u32 0, .int .u32 0, .int .u32 0, .int .u32 0, .int .u32 0, .int .u32 0, .int .u32 0, .int .u32 0, .int .u32 0, .int .u32 0, .int .u32 0, .int .u32 0, .int .u32 0, .int .u32 0, .int .u32 0, .int .u32 0, .int .u32 0, .int .u32 0] 111)
 have X0 : Blk ((w.alloc (.cells #[.int .u32 0, .int .u32 0, .int .u32 0, .int .u32 0, .int .u32 0, .int .u32 0, .int .u32 0, .int .u32 0, .int .u32 0, .int .u32 0, .int .u32 0, .int .u32 0, .int .u32 0, .int .u32 0, .int .u32 0, .int .u32 0, .int .u32 0, .int .u32 0, .int .u32 0, .int .u32 0, .int .u32 0, .int .u32 0, .int .u32 0, .int .u32 0, .int .u32 0, .int .u32 0, .int .u32 0, .int .u32 0, .int .u32 0, .int .u32 0, .int .u32 0, .int .u32 0, .int .u32 0, .int .u32 0, .int .u32 0, .int .u32 0, .int .u32 0, .int .u32 0, .int .u32 0, .int .u32 0, .int .u32 0, .int .u32 0, .int .u32 0, .int .u32 0, .int .u32 0, .int .u32 0, .int .u32 0, .int .u32 0, .int .u32 0, .int .u32 0, .int .u32 0, .int .u32 0, .int .u32 0, .int .u32 0, .int .u32 0, .int .u32 0, .int .u32 0, .int .u32 0, .int .u32 0, .int .u32 0, .int .u32 0, .int .u32 0, .int .u32 0, .int .u32 0] 111)).alloc (.cells #[.int .u32 0, .int .u32 0, .int .u32 0, .int .u32 0, .int .u32 0, .int .u32 0, .int .u32 0, .int .u32 0, .int .u32 0, .int .u32 0, .int .u32 0, .int .u32 0, .int .u32 0, .int .u32 0, .int .u32 0, .int .u32 0, .int .u32 0, .int .u32 0, .int .u32 0, .int .u32 0, .int .u32 0, .int .u32 0, .int .u32 0, .int .u32 0, .int .u32 0, .int .u32 0, .int .u32 0, .int .u32 0, .int .u32 0, .int .u32 0, .int .u32 0, .int .u32 0, .int .u32 0, .int .u32 0, .int .u32 0, .int .u32 0, .int .u32 0, .int .u32 0, .int .u32 0, .int .u32 0, .int .u32 0, .int .u32 0, .int .u32 0, .int .u32 0, .int .u32 0, .int .u32 0, .int .u32 0, .int .u32 0, .int .u32 0, .int .u32 0, .int .u32 0, .int .u32 0, .int .u32 0, .int .u32 0, .int .u32 0, .int .u32 0, .int .u32 0, .int .u32 0, .int .u32 0, .int .u32 0, .int .u32 0, .int .u32 0, .int .u32 0, .int .u32 0] 111)) (w.heap.size + 1) 111 #[.int .u32 0, .int .u32 0, .int .u32 0, .int .u32 0, .int .u32 0, .int .u32 0, .int .u32 0, .int .u32 0, .int .u32 0, .int .u32 0, .int .u32 0, .int .u32 0, .int .u32 0, .int .u32 0, .int .u32 0, .int .u32 0, .int .u32 0, .int .u32 0, .int .u32 0, .int .u32 0, .int .u32 0, .int .u32 0, .int .u32 0, .int .u32 0, .int .u32 0, .int .u32 0, .int .u32 0, .int .u32 0, .int .u32 0, .int .u32 0, .int .u32 0, .int .u32 0, .int .u32 0, .int .u32 0, .int .u32 0, .int .u32 0, .int .u32 0, .int .u32 0, .int .u32 0, .int .u32 0, .int .u32 0, .int .u32 0, .int .u32 0, .int .u32 0, .int .u32 0, .int .u32 0, .int .u32 0, .int .u32 0, .int .u32 0, .int .u32 0, .int .u32 0, .int .u32 0, .int .u32 0, .int .u32 0, .int .u32 0, .int .u32 0, .int .u32 0, .int .u32 0, .int .u32 0, .int .u32 0, .int .u32 0, .int .u32 0, .int .u32 0, .int .u32 0] := by
  have := Blk.new (w.alloc (.cells #[.int .u32 0, .int .u32 0, .int .u32 0, .int .u32 0, .int .u32 0, .int .u32 0, .int .u32 0, .int .u32 0, .int .u32 0, .int .u32 0, .int .u32 0, .int .u32 0, .int .u32 0, .int .u32 0, .int .u32 0, .int .u32 0, .int .u32 0, .int .u32 0, .int .u32 0, .int .u32 0, .int .u32 0, .int .u32 0, .int .u32 0, .int .u32 0, .int .u32 0, .int .u32 0, .int .u32 0, .int .u32 0, .int .u32 0, .int .u32 0, .int .u32 0, .int .u32 0, .int .u32 0, .int .u32 0, .int .u32 0, .int .u32 0, .int .u32 0, .int .u32 0, .int .u32 0, .int .u32 0, .int .u32 0, .int .u32 0, .int .u32 0, .int .u32 0, .int .u32 0, .int .u32 0, .int .u32 0, .int .u32 0, .int .u32 0, .int .u32 0, .int .u32 0, .int .u32 0, .int .u32 0, .int .u32 0, .int .u32 0, .int .u32 0, .int .u32 0, .int .u32 0, .int .u32 0, .int .u32 0, .int .u32 0, .int .u32 0, .int .u32 0, .int .u32 0] 111)) 111 #[.int .u32 0, .int .u32 0, .int .u32 0, .int .u32 0, .int .u32 0, .int .u32 0, .int .u32 0, .int .u32 0, .int .u32 0, .int .u32 0, .int .u32 0, .int .u32 0, .int .u32 0, .int .u32 0, .int .u32 0, .int .u32 0, .int .u32 0, .int .u32 0, .int .u32 0, .int .u32 0, .int .u32 0, .int .u32 0, .int .u32 0, .int .u32 0, .int .u32 0, .int .u32 0, .int .u32 0, .int .u32 0, .int .u32 0, .int .u32 0, .int .u32 0, .int .u32 0, .int .u32 0, .int .u32 0, .int .u32 0, .int .u32 0, .int .u32 0, .int .u32 0, .int .u32 0, .int .u32 0, .int .u32 0, .int .u32 0, .int .u32 0, .int .u32 0, .int .u32 0, .int .u32 0, .int .u32 0, .int .u32 0, .int .u32 0, .int .u32 0, .int .u32 0, .int .u32 0, .int .u32 0, .int .u32 0, .int .u32 0, .int .u32 0, .int .u32 0, .int .u32 0, .int .u32 0, .int .u32 0, .int .u32 0, .int .u32 0, .int .u32 0, .int .u32 0]
  rw [show (w.alloc (.cells #[.int .u32 0, .int .u32 0, .int .u32 0, .int .u32 0, .int .u32 0, .int .u32 0, .int .u32 0, .int .u32 0, .int .u32 0, .int .u32 0, .int .u32 0, .int .u32 0, .int .u32 0, .int .u32 0, .int .u32 0, .int .u32 0, .int .u32 0, .int .u32 0, .int .u32 0, .int .u32 0, .int .u32 0, .int .u32 0, .int .u32 0, .int .u32 0, .int .u32 0, .int .u32 0, .int .u32 0, .int .u32 0, .int .u32 0, .int .u32 0, .int .u32 0, .int .u32 0, .int .u32 0, .int .u32 0, .int .u32 0, .int .u32 0, .int .u32 0, .int .u32 0, .int .u32 0, .int .u32 0, .int .u32 0, .int .u32 0, .int .u32 0, .int .u32 0, .int .u32 0, .int .u32 0, .int .u32 0, .int .u32 0, .int .u32 0, .int .u32 0, .int .u32 0, .int .u32 0, .int .u32 0, .int .u32 0, .int .u32 0, .int .u32 0, .int .u32 0, .int .u32 0, .int .u32 0, .int .u32 0, .int .u32 0, .int .u32 0, .int .u32 0, .int .u32 0] 111)).heap.size = w.heap.size + 1 by simp] at this
  exact this
 have W0 := ((Below.refl w.heap.size w).alloc (Nat.le_refl _) (.cells #[.int .u32 0, .int .u32 0, .int .u32 0, .int .u32 0, .int .u32 0, .int .u32 0, .int .u32 0, .int .u32 0, .int .u32 0, .int .u32 0, .int .u32 0, .int .u32 0, .int .u32 0, .int .u32 0, .int .u32 0, .int .u32 0, .int .u32 0, .int .u32 0, .int .u32 0, .int .u32 0, .int .u32 0, .int .u32 0, .int .u32 0, .int .u32 0, .int .u32 0, .int .u32 0, .int .u32 0, .int .u32 0, .int .u32 0, .int .u32 0, .int .u32 0, .int .u32 0, .int .u32 0, .int .u32 0, .int .u32 0, .int .u32 0, .int .u32 0, .int .u32 0, .int .u32 0, .int .u32 0, .int .u32 0, .int .u32 0, .int .u32 0, .int .u32 0, .int .u32 0, .int .u32 0, .int .u32 0, .int .u32 0, .int .u32 0, .int .u32 0, .int .u32 0, .int .u32 0, .int .u32 0, .int .u32 0, .int .u32 0, .int .u32 0, .int .u32 0, .int .u32 0, .int .u32 0, .int .u32 0, .int .u32 0, .int .u32 0, .int .u32 0, .int .u32 0] 111)).alloc (by simp) (.cells #[.int .u32 0, .int .u32 0, .int .u32 0, .int .u32 0, .int .u32 0, .int .u32 0, .int .u32 0, .int .u32 0, .int .u32 0, .int .u32 0, .int .u32 0, .int .u32 0, .int .u32 0, .int .u32 0, .int .u32 0, .int .u32 0, .int .u32 0, .int .u32 0, .int .u32 0, .int .u32 0, .int .u32 0, .int .u32 0, .int .u32 0, .int .u32 0, .int .u32 0, .int .u32 0, .int .u32 0, .int .u32 0, .int .u32 0, .int .u32 0, .int .u32 0, .int .u32 0, .int .u32 0, .int .u32 0, .int .u32 0, .int .u32 0, .int .u32 0, .int .u32 0, .int .u32 0, .int .u32 0, .int .u32 0, .int .u32 0, .int .u32 0, .int .u32 0, .int .u32 0, .int .u32 0, .int .u32 0, .int .u32 0, .int .u32 0, .int .u32 0, .int .u32 0, .int .u32 0, .int .u32 0, .int .u32 0, .int .u32 0, .int .u32 0, .int .u32 0, .int .u32 0, .int .u32 0, .int .u32 0, .int .u32 0, .int .u32 0, .int .u32 0, .int .u32 0] 111)
 replace R0 : Blk _ _ _ (arrOf []) := R0
 replace X0 : Blk _ _ _ (arrOf []) := X0
 go_enter Tryd.func75, Tryd.ntmps75
 go_upto_region 2 with fail
 generalize (w.alloc (.cells #[.int .u32 0, .int .u32 0, .int .u32 0, .int .u32 0, .int .u32 0, .int .u32 0, .int .u32 0, .int .u32 0, .int .u32 0, .int .u32 0, .int .u32 0, .int .u32 0, .int .u32 0, .int .u32 0, .int .u32 0, .int .u32 0, .int .u32 0, .int .u32 0, .int .u32 0, .int .u32 0, .int .u32 0, .int .u32 0, .int .u32 0, .int .u32 0, .int .u32 0, .int .u32 0, .int .u32 0, .int .u32 0, .int .u32 0, .int .u32 0, .int .u32 0, .int .u32 0, .int .u32 0, .int .u32 0, .int .u32 0, .int .u32 0, .int .u32 0, .int .u32 0, .int .u32 0, .int .u32 0, .int .u32 0, .int .u32 0, .int .u32 0, .int .u32 0, .int .u32 0, .int .u32 0, .int .u32 0, .int .u32 0, .int .u32 0, .int .u32 0, .int .u32 0, .int .u32 0, .int .u32 0, .int .u32 0, .int .u32 0, .int .u32 0, .int .u32 0, .int .u32 0, .int .u32 0, .int .u32 0, .int .u32 0, .int .u32 0, .int .u32 0, .int .u32 0] 111)).alloc (.cells #[.int .u32 0, .int .u32 0, .int .u32 0, .int .u32 0, .int .u32 0, .int .u32 0, .int .u32 0, .int .u32 0, .int .u32 0, .int .u32 0, .int .u32 0, .int .u32 0, .int .u32 0, .int .u32 0, .int .u32 0, .int .u32 0, .int .u32 0, .int .u32 0, .int .u32 0, .int .u32 0, .int .u32 0, .int .u32 0, .int .u32 0, .int .u32 0, .int .u32 0, .int .u32 0, .int .u32 0, .int .u32 0, .int .u32 0, .int .u32 0, .int .u32 0, .int .u32 0, .int .u32 0, .int .u32 0, .int .u32 0, .int .u32 0, .int .u32 0, .int .u32 0, .int .u32 0, .int .u32 0, .int .u32 0, .int .u32 0, .int .u32 0, .int .u32 0, .int .u32 0, .int .u32 0, .int .u32 0, .int .u32 0, .int .u32 0, .int .u32 0, .int .u32 0, .int .u32 0, .int .u32 0, .int .u32 0, .int .u32 0, .int .u32 0, .int .u32 0, .int .u32 0, .int .u32 0, .int .u32 0, .int .u32 0, .int .u32 0, .int .u32 0, .int .u32 0] 111) = w1 at *
 go_wp2_with fail
 go_loopw [12] (fun s12 wr => ∃ i : Nat, i ≤ 16 ∧ s12 = .int .i64 i ∧ Blk wr w.heap.size 111 (arrOf []) ∧ Blk wr (w.heap.size + 1) 111 (arrOf (w16 b i)) ∧ Below w.heap.size w wr) (fun s12 _ => 16 - (intOf s12).toNat)
 case atStart => exact ⟨0, by omega, rfl, R0, X0, W0⟩
 case round =>
  obtain ⟨i, hi, rfl, R1, X1, W1⟩ := hrel
  clear R0 X0 W0
  by_cases hlt : i < 16
  ·have hcut : ∀ wx : World, (Instr.sliceAt 28 (.slice (some ⟨b0, o, none⟩) 64 c) (some (.int .i64 (4 * (i : Int)))) (some (.int .i64 (4 * (i : Int) + 4))) none).run Tryd.prog wx = .ok (.slice (some ⟨b0, o + 4 * i, none⟩) 4 (c - 4 * i)) wx := by
    intro wx
    have := cut_mid (some ⟨b0, o, none⟩) 64 c (4 * i) (4 * (i : Int)) (4 * (i : Int) + 4) (by omega) (by omega) (by omega) (by omega) wx
    rw [this, Option.map_some, add_at]
   have hx := (hb.below W1)
   rw [arrOf_grow _ (by rw [w16_len]; omega)] at X1
   go_wp2_with fail
   obtain ⟨wo, rfl⟩ : ∃ wo : World, wo = wr := ⟨_, rfl⟩
   go_loopw [23] (fun s23 wr => ∃ k : Nat, k ≤ 4 ∧ s23 = .int .i64 k ∧ Blk wr w.heap.size 111 (arrOf []) ∧ Blk wr (w.heap.size + 1) 111 (arrOf (w16 b i ++ [be (((b.drop (4 * i)).take 4).take k)])) ∧ Below w.heap.size w wr) (fun s23 _ => 4 - (intOf s23).toNat)
   case atStart => exact ⟨0, by omega, rfl, R1, X1, W1⟩
   case round =>
    obtain ⟨k, hk, rfl, R2, X2, W2⟩ := hrel
    clear R1 X1 W1
    by_cases hlt2 : k < 4
    ·obtain ⟨x, hxm, hx0, hx1, hxc⟩ := byt_cell_at (hb.below W2) (k := 4 * i + k) (by omega)
     have hxk : (((b.drop (4 * i)).take 4)[k]?) = some x := by rw [List.getElem?_take, if_pos hlt2, List.getElem?_drop]; exact hxm
     have hbt := be_take _ k x hxk
     have hv := be_bd7 (((b.drop (4 * i)).take 4).take k) (((hb.2.drop _).take _).take _) (by simp; omega)
     have hv3 := be_bd3 (((b.drop (4 * i)).take 4).take k) (((hb.2.drop _).take _).take _) (by simp; omega)
     rw [← Nat.add_assoc] at hxc
     have HT := Lib.hid hbt
     clear hbt hxm hxk
     generalize be (((b.drop (4 * i)).take 4).take k) = v at *
     have hor := or_byte v x hv3.1 hv3.2 hx0 hx1
     have hw : (v * 256) % 4294967296 = v * 256 := by omega
     have hlen : (w16 b i).length = i := w16_len b i
     have q1 : wr.cell? ⟨w.heap.size + 1, i, none⟩ = some (.int .u32 v) := by
      rw [X2.cell i, arrOf_at _ _ (by simp [hlen])]
      simp [List.getD_eq_getElem?_getD, List.getElem?_append_right, hlen]
     have q2 : wr.frozen? ⟨w.heap.size + 1, i, none⟩ = false := X2.frozen i
     have X3 := X2.set_ i (.int .u32 (v * 256 + x))
     have hset := arrOf_set (w16 b i) v (v * 256 + x) (by omega)
     rw [hlen] at hset
     rw [hset, ← HT.out] at X3
     have R3 := R2.far (p := ⟨w.heap.size + 1, i, none⟩) (by simp) (.int .u32 (v * 256 + x))
     have W3 := W2.setCell (p := ⟨w.heap.size + 1, i, none⟩) (by simp) (.int .u32 (v * 256 + x))
     rw [HT.out] at X3
     clear hset hlen X2 R2 W2
     go_wp2_with fail
     go_roundw
     case rel => exact ⟨k + 1, by omega, by go_num, R3, by rw [HT.out]; exact X3, W3⟩
     case measure => simp [intOf]; omega
    ·have h4 : ((b.drop (4 * i)).take 4).take k = (b.drop (4 * i)).take 4 := List.take_of_length_le (by simp; omega)
     rw [h4, ← w16_succ] at X2
     clear h4
     go_wp2_with fail
     go_roundw
     case rel => exact ⟨i + 1, by omega, by go_num, R2, X2, W2⟩
     case measure => simp [intOf]; omega
  ·obtain rfl : i = 16 := by omega
   rw [show ((16 : Nat) : Int) = 16 from rfl]
   go_wp2_with fail
   obtain ⟨wo, rfl⟩ : ∃ wo : World, wo = wr := ⟨_, rfl⟩
   go_loopw [7] (fun s7 wr => ∃ j : Nat, j ≤ 48 ∧ s7 = .int .i64 (16 + (j : Int)) ∧ Blk wr w.heap.size 111 (arrOf []) ∧ Blk wr (w.heap.size + 1) 111 (arrOf (wList b j)) ∧ Below w.heap.size w wr) (fun s7 _ => 64 - (intOf s7).toNat)
   case atStart => exact ⟨0, by omega, rfl, R1, X1, W1⟩
   case round =>
    obtain ⟨j, hj, rfl, R2, X2, W2⟩ := hrel
    clear R1 X1 W1
    by_cases hlt2 : j < 48
    ·have hlen := wList_len b j
     obtain ⟨a15, h15⟩ : ∃ a, a = j + 1 := ⟨_, rfl⟩
     obtain ⟨a2, h2⟩ : ∃ a, a = j + 14 := ⟨_, rfl⟩
     obtain ⟨a7, h7⟩ : ∃ a, a = j + 9 := ⟨_, rfl⟩
     obtain ⟨ai, hi'⟩ : ∃ a, a = 16 + j := ⟨_, rfl⟩
     have hnx : wNext (wList b j) = addW (addW (addW ((wList b j).getD j 0) (sig0 ((wList b j).getD a15 0))) ((wList b j).getD a7 0)) (sig1 ((wList b j).getD a2 0)) := by
      unfold wNext; rw [hlen, h15, h2, h7, show 16 + j - 16 = j by omega, show 16 + j - 15 = j + 1 by omega, show 16 + j - 7 = j + 9 by omega, show 16 + j - 2 = j + 14 by omega]
     have hset : (arrOf (wList b j ++ [0])).setIfInBounds ai (.int .u32 (wNext (wList b j))) = arrOf (wList b (j + 1)) := by
      have := arrOf_set (wList b j) 0 (wNext (wList b j)) (by omega)
      rw [hlen, ← hi'] at this
      exact this
     have w15 := wList_w b hb.2 j a15
     have w2 := wList_w b hb.2 j a2
     have q15 : wr.cell? ⟨w.heap.size + 1, a15, none⟩ = some (.int .u32 ((wList b j).getD a15 0)) := by rw [X2.cell a15, arrOf_at _ _ (by omega)]
     have q2 : wr.cell? ⟨w.heap.size + 1, a2, none⟩ = some (.int .u32 ((wList b j).getD a2 0)) := by rw [X2.cell a2, arrOf_at _ _ (by omega)]
     have e15 : IntKind.i64.wrap (16 + (j : Int) - 15) = (a15 : Int) := by rw [IntWalk.i64_in _ (by omega)]; omega
     have e2 : IntKind.i64.wrap (16 + (j : Int) - 2) = (a2 : Int) := by rw [IntWalk.i64_in _ (by omega)]; omega
     have e7 : IntKind.i64.wrap (16 + (j : Int) - 7) = (a7 : Int) := by rw [IntWalk.i64_in _ (by omega)]; omega
     have e16 : IntKind.i64.wrap (16 + (j : Int) - 16) = (j : Int) := by rw [IntWalk.i64_in _ (by omega)]; omega
     have ei : (16 + (j : Int)).toNat = ai := by omega
     have b15 : (a15 : Int) < 64 := by omega
     have b2 : (a2 : Int) < 64 := by omega
     have b7 : (a7 : Int) < 64 := by omega
     have b16 : (j : Int) < 64 := by omega
     have bi : 16 + (j : Int) < 64 := by omega
     have HN := Lib.hid hnx
     have HL := Lib.hid (And.intro hlen (And.intro h15 (And.intro h2 (And.intro h7 (And.intro hi' hset)))))
     clear hset hnx h15 h2 h7 hi' hlen
     obtain ⟨x, hx⟩ : ∃ x, (wList b j).getD a15 0 = x := ⟨_, rfl⟩
     obtain ⟨y, hy⟩ : ∃ y, (wList b j).getD a2 0 = y := ⟨_, rfl⟩
     rw [hx] at w15 q15
     rw [hy] at w2 q2
     have HX := Lib.hid (And.intro hx hy)
     clear hx hy
     go_wp2_with fail
     go_quiet (fail)
     go_wp2_with (first
      | (go_at_call 76; refine (turn_7 _ w15 _).mono ?_; rintro e w' ⟨rfl, rfl⟩)
      | (go_at_call 76; refine (turn_18 _ w15 _).mono ?_; rintro e w' ⟨rfl, rfl⟩)
      | (go_at_call 76; refine (turn_17 _ w2 _).mono ?_; rintro e w' ⟨rfl, rfl⟩)
      | (go_at_call 76; refine (turn_19 _ w2 _).mono ?_; rintro e w' ⟨rfl, rfl⟩)
      | fail)
     generalize hs : bits .xor .u32 (bits .xor .u32 (rotW x 7) (rotW x 18)) (x / 8) = s
     generalize ht : bits .xor .u32 (bits .xor .u32 (rotW y 17) (rotW y 19)) (y / 1024) = t
     have Xq : Blk (wr.drewN nq) (w.heap.size + 1) 111 (arrOf (wList b j)) := X2.drewN nq
     have Rq : Blk (wr.drewN nq) w.heap.size 111 (arrOf []) := R2.drewN nq
     have Wq : Below w.heap.size w (wr.drewN nq) := below_drewN W2 nq
     generalize wr.drewN nq = wq at *
     obtain ⟨hlen, h15, h2, h7, hi', hset⟩ := HL.out
     have X3 : Blk wq (w.heap.size + 1) 111 (arrOf (wList b j ++ [0])) := by rw [← arrOf_grow _ (by omega)]; exact Xq
     have q7 : wq.cell? ⟨w.heap.size + 1, a7, none⟩ = some (.int .u32 ((wList b j).getD a7 0)) := by rw [Xq.cell a7, arrOf_at _ _ (by omega)]
     have q16 : wq.cell? ⟨w.heap.size + 1, j, none⟩ = some (.int .u32 ((wList b j).getD j 0)) := by rw [Xq.cell j, arrOf_at _ _ (by omega)]
     have qi : wq.cell? ⟨w.heap.size + 1, ai, none⟩ = some (.int .u32 0) := by
      rw [X3.cell ai, arrOf_at _ _ (by simp [hlen]; omega)]
      simp [List.getD_eq_getElem?_getD, List.getElem?_append_right, hlen, hi']
     have qf : wq.frozen? ⟨w.heap.size + 1, ai, none⟩ = false := X3.frozen ai
     have hnx := HN.out
     rw [HX.out.1, HX.out.2] at hnx
     obtain ⟨z, hz⟩ : ∃ z, (wList b j).getD a7 0 = z := ⟨_, rfl⟩
     obtain ⟨u, hu⟩ : ∃ u, (wList b j).getD j 0 = u := ⟨_, rfl⟩
     rw [hz] at q7 hnx
     rw [hu] at q16 hnx
     have X4 : Blk (wq.setCell ⟨w.heap.size + 1, ai, none⟩ (.int .u32 (wNext (wList b j)))).drew _ _ _ := (X3.set_ ai (.int .u32 (wNext (wList b j)))).drew
     rw [hset] at X4
     have R4 : Blk (wq.setCell ⟨w.heap.size + 1, ai, none⟩ (.int .u32 (wNext (wList b j)))).drew _ _ _ := (Rq.far (p := ⟨w.heap.size + 1, ai, none⟩) (by simp) (.int .u32 (wNext (wList b j)))).drew
     have W4 := (Wq.setCell (p := ⟨w.heap.size + 1, ai, none⟩) (by simp) (.int .u32 (wNext (wList b j)))).drew
     have hs1 : sig0 x = s := hs
     have ht1 : sig1 y = t := ht
     have hfin : wNext (wList b j) = (u + s + z + t) % 4294967296 := by rw [hnx, hs1, ht1]; unfold addW; omega
     clear hs1 ht1
     rw [hfin] at X4 R4 W4
     clear hfin hnx hz hu hset hlen h15 h2 h7 hi' HL HN HX hs ht X3 Xq Rq Wq X2 R2 W2
     go_region
     all_goals go_wp2_with fail
     all_goals go_roundw
     case rel => exact ⟨j + 1, by omega, vint (by omega), R4, X4, W4⟩
     case measure => simp [intOf]; omega
    ·obtain rfl : j = 48 := by omega
     go_upto_region 18 with fail
     have hsz : (arrOf (wList b 48)).size = 64 := arrOf_size _ (by rw [wList_len]; omega)
     refine wp_region_lit ?_
     refine wpList_load_row rfl 111 (.tmp 3) rfl (w.heap.size + 1) rfl 111 _ (0, 0) _ X2 Tryd.underlying111 rfl (by rw [hsz]; rfl) ?_
     refine wpList_store_row rfl 111 (.tmp 2) (.tmp 81) rfl w.heap.size (arrOf (wList b 48)) rfl rfl 111 _ R2 (by rw [hsz]; rfl) (by rw [hsz]; rfl) (arrOf_one _) ?_
     refine wpList_nil ?_
     have R5 : Blk (wr.setRow w.heap.size (arrOf (wList b 48))) w.heap.size 111 (arrOf (wList b 48)) := setRow_heap wr _ _ _ _ _ R2
     have W5 : Below w.heap.size w (wr.setRow w.heap.size (arrOf (wList b 48))) := ⟨W2.os, W2.tape, W2.output, by simp; exact W2.size, fun k hk => (setRow_other _ _ _ _ (by omega)).trans (W2.block k hk)⟩
     go_wp2_with fail
     exact bodyPost_ret (results_cell_row (P := Tryd.prog) Tryd.results75 _ _ w.heap.size 111 _ (0, 0) _ rfl R5 Tryd.underlying111 rfl (by rw [hsz]; rfl)) rfl ⟨rfl, W5⟩
end Go.Proofs.YtmeaeeehnkcblaaDoor

namespace Go.Proofs.YtmeaeeehnkcblaaDoor
open Go.RowKit
set_option maxRecDepth 20000
theorem sz1 (w : World) : (sizeOf 22).run Tryd.prog w = .ok 1 w := rfl
theorem ag1 (w : World) : (isAgg 22).run Tryd.prog w = .ok false w := rfl
theorem sz8 (w : World) : (sizeOf 104).run Tryd.prog w = .ok 8 w := rfl
theorem ag8 (w : World) : (isAgg 104).run Tryd.prog w = .ok true w := rfl
theorem nmTurn : (Tryd.f76.name == "runtime.NumGoroutine") = false := by decide
theorem bdTurn : Tryd.f76.body.isNone = false := rfl
def arrL (L : List Int) : List Value := (L.map (Value.int .u32)) ++ List.replicate (64 - L.length) (Value.int .u32 0)
theorem arrL_at (L : List Int) (i : Nat) (h : i < L.length) : (arrL L)[i]? = some (.int .u32 (L.getD i 0)) := by
 have := arrOf_at L i h
 unfold arrOf at this
 simpa [arrL] using this
theorem index64 (L : List Int) (hL : L.length = 64) (i : Nat) (h : i < 64) (w : World) : (Instr.index 111 (.agg (arrOf L)) (.int .i64 (i : Int))).run Tryd.prog w = .ok (.int .u32 (L.getD i 0)) w := by
 have hA := arrOf_at L i (by omega)
 have h1 : (0 : Int) ≤ (i : Int) ∧ (i : Int) < 64 := by omega
 simp [Instr.index, run_underlying Tryd.underlying111, asIntOf, sz1, ag1, part, h1, hA, go_sem]
 try (intro hh; exact absurd hh (by omega))
theorem build8 (a b c d e f g h : Int) (w : World) : (Instr.build 104 #[(0, .int .u32 a), (1, .int .u32 b), (2, .int .u32 c), (3, .int .u32 d), (4, .int .u32 e), (5, .int .u32 f), (6, .int .u32 g), (7, .int .u32 h)]).run Tryd.prog w = .ok (.agg #[.int .u32 a, .int .u32 b, .int .u32 c, .int .u32 d, .int .u32 e, .int .u32 f, .int .u32 g, .int .u32 h]) w := by kernel_rfl
theorem one8 (a b c d e f g h : Int) : ∀ u ∈ [Value.int .u32 a, .int .u32 b, .int .u32 c, .int .u32 d, .int .u32 e, .int .u32 f, .int .u32 g, .int .u32 h], u.oneCell' = true := by
 intro u hu
 simp only [List.mem_cons, List.not_mem_nil, or_false] at hu
 rcases hu with rfl | rfl | rfl | rfl | rfl | rfl | rfl | rfl <;> rfl
theorem arrL_one (L : List Int) : ∀ u ∈ arrL L, u.oneCell' = true := by
 intro u hu
 simp only [arrL, List.mem_append, List.mem_map, List.mem_replicate] at hu
 rcases hu with ⟨x, _, rfl⟩ | ⟨_, rfl⟩ <;> rfl
theorem zero64 (w : World) : (zeroValue 111).run Tryd.prog w = .ok (.agg (arrOf [])) w := rfl
theorem zero8 (w : World) : (zeroValue 104).run Tryd.prog w = .ok (.agg #[.int .u32 0, .int .u32 0, .int .u32 0, .int .u32 0, .int .u32 0, .int .u32 0, .int .u32 0, .int .u32 0]) w := rfl
theorem sz64 (w : World) : (sizeOf 111).run Tryd.prog w = .ok 64 w := rfl
def mixC (a b : S8) (j : Nat) : List Value := (a.list.take j ++ b.list.drop j).map (Value.int .u32)
theorem mix_get (a b : S8) (j : Nat) (h : j < 8) : (mixC a b j)[0 + j]? = some (.int .u32 (b.list.getD j 0)) := by
 match j, h with
 | 0, _ => rfl
 | 1, _ => rfl
 | 2, _ => rfl
 | 3, _ => rfl
 | 4, _ => rfl
 | 5, _ => rfl
 | 6, _ => rfl
 | 7, _ => rfl
 | j + 8, h => omega
theorem cell_get (a : S8) (j : Nat) (h : j < 8) : a.cells.toList[0 + j]? = some (.int .u32 (a.list.getD j 0)) := by
 match j, h with
 | 0, _ => rfl
 | 1, _ => rfl
 | 2, _ => rfl
 | 3, _ => rfl
 | 4, _ => rfl
 | 5, _ => rfl
 | 6, _ => rfl
 | 7, _ => rfl
 | j + 8, h => omega
theorem mix_put (a b : S8) (j : Nat) (h : j < 8) : (mixC (sumS a b) a j).take (0 + j) ++ [Value.int .u32 (IntKind.u32.wrap (a.list.getD j 0 + b.list.getD j 0))] ++ (mixC (sumS a b) a j).drop (0 + j + 1) = mixC (sumS a b) a (j + 1) := by
 match j, h with
 | 0, _ => rfl
 | 1, _ => rfl
 | 2, _ => rfl
 | 3, _ => rfl
 | 4, _ => rfl
 | 5, _ => rfl
 | 6, _ => rfl
 | 7, _ => rfl
 | j + 8, h => omega
theorem mix_len (a b : S8) (j : Nat) (h : j ≤ 8) : (mixC a b j).length = 8 := by simp [mixC, S8.list]; omega
theorem one1 (x : Int) : ∀ u ∈ [Value.int .u32 x], u.oneCell' = true := by
 intro u hu
 simp only [List.mem_cons, List.not_mem_nil, or_false] at hu
 subst hu; rfl
theorem nmWords : (Tryd.f75.name == "runtime.NumGoroutine") = false := by decide
theorem bdWords : Tryd.f75.body.isNone = false := rfl
theorem arrL_len (L : List Int) (h : L.length = 64) : (arrL L).length = 64 := by simp [arrL, h]
theorem set_all (cs vs : List Value) (h : vs.length = cs.length) : cs.take 0 ++ vs ++ cs.drop (0 + vs.length) = vs := by simp [h]
theorem compress_any (s0 : S8) (hok : s0.Ok) (b0 o c : Nat) (b : List Int) (w : World) (hb : Byt w w.heap.size (some ⟨b0, o, none⟩) 64 b) (hc : 64 ≤ c) (hc2 : c ≤ maxLen) {tk : TypeId} (hk : Blk w 1 tk (arrOf keysL)) :
  Calls Tryd.prog 71 #[.agg #[.int .u32 s0.a, .int .u32 s0.b, .int .u32 s0.c, .int .u32 s0.d, .int .u32 s0.e, .int .u32 s0.f, .int .u32 s0.g, .int .u32 s0.h], .slice (some ⟨b0, o, none⟩) 64 c] w fun e w' => e = .returned (.agg (blockF s0 b).cells) ∧ Below w.heap.size w w' := by
 obtain ⟨ws, hwsd⟩ : ∃ ws, ws = wList b 48 := ⟨_, rfl⟩
 have hws : ws.length = 64 := by rw [hwsd]; exact wList_len b 48
 refine begin_ (N := 110) (vs := [.agg #[.int .u32 s0.a, .int .u32 s0.b, .int .u32 s0.c, .int .u32 s0.d, .int .u32 s0.e, .int .u32 s0.f, .int .u32 s0.g, .int .u32 s0.h], .slice (some ⟨b0, o, none⟩) 64 c]) (I := Mem w []) Tryd.func71 rfl rfl rfl ?_ (Mem.start w)
 refine TC.seq_ (TC.region ?_)
 refine TL.new rfl rfl rfl (exec_box (cs := [.int .u32 s0.a, .int .u32 s0.b, .int .u32 s0.c, .int .u32 s0.d, .int .u32 s0.e, .int .u32 s0.f, .int .u32 s0.g, .int .u32 s0.h]) rfl rfl rfl) (fun g2 => ?_)
 refine TL.new rfl rfl rfl (exec_alloc (cs := [.int .u32 0, .int .u32 0, .int .u32 0, .int .u32 0, .int .u32 0, .int .u32 0, .int .u32 0, .int .u32 0]) rfl zero8 rfl) (fun g4 => ?_)
 refine TL.nil_then ?_
 refine TC.seq_ (TC.region ?_)
 refine TL.mv ?_
 refine TL.call1 (r := .agg (arrOf ws)) rfl rfl rfl rfl rfl Tryd.func75 nmWords bdWords (fun w1 hw => by rw [hwsd]; exact words_any b0 o c b w1 ((hb.below hw.bel).more hw.bel.size) hc hc2) ?_
 refine TL.new rfl rfl rfl (exec_alloc (cs := arrL []) rfl zero64 rfl) (fun g5 => ?_)
 refine TL.store (k := 0) (vs := arrL ws) rfl rfl rfl rfl rfl rfl rfl (by rw [arrL_len ws hws]; exact sz64) (arrL_one ws) (by rw [arrL_len ws hws]; decide) (L' := [(g5, 111, arrL ws), (g4, 104, [.int .u32 0, .int .u32 0, .int .u32 0, .int .u32 0, .int .u32 0, .int .u32 0, .int .u32 0, .int .u32 0]), (g2, 104, [.int .u32 s0.a, .int .u32 s0.b, .int .u32 s0.c, .int .u32 s0.d, .int .u32 s0.e, .int .u32 s0.f, .int .u32 s0.g, .int .u32 s0.h])]) (by rw [set_all _ _ (by rw [arrL_len ws hws]; rfl)]; rfl) ?_
 refine TL.nil_then ?_
 refine TC.seq_ (TC.region ?_)
 refine TL.val rfl rfl rfl (mem_loadAgg (k := 2) (n := 8) rfl rfl ag8 sz8 rfl (Nat.le_refl 8)) ?_
 refine TL.new rfl rfl rfl (exec_alloc (cs := [.int .u32 0, .int .u32 0, .int .u32 0, .int .u32 0, .int .u32 0, .int .u32 0, .int .u32 0, .int .u32 0]) rfl zero8 rfl) (fun g6 => ?_)
 refine TL.store (k := 0) (vs := [.int .u32 s0.a, .int .u32 s0.b, .int .u32 s0.c, .int .u32 s0.d, .int .u32 s0.e, .int .u32 s0.f, .int .u32 s0.g, .int .u32 s0.h]) rfl rfl rfl rfl rfl rfl rfl sz8 (one8 _ _ _ _ _ _ _ _) (Nat.le_refl 8) (L' := [(g6, 104, [.int .u32 s0.a, .int .u32 s0.b, .int .u32 s0.c, .int .u32 s0.d, .int .u32 s0.e, .int .u32 s0.f, .int .u32 s0.g, .int .u32 s0.h]), (g5, 111, arrL ws), (g4, 104, [.int .u32 0, .int .u32 0, .int .u32 0, .int .u32 0, .int .u32 0, .int .u32 0, .int .u32 0, .int .u32 0]), (g2, 104, [.int .u32 s0.a, .int .u32 s0.b, .int .u32 s0.c, .int .u32 s0.d, .int .u32 s0.e, .int .u32 s0.f, .int .u32 s0.g, .int .u32 s0.h])]) rfl ?_
 refine TL.nil_then ?_
 refine TC.seq_ (TC.seq_ (TC.region ?_))
 refine TL.val rfl rfl rfl (old_loadAgg rfl rfl hk Tryd.underlying111 rfl (by rw [arrOf_size _ (by rw [keysL_len]; omega)]; rfl)) ?_
 refine TL.mv ?_
 refine TL.nil_then ?_
 refine TC.block ?_
 refine TC.loop (α := Fin 65) (fun i => [(2, .pointer (some ⟨g2, 0, none⟩)), (4, .pointer (some ⟨g4, 0, none⟩)), (5, .pointer (some ⟨g5, 0, none⟩)), (6, .pointer (some ⟨g6, 0, none⟩)), (17, .agg (arrOf keysL)), (18, .int .i64 (i.val : Int))]) (fun i => Mem w [(g6, 104, (roundsF ws s0 i.val).cells.toList), (g5, 111, arrL ws), (g4, 104, [.int .u32 0, .int .u32 0, .int .u32 0, .int .u32 0, .int .u32 0, .int .u32 0, .int .u32 0, .int .u32 0]), (g2, 104, [.int .u32 s0.a, .int .u32 s0.b, .int .u32 s0.c, .int .u32 s0.d, .int .u32 s0.e, .int .u32 s0.f, .int .u32 s0.g, .int .u32 s0.h])]) (fun i => 64 - i.val) 0 (fun a w1 ha hw => ⟨ha.of_list ⟨rfl, rfl, rfl, rfl, rfl, rfl, trivial⟩, hw⟩) ?_
 intro ⟨i, hi65⟩
 refine TC.seq_ (TC.region ?_)
 refine TL.val rfl rfl rfl (gives_bin rfl rfl rfl (fun w => bin_lss w)) ?_
 refine TL.nil_then ?_
 refine TC.seq_ ?_
 refine TC.split rfl (fun ht => ?_) (fun hf => ?_)
 ·have hi : (i : Int) < 64 := of_decide_eq_true ht
  replace hi : i < 64 := by omega
  refine TC.skip_then ?_
  have hx := roundsF_ok ws s0 hok i
  have hnx : roundsF ws s0 (i + 1) = roundF (roundsF ws s0 i) (keysL.getD i 0) (ws.getD i 0) := rfl
  have hwv : (arrL ws)[0 + i]? = some (.int .u32 (ws.getD i 0)) := by rw [Nat.zero_add]; exact arrL_at ws i (by omega)
  generalize roundsF ws s0 i = x at *
  generalize ws.getD i 0 = wv at *
  obtain ⟨xa, xb, xc, xd, xe, xf, xg, xh⟩ := x
  obtain ⟨oa, ob, oc, od, oe, of', og, oh⟩ := hx
  refine TC.seq_ (TC.block (TC.seq_ (TC.region ?_)))
  refine TL.mv ?_
  refine TL.val rfl rfl rfl (gives_index rfl rfl rfl (fun w => index64 keysL keysL_len i hi w)) ?_
  refine TL.as_ ?_
  refine TL.as_ ?_
  refine TL.nil_then ?_
  refine TC.seq_ ?_
  refine TC.quiet_then (E' := [(2, .pointer (some ⟨g2, 0, none⟩)), (4, .pointer (some ⟨g4, 0, none⟩)), (5, .pointer (some ⟨g5, 0, none⟩)), (6, .pointer (some ⟨g6, 0, none⟩)), (17, .agg (arrOf keysL)), (18, .int .i64 (i : Int)), (7, .int .i64 (i : Int)), (8, .int .u32 (keysL.getD i 0)), (9, .int .u32 xa), (10, .int .u32 xe)]) (by kernel_rfl) (by kernel_rfl) (fun w hw => hw.drawn _) ?_ ?_
  ·refine TQ.val rfl rfl rfl (gives_at rfl rfl rfl (fun w => at_arr Tryd.underlying104 sz1 _ 0 _ 0 (by decide) w)) ?_
   refine TQ.val rfl rfl rfl (mem_load (k := 0) rfl rfl ag1 rfl rfl) ?_
   refine TQ.val rfl rfl rfl (gives_at rfl rfl rfl (fun w => at_arr Tryd.underlying104 sz1 _ 0 _ 4 (by decide) w)) ?_
   refine TQ.val rfl rfl rfl (mem_load (k := 0) rfl rfl ag1 rfl rfl) ?_
   refine TQ.val rfl rfl rfl (gives_assign rfl rfl) ?_
   refine TQ.val rfl rfl rfl (gives_assign rfl rfl) ?_
   exact TQ.nil (fun a ha => ha.of_list ⟨rfl, rfl, rfl, rfl, rfl, rfl, rfl, rfl, rfl, rfl, trivial⟩)
  refine TC.seq_ ?_
  refine TC.quiet_then (E' := [(2, .pointer (some ⟨g2, 0, none⟩)), (4, .pointer (some ⟨g4, 0, none⟩)), (5, .pointer (some ⟨g5, 0, none⟩)), (6, .pointer (some ⟨g6, 0, none⟩)), (17, .agg (arrOf keysL)), (18, .int .i64 (i : Int)), (7, .int .i64 (i : Int)), (8, .int .u32 (keysL.getD i 0)), (9, .int .u32 xa), (10, .int .u32 xe), (11, .int .u32 (t1F ⟨xa, xb, xc, xd, xe, xf, xg, xh⟩ (keysL.getD i 0) wv))]) (by kernel_rfl) (by kernel_rfl) (fun w hw => hw.drawn _) ?_ ?_
  ·refine TQ.val rfl rfl rfl (gives_at rfl rfl rfl (fun w => at_arr Tryd.underlying104 sz1 _ 0 _ 7 (by decide) w)) ?_
   refine TQ.val rfl rfl rfl (mem_load (k := 0) rfl rfl ag1 rfl rfl) ?_
   refine TQ.val rfl rfl rfl (gives_move rfl rfl) ?_
   refine TQ.call rfl rfl rfl rfl rfl Tryd.func76 nmTurn bdTurn (fun w hw => (turn_6 xe oe w).mono (fun e w2 ⟨he, hh⟩ => ⟨he, hh ▸ hw⟩)) ?_
   refine TQ.val rfl rfl rfl (gives_move rfl rfl) ?_
   refine TQ.call rfl rfl rfl rfl rfl Tryd.func76 nmTurn bdTurn (fun w hw => (turn_11 xe oe w).mono (fun e w2 ⟨he, hh⟩ => ⟨he, hh ▸ hw⟩)) ?_
   refine TQ.val rfl rfl rfl (gives_bin rfl rfl rfl (fun w => bin_bits (.inr (.inr rfl)) w)) ?_
   refine TQ.val rfl rfl rfl (gives_move rfl rfl) ?_
   refine TQ.call rfl rfl rfl rfl rfl Tryd.func76 nmTurn bdTurn (fun w hw => (turn_25 xe oe w).mono (fun e w2 ⟨he, hh⟩ => ⟨he, hh ▸ hw⟩)) ?_
   refine TQ.val rfl rfl rfl (gives_bin rfl rfl rfl (fun w => bin_bits (.inr (.inr rfl)) w)) ?_
   refine TQ.val rfl rfl rfl (gives_bin rfl rfl rfl (fun w => bin_add w)) ?_
   refine TQ.val rfl rfl rfl (gives_move rfl rfl) ?_
   refine TQ.val rfl rfl rfl (gives_at rfl rfl rfl (fun w => at_arr Tryd.underlying104 sz1 _ 0 _ 5 (by decide) w)) ?_
   refine TQ.val rfl rfl rfl (mem_load (k := 0) rfl rfl ag1 rfl rfl) ?_
   refine TQ.val rfl rfl rfl (gives_bin rfl rfl rfl (fun w => bin_bits (.inl rfl) w)) ?_
   refine TQ.val rfl rfl rfl (gives_move rfl rfl) ?_
   refine TQ.val rfl rfl rfl (gives_not rfl rfl) ?_
   refine TQ.val rfl rfl rfl (gives_at rfl rfl rfl (fun w => at_arr Tryd.underlying104 sz1 _ 0 _ 6 (by decide) w)) ?_
   refine TQ.val rfl rfl rfl (mem_load (k := 0) rfl rfl ag1 rfl rfl) ?_
   refine TQ.val rfl rfl rfl (gives_bin rfl rfl rfl (fun w => bin_bits (.inl rfl) w)) ?_
   refine TQ.val rfl rfl rfl (gives_bin rfl rfl rfl (fun w => bin_bits (.inr (.inr rfl)) w)) ?_
   refine TQ.val rfl rfl rfl (gives_bin rfl rfl rfl (fun w => bin_add w)) ?_
   refine TQ.val rfl rfl rfl (gives_move rfl rfl) ?_
   refine TQ.val rfl rfl rfl (gives_bin rfl rfl rfl (fun w => bin_add w)) ?_
   refine TQ.val rfl rfl rfl (gives_move rfl rfl) ?_
   refine TQ.val rfl rfl rfl (gives_at rfl rfl rfl (fun w => at_arr Tryd.underlying111 sz1 _ 0 _ i hi w)) ?_
   refine TQ.val rfl rfl rfl (mem_load (k := 1) rfl rfl ag1 rfl hwv) ?_
   refine TQ.val rfl rfl rfl (gives_bin rfl rfl rfl (fun w => bin_add w)) ?_
   refine TQ.val rfl rfl rfl (gives_assign rfl rfl) ?_
   exact TQ.nil (fun a ha => ha.of_list ⟨rfl, rfl, rfl, rfl, rfl, rfl, rfl, rfl, rfl, rfl, rfl, trivial⟩)
  refine TC.seq_ ?_
  refine TC.quiet_then (E' := [(2, .pointer (some ⟨g2, 0, none⟩)), (4, .pointer (some ⟨g4, 0, none⟩)), (5, .pointer (some ⟨g5, 0, none⟩)), (6, .pointer (some ⟨g6, 0, none⟩)), (17, .agg (arrOf keysL)), (18, .int .i64 (i : Int)), (7, .int .i64 (i : Int)), (8, .int .u32 (keysL.getD i 0)), (9, .int .u32 xa), (10, .int .u32 xe), (11, .int .u32 (t1F ⟨xa, xb, xc, xd, xe, xf, xg, xh⟩ (keysL.getD i 0) wv)), (12, .int .u32 (t2F ⟨xa, xb, xc, xd, xe, xf, xg, xh⟩))]) (by kernel_rfl) (by kernel_rfl) (fun w hw => hw.drawn _) ?_ ?_
  ·refine TQ.val rfl rfl rfl (gives_move rfl rfl) ?_
   refine TQ.call rfl rfl rfl rfl rfl Tryd.func76 nmTurn bdTurn (fun w hw => (turn_2 xa oa w).mono (fun e w2 ⟨he, hh⟩ => ⟨he, hh ▸ hw⟩)) ?_
   refine TQ.val rfl rfl rfl (gives_move rfl rfl) ?_
   refine TQ.call rfl rfl rfl rfl rfl Tryd.func76 nmTurn bdTurn (fun w hw => (turn_13 xa oa w).mono (fun e w2 ⟨he, hh⟩ => ⟨he, hh ▸ hw⟩)) ?_
   refine TQ.val rfl rfl rfl (gives_bin rfl rfl rfl (fun w => bin_bits (.inr (.inr rfl)) w)) ?_
   refine TQ.val rfl rfl rfl (gives_move rfl rfl) ?_
   refine TQ.call rfl rfl rfl rfl rfl Tryd.func76 nmTurn bdTurn (fun w hw => (turn_22 xa oa w).mono (fun e w2 ⟨he, hh⟩ => ⟨he, hh ▸ hw⟩)) ?_
   refine TQ.val rfl rfl rfl (gives_bin rfl rfl rfl (fun w => bin_bits (.inr (.inr rfl)) w)) ?_
   refine TQ.val rfl rfl rfl (gives_move rfl rfl) ?_
   refine TQ.val rfl rfl rfl (gives_at rfl rfl rfl (fun w => at_arr Tryd.underlying104 sz1 _ 0 _ 1 (by decide) w)) ?_
   refine TQ.val rfl rfl rfl (mem_load (k := 0) rfl rfl ag1 rfl rfl) ?_
   refine TQ.val rfl rfl rfl (gives_bin rfl rfl rfl (fun w => bin_bits (.inl rfl) w)) ?_
   refine TQ.val rfl rfl rfl (gives_move rfl rfl) ?_
   refine TQ.val rfl rfl rfl (gives_at rfl rfl rfl (fun w => at_arr Tryd.underlying104 sz1 _ 0 _ 2 (by decide) w)) ?_
   refine TQ.val rfl rfl rfl (mem_load (k := 0) rfl rfl ag1 rfl rfl) ?_
   refine TQ.val rfl rfl rfl (gives_bin rfl rfl rfl (fun w => bin_bits (.inl rfl) w)) ?_
   refine TQ.val rfl rfl rfl (gives_bin rfl rfl rfl (fun w => bin_bits (.inr (.inr rfl)) w)) ?_
   refine TQ.val rfl rfl rfl (gives_at rfl rfl rfl (fun w => at_arr Tryd.underlying104 sz1 _ 0 _ 1 (by decide) w)) ?_
   refine TQ.val rfl rfl rfl (mem_load (k := 0) rfl rfl ag1 rfl rfl) ?_
   refine TQ.val rfl rfl rfl (gives_at rfl rfl rfl (fun w => at_arr Tryd.underlying104 sz1 _ 0 _ 2 (by decide) w)) ?_
   refine TQ.val rfl rfl rfl (mem_load (k := 0) rfl rfl ag1 rfl rfl) ?_
   refine TQ.val rfl rfl rfl (gives_bin rfl rfl rfl (fun w => bin_bits (.inl rfl) w)) ?_
   refine TQ.val rfl rfl rfl (gives_bin rfl rfl rfl (fun w => bin_bits (.inr (.inr rfl)) w)) ?_
   refine TQ.val rfl rfl rfl (gives_bin rfl rfl rfl (fun w => bin_add w)) ?_
   refine TQ.val rfl rfl rfl (gives_assign rfl rfl) ?_
   exact TQ.nil (fun a ha => ha.of_list ⟨rfl, rfl, rfl, rfl, rfl, rfl, rfl, rfl, rfl, rfl, rfl, rfl, trivial⟩)
  refine TC.region ?_
  refine TL.mv ?_
  refine TL.mv ?_
  refine TL.val rfl rfl rfl (gives_bin rfl rfl rfl (fun w => bin_add w)) ?_
  refine TL.mv ?_
  refine TL.val rfl rfl rfl (gives_at rfl rfl rfl (fun w => at_arr Tryd.underlying104 sz1 _ 0 _ 1 (by decide) w)) ?_
  refine TL.val rfl rfl rfl (mem_load (k := 0) rfl rfl ag1 rfl rfl) ?_
  refine TL.val rfl rfl rfl (gives_at rfl rfl rfl (fun w => at_arr Tryd.underlying104 sz1 _ 0 _ 2 (by decide) w)) ?_
  refine TL.val rfl rfl rfl (mem_load (k := 0) rfl rfl ag1 rfl rfl) ?_
  refine TL.val rfl rfl rfl (gives_at rfl rfl rfl (fun w => at_arr Tryd.underlying104 sz1 _ 0 _ 3 (by decide) w)) ?_
  refine TL.val rfl rfl rfl (mem_load (k := 0) rfl rfl ag1 rfl rfl) ?_
  refine TL.mv ?_
  refine TL.val rfl rfl rfl (gives_bin rfl rfl rfl (fun w => bin_add w)) ?_
  refine TL.mv ?_
  refine TL.val rfl rfl rfl (gives_at rfl rfl rfl (fun w => at_arr Tryd.underlying104 sz1 _ 0 _ 5 (by decide) w)) ?_
  refine TL.val rfl rfl rfl (mem_load (k := 0) rfl rfl ag1 rfl rfl) ?_
  refine TL.val rfl rfl rfl (gives_at rfl rfl rfl (fun w => at_arr Tryd.underlying104 sz1 _ 0 _ 6 (by decide) w)) ?_
  refine TL.val rfl rfl rfl (mem_load (k := 0) rfl rfl ag1 rfl rfl) ?_
  refine TL.val rfl rfl rfl (gives_build rfl rfl (fun w => build8 _ _ _ _ _ _ _ _ w)) ?_
  refine TL.store (k := 0) (vs := [.int .u32 (IntKind.u32.wrap (t1F ⟨xa, xb, xc, xd, xe, xf, xg, xh⟩ (keysL.getD i 0) wv + t2F ⟨xa, xb, xc, xd, xe, xf, xg, xh⟩)), .int .u32 xa, .int .u32 xb, .int .u32 xc, .int .u32 (IntKind.u32.wrap (xd + t1F ⟨xa, xb, xc, xd, xe, xf, xg, xh⟩ (keysL.getD i 0) wv)), .int .u32 xe, .int .u32 xf, .int .u32 xg]) rfl rfl rfl rfl rfl rfl rfl sz8 (one8 _ _ _ _ _ _ _ _) (Nat.le_refl 8) (L' := [(g6, 104, [.int .u32 (IntKind.u32.wrap (t1F ⟨xa, xb, xc, xd, xe, xf, xg, xh⟩ (keysL.getD i 0) wv + t2F ⟨xa, xb, xc, xd, xe, xf, xg, xh⟩)), .int .u32 xa, .int .u32 xb, .int .u32 xc, .int .u32 (IntKind.u32.wrap (xd + t1F ⟨xa, xb, xc, xd, xe, xf, xg, xh⟩ (keysL.getD i 0) wv)), .int .u32 xe, .int .u32 xf, .int .u32 xg]), (g5, 111, arrL ws), (g4, 104, [.int .u32 0, .int .u32 0, .int .u32 0, .int .u32 0, .int .u32 0, .int .u32 0, .int .u32 0, .int .u32 0]), (g2, 104, [.int .u32 s0.a, .int .u32 s0.b, .int .u32 s0.c, .int .u32 s0.d, .int .u32 s0.e, .int .u32 s0.f, .int .u32 s0.g, .int .u32 s0.h])]) rfl ?_
  refine TL.nil_block ?_
  refine TC.region ?_
  refine TL.val rfl rfl rfl (gives_bin rfl rfl rfl (fun w => bin_add w)) ?_
  refine TL.mv ?_
  have hcl : [.int .u32 (IntKind.u32.wrap (t1F ⟨xa, xb, xc, xd, xe, xf, xg, xh⟩ (keysL.getD i 0) wv + t2F ⟨xa, xb, xc, xd, xe, xf, xg, xh⟩)), .int .u32 xa, .int .u32 xb, .int .u32 xc, .int .u32 (IntKind.u32.wrap (xd + t1F ⟨xa, xb, xc, xd, xe, xf, xg, xh⟩ (keysL.getD i 0) wv)), .int .u32 xe, .int .u32 xf, .int .u32 xg] = (roundsF ws s0 (i + 1)).cells.toList := by rw [hnx]; rfl
  refine TL.nil (fun a w1 ha hw => ⟨⟨i + 1, by omega⟩, by show 64 - (i + 1) < 64 - i; omega, ha.of_list ⟨rfl, rfl, rfl, rfl, rfl, congrArg some (vint (by show IntKind.i64.wrap ((i : Int) + 1) = ((i + 1 : Nat) : Int); rw [IntWalk.i64_in _ (by omega)]; omega)), trivial⟩, ?_⟩)
  rw [hcl] at hw
  exact hw
 ·have hi : i = 64 := by have : ¬ ((i : Int) < 64) := of_decide_eq_false hf; omega
  subst hi
  refine TC.exit (fun a w1 ha hw => ?_)
  simp only [Exit.then, Exit.inBlock, if_true]
  refine (?_ : TC _ 110 _ _ [(2, .pointer (some ⟨g2, 0, none⟩)), (4, .pointer (some ⟨g4, 0, none⟩)), (6, .pointer (some ⟨g6, 0, none⟩))] (Mem w [(g6, 104, (roundsF ws s0 64).cells.toList), (g5, 111, arrL ws), (g4, 104, [.int .u32 0, .int .u32 0, .int .u32 0, .int .u32 0, .int .u32 0, .int .u32 0, .int .u32 0, .int .u32 0]), (g2, 104, mixC (sumS s0 (roundsF ws s0 64)) s0 0)])) a w1 (ha.of_list ⟨rfl, rfl, rfl, trivial⟩) hw
  clear ha hw a w1
  refine TC.seq_ (TC.seq_ (TC.region ?_))
  refine TL.mv ?_
  refine TL.nil_then ?_
  refine TC.block ?_
  refine TC.loop (α := Fin 9) (fun j => [(2, .pointer (some ⟨g2, 0, none⟩)), (4, .pointer (some ⟨g4, 0, none⟩)), (6, .pointer (some ⟨g6, 0, none⟩)), (97, .int .i64 (j.val : Int))]) (fun j => Mem w [(g6, 104, (roundsF ws s0 64).cells.toList), (g5, 111, arrL ws), (g4, 104, [.int .u32 0, .int .u32 0, .int .u32 0, .int .u32 0, .int .u32 0, .int .u32 0, .int .u32 0, .int .u32 0]), (g2, 104, mixC (sumS s0 (roundsF ws s0 64)) s0 j.val)]) (fun j => 8 - j.val) 0 (fun a w1 ha hw => ⟨ha.of_list ⟨rfl, rfl, rfl, rfl, trivial⟩, hw⟩) ?_
  intro ⟨j, hj9⟩
  refine TC.seq_ (TC.region ?_)
  refine TL.val rfl rfl rfl (gives_bin rfl rfl rfl (fun w => bin_lss w)) ?_
  refine TL.nil_then ?_
  refine TC.seq_ ?_
  refine TC.split rfl (fun ht => ?_) (fun hf => ?_)
  ·have hj : (j : Int) < 8 := of_decide_eq_true ht
   replace hj : j < 8 := by omega
   refine TC.skip_then ?_
   refine TC.seq_ (TC.block (TC.seq_ (TC.region ?_)))
   refine TL.mv ?_
   refine TL.as_ ?_
   refine TL.nil_then ?_
   refine TC.tail 8 (by kernel_rfl) (by kernel_rfl) (fun w hw => hw.drawn _) ?_
   refine TS.val rfl rfl rfl (gives_move rfl rfl) ?_
   refine TS.val rfl rfl rfl (gives_at rfl rfl rfl (fun w => at_arr Tryd.underlying104 sz1 _ 0 _ j hj w)) ?_
   refine TS.val rfl rfl rfl (mem_load (k := 3) rfl rfl ag1 rfl (mix_get _ _ j hj)) ?_
   refine TS.val rfl rfl rfl (gives_move rfl rfl) ?_
   refine TS.val rfl rfl rfl (gives_at rfl rfl rfl (fun w => at_arr Tryd.underlying104 sz1 _ 0 _ j hj w)) ?_
   refine TS.val rfl rfl rfl (mem_load (k := 0) rfl rfl ag1 rfl (cell_get _ j hj)) ?_
   refine TS.val rfl rfl rfl (gives_bin rfl rfl rfl (fun w => bin_add w)) ?_
   refine TS.val rfl rfl rfl (gives_at rfl rfl rfl (fun w => at_arr Tryd.underlying104 sz1 _ 0 _ j hj w)) ?_
   refine TS.nil (?_ : TL _ 110 _ _ _ _ _)
   refine TL.store (k := 3) (vs := [.int .u32 (IntKind.u32.wrap (s0.list.getD j 0 + (roundsF ws s0 64).list.getD j 0))]) rfl rfl rfl rfl rfl rfl rfl sz1 (one1 _) (by rw [mix_len _ _ _ (by omega)]; show 0 + j + 1 ≤ 8; omega) (L' := [(g6, 104, (roundsF ws s0 64).cells.toList), (g5, 111, arrL ws), (g4, 104, [.int .u32 0, .int .u32 0, .int .u32 0, .int .u32 0, .int .u32 0, .int .u32 0, .int .u32 0, .int .u32 0]), (g2, 104, mixC (sumS s0 (roundsF ws s0 64)) s0 (j + 1))]) (congrArg (fun q => [(g6, 104, (roundsF ws s0 64).cells.toList), (g5, 111, arrL ws), (g4, 104, [.int .u32 0, .int .u32 0, .int .u32 0, .int .u32 0, .int .u32 0, .int .u32 0, .int .u32 0, .int .u32 0]), (g2, 104, q)]) (mix_put s0 _ j hj)) ?_
   refine TL.nil_block ?_
   refine TC.region ?_
   refine TL.val rfl rfl rfl (gives_bin rfl rfl rfl (fun w => bin_add w)) ?_
   refine TL.mv ?_
   refine TL.nil (fun a w1 ha hw => ⟨⟨j + 1, by omega⟩, by show 8 - (j + 1) < 8 - j; omega, ha.of_list ⟨rfl, rfl, rfl, congrArg some (vint (by show IntKind.i64.wrap ((j : Int) + 1) = ((j + 1 : Nat) : Int); rw [IntWalk.i64_in _ (by omega)]; omega)), trivial⟩, hw⟩)
  ·have hj : j = 8 := by have : ¬ ((j : Int) < 8) := of_decide_eq_false hf; omega
   subst hj
   refine TC.exit (fun a w1 ha hw => ?_)
   simp only [Exit.then, Exit.inBlock, if_true]
   refine (?_ : TC _ 110 _ _ [(2, .pointer (some ⟨g2, 0, none⟩)), (4, .pointer (some ⟨g4, 0, none⟩)), (6, .pointer (some ⟨g6, 0, none⟩))] (Mem w [(g6, 104, (roundsF ws s0 64).cells.toList), (g5, 111, arrL ws), (g4, 104, [.int .u32 0, .int .u32 0, .int .u32 0, .int .u32 0, .int .u32 0, .int .u32 0, .int .u32 0, .int .u32 0]), (g2, 104, (sumS s0 (roundsF ws s0 64)).cells.toList)])) a w1 (ha.of_list ⟨rfl, rfl, rfl, trivial⟩) hw
   clear ha hw a w1
   refine TC.seq_ (TC.region ?_)
   refine TL.val rfl rfl rfl (mem_loadAgg (k := 3) (n := 8) rfl rfl ag8 sz8 rfl (Nat.le_refl 8)) ?_
   refine TL.store (k := 2) (vs := (sumS s0 (roundsF ws s0 64)).cells.toList) rfl rfl rfl rfl rfl rfl rfl sz8 (one8 _ _ _ _ _ _ _ _) (Nat.le_refl 8) (L' := [(g6, 104, (roundsF ws s0 64).cells.toList), (g5, 111, arrL ws), (g4, 104, (sumS s0 (roundsF ws s0 64)).cells.toList), (g2, 104, (sumS s0 (roundsF ws s0 64)).cells.toList)]) rfl ?_
   refine TL.nil_then ?_
   refine TC.ret (ret_cell (k := 2) Tryd.results71 rfl rfl Tryd.underlying104 rfl rfl (fun w1 hw => ⟨by rw [hwsd]; rfl, hw.bel⟩))
end Go.Proofs.YtmeaeeehnkcblaaDoor

namespace Go.Proofs.YtmeaeeehnkcblaaDoor
open Go.RowKit
set_option maxRecDepth 20000
theorem gives_mkfunc {P : Program} {N : Fr} {E : Env} {I : World → Prop} {o : Oper} {fn : Fn} {xs : List Operand} {vs : List Value} (ho : o.op = .makeFunc fn #[] xs.toArray) (hx : evs E xs = some vs) : Gives P N o E I (.func fn #[] vs.toArray) := fun a w ha _ => by
 unfold execOp; rw [ho]
 have : xs.toArray.map a.eval = vs.toArray := by rw [List.map_toArray, ha.evals hx]
 simp [Instr.makeFunc, this, go_sem]
theorem agInt (w : World) : (isAgg 3).run Tryd.prog w = .ok false w := rfl
theorem mkchunk_any (A : Option Addr) (n c : Nat) (w : World) :
  Calls Tryd.prog 70 #[.slice A n c, .int .i64 64] w fun e w' => ∃ b2 b3, e = .returned (.func (.func 74) #[] #[.pointer (some ⟨b2, 0, none⟩), .pointer (some ⟨b3, 0, none⟩)]) ∧
   Pm w [.blk b3 3 [.int .i64 64], .blk b2 28 [.slice A n c]] w' := by
 refine begin_ (vs := [.slice A n c, .int .i64 64]) Tryd.func70 rfl rfl rfl ?_ (Pm.start w)
 refine TC.seq_ (TC.region ?_)
 refine TL.pnew rfl rfl rfl (exec_box (cs := [.slice A n c]) rfl rfl rfl) (fun b2 => ?_)
 refine TL.pnew rfl rfl rfl (exec_box (cs := [.int .i64 64]) rfl rfl rfl) (fun b3 => ?_)
 refine TL.as_ ?_
 refine TL.end_ (TX.then_ (TC.seq_ (TC.seq_ (TC.region ?_))))
 refine TL.val rfl rfl rfl (pm_load (k := 0) (i := 0) rfl rfl agInt rfl rfl) ?_
 refine TL.val rfl rfl rfl (gives_bin rfl rfl rfl (fun w => bin_lss w)) ?_
 refine TL.end_ (TX.then_ ?_)
 refine TC.split rfl (fun hc6 => ?_) (fun hc6 => ?_)
 ·exact absurd (of_decide_eq_true hc6) (by decide)
 ·refine TC.skip_ (TX.then_ (TC.seq_ (TC.region ?_)))
  refine TL.val rfl rfl rfl (gives_mkfunc rfl rfl) ?_
  refine TL.as_ ?_
  refine TL.end_ (TX.then_ (TC.ret_ ?_))
  exact ret_tmp Tryd.results70 rfl (fun w1 hw => ⟨b2, b3, rfl, hw⟩)
end Go.Proofs.YtmeaeeehnkcblaaDoor

namespace Go.Proofs.YtmeaeeehnkcblaaDoor
open Go.RowKit Go.Shelf
attribute [local go_sem] Oper.semAt_some
set_option maxRecDepth 20000
def chunksTo (K k : Nat) : List (Fin K) := (List.finRange K).take k
theorem chunksTo_succ (K k : Nat) (h : k < K) : chunksTo K (k + 1) = chunksTo K k ++ [⟨k, h⟩] := by
 unfold chunksTo
 rw [List.take_add_one]
 simp [h]
theorem chunksTo_len (K k : Nat) (h : k ≤ K) : (chunksTo K k).length = k := by simp [chunksTo]; omega
def KeepsCell (b2 b3 : Nat) (W W' : World) : Prop := (∀ v, W.cell? ⟨b2, 0, none⟩ = some v → W'.cell? ⟨b2, 0, none⟩ = some v) ∧ (∀ v, W.cell? ⟨b3, 0, none⟩ = some v → W'.cell? ⟨b3, 0, none⟩ = some v)
set_option maxRecDepth 100000 in
set_option maxHeartbeats 2000000 in
theorem chunk_in (n : Nat) (hn : 1 ≤ n) (l b2 b3 b0 o K c : Nat) (hKc : 64 * K ≤ c) (hcm : c ≤ maxLen) (J Jx : List (Fin K) → World → Prop)
  (hY : ∀ pre x W, J pre W → pre.length < K → YieldAt Fence.wide (n - 1) Tryd.prog l #[.slice (some ⟨b0, o + 64 * x.1, none⟩) 64 64] W fun e W' =>
   (e = .returned (.bool true) ∧ J (pre ++ [x]) W' ∧ KeepsCell b2 b3 W W') ∨ (e = .returned (.bool false) ∧ Jx (pre ++ [x]) W'))
  (W : World) (h2 : W.cell? ⟨b2, 0, none⟩ = some (.slice (some ⟨b0, o, none⟩) (64 * K) c)) (h3 : W.cell? ⟨b3, 0, none⟩ = some (.int .i64 64)) (hJa : AbidesFrom W.heap.size J) (h0 : J [] W) :
  CallsIn Fence.wide n Tryd.prog 74 #[.func (.yield l) #[] #[], .pointer (some ⟨b2, 0, none⟩), .pointer (some ⟨b3, 0, none⟩)] W fun e W' => (∃ v, e = .returned v) ∧
   ((∃ ys, ys = List.finRange K ∧ J ys W') ∨ (∃ pre, pre <+: List.finRange K ∧ Jx pre W')) := by
 refine callsIn_of_wp Tryd.func74 rfl trivial ?_ rfl
 simp only [Tryd.ntmps74, List.size_toArray, List.length_cons, List.length_nil, Nat.reduceAdd, Nat.reduceSub, Array.replicate_succ, Array.replicate_zero, List.push_toArray, List.append_toArray, List.nil_append, List.cons_append]
 gi_wp2
 gi_loopw [4] (fun i wr => ∃ k : Nat, k ≤ K ∧ i = .int .i64 ((64 * k : Nat) : Int) ∧ J (chunksTo K k) wr ∧ KeepsCell b2 b3 W wr)
  (fun i _ => 64 * K - (intOf i).toNat)
 case atStart => exact ⟨0, Nat.zero_le _, rfl, h0, fun v h => h, fun v h => h⟩
 case round =>
  obtain ⟨k, hk, rfl, hJs, hk2, hk30⟩ := hrel
  have hc2 := hk2 _ h2
  have hc3 := hk30 _ h3
  by_cases hlt : k < K
  ·gi_wp2
   gi_quiet (fail)
   rename_i nq
   have hJ2 : J (chunksTo K k) (wr.drewN nq) := hJa _ _ _ none hJs ⟨rfl, rfl, rfl, Nat.le_refl _, fun _ _ _ => rfl⟩ (fun r e => by cases e)
   have hd2 : (wr.drewN nq).cell? ⟨b2, 0, none⟩ = some (.slice (some ⟨b0, o, none⟩) (64 * K) c) := hc2
   have hd3 : (wr.drewN nq).cell? ⟨b3, 0, none⟩ = some (.int .i64 64) := hc3
   have hk2' : ∀ v, W.cell? ⟨b2, 0, none⟩ = some v → (wr.drewN nq).cell? ⟨b2, 0, none⟩ = some v := hk2
   have hk3' : ∀ v, W.cell? ⟨b3, 0, none⟩ = some v → (wr.drewN nq).cell? ⟨b3, 0, none⟩ = some v := hk30
   generalize wr.drewN nq = wn at *
   obtain ⟨fn, tmps, assign, body, hy, hR⟩ := hY _ ⟨k, hlt⟩ wn hJ2 (by rw [chunksTo_len K k hk]; exact hlt)
   have hkc : 64 * (k : Int) + 64 ≤ (c : Int) := by omega
   have hml : c ≤ 9223372036854775807 := hcm
   have hwr : wrap64 (64 * (k : Int) + 64) = 64 * (k : Int) + 64 := by unfold wrap64; omega
   gi_wp2
   refine hR.mono ?_
   rintro e W3 (⟨rfl, hJ3, hk3⟩ | ⟨rfl, hJx3⟩)
   ·have hk64 : wrap64 (64 * (k : Int) + 64) = 64 * ((k : Int) + 1) := by rw [hwr]; omega
    have he3 := hk3.2 _ hd3
    gi_wp2
    go_roundw
    case rel => exact ⟨k + 1, by omega, by simp; omega, by rw [chunksTo_succ K k hlt]; exact hJ3, fun v h => hk3.1 _ (hk2' v h), fun v h => hk3.2 _ (hk3' v h)⟩
    case measure => simp [intOf]; omega
   ·gi_wp2
    refine bodyPost_ret (results_none rfl _ _ _) rfl ?_
    exact ⟨⟨_, rfl⟩, .inr ⟨_, by rw [← chunksTo_succ K k hlt]; exact List.take_prefix _ _, hJx3⟩⟩
  ·obtain rfl : k = K := by omega
   gi_wp2
   go_end0
   exact ⟨⟨_, rfl⟩, .inl ⟨_, List.take_of_length_le (by simp), hJs⟩⟩
theorem chunk_stops (n : Nat) (hn : 1 ≤ n) (b2 b3 b0 o K c : Nat) (hKc : 64 * K ≤ c) (hcm : c ≤ maxLen) (w : World) (hb2 : b2 < w.heap.size) (hb3 : b3 < w.heap.size)
  (h2 : w.cell? ⟨b2, 0, none⟩ = some (.slice (some ⟨b0, o, none⟩) (64 * K) c)) (h3 : w.cell? ⟨b3, 0, none⟩ = some (.int .i64 64)) :
  SeqStopsK Fence.wide n Tryd.prog 74 #[.pointer (some ⟨b2, 0, none⟩), .pointer (some ⟨b3, 0, none⟩)] (fun x : Fin K => #[.slice (some ⟨b0, o + 64 * x.1, none⟩) 64 64]) (KeepsCell b2 b3) (fun ys => ys = List.finRange K) (fun pre => pre <+: List.finRange K) K w :=
 fun l J Jx W hW hJ hJx hY h0 => chunk_in n hn l b2 b3 b0 o K c hKc hcm J Jx hY W ((hW.cell (p := ⟨b2, 0, none⟩) hb2).trans h2) ((hW.cell (p := ⟨b3, 0, none⟩) hb3).trans h3) hJ h0
theorem keepsCell_t {b2 b3 : Nat} {A B C : World} (h : KeepsCell b2 b3 A B) (k : KeepsCell b2 b3 B C) : KeepsCell b2 b3 A C := ⟨fun v e => k.1 v (h.1 v e), fun v e => k.2 v (h.2 v e)⟩
theorem keepsCell_b {b2 b3 : Nat} (W : World) (l : Nat) (o o' : Obj) (h : W.heap[l]? = some o) (hc : o.isCells = false) : KeepsCell b2 b3 W (W.putObj l o') :=
 ⟨fun v e => cell_kept e (grownBy_putObj' W l o') (fun r he => by cases he; exact ⟨o, h, hc⟩), fun v e => cell_kept e (grownBy_putObj' W l o') (fun r he => by cases he; exact ⟨o, h, hc⟩)⟩
end Go.Proofs.YtmeaeeehnkcblaaDoor

namespace Go.Proofs.YtmeaeeehnkcblaaDoor
open Go.RowKit
set_option maxRecDepth 20000
theorem szero8 (w : World) : (zeroValue 104).run Tryd.prog w = .ok (.agg #[.int .u32 0, .int .u32 0, .int .u32 0, .int .u32 0, .int .u32 0, .int .u32 0, .int .u32 0, .int .u32 0]) w := rfl
theorem ssz8 (w : World) : (sizeOf 104).run Tryd.prog w = .ok 8 w := rfl
theorem sag8 (w : World) : (isAgg 104).run Tryd.prog w = .ok true w := rfl
theorem nmChunk : (Tryd.f70.name == "runtime.NumGoroutine") = false := by decide
theorem bdChunk : Tryd.f70.body.isNone = false := rfl
theorem nmChunk1 : (Tryd.f74.name == "runtime.NumGoroutine") = false := by decide
theorem bdChunk1 : Tryd.f74.body.isNone = false := rfl
theorem nmComp : (Tryd.f71.name == "runtime.NumGoroutine") = false := by decide
theorem bdComp : Tryd.f71.body.isNone = false := rfl
theorem padv_zero0 (l : List Int) : bv l ++ [Value.int .u8 128] = bv (padv l 0) := by simp [padv, bv]
theorem padF_bv (l : List Int) {n : Nat} (h : l.length = n) : bv (padv l (padZ n)) ++ bv (lenB n 8) = bv (padF l) := by subst h; simp [padF, bv]
theorem addr_add (g off j : Nat) : (⟨g, off, none⟩ : Addr).add j = ⟨g, off + j, none⟩ := by unfold Addr.add; split <;> simp_all
theorem row_some {w : World} {base : Nat} {e : TypeId} {size n c : Nat} {A : Option Addr} {xs : List Value} (h : w.ownsRow base e size (.slice A n c) n xs) (hn : 0 < n) : ∃ b, A = some ⟨b, 0, none⟩ := by
 rcases h.2 with ⟨e, h2⟩ | ⟨g, cap, cur, a, r⟩
 ·cases e; omega
 ·cases a; exact ⟨g, rfl⟩
theorem index8 (s : S8) (j : Nat) (h : j < 8) (w : World) : (Instr.index 104 (.agg s.cells) (.int .i64 (j : Int))).run Tryd.prog w = .ok (.int .u32 (s.list.getD j 0)) w := by
 match j, h with
 | 0, _ => rfl
 | 1, _ => rfl
 | 2, _ => rfl
 | 3, _ => rfl
 | 4, _ => rfl
 | 5, _ => rfl
 | 6, _ => rfl
 | 7, _ => rfl
 | j + 8, h => omega
def foldX {K : Nat} (b : List Int) (s : S8) (xs : List (Fin K)) : S8 := xs.foldl (fun s x => blockF s ((b.drop (64 * x.1)).take 64)) s
theorem foldX_succ {K : Nat} (b : List Int) (s : S8) (xs : List (Fin K)) (x : Fin K) : foldX b s (xs ++ [x]) = blockF (foldX b s xs) ((b.drop (64 * x.1)).take 64) := by simp [foldX]
theorem foldX_ok {K : Nat} (b : List Int) (s : S8) (hs : s.Ok) (xs : List (Fin K)) : (foldX b s xs).Ok := by
 rcases List.eq_nil_or_concat xs with rfl | ⟨ys, y, rfl⟩
 ·exact hs
 ·rw [List.concat_eq_append, foldX_succ]
  exact sumS_ok _ _
theorem foldX_to (K k : Nat) (b : List Int) (s : S8) (h : k ≤ K) : foldX b s (chunksTo K k) = foldB b s k := by
 induction k with
 | zero => rfl
 | succ k ih => rw [chunksTo_succ K k (by omega), foldX_succ, ih (by omega)]; rfl
theorem foldX_all (K : Nat) (b : List Int) (s : S8) : foldX b s (List.finRange K) = foldB b s K := by
 rw [← foldX_to K K b s (Nat.le_refl _), chunksTo, List.take_of_length_le (by simp)]
theorem sum_any (A : Option Addr) (n c : Nat) (l : List Int) (w : World) (hb : Byt w w.heap.size A n l) (hlim : n + 100 ≤ 140737488355328) {ts tk : TypeId} (hst : Blk w 0 ts start8.cells) (hky : Blk w 1 tk (arrOf keysL)) :
  Calls Tryd.prog 54 #[.slice A n c] w fun e w' => ∃ A' c', e = .returned (.slice A' 32 c') ∧ 32 ≤ c' ∧ c' ≤ maxLen ∧ w'.ownsRow w.heap.size 5 1 (.slice A' 32 c') 32 (bv (shaF l)) ∧ Below w.heap.size w w' := by
 have hln : l.length = n := hb.len
 have hpz := padZ_le n
 have hpm := padZ_mod n
 have hpl := padF_len l
 rw [hln] at hpl
 obtain ⟨K, hK⟩ : ∃ K, K = (padF l).length / 64 := ⟨_, rfl⟩
 have hK2 : n + 1 + padZ n + 8 = 64 * K := by omega
 have hsh : shaF l = outB (foldB (padF l) start8 K) 8 := by rw [hK]; rfl
 refine beginM_ (vs := [.slice A n c]) 3 Tryd.func54 rfl rfl rfl ?_ (Pm.start w)
 refine TC.seq_ (TC.region ?_)
 refine TL.as_ ?_
 refine TL.end_ (TX.then_ (TC.seq_ (TC.region ?_)))
 refine TL.mv ?_
 refine TL.pcallRow (n := n) (ys := bv l) rfl rfl rfl rfl rfl Tryd.func69 nmClone bdClone (fun w1 hw => (clone_any A n c l w1 ((hb.below hw.bel).more hw.bel.size) (by omega))) (fun A1 c1 hA11 hA12 => ?_)
 refine TL.prow (cs := [.int .u8 128]) rfl rfl rfl rfl rfl (fun w => row1 _ w) (by decide) rfl (fun g1 => ?_)
 refine TL.append (k := 1) rfl rfl rfl rfl elU8 rfl rfl rfl (fun w hw => pm_reads hw (k := 0) rfl) (one1b _) (by rw [Nat.mul_one]; omega) (n + 1) (by omega) (fun A2 c2 hA21 hA22 => ?_)
 refine TL.as_ ?_
 refine TL.end_ (TX.then_ (TC.seq_ (TC.block ?_)))
 refine TC.loop_ (α := {x : Nat × Option Addr × Nat // x.1 ≤ padZ n ∧ n + 1 + x.1 ≤ x.2.2 ∧ x.2.2 ≤ maxLen}) (fun x => [(0, .slice A n c), (3, .slice x.1.2.1 (n + 1 + x.1.1) x.1.2.2)]) (fun x => Pm w [.row (.slice x.1.2.1 (n + 1 + x.1.1) x.1.2.2) 5 1 (n + 1 + x.1.1) (bv (padv l x.1.1))]) (fun x => padZ n - x.1.1) (⟨(0, A2, c2), Nat.zero_le _, hA21, hA22⟩) ⟨rfl, rfl, trivial⟩ (fun w hw => by have h := Pm.tail hw; rw [padv_zero0] at h; exact h) ?_
 rintro ⟨⟨z, A3, c3⟩, hz, hcc⟩
 dsimp only at hz hcc ⊢
 refine TC.seq_ (TC.seq_ (TC.region ?_))
 refine TL.mv ?_
 refine TL.val rfl rfl rfl (gives_len rfl Tryd.underlying28 rfl) ?_
 refine TL.val rfl rfl rfl (gives_bin rfl rfl rfl (fun w => bin_remi (by omega) (by omega) w)) ?_
 refine TL.val rfl rfl rfl (gives_bin rfl rfl rfl (fun w => bin_neq w)) ?_
 refine TL.end_ (TX.then_ ?_)
 refine TC.split rfl (fun hc17 => ?_) (fun hc17 => ?_)
 ·have hz2 : z < padZ n := by have := of_decide_eq_true hc17; unfold padZ at *; omega
  refine TC.skip_ (TX.then_ (TC.block (TC.region ?_)))
  refine TL.mv ?_
  refine TL.prow (cs := [.int .u8 0]) rfl rfl rfl rfl rfl (fun w => row1 _ w) (by decide) rfl (fun g2 => ?_)
  refine TL.append (k := 1) rfl rfl rfl rfl elU8 rfl rfl rfl (fun w hw => pm_reads hw (k := 0) rfl) (one1b _) (by rw [Nat.mul_one]; omega) (n + 1 + (z + 1)) (by omega) (fun A3 c3 hA31 hA32 => ?_)
  refine TL.as_ ?_
  refine TL.end_ (TX.in_normal ?_)
  exact TX.round (⟨(z + 1, A3, c3), hz2, hA31, hA32⟩) (by show padZ n - (z + 1) < padZ n - z; omega) ⟨rfl, rfl, trivial⟩ (fun w hw => by have h := Pm.tail hw; rw [padv_succ] at h; exact h)
 ·have hz2 : z = padZ n := by have := of_decide_eq_false hc17; unfold padZ at *; omega
  subst hz2
  refine TC.exit_ (TX.then_exit (TX.then_exit (TX.in_same (TX.then_ (TC.seq_ (TC.seq_ (TC.region ?_)))))))
  refine TL.as_ ?_
  refine TL.end_ (TX.then_ (TC.block ?_))
  refine TC.loop_ (α := {x : Nat × Option Addr × Nat // x.1 ≤ 8 ∧ n + 1 + padZ n + x.1 ≤ x.2.2 ∧ x.2.2 ≤ maxLen}) (fun x => [(0, .slice A n c), (3, .slice x.1.2.1 (n + 1 + padZ n + x.1.1) x.1.2.2), (4, .int .i64 (56 - 8 * (x.1.1 : Int)))]) (fun x => Pm w [.row (.slice x.1.2.1 (n + 1 + padZ n + x.1.1) x.1.2.2) 5 1 (n + 1 + padZ n + x.1.1) (bv (padv l (padZ n)) ++ bv (lenB n x.1.1))]) (fun x => 8 - x.1.1) (⟨(0, A3, c3), Nat.zero_le _, hcc⟩) ⟨rfl, rfl, rfl, trivial⟩ (fun w hw => by rw [← List.append_nil (bv (padv l (padZ n)))] at hw; exact hw) ?_
  rintro ⟨⟨j, A5, c5⟩, hj, hcc5⟩
  dsimp only at hj hcc5 ⊢
  refine TC.seq_ (TC.seq_ (TC.region ?_))
  refine TL.mv ?_
  refine TL.val rfl rfl rfl (gives_bin rfl rfl rfl (fun w => bin_geq w)) ?_
  refine TL.end_ (TX.then_ ?_)
  refine TC.split rfl (fun hc22 => ?_) (fun hc22 => ?_)
  ·have hj2 : j ≤ 7 := by have := of_decide_eq_true hc22; omega
   refine TC.skip_ (TX.then_ (TC.seq_ (TC.block (TC.region ?_))))
   refine TL.mv ?_
   refine TL.mv ?_
   refine TL.val rfl rfl rfl (gives_len rfl Tryd.underlying28 rfl) ?_
   refine TL.val rfl rfl rfl (gives_conv rfl rfl (fun w => conv_fit Tryd.underlying102 Tryd.underlying3 (by simp only [IntKind.wrap_u64]; omega) w)) ?_
   refine TL.val rfl rfl rfl (gives_bin rfl rfl rfl (fun w => bin_shl 8 (by decide) (by decide) rfl w)) ?_
   refine TL.mv ?_
   refine TL.val rfl rfl rfl (gives_bin rfl rfl rfl (fun w => bin_shr (2 ^ (56 - 8 * j)) (by omega) (by show (_ : Int) ≤ 64; omega) (by rw [show (56 - 8 * (j : Int)).toNat = 56 - 8 * j by omega]) w)) ?_
   refine TL.val rfl rfl rfl (gives_conv rfl rfl (fun w => conv_int Tryd.underlying5 Tryd.underlying102 w)) ?_
   refine TL.prow (cs := [.int .u8 (IntKind.u8.wrap (lenW n / 2 ^ (56 - 8 * j)))]) rfl rfl rfl rfl rfl (fun w => row1 _ w) (by decide) rfl (fun g3 => ?_)
   refine TL.append (k := 1) rfl rfl rfl rfl elU8 rfl rfl rfl (fun w hw => pm_reads hw (k := 0) rfl) (one1b _) (by rw [Nat.mul_one]; omega) (n + 1 + padZ n + (j + 1)) (by omega) (fun A4 c4 hA41 hA42 => ?_)
   refine TL.as_ ?_
   refine TL.end_ (TX.in_normal (TX.then_ (TC.region ?_)))
   refine TL.mv ?_
   refine TL.val rfl rfl rfl (gives_bin rfl rfl rfl (fun w => bin_sub_ (r := 56 - 8 * ((j + 1 : Nat) : Int)) (by simp only [IntKind.wrap_i64]; omega) w)) ?_
   refine TL.as_ ?_
   refine TL.end_ ?_
   exact TX.round (⟨(j + 1, A4, c4), by omega, hA41, hA42⟩) (by show 8 - (j + 1) < 8 - j; omega) ⟨rfl, rfl, rfl, trivial⟩ (fun w hw => by have h := Pm.tail hw; rw [List.append_assoc, ← lenB_succ] at h; exact h)
  ·have hj2 : j = 8 := by have := of_decide_eq_false hc22; omega
   subst hj2
   rw [hK2] at hcc5
   refine TC.cut [(3, .slice A5 (64 * K) c5)] (Pm w [.row (.slice A5 (64 * K) c5) 5 1 (64 * K) (bv (padF l))]) ⟨by rw [← hK2]; rfl, trivial⟩ (fun w hw => by rw [padF_bv l hln, hK2] at hw; exact hw) ?_
   refine TC.fact (p := ∃ b5, A5 = some ⟨b5, 0, none⟩) (fun w1 hw => row_some (hw.at_ (k := 0) rfl) (by omega)) (fun hb5 => ?_)
   refine TC.exit_ (TX.then_exit (TX.then_exit (TX.in_same (TX.then_ (TC.seq_ ?_)))))
   obtain ⟨b5, rfl⟩ := hb5
   refine TC.region ?_
   refine TL.val rfl rfl rfl (pm_oldAgg rfl rfl hst hst.lt Tryd.underlying104 rfl rfl) ?_
   refine TL.pnew rfl rfl rfl (exec_alloc (cs := [.int .u32 0, .int .u32 0, .int .u32 0, .int .u32 0, .int .u32 0, .int .u32 0, .int .u32 0, .int .u32 0]) rfl szero8 rfl) (fun g5 => ?_)
   refine TL.pstore (k := 0) (vs := start8.cells.toList) rfl rfl rfl rfl rfl rfl rfl ssz8 (one8 _ _ _ _ _ _ _ _) (Nat.le_refl 8) (L' := [.blk g5 104 start8.cells.toList, .row (.slice (some ⟨b5, 0, none⟩) (64 * K) c5) 5 1 (64 * K) (bv (padF l))]) rfl ?_
   refine TL.end_ (TX.then_ (TC.seq_ (TC.seq_ (TC.region ?_))))
   refine TL.mv ?_
   refine TL.pcallPm (α := Nat × Nat) (fun x => .func (.func 74) #[] #[.pointer (some ⟨x.1, 0, none⟩), .pointer (some ⟨x.2, 0, none⟩)]) (fun x => [.blk x.2 3 [.int .i64 64], .blk x.1 28 [.slice (some ⟨b5, 0, none⟩) (64 * K) c5]]) rfl rfl rfl rfl rfl Tryd.func70 nmChunk bdChunk (fun w1 hw => ((mkchunk_any (some ⟨b5, 0, none⟩) (64 * K) c5 w1).mono fun e w2 ⟨b2, b3, he, h2⟩ => ⟨(b2, b3), he, h2⟩)) ?_
   rintro ⟨b2, b3⟩
   dsimp only [List.cons_append, List.nil_append]
   refine TL.end_ (TX.then_ (TC.block ?_))
   refine TC.rangeF 3 (by omega) rfl Tryd.func74 nmChunk1 bdChunk1 rfl (fun x : Fin K => .slice (some ⟨b5, 0 + 64 * x.1, none⟩) 64 64) (KeepsCell b2 b3) (fun ys => ys = List.finRange K) (fun pre => pre <+: List.finRange K) K (fun pre => [.blk b3 3 [.int .i64 64], .blk b2 28 [.slice (some ⟨b5, 0, none⟩) (64 * K) c5], .blk g5 104 (foldX (padF l) start8 pre).cells.toList, .row (.slice (some ⟨b5, 0, none⟩) (64 * K) c5) 5 1 (64 * K) (bv (padF l))]) (fun _ => rfl) (fun w1 hw => ?_) keepsCell_t keepsCell_b (fun pre pre' b W W' h1 h2 => ?_) (fun x => [(6, .slice (some ⟨b5, 0 + 64 * x.1, none⟩) 64 64), (5, .pointer (some ⟨g5, 0, none⟩))]) rfl (fun x Q' I h => ?_) (fun lr pre x W hW hlen => ?_) (fun D xs hxs => ?_)
   ·exact chunk_stops 2 (by omega) b2 b3 b5 0 K c5 hcc5.1 hcc5.2 w1 (Pc.lt (hw.at_ (k := 1) rfl) b2 rfl).2 (Pc.lt (hw.at_ (k := 0) rfl) b3 rfl).2 (hw.cell (k := 1) rfl 0) (hw.cell (k := 0) rfl 0)
   ·exact ⟨fun v e => by rw [h1.cell (k := 1) rfl 0] at e; rw [h2.cell (k := 1) rfl 0]; exact e, fun v e => by rw [h1.cell (k := 0) rfl 0] at e; rw [h2.cell (k := 0) rfl 0]; exact e⟩
   ·refine TL.as_ ?_
    exact TL.end_ (TX.cut [(6, .slice (some ⟨b5, 0 + 64 * x.1, none⟩) 64 64), (5, .pointer (some ⟨g5, 0, none⟩))] I ⟨rfl, rfl, trivial⟩ (fun w hw => hw) h)
   ·refine TR.block ?_
    refine TR.region (fun ⟨a, w, h⟩ => by cases h.1) rfl ?_
    refine TL.val rfl rfl rfl (pm_loadAgg (k := 2) (n := 8) rfl rfl sag8 ssz8 rfl (Nat.le_refl 8)) ?_
    refine TL.mv ?_
    refine TL.pcall1 (r := .agg (foldX (padF l) start8 (pre ++ [x])).cells) rfl rfl rfl rfl rfl Tryd.func71 nmComp bdComp (fun w1 hw => ?_) ?_
    ·have hby : Byt w1 w1.heap.size (some ⟨b5, 0, none⟩) (64 * K) (padF l) := byt_own (hw.at_ (k := 3) rfl) (padF_bs l hb.2)
     have hx := x.2
     have hcu := (hby.cut (k := 64 * x.1) (cap := c5) (by omega) hcc5.1).head (k := 64) (by omega)
     have hne : ¬ c5 = 64 * x.1 := by have := hcc5.1; omega
     rw [if_neg hne, show Option.map (fun a : Addr => a.add (64 * x.1)) (some ⟨b5, 0, none⟩) = some ⟨b5, 0 + 64 * x.1, none⟩ from by simp only [Option.map_some, addr_add]] at hcu
     rw [foldX_succ]
     exact compress_any (foldX (padF l) start8 pre) (foldX_ok _ _ start8_ok pre) b5 (0 + 64 * x.1) 64 _ w1 hcu (by omega) (by decide) ((hky.below hW.bel hky.lt).below hw.bel hky.lt)
    refine TL.pstore (k := 2) (vs := (foldX (padF l) start8 (pre ++ [x])).cells.toList) rfl rfl rfl rfl rfl rfl rfl ssz8 (one8 _ _ _ _ _ _ _ _) (Nat.le_refl 8) rfl ?_
    refine TL.end_ (TX.in_normal ?_)
    exact TX.roundQ (fun w hw => hw)
   refine TX.in_normal (TX.then_ (TC.seq_ (TC.region ?_)))
   refine TL.as_ ?_
   refine TL.end_ (TX.then_ (TC.seq_ (TC.seq_ (TC.region ?_))))
   refine TL.val rfl rfl rfl (pm_loadAgg (k := 3) (n := 8) rfl rfl sag8 ssz8 rfl (Nat.le_refl 8)) ?_
   refine TL.mv ?_
   refine TL.end_ (TX.then_ (TC.block ?_))
   refine TC.loop_ (α := {x : Nat × Option Addr × Nat // x.1 ≤ 8 ∧ 4 * x.1 ≤ x.2.2 ∧ x.2.2 ≤ maxLen}) (fun x => [(42, .agg (foldX (padF l) start8 xs).cells), (7, .slice x.1.2.1 (4 * x.1.1) x.1.2.2), (43, .int .i64 (x.1.1 : Int))]) (fun x => Pm w [.row (.slice x.1.2.1 (4 * x.1.1) x.1.2.2) 5 1 (4 * x.1.1) (bv (outB (foldX (padF l) start8 xs) x.1.1)), .oth D (.deferred (some []))]) (fun x => 8 - x.1.1) (⟨(0, none, 0), Nat.zero_le _, Nat.zero_le _, Nat.zero_le _⟩) ⟨rfl, rfl, rfl, trivial⟩ (fun w hw => (hw.sel (.cons_cons _ (List.nil_sublist _))).nilrow 5 1) ?_
   rintro ⟨⟨j, A6, c6⟩, hj, hcc6⟩
   dsimp only at hj hcc6 ⊢
   refine TC.seq_ (TC.region ?_)
   refine TL.val rfl rfl rfl (gives_bin rfl rfl rfl (fun w => bin_lss w)) ?_
   refine TL.end_ (TX.then_ (TC.seq_ ?_))
   refine TC.split rfl (fun hc44 => ?_) (fun hc44 => ?_)
   ·have hj2 : j < 8 := by have := of_decide_eq_true hc44; omega
    refine TC.skip_ (TX.then_ (TC.seq_ (TC.block (TC.seq_ (TC.region ?_)))))
    refine TL.val rfl rfl rfl (gives_index rfl rfl rfl (fun w => index8 (foldX (padF l) start8 xs) j hj2 w)) ?_
    refine TL.as_ ?_
    refine TL.end_ (TX.then_ (TC.region ?_))
    refine TL.mv ?_
    refine TL.mv ?_
    refine TL.val rfl rfl rfl (gives_bin rfl rfl rfl (fun w => bin_shr 16777216 (by decide) (by decide) rfl w)) ?_
    refine TL.val rfl rfl rfl (gives_conv rfl rfl (fun w => conv_int Tryd.underlying5 Tryd.underlying22 w)) ?_
    refine TL.mv ?_
    refine TL.val rfl rfl rfl (gives_bin rfl rfl rfl (fun w => bin_shr 65536 (by decide) (by decide) rfl w)) ?_
    refine TL.val rfl rfl rfl (gives_conv rfl rfl (fun w => conv_int Tryd.underlying5 Tryd.underlying22 w)) ?_
    refine TL.mv ?_
    refine TL.val rfl rfl rfl (gives_bin rfl rfl rfl (fun w => bin_shr 256 (by decide) (by decide) rfl w)) ?_
    refine TL.val rfl rfl rfl (gives_conv rfl rfl (fun w => conv_int Tryd.underlying5 Tryd.underlying22 w)) ?_
    refine TL.mv ?_
    refine TL.val rfl rfl rfl (gives_conv rfl rfl (fun w => conv_int Tryd.underlying5 Tryd.underlying22 w)) ?_
    refine TL.prow (cs := bv (word4 ((foldX (padF l) start8 xs).list.getD j 0))) rfl rfl rfl rfl rfl (fun w => row4 _ _ _ _ w) (by decide) rfl (fun g7 => ?_)
    refine TL.append (k := 1) rfl rfl rfl rfl elU8 rfl rfl rfl (fun w hw => pm_reads hw (k := 0) rfl) (bv_one _) (by rw [Nat.mul_one]; omega) (4 * (j + 1)) (by omega) (fun A7 c7 hA71 hA72 => ?_)
    refine TL.as_ ?_
    refine TL.end_ (TX.in_normal (TX.then_ (TC.region ?_)))
    refine TL.val rfl rfl rfl (gives_bin rfl rfl rfl (fun w => bin_add_ (r := ((j + 1 : Nat) : Int)) (by simp only [IntKind.wrap_i64]; omega) w)) ?_
    refine TL.mv ?_
    refine TL.end_ ?_
    exact TX.round (⟨(j + 1, A7, c7), hj2, hA71, hA72⟩) (by show 8 - (j + 1) < 8 - j; omega) ⟨rfl, rfl, rfl, trivial⟩ (fun w hw => by have h := Pm.tail hw; rw [outB_succ] at h; exact h)
   ·have hj2 : j = 8 := by have := of_decide_eq_false hc44; omega
    subst hj2
    refine TC.exit_ (TX.then_exit (TX.then_exit (TX.in_same (TX.then_ (TC.seq_ (TC.region ?_))))))
    refine TL.mv ?_
    refine TL.as_ ?_
    refine TL.end_ (TX.then_ (TC.ret_ ?_))
    subst hxs
    have hfx : outB (foldX (padF l) start8 (List.finRange K)) 8 = shaF l := by rw [foldX_all, ← hsh]
    rw [hfx]
    exact retM_row (k := 0) (kD := 1) Tryd.results54 rfl rfl rfl rfl (fun w1 hown hbel => ⟨A6, c6, rfl, hcc6.1, hcc6.2, hown, hbel⟩)
end Go.Proofs.YtmeaeeehnkcblaaDoor

namespace Go.Proofs.YtmeaeeehnkcblaaDoor
open Go.RowKit
set_option maxRecDepth 20000
theorem cod_stab (cb : Nat) : Stab cb (fun w => Cod w cb) := fun w1 w2 h hs => h.keep fun b hb => hs b (by omega)
theorem cod_cells {w : World} {cb : Nat} (h : Cod w cb) : CellsAt w cb := by
 obtain ⟨A, m, c, l, k, hb, _⟩ := h
 exact ⟨_, hb, rfl⟩
theorem nmNext : (Tryd.f21.name == "runtime.NumGoroutine") = false := by decide
theorem bdNext : Tryd.f21.body.isNone = false := rfl
theorem next_cod (cb : Nat) (w : World) (n : Int) (h : Cod w cb) :
  Calls Tryd.prog 21 #[.pointer (some ⟨cb, 0, none⟩), .int .i64 n] w fun e w' => ∃ x : {x : Nat // x ≤ 65535 ∧ (1 ≤ n → (x : Int) < n)}, e = .returned (.int .i64 (x.1 : Int)) ∧ Codr (fun w => Cod w cb) cb w [] w' :=
 (next_any cb w n h).mono fun e w' ⟨x, he, h0, h1, h2, hc, hg, _⟩ => by
  obtain ⟨k, rfl⟩ := Int.eq_ofNat_of_zero_le h0
  exact ⟨⟨k, by omega, h2⟩, he, hc, hg, cod_cells hc, (fun q hq => absurd hq List.not_mem_nil), List.Pairwise.nil⟩
theorem bs_one {x : Int} (h : 0 ≤ x ∧ x ≤ 255) : Bs [x] := by
 intro y hy
 rw [List.mem_singleton] at hy
 subst hy
 exact h
theorem u8_bits (op : BinOp) (a b : Int) : 0 ≤ bits op .u8 a b ∧ bits op .u8 a b ≤ 255 := by
 unfold bits
 simp only [IntKind.wrap_u8]
 omega
theorem spoilt_cod (cb : Nat) (w : World) (A : Option Addr) (n c : Nat) (l : List Int) (hC : Cod w cb) (hl : Byt w w.heap.size A n l) (hne : ∀ ad, A = some ad → ad.block ≠ cb) (hnc : n ≤ c) (h5 : n ≤ 1000000) :
  Calls Tryd.prog 17 #[.pointer (some ⟨cb, 0, none⟩), .slice A n c] w fun e w' => ∃ A' m c' l', e = .returned (.slice A' m c') ∧ m ≤ c' ∧ c' ≤ maxLen ∧ m ≤ n + 1 ∧ Bs l' ∧ Codr (fun w => Cod w cb) cb w [.row (.slice A' m c') 5 1 m (bv l')] w' := by
 have hln : l.length = n := hl.len
 have hsrc : ∀ (w1 : World) (L : List Pc), Pm ⟨w, cb⟩ L w1 → (∀ q ∈ oths cb w, q ∈ L) → Byt w1 w1.heap.size A n l := fun w1 L h hs => byt_grown hl hne (h.kept hs)
 refine begin_ (vs := [.pointer (some ⟨cb, 0, none⟩), .slice A n c]) (I := Pm ⟨w, cb⟩ (.abs cb (fun w => Cod w cb) :: oths cb w)) Tryd.func17 rfl rfl rfl ?_ (Pm.codes hC (cod_cells hC) (cod_stab cb))
 refine TC.seq_ (TC.region ?_)
 refine TL.as_ ?_
 refine TL.end_ (TX.then_ (TC.seq_ (TC.region ?_)))
 refine TL.mv ?_
 refine TL.nilrow 5 1 ?_
 refine TL.append (k := 0) rfl rfl rfl rfl elU8 rfl rfl rfl (fun w1 hw => ⟨_, (hsrc w1 _ hw (fun q hq => by simp [hq])).1⟩) (bv_one l) (by rw [Nat.mul_one]; omega) n (by omega) (fun A2 c2 hA21 hA22 => ?_)
 refine TL.as_ ?_
 refine TL.end_ (TX.then_ (TC.seq_ (TC.seq_ (TC.region ?_))))
 refine TL.mv ?_
 refine TL.val rfl rfl rfl (gives_len rfl Tryd.underlying28 rfl) ?_
 refine TL.val rfl rfl rfl (gives_bin rfl rfl rfl (fun w => bin_eql w)) ?_
 refine TL.end_ (TX.then_ ?_)
 refine TC.split rfl (fun hc11 => ?_) (fun hc11 => ?_)
 ·have hn0 : n = 0 := by have := of_decide_eq_true hc11; omega
  refine TC.seq_ (TC.region ?_)
  refine TL.mv ?_
  refine TL.pcallCod (k := 1) (α := {x : Nat // x ≤ 65535 ∧ (1 ≤ (256 : Int) → (x : Int) < 256)}) (fun x => .int .i64 (x.1 : Int)) (fun _ => []) rfl rfl rfl rfl rfl Tryd.func21 nmNext bdNext rfl (fun w1 hw hC1 => next_cod cb w1 256 hC1) ?_
  rintro ⟨x, hx1, hx2⟩
  dsimp only [List.nil_append] at hx1 hx2 ⊢
  refine TL.val rfl rfl rfl (gives_conv rfl rfl (fun w => conv_fit Tryd.underlying5 Tryd.underlying3 (by simp only [IntKind.wrap_u8]; omega) w)) ?_
  refine TL.prow (cs := bv [(x : Int)]) rfl rfl rfl rfl rfl (fun w => row1 _ w) (by decide) rfl (fun g1 => ?_)
  refine TL.as_ ?_
  refine TL.end_ (TX.then_ (TC.ret_ (TX.then_ret ?_)))
  exact ret_tmp Tryd.results17 (v := .slice (some ⟨g1, 0, none⟩) (1) 1) rfl (fun w1 hw => ⟨(some ⟨g1, 0, none⟩), 1, 1, [(x : Int)], rfl, Nat.le_refl _, by decide, by omega, bs_one (by omega), Pm.codr [_] (hw.sel (.cons_cons _ (.cons _ (List.Sublist.refl _)))) rfl⟩)
 ·have hn0 : 1 ≤ n := by have := of_decide_eq_false hc11; omega
  refine TC.skip_ (TX.then_ (TC.seq_ (TC.region ?_)))
  refine TL.mv ?_
  refine TL.mv ?_
  refine TL.val rfl rfl rfl (gives_len rfl Tryd.underlying28 rfl) ?_
  refine TL.pcallCod (k := 1) (α := {x : Nat // x ≤ 65535 ∧ (1 ≤ (n : Int) → (x : Int) < n)}) (fun x => .int .i64 (x.1 : Int)) (fun _ => []) rfl rfl rfl rfl rfl Tryd.func21 nmNext bdNext rfl (fun w1 hw hC1 => next_cod cb w1 n hC1) ?_
  rintro ⟨p, hp1, hp2⟩
  dsimp only [List.nil_append] at hp1 hp2 ⊢
  refine TL.as_ ?_
  refine TL.end_ (TX.then_ (TC.seq_ (TC.seq_ (TC.region ?_))))
  refine TL.mv ?_
  refine TL.pcallCod (k := 1) (α := {x : Nat // x ≤ 65535 ∧ (1 ≤ (4 : Int) → (x : Int) < 4)}) (fun x => .int .i64 (x.1 : Int)) (fun _ => []) rfl rfl rfl rfl rfl Tryd.func21 nmNext bdNext rfl (fun w1 hw hC1 => next_cod cb w1 4 hC1) ?_
  rintro ⟨q, hq1, hq2⟩
  dsimp only [List.nil_append] at hq1 hq2 ⊢
  refine TL.end_ (TX.then_ (TC.block (TC.seq_ (TC.region ?_))))
  refine TL.val rfl rfl rfl (gives_bin rfl rfl rfl (fun w => bin_eql w)) ?_
  refine TL.as_ ?_
  refine TL.end_ (TX.then_ ?_)
  refine TC.split rfl (fun hc22 => ?_) (fun hc22 => ?_)
  ·refine TC.seq_ ?_
   refine TC.held (ls := #[Ff,Ff,Ff,Ff,Ff,Ff,Ff,Ff,Ff]) (fun _ => True) (by kernel_rfl) rfl rfl (fun w hw => hw.drawn _) ?_
   refine TH.tk (listed' := #[Tt,Ff,Ff,Ff,Ff,Ff,Ff,Ff,Ff]) 0 rfl rfl rfl (gives_move rfl rfl) (fun w hw => trivial) ?_
   refine TH.tk (listed' := #[Tt,Tt,Ff,Ff,Ff,Ff,Ff,Ff,Ff]) 1 rfl rfl rfl (gives_move rfl rfl) (fun w hw => trivial) ?_
   refine TH.tk (listed' := #[Tt,Tt,Ff,Tt,Ff,Ff,Ff,Ff,Ff]) 3 rfl rfl rfl (gives_move rfl rfl) (fun w hw => trivial) ?_
   refine TH.tk (listed' := #[Tt,Tt,Ff,Tt,Tt,Ff,Ff,Ff,Ff]) 4 rfl rfl rfl (gives_move rfl rfl) (fun w hw => trivial) ?_
   refine TH.tk (listed' := #[Tt,Tt,Ff,Tt,Tt,Tt,Ff,Ff,Ff]) 5 rfl rfl rfl (gives_bin rfl rfl rfl (fun w => bin_add_ (r := ((p + 1 : Nat) : Int)) (by simp only [IntKind.wrap_i64]; omega) w)) (fun w hw => trivial) ?_
   refine TH.tk (listed' := #[Tt,Tt,Ff,Tt,Tt,Tt,Tt,Ff,Ff]) 6 rfl rfl rfl (gives_sliceL rfl rfl rfl (fun w => cut_lo1 (lo := p + 1) Tryd.underlying28 (fun w => rfl) _ _ _ rfl (by omega) w)) (fun w hw => trivial) ?_
   refine TH.only (listed' := #[Tt,Tt,Tt,Tt,Tt,Tt,Tt,Ff,Ff]) 2 rfl (by kernel_rfl) rfl rfl ?_
   refine TL.rowhead (k := 0) (size := 1) (hi := p) (xs' := bv (l.take p)) rfl rfl rfl rfl rfl rfl Tryd.underlying28 (fun w => rfl) rfl (by omega) hA21 (by rw [Nat.mul_one]; simp [bv, List.map_take]) ?_
   refine TL.end_ ?_
   refine TX.held (fun w hw => trivial) ?_
   refine TH.only (listed' := #[Tt,Tt,Tt,Tt,Tt,Tt,Tt,Tt,Ff]) 7 rfl (by kernel_rfl) rfl rfl ?_
   refine TL.append (k := 0) rfl rfl rfl rfl elU8 rfl rfl rfl (fun w1 hw => ⟨_, ((hsrc w1 _ hw (fun q hq => by simp [hq])).cut (k := p + 1) (cap := c) (by omega) hnc).1⟩) (bv_one _) (by rw [Nat.mul_one]; omega) (p + (n - (p + 1))) rfl (fun A3 c3 hA31 hA32 => ?_)
   refine TL.end_ ?_
   refine TX.held (fun w hw => trivial) ?_
   refine TH.tk (listed' := #[Tt,Tt,Tt,Tt,Tt,Tt,Tt,Tt,Tt]) 8 rfl rfl rfl (gives_assign rfl rfl) (fun w hw => trivial) ?_
   refine TH.done (by kernel_rfl) ?_
   refine TX.then_ (TC.ret_ (TX.in_ret (TX.then_ret ?_)))
   refine TX.cut [(4, .slice A3 (p + (n - (p + 1))) c3)] (Pm ⟨w, cb⟩ (.row (.slice A3 (p + (n - (p + 1))) c3) 5 1 (p + (n - (p + 1))) (bv (l.take p ++ l.drop (p + 1))) :: .abs cb (fun w => Cod w cb) :: oths cb w)) ⟨rfl, trivial⟩ (fun w1 hw => by rw [bv_app]; exact hw) ?_
   exact ret_tmp Tryd.results17 (v := .slice A3 (p + (n - (p + 1))) c3) rfl (fun w1 hw => ⟨A3, p + (n - (p + 1)), c3, l.take p ++ l.drop (p + 1), rfl, hA31, hA32, by omega, ((hl.2.take p).app (hl.2.drop (p + 1))), Pm.codr [_] (hw.sel (List.Sublist.refl _)) rfl⟩)
  ·refine TC.seq_ (TC.region ?_)
   refine TL.val rfl rfl rfl (gives_bin rfl rfl rfl (fun w => bin_eql w)) ?_
   refine TL.as_ ?_
   refine TL.end_ (TX.then_ ?_)
   refine TC.split rfl (fun hc32 => ?_) (fun hc32 => ?_)
   ·refine TC.seq_ (TC.region ?_)
    refine TL.mv ?_
    refine TL.mv ?_
    refine TL.pcallCod (k := 1) (α := {x : Nat // x ≤ 65535 ∧ (1 ≤ (256 : Int) → (x : Int) < 256)}) (fun x => .int .i64 (x.1 : Int)) (fun _ => []) rfl rfl rfl rfl rfl Tryd.func21 nmNext bdNext rfl (fun w1 hw hC1 => next_cod cb w1 256 hC1) ?_
    rintro ⟨x, hx1, hx2⟩
    dsimp only [List.nil_append] at hx1 hx2 ⊢
    refine TL.val rfl rfl rfl (gives_conv rfl rfl (fun w => conv_fit Tryd.underlying5 Tryd.underlying3 (by simp only [IntKind.wrap_u8]; omega) w)) ?_
    refine TL.prow (cs := bv [(x : Int)]) rfl rfl rfl rfl rfl (fun w => row1 _ w) (by decide) rfl (fun g1 => ?_)
    refine TL.append (k := 1) rfl rfl rfl rfl elU8 rfl rfl rfl (fun w1 hw => pm_reads hw (k := 0) rfl) (bv_one _) (by rw [Nat.mul_one]; omega) (n + 1) rfl (fun A3 c3 hA31 hA32 => ?_)
    refine TL.as_ ?_
    refine TL.end_ (TX.then_ (TC.ret_ (TX.in_ret (TX.then_ret ?_))))
    refine TX.cut [(4, .slice A3 (n + 1) c3)] (Pm ⟨w, cb⟩ (.row (.slice A3 (n + 1) c3) 5 1 (n + 1) (bv (l ++ [(x : Int)])) :: .abs cb (fun w => Cod w cb) :: oths cb w)) ⟨rfl, trivial⟩ (fun w1 hw => by rw [bv_app]; exact Pm.tail hw) ?_
    exact ret_tmp Tryd.results17 (v := .slice A3 (n + 1) c3) rfl (fun w1 hw => ⟨A3, n + 1, c3, l ++ [(x : Int)], rfl, hA31, hA32, by omega, (hl.2.app (bs_one (by omega))), Pm.codr [_] (hw.sel (List.Sublist.refl _)) rfl⟩)
   ·refine TC.skip_ (TX.in_normal (TX.then_ (TC.seq_ ?_)))
    refine TC.fact (p := ∃ g2, A2 = some ⟨g2, 0, none⟩) (fun w1 hw => row_some (hw.at_ (k := 0) rfl) (by omega)) (fun hg2 => ?_)
    obtain ⟨g2, rfl⟩ := hg2
    obtain ⟨y, hy0⟩ : ∃ y, l[p]? = some y := ⟨_, List.getElem?_eq_getElem (by omega)⟩
    have hy : (bv l)[0 + p]? = some (.int .u8 y) := by rw [Nat.zero_add]; simp [bv, hy0]
    refine TC.held (ls := #[Ff,Ff,Ff,Ff,Ff,Ff,Ff,Ff,Ff,Ff,Ff]) (fun _ => True) (by kernel_rfl) rfl rfl (fun w hw => hw.drawn _) ?_
    refine TH.tk (listed' := #[Tt,Ff,Ff,Ff,Ff,Ff,Ff,Ff,Ff,Ff,Ff]) 0 rfl rfl rfl (gives_move rfl rfl) (fun w hw => trivial) ?_
    refine TH.tk (listed' := #[Tt,Tt,Ff,Ff,Ff,Ff,Ff,Ff,Ff,Ff,Ff]) 1 rfl rfl rfl (gives_move rfl rfl) (fun w hw => trivial) ?_
    refine TH.tk (listed' := #[Tt,Tt,Tt,Ff,Ff,Ff,Ff,Ff,Ff,Ff,Ff]) 2 rfl rfl rfl (gives_at rfl rfl rfl (fun w => at_u8 g2 0 n c2 p (by omega) w)) (fun w hw => trivial) ?_
    refine TH.tk (listed' := #[Tt,Tt,Tt,Ff,Tt,Ff,Ff,Ff,Ff,Ff,Ff]) 4 rfl rfl rfl (gives_move rfl rfl) (fun w hw => trivial) ?_
    refine TH.two (listed1 := #[Tt,Tt,Tt,Tt,Tt,Ff,Ff,Ff,Ff,Ff,Ff]) (listed2 := #[Tt,Tt,Tt,Ff,Tt,Tt,Ff,Ff,Ff,Ff,Ff]) 3 5 rfl rfl (by kernel_rfl) rfl rfl rfl rfl ?_ ?_
    ·refine TL.val rfl rfl rfl (pm_loadRow (k := 0) (v := .int .u8 y) rfl rfl (fun w => rfl) rfl hy) ?_
     refine TL.end_ ?_
     refine TX.held (fun w hw => trivial) ?_
     refine TH.only (listed' := #[Tt,Tt,Tt,Tt,Tt,Tt,Ff,Ff,Ff,Ff,Ff]) 5 rfl (by kernel_rfl) rfl rfl ?_
     refine TL.pcallCod (k := 1) (α := {x : Nat // x ≤ 65535 ∧ (1 ≤ (255 : Int) → (x : Int) < 255)}) (fun x => .int .i64 (x.1 : Int)) (fun _ => []) rfl rfl rfl rfl rfl Tryd.func21 nmNext bdNext rfl (fun w1 hw hC1 => next_cod cb w1 255 hC1) ?_
     rintro ⟨x, hx1, hx2⟩
     dsimp only [List.nil_append] at hx1 hx2 ⊢
     refine TL.end_ ?_
     refine TX.held (fun w hw => trivial) ?_
     refine TH.tk (listed' := #[Tt,Tt,Tt,Tt,Tt,Tt,Tt,Ff,Ff,Ff,Ff]) 6 rfl rfl rfl (gives_bin rfl rfl rfl (fun w => bin_add_ (r := 1 + (x : Int)) (by simp only [IntKind.wrap_i64]; omega) w)) (fun w hw => trivial) ?_
     refine TH.tk (listed' := #[Tt,Tt,Tt,Tt,Tt,Tt,Tt,Tt,Ff,Ff,Ff]) 7 rfl rfl rfl (gives_conv rfl rfl (fun w => conv_fit Tryd.underlying5 Tryd.underlying3 (by simp only [IntKind.wrap_u8]; omega) w)) (fun w hw => trivial) ?_
     refine TH.tk (listed' := #[Tt,Tt,Tt,Tt,Tt,Tt,Tt,Tt,Tt,Ff,Ff]) 8 rfl rfl rfl (gives_bin rfl rfl rfl (fun w => bin_bits (.inr (.inr rfl)) w)) (fun w hw => trivial) ?_
     refine TH.tk (listed' := #[Tt,Tt,Tt,Tt,Tt,Tt,Tt,Tt,Tt,Tt,Ff]) 9 rfl rfl rfl (gives_at rfl rfl rfl (fun w => at_u8 g2 0 n c2 p (by omega) w)) (fun w hw => trivial) ?_
     refine TH.only (listed' := #[Tt,Tt,Tt,Tt,Tt,Tt,Tt,Tt,Tt,Tt,Tt]) 10 rfl (by kernel_rfl) rfl rfl ?_
     refine TL.rowset (k := 0) (vs := [.int .u8 (bits .xor .u8 y (1 + (x : Int)))]) rfl rfl rfl rfl rfl rfl rfl (fun w => rfl) (one1b _) (by simp only [bv_len, List.length_singleton]; omega) (xs' := bv (l.take p ++ [bits .xor .u8 y (1 + (x : Int))] ++ l.drop (p + 1))) (by rw [Nat.zero_add]; simp [bv, List.map_take, List.map_drop]) ?_
     refine TL.end_ ?_
     refine TX.held (fun w hw => trivial) ?_
     refine TH.done (by kernel_rfl) ?_
     refine TX.then_ (TC.seq_ (TC.region ?_))
     refine TL.mv ?_
     refine TL.as_ ?_
     refine TL.end_ (TX.then_ (TC.ret_ ?_))
     exact ret_tmp Tryd.results17 (v := .slice (some ⟨g2, 0, none⟩) (n) c2) rfl (fun w1 hw => ⟨(some ⟨g2, 0, none⟩), n, c2, _, rfl, hA21, hA22, by omega, (((hl.2.take p).app (bs_one (u8_bits _ _ _))).app (hl.2.drop (p + 1))), Pm.codr [_] (hw.sel (List.Sublist.refl _)) rfl⟩)
    ·refine TL.pcallCod (k := 1) (α := {x : Nat // x ≤ 65535 ∧ (1 ≤ (255 : Int) → (x : Int) < 255)}) (fun x => .int .i64 (x.1 : Int)) (fun _ => []) rfl rfl rfl rfl rfl Tryd.func21 nmNext bdNext rfl (fun w1 hw hC1 => next_cod cb w1 255 hC1) ?_
     rintro ⟨x, hx1, hx2⟩
     dsimp only [List.nil_append] at hx1 hx2 ⊢
     refine TL.end_ ?_
     refine TX.held (fun w hw => trivial) ?_
     refine TH.tk (listed' := #[Tt,Tt,Tt,Ff,Tt,Tt,Tt,Ff,Ff,Ff,Ff]) 6 rfl rfl rfl (gives_bin rfl rfl rfl (fun w => bin_add_ (r := 1 + (x : Int)) (by simp only [IntKind.wrap_i64]; omega) w)) (fun w hw => trivial) ?_
     refine TH.tk (listed' := #[Tt,Tt,Tt,Ff,Tt,Tt,Tt,Tt,Ff,Ff,Ff]) 7 rfl rfl rfl (gives_conv rfl rfl (fun w => conv_fit Tryd.underlying5 Tryd.underlying3 (by simp only [IntKind.wrap_u8]; omega) w)) (fun w hw => trivial) ?_
     refine TH.only (listed' := #[Tt,Tt,Tt,Tt,Tt,Tt,Tt,Tt,Ff,Ff,Ff]) 3 rfl (by kernel_rfl) rfl rfl ?_
     refine TL.val rfl rfl rfl (pm_loadRow (k := 0) (v := .int .u8 y) rfl rfl (fun w => rfl) rfl hy) ?_
     refine TL.end_ ?_
     refine TX.held (fun w hw => trivial) ?_
     refine TH.tk (listed' := #[Tt,Tt,Tt,Tt,Tt,Tt,Tt,Tt,Tt,Ff,Ff]) 8 rfl rfl rfl (gives_bin rfl rfl rfl (fun w => bin_bits (.inr (.inr rfl)) w)) (fun w hw => trivial) ?_
     refine TH.tk (listed' := #[Tt,Tt,Tt,Tt,Tt,Tt,Tt,Tt,Tt,Tt,Ff]) 9 rfl rfl rfl (gives_at rfl rfl rfl (fun w => at_u8 g2 0 n c2 p (by omega) w)) (fun w hw => trivial) ?_
     refine TH.only (listed' := #[Tt,Tt,Tt,Tt,Tt,Tt,Tt,Tt,Tt,Tt,Tt]) 10 rfl (by kernel_rfl) rfl rfl ?_
     refine TL.rowset (k := 0) (vs := [.int .u8 (bits .xor .u8 y (1 + (x : Int)))]) rfl rfl rfl rfl rfl rfl rfl (fun w => rfl) (one1b _) (by simp only [bv_len, List.length_singleton]; omega) (xs' := bv (l.take p ++ [bits .xor .u8 y (1 + (x : Int))] ++ l.drop (p + 1))) (by rw [Nat.zero_add]; simp [bv, List.map_take, List.map_drop]) ?_
     refine TL.end_ ?_
     refine TX.held (fun w hw => trivial) ?_
     refine TH.done (by kernel_rfl) ?_
     refine TX.then_ (TC.seq_ (TC.region ?_))
     refine TL.mv ?_
     refine TL.as_ ?_
     refine TL.end_ (TX.then_ (TC.ret_ ?_))
     exact ret_tmp Tryd.results17 (v := .slice (some ⟨g2, 0, none⟩) (n) c2) rfl (fun w1 hw => ⟨(some ⟨g2, 0, none⟩), n, c2, _, rfl, hA21, hA22, by omega, (((hl.2.take p).app (bs_one (u8_bits _ _ _))).app (hl.2.drop (p + 1))), Pm.codr [_] (hw.sel (List.Sublist.refl _)) rfl⟩)
end Go.Proofs.YtmeaeeehnkcblaaDoor
