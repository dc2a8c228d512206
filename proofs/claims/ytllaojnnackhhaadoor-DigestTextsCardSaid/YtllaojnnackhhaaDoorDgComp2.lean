/-
  The walk of digest.compress, by rules.
-/
import Derived.Test.YtllaojnnackhhaaDoorDgWords
import Derived.Test.YtllaojnnackhhaaDoorDgRoundLaw
import Derived.Test.YtllaojnnackhhaaDoorSymMem
import Derived.KernelRfl
namespace Go.Proofs.YtllaojnnackhhaaDoor
open Go.RowKit
set_option linter.unusedVariables false
set_option linter.unusedSimpArgs false

theorem sz1 (w : World) : (sizeOf 40).run Tryd.prog w = .ok 1 w := rfl
theorem ag1 (w : World) : (isAgg 40).run Tryd.prog w = .ok false w := rfl
theorem sz8 (w : World) : (sizeOf 42).run Tryd.prog w = .ok 8 w := rfl
theorem ag8 (w : World) : (isAgg 42).run Tryd.prog w = .ok true w := rfl
theorem nmTurn : (Tryd.f29.name == "runtime.NumGoroutine") = false := by decide
theorem bdTurn : Tryd.f29.body.isNone = false := rfl
def arrL (L : List Int) : List Value := (L.map (Value.int .u32)) ++ List.replicate (64 - L.length) (Value.int .u32 0)
theorem arrL_at (L : List Int) (i : Nat) (h : i < L.length) : (arrL L)[i]? = some (.int .u32 (L.getD i 0)) := by
  have := arrOf_at L i h
  unfold arrOf at this
  simpa [arrL] using this
theorem index64 (L : List Int) (hL : L.length = 64) (i : Nat) (h : i < 64) (w : World) : (Instr.index 56 (.agg (arrOf L)) (.int .i64 (i : Int))).run Tryd.prog w = .ok (.int .u32 (L.getD i 0)) w := by
  have hA := arrOf_at L i (by omega)
  have h1 : (0 : Int) ≤ (i : Int) ∧ (i : Int) < 64 := by omega
  simp [Instr.index, run_underlying Tryd.underlying56, asIntOf, sz1, ag1, part, h1, hA, go_sem]
  try (intro hh; exact absurd hh (by omega))
theorem build8 (a b c d e f g h : Int) (w : World) : (Instr.build 42 #[(0, .int .u32 a), (1, .int .u32 b), (2, .int .u32 c), (3, .int .u32 d), (4, .int .u32 e), (5, .int .u32 f), (6, .int .u32 g), (7, .int .u32 h)]).run Tryd.prog w = .ok (.agg #[.int .u32 a, .int .u32 b, .int .u32 c, .int .u32 d, .int .u32 e, .int .u32 f, .int .u32 g, .int .u32 h]) w := by kernel_rfl
theorem one8 (a b c d e f g h : Int) : ∀ u ∈ [Value.int .u32 a, .int .u32 b, .int .u32 c, .int .u32 d, .int .u32 e, .int .u32 f, .int .u32 g, .int .u32 h], u.oneCell' = true := by
  intro u hu
  simp only [List.mem_cons, List.not_mem_nil, or_false] at hu
  rcases hu with rfl | rfl | rfl | rfl | rfl | rfl | rfl | rfl <;> rfl
theorem arrL_one (L : List Int) : ∀ u ∈ arrL L, u.oneCell' = true := by
  intro u hu
  simp only [arrL, List.mem_append, List.mem_map, List.mem_replicate] at hu
  rcases hu with ⟨x, _, rfl⟩ | ⟨_, rfl⟩ <;> rfl
theorem zero64 (w : World) : (zeroValue 56).run Tryd.prog w = .ok (.agg (arrOf [])) w := rfl
theorem zero8 (w : World) : (zeroValue 42).run Tryd.prog w = .ok (.agg #[.int .u32 0, .int .u32 0, .int .u32 0, .int .u32 0, .int .u32 0, .int .u32 0, .int .u32 0, .int .u32 0]) w := rfl
theorem sz64 (w : World) : (sizeOf 56).run Tryd.prog w = .ok 64 w := rfl
def mixC (a b : S8) (j : Nat) : List Value := (a.list.take j ++ b.list.drop j).map (Value.int .u32)
theorem mix_get (a b : S8) (j : Nat) (h : j < 8) : (mixC a b j)[0 + j]? = some (.int .u32 (b.list.getD j 0)) := by
  match j, h with
  | 0, _ => rfl
  | 1, _ => rfl
  | 2, _ => rfl
  | 3, _ => rfl
  | 4, _ => rfl
  | 5, _ => rfl
  | 6, _ => rfl
  | 7, _ => rfl
  | j + 8, h => omega
theorem cell_get (a : S8) (j : Nat) (h : j < 8) : a.cells.toList[0 + j]? = some (.int .u32 (a.list.getD j 0)) := by
  match j, h with
  | 0, _ => rfl
  | 1, _ => rfl
  | 2, _ => rfl
  | 3, _ => rfl
  | 4, _ => rfl
  | 5, _ => rfl
  | 6, _ => rfl
  | 7, _ => rfl
  | j + 8, h => omega
theorem mix_put (a b : S8) (j : Nat) (h : j < 8) : (mixC (sumS a b) a j).take (0 + j) ++ [Value.int .u32 (IntKind.u32.wrap (a.list.getD j 0 + b.list.getD j 0))] ++ (mixC (sumS a b) a j).drop (0 + j + 1) = mixC (sumS a b) a (j + 1) := by
  match j, h with
  | 0, _ => rfl
  | 1, _ => rfl
  | 2, _ => rfl
  | 3, _ => rfl
  | 4, _ => rfl
  | 5, _ => rfl
  | 6, _ => rfl
  | 7, _ => rfl
  | j + 8, h => omega
theorem mix_len (a b : S8) (j : Nat) (h : j ≤ 8) : (mixC a b j).length = 8 := by simp [mixC, S8.list]; omega
theorem one1 (x : Int) : ∀ u ∈ [Value.int .u32 x], u.oneCell' = true := by
  intro u hu
  simp only [List.mem_cons, List.not_mem_nil, or_false] at hu
  subst hu; rfl
theorem nmWords : (Tryd.f28.name == "runtime.NumGoroutine") = false := by decide
theorem bdWords : Tryd.f28.body.isNone = false := rfl
theorem arrL_len (L : List Int) (h : L.length = 64) : (arrL L).length = 64 := by simp [arrL, h]
theorem set_all (cs vs : List Value) (h : vs.length = cs.length) : cs.take 0 ++ vs ++ cs.drop (0 + vs.length) = vs := by simp [h]
theorem compress_any (s0 : S8) (hok : s0.Ok) (b0 o c : Nat) (b : List Int) (w : World) (hb : Byt w w.heap.size (some ⟨b0, o, none⟩) 64 b) (hc : 64 ≤ c) (hc2 : c ≤ maxLen) {tk : TypeId} (hk : Blk w 1 tk (arrOf keysL)) :
    Calls Tryd.prog 21 #[.agg #[.int .u32 s0.a, .int .u32 s0.b, .int .u32 s0.c, .int .u32 s0.d, .int .u32 s0.e, .int .u32 s0.f, .int .u32 s0.g, .int .u32 s0.h], .slice (some ⟨b0, o, none⟩) 64 c] w fun e w' => e = .returned (.agg (blockF s0 b).cells) ∧ Below w.heap.size w w' := by
  obtain ⟨ws, hwsd⟩ : ∃ ws, ws = wList b 48 := ⟨_, rfl⟩
  have hws : ws.length = 64 := by rw [hwsd]; exact wList_len b 48
  refine begin_ (N := 110) (vs := [.agg #[.int .u32 s0.a, .int .u32 s0.b, .int .u32 s0.c, .int .u32 s0.d, .int .u32 s0.e, .int .u32 s0.f, .int .u32 s0.g, .int .u32 s0.h], .slice (some ⟨b0, o, none⟩) 64 c]) (I := Mem w []) Tryd.func21 rfl rfl rfl ?_ (Mem.start w)
  refine TC.seq_ ?_
  refine TC.region ?_
  refine TL.new rfl rfl rfl (exec_box (cs := [.int .u32 s0.a, .int .u32 s0.b, .int .u32 s0.c, .int .u32 s0.d, .int .u32 s0.e, .int .u32 s0.f, .int .u32 s0.g, .int .u32 s0.h]) rfl rfl rfl) (fun g2 => ?_)
  refine TL.new rfl rfl rfl (exec_alloc (cs := [.int .u32 0, .int .u32 0, .int .u32 0, .int .u32 0, .int .u32 0, .int .u32 0, .int .u32 0, .int .u32 0]) rfl zero8 rfl) (fun g4 => ?_)
  refine TL.nil_then ?_
  refine TC.seq_ ?_
  refine TC.region ?_
  refine TL.val rfl rfl rfl (gives_move rfl rfl) ?_
  refine TL.call1 (r := .agg (arrOf ws)) rfl rfl rfl rfl rfl Tryd.func28 nmWords bdWords (fun w1 hw => by rw [hwsd]; exact words_any b0 o c b w1 ((hb.below hw.bel).more hw.bel.size) hc hc2) ?_
  refine TL.new rfl rfl rfl (exec_alloc (cs := arrL []) rfl zero64 rfl) (fun g5 => ?_)
  refine TL.store (k := 0) (vs := arrL ws) rfl rfl rfl rfl rfl rfl rfl (by rw [arrL_len ws hws]; exact sz64) (arrL_one ws) (by rw [arrL_len ws hws]; decide) (L' := [(g5, 56, arrL ws), (g4, 42, [.int .u32 0, .int .u32 0, .int .u32 0, .int .u32 0, .int .u32 0, .int .u32 0, .int .u32 0, .int .u32 0]), (g2, 42, [.int .u32 s0.a, .int .u32 s0.b, .int .u32 s0.c, .int .u32 s0.d, .int .u32 s0.e, .int .u32 s0.f, .int .u32 s0.g, .int .u32 s0.h])]) (by rw [set_all _ _ (by rw [arrL_len ws hws]; rfl)]; rfl) ?_
  refine TL.nil_then ?_
  refine TC.seq_ ?_
  refine TC.region ?_
  refine TL.val rfl rfl rfl (mem_loadAgg (k := 2) (n := 8) rfl rfl ag8 sz8 rfl (Nat.le_refl 8)) ?_
  refine TL.new rfl rfl rfl (exec_alloc (cs := [.int .u32 0, .int .u32 0, .int .u32 0, .int .u32 0, .int .u32 0, .int .u32 0, .int .u32 0, .int .u32 0]) rfl zero8 rfl) (fun g6 => ?_)
  refine TL.store (k := 0) (vs := [.int .u32 s0.a, .int .u32 s0.b, .int .u32 s0.c, .int .u32 s0.d, .int .u32 s0.e, .int .u32 s0.f, .int .u32 s0.g, .int .u32 s0.h]) rfl rfl rfl rfl rfl rfl rfl sz8 (one8 _ _ _ _ _ _ _ _) (Nat.le_refl 8) (L' := [(g6, 42, [.int .u32 s0.a, .int .u32 s0.b, .int .u32 s0.c, .int .u32 s0.d, .int .u32 s0.e, .int .u32 s0.f, .int .u32 s0.g, .int .u32 s0.h]), (g5, 56, arrL ws), (g4, 42, [.int .u32 0, .int .u32 0, .int .u32 0, .int .u32 0, .int .u32 0, .int .u32 0, .int .u32 0, .int .u32 0]), (g2, 42, [.int .u32 s0.a, .int .u32 s0.b, .int .u32 s0.c, .int .u32 s0.d, .int .u32 s0.e, .int .u32 s0.f, .int .u32 s0.g, .int .u32 s0.h])]) rfl ?_
  refine TL.nil_then ?_
  refine TC.seq_ ?_
  refine TC.seq_ ?_
  refine TC.region ?_
  refine TL.val rfl rfl rfl (old_loadAgg rfl rfl hk Tryd.underlying56 rfl (by rw [arrOf_size _ (by rw [keysL_len]; omega)]; rfl)) ?_
  refine TL.val rfl rfl rfl (gives_move rfl rfl) ?_
  refine TL.nil_then ?_
  refine TC.block ?_
  refine TC.loop (α := Fin 65) (fun i => [(2, .pointer (some ⟨g2, 0, none⟩)), (4, .pointer (some ⟨g4, 0, none⟩)), (5, .pointer (some ⟨g5, 0, none⟩)), (6, .pointer (some ⟨g6, 0, none⟩)), (17, .agg (arrOf keysL)), (18, .int .i64 (i.val : Int))]) (fun i => Mem w [(g6, 42, (roundsF ws s0 i.val).cells.toList), (g5, 56, arrL ws), (g4, 42, [.int .u32 0, .int .u32 0, .int .u32 0, .int .u32 0, .int .u32 0, .int .u32 0, .int .u32 0, .int .u32 0]), (g2, 42, [.int .u32 s0.a, .int .u32 s0.b, .int .u32 s0.c, .int .u32 s0.d, .int .u32 s0.e, .int .u32 s0.f, .int .u32 s0.g, .int .u32 s0.h])]) (fun i => 64 - i.val) 0 (fun a w1 ha hw => ⟨ha.of_list ⟨rfl, rfl, rfl, rfl, rfl, rfl, trivial⟩, hw⟩) ?_
  intro ⟨i, hi65⟩
  refine TC.seq_ ?_
  refine TC.region ?_
  refine TL.val rfl rfl rfl (gives_bin rfl rfl rfl (fun w => bin_lss w)) ?_
  refine TL.nil_then ?_
  refine TC.seq_ ?_
  refine TC.split rfl (fun ht => ?_) (fun hf => ?_)
  · have hi : (i : Int) < 64 := of_decide_eq_true ht
    replace hi : i < 64 := by omega
    refine TC.skip_then ?_
    have hx := roundsF_ok ws s0 hok i
    have hnx : roundsF ws s0 (i + 1) = roundF (roundsF ws s0 i) (keysL.getD i 0) (ws.getD i 0) := rfl
    have hwv : (arrL ws)[0 + i]? = some (.int .u32 (ws.getD i 0)) := by rw [Nat.zero_add]; exact arrL_at ws i (by omega)
    generalize roundsF ws s0 i = x at *
    generalize ws.getD i 0 = wv at *
    obtain ⟨xa, xb, xc, xd, xe, xf, xg, xh⟩ := x
    obtain ⟨oa, ob, oc, od, oe, of', og, oh⟩ := hx
    refine TC.seq_ ?_
    refine TC.block ?_
    refine TC.seq_ ?_
    refine TC.region ?_
    refine TL.val rfl rfl rfl (gives_move rfl rfl) ?_
    refine TL.val rfl rfl rfl (gives_index rfl rfl rfl (fun w => index64 keysL keysL_len i hi w)) ?_
    refine TL.val rfl rfl rfl (gives_assign rfl rfl) ?_
    refine TL.val rfl rfl rfl (gives_assign rfl rfl) ?_
    refine TL.nil_then ?_
    refine TC.seq_ ?_
    refine TC.quiet_then (E' := [(2, .pointer (some ⟨g2, 0, none⟩)), (4, .pointer (some ⟨g4, 0, none⟩)), (5, .pointer (some ⟨g5, 0, none⟩)), (6, .pointer (some ⟨g6, 0, none⟩)), (17, .agg (arrOf keysL)), (18, .int .i64 (i : Int)), (7, .int .i64 (i : Int)), (8, .int .u32 (keysL.getD i 0)), (9, .int .u32 xa), (10, .int .u32 xe)]) (by kernel_rfl) (by kernel_rfl) (fun w hw => hw.drawn _) ?_ ?_
    · refine TQ.val rfl rfl rfl (gives_at rfl rfl rfl (fun w => at_arr Tryd.underlying42 sz1 _ 0 _ 0 (by decide) w)) ?_
      refine TQ.val rfl rfl rfl (mem_load (k := 0) rfl rfl ag1 rfl rfl) ?_
      refine TQ.val rfl rfl rfl (gives_at rfl rfl rfl (fun w => at_arr Tryd.underlying42 sz1 _ 0 _ 4 (by decide) w)) ?_
      refine TQ.val rfl rfl rfl (mem_load (k := 0) rfl rfl ag1 rfl rfl) ?_
      refine TQ.val rfl rfl rfl (gives_assign rfl rfl) ?_
      refine TQ.val rfl rfl rfl (gives_assign rfl rfl) ?_
      exact TQ.nil (fun a ha => ha.of_list ⟨rfl, rfl, rfl, rfl, rfl, rfl, rfl, rfl, rfl, rfl, trivial⟩)
    refine TC.seq_ ?_
    refine TC.quiet_then (E' := [(2, .pointer (some ⟨g2, 0, none⟩)), (4, .pointer (some ⟨g4, 0, none⟩)), (5, .pointer (some ⟨g5, 0, none⟩)), (6, .pointer (some ⟨g6, 0, none⟩)), (17, .agg (arrOf keysL)), (18, .int .i64 (i : Int)), (7, .int .i64 (i : Int)), (8, .int .u32 (keysL.getD i 0)), (9, .int .u32 xa), (10, .int .u32 xe), (11, .int .u32 (t1F ⟨xa, xb, xc, xd, xe, xf, xg, xh⟩ (keysL.getD i 0) wv))]) (by kernel_rfl) (by kernel_rfl) (fun w hw => hw.drawn _) ?_ ?_
    · refine TQ.val rfl rfl rfl (gives_at rfl rfl rfl (fun w => at_arr Tryd.underlying42 sz1 _ 0 _ 7 (by decide) w)) ?_
      refine TQ.val rfl rfl rfl (mem_load (k := 0) rfl rfl ag1 rfl rfl) ?_
      refine TQ.val rfl rfl rfl (gives_move rfl rfl) ?_
      refine TQ.call rfl rfl rfl rfl rfl Tryd.func29 nmTurn bdTurn (fun w hw => (turn_6 xe oe w).mono (fun e w2 ⟨he, hh⟩ => ⟨he, hh ▸ hw⟩)) ?_
      refine TQ.val rfl rfl rfl (gives_move rfl rfl) ?_
      refine TQ.call rfl rfl rfl rfl rfl Tryd.func29 nmTurn bdTurn (fun w hw => (turn_11 xe oe w).mono (fun e w2 ⟨he, hh⟩ => ⟨he, hh ▸ hw⟩)) ?_
      refine TQ.val rfl rfl rfl (gives_bin rfl rfl rfl (fun w => bin_bits (.inr (.inr rfl)) w)) ?_
      refine TQ.val rfl rfl rfl (gives_move rfl rfl) ?_
      refine TQ.call rfl rfl rfl rfl rfl Tryd.func29 nmTurn bdTurn (fun w hw => (turn_25 xe oe w).mono (fun e w2 ⟨he, hh⟩ => ⟨he, hh ▸ hw⟩)) ?_
      refine TQ.val rfl rfl rfl (gives_bin rfl rfl rfl (fun w => bin_bits (.inr (.inr rfl)) w)) ?_
      refine TQ.val rfl rfl rfl (gives_bin rfl rfl rfl (fun w => bin_add w)) ?_
      refine TQ.val rfl rfl rfl (gives_move rfl rfl) ?_
      refine TQ.val rfl rfl rfl (gives_at rfl rfl rfl (fun w => at_arr Tryd.underlying42 sz1 _ 0 _ 5 (by decide) w)) ?_
      refine TQ.val rfl rfl rfl (mem_load (k := 0) rfl rfl ag1 rfl rfl) ?_
      refine TQ.val rfl rfl rfl (gives_bin rfl rfl rfl (fun w => bin_bits (.inl rfl) w)) ?_
      refine TQ.val rfl rfl rfl (gives_move rfl rfl) ?_
      refine TQ.val rfl rfl rfl (gives_not rfl rfl) ?_
      refine TQ.val rfl rfl rfl (gives_at rfl rfl rfl (fun w => at_arr Tryd.underlying42 sz1 _ 0 _ 6 (by decide) w)) ?_
      refine TQ.val rfl rfl rfl (mem_load (k := 0) rfl rfl ag1 rfl rfl) ?_
      refine TQ.val rfl rfl rfl (gives_bin rfl rfl rfl (fun w => bin_bits (.inl rfl) w)) ?_
      refine TQ.val rfl rfl rfl (gives_bin rfl rfl rfl (fun w => bin_bits (.inr (.inr rfl)) w)) ?_
      refine TQ.val rfl rfl rfl (gives_bin rfl rfl rfl (fun w => bin_add w)) ?_
      refine TQ.val rfl rfl rfl (gives_move rfl rfl) ?_
      refine TQ.val rfl rfl rfl (gives_bin rfl rfl rfl (fun w => bin_add w)) ?_
      refine TQ.val rfl rfl rfl (gives_move rfl rfl) ?_
      refine TQ.val rfl rfl rfl (gives_at rfl rfl rfl (fun w => at_arr Tryd.underlying56 sz1 _ 0 _ i hi w)) ?_
      refine TQ.val rfl rfl rfl (mem_load (k := 1) rfl rfl ag1 rfl hwv) ?_
      refine TQ.val rfl rfl rfl (gives_bin rfl rfl rfl (fun w => bin_add w)) ?_
      refine TQ.val rfl rfl rfl (gives_assign rfl rfl) ?_
      exact TQ.nil (fun a ha => ha.of_list ⟨rfl, rfl, rfl, rfl, rfl, rfl, rfl, rfl, rfl, rfl, rfl, trivial⟩)
    refine TC.seq_ ?_
    refine TC.quiet_then (E' := [(2, .pointer (some ⟨g2, 0, none⟩)), (4, .pointer (some ⟨g4, 0, none⟩)), (5, .pointer (some ⟨g5, 0, none⟩)), (6, .pointer (some ⟨g6, 0, none⟩)), (17, .agg (arrOf keysL)), (18, .int .i64 (i : Int)), (7, .int .i64 (i : Int)), (8, .int .u32 (keysL.getD i 0)), (9, .int .u32 xa), (10, .int .u32 xe), (11, .int .u32 (t1F ⟨xa, xb, xc, xd, xe, xf, xg, xh⟩ (keysL.getD i 0) wv)), (12, .int .u32 (t2F ⟨xa, xb, xc, xd, xe, xf, xg, xh⟩))]) (by kernel_rfl) (by kernel_rfl) (fun w hw => hw.drawn _) ?_ ?_
    · refine TQ.val rfl rfl rfl (gives_move rfl rfl) ?_
      refine TQ.call rfl rfl rfl rfl rfl Tryd.func29 nmTurn bdTurn (fun w hw => (turn_2 xa oa w).mono (fun e w2 ⟨he, hh⟩ => ⟨he, hh ▸ hw⟩)) ?_
      refine TQ.val rfl rfl rfl (gives_move rfl rfl) ?_
      refine TQ.call rfl rfl rfl rfl rfl Tryd.func29 nmTurn bdTurn (fun w hw => (turn_13 xa oa w).mono (fun e w2 ⟨he, hh⟩ => ⟨he, hh ▸ hw⟩)) ?_
      refine TQ.val rfl rfl rfl (gives_bin rfl rfl rfl (fun w => bin_bits (.inr (.inr rfl)) w)) ?_
      refine TQ.val rfl rfl rfl (gives_move rfl rfl) ?_
      refine TQ.call rfl rfl rfl rfl rfl Tryd.func29 nmTurn bdTurn (fun w hw => (turn_22 xa oa w).mono (fun e w2 ⟨he, hh⟩ => ⟨he, hh ▸ hw⟩)) ?_
      refine TQ.val rfl rfl rfl (gives_bin rfl rfl rfl (fun w => bin_bits (.inr (.inr rfl)) w)) ?_
      refine TQ.val rfl rfl rfl (gives_move rfl rfl) ?_
      refine TQ.val rfl rfl rfl (gives_at rfl rfl rfl (fun w => at_arr Tryd.underlying42 sz1 _ 0 _ 1 (by decide) w)) ?_
      refine TQ.val rfl rfl rfl (mem_load (k := 0) rfl rfl ag1 rfl rfl) ?_
      refine TQ.val rfl rfl rfl (gives_bin rfl rfl rfl (fun w => bin_bits (.inl rfl) w)) ?_
      refine TQ.val rfl rfl rfl (gives_move rfl rfl) ?_
      refine TQ.val rfl rfl rfl (gives_at rfl rfl rfl (fun w => at_arr Tryd.underlying42 sz1 _ 0 _ 2 (by decide) w)) ?_
      refine TQ.val rfl rfl rfl (mem_load (k := 0) rfl rfl ag1 rfl rfl) ?_
      refine TQ.val rfl rfl rfl (gives_bin rfl rfl rfl (fun w => bin_bits (.inl rfl) w)) ?_
      refine TQ.val rfl rfl rfl (gives_bin rfl rfl rfl (fun w => bin_bits (.inr (.inr rfl)) w)) ?_
      refine TQ.val rfl rfl rfl (gives_at rfl rfl rfl (fun w => at_arr Tryd.underlying42 sz1 _ 0 _ 1 (by decide) w)) ?_
      refine TQ.val rfl rfl rfl (mem_load (k := 0) rfl rfl ag1 rfl rfl) ?_
      refine TQ.val rfl rfl rfl (gives_at rfl rfl rfl (fun w => at_arr Tryd.underlying42 sz1 _ 0 _ 2 (by decide) w)) ?_
      refine TQ.val rfl rfl rfl (mem_load (k := 0) rfl rfl ag1 rfl rfl) ?_
      refine TQ.val rfl rfl rfl (gives_bin rfl rfl rfl (fun w => bin_bits (.inl rfl) w)) ?_
      refine TQ.val rfl rfl rfl (gives_bin rfl rfl rfl (fun w => bin_bits (.inr (.inr rfl)) w)) ?_
      refine TQ.val rfl rfl rfl (gives_bin rfl rfl rfl (fun w => bin_add w)) ?_
      refine TQ.val rfl rfl rfl (gives_assign rfl rfl) ?_
      exact TQ.nil (fun a ha => ha.of_list ⟨rfl, rfl, rfl, rfl, rfl, rfl, rfl, rfl, rfl, rfl, rfl, rfl, trivial⟩)
    refine TC.region ?_
    refine TL.val rfl rfl rfl (gives_move rfl rfl) ?_
    refine TL.val rfl rfl rfl (gives_move rfl rfl) ?_
    refine TL.val rfl rfl rfl (gives_bin rfl rfl rfl (fun w => bin_add w)) ?_
    refine TL.val rfl rfl rfl (gives_move rfl rfl) ?_
    refine TL.val rfl rfl rfl (gives_at rfl rfl rfl (fun w => at_arr Tryd.underlying42 sz1 _ 0 _ 1 (by decide) w)) ?_
    refine TL.val rfl rfl rfl (mem_load (k := 0) rfl rfl ag1 rfl rfl) ?_
    refine TL.val rfl rfl rfl (gives_at rfl rfl rfl (fun w => at_arr Tryd.underlying42 sz1 _ 0 _ 2 (by decide) w)) ?_
    refine TL.val rfl rfl rfl (mem_load (k := 0) rfl rfl ag1 rfl rfl) ?_
    refine TL.val rfl rfl rfl (gives_at rfl rfl rfl (fun w => at_arr Tryd.underlying42 sz1 _ 0 _ 3 (by decide) w)) ?_
    refine TL.val rfl rfl rfl (mem_load (k := 0) rfl rfl ag1 rfl rfl) ?_
    refine TL.val rfl rfl rfl (gives_move rfl rfl) ?_
    refine TL.val rfl rfl rfl (gives_bin rfl rfl rfl (fun w => bin_add w)) ?_
    refine TL.val rfl rfl rfl (gives_move rfl rfl) ?_
    refine TL.val rfl rfl rfl (gives_at rfl rfl rfl (fun w => at_arr Tryd.underlying42 sz1 _ 0 _ 5 (by decide) w)) ?_
    refine TL.val rfl rfl rfl (mem_load (k := 0) rfl rfl ag1 rfl rfl) ?_
    refine TL.val rfl rfl rfl (gives_at rfl rfl rfl (fun w => at_arr Tryd.underlying42 sz1 _ 0 _ 6 (by decide) w)) ?_
    refine TL.val rfl rfl rfl (mem_load (k := 0) rfl rfl ag1 rfl rfl) ?_
    refine TL.val rfl rfl rfl (gives_build rfl rfl (fun w => build8 _ _ _ _ _ _ _ _ w)) ?_
    refine TL.store (k := 0) (vs := [.int .u32 (IntKind.u32.wrap (t1F ⟨xa, xb, xc, xd, xe, xf, xg, xh⟩ (keysL.getD i 0) wv + t2F ⟨xa, xb, xc, xd, xe, xf, xg, xh⟩)), .int .u32 xa, .int .u32 xb, .int .u32 xc, .int .u32 (IntKind.u32.wrap (xd + t1F ⟨xa, xb, xc, xd, xe, xf, xg, xh⟩ (keysL.getD i 0) wv)), .int .u32 xe, .int .u32 xf, .int .u32 xg]) rfl rfl rfl rfl rfl rfl rfl sz8 (one8 _ _ _ _ _ _ _ _) (Nat.le_refl 8) (L' := [(g6, 42, [.int .u32 (IntKind.u32.wrap (t1F ⟨xa, xb, xc, xd, xe, xf, xg, xh⟩ (keysL.getD i 0) wv + t2F ⟨xa, xb, xc, xd, xe, xf, xg, xh⟩)), .int .u32 xa, .int .u32 xb, .int .u32 xc, .int .u32 (IntKind.u32.wrap (xd + t1F ⟨xa, xb, xc, xd, xe, xf, xg, xh⟩ (keysL.getD i 0) wv)), .int .u32 xe, .int .u32 xf, .int .u32 xg]), (g5, 56, arrL ws), (g4, 42, [.int .u32 0, .int .u32 0, .int .u32 0, .int .u32 0, .int .u32 0, .int .u32 0, .int .u32 0, .int .u32 0]), (g2, 42, [.int .u32 s0.a, .int .u32 s0.b, .int .u32 s0.c, .int .u32 s0.d, .int .u32 s0.e, .int .u32 s0.f, .int .u32 s0.g, .int .u32 s0.h])]) rfl ?_
    refine TL.nil_block ?_
    refine TC.region ?_
    refine TL.val rfl rfl rfl (gives_bin rfl rfl rfl (fun w => bin_add w)) ?_
    refine TL.val rfl rfl rfl (gives_move rfl rfl) ?_
    have hcl : [.int .u32 (IntKind.u32.wrap (t1F ⟨xa, xb, xc, xd, xe, xf, xg, xh⟩ (keysL.getD i 0) wv + t2F ⟨xa, xb, xc, xd, xe, xf, xg, xh⟩)), .int .u32 xa, .int .u32 xb, .int .u32 xc, .int .u32 (IntKind.u32.wrap (xd + t1F ⟨xa, xb, xc, xd, xe, xf, xg, xh⟩ (keysL.getD i 0) wv)), .int .u32 xe, .int .u32 xf, .int .u32 xg] = (roundsF ws s0 (i + 1)).cells.toList := by rw [hnx]; rfl
    refine TL.nil (fun a w1 ha hw => ⟨⟨i + 1, by omega⟩, by show 64 - (i + 1) < 64 - i; omega, ha.of_list ⟨rfl, rfl, rfl, rfl, rfl, congrArg some (vint (by show IntKind.i64.wrap ((i : Int) + 1) = ((i + 1 : Nat) : Int); rw [IntWalk.i64_in _ (by omega)]; omega)), trivial⟩, ?_⟩)
    rw [hcl] at hw
    exact hw
  · have hi : i = 64 := by have : ¬ ((i : Int) < 64) := of_decide_eq_false hf; omega
    subst hi
    refine TC.exit (fun a w1 ha hw => ?_)
    simp only [Exit.then, Exit.inBlock, if_true]
    refine (?_ : TC _ 110 _ _ [(2, .pointer (some ⟨g2, 0, none⟩)), (4, .pointer (some ⟨g4, 0, none⟩)), (6, .pointer (some ⟨g6, 0, none⟩))] (Mem w [(g6, 42, (roundsF ws s0 64).cells.toList), (g5, 56, arrL ws), (g4, 42, [.int .u32 0, .int .u32 0, .int .u32 0, .int .u32 0, .int .u32 0, .int .u32 0, .int .u32 0, .int .u32 0]), (g2, 42, mixC (sumS s0 (roundsF ws s0 64)) s0 0)])) a w1 (ha.of_list ⟨rfl, rfl, rfl, trivial⟩) hw
    clear ha hw a w1
    refine TC.seq_ ?_
    refine TC.seq_ ?_
    refine TC.region ?_
    refine TL.val rfl rfl rfl (gives_move rfl rfl) ?_
    refine TL.nil_then ?_
    refine TC.block ?_
    refine TC.loop (α := Fin 9) (fun j => [(2, .pointer (some ⟨g2, 0, none⟩)), (4, .pointer (some ⟨g4, 0, none⟩)), (6, .pointer (some ⟨g6, 0, none⟩)), (97, .int .i64 (j.val : Int))]) (fun j => Mem w [(g6, 42, (roundsF ws s0 64).cells.toList), (g5, 56, arrL ws), (g4, 42, [.int .u32 0, .int .u32 0, .int .u32 0, .int .u32 0, .int .u32 0, .int .u32 0, .int .u32 0, .int .u32 0]), (g2, 42, mixC (sumS s0 (roundsF ws s0 64)) s0 j.val)]) (fun j => 8 - j.val) 0 (fun a w1 ha hw => ⟨ha.of_list ⟨rfl, rfl, rfl, rfl, trivial⟩, hw⟩) ?_
    intro ⟨j, hj9⟩
    refine TC.seq_ ?_
    refine TC.region ?_
    refine TL.val rfl rfl rfl (gives_bin rfl rfl rfl (fun w => bin_lss w)) ?_
    refine TL.nil_then ?_
    refine TC.seq_ ?_
    refine TC.split rfl (fun ht => ?_) (fun hf => ?_)
    · have hj : (j : Int) < 8 := of_decide_eq_true ht
      replace hj : j < 8 := by omega
      refine TC.skip_then ?_
      refine TC.seq_ ?_
      refine TC.block ?_
      refine TC.seq_ ?_
      refine TC.region ?_
      refine TL.val rfl rfl rfl (gives_move rfl rfl) ?_
      refine TL.val rfl rfl rfl (gives_assign rfl rfl) ?_
      refine TL.nil_then ?_
      refine TC.tail 8 (by kernel_rfl) (by kernel_rfl) (fun w hw => hw.drawn _) ?_
      refine TS.val rfl rfl rfl (gives_move rfl rfl) ?_
      refine TS.val rfl rfl rfl (gives_at rfl rfl rfl (fun w => at_arr Tryd.underlying42 sz1 _ 0 _ j hj w)) ?_
      refine TS.val rfl rfl rfl (mem_load (k := 3) rfl rfl ag1 rfl (mix_get _ _ j hj)) ?_
      refine TS.val rfl rfl rfl (gives_move rfl rfl) ?_
      refine TS.val rfl rfl rfl (gives_at rfl rfl rfl (fun w => at_arr Tryd.underlying42 sz1 _ 0 _ j hj w)) ?_
      refine TS.val rfl rfl rfl (mem_load (k := 0) rfl rfl ag1 rfl (cell_get _ j hj)) ?_
      refine TS.val rfl rfl rfl (gives_bin rfl rfl rfl (fun w => bin_add w)) ?_
      refine TS.val rfl rfl rfl (gives_at rfl rfl rfl (fun w => at_arr Tryd.underlying42 sz1 _ 0 _ j hj w)) ?_
      refine TS.nil (?_ : TL _ 110 _ _ _ _ _)
      refine TL.store (k := 3) (vs := [.int .u32 (IntKind.u32.wrap (s0.list.getD j 0 + (roundsF ws s0 64).list.getD j 0))]) rfl rfl rfl rfl rfl rfl rfl sz1 (one1 _) (by rw [mix_len _ _ _ (by omega)]; show 0 + j + 1 ≤ 8; omega) (L' := [(g6, 42, (roundsF ws s0 64).cells.toList), (g5, 56, arrL ws), (g4, 42, [.int .u32 0, .int .u32 0, .int .u32 0, .int .u32 0, .int .u32 0, .int .u32 0, .int .u32 0, .int .u32 0]), (g2, 42, mixC (sumS s0 (roundsF ws s0 64)) s0 (j + 1))]) (congrArg (fun q => [(g6, 42, (roundsF ws s0 64).cells.toList), (g5, 56, arrL ws), (g4, 42, [.int .u32 0, .int .u32 0, .int .u32 0, .int .u32 0, .int .u32 0, .int .u32 0, .int .u32 0, .int .u32 0]), (g2, 42, q)]) (mix_put s0 _ j hj)) ?_
      refine TL.nil_block ?_
      refine TC.region ?_
      refine TL.val rfl rfl rfl (gives_bin rfl rfl rfl (fun w => bin_add w)) ?_
      refine TL.val rfl rfl rfl (gives_move rfl rfl) ?_
      refine TL.nil (fun a w1 ha hw => ⟨⟨j + 1, by omega⟩, by show 8 - (j + 1) < 8 - j; omega, ha.of_list ⟨rfl, rfl, rfl, congrArg some (vint (by show IntKind.i64.wrap ((j : Int) + 1) = ((j + 1 : Nat) : Int); rw [IntWalk.i64_in _ (by omega)]; omega)), trivial⟩, hw⟩)
    · have hj : j = 8 := by have : ¬ ((j : Int) < 8) := of_decide_eq_false hf; omega
      subst hj
      refine TC.exit (fun a w1 ha hw => ?_)
      simp only [Exit.then, Exit.inBlock, if_true]
      refine (?_ : TC _ 110 _ _ [(2, .pointer (some ⟨g2, 0, none⟩)), (4, .pointer (some ⟨g4, 0, none⟩)), (6, .pointer (some ⟨g6, 0, none⟩))] (Mem w [(g6, 42, (roundsF ws s0 64).cells.toList), (g5, 56, arrL ws), (g4, 42, [.int .u32 0, .int .u32 0, .int .u32 0, .int .u32 0, .int .u32 0, .int .u32 0, .int .u32 0, .int .u32 0]), (g2, 42, (sumS s0 (roundsF ws s0 64)).cells.toList)])) a w1 (ha.of_list ⟨rfl, rfl, rfl, trivial⟩) hw
      clear ha hw a w1
      refine TC.seq_ ?_
      refine TC.region ?_
      refine TL.val rfl rfl rfl (mem_loadAgg (k := 3) (n := 8) rfl rfl ag8 sz8 rfl (Nat.le_refl 8)) ?_
      refine TL.store (k := 2) (vs := (sumS s0 (roundsF ws s0 64)).cells.toList) rfl rfl rfl rfl rfl rfl rfl sz8 (one8 _ _ _ _ _ _ _ _) (Nat.le_refl 8) (L' := [(g6, 42, (roundsF ws s0 64).cells.toList), (g5, 56, arrL ws), (g4, 42, (sumS s0 (roundsF ws s0 64)).cells.toList), (g2, 42, (sumS s0 (roundsF ws s0 64)).cells.toList)]) rfl ?_
      refine TL.nil_then ?_
      refine TC.ret (ret_cell (k := 2) Tryd.results21 rfl rfl Tryd.underlying42 rfl rfl (fun w1 hw => ⟨by rw [hwsd]; rfl, hw.bel⟩))
end Go.Proofs.YtllaojnnackhhaaDoor
