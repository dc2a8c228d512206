/-
  The walk of digest.Sum, by rules.
-/
import Derived.Test.YtllaojnnackhhaaDoorDgComp2
import Derived.Test.YtllaojnnackhhaaDoorDgSumLaw
import Derived.Test.YtllaojnnackhhaaDoorClone
import Derived.Test.YtllaojnnackhhaaDoorChunkMake
import Derived.Test.YtllaojnnackhhaaDoorChunk
import Derived.Test.YtllaojnnackhhaaDoorSymRange
namespace Go.Proofs.YtllaojnnackhhaaDoor
open Go.RowKit
set_option linter.unusedVariables false
set_option linter.unusedSimpArgs false
theorem szero8 (w : World) : (zeroValue 42).run Tryd.prog w = .ok (.agg #[.int .u32 0, .int .u32 0, .int .u32 0, .int .u32 0, .int .u32 0, .int .u32 0, .int .u32 0, .int .u32 0]) w := rfl
theorem ssz8 (w : World) : (sizeOf 42).run Tryd.prog w = .ok 8 w := rfl
theorem sag8 (w : World) : (isAgg 42).run Tryd.prog w = .ok true w := rfl
theorem nmClone : (Tryd.f19.name == "runtime.NumGoroutine") = false := by decide
theorem bdClone : Tryd.f19.body.isNone = false := rfl
theorem nmChunk : (Tryd.f20.name == "runtime.NumGoroutine") = false := by decide
theorem bdChunk : Tryd.f20.body.isNone = false := rfl
theorem nmChunk1 : (Tryd.f27.name == "runtime.NumGoroutine") = false := by decide
theorem bdChunk1 : Tryd.f27.body.isNone = false := rfl
theorem nmComp : (Tryd.f21.name == "runtime.NumGoroutine") = false := by decide
theorem bdComp : Tryd.f21.body.isNone = false := rfl
theorem padv_zero0 (l : List Int) : bv l ++ [Value.int .u8 128] = bv (padv l 0) := by simp [padv, bv]
theorem padF_bv (l : List Int) {n : Nat} (h : l.length = n) : bv (padv l (padZ n)) ++ bv (lenB n 8) = bv (padF l) := by subst h; simp [padF, bv]
theorem addr_add (g off j : Nat) : (⟨g, off, none⟩ : Addr).add j = ⟨g, off + j, none⟩ := by unfold Addr.add; split <;> simp_all
theorem row_some {w : World} {base : Nat} {e : TypeId} {size n c : Nat} {A : Option Addr} {xs : List Value} (h : w.ownsRow base e size (.slice A n c) n xs) (hn : 0 < n) : ∃ b, A = some ⟨b, 0, none⟩ := by
  rcases h.2 with ⟨e, h2⟩ | ⟨g, cap, cur, a, r⟩
  · cases e; omega
  · cases a; exact ⟨g, rfl⟩
theorem index8 (s : S8) (j : Nat) (h : j < 8) (w : World) : (Instr.index 42 (.agg s.cells) (.int .i64 (j : Int))).run Tryd.prog w = .ok (.int .u32 (s.list.getD j 0)) w := by
  match j, h with
  | 0, _ => rfl
  | 1, _ => rfl
  | 2, _ => rfl
  | 3, _ => rfl
  | 4, _ => rfl
  | 5, _ => rfl
  | 6, _ => rfl
  | 7, _ => rfl
  | j + 8, h => omega
/-- the words after some blocks -/
def foldX {K : Nat} (b : List Int) (s : S8) (xs : List (Fin K)) : S8 := xs.foldl (fun s x => blockF s ((b.drop (64 * x.1)).take 64)) s
theorem foldX_succ {K : Nat} (b : List Int) (s : S8) (xs : List (Fin K)) (x : Fin K) : foldX b s (xs ++ [x]) = blockF (foldX b s xs) ((b.drop (64 * x.1)).take 64) := by simp [foldX]
theorem foldX_ok {K : Nat} (b : List Int) (s : S8) (hs : s.Ok) (xs : List (Fin K)) : (foldX b s xs).Ok := by
  rcases List.eq_nil_or_concat xs with rfl | ⟨ys, y, rfl⟩
  · exact hs
  · rw [List.concat_eq_append, foldX_succ]
    exact sumS_ok _ _
theorem foldX_to (K k : Nat) (b : List Int) (s : S8) (h : k ≤ K) : foldX b s (chunksTo K k) = foldB b s k := by
  induction k with
  | zero => rfl
  | succ k ih => rw [chunksTo_succ K k (by omega), foldX_succ, ih (by omega)]; rfl
theorem foldX_all (K : Nat) (b : List Int) (s : S8) : foldX b s (List.finRange K) = foldB b s K := by
  rw [← foldX_to K K b s (Nat.le_refl _), chunksTo, List.take_of_length_le (by simp)]
theorem sum_any (A : Option Addr) (n c : Nat) (l : List Int) (w : World) (hb : Byt w w.heap.size A n l) (hlim : n + 100 ≤ 140737488355328) {ts tk : TypeId} (hst : Blk w 0 ts start8.cells) (hky : Blk w 1 tk (arrOf keysL)) :
    Calls Tryd.prog 9 #[.slice A n c] w fun e w' => ∃ A' c', e = .returned (.slice A' 32 c') ∧ 32 ≤ c' ∧ c' ≤ maxLen ∧ w'.ownsRow w.heap.size 5 1 (.slice A' 32 c') 32 (bv (shaF l)) ∧ Below w.heap.size w w' := by
  have hln : l.length = n := hb.len
  have hpz := padZ_le n
  have hpm := padZ_mod n
  have hpl := padF_len l
  rw [hln] at hpl
  obtain ⟨K, hK⟩ : ∃ K, K = (padF l).length / 64 := ⟨_, rfl⟩
  have hK2 : n + 1 + padZ n + 8 = 64 * K := by omega
  have hsh : shaF l = outB (foldB (padF l) start8 K) 8 := by rw [hK]; rfl
  refine beginM_ (vs := [.slice A n c]) 3 Tryd.func9 rfl rfl rfl ?_ (Pm.start w)
  refine TC.seq_ ?_
  refine TC.region ?_
  refine TL.val rfl rfl rfl (gives_assign rfl rfl) ?_
  refine TL.end_ ?_
  refine TX.then_ ?_
  refine TC.seq_ ?_
  refine TC.region ?_
  refine TL.val rfl rfl rfl (gives_move rfl rfl) ?_
  refine TL.pcallRow (n := n) (ys := bv l) rfl rfl rfl rfl rfl Tryd.func19 nmClone bdClone (fun w1 hw => (clone_any A n c l w1 ((hb.below hw.bel).more hw.bel.size) (by omega))) (fun A1 c1 hA11 hA12 => ?_)
  refine TL.prow (cs := [.int .u8 128]) rfl rfl rfl rfl rfl (fun w => row1 _ w) (by decide) rfl (fun g1 => ?_)
  refine TL.append (k := 1) rfl rfl rfl rfl elU8 rfl rfl rfl (fun w hw => pm_reads hw (k := 0) rfl) (one1b _) (by rw [Nat.mul_one]; omega) (n + 1) (by omega) (fun A2 c2 hA21 hA22 => ?_)
  refine TL.val rfl rfl rfl (gives_assign rfl rfl) ?_
  refine TL.end_ ?_
  refine TX.then_ ?_
  refine TC.seq_ ?_
  refine TC.block ?_
  refine TC.loop_ (α := {x : Nat × Option Addr × Nat // x.1 ≤ padZ n ∧ n + 1 + x.1 ≤ x.2.2 ∧ x.2.2 ≤ maxLen}) (fun x => [(0, .slice A n c), (3, .slice x.1.2.1 (n + 1 + x.1.1) x.1.2.2)]) (fun x => Pm w [.row (.slice x.1.2.1 (n + 1 + x.1.1) x.1.2.2) 5 1 (n + 1 + x.1.1) (bv (padv l x.1.1))]) (fun x => padZ n - x.1.1) (⟨(0, A2, c2), Nat.zero_le _, hA21, hA22⟩) ⟨rfl, rfl, trivial⟩ (fun w hw => by have h := Pm.tail hw; rw [padv_zero0] at h; exact h) ?_
  rintro ⟨⟨z, A3, c3⟩, hz, hcc⟩
  dsimp only at hz hcc ⊢
  refine TC.seq_ ?_
  refine TC.seq_ ?_
  refine TC.region ?_
  refine TL.val rfl rfl rfl (gives_move rfl rfl) ?_
  refine TL.val rfl rfl rfl (gives_len rfl Tryd.underlying22 rfl) ?_
  refine TL.val rfl rfl rfl (gives_bin rfl rfl rfl (fun w => bin_remi (by omega) (by omega) w)) ?_
  refine TL.val rfl rfl rfl (gives_bin rfl rfl rfl (fun w => bin_neq w)) ?_
  refine TL.end_ ?_
  refine TX.then_ ?_
  refine TC.split rfl (fun hc17 => ?_) (fun hc17 => ?_)
  · have hz2 : z < padZ n := by have := of_decide_eq_true hc17; unfold padZ at *; omega
    refine TC.skip_ ?_
    refine TX.then_ ?_
    refine TC.block ?_
    refine TC.region ?_
    refine TL.val rfl rfl rfl (gives_move rfl rfl) ?_
    refine TL.prow (cs := [.int .u8 0]) rfl rfl rfl rfl rfl (fun w => row1 _ w) (by decide) rfl (fun g2 => ?_)
    refine TL.append (k := 1) rfl rfl rfl rfl elU8 rfl rfl rfl (fun w hw => pm_reads hw (k := 0) rfl) (one1b _) (by rw [Nat.mul_one]; omega) (n + 1 + (z + 1)) (by omega) (fun A3 c3 hA31 hA32 => ?_)
    refine TL.val rfl rfl rfl (gives_assign rfl rfl) ?_
    refine TL.end_ ?_
    refine TX.in_normal ?_
    exact TX.round (⟨(z + 1, A3, c3), hz2, hA31, hA32⟩) (by show padZ n - (z + 1) < padZ n - z; omega) ⟨rfl, rfl, trivial⟩ (fun w hw => by have h := Pm.tail hw; rw [padv_succ] at h; exact h)
  · have hz2 : z = padZ n := by have := of_decide_eq_false hc17; unfold padZ at *; omega
    subst hz2
    refine TC.exit_ ?_
    refine TX.then_exit ?_
    refine TX.then_exit ?_
    refine TX.in_same ?_
    refine TX.then_ ?_
    refine TC.seq_ ?_
    refine TC.seq_ ?_
    refine TC.region ?_
    refine TL.val rfl rfl rfl (gives_assign rfl rfl) ?_
    refine TL.end_ ?_
    refine TX.then_ ?_
    refine TC.block ?_
    refine TC.loop_ (α := {x : Nat × Option Addr × Nat // x.1 ≤ 8 ∧ n + 1 + padZ n + x.1 ≤ x.2.2 ∧ x.2.2 ≤ maxLen}) (fun x => [(0, .slice A n c), (3, .slice x.1.2.1 (n + 1 + padZ n + x.1.1) x.1.2.2), (4, .int .i64 (56 - 8 * (x.1.1 : Int)))]) (fun x => Pm w [.row (.slice x.1.2.1 (n + 1 + padZ n + x.1.1) x.1.2.2) 5 1 (n + 1 + padZ n + x.1.1) (bv (padv l (padZ n)) ++ bv (lenB n x.1.1))]) (fun x => 8 - x.1.1) (⟨(0, A3, c3), Nat.zero_le _, hcc⟩) ⟨rfl, rfl, rfl, trivial⟩ (fun w hw => by rw [← List.append_nil (bv (padv l (padZ n)))] at hw; exact hw) ?_
    rintro ⟨⟨j, A5, c5⟩, hj, hcc5⟩
    dsimp only at hj hcc5 ⊢
    refine TC.seq_ ?_
    refine TC.seq_ ?_
    refine TC.region ?_
    refine TL.val rfl rfl rfl (gives_move rfl rfl) ?_
    refine TL.val rfl rfl rfl (gives_bin rfl rfl rfl (fun w => bin_geq w)) ?_
    refine TL.end_ ?_
    refine TX.then_ ?_
    refine TC.split rfl (fun hc22 => ?_) (fun hc22 => ?_)
    · have hj2 : j ≤ 7 := by have := of_decide_eq_true hc22; omega
      refine TC.skip_ ?_
      refine TX.then_ ?_
      refine TC.seq_ ?_
      refine TC.block ?_
      refine TC.region ?_
      refine TL.val rfl rfl rfl (gives_move rfl rfl) ?_
      refine TL.val rfl rfl rfl (gives_move rfl rfl) ?_
      refine TL.val rfl rfl rfl (gives_len rfl Tryd.underlying22 rfl) ?_
      refine TL.val rfl rfl rfl (gives_conv rfl rfl (fun w => conv_fit Tryd.underlying38 Tryd.underlying3 (by simp only [IntKind.wrap_u64]; omega) w)) ?_
      refine TL.val rfl rfl rfl (gives_bin rfl rfl rfl (fun w => bin_shl 8 (by decide) (by decide) rfl w)) ?_
      refine TL.val rfl rfl rfl (gives_move rfl rfl) ?_
      refine TL.val rfl rfl rfl (gives_bin rfl rfl rfl (fun w => bin_shr (2 ^ (56 - 8 * j)) (by omega) (by show (_ : Int) ≤ 64; omega) (by rw [show (56 - 8 * (j : Int)).toNat = 56 - 8 * j by omega]) w)) ?_
      refine TL.val rfl rfl rfl (gives_conv rfl rfl (fun w => conv_int Tryd.underlying5 Tryd.underlying38 w)) ?_
      refine TL.prow (cs := [.int .u8 (IntKind.u8.wrap (lenW n / 2 ^ (56 - 8 * j)))]) rfl rfl rfl rfl rfl (fun w => row1 _ w) (by decide) rfl (fun g3 => ?_)
      refine TL.append (k := 1) rfl rfl rfl rfl elU8 rfl rfl rfl (fun w hw => pm_reads hw (k := 0) rfl) (one1b _) (by rw [Nat.mul_one]; omega) (n + 1 + padZ n + (j + 1)) (by omega) (fun A4 c4 hA41 hA42 => ?_)
      refine TL.val rfl rfl rfl (gives_assign rfl rfl) ?_
      refine TL.end_ ?_
      refine TX.in_normal ?_
      refine TX.then_ ?_
      refine TC.region ?_
      refine TL.val rfl rfl rfl (gives_move rfl rfl) ?_
      refine TL.val rfl rfl rfl (gives_bin rfl rfl rfl (fun w => bin_sub_ (r := 56 - 8 * ((j + 1 : Nat) : Int)) (by simp only [IntKind.wrap_i64]; omega) w)) ?_
      refine TL.val rfl rfl rfl (gives_assign rfl rfl) ?_
      refine TL.end_ ?_
      exact TX.round (⟨(j + 1, A4, c4), by omega, hA41, hA42⟩) (by show 8 - (j + 1) < 8 - j; omega) ⟨rfl, rfl, rfl, trivial⟩ (fun w hw => by have h := Pm.tail hw; rw [List.append_assoc, ← lenB_succ] at h; exact h)
    · have hj2 : j = 8 := by have := of_decide_eq_false hc22; omega
      subst hj2
      rw [hK2] at hcc5
      refine TC.cut [(3, .slice A5 (64 * K) c5)] (Pm w [.row (.slice A5 (64 * K) c5) 5 1 (64 * K) (bv (padF l))]) ⟨by rw [← hK2]; rfl, trivial⟩ (fun w hw => by rw [padF_bv l hln, hK2] at hw; exact hw) ?_
      refine TC.fact (p := ∃ b5, A5 = some ⟨b5, 0, none⟩) (fun w1 hw => row_some (hw.at_ (k := 0) rfl) (by omega)) (fun hb5 => ?_)
      refine TC.exit_ ?_
      refine TX.then_exit ?_
      refine TX.then_exit ?_
      refine TX.in_same ?_
      refine TX.then_ ?_
      refine TC.seq_ ?_
      obtain ⟨b5, rfl⟩ := hb5
      refine TC.region ?_
      refine TL.val rfl rfl rfl (pm_oldAgg rfl rfl hst hst.lt Tryd.underlying42 rfl rfl) ?_
      refine TL.pnew rfl rfl rfl (exec_alloc (cs := [.int .u32 0, .int .u32 0, .int .u32 0, .int .u32 0, .int .u32 0, .int .u32 0, .int .u32 0, .int .u32 0]) rfl szero8 rfl) (fun g5 => ?_)
      refine TL.pstore (k := 0) (vs := start8.cells.toList) rfl rfl rfl rfl rfl rfl rfl ssz8 (one8 _ _ _ _ _ _ _ _) (Nat.le_refl 8) (L' := [.blk g5 42 start8.cells.toList, .row (.slice (some ⟨b5, 0, none⟩) (64 * K) c5) 5 1 (64 * K) (bv (padF l))]) rfl ?_
      refine TL.end_ ?_
      refine TX.then_ ?_
      refine TC.seq_ ?_
      refine TC.seq_ ?_
      refine TC.region ?_
      refine TL.val rfl rfl rfl (gives_move rfl rfl) ?_
      refine TL.pcallPm (α := Nat × Nat) (fun x => .func (.func 27) #[] #[.pointer (some ⟨x.1, 0, none⟩), .pointer (some ⟨x.2, 0, none⟩)]) (fun x => [.blk x.2 3 [.int .i64 64], .blk x.1 22 [.slice (some ⟨b5, 0, none⟩) (64 * K) c5]]) rfl rfl rfl rfl rfl Tryd.func20 nmChunk bdChunk (fun w1 hw => ((mkchunk_any (some ⟨b5, 0, none⟩) (64 * K) c5 w1).mono fun e w2 ⟨b2, b3, he, h2⟩ => ⟨(b2, b3), he, h2⟩)) ?_
      rintro ⟨b2, b3⟩
      dsimp only [List.cons_append, List.nil_append]
      refine TL.end_ ?_
      refine TX.then_ ?_
      refine TC.block ?_
      refine TC.rangeF 3 (by omega) rfl Tryd.func27 nmChunk1 bdChunk1 rfl (fun x : Fin K => .slice (some ⟨b5, 0 + 64 * x.1, none⟩) 64 64) (KeepsCell b2 b3) (fun ys => ys = List.finRange K) (fun pre => pre <+: List.finRange K) K (fun pre => [.blk b3 3 [.int .i64 64], .blk b2 22 [.slice (some ⟨b5, 0, none⟩) (64 * K) c5], .blk g5 42 (foldX (padF l) start8 pre).cells.toList, .row (.slice (some ⟨b5, 0, none⟩) (64 * K) c5) 5 1 (64 * K) (bv (padF l))]) (fun _ => rfl) (fun w1 hw => ?_) keepsCell_t keepsCell_b (fun pre pre' b W W' h1 h2 => ?_) (fun x => [(6, .slice (some ⟨b5, 0 + 64 * x.1, none⟩) 64 64), (5, .pointer (some ⟨g5, 0, none⟩))]) rfl (fun x Q' I h => ?_) (fun lr pre x W hW hlen => ?_) (fun D xs hxs => ?_)
      · exact chunk_stops 2 (by omega) b2 b3 b5 0 K c5 hcc5.1 hcc5.2 w1 (Pc.lt (hw.at_ (k := 1) rfl) b2 rfl).2 (Pc.lt (hw.at_ (k := 0) rfl) b3 rfl).2 (hw.cell (k := 1) rfl 0) (hw.cell (k := 0) rfl 0)
      · exact ⟨fun v e => by rw [h1.cell (k := 1) rfl 0] at e; rw [h2.cell (k := 1) rfl 0]; exact e, fun v e => by rw [h1.cell (k := 0) rfl 0] at e; rw [h2.cell (k := 0) rfl 0]; exact e⟩
      · refine TL.val rfl rfl rfl (gives_assign rfl rfl) ?_
        exact TL.end_ (TX.cut [(6, .slice (some ⟨b5, 0 + 64 * x.1, none⟩) 64 64), (5, .pointer (some ⟨g5, 0, none⟩))] I ⟨rfl, rfl, trivial⟩ (fun w hw => hw) h)
      · refine TR.block ?_
        refine TR.region (fun ⟨a, w, h⟩ => by cases h.1) rfl ?_
        refine TL.val rfl rfl rfl (pm_loadAgg (k := 2) (n := 8) rfl rfl sag8 ssz8 rfl (Nat.le_refl 8)) ?_
        refine TL.val rfl rfl rfl (gives_move rfl rfl) ?_
        refine TL.pcall1 (r := .agg (foldX (padF l) start8 (pre ++ [x])).cells) rfl rfl rfl rfl rfl Tryd.func21 nmComp bdComp (fun w1 hw => ?_) ?_
        · have hby : Byt w1 w1.heap.size (some ⟨b5, 0, none⟩) (64 * K) (padF l) := byt_own (hw.at_ (k := 3) rfl) (padF_bs l hb.2)
          have hx := x.2
          have hcu := (hby.cut (k := 64 * x.1) (cap := c5) (by omega) hcc5.1).head (k := 64) (by omega)
          have hne : ¬ c5 = 64 * x.1 := by have := hcc5.1; omega
          rw [if_neg hne, show Option.map (fun a : Addr => a.add (64 * x.1)) (some ⟨b5, 0, none⟩) = some ⟨b5, 0 + 64 * x.1, none⟩ from by simp only [Option.map_some, addr_add]] at hcu
          rw [foldX_succ]
          exact compress_any (foldX (padF l) start8 pre) (foldX_ok _ _ start8_ok pre) b5 (0 + 64 * x.1) 64 _ w1 hcu (by omega) (by decide) ((hky.below hW.bel hky.lt).below hw.bel hky.lt)
        refine TL.pstore (k := 2) (vs := (foldX (padF l) start8 (pre ++ [x])).cells.toList) rfl rfl rfl rfl rfl rfl rfl ssz8 (one8 _ _ _ _ _ _ _ _) (Nat.le_refl 8) rfl ?_
        refine TL.end_ ?_
        refine TX.in_normal ?_
        exact TX.roundQ (fun w hw => hw)
      refine TX.in_normal ?_
      refine TX.then_ ?_
      refine TC.seq_ ?_
      refine TC.region ?_
      refine TL.val rfl rfl rfl (gives_assign rfl rfl) ?_
      refine TL.end_ ?_
      refine TX.then_ ?_
      refine TC.seq_ ?_
      refine TC.seq_ ?_
      refine TC.region ?_
      refine TL.val rfl rfl rfl (pm_loadAgg (k := 3) (n := 8) rfl rfl sag8 ssz8 rfl (Nat.le_refl 8)) ?_
      refine TL.val rfl rfl rfl (gives_move rfl rfl) ?_
      refine TL.end_ ?_
      refine TX.then_ ?_
      refine TC.block ?_
      refine TC.loop_ (α := {x : Nat × Option Addr × Nat // x.1 ≤ 8 ∧ 4 * x.1 ≤ x.2.2 ∧ x.2.2 ≤ maxLen}) (fun x => [(42, .agg (foldX (padF l) start8 xs).cells), (7, .slice x.1.2.1 (4 * x.1.1) x.1.2.2), (43, .int .i64 (x.1.1 : Int))]) (fun x => Pm w [.row (.slice x.1.2.1 (4 * x.1.1) x.1.2.2) 5 1 (4 * x.1.1) (bv (outB (foldX (padF l) start8 xs) x.1.1)), .oth D (.deferred (some []))]) (fun x => 8 - x.1.1) (⟨(0, none, 0), Nat.zero_le _, Nat.zero_le _, Nat.zero_le _⟩) ⟨rfl, rfl, rfl, trivial⟩ (fun w hw => (hw.sel (.cons_cons _ (List.nil_sublist _))).nilrow 5 1) ?_
      rintro ⟨⟨j, A6, c6⟩, hj, hcc6⟩
      dsimp only at hj hcc6 ⊢
      refine TC.seq_ ?_
      refine TC.region ?_
      refine TL.val rfl rfl rfl (gives_bin rfl rfl rfl (fun w => bin_lss w)) ?_
      refine TL.end_ ?_
      refine TX.then_ ?_
      refine TC.seq_ ?_
      refine TC.split rfl (fun hc44 => ?_) (fun hc44 => ?_)
      · have hj2 : j < 8 := by have := of_decide_eq_true hc44; omega
        refine TC.skip_ ?_
        refine TX.then_ ?_
        refine TC.seq_ ?_
        refine TC.block ?_
        refine TC.seq_ ?_
        refine TC.region ?_
        refine TL.val rfl rfl rfl (gives_index rfl rfl rfl (fun w => index8 (foldX (padF l) start8 xs) j hj2 w)) ?_
        refine TL.val rfl rfl rfl (gives_assign rfl rfl) ?_
        refine TL.end_ ?_
        refine TX.then_ ?_
        refine TC.region ?_
        refine TL.val rfl rfl rfl (gives_move rfl rfl) ?_
        refine TL.val rfl rfl rfl (gives_move rfl rfl) ?_
        refine TL.val rfl rfl rfl (gives_bin rfl rfl rfl (fun w => bin_shr 16777216 (by decide) (by decide) rfl w)) ?_
        refine TL.val rfl rfl rfl (gives_conv rfl rfl (fun w => conv_int Tryd.underlying5 Tryd.underlying40 w)) ?_
        refine TL.val rfl rfl rfl (gives_move rfl rfl) ?_
        refine TL.val rfl rfl rfl (gives_bin rfl rfl rfl (fun w => bin_shr 65536 (by decide) (by decide) rfl w)) ?_
        refine TL.val rfl rfl rfl (gives_conv rfl rfl (fun w => conv_int Tryd.underlying5 Tryd.underlying40 w)) ?_
        refine TL.val rfl rfl rfl (gives_move rfl rfl) ?_
        refine TL.val rfl rfl rfl (gives_bin rfl rfl rfl (fun w => bin_shr 256 (by decide) (by decide) rfl w)) ?_
        refine TL.val rfl rfl rfl (gives_conv rfl rfl (fun w => conv_int Tryd.underlying5 Tryd.underlying40 w)) ?_
        refine TL.val rfl rfl rfl (gives_move rfl rfl) ?_
        refine TL.val rfl rfl rfl (gives_conv rfl rfl (fun w => conv_int Tryd.underlying5 Tryd.underlying40 w)) ?_
        refine TL.prow (cs := bv (word4 ((foldX (padF l) start8 xs).list.getD j 0))) rfl rfl rfl rfl rfl (fun w => row4 _ _ _ _ w) (by decide) rfl (fun g7 => ?_)
        refine TL.append (k := 1) rfl rfl rfl rfl elU8 rfl rfl rfl (fun w hw => pm_reads hw (k := 0) rfl) (bv_one _) (by rw [Nat.mul_one]; omega) (4 * (j + 1)) (by omega) (fun A7 c7 hA71 hA72 => ?_)
        refine TL.val rfl rfl rfl (gives_assign rfl rfl) ?_
        refine TL.end_ ?_
        refine TX.in_normal ?_
        refine TX.then_ ?_
        refine TC.region ?_
        refine TL.val rfl rfl rfl (gives_bin rfl rfl rfl (fun w => bin_add_ (r := ((j + 1 : Nat) : Int)) (by simp only [IntKind.wrap_i64]; omega) w)) ?_
        refine TL.val rfl rfl rfl (gives_move rfl rfl) ?_
        refine TL.end_ ?_
        exact TX.round (⟨(j + 1, A7, c7), hj2, hA71, hA72⟩) (by show 8 - (j + 1) < 8 - j; omega) ⟨rfl, rfl, rfl, trivial⟩ (fun w hw => by have h := Pm.tail hw; rw [outB_succ] at h; exact h)
      · have hj2 : j = 8 := by have := of_decide_eq_false hc44; omega
        subst hj2
        refine TC.exit_ ?_
        refine TX.then_exit ?_
        refine TX.then_exit ?_
        refine TX.in_same ?_
        refine TX.then_ ?_
        refine TC.seq_ ?_
        refine TC.region ?_
        refine TL.val rfl rfl rfl (gives_move rfl rfl) ?_
        refine TL.val rfl rfl rfl (gives_assign rfl rfl) ?_
        refine TL.end_ ?_
        refine TX.then_ ?_
        refine TC.ret_ ?_
        subst hxs
        have hfx : outB (foldX (padF l) start8 (List.finRange K)) 8 = shaF l := by rw [foldX_all, ← hsh]
        rw [hfx]
        exact retM_row (k := 0) (kD := 1) Tryd.results9 rfl rfl rfl rfl (fun w1 hown hbel => ⟨A6, c6, rfl, hcc6.1, hcc6.2, hown, hbel⟩)
end Go.Proofs.YtllaojnnackhhaaDoor
