/-
  The walk of the reference's Sum, by rules.
-/
import Derived.Test.YtllaojnnackhhaaDoorDgComp2
import Derived.Test.YtllaojnnackhhaaDoorDgSumLaw
import Derived.Test.YtllaojnnackhhaaDoorByteRow
import Derived.Test.YtllaojnnackhhaaDoorSymHeld
namespace Go.Proofs.YtllaojnnackhhaaDoor
open Go.RowKit
set_option linter.unusedVariables false
set_option linter.unusedSimpArgs false
theorem rbuild8 (w : World) : (Instr.build 41 #[(0, .int .u32 1779033703), (1, .int .u32 3144134277), (2, .int .u32 1013904242), (3, .int .u32 2773480762), (4, .int .u32 1359893119), (5, .int .u32 2600822924), (6, .int .u32 528734635), (7, .int .u32 1541459225)]).run Tryd.prog w = .ok (.agg start8.cells) w := by kernel_rfl
theorem rzero8 (w : World) : (zeroValue 41).run Tryd.prog w = .ok (.agg #[.int .u32 0, .int .u32 0, .int .u32 0, .int .u32 0, .int .u32 0, .int .u32 0, .int .u32 0, .int .u32 0]) w := rfl
theorem rsz8 (w : World) : (sizeOf 41).run Tryd.prog w = .ok 8 w := rfl
theorem rag8 (w : World) : (isAgg 41).run Tryd.prog w = .ok true w := rfl
theorem rsz1 (w : World) : (sizeOf 40).run Tryd.prog w = .ok 1 w := rfl
theorem rag1 (w : World) : (isAgg 40).run Tryd.prog w = .ok false w := rfl
theorem rnmBlock : (Tryd.f22.name == "runtime.NumGoroutine") = false := by decide
theorem rbdBlock : Tryd.f22.body.isNone = false := rfl
theorem padv_zero (l : List Int) : [] ++ bv l ++ [Value.int .u8 128] = bv (padv l 0) := by simp [padv, bv]
theorem padF_bv (l : List Int) {n : Nat} (h : l.length = n) : bv (padv l (padZ n)) ++ bv (lenB n 8) = bv (padF l) := by subst h; simp [padF, bv]
theorem rsum_any (hB : ∀ (s : S8) (A : Option Addr) (c : Nat) (b : List Int) (w : World), s.Ok → Byt w w.heap.size A 64 b → 64 ≤ c → c ≤ maxLen → Calls Tryd.prog 22 #[.agg s.cells, .slice A 64 c] w fun e w' => e = .returned (.agg (blockF s b).cells) ∧ Below w.heap.size w w')
    (A : Option Addr) (n c : Nat) (l : List Int) (w : World) (hb : Byt w w.heap.size A n l) (hlim : n + 100 ≤ 140737488355328) :
    Calls Tryd.prog 10 #[.slice A n c] w fun e w' => ∃ A' c', e = .returned (.slice A' 32 c') ∧ 32 ≤ c' ∧ c' ≤ maxLen ∧ w'.ownsRow w.heap.size 5 1 (.slice A' 32 c') 32 (bv (shaF l)) ∧ Below w.heap.size w w' := by
  have hln : l.length = n := hb.len
  have hpz := padZ_le n
  have hpm := padZ_mod n
  have hpl := padF_len l
  rw [hln] at hpl
  obtain ⟨K, hK⟩ : ∃ K, K = (padF l).length / 64 := ⟨_, rfl⟩
  have hK2 : n + 1 + padZ n + 8 = 64 * K := by omega
  have hsh : shaF l = outB (foldB (padF l) start8 K) 8 := by rw [hK]; rfl
  rw [hsh]
  refine begin_ (vs := [.slice A n c]) Tryd.func10 rfl rfl rfl ?_ (Pm.start w)
  refine TC.seq_ ?_
  refine TC.region ?_
  refine TL.val rfl rfl rfl (gives_assign rfl rfl) ?_
  refine TL.end_ ?_
  refine TX.then_ ?_
  refine TC.seq_ ?_
  refine TC.region ?_
  refine TL.val rfl rfl rfl (gives_move rfl rfl) ?_
  refine TL.nilrow 5 1 ?_
  refine TL.append (k := 0) rfl rfl rfl rfl elU8 rfl rfl rfl (fun w hw => pm_byt hw hb) (bv_one l) (by rw [Nat.mul_one]; omega) (n) (by omega) (fun A1 c1 hA11 hA12 => ?_)
  refine TL.prow (cs := [.int .u8 128]) rfl rfl rfl rfl rfl (fun w => row1 _ w) (by decide) rfl (fun g1 => ?_)
  refine TL.append (k := 1) rfl rfl rfl rfl elU8 rfl rfl rfl (fun w hw => pm_reads hw (k := 0) rfl) (one1b _) (by rw [Nat.mul_one]; omega) (n + 1) (by omega) (fun A2 c2 hA21 hA22 => ?_)
  refine TL.val rfl rfl rfl (gives_assign rfl rfl) ?_
  refine TL.end_ ?_
  refine TX.then_ ?_
  refine TC.seq_ ?_
  refine TC.block ?_
  refine TC.loop_ (α := {x : Nat × Option Addr × Nat // x.1 ≤ padZ n ∧ n + 1 + x.1 ≤ x.2.2 ∧ x.2.2 ≤ maxLen}) (fun x => [(0, .slice A n c), (3, .slice x.1.2.1 (n + 1 + x.1.1) x.1.2.2)]) (fun x => Pm w [.row (.slice x.1.2.1 (n + 1 + x.1.1) x.1.2.2) 5 1 (n + 1 + x.1.1) (bv (padv l x.1.1))]) (fun x => padZ n - x.1.1) (⟨(0, A2, c2), Nat.zero_le _, hA21, hA22⟩) ⟨rfl, rfl, trivial⟩ (fun w hw => by have h := Pm.tail hw; rw [padv_zero] at h; exact h) ?_
  rintro ⟨⟨z, A3, c3⟩, hz, hcc⟩
  dsimp only at hz hcc ⊢
  refine TC.seq_ ?_
  refine TC.seq_ ?_
  refine TC.region ?_
  refine TL.val rfl rfl rfl (gives_move rfl rfl) ?_
  refine TL.val rfl rfl rfl (gives_len rfl Tryd.underlying22 rfl) ?_
  refine TL.val rfl rfl rfl (gives_bin rfl rfl rfl (fun w => bin_remi (by omega) (by omega) w)) ?_
  refine TL.val rfl rfl rfl (gives_bin rfl rfl rfl (fun w => bin_neq w)) ?_
  refine TL.end_ ?_
  refine TX.then_ ?_
  refine TC.split rfl (fun hc17 => ?_) (fun hc17 => ?_)
  · have hz2 : z < padZ n := by have := of_decide_eq_true hc17; unfold padZ at *; omega
    refine TC.skip_ ?_
    refine TX.then_ ?_
    refine TC.block ?_
    refine TC.region ?_
    refine TL.val rfl rfl rfl (gives_move rfl rfl) ?_
    refine TL.prow (cs := [.int .u8 0]) rfl rfl rfl rfl rfl (fun w => row1 _ w) (by decide) rfl (fun g2 => ?_)
    refine TL.append (k := 1) rfl rfl rfl rfl elU8 rfl rfl rfl (fun w hw => pm_reads hw (k := 0) rfl) (one1b _) (by rw [Nat.mul_one]; omega) (n + 1 + (z + 1)) (by omega) (fun A3 c3 hA31 hA32 => ?_)
    refine TL.val rfl rfl rfl (gives_assign rfl rfl) ?_
    refine TL.end_ ?_
    refine TX.in_normal ?_
    exact TX.round (⟨(z + 1, A3, c3), hz2, hA31, hA32⟩) (by show padZ n - (z + 1) < padZ n - z; omega) ⟨rfl, rfl, trivial⟩ (fun w hw => by have h := Pm.tail hw; rw [padv_succ] at h; exact h)
  · have hz2 : z = padZ n := by have := of_decide_eq_false hc17; unfold padZ at *; omega
    subst hz2
    refine TC.exit_ ?_
    refine TX.then_exit ?_
    refine TX.then_exit ?_
    refine TX.in_same ?_
    refine TX.then_ ?_
    refine TC.seq_ ?_
    refine TC.region ?_
    refine TL.val rfl rfl rfl (gives_move rfl rfl) ?_
    refine TL.val rfl rfl rfl (gives_len rfl Tryd.underlying22 rfl) ?_
    refine TL.val rfl rfl rfl (gives_conv rfl rfl (fun w => conv_fit Tryd.underlying38 Tryd.underlying3 (by simp only [IntKind.wrap_u64]; omega) w)) ?_
    refine TL.val rfl rfl rfl (gives_bin rfl rfl rfl (fun w => bin_mul w)) ?_
    refine TL.val rfl rfl rfl (gives_assign rfl rfl) ?_
    refine TL.end_ ?_
    refine TX.then_ ?_
    refine TC.seq_ ?_
    refine TC.seq_ ?_
    refine TC.region ?_
    refine TL.val rfl rfl rfl (gives_assign rfl rfl) ?_
    refine TL.end_ ?_
    refine TX.then_ ?_
    refine TC.block ?_
    refine TC.loop_ (α := {x : Nat × Option Addr × Nat // x.1 ≤ 8 ∧ n + 1 + padZ n + x.1 ≤ x.2.2 ∧ x.2.2 ≤ maxLen}) (fun x => [(3, .slice x.1.2.1 (n + 1 + padZ n + x.1.1) x.1.2.2), (4, .int .u64 (lenW n)), (5, .int .i64 (56 - 8 * (x.1.1 : Int)))]) (fun x => Pm w [.row (.slice x.1.2.1 (n + 1 + padZ n + x.1.1) x.1.2.2) 5 1 (n + 1 + padZ n + x.1.1) (bv (padv l (padZ n)) ++ bv (lenB n x.1.1))]) (fun x => 8 - x.1.1) (⟨(0, A3, c3), Nat.zero_le _, hcc⟩) ⟨rfl, rfl, rfl, trivial⟩ (fun w hw => by rw [← List.append_nil (bv (padv l (padZ n)))] at hw; exact hw) ?_
    rintro ⟨⟨j, A5, c5⟩, hj, hcc5⟩
    dsimp only at hj hcc5 ⊢
    refine TC.seq_ ?_
    refine TC.seq_ ?_
    refine TC.region ?_
    refine TL.val rfl rfl rfl (gives_move rfl rfl) ?_
    refine TL.val rfl rfl rfl (gives_bin rfl rfl rfl (fun w => bin_geq w)) ?_
    refine TL.end_ ?_
    refine TX.then_ ?_
    refine TC.split rfl (fun hc26 => ?_) (fun hc26 => ?_)
    · have hj2 : j ≤ 7 := by have := of_decide_eq_true hc26; omega
      refine TC.skip_ ?_
      refine TX.then_ ?_
      refine TC.seq_ ?_
      refine TC.block ?_
      refine TC.region ?_
      refine TL.val rfl rfl rfl (gives_move rfl rfl) ?_
      refine TL.val rfl rfl rfl (gives_move rfl rfl) ?_
      refine TL.val rfl rfl rfl (gives_move rfl rfl) ?_
      refine TL.val rfl rfl rfl (gives_bin rfl rfl rfl (fun w => bin_shr (2 ^ (56 - 8 * j)) (by omega) (by show (_ : Int) ≤ 64; omega) (by rw [show (56 - 8 * (j : Int)).toNat = 56 - 8 * j by omega]) w)) ?_
      refine TL.val rfl rfl rfl (gives_conv rfl rfl (fun w => conv_int Tryd.underlying5 Tryd.underlying38 w)) ?_
      refine TL.prow (cs := [.int .u8 (IntKind.u8.wrap (lenW n / 2 ^ (56 - 8 * j)))]) rfl rfl rfl rfl rfl (fun w => row1 _ w) (by decide) rfl (fun g3 => ?_)
      refine TL.append (k := 1) rfl rfl rfl rfl elU8 rfl rfl rfl (fun w hw => pm_reads hw (k := 0) rfl) (one1b _) (by rw [Nat.mul_one]; omega) (n + 1 + padZ n + (j + 1)) (by omega) (fun A4 c4 hA41 hA42 => ?_)
      refine TL.val rfl rfl rfl (gives_assign rfl rfl) ?_
      refine TL.end_ ?_
      refine TX.in_normal ?_
      refine TX.then_ ?_
      refine TC.region ?_
      refine TL.val rfl rfl rfl (gives_move rfl rfl) ?_
      refine TL.val rfl rfl rfl (gives_bin rfl rfl rfl (fun w => bin_sub_ (r := 56 - 8 * ((j + 1 : Nat) : Int)) (by simp only [IntKind.wrap_i64]; omega) w)) ?_
      refine TL.val rfl rfl rfl (gives_assign rfl rfl) ?_
      refine TL.end_ ?_
      exact TX.round (⟨(j + 1, A4, c4), by omega, hA41, hA42⟩) (by show 8 - (j + 1) < 8 - j; omega) ⟨rfl, rfl, rfl, trivial⟩ (fun w hw => by have h := Pm.tail hw; rw [List.append_assoc, ← lenB_succ] at h; exact h)
    · have hj2 : j = 8 := by have := of_decide_eq_false hc26; omega
      subst hj2
      refine TC.cut [(3, .slice A5 (n + 1 + padZ n + 8) c5), (4, .int .u64 (lenW n))] (Pm w [.row (.slice A5 (n + 1 + padZ n + 8) c5) 5 1 (n + 1 + padZ n + 8) (bv (padF l))]) ⟨rfl, rfl, trivial⟩ (fun w hw => by rw [padF_bv l hln] at hw; exact hw) ?_
      refine TC.exit_ ?_
      refine TX.then_exit ?_
      refine TX.then_exit ?_
      refine TX.in_same ?_
      refine TX.then_ ?_
      refine TC.seq_ ?_
      refine TC.region ?_
      refine TL.val rfl rfl rfl (gives_build rfl rfl (fun w => rbuild8 w)) ?_
      refine TL.pnew rfl rfl rfl (exec_alloc (cs := [.int .u32 0, .int .u32 0, .int .u32 0, .int .u32 0, .int .u32 0, .int .u32 0, .int .u32 0, .int .u32 0]) rfl rzero8 rfl) (fun g6 => ?_)
      refine TL.pstore (k := 0) (vs := start8.cells.toList) rfl rfl rfl rfl rfl rfl rfl rsz8 (one8 _ _ _ _ _ _ _ _) (Nat.le_refl 8) (L' := [.blk g6 41 start8.cells.toList, .row (.slice A5 (n + 1 + padZ n + 8) c5) 5 1 (n + 1 + padZ n + 8) (bv (padF l))]) rfl ?_
      refine TL.end_ ?_
      refine TX.then_ ?_
      refine TC.seq_ ?_
      refine TC.seq_ ?_
      refine TC.region ?_
      refine TL.val rfl rfl rfl (gives_assign rfl rfl) ?_
      refine TL.end_ ?_
      refine TX.then_ ?_
      refine TC.block ?_
      refine TC.loop_ (α := {i : Nat // i ≤ K}) (fun x => [(3, .slice A5 (n + 1 + padZ n + 8) c5), (6, .pointer (some ⟨g6, 0, none⟩)), (7, .int .i64 (64 * (x.1 : Int)))]) (fun x => Pm w [.blk g6 41 (foldB (padF l) start8 x.1).cells.toList, .row (.slice A5 (n + 1 + padZ n + 8) c5) 5 1 (n + 1 + padZ n + 8) (bv (padF l))]) (fun x => K - x.1) (⟨0, Nat.zero_le _⟩) ⟨rfl, rfl, rfl, trivial⟩ (fun w hw => hw) ?_
      rintro ⟨i, hi⟩
      dsimp only at hi ⊢
      refine TC.seq_ ?_
      refine TC.seq_ ?_
      refine TC.region ?_
      refine TL.val rfl rfl rfl (gives_move rfl rfl) ?_
      refine TL.val rfl rfl rfl (gives_move rfl rfl) ?_
      refine TL.val rfl rfl rfl (gives_len rfl Tryd.underlying22 rfl) ?_
      refine TL.val rfl rfl rfl (gives_bin rfl rfl rfl (fun w => bin_lss w)) ?_
      refine TL.end_ ?_
      refine TX.then_ ?_
      refine TC.split rfl (fun hc40 => ?_) (fun hc40 => ?_)
      · have hi2 : i < K := by have := of_decide_eq_true hc40; omega
        refine TC.skip_ ?_
        refine TX.then_ ?_
        refine TC.seq_ ?_
        refine TC.block ?_
        refine TC.tail 6 (by kernel_rfl) (by kernel_rfl) (fun w hw => hw.drawn _) ?_
        refine TS.val rfl rfl rfl (pm_loadAgg (k := 0) (n := 8) rfl rfl rag8 rsz8 rfl (Nat.le_refl 8)) ?_
        refine TS.val rfl rfl rfl (gives_move rfl rfl) ?_
        refine TS.val rfl rfl rfl (gives_move rfl rfl) ?_
        refine TS.val rfl rfl rfl (gives_move rfl rfl) ?_
        refine TS.val rfl rfl rfl (gives_bin rfl rfl rfl (fun w => bin_add_ (r := ((64 * i + 64 : Nat) : Int)) (by simp only [IntKind.wrap_i64]; omega) w)) ?_
        refine TS.val rfl rfl rfl (gives_slice rfl rfl rfl rfl (fun w => cut_lh (size := 1) (lo := 64 * i) (hi := 64 * i + 64) Tryd.underlying22 (fun w => rfl) _ _ _ (by omega) rfl (by omega) (by omega) w)) ?_
        refine TS.end_ ?_
        refine TL.pcall1 (r := .agg (foldB (padF l) start8 (i + 1)).cells) rfl rfl rfl rfl rfl Tryd.func22 rnmBlock rbdBlock (fun w hw => ?_) ?_
        · obtain ⟨B, hrd⟩ := pm_reads hw (k := 1) rfl
          have hby : Byt w w.heap.size A5 (n + 1 + padZ n + 8) (padF l) := byt_own (hw.at_ (k := 1) rfl) (padF_bs l hb.2)
          have hc := (hby.cut (k := 64 * i) (cap := c5) (by omega) (by omega)).head (k := 64) (by omega)
          have h64 : 64 * i + 64 - 64 * i = 64 := by omega
          rw [h64, Nat.mul_one]
          exact hB (foldB (padF l) start8 i) _ _ _ w (foldB_ok _ _ start8_ok i) hc (by omega) (by omega)
        refine TL.pstore (k := 0) (vs := (foldB (padF l) start8 (i + 1)).cells.toList) rfl rfl rfl rfl rfl rfl rfl rsz8 (one8 _ _ _ _ _ _ _ _) (Nat.le_refl 8) rfl ?_
        refine TL.end_ ?_
        refine TX.in_normal ?_
        refine TX.then_ ?_
        refine TC.region ?_
        refine TL.val rfl rfl rfl (gives_move rfl rfl) ?_
        refine TL.val rfl rfl rfl (gives_bin rfl rfl rfl (fun w => bin_add_ (r := 64 * ((i + 1 : Nat) : Int)) (by simp only [IntKind.wrap_i64]; omega) w)) ?_
        refine TL.val rfl rfl rfl (gives_assign rfl rfl) ?_
        refine TL.end_ ?_
        exact TX.round (⟨i + 1, hi2⟩) (by show K - (i + 1) < K - i; omega) ⟨rfl, rfl, rfl, trivial⟩ (fun w hw => hw)
      · have hi2 : K = i := by have := of_decide_eq_false hc40; omega
        subst hi2
        refine TC.exit_ ?_
        refine TX.then_exit ?_
        refine TX.then_exit ?_
        refine TX.in_same ?_
        refine TX.then_ ?_
        refine TC.seq_ ?_
        refine TC.region ?_
        refine TL.val rfl rfl rfl (gives_assign rfl rfl) ?_
        refine TL.end_ ?_
        refine TX.then_ ?_
        refine TC.seq_ ?_
        refine TC.seq_ ?_
        refine TC.region ?_
        refine TL.val rfl rfl rfl (gives_assign rfl rfl) ?_
        refine TL.end_ ?_
        refine TX.then_ ?_
        refine TC.block ?_
        refine TC.loop_ (α := {x : Nat × Option Addr × Nat // x.1 ≤ 8 ∧ 4 * x.1 ≤ x.2.2 ∧ x.2.2 ≤ maxLen}) (fun x => [(6, .pointer (some ⟨g6, 0, none⟩)), (8, .slice x.1.2.1 (4 * x.1.1) x.1.2.2), (9, .int .i64 (x.1.1 : Int))]) (fun x => Pm w [.row (.slice x.1.2.1 (4 * x.1.1) x.1.2.2) 5 1 (4 * x.1.1) (bv (outB (foldB (padF l) start8 K) x.1.1)), .blk g6 41 (foldB (padF l) start8 K).cells.toList, .row (.slice A5 (n + 1 + padZ n + 8) c5) 5 1 (n + 1 + padZ n + 8) (bv (padF l))]) (fun x => 8 - x.1.1) (⟨(0, none, 0), Nat.zero_le _, Nat.zero_le _, Nat.zero_le _⟩) ⟨rfl, rfl, rfl, trivial⟩ (fun w hw => hw.nilrow 5 1) ?_
        rintro ⟨⟨j, A6, c6⟩, hj, hcc6⟩
        dsimp only at hj hcc6 ⊢
        refine TC.seq_ ?_
        refine TC.seq_ ?_
        refine TC.region ?_
        refine TL.val rfl rfl rfl (gives_move rfl rfl) ?_
        refine TL.val rfl rfl rfl (gives_bin rfl rfl rfl (fun w => bin_lss w)) ?_
        refine TL.end_ ?_
        refine TX.then_ ?_
        refine TC.split rfl (fun hc51 => ?_) (fun hc51 => ?_)
        · have hj2 : j < 8 := by have := of_decide_eq_true hc51; omega
          have hSj := cell_get (foldB (padF l) start8 K) j hj2
          refine TC.skip_ ?_
          refine TX.then_ ?_
          refine TC.seq_ ?_
          refine TC.block ?_
          refine TC.held (ls := #[false, false, false, false, false, false, false, false, false, false, false, false, false, false, false, false, false, false, false, false, false, false, false]) (Pm w [.blk g6 41 (foldB (padF l) start8 K).cells.toList]) (by kernel_rfl) rfl rfl (fun w hw => hw.drawn _) ?_
          refine TH.take (listed' := #[true, false, false, false, false, false, false, false, false, false, false, false, false, false, false, false, false, false, false, false, false, false, false]) 0 rfl (by kernel_rfl) (by kernel_rfl) (by kernel_rfl) rfl rfl rfl rfl (gives_move rfl rfl) (fun w hw => hw.sel (.cons _ (.cons_cons _ (List.nil_sublist _)))) ?_
          refine TH.take (listed' := #[true, true, false, false, false, false, false, false, false, false, false, false, false, false, false, false, false, false, false, false, false, false, false]) 1 rfl (by kernel_rfl) (by kernel_rfl) (by kernel_rfl) rfl rfl rfl rfl (gives_move rfl rfl) (fun w hw => hw.sel (.cons _ (.cons_cons _ (List.nil_sublist _)))) ?_
          refine TH.take (listed' := #[true, true, true, false, false, false, false, false, false, false, false, false, false, false, false, false, false, false, false, false, false, false, false]) 2 rfl (by kernel_rfl) (by kernel_rfl) (by kernel_rfl) rfl rfl rfl rfl (gives_at rfl rfl rfl (fun w => at_arr Tryd.underlying41 rsz1 _ 0 _ j hj2 w)) (fun w hw => hw.sel (.cons _ (.cons_cons _ (List.nil_sublist _)))) ?_
          refine TH.take (listed' := #[true, true, true, true, false, false, false, false, false, false, false, false, false, false, false, false, false, false, false, false, false, false, false]) 3 rfl (by kernel_rfl) (by kernel_rfl) (by kernel_rfl) rfl rfl rfl rfl (pm_load (k := 0) rfl rfl rag1 rfl hSj) (fun w hw => hw.sel (.cons _ (.cons_cons _ (List.nil_sublist _)))) ?_
          refine TH.take (listed' := #[true, true, true, true, true, false, false, false, false, false, false, false, false, false, false, false, false, false, false, false, false, false, false]) 4 rfl (by kernel_rfl) (by kernel_rfl) (by kernel_rfl) rfl rfl rfl rfl (gives_bin rfl rfl rfl (fun w => bin_shr 16777216 (by decide) (by decide) rfl w)) (fun w hw => hw.sel (.cons _ (.cons_cons _ (List.nil_sublist _)))) ?_
          refine TH.take (listed' := #[true, true, true, true, true, true, false, false, false, false, false, false, false, false, false, false, false, false, false, false, false, false, false]) 5 rfl (by kernel_rfl) (by kernel_rfl) (by kernel_rfl) rfl rfl rfl rfl (gives_conv rfl rfl (fun w => conv_int Tryd.underlying5 Tryd.underlying40 w)) (fun w hw => hw.sel (.cons _ (.cons_cons _ (List.nil_sublist _)))) ?_
          refine TH.take (listed' := #[true, true, true, true, true, true, true, false, false, false, false, false, false, false, false, false, false, false, false, false, false, false, false]) 6 rfl (by kernel_rfl) (by kernel_rfl) (by kernel_rfl) rfl rfl rfl rfl (gives_move rfl rfl) (fun w hw => hw.sel (.cons _ (.cons_cons _ (List.nil_sublist _)))) ?_
          refine TH.take (listed' := #[true, true, true, true, true, true, true, true, false, false, false, false, false, false, false, false, false, false, false, false, false, false, false]) 7 rfl (by kernel_rfl) (by kernel_rfl) (by kernel_rfl) rfl rfl rfl rfl (gives_at rfl rfl rfl (fun w => at_arr Tryd.underlying41 rsz1 _ 0 _ j hj2 w)) (fun w hw => hw.sel (.cons _ (.cons_cons _ (List.nil_sublist _)))) ?_
          refine TH.take (listed' := #[true, true, true, true, true, true, true, true, true, false, false, false, false, false, false, false, false, false, false, false, false, false, false]) 8 rfl (by kernel_rfl) (by kernel_rfl) (by kernel_rfl) rfl rfl rfl rfl (pm_load (k := 0) rfl rfl rag1 rfl hSj) (fun w hw => hw.sel (.cons _ (.cons_cons _ (List.nil_sublist _)))) ?_
          refine TH.take (listed' := #[true, true, true, true, true, true, true, true, true, true, false, false, false, false, false, false, false, false, false, false, false, false, false]) 9 rfl (by kernel_rfl) (by kernel_rfl) (by kernel_rfl) rfl rfl rfl rfl (gives_bin rfl rfl rfl (fun w => bin_shr 65536 (by decide) (by decide) rfl w)) (fun w hw => hw.sel (.cons _ (.cons_cons _ (List.nil_sublist _)))) ?_
          refine TH.take (listed' := #[true, true, true, true, true, true, true, true, true, true, true, false, false, false, false, false, false, false, false, false, false, false, false]) 10 rfl (by kernel_rfl) (by kernel_rfl) (by kernel_rfl) rfl rfl rfl rfl (gives_conv rfl rfl (fun w => conv_int Tryd.underlying5 Tryd.underlying40 w)) (fun w hw => hw.sel (.cons _ (.cons_cons _ (List.nil_sublist _)))) ?_
          refine TH.take (listed' := #[true, true, true, true, true, true, true, true, true, true, true, true, false, false, false, false, false, false, false, false, false, false, false]) 11 rfl (by kernel_rfl) (by kernel_rfl) (by kernel_rfl) rfl rfl rfl rfl (gives_move rfl rfl) (fun w hw => hw.sel (.cons _ (.cons_cons _ (List.nil_sublist _)))) ?_
          refine TH.take (listed' := #[true, true, true, true, true, true, true, true, true, true, true, true, true, false, false, false, false, false, false, false, false, false, false]) 12 rfl (by kernel_rfl) (by kernel_rfl) (by kernel_rfl) rfl rfl rfl rfl (gives_at rfl rfl rfl (fun w => at_arr Tryd.underlying41 rsz1 _ 0 _ j hj2 w)) (fun w hw => hw.sel (.cons _ (.cons_cons _ (List.nil_sublist _)))) ?_
          refine TH.take (listed' := #[true, true, true, true, true, true, true, true, true, true, true, true, true, true, false, false, false, false, false, false, false, false, false]) 13 rfl (by kernel_rfl) (by kernel_rfl) (by kernel_rfl) rfl rfl rfl rfl (pm_load (k := 0) rfl rfl rag1 rfl hSj) (fun w hw => hw.sel (.cons _ (.cons_cons _ (List.nil_sublist _)))) ?_
          refine TH.take (listed' := #[true, true, true, true, true, true, true, true, true, true, true, true, true, true, true, false, false, false, false, false, false, false, false]) 14 rfl (by kernel_rfl) (by kernel_rfl) (by kernel_rfl) rfl rfl rfl rfl (gives_bin rfl rfl rfl (fun w => bin_shr 256 (by decide) (by decide) rfl w)) (fun w hw => hw.sel (.cons _ (.cons_cons _ (List.nil_sublist _)))) ?_
          refine TH.take (listed' := #[true, true, true, true, true, true, true, true, true, true, true, true, true, true, true, true, false, false, false, false, false, false, false]) 15 rfl (by kernel_rfl) (by kernel_rfl) (by kernel_rfl) rfl rfl rfl rfl (gives_conv rfl rfl (fun w => conv_int Tryd.underlying5 Tryd.underlying40 w)) (fun w hw => hw.sel (.cons _ (.cons_cons _ (List.nil_sublist _)))) ?_
          refine TH.take (listed' := #[true, true, true, true, true, true, true, true, true, true, true, true, true, true, true, true, true, false, false, false, false, false, false]) 16 rfl (by kernel_rfl) (by kernel_rfl) (by kernel_rfl) rfl rfl rfl rfl (gives_move rfl rfl) (fun w hw => hw.sel (.cons _ (.cons_cons _ (List.nil_sublist _)))) ?_
          refine TH.take (listed' := #[true, true, true, true, true, true, true, true, true, true, true, true, true, true, true, true, true, true, false, false, false, false, false]) 17 rfl (by kernel_rfl) (by kernel_rfl) (by kernel_rfl) rfl rfl rfl rfl (gives_at rfl rfl rfl (fun w => at_arr Tryd.underlying41 rsz1 _ 0 _ j hj2 w)) (fun w hw => hw.sel (.cons _ (.cons_cons _ (List.nil_sublist _)))) ?_
          refine TH.take (listed' := #[true, true, true, true, true, true, true, true, true, true, true, true, true, true, true, true, true, true, true, false, false, false, false]) 18 rfl (by kernel_rfl) (by kernel_rfl) (by kernel_rfl) rfl rfl rfl rfl (pm_load (k := 0) rfl rfl rag1 rfl hSj) (fun w hw => hw.sel (.cons _ (.cons_cons _ (List.nil_sublist _)))) ?_
          refine TH.take (listed' := #[true, true, true, true, true, true, true, true, true, true, true, true, true, true, true, true, true, true, true, true, false, false, false]) 19 rfl (by kernel_rfl) (by kernel_rfl) (by kernel_rfl) rfl rfl rfl rfl (gives_conv rfl rfl (fun w => conv_int Tryd.underlying5 Tryd.underlying40 w)) (fun w hw => hw.sel (.cons _ (.cons_cons _ (List.nil_sublist _)))) ?_
          refine TH.only (listed' := #[true, true, true, true, true, true, true, true, true, true, true, true, true, true, true, true, true, true, true, true, true, false, false]) 20 rfl (by kernel_rfl) rfl rfl ?_
          refine TL.prow (cs := bv (word4 ((foldB (padF l) start8 K).list.getD j 0))) rfl rfl rfl rfl rfl (fun w => row4 _ _ _ _ w) (by decide) rfl (fun g7 => ?_)
          refine TL.end_ ?_
          refine TX.held (fun w hw => hw.sel (.cons _ (.cons _ (.cons_cons _ (List.nil_sublist _))))) ?_
          refine TH.only (listed' := #[true, true, true, true, true, true, true, true, true, true, true, true, true, true, true, true, true, true, true, true, true, true, false]) 21 rfl (by kernel_rfl) rfl rfl ?_
          refine TL.append (k := 1) rfl rfl rfl rfl elU8 rfl rfl rfl (fun w hw => pm_reads hw (k := 0) rfl) (bv_one _) (by rw [Nat.mul_one]; omega) (4 * (j + 1)) (by omega) (fun A7 c7 hA71 hA72 => ?_)
          refine TL.end_ ?_
          refine TX.held (fun w hw => hw.sel (.cons _ (.cons _ (.cons_cons _ (List.nil_sublist _))))) ?_
          refine TH.take (listed' := #[true, true, true, true, true, true, true, true, true, true, true, true, true, true, true, true, true, true, true, true, true, true, true]) 22 rfl (by kernel_rfl) (by kernel_rfl) (by kernel_rfl) rfl rfl rfl rfl (gives_assign rfl rfl) (fun w hw => hw.sel (.cons _ (.cons _ (.cons_cons _ (List.nil_sublist _))))) ?_
          refine TH.done (by kernel_rfl) ?_
          refine TX.in_normal ?_
          refine TX.then_ ?_
          refine TC.region ?_
          refine TL.val rfl rfl rfl (gives_move rfl rfl) ?_
          refine TL.val rfl rfl rfl (gives_bin rfl rfl rfl (fun w => bin_add_ (r := ((j + 1 : Nat) : Int)) (by simp only [IntKind.wrap_i64]; omega) w)) ?_
          refine TL.val rfl rfl rfl (gives_assign rfl rfl) ?_
          refine TL.end_ ?_
          exact TX.round (⟨(j + 1, A7, c7), hj2, hA71, hA72⟩) (by show 8 - (j + 1) < 8 - j; omega) ⟨rfl, rfl, rfl, trivial⟩ (fun w hw => by have h := Pm.tail hw; rw [outB_succ] at h; exact h)
        · have hj2 : j = 8 := by have := of_decide_eq_false hc51; omega
          subst hj2
          refine TC.exit_ ?_
          refine TX.then_exit ?_
          refine TX.then_exit ?_
          refine TX.in_same ?_
          refine TX.then_ ?_
          refine TC.seq_ ?_
          refine TC.region ?_
          refine TL.val rfl rfl rfl (gives_move rfl rfl) ?_
          refine TL.val rfl rfl rfl (gives_assign rfl rfl) ?_
          refine TL.end_ ?_
          refine TX.then_ ?_
          refine TC.ret_ ?_
          exact pm_ret_row (k := 0) Tryd.results10 rfl rfl (fun w1 hown hbel => ⟨A6, c6, rfl, hcc6.1, hcc6.2, hown, hbel⟩)
end Go.Proofs.YtllaojnnackhhaaDoor
