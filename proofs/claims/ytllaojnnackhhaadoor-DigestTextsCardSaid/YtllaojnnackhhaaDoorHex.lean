/-
  The walk of digest.Hex, by rules.
-/
import Derived.Test.YtllaojnnackhhaaDoorHexLaw
import Derived.Test.YtllaojnnackhhaaDoorByteStr
namespace Go.Proofs.YtllaojnnackhhaaDoor
open Go.RowKit
set_option linter.unusedVariables false
set_option linter.unusedSimpArgs false
theorem hex_any (A : Option Addr) (n c : Nat) (l : List Int) (w : World) (hb : Byt w w.heap.size A n l) (hlim : n ≤ 10000000000) :
    Calls Tryd.prog 13 #[.slice A n c] w fun e w' => e = .returned (sv (hexL l)) ∧ Below w.heap.size w w' := by
  have hln : l.length = n := hb.len
  refine begin_ (vs := [.slice A n c]) Tryd.func13 rfl rfl rfl ?_ (Pm.start w)
  refine TC.seq_ ?_
  refine TC.region ?_
  refine TL.val rfl rfl rfl (gives_assign rfl rfl) ?_
  refine TL.end_ ?_
  refine TX.then_ ?_
  refine TC.seq_ ?_
  refine TC.region ?_
  refine TL.val rfl rfl rfl (gives_assign rfl rfl) ?_
  refine TL.end_ ?_
  refine TX.then_ ?_
  refine TC.seq_ ?_
  refine TC.seq_ ?_
  refine TC.region ?_
  refine TL.val rfl rfl rfl (gives_move rfl rfl) ?_
  refine TL.val rfl rfl rfl (gives_len rfl Tryd.underlying22 rfl) ?_
  refine TL.val rfl rfl rfl (gives_move rfl rfl) ?_
  refine TL.end_ ?_
  refine TX.then_ ?_
  refine TC.block ?_
  refine TC.loop_ (α := {x : Nat × Option Addr × Nat // x.1 ≤ n ∧ 2 * x.1 ≤ x.2.2 ∧ x.2.2 ≤ maxLen}) (fun x => [(6, .slice A n c), (7, .int .i64 (n : Int)), (8, .int .i64 (x.1.1 : Int)), (3, .slice x.1.2.1 (2 * x.1.1) x.1.2.2)]) (fun x => Pm w [.row (.slice x.1.2.1 (2 * x.1.1) x.1.2.2) 5 1 (2 * x.1.1) (bv (hexL (l.take x.1.1)))]) (fun x => n - x.1.1) (⟨(0, none, 0), Nat.zero_le _, Nat.zero_le _, Nat.zero_le _⟩) ⟨rfl, rfl, rfl, rfl, trivial⟩ (fun w hw => hw.nilrow 5 1) ?_
  rintro ⟨⟨i, A2, c2⟩, hi, hcc⟩
  dsimp only at hi hcc ⊢
  refine TC.seq_ ?_
  refine TC.region ?_
  refine TL.val rfl rfl rfl (gives_bin rfl rfl rfl (fun w => bin_lss w)) ?_
  refine TL.end_ ?_
  refine TX.then_ ?_
  refine TC.seq_ ?_
  refine TC.split rfl (fun hc9 => ?_) (fun hc9 => ?_)
  · have hi2 : i < n := by have := of_decide_eq_true hc9; omega
    obtain ⟨b0, o, x0, rfl, _⟩ := hb.at' (k := i) hi2
    obtain ⟨y, hl, hz, hm, hy⟩ := byt_cellU hb (k := i) hi2
    have hb0 := byt_block hb hi2
    have hr : 0 ≤ y ∧ y ≤ 255 := ⟨hz, hm⟩
    have h1 : 0 ≤ y / 16 ∧ y / 16 < 16 := by omega
    have h2 : 0 ≤ y % 16 ∧ y % 16 < 16 := by omega
    refine TC.skip_ ?_
    refine TX.then_ ?_
    refine TC.seq_ ?_
    refine TC.block ?_
    refine TC.seq_ ?_
    refine TC.region ?_
    refine TL.val rfl rfl rfl (gives_at rfl rfl rfl (fun w => at_u8 b0 o n c i hi2 w)) ?_
    refine TL.val rfl rfl rfl (gives_load rfl rfl (fun w => rfl) (fun w1 hw => (hw.bel.cell (p := ⟨b0, o + i, none⟩) hb0).trans hy)) ?_
    refine TL.val rfl rfl rfl (gives_assign rfl rfl) ?_
    refine TL.end_ ?_
    refine TX.then_ ?_
    refine TC.held (ls := #[false, false, false, false, false, false, false, false, false, false]) (fun _ => True) (by kernel_rfl) rfl rfl (fun w hw => hw.drawn _) ?_
    refine TH.take (listed' := #[true, false, false, false, false, false, false, false, false, false]) 0 rfl (by kernel_rfl) (by kernel_rfl) (by kernel_rfl) rfl rfl rfl rfl (gives_move rfl rfl) (fun w hw => trivial) ?_
    refine TH.take (listed' := #[true, true, false, false, false, false, false, false, false, false]) 1 rfl (by kernel_rfl) (by kernel_rfl) (by kernel_rfl) rfl rfl rfl rfl (gives_move rfl rfl) (fun w hw => trivial) ?_
    refine TH.take (listed' := #[true, true, true, false, false, false, false, false, false, false]) 2 rfl (by kernel_rfl) (by kernel_rfl) (by kernel_rfl) rfl rfl rfl rfl (gives_bin rfl rfl rfl (fun w => bin_shr 16 (by decide) (by decide) rfl w)) (fun w hw => trivial) ?_
    refine TH.take (listed' := #[true, true, true, true, false, false, false, false, false, false]) 3 rfl (by kernel_rfl) (by kernel_rfl) (by kernel_rfl) rfl rfl rfl rfl (gives_index (vx := sv digitsL) rfl rfl rfl (fun w => hexAt h1 w)) (fun w hw => trivial) ?_
    refine TH.take (listed' := #[true, true, true, true, true, false, false, false, false, false]) 4 rfl (by kernel_rfl) (by kernel_rfl) (by kernel_rfl) rfl rfl rfl rfl (gives_move rfl rfl) (fun w hw => trivial) ?_
    refine TH.take (listed' := #[true, true, true, true, true, true, false, false, false, false]) 5 rfl (by kernel_rfl) (by kernel_rfl) (by kernel_rfl) rfl rfl rfl rfl (gives_bin rfl rfl rfl (fun w => (and15 hr ▸ bin_bits (.inl rfl) w))) (fun w hw => trivial) ?_
    refine TH.take (listed' := #[true, true, true, true, true, true, true, false, false, false]) 6 rfl (by kernel_rfl) (by kernel_rfl) (by kernel_rfl) rfl rfl rfl rfl (gives_index (vx := sv digitsL) rfl rfl rfl (fun w => hexAt h2 w)) (fun w hw => trivial) ?_
    refine TH.only (listed' := #[true, true, true, true, true, true, true, true, false, false]) 7 rfl (by kernel_rfl) rfl rfl ?_
    refine TL.prow (cs := bv [hexD (y / 16), hexD (y % 16)]) rfl rfl rfl rfl rfl (fun w => row2 _ _ w) (by decide) rfl (fun g1 => ?_)
    refine TL.end_ ?_
    refine TX.held (fun w hw => trivial) ?_
    refine TH.only (listed' := #[true, true, true, true, true, true, true, true, true, false]) 8 rfl (by kernel_rfl) rfl rfl ?_
    refine TL.append (k := 1) rfl rfl rfl rfl elU8 rfl rfl rfl (fun w hw => pm_reads hw (k := 0) rfl) (bv_one _) (by rw [Nat.mul_one]; omega) (2 * (i + 1)) (by omega) (fun A1 c1 hA11 hA12 => ?_)
    refine TL.end_ ?_
    refine TX.held (fun w hw => trivial) ?_
    refine TH.take (listed' := #[true, true, true, true, true, true, true, true, true, true]) 9 rfl (by kernel_rfl) (by kernel_rfl) (by kernel_rfl) rfl rfl rfl rfl (gives_assign rfl rfl) (fun w hw => trivial) ?_
    refine TH.done (by kernel_rfl) ?_
    refine TX.in_normal ?_
    refine TX.then_ ?_
    refine TC.region ?_
    refine TL.val rfl rfl rfl (gives_bin rfl rfl rfl (fun w => bin_add_ (r := ((i + 1 : Nat) : Int)) (by simp only [IntKind.wrap_i64]; omega) w)) ?_
    refine TL.val rfl rfl rfl (gives_move rfl rfl) ?_
    refine TL.end_ ?_
    exact TX.round (⟨(i + 1, A1, c1), hi2, hA11, hA12⟩) (by show n - (i + 1) < n - i; omega) ⟨rfl, rfl, rfl, rfl, trivial⟩ (fun w hw => by have h := Pm.tail hw; rw [hexL_succ hl]; simpa [bv] using h)
  · have hi2 : i = n := by have := of_decide_eq_false hc9; omega
    subst hi2
    refine TC.exit_ ?_
    refine TX.then_exit ?_
    refine TX.then_exit ?_
    refine TX.in_same ?_
    refine TX.then_ ?_
    refine TC.seq_ ?_
    refine TC.region ?_
    refine TL.val rfl rfl rfl (gives_move rfl rfl) ?_
    refine TL.val rfl rfl rfl (gives_str (k := 0) rfl rfl Tryd.underlying22 Tryd.underlying5 Tryd.underlying9 rfl) ?_
    refine TL.val rfl rfl rfl (gives_assign rfl rfl) ?_
    refine TL.end_ ?_
    refine TX.then_ ?_
    refine TC.ret_ ?_
    exact ret_tmp Tryd.results13 (v := sv (hexL l)) (by rw [List.take_of_length_le (by omega)]; rfl) (fun w1 hw => ⟨rfl, hw.bel⟩)
end Go.Proofs.YtllaojnnackhhaaDoor
