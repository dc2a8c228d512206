/-
  The walks of slices.Grow from nil and of slices.Concat over bytes.
-/
import Derived.Test.YtllaojnnackhhaaDoorByteRow
import Derived.Test.YtllaojnnackhhaaDoorSymRow
namespace Go.Proofs.YtllaojnnackhhaaDoor
open Go.RowKit
set_option linter.unusedVariables false
set_option linter.unusedSimpArgs false
def zeroL (m : Nat) : List Int := List.replicate m 0
theorem zeroL_bs (m : Nat) : Bs (zeroL m) := by
  intro x hx
  have := (List.mem_replicate.1 hx).2
  omega
theorem zeroCells1 (v : Value) (hv : v.cells = #[v]) (m : Nat) : (Builtin.zeroCells v.cells m).toList = List.replicate m v := by
  rw [hv]
  simp only [Builtin.zeroCells, List.size_toArray, List.length_singleton, Nat.mul_one, Array.toList_map, Array.toList_range]
  refine List.ext_getElem (by simp) fun i h1 h2 => ?_
  simp [Nat.mod_one]
theorem zero_cells (m : Nat) : (Builtin.zeroCells (Value.int .u8 0).cells m).toList = bv (zeroL m) := by
  rw [zeroCells1 _ rfl]; simp [bv, zeroL]
theorem zero_one : ∀ k, ∀ u ∈ (Builtin.zeroCells (Value.int .u8 0).cells k).toList, u.oneCell' = true := by
  intro k u hu
  rw [zeroCells1 _ rfl] at hu
  rw [(List.mem_replicate.1 hu).2]; rfl
theorem bv_append (a b : List Int) : bv (a ++ b) = bv a ++ bv b := by simp [bv]
/-- a slice of bytes, and what it reads as -/
structure Sl where
  A : Option Addr
  n : Nat
  c : Nat
  l : List Int
abbrev Sl.val (s : Sl) : Value := .slice s.A s.n s.c
def sumN (ss : List Sl) (k : Nat) : Nat := ((ss.take k).map (·.n)).sum
def catL (ss : List Sl) (k : Nat) : List Int := (ss.take k).flatMap (·.l)
theorem sumN_succ {ss : List Sl} {i : Nat} {s : Sl} (h : ss[i]? = some s) : sumN ss (i + 1) = sumN ss i + s.n := by
  unfold sumN; rw [List.take_add_one, h]; simp
theorem catL_succ {ss : List Sl} {i : Nat} {s : Sl} (h : ss[i]? = some s) : catL ss (i + 1) = catL ss i ++ s.l := by
  unfold catL; rw [List.take_add_one, h]; simp
theorem sumN_le (ss : List Sl) (i : Nat) : sumN ss i ≤ sumN ss ss.length := by
  have h : ss.map (·.n) = (ss.take i).map (·.n) ++ (ss.drop i).map (·.n) := by rw [← List.map_append, List.take_append_drop]
  unfold sumN
  rw [List.take_length, h, List.sum_append]
  omega
theorem concat_at {w : World} {B g K : Nat} {ss : List Sl} (hs : Reads w B 1 (some ⟨g, 0, none⟩) K (ss.map Sl.val)) (hb : ∀ s ∈ ss, Byt w B s.A s.n s.l) {i : Nat} (hi : i < K) :
    ∃ s, ss[i]? = some s ∧ w.cell? ⟨g, 0 + i, none⟩ = some s.val ∧ g < B ∧ Byt w B s.A s.n s.l := by
  have hlen : ss.length = K := by have := hs.1; simpa using this
  obtain ⟨ad, hA, hg, hc⟩ := hs.2 (by omega)
  cases hA
  refine ⟨ss[i], List.getElem?_eq_getElem (by omega), ?_, hg, hb _ (List.getElem_mem _)⟩
  have := hc i (ss[i]).val (by rw [List.getElem?_map, List.getElem?_eq_getElem (by omega)]; rfl)
  rw [← this]
  congr 1
  unfold Addr.add; split <;> simp_all
theorem at_s60 (g off n c j : Nat) (hj : j < n) (w : World) : (Instr.indexAt 60 (.slice (some ⟨g, off, none⟩) n c) (.int .i64 (j : Int))).run Tryd.prog w = .ok (.pointer (some ⟨g, off + j, none⟩)) w := by
  have hs : ∀ w : World, (sizeOf 22).run Tryd.prog w = .ok 1 w := fun w => rfl
  have h1 : (0 : Int) ≤ (j : Int) ∧ (j : Int) < n := by omega
  have hadd : (⟨g, off, none⟩ : Addr).add j = ⟨g, off + j, none⟩ := by unfold Addr.add; split <;> simp_all
  simp [Instr.indexAt, run_underlying Tryd.underlying60, asIntOf, hs, h1, hadd, go_sem]
  try (intro hh; exact absurd hh (by omega))
theorem nmGrow : (Tryd.f33.name == "runtime.NumGoroutine") = false := by decide
theorem bdGrow : Tryd.f33.body.isNone = false := rfl
theorem grow_nil (n : Nat) (w : World) (hlim : n ≤ 140737488355328) :
    Calls Tryd.prog 33 #[.slice none 0 0, .int .i64 (n : Int)] w fun e w' => ∃ A c, e = .returned (.slice A 0 c) ∧ n ≤ c ∧ c ≤ maxLen ∧ w'.ownsRow w.heap.size 5 1 (.slice A 0 c) 0 [] ∧ Below w.heap.size w w' := by
  refine begin_ (vs := [.slice none 0 0, .int .i64 (n : Int)]) Tryd.func33 rfl rfl rfl ?_ (Pm.start w)
  refine TC.seq_ ?_
  refine TC.region ?_
  refine TL.val rfl rfl rfl (gives_assign rfl rfl) ?_
  refine TL.end_ ?_
  refine TX.then_ ?_
  refine TC.seq_ ?_
  refine TC.seq_ ?_
  refine TC.region ?_
  refine TL.val rfl rfl rfl (gives_move rfl rfl) ?_
  refine TL.val rfl rfl rfl (gives_bin rfl rfl rfl (fun w => bin_lss w)) ?_
  refine TL.end_ ?_
  refine TX.then_ ?_
  refine TC.split rfl (fun hc6 => ?_) (fun hc6 => ?_)
  · exact absurd (of_decide_eq_true hc6) (by omega)
  · refine TC.skip_ ?_
    refine TX.then_ ?_
    refine TC.seq_ ?_
    refine TC.seq_ ?_
    refine TC.region ?_
    refine TL.val rfl rfl rfl (gives_move rfl rfl) ?_
    refine TL.val rfl rfl rfl (gives_move rfl rfl) ?_
    refine TL.val rfl rfl rfl (gives_cap rfl Tryd.underlying22 rfl) ?_
    refine TL.val rfl rfl rfl (gives_move rfl rfl) ?_
    refine TL.val rfl rfl rfl (gives_len rfl Tryd.underlying22 rfl) ?_
    refine TL.val rfl rfl rfl (gives_bin rfl rfl rfl (fun w => bin_sub_ (r := 0) rfl w)) ?_
    refine TL.val rfl rfl rfl (gives_bin rfl rfl rfl (fun w => bin_sub_ (r := (n : Int)) (by simp only [IntKind.wrap_i64]; omega) w)) ?_
    refine TL.val rfl rfl rfl (gives_assign rfl rfl) ?_
    refine TL.end_ ?_
    refine TX.then_ ?_
    refine TC.seq_ ?_
    refine TC.region ?_
    refine TL.val rfl rfl rfl (gives_move rfl rfl) ?_
    refine TL.val rfl rfl rfl (gives_bin rfl rfl rfl (fun w => bin_gtr w)) ?_
    refine TL.end_ ?_
    refine TX.then_ ?_
    refine TC.split rfl (fun hc16 => ?_) (fun hc16 => ?_)
    · refine TC.region ?_
      refine TL.val rfl rfl rfl (gives_move rfl rfl) ?_
      refine TL.val rfl rfl rfl (gives_move rfl rfl) ?_
      refine TL.val rfl rfl rfl (gives_cap rfl Tryd.underlying22 rfl) ?_
      refine TL.nilrow 5 1 ?_
      refine TL.rowhead (k := 0) (hi := 0) (xs' := []) rfl rfl rfl rfl rfl rfl Tryd.underlying22 (fun w => rfl) rfl (Nat.le_refl _) (Nat.le_refl _) rfl ?_
      refine TL.val rfl rfl rfl (gives_move rfl rfl) ?_
      refine TL.zeros (k := 0) (m := n) rfl rfl rfl rfl elU8 Tryd.underlying3 rfl rfl rfl (z := .int .u8 0) (by kernel_rfl) (zs := bv (zeroL n)) (zero_cells n) zero_one (by rw [Nat.mul_one]; omega) n (by omega) (fun A2 c2 hA21 hA22 => ?_)
      refine TL.val rfl rfl rfl (gives_move rfl rfl) ?_
      refine TL.val rfl rfl rfl (gives_len rfl Tryd.underlying22 rfl) ?_
      refine TL.rowhead (k := 0) (hi := 0) (xs' := []) rfl rfl rfl rfl rfl rfl Tryd.underlying22 (fun w => rfl) rfl (Nat.zero_le _) hA21 rfl ?_
      refine TL.val rfl rfl rfl (gives_assign rfl rfl) ?_
      refine TL.end_ ?_
      refine TX.then_ ?_
      refine TC.seq_ ?_
      refine TC.region ?_
      refine TL.val rfl rfl rfl (gives_move rfl rfl) ?_
      refine TL.val rfl rfl rfl (gives_assign rfl rfl) ?_
      refine TL.end_ ?_
      refine TX.then_ ?_
      refine TC.ret_ ?_
      exact pm_ret_row (k := 0) Tryd.results33 rfl rfl (fun w1 hown hbel => ⟨A2, c2, rfl, hA21, hA22, hown, hbel⟩)
    · have hn0 : n = 0 := by have := of_decide_eq_false hc16; omega
      subst hn0
      refine TC.skip_ ?_
      refine TX.then_ ?_
      refine TC.seq_ ?_
      refine TC.region ?_
      refine TL.val rfl rfl rfl (gives_move rfl rfl) ?_
      refine TL.val rfl rfl rfl (gives_assign rfl rfl) ?_
      refine TL.end_ ?_
      refine TX.then_ ?_
      refine TC.ret_ ?_
      refine TX.nilrow 5 1 ?_
      exact pm_ret_row (k := 0) Tryd.results33 rfl rfl (fun w1 hown hbel => ⟨none, 0, rfl, Nat.le_refl _, Nat.zero_le _, hown, hbel⟩)
theorem concat_any (ss : List Sl) (g K c : Nat) (w : World) (hs : Reads w w.heap.size 1 (some ⟨g, 0, none⟩) K (ss.map Sl.val)) (hb : ∀ s ∈ ss, Byt w w.heap.size s.A s.n s.l) (hlim : sumN ss K ≤ 140737488355328) (hK : K ≤ 1000000) :
    Calls Tryd.prog 26 #[.slice (some ⟨g, 0, none⟩) K c] w fun e w' => ∃ A' c', e = .returned (.slice A' (sumN ss K) c') ∧ sumN ss K ≤ c' ∧ c' ≤ maxLen ∧ w'.ownsRow w.heap.size 5 1 (.slice A' (sumN ss K) c') (sumN ss K) (bv (catL ss K)) ∧ Below w.heap.size w w' := by
  have hlen : ss.length = K := by have := hs.1; simpa using this
  have hle0 := sumN_le ss K
  have hall : ∀ i, sumN ss i ≤ sumN ss K := fun i => hlen ▸ sumN_le ss i
  refine begin_ (vs := [.slice (some ⟨g, 0, none⟩) K c]) Tryd.func26 rfl rfl rfl ?_ (Pm.start w)
  refine TC.seq_ ?_
  refine TC.region ?_
  refine TL.val rfl rfl rfl (gives_assign rfl rfl) ?_
  refine TL.end_ ?_
  refine TX.then_ ?_
  refine TC.seq_ ?_
  refine TC.region ?_
  refine TL.val rfl rfl rfl (gives_assign rfl rfl) ?_
  refine TL.end_ ?_
  refine TX.then_ ?_
  refine TC.seq_ ?_
  refine TC.seq_ ?_
  refine TC.region ?_
  refine TL.val rfl rfl rfl (gives_move rfl rfl) ?_
  refine TL.val rfl rfl rfl (gives_len rfl Tryd.underlying60 rfl) ?_
  refine TL.val rfl rfl rfl (gives_move rfl rfl) ?_
  refine TL.end_ ?_
  refine TX.then_ ?_
  refine TC.block ?_
  refine TC.loop_ (α := {i : Nat // i ≤ K}) (fun x => [(0, .slice (some ⟨g, 0, none⟩) K c), (9, .slice (some ⟨g, 0, none⟩) K c), (10, .int .i64 (K : Int)), (11, .int .i64 (x.1 : Int)), (3, .int .i64 ((sumN ss x.1 : Nat) : Int))]) (fun x => Pm w []) (fun x => K - x.1) (⟨0, Nat.zero_le _⟩) ⟨rfl, rfl, rfl, rfl, rfl, trivial⟩ (fun w hw => hw) ?_
  rintro ⟨i, hi⟩
  dsimp only at hi ⊢
  refine TC.seq_ ?_
  refine TC.region ?_
  refine TL.val rfl rfl rfl (gives_bin rfl rfl rfl (fun w => bin_lss w)) ?_
  refine TL.end_ ?_
  refine TX.then_ ?_
  refine TC.seq_ ?_
  refine TC.split rfl (fun hc12 => ?_) (fun hc12 => ?_)
  · have hi2 : i < K := by have := of_decide_eq_true hc12; omega
    obtain ⟨⟨sA, sn, sc, sl⟩, hsi, hcell, hg, hbs⟩ := concat_at hs hb hi2
    have hsum := sumN_succ hsi
    dsimp only [Sl.val] at hcell hbs hsum
    have hle := hall (i + 1)
    refine TC.skip_ ?_
    refine TX.then_ ?_
    refine TC.seq_ ?_
    refine TC.block ?_
    refine TC.seq_ ?_
    refine TC.region ?_
    refine TL.val rfl rfl rfl (gives_at rfl rfl rfl (fun w => at_s60 g 0 K c i hi2 w)) ?_
    refine TL.val rfl rfl rfl (gives_load rfl rfl (fun w => rfl) (fun w1 hw => (hw.bel.cell (p := ⟨g, 0 + i, none⟩) hg).trans hcell)) ?_
    refine TL.val rfl rfl rfl (gives_assign rfl rfl) ?_
    refine TL.end_ ?_
    refine TX.then_ ?_
    refine TC.seq_ ?_
    refine TC.region ?_
    refine TL.val rfl rfl rfl (gives_move rfl rfl) ?_
    refine TL.val rfl rfl rfl (gives_move rfl rfl) ?_
    refine TL.val rfl rfl rfl (gives_len rfl Tryd.underlying22 rfl) ?_
    refine TL.val rfl rfl rfl (gives_bin rfl rfl rfl (fun w => bin_add_ (r := ((sumN ss (i + 1) : Nat) : Int)) (by rw [hsum]; simp only [IntKind.wrap_i64]; omega) w)) ?_
    refine TL.val rfl rfl rfl (gives_assign rfl rfl) ?_
    refine TL.end_ ?_
    refine TX.then_ ?_
    refine TC.seq_ ?_
    refine TC.region ?_
    refine TL.val rfl rfl rfl (gives_move rfl rfl) ?_
    refine TL.val rfl rfl rfl (gives_bin rfl rfl rfl (fun w => bin_lss w)) ?_
    refine TL.end_ ?_
    refine TX.then_ ?_
    refine TC.split rfl (fun hc20 => ?_) (fun hc20 => ?_)
    · exact absurd (of_decide_eq_true hc20) (by omega)
    · refine TC.skip_ ?_
      refine TX.in_normal ?_
      refine TX.then_ ?_
      refine TC.region ?_
      refine TL.val rfl rfl rfl (gives_bin rfl rfl rfl (fun w => bin_add_ (r := ((i + 1 : Nat) : Int)) (by simp only [IntKind.wrap_i64]; omega) w)) ?_
      refine TL.val rfl rfl rfl (gives_move rfl rfl) ?_
      refine TL.end_ ?_
      exact TX.round (⟨i + 1, hi2⟩) (by show K - (i + 1) < K - i; omega) ⟨rfl, rfl, rfl, rfl, rfl, trivial⟩ (fun w hw => hw)
  · have hi2 : K = i := by have := of_decide_eq_false hc12; omega
    subst hi2
    refine TC.exit_ ?_
    refine TX.then_exit ?_
    refine TX.then_exit ?_
    refine TX.in_same ?_
    refine TX.then_ ?_
    refine TC.seq_ ?_
    refine TC.region ?_
    refine TL.val rfl rfl rfl (gives_move rfl rfl) ?_
    refine TL.pcallRow (n := 0) (ys := []) rfl rfl rfl rfl rfl Tryd.func33 nmGrow bdGrow (fun w1 hw => (grow_nil (sumN ss K) w1 (by omega)).mono fun e w2 ⟨A1, c1, h1, h2, h3, h4, h5⟩ => ⟨A1, c1, h1, Nat.zero_le _, h3, h4, h5⟩) (fun A1 c1 hA11 hA12 => ?_)
    refine TL.val rfl rfl rfl (gives_assign rfl rfl) ?_
    refine TL.end_ ?_
    refine TX.then_ ?_
    refine TC.seq_ ?_
    refine TC.seq_ ?_
    refine TC.region ?_
    refine TL.val rfl rfl rfl (gives_move rfl rfl) ?_
    refine TL.val rfl rfl rfl (gives_len rfl Tryd.underlying60 rfl) ?_
    refine TL.val rfl rfl rfl (gives_move rfl rfl) ?_
    refine TL.end_ ?_
    refine TX.then_ ?_
    refine TC.block ?_
    refine TC.loop_ (α := {x : Nat × Option Addr × Nat // x.1 ≤ K ∧ sumN ss x.1 ≤ x.2.2 ∧ x.2.2 ≤ maxLen}) (fun x => [(25, .slice (some ⟨g, 0, none⟩) K c), (26, .int .i64 (K : Int)), (27, .int .i64 (x.1.1 : Int)), (6, .slice x.1.2.1 (sumN ss x.1.1) x.1.2.2)]) (fun x => Pm w [.row (.slice x.1.2.1 (sumN ss x.1.1) x.1.2.2) 5 1 (sumN ss x.1.1) (bv (catL ss x.1.1))]) (fun x => K - x.1.1) (⟨(0, A1, c1), Nat.zero_le _, Nat.zero_le _, hA12⟩) ⟨rfl, rfl, rfl, rfl, trivial⟩ (fun w hw => hw) ?_
    rintro ⟨⟨i, A2, c2⟩, hi, hcc⟩
    dsimp only at hi hcc ⊢
    refine TC.seq_ ?_
    refine TC.region ?_
    refine TL.val rfl rfl rfl (gives_bin rfl rfl rfl (fun w => bin_lss w)) ?_
    refine TL.end_ ?_
    refine TX.then_ ?_
    refine TC.seq_ ?_
    refine TC.split rfl (fun hc28 => ?_) (fun hc28 => ?_)
    · have hi2 : i < K := by have := of_decide_eq_true hc28; omega
      obtain ⟨⟨sA, sn, sc, sl⟩, hsi, hcell, hg, hbs⟩ := concat_at hs hb hi2
      have hsum := sumN_succ hsi
      dsimp only [Sl.val] at hcell hbs hsum
      have hle := hall (i + 1)
      refine TC.skip_ ?_
      refine TX.then_ ?_
      refine TC.seq_ ?_
      refine TC.block ?_
      refine TC.seq_ ?_
      refine TC.region ?_
      refine TL.val rfl rfl rfl (gives_at rfl rfl rfl (fun w => at_s60 g 0 K c i hi2 w)) ?_
      refine TL.val rfl rfl rfl (gives_load rfl rfl (fun w => rfl) (fun w1 hw => (hw.bel.cell (p := ⟨g, 0 + i, none⟩) hg).trans hcell)) ?_
      refine TL.val rfl rfl rfl (gives_assign rfl rfl) ?_
      refine TL.end_ ?_
      refine TX.then_ ?_
      refine TC.region ?_
      refine TL.val rfl rfl rfl (gives_move rfl rfl) ?_
      refine TL.val rfl rfl rfl (gives_move rfl rfl) ?_
      refine TL.append (k := 0) rfl rfl rfl rfl elU8 rfl rfl rfl (fun w hw => pm_byt hw hbs) (bv_one _) (by rw [Nat.mul_one]; omega) (sumN ss (i + 1)) hsum (fun A3 c3 hA31 hA32 => ?_)
      refine TL.val rfl rfl rfl (gives_assign rfl rfl) ?_
      refine TL.end_ ?_
      refine TX.in_normal ?_
      refine TX.then_ ?_
      refine TC.region ?_
      refine TL.val rfl rfl rfl (gives_bin rfl rfl rfl (fun w => bin_add_ (r := ((i + 1 : Nat) : Int)) (by simp only [IntKind.wrap_i64]; omega) w)) ?_
      refine TL.val rfl rfl rfl (gives_move rfl rfl) ?_
      refine TL.end_ ?_
      exact TX.round (⟨(i + 1, A3, c3), hi2, hA31, hA32⟩) (by show K - (i + 1) < K - i; omega) ⟨rfl, rfl, rfl, rfl, trivial⟩ (fun w hw => by rw [catL_succ hsi, bv_append]; exact hw)
    · have hi2 : K = i := by have := of_decide_eq_false hc28; omega
      subst hi2
      refine TC.exit_ ?_
      refine TX.then_exit ?_
      refine TX.then_exit ?_
      refine TX.in_same ?_
      refine TX.then_ ?_
      refine TC.seq_ ?_
      refine TC.region ?_
      refine TL.val rfl rfl rfl (gives_move rfl rfl) ?_
      refine TL.val rfl rfl rfl (gives_assign rfl rfl) ?_
      refine TL.end_ ?_
      refine TX.then_ ?_
      refine TC.ret_ ?_
      exact pm_ret_row (k := 0) Tryd.results26 rfl rfl (fun w1 hown hbel => ⟨A2, c2, rfl, hcc.1, hcc.2, hown, hbel⟩)
end Go.Proofs.YtllaojnnackhhaaDoor
