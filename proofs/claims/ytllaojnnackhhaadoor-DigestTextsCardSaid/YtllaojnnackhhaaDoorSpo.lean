/-
  The walk of the spoiling of bytes, by rules: whatever bytes, the choices changed alone.
-/
import Derived.Test.YtllaojnnackhhaaDoorDraw
import Derived.Test.YtllaojnnackhhaaDoorByteStr
import Derived.Test.YtllaojnnackhhaaDoorDgSum
import Derived.Test.YtllaojnnackhhaaDoorSymCod
namespace Go.Proofs.YtllaojnnackhhaaDoor
open Go.RowKit
set_option linter.unusedVariables false
set_option linter.unusedSimpArgs false
theorem cod_stab (cb : Nat) : Stab cb (fun w => Cod w cb) := fun w1 w2 h hs => h.keep fun b hb => hs b (by omega)
theorem cod_cells {w : World} {cb : Nat} (h : Cod w cb) : CellsAt w cb := by
  obtain ⟨A, m, c, l, k, hb, _⟩ := h
  exact ⟨_, hb, rfl⟩
theorem nmNext : (Tryd.f24.name == "runtime.NumGoroutine") = false := by decide
theorem bdNext : Tryd.f24.body.isNone = false := rfl
theorem next_cod (cb : Nat) (w : World) (n : Int) (h : Cod w cb) :
    Calls Tryd.prog 24 #[.pointer (some ⟨cb, 0, none⟩), .int .i64 n] w fun e w' => ∃ x : {x : Nat // x ≤ 65535 ∧ (1 ≤ n → (x : Int) < n)}, e = .returned (.int .i64 (x.1 : Int)) ∧ Codr (fun w => Cod w cb) cb w [] w' :=
  (next_any cb w n h).mono fun e w' ⟨x, he, h0, h1, h2, hc, hg, _⟩ => by
    obtain ⟨k, rfl⟩ := Int.eq_ofNat_of_zero_le h0
    exact ⟨⟨k, by omega, h2⟩, he, hc, hg, cod_cells hc, (fun q hq => absurd hq List.not_mem_nil), List.Pairwise.nil⟩
theorem bs_one {x : Int} (h : 0 ≤ x ∧ x ≤ 255) : Bs [x] := by
  intro y hy
  rw [List.mem_singleton] at hy
  subst hy
  exact h
theorem u8_bits (op : BinOp) (a b : Int) : 0 ≤ bits op .u8 a b ∧ bits op .u8 a b ≤ 255 := by
  unfold bits
  simp only [IntKind.wrap_u8]
  omega
theorem spoilt_cod (cb : Nat) (w : World) (A : Option Addr) (n c : Nat) (l : List Int) (hC : Cod w cb) (hl : Byt w w.heap.size A n l) (hne : ∀ ad, A = some ad → ad.block ≠ cb) (hnc : n ≤ c) (h5 : n ≤ 1000000) :
    Calls Tryd.prog 15 #[.pointer (some ⟨cb, 0, none⟩), .slice A n c] w fun e w' => ∃ A' m c' l', e = .returned (.slice A' m c') ∧ m ≤ c' ∧ c' ≤ maxLen ∧ m ≤ n + 1 ∧ Bs l' ∧ Codr (fun w => Cod w cb) cb w [.row (.slice A' m c') 5 1 m (bv l')] w' := by
  have hln : l.length = n := hl.len
  have hsrc : ∀ (w1 : World) (L : List Pc), Pm ⟨w, cb⟩ L w1 → (∀ q ∈ oths cb w, q ∈ L) → Byt w1 w1.heap.size A n l := fun w1 L h hs => byt_grown hl hne (h.kept hs)
  refine begin_ (vs := [.pointer (some ⟨cb, 0, none⟩), .slice A n c]) (I := Pm ⟨w, cb⟩ (.abs cb (fun w => Cod w cb) :: oths cb w)) Tryd.func15 rfl rfl rfl ?_ (Pm.codes hC (cod_cells hC) (cod_stab cb))
  refine TC.seq_ ?_
  refine TC.region ?_
  refine TL.val rfl rfl rfl (gives_assign rfl rfl) ?_
  refine TL.end_ ?_
  refine TX.then_ ?_
  refine TC.seq_ ?_
  refine TC.region ?_
  refine TL.val rfl rfl rfl (gives_move rfl rfl) ?_
  refine TL.nilrow 5 1 ?_
  refine TL.append (k := 0) rfl rfl rfl rfl elU8 rfl rfl rfl (fun w1 hw => ⟨_, (hsrc w1 _ hw (fun q hq => by simp [hq])).1⟩) (bv_one l) (by rw [Nat.mul_one]; omega) n (by omega) (fun A2 c2 hA21 hA22 => ?_)
  refine TL.val rfl rfl rfl (gives_assign rfl rfl) ?_
  refine TL.end_ ?_
  refine TX.then_ ?_
  refine TC.seq_ ?_
  refine TC.seq_ ?_
  refine TC.region ?_
  refine TL.val rfl rfl rfl (gives_move rfl rfl) ?_
  refine TL.val rfl rfl rfl (gives_len rfl Tryd.underlying22 rfl) ?_
  refine TL.val rfl rfl rfl (gives_bin rfl rfl rfl (fun w => bin_eql w)) ?_
  refine TL.end_ ?_
  refine TX.then_ ?_
  refine TC.split rfl (fun hc11 => ?_) (fun hc11 => ?_)
  · have hn0 : n = 0 := by have := of_decide_eq_true hc11; omega
    refine TC.seq_ ?_
    refine TC.region ?_
    refine TL.val rfl rfl rfl (gives_move rfl rfl) ?_
    refine TL.pcallCod (k := 1) (α := {x : Nat // x ≤ 65535 ∧ (1 ≤ (256 : Int) → (x : Int) < 256)}) (fun x => .int .i64 (x.1 : Int)) (fun _ => []) rfl rfl rfl rfl rfl Tryd.func24 nmNext bdNext rfl (fun w1 hw hC1 => next_cod cb w1 256 hC1) ?_
    rintro ⟨x, hx1, hx2⟩
    dsimp only [List.nil_append] at hx1 hx2 ⊢
    refine TL.val rfl rfl rfl (gives_conv rfl rfl (fun w => conv_fit Tryd.underlying5 Tryd.underlying3 (by simp only [IntKind.wrap_u8]; omega) w)) ?_
    refine TL.prow (cs := bv [(x : Int)]) rfl rfl rfl rfl rfl (fun w => row1 _ w) (by decide) rfl (fun g1 => ?_)
    refine TL.val rfl rfl rfl (gives_assign rfl rfl) ?_
    refine TL.end_ ?_
    refine TX.then_ ?_
    refine TC.ret_ ?_
    refine TX.then_ret ?_
    exact ret_tmp Tryd.results15 (v := .slice (some ⟨g1, 0, none⟩) (1) 1) rfl (fun w1 hw => ⟨(some ⟨g1, 0, none⟩), 1, 1, [(x : Int)], rfl, Nat.le_refl _, by decide, by omega, bs_one (by omega), Pm.codr [_] (hw.sel (.cons_cons _ (.cons _ (List.Sublist.refl _)))) rfl⟩)
  · have hn0 : 1 ≤ n := by have := of_decide_eq_false hc11; omega
    refine TC.skip_ ?_
    refine TX.then_ ?_
    refine TC.seq_ ?_
    refine TC.region ?_
    refine TL.val rfl rfl rfl (gives_move rfl rfl) ?_
    refine TL.val rfl rfl rfl (gives_move rfl rfl) ?_
    refine TL.val rfl rfl rfl (gives_len rfl Tryd.underlying22 rfl) ?_
    refine TL.pcallCod (k := 1) (α := {x : Nat // x ≤ 65535 ∧ (1 ≤ (n : Int) → (x : Int) < n)}) (fun x => .int .i64 (x.1 : Int)) (fun _ => []) rfl rfl rfl rfl rfl Tryd.func24 nmNext bdNext rfl (fun w1 hw hC1 => next_cod cb w1 n hC1) ?_
    rintro ⟨p, hp1, hp2⟩
    dsimp only [List.nil_append] at hp1 hp2 ⊢
    refine TL.val rfl rfl rfl (gives_assign rfl rfl) ?_
    refine TL.end_ ?_
    refine TX.then_ ?_
    refine TC.seq_ ?_
    refine TC.seq_ ?_
    refine TC.region ?_
    refine TL.val rfl rfl rfl (gives_move rfl rfl) ?_
    refine TL.pcallCod (k := 1) (α := {x : Nat // x ≤ 65535 ∧ (1 ≤ (4 : Int) → (x : Int) < 4)}) (fun x => .int .i64 (x.1 : Int)) (fun _ => []) rfl rfl rfl rfl rfl Tryd.func24 nmNext bdNext rfl (fun w1 hw hC1 => next_cod cb w1 4 hC1) ?_
    rintro ⟨q, hq1, hq2⟩
    dsimp only [List.nil_append] at hq1 hq2 ⊢
    refine TL.end_ ?_
    refine TX.then_ ?_
    refine TC.block ?_
    refine TC.seq_ ?_
    refine TC.region ?_
    refine TL.val rfl rfl rfl (gives_bin rfl rfl rfl (fun w => bin_eql w)) ?_
    refine TL.val rfl rfl rfl (gives_assign rfl rfl) ?_
    refine TL.end_ ?_
    refine TX.then_ ?_
    refine TC.split rfl (fun hc22 => ?_) (fun hc22 => ?_)
    · refine TC.seq_ ?_
      refine TC.held (ls := #[false, false, false, false, false, false, false, false, false]) (fun _ => True) (by kernel_rfl) rfl rfl (fun w hw => hw.drawn _) ?_
      refine TH.take (listed' := #[true, false, false, false, false, false, false, false, false]) 0 rfl (by kernel_rfl) (by kernel_rfl) (by kernel_rfl) rfl rfl rfl rfl (gives_move rfl rfl) (fun w hw => trivial) ?_
      refine TH.take (listed' := #[true, true, false, false, false, false, false, false, false]) 1 rfl (by kernel_rfl) (by kernel_rfl) (by kernel_rfl) rfl rfl rfl rfl (gives_move rfl rfl) (fun w hw => trivial) ?_
      refine TH.take (listed' := #[true, true, false, true, false, false, false, false, false]) 3 rfl (by kernel_rfl) (by kernel_rfl) (by kernel_rfl) rfl rfl rfl rfl (gives_move rfl rfl) (fun w hw => trivial) ?_
      refine TH.take (listed' := #[true, true, false, true, true, false, false, false, false]) 4 rfl (by kernel_rfl) (by kernel_rfl) (by kernel_rfl) rfl rfl rfl rfl (gives_move rfl rfl) (fun w hw => trivial) ?_
      refine TH.take (listed' := #[true, true, false, true, true, true, false, false, false]) 5 rfl (by kernel_rfl) (by kernel_rfl) (by kernel_rfl) rfl rfl rfl rfl (gives_bin rfl rfl rfl (fun w => bin_add_ (r := ((p + 1 : Nat) : Int)) (by simp only [IntKind.wrap_i64]; omega) w)) (fun w hw => trivial) ?_
      refine TH.take (listed' := #[true, true, false, true, true, true, true, false, false]) 6 rfl (by kernel_rfl) (by kernel_rfl) (by kernel_rfl) rfl rfl rfl rfl (gives_sliceL rfl rfl rfl (fun w => cut_lo1 (lo := p + 1) Tryd.underlying22 (fun w => rfl) _ _ _ rfl (by omega) w)) (fun w hw => trivial) ?_
      refine TH.only (listed' := #[true, true, true, true, true, true, true, false, false]) 2 rfl (by kernel_rfl) rfl rfl ?_
      refine TL.rowhead (k := 0) (size := 1) (hi := p) (xs' := bv (l.take p)) rfl rfl rfl rfl rfl rfl Tryd.underlying22 (fun w => rfl) rfl (by omega) hA21 (by rw [Nat.mul_one]; simp [bv, List.map_take]) ?_
      refine TL.end_ ?_
      refine TX.held (fun w hw => trivial) ?_
      refine TH.only (listed' := #[true, true, true, true, true, true, true, true, false]) 7 rfl (by kernel_rfl) rfl rfl ?_
      refine TL.append (k := 0) rfl rfl rfl rfl elU8 rfl rfl rfl (fun w1 hw => ⟨_, ((hsrc w1 _ hw (fun q hq => by simp [hq])).cut (k := p + 1) (cap := c) (by omega) hnc).1⟩) (bv_one _) (by rw [Nat.mul_one]; omega) (p + (n - (p + 1))) rfl (fun A3 c3 hA31 hA32 => ?_)
      refine TL.end_ ?_
      refine TX.held (fun w hw => trivial) ?_
      refine TH.take (listed' := #[true, true, true, true, true, true, true, true, true]) 8 rfl (by kernel_rfl) (by kernel_rfl) (by kernel_rfl) rfl rfl rfl rfl (gives_assign rfl rfl) (fun w hw => trivial) ?_
      refine TH.done (by kernel_rfl) ?_
      refine TX.then_ ?_
      refine TC.ret_ ?_
      refine TX.in_ret ?_
      refine TX.then_ret ?_
      refine TX.cut [(4, .slice A3 (p + (n - (p + 1))) c3)] (Pm ⟨w, cb⟩ (.row (.slice A3 (p + (n - (p + 1))) c3) 5 1 (p + (n - (p + 1))) (bv (l.take p ++ l.drop (p + 1))) :: .abs cb (fun w => Cod w cb) :: oths cb w)) ⟨rfl, trivial⟩ (fun w1 hw => by rw [bv_app]; exact hw) ?_
      exact ret_tmp Tryd.results15 (v := .slice A3 (p + (n - (p + 1))) c3) rfl (fun w1 hw => ⟨A3, p + (n - (p + 1)), c3, l.take p ++ l.drop (p + 1), rfl, hA31, hA32, by omega, ((hl.2.take p).app (hl.2.drop (p + 1))), Pm.codr [_] (hw.sel (List.Sublist.refl _)) rfl⟩)
    · refine TC.seq_ ?_
      refine TC.region ?_
      refine TL.val rfl rfl rfl (gives_bin rfl rfl rfl (fun w => bin_eql w)) ?_
      refine TL.val rfl rfl rfl (gives_assign rfl rfl) ?_
      refine TL.end_ ?_
      refine TX.then_ ?_
      refine TC.split rfl (fun hc32 => ?_) (fun hc32 => ?_)
      · refine TC.seq_ ?_
        refine TC.region ?_
        refine TL.val rfl rfl rfl (gives_move rfl rfl) ?_
        refine TL.val rfl rfl rfl (gives_move rfl rfl) ?_
        refine TL.pcallCod (k := 1) (α := {x : Nat // x ≤ 65535 ∧ (1 ≤ (256 : Int) → (x : Int) < 256)}) (fun x => .int .i64 (x.1 : Int)) (fun _ => []) rfl rfl rfl rfl rfl Tryd.func24 nmNext bdNext rfl (fun w1 hw hC1 => next_cod cb w1 256 hC1) ?_
        rintro ⟨x, hx1, hx2⟩
        dsimp only [List.nil_append] at hx1 hx2 ⊢
        refine TL.val rfl rfl rfl (gives_conv rfl rfl (fun w => conv_fit Tryd.underlying5 Tryd.underlying3 (by simp only [IntKind.wrap_u8]; omega) w)) ?_
        refine TL.prow (cs := bv [(x : Int)]) rfl rfl rfl rfl rfl (fun w => row1 _ w) (by decide) rfl (fun g1 => ?_)
        refine TL.append (k := 1) rfl rfl rfl rfl elU8 rfl rfl rfl (fun w1 hw => pm_reads hw (k := 0) rfl) (bv_one _) (by rw [Nat.mul_one]; omega) (n + 1) rfl (fun A3 c3 hA31 hA32 => ?_)
        refine TL.val rfl rfl rfl (gives_assign rfl rfl) ?_
        refine TL.end_ ?_
        refine TX.then_ ?_
        refine TC.ret_ ?_
        refine TX.in_ret ?_
        refine TX.then_ret ?_
        refine TX.cut [(4, .slice A3 (n + 1) c3)] (Pm ⟨w, cb⟩ (.row (.slice A3 (n + 1) c3) 5 1 (n + 1) (bv (l ++ [(x : Int)])) :: .abs cb (fun w => Cod w cb) :: oths cb w)) ⟨rfl, trivial⟩ (fun w1 hw => by rw [bv_app]; exact Pm.tail hw) ?_
        exact ret_tmp Tryd.results15 (v := .slice A3 (n + 1) c3) rfl (fun w1 hw => ⟨A3, n + 1, c3, l ++ [(x : Int)], rfl, hA31, hA32, by omega, (hl.2.app (bs_one (by omega))), Pm.codr [_] (hw.sel (List.Sublist.refl _)) rfl⟩)
      · refine TC.skip_ ?_
        refine TX.in_normal ?_
        refine TX.then_ ?_
        refine TC.seq_ ?_
        refine TC.fact (p := ∃ g2, A2 = some ⟨g2, 0, none⟩) (fun w1 hw => row_some (hw.at_ (k := 0) rfl) (by omega)) (fun hg2 => ?_)
        obtain ⟨g2, rfl⟩ := hg2
        obtain ⟨y, hy0⟩ : ∃ y, l[p]? = some y := ⟨_, List.getElem?_eq_getElem (by omega)⟩
        have hy : (bv l)[0 + p]? = some (.int .u8 y) := by rw [Nat.zero_add]; simp [bv, hy0]
        refine TC.held (ls := #[false, false, false, false, false, false, false, false, false, false, false]) (fun _ => True) (by kernel_rfl) rfl rfl (fun w hw => hw.drawn _) ?_
        refine TH.take (listed' := #[true, false, false, false, false, false, false, false, false, false, false]) 0 rfl (by kernel_rfl) (by kernel_rfl) (by kernel_rfl) rfl rfl rfl rfl (gives_move rfl rfl) (fun w hw => trivial) ?_
        refine TH.take (listed' := #[true, true, false, false, false, false, false, false, false, false, false]) 1 rfl (by kernel_rfl) (by kernel_rfl) (by kernel_rfl) rfl rfl rfl rfl (gives_move rfl rfl) (fun w hw => trivial) ?_
        refine TH.take (listed' := #[true, true, true, false, false, false, false, false, false, false, false]) 2 rfl (by kernel_rfl) (by kernel_rfl) (by kernel_rfl) rfl rfl rfl rfl (gives_at rfl rfl rfl (fun w => at_u8 g2 0 n c2 p (by omega) w)) (fun w hw => trivial) ?_
        refine TH.take (listed' := #[true, true, true, false, true, false, false, false, false, false, false]) 4 rfl (by kernel_rfl) (by kernel_rfl) (by kernel_rfl) rfl rfl rfl rfl (gives_move rfl rfl) (fun w hw => trivial) ?_
        refine TH.two (listed1 := #[true, true, true, true, true, false, false, false, false, false, false]) (listed2 := #[true, true, true, false, true, true, false, false, false, false, false]) 3 5 rfl rfl (by kernel_rfl) rfl rfl rfl rfl ?_ ?_
        · refine TL.val rfl rfl rfl (pm_loadRow (k := 0) (v := .int .u8 y) rfl rfl (fun w => rfl) rfl hy) ?_
          refine TL.end_ ?_
          refine TX.held (fun w hw => trivial) ?_
          refine TH.only (listed' := #[true, true, true, true, true, true, false, false, false, false, false]) 5 rfl (by kernel_rfl) rfl rfl ?_
          refine TL.pcallCod (k := 1) (α := {x : Nat // x ≤ 65535 ∧ (1 ≤ (255 : Int) → (x : Int) < 255)}) (fun x => .int .i64 (x.1 : Int)) (fun _ => []) rfl rfl rfl rfl rfl Tryd.func24 nmNext bdNext rfl (fun w1 hw hC1 => next_cod cb w1 255 hC1) ?_
          rintro ⟨x, hx1, hx2⟩
          dsimp only [List.nil_append] at hx1 hx2 ⊢
          refine TL.end_ ?_
          refine TX.held (fun w hw => trivial) ?_
          refine TH.take (listed' := #[true, true, true, true, true, true, true, false, false, false, false]) 6 rfl (by kernel_rfl) (by kernel_rfl) (by kernel_rfl) rfl rfl rfl rfl (gives_bin rfl rfl rfl (fun w => bin_add_ (r := 1 + (x : Int)) (by simp only [IntKind.wrap_i64]; omega) w)) (fun w hw => trivial) ?_
          refine TH.take (listed' := #[true, true, true, true, true, true, true, true, false, false, false]) 7 rfl (by kernel_rfl) (by kernel_rfl) (by kernel_rfl) rfl rfl rfl rfl (gives_conv rfl rfl (fun w => conv_fit Tryd.underlying5 Tryd.underlying3 (by simp only [IntKind.wrap_u8]; omega) w)) (fun w hw => trivial) ?_
          refine TH.take (listed' := #[true, true, true, true, true, true, true, true, true, false, false]) 8 rfl (by kernel_rfl) (by kernel_rfl) (by kernel_rfl) rfl rfl rfl rfl (gives_bin rfl rfl rfl (fun w => bin_bits (.inr (.inr rfl)) w)) (fun w hw => trivial) ?_
          refine TH.take (listed' := #[true, true, true, true, true, true, true, true, true, true, false]) 9 rfl (by kernel_rfl) (by kernel_rfl) (by kernel_rfl) rfl rfl rfl rfl (gives_at rfl rfl rfl (fun w => at_u8 g2 0 n c2 p (by omega) w)) (fun w hw => trivial) ?_
          refine TH.only (listed' := #[true, true, true, true, true, true, true, true, true, true, true]) 10 rfl (by kernel_rfl) rfl rfl ?_
          refine TL.rowset (k := 0) (vs := [.int .u8 (bits .xor .u8 y (1 + (x : Int)))]) rfl rfl rfl rfl rfl rfl rfl (fun w => rfl) (one1b _) (by simp only [bv_len, List.length_singleton]; omega) (xs' := bv (l.take p ++ [bits .xor .u8 y (1 + (x : Int))] ++ l.drop (p + 1))) (by rw [Nat.zero_add]; simp [bv, List.map_take, List.map_drop]) ?_
          refine TL.end_ ?_
          refine TX.held (fun w hw => trivial) ?_
          refine TH.done (by kernel_rfl) ?_
          refine TX.then_ ?_
          refine TC.seq_ ?_
          refine TC.region ?_
          refine TL.val rfl rfl rfl (gives_move rfl rfl) ?_
          refine TL.val rfl rfl rfl (gives_assign rfl rfl) ?_
          refine TL.end_ ?_
          refine TX.then_ ?_
          refine TC.ret_ ?_
          exact ret_tmp Tryd.results15 (v := .slice (some ⟨g2, 0, none⟩) (n) c2) rfl (fun w1 hw => ⟨(some ⟨g2, 0, none⟩), n, c2, _, rfl, hA21, hA22, by omega, (((hl.2.take p).app (bs_one (u8_bits _ _ _))).app (hl.2.drop (p + 1))), Pm.codr [_] (hw.sel (List.Sublist.refl _)) rfl⟩)
        · refine TL.pcallCod (k := 1) (α := {x : Nat // x ≤ 65535 ∧ (1 ≤ (255 : Int) → (x : Int) < 255)}) (fun x => .int .i64 (x.1 : Int)) (fun _ => []) rfl rfl rfl rfl rfl Tryd.func24 nmNext bdNext rfl (fun w1 hw hC1 => next_cod cb w1 255 hC1) ?_
          rintro ⟨x, hx1, hx2⟩
          dsimp only [List.nil_append] at hx1 hx2 ⊢
          refine TL.end_ ?_
          refine TX.held (fun w hw => trivial) ?_
          refine TH.take (listed' := #[true, true, true, false, true, true, true, false, false, false, false]) 6 rfl (by kernel_rfl) (by kernel_rfl) (by kernel_rfl) rfl rfl rfl rfl (gives_bin rfl rfl rfl (fun w => bin_add_ (r := 1 + (x : Int)) (by simp only [IntKind.wrap_i64]; omega) w)) (fun w hw => trivial) ?_
          refine TH.take (listed' := #[true, true, true, false, true, true, true, true, false, false, false]) 7 rfl (by kernel_rfl) (by kernel_rfl) (by kernel_rfl) rfl rfl rfl rfl (gives_conv rfl rfl (fun w => conv_fit Tryd.underlying5 Tryd.underlying3 (by simp only [IntKind.wrap_u8]; omega) w)) (fun w hw => trivial) ?_
          refine TH.only (listed' := #[true, true, true, true, true, true, true, true, false, false, false]) 3 rfl (by kernel_rfl) rfl rfl ?_
          refine TL.val rfl rfl rfl (pm_loadRow (k := 0) (v := .int .u8 y) rfl rfl (fun w => rfl) rfl hy) ?_
          refine TL.end_ ?_
          refine TX.held (fun w hw => trivial) ?_
          refine TH.take (listed' := #[true, true, true, true, true, true, true, true, true, false, false]) 8 rfl (by kernel_rfl) (by kernel_rfl) (by kernel_rfl) rfl rfl rfl rfl (gives_bin rfl rfl rfl (fun w => bin_bits (.inr (.inr rfl)) w)) (fun w hw => trivial) ?_
          refine TH.take (listed' := #[true, true, true, true, true, true, true, true, true, true, false]) 9 rfl (by kernel_rfl) (by kernel_rfl) (by kernel_rfl) rfl rfl rfl rfl (gives_at rfl rfl rfl (fun w => at_u8 g2 0 n c2 p (by omega) w)) (fun w hw => trivial) ?_
          refine TH.only (listed' := #[true, true, true, true, true, true, true, true, true, true, true]) 10 rfl (by kernel_rfl) rfl rfl ?_
          refine TL.rowset (k := 0) (vs := [.int .u8 (bits .xor .u8 y (1 + (x : Int)))]) rfl rfl rfl rfl rfl rfl rfl (fun w => rfl) (one1b _) (by simp only [bv_len, List.length_singleton]; omega) (xs' := bv (l.take p ++ [bits .xor .u8 y (1 + (x : Int))] ++ l.drop (p + 1))) (by rw [Nat.zero_add]; simp [bv, List.map_take, List.map_drop]) ?_
          refine TL.end_ ?_
          refine TX.held (fun w hw => trivial) ?_
          refine TH.done (by kernel_rfl) ?_
          refine TX.then_ ?_
          refine TC.seq_ ?_
          refine TC.region ?_
          refine TL.val rfl rfl rfl (gives_move rfl rfl) ?_
          refine TL.val rfl rfl rfl (gives_assign rfl rfl) ?_
          refine TL.end_ ?_
          refine TX.then_ ?_
          refine TC.ret_ ?_
          exact ret_tmp Tryd.results15 (v := .slice (some ⟨g2, 0, none⟩) (n) c2) rfl (fun w1 hw => ⟨(some ⟨g2, 0, none⟩), n, c2, _, rfl, hA21, hA22, by omega, (((hl.2.take p).app (bs_one (u8_bits _ _ _))).app (hl.2.drop (p + 1))), Pm.codr [_] (hw.sel (List.Sublist.refl _)) rfl⟩)
end Go.Proofs.YtllaojnnackhhaaDoor
