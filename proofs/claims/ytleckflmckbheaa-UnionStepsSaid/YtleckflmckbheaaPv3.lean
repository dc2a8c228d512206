/-
  Texts of the proof, joined: Us2, Us3, Us4.
-/
import Derived.Test.YtleckflmckbheaaPv2
set_option linter.unusedVariables false
set_option linter.unusedSimpArgs false
namespace Go.Proofs.Ytleckflmckbheaa
open Go.RowKit
set_option maxRecDepth 20000
theorem us2sz35 (w : World) : (sizeOf 35).run Try.prog w = .ok 1 w := rfl
theorem us2ag35 (w : World) : (isAgg 35).run Try.prog w = .ok false w := rfl
theorem us2nm68 : (Try.f68.name == "runtime.NumGoroutine") = false := by decide
theorem us2bd68 : Try.f68.body.isNone = false := rfl
theorem us2nm73 : (Try.f73.name == "runtime.NumGoroutine") = false := by decide
theorem us2bd73 : Try.f73.body.isNone = false := rfl
set_option maxHeartbeats 1000000 in
theorem sift_any (g n c : Nat) (xs : List Int) (w : World) (h : Rw 35 w g n c xs) (hn : n ≤ 1000000) (lo hi f : Nat) (hlo : lo ≤ hi) (hf : f + hi ≤ n) (hh : Hp f (lo + 1) hi xs) :
  Calls Try.prog 73 #[.slice (some ⟨g, 0, none⟩) n c, .int .i64 ((lo : Nat) : Int), .int .i64 ((hi : Nat) : Int), .int .i64 ((f : Nat) : Int)] w (RC (α := Unit) (fun _ => .tuple #[]) (fun _ ys => Pin f (f + hi) xs ys ∧ Hp f lo hi ys) 35 g n c w) := by
 have hl := h.len
 refine begin_ (vs := [.slice (some ⟨g, 0, none⟩) n c, .int .i64 ((lo : Nat) : Int), .int .i64 ((hi : Nat) : Int), .int .i64 ((f : Nat) : Int)]) (I := Pm ⟨wbut w g, g⟩ (.row (.slice (some ⟨g, 0, none⟩) n c) 35 1 n (uv xs) :: oths g w)) Try.func73 rfl rfl rfl ?_ (Pm.rowStart h)
 refine TC.seq_ (TC.region ?_)
 refine TL.mv ?_
 refine TL.as_ ?_
 refine TL.end_ (TX.then_ (TC.block ?_))
 refine TC.loop_ (α := {y : Nat × List Int // Sft f lo hi y.1 y.2 ∧ y.1 ≤ hi ∧ Pin f (f + hi) xs y.2 ∧ y.2.length = n}) (fun y => [(0, .slice (some ⟨g, 0, none⟩) n c), (2, .int .i64 ((hi : Nat) : Int)), (3, .int .i64 ((f : Nat) : Int)), (8, .int .i64 ((y.1.1 : Nat) : Int))]) (fun y => Pm ⟨wbut w g, g⟩ ([.row (.slice (some ⟨g, 0, none⟩) n c) 35 1 n (uv y.1.2)] ++ oths g w)) (fun y => hi - y.1.1) (⟨(lo, xs), Sft.start hh, hlo, Pin.refl _ _ _, hl⟩) ⟨rfl, rfl, rfl, rfl, trivial⟩ (fun w1 hw => hw) ?_
 rintro ⟨⟨r, ys⟩, hS, hr, hP, hly⟩
 dsimp only at hS hr hP hly ⊢
 have hlr := hS.at_
 refine TC.block (TC.seq_ (TC.region ?_))
 refine TL.mv ?_
 refine TL.val rfl rfl rfl (gives_bin rfl rfl rfl (fun w => bin_mul_ (r := ((2 * r : Nat) : Int)) (by simp only [IntKind.wrap_i64]; omega) w)) ?_
 refine TL.val rfl rfl rfl (gives_bin rfl rfl rfl (fun w => bin_add_ (r := ((2 * r + 1 : Nat) : Int)) (by simp only [IntKind.wrap_i64]; omega) w)) ?_
 refine TL.as_ ?_
 refine TL.end_ (TX.then_ (TC.seq_ (TC.seq_ (TC.region ?_))))
 refine TL.mv ?_
 refine TL.mv ?_
 refine TL.vsplit rfl rfl rfl (gives_bin rfl rfl rfl (fun w => bin_geq w)) (fun h16 => ?_) (fun h16 => ?_)
 ·have q16 := of_decide_eq_true h16
  refine TL.end_ (TX.then_ (TC.condT rfl (TC.exit_ (TX.then_exit (TX.in_other rfl (TX.then_exit (TX.in_same ?_)))))))
  have hH : Hp f lo hi ys := hS.stop (fun d hd hdh => by omega)
  exact end_none Try.results73 (fun w1 hw => ⟨(), ys, rfl, ⟨hP, hH⟩, pm_rowAt hw (k := 0) rfl, hw.mapEnd (fun q hq => by simp [hq])⟩)
 ·have q16 := of_decide_eq_false h16
  refine TL.end_ (TX.then_ (TC.condF rfl (TC.skip_ (TX.then_ (TC.seq_ (TC.seq_ ?_))))))
  have hway : ¬ 2 * r + 1 + 1 < hi ∨ (2 * r + 1 + 1 < hi ∧ dx ys (f + (2 * r + 1)) < dx ys (f + (2 * r + 1) + 1)) ∨ (2 * r + 1 + 1 < hi ∧ ¬ dx ys (f + (2 * r + 1)) < dx ys (f + (2 * r + 1) + 1)) := by omega
  rcases hway with p1 | ⟨p1, p2⟩ | ⟨p1, p2⟩
  ·refine TC.quiet_ (E' := ?_) (by kernel_rfl) (by kernel_rfl) (fun w hw => hw.drawn _) ?_ ?_
   rotate_left
   ·refine TQ.val rfl rfl rfl (gives_move rfl rfl) ?_
    refine TQ.val rfl rfl rfl (gives_bin rfl rfl rfl (fun w => bin_add_ (r := ((2 * r + 1 + 1 : Nat) : Int)) (by simp only [IntKind.wrap_i64]; omega) w)) ?_
    refine TQ.val rfl rfl rfl (gives_move rfl rfl) ?_
    refine TQ.val rfl rfl rfl (gives_bin rfl rfl rfl (fun w => bin_lss_f (by omega) w)) ?_
    iterate 16 (first | refine TQ.off rfl rfl rfl rfl rfl rfl ?_ | refine TQ.val rfl rfl rfl (gives_move rfl rfl) ?_ | refine TQ.val rfl rfl rfl (gives_pick rfl rfl rfl) ?_)
    exact TQ.end_
   refine TX.then_ (TC.condF rfl (TC.skip_ (TX.then_ (TC.seq_ (TC.seq_ ?_)))))
   rcases Classical.em (dx ys (f + r) < dx ys (f + (2 * r + 1))) with p4 | p4
   ·have hmx : ∀ d, (d = 2 * r + 1 ∨ d = 2 * r + 2) → d < hi → dx ys (f + d) ≤ dx ys (f + (2 * r + 1)) := fun d hd hdh => by rcases hd with rfl | rfl <;> omega
    refine TC.quiet_ (E' := ?_) (by kernel_rfl) (by kernel_rfl) (fun w hw => hw.drawn _) ?_ ?_
    rotate_left
    ·refine TQ.val rfl rfl rfl (gives_move rfl rfl) ?_
     refine TQ.val rfl rfl rfl (gives_move rfl rfl) ?_
     refine TQ.val rfl rfl rfl (gives_move rfl rfl) ?_
     refine TQ.val rfl rfl rfl (gives_bin rfl rfl rfl (fun w => bin_add_ (r := ((f + r : Nat) : Int)) (by simp only [IntKind.wrap_i64]; omega) w)) ?_
     refine TQ.val rfl rfl rfl (gives_at (v := .pointer (some ⟨g, f + r, none⟩)) rfl rfl rfl (fun w => at_row Try.underlying31 us2sz35 g _ _ (f + r) (by omega) rfl w)) ?_
     refine TQ.val rfl rfl rfl (pm_loadU (k := 0) (i := f + r) rfl rfl us2ag35 rfl (by omega)) ?_
     refine TQ.val rfl rfl rfl (gives_move rfl rfl) ?_
     refine TQ.val rfl rfl rfl (gives_move rfl rfl) ?_
     refine TQ.val rfl rfl rfl (gives_move rfl rfl) ?_
     refine TQ.val rfl rfl rfl (gives_bin rfl rfl rfl (fun w => bin_add_ (r := ((f + (2 * r + 1) : Nat) : Int)) (by simp only [IntKind.wrap_i64]; omega) w)) ?_
     refine TQ.val rfl rfl rfl (gives_at (v := .pointer (some ⟨g, f + (2 * r + 1), none⟩)) rfl rfl rfl (fun w => at_row Try.underlying31 us2sz35 g _ _ (f + (2 * r + 1)) (by omega) rfl w)) ?_
     refine TQ.val rfl rfl rfl (pm_loadU (k := 0) (i := f + (2 * r + 1)) rfl rfl us2ag35 rfl (by omega)) ?_
     refine TQ.call (v := .bool true) rfl rfl rfl rfl rfl Try.func68 us2nm68 us2bd68 (fun w1 hw => (less_t _ _ p4 w1).mono fun en w2 ⟨h1, h2⟩ => ⟨h1, hw.below h2⟩) ?_
     refine TQ.val rfl rfl rfl (gives_boolnot rfl rfl) ?_
     exact TQ.end_
    refine TX.then_ (TC.condF rfl (TC.skip_ (TX.then_ (TC.seq_ ?_))))
    refine TC.held (ls := #[Ff,Ff,Ff,Ff,Ff,Ff,Ff,Ff,Ff,Ff,Ff,Ff,Ff,Ff,Ff,Ff,Ff,Ff,Ff,Ff,Ff,Ff,Ff,Ff]) (fun _ => True) (by kernel_rfl) rfl rfl (fun w hw => hw.drawn _) ?_
    refine TH.tk (listed' := #[Tt,Ff,Ff,Ff,Ff,Ff,Ff,Ff,Ff,Ff,Ff,Ff,Ff,Ff,Ff,Ff,Ff,Ff,Ff,Ff,Ff,Ff,Ff,Ff]) 0 rfl rfl rfl (gives_move rfl rfl) (fun _ _ => trivial) ?_
    refine TH.tk (listed' := #[Tt,Tt,Ff,Ff,Ff,Ff,Ff,Ff,Ff,Ff,Ff,Ff,Ff,Ff,Ff,Ff,Ff,Ff,Ff,Ff,Ff,Ff,Ff,Ff]) 1 rfl rfl rfl (gives_move rfl rfl) (fun _ _ => trivial) ?_
    refine TH.tk (listed' := #[Tt,Tt,Tt,Ff,Ff,Ff,Ff,Ff,Ff,Ff,Ff,Ff,Ff,Ff,Ff,Ff,Ff,Ff,Ff,Ff,Ff,Ff,Ff,Ff]) 2 rfl rfl rfl (gives_move rfl rfl) (fun _ _ => trivial) ?_
    refine TH.tk (listed' := #[Tt,Tt,Tt,Tt,Ff,Ff,Ff,Ff,Ff,Ff,Ff,Ff,Ff,Ff,Ff,Ff,Ff,Ff,Ff,Ff,Ff,Ff,Ff,Ff]) 3 rfl rfl rfl (gives_bin rfl rfl rfl (fun w => bin_add_ (r := ((f + r : Nat) : Int)) (by simp only [IntKind.wrap_i64]; omega) w)) (fun _ _ => trivial) ?_
    refine TH.tk (listed' := #[Tt,Tt,Tt,Tt,Tt,Ff,Ff,Ff,Ff,Ff,Ff,Ff,Ff,Ff,Ff,Ff,Ff,Ff,Ff,Ff,Ff,Ff,Ff,Ff]) 4 rfl rfl rfl (gives_move rfl rfl) (fun _ _ => trivial) ?_
    refine TH.tk (listed' := #[Tt,Tt,Tt,Tt,Tt,Tt,Ff,Ff,Ff,Ff,Ff,Ff,Ff,Ff,Ff,Ff,Ff,Ff,Ff,Ff,Ff,Ff,Ff,Ff]) 5 rfl rfl rfl (gives_move rfl rfl) (fun _ _ => trivial) ?_
    refine TH.tk (listed' := #[Tt,Tt,Tt,Tt,Tt,Tt,Tt,Ff,Ff,Ff,Ff,Ff,Ff,Ff,Ff,Ff,Ff,Ff,Ff,Ff,Ff,Ff,Ff,Ff]) 6 rfl rfl rfl (gives_move rfl rfl) (fun _ _ => trivial) ?_
    refine TH.tk (listed' := #[Tt,Tt,Tt,Tt,Tt,Tt,Tt,Tt,Ff,Ff,Ff,Ff,Ff,Ff,Ff,Ff,Ff,Ff,Ff,Ff,Ff,Ff,Ff,Ff]) 7 rfl rfl rfl (gives_bin rfl rfl rfl (fun w => bin_add_ (r := ((f + (2 * r + 1) : Nat) : Int)) (by simp only [IntKind.wrap_i64]; omega) w)) (fun _ _ => trivial) ?_
    refine TH.tk (listed' := #[Tt,Tt,Tt,Tt,Tt,Tt,Tt,Tt,Tt,Ff,Ff,Ff,Ff,Ff,Ff,Ff,Ff,Ff,Ff,Ff,Ff,Ff,Ff,Ff]) 8 rfl rfl rfl (gives_move rfl rfl) (fun _ _ => trivial) ?_
    refine TH.tk (listed' := #[Tt,Tt,Tt,Tt,Tt,Tt,Tt,Tt,Tt,Tt,Ff,Ff,Ff,Ff,Ff,Ff,Ff,Ff,Ff,Ff,Ff,Ff,Ff,Ff]) 9 rfl rfl rfl (gives_move rfl rfl) (fun _ _ => trivial) ?_
    refine TH.tk (listed' := #[Tt,Tt,Tt,Tt,Tt,Tt,Tt,Tt,Tt,Tt,Tt,Ff,Ff,Ff,Ff,Ff,Ff,Ff,Ff,Ff,Ff,Ff,Ff,Ff]) 10 rfl rfl rfl (gives_move rfl rfl) (fun _ _ => trivial) ?_
    refine TH.tk (listed' := #[Tt,Tt,Tt,Tt,Tt,Tt,Tt,Tt,Tt,Tt,Tt,Tt,Ff,Ff,Ff,Ff,Ff,Ff,Ff,Ff,Ff,Ff,Ff,Ff]) 11 rfl rfl rfl (gives_bin rfl rfl rfl (fun w => bin_add_ (r := ((f + (2 * r + 1) : Nat) : Int)) (by simp only [IntKind.wrap_i64]; omega) w)) (fun _ _ => trivial) ?_
    refine TH.tk (listed' := #[Tt,Tt,Tt,Tt,Tt,Tt,Tt,Tt,Tt,Tt,Tt,Tt,Tt,Ff,Ff,Ff,Ff,Ff,Ff,Ff,Ff,Ff,Ff,Ff]) 12 rfl rfl rfl (gives_at (v := .pointer (some ⟨g, f + (2 * r + 1), none⟩)) rfl rfl rfl (fun w => at_row Try.underlying31 us2sz35 g _ _ (f + (2 * r + 1)) (by omega) rfl w)) (fun _ _ => trivial) ?_
    refine TH.tk (listed' := #[Tt,Tt,Tt,Tt,Tt,Tt,Tt,Tt,Tt,Tt,Tt,Tt,Tt,Ff,Tt,Ff,Ff,Ff,Ff,Ff,Ff,Ff,Ff,Ff]) 14 rfl rfl rfl (gives_move rfl rfl) (fun _ _ => trivial) ?_
    refine TH.tk (listed' := #[Tt,Tt,Tt,Tt,Tt,Tt,Tt,Tt,Tt,Tt,Tt,Tt,Tt,Ff,Tt,Tt,Ff,Ff,Ff,Ff,Ff,Ff,Ff,Ff]) 15 rfl rfl rfl (gives_move rfl rfl) (fun _ _ => trivial) ?_
    refine TH.tk (listed' := #[Tt,Tt,Tt,Tt,Tt,Tt,Tt,Tt,Tt,Tt,Tt,Tt,Tt,Ff,Tt,Tt,Tt,Ff,Ff,Ff,Ff,Ff,Ff,Ff]) 16 rfl rfl rfl (gives_move rfl rfl) (fun _ _ => trivial) ?_
    refine TH.tk (listed' := #[Tt,Tt,Tt,Tt,Tt,Tt,Tt,Tt,Tt,Tt,Tt,Tt,Tt,Ff,Tt,Tt,Tt,Tt,Ff,Ff,Ff,Ff,Ff,Ff]) 17 rfl rfl rfl (gives_bin rfl rfl rfl (fun w => bin_add_ (r := ((f + r : Nat) : Int)) (by simp only [IntKind.wrap_i64]; omega) w)) (fun _ _ => trivial) ?_
    refine TH.tk (listed' := #[Tt,Tt,Tt,Tt,Tt,Tt,Tt,Tt,Tt,Tt,Tt,Tt,Tt,Ff,Tt,Tt,Tt,Tt,Tt,Ff,Ff,Ff,Ff,Ff]) 18 rfl rfl rfl (gives_at (v := .pointer (some ⟨g, f + r, none⟩)) rfl rfl rfl (fun w => at_row Try.underlying31 us2sz35 g _ _ (f + r) (by omega) rfl w)) (fun _ _ => trivial) ?_
    refine TH.two' (listed1 := #[Tt,Tt,Tt,Tt,Tt,Tt,Tt,Tt,Tt,Tt,Tt,Tt,Tt,Tt,Tt,Tt,Tt,Tt,Tt,Ff,Ff,Ff,Ff,Ff]) (listed2 := #[Tt,Tt,Tt,Tt,Tt,Tt,Tt,Tt,Tt,Tt,Tt,Tt,Tt,Ff,Tt,Tt,Tt,Tt,Tt,Tt,Ff,Ff,Ff,Ff]) 13 19 rfl rfl (by kernel_rfl) rfl rfl ?_ ?_
    ·refine TL.val rfl rfl rfl (pm_loadU (k := 0) (i := f + (2 * r + 1)) rfl rfl us2ag35 rfl (by omega)) ?_
     refine TL.end_ ?_
     refine TX.held (fun _ _ => trivial) ?_
     refine TH.only' (listed' := #[Tt,Tt,Tt,Tt,Tt,Tt,Tt,Tt,Tt,Tt,Tt,Tt,Tt,Tt,Tt,Tt,Tt,Tt,Tt,Tt,Ff,Ff,Ff,Ff]) 19 rfl (by kernel_rfl) rfl ?_
     refine TL.val rfl rfl rfl (pm_loadU (k := 0) (i := f + r) rfl rfl us2ag35 rfl (by omega)) ?_
     refine TL.end_ ?_
     refine TX.held (fun _ _ => trivial) ?_
     refine TH.tk (listed' := #[Tt,Tt,Tt,Tt,Tt,Tt,Tt,Tt,Tt,Tt,Tt,Tt,Tt,Tt,Tt,Tt,Tt,Tt,Tt,Tt,Tt,Ff,Ff,Ff]) 20 rfl rfl rfl (gives_at (v := .pointer (some ⟨g, f + r, none⟩)) rfl rfl rfl (fun w => at_row Try.underlying31 us2sz35 g _ _ (f + r) (by omega) rfl w)) (fun _ _ => trivial) ?_
     refine TH.only' (listed' := #[Tt,Tt,Tt,Tt,Tt,Tt,Tt,Tt,Tt,Tt,Tt,Tt,Tt,Tt,Tt,Tt,Tt,Tt,Tt,Tt,Tt,Tt,Ff,Ff]) 21 rfl (by kernel_rfl) rfl ?_
     refine TL.uset (k := 0) (i := f + r) rfl rfl rfl rfl rfl rfl us2sz35 (by omega) ?_
     refine TL.end_ ?_
     refine TX.held (fun _ _ => trivial) ?_
     refine TH.tk (listed' := #[Tt,Tt,Tt,Tt,Tt,Tt,Tt,Tt,Tt,Tt,Tt,Tt,Tt,Tt,Tt,Tt,Tt,Tt,Tt,Tt,Tt,Tt,Tt,Ff]) 22 rfl rfl rfl (gives_at (v := .pointer (some ⟨g, f + (2 * r + 1), none⟩)) rfl rfl rfl (fun w => at_row Try.underlying31 us2sz35 g _ _ (f + (2 * r + 1)) (by omega) rfl w)) (fun _ _ => trivial) ?_
     refine TH.only' (listed' := #[Tt,Tt,Tt,Tt,Tt,Tt,Tt,Tt,Tt,Tt,Tt,Tt,Tt,Tt,Tt,Tt,Tt,Tt,Tt,Tt,Tt,Tt,Tt,Tt]) 23 rfl (by kernel_rfl) rfl ?_
     refine TL.uset (k := 0) (i := f + (2 * r + 1)) rfl rfl rfl rfl rfl rfl us2sz35 (by rw [List.length_set]; omega) ?_
     refine TL.end_ ?_
     refine TX.held (fun _ _ => trivial) ?_
     refine TH.done (by kernel_rfl) ?_
     refine TX.then_ (TC.region ?_)
     refine TL.mv ?_
     refine TL.as_ ?_
     refine TL.end_ (TX.in_normal ?_)
     exact TX.round (⟨(2 * r + 1, swp ys (f + r) (f + (2 * r + 1))), hS.down (by omega) (by omega) (by omega) p4 hmx, by dsimp only; omega, hP.swap (by omega) (by omega) (by omega) (by omega) (by omega), by rw [swp_len]; exact hly⟩) (by dsimp only; omega) ⟨rfl, rfl, rfl, rfl, trivial⟩ (fun w1 hw => hw)
    ·refine TL.val rfl rfl rfl (pm_loadU (k := 0) (i := f + r) rfl rfl us2ag35 rfl (by omega)) ?_
     refine TL.end_ ?_
     refine TX.held (fun _ _ => trivial) ?_
     refine TH.only' (listed' := #[Tt,Tt,Tt,Tt,Tt,Tt,Tt,Tt,Tt,Tt,Tt,Tt,Tt,Tt,Tt,Tt,Tt,Tt,Tt,Tt,Ff,Ff,Ff,Ff]) 13 rfl (by kernel_rfl) rfl ?_
     refine TL.val rfl rfl rfl (pm_loadU (k := 0) (i := f + (2 * r + 1)) rfl rfl us2ag35 rfl (by omega)) ?_
     refine TL.end_ ?_
     refine TX.held (fun _ _ => trivial) ?_
     refine TH.tk (listed' := #[Tt,Tt,Tt,Tt,Tt,Tt,Tt,Tt,Tt,Tt,Tt,Tt,Tt,Tt,Tt,Tt,Tt,Tt,Tt,Tt,Tt,Ff,Ff,Ff]) 20 rfl rfl rfl (gives_at (v := .pointer (some ⟨g, f + r, none⟩)) rfl rfl rfl (fun w => at_row Try.underlying31 us2sz35 g _ _ (f + r) (by omega) rfl w)) (fun _ _ => trivial) ?_
     refine TH.only' (listed' := #[Tt,Tt,Tt,Tt,Tt,Tt,Tt,Tt,Tt,Tt,Tt,Tt,Tt,Tt,Tt,Tt,Tt,Tt,Tt,Tt,Tt,Tt,Ff,Ff]) 21 rfl (by kernel_rfl) rfl ?_
     refine TL.uset (k := 0) (i := f + r) rfl rfl rfl rfl rfl rfl us2sz35 (by omega) ?_
     refine TL.end_ ?_
     refine TX.held (fun _ _ => trivial) ?_
     refine TH.tk (listed' := #[Tt,Tt,Tt,Tt,Tt,Tt,Tt,Tt,Tt,Tt,Tt,Tt,Tt,Tt,Tt,Tt,Tt,Tt,Tt,Tt,Tt,Tt,Tt,Ff]) 22 rfl rfl rfl (gives_at (v := .pointer (some ⟨g, f + (2 * r + 1), none⟩)) rfl rfl rfl (fun w => at_row Try.underlying31 us2sz35 g _ _ (f + (2 * r + 1)) (by omega) rfl w)) (fun _ _ => trivial) ?_
     refine TH.only' (listed' := #[Tt,Tt,Tt,Tt,Tt,Tt,Tt,Tt,Tt,Tt,Tt,Tt,Tt,Tt,Tt,Tt,Tt,Tt,Tt,Tt,Tt,Tt,Tt,Tt]) 23 rfl (by kernel_rfl) rfl ?_
     refine TL.uset (k := 0) (i := f + (2 * r + 1)) rfl rfl rfl rfl rfl rfl us2sz35 (by rw [List.length_set]; omega) ?_
     refine TL.end_ ?_
     refine TX.held (fun _ _ => trivial) ?_
     refine TH.done (by kernel_rfl) ?_
     refine TX.then_ (TC.region ?_)
     refine TL.mv ?_
     refine TL.as_ ?_
     refine TL.end_ (TX.in_normal ?_)
     exact TX.round (⟨(2 * r + 1, swp ys (f + r) (f + (2 * r + 1))), hS.down (by omega) (by omega) (by omega) p4 hmx, by dsimp only; omega, hP.swap (by omega) (by omega) (by omega) (by omega) (by omega), by rw [swp_len]; exact hly⟩) (by dsimp only; omega) ⟨rfl, rfl, rfl, rfl, trivial⟩ (fun w1 hw => hw)
   ·have hH : Hp f lo hi ys := hS.stop (fun d hd hdh => by rcases hd with rfl | rfl <;> omega)
    refine TC.quiet_ (E' := ?_) (by kernel_rfl) (by kernel_rfl) (fun w hw => hw.drawn _) ?_ ?_
    rotate_left
    ·refine TQ.val rfl rfl rfl (gives_move rfl rfl) ?_
     refine TQ.val rfl rfl rfl (gives_move rfl rfl) ?_
     refine TQ.val rfl rfl rfl (gives_move rfl rfl) ?_
     refine TQ.val rfl rfl rfl (gives_bin rfl rfl rfl (fun w => bin_add_ (r := ((f + r : Nat) : Int)) (by simp only [IntKind.wrap_i64]; omega) w)) ?_
     refine TQ.val rfl rfl rfl (gives_at (v := .pointer (some ⟨g, f + r, none⟩)) rfl rfl rfl (fun w => at_row Try.underlying31 us2sz35 g _ _ (f + r) (by omega) rfl w)) ?_
     refine TQ.val rfl rfl rfl (pm_loadU (k := 0) (i := f + r) rfl rfl us2ag35 rfl (by omega)) ?_
     refine TQ.val rfl rfl rfl (gives_move rfl rfl) ?_
     refine TQ.val rfl rfl rfl (gives_move rfl rfl) ?_
     refine TQ.val rfl rfl rfl (gives_move rfl rfl) ?_
     refine TQ.val rfl rfl rfl (gives_bin rfl rfl rfl (fun w => bin_add_ (r := ((f + (2 * r + 1) : Nat) : Int)) (by simp only [IntKind.wrap_i64]; omega) w)) ?_
     refine TQ.val rfl rfl rfl (gives_at (v := .pointer (some ⟨g, f + (2 * r + 1), none⟩)) rfl rfl rfl (fun w => at_row Try.underlying31 us2sz35 g _ _ (f + (2 * r + 1)) (by omega) rfl w)) ?_
     refine TQ.val rfl rfl rfl (pm_loadU (k := 0) (i := f + (2 * r + 1)) rfl rfl us2ag35 rfl (by omega)) ?_
     refine TQ.call (v := .bool false) rfl rfl rfl rfl rfl Try.func68 us2nm68 us2bd68 (fun w1 hw => (less_f _ _ p4 w1).mono fun en w2 ⟨h1, h2⟩ => ⟨h1, hw.below h2⟩) ?_
     refine TQ.val rfl rfl rfl (gives_boolnot rfl rfl) ?_
     exact TQ.end_
    refine TX.then_ (TC.condT rfl (TC.ret_ (TX.then_ret (TX.in_ret (TX.then_ret (TX.in_ret ?_))))))
    exact ret_none Try.results73 (fun w1 hw => ⟨(), ys, rfl, ⟨hP, hH⟩, pm_rowAt hw (k := 0) rfl, hw.mapEnd (fun q hq => by simp [hq])⟩)
  ·have p3 : dx ys (f + (2 * r + 1)) < dx ys (f + (2 * r + 1 + 1)) := p2
   have p5 : dx ys (f + (2 * r + 2)) = dx ys (f + (2 * r + 1 + 1)) := rfl
   refine TC.quiet_ (E' := ?_) (by kernel_rfl) (by kernel_rfl) (fun w hw => hw.drawn _) ?_ ?_
   rotate_left
   ·refine TQ.val rfl rfl rfl (gives_move rfl rfl) ?_
    refine TQ.val rfl rfl rfl (gives_bin rfl rfl rfl (fun w => bin_add_ (r := ((2 * r + 1 + 1 : Nat) : Int)) (by simp only [IntKind.wrap_i64]; omega) w)) ?_
    refine TQ.val rfl rfl rfl (gives_move rfl rfl) ?_
    refine TQ.val rfl rfl rfl (gives_bin rfl rfl rfl (fun w => bin_lss_t (by omega) w)) ?_
    iterate 8 (first | refine TQ.val rfl rfl rfl (gives_move rfl rfl) ?_ | refine TQ.on rfl rfl rfl ?_)
    refine TQ.val rfl rfl rfl (gives_bin rfl rfl rfl (fun w => bin_add_ (r := ((f + (2 * r + 1) : Nat) : Int)) (by simp only [IntKind.wrap_i64]; omega) w)) ?_
    refine TQ.on rfl rfl rfl ?_
    refine TQ.val rfl rfl rfl (gives_at (v := .pointer (some ⟨g, f + (2 * r + 1), none⟩)) rfl rfl rfl (fun w => at_row Try.underlying31 us2sz35 g _ _ (f + (2 * r + 1)) (by omega) rfl w)) ?_
    refine TQ.on rfl rfl rfl ?_
    refine TQ.val rfl rfl rfl (pm_loadU (k := 0) (i := f + (2 * r + 1)) rfl rfl us2ag35 rfl (by omega)) ?_
    iterate 7 (first | refine TQ.on rfl rfl rfl ?_ | refine TQ.val rfl rfl rfl (gives_move rfl rfl) ?_)
    refine TQ.val rfl rfl rfl (gives_bin rfl rfl rfl (fun w => bin_add_ (r := ((f + (2 * r + 1) : Nat) : Int)) (by simp only [IntKind.wrap_i64]; omega) w)) ?_
    refine TQ.on rfl rfl rfl ?_
    refine TQ.val rfl rfl rfl (gives_bin rfl rfl rfl (fun w => bin_add_ (r := ((f + (2 * r + 1) + 1 : Nat) : Int)) (by simp only [IntKind.wrap_i64]; omega) w)) ?_
    refine TQ.on rfl rfl rfl ?_
    refine TQ.val rfl rfl rfl (gives_at (v := .pointer (some ⟨g, f + (2 * r + 1) + 1, none⟩)) rfl rfl rfl (fun w => at_row Try.underlying31 us2sz35 g _ _ (f + (2 * r + 1) + 1) (by omega) rfl w)) ?_
    refine TQ.on rfl rfl rfl ?_
    refine TQ.val rfl rfl rfl (pm_loadU (k := 0) (i := f + (2 * r + 1) + 1) rfl rfl us2ag35 rfl (by omega)) ?_
    refine TQ.on rfl rfl rfl ?_
    refine TQ.call (v := .bool true) rfl rfl rfl rfl rfl Try.func68 us2nm68 us2bd68 (fun w1 hw => (less_t _ _ p2 w1).mono fun en w2 ⟨h1, h2⟩ => ⟨h1, hw.below h2⟩) ?_
    refine TQ.val rfl rfl rfl (gives_pick rfl rfl rfl) ?_
    exact TQ.end_
   refine TX.then_ (TC.condT rfl (TC.region ?_))
   refine TL.mv ?_
   refine TL.val rfl rfl rfl (gives_bin rfl rfl rfl (fun w => bin_add_ (r := ((2 * r + 1 + 1 : Nat) : Int)) (by simp only [IntKind.wrap_i64]; omega) w)) ?_
   refine TL.as_ ?_
   refine TL.end_ (TX.then_ (TC.seq_ (TC.seq_ ?_)))
   rcases Classical.em (dx ys (f + r) < dx ys (f + (2 * r + 1 + 1))) with p4 | p4
   ·have hmx : ∀ d, (d = 2 * r + 1 ∨ d = 2 * r + 2) → d < hi → dx ys (f + d) ≤ dx ys (f + (2 * r + 1 + 1)) := fun d hd hdh => by rcases hd with rfl | rfl <;> omega
    refine TC.quiet_ (E' := ?_) (by kernel_rfl) (by kernel_rfl) (fun w hw => hw.drawn _) ?_ ?_
    rotate_left
    ·refine TQ.val rfl rfl rfl (gives_move rfl rfl) ?_
     refine TQ.val rfl rfl rfl (gives_move rfl rfl) ?_
     refine TQ.val rfl rfl rfl (gives_move rfl rfl) ?_
     refine TQ.val rfl rfl rfl (gives_bin rfl rfl rfl (fun w => bin_add_ (r := ((f + r : Nat) : Int)) (by simp only [IntKind.wrap_i64]; omega) w)) ?_
     refine TQ.val rfl rfl rfl (gives_at (v := .pointer (some ⟨g, f + r, none⟩)) rfl rfl rfl (fun w => at_row Try.underlying31 us2sz35 g _ _ (f + r) (by omega) rfl w)) ?_
     refine TQ.val rfl rfl rfl (pm_loadU (k := 0) (i := f + r) rfl rfl us2ag35 rfl (by omega)) ?_
     refine TQ.val rfl rfl rfl (gives_move rfl rfl) ?_
     refine TQ.val rfl rfl rfl (gives_move rfl rfl) ?_
     refine TQ.val rfl rfl rfl (gives_move rfl rfl) ?_
     refine TQ.val rfl rfl rfl (gives_bin rfl rfl rfl (fun w => bin_add_ (r := ((f + (2 * r + 1 + 1) : Nat) : Int)) (by simp only [IntKind.wrap_i64]; omega) w)) ?_
     refine TQ.val rfl rfl rfl (gives_at (v := .pointer (some ⟨g, f + (2 * r + 1 + 1), none⟩)) rfl rfl rfl (fun w => at_row Try.underlying31 us2sz35 g _ _ (f + (2 * r + 1 + 1)) (by omega) rfl w)) ?_
     refine TQ.val rfl rfl rfl (pm_loadU (k := 0) (i := f + (2 * r + 1 + 1)) rfl rfl us2ag35 rfl (by omega)) ?_
     refine TQ.call (v := .bool true) rfl rfl rfl rfl rfl Try.func68 us2nm68 us2bd68 (fun w1 hw => (less_t _ _ p4 w1).mono fun en w2 ⟨h1, h2⟩ => ⟨h1, hw.below h2⟩) ?_
     refine TQ.val rfl rfl rfl (gives_boolnot rfl rfl) ?_
     exact TQ.end_
    refine TX.then_ (TC.condF rfl (TC.skip_ (TX.then_ (TC.seq_ ?_))))
    refine TC.held (ls := #[Ff,Ff,Ff,Ff,Ff,Ff,Ff,Ff,Ff,Ff,Ff,Ff,Ff,Ff,Ff,Ff,Ff,Ff,Ff,Ff,Ff,Ff,Ff,Ff]) (fun _ => True) (by kernel_rfl) rfl rfl (fun w hw => hw.drawn _) ?_
    refine TH.tk (listed' := #[Tt,Ff,Ff,Ff,Ff,Ff,Ff,Ff,Ff,Ff,Ff,Ff,Ff,Ff,Ff,Ff,Ff,Ff,Ff,Ff,Ff,Ff,Ff,Ff]) 0 rfl rfl rfl (gives_move rfl rfl) (fun _ _ => trivial) ?_
    refine TH.tk (listed' := #[Tt,Tt,Ff,Ff,Ff,Ff,Ff,Ff,Ff,Ff,Ff,Ff,Ff,Ff,Ff,Ff,Ff,Ff,Ff,Ff,Ff,Ff,Ff,Ff]) 1 rfl rfl rfl (gives_move rfl rfl) (fun _ _ => trivial) ?_
    refine TH.tk (listed' := #[Tt,Tt,Tt,Ff,Ff,Ff,Ff,Ff,Ff,Ff,Ff,Ff,Ff,Ff,Ff,Ff,Ff,Ff,Ff,Ff,Ff,Ff,Ff,Ff]) 2 rfl rfl rfl (gives_move rfl rfl) (fun _ _ => trivial) ?_
    refine TH.tk (listed' := #[Tt,Tt,Tt,Tt,Ff,Ff,Ff,Ff,Ff,Ff,Ff,Ff,Ff,Ff,Ff,Ff,Ff,Ff,Ff,Ff,Ff,Ff,Ff,Ff]) 3 rfl rfl rfl (gives_bin rfl rfl rfl (fun w => bin_add_ (r := ((f + r : Nat) : Int)) (by simp only [IntKind.wrap_i64]; omega) w)) (fun _ _ => trivial) ?_
    refine TH.tk (listed' := #[Tt,Tt,Tt,Tt,Tt,Ff,Ff,Ff,Ff,Ff,Ff,Ff,Ff,Ff,Ff,Ff,Ff,Ff,Ff,Ff,Ff,Ff,Ff,Ff]) 4 rfl rfl rfl (gives_move rfl rfl) (fun _ _ => trivial) ?_
    refine TH.tk (listed' := #[Tt,Tt,Tt,Tt,Tt,Tt,Ff,Ff,Ff,Ff,Ff,Ff,Ff,Ff,Ff,Ff,Ff,Ff,Ff,Ff,Ff,Ff,Ff,Ff]) 5 rfl rfl rfl (gives_move rfl rfl) (fun _ _ => trivial) ?_
    refine TH.tk (listed' := #[Tt,Tt,Tt,Tt,Tt,Tt,Tt,Ff,Ff,Ff,Ff,Ff,Ff,Ff,Ff,Ff,Ff,Ff,Ff,Ff,Ff,Ff,Ff,Ff]) 6 rfl rfl rfl (gives_move rfl rfl) (fun _ _ => trivial) ?_
    refine TH.tk (listed' := #[Tt,Tt,Tt,Tt,Tt,Tt,Tt,Tt,Ff,Ff,Ff,Ff,Ff,Ff,Ff,Ff,Ff,Ff,Ff,Ff,Ff,Ff,Ff,Ff]) 7 rfl rfl rfl (gives_bin rfl rfl rfl (fun w => bin_add_ (r := ((f + (2 * r + 1 + 1) : Nat) : Int)) (by simp only [IntKind.wrap_i64]; omega) w)) (fun _ _ => trivial) ?_
    refine TH.tk (listed' := #[Tt,Tt,Tt,Tt,Tt,Tt,Tt,Tt,Tt,Ff,Ff,Ff,Ff,Ff,Ff,Ff,Ff,Ff,Ff,Ff,Ff,Ff,Ff,Ff]) 8 rfl rfl rfl (gives_move rfl rfl) (fun _ _ => trivial) ?_
    refine TH.tk (listed' := #[Tt,Tt,Tt,Tt,Tt,Tt,Tt,Tt,Tt,Tt,Ff,Ff,Ff,Ff,Ff,Ff,Ff,Ff,Ff,Ff,Ff,Ff,Ff,Ff]) 9 rfl rfl rfl (gives_move rfl rfl) (fun _ _ => trivial) ?_
    refine TH.tk (listed' := #[Tt,Tt,Tt,Tt,Tt,Tt,Tt,Tt,Tt,Tt,Tt,Ff,Ff,Ff,Ff,Ff,Ff,Ff,Ff,Ff,Ff,Ff,Ff,Ff]) 10 rfl rfl rfl (gives_move rfl rfl) (fun _ _ => trivial) ?_
    refine TH.tk (listed' := #[Tt,Tt,Tt,Tt,Tt,Tt,Tt,Tt,Tt,Tt,Tt,Tt,Ff,Ff,Ff,Ff,Ff,Ff,Ff,Ff,Ff,Ff,Ff,Ff]) 11 rfl rfl rfl (gives_bin rfl rfl rfl (fun w => bin_add_ (r := ((f + (2 * r + 1 + 1) : Nat) : Int)) (by simp only [IntKind.wrap_i64]; omega) w)) (fun _ _ => trivial) ?_
    refine TH.tk (listed' := #[Tt,Tt,Tt,Tt,Tt,Tt,Tt,Tt,Tt,Tt,Tt,Tt,Tt,Ff,Ff,Ff,Ff,Ff,Ff,Ff,Ff,Ff,Ff,Ff]) 12 rfl rfl rfl (gives_at (v := .pointer (some ⟨g, f + (2 * r + 1 + 1), none⟩)) rfl rfl rfl (fun w => at_row Try.underlying31 us2sz35 g _ _ (f + (2 * r + 1 + 1)) (by omega) rfl w)) (fun _ _ => trivial) ?_
    refine TH.tk (listed' := #[Tt,Tt,Tt,Tt,Tt,Tt,Tt,Tt,Tt,Tt,Tt,Tt,Tt,Ff,Tt,Ff,Ff,Ff,Ff,Ff,Ff,Ff,Ff,Ff]) 14 rfl rfl rfl (gives_move rfl rfl) (fun _ _ => trivial) ?_
    refine TH.tk (listed' := #[Tt,Tt,Tt,Tt,Tt,Tt,Tt,Tt,Tt,Tt,Tt,Tt,Tt,Ff,Tt,Tt,Ff,Ff,Ff,Ff,Ff,Ff,Ff,Ff]) 15 rfl rfl rfl (gives_move rfl rfl) (fun _ _ => trivial) ?_
    refine TH.tk (listed' := #[Tt,Tt,Tt,Tt,Tt,Tt,Tt,Tt,Tt,Tt,Tt,Tt,Tt,Ff,Tt,Tt,Tt,Ff,Ff,Ff,Ff,Ff,Ff,Ff]) 16 rfl rfl rfl (gives_move rfl rfl) (fun _ _ => trivial) ?_
    refine TH.tk (listed' := #[Tt,Tt,Tt,Tt,Tt,Tt,Tt,Tt,Tt,Tt,Tt,Tt,Tt,Ff,Tt,Tt,Tt,Tt,Ff,Ff,Ff,Ff,Ff,Ff]) 17 rfl rfl rfl (gives_bin rfl rfl rfl (fun w => bin_add_ (r := ((f + r : Nat) : Int)) (by simp only [IntKind.wrap_i64]; omega) w)) (fun _ _ => trivial) ?_
    refine TH.tk (listed' := #[Tt,Tt,Tt,Tt,Tt,Tt,Tt,Tt,Tt,Tt,Tt,Tt,Tt,Ff,Tt,Tt,Tt,Tt,Tt,Ff,Ff,Ff,Ff,Ff]) 18 rfl rfl rfl (gives_at (v := .pointer (some ⟨g, f + r, none⟩)) rfl rfl rfl (fun w => at_row Try.underlying31 us2sz35 g _ _ (f + r) (by omega) rfl w)) (fun _ _ => trivial) ?_
    refine TH.two' (listed1 := #[Tt,Tt,Tt,Tt,Tt,Tt,Tt,Tt,Tt,Tt,Tt,Tt,Tt,Tt,Tt,Tt,Tt,Tt,Tt,Ff,Ff,Ff,Ff,Ff]) (listed2 := #[Tt,Tt,Tt,Tt,Tt,Tt,Tt,Tt,Tt,Tt,Tt,Tt,Tt,Ff,Tt,Tt,Tt,Tt,Tt,Tt,Ff,Ff,Ff,Ff]) 13 19 rfl rfl (by kernel_rfl) rfl rfl ?_ ?_
    ·refine TL.val rfl rfl rfl (pm_loadU (k := 0) (i := f + (2 * r + 1 + 1)) rfl rfl us2ag35 rfl (by omega)) ?_
     refine TL.end_ ?_
     refine TX.held (fun _ _ => trivial) ?_
     refine TH.only' (listed' := #[Tt,Tt,Tt,Tt,Tt,Tt,Tt,Tt,Tt,Tt,Tt,Tt,Tt,Tt,Tt,Tt,Tt,Tt,Tt,Tt,Ff,Ff,Ff,Ff]) 19 rfl (by kernel_rfl) rfl ?_
     refine TL.val rfl rfl rfl (pm_loadU (k := 0) (i := f + r) rfl rfl us2ag35 rfl (by omega)) ?_
     refine TL.end_ ?_
     refine TX.held (fun _ _ => trivial) ?_
     refine TH.tk (listed' := #[Tt,Tt,Tt,Tt,Tt,Tt,Tt,Tt,Tt,Tt,Tt,Tt,Tt,Tt,Tt,Tt,Tt,Tt,Tt,Tt,Tt,Ff,Ff,Ff]) 20 rfl rfl rfl (gives_at (v := .pointer (some ⟨g, f + r, none⟩)) rfl rfl rfl (fun w => at_row Try.underlying31 us2sz35 g _ _ (f + r) (by omega) rfl w)) (fun _ _ => trivial) ?_
     refine TH.only' (listed' := #[Tt,Tt,Tt,Tt,Tt,Tt,Tt,Tt,Tt,Tt,Tt,Tt,Tt,Tt,Tt,Tt,Tt,Tt,Tt,Tt,Tt,Tt,Ff,Ff]) 21 rfl (by kernel_rfl) rfl ?_
     refine TL.uset (k := 0) (i := f + r) rfl rfl rfl rfl rfl rfl us2sz35 (by omega) ?_
     refine TL.end_ ?_
     refine TX.held (fun _ _ => trivial) ?_
     refine TH.tk (listed' := #[Tt,Tt,Tt,Tt,Tt,Tt,Tt,Tt,Tt,Tt,Tt,Tt,Tt,Tt,Tt,Tt,Tt,Tt,Tt,Tt,Tt,Tt,Tt,Ff]) 22 rfl rfl rfl (gives_at (v := .pointer (some ⟨g, f + (2 * r + 1 + 1), none⟩)) rfl rfl rfl (fun w => at_row Try.underlying31 us2sz35 g _ _ (f + (2 * r + 1 + 1)) (by omega) rfl w)) (fun _ _ => trivial) ?_
     refine TH.only' (listed' := #[Tt,Tt,Tt,Tt,Tt,Tt,Tt,Tt,Tt,Tt,Tt,Tt,Tt,Tt,Tt,Tt,Tt,Tt,Tt,Tt,Tt,Tt,Tt,Tt]) 23 rfl (by kernel_rfl) rfl ?_
     refine TL.uset (k := 0) (i := f + (2 * r + 1 + 1)) rfl rfl rfl rfl rfl rfl us2sz35 (by rw [List.length_set]; omega) ?_
     refine TL.end_ ?_
     refine TX.held (fun _ _ => trivial) ?_
     refine TH.done (by kernel_rfl) ?_
     refine TX.then_ (TC.region ?_)
     refine TL.mv ?_
     refine TL.as_ ?_
     refine TL.end_ (TX.in_normal ?_)
     exact TX.round (⟨(2 * r + 1 + 1, swp ys (f + r) (f + (2 * r + 1 + 1))), hS.down (by omega) (by omega) (by omega) p4 hmx, by dsimp only; omega, hP.swap (by omega) (by omega) (by omega) (by omega) (by omega), by rw [swp_len]; exact hly⟩) (by dsimp only; omega) ⟨rfl, rfl, rfl, rfl, trivial⟩ (fun w1 hw => hw)
    ·refine TL.val rfl rfl rfl (pm_loadU (k := 0) (i := f + r) rfl rfl us2ag35 rfl (by omega)) ?_
     refine TL.end_ ?_
     refine TX.held (fun _ _ => trivial) ?_
     refine TH.only' (listed' := #[Tt,Tt,Tt,Tt,Tt,Tt,Tt,Tt,Tt,Tt,Tt,Tt,Tt,Tt,Tt,Tt,Tt,Tt,Tt,Tt,Ff,Ff,Ff,Ff]) 13 rfl (by kernel_rfl) rfl ?_
     refine TL.val rfl rfl rfl (pm_loadU (k := 0) (i := f + (2 * r + 1 + 1)) rfl rfl us2ag35 rfl (by omega)) ?_
     refine TL.end_ ?_
     refine TX.held (fun _ _ => trivial) ?_
     refine TH.tk (listed' := #[Tt,Tt,Tt,Tt,Tt,Tt,Tt,Tt,Tt,Tt,Tt,Tt,Tt,Tt,Tt,Tt,Tt,Tt,Tt,Tt,Tt,Ff,Ff,Ff]) 20 rfl rfl rfl (gives_at (v := .pointer (some ⟨g, f + r, none⟩)) rfl rfl rfl (fun w => at_row Try.underlying31 us2sz35 g _ _ (f + r) (by omega) rfl w)) (fun _ _ => trivial) ?_
     refine TH.only' (listed' := #[Tt,Tt,Tt,Tt,Tt,Tt,Tt,Tt,Tt,Tt,Tt,Tt,Tt,Tt,Tt,Tt,Tt,Tt,Tt,Tt,Tt,Tt,Ff,Ff]) 21 rfl (by kernel_rfl) rfl ?_
     refine TL.uset (k := 0) (i := f + r) rfl rfl rfl rfl rfl rfl us2sz35 (by omega) ?_
     refine TL.end_ ?_
     refine TX.held (fun _ _ => trivial) ?_
     refine TH.tk (listed' := #[Tt,Tt,Tt,Tt,Tt,Tt,Tt,Tt,Tt,Tt,Tt,Tt,Tt,Tt,Tt,Tt,Tt,Tt,Tt,Tt,Tt,Tt,Tt,Ff]) 22 rfl rfl rfl (gives_at (v := .pointer (some ⟨g, f + (2 * r + 1 + 1), none⟩)) rfl rfl rfl (fun w => at_row Try.underlying31 us2sz35 g _ _ (f + (2 * r + 1 + 1)) (by omega) rfl w)) (fun _ _ => trivial) ?_
     refine TH.only' (listed' := #[Tt,Tt,Tt,Tt,Tt,Tt,Tt,Tt,Tt,Tt,Tt,Tt,Tt,Tt,Tt,Tt,Tt,Tt,Tt,Tt,Tt,Tt,Tt,Tt]) 23 rfl (by kernel_rfl) rfl ?_
     refine TL.uset (k := 0) (i := f + (2 * r + 1 + 1)) rfl rfl rfl rfl rfl rfl us2sz35 (by rw [List.length_set]; omega) ?_
     refine TL.end_ ?_
     refine TX.held (fun _ _ => trivial) ?_
     refine TH.done (by kernel_rfl) ?_
     refine TX.then_ (TC.region ?_)
     refine TL.mv ?_
     refine TL.as_ ?_
     refine TL.end_ (TX.in_normal ?_)
     exact TX.round (⟨(2 * r + 1 + 1, swp ys (f + r) (f + (2 * r + 1 + 1))), hS.down (by omega) (by omega) (by omega) p4 hmx, by dsimp only; omega, hP.swap (by omega) (by omega) (by omega) (by omega) (by omega), by rw [swp_len]; exact hly⟩) (by dsimp only; omega) ⟨rfl, rfl, rfl, rfl, trivial⟩ (fun w1 hw => hw)
   ·have hH : Hp f lo hi ys := hS.stop (fun d hd hdh => by rcases hd with rfl | rfl <;> omega)
    refine TC.quiet_ (E' := ?_) (by kernel_rfl) (by kernel_rfl) (fun w hw => hw.drawn _) ?_ ?_
    rotate_left
    ·refine TQ.val rfl rfl rfl (gives_move rfl rfl) ?_
     refine TQ.val rfl rfl rfl (gives_move rfl rfl) ?_
     refine TQ.val rfl rfl rfl (gives_move rfl rfl) ?_
     refine TQ.val rfl rfl rfl (gives_bin rfl rfl rfl (fun w => bin_add_ (r := ((f + r : Nat) : Int)) (by simp only [IntKind.wrap_i64]; omega) w)) ?_
     refine TQ.val rfl rfl rfl (gives_at (v := .pointer (some ⟨g, f + r, none⟩)) rfl rfl rfl (fun w => at_row Try.underlying31 us2sz35 g _ _ (f + r) (by omega) rfl w)) ?_
     refine TQ.val rfl rfl rfl (pm_loadU (k := 0) (i := f + r) rfl rfl us2ag35 rfl (by omega)) ?_
     refine TQ.val rfl rfl rfl (gives_move rfl rfl) ?_
     refine TQ.val rfl rfl rfl (gives_move rfl rfl) ?_
     refine TQ.val rfl rfl rfl (gives_move rfl rfl) ?_
     refine TQ.val rfl rfl rfl (gives_bin rfl rfl rfl (fun w => bin_add_ (r := ((f + (2 * r + 1 + 1) : Nat) : Int)) (by simp only [IntKind.wrap_i64]; omega) w)) ?_
     refine TQ.val rfl rfl rfl (gives_at (v := .pointer (some ⟨g, f + (2 * r + 1 + 1), none⟩)) rfl rfl rfl (fun w => at_row Try.underlying31 us2sz35 g _ _ (f + (2 * r + 1 + 1)) (by omega) rfl w)) ?_
     refine TQ.val rfl rfl rfl (pm_loadU (k := 0) (i := f + (2 * r + 1 + 1)) rfl rfl us2ag35 rfl (by omega)) ?_
     refine TQ.call (v := .bool false) rfl rfl rfl rfl rfl Try.func68 us2nm68 us2bd68 (fun w1 hw => (less_f _ _ p4 w1).mono fun en w2 ⟨h1, h2⟩ => ⟨h1, hw.below h2⟩) ?_
     refine TQ.val rfl rfl rfl (gives_boolnot rfl rfl) ?_
     exact TQ.end_
    refine TX.then_ (TC.condT rfl (TC.ret_ (TX.then_ret (TX.in_ret (TX.then_ret (TX.in_ret ?_))))))
    exact ret_none Try.results73 (fun w1 hw => ⟨(), ys, rfl, ⟨hP, hH⟩, pm_rowAt hw (k := 0) rfl, hw.mapEnd (fun q hq => by simp [hq])⟩)
  ·have p3 : ¬ dx ys (f + (2 * r + 1)) < dx ys (f + (2 * r + 2)) := p2
   refine TC.quiet_ (E' := ?_) (by kernel_rfl) (by kernel_rfl) (fun w hw => hw.drawn _) ?_ ?_
   rotate_left
   ·refine TQ.val rfl rfl rfl (gives_move rfl rfl) ?_
    refine TQ.val rfl rfl rfl (gives_bin rfl rfl rfl (fun w => bin_add_ (r := ((2 * r + 1 + 1 : Nat) : Int)) (by simp only [IntKind.wrap_i64]; omega) w)) ?_
    refine TQ.val rfl rfl rfl (gives_move rfl rfl) ?_
    refine TQ.val rfl rfl rfl (gives_bin rfl rfl rfl (fun w => bin_lss_t (by omega) w)) ?_
    iterate 8 (first | refine TQ.val rfl rfl rfl (gives_move rfl rfl) ?_ | refine TQ.on rfl rfl rfl ?_)
    refine TQ.val rfl rfl rfl (gives_bin rfl rfl rfl (fun w => bin_add_ (r := ((f + (2 * r + 1) : Nat) : Int)) (by simp only [IntKind.wrap_i64]; omega) w)) ?_
    refine TQ.on rfl rfl rfl ?_
    refine TQ.val rfl rfl rfl (gives_at (v := .pointer (some ⟨g, f + (2 * r + 1), none⟩)) rfl rfl rfl (fun w => at_row Try.underlying31 us2sz35 g _ _ (f + (2 * r + 1)) (by omega) rfl w)) ?_
    refine TQ.on rfl rfl rfl ?_
    refine TQ.val rfl rfl rfl (pm_loadU (k := 0) (i := f + (2 * r + 1)) rfl rfl us2ag35 rfl (by omega)) ?_
    iterate 7 (first | refine TQ.on rfl rfl rfl ?_ | refine TQ.val rfl rfl rfl (gives_move rfl rfl) ?_)
    refine TQ.val rfl rfl rfl (gives_bin rfl rfl rfl (fun w => bin_add_ (r := ((f + (2 * r + 1) : Nat) : Int)) (by simp only [IntKind.wrap_i64]; omega) w)) ?_
    refine TQ.on rfl rfl rfl ?_
    refine TQ.val rfl rfl rfl (gives_bin rfl rfl rfl (fun w => bin_add_ (r := ((f + (2 * r + 1) + 1 : Nat) : Int)) (by simp only [IntKind.wrap_i64]; omega) w)) ?_
    refine TQ.on rfl rfl rfl ?_
    refine TQ.val rfl rfl rfl (gives_at (v := .pointer (some ⟨g, f + (2 * r + 1) + 1, none⟩)) rfl rfl rfl (fun w => at_row Try.underlying31 us2sz35 g _ _ (f + (2 * r + 1) + 1) (by omega) rfl w)) ?_
    refine TQ.on rfl rfl rfl ?_
    refine TQ.val rfl rfl rfl (pm_loadU (k := 0) (i := f + (2 * r + 1) + 1) rfl rfl us2ag35 rfl (by omega)) ?_
    refine TQ.on rfl rfl rfl ?_
    refine TQ.call (v := .bool false) rfl rfl rfl rfl rfl Try.func68 us2nm68 us2bd68 (fun w1 hw => (less_f _ _ p2 w1).mono fun en w2 ⟨h1, h2⟩ => ⟨h1, hw.below h2⟩) ?_
    refine TQ.val rfl rfl rfl (gives_pick rfl rfl rfl) ?_
    exact TQ.end_
   refine TX.then_ (TC.condF rfl (TC.skip_ (TX.then_ (TC.seq_ (TC.seq_ ?_)))))
   rcases Classical.em (dx ys (f + r) < dx ys (f + (2 * r + 1))) with p4 | p4
   ·have hmx : ∀ d, (d = 2 * r + 1 ∨ d = 2 * r + 2) → d < hi → dx ys (f + d) ≤ dx ys (f + (2 * r + 1)) := fun d hd hdh => by rcases hd with rfl | rfl <;> omega
    refine TC.quiet_ (E' := ?_) (by kernel_rfl) (by kernel_rfl) (fun w hw => hw.drawn _) ?_ ?_
    rotate_left
    ·refine TQ.val rfl rfl rfl (gives_move rfl rfl) ?_
     refine TQ.val rfl rfl rfl (gives_move rfl rfl) ?_
     refine TQ.val rfl rfl rfl (gives_move rfl rfl) ?_
     refine TQ.val rfl rfl rfl (gives_bin rfl rfl rfl (fun w => bin_add_ (r := ((f + r : Nat) : Int)) (by simp only [IntKind.wrap_i64]; omega) w)) ?_
     refine TQ.val rfl rfl rfl (gives_at (v := .pointer (some ⟨g, f + r, none⟩)) rfl rfl rfl (fun w => at_row Try.underlying31 us2sz35 g _ _ (f + r) (by omega) rfl w)) ?_
     refine TQ.val rfl rfl rfl (pm_loadU (k := 0) (i := f + r) rfl rfl us2ag35 rfl (by omega)) ?_
     refine TQ.val rfl rfl rfl (gives_move rfl rfl) ?_
     refine TQ.val rfl rfl rfl (gives_move rfl rfl) ?_
     refine TQ.val rfl rfl rfl (gives_move rfl rfl) ?_
     refine TQ.val rfl rfl rfl (gives_bin rfl rfl rfl (fun w => bin_add_ (r := ((f + (2 * r + 1) : Nat) : Int)) (by simp only [IntKind.wrap_i64]; omega) w)) ?_
     refine TQ.val rfl rfl rfl (gives_at (v := .pointer (some ⟨g, f + (2 * r + 1), none⟩)) rfl rfl rfl (fun w => at_row Try.underlying31 us2sz35 g _ _ (f + (2 * r + 1)) (by omega) rfl w)) ?_
     refine TQ.val rfl rfl rfl (pm_loadU (k := 0) (i := f + (2 * r + 1)) rfl rfl us2ag35 rfl (by omega)) ?_
     refine TQ.call (v := .bool true) rfl rfl rfl rfl rfl Try.func68 us2nm68 us2bd68 (fun w1 hw => (less_t _ _ p4 w1).mono fun en w2 ⟨h1, h2⟩ => ⟨h1, hw.below h2⟩) ?_
     refine TQ.val rfl rfl rfl (gives_boolnot rfl rfl) ?_
     exact TQ.end_
    refine TX.then_ (TC.condF rfl (TC.skip_ (TX.then_ (TC.seq_ ?_))))
    refine TC.held (ls := #[Ff,Ff,Ff,Ff,Ff,Ff,Ff,Ff,Ff,Ff,Ff,Ff,Ff,Ff,Ff,Ff,Ff,Ff,Ff,Ff,Ff,Ff,Ff,Ff]) (fun _ => True) (by kernel_rfl) rfl rfl (fun w hw => hw.drawn _) ?_
    refine TH.tk (listed' := #[Tt,Ff,Ff,Ff,Ff,Ff,Ff,Ff,Ff,Ff,Ff,Ff,Ff,Ff,Ff,Ff,Ff,Ff,Ff,Ff,Ff,Ff,Ff,Ff]) 0 rfl rfl rfl (gives_move rfl rfl) (fun _ _ => trivial) ?_
    refine TH.tk (listed' := #[Tt,Tt,Ff,Ff,Ff,Ff,Ff,Ff,Ff,Ff,Ff,Ff,Ff,Ff,Ff,Ff,Ff,Ff,Ff,Ff,Ff,Ff,Ff,Ff]) 1 rfl rfl rfl (gives_move rfl rfl) (fun _ _ => trivial) ?_
    refine TH.tk (listed' := #[Tt,Tt,Tt,Ff,Ff,Ff,Ff,Ff,Ff,Ff,Ff,Ff,Ff,Ff,Ff,Ff,Ff,Ff,Ff,Ff,Ff,Ff,Ff,Ff]) 2 rfl rfl rfl (gives_move rfl rfl) (fun _ _ => trivial) ?_
    refine TH.tk (listed' := #[Tt,Tt,Tt,Tt,Ff,Ff,Ff,Ff,Ff,Ff,Ff,Ff,Ff,Ff,Ff,Ff,Ff,Ff,Ff,Ff,Ff,Ff,Ff,Ff]) 3 rfl rfl rfl (gives_bin rfl rfl rfl (fun w => bin_add_ (r := ((f + r : Nat) : Int)) (by simp only [IntKind.wrap_i64]; omega) w)) (fun _ _ => trivial) ?_
    refine TH.tk (listed' := #[Tt,Tt,Tt,Tt,Tt,Ff,Ff,Ff,Ff,Ff,Ff,Ff,Ff,Ff,Ff,Ff,Ff,Ff,Ff,Ff,Ff,Ff,Ff,Ff]) 4 rfl rfl rfl (gives_move rfl rfl) (fun _ _ => trivial) ?_
    refine TH.tk (listed' := #[Tt,Tt,Tt,Tt,Tt,Tt,Ff,Ff,Ff,Ff,Ff,Ff,Ff,Ff,Ff,Ff,Ff,Ff,Ff,Ff,Ff,Ff,Ff,Ff]) 5 rfl rfl rfl (gives_move rfl rfl) (fun _ _ => trivial) ?_
    refine TH.tk (listed' := #[Tt,Tt,Tt,Tt,Tt,Tt,Tt,Ff,Ff,Ff,Ff,Ff,Ff,Ff,Ff,Ff,Ff,Ff,Ff,Ff,Ff,Ff,Ff,Ff]) 6 rfl rfl rfl (gives_move rfl rfl) (fun _ _ => trivial) ?_
    refine TH.tk (listed' := #[Tt,Tt,Tt,Tt,Tt,Tt,Tt,Tt,Ff,Ff,Ff,Ff,Ff,Ff,Ff,Ff,Ff,Ff,Ff,Ff,Ff,Ff,Ff,Ff]) 7 rfl rfl rfl (gives_bin rfl rfl rfl (fun w => bin_add_ (r := ((f + (2 * r + 1) : Nat) : Int)) (by simp only [IntKind.wrap_i64]; omega) w)) (fun _ _ => trivial) ?_
    refine TH.tk (listed' := #[Tt,Tt,Tt,Tt,Tt,Tt,Tt,Tt,Tt,Ff,Ff,Ff,Ff,Ff,Ff,Ff,Ff,Ff,Ff,Ff,Ff,Ff,Ff,Ff]) 8 rfl rfl rfl (gives_move rfl rfl) (fun _ _ => trivial) ?_
    refine TH.tk (listed' := #[Tt,Tt,Tt,Tt,Tt,Tt,Tt,Tt,Tt,Tt,Ff,Ff,Ff,Ff,Ff,Ff,Ff,Ff,Ff,Ff,Ff,Ff,Ff,Ff]) 9 rfl rfl rfl (gives_move rfl rfl) (fun _ _ => trivial) ?_
    refine TH.tk (listed' := #[Tt,Tt,Tt,Tt,Tt,Tt,Tt,Tt,Tt,Tt,Tt,Ff,Ff,Ff,Ff,Ff,Ff,Ff,Ff,Ff,Ff,Ff,Ff,Ff]) 10 rfl rfl rfl (gives_move rfl rfl) (fun _ _ => trivial) ?_
    refine TH.tk (listed' := #[Tt,Tt,Tt,Tt,Tt,Tt,Tt,Tt,Tt,Tt,Tt,Tt,Ff,Ff,Ff,Ff,Ff,Ff,Ff,Ff,Ff,Ff,Ff,Ff]) 11 rfl rfl rfl (gives_bin rfl rfl rfl (fun w => bin_add_ (r := ((f + (2 * r + 1) : Nat) : Int)) (by simp only [IntKind.wrap_i64]; omega) w)) (fun _ _ => trivial) ?_
    refine TH.tk (listed' := #[Tt,Tt,Tt,Tt,Tt,Tt,Tt,Tt,Tt,Tt,Tt,Tt,Tt,Ff,Ff,Ff,Ff,Ff,Ff,Ff,Ff,Ff,Ff,Ff]) 12 rfl rfl rfl (gives_at (v := .pointer (some ⟨g, f + (2 * r + 1), none⟩)) rfl rfl rfl (fun w => at_row Try.underlying31 us2sz35 g _ _ (f + (2 * r + 1)) (by omega) rfl w)) (fun _ _ => trivial) ?_
    refine TH.tk (listed' := #[Tt,Tt,Tt,Tt,Tt,Tt,Tt,Tt,Tt,Tt,Tt,Tt,Tt,Ff,Tt,Ff,Ff,Ff,Ff,Ff,Ff,Ff,Ff,Ff]) 14 rfl rfl rfl (gives_move rfl rfl) (fun _ _ => trivial) ?_
    refine TH.tk (listed' := #[Tt,Tt,Tt,Tt,Tt,Tt,Tt,Tt,Tt,Tt,Tt,Tt,Tt,Ff,Tt,Tt,Ff,Ff,Ff,Ff,Ff,Ff,Ff,Ff]) 15 rfl rfl rfl (gives_move rfl rfl) (fun _ _ => trivial) ?_
    refine TH.tk (listed' := #[Tt,Tt,Tt,Tt,Tt,Tt,Tt,Tt,Tt,Tt,Tt,Tt,Tt,Ff,Tt,Tt,Tt,Ff,Ff,Ff,Ff,Ff,Ff,Ff]) 16 rfl rfl rfl (gives_move rfl rfl) (fun _ _ => trivial) ?_
    refine TH.tk (listed' := #[Tt,Tt,Tt,Tt,Tt,Tt,Tt,Tt,Tt,Tt,Tt,Tt,Tt,Ff,Tt,Tt,Tt,Tt,Ff,Ff,Ff,Ff,Ff,Ff]) 17 rfl rfl rfl (gives_bin rfl rfl rfl (fun w => bin_add_ (r := ((f + r : Nat) : Int)) (by simp only [IntKind.wrap_i64]; omega) w)) (fun _ _ => trivial) ?_
    refine TH.tk (listed' := #[Tt,Tt,Tt,Tt,Tt,Tt,Tt,Tt,Tt,Tt,Tt,Tt,Tt,Ff,Tt,Tt,Tt,Tt,Tt,Ff,Ff,Ff,Ff,Ff]) 18 rfl rfl rfl (gives_at (v := .pointer (some ⟨g, f + r, none⟩)) rfl rfl rfl (fun w => at_row Try.underlying31 us2sz35 g _ _ (f + r) (by omega) rfl w)) (fun _ _ => trivial) ?_
    refine TH.two' (listed1 := #[Tt,Tt,Tt,Tt,Tt,Tt,Tt,Tt,Tt,Tt,Tt,Tt,Tt,Tt,Tt,Tt,Tt,Tt,Tt,Ff,Ff,Ff,Ff,Ff]) (listed2 := #[Tt,Tt,Tt,Tt,Tt,Tt,Tt,Tt,Tt,Tt,Tt,Tt,Tt,Ff,Tt,Tt,Tt,Tt,Tt,Tt,Ff,Ff,Ff,Ff]) 13 19 rfl rfl (by kernel_rfl) rfl rfl ?_ ?_
    ·refine TL.val rfl rfl rfl (pm_loadU (k := 0) (i := f + (2 * r + 1)) rfl rfl us2ag35 rfl (by omega)) ?_
     refine TL.end_ ?_
     refine TX.held (fun _ _ => trivial) ?_
     refine TH.only' (listed' := #[Tt,Tt,Tt,Tt,Tt,Tt,Tt,Tt,Tt,Tt,Tt,Tt,Tt,Tt,Tt,Tt,Tt,Tt,Tt,Tt,Ff,Ff,Ff,Ff]) 19 rfl (by kernel_rfl) rfl ?_
     refine TL.val rfl rfl rfl (pm_loadU (k := 0) (i := f + r) rfl rfl us2ag35 rfl (by omega)) ?_
     refine TL.end_ ?_
     refine TX.held (fun _ _ => trivial) ?_
     refine TH.tk (listed' := #[Tt,Tt,Tt,Tt,Tt,Tt,Tt,Tt,Tt,Tt,Tt,Tt,Tt,Tt,Tt,Tt,Tt,Tt,Tt,Tt,Tt,Ff,Ff,Ff]) 20 rfl rfl rfl (gives_at (v := .pointer (some ⟨g, f + r, none⟩)) rfl rfl rfl (fun w => at_row Try.underlying31 us2sz35 g _ _ (f + r) (by omega) rfl w)) (fun _ _ => trivial) ?_
     refine TH.only' (listed' := #[Tt,Tt,Tt,Tt,Tt,Tt,Tt,Tt,Tt,Tt,Tt,Tt,Tt,Tt,Tt,Tt,Tt,Tt,Tt,Tt,Tt,Tt,Ff,Ff]) 21 rfl (by kernel_rfl) rfl ?_
     refine TL.uset (k := 0) (i := f + r) rfl rfl rfl rfl rfl rfl us2sz35 (by omega) ?_
     refine TL.end_ ?_
     refine TX.held (fun _ _ => trivial) ?_
     refine TH.tk (listed' := #[Tt,Tt,Tt,Tt,Tt,Tt,Tt,Tt,Tt,Tt,Tt,Tt,Tt,Tt,Tt,Tt,Tt,Tt,Tt,Tt,Tt,Tt,Tt,Ff]) 22 rfl rfl rfl (gives_at (v := .pointer (some ⟨g, f + (2 * r + 1), none⟩)) rfl rfl rfl (fun w => at_row Try.underlying31 us2sz35 g _ _ (f + (2 * r + 1)) (by omega) rfl w)) (fun _ _ => trivial) ?_
     refine TH.only' (listed' := #[Tt,Tt,Tt,Tt,Tt,Tt,Tt,Tt,Tt,Tt,Tt,Tt,Tt,Tt,Tt,Tt,Tt,Tt,Tt,Tt,Tt,Tt,Tt,Tt]) 23 rfl (by kernel_rfl) rfl ?_
     refine TL.uset (k := 0) (i := f + (2 * r + 1)) rfl rfl rfl rfl rfl rfl us2sz35 (by rw [List.length_set]; omega) ?_
     refine TL.end_ ?_
     refine TX.held (fun _ _ => trivial) ?_
     refine TH.done (by kernel_rfl) ?_
     refine TX.then_ (TC.region ?_)
     refine TL.mv ?_
     refine TL.as_ ?_
     refine TL.end_ (TX.in_normal ?_)
     exact TX.round (⟨(2 * r + 1, swp ys (f + r) (f + (2 * r + 1))), hS.down (by omega) (by omega) (by omega) p4 hmx, by dsimp only; omega, hP.swap (by omega) (by omega) (by omega) (by omega) (by omega), by rw [swp_len]; exact hly⟩) (by dsimp only; omega) ⟨rfl, rfl, rfl, rfl, trivial⟩ (fun w1 hw => hw)
    ·refine TL.val rfl rfl rfl (pm_loadU (k := 0) (i := f + r) rfl rfl us2ag35 rfl (by omega)) ?_
     refine TL.end_ ?_
     refine TX.held (fun _ _ => trivial) ?_
     refine TH.only' (listed' := #[Tt,Tt,Tt,Tt,Tt,Tt,Tt,Tt,Tt,Tt,Tt,Tt,Tt,Tt,Tt,Tt,Tt,Tt,Tt,Tt,Ff,Ff,Ff,Ff]) 13 rfl (by kernel_rfl) rfl ?_
     refine TL.val rfl rfl rfl (pm_loadU (k := 0) (i := f + (2 * r + 1)) rfl rfl us2ag35 rfl (by omega)) ?_
     refine TL.end_ ?_
     refine TX.held (fun _ _ => trivial) ?_
     refine TH.tk (listed' := #[Tt,Tt,Tt,Tt,Tt,Tt,Tt,Tt,Tt,Tt,Tt,Tt,Tt,Tt,Tt,Tt,Tt,Tt,Tt,Tt,Tt,Ff,Ff,Ff]) 20 rfl rfl rfl (gives_at (v := .pointer (some ⟨g, f + r, none⟩)) rfl rfl rfl (fun w => at_row Try.underlying31 us2sz35 g _ _ (f + r) (by omega) rfl w)) (fun _ _ => trivial) ?_
     refine TH.only' (listed' := #[Tt,Tt,Tt,Tt,Tt,Tt,Tt,Tt,Tt,Tt,Tt,Tt,Tt,Tt,Tt,Tt,Tt,Tt,Tt,Tt,Tt,Tt,Ff,Ff]) 21 rfl (by kernel_rfl) rfl ?_
     refine TL.uset (k := 0) (i := f + r) rfl rfl rfl rfl rfl rfl us2sz35 (by omega) ?_
     refine TL.end_ ?_
     refine TX.held (fun _ _ => trivial) ?_
     refine TH.tk (listed' := #[Tt,Tt,Tt,Tt,Tt,Tt,Tt,Tt,Tt,Tt,Tt,Tt,Tt,Tt,Tt,Tt,Tt,Tt,Tt,Tt,Tt,Tt,Tt,Ff]) 22 rfl rfl rfl (gives_at (v := .pointer (some ⟨g, f + (2 * r + 1), none⟩)) rfl rfl rfl (fun w => at_row Try.underlying31 us2sz35 g _ _ (f + (2 * r + 1)) (by omega) rfl w)) (fun _ _ => trivial) ?_
     refine TH.only' (listed' := #[Tt,Tt,Tt,Tt,Tt,Tt,Tt,Tt,Tt,Tt,Tt,Tt,Tt,Tt,Tt,Tt,Tt,Tt,Tt,Tt,Tt,Tt,Tt,Tt]) 23 rfl (by kernel_rfl) rfl ?_
     refine TL.uset (k := 0) (i := f + (2 * r + 1)) rfl rfl rfl rfl rfl rfl us2sz35 (by rw [List.length_set]; omega) ?_
     refine TL.end_ ?_
     refine TX.held (fun _ _ => trivial) ?_
     refine TH.done (by kernel_rfl) ?_
     refine TX.then_ (TC.region ?_)
     refine TL.mv ?_
     refine TL.as_ ?_
     refine TL.end_ (TX.in_normal ?_)
     exact TX.round (⟨(2 * r + 1, swp ys (f + r) (f + (2 * r + 1))), hS.down (by omega) (by omega) (by omega) p4 hmx, by dsimp only; omega, hP.swap (by omega) (by omega) (by omega) (by omega) (by omega), by rw [swp_len]; exact hly⟩) (by dsimp only; omega) ⟨rfl, rfl, rfl, rfl, trivial⟩ (fun w1 hw => hw)
   ·have hH : Hp f lo hi ys := hS.stop (fun d hd hdh => by rcases hd with rfl | rfl <;> omega)
    refine TC.quiet_ (E' := ?_) (by kernel_rfl) (by kernel_rfl) (fun w hw => hw.drawn _) ?_ ?_
    rotate_left
    ·refine TQ.val rfl rfl rfl (gives_move rfl rfl) ?_
     refine TQ.val rfl rfl rfl (gives_move rfl rfl) ?_
     refine TQ.val rfl rfl rfl (gives_move rfl rfl) ?_
     refine TQ.val rfl rfl rfl (gives_bin rfl rfl rfl (fun w => bin_add_ (r := ((f + r : Nat) : Int)) (by simp only [IntKind.wrap_i64]; omega) w)) ?_
     refine TQ.val rfl rfl rfl (gives_at (v := .pointer (some ⟨g, f + r, none⟩)) rfl rfl rfl (fun w => at_row Try.underlying31 us2sz35 g _ _ (f + r) (by omega) rfl w)) ?_
     refine TQ.val rfl rfl rfl (pm_loadU (k := 0) (i := f + r) rfl rfl us2ag35 rfl (by omega)) ?_
     refine TQ.val rfl rfl rfl (gives_move rfl rfl) ?_
     refine TQ.val rfl rfl rfl (gives_move rfl rfl) ?_
     refine TQ.val rfl rfl rfl (gives_move rfl rfl) ?_
     refine TQ.val rfl rfl rfl (gives_bin rfl rfl rfl (fun w => bin_add_ (r := ((f + (2 * r + 1) : Nat) : Int)) (by simp only [IntKind.wrap_i64]; omega) w)) ?_
     refine TQ.val rfl rfl rfl (gives_at (v := .pointer (some ⟨g, f + (2 * r + 1), none⟩)) rfl rfl rfl (fun w => at_row Try.underlying31 us2sz35 g _ _ (f + (2 * r + 1)) (by omega) rfl w)) ?_
     refine TQ.val rfl rfl rfl (pm_loadU (k := 0) (i := f + (2 * r + 1)) rfl rfl us2ag35 rfl (by omega)) ?_
     refine TQ.call (v := .bool false) rfl rfl rfl rfl rfl Try.func68 us2nm68 us2bd68 (fun w1 hw => (less_f _ _ p4 w1).mono fun en w2 ⟨h1, h2⟩ => ⟨h1, hw.below h2⟩) ?_
     refine TQ.val rfl rfl rfl (gives_boolnot rfl rfl) ?_
     exact TQ.end_
    refine TX.then_ (TC.condT rfl (TC.ret_ (TX.then_ret (TX.in_ret (TX.then_ret (TX.in_ret ?_))))))
    exact ret_none Try.results73 (fun w1 hw => ⟨(), ys, rfl, ⟨hP, hH⟩, pm_rowAt hw (k := 0) rfl, hw.mapEnd (fun q hq => by simp [hq])⟩)
set_option maxHeartbeats 1000000 in
theorem heap_any (g n c : Nat) (xs : List Int) (w : World) (h : Rw 35 w g n c xs) (hn : n ≤ 1000000) (a b : Nat) (hab : a < b) (hb : b ≤ n) :
  Calls Try.prog 63 #[.slice (some ⟨g, 0, none⟩) n c, .int .i64 ((a : Nat) : Int), .int .i64 ((b : Nat) : Int)] w (RC (α := Unit) (fun _ => .tuple #[]) (fun _ ys => Pin a b xs ys ∧ Srt a b ys) 35 g n c w) := by
 have hl := h.len
 refine begin_ (vs := [.slice (some ⟨g, 0, none⟩) n c, .int .i64 ((a : Nat) : Int), .int .i64 ((b : Nat) : Int)]) (I := Pm ⟨wbut w g, g⟩ (.row (.slice (some ⟨g, 0, none⟩) n c) 35 1 n (uv xs) :: oths g w)) Try.func63 rfl rfl rfl ?_ (Pm.rowStart h)
 refine TC.seq_ (TC.region ?_)
 refine TL.mv ?_
 refine TL.as_ ?_
 refine TL.end_ (TX.then_ (TC.seq_ (TC.region ?_)))
 refine TL.as_ ?_
 refine TL.end_ (TX.then_ (TC.seq_ (TC.region ?_)))
 refine TL.mv ?_
 refine TL.mv ?_
 refine TL.val rfl rfl rfl (gives_bin rfl rfl rfl (fun w => bin_sub_ (r := ((b - a : Nat) : Int)) (by simp only [IntKind.wrap_i64]; omega) w)) ?_
 refine TL.as_ ?_
 refine TL.end_ (TX.then_ (TC.seq_ (TC.seq_ (TC.region ?_))))
 refine TL.mv ?_
 refine TL.val rfl rfl rfl (gives_bin rfl rfl rfl (fun w => bin_sub_ (r := (((b - a) - 1 : Nat) : Int)) (by simp only [IntKind.wrap_i64]; omega) w)) ?_
 refine TL.val rfl rfl rfl (gives_bin rfl rfl rfl (fun w => bin_quoi_ (r := ((((b - a) - 1) / 2 : Nat) : Int)) (by omega) (by omega) (by omega) (by omega) w)) ?_
 refine TL.as_ ?_
 refine TL.end_ (TX.then_ (TC.block ?_))
 refine TC.loop_ (α := {y : Nat × List Int // y.1 ≤ b - a ∧ Hp a y.1 (b - a) y.2 ∧ Pin a b xs y.2 ∧ y.2.length = n}) (fun y => [(0, .slice (some ⟨g, 0, none⟩) n c), (6, .int .i64 ((a : Nat) : Int)), (7, .int .i64 0), (8, .int .i64 ((b - a : Nat) : Int)), (9, .int .i64 (((y.1.1 : Nat) : Int) - 1))]) (fun y => Pm ⟨wbut w g, g⟩ ([.row (.slice (some ⟨g, 0, none⟩) n c) 35 1 n (uv y.1.2)] ++ oths g w)) (fun y => y.1.1) (⟨((b - a - 1) / 2 + 1, xs), by dsimp only; omega, fun i c h1 h2 h3 => by dsimp only at h1; omega, Pin.refl _ _ _, hl⟩) ⟨rfl, rfl, rfl, rfl, congrArg (fun z => some (Value.int .i64 z)) (by (try dsimp only); omega), trivial⟩ (fun w1 hw => hw) ?_
 rintro ⟨⟨k, ys⟩, hk, hH, hP, hly⟩
 dsimp only at hk hH hP hly ⊢
 refine TC.seq_ (TC.seq_ (TC.region ?_))
 refine TL.mv ?_
 refine TL.vsplit rfl rfl rfl (gives_bin rfl rfl rfl (fun w => bin_geq w)) (fun h19 => ?_) (fun h19 => ?_)
 ·have q19 := of_decide_eq_true h19
  refine TL.end_ (TX.then_ (TC.condT rfl (TC.skip_ (TX.then_ (TC.seq_ (TC.block ?_))))))
  refine TC.cut [(0, .slice (some ⟨g, 0, none⟩) n c), (6, .int .i64 ((a : Nat) : Int)), (7, .int .i64 0), (8, .int .i64 ((b - a : Nat) : Int)), (9, .int .i64 ((k - 1 : Nat) : Int)), (18, .int .i64 (((k : Nat) : Int) - 1)), (19, .bool true)] (Pm ⟨wbut w g, g⟩ ([.row (.slice (some ⟨g, 0, none⟩) n c) 35 1 n (uv ys)] ++ oths g w)) ⟨rfl, rfl, rfl, rfl, congrArg (fun z => some (Value.int .i64 z)) (by (try dsimp only); omega), rfl, rfl, trivial⟩ (fun w1 hw => hw) ?_
  refine TC.region ?_
  iterate 4 (first | refine TL.mv ?_)
  refine TL.pcallRw (k := 0) (α := Unit) (fun _ => .tuple #[]) (fun _ zs => Pin a (a + (b - a)) ys zs ∧ Hp a (k - 1) (b - a) zs) rfl rfl rfl rfl rfl Try.func73 us2nm73 us2bd73 rfl (fun w1 hw hr1 => sift_any g n c ys w1 hr1 hn (k - 1) (b - a) a (by omega) (by omega) (by rw [show k - 1 + 1 = k by omega]; exact hH)) ?_
  rintro ⟨⟩ zs ⟨hQ, hH2⟩
  try dsimp only [List.set_cons_zero, List.set_cons_succ]
  rw [show a + (b - a) = b by omega] at hQ
  have hlz : zs.length = n := hQ.len.trans hly
  refine TL.end_ (TX.in_normal (TX.then_ (TC.region ?_)))
  refine TL.mv ?_
  refine TL.val rfl rfl rfl (gives_bin rfl rfl rfl (fun w => bin_sub_ (r := ((k - 1 : Nat) : Int) - 1) (by simp only [IntKind.wrap_i64]; omega) w)) ?_
  refine TL.as_ ?_
  refine TL.end_ ?_
  exact TX.round (⟨(k - 1, zs), by dsimp only; omega, hH2, hP.trans hQ, hlz⟩) (by show k - 1 < k; omega) ⟨rfl, rfl, rfl, rfl, rfl, trivial⟩ (fun w1 hw => hw)
 ·have q19 := of_decide_eq_false h19
  refine TL.end_ (TX.then_ (TC.condF rfl (TC.exit_ (TX.then_exit (TX.then_exit (TX.in_same (TX.then_ (TC.seq_ (TC.region ?_)))))))))
  refine TL.mv ?_
  refine TL.val rfl rfl rfl (gives_bin rfl rfl rfl (fun w => bin_sub_ (r := (((b - a) - 1 : Nat) : Int)) (by simp only [IntKind.wrap_i64]; omega) w)) ?_
  refine TL.as_ ?_
  refine TL.end_ (TX.then_ (TC.block ?_))
  refine TC.loop_ (α := {y : Nat × List Int // y.1 ≤ b - a ∧ Hsr a y.1 (b - a) y.2 ∧ Pin a b xs y.2 ∧ y.2.length = n}) (fun y => [(0, .slice (some ⟨g, 0, none⟩) n c), (6, .int .i64 ((a : Nat) : Int)), (7, .int .i64 0), (8, .int .i64 ((b - a : Nat) : Int)), (10, .int .i64 (((y.1.1 : Nat) : Int) - 1))]) (fun y => Pm ⟨wbut w g, g⟩ ([.row (.slice (some ⟨g, 0, none⟩) n c) 35 1 n (uv y.1.2)] ++ oths g w)) (fun y => y.1.1) (⟨(b - a, ys), Nat.le_refl _, ⟨by dsimp only; rw [show k = 0 by omega] at hH; exact hH, fun j k h1 h2 h3 => by dsimp only at h3; omega⟩, hP, hly⟩) ⟨rfl, rfl, rfl, rfl, congrArg (fun z => some (Value.int .i64 z)) (by (try dsimp only); omega), trivial⟩ (fun w1 hw => hw) ?_
  rintro ⟨⟨k, ys⟩, hk, hH, hP, hly⟩
  dsimp only at hk hH hP hly ⊢
  refine TC.seq_ (TC.seq_ (TC.region ?_))
  refine TL.mv ?_
  refine TL.vsplit rfl rfl rfl (gives_bin rfl rfl rfl (fun w => bin_geq w)) (fun h30 => ?_) (fun h30 => ?_)
  ·have q30 := of_decide_eq_true h30
   refine TL.end_ (TX.then_ (TC.condT rfl (TC.skip_ (TX.then_ (TC.seq_ (TC.block (TC.seq_ ?_)))))))
   refine TC.cut [(0, .slice (some ⟨g, 0, none⟩) n c), (6, .int .i64 ((a : Nat) : Int)), (7, .int .i64 0), (8, .int .i64 ((b - a : Nat) : Int)), (10, .int .i64 ((k - 1 : Nat) : Int)), (29, .int .i64 (((k : Nat) : Int) - 1)), (30, .bool true)] (Pm ⟨wbut w g, g⟩ ([.row (.slice (some ⟨g, 0, none⟩) n c) 35 1 n (uv ys)] ++ oths g w)) ⟨rfl, rfl, rfl, rfl, congrArg (fun z => some (Value.int .i64 z)) (by (try dsimp only); omega), rfl, rfl, trivial⟩ (fun w1 hw => hw) ?_
   refine TC.held (ls := #[Ff,Ff,Ff,Ff,Ff,Ff,Ff,Ff,Ff,Ff,Ff,Ff,Ff,Ff,Ff,Ff,Ff,Ff,Ff,Ff]) (fun _ => True) (by kernel_rfl) rfl rfl (fun w hw => hw.drawn _) ?_
   refine TH.tk (listed' := #[Tt,Ff,Ff,Ff,Ff,Ff,Ff,Ff,Ff,Ff,Ff,Ff,Ff,Ff,Ff,Ff,Ff,Ff,Ff,Ff]) 0 rfl rfl rfl (gives_move rfl rfl) (fun _ _ => trivial) ?_
   refine TH.tk (listed' := #[Tt,Tt,Ff,Ff,Ff,Ff,Ff,Ff,Ff,Ff,Ff,Ff,Ff,Ff,Ff,Ff,Ff,Ff,Ff,Ff]) 1 rfl rfl rfl (gives_move rfl rfl) (fun _ _ => trivial) ?_
   refine TH.tk (listed' := #[Tt,Tt,Tt,Ff,Ff,Ff,Ff,Ff,Ff,Ff,Ff,Ff,Ff,Ff,Ff,Ff,Ff,Ff,Ff,Ff]) 2 rfl rfl rfl (gives_move rfl rfl) (fun _ _ => trivial) ?_
   refine TH.tk (listed' := #[Tt,Tt,Tt,Tt,Ff,Ff,Ff,Ff,Ff,Ff,Ff,Ff,Ff,Ff,Ff,Ff,Ff,Ff,Ff,Ff]) 3 rfl rfl rfl (gives_move rfl rfl) (fun _ _ => trivial) ?_
   refine TH.tk (listed' := #[Tt,Tt,Tt,Tt,Tt,Ff,Ff,Ff,Ff,Ff,Ff,Ff,Ff,Ff,Ff,Ff,Ff,Ff,Ff,Ff]) 4 rfl rfl rfl (gives_move rfl rfl) (fun _ _ => trivial) ?_
   refine TH.tk (listed' := #[Tt,Tt,Tt,Tt,Tt,Tt,Ff,Ff,Ff,Ff,Ff,Ff,Ff,Ff,Ff,Ff,Ff,Ff,Ff,Ff]) 5 rfl rfl rfl (gives_bin rfl rfl rfl (fun w => bin_add_ (r := ((a + (k - 1) : Nat) : Int)) (by simp only [IntKind.wrap_i64]; omega) w)) (fun _ _ => trivial) ?_
   refine TH.tk (listed' := #[Tt,Tt,Tt,Tt,Tt,Tt,Tt,Ff,Ff,Ff,Ff,Ff,Ff,Ff,Ff,Ff,Ff,Ff,Ff,Ff]) 6 rfl rfl rfl (gives_move rfl rfl) (fun _ _ => trivial) ?_
   refine TH.tk (listed' := #[Tt,Tt,Tt,Tt,Tt,Tt,Tt,Tt,Ff,Ff,Ff,Ff,Ff,Ff,Ff,Ff,Ff,Ff,Ff,Ff]) 7 rfl rfl rfl (gives_move rfl rfl) (fun _ _ => trivial) ?_
   refine TH.tk (listed' := #[Tt,Tt,Tt,Tt,Tt,Tt,Tt,Tt,Tt,Ff,Ff,Ff,Ff,Ff,Ff,Ff,Ff,Ff,Ff,Ff]) 8 rfl rfl rfl (gives_move rfl rfl) (fun _ _ => trivial) ?_
   refine TH.tk (listed' := #[Tt,Tt,Tt,Tt,Tt,Tt,Tt,Tt,Tt,Tt,Ff,Ff,Ff,Ff,Ff,Ff,Ff,Ff,Ff,Ff]) 9 rfl rfl rfl (gives_bin rfl rfl rfl (fun w => bin_add_ (r := ((a + (k - 1) : Nat) : Int)) (by simp only [IntKind.wrap_i64]; omega) w)) (fun _ _ => trivial) ?_
   refine TH.tk (listed' := #[Tt,Tt,Tt,Tt,Tt,Tt,Tt,Tt,Tt,Tt,Tt,Ff,Ff,Ff,Ff,Ff,Ff,Ff,Ff,Ff]) 10 rfl rfl rfl (gives_at (v := .pointer (some ⟨g, a + (k - 1), none⟩)) rfl rfl rfl (fun w => at_row Try.underlying31 us2sz35 g _ _ (a + (k - 1)) (by omega) rfl w)) (fun _ _ => trivial) ?_
   refine TH.tk (listed' := #[Tt,Tt,Tt,Tt,Tt,Tt,Tt,Tt,Tt,Tt,Tt,Ff,Tt,Ff,Ff,Ff,Ff,Ff,Ff,Ff]) 12 rfl rfl rfl (gives_move rfl rfl) (fun _ _ => trivial) ?_
   refine TH.tk (listed' := #[Tt,Tt,Tt,Tt,Tt,Tt,Tt,Tt,Tt,Tt,Tt,Ff,Tt,Tt,Ff,Ff,Ff,Ff,Ff,Ff]) 13 rfl rfl rfl (gives_move rfl rfl) (fun _ _ => trivial) ?_
   refine TH.tk (listed' := #[Tt,Tt,Tt,Tt,Tt,Tt,Tt,Tt,Tt,Tt,Tt,Ff,Tt,Tt,Tt,Ff,Ff,Ff,Ff,Ff]) 14 rfl rfl rfl (gives_at (v := .pointer (some ⟨g, a, none⟩)) rfl rfl rfl (fun w => at_row Try.underlying31 us2sz35 g _ _ a (by omega) rfl w)) (fun _ _ => trivial) ?_
   refine TH.two' (listed1 := #[Tt,Tt,Tt,Tt,Tt,Tt,Tt,Tt,Tt,Tt,Tt,Tt,Tt,Tt,Tt,Ff,Ff,Ff,Ff,Ff]) (listed2 := #[Tt,Tt,Tt,Tt,Tt,Tt,Tt,Tt,Tt,Tt,Tt,Ff,Tt,Tt,Tt,Tt,Ff,Ff,Ff,Ff]) 11 15 rfl rfl (by kernel_rfl) rfl rfl ?_ ?_
   ·refine TL.val rfl rfl rfl (pm_loadU (k := 0) (i := a + (k - 1)) rfl rfl us2ag35 rfl (by omega)) ?_
    refine TL.end_ ?_
    refine TX.held (fun _ _ => trivial) ?_
    refine TH.only' (listed' := #[Tt,Tt,Tt,Tt,Tt,Tt,Tt,Tt,Tt,Tt,Tt,Tt,Tt,Tt,Tt,Tt,Ff,Ff,Ff,Ff]) 15 rfl (by kernel_rfl) rfl ?_
    refine TL.val rfl rfl rfl (pm_loadU (k := 0) (i := a) rfl rfl us2ag35 rfl (by omega)) ?_
    refine TL.end_ ?_
    refine TX.held (fun _ _ => trivial) ?_
    refine TH.tk (listed' := #[Tt,Tt,Tt,Tt,Tt,Tt,Tt,Tt,Tt,Tt,Tt,Tt,Tt,Tt,Tt,Tt,Tt,Ff,Ff,Ff]) 16 rfl rfl rfl (gives_at (v := .pointer (some ⟨g, a, none⟩)) rfl rfl rfl (fun w => at_row Try.underlying31 us2sz35 g _ _ a (by omega) rfl w)) (fun _ _ => trivial) ?_
    refine TH.only' (listed' := #[Tt,Tt,Tt,Tt,Tt,Tt,Tt,Tt,Tt,Tt,Tt,Tt,Tt,Tt,Tt,Tt,Tt,Tt,Ff,Ff]) 17 rfl (by kernel_rfl) rfl ?_
    refine TL.uset (k := 0) (i := a) rfl rfl rfl rfl rfl rfl us2sz35 (by omega) ?_
    refine TL.end_ ?_
    refine TX.held (fun _ _ => trivial) ?_
    refine TH.tk (listed' := #[Tt,Tt,Tt,Tt,Tt,Tt,Tt,Tt,Tt,Tt,Tt,Tt,Tt,Tt,Tt,Tt,Tt,Tt,Tt,Ff]) 18 rfl rfl rfl (gives_at (v := .pointer (some ⟨g, a + (k - 1), none⟩)) rfl rfl rfl (fun w => at_row Try.underlying31 us2sz35 g _ _ (a + (k - 1)) (by omega) rfl w)) (fun _ _ => trivial) ?_
    refine TH.only' (listed' := #[Tt,Tt,Tt,Tt,Tt,Tt,Tt,Tt,Tt,Tt,Tt,Tt,Tt,Tt,Tt,Tt,Tt,Tt,Tt,Tt]) 19 rfl (by kernel_rfl) rfl ?_
    refine TL.uset (k := 0) (i := a + (k - 1)) rfl rfl rfl rfl rfl rfl us2sz35 (by rw [List.length_set]; omega) ?_
    refine TL.end_ ?_
    refine TX.held (fun _ _ => trivial) ?_
    refine TH.done (by kernel_rfl) ?_
    refine TX.then_ (TC.region ?_)
    iterate 4 (first | refine TL.mv ?_)
    refine TL.pcallRw (k := 0) (α := Unit) (fun _ => .tuple #[]) (fun _ zs => Pin a (a + (k - 1)) (swp ys a (a + (k - 1))) zs ∧ Hp a 0 (k - 1) zs) rfl rfl rfl rfl rfl Try.func73 us2nm73 us2bd73 rfl (fun w1 hw hr1 => sift_any g n c (swp ys a (a + (k - 1))) w1 hr1 hn 0 (k - 1) a (by omega) (by omega) (Hp.swap0 (by rw [show k - 1 + 1 = k by omega]; exact hH.heap) (by omega))) ?_
    rintro ⟨⟩ zs ⟨hQ, hH2⟩
    try dsimp only [List.set_cons_zero, List.set_cons_succ]
    have hlz : zs.length = n := by rw [hQ.len, swp_len]; exact hly
    have hP2 : Pin a b xs zs := (hP.swap (by omega) (by omega) (by omega) (by omega) (by omega)).trans (hQ.mono (Nat.le_refl _) (by omega))
    have hH3 : Hsr a (k - 1) (b - a) zs := Hsr.step (i := k - 1) (by rw [show k - 1 + 1 = k by omega]; exact hH) (by omega) (by omega) hQ hH2
    refine TL.end_ (TX.in_normal (TX.then_ (TC.region ?_)))
    refine TL.mv ?_
    refine TL.val rfl rfl rfl (gives_bin rfl rfl rfl (fun w => bin_sub_ (r := ((k - 1 : Nat) : Int) - 1) (by simp only [IntKind.wrap_i64]; omega) w)) ?_
    refine TL.as_ ?_
    refine TL.end_ ?_
    exact TX.round (⟨(k - 1, zs), by dsimp only; omega, hH3, hP2, hlz⟩) (by show k - 1 < k; omega) ⟨rfl, rfl, rfl, rfl, rfl, trivial⟩ (fun w1 hw => hw)
   ·refine TL.val rfl rfl rfl (pm_loadU (k := 0) (i := a) rfl rfl us2ag35 rfl (by omega)) ?_
    refine TL.end_ ?_
    refine TX.held (fun _ _ => trivial) ?_
    refine TH.only' (listed' := #[Tt,Tt,Tt,Tt,Tt,Tt,Tt,Tt,Tt,Tt,Tt,Tt,Tt,Tt,Tt,Tt,Ff,Ff,Ff,Ff]) 11 rfl (by kernel_rfl) rfl ?_
    refine TL.val rfl rfl rfl (pm_loadU (k := 0) (i := a + (k - 1)) rfl rfl us2ag35 rfl (by omega)) ?_
    refine TL.end_ ?_
    refine TX.held (fun _ _ => trivial) ?_
    refine TH.tk (listed' := #[Tt,Tt,Tt,Tt,Tt,Tt,Tt,Tt,Tt,Tt,Tt,Tt,Tt,Tt,Tt,Tt,Tt,Ff,Ff,Ff]) 16 rfl rfl rfl (gives_at (v := .pointer (some ⟨g, a, none⟩)) rfl rfl rfl (fun w => at_row Try.underlying31 us2sz35 g _ _ a (by omega) rfl w)) (fun _ _ => trivial) ?_
    refine TH.only' (listed' := #[Tt,Tt,Tt,Tt,Tt,Tt,Tt,Tt,Tt,Tt,Tt,Tt,Tt,Tt,Tt,Tt,Tt,Tt,Ff,Ff]) 17 rfl (by kernel_rfl) rfl ?_
    refine TL.uset (k := 0) (i := a) rfl rfl rfl rfl rfl rfl us2sz35 (by omega) ?_
    refine TL.end_ ?_
    refine TX.held (fun _ _ => trivial) ?_
    refine TH.tk (listed' := #[Tt,Tt,Tt,Tt,Tt,Tt,Tt,Tt,Tt,Tt,Tt,Tt,Tt,Tt,Tt,Tt,Tt,Tt,Tt,Ff]) 18 rfl rfl rfl (gives_at (v := .pointer (some ⟨g, a + (k - 1), none⟩)) rfl rfl rfl (fun w => at_row Try.underlying31 us2sz35 g _ _ (a + (k - 1)) (by omega) rfl w)) (fun _ _ => trivial) ?_
    refine TH.only' (listed' := #[Tt,Tt,Tt,Tt,Tt,Tt,Tt,Tt,Tt,Tt,Tt,Tt,Tt,Tt,Tt,Tt,Tt,Tt,Tt,Tt]) 19 rfl (by kernel_rfl) rfl ?_
    refine TL.uset (k := 0) (i := a + (k - 1)) rfl rfl rfl rfl rfl rfl us2sz35 (by rw [List.length_set]; omega) ?_
    refine TL.end_ ?_
    refine TX.held (fun _ _ => trivial) ?_
    refine TH.done (by kernel_rfl) ?_
    refine TX.then_ (TC.region ?_)
    iterate 4 (first | refine TL.mv ?_)
    refine TL.pcallRw (k := 0) (α := Unit) (fun _ => .tuple #[]) (fun _ zs => Pin a (a + (k - 1)) (swp ys a (a + (k - 1))) zs ∧ Hp a 0 (k - 1) zs) rfl rfl rfl rfl rfl Try.func73 us2nm73 us2bd73 rfl (fun w1 hw hr1 => sift_any g n c (swp ys a (a + (k - 1))) w1 hr1 hn 0 (k - 1) a (by omega) (by omega) (Hp.swap0 (by rw [show k - 1 + 1 = k by omega]; exact hH.heap) (by omega))) ?_
    rintro ⟨⟩ zs ⟨hQ, hH2⟩
    try dsimp only [List.set_cons_zero, List.set_cons_succ]
    have hlz : zs.length = n := by rw [hQ.len, swp_len]; exact hly
    have hP2 : Pin a b xs zs := (hP.swap (by omega) (by omega) (by omega) (by omega) (by omega)).trans (hQ.mono (Nat.le_refl _) (by omega))
    have hH3 : Hsr a (k - 1) (b - a) zs := Hsr.step (i := k - 1) (by rw [show k - 1 + 1 = k by omega]; exact hH) (by omega) (by omega) hQ hH2
    refine TL.end_ (TX.in_normal (TX.then_ (TC.region ?_)))
    refine TL.mv ?_
    refine TL.val rfl rfl rfl (gives_bin rfl rfl rfl (fun w => bin_sub_ (r := ((k - 1 : Nat) : Int) - 1) (by simp only [IntKind.wrap_i64]; omega) w)) ?_
    refine TL.as_ ?_
    refine TL.end_ ?_
    exact TX.round (⟨(k - 1, zs), by dsimp only; omega, hH3, hP2, hlz⟩) (by show k - 1 < k; omega) ⟨rfl, rfl, rfl, rfl, rfl, trivial⟩ (fun w1 hw => hw)
  ·have q30 := of_decide_eq_false h30
   refine TL.end_ (TX.then_ (TC.condF rfl (TC.exit_ (TX.then_exit (TX.then_exit (TX.in_same ?_))))))
   obtain rfl : k = 0 := by omega
   have hS : Srt a b ys := by have := hH.done; rwa [show a + (b - a) = b by omega] at this
   exact end_none Try.results63 (fun w1 hw => ⟨(), ys, rfl, ⟨hP, hS⟩, pm_rowAt hw (k := 0) rfl, hw.mapEnd (fun q hq => by simp [hq])⟩)
set_option maxHeartbeats 1000000 in
theorem rev_any (g n c : Nat) (xs : List Int) (w : World) (h : Rw 35 w g n c xs) (hn : n ≤ 1000000) (a b : Nat) (hab : a < b) (hb : b ≤ n) :
  Calls Try.prog 66 #[.slice (some ⟨g, 0, none⟩) n c, .int .i64 ((a : Nat) : Int), .int .i64 ((b : Nat) : Int)] w (RC (α := Unit) (fun _ => .tuple #[]) (fun _ ys => Pin a b xs ys) 35 g n c w) := by
 have hl := h.len
 refine begin_ (vs := [.slice (some ⟨g, 0, none⟩) n c, .int .i64 ((a : Nat) : Int), .int .i64 ((b : Nat) : Int)]) (I := Pm ⟨wbut w g, g⟩ (.row (.slice (some ⟨g, 0, none⟩) n c) 35 1 n (uv xs) :: oths g w)) Try.func66 rfl rfl rfl ?_ (Pm.rowStart h)
 refine TC.seq_ (TC.region ?_)
 refine TL.mv ?_
 refine TL.as_ ?_
 refine TL.end_ (TX.then_ (TC.seq_ (TC.region ?_)))
 refine TL.mv ?_
 refine TL.val rfl rfl rfl (gives_bin rfl rfl rfl (fun w => bin_sub_ (r := ((b - 1 : Nat) : Int)) (by simp only [IntKind.wrap_i64]; omega) w)) ?_
 refine TL.as_ ?_
 refine TL.end_ (TX.then_ (TC.block ?_))
 refine TC.loop_ (α := {y : Nat × Nat × List Int // a ≤ y.1 ∧ y.2.1 < b ∧ Pin a b xs y.2.2 ∧ y.2.2.length = n}) (fun y => [(0, .slice (some ⟨g, 0, none⟩) n c), (6, .int .i64 ((y.1.1 : Nat) : Int)), (7, .int .i64 ((y.1.2.1 : Nat) : Int))]) (fun y => Pm ⟨wbut w g, g⟩ ([.row (.slice (some ⟨g, 0, none⟩) n c) 35 1 n (uv y.1.2.2)] ++ oths g w)) (fun y => y.1.2.1) (⟨(a, b - 1, xs), Nat.le_refl _, by dsimp only; omega, Pin.refl _ _ _, hl⟩) ⟨rfl, rfl, rfl, trivial⟩ (fun w1 hw => hw) ?_
 rintro ⟨⟨i, j, ys⟩, hi, hj, hP, hly⟩
 dsimp only at hi hj hP hly ⊢
 refine TC.seq_ (TC.seq_ (TC.region ?_))
 refine TL.mv ?_
 refine TL.mv ?_
 refine TL.vsplit rfl rfl rfl (gives_bin rfl rfl rfl (fun w => bin_lss w)) (fun h13 => ?_) (fun h13 => ?_)
 ·have q13 := of_decide_eq_true h13
  refine TL.end_ (TX.then_ (TC.condT rfl (TC.skip_ (TX.then_ (TC.block (TC.seq_ ?_))))))
  refine TC.held (ls := #[Ff,Ff,Ff,Ff,Ff,Ff,Ff,Ff,Ff,Ff,Ff,Ff,Ff,Ff,Ff,Ff]) (fun _ => True) (by kernel_rfl) rfl rfl (fun w hw => hw.drawn _) ?_
  refine TH.tk (listed' := #[Tt,Ff,Ff,Ff,Ff,Ff,Ff,Ff,Ff,Ff,Ff,Ff,Ff,Ff,Ff,Ff]) 0 rfl rfl rfl (gives_move rfl rfl) (fun _ _ => trivial) ?_
  refine TH.tk (listed' := #[Tt,Tt,Ff,Ff,Ff,Ff,Ff,Ff,Ff,Ff,Ff,Ff,Ff,Ff,Ff,Ff]) 1 rfl rfl rfl (gives_move rfl rfl) (fun _ _ => trivial) ?_
  refine TH.tk (listed' := #[Tt,Tt,Tt,Ff,Ff,Ff,Ff,Ff,Ff,Ff,Ff,Ff,Ff,Ff,Ff,Ff]) 2 rfl rfl rfl (gives_move rfl rfl) (fun _ _ => trivial) ?_
  refine TH.tk (listed' := #[Tt,Tt,Tt,Tt,Ff,Ff,Ff,Ff,Ff,Ff,Ff,Ff,Ff,Ff,Ff,Ff]) 3 rfl rfl rfl (gives_move rfl rfl) (fun _ _ => trivial) ?_
  refine TH.tk (listed' := #[Tt,Tt,Tt,Tt,Tt,Ff,Ff,Ff,Ff,Ff,Ff,Ff,Ff,Ff,Ff,Ff]) 4 rfl rfl rfl (gives_move rfl rfl) (fun _ _ => trivial) ?_
  refine TH.tk (listed' := #[Tt,Tt,Tt,Tt,Tt,Tt,Ff,Ff,Ff,Ff,Ff,Ff,Ff,Ff,Ff,Ff]) 5 rfl rfl rfl (gives_move rfl rfl) (fun _ _ => trivial) ?_
  refine TH.tk (listed' := #[Tt,Tt,Tt,Tt,Tt,Tt,Tt,Ff,Ff,Ff,Ff,Ff,Ff,Ff,Ff,Ff]) 6 rfl rfl rfl (gives_at (v := .pointer (some ⟨g, j, none⟩)) rfl rfl rfl (fun w => at_row Try.underlying31 us2sz35 g _ _ j (by omega) rfl w)) (fun _ _ => trivial) ?_
  refine TH.tk (listed' := #[Tt,Tt,Tt,Tt,Tt,Tt,Tt,Ff,Tt,Ff,Ff,Ff,Ff,Ff,Ff,Ff]) 8 rfl rfl rfl (gives_move rfl rfl) (fun _ _ => trivial) ?_
  refine TH.tk (listed' := #[Tt,Tt,Tt,Tt,Tt,Tt,Tt,Ff,Tt,Tt,Ff,Ff,Ff,Ff,Ff,Ff]) 9 rfl rfl rfl (gives_move rfl rfl) (fun _ _ => trivial) ?_
  refine TH.tk (listed' := #[Tt,Tt,Tt,Tt,Tt,Tt,Tt,Ff,Tt,Tt,Tt,Ff,Ff,Ff,Ff,Ff]) 10 rfl rfl rfl (gives_at (v := .pointer (some ⟨g, i, none⟩)) rfl rfl rfl (fun w => at_row Try.underlying31 us2sz35 g _ _ i (by omega) rfl w)) (fun _ _ => trivial) ?_
  refine TH.two' (listed1 := #[Tt,Tt,Tt,Tt,Tt,Tt,Tt,Tt,Tt,Tt,Tt,Ff,Ff,Ff,Ff,Ff]) (listed2 := #[Tt,Tt,Tt,Tt,Tt,Tt,Tt,Ff,Tt,Tt,Tt,Tt,Ff,Ff,Ff,Ff]) 7 11 rfl rfl (by kernel_rfl) rfl rfl ?_ ?_
  ·refine TL.val rfl rfl rfl (pm_loadU (k := 0) (i := j) rfl rfl us2ag35 rfl (by omega)) ?_
   refine TL.end_ ?_
   refine TX.held (fun _ _ => trivial) ?_
   refine TH.only' (listed' := #[Tt,Tt,Tt,Tt,Tt,Tt,Tt,Tt,Tt,Tt,Tt,Tt,Ff,Ff,Ff,Ff]) 11 rfl (by kernel_rfl) rfl ?_
   refine TL.val rfl rfl rfl (pm_loadU (k := 0) (i := i) rfl rfl us2ag35 rfl (by omega)) ?_
   refine TL.end_ ?_
   refine TX.held (fun _ _ => trivial) ?_
   refine TH.tk (listed' := #[Tt,Tt,Tt,Tt,Tt,Tt,Tt,Tt,Tt,Tt,Tt,Tt,Tt,Ff,Ff,Ff]) 12 rfl rfl rfl (gives_at (v := .pointer (some ⟨g, i, none⟩)) rfl rfl rfl (fun w => at_row Try.underlying31 us2sz35 g _ _ i (by omega) rfl w)) (fun _ _ => trivial) ?_
   refine TH.only' (listed' := #[Tt,Tt,Tt,Tt,Tt,Tt,Tt,Tt,Tt,Tt,Tt,Tt,Tt,Tt,Ff,Ff]) 13 rfl (by kernel_rfl) rfl ?_
   refine TL.uset (k := 0) (i := i) rfl rfl rfl rfl rfl rfl us2sz35 (by omega) ?_
   refine TL.end_ ?_
   refine TX.held (fun _ _ => trivial) ?_
   refine TH.tk (listed' := #[Tt,Tt,Tt,Tt,Tt,Tt,Tt,Tt,Tt,Tt,Tt,Tt,Tt,Tt,Tt,Ff]) 14 rfl rfl rfl (gives_at (v := .pointer (some ⟨g, j, none⟩)) rfl rfl rfl (fun w => at_row Try.underlying31 us2sz35 g _ _ j (by omega) rfl w)) (fun _ _ => trivial) ?_
   refine TH.only' (listed' := #[Tt,Tt,Tt,Tt,Tt,Tt,Tt,Tt,Tt,Tt,Tt,Tt,Tt,Tt,Tt,Tt]) 15 rfl (by kernel_rfl) rfl ?_
   refine TL.uset (k := 0) (i := j) rfl rfl rfl rfl rfl rfl us2sz35 (by rw [List.length_set]; omega) ?_
   refine TL.end_ ?_
   refine TX.held (fun _ _ => trivial) ?_
   refine TH.done (by kernel_rfl) ?_
   refine TX.then_ (TC.seq_ (TC.region ?_))
   refine TL.mv ?_
   refine TL.val rfl rfl rfl (gives_bin rfl rfl rfl (fun w => bin_add_ (r := ((i + 1 : Nat) : Int)) (by simp only [IntKind.wrap_i64]; omega) w)) ?_
   refine TL.as_ ?_
   refine TL.end_ (TX.then_ (TC.region ?_))
   refine TL.mv ?_
   refine TL.val rfl rfl rfl (gives_bin rfl rfl rfl (fun w => bin_sub_ (r := ((j - 1 : Nat) : Int)) (by simp only [IntKind.wrap_i64]; omega) w)) ?_
   refine TL.as_ ?_
   refine TL.end_ (TX.in_normal ?_)
   exact TX.round (⟨(i + 1, j - 1, swp ys i j), by dsimp only; omega, by dsimp only; omega, hP.swap (by omega) (by omega) (by omega) (by omega) (by omega), by rw [swp_len]; exact hly⟩) (by show j - 1 < j; omega) ⟨rfl, rfl, rfl, trivial⟩ (fun w1 hw => hw)
  ·refine TL.val rfl rfl rfl (pm_loadU (k := 0) (i := i) rfl rfl us2ag35 rfl (by omega)) ?_
   refine TL.end_ ?_
   refine TX.held (fun _ _ => trivial) ?_
   refine TH.only' (listed' := #[Tt,Tt,Tt,Tt,Tt,Tt,Tt,Tt,Tt,Tt,Tt,Tt,Ff,Ff,Ff,Ff]) 7 rfl (by kernel_rfl) rfl ?_
   refine TL.val rfl rfl rfl (pm_loadU (k := 0) (i := j) rfl rfl us2ag35 rfl (by omega)) ?_
   refine TL.end_ ?_
   refine TX.held (fun _ _ => trivial) ?_
   refine TH.tk (listed' := #[Tt,Tt,Tt,Tt,Tt,Tt,Tt,Tt,Tt,Tt,Tt,Tt,Tt,Ff,Ff,Ff]) 12 rfl rfl rfl (gives_at (v := .pointer (some ⟨g, i, none⟩)) rfl rfl rfl (fun w => at_row Try.underlying31 us2sz35 g _ _ i (by omega) rfl w)) (fun _ _ => trivial) ?_
   refine TH.only' (listed' := #[Tt,Tt,Tt,Tt,Tt,Tt,Tt,Tt,Tt,Tt,Tt,Tt,Tt,Tt,Ff,Ff]) 13 rfl (by kernel_rfl) rfl ?_
   refine TL.uset (k := 0) (i := i) rfl rfl rfl rfl rfl rfl us2sz35 (by omega) ?_
   refine TL.end_ ?_
   refine TX.held (fun _ _ => trivial) ?_
   refine TH.tk (listed' := #[Tt,Tt,Tt,Tt,Tt,Tt,Tt,Tt,Tt,Tt,Tt,Tt,Tt,Tt,Tt,Ff]) 14 rfl rfl rfl (gives_at (v := .pointer (some ⟨g, j, none⟩)) rfl rfl rfl (fun w => at_row Try.underlying31 us2sz35 g _ _ j (by omega) rfl w)) (fun _ _ => trivial) ?_
   refine TH.only' (listed' := #[Tt,Tt,Tt,Tt,Tt,Tt,Tt,Tt,Tt,Tt,Tt,Tt,Tt,Tt,Tt,Tt]) 15 rfl (by kernel_rfl) rfl ?_
   refine TL.uset (k := 0) (i := j) rfl rfl rfl rfl rfl rfl us2sz35 (by rw [List.length_set]; omega) ?_
   refine TL.end_ ?_
   refine TX.held (fun _ _ => trivial) ?_
   refine TH.done (by kernel_rfl) ?_
   refine TX.then_ (TC.seq_ (TC.region ?_))
   refine TL.mv ?_
   refine TL.val rfl rfl rfl (gives_bin rfl rfl rfl (fun w => bin_add_ (r := ((i + 1 : Nat) : Int)) (by simp only [IntKind.wrap_i64]; omega) w)) ?_
   refine TL.as_ ?_
   refine TL.end_ (TX.then_ (TC.region ?_))
   refine TL.mv ?_
   refine TL.val rfl rfl rfl (gives_bin rfl rfl rfl (fun w => bin_sub_ (r := ((j - 1 : Nat) : Int)) (by simp only [IntKind.wrap_i64]; omega) w)) ?_
   refine TL.as_ ?_
   refine TL.end_ (TX.in_normal ?_)
   exact TX.round (⟨(i + 1, j - 1, swp ys i j), by dsimp only; omega, by dsimp only; omega, hP.swap (by omega) (by omega) (by omega) (by omega) (by omega), by rw [swp_len]; exact hly⟩) (by show j - 1 < j; omega) ⟨rfl, rfl, rfl, trivial⟩ (fun w1 hw => hw)
 ·have q13 := of_decide_eq_false h13
  refine TL.end_ (TX.then_ (TC.condF rfl (TC.exit_ (TX.then_exit (TX.then_exit (TX.in_same ?_))))))
  exact end_none Try.results66 (fun w1 hw => ⟨(), ys, rfl, hP, pm_rowAt hw (k := 0) rfl, hw.mapEnd (fun q hq => by simp [hq])⟩)
end Go.Proofs.Ytleckflmckbheaa

namespace Go.Proofs.Ytleckflmckbheaa
open Go.RowKit
set_option maxRecDepth 20000
theorem us3sz35 (w : World) : (sizeOf 35).run Try.prog w = .ok 1 w := rfl
theorem us3ag35 (w : World) : (isAgg 35).run Try.prog w = .ok false w := rfl
theorem us3nm68 : (Try.f68.name == "runtime.NumGoroutine") = false := by decide
theorem us3bd68 : Try.f68.body.isNone = false := rfl
set_option maxHeartbeats 1000000 in
theorem pis_any (g n c : Nat) (xs : List Int) (w : World) (h : Rw 35 w g n c xs) (hn : n ≤ 1000000) (a b : Nat) (hab : a < b) (hb : b ≤ n) (hL : Low a b xs) :
  Calls Try.prog 67 #[.slice (some ⟨g, 0, none⟩) n c, .int .i64 ((a : Nat) : Int), .int .i64 ((b : Nat) : Int)] w (RC (α := Bool) (fun x => .bool x) (fun x ys => Pin a b xs ys ∧ (x = true → Srt a b ys)) 35 g n c w) := by
 have hl := h.len
 refine begin_ (vs := [.slice (some ⟨g, 0, none⟩) n c, .int .i64 ((a : Nat) : Int), .int .i64 ((b : Nat) : Int)]) (I := Pm ⟨wbut w g, g⟩ (.row (.slice (some ⟨g, 0, none⟩) n c) 35 1 n (uv xs) :: oths g w)) Try.func67 rfl rfl rfl ?_ (Pm.rowStart h)
 refine TC.seq_ (TC.region ?_)
 refine TL.as_ ?_
 refine TL.end_ (TX.then_ (TC.seq_ (TC.region ?_)))
 refine TL.mv ?_
 refine TL.val rfl rfl rfl (gives_bin rfl rfl rfl (fun w => bin_add_ (r := ((a + 1 : Nat) : Int)) (by simp only [IntKind.wrap_i64]; omega) w)) ?_
 refine TL.as_ ?_
 refine TL.end_ (TX.then_ (TC.seq_ (TC.seq_ (TC.region ?_))))
 refine TL.as_ ?_
 refine TL.end_ (TX.then_ (TC.block ?_))
 refine TC.loop_ (α := {y : Nat × Nat × List Int // y.1 ≤ 5 ∧ a < y.2.1 ∧ y.2.1 ≤ b ∧ Pin a b xs y.2.2 ∧ Srt a y.2.1 y.2.2 ∧ y.2.2.length = n}) (fun y => [(0, .slice (some ⟨g, 0, none⟩) n c), (1, .int .i64 ((a : Nat) : Int)), (2, .int .i64 ((b : Nat) : Int)), (7, .int .i64 ((y.1.2.1 : Nat) : Int)), (8, .int .i64 ((y.1.1 : Nat) : Int))]) (fun y => Pm ⟨wbut w g, g⟩ ([.row (.slice (some ⟨g, 0, none⟩) n c) 35 1 n (uv y.1.2.2)] ++ oths g w)) (fun y => 5 - y.1.1) (⟨(0, a + 1, xs), by dsimp only; omega, by dsimp only; omega, by dsimp only; omega, Pin.refl _ _ _, Srt.one (Nat.le_refl _), hl⟩) ⟨rfl, rfl, rfl, rfl, rfl, trivial⟩ (fun w1 hw => hw) ?_
 rintro ⟨⟨t, i0, ys⟩, ht, hi1, hi2, hP, hS0, hly⟩
 dsimp only at ht hi1 hi2 hP hS0 hly ⊢
 refine TC.seq_ (TC.seq_ (TC.region ?_))
 refine TL.mv ?_
 refine TL.vsplit rfl rfl rfl (gives_bin rfl rfl rfl (fun w => bin_lss w)) (fun h14 => ?_) (fun h14 => ?_)
 ·have q14 := of_decide_eq_true h14
  refine TL.end_ (TX.then_ (TC.condT rfl (TC.skip_ (TX.then_ (TC.seq_ (TC.block (TC.seq_ (TC.block ?_))))))))
  refine TC.loop_ (α := {y : Nat // a < y ∧ y ≤ b ∧ Srt a y ys}) (fun y => [(0, .slice (some ⟨g, 0, none⟩) n c), (1, .int .i64 ((a : Nat) : Int)), (2, .int .i64 ((b : Nat) : Int)), (7, .int .i64 ((y.1 : Nat) : Int)), (8, .int .i64 ((t : Nat) : Int))]) (fun y => Pm ⟨wbut w g, g⟩ ([.row (.slice (some ⟨g, 0, none⟩) n c) 35 1 n (uv ys)] ++ oths g w)) (fun y => b - y.1) (⟨i0, hi1, hi2, hS0⟩) ⟨rfl, rfl, rfl, rfl, rfl, trivial⟩ (fun w1 hw => hw) ?_
  rintro ⟨i, hi3, hi4, hS⟩
  try dsimp only
  refine TC.seq_ (TC.seq_ ?_)
  have hway : ¬ i < b ∨ (i < b ∧ dx ys i < dx ys (i - 1)) ∨ (i < b ∧ ¬ dx ys i < dx ys (i - 1)) := by omega
  rcases hway with p1 | ⟨p1, p2⟩ | ⟨p1, p2⟩
  ·refine TC.quiet_ (E' := ?_) (by kernel_rfl) (by kernel_rfl) (fun w hw => hw.drawn _) ?_ ?_
   rotate_left
   ·refine TQ.val rfl rfl rfl (gives_move rfl rfl) ?_
    refine TQ.val rfl rfl rfl (gives_move rfl rfl) ?_
    refine TQ.val rfl rfl rfl (gives_bin rfl rfl rfl (fun w => bin_lss_f (by omega) w)) ?_
    iterate 13 (first | refine TQ.off rfl rfl rfl rfl rfl rfl ?_ | refine TQ.val rfl rfl rfl (gives_move rfl rfl) ?_ | refine TQ.val rfl rfl rfl (gives_pick rfl rfl rfl) ?_)
    exact TQ.end_
   refine TX.then_ (TC.condF rfl (TC.exit_ (TX.then_exit (TX.then_exit (TX.in_same (TX.then_ (TC.seq_ (TC.seq_ (TC.region ?_)))))))))
   refine TL.mv ?_
   refine TL.mv ?_
   refine TL.val rfl rfl rfl (gives_bin rfl rfl rfl (fun w => bin_eql_t (by omega) w)) ?_
   refine TL.end_ (TX.then_ (TC.condT rfl (TC.seq_ (TC.region ?_))))
   refine TL.as_ ?_
   refine TL.end_ (TX.then_ (TC.ret_ (TX.then_ret (TX.in_ret (TX.then_ret (TX.then_ret (TX.in_ret (TX.then_ret ?_))))))))
   exact ret_tmp Try.results67 rfl (fun w1 hw => ⟨true, ys, rfl, ⟨hP, fun _ => hS.less (by omega)⟩, pm_rowAt hw (k := 0) rfl, hw.mapEnd (fun q hq => by simp [hq])⟩)
  ·refine TC.quiet_ (E' := ?_) (by kernel_rfl) (by kernel_rfl) (fun w hw => hw.drawn _) ?_ ?_
   rotate_left
   ·refine TQ.val rfl rfl rfl (gives_move rfl rfl) ?_
    refine TQ.val rfl rfl rfl (gives_move rfl rfl) ?_
    refine TQ.val rfl rfl rfl (gives_bin rfl rfl rfl (fun w => bin_lss_t (by omega) w)) ?_
    iterate 6 (first | refine TQ.val rfl rfl rfl (gives_move rfl rfl) ?_ | refine TQ.on rfl rfl rfl ?_)
    refine TQ.val rfl rfl rfl (gives_at (v := .pointer (some ⟨g, i, none⟩)) rfl rfl rfl (fun w => at_row Try.underlying31 us3sz35 g _ _ i (by omega) rfl w)) ?_
    refine TQ.on rfl rfl rfl ?_
    refine TQ.val rfl rfl rfl (pm_loadU (k := 0) (i := i) rfl rfl us3ag35 rfl (by omega)) ?_
    iterate 5 (first | refine TQ.on rfl rfl rfl ?_ | refine TQ.val rfl rfl rfl (gives_move rfl rfl) ?_)
    refine TQ.val rfl rfl rfl (gives_bin rfl rfl rfl (fun w => bin_sub_ (r := ((i - 1 : Nat) : Int)) (by simp only [IntKind.wrap_i64]; omega) w)) ?_
    refine TQ.on rfl rfl rfl ?_
    refine TQ.val rfl rfl rfl (gives_at (v := .pointer (some ⟨g, i - 1, none⟩)) rfl rfl rfl (fun w => at_row Try.underlying31 us3sz35 g _ _ (i - 1) (by omega) rfl w)) ?_
    refine TQ.on rfl rfl rfl ?_
    refine TQ.val rfl rfl rfl (pm_loadU (k := 0) (i := i - 1) rfl rfl us3ag35 rfl (by omega)) ?_
    refine TQ.on rfl rfl rfl ?_
    refine TQ.call (v := .bool true) rfl rfl rfl rfl rfl Try.func68 us3nm68 us3bd68 (fun w1 hw => (less_t _ _ p2 w1).mono fun en w2 ⟨h1, h2⟩ => ⟨h1, hw.below h2⟩) ?_
    refine TQ.on rfl rfl rfl ?_
    refine TQ.val rfl rfl rfl (gives_boolnot rfl rfl) ?_
    refine TQ.val rfl rfl rfl (gives_pick rfl rfl rfl) ?_
    exact TQ.end_
   refine TX.then_ (TC.condF rfl (TC.exit_ (TX.then_exit (TX.then_exit (TX.in_same (TX.then_ (TC.seq_ (TC.seq_ (TC.region ?_)))))))))
   refine TL.mv ?_
   refine TL.mv ?_
   refine TL.val rfl rfl rfl (gives_bin rfl rfl rfl (fun w => bin_eql_f (by omega) w)) ?_
   refine TL.end_ (TX.then_ (TC.condF rfl (TC.skip_ (TX.then_ (TC.seq_ (TC.seq_ (TC.region ?_)))))))
   refine TL.mv ?_
   refine TL.mv ?_
   refine TL.val rfl rfl rfl (gives_bin rfl rfl rfl (fun w => bin_sub_ (r := ((b - a : Nat) : Int)) (by simp only [IntKind.wrap_i64]; omega) w)) ?_
   refine TL.vsplit rfl rfl rfl (gives_bin rfl rfl rfl (fun w => bin_lss w)) (fun h41 => ?_) (fun h41 => ?_)
   ·have q41 := of_decide_eq_true h41
    refine TL.end_ (TX.then_ (TC.condT rfl (TC.seq_ (TC.region ?_))))
    refine TL.as_ ?_
    refine TL.end_ (TX.then_ (TC.ret_ (TX.then_ret (TX.in_ret (TX.then_ret (TX.then_ret (TX.in_ret (TX.then_ret ?_))))))))
    exact ret_tmp Try.results67 rfl (fun w1 hw => ⟨false, ys, rfl, ⟨hP, fun e => by cases e⟩, pm_rowAt hw (k := 0) rfl, hw.mapEnd (fun q hq => by simp [hq])⟩)
   ·have q41 := of_decide_eq_false h41
    refine TL.end_ (TX.then_ (TC.condF rfl (TC.skip_ (TX.then_ ?_))))
    refine TC.join (α := Unit) (fun y => [(0, .slice (some ⟨g, 0, none⟩) n c), (1, .int .i64 ((a : Nat) : Int)), (2, .int .i64 ((b : Nat) : Int)), (7, .int .i64 ((i : Nat) : Int)), (8, .int .i64 ((t : Nat) : Int))]) (fun y => Pm ⟨wbut w g, g⟩ ([.row (.slice (some ⟨g, 0, none⟩) n c) 35 1 n (uv (swp ys i (i - 1)))] ++ oths g w)) ?_ ?_
    ·refine TC.held (ls := #[Ff,Ff,Ff,Ff,Ff,Ff,Ff,Ff,Ff,Ff,Ff,Ff,Ff,Ff,Ff,Ff,Ff,Ff]) (fun _ => True) (by kernel_rfl) rfl rfl (fun w hw => hw.drawn _) ?_
     refine TH.tk (listed' := #[Tt,Ff,Ff,Ff,Ff,Ff,Ff,Ff,Ff,Ff,Ff,Ff,Ff,Ff,Ff,Ff,Ff,Ff]) 0 rfl rfl rfl (gives_move rfl rfl) (fun _ _ => trivial) ?_
     refine TH.tk (listed' := #[Tt,Tt,Ff,Ff,Ff,Ff,Ff,Ff,Ff,Ff,Ff,Ff,Ff,Ff,Ff,Ff,Ff,Ff]) 1 rfl rfl rfl (gives_move rfl rfl) (fun _ _ => trivial) ?_
     refine TH.tk (listed' := #[Tt,Tt,Tt,Ff,Ff,Ff,Ff,Ff,Ff,Ff,Ff,Ff,Ff,Ff,Ff,Ff,Ff,Ff]) 2 rfl rfl rfl (gives_move rfl rfl) (fun _ _ => trivial) ?_
     refine TH.tk (listed' := #[Tt,Tt,Tt,Tt,Ff,Ff,Ff,Ff,Ff,Ff,Ff,Ff,Ff,Ff,Ff,Ff,Ff,Ff]) 3 rfl rfl rfl (gives_move rfl rfl) (fun _ _ => trivial) ?_
     refine TH.tk (listed' := #[Tt,Tt,Tt,Tt,Tt,Ff,Ff,Ff,Ff,Ff,Ff,Ff,Ff,Ff,Ff,Ff,Ff,Ff]) 4 rfl rfl rfl (gives_bin rfl rfl rfl (fun w => bin_sub_ (r := ((i - 1 : Nat) : Int)) (by simp only [IntKind.wrap_i64]; omega) w)) (fun _ _ => trivial) ?_
     refine TH.tk (listed' := #[Tt,Tt,Tt,Tt,Tt,Tt,Ff,Ff,Ff,Ff,Ff,Ff,Ff,Ff,Ff,Ff,Ff,Ff]) 5 rfl rfl rfl (gives_move rfl rfl) (fun _ _ => trivial) ?_
     refine TH.tk (listed' := #[Tt,Tt,Tt,Tt,Tt,Tt,Tt,Ff,Ff,Ff,Ff,Ff,Ff,Ff,Ff,Ff,Ff,Ff]) 6 rfl rfl rfl (gives_move rfl rfl) (fun _ _ => trivial) ?_
     refine TH.tk (listed' := #[Tt,Tt,Tt,Tt,Tt,Tt,Tt,Tt,Ff,Ff,Ff,Ff,Ff,Ff,Ff,Ff,Ff,Ff]) 7 rfl rfl rfl (gives_bin rfl rfl rfl (fun w => bin_sub_ (r := ((i - 1 : Nat) : Int)) (by simp only [IntKind.wrap_i64]; omega) w)) (fun _ _ => trivial) ?_
     refine TH.tk (listed' := #[Tt,Tt,Tt,Tt,Tt,Tt,Tt,Tt,Tt,Ff,Ff,Ff,Ff,Ff,Ff,Ff,Ff,Ff]) 8 rfl rfl rfl (gives_at (v := .pointer (some ⟨g, i - 1, none⟩)) rfl rfl rfl (fun w => at_row Try.underlying31 us3sz35 g _ _ (i - 1) (by omega) rfl w)) (fun _ _ => trivial) ?_
     refine TH.tk (listed' := #[Tt,Tt,Tt,Tt,Tt,Tt,Tt,Tt,Tt,Ff,Tt,Ff,Ff,Ff,Ff,Ff,Ff,Ff]) 10 rfl rfl rfl (gives_move rfl rfl) (fun _ _ => trivial) ?_
     refine TH.tk (listed' := #[Tt,Tt,Tt,Tt,Tt,Tt,Tt,Tt,Tt,Ff,Tt,Tt,Ff,Ff,Ff,Ff,Ff,Ff]) 11 rfl rfl rfl (gives_move rfl rfl) (fun _ _ => trivial) ?_
     refine TH.tk (listed' := #[Tt,Tt,Tt,Tt,Tt,Tt,Tt,Tt,Tt,Ff,Tt,Tt,Tt,Ff,Ff,Ff,Ff,Ff]) 12 rfl rfl rfl (gives_at (v := .pointer (some ⟨g, i, none⟩)) rfl rfl rfl (fun w => at_row Try.underlying31 us3sz35 g _ _ i (by omega) rfl w)) (fun _ _ => trivial) ?_
     refine TH.two' (listed1 := #[Tt,Tt,Tt,Tt,Tt,Tt,Tt,Tt,Tt,Tt,Tt,Tt,Tt,Ff,Ff,Ff,Ff,Ff]) (listed2 := #[Tt,Tt,Tt,Tt,Tt,Tt,Tt,Tt,Tt,Ff,Tt,Tt,Tt,Tt,Ff,Ff,Ff,Ff]) 9 13 rfl rfl (by kernel_rfl) rfl rfl ?_ ?_
     ·refine TL.val rfl rfl rfl (pm_loadU (k := 0) (i := i - 1) rfl rfl us3ag35 rfl (by omega)) ?_
      refine TL.end_ ?_
      refine TX.held (fun _ _ => trivial) ?_
      refine TH.only' (listed' := #[Tt,Tt,Tt,Tt,Tt,Tt,Tt,Tt,Tt,Tt,Tt,Tt,Tt,Tt,Ff,Ff,Ff,Ff]) 13 rfl (by kernel_rfl) rfl ?_
      refine TL.val rfl rfl rfl (pm_loadU (k := 0) (i := i) rfl rfl us3ag35 rfl (by omega)) ?_
      refine TL.end_ ?_
      refine TX.held (fun _ _ => trivial) ?_
      refine TH.tk (listed' := #[Tt,Tt,Tt,Tt,Tt,Tt,Tt,Tt,Tt,Tt,Tt,Tt,Tt,Tt,Tt,Ff,Ff,Ff]) 14 rfl rfl rfl (gives_at (v := .pointer (some ⟨g, i, none⟩)) rfl rfl rfl (fun w => at_row Try.underlying31 us3sz35 g _ _ i (by omega) rfl w)) (fun _ _ => trivial) ?_
      refine TH.only' (listed' := #[Tt,Tt,Tt,Tt,Tt,Tt,Tt,Tt,Tt,Tt,Tt,Tt,Tt,Tt,Tt,Tt,Ff,Ff]) 15 rfl (by kernel_rfl) rfl ?_
      refine TL.uset (k := 0) (i := i) rfl rfl rfl rfl rfl rfl us3sz35 (by omega) ?_
      refine TL.end_ ?_
      refine TX.held (fun _ _ => trivial) ?_
      refine TH.tk (listed' := #[Tt,Tt,Tt,Tt,Tt,Tt,Tt,Tt,Tt,Tt,Tt,Tt,Tt,Tt,Tt,Tt,Tt,Ff]) 16 rfl rfl rfl (gives_at (v := .pointer (some ⟨g, i - 1, none⟩)) rfl rfl rfl (fun w => at_row Try.underlying31 us3sz35 g _ _ (i - 1) (by omega) rfl w)) (fun _ _ => trivial) ?_
      refine TH.only' (listed' := #[Tt,Tt,Tt,Tt,Tt,Tt,Tt,Tt,Tt,Tt,Tt,Tt,Tt,Tt,Tt,Tt,Tt,Tt]) 17 rfl (by kernel_rfl) rfl ?_
      refine TL.uset (k := 0) (i := i - 1) rfl rfl rfl rfl rfl rfl us3sz35 (by rw [List.length_set]; omega) ?_
      refine TL.end_ ?_
      refine TX.held (fun _ _ => trivial) ?_
      refine TH.done (by kernel_rfl) ?_
      exact TX.joined (()) (⟨rfl, rfl, rfl, rfl, rfl, trivial⟩) (fun w1 hw => hw)
     ·refine TL.val rfl rfl rfl (pm_loadU (k := 0) (i := i) rfl rfl us3ag35 rfl (by omega)) ?_
      refine TL.end_ ?_
      refine TX.held (fun _ _ => trivial) ?_
      refine TH.only' (listed' := #[Tt,Tt,Tt,Tt,Tt,Tt,Tt,Tt,Tt,Tt,Tt,Tt,Tt,Tt,Ff,Ff,Ff,Ff]) 9 rfl (by kernel_rfl) rfl ?_
      refine TL.val rfl rfl rfl (pm_loadU (k := 0) (i := i - 1) rfl rfl us3ag35 rfl (by omega)) ?_
      refine TL.end_ ?_
      refine TX.held (fun _ _ => trivial) ?_
      refine TH.tk (listed' := #[Tt,Tt,Tt,Tt,Tt,Tt,Tt,Tt,Tt,Tt,Tt,Tt,Tt,Tt,Tt,Ff,Ff,Ff]) 14 rfl rfl rfl (gives_at (v := .pointer (some ⟨g, i, none⟩)) rfl rfl rfl (fun w => at_row Try.underlying31 us3sz35 g _ _ i (by omega) rfl w)) (fun _ _ => trivial) ?_
      refine TH.only' (listed' := #[Tt,Tt,Tt,Tt,Tt,Tt,Tt,Tt,Tt,Tt,Tt,Tt,Tt,Tt,Tt,Tt,Ff,Ff]) 15 rfl (by kernel_rfl) rfl ?_
      refine TL.uset (k := 0) (i := i) rfl rfl rfl rfl rfl rfl us3sz35 (by omega) ?_
      refine TL.end_ ?_
      refine TX.held (fun _ _ => trivial) ?_
      refine TH.tk (listed' := #[Tt,Tt,Tt,Tt,Tt,Tt,Tt,Tt,Tt,Tt,Tt,Tt,Tt,Tt,Tt,Tt,Tt,Ff]) 16 rfl rfl rfl (gives_at (v := .pointer (some ⟨g, i - 1, none⟩)) rfl rfl rfl (fun w => at_row Try.underlying31 us3sz35 g _ _ (i - 1) (by omega) rfl w)) (fun _ _ => trivial) ?_
      refine TH.only' (listed' := #[Tt,Tt,Tt,Tt,Tt,Tt,Tt,Tt,Tt,Tt,Tt,Tt,Tt,Tt,Tt,Tt,Tt,Tt]) 17 rfl (by kernel_rfl) rfl ?_
      refine TL.uset (k := 0) (i := i - 1) rfl rfl rfl rfl rfl rfl us3sz35 (by rw [List.length_set]; omega) ?_
      refine TL.end_ ?_
      refine TX.held (fun _ _ => trivial) ?_
      refine TH.done (by kernel_rfl) ?_
      exact TX.joined (()) (⟨rfl, rfl, rfl, rfl, rfl, trivial⟩) (fun w1 hw => hw)
    ·rintro u
     have hQ : Pin a b xs (swp ys i (i - 1)) := hP.swap (by omega) (by omega) (by omega) (by omega) (by omega)
     have hlq : (swp ys i (i - 1)).length = n := by rw [swp_len]; exact hly
     have hSq : Srt a (i - 1) (swp ys i (i - 1)) := (hS.less (by omega)).same (fun k k1 k2 => by rw [swp_dx (by omega) (by omega), if_neg (by omega), if_neg (by omega)])
     refine TC.join (α := {zs : List Int // Pin a b xs zs ∧ Srt a i zs ∧ zs.length = n}) (fun y => [(0, .slice (some ⟨g, 0, none⟩) n c), (1, .int .i64 ((a : Nat) : Int)), (2, .int .i64 ((b : Nat) : Int)), (7, .int .i64 ((i : Nat) : Int)), (8, .int .i64 ((t : Nat) : Int))]) (fun y => Pm ⟨wbut w g, g⟩ ([.row (.slice (some ⟨g, 0, none⟩) n c) 35 1 n (uv y.1)] ++ oths g w)) ?_ ?_
     ·refine TC.seq_ (TC.region ?_)
      refine TL.mv ?_
      refine TL.mv ?_
      refine TL.val rfl rfl rfl (gives_bin rfl rfl rfl (fun w => bin_sub_ (r := ((i - a : Nat) : Int)) (by simp only [IntKind.wrap_i64]; omega) w)) ?_
      refine TL.vsplit rfl rfl rfl (gives_bin rfl rfl rfl (fun w => bin_geq w)) (fun h61 => ?_) (fun h61 => ?_)
      ·have q61 := of_decide_eq_true h61
       refine TL.end_ (TX.then_ (TC.condT rfl (TC.seq_ (TC.region ?_))))
       refine TL.mv ?_
       refine TL.val rfl rfl rfl (gives_bin rfl rfl rfl (fun w => bin_sub_ (r := ((i - 1 : Nat) : Int)) (by simp only [IntKind.wrap_i64]; omega) w)) ?_
       refine TL.as_ ?_
       refine TL.end_ (TX.then_ (TC.block ?_))
       refine TC.loop_ (α := {y : Nat × List Int // a ≤ y.1 ∧ y.1 ≤ i - 1 ∧ Pin a b xs y.2 ∧ Ins a (i - 1) y.1 y.2 ∧ y.2.length = n}) (fun y => [(0, .slice (some ⟨g, 0, none⟩) n c), (1, .int .i64 ((a : Nat) : Int)), (2, .int .i64 ((b : Nat) : Int)), (7, .int .i64 ((i : Nat) : Int)), (8, .int .i64 ((t : Nat) : Int)), (9, .int .i64 ((y.1.1 : Nat) : Int))]) (fun y => Pm ⟨wbut w g, g⟩ ([.row (.slice (some ⟨g, 0, none⟩) n c) 35 1 n (uv y.1.2)] ++ oths g w)) (fun y => y.1.1) (⟨(i - 1, swp ys i (i - 1)), by dsimp only; omega, Nat.le_refl _, hQ, Ins.start hSq, hlq⟩) ⟨rfl, rfl, rfl, rfl, rfl, rfl, trivial⟩ (fun w1 hw => hw) ?_
       rintro ⟨⟨j, zs⟩, hj1, hj2, hR, hI, hlz⟩
       dsimp only at hj1 hj2 hR hI hlz ⊢
       refine TC.seq_ (TC.seq_ (TC.region ?_))
       refine TL.mv ?_
       refine TL.vsplit rfl rfl rfl (gives_bin rfl rfl rfl (fun w => bin_geq w)) (fun h65 => ?_) (fun h65 => ?_)
       ·have q65 := of_decide_eq_true h65
        refine TL.end_ (TX.then_ (TC.condT rfl (TC.skip_ (TX.then_ (TC.seq_ (TC.block (TC.seq_ (TC.seq_ ?_))))))))
        rcases Classical.em (dx zs j < dx zs (j - 1)) with p4 | p4
        ·have haj : a < j := Nat.lt_of_not_le fun hh => by have := (hL.pin hR) (j - 1) j (by omega) (by omega) (by omega); omega
         refine TC.quiet_ (E' := ?_) (by kernel_rfl) (by kernel_rfl) (fun w hw => hw.drawn _) ?_ ?_
         rotate_left
         ·refine TQ.val rfl rfl rfl (gives_move rfl rfl) ?_
          refine TQ.val rfl rfl rfl (gives_move rfl rfl) ?_
          refine TQ.val rfl rfl rfl (gives_at (v := .pointer (some ⟨g, j, none⟩)) rfl rfl rfl (fun w => at_row Try.underlying31 us3sz35 g _ _ j (by omega) rfl w)) ?_
          refine TQ.val rfl rfl rfl (pm_loadU (k := 0) (i := j) rfl rfl us3ag35 rfl (by omega)) ?_
          refine TQ.val rfl rfl rfl (gives_move rfl rfl) ?_
          refine TQ.val rfl rfl rfl (gives_move rfl rfl) ?_
          refine TQ.val rfl rfl rfl (gives_bin rfl rfl rfl (fun w => bin_sub_ (r := ((j - 1 : Nat) : Int)) (by simp only [IntKind.wrap_i64]; omega) w)) ?_
          refine TQ.val rfl rfl rfl (gives_at (v := .pointer (some ⟨g, j - 1, none⟩)) rfl rfl rfl (fun w => at_row Try.underlying31 us3sz35 g _ _ (j - 1) (by omega) rfl w)) ?_
          refine TQ.val rfl rfl rfl (pm_loadU (k := 0) (i := j - 1) rfl rfl us3ag35 rfl (by omega)) ?_
          refine TQ.call (v := .bool true) rfl rfl rfl rfl rfl Try.func68 us3nm68 us3bd68 (fun w1 hw => (less_t _ _ p4 w1).mono fun en w2 ⟨h1, h2⟩ => ⟨h1, hw.below h2⟩) ?_
          refine TQ.val rfl rfl rfl (gives_boolnot rfl rfl) ?_
          exact TQ.end_
         refine TX.then_ (TC.condF rfl (TC.skip_ (TX.then_ ?_)))
         refine TC.held (ls := #[Ff,Ff,Ff,Ff,Ff,Ff,Ff,Ff,Ff,Ff,Ff,Ff,Ff,Ff,Ff,Ff,Ff,Ff]) (fun _ => True) (by kernel_rfl) rfl rfl (fun w hw => hw.drawn _) ?_
         refine TH.tk (listed' := #[Tt,Ff,Ff,Ff,Ff,Ff,Ff,Ff,Ff,Ff,Ff,Ff,Ff,Ff,Ff,Ff,Ff,Ff]) 0 rfl rfl rfl (gives_move rfl rfl) (fun _ _ => trivial) ?_
         refine TH.tk (listed' := #[Tt,Tt,Ff,Ff,Ff,Ff,Ff,Ff,Ff,Ff,Ff,Ff,Ff,Ff,Ff,Ff,Ff,Ff]) 1 rfl rfl rfl (gives_move rfl rfl) (fun _ _ => trivial) ?_
         refine TH.tk (listed' := #[Tt,Tt,Tt,Ff,Ff,Ff,Ff,Ff,Ff,Ff,Ff,Ff,Ff,Ff,Ff,Ff,Ff,Ff]) 2 rfl rfl rfl (gives_move rfl rfl) (fun _ _ => trivial) ?_
         refine TH.tk (listed' := #[Tt,Tt,Tt,Tt,Ff,Ff,Ff,Ff,Ff,Ff,Ff,Ff,Ff,Ff,Ff,Ff,Ff,Ff]) 3 rfl rfl rfl (gives_move rfl rfl) (fun _ _ => trivial) ?_
         refine TH.tk (listed' := #[Tt,Tt,Tt,Tt,Tt,Ff,Ff,Ff,Ff,Ff,Ff,Ff,Ff,Ff,Ff,Ff,Ff,Ff]) 4 rfl rfl rfl (gives_bin rfl rfl rfl (fun w => bin_sub_ (r := ((j - 1 : Nat) : Int)) (by simp only [IntKind.wrap_i64]; omega) w)) (fun _ _ => trivial) ?_
         refine TH.tk (listed' := #[Tt,Tt,Tt,Tt,Tt,Tt,Ff,Ff,Ff,Ff,Ff,Ff,Ff,Ff,Ff,Ff,Ff,Ff]) 5 rfl rfl rfl (gives_move rfl rfl) (fun _ _ => trivial) ?_
         refine TH.tk (listed' := #[Tt,Tt,Tt,Tt,Tt,Tt,Tt,Ff,Ff,Ff,Ff,Ff,Ff,Ff,Ff,Ff,Ff,Ff]) 6 rfl rfl rfl (gives_move rfl rfl) (fun _ _ => trivial) ?_
         refine TH.tk (listed' := #[Tt,Tt,Tt,Tt,Tt,Tt,Tt,Tt,Ff,Ff,Ff,Ff,Ff,Ff,Ff,Ff,Ff,Ff]) 7 rfl rfl rfl (gives_bin rfl rfl rfl (fun w => bin_sub_ (r := ((j - 1 : Nat) : Int)) (by simp only [IntKind.wrap_i64]; omega) w)) (fun _ _ => trivial) ?_
         refine TH.tk (listed' := #[Tt,Tt,Tt,Tt,Tt,Tt,Tt,Tt,Tt,Ff,Ff,Ff,Ff,Ff,Ff,Ff,Ff,Ff]) 8 rfl rfl rfl (gives_at (v := .pointer (some ⟨g, j - 1, none⟩)) rfl rfl rfl (fun w => at_row Try.underlying31 us3sz35 g _ _ (j - 1) (by omega) rfl w)) (fun _ _ => trivial) ?_
         refine TH.tk (listed' := #[Tt,Tt,Tt,Tt,Tt,Tt,Tt,Tt,Tt,Ff,Tt,Ff,Ff,Ff,Ff,Ff,Ff,Ff]) 10 rfl rfl rfl (gives_move rfl rfl) (fun _ _ => trivial) ?_
         refine TH.tk (listed' := #[Tt,Tt,Tt,Tt,Tt,Tt,Tt,Tt,Tt,Ff,Tt,Tt,Ff,Ff,Ff,Ff,Ff,Ff]) 11 rfl rfl rfl (gives_move rfl rfl) (fun _ _ => trivial) ?_
         refine TH.tk (listed' := #[Tt,Tt,Tt,Tt,Tt,Tt,Tt,Tt,Tt,Ff,Tt,Tt,Tt,Ff,Ff,Ff,Ff,Ff]) 12 rfl rfl rfl (gives_at (v := .pointer (some ⟨g, j, none⟩)) rfl rfl rfl (fun w => at_row Try.underlying31 us3sz35 g _ _ j (by omega) rfl w)) (fun _ _ => trivial) ?_
         refine TH.two' (listed1 := #[Tt,Tt,Tt,Tt,Tt,Tt,Tt,Tt,Tt,Tt,Tt,Tt,Tt,Ff,Ff,Ff,Ff,Ff]) (listed2 := #[Tt,Tt,Tt,Tt,Tt,Tt,Tt,Tt,Tt,Ff,Tt,Tt,Tt,Tt,Ff,Ff,Ff,Ff]) 9 13 rfl rfl (by kernel_rfl) rfl rfl ?_ ?_
         ·refine TL.val rfl rfl rfl (pm_loadU (k := 0) (i := j - 1) rfl rfl us3ag35 rfl (by omega)) ?_
          refine TL.end_ ?_
          refine TX.held (fun _ _ => trivial) ?_
          refine TH.only' (listed' := #[Tt,Tt,Tt,Tt,Tt,Tt,Tt,Tt,Tt,Tt,Tt,Tt,Tt,Tt,Ff,Ff,Ff,Ff]) 13 rfl (by kernel_rfl) rfl ?_
          refine TL.val rfl rfl rfl (pm_loadU (k := 0) (i := j) rfl rfl us3ag35 rfl (by omega)) ?_
          refine TL.end_ ?_
          refine TX.held (fun _ _ => trivial) ?_
          refine TH.tk (listed' := #[Tt,Tt,Tt,Tt,Tt,Tt,Tt,Tt,Tt,Tt,Tt,Tt,Tt,Tt,Tt,Ff,Ff,Ff]) 14 rfl rfl rfl (gives_at (v := .pointer (some ⟨g, j, none⟩)) rfl rfl rfl (fun w => at_row Try.underlying31 us3sz35 g _ _ j (by omega) rfl w)) (fun _ _ => trivial) ?_
          refine TH.only' (listed' := #[Tt,Tt,Tt,Tt,Tt,Tt,Tt,Tt,Tt,Tt,Tt,Tt,Tt,Tt,Tt,Tt,Ff,Ff]) 15 rfl (by kernel_rfl) rfl ?_
          refine TL.uset (k := 0) (i := j) rfl rfl rfl rfl rfl rfl us3sz35 (by omega) ?_
          refine TL.end_ ?_
          refine TX.held (fun _ _ => trivial) ?_
          refine TH.tk (listed' := #[Tt,Tt,Tt,Tt,Tt,Tt,Tt,Tt,Tt,Tt,Tt,Tt,Tt,Tt,Tt,Tt,Tt,Ff]) 16 rfl rfl rfl (gives_at (v := .pointer (some ⟨g, j - 1, none⟩)) rfl rfl rfl (fun w => at_row Try.underlying31 us3sz35 g _ _ (j - 1) (by omega) rfl w)) (fun _ _ => trivial) ?_
          refine TH.only' (listed' := #[Tt,Tt,Tt,Tt,Tt,Tt,Tt,Tt,Tt,Tt,Tt,Tt,Tt,Tt,Tt,Tt,Tt,Tt]) 17 rfl (by kernel_rfl) rfl ?_
          refine TL.uset (k := 0) (i := j - 1) rfl rfl rfl rfl rfl rfl us3sz35 (by rw [List.length_set]; omega) ?_
          refine TL.end_ ?_
          refine TX.held (fun _ _ => trivial) ?_
          refine TH.done (by kernel_rfl) ?_
          refine TX.in_normal (TX.then_ (TC.region ?_))
          refine TL.mv ?_
          refine TL.val rfl rfl rfl (gives_bin rfl rfl rfl (fun w => bin_sub_ (r := ((j - 1 : Nat) : Int)) (by simp only [IntKind.wrap_i64]; omega) w)) ?_
          refine TL.as_ ?_
          refine TL.end_ ?_
          exact TX.round (⟨(j - 1, swp zs j (j - 1)), by dsimp only; omega, by dsimp only; omega, hR.swap (by omega) (by omega) (by omega) (by omega) (by omega), hI.down haj hj2 (by omega) p4, by rw [swp_len]; exact hlz⟩) (by show j - 1 < j; omega) ⟨rfl, rfl, rfl, rfl, rfl, rfl, trivial⟩ (fun w1 hw => hw)
         ·refine TL.val rfl rfl rfl (pm_loadU (k := 0) (i := j) rfl rfl us3ag35 rfl (by omega)) ?_
          refine TL.end_ ?_
          refine TX.held (fun _ _ => trivial) ?_
          refine TH.only' (listed' := #[Tt,Tt,Tt,Tt,Tt,Tt,Tt,Tt,Tt,Tt,Tt,Tt,Tt,Tt,Ff,Ff,Ff,Ff]) 9 rfl (by kernel_rfl) rfl ?_
          refine TL.val rfl rfl rfl (pm_loadU (k := 0) (i := j - 1) rfl rfl us3ag35 rfl (by omega)) ?_
          refine TL.end_ ?_
          refine TX.held (fun _ _ => trivial) ?_
          refine TH.tk (listed' := #[Tt,Tt,Tt,Tt,Tt,Tt,Tt,Tt,Tt,Tt,Tt,Tt,Tt,Tt,Tt,Ff,Ff,Ff]) 14 rfl rfl rfl (gives_at (v := .pointer (some ⟨g, j, none⟩)) rfl rfl rfl (fun w => at_row Try.underlying31 us3sz35 g _ _ j (by omega) rfl w)) (fun _ _ => trivial) ?_
          refine TH.only' (listed' := #[Tt,Tt,Tt,Tt,Tt,Tt,Tt,Tt,Tt,Tt,Tt,Tt,Tt,Tt,Tt,Tt,Ff,Ff]) 15 rfl (by kernel_rfl) rfl ?_
          refine TL.uset (k := 0) (i := j) rfl rfl rfl rfl rfl rfl us3sz35 (by omega) ?_
          refine TL.end_ ?_
          refine TX.held (fun _ _ => trivial) ?_
          refine TH.tk (listed' := #[Tt,Tt,Tt,Tt,Tt,Tt,Tt,Tt,Tt,Tt,Tt,Tt,Tt,Tt,Tt,Tt,Tt,Ff]) 16 rfl rfl rfl (gives_at (v := .pointer (some ⟨g, j - 1, none⟩)) rfl rfl rfl (fun w => at_row Try.underlying31 us3sz35 g _ _ (j - 1) (by omega) rfl w)) (fun _ _ => trivial) ?_
          refine TH.only' (listed' := #[Tt,Tt,Tt,Tt,Tt,Tt,Tt,Tt,Tt,Tt,Tt,Tt,Tt,Tt,Tt,Tt,Tt,Tt]) 17 rfl (by kernel_rfl) rfl ?_
          refine TL.uset (k := 0) (i := j - 1) rfl rfl rfl rfl rfl rfl us3sz35 (by rw [List.length_set]; omega) ?_
          refine TL.end_ ?_
          refine TX.held (fun _ _ => trivial) ?_
          refine TH.done (by kernel_rfl) ?_
          refine TX.in_normal (TX.then_ (TC.region ?_))
          refine TL.mv ?_
          refine TL.val rfl rfl rfl (gives_bin rfl rfl rfl (fun w => bin_sub_ (r := ((j - 1 : Nat) : Int)) (by simp only [IntKind.wrap_i64]; omega) w)) ?_
          refine TL.as_ ?_
          refine TL.end_ ?_
          exact TX.round (⟨(j - 1, swp zs j (j - 1)), by dsimp only; omega, by dsimp only; omega, hR.swap (by omega) (by omega) (by omega) (by omega) (by omega), hI.down haj hj2 (by omega) p4, by rw [swp_len]; exact hlz⟩) (by show j - 1 < j; omega) ⟨rfl, rfl, rfl, rfl, rfl, rfl, trivial⟩ (fun w1 hw => hw)
        ·have hSr : Srt a i zs := by have := hI.stop (fun _ => by omega); rwa [show i - 1 + 1 = i by omega] at this
         refine TC.quiet_ (E' := ?_) (by kernel_rfl) (by kernel_rfl) (fun w hw => hw.drawn _) ?_ ?_
         rotate_left
         ·refine TQ.val rfl rfl rfl (gives_move rfl rfl) ?_
          refine TQ.val rfl rfl rfl (gives_move rfl rfl) ?_
          refine TQ.val rfl rfl rfl (gives_at (v := .pointer (some ⟨g, j, none⟩)) rfl rfl rfl (fun w => at_row Try.underlying31 us3sz35 g _ _ j (by omega) rfl w)) ?_
          refine TQ.val rfl rfl rfl (pm_loadU (k := 0) (i := j) rfl rfl us3ag35 rfl (by omega)) ?_
          refine TQ.val rfl rfl rfl (gives_move rfl rfl) ?_
          refine TQ.val rfl rfl rfl (gives_move rfl rfl) ?_
          refine TQ.val rfl rfl rfl (gives_bin rfl rfl rfl (fun w => bin_sub_ (r := ((j - 1 : Nat) : Int)) (by simp only [IntKind.wrap_i64]; omega) w)) ?_
          refine TQ.val rfl rfl rfl (gives_at (v := .pointer (some ⟨g, j - 1, none⟩)) rfl rfl rfl (fun w => at_row Try.underlying31 us3sz35 g _ _ (j - 1) (by omega) rfl w)) ?_
          refine TQ.val rfl rfl rfl (pm_loadU (k := 0) (i := j - 1) rfl rfl us3ag35 rfl (by omega)) ?_
          refine TQ.call (v := .bool false) rfl rfl rfl rfl rfl Try.func68 us3nm68 us3bd68 (fun w1 hw => (less_f _ _ p4 w1).mono fun en w2 ⟨h1, h2⟩ => ⟨h1, hw.below h2⟩) ?_
          refine TQ.val rfl rfl rfl (gives_boolnot rfl rfl) ?_
          exact TQ.end_
         refine TX.then_ (TC.condT rfl (TC.exit_ (TX.then_exit (TX.in_other rfl (TX.then_exit (TX.then_exit (TX.in_same ?_)))))))
         exact TX.joined (⟨zs, hR, hSr, hlz⟩) (⟨rfl, rfl, rfl, rfl, rfl, trivial⟩) (fun w1 hw => hw)
       ·have q65 := of_decide_eq_false h65
        have hSr : Srt a i zs := by have := hI.stop (fun hh => by omega); rwa [show i - 1 + 1 = i by omega] at this
        refine TL.end_ (TX.then_ (TC.condF rfl (TC.exit_ (TX.then_exit (TX.then_exit (TX.in_same ?_))))))
        exact TX.joined (⟨zs, hR, hSr, hlz⟩) (⟨rfl, rfl, rfl, rfl, rfl, trivial⟩) (fun w1 hw => hw)
      ·have q61 := of_decide_eq_false h61
       refine TL.end_ (TX.then_ (TC.condF rfl (TC.skip_ ?_)))
       exact TX.joined (⟨swp ys i (i - 1), hQ, Srt.one (by omega), hlq⟩) (⟨rfl, rfl, rfl, rfl, rfl, trivial⟩) (fun w1 hw => hw)
     ·rintro ⟨us, hU, hSu, hlu⟩
      try dsimp only
      refine TC.seq_ (TC.region ?_)
      refine TL.mv ?_
      refine TL.mv ?_
      refine TL.val rfl rfl rfl (gives_bin rfl rfl rfl (fun w => bin_sub_ (r := ((b - i : Nat) : Int)) (by simp only [IntKind.wrap_i64]; omega) w)) ?_
      refine TL.vsplit rfl rfl rfl (gives_bin rfl rfl rfl (fun w => bin_geq w)) (fun h98 => ?_) (fun h98 => ?_)
      ·have q98 := of_decide_eq_true h98
       refine TL.end_ (TX.then_ (TC.condT rfl (TC.seq_ (TC.region ?_))))
       refine TL.mv ?_
       refine TL.val rfl rfl rfl (gives_bin rfl rfl rfl (fun w => bin_add_ (r := ((i + 1 : Nat) : Int)) (by simp only [IntKind.wrap_i64]; omega) w)) ?_
       refine TL.as_ ?_
       refine TL.end_ (TX.then_ (TC.block ?_))
       refine TC.loop_ (α := {y : Nat × List Int // i < y.1 ∧ y.1 ≤ b ∧ Pin a b xs y.2 ∧ Srt a i y.2 ∧ y.2.length = n}) (fun y => [(0, .slice (some ⟨g, 0, none⟩) n c), (1, .int .i64 ((a : Nat) : Int)), (2, .int .i64 ((b : Nat) : Int)), (7, .int .i64 ((i : Nat) : Int)), (8, .int .i64 ((t : Nat) : Int)), (10, .int .i64 ((y.1.1 : Nat) : Int))]) (fun y => Pm ⟨wbut w g, g⟩ ([.row (.slice (some ⟨g, 0, none⟩) n c) 35 1 n (uv y.1.2)] ++ oths g w)) (fun y => b - y.1.1) (⟨(i + 1, us), by dsimp only; omega, by dsimp only; omega, hU, hSu, hlu⟩) ⟨rfl, rfl, rfl, rfl, rfl, rfl, trivial⟩ (fun w1 hw => hw) ?_
       rintro ⟨⟨j, vs⟩, hj1, hj2, hV, hSv, hlv⟩
       dsimp only at hj1 hj2 hV hSv hlv ⊢
       refine TC.seq_ (TC.seq_ (TC.region ?_))
       refine TL.mv ?_
       refine TL.mv ?_
       refine TL.vsplit rfl rfl rfl (gives_bin rfl rfl rfl (fun w => bin_lss w)) (fun h103 => ?_) (fun h103 => ?_)
       ·have q103 := of_decide_eq_true h103
        refine TL.end_ (TX.then_ (TC.condT rfl (TC.skip_ (TX.then_ (TC.seq_ (TC.block (TC.seq_ (TC.seq_ ?_))))))))
        rcases Classical.em (dx vs j < dx vs (j - 1)) with p5 | p5
        ·refine TC.quiet_ (E' := ?_) (by kernel_rfl) (by kernel_rfl) (fun w hw => hw.drawn _) ?_ ?_
         rotate_left
         ·refine TQ.val rfl rfl rfl (gives_move rfl rfl) ?_
          refine TQ.val rfl rfl rfl (gives_move rfl rfl) ?_
          refine TQ.val rfl rfl rfl (gives_at (v := .pointer (some ⟨g, j, none⟩)) rfl rfl rfl (fun w => at_row Try.underlying31 us3sz35 g _ _ j (by omega) rfl w)) ?_
          refine TQ.val rfl rfl rfl (pm_loadU (k := 0) (i := j) rfl rfl us3ag35 rfl (by omega)) ?_
          refine TQ.val rfl rfl rfl (gives_move rfl rfl) ?_
          refine TQ.val rfl rfl rfl (gives_move rfl rfl) ?_
          refine TQ.val rfl rfl rfl (gives_bin rfl rfl rfl (fun w => bin_sub_ (r := ((j - 1 : Nat) : Int)) (by simp only [IntKind.wrap_i64]; omega) w)) ?_
          refine TQ.val rfl rfl rfl (gives_at (v := .pointer (some ⟨g, j - 1, none⟩)) rfl rfl rfl (fun w => at_row Try.underlying31 us3sz35 g _ _ (j - 1) (by omega) rfl w)) ?_
          refine TQ.val rfl rfl rfl (pm_loadU (k := 0) (i := j - 1) rfl rfl us3ag35 rfl (by omega)) ?_
          refine TQ.call (v := .bool true) rfl rfl rfl rfl rfl Try.func68 us3nm68 us3bd68 (fun w1 hw => (less_t _ _ p5 w1).mono fun en w2 ⟨h1, h2⟩ => ⟨h1, hw.below h2⟩) ?_
          refine TQ.val rfl rfl rfl (gives_boolnot rfl rfl) ?_
          exact TQ.end_
         refine TX.then_ (TC.condF rfl (TC.skip_ (TX.then_ ?_)))
         refine TC.held (ls := #[Ff,Ff,Ff,Ff,Ff,Ff,Ff,Ff,Ff,Ff,Ff,Ff,Ff,Ff,Ff,Ff,Ff,Ff]) (fun _ => True) (by kernel_rfl) rfl rfl (fun w hw => hw.drawn _) ?_
         refine TH.tk (listed' := #[Tt,Ff,Ff,Ff,Ff,Ff,Ff,Ff,Ff,Ff,Ff,Ff,Ff,Ff,Ff,Ff,Ff,Ff]) 0 rfl rfl rfl (gives_move rfl rfl) (fun _ _ => trivial) ?_
         refine TH.tk (listed' := #[Tt,Tt,Ff,Ff,Ff,Ff,Ff,Ff,Ff,Ff,Ff,Ff,Ff,Ff,Ff,Ff,Ff,Ff]) 1 rfl rfl rfl (gives_move rfl rfl) (fun _ _ => trivial) ?_
         refine TH.tk (listed' := #[Tt,Tt,Tt,Ff,Ff,Ff,Ff,Ff,Ff,Ff,Ff,Ff,Ff,Ff,Ff,Ff,Ff,Ff]) 2 rfl rfl rfl (gives_move rfl rfl) (fun _ _ => trivial) ?_
         refine TH.tk (listed' := #[Tt,Tt,Tt,Tt,Ff,Ff,Ff,Ff,Ff,Ff,Ff,Ff,Ff,Ff,Ff,Ff,Ff,Ff]) 3 rfl rfl rfl (gives_move rfl rfl) (fun _ _ => trivial) ?_
         refine TH.tk (listed' := #[Tt,Tt,Tt,Tt,Tt,Ff,Ff,Ff,Ff,Ff,Ff,Ff,Ff,Ff,Ff,Ff,Ff,Ff]) 4 rfl rfl rfl (gives_bin rfl rfl rfl (fun w => bin_sub_ (r := ((j - 1 : Nat) : Int)) (by simp only [IntKind.wrap_i64]; omega) w)) (fun _ _ => trivial) ?_
         refine TH.tk (listed' := #[Tt,Tt,Tt,Tt,Tt,Tt,Ff,Ff,Ff,Ff,Ff,Ff,Ff,Ff,Ff,Ff,Ff,Ff]) 5 rfl rfl rfl (gives_move rfl rfl) (fun _ _ => trivial) ?_
         refine TH.tk (listed' := #[Tt,Tt,Tt,Tt,Tt,Tt,Tt,Ff,Ff,Ff,Ff,Ff,Ff,Ff,Ff,Ff,Ff,Ff]) 6 rfl rfl rfl (gives_move rfl rfl) (fun _ _ => trivial) ?_
         refine TH.tk (listed' := #[Tt,Tt,Tt,Tt,Tt,Tt,Tt,Tt,Ff,Ff,Ff,Ff,Ff,Ff,Ff,Ff,Ff,Ff]) 7 rfl rfl rfl (gives_bin rfl rfl rfl (fun w => bin_sub_ (r := ((j - 1 : Nat) : Int)) (by simp only [IntKind.wrap_i64]; omega) w)) (fun _ _ => trivial) ?_
         refine TH.tk (listed' := #[Tt,Tt,Tt,Tt,Tt,Tt,Tt,Tt,Tt,Ff,Ff,Ff,Ff,Ff,Ff,Ff,Ff,Ff]) 8 rfl rfl rfl (gives_at (v := .pointer (some ⟨g, j - 1, none⟩)) rfl rfl rfl (fun w => at_row Try.underlying31 us3sz35 g _ _ (j - 1) (by omega) rfl w)) (fun _ _ => trivial) ?_
         refine TH.tk (listed' := #[Tt,Tt,Tt,Tt,Tt,Tt,Tt,Tt,Tt,Ff,Tt,Ff,Ff,Ff,Ff,Ff,Ff,Ff]) 10 rfl rfl rfl (gives_move rfl rfl) (fun _ _ => trivial) ?_
         refine TH.tk (listed' := #[Tt,Tt,Tt,Tt,Tt,Tt,Tt,Tt,Tt,Ff,Tt,Tt,Ff,Ff,Ff,Ff,Ff,Ff]) 11 rfl rfl rfl (gives_move rfl rfl) (fun _ _ => trivial) ?_
         refine TH.tk (listed' := #[Tt,Tt,Tt,Tt,Tt,Tt,Tt,Tt,Tt,Ff,Tt,Tt,Tt,Ff,Ff,Ff,Ff,Ff]) 12 rfl rfl rfl (gives_at (v := .pointer (some ⟨g, j, none⟩)) rfl rfl rfl (fun w => at_row Try.underlying31 us3sz35 g _ _ j (by omega) rfl w)) (fun _ _ => trivial) ?_
         refine TH.two' (listed1 := #[Tt,Tt,Tt,Tt,Tt,Tt,Tt,Tt,Tt,Tt,Tt,Tt,Tt,Ff,Ff,Ff,Ff,Ff]) (listed2 := #[Tt,Tt,Tt,Tt,Tt,Tt,Tt,Tt,Tt,Ff,Tt,Tt,Tt,Tt,Ff,Ff,Ff,Ff]) 9 13 rfl rfl (by kernel_rfl) rfl rfl ?_ ?_
         ·refine TL.val rfl rfl rfl (pm_loadU (k := 0) (i := j - 1) rfl rfl us3ag35 rfl (by omega)) ?_
          refine TL.end_ ?_
          refine TX.held (fun _ _ => trivial) ?_
          refine TH.only' (listed' := #[Tt,Tt,Tt,Tt,Tt,Tt,Tt,Tt,Tt,Tt,Tt,Tt,Tt,Tt,Ff,Ff,Ff,Ff]) 13 rfl (by kernel_rfl) rfl ?_
          refine TL.val rfl rfl rfl (pm_loadU (k := 0) (i := j) rfl rfl us3ag35 rfl (by omega)) ?_
          refine TL.end_ ?_
          refine TX.held (fun _ _ => trivial) ?_
          refine TH.tk (listed' := #[Tt,Tt,Tt,Tt,Tt,Tt,Tt,Tt,Tt,Tt,Tt,Tt,Tt,Tt,Tt,Ff,Ff,Ff]) 14 rfl rfl rfl (gives_at (v := .pointer (some ⟨g, j, none⟩)) rfl rfl rfl (fun w => at_row Try.underlying31 us3sz35 g _ _ j (by omega) rfl w)) (fun _ _ => trivial) ?_
          refine TH.only' (listed' := #[Tt,Tt,Tt,Tt,Tt,Tt,Tt,Tt,Tt,Tt,Tt,Tt,Tt,Tt,Tt,Tt,Ff,Ff]) 15 rfl (by kernel_rfl) rfl ?_
          refine TL.uset (k := 0) (i := j) rfl rfl rfl rfl rfl rfl us3sz35 (by omega) ?_
          refine TL.end_ ?_
          refine TX.held (fun _ _ => trivial) ?_
          refine TH.tk (listed' := #[Tt,Tt,Tt,Tt,Tt,Tt,Tt,Tt,Tt,Tt,Tt,Tt,Tt,Tt,Tt,Tt,Tt,Ff]) 16 rfl rfl rfl (gives_at (v := .pointer (some ⟨g, j - 1, none⟩)) rfl rfl rfl (fun w => at_row Try.underlying31 us3sz35 g _ _ (j - 1) (by omega) rfl w)) (fun _ _ => trivial) ?_
          refine TH.only' (listed' := #[Tt,Tt,Tt,Tt,Tt,Tt,Tt,Tt,Tt,Tt,Tt,Tt,Tt,Tt,Tt,Tt,Tt,Tt]) 17 rfl (by kernel_rfl) rfl ?_
          refine TL.uset (k := 0) (i := j - 1) rfl rfl rfl rfl rfl rfl us3sz35 (by rw [List.length_set]; omega) ?_
          refine TL.end_ ?_
          refine TX.held (fun _ _ => trivial) ?_
          refine TH.done (by kernel_rfl) ?_
          refine TX.in_normal (TX.then_ (TC.region ?_))
          refine TL.mv ?_
          refine TL.val rfl rfl rfl (gives_bin rfl rfl rfl (fun w => bin_add_ (r := ((j + 1 : Nat) : Int)) (by simp only [IntKind.wrap_i64]; omega) w)) ?_
          refine TL.as_ ?_
          refine TL.end_ ?_
          exact TX.round (⟨(j + 1, swp vs j (j - 1)), by dsimp only; omega, by dsimp only; omega, hV.swap (by omega) (by omega) (by omega) (by omega) (by omega), hSv.same (fun k k1 k2 => by rw [swp_dx (by omega) (by omega), if_neg (by omega), if_neg (by omega)]), by rw [swp_len]; exact hlv⟩) (by show b - (j + 1) < b - j; omega) ⟨rfl, rfl, rfl, rfl, rfl, rfl, trivial⟩ (fun w1 hw => hw)
         ·refine TL.val rfl rfl rfl (pm_loadU (k := 0) (i := j) rfl rfl us3ag35 rfl (by omega)) ?_
          refine TL.end_ ?_
          refine TX.held (fun _ _ => trivial) ?_
          refine TH.only' (listed' := #[Tt,Tt,Tt,Tt,Tt,Tt,Tt,Tt,Tt,Tt,Tt,Tt,Tt,Tt,Ff,Ff,Ff,Ff]) 9 rfl (by kernel_rfl) rfl ?_
          refine TL.val rfl rfl rfl (pm_loadU (k := 0) (i := j - 1) rfl rfl us3ag35 rfl (by omega)) ?_
          refine TL.end_ ?_
          refine TX.held (fun _ _ => trivial) ?_
          refine TH.tk (listed' := #[Tt,Tt,Tt,Tt,Tt,Tt,Tt,Tt,Tt,Tt,Tt,Tt,Tt,Tt,Tt,Ff,Ff,Ff]) 14 rfl rfl rfl (gives_at (v := .pointer (some ⟨g, j, none⟩)) rfl rfl rfl (fun w => at_row Try.underlying31 us3sz35 g _ _ j (by omega) rfl w)) (fun _ _ => trivial) ?_
          refine TH.only' (listed' := #[Tt,Tt,Tt,Tt,Tt,Tt,Tt,Tt,Tt,Tt,Tt,Tt,Tt,Tt,Tt,Tt,Ff,Ff]) 15 rfl (by kernel_rfl) rfl ?_
          refine TL.uset (k := 0) (i := j) rfl rfl rfl rfl rfl rfl us3sz35 (by omega) ?_
          refine TL.end_ ?_
          refine TX.held (fun _ _ => trivial) ?_
          refine TH.tk (listed' := #[Tt,Tt,Tt,Tt,Tt,Tt,Tt,Tt,Tt,Tt,Tt,Tt,Tt,Tt,Tt,Tt,Tt,Ff]) 16 rfl rfl rfl (gives_at (v := .pointer (some ⟨g, j - 1, none⟩)) rfl rfl rfl (fun w => at_row Try.underlying31 us3sz35 g _ _ (j - 1) (by omega) rfl w)) (fun _ _ => trivial) ?_
          refine TH.only' (listed' := #[Tt,Tt,Tt,Tt,Tt,Tt,Tt,Tt,Tt,Tt,Tt,Tt,Tt,Tt,Tt,Tt,Tt,Tt]) 17 rfl (by kernel_rfl) rfl ?_
          refine TL.uset (k := 0) (i := j - 1) rfl rfl rfl rfl rfl rfl us3sz35 (by rw [List.length_set]; omega) ?_
          refine TL.end_ ?_
          refine TX.held (fun _ _ => trivial) ?_
          refine TH.done (by kernel_rfl) ?_
          refine TX.in_normal (TX.then_ (TC.region ?_))
          refine TL.mv ?_
          refine TL.val rfl rfl rfl (gives_bin rfl rfl rfl (fun w => bin_add_ (r := ((j + 1 : Nat) : Int)) (by simp only [IntKind.wrap_i64]; omega) w)) ?_
          refine TL.as_ ?_
          refine TL.end_ ?_
          exact TX.round (⟨(j + 1, swp vs j (j - 1)), by dsimp only; omega, by dsimp only; omega, hV.swap (by omega) (by omega) (by omega) (by omega) (by omega), hSv.same (fun k k1 k2 => by rw [swp_dx (by omega) (by omega), if_neg (by omega), if_neg (by omega)]), by rw [swp_len]; exact hlv⟩) (by show b - (j + 1) < b - j; omega) ⟨rfl, rfl, rfl, rfl, rfl, rfl, trivial⟩ (fun w1 hw => hw)
        ·refine TC.quiet_ (E' := ?_) (by kernel_rfl) (by kernel_rfl) (fun w hw => hw.drawn _) ?_ ?_
         rotate_left
         ·refine TQ.val rfl rfl rfl (gives_move rfl rfl) ?_
          refine TQ.val rfl rfl rfl (gives_move rfl rfl) ?_
          refine TQ.val rfl rfl rfl (gives_at (v := .pointer (some ⟨g, j, none⟩)) rfl rfl rfl (fun w => at_row Try.underlying31 us3sz35 g _ _ j (by omega) rfl w)) ?_
          refine TQ.val rfl rfl rfl (pm_loadU (k := 0) (i := j) rfl rfl us3ag35 rfl (by omega)) ?_
          refine TQ.val rfl rfl rfl (gives_move rfl rfl) ?_
          refine TQ.val rfl rfl rfl (gives_move rfl rfl) ?_
          refine TQ.val rfl rfl rfl (gives_bin rfl rfl rfl (fun w => bin_sub_ (r := ((j - 1 : Nat) : Int)) (by simp only [IntKind.wrap_i64]; omega) w)) ?_
          refine TQ.val rfl rfl rfl (gives_at (v := .pointer (some ⟨g, j - 1, none⟩)) rfl rfl rfl (fun w => at_row Try.underlying31 us3sz35 g _ _ (j - 1) (by omega) rfl w)) ?_
          refine TQ.val rfl rfl rfl (pm_loadU (k := 0) (i := j - 1) rfl rfl us3ag35 rfl (by omega)) ?_
          refine TQ.call (v := .bool false) rfl rfl rfl rfl rfl Try.func68 us3nm68 us3bd68 (fun w1 hw => (less_f _ _ p5 w1).mono fun en w2 ⟨h1, h2⟩ => ⟨h1, hw.below h2⟩) ?_
          refine TQ.val rfl rfl rfl (gives_boolnot rfl rfl) ?_
          exact TQ.end_
         refine TX.then_ (TC.condT rfl (TC.exit_ (TX.then_exit (TX.in_other rfl (TX.then_exit (TX.then_exit (TX.in_same (TX.in_normal (TX.then_ (TC.region ?_))))))))))
         refine TL.mv ?_
         refine TL.val rfl rfl rfl (gives_bin rfl rfl rfl (fun w => bin_add_ (r := ((t + 1 : Nat) : Int)) (by simp only [IntKind.wrap_i64]; omega) w)) ?_
         refine TL.as_ ?_
         refine TL.end_ ?_
         exact TX.round (⟨(t + 1, i, vs), by dsimp only; omega, by dsimp only; omega, by dsimp only; omega, hV, hSv, hlv⟩) (by show 5 - (t + 1) < 5 - t; omega) ⟨rfl, rfl, rfl, rfl, rfl, trivial⟩ (fun w1 hw => hw)
       ·have q103 := of_decide_eq_false h103
        refine TL.end_ (TX.then_ (TC.condF rfl (TC.exit_ (TX.then_exit (TX.then_exit (TX.in_same (TX.in_normal (TX.then_ (TC.region ?_)))))))))
        refine TL.mv ?_
        refine TL.val rfl rfl rfl (gives_bin rfl rfl rfl (fun w => bin_add_ (r := ((t + 1 : Nat) : Int)) (by simp only [IntKind.wrap_i64]; omega) w)) ?_
        refine TL.as_ ?_
        refine TL.end_ ?_
        exact TX.round (⟨(t + 1, i, vs), by dsimp only; omega, by dsimp only; omega, by dsimp only; omega, hV, hSv, hlv⟩) (by show 5 - (t + 1) < 5 - t; omega) ⟨rfl, rfl, rfl, rfl, rfl, trivial⟩ (fun w1 hw => hw)
      ·have q98 := of_decide_eq_false h98
       refine TL.end_ (TX.then_ (TC.condF rfl (TC.skip_ (TX.in_normal (TX.then_ (TC.region ?_))))))
       refine TL.mv ?_
       refine TL.val rfl rfl rfl (gives_bin rfl rfl rfl (fun w => bin_add_ (r := ((t + 1 : Nat) : Int)) (by simp only [IntKind.wrap_i64]; omega) w)) ?_
       refine TL.as_ ?_
       refine TL.end_ ?_
       exact TX.round (⟨(t + 1, i, us), by dsimp only; omega, by dsimp only; omega, by dsimp only; omega, hU, hSu, hlu⟩) (by show 5 - (t + 1) < 5 - t; omega) ⟨rfl, rfl, rfl, rfl, rfl, trivial⟩ (fun w1 hw => hw)
  ·have hS2 : Srt a (i + 1) ys := hS.snoc (fun hh => by omega)
   refine TC.quiet_ (E' := ?_) (by kernel_rfl) (by kernel_rfl) (fun w hw => hw.drawn _) ?_ ?_
   rotate_left
   ·refine TQ.val rfl rfl rfl (gives_move rfl rfl) ?_
    refine TQ.val rfl rfl rfl (gives_move rfl rfl) ?_
    refine TQ.val rfl rfl rfl (gives_bin rfl rfl rfl (fun w => bin_lss_t (by omega) w)) ?_
    iterate 6 (first | refine TQ.val rfl rfl rfl (gives_move rfl rfl) ?_ | refine TQ.on rfl rfl rfl ?_)
    refine TQ.val rfl rfl rfl (gives_at (v := .pointer (some ⟨g, i, none⟩)) rfl rfl rfl (fun w => at_row Try.underlying31 us3sz35 g _ _ i (by omega) rfl w)) ?_
    refine TQ.on rfl rfl rfl ?_
    refine TQ.val rfl rfl rfl (pm_loadU (k := 0) (i := i) rfl rfl us3ag35 rfl (by omega)) ?_
    iterate 5 (first | refine TQ.on rfl rfl rfl ?_ | refine TQ.val rfl rfl rfl (gives_move rfl rfl) ?_)
    refine TQ.val rfl rfl rfl (gives_bin rfl rfl rfl (fun w => bin_sub_ (r := ((i - 1 : Nat) : Int)) (by simp only [IntKind.wrap_i64]; omega) w)) ?_
    refine TQ.on rfl rfl rfl ?_
    refine TQ.val rfl rfl rfl (gives_at (v := .pointer (some ⟨g, i - 1, none⟩)) rfl rfl rfl (fun w => at_row Try.underlying31 us3sz35 g _ _ (i - 1) (by omega) rfl w)) ?_
    refine TQ.on rfl rfl rfl ?_
    refine TQ.val rfl rfl rfl (pm_loadU (k := 0) (i := i - 1) rfl rfl us3ag35 rfl (by omega)) ?_
    refine TQ.on rfl rfl rfl ?_
    refine TQ.call (v := .bool false) rfl rfl rfl rfl rfl Try.func68 us3nm68 us3bd68 (fun w1 hw => (less_f _ _ p2 w1).mono fun en w2 ⟨h1, h2⟩ => ⟨h1, hw.below h2⟩) ?_
    refine TQ.on rfl rfl rfl ?_
    refine TQ.val rfl rfl rfl (gives_boolnot rfl rfl) ?_
    refine TQ.val rfl rfl rfl (gives_pick rfl rfl rfl) ?_
    exact TQ.end_
   refine TX.then_ (TC.condT rfl (TC.skip_ (TX.then_ (TC.block (TC.region ?_)))))
   refine TL.mv ?_
   refine TL.val rfl rfl rfl (gives_bin rfl rfl rfl (fun w => bin_add_ (r := ((i + 1 : Nat) : Int)) (by simp only [IntKind.wrap_i64]; omega) w)) ?_
   refine TL.as_ ?_
   refine TL.end_ (TX.in_normal ?_)
   exact TX.round (⟨i + 1, by omega, by omega, hS2⟩) (by show b - (i + 1) < b - i; omega) ⟨rfl, rfl, rfl, rfl, rfl, trivial⟩ (fun w1 hw => hw)
 ·have q14 := of_decide_eq_false h14
  refine TL.end_ (TX.then_ (TC.condF rfl (TC.exit_ (TX.then_exit (TX.then_exit (TX.in_same (TX.then_ (TC.seq_ (TC.region ?_)))))))))
  refine TL.as_ ?_
  refine TL.end_ (TX.then_ (TC.ret_ ?_))
  exact ret_tmp Try.results67 rfl (fun w1 hw => ⟨false, ys, rfl, ⟨hP, fun e => by cases e⟩, pm_rowAt hw (k := 0) rfl, hw.mapEnd (fun q hq => by simp [hq])⟩)
end Go.Proofs.Ytleckflmckbheaa

namespace Go.Proofs.Ytleckflmckbheaa
open Go.RowKit
set_option maxRecDepth 20000
def Mn (a b : Nat) (xs : List Int) : Prop := ∀ k, a ≤ k → k < b → dx xs a ≤ dx xs k
theorem Mn.swap {a b i j : Nat} {xs : List Int} (h : Mn a b xs) (hb : b ≤ xs.length) (hi : a < i) (hi2 : i < b) (hj : a < j) (hj2 : j < b) : Mn a b (swp xs i j) := fun k k1 k2 => by
 rw [swp_dx (by omega) (by omega), swp_dx (by omega) (by omega), if_neg (by omega), if_neg (by omega)]
 split
 ·exact h i (by omega) hi2
 ·split
  ·exact h j (by omega) hj2
  ·exact h k k1 k2
theorem Mn.first {a b p : Nat} {xs : List Int} (hb : b ≤ xs.length) (hp : a ≤ p) (hp2 : p < b) (h : ∀ k, a ≤ k → k < b → dx xs p ≤ dx xs k) : Mn a b (swp xs a p) := fun k k1 k2 => by
 have e : dx (swp xs a p) a = dx xs p := by
  rw [swp_dx (by omega) (by omega)]
  by_cases c : a = p
  ·rw [if_pos c, c]
  ·rw [if_neg c, if_pos rfl]
 rw [e, swp_dx (by omega) (by omega)]
 split
 ·exact h a (Nat.le_refl _) (by omega)
 ·split
  ·exact h p hp hp2
  ·exact h k k1 k2
theorem us4sz35 (w : World) : (sizeOf 35).run Try.prog w = .ok 1 w := rfl
theorem us4ag35 (w : World) : (isAgg 35).run Try.prog w = .ok false w := rfl
theorem us4nm68 : (Try.f68.name == "runtime.NumGoroutine") = false := by decide
theorem us4bd68 : Try.f68.body.isNone = false := rfl
set_option maxHeartbeats 1000000 in
theorem peq_any (g n c : Nat) (xs : List Int) (w : World) (h : Rw 35 w g n c xs) (hn : n ≤ 1000000) (a b p : Nat) (hap : a ≤ p) (hpb : p < b) (hb : b ≤ n) (hmin : ∀ k, a ≤ k → k < b → dx xs p ≤ dx xs k) :
  Calls Try.prog 69 #[.slice (some ⟨g, 0, none⟩) n c, .int .i64 ((a : Nat) : Int), .int .i64 ((b : Nat) : Int), .int .i64 ((p : Nat) : Int)] w (RC (α := Nat) (fun x => .int .i64 ((x : Nat) : Int)) (fun x ys => Pin a b xs ys ∧ Eqs a b x ys ∧ Mn a b ys) 35 g n c w) := by
 have hl := h.len
 refine begin_ (vs := [.slice (some ⟨g, 0, none⟩) n c, .int .i64 ((a : Nat) : Int), .int .i64 ((b : Nat) : Int), .int .i64 ((p : Nat) : Int)]) (I := Pm ⟨wbut w g, g⟩ (.row (.slice (some ⟨g, 0, none⟩) n c) 35 1 n (uv xs) :: oths g w)) Try.func69 rfl rfl rfl ?_ (Pm.rowStart h)
 refine TC.seq_ (TC.region ?_)
 refine TL.as_ ?_
 refine TL.end_ (TX.then_ ?_)
 refine TC.join (α := Unit) (fun y => [(0, .slice (some ⟨g, 0, none⟩) n c), (1, .int .i64 ((a : Nat) : Int)), (2, .int .i64 ((b : Nat) : Int))]) (fun y => Pm ⟨wbut w g, g⟩ ([.row (.slice (some ⟨g, 0, none⟩) n c) 35 1 n (uv (swp xs a p))] ++ oths g w)) ?_ ?_
 ·refine TC.held (ls := #[Ff,Ff,Ff,Ff,Ff,Ff,Ff,Ff,Ff,Ff,Ff,Ff,Ff,Ff,Ff,Ff]) (fun _ => True) (by kernel_rfl) rfl rfl (fun w hw => hw.drawn _) ?_
  refine TH.tk (listed' := #[Tt,Ff,Ff,Ff,Ff,Ff,Ff,Ff,Ff,Ff,Ff,Ff,Ff,Ff,Ff,Ff]) 0 rfl rfl rfl (gives_move rfl rfl) (fun _ _ => trivial) ?_
  refine TH.tk (listed' := #[Tt,Tt,Ff,Ff,Ff,Ff,Ff,Ff,Ff,Ff,Ff,Ff,Ff,Ff,Ff,Ff]) 1 rfl rfl rfl (gives_move rfl rfl) (fun _ _ => trivial) ?_
  refine TH.tk (listed' := #[Tt,Tt,Tt,Ff,Ff,Ff,Ff,Ff,Ff,Ff,Ff,Ff,Ff,Ff,Ff,Ff]) 2 rfl rfl rfl (gives_move rfl rfl) (fun _ _ => trivial) ?_
  refine TH.tk (listed' := #[Tt,Tt,Tt,Tt,Ff,Ff,Ff,Ff,Ff,Ff,Ff,Ff,Ff,Ff,Ff,Ff]) 3 rfl rfl rfl (gives_move rfl rfl) (fun _ _ => trivial) ?_
  refine TH.tk (listed' := #[Tt,Tt,Tt,Tt,Tt,Ff,Ff,Ff,Ff,Ff,Ff,Ff,Ff,Ff,Ff,Ff]) 4 rfl rfl rfl (gives_move rfl rfl) (fun _ _ => trivial) ?_
  refine TH.tk (listed' := #[Tt,Tt,Tt,Tt,Tt,Tt,Ff,Ff,Ff,Ff,Ff,Ff,Ff,Ff,Ff,Ff]) 5 rfl rfl rfl (gives_move rfl rfl) (fun _ _ => trivial) ?_
  refine TH.tk (listed' := #[Tt,Tt,Tt,Tt,Tt,Tt,Tt,Ff,Ff,Ff,Ff,Ff,Ff,Ff,Ff,Ff]) 6 rfl rfl rfl (gives_at (v := .pointer (some ⟨g, p, none⟩)) rfl rfl rfl (fun w => at_row Try.underlying31 us4sz35 g _ _ p (by omega) rfl w)) (fun _ _ => trivial) ?_
  refine TH.tk (listed' := #[Tt,Tt,Tt,Tt,Tt,Tt,Tt,Ff,Tt,Ff,Ff,Ff,Ff,Ff,Ff,Ff]) 8 rfl rfl rfl (gives_move rfl rfl) (fun _ _ => trivial) ?_
  refine TH.tk (listed' := #[Tt,Tt,Tt,Tt,Tt,Tt,Tt,Ff,Tt,Tt,Ff,Ff,Ff,Ff,Ff,Ff]) 9 rfl rfl rfl (gives_move rfl rfl) (fun _ _ => trivial) ?_
  refine TH.tk (listed' := #[Tt,Tt,Tt,Tt,Tt,Tt,Tt,Ff,Tt,Tt,Tt,Ff,Ff,Ff,Ff,Ff]) 10 rfl rfl rfl (gives_at (v := .pointer (some ⟨g, a, none⟩)) rfl rfl rfl (fun w => at_row Try.underlying31 us4sz35 g _ _ a (by omega) rfl w)) (fun _ _ => trivial) ?_
  refine TH.two' (listed1 := #[Tt,Tt,Tt,Tt,Tt,Tt,Tt,Tt,Tt,Tt,Tt,Ff,Ff,Ff,Ff,Ff]) (listed2 := #[Tt,Tt,Tt,Tt,Tt,Tt,Tt,Ff,Tt,Tt,Tt,Tt,Ff,Ff,Ff,Ff]) 7 11 rfl rfl (by kernel_rfl) rfl rfl ?_ ?_
  ·refine TL.val rfl rfl rfl (pm_loadU (k := 0) (i := p) rfl rfl us4ag35 rfl (by omega)) ?_
   refine TL.end_ ?_
   refine TX.held (fun _ _ => trivial) ?_
   refine TH.only' (listed' := #[Tt,Tt,Tt,Tt,Tt,Tt,Tt,Tt,Tt,Tt,Tt,Tt,Ff,Ff,Ff,Ff]) 11 rfl (by kernel_rfl) rfl ?_
   refine TL.val rfl rfl rfl (pm_loadU (k := 0) (i := a) rfl rfl us4ag35 rfl (by omega)) ?_
   refine TL.end_ ?_
   refine TX.held (fun _ _ => trivial) ?_
   refine TH.tk (listed' := #[Tt,Tt,Tt,Tt,Tt,Tt,Tt,Tt,Tt,Tt,Tt,Tt,Tt,Ff,Ff,Ff]) 12 rfl rfl rfl (gives_at (v := .pointer (some ⟨g, a, none⟩)) rfl rfl rfl (fun w => at_row Try.underlying31 us4sz35 g _ _ a (by omega) rfl w)) (fun _ _ => trivial) ?_
   refine TH.only' (listed' := #[Tt,Tt,Tt,Tt,Tt,Tt,Tt,Tt,Tt,Tt,Tt,Tt,Tt,Tt,Ff,Ff]) 13 rfl (by kernel_rfl) rfl ?_
   refine TL.uset (k := 0) (i := a) rfl rfl rfl rfl rfl rfl us4sz35 (by omega) ?_
   refine TL.end_ ?_
   refine TX.held (fun _ _ => trivial) ?_
   refine TH.tk (listed' := #[Tt,Tt,Tt,Tt,Tt,Tt,Tt,Tt,Tt,Tt,Tt,Tt,Tt,Tt,Tt,Ff]) 14 rfl rfl rfl (gives_at (v := .pointer (some ⟨g, p, none⟩)) rfl rfl rfl (fun w => at_row Try.underlying31 us4sz35 g _ _ p (by omega) rfl w)) (fun _ _ => trivial) ?_
   refine TH.only' (listed' := #[Tt,Tt,Tt,Tt,Tt,Tt,Tt,Tt,Tt,Tt,Tt,Tt,Tt,Tt,Tt,Tt]) 15 rfl (by kernel_rfl) rfl ?_
   refine TL.uset (k := 0) (i := p) rfl rfl rfl rfl rfl rfl us4sz35 (by rw [List.length_set]; omega) ?_
   refine TL.end_ ?_
   refine TX.held (fun _ _ => trivial) ?_
   refine TH.done (by kernel_rfl) ?_
   exact TX.joined (()) (⟨rfl, rfl, rfl, trivial⟩) (fun w1 hw => hw)
  ·refine TL.val rfl rfl rfl (pm_loadU (k := 0) (i := a) rfl rfl us4ag35 rfl (by omega)) ?_
   refine TL.end_ ?_
   refine TX.held (fun _ _ => trivial) ?_
   refine TH.only' (listed' := #[Tt,Tt,Tt,Tt,Tt,Tt,Tt,Tt,Tt,Tt,Tt,Tt,Ff,Ff,Ff,Ff]) 7 rfl (by kernel_rfl) rfl ?_
   refine TL.val rfl rfl rfl (pm_loadU (k := 0) (i := p) rfl rfl us4ag35 rfl (by omega)) ?_
   refine TL.end_ ?_
   refine TX.held (fun _ _ => trivial) ?_
   refine TH.tk (listed' := #[Tt,Tt,Tt,Tt,Tt,Tt,Tt,Tt,Tt,Tt,Tt,Tt,Tt,Ff,Ff,Ff]) 12 rfl rfl rfl (gives_at (v := .pointer (some ⟨g, a, none⟩)) rfl rfl rfl (fun w => at_row Try.underlying31 us4sz35 g _ _ a (by omega) rfl w)) (fun _ _ => trivial) ?_
   refine TH.only' (listed' := #[Tt,Tt,Tt,Tt,Tt,Tt,Tt,Tt,Tt,Tt,Tt,Tt,Tt,Tt,Ff,Ff]) 13 rfl (by kernel_rfl) rfl ?_
   refine TL.uset (k := 0) (i := a) rfl rfl rfl rfl rfl rfl us4sz35 (by omega) ?_
   refine TL.end_ ?_
   refine TX.held (fun _ _ => trivial) ?_
   refine TH.tk (listed' := #[Tt,Tt,Tt,Tt,Tt,Tt,Tt,Tt,Tt,Tt,Tt,Tt,Tt,Tt,Tt,Ff]) 14 rfl rfl rfl (gives_at (v := .pointer (some ⟨g, p, none⟩)) rfl rfl rfl (fun w => at_row Try.underlying31 us4sz35 g _ _ p (by omega) rfl w)) (fun _ _ => trivial) ?_
   refine TH.only' (listed' := #[Tt,Tt,Tt,Tt,Tt,Tt,Tt,Tt,Tt,Tt,Tt,Tt,Tt,Tt,Tt,Tt]) 15 rfl (by kernel_rfl) rfl ?_
   refine TL.uset (k := 0) (i := p) rfl rfl rfl rfl rfl rfl us4sz35 (by rw [List.length_set]; omega) ?_
   refine TL.end_ ?_
   refine TX.held (fun _ _ => trivial) ?_
   refine TH.done (by kernel_rfl) ?_
   exact TX.joined (()) (⟨rfl, rfl, rfl, trivial⟩) (fun w1 hw => hw)
 ·rintro u
  have hP1 : Pin a b xs (swp xs a p) := Pin.swp1 (by omega) (Nat.le_refl _) (by omega) hap hpb
  have hl1 : (swp xs a p).length = n := by rw [swp_len]; exact hl
  have hm1 : Mn a b (swp xs a p) := Mn.first (by omega) hap hpb hmin
  refine TC.seq_ (TC.region ?_)
  refine TL.mv ?_
  refine TL.val rfl rfl rfl (gives_bin rfl rfl rfl (fun w => bin_add_ (r := ((a + 1 : Nat) : Int)) (by simp only [IntKind.wrap_i64]; omega) w)) ?_
  refine TL.mv ?_
  refine TL.val rfl rfl rfl (gives_bin rfl rfl rfl (fun w => bin_sub_ (r := ((b - 1 : Nat) : Int)) (by simp only [IntKind.wrap_i64]; omega) w)) ?_
  refine TL.as_ ?_
  refine TL.as_ ?_
  refine TL.end_ (TX.then_ (TC.seq_ (TC.block ?_)))
  refine TC.loop_ (α := {y : Nat × Nat × List Int // Prt a b y.1 y.2.1 y.2.2 ∧ Pin a b xs y.2.2 ∧ Mn a b y.2.2 ∧ y.2.2.length = n}) (fun y => [(0, .slice (some ⟨g, 0, none⟩) n c), (1, .int .i64 ((a : Nat) : Int)), (2, .int .i64 ((b : Nat) : Int)), (9, .int .i64 ((y.1.1 : Nat) : Int)), (10, .int .i64 ((y.1.2.1 : Nat) : Int))]) (fun y => Pm ⟨wbut w g, g⟩ ([.row (.slice (some ⟨g, 0, none⟩) n c) 35 1 n (uv y.1.2.2)] ++ oths g w)) (fun y => y.1.2.1 + 1 - y.1.1) (⟨(a + 1, b - 1, swp xs a p), Prt.start (by omega), hP1, hm1, hl1⟩) ⟨rfl, rfl, rfl, rfl, rfl, trivial⟩ (fun w1 hw => hw) ?_
  rintro ⟨⟨i0, j0, ys⟩, hS, hP, hM, hly⟩
  dsimp only at hS hP hM hly ⊢
  have hs1 := hS.hi
  have hs2 := hS.hj
  have hs3 := hS.ij
  refine TC.block ?_
  refine TC.join (α := {y : Nat // i0 ≤ y ∧ Prt a b y j0 ys ∧ (y ≤ j0 → dx ys a < dx ys y)}) (fun y => [(0, .slice (some ⟨g, 0, none⟩) n c), (1, .int .i64 ((a : Nat) : Int)), (2, .int .i64 ((b : Nat) : Int)), (9, .int .i64 ((y.1 : Nat) : Int)), (10, .int .i64 ((j0 : Nat) : Int))]) (fun y => Pm ⟨wbut w g, g⟩ ([.row (.slice (some ⟨g, 0, none⟩) n c) 35 1 n (uv ys)] ++ oths g w)) ?_ ?_
  ·refine TC.block ?_
   refine TC.loop_ (α := {y : Nat // i0 ≤ y ∧ Prt a b y j0 ys}) (fun y => [(0, .slice (some ⟨g, 0, none⟩) n c), (1, .int .i64 ((a : Nat) : Int)), (2, .int .i64 ((b : Nat) : Int)), (9, .int .i64 ((y.1 : Nat) : Int)), (10, .int .i64 ((j0 : Nat) : Int))]) (fun y => Pm ⟨wbut w g, g⟩ ([.row (.slice (some ⟨g, 0, none⟩) n c) 35 1 n (uv ys)] ++ oths g w)) (fun y => b + 1 - y.1) (⟨i0, Nat.le_refl _, hS⟩) ⟨rfl, rfl, rfl, rfl, rfl, trivial⟩ (fun w1 hw => hw) ?_
   rintro ⟨i, hi0, hQ⟩
   dsimp only
   have hq1 := hQ.hi
   have hq2 := hQ.hj
   have hq3 := hQ.ij
   refine TC.seq_ (TC.seq_ ?_)
   have hway : ¬ i ≤ j0 ∨ (i ≤ j0 ∧ dx ys a < dx ys i) ∨ (i ≤ j0 ∧ ¬ dx ys a < dx ys i) := by omega
   rcases hway with p1 | ⟨p1, p2⟩ | ⟨p1, p2⟩
   ·have hie : i ≤ j0 → dx ys a < dx ys i := fun hh => absurd hh p1
    refine TC.quiet_ (E' := ?_) (by kernel_rfl) (by kernel_rfl) (fun w hw => hw.drawn _) ?_ ?_
    rotate_left
    ·refine TQ.val rfl rfl rfl (gives_move rfl rfl) ?_
     refine TQ.val rfl rfl rfl (gives_move rfl rfl) ?_
     refine TQ.val rfl rfl rfl (gives_bin rfl rfl rfl (fun w => bin_leq_f (by omega) w)) ?_
     iterate 12 (first | refine TQ.off rfl rfl rfl rfl rfl rfl ?_ | refine TQ.val rfl rfl rfl (gives_move rfl rfl) ?_ | refine TQ.val rfl rfl rfl (gives_pick rfl rfl rfl) ?_)
     exact TQ.end_
    refine TX.then_ (TC.condF rfl (TC.exit_ (TX.then_exit (TX.then_exit (TX.in_same ?_)))))
    exact TX.joined (⟨i, hi0, hQ, hie⟩) (⟨rfl, rfl, rfl, rfl, rfl, trivial⟩) (fun w1 hw => hw)
   ·have hie : i ≤ j0 → dx ys a < dx ys i := fun _ => p2
    refine TC.quiet_ (E' := ?_) (by kernel_rfl) (by kernel_rfl) (fun w hw => hw.drawn _) ?_ ?_
    rotate_left
    ·refine TQ.val rfl rfl rfl (gives_move rfl rfl) ?_
     refine TQ.val rfl rfl rfl (gives_move rfl rfl) ?_
     refine TQ.val rfl rfl rfl (gives_bin rfl rfl rfl (fun w => bin_leq_t (by omega) w)) ?_
     iterate 6 (first | refine TQ.val rfl rfl rfl (gives_move rfl rfl) ?_ | refine TQ.on rfl rfl rfl ?_)
     refine TQ.val rfl rfl rfl (gives_at (v := .pointer (some ⟨g, a, none⟩)) rfl rfl rfl (fun w => at_row Try.underlying31 us4sz35 g _ _ a (by omega) rfl w)) ?_
     refine TQ.on rfl rfl rfl ?_
     refine TQ.val rfl rfl rfl (pm_loadU (k := 0) (i := a) rfl rfl us4ag35 rfl (by omega)) ?_
     iterate 5 (first | refine TQ.on rfl rfl rfl ?_ | refine TQ.val rfl rfl rfl (gives_move rfl rfl) ?_)
     refine TQ.val rfl rfl rfl (gives_at (v := .pointer (some ⟨g, i, none⟩)) rfl rfl rfl (fun w => at_row Try.underlying31 us4sz35 g _ _ i (by omega) rfl w)) ?_
     refine TQ.on rfl rfl rfl ?_
     refine TQ.val rfl rfl rfl (pm_loadU (k := 0) (i := i) rfl rfl us4ag35 rfl (by omega)) ?_
     refine TQ.on rfl rfl rfl ?_
     refine TQ.call (v := .bool true) rfl rfl rfl rfl rfl Try.func68 us4nm68 us4bd68 (fun w1 hw => (less_t _ _ p2 w1).mono fun en w2 ⟨h1, h2⟩ => ⟨h1, hw.below h2⟩) ?_
     refine TQ.on rfl rfl rfl ?_
     refine TQ.val rfl rfl rfl (gives_boolnot rfl rfl) ?_
     refine TQ.val rfl rfl rfl (gives_pick rfl rfl rfl) ?_
     exact TQ.end_
    refine TX.then_ (TC.condF rfl (TC.exit_ (TX.then_exit (TX.then_exit (TX.in_same ?_)))))
    exact TX.joined (⟨i, hi0, hQ, hie⟩) (⟨rfl, rfl, rfl, rfl, rfl, trivial⟩) (fun w1 hw => hw)
   ·have hQ2 : Prt a b (i + 1) j0 ys := hQ.inc p1 (by omega)
    refine TC.quiet_ (E' := ?_) (by kernel_rfl) (by kernel_rfl) (fun w hw => hw.drawn _) ?_ ?_
    rotate_left
    ·refine TQ.val rfl rfl rfl (gives_move rfl rfl) ?_
     refine TQ.val rfl rfl rfl (gives_move rfl rfl) ?_
     refine TQ.val rfl rfl rfl (gives_bin rfl rfl rfl (fun w => bin_leq_t (by omega) w)) ?_
     iterate 6 (first | refine TQ.val rfl rfl rfl (gives_move rfl rfl) ?_ | refine TQ.on rfl rfl rfl ?_)
     refine TQ.val rfl rfl rfl (gives_at (v := .pointer (some ⟨g, a, none⟩)) rfl rfl rfl (fun w => at_row Try.underlying31 us4sz35 g _ _ a (by omega) rfl w)) ?_
     refine TQ.on rfl rfl rfl ?_
     refine TQ.val rfl rfl rfl (pm_loadU (k := 0) (i := a) rfl rfl us4ag35 rfl (by omega)) ?_
     iterate 5 (first | refine TQ.on rfl rfl rfl ?_ | refine TQ.val rfl rfl rfl (gives_move rfl rfl) ?_)
     refine TQ.val rfl rfl rfl (gives_at (v := .pointer (some ⟨g, i, none⟩)) rfl rfl rfl (fun w => at_row Try.underlying31 us4sz35 g _ _ i (by omega) rfl w)) ?_
     refine TQ.on rfl rfl rfl ?_
     refine TQ.val rfl rfl rfl (pm_loadU (k := 0) (i := i) rfl rfl us4ag35 rfl (by omega)) ?_
     refine TQ.on rfl rfl rfl ?_
     refine TQ.call (v := .bool false) rfl rfl rfl rfl rfl Try.func68 us4nm68 us4bd68 (fun w1 hw => (less_f _ _ p2 w1).mono fun en w2 ⟨h1, h2⟩ => ⟨h1, hw.below h2⟩) ?_
     refine TQ.on rfl rfl rfl ?_
     refine TQ.val rfl rfl rfl (gives_boolnot rfl rfl) ?_
     refine TQ.val rfl rfl rfl (gives_pick rfl rfl rfl) ?_
     exact TQ.end_
    refine TX.then_ (TC.condT rfl (TC.skip_ (TX.then_ (TC.block (TC.region ?_)))))
    refine TL.mv ?_
    refine TL.val rfl rfl rfl (gives_bin rfl rfl rfl (fun w => bin_add_ (r := ((i + 1 : Nat) : Int)) (by simp only [IntKind.wrap_i64]; omega) w)) ?_
    refine TL.as_ ?_
    refine TL.end_ (TX.in_normal ?_)
    exact TX.round (⟨i + 1, by omega, hQ2⟩) (by show b + 1 - (i + 1) < b + 1 - i; omega) ⟨rfl, rfl, rfl, rfl, rfl, trivial⟩ (fun w1 hw => hw)
  ·rintro ⟨i, hi0, hQ, hie⟩
   dsimp only
   have hq1 := hQ.hi
   have hq2 := hQ.hj
   have hq3 := hQ.ij
   refine TC.join (α := {y : Nat // y ≤ j0 ∧ Prt a b i y ys ∧ (i ≤ y → dx ys y ≤ dx ys a)}) (fun y => [(0, .slice (some ⟨g, 0, none⟩) n c), (1, .int .i64 ((a : Nat) : Int)), (2, .int .i64 ((b : Nat) : Int)), (9, .int .i64 ((i : Nat) : Int)), (10, .int .i64 ((y.1 : Nat) : Int))]) (fun y => Pm ⟨wbut w g, g⟩ ([.row (.slice (some ⟨g, 0, none⟩) n c) 35 1 n (uv ys)] ++ oths g w)) ?_ ?_
   ·refine TC.block ?_
    refine TC.loop_ (α := {y : Nat // y ≤ j0 ∧ Prt a b i y ys}) (fun y => [(0, .slice (some ⟨g, 0, none⟩) n c), (1, .int .i64 ((a : Nat) : Int)), (2, .int .i64 ((b : Nat) : Int)), (9, .int .i64 ((i : Nat) : Int)), (10, .int .i64 ((y.1 : Nat) : Int))]) (fun y => Pm ⟨wbut w g, g⟩ ([.row (.slice (some ⟨g, 0, none⟩) n c) 35 1 n (uv ys)] ++ oths g w)) (fun y => y.1) (⟨j0, Nat.le_refl _, hQ⟩) ⟨rfl, rfl, rfl, rfl, rfl, trivial⟩ (fun w1 hw => hw) ?_
    rintro ⟨j, hj0, hR⟩
    dsimp only
    have hr1 := hR.hi
    have hr2 := hR.hj
    have hr3 := hR.ij
    refine TC.seq_ (TC.seq_ ?_)
    have hway : ¬ i ≤ j ∨ (i ≤ j ∧ dx ys a < dx ys j) ∨ (i ≤ j ∧ ¬ dx ys a < dx ys j) := by omega
    rcases hway with p1 | ⟨p1, p2⟩ | ⟨p1, p2⟩
    ·have hje : i ≤ j → dx ys j ≤ dx ys a := fun hh => absurd hh p1
     refine TC.quiet_ (E' := ?_) (by kernel_rfl) (by kernel_rfl) (fun w hw => hw.drawn _) ?_ ?_
     rotate_left
     ·refine TQ.val rfl rfl rfl (gives_move rfl rfl) ?_
      refine TQ.val rfl rfl rfl (gives_move rfl rfl) ?_
      refine TQ.val rfl rfl rfl (gives_bin rfl rfl rfl (fun w => bin_leq_f (by omega) w)) ?_
      iterate 11 (first | refine TQ.off rfl rfl rfl rfl rfl rfl ?_ | refine TQ.val rfl rfl rfl (gives_move rfl rfl) ?_ | refine TQ.val rfl rfl rfl (gives_pick rfl rfl rfl) ?_)
      exact TQ.end_
     refine TX.then_ (TC.condF rfl (TC.exit_ (TX.then_exit (TX.then_exit (TX.in_same ?_)))))
     exact TX.joined (⟨j, hj0, hR, hje⟩) (⟨rfl, rfl, rfl, rfl, rfl, trivial⟩) (fun w1 hw => hw)
    ·have hR2 : Prt a b i (j - 1) ys := hR.dec p1 (by omega)
     refine TC.quiet_ (E' := ?_) (by kernel_rfl) (by kernel_rfl) (fun w hw => hw.drawn _) ?_ ?_
     rotate_left
     ·refine TQ.val rfl rfl rfl (gives_move rfl rfl) ?_
      refine TQ.val rfl rfl rfl (gives_move rfl rfl) ?_
      refine TQ.val rfl rfl rfl (gives_bin rfl rfl rfl (fun w => bin_leq_t (by omega) w)) ?_
      iterate 6 (first | refine TQ.val rfl rfl rfl (gives_move rfl rfl) ?_ | refine TQ.on rfl rfl rfl ?_)
      refine TQ.val rfl rfl rfl (gives_at (v := .pointer (some ⟨g, a, none⟩)) rfl rfl rfl (fun w => at_row Try.underlying31 us4sz35 g _ _ a (by omega) rfl w)) ?_
      refine TQ.on rfl rfl rfl ?_
      refine TQ.val rfl rfl rfl (pm_loadU (k := 0) (i := a) rfl rfl us4ag35 rfl (by omega)) ?_
      iterate 5 (first | refine TQ.on rfl rfl rfl ?_ | refine TQ.val rfl rfl rfl (gives_move rfl rfl) ?_)
      refine TQ.val rfl rfl rfl (gives_at (v := .pointer (some ⟨g, j, none⟩)) rfl rfl rfl (fun w => at_row Try.underlying31 us4sz35 g _ _ j (by omega) rfl w)) ?_
      refine TQ.on rfl rfl rfl ?_
      refine TQ.val rfl rfl rfl (pm_loadU (k := 0) (i := j) rfl rfl us4ag35 rfl (by omega)) ?_
      refine TQ.on rfl rfl rfl ?_
      refine TQ.call (v := .bool true) rfl rfl rfl rfl rfl Try.func68 us4nm68 us4bd68 (fun w1 hw => (less_t _ _ p2 w1).mono fun en w2 ⟨h1, h2⟩ => ⟨h1, hw.below h2⟩) ?_
      refine TQ.val rfl rfl rfl (gives_pick rfl rfl rfl) ?_
      exact TQ.end_
     refine TX.then_ (TC.condT rfl (TC.skip_ (TX.then_ (TC.block (TC.region ?_)))))
     refine TL.mv ?_
     refine TL.val rfl rfl rfl (gives_bin rfl rfl rfl (fun w => bin_sub_ (r := ((j - 1 : Nat) : Int)) (by simp only [IntKind.wrap_i64]; omega) w)) ?_
     refine TL.as_ ?_
     refine TL.end_ (TX.in_normal ?_)
     exact TX.round (⟨j - 1, by omega, hR2⟩) (by show j - 1 < j; omega) ⟨rfl, rfl, rfl, rfl, rfl, trivial⟩ (fun w1 hw => hw)
    ·have hje : i ≤ j → dx ys j ≤ dx ys a := fun _ => by omega
     refine TC.quiet_ (E' := ?_) (by kernel_rfl) (by kernel_rfl) (fun w hw => hw.drawn _) ?_ ?_
     rotate_left
     ·refine TQ.val rfl rfl rfl (gives_move rfl rfl) ?_
      refine TQ.val rfl rfl rfl (gives_move rfl rfl) ?_
      refine TQ.val rfl rfl rfl (gives_bin rfl rfl rfl (fun w => bin_leq_t (by omega) w)) ?_
      iterate 6 (first | refine TQ.val rfl rfl rfl (gives_move rfl rfl) ?_ | refine TQ.on rfl rfl rfl ?_)
      refine TQ.val rfl rfl rfl (gives_at (v := .pointer (some ⟨g, a, none⟩)) rfl rfl rfl (fun w => at_row Try.underlying31 us4sz35 g _ _ a (by omega) rfl w)) ?_
      refine TQ.on rfl rfl rfl ?_
      refine TQ.val rfl rfl rfl (pm_loadU (k := 0) (i := a) rfl rfl us4ag35 rfl (by omega)) ?_
      iterate 5 (first | refine TQ.on rfl rfl rfl ?_ | refine TQ.val rfl rfl rfl (gives_move rfl rfl) ?_)
      refine TQ.val rfl rfl rfl (gives_at (v := .pointer (some ⟨g, j, none⟩)) rfl rfl rfl (fun w => at_row Try.underlying31 us4sz35 g _ _ j (by omega) rfl w)) ?_
      refine TQ.on rfl rfl rfl ?_
      refine TQ.val rfl rfl rfl (pm_loadU (k := 0) (i := j) rfl rfl us4ag35 rfl (by omega)) ?_
      refine TQ.on rfl rfl rfl ?_
      refine TQ.call (v := .bool false) rfl rfl rfl rfl rfl Try.func68 us4nm68 us4bd68 (fun w1 hw => (less_f _ _ p2 w1).mono fun en w2 ⟨h1, h2⟩ => ⟨h1, hw.below h2⟩) ?_
      refine TQ.val rfl rfl rfl (gives_pick rfl rfl rfl) ?_
      exact TQ.end_
     refine TX.then_ (TC.condF rfl (TC.exit_ (TX.then_exit (TX.then_exit (TX.in_same ?_)))))
     exact TX.joined (⟨j, hj0, hR, hje⟩) (⟨rfl, rfl, rfl, rfl, rfl, trivial⟩) (fun w1 hw => hw)
   ·rintro ⟨j, hj0, hR, hje⟩
    dsimp only
    have hr1 := hR.hi
    have hr2 := hR.hj
    have hr3 := hR.ij
    refine TC.seq_ (TC.seq_ (TC.region ?_))
    refine TL.mv ?_
    refine TL.mv ?_
    refine TL.vsplit rfl rfl rfl (gives_bin rfl rfl rfl (fun w => bin_gtr w)) (fun h64 => ?_) (fun h64 => ?_)
    ·have q64 := of_decide_eq_true h64
     refine TL.end_ (TX.then_ (TC.condT rfl (TC.exit_ (TX.then_exit (TX.in_other rfl (TX.then_exit (TX.in_same (TX.then_ (TC.seq_ (TC.region ?_))))))))))
     refine TL.mv ?_
     refine TL.as_ ?_
     refine TL.end_ (TX.then_ (TC.ret_ ?_))
     exact ret_tmp Try.results69 rfl (fun w1 hw => ⟨i, ys, rfl, ⟨hP, hR.eqs (by omega), hM⟩, pm_rowAt hw (k := 0) rfl, hw.mapEnd (fun q hq => by simp [hq])⟩)
    ·have q64 := of_decide_eq_false h64
     have hlt : i < j := by
      have h1 := hie (by omega)
      have h2 := hje (by omega)
      rcases Nat.lt_or_ge i j with hh | hh
      ·exact hh
      ·exfalso; obtain rfl : i = j := by omega
       omega
     refine TL.end_ (TX.then_ (TC.condF rfl (TC.skip_ (TX.then_ (TC.seq_ ?_)))))
     refine TC.held (ls := #[Ff,Ff,Ff,Ff,Ff,Ff,Ff,Ff,Ff,Ff,Ff,Ff,Ff,Ff,Ff,Ff]) (fun _ => True) (by kernel_rfl) rfl rfl (fun w hw => hw.drawn _) ?_
     refine TH.tk (listed' := #[Tt,Ff,Ff,Ff,Ff,Ff,Ff,Ff,Ff,Ff,Ff,Ff,Ff,Ff,Ff,Ff]) 0 rfl rfl rfl (gives_move rfl rfl) (fun _ _ => trivial) ?_
     refine TH.tk (listed' := #[Tt,Tt,Ff,Ff,Ff,Ff,Ff,Ff,Ff,Ff,Ff,Ff,Ff,Ff,Ff,Ff]) 1 rfl rfl rfl (gives_move rfl rfl) (fun _ _ => trivial) ?_
     refine TH.tk (listed' := #[Tt,Tt,Tt,Ff,Ff,Ff,Ff,Ff,Ff,Ff,Ff,Ff,Ff,Ff,Ff,Ff]) 2 rfl rfl rfl (gives_move rfl rfl) (fun _ _ => trivial) ?_
     refine TH.tk (listed' := #[Tt,Tt,Tt,Tt,Ff,Ff,Ff,Ff,Ff,Ff,Ff,Ff,Ff,Ff,Ff,Ff]) 3 rfl rfl rfl (gives_move rfl rfl) (fun _ _ => trivial) ?_
     refine TH.tk (listed' := #[Tt,Tt,Tt,Tt,Tt,Ff,Ff,Ff,Ff,Ff,Ff,Ff,Ff,Ff,Ff,Ff]) 4 rfl rfl rfl (gives_move rfl rfl) (fun _ _ => trivial) ?_
     refine TH.tk (listed' := #[Tt,Tt,Tt,Tt,Tt,Tt,Ff,Ff,Ff,Ff,Ff,Ff,Ff,Ff,Ff,Ff]) 5 rfl rfl rfl (gives_move rfl rfl) (fun _ _ => trivial) ?_
     refine TH.tk (listed' := #[Tt,Tt,Tt,Tt,Tt,Tt,Tt,Ff,Ff,Ff,Ff,Ff,Ff,Ff,Ff,Ff]) 6 rfl rfl rfl (gives_at (v := .pointer (some ⟨g, j, none⟩)) rfl rfl rfl (fun w => at_row Try.underlying31 us4sz35 g _ _ j (by omega) rfl w)) (fun _ _ => trivial) ?_
     refine TH.tk (listed' := #[Tt,Tt,Tt,Tt,Tt,Tt,Tt,Ff,Tt,Ff,Ff,Ff,Ff,Ff,Ff,Ff]) 8 rfl rfl rfl (gives_move rfl rfl) (fun _ _ => trivial) ?_
     refine TH.tk (listed' := #[Tt,Tt,Tt,Tt,Tt,Tt,Tt,Ff,Tt,Tt,Ff,Ff,Ff,Ff,Ff,Ff]) 9 rfl rfl rfl (gives_move rfl rfl) (fun _ _ => trivial) ?_
     refine TH.tk (listed' := #[Tt,Tt,Tt,Tt,Tt,Tt,Tt,Ff,Tt,Tt,Tt,Ff,Ff,Ff,Ff,Ff]) 10 rfl rfl rfl (gives_at (v := .pointer (some ⟨g, i, none⟩)) rfl rfl rfl (fun w => at_row Try.underlying31 us4sz35 g _ _ i (by omega) rfl w)) (fun _ _ => trivial) ?_
     refine TH.two' (listed1 := #[Tt,Tt,Tt,Tt,Tt,Tt,Tt,Tt,Tt,Tt,Tt,Ff,Ff,Ff,Ff,Ff]) (listed2 := #[Tt,Tt,Tt,Tt,Tt,Tt,Tt,Ff,Tt,Tt,Tt,Tt,Ff,Ff,Ff,Ff]) 7 11 rfl rfl (by kernel_rfl) rfl rfl ?_ ?_
     ·refine TL.val rfl rfl rfl (pm_loadU (k := 0) (i := j) rfl rfl us4ag35 rfl (by omega)) ?_
      refine TL.end_ ?_
      refine TX.held (fun _ _ => trivial) ?_
      refine TH.only' (listed' := #[Tt,Tt,Tt,Tt,Tt,Tt,Tt,Tt,Tt,Tt,Tt,Tt,Ff,Ff,Ff,Ff]) 11 rfl (by kernel_rfl) rfl ?_
      refine TL.val rfl rfl rfl (pm_loadU (k := 0) (i := i) rfl rfl us4ag35 rfl (by omega)) ?_
      refine TL.end_ ?_
      refine TX.held (fun _ _ => trivial) ?_
      refine TH.tk (listed' := #[Tt,Tt,Tt,Tt,Tt,Tt,Tt,Tt,Tt,Tt,Tt,Tt,Tt,Ff,Ff,Ff]) 12 rfl rfl rfl (gives_at (v := .pointer (some ⟨g, i, none⟩)) rfl rfl rfl (fun w => at_row Try.underlying31 us4sz35 g _ _ i (by omega) rfl w)) (fun _ _ => trivial) ?_
      refine TH.only' (listed' := #[Tt,Tt,Tt,Tt,Tt,Tt,Tt,Tt,Tt,Tt,Tt,Tt,Tt,Tt,Ff,Ff]) 13 rfl (by kernel_rfl) rfl ?_
      refine TL.uset (k := 0) (i := i) rfl rfl rfl rfl rfl rfl us4sz35 (by omega) ?_
      refine TL.end_ ?_
      refine TX.held (fun _ _ => trivial) ?_
      refine TH.tk (listed' := #[Tt,Tt,Tt,Tt,Tt,Tt,Tt,Tt,Tt,Tt,Tt,Tt,Tt,Tt,Tt,Ff]) 14 rfl rfl rfl (gives_at (v := .pointer (some ⟨g, j, none⟩)) rfl rfl rfl (fun w => at_row Try.underlying31 us4sz35 g _ _ j (by omega) rfl w)) (fun _ _ => trivial) ?_
      refine TH.only' (listed' := #[Tt,Tt,Tt,Tt,Tt,Tt,Tt,Tt,Tt,Tt,Tt,Tt,Tt,Tt,Tt,Tt]) 15 rfl (by kernel_rfl) rfl ?_
      refine TL.uset (k := 0) (i := j) rfl rfl rfl rfl rfl rfl us4sz35 (by rw [List.length_set]; omega) ?_
      refine TL.end_ ?_
      refine TX.held (fun _ _ => trivial) ?_
      refine TH.done (by kernel_rfl) ?_
      refine TX.then_ (TC.seq_ (TC.region ?_))
      refine TL.mv ?_
      refine TL.val rfl rfl rfl (gives_bin rfl rfl rfl (fun w => bin_add_ (r := ((i + 1 : Nat) : Int)) (by simp only [IntKind.wrap_i64]; omega) w)) ?_
      refine TL.as_ ?_
      refine TL.end_ (TX.then_ (TC.region ?_))
      refine TL.mv ?_
      refine TL.val rfl rfl rfl (gives_bin rfl rfl rfl (fun w => bin_sub_ (r := ((j - 1 : Nat) : Int)) (by simp only [IntKind.wrap_i64]; omega) w)) ?_
      refine TL.as_ ?_
      refine TL.end_ (TX.in_normal ?_)
      exact TX.round (⟨(i + 1, j - 1, swp ys i j), hR.swap (by omega) hlt (hje (by omega)) (by have := hie (by omega); omega), hP.swap (by omega) (by omega) (by omega) (by omega) (by omega), hM.swap (by omega) (by omega) (by omega) (by omega) (by omega), by rw [swp_len]; exact hly⟩) (by show j - 1 + 1 - (i + 1) < j0 + 1 - i0; omega) ⟨rfl, rfl, rfl, rfl, rfl, trivial⟩ (fun w1 hw => hw)
     ·refine TL.val rfl rfl rfl (pm_loadU (k := 0) (i := i) rfl rfl us4ag35 rfl (by omega)) ?_
      refine TL.end_ ?_
      refine TX.held (fun _ _ => trivial) ?_
      refine TH.only' (listed' := #[Tt,Tt,Tt,Tt,Tt,Tt,Tt,Tt,Tt,Tt,Tt,Tt,Ff,Ff,Ff,Ff]) 7 rfl (by kernel_rfl) rfl ?_
      refine TL.val rfl rfl rfl (pm_loadU (k := 0) (i := j) rfl rfl us4ag35 rfl (by omega)) ?_
      refine TL.end_ ?_
      refine TX.held (fun _ _ => trivial) ?_
      refine TH.tk (listed' := #[Tt,Tt,Tt,Tt,Tt,Tt,Tt,Tt,Tt,Tt,Tt,Tt,Tt,Ff,Ff,Ff]) 12 rfl rfl rfl (gives_at (v := .pointer (some ⟨g, i, none⟩)) rfl rfl rfl (fun w => at_row Try.underlying31 us4sz35 g _ _ i (by omega) rfl w)) (fun _ _ => trivial) ?_
      refine TH.only' (listed' := #[Tt,Tt,Tt,Tt,Tt,Tt,Tt,Tt,Tt,Tt,Tt,Tt,Tt,Tt,Ff,Ff]) 13 rfl (by kernel_rfl) rfl ?_
      refine TL.uset (k := 0) (i := i) rfl rfl rfl rfl rfl rfl us4sz35 (by omega) ?_
      refine TL.end_ ?_
      refine TX.held (fun _ _ => trivial) ?_
      refine TH.tk (listed' := #[Tt,Tt,Tt,Tt,Tt,Tt,Tt,Tt,Tt,Tt,Tt,Tt,Tt,Tt,Tt,Ff]) 14 rfl rfl rfl (gives_at (v := .pointer (some ⟨g, j, none⟩)) rfl rfl rfl (fun w => at_row Try.underlying31 us4sz35 g _ _ j (by omega) rfl w)) (fun _ _ => trivial) ?_
      refine TH.only' (listed' := #[Tt,Tt,Tt,Tt,Tt,Tt,Tt,Tt,Tt,Tt,Tt,Tt,Tt,Tt,Tt,Tt]) 15 rfl (by kernel_rfl) rfl ?_
      refine TL.uset (k := 0) (i := j) rfl rfl rfl rfl rfl rfl us4sz35 (by rw [List.length_set]; omega) ?_
      refine TL.end_ ?_
      refine TX.held (fun _ _ => trivial) ?_
      refine TH.done (by kernel_rfl) ?_
      refine TX.then_ (TC.seq_ (TC.region ?_))
      refine TL.mv ?_
      refine TL.val rfl rfl rfl (gives_bin rfl rfl rfl (fun w => bin_add_ (r := ((i + 1 : Nat) : Int)) (by simp only [IntKind.wrap_i64]; omega) w)) ?_
      refine TL.as_ ?_
      refine TL.end_ (TX.then_ (TC.region ?_))
      refine TL.mv ?_
      refine TL.val rfl rfl rfl (gives_bin rfl rfl rfl (fun w => bin_sub_ (r := ((j - 1 : Nat) : Int)) (by simp only [IntKind.wrap_i64]; omega) w)) ?_
      refine TL.as_ ?_
      refine TL.end_ (TX.in_normal ?_)
      exact TX.round (⟨(i + 1, j - 1, swp ys i j), hR.swap (by omega) hlt (hje (by omega)) (by have := hie (by omega); omega), hP.swap (by omega) (by omega) (by omega) (by omega) (by omega), hM.swap (by omega) (by omega) (by omega) (by omega) (by omega), by rw [swp_len]; exact hly⟩) (by show j - 1 + 1 - (i + 1) < j0 + 1 - i0; omega) ⟨rfl, rfl, rfl, rfl, rfl, trivial⟩ (fun w1 hw => hw)
end Go.Proofs.Ytleckflmckbheaa
