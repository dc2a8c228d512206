/-
  Texts of the proof, joined: Us5, Us6, Us7, Us8, CptLaw, Us9, ClsStep, UnRoot.
-/
import Derived.Test.YtleckflmckbheaaPv3
import Derived.Test.YtleckflmckbheaaPv1
import Derived.Test.YtleckflmckbheaaPv2
set_option linter.unusedVariables false
set_option linter.unusedSimpArgs false
namespace Go.Proofs.Ytleckflmckbheaa
open Go.RowKit
set_option maxRecDepth 20000
theorem us5sz35 (w : World) : (sizeOf 35).run Try.prog w = .ok 1 w := rfl
theorem us5ag35 (w : World) : (isAgg 35).run Try.prog w = .ok false w := rfl
theorem us5nm68 : (Try.f68.name == "runtime.NumGoroutine") = false := by decide
theorem us5bd68 : Try.f68.body.isNone = false := rfl
set_option maxHeartbeats 1000000 in
theorem part_any (g n c : Nat) (xs : List Int) (w : World) (h : Rw 35 w g n c xs) (hn : n ≤ 1000000) (a b p : Nat) (hap : a ≤ p) (hpb : p < b) (hb : b ≤ n) :
  Calls Try.prog 70 #[.slice (some ⟨g, 0, none⟩) n c, .int .i64 ((a : Nat) : Int), .int .i64 ((b : Nat) : Int), .int .i64 ((p : Nat) : Int)] w (RC (α := Nat × Bool) (fun x => .tuple #[.int .i64 ((x.1 : Nat) : Int), .bool x.2]) (fun x ys => Pin a b xs ys ∧ Mid a b x.1 ys) 35 g n c w) := by
 have hl := h.len
 refine begin_ (vs := [.slice (some ⟨g, 0, none⟩) n c, .int .i64 ((a : Nat) : Int), .int .i64 ((b : Nat) : Int), .int .i64 ((p : Nat) : Int)]) (I := Pm ⟨wbut w g, g⟩ (.row (.slice (some ⟨g, 0, none⟩) n c) 35 1 n (uv xs) :: oths g w)) Try.func70 rfl rfl rfl ?_ (Pm.rowStart h)
 refine TC.seq_ (TC.region ?_)
 refine TL.as_ ?_
 refine TL.as_ ?_
 refine TL.end_ (TX.then_ ?_)
 refine TC.join (α := Unit) (fun y => [(0, .slice (some ⟨g, 0, none⟩) n c), (1, .int .i64 ((a : Nat) : Int)), (2, .int .i64 ((b : Nat) : Int))]) (fun y => Pm ⟨wbut w g, g⟩ ([.row (.slice (some ⟨g, 0, none⟩) n c) 35 1 n (uv (swp xs a p))] ++ oths g w)) ?_ ?_
 ·refine TC.held (ls := #[Ff,Ff,Ff,Ff,Ff,Ff,Ff,Ff,Ff,Ff,Ff,Ff,Ff,Ff,Ff,Ff]) (fun _ => True) (by kernel_rfl) rfl rfl (fun w hw => hw.drawn _) ?_
  refine TH.tk (listed' := #[Tt,Ff,Ff,Ff,Ff,Ff,Ff,Ff,Ff,Ff,Ff,Ff,Ff,Ff,Ff,Ff]) 0 rfl rfl rfl (gives_move rfl rfl) (fun _ _ => trivial) ?_
  refine TH.tk (listed' := #[Tt,Tt,Ff,Ff,Ff,Ff,Ff,Ff,Ff,Ff,Ff,Ff,Ff,Ff,Ff,Ff]) 1 rfl rfl rfl (gives_move rfl rfl) (fun _ _ => trivial) ?_
  refine TH.tk (listed' := #[Tt,Tt,Tt,Ff,Ff,Ff,Ff,Ff,Ff,Ff,Ff,Ff,Ff,Ff,Ff,Ff]) 2 rfl rfl rfl (gives_move rfl rfl) (fun _ _ => trivial) ?_
  refine TH.tk (listed' := #[Tt,Tt,Tt,Tt,Ff,Ff,Ff,Ff,Ff,Ff,Ff,Ff,Ff,Ff,Ff,Ff]) 3 rfl rfl rfl (gives_move rfl rfl) (fun _ _ => trivial) ?_
  refine TH.tk (listed' := #[Tt,Tt,Tt,Tt,Tt,Ff,Ff,Ff,Ff,Ff,Ff,Ff,Ff,Ff,Ff,Ff]) 4 rfl rfl rfl (gives_move rfl rfl) (fun _ _ => trivial) ?_
  refine TH.tk (listed' := #[Tt,Tt,Tt,Tt,Tt,Tt,Ff,Ff,Ff,Ff,Ff,Ff,Ff,Ff,Ff,Ff]) 5 rfl rfl rfl (gives_move rfl rfl) (fun _ _ => trivial) ?_
  refine TH.tk (listed' := #[Tt,Tt,Tt,Tt,Tt,Tt,Tt,Ff,Ff,Ff,Ff,Ff,Ff,Ff,Ff,Ff]) 6 rfl rfl rfl (gives_at (v := .pointer (some ⟨g, p, none⟩)) rfl rfl rfl (fun w => at_row Try.underlying31 us5sz35 g _ _ p (by omega) rfl w)) (fun _ _ => trivial) ?_
  refine TH.tk (listed' := #[Tt,Tt,Tt,Tt,Tt,Tt,Tt,Ff,Tt,Ff,Ff,Ff,Ff,Ff,Ff,Ff]) 8 rfl rfl rfl (gives_move rfl rfl) (fun _ _ => trivial) ?_
  refine TH.tk (listed' := #[Tt,Tt,Tt,Tt,Tt,Tt,Tt,Ff,Tt,Tt,Ff,Ff,Ff,Ff,Ff,Ff]) 9 rfl rfl rfl (gives_move rfl rfl) (fun _ _ => trivial) ?_
  refine TH.tk (listed' := #[Tt,Tt,Tt,Tt,Tt,Tt,Tt,Ff,Tt,Tt,Tt,Ff,Ff,Ff,Ff,Ff]) 10 rfl rfl rfl (gives_at (v := .pointer (some ⟨g, a, none⟩)) rfl rfl rfl (fun w => at_row Try.underlying31 us5sz35 g _ _ a (by omega) rfl w)) (fun _ _ => trivial) ?_
  refine TH.two' (listed1 := #[Tt,Tt,Tt,Tt,Tt,Tt,Tt,Tt,Tt,Tt,Tt,Ff,Ff,Ff,Ff,Ff]) (listed2 := #[Tt,Tt,Tt,Tt,Tt,Tt,Tt,Ff,Tt,Tt,Tt,Tt,Ff,Ff,Ff,Ff]) 7 11 rfl rfl (by kernel_rfl) rfl rfl ?_ ?_
  ·refine TL.val rfl rfl rfl (pm_loadU (k := 0) (i := p) rfl rfl us5ag35 rfl (by omega)) ?_
   refine TL.end_ ?_
   refine TX.held (fun _ _ => trivial) ?_
   refine TH.only' (listed' := #[Tt,Tt,Tt,Tt,Tt,Tt,Tt,Tt,Tt,Tt,Tt,Tt,Ff,Ff,Ff,Ff]) 11 rfl (by kernel_rfl) rfl ?_
   refine TL.val rfl rfl rfl (pm_loadU (k := 0) (i := a) rfl rfl us5ag35 rfl (by omega)) ?_
   refine TL.end_ ?_
   refine TX.held (fun _ _ => trivial) ?_
   refine TH.tk (listed' := #[Tt,Tt,Tt,Tt,Tt,Tt,Tt,Tt,Tt,Tt,Tt,Tt,Tt,Ff,Ff,Ff]) 12 rfl rfl rfl (gives_at (v := .pointer (some ⟨g, a, none⟩)) rfl rfl rfl (fun w => at_row Try.underlying31 us5sz35 g _ _ a (by omega) rfl w)) (fun _ _ => trivial) ?_
   refine TH.only' (listed' := #[Tt,Tt,Tt,Tt,Tt,Tt,Tt,Tt,Tt,Tt,Tt,Tt,Tt,Tt,Ff,Ff]) 13 rfl (by kernel_rfl) rfl ?_
   refine TL.uset (k := 0) (i := a) rfl rfl rfl rfl rfl rfl us5sz35 (by omega) ?_
   refine TL.end_ ?_
   refine TX.held (fun _ _ => trivial) ?_
   refine TH.tk (listed' := #[Tt,Tt,Tt,Tt,Tt,Tt,Tt,Tt,Tt,Tt,Tt,Tt,Tt,Tt,Tt,Ff]) 14 rfl rfl rfl (gives_at (v := .pointer (some ⟨g, p, none⟩)) rfl rfl rfl (fun w => at_row Try.underlying31 us5sz35 g _ _ p (by omega) rfl w)) (fun _ _ => trivial) ?_
   refine TH.only' (listed' := #[Tt,Tt,Tt,Tt,Tt,Tt,Tt,Tt,Tt,Tt,Tt,Tt,Tt,Tt,Tt,Tt]) 15 rfl (by kernel_rfl) rfl ?_
   refine TL.uset (k := 0) (i := p) rfl rfl rfl rfl rfl rfl us5sz35 (by rw [List.length_set]; omega) ?_
   refine TL.end_ ?_
   refine TX.held (fun _ _ => trivial) ?_
   refine TH.done (by kernel_rfl) ?_
   exact TX.joined (()) (⟨rfl, rfl, rfl, trivial⟩) (fun w1 hw => hw)
  ·refine TL.val rfl rfl rfl (pm_loadU (k := 0) (i := a) rfl rfl us5ag35 rfl (by omega)) ?_
   refine TL.end_ ?_
   refine TX.held (fun _ _ => trivial) ?_
   refine TH.only' (listed' := #[Tt,Tt,Tt,Tt,Tt,Tt,Tt,Tt,Tt,Tt,Tt,Tt,Ff,Ff,Ff,Ff]) 7 rfl (by kernel_rfl) rfl ?_
   refine TL.val rfl rfl rfl (pm_loadU (k := 0) (i := p) rfl rfl us5ag35 rfl (by omega)) ?_
   refine TL.end_ ?_
   refine TX.held (fun _ _ => trivial) ?_
   refine TH.tk (listed' := #[Tt,Tt,Tt,Tt,Tt,Tt,Tt,Tt,Tt,Tt,Tt,Tt,Tt,Ff,Ff,Ff]) 12 rfl rfl rfl (gives_at (v := .pointer (some ⟨g, a, none⟩)) rfl rfl rfl (fun w => at_row Try.underlying31 us5sz35 g _ _ a (by omega) rfl w)) (fun _ _ => trivial) ?_
   refine TH.only' (listed' := #[Tt,Tt,Tt,Tt,Tt,Tt,Tt,Tt,Tt,Tt,Tt,Tt,Tt,Tt,Ff,Ff]) 13 rfl (by kernel_rfl) rfl ?_
   refine TL.uset (k := 0) (i := a) rfl rfl rfl rfl rfl rfl us5sz35 (by omega) ?_
   refine TL.end_ ?_
   refine TX.held (fun _ _ => trivial) ?_
   refine TH.tk (listed' := #[Tt,Tt,Tt,Tt,Tt,Tt,Tt,Tt,Tt,Tt,Tt,Tt,Tt,Tt,Tt,Ff]) 14 rfl rfl rfl (gives_at (v := .pointer (some ⟨g, p, none⟩)) rfl rfl rfl (fun w => at_row Try.underlying31 us5sz35 g _ _ p (by omega) rfl w)) (fun _ _ => trivial) ?_
   refine TH.only' (listed' := #[Tt,Tt,Tt,Tt,Tt,Tt,Tt,Tt,Tt,Tt,Tt,Tt,Tt,Tt,Tt,Tt]) 15 rfl (by kernel_rfl) rfl ?_
   refine TL.uset (k := 0) (i := p) rfl rfl rfl rfl rfl rfl us5sz35 (by rw [List.length_set]; omega) ?_
   refine TL.end_ ?_
   refine TX.held (fun _ _ => trivial) ?_
   refine TH.done (by kernel_rfl) ?_
   exact TX.joined (()) (⟨rfl, rfl, rfl, trivial⟩) (fun w1 hw => hw)
 ·rintro u
  have hP1 : Pin a b xs (swp xs a p) := Pin.swp1 (by omega) (Nat.le_refl _) (by omega) hap hpb
  have hl1 : (swp xs a p).length = n := by rw [swp_len]; exact hl
  have hS : Prt a b (a + 1) (b - 1) (swp xs a p) := Prt.start (by omega)
  refine TC.seq_ (TC.region ?_)
  refine TL.mv ?_
  refine TL.val rfl rfl rfl (gives_bin rfl rfl rfl (fun w => bin_add_ (r := ((a + 1 : Nat) : Int)) (by simp only [IntKind.wrap_i64]; omega) w)) ?_
  refine TL.mv ?_
  refine TL.val rfl rfl rfl (gives_bin rfl rfl rfl (fun w => bin_sub_ (r := ((b - 1 : Nat) : Int)) (by simp only [IntKind.wrap_i64]; omega) w)) ?_
  refine TL.as_ ?_
  refine TL.as_ ?_
  refine TL.end_ (TX.then_ ?_)
  refine TC.join (α := {y : Nat // (a + 1) ≤ y ∧ Prt a b y (b - 1) (swp xs a p) ∧ (y ≤ b - 1 → dx (swp xs a p) a ≤ dx (swp xs a p) y)}) (fun y => [(0, .slice (some ⟨g, 0, none⟩) n c), (1, .int .i64 ((a : Nat) : Int)), (2, .int .i64 ((b : Nat) : Int)), (10, .int .i64 ((y.1 : Nat) : Int)), (11, .int .i64 ((b - 1 : Nat) : Int))]) (fun y => Pm ⟨wbut w g, g⟩ ([.row (.slice (some ⟨g, 0, none⟩) n c) 35 1 n (uv (swp xs a p))] ++ oths g w)) ?_ ?_
  ·refine TC.block ?_
   refine TC.loop_ (α := {y : Nat // (a + 1) ≤ y ∧ Prt a b y (b - 1) (swp xs a p)}) (fun y => [(0, .slice (some ⟨g, 0, none⟩) n c), (1, .int .i64 ((a : Nat) : Int)), (2, .int .i64 ((b : Nat) : Int)), (10, .int .i64 ((y.1 : Nat) : Int)), (11, .int .i64 ((b - 1 : Nat) : Int))]) (fun y => Pm ⟨wbut w g, g⟩ ([.row (.slice (some ⟨g, 0, none⟩) n c) 35 1 n (uv (swp xs a p))] ++ oths g w)) (fun y => b + 1 - y.1) (⟨(a + 1), Nat.le_refl _, hS⟩) ⟨rfl, rfl, rfl, rfl, rfl, trivial⟩ (fun w1 hw => hw) ?_
   rintro ⟨i, hi0, hQ⟩
   try dsimp only
   have hq1 := hQ.hi
   have hq2 := hQ.hj
   have hq3 := hQ.ij
   refine TC.seq_ (TC.seq_ ?_)
   have hway : ¬ i ≤ b - 1 ∨ (i ≤ b - 1 ∧ dx (swp xs a p) i < dx (swp xs a p) a) ∨ (i ≤ b - 1 ∧ ¬ dx (swp xs a p) i < dx (swp xs a p) a) := by omega
   rcases hway with p1 | ⟨p1, p2⟩ | ⟨p1, p2⟩
   ·have hie : i ≤ b - 1 → dx (swp xs a p) a ≤ dx (swp xs a p) i := fun hh => absurd hh p1
    refine TC.quiet_ (E' := ?_) (by kernel_rfl) (by kernel_rfl) (fun w hw => hw.drawn _) ?_ ?_
    rotate_left
    ·refine TQ.val rfl rfl rfl (gives_move rfl rfl) ?_
     refine TQ.val rfl rfl rfl (gives_move rfl rfl) ?_
     refine TQ.val rfl rfl rfl (gives_bin rfl rfl rfl (fun w => bin_leq_f (by omega) w)) ?_
     iterate 11 (first | refine TQ.off rfl rfl rfl rfl rfl rfl ?_ | refine TQ.val rfl rfl rfl (gives_move rfl rfl) ?_ | refine TQ.val rfl rfl rfl (gives_pick rfl rfl rfl) ?_)
     exact TQ.end_
    refine TX.then_ (TC.condF rfl (TC.exit_ (TX.then_exit (TX.then_exit (TX.in_same ?_)))))
    exact TX.joined (⟨i, hi0, hQ, hie⟩) (⟨rfl, rfl, rfl, rfl, rfl, trivial⟩) (fun w1 hw => hw)
   ·have hQ2 : Prt a b (i + 1) (b - 1) (swp xs a p) := hQ.inc p1 (by omega)
    refine TC.quiet_ (E' := ?_) (by kernel_rfl) (by kernel_rfl) (fun w hw => hw.drawn _) ?_ ?_
    rotate_left
    ·refine TQ.val rfl rfl rfl (gives_move rfl rfl) ?_
     refine TQ.val rfl rfl rfl (gives_move rfl rfl) ?_
     refine TQ.val rfl rfl rfl (gives_bin rfl rfl rfl (fun w => bin_leq_t (by omega) w)) ?_
     iterate 6 (first | refine TQ.val rfl rfl rfl (gives_move rfl rfl) ?_ | refine TQ.on rfl rfl rfl ?_)
     refine TQ.val rfl rfl rfl (gives_at (v := .pointer (some ⟨g, i, none⟩)) rfl rfl rfl (fun w => at_row Try.underlying31 us5sz35 g _ _ i (by omega) rfl w)) ?_
     refine TQ.on rfl rfl rfl ?_
     refine TQ.val rfl rfl rfl (pm_loadU (k := 0) (i := i) rfl rfl us5ag35 rfl (by omega)) ?_
     iterate 5 (first | refine TQ.on rfl rfl rfl ?_ | refine TQ.val rfl rfl rfl (gives_move rfl rfl) ?_)
     refine TQ.val rfl rfl rfl (gives_at (v := .pointer (some ⟨g, a, none⟩)) rfl rfl rfl (fun w => at_row Try.underlying31 us5sz35 g _ _ a (by omega) rfl w)) ?_
     refine TQ.on rfl rfl rfl ?_
     refine TQ.val rfl rfl rfl (pm_loadU (k := 0) (i := a) rfl rfl us5ag35 rfl (by omega)) ?_
     refine TQ.on rfl rfl rfl ?_
     refine TQ.call (v := .bool true) rfl rfl rfl rfl rfl Try.func68 us5nm68 us5bd68 (fun w1 hw => (less_t _ _ p2 w1).mono fun en w2 ⟨h1, h2⟩ => ⟨h1, hw.below h2⟩) ?_
     refine TQ.val rfl rfl rfl (gives_pick rfl rfl rfl) ?_
     exact TQ.end_
    refine TX.then_ (TC.condT rfl (TC.skip_ (TX.then_ (TC.block (TC.region ?_)))))
    refine TL.mv ?_
    refine TL.val rfl rfl rfl (gives_bin rfl rfl rfl (fun w => bin_add_ (r := ((i + 1 : Nat) : Int)) (by simp only [IntKind.wrap_i64]; omega) w)) ?_
    refine TL.as_ ?_
    refine TL.end_ (TX.in_normal ?_)
    exact TX.round (⟨i + 1, by omega, hQ2⟩) (by show b + 1 - (i + 1) < b + 1 - i; omega) ⟨rfl, rfl, rfl, rfl, rfl, trivial⟩ (fun w1 hw => hw)
   ·have hie : i ≤ b - 1 → dx (swp xs a p) a ≤ dx (swp xs a p) i := fun _ => by omega
    refine TC.quiet_ (E' := ?_) (by kernel_rfl) (by kernel_rfl) (fun w hw => hw.drawn _) ?_ ?_
    rotate_left
    ·refine TQ.val rfl rfl rfl (gives_move rfl rfl) ?_
     refine TQ.val rfl rfl rfl (gives_move rfl rfl) ?_
     refine TQ.val rfl rfl rfl (gives_bin rfl rfl rfl (fun w => bin_leq_t (by omega) w)) ?_
     iterate 6 (first | refine TQ.val rfl rfl rfl (gives_move rfl rfl) ?_ | refine TQ.on rfl rfl rfl ?_)
     refine TQ.val rfl rfl rfl (gives_at (v := .pointer (some ⟨g, i, none⟩)) rfl rfl rfl (fun w => at_row Try.underlying31 us5sz35 g _ _ i (by omega) rfl w)) ?_
     refine TQ.on rfl rfl rfl ?_
     refine TQ.val rfl rfl rfl (pm_loadU (k := 0) (i := i) rfl rfl us5ag35 rfl (by omega)) ?_
     iterate 5 (first | refine TQ.on rfl rfl rfl ?_ | refine TQ.val rfl rfl rfl (gives_move rfl rfl) ?_)
     refine TQ.val rfl rfl rfl (gives_at (v := .pointer (some ⟨g, a, none⟩)) rfl rfl rfl (fun w => at_row Try.underlying31 us5sz35 g _ _ a (by omega) rfl w)) ?_
     refine TQ.on rfl rfl rfl ?_
     refine TQ.val rfl rfl rfl (pm_loadU (k := 0) (i := a) rfl rfl us5ag35 rfl (by omega)) ?_
     refine TQ.on rfl rfl rfl ?_
     refine TQ.call (v := .bool false) rfl rfl rfl rfl rfl Try.func68 us5nm68 us5bd68 (fun w1 hw => (less_f _ _ p2 w1).mono fun en w2 ⟨h1, h2⟩ => ⟨h1, hw.below h2⟩) ?_
     refine TQ.val rfl rfl rfl (gives_pick rfl rfl rfl) ?_
     exact TQ.end_
    refine TX.then_ (TC.condF rfl (TC.exit_ (TX.then_exit (TX.then_exit (TX.in_same ?_)))))
    exact TX.joined (⟨i, hi0, hQ, hie⟩) (⟨rfl, rfl, rfl, rfl, rfl, trivial⟩) (fun w1 hw => hw)
  ·rintro ⟨i, hi0, hQ, hie⟩
   try dsimp only
   have hq1 := hQ.hi
   have hq2 := hQ.hj
   have hq3 := hQ.ij
   refine TC.join (α := {y : Nat // y ≤ b - 1 ∧ Prt a b i y (swp xs a p) ∧ (i ≤ y → dx (swp xs a p) y < dx (swp xs a p) a)}) (fun y => [(0, .slice (some ⟨g, 0, none⟩) n c), (1, .int .i64 ((a : Nat) : Int)), (2, .int .i64 ((b : Nat) : Int)), (10, .int .i64 ((i : Nat) : Int)), (11, .int .i64 ((y.1 : Nat) : Int))]) (fun y => Pm ⟨wbut w g, g⟩ ([.row (.slice (some ⟨g, 0, none⟩) n c) 35 1 n (uv (swp xs a p))] ++ oths g w)) ?_ ?_
   ·refine TC.block ?_
    refine TC.loop_ (α := {y : Nat // y ≤ b - 1 ∧ Prt a b i y (swp xs a p)}) (fun y => [(0, .slice (some ⟨g, 0, none⟩) n c), (1, .int .i64 ((a : Nat) : Int)), (2, .int .i64 ((b : Nat) : Int)), (10, .int .i64 ((i : Nat) : Int)), (11, .int .i64 ((y.1 : Nat) : Int))]) (fun y => Pm ⟨wbut w g, g⟩ ([.row (.slice (some ⟨g, 0, none⟩) n c) 35 1 n (uv (swp xs a p))] ++ oths g w)) (fun y => y.1) (⟨b - 1, Nat.le_refl _, hQ⟩) ⟨rfl, rfl, rfl, rfl, rfl, trivial⟩ (fun w1 hw => hw) ?_
    rintro ⟨j, hj0, hR⟩
    try dsimp only
    have hr1 := hR.hi
    have hr2 := hR.hj
    have hr3 := hR.ij
    refine TC.seq_ (TC.seq_ ?_)
    have hway : ¬ i ≤ j ∨ (i ≤ j ∧ dx (swp xs a p) j < dx (swp xs a p) a) ∨ (i ≤ j ∧ ¬ dx (swp xs a p) j < dx (swp xs a p) a) := by omega
    rcases hway with p1 | ⟨p1, p2⟩ | ⟨p1, p2⟩
    ·have hje : i ≤ j → dx (swp xs a p) j < dx (swp xs a p) a := fun hh => absurd hh p1
     refine TC.quiet_ (E' := ?_) (by kernel_rfl) (by kernel_rfl) (fun w hw => hw.drawn _) ?_ ?_
     rotate_left
     ·refine TQ.val rfl rfl rfl (gives_move rfl rfl) ?_
      refine TQ.val rfl rfl rfl (gives_move rfl rfl) ?_
      refine TQ.val rfl rfl rfl (gives_bin rfl rfl rfl (fun w => bin_leq_f (by omega) w)) ?_
      iterate 12 (first | refine TQ.off rfl rfl rfl rfl rfl rfl ?_ | refine TQ.val rfl rfl rfl (gives_move rfl rfl) ?_ | refine TQ.val rfl rfl rfl (gives_pick rfl rfl rfl) ?_)
      exact TQ.end_
     refine TX.then_ (TC.condF rfl (TC.exit_ (TX.then_exit (TX.then_exit (TX.in_same ?_)))))
     exact TX.joined (⟨j, hj0, hR, hje⟩) (⟨rfl, rfl, rfl, rfl, rfl, trivial⟩) (fun w1 hw => hw)
    ·have hje : i ≤ j → dx (swp xs a p) j < dx (swp xs a p) a := fun _ => p2
     refine TC.quiet_ (E' := ?_) (by kernel_rfl) (by kernel_rfl) (fun w hw => hw.drawn _) ?_ ?_
     rotate_left
     ·refine TQ.val rfl rfl rfl (gives_move rfl rfl) ?_
      refine TQ.val rfl rfl rfl (gives_move rfl rfl) ?_
      refine TQ.val rfl rfl rfl (gives_bin rfl rfl rfl (fun w => bin_leq_t (by omega) w)) ?_
      iterate 6 (first | refine TQ.val rfl rfl rfl (gives_move rfl rfl) ?_ | refine TQ.on rfl rfl rfl ?_)
      refine TQ.val rfl rfl rfl (gives_at (v := .pointer (some ⟨g, j, none⟩)) rfl rfl rfl (fun w => at_row Try.underlying31 us5sz35 g _ _ j (by omega) rfl w)) ?_
      refine TQ.on rfl rfl rfl ?_
      refine TQ.val rfl rfl rfl (pm_loadU (k := 0) (i := j) rfl rfl us5ag35 rfl (by omega)) ?_
      iterate 5 (first | refine TQ.on rfl rfl rfl ?_ | refine TQ.val rfl rfl rfl (gives_move rfl rfl) ?_)
      refine TQ.val rfl rfl rfl (gives_at (v := .pointer (some ⟨g, a, none⟩)) rfl rfl rfl (fun w => at_row Try.underlying31 us5sz35 g _ _ a (by omega) rfl w)) ?_
      refine TQ.on rfl rfl rfl ?_
      refine TQ.val rfl rfl rfl (pm_loadU (k := 0) (i := a) rfl rfl us5ag35 rfl (by omega)) ?_
      refine TQ.on rfl rfl rfl ?_
      refine TQ.call (v := .bool true) rfl rfl rfl rfl rfl Try.func68 us5nm68 us5bd68 (fun w1 hw => (less_t _ _ p2 w1).mono fun en w2 ⟨h1, h2⟩ => ⟨h1, hw.below h2⟩) ?_
      refine TQ.on rfl rfl rfl ?_
      refine TQ.val rfl rfl rfl (gives_boolnot rfl rfl) ?_
      refine TQ.val rfl rfl rfl (gives_pick rfl rfl rfl) ?_
      exact TQ.end_
     refine TX.then_ (TC.condF rfl (TC.exit_ (TX.then_exit (TX.then_exit (TX.in_same ?_)))))
     exact TX.joined (⟨j, hj0, hR, hje⟩) (⟨rfl, rfl, rfl, rfl, rfl, trivial⟩) (fun w1 hw => hw)
    ·have hR2 : Prt a b i (j - 1) (swp xs a p) := hR.dec p1 (by omega)
     refine TC.quiet_ (E' := ?_) (by kernel_rfl) (by kernel_rfl) (fun w hw => hw.drawn _) ?_ ?_
     rotate_left
     ·refine TQ.val rfl rfl rfl (gives_move rfl rfl) ?_
      refine TQ.val rfl rfl rfl (gives_move rfl rfl) ?_
      refine TQ.val rfl rfl rfl (gives_bin rfl rfl rfl (fun w => bin_leq_t (by omega) w)) ?_
      iterate 6 (first | refine TQ.val rfl rfl rfl (gives_move rfl rfl) ?_ | refine TQ.on rfl rfl rfl ?_)
      refine TQ.val rfl rfl rfl (gives_at (v := .pointer (some ⟨g, j, none⟩)) rfl rfl rfl (fun w => at_row Try.underlying31 us5sz35 g _ _ j (by omega) rfl w)) ?_
      refine TQ.on rfl rfl rfl ?_
      refine TQ.val rfl rfl rfl (pm_loadU (k := 0) (i := j) rfl rfl us5ag35 rfl (by omega)) ?_
      iterate 5 (first | refine TQ.on rfl rfl rfl ?_ | refine TQ.val rfl rfl rfl (gives_move rfl rfl) ?_)
      refine TQ.val rfl rfl rfl (gives_at (v := .pointer (some ⟨g, a, none⟩)) rfl rfl rfl (fun w => at_row Try.underlying31 us5sz35 g _ _ a (by omega) rfl w)) ?_
      refine TQ.on rfl rfl rfl ?_
      refine TQ.val rfl rfl rfl (pm_loadU (k := 0) (i := a) rfl rfl us5ag35 rfl (by omega)) ?_
      refine TQ.on rfl rfl rfl ?_
      refine TQ.call (v := .bool false) rfl rfl rfl rfl rfl Try.func68 us5nm68 us5bd68 (fun w1 hw => (less_f _ _ p2 w1).mono fun en w2 ⟨h1, h2⟩ => ⟨h1, hw.below h2⟩) ?_
      refine TQ.on rfl rfl rfl ?_
      refine TQ.val rfl rfl rfl (gives_boolnot rfl rfl) ?_
      refine TQ.val rfl rfl rfl (gives_pick rfl rfl rfl) ?_
      exact TQ.end_
     refine TX.then_ (TC.condT rfl (TC.skip_ (TX.then_ (TC.block (TC.region ?_)))))
     refine TL.mv ?_
     refine TL.val rfl rfl rfl (gives_bin rfl rfl rfl (fun w => bin_sub_ (r := ((j - 1 : Nat) : Int)) (by simp only [IntKind.wrap_i64]; omega) w)) ?_
     refine TL.as_ ?_
     refine TL.end_ (TX.in_normal ?_)
     exact TX.round (⟨j - 1, by omega, hR2⟩) (by show j - 1 < j; omega) ⟨rfl, rfl, rfl, rfl, rfl, trivial⟩ (fun w1 hw => hw)
   ·rintro ⟨j, hj0, hR, hje⟩
    try dsimp only
    have hr1 := hR.hi
    have hr2 := hR.hj
    have hr3 := hR.ij
    refine TC.seq_ (TC.seq_ (TC.region ?_))
    refine TL.mv ?_
    refine TL.mv ?_
    refine TL.vsplit rfl rfl rfl (gives_bin rfl rfl rfl (fun w => bin_gtr w)) (fun h65 => ?_) (fun h65 => ?_)
    ·have q65 := of_decide_eq_true h65
     refine TL.end_ (TX.then_ (TC.condT rfl (TC.seq_ ?_)))
     refine TC.held (ls := #[Ff,Ff,Ff,Ff,Ff,Ff,Ff,Ff,Ff,Ff,Ff,Ff,Ff,Ff,Ff,Ff]) (fun _ => True) (by kernel_rfl) rfl rfl (fun w hw => hw.drawn _) ?_
     refine TH.tk (listed' := #[Tt,Ff,Ff,Ff,Ff,Ff,Ff,Ff,Ff,Ff,Ff,Ff,Ff,Ff,Ff,Ff]) 0 rfl rfl rfl (gives_move rfl rfl) (fun _ _ => trivial) ?_
     refine TH.tk (listed' := #[Tt,Tt,Ff,Ff,Ff,Ff,Ff,Ff,Ff,Ff,Ff,Ff,Ff,Ff,Ff,Ff]) 1 rfl rfl rfl (gives_move rfl rfl) (fun _ _ => trivial) ?_
     refine TH.tk (listed' := #[Tt,Tt,Tt,Ff,Ff,Ff,Ff,Ff,Ff,Ff,Ff,Ff,Ff,Ff,Ff,Ff]) 2 rfl rfl rfl (gives_move rfl rfl) (fun _ _ => trivial) ?_
     refine TH.tk (listed' := #[Tt,Tt,Tt,Tt,Ff,Ff,Ff,Ff,Ff,Ff,Ff,Ff,Ff,Ff,Ff,Ff]) 3 rfl rfl rfl (gives_move rfl rfl) (fun _ _ => trivial) ?_
     refine TH.tk (listed' := #[Tt,Tt,Tt,Tt,Tt,Ff,Ff,Ff,Ff,Ff,Ff,Ff,Ff,Ff,Ff,Ff]) 4 rfl rfl rfl (gives_move rfl rfl) (fun _ _ => trivial) ?_
     refine TH.tk (listed' := #[Tt,Tt,Tt,Tt,Tt,Tt,Ff,Ff,Ff,Ff,Ff,Ff,Ff,Ff,Ff,Ff]) 5 rfl rfl rfl (gives_move rfl rfl) (fun _ _ => trivial) ?_
     refine TH.tk (listed' := #[Tt,Tt,Tt,Tt,Tt,Tt,Tt,Ff,Ff,Ff,Ff,Ff,Ff,Ff,Ff,Ff]) 6 rfl rfl rfl (gives_at (v := .pointer (some ⟨g, a, none⟩)) rfl rfl rfl (fun w => at_row Try.underlying31 us5sz35 g _ _ a (by omega) rfl w)) (fun _ _ => trivial) ?_
     refine TH.tk (listed' := #[Tt,Tt,Tt,Tt,Tt,Tt,Tt,Ff,Tt,Ff,Ff,Ff,Ff,Ff,Ff,Ff]) 8 rfl rfl rfl (gives_move rfl rfl) (fun _ _ => trivial) ?_
     refine TH.tk (listed' := #[Tt,Tt,Tt,Tt,Tt,Tt,Tt,Ff,Tt,Tt,Ff,Ff,Ff,Ff,Ff,Ff]) 9 rfl rfl rfl (gives_move rfl rfl) (fun _ _ => trivial) ?_
     refine TH.tk (listed' := #[Tt,Tt,Tt,Tt,Tt,Tt,Tt,Ff,Tt,Tt,Tt,Ff,Ff,Ff,Ff,Ff]) 10 rfl rfl rfl (gives_at (v := .pointer (some ⟨g, j, none⟩)) rfl rfl rfl (fun w => at_row Try.underlying31 us5sz35 g _ _ j (by omega) rfl w)) (fun _ _ => trivial) ?_
     refine TH.two' (listed1 := #[Tt,Tt,Tt,Tt,Tt,Tt,Tt,Tt,Tt,Tt,Tt,Ff,Ff,Ff,Ff,Ff]) (listed2 := #[Tt,Tt,Tt,Tt,Tt,Tt,Tt,Ff,Tt,Tt,Tt,Tt,Ff,Ff,Ff,Ff]) 7 11 rfl rfl (by kernel_rfl) rfl rfl ?_ ?_
     ·refine TL.val rfl rfl rfl (pm_loadU (k := 0) (i := a) rfl rfl us5ag35 rfl (by omega)) ?_
      refine TL.end_ ?_
      refine TX.held (fun _ _ => trivial) ?_
      refine TH.only' (listed' := #[Tt,Tt,Tt,Tt,Tt,Tt,Tt,Tt,Tt,Tt,Tt,Tt,Ff,Ff,Ff,Ff]) 11 rfl (by kernel_rfl) rfl ?_
      refine TL.val rfl rfl rfl (pm_loadU (k := 0) (i := j) rfl rfl us5ag35 rfl (by omega)) ?_
      refine TL.end_ ?_
      refine TX.held (fun _ _ => trivial) ?_
      refine TH.tk (listed' := #[Tt,Tt,Tt,Tt,Tt,Tt,Tt,Tt,Tt,Tt,Tt,Tt,Tt,Ff,Ff,Ff]) 12 rfl rfl rfl (gives_at (v := .pointer (some ⟨g, j, none⟩)) rfl rfl rfl (fun w => at_row Try.underlying31 us5sz35 g _ _ j (by omega) rfl w)) (fun _ _ => trivial) ?_
      refine TH.only' (listed' := #[Tt,Tt,Tt,Tt,Tt,Tt,Tt,Tt,Tt,Tt,Tt,Tt,Tt,Tt,Ff,Ff]) 13 rfl (by kernel_rfl) rfl ?_
      refine TL.uset (k := 0) (i := j) rfl rfl rfl rfl rfl rfl us5sz35 (by omega) ?_
      refine TL.end_ ?_
      refine TX.held (fun _ _ => trivial) ?_
      refine TH.tk (listed' := #[Tt,Tt,Tt,Tt,Tt,Tt,Tt,Tt,Tt,Tt,Tt,Tt,Tt,Tt,Tt,Ff]) 14 rfl rfl rfl (gives_at (v := .pointer (some ⟨g, a, none⟩)) rfl rfl rfl (fun w => at_row Try.underlying31 us5sz35 g _ _ a (by omega) rfl w)) (fun _ _ => trivial) ?_
      refine TH.only' (listed' := #[Tt,Tt,Tt,Tt,Tt,Tt,Tt,Tt,Tt,Tt,Tt,Tt,Tt,Tt,Tt,Tt]) 15 rfl (by kernel_rfl) rfl ?_
      refine TL.uset (k := 0) (i := a) rfl rfl rfl rfl rfl rfl us5sz35 (by rw [List.length_set]; omega) ?_
      refine TL.end_ ?_
      refine TX.held (fun _ _ => trivial) ?_
      refine TH.done (by kernel_rfl) ?_
      refine TX.then_ (TC.seq_ (TC.region ?_))
      refine TL.mv ?_
      refine TL.as_ ?_
      refine TL.as_ ?_
      refine TL.end_ (TX.then_ (TC.ret_ (TX.then_ret ?_)))
      exact ret_pair Try.results70 rfl rfl (fun w1 hw => ⟨(j, true), swp (swp xs a p) j a, rfl, ⟨hP1.swap (by omega) (by omega) (by omega) (Nat.le_refl _) (by omega), hR.mid (by omega) (by omega)⟩, pm_rowAt hw (k := 0) rfl, hw.mapEnd (fun q hq => by simp [hq])⟩)
     ·refine TL.val rfl rfl rfl (pm_loadU (k := 0) (i := j) rfl rfl us5ag35 rfl (by omega)) ?_
      refine TL.end_ ?_
      refine TX.held (fun _ _ => trivial) ?_
      refine TH.only' (listed' := #[Tt,Tt,Tt,Tt,Tt,Tt,Tt,Tt,Tt,Tt,Tt,Tt,Ff,Ff,Ff,Ff]) 7 rfl (by kernel_rfl) rfl ?_
      refine TL.val rfl rfl rfl (pm_loadU (k := 0) (i := a) rfl rfl us5ag35 rfl (by omega)) ?_
      refine TL.end_ ?_
      refine TX.held (fun _ _ => trivial) ?_
      refine TH.tk (listed' := #[Tt,Tt,Tt,Tt,Tt,Tt,Tt,Tt,Tt,Tt,Tt,Tt,Tt,Ff,Ff,Ff]) 12 rfl rfl rfl (gives_at (v := .pointer (some ⟨g, j, none⟩)) rfl rfl rfl (fun w => at_row Try.underlying31 us5sz35 g _ _ j (by omega) rfl w)) (fun _ _ => trivial) ?_
      refine TH.only' (listed' := #[Tt,Tt,Tt,Tt,Tt,Tt,Tt,Tt,Tt,Tt,Tt,Tt,Tt,Tt,Ff,Ff]) 13 rfl (by kernel_rfl) rfl ?_
      refine TL.uset (k := 0) (i := j) rfl rfl rfl rfl rfl rfl us5sz35 (by omega) ?_
      refine TL.end_ ?_
      refine TX.held (fun _ _ => trivial) ?_
      refine TH.tk (listed' := #[Tt,Tt,Tt,Tt,Tt,Tt,Tt,Tt,Tt,Tt,Tt,Tt,Tt,Tt,Tt,Ff]) 14 rfl rfl rfl (gives_at (v := .pointer (some ⟨g, a, none⟩)) rfl rfl rfl (fun w => at_row Try.underlying31 us5sz35 g _ _ a (by omega) rfl w)) (fun _ _ => trivial) ?_
      refine TH.only' (listed' := #[Tt,Tt,Tt,Tt,Tt,Tt,Tt,Tt,Tt,Tt,Tt,Tt,Tt,Tt,Tt,Tt]) 15 rfl (by kernel_rfl) rfl ?_
      refine TL.uset (k := 0) (i := a) rfl rfl rfl rfl rfl rfl us5sz35 (by rw [List.length_set]; omega) ?_
      refine TL.end_ ?_
      refine TX.held (fun _ _ => trivial) ?_
      refine TH.done (by kernel_rfl) ?_
      refine TX.then_ (TC.seq_ (TC.region ?_))
      refine TL.mv ?_
      refine TL.as_ ?_
      refine TL.as_ ?_
      refine TL.end_ (TX.then_ (TC.ret_ (TX.then_ret ?_)))
      exact ret_pair Try.results70 rfl rfl (fun w1 hw => ⟨(j, true), swp (swp xs a p) j a, rfl, ⟨hP1.swap (by omega) (by omega) (by omega) (Nat.le_refl _) (by omega), hR.mid (by omega) (by omega)⟩, pm_rowAt hw (k := 0) rfl, hw.mapEnd (fun q hq => by simp [hq])⟩)
    ·have q65 := of_decide_eq_false h65
     have hlt : i < j := by
      have h1 := hie (by omega)
      have h2 := hje (by omega)
      rcases Nat.lt_or_ge i j with hh | hh
      ·exact hh
      ·exfalso; obtain rfl : i = j := by omega
       omega
     refine TL.end_ (TX.then_ (TC.condF rfl (TC.skip_ (TX.then_ ?_))))
     refine TC.join (α := Unit) (fun y => [(0, .slice (some ⟨g, 0, none⟩) n c), (1, .int .i64 ((a : Nat) : Int)), (2, .int .i64 ((b : Nat) : Int)), (10, .int .i64 ((i : Nat) : Int)), (11, .int .i64 ((j : Nat) : Int))]) (fun y => Pm ⟨wbut w g, g⟩ ([.row (.slice (some ⟨g, 0, none⟩) n c) 35 1 n (uv (swp (swp xs a p) i j))] ++ oths g w)) ?_ ?_
     ·refine TC.held (ls := #[Ff,Ff,Ff,Ff,Ff,Ff,Ff,Ff,Ff,Ff,Ff,Ff,Ff,Ff,Ff,Ff]) (fun _ => True) (by kernel_rfl) rfl rfl (fun w hw => hw.drawn _) ?_
      refine TH.tk (listed' := #[Tt,Ff,Ff,Ff,Ff,Ff,Ff,Ff,Ff,Ff,Ff,Ff,Ff,Ff,Ff,Ff]) 0 rfl rfl rfl (gives_move rfl rfl) (fun _ _ => trivial) ?_
      refine TH.tk (listed' := #[Tt,Tt,Ff,Ff,Ff,Ff,Ff,Ff,Ff,Ff,Ff,Ff,Ff,Ff,Ff,Ff]) 1 rfl rfl rfl (gives_move rfl rfl) (fun _ _ => trivial) ?_
      refine TH.tk (listed' := #[Tt,Tt,Tt,Ff,Ff,Ff,Ff,Ff,Ff,Ff,Ff,Ff,Ff,Ff,Ff,Ff]) 2 rfl rfl rfl (gives_move rfl rfl) (fun _ _ => trivial) ?_
      refine TH.tk (listed' := #[Tt,Tt,Tt,Tt,Ff,Ff,Ff,Ff,Ff,Ff,Ff,Ff,Ff,Ff,Ff,Ff]) 3 rfl rfl rfl (gives_move rfl rfl) (fun _ _ => trivial) ?_
      refine TH.tk (listed' := #[Tt,Tt,Tt,Tt,Tt,Ff,Ff,Ff,Ff,Ff,Ff,Ff,Ff,Ff,Ff,Ff]) 4 rfl rfl rfl (gives_move rfl rfl) (fun _ _ => trivial) ?_
      refine TH.tk (listed' := #[Tt,Tt,Tt,Tt,Tt,Tt,Ff,Ff,Ff,Ff,Ff,Ff,Ff,Ff,Ff,Ff]) 5 rfl rfl rfl (gives_move rfl rfl) (fun _ _ => trivial) ?_
      refine TH.tk (listed' := #[Tt,Tt,Tt,Tt,Tt,Tt,Tt,Ff,Ff,Ff,Ff,Ff,Ff,Ff,Ff,Ff]) 6 rfl rfl rfl (gives_at (v := .pointer (some ⟨g, j, none⟩)) rfl rfl rfl (fun w => at_row Try.underlying31 us5sz35 g _ _ j (by omega) rfl w)) (fun _ _ => trivial) ?_
      refine TH.tk (listed' := #[Tt,Tt,Tt,Tt,Tt,Tt,Tt,Ff,Tt,Ff,Ff,Ff,Ff,Ff,Ff,Ff]) 8 rfl rfl rfl (gives_move rfl rfl) (fun _ _ => trivial) ?_
      refine TH.tk (listed' := #[Tt,Tt,Tt,Tt,Tt,Tt,Tt,Ff,Tt,Tt,Ff,Ff,Ff,Ff,Ff,Ff]) 9 rfl rfl rfl (gives_move rfl rfl) (fun _ _ => trivial) ?_
      refine TH.tk (listed' := #[Tt,Tt,Tt,Tt,Tt,Tt,Tt,Ff,Tt,Tt,Tt,Ff,Ff,Ff,Ff,Ff]) 10 rfl rfl rfl (gives_at (v := .pointer (some ⟨g, i, none⟩)) rfl rfl rfl (fun w => at_row Try.underlying31 us5sz35 g _ _ i (by omega) rfl w)) (fun _ _ => trivial) ?_
      refine TH.two' (listed1 := #[Tt,Tt,Tt,Tt,Tt,Tt,Tt,Tt,Tt,Tt,Tt,Ff,Ff,Ff,Ff,Ff]) (listed2 := #[Tt,Tt,Tt,Tt,Tt,Tt,Tt,Ff,Tt,Tt,Tt,Tt,Ff,Ff,Ff,Ff]) 7 11 rfl rfl (by kernel_rfl) rfl rfl ?_ ?_
      ·refine TL.val rfl rfl rfl (pm_loadU (k := 0) (i := j) rfl rfl us5ag35 rfl (by omega)) ?_
       refine TL.end_ ?_
       refine TX.held (fun _ _ => trivial) ?_
       refine TH.only' (listed' := #[Tt,Tt,Tt,Tt,Tt,Tt,Tt,Tt,Tt,Tt,Tt,Tt,Ff,Ff,Ff,Ff]) 11 rfl (by kernel_rfl) rfl ?_
       refine TL.val rfl rfl rfl (pm_loadU (k := 0) (i := i) rfl rfl us5ag35 rfl (by omega)) ?_
       refine TL.end_ ?_
       refine TX.held (fun _ _ => trivial) ?_
       refine TH.tk (listed' := #[Tt,Tt,Tt,Tt,Tt,Tt,Tt,Tt,Tt,Tt,Tt,Tt,Tt,Ff,Ff,Ff]) 12 rfl rfl rfl (gives_at (v := .pointer (some ⟨g, i, none⟩)) rfl rfl rfl (fun w => at_row Try.underlying31 us5sz35 g _ _ i (by omega) rfl w)) (fun _ _ => trivial) ?_
       refine TH.only' (listed' := #[Tt,Tt,Tt,Tt,Tt,Tt,Tt,Tt,Tt,Tt,Tt,Tt,Tt,Tt,Ff,Ff]) 13 rfl (by kernel_rfl) rfl ?_
       refine TL.uset (k := 0) (i := i) rfl rfl rfl rfl rfl rfl us5sz35 (by omega) ?_
       refine TL.end_ ?_
       refine TX.held (fun _ _ => trivial) ?_
       refine TH.tk (listed' := #[Tt,Tt,Tt,Tt,Tt,Tt,Tt,Tt,Tt,Tt,Tt,Tt,Tt,Tt,Tt,Ff]) 14 rfl rfl rfl (gives_at (v := .pointer (some ⟨g, j, none⟩)) rfl rfl rfl (fun w => at_row Try.underlying31 us5sz35 g _ _ j (by omega) rfl w)) (fun _ _ => trivial) ?_
       refine TH.only' (listed' := #[Tt,Tt,Tt,Tt,Tt,Tt,Tt,Tt,Tt,Tt,Tt,Tt,Tt,Tt,Tt,Tt]) 15 rfl (by kernel_rfl) rfl ?_
       refine TL.uset (k := 0) (i := j) rfl rfl rfl rfl rfl rfl us5sz35 (by rw [List.length_set]; omega) ?_
       refine TL.end_ ?_
       refine TX.held (fun _ _ => trivial) ?_
       refine TH.done (by kernel_rfl) ?_
       exact TX.joined (()) (⟨rfl, rfl, rfl, rfl, rfl, trivial⟩) (fun w1 hw => hw)
      ·refine TL.val rfl rfl rfl (pm_loadU (k := 0) (i := i) rfl rfl us5ag35 rfl (by omega)) ?_
       refine TL.end_ ?_
       refine TX.held (fun _ _ => trivial) ?_
       refine TH.only' (listed' := #[Tt,Tt,Tt,Tt,Tt,Tt,Tt,Tt,Tt,Tt,Tt,Tt,Ff,Ff,Ff,Ff]) 7 rfl (by kernel_rfl) rfl ?_
       refine TL.val rfl rfl rfl (pm_loadU (k := 0) (i := j) rfl rfl us5ag35 rfl (by omega)) ?_
       refine TL.end_ ?_
       refine TX.held (fun _ _ => trivial) ?_
       refine TH.tk (listed' := #[Tt,Tt,Tt,Tt,Tt,Tt,Tt,Tt,Tt,Tt,Tt,Tt,Tt,Ff,Ff,Ff]) 12 rfl rfl rfl (gives_at (v := .pointer (some ⟨g, i, none⟩)) rfl rfl rfl (fun w => at_row Try.underlying31 us5sz35 g _ _ i (by omega) rfl w)) (fun _ _ => trivial) ?_
       refine TH.only' (listed' := #[Tt,Tt,Tt,Tt,Tt,Tt,Tt,Tt,Tt,Tt,Tt,Tt,Tt,Tt,Ff,Ff]) 13 rfl (by kernel_rfl) rfl ?_
       refine TL.uset (k := 0) (i := i) rfl rfl rfl rfl rfl rfl us5sz35 (by omega) ?_
       refine TL.end_ ?_
       refine TX.held (fun _ _ => trivial) ?_
       refine TH.tk (listed' := #[Tt,Tt,Tt,Tt,Tt,Tt,Tt,Tt,Tt,Tt,Tt,Tt,Tt,Tt,Tt,Ff]) 14 rfl rfl rfl (gives_at (v := .pointer (some ⟨g, j, none⟩)) rfl rfl rfl (fun w => at_row Try.underlying31 us5sz35 g _ _ j (by omega) rfl w)) (fun _ _ => trivial) ?_
       refine TH.only' (listed' := #[Tt,Tt,Tt,Tt,Tt,Tt,Tt,Tt,Tt,Tt,Tt,Tt,Tt,Tt,Tt,Tt]) 15 rfl (by kernel_rfl) rfl ?_
       refine TL.uset (k := 0) (i := j) rfl rfl rfl rfl rfl rfl us5sz35 (by rw [List.length_set]; omega) ?_
       refine TL.end_ ?_
       refine TX.held (fun _ _ => trivial) ?_
       refine TH.done (by kernel_rfl) ?_
       exact TX.joined (()) (⟨rfl, rfl, rfl, rfl, rfl, trivial⟩) (fun w1 hw => hw)
     ·rintro u
      have hP2 : Pin a b xs (swp (swp xs a p) i j) := hP1.swap (by omega) (by omega) (by omega) (by omega) (by omega)
      have hl2 : (swp (swp xs a p) i j).length = n := by rw [swp_len]; exact hl1
      have hT : Prt a b (i + 1) (j - 1) (swp (swp xs a p) i j) := hR.swap (by omega) hlt (by have := hje (by omega); omega) (hie (by omega))
      refine TC.seq_ (TC.region ?_)
      refine TL.mv ?_
      refine TL.val rfl rfl rfl (gives_bin rfl rfl rfl (fun w => bin_add_ (r := ((i + 1 : Nat) : Int)) (by simp only [IntKind.wrap_i64]; omega) w)) ?_
      refine TL.as_ ?_
      refine TL.end_ (TX.then_ (TC.seq_ (TC.region ?_)))
      refine TL.mv ?_
      refine TL.val rfl rfl rfl (gives_bin rfl rfl rfl (fun w => bin_sub_ (r := ((j - 1 : Nat) : Int)) (by simp only [IntKind.wrap_i64]; omega) w)) ?_
      refine TL.as_ ?_
      refine TL.end_ (TX.then_ (TC.seq_ (TC.block ?_)))
      clear hie hje hR hQ hlt hS
      refine TC.loop_ (α := {y : Nat × Nat × List Int // Prt a b y.1 y.2.1 y.2.2 ∧ Pin a b xs y.2.2 ∧ y.2.2.length = n}) (fun y => [(0, .slice (some ⟨g, 0, none⟩) n c), (1, .int .i64 ((a : Nat) : Int)), (2, .int .i64 ((b : Nat) : Int)), (10, .int .i64 ((y.1.1 : Nat) : Int)), (11, .int .i64 ((y.1.2.1 : Nat) : Int))]) (fun y => Pm ⟨wbut w g, g⟩ ([.row (.slice (some ⟨g, 0, none⟩) n c) 35 1 n (uv y.1.2.2)] ++ oths g w)) (fun y => y.1.2.1 + 1 - y.1.1) (⟨(i + 1, j - 1, swp (swp xs a p) i j), hT, hP2, hl2⟩) ⟨rfl, rfl, rfl, rfl, rfl, trivial⟩ (fun w1 hw => hw) ?_
      rintro ⟨⟨i0, j0, ys⟩, hS, hP, hly⟩
      dsimp only at hS hP hly ⊢
      have hs1 := hS.hi
      have hs2 := hS.hj
      have hs3 := hS.ij
      refine TC.block ?_
      refine TC.join (α := {y : Nat // i0 ≤ y ∧ Prt a b y j0 ys ∧ (y ≤ j0 → dx ys a ≤ dx ys y)}) (fun y => [(0, .slice (some ⟨g, 0, none⟩) n c), (1, .int .i64 ((a : Nat) : Int)), (2, .int .i64 ((b : Nat) : Int)), (10, .int .i64 ((y.1 : Nat) : Int)), (11, .int .i64 ((j0 : Nat) : Int))]) (fun y => Pm ⟨wbut w g, g⟩ ([.row (.slice (some ⟨g, 0, none⟩) n c) 35 1 n (uv ys)] ++ oths g w)) ?_ ?_
      ·refine TC.block ?_
       refine TC.loop_ (α := {y : Nat // i0 ≤ y ∧ Prt a b y j0 ys}) (fun y => [(0, .slice (some ⟨g, 0, none⟩) n c), (1, .int .i64 ((a : Nat) : Int)), (2, .int .i64 ((b : Nat) : Int)), (10, .int .i64 ((y.1 : Nat) : Int)), (11, .int .i64 ((j0 : Nat) : Int))]) (fun y => Pm ⟨wbut w g, g⟩ ([.row (.slice (some ⟨g, 0, none⟩) n c) 35 1 n (uv ys)] ++ oths g w)) (fun y => b + 1 - y.1) (⟨i0, Nat.le_refl _, hS⟩) ⟨rfl, rfl, rfl, rfl, rfl, trivial⟩ (fun w1 hw => hw) ?_
       rintro ⟨i, hi0, hQ⟩
       try dsimp only
       have hq1 := hQ.hi
       have hq2 := hQ.hj
       have hq3 := hQ.ij
       refine TC.seq_ (TC.seq_ ?_)
       have hway : ¬ i ≤ j0 ∨ (i ≤ j0 ∧ dx ys i < dx ys a) ∨ (i ≤ j0 ∧ ¬ dx ys i < dx ys a) := by omega
       rcases hway with p1 | ⟨p1, p2⟩ | ⟨p1, p2⟩
       ·have hie : i ≤ j0 → dx ys a ≤ dx ys i := fun hh => absurd hh p1
        refine TC.quiet_ (E' := ?_) (by kernel_rfl) (by kernel_rfl) (fun w hw => hw.drawn _) ?_ ?_
        rotate_left
        ·refine TQ.val rfl rfl rfl (gives_move rfl rfl) ?_
         refine TQ.val rfl rfl rfl (gives_move rfl rfl) ?_
         refine TQ.val rfl rfl rfl (gives_bin rfl rfl rfl (fun w => bin_leq_f (by omega) w)) ?_
         iterate 11 (first | refine TQ.off rfl rfl rfl rfl rfl rfl ?_ | refine TQ.val rfl rfl rfl (gives_move rfl rfl) ?_ | refine TQ.val rfl rfl rfl (gives_pick rfl rfl rfl) ?_)
         exact TQ.end_
        refine TX.then_ (TC.condF rfl (TC.exit_ (TX.then_exit (TX.then_exit (TX.in_same ?_)))))
        exact TX.joined (⟨i, hi0, hQ, hie⟩) (⟨rfl, rfl, rfl, rfl, rfl, trivial⟩) (fun w1 hw => hw)
       ·have hQ2 : Prt a b (i + 1) j0 ys := hQ.inc p1 (by omega)
        refine TC.quiet_ (E' := ?_) (by kernel_rfl) (by kernel_rfl) (fun w hw => hw.drawn _) ?_ ?_
        rotate_left
        ·refine TQ.val rfl rfl rfl (gives_move rfl rfl) ?_
         refine TQ.val rfl rfl rfl (gives_move rfl rfl) ?_
         refine TQ.val rfl rfl rfl (gives_bin rfl rfl rfl (fun w => bin_leq_t (by omega) w)) ?_
         iterate 6 (first | refine TQ.val rfl rfl rfl (gives_move rfl rfl) ?_ | refine TQ.on rfl rfl rfl ?_)
         refine TQ.val rfl rfl rfl (gives_at (v := .pointer (some ⟨g, i, none⟩)) rfl rfl rfl (fun w => at_row Try.underlying31 us5sz35 g _ _ i (by omega) rfl w)) ?_
         refine TQ.on rfl rfl rfl ?_
         refine TQ.val rfl rfl rfl (pm_loadU (k := 0) (i := i) rfl rfl us5ag35 rfl (by omega)) ?_
         iterate 5 (first | refine TQ.on rfl rfl rfl ?_ | refine TQ.val rfl rfl rfl (gives_move rfl rfl) ?_)
         refine TQ.val rfl rfl rfl (gives_at (v := .pointer (some ⟨g, a, none⟩)) rfl rfl rfl (fun w => at_row Try.underlying31 us5sz35 g _ _ a (by omega) rfl w)) ?_
         refine TQ.on rfl rfl rfl ?_
         refine TQ.val rfl rfl rfl (pm_loadU (k := 0) (i := a) rfl rfl us5ag35 rfl (by omega)) ?_
         refine TQ.on rfl rfl rfl ?_
         refine TQ.call (v := .bool true) rfl rfl rfl rfl rfl Try.func68 us5nm68 us5bd68 (fun w1 hw => (less_t _ _ p2 w1).mono fun en w2 ⟨h1, h2⟩ => ⟨h1, hw.below h2⟩) ?_
         refine TQ.val rfl rfl rfl (gives_pick rfl rfl rfl) ?_
         exact TQ.end_
        refine TX.then_ (TC.condT rfl (TC.skip_ (TX.then_ (TC.block (TC.region ?_)))))
        refine TL.mv ?_
        refine TL.val rfl rfl rfl (gives_bin rfl rfl rfl (fun w => bin_add_ (r := ((i + 1 : Nat) : Int)) (by simp only [IntKind.wrap_i64]; omega) w)) ?_
        refine TL.as_ ?_
        refine TL.end_ (TX.in_normal ?_)
        exact TX.round (⟨i + 1, by omega, hQ2⟩) (by show b + 1 - (i + 1) < b + 1 - i; omega) ⟨rfl, rfl, rfl, rfl, rfl, trivial⟩ (fun w1 hw => hw)
       ·have hie : i ≤ j0 → dx ys a ≤ dx ys i := fun _ => by omega
        refine TC.quiet_ (E' := ?_) (by kernel_rfl) (by kernel_rfl) (fun w hw => hw.drawn _) ?_ ?_
        rotate_left
        ·refine TQ.val rfl rfl rfl (gives_move rfl rfl) ?_
         refine TQ.val rfl rfl rfl (gives_move rfl rfl) ?_
         refine TQ.val rfl rfl rfl (gives_bin rfl rfl rfl (fun w => bin_leq_t (by omega) w)) ?_
         iterate 6 (first | refine TQ.val rfl rfl rfl (gives_move rfl rfl) ?_ | refine TQ.on rfl rfl rfl ?_)
         refine TQ.val rfl rfl rfl (gives_at (v := .pointer (some ⟨g, i, none⟩)) rfl rfl rfl (fun w => at_row Try.underlying31 us5sz35 g _ _ i (by omega) rfl w)) ?_
         refine TQ.on rfl rfl rfl ?_
         refine TQ.val rfl rfl rfl (pm_loadU (k := 0) (i := i) rfl rfl us5ag35 rfl (by omega)) ?_
         iterate 5 (first | refine TQ.on rfl rfl rfl ?_ | refine TQ.val rfl rfl rfl (gives_move rfl rfl) ?_)
         refine TQ.val rfl rfl rfl (gives_at (v := .pointer (some ⟨g, a, none⟩)) rfl rfl rfl (fun w => at_row Try.underlying31 us5sz35 g _ _ a (by omega) rfl w)) ?_
         refine TQ.on rfl rfl rfl ?_
         refine TQ.val rfl rfl rfl (pm_loadU (k := 0) (i := a) rfl rfl us5ag35 rfl (by omega)) ?_
         refine TQ.on rfl rfl rfl ?_
         refine TQ.call (v := .bool false) rfl rfl rfl rfl rfl Try.func68 us5nm68 us5bd68 (fun w1 hw => (less_f _ _ p2 w1).mono fun en w2 ⟨h1, h2⟩ => ⟨h1, hw.below h2⟩) ?_
         refine TQ.val rfl rfl rfl (gives_pick rfl rfl rfl) ?_
         exact TQ.end_
        refine TX.then_ (TC.condF rfl (TC.exit_ (TX.then_exit (TX.then_exit (TX.in_same ?_)))))
        exact TX.joined (⟨i, hi0, hQ, hie⟩) (⟨rfl, rfl, rfl, rfl, rfl, trivial⟩) (fun w1 hw => hw)
      ·rintro ⟨i, hi0, hQ, hie⟩
       try dsimp only
       have hq1 := hQ.hi
       have hq2 := hQ.hj
       have hq3 := hQ.ij
       refine TC.join (α := {y : Nat // y ≤ j0 ∧ Prt a b i y ys ∧ (i ≤ y → dx ys y < dx ys a)}) (fun y => [(0, .slice (some ⟨g, 0, none⟩) n c), (1, .int .i64 ((a : Nat) : Int)), (2, .int .i64 ((b : Nat) : Int)), (10, .int .i64 ((i : Nat) : Int)), (11, .int .i64 ((y.1 : Nat) : Int))]) (fun y => Pm ⟨wbut w g, g⟩ ([.row (.slice (some ⟨g, 0, none⟩) n c) 35 1 n (uv ys)] ++ oths g w)) ?_ ?_
       ·refine TC.block ?_
        refine TC.loop_ (α := {y : Nat // y ≤ j0 ∧ Prt a b i y ys}) (fun y => [(0, .slice (some ⟨g, 0, none⟩) n c), (1, .int .i64 ((a : Nat) : Int)), (2, .int .i64 ((b : Nat) : Int)), (10, .int .i64 ((i : Nat) : Int)), (11, .int .i64 ((y.1 : Nat) : Int))]) (fun y => Pm ⟨wbut w g, g⟩ ([.row (.slice (some ⟨g, 0, none⟩) n c) 35 1 n (uv ys)] ++ oths g w)) (fun y => y.1) (⟨j0, Nat.le_refl _, hQ⟩) ⟨rfl, rfl, rfl, rfl, rfl, trivial⟩ (fun w1 hw => hw) ?_
        rintro ⟨j, hj0, hR⟩
        try dsimp only
        have hr1 := hR.hi
        have hr2 := hR.hj
        have hr3 := hR.ij
        refine TC.seq_ (TC.seq_ ?_)
        have hway : ¬ i ≤ j ∨ (i ≤ j ∧ dx ys j < dx ys a) ∨ (i ≤ j ∧ ¬ dx ys j < dx ys a) := by omega
        rcases hway with p1 | ⟨p1, p2⟩ | ⟨p1, p2⟩
        ·have hje : i ≤ j → dx ys j < dx ys a := fun hh => absurd hh p1
         refine TC.quiet_ (E' := ?_) (by kernel_rfl) (by kernel_rfl) (fun w hw => hw.drawn _) ?_ ?_
         rotate_left
         ·refine TQ.val rfl rfl rfl (gives_move rfl rfl) ?_
          refine TQ.val rfl rfl rfl (gives_move rfl rfl) ?_
          refine TQ.val rfl rfl rfl (gives_bin rfl rfl rfl (fun w => bin_leq_f (by omega) w)) ?_
          iterate 12 (first | refine TQ.off rfl rfl rfl rfl rfl rfl ?_ | refine TQ.val rfl rfl rfl (gives_move rfl rfl) ?_ | refine TQ.val rfl rfl rfl (gives_pick rfl rfl rfl) ?_)
          exact TQ.end_
         refine TX.then_ (TC.condF rfl (TC.exit_ (TX.then_exit (TX.then_exit (TX.in_same ?_)))))
         exact TX.joined (⟨j, hj0, hR, hje⟩) (⟨rfl, rfl, rfl, rfl, rfl, trivial⟩) (fun w1 hw => hw)
        ·have hje : i ≤ j → dx ys j < dx ys a := fun _ => p2
         refine TC.quiet_ (E' := ?_) (by kernel_rfl) (by kernel_rfl) (fun w hw => hw.drawn _) ?_ ?_
         rotate_left
         ·refine TQ.val rfl rfl rfl (gives_move rfl rfl) ?_
          refine TQ.val rfl rfl rfl (gives_move rfl rfl) ?_
          refine TQ.val rfl rfl rfl (gives_bin rfl rfl rfl (fun w => bin_leq_t (by omega) w)) ?_
          iterate 6 (first | refine TQ.val rfl rfl rfl (gives_move rfl rfl) ?_ | refine TQ.on rfl rfl rfl ?_)
          refine TQ.val rfl rfl rfl (gives_at (v := .pointer (some ⟨g, j, none⟩)) rfl rfl rfl (fun w => at_row Try.underlying31 us5sz35 g _ _ j (by omega) rfl w)) ?_
          refine TQ.on rfl rfl rfl ?_
          refine TQ.val rfl rfl rfl (pm_loadU (k := 0) (i := j) rfl rfl us5ag35 rfl (by omega)) ?_
          iterate 5 (first | refine TQ.on rfl rfl rfl ?_ | refine TQ.val rfl rfl rfl (gives_move rfl rfl) ?_)
          refine TQ.val rfl rfl rfl (gives_at (v := .pointer (some ⟨g, a, none⟩)) rfl rfl rfl (fun w => at_row Try.underlying31 us5sz35 g _ _ a (by omega) rfl w)) ?_
          refine TQ.on rfl rfl rfl ?_
          refine TQ.val rfl rfl rfl (pm_loadU (k := 0) (i := a) rfl rfl us5ag35 rfl (by omega)) ?_
          refine TQ.on rfl rfl rfl ?_
          refine TQ.call (v := .bool true) rfl rfl rfl rfl rfl Try.func68 us5nm68 us5bd68 (fun w1 hw => (less_t _ _ p2 w1).mono fun en w2 ⟨h1, h2⟩ => ⟨h1, hw.below h2⟩) ?_
          refine TQ.on rfl rfl rfl ?_
          refine TQ.val rfl rfl rfl (gives_boolnot rfl rfl) ?_
          refine TQ.val rfl rfl rfl (gives_pick rfl rfl rfl) ?_
          exact TQ.end_
         refine TX.then_ (TC.condF rfl (TC.exit_ (TX.then_exit (TX.then_exit (TX.in_same ?_)))))
         exact TX.joined (⟨j, hj0, hR, hje⟩) (⟨rfl, rfl, rfl, rfl, rfl, trivial⟩) (fun w1 hw => hw)
        ·have hR2 : Prt a b i (j - 1) ys := hR.dec p1 (by omega)
         refine TC.quiet_ (E' := ?_) (by kernel_rfl) (by kernel_rfl) (fun w hw => hw.drawn _) ?_ ?_
         rotate_left
         ·refine TQ.val rfl rfl rfl (gives_move rfl rfl) ?_
          refine TQ.val rfl rfl rfl (gives_move rfl rfl) ?_
          refine TQ.val rfl rfl rfl (gives_bin rfl rfl rfl (fun w => bin_leq_t (by omega) w)) ?_
          iterate 6 (first | refine TQ.val rfl rfl rfl (gives_move rfl rfl) ?_ | refine TQ.on rfl rfl rfl ?_)
          refine TQ.val rfl rfl rfl (gives_at (v := .pointer (some ⟨g, j, none⟩)) rfl rfl rfl (fun w => at_row Try.underlying31 us5sz35 g _ _ j (by omega) rfl w)) ?_
          refine TQ.on rfl rfl rfl ?_
          refine TQ.val rfl rfl rfl (pm_loadU (k := 0) (i := j) rfl rfl us5ag35 rfl (by omega)) ?_
          iterate 5 (first | refine TQ.on rfl rfl rfl ?_ | refine TQ.val rfl rfl rfl (gives_move rfl rfl) ?_)
          refine TQ.val rfl rfl rfl (gives_at (v := .pointer (some ⟨g, a, none⟩)) rfl rfl rfl (fun w => at_row Try.underlying31 us5sz35 g _ _ a (by omega) rfl w)) ?_
          refine TQ.on rfl rfl rfl ?_
          refine TQ.val rfl rfl rfl (pm_loadU (k := 0) (i := a) rfl rfl us5ag35 rfl (by omega)) ?_
          refine TQ.on rfl rfl rfl ?_
          refine TQ.call (v := .bool false) rfl rfl rfl rfl rfl Try.func68 us5nm68 us5bd68 (fun w1 hw => (less_f _ _ p2 w1).mono fun en w2 ⟨h1, h2⟩ => ⟨h1, hw.below h2⟩) ?_
          refine TQ.on rfl rfl rfl ?_
          refine TQ.val rfl rfl rfl (gives_boolnot rfl rfl) ?_
          refine TQ.val rfl rfl rfl (gives_pick rfl rfl rfl) ?_
          exact TQ.end_
         refine TX.then_ (TC.condT rfl (TC.skip_ (TX.then_ (TC.block (TC.region ?_)))))
         refine TL.mv ?_
         refine TL.val rfl rfl rfl (gives_bin rfl rfl rfl (fun w => bin_sub_ (r := ((j - 1 : Nat) : Int)) (by simp only [IntKind.wrap_i64]; omega) w)) ?_
         refine TL.as_ ?_
         refine TL.end_ (TX.in_normal ?_)
         exact TX.round (⟨j - 1, by omega, hR2⟩) (by show j - 1 < j; omega) ⟨rfl, rfl, rfl, rfl, rfl, trivial⟩ (fun w1 hw => hw)
       ·rintro ⟨j, hj0, hR, hje⟩
        try dsimp only
        have hr1 := hR.hi
        have hr2 := hR.hj
        have hr3 := hR.ij
        refine TC.seq_ (TC.seq_ (TC.region ?_))
        refine TL.mv ?_
        refine TL.mv ?_
        refine TL.vsplit rfl rfl rfl (gives_bin rfl rfl rfl (fun w => bin_gtr w)) (fun h134 => ?_) (fun h134 => ?_)
        ·have q134 := of_decide_eq_true h134
         refine TL.end_ (TX.then_ (TC.condT rfl (TC.exit_ (TX.then_exit (TX.in_other rfl (TX.then_exit (TX.in_same (TX.then_ (TC.seq_ ?_)))))))))
         refine TC.held (ls := #[Ff,Ff,Ff,Ff,Ff,Ff,Ff,Ff,Ff,Ff,Ff,Ff,Ff,Ff,Ff,Ff]) (fun _ => True) (by kernel_rfl) rfl rfl (fun w hw => hw.drawn _) ?_
         refine TH.tk (listed' := #[Tt,Ff,Ff,Ff,Ff,Ff,Ff,Ff,Ff,Ff,Ff,Ff,Ff,Ff,Ff,Ff]) 0 rfl rfl rfl (gives_move rfl rfl) (fun _ _ => trivial) ?_
         refine TH.tk (listed' := #[Tt,Tt,Ff,Ff,Ff,Ff,Ff,Ff,Ff,Ff,Ff,Ff,Ff,Ff,Ff,Ff]) 1 rfl rfl rfl (gives_move rfl rfl) (fun _ _ => trivial) ?_
         refine TH.tk (listed' := #[Tt,Tt,Tt,Ff,Ff,Ff,Ff,Ff,Ff,Ff,Ff,Ff,Ff,Ff,Ff,Ff]) 2 rfl rfl rfl (gives_move rfl rfl) (fun _ _ => trivial) ?_
         refine TH.tk (listed' := #[Tt,Tt,Tt,Tt,Ff,Ff,Ff,Ff,Ff,Ff,Ff,Ff,Ff,Ff,Ff,Ff]) 3 rfl rfl rfl (gives_move rfl rfl) (fun _ _ => trivial) ?_
         refine TH.tk (listed' := #[Tt,Tt,Tt,Tt,Tt,Ff,Ff,Ff,Ff,Ff,Ff,Ff,Ff,Ff,Ff,Ff]) 4 rfl rfl rfl (gives_move rfl rfl) (fun _ _ => trivial) ?_
         refine TH.tk (listed' := #[Tt,Tt,Tt,Tt,Tt,Tt,Ff,Ff,Ff,Ff,Ff,Ff,Ff,Ff,Ff,Ff]) 5 rfl rfl rfl (gives_move rfl rfl) (fun _ _ => trivial) ?_
         refine TH.tk (listed' := #[Tt,Tt,Tt,Tt,Tt,Tt,Tt,Ff,Ff,Ff,Ff,Ff,Ff,Ff,Ff,Ff]) 6 rfl rfl rfl (gives_at (v := .pointer (some ⟨g, a, none⟩)) rfl rfl rfl (fun w => at_row Try.underlying31 us5sz35 g _ _ a (by omega) rfl w)) (fun _ _ => trivial) ?_
         refine TH.tk (listed' := #[Tt,Tt,Tt,Tt,Tt,Tt,Tt,Ff,Tt,Ff,Ff,Ff,Ff,Ff,Ff,Ff]) 8 rfl rfl rfl (gives_move rfl rfl) (fun _ _ => trivial) ?_
         refine TH.tk (listed' := #[Tt,Tt,Tt,Tt,Tt,Tt,Tt,Ff,Tt,Tt,Ff,Ff,Ff,Ff,Ff,Ff]) 9 rfl rfl rfl (gives_move rfl rfl) (fun _ _ => trivial) ?_
         refine TH.tk (listed' := #[Tt,Tt,Tt,Tt,Tt,Tt,Tt,Ff,Tt,Tt,Tt,Ff,Ff,Ff,Ff,Ff]) 10 rfl rfl rfl (gives_at (v := .pointer (some ⟨g, j, none⟩)) rfl rfl rfl (fun w => at_row Try.underlying31 us5sz35 g _ _ j (by omega) rfl w)) (fun _ _ => trivial) ?_
         refine TH.two' (listed1 := #[Tt,Tt,Tt,Tt,Tt,Tt,Tt,Tt,Tt,Tt,Tt,Ff,Ff,Ff,Ff,Ff]) (listed2 := #[Tt,Tt,Tt,Tt,Tt,Tt,Tt,Ff,Tt,Tt,Tt,Tt,Ff,Ff,Ff,Ff]) 7 11 rfl rfl (by kernel_rfl) rfl rfl ?_ ?_
         ·refine TL.val rfl rfl rfl (pm_loadU (k := 0) (i := a) rfl rfl us5ag35 rfl (by omega)) ?_
          refine TL.end_ ?_
          refine TX.held (fun _ _ => trivial) ?_
          refine TH.only' (listed' := #[Tt,Tt,Tt,Tt,Tt,Tt,Tt,Tt,Tt,Tt,Tt,Tt,Ff,Ff,Ff,Ff]) 11 rfl (by kernel_rfl) rfl ?_
          refine TL.val rfl rfl rfl (pm_loadU (k := 0) (i := j) rfl rfl us5ag35 rfl (by omega)) ?_
          refine TL.end_ ?_
          refine TX.held (fun _ _ => trivial) ?_
          refine TH.tk (listed' := #[Tt,Tt,Tt,Tt,Tt,Tt,Tt,Tt,Tt,Tt,Tt,Tt,Tt,Ff,Ff,Ff]) 12 rfl rfl rfl (gives_at (v := .pointer (some ⟨g, j, none⟩)) rfl rfl rfl (fun w => at_row Try.underlying31 us5sz35 g _ _ j (by omega) rfl w)) (fun _ _ => trivial) ?_
          refine TH.only' (listed' := #[Tt,Tt,Tt,Tt,Tt,Tt,Tt,Tt,Tt,Tt,Tt,Tt,Tt,Tt,Ff,Ff]) 13 rfl (by kernel_rfl) rfl ?_
          refine TL.uset (k := 0) (i := j) rfl rfl rfl rfl rfl rfl us5sz35 (by omega) ?_
          refine TL.end_ ?_
          refine TX.held (fun _ _ => trivial) ?_
          refine TH.tk (listed' := #[Tt,Tt,Tt,Tt,Tt,Tt,Tt,Tt,Tt,Tt,Tt,Tt,Tt,Tt,Tt,Ff]) 14 rfl rfl rfl (gives_at (v := .pointer (some ⟨g, a, none⟩)) rfl rfl rfl (fun w => at_row Try.underlying31 us5sz35 g _ _ a (by omega) rfl w)) (fun _ _ => trivial) ?_
          refine TH.only' (listed' := #[Tt,Tt,Tt,Tt,Tt,Tt,Tt,Tt,Tt,Tt,Tt,Tt,Tt,Tt,Tt,Tt]) 15 rfl (by kernel_rfl) rfl ?_
          refine TL.uset (k := 0) (i := a) rfl rfl rfl rfl rfl rfl us5sz35 (by rw [List.length_set]; omega) ?_
          refine TL.end_ ?_
          refine TX.held (fun _ _ => trivial) ?_
          refine TH.done (by kernel_rfl) ?_
          refine TX.then_ (TC.seq_ (TC.region ?_))
          refine TL.mv ?_
          refine TL.as_ ?_
          refine TL.as_ ?_
          refine TL.end_ (TX.then_ (TC.ret_ ?_))
          exact ret_pair Try.results70 rfl rfl (fun w1 hw => ⟨(j, false), swp ys j a, rfl, ⟨hP.swap (by omega) (by omega) (by omega) (Nat.le_refl _) (by omega), hR.mid (by omega) (by omega)⟩, pm_rowAt hw (k := 0) rfl, hw.mapEnd (fun q hq => by simp [hq])⟩)
         ·refine TL.val rfl rfl rfl (pm_loadU (k := 0) (i := j) rfl rfl us5ag35 rfl (by omega)) ?_
          refine TL.end_ ?_
          refine TX.held (fun _ _ => trivial) ?_
          refine TH.only' (listed' := #[Tt,Tt,Tt,Tt,Tt,Tt,Tt,Tt,Tt,Tt,Tt,Tt,Ff,Ff,Ff,Ff]) 7 rfl (by kernel_rfl) rfl ?_
          refine TL.val rfl rfl rfl (pm_loadU (k := 0) (i := a) rfl rfl us5ag35 rfl (by omega)) ?_
          refine TL.end_ ?_
          refine TX.held (fun _ _ => trivial) ?_
          refine TH.tk (listed' := #[Tt,Tt,Tt,Tt,Tt,Tt,Tt,Tt,Tt,Tt,Tt,Tt,Tt,Ff,Ff,Ff]) 12 rfl rfl rfl (gives_at (v := .pointer (some ⟨g, j, none⟩)) rfl rfl rfl (fun w => at_row Try.underlying31 us5sz35 g _ _ j (by omega) rfl w)) (fun _ _ => trivial) ?_
          refine TH.only' (listed' := #[Tt,Tt,Tt,Tt,Tt,Tt,Tt,Tt,Tt,Tt,Tt,Tt,Tt,Tt,Ff,Ff]) 13 rfl (by kernel_rfl) rfl ?_
          refine TL.uset (k := 0) (i := j) rfl rfl rfl rfl rfl rfl us5sz35 (by omega) ?_
          refine TL.end_ ?_
          refine TX.held (fun _ _ => trivial) ?_
          refine TH.tk (listed' := #[Tt,Tt,Tt,Tt,Tt,Tt,Tt,Tt,Tt,Tt,Tt,Tt,Tt,Tt,Tt,Ff]) 14 rfl rfl rfl (gives_at (v := .pointer (some ⟨g, a, none⟩)) rfl rfl rfl (fun w => at_row Try.underlying31 us5sz35 g _ _ a (by omega) rfl w)) (fun _ _ => trivial) ?_
          refine TH.only' (listed' := #[Tt,Tt,Tt,Tt,Tt,Tt,Tt,Tt,Tt,Tt,Tt,Tt,Tt,Tt,Tt,Tt]) 15 rfl (by kernel_rfl) rfl ?_
          refine TL.uset (k := 0) (i := a) rfl rfl rfl rfl rfl rfl us5sz35 (by rw [List.length_set]; omega) ?_
          refine TL.end_ ?_
          refine TX.held (fun _ _ => trivial) ?_
          refine TH.done (by kernel_rfl) ?_
          refine TX.then_ (TC.seq_ (TC.region ?_))
          refine TL.mv ?_
          refine TL.as_ ?_
          refine TL.as_ ?_
          refine TL.end_ (TX.then_ (TC.ret_ ?_))
          exact ret_pair Try.results70 rfl rfl (fun w1 hw => ⟨(j, false), swp ys j a, rfl, ⟨hP.swap (by omega) (by omega) (by omega) (Nat.le_refl _) (by omega), hR.mid (by omega) (by omega)⟩, pm_rowAt hw (k := 0) rfl, hw.mapEnd (fun q hq => by simp [hq])⟩)
        ·have q134 := of_decide_eq_false h134
         have hlt : i < j := by
          have h1 := hie (by omega)
          have h2 := hje (by omega)
          rcases Nat.lt_or_ge i j with hh | hh
          ·exact hh
          ·exfalso; obtain rfl : i = j := by omega
           omega
         refine TL.end_ (TX.then_ (TC.condF rfl (TC.skip_ (TX.then_ (TC.seq_ ?_)))))
         refine TC.held (ls := #[Ff,Ff,Ff,Ff,Ff,Ff,Ff,Ff,Ff,Ff,Ff,Ff,Ff,Ff,Ff,Ff]) (fun _ => True) (by kernel_rfl) rfl rfl (fun w hw => hw.drawn _) ?_
         refine TH.tk (listed' := #[Tt,Ff,Ff,Ff,Ff,Ff,Ff,Ff,Ff,Ff,Ff,Ff,Ff,Ff,Ff,Ff]) 0 rfl rfl rfl (gives_move rfl rfl) (fun _ _ => trivial) ?_
         refine TH.tk (listed' := #[Tt,Tt,Ff,Ff,Ff,Ff,Ff,Ff,Ff,Ff,Ff,Ff,Ff,Ff,Ff,Ff]) 1 rfl rfl rfl (gives_move rfl rfl) (fun _ _ => trivial) ?_
         refine TH.tk (listed' := #[Tt,Tt,Tt,Ff,Ff,Ff,Ff,Ff,Ff,Ff,Ff,Ff,Ff,Ff,Ff,Ff]) 2 rfl rfl rfl (gives_move rfl rfl) (fun _ _ => trivial) ?_
         refine TH.tk (listed' := #[Tt,Tt,Tt,Tt,Ff,Ff,Ff,Ff,Ff,Ff,Ff,Ff,Ff,Ff,Ff,Ff]) 3 rfl rfl rfl (gives_move rfl rfl) (fun _ _ => trivial) ?_
         refine TH.tk (listed' := #[Tt,Tt,Tt,Tt,Tt,Ff,Ff,Ff,Ff,Ff,Ff,Ff,Ff,Ff,Ff,Ff]) 4 rfl rfl rfl (gives_move rfl rfl) (fun _ _ => trivial) ?_
         refine TH.tk (listed' := #[Tt,Tt,Tt,Tt,Tt,Tt,Ff,Ff,Ff,Ff,Ff,Ff,Ff,Ff,Ff,Ff]) 5 rfl rfl rfl (gives_move rfl rfl) (fun _ _ => trivial) ?_
         refine TH.tk (listed' := #[Tt,Tt,Tt,Tt,Tt,Tt,Tt,Ff,Ff,Ff,Ff,Ff,Ff,Ff,Ff,Ff]) 6 rfl rfl rfl (gives_at (v := .pointer (some ⟨g, j, none⟩)) rfl rfl rfl (fun w => at_row Try.underlying31 us5sz35 g _ _ j (by omega) rfl w)) (fun _ _ => trivial) ?_
         refine TH.tk (listed' := #[Tt,Tt,Tt,Tt,Tt,Tt,Tt,Ff,Tt,Ff,Ff,Ff,Ff,Ff,Ff,Ff]) 8 rfl rfl rfl (gives_move rfl rfl) (fun _ _ => trivial) ?_
         refine TH.tk (listed' := #[Tt,Tt,Tt,Tt,Tt,Tt,Tt,Ff,Tt,Tt,Ff,Ff,Ff,Ff,Ff,Ff]) 9 rfl rfl rfl (gives_move rfl rfl) (fun _ _ => trivial) ?_
         refine TH.tk (listed' := #[Tt,Tt,Tt,Tt,Tt,Tt,Tt,Ff,Tt,Tt,Tt,Ff,Ff,Ff,Ff,Ff]) 10 rfl rfl rfl (gives_at (v := .pointer (some ⟨g, i, none⟩)) rfl rfl rfl (fun w => at_row Try.underlying31 us5sz35 g _ _ i (by omega) rfl w)) (fun _ _ => trivial) ?_
         refine TH.two' (listed1 := #[Tt,Tt,Tt,Tt,Tt,Tt,Tt,Tt,Tt,Tt,Tt,Ff,Ff,Ff,Ff,Ff]) (listed2 := #[Tt,Tt,Tt,Tt,Tt,Tt,Tt,Ff,Tt,Tt,Tt,Tt,Ff,Ff,Ff,Ff]) 7 11 rfl rfl (by kernel_rfl) rfl rfl ?_ ?_
         ·refine TL.val rfl rfl rfl (pm_loadU (k := 0) (i := j) rfl rfl us5ag35 rfl (by omega)) ?_
          refine TL.end_ ?_
          refine TX.held (fun _ _ => trivial) ?_
          refine TH.only' (listed' := #[Tt,Tt,Tt,Tt,Tt,Tt,Tt,Tt,Tt,Tt,Tt,Tt,Ff,Ff,Ff,Ff]) 11 rfl (by kernel_rfl) rfl ?_
          refine TL.val rfl rfl rfl (pm_loadU (k := 0) (i := i) rfl rfl us5ag35 rfl (by omega)) ?_
          refine TL.end_ ?_
          refine TX.held (fun _ _ => trivial) ?_
          refine TH.tk (listed' := #[Tt,Tt,Tt,Tt,Tt,Tt,Tt,Tt,Tt,Tt,Tt,Tt,Tt,Ff,Ff,Ff]) 12 rfl rfl rfl (gives_at (v := .pointer (some ⟨g, i, none⟩)) rfl rfl rfl (fun w => at_row Try.underlying31 us5sz35 g _ _ i (by omega) rfl w)) (fun _ _ => trivial) ?_
          refine TH.only' (listed' := #[Tt,Tt,Tt,Tt,Tt,Tt,Tt,Tt,Tt,Tt,Tt,Tt,Tt,Tt,Ff,Ff]) 13 rfl (by kernel_rfl) rfl ?_
          refine TL.uset (k := 0) (i := i) rfl rfl rfl rfl rfl rfl us5sz35 (by omega) ?_
          refine TL.end_ ?_
          refine TX.held (fun _ _ => trivial) ?_
          refine TH.tk (listed' := #[Tt,Tt,Tt,Tt,Tt,Tt,Tt,Tt,Tt,Tt,Tt,Tt,Tt,Tt,Tt,Ff]) 14 rfl rfl rfl (gives_at (v := .pointer (some ⟨g, j, none⟩)) rfl rfl rfl (fun w => at_row Try.underlying31 us5sz35 g _ _ j (by omega) rfl w)) (fun _ _ => trivial) ?_
          refine TH.only' (listed' := #[Tt,Tt,Tt,Tt,Tt,Tt,Tt,Tt,Tt,Tt,Tt,Tt,Tt,Tt,Tt,Tt]) 15 rfl (by kernel_rfl) rfl ?_
          refine TL.uset (k := 0) (i := j) rfl rfl rfl rfl rfl rfl us5sz35 (by rw [List.length_set]; omega) ?_
          refine TL.end_ ?_
          refine TX.held (fun _ _ => trivial) ?_
          refine TH.done (by kernel_rfl) ?_
          refine TX.then_ (TC.seq_ (TC.region ?_))
          refine TL.mv ?_
          refine TL.val rfl rfl rfl (gives_bin rfl rfl rfl (fun w => bin_add_ (r := ((i + 1 : Nat) : Int)) (by simp only [IntKind.wrap_i64]; omega) w)) ?_
          refine TL.as_ ?_
          refine TL.end_ (TX.then_ (TC.region ?_))
          refine TL.mv ?_
          refine TL.val rfl rfl rfl (gives_bin rfl rfl rfl (fun w => bin_sub_ (r := ((j - 1 : Nat) : Int)) (by simp only [IntKind.wrap_i64]; omega) w)) ?_
          refine TL.as_ ?_
          refine TL.end_ (TX.in_normal ?_)
          exact TX.round (⟨(i + 1, j - 1, swp ys i j), hR.swap (by omega) hlt (by have := hje (by omega); omega) (hie (by omega)), hP.swap (by omega) (by omega) (by omega) (by omega) (by omega), by rw [swp_len]; exact hly⟩) (by show j - 1 + 1 - (i + 1) < j0 + 1 - i0; omega) ⟨rfl, rfl, rfl, rfl, rfl, trivial⟩ (fun w1 hw => hw)
         ·refine TL.val rfl rfl rfl (pm_loadU (k := 0) (i := i) rfl rfl us5ag35 rfl (by omega)) ?_
          refine TL.end_ ?_
          refine TX.held (fun _ _ => trivial) ?_
          refine TH.only' (listed' := #[Tt,Tt,Tt,Tt,Tt,Tt,Tt,Tt,Tt,Tt,Tt,Tt,Ff,Ff,Ff,Ff]) 7 rfl (by kernel_rfl) rfl ?_
          refine TL.val rfl rfl rfl (pm_loadU (k := 0) (i := j) rfl rfl us5ag35 rfl (by omega)) ?_
          refine TL.end_ ?_
          refine TX.held (fun _ _ => trivial) ?_
          refine TH.tk (listed' := #[Tt,Tt,Tt,Tt,Tt,Tt,Tt,Tt,Tt,Tt,Tt,Tt,Tt,Ff,Ff,Ff]) 12 rfl rfl rfl (gives_at (v := .pointer (some ⟨g, i, none⟩)) rfl rfl rfl (fun w => at_row Try.underlying31 us5sz35 g _ _ i (by omega) rfl w)) (fun _ _ => trivial) ?_
          refine TH.only' (listed' := #[Tt,Tt,Tt,Tt,Tt,Tt,Tt,Tt,Tt,Tt,Tt,Tt,Tt,Tt,Ff,Ff]) 13 rfl (by kernel_rfl) rfl ?_
          refine TL.uset (k := 0) (i := i) rfl rfl rfl rfl rfl rfl us5sz35 (by omega) ?_
          refine TL.end_ ?_
          refine TX.held (fun _ _ => trivial) ?_
          refine TH.tk (listed' := #[Tt,Tt,Tt,Tt,Tt,Tt,Tt,Tt,Tt,Tt,Tt,Tt,Tt,Tt,Tt,Ff]) 14 rfl rfl rfl (gives_at (v := .pointer (some ⟨g, j, none⟩)) rfl rfl rfl (fun w => at_row Try.underlying31 us5sz35 g _ _ j (by omega) rfl w)) (fun _ _ => trivial) ?_
          refine TH.only' (listed' := #[Tt,Tt,Tt,Tt,Tt,Tt,Tt,Tt,Tt,Tt,Tt,Tt,Tt,Tt,Tt,Tt]) 15 rfl (by kernel_rfl) rfl ?_
          refine TL.uset (k := 0) (i := j) rfl rfl rfl rfl rfl rfl us5sz35 (by rw [List.length_set]; omega) ?_
          refine TL.end_ ?_
          refine TX.held (fun _ _ => trivial) ?_
          refine TH.done (by kernel_rfl) ?_
          refine TX.then_ (TC.seq_ (TC.region ?_))
          refine TL.mv ?_
          refine TL.val rfl rfl rfl (gives_bin rfl rfl rfl (fun w => bin_add_ (r := ((i + 1 : Nat) : Int)) (by simp only [IntKind.wrap_i64]; omega) w)) ?_
          refine TL.as_ ?_
          refine TL.end_ (TX.then_ (TC.region ?_))
          refine TL.mv ?_
          refine TL.val rfl rfl rfl (gives_bin rfl rfl rfl (fun w => bin_sub_ (r := ((j - 1 : Nat) : Int)) (by simp only [IntKind.wrap_i64]; omega) w)) ?_
          refine TL.as_ ?_
          refine TL.end_ (TX.in_normal ?_)
          exact TX.round (⟨(i + 1, j - 1, swp ys i j), hR.swap (by omega) hlt (by have := hje (by omega); omega) (hie (by omega)), hP.swap (by omega) (by omega) (by omega) (by omega) (by omega), by rw [swp_len]; exact hly⟩) (by show j - 1 + 1 - (i + 1) < j0 + 1 - i0; omega) ⟨rfl, rfl, rfl, rfl, rfl, trivial⟩ (fun w1 hw => hw)
end Go.Proofs.Ytleckflmckbheaa

namespace Go.Proofs.Ytleckflmckbheaa
open Go.RowKit
set_option maxRecDepth 20000
def len8L : List Int := [0, 1, 2, 2, 3, 3, 3, 3, 4, 4, 4, 4, 4, 4, 4, 4, 5, 5, 5, 5, 5, 5, 5, 5, 5, 5, 5, 5, 5, 5, 5, 5, 6, 6, 6, 6, 6, 6, 6, 6, 6, 6, 6, 6, 6, 6, 6, 6, 6, 6, 6, 6, 6, 6, 6, 6, 6, 6, 6, 6, 6, 6, 6, 6, 7, 7, 7, 7, 7, 7, 7, 7, 7, 7, 7, 7, 7, 7, 7, 7, 7, 7, 7, 7, 7, 7, 7, 7, 7, 7, 7, 7, 7, 7, 7, 7, 7, 7, 7, 7, 7, 7, 7, 7, 7, 7, 7, 7, 7, 7, 7, 7, 7, 7, 7, 7, 7, 7, 7, 7, 7, 7, 7, 7, 7, 7, 7, 7, 8, 8, 8, 8, 8, 8, 8, 8, 8, 8, 8, 8, 8, 8, 8, 8, 8, 8, 8, 8, 8, 8, 8, 8, 8, 8, 8, 8, 8, 8, 8, 8, 8, 8, 8, 8, 8, 8, 8, 8, 8, 8, 8, 8, 8, 8, 8, 8, 8, 8, 8, 8, 8, 8, 8, 8, 8, 8, 8, 8, 8, 8, 8, 8, 8, 8, 8, 8, 8, 8, 8, 8, 8, 8, 8, 8, 8, 8, 8, 8, 8, 8, 8, 8, 8, 8, 8, 8, 8, 8, 8, 8, 8, 8, 8, 8, 8, 8, 8, 8, 8, 8, 8, 8, 8, 8, 8, 8, 8, 8, 8, 8, 8, 8, 8, 8, 8, 8, 8, 8, 8, 8, 8, 8, 8, 8, 8, 8]
def LenOf (x l : Nat) : Prop := x < 2 ^ l ∧ (0 < x → 2 ^ l ≤ 2 * x) ∧ l ≤ 32
theorem len8_all : ∀ y, y < 256 → len8L[y]? = some (((len8L.getD y 0).toNat : Nat) : Int) ∧ y < 2 ^ (len8L.getD y 0).toNat ∧ (0 < y → 2 ^ (len8L.getD y 0).toNat ≤ 2 * y) ∧ (len8L.getD y 0).toNat ≤ 8 := by decide +kernel
theorem len8_spec (y : Nat) (h : y < 256) : ∃ l : Nat, len8L[y]? = some ((l : Nat) : Int) ∧ y < 2 ^ l ∧ (0 < y → 2 ^ l ≤ 2 * y) ∧ l ≤ 8 := ⟨_, len8_all y h⟩
theorem lenOf_up {x l : Nat} (k : Nat) (hk : k ≤ 16) (h1 : x / 2 ^ k < 2 ^ l) (h2 : 0 < x / 2 ^ k → 2 ^ l ≤ 2 * (x / 2 ^ k)) (h3 : 2 ^ k ≤ x) (h4 : l ≤ 8) : LenOf x (k + l) := by
 have hp : 0 < 2 ^ k := Nat.two_pow_pos k
 have h5 : 0 < x / 2 ^ k := Nat.div_pos h3 hp
 have h6 := h2 h5
 have h7 : x / 2 ^ k * 2 ^ k ≤ x := Nat.div_mul_le_self _ _
 refine ⟨?_, fun _ => ?_, by omega⟩
 ·rw [Nat.pow_add, Nat.mul_comm]
  exact (Nat.div_lt_iff_lt_mul hp).1 h1
 ·rw [Nat.pow_add]
  calc 2 ^ k * 2 ^ l ≤ 2 ^ k * (2 * (x / 2 ^ k)) := Nat.mul_le_mul_left _ h6
   _ = 2 * (x / 2 ^ k * 2 ^ k) := by rw [Nat.mul_left_comm, Nat.mul_comm (2 ^ k)]
   _ ≤ 2 * x := Nat.mul_le_mul_left _ h7
theorem and_le (x : Int) (m : Nat) (hm : m < 9223372036854775808) : ∃ r : Nat, bits .and .u64 x (m : Int) = (r : Int) ∧ r ≤ m := by
 refine ⟨((BitVec.ofInt 64 x).toNat &&& m), ?_, Nat.and_le_right⟩
 have hr : (BitVec.ofInt 64 x).toNat &&& m ≤ m := Nat.and_le_right
 show IntKind.u64.wrap ((BitVec.ofInt 64 x &&& BitVec.ofInt 64 (m : Int)).toNat : Int) = _
 rw [BitVec.toNat_and, ofInt_i64 m hm, IntKind.wrap_u64]
 omega
theorem us6nm72 : (Try.f72.name == "runtime.NumGoroutine") = false := by decide
theorem us6bd72 : Try.f72.body.isNone = false := rfl
theorem us6nm59 : (Try.f59.name == "runtime.NumGoroutine") = false := by decide
theorem us6bd59 : Try.f59.body.isNone = false := rfl
theorem us6ag100 (w : World) : (isAgg 100).run Try.prog w = .ok false w := rfl
theorem us6sz100 (w : World) : (sizeOf 100).run Try.prog w = .ok 1 w := rfl
theorem us6one_u64 {a0 : Int} : ∀ u ∈ [(.int .u64 a0 : Value)], u.oneCell' = true := by
 intro u hu
 rw [List.mem_singleton] at hu
 subst hu; rfl
theorem us6zv100 (w : World) : (zeroValue 100).run Try.prog w = .ok (.int .u64 0) w := rfl
theorem us6nm74 : (Try.f74.name == "runtime.NumGoroutine") = false := by decide
theorem us6bd74 : Try.f74.body.isNone = false := rfl
theorem us6nm75 : (Try.f75.name == "runtime.NumGoroutine") = false := by decide
theorem us6bd75 : Try.f75.body.isNone = false := rfl
theorem us6sz35 (w : World) : (sizeOf 35).run Try.prog w = .ok 1 w := rfl
theorem us6ag35 (w : World) : (isAgg 35).run Try.prog w = .ok false w := rfl
set_option maxHeartbeats 1000000 in
theorem len64_any (x : Nat) (hx : x ≤ 1000000) (w : World) : Calls Try.prog 72 #[.int .u64 ((x : Nat) : Int)] w fun e w' => ∃ L : {l : Nat // LenOf x l}, e = .returned (.int .i64 ((L.1 : Nat) : Int)) ∧ Pm w [] w' := by
 refine begin_ (vs := [.int .u64 ((x : Nat) : Int)]) Try.func72 rfl rfl rfl ?_ (Pm.start w)
 refine TC.seq_ (TC.region ?_)
 refine TL.as_ ?_
 refine TL.end_ (TX.then_ (TC.seq_ (TC.seq_ ?_)))
 rcases (by omega : 65536 ≤ x ∨ (¬ 65536 ≤ x ∧ 256 ≤ x) ∨ (¬ 65536 ≤ x ∧ ¬ 256 ≤ x)) with p1 | ⟨p1, p2⟩ | ⟨p1, p2⟩
 ·obtain ⟨l, hl1, hl2, hl3, hl4⟩ := len8_spec (x / 65536) (by omega)
  have hL : LenOf x (16 + l) := lenOf_up 16 (by decide) hl2 hl3 (by omega) (by omega)
  refine TC.region ?_
  refine TL.mv ?_
  refine TL.val rfl rfl rfl (gives_bin rfl rfl rfl (fun w => bin_geq_f (by omega) w)) ?_
  refine TL.end_ (TX.then_ (TC.condF rfl (TC.skip_ (TX.then_ (TC.seq_ (TC.seq_ (TC.region ?_)))))))
  refine TL.mv ?_
  refine TL.val rfl rfl rfl (gives_bin rfl rfl rfl (fun w => bin_geq_t (by omega) w)) ?_
  refine TL.end_ (TX.then_ (TC.condT rfl (TC.seq_ (TC.region ?_))))
  refine TL.mv ?_
  refine TL.val rfl rfl rfl (gives_bin (v := .int .u64 ((x / 65536 : Nat) : Int)) rfl rfl rfl (fun w => bin_shr 65536 (by decide) (by decide) (by decide) w)) ?_
  refine TL.as_ ?_
  refine TL.end_ (TX.then_ (TC.region ?_))
  refine TL.mv ?_
  refine TL.val rfl rfl rfl (gives_bin rfl rfl rfl (fun w => bin_add_ (r := 16) (by simp only [IntKind.wrap_i64]; omega) w)) ?_
  refine TL.as_ ?_
  refine TL.end_ (TX.then_ (TC.seq_ (TC.seq_ (TC.region ?_))))
  refine TL.mv ?_
  refine TL.val rfl rfl rfl (gives_bin rfl rfl rfl (fun w => bin_geq_f (by omega) w)) ?_
  refine TL.end_ (TX.then_ (TC.condF rfl (TC.skip_ (TX.then_ (TC.seq_ (TC.region ?_))))))
  refine TL.mv ?_
  refine TL.mv ?_
  refine TL.val rfl rfl rfl (gives_conv rfl rfl (fun w => conv_fit (k := .u64) Try.underlying5 Try.underlying99 (by simp only [IntKind.wrap_u8]; omega) w)) ?_
  refine TL.val rfl rfl rfl (gives_index (vx := sv len8L) rfl (by kernel_rfl) rfl (fun w => str_at Try.underlying9 hl1 (by omega) w)) ?_
  refine TL.val rfl rfl rfl (gives_conv rfl rfl (fun w => conv_fit (k := .u8) Try.underlying3 Try.underlying5 (by simp only [IntKind.wrap_i64]; omega) w)) ?_
  refine TL.val rfl rfl rfl (gives_bin rfl rfl rfl (fun w => bin_add_ (r := ((16 + l : Nat) : Int)) (by simp only [IntKind.wrap_i64]; omega) w)) ?_
  refine TL.as_ ?_
  refine TL.end_ (TX.then_ (TC.ret_ ?_))
  exact ret_tmp Try.results72 rfl (fun w1 hw => ⟨⟨16 + l, hL⟩, rfl, hw⟩)
 ·obtain ⟨l, hl1, hl2, hl3, hl4⟩ := len8_spec (x / 256) (by omega)
  have hL : LenOf x (8 + l) := lenOf_up 8 (by decide) hl2 hl3 (by omega) (by omega)
  refine TC.region ?_
  refine TL.mv ?_
  refine TL.val rfl rfl rfl (gives_bin rfl rfl rfl (fun w => bin_geq_f (by omega) w)) ?_
  refine TL.end_ (TX.then_ (TC.condF rfl (TC.skip_ (TX.then_ (TC.seq_ (TC.seq_ (TC.region ?_)))))))
  refine TL.mv ?_
  refine TL.val rfl rfl rfl (gives_bin rfl rfl rfl (fun w => bin_geq_f (by omega) w)) ?_
  refine TL.end_ (TX.then_ (TC.condF rfl (TC.skip_ (TX.then_ (TC.seq_ (TC.seq_ (TC.region ?_)))))))
  refine TL.mv ?_
  refine TL.val rfl rfl rfl (gives_bin rfl rfl rfl (fun w => bin_geq_t (by omega) w)) ?_
  refine TL.end_ (TX.then_ (TC.condT rfl (TC.seq_ (TC.region ?_))))
  refine TL.mv ?_
  refine TL.val rfl rfl rfl (gives_bin (v := .int .u64 ((x / 256 : Nat) : Int)) rfl rfl rfl (fun w => bin_shr 256 (by decide) (by decide) (by decide) w)) ?_
  refine TL.as_ ?_
  refine TL.end_ (TX.then_ (TC.region ?_))
  refine TL.mv ?_
  refine TL.val rfl rfl rfl (gives_bin rfl rfl rfl (fun w => bin_add_ (r := 8) (by simp only [IntKind.wrap_i64]; omega) w)) ?_
  refine TL.as_ ?_
  refine TL.end_ (TX.then_ (TC.seq_ (TC.region ?_)))
  refine TL.mv ?_
  refine TL.mv ?_
  refine TL.val rfl rfl rfl (gives_conv rfl rfl (fun w => conv_fit (k := .u64) Try.underlying5 Try.underlying99 (by simp only [IntKind.wrap_u8]; omega) w)) ?_
  refine TL.val rfl rfl rfl (gives_index (vx := sv len8L) rfl (by kernel_rfl) rfl (fun w => str_at Try.underlying9 hl1 (by omega) w)) ?_
  refine TL.val rfl rfl rfl (gives_conv rfl rfl (fun w => conv_fit (k := .u8) Try.underlying3 Try.underlying5 (by simp only [IntKind.wrap_i64]; omega) w)) ?_
  refine TL.val rfl rfl rfl (gives_bin rfl rfl rfl (fun w => bin_add_ (r := ((8 + l : Nat) : Int)) (by simp only [IntKind.wrap_i64]; omega) w)) ?_
  refine TL.as_ ?_
  refine TL.end_ (TX.then_ (TC.ret_ ?_))
  exact ret_tmp Try.results72 rfl (fun w1 hw => ⟨⟨8 + l, hL⟩, rfl, hw⟩)
 ·obtain ⟨l, hl1, hl2, hl3, hl4⟩ := len8_spec (x) (by omega)
  have hL : LenOf x (0 + l) := by rw [Nat.zero_add]; exact ⟨hl2, hl3, by omega⟩
  refine TC.region ?_
  refine TL.mv ?_
  refine TL.val rfl rfl rfl (gives_bin rfl rfl rfl (fun w => bin_geq_f (by omega) w)) ?_
  refine TL.end_ (TX.then_ (TC.condF rfl (TC.skip_ (TX.then_ (TC.seq_ (TC.seq_ (TC.region ?_)))))))
  refine TL.mv ?_
  refine TL.val rfl rfl rfl (gives_bin rfl rfl rfl (fun w => bin_geq_f (by omega) w)) ?_
  refine TL.end_ (TX.then_ (TC.condF rfl (TC.skip_ (TX.then_ (TC.seq_ (TC.seq_ (TC.region ?_)))))))
  refine TL.mv ?_
  refine TL.val rfl rfl rfl (gives_bin rfl rfl rfl (fun w => bin_geq_f (by omega) w)) ?_
  refine TL.end_ (TX.then_ (TC.condF rfl (TC.skip_ (TX.then_ (TC.seq_ (TC.region ?_))))))
  refine TL.mv ?_
  refine TL.mv ?_
  refine TL.val rfl rfl rfl (gives_conv rfl rfl (fun w => conv_fit (k := .u64) Try.underlying5 Try.underlying99 (by simp only [IntKind.wrap_u8]; omega) w)) ?_
  refine TL.val rfl rfl rfl (gives_index (vx := sv len8L) rfl (by kernel_rfl) rfl (fun w => str_at Try.underlying9 hl1 (by omega) w)) ?_
  refine TL.val rfl rfl rfl (gives_conv rfl rfl (fun w => conv_fit (k := .u8) Try.underlying3 Try.underlying5 (by simp only [IntKind.wrap_i64]; omega) w)) ?_
  refine TL.val rfl rfl rfl (gives_bin rfl rfl rfl (fun w => bin_add_ (r := ((0 + l : Nat) : Int)) (by simp only [IntKind.wrap_i64]; omega) w)) ?_
  refine TL.as_ ?_
  refine TL.end_ (TX.then_ (TC.ret_ ?_))
  exact ret_tmp Try.results72 rfl (fun w1 hw => ⟨⟨0 + l, hL⟩, rfl, hw⟩)
set_option maxHeartbeats 1000000 in
theorem len_any (x : Nat) (hx : x ≤ 1000000) (w : World) : Calls Try.prog 59 #[.int .u64 ((x : Nat) : Int)] w fun e w' => ∃ L : {l : Nat // LenOf x l}, e = .returned (.int .i64 ((L.1 : Nat) : Int)) ∧ Pm w [] w' := by
 refine begin_ (vs := [.int .u64 ((x : Nat) : Int)]) Try.func59 rfl rfl rfl ?_ (Pm.start w)
 refine TC.seq_ (TC.region ?_)
 refine TL.as_ ?_
 refine TL.end_ (TX.then_ (TC.seq_ (TC.condF rfl (TC.skip_ (TX.then_ (TC.seq_ (TC.region ?_)))))))
 refine TL.mv ?_
 refine TL.pcallPm (α := {l : Nat // LenOf x l}) (fun y => .int .i64 ((y.1 : Nat) : Int)) (fun y => []) rfl rfl rfl rfl rfl Try.func72 us6nm72 us6bd72 (fun w1 hw => len64_any _ (by omega) w1) ?_
 rintro ⟨l, hL⟩
 dsimp only [List.cons_append, List.nil_append]
 refine TL.as_ ?_
 refine TL.end_ (TX.then_ (TC.ret_ ?_))
 exact ret_tmp Try.results59 rfl (fun w1 hw => ⟨⟨l, hL⟩, rfl, hw⟩)
set_option maxHeartbeats 1000000 in
theorem np2_any (x : Nat) (hx1 : 0 < x) (hx : x ≤ 1000000) (w : World) : Calls Try.prog 74 #[.int .i64 ((x : Nat) : Int)] w fun e w' => ∃ p : {p : Nat // x < p ∧ p ≤ 2 * x}, e = .returned (.int .u64 ((p.1 : Nat) : Int)) ∧ Pm w [] w' := by
 refine begin_ (vs := [.int .i64 ((x : Nat) : Int)]) Try.func74 rfl rfl rfl ?_ (Pm.start w)
 refine TC.seq_ (TC.region ?_)
 refine TL.as_ ?_
 refine TL.end_ (TX.then_ (TC.seq_ (TC.region ?_)))
 refine TL.mv ?_
 refine TL.val rfl rfl rfl (gives_conv rfl rfl (fun w => conv_fit (k := .i64) Try.underlying88 Try.underlying3 (by simp only [IntKind.wrap_u64]; omega) w)) ?_
 refine TL.pcallPm (α := {l : Nat // LenOf x l}) (fun y => .int .i64 ((y.1 : Nat) : Int)) (fun y => []) rfl rfl rfl rfl rfl Try.func59 us6nm59 us6bd59 (fun w1 hw => len_any _ (by omega) w1) ?_
 rintro ⟨l, hL⟩
 dsimp only [List.cons_append, List.nil_append]
 have hb1 := hL.2.1 hx1
 have hb2 := hL.1
 have hb3 := hL.2.2
 have hp0 : 0 < 2 ^ l := Nat.two_pow_pos l
 refine TL.val rfl rfl rfl (gives_bin (v := .int .u64 ((2 ^ l : Nat) : Int)) rfl rfl rfl (fun w => by rw [bin_shl ((2 ^ l : Nat) : Int) (by omega) (show ((l : Nat) : Int) ≤ ((64 : Nat) : Int) by omega) (by rw [Int.toNat_natCast]; exact (Int.natCast_pow 2 l).symm) w]; congr 2; simp only [IntKind.wrap_u64]; omega)) ?_
 refine TL.as_ ?_
 refine TL.end_ (TX.then_ (TC.ret_ ?_))
 exact ret_tmp Try.results74 rfl (fun w1 hw => ⟨⟨2 ^ l, hb2, hb1⟩, rfl, hw⟩)
set_option maxHeartbeats 1000000 in
theorem xnext_any (gs : Nat) (x : Int) (w : World) (hs : Blk w gs 100 [.int .u64 x].toArray) : Calls Try.prog 75 #[.pointer (some ⟨gs, 0, none⟩)] w fun e w' => ∃ y : Int, e = .returned (.int .u64 y) ∧ Chg gs 100 [.int .u64 y] w [] w' := by
 refine begin_ (vs := [.pointer (some ⟨gs, 0, none⟩)]) (I := Pm ⟨w, gs⟩ (.blk gs 100 [.int .u64 x] :: oths gs w)) Try.func75 rfl rfl rfl ?_ (Pm.atBlk hs)
 refine TC.seq_ (TC.region ?_)
 refine TL.as_ ?_
 refine TL.end_ (TX.then_ (TC.seq_ ?_))
 refine TC.tail 8 (by kernel_rfl) (by kernel_rfl) (fun w hw => hw.drawn _) ?_
 refine TS.val rfl rfl rfl (gives_move rfl rfl) ?_
 refine TS.val rfl rfl rfl (gives_nilCheck rfl rfl) ?_
 refine TS.val rfl rfl rfl (pm_load (k := 0) (i := 0) rfl rfl us6ag100 rfl rfl) ?_
 refine TS.val rfl rfl rfl (gives_move rfl rfl) ?_
 refine TS.val rfl rfl rfl (gives_nilCheck rfl rfl) ?_
 refine TS.val rfl rfl rfl (pm_load (k := 0) (i := 0) rfl rfl us6ag100 rfl rfl) ?_
 refine TS.val rfl rfl rfl (gives_bin rfl rfl rfl (fun w => bin_shl 8192 (by decide) (by decide) (by decide) w)) ?_
 refine TS.val rfl rfl rfl (gives_bin rfl rfl rfl (fun w => bin_bits (.inr (.inr rfl)) w)) ?_
 refine TS.end_ ?_
 refine TL.val rfl rfl rfl (gives_nilCheck rfl rfl) ?_
 refine TL.pstore (k := 0) (vs := [.int .u64 (bits .xor .u64 x (IntKind.u64.wrap (x * 8192)))]) rfl rfl rfl rfl rfl rfl rfl us6sz100 us6one_u64 (by show 1 ≤ 1; decide) (L' := ([.blk gs 100 [.int .u64 (bits .xor .u64 x (IntKind.u64.wrap (x * 8192)))]] ++ oths gs w)) rfl ?_
 refine TL.end_ (TX.then_ (TC.seq_ ?_))
 refine TC.tail 8 (by kernel_rfl) (by kernel_rfl) (fun w hw => hw.drawn _) ?_
 refine TS.val rfl rfl rfl (gives_move rfl rfl) ?_
 refine TS.val rfl rfl rfl (gives_nilCheck rfl rfl) ?_
 refine TS.val rfl rfl rfl (pm_load (k := 0) (i := 0) rfl rfl us6ag100 rfl rfl) ?_
 refine TS.val rfl rfl rfl (gives_move rfl rfl) ?_
 refine TS.val rfl rfl rfl (gives_nilCheck rfl rfl) ?_
 refine TS.val rfl rfl rfl (pm_load (k := 0) (i := 0) rfl rfl us6ag100 rfl rfl) ?_
 refine TS.val rfl rfl rfl (gives_bin rfl rfl rfl (fun w => bin_shr 128 (by decide) (by decide) (by decide) w)) ?_
 refine TS.val rfl rfl rfl (gives_bin rfl rfl rfl (fun w => bin_bits (.inr (.inr rfl)) w)) ?_
 refine TS.end_ ?_
 refine TL.val rfl rfl rfl (gives_nilCheck rfl rfl) ?_
 refine TL.pstore (k := 0) (vs := [.int .u64 (bits .xor .u64 (bits .xor .u64 x (IntKind.u64.wrap (x * 8192))) ((bits .xor .u64 x (IntKind.u64.wrap (x * 8192))) / 128))]) rfl rfl rfl rfl rfl rfl rfl us6sz100 us6one_u64 (by show 1 ≤ 1; decide) (L' := ([.blk gs 100 [.int .u64 (bits .xor .u64 (bits .xor .u64 x (IntKind.u64.wrap (x * 8192))) ((bits .xor .u64 x (IntKind.u64.wrap (x * 8192))) / 128))]] ++ oths gs w)) rfl ?_
 refine TL.end_ (TX.then_ (TC.seq_ ?_))
 refine TC.tail 8 (by kernel_rfl) (by kernel_rfl) (fun w hw => hw.drawn _) ?_
 refine TS.val rfl rfl rfl (gives_move rfl rfl) ?_
 refine TS.val rfl rfl rfl (gives_nilCheck rfl rfl) ?_
 refine TS.val rfl rfl rfl (pm_load (k := 0) (i := 0) rfl rfl us6ag100 rfl rfl) ?_
 refine TS.val rfl rfl rfl (gives_move rfl rfl) ?_
 refine TS.val rfl rfl rfl (gives_nilCheck rfl rfl) ?_
 refine TS.val rfl rfl rfl (pm_load (k := 0) (i := 0) rfl rfl us6ag100 rfl rfl) ?_
 refine TS.val rfl rfl rfl (gives_bin rfl rfl rfl (fun w => bin_shl 131072 (by decide) (by decide) (by decide) w)) ?_
 refine TS.val rfl rfl rfl (gives_bin rfl rfl rfl (fun w => bin_bits (.inr (.inr rfl)) w)) ?_
 refine TS.end_ ?_
 refine TL.val rfl rfl rfl (gives_nilCheck rfl rfl) ?_
 refine TL.pstore (k := 0) (vs := [.int .u64 (bits .xor .u64 (bits .xor .u64 (bits .xor .u64 x (IntKind.u64.wrap (x * 8192))) ((bits .xor .u64 x (IntKind.u64.wrap (x * 8192))) / 128)) (IntKind.u64.wrap ((bits .xor .u64 (bits .xor .u64 x (IntKind.u64.wrap (x * 8192))) ((bits .xor .u64 x (IntKind.u64.wrap (x * 8192))) / 128)) * 131072)))]) rfl rfl rfl rfl rfl rfl rfl us6sz100 us6one_u64 (by show 1 ≤ 1; decide) (L' := ([.blk gs 100 [.int .u64 (bits .xor .u64 (bits .xor .u64 (bits .xor .u64 x (IntKind.u64.wrap (x * 8192))) ((bits .xor .u64 x (IntKind.u64.wrap (x * 8192))) / 128)) (IntKind.u64.wrap ((bits .xor .u64 (bits .xor .u64 x (IntKind.u64.wrap (x * 8192))) ((bits .xor .u64 x (IntKind.u64.wrap (x * 8192))) / 128)) * 131072)))]] ++ oths gs w)) rfl ?_
 refine TL.end_ (TX.then_ (TC.seq_ (TC.region ?_)))
 refine TL.mv ?_
 refine TL.val rfl rfl rfl (gives_nilCheck rfl rfl) ?_
 refine TL.val rfl rfl rfl (pm_load (k := 0) (i := 0) rfl rfl us6ag100 rfl rfl) ?_
 refine TL.as_ ?_
 refine TL.end_ (TX.then_ (TC.ret_ ?_))
 exact ret_tmp Try.results75 rfl (fun w1 hw => ⟨_, rfl, Pm.chg [] hw rfl⟩)
set_option maxHeartbeats 1000000 in
theorem brk_any (g n c : Nat) (xs : List Int) (w : World) (h : Rw 35 w g n c xs) (hn : n ≤ 1000000) (a b : Nat) (hab : a ≤ b) (hb : b ≤ n) :
  Calls Try.prog 64 #[.slice (some ⟨g, 0, none⟩) n c, .int .i64 ((a : Nat) : Int), .int .i64 ((b : Nat) : Int)] w (RC (α := Unit) (fun _ => .tuple #[]) (fun _ ys => Pin a b xs ys) 35 g n c w) := by
 have hl := h.len
 refine begin_ (vs := [.slice (some ⟨g, 0, none⟩) n c, .int .i64 ((a : Nat) : Int), .int .i64 ((b : Nat) : Int)]) (I := Pm ⟨wbut w g, g⟩ (.row (.slice (some ⟨g, 0, none⟩) n c) 35 1 n (uv xs) :: oths g w)) Try.func64 rfl rfl rfl ?_ (Pm.rowStart h)
 refine TC.seq_ (TC.region ?_)
 refine TL.mv ?_
 refine TL.mv ?_
 refine TL.val rfl rfl rfl (gives_bin rfl rfl rfl (fun w => bin_sub_ (r := ((b - a : Nat) : Int)) (by simp only [IntKind.wrap_i64]; omega) w)) ?_
 refine TL.as_ ?_
 refine TL.end_ (TX.then_ (TC.seq_ (TC.region ?_)))
 refine TL.mv ?_
 refine TL.vsplit rfl rfl rfl (gives_bin rfl rfl rfl (fun w => bin_geq w)) (fun h15 => ?_) (fun h15 => ?_)
 ·have q15 := of_decide_eq_true h15
  refine TL.end_ (TX.then_ (TC.condT rfl (TC.seq_ (TC.region ?_))))
  refine TL.mv ?_
  refine TL.val rfl rfl rfl (gives_conv rfl rfl (fun w => conv_fit (k := .i64) Try.underlying100 Try.underlying3 (by simp only [IntKind.wrap_u64]; omega) w)) ?_
  refine TL.pnew rfl rfl rfl (exec_alloc (cs := [.int .u64 0]) rfl us6zv100 rfl) (fun g7 => ?_)
  refine TL.pstore (k := 0) (vs := [.int .u64 ((b - a : Nat) : Int)]) rfl rfl rfl rfl rfl rfl rfl us6sz100 us6one_u64 (by show 1 ≤ 1; decide) (L' := ([.blk g7 100 [.int .u64 ((b - a : Nat) : Int)], .row (.slice (some ⟨g, 0, none⟩) n c) 35 1 n (uv xs)] ++ oths g w)) rfl ?_
  refine TL.end_ (TX.then_ (TC.seq_ (TC.region ?_)))
  refine TL.mv ?_
  refine TL.pcallPm (α := {p : Nat // b - a < p ∧ p ≤ 2 * (b - a)}) (fun y => .int .u64 ((y.1 : Nat) : Int)) (fun y => []) rfl rfl rfl rfl rfl Try.func74 us6nm74 us6bd74 (fun w1 hw => np2_any _ (by omega) (by omega) w1) ?_
  rintro ⟨p, hp1, hp2⟩
  dsimp only [List.cons_append, List.nil_append]
  refine TL.as_ ?_
  refine TL.end_ (TX.then_ (TC.seq_ (TC.region ?_)))
  refine TL.mv ?_
  refine TL.mv ?_
  refine TL.val rfl rfl rfl (gives_bin rfl rfl rfl (fun w => bin_quoi_ (r := (((b - a) / 4 : Nat) : Int)) (by omega) (by omega) (by omega) (by omega) w)) ?_
  refine TL.val rfl rfl rfl (gives_bin rfl rfl rfl (fun w => bin_mul_ (r := ((((b - a) / 4) * 2 : Nat) : Int)) (by simp only [IntKind.wrap_i64]; omega) w)) ?_
  refine TL.val rfl rfl rfl (gives_bin rfl rfl rfl (fun w => bin_add_ (r := ((a + (((b - a) / 4) * 2) : Nat) : Int)) (by simp only [IntKind.wrap_i64]; omega) w)) ?_
  refine TL.val rfl rfl rfl (gives_bin rfl rfl rfl (fun w => bin_sub_ (r := (((a + (((b - a) / 4) * 2)) - 1 : Nat) : Int)) (by simp only [IntKind.wrap_i64]; omega) w)) ?_
  refine TL.as_ ?_
  refine TL.end_ (TX.then_ (TC.block ?_))
  refine TC.loop_ (α := {y : Nat × Int × List Int // a + (b - a) / 4 * 2 - 1 ≤ y.1 ∧ y.1 ≤ a + (b - a) / 4 * 2 + 2 ∧ Pin a b xs y.2.2 ∧ y.2.2.length = n}) (fun y => [(0, .slice (some ⟨g, 0, none⟩) n c), (1, .int .i64 ((a : Nat) : Int)), (2, .int .i64 ((b : Nat) : Int)), (6, .int .i64 ((b - a : Nat) : Int)), (7, .pointer (some ⟨g7, 0, none⟩)), (8, .int .u64 ((p : Nat) : Int)), (9, .int .i64 ((y.1.1 : Nat) : Int))]) (fun y => Pm ⟨wbut w g, g⟩ ([.blk g7 100 [.int .u64 y.1.2.1], .row (.slice (some ⟨g, 0, none⟩) n c) 35 1 n (uv y.1.2.2)] ++ oths g w)) (fun y => a + (b - a) / 4 * 2 + 2 - y.1.1) (⟨(a + (b - a) / 4 * 2 - 1, ((b - a : Nat) : Int), xs), Nat.le_refl _, by dsimp only; omega, Pin.refl _ _ _, hl⟩) ⟨rfl, rfl, rfl, rfl, rfl, rfl, rfl, trivial⟩ (fun w1 hw => hw) ?_
  rintro ⟨⟨i, u, ys⟩, hi1, hi2, hP, hly⟩
  dsimp only at hi1 hi2 hP hly ⊢
  refine TC.seq_ (TC.seq_ (TC.region ?_))
  refine TL.mv ?_
  refine TL.mv ?_
  refine TL.mv ?_
  refine TL.val rfl rfl rfl (gives_bin rfl rfl rfl (fun w => bin_quoi_ (r := (((b - a) / 4 : Nat) : Int)) (by omega) (by omega) (by omega) (by omega) w)) ?_
  refine TL.val rfl rfl rfl (gives_bin rfl rfl rfl (fun w => bin_mul_ (r := ((((b - a) / 4) * 2 : Nat) : Int)) (by simp only [IntKind.wrap_i64]; omega) w)) ?_
  refine TL.val rfl rfl rfl (gives_bin rfl rfl rfl (fun w => bin_add_ (r := ((a + (((b - a) / 4) * 2) : Nat) : Int)) (by simp only [IntKind.wrap_i64]; omega) w)) ?_
  refine TL.val rfl rfl rfl (gives_bin rfl rfl rfl (fun w => bin_add_ (r := ((a + (((b - a) / 4) * 2) + 1 : Nat) : Int)) (by simp only [IntKind.wrap_i64]; omega) w)) ?_
  refine TL.vsplit rfl rfl rfl (gives_bin rfl rfl rfl (fun w => bin_leq w)) (fun h33 => ?_) (fun h33 => ?_)
  ·have q33 := of_decide_eq_true h33
   refine TL.end_ (TX.then_ (TC.condT rfl (TC.skip_ (TX.then_ (TC.seq_ (TC.block (TC.seq_ (TC.region ?_))))))))
   refine TL.pcallChg (k := 0) (α := Int) (fun y => .int .u64 y) (fun y => [.int .u64 y]) (fun y => []) rfl rfl rfl rfl rfl Try.func75 us6nm75 us6bd75 rfl (fun w1 hw => xnext_any g7 _ w1 (hw.at_ (k := 0) rfl).1) ?_
   rintro v
   dsimp only [List.cons_append, List.nil_append, List.set]
   refine TL.mv ?_
   refine TL.val rfl rfl rfl (gives_bin rfl rfl rfl (fun w => bin_sub_ (r := ((p - 1 : Nat) : Int)) (by simp only [IntKind.wrap_u64]; omega) w)) ?_
   obtain ⟨q, hq, hq2⟩ := and_le v (p - 1) (by omega)
   refine TL.val rfl rfl rfl (gives_bin (v := .int .u64 ((q : Nat) : Int)) rfl rfl rfl (fun w => by rw [← hq]; exact bin_bits (.inl rfl) w)) ?_
   refine TL.val rfl rfl rfl (gives_conv rfl rfl (fun w => conv_fit (k := .u64) Try.underlying3 Try.underlying88 (by simp only [IntKind.wrap_i64]; omega) w)) ?_
   refine TL.as_ ?_
   refine TL.end_ (TX.then_ (TC.seq_ (TC.seq_ (TC.region ?_))))
   refine TL.mv ?_
   refine TL.mv ?_
   refine TL.vsplit rfl rfl rfl (gives_bin rfl rfl rfl (fun w => bin_geq w)) (fun h43 => ?_) (fun h43 => ?_)
   ·have q43 := of_decide_eq_true h43
    refine TL.end_ (TX.then_ (TC.condT rfl (TC.region ?_)))
    refine TL.mv ?_
    refine TL.mv ?_
    refine TL.val rfl rfl rfl (gives_bin rfl rfl rfl (fun w => bin_sub_ (r := ((q - (b - a) : Nat) : Int)) (by simp only [IntKind.wrap_i64]; omega) w)) ?_
    refine TL.as_ ?_
    refine TL.end_ (TX.then_ ?_)
    refine TC.held (ls := #[Ff,Ff,Ff,Ff,Ff,Ff,Ff,Ff,Ff,Ff,Ff,Ff,Ff,Ff,Ff,Ff,Ff,Ff,Ff,Ff]) (fun _ => True) (by kernel_rfl) rfl rfl (fun w hw => hw.drawn _) ?_
    refine TH.tk (listed' := #[Tt,Ff,Ff,Ff,Ff,Ff,Ff,Ff,Ff,Ff,Ff,Ff,Ff,Ff,Ff,Ff,Ff,Ff,Ff,Ff]) 0 rfl rfl rfl (gives_move rfl rfl) (fun _ _ => trivial) ?_
    refine TH.tk (listed' := #[Tt,Tt,Ff,Ff,Ff,Ff,Ff,Ff,Ff,Ff,Ff,Ff,Ff,Ff,Ff,Ff,Ff,Ff,Ff,Ff]) 1 rfl rfl rfl (gives_move rfl rfl) (fun _ _ => trivial) ?_
    refine TH.tk (listed' := #[Tt,Tt,Tt,Ff,Ff,Ff,Ff,Ff,Ff,Ff,Ff,Ff,Ff,Ff,Ff,Ff,Ff,Ff,Ff,Ff]) 2 rfl rfl rfl (gives_move rfl rfl) (fun _ _ => trivial) ?_
    refine TH.tk (listed' := #[Tt,Tt,Tt,Tt,Ff,Ff,Ff,Ff,Ff,Ff,Ff,Ff,Ff,Ff,Ff,Ff,Ff,Ff,Ff,Ff]) 3 rfl rfl rfl (gives_move rfl rfl) (fun _ _ => trivial) ?_
    refine TH.tk (listed' := #[Tt,Tt,Tt,Tt,Tt,Ff,Ff,Ff,Ff,Ff,Ff,Ff,Ff,Ff,Ff,Ff,Ff,Ff,Ff,Ff]) 4 rfl rfl rfl (gives_move rfl rfl) (fun _ _ => trivial) ?_
    refine TH.tk (listed' := #[Tt,Tt,Tt,Tt,Tt,Tt,Ff,Ff,Ff,Ff,Ff,Ff,Ff,Ff,Ff,Ff,Ff,Ff,Ff,Ff]) 5 rfl rfl rfl (gives_bin rfl rfl rfl (fun w => bin_add_ (r := ((a + (q - (b - a)) : Nat) : Int)) (by simp only [IntKind.wrap_i64]; omega) w)) (fun _ _ => trivial) ?_
    refine TH.tk (listed' := #[Tt,Tt,Tt,Tt,Tt,Tt,Tt,Ff,Ff,Ff,Ff,Ff,Ff,Ff,Ff,Ff,Ff,Ff,Ff,Ff]) 6 rfl rfl rfl (gives_move rfl rfl) (fun _ _ => trivial) ?_
    refine TH.tk (listed' := #[Tt,Tt,Tt,Tt,Tt,Tt,Tt,Tt,Ff,Ff,Ff,Ff,Ff,Ff,Ff,Ff,Ff,Ff,Ff,Ff]) 7 rfl rfl rfl (gives_move rfl rfl) (fun _ _ => trivial) ?_
    refine TH.tk (listed' := #[Tt,Tt,Tt,Tt,Tt,Tt,Tt,Tt,Tt,Ff,Ff,Ff,Ff,Ff,Ff,Ff,Ff,Ff,Ff,Ff]) 8 rfl rfl rfl (gives_move rfl rfl) (fun _ _ => trivial) ?_
    refine TH.tk (listed' := #[Tt,Tt,Tt,Tt,Tt,Tt,Tt,Tt,Tt,Tt,Ff,Ff,Ff,Ff,Ff,Ff,Ff,Ff,Ff,Ff]) 9 rfl rfl rfl (gives_bin rfl rfl rfl (fun w => bin_add_ (r := ((a + (q - (b - a)) : Nat) : Int)) (by simp only [IntKind.wrap_i64]; omega) w)) (fun _ _ => trivial) ?_
    refine TH.tk (listed' := #[Tt,Tt,Tt,Tt,Tt,Tt,Tt,Tt,Tt,Tt,Tt,Ff,Ff,Ff,Ff,Ff,Ff,Ff,Ff,Ff]) 10 rfl rfl rfl (gives_at (v := .pointer (some ⟨g, a + (q - (b - a)), none⟩)) rfl rfl rfl (fun w => at_row Try.underlying31 us6sz35 g _ _ (a + (q - (b - a))) (by omega) rfl w)) (fun _ _ => trivial) ?_
    refine TH.tk (listed' := #[Tt,Tt,Tt,Tt,Tt,Tt,Tt,Tt,Tt,Tt,Tt,Ff,Tt,Ff,Ff,Ff,Ff,Ff,Ff,Ff]) 12 rfl rfl rfl (gives_move rfl rfl) (fun _ _ => trivial) ?_
    refine TH.tk (listed' := #[Tt,Tt,Tt,Tt,Tt,Tt,Tt,Tt,Tt,Tt,Tt,Ff,Tt,Tt,Ff,Ff,Ff,Ff,Ff,Ff]) 13 rfl rfl rfl (gives_move rfl rfl) (fun _ _ => trivial) ?_
    refine TH.tk (listed' := #[Tt,Tt,Tt,Tt,Tt,Tt,Tt,Tt,Tt,Tt,Tt,Ff,Tt,Tt,Tt,Ff,Ff,Ff,Ff,Ff]) 14 rfl rfl rfl (gives_at (v := .pointer (some ⟨g, i, none⟩)) rfl rfl rfl (fun w => at_row Try.underlying31 us6sz35 g _ _ i (by omega) rfl w)) (fun _ _ => trivial) ?_
    refine TH.two' (listed1 := #[Tt,Tt,Tt,Tt,Tt,Tt,Tt,Tt,Tt,Tt,Tt,Tt,Tt,Tt,Tt,Ff,Ff,Ff,Ff,Ff]) (listed2 := #[Tt,Tt,Tt,Tt,Tt,Tt,Tt,Tt,Tt,Tt,Tt,Ff,Tt,Tt,Tt,Tt,Ff,Ff,Ff,Ff]) 11 15 rfl rfl (by kernel_rfl) rfl rfl ?_ ?_
    ·refine TL.val rfl rfl rfl (pm_loadU (k := 1) (i := a + (q - (b - a))) rfl rfl us6ag35 rfl (by omega)) ?_
     refine TL.end_ ?_
     refine TX.held (fun _ _ => trivial) ?_
     refine TH.only' (listed' := #[Tt,Tt,Tt,Tt,Tt,Tt,Tt,Tt,Tt,Tt,Tt,Tt,Tt,Tt,Tt,Tt,Ff,Ff,Ff,Ff]) 15 rfl (by kernel_rfl) rfl ?_
     refine TL.val rfl rfl rfl (pm_loadU (k := 1) (i := i) rfl rfl us6ag35 rfl (by omega)) ?_
     refine TL.end_ ?_
     refine TX.held (fun _ _ => trivial) ?_
     refine TH.tk (listed' := #[Tt,Tt,Tt,Tt,Tt,Tt,Tt,Tt,Tt,Tt,Tt,Tt,Tt,Tt,Tt,Tt,Tt,Ff,Ff,Ff]) 16 rfl rfl rfl (gives_at (v := .pointer (some ⟨g, i, none⟩)) rfl rfl rfl (fun w => at_row Try.underlying31 us6sz35 g _ _ i (by omega) rfl w)) (fun _ _ => trivial) ?_
     refine TH.only' (listed' := #[Tt,Tt,Tt,Tt,Tt,Tt,Tt,Tt,Tt,Tt,Tt,Tt,Tt,Tt,Tt,Tt,Tt,Tt,Ff,Ff]) 17 rfl (by kernel_rfl) rfl ?_
     refine TL.uset (k := 1) (i := i) rfl rfl rfl rfl rfl rfl us6sz35 (by omega) ?_
     refine TL.end_ ?_
     refine TX.held (fun _ _ => trivial) ?_
     refine TH.tk (listed' := #[Tt,Tt,Tt,Tt,Tt,Tt,Tt,Tt,Tt,Tt,Tt,Tt,Tt,Tt,Tt,Tt,Tt,Tt,Tt,Ff]) 18 rfl rfl rfl (gives_at (v := .pointer (some ⟨g, a + (q - (b - a)), none⟩)) rfl rfl rfl (fun w => at_row Try.underlying31 us6sz35 g _ _ (a + (q - (b - a))) (by omega) rfl w)) (fun _ _ => trivial) ?_
     refine TH.only' (listed' := #[Tt,Tt,Tt,Tt,Tt,Tt,Tt,Tt,Tt,Tt,Tt,Tt,Tt,Tt,Tt,Tt,Tt,Tt,Tt,Tt]) 19 rfl (by kernel_rfl) rfl ?_
     refine TL.uset (k := 1) (i := a + (q - (b - a))) rfl rfl rfl rfl rfl rfl us6sz35 (by rw [List.length_set]; omega) ?_
     refine TL.end_ ?_
     refine TX.held (fun _ _ => trivial) ?_
     refine TH.done (by kernel_rfl) ?_
     refine TX.in_normal (TX.then_ (TC.region ?_))
     refine TL.mv ?_
     refine TL.val rfl rfl rfl (gives_bin rfl rfl rfl (fun w => bin_add_ (r := ((i + 1 : Nat) : Int)) (by simp only [IntKind.wrap_i64]; omega) w)) ?_
     refine TL.as_ ?_
     refine TL.end_ ?_
     exact TX.round (⟨(i + 1, v, swp ys i (a + (q - (b - a)))), by dsimp only; omega, by dsimp only; omega, hP.swap (by omega) (by omega) (by omega) (by omega) (by omega), by rw [swp_len]; exact hly⟩) (by dsimp only; omega) ⟨rfl, rfl, rfl, rfl, rfl, rfl, rfl, trivial⟩ (fun w1 hw => hw)
    ·refine TL.val rfl rfl rfl (pm_loadU (k := 1) (i := i) rfl rfl us6ag35 rfl (by omega)) ?_
     refine TL.end_ ?_
     refine TX.held (fun _ _ => trivial) ?_
     refine TH.only' (listed' := #[Tt,Tt,Tt,Tt,Tt,Tt,Tt,Tt,Tt,Tt,Tt,Tt,Tt,Tt,Tt,Tt,Ff,Ff,Ff,Ff]) 11 rfl (by kernel_rfl) rfl ?_
     refine TL.val rfl rfl rfl (pm_loadU (k := 1) (i := a + (q - (b - a))) rfl rfl us6ag35 rfl (by omega)) ?_
     refine TL.end_ ?_
     refine TX.held (fun _ _ => trivial) ?_
     refine TH.tk (listed' := #[Tt,Tt,Tt,Tt,Tt,Tt,Tt,Tt,Tt,Tt,Tt,Tt,Tt,Tt,Tt,Tt,Tt,Ff,Ff,Ff]) 16 rfl rfl rfl (gives_at (v := .pointer (some ⟨g, i, none⟩)) rfl rfl rfl (fun w => at_row Try.underlying31 us6sz35 g _ _ i (by omega) rfl w)) (fun _ _ => trivial) ?_
     refine TH.only' (listed' := #[Tt,Tt,Tt,Tt,Tt,Tt,Tt,Tt,Tt,Tt,Tt,Tt,Tt,Tt,Tt,Tt,Tt,Tt,Ff,Ff]) 17 rfl (by kernel_rfl) rfl ?_
     refine TL.uset (k := 1) (i := i) rfl rfl rfl rfl rfl rfl us6sz35 (by omega) ?_
     refine TL.end_ ?_
     refine TX.held (fun _ _ => trivial) ?_
     refine TH.tk (listed' := #[Tt,Tt,Tt,Tt,Tt,Tt,Tt,Tt,Tt,Tt,Tt,Tt,Tt,Tt,Tt,Tt,Tt,Tt,Tt,Ff]) 18 rfl rfl rfl (gives_at (v := .pointer (some ⟨g, a + (q - (b - a)), none⟩)) rfl rfl rfl (fun w => at_row Try.underlying31 us6sz35 g _ _ (a + (q - (b - a))) (by omega) rfl w)) (fun _ _ => trivial) ?_
     refine TH.only' (listed' := #[Tt,Tt,Tt,Tt,Tt,Tt,Tt,Tt,Tt,Tt,Tt,Tt,Tt,Tt,Tt,Tt,Tt,Tt,Tt,Tt]) 19 rfl (by kernel_rfl) rfl ?_
     refine TL.uset (k := 1) (i := a + (q - (b - a))) rfl rfl rfl rfl rfl rfl us6sz35 (by rw [List.length_set]; omega) ?_
     refine TL.end_ ?_
     refine TX.held (fun _ _ => trivial) ?_
     refine TH.done (by kernel_rfl) ?_
     refine TX.in_normal (TX.then_ (TC.region ?_))
     refine TL.mv ?_
     refine TL.val rfl rfl rfl (gives_bin rfl rfl rfl (fun w => bin_add_ (r := ((i + 1 : Nat) : Int)) (by simp only [IntKind.wrap_i64]; omega) w)) ?_
     refine TL.as_ ?_
     refine TL.end_ ?_
     exact TX.round (⟨(i + 1, v, swp ys i (a + (q - (b - a)))), by dsimp only; omega, by dsimp only; omega, hP.swap (by omega) (by omega) (by omega) (by omega) (by omega), by rw [swp_len]; exact hly⟩) (by dsimp only; omega) ⟨rfl, rfl, rfl, rfl, rfl, rfl, rfl, trivial⟩ (fun w1 hw => hw)
   ·have q43 := of_decide_eq_false h43
    refine TL.end_ (TX.then_ (TC.condF rfl (TC.skip_ (TX.then_ ?_))))
    refine TC.held (ls := #[Ff,Ff,Ff,Ff,Ff,Ff,Ff,Ff,Ff,Ff,Ff,Ff,Ff,Ff,Ff,Ff,Ff,Ff,Ff,Ff]) (fun _ => True) (by kernel_rfl) rfl rfl (fun w hw => hw.drawn _) ?_
    refine TH.tk (listed' := #[Tt,Ff,Ff,Ff,Ff,Ff,Ff,Ff,Ff,Ff,Ff,Ff,Ff,Ff,Ff,Ff,Ff,Ff,Ff,Ff]) 0 rfl rfl rfl (gives_move rfl rfl) (fun _ _ => trivial) ?_
    refine TH.tk (listed' := #[Tt,Tt,Ff,Ff,Ff,Ff,Ff,Ff,Ff,Ff,Ff,Ff,Ff,Ff,Ff,Ff,Ff,Ff,Ff,Ff]) 1 rfl rfl rfl (gives_move rfl rfl) (fun _ _ => trivial) ?_
    refine TH.tk (listed' := #[Tt,Tt,Tt,Ff,Ff,Ff,Ff,Ff,Ff,Ff,Ff,Ff,Ff,Ff,Ff,Ff,Ff,Ff,Ff,Ff]) 2 rfl rfl rfl (gives_move rfl rfl) (fun _ _ => trivial) ?_
    refine TH.tk (listed' := #[Tt,Tt,Tt,Tt,Ff,Ff,Ff,Ff,Ff,Ff,Ff,Ff,Ff,Ff,Ff,Ff,Ff,Ff,Ff,Ff]) 3 rfl rfl rfl (gives_move rfl rfl) (fun _ _ => trivial) ?_
    refine TH.tk (listed' := #[Tt,Tt,Tt,Tt,Tt,Ff,Ff,Ff,Ff,Ff,Ff,Ff,Ff,Ff,Ff,Ff,Ff,Ff,Ff,Ff]) 4 rfl rfl rfl (gives_move rfl rfl) (fun _ _ => trivial) ?_
    refine TH.tk (listed' := #[Tt,Tt,Tt,Tt,Tt,Tt,Ff,Ff,Ff,Ff,Ff,Ff,Ff,Ff,Ff,Ff,Ff,Ff,Ff,Ff]) 5 rfl rfl rfl (gives_bin rfl rfl rfl (fun w => bin_add_ (r := ((a + q : Nat) : Int)) (by simp only [IntKind.wrap_i64]; omega) w)) (fun _ _ => trivial) ?_
    refine TH.tk (listed' := #[Tt,Tt,Tt,Tt,Tt,Tt,Tt,Ff,Ff,Ff,Ff,Ff,Ff,Ff,Ff,Ff,Ff,Ff,Ff,Ff]) 6 rfl rfl rfl (gives_move rfl rfl) (fun _ _ => trivial) ?_
    refine TH.tk (listed' := #[Tt,Tt,Tt,Tt,Tt,Tt,Tt,Tt,Ff,Ff,Ff,Ff,Ff,Ff,Ff,Ff,Ff,Ff,Ff,Ff]) 7 rfl rfl rfl (gives_move rfl rfl) (fun _ _ => trivial) ?_
    refine TH.tk (listed' := #[Tt,Tt,Tt,Tt,Tt,Tt,Tt,Tt,Tt,Ff,Ff,Ff,Ff,Ff,Ff,Ff,Ff,Ff,Ff,Ff]) 8 rfl rfl rfl (gives_move rfl rfl) (fun _ _ => trivial) ?_
    refine TH.tk (listed' := #[Tt,Tt,Tt,Tt,Tt,Tt,Tt,Tt,Tt,Tt,Ff,Ff,Ff,Ff,Ff,Ff,Ff,Ff,Ff,Ff]) 9 rfl rfl rfl (gives_bin rfl rfl rfl (fun w => bin_add_ (r := ((a + q : Nat) : Int)) (by simp only [IntKind.wrap_i64]; omega) w)) (fun _ _ => trivial) ?_
    refine TH.tk (listed' := #[Tt,Tt,Tt,Tt,Tt,Tt,Tt,Tt,Tt,Tt,Tt,Ff,Ff,Ff,Ff,Ff,Ff,Ff,Ff,Ff]) 10 rfl rfl rfl (gives_at (v := .pointer (some ⟨g, a + q, none⟩)) rfl rfl rfl (fun w => at_row Try.underlying31 us6sz35 g _ _ (a + q) (by omega) rfl w)) (fun _ _ => trivial) ?_
    refine TH.tk (listed' := #[Tt,Tt,Tt,Tt,Tt,Tt,Tt,Tt,Tt,Tt,Tt,Ff,Tt,Ff,Ff,Ff,Ff,Ff,Ff,Ff]) 12 rfl rfl rfl (gives_move rfl rfl) (fun _ _ => trivial) ?_
    refine TH.tk (listed' := #[Tt,Tt,Tt,Tt,Tt,Tt,Tt,Tt,Tt,Tt,Tt,Ff,Tt,Tt,Ff,Ff,Ff,Ff,Ff,Ff]) 13 rfl rfl rfl (gives_move rfl rfl) (fun _ _ => trivial) ?_
    refine TH.tk (listed' := #[Tt,Tt,Tt,Tt,Tt,Tt,Tt,Tt,Tt,Tt,Tt,Ff,Tt,Tt,Tt,Ff,Ff,Ff,Ff,Ff]) 14 rfl rfl rfl (gives_at (v := .pointer (some ⟨g, i, none⟩)) rfl rfl rfl (fun w => at_row Try.underlying31 us6sz35 g _ _ i (by omega) rfl w)) (fun _ _ => trivial) ?_
    refine TH.two' (listed1 := #[Tt,Tt,Tt,Tt,Tt,Tt,Tt,Tt,Tt,Tt,Tt,Tt,Tt,Tt,Tt,Ff,Ff,Ff,Ff,Ff]) (listed2 := #[Tt,Tt,Tt,Tt,Tt,Tt,Tt,Tt,Tt,Tt,Tt,Ff,Tt,Tt,Tt,Tt,Ff,Ff,Ff,Ff]) 11 15 rfl rfl (by kernel_rfl) rfl rfl ?_ ?_
    ·refine TL.val rfl rfl rfl (pm_loadU (k := 1) (i := a + q) rfl rfl us6ag35 rfl (by omega)) ?_
     refine TL.end_ ?_
     refine TX.held (fun _ _ => trivial) ?_
     refine TH.only' (listed' := #[Tt,Tt,Tt,Tt,Tt,Tt,Tt,Tt,Tt,Tt,Tt,Tt,Tt,Tt,Tt,Tt,Ff,Ff,Ff,Ff]) 15 rfl (by kernel_rfl) rfl ?_
     refine TL.val rfl rfl rfl (pm_loadU (k := 1) (i := i) rfl rfl us6ag35 rfl (by omega)) ?_
     refine TL.end_ ?_
     refine TX.held (fun _ _ => trivial) ?_
     refine TH.tk (listed' := #[Tt,Tt,Tt,Tt,Tt,Tt,Tt,Tt,Tt,Tt,Tt,Tt,Tt,Tt,Tt,Tt,Tt,Ff,Ff,Ff]) 16 rfl rfl rfl (gives_at (v := .pointer (some ⟨g, i, none⟩)) rfl rfl rfl (fun w => at_row Try.underlying31 us6sz35 g _ _ i (by omega) rfl w)) (fun _ _ => trivial) ?_
     refine TH.only' (listed' := #[Tt,Tt,Tt,Tt,Tt,Tt,Tt,Tt,Tt,Tt,Tt,Tt,Tt,Tt,Tt,Tt,Tt,Tt,Ff,Ff]) 17 rfl (by kernel_rfl) rfl ?_
     refine TL.uset (k := 1) (i := i) rfl rfl rfl rfl rfl rfl us6sz35 (by omega) ?_
     refine TL.end_ ?_
     refine TX.held (fun _ _ => trivial) ?_
     refine TH.tk (listed' := #[Tt,Tt,Tt,Tt,Tt,Tt,Tt,Tt,Tt,Tt,Tt,Tt,Tt,Tt,Tt,Tt,Tt,Tt,Tt,Ff]) 18 rfl rfl rfl (gives_at (v := .pointer (some ⟨g, a + q, none⟩)) rfl rfl rfl (fun w => at_row Try.underlying31 us6sz35 g _ _ (a + q) (by omega) rfl w)) (fun _ _ => trivial) ?_
     refine TH.only' (listed' := #[Tt,Tt,Tt,Tt,Tt,Tt,Tt,Tt,Tt,Tt,Tt,Tt,Tt,Tt,Tt,Tt,Tt,Tt,Tt,Tt]) 19 rfl (by kernel_rfl) rfl ?_
     refine TL.uset (k := 1) (i := a + q) rfl rfl rfl rfl rfl rfl us6sz35 (by rw [List.length_set]; omega) ?_
     refine TL.end_ ?_
     refine TX.held (fun _ _ => trivial) ?_
     refine TH.done (by kernel_rfl) ?_
     refine TX.in_normal (TX.then_ (TC.region ?_))
     refine TL.mv ?_
     refine TL.val rfl rfl rfl (gives_bin rfl rfl rfl (fun w => bin_add_ (r := ((i + 1 : Nat) : Int)) (by simp only [IntKind.wrap_i64]; omega) w)) ?_
     refine TL.as_ ?_
     refine TL.end_ ?_
     exact TX.round (⟨(i + 1, v, swp ys i (a + q)), by dsimp only; omega, by dsimp only; omega, hP.swap (by omega) (by omega) (by omega) (by omega) (by omega), by rw [swp_len]; exact hly⟩) (by dsimp only; omega) ⟨rfl, rfl, rfl, rfl, rfl, rfl, rfl, trivial⟩ (fun w1 hw => hw)
    ·refine TL.val rfl rfl rfl (pm_loadU (k := 1) (i := i) rfl rfl us6ag35 rfl (by omega)) ?_
     refine TL.end_ ?_
     refine TX.held (fun _ _ => trivial) ?_
     refine TH.only' (listed' := #[Tt,Tt,Tt,Tt,Tt,Tt,Tt,Tt,Tt,Tt,Tt,Tt,Tt,Tt,Tt,Tt,Ff,Ff,Ff,Ff]) 11 rfl (by kernel_rfl) rfl ?_
     refine TL.val rfl rfl rfl (pm_loadU (k := 1) (i := a + q) rfl rfl us6ag35 rfl (by omega)) ?_
     refine TL.end_ ?_
     refine TX.held (fun _ _ => trivial) ?_
     refine TH.tk (listed' := #[Tt,Tt,Tt,Tt,Tt,Tt,Tt,Tt,Tt,Tt,Tt,Tt,Tt,Tt,Tt,Tt,Tt,Ff,Ff,Ff]) 16 rfl rfl rfl (gives_at (v := .pointer (some ⟨g, i, none⟩)) rfl rfl rfl (fun w => at_row Try.underlying31 us6sz35 g _ _ i (by omega) rfl w)) (fun _ _ => trivial) ?_
     refine TH.only' (listed' := #[Tt,Tt,Tt,Tt,Tt,Tt,Tt,Tt,Tt,Tt,Tt,Tt,Tt,Tt,Tt,Tt,Tt,Tt,Ff,Ff]) 17 rfl (by kernel_rfl) rfl ?_
     refine TL.uset (k := 1) (i := i) rfl rfl rfl rfl rfl rfl us6sz35 (by omega) ?_
     refine TL.end_ ?_
     refine TX.held (fun _ _ => trivial) ?_
     refine TH.tk (listed' := #[Tt,Tt,Tt,Tt,Tt,Tt,Tt,Tt,Tt,Tt,Tt,Tt,Tt,Tt,Tt,Tt,Tt,Tt,Tt,Ff]) 18 rfl rfl rfl (gives_at (v := .pointer (some ⟨g, a + q, none⟩)) rfl rfl rfl (fun w => at_row Try.underlying31 us6sz35 g _ _ (a + q) (by omega) rfl w)) (fun _ _ => trivial) ?_
     refine TH.only' (listed' := #[Tt,Tt,Tt,Tt,Tt,Tt,Tt,Tt,Tt,Tt,Tt,Tt,Tt,Tt,Tt,Tt,Tt,Tt,Tt,Tt]) 19 rfl (by kernel_rfl) rfl ?_
     refine TL.uset (k := 1) (i := a + q) rfl rfl rfl rfl rfl rfl us6sz35 (by rw [List.length_set]; omega) ?_
     refine TL.end_ ?_
     refine TX.held (fun _ _ => trivial) ?_
     refine TH.done (by kernel_rfl) ?_
     refine TX.in_normal (TX.then_ (TC.region ?_))
     refine TL.mv ?_
     refine TL.val rfl rfl rfl (gives_bin rfl rfl rfl (fun w => bin_add_ (r := ((i + 1 : Nat) : Int)) (by simp only [IntKind.wrap_i64]; omega) w)) ?_
     refine TL.as_ ?_
     refine TL.end_ ?_
     exact TX.round (⟨(i + 1, v, swp ys i (a + q)), by dsimp only; omega, by dsimp only; omega, hP.swap (by omega) (by omega) (by omega) (by omega) (by omega), by rw [swp_len]; exact hly⟩) (by dsimp only; omega) ⟨rfl, rfl, rfl, rfl, rfl, rfl, rfl, trivial⟩ (fun w1 hw => hw)
  ·have q33 := of_decide_eq_false h33
   refine TL.end_ (TX.then_ (TC.condF rfl (TC.exit_ (TX.then_exit (TX.then_exit (TX.in_same ?_))))))
   exact end_none Try.results64 (fun w1 hw => ⟨(), ys, rfl, hP, pm_rowAt hw (k := 1) rfl, hw.mapEnd (fun q hq => by simp [hq])⟩)
 ·have q15 := of_decide_eq_false h15
  refine TL.end_ (TX.then_ (TC.condF rfl (TC.skip_ ?_)))
  exact end_none Try.results64 (fun w1 hw => ⟨(), xs, rfl, Pin.refl _ _ _, pm_rowAt hw (k := 0) rfl, hw.mapEnd (fun q hq => by simp [hq])⟩)
end Go.Proofs.Ytleckflmckbheaa

namespace Go.Proofs.Ytleckflmckbheaa
open Go.RowKit
set_option maxRecDepth 20000
theorem Rw.lt {e : TypeId} {w : World} {g n c : Nat} {xs : List Int} (h : Rw e w g n c xs) : g < w.heap.size := by
 obtain ⟨⟨o, ho⟩, _⟩ := h.obj
 exact (Array.getElem?_eq_some_iff.1 ho).1
theorem Rw.cell {e : TypeId} {w : World} {g n c : Nat} {xs : List Int} (h : Rw e w g n c xs) {i : Nat} (hi : i < n) : w.cell? ⟨g, i, none⟩ = some (.int .u32 (dx xs i)) :=
 pm_row (Pm.rowStart h) (k := 0) rfl (uv_at (by rw [h.len]; exact hi))
theorem us7sz35 (w : World) : (sizeOf 35).run Try.prog w = .ok 1 w := rfl
theorem us7ag35 (w : World) : (isAgg 35).run Try.prog w = .ok false w := rfl
theorem us7nm68 : (Try.f68.name == "runtime.NumGoroutine") = false := by decide
theorem us7bd68 : Try.f68.body.isNone = false := rfl
theorem us7ag3 (w : World) : (isAgg 3).run Try.prog w = .ok false w := rfl
theorem us7sz3 (w : World) : (sizeOf 3).run Try.prog w = .ok 1 w := rfl
theorem us7one_i64 {a0 : Int} : ∀ u ∈ [(.int .i64 a0 : Value)], u.oneCell' = true := by
 intro u hu
 rw [List.mem_singleton] at hu
 subst hu; rfl
theorem us7nm79 : (Try.f79.name == "runtime.NumGoroutine") = false := by decide
theorem us7bd79 : Try.f79.body.isNone = false := rfl
theorem us7nm77 : (Try.f77.name == "runtime.NumGoroutine") = false := by decide
theorem us7bd77 : Try.f77.body.isNone = false := rfl
theorem us7zv3 (w : World) : (zeroValue 3).run Try.prog w = .ok (.int .i64 0) w := rfl
theorem us7nm76 : (Try.f76.name == "runtime.NumGoroutine") = false := by decide
theorem us7bd76 : Try.f76.body.isNone = false := rfl
set_option maxHeartbeats 1000000 in
theorem order2_any (g n c : Nat) (xs : List Int) (w : World) (hd : ∀ i, i < n → w.cell? ⟨g, i, none⟩ = some (.int .u32 (dx xs i))) (hn : n ≤ 1000000) (a b lo hi : Nat) (ha : lo ≤ a ∧ a < hi) (hb : lo ≤ b ∧ b < hi) (hh : hi ≤ n) (gs : Nat) (s : Int) (hg : g < gs) (hs : Blk w gs 3 [.int .i64 s].toArray) :
  Calls Try.prog 79 #[.slice (some ⟨g, 0, none⟩) n c, .int .i64 ((a : Nat) : Int), .int .i64 ((b : Nat) : Int), .pointer (some ⟨gs, 0, none⟩)] w fun en w' => ∃ x : {y : Nat × Nat × Int // lo ≤ y.1 ∧ y.1 < hi ∧ lo ≤ y.2.1 ∧ y.2.1 < hi}, en = .returned (.tuple #[.int .i64 ((x.1.1 : Nat) : Int), .int .i64 ((x.1.2.1 : Nat) : Int)]) ∧ Chg gs 3 [.int .i64 x.1.2.2] w [] w' := by
 refine begin_ (vs := [.slice (some ⟨g, 0, none⟩) n c, .int .i64 ((a : Nat) : Int), .int .i64 ((b : Nat) : Int), .pointer (some ⟨gs, 0, none⟩)]) (I := Pm ⟨w, gs⟩ (.blk gs 3 [.int .i64 s] :: oths gs w)) Try.func79 rfl rfl rfl ?_ (Pm.atBlk hs)
 refine TC.seq_ (TC.region ?_)
 refine TL.as_ ?_
 refine TL.as_ ?_
 refine TL.end_ (TX.then_ (TC.seq_ (TC.seq_ ?_)))
 rcases Classical.em (dx xs b < dx xs a) with p1 | p1
 ·refine TC.quiet_ (E' := ?_) (by kernel_rfl) (by kernel_rfl) (fun w hw => hw.drawn _) ?_ ?_
  rotate_left
  ·refine TQ.val rfl rfl rfl (gives_move rfl rfl) ?_
   refine TQ.val rfl rfl rfl (gives_move rfl rfl) ?_
   refine TQ.val rfl rfl rfl (gives_at (v := .pointer (some ⟨g, b, none⟩)) rfl rfl rfl (fun w => at_row Try.underlying31 us7sz35 g _ _ b (by omega) rfl w)) ?_
   refine TQ.val rfl rfl rfl (gives_load (v := .int .u32 (dx xs b)) rfl rfl us7ag35 (fun w1 hw => (hw.bel.cell hg).trans (hd b (by omega)))) ?_
   refine TQ.val rfl rfl rfl (gives_move rfl rfl) ?_
   refine TQ.val rfl rfl rfl (gives_move rfl rfl) ?_
   refine TQ.val rfl rfl rfl (gives_at (v := .pointer (some ⟨g, a, none⟩)) rfl rfl rfl (fun w => at_row Try.underlying31 us7sz35 g _ _ a (by omega) rfl w)) ?_
   refine TQ.val rfl rfl rfl (gives_load (v := .int .u32 (dx xs a)) rfl rfl us7ag35 (fun w1 hw => (hw.bel.cell hg).trans (hd a (by omega)))) ?_
   refine TQ.call (v := .bool true) rfl rfl rfl rfl rfl Try.func68 us7nm68 us7bd68 (fun w1 hw => (less_t _ _ p1 w1).mono fun en w2 ⟨h1, h2⟩ => ⟨h1, hw.below h2⟩) ?_
   exact TQ.end_
  refine TX.then_ (TC.condT rfl (TC.seq_ (TC.region ?_)))
  refine TL.mv ?_
  refine TL.val rfl rfl rfl (gives_nilCheck rfl rfl) ?_
  refine TL.val rfl rfl rfl (pm_load (k := 0) (i := 0) rfl rfl us7ag3 rfl rfl) ?_
  refine TL.val rfl rfl rfl (gives_bin rfl rfl rfl (fun w => bin_add_ (r := IntKind.i64.wrap (s + 1)) (rfl) w)) ?_
  refine TL.val rfl rfl rfl (gives_nilCheck rfl rfl) ?_
  refine TL.pstore (k := 0) (vs := [.int .i64 (IntKind.i64.wrap (s + 1))]) rfl rfl rfl rfl rfl rfl rfl us7sz3 us7one_i64 (by show 1 ≤ 1; decide) (L' := ([.blk gs 3 [.int .i64 (IntKind.i64.wrap (s + 1))]] ++ oths gs w)) rfl ?_
  refine TL.end_ (TX.then_ (TC.seq_ (TC.region ?_)))
  iterate 4 (first | refine TL.mv ?_ | refine TL.as_ ?_)
  refine TL.end_ (TX.then_ (TC.ret_ (TX.then_ret ?_)))
  exact ret_pair Try.results79 rfl rfl (fun w1 hw => ⟨⟨(b, a, IntKind.i64.wrap (s + 1)), by dsimp only; omega⟩, rfl, Pm.chg [] hw rfl⟩)
 ·refine TC.quiet_ (E' := ?_) (by kernel_rfl) (by kernel_rfl) (fun w hw => hw.drawn _) ?_ ?_
  rotate_left
  ·refine TQ.val rfl rfl rfl (gives_move rfl rfl) ?_
   refine TQ.val rfl rfl rfl (gives_move rfl rfl) ?_
   refine TQ.val rfl rfl rfl (gives_at (v := .pointer (some ⟨g, b, none⟩)) rfl rfl rfl (fun w => at_row Try.underlying31 us7sz35 g _ _ b (by omega) rfl w)) ?_
   refine TQ.val rfl rfl rfl (gives_load (v := .int .u32 (dx xs b)) rfl rfl us7ag35 (fun w1 hw => (hw.bel.cell hg).trans (hd b (by omega)))) ?_
   refine TQ.val rfl rfl rfl (gives_move rfl rfl) ?_
   refine TQ.val rfl rfl rfl (gives_move rfl rfl) ?_
   refine TQ.val rfl rfl rfl (gives_at (v := .pointer (some ⟨g, a, none⟩)) rfl rfl rfl (fun w => at_row Try.underlying31 us7sz35 g _ _ a (by omega) rfl w)) ?_
   refine TQ.val rfl rfl rfl (gives_load (v := .int .u32 (dx xs a)) rfl rfl us7ag35 (fun w1 hw => (hw.bel.cell hg).trans (hd a (by omega)))) ?_
   refine TQ.call (v := .bool false) rfl rfl rfl rfl rfl Try.func68 us7nm68 us7bd68 (fun w1 hw => (less_f _ _ p1 w1).mono fun en w2 ⟨h1, h2⟩ => ⟨h1, hw.below h2⟩) ?_
   exact TQ.end_
  refine TX.then_ (TC.condF rfl (TC.skip_ (TX.then_ (TC.seq_ (TC.region ?_)))))
  iterate 4 (first | refine TL.mv ?_ | refine TL.as_ ?_)
  refine TL.end_ (TX.then_ (TC.ret_ ?_))
  exact ret_pair Try.results79 rfl rfl (fun w1 hw => ⟨⟨(a, b, s), by dsimp only; omega⟩, rfl, Pm.chg [] hw rfl⟩)
set_option maxHeartbeats 1000000 in
theorem med_any (g n c : Nat) (xs : List Int) (w : World) (hd : ∀ i, i < n → w.cell? ⟨g, i, none⟩ = some (.int .u32 (dx xs i))) (hn : n ≤ 1000000) (a b e lo hi : Nat) (ha : lo ≤ a ∧ a < hi) (hb : lo ≤ b ∧ b < hi) (he : lo ≤ e ∧ e < hi) (hh : hi ≤ n) (gs : Nat) (s : Int) (hg : g < gs) (hs : Blk w gs 3 [.int .i64 s].toArray) :
  Calls Try.prog 77 #[.slice (some ⟨g, 0, none⟩) n c, .int .i64 ((a : Nat) : Int), .int .i64 ((b : Nat) : Int), .int .i64 ((e : Nat) : Int), .pointer (some ⟨gs, 0, none⟩)] w fun en w' => ∃ x : {y : Nat × Nat × Int // lo ≤ y.1 ∧ y.1 < hi ∧ lo ≤ y.2.1 ∧ y.2.1 < hi}, en = .returned (.int .i64 ((x.1.1 : Nat) : Int)) ∧ Chg gs 3 [.int .i64 x.1.2.2] w [] w' := by
 refine begin_ (vs := [.slice (some ⟨g, 0, none⟩) n c, .int .i64 ((a : Nat) : Int), .int .i64 ((b : Nat) : Int), .int .i64 ((e : Nat) : Int), .pointer (some ⟨gs, 0, none⟩)]) (I := Pm ⟨w, gs⟩ (.blk gs 3 [.int .i64 s] :: oths gs w)) Try.func77 rfl rfl rfl ?_ (Pm.atBlk hs)
 refine TC.seq_ (TC.region ?_)
 refine TL.as_ ?_
 refine TL.end_ (TX.then_ (TC.seq_ (TC.region ?_)))
 iterate 4 (first | refine TL.mv ?_)
 refine TL.pcallChg (k := 0) (α := {y : Nat × Nat × Int // lo ≤ y.1 ∧ y.1 < hi ∧ lo ≤ y.2.1 ∧ y.2.1 < hi}) (fun y => .tuple #[.int .i64 ((y.1.1 : Nat) : Int), .int .i64 ((y.1.2.1 : Nat) : Int)]) (fun y => [.int .i64 y.1.2.2]) (fun y => []) rfl rfl rfl rfl rfl Try.func79 us7nm79 us7bd79 rfl (fun w1 hw => order2_any g n c xs w1 (fun i hi => (hw.bel.cell hg).trans (hd i hi)) hn a b lo hi (by omega) (by omega) hh gs _ hg (hw.at_ (k := 0) rfl).1) ?_
 rintro ⟨⟨a1, b1, s1⟩, hx1⟩
 dsimp only [List.cons_append, List.nil_append, List.set]
 dsimp only at hx1
 iterate 5 (first | refine TL.as_ ?_ | refine TL.ex ?_ | refine TL.mv ?_)
 refine TL.end_ (TX.then_ (TC.seq_ (TC.region ?_)))
 iterate 4 (first | refine TL.mv ?_)
 refine TL.pcallChg (k := 0) (α := {y : Nat × Nat × Int // lo ≤ y.1 ∧ y.1 < hi ∧ lo ≤ y.2.1 ∧ y.2.1 < hi}) (fun y => .tuple #[.int .i64 ((y.1.1 : Nat) : Int), .int .i64 ((y.1.2.1 : Nat) : Int)]) (fun y => [.int .i64 y.1.2.2]) (fun y => []) rfl rfl rfl rfl rfl Try.func79 us7nm79 us7bd79 rfl (fun w1 hw => order2_any g n c xs w1 (fun i hi => (hw.bel.cell hg).trans (hd i hi)) hn b1 e lo hi (by omega) (by omega) hh gs _ hg (hw.at_ (k := 0) rfl).1) ?_
 rintro ⟨⟨b2, c2, s2⟩, hx2⟩
 dsimp only [List.cons_append, List.nil_append, List.set]
 dsimp only at hx2
 iterate 5 (first | refine TL.as_ ?_ | refine TL.ex ?_ | refine TL.mv ?_)
 refine TL.end_ (TX.then_ (TC.seq_ (TC.region ?_)))
 iterate 4 (first | refine TL.mv ?_)
 refine TL.pcallChg (k := 0) (α := {y : Nat × Nat × Int // lo ≤ y.1 ∧ y.1 < hi ∧ lo ≤ y.2.1 ∧ y.2.1 < hi}) (fun y => .tuple #[.int .i64 ((y.1.1 : Nat) : Int), .int .i64 ((y.1.2.1 : Nat) : Int)]) (fun y => [.int .i64 y.1.2.2]) (fun y => []) rfl rfl rfl rfl rfl Try.func79 us7nm79 us7bd79 rfl (fun w1 hw => order2_any g n c xs w1 (fun i hi => (hw.bel.cell hg).trans (hd i hi)) hn a1 b2 lo hi (by omega) (by omega) hh gs _ hg (hw.at_ (k := 0) rfl).1) ?_
 rintro ⟨⟨a3, b3, s3⟩, hx3⟩
 dsimp only [List.cons_append, List.nil_append, List.set]
 dsimp only at hx3
 iterate 5 (first | refine TL.as_ ?_ | refine TL.ex ?_ | refine TL.mv ?_)
 refine TL.end_ (TX.then_ (TC.seq_ (TC.region ?_)))
 refine TL.mv ?_
 refine TL.as_ ?_
 refine TL.end_ (TX.then_ (TC.ret_ ?_))
 exact ret_tmp Try.results77 rfl (fun w1 hw => ⟨⟨(b3, b3, s3), by dsimp only; omega⟩, rfl, Pm.chg [] hw rfl⟩)
set_option maxHeartbeats 1000000 in
theorem madj_any (g n c : Nat) (xs : List Int) (w : World) (hd : ∀ i, i < n → w.cell? ⟨g, i, none⟩ = some (.int .u32 (dx xs i))) (hn : n ≤ 1000000) (a lo hi : Nat) (ha : lo < a ∧ a + 1 < hi) (hh : hi ≤ n) (gs : Nat) (s : Int) (hg : g < gs) (hs : Blk w gs 3 [.int .i64 s].toArray) :
  Calls Try.prog 76 #[.slice (some ⟨g, 0, none⟩) n c, .int .i64 ((a : Nat) : Int), .pointer (some ⟨gs, 0, none⟩)] w fun en w' => ∃ x : {y : Nat × Nat × Int // lo ≤ y.1 ∧ y.1 < hi ∧ lo ≤ y.2.1 ∧ y.2.1 < hi}, en = .returned (.int .i64 ((x.1.1 : Nat) : Int)) ∧ Chg gs 3 [.int .i64 x.1.2.2] w [] w' := by
 refine begin_ (vs := [.slice (some ⟨g, 0, none⟩) n c, .int .i64 ((a : Nat) : Int), .pointer (some ⟨gs, 0, none⟩)]) (I := Pm ⟨w, gs⟩ (.blk gs 3 [.int .i64 s] :: oths gs w)) Try.func76 rfl rfl rfl ?_ (Pm.atBlk hs)
 refine TC.seq_ (TC.region ?_)
 refine TL.as_ ?_
 refine TL.end_ (TX.then_ (TC.seq_ (TC.region ?_)))
 refine TL.mv ?_
 refine TL.mv ?_
 refine TL.val rfl rfl rfl (gives_bin rfl rfl rfl (fun w => bin_sub_ (r := ((a - 1 : Nat) : Int)) (by simp only [IntKind.wrap_i64]; omega) w)) ?_
 refine TL.mv ?_
 refine TL.mv ?_
 refine TL.val rfl rfl rfl (gives_bin rfl rfl rfl (fun w => bin_add_ (r := ((a + 1 : Nat) : Int)) (by simp only [IntKind.wrap_i64]; omega) w)) ?_
 refine TL.mv ?_
 refine TL.pcallChg (k := 0) (α := {y : Nat × Nat × Int // lo ≤ y.1 ∧ y.1 < hi ∧ lo ≤ y.2.1 ∧ y.2.1 < hi}) (fun y => .int .i64 ((y.1.1 : Nat) : Int)) (fun y => [.int .i64 y.1.2.2]) (fun y => []) rfl rfl rfl rfl rfl Try.func77 us7nm77 us7bd77 rfl (fun w1 hw => med_any g n c xs w1 (fun i hi => (hw.bel.cell hg).trans (hd i hi)) hn (a - 1) a (a + 1) lo hi (by omega) (by omega) (by omega) (by omega) gs _ hg (hw.at_ (k := 0) rfl).1) ?_
 rintro ⟨⟨m, zm, sm⟩, hxm⟩
 dsimp only [List.cons_append, List.nil_append, List.set]
 dsimp only at hxm
 refine TL.as_ ?_
 refine TL.end_ (TX.then_ (TC.ret_ ?_))
 exact ret_tmp Try.results76 rfl (fun w1 hw => ⟨⟨(m, m, sm), by dsimp only; omega⟩, rfl, Pm.chg [] hw rfl⟩)
set_option maxHeartbeats 1000000 in
theorem cho_any (g n c : Nat) (xs : List Int) (w : World) (h : Rw 35 w g n c xs) (hn : n ≤ 1000000) (a b : Nat) (hab : a + 12 < b) (hb : b ≤ n) :
  Calls Try.prog 65 #[.slice (some ⟨g, 0, none⟩) n c, .int .i64 ((a : Nat) : Int), .int .i64 ((b : Nat) : Int)] w fun en w' => ∃ x : {y : Nat × Int // a ≤ y.1 ∧ y.1 < b}, en = .returned (.tuple #[.int .i64 ((x.1.1 : Nat) : Int), .int .i64 x.1.2]) ∧ Below w.heap.size w w' := by
 have hg0 := h.lt
 have hd : ∀ i, i < n → w.cell? ⟨g, i, none⟩ = some (.int .u32 (dx xs i)) := fun i hi => h.cell hi
 refine begin_ (vs := [.slice (some ⟨g, 0, none⟩) n c, .int .i64 ((a : Nat) : Int), .int .i64 ((b : Nat) : Int)]) Try.func65 rfl rfl rfl ?_ (Pm.start w)
 refine TC.seq_ (TC.region ?_)
 refine TL.as_ ?_
 refine TL.as_ ?_
 refine TL.end_ (TX.then_ (TC.seq_ (TC.region ?_)))
 refine TL.mv ?_
 refine TL.mv ?_
 refine TL.val rfl rfl rfl (gives_bin rfl rfl rfl (fun w => bin_sub_ (r := ((b - a : Nat) : Int)) (by simp only [IntKind.wrap_i64]; omega) w)) ?_
 refine TL.as_ ?_
 refine TL.end_ (TX.then_ (TC.seq_ (TC.region ?_)))
 refine TL.pnew rfl rfl rfl (exec_alloc (cs := [.int .i64 0]) rfl us7zv3 rfl) (fun g9 => ?_)
 refine TL.end_ (TX.then_ (TC.seq_ (TC.region ?_)))
 refine TL.mv ?_
 refine TL.mv ?_
 refine TL.val rfl rfl rfl (gives_bin rfl rfl rfl (fun w => bin_quoi_ (r := (((b - a) / 4 : Nat) : Int)) (by omega) (by omega) (by omega) (by omega) w)) ?_
 refine TL.val rfl rfl rfl (gives_bin rfl rfl rfl (fun w => bin_mul_ (r := (((b - a) / 4 : Nat) : Int)) (by simp only [IntKind.wrap_i64]; omega) w)) ?_
 refine TL.val rfl rfl rfl (gives_bin rfl rfl rfl (fun w => bin_add_ (r := ((a + ((b - a) / 4) : Nat) : Int)) (by simp only [IntKind.wrap_i64]; omega) w)) ?_
 refine TL.as_ ?_
 refine TL.end_ (TX.then_ (TC.seq_ (TC.region ?_)))
 refine TL.mv ?_
 refine TL.mv ?_
 refine TL.val rfl rfl rfl (gives_bin rfl rfl rfl (fun w => bin_quoi_ (r := (((b - a) / 4 : Nat) : Int)) (by omega) (by omega) (by omega) (by omega) w)) ?_
 refine TL.val rfl rfl rfl (gives_bin rfl rfl rfl (fun w => bin_mul_ (r := ((((b - a) / 4) * 2 : Nat) : Int)) (by simp only [IntKind.wrap_i64]; omega) w)) ?_
 refine TL.val rfl rfl rfl (gives_bin rfl rfl rfl (fun w => bin_add_ (r := ((a + (((b - a) / 4) * 2) : Nat) : Int)) (by simp only [IntKind.wrap_i64]; omega) w)) ?_
 refine TL.as_ ?_
 refine TL.end_ (TX.then_ (TC.seq_ (TC.region ?_)))
 refine TL.mv ?_
 refine TL.mv ?_
 refine TL.val rfl rfl rfl (gives_bin rfl rfl rfl (fun w => bin_quoi_ (r := (((b - a) / 4 : Nat) : Int)) (by omega) (by omega) (by omega) (by omega) w)) ?_
 refine TL.val rfl rfl rfl (gives_bin rfl rfl rfl (fun w => bin_mul_ (r := ((((b - a) / 4) * 3 : Nat) : Int)) (by simp only [IntKind.wrap_i64]; omega) w)) ?_
 refine TL.val rfl rfl rfl (gives_bin rfl rfl rfl (fun w => bin_add_ (r := ((a + (((b - a) / 4) * 3) : Nat) : Int)) (by simp only [IntKind.wrap_i64]; omega) w)) ?_
 refine TL.as_ ?_
 refine TL.end_ (TX.then_ (TC.seq_ (TC.seq_ (TC.region ?_))))
 refine TL.mv ?_
 refine TL.val rfl rfl rfl (gives_bin rfl rfl rfl (fun w => bin_geq_t (by omega) w)) ?_
 refine TL.end_ (TX.then_ (TC.condT rfl (TC.seq_ (TC.seq_ (TC.region ?_)))))
 refine TL.mv ?_
 refine TL.vsplit rfl rfl rfl (gives_bin rfl rfl rfl (fun w => bin_geq w)) (fun h34 => ?_) (fun h34 => ?_)
 ·have q34 := of_decide_eq_true h34
  refine TL.end_ (TX.then_ (TC.condT rfl (TC.seq_ (TC.region ?_))))
  refine TL.mv ?_
  refine TL.mv ?_
  refine TL.pcallChg (k := 0) (α := {y : Nat × Nat × Int // a ≤ y.1 ∧ y.1 < b ∧ a ≤ y.2.1 ∧ y.2.1 < b}) (fun y => .int .i64 ((y.1.1 : Nat) : Int)) (fun y => [.int .i64 y.1.2.2]) (fun y => []) rfl rfl rfl rfl rfl Try.func76 us7nm76 us7bd76 rfl (fun w1 hw => madj_any g n c xs w1 (fun i hi => (hw.bel.cell hg0).trans (hd i hi)) hn (a + ((b - a) / 4)) a b (by omega) hb g9 _ (Nat.lt_of_lt_of_le hg0 (hw.at_ (k := 0) rfl).2) (hw.at_ (k := 0) rfl).1) ?_
  rintro ⟨⟨i2, zi2, si2⟩, hxi2⟩
  dsimp only [List.cons_append, List.nil_append, List.set]
  dsimp only at hxi2
  refine TL.as_ ?_
  refine TL.end_ (TX.then_ (TC.seq_ (TC.region ?_)))
  refine TL.mv ?_
  refine TL.mv ?_
  refine TL.pcallChg (k := 0) (α := {y : Nat × Nat × Int // a ≤ y.1 ∧ y.1 < b ∧ a ≤ y.2.1 ∧ y.2.1 < b}) (fun y => .int .i64 ((y.1.1 : Nat) : Int)) (fun y => [.int .i64 y.1.2.2]) (fun y => []) rfl rfl rfl rfl rfl Try.func76 us7nm76 us7bd76 rfl (fun w1 hw => madj_any g n c xs w1 (fun i hi => (hw.bel.cell hg0).trans (hd i hi)) hn (a + (((b - a) / 4) * 2)) a b (by omega) hb g9 _ (Nat.lt_of_lt_of_le hg0 (hw.at_ (k := 0) rfl).2) (hw.at_ (k := 0) rfl).1) ?_
  rintro ⟨⟨j2, zj2, sj2⟩, hxj2⟩
  dsimp only [List.cons_append, List.nil_append, List.set]
  dsimp only at hxj2
  refine TL.as_ ?_
  refine TL.end_ (TX.then_ (TC.region ?_))
  refine TL.mv ?_
  refine TL.mv ?_
  refine TL.pcallChg (k := 0) (α := {y : Nat × Nat × Int // a ≤ y.1 ∧ y.1 < b ∧ a ≤ y.2.1 ∧ y.2.1 < b}) (fun y => .int .i64 ((y.1.1 : Nat) : Int)) (fun y => [.int .i64 y.1.2.2]) (fun y => []) rfl rfl rfl rfl rfl Try.func76 us7nm76 us7bd76 rfl (fun w1 hw => madj_any g n c xs w1 (fun i hi => (hw.bel.cell hg0).trans (hd i hi)) hn (a + (((b - a) / 4) * 3)) a b (by omega) hb g9 _ (Nat.lt_of_lt_of_le hg0 (hw.at_ (k := 0) rfl).2) (hw.at_ (k := 0) rfl).1) ?_
  rintro ⟨⟨k2, zk2, sk2⟩, hxk2⟩
  dsimp only [List.cons_append, List.nil_append, List.set]
  dsimp only at hxk2
  refine TL.as_ ?_
  refine TL.end_ (TX.then_ (TC.region ?_))
  iterate 4 (first | refine TL.mv ?_)
  refine TL.pcallChg (k := 0) (α := {y : Nat × Nat × Int // a ≤ y.1 ∧ y.1 < b ∧ a ≤ y.2.1 ∧ y.2.1 < b}) (fun y => .int .i64 ((y.1.1 : Nat) : Int)) (fun y => [.int .i64 y.1.2.2]) (fun y => []) rfl rfl rfl rfl rfl Try.func77 us7nm77 us7bd77 rfl (fun w1 hw => med_any g n c xs w1 (fun i hi => (hw.bel.cell hg0).trans (hd i hi)) hn i2 j2 k2 a b (by omega) (by omega) (by omega) (by omega) g9 _ (Nat.lt_of_lt_of_le hg0 (hw.at_ (k := 0) rfl).2) (hw.at_ (k := 0) rfl).1) ?_
  rintro ⟨⟨pv, zpv, spv⟩, hxpv⟩
  dsimp only [List.cons_append, List.nil_append, List.set]
  dsimp only at hxpv
  refine TL.as_ ?_
  refine TL.end_ (TX.then_ (TC.seq_ (TC.region ?_)))
  refine TL.val rfl rfl rfl (pm_load (k := 0) (i := 0) rfl rfl us7ag3 rfl rfl) ?_
  refine TL.end_ (TX.then_ (TC.block (TC.seq_ (TC.region ?_))))
  refine TL.vsplit rfl rfl rfl (gives_bin rfl rfl rfl (fun w => bin_eql w)) (fun h52 => ?_) (fun h52 => ?_)
  ·have q52 := of_decide_eq_true h52
   refine TL.as_ ?_
   refine TL.end_ (TX.then_ (TC.condT rfl (TC.seq_ (TC.region ?_))))
   refine TL.mv ?_
   refine TL.as_ ?_
   refine TL.as_ ?_
   refine TL.end_ (TX.then_ (TC.ret_ (TX.in_ret ?_)))
   exact ret_pair Try.results65 rfl rfl (fun w1 hw => ⟨⟨(pv, 1), by dsimp only; omega⟩, rfl, hw.bel⟩)
  ·have q52 := of_decide_eq_false h52
   refine TL.as_ ?_
   refine TL.end_ (TX.then_ (TC.condF rfl (TC.seq_ (TC.region ?_))))
   refine TL.vsplit rfl rfl rfl (gives_bin rfl rfl rfl (fun w => bin_eql w)) (fun h55 => ?_) (fun h55 => ?_)
   ·have q55 := of_decide_eq_true h55
    refine TL.as_ ?_
    refine TL.end_ (TX.then_ (TC.condT rfl (TC.seq_ (TC.region ?_))))
    refine TL.mv ?_
    refine TL.as_ ?_
    refine TL.as_ ?_
    refine TL.end_ (TX.then_ (TC.ret_ (TX.in_ret ?_)))
    exact ret_pair Try.results65 rfl rfl (fun w1 hw => ⟨⟨(pv, 2), by dsimp only; omega⟩, rfl, hw.bel⟩)
   ·have q55 := of_decide_eq_false h55
    refine TL.as_ ?_
    refine TL.end_ (TX.then_ (TC.condF rfl (TC.seq_ (TC.region ?_))))
    refine TL.mv ?_
    refine TL.as_ ?_
    refine TL.as_ ?_
    refine TL.end_ (TX.then_ (TC.ret_ (TX.in_ret ?_)))
    exact ret_pair Try.results65 rfl rfl (fun w1 hw => ⟨⟨(pv, 0), by dsimp only; omega⟩, rfl, hw.bel⟩)
 ·have q34 := of_decide_eq_false h34
  refine TL.end_ (TX.then_ (TC.condF rfl (TC.skip_ (TX.then_ (TC.region ?_)))))
  iterate 4 (first | refine TL.mv ?_)
  refine TL.pcallChg (k := 0) (α := {y : Nat × Nat × Int // a ≤ y.1 ∧ y.1 < b ∧ a ≤ y.2.1 ∧ y.2.1 < b}) (fun y => .int .i64 ((y.1.1 : Nat) : Int)) (fun y => [.int .i64 y.1.2.2]) (fun y => []) rfl rfl rfl rfl rfl Try.func77 us7nm77 us7bd77 rfl (fun w1 hw => med_any g n c xs w1 (fun i hi => (hw.bel.cell hg0).trans (hd i hi)) hn (a + ((b - a) / 4)) (a + (((b - a) / 4) * 2)) (a + (((b - a) / 4) * 3)) a b (by omega) (by omega) (by omega) (by omega) g9 _ (Nat.lt_of_lt_of_le hg0 (hw.at_ (k := 0) rfl).2) (hw.at_ (k := 0) rfl).1) ?_
  rintro ⟨⟨pv, zpv, spv⟩, hxpv⟩
  dsimp only [List.cons_append, List.nil_append, List.set]
  dsimp only at hxpv
  refine TL.as_ ?_
  refine TL.end_ (TX.then_ (TC.seq_ (TC.region ?_)))
  refine TL.val rfl rfl rfl (pm_load (k := 0) (i := 0) rfl rfl us7ag3 rfl rfl) ?_
  refine TL.end_ (TX.then_ (TC.block (TC.seq_ (TC.region ?_))))
  refine TL.vsplit rfl rfl rfl (gives_bin rfl rfl rfl (fun w => bin_eql w)) (fun h52 => ?_) (fun h52 => ?_)
  ·have q52 := of_decide_eq_true h52
   refine TL.as_ ?_
   refine TL.end_ (TX.then_ (TC.condT rfl (TC.seq_ (TC.region ?_))))
   refine TL.mv ?_
   refine TL.as_ ?_
   refine TL.as_ ?_
   refine TL.end_ (TX.then_ (TC.ret_ (TX.in_ret ?_)))
   exact ret_pair Try.results65 rfl rfl (fun w1 hw => ⟨⟨(pv, 1), by dsimp only; omega⟩, rfl, hw.bel⟩)
  ·have q52 := of_decide_eq_false h52
   refine TL.as_ ?_
   refine TL.end_ (TX.then_ (TC.condF rfl (TC.seq_ (TC.region ?_))))
   refine TL.vsplit rfl rfl rfl (gives_bin rfl rfl rfl (fun w => bin_eql w)) (fun h55 => ?_) (fun h55 => ?_)
   ·have q55 := of_decide_eq_true h55
    refine TL.as_ ?_
    refine TL.end_ (TX.then_ (TC.condT rfl (TC.seq_ (TC.region ?_))))
    refine TL.mv ?_
    refine TL.as_ ?_
    refine TL.as_ ?_
    refine TL.end_ (TX.then_ (TC.ret_ (TX.in_ret ?_)))
    exact ret_pair Try.results65 rfl rfl (fun w1 hw => ⟨⟨(pv, 2), by dsimp only; omega⟩, rfl, hw.bel⟩)
   ·have q55 := of_decide_eq_false h55
    refine TL.as_ ?_
    refine TL.end_ (TX.then_ (TC.condF rfl (TC.seq_ (TC.region ?_))))
    refine TL.mv ?_
    refine TL.as_ ?_
    refine TL.as_ ?_
    refine TL.end_ (TX.then_ (TC.ret_ (TX.in_ret ?_)))
    exact ret_pair Try.results65 rfl rfl (fun w1 hw => ⟨⟨(pv, 0), by dsimp only; omega⟩, rfl, hw.bel⟩)
end Go.Proofs.Ytleckflmckbheaa

namespace Go.Proofs.Ytleckflmckbheaa
open Go.RowKit
set_option maxRecDepth 20000
structure Inv (a b : Nat) (xs : List Int) (a1 b1 : Nat) (ys : List Int) : Prop where
 ha : a ≤ a1
 hb : b1 ≤ b
 ab : a1 ≤ b1
 bl : b ≤ ys.length
 per : Pin a b xs ys
 out : Out a b a1 b1 ys
 low : Low a1 b1 ys
theorem Inv.len {a b a1 b1 : Nat} {xs ys : List Int} (h : Inv a b xs a1 b1 ys) : ys.length = xs.length := h.per.len
theorem Inv.start {a b : Nat} {xs : List Int} (hab : a ≤ b) (hb : b ≤ xs.length) (hL : Low a b xs) : Inv a b xs a b xs := ⟨Nat.le_refl _, Nat.le_refl _, hab, hb, Pin.refl _ _ _, Out.start _ _ _, hL⟩
theorem Inv.pin {a b a1 b1 : Nat} {xs ys zs : List Int} (h : Inv a b xs a1 b1 ys) (hp : Pin a1 b1 ys zs) : Inv a b xs a1 b1 zs := ⟨h.ha, h.hb, h.ab, by rw [hp.len]; exact h.bl, h.per.trans (hp.mono h.ha h.hb), h.out.pin h.ha h.hb hp, h.low.pin hp⟩
theorem Inv.eqs {a b a1 b1 m : Nat} {xs ys : List Int} (h : Inv a b xs a1 b1 ys) (he : Eqs a1 b1 m ys) (hm : Mn a1 b1 ys) : Inv a b xs m b1 ys := ⟨Nat.le_trans h.ha (Nat.le_of_lt he.hm.1), h.hb, he.hm.2, h.bl, h.per, h.out.eqs he hm, he.low⟩
theorem Inv.left {a b a1 b1 m : Nat} {xs ys zs : List Int} (h : Inv a b xs a1 b1 ys) (hm : Mid a1 b1 m ys) (hp : Pin a1 m ys zs) (hs : Srt a1 m zs) : Inv a b xs (m + 1) b1 zs :=
 have h1 := hm.hm; have h2 := h.ha; have h3 := h.hb
 ⟨by omega, h.hb, by omega, by rw [hp.len]; exact h.bl, h.per.trans (hp.mono h.ha (by omega)), h.out.left h.ha h.hb hm hp hs, Low.right hm hp⟩
theorem Inv.right {a b a1 b1 m : Nat} {xs ys zs : List Int} (h : Inv a b xs a1 b1 ys) (hm : Mid a1 b1 m ys) (hp : Pin (m + 1) b1 ys zs) (hs : Srt (m + 1) b1 zs) : Inv a b xs a1 m zs :=
 have h1 := hm.hm; have h2 := h.ha; have h3 := h.hb
 ⟨h.ha, by omega, h1.1, by rw [hp.len]; exact h.bl, h.per.trans (hp.mono (by omega) h.hb), h.out.right h.ha h.hb hm hp hs, h.low.left (by omega) hp h1.1⟩
theorem Inv.done {a b a1 b1 : Nat} {xs ys : List Int} (h : Inv a b xs a1 b1 ys) (hs : Srt a1 b1 ys) : Srt a b ys := h.out.done hs
theorem us8nm62 : (Try.f62.name == "runtime.NumGoroutine") = false := by decide
theorem us8bd62 : Try.f62.body.isNone = false := rfl
theorem us8nm63 : (Try.f63.name == "runtime.NumGoroutine") = false := by decide
theorem us8bd63 : Try.f63.body.isNone = false := rfl
theorem us8nm64 : (Try.f64.name == "runtime.NumGoroutine") = false := by decide
theorem us8bd64 : Try.f64.body.isNone = false := rfl
theorem us8nm65 : (Try.f65.name == "runtime.NumGoroutine") = false := by decide
theorem us8bd65 : Try.f65.body.isNone = false := rfl
theorem us8nm66 : (Try.f66.name == "runtime.NumGoroutine") = false := by decide
theorem us8bd66 : Try.f66.body.isNone = false := rfl
theorem us8nm67 : (Try.f67.name == "runtime.NumGoroutine") = false := by decide
theorem us8bd67 : Try.f67.body.isNone = false := rfl
theorem us8nm70 : (Try.f70.name == "runtime.NumGoroutine") = false := by decide
theorem us8bd70 : Try.f70.body.isNone = false := rfl
theorem us8nm58 : (Try.f58.name == "runtime.NumGoroutine") = false := by decide
theorem us8bd58 : Try.f58.body.isNone = false := rfl
theorem us8sz35 (w : World) : (sizeOf 35).run Try.prog w = .ok 1 w := rfl
theorem us8ag35 (w : World) : (isAgg 35).run Try.prog w = .ok false w := rfl
theorem us8nm68 : (Try.f68.name == "runtime.NumGoroutine") = false := by decide
theorem us8bd68 : Try.f68.body.isNone = false := rfl
theorem us8nm69 : (Try.f69.name == "runtime.NumGoroutine") = false := by decide
theorem us8bd69 : Try.f69.body.isNone = false := rfl
set_option maxHeartbeats 1000000 in
theorem pdq_ind (g n c : Nat) (hn : n ≤ 1000000) : ∀ (M a b lim : Nat) (xs : List Int) (w : World), Rw 35 w g n c xs → a ≤ b → b ≤ n → Low a b xs → lim ≤ 1000 → b - a < M →
  Calls Try.prog 58 #[.slice (some ⟨g, 0, none⟩) n c, .int .i64 ((a : Nat) : Int), .int .i64 ((b : Nat) : Int), .int .i64 ((lim : Nat) : Int)] w (RC (α := Unit) (fun _ => .tuple #[]) (fun _ ys => Pin a b xs ys ∧ Srt a b ys) 35 g n c w)
 | 0, a, b, lim, xs, w, h, hab, hb, hL, hlim, hM => absurd hM (Nat.not_lt_zero _)
 | M + 1, a, b, lim, xs, w, h, hab, hb, hL, hlim, hM => by
  have ih := fun a b lim xs w h hab hb hL hlim hM => pdq_ind g n c hn M a b lim xs w h hab hb hL hlim hM
  have hl := h.len
  refine begin_ (vs := [.slice (some ⟨g, 0, none⟩) n c, .int .i64 ((a : Nat) : Int), .int .i64 ((b : Nat) : Int), .int .i64 ((lim : Nat) : Int)]) (I := Pm ⟨wbut w g, g⟩ (.row (.slice (some ⟨g, 0, none⟩) n c) 35 1 n (uv xs) :: oths g w)) Try.func58 rfl rfl rfl ?_ (Pm.rowStart h)
  refine TC.seq_ (TC.region ?_)
  refine TL.as_ ?_
  refine TL.end_ (TX.then_ (TC.seq_ (TC.region ?_)))
  refine TL.as_ ?_
  refine TL.end_ (TX.then_ (TC.block ?_))
  refine TC.loop_ (α := {y : Nat × Nat × Nat × Bool × Bool × List Int // y.2.2.1 ≤ 1000 ∧ Inv a b xs y.1 y.2.1 y.2.2.2.2.2}) (fun y => [(0, .slice (some ⟨g, 0, none⟩) n c), (1, .int .i64 ((y.1.1 : Nat) : Int)), (2, .int .i64 ((y.1.2.1 : Nat) : Int)), (3, .int .i64 ((y.1.2.2.1 : Nat) : Int)), (8, .bool y.1.2.2.2.1), (9, .bool y.1.2.2.2.2.1)]) (fun y => Pm ⟨wbut w g, g⟩ ([.row (.slice (some ⟨g, 0, none⟩) n c) 35 1 n (uv y.1.2.2.2.2.2)] ++ oths g w)) (fun y => y.1.2.1 - y.1.1) (⟨(a, b, lim, true, true, xs), hlim, Inv.start hab (by omega) hL⟩) ⟨rfl, rfl, rfl, rfl, rfl, rfl, trivial⟩ (fun w1 hw => hw) ?_
  rintro ⟨⟨a1, b1, lim1, wb, wp, ys⟩, hlm, hi⟩
  dsimp only at hlm hi ⊢
  have hly := hi.len
  have hia := hi.ha
  have hib := hi.hb
  have hiab := hi.ab
  refine TC.block (TC.seq_ (TC.region ?_))
  refine TL.mv ?_
  refine TL.mv ?_
  refine TL.val rfl rfl rfl (gives_bin rfl rfl rfl (fun w => bin_sub_ (r := ((b1 - a1 : Nat) : Int)) (by simp only [IntKind.wrap_i64]; omega) w)) ?_
  refine TL.as_ ?_
  refine TL.end_ (TX.then_ (TC.seq_ (TC.seq_ (TC.region ?_))))
  refine TL.mv ?_
  refine TL.vsplit rfl rfl rfl (gives_bin rfl rfl rfl (fun w => bin_leq w)) (fun h23 => ?_) (fun h23 => ?_)
  ·have q23 := of_decide_eq_true h23
   refine TL.end_ (TX.then_ (TC.condT rfl (TC.seq_ (TC.region ?_))))
   refine TL.mv ?_
   refine TL.mv ?_
   refine TL.mv ?_
   refine TL.pcallRw (k := 0) (α := Unit) (fun _ => .tuple #[]) (fun _ zs => Pin a1 b1 ys zs ∧ Srt a1 b1 zs) rfl rfl rfl rfl rfl Try.func62 us8nm62 us8bd62 rfl (fun w1 hw hr1 => ins_any g n c ys w1 hr1 hn a1 b1 hi.ab (by have := hi.hb; omega)) ?_
   rintro ⟨⟩ zs ⟨hQ, hS⟩
   try dsimp only [List.set_cons_zero, List.set_cons_succ]
   refine TL.end_ (TX.then_ (TC.ret_ (TX.then_ret (TX.in_ret (TX.then_ret (TX.in_ret ?_))))))
   exact ret_none Try.results58 (fun w1 hw => ⟨(), zs, rfl, ⟨(hi.pin hQ).per, (hi.pin hQ).done hS⟩, pm_rowAt hw (k := 0) rfl, hw.mapEnd (fun q hq => by simp [hq])⟩)
  ·have q23 := of_decide_eq_false h23
   refine TL.end_ (TX.then_ (TC.condF rfl (TC.skip_ (TX.then_ (TC.seq_ (TC.seq_ (TC.region ?_)))))))
   refine TL.mv ?_
   refine TL.vsplit rfl rfl rfl (gives_bin rfl rfl rfl (fun w => bin_eql w)) (fun h29 => ?_) (fun h29 => ?_)
   ·have q29 := of_decide_eq_true h29
    refine TL.end_ (TX.then_ (TC.condT rfl (TC.seq_ (TC.region ?_))))
    refine TL.mv ?_
    refine TL.mv ?_
    refine TL.mv ?_
    refine TL.pcallRw (k := 0) (α := Unit) (fun _ => .tuple #[]) (fun _ zs => Pin a1 b1 ys zs ∧ Srt a1 b1 zs) rfl rfl rfl rfl rfl Try.func63 us8nm63 us8bd63 rfl (fun w1 hw hr1 => heap_any g n c ys w1 hr1 hn a1 b1 (by omega) (by have := hi.hb; omega)) ?_
    rintro ⟨⟩ zs ⟨hQ, hS⟩
    try dsimp only [List.set_cons_zero, List.set_cons_succ]
    refine TL.end_ (TX.then_ (TC.ret_ (TX.then_ret (TX.in_ret (TX.then_ret (TX.in_ret ?_))))))
    exact ret_none Try.results58 (fun w1 hw => ⟨(), zs, rfl, ⟨(hi.pin hQ).per, (hi.pin hQ).done hS⟩, pm_rowAt hw (k := 0) rfl, hw.mapEnd (fun q hq => by simp [hq])⟩)
   ·have q29 := of_decide_eq_false h29
    refine TL.end_ (TX.then_ (TC.condF rfl (TC.skip_ (TX.then_ ?_))))
    refine TC.join (α := {y : Nat × List Int // y.1 ≤ 1000 ∧ Inv a b xs a1 b1 y.2}) (fun y => [(0, .slice (some ⟨g, 0, none⟩) n c), (1, .int .i64 ((a1 : Nat) : Int)), (2, .int .i64 ((b1 : Nat) : Int)), (8, .bool wb), (9, .bool wp), (10, .int .i64 ((b1 - a1 : Nat) : Int)), (3, .int .i64 ((y.1.1 : Nat) : Int))]) (fun y => Pm ⟨wbut w g, g⟩ ([.row (.slice (some ⟨g, 0, none⟩) n c) 35 1 n (uv y.1.2)] ++ oths g w)) ?_ ?_
    ·refine TC.seq_ (TC.region ?_)
     refine TL.vsplit rfl rfl rfl (gives_move rfl rfl) (fun h34 => ?_) (fun h34 => ?_)
     ·refine TL.val rfl rfl rfl (gives_boolnot rfl rfl) ?_
      refine TL.end_ (TX.then_ (TC.condF rfl (TC.skip_ ?_)))
      exact TX.joined (⟨(lim1, ys), by dsimp only; omega, hi⟩) (⟨rfl, rfl, rfl, rfl, rfl, rfl, rfl, trivial⟩) (fun w1 hw => hw)
     ·refine TL.val rfl rfl rfl (gives_boolnot rfl rfl) ?_
      refine TL.end_ (TX.then_ (TC.condT rfl (TC.seq_ (TC.region ?_))))
      refine TL.mv ?_
      refine TL.mv ?_
      refine TL.mv ?_
      refine TL.pcallRw (k := 0) (α := Unit) (fun _ => .tuple #[]) (fun _ zs => Pin a1 b1 ys zs) rfl rfl rfl rfl rfl Try.func64 us8nm64 us8bd64 rfl (fun w1 hw hr1 => brk_any g n c ys w1 hr1 hn a1 b1 hi.ab (by have := hi.hb; omega)) ?_
      rintro ⟨⟩ zs hQ
      try dsimp only [List.set_cons_zero, List.set_cons_succ]
      have hiz := hi.pin hQ
      refine TL.end_ (TX.then_ (TC.region ?_))
      refine TL.mv ?_
      refine TL.val rfl rfl rfl (gives_bin rfl rfl rfl (fun w => bin_sub_ (r := ((lim1 - 1 : Nat) : Int)) (by simp only [IntKind.wrap_i64]; omega) w)) ?_
      refine TL.as_ ?_
      refine TL.end_ ?_
      exact TX.joined (⟨(lim1 - 1, zs), by dsimp only; omega, hiz⟩) (⟨rfl, rfl, rfl, rfl, rfl, rfl, rfl, trivial⟩) (fun w1 hw => hw)
    ·rintro ⟨⟨lim1, us⟩, hlm, hu⟩
     dsimp only at hlm hu ⊢
     have hlu := hu.len
     refine TC.seq_ (TC.region ?_)
     refine TL.mv ?_
     refine TL.mv ?_
     refine TL.mv ?_
     refine TL.pcallPm (α := {y : Nat × Int // a1 ≤ y.1 ∧ y.1 < b1}) (fun y => .tuple #[.int .i64 ((y.1.1 : Nat) : Int), .int .i64 y.1.2]) (fun y => []) rfl rfl rfl rfl rfl Try.func65 us8nm65 us8bd65 (fun w1 hw => (cho_any g n c us w1 (pm_rowAt hw (k := 0) rfl) hn a1 b1 (by omega) (by have := hu.hb; omega)).mono fun e w2 ⟨x, h1, h2⟩ => ⟨x, h1, (Pm.start w1).below h2⟩) ?_
     rintro ⟨⟨pv, h⟩, hp1, hp2⟩
     dsimp only [List.cons_append, List.nil_append]
     dsimp only at hp1 hp2
     iterate 5 (first | refine TL.as_ ?_ | refine TL.ex ?_ | refine TL.mv ?_)
     refine TL.end_ (TX.then_ ?_)
     refine TC.join (α := {y : Nat × Int × List Int // (a1 ≤ y.1 ∧ y.1 < b1) ∧ Inv a b xs a1 b1 y.2.2}) (fun y => [(0, .slice (some ⟨g, 0, none⟩) n c), (1, .int .i64 ((a1 : Nat) : Int)), (2, .int .i64 ((b1 : Nat) : Int)), (8, .bool wb), (9, .bool wp), (10, .int .i64 ((b1 - a1 : Nat) : Int)), (3, .int .i64 ((lim1 : Nat) : Int)), (11, .int .i64 ((y.1.1 : Nat) : Int)), (12, .int .i64 y.1.2.1)]) (fun y => Pm ⟨wbut w g, g⟩ ([.row (.slice (some ⟨g, 0, none⟩) n c) 35 1 n (uv y.1.2.2)] ++ oths g w)) ?_ ?_
     ·refine TC.seq_ (TC.region ?_)
      refine TL.mv ?_
      refine TL.vsplit rfl rfl rfl (gives_bin rfl rfl rfl (fun w => bin_eql w)) (fun h50 => ?_) (fun h50 => ?_)
      ·have q50 := of_decide_eq_true h50
       refine TL.end_ (TX.then_ (TC.condT rfl (TC.seq_ (TC.region ?_))))
       refine TL.mv ?_
       refine TL.mv ?_
       refine TL.mv ?_
       refine TL.pcallRw (k := 0) (α := Unit) (fun _ => .tuple #[]) (fun _ zs => Pin a1 b1 us zs) rfl rfl rfl rfl rfl Try.func66 us8nm66 us8bd66 rfl (fun w1 hw hr1 => rev_any g n c us w1 hr1 hn a1 b1 (by omega) (by have := hu.hb; omega)) ?_
       rintro ⟨⟩ zs hQ
       try dsimp only [List.set_cons_zero, List.set_cons_succ]
       have hiz := hu.pin hQ
       refine TL.end_ (TX.then_ (TC.seq_ (TC.region ?_)))
       refine TL.mv ?_
       refine TL.val rfl rfl rfl (gives_bin rfl rfl rfl (fun w => bin_sub_ (r := ((b1 - 1 : Nat) : Int)) (by simp only [IntKind.wrap_i64]; omega) w)) ?_
       refine TL.mv ?_
       refine TL.mv ?_
       refine TL.val rfl rfl rfl (gives_bin rfl rfl rfl (fun w => bin_sub_ (r := ((pv - a1 : Nat) : Int)) (by simp only [IntKind.wrap_i64]; omega) w)) ?_
       refine TL.val rfl rfl rfl (gives_bin rfl rfl rfl (fun w => bin_sub_ (r := (((b1 - 1) - (pv - a1) : Nat) : Int)) (by simp only [IntKind.wrap_i64]; omega) w)) ?_
       refine TL.as_ ?_
       refine TL.end_ (TX.then_ (TC.region ?_))
       refine TL.as_ ?_
       refine TL.end_ ?_
       exact TX.joined (⟨((b1 - 1) - (pv - a1), 1, zs), by dsimp only; omega, hiz⟩) (⟨rfl, rfl, rfl, rfl, rfl, rfl, rfl, rfl, rfl, trivial⟩) (fun w1 hw => hw)
      ·have q50 := of_decide_eq_false h50
       refine TL.end_ (TX.then_ (TC.condF rfl (TC.skip_ ?_)))
       exact TX.joined (⟨(pv, h, us), by dsimp only; omega, hu⟩) (⟨rfl, rfl, rfl, rfl, rfl, rfl, rfl, rfl, rfl, trivial⟩) (fun w1 hw => hw)
     ·rintro ⟨⟨pw, h2, vs⟩, ⟨hp1, hp2⟩, hv⟩
      dsimp only at hp1 hp2 hv ⊢
      have hlv := hv.len
      refine TC.join (α := {y : List Int // Inv a b xs a1 b1 y}) (fun y => [(0, .slice (some ⟨g, 0, none⟩) n c), (1, .int .i64 ((a1 : Nat) : Int)), (2, .int .i64 ((b1 : Nat) : Int)), (8, .bool wb), (9, .bool wp), (10, .int .i64 ((b1 - a1 : Nat) : Int)), (3, .int .i64 ((lim1 : Nat) : Int)), (11, .int .i64 ((pw : Nat) : Int))]) (fun y => Pm ⟨wbut w g, g⟩ ([.row (.slice (some ⟨g, 0, none⟩) n c) 35 1 n (uv y.1)] ++ oths g w)) ?_ ?_
      ·refine TC.seq_ (TC.region ?_)
       refine TL.vsplit rfl rfl rfl (gives_move rfl rfl) (fun h61 => ?_) (fun h61 => ?_)
       ·refine TL.mv ?_
        refine TL.gu ?_
        refine TL.vsplit rfl rfl rfl (gives_move rfl rfl) (fun h63 => ?_) (fun h63 => ?_)
        ·iterate 5 (first | refine TL.gu ?_ | refine TL.mv ?_ | refine TL.pk ?_)
         refine TL.vsplit rfl rfl rfl (gives_bin rfl rfl rfl (fun w => bin_eql w)) (fun h67 => ?_) (fun h67 => ?_)
         ·have q67 := of_decide_eq_true h67
          refine TL.pk ?_
          refine TL.end_ (TX.then_ (TC.condT rfl (TC.seq_ (TC.region ?_))))
          refine TL.mv ?_
          refine TL.mv ?_
          refine TL.mv ?_
          refine TL.pcallRw (k := 0) (α := Bool) (fun x => .bool x) (fun x zs => Pin a1 b1 vs zs ∧ (x = true → Srt a1 b1 zs)) rfl rfl rfl rfl rfl Try.func67 us8nm67 us8bd67 rfl (fun w1 hw hr1 => pis_any g n c vs w1 hr1 hn a1 b1 (by omega) (by have := hv.hb; omega) hv.low) ?_
          rintro r zs ⟨hQ, hS⟩
          try dsimp only [List.set_cons_zero, List.set_cons_succ]
          have hiz := hv.pin hQ
          refine TL.end_ (TX.then_ ?_)
          refine TC.split (t := r) rfl (fun c72 => ?_) (fun c72 => ?_)
          ·refine TC.ret_ (TX.then_ret (TX.in_ret (TX.then_ret (TX.in_ret ?_))))
           exact ret_none Try.results58 (fun w1 hw => ⟨(), zs, rfl, ⟨(hv.pin hQ).per, (hv.pin hQ).done (hS c72)⟩, pm_rowAt hw (k := 0) rfl, hw.mapEnd (fun q hq => by simp [hq])⟩)
          ·refine TC.skip_ ?_
           exact TX.joined (⟨zs, hiz⟩) (⟨rfl, rfl, rfl, rfl, rfl, rfl, rfl, rfl, trivial⟩) (fun w1 hw => hw)
         ·have q67 := of_decide_eq_false h67
          refine TL.pk ?_
          refine TL.end_ (TX.then_ (TC.condF rfl (TC.skip_ ?_)))
          exact TX.joined (⟨vs, hv⟩) (⟨rfl, rfl, rfl, rfl, rfl, rfl, rfl, rfl, trivial⟩) (fun w1 hw => hw)
        ·iterate 5 (first | refine TL.of ?_ | refine TL.pk ?_ | refine TL.mv ?_)
         refine TL.end_ (TX.then_ (TC.condF rfl (TC.skip_ ?_)))
         exact TX.joined (⟨vs, hv⟩) (⟨rfl, rfl, rfl, rfl, rfl, rfl, rfl, rfl, trivial⟩) (fun w1 hw => hw)
       ·iterate 7 (first | refine TL.of ?_ | refine TL.mv ?_ | refine TL.pk ?_)
        refine TL.end_ (TX.then_ (TC.condF rfl (TC.skip_ ?_)))
        exact TX.joined (⟨vs, hv⟩) (⟨rfl, rfl, rfl, rfl, rfl, rfl, rfl, rfl, trivial⟩) (fun w1 hw => hw)
      ·rintro ⟨ts, hT⟩
       try dsimp only
       have hlt := hT.len
       refine TC.seq_ (TC.seq_ ?_)
       have hway : ¬ 0 < a1 ∨ (0 < a1 ∧ dx ts (a1 - 1) < dx ts pw) ∨ (0 < a1 ∧ ¬ dx ts (a1 - 1) < dx ts pw) := by omega
       rcases hway with p1 | ⟨p1, p2⟩ | ⟨p1, p2⟩
       ·have hTb := hT.hb
        refine TC.quiet_ (E' := ?_) (by kernel_rfl) (by kernel_rfl) (fun w hw => hw.drawn _) ?_ ?_
        rotate_left
        ·refine TQ.val rfl rfl rfl (gives_move rfl rfl) ?_
         refine TQ.val rfl rfl rfl (gives_bin rfl rfl rfl (fun w => bin_gtr_f (by omega) w)) ?_
         iterate 13 (first | refine TQ.off rfl rfl rfl rfl rfl rfl ?_ | refine TQ.val rfl rfl rfl (gives_move rfl rfl) ?_ | refine TQ.val rfl rfl rfl (gives_pick rfl rfl rfl) ?_)
         exact TQ.end_
        refine TX.then_ (TC.condF rfl (TC.skip_ (TX.then_ (TC.seq_ (TC.region ?_)))))
        iterate 4 (first | refine TL.mv ?_)
        refine TL.pcallRw (k := 0) (α := Nat × Bool) (fun x => .tuple #[.int .i64 ((x.1 : Nat) : Int), .bool x.2]) (fun x zs => Pin a1 b1 ts zs ∧ Mid a1 b1 x.1 zs) rfl rfl rfl rfl rfl Try.func70 us8nm70 us8bd70 rfl (fun w1 hw hr1 => part_any g n c ts w1 hr1 hn a1 b1 pw hp1 hp2 (by have := hT.hb; omega)) ?_
        rintro ⟨m, al⟩ zs ⟨hQ, hM⟩
        try dsimp only [List.set_cons_zero, List.set_cons_succ]
        dsimp only at hM
        have hiz := hT.pin hQ
        have hmm := hM.hm
        have hzl := hiz.len
        iterate 5 (first | refine TL.as_ ?_ | refine TL.ex ?_ | refine TL.mv ?_)
        refine TL.end_ (TX.then_ (TC.seq_ (TC.region ?_)))
        refine TL.mv ?_
        refine TL.as_ ?_
        refine TL.end_ (TX.then_ (TC.seq_ (TC.region ?_)))
        refine TL.mv ?_
        refine TL.mv ?_
        refine TL.val rfl rfl rfl (gives_bin rfl rfl rfl (fun w => bin_sub_ (r := ((m - a1 : Nat) : Int)) (by simp only [IntKind.wrap_i64]; omega) w)) ?_
        refine TL.mv ?_
        refine TL.mv ?_
        refine TL.val rfl rfl rfl (gives_bin rfl rfl rfl (fun w => bin_sub_ (r := ((b1 - m : Nat) : Int)) (by simp only [IntKind.wrap_i64]; omega) w)) ?_
        refine TL.as_ ?_
        refine TL.as_ ?_
        refine TL.end_ (TX.then_ (TC.seq_ (TC.region ?_)))
        refine TL.mv ?_
        refine TL.val rfl rfl rfl (gives_bin rfl rfl rfl (fun w => bin_quoi_ (r := (((b1 - a1) / 8 : Nat) : Int)) (by omega) (by omega) (by omega) (by omega) w)) ?_
        refine TL.as_ ?_
        refine TL.end_ (TX.then_ (TC.seq_ (TC.region ?_)))
        refine TL.mv ?_
        refine TL.mv ?_
        refine TL.vsplit rfl rfl rfl (gives_bin rfl rfl rfl (fun w => bin_lss w)) (fun h113 => ?_) (fun h113 => ?_)
        ·have q113 := of_decide_eq_true h113
         refine TL.end_ (TX.then_ (TC.condT rfl (TC.seq_ (TC.region ?_))))
         refine TL.mv ?_
         refine TL.mv ?_
         refine TL.val rfl rfl rfl (gives_bin rfl rfl rfl (fun w => bin_geq w)) ?_
         refine TL.as_ ?_
         refine TL.end_ (TX.then_ (TC.seq_ (TC.region ?_)))
         iterate 4 (first | refine TL.mv ?_)
         refine TL.pcallRw (k := 0) (α := Unit) (fun _ => .tuple #[]) (fun _ us => Pin a1 m zs us ∧ Srt a1 m us) rfl rfl rfl rfl rfl Try.func58 us8nm58 us8bd58 rfl (fun w1 hw hr1 => ih a1 m lim1 zs w1 hr1 (by omega) (by omega) (fun p q h1 h2 h3 => hiz.low p q h1 h2 (by omega)) hlm (by omega)) ?_
         rintro ⟨⟩ us ⟨hQ2, hS2⟩
         try dsimp only [List.set_cons_zero, List.set_cons_succ]
         have hix : Inv a b xs (m + 1) b1 us := hiz.left hM hQ2 hS2
         refine TL.end_ (TX.then_ (TC.region ?_))
         refine TL.mv ?_
         refine TL.val rfl rfl rfl (gives_bin rfl rfl rfl (fun w => bin_add_ (r := ((m + 1 : Nat) : Int)) (by simp only [IntKind.wrap_i64]; omega) w)) ?_
         refine TL.as_ ?_
         refine TL.end_ (TX.in_normal ?_)
         exact TX.round (⟨(m + 1, b1, lim1, decide (((m - a1 : Nat) : Int) ≥ (((b1 - a1) / 8 : Nat) : Int)), al, us), hlm, hix⟩) (by dsimp only; omega) ⟨rfl, rfl, rfl, rfl, rfl, rfl, trivial⟩ (fun w1 hw => hw)
        ·have q113 := of_decide_eq_false h113
         refine TL.end_ (TX.then_ (TC.condF rfl (TC.seq_ (TC.region ?_))))
         refine TL.mv ?_
         refine TL.mv ?_
         refine TL.val rfl rfl rfl (gives_bin rfl rfl rfl (fun w => bin_geq w)) ?_
         refine TL.as_ ?_
         refine TL.end_ (TX.then_ (TC.seq_ (TC.region ?_)))
         refine TL.mv ?_
         refine TL.mv ?_
         refine TL.val rfl rfl rfl (gives_bin rfl rfl rfl (fun w => bin_add_ (r := ((m + 1 : Nat) : Int)) (by simp only [IntKind.wrap_i64]; omega) w)) ?_
         refine TL.mv ?_
         refine TL.mv ?_
         refine TL.pcallRw (k := 0) (α := Unit) (fun _ => .tuple #[]) (fun _ us => Pin (m + 1) b1 zs us ∧ Srt (m + 1) b1 us) rfl rfl rfl rfl rfl Try.func58 us8nm58 us8bd58 rfl (fun w1 hw hr1 => ih (m + 1) b1 lim1 zs w1 hr1 (by omega) (by have := hiz.hb; omega) (Low.right0 hM) hlm (by omega)) ?_
         rintro ⟨⟩ us ⟨hQ2, hS2⟩
         try dsimp only [List.set_cons_zero, List.set_cons_succ]
         have hix : Inv a b xs a1 m us := hiz.right hM hQ2 hS2
         refine TL.end_ (TX.then_ (TC.region ?_))
         refine TL.mv ?_
         refine TL.as_ ?_
         refine TL.end_ (TX.in_normal ?_)
         exact TX.round (⟨(a1, m, lim1, decide (((b1 - m : Nat) : Int) ≥ (((b1 - a1) / 8 : Nat) : Int)), al, us), hlm, hix⟩) (by dsimp only; omega) ⟨rfl, rfl, rfl, rfl, rfl, rfl, trivial⟩ (fun w1 hw => hw)
       ·have hTb := hT.hb
        refine TC.quiet_ (E' := ?_) (by kernel_rfl) (by kernel_rfl) (fun w hw => hw.drawn _) ?_ ?_
        rotate_left
        ·refine TQ.val rfl rfl rfl (gives_move rfl rfl) ?_
         refine TQ.val rfl rfl rfl (gives_bin rfl rfl rfl (fun w => bin_gtr_t (by omega) w)) ?_
         iterate 6 (first | refine TQ.val rfl rfl rfl (gives_move rfl rfl) ?_ | refine TQ.on rfl rfl rfl ?_)
         refine TQ.val rfl rfl rfl (gives_bin rfl rfl rfl (fun w => bin_sub_ (r := ((a1 - 1 : Nat) : Int)) (by simp only [IntKind.wrap_i64]; omega) w)) ?_
         refine TQ.on rfl rfl rfl ?_
         refine TQ.val rfl rfl rfl (gives_at (v := .pointer (some ⟨g, a1 - 1, none⟩)) rfl rfl rfl (fun w => at_row Try.underlying31 us8sz35 g _ _ (a1 - 1) (by omega) rfl w)) ?_
         refine TQ.on rfl rfl rfl ?_
         refine TQ.val rfl rfl rfl (pm_loadU (k := 0) (i := a1 - 1) rfl rfl us8ag35 rfl (by omega)) ?_
         iterate 5 (first | refine TQ.on rfl rfl rfl ?_ | refine TQ.val rfl rfl rfl (gives_move rfl rfl) ?_)
         refine TQ.val rfl rfl rfl (gives_at (v := .pointer (some ⟨g, pw, none⟩)) rfl rfl rfl (fun w => at_row Try.underlying31 us8sz35 g _ _ pw (by omega) rfl w)) ?_
         refine TQ.on rfl rfl rfl ?_
         refine TQ.val rfl rfl rfl (pm_loadU (k := 0) (i := pw) rfl rfl us8ag35 rfl (by omega)) ?_
         refine TQ.on rfl rfl rfl ?_
         refine TQ.call (v := .bool true) rfl rfl rfl rfl rfl Try.func68 us8nm68 us8bd68 (fun w1 hw => (less_t _ _ p2 w1).mono fun en w2 ⟨h1, h2⟩ => ⟨h1, hw.below h2⟩) ?_
         refine TQ.on rfl rfl rfl ?_
         refine TQ.val rfl rfl rfl (gives_boolnot rfl rfl) ?_
         refine TQ.val rfl rfl rfl (gives_pick rfl rfl rfl) ?_
         exact TQ.end_
        refine TX.then_ (TC.condF rfl (TC.skip_ (TX.then_ (TC.seq_ (TC.region ?_)))))
        iterate 4 (first | refine TL.mv ?_)
        refine TL.pcallRw (k := 0) (α := Nat × Bool) (fun x => .tuple #[.int .i64 ((x.1 : Nat) : Int), .bool x.2]) (fun x zs => Pin a1 b1 ts zs ∧ Mid a1 b1 x.1 zs) rfl rfl rfl rfl rfl Try.func70 us8nm70 us8bd70 rfl (fun w1 hw hr1 => part_any g n c ts w1 hr1 hn a1 b1 pw hp1 hp2 (by have := hT.hb; omega)) ?_
        rintro ⟨m, al⟩ zs ⟨hQ, hM⟩
        try dsimp only [List.set_cons_zero, List.set_cons_succ]
        dsimp only at hM
        have hiz := hT.pin hQ
        have hmm := hM.hm
        have hzl := hiz.len
        iterate 5 (first | refine TL.as_ ?_ | refine TL.ex ?_ | refine TL.mv ?_)
        refine TL.end_ (TX.then_ (TC.seq_ (TC.region ?_)))
        refine TL.mv ?_
        refine TL.as_ ?_
        refine TL.end_ (TX.then_ (TC.seq_ (TC.region ?_)))
        refine TL.mv ?_
        refine TL.mv ?_
        refine TL.val rfl rfl rfl (gives_bin rfl rfl rfl (fun w => bin_sub_ (r := ((m - a1 : Nat) : Int)) (by simp only [IntKind.wrap_i64]; omega) w)) ?_
        refine TL.mv ?_
        refine TL.mv ?_
        refine TL.val rfl rfl rfl (gives_bin rfl rfl rfl (fun w => bin_sub_ (r := ((b1 - m : Nat) : Int)) (by simp only [IntKind.wrap_i64]; omega) w)) ?_
        refine TL.as_ ?_
        refine TL.as_ ?_
        refine TL.end_ (TX.then_ (TC.seq_ (TC.region ?_)))
        refine TL.mv ?_
        refine TL.val rfl rfl rfl (gives_bin rfl rfl rfl (fun w => bin_quoi_ (r := (((b1 - a1) / 8 : Nat) : Int)) (by omega) (by omega) (by omega) (by omega) w)) ?_
        refine TL.as_ ?_
        refine TL.end_ (TX.then_ (TC.seq_ (TC.region ?_)))
        refine TL.mv ?_
        refine TL.mv ?_
        refine TL.vsplit rfl rfl rfl (gives_bin rfl rfl rfl (fun w => bin_lss w)) (fun h113 => ?_) (fun h113 => ?_)
        ·have q113 := of_decide_eq_true h113
         refine TL.end_ (TX.then_ (TC.condT rfl (TC.seq_ (TC.region ?_))))
         refine TL.mv ?_
         refine TL.mv ?_
         refine TL.val rfl rfl rfl (gives_bin rfl rfl rfl (fun w => bin_geq w)) ?_
         refine TL.as_ ?_
         refine TL.end_ (TX.then_ (TC.seq_ (TC.region ?_)))
         iterate 4 (first | refine TL.mv ?_)
         refine TL.pcallRw (k := 0) (α := Unit) (fun _ => .tuple #[]) (fun _ us => Pin a1 m zs us ∧ Srt a1 m us) rfl rfl rfl rfl rfl Try.func58 us8nm58 us8bd58 rfl (fun w1 hw hr1 => ih a1 m lim1 zs w1 hr1 (by omega) (by omega) (fun p q h1 h2 h3 => hiz.low p q h1 h2 (by omega)) hlm (by omega)) ?_
         rintro ⟨⟩ us ⟨hQ2, hS2⟩
         try dsimp only [List.set_cons_zero, List.set_cons_succ]
         have hix : Inv a b xs (m + 1) b1 us := hiz.left hM hQ2 hS2
         refine TL.end_ (TX.then_ (TC.region ?_))
         refine TL.mv ?_
         refine TL.val rfl rfl rfl (gives_bin rfl rfl rfl (fun w => bin_add_ (r := ((m + 1 : Nat) : Int)) (by simp only [IntKind.wrap_i64]; omega) w)) ?_
         refine TL.as_ ?_
         refine TL.end_ (TX.in_normal ?_)
         exact TX.round (⟨(m + 1, b1, lim1, decide (((m - a1 : Nat) : Int) ≥ (((b1 - a1) / 8 : Nat) : Int)), al, us), hlm, hix⟩) (by dsimp only; omega) ⟨rfl, rfl, rfl, rfl, rfl, rfl, trivial⟩ (fun w1 hw => hw)
        ·have q113 := of_decide_eq_false h113
         refine TL.end_ (TX.then_ (TC.condF rfl (TC.seq_ (TC.region ?_))))
         refine TL.mv ?_
         refine TL.mv ?_
         refine TL.val rfl rfl rfl (gives_bin rfl rfl rfl (fun w => bin_geq w)) ?_
         refine TL.as_ ?_
         refine TL.end_ (TX.then_ (TC.seq_ (TC.region ?_)))
         refine TL.mv ?_
         refine TL.mv ?_
         refine TL.val rfl rfl rfl (gives_bin rfl rfl rfl (fun w => bin_add_ (r := ((m + 1 : Nat) : Int)) (by simp only [IntKind.wrap_i64]; omega) w)) ?_
         refine TL.mv ?_
         refine TL.mv ?_
         refine TL.pcallRw (k := 0) (α := Unit) (fun _ => .tuple #[]) (fun _ us => Pin (m + 1) b1 zs us ∧ Srt (m + 1) b1 us) rfl rfl rfl rfl rfl Try.func58 us8nm58 us8bd58 rfl (fun w1 hw hr1 => ih (m + 1) b1 lim1 zs w1 hr1 (by omega) (by have := hiz.hb; omega) (Low.right0 hM) hlm (by omega)) ?_
         rintro ⟨⟩ us ⟨hQ2, hS2⟩
         try dsimp only [List.set_cons_zero, List.set_cons_succ]
         have hix : Inv a b xs a1 m us := hiz.right hM hQ2 hS2
         refine TL.end_ (TX.then_ (TC.region ?_))
         refine TL.mv ?_
         refine TL.as_ ?_
         refine TL.end_ (TX.in_normal ?_)
         exact TX.round (⟨(a1, m, lim1, decide (((b1 - m : Nat) : Int) ≥ (((b1 - a1) / 8 : Nat) : Int)), al, us), hlm, hix⟩) (by dsimp only; omega) ⟨rfl, rfl, rfl, rfl, rfl, rfl, trivial⟩ (fun w1 hw => hw)
       ·have hTb := hT.hb
        have hmin : ∀ k, a1 ≤ k → k < b1 → dx ts pw ≤ dx ts k := fun k k1 k2 => by have := hT.low (a1 - 1) k (by omega) k1 k2; omega
        refine TC.quiet_ (E' := ?_) (by kernel_rfl) (by kernel_rfl) (fun w hw => hw.drawn _) ?_ ?_
        rotate_left
        ·refine TQ.val rfl rfl rfl (gives_move rfl rfl) ?_
         refine TQ.val rfl rfl rfl (gives_bin rfl rfl rfl (fun w => bin_gtr_t (by omega) w)) ?_
         iterate 6 (first | refine TQ.val rfl rfl rfl (gives_move rfl rfl) ?_ | refine TQ.on rfl rfl rfl ?_)
         refine TQ.val rfl rfl rfl (gives_bin rfl rfl rfl (fun w => bin_sub_ (r := ((a1 - 1 : Nat) : Int)) (by simp only [IntKind.wrap_i64]; omega) w)) ?_
         refine TQ.on rfl rfl rfl ?_
         refine TQ.val rfl rfl rfl (gives_at (v := .pointer (some ⟨g, a1 - 1, none⟩)) rfl rfl rfl (fun w => at_row Try.underlying31 us8sz35 g _ _ (a1 - 1) (by omega) rfl w)) ?_
         refine TQ.on rfl rfl rfl ?_
         refine TQ.val rfl rfl rfl (pm_loadU (k := 0) (i := a1 - 1) rfl rfl us8ag35 rfl (by omega)) ?_
         iterate 5 (first | refine TQ.on rfl rfl rfl ?_ | refine TQ.val rfl rfl rfl (gives_move rfl rfl) ?_)
         refine TQ.val rfl rfl rfl (gives_at (v := .pointer (some ⟨g, pw, none⟩)) rfl rfl rfl (fun w => at_row Try.underlying31 us8sz35 g _ _ pw (by omega) rfl w)) ?_
         refine TQ.on rfl rfl rfl ?_
         refine TQ.val rfl rfl rfl (pm_loadU (k := 0) (i := pw) rfl rfl us8ag35 rfl (by omega)) ?_
         refine TQ.on rfl rfl rfl ?_
         refine TQ.call (v := .bool false) rfl rfl rfl rfl rfl Try.func68 us8nm68 us8bd68 (fun w1 hw => (less_f _ _ p2 w1).mono fun en w2 ⟨h1, h2⟩ => ⟨h1, hw.below h2⟩) ?_
         refine TQ.on rfl rfl rfl ?_
         refine TQ.val rfl rfl rfl (gives_boolnot rfl rfl) ?_
         refine TQ.val rfl rfl rfl (gives_pick rfl rfl rfl) ?_
         exact TQ.end_
        refine TX.then_ (TC.condT rfl (TC.seq_ (TC.region ?_)))
        iterate 4 (first | refine TL.mv ?_)
        refine TL.pcallRw (k := 0) (α := Nat) (fun x => .int .i64 ((x : Nat) : Int)) (fun x zs => Pin a1 b1 ts zs ∧ Eqs a1 b1 x zs ∧ Mn a1 b1 zs) rfl rfl rfl rfl rfl Try.func69 us8nm69 us8bd69 rfl (fun w1 hw hr1 => peq_any g n c ts w1 hr1 hn a1 b1 pw hp1 hp2 (by have := hT.hb; omega) hmin) ?_
        rintro m zs ⟨hQ, hE, hM⟩
        try dsimp only [List.set_cons_zero, List.set_cons_succ]
        have hiz : Inv a b xs m b1 zs := (hT.pin hQ).eqs hE hM
        have hme := hE.hm
        refine TL.as_ ?_
        refine TL.end_ (TX.then_ (TC.seq_ (TC.region ?_)))
        refine TL.mv ?_
        refine TL.as_ ?_
        refine TL.end_ (TX.then_ (TC.exit_ (TX.then_exit (TX.in_same ?_))))
        exact TX.round (⟨(m, b1, lim1, wb, wp, zs), hlm, hiz⟩) (by dsimp only; omega) ⟨rfl, rfl, rfl, rfl, rfl, rfl, trivial⟩ (fun w1 hw => hw)
end Go.Proofs.Ytleckflmckbheaa

namespace Go.Proofs.Ytleckflmckbheaa
def cpt : List Int → List Int
  | [] => []
  | [a] => [a]
  | a :: b :: l => if a = b then cpt (b :: l) else a :: cpt (b :: l)
theorem cpt_snoc : ∀ (l : List Int) (a : Int), cpt (l ++ [a]) = if l.getLast? = some a then cpt l else cpt l ++ [a]
  | [], a => by simp [cpt]
  | [b], a => by
    show cpt [b, a] = _
    simp only [cpt, List.getLast?_singleton, Option.some.injEq]
    split
    · rename_i h; rw [h]
    · rfl
  | b :: d :: l, a => by
    have ih := cpt_snoc (d :: l) a
    have e : (b :: d :: l).getLast? = (d :: l).getLast? := by rw [List.getLast?_cons_cons]
    rw [e]
    show cpt (b :: d :: (l ++ [a])) = _
    rw [cpt]
    have ih' : cpt (d :: (l ++ [a])) = if (d :: l).getLast? = some a then cpt (d :: l) else cpt (d :: l) ++ [a] := ih
    rw [ih', cpt]
    split <;> split <;> simp
theorem mem_cpt (x : Int) : ∀ l : List Int, x ∈ cpt l ↔ x ∈ l
  | [] => Iff.rfl
  | [a] => Iff.rfl
  | a :: b :: l => by
    have ih := mem_cpt x (b :: l)
    rw [cpt]
    split
    · rename_i h
      rw [ih, h, List.mem_cons, List.mem_cons, List.mem_cons]
      constructor
      · exact fun hh => .inr hh
      · rintro (hh | hh)
        · exact .inl hh
        · exact hh
    · rw [List.mem_cons, ih, List.mem_cons, List.mem_cons]
      simp [List.mem_cons]
theorem cpt_asc : ∀ l : List Int, l.Pairwise (· ≤ ·) → (cpt l).Pairwise (· < ·)
  | [], _ => List.Pairwise.nil
  | [a], _ => List.pairwise_singleton _ _
  | a :: b :: l, h => by
    obtain ⟨h1, h2⟩ := List.pairwise_cons.1 h
    have ih := cpt_asc (b :: l) h2
    rw [cpt]
    split
    · exact ih
    · rename_i hne
      refine List.pairwise_cons.2 ⟨fun y hy => ?_, ih⟩
      have hy2 := (mem_cpt y (b :: l)).1 hy
      have hb : b ≤ y := by
        rcases List.mem_cons.1 hy2 with e | e
        · rw [e]; exact Int.le_refl _
        · exact (List.pairwise_cons.1 h2).1 y e
      have ha := h1 b List.mem_cons_self
      omega
theorem asc_eq : ∀ (a b : List Int), a.Pairwise (· < ·) → b.Pairwise (· < ·) → (∀ x, x ∈ a ↔ x ∈ b) → a = b
  | [], [], _, _, _ => rfl
  | [], y :: b, _, _, h => absurd ((h y).2 List.mem_cons_self) List.not_mem_nil
  | x :: a, [], _, _, h => absurd ((h x).1 List.mem_cons_self) List.not_mem_nil
  | x :: a, y :: b, ha, hb, h => by
    obtain ⟨a1, a2⟩ := List.pairwise_cons.1 ha
    obtain ⟨b1, b2⟩ := List.pairwise_cons.1 hb
    have hxy : x = y := by
      rcases List.mem_cons.1 ((h x).1 List.mem_cons_self) with e | e
      · exact e
      · rcases List.mem_cons.1 ((h y).2 List.mem_cons_self) with e2 | e2
        · exact e2.symm
        · have := a1 y e2; have := b1 x e; omega
    subst hxy
    rw [asc_eq a b a2 b2 fun z => ?_]
    constructor
    · intro hz
      rcases List.mem_cons.1 ((h z).1 (List.mem_cons_of_mem _ hz)) with e | e
      · subst e; have := a1 z hz; omega
      · exact e
    · intro hz
      rcases List.mem_cons.1 ((h z).2 (List.mem_cons_of_mem _ hz)) with e | e
      · subst e; have := b1 z hz; omega
      · exact e
theorem srt_pairwise {xs : List Int} {n : Nat} (hn : xs.length = n) (h : Srt 0 n xs) : xs.Pairwise (· ≤ ·) := by
  refine List.pairwise_iff_getElem.2 fun i j hi hj hij => ?_
  have := h i j (Nat.zero_le _) hij (by omega)
  unfold dx at this
  rwa [List.getD_eq_getElem?_getD, List.getD_eq_getElem?_getD, List.getElem?_eq_getElem hi, List.getElem?_eq_getElem hj] at this
theorem take_snoc_dx {xs : List Int} {k : Nat} (h : k < xs.length) : xs.take (k + 1) = xs.take k ++ [dx xs k] := by
  rw [List.take_add_one, List.getElem?_eq_getElem h]
  unfold dx
  rw [List.getD_eq_getElem?_getD, List.getElem?_eq_getElem h]
  rfl
theorem last_take_dx {xs : List Int} {k : Nat} (h : k ≤ xs.length) (h0 : 0 < k) : (xs.take k).getLast? = some (dx xs (k - 1)) := by
  obtain ⟨j, rfl⟩ : ∃ j, k = j + 1 := ⟨k - 1, by omega⟩
  rw [take_snoc_dx (by omega), List.getLast?_append]
  rfl
theorem cpt_step {xs : List Int} {k : Nat} (h : k < xs.length) (h0 : 0 < k) : cpt (xs.take (k + 1)) = if dx xs (k - 1) = dx xs k then cpt (xs.take k) else cpt (xs.take k) ++ [dx xs k] := by
  rw [take_snoc_dx h, cpt_snoc, last_take_dx (by omega) h0]
  simp only [Option.some.injEq]
theorem take_set_dx {ys : List Int} {k : Nat} (h : k < ys.length) (v : Int) : (ys.set k v).take (k + 1) = ys.take k ++ [v] := by
  rw [take_snoc_dx (by simpa using h), dx_set h, if_pos rfl, List.take_set_of_le (Nat.le_refl _)]
theorem cpt_len : ∀ l : List Int, (cpt l).length ≤ l.length
  | [] => Nat.le_refl _
  | [a] => Nat.le_refl _
  | a :: b :: l => by
    have ih := cpt_len (b :: l)
    rw [cpt]
    split
    · rw [List.length_cons]; omega
    · rw [List.length_cons, List.length_cons]; omega
end Go.Proofs.Ytleckflmckbheaa

namespace Go.Proofs.Ytleckflmckbheaa
open Go.RowKit
set_option maxRecDepth 20000
theorem cpt_take1 : ∀ l : List Int, cpt (l.take 1) = l.take 1
 | [] => rfl
 | a :: l => rfl
theorem us9nm62 : (Try.f62.name == "runtime.NumGoroutine") = false := by decide
theorem us9bd62 : Try.f62.body.isNone = false := rfl
theorem us9nm59 : (Try.f59.name == "runtime.NumGoroutine") = false := by decide
theorem us9bd59 : Try.f59.body.isNone = false := rfl
theorem us9nm58 : (Try.f58.name == "runtime.NumGoroutine") = false := by decide
theorem us9bd58 : Try.f58.body.isNone = false := rfl
theorem us9sz35 (w : World) : (sizeOf 35).run Try.prog w = .ok 1 w := rfl
theorem us9ag35 (w : World) : (isAgg 35).run Try.prog w = .ok false w := rfl
theorem us9zv35 (w : World) : (zeroValue 35).run Try.prog w = .ok (.int .u32 0) w := rfl
set_option maxHeartbeats 1000000 in
theorem ins_nil (w : World) : Calls Try.prog 62 #[.slice none 0 0, .int .i64 0, .int .i64 0] w fun en w' => en = .returned (.tuple #[]) ∧ Below w.heap.size w w' := by
 refine begin_ (vs := [.slice none 0 0, .int .i64 0, .int .i64 0]) Try.func62 rfl rfl rfl ?_ (Pm.start w)
 refine TC.seq_ (TC.region ?_)
 refine TL.mv ?_
 refine TL.val rfl rfl rfl (gives_bin rfl rfl rfl (fun w => bin_add_ (r := 1) (by simp only [IntKind.wrap_i64]; omega) w)) ?_
 refine TL.as_ ?_
 refine TL.end_ (TX.then_ (TC.block ?_))
 refine TC.loop_ (α := Unit) (fun y => [(0, .slice none 0 0), (1, .int .i64 0), (2, .int .i64 0), (6, .int .i64 1)]) (fun y => Pm w []) (fun y => 0) (()) ⟨rfl, rfl, rfl, rfl, trivial⟩ (fun w1 hw => hw) ?_
 rintro ⟨⟩
 refine TC.seq_ (TC.seq_ (TC.region ?_))
 refine TL.mv ?_
 refine TL.mv ?_
 refine TL.val rfl rfl rfl (gives_bin rfl rfl rfl (fun w => bin_lss_f (by decide) w)) ?_
 refine TL.end_ (TX.then_ (TC.condF rfl (TC.exit_ (TX.then_exit (TX.then_exit (TX.in_same ?_))))))
 exact end_none Try.results62 (fun w1 hw => ⟨rfl, hw.bel⟩)
set_option maxHeartbeats 1000000 in
theorem pdq_nil (lim : Nat) (w : World) : Calls Try.prog 58 #[.slice none 0 0, .int .i64 0, .int .i64 0, .int .i64 ((lim : Nat) : Int)] w fun en w' => en = .returned (.tuple #[]) ∧ Below w.heap.size w w' := by
 refine begin_ (vs := [.slice none 0 0, .int .i64 0, .int .i64 0, .int .i64 ((lim : Nat) : Int)]) Try.func58 rfl rfl rfl ?_ (Pm.start w)
 refine TC.seq_ (TC.region ?_)
 refine TL.as_ ?_
 refine TL.end_ (TX.then_ (TC.seq_ (TC.region ?_)))
 refine TL.as_ ?_
 refine TL.end_ (TX.then_ (TC.block ?_))
 refine TC.loop_ (α := Unit) (fun y => [(0, .slice none 0 0), (1, .int .i64 0), (2, .int .i64 0)]) (fun y => Pm w []) (fun y => 0) (()) ⟨rfl, rfl, rfl, trivial⟩ (fun w1 hw => hw) ?_
 rintro ⟨⟩
 refine TC.block (TC.seq_ (TC.region ?_))
 refine TL.mv ?_
 refine TL.mv ?_
 refine TL.val rfl rfl rfl (gives_bin rfl rfl rfl (fun w => bin_sub_ (r := 0) (by simp only [IntKind.wrap_i64]; omega) w)) ?_
 refine TL.as_ ?_
 refine TL.end_ (TX.then_ (TC.seq_ (TC.seq_ (TC.region ?_))))
 refine TL.mv ?_
 refine TL.val rfl rfl rfl (gives_bin rfl rfl rfl (fun w => bin_leq_t (by decide) w)) ?_
 refine TL.end_ (TX.then_ (TC.condT rfl (TC.seq_ (TC.region ?_))))
 refine TL.mv ?_
 refine TL.mv ?_
 refine TL.mv ?_
 refine TL.pcall1 (r := .tuple #[]) rfl rfl rfl rfl rfl Try.func62 us9nm62 us9bd62 (fun w1 hw => ins_nil w1) ?_
 refine TL.end_ (TX.then_ (TC.ret_ (TX.then_ret (TX.in_ret (TX.then_ret (TX.in_ret ?_))))))
 exact ret_none Try.results58 (fun w1 hw => ⟨rfl, hw.bel⟩)
set_option maxHeartbeats 1000000 in
theorem sort_nil (w : World) : Calls Try.prog 50 #[.slice none 0 0] w fun en w' => en = .returned (.tuple #[]) ∧ Below w.heap.size w w' := by
 refine begin_ (vs := [.slice none 0 0]) Try.func50 rfl rfl rfl ?_ (Pm.start w)
 refine TC.seq_ (TC.region ?_)
 refine TL.mv ?_
 refine TL.val rfl rfl rfl (gives_len rfl Try.underlying31 rfl) ?_
 refine TL.as_ ?_
 refine TL.end_ (TX.then_ (TC.region ?_))
 refine TL.mv ?_
 refine TL.mv ?_
 refine TL.mv ?_
 refine TL.val rfl rfl rfl (gives_conv rfl rfl (fun w => conv_fit (k := .i64) Try.underlying88 Try.underlying3 (by simp only [IntKind.wrap_u64]; omega) w)) ?_
 refine TL.pcallPm (α := {l : Nat // LenOf 0 l}) (fun y => .int .i64 ((y.1 : Nat) : Int)) (fun y => []) rfl rfl rfl rfl rfl Try.func59 us9nm59 us9bd59 (fun w1 hw => len_any 0 (by omega) w1) ?_
 rintro ⟨l, hL⟩
 dsimp only [List.cons_append, List.nil_append]
 refine TL.pcall1 (r := .tuple #[]) rfl rfl rfl rfl rfl Try.func58 us9nm58 us9bd58 (fun w1 hw => pdq_nil l w1) ?_
 refine TL.end_ ?_
 exact end_none Try.results50 (fun w1 hw => ⟨rfl, hw.bel⟩)
set_option maxHeartbeats 1000000 in
theorem cpt_nil (w : World) : Calls Try.prog 51 #[.slice none 0 0] w fun en w' => en = .returned (.slice none 0 0) ∧ Below w.heap.size w w' := by
 refine begin_ (vs := [.slice none 0 0]) Try.func51 rfl rfl rfl ?_ (Pm.start w)
 refine TC.seq_ (TC.region ?_)
 refine TL.as_ ?_
 refine TL.end_ (TX.then_ (TC.seq_ (TC.seq_ (TC.region ?_))))
 refine TL.mv ?_
 refine TL.val rfl rfl rfl (gives_len rfl Try.underlying31 rfl) ?_
 refine TL.val rfl rfl rfl (gives_bin rfl rfl rfl (fun w => bin_lss_t (by decide) w)) ?_
 refine TL.end_ (TX.then_ (TC.condT rfl (TC.seq_ (TC.region ?_))))
 refine TL.mv ?_
 refine TL.as_ ?_
 refine TL.end_ (TX.then_ (TC.ret_ (TX.then_ret ?_)))
 exact ret_tmp Try.results51 rfl (fun w1 hw => ⟨rfl, hw.bel⟩)
set_option maxHeartbeats 1000000 in
theorem sort_any (g n c : Nat) (xs : List Int) (w : World) (h : Rw 35 w g n c xs) (hn : n ≤ 1000000)  :
  Calls Try.prog 50 #[.slice (some ⟨g, 0, none⟩) n c] w (RC (α := Unit) (fun _ => .tuple #[]) (fun _ ys => Pin 0 n xs ys ∧ Srt 0 n ys) 35 g n c w) := by
 have hl := h.len
 refine begin_ (vs := [.slice (some ⟨g, 0, none⟩) n c]) (I := Pm ⟨wbut w g, g⟩ (.row (.slice (some ⟨g, 0, none⟩) n c) 35 1 n (uv xs) :: oths g w)) Try.func50 rfl rfl rfl ?_ (Pm.rowStart h)
 refine TC.seq_ (TC.region ?_)
 refine TL.mv ?_
 refine TL.val rfl rfl rfl (gives_len rfl Try.underlying31 rfl) ?_
 refine TL.as_ ?_
 refine TL.end_ (TX.then_ (TC.region ?_))
 refine TL.mv ?_
 refine TL.mv ?_
 refine TL.mv ?_
 refine TL.val rfl rfl rfl (gives_conv rfl rfl (fun w => conv_fit (k := .i64) Try.underlying88 Try.underlying3 (by simp only [IntKind.wrap_u64]; omega) w)) ?_
 refine TL.pcallPm (α := {l : Nat // LenOf n l}) (fun y => .int .i64 ((y.1 : Nat) : Int)) (fun y => []) rfl rfl rfl rfl rfl Try.func59 us9nm59 us9bd59 (fun w1 hw => len_any n (by omega) w1) ?_
 rintro ⟨l, hL⟩
 dsimp only [List.cons_append, List.nil_append]
 refine TL.pcallRw (k := 0) (α := Unit) (fun _ => .tuple #[]) (fun _ ys => Pin 0 n xs ys ∧ Srt 0 n ys) rfl rfl rfl rfl rfl Try.func58 us9nm58 us9bd58 rfl (fun w1 hw hr1 => pdq_ind g n c hn (n + 1) 0 n l xs w1 hr1 (Nat.zero_le _) (Nat.le_refl _) (fun p q h1 h2 h3 => by omega) (by have := hL.2.2; omega) (by omega)) ?_
 rintro ⟨⟩ ys ⟨hQ, hS⟩
 try dsimp only [List.set_cons_zero, List.set_cons_succ]
 refine TL.end_ ?_
 exact end_none Try.results50 (fun w1 hw => ⟨(), ys, rfl, ⟨hQ, hS⟩, pm_rowAt hw (k := 0) rfl, hw.mapEnd (fun q hq => by simp [hq])⟩)
set_option maxHeartbeats 1000000 in
theorem compact_any (g n c : Nat) (xs : List Int) (w : World) (h : Rw 35 w g n c xs) (hn : n ≤ 1000000) :
  Calls Try.prog 51 #[.slice (some ⟨g, 0, none⟩) n c] w fun en w' => en = .returned (.slice (some ⟨g, 0, none⟩) (cpt xs).length c) ∧ Rw 35 w' g (cpt xs).length c (cpt xs) ∧ w.grownBy w' (some g) := by
 have hl := h.len
 refine begin_ (vs := [.slice (some ⟨g, 0, none⟩) n c]) (I := Pm ⟨wbut w g, g⟩ (.row (.slice (some ⟨g, 0, none⟩) n c) 35 1 n (uv xs) :: oths g w)) Try.func51 rfl rfl rfl ?_ (Pm.rowStart h)
 refine TC.seq_ (TC.region ?_)
 refine TL.as_ ?_
 refine TL.end_ (TX.then_ (TC.seq_ (TC.seq_ (TC.region ?_))))
 refine TL.mv ?_
 refine TL.val rfl rfl rfl (gives_len rfl Try.underlying31 rfl) ?_
 refine TL.vsplit rfl rfl rfl (gives_bin rfl rfl rfl (fun w => bin_lss w)) (fun h8 => ?_) (fun h8 => ?_)
 ·have q8 := of_decide_eq_true h8
  have hE : cpt xs = xs := by
   match xs, hl with
   | [], _ => rfl
   | [a], _ => rfl
   | a :: b :: l, hl => exact absurd hl (by simp only [List.length_cons]; omega)
  refine TL.end_ (TX.then_ (TC.condT rfl (TC.seq_ (TC.region ?_))))
  refine TL.mv ?_
  refine TL.as_ ?_
  refine TL.end_ (TX.then_ (TC.ret_ (TX.then_ret ?_)))
  exact ret_tmp Try.results51 rfl (fun w1 hw => by rw [hE, hl]; exact ⟨rfl, pm_rowAt hw (k := 0) rfl, hw.mapEnd (fun q hq => by simp [hq])⟩)
 ·have q8 := of_decide_eq_false h8
  refine TL.end_ (TX.then_ (TC.condF rfl (TC.skip_ (TX.then_ (TC.seq_ (TC.seq_ (TC.region ?_)))))))
  refine TL.as_ ?_
  refine TL.end_ (TX.then_ (TC.block ?_))
  refine TC.loop_ (α := {k : Nat // 1 ≤ k ∧ k ≤ n ∧ cpt (xs.take k) = xs.take k}) (fun y => [(0, .slice (some ⟨g, 0, none⟩) n c), (3, .int .i64 ((y.1 : Nat) : Int))]) (fun y => Pm ⟨wbut w g, g⟩ ([.row (.slice (some ⟨g, 0, none⟩) n c) 35 1 n (uv xs)] ++ oths g w)) (fun y => n - y.1) (⟨1, Nat.le_refl _, by omega, cpt_take1 xs⟩) ⟨rfl, rfl, trivial⟩ (fun w1 hw => hw) ?_
  rintro ⟨k0, hk1, hk2, hK⟩
  try dsimp only
  refine TC.seq_ (TC.seq_ (TC.region ?_))
  refine TL.mv ?_
  refine TL.mv ?_
  refine TL.val rfl rfl rfl (gives_len rfl Try.underlying31 rfl) ?_
  refine TL.vsplit rfl rfl rfl (gives_bin rfl rfl rfl (fun w => bin_lss w)) (fun h13 => ?_) (fun h13 => ?_)
  ·have q13 := of_decide_eq_true h13
   refine TL.end_ (TX.then_ (TC.condT rfl (TC.skip_ (TX.then_ (TC.seq_ (TC.block (TC.seq_ ?_)))))))
   have hst := cpt_step (xs := xs) (k := k0) (by omega) (by omega)
   rcases Classical.em (dx xs k0 = dx xs (k0 - 1)) with p1 | p1
   ·have hK2 : cpt (xs.take (k0 + 1)) = xs.take k0 := by rw [hst, if_pos p1.symm]; exact hK
    refine TC.quiet_ (E' := ?_) (by kernel_rfl) (by kernel_rfl) (fun w hw => hw.drawn _) ?_ ?_
    rotate_left
    ·refine TQ.val rfl rfl rfl (gives_move rfl rfl) ?_
     refine TQ.val rfl rfl rfl (gives_move rfl rfl) ?_
     refine TQ.val rfl rfl rfl (gives_at (v := .pointer (some ⟨g, k0, none⟩)) rfl rfl rfl (fun w => at_row Try.underlying31 us9sz35 g _ _ k0 (by omega) rfl w)) ?_
     refine TQ.val rfl rfl rfl (pm_loadU (k := 0) (i := k0) rfl rfl us9ag35 rfl (by omega)) ?_
     refine TQ.val rfl rfl rfl (gives_move rfl rfl) ?_
     refine TQ.val rfl rfl rfl (gives_move rfl rfl) ?_
     refine TQ.val rfl rfl rfl (gives_bin rfl rfl rfl (fun w => bin_sub_ (r := ((k0 - 1 : Nat) : Int)) (by simp only [IntKind.wrap_i64]; omega) w)) ?_
     refine TQ.val rfl rfl rfl (gives_at (v := .pointer (some ⟨g, k0 - 1, none⟩)) rfl rfl rfl (fun w => at_row Try.underlying31 us9sz35 g _ _ (k0 - 1) (by omega) rfl w)) ?_
     refine TQ.val rfl rfl rfl (pm_loadU (k := 0) (i := k0 - 1) rfl rfl us9ag35 rfl (by omega)) ?_
     refine TQ.val rfl rfl rfl (gives_bin rfl rfl rfl (fun w => bin_eql_t (p1) w)) ?_
     exact TQ.end_
    refine TX.then_ (TC.condT rfl (TC.seq_ (TC.region ?_)))
    refine TL.mv ?_
    refine TL.mv ?_
    refine TL.val rfl rfl rfl (gives_tail (k := k0) rfl rfl rfl rfl Try.underlying31 us9sz35 (by have := h.obj.2.1; omega) (by omega)) ?_
    refine TL.as_ ?_
    refine TL.end_ (TX.then_ (TC.seq_ (TC.seq_ (TC.region ?_))))
    refine TL.as_ ?_
    refine TL.end_ (TX.then_ (TC.block ?_))
    refine TC.loop_ (α := {y : Nat × Nat × List Int // (1 ≤ y.2.1 ∧ y.2.1 ≤ n - k0 ∧ k0 ≤ y.1 ∧ y.1 ≤ k0 + y.2.1 - 1) ∧ y.2.2.length = n ∧ (∀ p, k0 + y.2.1 - 1 ≤ p → dx y.2.2 p = dx xs p) ∧ y.2.2.take y.1 = cpt (xs.take (k0 + y.2.1))}) (fun y => [(0, .slice (some ⟨g, 0, none⟩) n c), (3, .int .i64 ((y.1.1 : Nat) : Int)), (4, .slice (some ⟨g, k0, none⟩) (n - k0) (c - k0)), (5, .int .i64 ((y.1.2.1 : Nat) : Int))]) (fun y => Pm ⟨wbut w g, g⟩ ([.row (.slice (some ⟨g, 0, none⟩) n c) 35 1 n (uv y.1.2.2)] ++ oths g w)) (fun y => n - y.1.2.1) (⟨(k0, 1, xs), by dsimp only; omega, hl, fun p _ => rfl, hK2.symm⟩) ⟨rfl, rfl, rfl, rfl, trivial⟩ (fun w1 hw => hw) ?_
    rintro ⟨⟨k, j, ys⟩, ⟨hj1, hj2, hj3, hj4⟩, hly, hI, hT⟩
    dsimp only at hj1 hj2 hj3 hj4 hly hI hT ⊢
    refine TC.seq_ (TC.seq_ (TC.region ?_))
    refine TL.mv ?_
    refine TL.mv ?_
    refine TL.val rfl rfl rfl (gives_len rfl Try.underlying31 rfl) ?_
    refine TL.vsplit rfl rfl rfl (gives_bin rfl rfl rfl (fun w => bin_lss w)) (fun h32 => ?_) (fun h32 => ?_)
    ·have q32 := of_decide_eq_true h32
     refine TL.end_ (TX.then_ (TC.condT rfl (TC.skip_ (TX.then_ (TC.seq_ (TC.block (TC.seq_ ?_)))))))
     have hst := cpt_step (xs := xs) (k := k0 + j) (by omega) (by omega)
     have e1 := hI (k0 + j) (by omega)
     have e2 := hI (k0 + j - 1) (by omega)
     have e3 : dx ys (k0 + (j - 1)) = dx ys (k0 + j - 1) := by congr 1; omega
     rcases Classical.em (dx ys (k0 + j) ≠ dx ys (k0 + (j - 1))) with p2 | p2
     ·have hc1 : ∀ p, k0 + (j + 1) - 1 ≤ p → dx (ys.set k (dx ys (k0 + j))) p = dx xs p := fun p hp => by rw [dx_set (by omega), if_neg (by omega)]; exact hI p (by omega)
      have hc2 : (ys.set k (dx ys (k0 + j))).take (k + 1) = cpt (xs.take (k0 + (j + 1))) := by
       rw [take_set_dx (by omega), hT, e1, show k0 + (j + 1) = k0 + j + 1 from rfl, hst, if_neg (by omega)]
      refine TC.quiet_ (E' := ?_) (by kernel_rfl) (by kernel_rfl) (fun w hw => hw.drawn _) ?_ ?_
      rotate_left
      ·refine TQ.val rfl rfl rfl (gives_move rfl rfl) ?_
       refine TQ.val rfl rfl rfl (gives_move rfl rfl) ?_
       refine TQ.val rfl rfl rfl (gives_at (v := .pointer (some ⟨g, k0 + j, none⟩)) rfl rfl rfl (fun w => at_rowO Try.underlying31 us9sz35 g _ _ _ j (by omega) rfl w)) ?_
       refine TQ.val rfl rfl rfl (pm_loadU (k := 0) (i := k0 + j) rfl rfl us9ag35 rfl (by omega)) ?_
       refine TQ.val rfl rfl rfl (gives_move rfl rfl) ?_
       refine TQ.val rfl rfl rfl (gives_move rfl rfl) ?_
       refine TQ.val rfl rfl rfl (gives_bin rfl rfl rfl (fun w => bin_sub_ (r := ((j - 1 : Nat) : Int)) (by simp only [IntKind.wrap_i64]; omega) w)) ?_
       refine TQ.val rfl rfl rfl (gives_at (v := .pointer (some ⟨g, k0 + (j - 1), none⟩)) rfl rfl rfl (fun w => at_rowO Try.underlying31 us9sz35 g _ _ _ (j - 1) (by omega) rfl w)) ?_
       refine TQ.val rfl rfl rfl (pm_loadU (k := 0) (i := k0 + (j - 1)) rfl rfl us9ag35 rfl (by omega)) ?_
       refine TQ.val rfl rfl rfl (gives_bin rfl rfl rfl (fun w => bin_neq_t (p2) w)) ?_
       exact TQ.end_
      refine TX.then_ (TC.condT rfl (TC.seq_ (TC.region ?_)))
      iterate 4 (first | refine TL.mv ?_)
      refine TL.val rfl rfl rfl (gives_at (v := .pointer (some ⟨g, k0 + j, none⟩)) rfl rfl rfl (fun w => at_rowO Try.underlying31 us9sz35 g _ _ _ j (by omega) rfl w)) ?_
      refine TL.val rfl rfl rfl (pm_loadU (k := 0) (i := k0 + j) rfl rfl us9ag35 rfl (by omega)) ?_
      refine TL.val rfl rfl rfl (gives_at (v := .pointer (some ⟨g, k, none⟩)) rfl rfl rfl (fun w => at_row Try.underlying31 us9sz35 g _ _ k (by omega) rfl w)) ?_
      refine TL.uset (k := 0) (i := k) rfl rfl rfl rfl rfl rfl us9sz35 (by omega) ?_
      refine TL.end_ (TX.then_ (TC.region ?_))
      refine TL.mv ?_
      refine TL.val rfl rfl rfl (gives_bin rfl rfl rfl (fun w => bin_add_ (r := ((k + 1 : Nat) : Int)) (by simp only [IntKind.wrap_i64]; omega) w)) ?_
      refine TL.as_ ?_
      refine TL.end_ (TX.in_normal (TX.then_ (TC.region ?_)))
      refine TL.mv ?_
      refine TL.val rfl rfl rfl (gives_bin rfl rfl rfl (fun w => bin_add_ (r := ((j + 1 : Nat) : Int)) (by simp only [IntKind.wrap_i64]; omega) w)) ?_
      refine TL.as_ ?_
      refine TL.end_ ?_
      exact TX.round (⟨(k + 1, j + 1, ys.set k (dx ys (k0 + j))), by dsimp only; omega, by rw [List.length_set]; exact hly, hc1, hc2⟩) (by show n - (j + 1) < n - j; omega) ⟨rfl, rfl, rfl, rfl, trivial⟩ (fun w1 hw => hw)
     ·have hd1 : ∀ p, k0 + (j + 1) - 1 ≤ p → dx ys p = dx xs p := fun p hp => hI p (by omega)
      have hd2 : ys.take k = cpt (xs.take (k0 + (j + 1))) := by rw [hT, show k0 + (j + 1) = k0 + j + 1 from rfl, hst, if_pos (by omega)]
      refine TC.quiet_ (E' := ?_) (by kernel_rfl) (by kernel_rfl) (fun w hw => hw.drawn _) ?_ ?_
      rotate_left
      ·refine TQ.val rfl rfl rfl (gives_move rfl rfl) ?_
       refine TQ.val rfl rfl rfl (gives_move rfl rfl) ?_
       refine TQ.val rfl rfl rfl (gives_at (v := .pointer (some ⟨g, k0 + j, none⟩)) rfl rfl rfl (fun w => at_rowO Try.underlying31 us9sz35 g _ _ _ j (by omega) rfl w)) ?_
       refine TQ.val rfl rfl rfl (pm_loadU (k := 0) (i := k0 + j) rfl rfl us9ag35 rfl (by omega)) ?_
       refine TQ.val rfl rfl rfl (gives_move rfl rfl) ?_
       refine TQ.val rfl rfl rfl (gives_move rfl rfl) ?_
       refine TQ.val rfl rfl rfl (gives_bin rfl rfl rfl (fun w => bin_sub_ (r := ((j - 1 : Nat) : Int)) (by simp only [IntKind.wrap_i64]; omega) w)) ?_
       refine TQ.val rfl rfl rfl (gives_at (v := .pointer (some ⟨g, k0 + (j - 1), none⟩)) rfl rfl rfl (fun w => at_rowO Try.underlying31 us9sz35 g _ _ _ (j - 1) (by omega) rfl w)) ?_
       refine TQ.val rfl rfl rfl (pm_loadU (k := 0) (i := k0 + (j - 1)) rfl rfl us9ag35 rfl (by omega)) ?_
       refine TQ.val rfl rfl rfl (gives_bin rfl rfl rfl (fun w => bin_neq_f (by omega) w)) ?_
       exact TQ.end_
      refine TX.then_ (TC.condF rfl (TC.skip_ (TX.in_normal (TX.then_ (TC.region ?_)))))
      refine TL.mv ?_
      refine TL.val rfl rfl rfl (gives_bin rfl rfl rfl (fun w => bin_add_ (r := ((j + 1 : Nat) : Int)) (by simp only [IntKind.wrap_i64]; omega) w)) ?_
      refine TL.as_ ?_
      refine TL.end_ ?_
      exact TX.round (⟨(k, j + 1, ys), by dsimp only; omega, hly, hd1, hd2⟩) (by show n - (j + 1) < n - j; omega) ⟨rfl, rfl, rfl, rfl, trivial⟩ (fun w1 hw => hw)
    ·have q32 := of_decide_eq_false h32
     obtain rfl : j = n - k0 := by omega
     have hC : ys.take k = cpt xs := by rw [hT, List.take_of_length_le (by omega)]
     refine TL.end_ (TX.then_ (TC.condF rfl (TC.exit_ (TX.then_exit (TX.then_exit (TX.in_same (TX.then_ (TC.seq_ (TC.region ?_)))))))))
     refine TL.mv ?_
     refine TL.mv ?_
     refine TL.val rfl rfl rfl (gives_tail (k := k) rfl rfl rfl rfl Try.underlying31 us9sz35 (by have := h.obj.2.1; omega) (by omega)) ?_
     refine TL.rowclear (k := 0) (z := .int .u32 0) (zs := uv (List.replicate (n - k) 0)) rfl rfl rfl rfl Try.underlying31 us9zv35 ((zeroCells_one _ _).trans (by simp [uv])) (uv_one _) (by omega) rfl (by rw [uv_len, uv_len, List.length_replicate]; omega) (xs' := uv (ys.take k ++ List.replicate (n - k) 0)) (by rw [uv_len, List.length_replicate, List.drop_eq_nil_of_le (by rw [uv_len]; omega), List.append_nil]; simp [uv]) ?_
     try dsimp only [List.set_cons_zero]
     refine TL.end_ (TX.then_ (TC.seq_ (TC.region ?_)))
     refine TL.mv ?_
     refine TL.mv ?_
     refine TL.rowhead (k := 0) (hi := k) (size := 1) (xs' := uv (cpt xs)) rfl rfl rfl rfl rfl rfl Try.underlying31 us9sz35 rfl (by omega) h.obj.2.1 (by rw [Nat.mul_one]; unfold uv; rw [← List.map_take, List.take_left' (by rw [List.length_take]; omega), hC]) ?_
     try dsimp only [List.set_cons_zero]
     refine TL.as_ ?_
     refine TL.end_ (TX.then_ (TC.ret_ (TX.in_ret (TX.then_ret (TX.then_ret (TX.in_ret (TX.then_ret ?_)))))))
     have hkl : k = (cpt xs).length := by rw [← hC, List.length_take]; omega
     subst hkl
     exact ret_tmp Try.results51 rfl (fun w1 hw => ⟨rfl, pm_rowAt hw (k := 0) rfl, hw.mapEnd (fun q hq => by simp [hq])⟩)
   ·have hK2 : cpt (xs.take (k0 + 1)) = xs.take (k0 + 1) := by rw [hst, if_neg (fun hh => p1 hh.symm), hK]; exact (take_snoc_dx (by omega)).symm
    refine TC.quiet_ (E' := ?_) (by kernel_rfl) (by kernel_rfl) (fun w hw => hw.drawn _) ?_ ?_
    rotate_left
    ·refine TQ.val rfl rfl rfl (gives_move rfl rfl) ?_
     refine TQ.val rfl rfl rfl (gives_move rfl rfl) ?_
     refine TQ.val rfl rfl rfl (gives_at (v := .pointer (some ⟨g, k0, none⟩)) rfl rfl rfl (fun w => at_row Try.underlying31 us9sz35 g _ _ k0 (by omega) rfl w)) ?_
     refine TQ.val rfl rfl rfl (pm_loadU (k := 0) (i := k0) rfl rfl us9ag35 rfl (by omega)) ?_
     refine TQ.val rfl rfl rfl (gives_move rfl rfl) ?_
     refine TQ.val rfl rfl rfl (gives_move rfl rfl) ?_
     refine TQ.val rfl rfl rfl (gives_bin rfl rfl rfl (fun w => bin_sub_ (r := ((k0 - 1 : Nat) : Int)) (by simp only [IntKind.wrap_i64]; omega) w)) ?_
     refine TQ.val rfl rfl rfl (gives_at (v := .pointer (some ⟨g, k0 - 1, none⟩)) rfl rfl rfl (fun w => at_row Try.underlying31 us9sz35 g _ _ (k0 - 1) (by omega) rfl w)) ?_
     refine TQ.val rfl rfl rfl (pm_loadU (k := 0) (i := k0 - 1) rfl rfl us9ag35 rfl (by omega)) ?_
     refine TQ.val rfl rfl rfl (gives_bin rfl rfl rfl (fun w => bin_eql_f (p1) w)) ?_
     exact TQ.end_
    refine TX.then_ (TC.condF rfl (TC.skip_ (TX.in_normal (TX.then_ (TC.region ?_)))))
    refine TL.mv ?_
    refine TL.val rfl rfl rfl (gives_bin rfl rfl rfl (fun w => bin_add_ (r := ((k0 + 1 : Nat) : Int)) (by simp only [IntKind.wrap_i64]; omega) w)) ?_
    refine TL.as_ ?_
    refine TL.end_ ?_
    exact TX.round (⟨k0 + 1, by omega, by omega, hK2⟩) (by show n - (k0 + 1) < n - k0; omega) ⟨rfl, rfl, trivial⟩ (fun w1 hw => hw)
  ·have q13 := of_decide_eq_false h13
   obtain rfl : k0 = n := by omega
   have hE : cpt xs = xs := by rw [List.take_of_length_le (by omega)] at hK; exact hK
   refine TL.end_ (TX.then_ (TC.condF rfl (TC.exit_ (TX.then_exit (TX.then_exit (TX.in_same (TX.then_ (TC.seq_ (TC.region ?_)))))))))
   refine TL.mv ?_
   refine TL.as_ ?_
   refine TL.end_ (TX.then_ (TC.ret_ ?_))
   exact ret_tmp Try.results51 rfl (fun w1 hw => by rw [hE, hl]; exact ⟨rfl, pm_rowAt hw (k := 0) rfl, hw.mapEnd (fun q hq => by simp [hq])⟩)
end Go.Proofs.Ytleckflmckbheaa

namespace Go.Proofs.Ytleckflmckbheaa
theorem cls_snoc_eq {R : Int → Int} {P : List Int} {a : Int} : cls R (P ++ [a]) = (ks R (P ++ [a])).map fun r => (P.filter fun x => decide (R x = r)) ++ (if R a = r then [a] else []) := by
  unfold cls
  refine List.map_congr_left fun r _ => ?_
  rw [List.filter_append]
  congr 1
  by_cases h : R a = r
  · rw [if_pos h, List.filter_cons, if_pos (by simpa using h)]; rfl
  · rw [if_neg h, List.filter_cons, if_neg (by simpa using h)]; rfl
theorem cls_len (R : Int → Int) (P : List Int) : (cls R P).length = (ks R P).length := by unfold cls; rw [List.length_map]
theorem cls_old {R : Int → Int} {P : List Int} {a : Int} {k : Nat} (h : (ks R P)[k]? = some (R a)) : cls R (P ++ [a]) = (cls R P).set k ((cls R P).getD k [] ++ [a]) := by
  have hm : R a ∈ ks R P := List.mem_of_getElem? h
  rw [cls_snoc_eq, ks_snoc, if_pos hm]
  refine List.ext_getElem? fun j => ?_
  rw [List.getElem?_map, List.getElem?_set]
  have hlt : k < (ks R P).length := (List.getElem?_eq_some_iff.1 h).1
  by_cases e : k = j
  · subst e
    rw [if_pos rfl, if_pos (by rw [cls_len]; exact hlt), h, Option.map_some, if_pos rfl]
    congr 2
    unfold cls
    rw [List.getD_eq_getElem?_getD, List.getElem?_map, h]
    rfl
  · rw [if_neg e]
    unfold cls
    rw [List.getElem?_map]
    cases hj : (ks R P)[j]? with
    | none => rfl
    | some r =>
      have hne : R a ≠ r := by
        rintro rfl
        exact e ((List.getElem?_inj hlt (nodup_ks R P)).1 (h.trans hj.symm))
      rw [Option.map_some, Option.map_some, if_neg hne, List.append_nil]
theorem cls_new {R : Int → Int} {P : List Int} {a : Int} (h : R a ∉ ks R P) : cls R (P ++ [a]) = cls R P ++ [[a]] := by
  rw [cls_snoc_eq, ks_snoc, if_neg h, List.map_append]
  congr 1
  · unfold cls
    refine List.map_congr_left fun r hr => ?_
    rw [if_neg (fun (hh : R a = r) => h (by rw [hh]; exact hr)), List.append_nil]
  · show [(P.filter fun x => decide (R x = R a)) ++ (if R a = R a then [a] else [])] = [[a]]
    rw [if_pos rfl]
    have : (P.filter fun x => decide (R x = R a)) = [] := List.filter_eq_nil_iff.2 fun x hx hh => h (mem_ks.2 ⟨x, hx, of_decide_eq_true hh⟩)
    rw [this]
    rfl
def IX (f : Int → Option Int) (R : Int → Int) (P : List Int) : Prop := ∀ r z, f r = some z ↔ ∃ j : Nat, z = (j : Int) ∧ (ks R P)[j]? = some r
theorem ix_nil (R : Int → Int) : IX (fun _ => none) R [] := fun r z => by
  constructor
  · intro h; cases h
  · rintro ⟨j, _, h⟩
    cases h
theorem IX.none {f : Int → Option Int} {R : Int → Int} {P : List Int} (h : IX f R P) {r : Int} (hr : f r = none) : r ∉ ks R P := fun hm => by
  obtain ⟨j, hj⟩ := List.getElem?_of_mem hm
  have := (h r j).2 ⟨j, rfl, hj⟩
  rw [hr] at this
  cases this
theorem IX.old {f : Int → Option Int} {R : Int → Int} {P : List Int} (h : IX f R P) {a z : Int} (hr : f (R a) = some z) : ∃ j : Nat, z = (j : Int) ∧ (ks R P)[j]? = some (R a) ∧ IX f R (P ++ [a]) := by
  obtain ⟨j, hj, hk⟩ := (h _ _).1 hr
  refine ⟨j, hj, hk, ?_⟩
  have : ks R (P ++ [a]) = ks R P := by rw [ks_snoc, if_pos (List.mem_of_getElem? hk)]
  intro r z
  rw [this]
  exact h r z
theorem IX.new {f : Int → Option Int} {R : Int → Int} {P : List Int} (h : IX f R P) {a : Int} (hr : f (R a) = .none) : IX (fun v => if v = R a then some (((ks R P).length : Nat) : Int) else f v) R (P ++ [a]) := by
  have hn := h.none hr
  have e : ks R (P ++ [a]) = ks R P ++ [R a] := by rw [ks_snoc, if_neg hn]
  intro r z
  rw [e]
  show (if r = R a then some (((ks R P).length : Nat) : Int) else f r) = some z ↔ _
  by_cases hra : r = R a
  · subst hra
    rw [if_pos rfl]
    constructor
    · intro hz
      cases hz
      exact ⟨_, rfl, by rw [List.getElem?_append_right (Nat.le_refl _), Nat.sub_self]; rfl⟩
    · rintro ⟨j, rfl, hj⟩
      rcases Nat.lt_or_ge j (ks R P).length with hl | hl
      · rw [List.getElem?_append_left hl] at hj
        exact absurd (List.mem_of_getElem? hj) hn
      · have : j < (ks R P ++ [R a]).length := (List.getElem?_eq_some_iff.1 hj).1
        rw [List.length_append] at this
        simp only [List.length_cons, List.length_nil] at this
        have : j = (ks R P).length := by omega
        rw [this]
  · rw [if_neg hra]
    constructor
    · intro hz
      obtain ⟨j, hj, hk⟩ := (h _ _).1 hz
      exact ⟨j, hj, by rw [List.getElem?_append_left (List.getElem?_eq_some_iff.1 hk).1]; exact hk⟩
    · rintro ⟨j, hj, hk⟩
      rcases Nat.lt_or_ge j (ks R P).length with hl | hl
      · rw [List.getElem?_append_left hl] at hk
        exact (h _ _).2 ⟨j, hj, hk⟩
      · rw [List.getElem?_append_right hl] at hk
        have := List.mem_of_getElem? hk
        rw [List.mem_singleton] at this
        exact absurd this hra
def asc (l : List Int) : List Int := cpt (l.mergeSort fun x y => decide (x ≤ y))
theorem mem_asc (l : List Int) (x : Int) : x ∈ asc l ↔ x ∈ l := by
  unfold asc
  rw [mem_cpt, List.mem_mergeSort]
theorem asc_asc (l : List Int) : (asc l).Pairwise (· < ·) := by
  refine cpt_asc _ ?_
  have := List.pairwise_mergeSort (le := fun x y : Int => decide (x ≤ y)) (fun a b c h1 h2 => by simp at h1 h2 ⊢; omega) (fun a b => by simp; omega) l
  exact this.imp fun h => of_decide_eq_true h
theorem asc_of {l xs : List Int} (hp : xs.Perm l) (hs : xs.Pairwise (· ≤ ·)) : cpt xs = asc l :=
  asc_eq _ _ (cpt_asc _ hs) (asc_asc l) fun x => by rw [mem_cpt, mem_asc]; exact hp.mem_iff
def clsL (l : List Fc) : List (List Int) := cls (repF l) (asc (adrs l))
theorem asc_nodup (l : List Int) : (asc l).Nodup := (asc_asc l).imp fun h => Int.ne_of_lt h
theorem adrs_snoc (l : List Fc) (f : Fc) : adrs (l ++ [f]) = adrs l ++ [f.a, f.b] := by simp [adrs]
theorem adrs_len (l : List Fc) : (adrs l).length = 2 * l.length := by
  induction l with
  | nil => rfl
  | cons f l ih => 
    have : adrs (f :: l) = f.a :: f.b :: adrs l := rfl
    rw [this, List.length_cons, List.length_cons, List.length_cons, ih]; omega
end Go.Proofs.Ytleckflmckbheaa

namespace Go.Proofs.Ytleckflmckbheaa
open Go.RowKit
set_option maxRecDepth 20000
theorem wf32 {x : Int} (h : 0 ≤ x ∧ x ≤ 4294967295) : (Lit.int .u32 x).wf = true := by simp [Lit.wf, IntKind.min, IntKind.max, IntKind.signed, IntKind.bits]; omega
theorem imS : IMap Try.prog 60 35 35 .u32 .u32 := ⟨Try.underlying60, Try.underlying35, Try.underlying35, fun w => rfl⟩
theorem rt_range {f : Int → Option Int} {R : Int → Int} (hR : Roots f R) (hrg : ∀ x p, f x = some p → 0 ≤ p ∧ p ≤ 4294967295) {a : Int} (ha : 0 ≤ a ∧ a ≤ 4294967295) : 0 ≤ R a ∧ R a ≤ 4294967295 := by
  obtain ⟨n, hn⟩ := hR a
  generalize R a = r at hn
  induction hn with
  | here h => exact ha
  | step h t ih => exact ih (hrg _ _ h)
def UF (ob : Obj) (n : Nat) (R : Int → Int) : Prop := ∃ f : Int → Option Int, MapII Try.prog 35 35 .u32 .u32 ob n f ∧ Roots f R ∧ ∀ x p, f x = some p → 0 ≤ p ∧ p ≤ 4294967295
theorem unrnm40 : (Try.f40.name == "runtime.NumGoroutine") = false := by decide
theorem unrbd40 : Try.f40.body.isNone = false := rfl
set_option maxHeartbeats 1000000 in
theorem root_any (g : Nat) (ob : Obj) (n : Nat) (R : Int → Int) (w : World) (hb : w.heap[g]? = some ob) (hu : UF ob n R) (hn : n < maxLen) (a : Int) (ha : 0 ≤ a ∧ a ≤ 4294967295) :
    Calls Try.prog 40 #[.map (some g), .int .u32 a] w fun e w' => ∃ ob', e = .returned (.int .u32 (R a)) ∧ UF ob' n R ∧ w'.heap[g]? = some ob' ∧ w.grownBy w' (some g) := by
  obtain ⟨f, hm, hR, hrg⟩ := hu
  obtain ⟨d, hd⟩ := hR a
  refine begin_ (vs := [.map (some g), .int .u32 a]) (I := Pm ⟨wbut w g, g⟩ (.oth g ob :: oths g w)) Try.func40 rfl rfl rfl ?_ (Pm.mapStart hb)
  refine TC.seq_ ?_
  refine TC.region ?_
  refine TL.val rfl rfl rfl (gives_assign rfl rfl) ?_
  refine TL.end_ ?_
  refine TX.then_ ?_
  refine TC.block ?_
  refine TC.loop_ (α := {y : Int × Obj × (Int → Option Int) × Nat // MapII Try.prog 35 35 .u32 .u32 y.2.1 n y.2.2.1 ∧ Roots y.2.2.1 R ∧ (∀ z p, y.2.2.1 z = some p → 0 ≤ p ∧ p ≤ 4294967295) ∧ R y.1 = R a ∧ (0 ≤ y.1 ∧ y.1 ≤ 4294967295) ∧ RtN y.2.2.1 y.1 (R y.1) y.2.2.2}) (fun y => [(0, .map (some g)), (1, .int .u32 y.1.1)]) (fun y => Pm ⟨wbut w g, g⟩ ([.oth g y.1.2.1] ++ oths g w)) (fun y => y.1.2.2.2) (⟨(a, ob, f, d), hm, hR, hrg, rfl, ha, hd⟩) ⟨rfl, rfl, trivial⟩ (fun w1 hw => hw) ?_
  rintro ⟨⟨x, ob, f, d⟩, hm, hR, hrg, hRx, hx, hd⟩
  dsimp only at hm hR hrg hRx hx hd ⊢
  refine TC.block ?_
  refine TC.seq_ ?_
  rcases ho : f x with _ | p
  · have hfx := ho
    refine TC.region ?_
    refine TL.val rfl rfl rfl (gives_move rfl rfl) ?_
    refine TL.val rfl rfl rfl (gives_move rfl rfl) ?_
    refine TL.val rfl rfl rfl (gives_lookNone rfl rfl rfl imS (i := 0) rfl hm (wf32 hx) hfx) ?_
    refine TL.val rfl rfl rfl (gives_move rfl rfl) ?_
    refine TL.val rfl rfl rfl (gives_extract rfl rfl rfl) ?_
    refine TL.val rfl rfl rfl (gives_extract rfl rfl rfl) ?_
    refine TL.val rfl rfl rfl (gives_assign rfl rfl) ?_
    refine TL.val rfl rfl rfl (gives_assign rfl rfl) ?_
    refine TL.end_ ?_
    refine TX.then_ ?_
    refine TC.seq_ ?_
    refine TC.seq_ ?_
    refine TC.region ?_
    refine TL.val rfl rfl rfl (gives_move rfl rfl) ?_
    refine TL.val rfl rfl rfl (gives_boolnot rfl rfl) ?_
    refine TL.end_ ?_
    refine TX.then_ ?_
    refine TC.condT rfl ?_
    refine TC.seq_ ?_
    refine TC.region ?_
    refine TL.val rfl rfl rfl (gives_move rfl rfl) ?_
    refine TL.val rfl rfl rfl (gives_assign rfl rfl) ?_
    refine TL.end_ ?_
    refine TX.then_ ?_
    refine TC.ret_ ?_
    refine TX.then_ret ?_
    refine TX.in_ret ?_
    refine TX.then_ret ?_
    refine TX.in_ret ?_
    exact ret_tmp Try.results40 rfl (fun w1 hw => ⟨ob, by rw [← hRx]; exact congrArg (fun z => Ending.returned (Value.int .u32 z)) (hd.det (.here hfx)).1.symm, ⟨f, hm, hR, hrg⟩, (hw.at_ (k := 0) rfl).1, hw.mapEnd (fun q hq => by simp [hq])⟩)
  · have hfx := ho
    obtain ⟨d1, hd1⟩ : ∃ d1, RtN f p (R p) d1 := hR p
    have hde := (hd.det (.step hfx (hR.step hfx ▸ hd1 : RtN f p (R x) d1))).2
    have hstep : RtN f p (R p) (d - 1) := by rw [hde]; exact hd1
    refine TC.region ?_
    refine TL.val rfl rfl rfl (gives_move rfl rfl) ?_
    refine TL.val rfl rfl rfl (gives_move rfl rfl) ?_
    refine TL.val rfl rfl rfl (gives_lookSome rfl rfl rfl imS (i := 0) rfl hm (wf32 hx) hfx) ?_
    refine TL.val rfl rfl rfl (gives_move rfl rfl) ?_
    refine TL.val rfl rfl rfl (gives_extract rfl rfl rfl) ?_
    refine TL.val rfl rfl rfl (gives_extract rfl rfl rfl) ?_
    refine TL.val rfl rfl rfl (gives_assign rfl rfl) ?_
    refine TL.val rfl rfl rfl (gives_assign rfl rfl) ?_
    refine TL.end_ ?_
    refine TX.then_ ?_
    refine TC.seq_ ?_
    refine TC.seq_ ?_
    refine TC.region ?_
    refine TL.val rfl rfl rfl (gives_move rfl rfl) ?_
    refine TL.val rfl rfl rfl (gives_boolnot rfl rfl) ?_
    refine TL.end_ ?_
    refine TX.then_ ?_
    refine TC.condF rfl ?_
    refine TC.skip_ ?_
    refine TX.then_ ?_
    refine TC.seq_ ?_
    refine TC.seq_ ?_
    rcases ho2 : f p with _ | q
    · have hfp := ho2
      refine TC.region ?_
      refine TL.val rfl rfl rfl (gives_move rfl rfl) ?_
      refine TL.val rfl rfl rfl (gives_move rfl rfl) ?_
      refine TL.val rfl rfl rfl (gives_lookNone rfl rfl rfl imS (i := 0) rfl hm (wf32 (hrg _ _ hfx)) hfp) ?_
      refine TL.val rfl rfl rfl (gives_move rfl rfl) ?_
      refine TL.val rfl rfl rfl (gives_extract rfl rfl rfl) ?_
      refine TL.val rfl rfl rfl (gives_extract rfl rfl rfl) ?_
      refine TL.val rfl rfl rfl (gives_assign rfl rfl) ?_
      refine TL.val rfl rfl rfl (gives_assign rfl rfl) ?_
      refine TL.end_ ?_
      refine TX.then_ ?_
      refine TC.seq_ ?_
      refine TC.region ?_
      refine TL.val rfl rfl rfl (gives_move rfl rfl) ?_
      refine TL.end_ ?_
      refine TX.then_ ?_
      refine TC.condF rfl ?_
      refine TC.skip_ ?_
      refine TX.then_ ?_
      refine TC.region ?_
      refine TL.val rfl rfl rfl (gives_move rfl rfl) ?_
      refine TL.val rfl rfl rfl (gives_assign rfl rfl) ?_
      refine TL.end_ ?_
      refine TX.in_normal ?_
      exact TX.round (⟨(p, ob, f, d - 1), hm, hR, hrg, (hR.step hfx).symm.trans hRx, hrg _ _ hfx, hstep⟩) (by show d - 1 < d; omega) ⟨rfl, rfl, trivial⟩ (fun w1 hw => hw)
    · have hfp := ho2
      have hnear : RtN (upd f x q) p (R p) (d - 1) := RtN.near ⟨_, hd⟩ hstep (by omega)
      refine TC.region ?_
      refine TL.val rfl rfl rfl (gives_move rfl rfl) ?_
      refine TL.val rfl rfl rfl (gives_move rfl rfl) ?_
      refine TL.val rfl rfl rfl (gives_lookSome rfl rfl rfl imS (i := 0) rfl hm (wf32 (hrg _ _ hfx)) hfp) ?_
      refine TL.val rfl rfl rfl (gives_move rfl rfl) ?_
      refine TL.val rfl rfl rfl (gives_extract rfl rfl rfl) ?_
      refine TL.val rfl rfl rfl (gives_extract rfl rfl rfl) ?_
      refine TL.val rfl rfl rfl (gives_assign rfl rfl) ?_
      refine TL.val rfl rfl rfl (gives_assign rfl rfl) ?_
      refine TL.end_ ?_
      refine TX.then_ ?_
      refine TC.seq_ ?_
      refine TC.region ?_
      refine TL.val rfl rfl rfl (gives_move rfl rfl) ?_
      refine TL.end_ ?_
      refine TX.then_ ?_
      refine TC.condT rfl ?_
      refine TC.region ?_
      refine TL.val rfl rfl rfl (gives_move rfl rfl) ?_
      refine TL.val rfl rfl rfl (gives_move rfl rfl) ?_
      refine TL.val rfl rfl rfl (gives_move rfl rfl) ?_
      refine TL.mapset (i := 0) rfl rfl rfl rfl rfl rfl imS rfl mine_but hm hn (wf32 hx) (wf32 (hrg _ _ hfp)) (fun ob' hm' => ?_)
      rw [hfx] at hm'
      refine TL.end_ ?_
      refine TX.then_ ?_
      refine TC.region ?_
      refine TL.val rfl rfl rfl (gives_move rfl rfl) ?_
      refine TL.val rfl rfl rfl (gives_assign rfl rfl) ?_
      refine TL.end_ ?_
      refine TX.in_normal ?_
      exact TX.round (⟨(p, ob', upd f x q, d - 1), hm', hR.halve hfx hfp, (fun z r hz => by change (if z = x then some q else f z) = some r at hz; split at hz; (cases hz; exact hrg _ _ hfp); exact hrg _ _ hz), (hR.step hfx).symm.trans hRx, hrg _ _ hfx, hnear⟩) (by show d - 1 < d; omega) ⟨rfl, rfl, trivial⟩ (fun w1 hw => hw)
set_option maxHeartbeats 1000000 in
theorem join_any (g : Nat) (ob : Obj) (n : Nat) (R : Int → Int) (w : World) (hb0 : w.heap[g]? = some ob) (hu : UF ob n R) (hn : n < maxLen) (fc : Fc) (ha : 0 ≤ fc.a ∧ fc.a ≤ 4294967295) (hb : 0 ≤ fc.b ∧ fc.b ≤ 4294967295) :
    Calls Try.prog 36 #[.map (some g), .int .u32 fc.a, .int .u32 fc.b] w fun e w' => ∃ ob' n', e = .returned (.bool (decide (R fc.a ≠ R fc.b))) ∧ n' ≤ n + 1 ∧ UF ob' n' (joinR R fc) ∧ w'.heap[g]? = some ob' ∧ w.grownBy w' (some g) := by
  refine begin_ (vs := [.map (some g), .int .u32 fc.a, .int .u32 fc.b]) (I := Pm ⟨wbut w g, g⟩ (.oth g ob :: oths g w)) Try.func36 rfl rfl rfl ?_ (Pm.mapStart hb0)
  refine TC.seq_ ?_
  refine TC.region ?_
  refine TL.val rfl rfl rfl (gives_assign rfl rfl) ?_
  refine TL.end_ ?_
  refine TX.then_ ?_
  refine TC.seq_ ?_
  refine TC.region ?_
  refine TL.val rfl rfl rfl (gives_move rfl rfl) ?_
  refine TL.val rfl rfl rfl (gives_move rfl rfl) ?_
  refine TL.pcallObj (k := 0) (α := Unit) (fun _ => .int .u32 (R fc.a)) (fun _ ob2 => UF ob2 n R) rfl rfl rfl rfl rfl Try.func40 unrnm40 unrbd40 rfl mine_but (fun w1 hw hb1 => (root_any g ob n R w1 hb1 hu hn fc.a ha).mono fun e w2 ⟨ob2, h1, h2, h3, h4⟩ => ⟨(), ob2, h1, h2, h3, h4⟩) ?_
  rintro ⟨⟩ ob1 hu1
  dsimp only [List.set_cons_zero] at hu1 ⊢
  refine TL.val rfl rfl rfl (gives_move rfl rfl) ?_
  refine TL.val rfl rfl rfl (gives_move rfl rfl) ?_
  refine TL.pcallObj (k := 0) (α := Unit) (fun _ => .int .u32 (R fc.b)) (fun _ ob2 => UF ob2 n R) rfl rfl rfl rfl rfl Try.func40 unrnm40 unrbd40 rfl mine_but (fun w1 hw hb1 => (root_any g ob1 n R w1 hb1 hu1 hn fc.b hb).mono fun e w2 ⟨ob2, h1, h2, h3, h4⟩ => ⟨(), ob2, h1, h2, h3, h4⟩) ?_
  rintro ⟨⟩ ob2 hu2
  dsimp only [List.set_cons_zero] at hu2 ⊢
  refine TL.val rfl rfl rfl (gives_assign rfl rfl) ?_
  refine TL.val rfl rfl rfl (gives_assign rfl rfl) ?_
  refine TL.end_ ?_
  refine TX.then_ ?_
  refine TC.seq_ ?_
  refine TC.seq_ ?_
  refine TC.region ?_
  refine TL.val rfl rfl rfl (gives_move rfl rfl) ?_
  refine TL.val rfl rfl rfl (gives_move rfl rfl) ?_
  refine TL.vsplit rfl rfl rfl (gives_bin rfl rfl rfl (fun w => bin_eql w)) (fun h15 => ?_) (fun h15 => ?_)
  · have q15 := of_decide_eq_true h15
    refine TL.end_ ?_
    refine TX.then_ ?_
    refine TC.condT rfl ?_
    refine TC.seq_ ?_
    refine TC.region ?_
    refine TL.val rfl rfl rfl (gives_assign rfl rfl) ?_
    refine TL.end_ ?_
    refine TX.then_ ?_
    refine TC.ret_ ?_
    refine TX.then_ret ?_
    exact ret_tmp Try.results36 rfl (fun w1 hw => ⟨ob2, n, by rw [decide_eq_false (fun h => h q15)], Nat.le_succ _, by rw [joinR_same q15]; exact hu2, (hw.at_ (k := 0) rfl).1, hw.mapEnd (fun q hq => by simp [hq])⟩)
  · have q15 := of_decide_eq_false h15
    refine TL.end_ ?_
    refine TX.then_ ?_
    refine TC.condF rfl ?_
    refine TC.skip_ ?_
    refine TX.then_ ?_
    refine TC.seq_ ?_
    refine TC.region ?_
    refine TL.val rfl rfl rfl (gives_move rfl rfl) ?_
    refine TL.val rfl rfl rfl (gives_move rfl rfl) ?_
    refine TL.val rfl rfl rfl (gives_move rfl rfl) ?_
    obtain ⟨f, hm, hR, hrg⟩ := hu2
    have hfa := (hR.idem fc.a).2
    have hfb := (hR.idem fc.b).2
    have hra := rt_range hR hrg ha
    have hrb := rt_range hR hrg hb
    refine TL.mapset (i := 0) rfl rfl rfl rfl rfl rfl imS rfl mine_but hm hn (wf32 hra) (wf32 hrb) (fun ob3 hm3 => ?_)
    rw [hfa] at hm3
    have hu3 : UF ob3 (n + 1) (joinR R fc) := ⟨upd f (R fc.a) (R fc.b), hm3, by unfold joinR; rw [if_neg q15]; exact hR.join hfa hfb q15, fun z r hz => by change (if z = R fc.a then some (R fc.b) else f z) = some r at hz; split at hz; (cases hz; exact hrb); exact hrg _ _ hz⟩
    refine TL.end_ ?_
    refine TX.then_ ?_
    refine TC.seq_ ?_
    refine TC.region ?_
    refine TL.val rfl rfl rfl (gives_assign rfl rfl) ?_
    refine TL.end_ ?_
    refine TX.then_ ?_
    refine TC.ret_ ?_
    exact ret_tmp Try.results36 rfl (fun w1 hw => ⟨ob3, n + 1, by rw [decide_eq_true q15], Nat.le_refl _, hu3, (hw.at_ (k := 0) rfl).1, hw.mapEnd (fun q hq => by simp [hq])⟩)
end Go.Proofs.Ytleckflmckbheaa
