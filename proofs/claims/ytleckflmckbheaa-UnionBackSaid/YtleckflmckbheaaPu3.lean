/-
  Texts of the proof, joined: Us4, Us5, Bits, Us6, Us7.
-/
import Derived.Test.YtleckflmckbheaaPu2
import Derived.Test.YtleckflmckbheaaPu1
import Derived.Laws.BitsAllLaws
import Derived.Laws.BitsLemmas
namespace Go.Proofs.Ytleckflmckbheaa
open Go.RowKit
set_option linter.unusedVariables false
set_option linter.unusedSimpArgs false
set_option maxRecDepth 20000
/-- what lies at a is not greater than the rest -/
def Mn (a b : Nat) (xs : List Int) : Prop := ∀ k, a ≤ k → k < b → dx xs a ≤ dx xs k
theorem Mn.swap {a b i j : Nat} {xs : List Int} (h : Mn a b xs) (hb : b ≤ xs.length) (hi : a < i) (hi2 : i < b) (hj : a < j) (hj2 : j < b) : Mn a b (swp xs i j) := fun k k1 k2 => by
  rw [swp_dx (by omega) (by omega), swp_dx (by omega) (by omega), if_neg (by omega), if_neg (by omega)]
  split
  · exact h i (by omega) hi2
  · split
    · exact h j (by omega) hj2
    · exact h k k1 k2
theorem Mn.first {a b p : Nat} {xs : List Int} (hb : b ≤ xs.length) (hp : a ≤ p) (hp2 : p < b) (h : ∀ k, a ≤ k → k < b → dx xs p ≤ dx xs k) : Mn a b (swp xs a p) := fun k k1 k2 => by
  have e : dx (swp xs a p) a = dx xs p := by
    rw [swp_dx (by omega) (by omega)]
    by_cases c : a = p
    · rw [if_pos c, c]
    · rw [if_neg c, if_pos rfl]
  rw [e, swp_dx (by omega) (by omega)]
  split
  · exact h a (Nat.le_refl _) (by omega)
  · split
    · exact h p hp hp2
    · exact h k k1 k2
theorem us4sz35 (w : World) : (sizeOf 35).run Try.prog w = .ok 1 w := rfl
theorem us4ag35 (w : World) : (isAgg 35).run Try.prog w = .ok false w := rfl
theorem us4nm68 : (Try.f68.name == "runtime.NumGoroutine") = false := by decide
theorem us4bd68 : Try.f68.body.isNone = false := rfl
set_option maxHeartbeats 1000000 in
theorem peq_any (g n c : Nat) (xs : List Int) (w : World) (h : Rw 35 w g n c xs) (hn : n ≤ 1000000) (a b p : Nat) (hap : a ≤ p) (hpb : p < b) (hb : b ≤ n) (hmin : ∀ k, a ≤ k → k < b → dx xs p ≤ dx xs k) :
    Calls Try.prog 69 #[.slice (some ⟨g, 0, none⟩) n c, .int .i64 ((a : Nat) : Int), .int .i64 ((b : Nat) : Int), .int .i64 ((p : Nat) : Int)] w (RC (α := Nat) (fun x => .int .i64 ((x : Nat) : Int)) (fun x ys => Pin a b xs ys ∧ Eqs a b x ys ∧ Mn a b ys) 35 g n c w) := by
  have hl := h.len
  refine begin_ (vs := [.slice (some ⟨g, 0, none⟩) n c, .int .i64 ((a : Nat) : Int), .int .i64 ((b : Nat) : Int), .int .i64 ((p : Nat) : Int)]) (I := Pm ⟨wbut w g, g⟩ (.row (.slice (some ⟨g, 0, none⟩) n c) 35 1 n (uv xs) :: oths g w)) Try.func69 rfl rfl rfl ?_ (Pm.rowStart h)
  refine TC.seq_ ?_
  refine TC.region ?_
  refine TL.val rfl rfl rfl (gives_assign rfl rfl) ?_
  refine TL.end_ ?_
  refine TX.then_ ?_
  refine TC.join (α := Unit) (fun y => [(0, .slice (some ⟨g, 0, none⟩) n c), (1, .int .i64 ((a : Nat) : Int)), (2, .int .i64 ((b : Nat) : Int))]) (fun y => Pm ⟨wbut w g, g⟩ ([.row (.slice (some ⟨g, 0, none⟩) n c) 35 1 n (uv (swp xs a p))] ++ oths g w)) ?_ ?_
  · refine TC.held (ls := #[false, false, false, false, false, false, false, false, false, false, false, false, false, false, false, false]) (fun _ => True) (by kernel_rfl) rfl rfl (fun w hw => hw.drawn _) ?_
    refine TH.take (listed' := #[true, false, false, false, false, false, false, false, false, false, false, false, false, false, false, false]) 0 rfl (by kernel_rfl) (by kernel_rfl) (by kernel_rfl) rfl rfl rfl rfl (gives_move rfl rfl) (fun _ _ => trivial) ?_
    refine TH.take (listed' := #[true, true, false, false, false, false, false, false, false, false, false, false, false, false, false, false]) 1 rfl (by kernel_rfl) (by kernel_rfl) (by kernel_rfl) rfl rfl rfl rfl (gives_move rfl rfl) (fun _ _ => trivial) ?_
    refine TH.take (listed' := #[true, true, true, false, false, false, false, false, false, false, false, false, false, false, false, false]) 2 rfl (by kernel_rfl) (by kernel_rfl) (by kernel_rfl) rfl rfl rfl rfl (gives_move rfl rfl) (fun _ _ => trivial) ?_
    refine TH.take (listed' := #[true, true, true, true, false, false, false, false, false, false, false, false, false, false, false, false]) 3 rfl (by kernel_rfl) (by kernel_rfl) (by kernel_rfl) rfl rfl rfl rfl (gives_move rfl rfl) (fun _ _ => trivial) ?_
    refine TH.take (listed' := #[true, true, true, true, true, false, false, false, false, false, false, false, false, false, false, false]) 4 rfl (by kernel_rfl) (by kernel_rfl) (by kernel_rfl) rfl rfl rfl rfl (gives_move rfl rfl) (fun _ _ => trivial) ?_
    refine TH.take (listed' := #[true, true, true, true, true, true, false, false, false, false, false, false, false, false, false, false]) 5 rfl (by kernel_rfl) (by kernel_rfl) (by kernel_rfl) rfl rfl rfl rfl (gives_move rfl rfl) (fun _ _ => trivial) ?_
    refine TH.take (listed' := #[true, true, true, true, true, true, true, false, false, false, false, false, false, false, false, false]) 6 rfl (by kernel_rfl) (by kernel_rfl) (by kernel_rfl) rfl rfl rfl rfl (gives_at (v := .pointer (some ⟨g, p, none⟩)) rfl rfl rfl (fun w => at_row Try.underlying31 us4sz35 g _ _ p (by omega) rfl w)) (fun _ _ => trivial) ?_
    refine TH.take (listed' := #[true, true, true, true, true, true, true, false, true, false, false, false, false, false, false, false]) 8 rfl (by kernel_rfl) (by kernel_rfl) (by kernel_rfl) rfl rfl rfl rfl (gives_move rfl rfl) (fun _ _ => trivial) ?_
    refine TH.take (listed' := #[true, true, true, true, true, true, true, false, true, true, false, false, false, false, false, false]) 9 rfl (by kernel_rfl) (by kernel_rfl) (by kernel_rfl) rfl rfl rfl rfl (gives_move rfl rfl) (fun _ _ => trivial) ?_
    refine TH.take (listed' := #[true, true, true, true, true, true, true, false, true, true, true, false, false, false, false, false]) 10 rfl (by kernel_rfl) (by kernel_rfl) (by kernel_rfl) rfl rfl rfl rfl (gives_at (v := .pointer (some ⟨g, a, none⟩)) rfl rfl rfl (fun w => at_row Try.underlying31 us4sz35 g _ _ a (by omega) rfl w)) (fun _ _ => trivial) ?_
    refine TH.two' (listed1 := #[true, true, true, true, true, true, true, true, true, true, true, false, false, false, false, false]) (listed2 := #[true, true, true, true, true, true, true, false, true, true, true, true, false, false, false, false]) 7 11 rfl rfl (by kernel_rfl) rfl rfl ?_ ?_
    · refine TL.val rfl rfl rfl (pm_loadU (k := 0) (i := p) rfl rfl us4ag35 rfl (by omega)) ?_
      refine TL.end_ ?_
      refine TX.held (fun _ _ => trivial) ?_
      refine TH.only' (listed' := #[true, true, true, true, true, true, true, true, true, true, true, true, false, false, false, false]) 11 rfl (by kernel_rfl) rfl ?_
      refine TL.val rfl rfl rfl (pm_loadU (k := 0) (i := a) rfl rfl us4ag35 rfl (by omega)) ?_
      refine TL.end_ ?_
      refine TX.held (fun _ _ => trivial) ?_
      refine TH.take (listed' := #[true, true, true, true, true, true, true, true, true, true, true, true, true, false, false, false]) 12 rfl (by kernel_rfl) (by kernel_rfl) (by kernel_rfl) rfl rfl rfl rfl (gives_at (v := .pointer (some ⟨g, a, none⟩)) rfl rfl rfl (fun w => at_row Try.underlying31 us4sz35 g _ _ a (by omega) rfl w)) (fun _ _ => trivial) ?_
      refine TH.only' (listed' := #[true, true, true, true, true, true, true, true, true, true, true, true, true, true, false, false]) 13 rfl (by kernel_rfl) rfl ?_
      refine TL.uset (k := 0) (i := a) rfl rfl rfl rfl rfl rfl us4sz35 (by omega) ?_
      refine TL.end_ ?_
      refine TX.held (fun _ _ => trivial) ?_
      refine TH.take (listed' := #[true, true, true, true, true, true, true, true, true, true, true, true, true, true, true, false]) 14 rfl (by kernel_rfl) (by kernel_rfl) (by kernel_rfl) rfl rfl rfl rfl (gives_at (v := .pointer (some ⟨g, p, none⟩)) rfl rfl rfl (fun w => at_row Try.underlying31 us4sz35 g _ _ p (by omega) rfl w)) (fun _ _ => trivial) ?_
      refine TH.only' (listed' := #[true, true, true, true, true, true, true, true, true, true, true, true, true, true, true, true]) 15 rfl (by kernel_rfl) rfl ?_
      refine TL.uset (k := 0) (i := p) rfl rfl rfl rfl rfl rfl us4sz35 (by rw [List.length_set]; omega) ?_
      refine TL.end_ ?_
      refine TX.held (fun _ _ => trivial) ?_
      refine TH.done (by kernel_rfl) ?_
      exact TX.joined (()) (⟨rfl, rfl, rfl, trivial⟩) (fun w1 hw => hw)
    · refine TL.val rfl rfl rfl (pm_loadU (k := 0) (i := a) rfl rfl us4ag35 rfl (by omega)) ?_
      refine TL.end_ ?_
      refine TX.held (fun _ _ => trivial) ?_
      refine TH.only' (listed' := #[true, true, true, true, true, true, true, true, true, true, true, true, false, false, false, false]) 7 rfl (by kernel_rfl) rfl ?_
      refine TL.val rfl rfl rfl (pm_loadU (k := 0) (i := p) rfl rfl us4ag35 rfl (by omega)) ?_
      refine TL.end_ ?_
      refine TX.held (fun _ _ => trivial) ?_
      refine TH.take (listed' := #[true, true, true, true, true, true, true, true, true, true, true, true, true, false, false, false]) 12 rfl (by kernel_rfl) (by kernel_rfl) (by kernel_rfl) rfl rfl rfl rfl (gives_at (v := .pointer (some ⟨g, a, none⟩)) rfl rfl rfl (fun w => at_row Try.underlying31 us4sz35 g _ _ a (by omega) rfl w)) (fun _ _ => trivial) ?_
      refine TH.only' (listed' := #[true, true, true, true, true, true, true, true, true, true, true, true, true, true, false, false]) 13 rfl (by kernel_rfl) rfl ?_
      refine TL.uset (k := 0) (i := a) rfl rfl rfl rfl rfl rfl us4sz35 (by omega) ?_
      refine TL.end_ ?_
      refine TX.held (fun _ _ => trivial) ?_
      refine TH.take (listed' := #[true, true, true, true, true, true, true, true, true, true, true, true, true, true, true, false]) 14 rfl (by kernel_rfl) (by kernel_rfl) (by kernel_rfl) rfl rfl rfl rfl (gives_at (v := .pointer (some ⟨g, p, none⟩)) rfl rfl rfl (fun w => at_row Try.underlying31 us4sz35 g _ _ p (by omega) rfl w)) (fun _ _ => trivial) ?_
      refine TH.only' (listed' := #[true, true, true, true, true, true, true, true, true, true, true, true, true, true, true, true]) 15 rfl (by kernel_rfl) rfl ?_
      refine TL.uset (k := 0) (i := p) rfl rfl rfl rfl rfl rfl us4sz35 (by rw [List.length_set]; omega) ?_
      refine TL.end_ ?_
      refine TX.held (fun _ _ => trivial) ?_
      refine TH.done (by kernel_rfl) ?_
      exact TX.joined (()) (⟨rfl, rfl, rfl, trivial⟩) (fun w1 hw => hw)
  · rintro u
    have hP1 : Pin a b xs (swp xs a p) := Pin.swp1 (by omega) (Nat.le_refl _) (by omega) hap hpb
    have hl1 : (swp xs a p).length = n := by rw [swp_len]; exact hl
    have hm1 : Mn a b (swp xs a p) := Mn.first (by omega) hap hpb hmin
    refine TC.seq_ ?_
    refine TC.region ?_
    refine TL.val rfl rfl rfl (gives_move rfl rfl) ?_
    refine TL.val rfl rfl rfl (gives_bin rfl rfl rfl (fun w => bin_add_ (r := ((a + 1 : Nat) : Int)) (by simp only [IntKind.wrap_i64]; omega) w)) ?_
    refine TL.val rfl rfl rfl (gives_move rfl rfl) ?_
    refine TL.val rfl rfl rfl (gives_bin rfl rfl rfl (fun w => bin_sub_ (r := ((b - 1 : Nat) : Int)) (by simp only [IntKind.wrap_i64]; omega) w)) ?_
    refine TL.val rfl rfl rfl (gives_assign rfl rfl) ?_
    refine TL.val rfl rfl rfl (gives_assign rfl rfl) ?_
    refine TL.end_ ?_
    refine TX.then_ ?_
    refine TC.seq_ ?_
    refine TC.block ?_
    refine TC.loop_ (α := {y : Nat × Nat × List Int // Prt a b y.1 y.2.1 y.2.2 ∧ Pin a b xs y.2.2 ∧ Mn a b y.2.2 ∧ y.2.2.length = n}) (fun y => [(0, .slice (some ⟨g, 0, none⟩) n c), (1, .int .i64 ((a : Nat) : Int)), (2, .int .i64 ((b : Nat) : Int)), (9, .int .i64 ((y.1.1 : Nat) : Int)), (10, .int .i64 ((y.1.2.1 : Nat) : Int))]) (fun y => Pm ⟨wbut w g, g⟩ ([.row (.slice (some ⟨g, 0, none⟩) n c) 35 1 n (uv y.1.2.2)] ++ oths g w)) (fun y => y.1.2.1 + 1 - y.1.1) (⟨(a + 1, b - 1, swp xs a p), Prt.start (by omega), hP1, hm1, hl1⟩) ⟨rfl, rfl, rfl, rfl, rfl, trivial⟩ (fun w1 hw => hw) ?_
    rintro ⟨⟨i0, j0, ys⟩, hS, hP, hM, hly⟩
    dsimp only at hS hP hM hly ⊢
    have hs1 := hS.hi
    have hs2 := hS.hj
    have hs3 := hS.ij
    refine TC.block ?_
    refine TC.join (α := {y : Nat // i0 ≤ y ∧ Prt a b y j0 ys ∧ (y ≤ j0 → dx ys a < dx ys y)}) (fun y => [(0, .slice (some ⟨g, 0, none⟩) n c), (1, .int .i64 ((a : Nat) : Int)), (2, .int .i64 ((b : Nat) : Int)), (9, .int .i64 ((y.1 : Nat) : Int)), (10, .int .i64 ((j0 : Nat) : Int))]) (fun y => Pm ⟨wbut w g, g⟩ ([.row (.slice (some ⟨g, 0, none⟩) n c) 35 1 n (uv ys)] ++ oths g w)) ?_ ?_
    · refine TC.block ?_
      refine TC.loop_ (α := {y : Nat // i0 ≤ y ∧ Prt a b y j0 ys}) (fun y => [(0, .slice (some ⟨g, 0, none⟩) n c), (1, .int .i64 ((a : Nat) : Int)), (2, .int .i64 ((b : Nat) : Int)), (9, .int .i64 ((y.1 : Nat) : Int)), (10, .int .i64 ((j0 : Nat) : Int))]) (fun y => Pm ⟨wbut w g, g⟩ ([.row (.slice (some ⟨g, 0, none⟩) n c) 35 1 n (uv ys)] ++ oths g w)) (fun y => b + 1 - y.1) (⟨i0, Nat.le_refl _, hS⟩) ⟨rfl, rfl, rfl, rfl, rfl, trivial⟩ (fun w1 hw => hw) ?_
      rintro ⟨i, hi0, hQ⟩
      dsimp only
      have hq1 := hQ.hi
      have hq2 := hQ.hj
      have hq3 := hQ.ij
      refine TC.seq_ ?_
      refine TC.seq_ ?_
      have hway : ¬ i ≤ j0 ∨ (i ≤ j0 ∧ dx ys a < dx ys i) ∨ (i ≤ j0 ∧ ¬ dx ys a < dx ys i) := by omega
      rcases hway with p1 | ⟨p1, p2⟩ | ⟨p1, p2⟩
      · have hie : i ≤ j0 → dx ys a < dx ys i := fun hh => absurd hh p1
        refine TC.quiet_ (E' := ?_) (by kernel_rfl) (by kernel_rfl) (fun w hw => hw.drawn _) ?_ ?_
        rotate_left
        · refine TQ.val rfl rfl rfl (gives_move rfl rfl) ?_
          refine TQ.val rfl rfl rfl (gives_move rfl rfl) ?_
          refine TQ.val rfl rfl rfl (gives_bin rfl rfl rfl (fun w => bin_leq_f (by omega) w)) ?_
          refine TQ.val rfl rfl rfl (gives_move rfl rfl) ?_
          refine TQ.off rfl rfl rfl rfl rfl rfl ?_
          refine TQ.off rfl rfl rfl rfl rfl rfl ?_
          refine TQ.off rfl rfl rfl rfl rfl rfl ?_
          refine TQ.off rfl rfl rfl rfl rfl rfl ?_
          refine TQ.off rfl rfl rfl rfl rfl rfl ?_
          refine TQ.off rfl rfl rfl rfl rfl rfl ?_
          refine TQ.off rfl rfl rfl rfl rfl rfl ?_
          refine TQ.off rfl rfl rfl rfl rfl rfl ?_
          refine TQ.off rfl rfl rfl rfl rfl rfl ?_
          refine TQ.off rfl rfl rfl rfl rfl rfl ?_
          refine TQ.val rfl rfl rfl (gives_pick rfl rfl rfl) ?_
          exact TQ.end_
        refine TX.then_ ?_
        refine TC.condF rfl ?_
        refine TC.exit_ ?_
        refine TX.then_exit ?_
        refine TX.then_exit ?_
        refine TX.in_same ?_
        exact TX.joined (⟨i, hi0, hQ, hie⟩) (⟨rfl, rfl, rfl, rfl, rfl, trivial⟩) (fun w1 hw => hw)
      · have hie : i ≤ j0 → dx ys a < dx ys i := fun _ => p2
        refine TC.quiet_ (E' := ?_) (by kernel_rfl) (by kernel_rfl) (fun w hw => hw.drawn _) ?_ ?_
        rotate_left
        · refine TQ.val rfl rfl rfl (gives_move rfl rfl) ?_
          refine TQ.val rfl rfl rfl (gives_move rfl rfl) ?_
          refine TQ.val rfl rfl rfl (gives_bin rfl rfl rfl (fun w => bin_leq_t (by omega) w)) ?_
          refine TQ.val rfl rfl rfl (gives_move rfl rfl) ?_
          refine TQ.on rfl rfl rfl ?_
          refine TQ.val rfl rfl rfl (gives_move rfl rfl) ?_
          refine TQ.on rfl rfl rfl ?_
          refine TQ.val rfl rfl rfl (gives_move rfl rfl) ?_
          refine TQ.on rfl rfl rfl ?_
          refine TQ.val rfl rfl rfl (gives_at (v := .pointer (some ⟨g, a, none⟩)) rfl rfl rfl (fun w => at_row Try.underlying31 us4sz35 g _ _ a (by omega) rfl w)) ?_
          refine TQ.on rfl rfl rfl ?_
          refine TQ.val rfl rfl rfl (pm_loadU (k := 0) (i := a) rfl rfl us4ag35 rfl (by omega)) ?_
          refine TQ.on rfl rfl rfl ?_
          refine TQ.val rfl rfl rfl (gives_move rfl rfl) ?_
          refine TQ.on rfl rfl rfl ?_
          refine TQ.val rfl rfl rfl (gives_move rfl rfl) ?_
          refine TQ.on rfl rfl rfl ?_
          refine TQ.val rfl rfl rfl (gives_at (v := .pointer (some ⟨g, i, none⟩)) rfl rfl rfl (fun w => at_row Try.underlying31 us4sz35 g _ _ i (by omega) rfl w)) ?_
          refine TQ.on rfl rfl rfl ?_
          refine TQ.val rfl rfl rfl (pm_loadU (k := 0) (i := i) rfl rfl us4ag35 rfl (by omega)) ?_
          refine TQ.on rfl rfl rfl ?_
          refine TQ.call (v := .bool true) rfl rfl rfl rfl rfl Try.func68 us4nm68 us4bd68 (fun w1 hw => (less_t _ _ p2 w1).mono fun en w2 ⟨h1, h2⟩ => ⟨h1, hw.below h2⟩) ?_
          refine TQ.on rfl rfl rfl ?_
          refine TQ.val rfl rfl rfl (gives_boolnot rfl rfl) ?_
          refine TQ.val rfl rfl rfl (gives_pick rfl rfl rfl) ?_
          exact TQ.end_
        refine TX.then_ ?_
        refine TC.condF rfl ?_
        refine TC.exit_ ?_
        refine TX.then_exit ?_
        refine TX.then_exit ?_
        refine TX.in_same ?_
        exact TX.joined (⟨i, hi0, hQ, hie⟩) (⟨rfl, rfl, rfl, rfl, rfl, trivial⟩) (fun w1 hw => hw)
      · have hQ2 : Prt a b (i + 1) j0 ys := hQ.inc p1 (by omega)
        refine TC.quiet_ (E' := ?_) (by kernel_rfl) (by kernel_rfl) (fun w hw => hw.drawn _) ?_ ?_
        rotate_left
        · refine TQ.val rfl rfl rfl (gives_move rfl rfl) ?_
          refine TQ.val rfl rfl rfl (gives_move rfl rfl) ?_
          refine TQ.val rfl rfl rfl (gives_bin rfl rfl rfl (fun w => bin_leq_t (by omega) w)) ?_
          refine TQ.val rfl rfl rfl (gives_move rfl rfl) ?_
          refine TQ.on rfl rfl rfl ?_
          refine TQ.val rfl rfl rfl (gives_move rfl rfl) ?_
          refine TQ.on rfl rfl rfl ?_
          refine TQ.val rfl rfl rfl (gives_move rfl rfl) ?_
          refine TQ.on rfl rfl rfl ?_
          refine TQ.val rfl rfl rfl (gives_at (v := .pointer (some ⟨g, a, none⟩)) rfl rfl rfl (fun w => at_row Try.underlying31 us4sz35 g _ _ a (by omega) rfl w)) ?_
          refine TQ.on rfl rfl rfl ?_
          refine TQ.val rfl rfl rfl (pm_loadU (k := 0) (i := a) rfl rfl us4ag35 rfl (by omega)) ?_
          refine TQ.on rfl rfl rfl ?_
          refine TQ.val rfl rfl rfl (gives_move rfl rfl) ?_
          refine TQ.on rfl rfl rfl ?_
          refine TQ.val rfl rfl rfl (gives_move rfl rfl) ?_
          refine TQ.on rfl rfl rfl ?_
          refine TQ.val rfl rfl rfl (gives_at (v := .pointer (some ⟨g, i, none⟩)) rfl rfl rfl (fun w => at_row Try.underlying31 us4sz35 g _ _ i (by omega) rfl w)) ?_
          refine TQ.on rfl rfl rfl ?_
          refine TQ.val rfl rfl rfl (pm_loadU (k := 0) (i := i) rfl rfl us4ag35 rfl (by omega)) ?_
          refine TQ.on rfl rfl rfl ?_
          refine TQ.call (v := .bool false) rfl rfl rfl rfl rfl Try.func68 us4nm68 us4bd68 (fun w1 hw => (less_f _ _ p2 w1).mono fun en w2 ⟨h1, h2⟩ => ⟨h1, hw.below h2⟩) ?_
          refine TQ.on rfl rfl rfl ?_
          refine TQ.val rfl rfl rfl (gives_boolnot rfl rfl) ?_
          refine TQ.val rfl rfl rfl (gives_pick rfl rfl rfl) ?_
          exact TQ.end_
        refine TX.then_ ?_
        refine TC.condT rfl ?_
        refine TC.skip_ ?_
        refine TX.then_ ?_
        refine TC.block ?_
        refine TC.region ?_
        refine TL.val rfl rfl rfl (gives_move rfl rfl) ?_
        refine TL.val rfl rfl rfl (gives_bin rfl rfl rfl (fun w => bin_add_ (r := ((i + 1 : Nat) : Int)) (by simp only [IntKind.wrap_i64]; omega) w)) ?_
        refine TL.val rfl rfl rfl (gives_assign rfl rfl) ?_
        refine TL.end_ ?_
        refine TX.in_normal ?_
        exact TX.round (⟨i + 1, by omega, hQ2⟩) (by show b + 1 - (i + 1) < b + 1 - i; omega) ⟨rfl, rfl, rfl, rfl, rfl, trivial⟩ (fun w1 hw => hw)
    · rintro ⟨i, hi0, hQ, hie⟩
      dsimp only
      have hq1 := hQ.hi
      have hq2 := hQ.hj
      have hq3 := hQ.ij
      refine TC.join (α := {y : Nat // y ≤ j0 ∧ Prt a b i y ys ∧ (i ≤ y → dx ys y ≤ dx ys a)}) (fun y => [(0, .slice (some ⟨g, 0, none⟩) n c), (1, .int .i64 ((a : Nat) : Int)), (2, .int .i64 ((b : Nat) : Int)), (9, .int .i64 ((i : Nat) : Int)), (10, .int .i64 ((y.1 : Nat) : Int))]) (fun y => Pm ⟨wbut w g, g⟩ ([.row (.slice (some ⟨g, 0, none⟩) n c) 35 1 n (uv ys)] ++ oths g w)) ?_ ?_
      · refine TC.block ?_
        refine TC.loop_ (α := {y : Nat // y ≤ j0 ∧ Prt a b i y ys}) (fun y => [(0, .slice (some ⟨g, 0, none⟩) n c), (1, .int .i64 ((a : Nat) : Int)), (2, .int .i64 ((b : Nat) : Int)), (9, .int .i64 ((i : Nat) : Int)), (10, .int .i64 ((y.1 : Nat) : Int))]) (fun y => Pm ⟨wbut w g, g⟩ ([.row (.slice (some ⟨g, 0, none⟩) n c) 35 1 n (uv ys)] ++ oths g w)) (fun y => y.1) (⟨j0, Nat.le_refl _, hQ⟩) ⟨rfl, rfl, rfl, rfl, rfl, trivial⟩ (fun w1 hw => hw) ?_
        rintro ⟨j, hj0, hR⟩
        dsimp only
        have hr1 := hR.hi
        have hr2 := hR.hj
        have hr3 := hR.ij
        refine TC.seq_ ?_
        refine TC.seq_ ?_
        have hway : ¬ i ≤ j ∨ (i ≤ j ∧ dx ys a < dx ys j) ∨ (i ≤ j ∧ ¬ dx ys a < dx ys j) := by omega
        rcases hway with p1 | ⟨p1, p2⟩ | ⟨p1, p2⟩
        · have hje : i ≤ j → dx ys j ≤ dx ys a := fun hh => absurd hh p1
          refine TC.quiet_ (E' := ?_) (by kernel_rfl) (by kernel_rfl) (fun w hw => hw.drawn _) ?_ ?_
          rotate_left
          · refine TQ.val rfl rfl rfl (gives_move rfl rfl) ?_
            refine TQ.val rfl rfl rfl (gives_move rfl rfl) ?_
            refine TQ.val rfl rfl rfl (gives_bin rfl rfl rfl (fun w => bin_leq_f (by omega) w)) ?_
            refine TQ.val rfl rfl rfl (gives_move rfl rfl) ?_
            refine TQ.off rfl rfl rfl rfl rfl rfl ?_
            refine TQ.off rfl rfl rfl rfl rfl rfl ?_
            refine TQ.off rfl rfl rfl rfl rfl rfl ?_
            refine TQ.off rfl rfl rfl rfl rfl rfl ?_
            refine TQ.off rfl rfl rfl rfl rfl rfl ?_
            refine TQ.off rfl rfl rfl rfl rfl rfl ?_
            refine TQ.off rfl rfl rfl rfl rfl rfl ?_
            refine TQ.off rfl rfl rfl rfl rfl rfl ?_
            refine TQ.off rfl rfl rfl rfl rfl rfl ?_
            refine TQ.val rfl rfl rfl (gives_pick rfl rfl rfl) ?_
            exact TQ.end_
          refine TX.then_ ?_
          refine TC.condF rfl ?_
          refine TC.exit_ ?_
          refine TX.then_exit ?_
          refine TX.then_exit ?_
          refine TX.in_same ?_
          exact TX.joined (⟨j, hj0, hR, hje⟩) (⟨rfl, rfl, rfl, rfl, rfl, trivial⟩) (fun w1 hw => hw)
        · have hR2 : Prt a b i (j - 1) ys := hR.dec p1 (by omega)
          refine TC.quiet_ (E' := ?_) (by kernel_rfl) (by kernel_rfl) (fun w hw => hw.drawn _) ?_ ?_
          rotate_left
          · refine TQ.val rfl rfl rfl (gives_move rfl rfl) ?_
            refine TQ.val rfl rfl rfl (gives_move rfl rfl) ?_
            refine TQ.val rfl rfl rfl (gives_bin rfl rfl rfl (fun w => bin_leq_t (by omega) w)) ?_
            refine TQ.val rfl rfl rfl (gives_move rfl rfl) ?_
            refine TQ.on rfl rfl rfl ?_
            refine TQ.val rfl rfl rfl (gives_move rfl rfl) ?_
            refine TQ.on rfl rfl rfl ?_
            refine TQ.val rfl rfl rfl (gives_move rfl rfl) ?_
            refine TQ.on rfl rfl rfl ?_
            refine TQ.val rfl rfl rfl (gives_at (v := .pointer (some ⟨g, a, none⟩)) rfl rfl rfl (fun w => at_row Try.underlying31 us4sz35 g _ _ a (by omega) rfl w)) ?_
            refine TQ.on rfl rfl rfl ?_
            refine TQ.val rfl rfl rfl (pm_loadU (k := 0) (i := a) rfl rfl us4ag35 rfl (by omega)) ?_
            refine TQ.on rfl rfl rfl ?_
            refine TQ.val rfl rfl rfl (gives_move rfl rfl) ?_
            refine TQ.on rfl rfl rfl ?_
            refine TQ.val rfl rfl rfl (gives_move rfl rfl) ?_
            refine TQ.on rfl rfl rfl ?_
            refine TQ.val rfl rfl rfl (gives_at (v := .pointer (some ⟨g, j, none⟩)) rfl rfl rfl (fun w => at_row Try.underlying31 us4sz35 g _ _ j (by omega) rfl w)) ?_
            refine TQ.on rfl rfl rfl ?_
            refine TQ.val rfl rfl rfl (pm_loadU (k := 0) (i := j) rfl rfl us4ag35 rfl (by omega)) ?_
            refine TQ.on rfl rfl rfl ?_
            refine TQ.call (v := .bool true) rfl rfl rfl rfl rfl Try.func68 us4nm68 us4bd68 (fun w1 hw => (less_t _ _ p2 w1).mono fun en w2 ⟨h1, h2⟩ => ⟨h1, hw.below h2⟩) ?_
            refine TQ.val rfl rfl rfl (gives_pick rfl rfl rfl) ?_
            exact TQ.end_
          refine TX.then_ ?_
          refine TC.condT rfl ?_
          refine TC.skip_ ?_
          refine TX.then_ ?_
          refine TC.block ?_
          refine TC.region ?_
          refine TL.val rfl rfl rfl (gives_move rfl rfl) ?_
          refine TL.val rfl rfl rfl (gives_bin rfl rfl rfl (fun w => bin_sub_ (r := ((j - 1 : Nat) : Int)) (by simp only [IntKind.wrap_i64]; omega) w)) ?_
          refine TL.val rfl rfl rfl (gives_assign rfl rfl) ?_
          refine TL.end_ ?_
          refine TX.in_normal ?_
          exact TX.round (⟨j - 1, by omega, hR2⟩) (by show j - 1 < j; omega) ⟨rfl, rfl, rfl, rfl, rfl, trivial⟩ (fun w1 hw => hw)
        · have hje : i ≤ j → dx ys j ≤ dx ys a := fun _ => by omega
          refine TC.quiet_ (E' := ?_) (by kernel_rfl) (by kernel_rfl) (fun w hw => hw.drawn _) ?_ ?_
          rotate_left
          · refine TQ.val rfl rfl rfl (gives_move rfl rfl) ?_
            refine TQ.val rfl rfl rfl (gives_move rfl rfl) ?_
            refine TQ.val rfl rfl rfl (gives_bin rfl rfl rfl (fun w => bin_leq_t (by omega) w)) ?_
            refine TQ.val rfl rfl rfl (gives_move rfl rfl) ?_
            refine TQ.on rfl rfl rfl ?_
            refine TQ.val rfl rfl rfl (gives_move rfl rfl) ?_
            refine TQ.on rfl rfl rfl ?_
            refine TQ.val rfl rfl rfl (gives_move rfl rfl) ?_
            refine TQ.on rfl rfl rfl ?_
            refine TQ.val rfl rfl rfl (gives_at (v := .pointer (some ⟨g, a, none⟩)) rfl rfl rfl (fun w => at_row Try.underlying31 us4sz35 g _ _ a (by omega) rfl w)) ?_
            refine TQ.on rfl rfl rfl ?_
            refine TQ.val rfl rfl rfl (pm_loadU (k := 0) (i := a) rfl rfl us4ag35 rfl (by omega)) ?_
            refine TQ.on rfl rfl rfl ?_
            refine TQ.val rfl rfl rfl (gives_move rfl rfl) ?_
            refine TQ.on rfl rfl rfl ?_
            refine TQ.val rfl rfl rfl (gives_move rfl rfl) ?_
            refine TQ.on rfl rfl rfl ?_
            refine TQ.val rfl rfl rfl (gives_at (v := .pointer (some ⟨g, j, none⟩)) rfl rfl rfl (fun w => at_row Try.underlying31 us4sz35 g _ _ j (by omega) rfl w)) ?_
            refine TQ.on rfl rfl rfl ?_
            refine TQ.val rfl rfl rfl (pm_loadU (k := 0) (i := j) rfl rfl us4ag35 rfl (by omega)) ?_
            refine TQ.on rfl rfl rfl ?_
            refine TQ.call (v := .bool false) rfl rfl rfl rfl rfl Try.func68 us4nm68 us4bd68 (fun w1 hw => (less_f _ _ p2 w1).mono fun en w2 ⟨h1, h2⟩ => ⟨h1, hw.below h2⟩) ?_
            refine TQ.val rfl rfl rfl (gives_pick rfl rfl rfl) ?_
            exact TQ.end_
          refine TX.then_ ?_
          refine TC.condF rfl ?_
          refine TC.exit_ ?_
          refine TX.then_exit ?_
          refine TX.then_exit ?_
          refine TX.in_same ?_
          exact TX.joined (⟨j, hj0, hR, hje⟩) (⟨rfl, rfl, rfl, rfl, rfl, trivial⟩) (fun w1 hw => hw)
      · rintro ⟨j, hj0, hR, hje⟩
        dsimp only
        have hr1 := hR.hi
        have hr2 := hR.hj
        have hr3 := hR.ij
        refine TC.seq_ ?_
        refine TC.seq_ ?_
        refine TC.region ?_
        refine TL.val rfl rfl rfl (gives_move rfl rfl) ?_
        refine TL.val rfl rfl rfl (gives_move rfl rfl) ?_
        refine TL.vsplit rfl rfl rfl (gives_bin rfl rfl rfl (fun w => bin_gtr w)) (fun h64 => ?_) (fun h64 => ?_)
        · have q64 := of_decide_eq_true h64
          refine TL.end_ ?_
          refine TX.then_ ?_
          refine TC.condT rfl ?_
          refine TC.exit_ ?_
          refine TX.then_exit ?_
          refine TX.in_other rfl ?_
          refine TX.then_exit ?_
          refine TX.in_same ?_
          refine TX.then_ ?_
          refine TC.seq_ ?_
          refine TC.region ?_
          refine TL.val rfl rfl rfl (gives_move rfl rfl) ?_
          refine TL.val rfl rfl rfl (gives_assign rfl rfl) ?_
          refine TL.end_ ?_
          refine TX.then_ ?_
          refine TC.ret_ ?_
          exact ret_tmp Try.results69 rfl (fun w1 hw => ⟨i, ys, rfl, ⟨hP, hR.eqs (by omega), hM⟩, pm_rowAt hw (k := 0) rfl, hw.mapEnd (fun q hq => by simp [hq])⟩)
        · have q64 := of_decide_eq_false h64
          have hlt : i < j := by
            have h1 := hie (by omega)
            have h2 := hje (by omega)
            rcases Nat.lt_or_ge i j with hh | hh
            · exact hh
            · exfalso; obtain rfl : i = j := by omega
              omega
          refine TL.end_ ?_
          refine TX.then_ ?_
          refine TC.condF rfl ?_
          refine TC.skip_ ?_
          refine TX.then_ ?_
          refine TC.seq_ ?_
          refine TC.held (ls := #[false, false, false, false, false, false, false, false, false, false, false, false, false, false, false, false]) (fun _ => True) (by kernel_rfl) rfl rfl (fun w hw => hw.drawn _) ?_
          refine TH.take (listed' := #[true, false, false, false, false, false, false, false, false, false, false, false, false, false, false, false]) 0 rfl (by kernel_rfl) (by kernel_rfl) (by kernel_rfl) rfl rfl rfl rfl (gives_move rfl rfl) (fun _ _ => trivial) ?_
          refine TH.take (listed' := #[true, true, false, false, false, false, false, false, false, false, false, false, false, false, false, false]) 1 rfl (by kernel_rfl) (by kernel_rfl) (by kernel_rfl) rfl rfl rfl rfl (gives_move rfl rfl) (fun _ _ => trivial) ?_
          refine TH.take (listed' := #[true, true, true, false, false, false, false, false, false, false, false, false, false, false, false, false]) 2 rfl (by kernel_rfl) (by kernel_rfl) (by kernel_rfl) rfl rfl rfl rfl (gives_move rfl rfl) (fun _ _ => trivial) ?_
          refine TH.take (listed' := #[true, true, true, true, false, false, false, false, false, false, false, false, false, false, false, false]) 3 rfl (by kernel_rfl) (by kernel_rfl) (by kernel_rfl) rfl rfl rfl rfl (gives_move rfl rfl) (fun _ _ => trivial) ?_
          refine TH.take (listed' := #[true, true, true, true, true, false, false, false, false, false, false, false, false, false, false, false]) 4 rfl (by kernel_rfl) (by kernel_rfl) (by kernel_rfl) rfl rfl rfl rfl (gives_move rfl rfl) (fun _ _ => trivial) ?_
          refine TH.take (listed' := #[true, true, true, true, true, true, false, false, false, false, false, false, false, false, false, false]) 5 rfl (by kernel_rfl) (by kernel_rfl) (by kernel_rfl) rfl rfl rfl rfl (gives_move rfl rfl) (fun _ _ => trivial) ?_
          refine TH.take (listed' := #[true, true, true, true, true, true, true, false, false, false, false, false, false, false, false, false]) 6 rfl (by kernel_rfl) (by kernel_rfl) (by kernel_rfl) rfl rfl rfl rfl (gives_at (v := .pointer (some ⟨g, j, none⟩)) rfl rfl rfl (fun w => at_row Try.underlying31 us4sz35 g _ _ j (by omega) rfl w)) (fun _ _ => trivial) ?_
          refine TH.take (listed' := #[true, true, true, true, true, true, true, false, true, false, false, false, false, false, false, false]) 8 rfl (by kernel_rfl) (by kernel_rfl) (by kernel_rfl) rfl rfl rfl rfl (gives_move rfl rfl) (fun _ _ => trivial) ?_
          refine TH.take (listed' := #[true, true, true, true, true, true, true, false, true, true, false, false, false, false, false, false]) 9 rfl (by kernel_rfl) (by kernel_rfl) (by kernel_rfl) rfl rfl rfl rfl (gives_move rfl rfl) (fun _ _ => trivial) ?_
          refine TH.take (listed' := #[true, true, true, true, true, true, true, false, true, true, true, false, false, false, false, false]) 10 rfl (by kernel_rfl) (by kernel_rfl) (by kernel_rfl) rfl rfl rfl rfl (gives_at (v := .pointer (some ⟨g, i, none⟩)) rfl rfl rfl (fun w => at_row Try.underlying31 us4sz35 g _ _ i (by omega) rfl w)) (fun _ _ => trivial) ?_
          refine TH.two' (listed1 := #[true, true, true, true, true, true, true, true, true, true, true, false, false, false, false, false]) (listed2 := #[true, true, true, true, true, true, true, false, true, true, true, true, false, false, false, false]) 7 11 rfl rfl (by kernel_rfl) rfl rfl ?_ ?_
          · refine TL.val rfl rfl rfl (pm_loadU (k := 0) (i := j) rfl rfl us4ag35 rfl (by omega)) ?_
            refine TL.end_ ?_
            refine TX.held (fun _ _ => trivial) ?_
            refine TH.only' (listed' := #[true, true, true, true, true, true, true, true, true, true, true, true, false, false, false, false]) 11 rfl (by kernel_rfl) rfl ?_
            refine TL.val rfl rfl rfl (pm_loadU (k := 0) (i := i) rfl rfl us4ag35 rfl (by omega)) ?_
            refine TL.end_ ?_
            refine TX.held (fun _ _ => trivial) ?_
            refine TH.take (listed' := #[true, true, true, true, true, true, true, true, true, true, true, true, true, false, false, false]) 12 rfl (by kernel_rfl) (by kernel_rfl) (by kernel_rfl) rfl rfl rfl rfl (gives_at (v := .pointer (some ⟨g, i, none⟩)) rfl rfl rfl (fun w => at_row Try.underlying31 us4sz35 g _ _ i (by omega) rfl w)) (fun _ _ => trivial) ?_
            refine TH.only' (listed' := #[true, true, true, true, true, true, true, true, true, true, true, true, true, true, false, false]) 13 rfl (by kernel_rfl) rfl ?_
            refine TL.uset (k := 0) (i := i) rfl rfl rfl rfl rfl rfl us4sz35 (by omega) ?_
            refine TL.end_ ?_
            refine TX.held (fun _ _ => trivial) ?_
            refine TH.take (listed' := #[true, true, true, true, true, true, true, true, true, true, true, true, true, true, true, false]) 14 rfl (by kernel_rfl) (by kernel_rfl) (by kernel_rfl) rfl rfl rfl rfl (gives_at (v := .pointer (some ⟨g, j, none⟩)) rfl rfl rfl (fun w => at_row Try.underlying31 us4sz35 g _ _ j (by omega) rfl w)) (fun _ _ => trivial) ?_
            refine TH.only' (listed' := #[true, true, true, true, true, true, true, true, true, true, true, true, true, true, true, true]) 15 rfl (by kernel_rfl) rfl ?_
            refine TL.uset (k := 0) (i := j) rfl rfl rfl rfl rfl rfl us4sz35 (by rw [List.length_set]; omega) ?_
            refine TL.end_ ?_
            refine TX.held (fun _ _ => trivial) ?_
            refine TH.done (by kernel_rfl) ?_
            refine TX.then_ ?_
            refine TC.seq_ ?_
            refine TC.region ?_
            refine TL.val rfl rfl rfl (gives_move rfl rfl) ?_
            refine TL.val rfl rfl rfl (gives_bin rfl rfl rfl (fun w => bin_add_ (r := ((i + 1 : Nat) : Int)) (by simp only [IntKind.wrap_i64]; omega) w)) ?_
            refine TL.val rfl rfl rfl (gives_assign rfl rfl) ?_
            refine TL.end_ ?_
            refine TX.then_ ?_
            refine TC.region ?_
            refine TL.val rfl rfl rfl (gives_move rfl rfl) ?_
            refine TL.val rfl rfl rfl (gives_bin rfl rfl rfl (fun w => bin_sub_ (r := ((j - 1 : Nat) : Int)) (by simp only [IntKind.wrap_i64]; omega) w)) ?_
            refine TL.val rfl rfl rfl (gives_assign rfl rfl) ?_
            refine TL.end_ ?_
            refine TX.in_normal ?_
            exact TX.round (⟨(i + 1, j - 1, swp ys i j), hR.swap (by omega) hlt (hje (by omega)) (by have := hie (by omega); omega), hP.swap (by omega) (by omega) (by omega) (by omega) (by omega), hM.swap (by omega) (by omega) (by omega) (by omega) (by omega), by rw [swp_len]; exact hly⟩) (by show j - 1 + 1 - (i + 1) < j0 + 1 - i0; omega) ⟨rfl, rfl, rfl, rfl, rfl, trivial⟩ (fun w1 hw => hw)
          · refine TL.val rfl rfl rfl (pm_loadU (k := 0) (i := i) rfl rfl us4ag35 rfl (by omega)) ?_
            refine TL.end_ ?_
            refine TX.held (fun _ _ => trivial) ?_
            refine TH.only' (listed' := #[true, true, true, true, true, true, true, true, true, true, true, true, false, false, false, false]) 7 rfl (by kernel_rfl) rfl ?_
            refine TL.val rfl rfl rfl (pm_loadU (k := 0) (i := j) rfl rfl us4ag35 rfl (by omega)) ?_
            refine TL.end_ ?_
            refine TX.held (fun _ _ => trivial) ?_
            refine TH.take (listed' := #[true, true, true, true, true, true, true, true, true, true, true, true, true, false, false, false]) 12 rfl (by kernel_rfl) (by kernel_rfl) (by kernel_rfl) rfl rfl rfl rfl (gives_at (v := .pointer (some ⟨g, i, none⟩)) rfl rfl rfl (fun w => at_row Try.underlying31 us4sz35 g _ _ i (by omega) rfl w)) (fun _ _ => trivial) ?_
            refine TH.only' (listed' := #[true, true, true, true, true, true, true, true, true, true, true, true, true, true, false, false]) 13 rfl (by kernel_rfl) rfl ?_
            refine TL.uset (k := 0) (i := i) rfl rfl rfl rfl rfl rfl us4sz35 (by omega) ?_
            refine TL.end_ ?_
            refine TX.held (fun _ _ => trivial) ?_
            refine TH.take (listed' := #[true, true, true, true, true, true, true, true, true, true, true, true, true, true, true, false]) 14 rfl (by kernel_rfl) (by kernel_rfl) (by kernel_rfl) rfl rfl rfl rfl (gives_at (v := .pointer (some ⟨g, j, none⟩)) rfl rfl rfl (fun w => at_row Try.underlying31 us4sz35 g _ _ j (by omega) rfl w)) (fun _ _ => trivial) ?_
            refine TH.only' (listed' := #[true, true, true, true, true, true, true, true, true, true, true, true, true, true, true, true]) 15 rfl (by kernel_rfl) rfl ?_
            refine TL.uset (k := 0) (i := j) rfl rfl rfl rfl rfl rfl us4sz35 (by rw [List.length_set]; omega) ?_
            refine TL.end_ ?_
            refine TX.held (fun _ _ => trivial) ?_
            refine TH.done (by kernel_rfl) ?_
            refine TX.then_ ?_
            refine TC.seq_ ?_
            refine TC.region ?_
            refine TL.val rfl rfl rfl (gives_move rfl rfl) ?_
            refine TL.val rfl rfl rfl (gives_bin rfl rfl rfl (fun w => bin_add_ (r := ((i + 1 : Nat) : Int)) (by simp only [IntKind.wrap_i64]; omega) w)) ?_
            refine TL.val rfl rfl rfl (gives_assign rfl rfl) ?_
            refine TL.end_ ?_
            refine TX.then_ ?_
            refine TC.region ?_
            refine TL.val rfl rfl rfl (gives_move rfl rfl) ?_
            refine TL.val rfl rfl rfl (gives_bin rfl rfl rfl (fun w => bin_sub_ (r := ((j - 1 : Nat) : Int)) (by simp only [IntKind.wrap_i64]; omega) w)) ?_
            refine TL.val rfl rfl rfl (gives_assign rfl rfl) ?_
            refine TL.end_ ?_
            refine TX.in_normal ?_
            exact TX.round (⟨(i + 1, j - 1, swp ys i j), hR.swap (by omega) hlt (hje (by omega)) (by have := hie (by omega); omega), hP.swap (by omega) (by omega) (by omega) (by omega) (by omega), hM.swap (by omega) (by omega) (by omega) (by omega) (by omega), by rw [swp_len]; exact hly⟩) (by show j - 1 + 1 - (i + 1) < j0 + 1 - i0; omega) ⟨rfl, rfl, rfl, rfl, rfl, trivial⟩ (fun w1 hw => hw)
end Go.Proofs.Ytleckflmckbheaa

namespace Go.Proofs.Ytleckflmckbheaa
open Go.RowKit
set_option linter.unusedVariables false
set_option linter.unusedSimpArgs false
set_option maxRecDepth 20000
theorem us5sz35 (w : World) : (sizeOf 35).run Try.prog w = .ok 1 w := rfl
theorem us5ag35 (w : World) : (isAgg 35).run Try.prog w = .ok false w := rfl
theorem us5nm68 : (Try.f68.name == "runtime.NumGoroutine") = false := by decide
theorem us5bd68 : Try.f68.body.isNone = false := rfl
set_option maxHeartbeats 1000000 in
theorem part_any (g n c : Nat) (xs : List Int) (w : World) (h : Rw 35 w g n c xs) (hn : n ≤ 1000000) (a b p : Nat) (hap : a ≤ p) (hpb : p < b) (hb : b ≤ n) :
    Calls Try.prog 70 #[.slice (some ⟨g, 0, none⟩) n c, .int .i64 ((a : Nat) : Int), .int .i64 ((b : Nat) : Int), .int .i64 ((p : Nat) : Int)] w (RC (α := Nat × Bool) (fun x => .tuple #[.int .i64 ((x.1 : Nat) : Int), .bool x.2]) (fun x ys => Pin a b xs ys ∧ Mid a b x.1 ys) 35 g n c w) := by
  have hl := h.len
  refine begin_ (vs := [.slice (some ⟨g, 0, none⟩) n c, .int .i64 ((a : Nat) : Int), .int .i64 ((b : Nat) : Int), .int .i64 ((p : Nat) : Int)]) (I := Pm ⟨wbut w g, g⟩ (.row (.slice (some ⟨g, 0, none⟩) n c) 35 1 n (uv xs) :: oths g w)) Try.func70 rfl rfl rfl ?_ (Pm.rowStart h)
  refine TC.seq_ ?_
  refine TC.region ?_
  refine TL.val rfl rfl rfl (gives_assign rfl rfl) ?_
  refine TL.val rfl rfl rfl (gives_assign rfl rfl) ?_
  refine TL.end_ ?_
  refine TX.then_ ?_
  refine TC.join (α := Unit) (fun y => [(0, .slice (some ⟨g, 0, none⟩) n c), (1, .int .i64 ((a : Nat) : Int)), (2, .int .i64 ((b : Nat) : Int))]) (fun y => Pm ⟨wbut w g, g⟩ ([.row (.slice (some ⟨g, 0, none⟩) n c) 35 1 n (uv (swp xs a p))] ++ oths g w)) ?_ ?_
  · refine TC.held (ls := #[false, false, false, false, false, false, false, false, false, false, false, false, false, false, false, false]) (fun _ => True) (by kernel_rfl) rfl rfl (fun w hw => hw.drawn _) ?_
    refine TH.take (listed' := #[true, false, false, false, false, false, false, false, false, false, false, false, false, false, false, false]) 0 rfl (by kernel_rfl) (by kernel_rfl) (by kernel_rfl) rfl rfl rfl rfl (gives_move rfl rfl) (fun _ _ => trivial) ?_
    refine TH.take (listed' := #[true, true, false, false, false, false, false, false, false, false, false, false, false, false, false, false]) 1 rfl (by kernel_rfl) (by kernel_rfl) (by kernel_rfl) rfl rfl rfl rfl (gives_move rfl rfl) (fun _ _ => trivial) ?_
    refine TH.take (listed' := #[true, true, true, false, false, false, false, false, false, false, false, false, false, false, false, false]) 2 rfl (by kernel_rfl) (by kernel_rfl) (by kernel_rfl) rfl rfl rfl rfl (gives_move rfl rfl) (fun _ _ => trivial) ?_
    refine TH.take (listed' := #[true, true, true, true, false, false, false, false, false, false, false, false, false, false, false, false]) 3 rfl (by kernel_rfl) (by kernel_rfl) (by kernel_rfl) rfl rfl rfl rfl (gives_move rfl rfl) (fun _ _ => trivial) ?_
    refine TH.take (listed' := #[true, true, true, true, true, false, false, false, false, false, false, false, false, false, false, false]) 4 rfl (by kernel_rfl) (by kernel_rfl) (by kernel_rfl) rfl rfl rfl rfl (gives_move rfl rfl) (fun _ _ => trivial) ?_
    refine TH.take (listed' := #[true, true, true, true, true, true, false, false, false, false, false, false, false, false, false, false]) 5 rfl (by kernel_rfl) (by kernel_rfl) (by kernel_rfl) rfl rfl rfl rfl (gives_move rfl rfl) (fun _ _ => trivial) ?_
    refine TH.take (listed' := #[true, true, true, true, true, true, true, false, false, false, false, false, false, false, false, false]) 6 rfl (by kernel_rfl) (by kernel_rfl) (by kernel_rfl) rfl rfl rfl rfl (gives_at (v := .pointer (some ⟨g, p, none⟩)) rfl rfl rfl (fun w => at_row Try.underlying31 us5sz35 g _ _ p (by omega) rfl w)) (fun _ _ => trivial) ?_
    refine TH.take (listed' := #[true, true, true, true, true, true, true, false, true, false, false, false, false, false, false, false]) 8 rfl (by kernel_rfl) (by kernel_rfl) (by kernel_rfl) rfl rfl rfl rfl (gives_move rfl rfl) (fun _ _ => trivial) ?_
    refine TH.take (listed' := #[true, true, true, true, true, true, true, false, true, true, false, false, false, false, false, false]) 9 rfl (by kernel_rfl) (by kernel_rfl) (by kernel_rfl) rfl rfl rfl rfl (gives_move rfl rfl) (fun _ _ => trivial) ?_
    refine TH.take (listed' := #[true, true, true, true, true, true, true, false, true, true, true, false, false, false, false, false]) 10 rfl (by kernel_rfl) (by kernel_rfl) (by kernel_rfl) rfl rfl rfl rfl (gives_at (v := .pointer (some ⟨g, a, none⟩)) rfl rfl rfl (fun w => at_row Try.underlying31 us5sz35 g _ _ a (by omega) rfl w)) (fun _ _ => trivial) ?_
    refine TH.two' (listed1 := #[true, true, true, true, true, true, true, true, true, true, true, false, false, false, false, false]) (listed2 := #[true, true, true, true, true, true, true, false, true, true, true, true, false, false, false, false]) 7 11 rfl rfl (by kernel_rfl) rfl rfl ?_ ?_
    · refine TL.val rfl rfl rfl (pm_loadU (k := 0) (i := p) rfl rfl us5ag35 rfl (by omega)) ?_
      refine TL.end_ ?_
      refine TX.held (fun _ _ => trivial) ?_
      refine TH.only' (listed' := #[true, true, true, true, true, true, true, true, true, true, true, true, false, false, false, false]) 11 rfl (by kernel_rfl) rfl ?_
      refine TL.val rfl rfl rfl (pm_loadU (k := 0) (i := a) rfl rfl us5ag35 rfl (by omega)) ?_
      refine TL.end_ ?_
      refine TX.held (fun _ _ => trivial) ?_
      refine TH.take (listed' := #[true, true, true, true, true, true, true, true, true, true, true, true, true, false, false, false]) 12 rfl (by kernel_rfl) (by kernel_rfl) (by kernel_rfl) rfl rfl rfl rfl (gives_at (v := .pointer (some ⟨g, a, none⟩)) rfl rfl rfl (fun w => at_row Try.underlying31 us5sz35 g _ _ a (by omega) rfl w)) (fun _ _ => trivial) ?_
      refine TH.only' (listed' := #[true, true, true, true, true, true, true, true, true, true, true, true, true, true, false, false]) 13 rfl (by kernel_rfl) rfl ?_
      refine TL.uset (k := 0) (i := a) rfl rfl rfl rfl rfl rfl us5sz35 (by omega) ?_
      refine TL.end_ ?_
      refine TX.held (fun _ _ => trivial) ?_
      refine TH.take (listed' := #[true, true, true, true, true, true, true, true, true, true, true, true, true, true, true, false]) 14 rfl (by kernel_rfl) (by kernel_rfl) (by kernel_rfl) rfl rfl rfl rfl (gives_at (v := .pointer (some ⟨g, p, none⟩)) rfl rfl rfl (fun w => at_row Try.underlying31 us5sz35 g _ _ p (by omega) rfl w)) (fun _ _ => trivial) ?_
      refine TH.only' (listed' := #[true, true, true, true, true, true, true, true, true, true, true, true, true, true, true, true]) 15 rfl (by kernel_rfl) rfl ?_
      refine TL.uset (k := 0) (i := p) rfl rfl rfl rfl rfl rfl us5sz35 (by rw [List.length_set]; omega) ?_
      refine TL.end_ ?_
      refine TX.held (fun _ _ => trivial) ?_
      refine TH.done (by kernel_rfl) ?_
      exact TX.joined (()) (⟨rfl, rfl, rfl, trivial⟩) (fun w1 hw => hw)
    · refine TL.val rfl rfl rfl (pm_loadU (k := 0) (i := a) rfl rfl us5ag35 rfl (by omega)) ?_
      refine TL.end_ ?_
      refine TX.held (fun _ _ => trivial) ?_
      refine TH.only' (listed' := #[true, true, true, true, true, true, true, true, true, true, true, true, false, false, false, false]) 7 rfl (by kernel_rfl) rfl ?_
      refine TL.val rfl rfl rfl (pm_loadU (k := 0) (i := p) rfl rfl us5ag35 rfl (by omega)) ?_
      refine TL.end_ ?_
      refine TX.held (fun _ _ => trivial) ?_
      refine TH.take (listed' := #[true, true, true, true, true, true, true, true, true, true, true, true, true, false, false, false]) 12 rfl (by kernel_rfl) (by kernel_rfl) (by kernel_rfl) rfl rfl rfl rfl (gives_at (v := .pointer (some ⟨g, a, none⟩)) rfl rfl rfl (fun w => at_row Try.underlying31 us5sz35 g _ _ a (by omega) rfl w)) (fun _ _ => trivial) ?_
      refine TH.only' (listed' := #[true, true, true, true, true, true, true, true, true, true, true, true, true, true, false, false]) 13 rfl (by kernel_rfl) rfl ?_
      refine TL.uset (k := 0) (i := a) rfl rfl rfl rfl rfl rfl us5sz35 (by omega) ?_
      refine TL.end_ ?_
      refine TX.held (fun _ _ => trivial) ?_
      refine TH.take (listed' := #[true, true, true, true, true, true, true, true, true, true, true, true, true, true, true, false]) 14 rfl (by kernel_rfl) (by kernel_rfl) (by kernel_rfl) rfl rfl rfl rfl (gives_at (v := .pointer (some ⟨g, p, none⟩)) rfl rfl rfl (fun w => at_row Try.underlying31 us5sz35 g _ _ p (by omega) rfl w)) (fun _ _ => trivial) ?_
      refine TH.only' (listed' := #[true, true, true, true, true, true, true, true, true, true, true, true, true, true, true, true]) 15 rfl (by kernel_rfl) rfl ?_
      refine TL.uset (k := 0) (i := p) rfl rfl rfl rfl rfl rfl us5sz35 (by rw [List.length_set]; omega) ?_
      refine TL.end_ ?_
      refine TX.held (fun _ _ => trivial) ?_
      refine TH.done (by kernel_rfl) ?_
      exact TX.joined (()) (⟨rfl, rfl, rfl, trivial⟩) (fun w1 hw => hw)
  · rintro u
    have hP1 : Pin a b xs (swp xs a p) := Pin.swp1 (by omega) (Nat.le_refl _) (by omega) hap hpb
    have hl1 : (swp xs a p).length = n := by rw [swp_len]; exact hl
    have hS : Prt a b (a + 1) (b - 1) (swp xs a p) := Prt.start (by omega)
    refine TC.seq_ ?_
    refine TC.region ?_
    refine TL.val rfl rfl rfl (gives_move rfl rfl) ?_
    refine TL.val rfl rfl rfl (gives_bin rfl rfl rfl (fun w => bin_add_ (r := ((a + 1 : Nat) : Int)) (by simp only [IntKind.wrap_i64]; omega) w)) ?_
    refine TL.val rfl rfl rfl (gives_move rfl rfl) ?_
    refine TL.val rfl rfl rfl (gives_bin rfl rfl rfl (fun w => bin_sub_ (r := ((b - 1 : Nat) : Int)) (by simp only [IntKind.wrap_i64]; omega) w)) ?_
    refine TL.val rfl rfl rfl (gives_assign rfl rfl) ?_
    refine TL.val rfl rfl rfl (gives_assign rfl rfl) ?_
    refine TL.end_ ?_
    refine TX.then_ ?_
    refine TC.join (α := {y : Nat // (a + 1) ≤ y ∧ Prt a b y (b - 1) (swp xs a p) ∧ (y ≤ b - 1 → dx (swp xs a p) a ≤ dx (swp xs a p) y)}) (fun y => [(0, .slice (some ⟨g, 0, none⟩) n c), (1, .int .i64 ((a : Nat) : Int)), (2, .int .i64 ((b : Nat) : Int)), (10, .int .i64 ((y.1 : Nat) : Int)), (11, .int .i64 ((b - 1 : Nat) : Int))]) (fun y => Pm ⟨wbut w g, g⟩ ([.row (.slice (some ⟨g, 0, none⟩) n c) 35 1 n (uv (swp xs a p))] ++ oths g w)) ?_ ?_
    · refine TC.block ?_
      refine TC.loop_ (α := {y : Nat // (a + 1) ≤ y ∧ Prt a b y (b - 1) (swp xs a p)}) (fun y => [(0, .slice (some ⟨g, 0, none⟩) n c), (1, .int .i64 ((a : Nat) : Int)), (2, .int .i64 ((b : Nat) : Int)), (10, .int .i64 ((y.1 : Nat) : Int)), (11, .int .i64 ((b - 1 : Nat) : Int))]) (fun y => Pm ⟨wbut w g, g⟩ ([.row (.slice (some ⟨g, 0, none⟩) n c) 35 1 n (uv (swp xs a p))] ++ oths g w)) (fun y => b + 1 - y.1) (⟨(a + 1), Nat.le_refl _, hS⟩) ⟨rfl, rfl, rfl, rfl, rfl, trivial⟩ (fun w1 hw => hw) ?_
      rintro ⟨i, hi0, hQ⟩
      try dsimp only
      have hq1 := hQ.hi
      have hq2 := hQ.hj
      have hq3 := hQ.ij
      refine TC.seq_ ?_
      refine TC.seq_ ?_
      have hway : ¬ i ≤ b - 1 ∨ (i ≤ b - 1 ∧ dx (swp xs a p) i < dx (swp xs a p) a) ∨ (i ≤ b - 1 ∧ ¬ dx (swp xs a p) i < dx (swp xs a p) a) := by omega
      rcases hway with p1 | ⟨p1, p2⟩ | ⟨p1, p2⟩
      · have hie : i ≤ b - 1 → dx (swp xs a p) a ≤ dx (swp xs a p) i := fun hh => absurd hh p1
        refine TC.quiet_ (E' := ?_) (by kernel_rfl) (by kernel_rfl) (fun w hw => hw.drawn _) ?_ ?_
        rotate_left
        · refine TQ.val rfl rfl rfl (gives_move rfl rfl) ?_
          refine TQ.val rfl rfl rfl (gives_move rfl rfl) ?_
          refine TQ.val rfl rfl rfl (gives_bin rfl rfl rfl (fun w => bin_leq_f (by omega) w)) ?_
          refine TQ.val rfl rfl rfl (gives_move rfl rfl) ?_
          refine TQ.off rfl rfl rfl rfl rfl rfl ?_
          refine TQ.off rfl rfl rfl rfl rfl rfl ?_
          refine TQ.off rfl rfl rfl rfl rfl rfl ?_
          refine TQ.off rfl rfl rfl rfl rfl rfl ?_
          refine TQ.off rfl rfl rfl rfl rfl rfl ?_
          refine TQ.off rfl rfl rfl rfl rfl rfl ?_
          refine TQ.off rfl rfl rfl rfl rfl rfl ?_
          refine TQ.off rfl rfl rfl rfl rfl rfl ?_
          refine TQ.off rfl rfl rfl rfl rfl rfl ?_
          refine TQ.val rfl rfl rfl (gives_pick rfl rfl rfl) ?_
          exact TQ.end_
        refine TX.then_ ?_
        refine TC.condF rfl ?_
        refine TC.exit_ ?_
        refine TX.then_exit ?_
        refine TX.then_exit ?_
        refine TX.in_same ?_
        exact TX.joined (⟨i, hi0, hQ, hie⟩) (⟨rfl, rfl, rfl, rfl, rfl, trivial⟩) (fun w1 hw => hw)
      · have hQ2 : Prt a b (i + 1) (b - 1) (swp xs a p) := hQ.inc p1 (by omega)
        refine TC.quiet_ (E' := ?_) (by kernel_rfl) (by kernel_rfl) (fun w hw => hw.drawn _) ?_ ?_
        rotate_left
        · refine TQ.val rfl rfl rfl (gives_move rfl rfl) ?_
          refine TQ.val rfl rfl rfl (gives_move rfl rfl) ?_
          refine TQ.val rfl rfl rfl (gives_bin rfl rfl rfl (fun w => bin_leq_t (by omega) w)) ?_
          refine TQ.val rfl rfl rfl (gives_move rfl rfl) ?_
          refine TQ.on rfl rfl rfl ?_
          refine TQ.val rfl rfl rfl (gives_move rfl rfl) ?_
          refine TQ.on rfl rfl rfl ?_
          refine TQ.val rfl rfl rfl (gives_move rfl rfl) ?_
          refine TQ.on rfl rfl rfl ?_
          refine TQ.val rfl rfl rfl (gives_at (v := .pointer (some ⟨g, i, none⟩)) rfl rfl rfl (fun w => at_row Try.underlying31 us5sz35 g _ _ i (by omega) rfl w)) ?_
          refine TQ.on rfl rfl rfl ?_
          refine TQ.val rfl rfl rfl (pm_loadU (k := 0) (i := i) rfl rfl us5ag35 rfl (by omega)) ?_
          refine TQ.on rfl rfl rfl ?_
          refine TQ.val rfl rfl rfl (gives_move rfl rfl) ?_
          refine TQ.on rfl rfl rfl ?_
          refine TQ.val rfl rfl rfl (gives_move rfl rfl) ?_
          refine TQ.on rfl rfl rfl ?_
          refine TQ.val rfl rfl rfl (gives_at (v := .pointer (some ⟨g, a, none⟩)) rfl rfl rfl (fun w => at_row Try.underlying31 us5sz35 g _ _ a (by omega) rfl w)) ?_
          refine TQ.on rfl rfl rfl ?_
          refine TQ.val rfl rfl rfl (pm_loadU (k := 0) (i := a) rfl rfl us5ag35 rfl (by omega)) ?_
          refine TQ.on rfl rfl rfl ?_
          refine TQ.call (v := .bool true) rfl rfl rfl rfl rfl Try.func68 us5nm68 us5bd68 (fun w1 hw => (less_t _ _ p2 w1).mono fun en w2 ⟨h1, h2⟩ => ⟨h1, hw.below h2⟩) ?_
          refine TQ.val rfl rfl rfl (gives_pick rfl rfl rfl) ?_
          exact TQ.end_
        refine TX.then_ ?_
        refine TC.condT rfl ?_
        refine TC.skip_ ?_
        refine TX.then_ ?_
        refine TC.block ?_
        refine TC.region ?_
        refine TL.val rfl rfl rfl (gives_move rfl rfl) ?_
        refine TL.val rfl rfl rfl (gives_bin rfl rfl rfl (fun w => bin_add_ (r := ((i + 1 : Nat) : Int)) (by simp only [IntKind.wrap_i64]; omega) w)) ?_
        refine TL.val rfl rfl rfl (gives_assign rfl rfl) ?_
        refine TL.end_ ?_
        refine TX.in_normal ?_
        exact TX.round (⟨i + 1, by omega, hQ2⟩) (by show b + 1 - (i + 1) < b + 1 - i; omega) ⟨rfl, rfl, rfl, rfl, rfl, trivial⟩ (fun w1 hw => hw)
      · have hie : i ≤ b - 1 → dx (swp xs a p) a ≤ dx (swp xs a p) i := fun _ => by omega
        refine TC.quiet_ (E' := ?_) (by kernel_rfl) (by kernel_rfl) (fun w hw => hw.drawn _) ?_ ?_
        rotate_left
        · refine TQ.val rfl rfl rfl (gives_move rfl rfl) ?_
          refine TQ.val rfl rfl rfl (gives_move rfl rfl) ?_
          refine TQ.val rfl rfl rfl (gives_bin rfl rfl rfl (fun w => bin_leq_t (by omega) w)) ?_
          refine TQ.val rfl rfl rfl (gives_move rfl rfl) ?_
          refine TQ.on rfl rfl rfl ?_
          refine TQ.val rfl rfl rfl (gives_move rfl rfl) ?_
          refine TQ.on rfl rfl rfl ?_
          refine TQ.val rfl rfl rfl (gives_move rfl rfl) ?_
          refine TQ.on rfl rfl rfl ?_
          refine TQ.val rfl rfl rfl (gives_at (v := .pointer (some ⟨g, i, none⟩)) rfl rfl rfl (fun w => at_row Try.underlying31 us5sz35 g _ _ i (by omega) rfl w)) ?_
          refine TQ.on rfl rfl rfl ?_
          refine TQ.val rfl rfl rfl (pm_loadU (k := 0) (i := i) rfl rfl us5ag35 rfl (by omega)) ?_
          refine TQ.on rfl rfl rfl ?_
          refine TQ.val rfl rfl rfl (gives_move rfl rfl) ?_
          refine TQ.on rfl rfl rfl ?_
          refine TQ.val rfl rfl rfl (gives_move rfl rfl) ?_
          refine TQ.on rfl rfl rfl ?_
          refine TQ.val rfl rfl rfl (gives_at (v := .pointer (some ⟨g, a, none⟩)) rfl rfl rfl (fun w => at_row Try.underlying31 us5sz35 g _ _ a (by omega) rfl w)) ?_
          refine TQ.on rfl rfl rfl ?_
          refine TQ.val rfl rfl rfl (pm_loadU (k := 0) (i := a) rfl rfl us5ag35 rfl (by omega)) ?_
          refine TQ.on rfl rfl rfl ?_
          refine TQ.call (v := .bool false) rfl rfl rfl rfl rfl Try.func68 us5nm68 us5bd68 (fun w1 hw => (less_f _ _ p2 w1).mono fun en w2 ⟨h1, h2⟩ => ⟨h1, hw.below h2⟩) ?_
          refine TQ.val rfl rfl rfl (gives_pick rfl rfl rfl) ?_
          exact TQ.end_
        refine TX.then_ ?_
        refine TC.condF rfl ?_
        refine TC.exit_ ?_
        refine TX.then_exit ?_
        refine TX.then_exit ?_
        refine TX.in_same ?_
        exact TX.joined (⟨i, hi0, hQ, hie⟩) (⟨rfl, rfl, rfl, rfl, rfl, trivial⟩) (fun w1 hw => hw)
    · rintro ⟨i, hi0, hQ, hie⟩
      try dsimp only
      have hq1 := hQ.hi
      have hq2 := hQ.hj
      have hq3 := hQ.ij
      refine TC.join (α := {y : Nat // y ≤ b - 1 ∧ Prt a b i y (swp xs a p) ∧ (i ≤ y → dx (swp xs a p) y < dx (swp xs a p) a)}) (fun y => [(0, .slice (some ⟨g, 0, none⟩) n c), (1, .int .i64 ((a : Nat) : Int)), (2, .int .i64 ((b : Nat) : Int)), (10, .int .i64 ((i : Nat) : Int)), (11, .int .i64 ((y.1 : Nat) : Int))]) (fun y => Pm ⟨wbut w g, g⟩ ([.row (.slice (some ⟨g, 0, none⟩) n c) 35 1 n (uv (swp xs a p))] ++ oths g w)) ?_ ?_
      · refine TC.block ?_
        refine TC.loop_ (α := {y : Nat // y ≤ b - 1 ∧ Prt a b i y (swp xs a p)}) (fun y => [(0, .slice (some ⟨g, 0, none⟩) n c), (1, .int .i64 ((a : Nat) : Int)), (2, .int .i64 ((b : Nat) : Int)), (10, .int .i64 ((i : Nat) : Int)), (11, .int .i64 ((y.1 : Nat) : Int))]) (fun y => Pm ⟨wbut w g, g⟩ ([.row (.slice (some ⟨g, 0, none⟩) n c) 35 1 n (uv (swp xs a p))] ++ oths g w)) (fun y => y.1) (⟨b - 1, Nat.le_refl _, hQ⟩) ⟨rfl, rfl, rfl, rfl, rfl, trivial⟩ (fun w1 hw => hw) ?_
        rintro ⟨j, hj0, hR⟩
        try dsimp only
        have hr1 := hR.hi
        have hr2 := hR.hj
        have hr3 := hR.ij
        refine TC.seq_ ?_
        refine TC.seq_ ?_
        have hway : ¬ i ≤ j ∨ (i ≤ j ∧ dx (swp xs a p) j < dx (swp xs a p) a) ∨ (i ≤ j ∧ ¬ dx (swp xs a p) j < dx (swp xs a p) a) := by omega
        rcases hway with p1 | ⟨p1, p2⟩ | ⟨p1, p2⟩
        · have hje : i ≤ j → dx (swp xs a p) j < dx (swp xs a p) a := fun hh => absurd hh p1
          refine TC.quiet_ (E' := ?_) (by kernel_rfl) (by kernel_rfl) (fun w hw => hw.drawn _) ?_ ?_
          rotate_left
          · refine TQ.val rfl rfl rfl (gives_move rfl rfl) ?_
            refine TQ.val rfl rfl rfl (gives_move rfl rfl) ?_
            refine TQ.val rfl rfl rfl (gives_bin rfl rfl rfl (fun w => bin_leq_f (by omega) w)) ?_
            refine TQ.val rfl rfl rfl (gives_move rfl rfl) ?_
            refine TQ.off rfl rfl rfl rfl rfl rfl ?_
            refine TQ.off rfl rfl rfl rfl rfl rfl ?_
            refine TQ.off rfl rfl rfl rfl rfl rfl ?_
            refine TQ.off rfl rfl rfl rfl rfl rfl ?_
            refine TQ.off rfl rfl rfl rfl rfl rfl ?_
            refine TQ.off rfl rfl rfl rfl rfl rfl ?_
            refine TQ.off rfl rfl rfl rfl rfl rfl ?_
            refine TQ.off rfl rfl rfl rfl rfl rfl ?_
            refine TQ.off rfl rfl rfl rfl rfl rfl ?_
            refine TQ.off rfl rfl rfl rfl rfl rfl ?_
            refine TQ.val rfl rfl rfl (gives_pick rfl rfl rfl) ?_
            exact TQ.end_
          refine TX.then_ ?_
          refine TC.condF rfl ?_
          refine TC.exit_ ?_
          refine TX.then_exit ?_
          refine TX.then_exit ?_
          refine TX.in_same ?_
          exact TX.joined (⟨j, hj0, hR, hje⟩) (⟨rfl, rfl, rfl, rfl, rfl, trivial⟩) (fun w1 hw => hw)
        · have hje : i ≤ j → dx (swp xs a p) j < dx (swp xs a p) a := fun _ => p2
          refine TC.quiet_ (E' := ?_) (by kernel_rfl) (by kernel_rfl) (fun w hw => hw.drawn _) ?_ ?_
          rotate_left
          · refine TQ.val rfl rfl rfl (gives_move rfl rfl) ?_
            refine TQ.val rfl rfl rfl (gives_move rfl rfl) ?_
            refine TQ.val rfl rfl rfl (gives_bin rfl rfl rfl (fun w => bin_leq_t (by omega) w)) ?_
            refine TQ.val rfl rfl rfl (gives_move rfl rfl) ?_
            refine TQ.on rfl rfl rfl ?_
            refine TQ.val rfl rfl rfl (gives_move rfl rfl) ?_
            refine TQ.on rfl rfl rfl ?_
            refine TQ.val rfl rfl rfl (gives_move rfl rfl) ?_
            refine TQ.on rfl rfl rfl ?_
            refine TQ.val rfl rfl rfl (gives_at (v := .pointer (some ⟨g, j, none⟩)) rfl rfl rfl (fun w => at_row Try.underlying31 us5sz35 g _ _ j (by omega) rfl w)) ?_
            refine TQ.on rfl rfl rfl ?_
            refine TQ.val rfl rfl rfl (pm_loadU (k := 0) (i := j) rfl rfl us5ag35 rfl (by omega)) ?_
            refine TQ.on rfl rfl rfl ?_
            refine TQ.val rfl rfl rfl (gives_move rfl rfl) ?_
            refine TQ.on rfl rfl rfl ?_
            refine TQ.val rfl rfl rfl (gives_move rfl rfl) ?_
            refine TQ.on rfl rfl rfl ?_
            refine TQ.val rfl rfl rfl (gives_at (v := .pointer (some ⟨g, a, none⟩)) rfl rfl rfl (fun w => at_row Try.underlying31 us5sz35 g _ _ a (by omega) rfl w)) ?_
            refine TQ.on rfl rfl rfl ?_
            refine TQ.val rfl rfl rfl (pm_loadU (k := 0) (i := a) rfl rfl us5ag35 rfl (by omega)) ?_
            refine TQ.on rfl rfl rfl ?_
            refine TQ.call (v := .bool true) rfl rfl rfl rfl rfl Try.func68 us5nm68 us5bd68 (fun w1 hw => (less_t _ _ p2 w1).mono fun en w2 ⟨h1, h2⟩ => ⟨h1, hw.below h2⟩) ?_
            refine TQ.on rfl rfl rfl ?_
            refine TQ.val rfl rfl rfl (gives_boolnot rfl rfl) ?_
            refine TQ.val rfl rfl rfl (gives_pick rfl rfl rfl) ?_
            exact TQ.end_
          refine TX.then_ ?_
          refine TC.condF rfl ?_
          refine TC.exit_ ?_
          refine TX.then_exit ?_
          refine TX.then_exit ?_
          refine TX.in_same ?_
          exact TX.joined (⟨j, hj0, hR, hje⟩) (⟨rfl, rfl, rfl, rfl, rfl, trivial⟩) (fun w1 hw => hw)
        · have hR2 : Prt a b i (j - 1) (swp xs a p) := hR.dec p1 (by omega)
          refine TC.quiet_ (E' := ?_) (by kernel_rfl) (by kernel_rfl) (fun w hw => hw.drawn _) ?_ ?_
          rotate_left
          · refine TQ.val rfl rfl rfl (gives_move rfl rfl) ?_
            refine TQ.val rfl rfl rfl (gives_move rfl rfl) ?_
            refine TQ.val rfl rfl rfl (gives_bin rfl rfl rfl (fun w => bin_leq_t (by omega) w)) ?_
            refine TQ.val rfl rfl rfl (gives_move rfl rfl) ?_
            refine TQ.on rfl rfl rfl ?_
            refine TQ.val rfl rfl rfl (gives_move rfl rfl) ?_
            refine TQ.on rfl rfl rfl ?_
            refine TQ.val rfl rfl rfl (gives_move rfl rfl) ?_
            refine TQ.on rfl rfl rfl ?_
            refine TQ.val rfl rfl rfl (gives_at (v := .pointer (some ⟨g, j, none⟩)) rfl rfl rfl (fun w => at_row Try.underlying31 us5sz35 g _ _ j (by omega) rfl w)) ?_
            refine TQ.on rfl rfl rfl ?_
            refine TQ.val rfl rfl rfl (pm_loadU (k := 0) (i := j) rfl rfl us5ag35 rfl (by omega)) ?_
            refine TQ.on rfl rfl rfl ?_
            refine TQ.val rfl rfl rfl (gives_move rfl rfl) ?_
            refine TQ.on rfl rfl rfl ?_
            refine TQ.val rfl rfl rfl (gives_move rfl rfl) ?_
            refine TQ.on rfl rfl rfl ?_
            refine TQ.val rfl rfl rfl (gives_at (v := .pointer (some ⟨g, a, none⟩)) rfl rfl rfl (fun w => at_row Try.underlying31 us5sz35 g _ _ a (by omega) rfl w)) ?_
            refine TQ.on rfl rfl rfl ?_
            refine TQ.val rfl rfl rfl (pm_loadU (k := 0) (i := a) rfl rfl us5ag35 rfl (by omega)) ?_
            refine TQ.on rfl rfl rfl ?_
            refine TQ.call (v := .bool false) rfl rfl rfl rfl rfl Try.func68 us5nm68 us5bd68 (fun w1 hw => (less_f _ _ p2 w1).mono fun en w2 ⟨h1, h2⟩ => ⟨h1, hw.below h2⟩) ?_
            refine TQ.on rfl rfl rfl ?_
            refine TQ.val rfl rfl rfl (gives_boolnot rfl rfl) ?_
            refine TQ.val rfl rfl rfl (gives_pick rfl rfl rfl) ?_
            exact TQ.end_
          refine TX.then_ ?_
          refine TC.condT rfl ?_
          refine TC.skip_ ?_
          refine TX.then_ ?_
          refine TC.block ?_
          refine TC.region ?_
          refine TL.val rfl rfl rfl (gives_move rfl rfl) ?_
          refine TL.val rfl rfl rfl (gives_bin rfl rfl rfl (fun w => bin_sub_ (r := ((j - 1 : Nat) : Int)) (by simp only [IntKind.wrap_i64]; omega) w)) ?_
          refine TL.val rfl rfl rfl (gives_assign rfl rfl) ?_
          refine TL.end_ ?_
          refine TX.in_normal ?_
          exact TX.round (⟨j - 1, by omega, hR2⟩) (by show j - 1 < j; omega) ⟨rfl, rfl, rfl, rfl, rfl, trivial⟩ (fun w1 hw => hw)
      · rintro ⟨j, hj0, hR, hje⟩
        try dsimp only
        have hr1 := hR.hi
        have hr2 := hR.hj
        have hr3 := hR.ij
        refine TC.seq_ ?_
        refine TC.seq_ ?_
        refine TC.region ?_
        refine TL.val rfl rfl rfl (gives_move rfl rfl) ?_
        refine TL.val rfl rfl rfl (gives_move rfl rfl) ?_
        refine TL.vsplit rfl rfl rfl (gives_bin rfl rfl rfl (fun w => bin_gtr w)) (fun h65 => ?_) (fun h65 => ?_)
        · have q65 := of_decide_eq_true h65
          refine TL.end_ ?_
          refine TX.then_ ?_
          refine TC.condT rfl ?_
          refine TC.seq_ ?_
          refine TC.held (ls := #[false, false, false, false, false, false, false, false, false, false, false, false, false, false, false, false]) (fun _ => True) (by kernel_rfl) rfl rfl (fun w hw => hw.drawn _) ?_
          refine TH.take (listed' := #[true, false, false, false, false, false, false, false, false, false, false, false, false, false, false, false]) 0 rfl (by kernel_rfl) (by kernel_rfl) (by kernel_rfl) rfl rfl rfl rfl (gives_move rfl rfl) (fun _ _ => trivial) ?_
          refine TH.take (listed' := #[true, true, false, false, false, false, false, false, false, false, false, false, false, false, false, false]) 1 rfl (by kernel_rfl) (by kernel_rfl) (by kernel_rfl) rfl rfl rfl rfl (gives_move rfl rfl) (fun _ _ => trivial) ?_
          refine TH.take (listed' := #[true, true, true, false, false, false, false, false, false, false, false, false, false, false, false, false]) 2 rfl (by kernel_rfl) (by kernel_rfl) (by kernel_rfl) rfl rfl rfl rfl (gives_move rfl rfl) (fun _ _ => trivial) ?_
          refine TH.take (listed' := #[true, true, true, true, false, false, false, false, false, false, false, false, false, false, false, false]) 3 rfl (by kernel_rfl) (by kernel_rfl) (by kernel_rfl) rfl rfl rfl rfl (gives_move rfl rfl) (fun _ _ => trivial) ?_
          refine TH.take (listed' := #[true, true, true, true, true, false, false, false, false, false, false, false, false, false, false, false]) 4 rfl (by kernel_rfl) (by kernel_rfl) (by kernel_rfl) rfl rfl rfl rfl (gives_move rfl rfl) (fun _ _ => trivial) ?_
          refine TH.take (listed' := #[true, true, true, true, true, true, false, false, false, false, false, false, false, false, false, false]) 5 rfl (by kernel_rfl) (by kernel_rfl) (by kernel_rfl) rfl rfl rfl rfl (gives_move rfl rfl) (fun _ _ => trivial) ?_
          refine TH.take (listed' := #[true, true, true, true, true, true, true, false, false, false, false, false, false, false, false, false]) 6 rfl (by kernel_rfl) (by kernel_rfl) (by kernel_rfl) rfl rfl rfl rfl (gives_at (v := .pointer (some ⟨g, a, none⟩)) rfl rfl rfl (fun w => at_row Try.underlying31 us5sz35 g _ _ a (by omega) rfl w)) (fun _ _ => trivial) ?_
          refine TH.take (listed' := #[true, true, true, true, true, true, true, false, true, false, false, false, false, false, false, false]) 8 rfl (by kernel_rfl) (by kernel_rfl) (by kernel_rfl) rfl rfl rfl rfl (gives_move rfl rfl) (fun _ _ => trivial) ?_
          refine TH.take (listed' := #[true, true, true, true, true, true, true, false, true, true, false, false, false, false, false, false]) 9 rfl (by kernel_rfl) (by kernel_rfl) (by kernel_rfl) rfl rfl rfl rfl (gives_move rfl rfl) (fun _ _ => trivial) ?_
          refine TH.take (listed' := #[true, true, true, true, true, true, true, false, true, true, true, false, false, false, false, false]) 10 rfl (by kernel_rfl) (by kernel_rfl) (by kernel_rfl) rfl rfl rfl rfl (gives_at (v := .pointer (some ⟨g, j, none⟩)) rfl rfl rfl (fun w => at_row Try.underlying31 us5sz35 g _ _ j (by omega) rfl w)) (fun _ _ => trivial) ?_
          refine TH.two' (listed1 := #[true, true, true, true, true, true, true, true, true, true, true, false, false, false, false, false]) (listed2 := #[true, true, true, true, true, true, true, false, true, true, true, true, false, false, false, false]) 7 11 rfl rfl (by kernel_rfl) rfl rfl ?_ ?_
          · refine TL.val rfl rfl rfl (pm_loadU (k := 0) (i := a) rfl rfl us5ag35 rfl (by omega)) ?_
            refine TL.end_ ?_
            refine TX.held (fun _ _ => trivial) ?_
            refine TH.only' (listed' := #[true, true, true, true, true, true, true, true, true, true, true, true, false, false, false, false]) 11 rfl (by kernel_rfl) rfl ?_
            refine TL.val rfl rfl rfl (pm_loadU (k := 0) (i := j) rfl rfl us5ag35 rfl (by omega)) ?_
            refine TL.end_ ?_
            refine TX.held (fun _ _ => trivial) ?_
            refine TH.take (listed' := #[true, true, true, true, true, true, true, true, true, true, true, true, true, false, false, false]) 12 rfl (by kernel_rfl) (by kernel_rfl) (by kernel_rfl) rfl rfl rfl rfl (gives_at (v := .pointer (some ⟨g, j, none⟩)) rfl rfl rfl (fun w => at_row Try.underlying31 us5sz35 g _ _ j (by omega) rfl w)) (fun _ _ => trivial) ?_
            refine TH.only' (listed' := #[true, true, true, true, true, true, true, true, true, true, true, true, true, true, false, false]) 13 rfl (by kernel_rfl) rfl ?_
            refine TL.uset (k := 0) (i := j) rfl rfl rfl rfl rfl rfl us5sz35 (by omega) ?_
            refine TL.end_ ?_
            refine TX.held (fun _ _ => trivial) ?_
            refine TH.take (listed' := #[true, true, true, true, true, true, true, true, true, true, true, true, true, true, true, false]) 14 rfl (by kernel_rfl) (by kernel_rfl) (by kernel_rfl) rfl rfl rfl rfl (gives_at (v := .pointer (some ⟨g, a, none⟩)) rfl rfl rfl (fun w => at_row Try.underlying31 us5sz35 g _ _ a (by omega) rfl w)) (fun _ _ => trivial) ?_
            refine TH.only' (listed' := #[true, true, true, true, true, true, true, true, true, true, true, true, true, true, true, true]) 15 rfl (by kernel_rfl) rfl ?_
            refine TL.uset (k := 0) (i := a) rfl rfl rfl rfl rfl rfl us5sz35 (by rw [List.length_set]; omega) ?_
            refine TL.end_ ?_
            refine TX.held (fun _ _ => trivial) ?_
            refine TH.done (by kernel_rfl) ?_
            refine TX.then_ ?_
            refine TC.seq_ ?_
            refine TC.region ?_
            refine TL.val rfl rfl rfl (gives_move rfl rfl) ?_
            refine TL.val rfl rfl rfl (gives_assign rfl rfl) ?_
            refine TL.val rfl rfl rfl (gives_assign rfl rfl) ?_
            refine TL.end_ ?_
            refine TX.then_ ?_
            refine TC.ret_ ?_
            refine TX.then_ret ?_
            exact ret_pair Try.results70 rfl rfl (fun w1 hw => ⟨(j, true), swp (swp xs a p) j a, rfl, ⟨hP1.swap (by omega) (by omega) (by omega) (Nat.le_refl _) (by omega), hR.mid (by omega) (by omega)⟩, pm_rowAt hw (k := 0) rfl, hw.mapEnd (fun q hq => by simp [hq])⟩)
          · refine TL.val rfl rfl rfl (pm_loadU (k := 0) (i := j) rfl rfl us5ag35 rfl (by omega)) ?_
            refine TL.end_ ?_
            refine TX.held (fun _ _ => trivial) ?_
            refine TH.only' (listed' := #[true, true, true, true, true, true, true, true, true, true, true, true, false, false, false, false]) 7 rfl (by kernel_rfl) rfl ?_
            refine TL.val rfl rfl rfl (pm_loadU (k := 0) (i := a) rfl rfl us5ag35 rfl (by omega)) ?_
            refine TL.end_ ?_
            refine TX.held (fun _ _ => trivial) ?_
            refine TH.take (listed' := #[true, true, true, true, true, true, true, true, true, true, true, true, true, false, false, false]) 12 rfl (by kernel_rfl) (by kernel_rfl) (by kernel_rfl) rfl rfl rfl rfl (gives_at (v := .pointer (some ⟨g, j, none⟩)) rfl rfl rfl (fun w => at_row Try.underlying31 us5sz35 g _ _ j (by omega) rfl w)) (fun _ _ => trivial) ?_
            refine TH.only' (listed' := #[true, true, true, true, true, true, true, true, true, true, true, true, true, true, false, false]) 13 rfl (by kernel_rfl) rfl ?_
            refine TL.uset (k := 0) (i := j) rfl rfl rfl rfl rfl rfl us5sz35 (by omega) ?_
            refine TL.end_ ?_
            refine TX.held (fun _ _ => trivial) ?_
            refine TH.take (listed' := #[true, true, true, true, true, true, true, true, true, true, true, true, true, true, true, false]) 14 rfl (by kernel_rfl) (by kernel_rfl) (by kernel_rfl) rfl rfl rfl rfl (gives_at (v := .pointer (some ⟨g, a, none⟩)) rfl rfl rfl (fun w => at_row Try.underlying31 us5sz35 g _ _ a (by omega) rfl w)) (fun _ _ => trivial) ?_
            refine TH.only' (listed' := #[true, true, true, true, true, true, true, true, true, true, true, true, true, true, true, true]) 15 rfl (by kernel_rfl) rfl ?_
            refine TL.uset (k := 0) (i := a) rfl rfl rfl rfl rfl rfl us5sz35 (by rw [List.length_set]; omega) ?_
            refine TL.end_ ?_
            refine TX.held (fun _ _ => trivial) ?_
            refine TH.done (by kernel_rfl) ?_
            refine TX.then_ ?_
            refine TC.seq_ ?_
            refine TC.region ?_
            refine TL.val rfl rfl rfl (gives_move rfl rfl) ?_
            refine TL.val rfl rfl rfl (gives_assign rfl rfl) ?_
            refine TL.val rfl rfl rfl (gives_assign rfl rfl) ?_
            refine TL.end_ ?_
            refine TX.then_ ?_
            refine TC.ret_ ?_
            refine TX.then_ret ?_
            exact ret_pair Try.results70 rfl rfl (fun w1 hw => ⟨(j, true), swp (swp xs a p) j a, rfl, ⟨hP1.swap (by omega) (by omega) (by omega) (Nat.le_refl _) (by omega), hR.mid (by omega) (by omega)⟩, pm_rowAt hw (k := 0) rfl, hw.mapEnd (fun q hq => by simp [hq])⟩)
        · have q65 := of_decide_eq_false h65
          have hlt : i < j := by
            have h1 := hie (by omega)
            have h2 := hje (by omega)
            rcases Nat.lt_or_ge i j with hh | hh
            · exact hh
            · exfalso; obtain rfl : i = j := by omega
              omega
          refine TL.end_ ?_
          refine TX.then_ ?_
          refine TC.condF rfl ?_
          refine TC.skip_ ?_
          refine TX.then_ ?_
          refine TC.join (α := Unit) (fun y => [(0, .slice (some ⟨g, 0, none⟩) n c), (1, .int .i64 ((a : Nat) : Int)), (2, .int .i64 ((b : Nat) : Int)), (10, .int .i64 ((i : Nat) : Int)), (11, .int .i64 ((j : Nat) : Int))]) (fun y => Pm ⟨wbut w g, g⟩ ([.row (.slice (some ⟨g, 0, none⟩) n c) 35 1 n (uv (swp (swp xs a p) i j))] ++ oths g w)) ?_ ?_
          · refine TC.held (ls := #[false, false, false, false, false, false, false, false, false, false, false, false, false, false, false, false]) (fun _ => True) (by kernel_rfl) rfl rfl (fun w hw => hw.drawn _) ?_
            refine TH.take (listed' := #[true, false, false, false, false, false, false, false, false, false, false, false, false, false, false, false]) 0 rfl (by kernel_rfl) (by kernel_rfl) (by kernel_rfl) rfl rfl rfl rfl (gives_move rfl rfl) (fun _ _ => trivial) ?_
            refine TH.take (listed' := #[true, true, false, false, false, false, false, false, false, false, false, false, false, false, false, false]) 1 rfl (by kernel_rfl) (by kernel_rfl) (by kernel_rfl) rfl rfl rfl rfl (gives_move rfl rfl) (fun _ _ => trivial) ?_
            refine TH.take (listed' := #[true, true, true, false, false, false, false, false, false, false, false, false, false, false, false, false]) 2 rfl (by kernel_rfl) (by kernel_rfl) (by kernel_rfl) rfl rfl rfl rfl (gives_move rfl rfl) (fun _ _ => trivial) ?_
            refine TH.take (listed' := #[true, true, true, true, false, false, false, false, false, false, false, false, false, false, false, false]) 3 rfl (by kernel_rfl) (by kernel_rfl) (by kernel_rfl) rfl rfl rfl rfl (gives_move rfl rfl) (fun _ _ => trivial) ?_
            refine TH.take (listed' := #[true, true, true, true, true, false, false, false, false, false, false, false, false, false, false, false]) 4 rfl (by kernel_rfl) (by kernel_rfl) (by kernel_rfl) rfl rfl rfl rfl (gives_move rfl rfl) (fun _ _ => trivial) ?_
            refine TH.take (listed' := #[true, true, true, true, true, true, false, false, false, false, false, false, false, false, false, false]) 5 rfl (by kernel_rfl) (by kernel_rfl) (by kernel_rfl) rfl rfl rfl rfl (gives_move rfl rfl) (fun _ _ => trivial) ?_
            refine TH.take (listed' := #[true, true, true, true, true, true, true, false, false, false, false, false, false, false, false, false]) 6 rfl (by kernel_rfl) (by kernel_rfl) (by kernel_rfl) rfl rfl rfl rfl (gives_at (v := .pointer (some ⟨g, j, none⟩)) rfl rfl rfl (fun w => at_row Try.underlying31 us5sz35 g _ _ j (by omega) rfl w)) (fun _ _ => trivial) ?_
            refine TH.take (listed' := #[true, true, true, true, true, true, true, false, true, false, false, false, false, false, false, false]) 8 rfl (by kernel_rfl) (by kernel_rfl) (by kernel_rfl) rfl rfl rfl rfl (gives_move rfl rfl) (fun _ _ => trivial) ?_
            refine TH.take (listed' := #[true, true, true, true, true, true, true, false, true, true, false, false, false, false, false, false]) 9 rfl (by kernel_rfl) (by kernel_rfl) (by kernel_rfl) rfl rfl rfl rfl (gives_move rfl rfl) (fun _ _ => trivial) ?_
            refine TH.take (listed' := #[true, true, true, true, true, true, true, false, true, true, true, false, false, false, false, false]) 10 rfl (by kernel_rfl) (by kernel_rfl) (by kernel_rfl) rfl rfl rfl rfl (gives_at (v := .pointer (some ⟨g, i, none⟩)) rfl rfl rfl (fun w => at_row Try.underlying31 us5sz35 g _ _ i (by omega) rfl w)) (fun _ _ => trivial) ?_
            refine TH.two' (listed1 := #[true, true, true, true, true, true, true, true, true, true, true, false, false, false, false, false]) (listed2 := #[true, true, true, true, true, true, true, false, true, true, true, true, false, false, false, false]) 7 11 rfl rfl (by kernel_rfl) rfl rfl ?_ ?_
            · refine TL.val rfl rfl rfl (pm_loadU (k := 0) (i := j) rfl rfl us5ag35 rfl (by omega)) ?_
              refine TL.end_ ?_
              refine TX.held (fun _ _ => trivial) ?_
              refine TH.only' (listed' := #[true, true, true, true, true, true, true, true, true, true, true, true, false, false, false, false]) 11 rfl (by kernel_rfl) rfl ?_
              refine TL.val rfl rfl rfl (pm_loadU (k := 0) (i := i) rfl rfl us5ag35 rfl (by omega)) ?_
              refine TL.end_ ?_
              refine TX.held (fun _ _ => trivial) ?_
              refine TH.take (listed' := #[true, true, true, true, true, true, true, true, true, true, true, true, true, false, false, false]) 12 rfl (by kernel_rfl) (by kernel_rfl) (by kernel_rfl) rfl rfl rfl rfl (gives_at (v := .pointer (some ⟨g, i, none⟩)) rfl rfl rfl (fun w => at_row Try.underlying31 us5sz35 g _ _ i (by omega) rfl w)) (fun _ _ => trivial) ?_
              refine TH.only' (listed' := #[true, true, true, true, true, true, true, true, true, true, true, true, true, true, false, false]) 13 rfl (by kernel_rfl) rfl ?_
              refine TL.uset (k := 0) (i := i) rfl rfl rfl rfl rfl rfl us5sz35 (by omega) ?_
              refine TL.end_ ?_
              refine TX.held (fun _ _ => trivial) ?_
              refine TH.take (listed' := #[true, true, true, true, true, true, true, true, true, true, true, true, true, true, true, false]) 14 rfl (by kernel_rfl) (by kernel_rfl) (by kernel_rfl) rfl rfl rfl rfl (gives_at (v := .pointer (some ⟨g, j, none⟩)) rfl rfl rfl (fun w => at_row Try.underlying31 us5sz35 g _ _ j (by omega) rfl w)) (fun _ _ => trivial) ?_
              refine TH.only' (listed' := #[true, true, true, true, true, true, true, true, true, true, true, true, true, true, true, true]) 15 rfl (by kernel_rfl) rfl ?_
              refine TL.uset (k := 0) (i := j) rfl rfl rfl rfl rfl rfl us5sz35 (by rw [List.length_set]; omega) ?_
              refine TL.end_ ?_
              refine TX.held (fun _ _ => trivial) ?_
              refine TH.done (by kernel_rfl) ?_
              exact TX.joined (()) (⟨rfl, rfl, rfl, rfl, rfl, trivial⟩) (fun w1 hw => hw)
            · refine TL.val rfl rfl rfl (pm_loadU (k := 0) (i := i) rfl rfl us5ag35 rfl (by omega)) ?_
              refine TL.end_ ?_
              refine TX.held (fun _ _ => trivial) ?_
              refine TH.only' (listed' := #[true, true, true, true, true, true, true, true, true, true, true, true, false, false, false, false]) 7 rfl (by kernel_rfl) rfl ?_
              refine TL.val rfl rfl rfl (pm_loadU (k := 0) (i := j) rfl rfl us5ag35 rfl (by omega)) ?_
              refine TL.end_ ?_
              refine TX.held (fun _ _ => trivial) ?_
              refine TH.take (listed' := #[true, true, true, true, true, true, true, true, true, true, true, true, true, false, false, false]) 12 rfl (by kernel_rfl) (by kernel_rfl) (by kernel_rfl) rfl rfl rfl rfl (gives_at (v := .pointer (some ⟨g, i, none⟩)) rfl rfl rfl (fun w => at_row Try.underlying31 us5sz35 g _ _ i (by omega) rfl w)) (fun _ _ => trivial) ?_
              refine TH.only' (listed' := #[true, true, true, true, true, true, true, true, true, true, true, true, true, true, false, false]) 13 rfl (by kernel_rfl) rfl ?_
              refine TL.uset (k := 0) (i := i) rfl rfl rfl rfl rfl rfl us5sz35 (by omega) ?_
              refine TL.end_ ?_
              refine TX.held (fun _ _ => trivial) ?_
              refine TH.take (listed' := #[true, true, true, true, true, true, true, true, true, true, true, true, true, true, true, false]) 14 rfl (by kernel_rfl) (by kernel_rfl) (by kernel_rfl) rfl rfl rfl rfl (gives_at (v := .pointer (some ⟨g, j, none⟩)) rfl rfl rfl (fun w => at_row Try.underlying31 us5sz35 g _ _ j (by omega) rfl w)) (fun _ _ => trivial) ?_
              refine TH.only' (listed' := #[true, true, true, true, true, true, true, true, true, true, true, true, true, true, true, true]) 15 rfl (by kernel_rfl) rfl ?_
              refine TL.uset (k := 0) (i := j) rfl rfl rfl rfl rfl rfl us5sz35 (by rw [List.length_set]; omega) ?_
              refine TL.end_ ?_
              refine TX.held (fun _ _ => trivial) ?_
              refine TH.done (by kernel_rfl) ?_
              exact TX.joined (()) (⟨rfl, rfl, rfl, rfl, rfl, trivial⟩) (fun w1 hw => hw)
          · rintro u
            have hP2 : Pin a b xs (swp (swp xs a p) i j) := hP1.swap (by omega) (by omega) (by omega) (by omega) (by omega)
            have hl2 : (swp (swp xs a p) i j).length = n := by rw [swp_len]; exact hl1
            have hT : Prt a b (i + 1) (j - 1) (swp (swp xs a p) i j) := hR.swap (by omega) hlt (by have := hje (by omega); omega) (hie (by omega))
            refine TC.seq_ ?_
            refine TC.region ?_
            refine TL.val rfl rfl rfl (gives_move rfl rfl) ?_
            refine TL.val rfl rfl rfl (gives_bin rfl rfl rfl (fun w => bin_add_ (r := ((i + 1 : Nat) : Int)) (by simp only [IntKind.wrap_i64]; omega) w)) ?_
            refine TL.val rfl rfl rfl (gives_assign rfl rfl) ?_
            refine TL.end_ ?_
            refine TX.then_ ?_
            refine TC.seq_ ?_
            refine TC.region ?_
            refine TL.val rfl rfl rfl (gives_move rfl rfl) ?_
            refine TL.val rfl rfl rfl (gives_bin rfl rfl rfl (fun w => bin_sub_ (r := ((j - 1 : Nat) : Int)) (by simp only [IntKind.wrap_i64]; omega) w)) ?_
            refine TL.val rfl rfl rfl (gives_assign rfl rfl) ?_
            refine TL.end_ ?_
            refine TX.then_ ?_
            refine TC.seq_ ?_
            refine TC.block ?_
            clear hie hje hR hQ hlt hS
            refine TC.loop_ (α := {y : Nat × Nat × List Int // Prt a b y.1 y.2.1 y.2.2 ∧ Pin a b xs y.2.2 ∧ y.2.2.length = n}) (fun y => [(0, .slice (some ⟨g, 0, none⟩) n c), (1, .int .i64 ((a : Nat) : Int)), (2, .int .i64 ((b : Nat) : Int)), (10, .int .i64 ((y.1.1 : Nat) : Int)), (11, .int .i64 ((y.1.2.1 : Nat) : Int))]) (fun y => Pm ⟨wbut w g, g⟩ ([.row (.slice (some ⟨g, 0, none⟩) n c) 35 1 n (uv y.1.2.2)] ++ oths g w)) (fun y => y.1.2.1 + 1 - y.1.1) (⟨(i + 1, j - 1, swp (swp xs a p) i j), hT, hP2, hl2⟩) ⟨rfl, rfl, rfl, rfl, rfl, trivial⟩ (fun w1 hw => hw) ?_
            rintro ⟨⟨i0, j0, ys⟩, hS, hP, hly⟩
            dsimp only at hS hP hly ⊢
            have hs1 := hS.hi
            have hs2 := hS.hj
            have hs3 := hS.ij
            refine TC.block ?_
            refine TC.join (α := {y : Nat // i0 ≤ y ∧ Prt a b y j0 ys ∧ (y ≤ j0 → dx ys a ≤ dx ys y)}) (fun y => [(0, .slice (some ⟨g, 0, none⟩) n c), (1, .int .i64 ((a : Nat) : Int)), (2, .int .i64 ((b : Nat) : Int)), (10, .int .i64 ((y.1 : Nat) : Int)), (11, .int .i64 ((j0 : Nat) : Int))]) (fun y => Pm ⟨wbut w g, g⟩ ([.row (.slice (some ⟨g, 0, none⟩) n c) 35 1 n (uv ys)] ++ oths g w)) ?_ ?_
            · refine TC.block ?_
              refine TC.loop_ (α := {y : Nat // i0 ≤ y ∧ Prt a b y j0 ys}) (fun y => [(0, .slice (some ⟨g, 0, none⟩) n c), (1, .int .i64 ((a : Nat) : Int)), (2, .int .i64 ((b : Nat) : Int)), (10, .int .i64 ((y.1 : Nat) : Int)), (11, .int .i64 ((j0 : Nat) : Int))]) (fun y => Pm ⟨wbut w g, g⟩ ([.row (.slice (some ⟨g, 0, none⟩) n c) 35 1 n (uv ys)] ++ oths g w)) (fun y => b + 1 - y.1) (⟨i0, Nat.le_refl _, hS⟩) ⟨rfl, rfl, rfl, rfl, rfl, trivial⟩ (fun w1 hw => hw) ?_
              rintro ⟨i, hi0, hQ⟩
              try dsimp only
              have hq1 := hQ.hi
              have hq2 := hQ.hj
              have hq3 := hQ.ij
              refine TC.seq_ ?_
              refine TC.seq_ ?_
              have hway : ¬ i ≤ j0 ∨ (i ≤ j0 ∧ dx ys i < dx ys a) ∨ (i ≤ j0 ∧ ¬ dx ys i < dx ys a) := by omega
              rcases hway with p1 | ⟨p1, p2⟩ | ⟨p1, p2⟩
              · have hie : i ≤ j0 → dx ys a ≤ dx ys i := fun hh => absurd hh p1
                refine TC.quiet_ (E' := ?_) (by kernel_rfl) (by kernel_rfl) (fun w hw => hw.drawn _) ?_ ?_
                rotate_left
                · refine TQ.val rfl rfl rfl (gives_move rfl rfl) ?_
                  refine TQ.val rfl rfl rfl (gives_move rfl rfl) ?_
                  refine TQ.val rfl rfl rfl (gives_bin rfl rfl rfl (fun w => bin_leq_f (by omega) w)) ?_
                  refine TQ.val rfl rfl rfl (gives_move rfl rfl) ?_
                  refine TQ.off rfl rfl rfl rfl rfl rfl ?_
                  refine TQ.off rfl rfl rfl rfl rfl rfl ?_
                  refine TQ.off rfl rfl rfl rfl rfl rfl ?_
                  refine TQ.off rfl rfl rfl rfl rfl rfl ?_
                  refine TQ.off rfl rfl rfl rfl rfl rfl ?_
                  refine TQ.off rfl rfl rfl rfl rfl rfl ?_
                  refine TQ.off rfl rfl rfl rfl rfl rfl ?_
                  refine TQ.off rfl rfl rfl rfl rfl rfl ?_
                  refine TQ.off rfl rfl rfl rfl rfl rfl ?_
                  refine TQ.val rfl rfl rfl (gives_pick rfl rfl rfl) ?_
                  exact TQ.end_
                refine TX.then_ ?_
                refine TC.condF rfl ?_
                refine TC.exit_ ?_
                refine TX.then_exit ?_
                refine TX.then_exit ?_
                refine TX.in_same ?_
                exact TX.joined (⟨i, hi0, hQ, hie⟩) (⟨rfl, rfl, rfl, rfl, rfl, trivial⟩) (fun w1 hw => hw)
              · have hQ2 : Prt a b (i + 1) j0 ys := hQ.inc p1 (by omega)
                refine TC.quiet_ (E' := ?_) (by kernel_rfl) (by kernel_rfl) (fun w hw => hw.drawn _) ?_ ?_
                rotate_left
                · refine TQ.val rfl rfl rfl (gives_move rfl rfl) ?_
                  refine TQ.val rfl rfl rfl (gives_move rfl rfl) ?_
                  refine TQ.val rfl rfl rfl (gives_bin rfl rfl rfl (fun w => bin_leq_t (by omega) w)) ?_
                  refine TQ.val rfl rfl rfl (gives_move rfl rfl) ?_
                  refine TQ.on rfl rfl rfl ?_
                  refine TQ.val rfl rfl rfl (gives_move rfl rfl) ?_
                  refine TQ.on rfl rfl rfl ?_
                  refine TQ.val rfl rfl rfl (gives_move rfl rfl) ?_
                  refine TQ.on rfl rfl rfl ?_
                  refine TQ.val rfl rfl rfl (gives_at (v := .pointer (some ⟨g, i, none⟩)) rfl rfl rfl (fun w => at_row Try.underlying31 us5sz35 g _ _ i (by omega) rfl w)) ?_
                  refine TQ.on rfl rfl rfl ?_
                  refine TQ.val rfl rfl rfl (pm_loadU (k := 0) (i := i) rfl rfl us5ag35 rfl (by omega)) ?_
                  refine TQ.on rfl rfl rfl ?_
                  refine TQ.val rfl rfl rfl (gives_move rfl rfl) ?_
                  refine TQ.on rfl rfl rfl ?_
                  refine TQ.val rfl rfl rfl (gives_move rfl rfl) ?_
                  refine TQ.on rfl rfl rfl ?_
                  refine TQ.val rfl rfl rfl (gives_at (v := .pointer (some ⟨g, a, none⟩)) rfl rfl rfl (fun w => at_row Try.underlying31 us5sz35 g _ _ a (by omega) rfl w)) ?_
                  refine TQ.on rfl rfl rfl ?_
                  refine TQ.val rfl rfl rfl (pm_loadU (k := 0) (i := a) rfl rfl us5ag35 rfl (by omega)) ?_
                  refine TQ.on rfl rfl rfl ?_
                  refine TQ.call (v := .bool true) rfl rfl rfl rfl rfl Try.func68 us5nm68 us5bd68 (fun w1 hw => (less_t _ _ p2 w1).mono fun en w2 ⟨h1, h2⟩ => ⟨h1, hw.below h2⟩) ?_
                  refine TQ.val rfl rfl rfl (gives_pick rfl rfl rfl) ?_
                  exact TQ.end_
                refine TX.then_ ?_
                refine TC.condT rfl ?_
                refine TC.skip_ ?_
                refine TX.then_ ?_
                refine TC.block ?_
                refine TC.region ?_
                refine TL.val rfl rfl rfl (gives_move rfl rfl) ?_
                refine TL.val rfl rfl rfl (gives_bin rfl rfl rfl (fun w => bin_add_ (r := ((i + 1 : Nat) : Int)) (by simp only [IntKind.wrap_i64]; omega) w)) ?_
                refine TL.val rfl rfl rfl (gives_assign rfl rfl) ?_
                refine TL.end_ ?_
                refine TX.in_normal ?_
                exact TX.round (⟨i + 1, by omega, hQ2⟩) (by show b + 1 - (i + 1) < b + 1 - i; omega) ⟨rfl, rfl, rfl, rfl, rfl, trivial⟩ (fun w1 hw => hw)
              · have hie : i ≤ j0 → dx ys a ≤ dx ys i := fun _ => by omega
                refine TC.quiet_ (E' := ?_) (by kernel_rfl) (by kernel_rfl) (fun w hw => hw.drawn _) ?_ ?_
                rotate_left
                · refine TQ.val rfl rfl rfl (gives_move rfl rfl) ?_
                  refine TQ.val rfl rfl rfl (gives_move rfl rfl) ?_
                  refine TQ.val rfl rfl rfl (gives_bin rfl rfl rfl (fun w => bin_leq_t (by omega) w)) ?_
                  refine TQ.val rfl rfl rfl (gives_move rfl rfl) ?_
                  refine TQ.on rfl rfl rfl ?_
                  refine TQ.val rfl rfl rfl (gives_move rfl rfl) ?_
                  refine TQ.on rfl rfl rfl ?_
                  refine TQ.val rfl rfl rfl (gives_move rfl rfl) ?_
                  refine TQ.on rfl rfl rfl ?_
                  refine TQ.val rfl rfl rfl (gives_at (v := .pointer (some ⟨g, i, none⟩)) rfl rfl rfl (fun w => at_row Try.underlying31 us5sz35 g _ _ i (by omega) rfl w)) ?_
                  refine TQ.on rfl rfl rfl ?_
                  refine TQ.val rfl rfl rfl (pm_loadU (k := 0) (i := i) rfl rfl us5ag35 rfl (by omega)) ?_
                  refine TQ.on rfl rfl rfl ?_
                  refine TQ.val rfl rfl rfl (gives_move rfl rfl) ?_
                  refine TQ.on rfl rfl rfl ?_
                  refine TQ.val rfl rfl rfl (gives_move rfl rfl) ?_
                  refine TQ.on rfl rfl rfl ?_
                  refine TQ.val rfl rfl rfl (gives_at (v := .pointer (some ⟨g, a, none⟩)) rfl rfl rfl (fun w => at_row Try.underlying31 us5sz35 g _ _ a (by omega) rfl w)) ?_
                  refine TQ.on rfl rfl rfl ?_
                  refine TQ.val rfl rfl rfl (pm_loadU (k := 0) (i := a) rfl rfl us5ag35 rfl (by omega)) ?_
                  refine TQ.on rfl rfl rfl ?_
                  refine TQ.call (v := .bool false) rfl rfl rfl rfl rfl Try.func68 us5nm68 us5bd68 (fun w1 hw => (less_f _ _ p2 w1).mono fun en w2 ⟨h1, h2⟩ => ⟨h1, hw.below h2⟩) ?_
                  refine TQ.val rfl rfl rfl (gives_pick rfl rfl rfl) ?_
                  exact TQ.end_
                refine TX.then_ ?_
                refine TC.condF rfl ?_
                refine TC.exit_ ?_
                refine TX.then_exit ?_
                refine TX.then_exit ?_
                refine TX.in_same ?_
                exact TX.joined (⟨i, hi0, hQ, hie⟩) (⟨rfl, rfl, rfl, rfl, rfl, trivial⟩) (fun w1 hw => hw)
            · rintro ⟨i, hi0, hQ, hie⟩
              try dsimp only
              have hq1 := hQ.hi
              have hq2 := hQ.hj
              have hq3 := hQ.ij
              refine TC.join (α := {y : Nat // y ≤ j0 ∧ Prt a b i y ys ∧ (i ≤ y → dx ys y < dx ys a)}) (fun y => [(0, .slice (some ⟨g, 0, none⟩) n c), (1, .int .i64 ((a : Nat) : Int)), (2, .int .i64 ((b : Nat) : Int)), (10, .int .i64 ((i : Nat) : Int)), (11, .int .i64 ((y.1 : Nat) : Int))]) (fun y => Pm ⟨wbut w g, g⟩ ([.row (.slice (some ⟨g, 0, none⟩) n c) 35 1 n (uv ys)] ++ oths g w)) ?_ ?_
              · refine TC.block ?_
                refine TC.loop_ (α := {y : Nat // y ≤ j0 ∧ Prt a b i y ys}) (fun y => [(0, .slice (some ⟨g, 0, none⟩) n c), (1, .int .i64 ((a : Nat) : Int)), (2, .int .i64 ((b : Nat) : Int)), (10, .int .i64 ((i : Nat) : Int)), (11, .int .i64 ((y.1 : Nat) : Int))]) (fun y => Pm ⟨wbut w g, g⟩ ([.row (.slice (some ⟨g, 0, none⟩) n c) 35 1 n (uv ys)] ++ oths g w)) (fun y => y.1) (⟨j0, Nat.le_refl _, hQ⟩) ⟨rfl, rfl, rfl, rfl, rfl, trivial⟩ (fun w1 hw => hw) ?_
                rintro ⟨j, hj0, hR⟩
                try dsimp only
                have hr1 := hR.hi
                have hr2 := hR.hj
                have hr3 := hR.ij
                refine TC.seq_ ?_
                refine TC.seq_ ?_
                have hway : ¬ i ≤ j ∨ (i ≤ j ∧ dx ys j < dx ys a) ∨ (i ≤ j ∧ ¬ dx ys j < dx ys a) := by omega
                rcases hway with p1 | ⟨p1, p2⟩ | ⟨p1, p2⟩
                · have hje : i ≤ j → dx ys j < dx ys a := fun hh => absurd hh p1
                  refine TC.quiet_ (E' := ?_) (by kernel_rfl) (by kernel_rfl) (fun w hw => hw.drawn _) ?_ ?_
                  rotate_left
                  · refine TQ.val rfl rfl rfl (gives_move rfl rfl) ?_
                    refine TQ.val rfl rfl rfl (gives_move rfl rfl) ?_
                    refine TQ.val rfl rfl rfl (gives_bin rfl rfl rfl (fun w => bin_leq_f (by omega) w)) ?_
                    refine TQ.val rfl rfl rfl (gives_move rfl rfl) ?_
                    refine TQ.off rfl rfl rfl rfl rfl rfl ?_
                    refine TQ.off rfl rfl rfl rfl rfl rfl ?_
                    refine TQ.off rfl rfl rfl rfl rfl rfl ?_
                    refine TQ.off rfl rfl rfl rfl rfl rfl ?_
                    refine TQ.off rfl rfl rfl rfl rfl rfl ?_
                    refine TQ.off rfl rfl rfl rfl rfl rfl ?_
                    refine TQ.off rfl rfl rfl rfl rfl rfl ?_
                    refine TQ.off rfl rfl rfl rfl rfl rfl ?_
                    refine TQ.off rfl rfl rfl rfl rfl rfl ?_
                    refine TQ.off rfl rfl rfl rfl rfl rfl ?_
                    refine TQ.val rfl rfl rfl (gives_pick rfl rfl rfl) ?_
                    exact TQ.end_
                  refine TX.then_ ?_
                  refine TC.condF rfl ?_
                  refine TC.exit_ ?_
                  refine TX.then_exit ?_
                  refine TX.then_exit ?_
                  refine TX.in_same ?_
                  exact TX.joined (⟨j, hj0, hR, hje⟩) (⟨rfl, rfl, rfl, rfl, rfl, trivial⟩) (fun w1 hw => hw)
                · have hje : i ≤ j → dx ys j < dx ys a := fun _ => p2
                  refine TC.quiet_ (E' := ?_) (by kernel_rfl) (by kernel_rfl) (fun w hw => hw.drawn _) ?_ ?_
                  rotate_left
                  · refine TQ.val rfl rfl rfl (gives_move rfl rfl) ?_
                    refine TQ.val rfl rfl rfl (gives_move rfl rfl) ?_
                    refine TQ.val rfl rfl rfl (gives_bin rfl rfl rfl (fun w => bin_leq_t (by omega) w)) ?_
                    refine TQ.val rfl rfl rfl (gives_move rfl rfl) ?_
                    refine TQ.on rfl rfl rfl ?_
                    refine TQ.val rfl rfl rfl (gives_move rfl rfl) ?_
                    refine TQ.on rfl rfl rfl ?_
                    refine TQ.val rfl rfl rfl (gives_move rfl rfl) ?_
                    refine TQ.on rfl rfl rfl ?_
                    refine TQ.val rfl rfl rfl (gives_at (v := .pointer (some ⟨g, j, none⟩)) rfl rfl rfl (fun w => at_row Try.underlying31 us5sz35 g _ _ j (by omega) rfl w)) ?_
                    refine TQ.on rfl rfl rfl ?_
                    refine TQ.val rfl rfl rfl (pm_loadU (k := 0) (i := j) rfl rfl us5ag35 rfl (by omega)) ?_
                    refine TQ.on rfl rfl rfl ?_
                    refine TQ.val rfl rfl rfl (gives_move rfl rfl) ?_
                    refine TQ.on rfl rfl rfl ?_
                    refine TQ.val rfl rfl rfl (gives_move rfl rfl) ?_
                    refine TQ.on rfl rfl rfl ?_
                    refine TQ.val rfl rfl rfl (gives_at (v := .pointer (some ⟨g, a, none⟩)) rfl rfl rfl (fun w => at_row Try.underlying31 us5sz35 g _ _ a (by omega) rfl w)) ?_
                    refine TQ.on rfl rfl rfl ?_
                    refine TQ.val rfl rfl rfl (pm_loadU (k := 0) (i := a) rfl rfl us5ag35 rfl (by omega)) ?_
                    refine TQ.on rfl rfl rfl ?_
                    refine TQ.call (v := .bool true) rfl rfl rfl rfl rfl Try.func68 us5nm68 us5bd68 (fun w1 hw => (less_t _ _ p2 w1).mono fun en w2 ⟨h1, h2⟩ => ⟨h1, hw.below h2⟩) ?_
                    refine TQ.on rfl rfl rfl ?_
                    refine TQ.val rfl rfl rfl (gives_boolnot rfl rfl) ?_
                    refine TQ.val rfl rfl rfl (gives_pick rfl rfl rfl) ?_
                    exact TQ.end_
                  refine TX.then_ ?_
                  refine TC.condF rfl ?_
                  refine TC.exit_ ?_
                  refine TX.then_exit ?_
                  refine TX.then_exit ?_
                  refine TX.in_same ?_
                  exact TX.joined (⟨j, hj0, hR, hje⟩) (⟨rfl, rfl, rfl, rfl, rfl, trivial⟩) (fun w1 hw => hw)
                · have hR2 : Prt a b i (j - 1) ys := hR.dec p1 (by omega)
                  refine TC.quiet_ (E' := ?_) (by kernel_rfl) (by kernel_rfl) (fun w hw => hw.drawn _) ?_ ?_
                  rotate_left
                  · refine TQ.val rfl rfl rfl (gives_move rfl rfl) ?_
                    refine TQ.val rfl rfl rfl (gives_move rfl rfl) ?_
                    refine TQ.val rfl rfl rfl (gives_bin rfl rfl rfl (fun w => bin_leq_t (by omega) w)) ?_
                    refine TQ.val rfl rfl rfl (gives_move rfl rfl) ?_
                    refine TQ.on rfl rfl rfl ?_
                    refine TQ.val rfl rfl rfl (gives_move rfl rfl) ?_
                    refine TQ.on rfl rfl rfl ?_
                    refine TQ.val rfl rfl rfl (gives_move rfl rfl) ?_
                    refine TQ.on rfl rfl rfl ?_
                    refine TQ.val rfl rfl rfl (gives_at (v := .pointer (some ⟨g, j, none⟩)) rfl rfl rfl (fun w => at_row Try.underlying31 us5sz35 g _ _ j (by omega) rfl w)) ?_
                    refine TQ.on rfl rfl rfl ?_
                    refine TQ.val rfl rfl rfl (pm_loadU (k := 0) (i := j) rfl rfl us5ag35 rfl (by omega)) ?_
                    refine TQ.on rfl rfl rfl ?_
                    refine TQ.val rfl rfl rfl (gives_move rfl rfl) ?_
                    refine TQ.on rfl rfl rfl ?_
                    refine TQ.val rfl rfl rfl (gives_move rfl rfl) ?_
                    refine TQ.on rfl rfl rfl ?_
                    refine TQ.val rfl rfl rfl (gives_at (v := .pointer (some ⟨g, a, none⟩)) rfl rfl rfl (fun w => at_row Try.underlying31 us5sz35 g _ _ a (by omega) rfl w)) ?_
                    refine TQ.on rfl rfl rfl ?_
                    refine TQ.val rfl rfl rfl (pm_loadU (k := 0) (i := a) rfl rfl us5ag35 rfl (by omega)) ?_
                    refine TQ.on rfl rfl rfl ?_
                    refine TQ.call (v := .bool false) rfl rfl rfl rfl rfl Try.func68 us5nm68 us5bd68 (fun w1 hw => (less_f _ _ p2 w1).mono fun en w2 ⟨h1, h2⟩ => ⟨h1, hw.below h2⟩) ?_
                    refine TQ.on rfl rfl rfl ?_
                    refine TQ.val rfl rfl rfl (gives_boolnot rfl rfl) ?_
                    refine TQ.val rfl rfl rfl (gives_pick rfl rfl rfl) ?_
                    exact TQ.end_
                  refine TX.then_ ?_
                  refine TC.condT rfl ?_
                  refine TC.skip_ ?_
                  refine TX.then_ ?_
                  refine TC.block ?_
                  refine TC.region ?_
                  refine TL.val rfl rfl rfl (gives_move rfl rfl) ?_
                  refine TL.val rfl rfl rfl (gives_bin rfl rfl rfl (fun w => bin_sub_ (r := ((j - 1 : Nat) : Int)) (by simp only [IntKind.wrap_i64]; omega) w)) ?_
                  refine TL.val rfl rfl rfl (gives_assign rfl rfl) ?_
                  refine TL.end_ ?_
                  refine TX.in_normal ?_
                  exact TX.round (⟨j - 1, by omega, hR2⟩) (by show j - 1 < j; omega) ⟨rfl, rfl, rfl, rfl, rfl, trivial⟩ (fun w1 hw => hw)
              · rintro ⟨j, hj0, hR, hje⟩
                try dsimp only
                have hr1 := hR.hi
                have hr2 := hR.hj
                have hr3 := hR.ij
                refine TC.seq_ ?_
                refine TC.seq_ ?_
                refine TC.region ?_
                refine TL.val rfl rfl rfl (gives_move rfl rfl) ?_
                refine TL.val rfl rfl rfl (gives_move rfl rfl) ?_
                refine TL.vsplit rfl rfl rfl (gives_bin rfl rfl rfl (fun w => bin_gtr w)) (fun h134 => ?_) (fun h134 => ?_)
                · have q134 := of_decide_eq_true h134
                  refine TL.end_ ?_
                  refine TX.then_ ?_
                  refine TC.condT rfl ?_
                  refine TC.exit_ ?_
                  refine TX.then_exit ?_
                  refine TX.in_other rfl ?_
                  refine TX.then_exit ?_
                  refine TX.in_same ?_
                  refine TX.then_ ?_
                  refine TC.seq_ ?_
                  refine TC.held (ls := #[false, false, false, false, false, false, false, false, false, false, false, false, false, false, false, false]) (fun _ => True) (by kernel_rfl) rfl rfl (fun w hw => hw.drawn _) ?_
                  refine TH.take (listed' := #[true, false, false, false, false, false, false, false, false, false, false, false, false, false, false, false]) 0 rfl (by kernel_rfl) (by kernel_rfl) (by kernel_rfl) rfl rfl rfl rfl (gives_move rfl rfl) (fun _ _ => trivial) ?_
                  refine TH.take (listed' := #[true, true, false, false, false, false, false, false, false, false, false, false, false, false, false, false]) 1 rfl (by kernel_rfl) (by kernel_rfl) (by kernel_rfl) rfl rfl rfl rfl (gives_move rfl rfl) (fun _ _ => trivial) ?_
                  refine TH.take (listed' := #[true, true, true, false, false, false, false, false, false, false, false, false, false, false, false, false]) 2 rfl (by kernel_rfl) (by kernel_rfl) (by kernel_rfl) rfl rfl rfl rfl (gives_move rfl rfl) (fun _ _ => trivial) ?_
                  refine TH.take (listed' := #[true, true, true, true, false, false, false, false, false, false, false, false, false, false, false, false]) 3 rfl (by kernel_rfl) (by kernel_rfl) (by kernel_rfl) rfl rfl rfl rfl (gives_move rfl rfl) (fun _ _ => trivial) ?_
                  refine TH.take (listed' := #[true, true, true, true, true, false, false, false, false, false, false, false, false, false, false, false]) 4 rfl (by kernel_rfl) (by kernel_rfl) (by kernel_rfl) rfl rfl rfl rfl (gives_move rfl rfl) (fun _ _ => trivial) ?_
                  refine TH.take (listed' := #[true, true, true, true, true, true, false, false, false, false, false, false, false, false, false, false]) 5 rfl (by kernel_rfl) (by kernel_rfl) (by kernel_rfl) rfl rfl rfl rfl (gives_move rfl rfl) (fun _ _ => trivial) ?_
                  refine TH.take (listed' := #[true, true, true, true, true, true, true, false, false, false, false, false, false, false, false, false]) 6 rfl (by kernel_rfl) (by kernel_rfl) (by kernel_rfl) rfl rfl rfl rfl (gives_at (v := .pointer (some ⟨g, a, none⟩)) rfl rfl rfl (fun w => at_row Try.underlying31 us5sz35 g _ _ a (by omega) rfl w)) (fun _ _ => trivial) ?_
                  refine TH.take (listed' := #[true, true, true, true, true, true, true, false, true, false, false, false, false, false, false, false]) 8 rfl (by kernel_rfl) (by kernel_rfl) (by kernel_rfl) rfl rfl rfl rfl (gives_move rfl rfl) (fun _ _ => trivial) ?_
                  refine TH.take (listed' := #[true, true, true, true, true, true, true, false, true, true, false, false, false, false, false, false]) 9 rfl (by kernel_rfl) (by kernel_rfl) (by kernel_rfl) rfl rfl rfl rfl (gives_move rfl rfl) (fun _ _ => trivial) ?_
                  refine TH.take (listed' := #[true, true, true, true, true, true, true, false, true, true, true, false, false, false, false, false]) 10 rfl (by kernel_rfl) (by kernel_rfl) (by kernel_rfl) rfl rfl rfl rfl (gives_at (v := .pointer (some ⟨g, j, none⟩)) rfl rfl rfl (fun w => at_row Try.underlying31 us5sz35 g _ _ j (by omega) rfl w)) (fun _ _ => trivial) ?_
                  refine TH.two' (listed1 := #[true, true, true, true, true, true, true, true, true, true, true, false, false, false, false, false]) (listed2 := #[true, true, true, true, true, true, true, false, true, true, true, true, false, false, false, false]) 7 11 rfl rfl (by kernel_rfl) rfl rfl ?_ ?_
                  · refine TL.val rfl rfl rfl (pm_loadU (k := 0) (i := a) rfl rfl us5ag35 rfl (by omega)) ?_
                    refine TL.end_ ?_
                    refine TX.held (fun _ _ => trivial) ?_
                    refine TH.only' (listed' := #[true, true, true, true, true, true, true, true, true, true, true, true, false, false, false, false]) 11 rfl (by kernel_rfl) rfl ?_
                    refine TL.val rfl rfl rfl (pm_loadU (k := 0) (i := j) rfl rfl us5ag35 rfl (by omega)) ?_
                    refine TL.end_ ?_
                    refine TX.held (fun _ _ => trivial) ?_
                    refine TH.take (listed' := #[true, true, true, true, true, true, true, true, true, true, true, true, true, false, false, false]) 12 rfl (by kernel_rfl) (by kernel_rfl) (by kernel_rfl) rfl rfl rfl rfl (gives_at (v := .pointer (some ⟨g, j, none⟩)) rfl rfl rfl (fun w => at_row Try.underlying31 us5sz35 g _ _ j (by omega) rfl w)) (fun _ _ => trivial) ?_
                    refine TH.only' (listed' := #[true, true, true, true, true, true, true, true, true, true, true, true, true, true, false, false]) 13 rfl (by kernel_rfl) rfl ?_
                    refine TL.uset (k := 0) (i := j) rfl rfl rfl rfl rfl rfl us5sz35 (by omega) ?_
                    refine TL.end_ ?_
                    refine TX.held (fun _ _ => trivial) ?_
                    refine TH.take (listed' := #[true, true, true, true, true, true, true, true, true, true, true, true, true, true, true, false]) 14 rfl (by kernel_rfl) (by kernel_rfl) (by kernel_rfl) rfl rfl rfl rfl (gives_at (v := .pointer (some ⟨g, a, none⟩)) rfl rfl rfl (fun w => at_row Try.underlying31 us5sz35 g _ _ a (by omega) rfl w)) (fun _ _ => trivial) ?_
                    refine TH.only' (listed' := #[true, true, true, true, true, true, true, true, true, true, true, true, true, true, true, true]) 15 rfl (by kernel_rfl) rfl ?_
                    refine TL.uset (k := 0) (i := a) rfl rfl rfl rfl rfl rfl us5sz35 (by rw [List.length_set]; omega) ?_
                    refine TL.end_ ?_
                    refine TX.held (fun _ _ => trivial) ?_
                    refine TH.done (by kernel_rfl) ?_
                    refine TX.then_ ?_
                    refine TC.seq_ ?_
                    refine TC.region ?_
                    refine TL.val rfl rfl rfl (gives_move rfl rfl) ?_
                    refine TL.val rfl rfl rfl (gives_assign rfl rfl) ?_
                    refine TL.val rfl rfl rfl (gives_assign rfl rfl) ?_
                    refine TL.end_ ?_
                    refine TX.then_ ?_
                    refine TC.ret_ ?_
                    exact ret_pair Try.results70 rfl rfl (fun w1 hw => ⟨(j, false), swp ys j a, rfl, ⟨hP.swap (by omega) (by omega) (by omega) (Nat.le_refl _) (by omega), hR.mid (by omega) (by omega)⟩, pm_rowAt hw (k := 0) rfl, hw.mapEnd (fun q hq => by simp [hq])⟩)
                  · refine TL.val rfl rfl rfl (pm_loadU (k := 0) (i := j) rfl rfl us5ag35 rfl (by omega)) ?_
                    refine TL.end_ ?_
                    refine TX.held (fun _ _ => trivial) ?_
                    refine TH.only' (listed' := #[true, true, true, true, true, true, true, true, true, true, true, true, false, false, false, false]) 7 rfl (by kernel_rfl) rfl ?_
                    refine TL.val rfl rfl rfl (pm_loadU (k := 0) (i := a) rfl rfl us5ag35 rfl (by omega)) ?_
                    refine TL.end_ ?_
                    refine TX.held (fun _ _ => trivial) ?_
                    refine TH.take (listed' := #[true, true, true, true, true, true, true, true, true, true, true, true, true, false, false, false]) 12 rfl (by kernel_rfl) (by kernel_rfl) (by kernel_rfl) rfl rfl rfl rfl (gives_at (v := .pointer (some ⟨g, j, none⟩)) rfl rfl rfl (fun w => at_row Try.underlying31 us5sz35 g _ _ j (by omega) rfl w)) (fun _ _ => trivial) ?_
                    refine TH.only' (listed' := #[true, true, true, true, true, true, true, true, true, true, true, true, true, true, false, false]) 13 rfl (by kernel_rfl) rfl ?_
                    refine TL.uset (k := 0) (i := j) rfl rfl rfl rfl rfl rfl us5sz35 (by omega) ?_
                    refine TL.end_ ?_
                    refine TX.held (fun _ _ => trivial) ?_
                    refine TH.take (listed' := #[true, true, true, true, true, true, true, true, true, true, true, true, true, true, true, false]) 14 rfl (by kernel_rfl) (by kernel_rfl) (by kernel_rfl) rfl rfl rfl rfl (gives_at (v := .pointer (some ⟨g, a, none⟩)) rfl rfl rfl (fun w => at_row Try.underlying31 us5sz35 g _ _ a (by omega) rfl w)) (fun _ _ => trivial) ?_
                    refine TH.only' (listed' := #[true, true, true, true, true, true, true, true, true, true, true, true, true, true, true, true]) 15 rfl (by kernel_rfl) rfl ?_
                    refine TL.uset (k := 0) (i := a) rfl rfl rfl rfl rfl rfl us5sz35 (by rw [List.length_set]; omega) ?_
                    refine TL.end_ ?_
                    refine TX.held (fun _ _ => trivial) ?_
                    refine TH.done (by kernel_rfl) ?_
                    refine TX.then_ ?_
                    refine TC.seq_ ?_
                    refine TC.region ?_
                    refine TL.val rfl rfl rfl (gives_move rfl rfl) ?_
                    refine TL.val rfl rfl rfl (gives_assign rfl rfl) ?_
                    refine TL.val rfl rfl rfl (gives_assign rfl rfl) ?_
                    refine TL.end_ ?_
                    refine TX.then_ ?_
                    refine TC.ret_ ?_
                    exact ret_pair Try.results70 rfl rfl (fun w1 hw => ⟨(j, false), swp ys j a, rfl, ⟨hP.swap (by omega) (by omega) (by omega) (Nat.le_refl _) (by omega), hR.mid (by omega) (by omega)⟩, pm_rowAt hw (k := 0) rfl, hw.mapEnd (fun q hq => by simp [hq])⟩)
                · have q134 := of_decide_eq_false h134
                  have hlt : i < j := by
                    have h1 := hie (by omega)
                    have h2 := hje (by omega)
                    rcases Nat.lt_or_ge i j with hh | hh
                    · exact hh
                    · exfalso; obtain rfl : i = j := by omega
                      omega
                  refine TL.end_ ?_
                  refine TX.then_ ?_
                  refine TC.condF rfl ?_
                  refine TC.skip_ ?_
                  refine TX.then_ ?_
                  refine TC.seq_ ?_
                  refine TC.held (ls := #[false, false, false, false, false, false, false, false, false, false, false, false, false, false, false, false]) (fun _ => True) (by kernel_rfl) rfl rfl (fun w hw => hw.drawn _) ?_
                  refine TH.take (listed' := #[true, false, false, false, false, false, false, false, false, false, false, false, false, false, false, false]) 0 rfl (by kernel_rfl) (by kernel_rfl) (by kernel_rfl) rfl rfl rfl rfl (gives_move rfl rfl) (fun _ _ => trivial) ?_
                  refine TH.take (listed' := #[true, true, false, false, false, false, false, false, false, false, false, false, false, false, false, false]) 1 rfl (by kernel_rfl) (by kernel_rfl) (by kernel_rfl) rfl rfl rfl rfl (gives_move rfl rfl) (fun _ _ => trivial) ?_
                  refine TH.take (listed' := #[true, true, true, false, false, false, false, false, false, false, false, false, false, false, false, false]) 2 rfl (by kernel_rfl) (by kernel_rfl) (by kernel_rfl) rfl rfl rfl rfl (gives_move rfl rfl) (fun _ _ => trivial) ?_
                  refine TH.take (listed' := #[true, true, true, true, false, false, false, false, false, false, false, false, false, false, false, false]) 3 rfl (by kernel_rfl) (by kernel_rfl) (by kernel_rfl) rfl rfl rfl rfl (gives_move rfl rfl) (fun _ _ => trivial) ?_
                  refine TH.take (listed' := #[true, true, true, true, true, false, false, false, false, false, false, false, false, false, false, false]) 4 rfl (by kernel_rfl) (by kernel_rfl) (by kernel_rfl) rfl rfl rfl rfl (gives_move rfl rfl) (fun _ _ => trivial) ?_
                  refine TH.take (listed' := #[true, true, true, true, true, true, false, false, false, false, false, false, false, false, false, false]) 5 rfl (by kernel_rfl) (by kernel_rfl) (by kernel_rfl) rfl rfl rfl rfl (gives_move rfl rfl) (fun _ _ => trivial) ?_
                  refine TH.take (listed' := #[true, true, true, true, true, true, true, false, false, false, false, false, false, false, false, false]) 6 rfl (by kernel_rfl) (by kernel_rfl) (by kernel_rfl) rfl rfl rfl rfl (gives_at (v := .pointer (some ⟨g, j, none⟩)) rfl rfl rfl (fun w => at_row Try.underlying31 us5sz35 g _ _ j (by omega) rfl w)) (fun _ _ => trivial) ?_
                  refine TH.take (listed' := #[true, true, true, true, true, true, true, false, true, false, false, false, false, false, false, false]) 8 rfl (by kernel_rfl) (by kernel_rfl) (by kernel_rfl) rfl rfl rfl rfl (gives_move rfl rfl) (fun _ _ => trivial) ?_
                  refine TH.take (listed' := #[true, true, true, true, true, true, true, false, true, true, false, false, false, false, false, false]) 9 rfl (by kernel_rfl) (by kernel_rfl) (by kernel_rfl) rfl rfl rfl rfl (gives_move rfl rfl) (fun _ _ => trivial) ?_
                  refine TH.take (listed' := #[true, true, true, true, true, true, true, false, true, true, true, false, false, false, false, false]) 10 rfl (by kernel_rfl) (by kernel_rfl) (by kernel_rfl) rfl rfl rfl rfl (gives_at (v := .pointer (some ⟨g, i, none⟩)) rfl rfl rfl (fun w => at_row Try.underlying31 us5sz35 g _ _ i (by omega) rfl w)) (fun _ _ => trivial) ?_
                  refine TH.two' (listed1 := #[true, true, true, true, true, true, true, true, true, true, true, false, false, false, false, false]) (listed2 := #[true, true, true, true, true, true, true, false, true, true, true, true, false, false, false, false]) 7 11 rfl rfl (by kernel_rfl) rfl rfl ?_ ?_
                  · refine TL.val rfl rfl rfl (pm_loadU (k := 0) (i := j) rfl rfl us5ag35 rfl (by omega)) ?_
                    refine TL.end_ ?_
                    refine TX.held (fun _ _ => trivial) ?_
                    refine TH.only' (listed' := #[true, true, true, true, true, true, true, true, true, true, true, true, false, false, false, false]) 11 rfl (by kernel_rfl) rfl ?_
                    refine TL.val rfl rfl rfl (pm_loadU (k := 0) (i := i) rfl rfl us5ag35 rfl (by omega)) ?_
                    refine TL.end_ ?_
                    refine TX.held (fun _ _ => trivial) ?_
                    refine TH.take (listed' := #[true, true, true, true, true, true, true, true, true, true, true, true, true, false, false, false]) 12 rfl (by kernel_rfl) (by kernel_rfl) (by kernel_rfl) rfl rfl rfl rfl (gives_at (v := .pointer (some ⟨g, i, none⟩)) rfl rfl rfl (fun w => at_row Try.underlying31 us5sz35 g _ _ i (by omega) rfl w)) (fun _ _ => trivial) ?_
                    refine TH.only' (listed' := #[true, true, true, true, true, true, true, true, true, true, true, true, true, true, false, false]) 13 rfl (by kernel_rfl) rfl ?_
                    refine TL.uset (k := 0) (i := i) rfl rfl rfl rfl rfl rfl us5sz35 (by omega) ?_
                    refine TL.end_ ?_
                    refine TX.held (fun _ _ => trivial) ?_
                    refine TH.take (listed' := #[true, true, true, true, true, true, true, true, true, true, true, true, true, true, true, false]) 14 rfl (by kernel_rfl) (by kernel_rfl) (by kernel_rfl) rfl rfl rfl rfl (gives_at (v := .pointer (some ⟨g, j, none⟩)) rfl rfl rfl (fun w => at_row Try.underlying31 us5sz35 g _ _ j (by omega) rfl w)) (fun _ _ => trivial) ?_
                    refine TH.only' (listed' := #[true, true, true, true, true, true, true, true, true, true, true, true, true, true, true, true]) 15 rfl (by kernel_rfl) rfl ?_
                    refine TL.uset (k := 0) (i := j) rfl rfl rfl rfl rfl rfl us5sz35 (by rw [List.length_set]; omega) ?_
                    refine TL.end_ ?_
                    refine TX.held (fun _ _ => trivial) ?_
                    refine TH.done (by kernel_rfl) ?_
                    refine TX.then_ ?_
                    refine TC.seq_ ?_
                    refine TC.region ?_
                    refine TL.val rfl rfl rfl (gives_move rfl rfl) ?_
                    refine TL.val rfl rfl rfl (gives_bin rfl rfl rfl (fun w => bin_add_ (r := ((i + 1 : Nat) : Int)) (by simp only [IntKind.wrap_i64]; omega) w)) ?_
                    refine TL.val rfl rfl rfl (gives_assign rfl rfl) ?_
                    refine TL.end_ ?_
                    refine TX.then_ ?_
                    refine TC.region ?_
                    refine TL.val rfl rfl rfl (gives_move rfl rfl) ?_
                    refine TL.val rfl rfl rfl (gives_bin rfl rfl rfl (fun w => bin_sub_ (r := ((j - 1 : Nat) : Int)) (by simp only [IntKind.wrap_i64]; omega) w)) ?_
                    refine TL.val rfl rfl rfl (gives_assign rfl rfl) ?_
                    refine TL.end_ ?_
                    refine TX.in_normal ?_
                    exact TX.round (⟨(i + 1, j - 1, swp ys i j), hR.swap (by omega) hlt (by have := hje (by omega); omega) (hie (by omega)), hP.swap (by omega) (by omega) (by omega) (by omega) (by omega), by rw [swp_len]; exact hly⟩) (by show j - 1 + 1 - (i + 1) < j0 + 1 - i0; omega) ⟨rfl, rfl, rfl, rfl, rfl, trivial⟩ (fun w1 hw => hw)
                  · refine TL.val rfl rfl rfl (pm_loadU (k := 0) (i := i) rfl rfl us5ag35 rfl (by omega)) ?_
                    refine TL.end_ ?_
                    refine TX.held (fun _ _ => trivial) ?_
                    refine TH.only' (listed' := #[true, true, true, true, true, true, true, true, true, true, true, true, false, false, false, false]) 7 rfl (by kernel_rfl) rfl ?_
                    refine TL.val rfl rfl rfl (pm_loadU (k := 0) (i := j) rfl rfl us5ag35 rfl (by omega)) ?_
                    refine TL.end_ ?_
                    refine TX.held (fun _ _ => trivial) ?_
                    refine TH.take (listed' := #[true, true, true, true, true, true, true, true, true, true, true, true, true, false, false, false]) 12 rfl (by kernel_rfl) (by kernel_rfl) (by kernel_rfl) rfl rfl rfl rfl (gives_at (v := .pointer (some ⟨g, i, none⟩)) rfl rfl rfl (fun w => at_row Try.underlying31 us5sz35 g _ _ i (by omega) rfl w)) (fun _ _ => trivial) ?_
                    refine TH.only' (listed' := #[true, true, true, true, true, true, true, true, true, true, true, true, true, true, false, false]) 13 rfl (by kernel_rfl) rfl ?_
                    refine TL.uset (k := 0) (i := i) rfl rfl rfl rfl rfl rfl us5sz35 (by omega) ?_
                    refine TL.end_ ?_
                    refine TX.held (fun _ _ => trivial) ?_
                    refine TH.take (listed' := #[true, true, true, true, true, true, true, true, true, true, true, true, true, true, true, false]) 14 rfl (by kernel_rfl) (by kernel_rfl) (by kernel_rfl) rfl rfl rfl rfl (gives_at (v := .pointer (some ⟨g, j, none⟩)) rfl rfl rfl (fun w => at_row Try.underlying31 us5sz35 g _ _ j (by omega) rfl w)) (fun _ _ => trivial) ?_
                    refine TH.only' (listed' := #[true, true, true, true, true, true, true, true, true, true, true, true, true, true, true, true]) 15 rfl (by kernel_rfl) rfl ?_
                    refine TL.uset (k := 0) (i := j) rfl rfl rfl rfl rfl rfl us5sz35 (by rw [List.length_set]; omega) ?_
                    refine TL.end_ ?_
                    refine TX.held (fun _ _ => trivial) ?_
                    refine TH.done (by kernel_rfl) ?_
                    refine TX.then_ ?_
                    refine TC.seq_ ?_
                    refine TC.region ?_
                    refine TL.val rfl rfl rfl (gives_move rfl rfl) ?_
                    refine TL.val rfl rfl rfl (gives_bin rfl rfl rfl (fun w => bin_add_ (r := ((i + 1 : Nat) : Int)) (by simp only [IntKind.wrap_i64]; omega) w)) ?_
                    refine TL.val rfl rfl rfl (gives_assign rfl rfl) ?_
                    refine TL.end_ ?_
                    refine TX.then_ ?_
                    refine TC.region ?_
                    refine TL.val rfl rfl rfl (gives_move rfl rfl) ?_
                    refine TL.val rfl rfl rfl (gives_bin rfl rfl rfl (fun w => bin_sub_ (r := ((j - 1 : Nat) : Int)) (by simp only [IntKind.wrap_i64]; omega) w)) ?_
                    refine TL.val rfl rfl rfl (gives_assign rfl rfl) ?_
                    refine TL.end_ ?_
                    refine TX.in_normal ?_
                    exact TX.round (⟨(i + 1, j - 1, swp ys i j), hR.swap (by omega) hlt (by have := hje (by omega); omega) (hie (by omega)), hP.swap (by omega) (by omega) (by omega) (by omega) (by omega), by rw [swp_len]; exact hly⟩) (by show j - 1 + 1 - (i + 1) < j0 + 1 - i0; omega) ⟨rfl, rfl, rfl, rfl, rfl, trivial⟩ (fun w1 hw => hw)
end Go.Proofs.Ytleckflmckbheaa

namespace Go.Proofs.Ytleckflmckbheaa
set_option linter.unusedVariables false
set_option linter.unusedSimpArgs false

theorem ofInt_i64 (a : Nat) (ha : a < 9223372036854775808) : (BitVec.ofInt 64 (a : Int)).toNat = a := by
  rw [BitVec.ofInt_natCast, BitVec.toNat_ofNat]; exact Nat.mod_eq_of_lt (by omega)
theorem i64_and_nat (a b : Nat) (ha : a < 9223372036854775808) (hb : b < 9223372036854775808) : bits .and .i64 (a : Int) (b : Int) = ((a &&& b : Nat) : Int) := by
  have hx : a &&& b < 2 ^ 63 := Nat.and_lt_two_pow _ (by omega)
  show IntKind.i64.wrap ((BitVec.ofInt 64 (a : Int) &&& BitVec.ofInt 64 (b : Int)).toNat : Int) = _
  rw [BitVec.toNat_and, ofInt_i64 a ha, ofInt_i64 b hb, IntKind.wrap_i64]
  omega
theorem i64_or_nat (a b : Nat) (ha : a < 9223372036854775808) (hb : b < 9223372036854775808) : bits .or .i64 (a : Int) (b : Int) = ((a ||| b : Nat) : Int) := by
  have hx : a ||| b < 2 ^ 63 := Nat.or_lt_two_pow (by omega) (by omega)
  show IntKind.i64.wrap ((BitVec.ofInt 64 (a : Int) ||| BitVec.ofInt 64 (b : Int)).toNat : Int) = _
  rw [BitVec.toNat_or, ofInt_i64 a ha, ofInt_i64 b hb, IntKind.wrap_i64]
  omega
theorem and_65535 (m : Int) (h0 : 0 ≤ m) (h1 : m ≤ 9223372036854775807) : bits .and .i64 m 65535 = m % 65536 := by
  obtain ⟨n, rfl⟩ := Int.eq_ofNat_of_zero_le h0
  have h := i64_and_nat n 65535 (by omega) (by omega)
  have e : n &&& 65535 = n % 65536 := Nat.and_two_pow_sub_one_eq_mod n 16
  show bits .and .i64 (n : Int) ((65535 : Nat) : Int) = _
  rw [h, e]; omega
theorem and_1 (m : Int) (h0 : 0 ≤ m) (h1 : m ≤ 9223372036854775807) : bits .and .i64 m 1 = m % 2 := by
  obtain ⟨n, rfl⟩ := Int.eq_ofNat_of_zero_le h0
  have h := i64_and_nat n 1 (by omega) (by omega)
  have e := Nat.and_one_is_mod n
  show bits .and .i64 (n : Int) ((1 : Nat) : Int) = _
  rw [h, e]; omega
theorem or_256 (m x : Int) (h0 : 0 ≤ m) (h1 : m ≤ 281474976710655) (hx : 0 ≤ x) (hx1 : x ≤ 255) : bits .or .i64 (m * 256) x = m * 256 + x := by
  obtain ⟨a, rfl⟩ := Int.eq_ofNat_of_zero_le h0
  obtain ⟨b, rfl⟩ := Int.eq_ofNat_of_zero_le hx
  have h := i64_or_nat (a * 256) b (by omega) (by omega)
  have e : 2 ^ 8 * a + b = 2 ^ 8 * a ||| b := Nat.two_pow_add_eq_or_of_lt (i := 8) (by omega) a
  show bits .or .i64 (((a * 256 : Nat) : Int)) (b : Int) = _
  rw [h, show a * 256 = 2 ^ 8 * a from by omega, ← e]; omega
end Go.Proofs.Ytleckflmckbheaa

namespace Go.Proofs.Ytleckflmckbheaa
open Go.RowKit
set_option linter.unusedVariables false
set_option linter.unusedSimpArgs false
set_option maxRecDepth 20000
/-- the table of the numbers of bits -/
def len8L : List Int := [0, 1, 2, 2, 3, 3, 3, 3, 4, 4, 4, 4, 4, 4, 4, 4, 5, 5, 5, 5, 5, 5, 5, 5, 5, 5, 5, 5, 5, 5, 5, 5, 6, 6, 6, 6, 6, 6, 6, 6, 6, 6, 6, 6, 6, 6, 6, 6, 6, 6, 6, 6, 6, 6, 6, 6, 6, 6, 6, 6, 6, 6, 6, 6, 7, 7, 7, 7, 7, 7, 7, 7, 7, 7, 7, 7, 7, 7, 7, 7, 7, 7, 7, 7, 7, 7, 7, 7, 7, 7, 7, 7, 7, 7, 7, 7, 7, 7, 7, 7, 7, 7, 7, 7, 7, 7, 7, 7, 7, 7, 7, 7, 7, 7, 7, 7, 7, 7, 7, 7, 7, 7, 7, 7, 7, 7, 7, 7, 8, 8, 8, 8, 8, 8, 8, 8, 8, 8, 8, 8, 8, 8, 8, 8, 8, 8, 8, 8, 8, 8, 8, 8, 8, 8, 8, 8, 8, 8, 8, 8, 8, 8, 8, 8, 8, 8, 8, 8, 8, 8, 8, 8, 8, 8, 8, 8, 8, 8, 8, 8, 8, 8, 8, 8, 8, 8, 8, 8, 8, 8, 8, 8, 8, 8, 8, 8, 8, 8, 8, 8, 8, 8, 8, 8, 8, 8, 8, 8, 8, 8, 8, 8, 8, 8, 8, 8, 8, 8, 8, 8, 8, 8, 8, 8, 8, 8, 8, 8, 8, 8, 8, 8, 8, 8, 8, 8, 8, 8, 8, 8, 8, 8, 8, 8, 8, 8, 8, 8, 8, 8, 8, 8, 8, 8, 8, 8]
def LenOf (x l : Nat) : Prop := x < 2 ^ l ∧ (0 < x → 2 ^ l ≤ 2 * x) ∧ l ≤ 32
theorem len8_all : ∀ y, y < 256 → len8L[y]? = some (((len8L.getD y 0).toNat : Nat) : Int) ∧ y < 2 ^ (len8L.getD y 0).toNat ∧ (0 < y → 2 ^ (len8L.getD y 0).toNat ≤ 2 * y) ∧ (len8L.getD y 0).toNat ≤ 8 := by decide +kernel
theorem len8_spec (y : Nat) (h : y < 256) : ∃ l : Nat, len8L[y]? = some ((l : Nat) : Int) ∧ y < 2 ^ l ∧ (0 < y → 2 ^ l ≤ 2 * y) ∧ l ≤ 8 := ⟨_, len8_all y h⟩
theorem lenOf_up {x l : Nat} (k : Nat) (hk : k ≤ 16) (h1 : x / 2 ^ k < 2 ^ l) (h2 : 0 < x / 2 ^ k → 2 ^ l ≤ 2 * (x / 2 ^ k)) (h3 : 2 ^ k ≤ x) (h4 : l ≤ 8) : LenOf x (k + l) := by
  have hp : 0 < 2 ^ k := Nat.two_pow_pos k
  have h5 : 0 < x / 2 ^ k := Nat.div_pos h3 hp
  have h6 := h2 h5
  have h7 : x / 2 ^ k * 2 ^ k ≤ x := Nat.div_mul_le_self _ _
  refine ⟨?_, fun _ => ?_, by omega⟩
  · rw [Nat.pow_add, Nat.mul_comm]
    exact (Nat.div_lt_iff_lt_mul hp).1 h1
  · rw [Nat.pow_add]
    calc 2 ^ k * 2 ^ l ≤ 2 ^ k * (2 * (x / 2 ^ k)) := Nat.mul_le_mul_left _ h6
      _ = 2 * (x / 2 ^ k * 2 ^ k) := by rw [Nat.mul_left_comm, Nat.mul_comm (2 ^ k)]
      _ ≤ 2 * x := Nat.mul_le_mul_left _ h7
theorem and_le (x : Int) (m : Nat) (hm : m < 9223372036854775808) : ∃ r : Nat, bits .and .u64 x (m : Int) = (r : Int) ∧ r ≤ m := by
  refine ⟨((BitVec.ofInt 64 x).toNat &&& m), ?_, Nat.and_le_right⟩
  have hr : (BitVec.ofInt 64 x).toNat &&& m ≤ m := Nat.and_le_right
  show IntKind.u64.wrap ((BitVec.ofInt 64 x &&& BitVec.ofInt 64 (m : Int)).toNat : Int) = _
  rw [BitVec.toNat_and, ofInt_i64 m hm, IntKind.wrap_u64]
  omega
theorem us6nm72 : (Try.f72.name == "runtime.NumGoroutine") = false := by decide
theorem us6bd72 : Try.f72.body.isNone = false := rfl
theorem us6nm59 : (Try.f59.name == "runtime.NumGoroutine") = false := by decide
theorem us6bd59 : Try.f59.body.isNone = false := rfl
theorem us6ag100 (w : World) : (isAgg 100).run Try.prog w = .ok false w := rfl
theorem us6sz100 (w : World) : (sizeOf 100).run Try.prog w = .ok 1 w := rfl
theorem us6one_u64 {a0 : Int} : ∀ u ∈ [(.int .u64 a0 : Value)], u.oneCell' = true := by
  intro u hu
  rw [List.mem_singleton] at hu
  subst hu; rfl
theorem us6zv100 (w : World) : (zeroValue 100).run Try.prog w = .ok (.int .u64 0) w := rfl
theorem us6nm74 : (Try.f74.name == "runtime.NumGoroutine") = false := by decide
theorem us6bd74 : Try.f74.body.isNone = false := rfl
theorem us6nm75 : (Try.f75.name == "runtime.NumGoroutine") = false := by decide
theorem us6bd75 : Try.f75.body.isNone = false := rfl
theorem us6sz35 (w : World) : (sizeOf 35).run Try.prog w = .ok 1 w := rfl
theorem us6ag35 (w : World) : (isAgg 35).run Try.prog w = .ok false w := rfl
set_option maxHeartbeats 1000000 in
theorem len64_any (x : Nat) (hx : x ≤ 1000000) (w : World) : Calls Try.prog 72 #[.int .u64 ((x : Nat) : Int)] w fun e w' => ∃ L : {l : Nat // LenOf x l}, e = .returned (.int .i64 ((L.1 : Nat) : Int)) ∧ Pm w [] w' := by
  refine begin_ (vs := [.int .u64 ((x : Nat) : Int)]) Try.func72 rfl rfl rfl ?_ (Pm.start w)
  refine TC.seq_ ?_
  refine TC.region ?_
  refine TL.val rfl rfl rfl (gives_assign rfl rfl) ?_
  refine TL.end_ ?_
  refine TX.then_ ?_
  refine TC.seq_ ?_
  refine TC.seq_ ?_
  rcases (by omega : 65536 ≤ x ∨ (¬ 65536 ≤ x ∧ 256 ≤ x) ∨ (¬ 65536 ≤ x ∧ ¬ 256 ≤ x)) with p1 | ⟨p1, p2⟩ | ⟨p1, p2⟩
  · obtain ⟨l, hl1, hl2, hl3, hl4⟩ := len8_spec (x / 65536) (by omega)
    have hL : LenOf x (16 + l) := lenOf_up 16 (by decide) hl2 hl3 (by omega) (by omega)
    refine TC.region ?_
    refine TL.val rfl rfl rfl (gives_move rfl rfl) ?_
    refine TL.val rfl rfl rfl (gives_bin rfl rfl rfl (fun w => bin_geq_f (by omega) w)) ?_
    refine TL.end_ ?_
    refine TX.then_ ?_
    refine TC.condF rfl ?_
    refine TC.skip_ ?_
    refine TX.then_ ?_
    refine TC.seq_ ?_
    refine TC.seq_ ?_
    refine TC.region ?_
    refine TL.val rfl rfl rfl (gives_move rfl rfl) ?_
    refine TL.val rfl rfl rfl (gives_bin rfl rfl rfl (fun w => bin_geq_t (by omega) w)) ?_
    refine TL.end_ ?_
    refine TX.then_ ?_
    refine TC.condT rfl ?_
    refine TC.seq_ ?_
    refine TC.region ?_
    refine TL.val rfl rfl rfl (gives_move rfl rfl) ?_
    refine TL.val rfl rfl rfl (gives_bin (v := .int .u64 ((x / 65536 : Nat) : Int)) rfl rfl rfl (fun w => bin_shr 65536 (by decide) (by decide) (by decide) w)) ?_
    refine TL.val rfl rfl rfl (gives_assign rfl rfl) ?_
    refine TL.end_ ?_
    refine TX.then_ ?_
    refine TC.region ?_
    refine TL.val rfl rfl rfl (gives_move rfl rfl) ?_
    refine TL.val rfl rfl rfl (gives_bin rfl rfl rfl (fun w => bin_add_ (r := 16) (by simp only [IntKind.wrap_i64]; omega) w)) ?_
    refine TL.val rfl rfl rfl (gives_assign rfl rfl) ?_
    refine TL.end_ ?_
    refine TX.then_ ?_
    refine TC.seq_ ?_
    refine TC.seq_ ?_
    refine TC.region ?_
    refine TL.val rfl rfl rfl (gives_move rfl rfl) ?_
    refine TL.val rfl rfl rfl (gives_bin rfl rfl rfl (fun w => bin_geq_f (by omega) w)) ?_
    refine TL.end_ ?_
    refine TX.then_ ?_
    refine TC.condF rfl ?_
    refine TC.skip_ ?_
    refine TX.then_ ?_
    refine TC.seq_ ?_
    refine TC.region ?_
    refine TL.val rfl rfl rfl (gives_move rfl rfl) ?_
    refine TL.val rfl rfl rfl (gives_move rfl rfl) ?_
    refine TL.val rfl rfl rfl (gives_conv rfl rfl (fun w => conv_fit (k := .u64) Try.underlying5 Try.underlying99 (by simp only [IntKind.wrap_u8]; omega) w)) ?_
    refine TL.val rfl rfl rfl (gives_index (vx := sv len8L) rfl (by kernel_rfl) rfl (fun w => str_at Try.underlying9 hl1 (by omega) w)) ?_
    refine TL.val rfl rfl rfl (gives_conv rfl rfl (fun w => conv_fit (k := .u8) Try.underlying3 Try.underlying5 (by simp only [IntKind.wrap_i64]; omega) w)) ?_
    refine TL.val rfl rfl rfl (gives_bin rfl rfl rfl (fun w => bin_add_ (r := ((16 + l : Nat) : Int)) (by simp only [IntKind.wrap_i64]; omega) w)) ?_
    refine TL.val rfl rfl rfl (gives_assign rfl rfl) ?_
    refine TL.end_ ?_
    refine TX.then_ ?_
    refine TC.ret_ ?_
    exact ret_tmp Try.results72 rfl (fun w1 hw => ⟨⟨16 + l, hL⟩, rfl, hw⟩)
  · obtain ⟨l, hl1, hl2, hl3, hl4⟩ := len8_spec (x / 256) (by omega)
    have hL : LenOf x (8 + l) := lenOf_up 8 (by decide) hl2 hl3 (by omega) (by omega)
    refine TC.region ?_
    refine TL.val rfl rfl rfl (gives_move rfl rfl) ?_
    refine TL.val rfl rfl rfl (gives_bin rfl rfl rfl (fun w => bin_geq_f (by omega) w)) ?_
    refine TL.end_ ?_
    refine TX.then_ ?_
    refine TC.condF rfl ?_
    refine TC.skip_ ?_
    refine TX.then_ ?_
    refine TC.seq_ ?_
    refine TC.seq_ ?_
    refine TC.region ?_
    refine TL.val rfl rfl rfl (gives_move rfl rfl) ?_
    refine TL.val rfl rfl rfl (gives_bin rfl rfl rfl (fun w => bin_geq_f (by omega) w)) ?_
    refine TL.end_ ?_
    refine TX.then_ ?_
    refine TC.condF rfl ?_
    refine TC.skip_ ?_
    refine TX.then_ ?_
    refine TC.seq_ ?_
    refine TC.seq_ ?_
    refine TC.region ?_
    refine TL.val rfl rfl rfl (gives_move rfl rfl) ?_
    refine TL.val rfl rfl rfl (gives_bin rfl rfl rfl (fun w => bin_geq_t (by omega) w)) ?_
    refine TL.end_ ?_
    refine TX.then_ ?_
    refine TC.condT rfl ?_
    refine TC.seq_ ?_
    refine TC.region ?_
    refine TL.val rfl rfl rfl (gives_move rfl rfl) ?_
    refine TL.val rfl rfl rfl (gives_bin (v := .int .u64 ((x / 256 : Nat) : Int)) rfl rfl rfl (fun w => bin_shr 256 (by decide) (by decide) (by decide) w)) ?_
    refine TL.val rfl rfl rfl (gives_assign rfl rfl) ?_
    refine TL.end_ ?_
    refine TX.then_ ?_
    refine TC.region ?_
    refine TL.val rfl rfl rfl (gives_move rfl rfl) ?_
    refine TL.val rfl rfl rfl (gives_bin rfl rfl rfl (fun w => bin_add_ (r := 8) (by simp only [IntKind.wrap_i64]; omega) w)) ?_
    refine TL.val rfl rfl rfl (gives_assign rfl rfl) ?_
    refine TL.end_ ?_
    refine TX.then_ ?_
    refine TC.seq_ ?_
    refine TC.region ?_
    refine TL.val rfl rfl rfl (gives_move rfl rfl) ?_
    refine TL.val rfl rfl rfl (gives_move rfl rfl) ?_
    refine TL.val rfl rfl rfl (gives_conv rfl rfl (fun w => conv_fit (k := .u64) Try.underlying5 Try.underlying99 (by simp only [IntKind.wrap_u8]; omega) w)) ?_
    refine TL.val rfl rfl rfl (gives_index (vx := sv len8L) rfl (by kernel_rfl) rfl (fun w => str_at Try.underlying9 hl1 (by omega) w)) ?_
    refine TL.val rfl rfl rfl (gives_conv rfl rfl (fun w => conv_fit (k := .u8) Try.underlying3 Try.underlying5 (by simp only [IntKind.wrap_i64]; omega) w)) ?_
    refine TL.val rfl rfl rfl (gives_bin rfl rfl rfl (fun w => bin_add_ (r := ((8 + l : Nat) : Int)) (by simp only [IntKind.wrap_i64]; omega) w)) ?_
    refine TL.val rfl rfl rfl (gives_assign rfl rfl) ?_
    refine TL.end_ ?_
    refine TX.then_ ?_
    refine TC.ret_ ?_
    exact ret_tmp Try.results72 rfl (fun w1 hw => ⟨⟨8 + l, hL⟩, rfl, hw⟩)
  · obtain ⟨l, hl1, hl2, hl3, hl4⟩ := len8_spec (x) (by omega)
    have hL : LenOf x (0 + l) := by rw [Nat.zero_add]; exact ⟨hl2, hl3, by omega⟩
    refine TC.region ?_
    refine TL.val rfl rfl rfl (gives_move rfl rfl) ?_
    refine TL.val rfl rfl rfl (gives_bin rfl rfl rfl (fun w => bin_geq_f (by omega) w)) ?_
    refine TL.end_ ?_
    refine TX.then_ ?_
    refine TC.condF rfl ?_
    refine TC.skip_ ?_
    refine TX.then_ ?_
    refine TC.seq_ ?_
    refine TC.seq_ ?_
    refine TC.region ?_
    refine TL.val rfl rfl rfl (gives_move rfl rfl) ?_
    refine TL.val rfl rfl rfl (gives_bin rfl rfl rfl (fun w => bin_geq_f (by omega) w)) ?_
    refine TL.end_ ?_
    refine TX.then_ ?_
    refine TC.condF rfl ?_
    refine TC.skip_ ?_
    refine TX.then_ ?_
    refine TC.seq_ ?_
    refine TC.seq_ ?_
    refine TC.region ?_
    refine TL.val rfl rfl rfl (gives_move rfl rfl) ?_
    refine TL.val rfl rfl rfl (gives_bin rfl rfl rfl (fun w => bin_geq_f (by omega) w)) ?_
    refine TL.end_ ?_
    refine TX.then_ ?_
    refine TC.condF rfl ?_
    refine TC.skip_ ?_
    refine TX.then_ ?_
    refine TC.seq_ ?_
    refine TC.region ?_
    refine TL.val rfl rfl rfl (gives_move rfl rfl) ?_
    refine TL.val rfl rfl rfl (gives_move rfl rfl) ?_
    refine TL.val rfl rfl rfl (gives_conv rfl rfl (fun w => conv_fit (k := .u64) Try.underlying5 Try.underlying99 (by simp only [IntKind.wrap_u8]; omega) w)) ?_
    refine TL.val rfl rfl rfl (gives_index (vx := sv len8L) rfl (by kernel_rfl) rfl (fun w => str_at Try.underlying9 hl1 (by omega) w)) ?_
    refine TL.val rfl rfl rfl (gives_conv rfl rfl (fun w => conv_fit (k := .u8) Try.underlying3 Try.underlying5 (by simp only [IntKind.wrap_i64]; omega) w)) ?_
    refine TL.val rfl rfl rfl (gives_bin rfl rfl rfl (fun w => bin_add_ (r := ((0 + l : Nat) : Int)) (by simp only [IntKind.wrap_i64]; omega) w)) ?_
    refine TL.val rfl rfl rfl (gives_assign rfl rfl) ?_
    refine TL.end_ ?_
    refine TX.then_ ?_
    refine TC.ret_ ?_
    exact ret_tmp Try.results72 rfl (fun w1 hw => ⟨⟨0 + l, hL⟩, rfl, hw⟩)
set_option maxHeartbeats 1000000 in
theorem len_any (x : Nat) (hx : x ≤ 1000000) (w : World) : Calls Try.prog 59 #[.int .u64 ((x : Nat) : Int)] w fun e w' => ∃ L : {l : Nat // LenOf x l}, e = .returned (.int .i64 ((L.1 : Nat) : Int)) ∧ Pm w [] w' := by
  refine begin_ (vs := [.int .u64 ((x : Nat) : Int)]) Try.func59 rfl rfl rfl ?_ (Pm.start w)
  refine TC.seq_ ?_
  refine TC.region ?_
  refine TL.val rfl rfl rfl (gives_assign rfl rfl) ?_
  refine TL.end_ ?_
  refine TX.then_ ?_
  refine TC.seq_ ?_
  refine TC.condF rfl ?_
  refine TC.skip_ ?_
  refine TX.then_ ?_
  refine TC.seq_ ?_
  refine TC.region ?_
  refine TL.val rfl rfl rfl (gives_move rfl rfl) ?_
  refine TL.pcallPm (α := {l : Nat // LenOf x l}) (fun y => .int .i64 ((y.1 : Nat) : Int)) (fun y => []) rfl rfl rfl rfl rfl Try.func72 us6nm72 us6bd72 (fun w1 hw => len64_any _ (by omega) w1) ?_
  rintro ⟨l, hL⟩
  dsimp only [List.cons_append, List.nil_append]
  refine TL.val rfl rfl rfl (gives_assign rfl rfl) ?_
  refine TL.end_ ?_
  refine TX.then_ ?_
  refine TC.ret_ ?_
  exact ret_tmp Try.results59 rfl (fun w1 hw => ⟨⟨l, hL⟩, rfl, hw⟩)
set_option maxHeartbeats 1000000 in
theorem np2_any (x : Nat) (hx1 : 0 < x) (hx : x ≤ 1000000) (w : World) : Calls Try.prog 74 #[.int .i64 ((x : Nat) : Int)] w fun e w' => ∃ p : {p : Nat // x < p ∧ p ≤ 2 * x}, e = .returned (.int .u64 ((p.1 : Nat) : Int)) ∧ Pm w [] w' := by
  refine begin_ (vs := [.int .i64 ((x : Nat) : Int)]) Try.func74 rfl rfl rfl ?_ (Pm.start w)
  refine TC.seq_ ?_
  refine TC.region ?_
  refine TL.val rfl rfl rfl (gives_assign rfl rfl) ?_
  refine TL.end_ ?_
  refine TX.then_ ?_
  refine TC.seq_ ?_
  refine TC.region ?_
  refine TL.val rfl rfl rfl (gives_move rfl rfl) ?_
  refine TL.val rfl rfl rfl (gives_conv rfl rfl (fun w => conv_fit (k := .i64) Try.underlying88 Try.underlying3 (by simp only [IntKind.wrap_u64]; omega) w)) ?_
  refine TL.pcallPm (α := {l : Nat // LenOf x l}) (fun y => .int .i64 ((y.1 : Nat) : Int)) (fun y => []) rfl rfl rfl rfl rfl Try.func59 us6nm59 us6bd59 (fun w1 hw => len_any _ (by omega) w1) ?_
  rintro ⟨l, hL⟩
  dsimp only [List.cons_append, List.nil_append]
  have hb1 := hL.2.1 hx1
  have hb2 := hL.1
  have hb3 := hL.2.2
  have hp0 : 0 < 2 ^ l := Nat.two_pow_pos l
  refine TL.val rfl rfl rfl (gives_bin (v := .int .u64 ((2 ^ l : Nat) : Int)) rfl rfl rfl (fun w => by rw [bin_shl ((2 ^ l : Nat) : Int) (by omega) (show ((l : Nat) : Int) ≤ ((64 : Nat) : Int) by omega) (by rw [Int.toNat_natCast]; exact (Int.natCast_pow 2 l).symm) w]; congr 2; simp only [IntKind.wrap_u64]; omega)) ?_
  refine TL.val rfl rfl rfl (gives_assign rfl rfl) ?_
  refine TL.end_ ?_
  refine TX.then_ ?_
  refine TC.ret_ ?_
  exact ret_tmp Try.results74 rfl (fun w1 hw => ⟨⟨2 ^ l, hb2, hb1⟩, rfl, hw⟩)
set_option maxHeartbeats 1000000 in
theorem xnext_any (gs : Nat) (x : Int) (w : World) (hs : Blk w gs 100 [.int .u64 x].toArray) : Calls Try.prog 75 #[.pointer (some ⟨gs, 0, none⟩)] w fun e w' => ∃ y : Int, e = .returned (.int .u64 y) ∧ Chg gs 100 [.int .u64 y] w [] w' := by
  refine begin_ (vs := [.pointer (some ⟨gs, 0, none⟩)]) (I := Pm ⟨w, gs⟩ (.blk gs 100 [.int .u64 x] :: oths gs w)) Try.func75 rfl rfl rfl ?_ (Pm.atBlk hs)
  refine TC.seq_ ?_
  refine TC.region ?_
  refine TL.val rfl rfl rfl (gives_assign rfl rfl) ?_
  refine TL.end_ ?_
  refine TX.then_ ?_
  refine TC.seq_ ?_
  refine TC.tail 8 (by kernel_rfl) (by kernel_rfl) (fun w hw => hw.drawn _) ?_
  refine TS.val rfl rfl rfl (gives_move rfl rfl) ?_
  refine TS.val rfl rfl rfl (gives_nilCheck rfl rfl) ?_
  refine TS.val rfl rfl rfl (pm_load (k := 0) (i := 0) rfl rfl us6ag100 rfl rfl) ?_
  refine TS.val rfl rfl rfl (gives_move rfl rfl) ?_
  refine TS.val rfl rfl rfl (gives_nilCheck rfl rfl) ?_
  refine TS.val rfl rfl rfl (pm_load (k := 0) (i := 0) rfl rfl us6ag100 rfl rfl) ?_
  refine TS.val rfl rfl rfl (gives_bin rfl rfl rfl (fun w => bin_shl 8192 (by decide) (by decide) (by decide) w)) ?_
  refine TS.val rfl rfl rfl (gives_bin rfl rfl rfl (fun w => bin_bits (.inr (.inr rfl)) w)) ?_
  refine TS.end_ ?_
  refine TL.val rfl rfl rfl (gives_nilCheck rfl rfl) ?_
  refine TL.pstore (k := 0) (vs := [.int .u64 (bits .xor .u64 x (IntKind.u64.wrap (x * 8192)))]) rfl rfl rfl rfl rfl rfl rfl us6sz100 us6one_u64 (by show 1 ≤ 1; decide) (L' := ([.blk gs 100 [.int .u64 (bits .xor .u64 x (IntKind.u64.wrap (x * 8192)))]] ++ oths gs w)) rfl ?_
  refine TL.end_ ?_
  refine TX.then_ ?_
  refine TC.seq_ ?_
  refine TC.tail 8 (by kernel_rfl) (by kernel_rfl) (fun w hw => hw.drawn _) ?_
  refine TS.val rfl rfl rfl (gives_move rfl rfl) ?_
  refine TS.val rfl rfl rfl (gives_nilCheck rfl rfl) ?_
  refine TS.val rfl rfl rfl (pm_load (k := 0) (i := 0) rfl rfl us6ag100 rfl rfl) ?_
  refine TS.val rfl rfl rfl (gives_move rfl rfl) ?_
  refine TS.val rfl rfl rfl (gives_nilCheck rfl rfl) ?_
  refine TS.val rfl rfl rfl (pm_load (k := 0) (i := 0) rfl rfl us6ag100 rfl rfl) ?_
  refine TS.val rfl rfl rfl (gives_bin rfl rfl rfl (fun w => bin_shr 128 (by decide) (by decide) (by decide) w)) ?_
  refine TS.val rfl rfl rfl (gives_bin rfl rfl rfl (fun w => bin_bits (.inr (.inr rfl)) w)) ?_
  refine TS.end_ ?_
  refine TL.val rfl rfl rfl (gives_nilCheck rfl rfl) ?_
  refine TL.pstore (k := 0) (vs := [.int .u64 (bits .xor .u64 (bits .xor .u64 x (IntKind.u64.wrap (x * 8192))) ((bits .xor .u64 x (IntKind.u64.wrap (x * 8192))) / 128))]) rfl rfl rfl rfl rfl rfl rfl us6sz100 us6one_u64 (by show 1 ≤ 1; decide) (L' := ([.blk gs 100 [.int .u64 (bits .xor .u64 (bits .xor .u64 x (IntKind.u64.wrap (x * 8192))) ((bits .xor .u64 x (IntKind.u64.wrap (x * 8192))) / 128))]] ++ oths gs w)) rfl ?_
  refine TL.end_ ?_
  refine TX.then_ ?_
  refine TC.seq_ ?_
  refine TC.tail 8 (by kernel_rfl) (by kernel_rfl) (fun w hw => hw.drawn _) ?_
  refine TS.val rfl rfl rfl (gives_move rfl rfl) ?_
  refine TS.val rfl rfl rfl (gives_nilCheck rfl rfl) ?_
  refine TS.val rfl rfl rfl (pm_load (k := 0) (i := 0) rfl rfl us6ag100 rfl rfl) ?_
  refine TS.val rfl rfl rfl (gives_move rfl rfl) ?_
  refine TS.val rfl rfl rfl (gives_nilCheck rfl rfl) ?_
  refine TS.val rfl rfl rfl (pm_load (k := 0) (i := 0) rfl rfl us6ag100 rfl rfl) ?_
  refine TS.val rfl rfl rfl (gives_bin rfl rfl rfl (fun w => bin_shl 131072 (by decide) (by decide) (by decide) w)) ?_
  refine TS.val rfl rfl rfl (gives_bin rfl rfl rfl (fun w => bin_bits (.inr (.inr rfl)) w)) ?_
  refine TS.end_ ?_
  refine TL.val rfl rfl rfl (gives_nilCheck rfl rfl) ?_
  refine TL.pstore (k := 0) (vs := [.int .u64 (bits .xor .u64 (bits .xor .u64 (bits .xor .u64 x (IntKind.u64.wrap (x * 8192))) ((bits .xor .u64 x (IntKind.u64.wrap (x * 8192))) / 128)) (IntKind.u64.wrap ((bits .xor .u64 (bits .xor .u64 x (IntKind.u64.wrap (x * 8192))) ((bits .xor .u64 x (IntKind.u64.wrap (x * 8192))) / 128)) * 131072)))]) rfl rfl rfl rfl rfl rfl rfl us6sz100 us6one_u64 (by show 1 ≤ 1; decide) (L' := ([.blk gs 100 [.int .u64 (bits .xor .u64 (bits .xor .u64 (bits .xor .u64 x (IntKind.u64.wrap (x * 8192))) ((bits .xor .u64 x (IntKind.u64.wrap (x * 8192))) / 128)) (IntKind.u64.wrap ((bits .xor .u64 (bits .xor .u64 x (IntKind.u64.wrap (x * 8192))) ((bits .xor .u64 x (IntKind.u64.wrap (x * 8192))) / 128)) * 131072)))]] ++ oths gs w)) rfl ?_
  refine TL.end_ ?_
  refine TX.then_ ?_
  refine TC.seq_ ?_
  refine TC.region ?_
  refine TL.val rfl rfl rfl (gives_move rfl rfl) ?_
  refine TL.val rfl rfl rfl (gives_nilCheck rfl rfl) ?_
  refine TL.val rfl rfl rfl (pm_load (k := 0) (i := 0) rfl rfl us6ag100 rfl rfl) ?_
  refine TL.val rfl rfl rfl (gives_assign rfl rfl) ?_
  refine TL.end_ ?_
  refine TX.then_ ?_
  refine TC.ret_ ?_
  exact ret_tmp Try.results75 rfl (fun w1 hw => ⟨_, rfl, Pm.chg [] hw rfl⟩)
set_option maxHeartbeats 1000000 in
theorem brk_any (g n c : Nat) (xs : List Int) (w : World) (h : Rw 35 w g n c xs) (hn : n ≤ 1000000) (a b : Nat) (hab : a ≤ b) (hb : b ≤ n) :
    Calls Try.prog 64 #[.slice (some ⟨g, 0, none⟩) n c, .int .i64 ((a : Nat) : Int), .int .i64 ((b : Nat) : Int)] w (RC (α := Unit) (fun _ => .tuple #[]) (fun _ ys => Pin a b xs ys) 35 g n c w) := by
  have hl := h.len
  refine begin_ (vs := [.slice (some ⟨g, 0, none⟩) n c, .int .i64 ((a : Nat) : Int), .int .i64 ((b : Nat) : Int)]) (I := Pm ⟨wbut w g, g⟩ (.row (.slice (some ⟨g, 0, none⟩) n c) 35 1 n (uv xs) :: oths g w)) Try.func64 rfl rfl rfl ?_ (Pm.rowStart h)
  refine TC.seq_ ?_
  refine TC.region ?_
  refine TL.val rfl rfl rfl (gives_move rfl rfl) ?_
  refine TL.val rfl rfl rfl (gives_move rfl rfl) ?_
  refine TL.val rfl rfl rfl (gives_bin rfl rfl rfl (fun w => bin_sub_ (r := ((b - a : Nat) : Int)) (by simp only [IntKind.wrap_i64]; omega) w)) ?_
  refine TL.val rfl rfl rfl (gives_assign rfl rfl) ?_
  refine TL.end_ ?_
  refine TX.then_ ?_
  refine TC.seq_ ?_
  refine TC.region ?_
  refine TL.val rfl rfl rfl (gives_move rfl rfl) ?_
  refine TL.vsplit rfl rfl rfl (gives_bin rfl rfl rfl (fun w => bin_geq w)) (fun h15 => ?_) (fun h15 => ?_)
  · have q15 := of_decide_eq_true h15
    refine TL.end_ ?_
    refine TX.then_ ?_
    refine TC.condT rfl ?_
    refine TC.seq_ ?_
    refine TC.region ?_
    refine TL.val rfl rfl rfl (gives_move rfl rfl) ?_
    refine TL.val rfl rfl rfl (gives_conv rfl rfl (fun w => conv_fit (k := .i64) Try.underlying100 Try.underlying3 (by simp only [IntKind.wrap_u64]; omega) w)) ?_
    refine TL.pnew rfl rfl rfl (exec_alloc (cs := [.int .u64 0]) rfl us6zv100 rfl) (fun g7 => ?_)
    refine TL.pstore (k := 0) (vs := [.int .u64 ((b - a : Nat) : Int)]) rfl rfl rfl rfl rfl rfl rfl us6sz100 us6one_u64 (by show 1 ≤ 1; decide) (L' := ([.blk g7 100 [.int .u64 ((b - a : Nat) : Int)], .row (.slice (some ⟨g, 0, none⟩) n c) 35 1 n (uv xs)] ++ oths g w)) rfl ?_
    refine TL.end_ ?_
    refine TX.then_ ?_
    refine TC.seq_ ?_
    refine TC.region ?_
    refine TL.val rfl rfl rfl (gives_move rfl rfl) ?_
    refine TL.pcallPm (α := {p : Nat // b - a < p ∧ p ≤ 2 * (b - a)}) (fun y => .int .u64 ((y.1 : Nat) : Int)) (fun y => []) rfl rfl rfl rfl rfl Try.func74 us6nm74 us6bd74 (fun w1 hw => np2_any _ (by omega) (by omega) w1) ?_
    rintro ⟨p, hp1, hp2⟩
    dsimp only [List.cons_append, List.nil_append]
    refine TL.val rfl rfl rfl (gives_assign rfl rfl) ?_
    refine TL.end_ ?_
    refine TX.then_ ?_
    refine TC.seq_ ?_
    refine TC.region ?_
    refine TL.val rfl rfl rfl (gives_move rfl rfl) ?_
    refine TL.val rfl rfl rfl (gives_move rfl rfl) ?_
    refine TL.val rfl rfl rfl (gives_bin rfl rfl rfl (fun w => bin_quoi_ (r := (((b - a) / 4 : Nat) : Int)) (by omega) (by omega) (by omega) (by omega) w)) ?_
    refine TL.val rfl rfl rfl (gives_bin rfl rfl rfl (fun w => bin_mul_ (r := ((((b - a) / 4) * 2 : Nat) : Int)) (by simp only [IntKind.wrap_i64]; omega) w)) ?_
    refine TL.val rfl rfl rfl (gives_bin rfl rfl rfl (fun w => bin_add_ (r := ((a + (((b - a) / 4) * 2) : Nat) : Int)) (by simp only [IntKind.wrap_i64]; omega) w)) ?_
    refine TL.val rfl rfl rfl (gives_bin rfl rfl rfl (fun w => bin_sub_ (r := (((a + (((b - a) / 4) * 2)) - 1 : Nat) : Int)) (by simp only [IntKind.wrap_i64]; omega) w)) ?_
    refine TL.val rfl rfl rfl (gives_assign rfl rfl) ?_
    refine TL.end_ ?_
    refine TX.then_ ?_
    refine TC.block ?_
    refine TC.loop_ (α := {y : Nat × Int × List Int // a + (b - a) / 4 * 2 - 1 ≤ y.1 ∧ y.1 ≤ a + (b - a) / 4 * 2 + 2 ∧ Pin a b xs y.2.2 ∧ y.2.2.length = n}) (fun y => [(0, .slice (some ⟨g, 0, none⟩) n c), (1, .int .i64 ((a : Nat) : Int)), (2, .int .i64 ((b : Nat) : Int)), (6, .int .i64 ((b - a : Nat) : Int)), (7, .pointer (some ⟨g7, 0, none⟩)), (8, .int .u64 ((p : Nat) : Int)), (9, .int .i64 ((y.1.1 : Nat) : Int))]) (fun y => Pm ⟨wbut w g, g⟩ ([.blk g7 100 [.int .u64 y.1.2.1], .row (.slice (some ⟨g, 0, none⟩) n c) 35 1 n (uv y.1.2.2)] ++ oths g w)) (fun y => a + (b - a) / 4 * 2 + 2 - y.1.1) (⟨(a + (b - a) / 4 * 2 - 1, ((b - a : Nat) : Int), xs), Nat.le_refl _, by dsimp only; omega, Pin.refl _ _ _, hl⟩) ⟨rfl, rfl, rfl, rfl, rfl, rfl, rfl, trivial⟩ (fun w1 hw => hw) ?_
    rintro ⟨⟨i, u, ys⟩, hi1, hi2, hP, hly⟩
    dsimp only at hi1 hi2 hP hly ⊢
    refine TC.seq_ ?_
    refine TC.seq_ ?_
    refine TC.region ?_
    refine TL.val rfl rfl rfl (gives_move rfl rfl) ?_
    refine TL.val rfl rfl rfl (gives_move rfl rfl) ?_
    refine TL.val rfl rfl rfl (gives_move rfl rfl) ?_
    refine TL.val rfl rfl rfl (gives_bin rfl rfl rfl (fun w => bin_quoi_ (r := (((b - a) / 4 : Nat) : Int)) (by omega) (by omega) (by omega) (by omega) w)) ?_
    refine TL.val rfl rfl rfl (gives_bin rfl rfl rfl (fun w => bin_mul_ (r := ((((b - a) / 4) * 2 : Nat) : Int)) (by simp only [IntKind.wrap_i64]; omega) w)) ?_
    refine TL.val rfl rfl rfl (gives_bin rfl rfl rfl (fun w => bin_add_ (r := ((a + (((b - a) / 4) * 2) : Nat) : Int)) (by simp only [IntKind.wrap_i64]; omega) w)) ?_
    refine TL.val rfl rfl rfl (gives_bin rfl rfl rfl (fun w => bin_add_ (r := ((a + (((b - a) / 4) * 2) + 1 : Nat) : Int)) (by simp only [IntKind.wrap_i64]; omega) w)) ?_
    refine TL.vsplit rfl rfl rfl (gives_bin rfl rfl rfl (fun w => bin_leq w)) (fun h33 => ?_) (fun h33 => ?_)
    · have q33 := of_decide_eq_true h33
      refine TL.end_ ?_
      refine TX.then_ ?_
      refine TC.condT rfl ?_
      refine TC.skip_ ?_
      refine TX.then_ ?_
      refine TC.seq_ ?_
      refine TC.block ?_
      refine TC.seq_ ?_
      refine TC.region ?_
      refine TL.pcallChg (k := 0) (α := Int) (fun y => .int .u64 y) (fun y => [.int .u64 y]) (fun y => []) rfl rfl rfl rfl rfl Try.func75 us6nm75 us6bd75 rfl (fun w1 hw => xnext_any g7 _ w1 (hw.at_ (k := 0) rfl).1) ?_
      rintro v
      dsimp only [List.cons_append, List.nil_append, List.set]
      refine TL.val rfl rfl rfl (gives_move rfl rfl) ?_
      refine TL.val rfl rfl rfl (gives_bin rfl rfl rfl (fun w => bin_sub_ (r := ((p - 1 : Nat) : Int)) (by simp only [IntKind.wrap_u64]; omega) w)) ?_
      obtain ⟨q, hq, hq2⟩ := and_le v (p - 1) (by omega)
      refine TL.val rfl rfl rfl (gives_bin (v := .int .u64 ((q : Nat) : Int)) rfl rfl rfl (fun w => by rw [← hq]; exact bin_bits (.inl rfl) w)) ?_
      refine TL.val rfl rfl rfl (gives_conv rfl rfl (fun w => conv_fit (k := .u64) Try.underlying3 Try.underlying88 (by simp only [IntKind.wrap_i64]; omega) w)) ?_
      refine TL.val rfl rfl rfl (gives_assign rfl rfl) ?_
      refine TL.end_ ?_
      refine TX.then_ ?_
      refine TC.seq_ ?_
      refine TC.seq_ ?_
      refine TC.region ?_
      refine TL.val rfl rfl rfl (gives_move rfl rfl) ?_
      refine TL.val rfl rfl rfl (gives_move rfl rfl) ?_
      refine TL.vsplit rfl rfl rfl (gives_bin rfl rfl rfl (fun w => bin_geq w)) (fun h43 => ?_) (fun h43 => ?_)
      · have q43 := of_decide_eq_true h43
        refine TL.end_ ?_
        refine TX.then_ ?_
        refine TC.condT rfl ?_
        refine TC.region ?_
        refine TL.val rfl rfl rfl (gives_move rfl rfl) ?_
        refine TL.val rfl rfl rfl (gives_move rfl rfl) ?_
        refine TL.val rfl rfl rfl (gives_bin rfl rfl rfl (fun w => bin_sub_ (r := ((q - (b - a) : Nat) : Int)) (by simp only [IntKind.wrap_i64]; omega) w)) ?_
        refine TL.val rfl rfl rfl (gives_assign rfl rfl) ?_
        refine TL.end_ ?_
        refine TX.then_ ?_
        refine TC.held (ls := #[false, false, false, false, false, false, false, false, false, false, false, false, false, false, false, false, false, false, false, false]) (fun _ => True) (by kernel_rfl) rfl rfl (fun w hw => hw.drawn _) ?_
        refine TH.take (listed' := #[true, false, false, false, false, false, false, false, false, false, false, false, false, false, false, false, false, false, false, false]) 0 rfl (by kernel_rfl) (by kernel_rfl) (by kernel_rfl) rfl rfl rfl rfl (gives_move rfl rfl) (fun _ _ => trivial) ?_
        refine TH.take (listed' := #[true, true, false, false, false, false, false, false, false, false, false, false, false, false, false, false, false, false, false, false]) 1 rfl (by kernel_rfl) (by kernel_rfl) (by kernel_rfl) rfl rfl rfl rfl (gives_move rfl rfl) (fun _ _ => trivial) ?_
        refine TH.take (listed' := #[true, true, true, false, false, false, false, false, false, false, false, false, false, false, false, false, false, false, false, false]) 2 rfl (by kernel_rfl) (by kernel_rfl) (by kernel_rfl) rfl rfl rfl rfl (gives_move rfl rfl) (fun _ _ => trivial) ?_
        refine TH.take (listed' := #[true, true, true, true, false, false, false, false, false, false, false, false, false, false, false, false, false, false, false, false]) 3 rfl (by kernel_rfl) (by kernel_rfl) (by kernel_rfl) rfl rfl rfl rfl (gives_move rfl rfl) (fun _ _ => trivial) ?_
        refine TH.take (listed' := #[true, true, true, true, true, false, false, false, false, false, false, false, false, false, false, false, false, false, false, false]) 4 rfl (by kernel_rfl) (by kernel_rfl) (by kernel_rfl) rfl rfl rfl rfl (gives_move rfl rfl) (fun _ _ => trivial) ?_
        refine TH.take (listed' := #[true, true, true, true, true, true, false, false, false, false, false, false, false, false, false, false, false, false, false, false]) 5 rfl (by kernel_rfl) (by kernel_rfl) (by kernel_rfl) rfl rfl rfl rfl (gives_bin rfl rfl rfl (fun w => bin_add_ (r := ((a + (q - (b - a)) : Nat) : Int)) (by simp only [IntKind.wrap_i64]; omega) w)) (fun _ _ => trivial) ?_
        refine TH.take (listed' := #[true, true, true, true, true, true, true, false, false, false, false, false, false, false, false, false, false, false, false, false]) 6 rfl (by kernel_rfl) (by kernel_rfl) (by kernel_rfl) rfl rfl rfl rfl (gives_move rfl rfl) (fun _ _ => trivial) ?_
        refine TH.take (listed' := #[true, true, true, true, true, true, true, true, false, false, false, false, false, false, false, false, false, false, false, false]) 7 rfl (by kernel_rfl) (by kernel_rfl) (by kernel_rfl) rfl rfl rfl rfl (gives_move rfl rfl) (fun _ _ => trivial) ?_
        refine TH.take (listed' := #[true, true, true, true, true, true, true, true, true, false, false, false, false, false, false, false, false, false, false, false]) 8 rfl (by kernel_rfl) (by kernel_rfl) (by kernel_rfl) rfl rfl rfl rfl (gives_move rfl rfl) (fun _ _ => trivial) ?_
        refine TH.take (listed' := #[true, true, true, true, true, true, true, true, true, true, false, false, false, false, false, false, false, false, false, false]) 9 rfl (by kernel_rfl) (by kernel_rfl) (by kernel_rfl) rfl rfl rfl rfl (gives_bin rfl rfl rfl (fun w => bin_add_ (r := ((a + (q - (b - a)) : Nat) : Int)) (by simp only [IntKind.wrap_i64]; omega) w)) (fun _ _ => trivial) ?_
        refine TH.take (listed' := #[true, true, true, true, true, true, true, true, true, true, true, false, false, false, false, false, false, false, false, false]) 10 rfl (by kernel_rfl) (by kernel_rfl) (by kernel_rfl) rfl rfl rfl rfl (gives_at (v := .pointer (some ⟨g, a + (q - (b - a)), none⟩)) rfl rfl rfl (fun w => at_row Try.underlying31 us6sz35 g _ _ (a + (q - (b - a))) (by omega) rfl w)) (fun _ _ => trivial) ?_
        refine TH.take (listed' := #[true, true, true, true, true, true, true, true, true, true, true, false, true, false, false, false, false, false, false, false]) 12 rfl (by kernel_rfl) (by kernel_rfl) (by kernel_rfl) rfl rfl rfl rfl (gives_move rfl rfl) (fun _ _ => trivial) ?_
        refine TH.take (listed' := #[true, true, true, true, true, true, true, true, true, true, true, false, true, true, false, false, false, false, false, false]) 13 rfl (by kernel_rfl) (by kernel_rfl) (by kernel_rfl) rfl rfl rfl rfl (gives_move rfl rfl) (fun _ _ => trivial) ?_
        refine TH.take (listed' := #[true, true, true, true, true, true, true, true, true, true, true, false, true, true, true, false, false, false, false, false]) 14 rfl (by kernel_rfl) (by kernel_rfl) (by kernel_rfl) rfl rfl rfl rfl (gives_at (v := .pointer (some ⟨g, i, none⟩)) rfl rfl rfl (fun w => at_row Try.underlying31 us6sz35 g _ _ i (by omega) rfl w)) (fun _ _ => trivial) ?_
        refine TH.two' (listed1 := #[true, true, true, true, true, true, true, true, true, true, true, true, true, true, true, false, false, false, false, false]) (listed2 := #[true, true, true, true, true, true, true, true, true, true, true, false, true, true, true, true, false, false, false, false]) 11 15 rfl rfl (by kernel_rfl) rfl rfl ?_ ?_
        · refine TL.val rfl rfl rfl (pm_loadU (k := 1) (i := a + (q - (b - a))) rfl rfl us6ag35 rfl (by omega)) ?_
          refine TL.end_ ?_
          refine TX.held (fun _ _ => trivial) ?_
          refine TH.only' (listed' := #[true, true, true, true, true, true, true, true, true, true, true, true, true, true, true, true, false, false, false, false]) 15 rfl (by kernel_rfl) rfl ?_
          refine TL.val rfl rfl rfl (pm_loadU (k := 1) (i := i) rfl rfl us6ag35 rfl (by omega)) ?_
          refine TL.end_ ?_
          refine TX.held (fun _ _ => trivial) ?_
          refine TH.take (listed' := #[true, true, true, true, true, true, true, true, true, true, true, true, true, true, true, true, true, false, false, false]) 16 rfl (by kernel_rfl) (by kernel_rfl) (by kernel_rfl) rfl rfl rfl rfl (gives_at (v := .pointer (some ⟨g, i, none⟩)) rfl rfl rfl (fun w => at_row Try.underlying31 us6sz35 g _ _ i (by omega) rfl w)) (fun _ _ => trivial) ?_
          refine TH.only' (listed' := #[true, true, true, true, true, true, true, true, true, true, true, true, true, true, true, true, true, true, false, false]) 17 rfl (by kernel_rfl) rfl ?_
          refine TL.uset (k := 1) (i := i) rfl rfl rfl rfl rfl rfl us6sz35 (by omega) ?_
          refine TL.end_ ?_
          refine TX.held (fun _ _ => trivial) ?_
          refine TH.take (listed' := #[true, true, true, true, true, true, true, true, true, true, true, true, true, true, true, true, true, true, true, false]) 18 rfl (by kernel_rfl) (by kernel_rfl) (by kernel_rfl) rfl rfl rfl rfl (gives_at (v := .pointer (some ⟨g, a + (q - (b - a)), none⟩)) rfl rfl rfl (fun w => at_row Try.underlying31 us6sz35 g _ _ (a + (q - (b - a))) (by omega) rfl w)) (fun _ _ => trivial) ?_
          refine TH.only' (listed' := #[true, true, true, true, true, true, true, true, true, true, true, true, true, true, true, true, true, true, true, true]) 19 rfl (by kernel_rfl) rfl ?_
          refine TL.uset (k := 1) (i := a + (q - (b - a))) rfl rfl rfl rfl rfl rfl us6sz35 (by rw [List.length_set]; omega) ?_
          refine TL.end_ ?_
          refine TX.held (fun _ _ => trivial) ?_
          refine TH.done (by kernel_rfl) ?_
          refine TX.in_normal ?_
          refine TX.then_ ?_
          refine TC.region ?_
          refine TL.val rfl rfl rfl (gives_move rfl rfl) ?_
          refine TL.val rfl rfl rfl (gives_bin rfl rfl rfl (fun w => bin_add_ (r := ((i + 1 : Nat) : Int)) (by simp only [IntKind.wrap_i64]; omega) w)) ?_
          refine TL.val rfl rfl rfl (gives_assign rfl rfl) ?_
          refine TL.end_ ?_
          exact TX.round (⟨(i + 1, v, swp ys i (a + (q - (b - a)))), by dsimp only; omega, by dsimp only; omega, hP.swap (by omega) (by omega) (by omega) (by omega) (by omega), by rw [swp_len]; exact hly⟩) (by dsimp only; omega) ⟨rfl, rfl, rfl, rfl, rfl, rfl, rfl, trivial⟩ (fun w1 hw => hw)
        · refine TL.val rfl rfl rfl (pm_loadU (k := 1) (i := i) rfl rfl us6ag35 rfl (by omega)) ?_
          refine TL.end_ ?_
          refine TX.held (fun _ _ => trivial) ?_
          refine TH.only' (listed' := #[true, true, true, true, true, true, true, true, true, true, true, true, true, true, true, true, false, false, false, false]) 11 rfl (by kernel_rfl) rfl ?_
          refine TL.val rfl rfl rfl (pm_loadU (k := 1) (i := a + (q - (b - a))) rfl rfl us6ag35 rfl (by omega)) ?_
          refine TL.end_ ?_
          refine TX.held (fun _ _ => trivial) ?_
          refine TH.take (listed' := #[true, true, true, true, true, true, true, true, true, true, true, true, true, true, true, true, true, false, false, false]) 16 rfl (by kernel_rfl) (by kernel_rfl) (by kernel_rfl) rfl rfl rfl rfl (gives_at (v := .pointer (some ⟨g, i, none⟩)) rfl rfl rfl (fun w => at_row Try.underlying31 us6sz35 g _ _ i (by omega) rfl w)) (fun _ _ => trivial) ?_
          refine TH.only' (listed' := #[true, true, true, true, true, true, true, true, true, true, true, true, true, true, true, true, true, true, false, false]) 17 rfl (by kernel_rfl) rfl ?_
          refine TL.uset (k := 1) (i := i) rfl rfl rfl rfl rfl rfl us6sz35 (by omega) ?_
          refine TL.end_ ?_
          refine TX.held (fun _ _ => trivial) ?_
          refine TH.take (listed' := #[true, true, true, true, true, true, true, true, true, true, true, true, true, true, true, true, true, true, true, false]) 18 rfl (by kernel_rfl) (by kernel_rfl) (by kernel_rfl) rfl rfl rfl rfl (gives_at (v := .pointer (some ⟨g, a + (q - (b - a)), none⟩)) rfl rfl rfl (fun w => at_row Try.underlying31 us6sz35 g _ _ (a + (q - (b - a))) (by omega) rfl w)) (fun _ _ => trivial) ?_
          refine TH.only' (listed' := #[true, true, true, true, true, true, true, true, true, true, true, true, true, true, true, true, true, true, true, true]) 19 rfl (by kernel_rfl) rfl ?_
          refine TL.uset (k := 1) (i := a + (q - (b - a))) rfl rfl rfl rfl rfl rfl us6sz35 (by rw [List.length_set]; omega) ?_
          refine TL.end_ ?_
          refine TX.held (fun _ _ => trivial) ?_
          refine TH.done (by kernel_rfl) ?_
          refine TX.in_normal ?_
          refine TX.then_ ?_
          refine TC.region ?_
          refine TL.val rfl rfl rfl (gives_move rfl rfl) ?_
          refine TL.val rfl rfl rfl (gives_bin rfl rfl rfl (fun w => bin_add_ (r := ((i + 1 : Nat) : Int)) (by simp only [IntKind.wrap_i64]; omega) w)) ?_
          refine TL.val rfl rfl rfl (gives_assign rfl rfl) ?_
          refine TL.end_ ?_
          exact TX.round (⟨(i + 1, v, swp ys i (a + (q - (b - a)))), by dsimp only; omega, by dsimp only; omega, hP.swap (by omega) (by omega) (by omega) (by omega) (by omega), by rw [swp_len]; exact hly⟩) (by dsimp only; omega) ⟨rfl, rfl, rfl, rfl, rfl, rfl, rfl, trivial⟩ (fun w1 hw => hw)
      · have q43 := of_decide_eq_false h43
        refine TL.end_ ?_
        refine TX.then_ ?_
        refine TC.condF rfl ?_
        refine TC.skip_ ?_
        refine TX.then_ ?_
        refine TC.held (ls := #[false, false, false, false, false, false, false, false, false, false, false, false, false, false, false, false, false, false, false, false]) (fun _ => True) (by kernel_rfl) rfl rfl (fun w hw => hw.drawn _) ?_
        refine TH.take (listed' := #[true, false, false, false, false, false, false, false, false, false, false, false, false, false, false, false, false, false, false, false]) 0 rfl (by kernel_rfl) (by kernel_rfl) (by kernel_rfl) rfl rfl rfl rfl (gives_move rfl rfl) (fun _ _ => trivial) ?_
        refine TH.take (listed' := #[true, true, false, false, false, false, false, false, false, false, false, false, false, false, false, false, false, false, false, false]) 1 rfl (by kernel_rfl) (by kernel_rfl) (by kernel_rfl) rfl rfl rfl rfl (gives_move rfl rfl) (fun _ _ => trivial) ?_
        refine TH.take (listed' := #[true, true, true, false, false, false, false, false, false, false, false, false, false, false, false, false, false, false, false, false]) 2 rfl (by kernel_rfl) (by kernel_rfl) (by kernel_rfl) rfl rfl rfl rfl (gives_move rfl rfl) (fun _ _ => trivial) ?_
        refine TH.take (listed' := #[true, true, true, true, false, false, false, false, false, false, false, false, false, false, false, false, false, false, false, false]) 3 rfl (by kernel_rfl) (by kernel_rfl) (by kernel_rfl) rfl rfl rfl rfl (gives_move rfl rfl) (fun _ _ => trivial) ?_
        refine TH.take (listed' := #[true, true, true, true, true, false, false, false, false, false, false, false, false, false, false, false, false, false, false, false]) 4 rfl (by kernel_rfl) (by kernel_rfl) (by kernel_rfl) rfl rfl rfl rfl (gives_move rfl rfl) (fun _ _ => trivial) ?_
        refine TH.take (listed' := #[true, true, true, true, true, true, false, false, false, false, false, false, false, false, false, false, false, false, false, false]) 5 rfl (by kernel_rfl) (by kernel_rfl) (by kernel_rfl) rfl rfl rfl rfl (gives_bin rfl rfl rfl (fun w => bin_add_ (r := ((a + q : Nat) : Int)) (by simp only [IntKind.wrap_i64]; omega) w)) (fun _ _ => trivial) ?_
        refine TH.take (listed' := #[true, true, true, true, true, true, true, false, false, false, false, false, false, false, false, false, false, false, false, false]) 6 rfl (by kernel_rfl) (by kernel_rfl) (by kernel_rfl) rfl rfl rfl rfl (gives_move rfl rfl) (fun _ _ => trivial) ?_
        refine TH.take (listed' := #[true, true, true, true, true, true, true, true, false, false, false, false, false, false, false, false, false, false, false, false]) 7 rfl (by kernel_rfl) (by kernel_rfl) (by kernel_rfl) rfl rfl rfl rfl (gives_move rfl rfl) (fun _ _ => trivial) ?_
        refine TH.take (listed' := #[true, true, true, true, true, true, true, true, true, false, false, false, false, false, false, false, false, false, false, false]) 8 rfl (by kernel_rfl) (by kernel_rfl) (by kernel_rfl) rfl rfl rfl rfl (gives_move rfl rfl) (fun _ _ => trivial) ?_
        refine TH.take (listed' := #[true, true, true, true, true, true, true, true, true, true, false, false, false, false, false, false, false, false, false, false]) 9 rfl (by kernel_rfl) (by kernel_rfl) (by kernel_rfl) rfl rfl rfl rfl (gives_bin rfl rfl rfl (fun w => bin_add_ (r := ((a + q : Nat) : Int)) (by simp only [IntKind.wrap_i64]; omega) w)) (fun _ _ => trivial) ?_
        refine TH.take (listed' := #[true, true, true, true, true, true, true, true, true, true, true, false, false, false, false, false, false, false, false, false]) 10 rfl (by kernel_rfl) (by kernel_rfl) (by kernel_rfl) rfl rfl rfl rfl (gives_at (v := .pointer (some ⟨g, a + q, none⟩)) rfl rfl rfl (fun w => at_row Try.underlying31 us6sz35 g _ _ (a + q) (by omega) rfl w)) (fun _ _ => trivial) ?_
        refine TH.take (listed' := #[true, true, true, true, true, true, true, true, true, true, true, false, true, false, false, false, false, false, false, false]) 12 rfl (by kernel_rfl) (by kernel_rfl) (by kernel_rfl) rfl rfl rfl rfl (gives_move rfl rfl) (fun _ _ => trivial) ?_
        refine TH.take (listed' := #[true, true, true, true, true, true, true, true, true, true, true, false, true, true, false, false, false, false, false, false]) 13 rfl (by kernel_rfl) (by kernel_rfl) (by kernel_rfl) rfl rfl rfl rfl (gives_move rfl rfl) (fun _ _ => trivial) ?_
        refine TH.take (listed' := #[true, true, true, true, true, true, true, true, true, true, true, false, true, true, true, false, false, false, false, false]) 14 rfl (by kernel_rfl) (by kernel_rfl) (by kernel_rfl) rfl rfl rfl rfl (gives_at (v := .pointer (some ⟨g, i, none⟩)) rfl rfl rfl (fun w => at_row Try.underlying31 us6sz35 g _ _ i (by omega) rfl w)) (fun _ _ => trivial) ?_
        refine TH.two' (listed1 := #[true, true, true, true, true, true, true, true, true, true, true, true, true, true, true, false, false, false, false, false]) (listed2 := #[true, true, true, true, true, true, true, true, true, true, true, false, true, true, true, true, false, false, false, false]) 11 15 rfl rfl (by kernel_rfl) rfl rfl ?_ ?_
        · refine TL.val rfl rfl rfl (pm_loadU (k := 1) (i := a + q) rfl rfl us6ag35 rfl (by omega)) ?_
          refine TL.end_ ?_
          refine TX.held (fun _ _ => trivial) ?_
          refine TH.only' (listed' := #[true, true, true, true, true, true, true, true, true, true, true, true, true, true, true, true, false, false, false, false]) 15 rfl (by kernel_rfl) rfl ?_
          refine TL.val rfl rfl rfl (pm_loadU (k := 1) (i := i) rfl rfl us6ag35 rfl (by omega)) ?_
          refine TL.end_ ?_
          refine TX.held (fun _ _ => trivial) ?_
          refine TH.take (listed' := #[true, true, true, true, true, true, true, true, true, true, true, true, true, true, true, true, true, false, false, false]) 16 rfl (by kernel_rfl) (by kernel_rfl) (by kernel_rfl) rfl rfl rfl rfl (gives_at (v := .pointer (some ⟨g, i, none⟩)) rfl rfl rfl (fun w => at_row Try.underlying31 us6sz35 g _ _ i (by omega) rfl w)) (fun _ _ => trivial) ?_
          refine TH.only' (listed' := #[true, true, true, true, true, true, true, true, true, true, true, true, true, true, true, true, true, true, false, false]) 17 rfl (by kernel_rfl) rfl ?_
          refine TL.uset (k := 1) (i := i) rfl rfl rfl rfl rfl rfl us6sz35 (by omega) ?_
          refine TL.end_ ?_
          refine TX.held (fun _ _ => trivial) ?_
          refine TH.take (listed' := #[true, true, true, true, true, true, true, true, true, true, true, true, true, true, true, true, true, true, true, false]) 18 rfl (by kernel_rfl) (by kernel_rfl) (by kernel_rfl) rfl rfl rfl rfl (gives_at (v := .pointer (some ⟨g, a + q, none⟩)) rfl rfl rfl (fun w => at_row Try.underlying31 us6sz35 g _ _ (a + q) (by omega) rfl w)) (fun _ _ => trivial) ?_
          refine TH.only' (listed' := #[true, true, true, true, true, true, true, true, true, true, true, true, true, true, true, true, true, true, true, true]) 19 rfl (by kernel_rfl) rfl ?_
          refine TL.uset (k := 1) (i := a + q) rfl rfl rfl rfl rfl rfl us6sz35 (by rw [List.length_set]; omega) ?_
          refine TL.end_ ?_
          refine TX.held (fun _ _ => trivial) ?_
          refine TH.done (by kernel_rfl) ?_
          refine TX.in_normal ?_
          refine TX.then_ ?_
          refine TC.region ?_
          refine TL.val rfl rfl rfl (gives_move rfl rfl) ?_
          refine TL.val rfl rfl rfl (gives_bin rfl rfl rfl (fun w => bin_add_ (r := ((i + 1 : Nat) : Int)) (by simp only [IntKind.wrap_i64]; omega) w)) ?_
          refine TL.val rfl rfl rfl (gives_assign rfl rfl) ?_
          refine TL.end_ ?_
          exact TX.round (⟨(i + 1, v, swp ys i (a + q)), by dsimp only; omega, by dsimp only; omega, hP.swap (by omega) (by omega) (by omega) (by omega) (by omega), by rw [swp_len]; exact hly⟩) (by dsimp only; omega) ⟨rfl, rfl, rfl, rfl, rfl, rfl, rfl, trivial⟩ (fun w1 hw => hw)
        · refine TL.val rfl rfl rfl (pm_loadU (k := 1) (i := i) rfl rfl us6ag35 rfl (by omega)) ?_
          refine TL.end_ ?_
          refine TX.held (fun _ _ => trivial) ?_
          refine TH.only' (listed' := #[true, true, true, true, true, true, true, true, true, true, true, true, true, true, true, true, false, false, false, false]) 11 rfl (by kernel_rfl) rfl ?_
          refine TL.val rfl rfl rfl (pm_loadU (k := 1) (i := a + q) rfl rfl us6ag35 rfl (by omega)) ?_
          refine TL.end_ ?_
          refine TX.held (fun _ _ => trivial) ?_
          refine TH.take (listed' := #[true, true, true, true, true, true, true, true, true, true, true, true, true, true, true, true, true, false, false, false]) 16 rfl (by kernel_rfl) (by kernel_rfl) (by kernel_rfl) rfl rfl rfl rfl (gives_at (v := .pointer (some ⟨g, i, none⟩)) rfl rfl rfl (fun w => at_row Try.underlying31 us6sz35 g _ _ i (by omega) rfl w)) (fun _ _ => trivial) ?_
          refine TH.only' (listed' := #[true, true, true, true, true, true, true, true, true, true, true, true, true, true, true, true, true, true, false, false]) 17 rfl (by kernel_rfl) rfl ?_
          refine TL.uset (k := 1) (i := i) rfl rfl rfl rfl rfl rfl us6sz35 (by omega) ?_
          refine TL.end_ ?_
          refine TX.held (fun _ _ => trivial) ?_
          refine TH.take (listed' := #[true, true, true, true, true, true, true, true, true, true, true, true, true, true, true, true, true, true, true, false]) 18 rfl (by kernel_rfl) (by kernel_rfl) (by kernel_rfl) rfl rfl rfl rfl (gives_at (v := .pointer (some ⟨g, a + q, none⟩)) rfl rfl rfl (fun w => at_row Try.underlying31 us6sz35 g _ _ (a + q) (by omega) rfl w)) (fun _ _ => trivial) ?_
          refine TH.only' (listed' := #[true, true, true, true, true, true, true, true, true, true, true, true, true, true, true, true, true, true, true, true]) 19 rfl (by kernel_rfl) rfl ?_
          refine TL.uset (k := 1) (i := a + q) rfl rfl rfl rfl rfl rfl us6sz35 (by rw [List.length_set]; omega) ?_
          refine TL.end_ ?_
          refine TX.held (fun _ _ => trivial) ?_
          refine TH.done (by kernel_rfl) ?_
          refine TX.in_normal ?_
          refine TX.then_ ?_
          refine TC.region ?_
          refine TL.val rfl rfl rfl (gives_move rfl rfl) ?_
          refine TL.val rfl rfl rfl (gives_bin rfl rfl rfl (fun w => bin_add_ (r := ((i + 1 : Nat) : Int)) (by simp only [IntKind.wrap_i64]; omega) w)) ?_
          refine TL.val rfl rfl rfl (gives_assign rfl rfl) ?_
          refine TL.end_ ?_
          exact TX.round (⟨(i + 1, v, swp ys i (a + q)), by dsimp only; omega, by dsimp only; omega, hP.swap (by omega) (by omega) (by omega) (by omega) (by omega), by rw [swp_len]; exact hly⟩) (by dsimp only; omega) ⟨rfl, rfl, rfl, rfl, rfl, rfl, rfl, trivial⟩ (fun w1 hw => hw)
    · have q33 := of_decide_eq_false h33
      refine TL.end_ ?_
      refine TX.then_ ?_
      refine TC.condF rfl ?_
      refine TC.exit_ ?_
      refine TX.then_exit ?_
      refine TX.then_exit ?_
      refine TX.in_same ?_
      exact end_none Try.results64 (fun w1 hw => ⟨(), ys, rfl, hP, pm_rowAt hw (k := 1) rfl, hw.mapEnd (fun q hq => by simp [hq])⟩)
  · have q15 := of_decide_eq_false h15
    refine TL.end_ ?_
    refine TX.then_ ?_
    refine TC.condF rfl ?_
    refine TC.skip_ ?_
    exact end_none Try.results64 (fun w1 hw => ⟨(), xs, rfl, Pin.refl _ _ _, pm_rowAt hw (k := 0) rfl, hw.mapEnd (fun q hq => by simp [hq])⟩)
end Go.Proofs.Ytleckflmckbheaa

namespace Go.Proofs.Ytleckflmckbheaa
open Go.RowKit
set_option linter.unusedVariables false
set_option linter.unusedSimpArgs false
set_option maxRecDepth 20000
theorem Rw.lt {e : TypeId} {w : World} {g n c : Nat} {xs : List Int} (h : Rw e w g n c xs) : g < w.heap.size := by
  obtain ⟨⟨o, ho⟩, _⟩ := h.obj
  exact (Array.getElem?_eq_some_iff.1 ho).1
theorem Rw.cell {e : TypeId} {w : World} {g n c : Nat} {xs : List Int} (h : Rw e w g n c xs) {i : Nat} (hi : i < n) : w.cell? ⟨g, i, none⟩ = some (.int .u32 (dx xs i)) :=
  pm_row (Pm.rowStart h) (k := 0) rfl (uv_at (by rw [h.len]; exact hi))
theorem us7sz35 (w : World) : (sizeOf 35).run Try.prog w = .ok 1 w := rfl
theorem us7ag35 (w : World) : (isAgg 35).run Try.prog w = .ok false w := rfl
theorem us7nm68 : (Try.f68.name == "runtime.NumGoroutine") = false := by decide
theorem us7bd68 : Try.f68.body.isNone = false := rfl
theorem us7ag3 (w : World) : (isAgg 3).run Try.prog w = .ok false w := rfl
theorem us7sz3 (w : World) : (sizeOf 3).run Try.prog w = .ok 1 w := rfl
theorem us7one_i64 {a0 : Int} : ∀ u ∈ [(.int .i64 a0 : Value)], u.oneCell' = true := by
  intro u hu
  rw [List.mem_singleton] at hu
  subst hu; rfl
theorem us7nm79 : (Try.f79.name == "runtime.NumGoroutine") = false := by decide
theorem us7bd79 : Try.f79.body.isNone = false := rfl
theorem us7nm77 : (Try.f77.name == "runtime.NumGoroutine") = false := by decide
theorem us7bd77 : Try.f77.body.isNone = false := rfl
theorem us7zv3 (w : World) : (zeroValue 3).run Try.prog w = .ok (.int .i64 0) w := rfl
theorem us7nm76 : (Try.f76.name == "runtime.NumGoroutine") = false := by decide
theorem us7bd76 : Try.f76.body.isNone = false := rfl
set_option maxHeartbeats 1000000 in
theorem order2_any (g n c : Nat) (xs : List Int) (w : World) (hd : ∀ i, i < n → w.cell? ⟨g, i, none⟩ = some (.int .u32 (dx xs i))) (hn : n ≤ 1000000) (a b lo hi : Nat) (ha : lo ≤ a ∧ a < hi) (hb : lo ≤ b ∧ b < hi) (hh : hi ≤ n) (gs : Nat) (s : Int) (hg : g < gs) (hs : Blk w gs 3 [.int .i64 s].toArray) :
    Calls Try.prog 79 #[.slice (some ⟨g, 0, none⟩) n c, .int .i64 ((a : Nat) : Int), .int .i64 ((b : Nat) : Int), .pointer (some ⟨gs, 0, none⟩)] w fun en w' => ∃ x : {y : Nat × Nat × Int // lo ≤ y.1 ∧ y.1 < hi ∧ lo ≤ y.2.1 ∧ y.2.1 < hi}, en = .returned (.tuple #[.int .i64 ((x.1.1 : Nat) : Int), .int .i64 ((x.1.2.1 : Nat) : Int)]) ∧ Chg gs 3 [.int .i64 x.1.2.2] w [] w' := by
  refine begin_ (vs := [.slice (some ⟨g, 0, none⟩) n c, .int .i64 ((a : Nat) : Int), .int .i64 ((b : Nat) : Int), .pointer (some ⟨gs, 0, none⟩)]) (I := Pm ⟨w, gs⟩ (.blk gs 3 [.int .i64 s] :: oths gs w)) Try.func79 rfl rfl rfl ?_ (Pm.atBlk hs)
  refine TC.seq_ ?_
  refine TC.region ?_
  refine TL.val rfl rfl rfl (gives_assign rfl rfl) ?_
  refine TL.val rfl rfl rfl (gives_assign rfl rfl) ?_
  refine TL.end_ ?_
  refine TX.then_ ?_
  refine TC.seq_ ?_
  refine TC.seq_ ?_
  rcases Classical.em (dx xs b < dx xs a) with p1 | p1
  · refine TC.quiet_ (E' := ?_) (by kernel_rfl) (by kernel_rfl) (fun w hw => hw.drawn _) ?_ ?_
    rotate_left
    · refine TQ.val rfl rfl rfl (gives_move rfl rfl) ?_
      refine TQ.val rfl rfl rfl (gives_move rfl rfl) ?_
      refine TQ.val rfl rfl rfl (gives_at (v := .pointer (some ⟨g, b, none⟩)) rfl rfl rfl (fun w => at_row Try.underlying31 us7sz35 g _ _ b (by omega) rfl w)) ?_
      refine TQ.val rfl rfl rfl (gives_load (v := .int .u32 (dx xs b)) rfl rfl us7ag35 (fun w1 hw => (hw.bel.cell hg).trans (hd b (by omega)))) ?_
      refine TQ.val rfl rfl rfl (gives_move rfl rfl) ?_
      refine TQ.val rfl rfl rfl (gives_move rfl rfl) ?_
      refine TQ.val rfl rfl rfl (gives_at (v := .pointer (some ⟨g, a, none⟩)) rfl rfl rfl (fun w => at_row Try.underlying31 us7sz35 g _ _ a (by omega) rfl w)) ?_
      refine TQ.val rfl rfl rfl (gives_load (v := .int .u32 (dx xs a)) rfl rfl us7ag35 (fun w1 hw => (hw.bel.cell hg).trans (hd a (by omega)))) ?_
      refine TQ.call (v := .bool true) rfl rfl rfl rfl rfl Try.func68 us7nm68 us7bd68 (fun w1 hw => (less_t _ _ p1 w1).mono fun en w2 ⟨h1, h2⟩ => ⟨h1, hw.below h2⟩) ?_
      exact TQ.end_
    refine TX.then_ ?_
    refine TC.condT rfl ?_
    refine TC.seq_ ?_
    refine TC.region ?_
    refine TL.val rfl rfl rfl (gives_move rfl rfl) ?_
    refine TL.val rfl rfl rfl (gives_nilCheck rfl rfl) ?_
    refine TL.val rfl rfl rfl (pm_load (k := 0) (i := 0) rfl rfl us7ag3 rfl rfl) ?_
    refine TL.val rfl rfl rfl (gives_bin rfl rfl rfl (fun w => bin_add_ (r := IntKind.i64.wrap (s + 1)) (rfl) w)) ?_
    refine TL.val rfl rfl rfl (gives_nilCheck rfl rfl) ?_
    refine TL.pstore (k := 0) (vs := [.int .i64 (IntKind.i64.wrap (s + 1))]) rfl rfl rfl rfl rfl rfl rfl us7sz3 us7one_i64 (by show 1 ≤ 1; decide) (L' := ([.blk gs 3 [.int .i64 (IntKind.i64.wrap (s + 1))]] ++ oths gs w)) rfl ?_
    refine TL.end_ ?_
    refine TX.then_ ?_
    refine TC.seq_ ?_
    refine TC.region ?_
    refine TL.val rfl rfl rfl (gives_move rfl rfl) ?_
    refine TL.val rfl rfl rfl (gives_move rfl rfl) ?_
    refine TL.val rfl rfl rfl (gives_assign rfl rfl) ?_
    refine TL.val rfl rfl rfl (gives_assign rfl rfl) ?_
    refine TL.end_ ?_
    refine TX.then_ ?_
    refine TC.ret_ ?_
    refine TX.then_ret ?_
    exact ret_pair Try.results79 rfl rfl (fun w1 hw => ⟨⟨(b, a, IntKind.i64.wrap (s + 1)), by dsimp only; omega⟩, rfl, Pm.chg [] hw rfl⟩)
  · refine TC.quiet_ (E' := ?_) (by kernel_rfl) (by kernel_rfl) (fun w hw => hw.drawn _) ?_ ?_
    rotate_left
    · refine TQ.val rfl rfl rfl (gives_move rfl rfl) ?_
      refine TQ.val rfl rfl rfl (gives_move rfl rfl) ?_
      refine TQ.val rfl rfl rfl (gives_at (v := .pointer (some ⟨g, b, none⟩)) rfl rfl rfl (fun w => at_row Try.underlying31 us7sz35 g _ _ b (by omega) rfl w)) ?_
      refine TQ.val rfl rfl rfl (gives_load (v := .int .u32 (dx xs b)) rfl rfl us7ag35 (fun w1 hw => (hw.bel.cell hg).trans (hd b (by omega)))) ?_
      refine TQ.val rfl rfl rfl (gives_move rfl rfl) ?_
      refine TQ.val rfl rfl rfl (gives_move rfl rfl) ?_
      refine TQ.val rfl rfl rfl (gives_at (v := .pointer (some ⟨g, a, none⟩)) rfl rfl rfl (fun w => at_row Try.underlying31 us7sz35 g _ _ a (by omega) rfl w)) ?_
      refine TQ.val rfl rfl rfl (gives_load (v := .int .u32 (dx xs a)) rfl rfl us7ag35 (fun w1 hw => (hw.bel.cell hg).trans (hd a (by omega)))) ?_
      refine TQ.call (v := .bool false) rfl rfl rfl rfl rfl Try.func68 us7nm68 us7bd68 (fun w1 hw => (less_f _ _ p1 w1).mono fun en w2 ⟨h1, h2⟩ => ⟨h1, hw.below h2⟩) ?_
      exact TQ.end_
    refine TX.then_ ?_
    refine TC.condF rfl ?_
    refine TC.skip_ ?_
    refine TX.then_ ?_
    refine TC.seq_ ?_
    refine TC.region ?_
    refine TL.val rfl rfl rfl (gives_move rfl rfl) ?_
    refine TL.val rfl rfl rfl (gives_move rfl rfl) ?_
    refine TL.val rfl rfl rfl (gives_assign rfl rfl) ?_
    refine TL.val rfl rfl rfl (gives_assign rfl rfl) ?_
    refine TL.end_ ?_
    refine TX.then_ ?_
    refine TC.ret_ ?_
    exact ret_pair Try.results79 rfl rfl (fun w1 hw => ⟨⟨(a, b, s), by dsimp only; omega⟩, rfl, Pm.chg [] hw rfl⟩)
set_option maxHeartbeats 1000000 in
theorem med_any (g n c : Nat) (xs : List Int) (w : World) (hd : ∀ i, i < n → w.cell? ⟨g, i, none⟩ = some (.int .u32 (dx xs i))) (hn : n ≤ 1000000) (a b e lo hi : Nat) (ha : lo ≤ a ∧ a < hi) (hb : lo ≤ b ∧ b < hi) (he : lo ≤ e ∧ e < hi) (hh : hi ≤ n) (gs : Nat) (s : Int) (hg : g < gs) (hs : Blk w gs 3 [.int .i64 s].toArray) :
    Calls Try.prog 77 #[.slice (some ⟨g, 0, none⟩) n c, .int .i64 ((a : Nat) : Int), .int .i64 ((b : Nat) : Int), .int .i64 ((e : Nat) : Int), .pointer (some ⟨gs, 0, none⟩)] w fun en w' => ∃ x : {y : Nat × Nat × Int // lo ≤ y.1 ∧ y.1 < hi ∧ lo ≤ y.2.1 ∧ y.2.1 < hi}, en = .returned (.int .i64 ((x.1.1 : Nat) : Int)) ∧ Chg gs 3 [.int .i64 x.1.2.2] w [] w' := by
  refine begin_ (vs := [.slice (some ⟨g, 0, none⟩) n c, .int .i64 ((a : Nat) : Int), .int .i64 ((b : Nat) : Int), .int .i64 ((e : Nat) : Int), .pointer (some ⟨gs, 0, none⟩)]) (I := Pm ⟨w, gs⟩ (.blk gs 3 [.int .i64 s] :: oths gs w)) Try.func77 rfl rfl rfl ?_ (Pm.atBlk hs)
  refine TC.seq_ ?_
  refine TC.region ?_
  refine TL.val rfl rfl rfl (gives_assign rfl rfl) ?_
  refine TL.end_ ?_
  refine TX.then_ ?_
  refine TC.seq_ ?_
  refine TC.region ?_
  refine TL.val rfl rfl rfl (gives_move rfl rfl) ?_
  refine TL.val rfl rfl rfl (gives_move rfl rfl) ?_
  refine TL.val rfl rfl rfl (gives_move rfl rfl) ?_
  refine TL.val rfl rfl rfl (gives_move rfl rfl) ?_
  refine TL.pcallChg (k := 0) (α := {y : Nat × Nat × Int // lo ≤ y.1 ∧ y.1 < hi ∧ lo ≤ y.2.1 ∧ y.2.1 < hi}) (fun y => .tuple #[.int .i64 ((y.1.1 : Nat) : Int), .int .i64 ((y.1.2.1 : Nat) : Int)]) (fun y => [.int .i64 y.1.2.2]) (fun y => []) rfl rfl rfl rfl rfl Try.func79 us7nm79 us7bd79 rfl (fun w1 hw => order2_any g n c xs w1 (fun i hi => (hw.bel.cell hg).trans (hd i hi)) hn a b lo hi (by omega) (by omega) hh gs _ hg (hw.at_ (k := 0) rfl).1) ?_
  rintro ⟨⟨a1, b1, s1⟩, hx1⟩
  dsimp only [List.cons_append, List.nil_append, List.set]
  dsimp only at hx1
  refine TL.val rfl rfl rfl (gives_move rfl rfl) ?_
  refine TL.val rfl rfl rfl (gives_extract rfl rfl rfl) ?_
  refine TL.val rfl rfl rfl (gives_extract rfl rfl rfl) ?_
  refine TL.val rfl rfl rfl (gives_assign rfl rfl) ?_
  refine TL.val rfl rfl rfl (gives_assign rfl rfl) ?_
  refine TL.end_ ?_
  refine TX.then_ ?_
  refine TC.seq_ ?_
  refine TC.region ?_
  refine TL.val rfl rfl rfl (gives_move rfl rfl) ?_
  refine TL.val rfl rfl rfl (gives_move rfl rfl) ?_
  refine TL.val rfl rfl rfl (gives_move rfl rfl) ?_
  refine TL.val rfl rfl rfl (gives_move rfl rfl) ?_
  refine TL.pcallChg (k := 0) (α := {y : Nat × Nat × Int // lo ≤ y.1 ∧ y.1 < hi ∧ lo ≤ y.2.1 ∧ y.2.1 < hi}) (fun y => .tuple #[.int .i64 ((y.1.1 : Nat) : Int), .int .i64 ((y.1.2.1 : Nat) : Int)]) (fun y => [.int .i64 y.1.2.2]) (fun y => []) rfl rfl rfl rfl rfl Try.func79 us7nm79 us7bd79 rfl (fun w1 hw => order2_any g n c xs w1 (fun i hi => (hw.bel.cell hg).trans (hd i hi)) hn b1 e lo hi (by omega) (by omega) hh gs _ hg (hw.at_ (k := 0) rfl).1) ?_
  rintro ⟨⟨b2, c2, s2⟩, hx2⟩
  dsimp only [List.cons_append, List.nil_append, List.set]
  dsimp only at hx2
  refine TL.val rfl rfl rfl (gives_move rfl rfl) ?_
  refine TL.val rfl rfl rfl (gives_extract rfl rfl rfl) ?_
  refine TL.val rfl rfl rfl (gives_extract rfl rfl rfl) ?_
  refine TL.val rfl rfl rfl (gives_assign rfl rfl) ?_
  refine TL.val rfl rfl rfl (gives_assign rfl rfl) ?_
  refine TL.end_ ?_
  refine TX.then_ ?_
  refine TC.seq_ ?_
  refine TC.region ?_
  refine TL.val rfl rfl rfl (gives_move rfl rfl) ?_
  refine TL.val rfl rfl rfl (gives_move rfl rfl) ?_
  refine TL.val rfl rfl rfl (gives_move rfl rfl) ?_
  refine TL.val rfl rfl rfl (gives_move rfl rfl) ?_
  refine TL.pcallChg (k := 0) (α := {y : Nat × Nat × Int // lo ≤ y.1 ∧ y.1 < hi ∧ lo ≤ y.2.1 ∧ y.2.1 < hi}) (fun y => .tuple #[.int .i64 ((y.1.1 : Nat) : Int), .int .i64 ((y.1.2.1 : Nat) : Int)]) (fun y => [.int .i64 y.1.2.2]) (fun y => []) rfl rfl rfl rfl rfl Try.func79 us7nm79 us7bd79 rfl (fun w1 hw => order2_any g n c xs w1 (fun i hi => (hw.bel.cell hg).trans (hd i hi)) hn a1 b2 lo hi (by omega) (by omega) hh gs _ hg (hw.at_ (k := 0) rfl).1) ?_
  rintro ⟨⟨a3, b3, s3⟩, hx3⟩
  dsimp only [List.cons_append, List.nil_append, List.set]
  dsimp only at hx3
  refine TL.val rfl rfl rfl (gives_move rfl rfl) ?_
  refine TL.val rfl rfl rfl (gives_extract rfl rfl rfl) ?_
  refine TL.val rfl rfl rfl (gives_extract rfl rfl rfl) ?_
  refine TL.val rfl rfl rfl (gives_assign rfl rfl) ?_
  refine TL.val rfl rfl rfl (gives_assign rfl rfl) ?_
  refine TL.end_ ?_
  refine TX.then_ ?_
  refine TC.seq_ ?_
  refine TC.region ?_
  refine TL.val rfl rfl rfl (gives_move rfl rfl) ?_
  refine TL.val rfl rfl rfl (gives_assign rfl rfl) ?_
  refine TL.end_ ?_
  refine TX.then_ ?_
  refine TC.ret_ ?_
  exact ret_tmp Try.results77 rfl (fun w1 hw => ⟨⟨(b3, b3, s3), by dsimp only; omega⟩, rfl, Pm.chg [] hw rfl⟩)
set_option maxHeartbeats 1000000 in
theorem madj_any (g n c : Nat) (xs : List Int) (w : World) (hd : ∀ i, i < n → w.cell? ⟨g, i, none⟩ = some (.int .u32 (dx xs i))) (hn : n ≤ 1000000) (a lo hi : Nat) (ha : lo < a ∧ a + 1 < hi) (hh : hi ≤ n) (gs : Nat) (s : Int) (hg : g < gs) (hs : Blk w gs 3 [.int .i64 s].toArray) :
    Calls Try.prog 76 #[.slice (some ⟨g, 0, none⟩) n c, .int .i64 ((a : Nat) : Int), .pointer (some ⟨gs, 0, none⟩)] w fun en w' => ∃ x : {y : Nat × Nat × Int // lo ≤ y.1 ∧ y.1 < hi ∧ lo ≤ y.2.1 ∧ y.2.1 < hi}, en = .returned (.int .i64 ((x.1.1 : Nat) : Int)) ∧ Chg gs 3 [.int .i64 x.1.2.2] w [] w' := by
  refine begin_ (vs := [.slice (some ⟨g, 0, none⟩) n c, .int .i64 ((a : Nat) : Int), .pointer (some ⟨gs, 0, none⟩)]) (I := Pm ⟨w, gs⟩ (.blk gs 3 [.int .i64 s] :: oths gs w)) Try.func76 rfl rfl rfl ?_ (Pm.atBlk hs)
  refine TC.seq_ ?_
  refine TC.region ?_
  refine TL.val rfl rfl rfl (gives_assign rfl rfl) ?_
  refine TL.end_ ?_
  refine TX.then_ ?_
  refine TC.seq_ ?_
  refine TC.region ?_
  refine TL.val rfl rfl rfl (gives_move rfl rfl) ?_
  refine TL.val rfl rfl rfl (gives_move rfl rfl) ?_
  refine TL.val rfl rfl rfl (gives_bin rfl rfl rfl (fun w => bin_sub_ (r := ((a - 1 : Nat) : Int)) (by simp only [IntKind.wrap_i64]; omega) w)) ?_
  refine TL.val rfl rfl rfl (gives_move rfl rfl) ?_
  refine TL.val rfl rfl rfl (gives_move rfl rfl) ?_
  refine TL.val rfl rfl rfl (gives_bin rfl rfl rfl (fun w => bin_add_ (r := ((a + 1 : Nat) : Int)) (by simp only [IntKind.wrap_i64]; omega) w)) ?_
  refine TL.val rfl rfl rfl (gives_move rfl rfl) ?_
  refine TL.pcallChg (k := 0) (α := {y : Nat × Nat × Int // lo ≤ y.1 ∧ y.1 < hi ∧ lo ≤ y.2.1 ∧ y.2.1 < hi}) (fun y => .int .i64 ((y.1.1 : Nat) : Int)) (fun y => [.int .i64 y.1.2.2]) (fun y => []) rfl rfl rfl rfl rfl Try.func77 us7nm77 us7bd77 rfl (fun w1 hw => med_any g n c xs w1 (fun i hi => (hw.bel.cell hg).trans (hd i hi)) hn (a - 1) a (a + 1) lo hi (by omega) (by omega) (by omega) (by omega) gs _ hg (hw.at_ (k := 0) rfl).1) ?_
  rintro ⟨⟨m, zm, sm⟩, hxm⟩
  dsimp only [List.cons_append, List.nil_append, List.set]
  dsimp only at hxm
  refine TL.val rfl rfl rfl (gives_assign rfl rfl) ?_
  refine TL.end_ ?_
  refine TX.then_ ?_
  refine TC.ret_ ?_
  exact ret_tmp Try.results76 rfl (fun w1 hw => ⟨⟨(m, m, sm), by dsimp only; omega⟩, rfl, Pm.chg [] hw rfl⟩)
set_option maxHeartbeats 1000000 in
theorem cho_any (g n c : Nat) (xs : List Int) (w : World) (h : Rw 35 w g n c xs) (hn : n ≤ 1000000) (a b : Nat) (hab : a + 12 < b) (hb : b ≤ n) :
    Calls Try.prog 65 #[.slice (some ⟨g, 0, none⟩) n c, .int .i64 ((a : Nat) : Int), .int .i64 ((b : Nat) : Int)] w fun en w' => ∃ x : {y : Nat × Int // a ≤ y.1 ∧ y.1 < b}, en = .returned (.tuple #[.int .i64 ((x.1.1 : Nat) : Int), .int .i64 x.1.2]) ∧ Below w.heap.size w w' := by
  have hg0 := h.lt
  have hd : ∀ i, i < n → w.cell? ⟨g, i, none⟩ = some (.int .u32 (dx xs i)) := fun i hi => h.cell hi
  refine begin_ (vs := [.slice (some ⟨g, 0, none⟩) n c, .int .i64 ((a : Nat) : Int), .int .i64 ((b : Nat) : Int)]) Try.func65 rfl rfl rfl ?_ (Pm.start w)
  refine TC.seq_ ?_
  refine TC.region ?_
  refine TL.val rfl rfl rfl (gives_assign rfl rfl) ?_
  refine TL.val rfl rfl rfl (gives_assign rfl rfl) ?_
  refine TL.end_ ?_
  refine TX.then_ ?_
  refine TC.seq_ ?_
  refine TC.region ?_
  refine TL.val rfl rfl rfl (gives_move rfl rfl) ?_
  refine TL.val rfl rfl rfl (gives_move rfl rfl) ?_
  refine TL.val rfl rfl rfl (gives_bin rfl rfl rfl (fun w => bin_sub_ (r := ((b - a : Nat) : Int)) (by simp only [IntKind.wrap_i64]; omega) w)) ?_
  refine TL.val rfl rfl rfl (gives_assign rfl rfl) ?_
  refine TL.end_ ?_
  refine TX.then_ ?_
  refine TC.seq_ ?_
  refine TC.region ?_
  refine TL.pnew rfl rfl rfl (exec_alloc (cs := [.int .i64 0]) rfl us7zv3 rfl) (fun g9 => ?_)
  refine TL.end_ ?_
  refine TX.then_ ?_
  refine TC.seq_ ?_
  refine TC.region ?_
  refine TL.val rfl rfl rfl (gives_move rfl rfl) ?_
  refine TL.val rfl rfl rfl (gives_move rfl rfl) ?_
  refine TL.val rfl rfl rfl (gives_bin rfl rfl rfl (fun w => bin_quoi_ (r := (((b - a) / 4 : Nat) : Int)) (by omega) (by omega) (by omega) (by omega) w)) ?_
  refine TL.val rfl rfl rfl (gives_bin rfl rfl rfl (fun w => bin_mul_ (r := (((b - a) / 4 : Nat) : Int)) (by simp only [IntKind.wrap_i64]; omega) w)) ?_
  refine TL.val rfl rfl rfl (gives_bin rfl rfl rfl (fun w => bin_add_ (r := ((a + ((b - a) / 4) : Nat) : Int)) (by simp only [IntKind.wrap_i64]; omega) w)) ?_
  refine TL.val rfl rfl rfl (gives_assign rfl rfl) ?_
  refine TL.end_ ?_
  refine TX.then_ ?_
  refine TC.seq_ ?_
  refine TC.region ?_
  refine TL.val rfl rfl rfl (gives_move rfl rfl) ?_
  refine TL.val rfl rfl rfl (gives_move rfl rfl) ?_
  refine TL.val rfl rfl rfl (gives_bin rfl rfl rfl (fun w => bin_quoi_ (r := (((b - a) / 4 : Nat) : Int)) (by omega) (by omega) (by omega) (by omega) w)) ?_
  refine TL.val rfl rfl rfl (gives_bin rfl rfl rfl (fun w => bin_mul_ (r := ((((b - a) / 4) * 2 : Nat) : Int)) (by simp only [IntKind.wrap_i64]; omega) w)) ?_
  refine TL.val rfl rfl rfl (gives_bin rfl rfl rfl (fun w => bin_add_ (r := ((a + (((b - a) / 4) * 2) : Nat) : Int)) (by simp only [IntKind.wrap_i64]; omega) w)) ?_
  refine TL.val rfl rfl rfl (gives_assign rfl rfl) ?_
  refine TL.end_ ?_
  refine TX.then_ ?_
  refine TC.seq_ ?_
  refine TC.region ?_
  refine TL.val rfl rfl rfl (gives_move rfl rfl) ?_
  refine TL.val rfl rfl rfl (gives_move rfl rfl) ?_
  refine TL.val rfl rfl rfl (gives_bin rfl rfl rfl (fun w => bin_quoi_ (r := (((b - a) / 4 : Nat) : Int)) (by omega) (by omega) (by omega) (by omega) w)) ?_
  refine TL.val rfl rfl rfl (gives_bin rfl rfl rfl (fun w => bin_mul_ (r := ((((b - a) / 4) * 3 : Nat) : Int)) (by simp only [IntKind.wrap_i64]; omega) w)) ?_
  refine TL.val rfl rfl rfl (gives_bin rfl rfl rfl (fun w => bin_add_ (r := ((a + (((b - a) / 4) * 3) : Nat) : Int)) (by simp only [IntKind.wrap_i64]; omega) w)) ?_
  refine TL.val rfl rfl rfl (gives_assign rfl rfl) ?_
  refine TL.end_ ?_
  refine TX.then_ ?_
  refine TC.seq_ ?_
  refine TC.seq_ ?_
  refine TC.region ?_
  refine TL.val rfl rfl rfl (gives_move rfl rfl) ?_
  refine TL.val rfl rfl rfl (gives_bin rfl rfl rfl (fun w => bin_geq_t (by omega) w)) ?_
  refine TL.end_ ?_
  refine TX.then_ ?_
  refine TC.condT rfl ?_
  refine TC.seq_ ?_
  refine TC.seq_ ?_
  refine TC.region ?_
  refine TL.val rfl rfl rfl (gives_move rfl rfl) ?_
  refine TL.vsplit rfl rfl rfl (gives_bin rfl rfl rfl (fun w => bin_geq w)) (fun h34 => ?_) (fun h34 => ?_)
  · have q34 := of_decide_eq_true h34
    refine TL.end_ ?_
    refine TX.then_ ?_
    refine TC.condT rfl ?_
    refine TC.seq_ ?_
    refine TC.region ?_
    refine TL.val rfl rfl rfl (gives_move rfl rfl) ?_
    refine TL.val rfl rfl rfl (gives_move rfl rfl) ?_
    refine TL.pcallChg (k := 0) (α := {y : Nat × Nat × Int // a ≤ y.1 ∧ y.1 < b ∧ a ≤ y.2.1 ∧ y.2.1 < b}) (fun y => .int .i64 ((y.1.1 : Nat) : Int)) (fun y => [.int .i64 y.1.2.2]) (fun y => []) rfl rfl rfl rfl rfl Try.func76 us7nm76 us7bd76 rfl (fun w1 hw => madj_any g n c xs w1 (fun i hi => (hw.bel.cell hg0).trans (hd i hi)) hn (a + ((b - a) / 4)) a b (by omega) hb g9 _ (Nat.lt_of_lt_of_le hg0 (hw.at_ (k := 0) rfl).2) (hw.at_ (k := 0) rfl).1) ?_
    rintro ⟨⟨i2, zi2, si2⟩, hxi2⟩
    dsimp only [List.cons_append, List.nil_append, List.set]
    dsimp only at hxi2
    refine TL.val rfl rfl rfl (gives_assign rfl rfl) ?_
    refine TL.end_ ?_
    refine TX.then_ ?_
    refine TC.seq_ ?_
    refine TC.region ?_
    refine TL.val rfl rfl rfl (gives_move rfl rfl) ?_
    refine TL.val rfl rfl rfl (gives_move rfl rfl) ?_
    refine TL.pcallChg (k := 0) (α := {y : Nat × Nat × Int // a ≤ y.1 ∧ y.1 < b ∧ a ≤ y.2.1 ∧ y.2.1 < b}) (fun y => .int .i64 ((y.1.1 : Nat) : Int)) (fun y => [.int .i64 y.1.2.2]) (fun y => []) rfl rfl rfl rfl rfl Try.func76 us7nm76 us7bd76 rfl (fun w1 hw => madj_any g n c xs w1 (fun i hi => (hw.bel.cell hg0).trans (hd i hi)) hn (a + (((b - a) / 4) * 2)) a b (by omega) hb g9 _ (Nat.lt_of_lt_of_le hg0 (hw.at_ (k := 0) rfl).2) (hw.at_ (k := 0) rfl).1) ?_
    rintro ⟨⟨j2, zj2, sj2⟩, hxj2⟩
    dsimp only [List.cons_append, List.nil_append, List.set]
    dsimp only at hxj2
    refine TL.val rfl rfl rfl (gives_assign rfl rfl) ?_
    refine TL.end_ ?_
    refine TX.then_ ?_
    refine TC.region ?_
    refine TL.val rfl rfl rfl (gives_move rfl rfl) ?_
    refine TL.val rfl rfl rfl (gives_move rfl rfl) ?_
    refine TL.pcallChg (k := 0) (α := {y : Nat × Nat × Int // a ≤ y.1 ∧ y.1 < b ∧ a ≤ y.2.1 ∧ y.2.1 < b}) (fun y => .int .i64 ((y.1.1 : Nat) : Int)) (fun y => [.int .i64 y.1.2.2]) (fun y => []) rfl rfl rfl rfl rfl Try.func76 us7nm76 us7bd76 rfl (fun w1 hw => madj_any g n c xs w1 (fun i hi => (hw.bel.cell hg0).trans (hd i hi)) hn (a + (((b - a) / 4) * 3)) a b (by omega) hb g9 _ (Nat.lt_of_lt_of_le hg0 (hw.at_ (k := 0) rfl).2) (hw.at_ (k := 0) rfl).1) ?_
    rintro ⟨⟨k2, zk2, sk2⟩, hxk2⟩
    dsimp only [List.cons_append, List.nil_append, List.set]
    dsimp only at hxk2
    refine TL.val rfl rfl rfl (gives_assign rfl rfl) ?_
    refine TL.end_ ?_
    refine TX.then_ ?_
    refine TC.region ?_
    refine TL.val rfl rfl rfl (gives_move rfl rfl) ?_
    refine TL.val rfl rfl rfl (gives_move rfl rfl) ?_
    refine TL.val rfl rfl rfl (gives_move rfl rfl) ?_
    refine TL.val rfl rfl rfl (gives_move rfl rfl) ?_
    refine TL.pcallChg (k := 0) (α := {y : Nat × Nat × Int // a ≤ y.1 ∧ y.1 < b ∧ a ≤ y.2.1 ∧ y.2.1 < b}) (fun y => .int .i64 ((y.1.1 : Nat) : Int)) (fun y => [.int .i64 y.1.2.2]) (fun y => []) rfl rfl rfl rfl rfl Try.func77 us7nm77 us7bd77 rfl (fun w1 hw => med_any g n c xs w1 (fun i hi => (hw.bel.cell hg0).trans (hd i hi)) hn i2 j2 k2 a b (by omega) (by omega) (by omega) (by omega) g9 _ (Nat.lt_of_lt_of_le hg0 (hw.at_ (k := 0) rfl).2) (hw.at_ (k := 0) rfl).1) ?_
    rintro ⟨⟨pv, zpv, spv⟩, hxpv⟩
    dsimp only [List.cons_append, List.nil_append, List.set]
    dsimp only at hxpv
    refine TL.val rfl rfl rfl (gives_assign rfl rfl) ?_
    refine TL.end_ ?_
    refine TX.then_ ?_
    refine TC.seq_ ?_
    refine TC.region ?_
    refine TL.val rfl rfl rfl (pm_load (k := 0) (i := 0) rfl rfl us7ag3 rfl rfl) ?_
    refine TL.end_ ?_
    refine TX.then_ ?_
    refine TC.block ?_
    refine TC.seq_ ?_
    refine TC.region ?_
    refine TL.vsplit rfl rfl rfl (gives_bin rfl rfl rfl (fun w => bin_eql w)) (fun h52 => ?_) (fun h52 => ?_)
    · have q52 := of_decide_eq_true h52
      refine TL.val rfl rfl rfl (gives_assign rfl rfl) ?_
      refine TL.end_ ?_
      refine TX.then_ ?_
      refine TC.condT rfl ?_
      refine TC.seq_ ?_
      refine TC.region ?_
      refine TL.val rfl rfl rfl (gives_move rfl rfl) ?_
      refine TL.val rfl rfl rfl (gives_assign rfl rfl) ?_
      refine TL.val rfl rfl rfl (gives_assign rfl rfl) ?_
      refine TL.end_ ?_
      refine TX.then_ ?_
      refine TC.ret_ ?_
      refine TX.in_ret ?_
      exact ret_pair Try.results65 rfl rfl (fun w1 hw => ⟨⟨(pv, 1), by dsimp only; omega⟩, rfl, hw.bel⟩)
    · have q52 := of_decide_eq_false h52
      refine TL.val rfl rfl rfl (gives_assign rfl rfl) ?_
      refine TL.end_ ?_
      refine TX.then_ ?_
      refine TC.condF rfl ?_
      refine TC.seq_ ?_
      refine TC.region ?_
      refine TL.vsplit rfl rfl rfl (gives_bin rfl rfl rfl (fun w => bin_eql w)) (fun h55 => ?_) (fun h55 => ?_)
      · have q55 := of_decide_eq_true h55
        refine TL.val rfl rfl rfl (gives_assign rfl rfl) ?_
        refine TL.end_ ?_
        refine TX.then_ ?_
        refine TC.condT rfl ?_
        refine TC.seq_ ?_
        refine TC.region ?_
        refine TL.val rfl rfl rfl (gives_move rfl rfl) ?_
        refine TL.val rfl rfl rfl (gives_assign rfl rfl) ?_
        refine TL.val rfl rfl rfl (gives_assign rfl rfl) ?_
        refine TL.end_ ?_
        refine TX.then_ ?_
        refine TC.ret_ ?_
        refine TX.in_ret ?_
        exact ret_pair Try.results65 rfl rfl (fun w1 hw => ⟨⟨(pv, 2), by dsimp only; omega⟩, rfl, hw.bel⟩)
      · have q55 := of_decide_eq_false h55
        refine TL.val rfl rfl rfl (gives_assign rfl rfl) ?_
        refine TL.end_ ?_
        refine TX.then_ ?_
        refine TC.condF rfl ?_
        refine TC.seq_ ?_
        refine TC.region ?_
        refine TL.val rfl rfl rfl (gives_move rfl rfl) ?_
        refine TL.val rfl rfl rfl (gives_assign rfl rfl) ?_
        refine TL.val rfl rfl rfl (gives_assign rfl rfl) ?_
        refine TL.end_ ?_
        refine TX.then_ ?_
        refine TC.ret_ ?_
        refine TX.in_ret ?_
        exact ret_pair Try.results65 rfl rfl (fun w1 hw => ⟨⟨(pv, 0), by dsimp only; omega⟩, rfl, hw.bel⟩)
  · have q34 := of_decide_eq_false h34
    refine TL.end_ ?_
    refine TX.then_ ?_
    refine TC.condF rfl ?_
    refine TC.skip_ ?_
    refine TX.then_ ?_
    refine TC.region ?_
    refine TL.val rfl rfl rfl (gives_move rfl rfl) ?_
    refine TL.val rfl rfl rfl (gives_move rfl rfl) ?_
    refine TL.val rfl rfl rfl (gives_move rfl rfl) ?_
    refine TL.val rfl rfl rfl (gives_move rfl rfl) ?_
    refine TL.pcallChg (k := 0) (α := {y : Nat × Nat × Int // a ≤ y.1 ∧ y.1 < b ∧ a ≤ y.2.1 ∧ y.2.1 < b}) (fun y => .int .i64 ((y.1.1 : Nat) : Int)) (fun y => [.int .i64 y.1.2.2]) (fun y => []) rfl rfl rfl rfl rfl Try.func77 us7nm77 us7bd77 rfl (fun w1 hw => med_any g n c xs w1 (fun i hi => (hw.bel.cell hg0).trans (hd i hi)) hn (a + ((b - a) / 4)) (a + (((b - a) / 4) * 2)) (a + (((b - a) / 4) * 3)) a b (by omega) (by omega) (by omega) (by omega) g9 _ (Nat.lt_of_lt_of_le hg0 (hw.at_ (k := 0) rfl).2) (hw.at_ (k := 0) rfl).1) ?_
    rintro ⟨⟨pv, zpv, spv⟩, hxpv⟩
    dsimp only [List.cons_append, List.nil_append, List.set]
    dsimp only at hxpv
    refine TL.val rfl rfl rfl (gives_assign rfl rfl) ?_
    refine TL.end_ ?_
    refine TX.then_ ?_
    refine TC.seq_ ?_
    refine TC.region ?_
    refine TL.val rfl rfl rfl (pm_load (k := 0) (i := 0) rfl rfl us7ag3 rfl rfl) ?_
    refine TL.end_ ?_
    refine TX.then_ ?_
    refine TC.block ?_
    refine TC.seq_ ?_
    refine TC.region ?_
    refine TL.vsplit rfl rfl rfl (gives_bin rfl rfl rfl (fun w => bin_eql w)) (fun h52 => ?_) (fun h52 => ?_)
    · have q52 := of_decide_eq_true h52
      refine TL.val rfl rfl rfl (gives_assign rfl rfl) ?_
      refine TL.end_ ?_
      refine TX.then_ ?_
      refine TC.condT rfl ?_
      refine TC.seq_ ?_
      refine TC.region ?_
      refine TL.val rfl rfl rfl (gives_move rfl rfl) ?_
      refine TL.val rfl rfl rfl (gives_assign rfl rfl) ?_
      refine TL.val rfl rfl rfl (gives_assign rfl rfl) ?_
      refine TL.end_ ?_
      refine TX.then_ ?_
      refine TC.ret_ ?_
      refine TX.in_ret ?_
      exact ret_pair Try.results65 rfl rfl (fun w1 hw => ⟨⟨(pv, 1), by dsimp only; omega⟩, rfl, hw.bel⟩)
    · have q52 := of_decide_eq_false h52
      refine TL.val rfl rfl rfl (gives_assign rfl rfl) ?_
      refine TL.end_ ?_
      refine TX.then_ ?_
      refine TC.condF rfl ?_
      refine TC.seq_ ?_
      refine TC.region ?_
      refine TL.vsplit rfl rfl rfl (gives_bin rfl rfl rfl (fun w => bin_eql w)) (fun h55 => ?_) (fun h55 => ?_)
      · have q55 := of_decide_eq_true h55
        refine TL.val rfl rfl rfl (gives_assign rfl rfl) ?_
        refine TL.end_ ?_
        refine TX.then_ ?_
        refine TC.condT rfl ?_
        refine TC.seq_ ?_
        refine TC.region ?_
        refine TL.val rfl rfl rfl (gives_move rfl rfl) ?_
        refine TL.val rfl rfl rfl (gives_assign rfl rfl) ?_
        refine TL.val rfl rfl rfl (gives_assign rfl rfl) ?_
        refine TL.end_ ?_
        refine TX.then_ ?_
        refine TC.ret_ ?_
        refine TX.in_ret ?_
        exact ret_pair Try.results65 rfl rfl (fun w1 hw => ⟨⟨(pv, 2), by dsimp only; omega⟩, rfl, hw.bel⟩)
      · have q55 := of_decide_eq_false h55
        refine TL.val rfl rfl rfl (gives_assign rfl rfl) ?_
        refine TL.end_ ?_
        refine TX.then_ ?_
        refine TC.condF rfl ?_
        refine TC.seq_ ?_
        refine TC.region ?_
        refine TL.val rfl rfl rfl (gives_move rfl rfl) ?_
        refine TL.val rfl rfl rfl (gives_assign rfl rfl) ?_
        refine TL.val rfl rfl rfl (gives_assign rfl rfl) ?_
        refine TL.end_ ?_
        refine TX.then_ ?_
        refine TC.ret_ ?_
        refine TX.in_ret ?_
        exact ret_pair Try.results65 rfl rfl (fun w1 hw => ⟨⟨(pv, 0), by dsimp only; omega⟩, rfl, hw.bel⟩)
end Go.Proofs.Ytleckflmckbheaa
