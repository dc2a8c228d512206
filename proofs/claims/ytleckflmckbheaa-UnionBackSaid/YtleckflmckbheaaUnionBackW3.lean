/-
  The walk of Add.
-/
import Derived.Test.YtleckflmckbheaaUnionBackW2
namespace Go.Proofs.Ytleckflmckbheaa
open Go.RowKit
set_option linter.unusedVariables false
set_option linter.unusedSimpArgs false
set_option maxRecDepth 20000
/-- what can be added: the facts are valid, and the new one is a fact -/
def preA (l : List Fc) (x : Fc) : Prop := validF l ∧ 0 ≤ x.id ∧ x.a ≠ x.b
/-- the facts with one more, or what hinders it -/
def AddOk (l : List Fc) (x : Fc) (y : List Fc × Int) : Prop :=
 (¬ preA l x ∧ y = ([], 1)) ∨ (preA l x ∧ ((∃ i, ixF l x.id = some i) ∧ y = ([], 9) ∨ (ixF l x.id = none ∧ l.length = 1024 ∧ y = ([], 5)) ∨ (ixF l x.id = none ∧ l.length ≠ 1024 ∧ y.2 = 0 ∧ ∃ i, Lb l x.id i ∧ y.1 = l.take i ++ x :: l.drop i)))
theorem AddOk.done {l : List Fc} {x : Fc} {r : List Fc} (h : preA l x) (h1 : ixF l x.id = none) (h2 : ¬ ((l.length : Nat) : Int) = 1024) (h3 : ∃ i, Lb l x.id i ∧ r = l.take i ++ x :: l.drop i) : AddOk l x (r, 0) :=
 .inr ⟨h, .inr (.inr ⟨h1, by omega, rfl, h3⟩)⟩
theorem valid_is (A : Option Addr) (n c : Nat) (l : List Fc) (w : World) (hr : Reads w w.heap.size 3 A n (fcs l)) (hl : l.length = n) {t : Bool} (ht : decide (validF l) = t) :
  Calls Try.prog 22 #[.slice A n c] w fun e w' => e = .returned (.bool t) ∧ Below w.heap.size w w' := by
 subst ht
 exact valid_any A n c l w hr hl
theorem uadnm22 : (Try.f22.name == "runtime.NumGoroutine") = false := by decide
theorem uadbd22 : Try.f22.body.isNone = false := rfl
theorem uadfld42_0 (g o : Nat) (w : World) : (Instr.fieldAt 42 (.pointer (some ⟨g, o, none⟩)) 0).run Try.prog w = .ok (.pointer (some ⟨g, o + 0, none⟩)) w := by kernel_rfl
theorem uadag3 (w : World) : (isAgg 3).run Try.prog w = .ok false w := rfl
theorem uadfld42_1 (g o : Nat) (w : World) : (Instr.fieldAt 42 (.pointer (some ⟨g, o, none⟩)) 1).run Try.prog w = .ok (.pointer (some ⟨g, o + 1, none⟩)) w := by kernel_rfl
theorem uadag35 (w : World) : (isAgg 35).run Try.prog w = .ok false w := rfl
theorem uadfld42_2 (g o : Nat) (w : World) : (Instr.fieldAt 42 (.pointer (some ⟨g, o, none⟩)) 2).run Try.prog w = .ok (.pointer (some ⟨g, o + 2, none⟩)) w := by kernel_rfl
theorem uadnm41 : (Try.f41.name == "runtime.NumGoroutine") = false := by decide
theorem uadbd41 : Try.f41.body.isNone = false := rfl
theorem uadag42 (w : World) : (isAgg 42).run Try.prog w = .ok true w := rfl
theorem uadsz42 (w : World) : (sizeOf 42).run Try.prog w = .ok 3 w := rfl
theorem uadnm43 : (Try.f43.name == "runtime.NumGoroutine") = false := by decide
theorem uadbd43 : Try.f43.body.isNone = false := rfl
theorem uadbs26_1_44646 (a0_0 : Int) (a0_1 : Int) (a0_2 : Int) (w : World) : (Instr.buildSlice 26 1 #[(0, .agg #[.int .i64 a0_0, .int .u32 a0_1, .int .u32 a0_2])]).run Try.prog w = .ok (.slice (some ⟨w.heap.size, 0, none⟩) 1 1) (w.alloc (.cells [.int .i64 a0_0, .int .u32 a0_1, .int .u32 a0_2].toArray 42)) := by kernel_rfl
theorem uadnm48 : (Try.f48.name == "runtime.NumGoroutine") = false := by decide
theorem uadbd48 : Try.f48.body.isNone = false := rfl
set_option maxHeartbeats 1000000 in
theorem add_any (A0 : Option Addr) (n0 c0 : Nat) (l : List Fc) (w : World) (hr : Reads w w.heap.size 3 A0 n0 (fcs l)) (hl : l.length = n0) (x : Fc) :
  Calls Try.prog 30 #[.slice A0 n0 c0, .agg x.cells.toArray] w fun e w' => ∃ y : {y : (Option Addr × Nat) × List Fc × Int // AddOk l x y.2 ∧ y.2.1.length ≤ y.1.2 ∧ y.1.2 ≤ maxLen}, e = .returned (.tuple #[.slice y.1.1.1 y.1.2.1.length y.1.1.2, .int .i64 y.1.2.2]) ∧ Pm w [.row (.slice y.1.1.1 y.1.2.1.length y.1.1.2) 42 3 y.1.2.1.length (fcs y.1.2.1)] w' := by
 subst hl
 refine begin_ (vs := [.slice A0 l.length c0, .agg #[.int .i64 x.id, .int .u32 x.a, .int .u32 x.b]]) Try.func30 rfl rfl rfl ?_ (Pm.start w)
 refine TC.seq_ (TC.region ?_)
 refine TL.pnew rfl rfl rfl (exec_box (cs := [.int .i64 x.id, .int .u32 x.a, .int .u32 x.b]) rfl rfl rfl) (fun g3 => ?_)
 refine TL.val rfl rfl rfl (gives_assign rfl rfl) ?_
 refine TL.val rfl rfl rfl (gives_assign rfl rfl) ?_
 refine TL.end_ (TX.then_ (TC.seq_ (TC.seq_ ?_)))
 have hway : ¬ validF l ∨ (validF l ∧ x.id < 0) ∨ (validF l ∧ ¬ x.id < 0 ∧ x.a = x.b) ∨ (validF l ∧ ¬ x.id < 0 ∧ x.a ≠ x.b) := by
  by_cases p1 : validF l <;> by_cases p2 : x.id < 0 <;> by_cases p3 : x.a = x.b <;> simp [p1, p2, p3]
 rcases hway with p1 | ⟨p1, p2⟩ | ⟨p1, p2, p3⟩ | ⟨p1, p2, p3⟩
 ·refine TC.region ?_
  refine TL.val rfl rfl rfl (gives_move rfl rfl) ?_
  refine TL.pcall1 (r := .bool false) rfl rfl rfl rfl rfl Try.func22 uadnm22 uadbd22 (fun w1 hw => valid_is A0 _ c0 l w1 ((hr.below hw.bel).more hw.bel.size) rfl (decide_eq_false p1)) ?_
  iterate 13 (first | refine TL.off rfl rfl rfl rfl rfl rfl ?_ | refine TL.val rfl rfl rfl (gives_move rfl rfl) ?_ | refine TL.val rfl rfl rfl (gives_pick rfl rfl rfl) ?_ | refine TL.val rfl rfl rfl (gives_boolnot rfl rfl) ?_)
  refine TL.end_ (TX.then_ (TC.condT rfl (TC.seq_ (TC.region ?_))))
  refine TL.val rfl rfl rfl (gives_assign rfl rfl) ?_
  refine TL.val rfl rfl rfl (gives_assign rfl rfl) ?_
  refine TL.end_ (TX.then_ (TC.ret_ (TX.then_ret ?_)))
  exact ret_pair Try.results30 rfl rfl (fun w1 hw => ⟨⟨((none, 0), ([], 1)), .inl ⟨(fun hh => p1 hh.1), rfl⟩, Nat.le_refl _, Nat.zero_le _⟩, rfl, (hw.pick [] (by decide) rfl).nilrow _ _⟩)
 ·refine TC.region ?_
  refine TL.val rfl rfl rfl (gives_move rfl rfl) ?_
  refine TL.pcall1 (r := .bool true) rfl rfl rfl rfl rfl Try.func22 uadnm22 uadbd22 (fun w1 hw => valid_is A0 _ c0 l w1 ((hr.below hw.bel).more hw.bel.size) rfl (decide_eq_true p1)) ?_
  refine TL.val rfl rfl rfl (gives_boolnot rfl rfl) ?_
  refine TL.val rfl rfl rfl (gives_move rfl rfl) ?_
  refine TL.on rfl rfl rfl ?_
  refine TL.val rfl rfl rfl (gives_field (v := .pointer (some ⟨g3, 0, none⟩)) rfl rfl (fun w => uadfld42_0 _ _ w)) ?_
  refine TL.on rfl rfl rfl ?_
  refine TL.val rfl rfl rfl (pm_load (k := 0) (i := 0) rfl rfl uadag3 rfl rfl) ?_
  refine TL.on rfl rfl rfl ?_
  refine TL.val rfl rfl rfl (gives_bin rfl rfl rfl (fun w => bin_lss_t (p2) w)) ?_
  iterate 8 (first | refine TL.off rfl rfl rfl rfl rfl rfl ?_ | refine TL.val rfl rfl rfl (gives_pick rfl rfl rfl) ?_ | refine TL.val rfl rfl rfl (gives_move rfl rfl) ?_)
  refine TL.end_ (TX.then_ (TC.condT rfl (TC.seq_ (TC.region ?_))))
  refine TL.val rfl rfl rfl (gives_assign rfl rfl) ?_
  refine TL.val rfl rfl rfl (gives_assign rfl rfl) ?_
  refine TL.end_ (TX.then_ (TC.ret_ (TX.then_ret ?_)))
  exact ret_pair Try.results30 rfl rfl (fun w1 hw => ⟨⟨((none, 0), ([], 1)), .inl ⟨(fun hh => by have := hh.2.1; omega), rfl⟩, Nat.le_refl _, Nat.zero_le _⟩, rfl, (hw.pick [] (by decide) rfl).nilrow _ _⟩)
 ·refine TC.region ?_
  refine TL.val rfl rfl rfl (gives_move rfl rfl) ?_
  refine TL.pcall1 (r := .bool true) rfl rfl rfl rfl rfl Try.func22 uadnm22 uadbd22 (fun w1 hw => valid_is A0 _ c0 l w1 ((hr.below hw.bel).more hw.bel.size) rfl (decide_eq_true p1)) ?_
  refine TL.val rfl rfl rfl (gives_boolnot rfl rfl) ?_
  refine TL.val rfl rfl rfl (gives_move rfl rfl) ?_
  refine TL.on rfl rfl rfl ?_
  refine TL.val rfl rfl rfl (gives_field (v := .pointer (some ⟨g3, 0, none⟩)) rfl rfl (fun w => uadfld42_0 _ _ w)) ?_
  refine TL.on rfl rfl rfl ?_
  refine TL.val rfl rfl rfl (pm_load (k := 0) (i := 0) rfl rfl uadag3 rfl rfl) ?_
  refine TL.on rfl rfl rfl ?_
  refine TL.val rfl rfl rfl (gives_bin rfl rfl rfl (fun w => bin_lss_f (p2) w)) ?_
  refine TL.val rfl rfl rfl (gives_pick rfl rfl rfl) ?_
  refine TL.val rfl rfl rfl (gives_move rfl rfl) ?_
  refine TL.on rfl rfl rfl ?_
  refine TL.val rfl rfl rfl (gives_field (v := .pointer (some ⟨g3, 1, none⟩)) rfl rfl (fun w => uadfld42_1 _ _ w)) ?_
  refine TL.on rfl rfl rfl ?_
  refine TL.val rfl rfl rfl (pm_load (k := 0) (i := 1) rfl rfl uadag35 rfl rfl) ?_
  refine TL.on rfl rfl rfl ?_
  refine TL.val rfl rfl rfl (gives_field (v := .pointer (some ⟨g3, 2, none⟩)) rfl rfl (fun w => uadfld42_2 _ _ w)) ?_
  refine TL.on rfl rfl rfl ?_
  refine TL.val rfl rfl rfl (pm_load (k := 0) (i := 2) rfl rfl uadag35 rfl rfl) ?_
  refine TL.on rfl rfl rfl ?_
  refine TL.val rfl rfl rfl (gives_bin rfl rfl rfl (fun w => bin_eql_t (p3) w)) ?_
  refine TL.val rfl rfl rfl (gives_pick rfl rfl rfl) ?_
  refine TL.end_ (TX.then_ (TC.condT rfl (TC.seq_ (TC.region ?_))))
  refine TL.val rfl rfl rfl (gives_assign rfl rfl) ?_
  refine TL.val rfl rfl rfl (gives_assign rfl rfl) ?_
  refine TL.end_ (TX.then_ (TC.ret_ (TX.then_ret ?_)))
  exact ret_pair Try.results30 rfl rfl (fun w1 hw => ⟨⟨((none, 0), ([], 1)), .inl ⟨(fun hh => hh.2.2 p3), rfl⟩, Nat.le_refl _, Nat.zero_le _⟩, rfl, (hw.pick [] (by decide) rfl).nilrow _ _⟩)
 ·have hl1 : l.length ≤ 1024 := p1.1
  refine TC.region ?_
  refine TL.val rfl rfl rfl (gives_move rfl rfl) ?_
  refine TL.pcall1 (r := .bool true) rfl rfl rfl rfl rfl Try.func22 uadnm22 uadbd22 (fun w1 hw => valid_is A0 _ c0 l w1 ((hr.below hw.bel).more hw.bel.size) rfl (decide_eq_true p1)) ?_
  refine TL.val rfl rfl rfl (gives_boolnot rfl rfl) ?_
  refine TL.val rfl rfl rfl (gives_move rfl rfl) ?_
  refine TL.on rfl rfl rfl ?_
  refine TL.val rfl rfl rfl (gives_field (v := .pointer (some ⟨g3, 0, none⟩)) rfl rfl (fun w => uadfld42_0 _ _ w)) ?_
  refine TL.on rfl rfl rfl ?_
  refine TL.val rfl rfl rfl (pm_load (k := 0) (i := 0) rfl rfl uadag3 rfl rfl) ?_
  refine TL.on rfl rfl rfl ?_
  refine TL.val rfl rfl rfl (gives_bin rfl rfl rfl (fun w => bin_lss_f (p2) w)) ?_
  refine TL.val rfl rfl rfl (gives_pick rfl rfl rfl) ?_
  refine TL.val rfl rfl rfl (gives_move rfl rfl) ?_
  refine TL.on rfl rfl rfl ?_
  refine TL.val rfl rfl rfl (gives_field (v := .pointer (some ⟨g3, 1, none⟩)) rfl rfl (fun w => uadfld42_1 _ _ w)) ?_
  refine TL.on rfl rfl rfl ?_
  refine TL.val rfl rfl rfl (pm_load (k := 0) (i := 1) rfl rfl uadag35 rfl rfl) ?_
  refine TL.on rfl rfl rfl ?_
  refine TL.val rfl rfl rfl (gives_field (v := .pointer (some ⟨g3, 2, none⟩)) rfl rfl (fun w => uadfld42_2 _ _ w)) ?_
  refine TL.on rfl rfl rfl ?_
  refine TL.val rfl rfl rfl (pm_load (k := 0) (i := 2) rfl rfl uadag35 rfl rfl) ?_
  refine TL.on rfl rfl rfl ?_
  refine TL.val rfl rfl rfl (gives_bin rfl rfl rfl (fun w => bin_eql_f (p3) w)) ?_
  refine TL.val rfl rfl rfl (gives_pick rfl rfl rfl) ?_
  refine TL.end_ (TX.then_ (TC.condF rfl (TC.skip_ (TX.then_ (TC.seq_ (TC.region ?_))))))
  refine TL.val rfl rfl rfl (gives_move rfl rfl) ?_
  refine TL.val rfl rfl rfl (gives_field (v := .pointer (some ⟨g3, 0, none⟩)) rfl rfl (fun w => uadfld42_0 _ _ w)) ?_
  refine TL.val rfl rfl rfl (pm_load (k := 0) (i := 0) rfl rfl uadag3 rfl rfl) ?_
  refine TL.pcallPm (α := {y : Nat × Bool // FindOk l x.id y}) (fun y => .tuple #[.int .i64 ((y.1.1 : Nat) : Int), .bool y.1.2]) (fun y => []) rfl rfl rfl rfl rfl Try.func41 uadnm41 uadbd41 (fun w1 hw => (find_any A0 _ c0 l w1 ((hr.below hw.bel).more hw.bel.size) rfl (by omega) p1.asc x.id).mono fun e w2 ⟨x, h1, h2⟩ => ⟨x, h1, (Pm.start w1).below h2⟩) ?_
  rintro ⟨⟨i, b⟩, hib⟩
  dsimp only [List.cons_append, List.nil_append]
  try dsimp only at hib
  iterate 5 (first | refine TL.val rfl rfl rfl (gives_assign rfl rfl) ?_ | refine TL.val rfl rfl rfl (gives_extract rfl rfl rfl) ?_ | refine TL.val rfl rfl rfl (gives_move rfl rfl) ?_)
  refine TL.end_ (TX.then_ (TC.seq_ (TC.block (TC.seq_ (TC.region ?_)))))
  refine TL.vsplit rfl rfl rfl (gives_move rfl rfl) (fun h31 => ?_) (fun h31 => ?_)
  ·subst h31
   obtain ⟨hix, _⟩ := hib.some p1.asc
   refine TL.val rfl rfl rfl (gives_assign rfl rfl) ?_
   refine TL.end_ (TX.then_ (TC.condT rfl (TC.seq_ (TC.region ?_))))
   refine TL.val rfl rfl rfl (gives_assign rfl rfl) ?_
   refine TL.val rfl rfl rfl (gives_assign rfl rfl) ?_
   refine TL.end_ (TX.then_ (TC.ret_ (TX.in_ret (TX.then_ret ?_))))
   exact ret_pair Try.results30 rfl rfl (fun w1 hw => ⟨⟨((none, 0), ([], 9)), .inr ⟨⟨p1, by omega, p3⟩, .inl ⟨⟨_, hix⟩, rfl⟩⟩, Nat.le_refl _, Nat.zero_le _⟩, rfl, (hw.pick [] (by decide) rfl).nilrow _ _⟩)
  ·subst h31
   refine TL.val rfl rfl rfl (gives_assign rfl rfl) ?_
   refine TL.end_ (TX.then_ (TC.condF rfl (TC.seq_ (TC.region ?_))))
   refine TL.val rfl rfl rfl (gives_move rfl rfl) ?_
   refine TL.val rfl rfl rfl (gives_len rfl Try.underlying26 rfl) ?_
   refine TL.vsplit rfl rfl rfl (gives_bin rfl rfl rfl (fun w => bin_eql w)) (fun h35 => ?_) (fun h35 => ?_)
   ·have q35 := of_decide_eq_true h35
    refine TL.val rfl rfl rfl (gives_assign rfl rfl) ?_
    refine TL.end_ (TX.then_ (TC.condT rfl (TC.seq_ (TC.region ?_))))
    refine TL.val rfl rfl rfl (gives_assign rfl rfl) ?_
    refine TL.val rfl rfl rfl (gives_assign rfl rfl) ?_
    refine TL.end_ (TX.then_ (TC.ret_ (TX.in_ret (TX.then_ret ?_))))
    exact ret_pair Try.results30 rfl rfl (fun w1 hw => ⟨⟨((none, 0), ([], 5)), .inr ⟨⟨p1, by omega, p3⟩, .inr (.inl ⟨hib.none p1.asc, by omega, rfl⟩)⟩, Nat.le_refl _, Nat.zero_le _⟩, rfl, (hw.pick [] (by decide) rfl).nilrow _ _⟩)
   ·have q35 := of_decide_eq_false h35
    refine TL.val rfl rfl rfl (gives_assign rfl rfl) ?_
    refine TL.end_ (TX.then_ (TC.condF rfl (TC.skip_ (TX.in_normal (TX.then_ (TC.seq_ ?_))))))
    refine TC.held (ls := #[false, false, false, false, false, false, false, false]) (Pm w [.blk g3 42 [.int .i64 x.id, .int .u32 x.a, .int .u32 x.b]]) (by kernel_rfl) rfl rfl (fun w hw => hw.drawn _) ?_
    refine TH.take (listed' := #[true, false, false, false, false, false, false, false]) 0 rfl (by kernel_rfl) (by kernel_rfl) (by kernel_rfl) rfl rfl rfl rfl (gives_move rfl rfl) (fun w1 hw => hw) ?_
    refine TH.take (listed' := #[true, false, true, false, false, false, false, false]) 2 rfl (by kernel_rfl) (by kernel_rfl) (by kernel_rfl) rfl rfl rfl rfl (gives_move rfl rfl) (fun w1 hw => hw) ?_
    refine TH.take (listed' := #[true, false, true, true, false, false, false, false]) 3 rfl (by kernel_rfl) (by kernel_rfl) (by kernel_rfl) rfl rfl rfl rfl (pm_loadV (k := 0) (i := 0) (n := 3) (v := .agg #[.int .i64 x.id, .int .u32 x.a, .int .u32 x.b]) rfl rfl uadag42 uadsz42 rfl (by show 3 ≤ 3; decide) rfl) (fun w1 hw => hw) ?_
    refine TH.two' (listed1 := #[true, true, true, true, false, false, false, false]) (listed2 := #[true, false, true, true, true, false, false, false]) 1 4 rfl rfl (by kernel_rfl) rfl rfl ?_ ?_
    ·refine TL.pcallPm (α := {p : Option Addr × Nat // l.length ≤ p.2 ∧ p.2 ≤ maxLen}) (fun y => .slice y.1.1 l.length y.1.2) (fun y => [.row (.slice y.1.1 l.length y.1.2) 42 3 l.length (fcs l)]) rfl rfl rfl rfl rfl Try.func43 uadnm43 uadbd43 (fun w1 hw => fclone_any A0 _ c0 l w1 ((hr.below hw.bel).more hw.bel.size) rfl (by omega)) ?_
     rintro ⟨⟨AA, cc⟩, hcc1, hcc2⟩
     dsimp only [List.cons_append, List.nil_append]
     refine TL.end_ ?_
     refine TX.held (fun w1 hw => hw.pick [1] (by decide) rfl) ?_
     refine TH.only' (listed' := #[true, true, true, true, true, false, false, false]) 4 rfl (by kernel_rfl) rfl ?_
     refine TL.prowS (e := 42) (size := 3) (cs := [.int .i64 x.id, .int .u32 x.a, .int .u32 x.b]) rfl rfl rfl rfl rfl (fun w => uadbs26_1_44646 _ _ _ w) (by decide) rfl (fun g40 => ?_)
     refine TL.end_ ?_
     refine TX.held (fun w1 hw => hw.pick [2] (by decide) rfl) ?_
     refine TH.only' (listed' := #[true, true, true, true, true, true, false, false]) 5 rfl (by kernel_rfl) rfl ?_
     refine TL.pcallGrow (k := 1) (M := l.length + 1) (ys := fcs (l.take i ++ x :: l.drop i)) rfl rfl rfl rfl rfl Try.func48 uadnm48 uadbd48 rfl (fun w1 hw hr1 => insf_any _ AA cc i _ _ l x w1 hr1 hw.base (pm_rowAtG hw (k := 0) rfl) (fun g9 hg9 => Pm.ne hw (i := 0) (j := 1) rfl rfl (by decide) rfl (by rw [hg9]; rfl)) hib.1.1 (by omega)) (fun AI ci hci1 hci2 => ?_)
     try dsimp only [List.set_cons_zero, List.set_cons_succ]
     refine TL.end_ ?_
     refine TX.held (fun w1 hw => hw.pick [2] (by decide) rfl) ?_
     refine TH.take (listed' := #[true, true, true, true, true, true, true, false]) 6 rfl (by kernel_rfl) (by kernel_rfl) (by kernel_rfl) rfl rfl rfl rfl (gives_assign rfl rfl) (fun w1 hw => hw.pick [2] (by decide) rfl) ?_
     refine TH.take (listed' := #[true, true, true, true, true, true, true, true]) 7 rfl (by kernel_rfl) (by kernel_rfl) (by kernel_rfl) rfl rfl rfl rfl (gives_assign rfl rfl) (fun w1 hw => hw.pick [2] (by decide) rfl) ?_
     refine TH.done (by kernel_rfl) ?_
     refine TX.then_ (TC.ret_ ?_)
     have hle : (l.take i ++ x :: l.drop i).length = l.length + 1 := by rw [List.length_append, List.length_cons, List.length_take, List.length_drop]; have := hib.1.1; dsimp only at this; omega
     exact ret_pair Try.results30 rfl rfl (fun w1 hw => ⟨⟨((AI, ci), (l.take i ++ x :: l.drop i, 0)), AddOk.done ⟨p1, by omega, p3⟩ (hib.none p1.asc) q35 ⟨i, hib.1, rfl⟩, by dsimp only; omega, hci2⟩, by dsimp only; rw [hle], by dsimp only; rw [hle]; exact hw.pick [1] (by decide) rfl⟩)
    ·refine TL.prowS (e := 42) (size := 3) (cs := [.int .i64 x.id, .int .u32 x.a, .int .u32 x.b]) rfl rfl rfl rfl rfl (fun w => uadbs26_1_44646 _ _ _ w) (by decide) rfl (fun g40 => ?_)
     refine TL.end_ ?_
     refine TX.held (fun w1 hw => hw.pick [1] (by decide) rfl) ?_
     refine TH.only' (listed' := #[true, true, true, true, true, false, false, false]) 1 rfl (by kernel_rfl) rfl ?_
     refine TL.pcallPm (α := {p : Option Addr × Nat // l.length ≤ p.2 ∧ p.2 ≤ maxLen}) (fun y => .slice y.1.1 l.length y.1.2) (fun y => [.row (.slice y.1.1 l.length y.1.2) 42 3 l.length (fcs l)]) rfl rfl rfl rfl rfl Try.func43 uadnm43 uadbd43 (fun w1 hw => fclone_any A0 _ c0 l w1 ((hr.below hw.bel).more hw.bel.size) rfl (by omega)) ?_
     rintro ⟨⟨AA, cc⟩, hcc1, hcc2⟩
     dsimp only [List.cons_append, List.nil_append]
     refine TL.end_ ?_
     refine TX.held (fun w1 hw => hw.pick [2] (by decide) rfl) ?_
     refine TH.only' (listed' := #[true, true, true, true, true, true, false, false]) 5 rfl (by kernel_rfl) rfl ?_
     refine TL.pcallGrow (k := 0) (M := l.length + 1) (ys := fcs (l.take i ++ x :: l.drop i)) rfl rfl rfl rfl rfl Try.func48 uadnm48 uadbd48 rfl (fun w1 hw hr1 => insf_any _ AA cc i _ _ l x w1 hr1 hw.base (pm_rowAtG hw (k := 1) rfl) (fun g9 hg9 => (Pm.ne hw (i := 0) (j := 1) rfl rfl (by decide) (by rw [hg9]; rfl) rfl).symm) hib.1.1 (by omega)) (fun AI ci hci1 hci2 => ?_)
     try dsimp only [List.set_cons_zero, List.set_cons_succ]
     refine TL.end_ ?_
     refine TX.held (fun w1 hw => hw.pick [2] (by decide) rfl) ?_
     refine TH.take (listed' := #[true, true, true, true, true, true, true, false]) 6 rfl (by kernel_rfl) (by kernel_rfl) (by kernel_rfl) rfl rfl rfl rfl (gives_assign rfl rfl) (fun w1 hw => hw.pick [2] (by decide) rfl) ?_
     refine TH.take (listed' := #[true, true, true, true, true, true, true, true]) 7 rfl (by kernel_rfl) (by kernel_rfl) (by kernel_rfl) rfl rfl rfl rfl (gives_assign rfl rfl) (fun w1 hw => hw.pick [2] (by decide) rfl) ?_
     refine TH.done (by kernel_rfl) ?_
     refine TX.then_ (TC.ret_ ?_)
     have hle : (l.take i ++ x :: l.drop i).length = l.length + 1 := by rw [List.length_append, List.length_cons, List.length_take, List.length_drop]; have := hib.1.1; dsimp only at this; omega
     exact ret_pair Try.results30 rfl rfl (fun w1 hw => ⟨⟨((AI, ci), (l.take i ++ x :: l.drop i, 0)), AddOk.done ⟨p1, by omega, p3⟩ (hib.none p1.asc) q35 ⟨i, hib.1, rfl⟩, by dsimp only; omega, hci2⟩, by dsimp only; rw [hle], by dsimp only; rw [hle]; exact hw.pick [0] (by decide) rfl⟩)
end Go.Proofs.Ytleckflmckbheaa
