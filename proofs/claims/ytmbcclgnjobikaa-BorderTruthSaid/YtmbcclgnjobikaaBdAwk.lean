/-
  The sanity check of the laws about borders.
-/
import Derived.Test.YtmbcclgnjobikaaBdVot
import Derived.Test.YtmbcclgnjobikaaSymNil
namespace Go.Proofs.Ytmbcclgnjobikaa
open Go.RowKit
set_option linter.unusedVariables false
set_option linter.unusedSimpArgs false
set_option maxRecDepth 20000
theorem bd_fields : Try.prog.fieldsOf 39 = (match Try.prog.underlying 39 with | some (.struct fs) => fs | _ => #[]) := rfl
theorem bd_eqn (a0 b0 : Int) (a1 b1 : Int) (a2 b2 : Int) (a3 b3 : Int) (d : Nat) (w : World) : (Op.equalIn (d + 2) 39 (.agg #[.int .u32 a0, .int .u32 a1, .int .i64 a2, .int .i64 a3]) (.agg #[.int .u32 b0, .int .u32 b1, .int .i64 b2, .int .i64 b3])).run Try.prog w = .ok (decide (a0 = b0 ∧ a1 = b1 ∧ a2 = b2 ∧ a3 = b3)) w := by
  rw [run_equalIn_agg w (d + 1) 39 _ _ (by rw [bd_fields, Try.underlying39]) (by kernel_rfl), bd_fields, Try.underlying39]
  show (Op.eqFields (d + 1) _ _ [_, _, _, _]).run _ _ = _
  have i0 : Try.prog.underlying 3 = some (.int .i64) := rfl
  have i1 : Try.prog.underlying 29 = some (.int .u32) := rfl
  simp [Op.eqFields, go_sem]
  by_cases e0 : a0 = b0
  · by_cases e1 : a1 = b1
    · by_cases e2 : a2 = b2
      · by_cases e3 : a3 = b3 <;> simp [e0, e1, e2, e3]
      · simp [e0, e1, e2]
    · simp [e0, e1]
  · simp [e0]
theorem bd_eq (x y : Bd) : (x = y) ↔ x.near = y.near ∧ x.far = y.far ∧ x.frm = y.frm ∧ x.to_ = y.to_ := by
  cases x; cases y; simp
theorem bd_eql (x y : Bd) (ox oy : Operand) (w : World) : (do eqGuard .eql 39 ox oy (.agg x.cells.toArray) (.agg y.cells.toArray); binOp .eql 39 (.agg x.cells.toArray) (.agg y.cells.toArray) : Sem Value).run Try.prog w = .ok (.bool (decide (x = y))) w := by
  rw [Sem.run_bind, run_eqGuard_agg w .eql 39 ox oy _ _ (by kernel_rfl), Result.andThen_ok, run_eql_struct]
  have h := bd_eqn x.near y.near x.far y.far x.frm y.frm x.to_ y.to_ 9998 w
  have h2 : (Op.equalIn 10000 39 (.agg x.cells.toArray) (.agg y.cells.toArray)).run Try.prog w = .ok (decide (x.near = y.near ∧ x.far = y.far ∧ x.frm = y.frm ∧ x.to_ = y.to_)) w := h
  rw [h2, Result.andThen_ok, decide_eq_decide.2 (bd_eq x y)]
theorem bd_eql_is {x y : Bd} {t : Bool} (ht : (decide (x = y)) = t) (ox oy : Operand) (w : World) : (do eqGuard .eql 39 ox oy (.agg x.cells.toArray) (.agg y.cells.toArray); binOp .eql 39 (.agg x.cells.toArray) (.agg y.cells.toArray) : Sem Value).run Try.prog w = .ok (.bool t) w := by
  rw [← ht]; exact bd_eql x y ox oy w
theorem bd_neq (x y : Bd) (ox oy : Operand) (w : World) : (do eqGuard .neq 39 ox oy (.agg x.cells.toArray) (.agg y.cells.toArray); binOp .neq 39 (.agg x.cells.toArray) (.agg y.cells.toArray) : Sem Value).run Try.prog w = .ok (.bool (!decide (x = y))) w := by
  rw [Sem.run_bind, run_eqGuard_agg w .neq 39 ox oy _ _ (by kernel_rfl), Result.andThen_ok, run_neq_struct]
  have h := bd_eqn x.near y.near x.far y.far x.frm y.frm x.to_ y.to_ 9998 w
  have h2 : (Op.equalIn 10000 39 (.agg x.cells.toArray) (.agg y.cells.toArray)).run Try.prog w = .ok (decide (x.near = y.near ∧ x.far = y.far ∧ x.frm = y.frm ∧ x.to_ = y.to_)) w := h
  rw [h2, Result.andThen_ok, decide_eq_decide.2 (bd_eq x y)]
theorem bd_neq_is {x y : Bd} {t : Bool} (ht : (!decide (x = y)) = t) (ox oy : Operand) (w : World) : (do eqGuard .neq 39 ox oy (.agg x.cells.toArray) (.agg y.cells.toArray); binOp .neq 39 (.agg x.cells.toArray) (.agg y.cells.toArray) : Sem Value).run Try.prog w = .ok (.bool t) w := by
  rw [← ht]; exact bd_neq x y ox oy w
theorem awk_win : winV ownL 3 [1, 2, 3, 4] = [⟨1, 3, 5, 7⟩] := by decide +kernel
theorem awk_own : ownF ownL 3 [1, 0, 3] = [5, 0, 7] := by decide +kernel
theorem vcnt3 (n : Int) : vcnt [5, 7, 7] n = if n = 5 then 1 else if n = 7 then 2 else 0 := by
  by_cases h0 : n = 0
  · subst h0; rfl
  · by_cases h5 : n = 5
    · subst h5; rfl
    · by_cases h7 : n = 7
      · subst h7; rfl
      · simp [vcnt, cntI, h0, h5, h7, Ne.symm h5, Ne.symm h7]
theorem vcnt2 (n : Int) : vcnt [5, 7] n = if n = 5 then 1 else if n = 7 then 1 else 0 := by
  by_cases h0 : n = 0
  · subst h0; rfl
  · by_cases h5 : n = 5
    · subst h5; rfl
    · by_cases h7 : n = 7
      · subst h7; rfl
      · simp [vcnt, cntI, h0, h5, h7, Ne.symm h5, Ne.symm h7]
theorem awk_v1 {n : Int} (h : VotesOk (pvS ownL 3 ([1] ++ [3, 4])) (firstP ownL 3 [1]) n) : n = 7 := by
  rw [show pvS ownL 3 ([1] ++ [3, 4]) = [5, 7, 7] by decide +kernel] at h
  have h1 := h.1 7
  rw [vcnt3, vcnt3] at h1
  by_cases e7 : n = 7
  · exact e7
  · by_cases e5 : n = 5
    · subst e5; simp at h1
    · simp [e5, e7] at h1
theorem awk_v2 {n : Int} (h : VotesOk (pvS ownL 3 ([1] ++ [3])) (firstP ownL 3 [1]) n) : n = 5 := by
  rw [show pvS ownL 3 ([1] ++ [3]) = [5, 7] by decide +kernel, show firstP ownL 3 [1] = 5 by decide +kernel] at h
  obtain ⟨h1, ⟨h2, h3⟩ | ⟨h2, h3 | ⟨h3, h4⟩⟩⟩ := h
  · have := h3 5; simp [vcnt2] at this
  · exact h3
  · have h5 := h1 5
    rw [vcnt2, vcnt2] at h5
    rw [vcnt2, vcnt2] at h3
    by_cases e5 : n = 5
    · exact e5
    · by_cases e7 : n = 7
      · subst e7; simp at h3
      · simp [e5, e7] at h5
theorem bawbs26_4_78574 (a0_0 : Int) (a1_0 : Int) (a2_0 : Int) (a3_0 : Int) (w : World) : (Instr.buildSlice 26 4 #[(0, .int .u32 a0_0), (1, .int .u32 a1_0), (2, .int .u32 a2_0), (3, .int .u32 a3_0)]).run Try.prog w = .ok (.slice (some ⟨w.heap.size, 0, none⟩) 4 4) (w.alloc (.cells [.int .u32 a0_0, .int .u32 a1_0, .int .u32 a2_0, .int .u32 a3_0].toArray 29)) := by kernel_rfl
theorem bawnm10 : (Try.f10.name == "runtime.NumGoroutine") = false := by decide
theorem bawbd10 : Try.f10.body.isNone = false := rfl
theorem bawnm11 : (Try.f11.name == "runtime.NumGoroutine") = false := by decide
theorem bawbd11 : Try.f11.body.isNone = false := rfl
theorem bawbs26_3_44640 (a0_0 : Int) (a1_0 : Int) (a2_0 : Int) (w : World) : (Instr.buildSlice 26 3 #[(0, .int .u32 a0_0), (1, .int .u32 a1_0), (2, .int .u32 a2_0)]).run Try.prog w = .ok (.slice (some ⟨w.heap.size, 0, none⟩) 3 3) (w.alloc (.cells [.int .u32 a0_0, .int .u32 a1_0, .int .u32 a2_0].toArray 29)) := by kernel_rfl
theorem bawnm9 : (Try.f9.name == "runtime.NumGoroutine") = false := by decide
theorem bawbd9 : Try.f9.body.isNone = false := rfl
theorem bawsz39 (w : World) : (sizeOf 39).run Try.prog w = .ok 4 w := rfl
theorem bawag39 (w : World) : (isAgg 39).run Try.prog w = .ok true w := rfl
theorem bawbld39_98496 (a0_0 : Int) (a1_0 : Int) (a2_0 : Int) (a3_0 : Int) (w : World) : (Instr.build 39 #[(0, .int .u32 a0_0), (1, .int .u32 a1_0), (2, .int .i64 a2_0), (3, .int .i64 a3_0)]).run Try.prog w = .ok (.agg #[.int .u32 a0_0, .int .u32 a1_0, .int .i64 a2_0, .int .i64 a3_0]) w := by kernel_rfl
theorem bawbs30_3_44640 (a0_0 : Int) (a1_0 : Int) (a2_0 : Int) (w : World) : (Instr.buildSlice 30 3 #[(0, .int .i64 a0_0), (1, .int .i64 a1_0), (2, .int .i64 a2_0)]).run Try.prog w = .ok (.slice (some ⟨w.heap.size, 0, none⟩) 3 3) (w.alloc (.cells [.int .i64 a0_0, .int .i64 a1_0, .int .i64 a2_0].toArray 3)) := by kernel_rfl
theorem bawnm18 : (Try.f18.name == "runtime.NumGoroutine") = false := by decide
theorem bawbd18 : Try.f18.body.isNone = false := rfl
theorem bawbs26_1_5377 (a0_0 : Int) (w : World) : (Instr.buildSlice 26 1 #[(0, .int .u32 a0_0)]).run Try.prog w = .ok (.slice (some ⟨w.heap.size, 0, none⟩) 1 1) (w.alloc (.cells [.int .u32 a0_0].toArray 29)) := by kernel_rfl
theorem bawbs26_2_20249 (a0_0 : Int) (a1_0 : Int) (w : World) : (Instr.buildSlice 26 2 #[(0, .int .u32 a0_0), (1, .int .u32 a1_0)]).run Try.prog w = .ok (.slice (some ⟨w.heap.size, 0, none⟩) 2 2) (w.alloc (.cells [.int .u32 a0_0, .int .u32 a1_0].toArray 29)) := by kernel_rfl
theorem bawnm15 : (Try.f15.name == "runtime.NumGoroutine") = false := by decide
theorem bawbd15 : Try.f15.body.isNone = false := rfl
set_option maxHeartbeats 1000000 in
theorem awake_true  (w : World) :
    Calls Try.prog 6 #[] w fun e w' => e = .returned (.bool true) ∧ Below w.heap.size w w' := by
  refine begin_ (vs := []) Try.func6 rfl rfl rfl ?_ (Pm.start w)
  refine TC.seq_ ?_
  refine TC.region ?_
  refine TL.val rfl rfl rfl (gives_assign rfl rfl) ?_
  refine TL.end_ ?_
  refine TX.then_ ?_
  refine TC.seq_ ?_
  refine TC.region ?_
  refine TL.prowS (e := 29) (size := 1) (cs := flat (ic .u32) [1, 2, 3, 4]) rfl rfl rfl rfl rfl (fun w => bawbs26_4_78574 _ _ _ _ w) (by decide) rfl (fun g3 => ?_)
  refine TL.pcallPm (α := Nat) (fun x => .agg #[.slice (some ⟨x, 0, none⟩) 4 4]) (fun x => [.row (.slice (some ⟨x, 0, none⟩) 4 4) 45 5 4 (flat En.cells ownL)]) rfl rfl rfl rfl rfl Try.func10 bawnm10 bawbd10 (fun w1 hw => own_any w1) ?_
  rintro go4
  dsimp only [List.cons_append, List.nil_append]
  refine TL.pcallPm (α := {p : Option Addr × Nat // 1 ≤ p.2 ∧ p.2 ≤ maxLen}) (fun x => .slice x.1.1 1 x.1.2) (fun x => [.row (.slice x.1.1 1 x.1.2) 39 4 1 (flat Bd.cells ([(⟨1, 3, 5, 7⟩ : Bd)]))]) rfl rfl rfl rfl rfl Try.func11 bawnm11 bawbd11 (fun w1 hw => (by have h9 := windows_any (some ⟨g3, 0, none⟩) 4 ([1, 2, 3, 4]) (some ⟨go4, 0, none⟩) 4 ownL 3 w1 (pm_rd hw (k := 1) rfl) (by decide) (pm_rd hw (k := 0) rfl); rw [awk_win] at h9; exact h9)) ?_
  rintro ⟨⟨R5, rc5⟩, hR51, hR52⟩
  dsimp only [List.cons_append, List.nil_append]
  refine TL.val rfl rfl rfl (gives_assign rfl rfl) ?_
  refine TL.end_ ?_
  refine TX.then_ ?_
  refine TC.seq_ ?_
  refine TC.region ?_
  refine TL.prowS (e := 29) (size := 1) (cs := flat (ic .u32) [1, 0, 3]) rfl rfl rfl rfl rfl (fun w => bawbs26_3_44640 _ _ _ w) (by decide) rfl (fun g6 => ?_)
  refine TL.pcallPm (α := Nat) (fun x => .agg #[.slice (some ⟨x, 0, none⟩) 4 4]) (fun x => [.row (.slice (some ⟨x, 0, none⟩) 4 4) 45 5 4 (flat En.cells ownL)]) rfl rfl rfl rfl rfl Try.func10 bawnm10 bawbd10 (fun w1 hw => own_any w1) ?_
  rintro go7
  dsimp only [List.cons_append, List.nil_append]
  refine TL.pcallPm (α := {p : Option Addr × Nat // 3 ≤ p.2 ∧ p.2 ≤ maxLen}) (fun x => .slice x.1.1 3 x.1.2) (fun x => [.row (.slice x.1.1 3 x.1.2) 3 1 3 (flat (ic .i64) ([5, 0, 7]))]) rfl rfl rfl rfl rfl Try.func9 bawnm9 bawbd9 (fun w1 hw => (by have h9 := owners_any (some ⟨g6, 0, none⟩) 3 ([1, 0, 3]) (some ⟨go7, 0, none⟩) 4 ownL 3 w1 (pm_rd hw (k := 1) rfl) (by decide) (pm_rd hw (k := 0) rfl); rw [awk_own] at h9; exact h9)) ?_
  rintro ⟨⟨R8, rc8⟩, hR81, hR82⟩
  dsimp only [List.cons_append, List.nil_append]
  refine TL.val rfl rfl rfl (gives_assign rfl rfl) ?_
  refine TL.end_ ?_
  refine TX.then_ ?_
  refine TC.seq_ ?_
  refine TC.region ?_
  refine TL.val rfl rfl rfl (gives_move rfl rfl) ?_
  refine TL.val rfl rfl rfl (gives_len rfl Try.underlying36 rfl) ?_
  refine TL.val rfl rfl rfl (gives_bin rfl rfl rfl (fun w => bin_eql_t rfl w)) ?_
  refine TL.val rfl rfl rfl (gives_move rfl rfl) ?_
  refine TL.on rfl rfl rfl ?_
  refine TL.val rfl rfl rfl (gives_move rfl rfl) ?_
  refine TL.on rfl rfl rfl ?_
  refine TL.fact (p := ∃ g, R5 = some ⟨g, 0, none⟩) (fun w1 hw => rowA hw (k := 3) rfl (by omega)) ?_
  rintro ⟨g_R5, rfl⟩
  have hi14 : 0 < ([(⟨1, 3, 5, 7⟩ : Bd)]).length := by simp
  obtain ⟨x14, hx14⟩ : ∃ x14, ([(⟨1, 3, 5, 7⟩ : Bd)])[0]? = some x14 := ⟨_, List.getElem?_eq_getElem hi14⟩
  have he14 : x14 = ⟨1, 3, 5, 7⟩ := by simpa using hx14.symm
  refine TL.val rfl rfl rfl (gives_at (v := .pointer (some ⟨g_R5, 0 + 0 * 4, none⟩)) rfl rfl rfl (fun w => at_el Try.underlying36 bawsz39 rfl _ _ 0 (by omega) rfl w)) ?_
  refine TL.on rfl rfl rfl ?_
  refine TL.val rfl rfl rfl (gives_loadR (off := 0 + 0 * 4) rfl rfl bawag39 bawsz39 (bd_cel.len x14) (fun w1 hw j9 u9 h9 => flat_row bd_cel hw (q := 3) rfl hx14 j9 u9 h9)) ?_
  refine TL.on rfl rfl rfl ?_
  refine TL.val rfl rfl rfl (gives_build (v := .agg #[.int .u32 1, .int .u32 3, .int .i64 5, .int .i64 7]) rfl rfl (fun w => bawbld39_98496 _ _ _ _ w)) ?_
  refine TL.on rfl rfl rfl ?_
  refine TL.val rfl rfl rfl (gives_bin2 (v := .bool true) rfl rfl rfl (fun w => bd_eql_is (y := ⟨1, 3, 5, 7⟩) (by rw [he14]; rfl) _ _ w)) ?_
  refine TL.val rfl rfl rfl (gives_pick rfl rfl rfl) ?_
  refine TL.val rfl rfl rfl (gives_move rfl rfl) ?_
  refine TL.on rfl rfl rfl ?_
  refine TL.val rfl rfl rfl (gives_move rfl rfl) ?_
  refine TL.on rfl rfl rfl ?_
  refine TL.prowS (e := 3) (size := 1) (cs := flat (ic .i64) [5, 0, 7]) rfl rfl rfl rfl rfl (fun w => bawbs30_3_44640 _ _ _ w) (by decide) rfl (fun g21 => ?_)
  refine TL.on rfl rfl rfl ?_
  refine TL.pcall1 (r := .bool true) rfl rfl rfl rfl rfl Try.func18 bawnm18 bawbd18 (fun w1 hw => (by have h9 := ints_any R8 rc8 ([5, 0, 7]) (some ⟨g21, 0, none⟩) 3 ([5, 0, 7]) w1 (pm_rd hw (k := 1) rfl) (by decide) (pm_rd hw (k := 0) rfl) (by decide); rw [show decide (([5, 0, 7] : List Int) = [5, 0, 7]) = true from rfl] at h9; exact h9)) ?_
  refine TL.val rfl rfl rfl (gives_pick rfl rfl rfl) ?_
  refine TL.val rfl rfl rfl (gives_move rfl rfl) ?_
  refine TL.on rfl rfl rfl ?_
  refine TL.prowS (e := 29) (size := 1) (cs := flat (ic .u32) [1]) rfl rfl rfl rfl rfl (fun w => bawbs26_1_5377 _ w) (by decide) rfl (fun g25 => ?_)
  refine TL.on rfl rfl rfl ?_
  refine TL.prowS (e := 29) (size := 1) (cs := flat (ic .u32) [3, 4]) rfl rfl rfl rfl rfl (fun w => bawbs26_2_20249 _ _ w) (by decide) rfl (fun g26 => ?_)
  refine TL.on rfl rfl rfl ?_
  refine TL.pcallPm (α := Nat) (fun x => .agg #[.slice (some ⟨x, 0, none⟩) 4 4]) (fun x => [.row (.slice (some ⟨x, 0, none⟩) 4 4) 45 5 4 (flat En.cells ownL)]) rfl rfl rfl rfl rfl Try.func10 bawnm10 bawbd10 (fun w1 hw => own_any w1) ?_
  rintro go27
  dsimp only [List.cons_append, List.nil_append]
  refine TL.on rfl rfl rfl ?_
  refine TL.pcall1 (r := .int .i64 7) rfl rfl rfl rfl rfl Try.func15 bawnm15 bawbd15 (fun w1 hw => (votes_any (some ⟨g25, 0, none⟩) 1 ([1]) (some ⟨g26, 0, none⟩) 2 ([3, 4]) (some ⟨go27, 0, none⟩) 4 ownL 3 w1 (pm_rd hw (k := 2) rfl) (pm_rd hw (k := 1) rfl) (pm_rd hw (k := 0) rfl) (by decide) (by decide)).mono fun e w2 ⟨x, h1, h2⟩ => ⟨by rw [h1, awk_v1 x.2], h2⟩) ?_
  refine TL.on rfl rfl rfl ?_
  refine TL.val rfl rfl rfl (gives_bin rfl rfl rfl (fun w => bin_eql_t rfl w)) ?_
  refine TL.val rfl rfl rfl (gives_pick rfl rfl rfl) ?_
  refine TL.val rfl rfl rfl (gives_move rfl rfl) ?_
  refine TL.on rfl rfl rfl ?_
  refine TL.prowS (e := 29) (size := 1) (cs := flat (ic .u32) [1]) rfl rfl rfl rfl rfl (fun w => bawbs26_1_5377 _ w) (by decide) rfl (fun g32 => ?_)
  refine TL.on rfl rfl rfl ?_
  refine TL.prowS (e := 29) (size := 1) (cs := flat (ic .u32) [3]) rfl rfl rfl rfl rfl (fun w => bawbs26_1_5377 _ w) (by decide) rfl (fun g33 => ?_)
  refine TL.on rfl rfl rfl ?_
  refine TL.pcallPm (α := Nat) (fun x => .agg #[.slice (some ⟨x, 0, none⟩) 4 4]) (fun x => [.row (.slice (some ⟨x, 0, none⟩) 4 4) 45 5 4 (flat En.cells ownL)]) rfl rfl rfl rfl rfl Try.func10 bawnm10 bawbd10 (fun w1 hw => own_any w1) ?_
  rintro go34
  dsimp only [List.cons_append, List.nil_append]
  refine TL.on rfl rfl rfl ?_
  refine TL.pcall1 (r := .int .i64 5) rfl rfl rfl rfl rfl Try.func15 bawnm15 bawbd15 (fun w1 hw => (votes_any (some ⟨g32, 0, none⟩) 1 ([1]) (some ⟨g33, 0, none⟩) 1 ([3]) (some ⟨go34, 0, none⟩) 4 ownL 3 w1 (pm_rd hw (k := 2) rfl) (pm_rd hw (k := 1) rfl) (pm_rd hw (k := 0) rfl) (by decide) (by decide)).mono fun e w2 ⟨x, h1, h2⟩ => ⟨by rw [h1, awk_v2 x.2], h2⟩) ?_
  refine TL.on rfl rfl rfl ?_
  refine TL.val rfl rfl rfl (gives_bin rfl rfl rfl (fun w => bin_eql_t rfl w)) ?_
  refine TL.val rfl rfl rfl (gives_pick rfl rfl rfl) ?_
  refine TL.val rfl rfl rfl (gives_assign rfl rfl) ?_
  refine TL.end_ ?_
  refine TX.then_ ?_
  refine TC.ret_ ?_
  exact ret_tmp Try.results6 rfl (fun w1 hw => ⟨rfl, hw.bel⟩)
end Go.Proofs.Ytmbcclgnjobikaa
