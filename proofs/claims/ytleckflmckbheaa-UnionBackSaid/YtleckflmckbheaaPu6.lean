/-
  Texts of the proof, joined: UnAwk, UnLawF, UnDraw, Frame, UnEq.
-/
import Derived.Test.YtleckflmckbheaaPu5
import Derived.Test.YtleckflmckbheaaPu4
import Derived.Test.YtleckflmckbheaaPu2
import Derived.Test.YtleckflmckbheaaPu1
import Derived.Test.YtleckflmckbheaaRows
import Derived.Laws.StructEq
namespace Go.Proofs.Ytleckflmckbheaa
open Go.RowKit
set_option linter.unusedVariables false
set_option linter.unusedSimpArgs false
set_option maxRecDepth 20000
def awk : List Fc := [⟨1, 5, 7⟩, ⟨2, 7, 9⟩, ⟨3, 5, 9⟩]
def awp : List Fc := [⟨1, 5, 7⟩, ⟨2, 7, 9⟩]
theorem awk_ok : ∀ f ∈ awk, f.Ok := by
  intro f hf
  simp only [awk, List.mem_cons, List.not_mem_nil, or_false] at hf
  rcases hf with rfl | rfl | rfl <;> exact ⟨by decide, by decide, by decide, by decide⟩
theorem awp_ok : ∀ f ∈ awp, f.Ok := by
  intro f hf
  simp only [awp, List.mem_cons, List.not_mem_nil, or_false] at hf
  rcases hf with rfl | rfl <;> exact ⟨by decide, by decide, by decide, by decide⟩
theorem awk_valid : validF awk := by
  refine ⟨by decide, fun i hi f hf => ?_⟩
  have hi : i < 3 := hi
  match i, hi with
  | 0, _ => cases hf; exact ⟨by decide, by decide, fun g h0 _ => absurd h0 (by decide)⟩
  | 1, _ => cases hf; exact ⟨by decide, by decide, fun g _ hg => by cases hg; decide⟩
  | 2, _ => cases hf; exact ⟨by decide, by decide, fun g _ hg => by cases hg; decide⟩
theorem awk_for : forest awk = awp := by decide
theorem awk_forest : forV awk = awp := (if_pos awk_valid).trans awk_for
theorem awk_same : validF awk ∧ repF awk 5 = repF awk 9 := ⟨awk_valid, by decide⟩
theorem awk_apart : ¬ (validF awk ∧ repF awk 5 = repF awk 8) := fun h => absurd h.2 (by decide)
theorem awk_explain {p : List Fc} {ok : Bool} (h : ExOk awk 5 9 (p, ok)) : p = awp ∧ ok = true := by
  obtain ⟨h1, _, h3⟩ := h
  have hok : ok = true := h1.2 awk_same
  refine ⟨?_, hok⟩
  refine (forest_frs awk_valid).only _ _ 5 (-1) (-1) 9 (h3 hok) ?_
  rw [awk_for]
  exact ⟨by decide, by decide, by decide, by decide, by decide, by decide, (by show oth (⟨2, 7, 9⟩ : Fc) (oth (⟨1, 5, 7⟩ : Fc) 5) = 9; decide)⟩
theorem awk_rem : remP awk 1 = ([⟨2, 7, 9⟩, ⟨3, 5, 9⟩], 0) := by
  unfold remP
  rw [if_pos awk_valid]
  rfl
theorem awk_bridge {b : Bool} {e : Int} (h : BrOk awk 1 (b, e)) : b = false ∧ e = 0 := by
  obtain ⟨h1, _, h3⟩ := h
  rw [awk_rem] at h1
  have he : e = 0 := h1
  refine ⟨?_, he⟩
  obtain ⟨i, x, hi, hx, hb⟩ := h3 he
  have hi0 : ixF awk 1 = some 0 := rfl
  rw [hi0] at hi
  cases hi
  cases hx
  cases b with
  | false => rfl
  | true =>
    exfalso
    refine hb.1 rfl ⟨⟨by decide, fun j hj f hf => ?_⟩, by decide⟩
    have hj : j < 2 := hj
    match j, hj with
    | 0, _ => cases hf; exact ⟨by decide, by decide, fun g h0 _ => absurd h0 (by decide)⟩
    | 1, _ => cases hf; exact ⟨by decide, by decide, fun g _ hg => by cases hg; decide⟩
theorem awk_asc : asc (adrs awk) = [5, 7, 9] := by
  refine asc_eq _ _ (asc_asc _) (by decide) fun x => ?_
  rw [mem_asc]
  show x ∈ ([5, 7, 7, 9, 5, 9] : List Int) ↔ _
  simp only [List.mem_cons, List.not_mem_nil, or_false]
  omega
theorem awk_len {ss : List (Sg Int)} (h : ss.map (·.l) = clsV awk) : ss.length = 1 := by
  have h1 : (clsV awk).length = 1 := by
    rw [show clsV awk = clsL awk from if_pos awk_valid]
    unfold clsL
    rw [awk_asc]
    decide
  rw [← h1, ← h, List.length_map]
theorem check_is (A0 : Option Addr) (n0 c0 : Nat) (l : List Fc) (w : World) (hr : Reads w w.heap.size 3 A0 n0 (fcs l)) (hl : l.length = n0) (hok : ∀ f ∈ l, f.Ok) (hl1 : l.length ≤ 100000) (a b : Int) (ht : chkF l a = some b) : Calls Try.prog 18 #[.slice A0 n0 c0, .int .u32 a, .int .u32 b] w fun e w' => e = .returned (.bool true) ∧ Below w.heap.size w w' := by
  have := check_any A0 n0 c0 l w hr hl hok hl1 a b
  rwa [decide_eq_true ht] at this
theorem valid_is (A : Option Addr) (n c : Nat) (l : List Fc) (w : World) (hr : Reads w w.heap.size 3 A n (fcs l)) (hl : l.length = n) {t : Bool} (ht : decide (validF l) = t) : Calls Try.prog 22 #[.slice A n c] w fun e w' => e = .returned (.bool t) ∧ Below w.heap.size w w' := by
  subst ht
  exact valid_any A n c l w hr hl
theorem segperm (r : Pc) (S P T : List Pc) : (([r] ++ S) ++ (P ++ T)).Perm ((r :: P) ++ (S ++ T)) := by
  refine List.Perm.cons r ?_
  show (S ++ (P ++ T)).Perm (P ++ (S ++ T))
  rw [← List.append_assoc, ← List.append_assoc]
  exact List.Perm.append_right T List.perm_append_comm
theorem segperm0 (r : Pc) (S P : List Pc) : (([r] ++ S) ++ P).Perm ((r :: P) ++ S) := List.Perm.cons r List.perm_append_comm
theorem uawbld42_57313 (a0_0 : Int) (a1_0 : Int) (a2_0 : Int) (w : World) : (Instr.build 42 #[(0, .int .i64 a0_0), (1, .int .u32 a1_0), (2, .int .u32 a2_0)]).run Try.prog w = .ok (.agg #[.int .i64 a0_0, .int .u32 a1_0, .int .u32 a2_0]) w := by kernel_rfl
theorem uawbs26_3_90897 (a0_0 : Int) (a0_1 : Int) (a0_2 : Int) (a1_0 : Int) (a1_1 : Int) (a1_2 : Int) (a2_0 : Int) (a2_1 : Int) (a2_2 : Int) (w : World) : (Instr.buildSlice 26 3 #[(0, .agg #[.int .i64 a0_0, .int .u32 a0_1, .int .u32 a0_2]), (1, .agg #[.int .i64 a1_0, .int .u32 a1_1, .int .u32 a1_2]), (2, .agg #[.int .i64 a2_0, .int .u32 a2_1, .int .u32 a2_2])]).run Try.prog w = .ok (.slice (some ⟨w.heap.size, 0, none⟩) 3 3) (w.alloc (.cells [.int .i64 a0_0, .int .u32 a0_1, .int .u32 a0_2, .int .i64 a1_0, .int .u32 a1_1, .int .u32 a1_2, .int .i64 a2_0, .int .u32 a2_1, .int .u32 a2_2].toArray 42)) := by kernel_rfl
theorem uawnm16 : (Try.f16.name == "runtime.NumGoroutine") = false := by decide
theorem uawbd16 : Try.f16.body.isNone = false := rfl
theorem uawnm19 : (Try.f19.name == "runtime.NumGoroutine") = false := by decide
theorem uawbd19 : Try.f19.body.isNone = false := rfl
theorem uawnm12 : (Try.f12.name == "runtime.NumGoroutine") = false := by decide
theorem uawbd12 : Try.f12.body.isNone = false := rfl
theorem uawsz42 (w : World) : (sizeOf 42).run Try.prog w = .ok 3 w := rfl
theorem uawfld42_0 (g o : Nat) (w : World) : (Instr.fieldAt 42 (.pointer (some ⟨g, o, none⟩)) 0).run Try.prog w = .ok (.pointer (some ⟨g, o + 0, none⟩)) w := by kernel_rfl
theorem uawag3 (w : World) : (isAgg 3).run Try.prog w = .ok false w := rfl
theorem uawnm17 : (Try.f17.name == "runtime.NumGoroutine") = false := by decide
theorem uawbd17 : Try.f17.body.isNone = false := rfl
theorem uawnm18 : (Try.f18.name == "runtime.NumGoroutine") = false := by decide
theorem uawbd18 : Try.f18.body.isNone = false := rfl
theorem uawnm11 : (Try.f11.name == "runtime.NumGoroutine") = false := by decide
theorem uawbd11 : Try.f11.body.isNone = false := rfl
theorem uawnm22 : (Try.f22.name == "runtime.NumGoroutine") = false := by decide
theorem uawbd22 : Try.f22.body.isNone = false := rfl
set_option maxHeartbeats 1000000 in
theorem awake_true (w : World) : Calls Try.prog 8 #[] w fun e w' => e = .returned (.bool true) ∧ Below w.heap.size w w' := by
  refine begin_ (vs := []) Try.func8 rfl rfl rfl ?_ (Pm.start w)
  refine TC.seq_ ?_
  refine TC.region ?_
  refine TL.val rfl rfl rfl (gives_assign rfl rfl) ?_
  refine TL.end_ ?_
  refine TX.then_ ?_
  refine TC.seq_ ?_
  refine TC.region ?_
  refine TL.val rfl rfl rfl (gives_build (v := .agg #[.int .i64 1, .int .u32 5, .int .u32 7]) rfl rfl (fun w => uawbld42_57313 _ _ _ w)) ?_
  refine TL.val rfl rfl rfl (gives_build (v := .agg #[.int .i64 2, .int .u32 7, .int .u32 9]) rfl rfl (fun w => uawbld42_57313 _ _ _ w)) ?_
  refine TL.val rfl rfl rfl (gives_build (v := .agg #[.int .i64 3, .int .u32 5, .int .u32 9]) rfl rfl (fun w => uawbld42_57313 _ _ _ w)) ?_
  refine TL.prowS (e := 42) (size := 3) (cs := fcs awk) rfl rfl rfl rfl rfl (fun w => uawbs26_3_90897 _ _ _ _ _ _ _ _ _ w) (by decide) rfl (fun g9 => ?_)
  refine TL.val rfl rfl rfl (gives_assign rfl rfl) ?_
  refine TL.end_ ?_
  refine TX.then_ ?_
  refine TC.seq_ ?_
  refine TC.region ?_
  refine TL.val rfl rfl rfl (gives_move rfl rfl) ?_
  refine TL.pcallPm (α := {y : (Option Addr × Nat) × List Fc × Bool // ExOk awk 5 9 y.2 ∧ y.2.1.length ≤ y.1.2 ∧ y.1.2 ≤ maxLen}) (fun y => .tuple #[.slice y.1.1.1 y.1.2.1.length y.1.1.2, .bool y.1.2.2]) (fun y => [.row (.slice y.1.1.1 y.1.2.1.length y.1.1.2) 42 3 y.1.2.1.length (fcs y.1.2.1)]) rfl rfl rfl rfl rfl Try.func16 uawnm16 uawbd16 (fun w1 hw => explain_any (some ⟨g9, 0, none⟩) _ 3 awk w1 (by obtain ⟨B9, h8⟩ := pm_reads hw (k := 0) rfl; exact reads_up h8 (pm_row_lt hw (k := 0) rfl)) rfl awk_ok 5 9 (by decide) (by decide)) ?_
  rintro ⟨⟨⟨AP, cp⟩, p, ok⟩, hex, hcp1, hcp2⟩
  dsimp only [List.cons_append, List.nil_append] at hex hcp1 hcp2 ⊢
  obtain ⟨rfl, rfl⟩ := awk_explain hex
  refine TL.fact (p := ∃ g, AP = some ⟨g, 0, none⟩) (fun w1 hw => rowA hw (k := 0) rfl (by decide)) ?_
  rintro ⟨gp, rfl⟩
  refine TL.val rfl rfl rfl (gives_move rfl rfl) ?_
  refine TL.val rfl rfl rfl (gives_extract rfl rfl rfl) ?_
  refine TL.val rfl rfl rfl (gives_extract rfl rfl rfl) ?_
  refine TL.val rfl rfl rfl (gives_assign rfl rfl) ?_
  refine TL.val rfl rfl rfl (gives_assign rfl rfl) ?_
  refine TL.end_ ?_
  refine TX.then_ ?_
  refine TC.seq_ ?_
  refine TC.region ?_
  refine TL.val rfl rfl rfl (gives_move rfl rfl) ?_
  refine TL.pcallPm (α := {y : Bool × Int // BrOk awk 1 y}) (fun y => .tuple #[.bool y.1.1, .int .i64 y.1.2]) (fun _ => []) rfl rfl rfl rfl rfl Try.func19 uawnm19 uawbd19 (fun w1 hw => (bridge_any (some ⟨g9, 0, none⟩) _ 3 awk w1 (by obtain ⟨B9, h8⟩ := pm_reads hw (k := 1) rfl; exact reads_up h8 (pm_row_lt hw (k := 1) rfl)) rfl awk_ok 1).mono fun e w2 ⟨x, h1, h2⟩ => ⟨x, h1, (Pm.start w1).below h2⟩) ?_
  rintro ⟨⟨b, e⟩, hbr⟩
  dsimp only [List.cons_append, List.nil_append] at hbr ⊢
  obtain ⟨rfl, rfl⟩ := awk_bridge hbr
  refine TL.val rfl rfl rfl (gives_move rfl rfl) ?_
  refine TL.val rfl rfl rfl (gives_extract rfl rfl rfl) ?_
  refine TL.val rfl rfl rfl (gives_extract rfl rfl rfl) ?_
  refine TL.val rfl rfl rfl (gives_assign rfl rfl) ?_
  refine TL.val rfl rfl rfl (gives_assign rfl rfl) ?_
  refine TL.end_ ?_
  refine TX.then_ ?_
  refine TC.seq_ ?_
  refine TC.region ?_
  refine TL.val rfl rfl rfl (gives_move rfl rfl) ?_
  refine TL.pcallRow (n := awp.length) (ys := fcs awp) rfl rfl rfl rfl rfl Try.func12 uawnm12 uawbd12 (fun w1 hw => by have h9 := forest_any (some ⟨g9, 0, none⟩) 3 3 awk w1 (by obtain ⟨B9, h8⟩ := pm_reads hw (k := 1) rfl; exact reads_up h8 (pm_row_lt hw (k := 1) rfl)) rfl awk_ok; rw [awk_forest] at h9; exact h9) (fun AF21 cF21 hF211 hF212 => ?_)
  refine TL.val rfl rfl rfl (gives_len rfl Try.underlying26 rfl) ?_
  refine TL.val rfl rfl rfl (gives_bin rfl rfl rfl (fun w => bin_eql_t (rfl) w)) ?_
  refine TL.val rfl rfl rfl (gives_move rfl rfl) ?_
  refine TL.on rfl rfl rfl ?_
  refine TL.val rfl rfl rfl (gives_move rfl rfl) ?_
  refine TL.val rfl rfl rfl (gives_pick rfl rfl rfl) ?_
  refine TL.val rfl rfl rfl (gives_move rfl rfl) ?_
  refine TL.on rfl rfl rfl ?_
  refine TL.val rfl rfl rfl (gives_move rfl rfl) ?_
  refine TL.on rfl rfl rfl ?_
  refine TL.val rfl rfl rfl (gives_len rfl Try.underlying26 rfl) ?_
  refine TL.on rfl rfl rfl ?_
  refine TL.val rfl rfl rfl (gives_bin rfl rfl rfl (fun w => bin_eql_t (rfl) w)) ?_
  refine TL.val rfl rfl rfl (gives_pick rfl rfl rfl) ?_
  refine TL.val rfl rfl rfl (gives_move rfl rfl) ?_
  refine TL.on rfl rfl rfl ?_
  refine TL.val rfl rfl rfl (gives_move rfl rfl) ?_
  refine TL.on rfl rfl rfl ?_
  refine TL.val rfl rfl rfl (gives_at (v := .pointer (some ⟨gp, 0 + 0 * 3, none⟩)) rfl rfl rfl (fun w => at_el Try.underlying26 uawsz42 rfl _ _ 0 (by decide) rfl w)) ?_
  refine TL.on rfl rfl rfl ?_
  refine TL.val rfl rfl rfl (gives_field (v := .pointer (some ⟨gp, 0 + 0 * 3 + 0, none⟩)) rfl rfl (fun w => uawfld42_0 _ _ w)) ?_
  refine TL.on rfl rfl rfl ?_
  refine TL.val rfl rfl rfl (gives_load (v := .int .i64 1) rfl rfl uawag3 (fun w1 hw => fc_row hw (k := 1) (i := 0) rfl rfl 0 _ rfl)) ?_
  refine TL.on rfl rfl rfl ?_
  refine TL.val rfl rfl rfl (gives_bin rfl rfl rfl (fun w => bin_eql_t (rfl) w)) ?_
  refine TL.val rfl rfl rfl (gives_pick rfl rfl rfl) ?_
  refine TL.val rfl rfl rfl (gives_move rfl rfl) ?_
  refine TL.on rfl rfl rfl ?_
  refine TL.val rfl rfl rfl (gives_move rfl rfl) ?_
  refine TL.on rfl rfl rfl ?_
  refine TL.val rfl rfl rfl (gives_at (v := .pointer (some ⟨gp, 0 + 1 * 3, none⟩)) rfl rfl rfl (fun w => at_el Try.underlying26 uawsz42 rfl _ _ 1 (by decide) rfl w)) ?_
  refine TL.on rfl rfl rfl ?_
  refine TL.val rfl rfl rfl (gives_field (v := .pointer (some ⟨gp, 0 + 1 * 3 + 0, none⟩)) rfl rfl (fun w => uawfld42_0 _ _ w)) ?_
  refine TL.on rfl rfl rfl ?_
  refine TL.val rfl rfl rfl (gives_load (v := .int .i64 2) rfl rfl uawag3 (fun w1 hw => fc_row hw (k := 1) (i := 1) rfl rfl 0 _ rfl)) ?_
  refine TL.on rfl rfl rfl ?_
  refine TL.val rfl rfl rfl (gives_bin rfl rfl rfl (fun w => bin_eql_t (rfl) w)) ?_
  refine TL.val rfl rfl rfl (gives_pick rfl rfl rfl) ?_
  refine TL.val rfl rfl rfl (gives_move rfl rfl) ?_
  refine TL.on rfl rfl rfl ?_
  refine TL.val rfl rfl rfl (gives_move rfl rfl) ?_
  refine TL.on rfl rfl rfl ?_
  refine TL.val rfl rfl rfl (gives_boolnot rfl rfl) ?_
  refine TL.val rfl rfl rfl (gives_pick rfl rfl rfl) ?_
  refine TL.val rfl rfl rfl (gives_move rfl rfl) ?_
  refine TL.on rfl rfl rfl ?_
  refine TL.val rfl rfl rfl (gives_move rfl rfl) ?_
  refine TL.on rfl rfl rfl ?_
  refine TL.val rfl rfl rfl (gives_bin rfl rfl rfl (fun w => bin_eql_t (rfl) w)) ?_
  refine TL.val rfl rfl rfl (gives_pick rfl rfl rfl) ?_
  refine TL.val rfl rfl rfl (gives_move rfl rfl) ?_
  refine TL.on rfl rfl rfl ?_
  refine TL.val rfl rfl rfl (gives_move rfl rfl) ?_
  refine TL.on rfl rfl rfl ?_
  refine TL.pcall1 (r := .bool true) rfl rfl rfl rfl rfl Try.func17 uawnm17 uawbd17 (fun w1 hw => same_is (some ⟨g9, 0, none⟩) 3 3 awk w1 (by obtain ⟨B9, h8⟩ := pm_reads hw (k := 2) rfl; exact reads_up h8 (pm_row_lt hw (k := 2) rfl)) rfl awk_ok 5 9 (by decide) (by decide) (decide_eq_true awk_same)) ?_
  refine TL.val rfl rfl rfl (gives_pick rfl rfl rfl) ?_
  refine TL.val rfl rfl rfl (gives_move rfl rfl) ?_
  refine TL.on rfl rfl rfl ?_
  refine TL.val rfl rfl rfl (gives_move rfl rfl) ?_
  refine TL.on rfl rfl rfl ?_
  refine TL.pcall1 (r := .bool false) rfl rfl rfl rfl rfl Try.func17 uawnm17 uawbd17 (fun w1 hw => same_is (some ⟨g9, 0, none⟩) 3 3 awk w1 (by obtain ⟨B9, h8⟩ := pm_reads hw (k := 2) rfl; exact reads_up h8 (pm_row_lt hw (k := 2) rfl)) rfl awk_ok 5 8 (by decide) (by decide) (decide_eq_false awk_apart)) ?_
  refine TL.on rfl rfl rfl ?_
  refine TL.val rfl rfl rfl (gives_boolnot rfl rfl) ?_
  refine TL.val rfl rfl rfl (gives_pick rfl rfl rfl) ?_
  refine TL.val rfl rfl rfl (gives_move rfl rfl) ?_
  refine TL.on rfl rfl rfl ?_
  refine TL.val rfl rfl rfl (gives_move rfl rfl) ?_
  refine TL.on rfl rfl rfl ?_
  refine TL.pcall1 (r := .bool true) rfl rfl rfl rfl rfl Try.func18 uawnm18 uawbd18 (fun w1 hw => (check_is (some ⟨gp, 0, none⟩) _ cp awp w1 (by obtain ⟨B9, h8⟩ := pm_reads hw (k := 1) rfl; exact reads_up h8 (pm_row_lt hw (k := 1) rfl)) rfl awp_ok (by decide) 5 9 (by decide))) ?_
  refine TL.val rfl rfl rfl (gives_pick rfl rfl rfl) ?_
  refine TL.val rfl rfl rfl (gives_move rfl rfl) ?_
  refine TL.on rfl rfl rfl ?_
  refine TL.val rfl rfl rfl (gives_move rfl rfl) ?_
  refine TL.on rfl rfl rfl ?_
  refine TL.pcallPm (α := {y : (Option Addr × Nat) × List (Sg Int) // y.2.map (·.l) = clsV awk ∧ y.2.length ≤ y.1.2 ∧ y.1.2 ≤ maxLen}) (fun y => .slice y.1.1.1 y.1.2.length y.1.1.2) (fun y => [.row (.slice y.1.1.1 y.1.2.length y.1.1.2) 31 1 y.1.2.length (y.1.2.map Sg.val)] ++ segG 35 1 uv y.1.2) rfl rfl rfl rfl rfl Try.func11 uawnm11 uawbd11 (fun w1 hw => clss_any (some ⟨g9, 0, none⟩) 3 3 awk w1 (by obtain ⟨B9, h8⟩ := pm_reads hw (k := 2) rfl; exact reads_up h8 (pm_row_lt hw (k := 2) rfl)) rfl awk_ok) ?_ (fun y => segG_noAbs (e := 35) (size := 1) (enc := uv) y.1.2)
  rintro ⟨⟨⟨AC, cC⟩, ss⟩, hcs, hcc, hcd⟩
  dsimp only at hcs hcc hcd ⊢
  refine TL.mem (I' := Pm w ([.row (.slice AC ss.length cC) 31 1 ss.length (ss.map Sg.val), .row (.slice AF21 awp.length cF21) 42 3 awp.length (fcs awp), .row (.slice (some ⟨gp, 0, none⟩) awp.length cp) 42 3 awp.length (fcs awp), .row (.slice (some ⟨g9, 0, none⟩) 3 3) 42 3 3 (fcs awk)] ++ segG 35 1 uv ss)) (fun w1 hw => hw.permute (segperm0 _ _ _)) ?_
  refine TL.on rfl rfl rfl ?_
  refine TL.val rfl rfl rfl (gives_len rfl Try.underlying28 rfl) ?_
  refine TL.on rfl rfl rfl ?_
  refine TL.val rfl rfl rfl (gives_bin rfl rfl rfl (fun w => bin_eql_t (by rw [awk_len hcs]; rfl) w)) ?_
  refine TL.val rfl rfl rfl (gives_pick rfl rfl rfl) ?_
  refine TL.val rfl rfl rfl (gives_move rfl rfl) ?_
  refine TL.on rfl rfl rfl ?_
  refine TL.val rfl rfl rfl (gives_move rfl rfl) ?_
  refine TL.on rfl rfl rfl ?_
  refine TL.pcall1 (r := .bool true) rfl rfl rfl rfl rfl Try.func22 uawnm22 uawbd22 (fun w1 hw => (valid_is (some ⟨g9, 0, none⟩) _ 3 awk w1 (by obtain ⟨B9, h8⟩ := pm_reads hw (k := 3) rfl; exact reads_up h8 (pm_row_lt hw (k := 3) rfl)) rfl (decide_eq_true awk_valid))) ?_
  refine TL.val rfl rfl rfl (gives_pick rfl rfl rfl) ?_
  refine TL.val rfl rfl rfl (gives_assign rfl rfl) ?_
  refine TL.end_ ?_
  refine TX.then_ ?_
  refine TC.ret_ ?_
  exact ret_tmp Try.results8 rfl (fun w1 hw => ⟨rfl, hw.bel⟩)
end Go.Proofs.Ytleckflmckbheaa

namespace Go.Proofs.Ytleckflmckbheaa
open Go.RowKit
set_option linter.unusedVariables false
set_option linter.unusedSimpArgs false
theorem validF_iff (l : List Fc) : validF l ↔ l.length ≤ 1024 ∧ (∀ f ∈ l, 0 ≤ f.id ∧ f.a ≠ f.b) ∧ l.Pairwise fun x y => x.id < y.id := by
  constructor
  · intro h
    refine ⟨h.1, fun f hf => ?_, List.pairwise_iff_getElem.2 fun i j hi hj hij => ?_⟩
    · obtain ⟨p, hp⟩ := List.getElem?_of_mem hf
      have := h.2 p (List.getElem?_eq_some_iff.1 hp).1 f hp
      exact ⟨this.1, this.2.1⟩
    · exact h.asc i j _ _ hij (List.getElem?_eq_getElem hi) (List.getElem?_eq_getElem hj)
  · rintro ⟨h1, h2, h3⟩
    refine ⟨h1, fun i hi f hf => ?_⟩
    have hm := h2 f (List.mem_of_getElem? hf)
    refine ⟨hm.1, hm.2, fun g h0 hg => ?_⟩
    obtain ⟨a1, rfl⟩ := List.getElem?_eq_some_iff.1 hf
    obtain ⟨a2, rfl⟩ := List.getElem?_eq_some_iff.1 hg
    exact List.pairwise_iff_getElem.1 h3 (i - 1) i a2 a1 (by omega)
theorem forF_sublist : ∀ (l : List Fc) (R : Int → Int), (forF R l).Sublist l
  | [], _ => List.Sublist.refl _
  | f :: l, R => by
    rw [forF]
    split
    · exact (forF_sublist l R).cons _
    · exact (forF_sublist l _).cons_cons _
theorem validF_sub {l l' : List Fc} (h : validF l) (hs : l'.Sublist l) : validF l' := by
  rw [validF_iff] at h ⊢
  exact ⟨Nat.le_trans hs.length_le h.1, fun f hf => h.2.1 f (hs.subset hf), h.2.2.sublist hs⟩
theorem validF_forest {l : List Fc} (h : validF l) : validF (forest l) := validF_sub h (forF_sublist l _)
theorem asc_same {a b : List Int} (h : ∀ x, x ∈ a ↔ x ∈ b) : asc a = asc b := asc_eq _ _ (asc_asc a) (asc_asc b) fun x => by rw [mem_asc, mem_asc]; exact h x
theorem clsV_forest {l : List Fc} (h : validF l) : clsV l = clsV (forest l) := by
  rw [show clsV l = clsL l from if_pos h, show clsV (forest l) = clsL (forest l) from if_pos (validF_forest h)]
  unfold clsL
  rw [forest_rep, asc_same fun x => forest_adrs (fun f hf => (((validF_iff l).1 h).2.1 f hf).2) x]
theorem forest_sum {l : List Fc} {ss : List (Sg Int)} (h : validF l) (hs : ss.map (·.l) = clsV l) : (forest l).length + ss.length = (ss.map (fun s => s.l.length)).sum := by
  have e1 : ss.map (fun s => s.l.length) = (clsV l).map List.length := by rw [← hs, List.map_map]; rfl
  have e2 : ss.length = (clsV l).length := by rw [← hs, List.length_map]
  rw [e1, e2, show clsV l = clsL l from if_pos h]
  have h1 := forest_count (l := l) (asc_nodup (adrs l)) fun f hf => ⟨(mem_asc _ _).2 (mem_adrs.2 ⟨f, hf, .inl rfl⟩), (mem_asc _ _).2 (mem_adrs.2 ⟨f, hf, .inr rfl⟩)⟩
  have h2 := cls_sum (repF l) (asc (adrs l))
  unfold clsL
  omega
theorem clsV_small {l : List Fc} {ss : List (Sg Int)} (h : validF l) (hl : l.length ≤ 100) (hs : ss.map (·.l) = clsV l) : ss.length ≤ 200 ∧ ∀ s ∈ ss, s.l.length ≤ 100000 := by
  have e2 : ss.length = (clsV l).length := by rw [← hs, List.length_map]
  have hasc : (asc (adrs l)).length ≤ 200 := by have := asc_len (adrs l); rw [adrs_len] at this; omega
  rw [show clsV l = clsL l from if_pos h] at hs e2
  refine ⟨?_, fun s hm => ?_⟩
  · rw [e2]
    unfold clsL
    rw [cls_len]
    have h1 := forest_count (l := l) (asc_nodup (adrs l)) fun f hf => ⟨(mem_asc _ _).2 (mem_adrs.2 ⟨f, hf, .inl rfl⟩), (mem_asc _ _).2 (mem_adrs.2 ⟨f, hf, .inr rfl⟩)⟩
    rw [cls_len] at h1
    omega
  · have : s.l ∈ clsL l := by rw [← hs]; exact List.mem_map.2 ⟨s, hm, rfl⟩
    unfold clsL cls at this
    obtain ⟨r, _, e⟩ := List.mem_map.1 this
    rw [← e]
    have := List.length_filter_le (fun x => decide (repF l x = r)) (asc (adrs l))
    omega
theorem sc_is (A1 A2 : Option Addr) (n1 n2 c1 c2 : Nat) (ss ts : List (Sg Int)) (w : World) (h1 : Rd2 w A1 ss) (h2 : Rd2 w A2 ts) (hn1 : ss.length = n1) (hn2 : ts.length = n2) (hm1 : ss.length ≤ 100000) (hm2 : ts.length ≤ 100000) {t : Bool} (ht : decide (ss.map (·.l) = ts.map (·.l)) = t) : Calls Try.prog 13 #[.slice A1 n1 c1, .slice A2 n2 c2] w fun e w' => e = .returned (.bool t) ∧ Below w.heap.size w w' := by
  subst ht
  exact sc_any A1 A2 n1 n2 c1 c2 ss ts w h1 h2 hn1 hn2 hm1 hm2
end Go.Proofs.Ytleckflmckbheaa

namespace Go.Proofs.Ytleckflmckbheaa
open Go.RowKit
set_option linter.unusedVariables false
set_option linter.unusedSimpArgs false
set_option maxRecDepth 20000
theorem cod_stab (cb : Nat) : Stab cb (fun w => Cod w cb) := fun w1 w2 h hs => h.keep fun b hb => hs b (by omega)
theorem cod_cells {w : World} {cb : Nat} (h : Cod w cb) : CellsAt w cb := by
  obtain ⟨A, m, c, l, k, hb, _⟩ := h
  exact ⟨_, hb, rfl⟩
theorem next_cod (cb : Nat) (w : World) (n : Int) (h : Cod w cb) :
    Calls Try.prog 21 #[.pointer (some ⟨cb, 0, none⟩), .int .i64 n] w fun e w' => ∃ x : {x : Nat // x ≤ 65535 ∧ (1 ≤ n → (x : Int) < n)}, e = .returned (.int .i64 (x.1 : Int)) ∧ Codr (fun w => Cod w cb) cb w [] w' :=
  (next_any cb w n h).mono fun e w' ⟨x, he, h0, h1, h2, hc, hg, _⟩ => by
    obtain ⟨k, rfl⟩ := Int.eq_ofNat_of_zero_le h0
    exact ⟨⟨k, by omega, h2⟩, he, hc, hg, cod_cells hc, (fun q hq => absurd hq List.not_mem_nil), List.Pairwise.nil⟩
theorem grown_cell {w w1 : World} {cb : Nat} {p : Addr} (hg : w.grownBy w1 (some cb)) (hp : p.block ≠ cb) (hl : p.block < w.heap.size) : w1.cell? p = w.cell? p :=
  World.cell?_of_block (hg.block _ hl fun e => hp (by injection e))
def tab8 : List Int := [1, 2, 5, 6, 9, 10, 12, 13]
def tabV8 : List Value := tab8.map (Value.int .i64)
/-- facts that ascend, with numbers below a bound -/
def FcsI (l : List Fc) (id : Int) : Prop := validF l ∧ 0 ≤ id ∧ (∀ f ∈ l, f.id < id) ∧ ∀ f ∈ l, f.Ok
theorem fcsI_nil {id : Int} (h : 0 ≤ id) : FcsI [] id := ⟨⟨by decide, fun i hi => absurd hi (Nat.not_lt_zero _)⟩, h, fun f hf => absurd hf List.not_mem_nil, fun f hf => absurd hf List.not_mem_nil⟩
theorem FcsI.snoc {l : List Fc} {id id' : Int} (h : FcsI l id) (f : Fc) (hf : f.id = id) (hne : f.a ≠ f.b) (hok : f.Ok) (hid : id < id') (hl : l.length < 1024) : FcsI (l ++ [f]) id' := by
  obtain ⟨⟨h1, h2⟩, h3, h4, h5⟩ := h
  have hm : ∀ g, g ∈ l ++ [f] → g ∈ l ∨ g = f := fun g hg => by simpa using hg
  refine ⟨⟨by rw [List.length_append]; simp only [List.length_cons, List.length_nil]; omega, fun i hi g hg => ?_⟩, by omega, fun g hg => ?_, fun g hg => ?_⟩
  · rw [List.length_append] at hi
    simp only [List.length_cons, List.length_nil] at hi
    rcases Nat.lt_or_ge i l.length with hh | hh
    · rw [List.getElem?_append_left hh] at hg
      obtain ⟨a1, a2, a3⟩ := h2 i hh g hg
      exact ⟨a1, a2, fun k hk hkk => a3 k hk (by rwa [List.getElem?_append_left (by omega)] at hkk)⟩
    · obtain rfl : i = l.length := by omega
      rw [List.getElem?_append_right (Nat.le_refl _), Nat.sub_self] at hg
      cases hg
      refine ⟨by omega, hne, fun k hk hkk => ?_⟩
      rw [List.getElem?_append_left (by omega)] at hkk
      have := h4 k (List.mem_of_getElem? hkk)
      omega
  · rcases hm g hg with hh | rfl
    · have := h4 g hh; omega
    · omega
  · rcases hm g hg with hh | rfl
    · exact h5 g hh
    · exact hok
theorem udrnm34 : (Try.f34.name == "runtime.NumGoroutine") = false := by decide
theorem udrbd34 : Try.f34.body.isNone = false := rfl
theorem udrsz3 (w : World) : (sizeOf 3).run Try.prog w = .ok 1 w := rfl
theorem udrnm21 : (Try.f21.name == "runtime.NumGoroutine") = false := by decide
theorem udrbd21 : Try.f21.body.isNone = false := rfl
theorem udrag3 (w : World) : (isAgg 3).run Try.prog w = .ok false w := rfl
theorem udrbs56_8_10220 (a0_0 : Int) (a1_0 : Int) (a2_0 : Int) (a3_0 : Int) (a4_0 : Int) (a5_0 : Int) (a6_0 : Int) (a7_0 : Int) (w : World) : (Instr.buildSlice 56 8 #[(0, .int .i64 a0_0), (1, .int .i64 a1_0), (2, .int .i64 a2_0), (3, .int .i64 a3_0), (4, .int .i64 a4_0), (5, .int .i64 a5_0), (6, .int .i64 a6_0), (7, .int .i64 a7_0)]).run Try.prog w = .ok (.slice (some ⟨w.heap.size, 0, none⟩) 8 8) (w.alloc (.cells [.int .i64 a0_0, .int .i64 a1_0, .int .i64 a2_0, .int .i64 a3_0, .int .i64 a4_0, .int .i64 a5_0, .int .i64 a6_0, .int .i64 a7_0].toArray 3)) := by kernel_rfl
theorem udrnm37 : (Try.f37.name == "runtime.NumGoroutine") = false := by decide
theorem udrbd37 : Try.f37.body.isNone = false := rfl
theorem udrnm15 : (Try.f15.name == "runtime.NumGoroutine") = false := by decide
theorem udrbd15 : Try.f15.body.isNone = false := rfl
theorem udrbld42_57313 (a0_0 : Int) (a1_0 : Int) (a2_0 : Int) (w : World) : (Instr.build 42 #[(0, .int .i64 a0_0), (1, .int .u32 a1_0), (2, .int .u32 a2_0)]).run Try.prog w = .ok (.agg #[.int .i64 a0_0, .int .u32 a1_0, .int .u32 a2_0]) w := by kernel_rfl
theorem udrzv42 (w : World) : (zeroValue 42).run Try.prog w = .ok (.agg #[.int .i64 0, .int .u32 0, .int .u32 0]) w := rfl
theorem udrsz42 (w : World) : (sizeOf 42).run Try.prog w = .ok 3 w := rfl
theorem udrone_i64u32u32 {a0 : Int} {a1 : Int} {a2 : Int} : ∀ u ∈ [(.int .i64 a0 : Value), .int .u32 a1, .int .u32 a2], u.oneCell' = true := by
  intro u hu
  simp only [List.mem_cons, List.not_mem_nil, or_false] at hu
  rcases hu with rfl | rfl | rfl <;> rfl
theorem udrfld42_1 (g o : Nat) (w : World) : (Instr.fieldAt 42 (.pointer (some ⟨g, o, none⟩)) 1).run Try.prog w = .ok (.pointer (some ⟨g, o + 1, none⟩)) w := by kernel_rfl
theorem udrag35 (w : World) : (isAgg 35).run Try.prog w = .ok false w := rfl
theorem udrfld42_2 (g o : Nat) (w : World) : (Instr.fieldAt 42 (.pointer (some ⟨g, o, none⟩)) 2).run Try.prog w = .ok (.pointer (some ⟨g, o + 2, none⟩)) w := by kernel_rfl
theorem udrsz35 (w : World) : (sizeOf 35).run Try.prog w = .ok 1 w := rfl
theorem udrone_u32 {a0 : Int} : ∀ u ∈ [(.int .u32 a0 : Value)], u.oneCell' = true := by
  intro u hu
  rw [List.mem_singleton] at hu
  subst hu; rfl
theorem udrag42 (w : World) : (isAgg 42).run Try.prog w = .ok true w := rfl
theorem udrbs26_1_44646 (a0_0 : Int) (a0_1 : Int) (a0_2 : Int) (w : World) : (Instr.buildSlice 26 1 #[(0, .agg #[.int .i64 a0_0, .int .u32 a0_1, .int .u32 a0_2])]).run Try.prog w = .ok (.slice (some ⟨w.heap.size, 0, none⟩) 1 1) (w.alloc (.cells [.int .i64 a0_0, .int .u32 a0_1, .int .u32 a0_2].toArray 42)) := by kernel_rfl
theorem udrel26 : Elem Try.prog 26 42 3 16 := Elem.mk' Try.underlying26 (z := .agg #[.int .i64 0, .int .u32 0, .int .u32 0]) (by kernel_rfl) rfl (by omega) (by omega)
set_option maxHeartbeats 1000000 in
theorem roll_any (A : Option Addr) (n c : Nat) (l : List Int) (w : World) (hb : Byt w w.heap.size A n l) (hc : n ≤ c) (hn : (n : Int) ≤ 9223372036854775807) : Calls Try.prog 9 #[.slice A n c] w fun e w' => e = .returned (.pointer (some ⟨w.heap.size, 0, none⟩)) ∧ Cod w' w.heap.size ∧ Below w.heap.size w w' := by
  refine begin_ (vs := [.slice A n c]) (I := fun w1 => w1 = w) Try.func9 rfl rfl rfl ?_ rfl
  refine TC.seq_ ?_
  refine TC.region ?_
  refine TL.val rfl rfl rfl (gives_assign rfl rfl) ?_
  refine TL.end_ ?_
  refine TX.then_ ?_
  refine TC.seq_ ?_
  refine TC.region ?_
  refine TL.val rfl rfl rfl (gives_move rfl rfl) ?_
  refine TL.call (α := Unit) (r := fun _ => .pointer (some ⟨w.heap.size, 0, none⟩)) (I' := fun _ w2 => Cod w2 w.heap.size ∧ Below w.heap.size w w2) rfl rfl rfl rfl rfl Try.func34 udrnm34 udrbd34 (fun w1 hw => by cases hw; exact (new_any A n c l w 400 hb hc (by omega) (by decide) (by decide)).mono fun e w2 ⟨h1, h2, h3, _⟩ => ⟨(), h1, h2, h3⟩) (fun _ => ?_)
  refine TL.val rfl rfl rfl (gives_assign rfl rfl) ?_
  refine TL.end_ ?_
  refine TX.then_ ?_
  refine TC.ret_ ?_
  exact ret_tmp Try.results9 rfl (fun w1 hw => ⟨rfl, hw.1, hw.2⟩)
set_option maxHeartbeats 1000000 in
theorem pick_cod (cb : Nat) (w : World) (hC : Cod w cb) (g c : Nat) (tab : List Int) (hgc : g ≠ cb) (hgl : g < w.heap.size) (h0 : 0 < tab.length) (hcell : ∀ (i : Nat) (v : Int), tab[i]? = some v → w.cell? ⟨g, i, none⟩ = some (.int .i64 v)) :
    Calls Try.prog 37 #[.pointer (some ⟨cb, 0, none⟩), .slice (some ⟨g, 0, none⟩) tab.length c] w fun e w' => ∃ x : {v : Int // v ∈ tab}, e = .returned (.int .i64 x.1) ∧ Codr (fun w => Cod w cb) cb w ([]) w' := by
  refine begin_ (vs := [.pointer (some ⟨cb, 0, none⟩), .slice (some ⟨g, 0, none⟩) tab.length c]) (I := Pm ⟨w, cb⟩ (.abs cb (fun w => Cod w cb) :: oths cb w)) Try.func37 rfl rfl rfl ?_ (Pm.codes hC (cod_cells hC) (cod_stab cb))
  refine TC.seq_ ?_
  refine TC.region ?_
  refine TL.val rfl rfl rfl (gives_assign rfl rfl) ?_
  refine TL.end_ ?_
  refine TX.then_ ?_
  refine TC.seq_ ?_
  refine TC.region ?_
  refine TL.val rfl rfl rfl (gives_move rfl rfl) ?_
  refine TL.val rfl rfl rfl (gives_move rfl rfl) ?_
  refine TL.val rfl rfl rfl (gives_move rfl rfl) ?_
  refine TL.val rfl rfl rfl (gives_len rfl Try.underlying56 rfl) ?_
  refine TL.pcallCod (k := 0) (α := {x : Nat // x ≤ 65535 ∧ (1 ≤ ((tab.length : Nat) : Int) → (x : Int) < (tab.length : Nat))}) (fun x => .int .i64 ((x.1 : Nat) : Int)) (fun x => []) rfl rfl rfl rfl rfl Try.func21 udrnm21 udrbd21 rfl (fun w1 hw hC1 => next_cod cb w1 (tab.length : Nat) hC1) ?_
  rintro ⟨x, hx1, hx2⟩
  dsimp only [List.cons_append, List.nil_append]
  refine TL.val rfl rfl rfl (gives_at (v := .pointer (some ⟨g, x, none⟩)) rfl rfl rfl (fun w => at_row Try.underlying56 udrsz3 g _ _ x (by omega) rfl w)) ?_
  obtain ⟨v, hv, hvt⟩ : ∃ v, tab[x]? = some v ∧ v ∈ tab := ⟨_, List.getElem?_eq_getElem (by omega), List.getElem_mem _⟩
  refine TL.val rfl rfl rfl (gives_load (v := .int .i64 v) rfl rfl udrag3 (fun w1 hw => (grown_cell (hw.kept (fun q hq => by simp [hq])) (by show g ≠ cb; exact hgc) (by show g < _; exact hgl)).trans (hcell x v hv))) ?_
  refine TL.val rfl rfl rfl (gives_assign rfl rfl) ?_
  refine TL.end_ ?_
  refine TX.then_ ?_
  refine TC.ret_ ?_
  exact ret_tmp Try.results37 rfl (fun w1 hw => ⟨⟨v, hvt⟩, rfl, Pm.codr [] (hw) rfl⟩)
set_option maxHeartbeats 1000000 in
theorem daddr_cod (cb : Nat) (w : World) (hC : Cod w cb) :
    Calls Try.prog 15 #[.pointer (some ⟨cb, 0, none⟩)] w fun e w' => ∃ x : {a : Int // 167772161 ≤ a ∧ a ≤ 167772173}, e = .returned (.int .u32 x.1) ∧ Codr (fun w => Cod w cb) cb w ([]) w' := by
  refine begin_ (vs := [.pointer (some ⟨cb, 0, none⟩)]) (I := Pm ⟨w, cb⟩ (.abs cb (fun w => Cod w cb) :: oths cb w)) Try.func15 rfl rfl rfl ?_ (Pm.codes hC (cod_cells hC) (cod_stab cb))
  refine TC.seq_ ?_
  refine TC.region ?_
  refine TL.val rfl rfl rfl (gives_assign rfl rfl) ?_
  refine TL.end_ ?_
  refine TX.then_ ?_
  refine TC.seq_ ?_
  refine TC.region ?_
  refine TL.val rfl rfl rfl (gives_move rfl rfl) ?_
  refine TL.prowS (e := 3) (size := 1) (cs := tabV8) rfl rfl rfl rfl rfl (fun w => udrbs56_8_10220 _ _ _ _ _ _ _ _ w) (by decide) rfl (fun g4 => ?_)
  refine TL.pcallCod (k := 1) (α := {v : Int // v ∈ tab8}) (fun x => .int .i64 x.1) (fun x => []) rfl rfl rfl rfl rfl Try.func37 udrnm37 udrbd37 rfl (fun w1 hw hC1 => pick_cod cb w1 hC1 g4 8 tab8 (hw.neq (i := 0) (j := 1) rfl rfl (by decide) g4 rfl <| congrArg some ·.symm) (Pc.lt (hw.at_ (k := 0) rfl) g4 rfl).2 (by decide) (fun i v hi => pm_row hw (k := 0) rfl (by unfold tabV8; rw [List.getElem?_map, hi]; rfl))) ?_
  rintro ⟨v, hv⟩
  dsimp only [List.cons_append, List.nil_append]
  have hvb : 1 ≤ v ∧ v ≤ 13 := by simp only [tab8, List.mem_cons, List.not_mem_nil, or_false] at hv; omega
  refine TL.val rfl rfl rfl (gives_bin rfl rfl rfl (fun w => bin_add_ (r := 167772160 + v) (by simp only [IntKind.wrap_i64]; omega) w)) ?_
  refine TL.val rfl rfl rfl (gives_conv rfl rfl (fun w => conv_fit (k := .i64) Try.underlying35 Try.underlying3 (by simp only [IntKind.wrap_u32]; omega) w)) ?_
  refine TL.val rfl rfl rfl (gives_assign rfl rfl) ?_
  refine TL.end_ ?_
  refine TX.then_ ?_
  refine TC.ret_ ?_
  exact ret_tmp Try.results15 rfl (fun w1 hw => ⟨⟨167772160 + v, by omega⟩, rfl, Pm.codr [] (hw.sel (.cons _ (.cons_cons _ (List.Sublist.refl _)))) rfl⟩)
set_option maxHeartbeats 1000000 in
theorem dbool_cod (cb : Nat) (w : World) (hC : Cod w cb) (n : Nat) (hn : n ≤ 1000) :
    Calls Try.prog 14 #[.pointer (some ⟨cb, 0, none⟩), .int .i64 ((n : Nat) : Int)] w fun e w' => ∃ x : Bool, e = .returned (.bool x) ∧ Codr (fun w => Cod w cb) cb w ([]) w' := by
  refine begin_ (vs := [.pointer (some ⟨cb, 0, none⟩), .int .i64 ((n : Nat) : Int)]) (I := Pm ⟨w, cb⟩ (.abs cb (fun w => Cod w cb) :: oths cb w)) Try.func14 rfl rfl rfl ?_ (Pm.codes hC (cod_cells hC) (cod_stab cb))
  refine TC.seq_ ?_
  refine TC.region ?_
  refine TL.val rfl rfl rfl (gives_assign rfl rfl) ?_
  refine TL.end_ ?_
  refine TX.then_ ?_
  refine TC.seq_ ?_
  refine TC.region ?_
  refine TL.val rfl rfl rfl (gives_move rfl rfl) ?_
  refine TL.val rfl rfl rfl (gives_move rfl rfl) ?_
  refine TL.pcallCod (k := 0) (α := {x : Nat // x ≤ 65535 ∧ (1 ≤ (((n : Nat) : Int) : Int) → (x : Int) < ((n : Nat) : Int))}) (fun x => .int .i64 ((x.1 : Nat) : Int)) (fun x => []) rfl rfl rfl rfl rfl Try.func21 udrnm21 udrbd21 rfl (fun w1 hw hC1 => next_cod cb w1 ((n : Nat) : Int) hC1) ?_
  rintro ⟨x, hx1, hx2⟩
  dsimp only [List.cons_append, List.nil_append]
  refine TL.val rfl rfl rfl (gives_move rfl rfl) ?_
  refine TL.val rfl rfl rfl (gives_bin rfl rfl rfl (fun w => bin_sub_ (r := (n : Int) - 1) (by simp only [IntKind.wrap_i64]; omega) w)) ?_
  refine TL.vsplit rfl rfl rfl (gives_bin rfl rfl rfl (fun w => bin_eql w)) (fun h10 => ?_) (fun h10 => ?_)
  · have q10 := of_decide_eq_true h10
    refine TL.val rfl rfl rfl (gives_assign rfl rfl) ?_
    refine TL.end_ ?_
    refine TX.then_ ?_
    refine TC.ret_ ?_
    exact ret_tmp Try.results14 rfl (fun w1 hw => ⟨true, rfl, Pm.codr [] (hw) rfl⟩)
  · have q10 := of_decide_eq_false h10
    refine TL.val rfl rfl rfl (gives_assign rfl rfl) ?_
    refine TL.end_ ?_
    refine TX.then_ ?_
    refine TC.ret_ ?_
    exact ret_tmp Try.results14 rfl (fun w1 hw => ⟨false, rfl, Pm.codr [] (hw) rfl⟩)
set_option maxHeartbeats 1000000 in
theorem facts_cod (cb : Nat) (w : World) (hC : Cod w cb) (m : Nat) (hm : m ≤ 100) :
    Calls Try.prog 10 #[.pointer (some ⟨cb, 0, none⟩), .int .i64 ((m : Nat) : Int)] w fun e w' => ∃ x : {y : (Option Addr × Nat) × List Fc // validF y.2 ∧ (∀ f ∈ y.2, f.Ok) ∧ y.2.length ≤ m ∧ y.2.length ≤ y.1.2 ∧ y.1.2 ≤ maxLen}, e = .returned (.slice x.1.1.1 x.1.2.length x.1.1.2) ∧ Codr (fun w => Cod w cb) cb w ([.row (.slice x.1.1.1 x.1.2.length x.1.1.2) 42 3 x.1.2.length (fcs x.1.2)]) w' := by
  refine begin_ (vs := [.pointer (some ⟨cb, 0, none⟩), .int .i64 ((m : Nat) : Int)]) (I := Pm ⟨w, cb⟩ (.abs cb (fun w => Cod w cb) :: oths cb w)) Try.func10 rfl rfl rfl ?_ (Pm.codes hC (cod_cells hC) (cod_stab cb))
  refine TC.seq_ ?_
  refine TC.region ?_
  refine TL.val rfl rfl rfl (gives_assign rfl rfl) ?_
  refine TL.end_ ?_
  refine TX.then_ ?_
  refine TC.seq_ ?_
  refine TC.region ?_
  refine TL.val rfl rfl rfl (gives_assign rfl rfl) ?_
  refine TL.end_ ?_
  refine TX.then_ ?_
  refine TC.seq_ ?_
  refine TC.region ?_
  refine TL.val rfl rfl rfl (gives_move rfl rfl) ?_
  refine TL.pcallCod (k := 0) (α := {x : Nat // x ≤ 65535 ∧ (1 ≤ (3 : Int) → (x : Int) < 3)}) (fun x => .int .i64 ((x.1 : Nat) : Int)) (fun x => []) rfl rfl rfl rfl rfl Try.func21 udrnm21 udrbd21 rfl (fun w1 hw hC1 => next_cod cb w1 3 hC1) ?_
  rintro ⟨i0, hi01, hi02⟩
  dsimp only [List.cons_append, List.nil_append]
  refine TL.val rfl rfl rfl (gives_assign rfl rfl) ?_
  refine TL.end_ ?_
  refine TX.then_ ?_
  refine TC.seq_ ?_
  refine TC.seq_ ?_
  refine TC.region ?_
  refine TL.val rfl rfl rfl (gives_move rfl rfl) ?_
  refine TL.val rfl rfl rfl (gives_move rfl rfl) ?_
  refine TL.val rfl rfl rfl (gives_bin rfl rfl rfl (fun w => bin_add_ (r := ((m + 1 : Nat) : Int)) (by simp only [IntKind.wrap_i64]; omega) w)) ?_
  refine TL.pcallCod (k := 0) (α := {x : Nat // x ≤ 65535 ∧ (1 ≤ (((m + 1 : Nat) : Int) : Int) → (x : Int) < ((m + 1 : Nat) : Int))}) (fun x => .int .i64 ((x.1 : Nat) : Int)) (fun x => []) rfl rfl rfl rfl rfl Try.func21 udrnm21 udrbd21 rfl (fun w1 hw hC1 => next_cod cb w1 ((m + 1 : Nat) : Int) hC1) ?_
  rintro ⟨k0, hk01, hk02⟩
  dsimp only [List.cons_append, List.nil_append]
  refine TL.val rfl rfl rfl (gives_assign rfl rfl) ?_
  refine TL.end_ ?_
  refine TX.then_ ?_
  refine TC.block ?_
  refine TC.nilrow 42 3 ?_
  refine TC.loop_ (α := {y : Nat × Int × (Option Addr × Nat) × List Fc // (y.1 + y.2.2.2.length ≤ m ∧ y.2.2.2.length ≤ y.2.2.1.2 ∧ y.2.2.1.2 ≤ maxLen) ∧ y.2.1 + 3 * y.1 ≤ 3 + 3 * m ∧ FcsI y.2.2.2 y.2.1}) (fun y => [(0, .pointer (some ⟨cb, 0, none⟩)), (5, .slice y.1.2.2.1.1 y.1.2.2.2.length y.1.2.2.1.2), (6, .int .i64 y.1.2.1), (7, .int .i64 ((y.1.1 : Nat) : Int))]) (fun y => Pm ⟨w, cb⟩ ([.row (.slice y.1.2.2.1.1 y.1.2.2.2.length y.1.2.2.1.2) 42 3 y.1.2.2.2.length (fcs y.1.2.2.2), .abs cb (fun w => Cod w cb)] ++ oths cb w)) (fun y => y.1.1) (⟨(k0, ((i0 : Nat) : Int), (none, 0), []), ⟨by dsimp only; show k0 + 0 ≤ m; omega, Nat.le_refl _, Nat.zero_le _⟩, by dsimp only; omega, fcsI_nil (by dsimp only; omega)⟩) ⟨rfl, rfl, rfl, rfl, trivial⟩ (fun w1 hw => hw) ?_
  rintro ⟨⟨k, id, ⟨A, c⟩, l⟩, ⟨hk, hlc, hcm⟩, hid, hF⟩
  dsimp only at hk hlc hcm hid hF ⊢
  have hF0 := hF.2.1
  refine TC.seq_ ?_
  refine TC.seq_ ?_
  refine TC.region ?_
  refine TL.val rfl rfl rfl (gives_move rfl rfl) ?_
  refine TL.vsplit rfl rfl rfl (gives_bin rfl rfl rfl (fun w => bin_gtr w)) (fun h16 => ?_) (fun h16 => ?_)
  · have q16 := of_decide_eq_true h16
    refine TL.end_ ?_
    refine TX.then_ ?_
    refine TC.condT rfl ?_
    refine TC.skip_ ?_
    refine TX.then_ ?_
    refine TC.seq_ ?_
    refine TC.block ?_
    refine TC.seq_ ?_
    refine TC.region ?_
    refine TL.val rfl rfl rfl (gives_move rfl rfl) ?_
    refine TL.val rfl rfl rfl (gives_move rfl rfl) ?_
    refine TL.pcallCod (k := 1) (α := {a : Int // 167772161 ≤ a ∧ a ≤ 167772173}) (fun x => .int .u32 x.1) (fun x => []) rfl rfl rfl rfl rfl Try.func15 udrnm15 udrbd15 rfl (fun w1 hw hC1 => daddr_cod cb w1 hC1) ?_
    rintro ⟨a, ha1, ha2⟩
    dsimp only [List.cons_append, List.nil_append]
    refine TL.val rfl rfl rfl (gives_move rfl rfl) ?_
    refine TL.pcallCod (k := 1) (α := {a : Int // 167772161 ≤ a ∧ a ≤ 167772173}) (fun x => .int .u32 x.1) (fun x => []) rfl rfl rfl rfl rfl Try.func15 udrnm15 udrbd15 rfl (fun w1 hw hC1 => daddr_cod cb w1 hC1) ?_
    rintro ⟨b, hb1, hb2⟩
    dsimp only [List.cons_append, List.nil_append]
    refine TL.val rfl rfl rfl (gives_build (v := .agg #[.int .i64 id, .int .u32 a, .int .u32 b]) rfl rfl (fun w => udrbld42_57313 _ _ _ w)) ?_
    refine TL.pnew rfl rfl rfl (exec_alloc (cs := [.int .i64 0, .int .u32 0, .int .u32 0]) rfl udrzv42 rfl) (fun g8 => ?_)
    refine TL.pstore (k := 0) (vs := [.int .i64 id, .int .u32 a, .int .u32 b]) rfl rfl rfl rfl rfl rfl rfl udrsz42 udrone_i64u32u32 (by show 3 ≤ 3; decide) (L' := ([.blk g8 42 [.int .i64 id, .int .u32 a, .int .u32 b], .row (.slice A l.length c) 42 3 l.length (fcs l), .abs cb (fun w => Cod w cb)] ++ oths cb w)) rfl ?_
    refine TL.end_ ?_
    refine TX.then_ ?_
    refine TC.seq_ ?_
    refine TC.seq_ ?_
    refine TC.region ?_
    refine TL.val rfl rfl rfl (gives_field (v := .pointer (some ⟨g8, 1, none⟩)) rfl rfl (fun w => udrfld42_1 _ _ w)) ?_
    refine TL.val rfl rfl rfl (pm_load (k := 0) (i := 1) rfl rfl udrag35 rfl rfl) ?_
    refine TL.val rfl rfl rfl (gives_field (v := .pointer (some ⟨g8, 2, none⟩)) rfl rfl (fun w => udrfld42_2 _ _ w)) ?_
    refine TL.val rfl rfl rfl (pm_load (k := 0) (i := 2) rfl rfl udrag35 rfl rfl) ?_
    refine TL.vsplit rfl rfl rfl (gives_bin rfl rfl rfl (fun w => bin_eql w)) (fun h29 => ?_) (fun h29 => ?_)
    · have q29 := of_decide_eq_true h29
      refine TL.end_ ?_
      refine TX.then_ ?_
      refine TC.condT rfl ?_
      refine TC.region ?_
      refine TL.val rfl rfl rfl (gives_field (v := .pointer (some ⟨g8, 2, none⟩)) rfl rfl (fun w => udrfld42_2 _ _ w)) ?_
      refine TL.val rfl rfl rfl (pm_load (k := 0) (i := 2) rfl rfl udrag35 rfl rfl) ?_
      refine TL.val rfl rfl rfl (gives_bin rfl rfl rfl (fun w => bin_add_ (r := b + 1) (by simp only [IntKind.wrap_u32]; omega) w)) ?_
      refine TL.val rfl rfl rfl (gives_field (v := .pointer (some ⟨g8, 2, none⟩)) rfl rfl (fun w => udrfld42_2 _ _ w)) ?_
      refine TL.pstore (k := 0) (vs := [.int .u32 (b + 1)]) rfl rfl rfl rfl rfl rfl rfl udrsz35 udrone_u32 (by show 3 ≤ 3; decide) (L' := ([.blk g8 42 [.int .i64 id, .int .u32 a, .int .u32 (b + 1)], .row (.slice A l.length c) 42 3 l.length (fcs l), .abs cb (fun w => Cod w cb)] ++ oths cb w)) rfl ?_
      refine TL.end_ ?_
      refine TX.then_ ?_
      refine TC.seq_ ?_
      refine TC.region ?_
      refine TL.val rfl rfl rfl (gives_move rfl rfl) ?_
      refine TL.val rfl rfl rfl (pm_loadV (k := 0) (i := 0) (n := 3) (v := .agg #[.int .i64 id, .int .u32 a, .int .u32 (b + 1)]) rfl rfl udrag42 udrsz42 rfl (by show 3 ≤ 3; decide) rfl) ?_
      refine TL.prowS (e := 42) (size := 3) (cs := fcs [(⟨id, a, b + 1⟩ : Fc)]) rfl rfl rfl rfl rfl (fun w => udrbs26_1_44646 _ _ _ w) (by decide) rfl (fun g36 => ?_)
      refine TL.appendT (k := 2) rfl rfl rfl rfl Try.underlying26 udrel26 rfl rfl rfl (fun w1 hw => pm_reads hw (k := 0) rfl) (fcs_one [(⟨id, a, b + 1⟩ : Fc)]) (by show _ * 16 ≤ _; omega) ((l ++ [(⟨id, a, b + 1⟩ : Fc)]).length) (by rw [List.length_append]; rfl) (fcs (l ++ [(⟨id, a, b + 1⟩ : Fc)])) (by rw [fcs_app]; try rfl) (fun A37 c37 hA371 hA372 => ?_)
      refine TL.val rfl rfl rfl (gives_assign rfl rfl) ?_
      refine TL.end_ ?_
      refine TX.then_ ?_
      refine TC.region ?_
      refine TL.val rfl rfl rfl (gives_move rfl rfl) ?_
      refine TL.val rfl rfl rfl (gives_move rfl rfl) ?_
      refine TL.pcallCod (k := 3) (α := {x : Nat // x ≤ 65535 ∧ (1 ≤ (3 : Int) → (x : Int) < 3)}) (fun x => .int .i64 ((x.1 : Nat) : Int)) (fun x => []) rfl rfl rfl rfl rfl Try.func21 udrnm21 udrbd21 rfl (fun w1 hw hC1 => next_cod cb w1 3 hC1) ?_
      rintro ⟨z, hz1, hz2⟩
      dsimp only [List.cons_append, List.nil_append]
      refine TL.val rfl rfl rfl (gives_bin rfl rfl rfl (fun w => bin_add_ (r := 1 + ((z : Nat) : Int)) (by simp only [IntKind.wrap_i64]; omega) w)) ?_
      refine TL.val rfl rfl rfl (gives_bin rfl rfl rfl (fun w => bin_add_ (r := id + (1 + ((z : Nat) : Int))) (by simp only [IntKind.wrap_i64]; omega) w)) ?_
      refine TL.val rfl rfl rfl (gives_assign rfl rfl) ?_
      refine TL.end_ ?_
      refine TX.in_normal ?_
      refine TX.then_ ?_
      refine TC.region ?_
      refine TL.val rfl rfl rfl (gives_move rfl rfl) ?_
      refine TL.val rfl rfl rfl (gives_bin rfl rfl rfl (fun w => bin_sub_ (r := ((k - 1 : Nat) : Int)) (by simp only [IntKind.wrap_i64]; omega) w)) ?_
      refine TL.val rfl rfl rfl (gives_assign rfl rfl) ?_
      refine TL.end_ ?_
      exact TX.round (⟨(k - 1, id + (1 + ((z : Nat) : Int)), (A37, c37), l ++ [(⟨id, a, b + 1⟩ : Fc)]), ⟨by dsimp only; rw [List.length_append, List.length_singleton]; omega, hA371, hA372⟩, by dsimp only; omega, hF.snoc (⟨id, a, b + 1⟩ : Fc) rfl (by dsimp only; omega) ⟨by dsimp only; omega, by dsimp only; omega, by dsimp only; omega, by dsimp only; omega⟩ (by dsimp only; omega) (by omega)⟩) (by show k - 1 < k; omega) ⟨rfl, rfl, rfl, rfl, trivial⟩ (fun w1 hw => hw.sel (.cons _ (.cons _ (.cons_cons _ (.cons_cons _ (List.Sublist.refl _))))))
    · have q29 := of_decide_eq_false h29
      refine TL.end_ ?_
      refine TX.then_ ?_
      refine TC.condF rfl ?_
      refine TC.skip_ ?_
      refine TX.then_ ?_
      refine TC.seq_ ?_
      refine TC.region ?_
      refine TL.val rfl rfl rfl (gives_move rfl rfl) ?_
      refine TL.val rfl rfl rfl (pm_loadV (k := 0) (i := 0) (n := 3) (v := .agg #[.int .i64 id, .int .u32 a, .int .u32 b]) rfl rfl udrag42 udrsz42 rfl (by show 3 ≤ 3; decide) rfl) ?_
      refine TL.prowS (e := 42) (size := 3) (cs := fcs [(⟨id, a, b⟩ : Fc)]) rfl rfl rfl rfl rfl (fun w => udrbs26_1_44646 _ _ _ w) (by decide) rfl (fun g36 => ?_)
      refine TL.appendT (k := 2) rfl rfl rfl rfl Try.underlying26 udrel26 rfl rfl rfl (fun w1 hw => pm_reads hw (k := 0) rfl) (fcs_one [(⟨id, a, b⟩ : Fc)]) (by show _ * 16 ≤ _; omega) ((l ++ [(⟨id, a, b⟩ : Fc)]).length) (by rw [List.length_append]; rfl) (fcs (l ++ [(⟨id, a, b⟩ : Fc)])) (by rw [fcs_app]; try rfl) (fun A37 c37 hA371 hA372 => ?_)
      refine TL.val rfl rfl rfl (gives_assign rfl rfl) ?_
      refine TL.end_ ?_
      refine TX.then_ ?_
      refine TC.region ?_
      refine TL.val rfl rfl rfl (gives_move rfl rfl) ?_
      refine TL.val rfl rfl rfl (gives_move rfl rfl) ?_
      refine TL.pcallCod (k := 3) (α := {x : Nat // x ≤ 65535 ∧ (1 ≤ (3 : Int) → (x : Int) < 3)}) (fun x => .int .i64 ((x.1 : Nat) : Int)) (fun x => []) rfl rfl rfl rfl rfl Try.func21 udrnm21 udrbd21 rfl (fun w1 hw hC1 => next_cod cb w1 3 hC1) ?_
      rintro ⟨z, hz1, hz2⟩
      dsimp only [List.cons_append, List.nil_append]
      refine TL.val rfl rfl rfl (gives_bin rfl rfl rfl (fun w => bin_add_ (r := 1 + ((z : Nat) : Int)) (by simp only [IntKind.wrap_i64]; omega) w)) ?_
      refine TL.val rfl rfl rfl (gives_bin rfl rfl rfl (fun w => bin_add_ (r := id + (1 + ((z : Nat) : Int))) (by simp only [IntKind.wrap_i64]; omega) w)) ?_
      refine TL.val rfl rfl rfl (gives_assign rfl rfl) ?_
      refine TL.end_ ?_
      refine TX.in_normal ?_
      refine TX.then_ ?_
      refine TC.region ?_
      refine TL.val rfl rfl rfl (gives_move rfl rfl) ?_
      refine TL.val rfl rfl rfl (gives_bin rfl rfl rfl (fun w => bin_sub_ (r := ((k - 1 : Nat) : Int)) (by simp only [IntKind.wrap_i64]; omega) w)) ?_
      refine TL.val rfl rfl rfl (gives_assign rfl rfl) ?_
      refine TL.end_ ?_
      exact TX.round (⟨(k - 1, id + (1 + ((z : Nat) : Int)), (A37, c37), l ++ [(⟨id, a, b⟩ : Fc)]), ⟨by dsimp only; rw [List.length_append, List.length_singleton]; omega, hA371, hA372⟩, by dsimp only; omega, hF.snoc (⟨id, a, b⟩ : Fc) rfl (by dsimp only; omega) ⟨by dsimp only; omega, by dsimp only; omega, by dsimp only; omega, by dsimp only; omega⟩ (by dsimp only; omega) (by omega)⟩) (by show k - 1 < k; omega) ⟨rfl, rfl, rfl, rfl, trivial⟩ (fun w1 hw => hw.sel (.cons _ (.cons _ (.cons_cons _ (.cons_cons _ (List.Sublist.refl _))))))
  · have q16 := of_decide_eq_false h16
    refine TL.end_ ?_
    refine TX.then_ ?_
    refine TC.condF rfl ?_
    refine TC.exit_ ?_
    refine TX.then_exit ?_
    refine TX.then_exit ?_
    refine TX.in_same ?_
    refine TX.then_ ?_
    refine TC.seq_ ?_
    refine TC.region ?_
    refine TL.val rfl rfl rfl (gives_move rfl rfl) ?_
    refine TL.val rfl rfl rfl (gives_assign rfl rfl) ?_
    refine TL.end_ ?_
    refine TX.then_ ?_
    refine TC.ret_ ?_
    exact ret_tmp Try.results10 rfl (fun w1 hw => ⟨⟨((A, c), l), hF.1, hF.2.2.2, by dsimp only; omega, hlc, hcm⟩, rfl, Pm.codr [_] hw rfl⟩)
end Go.Proofs.Ytleckflmckbheaa

namespace Go.Proofs.Ytleckflmckbheaa
open Go.ChangeShapes Go.WideShapes Go.ChangeAt Go.RowKit
set_option linter.unusedVariables false
set_option linter.unusedSimpArgs false

theorem own : ownKnob Try.prog.godebug = none := by kernel_rfl
theorem laidOut : laidOutB Try.prog = true := by kernel_rfl

theorem wf_u8 {x : Int} (h : (Lit.int .u8 x).wf = true) : 0 ≤ x ∧ x ≤ 255 := by simpa [Lit.wf, IntKind.min, IntKind.max, IntKind.signed, IntKind.bits] using h
theorem wf_u16 {x : Int} (h : (Lit.int .u16 x).wf = true) : 0 ≤ x ∧ x ≤ 65535 := by simpa [Lit.wf, IntKind.min, IntKind.max, IntKind.signed, IntKind.bits] using h
theorem wf_u32 {x : Int} (h : (Lit.int .u32 x).wf = true) : 0 ≤ x ∧ x ≤ 4294967295 := by simpa [Lit.wf, IntKind.min, IntKind.max, IntKind.signed, IntKind.bits] using h
theorem wf_i64 {x : Int} (h : (Lit.int .i64 x).wf = true) : -9223372036854775808 ≤ x ∧ x ≤ 9223372036854775807 := by simpa [Lit.wf, IntKind.min, IntKind.max, IntKind.signed, IntKind.bits] using h

theorem byt_of_cells {w : World} {a : Addr} {len cap : Nat} {zs : List Int} (hl : len ≤ cap) (hz : zs.length = cap) (hb : 0 < len → a.block < w.heap.size) (hc : ∀ i, i < zs.length → w.cell? (a.add i) = some (.int .u8 (zs.getD i 0)))
    (hw : ∀ n ∈ zs, (Lit.int .u8 n).wf = true) : Byt w w.heap.size (some a) len (zs.take len) := by
  refine ⟨⟨by simp [bv]; omega, fun hn => ⟨a, rfl, hb hn, fun j u hu => ?_⟩⟩, fun x hx => wf_u8 (hw x (List.mem_of_mem_take hx))⟩
  simp only [bv, List.getElem?_map, List.getElem?_take] at hu
  split at hu
  · rename_i hj
    have hjl : j < zs.length := by omega
    rw [List.getElem?_eq_getElem hjl] at hu
    rw [hc j hjl]
    simp only [Option.map_some, Option.some.injEq] at hu
    rw [← hu]
    simp [List.getD, List.getElem?_eq_getElem hjl]
  · simp at hu

section
variable {H : Type} {enc : TypeId × Value → H} {P : Program} {W : World}
theorem open_byt {t e : TypeId} {base : Nat} {v : Value} {d : DataW H} {p : List MemPlace} (ht : P.underlying t = some (.slice e)) (he : P.underlying e = some (.int .u8)) (hC : P.cellsOf e = 1)
    (hok : Value.okWide P W .any base t v) (h : DataW.Trod enc P W 0 (fun _ => true) true t v d p) : ∃ A n c l, v = .slice A n c ∧ n ≤ c ∧ c ≤ maxLen ∧ Byt W W.heap.size A n l := by
  obtain ⟨a0, len0, cap0, rfl⟩ := okWide_slice ht hok
  obtain ⟨fuel, hf⟩ := h
  rcases open_ints ht he hC hf with ⟨hcs, _⟩ | ⟨x, l, c, zs, hcs, _, hl, hm, hz, _, hcell, hwz⟩
  · simp [Value.cells] at hcs
    obtain ⟨rfl, rfl, rfl⟩ := hcs
    exact ⟨none, 0, 0, [], rfl, Nat.le_refl _, Nat.zero_le _, Byt.none_ _ _⟩
  · simp [Value.cells] at hcs
    obtain ⟨rfl, rfl, rfl⟩ := hcs
    have hz' : zs.length = cap0 := by simpa using hz
    refine ⟨_, len0, cap0, zs.take len0, rfl, hl, hm, byt_of_cells hl hz' (fun hn => ?_) hcell hwz⟩
    have := World.block_lt_of_cell? W _ (hcell 0 (by omega))
    rwa [block_of_add] at this
end
end Go.Proofs.Ytleckflmckbheaa

namespace Go.Proofs.Ytleckflmckbheaa
open Go.RowKit
set_option linter.unusedVariables false
set_option linter.unusedSimpArgs false
set_option maxRecDepth 20000
theorem fact_fields : Try.prog.fieldsOf 42 = (match Try.prog.underlying 42 with | some (.struct fs) => fs | _ => #[]) := rfl
theorem fact_eqn (a1 a2 a3 b1 b2 b3 : Int) (d : Nat) (w : World) : (Op.equalIn (d + 2) 42 (.agg #[.int .i64 a1, .int .u32 a2, .int .u32 a3]) (.agg #[.int .i64 b1, .int .u32 b2, .int .u32 b3])).run Try.prog w = .ok (decide (a1 = b1 ∧ a2 = b2 ∧ a3 = b3)) w := by
  rw [run_equalIn_agg w (d + 1) 42 _ _ (by rw [fact_fields, Try.underlying42]) (by kernel_rfl), fact_fields, Try.underlying42]
  show (Op.eqFields (d + 1) _ _ [_, _, _]).run _ _ = _
  have i1 : Try.prog.underlying 3 = some (.int .i64) := rfl
  have i2 : Try.prog.underlying 35 = some (.int .u32) := rfl
  simp [Op.eqFields, go_sem]
  by_cases e1 : a1 = b1
  · by_cases e2 : a2 = b2
    · by_cases e3 : a3 = b3 <;> simp [e1, e2, e3]
    · simp [e1, e2]
  · simp [e1]
theorem fc_eq (x y : Fc) : (x = y) ↔ x.id = y.id ∧ x.a = y.a ∧ x.b = y.b := by
  cases x; cases y; simp
theorem fc_eql (x y : Fc) (ox oy : Operand) (w : World) : (do eqGuard .eql 42 ox oy (.agg x.cells.toArray) (.agg y.cells.toArray); binOp .eql 42 (.agg x.cells.toArray) (.agg y.cells.toArray) : Sem Value).run Try.prog w = .ok (.bool (decide (x = y))) w := by
  rw [Sem.run_bind, run_eqGuard_agg w .eql 42 ox oy _ _ (by kernel_rfl), Result.andThen_ok, run_eql_struct]
  have h := fact_eqn x.id x.a x.b y.id y.a y.b 9998 w
  have h2 : (Op.equalIn 10000 42 (.agg x.cells.toArray) (.agg y.cells.toArray)).run Try.prog w = .ok (decide (x.id = y.id ∧ x.a = y.a ∧ x.b = y.b)) w := h
  rw [h2, Result.andThen_ok, decide_eq_decide.2 (fc_eq x y)]
theorem fc_neq (x y : Fc) (ox oy : Operand) (w : World) : (do eqGuard .neq 42 ox oy (.agg x.cells.toArray) (.agg y.cells.toArray); binOp .neq 42 (.agg x.cells.toArray) (.agg y.cells.toArray) : Sem Value).run Try.prog w = .ok (.bool (!decide (x = y))) w := by
  rw [Sem.run_bind, run_eqGuard_agg w .neq 42 ox oy _ _ (by kernel_rfl), Result.andThen_ok, run_neq_struct]
  have h := fact_eqn x.id x.a x.b y.id y.a y.b 9998 w
  have h2 : (Op.equalIn 10000 42 (.agg x.cells.toArray) (.agg y.cells.toArray)).run Try.prog w = .ok (decide (x.id = y.id ∧ x.a = y.a ∧ x.b = y.b)) w := h
  rw [h2, Result.andThen_ok, decide_eq_decide.2 (fc_eq x y)]
theorem fc_eql_is {x y : Fc} {t : Bool} (ht : decide (x = y) = t) (ox oy : Operand) (w : World) : (do eqGuard .eql 42 ox oy (.agg x.cells.toArray) (.agg y.cells.toArray); binOp .eql 42 (.agg x.cells.toArray) (.agg y.cells.toArray) : Sem Value).run Try.prog w = .ok (.bool t) w := by
  rw [← ht]; exact fc_eql x y ox oy w
theorem fc_neq_is {x y : Fc} {t : Bool} (ht : (!decide (x = y)) = t) (ox oy : Operand) (w : World) : (do eqGuard .neq 42 ox oy (.agg x.cells.toArray) (.agg y.cells.toArray); binOp .neq 42 (.agg x.cells.toArray) (.agg y.cells.toArray) : Sem Value).run Try.prog w = .ok (.bool t) w := by
  rw [← ht]; exact fc_neq x y ox oy w
end Go.Proofs.Ytleckflmckbheaa
