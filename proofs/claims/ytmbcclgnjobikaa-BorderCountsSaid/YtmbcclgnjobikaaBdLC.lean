/-
  The walk of BorderCounts.
-/
import Derived.Test.YtmbcclgnjobikaaBdAwk
import Derived.Test.YtmbcclgnjobikaaDcDraw
namespace Go.Proofs.Ytmbcclgnjobikaa
open Go.RowKit
set_option linter.unusedVariables false
set_option linter.unusedSimpArgs false
set_option maxRecDepth 20000
theorem rng_snoc {ps : List Int} {x : Int} (h : ∀ a ∈ ps, 1 ≤ a ∧ a ≤ 4) (hx : 1 ≤ x ∧ x ≤ 4) : ∀ a ∈ ps ++ [x], 1 ≤ a ∧ a ≤ 4 := fun a ha => by
  rcases List.mem_append.1 ha with ha | ha
  · exact h a ha
  · rw [List.mem_singleton.1 ha]; exact hx
/-- how often a list changes ahead of place n -/
def chg (o : List Int) : Nat → Nat
  | 0 => 0
  | n + 1 => chg o n + if 0 < n ∧ o.getD n 0 ≠ o.getD (n - 1) 0 then 1 else 0
theorem chg_step {o : List Int} {i : Nat} {x y : Int} (hx : o[i]? = some x) (hy : o[i - 1]? = some y) (hi : 0 < i) : chg o (i + 1) = chg o i + if x ≠ y then 1 else 0 := by
  show chg o i + _ = _
  simp [List.getD_eq_getElem?_getD, hx, hy, hi]
theorem chg_end {o : List Int} {i k : Nat} (h : k ≤ i) (h2 : i ≤ k ∨ i = 1) : chg o k = chg o i := by
  rcases h2 with h2 | h2
  · obtain rfl : i = k := by omega
    rfl
  · subst h2
    rcases Nat.lt_or_ge k 1 with h3 | h3
    · obtain rfl : k = 0 := by omega
      rfl
    · obtain rfl : k = 1 := by omega
      rfl
theorem own4 {a : Int} (h : 1 ≤ a ∧ a ≤ 4) : ownE ownL 3 a = 5 ∨ ownE ownL 3 a = 7 := by
  have h4 : a = 1 ∨ a = 2 ∨ a = 3 ∨ a = 4 := by omega
  rcases h4 with rfl | rfl | rfl | rfl
  · exact .inl (by decide +kernel)
  · exact .inl (by decide +kernel)
  · exact .inr (by decide +kernel)
  · exact .inr (by decide +kernel)
theorem own_nz {ps : List Int} (h : ∀ a ∈ ps, 1 ≤ a ∧ a ≤ 4) {j : Nat} (hj : j < ps.length) : (ownF ownL 3 ps).getD j 0 ≠ 0 := by
  rw [List.getD_eq_getElem?_getD, ownF, List.getElem?_map, List.getElem?_eq_getElem hj]
  rcases own4 (h _ (List.getElem_mem hj)) with e | e <;> simp [e]
theorem path_nz {ps : List Int} (h : ∀ a ∈ ps, 1 ≤ a ∧ a ≤ 4) {j : Nat} (hj : j < ps.length) : ps.getD j 0 ≠ 0 := by
  rw [List.getD_eq_getElem?_getD, List.getElem?_eq_getElem hj]
  have := h _ (List.getElem_mem hj)
  simp; omega
theorem win_all {ps own : List Int} : ∀ n, (∀ j, j < n → own.getD j 0 ≠ 0) → (winS ps own n).1 = (n : Int) - 1 ∧ (winS ps own n).2.length = chg own n
  | 0, _ => ⟨rfl, rfl⟩
  | n + 1, h => by
    obtain ⟨h1, h2⟩ := win_all n fun j hj => h j (by omega)
    have hn := h n (by omega)
    show (stepW ps own (winS ps own n) n).1 = _ ∧ (stepW ps own (winS ps own n) n).2.length = chg own n + _
    unfold stepW
    rw [if_neg hn, h1, ← h2]
    refine ⟨by show (n : Int) = _; omega, ?_⟩
    have e1 : ((n : Int) - 1).toNat = n - 1 := by omega
    simp only [e1]
    by_cases h0 : 0 < n ∧ own.getD n 0 ≠ own.getD (n - 1) 0
    · rw [if_pos h0, if_pos ⟨by omega, fun e => h0.2 e.symm⟩, List.length_append]; rfl
    · rw [if_neg h0, if_neg (by rintro ⟨h3, h4⟩; exact h0 ⟨by omega, fun e => h4 e.symm⟩)]; rfl
theorem win_ok {ps own : List Int} : ∀ n, (∀ j, j < n → ps.getD j 0 ≠ 0) → ((winS ps own n).1 ≥ 0 → own.getD (winS ps own n).1.toNat 0 ≠ 0) ∧ ∀ x ∈ (winS ps own n).2, x.frm ≠ x.to_ ∧ x.frm ≠ 0 ∧ x.to_ ≠ 0 ∧ x.far ≠ 0
  | 0, _ => ⟨fun h => absurd h (by show ¬ (-1 : Int) ≥ 0; decide), fun x hx => absurd hx List.not_mem_nil⟩
  | n + 1, h => by
    obtain ⟨h1, h2⟩ := win_ok n fun j hj => h j (by omega)
    have hn := h n (by omega)
    show ((stepW ps own (winS ps own n) n).1 ≥ 0 → own.getD (stepW ps own (winS ps own n) n).1.toNat 0 ≠ 0) ∧ ∀ x ∈ (stepW ps own (winS ps own n) n).2, _
    unfold stepW
    split
    · exact ⟨h1, h2⟩
    · rename_i h0
      refine ⟨fun _ => by simpa using h0, ?_⟩
      dsimp only
      split
      · rename_i hc
        intro x hx
        rcases List.mem_append.1 hx with hx | hx
        · exact h2 x hx
        · rw [List.mem_singleton.1 hx]
          exact ⟨hc.2, h1 hc.1, h0, hn⟩
      · exact h2
theorem win_good {ps : List Int} (h : ∀ a ∈ ps, 1 ≤ a ∧ a ≤ 4) (x : Bd) (hx : x ∈ winV ownL 3 ps) : x.frm ≠ x.to_ ∧ x.frm ≠ 0 ∧ x.to_ ≠ 0 ∧ x.far ≠ 0 :=
  (win_ok ps.length fun j hj => path_nz h hj).2 x hx
theorem win_cnt {ps : List Int} (h : ∀ a ∈ ps, 1 ≤ a ∧ a ≤ 4) : (winV ownL 3 ps).length = chg (ownF ownL 3 ps) ps.length :=
  (win_all ps.length fun j hj => own_nz h hj).2
theorem win_nil (ps : List Int) : winV [] 3 ps = [] := by
  have hz : ∀ j, (ownF [] 3 ps).getD j 0 = 0 := fun j => by
    rw [List.getD_eq_getElem?_getD, ownF, List.getElem?_map]
    cases ps[j]? with
    | none => rfl
    | some a =>
      show ownE [] 3 a = 0
      unfold ownE
      split
      · rfl
      · rcases provR_or [] a 3 with h | ⟨e, he, _⟩
        · exact h
        · exact absurd he List.not_mem_nil
  have key : ∀ n, winS ps (ownF [] 3 ps) n = (-1, []) := fun n => by
    induction n with
    | zero => rfl
    | succ n ih =>
      show stepW ps (ownF [] 3 ps) (winS ps (ownF [] 3 ps) n) n = _
      unfold stepW
      rw [if_pos (hz n), ih]
  unfold winV
  rw [key]
theorem blcnm6 : (Try.f6.name == "runtime.NumGoroutine") = false := by decide
theorem blcbd6 : Try.f6.body.isNone = false := rfl
theorem blcnm7 : (Try.f7.name == "runtime.NumGoroutine") = false := by decide
theorem blcbd7 : Try.f7.body.isNone = false := rfl
theorem blcnm8 : (Try.f8.name == "runtime.NumGoroutine") = false := by decide
theorem blcbd8 : Try.f8.body.isNone = false := rfl
theorem blcbs26_1_5377 (a0_0 : Int) (w : World) : (Instr.buildSlice 26 1 #[(0, .int .u32 a0_0)]).run Try.prog w = .ok (.slice (some ⟨w.heap.size, 0, none⟩) 1 1) (w.alloc (.cells [.int .u32 a0_0].toArray 29)) := by kernel_rfl
theorem blcel26 : Elem Try.prog 26 29 1 4 := Elem.mk' Try.underlying26 (z := .int .u32 0) (by kernel_rfl) rfl (by omega) (by omega)
theorem blcnm10 : (Try.f10.name == "runtime.NumGoroutine") = false := by decide
theorem blcbd10 : Try.f10.body.isNone = false := rfl
theorem blcnm9 : (Try.f9.name == "runtime.NumGoroutine") = false := by decide
theorem blcbd9 : Try.f9.body.isNone = false := rfl
theorem blcsz3 (w : World) : (sizeOf 3).run Try.prog w = .ok 1 w := rfl
theorem blcag3 (w : World) : (isAgg 3).run Try.prog w = .ok false w := rfl
theorem blcnm11 : (Try.f11.name == "runtime.NumGoroutine") = false := by decide
theorem blcbd11 : Try.f11.body.isNone = false := rfl
theorem blcsz39 (w : World) : (sizeOf 39).run Try.prog w = .ok 4 w := rfl
theorem blcag39 (w : World) : (isAgg 39).run Try.prog w = .ok true w := rfl
theorem blczv39 (w : World) : (zeroValue 39).run Try.prog w = .ok (.agg #[.int .u32 0, .int .u32 0, .int .i64 0, .int .i64 0]) w := rfl
theorem blcfld39_2 (g o : Nat) (w : World) : (Instr.fieldAt 39 (.pointer (some ⟨g, o, none⟩)) 2).run Try.prog w = .ok (.pointer (some ⟨g, o + 2, none⟩)) w := by kernel_rfl
theorem blcfld39_3 (g o : Nat) (w : World) : (Instr.fieldAt 39 (.pointer (some ⟨g, o, none⟩)) 3).run Try.prog w = .ok (.pointer (some ⟨g, o + 3, none⟩)) w := by kernel_rfl
theorem blcfld39_1 (g o : Nat) (w : World) : (Instr.fieldAt 39 (.pointer (some ⟨g, o, none⟩)) 1).run Try.prog w = .ok (.pointer (some ⟨g, o + 1, none⟩)) w := by kernel_rfl
theorem blcag29 (w : World) : (isAgg 29).run Try.prog w = .ok false w := rfl
theorem blcbld34_527  (w : World) : (Instr.build 34 #[]).run Try.prog w = .ok (.agg #[.slice none 0 0]) w := by kernel_rfl
set_option maxHeartbeats 1000000 in
theorem borderCounts_walk (A0 : Option Addr) (n0 c0 : Nat) (l0 : List Int) (w : World) (hb0 : Byt w w.heap.size A0 n0 l0) (hc0 : n0 ≤ c0) (hm0 : c0 ≤ maxLen) :
    Calls Try.prog 3 #[.slice A0 n0 c0] w fun e w' => e = .returned (.bool true) ∧ Below w.heap.size w w' := by
  have hn0 : (n0 : Int) ≤ 9223372036854775807 := by unfold maxLen at hm0; omega
  refine begin_ (vs := [.slice A0 n0 c0]) Try.func3 rfl rfl rfl ?_ (Pm.start w)
  refine TC.seq_ ?_
  refine TC.region ?_
  refine TL.val rfl rfl rfl (gives_assign rfl rfl) ?_
  refine TL.end_ ?_
  refine TX.then_ ?_
  refine TC.seq_ ?_
  refine TC.seq_ ?_
  refine TC.region ?_
  refine TL.pcall1 (r := .bool true) rfl rfl rfl rfl rfl Try.func6 blcnm6 blcbd6 (fun w1 hw => awake_true w1) ?_
  refine TL.val rfl rfl rfl (gives_boolnot rfl rfl) ?_
  refine TL.end_ ?_
  refine TX.then_ ?_
  refine TC.condF rfl ?_
  refine TC.skip_ ?_
  refine TX.then_ ?_
  refine TC.seq_ ?_
  refine TC.region ?_
  refine TL.val rfl rfl rfl (gives_move rfl rfl) ?_
  refine TL.callNew (I := Pm w []) (p := fun cb w => Cod w cb) rfl rfl rfl rfl rfl Try.func7 blcnm7 blcbd7 (fun w1 hw => (roll_any A0 n0 c0 l0 w1 ((hb0.below hw.bel).more hw.bel.size) hc0 hn0).mono fun e w2 ⟨h1, h2, h3⟩ => ⟨h1, h2, cod_cells h2, h3⟩) cod_stab (fun wn hwn => ?_)
  have hwb := hwn.bel
  refine TL.val rfl rfl rfl (gives_assign rfl rfl) ?_
  refine TL.end_ ?_
  refine TX.then_ ?_
  refine TC.seq_ ?_
  refine TC.region ?_
  refine TL.val rfl rfl rfl (gives_assign rfl rfl) ?_
  refine TL.end_ ?_
  refine TX.then_ ?_
  refine TC.seq_ ?_
  refine TC.seq_ ?_
  refine TC.region ?_
  refine TL.val rfl rfl rfl (gives_move rfl rfl) ?_
  refine TL.pcallCod (k := 0) (α := {q9 : Nat // q9 ≤ 65535 ∧ (1 ≤ (8 : Int) → (q9 : Int) < 8)}) (fun q9 => .int .i64 ((q9.1 : Nat) : Int)) (fun q9 => []) rfl rfl rfl rfl rfl Try.func8 blcnm8 blcbd8 rfl (fun w1 hw hC1 => next_cod wn.heap.size w1 8 hC1) ?_
  rintro ⟨k0, hk01, hk02⟩
  dsimp only [List.cons_append, List.nil_append]
  refine TL.val rfl rfl rfl (gives_assign rfl rfl) ?_
  refine TL.end_ ?_
  refine TX.then_ ?_
  refine TC.block ?_
  refine TC.nilrow 29 1 ?_
  refine TC.loop_ (α := {y : Nat × (Option Addr × Nat) × List Int // y.1 + y.2.2.length ≤ 7 ∧ (∀ a ∈ y.2.2, 1 ≤ a ∧ a ≤ 4) ∧ y.2.2.length ≤ y.2.1.2 ∧ y.2.1.2 ≤ maxLen}) (fun y => [(3, .pointer (some ⟨wn.heap.size, 0, none⟩)), (5, .int .i64 ((y.1.1 : Nat) : Int)), (4, .slice y.1.2.1.1 y.1.2.2.length y.1.2.1.2)]) (fun y => Pm wn [.row (.slice y.1.2.1.1 y.1.2.2.length y.1.2.1.2) 29 1 y.1.2.2.length (flat (ic .u32) y.1.2.2), .abs wn.heap.size (fun w => Cod w wn.heap.size)]) (fun y => y.1.1) (⟨(k0, (none, 0), []), by dsimp only [List.length_nil]; omega, fun e he => absurd he List.not_mem_nil, Nat.le_refl _, Nat.zero_le _⟩) ⟨rfl, rfl, rfl, trivial⟩ (fun w1 hw => hw) ?_
  rintro ⟨⟨k, ⟨Ap, cp⟩, ps⟩, hk, hps, hpc, hpm⟩
  dsimp only at hk hps hpc hpm ⊢
  refine TC.seq_ ?_
  refine TC.seq_ ?_
  refine TC.region ?_
  refine TL.val rfl rfl rfl (gives_move rfl rfl) ?_
  refine TL.vsplit rfl rfl rfl (gives_bin rfl rfl rfl (fun w => bin_gtr w)) (fun h19 => ?_) (fun h19 => ?_)
  · have q19 := of_decide_eq_true h19
    refine TL.end_ ?_
    refine TX.then_ ?_
    refine TC.condT rfl ?_
    refine TC.skip_ ?_
    refine TX.then_ ?_
    refine TC.seq_ ?_
    refine TC.block ?_
    refine TC.region ?_
    refine TL.val rfl rfl rfl (gives_move rfl rfl) ?_
    refine TL.val rfl rfl rfl (gives_move rfl rfl) ?_
    refine TL.pcallCod (k := 1) (α := {q9 : Nat // q9 ≤ 65535 ∧ (1 ≤ (4 : Int) → (q9 : Int) < 4)}) (fun q9 => .int .i64 ((q9.1 : Nat) : Int)) (fun q9 => []) rfl rfl rfl rfl rfl Try.func8 blcnm8 blcbd8 rfl (fun w1 hw hC1 => next_cod wn.heap.size w1 4 hC1) ?_
    rintro ⟨q, hq1, hq2⟩
    dsimp only [List.cons_append, List.nil_append]
    refine TL.val rfl rfl rfl (gives_bin rfl rfl rfl (fun w => bin_add_ (r := 1 + ((q : Nat) : Int)) (by simp only [IntKind.wrap_i64]; omega) w)) ?_
    refine TL.val rfl rfl rfl (gives_conv rfl rfl (fun w => conv_fit (k := .i64) Try.underlying29 Try.underlying3 (by simp only [IntKind.wrap_u32]; omega) w)) ?_
    refine TL.prowS (e := 29) (size := 1) (cs := flat (ic .u32) [1 + ((q : Nat) : Int)]) rfl rfl rfl rfl rfl (fun w => blcbs26_1_5377 _ w) (by decide) rfl (fun g27 => ?_)
    refine TL.appendT (k := 1) rfl rfl rfl rfl Try.underlying26 blcel26 rfl rfl rfl (fun w1 hw => pm_reads hw (k := 0) rfl) (flat_one (ic_cel .u32) _) (by show _ * 4 ≤ _; omega) ((ps ++ ([1 + ((q : Nat) : Int)])).length) (by rw [List.length_append]; rfl) (flat (ic .u32) (ps ++ ([1 + ((q : Nat) : Int)]))) ((flat_app _ _).symm) (fun A28 c28 hA281 hA282 => ?_)
    refine TL.val rfl rfl rfl (gives_assign rfl rfl) ?_
    refine TL.end_ ?_
    refine TX.in_normal ?_
    refine TX.then_ ?_
    refine TC.region ?_
    refine TL.val rfl rfl rfl (gives_move rfl rfl) ?_
    refine TL.val rfl rfl rfl (gives_bin rfl rfl rfl (fun w => bin_sub_ (r := ((k - 1 : Nat) : Int)) (by simp only [IntKind.wrap_i64]; omega) w)) ?_
    refine TL.val rfl rfl rfl (gives_assign rfl rfl) ?_
    refine TL.end_ ?_
    exact TX.round (⟨(k - 1, (A28, c28), ps ++ [1 + ((q : Nat) : Int)]), by dsimp only; rw [List.length_append]; show k - 1 + (ps.length + 1) ≤ 7; omega, rng_snoc hps (by omega), hA281, hA282⟩) (by show k - 1 < k; omega) ⟨rfl, rfl, rfl, trivial⟩ (fun w1 hw => hw.pick [1, 2] (by decide) rfl)
  · have q19 := of_decide_eq_false h19
    refine TL.end_ ?_
    refine TX.then_ ?_
    refine TC.condF rfl ?_
    refine TC.exit_ ?_
    refine TX.then_exit ?_
    refine TX.then_exit ?_
    refine TX.in_same ?_
    refine TX.then_ ?_
    refine TC.seq_ ?_
    refine TC.region ?_
    refine TL.val rfl rfl rfl (gives_move rfl rfl) ?_
    refine TL.pcallPm (α := Nat) (fun x => .agg #[.slice (some ⟨x, 0, none⟩) 4 4]) (fun x => [.row (.slice (some ⟨x, 0, none⟩) 4 4) 45 5 4 (flat En.cells ownL)]) rfl rfl rfl rfl rfl Try.func10 blcnm10 blcbd10 (fun w1 hw => own_any w1) ?_
    rintro go30
    dsimp only [List.cons_append, List.nil_append]
    refine TL.pcallPm (α := {p : Option Addr × Nat // (ownF ownL 3 ps).length ≤ p.2 ∧ p.2 ≤ maxLen}) (fun x => .slice x.1.1 ((ownF ownL 3 ps).length) x.1.2) (fun x => [.row (.slice x.1.1 ((ownF ownL 3 ps).length) x.1.2) 3 1 ((ownF ownL 3 ps).length) (flat (ic .i64) (ownF ownL 3 ps))]) rfl rfl rfl rfl rfl Try.func9 blcnm9 blcbd9 (fun w1 hw => owners_any Ap cp ps (some ⟨go30, 0, none⟩) 4 ownL 3 w1 (pm_rd hw (k := 1) rfl) (by omega) (pm_rd hw (k := 0) rfl)) ?_
    rintro ⟨⟨R31, rc31⟩, hR311, hR312⟩
    dsimp only [List.cons_append, List.nil_append]
    refine TL.val rfl rfl rfl (gives_assign rfl rfl) ?_
    refine TL.end_ ?_
    refine TX.then_ ?_
    refine TC.seq_ ?_
    refine TC.seq_ ?_
    have hol := ownF_len ownL 3 ps
    refine TC.region ?_
    refine TL.val rfl rfl rfl (gives_move rfl rfl) ?_
    refine TL.val rfl rfl rfl (gives_len rfl Try.underlying30 rfl) ?_
    refine TL.val rfl rfl rfl (gives_move rfl rfl) ?_
    refine TL.val rfl rfl rfl (gives_len rfl Try.underlying26 rfl) ?_
    refine TL.val rfl rfl rfl (gives_bin rfl rfl rfl (fun w => bin_neq_f (by rw [hol]) w)) ?_
    refine TL.end_ ?_
    refine TX.then_ ?_
    refine TC.condF rfl ?_
    refine TC.skip_ ?_
    refine TX.then_ ?_
    refine TC.seq_ ?_
    refine TC.region ?_
    refine TL.val rfl rfl rfl (gives_assign rfl rfl) ?_
    refine TL.end_ ?_
    refine TX.then_ ?_
    refine TC.seq_ ?_
    refine TC.seq_ ?_
    refine TC.region ?_
    refine TL.val rfl rfl rfl (gives_assign rfl rfl) ?_
    refine TL.end_ ?_
    refine TX.then_ ?_
    refine TC.block ?_
    refine TC.loop_ (α := {y : Nat × Nat // (1 ≤ y.1 ∧ (y.1 ≤ ps.length ∨ y.1 = 1)) ∧ chg (ownF ownL 3 ps) y.1 = y.2 ∧ y.2 ≤ y.1}) (fun y => [(3, .pointer (some ⟨wn.heap.size, 0, none⟩)), (4, .slice Ap ps.length cp), (6, .slice R31 ((ownF ownL 3 ps).length) rc31), (8, .int .i64 ((y.1.1 : Nat) : Int)), (7, .int .i64 ((y.1.2 : Nat) : Int))]) (fun y => Pm wn [.row (.slice R31 ((ownF ownL 3 ps).length) rc31) 3 1 ((ownF ownL 3 ps).length) (flat (ic .i64) (ownF ownL 3 ps)), .row (.slice (some ⟨go30, 0, none⟩) 4 4) 45 5 4 (flat En.cells ownL), .row (.slice Ap ps.length cp) 29 1 ps.length (flat (ic .u32) ps), .abs wn.heap.size (fun w => Cod w wn.heap.size)]) (fun y => ps.length + 1 - y.1.1) (⟨(1, 0), ⟨Nat.le_refl _, .inr rfl⟩, rfl, Nat.zero_le _⟩) ⟨rfl, rfl, rfl, rfl, rfl, trivial⟩ (fun w1 hw => hw) ?_
    rintro ⟨⟨i, n⟩, hi, hn, hnl⟩
    dsimp only at hi hn hnl ⊢
    refine TC.seq_ ?_
    refine TC.seq_ ?_
    refine TC.region ?_
    refine TL.val rfl rfl rfl (gives_move rfl rfl) ?_
    refine TL.val rfl rfl rfl (gives_move rfl rfl) ?_
    refine TL.val rfl rfl rfl (gives_len rfl Try.underlying30 rfl) ?_
    refine TL.vsplit rfl rfl rfl (gives_bin rfl rfl rfl (fun w => bin_lss w)) (fun h40 => ?_) (fun h40 => ?_)
    · have q40 := of_decide_eq_true h40
      refine TL.end_ ?_
      refine TX.then_ ?_
      refine TC.condT rfl ?_
      refine TC.skip_ ?_
      refine TX.then_ ?_
      refine TC.seq_ ?_
      refine TC.block ?_
      refine TC.seq_ ?_
      have hi0 : 1 ≤ i := by omega
      refine TC.fact (p := ∃ g, R31 = some ⟨g, 0, none⟩) (fun w1 hw => rowA hw (k := 0) rfl (by omega)) ?_
      rintro ⟨g_R31, rfl⟩
      refine TC.quietQ (by kernel_rfl) (by kernel_rfl) (fun w hw => hw.drawn _) ?_
      refine TQ.val rfl rfl rfl (gives_move rfl rfl) ?_
      refine TQ.val rfl rfl rfl (gives_move rfl rfl) ?_
      have hi45 : i < (ownF ownL 3 ps).length := by omega
      obtain ⟨x45, hx45⟩ : ∃ x45, (ownF ownL 3 ps)[i]? = some x45 := ⟨_, List.getElem?_eq_getElem hi45⟩
      refine TQ.val rfl rfl rfl (gives_at (v := .pointer (some ⟨g_R31, 0 + i * 1, none⟩)) rfl rfl rfl (fun w => at_el Try.underlying30 blcsz3 rfl _ _ i (by omega) rfl w)) ?_
      refine TQ.val rfl rfl rfl (gives_load (v := .int .i64 x45) rfl rfl blcag3 (fun w1 hw => flat_row (ic_cel .i64) hw (q := 0) rfl hx45 0 _ rfl)) ?_
      refine TQ.val rfl rfl rfl (gives_move rfl rfl) ?_
      refine TQ.val rfl rfl rfl (gives_move rfl rfl) ?_
      refine TQ.val rfl rfl rfl (gives_bin rfl rfl rfl (fun w => bin_sub_ (r := ((i - 1 : Nat) : Int)) (by simp only [IntKind.wrap_i64]; omega) w)) ?_
      have hi50 : i - 1 < (ownF ownL 3 ps).length := by omega
      obtain ⟨x50, hx50⟩ : ∃ x50, (ownF ownL 3 ps)[i - 1]? = some x50 := ⟨_, List.getElem?_eq_getElem hi50⟩
      refine TQ.val rfl rfl rfl (gives_at (v := .pointer (some ⟨g_R31, 0 + (i - 1) * 1, none⟩)) rfl rfl rfl (fun w => at_el Try.underlying30 blcsz3 rfl _ _ (i - 1) (by omega) rfl w)) ?_
      refine TQ.val rfl rfl rfl (gives_load (v := .int .i64 x50) rfl rfl blcag3 (fun w1 hw => flat_row (ic_cel .i64) hw (q := 0) rfl hx50 0 _ rfl)) ?_
      refine TQ.vsplit rfl rfl rfl (gives_bin rfl rfl rfl (fun w => bin_neq w)) (fun h52 => ?_) (fun h52 => ?_)
      · have q52 := of_decide_eq_true h52
        refine TQ.fin ?_
        refine TX.then_ ?_
        refine TC.condT rfl ?_
        refine TC.region ?_
        refine TL.val rfl rfl rfl (gives_move rfl rfl) ?_
        refine TL.val rfl rfl rfl (gives_bin rfl rfl rfl (fun w => bin_add_ (r := ((n + 1 : Nat) : Int)) (by simp only [IntKind.wrap_i64]; omega) w)) ?_
        refine TL.val rfl rfl rfl (gives_assign rfl rfl) ?_
        refine TL.end_ ?_
        refine TX.in_normal ?_
        refine TX.then_ ?_
        refine TC.region ?_
        refine TL.val rfl rfl rfl (gives_move rfl rfl) ?_
        refine TL.val rfl rfl rfl (gives_bin rfl rfl rfl (fun w => bin_add_ (r := ((i + 1 : Nat) : Int)) (by simp only [IntKind.wrap_i64]; omega) w)) ?_
        refine TL.val rfl rfl rfl (gives_assign rfl rfl) ?_
        refine TL.end_ ?_
        exact TX.round (⟨(i + 1, n + 1), by dsimp only; omega, by dsimp only; rw [chg_step hx45 hx50 (by omega), hn]; simp [q40, q52], by dsimp only; omega⟩) (by show ps.length + 1 - (i + 1) < ps.length + 1 - i; omega) ⟨rfl, rfl, rfl, rfl, rfl, trivial⟩ (fun w1 hw => hw)
      · have q52 := of_decide_eq_false h52
        refine TQ.fin ?_
        refine TX.then_ ?_
        refine TC.condF rfl ?_
        refine TC.skip_ ?_
        refine TX.in_normal ?_
        refine TX.then_ ?_
        refine TC.region ?_
        refine TL.val rfl rfl rfl (gives_move rfl rfl) ?_
        refine TL.val rfl rfl rfl (gives_bin rfl rfl rfl (fun w => bin_add_ (r := ((i + 1 : Nat) : Int)) (by simp only [IntKind.wrap_i64]; omega) w)) ?_
        refine TL.val rfl rfl rfl (gives_assign rfl rfl) ?_
        refine TL.end_ ?_
        exact TX.round (⟨(i + 1, n), by dsimp only; omega, by dsimp only; rw [chg_step hx45 hx50 (by omega), hn]; simp [q40, q52], by dsimp only; omega⟩) (by show ps.length + 1 - (i + 1) < ps.length + 1 - i; omega) ⟨rfl, rfl, rfl, rfl, rfl, trivial⟩ (fun w1 hw => hw)
    · have q40 := of_decide_eq_false h40
      have hchn : chg (ownF ownL 3 ps) ps.length = n := by rw [← hn]; exact chg_end (by omega) (by omega)
      refine TL.end_ ?_
      refine TX.then_ ?_
      refine TC.condF rfl ?_
      refine TC.exit_ ?_
      refine TX.then_exit ?_
      refine TX.then_exit ?_
      refine TX.in_same ?_
      refine TX.then_ ?_
      refine TC.seq_ ?_
      refine TC.region ?_
      refine TL.val rfl rfl rfl (gives_move rfl rfl) ?_
      refine TL.pcallPm (α := Nat) (fun x => .agg #[.slice (some ⟨x, 0, none⟩) 4 4]) (fun x => [.row (.slice (some ⟨x, 0, none⟩) 4 4) 45 5 4 (flat En.cells ownL)]) rfl rfl rfl rfl rfl Try.func10 blcnm10 blcbd10 (fun w1 hw => own_any w1) ?_
      rintro go56
      dsimp only [List.cons_append, List.nil_append]
      refine TL.pcallPm (α := {p : Option Addr × Nat // (winV ownL 3 ps).length ≤ p.2 ∧ p.2 ≤ maxLen}) (fun x => .slice x.1.1 ((winV ownL 3 ps).length) x.1.2) (fun x => [.row (.slice x.1.1 ((winV ownL 3 ps).length) x.1.2) 39 4 ((winV ownL 3 ps).length) (flat Bd.cells (winV ownL 3 ps))]) rfl rfl rfl rfl rfl Try.func11 blcnm11 blcbd11 (fun w1 hw => windows_any Ap cp ps (some ⟨go56, 0, none⟩) 4 ownL 3 w1 (pm_rd hw (k := 3) rfl) (by omega) (pm_rd hw (k := 0) rfl)) ?_
      rintro ⟨⟨R57, rc57⟩, hR571, hR572⟩
      dsimp only [List.cons_append, List.nil_append]
      refine TL.val rfl rfl rfl (gives_assign rfl rfl) ?_
      refine TL.end_ ?_
      refine TX.then_ ?_
      refine TC.seq_ ?_
      refine TC.seq_ ?_
      have hwl : (winV ownL 3 ps).length = n := by rw [win_cnt hps]; exact hchn
      refine TC.region ?_
      refine TL.val rfl rfl rfl (gives_move rfl rfl) ?_
      refine TL.val rfl rfl rfl (gives_len rfl Try.underlying36 rfl) ?_
      refine TL.val rfl rfl rfl (gives_move rfl rfl) ?_
      refine TL.end_ ?_
      refine TX.then_ ?_
      refine TC.block ?_
      refine TC.loop_ (α := {i : Nat // i ≤ (winV ownL 3 ps).length}) (fun y => [(3, .pointer (some ⟨wn.heap.size, 0, none⟩)), (4, .slice Ap ps.length cp), (7, .int .i64 ((n : Nat) : Int)), (9, .slice R57 ((winV ownL 3 ps).length) rc57), (58, .slice R57 ((winV ownL 3 ps).length) rc57), (59, .int .i64 ((winV ownL 3 ps).length : Nat)), (60, .int .i64 ((y.1 : Nat) : Int))]) (fun y => Pm wn [.row (.slice R57 ((winV ownL 3 ps).length) rc57) 39 4 ((winV ownL 3 ps).length) (flat Bd.cells (winV ownL 3 ps)), .row (.slice (some ⟨go56, 0, none⟩) 4 4) 45 5 4 (flat En.cells ownL), .row (.slice R31 ((ownF ownL 3 ps).length) rc31) 3 1 ((ownF ownL 3 ps).length) (flat (ic .i64) (ownF ownL 3 ps)), .row (.slice (some ⟨go30, 0, none⟩) 4 4) 45 5 4 (flat En.cells ownL), .row (.slice Ap ps.length cp) 29 1 ps.length (flat (ic .u32) ps), .abs wn.heap.size (fun w => Cod w wn.heap.size)]) (fun y => (winV ownL 3 ps).length - y.1) (⟨0, Nat.zero_le _⟩) ⟨rfl, rfl, rfl, rfl, rfl, rfl, rfl, trivial⟩ (fun w1 hw => hw) ?_
      rintro ⟨i, hi⟩
      try dsimp only
      refine TC.seq_ ?_
      refine TC.region ?_
      refine TL.vsplit rfl rfl rfl (gives_bin rfl rfl rfl (fun w => bin_lss w)) (fun h61 => ?_) (fun h61 => ?_)
      · have q61 := of_decide_eq_true h61
        refine TL.end_ ?_
        refine TX.then_ ?_
        refine TC.seq_ ?_
        refine TC.condT rfl ?_
        refine TC.skip_ ?_
        refine TX.then_ ?_
        refine TC.seq_ ?_
        refine TC.block ?_
        refine TC.seq_ ?_
        refine TC.region ?_
        refine TL.fact (p := ∃ g, R57 = some ⟨g, 0, none⟩) (fun w1 hw => rowA hw (k := 0) rfl (by omega)) ?_
        rintro ⟨g_R57, rfl⟩
        have hi62 : i < (winV ownL 3 ps).length := by omega
        obtain ⟨x62, hx62⟩ : ∃ x62, (winV ownL 3 ps)[i]? = some x62 := ⟨_, List.getElem?_eq_getElem hi62⟩
        have hx63f := win_good hps x62 (List.mem_of_getElem? hx62)
        refine TL.val rfl rfl rfl (gives_at (v := .pointer (some ⟨g_R57, 0 + i * 4, none⟩)) rfl rfl rfl (fun w => at_el Try.underlying36 blcsz39 rfl _ _ i (by omega) rfl w)) ?_
        refine TL.val rfl rfl rfl (gives_loadR (off := 0 + i * 4) rfl rfl blcag39 blcsz39 (bd_cel.len x62) (fun w1 hw j9 u9 h9 => flat_row bd_cel hw (q := 0) rfl hx62 j9 u9 h9)) ?_
        refine TL.pnew rfl rfl rfl (exec_alloc (cs := [.int .u32 0, .int .u32 0, .int .i64 0, .int .i64 0]) rfl blczv39 rfl) (fun g11 => ?_)
        refine TL.pstore (k := 0) (vs := x62.cells) rfl rfl rfl rfl rfl rfl rfl blcsz39 (bd_cel.one _) (by show 4 ≤ 4; decide) (L' := [.blk g11 39 x62.cells, .row (.slice (some ⟨g_R57, 0, none⟩) ((winV ownL 3 ps).length) rc57) 39 4 ((winV ownL 3 ps).length) (flat Bd.cells (winV ownL 3 ps)), .row (.slice (some ⟨go56, 0, none⟩) 4 4) 45 5 4 (flat En.cells ownL), .row (.slice R31 ((ownF ownL 3 ps).length) rc31) 3 1 ((ownF ownL 3 ps).length) (flat (ic .i64) (ownF ownL 3 ps)), .row (.slice (some ⟨go30, 0, none⟩) 4 4) 45 5 4 (flat En.cells ownL), .row (.slice Ap ps.length cp) 29 1 ps.length (flat (ic .u32) ps), .abs wn.heap.size (fun w => Cod w wn.heap.size)]) rfl ?_
        refine TL.end_ ?_
        refine TX.then_ ?_
        refine TC.seq_ ?_
        refine TC.region ?_
        refine TL.val rfl rfl rfl (gives_field (v := .pointer (some ⟨g11, 2, none⟩)) rfl rfl (fun w => blcfld39_2 _ _ w)) ?_
        refine TL.val rfl rfl rfl (pm_load (k := 0) (i := 2) rfl rfl blcag3 rfl rfl) ?_
        refine TL.val rfl rfl rfl (gives_field (v := .pointer (some ⟨g11, 3, none⟩)) rfl rfl (fun w => blcfld39_3 _ _ w)) ?_
        refine TL.val rfl rfl rfl (pm_load (k := 0) (i := 3) rfl rfl blcag3 rfl rfl) ?_
        refine TL.val rfl rfl rfl (gives_bin rfl rfl rfl (fun w => bin_eql_f (hx63f.1) w)) ?_
        refine TL.val rfl rfl rfl (gives_move rfl rfl) ?_
        refine TL.on rfl rfl rfl ?_
        refine TL.val rfl rfl rfl (gives_field (v := .pointer (some ⟨g11, 2, none⟩)) rfl rfl (fun w => blcfld39_2 _ _ w)) ?_
        refine TL.on rfl rfl rfl ?_
        refine TL.val rfl rfl rfl (pm_load (k := 0) (i := 2) rfl rfl blcag3 rfl rfl) ?_
        refine TL.on rfl rfl rfl ?_
        refine TL.val rfl rfl rfl (gives_bin rfl rfl rfl (fun w => bin_eql_f (hx63f.2.1) w)) ?_
        refine TL.val rfl rfl rfl (gives_pick rfl rfl rfl) ?_
        refine TL.val rfl rfl rfl (gives_move rfl rfl) ?_
        refine TL.on rfl rfl rfl ?_
        refine TL.val rfl rfl rfl (gives_field (v := .pointer (some ⟨g11, 3, none⟩)) rfl rfl (fun w => blcfld39_3 _ _ w)) ?_
        refine TL.on rfl rfl rfl ?_
        refine TL.val rfl rfl rfl (pm_load (k := 0) (i := 3) rfl rfl blcag3 rfl rfl) ?_
        refine TL.on rfl rfl rfl ?_
        refine TL.val rfl rfl rfl (gives_bin rfl rfl rfl (fun w => bin_eql_f (hx63f.2.2.1) w)) ?_
        refine TL.val rfl rfl rfl (gives_pick rfl rfl rfl) ?_
        refine TL.val rfl rfl rfl (gives_move rfl rfl) ?_
        refine TL.on rfl rfl rfl ?_
        refine TL.val rfl rfl rfl (gives_field (v := .pointer (some ⟨g11, 1, none⟩)) rfl rfl (fun w => blcfld39_1 _ _ w)) ?_
        refine TL.on rfl rfl rfl ?_
        refine TL.val rfl rfl rfl (pm_load (k := 0) (i := 1) rfl rfl blcag29 rfl rfl) ?_
        refine TL.on rfl rfl rfl ?_
        refine TL.val rfl rfl rfl (gives_bin rfl rfl rfl (fun w => bin_eql_f (hx63f.2.2.2) w)) ?_
        refine TL.val rfl rfl rfl (gives_pick rfl rfl rfl) ?_
        refine TL.end_ ?_
        refine TX.then_ ?_
        refine TC.condF rfl ?_
        refine TC.skip_ ?_
        refine TX.in_normal ?_
        refine TX.then_ ?_
        refine TC.region ?_
        refine TL.val rfl rfl rfl (gives_bin rfl rfl rfl (fun w => bin_add_ (r := ((i + 1 : Nat) : Int)) (by simp only [IntKind.wrap_i64]; omega) w)) ?_
        refine TL.val rfl rfl rfl (gives_move rfl rfl) ?_
        refine TL.end_ ?_
        exact TX.round (⟨i + 1, by omega⟩) (by show (winV ownL 3 ps).length - (i + 1) < (winV ownL 3 ps).length - i; omega) ⟨rfl, rfl, rfl, rfl, rfl, rfl, rfl, trivial⟩ (fun w1 hw => hw.pick [1, 2, 3, 4, 5, 6] (by decide) rfl)
      · have q61 := of_decide_eq_false h61
        refine TL.end_ ?_
        refine TX.then_ ?_
        refine TC.seq_ ?_
        refine TC.condF rfl ?_
        refine TC.exit_ ?_
        refine TX.then_exit ?_
        refine TX.then_exit ?_
        refine TX.in_same ?_
        refine TX.then_ ?_
        refine TC.seq_ ?_
        have hcw : ((winV ownL 3 ps).length : Int) = ((n : Nat) : Int) := by rw [hwl]
        refine TC.region ?_
        refine TL.val rfl rfl rfl (gives_move rfl rfl) ?_
        refine TL.val rfl rfl rfl (gives_len rfl Try.underlying36 rfl) ?_
        refine TL.val rfl rfl rfl (gives_move rfl rfl) ?_
        refine TL.val rfl rfl rfl (gives_bin rfl rfl rfl (fun w => bin_eql_t (by rw [hcw]) w)) ?_
        refine TL.val rfl rfl rfl (gives_move rfl rfl) ?_
        refine TL.on rfl rfl rfl ?_
        refine TL.val rfl rfl rfl (gives_move rfl rfl) ?_
        refine TL.on rfl rfl rfl ?_
        refine TL.val rfl rfl rfl (gives_build (v := .agg #[.slice none 0 0]) rfl rfl (fun w => blcbld34_527  w)) ?_
        refine TL.on rfl rfl rfl ?_
        refine TL.pcallPm (α := {p : Option Addr × Nat // 0 ≤ p.2 ∧ p.2 ≤ maxLen}) (fun x => .slice x.1.1 0 x.1.2) (fun x => [.row (.slice x.1.1 0 x.1.2) 39 4 0 (flat Bd.cells ([]))]) rfl rfl rfl rfl rfl Try.func11 blcnm11 blcbd11 (fun w1 hw => (by have h9 := windows_any Ap cp ps none 0 ([]) 3 w1 (pm_rd hw (k := 4) rfl) (by omega) Reads.none_; rw [(win_nil ps)] at h9; exact h9)) ?_
        rintro ⟨⟨R92, rc92⟩, hR921, hR922⟩
        dsimp only [List.cons_append, List.nil_append]
        refine TL.on rfl rfl rfl ?_
        refine TL.val rfl rfl rfl (gives_len rfl Try.underlying36 rfl) ?_
        refine TL.on rfl rfl rfl ?_
        refine TL.val rfl rfl rfl (gives_bin rfl rfl rfl (fun w => bin_eql_t rfl w)) ?_
        refine TL.val rfl rfl rfl (gives_pick rfl rfl rfl) ?_
        refine TL.val rfl rfl rfl (gives_assign rfl rfl) ?_
        refine TL.end_ ?_
        refine TX.then_ ?_
        refine TC.ret_ ?_
        exact ret_tmp Try.results3 rfl (fun w1 hw => ⟨rfl, hwb.trans (hw.bel.mono hwb.size)⟩)
end Go.Proofs.Ytmbcclgnjobikaa
