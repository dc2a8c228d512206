/-
  The walk of BorderVotes.
-/
import Derived.Test.YtmbcclgnjobikaaBdAwk
import Derived.Test.YtmbcclgnjobikaaBdDReg
namespace Go.Proofs.Ytmbcclgnjobikaa
open Go.RowKit
set_option linter.unusedVariables false
set_option linter.unusedSimpArgs false
set_option maxRecDepth 20000
theorem rg_snoc {ps : List Int} {x : Int} (h : ∀ z ∈ ps, 167772161 ≤ z ∧ z ≤ 167772173) (hx : 167772161 ≤ x ∧ x ≤ 167772173) : ∀ z ∈ ps ++ [x], 167772161 ≤ z ∧ z ≤ 167772173 := fun a ha => by
  rcases List.mem_append.1 ha with ha | ha
  · exact h a ha
  · rw [List.mem_singleton.1 ha]; exact hx
theorem rg_app {a b : List Int} (h : ∀ z ∈ a, 167772161 ≤ z ∧ z ≤ 167772173) (g : ∀ z ∈ b, 167772161 ≤ z ∧ z ≤ 167772173) : ∀ z ∈ a ++ b, 167772161 ≤ z ∧ z ≤ 167772173 := fun z hz => (List.mem_append.1 hz).elim (h z) (g z)
theorem turn_step {b : List Int} {i : Nat} {x : Int} (hx : b[i]? = some x) : 1660944384 :: (b.drop (i + 1)).reverse ++ [x] = 1660944384 :: (b.drop i).reverse := by
  obtain ⟨hlt, e⟩ := List.getElem?_eq_some_iff.1 hx
  rw [List.drop_eq_getElem_cons hlt, e, List.reverse_cons, List.cons_append]
theorem own_pv {es : List En} {l : List Int} (h : ∀ z ∈ l, 167772161 ≤ z ∧ z ≤ 167772173) : ownF es 60 l = pvS es 60 l := by
  refine List.map_congr_left fun z hz => ?_
  have := h z hz
  exact if_neg (by omega)
/-- an address that no drawn entry has -/
theorem prov99 {es : List En} (h : ∀ e ∈ es, EnG e) : provR es 1660944384 60 = 0 := by
  have hf : ∀ e ∈ es, hasP e.addr e.len 1660944384 = false := fun e he => by
    obtain ⟨h1, h2, _⟩ := h e he
    have key : bits .and .u32 1660944384 (maskF e.len) = 1660944384 := by
      simp only [lens, List.mem_cons, List.not_mem_nil, or_false] at h2
      rcases h2 with e1 | e1 | e1 | e1 | e1 | e1 | e1 | e1 <;> (rw [e1]; decide +kernel)
    unfold hasP
    rw [key, decide_eq_false (by omega), Bool.and_false]
  have hs : ∀ (l : List En), (∀ e ∈ l, e ∈ es) → l.foldl (stepL 1660944384 60) (En.zero, false) = (En.zero, false) := by
    intro l
    induction l with
    | nil => exact fun _ => rfl
    | cons x l ih =>
      intro hl
      show l.foldl _ (stepL 1660944384 60 (En.zero, false) x) = _
      have e1 : stepL 1660944384 60 (En.zero, false) x = (En.zero, false) := by
        unfold stepL fitsE
        rw [hf x (hl x List.mem_cons_self), Bool.and_false]
        rfl
      rw [e1]
      exact ih fun e he => hl e (List.mem_cons_of_mem _ he)
  unfold provR lookV
  split
  · unfold lookR
    rw [hs es fun e he => he]
    rfl
  · rfl
theorem vcnt_app (a b : List Int) (p : Int) : vcnt (a ++ b) p = vcnt a p + vcnt b p := by
  unfold vcnt
  split
  · rfl
  · exact cntI_app a b p
theorem votes_turn {es : List En} {a b T : List Int} {f n m : Int} (hE : ∀ e ∈ es, EnG e) (h : VotesOk (pvS es 60 (a ++ b)) f n) (g : VotesOk (pvS es 60 (a ++ T)) f m) (hT : T = 1660944384 :: b.reverse) : m = n := by
  refine g.uniq h fun q => ?_
  subst hT
  have e1 : ∀ x y : List Int, pvS es 60 (x ++ y) = pvS es 60 x ++ pvS es 60 y := fun x y => List.map_append
  have e2 : pvS es 60 (1660944384 :: b.reverse) = [0] ++ (pvS es 60 b).reverse := by
    show provR es 1660944384 60 :: pvS es 60 b.reverse = _
    rw [prov99 hE]
    show _ :: List.map _ b.reverse = _
    rw [List.map_reverse]
    rfl
  rw [e1, e1, vcnt_app, vcnt_app, e2, vcnt_app]
  have e3 : vcnt [0] q = 0 := by
    unfold vcnt
    split
    · rfl
    · rename_i h0
      simp [cntI, Ne.symm h0]
  have e4 : vcnt (pvS es 60 b).reverse q = vcnt (pvS es 60 b) q := by
    unfold vcnt cntI
    rw [List.countP_reverse]
  rw [e3, e4, Nat.zero_add]
theorem three_cnt (ps : List Int) {p q : Int} (hp : p ≠ 0) (hq : q ≠ 0) (hpq : p ≠ q) : cntI ps p + cntI ps q + cntI ps 0 ≤ ps.length := by
  induction ps with
  | nil => exact Nat.le_refl _
  | cons x l ih =>
    unfold cntI at ih ⊢
    rw [List.countP_cons, List.countP_cons, List.countP_cons, List.length_cons]
    have h1 : (if decide (x = p) = true then 1 else 0) + (if decide (x = q) = true then 1 else 0) + (if decide (x = (0 : Int)) = true then 1 else 0) ≤ 1 := by
      simp only [decide_eq_true_eq]
      split <;> split <;> split <;> omega
    omega
theorem votes_major {ps o : List Int} {f n p : Int} (h : VotesOk ps f n) (ho : o = ps) (hp : p ≠ 0) (hm : cntI o p * 2 > o.length - cntI o 0) : n = p := by
  subst ho
  refine Decidable.byContradiction fun hne => ?_
  have h1 := h.1 p
  have e1 : vcnt o p = cntI o p := if_neg hp
  rw [e1] at h1
  have hn : n ≠ 0 := fun e => by
    subst e
    have : vcnt o 0 = 0 := rfl
    omega
  have e2 : vcnt o n = cntI o n := if_neg hn
  have := three_cnt o hp hn (Ne.symm hne)
  omega
theorem votes_zero {ps o : List Int} {f n : Int} (h : VotesOk ps f n) (ho : o = ps) (hn : n = 0) : o.length - cntI o 0 = 0 := by
  subst ho hn
  rcases h.2 with ⟨_, h2⟩ | ⟨h2, _⟩
  · have : cntI o 0 = o.length := by
      unfold cntI
      refine List.countP_eq_length.2 fun x hx => decide_eq_true ?_
      refine Decidable.byContradiction fun h0 => ?_
      have h3 := h2 x
      unfold vcnt at h3
      rw [if_neg h0] at h3
      have : 0 < cntI o x := List.countP_pos_iff.2 ⟨x, hx, decide_eq_true rfl⟩
      omega
    omega
  · exact absurd rfl h2
theorem votes_none {ps o : List Int} {f n : Int} (h : VotesOk ps f n) (ho : o = ps) (h0 : o.length - cntI o 0 = 0) : n = 0 := by
  subst ho
  rcases h.2 with ⟨h1, _⟩ | ⟨h2, _⟩
  · exact h1
  · refine Decidable.byContradiction fun hn => h2 ?_
    have e := cntI_le o 0
    have e1 : cntI o 0 = o.length := by omega
    unfold vcnt
    rw [if_neg hn]
    unfold cntI at e1 ⊢
    have hall := List.countP_eq_length.1 e1
    refine List.countP_eq_zero.2 fun x hx => ?_
    have := of_decide_eq_true (hall x hx)
    simp only [decide_eq_true_eq]
    omega
theorem blvnm6 : (Try.f6.name == "runtime.NumGoroutine") = false := by decide
theorem blvbd6 : Try.f6.body.isNone = false := rfl
theorem blvnm7 : (Try.f7.name == "runtime.NumGoroutine") = false := by decide
theorem blvbd7 : Try.f7.body.isNone = false := rfl
theorem blvnm13 : (Try.f13.name == "runtime.NumGoroutine") = false := by decide
theorem blvbd13 : Try.f13.body.isNone = false := rfl
theorem blvzv34 (w : World) : (zeroValue 34).run Try.prog w = .ok (.agg #[.slice none 0 0]) w := rfl
theorem blvsz34 (w : World) : (sizeOf 34).run Try.prog w = .ok 1 w := rfl
theorem blvone_s {a0 : Option Addr} {n0 c0 : Nat} : ∀ u ∈ [(.slice a0 n0 c0 : Value)], u.oneCell' = true := by
  intro u hu
  rw [List.mem_singleton] at hu
  subst hu; rfl
theorem blvnm8 : (Try.f8.name == "runtime.NumGoroutine") = false := by decide
theorem blvbd8 : Try.f8.body.isNone = false := rfl
theorem blvnm14 : (Try.f14.name == "runtime.NumGoroutine") = false := by decide
theorem blvbd14 : Try.f14.body.isNone = false := rfl
theorem blvbs26_1_5377 (a0_0 : Int) (w : World) : (Instr.buildSlice 26 1 #[(0, .int .u32 a0_0)]).run Try.prog w = .ok (.slice (some ⟨w.heap.size, 0, none⟩) 1 1) (w.alloc (.cells [.int .u32 a0_0].toArray 29)) := by kernel_rfl
theorem blvel26 : Elem Try.prog 26 29 1 4 := Elem.mk' Try.underlying26 (z := .int .u32 0) (by kernel_rfl) rfl (by omega) (by omega)
theorem blvag34 (w : World) : (isAgg 34).run Try.prog w = .ok true w := rfl
theorem blvnm15 : (Try.f15.name == "runtime.NumGoroutine") = false := by decide
theorem blvbd15 : Try.f15.body.isNone = false := rfl
theorem blvsz29 (w : World) : (sizeOf 29).run Try.prog w = .ok 1 w := rfl
theorem blvag29 (w : World) : (isAgg 29).run Try.prog w = .ok false w := rfl
theorem blvnm9 : (Try.f9.name == "runtime.NumGoroutine") = false := by decide
theorem blvbd9 : Try.f9.body.isNone = false := rfl
theorem blvsz3 (w : World) : (sizeOf 3).run Try.prog w = .ok 1 w := rfl
theorem blvag3 (w : World) : (isAgg 3).run Try.prog w = .ok false w := rfl
theorem blvnm16 : (Try.f16.name == "runtime.NumGoroutine") = false := by decide
theorem blvbd16 : Try.f16.body.isNone = false := rfl
theorem blvnm17 : (Try.f17.name == "runtime.NumGoroutine") = false := by decide
theorem blvbd17 : Try.f17.body.isNone = false := rfl
set_option maxHeartbeats 1000000 in
theorem borderVotes_walk (A0 : Option Addr) (n0 c0 : Nat) (l0 : List Int) (w : World) (hb0 : Byt w w.heap.size A0 n0 l0) (hc0 : n0 ≤ c0) (hm0 : c0 ≤ maxLen) :
    Calls Try.prog 5 #[.slice A0 n0 c0] w fun e w' => e = .returned (.bool true) ∧ Below w.heap.size w w' := by
  have hn0 : (n0 : Int) ≤ 9223372036854775807 := by unfold maxLen at hm0; omega
  refine begin_ (vs := [.slice A0 n0 c0]) Try.func5 rfl rfl rfl ?_ (Pm.start w)
  refine TC.seq_ ?_
  refine TC.region ?_
  refine TL.val rfl rfl rfl (gives_assign rfl rfl) ?_
  refine TL.end_ ?_
  refine TX.then_ ?_
  refine TC.seq_ ?_
  refine TC.seq_ ?_
  refine TC.region ?_
  refine TL.pcall1 (r := .bool true) rfl rfl rfl rfl rfl Try.func6 blvnm6 blvbd6 (fun w1 hw => awake_true w1) ?_
  refine TL.val rfl rfl rfl (gives_boolnot rfl rfl) ?_
  refine TL.end_ ?_
  refine TX.then_ ?_
  refine TC.condF rfl ?_
  refine TC.skip_ ?_
  refine TX.then_ ?_
  refine TC.seq_ ?_
  refine TC.region ?_
  refine TL.val rfl rfl rfl (gives_move rfl rfl) ?_
  refine TL.callNew (I := Pm w []) (p := fun cb w => Cod w cb) rfl rfl rfl rfl rfl Try.func7 blvnm7 blvbd7 (fun w1 hw => (roll_any A0 n0 c0 l0 w1 ((hb0.below hw.bel).more hw.bel.size) hc0 hn0).mono fun e w2 ⟨h1, h2, h3⟩ => ⟨h1, h2, cod_cells h2, h3⟩) cod_stab (fun wn hwn => ?_)
  have hwb := hwn.bel
  refine TL.val rfl rfl rfl (gives_assign rfl rfl) ?_
  refine TL.end_ ?_
  refine TX.then_ ?_
  refine TC.seq_ ?_
  refine TC.region ?_
  refine TL.val rfl rfl rfl (gives_move rfl rfl) ?_
  refine TL.pcallCod (k := 0) (α := {y : (Option Addr × Nat) × List En // (∀ e ∈ y.2, EnG e) ∧ y.2.length ≤ 10 ∧ y.2.length ≤ y.1.2 ∧ y.1.2 ≤ maxLen}) (fun x => .agg #[.slice x.1.1.1 x.1.2.length x.1.1.2]) (fun x => [.row (.slice x.1.1.1 x.1.2.length x.1.1.2) 45 5 x.1.2.length (flat En.cells x.1.2)]) rfl rfl rfl rfl rfl Try.func13 blvnm13 blvbd13 rfl (fun w1 hw hC1 => registry_cod wn.heap.size w1 hC1 10 (by decide)) ?_
  rintro ⟨⟨⟨Ae, ce⟩, es⟩, hEn, hel, hec, hed⟩
  dsimp only [List.cons_append, List.nil_append]
  dsimp only at hEn hel hec hed ⊢
  refine TL.pnew rfl rfl rfl (exec_alloc (cs := [.slice none 0 0]) rfl blvzv34 rfl) (fun g4 => ?_)
  refine TL.pstore (k := 0) (vs := [.slice Ae es.length ce]) rfl rfl rfl rfl rfl rfl rfl blvsz34 blvone_s (by show 1 ≤ 1; decide) (L' := [.blk g4 34 [.slice Ae es.length ce], .row (.slice Ae es.length ce) 45 5 es.length (flat En.cells es), .abs wn.heap.size (fun w => Cod w wn.heap.size)]) rfl ?_
  refine TL.end_ ?_
  refine TX.then_ ?_
  refine TC.seq_ ?_
  refine TC.region ?_
  refine TL.val rfl rfl rfl (gives_assign rfl rfl) ?_
  refine TL.val rfl rfl rfl (gives_assign rfl rfl) ?_
  refine TL.end_ ?_
  refine TX.then_ ?_
  refine TC.seq_ ?_
  refine TC.seq_ ?_
  refine TC.region ?_
  refine TL.val rfl rfl rfl (gives_move rfl rfl) ?_
  refine TL.pcallCod (k := 2) (α := {q9 : Nat // q9 ≤ 65535 ∧ (1 ≤ (5 : Int) → (q9 : Int) < 5)}) (fun q9 => .int .i64 ((q9.1 : Nat) : Int)) (fun q9 => []) rfl rfl rfl rfl rfl Try.func8 blvnm8 blvbd8 rfl (fun w1 hw hC1 => next_cod wn.heap.size w1 5 hC1) ?_
  rintro ⟨k0, hk01, hk02⟩
  dsimp only [List.cons_append, List.nil_append]
  refine TL.val rfl rfl rfl (gives_assign rfl rfl) ?_
  refine TL.end_ ?_
  refine TX.then_ ?_
  refine TC.block ?_
  refine TC.nilrow 29 1 ?_
  refine TC.loop_ (α := {y : Nat × (Option Addr × Nat) × List Int // y.1 + y.2.2.length ≤ 4 ∧ (∀ z ∈ y.2.2, 167772161 ≤ z ∧ z ≤ 167772173) ∧ y.2.2.length ≤ y.2.1.2 ∧ y.2.1.2 ≤ maxLen}) (fun y => [(3, .pointer (some ⟨wn.heap.size, 0, none⟩)), (4, .pointer (some ⟨g4, 0, none⟩)), (6, .slice none 0 0), (7, .int .i64 ((y.1.1 : Nat) : Int)), (5, .slice y.1.2.1.1 y.1.2.2.length y.1.2.1.2)]) (fun y => Pm wn [.row (.slice y.1.2.1.1 y.1.2.2.length y.1.2.1.2) 29 1 y.1.2.2.length (flat (ic .u32) y.1.2.2), .blk g4 34 [.slice Ae es.length ce], .row (.slice Ae es.length ce) 45 5 es.length (flat En.cells es), .abs wn.heap.size (fun w => Cod w wn.heap.size)]) (fun y => y.1.1) (⟨(k0, (none, 0), []), by dsimp only [List.length_nil]; omega, fun e he => absurd he List.not_mem_nil, Nat.le_refl _, Nat.zero_le _⟩) ⟨rfl, rfl, rfl, rfl, rfl, trivial⟩ (fun w1 hw => hw) ?_
  rintro ⟨⟨k, ⟨Aa, ca⟩, a⟩, hk, har, hac, ham⟩
  dsimp only at hk har hac ham ⊢
  refine TC.seq_ ?_
  refine TC.seq_ ?_
  refine TC.region ?_
  refine TL.val rfl rfl rfl (gives_move rfl rfl) ?_
  refine TL.vsplit rfl rfl rfl (gives_bin rfl rfl rfl (fun w => bin_gtr w)) (fun h24 => ?_) (fun h24 => ?_)
  · have q24 := of_decide_eq_true h24
    refine TL.end_ ?_
    refine TX.then_ ?_
    refine TC.condT rfl ?_
    refine TC.skip_ ?_
    refine TX.then_ ?_
    refine TC.seq_ ?_
    refine TC.block ?_
    refine TC.region ?_
    refine TL.val rfl rfl rfl (gives_move rfl rfl) ?_
    refine TL.val rfl rfl rfl (gives_move rfl rfl) ?_
    refine TL.pcallCod (k := 3) (α := {a : Int // 167772161 ≤ a ∧ a ≤ 167772173}) (fun x => .int .u32 x.1) (fun x => []) rfl rfl rfl rfl rfl Try.func14 blvnm14 blvbd14 rfl (fun w1 hw hC1 => daddr_cod wn.heap.size w1 hC1) ?_
    rintro ⟨xa, hxa1, hxa2⟩
    dsimp only [List.cons_append, List.nil_append]
    refine TL.prowS (e := 29) (size := 1) (cs := flat (ic .u32) [xa]) rfl rfl rfl rfl rfl (fun w => blvbs26_1_5377 _ w) (by decide) rfl (fun g30 => ?_)
    refine TL.appendT (k := 1) rfl rfl rfl rfl Try.underlying26 blvel26 rfl rfl rfl (fun w1 hw => pm_reads hw (k := 0) rfl) (flat_one (ic_cel .u32) _) (by show _ * 4 ≤ _; omega) ((a ++ ([xa])).length) (by rw [List.length_append]; rfl) (flat (ic .u32) (a ++ ([xa]))) ((flat_app _ _).symm) (fun A31 c31 hA311 hA312 => ?_)
    refine TL.val rfl rfl rfl (gives_assign rfl rfl) ?_
    refine TL.end_ ?_
    refine TX.in_normal ?_
    refine TX.then_ ?_
    refine TC.region ?_
    refine TL.val rfl rfl rfl (gives_move rfl rfl) ?_
    refine TL.val rfl rfl rfl (gives_bin rfl rfl rfl (fun w => bin_sub_ (r := ((k - 1 : Nat) : Int)) (by simp only [IntKind.wrap_i64]; omega) w)) ?_
    refine TL.val rfl rfl rfl (gives_assign rfl rfl) ?_
    refine TL.end_ ?_
    exact TX.round (⟨(k - 1, (A31, c31), a ++ [xa]), by dsimp only; rw [List.length_append]; show k - 1 + (a.length + 1) ≤ _; omega, rg_snoc har ⟨hxa1, hxa2⟩, hA311, hA312⟩) (by show k - 1 < k; omega) ⟨rfl, rfl, rfl, rfl, rfl, trivial⟩ (fun w1 hw => hw.pick [1, 2, 3, 4] (by decide) rfl)
  · have q24 := of_decide_eq_false h24
    refine TL.end_ ?_
    refine TX.then_ ?_
    refine TC.condF rfl ?_
    refine TC.exit_ ?_
    refine TX.then_exit ?_
    refine TX.then_exit ?_
    refine TX.in_same ?_
    refine TX.then_ ?_
    refine TC.seq_ ?_
    refine TC.seq_ ?_
    refine TC.region ?_
    refine TL.val rfl rfl rfl (gives_move rfl rfl) ?_
    refine TL.pcallCod (k := 3) (α := {q9 : Nat // q9 ≤ 65535 ∧ (1 ≤ (6 : Int) → (q9 : Int) < 6)}) (fun q9 => .int .i64 ((q9.1 : Nat) : Int)) (fun q9 => []) rfl rfl rfl rfl rfl Try.func8 blvnm8 blvbd8 rfl (fun w1 hw hC1 => next_cod wn.heap.size w1 6 hC1) ?_
    rintro ⟨k1, hk11, hk12⟩
    dsimp only [List.cons_append, List.nil_append]
    refine TL.val rfl rfl rfl (gives_assign rfl rfl) ?_
    refine TL.end_ ?_
    refine TX.then_ ?_
    refine TC.block ?_
    refine TC.nilrow 29 1 ?_
    refine TC.loop_ (α := {y : Nat × (Option Addr × Nat) × List Int // y.1 + y.2.2.length ≤ 5 ∧ (∀ z ∈ y.2.2, 167772161 ≤ z ∧ z ≤ 167772173) ∧ y.2.2.length ≤ y.2.1.2 ∧ y.2.1.2 ≤ maxLen}) (fun y => [(3, .pointer (some ⟨wn.heap.size, 0, none⟩)), (4, .pointer (some ⟨g4, 0, none⟩)), (5, .slice Aa a.length ca), (8, .int .i64 ((y.1.1 : Nat) : Int)), (6, .slice y.1.2.1.1 y.1.2.2.length y.1.2.1.2)]) (fun y => Pm wn [.row (.slice y.1.2.1.1 y.1.2.2.length y.1.2.1.2) 29 1 y.1.2.2.length (flat (ic .u32) y.1.2.2), .row (.slice Aa a.length ca) 29 1 a.length (flat (ic .u32) a), .blk g4 34 [.slice Ae es.length ce], .row (.slice Ae es.length ce) 45 5 es.length (flat En.cells es), .abs wn.heap.size (fun w => Cod w wn.heap.size)]) (fun y => y.1.1) (⟨(k1, (none, 0), []), by dsimp only [List.length_nil]; omega, fun e he => absurd he List.not_mem_nil, Nat.le_refl _, Nat.zero_le _⟩) ⟨rfl, rfl, rfl, rfl, rfl, trivial⟩ (fun w1 hw => hw) ?_
    rintro ⟨⟨k, ⟨Ab, cb⟩, b⟩, hk, hbr, hbc, hbm⟩
    dsimp only at hk hbr hbc hbm ⊢
    refine TC.seq_ ?_
    refine TC.seq_ ?_
    refine TC.region ?_
    refine TL.val rfl rfl rfl (gives_move rfl rfl) ?_
    refine TL.vsplit rfl rfl rfl (gives_bin rfl rfl rfl (fun w => bin_gtr w)) (fun h35 => ?_) (fun h35 => ?_)
    · have q35 := of_decide_eq_true h35
      refine TL.end_ ?_
      refine TX.then_ ?_
      refine TC.condT rfl ?_
      refine TC.skip_ ?_
      refine TX.then_ ?_
      refine TC.seq_ ?_
      refine TC.block ?_
      refine TC.region ?_
      refine TL.val rfl rfl rfl (gives_move rfl rfl) ?_
      refine TL.val rfl rfl rfl (gives_move rfl rfl) ?_
      refine TL.pcallCod (k := 4) (α := {a : Int // 167772161 ≤ a ∧ a ≤ 167772173}) (fun x => .int .u32 x.1) (fun x => []) rfl rfl rfl rfl rfl Try.func14 blvnm14 blvbd14 rfl (fun w1 hw hC1 => daddr_cod wn.heap.size w1 hC1) ?_
      rintro ⟨xb, hxb1, hxb2⟩
      dsimp only [List.cons_append, List.nil_append]
      refine TL.prowS (e := 29) (size := 1) (cs := flat (ic .u32) [xb]) rfl rfl rfl rfl rfl (fun w => blvbs26_1_5377 _ w) (by decide) rfl (fun g41 => ?_)
      refine TL.appendT (k := 1) rfl rfl rfl rfl Try.underlying26 blvel26 rfl rfl rfl (fun w1 hw => pm_reads hw (k := 0) rfl) (flat_one (ic_cel .u32) _) (by show _ * 4 ≤ _; omega) ((b ++ ([xb])).length) (by rw [List.length_append]; rfl) (flat (ic .u32) (b ++ ([xb]))) ((flat_app _ _).symm) (fun A42 c42 hA421 hA422 => ?_)
      refine TL.val rfl rfl rfl (gives_assign rfl rfl) ?_
      refine TL.end_ ?_
      refine TX.in_normal ?_
      refine TX.then_ ?_
      refine TC.region ?_
      refine TL.val rfl rfl rfl (gives_move rfl rfl) ?_
      refine TL.val rfl rfl rfl (gives_bin rfl rfl rfl (fun w => bin_sub_ (r := ((k - 1 : Nat) : Int)) (by simp only [IntKind.wrap_i64]; omega) w)) ?_
      refine TL.val rfl rfl rfl (gives_assign rfl rfl) ?_
      refine TL.end_ ?_
      exact TX.round (⟨(k - 1, (A42, c42), b ++ [xb]), by dsimp only; rw [List.length_append]; show k - 1 + (b.length + 1) ≤ _; omega, rg_snoc hbr ⟨hxb1, hxb2⟩, hA421, hA422⟩) (by show k - 1 < k; omega) ⟨rfl, rfl, rfl, rfl, rfl, trivial⟩ (fun w1 hw => hw.pick [1, 2, 3, 4, 5] (by decide) rfl)
    · have q35 := of_decide_eq_false h35
      refine TL.end_ ?_
      refine TX.then_ ?_
      refine TC.condF rfl ?_
      refine TC.exit_ ?_
      refine TX.then_exit ?_
      refine TX.then_exit ?_
      refine TX.in_same ?_
      refine TX.then_ ?_
      refine TC.seq_ ?_
      refine TC.region ?_
      refine TL.val rfl rfl rfl (gives_move rfl rfl) ?_
      refine TL.val rfl rfl rfl (gives_move rfl rfl) ?_
      refine TL.val rfl rfl rfl (pm_loadV (k := 2) (i := 0) (n := 1) (v := .agg #[.slice Ae es.length ce]) rfl rfl blvag34 blvsz34 rfl (by show 1 ≤ 1; decide) rfl) ?_
      refine TL.call (α := {n : Int // VotesOk (pvS es 60 (a ++ b)) (firstP es 60 a)  n}) (r := fun x => .int .i64 x.1) (I' := fun _ => Pm wn [.row (.slice Ab b.length cb) 29 1 b.length (flat (ic .u32) b), .row (.slice Aa a.length ca) 29 1 a.length (flat (ic .u32) a), .blk g4 34 [.slice Ae es.length ce], .row (.slice Ae es.length ce) 45 5 es.length (flat En.cells es), .abs wn.heap.size (fun w => Cod w wn.heap.size)]) rfl rfl rfl rfl rfl Try.func15 blvnm15 blvbd15 (fun w1 hw => (votes_any Aa ca a Ab cb b Ae ce es 60 w1 (pm_rd hw (k := 1) rfl) (pm_rd hw (k := 0) rfl) (pm_rd hw (k := 3) rfl) (by omega) (by omega)).mono fun e w2 ⟨x, h1, h2⟩ => ⟨x, h1, hw.below h2⟩) ?_
      rintro ⟨n1, hvn1⟩
      dsimp only at hvn1 ⊢
      refine TL.val rfl rfl rfl (gives_assign rfl rfl) ?_
      refine TL.end_ ?_
      refine TX.then_ ?_
      refine TC.seq_ ?_
      refine TC.region ?_
      refine TL.prowS (e := 29) (size := 1) (cs := flat (ic .u32) [1660944384]) rfl rfl rfl rfl rfl (fun w => blvbs26_1_5377 _ w) (by decide) rfl (fun g47 => ?_)
      refine TL.val rfl rfl rfl (gives_assign rfl rfl) ?_
      refine TL.end_ ?_
      refine TX.then_ ?_
      refine TC.seq_ ?_
      refine TC.seq_ ?_
      refine TC.region ?_
      refine TL.val rfl rfl rfl (gives_move rfl rfl) ?_
      refine TL.val rfl rfl rfl (gives_len rfl Try.underlying26 rfl) ?_
      refine TL.val rfl rfl rfl (gives_bin rfl rfl rfl (fun w => bin_sub_ (r := ((b.length : Nat) : Int) - 1) (by simp only [IntKind.wrap_i64]; omega) w)) ?_
      refine TL.val rfl rfl rfl (gives_assign rfl rfl) ?_
      refine TL.end_ ?_
      refine TX.then_ ?_
      refine TC.block ?_
      refine TC.loop_ (α := {y : Nat × (Option Addr × Nat) × List Int // y.1 ≤ b.length ∧ y.2.2 = 1660944384 :: (b.drop y.1).reverse ∧ y.2.2.length ≤ y.2.1.2 ∧ y.2.1.2 ≤ maxLen}) (fun y => [(3, .pointer (some ⟨wn.heap.size, 0, none⟩)), (4, .pointer (some ⟨g4, 0, none⟩)), (5, .slice Aa a.length ca), (6, .slice Ab b.length cb), (9, .int .i64 n1), (11, .int .i64 (((y.1.1 : Nat) : Int) - 1)), (10, .slice y.1.2.1.1 y.1.2.2.length y.1.2.1.2)]) (fun y => Pm wn [.row (.slice y.1.2.1.1 y.1.2.2.length y.1.2.1.2) 29 1 y.1.2.2.length (flat (ic .u32) y.1.2.2), .row (.slice Ab b.length cb) 29 1 b.length (flat (ic .u32) b), .row (.slice Aa a.length ca) 29 1 a.length (flat (ic .u32) a), .blk g4 34 [.slice Ae es.length ce], .row (.slice Ae es.length ce) 45 5 es.length (flat En.cells es), .abs wn.heap.size (fun w => Cod w wn.heap.size)]) (fun y => y.1.1) (⟨(b.length, (some ⟨g47, 0, none⟩, 1), [1660944384]), Nat.le_refl _, by dsimp only; rw [List.drop_length]; rfl, Nat.le_refl _, by show 1 ≤ maxLen; decide⟩) ⟨rfl, rfl, rfl, rfl, rfl, rfl, rfl, trivial⟩ (fun w1 hw => hw) ?_
      rintro ⟨⟨j, ⟨At, ct⟩, T⟩, hj, hTj, htc, htm⟩
      dsimp only at hj hTj htc htm ⊢
      have hTl : T.length = b.length - j + 1 := by rw [hTj, List.length_cons, List.length_reverse, List.length_drop]
      refine TC.seq_ ?_
      refine TC.seq_ ?_
      refine TC.region ?_
      refine TL.val rfl rfl rfl (gives_move rfl rfl) ?_
      refine TL.vsplit rfl rfl rfl (gives_bin rfl rfl rfl (fun w => bin_geq w)) (fun h52 => ?_) (fun h52 => ?_)
      · have q52 := of_decide_eq_true h52
        obtain ⟨i, rfl⟩ : ∃ i, j = i + 1 := ⟨j - 1, by omega⟩
        refine TL.end_ ?_
        refine TX.then_ ?_
        refine TC.condT rfl ?_
        refine TC.skip_ ?_
        refine TX.then_ ?_
        refine TC.seq_ ?_
        refine TC.block ?_
        refine TC.cut [(3, .pointer (some ⟨wn.heap.size, 0, none⟩)), (4, .pointer (some ⟨g4, 0, none⟩)), (5, .slice Aa a.length ca), (6, .slice Ab b.length cb), (9, .int .i64 n1), (11, .int .i64 ((i : Nat) : Int)), (10, .slice At T.length ct), (51, .int .i64 ((((i + 1) : Nat) : Int) - 1)), (52, .bool true)] (Pm wn [.row (.slice At T.length ct) 29 1 T.length (flat (ic .u32) T), .row (.slice Ab b.length cb) 29 1 b.length (flat (ic .u32) b), .row (.slice Aa a.length ca) 29 1 a.length (flat (ic .u32) a), .blk g4 34 [.slice Ae es.length ce], .row (.slice Ae es.length ce) 45 5 es.length (flat En.cells es), .abs wn.heap.size (fun w => Cod w wn.heap.size)]) ⟨rfl, rfl, rfl, rfl, rfl, (by show some (Value.int .i64 (((i + 1 : Nat) : Int) - 1)) = some (Value.int .i64 ((i : Nat) : Int)); congr 2; omega), rfl, rfl, rfl, trivial⟩ (fun w1 hw => hw) ?_
        refine TC.region ?_
        refine TL.val rfl rfl rfl (gives_move rfl rfl) ?_
        refine TL.val rfl rfl rfl (gives_move rfl rfl) ?_
        refine TL.val rfl rfl rfl (gives_move rfl rfl) ?_
        refine TL.fact (p := ∃ g, Ab = some ⟨g, 0, none⟩) (fun w1 hw => rowA hw (k := 1) rfl (by omega)) ?_
        rintro ⟨g_Ab, rfl⟩
        have hi58 : i < b.length := by omega
        obtain ⟨x58, hx58⟩ : ∃ x58, b[i]? = some x58 := ⟨_, List.getElem?_eq_getElem hi58⟩
        refine TL.val rfl rfl rfl (gives_at (v := .pointer (some ⟨g_Ab, 0 + i * 1, none⟩)) rfl rfl rfl (fun w => at_el Try.underlying26 blvsz29 rfl _ _ i (by omega) rfl w)) ?_
        refine TL.val rfl rfl rfl (gives_load (v := .int .u32 x58) rfl rfl blvag29 (fun w1 hw => flat_row (ic_cel .u32) hw (q := 1) rfl hx58 0 _ rfl)) ?_
        refine TL.prowS (e := 29) (size := 1) (cs := flat (ic .u32) [x58]) rfl rfl rfl rfl rfl (fun w => blvbs26_1_5377 _ w) (by decide) rfl (fun g60 => ?_)
        refine TL.appendT (k := 1) rfl rfl rfl rfl Try.underlying26 blvel26 rfl rfl rfl (fun w1 hw => pm_reads hw (k := 0) rfl) (flat_one (ic_cel .u32) _) (by show _ * 4 ≤ _; omega) ((T ++ ([x58])).length) (by rw [List.length_append]; rfl) (flat (ic .u32) (T ++ ([x58]))) ((flat_app _ _).symm) (fun A61 c61 hA611 hA612 => ?_)
        refine TL.val rfl rfl rfl (gives_assign rfl rfl) ?_
        refine TL.end_ ?_
        refine TX.in_normal ?_
        refine TX.then_ ?_
        refine TC.region ?_
        refine TL.val rfl rfl rfl (gives_move rfl rfl) ?_
        refine TL.val rfl rfl rfl (gives_bin rfl rfl rfl (fun w => bin_sub_ (r := ((i : Nat) : Int) - 1) (by simp only [IntKind.wrap_i64]; omega) w)) ?_
        refine TL.val rfl rfl rfl (gives_assign rfl rfl) ?_
        refine TL.end_ ?_
        exact TX.round (⟨(i, (A61, c61), T ++ [x58]), by dsimp only; omega, by dsimp only; rw [hTj, turn_step hx58], hA611, hA612⟩) (by show i < i + 1; omega) ⟨rfl, rfl, rfl, rfl, rfl, rfl, rfl, trivial⟩ (fun w1 hw => hw.pick [1, 2, 3, 4, 5, 6] (by decide) rfl)
      · have q52 := of_decide_eq_false h52
        have hT : T = 1660944384 :: b.reverse := by rw [hTj, show j = 0 by omega, List.drop_zero]
        refine TL.end_ ?_
        refine TX.then_ ?_
        refine TC.condF rfl ?_
        refine TC.exit_ ?_
        refine TX.then_exit ?_
        refine TX.then_exit ?_
        refine TX.in_same ?_
        refine TX.then_ ?_
        refine TC.seq_ ?_
        refine TC.seq_ ?_
        refine TC.region ?_
        refine TL.val rfl rfl rfl (gives_move rfl rfl) ?_
        refine TL.val rfl rfl rfl (gives_move rfl rfl) ?_
        refine TL.val rfl rfl rfl (pm_loadV (k := 3) (i := 0) (n := 1) (v := .agg #[.slice Ae es.length ce]) rfl rfl blvag34 blvsz34 rfl (by show 1 ≤ 1; decide) rfl) ?_
        refine TL.call (α := {n : Int // VotesOk (pvS es 60 (a ++ T)) (firstP es 60 a)  n}) (r := fun x => .int .i64 x.1) (I' := fun _ => Pm wn [.row (.slice At T.length ct) 29 1 T.length (flat (ic .u32) T), .row (.slice Ab b.length cb) 29 1 b.length (flat (ic .u32) b), .row (.slice Aa a.length ca) 29 1 a.length (flat (ic .u32) a), .blk g4 34 [.slice Ae es.length ce], .row (.slice Ae es.length ce) 45 5 es.length (flat En.cells es), .abs wn.heap.size (fun w => Cod w wn.heap.size)]) rfl rfl rfl rfl rfl Try.func15 blvnm15 blvbd15 (fun w1 hw => (votes_any Aa ca a At ct T Ae ce es 60 w1 (pm_rd hw (k := 2) rfl) (pm_rd hw (k := 0) rfl) (pm_rd hw (k := 4) rfl) (by omega) (by omega)).mono fun e w2 ⟨x, h1, h2⟩ => ⟨x, h1, hw.below h2⟩) ?_
        rintro ⟨n2, hvn2⟩
        dsimp only at hvn2 ⊢
        refine TL.val rfl rfl rfl (gives_move rfl rfl) ?_
        refine TL.val rfl rfl rfl (gives_bin rfl rfl rfl (fun w => bin_neq_f (votes_turn hEn hvn1 hvn2 hT) w)) ?_
        refine TL.end_ ?_
        refine TX.then_ ?_
        refine TC.condF rfl ?_
        refine TC.skip_ ?_
        refine TX.then_ ?_
        refine TC.seq_ ?_
        refine TC.held (ls := #[false, false, false, false, false, false, false]) (Pm wn [.blk g4 34 [.slice Ae es.length ce]]) (by kernel_rfl) rfl rfl (fun w hw => hw.drawn _) ?_
        refine TH.take (listed' := #[true, false, false, false, false, false, false]) 0 rfl (by kernel_rfl) (by kernel_rfl) (by kernel_rfl) rfl rfl rfl rfl (gives_move rfl rfl) (fun w1 hw => hw.pick [3] (by decide) rfl) ?_
        refine TH.take (listed' := #[true, false, true, false, false, false, false]) 2 rfl (by kernel_rfl) (by kernel_rfl) (by kernel_rfl) rfl rfl rfl rfl (gives_move rfl rfl) (fun w1 hw => hw.pick [3] (by decide) rfl) ?_
        refine TH.take (listed' := #[true, false, true, false, true, false, false]) 4 rfl (by kernel_rfl) (by kernel_rfl) (by kernel_rfl) rfl rfl rfl rfl (pm_loadV (k := 0) (i := 0) (n := 1) (v := .agg #[.slice Ae es.length ce]) rfl rfl blvag34 blvsz34 rfl (by show 1 ≤ 1; decide) rfl) (fun w1 hw => hw.pick [3] (by decide) rfl) ?_
        refine TH.only' (listed' := #[true, true, true, false, true, false, false]) 1 rfl (by kernel_rfl) rfl ?_
        refine TL.nilrow 29 1 ?_
        refine TL.appendT (k := 0) rfl rfl rfl rfl Try.underlying26 blvel26 rfl rfl rfl (fun w1 hw => pm_reads hw (k := 3) rfl) (flat_one (ic_cel .u32) _) (by show _ * 4 ≤ _; omega) (a.length) (by simp) (flat (ic .u32) a) (rfl) (fun A69 c69 hA691 hA692 => ?_)
        refine TL.end_ ?_
        refine TX.held (fun w1 hw => hw.pick [4] (by decide) rfl) ?_
        refine TH.only' (listed' := #[true, true, true, true, true, false, false]) 3 rfl (by kernel_rfl) rfl ?_
        refine TL.appendT (k := 0) rfl rfl rfl rfl Try.underlying26 blvel26 rfl rfl rfl (fun w1 hw => pm_reads hw (k := 2) rfl) (flat_one (ic_cel .u32) _) (by show _ * 4 ≤ _; omega) ((a ++ b).length) (List.length_append) (flat (ic .u32) (a ++ b)) ((flat_app _ _).symm) (fun A71 c71 hA711 hA712 => ?_)
        refine TL.end_ ?_
        refine TX.held (fun w1 hw => hw.pick [4] (by decide) rfl) ?_
        refine TH.only' (listed' := #[true, true, true, true, true, true, false]) 5 rfl (by kernel_rfl) rfl ?_
        refine TL.pcallPm (α := {p : Option Addr × Nat // (ownF es 60 (a ++ b)).length ≤ p.2 ∧ p.2 ≤ maxLen}) (fun x => .slice x.1.1 ((ownF es 60 (a ++ b)).length) x.1.2) (fun x => [.row (.slice x.1.1 ((ownF es 60 (a ++ b)).length) x.1.2) 3 1 ((ownF es 60 (a ++ b)).length) (flat (ic .i64) (ownF es 60 (a ++ b)))]) rfl rfl rfl rfl rfl Try.func9 blvnm9 blvbd9 (fun w1 hw => owners_any A71 c71 (a ++ b) Ae ce es 60 w1 (pm_rd hw (k := 0) rfl) (by rw [List.length_append]; omega) (pm_rd hw (k := 5) rfl)) ?_
        rintro ⟨⟨Ro, ro⟩, hRo1, hRo2⟩
        dsimp only [List.cons_append, List.nil_append]
        refine TL.end_ ?_
        refine TX.held (fun w1 hw => hw.pick [5] (by decide) rfl) ?_
        refine TH.take (listed' := #[true, true, true, true, true, true, true]) 6 rfl (by kernel_rfl) (by kernel_rfl) (by kernel_rfl) rfl rfl rfl rfl (gives_assign rfl rfl) (fun w1 hw => hw.pick [5] (by decide) rfl) ?_
        refine TH.done (by kernel_rfl) ?_
        refine TX.then_ ?_
        refine TC.seq_ ?_
        refine TC.seq_ ?_
        have hab : (a ++ b).length = a.length + b.length := List.length_append
        have hol := ownF_len es 60 (a ++ b)
        have hoe := own_pv (es := es) (rg_app har hbr)
        have hcz0 := cntI_le (ownF es 60 (a ++ b)) 0
        refine TC.region ?_
        refine TL.val rfl rfl rfl (gives_move rfl rfl) ?_
        refine TL.val rfl rfl rfl (gives_len rfl Try.underlying30 rfl) ?_
        refine TL.val rfl rfl rfl (gives_move rfl rfl) ?_
        refine TL.end_ ?_
        refine TX.then_ ?_
        refine TC.block ?_
        refine TC.loop_ (α := {i : Nat // i ≤ (ownF es 60 (a ++ b)).length}) (fun y => [(9, .int .i64 n1), (12, .slice Ro ((ownF es 60 (a ++ b)).length) ro), (74, .slice Ro ((ownF es 60 (a ++ b)).length) ro), (75, .int .i64 ((ownF es 60 (a ++ b)).length : Nat)), (76, .int .i64 ((y.1 : Nat) : Int))]) (fun y => Pm wn [.row (.slice Ro ((ownF es 60 (a ++ b)).length) ro) 3 1 ((ownF es 60 (a ++ b)).length) (flat (ic .i64) (ownF es 60 (a ++ b))), .row (.slice A71 ((a ++ b).length) c71) 29 1 ((a ++ b).length) (flat (ic .u32) (a ++ b)), .row (.slice At T.length ct) 29 1 T.length (flat (ic .u32) T), .row (.slice Ab b.length cb) 29 1 b.length (flat (ic .u32) b), .row (.slice Aa a.length ca) 29 1 a.length (flat (ic .u32) a), .blk g4 34 [.slice Ae es.length ce], .row (.slice Ae es.length ce) 45 5 es.length (flat En.cells es), .abs wn.heap.size (fun w => Cod w wn.heap.size)]) (fun y => (ownF es 60 (a ++ b)).length - y.1) (⟨0, Nat.zero_le _⟩) ⟨rfl, rfl, rfl, rfl, rfl, trivial⟩ (fun w1 hw => hw) ?_
        rintro ⟨i, hi⟩
        try dsimp only
        refine TC.seq_ ?_
        refine TC.region ?_
        refine TL.vsplit rfl rfl rfl (gives_bin rfl rfl rfl (fun w => bin_lss w)) (fun h77 => ?_) (fun h77 => ?_)
        · have q77 := of_decide_eq_true h77
          refine TL.end_ ?_
          refine TX.then_ ?_
          refine TC.seq_ ?_
          refine TC.condT rfl ?_
          refine TC.skip_ ?_
          refine TX.then_ ?_
          refine TC.seq_ ?_
          refine TC.block ?_
          refine TC.seq_ ?_
          refine TC.region ?_
          refine TL.fact (p := ∃ g, Ro = some ⟨g, 0, none⟩) (fun w1 hw => rowA hw (k := 0) rfl (by omega)) ?_
          rintro ⟨g_Ro, rfl⟩
          have hi78 : i < (ownF es 60 (a ++ b)).length := by omega
          obtain ⟨x78, hx78⟩ : ∃ x78, (ownF es 60 (a ++ b))[i]? = some x78 := ⟨_, List.getElem?_eq_getElem hi78⟩
          refine TL.val rfl rfl rfl (gives_at (v := .pointer (some ⟨g_Ro, 0 + i * 1, none⟩)) rfl rfl rfl (fun w => at_el Try.underlying30 blvsz3 rfl _ _ i (by omega) rfl w)) ?_
          refine TL.val rfl rfl rfl (gives_load (v := .int .i64 x78) rfl rfl blvag3 (fun w1 hw => flat_row (ic_cel .i64) hw (q := 0) rfl hx78 0 _ rfl)) ?_
          refine TL.val rfl rfl rfl (gives_assign rfl rfl) ?_
          refine TL.end_ ?_
          refine TX.then_ ?_
          refine TC.seq_ ?_
          have hcl := cntI_le (ownF es 60 (a ++ b)) x78
          have hcz := cntI_le (ownF es 60 (a ++ b)) 0
          refine TC.region ?_
          refine TL.val rfl rfl rfl (gives_move rfl rfl) ?_
          refine TL.vsplit rfl rfl rfl (gives_bin rfl rfl rfl (fun w => bin_neq w)) (fun h81 => ?_) (fun h81 => ?_)
          · have q81 := of_decide_eq_true h81
            refine TL.val rfl rfl rfl (gives_move rfl rfl) ?_
            refine TL.on rfl rfl rfl ?_
            refine TL.val rfl rfl rfl (gives_move rfl rfl) ?_
            refine TL.on rfl rfl rfl ?_
            refine TL.val rfl rfl rfl (gives_move rfl rfl) ?_
            refine TL.on rfl rfl rfl ?_
            refine TL.pcall1 (r := .int .i64 ((cntI (ownF es 60 (a ++ b)) x78 : Nat) : Int)) rfl rfl rfl rfl rfl Try.func16 blvnm16 blvbd16 (fun w1 hw => count_any (some ⟨g_Ro, 0, none⟩) ro (ownF es 60 (a ++ b)) x78 w1 (pm_rd hw (k := 0) rfl) (by omega)) ?_
            refine TL.on rfl rfl rfl ?_
            refine TL.val rfl rfl rfl (gives_bin rfl rfl rfl (fun w => bin_mul_ (r := (((cntI (ownF es 60 (a ++ b)) x78) * 2 : Nat) : Int)) (by simp only [IntKind.wrap_i64]; omega) w)) ?_
            refine TL.on rfl rfl rfl ?_
            refine TL.val rfl rfl rfl (gives_move rfl rfl) ?_
            refine TL.on rfl rfl rfl ?_
            refine TL.pcall1 (r := .int .i64 (((ownF es 60 (a ++ b)).length - cntI (ownF es 60 (a ++ b)) 0 : Nat) : Int)) rfl rfl rfl rfl rfl Try.func17 blvnm17 blvbd17 (fun w1 hw => voters_any (some ⟨g_Ro, 0, none⟩) ro (ownF es 60 (a ++ b)) w1 (pm_rd hw (k := 0) rfl) (by omega)) ?_
            refine TL.on rfl rfl rfl ?_
            refine TL.vsplit rfl rfl rfl (gives_bin rfl rfl rfl (fun w => bin_gtr w)) (fun h89 => ?_) (fun h89 => ?_)
            · have q89 := of_decide_eq_true h89
              refine TL.val rfl rfl rfl (gives_pick rfl rfl rfl) ?_
              refine TL.val rfl rfl rfl (gives_move rfl rfl) ?_
              refine TL.on rfl rfl rfl ?_
              refine TL.val rfl rfl rfl (gives_move rfl rfl) ?_
              refine TL.on rfl rfl rfl ?_
              refine TL.val rfl rfl rfl (gives_move rfl rfl) ?_
              refine TL.on rfl rfl rfl ?_
              refine TL.val rfl rfl rfl (gives_bin rfl rfl rfl (fun w => bin_neq_f (votes_major hvn1 hoe q81 (by omega)) w)) ?_
              refine TL.val rfl rfl rfl (gives_pick rfl rfl rfl) ?_
              refine TL.end_ ?_
              refine TX.then_ ?_
              refine TC.condF rfl ?_
              refine TC.skip_ ?_
              refine TX.in_normal ?_
              refine TX.then_ ?_
              refine TC.region ?_
              refine TL.val rfl rfl rfl (gives_bin rfl rfl rfl (fun w => bin_add_ (r := ((i + 1 : Nat) : Int)) (by simp only [IntKind.wrap_i64]; omega) w)) ?_
              refine TL.val rfl rfl rfl (gives_move rfl rfl) ?_
              refine TL.end_ ?_
              exact TX.round (⟨i + 1, by omega⟩) (by show (ownF es 60 (a ++ b)).length - (i + 1) < (ownF es 60 (a ++ b)).length - i; omega) ⟨rfl, rfl, rfl, rfl, rfl, trivial⟩ (fun w1 hw => hw)
            · have q89 := of_decide_eq_false h89
              refine TL.val rfl rfl rfl (gives_pick rfl rfl rfl) ?_
              refine TL.val rfl rfl rfl (gives_move rfl rfl) ?_
              refine TL.off rfl rfl rfl rfl rfl rfl ?_
              refine TL.off rfl rfl rfl rfl rfl rfl ?_
              refine TL.off rfl rfl rfl rfl rfl rfl ?_
              refine TL.val rfl rfl rfl (gives_pick rfl rfl rfl) ?_
              refine TL.end_ ?_
              refine TX.then_ ?_
              refine TC.condF rfl ?_
              refine TC.skip_ ?_
              refine TX.in_normal ?_
              refine TX.then_ ?_
              refine TC.region ?_
              refine TL.val rfl rfl rfl (gives_bin rfl rfl rfl (fun w => bin_add_ (r := ((i + 1 : Nat) : Int)) (by simp only [IntKind.wrap_i64]; omega) w)) ?_
              refine TL.val rfl rfl rfl (gives_move rfl rfl) ?_
              refine TL.end_ ?_
              exact TX.round (⟨i + 1, by omega⟩) (by show (ownF es 60 (a ++ b)).length - (i + 1) < (ownF es 60 (a ++ b)).length - i; omega) ⟨rfl, rfl, rfl, rfl, rfl, trivial⟩ (fun w1 hw => hw)
          · have q81 := of_decide_eq_false h81
            refine TL.val rfl rfl rfl (gives_move rfl rfl) ?_
            refine TL.off rfl rfl rfl rfl rfl rfl ?_
            refine TL.off rfl rfl rfl rfl rfl rfl ?_
            refine TL.off rfl rfl rfl rfl rfl rfl ?_
            refine TL.off rfl rfl rfl rfl rfl rfl ?_
            refine TL.off rfl rfl rfl rfl rfl rfl ?_
            refine TL.off rfl rfl rfl rfl rfl rfl ?_
            refine TL.off rfl rfl rfl rfl rfl rfl ?_
            refine TL.val rfl rfl rfl (gives_pick rfl rfl rfl) ?_
            refine TL.val rfl rfl rfl (gives_move rfl rfl) ?_
            refine TL.off rfl rfl rfl rfl rfl rfl ?_
            refine TL.off rfl rfl rfl rfl rfl rfl ?_
            refine TL.off rfl rfl rfl rfl rfl rfl ?_
            refine TL.val rfl rfl rfl (gives_pick rfl rfl rfl) ?_
            refine TL.end_ ?_
            refine TX.then_ ?_
            refine TC.condF rfl ?_
            refine TC.skip_ ?_
            refine TX.in_normal ?_
            refine TX.then_ ?_
            refine TC.region ?_
            refine TL.val rfl rfl rfl (gives_bin rfl rfl rfl (fun w => bin_add_ (r := ((i + 1 : Nat) : Int)) (by simp only [IntKind.wrap_i64]; omega) w)) ?_
            refine TL.val rfl rfl rfl (gives_move rfl rfl) ?_
            refine TL.end_ ?_
            exact TX.round (⟨i + 1, by omega⟩) (by show (ownF es 60 (a ++ b)).length - (i + 1) < (ownF es 60 (a ++ b)).length - i; omega) ⟨rfl, rfl, rfl, rfl, rfl, trivial⟩ (fun w1 hw => hw)
        · have q77 := of_decide_eq_false h77
          refine TL.end_ ?_
          refine TX.then_ ?_
          refine TC.seq_ ?_
          refine TC.condF rfl ?_
          refine TC.exit_ ?_
          refine TX.then_exit ?_
          refine TX.then_exit ?_
          refine TX.in_same ?_
          refine TX.then_ ?_
          refine TC.seq_ ?_
          refine TC.region ?_
          refine TL.val rfl rfl rfl (gives_move rfl rfl) ?_
          refine TL.vsplit rfl rfl rfl (gives_bin rfl rfl rfl (fun w => bin_eql w)) (fun h98 => ?_) (fun h98 => ?_)
          · have q98 := of_decide_eq_true h98
            refine TL.val rfl rfl rfl (gives_move rfl rfl) ?_
            refine TL.pcall1 (r := .int .i64 (((ownF es 60 (a ++ b)).length - cntI (ownF es 60 (a ++ b)) 0 : Nat) : Int)) rfl rfl rfl rfl rfl Try.func17 blvnm17 blvbd17 (fun w1 hw => voters_any Ro ro (ownF es 60 (a ++ b)) w1 (pm_rd hw (k := 0) rfl) (by omega)) ?_
            refine TL.vsplit rfl rfl rfl (gives_bin rfl rfl rfl (fun w => bin_eql w)) (fun h101 => ?_) (fun h101 => ?_)
            · have q101 := of_decide_eq_true h101
              refine TL.val rfl rfl rfl (gives_bin2 (v := .bool true) rfl rfl rfl (fun w => bin_eqb Try.underlying4 true true w)) ?_
              refine TL.val rfl rfl rfl (gives_assign rfl rfl) ?_
              refine TL.end_ ?_
              refine TX.then_ ?_
              refine TC.ret_ ?_
              exact ret_tmp Try.results5 rfl (fun w1 hw => ⟨rfl, hwb.trans (hw.bel.mono hwb.size)⟩)
            · have q101 := of_decide_eq_false h101
              exfalso; exact q101 (by rw [votes_zero hvn1 hoe q98]; rfl)
          · have q98 := of_decide_eq_false h98
            refine TL.val rfl rfl rfl (gives_move rfl rfl) ?_
            refine TL.pcall1 (r := .int .i64 (((ownF es 60 (a ++ b)).length - cntI (ownF es 60 (a ++ b)) 0 : Nat) : Int)) rfl rfl rfl rfl rfl Try.func17 blvnm17 blvbd17 (fun w1 hw => voters_any Ro ro (ownF es 60 (a ++ b)) w1 (pm_rd hw (k := 0) rfl) (by omega)) ?_
            refine TL.vsplit rfl rfl rfl (gives_bin rfl rfl rfl (fun w => bin_eql w)) (fun h101 => ?_) (fun h101 => ?_)
            · have q101 := of_decide_eq_true h101
              exfalso; exact q98 (votes_none hvn1 hoe (by omega))
            · have q101 := of_decide_eq_false h101
              refine TL.val rfl rfl rfl (gives_bin2 (v := .bool true) rfl rfl rfl (fun w => bin_eqb Try.underlying4 false false w)) ?_
              refine TL.val rfl rfl rfl (gives_assign rfl rfl) ?_
              refine TL.end_ ?_
              refine TX.then_ ?_
              refine TC.ret_ ?_
              exact ret_tmp Try.results5 rfl (fun w1 hw => ⟨rfl, hwb.trans (hw.bel.mono hwb.size)⟩)
end Go.Proofs.Ytmbcclgnjobikaa
