/-
  The walk of UnionForest.
-/
import Derived.Test.YtleckflmckbheaaPu6
import Derived.Test.YtleckflmckbheaaPu5
namespace Go.Proofs.Ytleckflmckbheaa
open Go.RowKit
set_option linter.unusedVariables false
set_option linter.unusedSimpArgs false
set_option maxRecDepth 20000
theorem ulfnm8 : (Try.f8.name == "runtime.NumGoroutine") = false := by decide
theorem ulfbd8 : Try.f8.body.isNone = false := rfl
theorem ulfnm9 : (Try.f9.name == "runtime.NumGoroutine") = false := by decide
theorem ulfbd9 : Try.f9.body.isNone = false := rfl
theorem ulfnm10 : (Try.f10.name == "runtime.NumGoroutine") = false := by decide
theorem ulfbd10 : Try.f10.body.isNone = false := rfl
theorem ulfnm11 : (Try.f11.name == "runtime.NumGoroutine") = false := by decide
theorem ulfbd11 : Try.f11.body.isNone = false := rfl
theorem ulfnm12 : (Try.f12.name == "runtime.NumGoroutine") = false := by decide
theorem ulfbd12 : Try.f12.body.isNone = false := rfl
theorem ulfsz31 (w : World) : (sizeOf 31).run Try.prog w = .ok 1 w := rfl
theorem ulfag31 (w : World) : (isAgg 31).run Try.prog w = .ok false w := rfl
theorem ulfnm13 : (Try.f13.name == "runtime.NumGoroutine") = false := by decide
theorem ulfbd13 : Try.f13.body.isNone = false := rfl
set_option maxHeartbeats 1000000 in
theorem unionForest_walk (A0 : Option Addr) (n0 c0 : Nat) (l0 : List Int) (w : World) (hb0 : Byt w w.heap.size A0 n0 l0) (hc0 : n0 ≤ c0) (hm0 : c0 ≤ maxLen) :
    Calls Try.prog 3 #[.slice A0 n0 c0] w fun e w' => e = .returned (.bool true) ∧ Below w.heap.size w w' := by
  have hn0 : (n0 : Int) ≤ 9223372036854775807 := by unfold maxLen at hm0; omega
  refine begin_ (vs := [.slice A0 n0 c0]) Try.func3 rfl rfl rfl ?_ (Pm.start w)
  refine TC.seq_ ?_
  refine TC.region ?_
  refine TL.val rfl rfl rfl (gives_assign rfl rfl) ?_
  refine TL.end_ ?_
  refine TX.then_ ?_
  refine TC.seq_ ?_
  refine TC.seq_ ?_
  refine TC.region ?_
  refine TL.pcall1 (r := .bool true) rfl rfl rfl rfl rfl Try.func8 ulfnm8 ulfbd8 (fun w1 hw => awake_true w1) ?_
  refine TL.val rfl rfl rfl (gives_boolnot rfl rfl) ?_
  refine TL.end_ ?_
  refine TX.then_ ?_
  refine TC.condF rfl ?_
  refine TC.skip_ ?_
  refine TX.then_ ?_
  refine TC.seq_ ?_
  refine TC.region ?_
  refine TL.val rfl rfl rfl (gives_move rfl rfl) ?_
  refine TL.callNew (I := Pm w []) (p := fun cb w => Cod w cb) rfl rfl rfl rfl rfl Try.func9 ulfnm9 ulfbd9 (fun w1 hw => (roll_any A0 n0 c0 l0 w1 ((hb0.below hw.bel).more hw.bel.size) hc0 hn0).mono fun e w2 ⟨h1, h2, h3⟩ => ⟨h1, h2, cod_cells h2, h3⟩) cod_stab (fun wn hwn => ?_)
  have hwb := hwn.bel
  refine TL.val rfl rfl rfl (gives_assign rfl rfl) ?_
  refine TL.end_ ?_
  refine TX.then_ ?_
  refine TC.seq_ ?_
  refine TC.region ?_
  refine TL.val rfl rfl rfl (gives_move rfl rfl) ?_
  refine TL.pcallCod (k := 0) (α := {y : (Option Addr × Nat) × List Fc // validF y.2 ∧ (∀ f ∈ y.2, f.Ok) ∧ y.2.length ≤ 20 ∧ y.2.length ≤ y.1.2 ∧ y.1.2 ≤ maxLen}) (fun y => .slice y.1.1.1 y.1.2.length y.1.1.2) (fun y => [.row (.slice y.1.1.1 y.1.2.length y.1.1.2) 42 3 y.1.2.length (fcs y.1.2)]) rfl rfl rfl rfl rfl Try.func10 ulfnm10 ulfbd10 rfl (fun w1 hw hC1 => facts_cod wn.heap.size w1 hC1 20 (by decide)) ?_
  rintro ⟨⟨⟨Ax, cx⟩, x⟩, hV, hok, hxm, hxc, hxd⟩
  dsimp only [List.cons_append, List.nil_append]
  dsimp only at hV hok hxm hxc hxd ⊢
  refine TL.val rfl rfl rfl (gives_assign rfl rfl) ?_
  refine TL.end_ ?_
  refine TX.then_ ?_
  refine TC.seq_ ?_
  have hxm2 : x.length ≤ 100 := by omega
  refine TC.region ?_
  refine TL.val rfl rfl rfl (gives_move rfl rfl) ?_
  refine TL.pcallPm (α := {y : (Option Addr × Nat) × List (Sg Int) // y.2.map (·.l) = clsV x ∧ y.2.length ≤ y.1.2 ∧ y.1.2 ≤ maxLen}) (fun y => .slice y.1.1.1 y.1.2.length y.1.1.2) (fun y => [.row (.slice y.1.1.1 y.1.2.length y.1.1.2) 31 1 y.1.2.length (y.1.2.map Sg.val)] ++ segG 35 1 uv y.1.2) rfl rfl rfl rfl rfl Try.func11 ulfnm11 ulfbd11 (fun w1 hw => clss_any Ax x.length cx x w1 (by obtain ⟨B9, h8⟩ := pm_reads hw (k := 0) rfl; exact reads_up h8 (pm_row_lt hw (k := 0) rfl)) rfl hok) ?_ (fun y => segG_noAbs (e := 35) (size := 1) (enc := uv) y.1.2)
  rintro ⟨⟨⟨AC1, cC1⟩, ss1⟩, hcs1, hcc1, hcd1⟩
  dsimp only at hcs1 hcc1 hcd1 ⊢
  refine TL.mem (I' := Pm wn ([.row (.slice AC1 ss1.length cC1) 31 1 ss1.length (ss1.map Sg.val), .row (.slice Ax x.length cx) 42 3 x.length (fcs x), .abs wn.heap.size (fun w => Cod w wn.heap.size)] ++ segG 35 1 uv ss1)) (fun w1 hw => hw.permute (segperm0 _ _ _)) ?_
  obtain ⟨hl1, hmss1⟩ := clsV_small hV hxm2 hcs1
  refine TL.val rfl rfl rfl (gives_assign rfl rfl) ?_
  refine TL.end_ ?_
  refine TX.then_ ?_
  refine TC.seq_ ?_
  have hfx : forV x = forest x := if_pos hV
  have hfok : ∀ f ∈ forV x, f.Ok := by rw [hfx]; exact fun f hf => hok f (forF_sub x _ f hf)
  have hfx2 : (forV x).length ≤ 100 := by rw [hfx]; have := forest_le x; omega
  refine TC.region ?_
  refine TL.val rfl rfl rfl (gives_move rfl rfl) ?_
  refine TL.pcallRow (n := (forV x).length) (ys := fcs (forV x)) rfl rfl rfl rfl rfl Try.func12 ulfnm12 ulfbd12 (fun w1 hw => forest_any Ax x.length cx x w1 (by obtain ⟨B9, h8⟩ := pm_reads hw (k := 1) rfl; exact reads_up h8 (pm_row_lt hw (k := 1) rfl)) rfl hok) (fun AF19 cF19 hF191 hF192 => ?_)
  refine TL.val rfl rfl rfl (gives_assign rfl rfl) ?_
  refine TL.end_ ?_
  refine TX.then_ ?_
  refine TC.seq_ ?_
  refine TC.region ?_
  refine TL.val rfl rfl rfl (gives_assign rfl rfl) ?_
  refine TL.end_ ?_
  refine TX.then_ ?_
  refine TC.seq_ ?_
  refine TC.seq_ ?_
  refine TC.region ?_
  refine TL.val rfl rfl rfl (gives_move rfl rfl) ?_
  refine TL.val rfl rfl rfl (gives_len rfl Try.underlying28 rfl) ?_
  refine TL.val rfl rfl rfl (gives_move rfl rfl) ?_
  refine TL.end_ ?_
  refine TX.then_ ?_
  refine TC.block ?_
  refine TC.loop_ (α := {y : Nat × Nat // y.1 ≤ ss1.length ∧ y.2 = ((ss1.take y.1).map (fun s => s.l.length)).sum ∧ y.2 ≤ y.1 * 100000}) (fun y => [(4, .slice Ax x.length cx), (5, .slice AC1 ss1.length cC1), (6, .slice AF19 ((forV x).length) cF19), (20, .slice AC1 ss1.length cC1), (21, .int .i64 (ss1.length : Nat)), (7, .int .i64 ((y.1.2 : Nat) : Int)), (22, .int .i64 ((y.1.1 : Nat) : Int))]) (fun y => Pm wn ([.row (.slice AF19 ((forV x).length) cF19) 42 3 ((forV x).length) (fcs (forV x)), .row (.slice AC1 ss1.length cC1) 31 1 ss1.length (ss1.map Sg.val), .row (.slice Ax x.length cx) 42 3 x.length (fcs x), .abs wn.heap.size (fun w => Cod w wn.heap.size)] ++ segG 35 1 uv ss1)) (fun y => ss1.length - y.1.1) (⟨(0, 0), Nat.zero_le _, rfl, Nat.le_refl _⟩) ⟨rfl, rfl, rfl, rfl, rfl, rfl, rfl, trivial⟩ (fun w1 hw => hw) ?_
  rintro ⟨⟨i, t⟩, hi, ht, htm⟩
  dsimp only at hi ht htm ⊢
  refine TC.seq_ ?_
  refine TC.region ?_
  refine TL.vsplit rfl rfl rfl (gives_bin rfl rfl rfl (fun w => bin_lss w)) (fun h23 => ?_) (fun h23 => ?_)
  · have q23 := of_decide_eq_true h23
    obtain ⟨s, hs⟩ : ∃ s, ss1[i]? = some s := ⟨_, List.getElem?_eq_getElem (by omega)⟩
    have hsl := hmss1 s (List.mem_of_getElem? hs)
    refine TL.fact (p := ∃ g, AC1 = some ⟨g, 0, none⟩) (fun w1 hw => rowA hw (k := 1) rfl (by omega)) ?_
    rintro ⟨g1, rfl⟩
    have ht2 : t + s.l.length = ((ss1.take (i + 1)).map (fun s => s.l.length)).sum := by rw [List.take_add_one, hs, List.map_append, List.sum_append, ← ht]; simp
    refine TL.end_ ?_
    refine TX.then_ ?_
    refine TC.seq_ ?_
    refine TC.condT rfl ?_
    refine TC.skip_ ?_
    refine TX.then_ ?_
    refine TC.seq_ ?_
    refine TC.block ?_
    refine TC.seq_ ?_
    refine TC.region ?_
    refine TL.val rfl rfl rfl (gives_at (v := .pointer (some ⟨g1, i, none⟩)) rfl rfl rfl (fun w => at_row Try.underlying28 ulfsz31 g1 _ _ i (by omega) rfl w)) ?_
    refine TL.val rfl rfl rfl (pm_loadRow (k := 1) (i := i) rfl rfl ulfag31 rfl (by rw [List.getElem?_map, hs]; rfl)) ?_
    refine TL.val rfl rfl rfl (gives_assign rfl rfl) ?_
    refine TL.end_ ?_
    refine TX.then_ ?_
    refine TC.region ?_
    refine TL.val rfl rfl rfl (gives_move rfl rfl) ?_
    refine TL.val rfl rfl rfl (gives_move rfl rfl) ?_
    refine TL.val rfl rfl rfl (gives_len rfl Try.underlying31 rfl) ?_
    refine TL.val rfl rfl rfl (gives_bin rfl rfl rfl (fun w => bin_add_ (r := ((t + s.l.length : Nat) : Int)) (by simp only [IntKind.wrap_i64]; omega) w)) ?_
    refine TL.val rfl rfl rfl (gives_assign rfl rfl) ?_
    refine TL.end_ ?_
    refine TX.in_normal ?_
    refine TX.then_ ?_
    refine TC.region ?_
    refine TL.val rfl rfl rfl (gives_bin rfl rfl rfl (fun w => bin_add_ (r := ((i + 1 : Nat) : Int)) (by simp only [IntKind.wrap_i64]; omega) w)) ?_
    refine TL.val rfl rfl rfl (gives_move rfl rfl) ?_
    refine TL.end_ ?_
    exact TX.round (⟨(i + 1, t + s.l.length), by dsimp only; omega, ht2, by dsimp only; omega⟩) (by show ss1.length - (i + 1) < ss1.length - i; omega) ⟨rfl, rfl, rfl, rfl, rfl, rfl, rfl, trivial⟩ (fun w1 hw => hw)
  · have q23 := of_decide_eq_false h23
    have hcount : (((forV x).length : Nat) : Int) = ((t : Nat) : Int) - ((ss1.length : Nat) : Int) := by
      have h1 := forest_sum hV hcs1
      rw [ht, List.take_of_length_le (by omega), hfx]
      omega
    refine TL.end_ ?_
    refine TX.then_ ?_
    refine TC.seq_ ?_
    refine TC.condF rfl ?_
    refine TC.exit_ ?_
    refine TX.then_exit ?_
    refine TX.then_exit ?_
    refine TX.in_same ?_
    refine TX.then_ ?_
    refine TC.seq_ ?_
    refine TC.region ?_
    refine TL.val rfl rfl rfl (gives_move rfl rfl) ?_
    refine TL.val rfl rfl rfl (gives_move rfl rfl) ?_
    refine TL.pcallPm (α := {y : (Option Addr × Nat) × List (Sg Int) // y.2.map (·.l) = clsV (forV x) ∧ y.2.length ≤ y.1.2 ∧ y.1.2 ≤ maxLen}) (fun y => .slice y.1.1.1 y.1.2.length y.1.1.2) (fun y => [.row (.slice y.1.1.1 y.1.2.length y.1.1.2) 31 1 y.1.2.length (y.1.2.map Sg.val)] ++ segG 35 1 uv y.1.2) rfl rfl rfl rfl rfl Try.func11 ulfnm11 ulfbd11 (fun w1 hw => clss_any AF19 ((forV x).length) cF19 (forV x) w1 (by obtain ⟨B9, h8⟩ := pm_reads hw (k := 0) rfl; exact reads_up h8 (pm_row_lt hw (k := 0) rfl)) rfl hfok) ?_ (fun y => segG_noAbs (e := 35) (size := 1) (enc := uv) y.1.2)
    rintro ⟨⟨⟨AC2, cC2⟩, ss2⟩, hcs2, hcc2, hcd2⟩
    dsimp only at hcs2 hcc2 hcd2 ⊢
    refine TL.mem (I' := Pm wn ([.row (.slice AC2 ss2.length cC2) 31 1 ss2.length (ss2.map Sg.val), .row (.slice AF19 ((forV x).length) cF19) 42 3 ((forV x).length) (fcs (forV x)), .row (.slice AC1 ss1.length cC1) 31 1 ss1.length (ss1.map Sg.val), .row (.slice Ax x.length cx) 42 3 x.length (fcs x), .abs wn.heap.size (fun w => Cod w wn.heap.size)] ++ (segG 35 1 uv ss2 ++ segG 35 1 uv ss1))) (fun w1 hw => hw.permute (segperm _ _ _ _)) ?_
    obtain ⟨hl2, hmss2⟩ := clsV_small (by rw [hfx]; exact validF_forest hV) hfx2 hcs2
    have hE : ss1.map (·.l) = ss2.map (·.l) := by rw [hcs1, hcs2, hfx]; exact clsV_forest hV
    refine TL.pcall1 (r := .bool true) rfl rfl rfl rfl rfl Try.func13 ulfnm13 ulfbd13 (fun w1 hw => sc_is AC1 AC2 ss1.length ss2.length cC1 cC2 ss1 ss2 w1 (Rd2.of (e2 := 35) hw (k := 2) rfl (fun s hs => List.mem_append_right _ (List.mem_append_right _ (List.mem_map.2 ⟨s, hs, rfl⟩))) hmss1) (Rd2.of (e2 := 35) hw (k := 0) rfl (fun s hs => List.mem_append_right _ (List.mem_append_left _ (List.mem_map.2 ⟨s, hs, rfl⟩))) hmss2) rfl rfl (by omega) (by omega) (decide_eq_true hE)) ?_
    refine TL.val rfl rfl rfl (gives_move rfl rfl) ?_
    refine TL.on rfl rfl rfl ?_
    refine TL.val rfl rfl rfl (gives_move rfl rfl) ?_
    refine TL.on rfl rfl rfl ?_
    refine TL.val rfl rfl rfl (gives_len rfl Try.underlying26 rfl) ?_
    refine TL.on rfl rfl rfl ?_
    refine TL.val rfl rfl rfl (gives_move rfl rfl) ?_
    refine TL.on rfl rfl rfl ?_
    refine TL.val rfl rfl rfl (gives_move rfl rfl) ?_
    refine TL.on rfl rfl rfl ?_
    refine TL.val rfl rfl rfl (gives_len rfl Try.underlying28 rfl) ?_
    refine TL.on rfl rfl rfl ?_
    refine TL.val rfl rfl rfl (gives_bin rfl rfl rfl (fun w => bin_sub_ (r := ((t : Nat) : Int) - ((ss1.length : Nat) : Int)) (by simp only [IntKind.wrap_i64]; omega) w)) ?_
    refine TL.on rfl rfl rfl ?_
    refine TL.val rfl rfl rfl (gives_bin rfl rfl rfl (fun w => bin_eql_t (hcount) w)) ?_
    refine TL.val rfl rfl rfl (gives_pick rfl rfl rfl) ?_
    refine TL.val rfl rfl rfl (gives_assign rfl rfl) ?_
    refine TL.end_ ?_
    refine TX.then_ ?_
    refine TC.ret_ ?_
    exact ret_tmp Try.results3 rfl (fun w1 hw => ⟨rfl, hwb.trans (hw.bel.mono hwb.size)⟩)
end Go.Proofs.Ytleckflmckbheaa
