/-
  The walk of UnionBack.
-/
import Derived.Test.YtleckflmckbheaaPu6
import Derived.Test.YtleckflmckbheaaPu5
import Derived.Test.YtleckflmckbheaaUnionBackW5
namespace Go.Proofs.Ytleckflmckbheaa
open Go.RowKit
set_option linter.unusedVariables false
set_option linter.unusedSimpArgs false
set_option maxRecDepth 20000
theorem ubknm8 : (Try.f8.name == "runtime.NumGoroutine") = false := by decide
theorem ubkbd8 : Try.f8.body.isNone = false := rfl
theorem ubknm9 : (Try.f9.name == "runtime.NumGoroutine") = false := by decide
theorem ubkbd9 : Try.f9.body.isNone = false := rfl
theorem ubknm10 : (Try.f10.name == "runtime.NumGoroutine") = false := by decide
theorem ubkbd10 : Try.f10.body.isNone = false := rfl
theorem ubknm21 : (Try.f21.name == "runtime.NumGoroutine") = false := by decide
theorem ubkbd21 : Try.f21.body.isNone = false := rfl
theorem ubknm15 : (Try.f15.name == "runtime.NumGoroutine") = false := by decide
theorem ubkbd15 : Try.f15.body.isNone = false := rfl
theorem ubkbld42_57313 (a0_0 : Int) (a1_0 : Int) (a2_0 : Int) (w : World) : (Instr.build 42 #[(0, .int .i64 a0_0), (1, .int .u32 a1_0), (2, .int .u32 a2_0)]).run Try.prog w = .ok (.agg #[.int .i64 a0_0, .int .u32 a1_0, .int .u32 a2_0]) w := by kernel_rfl
theorem ubkzv42 (w : World) : (zeroValue 42).run Try.prog w = .ok (.agg #[.int .i64 0, .int .u32 0, .int .u32 0]) w := rfl
theorem ubksz42 (w : World) : (sizeOf 42).run Try.prog w = .ok 3 w := rfl
theorem ubkone_i64u32u32 {a0 : Int} {a1 : Int} {a2 : Int} : ∀ u ∈ [(.int .i64 a0 : Value), .int .u32 a1, .int .u32 a2], u.oneCell' = true := by
 intro u hu
 simp only [List.mem_cons, List.not_mem_nil, or_false] at hu
 rcases hu with rfl | rfl | rfl <;> rfl
theorem ubkag42 (w : World) : (isAgg 42).run Try.prog w = .ok true w := rfl
theorem ubknm30 : (Try.f30.name == "runtime.NumGoroutine") = false := by decide
theorem ubkbd30 : Try.f30.body.isNone = false := rfl
theorem ubkfld42_0 (g o : Nat) (w : World) : (Instr.fieldAt 42 (.pointer (some ⟨g, o, none⟩)) 0).run Try.prog w = .ok (.pointer (some ⟨g, o + 0, none⟩)) w := by kernel_rfl
theorem ubkag3 (w : World) : (isAgg 3).run Try.prog w = .ok false w := rfl
theorem ubknm20 : (Try.f20.name == "runtime.NumGoroutine") = false := by decide
theorem ubkbd20 : Try.f20.body.isNone = false := rfl
theorem ubknm25 : (Try.f25.name == "runtime.NumGoroutine") = false := by decide
theorem ubkbd25 : Try.f25.body.isNone = false := rfl
theorem ubkfld42_1 (g o : Nat) (w : World) : (Instr.fieldAt 42 (.pointer (some ⟨g, o, none⟩)) 1).run Try.prog w = .ok (.pointer (some ⟨g, o + 1, none⟩)) w := by kernel_rfl
theorem ubkag35 (w : World) : (isAgg 35).run Try.prog w = .ok false w := rfl
theorem ubkfld42_2 (g o : Nat) (w : World) : (Instr.fieldAt 42 (.pointer (some ⟨g, o, none⟩)) 2).run Try.prog w = .ok (.pointer (some ⟨g, o + 2, none⟩)) w := by kernel_rfl
theorem ubknm17 : (Try.f17.name == "runtime.NumGoroutine") = false := by decide
theorem ubkbd17 : Try.f17.body.isNone = false := rfl
theorem ubkel26 : Elem Try.prog 26 42 3 16 := Elem.mk' Try.underlying26 (z := .agg #[.int .i64 0, .int .u32 0, .int .u32 0]) (by kernel_rfl) rfl (by omega) (by omega)
theorem ubksz35 (w : World) : (sizeOf 35).run Try.prog w = .ok 1 w := rfl
theorem ubknm11 : (Try.f11.name == "runtime.NumGoroutine") = false := by decide
theorem ubkbd11 : Try.f11.body.isNone = false := rfl
theorem ubknm13 : (Try.f13.name == "runtime.NumGoroutine") = false := by decide
theorem ubkbd13 : Try.f13.body.isNone = false := rfl
set_option maxHeartbeats 1000000 in
theorem unionBack_walk (A0 : Option Addr) (n0 c0 : Nat) (l0 : List Int) (w : World) (hb0 : Byt w w.heap.size A0 n0 l0) (hc0 : n0 ≤ c0) (hm0 : c0 ≤ maxLen) :
  Calls Try.prog 7 #[.slice A0 n0 c0] w fun e w' => e = .returned (.bool true) ∧ Below w.heap.size w w' := by
 have hn0 : (n0 : Int) ≤ 9223372036854775807 := by unfold maxLen at hm0; omega
 refine begin_ (vs := [.slice A0 n0 c0]) Try.func7 rfl rfl rfl ?_ (Pm.start w)
 refine TC.seq_ (TC.region ?_)
 refine TL.val rfl rfl rfl (gives_assign rfl rfl) ?_
 refine TL.end_ (TX.then_ (TC.seq_ (TC.seq_ (TC.region ?_))))
 refine TL.pcall1 (r := .bool true) rfl rfl rfl rfl rfl Try.func8 ubknm8 ubkbd8 (fun w1 hw => awake_true w1) ?_
 refine TL.val rfl rfl rfl (gives_boolnot rfl rfl) ?_
 refine TL.end_ (TX.then_ (TC.condF rfl (TC.skip_ (TX.then_ (TC.seq_ (TC.region ?_))))))
 refine TL.val rfl rfl rfl (gives_move rfl rfl) ?_
 refine TL.callNew (I := Pm w []) (p := fun cb w => Cod w cb) rfl rfl rfl rfl rfl Try.func9 ubknm9 ubkbd9 (fun w1 hw => (roll_any A0 n0 c0 l0 w1 ((hb0.below hw.bel).more hw.bel.size) hc0 hn0).mono fun e w2 ⟨h1, h2, h3⟩ => ⟨h1, h2, cod_cells h2, h3⟩) cod_stab (fun wn hwn => ?_)
 have hwb := hwn.bel
 refine TL.val rfl rfl rfl (gives_assign rfl rfl) ?_
 refine TL.end_ (TX.then_ (TC.seq_ (TC.region ?_)))
 refine TL.val rfl rfl rfl (gives_move rfl rfl) ?_
 refine TL.pcallCod (k := 0) (α := {y : (Option Addr × Nat) × List Fc // validF y.2 ∧ (∀ f ∈ y.2, f.Ok) ∧ y.2.length ≤ 14 ∧ y.2.length ≤ y.1.2 ∧ y.1.2 ≤ maxLen}) (fun y => .slice y.1.1.1 y.1.2.length y.1.1.2) (fun y => [.row (.slice y.1.1.1 y.1.2.length y.1.1.2) 42 3 y.1.2.length (fcs y.1.2)]) rfl rfl rfl rfl rfl Try.func10 ubknm10 ubkbd10 rfl (fun w1 hw hC1 => facts_cod wn.heap.size w1 hC1 14 (by decide)) ?_
 rintro ⟨⟨⟨Ax, cx⟩, x⟩, hV, hok, hxm, hxc, hxd⟩
 dsimp only [List.cons_append, List.nil_append]
 dsimp only at hV hok hxm hxc hxd ⊢
 refine TL.val rfl rfl rfl (gives_assign rfl rfl) ?_
 refine TL.end_ (TX.then_ (TC.seq_ (TC.region ?_)))
 refine TL.val rfl rfl rfl (gives_move rfl rfl) ?_
 refine TL.pcallCod (k := 1) (α := {x : Nat // x ≤ 65535 ∧ (1 ≤ (40 : Int) → (x : Int) < 40)}) (fun x => .int .i64 ((x.1 : Nat) : Int)) (fun x => []) rfl rfl rfl rfl rfl Try.func21 ubknm21 ubkbd21 rfl (fun w1 hw hC1 => next_cod wn.heap.size w1 40 hC1) ?_
 rintro ⟨fi, hfi1, hfi2⟩
 dsimp only [List.cons_append, List.nil_append]
 refine TL.val rfl rfl rfl (gives_move rfl rfl) ?_
 refine TL.pcallCod (k := 1) (α := {a : Int // 167772161 ≤ a ∧ a ≤ 167772173}) (fun x => .int .u32 x.1) (fun x => []) rfl rfl rfl rfl rfl Try.func15 ubknm15 ubkbd15 rfl (fun w1 hw hC1 => daddr_cod wn.heap.size w1 hC1) ?_
 rintro ⟨fa, hfa1, hfa2⟩
 dsimp only [List.cons_append, List.nil_append]
 refine TL.val rfl rfl rfl (gives_move rfl rfl) ?_
 refine TL.pcallCod (k := 1) (α := {a : Int // 167772161 ≤ a ∧ a ≤ 167772173}) (fun x => .int .u32 x.1) (fun x => []) rfl rfl rfl rfl rfl Try.func15 ubknm15 ubkbd15 rfl (fun w1 hw hC1 => daddr_cod wn.heap.size w1 hC1) ?_
 rintro ⟨fb, hfb1, hfb2⟩
 dsimp only [List.cons_append, List.nil_append]
 refine TL.val rfl rfl rfl (gives_bin rfl rfl rfl (fun w => bin_add_ (r := fb + 20) (by simp only [IntKind.wrap_u32]; omega) w)) ?_
 refine TL.val rfl rfl rfl (gives_build (v := .agg #[.int .i64 ((fi : Nat) : Int), .int .u32 fa, .int .u32 (fb + 20)]) rfl rfl (fun w => ubkbld42_57313 _ _ _ w)) ?_
 refine TL.pnew rfl rfl rfl (exec_alloc (cs := [.int .i64 0, .int .u32 0, .int .u32 0]) rfl ubkzv42 rfl) (fun g5 => ?_)
 refine TL.pstore (k := 0) (vs := [.int .i64 ((fi : Nat) : Int), .int .u32 fa, .int .u32 (fb + 20)]) rfl rfl rfl rfl rfl rfl rfl ubksz42 ubkone_i64u32u32 (by show 3 ≤ 3; decide) (L' := [.blk g5 42 [.int .i64 ((fi : Nat) : Int), .int .u32 fa, .int .u32 (fb + 20)], .row (.slice Ax x.length cx) 42 3 x.length (fcs x), .abs wn.heap.size (fun w => Cod w wn.heap.size)]) rfl ?_
 refine TL.end_ (TX.then_ (TC.seq_ ?_))
 have hpre : preA x (⟨((fi : Nat) : Int), fa, fb + 20⟩ : Fc) := ⟨hV, by show (0 : Int) ≤ ((fi : Nat) : Int); omega, by show fa ≠ fb + 20; omega⟩
 refine TC.region ?_
 refine TL.val rfl rfl rfl (gives_move rfl rfl) ?_
 refine TL.val rfl rfl rfl (pm_loadV (k := 0) (i := 0) (n := 3) (v := .agg #[.int .i64 ((fi : Nat) : Int), .int .u32 fa, .int .u32 (fb + 20)]) rfl rfl ubkag42 ubksz42 rfl (by show 3 ≤ 3; decide) rfl) ?_
 refine TL.pcallPm (α := {y : (Option Addr × Nat) × List Fc × Int // AddOk x (⟨((fi : Nat) : Int), fa, fb + 20⟩ : Fc) y.2 ∧ y.2.1.length ≤ y.1.2 ∧ y.1.2 ≤ maxLen}) (fun y => .tuple #[.slice y.1.1.1 y.1.2.1.length y.1.1.2, .int .i64 y.1.2.2]) (fun y => [.row (.slice y.1.1.1 y.1.2.1.length y.1.1.2) 42 3 y.1.2.1.length (fcs y.1.2.1)]) rfl rfl rfl rfl rfl Try.func30 ubknm30 ubkbd30 (fun w1 hw => add_any Ax x.length cx x w1 (by obtain ⟨B9, h8⟩ := pm_reads hw (k := 1) rfl; exact reads_up h8 (pm_row_lt hw (k := 1) rfl)) rfl (⟨((fi : Nat) : Int), fa, fb + 20⟩ : Fc)) ?_
 rintro ⟨⟨⟨AB, cB⟩, b, e1⟩, hab, hab1, hab2⟩
 dsimp only [List.cons_append, List.nil_append] at hab hab1 hab2 ⊢
 iterate 5 (first | refine TL.val rfl rfl rfl (gives_assign rfl rfl) ?_ | refine TL.val rfl rfl rfl (gives_extract rfl rfl rfl) ?_ | refine TL.val rfl rfl rfl (gives_move rfl rfl) ?_)
 refine TL.end_ (TX.then_ ?_)
 refine TC.join (α := Unit) (fun y => [(3, .pointer (some ⟨wn.heap.size, 0, none⟩)), (4, .slice Ax x.length cx)]) (fun y => Pm wn [.row (.slice Ax x.length cx) 42 3 x.length (fcs x), .abs wn.heap.size (fun w => Cod w wn.heap.size)]) ?_ ?_
 ·refine TC.seq_ (TC.region ?_)
  refine TL.val rfl rfl rfl (gives_move rfl rfl) ?_
  refine TL.vsplit rfl rfl rfl (gives_bin rfl rfl rfl (fun w => bin_eql w)) (fun h39 => ?_) (fun h39 => ?_)
  ·have q39 := of_decide_eq_true h39
   have he1 : e1 = 0 := by omega
   subst he1
   obtain ⟨hVb, ⟨i1, hib, hbe⟩, hfb, hbl, hbo⟩ := add_back hab
   have hokb : ∀ f ∈ b, f.Ok := fun f hf => (hbo f hf).elim (fun e => by rw [e]; unfold Fc.Ok; dsimp only; omega) (hok f)
   refine TL.end_ (TX.then_ (TC.condT rfl (TC.seq_ (TC.region ?_))))
   refine TL.val rfl rfl rfl (gives_move rfl rfl) ?_
   refine TL.val rfl rfl rfl (gives_field (v := .pointer (some ⟨g5, 0, none⟩)) rfl rfl (fun w => ubkfld42_0 _ _ w)) ?_
   refine TL.val rfl rfl rfl (pm_load (k := 1) (i := 0) rfl rfl ubkag3 rfl rfl) ?_
   refine TL.pcallPm (α := {y : (Option Addr × Nat) × List Fc × Int // y.2 = remP b ((fi : Nat) : Int) ∧ y.2.1.length ≤ y.1.2 ∧ y.1.2 ≤ maxLen}) (fun y => .tuple #[.slice y.1.1.1 y.1.2.1.length y.1.1.2, .int .i64 y.1.2.2]) (fun y => [.row (.slice y.1.1.1 y.1.2.1.length y.1.1.2) 42 3 y.1.2.1.length (fcs y.1.2.1)]) rfl rfl rfl rfl rfl Try.func20 ubknm20 ubkbd20 (fun w1 hw => rem_any AB b.length cB b w1 (by obtain ⟨B9, h8⟩ := pm_reads hw (k := 0) rfl; exact reads_up h8 (pm_row_lt hw (k := 0) rfl)) rfl ((fi : Nat) : Int)) ?_
   rintro ⟨⟨⟨AR, cR⟩, rm, er⟩, hrm, hrm1, hrm2⟩
   dsimp only [List.cons_append, List.nil_append] at hrm hrm1 hrm2 ⊢
   have hrp : remP b ((fi : Nat) : Int) = (x, 0) := by
    unfold remP
    rw [if_pos hVb, show ixF b ((fi : Nat) : Int) = some i1 from hib]
    show (b.eraseIdx i1, (0 : Int)) = (x, 0)
    rw [hbe]
   rw [hrp] at hrm
   obtain ⟨hrm3, he2⟩ := Prod.mk.inj hrm
   subst he2
   have hrml : rm.length = x.length := by rw [hrm3]
   iterate 5 (first | refine TL.val rfl rfl rfl (gives_assign rfl rfl) ?_ | refine TL.val rfl rfl rfl (gives_extract rfl rfl rfl) ?_ | refine TL.val rfl rfl rfl (gives_move rfl rfl) ?_)
   refine TL.end_ (TX.then_ (TC.seq_ (TC.region ?_)))
   refine TL.val rfl rfl rfl (gives_move rfl rfl) ?_
   refine TL.val rfl rfl rfl (gives_bin rfl rfl rfl (fun w => bin_neq_f (rfl) w)) ?_
   iterate 6 (first | refine TL.on rfl rfl rfl ?_ | refine TL.val rfl rfl rfl (gives_move rfl rfl) ?_)
   refine TL.pcall1 (r := .bool true) rfl rfl rfl rfl rfl Try.func25 ubknm25 ubkbd25 (fun w1 hw => sf_is AR _ cR rm w1 (by obtain ⟨B9, h8⟩ := pm_reads hw (k := 0) rfl; exact reads_up h8 (pm_row_lt hw (k := 0) rfl)) rfl Ax _ cx x (by obtain ⟨B9, h8⟩ := pm_reads hw (k := 3) rfl; exact reads_up h8 (pm_row_lt hw (k := 3) rfl)) rfl (by omega) (by omega) (decide_eq_true hrm3)) ?_
   iterate 7 (first | refine TL.on rfl rfl rfl ?_ | refine TL.val rfl rfl rfl (gives_move rfl rfl) ?_ | refine TL.val rfl rfl rfl (gives_pick rfl rfl rfl) ?_ | refine TL.val rfl rfl rfl (gives_boolnot rfl rfl) ?_)
   refine TL.val rfl rfl rfl (gives_field (v := .pointer (some ⟨g5, 1, none⟩)) rfl rfl (fun w => ubkfld42_1 _ _ w)) ?_
   refine TL.on rfl rfl rfl ?_
   refine TL.val rfl rfl rfl (pm_load (k := 2) (i := 1) rfl rfl ubkag35 rfl rfl) ?_
   refine TL.on rfl rfl rfl ?_
   refine TL.val rfl rfl rfl (gives_field (v := .pointer (some ⟨g5, 2, none⟩)) rfl rfl (fun w => ubkfld42_2 _ _ w)) ?_
   refine TL.on rfl rfl rfl ?_
   refine TL.val rfl rfl rfl (pm_load (k := 2) (i := 2) rfl rfl ubkag35 rfl rfl) ?_
   refine TL.on rfl rfl rfl ?_
   refine TL.pcall1 (r := .bool true) rfl rfl rfl rfl rfl Try.func17 ubknm17 ubkbd17 (fun w1 hw => same_is AB _ cB b w1 (by obtain ⟨B9, h8⟩ := pm_reads hw (k := 1) rfl; exact reads_up h8 (pm_row_lt hw (k := 1) rfl)) rfl hokb fa (fb + 20) ⟨by omega, by omega⟩ ⟨by omega, by omega⟩ (decide_eq_true ⟨hVb, (rep_conn b _ _).2 (Conn.fact hfb)⟩)) ?_
   refine TL.on rfl rfl rfl ?_
   refine TL.val rfl rfl rfl (gives_boolnot rfl rfl) ?_
   refine TL.val rfl rfl rfl (gives_pick rfl rfl rfl) ?_
   refine TL.end_ (TX.then_ (TC.condF rfl (TC.skip_ ?_)))
   exact TX.joined (()) (⟨rfl, rfl, trivial⟩) (fun w1 hw => hw.pick [3, 4] (by decide) rfl)
  ·have q39 := of_decide_eq_false h39
   have he9 : e1 = 9 := add_err hab hpre (by omega) (by omega)
   refine TL.end_ (TX.then_ (TC.condF rfl (TC.seq_ (TC.region ?_))))
   refine TL.val rfl rfl rfl (gives_move rfl rfl) ?_
   refine TL.val rfl rfl rfl (gives_bin rfl rfl rfl (fun w => bin_neq_f (by omega) w)) ?_
   refine TL.end_ (TX.then_ (TC.condF rfl (TC.skip_ ?_)))
   exact TX.joined (()) (⟨rfl, rfl, trivial⟩) (fun w1 hw => hw.pick [2, 3] (by decide) rfl)
 ·rintro ⟨⟩
  refine TC.join (α := Option Addr) (fun y => [(3, .pointer (some ⟨wn.heap.size, 0, none⟩)), (4, .slice y x.length cx)]) (fun y => Pm wn [.row (.slice y x.length cx) 42 3 x.length (fcs x), .abs wn.heap.size (fun w => Cod w wn.heap.size)]) ?_ ?_
  ·refine TC.seq_ (TC.region ?_)
   refine TL.val rfl rfl rfl (gives_move rfl rfl) ?_
   refine TL.val rfl rfl rfl (gives_len rfl Try.underlying26 rfl) ?_
   refine TL.vsplit rfl rfl rfl (gives_bin rfl rfl rfl (fun w => bin_gtr w)) (fun h68 => ?_) (fun h68 => ?_)
   ·have q68 := of_decide_eq_true h68
    refine TL.fact (p := ∃ g, Ax = some ⟨g, 0, none⟩) (fun w1 hw => rowA hw (k := 0) rfl (by omega)) ?_
    rintro ⟨gx, rfl⟩
    refine TL.end_ (TX.then_ (TC.condT rfl (TC.seq_ (TC.region ?_))))
    refine TL.val rfl rfl rfl (gives_move rfl rfl) ?_
    refine TL.val rfl rfl rfl (gives_move rfl rfl) ?_
    refine TL.val rfl rfl rfl (gives_len rfl Try.underlying26 rfl) ?_
    refine TL.pcallCod (k := 1) (α := {q9 : Nat // q9 ≤ 65535 ∧ (1 ≤ ((x.length : Nat) : Int) → (q9 : Int) < (x.length : Nat))}) (fun q9 => .int .i64 ((q9.1 : Nat) : Int)) (fun q9 => []) rfl rfl rfl rfl rfl Try.func21 ubknm21 ubkbd21 rfl (fun w1 hw hC1 => next_cod wn.heap.size w1 (x.length : Nat) hC1) ?_
    rintro ⟨kk, hkk1, hkk2⟩
    dsimp only [List.cons_append, List.nil_append]
    refine TL.val rfl rfl rfl (gives_assign rfl rfl) ?_
    refine TL.end_ (TX.then_ (TC.seq_ ?_))
    have hk3 : kk < x.length := by omega
    obtain ⟨f0, hy⟩ : ∃ y, x[kk]? = some y := ⟨_, List.getElem?_eq_getElem hk3⟩
    refine TC.region ?_
    refine TL.val rfl rfl rfl (gives_move rfl rfl) ?_
    refine TL.val rfl rfl rfl (gives_move rfl rfl) ?_
    refine TL.val rfl rfl rfl (gives_move rfl rfl) ?_
    refine TL.val rfl rfl rfl (gives_at (v := .pointer (some ⟨gx, 0 + kk * 3, none⟩)) rfl rfl rfl (fun w => at_el Try.underlying26 ubksz42 rfl _ _ kk hk3 rfl w)) ?_
    refine TL.val rfl rfl rfl (gives_field (v := .pointer (some ⟨gx, 0 + kk * 3 + 0, none⟩)) rfl rfl (fun w => ubkfld42_0 _ _ w)) ?_
    refine TL.val rfl rfl rfl (gives_load (v := .int .i64 f0.id) rfl rfl ubkag3 (fun w1 hw => fc_row hw (k := 0) (i := kk) rfl hy 0 _ rfl)) ?_
    refine TL.pcallPm (α := {y : (Option Addr × Nat) × List Fc × Int // y.2 = remP x f0.id ∧ y.2.1.length ≤ y.1.2 ∧ y.1.2 ≤ maxLen}) (fun y => .tuple #[.slice y.1.1.1 y.1.2.1.length y.1.1.2, .int .i64 y.1.2.2]) (fun y => [.row (.slice y.1.1.1 y.1.2.1.length y.1.1.2) 42 3 y.1.2.1.length (fcs y.1.2.1)]) rfl rfl rfl rfl rfl Try.func20 ubknm20 ubkbd20 (fun w1 hw => rem_any (some ⟨gx, 0, none⟩) x.length cx x w1 (by obtain ⟨B9, h8⟩ := pm_reads hw (k := 0) rfl; exact reads_up h8 (pm_row_lt hw (k := 0) rfl)) rfl f0.id) ?_
    rintro ⟨⟨⟨AQ, cQ⟩, rq, eq⟩, hrq, hrq1, hrq2⟩
    dsimp only [List.cons_append, List.nil_append] at hrq hrq1 hrq2 ⊢
    have hrp : remP x f0.id = (x.eraseIdx kk, 0) := by unfold remP; rw [if_pos hV, ix_at2 hV.asc hy]
    rw [hrp] at hrq
    obtain ⟨hrq3, he3⟩ := Prod.mk.inj hrq
    subst he3
    iterate 5 (first | refine TL.val rfl rfl rfl (gives_assign rfl rfl) ?_ | refine TL.val rfl rfl rfl (gives_extract rfl rfl rfl) ?_ | refine TL.val rfl rfl rfl (gives_move rfl rfl) ?_)
    refine TL.end_ (TX.then_ (TC.seq_ (TC.region ?_)))
    refine TL.val rfl rfl rfl (gives_move rfl rfl) ?_
    refine TL.val rfl rfl rfl (gives_move rfl rfl) ?_
    refine TL.val rfl rfl rfl (gives_move rfl rfl) ?_
    refine TL.val rfl rfl rfl (gives_at (v := .pointer (some ⟨gx, 0 + kk * 3, none⟩)) rfl rfl rfl (fun w => at_el Try.underlying26 ubksz42 rfl _ _ kk hk3 rfl w)) ?_
    refine TL.val rfl rfl rfl (gives_loadR (off := 0 + kk * 3) rfl rfl ubkag42 ubksz42 (fc_cells_len f0) (fun w1 hw q u hu => fc_row hw (k := 1) (i := kk) rfl hy q u hu)) ?_
    refine TL.pcallPm (α := {y : (Option Addr × Nat) × List Fc × Int // AddOk rq f0 y.2 ∧ y.2.1.length ≤ y.1.2 ∧ y.1.2 ≤ maxLen}) (fun y => .tuple #[.slice y.1.1.1 y.1.2.1.length y.1.1.2, .int .i64 y.1.2.2]) (fun y => [.row (.slice y.1.1.1 y.1.2.1.length y.1.1.2) 42 3 y.1.2.1.length (fcs y.1.2.1)]) rfl rfl rfl rfl rfl Try.func30 ubknm30 ubkbd30 (fun w1 hw => add_any AQ rq.length cQ rq w1 (by obtain ⟨B9, h8⟩ := pm_reads hw (k := 0) rfl; exact reads_up h8 (pm_row_lt hw (k := 0) rfl)) rfl f0) ?_
    rintro ⟨⟨⟨AD, cD⟩, b2, e2⟩, had, had1, had2⟩
    dsimp only [List.cons_append, List.nil_append] at had had1 had2 ⊢
    obtain ⟨he4, hb3⟩ := back_add hV hy (by rw [← hrq3]; exact had)
    subst he4
    have hb2l : b2.length = x.length := by rw [hb3]
    iterate 5 (first | refine TL.val rfl rfl rfl (gives_assign rfl rfl) ?_ | refine TL.val rfl rfl rfl (gives_extract rfl rfl rfl) ?_ | refine TL.val rfl rfl rfl (gives_move rfl rfl) ?_)
    refine TL.end_ (TX.then_ (TC.seq_ (TC.region ?_)))
    refine TL.val rfl rfl rfl (gives_move rfl rfl) ?_
    refine TL.val rfl rfl rfl (gives_bin rfl rfl rfl (fun w => bin_neq_f (rfl) w)) ?_
    iterate 4 (first | refine TL.on rfl rfl rfl ?_ | refine TL.val rfl rfl rfl (gives_move rfl rfl) ?_)
    refine TL.val rfl rfl rfl (gives_bin rfl rfl rfl (fun w => bin_neq_f (rfl) w)) ?_
    iterate 7 (first | refine TL.on rfl rfl rfl ?_ | refine TL.val rfl rfl rfl (gives_move rfl rfl) ?_ | refine TL.val rfl rfl rfl (gives_pick rfl rfl rfl) ?_)
    refine TL.pcall1 (r := .bool true) rfl rfl rfl rfl rfl Try.func25 ubknm25 ubkbd25 (fun w1 hw => sf_is AD _ cD b2 w1 (by obtain ⟨B9, h8⟩ := pm_reads hw (k := 0) rfl; exact reads_up h8 (pm_row_lt hw (k := 0) rfl)) rfl (some ⟨gx, 0, none⟩) _ cx x (by obtain ⟨B9, h8⟩ := pm_reads hw (k := 2) rfl; exact reads_up h8 (pm_row_lt hw (k := 2) rfl)) rfl (by omega) (by omega) (decide_eq_true hb3)) ?_
    refine TL.on rfl rfl rfl ?_
    refine TL.val rfl rfl rfl (gives_boolnot rfl rfl) ?_
    refine TL.val rfl rfl rfl (gives_pick rfl rfl rfl) ?_
    refine TL.end_ (TX.then_ (TC.condF rfl (TC.skip_ ?_)))
    exact TX.joined ((some ⟨gx, 0, none⟩)) (⟨rfl, rfl, trivial⟩) (fun w1 hw => hw.pick [2, 3] (by decide) rfl)
   ·have q68 := of_decide_eq_false h68
    refine TL.end_ (TX.then_ (TC.condF rfl (TC.skip_ ?_)))
    exact TX.joined (Ax) (⟨rfl, rfl, trivial⟩) (fun w1 hw => hw)
  ·rintro AX
   refine TC.seq_ (TC.region ?_)
   refine TL.val rfl rfl rfl (gives_move rfl rfl) ?_
   refine TL.nilrow 42 3 ?_
   refine TL.appendT (k := 0) rfl rfl rfl rfl Try.underlying26 ubkel26 rfl rfl rfl (fun w1 hw => pm_reads hw (k := 1) rfl) (fcs_one _) (by show _ * 16 ≤ _; omega) (x.length) ((Nat.zero_add _).symm) (fcs x) (rfl) (fun A105 c105 hA1051 hA1052 => ?_)
   refine TL.val rfl rfl rfl (gives_assign rfl rfl) ?_
   refine TL.end_ (TX.then_ (TC.seq_ (TC.seq_ (TC.region ?_))))
   refine TL.val rfl rfl rfl (gives_move rfl rfl) ?_
   refine TL.val rfl rfl rfl (gives_len rfl Try.underlying26 rfl) ?_
   refine TL.val rfl rfl rfl (gives_move rfl rfl) ?_
   refine TL.end_ (TX.then_ (TC.block ?_))
   refine TC.loop_ (α := {y : Nat × Option Addr × List Fc // y.1 ≤ x.length ∧ Mix x y.2.2}) (fun y => [(3, .pointer (some ⟨wn.heap.size, 0, none⟩)), (4, .slice AX x.length cx), (15, .slice y.1.2.1 x.length c105), (107, .int .i64 ((x.length : Nat) : Int)), (108, .int .i64 ((y.1.1 : Nat) : Int))]) (fun y => Pm wn [.row (.slice y.1.2.1 x.length c105) 42 3 x.length (fcs y.1.2.2), .row (.slice AX x.length cx) 42 3 x.length (fcs x), .abs wn.heap.size (fun w => Cod w wn.heap.size)]) (fun y => x.length - y.1.1) (⟨(0, A105, x), Nat.zero_le _, Mix.refl x⟩) ⟨rfl, rfl, rfl, rfl, rfl, trivial⟩ (fun w1 hw => hw) ?_
   rintro ⟨⟨i, Ao, m⟩, hi, hmix⟩
   dsimp only at hi hmix ⊢
   refine TC.seq_ (TC.region ?_)
   refine TL.vsplit rfl rfl rfl (gives_bin rfl rfl rfl (fun w => bin_lss w)) (fun h109 => ?_) (fun h109 => ?_)
   ·have q109 := of_decide_eq_true h109
    refine TL.fact (p := ∃ g, Ao = some ⟨g, 0, none⟩) (fun w1 hw => rowA hw (k := 0) rfl (by omega)) ?_
    rintro ⟨go, rfl⟩
    refine TL.end_ (TX.then_ (TC.seq_ (TC.condT rfl (TC.skip_ (TX.then_ (TC.seq_ (TC.block (TC.seq_ (TC.region ?_)))))))))
    refine TL.val rfl rfl rfl (gives_move rfl rfl) ?_
    refine TL.val rfl rfl rfl (gives_assign rfl rfl) ?_
    refine TL.end_ (TX.then_ (TC.seq_ (TC.region ?_)))
    refine TL.val rfl rfl rfl (gives_move rfl rfl) ?_
    refine TL.val rfl rfl rfl (gives_move rfl rfl) ?_
    refine TL.val rfl rfl rfl (gives_bin rfl rfl rfl (fun w => bin_add_ (r := ((i + 1 : Nat) : Int)) (by simp only [IntKind.wrap_i64]; omega) w)) ?_
    refine TL.pcallCod (k := 2) (α := {x : Nat // x ≤ 65535 ∧ (1 ≤ (((i + 1 : Nat) : Int) : Int) → (x : Int) < ((i + 1 : Nat) : Int))}) (fun x => .int .i64 ((x.1 : Nat) : Int)) (fun x => []) rfl rfl rfl rfl rfl Try.func21 ubknm21 ubkbd21 rfl (fun w1 hw hC1 => next_cod wn.heap.size w1 ((i + 1 : Nat) : Int) hC1) ?_
    rintro ⟨j, hj1, hj2⟩
    dsimp only [List.cons_append, List.nil_append]
    refine TL.val rfl rfl rfl (gives_assign rfl rfl) ?_
    refine TL.end_ (TX.then_ (TC.seq_ ?_))
    have hml : m.length = x.length := hmix.1
    have hj3 : j < x.length := by omega
    obtain ⟨f1, hf1⟩ : ∃ f1, m[i]? = some f1 := ⟨_, List.getElem?_eq_getElem (by omega)⟩
    obtain ⟨f2, hf2⟩ : ∃ f2, m[j]? = some f2 := ⟨_, List.getElem?_eq_getElem (by omega)⟩
    refine TC.held (ls := #[false, false, false, false, false, false, false, false, false, false, false, false, false, false, false, false, false, false, false, false]) (fun _ => True) (by kernel_rfl) rfl rfl (fun w hw => hw.drawn _) ?_
    refine TH.take (listed' := #[true, false, false, false, false, false, false, false, false, false, false, false, false, false, false, false, false, false, false, false]) 0 rfl (by kernel_rfl) (by kernel_rfl) (by kernel_rfl) rfl rfl rfl rfl (gives_move rfl rfl) (fun _ _ => trivial) ?_
    refine TH.take (listed' := #[true, true, false, false, false, false, false, false, false, false, false, false, false, false, false, false, false, false, false, false]) 1 rfl (by kernel_rfl) (by kernel_rfl) (by kernel_rfl) rfl rfl rfl rfl (gives_move rfl rfl) (fun _ _ => trivial) ?_
    refine TH.take (listed' := #[true, true, true, false, false, false, false, false, false, false, false, false, false, false, false, false, false, false, false, false]) 2 rfl (by kernel_rfl) (by kernel_rfl) (by kernel_rfl) rfl rfl rfl rfl (gives_move rfl rfl) (fun _ _ => trivial) ?_
    refine TH.take (listed' := #[true, true, true, true, false, false, false, false, false, false, false, false, false, false, false, false, false, false, false, false]) 3 rfl (by kernel_rfl) (by kernel_rfl) (by kernel_rfl) rfl rfl rfl rfl (gives_move rfl rfl) (fun _ _ => trivial) ?_
    refine TH.take (listed' := #[true, true, true, true, true, false, false, false, false, false, false, false, false, false, false, false, false, false, false, false]) 4 rfl (by kernel_rfl) (by kernel_rfl) (by kernel_rfl) rfl rfl rfl rfl (gives_move rfl rfl) (fun _ _ => trivial) ?_
    refine TH.take (listed' := #[true, true, true, true, true, true, false, false, false, false, false, false, false, false, false, false, false, false, false, false]) 5 rfl (by kernel_rfl) (by kernel_rfl) (by kernel_rfl) rfl rfl rfl rfl (gives_move rfl rfl) (fun _ _ => trivial) ?_
    refine TH.take (listed' := #[true, true, true, true, true, true, true, false, false, false, false, false, false, false, false, false, false, false, false, false]) 6 rfl (by kernel_rfl) (by kernel_rfl) (by kernel_rfl) rfl rfl rfl rfl (gives_at (v := .pointer (some ⟨go, 0 + j * 3, none⟩)) rfl rfl rfl (fun w => at_el Try.underlying26 ubksz42 rfl _ _ j (by omega) rfl w)) (fun _ _ => trivial) ?_
    refine TH.take (listed' := #[true, true, true, true, true, true, true, true, false, false, false, false, false, false, false, false, false, false, false, false]) 7 rfl (by kernel_rfl) (by kernel_rfl) (by kernel_rfl) rfl rfl rfl rfl (gives_field (v := .pointer (some ⟨go, 0 + j * 3 + 1, none⟩)) rfl rfl (fun w => ubkfld42_1 _ _ w)) (fun _ _ => trivial) ?_
    refine TH.take (listed' := #[true, true, true, true, true, true, true, true, false, true, false, false, false, false, false, false, false, false, false, false]) 9 rfl (by kernel_rfl) (by kernel_rfl) (by kernel_rfl) rfl rfl rfl rfl (gives_move rfl rfl) (fun _ _ => trivial) ?_
    refine TH.take (listed' := #[true, true, true, true, true, true, true, true, false, true, true, false, false, false, false, false, false, false, false, false]) 10 rfl (by kernel_rfl) (by kernel_rfl) (by kernel_rfl) rfl rfl rfl rfl (gives_move rfl rfl) (fun _ _ => trivial) ?_
    refine TH.take (listed' := #[true, true, true, true, true, true, true, true, false, true, true, true, false, false, false, false, false, false, false, false]) 11 rfl (by kernel_rfl) (by kernel_rfl) (by kernel_rfl) rfl rfl rfl rfl (gives_at (v := .pointer (some ⟨go, 0 + i * 3, none⟩)) rfl rfl rfl (fun w => at_el Try.underlying26 ubksz42 rfl _ _ i (by omega) rfl w)) (fun _ _ => trivial) ?_
    refine TH.take (listed' := #[true, true, true, true, true, true, true, true, false, true, true, true, true, false, false, false, false, false, false, false]) 12 rfl (by kernel_rfl) (by kernel_rfl) (by kernel_rfl) rfl rfl rfl rfl (gives_field (v := .pointer (some ⟨go, 0 + i * 3 + 1, none⟩)) rfl rfl (fun w => ubkfld42_1 _ _ w)) (fun _ _ => trivial) ?_
    refine TH.two' (listed1 := #[true, true, true, true, true, true, true, true, true, true, true, true, true, false, false, false, false, false, false, false]) (listed2 := #[true, true, true, true, true, true, true, true, false, true, true, true, true, true, false, false, false, false, false, false]) 8 13 rfl rfl (by kernel_rfl) rfl rfl ?_ ?_
    ·refine TL.val rfl rfl rfl (gives_load (v := .int .u32 f2.a) rfl rfl ubkag35 (fun w1 hw => fc_row hw (k := 0) (i := j) rfl hf2 1 _ rfl)) ?_
     refine TL.end_ ?_
     refine TX.held (fun _ _ => trivial) ?_
     refine TH.only' (listed' := #[true, true, true, true, true, true, true, true, true, true, true, true, true, true, false, false, false, false, false, false]) 13 rfl (by kernel_rfl) rfl ?_
     refine TL.val rfl rfl rfl (gives_load (v := .int .u32 f1.a) rfl rfl ubkag35 (fun w1 hw => fc_row hw (k := 0) (i := i) rfl hf1 1 _ rfl)) ?_
     refine TL.end_ ?_
     refine TX.held (fun _ _ => trivial) ?_
     refine TH.take (listed' := #[true, true, true, true, true, true, true, true, true, true, true, true, true, true, true, false, false, false, false, false]) 14 rfl (by kernel_rfl) (by kernel_rfl) (by kernel_rfl) rfl rfl rfl rfl (gives_at (v := .pointer (some ⟨go, 0 + i * 3, none⟩)) rfl rfl rfl (fun w => at_el Try.underlying26 ubksz42 rfl _ _ i (by omega) rfl w)) (fun _ _ => trivial) ?_
     refine TH.take (listed' := #[true, true, true, true, true, true, true, true, true, true, true, true, true, true, true, true, false, false, false, false]) 15 rfl (by kernel_rfl) (by kernel_rfl) (by kernel_rfl) rfl rfl rfl rfl (gives_field (v := .pointer (some ⟨go, 0 + i * 3 + 1, none⟩)) rfl rfl (fun w => ubkfld42_1 _ _ w)) (fun _ _ => trivial) ?_
     refine TH.only' (listed' := #[true, true, true, true, true, true, true, true, true, true, true, true, true, true, true, true, true, false, false, false]) 16 rfl (by kernel_rfl) rfl ?_
     refine TL.rowset (k := 0) (vs := [.int .u32 f2.a]) (xs' := fcs (m.set i ⟨f1.id, f2.a, f1.b⟩)) rfl rfl rfl rfl rfl rfl rfl ubksz35 (fun u hu => by cases List.mem_singleton.1 hu; rfl) (by rw [fcs_len]; show 0 + i * 3 + 1 + 1 ≤ _; omega) (fcs_seta hf1 f2.a) ?_
     try dsimp only [List.set_cons_zero, List.set_cons_succ]
     refine TL.end_ ?_
     refine TX.held (fun _ _ => trivial) ?_
     refine TH.take (listed' := #[true, true, true, true, true, true, true, true, true, true, true, true, true, true, true, true, true, true, false, false]) 17 rfl (by kernel_rfl) (by kernel_rfl) (by kernel_rfl) rfl rfl rfl rfl (gives_at (v := .pointer (some ⟨go, 0 + j * 3, none⟩)) rfl rfl rfl (fun w => at_el Try.underlying26 ubksz42 rfl _ _ j (by omega) rfl w)) (fun _ _ => trivial) ?_
     refine TH.take (listed' := #[true, true, true, true, true, true, true, true, true, true, true, true, true, true, true, true, true, true, true, false]) 18 rfl (by kernel_rfl) (by kernel_rfl) (by kernel_rfl) rfl rfl rfl rfl (gives_field (v := .pointer (some ⟨go, 0 + j * 3 + 1, none⟩)) rfl rfl (fun w => ubkfld42_1 _ _ w)) (fun _ _ => trivial) ?_
     refine TH.only' (listed' := #[true, true, true, true, true, true, true, true, true, true, true, true, true, true, true, true, true, true, true, true]) 19 rfl (by kernel_rfl) rfl ?_
     refine TL.rowset (k := 0) (vs := [.int .u32 f1.a]) (xs' := fcs (mixA m i j f1 f2)) rfl rfl rfl rfl rfl rfl rfl ubksz35 (fun u hu => by cases List.mem_singleton.1 hu; rfl) (by rw [fcs_len, List.length_set]; show 0 + j * 3 + 1 + 1 ≤ _; omega) (fcs_seta (mixA1 hf1 hf2) f1.a) ?_
     try dsimp only [List.set_cons_zero, List.set_cons_succ]
     refine TL.end_ ?_
     refine TX.held (fun _ _ => trivial) ?_
     refine TH.done (by kernel_rfl) ?_
     refine TX.then_ ?_
     refine TC.held (ls := #[false, false, false, false, false, false, false, false, false, false, false, false, false, false, false, false, false, false, false, false]) (fun _ => True) (by kernel_rfl) rfl rfl (fun w hw => hw.drawn _) ?_
     refine TH.take (listed' := #[true, false, false, false, false, false, false, false, false, false, false, false, false, false, false, false, false, false, false, false]) 0 rfl (by kernel_rfl) (by kernel_rfl) (by kernel_rfl) rfl rfl rfl rfl (gives_move rfl rfl) (fun _ _ => trivial) ?_
     refine TH.take (listed' := #[true, true, false, false, false, false, false, false, false, false, false, false, false, false, false, false, false, false, false, false]) 1 rfl (by kernel_rfl) (by kernel_rfl) (by kernel_rfl) rfl rfl rfl rfl (gives_move rfl rfl) (fun _ _ => trivial) ?_
     refine TH.take (listed' := #[true, true, true, false, false, false, false, false, false, false, false, false, false, false, false, false, false, false, false, false]) 2 rfl (by kernel_rfl) (by kernel_rfl) (by kernel_rfl) rfl rfl rfl rfl (gives_move rfl rfl) (fun _ _ => trivial) ?_
     refine TH.take (listed' := #[true, true, true, true, false, false, false, false, false, false, false, false, false, false, false, false, false, false, false, false]) 3 rfl (by kernel_rfl) (by kernel_rfl) (by kernel_rfl) rfl rfl rfl rfl (gives_move rfl rfl) (fun _ _ => trivial) ?_
     refine TH.take (listed' := #[true, true, true, true, true, false, false, false, false, false, false, false, false, false, false, false, false, false, false, false]) 4 rfl (by kernel_rfl) (by kernel_rfl) (by kernel_rfl) rfl rfl rfl rfl (gives_move rfl rfl) (fun _ _ => trivial) ?_
     refine TH.take (listed' := #[true, true, true, true, true, true, false, false, false, false, false, false, false, false, false, false, false, false, false, false]) 5 rfl (by kernel_rfl) (by kernel_rfl) (by kernel_rfl) rfl rfl rfl rfl (gives_move rfl rfl) (fun _ _ => trivial) ?_
     refine TH.take (listed' := #[true, true, true, true, true, true, true, false, false, false, false, false, false, false, false, false, false, false, false, false]) 6 rfl (by kernel_rfl) (by kernel_rfl) (by kernel_rfl) rfl rfl rfl rfl (gives_at (v := .pointer (some ⟨go, 0 + j * 3, none⟩)) rfl rfl rfl (fun w => at_el Try.underlying26 ubksz42 rfl _ _ j (by omega) rfl w)) (fun _ _ => trivial) ?_
     refine TH.take (listed' := #[true, true, true, true, true, true, true, true, false, false, false, false, false, false, false, false, false, false, false, false]) 7 rfl (by kernel_rfl) (by kernel_rfl) (by kernel_rfl) rfl rfl rfl rfl (gives_field (v := .pointer (some ⟨go, 0 + j * 3 + 2, none⟩)) rfl rfl (fun w => ubkfld42_2 _ _ w)) (fun _ _ => trivial) ?_
     refine TH.take (listed' := #[true, true, true, true, true, true, true, true, false, true, false, false, false, false, false, false, false, false, false, false]) 9 rfl (by kernel_rfl) (by kernel_rfl) (by kernel_rfl) rfl rfl rfl rfl (gives_move rfl rfl) (fun _ _ => trivial) ?_
     refine TH.take (listed' := #[true, true, true, true, true, true, true, true, false, true, true, false, false, false, false, false, false, false, false, false]) 10 rfl (by kernel_rfl) (by kernel_rfl) (by kernel_rfl) rfl rfl rfl rfl (gives_move rfl rfl) (fun _ _ => trivial) ?_
     refine TH.take (listed' := #[true, true, true, true, true, true, true, true, false, true, true, true, false, false, false, false, false, false, false, false]) 11 rfl (by kernel_rfl) (by kernel_rfl) (by kernel_rfl) rfl rfl rfl rfl (gives_at (v := .pointer (some ⟨go, 0 + i * 3, none⟩)) rfl rfl rfl (fun w => at_el Try.underlying26 ubksz42 rfl _ _ i (by omega) rfl w)) (fun _ _ => trivial) ?_
     refine TH.take (listed' := #[true, true, true, true, true, true, true, true, false, true, true, true, true, false, false, false, false, false, false, false]) 12 rfl (by kernel_rfl) (by kernel_rfl) (by kernel_rfl) rfl rfl rfl rfl (gives_field (v := .pointer (some ⟨go, 0 + i * 3 + 2, none⟩)) rfl rfl (fun w => ubkfld42_2 _ _ w)) (fun _ _ => trivial) ?_
     refine TH.two' (listed1 := #[true, true, true, true, true, true, true, true, true, true, true, true, true, false, false, false, false, false, false, false]) (listed2 := #[true, true, true, true, true, true, true, true, false, true, true, true, true, true, false, false, false, false, false, false]) 8 13 rfl rfl (by kernel_rfl) rfl rfl ?_ ?_
     ·refine TL.val rfl rfl rfl (gives_load (v := .int .u32 f2.b) rfl rfl ubkag35 (fun w1 hw => fc_row hw (k := 0) (i := j) rfl (mixA_j hf1 hf2) 2 _ rfl)) ?_
      refine TL.end_ ?_
      refine TX.held (fun _ _ => trivial) ?_
      refine TH.only' (listed' := #[true, true, true, true, true, true, true, true, true, true, true, true, true, true, false, false, false, false, false, false]) 13 rfl (by kernel_rfl) rfl ?_
      refine TL.val rfl rfl rfl (gives_load (v := .int .u32 f1.b) rfl rfl ubkag35 (fun w1 hw => fc_row hw (k := 0) (i := i) rfl (mixA_i hf1 hf2) 2 _ rfl)) ?_
      refine TL.end_ ?_
      refine TX.held (fun _ _ => trivial) ?_
      refine TH.take (listed' := #[true, true, true, true, true, true, true, true, true, true, true, true, true, true, true, false, false, false, false, false]) 14 rfl (by kernel_rfl) (by kernel_rfl) (by kernel_rfl) rfl rfl rfl rfl (gives_at (v := .pointer (some ⟨go, 0 + i * 3, none⟩)) rfl rfl rfl (fun w => at_el Try.underlying26 ubksz42 rfl _ _ i (by omega) rfl w)) (fun _ _ => trivial) ?_
      refine TH.take (listed' := #[true, true, true, true, true, true, true, true, true, true, true, true, true, true, true, true, false, false, false, false]) 15 rfl (by kernel_rfl) (by kernel_rfl) (by kernel_rfl) rfl rfl rfl rfl (gives_field (v := .pointer (some ⟨go, 0 + i * 3 + 2, none⟩)) rfl rfl (fun w => ubkfld42_2 _ _ w)) (fun _ _ => trivial) ?_
      refine TH.only' (listed' := #[true, true, true, true, true, true, true, true, true, true, true, true, true, true, true, true, true, false, false, false]) 16 rfl (by kernel_rfl) rfl ?_
      refine TL.rowset (k := 0) (vs := [.int .u32 f2.b]) (xs' := fcs ((mixA m i j f1 f2).set i ⟨f1.id, f2.a, f2.b⟩)) rfl rfl rfl rfl rfl rfl rfl ubksz35 (fun u hu => by cases List.mem_singleton.1 hu; rfl) (by rw [fcs_len, mixA_len]; show 0 + i * 3 + 2 + 1 ≤ _; omega) (fcs_setb (mixA_i hf1 hf2) f2.b) ?_
      try dsimp only [List.set_cons_zero, List.set_cons_succ]
      refine TL.end_ ?_
      refine TX.held (fun _ _ => trivial) ?_
      refine TH.take (listed' := #[true, true, true, true, true, true, true, true, true, true, true, true, true, true, true, true, true, true, false, false]) 17 rfl (by kernel_rfl) (by kernel_rfl) (by kernel_rfl) rfl rfl rfl rfl (gives_at (v := .pointer (some ⟨go, 0 + j * 3, none⟩)) rfl rfl rfl (fun w => at_el Try.underlying26 ubksz42 rfl _ _ j (by omega) rfl w)) (fun _ _ => trivial) ?_
      refine TH.take (listed' := #[true, true, true, true, true, true, true, true, true, true, true, true, true, true, true, true, true, true, true, false]) 18 rfl (by kernel_rfl) (by kernel_rfl) (by kernel_rfl) rfl rfl rfl rfl (gives_field (v := .pointer (some ⟨go, 0 + j * 3 + 2, none⟩)) rfl rfl (fun w => ubkfld42_2 _ _ w)) (fun _ _ => trivial) ?_
      refine TH.only' (listed' := #[true, true, true, true, true, true, true, true, true, true, true, true, true, true, true, true, true, true, true, true]) 19 rfl (by kernel_rfl) rfl ?_
      refine TL.rowset (k := 0) (vs := [.int .u32 f1.b]) (xs' := fcs (mixB m i j f1 f2)) rfl rfl rfl rfl rfl rfl rfl ubksz35 (fun u hu => by cases List.mem_singleton.1 hu; rfl) (by rw [fcs_len, List.length_set, mixA_len]; show 0 + j * 3 + 2 + 1 ≤ _; omega) (by rw [← mixB_eq hf1 hf2]; exact fcs_setb (mixB1 hf1 hf2) f1.b) ?_
      try dsimp only [List.set_cons_zero, List.set_cons_succ]
      refine TL.end_ ?_
      refine TX.held (fun _ _ => trivial) ?_
      refine TH.done (by kernel_rfl) ?_
      refine TX.in_normal (TX.then_ (TC.region ?_))
      refine TL.val rfl rfl rfl (gives_bin rfl rfl rfl (fun w => bin_add_ (r := ((i + 1 : Nat) : Int)) (by simp only [IntKind.wrap_i64]; omega) w)) ?_
      refine TL.val rfl rfl rfl (gives_move rfl rfl) ?_
      refine TL.end_ ?_
      exact TX.round (⟨(i + 1, some ⟨go, 0, none⟩, mixB m i j f1 f2), by dsimp only; omega, hmix.step hf1 hf2⟩) (by show x.length - (i + 1) < x.length - i; omega) ⟨rfl, rfl, rfl, rfl, rfl, trivial⟩ (fun w1 hw => hw)
     ·refine TL.val rfl rfl rfl (gives_load (v := .int .u32 f1.b) rfl rfl ubkag35 (fun w1 hw => fc_row hw (k := 0) (i := i) rfl (mixA_i hf1 hf2) 2 _ rfl)) ?_
      refine TL.end_ ?_
      refine TX.held (fun _ _ => trivial) ?_
      refine TH.only' (listed' := #[true, true, true, true, true, true, true, true, true, true, true, true, true, true, false, false, false, false, false, false]) 8 rfl (by kernel_rfl) rfl ?_
      refine TL.val rfl rfl rfl (gives_load (v := .int .u32 f2.b) rfl rfl ubkag35 (fun w1 hw => fc_row hw (k := 0) (i := j) rfl (mixA_j hf1 hf2) 2 _ rfl)) ?_
      refine TL.end_ ?_
      refine TX.held (fun _ _ => trivial) ?_
      refine TH.take (listed' := #[true, true, true, true, true, true, true, true, true, true, true, true, true, true, true, false, false, false, false, false]) 14 rfl (by kernel_rfl) (by kernel_rfl) (by kernel_rfl) rfl rfl rfl rfl (gives_at (v := .pointer (some ⟨go, 0 + i * 3, none⟩)) rfl rfl rfl (fun w => at_el Try.underlying26 ubksz42 rfl _ _ i (by omega) rfl w)) (fun _ _ => trivial) ?_
      refine TH.take (listed' := #[true, true, true, true, true, true, true, true, true, true, true, true, true, true, true, true, false, false, false, false]) 15 rfl (by kernel_rfl) (by kernel_rfl) (by kernel_rfl) rfl rfl rfl rfl (gives_field (v := .pointer (some ⟨go, 0 + i * 3 + 2, none⟩)) rfl rfl (fun w => ubkfld42_2 _ _ w)) (fun _ _ => trivial) ?_
      refine TH.only' (listed' := #[true, true, true, true, true, true, true, true, true, true, true, true, true, true, true, true, true, false, false, false]) 16 rfl (by kernel_rfl) rfl ?_
      refine TL.rowset (k := 0) (vs := [.int .u32 f2.b]) (xs' := fcs ((mixA m i j f1 f2).set i ⟨f1.id, f2.a, f2.b⟩)) rfl rfl rfl rfl rfl rfl rfl ubksz35 (fun u hu => by cases List.mem_singleton.1 hu; rfl) (by rw [fcs_len, mixA_len]; show 0 + i * 3 + 2 + 1 ≤ _; omega) (fcs_setb (mixA_i hf1 hf2) f2.b) ?_
      try dsimp only [List.set_cons_zero, List.set_cons_succ]
      refine TL.end_ ?_
      refine TX.held (fun _ _ => trivial) ?_
      refine TH.take (listed' := #[true, true, true, true, true, true, true, true, true, true, true, true, true, true, true, true, true, true, false, false]) 17 rfl (by kernel_rfl) (by kernel_rfl) (by kernel_rfl) rfl rfl rfl rfl (gives_at (v := .pointer (some ⟨go, 0 + j * 3, none⟩)) rfl rfl rfl (fun w => at_el Try.underlying26 ubksz42 rfl _ _ j (by omega) rfl w)) (fun _ _ => trivial) ?_
      refine TH.take (listed' := #[true, true, true, true, true, true, true, true, true, true, true, true, true, true, true, true, true, true, true, false]) 18 rfl (by kernel_rfl) (by kernel_rfl) (by kernel_rfl) rfl rfl rfl rfl (gives_field (v := .pointer (some ⟨go, 0 + j * 3 + 2, none⟩)) rfl rfl (fun w => ubkfld42_2 _ _ w)) (fun _ _ => trivial) ?_
      refine TH.only' (listed' := #[true, true, true, true, true, true, true, true, true, true, true, true, true, true, true, true, true, true, true, true]) 19 rfl (by kernel_rfl) rfl ?_
      refine TL.rowset (k := 0) (vs := [.int .u32 f1.b]) (xs' := fcs (mixB m i j f1 f2)) rfl rfl rfl rfl rfl rfl rfl ubksz35 (fun u hu => by cases List.mem_singleton.1 hu; rfl) (by rw [fcs_len, List.length_set, mixA_len]; show 0 + j * 3 + 2 + 1 ≤ _; omega) (by rw [← mixB_eq hf1 hf2]; exact fcs_setb (mixB1 hf1 hf2) f1.b) ?_
      try dsimp only [List.set_cons_zero, List.set_cons_succ]
      refine TL.end_ ?_
      refine TX.held (fun _ _ => trivial) ?_
      refine TH.done (by kernel_rfl) ?_
      refine TX.in_normal (TX.then_ (TC.region ?_))
      refine TL.val rfl rfl rfl (gives_bin rfl rfl rfl (fun w => bin_add_ (r := ((i + 1 : Nat) : Int)) (by simp only [IntKind.wrap_i64]; omega) w)) ?_
      refine TL.val rfl rfl rfl (gives_move rfl rfl) ?_
      refine TL.end_ ?_
      exact TX.round (⟨(i + 1, some ⟨go, 0, none⟩, mixB m i j f1 f2), by dsimp only; omega, hmix.step hf1 hf2⟩) (by show x.length - (i + 1) < x.length - i; omega) ⟨rfl, rfl, rfl, rfl, rfl, trivial⟩ (fun w1 hw => hw)
    ·refine TL.val rfl rfl rfl (gives_load (v := .int .u32 f1.a) rfl rfl ubkag35 (fun w1 hw => fc_row hw (k := 0) (i := i) rfl hf1 1 _ rfl)) ?_
     refine TL.end_ ?_
     refine TX.held (fun _ _ => trivial) ?_
     refine TH.only' (listed' := #[true, true, true, true, true, true, true, true, true, true, true, true, true, true, false, false, false, false, false, false]) 8 rfl (by kernel_rfl) rfl ?_
     refine TL.val rfl rfl rfl (gives_load (v := .int .u32 f2.a) rfl rfl ubkag35 (fun w1 hw => fc_row hw (k := 0) (i := j) rfl hf2 1 _ rfl)) ?_
     refine TL.end_ ?_
     refine TX.held (fun _ _ => trivial) ?_
     refine TH.take (listed' := #[true, true, true, true, true, true, true, true, true, true, true, true, true, true, true, false, false, false, false, false]) 14 rfl (by kernel_rfl) (by kernel_rfl) (by kernel_rfl) rfl rfl rfl rfl (gives_at (v := .pointer (some ⟨go, 0 + i * 3, none⟩)) rfl rfl rfl (fun w => at_el Try.underlying26 ubksz42 rfl _ _ i (by omega) rfl w)) (fun _ _ => trivial) ?_
     refine TH.take (listed' := #[true, true, true, true, true, true, true, true, true, true, true, true, true, true, true, true, false, false, false, false]) 15 rfl (by kernel_rfl) (by kernel_rfl) (by kernel_rfl) rfl rfl rfl rfl (gives_field (v := .pointer (some ⟨go, 0 + i * 3 + 1, none⟩)) rfl rfl (fun w => ubkfld42_1 _ _ w)) (fun _ _ => trivial) ?_
     refine TH.only' (listed' := #[true, true, true, true, true, true, true, true, true, true, true, true, true, true, true, true, true, false, false, false]) 16 rfl (by kernel_rfl) rfl ?_
     refine TL.rowset (k := 0) (vs := [.int .u32 f2.a]) (xs' := fcs (m.set i ⟨f1.id, f2.a, f1.b⟩)) rfl rfl rfl rfl rfl rfl rfl ubksz35 (fun u hu => by cases List.mem_singleton.1 hu; rfl) (by rw [fcs_len]; show 0 + i * 3 + 1 + 1 ≤ _; omega) (fcs_seta hf1 f2.a) ?_
     try dsimp only [List.set_cons_zero, List.set_cons_succ]
     refine TL.end_ ?_
     refine TX.held (fun _ _ => trivial) ?_
     refine TH.take (listed' := #[true, true, true, true, true, true, true, true, true, true, true, true, true, true, true, true, true, true, false, false]) 17 rfl (by kernel_rfl) (by kernel_rfl) (by kernel_rfl) rfl rfl rfl rfl (gives_at (v := .pointer (some ⟨go, 0 + j * 3, none⟩)) rfl rfl rfl (fun w => at_el Try.underlying26 ubksz42 rfl _ _ j (by omega) rfl w)) (fun _ _ => trivial) ?_
     refine TH.take (listed' := #[true, true, true, true, true, true, true, true, true, true, true, true, true, true, true, true, true, true, true, false]) 18 rfl (by kernel_rfl) (by kernel_rfl) (by kernel_rfl) rfl rfl rfl rfl (gives_field (v := .pointer (some ⟨go, 0 + j * 3 + 1, none⟩)) rfl rfl (fun w => ubkfld42_1 _ _ w)) (fun _ _ => trivial) ?_
     refine TH.only' (listed' := #[true, true, true, true, true, true, true, true, true, true, true, true, true, true, true, true, true, true, true, true]) 19 rfl (by kernel_rfl) rfl ?_
     refine TL.rowset (k := 0) (vs := [.int .u32 f1.a]) (xs' := fcs (mixA m i j f1 f2)) rfl rfl rfl rfl rfl rfl rfl ubksz35 (fun u hu => by cases List.mem_singleton.1 hu; rfl) (by rw [fcs_len, List.length_set]; show 0 + j * 3 + 1 + 1 ≤ _; omega) (fcs_seta (mixA1 hf1 hf2) f1.a) ?_
     try dsimp only [List.set_cons_zero, List.set_cons_succ]
     refine TL.end_ ?_
     refine TX.held (fun _ _ => trivial) ?_
     refine TH.done (by kernel_rfl) ?_
     refine TX.then_ ?_
     refine TC.held (ls := #[false, false, false, false, false, false, false, false, false, false, false, false, false, false, false, false, false, false, false, false]) (fun _ => True) (by kernel_rfl) rfl rfl (fun w hw => hw.drawn _) ?_
     refine TH.take (listed' := #[true, false, false, false, false, false, false, false, false, false, false, false, false, false, false, false, false, false, false, false]) 0 rfl (by kernel_rfl) (by kernel_rfl) (by kernel_rfl) rfl rfl rfl rfl (gives_move rfl rfl) (fun _ _ => trivial) ?_
     refine TH.take (listed' := #[true, true, false, false, false, false, false, false, false, false, false, false, false, false, false, false, false, false, false, false]) 1 rfl (by kernel_rfl) (by kernel_rfl) (by kernel_rfl) rfl rfl rfl rfl (gives_move rfl rfl) (fun _ _ => trivial) ?_
     refine TH.take (listed' := #[true, true, true, false, false, false, false, false, false, false, false, false, false, false, false, false, false, false, false, false]) 2 rfl (by kernel_rfl) (by kernel_rfl) (by kernel_rfl) rfl rfl rfl rfl (gives_move rfl rfl) (fun _ _ => trivial) ?_
     refine TH.take (listed' := #[true, true, true, true, false, false, false, false, false, false, false, false, false, false, false, false, false, false, false, false]) 3 rfl (by kernel_rfl) (by kernel_rfl) (by kernel_rfl) rfl rfl rfl rfl (gives_move rfl rfl) (fun _ _ => trivial) ?_
     refine TH.take (listed' := #[true, true, true, true, true, false, false, false, false, false, false, false, false, false, false, false, false, false, false, false]) 4 rfl (by kernel_rfl) (by kernel_rfl) (by kernel_rfl) rfl rfl rfl rfl (gives_move rfl rfl) (fun _ _ => trivial) ?_
     refine TH.take (listed' := #[true, true, true, true, true, true, false, false, false, false, false, false, false, false, false, false, false, false, false, false]) 5 rfl (by kernel_rfl) (by kernel_rfl) (by kernel_rfl) rfl rfl rfl rfl (gives_move rfl rfl) (fun _ _ => trivial) ?_
     refine TH.take (listed' := #[true, true, true, true, true, true, true, false, false, false, false, false, false, false, false, false, false, false, false, false]) 6 rfl (by kernel_rfl) (by kernel_rfl) (by kernel_rfl) rfl rfl rfl rfl (gives_at (v := .pointer (some ⟨go, 0 + j * 3, none⟩)) rfl rfl rfl (fun w => at_el Try.underlying26 ubksz42 rfl _ _ j (by omega) rfl w)) (fun _ _ => trivial) ?_
     refine TH.take (listed' := #[true, true, true, true, true, true, true, true, false, false, false, false, false, false, false, false, false, false, false, false]) 7 rfl (by kernel_rfl) (by kernel_rfl) (by kernel_rfl) rfl rfl rfl rfl (gives_field (v := .pointer (some ⟨go, 0 + j * 3 + 2, none⟩)) rfl rfl (fun w => ubkfld42_2 _ _ w)) (fun _ _ => trivial) ?_
     refine TH.take (listed' := #[true, true, true, true, true, true, true, true, false, true, false, false, false, false, false, false, false, false, false, false]) 9 rfl (by kernel_rfl) (by kernel_rfl) (by kernel_rfl) rfl rfl rfl rfl (gives_move rfl rfl) (fun _ _ => trivial) ?_
     refine TH.take (listed' := #[true, true, true, true, true, true, true, true, false, true, true, false, false, false, false, false, false, false, false, false]) 10 rfl (by kernel_rfl) (by kernel_rfl) (by kernel_rfl) rfl rfl rfl rfl (gives_move rfl rfl) (fun _ _ => trivial) ?_
     refine TH.take (listed' := #[true, true, true, true, true, true, true, true, false, true, true, true, false, false, false, false, false, false, false, false]) 11 rfl (by kernel_rfl) (by kernel_rfl) (by kernel_rfl) rfl rfl rfl rfl (gives_at (v := .pointer (some ⟨go, 0 + i * 3, none⟩)) rfl rfl rfl (fun w => at_el Try.underlying26 ubksz42 rfl _ _ i (by omega) rfl w)) (fun _ _ => trivial) ?_
     refine TH.take (listed' := #[true, true, true, true, true, true, true, true, false, true, true, true, true, false, false, false, false, false, false, false]) 12 rfl (by kernel_rfl) (by kernel_rfl) (by kernel_rfl) rfl rfl rfl rfl (gives_field (v := .pointer (some ⟨go, 0 + i * 3 + 2, none⟩)) rfl rfl (fun w => ubkfld42_2 _ _ w)) (fun _ _ => trivial) ?_
     refine TH.two' (listed1 := #[true, true, true, true, true, true, true, true, true, true, true, true, true, false, false, false, false, false, false, false]) (listed2 := #[true, true, true, true, true, true, true, true, false, true, true, true, true, true, false, false, false, false, false, false]) 8 13 rfl rfl (by kernel_rfl) rfl rfl ?_ ?_
     ·refine TL.val rfl rfl rfl (gives_load (v := .int .u32 f2.b) rfl rfl ubkag35 (fun w1 hw => fc_row hw (k := 0) (i := j) rfl (mixA_j hf1 hf2) 2 _ rfl)) ?_
      refine TL.end_ ?_
      refine TX.held (fun _ _ => trivial) ?_
      refine TH.only' (listed' := #[true, true, true, true, true, true, true, true, true, true, true, true, true, true, false, false, false, false, false, false]) 13 rfl (by kernel_rfl) rfl ?_
      refine TL.val rfl rfl rfl (gives_load (v := .int .u32 f1.b) rfl rfl ubkag35 (fun w1 hw => fc_row hw (k := 0) (i := i) rfl (mixA_i hf1 hf2) 2 _ rfl)) ?_
      refine TL.end_ ?_
      refine TX.held (fun _ _ => trivial) ?_
      refine TH.take (listed' := #[true, true, true, true, true, true, true, true, true, true, true, true, true, true, true, false, false, false, false, false]) 14 rfl (by kernel_rfl) (by kernel_rfl) (by kernel_rfl) rfl rfl rfl rfl (gives_at (v := .pointer (some ⟨go, 0 + i * 3, none⟩)) rfl rfl rfl (fun w => at_el Try.underlying26 ubksz42 rfl _ _ i (by omega) rfl w)) (fun _ _ => trivial) ?_
      refine TH.take (listed' := #[true, true, true, true, true, true, true, true, true, true, true, true, true, true, true, true, false, false, false, false]) 15 rfl (by kernel_rfl) (by kernel_rfl) (by kernel_rfl) rfl rfl rfl rfl (gives_field (v := .pointer (some ⟨go, 0 + i * 3 + 2, none⟩)) rfl rfl (fun w => ubkfld42_2 _ _ w)) (fun _ _ => trivial) ?_
      refine TH.only' (listed' := #[true, true, true, true, true, true, true, true, true, true, true, true, true, true, true, true, true, false, false, false]) 16 rfl (by kernel_rfl) rfl ?_
      refine TL.rowset (k := 0) (vs := [.int .u32 f2.b]) (xs' := fcs ((mixA m i j f1 f2).set i ⟨f1.id, f2.a, f2.b⟩)) rfl rfl rfl rfl rfl rfl rfl ubksz35 (fun u hu => by cases List.mem_singleton.1 hu; rfl) (by rw [fcs_len, mixA_len]; show 0 + i * 3 + 2 + 1 ≤ _; omega) (fcs_setb (mixA_i hf1 hf2) f2.b) ?_
      try dsimp only [List.set_cons_zero, List.set_cons_succ]
      refine TL.end_ ?_
      refine TX.held (fun _ _ => trivial) ?_
      refine TH.take (listed' := #[true, true, true, true, true, true, true, true, true, true, true, true, true, true, true, true, true, true, false, false]) 17 rfl (by kernel_rfl) (by kernel_rfl) (by kernel_rfl) rfl rfl rfl rfl (gives_at (v := .pointer (some ⟨go, 0 + j * 3, none⟩)) rfl rfl rfl (fun w => at_el Try.underlying26 ubksz42 rfl _ _ j (by omega) rfl w)) (fun _ _ => trivial) ?_
      refine TH.take (listed' := #[true, true, true, true, true, true, true, true, true, true, true, true, true, true, true, true, true, true, true, false]) 18 rfl (by kernel_rfl) (by kernel_rfl) (by kernel_rfl) rfl rfl rfl rfl (gives_field (v := .pointer (some ⟨go, 0 + j * 3 + 2, none⟩)) rfl rfl (fun w => ubkfld42_2 _ _ w)) (fun _ _ => trivial) ?_
      refine TH.only' (listed' := #[true, true, true, true, true, true, true, true, true, true, true, true, true, true, true, true, true, true, true, true]) 19 rfl (by kernel_rfl) rfl ?_
      refine TL.rowset (k := 0) (vs := [.int .u32 f1.b]) (xs' := fcs (mixB m i j f1 f2)) rfl rfl rfl rfl rfl rfl rfl ubksz35 (fun u hu => by cases List.mem_singleton.1 hu; rfl) (by rw [fcs_len, List.length_set, mixA_len]; show 0 + j * 3 + 2 + 1 ≤ _; omega) (by rw [← mixB_eq hf1 hf2]; exact fcs_setb (mixB1 hf1 hf2) f1.b) ?_
      try dsimp only [List.set_cons_zero, List.set_cons_succ]
      refine TL.end_ ?_
      refine TX.held (fun _ _ => trivial) ?_
      refine TH.done (by kernel_rfl) ?_
      refine TX.in_normal (TX.then_ (TC.region ?_))
      refine TL.val rfl rfl rfl (gives_bin rfl rfl rfl (fun w => bin_add_ (r := ((i + 1 : Nat) : Int)) (by simp only [IntKind.wrap_i64]; omega) w)) ?_
      refine TL.val rfl rfl rfl (gives_move rfl rfl) ?_
      refine TL.end_ ?_
      exact TX.round (⟨(i + 1, some ⟨go, 0, none⟩, mixB m i j f1 f2), by dsimp only; omega, hmix.step hf1 hf2⟩) (by show x.length - (i + 1) < x.length - i; omega) ⟨rfl, rfl, rfl, rfl, rfl, trivial⟩ (fun w1 hw => hw)
     ·refine TL.val rfl rfl rfl (gives_load (v := .int .u32 f1.b) rfl rfl ubkag35 (fun w1 hw => fc_row hw (k := 0) (i := i) rfl (mixA_i hf1 hf2) 2 _ rfl)) ?_
      refine TL.end_ ?_
      refine TX.held (fun _ _ => trivial) ?_
      refine TH.only' (listed' := #[true, true, true, true, true, true, true, true, true, true, true, true, true, true, false, false, false, false, false, false]) 8 rfl (by kernel_rfl) rfl ?_
      refine TL.val rfl rfl rfl (gives_load (v := .int .u32 f2.b) rfl rfl ubkag35 (fun w1 hw => fc_row hw (k := 0) (i := j) rfl (mixA_j hf1 hf2) 2 _ rfl)) ?_
      refine TL.end_ ?_
      refine TX.held (fun _ _ => trivial) ?_
      refine TH.take (listed' := #[true, true, true, true, true, true, true, true, true, true, true, true, true, true, true, false, false, false, false, false]) 14 rfl (by kernel_rfl) (by kernel_rfl) (by kernel_rfl) rfl rfl rfl rfl (gives_at (v := .pointer (some ⟨go, 0 + i * 3, none⟩)) rfl rfl rfl (fun w => at_el Try.underlying26 ubksz42 rfl _ _ i (by omega) rfl w)) (fun _ _ => trivial) ?_
      refine TH.take (listed' := #[true, true, true, true, true, true, true, true, true, true, true, true, true, true, true, true, false, false, false, false]) 15 rfl (by kernel_rfl) (by kernel_rfl) (by kernel_rfl) rfl rfl rfl rfl (gives_field (v := .pointer (some ⟨go, 0 + i * 3 + 2, none⟩)) rfl rfl (fun w => ubkfld42_2 _ _ w)) (fun _ _ => trivial) ?_
      refine TH.only' (listed' := #[true, true, true, true, true, true, true, true, true, true, true, true, true, true, true, true, true, false, false, false]) 16 rfl (by kernel_rfl) rfl ?_
      refine TL.rowset (k := 0) (vs := [.int .u32 f2.b]) (xs' := fcs ((mixA m i j f1 f2).set i ⟨f1.id, f2.a, f2.b⟩)) rfl rfl rfl rfl rfl rfl rfl ubksz35 (fun u hu => by cases List.mem_singleton.1 hu; rfl) (by rw [fcs_len, mixA_len]; show 0 + i * 3 + 2 + 1 ≤ _; omega) (fcs_setb (mixA_i hf1 hf2) f2.b) ?_
      try dsimp only [List.set_cons_zero, List.set_cons_succ]
      refine TL.end_ ?_
      refine TX.held (fun _ _ => trivial) ?_
      refine TH.take (listed' := #[true, true, true, true, true, true, true, true, true, true, true, true, true, true, true, true, true, true, false, false]) 17 rfl (by kernel_rfl) (by kernel_rfl) (by kernel_rfl) rfl rfl rfl rfl (gives_at (v := .pointer (some ⟨go, 0 + j * 3, none⟩)) rfl rfl rfl (fun w => at_el Try.underlying26 ubksz42 rfl _ _ j (by omega) rfl w)) (fun _ _ => trivial) ?_
      refine TH.take (listed' := #[true, true, true, true, true, true, true, true, true, true, true, true, true, true, true, true, true, true, true, false]) 18 rfl (by kernel_rfl) (by kernel_rfl) (by kernel_rfl) rfl rfl rfl rfl (gives_field (v := .pointer (some ⟨go, 0 + j * 3 + 2, none⟩)) rfl rfl (fun w => ubkfld42_2 _ _ w)) (fun _ _ => trivial) ?_
      refine TH.only' (listed' := #[true, true, true, true, true, true, true, true, true, true, true, true, true, true, true, true, true, true, true, true]) 19 rfl (by kernel_rfl) rfl ?_
      refine TL.rowset (k := 0) (vs := [.int .u32 f1.b]) (xs' := fcs (mixB m i j f1 f2)) rfl rfl rfl rfl rfl rfl rfl ubksz35 (fun u hu => by cases List.mem_singleton.1 hu; rfl) (by rw [fcs_len, List.length_set, mixA_len]; show 0 + j * 3 + 2 + 1 ≤ _; omega) (by rw [← mixB_eq hf1 hf2]; exact fcs_setb (mixB1 hf1 hf2) f1.b) ?_
      try dsimp only [List.set_cons_zero, List.set_cons_succ]
      refine TL.end_ ?_
      refine TX.held (fun _ _ => trivial) ?_
      refine TH.done (by kernel_rfl) ?_
      refine TX.in_normal (TX.then_ (TC.region ?_))
      refine TL.val rfl rfl rfl (gives_bin rfl rfl rfl (fun w => bin_add_ (r := ((i + 1 : Nat) : Int)) (by simp only [IntKind.wrap_i64]; omega) w)) ?_
      refine TL.val rfl rfl rfl (gives_move rfl rfl) ?_
      refine TL.end_ ?_
      exact TX.round (⟨(i + 1, some ⟨go, 0, none⟩, mixB m i j f1 f2), by dsimp only; omega, hmix.step hf1 hf2⟩) (by show x.length - (i + 1) < x.length - i; omega) ⟨rfl, rfl, rfl, rfl, rfl, trivial⟩ (fun w1 hw => hw)
   ·have q109 := of_decide_eq_false h109
    refine TL.end_ (TX.then_ (TC.seq_ (TC.condF rfl (TC.exit_ (TX.then_exit (TX.then_exit (TX.in_same (TX.then_ (TC.seq_ ?_)))))))))
    have hokm := hmix.ok hok
    refine TC.region ?_
    refine TL.val rfl rfl rfl (gives_move rfl rfl) ?_
    refine TL.pcallPm (α := {y : (Option Addr × Nat) × List (Sg Int) // y.2.map (·.l) = clsV x ∧ y.2.length ≤ y.1.2 ∧ y.1.2 ≤ maxLen}) (fun y => .slice y.1.1.1 y.1.2.length y.1.1.2) (fun y => [.row (.slice y.1.1.1 y.1.2.length y.1.1.2) 31 1 y.1.2.length (y.1.2.map Sg.val)] ++ segG 35 1 uv y.1.2) rfl rfl rfl rfl rfl Try.func11 ubknm11 ubkbd11 (fun w1 hw => clss_any AX x.length cx x w1 (by obtain ⟨B9, h8⟩ := pm_reads hw (k := 1) rfl; exact reads_up h8 (pm_row_lt hw (k := 1) rfl)) rfl hok) ?_ (fun y => segG_noAbs (e := 35) (size := 1) (enc := uv) y.1.2)
    rintro ⟨⟨⟨AC1, cC1⟩, ss1⟩, hcs1, hcc1, hcd1⟩
    dsimp only at hcs1 hcc1 hcd1 ⊢
    refine TL.mem (I' := Pm wn ([.row (.slice AC1 ss1.length cC1) 31 1 ss1.length (ss1.map Sg.val), .row (.slice Ao x.length c105) 42 3 x.length (fcs m), .row (.slice AX x.length cx) 42 3 x.length (fcs x), .abs wn.heap.size (fun w => Cod w wn.heap.size)] ++ segG 35 1 uv ss1)) (fun w1 hw => hw.permute (segperm0 _ _ _)) ?_
    obtain ⟨hl1, hmss1⟩ := clsV_small hV (by omega) hcs1
    refine TL.val rfl rfl rfl (gives_move rfl rfl) ?_
    refine TL.pcallPm (α := {y : (Option Addr × Nat) × List (Sg Int) // y.2.map (·.l) = clsV m ∧ y.2.length ≤ y.1.2 ∧ y.1.2 ≤ maxLen}) (fun y => .slice y.1.1.1 y.1.2.length y.1.1.2) (fun y => [.row (.slice y.1.1.1 y.1.2.length y.1.1.2) 31 1 y.1.2.length (y.1.2.map Sg.val)] ++ segG 35 1 uv y.1.2) rfl rfl rfl rfl rfl Try.func11 ubknm11 ubkbd11 (fun w1 hw => clss_any Ao x.length c105 m w1 (by obtain ⟨B9, h8⟩ := pm_reads hw (k := 1) rfl; exact reads_up h8 (pm_row_lt hw (k := 1) rfl)) hmix.1 hokm) ?_ (fun y => segG_noAbs (e := 35) (size := 1) (enc := uv) y.1.2)
    rintro ⟨⟨⟨AC2, cC2⟩, ss2⟩, hcs2, hcc2, hcd2⟩
    dsimp only at hcs2 hcc2 hcd2 ⊢
    refine TL.mem (I' := Pm wn ([.row (.slice AC2 ss2.length cC2) 31 1 ss2.length (ss2.map Sg.val), .row (.slice AC1 ss1.length cC1) 31 1 ss1.length (ss1.map Sg.val), .row (.slice Ao x.length c105) 42 3 x.length (fcs m), .row (.slice AX x.length cx) 42 3 x.length (fcs x), .abs wn.heap.size (fun w => Cod w wn.heap.size)] ++ (segG 35 1 uv ss2 ++ segG 35 1 uv ss1))) (fun w1 hw => hw.permute (segperm _ _ _ _)) ?_
    obtain ⟨hl2, hmss2⟩ := clsV_small (hmix.valid hV) (by rw [hmix.1]; omega) hcs2
    have hE : ss1.map (·.l) = ss2.map (·.l) := by rw [hcs1, hcs2]; exact hmix.classes hV
    refine TL.pcall1 (r := .bool true) rfl rfl rfl rfl rfl Try.func13 ubknm13 ubkbd13 (fun w1 hw => sc_is AC1 AC2 ss1.length ss2.length cC1 cC2 ss1 ss2 w1 (Rd2.of (e2 := 35) hw (k := 1) rfl (fun s hs => List.mem_append_right _ (List.mem_append_right _ (List.mem_map.2 ⟨s, hs, rfl⟩))) hmss1) (Rd2.of (e2 := 35) hw (k := 0) rfl (fun s hs => List.mem_append_right _ (List.mem_append_left _ (List.mem_map.2 ⟨s, hs, rfl⟩))) hmss2) rfl rfl (by omega) (by omega) (decide_eq_true hE)) ?_
    refine TL.val rfl rfl rfl (gives_assign rfl rfl) ?_
    refine TL.end_ (TX.then_ (TC.ret_ ?_))
    exact ret_tmp Try.results7 rfl (fun w1 hw => ⟨rfl, hwb.trans (hw.bel.mono hwb.size)⟩)
end Go.Proofs.Ytleckflmckbheaa
