/-
  Texts of the proof, joined: JrDraw, JrRes, JrBookLaw, JrRd, JrLk, DgBlockLaw, DgRSum, DgRBlock, DgRAll, DgNames, DgMac.
-/
import Derived.Test.YtmeaeeehnkcblaaDoorPr3
import Derived.Test.YtmeaeeehnkcblaaDoorPr1
import Derived.Test.YtmeaeeehnkcblaaDoorPr2
set_option linter.unusedVariables false
set_option linter.unusedSimpArgs false
namespace Go.Proofs.YtmeaeeehnkcblaaDoor
open Go.RowKit
set_option maxRecDepth 20000
def tabV (l : List Int) : List Value := l.map (Value.int .i64)
def tab14 : List Int := [9223372036854775807, -9223372036854775808, 1125899906842624, 1125899906842625, 65535, 65536, 255, 256, 1023, 1024, 65534, 65535, 4294967296, 4611686018427387905]
def tab3 : List Int := [17, 1, 6]
theorem tab_at (l : List Int) (x : Nat) (h : x < l.length) : ∃ v, (tabV l)[0 + x * 1]? = some (.int .i64 v) := ⟨l[x], by rw [Nat.zero_add, Nat.mul_one]; simp [tabV, h]⟩
theorem jdrnm21 : (Tryd.f21.name == "runtime.NumGoroutine") = false := by decide
theorem jdrbd21 : Tryd.f21.body.isNone = false := rfl
theorem jdrbs76_14_77721 (a0_0 : Int) (a1_0 : Int) (a2_0 : Int) (a3_0 : Int) (a4_0 : Int) (a5_0 : Int) (a6_0 : Int) (a7_0 : Int) (a8_0 : Int) (a9_0 : Int) (a10_0 : Int) (a11_0 : Int) (a12_0 : Int) (a13_0 : Int) (w : World) : (Instr.buildSlice 76 14 #[(0, .int .i64 a0_0), (1, .int .i64 a1_0), (2, .int .i64 a2_0), (3, .int .i64 a3_0), (4, .int .i64 a4_0), (5, .int .i64 a5_0), (6, .int .i64 a6_0), (7, .int .i64 a7_0), (8, .int .i64 a8_0), (9, .int .i64 a9_0), (10, .int .i64 a10_0), (11, .int .i64 a11_0), (12, .int .i64 a12_0), (13, .int .i64 a13_0)]).run Tryd.prog w = .ok (.slice (some ⟨w.heap.size, 0, none⟩) 14 14) (w.alloc (.cells [.int .i64 a0_0, .int .i64 a1_0, .int .i64 a2_0, .int .i64 a3_0, .int .i64 a4_0, .int .i64 a5_0, .int .i64 a6_0, .int .i64 a7_0, .int .i64 a8_0, .int .i64 a9_0, .int .i64 a10_0, .int .i64 a11_0, .int .i64 a12_0, .int .i64 a13_0].toArray 3)) := by kernel_rfl
theorem jdrbs76_3_44640 (a0_0 : Int) (a1_0 : Int) (a2_0 : Int) (w : World) : (Instr.buildSlice 76 3 #[(0, .int .i64 a0_0), (1, .int .i64 a1_0), (2, .int .i64 a2_0)]).run Tryd.prog w = .ok (.slice (some ⟨w.heap.size, 0, none⟩) 3 3) (w.alloc (.cells [.int .i64 a0_0, .int .i64 a1_0, .int .i64 a2_0].toArray 3)) := by kernel_rfl
theorem jdrzv27 (w : World) : (zeroValue 27).run Tryd.prog w = .ok (.agg #[.int .i64 0, .int .i64 0, .int .i64 0, .int .i64 0, .int .u32 0, .int .i64 0, .int .i64 0, .int .i64 0, .bool false, .bool false, .int .i64 0, .int .u32 0, .int .i64 0, .int .i64 0, .int .i64 0, .int .i64 0, .int .i64 0]) w := rfl
theorem jdrnm40 : (Tryd.f40.name == "runtime.NumGoroutine") = false := by decide
theorem jdrbd40 : Tryd.f40.body.isNone = false := rfl
theorem jdrnm41 : (Tryd.f41.name == "runtime.NumGoroutine") = false := by decide
theorem jdrbd41 : Tryd.f41.body.isNone = false := rfl
theorem jdrbld27_74771 (a0_0 : Int) (a1_0 : Int) (a2_0 : Int) (a3_0 : Int) (a4_0 : Int) (a5_0 : Int) (a6_0 : Int) (a7_0 : Int) (w : World) : (Instr.build 27 #[(0, .int .i64 a0_0), (1, .int .i64 a1_0), (2, .int .i64 a2_0), (3, .int .i64 a3_0), (4, .int .u32 a4_0), (5, .int .i64 a5_0), (6, .int .i64 a6_0), (7, .int .i64 a7_0)]).run Tryd.prog w = .ok (.agg #[.int .i64 a0_0, .int .i64 a1_0, .int .i64 a2_0, .int .i64 a3_0, .int .u32 a4_0, .int .i64 a5_0, .int .i64 a6_0, .int .i64 a7_0, .bool false, .bool false, .int .i64 0, .int .u32 0, .int .i64 0, .int .i64 0, .int .i64 0, .int .i64 0, .int .i64 0]) w := by kernel_rfl
theorem jdrsz27 (w : World) : (sizeOf 27).run Tryd.prog w = .ok 17 w := rfl
theorem jdrone_i64i64i64i64u32i64i64i64bbi64u32i64i64i64i64i64 {a0 : Int} {a1 : Int} {a2 : Int} {a3 : Int} {a4 : Int} {a5 : Int} {a6 : Int} {a7 : Int} {a8 : Bool} {a9 : Bool} {a10 : Int} {a11 : Int} {a12 : Int} {a13 : Int} {a14 : Int} {a15 : Int} {a16 : Int} : ∀ u ∈ [(.int .i64 a0 : Value), .int .i64 a1, .int .i64 a2, .int .i64 a3, .int .u32 a4, .int .i64 a5, .int .i64 a6, .int .i64 a7, .bool a8, .bool a9, .int .i64 a10, .int .u32 a11, .int .i64 a12, .int .i64 a13, .int .i64 a14, .int .i64 a15, .int .i64 a16], u.oneCell' = true := by
 intro u hu
 simp only [List.mem_cons, List.not_mem_nil, or_false] at hu
 rcases hu with rfl | rfl | rfl | rfl | rfl | rfl | rfl | rfl | rfl | rfl | rfl | rfl | rfl | rfl | rfl | rfl | rfl <;> rfl
theorem jdrag3 (w : World) : (isAgg 3).run Tryd.prog w = .ok false w := rfl
theorem jdrfld27_3 (g o : Nat) (w : World) : (Instr.fieldAt 27 (.pointer (some ⟨g, o, none⟩)) 3).run Tryd.prog w = .ok (.pointer (some ⟨g, o + 3, none⟩)) w := by kernel_rfl
theorem jdrfld27_10 (g o : Nat) (w : World) : (Instr.fieldAt 27 (.pointer (some ⟨g, o, none⟩)) 10).run Tryd.prog w = .ok (.pointer (some ⟨g, o + 10, none⟩)) w := by kernel_rfl
theorem jdrsz3 (w : World) : (sizeOf 3).run Tryd.prog w = .ok 1 w := rfl
theorem jdrone_i64 {a0 : Int} : ∀ u ∈ [(.int .i64 a0 : Value)], u.oneCell' = true := by
 intro u hu
 rw [List.mem_singleton] at hu
 subst hu; rfl
theorem jdrfld27_8 (g o : Nat) (w : World) : (Instr.fieldAt 27 (.pointer (some ⟨g, o, none⟩)) 8).run Tryd.prog w = .ok (.pointer (some ⟨g, o + 8, none⟩)) w := by kernel_rfl
theorem jdrsz4 (w : World) : (sizeOf 4).run Tryd.prog w = .ok 1 w := rfl
theorem jdrone_b {a0 : Bool} : ∀ u ∈ [(.bool a0 : Value)], u.oneCell' = true := by
 intro u hu
 rw [List.mem_singleton] at hu
 subst hu; rfl
theorem jdrfld27_9 (g o : Nat) (w : World) : (Instr.fieldAt 27 (.pointer (some ⟨g, o, none⟩)) 9).run Tryd.prog w = .ok (.pointer (some ⟨g, o + 9, none⟩)) w := by kernel_rfl
theorem jdrbld25_14255 (a0_0 : Int) (a1_0 : Int) (a2_0 : Int) (a3_0 : Int) (a4_0 : Int) (a5_0 : Int) (w : World) : (Instr.build 25 #[(0, .int .u32 a0_0), (1, .int .i64 a1_0), (2, .int .i64 a2_0), (3, .int .i64 a3_0), (4, .int .i64 a4_0), (5, .int .i64 a5_0)]).run Tryd.prog w = .ok (.agg #[.int .u32 a0_0, .int .i64 a1_0, .int .i64 a2_0, .int .i64 a3_0, .int .i64 a4_0, .int .i64 a5_0]) w := by kernel_rfl
theorem jdrfld27_11 (g o : Nat) (w : World) : (Instr.fieldAt 27 (.pointer (some ⟨g, o, none⟩)) 11).run Tryd.prog w = .ok (.pointer (some ⟨g, o + 11, none⟩)) w := by kernel_rfl
theorem jdrsz25 (w : World) : (sizeOf 25).run Tryd.prog w = .ok 6 w := rfl
theorem jdrone_u32i64i64i64i64i64 {a0 : Int} {a1 : Int} {a2 : Int} {a3 : Int} {a4 : Int} {a5 : Int} : ∀ u ∈ [(.int .u32 a0 : Value), .int .i64 a1, .int .i64 a2, .int .i64 a3, .int .i64 a4, .int .i64 a5], u.oneCell' = true := by
 intro u hu
 simp only [List.mem_cons, List.not_mem_nil, or_false] at hu
 rcases hu with rfl | rfl | rfl | rfl | rfl | rfl <;> rfl
theorem jdrnm42 : (Tryd.f42.name == "runtime.NumGoroutine") = false := by decide
theorem jdrbd42 : Tryd.f42.body.isNone = false := rfl
theorem jdrag27 (w : World) : (isAgg 27).run Tryd.prog w = .ok true w := rfl
theorem jdrfld27_6 (g o : Nat) (w : World) : (Instr.fieldAt 27 (.pointer (some ⟨g, o, none⟩)) 6).run Tryd.prog w = .ok (.pointer (some ⟨g, o + 6, none⟩)) w := by kernel_rfl
theorem jdrfld27_7 (g o : Nat) (w : World) : (Instr.fieldAt 27 (.pointer (some ⟨g, o, none⟩)) 7).run Tryd.prog w = .ok (.pointer (some ⟨g, o + 7, none⟩)) w := by kernel_rfl
theorem jdrfld27_5 (g o : Nat) (w : World) : (Instr.fieldAt 27 (.pointer (some ⟨g, o, none⟩)) 5).run Tryd.prog w = .ok (.pointer (some ⟨g, o + 5, none⟩)) w := by kernel_rfl
theorem jdrfld25_1 (g o : Nat) (w : World) : (Instr.fieldAt 25 (.pointer (some ⟨g, o, none⟩)) 1).run Tryd.prog w = .ok (.pointer (some ⟨g, o + 1, none⟩)) w := by kernel_rfl
theorem jdrfld25_4 (g o : Nat) (w : World) : (Instr.fieldAt 25 (.pointer (some ⟨g, o, none⟩)) 4).run Tryd.prog w = .ok (.pointer (some ⟨g, o + 4, none⟩)) w := by kernel_rfl
theorem jdrfld27_0 (g o : Nat) (w : World) : (Instr.fieldAt 27 (.pointer (some ⟨g, o, none⟩)) 0).run Tryd.prog w = .ok (.pointer (some ⟨g, o + 0, none⟩)) w := by kernel_rfl
theorem jdrfld27_1 (g o : Nat) (w : World) : (Instr.fieldAt 27 (.pointer (some ⟨g, o, none⟩)) 1).run Tryd.prog w = .ok (.pointer (some ⟨g, o + 1, none⟩)) w := by kernel_rfl
theorem jdrfld27_2 (g o : Nat) (w : World) : (Instr.fieldAt 27 (.pointer (some ⟨g, o, none⟩)) 2).run Tryd.prog w = .ok (.pointer (some ⟨g, o + 2, none⟩)) w := by kernel_rfl
theorem int_cod (cb : Nat) (w : World) (hC : Cod w cb) :
  Calls Tryd.prog 42 #[.pointer (some ⟨cb, 0, none⟩)] w fun e w' => ∃ x : Int, e = .returned (.int .i64 x) ∧ Codr (fun w => Cod w cb) cb w [] w' := by
 refine begin_ (vs := [.pointer (some ⟨cb, 0, none⟩)]) (I := Pm ⟨w, cb⟩ (.abs cb (fun w => Cod w cb) :: oths cb w)) Tryd.func42 rfl rfl rfl ?_ (Pm.codes hC (cod_cells hC) (cod_stab cb))
 refine TC.seq_ (TC.region ?_)
 refine TL.as_ ?_
 refine TL.end_ (TX.then_ (TC.seq_ (TC.seq_ (TC.region ?_))))
 refine TL.mv ?_
 refine TL.pcallCod (k := 0) (α := {x : Nat // x ≤ 65535 ∧ (1 ≤ (10 : Int) → (x : Int) < 10)}) (fun y => .int .i64 (y.1 : Int)) (fun y => []) rfl rfl rfl rfl rfl Tryd.func21 jdrnm21 jdrbd21 rfl (fun w1 hw hC1 => next_cod cb w1 10 hC1) ?_
 rintro ⟨x4, hx41, hx42⟩
 dsimp only [List.cons_append, List.nil_append] at hx41 hx42 ⊢
 replace hx42 := hx42 (by omega)
 refine TL.end_ (TX.then_ (TC.block (TC.seq_ (TC.region ?_))))
 refine TL.vsplit rfl rfl rfl (gives_bin rfl rfl rfl (fun w => bin_eql w)) (fun h6 => ?_) (fun h6 => ?_)
 ·have q6 := of_decide_eq_true h6
  refine TL.as_ ?_
  refine TL.end_ (TX.then_ (TC.condT rfl (TC.seq_ (TC.region ?_))))
  refine TL.mv ?_
  refine TL.pcallCod (k := 0) (α := {x : Nat // x ≤ 65535 ∧ (1 ≤ (3 : Int) → (x : Int) < 3)}) (fun y => .int .i64 (y.1 : Int)) (fun y => []) rfl rfl rfl rfl rfl Tryd.func21 jdrnm21 jdrbd21 rfl (fun w1 hw hC1 => next_cod cb w1 3 hC1) ?_
  rintro ⟨x8, hx81, hx82⟩
  dsimp only [List.cons_append, List.nil_append] at hx81 hx82 ⊢
  replace hx82 := hx82 (by omega)
  refine TL.val rfl rfl rfl (gives_bin rfl rfl rfl (fun w => bin_sub_ (r := (-1) - ((x8 : Nat) : Int)) (by simp only [IntKind.wrap_i64]; omega) w)) ?_
  refine TL.as_ ?_
  refine TL.end_ (TX.then_ (TC.ret_ (TX.in_ret (TX.then_ret ?_))))
  exact ret_tmp Tryd.results42 rfl (fun w1 hw => ⟨(-1) - ((x8 : Nat) : Int), rfl, Pm.codr [] (hw) rfl⟩)
 ·have q6 := of_decide_eq_false h6
  refine TL.as_ ?_
  refine TL.end_ (TX.then_ (TC.condF rfl (TC.seq_ (TC.region ?_))))
  refine TL.vsplit rfl rfl rfl (gives_bin rfl rfl rfl (fun w => bin_eql w)) (fun h11 => ?_) (fun h11 => ?_)
  ·have q11 := of_decide_eq_true h11
   refine TL.as_ ?_
   refine TL.end_ (TX.then_ (TC.condT rfl (TC.seq_ (TC.region ?_))))
   refine TL.prowS (e := 3) (size := 1) (cs := tabV tab14) rfl rfl rfl rfl rfl (fun w => jdrbs76_14_77721 _ _ _ _ _ _ _ _ _ _ _ _ _ _ w) (by decide) rfl (fun g12 => ?_)
   refine TL.mv ?_
   refine TL.pcallCod (k := 1) (α := {x : Nat // x ≤ 65535 ∧ (1 ≤ (14 : Int) → (x : Int) < 14)}) (fun y => .int .i64 (y.1 : Int)) (fun y => []) rfl rfl rfl rfl rfl Tryd.func21 jdrnm21 jdrbd21 rfl (fun w1 hw hC1 => next_cod cb w1 14 hC1) ?_
   rintro ⟨x14, hx141, hx142⟩
   dsimp only [List.cons_append, List.nil_append] at hx141 hx142 ⊢
   replace hx142 := hx142 (by omega)
   refine TL.val rfl rfl rfl (gives_at (v := .pointer (some ⟨g12, 0 + x14 * 1, none⟩)) rfl rfl rfl (fun w => at_el Tryd.underlying76 (fun w => rfl) rfl 14 14 x14 (by omega) rfl w)) ?_
   obtain ⟨t16, ht16⟩ := tab_at tab14 x14 (show x14 < tab14.length by simpa [tab14] using (by omega : x14 < 14))
   refine TL.val rfl rfl rfl (pm_loadRow (k := 0) (v := .int .i64 t16) rfl rfl (fun w => rfl) rfl ht16) ?_
   refine TL.as_ ?_
   refine TL.end_ (TX.then_ (TC.ret_ (TX.in_ret (TX.then_ret ?_))))
   exact ret_tmp Tryd.results42 rfl (fun w1 hw => ⟨t16, rfl, Pm.codr [] (hw.sel (.cons _ (.cons_cons _ (List.Sublist.refl _)))) rfl⟩)
  ·have q11 := of_decide_eq_false h11
   refine TL.as_ ?_
   refine TL.end_ (TX.then_ (TC.condF rfl (TC.seq_ (TC.region ?_))))
   refine TL.vsplit rfl rfl rfl (gives_bin rfl rfl rfl (fun w => bin_eql w)) (fun h18 => ?_) (fun h18 => ?_)
   ·have q18 := of_decide_eq_true h18
    refine TL.as_ ?_
    refine TL.end_ (TX.then_ (TC.condT rfl (TC.seq_ (TC.region ?_))))
    refine TL.mv ?_
    refine TL.pcallCod (k := 0) (α := {x : Nat // x ≤ 65535 ∧ (1 ≤ (256 : Int) → (x : Int) < 256)}) (fun y => .int .i64 (y.1 : Int)) (fun y => []) rfl rfl rfl rfl rfl Tryd.func21 jdrnm21 jdrbd21 rfl (fun w1 hw hC1 => next_cod cb w1 256 hC1) ?_
    rintro ⟨x20, hx201, hx202⟩
    dsimp only [List.cons_append, List.nil_append] at hx201 hx202 ⊢
    replace hx202 := hx202 (by omega)
    refine TL.val rfl rfl rfl (gives_bin rfl rfl rfl (fun w => bin_mul_ (r := 256 * ((x20 : Nat) : Int)) (by simp only [IntKind.wrap_i64]; omega) w)) ?_
    refine TL.mv ?_
    refine TL.pcallCod (k := 0) (α := {x : Nat // x ≤ 65535 ∧ (1 ≤ (256 : Int) → (x : Int) < 256)}) (fun y => .int .i64 (y.1 : Int)) (fun y => []) rfl rfl rfl rfl rfl Tryd.func21 jdrnm21 jdrbd21 rfl (fun w1 hw hC1 => next_cod cb w1 256 hC1) ?_
    rintro ⟨x23, hx231, hx232⟩
    dsimp only [List.cons_append, List.nil_append] at hx231 hx232 ⊢
    replace hx232 := hx232 (by omega)
    refine TL.val rfl rfl rfl (gives_bin rfl rfl rfl (fun w => bin_add_ (r := (256 * ((x20 : Nat) : Int)) + ((x23 : Nat) : Int)) (by simp only [IntKind.wrap_i64]; omega) w)) ?_
    refine TL.as_ ?_
    refine TL.end_ (TX.then_ (TC.ret_ (TX.in_ret (TX.then_ret ?_))))
    exact ret_tmp Tryd.results42 rfl (fun w1 hw => ⟨(256 * ((x20 : Nat) : Int)) + ((x23 : Nat) : Int), rfl, Pm.codr [] (hw) rfl⟩)
   ·have q18 := of_decide_eq_false h18
    refine TL.as_ ?_
    refine TL.end_ (TX.then_ (TC.condF rfl (TC.skip_ (TX.in_normal (TX.then_ (TC.seq_ (TC.region ?_)))))))
    refine TL.mv ?_
    refine TL.pcallCod (k := 0) (α := {x : Nat // x ≤ 65535 ∧ (1 ≤ (40 : Int) → (x : Int) < 40)}) (fun y => .int .i64 (y.1 : Int)) (fun y => []) rfl rfl rfl rfl rfl Tryd.func21 jdrnm21 jdrbd21 rfl (fun w1 hw hC1 => next_cod cb w1 40 hC1) ?_
    rintro ⟨x26, hx261, hx262⟩
    dsimp only [List.cons_append, List.nil_append] at hx261 hx262 ⊢
    replace hx262 := hx262 (by omega)
    refine TL.as_ ?_
    refine TL.end_ (TX.then_ (TC.ret_ ?_))
    exact ret_tmp Tryd.results42 rfl (fun w1 hw => ⟨((x26 : Nat) : Int), rfl, Pm.codr [] (hw) rfl⟩)
theorem proto_cod (cb : Nat) (w : World) (hC : Cod w cb) :
  Calls Tryd.prog 41 #[.pointer (some ⟨cb, 0, none⟩)] w fun e w' => ∃ x : Int, e = .returned (.int .i64 x) ∧ Codr (fun w => Cod w cb) cb w [] w' := by
 refine begin_ (vs := [.pointer (some ⟨cb, 0, none⟩)]) (I := Pm ⟨w, cb⟩ (.abs cb (fun w => Cod w cb) :: oths cb w)) Tryd.func41 rfl rfl rfl ?_ (Pm.codes hC (cod_cells hC) (cod_stab cb))
 refine TC.seq_ (TC.region ?_)
 refine TL.as_ ?_
 refine TL.end_ (TX.then_ (TC.seq_ (TC.region ?_)))
 refine TL.prowS (e := 3) (size := 1) (cs := tabV tab3) rfl rfl rfl rfl rfl (fun w => jdrbs76_3_44640 _ _ _ w) (by decide) rfl (fun g3 => ?_)
 refine TL.mv ?_
 refine TL.pcallCod (k := 1) (α := {x : Nat // x ≤ 65535 ∧ (1 ≤ (3 : Int) → (x : Int) < 3)}) (fun y => .int .i64 (y.1 : Int)) (fun y => []) rfl rfl rfl rfl rfl Tryd.func21 jdrnm21 jdrbd21 rfl (fun w1 hw hC1 => next_cod cb w1 3 hC1) ?_
 rintro ⟨x5, hx51, hx52⟩
 dsimp only [List.cons_append, List.nil_append] at hx51 hx52 ⊢
 replace hx52 := hx52 (by omega)
 refine TL.val rfl rfl rfl (gives_at (v := .pointer (some ⟨g3, 0 + x5 * 1, none⟩)) rfl rfl rfl (fun w => at_el Tryd.underlying76 (fun w => rfl) rfl 3 3 x5 (by omega) rfl w)) ?_
 obtain ⟨t7, ht7⟩ := tab_at tab3 x5 (show x5 < tab3.length by simpa [tab3] using (by omega : x5 < 3))
 refine TL.val rfl rfl rfl (pm_loadRow (k := 0) (v := .int .i64 t7) rfl rfl (fun w => rfl) rfl ht7) ?_
 refine TL.as_ ?_
 refine TL.end_ (TX.then_ (TC.ret_ ?_))
 exact ret_tmp Tryd.results41 rfl (fun w1 hw => ⟨t7, rfl, Pm.codr [] (hw.sel (.cons _ (.cons_cons _ (List.Sublist.refl _)))) rfl⟩)
theorem addr_cod (cb : Nat) (w : World) (hC : Cod w cb) :
  Calls Tryd.prog 40 #[.pointer (some ⟨cb, 0, none⟩)] w fun e w' => ∃ x : {x : Int // 0 ≤ x ∧ x ≤ 4294967295}, e = .returned (.int .u32 x.1) ∧ Codr (fun w => Cod w cb) cb w [] w' := by
 refine begin_ (vs := [.pointer (some ⟨cb, 0, none⟩)]) (I := Pm ⟨w, cb⟩ (.abs cb (fun w => Cod w cb) :: oths cb w)) Tryd.func40 rfl rfl rfl ?_ (Pm.codes hC (cod_cells hC) (cod_stab cb))
 refine TC.seq_ (TC.region ?_)
 refine TL.as_ ?_
 refine TL.end_ (TX.then_ (TC.seq_ (TC.seq_ (TC.region ?_))))
 refine TL.mv ?_
 refine TL.pcallCod (k := 0) (α := {x : Nat // x ≤ 65535 ∧ (1 ≤ (12 : Int) → (x : Int) < 12)}) (fun y => .int .i64 (y.1 : Int)) (fun y => []) rfl rfl rfl rfl rfl Tryd.func21 jdrnm21 jdrbd21 rfl (fun w1 hw hC1 => next_cod cb w1 12 hC1) ?_
 rintro ⟨x4, hx41, hx42⟩
 dsimp only [List.cons_append, List.nil_append] at hx41 hx42 ⊢
 replace hx42 := hx42 (by omega)
 refine TL.vsplit rfl rfl rfl (gives_bin rfl rfl rfl (fun w => bin_eql w)) (fun h5 => ?_) (fun h5 => ?_)
 ·have q5 := of_decide_eq_true h5
  refine TL.end_ (TX.then_ (TC.condT rfl (TC.seq_ (TC.region ?_))))
  refine TL.mv ?_
  refine TL.pcallCod (k := 0) (α := {x : Nat // x ≤ 65535 ∧ (1 ≤ (65536 : Int) → (x : Int) < 65536)}) (fun y => .int .i64 (y.1 : Int)) (fun y => []) rfl rfl rfl rfl rfl Tryd.func21 jdrnm21 jdrbd21 rfl (fun w1 hw hC1 => next_cod cb w1 65536 hC1) ?_
  rintro ⟨x7, hx71, hx72⟩
  dsimp only [List.cons_append, List.nil_append] at hx71 hx72 ⊢
  replace hx72 := hx72 (by omega)
  refine TL.val rfl rfl rfl (gives_bin (v := .int .i64 (((x7 : Nat) : Int) * 65536)) rfl rfl rfl (fun w => by rw [bin_shl 65536 (by decide) (by decide) (by decide) w]; congr 2; simp only [IntKind.wrap_i64]; omega)) ?_
  refine TL.mv ?_
  refine TL.pcallCod (k := 0) (α := {x : Nat // x ≤ 65535 ∧ (1 ≤ (65536 : Int) → (x : Int) < 65536)}) (fun y => .int .i64 (y.1 : Int)) (fun y => []) rfl rfl rfl rfl rfl Tryd.func21 jdrnm21 jdrbd21 rfl (fun w1 hw hC1 => next_cod cb w1 65536 hC1) ?_
  rintro ⟨x10, hx101, hx102⟩
  dsimp only [List.cons_append, List.nil_append] at hx101 hx102 ⊢
  replace hx102 := hx102 (by omega)
  refine TL.val rfl rfl rfl (gives_bin rfl rfl rfl (fun w => bin_add_ (r := (((x7 : Nat) : Int) * 65536) + ((x10 : Nat) : Int)) (by simp only [IntKind.wrap_i64]; omega) w)) ?_
  refine TL.val rfl rfl rfl (gives_conv rfl rfl (fun w => conv_fit (k := .i64) Tryd.underlying23 Tryd.underlying3 (by simp only [IntKind.wrap_u32]; omega) w)) ?_
  refine TL.as_ ?_
  refine TL.end_ (TX.then_ (TC.ret_ (TX.then_ret ?_)))
  exact ret_tmp Tryd.results40 rfl (fun w1 hw => ⟨⟨(((x7 : Nat) : Int) * 65536) + ((x10 : Nat) : Int), by omega, by omega⟩, rfl, Pm.codr [] (hw) rfl⟩)
 ·have q5 := of_decide_eq_false h5
  refine TL.end_ (TX.then_ (TC.condF rfl (TC.skip_ (TX.then_ (TC.seq_ (TC.region ?_))))))
  refine TL.mv ?_
  refine TL.pcallCod (k := 0) (α := {x : Nat // x ≤ 65535 ∧ (1 ≤ (3 : Int) → (x : Int) < 3)}) (fun y => .int .i64 (y.1 : Int)) (fun y => []) rfl rfl rfl rfl rfl Tryd.func21 jdrnm21 jdrbd21 rfl (fun w1 hw hC1 => next_cod cb w1 3 hC1) ?_
  rintro ⟨x14, hx141, hx142⟩
  dsimp only [List.cons_append, List.nil_append] at hx141 hx142 ⊢
  replace hx142 := hx142 (by omega)
  refine TL.val rfl rfl rfl (gives_bin (v := .int .i64 (((x14 : Nat) : Int) * 65536)) rfl rfl rfl (fun w => by rw [bin_shl 65536 (by decide) (by decide) (by decide) w]; congr 2; simp only [IntKind.wrap_i64]; omega)) ?_
  refine TL.val rfl rfl rfl (gives_bin rfl rfl rfl (fun w => bin_add_ (r := 167772160 + (((x14 : Nat) : Int) * 65536)) (by simp only [IntKind.wrap_i64]; omega) w)) ?_
  refine TL.mv ?_
  refine TL.pcallCod (k := 0) (α := {x : Nat // x ≤ 65535 ∧ (1 ≤ (8 : Int) → (x : Int) < 8)}) (fun y => .int .i64 (y.1 : Int)) (fun y => []) rfl rfl rfl rfl rfl Tryd.func21 jdrnm21 jdrbd21 rfl (fun w1 hw hC1 => next_cod cb w1 8 hC1) ?_
  rintro ⟨x18, hx181, hx182⟩
  dsimp only [List.cons_append, List.nil_append] at hx181 hx182 ⊢
  replace hx182 := hx182 (by omega)
  refine TL.val rfl rfl rfl (gives_bin rfl rfl rfl (fun w => bin_add_ (r := (167772160 + (((x14 : Nat) : Int) * 65536)) + ((x18 : Nat) : Int)) (by simp only [IntKind.wrap_i64]; omega) w)) ?_
  refine TL.val rfl rfl rfl (gives_conv rfl rfl (fun w => conv_fit (k := .i64) Tryd.underlying23 Tryd.underlying3 (by simp only [IntKind.wrap_u32]; omega) w)) ?_
  refine TL.as_ ?_
  refine TL.end_ (TX.then_ (TC.ret_ ?_))
  exact ret_tmp Tryd.results40 rfl (fun w1 hw => ⟨⟨(167772160 + (((x14 : Nat) : Int) * 65536)) + ((x18 : Nat) : Int), by omega, by omega⟩, rfl, Pm.codr [] (hw) rfl⟩)
set_option maxHeartbeats 4000000 in
theorem result_cod (cb : Nat) (w : World) (hC : Cod w cb) :
  Calls Tryd.prog 11 #[.pointer (some ⟨cb, 0, none⟩)] w fun e w' => ∃ x : {x : Rs // x.Ok}, e = .returned (.agg x.1.cells.toArray) ∧ Codr (fun w => Cod w cb) cb w [] w' := by
 refine begin_ (vs := [.pointer (some ⟨cb, 0, none⟩)]) (I := Pm ⟨w, cb⟩ (.abs cb (fun w => Cod w cb) :: oths cb w)) Tryd.func11 rfl rfl rfl ?_ (Pm.codes hC (cod_cells hC) (cod_stab cb))
 refine TC.seq_ (TC.region ?_)
 refine TL.pnew rfl rfl rfl (exec_alloc (cs := Rs.zero.cells) rfl jdrzv27 rfl) (fun g2 => ?_)
 refine TL.end_ (TX.then_ (TC.seq_ (TC.region ?_)))
 refine TL.mv ?_
 refine TL.pcallCod (k := 1) (α := {x : Nat // x ≤ 65535 ∧ (1 ≤ (2 : Int) → (x : Int) < 2)}) (fun y => .int .i64 (y.1 : Int)) (fun y => []) rfl rfl rfl rfl rfl Tryd.func21 jdrnm21 jdrbd21 rfl (fun w1 hw hC1 => next_cod cb w1 2 hC1) ?_
 rintro ⟨x5, hx51, hx52⟩
 dsimp only [List.cons_append, List.nil_append] at hx51 hx52 ⊢
 replace hx52 := hx52 (by omega)
 refine TL.mv ?_
 refine TL.pcallCod (k := 1) (α := {x : Nat // x ≤ 65535 ∧ (1 ≤ (2 : Int) → (x : Int) < 2)}) (fun y => .int .i64 (y.1 : Int)) (fun y => []) rfl rfl rfl rfl rfl Tryd.func21 jdrnm21 jdrbd21 rfl (fun w1 hw hC1 => next_cod cb w1 2 hC1) ?_
 rintro ⟨x7, hx71, hx72⟩
 dsimp only [List.cons_append, List.nil_append] at hx71 hx72 ⊢
 replace hx72 := hx72 (by omega)
 refine TL.mv ?_
 refine TL.pcallCod (k := 1) (α := {x : Nat // x ≤ 65535 ∧ (1 ≤ (4 : Int) → (x : Int) < 4)}) (fun y => .int .i64 (y.1 : Int)) (fun y => []) rfl rfl rfl rfl rfl Tryd.func21 jdrnm21 jdrbd21 rfl (fun w1 hw hC1 => next_cod cb w1 4 hC1) ?_
 rintro ⟨x9, hx91, hx92⟩
 dsimp only [List.cons_append, List.nil_append] at hx91 hx92 ⊢
 replace hx92 := hx92 (by omega)
 refine TL.mv ?_
 refine TL.pcallCod (k := 1) (α := {x : Nat // x ≤ 65535 ∧ (1 ≤ (50 : Int) → (x : Int) < 50)}) (fun y => .int .i64 (y.1 : Int)) (fun y => []) rfl rfl rfl rfl rfl Tryd.func21 jdrnm21 jdrbd21 rfl (fun w1 hw hC1 => next_cod cb w1 50 hC1) ?_
 rintro ⟨x11, hx111, hx112⟩
 dsimp only [List.cons_append, List.nil_append] at hx111 hx112 ⊢
 replace hx112 := hx112 (by omega)
 refine TL.mv ?_
 refine TL.pcallCod (k := 1) (α := {x : Int // 0 ≤ x ∧ x ≤ 4294967295}) (fun y => .int .u32 y.1) (fun y => []) rfl rfl rfl rfl rfl Tryd.func40 jdrnm40 jdrbd40 rfl (fun w1 hw hC1 => addr_cod cb w1 hC1) ?_
 rintro ⟨z13, hz131, hz132⟩
 dsimp only [List.cons_append, List.nil_append] at hz131 hz132 ⊢
 refine TL.mv ?_
 refine TL.pcallCod (k := 1) (α := Int) (fun y => .int .i64 y) (fun y => []) rfl rfl rfl rfl rfl Tryd.func41 jdrnm41 jdrbd41 rfl (fun w1 hw hC1 => proto_cod cb w1 hC1) ?_
 rintro z15
 dsimp only [List.cons_append, List.nil_append]
 refine TL.mv ?_
 refine TL.pcallCod (k := 1) (α := {x : Nat // x ≤ 65535 ∧ (1 ≤ (3 : Int) → (x : Int) < 3)}) (fun y => .int .i64 (y.1 : Int)) (fun y => []) rfl rfl rfl rfl rfl Tryd.func21 jdrnm21 jdrbd21 rfl (fun w1 hw hC1 => next_cod cb w1 3 hC1) ?_
 rintro ⟨x17, hx171, hx172⟩
 dsimp only [List.cons_append, List.nil_append] at hx171 hx172 ⊢
 replace hx172 := hx172 (by omega)
 refine TL.mv ?_
 refine TL.pcallCod (k := 1) (α := {x : Nat // x ≤ 65535 ∧ (1 ≤ (4 : Int) → (x : Int) < 4)}) (fun y => .int .i64 (y.1 : Int)) (fun y => []) rfl rfl rfl rfl rfl Tryd.func21 jdrnm21 jdrbd21 rfl (fun w1 hw hC1 => next_cod cb w1 4 hC1) ?_
 rintro ⟨x19, hx191, hx192⟩
 dsimp only [List.cons_append, List.nil_append] at hx191 hx192 ⊢
 replace hx192 := hx192 (by omega)
 refine TL.val rfl rfl rfl (gives_bin rfl rfl rfl (fun w => bin_add_ (r := 1 + ((x19 : Nat) : Int)) (by simp only [IntKind.wrap_i64]; omega) w)) ?_
 refine TL.val rfl rfl rfl (gives_build (v := .agg #[.int .i64 ((x5 : Nat) : Int), .int .i64 ((x7 : Nat) : Int), .int .i64 ((x9 : Nat) : Int), .int .i64 ((x11 : Nat) : Int), .int .u32 z13, .int .i64 z15, .int .i64 ((x17 : Nat) : Int), .int .i64 (1 + ((x19 : Nat) : Int)), .bool false, .bool false, .int .i64 0, .int .u32 0, .int .i64 0, .int .i64 0, .int .i64 0, .int .i64 0, .int .i64 0]) rfl rfl (fun w => jdrbld27_74771 _ _ _ _ _ _ _ _ w)) ?_
 refine TL.pnew rfl rfl rfl (exec_alloc (cs := Rs.zero.cells) rfl jdrzv27 rfl) (fun g3 => ?_)
 refine TL.pstore (k := 0) (vs := [.int .i64 ((x5 : Nat) : Int), .int .i64 ((x7 : Nat) : Int), .int .i64 ((x9 : Nat) : Int), .int .i64 ((x11 : Nat) : Int), .int .u32 z13, .int .i64 z15, .int .i64 ((x17 : Nat) : Int), .int .i64 (1 + ((x19 : Nat) : Int)), .bool false, .bool false, .int .i64 0, .int .u32 0, .int .i64 0, .int .i64 0, .int .i64 0, .int .i64 0, .int .i64 0]) rfl rfl rfl rfl rfl rfl rfl jdrsz27 jdrone_i64i64i64i64u32i64i64i64bbi64u32i64i64i64i64i64 (by show 17 ≤ 17; decide) (L' := ([.blk g3 27 [.int .i64 ((x5 : Nat) : Int), .int .i64 ((x7 : Nat) : Int), .int .i64 ((x9 : Nat) : Int), .int .i64 ((x11 : Nat) : Int), .int .u32 z13, .int .i64 z15, .int .i64 ((x17 : Nat) : Int), .int .i64 (1 + ((x19 : Nat) : Int)), .bool false, .bool false, .int .i64 0, .int .u32 0, .int .i64 0, .int .i64 0, .int .i64 0, .int .i64 0, .int .i64 0], .blk g2 27 Rs.zero.cells, .abs cb (fun w => Cod w cb)] ++ oths cb w)) rfl ?_
 refine TL.end_ (TX.then_ (TC.seq_ ?_))
 refine TC.held (ls := #[Ff,Ff,Ff,Ff,Ff,Ff,Ff]) (fun w1 => ∃ b : Int, Pm ⟨w, cb⟩ ([.blk g3 27 [.int .i64 ((x5 : Nat) : Int), .int .i64 ((x7 : Nat) : Int), .int .i64 ((x9 : Nat) : Int), .int .i64 ((x11 : Nat) : Int), .int .u32 z13, .int .i64 z15, .int .i64 ((x17 : Nat) : Int), .int .i64 (1 + ((x19 : Nat) : Int)), .bool false, .bool false, .int .i64 b, .int .u32 0, .int .i64 0, .int .i64 0, .int .i64 0, .int .i64 0, .int .i64 0], .blk g2 27 Rs.zero.cells, .abs cb (fun w => Cod w cb)] ++ oths cb w) w1) (by kernel_rfl) rfl rfl (fun w hw => hw.drawn _) ?_
 refine TH.tk (listed' := #[Tt,Ff,Ff,Ff,Ff,Ff,Ff]) 0 rfl rfl rfl (gives_field (v := .pointer (some ⟨g3, 3, none⟩)) rfl rfl (fun w => jdrfld27_3 _ _ w)) (fun w1 hw => ⟨_, hw⟩) ?_
 refine TH.tk (listed' := #[Tt,Tt,Ff,Ff,Ff,Ff,Ff]) 1 rfl rfl rfl (gives_load (v := .int .i64 ((x11 : Nat) : Int)) rfl rfl jdrag3 (fun w1 hw => by obtain ⟨b, hw⟩ := hw; exact (hw.cell (k := 0) rfl 3).trans rfl)) (fun w1 hw => ⟨_, hw⟩) ?_
 refine TH.tk (listed' := #[Tt,Tt,Tt,Ff,Ff,Ff,Ff]) 2 rfl rfl rfl (gives_move rfl rfl) (fun w1 hw => ⟨_, hw⟩) ?_
 refine TH.only' (listed' := #[Tt,Tt,Tt,Tt,Ff,Ff,Ff]) 3 rfl (by kernel_rfl) rfl ?_
 refine TL.pcallCod (k := 2) (α := {x : Nat // x ≤ 65535 ∧ (1 ≤ (30 : Int) → (x : Int) < 30)}) (fun y => .int .i64 (y.1 : Int)) (fun y => []) rfl rfl rfl rfl rfl Tryd.func21 jdrnm21 jdrbd21 rfl (fun w1 hw hC1 => next_cod cb w1 30 hC1) ?_
 rintro ⟨x25, hx251, hx252⟩
 dsimp only [List.cons_append, List.nil_append] at hx251 hx252 ⊢
 replace hx252 := hx252 (by omega)
 refine TL.end_ ?_
 refine TX.held (fun w1 hw => ⟨_, hw⟩) ?_
 refine TH.tk (listed' := #[Tt,Tt,Tt,Tt,Tt,Ff,Ff]) 4 rfl rfl rfl (gives_bin rfl rfl rfl (fun w => bin_add_ (r := ((x11 : Nat) : Int) + ((x25 : Nat) : Int)) (by simp only [IntKind.wrap_i64]; omega) w)) (fun w1 hw => ⟨_, hw⟩) ?_
 refine TH.tk (listed' := #[Tt,Tt,Tt,Tt,Tt,Tt,Ff]) 5 rfl rfl rfl (gives_field (v := .pointer (some ⟨g3, 10, none⟩)) rfl rfl (fun w => jdrfld27_10 _ _ w)) (fun w1 hw => ⟨_, hw⟩) ?_
 refine TH.only' (listed' := #[Tt,Tt,Tt,Tt,Tt,Tt,Tt]) 6 rfl (by kernel_rfl) rfl ?_
 refine TL.pstore (k := 0) (vs := [.int .i64 (((x11 : Nat) : Int) + ((x25 : Nat) : Int))]) rfl rfl rfl rfl rfl rfl rfl jdrsz3 jdrone_i64 (by show 11 ≤ 17; decide) (L' := ([.blk g3 27 [.int .i64 ((x5 : Nat) : Int), .int .i64 ((x7 : Nat) : Int), .int .i64 ((x9 : Nat) : Int), .int .i64 ((x11 : Nat) : Int), .int .u32 z13, .int .i64 z15, .int .i64 ((x17 : Nat) : Int), .int .i64 (1 + ((x19 : Nat) : Int)), .bool false, .bool false, .int .i64 (((x11 : Nat) : Int) + ((x25 : Nat) : Int)), .int .u32 0, .int .i64 0, .int .i64 0, .int .i64 0, .int .i64 0, .int .i64 0], .blk g2 27 Rs.zero.cells, .abs cb (fun w => Cod w cb)] ++ oths cb w)) rfl ?_
 refine TL.end_ ?_
 refine TX.held (fun w1 hw => ⟨_, hw⟩) ?_
 refine TH.done (by kernel_rfl) ?_
 refine TX.then_ ?_
 refine TC.join (α := {r : Rs // r.Ok}) (fun y => [(0, .pointer (some ⟨cb, 0, none⟩)), (2, .pointer (some ⟨g2, 0, none⟩)), (3, .pointer (some ⟨g3, 0, none⟩))]) (fun y => Pm ⟨w, cb⟩ ([.blk g3 27 y.1.cells, .blk g2 27 Rs.zero.cells, .abs cb (fun w => Cod w cb)] ++ oths cb w)) ?_ ?_
 ·refine TC.seq_ (TC.region ?_)
  refine TL.mv ?_
  refine TL.pcallCod (k := 2) (α := {x : Nat // x ≤ 65535 ∧ (1 ≤ (3 : Int) → (x : Int) < 3)}) (fun y => .int .i64 (y.1 : Int)) (fun y => []) rfl rfl rfl rfl rfl Tryd.func21 jdrnm21 jdrbd21 rfl (fun w1 hw hC1 => next_cod cb w1 3 hC1) ?_
  rintro ⟨x29, hx291, hx292⟩
  dsimp only [List.cons_append, List.nil_append] at hx291 hx292 ⊢
  replace hx292 := hx292 (by omega)
  refine TL.vsplit rfl rfl rfl (gives_bin rfl rfl rfl (fun w => bin_gtr w)) (fun h30 => ?_) (fun h30 => ?_)
  ·have q30 := of_decide_eq_true h30
   refine TL.end_ (TX.then_ (TC.condT rfl (TC.seq_ (TC.region ?_))))
   refine TL.mv ?_
   refine TL.pcallCod (k := 2) (α := {x : Nat // x ≤ 65535 ∧ (1 ≤ (6 : Int) → (x : Int) < 6)}) (fun y => .int .i64 (y.1 : Int)) (fun y => []) rfl rfl rfl rfl rfl Tryd.func21 jdrnm21 jdrbd21 rfl (fun w1 hw hC1 => next_cod cb w1 6 hC1) ?_
   rintro ⟨x32, hx321, hx322⟩
   dsimp only [List.cons_append, List.nil_append] at hx321 hx322 ⊢
   replace hx322 := hx322 (by omega)
   refine TL.vsplit rfl rfl rfl (gives_bin rfl rfl rfl (fun w => bin_eql w)) (fun h33 => ?_) (fun h33 => ?_)
   ·have q33 := of_decide_eq_true h33
    refine TL.val rfl rfl rfl (gives_field (v := .pointer (some ⟨g3, 8, none⟩)) rfl rfl (fun w => jdrfld27_8 _ _ w)) ?_
    refine TL.pstore (k := 0) (vs := [.bool true]) rfl rfl rfl rfl rfl rfl rfl jdrsz4 jdrone_b (by show 9 ≤ 17; decide) (L' := ([.blk g3 27 [.int .i64 ((x5 : Nat) : Int), .int .i64 ((x7 : Nat) : Int), .int .i64 ((x9 : Nat) : Int), .int .i64 ((x11 : Nat) : Int), .int .u32 z13, .int .i64 z15, .int .i64 ((x17 : Nat) : Int), .int .i64 (1 + ((x19 : Nat) : Int)), .bool true, .bool false, .int .i64 (((x11 : Nat) : Int) + ((x25 : Nat) : Int)), .int .u32 0, .int .i64 0, .int .i64 0, .int .i64 0, .int .i64 0, .int .i64 0], .blk g2 27 Rs.zero.cells, .abs cb (fun w => Cod w cb)] ++ oths cb w)) rfl ?_
    refine TL.val rfl rfl rfl (gives_field (v := .pointer (some ⟨g3, 9, none⟩)) rfl rfl (fun w => jdrfld27_9 _ _ w)) ?_
    refine TL.pstore (k := 0) (vs := [.bool true]) rfl rfl rfl rfl rfl rfl rfl jdrsz4 jdrone_b (by show 10 ≤ 17; decide) (L' := ([.blk g3 27 [.int .i64 ((x5 : Nat) : Int), .int .i64 ((x7 : Nat) : Int), .int .i64 ((x9 : Nat) : Int), .int .i64 ((x11 : Nat) : Int), .int .u32 z13, .int .i64 z15, .int .i64 ((x17 : Nat) : Int), .int .i64 (1 + ((x19 : Nat) : Int)), .bool true, .bool true, .int .i64 (((x11 : Nat) : Int) + ((x25 : Nat) : Int)), .int .u32 0, .int .i64 0, .int .i64 0, .int .i64 0, .int .i64 0, .int .i64 0], .blk g2 27 Rs.zero.cells, .abs cb (fun w => Cod w cb)] ++ oths cb w)) rfl ?_
    refine TL.end_ (TX.then_ (TC.region ?_))
    refine TL.mv ?_
    refine TL.pcallCod (k := 2) (α := {x : Int // 0 ≤ x ∧ x ≤ 4294967295}) (fun y => .int .u32 y.1) (fun y => []) rfl rfl rfl rfl rfl Tryd.func40 jdrnm40 jdrbd40 rfl (fun w1 hw hC1 => addr_cod cb w1 hC1) ?_
    rintro ⟨z37, hz371, hz372⟩
    dsimp only [List.cons_append, List.nil_append] at hz371 hz372 ⊢
    refine TL.mv ?_
    refine TL.pcallCod (k := 2) (α := {x : Nat // x ≤ 65535 ∧ (1 ≤ (5 : Int) → (x : Int) < 5)}) (fun y => .int .i64 (y.1 : Int)) (fun y => []) rfl rfl rfl rfl rfl Tryd.func21 jdrnm21 jdrbd21 rfl (fun w1 hw hC1 => next_cod cb w1 5 hC1) ?_
    rintro ⟨x39, hx391, hx392⟩
    dsimp only [List.cons_append, List.nil_append] at hx391 hx392 ⊢
    replace hx392 := hx392 (by omega)
    refine TL.val rfl rfl rfl (gives_bin rfl rfl rfl (fun w => bin_add_ (r := 1 + ((x39 : Nat) : Int)) (by simp only [IntKind.wrap_i64]; omega) w)) ?_
    refine TL.mv ?_
    refine TL.pcallCod (k := 2) (α := {x : Nat // x ≤ 65535 ∧ (1 ≤ (4 : Int) → (x : Int) < 4)}) (fun y => .int .i64 (y.1 : Int)) (fun y => []) rfl rfl rfl rfl rfl Tryd.func21 jdrnm21 jdrbd21 rfl (fun w1 hw hC1 => next_cod cb w1 4 hC1) ?_
    rintro ⟨x42, hx421, hx422⟩
    dsimp only [List.cons_append, List.nil_append] at hx421 hx422 ⊢
    replace hx422 := hx422 (by omega)
    refine TL.mv ?_
    refine TL.pcallCod (k := 2) (α := {x : Nat // x ≤ 65535 ∧ (1 ≤ (5 : Int) → (x : Int) < 5)}) (fun y => .int .i64 (y.1 : Int)) (fun y => []) rfl rfl rfl rfl rfl Tryd.func21 jdrnm21 jdrbd21 rfl (fun w1 hw hC1 => next_cod cb w1 5 hC1) ?_
    rintro ⟨x44, hx441, hx442⟩
    dsimp only [List.cons_append, List.nil_append] at hx441 hx442 ⊢
    replace hx442 := hx442 (by omega)
    refine TL.val rfl rfl rfl (gives_bin rfl rfl rfl (fun w => bin_add_ (r := 60 + ((x44 : Nat) : Int)) (by simp only [IntKind.wrap_i64]; omega) w)) ?_
    refine TL.mv ?_
    refine TL.pcallCod (k := 2) (α := {x : Nat // x ≤ 65535 ∧ (1 ≤ (300 : Int) → (x : Int) < 300)}) (fun y => .int .i64 (y.1 : Int)) (fun y => []) rfl rfl rfl rfl rfl Tryd.func21 jdrnm21 jdrbd21 rfl (fun w1 hw hC1 => next_cod cb w1 300 hC1) ?_
    rintro ⟨x47, hx471, hx472⟩
    dsimp only [List.cons_append, List.nil_append] at hx471 hx472 ⊢
    replace hx472 := hx472 (by omega)
    refine TL.mv ?_
    refine TL.pcallCod (k := 2) (α := {x : Nat // x ≤ 65535 ∧ (1 ≤ (2 : Int) → (x : Int) < 2)}) (fun y => .int .i64 (y.1 : Int)) (fun y => []) rfl rfl rfl rfl rfl Tryd.func21 jdrnm21 jdrbd21 rfl (fun w1 hw hC1 => next_cod cb w1 2 hC1) ?_
    rintro ⟨x49, hx491, hx492⟩
    dsimp only [List.cons_append, List.nil_append] at hx491 hx492 ⊢
    replace hx492 := hx492 (by omega)
    refine TL.val rfl rfl rfl (gives_bin rfl rfl rfl (fun w => bin_add_ (r := 1 + ((x49 : Nat) : Int)) (by simp only [IntKind.wrap_i64]; omega) w)) ?_
    refine TL.val rfl rfl rfl (gives_build (v := .agg #[.int .u32 z37, .int .i64 (1 + ((x39 : Nat) : Int)), .int .i64 ((x42 : Nat) : Int), .int .i64 (60 + ((x44 : Nat) : Int)), .int .i64 ((x47 : Nat) : Int), .int .i64 (1 + ((x49 : Nat) : Int))]) rfl rfl (fun w => jdrbld25_14255 _ _ _ _ _ _ w)) ?_
    refine TL.val rfl rfl rfl (gives_field (v := .pointer (some ⟨g3, 11, none⟩)) rfl rfl (fun w => jdrfld27_11 _ _ w)) ?_
    refine TL.pstore (k := 0) (vs := [.int .u32 z37, .int .i64 (1 + ((x39 : Nat) : Int)), .int .i64 ((x42 : Nat) : Int), .int .i64 (60 + ((x44 : Nat) : Int)), .int .i64 ((x47 : Nat) : Int), .int .i64 (1 + ((x49 : Nat) : Int))]) rfl rfl rfl rfl rfl rfl rfl jdrsz25 jdrone_u32i64i64i64i64i64 (by show 17 ≤ 17; decide) (L' := ([.blk g3 27 [.int .i64 ((x5 : Nat) : Int), .int .i64 ((x7 : Nat) : Int), .int .i64 ((x9 : Nat) : Int), .int .i64 ((x11 : Nat) : Int), .int .u32 z13, .int .i64 z15, .int .i64 ((x17 : Nat) : Int), .int .i64 (1 + ((x19 : Nat) : Int)), .bool true, .bool true, .int .i64 (((x11 : Nat) : Int) + ((x25 : Nat) : Int)), .int .u32 z37, .int .i64 (1 + ((x39 : Nat) : Int)), .int .i64 ((x42 : Nat) : Int), .int .i64 (60 + ((x44 : Nat) : Int)), .int .i64 ((x47 : Nat) : Int), .int .i64 (1 + ((x49 : Nat) : Int))], .blk g2 27 Rs.zero.cells, .abs cb (fun w => Cod w cb)] ++ oths cb w)) rfl ?_
    refine TL.end_ ?_
    exact TX.joined (⟨⟨((x5 : Nat) : Int), ((x7 : Nat) : Int), ((x9 : Nat) : Int), ((x11 : Nat) : Int), z13, z15, ((x17 : Nat) : Int), 1 + ((x19 : Nat) : Int), true, true, ((x11 : Nat) : Int) + ((x25 : Nat) : Int), z37, 1 + ((x39 : Nat) : Int), ((x42 : Nat) : Int), 60 + ((x44 : Nat) : Int), ((x47 : Nat) : Int), 1 + ((x49 : Nat) : Int)⟩, by unfold Rs.Ok; dsimp only; omega⟩) (⟨rfl, rfl, rfl, trivial⟩) (fun w1 hw => hw)
   ·have q33 := of_decide_eq_false h33
    refine TL.val rfl rfl rfl (gives_field (v := .pointer (some ⟨g3, 8, none⟩)) rfl rfl (fun w => jdrfld27_8 _ _ w)) ?_
    refine TL.pstore (k := 0) (vs := [.bool true]) rfl rfl rfl rfl rfl rfl rfl jdrsz4 jdrone_b (by show 9 ≤ 17; decide) (L' := ([.blk g3 27 [.int .i64 ((x5 : Nat) : Int), .int .i64 ((x7 : Nat) : Int), .int .i64 ((x9 : Nat) : Int), .int .i64 ((x11 : Nat) : Int), .int .u32 z13, .int .i64 z15, .int .i64 ((x17 : Nat) : Int), .int .i64 (1 + ((x19 : Nat) : Int)), .bool true, .bool false, .int .i64 (((x11 : Nat) : Int) + ((x25 : Nat) : Int)), .int .u32 0, .int .i64 0, .int .i64 0, .int .i64 0, .int .i64 0, .int .i64 0], .blk g2 27 Rs.zero.cells, .abs cb (fun w => Cod w cb)] ++ oths cb w)) rfl ?_
    refine TL.val rfl rfl rfl (gives_field (v := .pointer (some ⟨g3, 9, none⟩)) rfl rfl (fun w => jdrfld27_9 _ _ w)) ?_
    refine TL.pstore (k := 0) (vs := [.bool false]) rfl rfl rfl rfl rfl rfl rfl jdrsz4 jdrone_b (by show 10 ≤ 17; decide) (L' := ([.blk g3 27 [.int .i64 ((x5 : Nat) : Int), .int .i64 ((x7 : Nat) : Int), .int .i64 ((x9 : Nat) : Int), .int .i64 ((x11 : Nat) : Int), .int .u32 z13, .int .i64 z15, .int .i64 ((x17 : Nat) : Int), .int .i64 (1 + ((x19 : Nat) : Int)), .bool true, .bool false, .int .i64 (((x11 : Nat) : Int) + ((x25 : Nat) : Int)), .int .u32 0, .int .i64 0, .int .i64 0, .int .i64 0, .int .i64 0, .int .i64 0], .blk g2 27 Rs.zero.cells, .abs cb (fun w => Cod w cb)] ++ oths cb w)) rfl ?_
    refine TL.end_ (TX.then_ (TC.region ?_))
    refine TL.mv ?_
    refine TL.pcallCod (k := 2) (α := {x : Int // 0 ≤ x ∧ x ≤ 4294967295}) (fun y => .int .u32 y.1) (fun y => []) rfl rfl rfl rfl rfl Tryd.func40 jdrnm40 jdrbd40 rfl (fun w1 hw hC1 => addr_cod cb w1 hC1) ?_
    rintro ⟨z37, hz371, hz372⟩
    dsimp only [List.cons_append, List.nil_append] at hz371 hz372 ⊢
    refine TL.mv ?_
    refine TL.pcallCod (k := 2) (α := {x : Nat // x ≤ 65535 ∧ (1 ≤ (5 : Int) → (x : Int) < 5)}) (fun y => .int .i64 (y.1 : Int)) (fun y => []) rfl rfl rfl rfl rfl Tryd.func21 jdrnm21 jdrbd21 rfl (fun w1 hw hC1 => next_cod cb w1 5 hC1) ?_
    rintro ⟨x39, hx391, hx392⟩
    dsimp only [List.cons_append, List.nil_append] at hx391 hx392 ⊢
    replace hx392 := hx392 (by omega)
    refine TL.val rfl rfl rfl (gives_bin rfl rfl rfl (fun w => bin_add_ (r := 1 + ((x39 : Nat) : Int)) (by simp only [IntKind.wrap_i64]; omega) w)) ?_
    refine TL.mv ?_
    refine TL.pcallCod (k := 2) (α := {x : Nat // x ≤ 65535 ∧ (1 ≤ (4 : Int) → (x : Int) < 4)}) (fun y => .int .i64 (y.1 : Int)) (fun y => []) rfl rfl rfl rfl rfl Tryd.func21 jdrnm21 jdrbd21 rfl (fun w1 hw hC1 => next_cod cb w1 4 hC1) ?_
    rintro ⟨x42, hx421, hx422⟩
    dsimp only [List.cons_append, List.nil_append] at hx421 hx422 ⊢
    replace hx422 := hx422 (by omega)
    refine TL.mv ?_
    refine TL.pcallCod (k := 2) (α := {x : Nat // x ≤ 65535 ∧ (1 ≤ (5 : Int) → (x : Int) < 5)}) (fun y => .int .i64 (y.1 : Int)) (fun y => []) rfl rfl rfl rfl rfl Tryd.func21 jdrnm21 jdrbd21 rfl (fun w1 hw hC1 => next_cod cb w1 5 hC1) ?_
    rintro ⟨x44, hx441, hx442⟩
    dsimp only [List.cons_append, List.nil_append] at hx441 hx442 ⊢
    replace hx442 := hx442 (by omega)
    refine TL.val rfl rfl rfl (gives_bin rfl rfl rfl (fun w => bin_add_ (r := 60 + ((x44 : Nat) : Int)) (by simp only [IntKind.wrap_i64]; omega) w)) ?_
    refine TL.mv ?_
    refine TL.pcallCod (k := 2) (α := {x : Nat // x ≤ 65535 ∧ (1 ≤ (300 : Int) → (x : Int) < 300)}) (fun y => .int .i64 (y.1 : Int)) (fun y => []) rfl rfl rfl rfl rfl Tryd.func21 jdrnm21 jdrbd21 rfl (fun w1 hw hC1 => next_cod cb w1 300 hC1) ?_
    rintro ⟨x47, hx471, hx472⟩
    dsimp only [List.cons_append, List.nil_append] at hx471 hx472 ⊢
    replace hx472 := hx472 (by omega)
    refine TL.mv ?_
    refine TL.pcallCod (k := 2) (α := {x : Nat // x ≤ 65535 ∧ (1 ≤ (2 : Int) → (x : Int) < 2)}) (fun y => .int .i64 (y.1 : Int)) (fun y => []) rfl rfl rfl rfl rfl Tryd.func21 jdrnm21 jdrbd21 rfl (fun w1 hw hC1 => next_cod cb w1 2 hC1) ?_
    rintro ⟨x49, hx491, hx492⟩
    dsimp only [List.cons_append, List.nil_append] at hx491 hx492 ⊢
    replace hx492 := hx492 (by omega)
    refine TL.val rfl rfl rfl (gives_bin rfl rfl rfl (fun w => bin_add_ (r := 1 + ((x49 : Nat) : Int)) (by simp only [IntKind.wrap_i64]; omega) w)) ?_
    refine TL.val rfl rfl rfl (gives_build (v := .agg #[.int .u32 z37, .int .i64 (1 + ((x39 : Nat) : Int)), .int .i64 ((x42 : Nat) : Int), .int .i64 (60 + ((x44 : Nat) : Int)), .int .i64 ((x47 : Nat) : Int), .int .i64 (1 + ((x49 : Nat) : Int))]) rfl rfl (fun w => jdrbld25_14255 _ _ _ _ _ _ w)) ?_
    refine TL.val rfl rfl rfl (gives_field (v := .pointer (some ⟨g3, 11, none⟩)) rfl rfl (fun w => jdrfld27_11 _ _ w)) ?_
    refine TL.pstore (k := 0) (vs := [.int .u32 z37, .int .i64 (1 + ((x39 : Nat) : Int)), .int .i64 ((x42 : Nat) : Int), .int .i64 (60 + ((x44 : Nat) : Int)), .int .i64 ((x47 : Nat) : Int), .int .i64 (1 + ((x49 : Nat) : Int))]) rfl rfl rfl rfl rfl rfl rfl jdrsz25 jdrone_u32i64i64i64i64i64 (by show 17 ≤ 17; decide) (L' := ([.blk g3 27 [.int .i64 ((x5 : Nat) : Int), .int .i64 ((x7 : Nat) : Int), .int .i64 ((x9 : Nat) : Int), .int .i64 ((x11 : Nat) : Int), .int .u32 z13, .int .i64 z15, .int .i64 ((x17 : Nat) : Int), .int .i64 (1 + ((x19 : Nat) : Int)), .bool true, .bool false, .int .i64 (((x11 : Nat) : Int) + ((x25 : Nat) : Int)), .int .u32 z37, .int .i64 (1 + ((x39 : Nat) : Int)), .int .i64 ((x42 : Nat) : Int), .int .i64 (60 + ((x44 : Nat) : Int)), .int .i64 ((x47 : Nat) : Int), .int .i64 (1 + ((x49 : Nat) : Int))], .blk g2 27 Rs.zero.cells, .abs cb (fun w => Cod w cb)] ++ oths cb w)) rfl ?_
    refine TL.end_ ?_
    exact TX.joined (⟨⟨((x5 : Nat) : Int), ((x7 : Nat) : Int), ((x9 : Nat) : Int), ((x11 : Nat) : Int), z13, z15, ((x17 : Nat) : Int), 1 + ((x19 : Nat) : Int), true, false, ((x11 : Nat) : Int) + ((x25 : Nat) : Int), z37, 1 + ((x39 : Nat) : Int), ((x42 : Nat) : Int), 60 + ((x44 : Nat) : Int), ((x47 : Nat) : Int), 1 + ((x49 : Nat) : Int)⟩, by unfold Rs.Ok; dsimp only; omega⟩) (⟨rfl, rfl, rfl, trivial⟩) (fun w1 hw => hw)
  ·have q30 := of_decide_eq_false h30
   refine TL.end_ (TX.then_ (TC.condF rfl (TC.skip_ ?_)))
   exact TX.joined (⟨⟨((x5 : Nat) : Int), ((x7 : Nat) : Int), ((x9 : Nat) : Int), ((x11 : Nat) : Int), z13, z15, ((x17 : Nat) : Int), 1 + ((x19 : Nat) : Int), false, false, ((x11 : Nat) : Int) + ((x25 : Nat) : Int), 0, 0, 0, 0, 0, 0⟩, by unfold Rs.Ok; dsimp only; omega⟩) (⟨rfl, rfl, rfl, trivial⟩) (fun w1 hw => hw)
 ·rintro ⟨r, hr⟩
  unfold Rs.Ok at hr
  dsimp only at hr ⊢
  refine TC.seq_ (TC.seq_ (TC.region ?_))
  refine TL.mv ?_
  refine TL.pcallCod (k := 2) (α := {x : Nat // x ≤ 65535 ∧ (1 ≤ (16 : Int) → (x : Int) < 16)}) (fun y => .int .i64 (y.1 : Int)) (fun y => []) rfl rfl rfl rfl rfl Tryd.func21 jdrnm21 jdrbd21 rfl (fun w1 hw hC1 => next_cod cb w1 16 hC1) ?_
  rintro ⟨x54, hx541, hx542⟩
  dsimp only [List.cons_append, List.nil_append] at hx541 hx542 ⊢
  replace hx542 := hx542 (by omega)
  refine TL.end_ (TX.then_ (TC.block (TC.seq_ (TC.region ?_))))
  refine TL.vsplit rfl rfl rfl (gives_bin rfl rfl rfl (fun w => bin_eql w)) (fun h56 => ?_) (fun h56 => ?_)
  ·have q56 := of_decide_eq_true h56
   refine TL.as_ ?_
   refine TL.end_ (TX.then_ (TC.condT rfl (TC.region ?_)))
   refine TL.mv ?_
   refine TL.pcallCod (k := 2) (α := Int) (fun y => .int .i64 y) (fun y => []) rfl rfl rfl rfl rfl Tryd.func42 jdrnm42 jdrbd42 rfl (fun w1 hw hC1 => int_cod cb w1 hC1) ?_
   rintro z58
   dsimp only [List.cons_append, List.nil_append]
   refine TL.mv ?_
   refine TL.pcallCod (k := 2) (α := Int) (fun y => .int .i64 y) (fun y => []) rfl rfl rfl rfl rfl Tryd.func42 jdrnm42 jdrbd42 rfl (fun w1 hw hC1 => int_cod cb w1 hC1) ?_
   rintro z60
   dsimp only [List.cons_append, List.nil_append]
   refine TL.val rfl rfl rfl (gives_field (v := .pointer (some ⟨g3, 3, none⟩)) rfl rfl (fun w => jdrfld27_3 _ _ w)) ?_
   refine TL.pstore (k := 0) (vs := [.int .i64 z58]) rfl rfl rfl rfl rfl rfl rfl jdrsz3 jdrone_i64 (by show 4 ≤ 17; decide) (L' := ([.blk g3 27 [.int .i64 r.v, .int .i64 r.run, .int .i64 r.num, .int .i64 z58, .int .u32 r.dst, .int .i64 r.proto, .int .i64 r.flow, .int .i64 r.ttl, .bool r.ans, .bool r.dbl, .int .i64 r.back, .int .u32 r.src, .int .i64 r.kind, .int .i64 r.code, .int .i64 r.left, .int .i64 r.id, .int .i64 r.quo], .blk g2 27 Rs.zero.cells, .abs cb (fun w => Cod w cb)] ++ oths cb w)) rfl ?_
   refine TL.val rfl rfl rfl (gives_field (v := .pointer (some ⟨g3, 10, none⟩)) rfl rfl (fun w => jdrfld27_10 _ _ w)) ?_
   refine TL.pstore (k := 0) (vs := [.int .i64 z60]) rfl rfl rfl rfl rfl rfl rfl jdrsz3 jdrone_i64 (by show 11 ≤ 17; decide) (L' := ([.blk g3 27 [.int .i64 r.v, .int .i64 r.run, .int .i64 r.num, .int .i64 z58, .int .u32 r.dst, .int .i64 r.proto, .int .i64 r.flow, .int .i64 r.ttl, .bool r.ans, .bool r.dbl, .int .i64 z60, .int .u32 r.src, .int .i64 r.kind, .int .i64 r.code, .int .i64 r.left, .int .i64 r.id, .int .i64 r.quo], .blk g2 27 Rs.zero.cells, .abs cb (fun w => Cod w cb)] ++ oths cb w)) rfl ?_
   refine TL.end_ (TX.in_normal (TX.then_ (TC.seq_ (TC.region ?_))))
   refine TL.val rfl rfl rfl (pm_loadV (k := 0) (i := 0) (n := 17) (v := .agg #[.int .i64 r.v, .int .i64 r.run, .int .i64 r.num, .int .i64 z58, .int .u32 r.dst, .int .i64 r.proto, .int .i64 r.flow, .int .i64 r.ttl, .bool r.ans, .bool r.dbl, .int .i64 z60, .int .u32 r.src, .int .i64 r.kind, .int .i64 r.code, .int .i64 r.left, .int .i64 r.id, .int .i64 r.quo]) rfl rfl jdrag27 jdrsz27 rfl (by show 17 ≤ 17; decide) rfl) ?_
   refine TL.pstore (k := 1) (vs := [.int .i64 r.v, .int .i64 r.run, .int .i64 r.num, .int .i64 z58, .int .u32 r.dst, .int .i64 r.proto, .int .i64 r.flow, .int .i64 r.ttl, .bool r.ans, .bool r.dbl, .int .i64 z60, .int .u32 r.src, .int .i64 r.kind, .int .i64 r.code, .int .i64 r.left, .int .i64 r.id, .int .i64 r.quo]) rfl rfl rfl rfl rfl rfl rfl jdrsz27 jdrone_i64i64i64i64u32i64i64i64bbi64u32i64i64i64i64i64 (by show 17 ≤ 17; decide) (L' := ([.blk g3 27 [.int .i64 r.v, .int .i64 r.run, .int .i64 r.num, .int .i64 z58, .int .u32 r.dst, .int .i64 r.proto, .int .i64 r.flow, .int .i64 r.ttl, .bool r.ans, .bool r.dbl, .int .i64 z60, .int .u32 r.src, .int .i64 r.kind, .int .i64 r.code, .int .i64 r.left, .int .i64 r.id, .int .i64 r.quo], .blk g2 27 [.int .i64 r.v, .int .i64 r.run, .int .i64 r.num, .int .i64 z58, .int .u32 r.dst, .int .i64 r.proto, .int .i64 r.flow, .int .i64 r.ttl, .bool r.ans, .bool r.dbl, .int .i64 z60, .int .u32 r.src, .int .i64 r.kind, .int .i64 r.code, .int .i64 r.left, .int .i64 r.id, .int .i64 r.quo], .abs cb (fun w => Cod w cb)] ++ oths cb w)) rfl ?_
   refine TL.end_ (TX.then_ (TC.ret_ ?_))
   exact pm_ret_cell (k := 1) Tryd.results11 rfl rfl Tryd.underlying27 rfl rfl (fun w1 hw => ⟨⟨⟨r.v, r.run, r.num, z58, r.dst, r.proto, r.flow, r.ttl, r.ans, r.dbl, z60, r.src, r.kind, r.code, r.left, r.id, r.quo⟩, by unfold Rs.Ok; dsimp only; omega⟩, rfl, Pm.codr [] (hw.sel (.cons _ (.cons _ (.cons_cons _ (List.Sublist.refl _))))) rfl⟩)
  ·have q56 := of_decide_eq_false h56
   refine TL.as_ ?_
   refine TL.end_ (TX.then_ (TC.condF rfl (TC.seq_ (TC.region ?_))))
   refine TL.vsplit rfl rfl rfl (gives_bin rfl rfl rfl (fun w => bin_eql w)) (fun h64 => ?_) (fun h64 => ?_)
   ·have q64 := of_decide_eq_true h64
    refine TL.as_ ?_
    refine TL.end_ (TX.then_ (TC.condT rfl (TC.region ?_)))
    refine TL.mv ?_
    refine TL.pcallCod (k := 2) (α := Int) (fun y => .int .i64 y) (fun y => []) rfl rfl rfl rfl rfl Tryd.func42 jdrnm42 jdrbd42 rfl (fun w1 hw hC1 => int_cod cb w1 hC1) ?_
    rintro z66
    dsimp only [List.cons_append, List.nil_append]
    refine TL.mv ?_
    refine TL.pcallCod (k := 2) (α := Int) (fun y => .int .i64 y) (fun y => []) rfl rfl rfl rfl rfl Tryd.func42 jdrnm42 jdrbd42 rfl (fun w1 hw hC1 => int_cod cb w1 hC1) ?_
    rintro z68
    dsimp only [List.cons_append, List.nil_append]
    refine TL.mv ?_
    refine TL.pcallCod (k := 2) (α := Int) (fun y => .int .i64 y) (fun y => []) rfl rfl rfl rfl rfl Tryd.func42 jdrnm42 jdrbd42 rfl (fun w1 hw hC1 => int_cod cb w1 hC1) ?_
    rintro z70
    dsimp only [List.cons_append, List.nil_append]
    refine TL.val rfl rfl rfl (gives_field (v := .pointer (some ⟨g3, 6, none⟩)) rfl rfl (fun w => jdrfld27_6 _ _ w)) ?_
    refine TL.pstore (k := 0) (vs := [.int .i64 z66]) rfl rfl rfl rfl rfl rfl rfl jdrsz3 jdrone_i64 (by show 7 ≤ 17; decide) (L' := ([.blk g3 27 [.int .i64 r.v, .int .i64 r.run, .int .i64 r.num, .int .i64 r.at_, .int .u32 r.dst, .int .i64 r.proto, .int .i64 z66, .int .i64 r.ttl, .bool r.ans, .bool r.dbl, .int .i64 r.back, .int .u32 r.src, .int .i64 r.kind, .int .i64 r.code, .int .i64 r.left, .int .i64 r.id, .int .i64 r.quo], .blk g2 27 Rs.zero.cells, .abs cb (fun w => Cod w cb)] ++ oths cb w)) rfl ?_
    refine TL.val rfl rfl rfl (gives_field (v := .pointer (some ⟨g3, 7, none⟩)) rfl rfl (fun w => jdrfld27_7 _ _ w)) ?_
    refine TL.pstore (k := 0) (vs := [.int .i64 z68]) rfl rfl rfl rfl rfl rfl rfl jdrsz3 jdrone_i64 (by show 8 ≤ 17; decide) (L' := ([.blk g3 27 [.int .i64 r.v, .int .i64 r.run, .int .i64 r.num, .int .i64 r.at_, .int .u32 r.dst, .int .i64 r.proto, .int .i64 z66, .int .i64 z68, .bool r.ans, .bool r.dbl, .int .i64 r.back, .int .u32 r.src, .int .i64 r.kind, .int .i64 r.code, .int .i64 r.left, .int .i64 r.id, .int .i64 r.quo], .blk g2 27 Rs.zero.cells, .abs cb (fun w => Cod w cb)] ++ oths cb w)) rfl ?_
    refine TL.val rfl rfl rfl (gives_field (v := .pointer (some ⟨g3, 5, none⟩)) rfl rfl (fun w => jdrfld27_5 _ _ w)) ?_
    refine TL.pstore (k := 0) (vs := [.int .i64 z70]) rfl rfl rfl rfl rfl rfl rfl jdrsz3 jdrone_i64 (by show 6 ≤ 17; decide) (L' := ([.blk g3 27 [.int .i64 r.v, .int .i64 r.run, .int .i64 r.num, .int .i64 r.at_, .int .u32 r.dst, .int .i64 z70, .int .i64 z66, .int .i64 z68, .bool r.ans, .bool r.dbl, .int .i64 r.back, .int .u32 r.src, .int .i64 r.kind, .int .i64 r.code, .int .i64 r.left, .int .i64 r.id, .int .i64 r.quo], .blk g2 27 Rs.zero.cells, .abs cb (fun w => Cod w cb)] ++ oths cb w)) rfl ?_
    refine TL.end_ (TX.in_normal (TX.then_ (TC.seq_ (TC.region ?_))))
    refine TL.val rfl rfl rfl (pm_loadV (k := 0) (i := 0) (n := 17) (v := .agg #[.int .i64 r.v, .int .i64 r.run, .int .i64 r.num, .int .i64 r.at_, .int .u32 r.dst, .int .i64 z70, .int .i64 z66, .int .i64 z68, .bool r.ans, .bool r.dbl, .int .i64 r.back, .int .u32 r.src, .int .i64 r.kind, .int .i64 r.code, .int .i64 r.left, .int .i64 r.id, .int .i64 r.quo]) rfl rfl jdrag27 jdrsz27 rfl (by show 17 ≤ 17; decide) rfl) ?_
    refine TL.pstore (k := 1) (vs := [.int .i64 r.v, .int .i64 r.run, .int .i64 r.num, .int .i64 r.at_, .int .u32 r.dst, .int .i64 z70, .int .i64 z66, .int .i64 z68, .bool r.ans, .bool r.dbl, .int .i64 r.back, .int .u32 r.src, .int .i64 r.kind, .int .i64 r.code, .int .i64 r.left, .int .i64 r.id, .int .i64 r.quo]) rfl rfl rfl rfl rfl rfl rfl jdrsz27 jdrone_i64i64i64i64u32i64i64i64bbi64u32i64i64i64i64i64 (by show 17 ≤ 17; decide) (L' := ([.blk g3 27 [.int .i64 r.v, .int .i64 r.run, .int .i64 r.num, .int .i64 r.at_, .int .u32 r.dst, .int .i64 z70, .int .i64 z66, .int .i64 z68, .bool r.ans, .bool r.dbl, .int .i64 r.back, .int .u32 r.src, .int .i64 r.kind, .int .i64 r.code, .int .i64 r.left, .int .i64 r.id, .int .i64 r.quo], .blk g2 27 [.int .i64 r.v, .int .i64 r.run, .int .i64 r.num, .int .i64 r.at_, .int .u32 r.dst, .int .i64 z70, .int .i64 z66, .int .i64 z68, .bool r.ans, .bool r.dbl, .int .i64 r.back, .int .u32 r.src, .int .i64 r.kind, .int .i64 r.code, .int .i64 r.left, .int .i64 r.id, .int .i64 r.quo], .abs cb (fun w => Cod w cb)] ++ oths cb w)) rfl ?_
    refine TL.end_ (TX.then_ (TC.ret_ ?_))
    exact pm_ret_cell (k := 1) Tryd.results11 rfl rfl Tryd.underlying27 rfl rfl (fun w1 hw => ⟨⟨⟨r.v, r.run, r.num, r.at_, r.dst, z70, z66, z68, r.ans, r.dbl, r.back, r.src, r.kind, r.code, r.left, r.id, r.quo⟩, by unfold Rs.Ok; dsimp only; omega⟩, rfl, Pm.codr [] (hw.sel (.cons _ (.cons _ (.cons_cons _ (List.Sublist.refl _))))) rfl⟩)
   ·have q64 := of_decide_eq_false h64
    refine TL.as_ ?_
    refine TL.end_ (TX.then_ (TC.condF rfl (TC.seq_ (TC.region ?_))))
    refine TL.vsplit rfl rfl rfl (gives_bin rfl rfl rfl (fun w => bin_eql w)) (fun h75 => ?_) (fun h75 => ?_)
    ·have q75 := of_decide_eq_true h75
     refine TL.as_ ?_
     refine TL.end_ (TX.then_ (TC.condT rfl (TC.region ?_)))
     refine TL.mv ?_
     refine TL.pcallCod (k := 2) (α := Int) (fun y => .int .i64 y) (fun y => []) rfl rfl rfl rfl rfl Tryd.func42 jdrnm42 jdrbd42 rfl (fun w1 hw hC1 => int_cod cb w1 hC1) ?_
     rintro z77
     dsimp only [List.cons_append, List.nil_append]
     refine TL.mv ?_
     refine TL.pcallCod (k := 2) (α := Int) (fun y => .int .i64 y) (fun y => []) rfl rfl rfl rfl rfl Tryd.func42 jdrnm42 jdrbd42 rfl (fun w1 hw hC1 => int_cod cb w1 hC1) ?_
     rintro z79
     dsimp only [List.cons_append, List.nil_append]
     refine TL.val rfl rfl rfl (gives_field (v := .pointer (some ⟨g3, 11, none⟩)) rfl rfl (fun w => jdrfld27_11 _ _ w)) ?_
     refine TL.val rfl rfl rfl (gives_field (v := .pointer (some ⟨g3, 12, none⟩)) rfl rfl (fun w => jdrfld25_1 _ _ w)) ?_
     refine TL.pstore (k := 0) (vs := [.int .i64 z77]) rfl rfl rfl rfl rfl rfl rfl jdrsz3 jdrone_i64 (by show 13 ≤ 17; decide) (L' := ([.blk g3 27 [.int .i64 r.v, .int .i64 r.run, .int .i64 r.num, .int .i64 r.at_, .int .u32 r.dst, .int .i64 r.proto, .int .i64 r.flow, .int .i64 r.ttl, .bool r.ans, .bool r.dbl, .int .i64 r.back, .int .u32 r.src, .int .i64 z77, .int .i64 r.code, .int .i64 r.left, .int .i64 r.id, .int .i64 r.quo], .blk g2 27 Rs.zero.cells, .abs cb (fun w => Cod w cb)] ++ oths cb w)) rfl ?_
     refine TL.val rfl rfl rfl (gives_field (v := .pointer (some ⟨g3, 11, none⟩)) rfl rfl (fun w => jdrfld27_11 _ _ w)) ?_
     refine TL.val rfl rfl rfl (gives_field (v := .pointer (some ⟨g3, 15, none⟩)) rfl rfl (fun w => jdrfld25_4 _ _ w)) ?_
     refine TL.pstore (k := 0) (vs := [.int .i64 z79]) rfl rfl rfl rfl rfl rfl rfl jdrsz3 jdrone_i64 (by show 16 ≤ 17; decide) (L' := ([.blk g3 27 [.int .i64 r.v, .int .i64 r.run, .int .i64 r.num, .int .i64 r.at_, .int .u32 r.dst, .int .i64 r.proto, .int .i64 r.flow, .int .i64 r.ttl, .bool r.ans, .bool r.dbl, .int .i64 r.back, .int .u32 r.src, .int .i64 z77, .int .i64 r.code, .int .i64 r.left, .int .i64 z79, .int .i64 r.quo], .blk g2 27 Rs.zero.cells, .abs cb (fun w => Cod w cb)] ++ oths cb w)) rfl ?_
     refine TL.end_ (TX.in_normal (TX.then_ (TC.seq_ (TC.region ?_))))
     refine TL.val rfl rfl rfl (pm_loadV (k := 0) (i := 0) (n := 17) (v := .agg #[.int .i64 r.v, .int .i64 r.run, .int .i64 r.num, .int .i64 r.at_, .int .u32 r.dst, .int .i64 r.proto, .int .i64 r.flow, .int .i64 r.ttl, .bool r.ans, .bool r.dbl, .int .i64 r.back, .int .u32 r.src, .int .i64 z77, .int .i64 r.code, .int .i64 r.left, .int .i64 z79, .int .i64 r.quo]) rfl rfl jdrag27 jdrsz27 rfl (by show 17 ≤ 17; decide) rfl) ?_
     refine TL.pstore (k := 1) (vs := [.int .i64 r.v, .int .i64 r.run, .int .i64 r.num, .int .i64 r.at_, .int .u32 r.dst, .int .i64 r.proto, .int .i64 r.flow, .int .i64 r.ttl, .bool r.ans, .bool r.dbl, .int .i64 r.back, .int .u32 r.src, .int .i64 z77, .int .i64 r.code, .int .i64 r.left, .int .i64 z79, .int .i64 r.quo]) rfl rfl rfl rfl rfl rfl rfl jdrsz27 jdrone_i64i64i64i64u32i64i64i64bbi64u32i64i64i64i64i64 (by show 17 ≤ 17; decide) (L' := ([.blk g3 27 [.int .i64 r.v, .int .i64 r.run, .int .i64 r.num, .int .i64 r.at_, .int .u32 r.dst, .int .i64 r.proto, .int .i64 r.flow, .int .i64 r.ttl, .bool r.ans, .bool r.dbl, .int .i64 r.back, .int .u32 r.src, .int .i64 z77, .int .i64 r.code, .int .i64 r.left, .int .i64 z79, .int .i64 r.quo], .blk g2 27 [.int .i64 r.v, .int .i64 r.run, .int .i64 r.num, .int .i64 r.at_, .int .u32 r.dst, .int .i64 r.proto, .int .i64 r.flow, .int .i64 r.ttl, .bool r.ans, .bool r.dbl, .int .i64 r.back, .int .u32 r.src, .int .i64 z77, .int .i64 r.code, .int .i64 r.left, .int .i64 z79, .int .i64 r.quo], .abs cb (fun w => Cod w cb)] ++ oths cb w)) rfl ?_
     refine TL.end_ (TX.then_ (TC.ret_ ?_))
     exact pm_ret_cell (k := 1) Tryd.results11 rfl rfl Tryd.underlying27 rfl rfl (fun w1 hw => ⟨⟨⟨r.v, r.run, r.num, r.at_, r.dst, r.proto, r.flow, r.ttl, r.ans, r.dbl, r.back, r.src, z77, r.code, r.left, z79, r.quo⟩, by unfold Rs.Ok; dsimp only; omega⟩, rfl, Pm.codr [] (hw.sel (.cons _ (.cons _ (.cons_cons _ (List.Sublist.refl _))))) rfl⟩)
    ·have q75 := of_decide_eq_false h75
     refine TL.as_ ?_
     refine TL.end_ (TX.then_ (TC.condF rfl (TC.seq_ (TC.region ?_))))
     refine TL.vsplit rfl rfl rfl (gives_bin rfl rfl rfl (fun w => bin_eql w)) (fun h85 => ?_) (fun h85 => ?_)
     ·have q85 := of_decide_eq_true h85
      refine TL.as_ ?_
      refine TL.end_ (TX.then_ (TC.condT rfl (TC.region ?_)))
      refine TL.mv ?_
      refine TL.pcallCod (k := 2) (α := Int) (fun y => .int .i64 y) (fun y => []) rfl rfl rfl rfl rfl Tryd.func42 jdrnm42 jdrbd42 rfl (fun w1 hw hC1 => int_cod cb w1 hC1) ?_
      rintro z87
      dsimp only [List.cons_append, List.nil_append]
      refine TL.mv ?_
      refine TL.pcallCod (k := 2) (α := Int) (fun y => .int .i64 y) (fun y => []) rfl rfl rfl rfl rfl Tryd.func42 jdrnm42 jdrbd42 rfl (fun w1 hw hC1 => int_cod cb w1 hC1) ?_
      rintro z89
      dsimp only [List.cons_append, List.nil_append]
      refine TL.mv ?_
      refine TL.pcallCod (k := 2) (α := Int) (fun y => .int .i64 y) (fun y => []) rfl rfl rfl rfl rfl Tryd.func42 jdrnm42 jdrbd42 rfl (fun w1 hw hC1 => int_cod cb w1 hC1) ?_
      rintro z91
      dsimp only [List.cons_append, List.nil_append]
      refine TL.val rfl rfl rfl (gives_field (v := .pointer (some ⟨g3, 0, none⟩)) rfl rfl (fun w => jdrfld27_0 _ _ w)) ?_
      refine TL.pstore (k := 0) (vs := [.int .i64 z87]) rfl rfl rfl rfl rfl rfl rfl jdrsz3 jdrone_i64 (by show 1 ≤ 17; decide) (L' := ([.blk g3 27 [.int .i64 z87, .int .i64 r.run, .int .i64 r.num, .int .i64 r.at_, .int .u32 r.dst, .int .i64 r.proto, .int .i64 r.flow, .int .i64 r.ttl, .bool r.ans, .bool r.dbl, .int .i64 r.back, .int .u32 r.src, .int .i64 r.kind, .int .i64 r.code, .int .i64 r.left, .int .i64 r.id, .int .i64 r.quo], .blk g2 27 Rs.zero.cells, .abs cb (fun w => Cod w cb)] ++ oths cb w)) rfl ?_
      refine TL.val rfl rfl rfl (gives_field (v := .pointer (some ⟨g3, 1, none⟩)) rfl rfl (fun w => jdrfld27_1 _ _ w)) ?_
      refine TL.pstore (k := 0) (vs := [.int .i64 z89]) rfl rfl rfl rfl rfl rfl rfl jdrsz3 jdrone_i64 (by show 2 ≤ 17; decide) (L' := ([.blk g3 27 [.int .i64 z87, .int .i64 z89, .int .i64 r.num, .int .i64 r.at_, .int .u32 r.dst, .int .i64 r.proto, .int .i64 r.flow, .int .i64 r.ttl, .bool r.ans, .bool r.dbl, .int .i64 r.back, .int .u32 r.src, .int .i64 r.kind, .int .i64 r.code, .int .i64 r.left, .int .i64 r.id, .int .i64 r.quo], .blk g2 27 Rs.zero.cells, .abs cb (fun w => Cod w cb)] ++ oths cb w)) rfl ?_
      refine TL.val rfl rfl rfl (gives_field (v := .pointer (some ⟨g3, 2, none⟩)) rfl rfl (fun w => jdrfld27_2 _ _ w)) ?_
      refine TL.pstore (k := 0) (vs := [.int .i64 z91]) rfl rfl rfl rfl rfl rfl rfl jdrsz3 jdrone_i64 (by show 3 ≤ 17; decide) (L' := ([.blk g3 27 [.int .i64 z87, .int .i64 z89, .int .i64 z91, .int .i64 r.at_, .int .u32 r.dst, .int .i64 r.proto, .int .i64 r.flow, .int .i64 r.ttl, .bool r.ans, .bool r.dbl, .int .i64 r.back, .int .u32 r.src, .int .i64 r.kind, .int .i64 r.code, .int .i64 r.left, .int .i64 r.id, .int .i64 r.quo], .blk g2 27 Rs.zero.cells, .abs cb (fun w => Cod w cb)] ++ oths cb w)) rfl ?_
      refine TL.end_ (TX.in_normal (TX.then_ (TC.seq_ (TC.region ?_))))
      refine TL.val rfl rfl rfl (pm_loadV (k := 0) (i := 0) (n := 17) (v := .agg #[.int .i64 z87, .int .i64 z89, .int .i64 z91, .int .i64 r.at_, .int .u32 r.dst, .int .i64 r.proto, .int .i64 r.flow, .int .i64 r.ttl, .bool r.ans, .bool r.dbl, .int .i64 r.back, .int .u32 r.src, .int .i64 r.kind, .int .i64 r.code, .int .i64 r.left, .int .i64 r.id, .int .i64 r.quo]) rfl rfl jdrag27 jdrsz27 rfl (by show 17 ≤ 17; decide) rfl) ?_
      refine TL.pstore (k := 1) (vs := [.int .i64 z87, .int .i64 z89, .int .i64 z91, .int .i64 r.at_, .int .u32 r.dst, .int .i64 r.proto, .int .i64 r.flow, .int .i64 r.ttl, .bool r.ans, .bool r.dbl, .int .i64 r.back, .int .u32 r.src, .int .i64 r.kind, .int .i64 r.code, .int .i64 r.left, .int .i64 r.id, .int .i64 r.quo]) rfl rfl rfl rfl rfl rfl rfl jdrsz27 jdrone_i64i64i64i64u32i64i64i64bbi64u32i64i64i64i64i64 (by show 17 ≤ 17; decide) (L' := ([.blk g3 27 [.int .i64 z87, .int .i64 z89, .int .i64 z91, .int .i64 r.at_, .int .u32 r.dst, .int .i64 r.proto, .int .i64 r.flow, .int .i64 r.ttl, .bool r.ans, .bool r.dbl, .int .i64 r.back, .int .u32 r.src, .int .i64 r.kind, .int .i64 r.code, .int .i64 r.left, .int .i64 r.id, .int .i64 r.quo], .blk g2 27 [.int .i64 z87, .int .i64 z89, .int .i64 z91, .int .i64 r.at_, .int .u32 r.dst, .int .i64 r.proto, .int .i64 r.flow, .int .i64 r.ttl, .bool r.ans, .bool r.dbl, .int .i64 r.back, .int .u32 r.src, .int .i64 r.kind, .int .i64 r.code, .int .i64 r.left, .int .i64 r.id, .int .i64 r.quo], .abs cb (fun w => Cod w cb)] ++ oths cb w)) rfl ?_
      refine TL.end_ (TX.then_ (TC.ret_ ?_))
      exact pm_ret_cell (k := 1) Tryd.results11 rfl rfl Tryd.underlying27 rfl rfl (fun w1 hw => ⟨⟨⟨z87, z89, z91, r.at_, r.dst, r.proto, r.flow, r.ttl, r.ans, r.dbl, r.back, r.src, r.kind, r.code, r.left, r.id, r.quo⟩, by unfold Rs.Ok; dsimp only; omega⟩, rfl, Pm.codr [] (hw.sel (.cons _ (.cons _ (.cons_cons _ (List.Sublist.refl _))))) rfl⟩)
     ·have q85 := of_decide_eq_false h85
      refine TL.as_ ?_
      refine TL.end_ (TX.then_ (TC.condF rfl (TC.skip_ (TX.in_normal (TX.then_ (TC.seq_ (TC.region ?_)))))))
      refine TL.val rfl rfl rfl (pm_loadV (k := 0) (i := 0) (n := 17) (v := .agg (r.cells).toArray) rfl rfl jdrag27 jdrsz27 rfl (by show 17 ≤ 17; decide) rfl) ?_
      refine TL.pstore (k := 1) (vs := r.cells) rfl rfl rfl rfl rfl rfl rfl jdrsz27 jdrone_i64i64i64i64u32i64i64i64bbi64u32i64i64i64i64i64 (by show 17 ≤ 17; decide) (L' := ([.blk g3 27 r.cells, .blk g2 27 r.cells, .abs cb (fun w => Cod w cb)] ++ oths cb w)) rfl ?_
      refine TL.end_ (TX.then_ (TC.ret_ ?_))
      exact pm_ret_cell (k := 1) Tryd.results11 rfl rfl Tryd.underlying27 rfl rfl (fun w1 hw => ⟨⟨⟨r.v, r.run, r.num, r.at_, r.dst, r.proto, r.flow, r.ttl, r.ans, r.dbl, r.back, r.src, r.kind, r.code, r.left, r.id, r.quo⟩, by unfold Rs.Ok; dsimp only; omega⟩, rfl, Pm.codr [] (hw.sel (.cons _ (.cons _ (.cons_cons _ (List.Sublist.refl _))))) rfl⟩)
end Go.Proofs.YtmeaeeehnkcblaaDoor

namespace Go.Proofs.YtmeaeeehnkcblaaDoor
open Go.RowKit
set_option maxRecDepth 20000
theorem rcs_set : ∀ {l : List Rs} {i : Nat} {r r' : Rs} {k : Nat} {u : Value} (_ : l[i]? = some r) (_ : k < 17) (_ : r'.cells = r.cells.set k u), (rcs l).set (i * 17 + k) u = rcs (l.set i r')
 | [], _, _, _, _, _, h, _, _ => by cases h
 | x :: l, 0, r, r', k, u, h, hk, hc => by
  obtain rfl : x = r := by simpa using h
  show (x.cells ++ rcs l).set (0 * 17 + k) u = r'.cells ++ rcs l
  rw [hc, Nat.zero_mul, Nat.zero_add, List.set_append_left _ _ (by rw [rs_cells_len]; exact hk)]
 | x :: l, i + 1, r, r', k, u, h, hk, hc => by
  show (x.cells ++ rcs l).set ((i + 1) * 17 + k) u = x.cells ++ rcs (l.set i r')
  rw [List.set_append_right _ _ (by rw [rs_cells_len]; omega), rs_cells_len, show (i + 1) * 17 + k - 17 = i * 17 + k by omega, rcs_set (by simpa using h) hk hc]
theorem set_parts {xs : List Value} {o : Nat} {u : Value} (h : o < xs.length) : xs.take o ++ [u] ++ xs.drop (o + 1) = xs.set o u := by
 rw [List.set_eq_take_append_cons_drop, if_pos h, List.append_assoc]
 rfl
theorem res_set {l : List Rs} {n : Nat} (hl : l.length = n) (hok : ∀ r ∈ l, r.Ok) (i : Nat) (hi : i < n) (k : Nat) (hk : k < 3) (x : Int) : ∃ l2 : List Rs, l2.length = n ∧ (∀ r ∈ l2, r.Ok) ∧ (rcs l).take (0 + i * 17 + k) ++ [.int .i64 x] ++ (rcs l).drop (0 + i * 17 + k + [Value.int .i64 x].length) = rcs l2 := by
 have hr := List.getElem?_eq_getElem (l := l) (show i < l.length by omega)
 generalize l[i]'(by omega) = r at hr
 have hro := hok r (List.mem_of_getElem? hr)
 have key : ∀ r' : Rs, r'.Ok → r'.cells = r.cells.set k (.int .i64 x) → ∃ l2 : List Rs, l2.length = n ∧ (∀ r ∈ l2, r.Ok) ∧ (rcs l).take (0 + i * 17 + k) ++ [.int .i64 x] ++ (rcs l).drop (0 + i * 17 + k + [Value.int .i64 x].length) = rcs l2 := fun r' h1 h2 => by
  refine ⟨l.set i r', by rw [List.length_set, hl], fun q hq => ?_, ?_⟩
  ·rcases List.mem_or_eq_of_mem_set hq with h | h
   ·exact hok q h
   ·subst h; exact h1
  ·rw [List.length_singleton, Nat.zero_add, set_parts (by rw [rcs_len]; omega)]
   exact rcs_set hr (by omega) h2
 match k, hk with
 | 0, _ => exact key { r with v := x } hro rfl
 | 1, _ => exact key { r with run := x } hro rfl
 | 2, _ => exact key { r with num := x } hro rfl
theorem jrsnm21 : (Tryd.f21.name == "runtime.NumGoroutine") = false := by decide
theorem jrsbd21 : Tryd.f21.body.isNone = false := rfl
theorem jrsnm11 : (Tryd.f11.name == "runtime.NumGoroutine") = false := by decide
theorem jrsbd11 : Tryd.f11.body.isNone = false := rfl
theorem jrszv27 (w : World) : (zeroValue 27).run Tryd.prog w = .ok (.agg #[.int .i64 0, .int .i64 0, .int .i64 0, .int .i64 0, .int .u32 0, .int .i64 0, .int .i64 0, .int .i64 0, .bool false, .bool false, .int .i64 0, .int .u32 0, .int .i64 0, .int .i64 0, .int .i64 0, .int .i64 0, .int .i64 0]) w := rfl
theorem jrssz27 (w : World) : (sizeOf 27).run Tryd.prog w = .ok 17 w := rfl
theorem jrsag27 (w : World) : (isAgg 27).run Tryd.prog w = .ok true w := rfl
theorem jrsnm15 : (Tryd.f15.name == "runtime.NumGoroutine") = false := by decide
theorem jrsbd15 : Tryd.f15.body.isNone = false := rfl
theorem jrsbs33_1_99505 (a0_0 : Int) (a0_1 : Int) (a0_2 : Int) (a0_3 : Int) (a0_4 : Int) (a0_5 : Int) (a0_6 : Int) (a0_7 : Int) (a0_8 : Bool) (a0_9 : Bool) (a0_10 : Int) (a0_11 : Int) (a0_12 : Int) (a0_13 : Int) (a0_14 : Int) (a0_15 : Int) (a0_16 : Int) (w : World) : (Instr.buildSlice 33 1 #[(0, .agg #[.int .i64 a0_0, .int .i64 a0_1, .int .i64 a0_2, .int .i64 a0_3, .int .u32 a0_4, .int .i64 a0_5, .int .i64 a0_6, .int .i64 a0_7, .bool a0_8, .bool a0_9, .int .i64 a0_10, .int .u32 a0_11, .int .i64 a0_12, .int .i64 a0_13, .int .i64 a0_14, .int .i64 a0_15, .int .i64 a0_16])]).run Tryd.prog w = .ok (.slice (some ⟨w.heap.size, 0, none⟩) 1 1) (w.alloc (.cells [.int .i64 a0_0, .int .i64 a0_1, .int .i64 a0_2, .int .i64 a0_3, .int .u32 a0_4, .int .i64 a0_5, .int .i64 a0_6, .int .i64 a0_7, .bool a0_8, .bool a0_9, .int .i64 a0_10, .int .u32 a0_11, .int .i64 a0_12, .int .i64 a0_13, .int .i64 a0_14, .int .i64 a0_15, .int .i64 a0_16].toArray 27)) := by kernel_rfl
theorem jrsel33 : Elem Tryd.prog 33 27 17 128 := Elem.mk' Tryd.underlying33 (z := .agg #[.int .i64 0, .int .i64 0, .int .i64 0, .int .i64 0, .int .u32 0, .int .i64 0, .int .i64 0, .int .i64 0, .bool false, .bool false, .int .i64 0, .int .u32 0, .int .i64 0, .int .i64 0, .int .i64 0, .int .i64 0, .int .i64 0]) (by kernel_rfl) rfl (by omega) (by omega)
theorem jrsbs28_1_5377 (a0_0 : Int) (w : World) : (Instr.buildSlice 28 1 #[(0, .int .u8 a0_0)]).run Tryd.prog w = .ok (.slice (some ⟨w.heap.size, 0, none⟩) 1 1) (w.alloc (.cells [.int .u8 a0_0].toArray 5)) := by kernel_rfl
theorem jrsel28 : Elem Tryd.prog 28 5 1 1 := Elem.mk' Tryd.underlying28 (z := .int .u8 0) (by kernel_rfl) rfl (by omega) (by omega)
theorem jrsnm61 : (Tryd.f61.name == "runtime.NumGoroutine") = false := by decide
theorem jrsbd61 : Tryd.f61.body.isNone = false := rfl
theorem jrsfld45_0 (g o : Nat) (w : World) : (Instr.fieldAt 45 (.pointer (some ⟨g, o, none⟩)) 0).run Tryd.prog w = .ok (.pointer (some ⟨g, o + 0, none⟩)) w := by kernel_rfl
theorem jrsag3 (w : World) : (isAgg 3).run Tryd.prog w = .ok false w := rfl
theorem jrsfld45_1 (g o : Nat) (w : World) : (Instr.fieldAt 45 (.pointer (some ⟨g, o, none⟩)) 1).run Tryd.prog w = .ok (.pointer (some ⟨g, o + 1, none⟩)) w := by kernel_rfl
theorem jrsfld45_2 (g o : Nat) (w : World) : (Instr.fieldAt 45 (.pointer (some ⟨g, o, none⟩)) 2).run Tryd.prog w = .ok (.pointer (some ⟨g, o + 2, none⟩)) w := by kernel_rfl
theorem jrsfld27_0 (g o : Nat) (w : World) : (Instr.fieldAt 27 (.pointer (some ⟨g, o, none⟩)) 0).run Tryd.prog w = .ok (.pointer (some ⟨g, o + 0, none⟩)) w := by kernel_rfl
theorem jrsone_i64 {a0 : Int} : ∀ u ∈ [(.int .i64 a0 : Value)], u.oneCell' = true := by
 intro u hu
 rw [List.mem_singleton] at hu
 subst hu; rfl
theorem jrsfld27_1 (g o : Nat) (w : World) : (Instr.fieldAt 27 (.pointer (some ⟨g, o, none⟩)) 1).run Tryd.prog w = .ok (.pointer (some ⟨g, o + 1, none⟩)) w := by kernel_rfl
theorem jrsfld27_2 (g o : Nat) (w : World) : (Instr.fieldAt 27 (.pointer (some ⟨g, o, none⟩)) 2).run Tryd.prog w = .ok (.pointer (some ⟨g, o + 2, none⟩)) w := by kernel_rfl
set_option maxHeartbeats 1000000 in
theorem results_cod (cb m : Nat) (w : World) (hC : Cod w cb) (hm : m ≤ 1000) :
  Calls Tryd.prog 61 #[.pointer (some ⟨cb, 0, none⟩), .int .i64 (m : Nat)] w fun e w' => ∃ x : {y : (Option Addr × Nat) × List Rs // y.2.length ≤ y.1.2 ∧ y.1.2 ≤ maxLen ∧ y.2.length ≤ m ∧ ∀ r ∈ y.2, chkR r = 0 ∧ r.Ok}, e = .returned (.slice x.1.1.1 x.1.2.length x.1.1.2) ∧ Codr (fun w => Cod w cb) cb w [.row (.slice x.1.1.1 x.1.2.length x.1.1.2) 27 17 x.1.2.length (rcs x.1.2)] w' := by
 refine begin_ (vs := [.pointer (some ⟨cb, 0, none⟩), .int .i64 (m : Nat)]) (I := Pm ⟨w, cb⟩ (.abs cb (fun w => Cod w cb) :: oths cb w)) Tryd.func61 rfl rfl rfl ?_ (Pm.codes hC (cod_cells hC) (cod_stab cb))
 refine TC.seq_ (TC.region ?_)
 refine TL.as_ ?_
 refine TL.end_ (TX.then_ (TC.seq_ (TC.region ?_)))
 refine TL.as_ ?_
 refine TL.end_ (TX.then_ (TC.seq_ (TC.seq_ (TC.region ?_))))
 refine TL.mv ?_
 refine TL.mv ?_
 refine TL.val rfl rfl rfl (gives_bin rfl rfl rfl (fun w => bin_add_ (r := ((m + 1 : Nat) : Int)) (by simp only [IntKind.wrap_i64]; omega) w)) ?_
 refine TL.pcallCod (k := 0) (α := {x : Nat // x ≤ 65535 ∧ (1 ≤ (((m + 1 : Nat) : Int) : Int) → (x : Int) < ((m + 1 : Nat) : Int))}) (fun y => .int .i64 (y.1 : Int)) (fun y => []) rfl rfl rfl rfl rfl Tryd.func21 jrsnm21 jrsbd21 rfl (fun w1 hw hC1 => next_cod cb w1 ((m + 1 : Nat) : Int) hC1) ?_
 rintro ⟨x11, hx111, hx112⟩
 dsimp only [List.cons_append, List.nil_append] at hx111 hx112 ⊢
 replace hx112 := hx112 (by omega)
 refine TL.as_ ?_
 refine TL.end_ (TX.then_ (TC.block ?_))
 refine TC.nilrow 27 17 ?_
 refine TC.loop_ (α := {y : Nat × List Rs × Option Addr × Nat // y.1 + y.2.1.length ≤ m ∧ y.2.1.length ≤ y.2.2.2 ∧ y.2.2.2 ≤ maxLen ∧ ∀ r ∈ y.2.1, chkR r = 0 ∧ r.Ok}) (fun y => [(0, .pointer (some ⟨cb, 0, none⟩)), (5, .slice y.1.2.2.1 y.1.2.1.length y.1.2.2.2), (6, .int .i64 (y.1.1 : Nat))]) (fun y => Pm ⟨w, cb⟩ ([.row (.slice y.1.2.2.1 y.1.2.1.length y.1.2.2.2) 27 17 y.1.2.1.length (rcs y.1.2.1), .abs cb (fun w => Cod w cb)] ++ oths cb w)) (fun y => y.1.1) (⟨(x11, [], none, 0), by dsimp only; rw [List.length_nil]; omega, Nat.le_refl _, Nat.zero_le _, fun r hr => by cases hr⟩) ⟨rfl, rfl, rfl, trivial⟩ (fun w1 hw => hw) ?_
 rintro ⟨⟨k, l, A, c⟩, hkl, hc1, hc2, hok⟩
 dsimp only at hkl hc1 hc2 hok ⊢
 refine TC.seq_ (TC.seq_ (TC.region ?_))
 refine TL.mv ?_
 refine TL.vsplit rfl rfl rfl (gives_bin rfl rfl rfl (fun w => bin_gtr w)) (fun h13 => ?_) (fun h13 => ?_)
 ·have q13 := of_decide_eq_true h13
  have hk0 : 0 < k := by omega
  refine TL.end_ (TX.then_ (TC.condT rfl (TC.skip_ (TX.then_ (TC.seq_ (TC.block (TC.seq_ (TC.region ?_))))))))
  refine TL.mv ?_
  refine TL.pcallCod (k := 1) (α := {x : Rs // x.Ok}) (fun y => .agg (y.1.cells).toArray) (fun y => []) rfl rfl rfl rfl rfl Tryd.func11 jrsnm11 jrsbd11 rfl (fun w1 hw hC1 => result_cod cb w1 hC1) ?_
  rintro ⟨r17, hr17⟩
  dsimp only [List.cons_append, List.nil_append] at hr17 ⊢
  refine TL.pnew rfl rfl rfl (exec_alloc (cs := [.int .i64 0, .int .i64 0, .int .i64 0, .int .i64 0, .int .u32 0, .int .i64 0, .int .i64 0, .int .i64 0, .bool false, .bool false, .int .i64 0, .int .u32 0, .int .i64 0, .int .i64 0, .int .i64 0, .int .i64 0, .int .i64 0]) rfl jrszv27 rfl) (fun g7 => ?_)
  refine TL.pstore (k := 0) (vs := r17.cells) rfl rfl rfl rfl rfl rfl rfl jrssz27 (rs_one r17) (by show 17 ≤ 17; decide) (L' := ([.blk g7 27 r17.cells, .row (.slice A l.length c) 27 17 l.length (rcs l), .abs cb (fun w => Cod w cb)] ++ oths cb w)) rfl ?_
  refine TL.end_ (TX.then_ (TC.seq_ (TC.region ?_)))
  refine TL.val rfl rfl rfl (pm_loadV (k := 0) (i := 0) (n := 17) (v := .agg (r17.cells).toArray) rfl rfl jrsag27 jrssz27 rfl (by show 17 ≤ 17; decide) rfl) ?_
  refine TL.pcall1 (r := .int .i64 (chkR r17)) rfl rfl rfl rfl rfl Tryd.func15 jrsnm15 jrsbd15 (fun w1 hw => rcheck_any r17 w1) ?_
  refine TL.vsplit rfl rfl rfl (gives_bin rfl rfl rfl (fun w => bin_eql w)) (fun h20 => ?_) (fun h20 => ?_)
  ·have q20 := of_decide_eq_true h20
   refine TL.end_ (TX.then_ (TC.condT rfl (TC.region ?_)))
   refine TL.mv ?_
   refine TL.val rfl rfl rfl (pm_loadV (k := 0) (i := 0) (n := 17) (v := .agg (r17.cells).toArray) rfl rfl jrsag27 jrssz27 rfl (by show 17 ≤ 17; decide) rfl) ?_
   refine TL.prowS (e := 27) (size := 17) (cs := rcs [r17]) rfl rfl rfl rfl rfl (fun w => jrsbs33_1_99505 _ _ _ _ _ _ _ _ _ _ _ _ _ _ _ _ _ w) (by decide) rfl (fun g23 => ?_)
   refine TL.appendT (k := 2) rfl rfl rfl rfl Tryd.underlying33 jrsel33 rfl rfl rfl (fun w1 hw => pm_reads hw (k := 0) rfl) (rcs_one _) (by omega) ((l ++ [r17]).length) (by rw [List.length_append]; rfl) (rcs (l ++ [r17])) (by rw [rcs_app]) (fun A24 c24 hA241 hA242 => ?_)
   refine TL.as_ ?_
   refine TL.end_ (TX.in_normal (TX.then_ (TC.region ?_)))
   refine TL.mv ?_
   refine TL.val rfl rfl rfl (gives_bin rfl rfl rfl (fun w => bin_sub_ (r := ((k - 1 : Nat) : Int)) (by simp only [IntKind.wrap_i64]; omega) w)) ?_
   refine TL.as_ ?_
   refine TL.end_ ?_
   exact TX.round (⟨(k - 1, l ++ [r17], A24, c24), by dsimp only; rw [List.length_append, List.length_singleton]; omega, hA241, hA242, fun r hr => (List.mem_append.1 hr).elim (hok r) (fun h => by rw [List.mem_singleton] at h; subst h; exact ⟨q20, hr17⟩)⟩) (by show k - 1 < k; omega) ⟨rfl, rfl, rfl, trivial⟩ (fun w1 hw => hw.sel (.cons _ (.cons _ (.cons_cons _ (.cons_cons _ (List.Sublist.refl _))))))
  ·have q20 := of_decide_eq_false h20
   refine TL.end_ (TX.then_ (TC.condF rfl (TC.skip_ (TX.in_normal (TX.then_ (TC.region ?_))))))
   refine TL.mv ?_
   refine TL.val rfl rfl rfl (gives_bin rfl rfl rfl (fun w => bin_sub_ (r := ((k - 1 : Nat) : Int)) (by simp only [IntKind.wrap_i64]; omega) w)) ?_
   refine TL.as_ ?_
   refine TL.end_ ?_
   exact TX.round (⟨(k - 1, l, A, c), by dsimp only; omega, hc1, hc2, hok⟩) (by show k - 1 < k; omega) ⟨rfl, rfl, rfl, trivial⟩ (fun w1 hw => hw.sel (.cons _ (.cons_cons _ (.cons_cons _ (List.Sublist.refl _)))))
 ·have q13 := of_decide_eq_false h13
  refine TL.end_ (TX.then_ (TC.condF rfl (TC.exit_ (TX.then_exit (TX.then_exit (TX.in_same (TX.then_ (TC.seq_ (TC.region ?_)))))))))
  refine TL.mv ?_
  refine TL.as_ ?_
  refine TL.end_ (TX.then_ (TC.ret_ ?_))
  exact ret_tmp Tryd.results61 rfl (fun w1 hw => ⟨⟨((A, c), l), hc1, hc2, by dsimp only; omega, hok⟩, rfl, Pm.codr [_] (hw) rfl⟩)
set_option maxHeartbeats 1000000 in
theorem bytes_cod (cb m : Nat) (w : World) (hC : Cod w cb) (hm : m ≤ 1000) :
  Calls Tryd.prog 51 #[.pointer (some ⟨cb, 0, none⟩), .int .i64 (m : Nat)] w fun e w' => ∃ x : {y : (Option Addr × Nat) × List Int // y.2.length ≤ y.1.2 ∧ y.1.2 ≤ maxLen ∧ y.2.length ≤ m ∧ Bs y.2}, e = .returned (.slice x.1.1.1 x.1.2.length x.1.1.2) ∧ Codr (fun w => Cod w cb) cb w [.row (.slice x.1.1.1 x.1.2.length x.1.1.2) 5 1 x.1.2.length (bv x.1.2)] w' := by
 refine begin_ (vs := [.pointer (some ⟨cb, 0, none⟩), .int .i64 (m : Nat)]) (I := Pm ⟨w, cb⟩ (.abs cb (fun w => Cod w cb) :: oths cb w)) Tryd.func51 rfl rfl rfl ?_ (Pm.codes hC (cod_cells hC) (cod_stab cb))
 refine TC.seq_ (TC.region ?_)
 refine TL.as_ ?_
 refine TL.end_ (TX.then_ (TC.seq_ (TC.region ?_)))
 refine TL.as_ ?_
 refine TL.end_ (TX.then_ (TC.seq_ (TC.seq_ (TC.region ?_))))
 refine TL.mv ?_
 refine TL.mv ?_
 refine TL.val rfl rfl rfl (gives_bin rfl rfl rfl (fun w => bin_add_ (r := ((m + 1 : Nat) : Int)) (by simp only [IntKind.wrap_i64]; omega) w)) ?_
 refine TL.pcallCod (k := 0) (α := {x : Nat // x ≤ 65535 ∧ (1 ≤ (((m + 1 : Nat) : Int) : Int) → (x : Int) < ((m + 1 : Nat) : Int))}) (fun y => .int .i64 (y.1 : Int)) (fun y => []) rfl rfl rfl rfl rfl Tryd.func21 jrsnm21 jrsbd21 rfl (fun w1 hw hC1 => next_cod cb w1 ((m + 1 : Nat) : Int) hC1) ?_
 rintro ⟨x10, hx101, hx102⟩
 dsimp only [List.cons_append, List.nil_append] at hx101 hx102 ⊢
 replace hx102 := hx102 (by omega)
 refine TL.as_ ?_
 refine TL.end_ (TX.then_ (TC.block ?_))
 refine TC.nilrow 5 1 ?_
 refine TC.loop_ (α := {y : Nat × List Int × Option Addr × Nat // y.1 + y.2.1.length ≤ m ∧ y.2.1.length ≤ y.2.2.2 ∧ y.2.2.2 ≤ maxLen ∧ Bs y.2.1}) (fun y => [(0, .pointer (some ⟨cb, 0, none⟩)), (5, .slice y.1.2.2.1 y.1.2.1.length y.1.2.2.2), (6, .int .i64 (y.1.1 : Nat))]) (fun y => Pm ⟨w, cb⟩ ([.row (.slice y.1.2.2.1 y.1.2.1.length y.1.2.2.2) 5 1 y.1.2.1.length (bv y.1.2.1), .abs cb (fun w => Cod w cb)] ++ oths cb w)) (fun y => y.1.1) (⟨(x10, [], none, 0), by dsimp only; rw [List.length_nil]; omega, Nat.le_refl _, Nat.zero_le _, Bs.nil⟩) ⟨rfl, rfl, rfl, trivial⟩ (fun w1 hw => hw) ?_
 rintro ⟨⟨k, l, A, c⟩, hkl, hc1, hc2, hok⟩
 dsimp only at hkl hc1 hc2 hok ⊢
 refine TC.seq_ (TC.seq_ (TC.region ?_))
 refine TL.mv ?_
 refine TL.vsplit rfl rfl rfl (gives_bin rfl rfl rfl (fun w => bin_gtr w)) (fun h12 => ?_) (fun h12 => ?_)
 ·have q12 := of_decide_eq_true h12
  have hk0 : 0 < k := by omega
  refine TL.end_ (TX.then_ (TC.condT rfl (TC.skip_ (TX.then_ (TC.seq_ (TC.block (TC.region ?_)))))))
  refine TL.mv ?_
  refine TL.mv ?_
  refine TL.pcallCod (k := 1) (α := {x : Nat // x ≤ 65535 ∧ (1 ≤ (256 : Int) → (x : Int) < 256)}) (fun y => .int .i64 (y.1 : Int)) (fun y => []) rfl rfl rfl rfl rfl Tryd.func21 jrsnm21 jrsbd21 rfl (fun w1 hw hC1 => next_cod cb w1 256 hC1) ?_
  rintro ⟨x17, hx171, hx172⟩
  dsimp only [List.cons_append, List.nil_append] at hx171 hx172 ⊢
  replace hx172 := hx172 (by omega)
  refine TL.val rfl rfl rfl (gives_conv rfl rfl (fun w => conv_fit (k := .i64) Tryd.underlying5 Tryd.underlying3 (by simp only [IntKind.wrap_u8]; omega) w)) ?_
  refine TL.prowS (e := 5) (size := 1) (cs := bv [((x17 : Nat) : Int)]) rfl rfl rfl rfl rfl (fun w => jrsbs28_1_5377 _ w) (by decide) rfl (fun g19 => ?_)
  refine TL.appendT (k := 1) rfl rfl rfl rfl Tryd.underlying28 jrsel28 rfl rfl rfl (fun w1 hw => pm_reads hw (k := 0) rfl) (bv_one _) (by omega) ((l ++ [((x17 : Nat) : Int)]).length) (by rw [List.length_append]; rfl) (bv (l ++ [((x17 : Nat) : Int)])) (by rw [bv_app]) (fun A20 c20 hA201 hA202 => ?_)
  refine TL.as_ ?_
  refine TL.end_ (TX.in_normal (TX.then_ (TC.region ?_)))
  refine TL.mv ?_
  refine TL.val rfl rfl rfl (gives_bin rfl rfl rfl (fun w => bin_sub_ (r := ((k - 1 : Nat) : Int)) (by simp only [IntKind.wrap_i64]; omega) w)) ?_
  refine TL.as_ ?_
  refine TL.end_ ?_
  exact TX.round (⟨(k - 1, (l ++ [((x17 : Nat) : Int)]), A20, c20), by dsimp only; rw [List.length_append, List.length_singleton]; omega, hA201, hA202, hok.app (bs_one (by omega))⟩) (by show k - 1 < k; omega) ⟨rfl, rfl, rfl, trivial⟩ (fun w1 hw => hw.sel (.cons _ (.cons_cons _ (.cons_cons _ (List.Sublist.refl _)))))
 ·have q12 := of_decide_eq_false h12
  refine TL.end_ (TX.then_ (TC.condF rfl (TC.exit_ (TX.then_exit (TX.then_exit (TX.in_same (TX.then_ (TC.seq_ (TC.region ?_)))))))))
  refine TL.mv ?_
  refine TL.as_ ?_
  refine TL.end_ (TX.then_ (TC.ret_ ?_))
  exact ret_tmp Tryd.results51 rfl (fun w1 hw => ⟨⟨((A, c), l), hc1, hc2, by dsimp only; omega, hok⟩, rfl, Pm.codr [_] (hw) rfl⟩)
set_option maxHeartbeats 1000000 in
theorem lawresults_cod (cb m : Nat) (v run nn : Int) (A0 : Option Addr) (n0 c0 : Nat) (w : World) (hC : Cod w cb) (hm : m ≤ 1000) (hn0 : -1000000 ≤ nn) (hn1 : nn ≤ 1000000) :
  Calls Tryd.prog 35 #[.pointer (some ⟨cb, 0, none⟩), .agg #[.int .i64 v, .int .i64 run, .int .i64 nn, .slice A0 n0 c0], .int .i64 (m : Nat)] w fun e w' => ∃ x : {y : (Option Addr × Nat) × List Rs // y.2.length ≤ y.1.2 ∧ y.1.2 ≤ maxLen ∧ y.2.length ≤ m ∧ ∀ r ∈ y.2, r.Ok}, e = .returned (.slice x.1.1.1 x.1.2.length x.1.1.2) ∧ Codr (fun w => Cod w cb) cb w [.row (.slice x.1.1.1 x.1.2.length x.1.1.2) 27 17 x.1.2.length (rcs x.1.2)] w' := by
 refine begin_ (vs := [.pointer (some ⟨cb, 0, none⟩), .agg #[.int .i64 v, .int .i64 run, .int .i64 nn, .slice A0 n0 c0], .int .i64 (m : Nat)]) (I := Pm ⟨w, cb⟩ (.abs cb (fun w => Cod w cb) :: oths cb w)) Tryd.func35 rfl rfl rfl ?_ (Pm.codes hC (cod_cells hC) (cod_stab cb))
 refine TC.seq_ (TC.region ?_)
 refine TL.pnew rfl rfl rfl (exec_box (cs := [.int .i64 v, .int .i64 run, .int .i64 nn, .slice A0 n0 c0]) rfl rfl rfl) (fun g4 => ?_)
 refine TL.as_ ?_
 refine TL.end_ (TX.then_ (TC.seq_ (TC.region ?_)))
 refine TL.mv ?_
 refine TL.mv ?_
 refine TL.pcallCod (k := 1) (α := {y : (Option Addr × Nat) × List Rs // y.2.length ≤ y.1.2 ∧ y.1.2 ≤ maxLen ∧ y.2.length ≤ m ∧ ∀ r ∈ y.2, chkR r = 0 ∧ r.Ok}) (fun y => .slice y.1.1.1 y.1.2.length y.1.1.2) (fun y => [.row (.slice y.1.1.1 y.1.2.length y.1.1.2) 27 17 y.1.2.length (rcs y.1.2)]) rfl rfl rfl rfl rfl Tryd.func61 jrsnm61 jrsbd61 rfl (fun w1 hw hC1 => results_cod cb m w1 hC1 (by omega)) ?_
 rintro ⟨⟨⟨A, c⟩, l11⟩, hA111, hA112, hA113, hA114⟩
 dsimp only [List.cons_append, List.nil_append] at hA111 hA112 hA113 hA114 ⊢
 replace hA114 : ∀ r ∈ l11, r.Ok := fun r hr => (hA114 r hr).2
 obtain ⟨n, hA113'⟩ : ∃ n, l11.length = n := ⟨_, rfl⟩
 rw [hA113'] at hA111 hA113 ⊢
 have hnm := hA113
 replace hA113 := hA113'
 refine TL.as_ ?_
 refine TL.end_ (TX.then_ (TC.seq_ (TC.seq_ (TC.region ?_))))
 refine TL.as_ ?_
 refine TL.end_ (TX.then_ (TC.block ?_))
 refine TC.loop_ (α := {y : Nat × List Rs // y.1 ≤ n ∧ y.2.length = n ∧ ∀ r ∈ y.2, r.Ok}) (fun y => [(0, .pointer (some ⟨cb, 0, none⟩)), (4, .pointer (some ⟨g4, 0, none⟩)), (7, .slice A n c), (8, .int .i64 (y.1.1 : Nat))]) (fun y => Pm ⟨w, cb⟩ ([.row (.slice A n c) 27 17 n (rcs y.1.2), .blk g4 45 [.int .i64 v, .int .i64 run, .int .i64 nn, .slice A0 n0 c0], .abs cb (fun w => Cod w cb)] ++ oths cb w)) (fun y => n - y.1.1) (⟨(0, l11), Nat.zero_le _, hA113, hA114⟩) ⟨rfl, rfl, rfl, rfl, trivial⟩ (fun w1 hw => hw) ?_
 rintro ⟨⟨i, l⟩, hi, hl, hok⟩
 dsimp only at hi hl hok ⊢
 refine TC.seq_ (TC.seq_ (TC.region ?_))
 refine TL.mv ?_
 refine TL.mv ?_
 refine TL.val rfl rfl rfl (gives_len rfl Tryd.underlying33 rfl) ?_
 refine TL.vsplit rfl rfl rfl (gives_bin rfl rfl rfl (fun w => bin_lss w)) (fun h15 => ?_) (fun h15 => ?_)
 ·have q15 := of_decide_eq_true h15
  have hi2 : i < n := by omega
  refine TL.fact (p := ∃ g, A = some ⟨g, 0, none⟩) (fun w1 hw => row_some (hw.at_ (k := 0) rfl) (by omega)) (fun hg => ?_)
  obtain ⟨g, rfl⟩ := hg
  refine TL.end_ (TX.then_ (TC.condT rfl (TC.skip_ (TX.then_ (TC.seq_ (TC.block ?_))))))
  refine TC.held (ls := #[Ff,Ff,Ff,Ff,Ff,Ff,Ff,Ff,Ff,Ff,Ff,Ff,Ff,Ff,Ff,Ff,Ff,Ff,Ff,Ff,Ff,Ff,Ff]) (Pm ⟨w, cb⟩ ([.blk g4 45 [.int .i64 v, .int .i64 run, .int .i64 nn, .slice A0 n0 c0], .abs cb (fun w => Cod w cb)] ++ oths cb w)) (by kernel_rfl) rfl rfl (fun w hw => hw.drawn _) ?_
  refine TH.tk (listed' := #[Tt,Ff,Ff,Ff,Ff,Ff,Ff,Ff,Ff,Ff,Ff,Ff,Ff,Ff,Ff,Ff,Ff,Ff,Ff,Ff,Ff,Ff,Ff]) 0 rfl rfl rfl (gives_move rfl rfl) (fun w1 hw => hw.sel (.cons _ (.cons_cons _ (.cons_cons _ (List.Sublist.refl _))))) ?_
  refine TH.tk (listed' := #[Tt,Tt,Ff,Ff,Ff,Ff,Ff,Ff,Ff,Ff,Ff,Ff,Ff,Ff,Ff,Ff,Ff,Ff,Ff,Ff,Ff,Ff,Ff]) 1 rfl rfl rfl (gives_move rfl rfl) (fun w1 hw => hw.sel (.cons _ (.cons_cons _ (.cons_cons _ (List.Sublist.refl _))))) ?_
  refine TH.tk (listed' := #[Tt,Tt,Tt,Ff,Ff,Ff,Ff,Ff,Ff,Ff,Ff,Ff,Ff,Ff,Ff,Ff,Ff,Ff,Ff,Ff,Ff,Ff,Ff]) 2 rfl rfl rfl (gives_move rfl rfl) (fun w1 hw => hw.sel (.cons _ (.cons_cons _ (.cons_cons _ (List.Sublist.refl _))))) ?_
  refine TH.tk (listed' := #[Tt,Tt,Tt,Tt,Ff,Ff,Ff,Ff,Ff,Ff,Ff,Ff,Ff,Ff,Ff,Ff,Ff,Ff,Ff,Ff,Ff,Ff,Ff]) 3 rfl rfl rfl (gives_move rfl rfl) (fun w1 hw => hw.sel (.cons _ (.cons_cons _ (.cons_cons _ (List.Sublist.refl _))))) ?_
  refine TH.tk (listed' := #[Tt,Tt,Tt,Tt,Tt,Ff,Ff,Ff,Ff,Ff,Ff,Ff,Ff,Ff,Ff,Ff,Ff,Ff,Ff,Ff,Ff,Ff,Ff]) 4 rfl rfl rfl (gives_move rfl rfl) (fun w1 hw => hw.sel (.cons _ (.cons_cons _ (.cons_cons _ (List.Sublist.refl _))))) ?_
  refine TH.tk (listed' := #[Tt,Tt,Tt,Tt,Tt,Tt,Ff,Ff,Ff,Ff,Ff,Ff,Ff,Ff,Ff,Ff,Ff,Ff,Ff,Ff,Ff,Ff,Ff]) 5 rfl rfl rfl (gives_move rfl rfl) (fun w1 hw => hw.sel (.cons _ (.cons_cons _ (.cons_cons _ (List.Sublist.refl _))))) ?_
  refine TH.tk (listed' := #[Tt,Tt,Tt,Tt,Tt,Tt,Tt,Ff,Ff,Ff,Ff,Ff,Ff,Ff,Ff,Ff,Ff,Ff,Ff,Ff,Ff,Ff,Ff]) 6 rfl rfl rfl (gives_field (v := .pointer (some ⟨g4, 0, none⟩)) rfl rfl (fun w => jrsfld45_0 _ _ w)) (fun w1 hw => hw.sel (.cons _ (.cons_cons _ (.cons_cons _ (List.Sublist.refl _))))) ?_
  refine TH.tk (listed' := #[Tt,Tt,Tt,Tt,Tt,Tt,Tt,Tt,Ff,Ff,Ff,Ff,Ff,Ff,Ff,Ff,Ff,Ff,Ff,Ff,Ff,Ff,Ff]) 7 rfl rfl rfl (pm_load (k := 0) (i := 0) rfl rfl jrsag3 rfl rfl) (fun w1 hw => hw.sel (.cons _ (.cons_cons _ (.cons_cons _ (List.Sublist.refl _))))) ?_
  refine TH.tk (listed' := #[Tt,Tt,Tt,Tt,Tt,Tt,Tt,Tt,Tt,Ff,Ff,Ff,Ff,Ff,Ff,Ff,Ff,Ff,Ff,Ff,Ff,Ff,Ff]) 8 rfl rfl rfl (gives_field (v := .pointer (some ⟨g4, 1, none⟩)) rfl rfl (fun w => jrsfld45_1 _ _ w)) (fun w1 hw => hw.sel (.cons _ (.cons_cons _ (.cons_cons _ (List.Sublist.refl _))))) ?_
  refine TH.tk (listed' := #[Tt,Tt,Tt,Tt,Tt,Tt,Tt,Tt,Tt,Tt,Ff,Ff,Ff,Ff,Ff,Ff,Ff,Ff,Ff,Ff,Ff,Ff,Ff]) 9 rfl rfl rfl (pm_load (k := 0) (i := 1) rfl rfl jrsag3 rfl rfl) (fun w1 hw => hw.sel (.cons _ (.cons_cons _ (.cons_cons _ (List.Sublist.refl _))))) ?_
  refine TH.tk (listed' := #[Tt,Tt,Tt,Tt,Tt,Tt,Tt,Tt,Tt,Tt,Tt,Ff,Ff,Ff,Ff,Ff,Ff,Ff,Ff,Ff,Ff,Ff,Ff]) 10 rfl rfl rfl (gives_field (v := .pointer (some ⟨g4, 2, none⟩)) rfl rfl (fun w => jrsfld45_2 _ _ w)) (fun w1 hw => hw.sel (.cons _ (.cons_cons _ (.cons_cons _ (List.Sublist.refl _))))) ?_
  refine TH.tk (listed' := #[Tt,Tt,Tt,Tt,Tt,Tt,Tt,Tt,Tt,Tt,Tt,Tt,Ff,Ff,Ff,Ff,Ff,Ff,Ff,Ff,Ff,Ff,Ff]) 11 rfl rfl rfl (pm_load (k := 0) (i := 2) rfl rfl jrsag3 rfl rfl) (fun w1 hw => hw.sel (.cons _ (.cons_cons _ (.cons_cons _ (List.Sublist.refl _))))) ?_
  refine TH.tk (listed' := #[Tt,Tt,Tt,Tt,Tt,Tt,Tt,Tt,Tt,Tt,Tt,Tt,Tt,Ff,Ff,Ff,Ff,Ff,Ff,Ff,Ff,Ff,Ff]) 12 rfl rfl rfl (gives_move rfl rfl) (fun w1 hw => hw.sel (.cons _ (.cons_cons _ (.cons_cons _ (List.Sublist.refl _))))) ?_
  refine TH.tk (listed' := #[Tt,Tt,Tt,Tt,Tt,Tt,Tt,Tt,Tt,Tt,Tt,Tt,Tt,Tt,Ff,Ff,Ff,Ff,Ff,Ff,Ff,Ff,Ff]) 13 rfl rfl rfl (gives_bin rfl rfl rfl (fun w => bin_add_ (r := nn + (i : Nat)) (by simp only [IntKind.wrap_i64]; omega) w)) (fun w1 hw => hw.sel (.cons _ (.cons_cons _ (.cons_cons _ (List.Sublist.refl _))))) ?_
  refine TH.tk (listed' := #[Tt,Tt,Tt,Tt,Tt,Tt,Tt,Tt,Tt,Tt,Tt,Tt,Tt,Tt,Tt,Ff,Ff,Ff,Ff,Ff,Ff,Ff,Ff]) 14 rfl rfl rfl (gives_at (v := .pointer (some ⟨g, 0 + i * 17, none⟩)) rfl rfl rfl (fun w => at_el Tryd.underlying33 jrssz27 rfl n c i hi2 rfl w)) (fun w1 hw => hw.sel (.cons _ (.cons_cons _ (.cons_cons _ (List.Sublist.refl _))))) ?_
  refine TH.tk (listed' := #[Tt,Tt,Tt,Tt,Tt,Tt,Tt,Tt,Tt,Tt,Tt,Tt,Tt,Tt,Tt,Tt,Ff,Ff,Ff,Ff,Ff,Ff,Ff]) 15 rfl rfl rfl (gives_field (v := .pointer (some ⟨g, 0 + i * 17 + 0, none⟩)) rfl rfl (fun w => jrsfld27_0 _ _ w)) (fun w1 hw => hw.sel (.cons _ (.cons_cons _ (.cons_cons _ (List.Sublist.refl _))))) ?_
  refine TH.only' (listed' := #[Tt,Tt,Tt,Tt,Tt,Tt,Tt,Tt,Tt,Tt,Tt,Tt,Tt,Tt,Tt,Tt,Tt,Ff,Ff,Ff,Ff,Ff,Ff]) 16 rfl (by kernel_rfl) rfl ?_
  obtain ⟨la, hla1, hla2, hla3⟩ := res_set (l := l) hl hok i (by omega) 0 (by decide) (v)
  refine TL.rowset (k := 0) (off := 0 + i * 17 + 0) (vs := [.int .i64 (v)]) rfl rfl rfl rfl rfl rfl rfl (fun w => rfl) (jrsone_i64) (by rw [rcs_len]; simp only [List.length_singleton]; omega) hla3 ?_
  refine TL.end_ ?_
  refine TX.held (fun w1 hw => hw.sel (.cons _ (.cons_cons _ (.cons_cons _ (List.Sublist.refl _))))) ?_
  refine TH.tk (listed' := #[Tt,Tt,Tt,Tt,Tt,Tt,Tt,Tt,Tt,Tt,Tt,Tt,Tt,Tt,Tt,Tt,Tt,Tt,Ff,Ff,Ff,Ff,Ff]) 17 rfl rfl rfl (gives_at (v := .pointer (some ⟨g, 0 + i * 17, none⟩)) rfl rfl rfl (fun w => at_el Tryd.underlying33 jrssz27 rfl n c i hi2 rfl w)) (fun w1 hw => hw.sel (.cons _ (.cons_cons _ (.cons_cons _ (List.Sublist.refl _))))) ?_
  refine TH.tk (listed' := #[Tt,Tt,Tt,Tt,Tt,Tt,Tt,Tt,Tt,Tt,Tt,Tt,Tt,Tt,Tt,Tt,Tt,Tt,Tt,Ff,Ff,Ff,Ff]) 18 rfl rfl rfl (gives_field (v := .pointer (some ⟨g, 0 + i * 17 + 1, none⟩)) rfl rfl (fun w => jrsfld27_1 _ _ w)) (fun w1 hw => hw.sel (.cons _ (.cons_cons _ (.cons_cons _ (List.Sublist.refl _))))) ?_
  refine TH.only' (listed' := #[Tt,Tt,Tt,Tt,Tt,Tt,Tt,Tt,Tt,Tt,Tt,Tt,Tt,Tt,Tt,Tt,Tt,Tt,Tt,Tt,Ff,Ff,Ff]) 19 rfl (by kernel_rfl) rfl ?_
  obtain ⟨lb, hlb1, hlb2, hlb3⟩ := res_set (l := la) hla1 hla2 i (by omega) 1 (by decide) (run)
  refine TL.rowset (k := 0) (off := 0 + i * 17 + 1) (vs := [.int .i64 (run)]) rfl rfl rfl rfl rfl rfl rfl (fun w => rfl) (jrsone_i64) (by rw [rcs_len]; simp only [List.length_singleton]; omega) hlb3 ?_
  refine TL.end_ ?_
  refine TX.held (fun w1 hw => hw.sel (.cons _ (.cons_cons _ (.cons_cons _ (List.Sublist.refl _))))) ?_
  refine TH.tk (listed' := #[Tt,Tt,Tt,Tt,Tt,Tt,Tt,Tt,Tt,Tt,Tt,Tt,Tt,Tt,Tt,Tt,Tt,Tt,Tt,Tt,Tt,Ff,Ff]) 20 rfl rfl rfl (gives_at (v := .pointer (some ⟨g, 0 + i * 17, none⟩)) rfl rfl rfl (fun w => at_el Tryd.underlying33 jrssz27 rfl n c i hi2 rfl w)) (fun w1 hw => hw.sel (.cons _ (.cons_cons _ (.cons_cons _ (List.Sublist.refl _))))) ?_
  refine TH.tk (listed' := #[Tt,Tt,Tt,Tt,Tt,Tt,Tt,Tt,Tt,Tt,Tt,Tt,Tt,Tt,Tt,Tt,Tt,Tt,Tt,Tt,Tt,Tt,Ff]) 21 rfl rfl rfl (gives_field (v := .pointer (some ⟨g, 0 + i * 17 + 2, none⟩)) rfl rfl (fun w => jrsfld27_2 _ _ w)) (fun w1 hw => hw.sel (.cons _ (.cons_cons _ (.cons_cons _ (List.Sublist.refl _))))) ?_
  refine TH.only' (listed' := #[Tt,Tt,Tt,Tt,Tt,Tt,Tt,Tt,Tt,Tt,Tt,Tt,Tt,Tt,Tt,Tt,Tt,Tt,Tt,Tt,Tt,Tt,Tt]) 22 rfl (by kernel_rfl) rfl ?_
  obtain ⟨lc, hlc1, hlc2, hlc3⟩ := res_set (l := lb) hlb1 hlb2 i (by omega) 2 (by decide) (nn + (i : Nat))
  refine TL.rowset (k := 0) (off := 0 + i * 17 + 2) (vs := [.int .i64 (nn + (i : Nat))]) rfl rfl rfl rfl rfl rfl rfl (fun w => rfl) (jrsone_i64) (by rw [rcs_len]; simp only [List.length_singleton]; omega) hlc3 ?_
  refine TL.end_ ?_
  refine TX.held (fun w1 hw => hw.sel (.cons _ (.cons_cons _ (.cons_cons _ (List.Sublist.refl _))))) ?_
  refine TH.done (by kernel_rfl) ?_
  refine TX.in_normal (TX.then_ (TC.region ?_))
  refine TL.mv ?_
  refine TL.val rfl rfl rfl (gives_bin rfl rfl rfl (fun w => bin_add_ (r := ((i + 1 : Nat) : Int)) (by simp only [IntKind.wrap_i64]; omega) w)) ?_
  refine TL.as_ ?_
  refine TL.end_ ?_
  exact TX.round (⟨(i + 1, lc), hi2, hlc1, hlc2⟩) (by show n - (i + 1) < n - i; omega) ⟨rfl, rfl, rfl, rfl, trivial⟩ (fun w1 hw => hw)
 ·have q15 := of_decide_eq_false h15
  refine TL.end_ (TX.then_ (TC.condF rfl (TC.exit_ (TX.then_exit (TX.then_exit (TX.in_same (TX.then_ (TC.seq_ (TC.region ?_)))))))))
  refine TL.mv ?_
  refine TL.as_ ?_
  refine TL.end_ (TX.then_ (TC.ret_ ?_))
  exact ret_tmp Tryd.results35 rfl (fun w1 hw => by subst hl; exact ⟨⟨((A, c), l), hA111, hA112, hnm, hok⟩, rfl, Pm.codr [_] (hw.sel (.cons_cons _ (.cons _ (.cons_cons _ (List.Sublist.refl _))))) rfl⟩)
end Go.Proofs.YtmeaeeehnkcblaaDoor

namespace Go.Proofs.YtmeaeeehnkcblaaDoor
open Go.RowKit
theorem Pm.pickT {w0 : Base} {w : World} {L P' T : List Pc} (h : Pm w0 L w) (n : Nat) (ks : List Nat) (hn : ks.Nodup) (hlt : ∀ k ∈ ks, k < n) (he : ks.map (fun k => L[k]?) = P'.map some) (hT : L.drop n = T) : Pm w0 (P' ++ T) w := by
 subst hT
 have hP := h.pick ks hn he
 have hL : Pm w0 (L.take n ++ L.drop n) w := by rw [List.take_append_drop]; exact h
 have ha := List.pairwise_append.1 hL.apart
 refine ⟨h.bel, fun q hq => (List.mem_append.1 hq).elim (hP.own q) fun h2 => hL.own q (List.mem_append_right _ h2), List.pairwise_append.2 ⟨hP.apart, ha.2.1, fun q hq r hr => ha.2.2 q ?_ r hr⟩, h.oth, h.low⟩
 obtain ⟨i, hi⟩ := List.getElem?_of_mem hq
 have e := congrArg (fun l => l[i]?) he
 simp only [List.getElem?_map, hi, Option.map_some] at e
 cases hk : ks[i]? with
 | none => rw [hk] at e; simp at e
 | some k =>
  rw [hk] at e
  simp only [Option.map_some, Option.some.injEq] at e
  have hkn := hlt k (List.mem_of_getElem? hk)
  refine List.mem_of_getElem? (i := k) ?_
  rw [List.getElem?_take_of_lt hkn]
  exact e
theorem Pm.perm {w0 : Base} {w : World} {L L' : List Pc} (h : Pm w0 L w) (hp : L.Perm L') : Pm w0 L' w :=
 ⟨h.bel, fun q hq => h.own q (hp.mem_iff.2 hq), (hp.pairwise_iff (fun {p q} hpq g hg he => hpq g he hg)).1 h.apart, h.oth, h.low⟩
def segP (ss : List Sl) : List Pc := ss.map fun s => .row s.val 5 1 s.n (bv s.l)
theorem Pm.tuck {w0 : Base} {w : World} {s : Sl} {P T : List Pc} {S : List Sl} (h : Pm w0 ((.row s.val 5 1 s.n (bv s.l) :: P) ++ (segP S ++ T)) w) : Pm w0 (P ++ (segP (S ++ [s]) ++ T)) w := by
 refine h.perm ?_
 have e : segP (S ++ [s]) = segP S ++ [.row s.val 5 1 s.n (bv s.l)] := by simp [segP]
 rw [e, List.cons_append]
 refine List.perm_middle.symm.trans (List.Perm.append_left P ?_)
 rw [List.append_assoc]
 exact List.perm_middle.symm
theorem segP_noAbs (ss : List Sl) : noAbs (segP ss) = true := by
 induction ss with
 | nil => rfl
 | cons s ss ih => exact ih
theorem segP_mem {ss : List Sl} {s : Sl} (h : s ∈ ss) : Pc.row s.val 5 1 s.n (bv s.l) ∈ segP ss := List.mem_map.2 ⟨s, h, rfl⟩
inductive Jrn (key : List Int) : List (List Int) → List Rs → Chn → Prop
 | start (v run : Int) (h : idOk v run) : Jrn key [bgS v run key] [] (bgC v run key)
 | more {ls : List (List Int)} {all : List Rs} {c : Chn} {rl : List Rs} (hj : Jrn key ls all c) (h : apE c rl = 0) (ho : ∀ r ∈ rl, r.Ok) : Jrn key (ls ++ [apS c rl key]) (all ++ rl) (apC c rl key)
theorem jrn_inv {key : List Int} {ls : List (List Int)} {all : List Rs} {c : Chn} (h : Jrn key ls all c) : 0 ≤ c.n ∧ c.n ≤ 1000 ∧ c.dg.length = 32 ∧ Bs c.dg := by
 cases h with
 | start v run h => rw [(bg_ok h key).1]; exact ⟨Int.le_refl _, (by decide : (0 : Int) ≤ 1000), shaF_len _, shaF_bs _⟩
 | more hj h ho =>
  obtain ⟨g1, g2, g3, g4, g5, g6, g7, g8, g9, _⟩ := ap_id h
  rw [(ap_ok h key).1]
  exact ⟨by dsimp only; omega, by dsimp only; omega, shaF_len _, shaF_bs _⟩
def SlOk (s : Sl) : Prop := s.l.length = s.n ∧ s.n ≤ s.c ∧ s.c ≤ maxLen ∧ Bs s.l ∧ 73 ≤ s.n ∧ s.n ≤ 300
structure Bk where
 As : Option Addr
 cs : Nat
 ss : List Sl
 Aa : Option Addr
 ca : Nat
 all : List Rs
 Ad : Option Addr
 cd : Nat
 ch : Chn
 Ak : Option Addr
 ck : Nat
 key : List Int
structure BkI (b : Bk) : Prop where
 jr : Jrn b.key (b.ss.map (·.l)) b.all b.ch
 so : ∀ s ∈ b.ss, SlOk s
 s1 : b.ss.length ≤ b.cs
 s2 : b.cs ≤ maxLen
 a1 : b.all.length ≤ b.ca
 a2 : b.ca ≤ maxLen
 d1 : b.ch.dg.length ≤ b.cd
 d2 : b.cd ≤ maxLen
 k1 : b.key.length ≤ b.ck
 k2 : b.ck ≤ maxLen
 kb : Bs b.key
 k8 : b.key.length ≤ 8
 al : b.all.length + 4 ≤ 4 * b.ss.length
theorem Bk.more {As : Option Addr} {cs : Nat} {ss : List Sl} {Aa : Option Addr} {ca : Nat} {all : List Rs} {Ad : Option Addr} {cd : Nat} {ch : Chn} {Ak : Option Addr} {ck : Nat} {key : List Int} (h : BkI ⟨As, cs, ss, Aa, ca, all, Ad, cd, ch, Ak, ck, key⟩) {rl : List Rs} (hE : apE ch rl = 0) (ho : ∀ r ∈ rl, r.Ok) (h4 : rl.length ≤ 4)
  {As' Aa' Ad' AP : Option Addr} {cs' ca' cd' cP : Nat} (s1 : (ss ++ [(⟨AP, (apS ch rl key).length, cP, apS ch rl key⟩ : Sl)]).length ≤ cs') (s2 : cs' ≤ maxLen) (a1 : (all ++ rl).length ≤ ca') (a2 : ca' ≤ maxLen) (d1 : (apC ch rl key).dg.length ≤ cd') (d2 : cd' ≤ maxLen) (p1 : (apS ch rl key).length ≤ cP) (p2 : cP ≤ maxLen) :
  BkI ⟨As', cs', ss ++ [⟨AP, (apS ch rl key).length, cP, apS ch rl key⟩], Aa', ca', all ++ rl, Ad', cd', apC ch rl key, Ak, ck, key⟩ := by
 have hd := jrn_inv h.jr
 obtain ⟨g1, g2, g3, g4, g5, g6, g7, g8, g9, g10⟩ := ap_id hE
 have hS := (ap_ok hE key).2.1
 have hl : (apS ch rl key).length = 73 + 37 * rl.length := by rw [hS]; exact seg_len hd.2.2.1 g10
 have hbs : Bs (apS ch rl key) := by rw [hS]; exact segL_bs _ _ _ hd.2.2.2 _ _
 have hal := h.al
 refine ⟨?_, fun s hs => ?_, s1, s2, a1, a2, d1, d2, h.k1, h.k2, h.kb, h.k8, ?_⟩
 ·show Jrn key ((ss ++ [_]).map fun s : Sl => s.l) (all ++ rl) (apC ch rl key)
  rw [List.map_append]
  exact .more h.jr hE ho
 ·rcases List.mem_append.1 hs with hs | hs
  ·exact h.so s hs
  ·rw [List.mem_singleton] at hs
   subst hs
   exact ⟨rfl, p1, p2, hbs, by dsimp only; omega, by dsimp only; omega⟩
 ·show (all ++ rl).length + 4 ≤ 4 * (ss ++ [_]).length
  rw [List.length_append, List.length_append, List.length_singleton]
  dsimp only at hal
  omega
theorem Bk.start {As Ad Ak AB : Option Addr} {cs cd ck cB : Nat} {v run : Int} {key : List Int} (hi : idOk v run) (s1 : 1 ≤ cs) (s2 : cs ≤ maxLen) (d1 : (bgC v run key).dg.length ≤ cd) (d2 : cd ≤ maxLen) (k1 : key.length ≤ ck) (k2 : ck ≤ maxLen) (kb : Bs key) (k8 : key.length ≤ 8) (p1 : (bgS v run key).length ≤ cB) (p2 : cB ≤ maxLen) :
  BkI ⟨As, cs, [⟨AB, (bgS v run key).length, cB, bgS v run key⟩], none, 0, [], Ad, cd, bgC v run key, Ak, ck, key⟩ := by
 have hS := (bg_ok hi key).2.1
 have hl : (bgS v run key).length = 73 := by rw [hS]; exact seg_len (rl := []) zero32 (fun r hr => by cases hr)
 have hbs : Bs (bgS v run key) := by rw [hS]; exact segL_bs _ _ _ (zeroL_bs _) _ _
 refine ⟨.start v run hi, fun s hs => ?_, s1, s2, Nat.le_refl _, Nat.zero_le _, d1, d2, k1, k2, kb, k8, Nat.le_refl 4⟩
 rw [List.mem_singleton] at hs
 subst hs
 exact ⟨rfl, p1, p2, hbs, by dsimp only; omega, by dsimp only; omega⟩
end Go.Proofs.YtmeaeeehnkcblaaDoor

namespace Go.Proofs.YtmeaeeehnkcblaaDoor
open Go.RowKit
set_option maxRecDepth 20000
theorem byt_cutP {w : World} {B n c p k : Nat} {A : Option Addr} {l : List Int} (h : Byt w B A n l) (hpk : p + k ≤ n) (hnc : n ≤ c) : Byt w B (if c = p then A else A.map (·.add p)) k ((l.drop p).take k) :=
 (h.cut (k := p) (cap := c) (by omega) hnc).head (by omega)
theorem cut_pA (A : Option Addr) (n c p k : Nat) (h : p + k ≤ c) (w : World) : (Instr.sliceAt 28 (.slice A n c) (some (.int .i64 (p : Int))) (some (.int .i64 ((p + k : Nat) : Int))) none).run Tryd.prog w = .ok (.slice (if c = p then A else A.map (·.add p)) k (c - p)) w := by
 rw [cut_lh (size := 1) (lo := p) (hi := p + k) Tryd.underlying28 (fun w => rfl) _ _ _ rfl rfl (by omega) h w, Nat.mul_one, Nat.add_sub_cancel_left]
theorem cnext0 (g : Nat) (A : Option Addr) (n c : Nat) (l : List Int) (p k : Nat) (w : World) (hg : Blk w g 82 #[.slice A n c, .int .i64 (p : Int), .int .i64 0]) (hb : Byt w w.heap.size A n l) (hne : 0 < n → ∀ ad, A = some ad → ad.block ≠ g) (hnc : n ≤ c) (hlim : n ≤ 140737488355328) (hk1 : 1 ≤ k) (hk7 : k ≤ 7) (hpk : p + k ≤ n ∧ p ≤ 1000000000) :
  Calls Tryd.prog 49 #[.pointer (some ⟨g, 0, none⟩), .int .i64 (k : Int)] w fun e w' => ∃ y : Unit, e = .returned (.int .i64 (getN l p k)) ∧ Chg g 82 [.slice A n c, .int .i64 ((p + k : Nat) : Int), .int .i64 0] w [] w' := by
 have h := cnext g A n c l p k 0 w hg hb hne hnc hlim hk1 hk7 hpk.2
 have hln := hb.len
 rw [getJ_ok p k (by omega), if_pos rfl] at h
 rw [show getJE l p k = 0 from if_neg (by omega)] at h
 exact h
abbrev PartY (l : List Int) : Type := {p : (Option Addr × Nat) × (Option Addr × Nat) // (32 ≤ p.1.2 ∧ p.1.2 ≤ maxLen) ∧ (cnt l ≤ p.2.2 ∧ p.2.2 ≤ maxLen)}
theorem jrdfld82_1 (g o : Nat) (w : World) : (Instr.fieldAt 82 (.pointer (some ⟨g, o, none⟩)) 1).run Tryd.prog w = .ok (.pointer (some ⟨g, o + 1, none⟩)) w := by kernel_rfl
theorem jrdag3 (w : World) : (isAgg 3).run Tryd.prog w = .ok false w := rfl
theorem jrdfld82_0 (g o : Nat) (w : World) : (Instr.fieldAt 82 (.pointer (some ⟨g, o, none⟩)) 0).run Tryd.prog w = .ok (.pointer (some ⟨g, o + 0, none⟩)) w := by kernel_rfl
theorem jrdag28 (w : World) : (isAgg 28).run Tryd.prog w = .ok false w := rfl
theorem jrdsz3 (w : World) : (sizeOf 3).run Tryd.prog w = .ok 1 w := rfl
theorem jrdone_i64 {a0 : Int} : ∀ u ∈ [(.int .i64 a0 : Value)], u.oneCell' = true := by
 intro u hu
 rw [List.mem_singleton] at hu
 subst hu; rfl
theorem jrdnm69 : (Tryd.f69.name == "runtime.NumGoroutine") = false := by decide
theorem jrdbd69 : Tryd.f69.body.isNone = false := rfl
theorem jrdzv86 (w : World) : (zeroValue 86).run Tryd.prog w = .ok (.agg #[.int .i64 0, .int .i64 0, .int .i64 0, .int .i64 0, .slice none 0 0, .slice none 0 0]) w := rfl
theorem jrdbld82_10581 (a0_0 : Option Addr) (a0_0n a0_0c : Nat) (a1_0 : Int) (w : World) : (Instr.build 82 #[(0, .slice a0_0 a0_0n a0_0c), (1, .int .i64 a1_0)]).run Tryd.prog w = .ok (.agg #[.slice a0_0 a0_0n a0_0c, .int .i64 a1_0, .int .i64 0]) w := by kernel_rfl
theorem jrdnm49 : (Tryd.f49.name == "runtime.NumGoroutine") = false := by decide
theorem jrdbd49 : Tryd.f49.body.isNone = false := rfl
theorem jrdbld86_98495 (a0_0 : Int) (a1_0 : Int) (a2_0 : Int) (a3_0 : Int) (w : World) : (Instr.build 86 #[(0, .int .i64 a0_0), (1, .int .i64 a1_0), (2, .int .i64 a2_0), (3, .int .i64 a3_0)]).run Tryd.prog w = .ok (.agg #[.int .i64 a0_0, .int .i64 a1_0, .int .i64 a2_0, .int .i64 a3_0, .slice none 0 0, .slice none 0 0]) w := by kernel_rfl
theorem jrdsz86 (w : World) : (sizeOf 86).run Tryd.prog w = .ok 6 w := rfl
theorem jrdone_i64i64i64i64ss {a0 : Int} {a1 : Int} {a2 : Int} {a3 : Int} {a4 : Option Addr} {n4 c4 : Nat} {a5 : Option Addr} {n5 c5 : Nat} : ∀ u ∈ [(.int .i64 a0 : Value), .int .i64 a1, .int .i64 a2, .int .i64 a3, .slice a4 n4 c4, .slice a5 n5 c5], u.oneCell' = true := by
 intro u hu
 simp only [List.mem_cons, List.not_mem_nil, or_false] at hu
 rcases hu with rfl | rfl | rfl | rfl | rfl | rfl <;> rfl
theorem jrdnm67 : (Tryd.f67.name == "runtime.NumGoroutine") = false := by decide
theorem jrdbd67 : Tryd.f67.body.isNone = false := rfl
theorem jrdfld86_4 (g o : Nat) (w : World) : (Instr.fieldAt 86 (.pointer (some ⟨g, o, none⟩)) 4).run Tryd.prog w = .ok (.pointer (some ⟨g, o + 4, none⟩)) w := by kernel_rfl
theorem jrdsz28 (w : World) : (sizeOf 28).run Tryd.prog w = .ok 1 w := rfl
theorem jrdone_s {a0 : Option Addr} {n0 c0 : Nat} : ∀ u ∈ [(.slice a0 n0 c0 : Value)], u.oneCell' = true := by
 intro u hu
 rw [List.mem_singleton] at hu
 subst hu; rfl
theorem jrdfld86_3 (g o : Nat) (w : World) : (Instr.fieldAt 86 (.pointer (some ⟨g, o, none⟩)) 3).run Tryd.prog w = .ok (.pointer (some ⟨g, o + 3, none⟩)) w := by kernel_rfl
theorem jrdnm18 : (Tryd.f18.name == "runtime.NumGoroutine") = false := by decide
theorem jrdbd18 : Tryd.f18.body.isNone = false := rfl
theorem jrdzv27 (w : World) : (zeroValue 27).run Tryd.prog w = .ok (.agg #[.int .i64 0, .int .i64 0, .int .i64 0, .int .i64 0, .int .u32 0, .int .i64 0, .int .i64 0, .int .i64 0, .bool false, .bool false, .int .i64 0, .int .u32 0, .int .i64 0, .int .i64 0, .int .i64 0, .int .i64 0, .int .i64 0]) w := rfl
theorem jrdsz27 (w : World) : (sizeOf 27).run Tryd.prog w = .ok 17 w := rfl
theorem jrdbld86_536  (w : World) : (Instr.build 86 #[]).run Tryd.prog w = .ok (.agg #[.int .i64 0, .int .i64 0, .int .i64 0, .int .i64 0, .slice none 0 0, .slice none 0 0]) w := by kernel_rfl
theorem jrdfld86_5 (g o : Nat) (w : World) : (Instr.fieldAt 86 (.pointer (some ⟨g, o, none⟩)) 5).run Tryd.prog w = .ok (.pointer (some ⟨g, o + 5, none⟩)) w := by kernel_rfl
theorem jrdag33 (w : World) : (isAgg 33).run Tryd.prog w = .ok false w := rfl
theorem jrdag27 (w : World) : (isAgg 27).run Tryd.prog w = .ok true w := rfl
theorem jrdbs33_1_99505 (a0_0 : Int) (a0_1 : Int) (a0_2 : Int) (a0_3 : Int) (a0_4 : Int) (a0_5 : Int) (a0_6 : Int) (a0_7 : Int) (a0_8 : Bool) (a0_9 : Bool) (a0_10 : Int) (a0_11 : Int) (a0_12 : Int) (a0_13 : Int) (a0_14 : Int) (a0_15 : Int) (a0_16 : Int) (w : World) : (Instr.buildSlice 33 1 #[(0, .agg #[.int .i64 a0_0, .int .i64 a0_1, .int .i64 a0_2, .int .i64 a0_3, .int .u32 a0_4, .int .i64 a0_5, .int .i64 a0_6, .int .i64 a0_7, .bool a0_8, .bool a0_9, .int .i64 a0_10, .int .u32 a0_11, .int .i64 a0_12, .int .i64 a0_13, .int .i64 a0_14, .int .i64 a0_15, .int .i64 a0_16])]).run Tryd.prog w = .ok (.slice (some ⟨w.heap.size, 0, none⟩) 1 1) (w.alloc (.cells [.int .i64 a0_0, .int .i64 a0_1, .int .i64 a0_2, .int .i64 a0_3, .int .u32 a0_4, .int .i64 a0_5, .int .i64 a0_6, .int .i64 a0_7, .bool a0_8, .bool a0_9, .int .i64 a0_10, .int .u32 a0_11, .int .i64 a0_12, .int .i64 a0_13, .int .i64 a0_14, .int .i64 a0_15, .int .i64 a0_16].toArray 27)) := by kernel_rfl
theorem jrdel33 : Elem Tryd.prog 33 27 17 128 := Elem.mk' Tryd.underlying33 (z := .agg #[.int .i64 0, .int .i64 0, .int .i64 0, .int .i64 0, .int .u32 0, .int .i64 0, .int .i64 0, .int .i64 0, .bool false, .bool false, .int .i64 0, .int .u32 0, .int .i64 0, .int .i64 0, .int .i64 0, .int .i64 0, .int .i64 0]) (by kernel_rfl) rfl (by omega) (by omega)
theorem jrdsz33 (w : World) : (sizeOf 33).run Tryd.prog w = .ok 1 w := rfl
theorem jrdag86 (w : World) : (isAgg 86).run Tryd.prog w = .ok true w := rfl
theorem jrdfld82_2 (g o : Nat) (w : World) : (Instr.fieldAt 82 (.pointer (some ⟨g, o, none⟩)) 2).run Tryd.prog w = .ok (.pointer (some ⟨g, o + 2, none⟩)) w := by kernel_rfl
theorem jrdag34 (w : World) : (isAgg 34).run Tryd.prog w = .ok false w := rfl
theorem ctake (g : Nat) (A : Option Addr) (n c : Nat) (l : List Int) (p k : Nat) (e0 : Int) (w : World) (hg : Blk w g 82 #[.slice A n c, .int .i64 (p : Nat), .int .i64 e0]) (hb : Byt w w.heap.size A n l) (hne : 0 < n → ∀ ad, A = some ad → ad.block ≠ g) (hnc : n ≤ c) (hlim : n ≤ 140737488355328) (hpk : p + k ≤ n) :
  Calls Tryd.prog 67 #[.pointer (some ⟨g, 0, none⟩), .int .i64 (k : Nat)] w fun e w' => ∃ y : {q : Option Addr × Nat // k ≤ q.2 ∧ q.2 ≤ maxLen}, e = .returned (.slice y.1.1 k y.1.2) ∧ Chg g 82 [.slice A n c, .int .i64 ((p + k : Nat) : Int), .int .i64 e0] w [.row (.slice y.1.1 k y.1.2) 5 1 k (bv ((l.drop p).take k))] w' := by
 have hsrc : ∀ (w1 : World) (L : List Pc), Pm ⟨w, g⟩ L w1 → (∀ q ∈ oths g w, q ∈ L) → Byt w1 w1.heap.size A n l := fun w1 L h hs => byt_grown' hb hne (h.kept hs)
 refine begin_ (vs := [.pointer (some ⟨g, 0, none⟩), .int .i64 (k : Nat)]) (I := Pm ⟨w, g⟩ (.blk g 82 [.slice A n c, .int .i64 (p : Nat), .int .i64 e0] :: oths g w)) Tryd.func67 rfl rfl rfl ?_ (Pm.atBlk hg)
 refine TC.seq_ (TC.region ?_)
 refine TL.as_ ?_
 refine TL.end_ (TX.then_ (TC.seq_ (TC.seq_ ?_)))
 refine TC.quiet_ (E' := ?_) (by kernel_rfl) (by kernel_rfl) (fun w hw => hw.drawn _) ?_ ?_
 rotate_left
 ·refine TQ.val rfl rfl rfl (gives_move rfl rfl) ?_
  refine TQ.val rfl rfl rfl (gives_nilCheck rfl rfl) ?_
  refine TQ.val rfl rfl rfl (gives_field (v := .pointer (some ⟨g, 1, none⟩)) rfl rfl (fun w => jrdfld82_1 _ _ w)) ?_
  refine TQ.val rfl rfl rfl (pm_load (k := 0) (i := 1) rfl rfl jrdag3 rfl rfl) ?_
  refine TQ.val rfl rfl rfl (gives_move rfl rfl) ?_
  refine TQ.val rfl rfl rfl (gives_nilCheck rfl rfl) ?_
  refine TQ.val rfl rfl rfl (gives_field (v := .pointer (some ⟨g, 0, none⟩)) rfl rfl (fun w => jrdfld82_0 _ _ w)) ?_
  refine TQ.val rfl rfl rfl (pm_load (k := 0) (i := 0) rfl rfl jrdag28 rfl rfl) ?_
  refine TQ.val rfl rfl rfl (gives_len rfl Tryd.underlying28 rfl) ?_
  refine TQ.val rfl rfl rfl (gives_move rfl rfl) ?_
  refine TQ.val rfl rfl rfl (gives_bin rfl rfl rfl (fun w => bin_sub_ (r := (n : Nat) - (k : Nat)) (by simp only [IntKind.wrap_i64]; omega) w)) ?_
  refine TQ.val rfl rfl rfl (gives_bin rfl rfl rfl (fun w => bin_gtr_f (by omega) w)) ?_
  exact TQ.end_
 refine TX.then_ (TC.condF rfl (TC.skip_ (TX.then_ (TC.seq_ (TC.region ?_)))))
 refine TL.mv ?_
 refine TL.val rfl rfl rfl (gives_nilCheck rfl rfl) ?_
 refine TL.val rfl rfl rfl (gives_field (v := .pointer (some ⟨g, 1, none⟩)) rfl rfl (fun w => jrdfld82_1 _ _ w)) ?_
 refine TL.val rfl rfl rfl (pm_load (k := 0) (i := 1) rfl rfl jrdag3 rfl rfl) ?_
 refine TL.mv ?_
 refine TL.val rfl rfl rfl (gives_bin rfl rfl rfl (fun w => bin_add_ (r := ((p + k : Nat) : Int)) (by simp only [IntKind.wrap_i64]; omega) w)) ?_
 refine TL.val rfl rfl rfl (gives_nilCheck rfl rfl) ?_
 refine TL.val rfl rfl rfl (gives_field (v := .pointer (some ⟨g, 1, none⟩)) rfl rfl (fun w => jrdfld82_1 _ _ w)) ?_
 refine TL.pstore (k := 0) (vs := [.int .i64 ((p + k : Nat) : Int)]) rfl rfl rfl rfl rfl rfl rfl jrdsz3 jrdone_i64 (by show 2 ≤ 3; decide) (L' := ([.blk g 82 [.slice A n c, .int .i64 ((p + k : Nat) : Int), .int .i64 e0]] ++ oths g w)) rfl ?_
 refine TL.end_ (TX.then_ (TC.seq_ ?_))
 refine TC.held (ls := #[Ff,Ff,Ff,Ff,Ff,Ff,Ff,Ff,Ff,Ff,Ff,Ff,Ff,Ff,Ff,Ff,Ff]) (Pm ⟨w, g⟩ ([.blk g 82 [.slice A n c, .int .i64 ((p + k : Nat) : Int), .int .i64 e0]] ++ oths g w)) (by kernel_rfl) rfl rfl (fun w hw => hw.drawn _) ?_
 refine TH.tk (listed' := #[Tt,Ff,Ff,Ff,Ff,Ff,Ff,Ff,Ff,Ff,Ff,Ff,Ff,Ff,Ff,Ff,Ff]) 0 rfl rfl rfl (gives_move rfl rfl) (fun w1 hw => hw) ?_
 refine TH.tk (listed' := #[Tt,Tt,Ff,Ff,Ff,Ff,Ff,Ff,Ff,Ff,Ff,Ff,Ff,Ff,Ff,Ff,Ff]) 1 rfl rfl rfl (gives_nilCheck rfl rfl) (fun w1 hw => hw) ?_
 refine TH.tk (listed' := #[Tt,Tt,Tt,Ff,Ff,Ff,Ff,Ff,Ff,Ff,Ff,Ff,Ff,Ff,Ff,Ff,Ff]) 2 rfl rfl rfl (gives_field (v := .pointer (some ⟨g, 0, none⟩)) rfl rfl (fun w => jrdfld82_0 _ _ w)) (fun w1 hw => hw) ?_
 refine TH.tk (listed' := #[Tt,Tt,Tt,Tt,Ff,Ff,Ff,Ff,Ff,Ff,Ff,Ff,Ff,Ff,Ff,Ff,Ff]) 3 rfl rfl rfl (pm_load (k := 0) (i := 0) rfl rfl jrdag28 rfl rfl) (fun w1 hw => hw) ?_
 refine TH.tk (listed' := #[Tt,Tt,Tt,Tt,Tt,Ff,Ff,Ff,Ff,Ff,Ff,Ff,Ff,Ff,Ff,Ff,Ff]) 4 rfl rfl rfl (gives_move rfl rfl) (fun w1 hw => hw) ?_
 refine TH.tk (listed' := #[Tt,Tt,Tt,Tt,Tt,Tt,Ff,Ff,Ff,Ff,Ff,Ff,Ff,Ff,Ff,Ff,Ff]) 5 rfl rfl rfl (gives_nilCheck rfl rfl) (fun w1 hw => hw) ?_
 refine TH.tk (listed' := #[Tt,Tt,Tt,Tt,Tt,Tt,Tt,Ff,Ff,Ff,Ff,Ff,Ff,Ff,Ff,Ff,Ff]) 6 rfl rfl rfl (gives_field (v := .pointer (some ⟨g, 1, none⟩)) rfl rfl (fun w => jrdfld82_1 _ _ w)) (fun w1 hw => hw) ?_
 refine TH.tk (listed' := #[Tt,Tt,Tt,Tt,Tt,Tt,Tt,Tt,Ff,Ff,Ff,Ff,Ff,Ff,Ff,Ff,Ff]) 7 rfl rfl rfl (pm_load (k := 0) (i := 1) rfl rfl jrdag3 rfl rfl) (fun w1 hw => hw) ?_
 refine TH.tk (listed' := #[Tt,Tt,Tt,Tt,Tt,Tt,Tt,Tt,Tt,Ff,Ff,Ff,Ff,Ff,Ff,Ff,Ff]) 8 rfl rfl rfl (gives_move rfl rfl) (fun w1 hw => hw) ?_
 refine TH.tk (listed' := #[Tt,Tt,Tt,Tt,Tt,Tt,Tt,Tt,Tt,Tt,Ff,Ff,Ff,Ff,Ff,Ff,Ff]) 9 rfl rfl rfl (gives_bin rfl rfl rfl (fun w => bin_sub_ (r := (p : Nat)) (by simp only [IntKind.wrap_i64]; omega) w)) (fun w1 hw => hw) ?_
 refine TH.tk (listed' := #[Tt,Tt,Tt,Tt,Tt,Tt,Tt,Tt,Tt,Tt,Tt,Ff,Ff,Ff,Ff,Ff,Ff]) 10 rfl rfl rfl (gives_move rfl rfl) (fun w1 hw => hw) ?_
 refine TH.tk (listed' := #[Tt,Tt,Tt,Tt,Tt,Tt,Tt,Tt,Tt,Tt,Tt,Tt,Ff,Ff,Ff,Ff,Ff]) 11 rfl rfl rfl (gives_nilCheck rfl rfl) (fun w1 hw => hw) ?_
 refine TH.tk (listed' := #[Tt,Tt,Tt,Tt,Tt,Tt,Tt,Tt,Tt,Tt,Tt,Tt,Tt,Ff,Ff,Ff,Ff]) 12 rfl rfl rfl (gives_field (v := .pointer (some ⟨g, 1, none⟩)) rfl rfl (fun w => jrdfld82_1 _ _ w)) (fun w1 hw => hw) ?_
 refine TH.tk (listed' := #[Tt,Tt,Tt,Tt,Tt,Tt,Tt,Tt,Tt,Tt,Tt,Tt,Tt,Tt,Ff,Ff,Ff]) 13 rfl rfl rfl (pm_load (k := 0) (i := 1) rfl rfl jrdag3 rfl rfl) (fun w1 hw => hw) ?_
 refine TH.tk (listed' := #[Tt,Tt,Tt,Tt,Tt,Tt,Tt,Tt,Tt,Tt,Tt,Tt,Tt,Tt,Tt,Ff,Ff]) 14 rfl rfl rfl (gives_slice (v := .slice (if c = p then A else A.map (·.add p)) k (c - p)) rfl rfl rfl rfl (fun w => cut_pA A n c p k (by omega) w)) (fun w1 hw => hw) ?_
 refine TH.only' (listed' := #[Tt,Tt,Tt,Tt,Tt,Tt,Tt,Tt,Tt,Tt,Tt,Tt,Tt,Tt,Tt,Tt,Ff]) 15 rfl (by kernel_rfl) rfl ?_
 refine TL.pcallRow (n := k) (ys := bv ((l.drop p).take k)) rfl rfl rfl rfl rfl Tryd.func69 jrdnm69 jrdbd69 (fun w1 hw => clone_any _ k _ ((l.drop p).take k) w1 (byt_cutP (hsrc w1 _ hw (fun q hq => by simp [hq])) hpk hnc) (by omega)) (fun A48 c48 hA481 hA482 => ?_)
 refine TL.end_ ?_
 refine TX.held (fun w1 hw => hw.sel (.cons _ (.cons_cons _ (List.Sublist.refl _)))) ?_
 refine TH.tk (listed' := #[Tt,Tt,Tt,Tt,Tt,Tt,Tt,Tt,Tt,Tt,Tt,Tt,Tt,Tt,Tt,Tt,Tt]) 16 rfl rfl rfl (gives_assign rfl rfl) (fun w1 hw => hw.sel (.cons _ (.cons_cons _ (List.Sublist.refl _)))) ?_
 refine TH.done (by kernel_rfl) ?_
 refine TX.then_ (TC.ret_ ?_)
 exact ret_tmp Tryd.results67 rfl (fun w1 hw => ⟨⟨(A48, c48), hA481, hA482⟩, rfl, Pm.chg [_] hw rfl⟩)
set_option maxHeartbeats 2000000 in
theorem read_any (A : Option Addr) (n c : Nat) (l : List Int) (w : World) (hb : Byt w w.heap.size A n l) (hnc : n ≤ c) (hlim : n ≤ 140737488355328) (hwh : wholeB l) :
  Calls Tryd.prog 52 #[.slice A n c] w fun e w' => (okB l ∧ ∃ y : PartY l, e = .returned (.tuple #[.agg #[.int .i64 (pid l), .int .i64 (prun l), .int .i64 (pfirst l), .int .i64 (getN l 8 1), .slice y.1.1.1 32 y.1.1.2, .slice y.1.2.1 (cnt l) y.1.2.2], .int .i64 0]) ∧ Pm w [.row (.slice y.1.1.1 32 y.1.1.2) 5 1 32 (bv (pbef l)), .row (.slice y.1.2.1 (cnt l) y.1.2.2) 27 17 (cnt l) (rcs (rlB l))] w') ∨ (¬ okB l ∧ e = .returned (.tuple #[.agg #[.int .i64 0, .int .i64 0, .int .i64 0, .int .i64 0, .slice none 0 0, .slice none 0 0], .int .i64 2]) ∧ Below w.heap.size w w') := by
 have hln := hb.len
 obtain ⟨hc1, hc2, hc3, hc4, hc5⟩ := whole_cnt hb.2 hwh
 refine begin_ (vs := [.slice A n c]) Tryd.func52 rfl rfl rfl ?_ (Pm.start w)
 refine TC.seq_ (TC.region ?_)
 refine TL.pnew rfl rfl rfl (exec_alloc (cs := [.int .i64 0, .int .i64 0, .int .i64 0, .int .i64 0, .slice none 0 0, .slice none 0 0]) rfl jrdzv86 rfl) (fun g2 => ?_)
 refine TL.as_ ?_
 refine TL.end_ (TX.then_ (TC.seq_ (TC.region ?_)))
 refine TL.mv ?_
 refine TL.val rfl rfl rfl (gives_build (v := .agg #[.slice A n c, .int .i64 4, .int .i64 0]) rfl rfl (fun w => jrdbld82_10581 _ _ _ _ w)) ?_
 refine TL.pnew rfl rfl rfl (exec_box (cs := [.slice A n c, .int .i64 4, .int .i64 0]) rfl rfl rfl) (fun g10 => ?_)
 refine TL.as_ ?_
 refine TL.end_ (TX.then_ (TC.seq_ (TC.region ?_)))
 refine TL.mv ?_
 refine TL.pcallChg (k := 0) (α := Unit) (fun _ => .int .i64 (getN l 4 1)) (fun _ => [.slice A n c, .int .i64 5, .int .i64 0]) (fun _ => []) rfl rfl rfl rfl rfl Tryd.func49 jrdnm49 jrdbd49 rfl (fun w1 hw => cnext0 g10 A n c l 4 1 w1 (hw.at_ (k := 0) rfl).1 ((hb.below hw.bel).more hw.bel.size) (byt_ne (hb.below hw.bel) (hw.at_ (k := 0) rfl).2) hnc hlim (by decide) (by decide) (by omega)) ?_
 rintro _
 dsimp only [List.cons_append, List.nil_append, List.set]
 refine TL.mv ?_
 refine TL.pcallChg (k := 0) (α := Unit) (fun _ => .int .i64 (getN l 5 1)) (fun _ => [.slice A n c, .int .i64 6, .int .i64 0]) (fun _ => []) rfl rfl rfl rfl rfl Tryd.func49 jrdnm49 jrdbd49 rfl (fun w1 hw => cnext0 g10 A n c l 5 1 w1 (hw.at_ (k := 0) rfl).1 ((hb.below hw.bel).more hw.bel.size) (byt_ne (hb.below hw.bel) (hw.at_ (k := 0) rfl).2) hnc hlim (by decide) (by decide) (by omega)) ?_
 rintro _
 dsimp only [List.cons_append, List.nil_append, List.set]
 refine TL.mv ?_
 refine TL.pcallChg (k := 0) (α := Unit) (fun _ => .int .i64 (getN l 6 2)) (fun _ => [.slice A n c, .int .i64 8, .int .i64 0]) (fun _ => []) rfl rfl rfl rfl rfl Tryd.func49 jrdnm49 jrdbd49 rfl (fun w1 hw => cnext0 g10 A n c l 6 2 w1 (hw.at_ (k := 0) rfl).1 ((hb.below hw.bel).more hw.bel.size) (byt_ne (hb.below hw.bel) (hw.at_ (k := 0) rfl).2) hnc hlim (by decide) (by decide) (by omega)) ?_
 rintro _
 dsimp only [List.cons_append, List.nil_append, List.set]
 refine TL.mv ?_
 refine TL.pcallChg (k := 0) (α := Unit) (fun _ => .int .i64 (getN l 8 1)) (fun _ => [.slice A n c, .int .i64 9, .int .i64 0]) (fun _ => []) rfl rfl rfl rfl rfl Tryd.func49 jrdnm49 jrdbd49 rfl (fun w1 hw => cnext0 g10 A n c l 8 1 w1 (hw.at_ (k := 0) rfl).1 ((hb.below hw.bel).more hw.bel.size) (byt_ne (hb.below hw.bel) (hw.at_ (k := 0) rfl).2) hnc hlim (by decide) (by decide) (by omega)) ?_
 rintro _
 dsimp only [List.cons_append, List.nil_append, List.set]
 refine TL.val rfl rfl rfl (gives_build (v := .agg #[.int .i64 (getN l 4 1), .int .i64 (getN l 5 1), .int .i64 (getN l 6 2), .int .i64 (getN l 8 1), .slice none 0 0, .slice none 0 0]) rfl rfl (fun w => jrdbld86_98495 _ _ _ _ w)) ?_
 refine TL.pnew rfl rfl rfl (exec_alloc (cs := [.int .i64 0, .int .i64 0, .int .i64 0, .int .i64 0, .slice none 0 0, .slice none 0 0]) rfl jrdzv86 rfl) (fun g5 => ?_)
 refine TL.pstore (k := 0) (vs := [.int .i64 (getN l 4 1), .int .i64 (getN l 5 1), .int .i64 (getN l 6 2), .int .i64 (getN l 8 1), .slice none 0 0, .slice none 0 0]) rfl rfl rfl rfl rfl rfl rfl jrdsz86 jrdone_i64i64i64i64ss (by show 6 ≤ 6; decide) (L' := [.blk g5 86 [.int .i64 (getN l 4 1), .int .i64 (getN l 5 1), .int .i64 (getN l 6 2), .int .i64 (getN l 8 1), .slice none 0 0, .slice none 0 0], .blk g10 82 [.slice A n c, .int .i64 9, .int .i64 0], .blk g2 86 [.int .i64 0, .int .i64 0, .int .i64 0, .int .i64 0, .slice none 0 0, .slice none 0 0]]) rfl ?_
 refine TL.end_ (TX.then_ (TC.seq_ (TC.region ?_)))
 refine TL.mv ?_
 refine TL.pcallChg (k := 1) (α := {q : Option Addr × Nat // 32 ≤ q.2 ∧ q.2 ≤ maxLen}) (fun y => .slice y.1.1 32 y.1.2) (fun y => [.slice A n c, .int .i64 ((41 + 37 * 0 : Nat) : Int), .int .i64 0]) (fun y => [.row (.slice y.1.1 32 y.1.2) 5 1 32 (bv ((l.drop 9).take 32))]) rfl rfl rfl rfl rfl Tryd.func67 jrdnm67 jrdbd67 rfl (fun w1 hw => ctake g10 A n c l 9 32 0 w1 (hw.at_ (k := 1) rfl).1 ((hb.below hw.bel).more hw.bel.size) (byt_ne (hb.below hw.bel) (hw.at_ (k := 1) rfl).2) hnc hlim (by omega)) ?_
 rintro ⟨⟨A21, c21⟩, hA211, hA212⟩
 dsimp only [List.cons_append, List.nil_append, List.set]
 dsimp only at hA211 hA212
 refine TL.val rfl rfl rfl (gives_field (v := .pointer (some ⟨g5, 4, none⟩)) rfl rfl (fun w => jrdfld86_4 _ _ w)) ?_
 refine TL.pstore (k := 1) (vs := [.slice A21 32 c21]) rfl rfl rfl rfl rfl rfl rfl jrdsz28 jrdone_s (by show 5 ≤ 6; decide) (L' := [.row (.slice A21 32 c21) 5 1 32 (bv ((l.drop 9).take 32)), .blk g5 86 [.int .i64 (getN l 4 1), .int .i64 (getN l 5 1), .int .i64 (getN l 6 2), .int .i64 (getN l 8 1), .slice A21 32 c21, .slice none 0 0], .blk g10 82 [.slice A n c, .int .i64 ((41 + 37 * 0 : Nat) : Int), .int .i64 0], .blk g2 86 [.int .i64 0, .int .i64 0, .int .i64 0, .int .i64 0, .slice none 0 0, .slice none 0 0]]) rfl ?_
 refine TL.end_ (TX.then_ (TC.seq_ (TC.seq_ (TC.region ?_))))
 refine TL.val rfl rfl rfl (gives_field (v := .pointer (some ⟨g5, 3, none⟩)) rfl rfl (fun w => jrdfld86_3 _ _ w)) ?_
 refine TL.val rfl rfl rfl (pm_load (k := 1) (i := 3) rfl rfl jrdag3 rfl rfl) ?_
 refine TL.mv ?_
 refine TL.end_ (TX.then_ (TC.block ?_))
 refine TC.nilrow 27 17 ?_
 refine TC.loop_ (α := {y : Nat × Option Addr × Nat // y.1 ≤ cnt l ∧ okN l y.1 ∧ y.1 ≤ y.2.2 ∧ y.2.2 ≤ maxLen}) (fun y => [(2, .pointer (some ⟨g2, 0, none⟩)), (4, .pointer (some ⟨g10, 0, none⟩)), (5, .pointer (some ⟨g5, 0, none⟩)), (24, .int .i64 (getN l 8 1)), (25, .int .i64 (y.1.1 : Nat))]) (fun y => Pm w [.row (.slice y.1.2.1 y.1.1 y.1.2.2) 27 17 y.1.1 (rcs (rlN l y.1.1)), .blk g10 82 [.slice A n c, .int .i64 ((41 + 37 * y.1.1 : Nat) : Int), .int .i64 0], .blk g5 86 [.int .i64 (getN l 4 1), .int .i64 (getN l 5 1), .int .i64 (getN l 6 2), .int .i64 (getN l 8 1), .slice A21 32 c21, .slice y.1.2.1 y.1.1 y.1.2.2], .row (.slice A21 32 c21) 5 1 32 (bv (pbef l)), .blk g2 86 [.int .i64 0, .int .i64 0, .int .i64 0, .int .i64 0, .slice none 0 0, .slice none 0 0]]) (fun y => cnt l - y.1.1) (⟨(0, none, 0), Nat.zero_le _, (fun i hi => absurd hi (Nat.not_lt_zero i)), Nat.zero_le _, Nat.zero_le _⟩) ⟨rfl, rfl, rfl, rfl, rfl, trivial⟩ (fun w1 hw => hw.pick [0, 3, 2, 1, 4] (by decide) rfl) ?_
 rintro ⟨⟨i, Ar, cr⟩, hi, hokN, hcr, hcr2⟩
 dsimp only at hi hokN hcr hcr2 ⊢
 refine TC.seq_ (TC.region ?_)
 refine TL.vsplit rfl rfl rfl (gives_bin rfl rfl rfl (fun w => bin_lss w)) (fun h26 => ?_) (fun h26 => ?_)
 ·have q26 := of_decide_eq_true h26
  have hi2 : i < cnt l := by omega
  refine TL.end_ (TX.then_ (TC.seq_ (TC.condT rfl (TC.skip_ (TX.then_ (TC.seq_ (TC.block (TC.seq_ (TC.region ?_)))))))))
  refine TL.mv ?_
  refine TL.pcallChg (k := 1) (α := {q : Option Addr × Nat // 37 ≤ q.2 ∧ q.2 ≤ maxLen}) (fun y => .slice y.1.1 37 y.1.2) (fun y => [.slice A n c, .int .i64 ((41 + 37 * (i + 1) : Nat) : Int), .int .i64 0]) (fun y => [.row (.slice y.1.1 37 y.1.2) 5 1 37 (bv ((l.drop (41 + 37 * i)).take 37))]) rfl rfl rfl rfl rfl Tryd.func67 jrdnm67 jrdbd67 rfl (fun w1 hw => ctake g10 A n c l (41 + 37 * i) 37 0 w1 (hw.at_ (k := 1) rfl).1 ((hb.below hw.bel).more hw.bel.size) (byt_ne (hb.below hw.bel) (hw.at_ (k := 1) rfl).2) hnc hlim (by omega)) ?_
  rintro ⟨⟨A29, c29⟩, hA291, hA292⟩
  dsimp only [List.cons_append, List.nil_append, List.set]
  dsimp only at hA291 hA292
  refine TL.pcall1 (r := .tuple #[.agg ((decR (rsAt l i)).cells).toArray, .int .i64 (decE (rsAt l i))]) rfl rfl rfl rfl rfl Tryd.func18 jrdnm18 jrdbd18 (fun w1 hw => decode_any A29 37 c29 (rsAt l i) w1 (byt_own (hw.at_ (k := 0) rfl) ((hb.2.drop _).take _)) hA291 (by decide)) ?_
  refine TL.mv ?_
  refine TL.ex ?_
  refine TL.ex ?_
  refine TL.pnew rfl rfl rfl (exec_alloc (cs := [.int .i64 0, .int .i64 0, .int .i64 0, .int .i64 0, .int .u32 0, .int .i64 0, .int .i64 0, .int .i64 0, .bool false, .bool false, .int .i64 0, .int .u32 0, .int .i64 0, .int .i64 0, .int .i64 0, .int .i64 0, .int .i64 0]) rfl jrdzv27 rfl) (fun g6 => ?_)
  refine TL.pstore (k := 0) (vs := (decR (rsAt l i)).cells) rfl rfl rfl rfl rfl rfl rfl jrdsz27 (rs_one _) (by show 17 ≤ 17; decide) (L' := [.blk g6 27 (decR (rsAt l i)).cells, .row (.slice A29 37 c29) 5 1 37 (bv ((l.drop (41 + 37 * i)).take 37)), .row (.slice Ar i cr) 27 17 i (rcs (rlN l i)), .blk g10 82 [.slice A n c, .int .i64 ((41 + 37 * (i + 1) : Nat) : Int), .int .i64 0], .blk g5 86 [.int .i64 (getN l 4 1), .int .i64 (getN l 5 1), .int .i64 (getN l 6 2), .int .i64 (getN l 8 1), .slice A21 32 c21, .slice Ar i cr], .row (.slice A21 32 c21) 5 1 32 (bv (pbef l)), .blk g2 86 [.int .i64 0, .int .i64 0, .int .i64 0, .int .i64 0, .slice none 0 0, .slice none 0 0]]) rfl ?_
  refine TL.as_ ?_
  refine TL.end_ (TX.then_ (TC.seq_ (TC.seq_ (TC.region ?_))))
  refine TL.mv ?_
  refine TL.vsplit rfl rfl rfl (gives_bin rfl rfl rfl (fun w => bin_neq w)) (fun h34 => ?_) (fun h34 => ?_)
  ·have q34 := of_decide_eq_true h34
   have hbad : ¬ okB l := fun hh => q34 (hh i hi2)
   refine TL.end_ (TX.then_ (TC.condT rfl (TC.seq_ (TC.region ?_))))
   refine TL.val rfl rfl rfl (gives_build (v := .agg #[.int .i64 0, .int .i64 0, .int .i64 0, .int .i64 0, .slice none 0 0, .slice none 0 0]) rfl rfl (fun w => jrdbld86_536  w)) ?_
   refine TL.pstore (k := 6) (vs := [.int .i64 0, .int .i64 0, .int .i64 0, .int .i64 0, .slice none 0 0, .slice none 0 0]) rfl rfl rfl rfl rfl rfl rfl jrdsz86 jrdone_i64i64i64i64ss (by show 6 ≤ 6; decide) (L' := [.blk g6 27 (decR (rsAt l i)).cells, .row (.slice A29 37 c29) 5 1 37 (bv ((l.drop (41 + 37 * i)).take 37)), .row (.slice Ar i cr) 27 17 i (rcs (rlN l i)), .blk g10 82 [.slice A n c, .int .i64 ((41 + 37 * (i + 1) : Nat) : Int), .int .i64 0], .blk g5 86 [.int .i64 (getN l 4 1), .int .i64 (getN l 5 1), .int .i64 (getN l 6 2), .int .i64 (getN l 8 1), .slice A21 32 c21, .slice Ar i cr], .row (.slice A21 32 c21) 5 1 32 (bv (pbef l)), .blk g2 86 [.int .i64 0, .int .i64 0, .int .i64 0, .int .i64 0, .slice none 0 0, .slice none 0 0]]) rfl ?_
   refine TL.as_ ?_
   refine TL.end_ (TX.then_ (TC.ret_ (TX.then_ret (TX.in_ret (TX.then_ret (TX.then_ret (TX.in_ret (TX.then_ret ?_))))))))
   exact ret_cell2 (k := 6) (v := .int .i64 2) Tryd.results52 rfl rfl rfl Tryd.underlying86 rfl rfl (fun w1 hw => .inr ⟨hbad, rfl, hw.bel⟩)
  ·have q34 := of_decide_eq_false h34
   have hz : decE (rsAt l i) = 0 := Decidable.not_not.1 q34
   refine TL.end_ (TX.then_ (TC.condF rfl (TC.skip_ (TX.then_ (TC.region ?_)))))
   refine TL.val rfl rfl rfl (gives_field (v := .pointer (some ⟨g5, 5, none⟩)) rfl rfl (fun w => jrdfld86_5 _ _ w)) ?_
   refine TL.val rfl rfl rfl (pm_load (k := 4) (i := 5) rfl rfl jrdag33 rfl rfl) ?_
   refine TL.val rfl rfl rfl (pm_loadV (k := 0) (i := 0) (n := 17) (v := .agg ((decR (rsAt l i)).cells).toArray) rfl rfl jrdag27 jrdsz27 rfl (by show 17 ≤ 17; decide) rfl) ?_
   refine TL.prowS (e := 27) (size := 17) (cs := rcs [decR (rsAt l i)]) rfl rfl rfl rfl rfl (fun w => jrdbs33_1_99505 _ _ _ _ _ _ _ _ _ _ _ _ _ _ _ _ _ w) (by decide) rfl (fun g39 => ?_)
   refine TL.appendT (k := 3) rfl rfl rfl rfl Tryd.underlying33 jrdel33 rfl rfl rfl (fun w1 hw => pm_reads hw (k := 0) rfl) (rcs_one _) (by omega) (i + 1) (rfl) (rcs (rlN l (i + 1))) (by rw [rlN_succ, rcs_app]) (fun A40 c40 hA401 hA402 => ?_)
   refine TL.val rfl rfl rfl (gives_field (v := .pointer (some ⟨g5, 5, none⟩)) rfl rfl (fun w => jrdfld86_5 _ _ w)) ?_
   refine TL.pstore (k := 5) (vs := [.slice A40 (i + 1) c40]) rfl rfl rfl rfl rfl rfl rfl jrdsz33 jrdone_s (by show 6 ≤ 6; decide) (L' := [.row (.slice (some ⟨g39, 0, none⟩) 1 1) 27 17 1 (rcs [decR (rsAt l i)]), .blk g6 27 (decR (rsAt l i)).cells, .row (.slice A29 37 c29) 5 1 37 (bv ((l.drop (41 + 37 * i)).take 37)), .row (.slice A40 (i + 1) c40) 27 17 (i + 1) (rcs (rlN l (i + 1))), .blk g10 82 [.slice A n c, .int .i64 ((41 + 37 * (i + 1) : Nat) : Int), .int .i64 0], .blk g5 86 [.int .i64 (getN l 4 1), .int .i64 (getN l 5 1), .int .i64 (getN l 6 2), .int .i64 (getN l 8 1), .slice A21 32 c21, .slice A40 (i + 1) c40], .row (.slice A21 32 c21) 5 1 32 (bv (pbef l)), .blk g2 86 [.int .i64 0, .int .i64 0, .int .i64 0, .int .i64 0, .slice none 0 0, .slice none 0 0]]) rfl ?_
   refine TL.end_ (TX.in_normal (TX.then_ (TC.region ?_)))
   refine TL.val rfl rfl rfl (gives_bin rfl rfl rfl (fun w => bin_add_ (r := ((i + 1 : Nat) : Int)) (by simp only [IntKind.wrap_i64]; omega) w)) ?_
   refine TL.mv ?_
   refine TL.end_ ?_
   exact TX.round (⟨(i + 1, A40, c40), hi2, okN_succ hokN hz, hA401, hA402⟩) (by show cnt l - (i + 1) < cnt l - i; omega) ⟨rfl, rfl, rfl, rfl, rfl, trivial⟩ (fun w1 hw => hw.pick [3, 4, 5, 6, 7] (by decide) rfl)
 ·have q26 := of_decide_eq_false h26
  have hi2 : i = cnt l := by omega
  subst hi2
  have hok : okB l := hokN
  refine TL.end_ (TX.then_ (TC.seq_ (TC.condF rfl (TC.exit_ (TX.then_exit (TX.then_exit (TX.in_same (TX.then_ (TC.seq_ ?_)))))))))
  refine TC.held (ls := #[Ff,Ff,Ff,Ff,Ff,Ff,Ff]) (Pm w [.blk g10 82 [.slice A n c, .int .i64 ((41 + 37 * (cnt l) : Nat) : Int), .int .i64 0], .blk g5 86 [.int .i64 (getN l 4 1), .int .i64 (getN l 5 1), .int .i64 (getN l 6 2), .int .i64 (getN l 8 1), .slice A21 32 c21, .slice Ar (cnt l) cr], .row (.slice A21 32 c21) 5 1 32 (bv (pbef l))]) (by kernel_rfl) rfl rfl (fun w hw => hw.drawn _) ?_
  refine TH.tk (listed' := #[Tt,Ff,Ff,Ff,Ff,Ff,Ff]) 0 rfl rfl rfl (pm_loadV (k := 1) (i := 0) (n := 6) (v := .agg #[.int .i64 (getN l 4 1), .int .i64 (getN l 5 1), .int .i64 (getN l 6 2), .int .i64 (getN l 8 1), .slice A21 32 c21, .slice Ar (cnt l) cr]) rfl rfl jrdag86 jrdsz86 rfl (by show 6 ≤ 6; decide) rfl) (fun w1 hw => hw.pick [1, 2, 3] (by decide) rfl) ?_
  refine TH.tk (listed' := #[Tt,Tt,Ff,Ff,Ff,Ff,Ff]) 1 rfl rfl rfl (gives_move rfl rfl) (fun w1 hw => hw.pick [1, 2, 3] (by decide) rfl) ?_
  refine TH.tk (listed' := #[Tt,Tt,Tt,Ff,Ff,Ff,Ff]) 2 rfl rfl rfl (gives_nilCheck rfl rfl) (fun w1 hw => hw.pick [1, 2, 3] (by decide) rfl) ?_
  refine TH.tk (listed' := #[Tt,Tt,Tt,Tt,Ff,Ff,Ff]) 3 rfl rfl rfl (gives_field (v := .pointer (some ⟨g10, 2, none⟩)) rfl rfl (fun w => jrdfld82_2 _ _ w)) (fun w1 hw => hw.pick [1, 2, 3] (by decide) rfl) ?_
  refine TH.tk (listed' := #[Tt,Tt,Tt,Tt,Tt,Ff,Ff]) 4 rfl rfl rfl (pm_load (k := 0) (i := 2) rfl rfl jrdag34 rfl rfl) (fun w1 hw => hw.pick [1, 2, 3] (by decide) rfl) ?_
  refine TH.only' (listed' := #[Tt,Tt,Tt,Tt,Tt,Tt,Ff]) 5 rfl (by kernel_rfl) rfl ?_
  refine TL.pstore (k := 4) (vs := [.int .i64 (getN l 4 1), .int .i64 (getN l 5 1), .int .i64 (getN l 6 2), .int .i64 (getN l 8 1), .slice A21 32 c21, .slice Ar (cnt l) cr]) rfl rfl rfl rfl rfl rfl rfl jrdsz86 jrdone_i64i64i64i64ss (by show 6 ≤ 6; decide) (L' := [.row (.slice Ar (cnt l) cr) 27 17 (cnt l) (rcs (rlN l (cnt l))), .blk g10 82 [.slice A n c, .int .i64 ((41 + 37 * (cnt l) : Nat) : Int), .int .i64 0], .blk g5 86 [.int .i64 (getN l 4 1), .int .i64 (getN l 5 1), .int .i64 (getN l 6 2), .int .i64 (getN l 8 1), .slice A21 32 c21, .slice Ar (cnt l) cr], .row (.slice A21 32 c21) 5 1 32 (bv (pbef l)), .blk g2 86 [.int .i64 (getN l 4 1), .int .i64 (getN l 5 1), .int .i64 (getN l 6 2), .int .i64 (getN l 8 1), .slice A21 32 c21, .slice Ar (cnt l) cr]]) rfl ?_
  refine TL.end_ ?_
  refine TX.held (fun w1 hw => hw.pick [1, 2, 3] (by decide) rfl) ?_
  refine TH.tk (listed' := #[Tt,Tt,Tt,Tt,Tt,Tt,Tt]) 6 rfl rfl rfl (gives_assign rfl rfl) (fun w1 hw => hw.pick [1, 2, 3] (by decide) rfl) ?_
  refine TH.done (by kernel_rfl) ?_
  refine TX.then_ (TC.ret_ ?_)
  exact ret_cell2 (k := 4) (v := .int .i64 0) Tryd.results52 rfl rfl rfl Tryd.underlying86 rfl rfl (fun w1 hw => .inl ⟨hok, ⟨((A21, c21), (Ar, cr)), ⟨hA211, hA212⟩, ⟨hcr, hcr2⟩⟩, rfl, hw.pick [3, 0] (by decide) rfl⟩)
end Go.Proofs.YtmeaeeehnkcblaaDoor

namespace Go.Proofs.YtmeaeeehnkcblaaDoor
open Go.RowKit
set_option maxRecDepth 20000
theorem retb_lit {P : Program} {f : FuncId} {vs : Array Value} {w : World} {b c : Bool} {R : World → Prop} (h : b = c) (hc : Calls P f vs w fun e w' => e = .returned (.bool b) ∧ R w') : Calls P f vs w fun e w' => e = .returned (.bool c) ∧ R w' := h ▸ hc
theorem jlksz27 (w : World) : (sizeOf 27).run Tryd.prog w = .ok 17 w := rfl
theorem jlkag27 (w : World) : (isAgg 27).run Tryd.prog w = .ok true w := rfl
theorem jlkag45 (w : World) : (isAgg 45).run Tryd.prog w = .ok true w := rfl
theorem jlksz45 (w : World) : (sizeOf 45).run Tryd.prog w = .ok 4 w := rfl
theorem jlknm68 : (Tryd.f68.name == "runtime.NumGoroutine") = false := by decide
theorem jlkbd68 : Tryd.f68.body.isNone = false := rfl
theorem jlkfld86_2 (g o : Nat) (w : World) : (Instr.fieldAt 86 (.pointer (some ⟨g, o, none⟩)) 2).run Tryd.prog w = .ok (.pointer (some ⟨g, o + 2, none⟩)) w := by kernel_rfl
theorem jlkag3 (w : World) : (isAgg 3).run Tryd.prog w = .ok false w := rfl
theorem jlkfld86_3 (g o : Nat) (w : World) : (Instr.fieldAt 86 (.pointer (some ⟨g, o, none⟩)) 3).run Tryd.prog w = .ok (.pointer (some ⟨g, o + 3, none⟩)) w := by kernel_rfl
theorem jlkfld86_4 (g o : Nat) (w : World) : (Instr.fieldAt 86 (.pointer (some ⟨g, o, none⟩)) 4).run Tryd.prog w = .ok (.pointer (some ⟨g, o + 4, none⟩)) w := by kernel_rfl
theorem jlkag28 (w : World) : (isAgg 28).run Tryd.prog w = .ok false w := rfl
theorem jlkel28 : Elem Tryd.prog 28 5 1 1 := Elem.mk' Tryd.underlying28 (z := .int .u8 0) (by kernel_rfl) rfl (by omega) (by omega)
theorem jlknm28 : (Tryd.f28.name == "runtime.NumGoroutine") = false := by decide
theorem jlkbd28 : Tryd.f28.body.isNone = false := rfl
theorem jlkfld86_0 (g o : Nat) (w : World) : (Instr.fieldAt 86 (.pointer (some ⟨g, o, none⟩)) 0).run Tryd.prog w = .ok (.pointer (some ⟨g, o + 0, none⟩)) w := by kernel_rfl
theorem jlkfld86_1 (g o : Nat) (w : World) : (Instr.fieldAt 86 (.pointer (some ⟨g, o, none⟩)) 1).run Tryd.prog w = .ok (.pointer (some ⟨g, o + 1, none⟩)) w := by kernel_rfl
theorem jlknm45 : (Tryd.f45.name == "runtime.NumGoroutine") = false := by decide
theorem jlkbd45 : Tryd.f45.body.isNone = false := rfl
theorem jlkfld45_0 (g o : Nat) (w : World) : (Instr.fieldAt 45 (.pointer (some ⟨g, o, none⟩)) 0).run Tryd.prog w = .ok (.pointer (some ⟨g, o + 0, none⟩)) w := by kernel_rfl
theorem jlkfld45_1 (g o : Nat) (w : World) : (Instr.fieldAt 45 (.pointer (some ⟨g, o, none⟩)) 1).run Tryd.prog w = .ok (.pointer (some ⟨g, o + 1, none⟩)) w := by kernel_rfl
theorem jlkfld45_2 (g o : Nat) (w : World) : (Instr.fieldAt 45 (.pointer (some ⟨g, o, none⟩)) 2).run Tryd.prog w = .ok (.pointer (some ⟨g, o + 2, none⟩)) w := by kernel_rfl
theorem jlkfld45_3 (g o : Nat) (w : World) : (Instr.fieldAt 45 (.pointer (some ⟨g, o, none⟩)) 3).run Tryd.prog w = .ok (.pointer (some ⟨g, o + 3, none⟩)) w := by kernel_rfl
theorem jlkfld86_5 (g o : Nat) (w : World) : (Instr.fieldAt 86 (.pointer (some ⟨g, o, none⟩)) 5).run Tryd.prog w = .ok (.pointer (some ⟨g, o + 5, none⟩)) w := by kernel_rfl
theorem jlkag33 (w : World) : (isAgg 33).run Tryd.prog w = .ok false w := rfl
theorem jlkzv27 (w : World) : (zeroValue 27).run Tryd.prog w = .ok (.agg #[.int .i64 0, .int .i64 0, .int .i64 0, .int .i64 0, .int .u32 0, .int .i64 0, .int .i64 0, .int .i64 0, .bool false, .bool false, .int .i64 0, .int .u32 0, .int .i64 0, .int .i64 0, .int .i64 0, .int .i64 0, .int .i64 0]) w := rfl
theorem jlknm62 : (Tryd.f62.name == "runtime.NumGoroutine") = false := by decide
theorem jlkbd62 : Tryd.f62.body.isNone = false := rfl
set_option maxHeartbeats 2000000 in
theorem linked_any (A0 : Option Addr) (n0 c0 : Nat) (ch : Chn) (A1 : Option Addr) (c1 : Nat) (A2 : Option Addr) (c2 : Nat) (l : List Int) (w : World) (hb0 : Byt w w.heap.size A0 n0 ch.dg) (hb1 : Byt w w.heap.size A1 32 (pbef l)) (hr2 : Reads w w.heap.size 17 A2 (cnt l) (rcs (rlB l))) (hc1 : (cnt l : Int) = getN l 8 1) (hc2 : cnt l ≤ 64) (hn0 : -1000000 ≤ ch.n) (hn1 : ch.n ≤ 1000000) :
  Calls Tryd.prog 53 #[.agg #[.int .i64 ch.v, .int .i64 ch.run, .int .i64 ch.n, .slice A0 n0 c0], .agg #[.int .i64 (pid l), .int .i64 (prun l), .int .i64 (pfirst l), .int .i64 (getN l 8 1), .slice A1 32 c1, .slice A2 (cnt l) c2]] w fun e w' => e = .returned (.bool (decide (lnk ch l))) ∧ Below w.heap.size w w' := by
 have hl0 := hb0.len
 refine begin_ (vs := [.agg #[.int .i64 ch.v, .int .i64 ch.run, .int .i64 ch.n, .slice A0 n0 c0], .agg #[.int .i64 (pid l), .int .i64 (prun l), .int .i64 (pfirst l), .int .i64 (getN l 8 1), .slice A1 32 c1, .slice A2 (cnt l) c2]]) Tryd.func53 rfl rfl rfl ?_ (Pm.start w)
 refine TC.seq_ (TC.region ?_)
 refine TL.pnew rfl rfl rfl (exec_box (cs := [.int .i64 ch.v, .int .i64 ch.run, .int .i64 ch.n, .slice A0 n0 c0]) rfl rfl rfl) (fun g2 => ?_)
 refine TL.pnew rfl rfl rfl (exec_box (cs := [.int .i64 (pid l), .int .i64 (prun l), .int .i64 (pfirst l), .int .i64 (getN l 8 1), .slice A1 32 c1, .slice A2 (cnt l) c2]) rfl rfl rfl) (fun g3 => ?_)
 refine TL.as_ ?_
 refine TL.end_ (TX.then_ (TC.seq_ (TC.seq_ (TC.region ?_))))
 refine TL.val rfl rfl rfl (pm_loadV (k := 1) (i := 0) (n := 4) (v := .agg #[.int .i64 ch.v, .int .i64 ch.run, .int .i64 ch.n, .slice A0 n0 c0]) rfl rfl jlkag45 jlksz45 rfl (by show 4 ≤ 4; decide) rfl) ?_
 refine TL.callsplit rfl rfl rfl rfl rfl Tryd.func68 jlknm68 jlkbd68 (fun w1 hw => empty_any ch.v ch.run ch.n A0 n0 c0 w1) (fun h8 => ?_) (fun h8 => ?_)
 ·have hK : emptyK ch := by unfold emptyK; have := of_decide_eq_true h8; omega
  refine TL.end_ (TX.then_ (TC.condT rfl (TC.seq_ ?_)))
  by_cases p1 : pfirst l = 0
  by_cases p2 : cnt l = 0
  by_cases p3 : pbef l = zeroL 32
  by_cases p4 : idOk (pid l) (prun l)
  ·have hR : lnk ch l := by rw [lnk, if_pos hK]; exact ⟨p1, p2, p3, p4⟩
   refine TC.held (ls := #[Ff,Ff,Ff,Ff,Ff,Ff,Ff,Ff,Ff,Ff,Ff,Ff,Ff,Ff,Ff,Ff,Ff,Ff,Ff,Ff,Ff,Ff]) (Pm w [.blk g2 45 [.int .i64 ch.v, .int .i64 ch.run, .int .i64 ch.n, .slice A0 n0 c0], .blk g3 86 [.int .i64 (pid l), .int .i64 (prun l), .int .i64 (pfirst l), .int .i64 (getN l 8 1), .slice A1 32 c1, .slice A2 (cnt l) c2]]) (by kernel_rfl) rfl rfl (fun w hw => hw.drawn _) ?_
   refine TH.tk (listed' := #[Tt,Ff,Ff,Ff,Ff,Ff,Ff,Ff,Ff,Ff,Ff,Ff,Ff,Ff,Ff,Ff,Ff,Ff,Ff,Ff,Ff,Ff]) 0 rfl rfl rfl (gives_field (v := .pointer (some ⟨g3, 2, none⟩)) rfl rfl (fun w => jlkfld86_2 _ _ w)) (fun w1 hw => hw.pick [1, 0] (by decide) rfl) ?_
   refine TH.tk (listed' := #[Tt,Tt,Ff,Ff,Ff,Ff,Ff,Ff,Ff,Ff,Ff,Ff,Ff,Ff,Ff,Ff,Ff,Ff,Ff,Ff,Ff,Ff]) 1 rfl rfl rfl (pm_load (k := 1) (i := 2) rfl rfl jlkag3 rfl rfl) (fun w1 hw => hw.pick [1, 0] (by decide) rfl) ?_
   refine TH.tk (listed' := #[Tt,Tt,Tt,Ff,Ff,Ff,Ff,Ff,Ff,Ff,Ff,Ff,Ff,Ff,Ff,Ff,Ff,Ff,Ff,Ff,Ff,Ff]) 2 rfl rfl rfl (gives_bin rfl rfl rfl (fun w => bin_eql_t (p1) w)) (fun w1 hw => hw.pick [1, 0] (by decide) rfl) ?_
   refine TH.tk (listed' := #[Tt,Tt,Tt,Tt,Ff,Ff,Ff,Ff,Ff,Ff,Ff,Ff,Ff,Ff,Ff,Ff,Ff,Ff,Ff,Ff,Ff,Ff]) 3 rfl rfl rfl (gives_move rfl rfl) (fun w1 hw => hw.pick [1, 0] (by decide) rfl) ?_
   refine TH.takeG (listed' := #[Tt,Tt,Tt,Tt,Tt,Ff,Ff,Ff,Ff,Ff,Ff,Ff,Ff,Ff,Ff,Ff,Ff,Ff,Ff,Ff,Ff,Ff]) 4 rfl (by kernel_rfl) (by kernel_rfl) (by kernel_rfl) rfl rfl rfl rfl rfl rfl (gives_field (v := .pointer (some ⟨g3, 3, none⟩)) rfl rfl (fun w => jlkfld86_3 _ _ w)) (fun w1 hw => hw.pick [1, 0] (by decide) rfl) ?_
   refine TH.takeG (listed' := #[Tt,Tt,Tt,Tt,Tt,Tt,Ff,Ff,Ff,Ff,Ff,Ff,Ff,Ff,Ff,Ff,Ff,Ff,Ff,Ff,Ff,Ff]) 5 rfl (by kernel_rfl) (by kernel_rfl) (by kernel_rfl) rfl rfl rfl rfl rfl rfl (pm_load (k := 1) (i := 3) rfl rfl jlkag3 rfl rfl) (fun w1 hw => hw.pick [1, 0] (by decide) rfl) ?_
   refine TH.takeG (listed' := #[Tt,Tt,Tt,Tt,Tt,Tt,Tt,Ff,Ff,Ff,Ff,Ff,Ff,Ff,Ff,Ff,Ff,Ff,Ff,Ff,Ff,Ff]) 6 rfl (by kernel_rfl) (by kernel_rfl) (by kernel_rfl) rfl rfl rfl rfl rfl rfl (gives_bin rfl rfl rfl (fun w => bin_eql_t (by omega) w)) (fun w1 hw => hw.pick [1, 0] (by decide) rfl) ?_
   refine TH.tk (listed' := #[Tt,Tt,Tt,Tt,Tt,Tt,Tt,Tt,Ff,Ff,Ff,Ff,Ff,Ff,Ff,Ff,Ff,Ff,Ff,Ff,Ff,Ff]) 7 rfl rfl rfl (gives_pick rfl rfl rfl) (fun w1 hw => hw.pick [1, 0] (by decide) rfl) ?_
   refine TH.tk (listed' := #[Tt,Tt,Tt,Tt,Tt,Tt,Tt,Tt,Tt,Ff,Ff,Ff,Ff,Ff,Ff,Ff,Ff,Ff,Ff,Ff,Ff,Ff]) 8 rfl rfl rfl (gives_move rfl rfl) (fun w1 hw => hw.pick [1, 0] (by decide) rfl) ?_
   refine TH.takeG (listed' := #[Tt,Tt,Tt,Tt,Tt,Tt,Tt,Tt,Tt,Tt,Ff,Ff,Ff,Ff,Ff,Ff,Ff,Ff,Ff,Ff,Ff,Ff]) 9 rfl (by kernel_rfl) (by kernel_rfl) (by kernel_rfl) rfl rfl rfl rfl rfl rfl (gives_field (v := .pointer (some ⟨g3, 4, none⟩)) rfl rfl (fun w => jlkfld86_4 _ _ w)) (fun w1 hw => hw.pick [1, 0] (by decide) rfl) ?_
   refine TH.takeG (listed' := #[Tt,Tt,Tt,Tt,Tt,Tt,Tt,Tt,Tt,Tt,Tt,Ff,Ff,Ff,Ff,Ff,Ff,Ff,Ff,Ff,Ff,Ff]) 10 rfl (by kernel_rfl) (by kernel_rfl) (by kernel_rfl) rfl rfl rfl rfl rfl rfl (pm_load (k := 1) (i := 4) rfl rfl jlkag28 rfl rfl) (fun w1 hw => hw.pick [1, 0] (by decide) rfl) ?_
   refine TH.only' (listed' := #[Tt,Tt,Tt,Tt,Tt,Tt,Tt,Tt,Tt,Tt,Tt,Tt,Ff,Ff,Ff,Ff,Ff,Ff,Ff,Ff,Ff,Ff]) 11 rfl (by kernel_rfl) rfl ?_
   refine TL.gu ?_
   refine TL.mkrow (m := 32) rfl rfl rfl rfl rfl rfl jlkel28 (z := .int .u8 0) (by kernel_rfl) (zs := bv (zeroL 32)) ((made_one _ rfl 32).trans rfl) (by decide) (fun g20 => ?_)
   refine TL.end_ ?_
   refine TX.held (fun w1 hw => hw.pick [2, 1] (by decide) rfl) ?_
   refine TH.only' (listed' := #[Tt,Tt,Tt,Tt,Tt,Tt,Tt,Tt,Tt,Tt,Tt,Tt,Tt,Ff,Ff,Ff,Ff,Ff,Ff,Ff,Ff,Ff]) 12 rfl (by kernel_rfl) rfl ?_
   refine TL.gu ?_
   refine TL.pcall1 (r := .bool true) rfl rfl rfl rfl rfl Tryd.func28 jlknm28 jlkbd28 (fun w1 hw => retb_lit (decide_eq_true p3) (wequal _ _ _ _ _ _ (pbef l) (zeroL 32) w1 ((hb1.below hw.bel).more hw.bel.size) (byt_own (hw.at_ (k := 0) rfl) (zeroL_bs _)))) ?_
   refine TL.end_ ?_
   refine TX.held (fun w1 hw => hw.pick [2, 1] (by decide) rfl) ?_
   refine TH.tk (listed' := #[Tt,Tt,Tt,Tt,Tt,Tt,Tt,Tt,Tt,Tt,Tt,Tt,Tt,Tt,Ff,Ff,Ff,Ff,Ff,Ff,Ff,Ff]) 13 rfl rfl rfl (gives_pick rfl rfl rfl) (fun w1 hw => hw.pick [2, 1] (by decide) rfl) ?_
   refine TH.tk (listed' := #[Tt,Tt,Tt,Tt,Tt,Tt,Tt,Tt,Tt,Tt,Tt,Tt,Tt,Tt,Tt,Ff,Ff,Ff,Ff,Ff,Ff,Ff]) 14 rfl rfl rfl (gives_move rfl rfl) (fun w1 hw => hw.pick [2, 1] (by decide) rfl) ?_
   refine TH.takeG (listed' := #[Tt,Tt,Tt,Tt,Tt,Tt,Tt,Tt,Tt,Tt,Tt,Tt,Tt,Tt,Tt,Tt,Ff,Ff,Ff,Ff,Ff,Ff]) 15 rfl (by kernel_rfl) (by kernel_rfl) (by kernel_rfl) rfl rfl rfl rfl rfl rfl (gives_field (v := .pointer (some ⟨g3, 0, none⟩)) rfl rfl (fun w => jlkfld86_0 _ _ w)) (fun w1 hw => hw.pick [2, 1] (by decide) rfl) ?_
   refine TH.takeG (listed' := #[Tt,Tt,Tt,Tt,Tt,Tt,Tt,Tt,Tt,Tt,Tt,Tt,Tt,Tt,Tt,Tt,Tt,Ff,Ff,Ff,Ff,Ff]) 16 rfl (by kernel_rfl) (by kernel_rfl) (by kernel_rfl) rfl rfl rfl rfl rfl rfl (pm_load (k := 1) (i := 0) rfl rfl jlkag3 rfl rfl) (fun w1 hw => hw.pick [2, 1] (by decide) rfl) ?_
   refine TH.takeG (listed' := #[Tt,Tt,Tt,Tt,Tt,Tt,Tt,Tt,Tt,Tt,Tt,Tt,Tt,Tt,Tt,Tt,Tt,Tt,Ff,Ff,Ff,Ff]) 17 rfl (by kernel_rfl) (by kernel_rfl) (by kernel_rfl) rfl rfl rfl rfl rfl rfl (gives_field (v := .pointer (some ⟨g3, 1, none⟩)) rfl rfl (fun w => jlkfld86_1 _ _ w)) (fun w1 hw => hw.pick [2, 1] (by decide) rfl) ?_
   refine TH.takeG (listed' := #[Tt,Tt,Tt,Tt,Tt,Tt,Tt,Tt,Tt,Tt,Tt,Tt,Tt,Tt,Tt,Tt,Tt,Tt,Tt,Ff,Ff,Ff]) 18 rfl (by kernel_rfl) (by kernel_rfl) (by kernel_rfl) rfl rfl rfl rfl rfl rfl (pm_load (k := 1) (i := 1) rfl rfl jlkag3 rfl rfl) (fun w1 hw => hw.pick [2, 1] (by decide) rfl) ?_
   refine TH.only' (listed' := #[Tt,Tt,Tt,Tt,Tt,Tt,Tt,Tt,Tt,Tt,Tt,Tt,Tt,Tt,Tt,Tt,Tt,Tt,Tt,Tt,Ff,Ff]) 19 rfl (by kernel_rfl) rfl ?_
   refine TL.gu ?_
   refine TL.pcall1 (r := .bool true) rfl rfl rfl rfl rfl Tryd.func45 jlknm45 jlkbd45 (fun w1 hw => retb_lit (decide_eq_true p4) (run_any _ _ w1)) ?_
   refine TL.end_ ?_
   refine TX.held (fun w1 hw => hw.pick [2, 1] (by decide) rfl) ?_
   refine TH.tk (listed' := #[Tt,Tt,Tt,Tt,Tt,Tt,Tt,Tt,Tt,Tt,Tt,Tt,Tt,Tt,Tt,Tt,Tt,Tt,Tt,Tt,Tt,Ff]) 20 rfl rfl rfl (gives_pick rfl rfl rfl) (fun w1 hw => hw.pick [2, 1] (by decide) rfl) ?_
   refine TH.tk (listed' := #[Tt,Tt,Tt,Tt,Tt,Tt,Tt,Tt,Tt,Tt,Tt,Tt,Tt,Tt,Tt,Tt,Tt,Tt,Tt,Tt,Tt,Tt]) 21 rfl rfl rfl (gives_assign rfl rfl) (fun w1 hw => hw.pick [2, 1] (by decide) rfl) ?_
   refine TH.done (by kernel_rfl) ?_
   refine TX.then_ (TC.ret_ (TX.then_ret ?_))
   exact ret_tmp Tryd.results53 rfl (fun w1 hw => ⟨by rw [decide_eq_true hR], hw.bel⟩)
  ·have hR : ¬ lnk ch l := fun hh => by rw [lnk, if_pos hK] at hh; obtain ⟨x1, x2, x3, x4⟩ := hh; exact p4 x4
   refine TC.held (ls := #[Ff,Ff,Ff,Ff,Ff,Ff,Ff,Ff,Ff,Ff,Ff,Ff,Ff,Ff,Ff,Ff,Ff,Ff,Ff,Ff,Ff,Ff]) (Pm w [.blk g2 45 [.int .i64 ch.v, .int .i64 ch.run, .int .i64 ch.n, .slice A0 n0 c0], .blk g3 86 [.int .i64 (pid l), .int .i64 (prun l), .int .i64 (pfirst l), .int .i64 (getN l 8 1), .slice A1 32 c1, .slice A2 (cnt l) c2]]) (by kernel_rfl) rfl rfl (fun w hw => hw.drawn _) ?_
   refine TH.tk (listed' := #[Tt,Ff,Ff,Ff,Ff,Ff,Ff,Ff,Ff,Ff,Ff,Ff,Ff,Ff,Ff,Ff,Ff,Ff,Ff,Ff,Ff,Ff]) 0 rfl rfl rfl (gives_field (v := .pointer (some ⟨g3, 2, none⟩)) rfl rfl (fun w => jlkfld86_2 _ _ w)) (fun w1 hw => hw.pick [1, 0] (by decide) rfl) ?_
   refine TH.tk (listed' := #[Tt,Tt,Ff,Ff,Ff,Ff,Ff,Ff,Ff,Ff,Ff,Ff,Ff,Ff,Ff,Ff,Ff,Ff,Ff,Ff,Ff,Ff]) 1 rfl rfl rfl (pm_load (k := 1) (i := 2) rfl rfl jlkag3 rfl rfl) (fun w1 hw => hw.pick [1, 0] (by decide) rfl) ?_
   refine TH.tk (listed' := #[Tt,Tt,Tt,Ff,Ff,Ff,Ff,Ff,Ff,Ff,Ff,Ff,Ff,Ff,Ff,Ff,Ff,Ff,Ff,Ff,Ff,Ff]) 2 rfl rfl rfl (gives_bin rfl rfl rfl (fun w => bin_eql_t (p1) w)) (fun w1 hw => hw.pick [1, 0] (by decide) rfl) ?_
   refine TH.tk (listed' := #[Tt,Tt,Tt,Tt,Ff,Ff,Ff,Ff,Ff,Ff,Ff,Ff,Ff,Ff,Ff,Ff,Ff,Ff,Ff,Ff,Ff,Ff]) 3 rfl rfl rfl (gives_move rfl rfl) (fun w1 hw => hw.pick [1, 0] (by decide) rfl) ?_
   refine TH.takeG (listed' := #[Tt,Tt,Tt,Tt,Tt,Ff,Ff,Ff,Ff,Ff,Ff,Ff,Ff,Ff,Ff,Ff,Ff,Ff,Ff,Ff,Ff,Ff]) 4 rfl (by kernel_rfl) (by kernel_rfl) (by kernel_rfl) rfl rfl rfl rfl rfl rfl (gives_field (v := .pointer (some ⟨g3, 3, none⟩)) rfl rfl (fun w => jlkfld86_3 _ _ w)) (fun w1 hw => hw.pick [1, 0] (by decide) rfl) ?_
   refine TH.takeG (listed' := #[Tt,Tt,Tt,Tt,Tt,Tt,Ff,Ff,Ff,Ff,Ff,Ff,Ff,Ff,Ff,Ff,Ff,Ff,Ff,Ff,Ff,Ff]) 5 rfl (by kernel_rfl) (by kernel_rfl) (by kernel_rfl) rfl rfl rfl rfl rfl rfl (pm_load (k := 1) (i := 3) rfl rfl jlkag3 rfl rfl) (fun w1 hw => hw.pick [1, 0] (by decide) rfl) ?_
   refine TH.takeG (listed' := #[Tt,Tt,Tt,Tt,Tt,Tt,Tt,Ff,Ff,Ff,Ff,Ff,Ff,Ff,Ff,Ff,Ff,Ff,Ff,Ff,Ff,Ff]) 6 rfl (by kernel_rfl) (by kernel_rfl) (by kernel_rfl) rfl rfl rfl rfl rfl rfl (gives_bin rfl rfl rfl (fun w => bin_eql_t (by omega) w)) (fun w1 hw => hw.pick [1, 0] (by decide) rfl) ?_
   refine TH.tk (listed' := #[Tt,Tt,Tt,Tt,Tt,Tt,Tt,Tt,Ff,Ff,Ff,Ff,Ff,Ff,Ff,Ff,Ff,Ff,Ff,Ff,Ff,Ff]) 7 rfl rfl rfl (gives_pick rfl rfl rfl) (fun w1 hw => hw.pick [1, 0] (by decide) rfl) ?_
   refine TH.tk (listed' := #[Tt,Tt,Tt,Tt,Tt,Tt,Tt,Tt,Tt,Ff,Ff,Ff,Ff,Ff,Ff,Ff,Ff,Ff,Ff,Ff,Ff,Ff]) 8 rfl rfl rfl (gives_move rfl rfl) (fun w1 hw => hw.pick [1, 0] (by decide) rfl) ?_
   refine TH.takeG (listed' := #[Tt,Tt,Tt,Tt,Tt,Tt,Tt,Tt,Tt,Tt,Ff,Ff,Ff,Ff,Ff,Ff,Ff,Ff,Ff,Ff,Ff,Ff]) 9 rfl (by kernel_rfl) (by kernel_rfl) (by kernel_rfl) rfl rfl rfl rfl rfl rfl (gives_field (v := .pointer (some ⟨g3, 4, none⟩)) rfl rfl (fun w => jlkfld86_4 _ _ w)) (fun w1 hw => hw.pick [1, 0] (by decide) rfl) ?_
   refine TH.takeG (listed' := #[Tt,Tt,Tt,Tt,Tt,Tt,Tt,Tt,Tt,Tt,Tt,Ff,Ff,Ff,Ff,Ff,Ff,Ff,Ff,Ff,Ff,Ff]) 10 rfl (by kernel_rfl) (by kernel_rfl) (by kernel_rfl) rfl rfl rfl rfl rfl rfl (pm_load (k := 1) (i := 4) rfl rfl jlkag28 rfl rfl) (fun w1 hw => hw.pick [1, 0] (by decide) rfl) ?_
   refine TH.only' (listed' := #[Tt,Tt,Tt,Tt,Tt,Tt,Tt,Tt,Tt,Tt,Tt,Tt,Ff,Ff,Ff,Ff,Ff,Ff,Ff,Ff,Ff,Ff]) 11 rfl (by kernel_rfl) rfl ?_
   refine TL.gu ?_
   refine TL.mkrow (m := 32) rfl rfl rfl rfl rfl rfl jlkel28 (z := .int .u8 0) (by kernel_rfl) (zs := bv (zeroL 32)) ((made_one _ rfl 32).trans rfl) (by decide) (fun g20 => ?_)
   refine TL.end_ ?_
   refine TX.held (fun w1 hw => hw.pick [2, 1] (by decide) rfl) ?_
   refine TH.only' (listed' := #[Tt,Tt,Tt,Tt,Tt,Tt,Tt,Tt,Tt,Tt,Tt,Tt,Tt,Ff,Ff,Ff,Ff,Ff,Ff,Ff,Ff,Ff]) 12 rfl (by kernel_rfl) rfl ?_
   refine TL.gu ?_
   refine TL.pcall1 (r := .bool true) rfl rfl rfl rfl rfl Tryd.func28 jlknm28 jlkbd28 (fun w1 hw => retb_lit (decide_eq_true p3) (wequal _ _ _ _ _ _ (pbef l) (zeroL 32) w1 ((hb1.below hw.bel).more hw.bel.size) (byt_own (hw.at_ (k := 0) rfl) (zeroL_bs _)))) ?_
   refine TL.end_ ?_
   refine TX.held (fun w1 hw => hw.pick [2, 1] (by decide) rfl) ?_
   refine TH.tk (listed' := #[Tt,Tt,Tt,Tt,Tt,Tt,Tt,Tt,Tt,Tt,Tt,Tt,Tt,Tt,Ff,Ff,Ff,Ff,Ff,Ff,Ff,Ff]) 13 rfl rfl rfl (gives_pick rfl rfl rfl) (fun w1 hw => hw.pick [2, 1] (by decide) rfl) ?_
   refine TH.tk (listed' := #[Tt,Tt,Tt,Tt,Tt,Tt,Tt,Tt,Tt,Tt,Tt,Tt,Tt,Tt,Tt,Ff,Ff,Ff,Ff,Ff,Ff,Ff]) 14 rfl rfl rfl (gives_move rfl rfl) (fun w1 hw => hw.pick [2, 1] (by decide) rfl) ?_
   refine TH.takeG (listed' := #[Tt,Tt,Tt,Tt,Tt,Tt,Tt,Tt,Tt,Tt,Tt,Tt,Tt,Tt,Tt,Tt,Ff,Ff,Ff,Ff,Ff,Ff]) 15 rfl (by kernel_rfl) (by kernel_rfl) (by kernel_rfl) rfl rfl rfl rfl rfl rfl (gives_field (v := .pointer (some ⟨g3, 0, none⟩)) rfl rfl (fun w => jlkfld86_0 _ _ w)) (fun w1 hw => hw.pick [2, 1] (by decide) rfl) ?_
   refine TH.takeG (listed' := #[Tt,Tt,Tt,Tt,Tt,Tt,Tt,Tt,Tt,Tt,Tt,Tt,Tt,Tt,Tt,Tt,Tt,Ff,Ff,Ff,Ff,Ff]) 16 rfl (by kernel_rfl) (by kernel_rfl) (by kernel_rfl) rfl rfl rfl rfl rfl rfl (pm_load (k := 1) (i := 0) rfl rfl jlkag3 rfl rfl) (fun w1 hw => hw.pick [2, 1] (by decide) rfl) ?_
   refine TH.takeG (listed' := #[Tt,Tt,Tt,Tt,Tt,Tt,Tt,Tt,Tt,Tt,Tt,Tt,Tt,Tt,Tt,Tt,Tt,Tt,Ff,Ff,Ff,Ff]) 17 rfl (by kernel_rfl) (by kernel_rfl) (by kernel_rfl) rfl rfl rfl rfl rfl rfl (gives_field (v := .pointer (some ⟨g3, 1, none⟩)) rfl rfl (fun w => jlkfld86_1 _ _ w)) (fun w1 hw => hw.pick [2, 1] (by decide) rfl) ?_
   refine TH.takeG (listed' := #[Tt,Tt,Tt,Tt,Tt,Tt,Tt,Tt,Tt,Tt,Tt,Tt,Tt,Tt,Tt,Tt,Tt,Tt,Tt,Ff,Ff,Ff]) 18 rfl (by kernel_rfl) (by kernel_rfl) (by kernel_rfl) rfl rfl rfl rfl rfl rfl (pm_load (k := 1) (i := 1) rfl rfl jlkag3 rfl rfl) (fun w1 hw => hw.pick [2, 1] (by decide) rfl) ?_
   refine TH.only' (listed' := #[Tt,Tt,Tt,Tt,Tt,Tt,Tt,Tt,Tt,Tt,Tt,Tt,Tt,Tt,Tt,Tt,Tt,Tt,Tt,Tt,Ff,Ff]) 19 rfl (by kernel_rfl) rfl ?_
   refine TL.gu ?_
   refine TL.pcall1 (r := .bool false) rfl rfl rfl rfl rfl Tryd.func45 jlknm45 jlkbd45 (fun w1 hw => retb_lit (decide_eq_false p4) (run_any _ _ w1)) ?_
   refine TL.end_ ?_
   refine TX.held (fun w1 hw => hw.pick [2, 1] (by decide) rfl) ?_
   refine TH.tk (listed' := #[Tt,Tt,Tt,Tt,Tt,Tt,Tt,Tt,Tt,Tt,Tt,Tt,Tt,Tt,Tt,Tt,Tt,Tt,Tt,Tt,Tt,Ff]) 20 rfl rfl rfl (gives_pick rfl rfl rfl) (fun w1 hw => hw.pick [2, 1] (by decide) rfl) ?_
   refine TH.tk (listed' := #[Tt,Tt,Tt,Tt,Tt,Tt,Tt,Tt,Tt,Tt,Tt,Tt,Tt,Tt,Tt,Tt,Tt,Tt,Tt,Tt,Tt,Tt]) 21 rfl rfl rfl (gives_assign rfl rfl) (fun w1 hw => hw.pick [2, 1] (by decide) rfl) ?_
   refine TH.done (by kernel_rfl) ?_
   refine TX.then_ (TC.ret_ (TX.then_ret ?_))
   exact ret_tmp Tryd.results53 rfl (fun w1 hw => ⟨by rw [decide_eq_false hR], hw.bel⟩)
  ·have hR : ¬ lnk ch l := fun hh => by rw [lnk, if_pos hK] at hh; obtain ⟨x1, x2, x3, x4⟩ := hh; exact p3 x3
   refine TC.held (ls := #[Ff,Ff,Ff,Ff,Ff,Ff,Ff,Ff,Ff,Ff,Ff,Ff,Ff,Ff,Ff,Ff,Ff,Ff,Ff,Ff,Ff,Ff]) (Pm w [.blk g2 45 [.int .i64 ch.v, .int .i64 ch.run, .int .i64 ch.n, .slice A0 n0 c0], .blk g3 86 [.int .i64 (pid l), .int .i64 (prun l), .int .i64 (pfirst l), .int .i64 (getN l 8 1), .slice A1 32 c1, .slice A2 (cnt l) c2]]) (by kernel_rfl) rfl rfl (fun w hw => hw.drawn _) ?_
   refine TH.tk (listed' := #[Tt,Ff,Ff,Ff,Ff,Ff,Ff,Ff,Ff,Ff,Ff,Ff,Ff,Ff,Ff,Ff,Ff,Ff,Ff,Ff,Ff,Ff]) 0 rfl rfl rfl (gives_field (v := .pointer (some ⟨g3, 2, none⟩)) rfl rfl (fun w => jlkfld86_2 _ _ w)) (fun w1 hw => hw.pick [1, 0] (by decide) rfl) ?_
   refine TH.tk (listed' := #[Tt,Tt,Ff,Ff,Ff,Ff,Ff,Ff,Ff,Ff,Ff,Ff,Ff,Ff,Ff,Ff,Ff,Ff,Ff,Ff,Ff,Ff]) 1 rfl rfl rfl (pm_load (k := 1) (i := 2) rfl rfl jlkag3 rfl rfl) (fun w1 hw => hw.pick [1, 0] (by decide) rfl) ?_
   refine TH.tk (listed' := #[Tt,Tt,Tt,Ff,Ff,Ff,Ff,Ff,Ff,Ff,Ff,Ff,Ff,Ff,Ff,Ff,Ff,Ff,Ff,Ff,Ff,Ff]) 2 rfl rfl rfl (gives_bin rfl rfl rfl (fun w => bin_eql_t (p1) w)) (fun w1 hw => hw.pick [1, 0] (by decide) rfl) ?_
   refine TH.tk (listed' := #[Tt,Tt,Tt,Tt,Ff,Ff,Ff,Ff,Ff,Ff,Ff,Ff,Ff,Ff,Ff,Ff,Ff,Ff,Ff,Ff,Ff,Ff]) 3 rfl rfl rfl (gives_move rfl rfl) (fun w1 hw => hw.pick [1, 0] (by decide) rfl) ?_
   refine TH.takeG (listed' := #[Tt,Tt,Tt,Tt,Tt,Ff,Ff,Ff,Ff,Ff,Ff,Ff,Ff,Ff,Ff,Ff,Ff,Ff,Ff,Ff,Ff,Ff]) 4 rfl (by kernel_rfl) (by kernel_rfl) (by kernel_rfl) rfl rfl rfl rfl rfl rfl (gives_field (v := .pointer (some ⟨g3, 3, none⟩)) rfl rfl (fun w => jlkfld86_3 _ _ w)) (fun w1 hw => hw.pick [1, 0] (by decide) rfl) ?_
   refine TH.takeG (listed' := #[Tt,Tt,Tt,Tt,Tt,Tt,Ff,Ff,Ff,Ff,Ff,Ff,Ff,Ff,Ff,Ff,Ff,Ff,Ff,Ff,Ff,Ff]) 5 rfl (by kernel_rfl) (by kernel_rfl) (by kernel_rfl) rfl rfl rfl rfl rfl rfl (pm_load (k := 1) (i := 3) rfl rfl jlkag3 rfl rfl) (fun w1 hw => hw.pick [1, 0] (by decide) rfl) ?_
   refine TH.takeG (listed' := #[Tt,Tt,Tt,Tt,Tt,Tt,Tt,Ff,Ff,Ff,Ff,Ff,Ff,Ff,Ff,Ff,Ff,Ff,Ff,Ff,Ff,Ff]) 6 rfl (by kernel_rfl) (by kernel_rfl) (by kernel_rfl) rfl rfl rfl rfl rfl rfl (gives_bin rfl rfl rfl (fun w => bin_eql_t (by omega) w)) (fun w1 hw => hw.pick [1, 0] (by decide) rfl) ?_
   refine TH.tk (listed' := #[Tt,Tt,Tt,Tt,Tt,Tt,Tt,Tt,Ff,Ff,Ff,Ff,Ff,Ff,Ff,Ff,Ff,Ff,Ff,Ff,Ff,Ff]) 7 rfl rfl rfl (gives_pick rfl rfl rfl) (fun w1 hw => hw.pick [1, 0] (by decide) rfl) ?_
   refine TH.tk (listed' := #[Tt,Tt,Tt,Tt,Tt,Tt,Tt,Tt,Tt,Ff,Ff,Ff,Ff,Ff,Ff,Ff,Ff,Ff,Ff,Ff,Ff,Ff]) 8 rfl rfl rfl (gives_move rfl rfl) (fun w1 hw => hw.pick [1, 0] (by decide) rfl) ?_
   refine TH.takeG (listed' := #[Tt,Tt,Tt,Tt,Tt,Tt,Tt,Tt,Tt,Tt,Ff,Ff,Ff,Ff,Ff,Ff,Ff,Ff,Ff,Ff,Ff,Ff]) 9 rfl (by kernel_rfl) (by kernel_rfl) (by kernel_rfl) rfl rfl rfl rfl rfl rfl (gives_field (v := .pointer (some ⟨g3, 4, none⟩)) rfl rfl (fun w => jlkfld86_4 _ _ w)) (fun w1 hw => hw.pick [1, 0] (by decide) rfl) ?_
   refine TH.takeG (listed' := #[Tt,Tt,Tt,Tt,Tt,Tt,Tt,Tt,Tt,Tt,Tt,Ff,Ff,Ff,Ff,Ff,Ff,Ff,Ff,Ff,Ff,Ff]) 10 rfl (by kernel_rfl) (by kernel_rfl) (by kernel_rfl) rfl rfl rfl rfl rfl rfl (pm_load (k := 1) (i := 4) rfl rfl jlkag28 rfl rfl) (fun w1 hw => hw.pick [1, 0] (by decide) rfl) ?_
   refine TH.only' (listed' := #[Tt,Tt,Tt,Tt,Tt,Tt,Tt,Tt,Tt,Tt,Tt,Tt,Ff,Ff,Ff,Ff,Ff,Ff,Ff,Ff,Ff,Ff]) 11 rfl (by kernel_rfl) rfl ?_
   refine TL.gu ?_
   refine TL.mkrow (m := 32) rfl rfl rfl rfl rfl rfl jlkel28 (z := .int .u8 0) (by kernel_rfl) (zs := bv (zeroL 32)) ((made_one _ rfl 32).trans rfl) (by decide) (fun g20 => ?_)
   refine TL.end_ ?_
   refine TX.held (fun w1 hw => hw.pick [2, 1] (by decide) rfl) ?_
   refine TH.only' (listed' := #[Tt,Tt,Tt,Tt,Tt,Tt,Tt,Tt,Tt,Tt,Tt,Tt,Tt,Ff,Ff,Ff,Ff,Ff,Ff,Ff,Ff,Ff]) 12 rfl (by kernel_rfl) rfl ?_
   refine TL.gu ?_
   refine TL.pcall1 (r := .bool false) rfl rfl rfl rfl rfl Tryd.func28 jlknm28 jlkbd28 (fun w1 hw => retb_lit (decide_eq_false p3) (wequal _ _ _ _ _ _ (pbef l) (zeroL 32) w1 ((hb1.below hw.bel).more hw.bel.size) (byt_own (hw.at_ (k := 0) rfl) (zeroL_bs _)))) ?_
   refine TL.end_ ?_
   refine TX.held (fun w1 hw => hw.pick [2, 1] (by decide) rfl) ?_
   refine TH.tk (listed' := #[Tt,Tt,Tt,Tt,Tt,Tt,Tt,Tt,Tt,Tt,Tt,Tt,Tt,Tt,Ff,Ff,Ff,Ff,Ff,Ff,Ff,Ff]) 13 rfl rfl rfl (gives_pick rfl rfl rfl) (fun w1 hw => hw.pick [2, 1] (by decide) rfl) ?_
   refine TH.tk (listed' := #[Tt,Tt,Tt,Tt,Tt,Tt,Tt,Tt,Tt,Tt,Tt,Tt,Tt,Tt,Tt,Ff,Ff,Ff,Ff,Ff,Ff,Ff]) 14 rfl rfl rfl (gives_move rfl rfl) (fun w1 hw => hw.pick [2, 1] (by decide) rfl) ?_
   refine TH.off (listed' := #[Tt,Tt,Tt,Tt,Tt,Tt,Tt,Tt,Tt,Tt,Tt,Tt,Tt,Tt,Tt,Tt,Ff,Ff,Ff,Ff,Ff,Ff]) 15 rfl (by kernel_rfl) (by kernel_rfl) (by kernel_rfl) rfl rfl rfl rfl rfl rfl rfl (fun w1 hw => hw.pick [2, 1] (by decide) rfl) ?_
   refine TH.off (listed' := #[Tt,Tt,Tt,Tt,Tt,Tt,Tt,Tt,Tt,Tt,Tt,Tt,Tt,Tt,Tt,Tt,Tt,Ff,Ff,Ff,Ff,Ff]) 16 rfl (by kernel_rfl) (by kernel_rfl) (by kernel_rfl) rfl rfl rfl rfl rfl rfl rfl (fun w1 hw => hw.pick [2, 1] (by decide) rfl) ?_
   refine TH.off (listed' := #[Tt,Tt,Tt,Tt,Tt,Tt,Tt,Tt,Tt,Tt,Tt,Tt,Tt,Tt,Tt,Tt,Tt,Tt,Ff,Ff,Ff,Ff]) 17 rfl (by kernel_rfl) (by kernel_rfl) (by kernel_rfl) rfl rfl rfl rfl rfl rfl rfl (fun w1 hw => hw.pick [2, 1] (by decide) rfl) ?_
   refine TH.off (listed' := #[Tt,Tt,Tt,Tt,Tt,Tt,Tt,Tt,Tt,Tt,Tt,Tt,Tt,Tt,Tt,Tt,Tt,Tt,Tt,Ff,Ff,Ff]) 18 rfl (by kernel_rfl) (by kernel_rfl) (by kernel_rfl) rfl rfl rfl rfl rfl rfl rfl (fun w1 hw => hw.pick [2, 1] (by decide) rfl) ?_
   refine TH.off (listed' := #[Tt,Tt,Tt,Tt,Tt,Tt,Tt,Tt,Tt,Tt,Tt,Tt,Tt,Tt,Tt,Tt,Tt,Tt,Tt,Tt,Ff,Ff]) 19 rfl (by kernel_rfl) (by kernel_rfl) (by kernel_rfl) rfl rfl rfl rfl rfl rfl rfl (fun w1 hw => hw.pick [2, 1] (by decide) rfl) ?_
   refine TH.tk (listed' := #[Tt,Tt,Tt,Tt,Tt,Tt,Tt,Tt,Tt,Tt,Tt,Tt,Tt,Tt,Tt,Tt,Tt,Tt,Tt,Tt,Tt,Ff]) 20 rfl rfl rfl (gives_pick rfl rfl rfl) (fun w1 hw => hw.pick [2, 1] (by decide) rfl) ?_
   refine TH.tk (listed' := #[Tt,Tt,Tt,Tt,Tt,Tt,Tt,Tt,Tt,Tt,Tt,Tt,Tt,Tt,Tt,Tt,Tt,Tt,Tt,Tt,Tt,Tt]) 21 rfl rfl rfl (gives_assign rfl rfl) (fun w1 hw => hw.pick [2, 1] (by decide) rfl) ?_
   refine TH.done (by kernel_rfl) ?_
   refine TX.then_ (TC.ret_ (TX.then_ret ?_))
   exact ret_tmp Tryd.results53 rfl (fun w1 hw => ⟨by rw [decide_eq_false hR], hw.bel⟩)
  ·have hR : ¬ lnk ch l := fun hh => by rw [lnk, if_pos hK] at hh; obtain ⟨x1, x2, x3, x4⟩ := hh; omega
   refine TC.held (ls := #[Ff,Ff,Ff,Ff,Ff,Ff,Ff,Ff,Ff,Ff,Ff,Ff,Ff,Ff,Ff,Ff,Ff,Ff,Ff,Ff,Ff,Ff]) (Pm w [.blk g2 45 [.int .i64 ch.v, .int .i64 ch.run, .int .i64 ch.n, .slice A0 n0 c0], .blk g3 86 [.int .i64 (pid l), .int .i64 (prun l), .int .i64 (pfirst l), .int .i64 (getN l 8 1), .slice A1 32 c1, .slice A2 (cnt l) c2]]) (by kernel_rfl) rfl rfl (fun w hw => hw.drawn _) ?_
   refine TH.tk (listed' := #[Tt,Ff,Ff,Ff,Ff,Ff,Ff,Ff,Ff,Ff,Ff,Ff,Ff,Ff,Ff,Ff,Ff,Ff,Ff,Ff,Ff,Ff]) 0 rfl rfl rfl (gives_field (v := .pointer (some ⟨g3, 2, none⟩)) rfl rfl (fun w => jlkfld86_2 _ _ w)) (fun w1 hw => hw.pick [1, 0] (by decide) rfl) ?_
   refine TH.tk (listed' := #[Tt,Tt,Ff,Ff,Ff,Ff,Ff,Ff,Ff,Ff,Ff,Ff,Ff,Ff,Ff,Ff,Ff,Ff,Ff,Ff,Ff,Ff]) 1 rfl rfl rfl (pm_load (k := 1) (i := 2) rfl rfl jlkag3 rfl rfl) (fun w1 hw => hw.pick [1, 0] (by decide) rfl) ?_
   refine TH.tk (listed' := #[Tt,Tt,Tt,Ff,Ff,Ff,Ff,Ff,Ff,Ff,Ff,Ff,Ff,Ff,Ff,Ff,Ff,Ff,Ff,Ff,Ff,Ff]) 2 rfl rfl rfl (gives_bin rfl rfl rfl (fun w => bin_eql_t (p1) w)) (fun w1 hw => hw.pick [1, 0] (by decide) rfl) ?_
   refine TH.tk (listed' := #[Tt,Tt,Tt,Tt,Ff,Ff,Ff,Ff,Ff,Ff,Ff,Ff,Ff,Ff,Ff,Ff,Ff,Ff,Ff,Ff,Ff,Ff]) 3 rfl rfl rfl (gives_move rfl rfl) (fun w1 hw => hw.pick [1, 0] (by decide) rfl) ?_
   refine TH.takeG (listed' := #[Tt,Tt,Tt,Tt,Tt,Ff,Ff,Ff,Ff,Ff,Ff,Ff,Ff,Ff,Ff,Ff,Ff,Ff,Ff,Ff,Ff,Ff]) 4 rfl (by kernel_rfl) (by kernel_rfl) (by kernel_rfl) rfl rfl rfl rfl rfl rfl (gives_field (v := .pointer (some ⟨g3, 3, none⟩)) rfl rfl (fun w => jlkfld86_3 _ _ w)) (fun w1 hw => hw.pick [1, 0] (by decide) rfl) ?_
   refine TH.takeG (listed' := #[Tt,Tt,Tt,Tt,Tt,Tt,Ff,Ff,Ff,Ff,Ff,Ff,Ff,Ff,Ff,Ff,Ff,Ff,Ff,Ff,Ff,Ff]) 5 rfl (by kernel_rfl) (by kernel_rfl) (by kernel_rfl) rfl rfl rfl rfl rfl rfl (pm_load (k := 1) (i := 3) rfl rfl jlkag3 rfl rfl) (fun w1 hw => hw.pick [1, 0] (by decide) rfl) ?_
   refine TH.takeG (listed' := #[Tt,Tt,Tt,Tt,Tt,Tt,Tt,Ff,Ff,Ff,Ff,Ff,Ff,Ff,Ff,Ff,Ff,Ff,Ff,Ff,Ff,Ff]) 6 rfl (by kernel_rfl) (by kernel_rfl) (by kernel_rfl) rfl rfl rfl rfl rfl rfl (gives_bin rfl rfl rfl (fun w => bin_eql_f (by omega) w)) (fun w1 hw => hw.pick [1, 0] (by decide) rfl) ?_
   refine TH.tk (listed' := #[Tt,Tt,Tt,Tt,Tt,Tt,Tt,Tt,Ff,Ff,Ff,Ff,Ff,Ff,Ff,Ff,Ff,Ff,Ff,Ff,Ff,Ff]) 7 rfl rfl rfl (gives_pick rfl rfl rfl) (fun w1 hw => hw.pick [1, 0] (by decide) rfl) ?_
   refine TH.tk (listed' := #[Tt,Tt,Tt,Tt,Tt,Tt,Tt,Tt,Tt,Ff,Ff,Ff,Ff,Ff,Ff,Ff,Ff,Ff,Ff,Ff,Ff,Ff]) 8 rfl rfl rfl (gives_move rfl rfl) (fun w1 hw => hw.pick [1, 0] (by decide) rfl) ?_
   refine TH.off (listed' := #[Tt,Tt,Tt,Tt,Tt,Tt,Tt,Tt,Tt,Tt,Ff,Ff,Ff,Ff,Ff,Ff,Ff,Ff,Ff,Ff,Ff,Ff]) 9 rfl (by kernel_rfl) (by kernel_rfl) (by kernel_rfl) rfl rfl rfl rfl rfl rfl rfl (fun w1 hw => hw.pick [1, 0] (by decide) rfl) ?_
   refine TH.off (listed' := #[Tt,Tt,Tt,Tt,Tt,Tt,Tt,Tt,Tt,Tt,Tt,Ff,Ff,Ff,Ff,Ff,Ff,Ff,Ff,Ff,Ff,Ff]) 10 rfl (by kernel_rfl) (by kernel_rfl) (by kernel_rfl) rfl rfl rfl rfl rfl rfl rfl (fun w1 hw => hw.pick [1, 0] (by decide) rfl) ?_
   refine TH.off (listed' := #[Tt,Tt,Tt,Tt,Tt,Tt,Tt,Tt,Tt,Tt,Tt,Tt,Ff,Ff,Ff,Ff,Ff,Ff,Ff,Ff,Ff,Ff]) 11 rfl (by kernel_rfl) (by kernel_rfl) (by kernel_rfl) rfl rfl rfl rfl rfl rfl rfl (fun w1 hw => hw.pick [1, 0] (by decide) rfl) ?_
   refine TH.off (listed' := #[Tt,Tt,Tt,Tt,Tt,Tt,Tt,Tt,Tt,Tt,Tt,Tt,Tt,Ff,Ff,Ff,Ff,Ff,Ff,Ff,Ff,Ff]) 12 rfl (by kernel_rfl) (by kernel_rfl) (by kernel_rfl) rfl rfl rfl rfl rfl rfl rfl (fun w1 hw => hw.pick [1, 0] (by decide) rfl) ?_
   refine TH.tk (listed' := #[Tt,Tt,Tt,Tt,Tt,Tt,Tt,Tt,Tt,Tt,Tt,Tt,Tt,Tt,Ff,Ff,Ff,Ff,Ff,Ff,Ff,Ff]) 13 rfl rfl rfl (gives_pick rfl rfl rfl) (fun w1 hw => hw.pick [1, 0] (by decide) rfl) ?_
   refine TH.tk (listed' := #[Tt,Tt,Tt,Tt,Tt,Tt,Tt,Tt,Tt,Tt,Tt,Tt,Tt,Tt,Tt,Ff,Ff,Ff,Ff,Ff,Ff,Ff]) 14 rfl rfl rfl (gives_move rfl rfl) (fun w1 hw => hw.pick [1, 0] (by decide) rfl) ?_
   refine TH.off (listed' := #[Tt,Tt,Tt,Tt,Tt,Tt,Tt,Tt,Tt,Tt,Tt,Tt,Tt,Tt,Tt,Tt,Ff,Ff,Ff,Ff,Ff,Ff]) 15 rfl (by kernel_rfl) (by kernel_rfl) (by kernel_rfl) rfl rfl rfl rfl rfl rfl rfl (fun w1 hw => hw.pick [1, 0] (by decide) rfl) ?_
   refine TH.off (listed' := #[Tt,Tt,Tt,Tt,Tt,Tt,Tt,Tt,Tt,Tt,Tt,Tt,Tt,Tt,Tt,Tt,Tt,Ff,Ff,Ff,Ff,Ff]) 16 rfl (by kernel_rfl) (by kernel_rfl) (by kernel_rfl) rfl rfl rfl rfl rfl rfl rfl (fun w1 hw => hw.pick [1, 0] (by decide) rfl) ?_
   refine TH.off (listed' := #[Tt,Tt,Tt,Tt,Tt,Tt,Tt,Tt,Tt,Tt,Tt,Tt,Tt,Tt,Tt,Tt,Tt,Tt,Ff,Ff,Ff,Ff]) 17 rfl (by kernel_rfl) (by kernel_rfl) (by kernel_rfl) rfl rfl rfl rfl rfl rfl rfl (fun w1 hw => hw.pick [1, 0] (by decide) rfl) ?_
   refine TH.off (listed' := #[Tt,Tt,Tt,Tt,Tt,Tt,Tt,Tt,Tt,Tt,Tt,Tt,Tt,Tt,Tt,Tt,Tt,Tt,Tt,Ff,Ff,Ff]) 18 rfl (by kernel_rfl) (by kernel_rfl) (by kernel_rfl) rfl rfl rfl rfl rfl rfl rfl (fun w1 hw => hw.pick [1, 0] (by decide) rfl) ?_
   refine TH.off (listed' := #[Tt,Tt,Tt,Tt,Tt,Tt,Tt,Tt,Tt,Tt,Tt,Tt,Tt,Tt,Tt,Tt,Tt,Tt,Tt,Tt,Ff,Ff]) 19 rfl (by kernel_rfl) (by kernel_rfl) (by kernel_rfl) rfl rfl rfl rfl rfl rfl rfl (fun w1 hw => hw.pick [1, 0] (by decide) rfl) ?_
   refine TH.tk (listed' := #[Tt,Tt,Tt,Tt,Tt,Tt,Tt,Tt,Tt,Tt,Tt,Tt,Tt,Tt,Tt,Tt,Tt,Tt,Tt,Tt,Tt,Ff]) 20 rfl rfl rfl (gives_pick rfl rfl rfl) (fun w1 hw => hw.pick [1, 0] (by decide) rfl) ?_
   refine TH.tk (listed' := #[Tt,Tt,Tt,Tt,Tt,Tt,Tt,Tt,Tt,Tt,Tt,Tt,Tt,Tt,Tt,Tt,Tt,Tt,Tt,Tt,Tt,Tt]) 21 rfl rfl rfl (gives_assign rfl rfl) (fun w1 hw => hw.pick [1, 0] (by decide) rfl) ?_
   refine TH.done (by kernel_rfl) ?_
   refine TX.then_ (TC.ret_ (TX.then_ret ?_))
   exact ret_tmp Tryd.results53 rfl (fun w1 hw => ⟨by rw [decide_eq_false hR], hw.bel⟩)
  ·have hR : ¬ lnk ch l := fun hh => by rw [lnk, if_pos hK] at hh; obtain ⟨x1, x2, x3, x4⟩ := hh; exact p1 x1
   refine TC.held (ls := #[Ff,Ff,Ff,Ff,Ff,Ff,Ff,Ff,Ff,Ff,Ff,Ff,Ff,Ff,Ff,Ff,Ff,Ff,Ff,Ff,Ff,Ff]) (Pm w [.blk g2 45 [.int .i64 ch.v, .int .i64 ch.run, .int .i64 ch.n, .slice A0 n0 c0], .blk g3 86 [.int .i64 (pid l), .int .i64 (prun l), .int .i64 (pfirst l), .int .i64 (getN l 8 1), .slice A1 32 c1, .slice A2 (cnt l) c2]]) (by kernel_rfl) rfl rfl (fun w hw => hw.drawn _) ?_
   refine TH.tk (listed' := #[Tt,Ff,Ff,Ff,Ff,Ff,Ff,Ff,Ff,Ff,Ff,Ff,Ff,Ff,Ff,Ff,Ff,Ff,Ff,Ff,Ff,Ff]) 0 rfl rfl rfl (gives_field (v := .pointer (some ⟨g3, 2, none⟩)) rfl rfl (fun w => jlkfld86_2 _ _ w)) (fun w1 hw => hw.pick [1, 0] (by decide) rfl) ?_
   refine TH.tk (listed' := #[Tt,Tt,Ff,Ff,Ff,Ff,Ff,Ff,Ff,Ff,Ff,Ff,Ff,Ff,Ff,Ff,Ff,Ff,Ff,Ff,Ff,Ff]) 1 rfl rfl rfl (pm_load (k := 1) (i := 2) rfl rfl jlkag3 rfl rfl) (fun w1 hw => hw.pick [1, 0] (by decide) rfl) ?_
   refine TH.tk (listed' := #[Tt,Tt,Tt,Ff,Ff,Ff,Ff,Ff,Ff,Ff,Ff,Ff,Ff,Ff,Ff,Ff,Ff,Ff,Ff,Ff,Ff,Ff]) 2 rfl rfl rfl (gives_bin rfl rfl rfl (fun w => bin_eql_f (p1) w)) (fun w1 hw => hw.pick [1, 0] (by decide) rfl) ?_
   refine TH.tk (listed' := #[Tt,Tt,Tt,Tt,Ff,Ff,Ff,Ff,Ff,Ff,Ff,Ff,Ff,Ff,Ff,Ff,Ff,Ff,Ff,Ff,Ff,Ff]) 3 rfl rfl rfl (gives_move rfl rfl) (fun w1 hw => hw.pick [1, 0] (by decide) rfl) ?_
   refine TH.off (listed' := #[Tt,Tt,Tt,Tt,Tt,Ff,Ff,Ff,Ff,Ff,Ff,Ff,Ff,Ff,Ff,Ff,Ff,Ff,Ff,Ff,Ff,Ff]) 4 rfl (by kernel_rfl) (by kernel_rfl) (by kernel_rfl) rfl rfl rfl rfl rfl rfl rfl (fun w1 hw => hw.pick [1, 0] (by decide) rfl) ?_
   refine TH.off (listed' := #[Tt,Tt,Tt,Tt,Tt,Tt,Ff,Ff,Ff,Ff,Ff,Ff,Ff,Ff,Ff,Ff,Ff,Ff,Ff,Ff,Ff,Ff]) 5 rfl (by kernel_rfl) (by kernel_rfl) (by kernel_rfl) rfl rfl rfl rfl rfl rfl rfl (fun w1 hw => hw.pick [1, 0] (by decide) rfl) ?_
   refine TH.off (listed' := #[Tt,Tt,Tt,Tt,Tt,Tt,Tt,Ff,Ff,Ff,Ff,Ff,Ff,Ff,Ff,Ff,Ff,Ff,Ff,Ff,Ff,Ff]) 6 rfl (by kernel_rfl) (by kernel_rfl) (by kernel_rfl) rfl rfl rfl rfl rfl rfl rfl (fun w1 hw => hw.pick [1, 0] (by decide) rfl) ?_
   refine TH.tk (listed' := #[Tt,Tt,Tt,Tt,Tt,Tt,Tt,Tt,Ff,Ff,Ff,Ff,Ff,Ff,Ff,Ff,Ff,Ff,Ff,Ff,Ff,Ff]) 7 rfl rfl rfl (gives_pick rfl rfl rfl) (fun w1 hw => hw.pick [1, 0] (by decide) rfl) ?_
   refine TH.tk (listed' := #[Tt,Tt,Tt,Tt,Tt,Tt,Tt,Tt,Tt,Ff,Ff,Ff,Ff,Ff,Ff,Ff,Ff,Ff,Ff,Ff,Ff,Ff]) 8 rfl rfl rfl (gives_move rfl rfl) (fun w1 hw => hw.pick [1, 0] (by decide) rfl) ?_
   refine TH.off (listed' := #[Tt,Tt,Tt,Tt,Tt,Tt,Tt,Tt,Tt,Tt,Ff,Ff,Ff,Ff,Ff,Ff,Ff,Ff,Ff,Ff,Ff,Ff]) 9 rfl (by kernel_rfl) (by kernel_rfl) (by kernel_rfl) rfl rfl rfl rfl rfl rfl rfl (fun w1 hw => hw.pick [1, 0] (by decide) rfl) ?_
   refine TH.off (listed' := #[Tt,Tt,Tt,Tt,Tt,Tt,Tt,Tt,Tt,Tt,Tt,Ff,Ff,Ff,Ff,Ff,Ff,Ff,Ff,Ff,Ff,Ff]) 10 rfl (by kernel_rfl) (by kernel_rfl) (by kernel_rfl) rfl rfl rfl rfl rfl rfl rfl (fun w1 hw => hw.pick [1, 0] (by decide) rfl) ?_
   refine TH.off (listed' := #[Tt,Tt,Tt,Tt,Tt,Tt,Tt,Tt,Tt,Tt,Tt,Tt,Ff,Ff,Ff,Ff,Ff,Ff,Ff,Ff,Ff,Ff]) 11 rfl (by kernel_rfl) (by kernel_rfl) (by kernel_rfl) rfl rfl rfl rfl rfl rfl rfl (fun w1 hw => hw.pick [1, 0] (by decide) rfl) ?_
   refine TH.off (listed' := #[Tt,Tt,Tt,Tt,Tt,Tt,Tt,Tt,Tt,Tt,Tt,Tt,Tt,Ff,Ff,Ff,Ff,Ff,Ff,Ff,Ff,Ff]) 12 rfl (by kernel_rfl) (by kernel_rfl) (by kernel_rfl) rfl rfl rfl rfl rfl rfl rfl (fun w1 hw => hw.pick [1, 0] (by decide) rfl) ?_
   refine TH.tk (listed' := #[Tt,Tt,Tt,Tt,Tt,Tt,Tt,Tt,Tt,Tt,Tt,Tt,Tt,Tt,Ff,Ff,Ff,Ff,Ff,Ff,Ff,Ff]) 13 rfl rfl rfl (gives_pick rfl rfl rfl) (fun w1 hw => hw.pick [1, 0] (by decide) rfl) ?_
   refine TH.tk (listed' := #[Tt,Tt,Tt,Tt,Tt,Tt,Tt,Tt,Tt,Tt,Tt,Tt,Tt,Tt,Tt,Ff,Ff,Ff,Ff,Ff,Ff,Ff]) 14 rfl rfl rfl (gives_move rfl rfl) (fun w1 hw => hw.pick [1, 0] (by decide) rfl) ?_
   refine TH.off (listed' := #[Tt,Tt,Tt,Tt,Tt,Tt,Tt,Tt,Tt,Tt,Tt,Tt,Tt,Tt,Tt,Tt,Ff,Ff,Ff,Ff,Ff,Ff]) 15 rfl (by kernel_rfl) (by kernel_rfl) (by kernel_rfl) rfl rfl rfl rfl rfl rfl rfl (fun w1 hw => hw.pick [1, 0] (by decide) rfl) ?_
   refine TH.off (listed' := #[Tt,Tt,Tt,Tt,Tt,Tt,Tt,Tt,Tt,Tt,Tt,Tt,Tt,Tt,Tt,Tt,Tt,Ff,Ff,Ff,Ff,Ff]) 16 rfl (by kernel_rfl) (by kernel_rfl) (by kernel_rfl) rfl rfl rfl rfl rfl rfl rfl (fun w1 hw => hw.pick [1, 0] (by decide) rfl) ?_
   refine TH.off (listed' := #[Tt,Tt,Tt,Tt,Tt,Tt,Tt,Tt,Tt,Tt,Tt,Tt,Tt,Tt,Tt,Tt,Tt,Tt,Ff,Ff,Ff,Ff]) 17 rfl (by kernel_rfl) (by kernel_rfl) (by kernel_rfl) rfl rfl rfl rfl rfl rfl rfl (fun w1 hw => hw.pick [1, 0] (by decide) rfl) ?_
   refine TH.off (listed' := #[Tt,Tt,Tt,Tt,Tt,Tt,Tt,Tt,Tt,Tt,Tt,Tt,Tt,Tt,Tt,Tt,Tt,Tt,Tt,Ff,Ff,Ff]) 18 rfl (by kernel_rfl) (by kernel_rfl) (by kernel_rfl) rfl rfl rfl rfl rfl rfl rfl (fun w1 hw => hw.pick [1, 0] (by decide) rfl) ?_
   refine TH.off (listed' := #[Tt,Tt,Tt,Tt,Tt,Tt,Tt,Tt,Tt,Tt,Tt,Tt,Tt,Tt,Tt,Tt,Tt,Tt,Tt,Tt,Ff,Ff]) 19 rfl (by kernel_rfl) (by kernel_rfl) (by kernel_rfl) rfl rfl rfl rfl rfl rfl rfl (fun w1 hw => hw.pick [1, 0] (by decide) rfl) ?_
   refine TH.tk (listed' := #[Tt,Tt,Tt,Tt,Tt,Tt,Tt,Tt,Tt,Tt,Tt,Tt,Tt,Tt,Tt,Tt,Tt,Tt,Tt,Tt,Tt,Ff]) 20 rfl rfl rfl (gives_pick rfl rfl rfl) (fun w1 hw => hw.pick [1, 0] (by decide) rfl) ?_
   refine TH.tk (listed' := #[Tt,Tt,Tt,Tt,Tt,Tt,Tt,Tt,Tt,Tt,Tt,Tt,Tt,Tt,Tt,Tt,Tt,Tt,Tt,Tt,Tt,Tt]) 21 rfl rfl rfl (gives_assign rfl rfl) (fun w1 hw => hw.pick [1, 0] (by decide) rfl) ?_
   refine TH.done (by kernel_rfl) ?_
   refine TX.then_ (TC.ret_ (TX.then_ret ?_))
   exact ret_tmp Tryd.results53 rfl (fun w1 hw => ⟨by rw [decide_eq_false hR], hw.bel⟩)
 ·have hK : ¬ emptyK ch := by unfold emptyK; have := of_decide_eq_false h8; omega
  refine TL.end_ (TX.then_ (TC.condF rfl (TC.skip_ (TX.then_ (TC.seq_ (TC.seq_ (TC.region ?_)))))))
  refine TL.val rfl rfl rfl (gives_field (v := .pointer (some ⟨g3, 3, none⟩)) rfl rfl (fun w => jlkfld86_3 _ _ w)) ?_
  refine TL.val rfl rfl rfl (pm_load (k := 0) (i := 3) rfl rfl jlkag3 rfl rfl) ?_
  refine TL.vsplit rfl rfl rfl (gives_bin rfl rfl rfl (fun w => bin_eql w)) (fun h32 => ?_) (fun h32 => ?_)
  ·have q32 := of_decide_eq_true h32
   have hR : ¬ lnk ch l := fun hh => by rw [lnk, if_neg hK] at hh; obtain ⟨x1, x2, x3, x4, x5, x6, x7⟩ := hh; omega
   iterate 37 (first | refine TL.of ?_ | refine TL.mv ?_ | refine TL.pk ?_)
   refine TL.end_ (TX.then_ (TC.condT rfl (TC.seq_ (TC.region ?_))))
   refine TL.as_ ?_
   refine TL.end_ (TX.then_ (TC.ret_ (TX.then_ret ?_)))
   exact ret_tmp Tryd.results53 rfl (fun w1 hw => ⟨by rw [decide_eq_false hR], hw.bel⟩)
  ·have q32 := of_decide_eq_false h32
   refine TL.mv ?_
   refine TL.gu ?_
   refine TL.val rfl rfl rfl (gives_field (v := .pointer (some ⟨g3, 0, none⟩)) rfl rfl (fun w => jlkfld86_0 _ _ w)) ?_
   refine TL.gu ?_
   refine TL.val rfl rfl rfl (pm_load (k := 0) (i := 0) rfl rfl jlkag3 rfl rfl) ?_
   refine TL.gu ?_
   refine TL.val rfl rfl rfl (gives_field (v := .pointer (some ⟨g2, 0, none⟩)) rfl rfl (fun w => jlkfld45_0 _ _ w)) ?_
   refine TL.gu ?_
   refine TL.val rfl rfl rfl (pm_load (k := 1) (i := 0) rfl rfl jlkag3 rfl rfl) ?_
   refine TL.gu ?_
   refine TL.vsplit rfl rfl rfl (gives_bin rfl rfl rfl (fun w => bin_neq w)) (fun h38 => ?_) (fun h38 => ?_)
   ·have q38 := of_decide_eq_true h38
    have hR : ¬ lnk ch l := fun hh => by rw [lnk, if_neg hK] at hh; obtain ⟨x1, x2, x3, x4, x5, x6, x7⟩ := hh; omega
    iterate 31 (first | refine TL.of ?_ | refine TL.pk ?_ | refine TL.mv ?_)
    refine TL.end_ (TX.then_ (TC.condT rfl (TC.seq_ (TC.region ?_))))
    refine TL.as_ ?_
    refine TL.end_ (TX.then_ (TC.ret_ (TX.then_ret ?_)))
    exact ret_tmp Tryd.results53 rfl (fun w1 hw => ⟨by rw [decide_eq_false hR], hw.bel⟩)
   ·have q38 := of_decide_eq_false h38
    refine TL.pk ?_
    refine TL.mv ?_
    refine TL.gu ?_
    refine TL.val rfl rfl rfl (gives_field (v := .pointer (some ⟨g3, 1, none⟩)) rfl rfl (fun w => jlkfld86_1 _ _ w)) ?_
    refine TL.gu ?_
    refine TL.val rfl rfl rfl (pm_load (k := 0) (i := 1) rfl rfl jlkag3 rfl rfl) ?_
    refine TL.gu ?_
    refine TL.val rfl rfl rfl (gives_field (v := .pointer (some ⟨g2, 1, none⟩)) rfl rfl (fun w => jlkfld45_1 _ _ w)) ?_
    refine TL.gu ?_
    refine TL.val rfl rfl rfl (pm_load (k := 1) (i := 1) rfl rfl jlkag3 rfl rfl) ?_
    refine TL.gu ?_
    refine TL.vsplit rfl rfl rfl (gives_bin rfl rfl rfl (fun w => bin_neq w)) (fun h45 => ?_) (fun h45 => ?_)
    ·have q45 := of_decide_eq_true h45
     have hR : ¬ lnk ch l := fun hh => by rw [lnk, if_neg hK] at hh; obtain ⟨x1, x2, x3, x4, x5, x6, x7⟩ := hh; omega
     iterate 24 (first | refine TL.of ?_ | refine TL.pk ?_ | refine TL.mv ?_)
     refine TL.end_ (TX.then_ (TC.condT rfl (TC.seq_ (TC.region ?_))))
     refine TL.as_ ?_
     refine TL.end_ (TX.then_ (TC.ret_ (TX.then_ret ?_)))
     exact ret_tmp Tryd.results53 rfl (fun w1 hw => ⟨by rw [decide_eq_false hR], hw.bel⟩)
    ·have q45 := of_decide_eq_false h45
     refine TL.pk ?_
     refine TL.mv ?_
     refine TL.gu ?_
     refine TL.val rfl rfl rfl (gives_field (v := .pointer (some ⟨g3, 2, none⟩)) rfl rfl (fun w => jlkfld86_2 _ _ w)) ?_
     refine TL.gu ?_
     refine TL.val rfl rfl rfl (pm_load (k := 0) (i := 2) rfl rfl jlkag3 rfl rfl) ?_
     refine TL.gu ?_
     refine TL.val rfl rfl rfl (gives_field (v := .pointer (some ⟨g2, 2, none⟩)) rfl rfl (fun w => jlkfld45_2 _ _ w)) ?_
     refine TL.gu ?_
     refine TL.val rfl rfl rfl (pm_load (k := 1) (i := 2) rfl rfl jlkag3 rfl rfl) ?_
     refine TL.gu ?_
     refine TL.vsplit rfl rfl rfl (gives_bin rfl rfl rfl (fun w => bin_neq w)) (fun h52 => ?_) (fun h52 => ?_)
     ·have q52 := of_decide_eq_true h52
      have hR : ¬ lnk ch l := fun hh => by rw [lnk, if_neg hK] at hh; obtain ⟨x1, x2, x3, x4, x5, x6, x7⟩ := hh; omega
      iterate 17 (first | refine TL.of ?_ | refine TL.pk ?_ | refine TL.mv ?_)
      refine TL.end_ (TX.then_ (TC.condT rfl (TC.seq_ (TC.region ?_))))
      refine TL.as_ ?_
      refine TL.end_ (TX.then_ (TC.ret_ (TX.then_ret ?_)))
      exact ret_tmp Tryd.results53 rfl (fun w1 hw => ⟨by rw [decide_eq_false hR], hw.bel⟩)
     ·have q52 := of_decide_eq_false h52
      refine TL.pk ?_
      refine TL.mv ?_
      refine TL.gu ?_
      refine TL.val rfl rfl rfl (gives_field (v := .pointer (some ⟨g3, 4, none⟩)) rfl rfl (fun w => jlkfld86_4 _ _ w)) ?_
      refine TL.gu ?_
      refine TL.val rfl rfl rfl (pm_load (k := 0) (i := 4) rfl rfl jlkag28 rfl rfl) ?_
      refine TL.gu ?_
      refine TL.val rfl rfl rfl (gives_field (v := .pointer (some ⟨g2, 3, none⟩)) rfl rfl (fun w => jlkfld45_3 _ _ w)) ?_
      refine TL.gu ?_
      refine TL.val rfl rfl rfl (pm_load (k := 1) (i := 3) rfl rfl jlkag28 rfl rfl) ?_
      refine TL.gu ?_
      refine TL.callsplit rfl rfl rfl rfl rfl Tryd.func28 jlknm28 jlkbd28 (fun w1 hw => wequal _ _ _ _ _ _ (pbef l) ch.dg w1 ((hb1.below hw.bel).more hw.bel.size) ((hb0.below hw.bel).more hw.bel.size)) (fun h59 => ?_) (fun h59 => ?_)
      ·have q59 := of_decide_eq_true h59
       iterate 5 (first | refine TL.gu ?_ | refine TL.mv ?_ | refine TL.pk ?_ | refine TL.val rfl rfl rfl (gives_boolnot rfl rfl) ?_)
       refine TL.val rfl rfl rfl (gives_field (v := .pointer (some ⟨g2, 2, none⟩)) rfl rfl (fun w => jlkfld45_2 _ _ w)) ?_
       refine TL.gu ?_
       refine TL.val rfl rfl rfl (pm_load (k := 1) (i := 2) rfl rfl jlkag3 rfl rfl) ?_
       refine TL.gu ?_
       refine TL.val rfl rfl rfl (gives_field (v := .pointer (some ⟨g3, 3, none⟩)) rfl rfl (fun w => jlkfld86_3 _ _ w)) ?_
       refine TL.gu ?_
       refine TL.val rfl rfl rfl (pm_load (k := 0) (i := 3) rfl rfl jlkag3 rfl rfl) ?_
       refine TL.gu ?_
       refine TL.val rfl rfl rfl (gives_bin rfl rfl rfl (fun w => bin_sub_ (r := 1000 - (getN l 8 1)) (by simp only [IntKind.wrap_i64]; omega) w)) ?_
       refine TL.gu ?_
       refine TL.vsplit rfl rfl rfl (gives_bin rfl rfl rfl (fun w => bin_gtr w)) (fun h68 => ?_) (fun h68 => ?_)
       ·have q68 := of_decide_eq_true h68
        have hR : ¬ lnk ch l := fun hh => by rw [lnk, if_neg hK] at hh; obtain ⟨x1, x2, x3, x4, x5, x6, x7⟩ := hh; omega
        refine TL.pk ?_
        refine TL.end_ (TX.then_ (TC.condT rfl (TC.seq_ (TC.region ?_))))
        refine TL.as_ ?_
        refine TL.end_ (TX.then_ (TC.ret_ (TX.then_ret ?_)))
        exact ret_tmp Tryd.results53 rfl (fun w1 hw => ⟨by rw [decide_eq_false hR], hw.bel⟩)
       ·have q68 := of_decide_eq_false h68
        refine TL.pk ?_
        refine TL.end_ (TX.then_ (TC.condF rfl (TC.skip_ (TX.then_ (TC.seq_ (TC.seq_ (TC.region ?_)))))))
        refine TL.val rfl rfl rfl (gives_field (v := .pointer (some ⟨g3, 5, none⟩)) rfl rfl (fun w => jlkfld86_5 _ _ w)) ?_
        refine TL.val rfl rfl rfl (pm_load (k := 0) (i := 5) rfl rfl jlkag33 rfl rfl) ?_
        refine TL.val rfl rfl rfl (gives_len rfl Tryd.underlying33 rfl) ?_
        refine TL.mv ?_
        refine TL.end_ (TX.then_ (TC.block ?_))
        refine TC.loop_ (α := {i : Nat // i ≤ cnt l ∧ folAll ch (rlB l) 0 = folAll ch ((rlB l).drop i) i}) (fun y => [(2, .pointer (some ⟨g2, 0, none⟩)), (3, .pointer (some ⟨g3, 0, none⟩)), (71, .slice A2 (cnt l) c2), (72, .int .i64 (cnt l : Nat)), (73, .int .i64 (y.1 : Nat))]) (fun y => Pm w [.blk g2 45 [.int .i64 ch.v, .int .i64 ch.run, .int .i64 ch.n, .slice A0 n0 c0], .blk g3 86 [.int .i64 (pid l), .int .i64 (prun l), .int .i64 (pfirst l), .int .i64 (getN l 8 1), .slice A1 32 c1, .slice A2 (cnt l) c2]]) (fun y => cnt l - y.1) (⟨0, Nat.zero_le _, by rw [List.drop_zero]⟩) ⟨rfl, rfl, rfl, rfl, rfl, trivial⟩ (fun w1 hw => hw.pick [1, 0] (by decide) rfl) ?_
        rintro ⟨i, hi, hinv⟩
        dsimp only at hi hinv ⊢
        refine TC.seq_ (TC.region ?_)
        refine TL.vsplit rfl rfl rfl (gives_bin rfl rfl rfl (fun w => bin_lss w)) (fun h74 => ?_) (fun h74 => ?_)
        ·have q74 := of_decide_eq_true h74
         have hi2 : i < cnt l := by omega
         have hxr : (rlB l)[i]? = some (decR (rsAt l i)) := rlN_at hi2
         obtain ⟨b2, o2, hA2, hbb2, hc2⟩ := hr2.ad (by omega) (by decide)
         generalize decR (rsAt l i) = r at hxr
         refine TL.end_ (TX.then_ (TC.seq_ (TC.condT rfl (TC.skip_ (TX.then_ (TC.seq_ (TC.block (TC.seq_ (TC.region ?_)))))))))
         refine TL.mv ?_
         refine TL.val rfl rfl rfl (gives_at (v := .pointer (some ⟨b2, o2 + i * 17, none⟩)) rfl rfl rfl (fun w => at_el Tryd.underlying33 jlksz27 hA2 _ _ i hi2 rfl w)) ?_
         refine TL.val rfl rfl rfl (gives_loadR rfl rfl jlkag27 jlksz27 (rs_cells_len r) (fun w1 hw j u hu => (hw.bel.cell hbb2).trans (rcs_cell hxr hc2 j u hu))) ?_
         refine TL.pnew rfl rfl rfl (exec_alloc (cs := [.int .i64 0, .int .i64 0, .int .i64 0, .int .i64 0, .int .u32 0, .int .i64 0, .int .i64 0, .int .i64 0, .bool false, .bool false, .int .i64 0, .int .u32 0, .int .i64 0, .int .i64 0, .int .i64 0, .int .i64 0, .int .i64 0]) rfl jlkzv27 rfl) (fun g6 => ?_)
         refine TL.as_ ?_
         refine TL.pstore (k := 0) (vs := r.cells) rfl rfl rfl rfl rfl rfl rfl jlksz27 (rs_one r) (by show 17 ≤ 17; decide) (L' := [.blk g6 27 r.cells, .blk g2 45 [.int .i64 ch.v, .int .i64 ch.run, .int .i64 ch.n, .slice A0 n0 c0], .blk g3 86 [.int .i64 (pid l), .int .i64 (prun l), .int .i64 (pfirst l), .int .i64 (getN l 8 1), .slice A1 32 c1, .slice A2 (cnt l) c2]]) rfl ?_
         refine TL.end_ (TX.then_ (TC.seq_ (TC.region ?_)))
         refine TL.val rfl rfl rfl (pm_loadV (k := 1) (i := 0) (n := 4) (v := .agg #[.int .i64 ch.v, .int .i64 ch.run, .int .i64 ch.n, .slice A0 n0 c0]) rfl rfl jlkag45 jlksz45 rfl (by show 4 ≤ 4; decide) rfl) ?_
         refine TL.mv ?_
         refine TL.val rfl rfl rfl (pm_loadV (k := 0) (i := 0) (n := 17) (v := .agg (r.cells).toArray) rfl rfl jlkag27 jlksz27 rfl (by show 17 ≤ 17; decide) rfl) ?_
         refine TL.callsplit rfl rfl rfl rfl rfl Tryd.func62 jlknm62 jlkbd62 (fun w1 hw => follows_any ch.v ch.run ch.n (i : Nat) A0 n0 c0 r w1 (by omega)) (fun h81 => ?_) (fun h81 => ?_)
         ·refine TL.val rfl rfl rfl (gives_boolnot rfl rfl) ?_
          refine TL.end_ (TX.then_ (TC.condF rfl (TC.skip_ (TX.in_normal (TX.then_ (TC.region ?_))))))
          refine TL.val rfl rfl rfl (gives_bin rfl rfl rfl (fun w => bin_add_ (r := ((i + 1 : Nat) : Int)) (by simp only [IntKind.wrap_i64]; omega) w)) ?_
          refine TL.mv ?_
          refine TL.end_ ?_
          exact TX.round (⟨i + 1, hi2, by rw [hinv, folAll_at hxr, h81, Bool.true_and]⟩) (by show cnt l - (i + 1) < cnt l - i; omega) ⟨rfl, rfl, rfl, rfl, rfl, trivial⟩ (fun w1 hw => hw.pick [1, 2] (by decide) rfl)
         ·have hR : ¬ lnk ch l := fun hh => by rw [lnk, if_neg hK] at hh; obtain ⟨x1, x2, x3, x4, x5, x6, x7⟩ := hh; rw [hinv, folAll_at hxr, h81] at x7; exact absurd x7 (by simp)
          refine TL.val rfl rfl rfl (gives_boolnot rfl rfl) ?_
          refine TL.end_ (TX.then_ (TC.condT rfl (TC.seq_ (TC.region ?_))))
          refine TL.as_ ?_
          refine TL.end_ (TX.then_ (TC.ret_ (TX.in_ret (TX.then_ret (TX.then_ret (TX.in_ret (TX.then_ret ?_)))))))
          exact ret_tmp Tryd.results53 rfl (fun w1 hw => ⟨by rw [decide_eq_false hR], hw.bel⟩)
        ·have q74 := of_decide_eq_false h74
         have hi2 : i = cnt l := by omega
         subst hi2
         have hR : lnk ch l := by
          rw [lnk, if_neg hK]
          refine ⟨by omega, by omega, by omega, by omega, q59, by omega, ?_⟩
          rw [hinv, List.drop_of_length_le (by rw [rlB_len]; exact Nat.le_refl _)]; rfl
         refine TL.end_ (TX.then_ (TC.seq_ (TC.condF rfl (TC.exit_ (TX.then_exit (TX.then_exit (TX.in_same (TX.then_ (TC.seq_ (TC.region ?_))))))))))
         refine TL.as_ ?_
         refine TL.end_ (TX.then_ (TC.ret_ ?_))
         exact ret_tmp Tryd.results53 rfl (fun w1 hw => ⟨by rw [decide_eq_true hR], hw.bel⟩)
      ·have q59 := of_decide_eq_false h59
       have hR : ¬ lnk ch l := fun hh => by rw [lnk, if_neg hK] at hh; obtain ⟨x1, x2, x3, x4, x5, x6, x7⟩ := hh; exact q59 x5
       iterate 11 (first | refine TL.of ?_ | refine TL.pk ?_ | refine TL.gu ?_ | refine TL.mv ?_ | refine TL.val rfl rfl rfl (gives_boolnot rfl rfl) ?_)
       refine TL.end_ (TX.then_ (TC.condT rfl (TC.seq_ (TC.region ?_))))
       refine TL.as_ ?_
       refine TL.end_ (TX.then_ (TC.ret_ (TX.then_ret ?_)))
       exact ret_tmp Tryd.results53 rfl (fun w1 hw => ⟨by rw [decide_eq_false hR], hw.bel⟩)
end Go.Proofs.YtmeaeeehnkcblaaDoor

namespace Go.Proofs.YtmeaeeehnkcblaaDoor
open Go.RowKit
set_option maxRecDepth 20000
theorem u32_or_nat (a b : Nat) (ha : a < 4294967296) (hb : b < 4294967296) : bits .or .u32 (a : Int) (b : Int) = ((a ||| b : Nat) : Int) := by
 have hx : a ||| b < 2 ^ 32 := Nat.or_lt_two_pow (by omega) (by omega)
 have e1 : (BitVec.ofInt 32 (a : Int)).toNat = a := by rw [BitVec.toNat_ofInt]; omega
 have e2 : (BitVec.ofInt 32 (b : Int)).toNat = b := by rw [BitVec.toNat_ofInt]; omega
 show IntKind.u32.wrap ((BitVec.ofInt 32 (a : Int) ||| BitVec.ofInt 32 (b : Int)).toNat : Int) = _
 rw [BitVec.toNat_or, e1, e2, IntKind.wrap_u32]
 omega
theorem u32_or_shift (k : Nat) (a b : Int) (h0 : 0 ≤ a) (h1 : a * 2 ^ k < 4294967296) (hb : 0 ≤ b) (hb1 : b < 2 ^ k) (hk : k ≤ 31) : bits .or .u32 (a * 2 ^ k) b = a * 2 ^ k + b := by
 obtain ⟨x, rfl⟩ := Int.eq_ofNat_of_zero_le h0
 obtain ⟨y, rfl⟩ := Int.eq_ofNat_of_zero_le hb
 have hp : ((2 ^ k : Nat) : Int) = (2 : Int) ^ k := by rw [Int.natCast_pow]; rfl
 rw [← hp] at h1 hb1 ⊢
 have hy : y < 2 ^ k := by exact_mod_cast hb1
 have h2 : (2 : Nat) ^ k ≤ 2 ^ 31 := Nat.pow_le_pow_right (by omega) hk
 have hxk : x * 2 ^ k < 4294967296 := Int.ofNat_lt.1 (by rw [Int.natCast_mul]; exact h1)
 have e : 2 ^ k * x + y = 2 ^ k * x ||| y := Nat.two_pow_add_eq_or_of_lt hy x
 have h := u32_or_nat (x * 2 ^ k) y hxk (by omega)
 rw [Nat.mul_comm x, ← e] at h
 rw [show ((x : Int) * ((2 ^ k : Nat) : Int)) = ((2 ^ k * x : Nat) : Int) by rw [Nat.mul_comm]; exact (Int.natCast_mul _ _).symm, h]
 simp
theorem or4 (a b c d : Int) (ha : 0 ≤ a ∧ a ≤ 255) (hb : 0 ≤ b ∧ b ≤ 255) (hc : 0 ≤ c ∧ c ≤ 255) (hd : 0 ≤ d ∧ d ≤ 255) :
  bits .or .u32 (bits .or .u32 (bits .or .u32 (IntKind.u32.wrap (a * 16777216)) (IntKind.u32.wrap (b * 65536))) (IntKind.u32.wrap (c * 256))) d = be [a, b, c, d] := by
 simp only [IntKind.wrap_u32]
 have e1 : a * 16777216 % 4294967296 = a * 2 ^ 24 := by omega
 have e2 : b * 65536 % 4294967296 = b * 65536 := by omega
 have e3 : c * 256 % 4294967296 = c * 256 := by omega
 rw [e1, e2, e3, u32_or_shift 24 a (b * 65536) (by omega) (by omega) (by omega) (by omega) (by omega)]
 rw [show a * 2 ^ 24 + b * 65536 = (a * 256 + b) * 2 ^ 16 by omega, u32_or_shift 16 (a * 256 + b) (c * 256) (by omega) (by omega) (by omega) (by omega) (by omega)]
 rw [show (a * 256 + b) * 2 ^ 16 + c * 256 = ((a * 256 + b) * 256 + c) * 2 ^ 8 by omega, u32_or_shift 8 ((a * 256 + b) * 256 + c) d (by omega) (by omega) (by omega) (by omega) (by omega)]
 simp only [be, List.foldl_cons, List.foldl_nil]
 omega
theorem pm_drewN {w0 : Base} {w : World} {L : List Pc} (h : Pm w0 L w) (q : Nat) : Pm w0 L (w.drewN q) := h.below (below_drewN (Below.refl _ _) q)
def arrW (L : List Int) : List Value := (L.map (Value.int .u32)) ++ List.replicate (64 - L.length) (Value.int .u32 0)
theorem arrW_len (L : List Int) (h : L.length ≤ 64) : (arrW L).length = 64 := by simp [arrW]; omega
theorem arrW_at (L : List Int) (i : Nat) (h : i < L.length) : (arrW L)[0 + i]? = some (.int .u32 (L.getD i 0)) := by
 rw [Nat.zero_add]
 unfold arrW
 rw [List.getElem?_append_left (by simpa using h)]
 simp [List.getElem?_map, List.getElem?_eq_getElem h, List.getD_eq_getElem?_getD]
theorem arrW_put (L : List Int) (x : Int) {i : Nat} (hi : L.length = i) (h : i < 64) : (arrW L).take (0 + i) ++ [Value.int .u32 x] ++ (arrW L).drop (0 + i + 1) = arrW (L ++ [x]) := by
 subst hi
 unfold arrW
 rw [Nat.zero_add, List.take_append_of_le_length (by simp), List.drop_append, List.map_append]
 simp only [List.length_map, List.length_append, List.length_singleton, List.map_cons, List.map_nil]
 rw [List.take_of_length_le (by simp), List.drop_of_length_le (by simp), List.drop_replicate]
 simp only [List.nil_append, List.append_assoc]
 rw [show 64 - L.length - (L.length + 1 - L.length) = 64 - (L.length + 1) by omega]
end Go.Proofs.YtmeaeeehnkcblaaDoor

namespace Go.Proofs.YtmeaeeehnkcblaaDoor
open Go.RowKit
set_option maxRecDepth 20000
theorem rbuild8 (w : World) : (Instr.build 103 #[(0, .int .u32 1779033703), (1, .int .u32 3144134277), (2, .int .u32 1013904242), (3, .int .u32 2773480762), (4, .int .u32 1359893119), (5, .int .u32 2600822924), (6, .int .u32 528734635), (7, .int .u32 1541459225)]).run Tryd.prog w = .ok (.agg start8.cells) w := by kernel_rfl
theorem rzero8 (w : World) : (zeroValue 103).run Tryd.prog w = .ok (.agg #[.int .u32 0, .int .u32 0, .int .u32 0, .int .u32 0, .int .u32 0, .int .u32 0, .int .u32 0, .int .u32 0]) w := rfl
theorem rsz8 (w : World) : (sizeOf 103).run Tryd.prog w = .ok 8 w := rfl
theorem rag8 (w : World) : (isAgg 103).run Tryd.prog w = .ok true w := rfl
theorem rsz1 (w : World) : (sizeOf 22).run Tryd.prog w = .ok 1 w := rfl
theorem rag1 (w : World) : (isAgg 22).run Tryd.prog w = .ok false w := rfl
theorem rnmBlock : (Tryd.f72.name == "runtime.NumGoroutine") = false := by decide
theorem rbdBlock : Tryd.f72.body.isNone = false := rfl
theorem padv_zero (l : List Int) : [] ++ bv l ++ [Value.int .u8 128] = bv (padv l 0) := by simp [padv, bv]
theorem rsum_any (hB : ∀ (s : S8) (A : Option Addr) (c : Nat) (b : List Int) (w : World), s.Ok → Byt w w.heap.size A 64 b → 64 ≤ c → c ≤ maxLen → Calls Tryd.prog 72 #[.agg s.cells, .slice A 64 c] w fun e w' => e = .returned (.agg (blockF s b).cells) ∧ Below w.heap.size w w')
  (A : Option Addr) (n c : Nat) (l : List Int) (w : World) (hb : Byt w w.heap.size A n l) (hlim : n + 100 ≤ 140737488355328) :
  Calls Tryd.prog 57 #[.slice A n c] w fun e w' => ∃ A' c', e = .returned (.slice A' 32 c') ∧ 32 ≤ c' ∧ c' ≤ maxLen ∧ w'.ownsRow w.heap.size 5 1 (.slice A' 32 c') 32 (bv (shaF l)) ∧ Below w.heap.size w w' := by
 have hln : l.length = n := hb.len
 have hpz := padZ_le n
 have hpm := padZ_mod n
 have hpl := padF_len l
 rw [hln] at hpl
 obtain ⟨K, hK⟩ : ∃ K, K = (padF l).length / 64 := ⟨_, rfl⟩
 have hK2 : n + 1 + padZ n + 8 = 64 * K := by omega
 have hsh : shaF l = outB (foldB (padF l) start8 K) 8 := by rw [hK]; rfl
 rw [hsh]
 refine begin_ (vs := [.slice A n c]) Tryd.func57 rfl rfl rfl ?_ (Pm.start w)
 refine TC.seq_ (TC.region ?_)
 refine TL.as_ ?_
 refine TL.end_ (TX.then_ (TC.seq_ (TC.region ?_)))
 refine TL.mv ?_
 refine TL.nilrow 5 1 ?_
 refine TL.append (k := 0) rfl rfl rfl rfl elU8 rfl rfl rfl (fun w hw => pm_byt hw hb) (bv_one l) (by rw [Nat.mul_one]; omega) (n) (by omega) (fun A1 c1 hA11 hA12 => ?_)
 refine TL.prow (cs := [.int .u8 128]) rfl rfl rfl rfl rfl (fun w => row1 _ w) (by decide) rfl (fun g1 => ?_)
 refine TL.append (k := 1) rfl rfl rfl rfl elU8 rfl rfl rfl (fun w hw => pm_reads hw (k := 0) rfl) (one1b _) (by rw [Nat.mul_one]; omega) (n + 1) (by omega) (fun A2 c2 hA21 hA22 => ?_)
 refine TL.as_ ?_
 refine TL.end_ (TX.then_ (TC.seq_ (TC.block ?_)))
 refine TC.loop_ (α := {x : Nat × Option Addr × Nat // x.1 ≤ padZ n ∧ n + 1 + x.1 ≤ x.2.2 ∧ x.2.2 ≤ maxLen}) (fun x => [(0, .slice A n c), (3, .slice x.1.2.1 (n + 1 + x.1.1) x.1.2.2)]) (fun x => Pm w [.row (.slice x.1.2.1 (n + 1 + x.1.1) x.1.2.2) 5 1 (n + 1 + x.1.1) (bv (padv l x.1.1))]) (fun x => padZ n - x.1.1) (⟨(0, A2, c2), Nat.zero_le _, hA21, hA22⟩) ⟨rfl, rfl, trivial⟩ (fun w hw => by have h := Pm.tail hw; rw [padv_zero] at h; exact h) ?_
 rintro ⟨⟨z, A3, c3⟩, hz, hcc⟩
 dsimp only at hz hcc ⊢
 refine TC.seq_ (TC.seq_ (TC.region ?_))
 refine TL.mv ?_
 refine TL.val rfl rfl rfl (gives_len rfl Tryd.underlying28 rfl) ?_
 refine TL.val rfl rfl rfl (gives_bin rfl rfl rfl (fun w => bin_remi (by omega) (by omega) w)) ?_
 refine TL.val rfl rfl rfl (gives_bin rfl rfl rfl (fun w => bin_neq w)) ?_
 refine TL.end_ (TX.then_ ?_)
 refine TC.split rfl (fun hc17 => ?_) (fun hc17 => ?_)
 ·have hz2 : z < padZ n := by have := of_decide_eq_true hc17; unfold padZ at *; omega
  refine TC.skip_ (TX.then_ (TC.block (TC.region ?_)))
  refine TL.mv ?_
  refine TL.prow (cs := [.int .u8 0]) rfl rfl rfl rfl rfl (fun w => row1 _ w) (by decide) rfl (fun g2 => ?_)
  refine TL.append (k := 1) rfl rfl rfl rfl elU8 rfl rfl rfl (fun w hw => pm_reads hw (k := 0) rfl) (one1b _) (by rw [Nat.mul_one]; omega) (n + 1 + (z + 1)) (by omega) (fun A3 c3 hA31 hA32 => ?_)
  refine TL.as_ ?_
  refine TL.end_ (TX.in_normal ?_)
  exact TX.round (⟨(z + 1, A3, c3), hz2, hA31, hA32⟩) (by show padZ n - (z + 1) < padZ n - z; omega) ⟨rfl, rfl, trivial⟩ (fun w hw => by have h := Pm.tail hw; rw [padv_succ] at h; exact h)
 ·have hz2 : z = padZ n := by have := of_decide_eq_false hc17; unfold padZ at *; omega
  subst hz2
  refine TC.exit_ (TX.then_exit (TX.then_exit (TX.in_same (TX.then_ (TC.seq_ (TC.region ?_))))))
  refine TL.mv ?_
  refine TL.val rfl rfl rfl (gives_len rfl Tryd.underlying28 rfl) ?_
  refine TL.val rfl rfl rfl (gives_conv rfl rfl (fun w => conv_fit Tryd.underlying102 Tryd.underlying3 (by simp only [IntKind.wrap_u64]; omega) w)) ?_
  refine TL.val rfl rfl rfl (gives_bin rfl rfl rfl (fun w => bin_mul w)) ?_
  refine TL.as_ ?_
  refine TL.end_ (TX.then_ (TC.seq_ (TC.seq_ (TC.region ?_))))
  refine TL.as_ ?_
  refine TL.end_ (TX.then_ (TC.block ?_))
  refine TC.loop_ (α := {x : Nat × Option Addr × Nat // x.1 ≤ 8 ∧ n + 1 + padZ n + x.1 ≤ x.2.2 ∧ x.2.2 ≤ maxLen}) (fun x => [(3, .slice x.1.2.1 (n + 1 + padZ n + x.1.1) x.1.2.2), (4, .int .u64 (lenW n)), (5, .int .i64 (56 - 8 * (x.1.1 : Int)))]) (fun x => Pm w [.row (.slice x.1.2.1 (n + 1 + padZ n + x.1.1) x.1.2.2) 5 1 (n + 1 + padZ n + x.1.1) (bv (padv l (padZ n)) ++ bv (lenB n x.1.1))]) (fun x => 8 - x.1.1) (⟨(0, A3, c3), Nat.zero_le _, hcc⟩) ⟨rfl, rfl, rfl, trivial⟩ (fun w hw => by rw [← List.append_nil (bv (padv l (padZ n)))] at hw; exact hw) ?_
  rintro ⟨⟨j, A5, c5⟩, hj, hcc5⟩
  dsimp only at hj hcc5 ⊢
  refine TC.seq_ (TC.seq_ (TC.region ?_))
  refine TL.mv ?_
  refine TL.val rfl rfl rfl (gives_bin rfl rfl rfl (fun w => bin_geq w)) ?_
  refine TL.end_ (TX.then_ ?_)
  refine TC.split rfl (fun hc26 => ?_) (fun hc26 => ?_)
  ·have hj2 : j ≤ 7 := by have := of_decide_eq_true hc26; omega
   refine TC.skip_ (TX.then_ (TC.seq_ (TC.block (TC.region ?_))))
   refine TL.mv ?_
   refine TL.mv ?_
   refine TL.mv ?_
   refine TL.val rfl rfl rfl (gives_bin rfl rfl rfl (fun w => bin_shr (2 ^ (56 - 8 * j)) (by omega) (by show (_ : Int) ≤ 64; omega) (by rw [show (56 - 8 * (j : Int)).toNat = 56 - 8 * j by omega]) w)) ?_
   refine TL.val rfl rfl rfl (gives_conv rfl rfl (fun w => conv_int Tryd.underlying5 Tryd.underlying102 w)) ?_
   refine TL.prow (cs := [.int .u8 (IntKind.u8.wrap (lenW n / 2 ^ (56 - 8 * j)))]) rfl rfl rfl rfl rfl (fun w => row1 _ w) (by decide) rfl (fun g3 => ?_)
   refine TL.append (k := 1) rfl rfl rfl rfl elU8 rfl rfl rfl (fun w hw => pm_reads hw (k := 0) rfl) (one1b _) (by rw [Nat.mul_one]; omega) (n + 1 + padZ n + (j + 1)) (by omega) (fun A4 c4 hA41 hA42 => ?_)
   refine TL.as_ ?_
   refine TL.end_ (TX.in_normal (TX.then_ (TC.region ?_)))
   refine TL.mv ?_
   refine TL.val rfl rfl rfl (gives_bin rfl rfl rfl (fun w => bin_sub_ (r := 56 - 8 * ((j + 1 : Nat) : Int)) (by simp only [IntKind.wrap_i64]; omega) w)) ?_
   refine TL.as_ ?_
   refine TL.end_ ?_
   exact TX.round (⟨(j + 1, A4, c4), by omega, hA41, hA42⟩) (by show 8 - (j + 1) < 8 - j; omega) ⟨rfl, rfl, rfl, trivial⟩ (fun w hw => by have h := Pm.tail hw; rw [List.append_assoc, ← lenB_succ] at h; exact h)
  ·have hj2 : j = 8 := by have := of_decide_eq_false hc26; omega
   subst hj2
   refine TC.cut [(3, .slice A5 (n + 1 + padZ n + 8) c5), (4, .int .u64 (lenW n))] (Pm w [.row (.slice A5 (n + 1 + padZ n + 8) c5) 5 1 (n + 1 + padZ n + 8) (bv (padF l))]) ⟨rfl, rfl, trivial⟩ (fun w hw => by rw [padF_bv l hln] at hw; exact hw) ?_
   refine TC.exit_ (TX.then_exit (TX.then_exit (TX.in_same (TX.then_ (TC.seq_ (TC.region ?_))))))
   refine TL.val rfl rfl rfl (gives_build rfl rfl (fun w => rbuild8 w)) ?_
   refine TL.pnew rfl rfl rfl (exec_alloc (cs := [.int .u32 0, .int .u32 0, .int .u32 0, .int .u32 0, .int .u32 0, .int .u32 0, .int .u32 0, .int .u32 0]) rfl rzero8 rfl) (fun g6 => ?_)
   refine TL.pstore (k := 0) (vs := start8.cells.toList) rfl rfl rfl rfl rfl rfl rfl rsz8 (one8 _ _ _ _ _ _ _ _) (Nat.le_refl 8) (L' := [.blk g6 103 start8.cells.toList, .row (.slice A5 (n + 1 + padZ n + 8) c5) 5 1 (n + 1 + padZ n + 8) (bv (padF l))]) rfl ?_
   refine TL.end_ (TX.then_ (TC.seq_ (TC.seq_ (TC.region ?_))))
   refine TL.as_ ?_
   refine TL.end_ (TX.then_ (TC.block ?_))
   refine TC.loop_ (α := {i : Nat // i ≤ K}) (fun x => [(3, .slice A5 (n + 1 + padZ n + 8) c5), (6, .pointer (some ⟨g6, 0, none⟩)), (7, .int .i64 (64 * (x.1 : Int)))]) (fun x => Pm w [.blk g6 103 (foldB (padF l) start8 x.1).cells.toList, .row (.slice A5 (n + 1 + padZ n + 8) c5) 5 1 (n + 1 + padZ n + 8) (bv (padF l))]) (fun x => K - x.1) (⟨0, Nat.zero_le _⟩) ⟨rfl, rfl, rfl, trivial⟩ (fun w hw => hw) ?_
   rintro ⟨i, hi⟩
   dsimp only at hi ⊢
   refine TC.seq_ (TC.seq_ (TC.region ?_))
   refine TL.mv ?_
   refine TL.mv ?_
   refine TL.val rfl rfl rfl (gives_len rfl Tryd.underlying28 rfl) ?_
   refine TL.val rfl rfl rfl (gives_bin rfl rfl rfl (fun w => bin_lss w)) ?_
   refine TL.end_ (TX.then_ ?_)
   refine TC.split rfl (fun hc40 => ?_) (fun hc40 => ?_)
   ·have hi2 : i < K := by have := of_decide_eq_true hc40; omega
    refine TC.skip_ (TX.then_ (TC.seq_ (TC.block ?_)))
    refine TC.tail 6 (by kernel_rfl) (by kernel_rfl) (fun w hw => hw.drawn _) ?_
    refine TS.val rfl rfl rfl (pm_loadAgg (k := 0) (n := 8) rfl rfl rag8 rsz8 rfl (Nat.le_refl 8)) ?_
    refine TS.val rfl rfl rfl (gives_move rfl rfl) ?_
    refine TS.val rfl rfl rfl (gives_move rfl rfl) ?_
    refine TS.val rfl rfl rfl (gives_move rfl rfl) ?_
    refine TS.val rfl rfl rfl (gives_bin rfl rfl rfl (fun w => bin_add_ (r := ((64 * i + 64 : Nat) : Int)) (by simp only [IntKind.wrap_i64]; omega) w)) ?_
    refine TS.val rfl rfl rfl (gives_slice rfl rfl rfl rfl (fun w => cut_lh (size := 1) (lo := 64 * i) (hi := 64 * i + 64) Tryd.underlying28 (fun w => rfl) _ _ _ (by omega) rfl (by omega) (by omega) w)) ?_
    refine TS.end_ ?_
    refine TL.pcall1 (r := .agg (foldB (padF l) start8 (i + 1)).cells) rfl rfl rfl rfl rfl Tryd.func72 rnmBlock rbdBlock (fun w hw => ?_) ?_
    ·obtain ⟨B, hrd⟩ := pm_reads hw (k := 1) rfl
     have hby : Byt w w.heap.size A5 (n + 1 + padZ n + 8) (padF l) := byt_own (hw.at_ (k := 1) rfl) (padF_bs l hb.2)
     have hc := (hby.cut (k := 64 * i) (cap := c5) (by omega) (by omega)).head (k := 64) (by omega)
     have h64 : 64 * i + 64 - 64 * i = 64 := by omega
     rw [h64, Nat.mul_one]
     exact hB (foldB (padF l) start8 i) _ _ _ w (foldB_ok _ _ start8_ok i) hc (by omega) (by omega)
    refine TL.pstore (k := 0) (vs := (foldB (padF l) start8 (i + 1)).cells.toList) rfl rfl rfl rfl rfl rfl rfl rsz8 (one8 _ _ _ _ _ _ _ _) (Nat.le_refl 8) rfl ?_
    refine TL.end_ (TX.in_normal (TX.then_ (TC.region ?_)))
    refine TL.mv ?_
    refine TL.val rfl rfl rfl (gives_bin rfl rfl rfl (fun w => bin_add_ (r := 64 * ((i + 1 : Nat) : Int)) (by simp only [IntKind.wrap_i64]; omega) w)) ?_
    refine TL.as_ ?_
    refine TL.end_ ?_
    exact TX.round (⟨i + 1, hi2⟩) (by show K - (i + 1) < K - i; omega) ⟨rfl, rfl, rfl, trivial⟩ (fun w hw => hw)
   ·have hi2 : K = i := by have := of_decide_eq_false hc40; omega
    subst hi2
    refine TC.exit_ (TX.then_exit (TX.then_exit (TX.in_same (TX.then_ (TC.seq_ (TC.region ?_))))))
    refine TL.as_ ?_
    refine TL.end_ (TX.then_ (TC.seq_ (TC.seq_ (TC.region ?_))))
    refine TL.as_ ?_
    refine TL.end_ (TX.then_ (TC.block ?_))
    refine TC.loop_ (α := {x : Nat × Option Addr × Nat // x.1 ≤ 8 ∧ 4 * x.1 ≤ x.2.2 ∧ x.2.2 ≤ maxLen}) (fun x => [(6, .pointer (some ⟨g6, 0, none⟩)), (8, .slice x.1.2.1 (4 * x.1.1) x.1.2.2), (9, .int .i64 (x.1.1 : Int))]) (fun x => Pm w [.row (.slice x.1.2.1 (4 * x.1.1) x.1.2.2) 5 1 (4 * x.1.1) (bv (outB (foldB (padF l) start8 K) x.1.1)), .blk g6 103 (foldB (padF l) start8 K).cells.toList, .row (.slice A5 (n + 1 + padZ n + 8) c5) 5 1 (n + 1 + padZ n + 8) (bv (padF l))]) (fun x => 8 - x.1.1) (⟨(0, none, 0), Nat.zero_le _, Nat.zero_le _, Nat.zero_le _⟩) ⟨rfl, rfl, rfl, trivial⟩ (fun w hw => hw.nilrow 5 1) ?_
    rintro ⟨⟨j, A6, c6⟩, hj, hcc6⟩
    dsimp only at hj hcc6 ⊢
    refine TC.seq_ (TC.seq_ (TC.region ?_))
    refine TL.mv ?_
    refine TL.val rfl rfl rfl (gives_bin rfl rfl rfl (fun w => bin_lss w)) ?_
    refine TL.end_ (TX.then_ ?_)
    refine TC.split rfl (fun hc51 => ?_) (fun hc51 => ?_)
    ·have hj2 : j < 8 := by have := of_decide_eq_true hc51; omega
     have hSj := cell_get (foldB (padF l) start8 K) j hj2
     refine TC.skip_ (TX.then_ (TC.seq_ (TC.block ?_)))
     refine TC.held (ls := #[Ff,Ff,Ff,Ff,Ff,Ff,Ff,Ff,Ff,Ff,Ff,Ff,Ff,Ff,Ff,Ff,Ff,Ff,Ff,Ff,Ff,Ff,Ff]) (Pm w [.blk g6 103 (foldB (padF l) start8 K).cells.toList]) (by kernel_rfl) rfl rfl (fun w hw => hw.drawn _) ?_
     refine TH.tk (listed' := #[Tt,Ff,Ff,Ff,Ff,Ff,Ff,Ff,Ff,Ff,Ff,Ff,Ff,Ff,Ff,Ff,Ff,Ff,Ff,Ff,Ff,Ff,Ff]) 0 rfl rfl rfl (gives_move rfl rfl) (fun w hw => hw.sel (.cons _ (.cons_cons _ (List.nil_sublist _)))) ?_
     refine TH.tk (listed' := #[Tt,Tt,Ff,Ff,Ff,Ff,Ff,Ff,Ff,Ff,Ff,Ff,Ff,Ff,Ff,Ff,Ff,Ff,Ff,Ff,Ff,Ff,Ff]) 1 rfl rfl rfl (gives_move rfl rfl) (fun w hw => hw.sel (.cons _ (.cons_cons _ (List.nil_sublist _)))) ?_
     refine TH.tk (listed' := #[Tt,Tt,Tt,Ff,Ff,Ff,Ff,Ff,Ff,Ff,Ff,Ff,Ff,Ff,Ff,Ff,Ff,Ff,Ff,Ff,Ff,Ff,Ff]) 2 rfl rfl rfl (gives_at rfl rfl rfl (fun w => at_arr Tryd.underlying103 rsz1 _ 0 _ j hj2 w)) (fun w hw => hw.sel (.cons _ (.cons_cons _ (List.nil_sublist _)))) ?_
     refine TH.tk (listed' := #[Tt,Tt,Tt,Tt,Ff,Ff,Ff,Ff,Ff,Ff,Ff,Ff,Ff,Ff,Ff,Ff,Ff,Ff,Ff,Ff,Ff,Ff,Ff]) 3 rfl rfl rfl (pm_load (k := 0) rfl rfl rag1 rfl hSj) (fun w hw => hw.sel (.cons _ (.cons_cons _ (List.nil_sublist _)))) ?_
     refine TH.tk (listed' := #[Tt,Tt,Tt,Tt,Tt,Ff,Ff,Ff,Ff,Ff,Ff,Ff,Ff,Ff,Ff,Ff,Ff,Ff,Ff,Ff,Ff,Ff,Ff]) 4 rfl rfl rfl (gives_bin rfl rfl rfl (fun w => bin_shr 16777216 (by decide) (by decide) rfl w)) (fun w hw => hw.sel (.cons _ (.cons_cons _ (List.nil_sublist _)))) ?_
     refine TH.tk (listed' := #[Tt,Tt,Tt,Tt,Tt,Tt,Ff,Ff,Ff,Ff,Ff,Ff,Ff,Ff,Ff,Ff,Ff,Ff,Ff,Ff,Ff,Ff,Ff]) 5 rfl rfl rfl (gives_conv rfl rfl (fun w => conv_int Tryd.underlying5 Tryd.underlying22 w)) (fun w hw => hw.sel (.cons _ (.cons_cons _ (List.nil_sublist _)))) ?_
     refine TH.tk (listed' := #[Tt,Tt,Tt,Tt,Tt,Tt,Tt,Ff,Ff,Ff,Ff,Ff,Ff,Ff,Ff,Ff,Ff,Ff,Ff,Ff,Ff,Ff,Ff]) 6 rfl rfl rfl (gives_move rfl rfl) (fun w hw => hw.sel (.cons _ (.cons_cons _ (List.nil_sublist _)))) ?_
     refine TH.tk (listed' := #[Tt,Tt,Tt,Tt,Tt,Tt,Tt,Tt,Ff,Ff,Ff,Ff,Ff,Ff,Ff,Ff,Ff,Ff,Ff,Ff,Ff,Ff,Ff]) 7 rfl rfl rfl (gives_at rfl rfl rfl (fun w => at_arr Tryd.underlying103 rsz1 _ 0 _ j hj2 w)) (fun w hw => hw.sel (.cons _ (.cons_cons _ (List.nil_sublist _)))) ?_
     refine TH.tk (listed' := #[Tt,Tt,Tt,Tt,Tt,Tt,Tt,Tt,Tt,Ff,Ff,Ff,Ff,Ff,Ff,Ff,Ff,Ff,Ff,Ff,Ff,Ff,Ff]) 8 rfl rfl rfl (pm_load (k := 0) rfl rfl rag1 rfl hSj) (fun w hw => hw.sel (.cons _ (.cons_cons _ (List.nil_sublist _)))) ?_
     refine TH.tk (listed' := #[Tt,Tt,Tt,Tt,Tt,Tt,Tt,Tt,Tt,Tt,Ff,Ff,Ff,Ff,Ff,Ff,Ff,Ff,Ff,Ff,Ff,Ff,Ff]) 9 rfl rfl rfl (gives_bin rfl rfl rfl (fun w => bin_shr 65536 (by decide) (by decide) rfl w)) (fun w hw => hw.sel (.cons _ (.cons_cons _ (List.nil_sublist _)))) ?_
     refine TH.tk (listed' := #[Tt,Tt,Tt,Tt,Tt,Tt,Tt,Tt,Tt,Tt,Tt,Ff,Ff,Ff,Ff,Ff,Ff,Ff,Ff,Ff,Ff,Ff,Ff]) 10 rfl rfl rfl (gives_conv rfl rfl (fun w => conv_int Tryd.underlying5 Tryd.underlying22 w)) (fun w hw => hw.sel (.cons _ (.cons_cons _ (List.nil_sublist _)))) ?_
     refine TH.tk (listed' := #[Tt,Tt,Tt,Tt,Tt,Tt,Tt,Tt,Tt,Tt,Tt,Tt,Ff,Ff,Ff,Ff,Ff,Ff,Ff,Ff,Ff,Ff,Ff]) 11 rfl rfl rfl (gives_move rfl rfl) (fun w hw => hw.sel (.cons _ (.cons_cons _ (List.nil_sublist _)))) ?_
     refine TH.tk (listed' := #[Tt,Tt,Tt,Tt,Tt,Tt,Tt,Tt,Tt,Tt,Tt,Tt,Tt,Ff,Ff,Ff,Ff,Ff,Ff,Ff,Ff,Ff,Ff]) 12 rfl rfl rfl (gives_at rfl rfl rfl (fun w => at_arr Tryd.underlying103 rsz1 _ 0 _ j hj2 w)) (fun w hw => hw.sel (.cons _ (.cons_cons _ (List.nil_sublist _)))) ?_
     refine TH.tk (listed' := #[Tt,Tt,Tt,Tt,Tt,Tt,Tt,Tt,Tt,Tt,Tt,Tt,Tt,Tt,Ff,Ff,Ff,Ff,Ff,Ff,Ff,Ff,Ff]) 13 rfl rfl rfl (pm_load (k := 0) rfl rfl rag1 rfl hSj) (fun w hw => hw.sel (.cons _ (.cons_cons _ (List.nil_sublist _)))) ?_
     refine TH.tk (listed' := #[Tt,Tt,Tt,Tt,Tt,Tt,Tt,Tt,Tt,Tt,Tt,Tt,Tt,Tt,Tt,Ff,Ff,Ff,Ff,Ff,Ff,Ff,Ff]) 14 rfl rfl rfl (gives_bin rfl rfl rfl (fun w => bin_shr 256 (by decide) (by decide) rfl w)) (fun w hw => hw.sel (.cons _ (.cons_cons _ (List.nil_sublist _)))) ?_
     refine TH.tk (listed' := #[Tt,Tt,Tt,Tt,Tt,Tt,Tt,Tt,Tt,Tt,Tt,Tt,Tt,Tt,Tt,Tt,Ff,Ff,Ff,Ff,Ff,Ff,Ff]) 15 rfl rfl rfl (gives_conv rfl rfl (fun w => conv_int Tryd.underlying5 Tryd.underlying22 w)) (fun w hw => hw.sel (.cons _ (.cons_cons _ (List.nil_sublist _)))) ?_
     refine TH.tk (listed' := #[Tt,Tt,Tt,Tt,Tt,Tt,Tt,Tt,Tt,Tt,Tt,Tt,Tt,Tt,Tt,Tt,Tt,Ff,Ff,Ff,Ff,Ff,Ff]) 16 rfl rfl rfl (gives_move rfl rfl) (fun w hw => hw.sel (.cons _ (.cons_cons _ (List.nil_sublist _)))) ?_
     refine TH.tk (listed' := #[Tt,Tt,Tt,Tt,Tt,Tt,Tt,Tt,Tt,Tt,Tt,Tt,Tt,Tt,Tt,Tt,Tt,Tt,Ff,Ff,Ff,Ff,Ff]) 17 rfl rfl rfl (gives_at rfl rfl rfl (fun w => at_arr Tryd.underlying103 rsz1 _ 0 _ j hj2 w)) (fun w hw => hw.sel (.cons _ (.cons_cons _ (List.nil_sublist _)))) ?_
     refine TH.tk (listed' := #[Tt,Tt,Tt,Tt,Tt,Tt,Tt,Tt,Tt,Tt,Tt,Tt,Tt,Tt,Tt,Tt,Tt,Tt,Tt,Ff,Ff,Ff,Ff]) 18 rfl rfl rfl (pm_load (k := 0) rfl rfl rag1 rfl hSj) (fun w hw => hw.sel (.cons _ (.cons_cons _ (List.nil_sublist _)))) ?_
     refine TH.tk (listed' := #[Tt,Tt,Tt,Tt,Tt,Tt,Tt,Tt,Tt,Tt,Tt,Tt,Tt,Tt,Tt,Tt,Tt,Tt,Tt,Tt,Ff,Ff,Ff]) 19 rfl rfl rfl (gives_conv rfl rfl (fun w => conv_int Tryd.underlying5 Tryd.underlying22 w)) (fun w hw => hw.sel (.cons _ (.cons_cons _ (List.nil_sublist _)))) ?_
     refine TH.only (listed' := #[Tt,Tt,Tt,Tt,Tt,Tt,Tt,Tt,Tt,Tt,Tt,Tt,Tt,Tt,Tt,Tt,Tt,Tt,Tt,Tt,Tt,Ff,Ff]) 20 rfl (by kernel_rfl) rfl rfl ?_
     refine TL.prow (cs := bv (word4 ((foldB (padF l) start8 K).list.getD j 0))) rfl rfl rfl rfl rfl (fun w => row4 _ _ _ _ w) (by decide) rfl (fun g7 => ?_)
     refine TL.end_ ?_
     refine TX.held (fun w hw => hw.sel (.cons _ (.cons _ (.cons_cons _ (List.nil_sublist _))))) ?_
     refine TH.only (listed' := #[Tt,Tt,Tt,Tt,Tt,Tt,Tt,Tt,Tt,Tt,Tt,Tt,Tt,Tt,Tt,Tt,Tt,Tt,Tt,Tt,Tt,Tt,Ff]) 21 rfl (by kernel_rfl) rfl rfl ?_
     refine TL.append (k := 1) rfl rfl rfl rfl elU8 rfl rfl rfl (fun w hw => pm_reads hw (k := 0) rfl) (bv_one _) (by rw [Nat.mul_one]; omega) (4 * (j + 1)) (by omega) (fun A7 c7 hA71 hA72 => ?_)
     refine TL.end_ ?_
     refine TX.held (fun w hw => hw.sel (.cons _ (.cons _ (.cons_cons _ (List.nil_sublist _))))) ?_
     refine TH.tk (listed' := #[Tt,Tt,Tt,Tt,Tt,Tt,Tt,Tt,Tt,Tt,Tt,Tt,Tt,Tt,Tt,Tt,Tt,Tt,Tt,Tt,Tt,Tt,Tt]) 22 rfl rfl rfl (gives_assign rfl rfl) (fun w hw => hw.sel (.cons _ (.cons _ (.cons_cons _ (List.nil_sublist _))))) ?_
     refine TH.done (by kernel_rfl) ?_
     refine TX.in_normal (TX.then_ (TC.region ?_))
     refine TL.mv ?_
     refine TL.val rfl rfl rfl (gives_bin rfl rfl rfl (fun w => bin_add_ (r := ((j + 1 : Nat) : Int)) (by simp only [IntKind.wrap_i64]; omega) w)) ?_
     refine TL.as_ ?_
     refine TL.end_ ?_
     exact TX.round (⟨(j + 1, A7, c7), hj2, hA71, hA72⟩) (by show 8 - (j + 1) < 8 - j; omega) ⟨rfl, rfl, rfl, trivial⟩ (fun w hw => by have h := Pm.tail hw; rw [outB_succ] at h; exact h)
    ·have hj2 : j = 8 := by have := of_decide_eq_false hc51; omega
     subst hj2
     refine TC.exit_ (TX.then_exit (TX.then_exit (TX.in_same (TX.then_ (TC.seq_ (TC.region ?_))))))
     refine TL.mv ?_
     refine TL.as_ ?_
     refine TL.end_ (TX.then_ (TC.ret_ ?_))
     exact pm_ret_row (k := 0) Tryd.results57 rfl rfl (fun w1 hown hbel => ⟨A6, c6, rfl, hcc6.1, hcc6.2, hown, hbel⟩)
end Go.Proofs.YtmeaeeehnkcblaaDoor

namespace Go.Proofs.YtmeaeeehnkcblaaDoor
open Go.RowKit
set_option maxRecDepth 20000
theorem take4 {l : List Int} {k : Nat} {a b c d : Int} (h0 : l[k + 0]? = some a) (h1 : l[k + 1]? = some b) (h2 : l[k + 2]? = some c) (h3 : l[k + 3]? = some d) : (l.drop k).take 4 = [a, b, c, d] := by
 apply List.ext_getElem?
 intro i
 rw [List.getElem?_take]
 match i with
 | 0 => simpa using h0
 | 1 => simpa using h1
 | 2 => simpa using h2
 | 3 => simpa using h3
 | i + 4 => simp; intro hh; omega
theorem wList_next (b : List Int) (j : Nat) : wList b (j + 1) = wList b j ++ [addW (addW (addW ((wList b j).getD j 0) (sig0 ((wList b j).getD (j + 1) 0))) ((wList b j).getD (9 + j) 0)) (sig1 ((wList b j).getD (14 + j) 0))] := by
 show wList b j ++ [wNext (wList b j)] = _
 unfold wNext
 rw [wList_len, show 16 + j - 16 = j by omega, show 16 + j - 15 = j + 1 by omega, show 16 + j - 7 = 9 + j by omega, show 16 + j - 2 = 14 + j by omega]
theorem wList_old (b : List Int) (j i : Nat) (h : i < 16 + j) : (wList b (j + 1)).getD i 0 = (wList b j).getD i 0 := by
 show (wList b j ++ _).getD i 0 = _
 rw [List.getD_eq_getElem?_getD, List.getD_eq_getElem?_getD, List.getElem?_append_left (by rw [wList_len]; exact h)]
theorem arrW_one (L : List Int) : ∀ u ∈ arrW L, u.oneCell' = true := by
 intro u hu
 simp only [arrW, List.mem_append, List.mem_map, List.mem_replicate] at hu
 rcases hu with ⟨x, _, rfl⟩ | ⟨_, rfl⟩ <;> rfl
theorem rzero64 (w : World) : (zeroValue 111).run Tryd.prog w = .ok (.agg (arrW []).toArray) w := rfl
theorem rsz64 (w : World) : (sizeOf 111).run Tryd.prog w = .ok 64 w := rfl
theorem rnmTurn : (Tryd.f78.name == "runtime.NumGoroutine") = false := by decide
theorem rbdTurn : Tryd.f78.body.isNone = false := rfl
theorem rnmWords : (Tryd.f77.name == "runtime.NumGoroutine") = false := by decide
theorem rbdWords : Tryd.f77.body.isNone = false := rfl
theorem at_byte (g off n c j : Nat) (hj : j < n) (w : World) : (Instr.indexAt 28 (.slice (some ⟨g, off, none⟩) n c) (.int .i64 (j : Int))).run Tryd.prog w = .ok (.pointer (some ⟨g, off + j, none⟩)) w := by
 have hs : ∀ w : World, (sizeOf 5).run Tryd.prog w = .ok 1 w := fun w => rfl
 have h1 : (0 : Int) ≤ (j : Int) ∧ (j : Int) < n := by omega
 simp [Instr.indexAt, run_underlying Tryd.underlying28, asIntOf, hs, h1, add_at, go_sem]
 try (intro hh; exact absurd hh (by omega))
theorem rbuild8x (a b c d e f g h : Int) (w : World) : (Instr.build 103 #[(0, .int .u32 a), (1, .int .u32 b), (2, .int .u32 c), (3, .int .u32 d), (4, .int .u32 e), (5, .int .u32 f), (6, .int .u32 g), (7, .int .u32 h)]).run Tryd.prog w = .ok (.agg #[.int .u32 a, .int .u32 b, .int .u32 c, .int .u32 d, .int .u32 e, .int .u32 f, .int .u32 g, .int .u32 h]) w := by kernel_rfl
theorem rwords_any (w : World) : Calls Tryd.prog 77 #[] w fun e w' => e = .returned (.agg (arrW keysL).toArray) ∧ Below w.heap.size w w' := by
 refine begin_ (vs := []) Tryd.func77 rfl rfl rfl ?_ (Pm.start w)
 refine TC.seq_ (TC.region ?_)
 refine TL.pnew rfl rfl rfl (exec_alloc (cs := arrW []) rfl rzero64 rfl) (fun g0 => ?_)
 refine TL.end_ (TX.then_ (TC.seq_ (TC.region ?_)))
 refine TL.val rfl rfl rfl (gives_build (v := .agg (arrW keysL).toArray) rfl rfl (fun w => by kernel_rfl)) ?_
 refine TL.pstore (k := 0) (vs := arrW keysL) rfl rfl rfl rfl rfl rfl rfl rsz64 (arrW_one _) (Nat.le_refl 64) (L' := [.blk g0 111 (arrW keysL)]) rfl ?_
 refine TL.end_ (TX.then_ (TC.ret_ ?_))
 exact pm_ret_cell (k := 0) Tryd.results77 rfl rfl Tryd.underlying111 rfl rfl (fun w1 hw => ⟨rfl, hw.bel⟩)
theorem rblock_any (s : S8) (hok : s.Ok) (b0 o c : Nat) (b : List Int) (w : World) (hb : Byt w w.heap.size (some ⟨b0, o, none⟩) 64 b) (hc : 64 ≤ c) (hc2 : c ≤ maxLen) :
  Calls Tryd.prog 72 #[.agg s.cells, .slice (some ⟨b0, o, none⟩) 64 c] w fun e w' => e = .returned (.agg (blockF s b).cells) ∧ Below w.heap.size w w' := by
 have hb0 : b0 < w.heap.size := by
  obtain ⟨b', o', x, hA, hlt, _⟩ := hb.at' (k := 0) (by omega)
  injection hA with e
  injection e with e1 e2
  omega
 refine begin_ (vs := [.agg s.cells, .slice (some ⟨b0, o, none⟩) 64 c]) Tryd.func72 rfl rfl rfl ?_ (Pm.start w)
 refine TC.seq_ (TC.region ?_)
 refine TL.pnew rfl rfl rfl (exec_box (cs := s.cells.toList) rfl rfl rfl) (fun g2 => ?_)
 refine TL.pnew rfl rfl rfl (exec_alloc (cs := [.int .u32 0, .int .u32 0, .int .u32 0, .int .u32 0, .int .u32 0, .int .u32 0, .int .u32 0, .int .u32 0]) rfl rzero8 rfl) (fun g4 => ?_)
 refine TL.end_ (TX.then_ (TC.seq_ (TC.region ?_)))
 refine TL.pcall1 (r := .agg (arrW keysL).toArray) rfl rfl rfl rfl rfl Tryd.func77 rnmWords rbdWords (fun w hw => rwords_any w) ?_
 refine TL.pnew rfl rfl rfl (exec_alloc (cs := arrW []) rfl rzero64 rfl) (fun g5 => ?_)
 refine TL.pstore (k := 0) (vs := arrW keysL) rfl rfl rfl rfl rfl rfl rfl rsz64 (arrW_one _) (Nat.le_refl 64) (L' := [.blk g5 111 (arrW keysL), .blk g4 103 [.int .u32 0, .int .u32 0, .int .u32 0, .int .u32 0, .int .u32 0, .int .u32 0, .int .u32 0, .int .u32 0], .blk g2 103 s.cells.toList]) rfl ?_
 refine TL.end_ (TX.then_ (TC.seq_ (TC.region ?_)))
 refine TL.pnew rfl rfl rfl (exec_alloc (cs := arrW []) rfl rzero64 rfl) (fun g6 => ?_)
 refine TL.end_ (TX.then_ (TC.seq_ (TC.seq_ (TC.region ?_))))
 refine TL.as_ ?_
 refine TL.end_ (TX.then_ (TC.block ?_))
 refine TC.loop_ (α := {i : Nat // i ≤ 16}) (fun x => [(1, .slice (some ⟨b0, o, none⟩) 64 c), (2, .pointer (some ⟨g2, 0, none⟩)), (4, .pointer (some ⟨g4, 0, none⟩)), (5, .pointer (some ⟨g5, 0, none⟩)), (6, .pointer (some ⟨g6, 0, none⟩)), (7, .int .i64 (x.1 : Int))]) (fun x => Pm w [.blk g6 111 (arrW (w16 b x.1)), .blk g5 111 (arrW keysL), .blk g4 103 [.int .u32 0, .int .u32 0, .int .u32 0, .int .u32 0, .int .u32 0, .int .u32 0, .int .u32 0, .int .u32 0], .blk g2 103 s.cells.toList]) (fun x => 16 - x.1) (⟨0, Nat.zero_le _⟩) ⟨rfl, rfl, rfl, rfl, rfl, rfl, trivial⟩ (fun w hw => hw) ?_
 rintro ⟨i, hi⟩
 dsimp only at hi ⊢
 refine TC.seq_ (TC.seq_ (TC.region ?_))
 refine TL.mv ?_
 refine TL.val rfl rfl rfl (gives_bin rfl rfl rfl (fun w => bin_lss w)) ?_
 refine TL.end_ (TX.then_ ?_)
 refine TC.split rfl (fun hc18 => ?_) (fun hc18 => ?_)
 ·have hi2 : i < 16 := by have := of_decide_eq_true hc18; omega
  obtain ⟨y0, hl0, hz0, hm0, hy0⟩ := byt_cell_at hb (k := 4 * i + 0) (by omega)
  obtain ⟨y1, hl1, hz1, hm1, hy1⟩ := byt_cell_at hb (k := 4 * i + 1) (by omega)
  obtain ⟨y2, hl2, hz2, hm2, hy2⟩ := byt_cell_at hb (k := 4 * i + 2) (by omega)
  obtain ⟨y3, hl3, hz3, hm3, hy3⟩ := byt_cell_at hb (k := 4 * i + 3) (by omega)
  have hr0 : 0 ≤ y0 ∧ y0 ≤ 255 := ⟨hz0, hm0⟩
  have hr1 : 0 ≤ y1 ∧ y1 ≤ 255 := ⟨hz1, hm1⟩
  have hr2 : 0 ≤ y2 ∧ y2 ≤ 255 := ⟨hz2, hm2⟩
  have hr3 : 0 ≤ y3 ∧ y3 ≤ 255 := ⟨hz3, hm3⟩
  have h4 : (b.drop (4 * i)).take 4 = [y0, y1, y2, y3] := take4 hl0 hl1 hl2 hl3
  refine TC.skip_ (TX.then_ (TC.seq_ (TC.block ?_)))
  refine TC.tail 35 (by kernel_rfl) (by kernel_rfl) (fun w hw => hw.drawn _) ?_
  refine TS.val rfl rfl rfl (gives_move rfl rfl) ?_
  refine TS.val rfl rfl rfl (gives_move rfl rfl) ?_
  refine TS.val rfl rfl rfl (gives_move rfl rfl) ?_
  refine TS.val rfl rfl rfl (gives_bin rfl rfl rfl (fun w => bin_mul_ (r := ((4 * i : Nat) : Int)) (by simp only [IntKind.wrap_i64]; omega) w)) ?_
  refine TS.val rfl rfl rfl (gives_at rfl rfl rfl (fun w => at_byte b0 o 64 c (4 * i + 0) (by omega) w)) ?_
  refine TS.val rfl rfl rfl (gives_load rfl rfl (fun w => rfl) (fun w1 hw => (hw.bel.cell (p := ⟨b0, o + (4 * i + 0), none⟩) hb0).trans hy0)) ?_
  refine TS.val rfl rfl rfl (gives_conv rfl rfl (fun w => conv_fit Tryd.underlying22 Tryd.underlying5 (by simp only [IntKind.wrap_u32]; omega) w)) ?_
  refine TS.val rfl rfl rfl (gives_bin rfl rfl rfl (fun w => bin_shl 16777216 (by decide) (by decide) rfl w)) ?_
  refine TS.val rfl rfl rfl (gives_move rfl rfl) ?_
  refine TS.val rfl rfl rfl (gives_move rfl rfl) ?_
  refine TS.val rfl rfl rfl (gives_bin rfl rfl rfl (fun w => bin_mul_ (r := ((4 * i : Nat) : Int)) (by simp only [IntKind.wrap_i64]; omega) w)) ?_
  refine TS.val rfl rfl rfl (gives_bin rfl rfl rfl (fun w => bin_add_ (r := ((4 * i + 1 : Nat) : Int)) (by simp only [IntKind.wrap_i64]; omega) w)) ?_
  refine TS.val rfl rfl rfl (gives_at rfl rfl rfl (fun w => at_byte b0 o 64 c (4 * i + 1) (by omega) w)) ?_
  refine TS.val rfl rfl rfl (gives_load rfl rfl (fun w => rfl) (fun w1 hw => (hw.bel.cell (p := ⟨b0, o + (4 * i + 1), none⟩) hb0).trans hy1)) ?_
  refine TS.val rfl rfl rfl (gives_conv rfl rfl (fun w => conv_fit Tryd.underlying22 Tryd.underlying5 (by simp only [IntKind.wrap_u32]; omega) w)) ?_
  refine TS.val rfl rfl rfl (gives_bin rfl rfl rfl (fun w => bin_shl 65536 (by decide) (by decide) rfl w)) ?_
  refine TS.val rfl rfl rfl (gives_bin rfl rfl rfl (fun w => bin_bits (.inr (.inl rfl)) w)) ?_
  refine TS.val rfl rfl rfl (gives_move rfl rfl) ?_
  refine TS.val rfl rfl rfl (gives_move rfl rfl) ?_
  refine TS.val rfl rfl rfl (gives_bin rfl rfl rfl (fun w => bin_mul_ (r := ((4 * i : Nat) : Int)) (by simp only [IntKind.wrap_i64]; omega) w)) ?_
  refine TS.val rfl rfl rfl (gives_bin rfl rfl rfl (fun w => bin_add_ (r := ((4 * i + 2 : Nat) : Int)) (by simp only [IntKind.wrap_i64]; omega) w)) ?_
  refine TS.val rfl rfl rfl (gives_at rfl rfl rfl (fun w => at_byte b0 o 64 c (4 * i + 2) (by omega) w)) ?_
  refine TS.val rfl rfl rfl (gives_load rfl rfl (fun w => rfl) (fun w1 hw => (hw.bel.cell (p := ⟨b0, o + (4 * i + 2), none⟩) hb0).trans hy2)) ?_
  refine TS.val rfl rfl rfl (gives_conv rfl rfl (fun w => conv_fit Tryd.underlying22 Tryd.underlying5 (by simp only [IntKind.wrap_u32]; omega) w)) ?_
  refine TS.val rfl rfl rfl (gives_bin rfl rfl rfl (fun w => bin_shl 256 (by decide) (by decide) rfl w)) ?_
  refine TS.val rfl rfl rfl (gives_bin rfl rfl rfl (fun w => bin_bits (.inr (.inl rfl)) w)) ?_
  refine TS.val rfl rfl rfl (gives_move rfl rfl) ?_
  refine TS.val rfl rfl rfl (gives_move rfl rfl) ?_
  refine TS.val rfl rfl rfl (gives_bin rfl rfl rfl (fun w => bin_mul_ (r := ((4 * i : Nat) : Int)) (by simp only [IntKind.wrap_i64]; omega) w)) ?_
  refine TS.val rfl rfl rfl (gives_bin rfl rfl rfl (fun w => bin_add_ (r := ((4 * i + 3 : Nat) : Int)) (by simp only [IntKind.wrap_i64]; omega) w)) ?_
  refine TS.val rfl rfl rfl (gives_at rfl rfl rfl (fun w => at_byte b0 o 64 c (4 * i + 3) (by omega) w)) ?_
  refine TS.val rfl rfl rfl (gives_load rfl rfl (fun w => rfl) (fun w1 hw => (hw.bel.cell (p := ⟨b0, o + (4 * i + 3), none⟩) hb0).trans hy3)) ?_
  refine TS.val rfl rfl rfl (gives_conv rfl rfl (fun w => conv_fit Tryd.underlying22 Tryd.underlying5 (by simp only [IntKind.wrap_u32]; omega) w)) ?_
  refine TS.val rfl rfl rfl (gives_bin rfl rfl rfl (fun w => bin_bits (.inr (.inl rfl)) w)) ?_
  refine TS.val rfl rfl rfl (gives_at rfl rfl rfl (fun w => at_arr Tryd.underlying111 sz1 _ 0 _ (i) (by omega) w)) ?_
  refine TS.end_ ?_
  refine TL.pstore (k := 0) (vs := [.int .u32 _]) rfl rfl rfl rfl rfl rfl rfl sz1 (one1 _) (by rw [arrW_len _ (by rw [w16_len]; omega)]; show 0 + i + 1 ≤ 64; omega) (L' := [.blk g6 111 (arrW (w16 b (i + 1))), .blk g5 111 (arrW keysL), .blk g4 103 [.int .u32 0, .int .u32 0, .int .u32 0, .int .u32 0, .int .u32 0, .int .u32 0, .int .u32 0, .int .u32 0], .blk g2 103 s.cells.toList]) (by rw [or4 y0 y1 y2 y3 hr0 hr1 hr2 hr3, w16_succ, h4, ← arrW_put (w16 b i) _ (w16_len b i) (by omega)]; rfl) ?_
  refine TL.end_ (TX.in_normal (TX.then_ (TC.region ?_)))
  refine TL.mv ?_
  refine TL.val rfl rfl rfl (gives_bin rfl rfl rfl (fun w => bin_add_ (r := ((i + 1 : Nat) : Int)) (by simp only [IntKind.wrap_i64]; omega) w)) ?_
  refine TL.as_ ?_
  refine TL.end_ ?_
  exact TX.round (⟨i + 1, hi2⟩) (by show 16 - (i + 1) < 16 - i; omega) ⟨rfl, rfl, rfl, rfl, rfl, rfl, trivial⟩ (fun w hw => hw)
 ·have hi2 : i = 16 := by have := of_decide_eq_false hc18; omega
  subst hi2
  refine TC.exit_ (TX.then_exit (TX.then_exit (TX.in_same (TX.then_ (TC.seq_ (TC.seq_ (TC.region ?_)))))))
  refine TL.as_ ?_
  refine TL.end_ (TX.then_ (TC.block ?_))
  refine TC.loop_ (α := {j : Nat // j ≤ 48}) (fun x => [(2, .pointer (some ⟨g2, 0, none⟩)), (4, .pointer (some ⟨g4, 0, none⟩)), (5, .pointer (some ⟨g5, 0, none⟩)), (6, .pointer (some ⟨g6, 0, none⟩)), (8, .int .i64 ((16 + x.1 : Nat) : Int))]) (fun x => Pm w [.blk g6 111 (arrW (wList b x.1)), .blk g5 111 (arrW keysL), .blk g4 103 [.int .u32 0, .int .u32 0, .int .u32 0, .int .u32 0, .int .u32 0, .int .u32 0, .int .u32 0, .int .u32 0], .blk g2 103 s.cells.toList]) (fun x => 48 - x.1) (⟨0, Nat.zero_le _⟩) ⟨rfl, rfl, rfl, rfl, rfl, trivial⟩ (fun w hw => hw) ?_
  rintro ⟨j, hj⟩
  dsimp only at hj ⊢
  refine TC.seq_ (TC.seq_ (TC.region ?_))
  refine TL.mv ?_
  refine TL.val rfl rfl rfl (gives_bin rfl rfl rfl (fun w => bin_lss w)) ?_
  refine TL.end_ (TX.then_ ?_)
  refine TC.split rfl (fun hc57 => ?_) (fun hc57 => ?_)
  ·have hj2 : j < 48 := by have := of_decide_eq_true hc57; omega
   have hw1 : W32 ((wList b j).getD (j + 1) 0) := wList_w b hb.2 j _
   have hw2 : W32 ((wList b j).getD (14 + j) 0) := wList_w b hb.2 j _
   have hnx := wList_next b j
   refine TC.skip_ (TX.then_ (TC.seq_ (TC.block (TC.seq_ ?_))))
   refine TC.quiet_ (E' := ?_) (by kernel_rfl) (by kernel_rfl) (fun w hw => hw.drawn _) ?_ ?_
   rotate_left
   ·refine TQ.val rfl rfl rfl (gives_move rfl rfl) ?_
    refine TQ.val rfl rfl rfl (gives_bin rfl rfl rfl (fun w => bin_sub_ (r := ((j + 1 : Nat) : Int)) (by simp only [IntKind.wrap_i64]; omega) w)) ?_
    refine TQ.val rfl rfl rfl (gives_at rfl rfl rfl (fun w => at_arr Tryd.underlying111 sz1 _ 0 _ (j + 1) (by omega) w)) ?_
    refine TQ.val rfl rfl rfl (pm_load (k := 0) rfl rfl ag1 rfl (arrW_at (wList b j) (j + 1) (by rw [wList_len]; omega))) ?_
    refine TQ.val rfl rfl rfl (gives_move rfl rfl) ?_
    refine TQ.val rfl rfl rfl (gives_bin rfl rfl rfl (fun w => bin_sub_ (r := ((14 + j : Nat) : Int)) (by simp only [IntKind.wrap_i64]; omega) w)) ?_
    refine TQ.val rfl rfl rfl (gives_at rfl rfl rfl (fun w => at_arr Tryd.underlying111 sz1 _ 0 _ (14 + j) (by omega) w)) ?_
    refine TQ.val rfl rfl rfl (pm_load (k := 0) rfl rfl ag1 rfl (arrW_at (wList b j) (14 + j) (by rw [wList_len]; omega))) ?_
    refine TQ.val rfl rfl rfl (gives_assign rfl rfl) ?_
    refine TQ.val rfl rfl rfl (gives_assign rfl rfl) ?_
    exact TQ.end_
   refine TX.then_ ?_
   refine TC.held (ls := #[Ff,Ff,Ff,Ff,Ff,Ff,Ff,Ff,Ff,Ff,Ff,Ff,Ff,Ff,Ff,Ff,Ff,Ff,Ff,Ff,Ff,Ff,Ff,Ff,Ff,Ff,Ff,Ff,Ff,Ff]) (fun w1 => ∀ i, i < 16 + j → w1.cell? ⟨g6, i, none⟩ = some (.int .u32 ((wList b j).getD i 0))) (by kernel_rfl) rfl rfl (fun w hw => hw.drawn _) ?_
   refine TH.tk (listed' := #[Tt,Ff,Ff,Ff,Ff,Ff,Ff,Ff,Ff,Ff,Ff,Ff,Ff,Ff,Ff,Ff,Ff,Ff,Ff,Ff,Ff,Ff,Ff,Ff,Ff,Ff,Ff,Ff,Ff,Ff]) 0 rfl rfl rfl (gives_move rfl rfl) (fun w1 hw i hi => (hw.cell (k := 0) rfl i).trans (by have := arrW_at (wList b j) i (by rw [wList_len]; omega); rwa [Nat.zero_add] at this)) ?_
   refine TH.tk (listed' := #[Tt,Tt,Ff,Ff,Ff,Ff,Ff,Ff,Ff,Ff,Ff,Ff,Ff,Ff,Ff,Ff,Ff,Ff,Ff,Ff,Ff,Ff,Ff,Ff,Ff,Ff,Ff,Ff,Ff,Ff]) 1 rfl rfl rfl (gives_move rfl rfl) (fun w1 hw i hi => (hw.cell (k := 0) rfl i).trans (by have := arrW_at (wList b j) i (by rw [wList_len]; omega); rwa [Nat.zero_add] at this)) ?_
   refine TH.tk (listed' := #[Tt,Tt,Tt,Ff,Ff,Ff,Ff,Ff,Ff,Ff,Ff,Ff,Ff,Ff,Ff,Ff,Ff,Ff,Ff,Ff,Ff,Ff,Ff,Ff,Ff,Ff,Ff,Ff,Ff,Ff]) 2 rfl rfl rfl (gives_bin rfl rfl rfl (fun w => bin_sub_ (r := ((j : Nat) : Int)) (by simp only [IntKind.wrap_i64]; omega) w)) (fun w1 hw i hi => (hw.cell (k := 0) rfl i).trans (by have := arrW_at (wList b j) i (by rw [wList_len]; omega); rwa [Nat.zero_add] at this)) ?_
   refine TH.tk (listed' := #[Tt,Tt,Tt,Tt,Ff,Ff,Ff,Ff,Ff,Ff,Ff,Ff,Ff,Ff,Ff,Ff,Ff,Ff,Ff,Ff,Ff,Ff,Ff,Ff,Ff,Ff,Ff,Ff,Ff,Ff]) 3 rfl rfl rfl (gives_at rfl rfl rfl (fun w => at_arr Tryd.underlying111 sz1 _ 0 _ (j) (by omega) w)) (fun w1 hw i hi => (hw.cell (k := 0) rfl i).trans (by have := arrW_at (wList b j) i (by rw [wList_len]; omega); rwa [Nat.zero_add] at this)) ?_
   refine TH.tk (listed' := #[Tt,Tt,Tt,Tt,Tt,Ff,Ff,Ff,Ff,Ff,Ff,Ff,Ff,Ff,Ff,Ff,Ff,Ff,Ff,Ff,Ff,Ff,Ff,Ff,Ff,Ff,Ff,Ff,Ff,Ff]) 4 rfl rfl rfl (gives_load rfl rfl ag1 (fun w hw => hw _ (by omega))) (fun w1 hw i hi => (hw.cell (k := 0) rfl i).trans (by have := arrW_at (wList b j) i (by rw [wList_len]; omega); rwa [Nat.zero_add] at this)) ?_
   refine TH.tk (listed' := #[Tt,Tt,Tt,Tt,Tt,Tt,Ff,Ff,Ff,Ff,Ff,Ff,Ff,Ff,Ff,Ff,Ff,Ff,Ff,Ff,Ff,Ff,Ff,Ff,Ff,Ff,Ff,Ff,Ff,Ff]) 5 rfl rfl rfl (gives_move rfl rfl) (fun w1 hw i hi => (hw.cell (k := 0) rfl i).trans (by have := arrW_at (wList b j) i (by rw [wList_len]; omega); rwa [Nat.zero_add] at this)) ?_
   refine TH.tk (listed' := #[Tt,Tt,Tt,Tt,Tt,Tt,Ff,Tt,Ff,Ff,Ff,Ff,Ff,Ff,Ff,Ff,Ff,Ff,Ff,Ff,Ff,Ff,Ff,Ff,Ff,Ff,Ff,Ff,Ff,Ff]) 7 rfl rfl rfl (gives_move rfl rfl) (fun w1 hw i hi => (hw.cell (k := 0) rfl i).trans (by have := arrW_at (wList b j) i (by rw [wList_len]; omega); rwa [Nat.zero_add] at this)) ?_
   refine TH.tk (listed' := #[Tt,Tt,Tt,Tt,Tt,Tt,Ff,Tt,Ff,Ff,Tt,Ff,Ff,Ff,Ff,Ff,Ff,Ff,Ff,Ff,Ff,Ff,Ff,Ff,Ff,Ff,Ff,Ff,Ff,Ff]) 10 rfl rfl rfl (gives_move rfl rfl) (fun w1 hw i hi => (hw.cell (k := 0) rfl i).trans (by have := arrW_at (wList b j) i (by rw [wList_len]; omega); rwa [Nat.zero_add] at this)) ?_
   refine TH.tk (listed' := #[Tt,Tt,Tt,Tt,Tt,Tt,Ff,Tt,Ff,Ff,Tt,Tt,Ff,Ff,Ff,Ff,Ff,Ff,Ff,Ff,Ff,Ff,Ff,Ff,Ff,Ff,Ff,Ff,Ff,Ff]) 11 rfl rfl rfl (gives_bin rfl rfl rfl (fun w => bin_shr (2 ^ 3) (by decide) (by decide) rfl w)) (fun w1 hw i hi => (hw.cell (k := 0) rfl i).trans (by have := arrW_at (wList b j) i (by rw [wList_len]; omega); rwa [Nat.zero_add] at this)) ?_
   refine TH.tk (listed' := #[Tt,Tt,Tt,Tt,Tt,Tt,Ff,Tt,Ff,Ff,Tt,Tt,Ff,Ff,Tt,Ff,Ff,Ff,Ff,Ff,Ff,Ff,Ff,Ff,Ff,Ff,Ff,Ff,Ff,Ff]) 14 rfl rfl rfl (gives_move rfl rfl) (fun w1 hw i hi => (hw.cell (k := 0) rfl i).trans (by have := arrW_at (wList b j) i (by rw [wList_len]; omega); rwa [Nat.zero_add] at this)) ?_
   refine TH.tk (listed' := #[Tt,Tt,Tt,Tt,Tt,Tt,Ff,Tt,Ff,Ff,Tt,Tt,Ff,Ff,Tt,Tt,Ff,Ff,Ff,Ff,Ff,Ff,Ff,Ff,Ff,Ff,Ff,Ff,Ff,Ff]) 15 rfl rfl rfl (gives_bin rfl rfl rfl (fun w => bin_sub_ (r := ((9 + j : Nat) : Int)) (by simp only [IntKind.wrap_i64]; omega) w)) (fun w1 hw i hi => (hw.cell (k := 0) rfl i).trans (by have := arrW_at (wList b j) i (by rw [wList_len]; omega); rwa [Nat.zero_add] at this)) ?_
   refine TH.tk (listed' := #[Tt,Tt,Tt,Tt,Tt,Tt,Ff,Tt,Ff,Ff,Tt,Tt,Ff,Ff,Tt,Tt,Tt,Ff,Ff,Ff,Ff,Ff,Ff,Ff,Ff,Ff,Ff,Ff,Ff,Ff]) 16 rfl rfl rfl (gives_at rfl rfl rfl (fun w => at_arr Tryd.underlying111 sz1 _ 0 _ (9 + j) (by omega) w)) (fun w1 hw i hi => (hw.cell (k := 0) rfl i).trans (by have := arrW_at (wList b j) i (by rw [wList_len]; omega); rwa [Nat.zero_add] at this)) ?_
   refine TH.tk (listed' := #[Tt,Tt,Tt,Tt,Tt,Tt,Ff,Tt,Ff,Ff,Tt,Tt,Ff,Ff,Tt,Tt,Tt,Tt,Ff,Ff,Ff,Ff,Ff,Ff,Ff,Ff,Ff,Ff,Ff,Ff]) 17 rfl rfl rfl (gives_load rfl rfl ag1 (fun w hw => hw _ (by omega))) (fun w1 hw i hi => (hw.cell (k := 0) rfl i).trans (by have := arrW_at (wList b j) i (by rw [wList_len]; omega); rwa [Nat.zero_add] at this)) ?_
   refine TH.tk (listed' := #[Tt,Tt,Tt,Tt,Tt,Tt,Ff,Tt,Ff,Ff,Tt,Tt,Ff,Ff,Tt,Tt,Tt,Tt,Ff,Tt,Ff,Ff,Ff,Ff,Ff,Ff,Ff,Ff,Ff,Ff]) 19 rfl rfl rfl (gives_move rfl rfl) (fun w1 hw i hi => (hw.cell (k := 0) rfl i).trans (by have := arrW_at (wList b j) i (by rw [wList_len]; omega); rwa [Nat.zero_add] at this)) ?_
   refine TH.tk (listed' := #[Tt,Tt,Tt,Tt,Tt,Tt,Ff,Tt,Ff,Ff,Tt,Tt,Ff,Ff,Tt,Tt,Tt,Tt,Ff,Tt,Ff,Tt,Ff,Ff,Ff,Ff,Ff,Ff,Ff,Ff]) 21 rfl rfl rfl (gives_move rfl rfl) (fun w1 hw i hi => (hw.cell (k := 0) rfl i).trans (by have := arrW_at (wList b j) i (by rw [wList_len]; omega); rwa [Nat.zero_add] at this)) ?_
   refine TH.tk (listed' := #[Tt,Tt,Tt,Tt,Tt,Tt,Ff,Tt,Ff,Ff,Tt,Tt,Ff,Ff,Tt,Tt,Tt,Tt,Ff,Tt,Ff,Tt,Ff,Ff,Tt,Ff,Ff,Ff,Ff,Ff]) 24 rfl rfl rfl (gives_move rfl rfl) (fun w1 hw i hi => (hw.cell (k := 0) rfl i).trans (by have := arrW_at (wList b j) i (by rw [wList_len]; omega); rwa [Nat.zero_add] at this)) ?_
   refine TH.tk (listed' := #[Tt,Tt,Tt,Tt,Tt,Tt,Ff,Tt,Ff,Ff,Tt,Tt,Ff,Ff,Tt,Tt,Tt,Tt,Ff,Tt,Ff,Tt,Ff,Ff,Tt,Tt,Ff,Ff,Ff,Ff]) 25 rfl rfl rfl (gives_bin rfl rfl rfl (fun w => bin_shr (2 ^ 10) (by decide) (by decide) rfl w)) (fun w1 hw i hi => (hw.cell (k := 0) rfl i).trans (by have := arrW_at (wList b j) i (by rw [wList_len]; omega); rwa [Nat.zero_add] at this)) ?_
   refine TH.only (listed' := #[Tt,Tt,Tt,Tt,Tt,Tt,Tt,Tt,Ff,Ff,Tt,Tt,Ff,Ff,Tt,Tt,Tt,Tt,Ff,Tt,Ff,Tt,Ff,Ff,Tt,Tt,Ff,Ff,Ff,Ff]) 6 rfl (by kernel_rfl) rfl rfl ?_
   refine TL.pcall1 rfl rfl rfl rfl rfl Tryd.func78 rnmTurn rbdTurn (fun w hw => (rturn_7 _ hw1 w).mono (fun e w2 ⟨he, q, hq⟩ => ⟨he, hq ▸ below_drewN (Below.refl _ _) q⟩)) ?_
   refine TL.end_ ?_
   refine TX.held (fun w1 hw i hi => (hw.cell (k := 0) rfl i).trans (by have := arrW_at (wList b j) i (by rw [wList_len]; omega); rwa [Nat.zero_add] at this)) ?_
   refine TH.only (listed' := #[Tt,Tt,Tt,Tt,Tt,Tt,Tt,Tt,Tt,Ff,Tt,Tt,Ff,Ff,Tt,Tt,Tt,Tt,Ff,Tt,Ff,Tt,Ff,Ff,Tt,Tt,Ff,Ff,Ff,Ff]) 8 rfl (by kernel_rfl) rfl rfl ?_
   refine TL.pcall1 rfl rfl rfl rfl rfl Tryd.func78 rnmTurn rbdTurn (fun w hw => (rturn_18 _ hw1 w).mono (fun e w2 ⟨he, q, hq⟩ => ⟨he, hq ▸ below_drewN (Below.refl _ _) q⟩)) ?_
   refine TL.end_ ?_
   refine TX.held (fun w1 hw i hi => (hw.cell (k := 0) rfl i).trans (by have := arrW_at (wList b j) i (by rw [wList_len]; omega); rwa [Nat.zero_add] at this)) ?_
   refine TH.tk (listed' := #[Tt,Tt,Tt,Tt,Tt,Tt,Tt,Tt,Tt,Tt,Tt,Tt,Ff,Ff,Tt,Tt,Tt,Tt,Ff,Tt,Ff,Tt,Ff,Ff,Tt,Tt,Ff,Ff,Ff,Ff]) 9 rfl rfl rfl (gives_bin rfl rfl rfl (fun w => bin_bits (.inr (.inr rfl)) w)) (fun w1 hw i hi => (hw.cell (k := 0) rfl i).trans (by have := arrW_at (wList b j) i (by rw [wList_len]; omega); rwa [Nat.zero_add] at this)) ?_
   refine TH.tk (listed' := #[Tt,Tt,Tt,Tt,Tt,Tt,Tt,Tt,Tt,Tt,Tt,Tt,Tt,Ff,Tt,Tt,Tt,Tt,Ff,Tt,Ff,Tt,Ff,Ff,Tt,Tt,Ff,Ff,Ff,Ff]) 12 rfl rfl rfl (gives_bin rfl rfl rfl (fun w => bin_bits (.inr (.inr rfl)) w)) (fun w1 hw i hi => (hw.cell (k := 0) rfl i).trans (by have := arrW_at (wList b j) i (by rw [wList_len]; omega); rwa [Nat.zero_add] at this)) ?_
   refine TH.tk (listed' := #[Tt,Tt,Tt,Tt,Tt,Tt,Tt,Tt,Tt,Tt,Tt,Tt,Tt,Tt,Tt,Tt,Tt,Tt,Ff,Tt,Ff,Tt,Ff,Ff,Tt,Tt,Ff,Ff,Ff,Ff]) 13 rfl rfl rfl (gives_bin rfl rfl rfl (fun w => bin_add w)) (fun w1 hw i hi => (hw.cell (k := 0) rfl i).trans (by have := arrW_at (wList b j) i (by rw [wList_len]; omega); rwa [Nat.zero_add] at this)) ?_
   refine TH.tk (listed' := #[Tt,Tt,Tt,Tt,Tt,Tt,Tt,Tt,Tt,Tt,Tt,Tt,Tt,Tt,Tt,Tt,Tt,Tt,Tt,Tt,Ff,Tt,Ff,Ff,Tt,Tt,Ff,Ff,Ff,Ff]) 18 rfl rfl rfl (gives_bin rfl rfl rfl (fun w => bin_add w)) (fun w1 hw i hi => (hw.cell (k := 0) rfl i).trans (by have := arrW_at (wList b j) i (by rw [wList_len]; omega); rwa [Nat.zero_add] at this)) ?_
   refine TH.only (listed' := #[Tt,Tt,Tt,Tt,Tt,Tt,Tt,Tt,Tt,Tt,Tt,Tt,Tt,Tt,Tt,Tt,Tt,Tt,Tt,Tt,Tt,Tt,Ff,Ff,Tt,Tt,Ff,Ff,Ff,Ff]) 20 rfl (by kernel_rfl) rfl rfl ?_
   refine TL.pcall1 rfl rfl rfl rfl rfl Tryd.func78 rnmTurn rbdTurn (fun w hw => (rturn_17 _ hw2 w).mono (fun e w2 ⟨he, q, hq⟩ => ⟨he, hq ▸ below_drewN (Below.refl _ _) q⟩)) ?_
   refine TL.end_ ?_
   refine TX.held (fun w1 hw i hi => (hw.cell (k := 0) rfl i).trans (by have := arrW_at (wList b j) i (by rw [wList_len]; omega); rwa [Nat.zero_add] at this)) ?_
   refine TH.only (listed' := #[Tt,Tt,Tt,Tt,Tt,Tt,Tt,Tt,Tt,Tt,Tt,Tt,Tt,Tt,Tt,Tt,Tt,Tt,Tt,Tt,Tt,Tt,Tt,Ff,Tt,Tt,Ff,Ff,Ff,Ff]) 22 rfl (by kernel_rfl) rfl rfl ?_
   refine TL.pcall1 rfl rfl rfl rfl rfl Tryd.func78 rnmTurn rbdTurn (fun w hw => (rturn_19 _ hw2 w).mono (fun e w2 ⟨he, q, hq⟩ => ⟨he, hq ▸ below_drewN (Below.refl _ _) q⟩)) ?_
   refine TL.end_ ?_
   refine TX.held (fun w1 hw i hi => (hw.cell (k := 0) rfl i).trans (by have := arrW_at (wList b j) i (by rw [wList_len]; omega); rwa [Nat.zero_add] at this)) ?_
   refine TH.tk (listed' := #[Tt,Tt,Tt,Tt,Tt,Tt,Tt,Tt,Tt,Tt,Tt,Tt,Tt,Tt,Tt,Tt,Tt,Tt,Tt,Tt,Tt,Tt,Tt,Tt,Tt,Tt,Ff,Ff,Ff,Ff]) 23 rfl rfl rfl (gives_bin rfl rfl rfl (fun w => bin_bits (.inr (.inr rfl)) w)) (fun w1 hw i hi => (hw.cell (k := 0) rfl i).trans (by have := arrW_at (wList b j) i (by rw [wList_len]; omega); rwa [Nat.zero_add] at this)) ?_
   refine TH.tk (listed' := #[Tt,Tt,Tt,Tt,Tt,Tt,Tt,Tt,Tt,Tt,Tt,Tt,Tt,Tt,Tt,Tt,Tt,Tt,Tt,Tt,Tt,Tt,Tt,Tt,Tt,Tt,Tt,Ff,Ff,Ff]) 26 rfl rfl rfl (gives_bin rfl rfl rfl (fun w => bin_bits (.inr (.inr rfl)) w)) (fun w1 hw i hi => (hw.cell (k := 0) rfl i).trans (by have := arrW_at (wList b j) i (by rw [wList_len]; omega); rwa [Nat.zero_add] at this)) ?_
   refine TH.tk (listed' := #[Tt,Tt,Tt,Tt,Tt,Tt,Tt,Tt,Tt,Tt,Tt,Tt,Tt,Tt,Tt,Tt,Tt,Tt,Tt,Tt,Tt,Tt,Tt,Tt,Tt,Tt,Tt,Tt,Ff,Ff]) 27 rfl rfl rfl (gives_bin rfl rfl rfl (fun w => bin_add w)) (fun w1 hw i hi => (hw.cell (k := 0) rfl i).trans (by have := arrW_at (wList b j) i (by rw [wList_len]; omega); rwa [Nat.zero_add] at this)) ?_
   refine TH.tk (listed' := #[Tt,Tt,Tt,Tt,Tt,Tt,Tt,Tt,Tt,Tt,Tt,Tt,Tt,Tt,Tt,Tt,Tt,Tt,Tt,Tt,Tt,Tt,Tt,Tt,Tt,Tt,Tt,Tt,Tt,Ff]) 28 rfl rfl rfl (gives_at rfl rfl rfl (fun w => at_arr Tryd.underlying111 sz1 _ 0 _ (16 + j) (by omega) w)) (fun w1 hw i hi => (hw.cell (k := 0) rfl i).trans (by have := arrW_at (wList b j) i (by rw [wList_len]; omega); rwa [Nat.zero_add] at this)) ?_
   refine TH.only (listed' := #[Tt,Tt,Tt,Tt,Tt,Tt,Tt,Tt,Tt,Tt,Tt,Tt,Tt,Tt,Tt,Tt,Tt,Tt,Tt,Tt,Tt,Tt,Tt,Tt,Tt,Tt,Tt,Tt,Tt,Tt]) 29 rfl (by kernel_rfl) rfl rfl ?_
   refine TL.pstore (k := 0) (vs := [.int .u32 _]) rfl rfl rfl rfl rfl rfl rfl sz1 (one1 _) (by rw [arrW_len _ (by rw [wList_len]; omega)]; show 0 + (16 + j) + 1 ≤ 64; omega) (L' := [.blk g6 111 (arrW (wList b (j + 1))), .blk g5 111 (arrW keysL), .blk g4 103 [.int .u32 0, .int .u32 0, .int .u32 0, .int .u32 0, .int .u32 0, .int .u32 0, .int .u32 0, .int .u32 0], .blk g2 103 s.cells.toList]) (by rw [hnx, ← arrW_put (wList b j) _ (wList_len b j) (by omega)]; simp only [Nat.zero_add]; rfl) ?_
   refine TL.end_ ?_
   refine TX.held (fun w1 hw i hi => (hw.cell (k := 0) rfl i).trans (by have := arrW_at (wList b (j + 1)) i (by rw [wList_len]; omega); rw [Nat.zero_add, wList_old b j i hi] at this; exact this)) ?_
   refine TH.done (by kernel_rfl) ?_
   refine TX.in_normal (TX.then_ (TC.region ?_))
   refine TL.mv ?_
   refine TL.val rfl rfl rfl (gives_bin rfl rfl rfl (fun w => bin_add_ (r := ((16 + (j + 1) : Nat) : Int)) (by simp only [IntKind.wrap_i64]; omega) w)) ?_
   refine TL.as_ ?_
   refine TL.end_ ?_
   exact TX.round (⟨j + 1, hj2⟩) (by show 48 - (j + 1) < 48 - j; omega) ⟨rfl, rfl, rfl, rfl, rfl, trivial⟩ (fun w hw => hw)
  ·have hj2 : j = 48 := by have := of_decide_eq_false hc57; omega
   subst hj2
   obtain ⟨ws, hwsd⟩ : ∃ ws, ws = wList b 48 := ⟨_, rfl⟩
   have hws : ws.length = 64 := by rw [hwsd]; exact wList_len b 48
   have hbk : blockF s b = sumS s (roundsF ws s 64) := by rw [hwsd]; rfl
   rw [hbk, ← hwsd]
   refine TC.exit_ (TX.then_exit (TX.then_exit (TX.in_same (TX.then_ (TC.seq_ (TC.region ?_))))))
   refine TL.val rfl rfl rfl (pm_loadAgg (k := 3) (n := 8) rfl rfl rag8 rsz8 rfl (Nat.le_refl 8)) ?_
   refine TL.pnew rfl rfl rfl (exec_alloc (cs := [.int .u32 0, .int .u32 0, .int .u32 0, .int .u32 0, .int .u32 0, .int .u32 0, .int .u32 0, .int .u32 0]) rfl rzero8 rfl) (fun g11 => ?_)
   refine TL.pstore (k := 0) (vs := s.cells.toList) rfl rfl rfl rfl rfl rfl rfl rsz8 (one8 _ _ _ _ _ _ _ _) (Nat.le_refl 8) (L' := [.blk g11 103 s.cells.toList, .blk g6 111 (arrW (ws)), .blk g5 111 (arrW keysL), .blk g4 103 [.int .u32 0, .int .u32 0, .int .u32 0, .int .u32 0, .int .u32 0, .int .u32 0, .int .u32 0, .int .u32 0], .blk g2 103 s.cells.toList]) rfl ?_
   refine TL.end_ (TX.then_ (TC.seq_ (TC.seq_ (TC.region ?_))))
   refine TL.as_ ?_
   refine TL.end_ (TX.then_ (TC.block ?_))
   refine TC.loop_ (α := {i : Nat // i ≤ 64}) (fun x => [(2, .pointer (some ⟨g2, 0, none⟩)), (4, .pointer (some ⟨g4, 0, none⟩)), (5, .pointer (some ⟨g5, 0, none⟩)), (6, .pointer (some ⟨g6, 0, none⟩)), (11, .pointer (some ⟨g11, 0, none⟩)), (12, .int .i64 (x.1 : Int))]) (fun x => Pm w [.blk g11 103 (roundsF ws s x.1).cells.toList, .blk g6 111 (arrW (ws)), .blk g5 111 (arrW keysL), .blk g4 103 [.int .u32 0, .int .u32 0, .int .u32 0, .int .u32 0, .int .u32 0, .int .u32 0, .int .u32 0, .int .u32 0], .blk g2 103 s.cells.toList]) (fun x => 64 - x.1) (⟨0, Nat.zero_le _⟩) ⟨rfl, rfl, rfl, rfl, rfl, rfl, trivial⟩ (fun w hw => hw) ?_
   rintro ⟨i, hi⟩
   dsimp only at hi ⊢
   refine TC.seq_ (TC.seq_ (TC.region ?_))
   refine TL.mv ?_
   refine TL.val rfl rfl rfl (gives_bin rfl rfl rfl (fun w => bin_lss w)) ?_
   refine TL.end_ (TX.then_ ?_)
   refine TC.split rfl (fun hc99 => ?_) (fun hc99 => ?_)
   ·have hi2 : i < 64 := by have := of_decide_eq_true hc99; omega
    have hx := roundsF_ok ws s hok i
    have hnx : roundsF ws s (i + 1) = roundF (roundsF ws s i) (keysL.getD i 0) (ws.getD i 0) := rfl
    generalize roundsF ws s i = x at *
    obtain ⟨xa, xb, xc, xd, xe, xf, xg, xh⟩ := x
    obtain ⟨oa, ob, oc, od, oe, of', og, oh⟩ := hx
    refine TC.skip_ (TX.then_ (TC.seq_ (TC.block (TC.seq_ ?_))))
    refine TC.quiet_ (E' := ?_) (by kernel_rfl) (by kernel_rfl) (fun w hw => hw.drawn _) ?_ ?_
    rotate_left
    ·refine TQ.val rfl rfl rfl (gives_at rfl rfl rfl (fun w => at_arr Tryd.underlying103 sz1 _ 0 _ (7) (by decide) w)) ?_
     refine TQ.val rfl rfl rfl (pm_load (k := 0) rfl rfl ag1 rfl rfl) ?_
     refine TQ.val rfl rfl rfl (gives_at rfl rfl rfl (fun w => at_arr Tryd.underlying103 sz1 _ 0 _ (4) (by decide) w)) ?_
     refine TQ.val rfl rfl rfl (pm_load (k := 0) rfl rfl ag1 rfl rfl) ?_
     refine TQ.call rfl rfl rfl rfl rfl Tryd.func78 rnmTurn rbdTurn (fun w hw => (rturn_6 _ oe w).mono (fun e w2 ⟨he, q, hq⟩ => ⟨he, hq ▸ pm_drewN hw q⟩)) ?_
     refine TQ.val rfl rfl rfl (gives_at rfl rfl rfl (fun w => at_arr Tryd.underlying103 sz1 _ 0 _ (4) (by decide) w)) ?_
     refine TQ.val rfl rfl rfl (pm_load (k := 0) rfl rfl ag1 rfl rfl) ?_
     refine TQ.call rfl rfl rfl rfl rfl Tryd.func78 rnmTurn rbdTurn (fun w hw => (rturn_11 _ oe w).mono (fun e w2 ⟨he, q, hq⟩ => ⟨he, hq ▸ pm_drewN hw q⟩)) ?_
     refine TQ.val rfl rfl rfl (gives_bin rfl rfl rfl (fun w => bin_bits (.inr (.inr rfl)) w)) ?_
     refine TQ.val rfl rfl rfl (gives_at rfl rfl rfl (fun w => at_arr Tryd.underlying103 sz1 _ 0 _ (4) (by decide) w)) ?_
     refine TQ.val rfl rfl rfl (pm_load (k := 0) rfl rfl ag1 rfl rfl) ?_
     refine TQ.call rfl rfl rfl rfl rfl Tryd.func78 rnmTurn rbdTurn (fun w hw => (rturn_25 _ oe w).mono (fun e w2 ⟨he, q, hq⟩ => ⟨he, hq ▸ pm_drewN hw q⟩)) ?_
     refine TQ.val rfl rfl rfl (gives_bin rfl rfl rfl (fun w => bin_bits (.inr (.inr rfl)) w)) ?_
     refine TQ.val rfl rfl rfl (gives_bin rfl rfl rfl (fun w => bin_add w)) ?_
     refine TQ.val rfl rfl rfl (gives_at rfl rfl rfl (fun w => at_arr Tryd.underlying103 sz1 _ 0 _ (4) (by decide) w)) ?_
     refine TQ.val rfl rfl rfl (pm_load (k := 0) rfl rfl ag1 rfl rfl) ?_
     refine TQ.val rfl rfl rfl (gives_at rfl rfl rfl (fun w => at_arr Tryd.underlying103 sz1 _ 0 _ (5) (by decide) w)) ?_
     refine TQ.val rfl rfl rfl (pm_load (k := 0) rfl rfl ag1 rfl rfl) ?_
     refine TQ.val rfl rfl rfl (gives_bin rfl rfl rfl (fun w => bin_bits (.inl rfl) w)) ?_
     refine TQ.val rfl rfl rfl (gives_at rfl rfl rfl (fun w => at_arr Tryd.underlying103 sz1 _ 0 _ (4) (by decide) w)) ?_
     refine TQ.val rfl rfl rfl (pm_load (k := 0) rfl rfl ag1 rfl rfl) ?_
     refine TQ.val rfl rfl rfl (gives_not rfl rfl) ?_
     refine TQ.val rfl rfl rfl (gives_at rfl rfl rfl (fun w => at_arr Tryd.underlying103 sz1 _ 0 _ (6) (by decide) w)) ?_
     refine TQ.val rfl rfl rfl (pm_load (k := 0) rfl rfl ag1 rfl rfl) ?_
     refine TQ.val rfl rfl rfl (gives_bin rfl rfl rfl (fun w => bin_bits (.inl rfl) w)) ?_
     refine TQ.val rfl rfl rfl (gives_bin rfl rfl rfl (fun w => bin_bits (.inr (.inr rfl)) w)) ?_
     refine TQ.val rfl rfl rfl (gives_bin rfl rfl rfl (fun w => bin_add w)) ?_
     refine TQ.val rfl rfl rfl (gives_move rfl rfl) ?_
     refine TQ.val rfl rfl rfl (gives_at rfl rfl rfl (fun w => at_arr Tryd.underlying111 sz1 _ 0 _ (i) (by omega) w)) ?_
     refine TQ.val rfl rfl rfl (pm_load (k := 2) rfl rfl ag1 rfl (arrW_at keysL i (by rw [keysL_len]; omega))) ?_
     refine TQ.val rfl rfl rfl (gives_bin rfl rfl rfl (fun w => bin_add w)) ?_
     refine TQ.val rfl rfl rfl (gives_move rfl rfl) ?_
     refine TQ.val rfl rfl rfl (gives_at rfl rfl rfl (fun w => at_arr Tryd.underlying111 sz1 _ 0 _ (i) (by omega) w)) ?_
     refine TQ.val rfl rfl rfl (pm_load (k := 1) rfl rfl ag1 rfl (arrW_at ws i (by omega))) ?_
     refine TQ.val rfl rfl rfl (gives_bin rfl rfl rfl (fun w => bin_add w)) ?_
     refine TQ.val rfl rfl rfl (gives_assign rfl rfl) ?_
     exact TQ.end_
    refine TX.then_ (TC.seq_ ?_)
    refine TC.quiet_ (E' := ?_) (by kernel_rfl) (by kernel_rfl) (fun w hw => hw.drawn _) ?_ ?_
    rotate_left
    ·refine TQ.val rfl rfl rfl (gives_at rfl rfl rfl (fun w => at_arr Tryd.underlying103 sz1 _ 0 _ (0) (by decide) w)) ?_
     refine TQ.val rfl rfl rfl (pm_load (k := 0) rfl rfl ag1 rfl rfl) ?_
     refine TQ.call rfl rfl rfl rfl rfl Tryd.func78 rnmTurn rbdTurn (fun w hw => (rturn_2 _ oa w).mono (fun e w2 ⟨he, q, hq⟩ => ⟨he, hq ▸ pm_drewN hw q⟩)) ?_
     refine TQ.val rfl rfl rfl (gives_at rfl rfl rfl (fun w => at_arr Tryd.underlying103 sz1 _ 0 _ (0) (by decide) w)) ?_
     refine TQ.val rfl rfl rfl (pm_load (k := 0) rfl rfl ag1 rfl rfl) ?_
     refine TQ.call rfl rfl rfl rfl rfl Tryd.func78 rnmTurn rbdTurn (fun w hw => (rturn_13 _ oa w).mono (fun e w2 ⟨he, q, hq⟩ => ⟨he, hq ▸ pm_drewN hw q⟩)) ?_
     refine TQ.val rfl rfl rfl (gives_bin rfl rfl rfl (fun w => bin_bits (.inr (.inr rfl)) w)) ?_
     refine TQ.val rfl rfl rfl (gives_at rfl rfl rfl (fun w => at_arr Tryd.underlying103 sz1 _ 0 _ (0) (by decide) w)) ?_
     refine TQ.val rfl rfl rfl (pm_load (k := 0) rfl rfl ag1 rfl rfl) ?_
     refine TQ.call rfl rfl rfl rfl rfl Tryd.func78 rnmTurn rbdTurn (fun w hw => (rturn_22 _ oa w).mono (fun e w2 ⟨he, q, hq⟩ => ⟨he, hq ▸ pm_drewN hw q⟩)) ?_
     refine TQ.val rfl rfl rfl (gives_bin rfl rfl rfl (fun w => bin_bits (.inr (.inr rfl)) w)) ?_
     refine TQ.val rfl rfl rfl (gives_at rfl rfl rfl (fun w => at_arr Tryd.underlying103 sz1 _ 0 _ (0) (by decide) w)) ?_
     refine TQ.val rfl rfl rfl (pm_load (k := 0) rfl rfl ag1 rfl rfl) ?_
     refine TQ.val rfl rfl rfl (gives_at rfl rfl rfl (fun w => at_arr Tryd.underlying103 sz1 _ 0 _ (1) (by decide) w)) ?_
     refine TQ.val rfl rfl rfl (pm_load (k := 0) rfl rfl ag1 rfl rfl) ?_
     refine TQ.val rfl rfl rfl (gives_bin rfl rfl rfl (fun w => bin_bits (.inl rfl) w)) ?_
     refine TQ.val rfl rfl rfl (gives_at rfl rfl rfl (fun w => at_arr Tryd.underlying103 sz1 _ 0 _ (0) (by decide) w)) ?_
     refine TQ.val rfl rfl rfl (pm_load (k := 0) rfl rfl ag1 rfl rfl) ?_
     refine TQ.val rfl rfl rfl (gives_at rfl rfl rfl (fun w => at_arr Tryd.underlying103 sz1 _ 0 _ (2) (by decide) w)) ?_
     refine TQ.val rfl rfl rfl (pm_load (k := 0) rfl rfl ag1 rfl rfl) ?_
     refine TQ.val rfl rfl rfl (gives_bin rfl rfl rfl (fun w => bin_bits (.inl rfl) w)) ?_
     refine TQ.val rfl rfl rfl (gives_bin rfl rfl rfl (fun w => bin_bits (.inr (.inr rfl)) w)) ?_
     refine TQ.val rfl rfl rfl (gives_at rfl rfl rfl (fun w => at_arr Tryd.underlying103 sz1 _ 0 _ (1) (by decide) w)) ?_
     refine TQ.val rfl rfl rfl (pm_load (k := 0) rfl rfl ag1 rfl rfl) ?_
     refine TQ.val rfl rfl rfl (gives_at rfl rfl rfl (fun w => at_arr Tryd.underlying103 sz1 _ 0 _ (2) (by decide) w)) ?_
     refine TQ.val rfl rfl rfl (pm_load (k := 0) rfl rfl ag1 rfl rfl) ?_
     refine TQ.val rfl rfl rfl (gives_bin rfl rfl rfl (fun w => bin_bits (.inl rfl) w)) ?_
     refine TQ.val rfl rfl rfl (gives_bin rfl rfl rfl (fun w => bin_bits (.inr (.inr rfl)) w)) ?_
     refine TQ.val rfl rfl rfl (gives_bin rfl rfl rfl (fun w => bin_add w)) ?_
     refine TQ.val rfl rfl rfl (gives_assign rfl rfl) ?_
     exact TQ.end_
    refine TX.then_ (TC.region ?_)
    refine TL.mv ?_
    refine TL.mv ?_
    refine TL.val rfl rfl rfl (gives_bin rfl rfl rfl (fun w => bin_add w)) ?_
    refine TL.val rfl rfl rfl (gives_at rfl rfl rfl (fun w => at_arr Tryd.underlying103 sz1 _ 0 _ (0) (by decide) w)) ?_
    refine TL.val rfl rfl rfl (pm_load (k := 0) rfl rfl ag1 rfl rfl) ?_
    refine TL.val rfl rfl rfl (gives_at rfl rfl rfl (fun w => at_arr Tryd.underlying103 sz1 _ 0 _ (1) (by decide) w)) ?_
    refine TL.val rfl rfl rfl (pm_load (k := 0) rfl rfl ag1 rfl rfl) ?_
    refine TL.val rfl rfl rfl (gives_at rfl rfl rfl (fun w => at_arr Tryd.underlying103 sz1 _ 0 _ (2) (by decide) w)) ?_
    refine TL.val rfl rfl rfl (pm_load (k := 0) rfl rfl ag1 rfl rfl) ?_
    refine TL.val rfl rfl rfl (gives_at rfl rfl rfl (fun w => at_arr Tryd.underlying103 sz1 _ 0 _ (3) (by decide) w)) ?_
    refine TL.val rfl rfl rfl (pm_load (k := 0) rfl rfl ag1 rfl rfl) ?_
    refine TL.mv ?_
    refine TL.val rfl rfl rfl (gives_bin rfl rfl rfl (fun w => bin_add w)) ?_
    refine TL.val rfl rfl rfl (gives_at rfl rfl rfl (fun w => at_arr Tryd.underlying103 sz1 _ 0 _ (4) (by decide) w)) ?_
    refine TL.val rfl rfl rfl (pm_load (k := 0) rfl rfl ag1 rfl rfl) ?_
    refine TL.val rfl rfl rfl (gives_at rfl rfl rfl (fun w => at_arr Tryd.underlying103 sz1 _ 0 _ (5) (by decide) w)) ?_
    refine TL.val rfl rfl rfl (pm_load (k := 0) rfl rfl ag1 rfl rfl) ?_
    refine TL.val rfl rfl rfl (gives_at rfl rfl rfl (fun w => at_arr Tryd.underlying103 sz1 _ 0 _ (6) (by decide) w)) ?_
    refine TL.val rfl rfl rfl (pm_load (k := 0) rfl rfl ag1 rfl rfl) ?_
    refine TL.val rfl rfl rfl (gives_build rfl rfl (fun w => rbuild8x _ _ _ _ _ _ _ _ w)) ?_
    refine TL.pstore (k := 0) (vs := (roundF ⟨xa, xb, xc, xd, xe, xf, xg, xh⟩ (keysL.getD i 0) (ws.getD i 0)).cells.toList) rfl rfl rfl rfl rfl rfl rfl rsz8 (one8 _ _ _ _ _ _ _ _) (Nat.le_refl 8) rfl ?_
    refine TL.end_ (TX.in_normal (TX.then_ (TC.region ?_)))
    refine TL.mv ?_
    refine TL.val rfl rfl rfl (gives_bin rfl rfl rfl (fun w => bin_add_ (r := ((i + 1 : Nat) : Int)) (by simp only [IntKind.wrap_i64]; omega) w)) ?_
    refine TL.as_ ?_
    refine TL.end_ ?_
    exact TX.round (⟨i + 1, hi2⟩) (by show 64 - (i + 1) < 64 - i; omega) ⟨rfl, rfl, rfl, rfl, rfl, rfl, trivial⟩ (fun w1 hw => by rw [hnx]; exact hw)
   ·have hi2 : i = 64 := by have := of_decide_eq_false hc99; omega
    subst hi2
    refine TC.exit_ (TX.then_exit (TX.then_exit (TX.in_same (TX.then_ (TC.seq_ (TC.seq_ (TC.region ?_)))))))
    refine TL.as_ ?_
    refine TL.end_ (TX.then_ (TC.block ?_))
    refine TC.loop_ (α := {j : Nat // j ≤ 8}) (fun x => [(2, .pointer (some ⟨g2, 0, none⟩)), (4, .pointer (some ⟨g4, 0, none⟩)), (11, .pointer (some ⟨g11, 0, none⟩)), (15, .int .i64 (x.1 : Int))]) (fun x => Pm w [.blk g11 103 (roundsF ws s 64).cells.toList, .blk g6 111 (arrW (ws)), .blk g5 111 (arrW keysL), .blk g4 103 [.int .u32 0, .int .u32 0, .int .u32 0, .int .u32 0, .int .u32 0, .int .u32 0, .int .u32 0, .int .u32 0], .blk g2 103 (mixC (sumS s (roundsF ws s 64)) s x.1)]) (fun x => 8 - x.1) (⟨0, Nat.zero_le _⟩) ⟨rfl, rfl, rfl, rfl, trivial⟩ (fun w hw => hw) ?_
    rintro ⟨j, hj⟩
    dsimp only at hj ⊢
    refine TC.seq_ (TC.seq_ (TC.region ?_))
    refine TL.mv ?_
    refine TL.val rfl rfl rfl (gives_bin rfl rfl rfl (fun w => bin_lss w)) ?_
    refine TL.end_ (TX.then_ ?_)
    refine TC.split rfl (fun hc187 => ?_) (fun hc187 => ?_)
    ·have hj2 : j < 8 := by have := of_decide_eq_true hc187; omega
     refine TC.skip_ (TX.then_ (TC.seq_ (TC.block ?_)))
     refine TC.tail 8 (by kernel_rfl) (by kernel_rfl) (fun w hw => hw.drawn _) ?_
     refine TS.val rfl rfl rfl (gives_move rfl rfl) ?_
     refine TS.val rfl rfl rfl (gives_at rfl rfl rfl (fun w => at_arr Tryd.underlying103 sz1 _ 0 _ (j) hj2 w)) ?_
     refine TS.val rfl rfl rfl (pm_load (k := 4) rfl rfl ag1 rfl (mix_get _ _ j hj2)) ?_
     refine TS.val rfl rfl rfl (gives_move rfl rfl) ?_
     refine TS.val rfl rfl rfl (gives_at rfl rfl rfl (fun w => at_arr Tryd.underlying103 sz1 _ 0 _ (j) hj2 w)) ?_
     refine TS.val rfl rfl rfl (pm_load (k := 0) rfl rfl ag1 rfl (cell_get _ j hj2)) ?_
     refine TS.val rfl rfl rfl (gives_bin rfl rfl rfl (fun w => bin_add w)) ?_
     refine TS.val rfl rfl rfl (gives_at rfl rfl rfl (fun w => at_arr Tryd.underlying103 sz1 _ 0 _ (j) hj2 w)) ?_
     refine TS.end_ ?_
     refine TL.pstore (k := 4) (vs := [.int .u32 _]) rfl rfl rfl rfl rfl rfl rfl sz1 (one1 _) (by rw [mix_len _ _ _ (by omega)]; show 0 + j + 1 ≤ 8; omega) rfl ?_
     refine TL.end_ (TX.in_normal (TX.then_ (TC.region ?_)))
     refine TL.mv ?_
     refine TL.val rfl rfl rfl (gives_bin rfl rfl rfl (fun w => bin_add_ (r := ((j + 1 : Nat) : Int)) (by simp only [IntKind.wrap_i64]; omega) w)) ?_
     refine TL.as_ ?_
     refine TL.end_ ?_
     exact TX.round (⟨j + 1, hj2⟩) (by show 8 - (j + 1) < 8 - j; omega) ⟨rfl, rfl, rfl, rfl, trivial⟩ (fun w1 hw => by rw [← mix_put s (roundsF ws s 64) j hj2]; exact hw)
    ·have hj2 : j = 8 := by have := of_decide_eq_false hc187; omega
     subst hj2
     refine TC.exit_ (TX.then_exit (TX.then_exit (TX.in_same (TX.then_ (TC.seq_ (TC.region ?_))))))
     refine TL.val rfl rfl rfl (pm_loadAgg (k := 4) (n := 8) rfl rfl rag8 rsz8 rfl (Nat.le_refl 8)) ?_
     refine TL.pstore (k := 3) (vs := (sumS s (roundsF ws s 64)).cells.toList) rfl rfl rfl rfl rfl rfl rfl rsz8 (one8 _ _ _ _ _ _ _ _) (Nat.le_refl 8) rfl ?_
     refine TL.end_ (TX.then_ (TC.ret_ ?_))
     exact pm_ret_cell (k := 3) Tryd.results72 rfl rfl Tryd.underlying103 rfl rfl (fun w1 hw => ⟨rfl, hw.bel⟩)
end Go.Proofs.YtmeaeeehnkcblaaDoor

namespace Go.Proofs.YtmeaeeehnkcblaaDoor
open Go.RowKit
set_option maxRecDepth 20000
theorem rblock_gen (s : S8) (A : Option Addr) (c : Nat) (b : List Int) (w : World) (hok : s.Ok) (hb : Byt w w.heap.size A 64 b) (hc : 64 ≤ c) (hc2 : c ≤ maxLen) :
    Calls Tryd.prog 72 #[.agg s.cells, .slice A 64 c] w fun e w' => e = .returned (.agg (blockF s b).cells) ∧ Below w.heap.size w w' := by
  obtain ⟨b', o', x, rfl, _⟩ := hb.at' (k := 0) (by omega)
  exact rblock_any s hok b' o' c b w hb hc hc2
theorem rsum_all (A : Option Addr) (n c : Nat) (l : List Int) (w : World) (hb : Byt w w.heap.size A n l) (hlim : n + 100 ≤ 140737488355328) :
    Calls Tryd.prog 57 #[.slice A n c] w fun e w' => ∃ A' c', e = .returned (.slice A' 32 c') ∧ 32 ≤ c' ∧ c' ≤ maxLen ∧ w'.ownsRow w.heap.size 5 1 (.slice A' 32 c') 32 (bv (shaF l)) ∧ Below w.heap.size w w' :=
  rsum_any rblock_gen A n c l w hb hlim
end Go.Proofs.YtmeaeeehnkcblaaDoor

namespace Go.Proofs.YtmeaeeehnkcblaaDoor
open Go.RowKit
set_option maxRecDepth 20000
theorem byt_nil (w : World) : Byt w w.heap.size none 0 [] := ⟨⟨rfl, fun h => absurd h (by omega)⟩, Bs.nil⟩
theorem eq_true {f : FuncId} {vs : Array Value} {w : World} {l : List Int} {P : Program} (h : Calls P f vs w fun e w' => e = .returned (.bool (eqB l l)) ∧ ∃ q, w' = w.drewN q) : Calls P f vs w fun e w' => e = .returned (.bool true) ∧ Below w.heap.size w w' :=
  h.mono fun e w' ⟨he, q, hq⟩ => ⟨by rw [he, show eqB l l = true from decide_eq_true rfl], by subst hq; exact below_drewN (Below.refl _ _) q⟩
theorem nmSum : (Tryd.f54.name == "runtime.NumGoroutine") = false := by decide
theorem bdSum : Tryd.f54.body.isNone = false := rfl
theorem nmRSum : (Tryd.f57.name == "runtime.NumGoroutine") = false := by decide
theorem bdRSum : Tryd.f57.body.isNone = false := rfl
theorem nmEqual : (Tryd.f16.name == "runtime.NumGoroutine") = false := by decide
theorem bdEqual : Tryd.f16.body.isNone = false := rfl
end Go.Proofs.YtmeaeeehnkcblaaDoor

namespace Go.Proofs.YtmeaeeehnkcblaaDoor
open Go.RowKit
set_option maxRecDepth 20000
theorem mzero64 (w : World) : (zeroValue 91).run Tryd.prog w = .ok (.agg (List.replicate 64 (Value.int .u8 0)).toArray) w := by kernel_rfl
theorem row2s (A B : Option Addr) (n c m d : Nat) (w : World) : (Instr.buildSlice 40 2 #[(0, .slice A n c), (1, .slice B m d)]).run Tryd.prog w = .ok (.slice (some ⟨w.heap.size, 0, none⟩) 2 2) (w.alloc (.cells #[.slice A n c, .slice B m d] 28)) := by kernel_rfl
theorem concat2 (g c : Nat) (A1 : Option Addr) (n1 c1 : Nat) (A2 : Option Addr) (n2 c2 : Nat) (l1 l2 : List Int) (w : World) (hs : Reads w w.heap.size 1 (some ⟨g, 0, none⟩) 2 [.slice A1 n1 c1, .slice A2 n2 c2]) (h1 : Byt w w.heap.size A1 n1 l1) (h2 : Byt w w.heap.size A2 n2 l2) (hlim : n1 + n2 ≤ 140737488355328) :
  Calls Tryd.prog 58 #[.slice (some ⟨g, 0, none⟩) 2 c] w fun e w' => ∃ A' c', e = .returned (.slice A' (n1 + n2) c') ∧ n1 + n2 ≤ c' ∧ c' ≤ maxLen ∧ w'.ownsRow w.heap.size 5 1 (.slice A' (n1 + n2) c') (n1 + n2) (bv (l1 ++ l2)) ∧ Below w.heap.size w w' := by
 have hs1 : sumN [⟨A1, n1, c1, l1⟩, ⟨A2, n2, c2, l2⟩] 2 = n1 + n2 := by simp [sumN]
 have hs2 : catL [⟨A1, n1, c1, l1⟩, ⟨A2, n2, c2, l2⟩] 2 = l1 ++ l2 := by simp [catL]
 have h := concat_any [⟨A1, n1, c1, l1⟩, ⟨A2, n2, c2, l2⟩] g 2 c w hs (by
  intro s hs
  simp only [List.mem_cons, List.not_mem_nil, or_false] at hs
  rcases hs with rfl | rfl
  ·exact h1
  ·exact h2) (by rw [hs1]; exact hlim) (by decide)
 rw [hs1, hs2] at h
 exact h
theorem nmConc : (Tryd.f58.name == "runtime.NumGoroutine") = false := by decide
theorem bdConc : Tryd.f58.body.isNone = false := rfl
set_option maxRecDepth 100000 in
theorem mac_any (A0 : Option Addr) (n0 c0 : Nat) (l0 : List Int) (A1 : Option Addr) (n1 c1 : Nat) (l1 : List Int) (w : World) (hb0 : Byt w w.heap.size A0 n0 l0) (hb1 : Byt w w.heap.size A1 n1 l1) (hlim0 : n0 + 1000 ≤ 140737488355328) (hlim1 : n1 + 1000 ≤ 140737488355328) {ts tk : TypeId} (hst : Blk w 0 ts start8.cells) (hky : Blk w 1 tk (arrOf keysL)) :
  Calls Tryd.prog 30 #[.slice A0 n0 c0, .slice A1 n1 c1] w fun e w' => ∃ A' c', e = .returned (.slice A' 32 c') ∧ 32 ≤ c' ∧ c' ≤ maxLen ∧ w'.ownsRow w.heap.size 5 1 (.slice A' 32 c') 32 (bv (macF l0 l1)) ∧ Below w.heap.size w w' := by
 refine begin_ (vs := [.slice A0 n0 c0, .slice A1 n1 c1]) Tryd.func30 rfl rfl rfl ?_ (Pm.start w)
 refine TC.seq_ (TC.region ?_)
 refine TL.as_ ?_
 refine TL.end_ (TX.then_ ?_)
 refine TC.join (α := {x : Sl × List Pc // x.1.l = macKey l0 ∧ ∀ w1, Pm w x.2 w1 → Byt w1 w1.heap.size x.1.A x.1.n x.1.l}) (fun x => [(0, x.1.1.val), (1, .slice A1 n1 c1)]) (fun x => Pm w x.1.2) ?_ ?_
 ·refine TC.seq_ (TC.region ?_)
  refine TL.mv ?_
  refine TL.val rfl rfl rfl (gives_len rfl Tryd.underlying28 rfl) ?_
  refine TL.val rfl rfl rfl (gives_bin rfl rfl rfl (fun w => bin_gtr w)) ?_
  refine TL.end_ (TX.then_ ?_)
  refine TC.split rfl (fun hc11 => ?_) (fun hc11 => ?_)
  ·refine TC.region ?_
   refine TL.mv ?_
   refine TL.pcallRow (n := 32) (ys := bv (shaF (l0))) rfl rfl rfl rfl rfl Tryd.func54 nmSum bdSum (fun w1 hw => sum_any A0 (n0) c0 (l0) w1 ((hb0.below hw.bel).more hw.bel.size) (by omega) (hst.below hw.bel hst.lt) (hky.below hw.bel hky.lt)) (fun A2 c2 hA21 hA22 => ?_)
   refine TL.as_ ?_
   refine TL.end_ ?_
   exact TX.joined (⟨(⟨A2, 32, c2, shaF l0⟩, [.row (.slice A2 32 c2) 5 1 32 (bv (shaF l0))]), by have := of_decide_eq_true hc11; exact (if_pos (by rw [hb0.len]; omega)).symm, fun w1 hw => byt_own (hw.at_ (k := 0) rfl) (shaF_bs _)⟩) (⟨rfl, rfl, trivial⟩) (fun w hw => hw)
  ·refine TC.skip_ ?_
   exact TX.joined (⟨(⟨A0, n0, c0, l0⟩, []), by have := of_decide_eq_false hc11; exact (if_neg (by rw [hb0.len]; omega)).symm, fun w1 hw => (hb0.below hw.bel).more hw.bel.size⟩) (⟨rfl, rfl, trivial⟩) (fun w hw => hw)
 ·rintro ⟨⟨⟨A, n, c, l⟩, X⟩, hl, hX⟩
  dsimp only at hl hX ⊢
  subst hl
  refine TC.fact (p := (macKey l0).length = n) (fun w1 hw => (hX w1 hw).len) (fun hln => ?_)
  have hn64 := macKey_le l0
  rw [hln] at hn64
  have hp : (padK (macKey l0)).length = 64 := padK_len _ (by omega)
  refine TC.seq_ (TC.region ?_)
  refine TL.pnew rfl rfl rfl (exec_alloc (cs := List.replicate 64 (.int .u8 0)) rfl mzero64 rfl) (fun g5 => ?_)
  refine TL.pnew rfl rfl rfl (exec_alloc (cs := List.replicate 64 (.int .u8 0)) rfl mzero64 rfl) (fun g6 => ?_)
  refine TL.end_ (TX.then_ (TC.seq_ (TC.seq_ (TC.region ?_))))
  refine TL.mv ?_
  refine TL.end_ (TX.then_ (TC.block ?_))
  refine TC.loop_ (α := {i : Nat // i ≤ 64}) (fun x => [(0, .slice A n c), (1, .slice A1 n1 c1), (5, .pointer (some ⟨g5, 0, none⟩)), (6, .pointer (some ⟨g6, 0, none⟩)), (14, .int .i64 (x.1 : Int))]) (fun x => Pm w (.blk g6 91 (arr64 (xorL (padK (macKey l0)) 92) x.1) :: .blk g5 91 (arr64 (xorL (padK (macKey l0)) 54) x.1) :: X)) (fun x => 64 - x.1) (⟨0, Nat.zero_le _⟩) ⟨rfl, rfl, rfl, rfl, rfl, trivial⟩ (fun w hw => by rw [← arr64_zero, ← arr64_zero]; exact hw) ?_
  rintro ⟨i, hi⟩
  dsimp only at hi ⊢
  refine TC.seq_ (TC.region ?_)
  refine TL.val rfl rfl rfl (gives_bin rfl rfl rfl (fun w => bin_lss w)) ?_
  refine TL.end_ (TX.then_ (TC.seq_ ?_))
  refine TC.split rfl (fun hc15 => ?_) (fun hc15 => ?_)
  ·have hi2 : i < 64 := by have := of_decide_eq_true hc15; omega
   refine TC.skip_ (TX.then_ (TC.seq_ (TC.block (TC.seq_ (TC.region ?_)))))
   refine TL.mv ?_
   refine TL.as_ ?_
   refine TL.end_ (TX.then_ (TC.seq_ (TC.region ?_)))
   refine TL.as_ ?_
   refine TL.end_ (TX.then_ ?_)
   refine TC.join (α := Unit) (fun _ => [(0, .slice A n c), (1, .slice A1 n1 c1), (5, .pointer (some ⟨g5, 0, none⟩)), (6, .pointer (some ⟨g6, 0, none⟩)), (7, .int .i64 (i : Int)), (14, .int .i64 (i : Int)), (8, .int .u8 ((padK (macKey l0)).getD i 0))]) (fun _ => Pm w (.blk g6 91 (arr64 (xorL (padK (macKey l0)) 92) i) :: .blk g5 91 (arr64 (xorL (padK (macKey l0)) 54) i) :: X)) ?_ ?_
   ·refine TC.seq_ (TC.region ?_)
    refine TL.mv ?_
    refine TL.mv ?_
    refine TL.val rfl rfl rfl (gives_len rfl Tryd.underlying28 rfl) ?_
    refine TL.val rfl rfl rfl (gives_bin rfl rfl rfl (fun w => bin_lss w)) ?_
    refine TL.end_ (TX.then_ ?_)
    refine TC.split rfl (fun hc20 => ?_) (fun hc20 => ?_)
    ·have hi3 : i < n := by have := of_decide_eq_true hc20; omega
     refine TC.fact (p := ∃ b o, A = some ⟨b, o, none⟩) (fun w1 hw => by obtain ⟨b, o, x, h, _⟩ := (hX w1 (Pm.tail (Pm.tail hw))).at' (k := i) hi3; exact ⟨b, o, h⟩) (fun hA => ?_)
     obtain ⟨b, o, rfl⟩ := hA
     obtain ⟨y, hy⟩ : ∃ y, (macKey l0)[i]? = some y := ⟨_, List.getElem?_eq_getElem (by omega)⟩
     refine TC.region ?_
     refine TL.mv ?_
     refine TL.mv ?_
     refine TL.val rfl rfl rfl (gives_at rfl rfl rfl (fun w => at_u8 b o n c i hi3 w)) ?_
     refine TL.val rfl rfl rfl (gives_load rfl rfl (fun w => rfl) (fun w1 hw => byt_cell_eq (hX w1 (Pm.tail (Pm.tail hw))) hi3 hy)) ?_
     refine TL.as_ ?_
     refine TL.end_ ?_
     exact TX.joined (()) (⟨rfl, rfl, rfl, rfl, rfl, rfl, by rw [padK_at _ hy]; rfl, trivial⟩) (fun w hw => hw)
    ·refine TC.skip_ ?_
     exact TX.joined (()) (⟨rfl, rfl, rfl, rfl, rfl, rfl, by rw [padK_out _ (by have := of_decide_eq_false hc20; omega)]; rfl, trivial⟩) (fun w hw => hw)
   ·rintro _
    refine TC.region ?_
    refine TL.mv ?_
    refine TL.mv ?_
    refine TL.mv ?_
    refine TL.val rfl rfl rfl (gives_bin rfl rfl rfl (fun w => bin_bits (.inr (.inr rfl)) w)) ?_
    refine TL.mv ?_
    refine TL.val rfl rfl rfl (gives_bin rfl rfl rfl (fun w => bin_bits (.inr (.inr rfl)) w)) ?_
    refine TL.val rfl rfl rfl (gives_at rfl rfl rfl (fun w => at_arr Tryd.underlying91 (fun w => rfl) _ 0 _ i hi2 w)) ?_
    refine TL.pstore (k := 1) (vs := [.int .u8 (bits .xor .u8 ((padK (macKey l0)).getD i 0) 54)]) rfl rfl rfl rfl rfl rfl rfl (fun w => rfl) (by intro u hu; simp only [List.mem_cons, List.not_mem_nil, or_false] at hu; subst hu; rfl) (by rw [arr64_len _ (by rw [xorL_len]; exact hp) hi]; show 0 + i + 1 ≤ 64; omega) (L' := .blk g6 91 (arr64 (xorL (padK (macKey l0)) 92) i) :: .blk g5 91 (arr64 (xorL (padK (macKey l0)) 54) (i + 1)) :: X) (congrArg (fun z => Pc.blk g6 91 (arr64 (xorL (padK (macKey l0)) 92) i) :: Pc.blk g5 91 z :: X) (arr64_put _ (by rw [xorL_len]; exact hp) (xorL_at _ _ (by omega)))) ?_
    refine TL.val rfl rfl rfl (gives_at rfl rfl rfl (fun w => at_arr Tryd.underlying91 (fun w => rfl) _ 0 _ i hi2 w)) ?_
    refine TL.pstore (k := 0) (vs := [.int .u8 (bits .xor .u8 ((padK (macKey l0)).getD i 0) 92)]) rfl rfl rfl rfl rfl rfl rfl (fun w => rfl) (by intro u hu; simp only [List.mem_cons, List.not_mem_nil, or_false] at hu; subst hu; rfl) (by rw [arr64_len _ (by rw [xorL_len]; exact hp) hi]; show 0 + i + 1 ≤ 64; omega) (L' := .blk g6 91 (arr64 (xorL (padK (macKey l0)) 92) (i + 1)) :: .blk g5 91 (arr64 (xorL (padK (macKey l0)) 54) (i + 1)) :: X) (congrArg (fun z => Pc.blk g6 91 z :: Pc.blk g5 91 (arr64 (xorL (padK (macKey l0)) 54) (i + 1)) :: X) (arr64_put _ (by rw [xorL_len]; exact hp) (xorL_at _ _ (by omega)))) ?_
    refine TL.end_ (TX.in_normal (TX.then_ (TC.region ?_)))
    refine TL.val rfl rfl rfl (gives_bin rfl rfl rfl (fun w => bin_add_ (r := ((i + 1 : Nat) : Int)) (by simp only [IntKind.wrap_i64]; omega) w)) ?_
    refine TL.mv ?_
    refine TL.end_ ?_
    exact TX.round (⟨i + 1, hi2⟩) (by show 64 - (i + 1) < 64 - i; omega) ⟨rfl, rfl, rfl, rfl, rfl, trivial⟩ (fun w hw => hw)
  ·have hi2 : i = 64 := by have := of_decide_eq_false hc15; omega
   subst hi2
   refine TC.mem (I' := Pm w (.blk g6 91 (bv (xorL (padK (macKey l0)) 92)) :: .blk g5 91 (bv (xorL (padK (macKey l0)) 54)) :: X)) (fun w hw => by rw [arr64_all _ (by rw [xorL_len]; exact hp), arr64_all _ (by rw [xorL_len]; exact hp)] at hw; exact hw) ?_
   refine TC.exit_ (TX.then_exit (TX.then_exit (TX.in_same (TX.then_ (TC.seq_ ?_)))))
   refine TC.held (ls := #[Ff,Ff,Ff,Ff,Ff,Ff,Ff,Ff,Ff,Ff]) (fun _ => True) (by kernel_rfl) rfl rfl (fun w hw => hw.drawn _) ?_
   refine TH.tk (listed' := #[Tt,Ff,Ff,Ff,Ff,Ff,Ff,Ff,Ff,Ff]) 0 rfl rfl rfl (gives_whole (n := 64) rfl rfl Tryd.underlying91 (by kernel_rfl) (fun w => rfl)) (fun w hw => trivial) ?_
   refine TH.tk (listed' := #[Tt,Tt,Ff,Ff,Ff,Ff,Ff,Ff,Ff,Ff]) 1 rfl rfl rfl (gives_whole (n := 64) rfl rfl Tryd.underlying91 (by kernel_rfl) (fun w => rfl)) (fun w hw => trivial) ?_
   refine TH.tk (listed' := #[Tt,Tt,Tt,Ff,Ff,Ff,Ff,Ff,Ff,Ff]) 2 rfl rfl rfl (gives_move rfl rfl) (fun w hw => trivial) ?_
   refine TH.only (listed' := #[Tt,Tt,Tt,Tt,Ff,Ff,Ff,Ff,Ff,Ff]) 3 rfl (by kernel_rfl) rfl rfl ?_
   refine TL.prow (cs := [.slice (some ⟨g5, 0, none⟩) 64 64, .slice A1 n1 c1]) rfl rfl rfl rfl rfl (fun w => row2s _ _ _ _ _ _ w) (by decide) rfl (fun g7 => ?_)
   refine TL.end_ ?_
   refine TX.held (fun w hw => trivial) ?_
   refine TH.only (listed' := #[Tt,Tt,Tt,Tt,Tt,Ff,Ff,Ff,Ff,Ff]) 4 rfl (by kernel_rfl) rfl rfl ?_
   refine TL.pcallRow (n := 64 + n1) (ys := bv ((xorL (padK (macKey l0)) 54) ++ l1)) rfl rfl rfl rfl rfl Tryd.func58 nmConc bdConc (fun w1 hw => concat2 g7 2 _ 64 64 _ n1 _ (xorL (padK (macKey l0)) 54) l1 w1 (Reads.of_own (hw.at_ (k := 0) rfl)) (byt_blk (hw.at_ (k := 2) rfl).1 (xorL_bs _ _) (by rw [xorL_len]; exact hp)) ((hb1.below hw.bel).more hw.bel.size) (by omega)) (fun A3 c3 hA31 hA32 => ?_)
   refine TL.end_ ?_
   refine TX.held (fun w hw => trivial) ?_
   refine TH.only (listed' := #[Tt,Tt,Tt,Tt,Tt,Tt,Ff,Ff,Ff,Ff]) 5 rfl (by kernel_rfl) rfl rfl ?_
   refine TL.pcallRow (n := 32) (ys := bv (shaF ((xorL (padK (macKey l0)) 54) ++ l1))) rfl rfl rfl rfl rfl Tryd.func54 nmSum bdSum (fun w1 hw => sum_any A3 (64 + n1) c3 ((xorL (padK (macKey l0)) 54) ++ l1) w1 (byt_own (hw.at_ (k := 0) rfl) ((xorL_bs _ _).app hb1.2)) (by omega) (hst.below hw.bel hst.lt) (hky.below hw.bel hky.lt)) (fun A4 c4 hA41 hA42 => ?_)
   refine TL.end_ ?_
   refine TX.held (fun w hw => trivial) ?_
   refine TH.only (listed' := #[Tt,Tt,Tt,Tt,Tt,Tt,Tt,Ff,Ff,Ff]) 6 rfl (by kernel_rfl) rfl rfl ?_
   refine TL.prow (cs := [.slice (some ⟨g6, 0, none⟩) 64 64, .slice A4 32 c4]) rfl rfl rfl rfl rfl (fun w => row2s _ _ _ _ _ _ w) (by decide) rfl (fun g8 => ?_)
   refine TL.end_ ?_
   refine TX.held (fun w hw => trivial) ?_
   refine TH.only (listed' := #[Tt,Tt,Tt,Tt,Tt,Tt,Tt,Tt,Ff,Ff]) 7 rfl (by kernel_rfl) rfl rfl ?_
   refine TL.pcallRow (n := 64 + 32) (ys := bv ((xorL (padK (macKey l0)) 92) ++ (shaF ((xorL (padK (macKey l0)) 54) ++ l1)))) rfl rfl rfl rfl rfl Tryd.func58 nmConc bdConc (fun w1 hw => concat2 g8 2 _ 64 64 _ 32 _ (xorL (padK (macKey l0)) 92) (shaF ((xorL (padK (macKey l0)) 54) ++ l1)) w1 (Reads.of_own (hw.at_ (k := 0) rfl)) (byt_blk (hw.at_ (k := 4) rfl).1 (xorL_bs _ _) (by rw [xorL_len]; exact hp)) (byt_own (hw.at_ (k := 1) rfl) (shaF_bs _)) (by omega)) (fun A5 c5 hA51 hA52 => ?_)
   refine TL.end_ ?_
   refine TX.held (fun w hw => trivial) ?_
   refine TH.only (listed' := #[Tt,Tt,Tt,Tt,Tt,Tt,Tt,Tt,Tt,Ff]) 8 rfl (by kernel_rfl) rfl rfl ?_
   refine TL.pcallRow (n := 32) (ys := bv (shaF ((xorL (padK (macKey l0)) 92) ++ shaF ((xorL (padK (macKey l0)) 54) ++ l1)))) rfl rfl rfl rfl rfl Tryd.func54 nmSum bdSum (fun w1 hw => sum_any A5 (64 + 32) c5 ((xorL (padK (macKey l0)) 92) ++ shaF ((xorL (padK (macKey l0)) 54) ++ l1)) w1 (byt_own (hw.at_ (k := 0) rfl) ((xorL_bs _ _).app (shaF_bs _))) (by decide) (hst.below hw.bel hst.lt) (hky.below hw.bel hky.lt)) (fun A6 c6 hA61 hA62 => ?_)
   refine TL.end_ ?_
   refine TX.held (fun w hw => trivial) ?_
   refine TH.tk (listed' := #[Tt,Tt,Tt,Tt,Tt,Tt,Tt,Tt,Tt,Tt]) 9 rfl rfl rfl (gives_assign rfl rfl) (fun w hw => trivial) ?_
   refine TH.done (by kernel_rfl) ?_
   refine TX.then_ (TC.ret_ ?_)
   exact pm_ret_row (k := 0) Tryd.results30 rfl rfl (fun w1 hown hbel => ⟨A6, c6, rfl, hA61, hA62, hown, hbel⟩)
set_option maxRecDepth 100000 in
theorem rmac_any (A0 : Option Addr) (n0 c0 : Nat) (l0 : List Int) (A1 : Option Addr) (n1 c1 : Nat) (l1 : List Int) (w : World) (hb0 : Byt w w.heap.size A0 n0 l0) (hb1 : Byt w w.heap.size A1 n1 l1) (hlim0 : n0 + 1000 ≤ 140737488355328) (hlim1 : n1 + 1000 ≤ 140737488355328) :
  Calls Tryd.prog 29 #[.slice A0 n0 c0, .slice A1 n1 c1] w fun e w' => ∃ A' c', e = .returned (.slice A' 32 c') ∧ 32 ≤ c' ∧ c' ≤ maxLen ∧ w'.ownsRow w.heap.size 5 1 (.slice A' 32 c') 32 (bv (macF l0 l1)) ∧ Below w.heap.size w w' := by
 refine begin_ (vs := [.slice A0 n0 c0, .slice A1 n1 c1]) Tryd.func29 rfl rfl rfl ?_ (Pm.start w)
 refine TC.seq_ (TC.region ?_)
 refine TL.as_ ?_
 refine TL.end_ (TX.then_ (TC.seq_ (TC.region ?_)))
 refine TL.mv ?_
 refine TL.nilrow 5 1 ?_
 refine TL.append (k := 0) rfl rfl rfl rfl elU8 rfl rfl rfl (fun w hw => pm_byt hw hb0) (bv_one l0) (by rw [Nat.mul_one]; omega) n0 (by omega) (fun A2 c2 hA21 hA22 => ?_)
 refine TL.as_ ?_
 refine TL.end_ (TX.then_ ?_)
 refine TC.join (α := {x : Sl // x.l = macKey l0 ∧ x.l.length = x.n ∧ x.n ≤ x.c ∧ x.c ≤ maxLen}) (fun x => [(5, x.1.val), (1, .slice A1 n1 c1)]) (fun x => Pm w [.row x.1.val 5 1 x.1.n (bv x.1.l)]) ?_ ?_
 ·refine TC.seq_ (TC.region ?_)
  refine TL.mv ?_
  refine TL.val rfl rfl rfl (gives_len rfl Tryd.underlying28 rfl) ?_
  refine TL.val rfl rfl rfl (gives_bin rfl rfl rfl (fun w => bin_gtr w)) ?_
  refine TL.end_ (TX.then_ ?_)
  refine TC.split rfl (fun hc13 => ?_) (fun hc13 => ?_)
  ·refine TC.region ?_
   refine TL.mv ?_
   refine TL.pcallRow (n := 32) (ys := bv (shaF (l0))) rfl rfl rfl rfl rfl Tryd.func57 nmRSum bdRSum (fun w1 hw => rsum_all A2 (n0) c2 (l0) w1 (byt_own (hw.at_ (k := 0) rfl) hb0.2) (by omega)) (fun A3 c3 hA31 hA32 => ?_)
   refine TL.as_ ?_
   refine TL.end_ ?_
   exact TX.joined (⟨⟨A3, 32, c3, shaF l0⟩, by have := of_decide_eq_true hc13; exact (if_pos (by rw [hb0.len]; omega)).symm, shaF_len _, hA31, hA32⟩) (⟨rfl, rfl, trivial⟩) (fun w hw => hw.sel (.cons_cons _ (List.nil_sublist _)))
  ·refine TC.skip_ ?_
   exact TX.joined (⟨⟨A2, n0, c2, l0⟩, by have := of_decide_eq_false hc13; exact (if_neg (by rw [hb0.len]; omega)).symm, hb0.len, hA21, hA22⟩) (⟨rfl, rfl, trivial⟩) (fun w hw => hw)
 ·rintro ⟨⟨A, n, c, l⟩, hl, hln, hcc⟩
  dsimp only at hl hln hcc ⊢
  subst hl
  have hn64 := macKey_le l0
  rw [hln] at hn64
  have hp : (padK (macKey l0)).length = 64 := padK_len _ (by omega)
  refine TC.seq_ (TC.block ?_)
  refine TC.loop_ (α := {x : Nat × Option Addr × Nat // x.1 ≤ 64 - n ∧ n + x.1 ≤ x.2.2 ∧ x.2.2 ≤ maxLen}) (fun x => [(5, .slice x.1.2.1 (n + x.1.1) x.1.2.2), (1, .slice A1 n1 c1)]) (fun x => Pm w [.row (.slice x.1.2.1 (n + x.1.1) x.1.2.2) 5 1 (n + x.1.1) (bv (macKey l0 ++ zeroL x.1.1))]) (fun x => 64 - n - x.1.1) (⟨(0, A, c), Nat.zero_le _, hcc⟩) ⟨rfl, rfl, trivial⟩ (fun w hw => by rw [show macKey l0 ++ zeroL 0 = macKey l0 from List.append_nil _]; exact hw) ?_
  rintro ⟨⟨z, A, c⟩, hz, hcc⟩
  dsimp only at hz hcc ⊢
  refine TC.seq_ (TC.seq_ (TC.region ?_))
  refine TL.mv ?_
  refine TL.val rfl rfl rfl (gives_len rfl Tryd.underlying28 rfl) ?_
  refine TL.val rfl rfl rfl (gives_bin rfl rfl rfl (fun w => bin_lss w)) ?_
  refine TL.end_ (TX.then_ ?_)
  refine TC.split rfl (fun hc18 => ?_) (fun hc18 => ?_)
  ·have hz2 : z < 64 - n := by have := of_decide_eq_true hc18; omega
   refine TC.skip_ (TX.then_ (TC.block (TC.region ?_)))
   refine TL.mv ?_
   refine TL.prow (cs := [.int .u8 0]) rfl rfl rfl rfl rfl (fun w => row1 _ w) (by decide) rfl (fun g2 => ?_)
   refine TL.append (k := 1) rfl rfl rfl rfl elU8 rfl rfl rfl (fun w hw => pm_reads hw (k := 0) rfl) (one1b _) (by rw [Nat.mul_one]; omega) (n + (z + 1)) (by omega) (fun A4 c4 hA41 hA42 => ?_)
   refine TL.as_ ?_
   refine TL.end_ (TX.in_normal ?_)
   exact TX.round (⟨(z + 1, A4, c4), hz2, hA41, hA42⟩) (by show 64 - n - (z + 1) < 64 - n - z; omega) ⟨rfl, rfl, trivial⟩ (fun w hw => by have h := Pm.tail hw; rw [show macKey l0 ++ zeroL (z + 1) = macKey l0 ++ zeroL z ++ [0] by rw [List.append_assoc, zeroL, zeroL, List.replicate_succ'], bv_append]; exact h)
  ·have hz2 : z = 64 - n := by have := of_decide_eq_false hc18; omega
   subst hz2
   have hnz : n + (64 - n) = 64 := by omega
   refine TC.cut [(5, .slice A 64 c), (1, .slice A1 n1 c1)] (Pm w [.row (.slice A 64 c) 5 1 (64) (bv (padK (macKey l0)))]) ⟨by rw [hnz]; rfl, rfl, trivial⟩ (fun w hw => by rw [hnz] at hw; unfold padK; rw [hln]; exact hw) ?_
   refine TC.fact (p := ∃ gk, A = some ⟨gk, 0, none⟩) (fun w1 hw => row_some (hw.at_ (k := 0) rfl) (by omega)) (fun hgk => ?_)
   obtain ⟨gk, rfl⟩ := hgk
   refine TC.exit_ (TX.then_exit (TX.then_exit (TX.in_same (TX.then_ ?_))))
   refine TC.join (α := Nat × Nat) (fun x => [(5, .slice (some ⟨gk, 0, none⟩) 64 c), (1, .slice A1 n1 c1), (6, .slice (some ⟨x.1, 0, none⟩) 64 64), (7, .slice (some ⟨x.2, 0, none⟩) 64 64)]) (fun x => Pm w [.row (.slice (some ⟨x.2, 0, none⟩) 64 64) 5 1 (64) (List.replicate 64 (.int .u8 0)), .row (.slice (some ⟨x.1, 0, none⟩) 64 64) 5 1 (64) (List.replicate 64 (.int .u8 0)), .row (.slice (some ⟨gk, 0, none⟩) 64 c) 5 1 (64) (bv (padK (macKey l0)))]) ?_ ?_
   ·refine TC.held (ls := #[Ff,Ff,Ff,Ff]) (fun _ => True) (by kernel_rfl) rfl rfl (fun w hw => hw.drawn _) ?_
    refine TH.two (listed1 := #[Tt,Ff,Ff,Ff]) (listed2 := #[Ff,Tt,Ff,Ff]) 0 1 rfl rfl (by kernel_rfl) rfl rfl rfl rfl ?_ ?_
    ·refine TL.mkrow (m := 64) rfl rfl rfl rfl rfl rfl elU8 (z := .int .u8 0) (by kernel_rfl) (zs := List.replicate 64 (.int .u8 0)) (made_one _ rfl 64) (by decide) (fun g6 => ?_)
     refine TL.end_ ?_
     refine TX.held (fun w hw => trivial) ?_
     refine TH.tk (listed' := #[Tt,Ff,Tt,Ff]) 2 rfl rfl rfl (gives_assign rfl rfl) (fun w hw => trivial) ?_
     refine TH.only (listed' := #[Tt,Tt,Tt,Ff]) 1 rfl (by kernel_rfl) rfl rfl ?_
     refine TL.mkrow (m := 64) rfl rfl rfl rfl rfl rfl elU8 (z := .int .u8 0) (by kernel_rfl) (zs := List.replicate 64 (.int .u8 0)) (made_one _ rfl 64) (by decide) (fun g7 => ?_)
     refine TL.end_ ?_
     refine TX.held (fun w hw => trivial) ?_
     refine TH.tk (listed' := #[Tt,Tt,Tt,Tt]) 3 rfl rfl rfl (gives_assign rfl rfl) (fun w hw => trivial) ?_
     refine TH.done (by kernel_rfl) ?_
     exact TX.joined ((g6, g7)) (⟨rfl, rfl, rfl, rfl, trivial⟩) (fun w hw => hw)
    ·refine TL.mkrow (m := 64) rfl rfl rfl rfl rfl rfl elU8 (z := .int .u8 0) (by kernel_rfl) (zs := List.replicate 64 (.int .u8 0)) (made_one _ rfl 64) (by decide) (fun g7 => ?_)
     refine TL.end_ ?_
     refine TX.held (fun w hw => trivial) ?_
     refine TH.only (listed' := #[Tt,Tt,Ff,Ff]) 0 rfl (by kernel_rfl) rfl rfl ?_
     refine TL.mkrow (m := 64) rfl rfl rfl rfl rfl rfl elU8 (z := .int .u8 0) (by kernel_rfl) (zs := List.replicate 64 (.int .u8 0)) (made_one _ rfl 64) (by decide) (fun g6 => ?_)
     refine TL.end_ ?_
     refine TX.held (fun w hw => trivial) ?_
     refine TH.tk (listed' := #[Tt,Tt,Tt,Ff]) 2 rfl rfl rfl (gives_assign rfl rfl) (fun w hw => trivial) ?_
     refine TH.tk (listed' := #[Tt,Tt,Tt,Tt]) 3 rfl rfl rfl (gives_assign rfl rfl) (fun w hw => trivial) ?_
     refine TH.done (by kernel_rfl) ?_
     exact TX.joined ((g6, g7)) (⟨rfl, rfl, rfl, rfl, trivial⟩) (fun w hw => hw.swap)
   ·rintro ⟨g6, g7⟩
    dsimp only
    refine TC.seq_ (TC.seq_ (TC.region ?_))
    refine TL.as_ ?_
    refine TL.end_ (TX.then_ (TC.block ?_))
    refine TC.loop_ (α := {i : Nat // i ≤ 64}) (fun x => [(5, .slice (some ⟨gk, 0, none⟩) 64 c), (1, .slice A1 n1 c1), (6, .slice (some ⟨g6, 0, none⟩) 64 64), (7, .slice (some ⟨g7, 0, none⟩) 64 64), (8, .int .i64 (x.1 : Int))]) (fun x => Pm w [.row (.slice (some ⟨g7, 0, none⟩) 64 64) 5 1 (64) (arr64 (xorL (padK (macKey l0)) 92) x.1), .row (.slice (some ⟨g6, 0, none⟩) 64 64) 5 1 (64) (arr64 (xorL (padK (macKey l0)) 54) x.1), .row (.slice (some ⟨gk, 0, none⟩) 64 c) 5 1 (64) (bv (padK (macKey l0)))]) (fun x => 64 - x.1) (⟨0, Nat.zero_le _⟩) ⟨rfl, rfl, rfl, rfl, rfl, trivial⟩ (fun w hw => by rw [← arr64_zero, ← arr64_zero]; exact hw) ?_
    rintro ⟨i, hi⟩
    dsimp only at hi ⊢
    refine TC.seq_ (TC.seq_ (TC.region ?_))
    refine TL.mv ?_
    refine TL.val rfl rfl rfl (gives_bin rfl rfl rfl (fun w => bin_lss w)) ?_
    refine TL.end_ (TX.then_ ?_)
    refine TC.split rfl (fun hc25 => ?_) (fun hc25 => ?_)
    ·have hi2 : i < 64 := by have := of_decide_eq_true hc25; omega
     have hy : (bv (padK (macKey l0)))[0 + i]? = some (.int .u8 ((padK (macKey l0)).getD i 0)) := by rw [Nat.zero_add]; simp only [bv, List.getElem?_map, List.getD_eq_getElem?_getD]; rw [List.getElem?_eq_getElem (by omega)]; rfl
     refine TC.skip_ (TX.then_ (TC.seq_ (TC.block ?_)))
     refine TC.held (ls := #[Ff,Ff,Ff,Ff,Ff,Ff,Ff,Ff,Ff,Ff,Ff,Ff,Ff,Ff,Ff,Ff,Ff,Ff]) (Pm w [.row (.slice (some ⟨gk, 0, none⟩) 64 c) 5 1 (64) (bv (padK (macKey l0)))]) (by kernel_rfl) rfl rfl (fun w hw => hw.drawn _) ?_
     refine TH.tk (listed' := #[Tt,Ff,Ff,Ff,Ff,Ff,Ff,Ff,Ff,Ff,Ff,Ff,Ff,Ff,Ff,Ff,Ff,Ff]) 0 rfl rfl rfl (gives_move rfl rfl) (fun w hw => hw.sel (.cons _ (.cons _ (.cons_cons _ (List.nil_sublist _))))) ?_
     refine TH.tk (listed' := #[Tt,Tt,Ff,Ff,Ff,Ff,Ff,Ff,Ff,Ff,Ff,Ff,Ff,Ff,Ff,Ff,Ff,Ff]) 1 rfl rfl rfl (gives_move rfl rfl) (fun w hw => hw.sel (.cons _ (.cons _ (.cons_cons _ (List.nil_sublist _))))) ?_
     refine TH.tk (listed' := #[Tt,Tt,Tt,Ff,Ff,Ff,Ff,Ff,Ff,Ff,Ff,Ff,Ff,Ff,Ff,Ff,Ff,Ff]) 2 rfl rfl rfl (gives_move rfl rfl) (fun w hw => hw.sel (.cons _ (.cons _ (.cons_cons _ (List.nil_sublist _))))) ?_
     refine TH.tk (listed' := #[Tt,Tt,Tt,Tt,Ff,Ff,Ff,Ff,Ff,Ff,Ff,Ff,Ff,Ff,Ff,Ff,Ff,Ff]) 3 rfl rfl rfl (gives_move rfl rfl) (fun w hw => hw.sel (.cons _ (.cons _ (.cons_cons _ (List.nil_sublist _))))) ?_
     refine TH.tk (listed' := #[Tt,Tt,Tt,Tt,Tt,Ff,Ff,Ff,Ff,Ff,Ff,Ff,Ff,Ff,Ff,Ff,Ff,Ff]) 4 rfl rfl rfl (gives_move rfl rfl) (fun w hw => hw.sel (.cons _ (.cons _ (.cons_cons _ (List.nil_sublist _))))) ?_
     refine TH.tk (listed' := #[Tt,Tt,Tt,Tt,Tt,Tt,Ff,Ff,Ff,Ff,Ff,Ff,Ff,Ff,Ff,Ff,Ff,Ff]) 5 rfl rfl rfl (gives_move rfl rfl) (fun w hw => hw.sel (.cons _ (.cons _ (.cons_cons _ (List.nil_sublist _))))) ?_
     refine TH.tk (listed' := #[Tt,Tt,Tt,Tt,Tt,Tt,Tt,Ff,Ff,Ff,Ff,Ff,Ff,Ff,Ff,Ff,Ff,Ff]) 6 rfl rfl rfl (gives_at rfl rfl rfl (fun w => at_u8 gk 0 64 c i hi2 w)) (fun w hw => hw.sel (.cons _ (.cons _ (.cons_cons _ (List.nil_sublist _))))) ?_
     refine TH.tk (listed' := #[Tt,Tt,Tt,Tt,Tt,Tt,Tt,Tt,Ff,Ff,Ff,Ff,Ff,Ff,Ff,Ff,Ff,Ff]) 7 rfl rfl rfl (pm_loadRow (k := 0) (v := .int .u8 ((padK (macKey l0)).getD i 0)) rfl rfl (fun w => rfl) rfl hy) (fun w hw => hw.sel (.cons _ (.cons _ (.cons_cons _ (List.nil_sublist _))))) ?_
     refine TH.tk (listed' := #[Tt,Tt,Tt,Tt,Tt,Tt,Tt,Tt,Tt,Ff,Ff,Ff,Ff,Ff,Ff,Ff,Ff,Ff]) 8 rfl rfl rfl (gives_bin rfl rfl rfl (fun w => bin_bits (.inr (.inr rfl)) w)) (fun w hw => hw.sel (.cons _ (.cons _ (.cons_cons _ (List.nil_sublist _))))) ?_
     refine TH.tk (listed' := #[Tt,Tt,Tt,Tt,Tt,Tt,Tt,Tt,Tt,Tt,Ff,Ff,Ff,Ff,Ff,Ff,Ff,Ff]) 9 rfl rfl rfl (gives_move rfl rfl) (fun w hw => hw.sel (.cons _ (.cons _ (.cons_cons _ (List.nil_sublist _))))) ?_
     refine TH.tk (listed' := #[Tt,Tt,Tt,Tt,Tt,Tt,Tt,Tt,Tt,Tt,Tt,Ff,Ff,Ff,Ff,Ff,Ff,Ff]) 10 rfl rfl rfl (gives_move rfl rfl) (fun w hw => hw.sel (.cons _ (.cons _ (.cons_cons _ (List.nil_sublist _))))) ?_
     refine TH.tk (listed' := #[Tt,Tt,Tt,Tt,Tt,Tt,Tt,Tt,Tt,Tt,Tt,Tt,Ff,Ff,Ff,Ff,Ff,Ff]) 11 rfl rfl rfl (gives_at rfl rfl rfl (fun w => at_u8 gk 0 64 c i hi2 w)) (fun w hw => hw.sel (.cons _ (.cons _ (.cons_cons _ (List.nil_sublist _))))) ?_
     refine TH.tk (listed' := #[Tt,Tt,Tt,Tt,Tt,Tt,Tt,Tt,Tt,Tt,Tt,Tt,Tt,Ff,Ff,Ff,Ff,Ff]) 12 rfl rfl rfl (pm_loadRow (k := 0) (v := .int .u8 ((padK (macKey l0)).getD i 0)) rfl rfl (fun w => rfl) rfl hy) (fun w hw => hw.sel (.cons _ (.cons _ (.cons_cons _ (List.nil_sublist _))))) ?_
     refine TH.tk (listed' := #[Tt,Tt,Tt,Tt,Tt,Tt,Tt,Tt,Tt,Tt,Tt,Tt,Tt,Tt,Ff,Ff,Ff,Ff]) 13 rfl rfl rfl (gives_bin rfl rfl rfl (fun w => bin_bits (.inr (.inr rfl)) w)) (fun w hw => hw.sel (.cons _ (.cons _ (.cons_cons _ (List.nil_sublist _))))) ?_
     refine TH.tk (listed' := #[Tt,Tt,Tt,Tt,Tt,Tt,Tt,Tt,Tt,Tt,Tt,Tt,Tt,Tt,Tt,Ff,Ff,Ff]) 14 rfl rfl rfl (gives_at rfl rfl rfl (fun w => at_u8 g6 0 64 64 i hi2 w)) (fun w hw => hw.sel (.cons _ (.cons _ (.cons_cons _ (List.nil_sublist _))))) ?_
     refine TH.only (listed' := #[Tt,Tt,Tt,Tt,Tt,Tt,Tt,Tt,Tt,Tt,Tt,Tt,Tt,Tt,Tt,Tt,Ff,Ff]) 15 rfl (by kernel_rfl) rfl rfl ?_
     refine TL.rowset (k := 1) (vs := [.int .u8 (bits .xor .u8 ((padK (macKey l0)).getD i 0) 54)]) rfl rfl rfl rfl rfl rfl rfl (fun w => rfl) (by intro u hu; simp only [List.mem_cons, List.not_mem_nil, or_false] at hu; subst hu; rfl) (by rw [arr64_len _ (by rw [xorL_len]; exact hp) hi]; show 0 + i + 1 ≤ 64; omega) (xs' := arr64 (xorL (padK (macKey l0)) 54) (i + 1)) (arr64_put _ (by rw [xorL_len]; exact hp) (xorL_at _ _ (by omega))) ?_
     refine TL.end_ ?_
     refine TX.held (fun w hw => hw.sel (.cons _ (.cons _ (.cons_cons _ (List.nil_sublist _))))) ?_
     refine TH.tk (listed' := #[Tt,Tt,Tt,Tt,Tt,Tt,Tt,Tt,Tt,Tt,Tt,Tt,Tt,Tt,Tt,Tt,Tt,Ff]) 16 rfl rfl rfl (gives_at rfl rfl rfl (fun w => at_u8 g7 0 64 64 i hi2 w)) (fun w hw => hw.sel (.cons _ (.cons _ (.cons_cons _ (List.nil_sublist _))))) ?_
     refine TH.only (listed' := #[Tt,Tt,Tt,Tt,Tt,Tt,Tt,Tt,Tt,Tt,Tt,Tt,Tt,Tt,Tt,Tt,Tt,Tt]) 17 rfl (by kernel_rfl) rfl rfl ?_
     refine TL.rowset (k := 0) (vs := [.int .u8 (bits .xor .u8 ((padK (macKey l0)).getD i 0) 92)]) rfl rfl rfl rfl rfl rfl rfl (fun w => rfl) (by intro u hu; simp only [List.mem_cons, List.not_mem_nil, or_false] at hu; subst hu; rfl) (by rw [arr64_len _ (by rw [xorL_len]; exact hp) hi]; show 0 + i + 1 ≤ 64; omega) (xs' := arr64 (xorL (padK (macKey l0)) 92) (i + 1)) (arr64_put _ (by rw [xorL_len]; exact hp) (xorL_at _ _ (by omega))) ?_
     refine TL.end_ ?_
     refine TX.held (fun w hw => hw.sel (.cons _ (.cons _ (.cons_cons _ (List.nil_sublist _))))) ?_
     refine TH.done (by kernel_rfl) ?_
     refine TX.in_normal (TX.then_ (TC.region ?_))
     refine TL.mv ?_
     refine TL.val rfl rfl rfl (gives_bin rfl rfl rfl (fun w => bin_add_ (r := ((i + 1 : Nat) : Int)) (by simp only [IntKind.wrap_i64]; omega) w)) ?_
     refine TL.as_ ?_
     refine TL.end_ ?_
     exact TX.round (⟨i + 1, hi2⟩) (by show 64 - (i + 1) < 64 - i; omega) ⟨rfl, rfl, rfl, rfl, rfl, trivial⟩ (fun w hw => hw)
    ·have hi2 : i = 64 := by have := of_decide_eq_false hc25; omega
     subst hi2
     refine TC.mem (I' := Pm w [.row (.slice (some ⟨g7, 0, none⟩) 64 64) 5 1 (64) (bv (xorL (padK (macKey l0)) 92)), .row (.slice (some ⟨g6, 0, none⟩) 64 64) 5 1 (64) (bv (xorL (padK (macKey l0)) 54)), .row (.slice (some ⟨gk, 0, none⟩) 64 c) 5 1 (64) (bv (padK (macKey l0)))]) (fun w hw => by rw [arr64_all _ (by rw [xorL_len]; exact hp), arr64_all _ (by rw [xorL_len]; exact hp)] at hw; exact hw) ?_
     refine TC.exit_ (TX.then_exit (TX.then_exit (TX.in_same (TX.then_ (TC.seq_ (TC.region ?_))))))
     refine TL.mv ?_
     refine TL.mv ?_
     refine TL.mv ?_
     refine TL.append (k := 1) rfl rfl rfl rfl elU8 rfl rfl rfl (fun w hw => pm_byt hw hb1) (bv_one l1) (by rw [Nat.mul_one]; omega) (64 + n1) (by omega) (fun A5 c5 hA51 hA52 => ?_)
     refine TL.mem (I' := Pm w [.row (.slice (some ⟨g7, 0, none⟩) 64 64) 5 1 (64) (bv (xorL (padK (macKey l0)) 92)), .row (.slice A5 (64 + n1) c5) 5 1 (64 + n1) (bv ((xorL (padK (macKey l0)) 54) ++ l1)), .row (.slice (some ⟨gk, 0, none⟩) 64 c) 5 1 (64) (bv (padK (macKey l0)))]) (fun w hw => by rw [bv_append]; exact hw) ?_
     refine TL.pcallRow (n := 32) (ys := bv (shaF ((xorL (padK (macKey l0)) 54) ++ l1))) rfl rfl rfl rfl rfl Tryd.func57 nmRSum bdRSum (fun w1 hw => rsum_all A5 (64 + n1) c5 ((xorL (padK (macKey l0)) 54) ++ l1) w1 (byt_own (hw.at_ (k := 1) rfl) ((xorL_bs _ _).app hb1.2)) (by omega)) (fun A6 c6 hA61 hA62 => ?_)
     refine TL.append (k := 1) rfl rfl rfl rfl elU8 rfl rfl rfl (fun w hw => pm_reads hw (k := 0) rfl) (bv_one _) (by decide) (64 + 32) (by omega) (fun A7 c7 hA71 hA72 => ?_)
     refine TL.mem (I' := Pm w [.row (.slice A6 32 c6) 5 1 (32) (bv (shaF ((xorL (padK (macKey l0)) 54) ++ l1))), .row (.slice A7 (64 + 32) c7) 5 1 (64 + 32) (bv ((xorL (padK (macKey l0)) 92) ++ shaF ((xorL (padK (macKey l0)) 54) ++ l1))), .row (.slice A5 (64 + n1) c5) 5 1 (64 + n1) (bv ((xorL (padK (macKey l0)) 54) ++ l1)), .row (.slice (some ⟨gk, 0, none⟩) 64 c) 5 1 (64) (bv (padK (macKey l0)))]) (fun w hw => by rw [bv_append]; exact hw) ?_
     refine TL.pcallRow (n := 32) (ys := bv (shaF ((xorL (padK (macKey l0)) 92) ++ shaF ((xorL (padK (macKey l0)) 54) ++ l1)))) rfl rfl rfl rfl rfl Tryd.func57 nmRSum bdRSum (fun w1 hw => rsum_all A7 (64 + 32) c7 ((xorL (padK (macKey l0)) 92) ++ shaF ((xorL (padK (macKey l0)) 54) ++ l1)) w1 (byt_own (hw.at_ (k := 1) rfl) ((xorL_bs _ _).app (shaF_bs _))) (by decide)) (fun A8 c8 hA81 hA82 => ?_)
     refine TL.as_ ?_
     refine TL.end_ (TX.then_ (TC.ret_ ?_))
     exact pm_ret_row (k := 0) Tryd.results29 rfl rfl (fun w1 hown hbel => ⟨A8, c8, rfl, hA81, hA82, hown, hbel⟩)
end Go.Proofs.YtmeaeeehnkcblaaDoor
