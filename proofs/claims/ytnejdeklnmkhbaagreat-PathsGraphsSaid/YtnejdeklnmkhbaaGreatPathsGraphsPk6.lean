/-
  Texts of the proof, joined: DcRes, DcOdd, DcId, PtLDi, PtLGr, PtOpen.
-/
import Derived.Test.YtnejdeklnmkhbaaGreatPathsGraphsPk4
import Derived.Test.YtnejdeklnmkhbaaGreatPathsGraphsPk1
import Derived.Test.YtnejdeklnmkhbaaGreatPathsGraphsPk2
import Derived.Test.YtnejdeklnmkhbaaGreatPathsGraphsPk5
import Derived.Test.YtnejdeklnmkhbaaGreatPathsGraphsPk3
import Derived.DataElems
set_option linter.unusedVariables false
set_option linter.unusedSimpArgs false
namespace Go.Proofs.YtnejdeklnmkhbaaGreat
open Go.RowKit
set_option maxRecDepth 20000
def tabV (l : List Int) : List Value := l.map (Value.int .i64)
def tab14 : List Int := [9223372036854775807, -9223372036854775808, 1125899906842624, 1125899906842625, 65535, 65536, 255, 256, 1023, 1024, 65534, 65535, 4294967296, 4611686018427387905]
def tab3 : List Int := [17, 1, 6]
theorem tab_at (l : List Int) (x : Nat) (h : x < l.length) : ∃ v, (tabV l)[0 + x * 1]? = some (.int .i64 v) := ⟨l[x], by rw [Nat.zero_add, Nat.mul_one]; simp [tabV, h]⟩
theorem jdrbs76_14_77721 (a0_0 : Int) (a1_0 : Int) (a2_0 : Int) (a3_0 : Int) (a4_0 : Int) (a5_0 : Int) (a6_0 : Int) (a7_0 : Int) (a8_0 : Int) (a9_0 : Int) (a10_0 : Int) (a11_0 : Int) (a12_0 : Int) (a13_0 : Int) (w : World) : (Instr.buildSlice 48 14 #[(0, .int .i64 a0_0), (1, .int .i64 a1_0), (2, .int .i64 a2_0), (3, .int .i64 a3_0), (4, .int .i64 a4_0), (5, .int .i64 a5_0), (6, .int .i64 a6_0), (7, .int .i64 a7_0), (8, .int .i64 a8_0), (9, .int .i64 a9_0), (10, .int .i64 a10_0), (11, .int .i64 a11_0), (12, .int .i64 a12_0), (13, .int .i64 a13_0)]).run Tryz.prog w = .ok (.slice (some ⟨w.heap.size, 0, none⟩) 14 14) (w.alloc (.cells [.int .i64 a0_0, .int .i64 a1_0, .int .i64 a2_0, .int .i64 a3_0, .int .i64 a4_0, .int .i64 a5_0, .int .i64 a6_0, .int .i64 a7_0, .int .i64 a8_0, .int .i64 a9_0, .int .i64 a10_0, .int .i64 a11_0, .int .i64 a12_0, .int .i64 a13_0].toArray 3)) := by kernel_rfl
theorem jdrbld25_14255 (a0_0 : Int) (a1_0 : Int) (a2_0 : Int) (a3_0 : Int) (a4_0 : Int) (a5_0 : Int) (w : World) : (Instr.build 45 #[(0, .int .u32 a0_0), (1, .int .i64 a1_0), (2, .int .i64 a2_0), (3, .int .i64 a3_0), (4, .int .i64 a4_0), (5, .int .i64 a5_0)]).run Tryz.prog w = .ok (.agg #[.int .u32 a0_0, .int .i64 a1_0, .int .i64 a2_0, .int .i64 a3_0, .int .i64 a4_0, .int .i64 a5_0]) w := by kernel_rfl
theorem int_cod (cb : Nat) (w : World) (hC : Cod w cb) :
  Calls Tryz.prog 114 #[.pointer (some ⟨cb, 0, none⟩)] w fun e w' => ∃ x : Int, e = .returned (.int .i64 x) ∧ Codr (fun w => Cod w cb) cb w [] w' := by
 refine begin_ (vs := [.pointer (some ⟨cb, 0, none⟩)]) (I := Pm ⟨w, cb⟩ (.abs cb (fun w => Cod w cb) :: oths cb w)) Tryz.func114 rfl rfl rfl ?_ (Pm.codes hC (cod_cells hC) (cod_stab cb))
 refine zSG ?_
 refine TL.as_ ?_
 refine zET (zS (zSG ?_))
 refine TL.mv ?_
 refine TL.pcallCod (k := 0) (α := {x : Nat // x ≤ 65535 ∧ (1 ≤ (10 : Int) → (x : Int) < 10)}) (fun y => .int .i64 (y.1 : Int)) (fun y => []) rfl rfl rfl rfl rfl Tryz.func25 (by decide) rfl rfl (fun w1 hw hC1 => next_cod cb w1 10 hC1) ?_
 rintro ⟨x4, hx41, hx42⟩
 dsimp only [List.cons_append, List.nil_append] at hx41 hx42 ⊢
 replace hx42 := hx42 (by omega)
 refine zET (zB (zSG ?_))
 refine TL.sp bin_eql (fun q6 => ?_) (fun q6 => ?_)
 ·refine TL.as_ ?_
  refine zET (zc (zSG ?_))
  refine TL.mv ?_
  refine TL.pcallCod (k := 0) (α := {x : Nat // x ≤ 65535 ∧ (1 ≤ (3 : Int) → (x : Int) < 3)}) (fun y => .int .i64 (y.1 : Int)) (fun y => []) rfl rfl rfl rfl rfl Tryz.func25 (by decide) rfl rfl (fun w1 hw hC1 => next_cod cb w1 3 hC1) ?_
  rintro ⟨x8, hx81, hx82⟩
  dsimp only [List.cons_append, List.nil_append] at hx81 hx82 ⊢
  replace hx82 := hx82 (by omega)
  refine TL.val rfl rfl rfl (gives_bin rfl rfl rfl (fun w => bin_sub_ (r := (-1) - ((x8 : Nat) : Int)) (by simp only [IntKind.wrap_i64]; omega) w)) ?_
  refine TL.as_ ?_
  refine zET (zr (zRR ?_))
  exact ret_tmp Tryz.results114 rfl (fun w1 hw => ⟨(-1) - ((x8 : Nat) : Int), rfl, Pm.codr [] (hw) rfl⟩)
 ·refine TL.as_ ?_
  refine zET (zd (zSG ?_))
  refine TL.sp bin_eql (fun q11 => ?_) (fun q11 => ?_)
  ·refine TL.as_ ?_
   refine zET (zc (zSG ?_))
   refine TL.prowS (e := 3) (size := 1) (cs := tabV tab14) rfl rfl rfl rfl rfl (fun w => jdrbs76_14_77721 _ _ _ _ _ _ _ _ _ _ _ _ _ _ w) (by decide) rfl (fun g12 => ?_)
   refine TL.mv ?_
   refine TL.pcallCod (k := 1) (α := {x : Nat // x ≤ 65535 ∧ (1 ≤ (14 : Int) → (x : Int) < 14)}) (fun y => .int .i64 (y.1 : Int)) (fun y => []) rfl rfl rfl rfl rfl Tryz.func25 (by decide) rfl rfl (fun w1 hw hC1 => next_cod cb w1 14 hC1) ?_
   rintro ⟨x14, hx141, hx142⟩
   dsimp only [List.cons_append, List.nil_append] at hx141 hx142 ⊢
   replace hx142 := hx142 (by omega)
   refine TL.val rfl rfl rfl (gives_at (v := .pointer (some ⟨g12, 0 + x14 * 1, none⟩)) rfl rfl rfl (fun w => at_el Tryz.underlying48 (fun w => rfl) rfl 14 14 x14 (by omega) rfl w)) ?_
   obtain ⟨t16, ht16⟩ := tab_at tab14 x14 (show x14 < tab14.length by simpa [tab14] using (by omega : x14 < 14))
   refine TL.val rfl rfl rfl (pm_loadRow (k := 0) (v := .int .i64 t16) rfl rfl (fun w => rfl) rfl ht16) ?_
   refine TL.as_ ?_
   refine zET (zr (zRR ?_))
   exact ret_tmp Tryz.results114 rfl (fun w1 hw => ⟨t16, rfl, Pm.codr [] (hw.sel (.cons _ (.cons_cons _ (List.Sublist.refl _)))) rfl⟩)
  ·refine TL.as_ ?_
   refine zET (zd (zSG ?_))
   refine TL.sp bin_eql (fun q18 => ?_) (fun q18 => ?_)
   ·refine TL.as_ ?_
    refine zET (zc (zSG ?_))
    refine TL.mv ?_
    refine TL.pcallCod (k := 0) (α := {x : Nat // x ≤ 65535 ∧ (1 ≤ (256 : Int) → (x : Int) < 256)}) (fun y => .int .i64 (y.1 : Int)) (fun y => []) rfl rfl rfl rfl rfl Tryz.func25 (by decide) rfl rfl (fun w1 hw hC1 => next_cod cb w1 256 hC1) ?_
    rintro ⟨x20, hx201, hx202⟩
    dsimp only [List.cons_append, List.nil_append] at hx201 hx202 ⊢
    replace hx202 := hx202 (by omega)
    refine TL.val rfl rfl rfl (gives_bin rfl rfl rfl (fun w => bin_mul_ (r := 256 * ((x20 : Nat) : Int)) (by simp only [IntKind.wrap_i64]; omega) w)) ?_
    refine TL.mv ?_
    refine TL.pcallCod (k := 0) (α := {x : Nat // x ≤ 65535 ∧ (1 ≤ (256 : Int) → (x : Int) < 256)}) (fun y => .int .i64 (y.1 : Int)) (fun y => []) rfl rfl rfl rfl rfl Tryz.func25 (by decide) rfl rfl (fun w1 hw hC1 => next_cod cb w1 256 hC1) ?_
    rintro ⟨x23, hx231, hx232⟩
    dsimp only [List.cons_append, List.nil_append] at hx231 hx232 ⊢
    replace hx232 := hx232 (by omega)
    refine TL.v (gD ((256 * ((x20 : Nat) : Int)) + ((x23 : Nat) : Int))) ?_
    refine TL.as_ ?_
    refine zET (zr (zRR ?_))
    exact ret_tmp Tryz.results114 rfl (fun w1 hw => ⟨(256 * ((x20 : Nat) : Int)) + ((x23 : Nat) : Int), rfl, Pm.codr [] (hw) rfl⟩)
   ·refine TL.as_ ?_
    refine zET (zd (zk (zN (zT (zSG ?_)))))
    refine TL.mv ?_
    refine TL.pcallCod (k := 0) (α := {x : Nat // x ≤ 65535 ∧ (1 ≤ (40 : Int) → (x : Int) < 40)}) (fun y => .int .i64 (y.1 : Int)) (fun y => []) rfl rfl rfl rfl rfl Tryz.func25 (by decide) rfl rfl (fun w1 hw hC1 => next_cod cb w1 40 hC1) ?_
    rintro ⟨x26, hx261, hx262⟩
    dsimp only [List.cons_append, List.nil_append] at hx261 hx262 ⊢
    replace hx262 := hx262 (by omega)
    refine TL.as_ ?_
    refine zET (zr ?_)
    exact ret_tmp Tryz.results114 rfl (fun w1 hw => ⟨((x26 : Nat) : Int), rfl, Pm.codr [] (hw) rfl⟩)
theorem proto_cod (cb : Nat) (w : World) (hC : Cod w cb) :
  Calls Tryz.prog 113 #[.pointer (some ⟨cb, 0, none⟩)] w fun e w' => ∃ x : Int, e = .returned (.int .i64 x) ∧ Codr (fun w => Cod w cb) cb w [] w' := by
 refine begin_ (vs := [.pointer (some ⟨cb, 0, none⟩)]) (I := Pm ⟨w, cb⟩ (.abs cb (fun w => Cod w cb) :: oths cb w)) Tryz.func113 rfl rfl rfl ?_ (Pm.codes hC (cod_cells hC) (cod_stab cb))
 refine zSG ?_
 refine TL.as_ ?_
 refine zET (zSG ?_)
 refine TL.prowS (e := 3) (size := 1) (cs := tabV tab3) rfl rfl rfl rfl rfl (fun w => pcmbs48_3_44640 _ _ _ w) (by decide) rfl (fun g3 => ?_)
 refine TL.mv ?_
 refine TL.pcallCod (k := 1) (α := {x : Nat // x ≤ 65535 ∧ (1 ≤ (3 : Int) → (x : Int) < 3)}) (fun y => .int .i64 (y.1 : Int)) (fun y => []) rfl rfl rfl rfl rfl Tryz.func25 (by decide) rfl rfl (fun w1 hw hC1 => next_cod cb w1 3 hC1) ?_
 rintro ⟨x5, hx51, hx52⟩
 dsimp only [List.cons_append, List.nil_append] at hx51 hx52 ⊢
 replace hx52 := hx52 (by omega)
 refine TL.val rfl rfl rfl (gives_at (v := .pointer (some ⟨g3, 0 + x5 * 1, none⟩)) rfl rfl rfl (fun w => at_el Tryz.underlying48 (fun w => rfl) rfl 3 3 x5 (by omega) rfl w)) ?_
 obtain ⟨t7, ht7⟩ := tab_at tab3 x5 (show x5 < tab3.length by simpa [tab3] using (by omega : x5 < 3))
 refine TL.val rfl rfl rfl (pm_loadRow (k := 0) (v := .int .i64 t7) rfl rfl (fun w => rfl) rfl ht7) ?_
 refine TL.as_ ?_
 refine zET (zr ?_)
 exact ret_tmp Tryz.results113 rfl (fun w1 hw => ⟨t7, rfl, Pm.codr [] (hw.sel (.cons _ (.cons_cons _ (List.Sublist.refl _)))) rfl⟩)
theorem addr_cod (cb : Nat) (w : World) (hC : Cod w cb) :
  Calls Tryz.prog 112 #[.pointer (some ⟨cb, 0, none⟩)] w fun e w' => ∃ x : {x : Int // 0 ≤ x ∧ x ≤ 4294967295}, e = .returned (.int .u32 x.1) ∧ Codr (fun w => Cod w cb) cb w [] w' := by
 refine begin_ (vs := [.pointer (some ⟨cb, 0, none⟩)]) (I := Pm ⟨w, cb⟩ (.abs cb (fun w => Cod w cb) :: oths cb w)) Tryz.func112 rfl rfl rfl ?_ (Pm.codes hC (cod_cells hC) (cod_stab cb))
 refine zSG ?_
 refine TL.as_ ?_
 refine zET (zS (zSG ?_))
 refine TL.mv ?_
 refine TL.pcallCod (k := 0) (α := {x : Nat // x ≤ 65535 ∧ (1 ≤ (12 : Int) → (x : Int) < 12)}) (fun y => .int .i64 (y.1 : Int)) (fun y => []) rfl rfl rfl rfl rfl Tryz.func25 (by decide) rfl rfl (fun w1 hw hC1 => next_cod cb w1 12 hC1) ?_
 rintro ⟨x4, hx41, hx42⟩
 dsimp only [List.cons_append, List.nil_append] at hx41 hx42 ⊢
 replace hx42 := hx42 (by omega)
 refine TL.sp bin_eql (fun q5 => ?_) (fun q5 => ?_)
 ·refine zET (zc (zSG ?_))
  refine TL.mv ?_
  refine TL.pcallCod (k := 0) (α := {x : Nat // x ≤ 65535 ∧ (1 ≤ (65536 : Int) → (x : Int) < 65536)}) (fun y => .int .i64 (y.1 : Int)) (fun y => []) rfl rfl rfl rfl rfl Tryz.func25 (by decide) rfl rfl (fun w1 hw hC1 => next_cod cb w1 65536 hC1) ?_
  rintro ⟨x7, hx71, hx72⟩
  dsimp only [List.cons_append, List.nil_append] at hx71 hx72 ⊢
  replace hx72 := hx72 (by omega)
  refine TL.val rfl rfl rfl (gives_bin (v := .int .i64 (((x7 : Nat) : Int) * 65536)) rfl rfl rfl (fun w => by rw [bin_shl 65536 (by decide) (by decide) (by decide) w]; congr 2; simp only [IntKind.wrap_i64]; omega)) ?_
  refine TL.mv ?_
  refine TL.pcallCod (k := 0) (α := {x : Nat // x ≤ 65535 ∧ (1 ≤ (65536 : Int) → (x : Int) < 65536)}) (fun y => .int .i64 (y.1 : Int)) (fun y => []) rfl rfl rfl rfl rfl Tryz.func25 (by decide) rfl rfl (fun w1 hw hC1 => next_cod cb w1 65536 hC1) ?_
  rintro ⟨x10, hx101, hx102⟩
  dsimp only [List.cons_append, List.nil_append] at hx101 hx102 ⊢
  replace hx102 := hx102 (by omega)
  refine TL.v (gD ((((x7 : Nat) : Int) * 65536) + ((x10 : Nat) : Int))) ?_
  refine TL.val rfl rfl rfl (gives_conv rfl rfl (fun w => conv_fit (k := .i64) Tryz.underlying30 Tryz.underlying3 (by simp only [IntKind.wrap_u32]; omega) w)) ?_
  refine TL.as_ ?_
  refine zET (zr (zR ?_))
  exact ret_tmp Tryz.results112 rfl (fun w1 hw => ⟨⟨(((x7 : Nat) : Int) * 65536) + ((x10 : Nat) : Int), by omega, by omega⟩, rfl, Pm.codr [] (hw) rfl⟩)
 ·refine zET (zd (zk (zT (zSG ?_))))
  refine TL.mv ?_
  refine TL.pcallCod (k := 0) (α := {x : Nat // x ≤ 65535 ∧ (1 ≤ (3 : Int) → (x : Int) < 3)}) (fun y => .int .i64 (y.1 : Int)) (fun y => []) rfl rfl rfl rfl rfl Tryz.func25 (by decide) rfl rfl (fun w1 hw hC1 => next_cod cb w1 3 hC1) ?_
  rintro ⟨x14, hx141, hx142⟩
  dsimp only [List.cons_append, List.nil_append] at hx141 hx142 ⊢
  replace hx142 := hx142 (by omega)
  refine TL.val rfl rfl rfl (gives_bin (v := .int .i64 (((x14 : Nat) : Int) * 65536)) rfl rfl rfl (fun w => by rw [bin_shl 65536 (by decide) (by decide) (by decide) w]; congr 2; simp only [IntKind.wrap_i64]; omega)) ?_
  refine TL.v (gD (167772160 + (((x14 : Nat) : Int) * 65536))) ?_
  refine TL.mv ?_
  refine TL.pcallCod (k := 0) (α := {x : Nat // x ≤ 65535 ∧ (1 ≤ (8 : Int) → (x : Int) < 8)}) (fun y => .int .i64 (y.1 : Int)) (fun y => []) rfl rfl rfl rfl rfl Tryz.func25 (by decide) rfl rfl (fun w1 hw hC1 => next_cod cb w1 8 hC1) ?_
  rintro ⟨x18, hx181, hx182⟩
  dsimp only [List.cons_append, List.nil_append] at hx181 hx182 ⊢
  replace hx182 := hx182 (by omega)
  refine TL.v (gD ((167772160 + (((x14 : Nat) : Int) * 65536)) + ((x18 : Nat) : Int))) ?_
  refine TL.val rfl rfl rfl (gives_conv rfl rfl (fun w => conv_fit (k := .i64) Tryz.underlying30 Tryz.underlying3 (by simp only [IntKind.wrap_u32]; omega) w)) ?_
  refine TL.as_ ?_
  refine zET (zr ?_)
  exact ret_tmp Tryz.results112 rfl (fun w1 hw => ⟨⟨(167772160 + (((x14 : Nat) : Int) * 65536)) + ((x18 : Nat) : Int), by omega, by omega⟩, rfl, Pm.codr [] (hw) rfl⟩)
set_option maxHeartbeats 4000000 in
theorem result_cod (cb : Nat) (w : World) (hC : Cod w cb) :
  Calls Tryz.prog 76 #[.pointer (some ⟨cb, 0, none⟩)] w fun e w' => ∃ x : {x : Rs // x.Ok}, e = .returned (.agg x.1.cells.toArray) ∧ Codr (fun w => Cod w cb) cb w [] w' := by
 refine begin_ (vs := [.pointer (some ⟨cb, 0, none⟩)]) (I := Pm ⟨w, cb⟩ (.abs cb (fun w => Cod w cb) :: oths cb w)) Tryz.func76 rfl rfl rfl ?_ (Pm.codes hC (cod_cells hC) (cod_stab cb))
 refine zSG ?_
 refine TL.pnew rfl rfl rfl (exec_alloc (cs := Rs.zero.cells) rfl pcpzv47 rfl) (fun g2 => ?_)
 refine zET (zSG ?_)
 refine TL.mv ?_
 refine TL.pcallCod (k := 1) (α := {x : Nat // x ≤ 65535 ∧ (1 ≤ (2 : Int) → (x : Int) < 2)}) (fun y => .int .i64 (y.1 : Int)) (fun y => []) rfl rfl rfl rfl rfl Tryz.func25 (by decide) rfl rfl (fun w1 hw hC1 => next_cod cb w1 2 hC1) ?_
 rintro ⟨x5, hx51, hx52⟩
 dsimp only [List.cons_append, List.nil_append] at hx51 hx52 ⊢
 replace hx52 := hx52 (by omega)
 refine TL.mv ?_
 refine TL.pcallCod (k := 1) (α := {x : Nat // x ≤ 65535 ∧ (1 ≤ (2 : Int) → (x : Int) < 2)}) (fun y => .int .i64 (y.1 : Int)) (fun y => []) rfl rfl rfl rfl rfl Tryz.func25 (by decide) rfl rfl (fun w1 hw hC1 => next_cod cb w1 2 hC1) ?_
 rintro ⟨x7, hx71, hx72⟩
 dsimp only [List.cons_append, List.nil_append] at hx71 hx72 ⊢
 replace hx72 := hx72 (by omega)
 refine TL.mv ?_
 refine TL.pcallCod (k := 1) (α := {x : Nat // x ≤ 65535 ∧ (1 ≤ (4 : Int) → (x : Int) < 4)}) (fun y => .int .i64 (y.1 : Int)) (fun y => []) rfl rfl rfl rfl rfl Tryz.func25 (by decide) rfl rfl (fun w1 hw hC1 => next_cod cb w1 4 hC1) ?_
 rintro ⟨x9, hx91, hx92⟩
 dsimp only [List.cons_append, List.nil_append] at hx91 hx92 ⊢
 replace hx92 := hx92 (by omega)
 refine TL.mv ?_
 refine TL.pcallCod (k := 1) (α := {x : Nat // x ≤ 65535 ∧ (1 ≤ (50 : Int) → (x : Int) < 50)}) (fun y => .int .i64 (y.1 : Int)) (fun y => []) rfl rfl rfl rfl rfl Tryz.func25 (by decide) rfl rfl (fun w1 hw hC1 => next_cod cb w1 50 hC1) ?_
 rintro ⟨x11, hx111, hx112⟩
 dsimp only [List.cons_append, List.nil_append] at hx111 hx112 ⊢
 replace hx112 := hx112 (by omega)
 refine TL.mv ?_
 refine TL.pcallCod (k := 1) (α := {x : Int // 0 ≤ x ∧ x ≤ 4294967295}) (fun y => .int .u32 y.1) (fun y => []) rfl rfl rfl rfl rfl Tryz.func112 (by decide) rfl rfl (fun w1 hw hC1 => addr_cod cb w1 hC1) ?_
 rintro ⟨z13, hz131, hz132⟩
 dsimp only [List.cons_append, List.nil_append] at hz131 hz132 ⊢
 refine TL.mv ?_
 refine TL.pcallCod (k := 1) (α := Int) (fun y => .int .i64 y) (fun y => []) rfl rfl rfl rfl rfl Tryz.func113 (by decide) rfl rfl (fun w1 hw hC1 => proto_cod cb w1 hC1) ?_
 rintro z15
 dsimp only [List.cons_append, List.nil_append]
 refine TL.mv ?_
 refine TL.pcallCod (k := 1) (α := {x : Nat // x ≤ 65535 ∧ (1 ≤ (3 : Int) → (x : Int) < 3)}) (fun y => .int .i64 (y.1 : Int)) (fun y => []) rfl rfl rfl rfl rfl Tryz.func25 (by decide) rfl rfl (fun w1 hw hC1 => next_cod cb w1 3 hC1) ?_
 rintro ⟨x17, hx171, hx172⟩
 dsimp only [List.cons_append, List.nil_append] at hx171 hx172 ⊢
 replace hx172 := hx172 (by omega)
 refine TL.mv ?_
 refine TL.pcallCod (k := 1) (α := {x : Nat // x ≤ 65535 ∧ (1 ≤ (4 : Int) → (x : Int) < 4)}) (fun y => .int .i64 (y.1 : Int)) (fun y => []) rfl rfl rfl rfl rfl Tryz.func25 (by decide) rfl rfl (fun w1 hw hC1 => next_cod cb w1 4 hC1) ?_
 rintro ⟨x19, hx191, hx192⟩
 dsimp only [List.cons_append, List.nil_append] at hx191 hx192 ⊢
 replace hx192 := hx192 (by omega)
 refine TL.v (gD (1 + ((x19 : Nat) : Int))) ?_
 refine TL.val rfl rfl rfl (gives_build (v := .agg #[.int .i64 ((x5 : Nat) : Int), .int .i64 ((x7 : Nat) : Int), .int .i64 ((x9 : Nat) : Int), .int .i64 ((x11 : Nat) : Int), .int .u32 z13, .int .i64 z15, .int .i64 ((x17 : Nat) : Int), .int .i64 (1 + ((x19 : Nat) : Int)), .bool false, .bool false, .int .i64 0, .int .u32 0, .int .i64 0, .int .i64 0, .int .i64 0, .int .i64 0, .int .i64 0]) rfl rfl (fun w => drebld47_74773 _ _ _ _ _ _ _ _ w)) ?_
 refine TL.pnew rfl rfl rfl (exec_alloc (cs := Rs.zero.cells) rfl pcpzv47 rfl) (fun g3 => ?_)
 refine TL.pstore (k := 0) (vs := [.int .i64 ((x5 : Nat) : Int), .int .i64 ((x7 : Nat) : Int), .int .i64 ((x9 : Nat) : Int), .int .i64 ((x11 : Nat) : Int), .int .u32 z13, .int .i64 z15, .int .i64 ((x17 : Nat) : Int), .int .i64 (1 + ((x19 : Nat) : Int)), .bool false, .bool false, .int .i64 0, .int .u32 0, .int .i64 0, .int .i64 0, .int .i64 0, .int .i64 0, .int .i64 0]) rfl rfl rfl rfl rfl rfl rfl prssz47 dreone_i64i64i64i64u32i64i64i64bbi64u32i64i64i64i64i64 (by show 17 ≤ 17; decide) rfl ?_
 refine zET (zS ?_)
 refine TC.held (ls := #[Ff,Ff,Ff,Ff,Ff,Ff,Ff]) (fun w1 => ∃ b : Int, Pm ⟨w, cb⟩ ([.blk g3 47 [.int .i64 ((x5 : Nat) : Int), .int .i64 ((x7 : Nat) : Int), .int .i64 ((x9 : Nat) : Int), .int .i64 ((x11 : Nat) : Int), .int .u32 z13, .int .i64 z15, .int .i64 ((x17 : Nat) : Int), .int .i64 (1 + ((x19 : Nat) : Int)), .bool false, .bool false, .int .i64 b, .int .u32 0, .int .i64 0, .int .i64 0, .int .i64 0, .int .i64 0, .int .i64 0], .blk g2 47 Rs.zero.cells, .abs cb (fun w => Cod w cb)] ++ oths cb w) w1) (by kernel_rfl) rfl rfl (fun w hw => hw.drawn _) ?_
 refine TH.tk 0 rfl rfl rfl (gF prsfld47_3) (fun w1 hw => ⟨_, hw⟩) ?_
 refine TH.tk 1 rfl rfl rfl (gives_load (v := .int .i64 ((x11 : Nat) : Int)) rfl rfl pcmag3 (fun w1 hw => by obtain ⟨b, hw⟩ := hw; exact (hw.cell (k := 0) rfl 3).trans rfl)) (fun w1 hw => ⟨_, hw⟩) ?_
 refine TH.tk 2 rfl rfl rfl (gives_move rfl rfl) (fun w1 hw => ⟨_, hw⟩) ?_
 refine TH.only' 3 rfl (by kernel_rfl) rfl ?_
 refine TL.pcallCod (k := 2) (α := {x : Nat // x ≤ 65535 ∧ (1 ≤ (30 : Int) → (x : Int) < 30)}) (fun y => .int .i64 (y.1 : Int)) (fun y => []) rfl rfl rfl rfl rfl Tryz.func25 (by decide) rfl rfl (fun w1 hw hC1 => next_cod cb w1 30 hC1) ?_
 rintro ⟨x25, hx251, hx252⟩
 dsimp only [List.cons_append, List.nil_append] at hx251 hx252 ⊢
 replace hx252 := hx252 (by omega)
 refine zE ?_
 refine TX.held (fun w1 hw => ⟨_, hw⟩) ?_
 refine TH.tk 4 rfl rfl rfl (gD (((x11 : Nat) : Int) + ((x25 : Nat) : Int))) (fun w1 hw => ⟨_, hw⟩) ?_
 refine TH.tk 5 rfl rfl rfl (gF prsfld47_10) (fun w1 hw => ⟨_, hw⟩) ?_
 refine TH.only' 6 rfl (by kernel_rfl) rfl ?_
 refine TL.pstore (k := 0) (vs := [.int .i64 (((x11 : Nat) : Int) + ((x25 : Nat) : Int))]) rfl rfl rfl rfl rfl rfl rfl pcmsz3 dreone_i64 (by show 11 ≤ 17; decide) rfl ?_
 refine zE ?_
 refine TX.held (fun w1 hw => ⟨_, hw⟩) ?_
 refine TH.done (by kernel_rfl) ?_
 refine zT ?_
 refine TC.join (α := {r : Rs // r.Ok}) (fun y => [(0, .pointer (some ⟨cb, 0, none⟩)), (2, .pointer (some ⟨g2, 0, none⟩)), (3, .pointer (some ⟨g3, 0, none⟩))]) (fun y => Pm ⟨w, cb⟩ ([.blk g3 47 y.1.cells, .blk g2 47 Rs.zero.cells, .abs cb (fun w => Cod w cb)] ++ oths cb w)) ?_ ?_
 ·refine zSG ?_
  refine TL.mv ?_
  refine TL.pcallCod (k := 2) (α := {x : Nat // x ≤ 65535 ∧ (1 ≤ (3 : Int) → (x : Int) < 3)}) (fun y => .int .i64 (y.1 : Int)) (fun y => []) rfl rfl rfl rfl rfl Tryz.func25 (by decide) rfl rfl (fun w1 hw hC1 => next_cod cb w1 3 hC1) ?_
  rintro ⟨x29, hx291, hx292⟩
  dsimp only [List.cons_append, List.nil_append] at hx291 hx292 ⊢
  replace hx292 := hx292 (by omega)
  refine TL.sp bin_gtr (fun q30 => ?_) (fun q30 => ?_)
  ·refine zET (zc (zSG ?_))
   refine TL.mv ?_
   refine TL.pcallCod (k := 2) (α := {x : Nat // x ≤ 65535 ∧ (1 ≤ (6 : Int) → (x : Int) < 6)}) (fun y => .int .i64 (y.1 : Int)) (fun y => []) rfl rfl rfl rfl rfl Tryz.func25 (by decide) rfl rfl (fun w1 hw hC1 => next_cod cb w1 6 hC1) ?_
   rintro ⟨x32, hx321, hx322⟩
   dsimp only [List.cons_append, List.nil_append] at hx321 hx322 ⊢
   replace hx322 := hx322 (by omega)
   refine TL.sp bin_eql (fun q33 => ?_) (fun q33 => ?_)
   ·refine TL.v (gF prsfld47_8) ?_
    refine TL.pstore (k := 0) (vs := [.bool true]) rfl rfl rfl rfl rfl rfl rfl dresz4 dreone_b (by show 9 ≤ 17; decide) rfl ?_
    refine TL.v (gF prsfld47_9) ?_
    refine TL.pstore (k := 0) (vs := [.bool true]) rfl rfl rfl rfl rfl rfl rfl dresz4 dreone_b (by show 10 ≤ 17; decide) rfl ?_
    refine zET (zG ?_)
    refine TL.mv ?_
    refine TL.pcallCod (k := 2) (α := {x : Int // 0 ≤ x ∧ x ≤ 4294967295}) (fun y => .int .u32 y.1) (fun y => []) rfl rfl rfl rfl rfl Tryz.func112 (by decide) rfl rfl (fun w1 hw hC1 => addr_cod cb w1 hC1) ?_
    rintro ⟨z37, hz371, hz372⟩
    dsimp only [List.cons_append, List.nil_append] at hz371 hz372 ⊢
    refine TL.mv ?_
    refine TL.pcallCod (k := 2) (α := {x : Nat // x ≤ 65535 ∧ (1 ≤ (5 : Int) → (x : Int) < 5)}) (fun y => .int .i64 (y.1 : Int)) (fun y => []) rfl rfl rfl rfl rfl Tryz.func25 (by decide) rfl rfl (fun w1 hw hC1 => next_cod cb w1 5 hC1) ?_
    rintro ⟨x39, hx391, hx392⟩
    dsimp only [List.cons_append, List.nil_append] at hx391 hx392 ⊢
    replace hx392 := hx392 (by omega)
    refine TL.v (gD (1 + ((x39 : Nat) : Int))) ?_
    refine TL.mv ?_
    refine TL.pcallCod (k := 2) (α := {x : Nat // x ≤ 65535 ∧ (1 ≤ (4 : Int) → (x : Int) < 4)}) (fun y => .int .i64 (y.1 : Int)) (fun y => []) rfl rfl rfl rfl rfl Tryz.func25 (by decide) rfl rfl (fun w1 hw hC1 => next_cod cb w1 4 hC1) ?_
    rintro ⟨x42, hx421, hx422⟩
    dsimp only [List.cons_append, List.nil_append] at hx421 hx422 ⊢
    replace hx422 := hx422 (by omega)
    refine TL.mv ?_
    refine TL.pcallCod (k := 2) (α := {x : Nat // x ≤ 65535 ∧ (1 ≤ (5 : Int) → (x : Int) < 5)}) (fun y => .int .i64 (y.1 : Int)) (fun y => []) rfl rfl rfl rfl rfl Tryz.func25 (by decide) rfl rfl (fun w1 hw hC1 => next_cod cb w1 5 hC1) ?_
    rintro ⟨x44, hx441, hx442⟩
    dsimp only [List.cons_append, List.nil_append] at hx441 hx442 ⊢
    replace hx442 := hx442 (by omega)
    refine TL.v (gD (60 + ((x44 : Nat) : Int))) ?_
    refine TL.mv ?_
    refine TL.pcallCod (k := 2) (α := {x : Nat // x ≤ 65535 ∧ (1 ≤ (300 : Int) → (x : Int) < 300)}) (fun y => .int .i64 (y.1 : Int)) (fun y => []) rfl rfl rfl rfl rfl Tryz.func25 (by decide) rfl rfl (fun w1 hw hC1 => next_cod cb w1 300 hC1) ?_
    rintro ⟨x47, hx471, hx472⟩
    dsimp only [List.cons_append, List.nil_append] at hx471 hx472 ⊢
    replace hx472 := hx472 (by omega)
    refine TL.mv ?_
    refine TL.pcallCod (k := 2) (α := {x : Nat // x ≤ 65535 ∧ (1 ≤ (2 : Int) → (x : Int) < 2)}) (fun y => .int .i64 (y.1 : Int)) (fun y => []) rfl rfl rfl rfl rfl Tryz.func25 (by decide) rfl rfl (fun w1 hw hC1 => next_cod cb w1 2 hC1) ?_
    rintro ⟨x49, hx491, hx492⟩
    dsimp only [List.cons_append, List.nil_append] at hx491 hx492 ⊢
    replace hx492 := hx492 (by omega)
    refine TL.v (gD (1 + ((x49 : Nat) : Int))) ?_
    refine TL.val rfl rfl rfl (gives_build (v := .agg #[.int .u32 z37, .int .i64 (1 + ((x39 : Nat) : Int)), .int .i64 ((x42 : Nat) : Int), .int .i64 (60 + ((x44 : Nat) : Int)), .int .i64 ((x47 : Nat) : Int), .int .i64 (1 + ((x49 : Nat) : Int))]) rfl rfl (fun w => jdrbld25_14255 _ _ _ _ _ _ w)) ?_
    refine TL.v (gF prsfld47_11) ?_
    refine TL.pstore (k := 0) (vs := [.int .u32 z37, .int .i64 (1 + ((x39 : Nat) : Int)), .int .i64 ((x42 : Nat) : Int), .int .i64 (60 + ((x44 : Nat) : Int)), .int .i64 ((x47 : Nat) : Int), .int .i64 (1 + ((x49 : Nat) : Int))]) rfl rfl rfl rfl rfl rfl rfl dresz45 dreone_u32i64i64i64i64i64 (by show 17 ≤ 17; decide) rfl ?_
    refine zE ?_
    exact TX.joined (⟨⟨((x5 : Nat) : Int), ((x7 : Nat) : Int), ((x9 : Nat) : Int), ((x11 : Nat) : Int), z13, z15, ((x17 : Nat) : Int), 1 + ((x19 : Nat) : Int), true, true, ((x11 : Nat) : Int) + ((x25 : Nat) : Int), z37, 1 + ((x39 : Nat) : Int), ((x42 : Nat) : Int), 60 + ((x44 : Nat) : Int), ((x47 : Nat) : Int), 1 + ((x49 : Nat) : Int)⟩, by unfold Rs.Ok; dsimp only; omega⟩) (⟨rfl, rfl, rfl, trivial⟩) (fun w1 hw => hw)
   ·refine TL.v (gF prsfld47_8) ?_
    refine TL.pstore (k := 0) (vs := [.bool true]) rfl rfl rfl rfl rfl rfl rfl dresz4 dreone_b (by show 9 ≤ 17; decide) rfl ?_
    refine TL.v (gF prsfld47_9) ?_
    refine TL.pstore (k := 0) (vs := [.bool false]) rfl rfl rfl rfl rfl rfl rfl dresz4 dreone_b (by show 10 ≤ 17; decide) rfl ?_
    refine zET (zG ?_)
    refine TL.mv ?_
    refine TL.pcallCod (k := 2) (α := {x : Int // 0 ≤ x ∧ x ≤ 4294967295}) (fun y => .int .u32 y.1) (fun y => []) rfl rfl rfl rfl rfl Tryz.func112 (by decide) rfl rfl (fun w1 hw hC1 => addr_cod cb w1 hC1) ?_
    rintro ⟨z37, hz371, hz372⟩
    dsimp only [List.cons_append, List.nil_append] at hz371 hz372 ⊢
    refine TL.mv ?_
    refine TL.pcallCod (k := 2) (α := {x : Nat // x ≤ 65535 ∧ (1 ≤ (5 : Int) → (x : Int) < 5)}) (fun y => .int .i64 (y.1 : Int)) (fun y => []) rfl rfl rfl rfl rfl Tryz.func25 (by decide) rfl rfl (fun w1 hw hC1 => next_cod cb w1 5 hC1) ?_
    rintro ⟨x39, hx391, hx392⟩
    dsimp only [List.cons_append, List.nil_append] at hx391 hx392 ⊢
    replace hx392 := hx392 (by omega)
    refine TL.v (gD (1 + ((x39 : Nat) : Int))) ?_
    refine TL.mv ?_
    refine TL.pcallCod (k := 2) (α := {x : Nat // x ≤ 65535 ∧ (1 ≤ (4 : Int) → (x : Int) < 4)}) (fun y => .int .i64 (y.1 : Int)) (fun y => []) rfl rfl rfl rfl rfl Tryz.func25 (by decide) rfl rfl (fun w1 hw hC1 => next_cod cb w1 4 hC1) ?_
    rintro ⟨x42, hx421, hx422⟩
    dsimp only [List.cons_append, List.nil_append] at hx421 hx422 ⊢
    replace hx422 := hx422 (by omega)
    refine TL.mv ?_
    refine TL.pcallCod (k := 2) (α := {x : Nat // x ≤ 65535 ∧ (1 ≤ (5 : Int) → (x : Int) < 5)}) (fun y => .int .i64 (y.1 : Int)) (fun y => []) rfl rfl rfl rfl rfl Tryz.func25 (by decide) rfl rfl (fun w1 hw hC1 => next_cod cb w1 5 hC1) ?_
    rintro ⟨x44, hx441, hx442⟩
    dsimp only [List.cons_append, List.nil_append] at hx441 hx442 ⊢
    replace hx442 := hx442 (by omega)
    refine TL.v (gD (60 + ((x44 : Nat) : Int))) ?_
    refine TL.mv ?_
    refine TL.pcallCod (k := 2) (α := {x : Nat // x ≤ 65535 ∧ (1 ≤ (300 : Int) → (x : Int) < 300)}) (fun y => .int .i64 (y.1 : Int)) (fun y => []) rfl rfl rfl rfl rfl Tryz.func25 (by decide) rfl rfl (fun w1 hw hC1 => next_cod cb w1 300 hC1) ?_
    rintro ⟨x47, hx471, hx472⟩
    dsimp only [List.cons_append, List.nil_append] at hx471 hx472 ⊢
    replace hx472 := hx472 (by omega)
    refine TL.mv ?_
    refine TL.pcallCod (k := 2) (α := {x : Nat // x ≤ 65535 ∧ (1 ≤ (2 : Int) → (x : Int) < 2)}) (fun y => .int .i64 (y.1 : Int)) (fun y => []) rfl rfl rfl rfl rfl Tryz.func25 (by decide) rfl rfl (fun w1 hw hC1 => next_cod cb w1 2 hC1) ?_
    rintro ⟨x49, hx491, hx492⟩
    dsimp only [List.cons_append, List.nil_append] at hx491 hx492 ⊢
    replace hx492 := hx492 (by omega)
    refine TL.v (gD (1 + ((x49 : Nat) : Int))) ?_
    refine TL.val rfl rfl rfl (gives_build (v := .agg #[.int .u32 z37, .int .i64 (1 + ((x39 : Nat) : Int)), .int .i64 ((x42 : Nat) : Int), .int .i64 (60 + ((x44 : Nat) : Int)), .int .i64 ((x47 : Nat) : Int), .int .i64 (1 + ((x49 : Nat) : Int))]) rfl rfl (fun w => jdrbld25_14255 _ _ _ _ _ _ w)) ?_
    refine TL.v (gF prsfld47_11) ?_
    refine TL.pstore (k := 0) (vs := [.int .u32 z37, .int .i64 (1 + ((x39 : Nat) : Int)), .int .i64 ((x42 : Nat) : Int), .int .i64 (60 + ((x44 : Nat) : Int)), .int .i64 ((x47 : Nat) : Int), .int .i64 (1 + ((x49 : Nat) : Int))]) rfl rfl rfl rfl rfl rfl rfl dresz45 dreone_u32i64i64i64i64i64 (by show 17 ≤ 17; decide) rfl ?_
    refine zE ?_
    exact TX.joined (⟨⟨((x5 : Nat) : Int), ((x7 : Nat) : Int), ((x9 : Nat) : Int), ((x11 : Nat) : Int), z13, z15, ((x17 : Nat) : Int), 1 + ((x19 : Nat) : Int), true, false, ((x11 : Nat) : Int) + ((x25 : Nat) : Int), z37, 1 + ((x39 : Nat) : Int), ((x42 : Nat) : Int), 60 + ((x44 : Nat) : Int), ((x47 : Nat) : Int), 1 + ((x49 : Nat) : Int)⟩, by unfold Rs.Ok; dsimp only; omega⟩) (⟨rfl, rfl, rfl, trivial⟩) (fun w1 hw => hw)
  ·refine zET (zd (zk ?_))
   exact TX.joined (⟨⟨((x5 : Nat) : Int), ((x7 : Nat) : Int), ((x9 : Nat) : Int), ((x11 : Nat) : Int), z13, z15, ((x17 : Nat) : Int), 1 + ((x19 : Nat) : Int), false, false, ((x11 : Nat) : Int) + ((x25 : Nat) : Int), 0, 0, 0, 0, 0, 0⟩, by unfold Rs.Ok; dsimp only; omega⟩) (⟨rfl, rfl, rfl, trivial⟩) (fun w1 hw => hw)
 ·rintro ⟨r, hr⟩
  unfold Rs.Ok at hr
  dsimp only at hr ⊢
  refine zS (zSG ?_)
  refine TL.mv ?_
  refine TL.pcallCod (k := 2) (α := {x : Nat // x ≤ 65535 ∧ (1 ≤ (16 : Int) → (x : Int) < 16)}) (fun y => .int .i64 (y.1 : Int)) (fun y => []) rfl rfl rfl rfl rfl Tryz.func25 (by decide) rfl rfl (fun w1 hw hC1 => next_cod cb w1 16 hC1) ?_
  rintro ⟨x54, hx541, hx542⟩
  dsimp only [List.cons_append, List.nil_append] at hx541 hx542 ⊢
  replace hx542 := hx542 (by omega)
  refine zET (zB (zSG ?_))
  refine TL.sp bin_eql (fun q56 => ?_) (fun q56 => ?_)
  ·refine TL.as_ ?_
   refine zET (zc (zG ?_))
   refine TL.mv ?_
   refine TL.pcallCod (k := 2) (α := Int) (fun y => .int .i64 y) (fun y => []) rfl rfl rfl rfl rfl Tryz.func114 (by decide) rfl rfl (fun w1 hw hC1 => int_cod cb w1 hC1) ?_
   rintro z58
   dsimp only [List.cons_append, List.nil_append]
   refine TL.mv ?_
   refine TL.pcallCod (k := 2) (α := Int) (fun y => .int .i64 y) (fun y => []) rfl rfl rfl rfl rfl Tryz.func114 (by decide) rfl rfl (fun w1 hw hC1 => int_cod cb w1 hC1) ?_
   rintro z60
   dsimp only [List.cons_append, List.nil_append]
   refine TL.v (gF prsfld47_3) ?_
   refine TL.pstore (k := 0) (vs := [.int .i64 z58]) rfl rfl rfl rfl rfl rfl rfl pcmsz3 dreone_i64 (by show 4 ≤ 17; decide) rfl ?_
   refine TL.v (gF prsfld47_10) ?_
   refine TL.pstore (k := 0) (vs := [.int .i64 z60]) rfl rfl rfl rfl rfl rfl rfl pcmsz3 dreone_i64 (by show 11 ≤ 17; decide) rfl ?_
   refine zE (zN (zT (zSG ?_)))
   refine TL.v (gV 0 (.agg #[.int .i64 r.v, .int .i64 r.run, .int .i64 r.num, .int .i64 z58, .int .u32 r.dst, .int .i64 r.proto, .int .i64 r.flow, .int .i64 r.ttl, .bool r.ans, .bool r.dbl, .int .i64 z60, .int .u32 r.src, .int .i64 r.kind, .int .i64 r.code, .int .i64 r.left, .int .i64 r.id, .int .i64 r.quo]) prsag47 prssz47) ?_
   refine TL.pstore (k := 1) (vs := [.int .i64 r.v, .int .i64 r.run, .int .i64 r.num, .int .i64 z58, .int .u32 r.dst, .int .i64 r.proto, .int .i64 r.flow, .int .i64 r.ttl, .bool r.ans, .bool r.dbl, .int .i64 z60, .int .u32 r.src, .int .i64 r.kind, .int .i64 r.code, .int .i64 r.left, .int .i64 r.id, .int .i64 r.quo]) rfl rfl rfl rfl rfl rfl rfl prssz47 dreone_i64i64i64i64u32i64i64i64bbi64u32i64i64i64i64i64 (by show 17 ≤ 17; decide) rfl ?_
   refine zET (zr ?_)
   exact pm_ret_cell (k := 1) Tryz.results76 rfl rfl Tryz.underlying47 rfl rfl (fun w1 hw => ⟨⟨⟨r.v, r.run, r.num, z58, r.dst, r.proto, r.flow, r.ttl, r.ans, r.dbl, z60, r.src, r.kind, r.code, r.left, r.id, r.quo⟩, by unfold Rs.Ok; dsimp only; omega⟩, rfl, Pm.codr [] (hw.sel (.cons _ (.cons _ (.cons_cons _ (List.Sublist.refl _))))) rfl⟩)
  ·refine TL.as_ ?_
   refine zET (zd (zSG ?_))
   refine TL.sp bin_eql (fun q64 => ?_) (fun q64 => ?_)
   ·refine TL.as_ ?_
    refine zET (zc (zG ?_))
    refine TL.mv ?_
    refine TL.pcallCod (k := 2) (α := Int) (fun y => .int .i64 y) (fun y => []) rfl rfl rfl rfl rfl Tryz.func114 (by decide) rfl rfl (fun w1 hw hC1 => int_cod cb w1 hC1) ?_
    rintro z66
    dsimp only [List.cons_append, List.nil_append]
    refine TL.mv ?_
    refine TL.pcallCod (k := 2) (α := Int) (fun y => .int .i64 y) (fun y => []) rfl rfl rfl rfl rfl Tryz.func114 (by decide) rfl rfl (fun w1 hw hC1 => int_cod cb w1 hC1) ?_
    rintro z68
    dsimp only [List.cons_append, List.nil_append]
    refine TL.mv ?_
    refine TL.pcallCod (k := 2) (α := Int) (fun y => .int .i64 y) (fun y => []) rfl rfl rfl rfl rfl Tryz.func114 (by decide) rfl rfl (fun w1 hw hC1 => int_cod cb w1 hC1) ?_
    rintro z70
    dsimp only [List.cons_append, List.nil_append]
    refine TL.v (gF prsfld47_6) ?_
    refine TL.pstore (k := 0) (vs := [.int .i64 z66]) rfl rfl rfl rfl rfl rfl rfl pcmsz3 dreone_i64 (by show 7 ≤ 17; decide) rfl ?_
    refine TL.v (gF prsfld47_7) ?_
    refine TL.pstore (k := 0) (vs := [.int .i64 z68]) rfl rfl rfl rfl rfl rfl rfl pcmsz3 dreone_i64 (by show 8 ≤ 17; decide) rfl ?_
    refine TL.v (gF prsfld47_5) ?_
    refine TL.pstore (k := 0) (vs := [.int .i64 z70]) rfl rfl rfl rfl rfl rfl rfl pcmsz3 dreone_i64 (by show 6 ≤ 17; decide) rfl ?_
    refine zE (zN (zT (zSG ?_)))
    refine TL.v (gV 0 (.agg #[.int .i64 r.v, .int .i64 r.run, .int .i64 r.num, .int .i64 r.at_, .int .u32 r.dst, .int .i64 z70, .int .i64 z66, .int .i64 z68, .bool r.ans, .bool r.dbl, .int .i64 r.back, .int .u32 r.src, .int .i64 r.kind, .int .i64 r.code, .int .i64 r.left, .int .i64 r.id, .int .i64 r.quo]) prsag47 prssz47) ?_
    refine TL.pstore (k := 1) (vs := [.int .i64 r.v, .int .i64 r.run, .int .i64 r.num, .int .i64 r.at_, .int .u32 r.dst, .int .i64 z70, .int .i64 z66, .int .i64 z68, .bool r.ans, .bool r.dbl, .int .i64 r.back, .int .u32 r.src, .int .i64 r.kind, .int .i64 r.code, .int .i64 r.left, .int .i64 r.id, .int .i64 r.quo]) rfl rfl rfl rfl rfl rfl rfl prssz47 dreone_i64i64i64i64u32i64i64i64bbi64u32i64i64i64i64i64 (by show 17 ≤ 17; decide) rfl ?_
    refine zET (zr ?_)
    exact pm_ret_cell (k := 1) Tryz.results76 rfl rfl Tryz.underlying47 rfl rfl (fun w1 hw => ⟨⟨⟨r.v, r.run, r.num, r.at_, r.dst, z70, z66, z68, r.ans, r.dbl, r.back, r.src, r.kind, r.code, r.left, r.id, r.quo⟩, by unfold Rs.Ok; dsimp only; omega⟩, rfl, Pm.codr [] (hw.sel (.cons _ (.cons _ (.cons_cons _ (List.Sublist.refl _))))) rfl⟩)
   ·refine TL.as_ ?_
    refine zET (zd (zSG ?_))
    refine TL.sp bin_eql (fun q75 => ?_) (fun q75 => ?_)
    ·refine TL.as_ ?_
     refine zET (zc (zG ?_))
     refine TL.mv ?_
     refine TL.pcallCod (k := 2) (α := Int) (fun y => .int .i64 y) (fun y => []) rfl rfl rfl rfl rfl Tryz.func114 (by decide) rfl rfl (fun w1 hw hC1 => int_cod cb w1 hC1) ?_
     rintro z77
     dsimp only [List.cons_append, List.nil_append]
     refine TL.mv ?_
     refine TL.pcallCod (k := 2) (α := Int) (fun y => .int .i64 y) (fun y => []) rfl rfl rfl rfl rfl Tryz.func114 (by decide) rfl rfl (fun w1 hw hC1 => int_cod cb w1 hC1) ?_
     rintro z79
     dsimp only [List.cons_append, List.nil_append]
     refine TL.v (gF prsfld47_11) ?_
     refine TL.v (gF prsfld45_1) ?_
     refine TL.pstore (k := 0) (vs := [.int .i64 z77]) rfl rfl rfl rfl rfl rfl rfl pcmsz3 dreone_i64 (by show 13 ≤ 17; decide) rfl ?_
     refine TL.v (gF prsfld47_11) ?_
     refine TL.v (gF prsfld45_4) ?_
     refine TL.pstore (k := 0) (vs := [.int .i64 z79]) rfl rfl rfl rfl rfl rfl rfl pcmsz3 dreone_i64 (by show 16 ≤ 17; decide) rfl ?_
     refine zE (zN (zT (zSG ?_)))
     refine TL.v (gV 0 (.agg #[.int .i64 r.v, .int .i64 r.run, .int .i64 r.num, .int .i64 r.at_, .int .u32 r.dst, .int .i64 r.proto, .int .i64 r.flow, .int .i64 r.ttl, .bool r.ans, .bool r.dbl, .int .i64 r.back, .int .u32 r.src, .int .i64 z77, .int .i64 r.code, .int .i64 r.left, .int .i64 z79, .int .i64 r.quo]) prsag47 prssz47) ?_
     refine TL.pstore (k := 1) (vs := [.int .i64 r.v, .int .i64 r.run, .int .i64 r.num, .int .i64 r.at_, .int .u32 r.dst, .int .i64 r.proto, .int .i64 r.flow, .int .i64 r.ttl, .bool r.ans, .bool r.dbl, .int .i64 r.back, .int .u32 r.src, .int .i64 z77, .int .i64 r.code, .int .i64 r.left, .int .i64 z79, .int .i64 r.quo]) rfl rfl rfl rfl rfl rfl rfl prssz47 dreone_i64i64i64i64u32i64i64i64bbi64u32i64i64i64i64i64 (by show 17 ≤ 17; decide) rfl ?_
     refine zET (zr ?_)
     exact pm_ret_cell (k := 1) Tryz.results76 rfl rfl Tryz.underlying47 rfl rfl (fun w1 hw => ⟨⟨⟨r.v, r.run, r.num, r.at_, r.dst, r.proto, r.flow, r.ttl, r.ans, r.dbl, r.back, r.src, z77, r.code, r.left, z79, r.quo⟩, by unfold Rs.Ok; dsimp only; omega⟩, rfl, Pm.codr [] (hw.sel (.cons _ (.cons _ (.cons_cons _ (List.Sublist.refl _))))) rfl⟩)
    ·refine TL.as_ ?_
     refine zET (zd (zSG ?_))
     refine TL.sp bin_eql (fun q85 => ?_) (fun q85 => ?_)
     ·refine TL.as_ ?_
      refine zET (zc (zG ?_))
      refine TL.mv ?_
      refine TL.pcallCod (k := 2) (α := Int) (fun y => .int .i64 y) (fun y => []) rfl rfl rfl rfl rfl Tryz.func114 (by decide) rfl rfl (fun w1 hw hC1 => int_cod cb w1 hC1) ?_
      rintro z87
      dsimp only [List.cons_append, List.nil_append]
      refine TL.mv ?_
      refine TL.pcallCod (k := 2) (α := Int) (fun y => .int .i64 y) (fun y => []) rfl rfl rfl rfl rfl Tryz.func114 (by decide) rfl rfl (fun w1 hw hC1 => int_cod cb w1 hC1) ?_
      rintro z89
      dsimp only [List.cons_append, List.nil_append]
      refine TL.mv ?_
      refine TL.pcallCod (k := 2) (α := Int) (fun y => .int .i64 y) (fun y => []) rfl rfl rfl rfl rfl Tryz.func114 (by decide) rfl rfl (fun w1 hw hC1 => int_cod cb w1 hC1) ?_
      rintro z91
      dsimp only [List.cons_append, List.nil_append]
      refine TL.v (gF prsfld47_0) ?_
      refine TL.pstore (k := 0) (vs := [.int .i64 z87]) rfl rfl rfl rfl rfl rfl rfl pcmsz3 dreone_i64 (by show 1 ≤ 17; decide) rfl ?_
      refine TL.v (gF prsfld47_1) ?_
      refine TL.pstore (k := 0) (vs := [.int .i64 z89]) rfl rfl rfl rfl rfl rfl rfl pcmsz3 dreone_i64 (by show 2 ≤ 17; decide) rfl ?_
      refine TL.v (gF prsfld47_2) ?_
      refine TL.pstore (k := 0) (vs := [.int .i64 z91]) rfl rfl rfl rfl rfl rfl rfl pcmsz3 dreone_i64 (by show 3 ≤ 17; decide) rfl ?_
      refine zE (zN (zT (zSG ?_)))
      refine TL.v (gV 0 (.agg #[.int .i64 z87, .int .i64 z89, .int .i64 z91, .int .i64 r.at_, .int .u32 r.dst, .int .i64 r.proto, .int .i64 r.flow, .int .i64 r.ttl, .bool r.ans, .bool r.dbl, .int .i64 r.back, .int .u32 r.src, .int .i64 r.kind, .int .i64 r.code, .int .i64 r.left, .int .i64 r.id, .int .i64 r.quo]) prsag47 prssz47) ?_
      refine TL.pstore (k := 1) (vs := [.int .i64 z87, .int .i64 z89, .int .i64 z91, .int .i64 r.at_, .int .u32 r.dst, .int .i64 r.proto, .int .i64 r.flow, .int .i64 r.ttl, .bool r.ans, .bool r.dbl, .int .i64 r.back, .int .u32 r.src, .int .i64 r.kind, .int .i64 r.code, .int .i64 r.left, .int .i64 r.id, .int .i64 r.quo]) rfl rfl rfl rfl rfl rfl rfl prssz47 dreone_i64i64i64i64u32i64i64i64bbi64u32i64i64i64i64i64 (by show 17 ≤ 17; decide) rfl ?_
      refine zET (zr ?_)
      exact pm_ret_cell (k := 1) Tryz.results76 rfl rfl Tryz.underlying47 rfl rfl (fun w1 hw => ⟨⟨⟨z87, z89, z91, r.at_, r.dst, r.proto, r.flow, r.ttl, r.ans, r.dbl, r.back, r.src, r.kind, r.code, r.left, r.id, r.quo⟩, by unfold Rs.Ok; dsimp only; omega⟩, rfl, Pm.codr [] (hw.sel (.cons _ (.cons _ (.cons_cons _ (List.Sublist.refl _))))) rfl⟩)
     ·refine TL.as_ ?_
      refine zET (zd (zk (zN (zT (zSG ?_)))))
      refine TL.v (gV 0 (.agg (r.cells).toArray) prsag47 prssz47) ?_
      refine TL.pstore (k := 1) (vs := r.cells) rfl rfl rfl rfl rfl rfl rfl prssz47 dreone_i64i64i64i64u32i64i64i64bbi64u32i64i64i64i64i64 (by show 17 ≤ 17; decide) rfl ?_
      refine zET (zr ?_)
      exact pm_ret_cell (k := 1) Tryz.results76 rfl rfl Tryz.underlying47 rfl rfl (fun w1 hw => ⟨⟨⟨r.v, r.run, r.num, r.at_, r.dst, r.proto, r.flow, r.ttl, r.ans, r.dbl, r.back, r.src, r.kind, r.code, r.left, r.id, r.quo⟩, by unfold Rs.Ok; dsimp only; omega⟩, rfl, Pm.codr [] (hw.sel (.cons _ (.cons _ (.cons_cons _ (List.Sublist.refl _))))) rfl⟩)
set_option maxRecDepth 20000
theorem set_at {α : Type} {l : List α} {i : Nat} {x y : α} (h : l[i]? = some x) : (l.set i y)[i]? = some y := List.getElem?_set_self (List.getElem?_eq_some_iff.1 h).1
theorem set_self {l : List Rs} {i : Nat} {x : Rs} (h : l[i]? = some x) : l.set i ⟨x.v, x.run, x.num, x.at_, x.dst, x.proto, x.flow, x.ttl, x.ans, x.dbl, x.back, x.src, x.kind, x.code, x.left, x.id, x.quo⟩ = l := by
 obtain ⟨h1, rfl⟩ := List.getElem?_eq_some_iff.1 h
 exact List.set_getElem_self h1
theorem ok_set {l : List Rs} {i : Nat} {y : Rs} (h : ∀ r ∈ l, r.Ok) (hy : y.Ok) : ∀ r ∈ l.set i y, r.Ok := fun r hr => by
 rcases List.mem_or_eq_of_mem_set hr with h1 | h1
 ·exact h r h1
 ·rw [h1]; exact hy
theorem ok_one {l : List Rs} {x : Rs} (h : l.length = 0) (hx : x.Ok) : ∀ r ∈ l ++ [x], r.Ok := fun r hr => by
 rw [List.eq_nil_of_length_eq_zero h, List.nil_append, List.mem_singleton] at hr
 rw [hr]; exact hx
theorem dodbs48_5_22075 (a0_0 : Int) (a1_0 : Int) (a2_0 : Int) (a3_0 : Int) (a4_0 : Int) (w : World) : (Instr.buildSlice 48 5 #[(0, .int .i64 a0_0), (1, .int .i64 a1_0), (2, .int .i64 a2_0), (3, .int .i64 a3_0), (4, .int .i64 a4_0)]).run Tryz.prog w = .ok (.slice (some ⟨w.heap.size, 0, none⟩) 5 5) (w.alloc (.cells [.int .i64 a0_0, .int .i64 a1_0, .int .i64 a2_0, .int .i64 a3_0, .int .i64 a4_0].toArray 3)) := by kernel_rfl
theorem dodbs48_4_78574 (a0_0 : Int) (a1_0 : Int) (a2_0 : Int) (a3_0 : Int) (w : World) : (Instr.buildSlice 48 4 #[(0, .int .i64 a0_0), (1, .int .i64 a1_0), (2, .int .i64 a2_0), (3, .int .i64 a3_0)]).run Tryz.prog w = .ok (.slice (some ⟨w.heap.size, 0, none⟩) 4 4) (w.alloc (.cells [.int .i64 a0_0, .int .i64 a1_0, .int .i64 a2_0, .int .i64 a3_0].toArray 3)) := by kernel_rfl
set_option maxHeartbeats 1000000 in
theorem odd_fr (w0 : Base) (F : List Pc) (cb : Nat) (A0 : Option Addr) (c0 : Nat) (l : List Rs) (w : World) (hw0 : Pm w0 ([.abs cb (fun w => Cod w cb), .row (.slice A0 l.length c0) 47 17 l.length (flat Rs.cells l)] ++ F) w) (hm1 : l.length ≤ 10000) (hok : ∀ r ∈ l, r.Ok) :
  Calls Tryz.prog 24 #[.pointer (some ⟨cb, 0, none⟩), .slice A0 l.length c0] w fun e w' => ∃ x : {y : (Option Addr × Nat) × List Rs // (∀ r ∈ y.2, r.Ok) ∧ y.2.length ≤ l.length + 1 ∧ y.2.length ≤ y.1.2 ∧ y.1.2 ≤ maxLen}, e = .returned (.slice x.1.1.1 x.1.2.length x.1.1.2) ∧ Pm w0 (.row (.slice x.1.1.1 x.1.2.length x.1.1.2) 47 17 x.1.2.length (flat Rs.cells x.1.2) :: [.abs cb (fun w => Cod w cb), .row (.slice A0 l.length c0) 47 17 l.length (flat Rs.cells l)] ++ F) w' := by
 refine begin_ (vs := [.pointer (some ⟨cb, 0, none⟩), .slice A0 l.length c0]) (I := Pm w0 ([.abs cb (fun w => Cod w cb), .row (.slice A0 l.length c0) 47 17 l.length (flat Rs.cells l)] ++ F)) Tryz.func24 rfl rfl rfl ?_ hw0
 refine zSG ?_
 refine TL.as_ ?_
 refine zET (zSG ?_)
 refine TL.mv ?_
 refine TL.nilrow 47 17 ?_
 refine TL.appendT (k := 0) rfl rfl rfl rfl Tryz.underlying26 porel26 rfl rfl rfl (fun w1 hw => pm_reads hw (k := 2) rfl) (flat_one rs_cel _) (by show _ * 128 ≤ _; omega) (l.length) (by simp) (flat Rs.cells l) (rfl) (fun A8 c8 hA81 hA82 => ?_)
 refine TL.as_ ?_
 refine zET (zS (zSG ?_))
 refine TL.mv ?_
 refine TL.v (gN Tryz.underlying26) ?_
 refine TL.sp bin_eql (fun q11 => ?_) (fun q11 => ?_)
 ·refine zET (zc (zSG ?_))
  refine TL.rn 2 rfl ?_
  refine TL.pcallCod (k := 1) (α := {z : Rs // z.Ok}) (fun q9 => .agg (q9.1.cells).toArray) (fun q9 => []) rfl rfl rfl rfl rfl Tryz.func76 (by decide) rfl rfl (fun w1 hw hC1 => result_cod cb w1 hC1) ?_
  rintro ⟨rs, hrs⟩
  dsimp only [List.cons_append, List.nil_append]
  refine TL.prowS (e := 47) (size := 17) (cs := flat Rs.cells [rs]) rfl rfl rfl rfl rfl (fun w => porbs26_1_99505 _ _ _ _ _ _ _ _ _ _ _ _ _ _ _ _ _ w) (by decide) rfl (fun g15 => ?_)
  refine TL.appendT (k := 1) rfl rfl rfl rfl Tryz.underlying26 porel26 rfl rfl rfl (fun w1 hw => pm_reads hw (k := 0) rfl) (flat_one rs_cel _) (by show _ * 128 ≤ _; omega) ((l ++ [rs]).length) (by rw [List.length_append]; rfl) (flat Rs.cells (l ++ [rs])) ((flat_app _ _).symm) (fun A16 c16 hA161 hA162 => ?_)
  refine TL.as_ ?_
  refine zET (zr (zR ?_))
  exact ret_tmp Tryz.results24 rfl (fun w1 hw => ⟨⟨((A16, c16), l ++ [rs]), ok_one (by omega) hrs, by dsimp only; rw [List.length_append]; show l.length + 1 ≤ _; omega, hA161, hA162⟩, rfl, hw.sel (.cons _ (.cons_cons _ (.cons_cons _ (.cons_cons _ (List.Sublist.refl _)))))⟩)
 ·refine zET (zd (zk (zT (zSG ?_))))
  refine TL.rn 2 rfl ?_
  refine TL.v (gN Tryz.underlying26) ?_
  refine TL.pcallCod (k := 1) (α := {q9 : Nat // q9 ≤ 65535 ∧ (1 ≤ ((l.length : Nat) : Int) → (q9 : Int) < (l.length : Nat))}) (fun q9 => .int .i64 ((q9.1 : Nat) : Int)) (fun q9 => []) rfl rfl rfl rfl rfl Tryz.func25 (by decide) rfl rfl (fun w1 hw hC1 => next_cod cb w1 (l.length : Nat) hC1) ?_
  rintro ⟨i, hi1, hi2⟩
  dsimp only [List.cons_append, List.nil_append]
  refine TL.as_ ?_
  refine zET (zS (zSG ?_))
  refine TL.mv ?_
  refine TL.pcallCod (k := 1) (α := {q9 : Nat // q9 ≤ 65535 ∧ (1 ≤ (9 : Int) → (q9 : Int) < 9)}) (fun q9 => .int .i64 ((q9.1 : Nat) : Int)) (fun q9 => []) rfl rfl rfl rfl rfl Tryz.func25 (by decide) rfl rfl (fun w1 hw hC1 => next_cod cb w1 9 hC1) ?_
  rintro ⟨sel, hsel1, hsel2⟩
  dsimp only [List.cons_append, List.nil_append]
  refine zET (zB (zSG ?_))
  refine TL.sp bin_eql (fun q24 => ?_) (fun q24 => ?_)
  ·refine TL.as_ ?_
   refine zET (zc (zG ?_))
   refine TL.rn 3 rfl ?_
   refine TL.pcallCod (k := 1) (α := {z : Rs // z.Ok}) (fun q9 => .agg (q9.1.cells).toArray) (fun q9 => []) rfl rfl rfl rfl rfl Tryz.func76 (by decide) rfl rfl (fun w1 hw hC1 => result_cod cb w1 hC1) ?_
   rintro ⟨rs2, hrs2⟩
   dsimp only [List.cons_append, List.nil_append]
   refine TL.fact (p := ∃ g, A8 = some ⟨g, 0, none⟩) (fun w1 hw => rowA hw (k := 0) rfl (by omega)) ?_
   rintro ⟨g_A8, rfl⟩
   have hi29 : i < l.length := by omega
   obtain ⟨x29, hx29⟩ := ex_at hi29
   have hokx29 := hok x29 (List.mem_of_getElem? hx29)
   unfold Rs.Ok at hokx29
   refine TL.val rfl rfl rfl (gA (i := i) Tryz.underlying26 prssz47 rfl rfl rfl rfl rfl (by omega)) ?_
   refine TL.rowset (k := 0) (vs := rs2.cells) (xs' := flat Rs.cells (l.set i rs2)) rfl rfl rfl rfl rfl rfl rfl prssz47 (rs_cel.one _) (by rw [flat_len rs_cel]; show 0 + i * 17 + 17 ≤ _; omega) (flat_put rs_cel (q := 0) (y := rs2) hx29 (by show 0 + 17 ≤ 17; decide) rfl) ?_
   try dsimp only [List.set_cons_zero, List.set_cons_succ]
   refine zE (zN (zT (zSG ?_)))
   refine TL.rn 2 rfl ?_
   refine zET (zr ?_)
   exact ret_tmp Tryz.results24 rfl (fun w1 hw => ⟨⟨(((some ⟨g_A8, 0, none⟩), c8), l.set i rs2), ok_set hok (by first | exact hrs2 | (have h9 := hok _ (List.mem_of_getElem? (by assumption)); unfold Rs.Ok at h9 ⊢; dsimp only; omega)), by dsimp only; rw [List.length_set]; omega, by dsimp only; rw [List.length_set]; exact hA81, hA82⟩, by dsimp only; try rw [List.length_set], by dsimp only; try rw [List.length_set]; exact hw⟩)
  ·refine TL.as_ ?_
   refine zET (zd (zSG ?_))
   refine TL.sp bin_eql (fun q31 => ?_) (fun q31 => ?_)
   ·refine TL.as_ ?_
    refine zET (zc (zG ?_))
    refine TL.rn 3 rfl ?_
    refine TL.pcallCod (k := 1) (α := {a : Int // 167772161 ≤ a ∧ a ≤ 167772173}) (fun x => .int .u32 x.1) (fun x => []) rfl rfl rfl rfl rfl Tryz.func77 (by decide) rfl rfl (fun w1 hw hC1 => daddr_cod cb w1 hC1) ?_
    rintro ⟨ad, had1, had2⟩
    dsimp only [List.cons_append, List.nil_append]
    refine TL.fact (p := ∃ g, A8 = some ⟨g, 0, none⟩) (fun w1 hw => rowA hw (k := 0) rfl (by omega)) ?_
    rintro ⟨g_A8, rfl⟩
    have hi36 : i < l.length := by omega
    obtain ⟨x36, hx36⟩ := ex_at hi36
    have hokx36 := hok x36 (List.mem_of_getElem? hx36)
    unfold Rs.Ok at hokx36
    refine TL.val rfl rfl rfl (gA (i := i) Tryz.underlying26 prssz47 rfl rfl rfl rfl rfl (by omega)) ?_
    refine TL.v (gF prsfld47_11) ?_
    refine TL.v (gF prsfld45_0) ?_
    refine TL.rowset (k := 0) (vs := [.int .u32 ad]) (xs' := flat Rs.cells (l.set i (⟨x36.v, x36.run, x36.num, x36.at_, x36.dst, x36.proto, x36.flow, x36.ttl, x36.ans, x36.dbl, x36.back, ad, x36.kind, x36.code, x36.left, x36.id, x36.quo⟩ : Rs))) rfl rfl rfl rfl rfl rfl rfl dntsz30 dntone_u32 (by rw [flat_len rs_cel]; show 0 + i * 17 + 11 + 1 ≤ _; omega) (flat_put rs_cel (q := 11) (y := (⟨x36.v, x36.run, x36.num, x36.at_, x36.dst, x36.proto, x36.flow, x36.ttl, x36.ans, x36.dbl, x36.back, ad, x36.kind, x36.code, x36.left, x36.id, x36.quo⟩ : Rs)) hx36 (by show 11 + 1 ≤ 17; decide) rfl) ?_
    try dsimp only [List.set_cons_zero, List.set_cons_succ]
    refine zE (zN (zT (zSG ?_)))
    refine TL.rn 2 rfl ?_
    refine zET (zr ?_)
    exact ret_tmp Tryz.results24 rfl (fun w1 hw => ⟨⟨(((some ⟨g_A8, 0, none⟩), c8), l.set i (⟨x36.v, x36.run, x36.num, x36.at_, x36.dst, x36.proto, x36.flow, x36.ttl, x36.ans, x36.dbl, x36.back, ad, x36.kind, x36.code, x36.left, x36.id, x36.quo⟩ : Rs)), ok_set hok (by first | exact hrs2 | (have h9 := hok _ (List.mem_of_getElem? (by assumption)); unfold Rs.Ok at h9 ⊢; dsimp only; omega)), by dsimp only; rw [List.length_set]; omega, by dsimp only; rw [List.length_set]; exact hA81, hA82⟩, by dsimp only; try rw [List.length_set], by dsimp only; try rw [List.length_set]; exact hw⟩)
   ·refine TL.as_ ?_
    refine zET (zd (zSG ?_))
    refine TL.sp bin_eql (fun q40 => ?_) (fun q40 => ?_)
    ·refine TL.as_ ?_
     refine zET (zc (zG ?_))
     refine TL.rn 4 rfl ?_
     refine TL.fact (p := ∃ g, A8 = some ⟨g, 0, none⟩) (fun w1 hw => rowA hw (k := 0) rfl (by omega)) ?_
     rintro ⟨g_A8, rfl⟩
     have hi45 : i < l.length := by omega
     obtain ⟨x45, hx45⟩ := ex_at hi45
     have hokx45 := hok x45 (List.mem_of_getElem? hx45)
     unfold Rs.Ok at hokx45
     refine TL.val rfl rfl rfl (gA (i := i) Tryz.underlying26 prssz47 rfl rfl rfl rfl rfl (by omega)) ?_
     refine TL.v (gF prsfld47_8) ?_
     refine TL.vsplit rfl rfl rfl (gives_load (v := .bool x45.ans) rfl rfl prsag4 (fun w1 hw => flat_row rs_cel hw (q := 0) rfl hx45 8 _ rfl)) (fun h47 => ?_) (fun h47 => ?_)
     ·refine TL.val rfl rfl rfl (gives_boolnot rfl rfl) ?_
      refine TL.val rfl rfl rfl (gA (i := i) Tryz.underlying26 prssz47 rfl rfl rfl rfl rfl (by omega)) ?_
      refine TL.v (gF prsfld47_8) ?_
      refine TL.rowset (k := 0) (vs := [.bool false]) (xs' := flat Rs.cells (l.set i (⟨x45.v, x45.run, x45.num, x45.at_, x45.dst, x45.proto, x45.flow, x45.ttl, false, x45.dbl, x45.back, x45.src, x45.kind, x45.code, x45.left, x45.id, x45.quo⟩ : Rs))) rfl rfl rfl rfl rfl rfl rfl dresz4 dreone_b (by rw [flat_len rs_cel]; show 0 + i * 17 + 8 + 1 ≤ _; omega) (flat_put rs_cel (q := 8) (y := (⟨x45.v, x45.run, x45.num, x45.at_, x45.dst, x45.proto, x45.flow, x45.ttl, false, x45.dbl, x45.back, x45.src, x45.kind, x45.code, x45.left, x45.id, x45.quo⟩ : Rs)) hx45 (by show 8 + 1 ≤ 17; decide) rfl) ?_
      try dsimp only [List.set_cons_zero, List.set_cons_succ]
      refine zE (zN (zT (zSG ?_)))
      refine TL.rn 2 rfl ?_
      refine zET (zr ?_)
      exact ret_tmp Tryz.results24 rfl (fun w1 hw => ⟨⟨(((some ⟨g_A8, 0, none⟩), c8), l.set i (⟨x45.v, x45.run, x45.num, x45.at_, x45.dst, x45.proto, x45.flow, x45.ttl, false, x45.dbl, x45.back, x45.src, x45.kind, x45.code, x45.left, x45.id, x45.quo⟩ : Rs)), ok_set hok (by first | exact hrs2 | (have h9 := hok _ (List.mem_of_getElem? (by assumption)); unfold Rs.Ok at h9 ⊢; dsimp only; omega)), by dsimp only; rw [List.length_set]; omega, by dsimp only; rw [List.length_set]; exact hA81, hA82⟩, by dsimp only; try rw [List.length_set], by dsimp only; try rw [List.length_set]; exact hw⟩)
     ·refine TL.val rfl rfl rfl (gives_boolnot rfl rfl) ?_
      refine TL.val rfl rfl rfl (gA (i := i) Tryz.underlying26 prssz47 rfl rfl rfl rfl rfl (by omega)) ?_
      refine TL.v (gF prsfld47_8) ?_
      refine TL.rowset (k := 0) (vs := [.bool true]) (xs' := flat Rs.cells (l.set i (⟨x45.v, x45.run, x45.num, x45.at_, x45.dst, x45.proto, x45.flow, x45.ttl, true, x45.dbl, x45.back, x45.src, x45.kind, x45.code, x45.left, x45.id, x45.quo⟩ : Rs))) rfl rfl rfl rfl rfl rfl rfl dresz4 dreone_b (by rw [flat_len rs_cel]; show 0 + i * 17 + 8 + 1 ≤ _; omega) (flat_put rs_cel (q := 8) (y := (⟨x45.v, x45.run, x45.num, x45.at_, x45.dst, x45.proto, x45.flow, x45.ttl, true, x45.dbl, x45.back, x45.src, x45.kind, x45.code, x45.left, x45.id, x45.quo⟩ : Rs)) hx45 (by show 8 + 1 ≤ 17; decide) rfl) ?_
      try dsimp only [List.set_cons_zero, List.set_cons_succ]
      refine zE (zN (zT (zSG ?_)))
      refine TL.rn 2 rfl ?_
      refine zET (zr ?_)
      exact ret_tmp Tryz.results24 rfl (fun w1 hw => ⟨⟨(((some ⟨g_A8, 0, none⟩), c8), l.set i (⟨x45.v, x45.run, x45.num, x45.at_, x45.dst, x45.proto, x45.flow, x45.ttl, true, x45.dbl, x45.back, x45.src, x45.kind, x45.code, x45.left, x45.id, x45.quo⟩ : Rs)), ok_set hok (by first | exact hrs2 | (have h9 := hok _ (List.mem_of_getElem? (by assumption)); unfold Rs.Ok at h9 ⊢; dsimp only; omega)), by dsimp only; rw [List.length_set]; omega, by dsimp only; rw [List.length_set]; exact hA81, hA82⟩, by dsimp only; try rw [List.length_set], by dsimp only; try rw [List.length_set]; exact hw⟩)
    ·refine TL.as_ ?_
     refine zET (zd (zSG ?_))
     refine TL.sp bin_eql (fun q52 => ?_) (fun q52 => ?_)
     ·refine TL.as_ ?_
      refine zET (zc (zG ?_))
      refine TL.rn 3 rfl ?_
      refine TL.prowS (e := 3) (size := 1) (cs := flat (ic .i64) [0, 1, 2, 255, 256]) rfl rfl rfl rfl rfl (fun w => dodbs48_5_22075 _ _ _ _ _ w) (by decide) rfl (fun g56 => ?_)
      refine TL.pcallCod (k := 2) (α := {v : Int // v ∈ ([0, 1, 2, 255, 256] : List Int)}) (fun x => .int .i64 x.1) (fun x => []) rfl rfl rfl rfl rfl Tryz.func75 (by decide) rfl rfl (fun w1 hw hC1 => pick_cod cb w1 hC1 g56 5 ([0, 1, 2, 255, 256]) (hw.neq (i := 0) (j := 2) rfl rfl (by decide) g56 rfl <| congrArg some ·.symm) (Pc.lt (hw.at_ (k := 0) rfl) g56 rfl).2 (by show 0 < ([0, 1, 2, 255, 256] : List Int).length; simp) (fun i v hi => flat_row1 hw (q := 0) rfl hi)) ?_
      rintro ⟨pk, hpk⟩
      dsimp only [List.cons_append, List.nil_append]
      refine TL.fact (p := ∃ g, A8 = some ⟨g, 0, none⟩) (fun w1 hw => rowA hw (k := 1) rfl (by omega)) ?_
      rintro ⟨g_A8, rfl⟩
      have hi58 : i < l.length := by omega
      obtain ⟨x58, hx58⟩ := ex_at hi58
      have hokx58 := hok x58 (List.mem_of_getElem? hx58)
      unfold Rs.Ok at hokx58
      refine TL.val rfl rfl rfl (gA (i := i) Tryz.underlying26 prssz47 rfl rfl rfl rfl rfl (by omega)) ?_
      refine TL.v (gF prsfld47_7) ?_
      refine TL.rowset (k := 1) (vs := [.int .i64 pk]) (xs' := flat Rs.cells (l.set i (⟨x58.v, x58.run, x58.num, x58.at_, x58.dst, x58.proto, x58.flow, pk, x58.ans, x58.dbl, x58.back, x58.src, x58.kind, x58.code, x58.left, x58.id, x58.quo⟩ : Rs))) rfl rfl rfl rfl rfl rfl rfl pcmsz3 dreone_i64 (by rw [flat_len rs_cel]; show 0 + i * 17 + 7 + 1 ≤ _; omega) (flat_put rs_cel (q := 7) (y := (⟨x58.v, x58.run, x58.num, x58.at_, x58.dst, x58.proto, x58.flow, pk, x58.ans, x58.dbl, x58.back, x58.src, x58.kind, x58.code, x58.left, x58.id, x58.quo⟩ : Rs)) hx58 (by show 7 + 1 ≤ 17; decide) rfl) ?_
      try dsimp only [List.set_cons_zero, List.set_cons_succ]
      refine zE (zN (zT (zSG ?_)))
      refine TL.rn 2 rfl ?_
      refine zET (zr ?_)
      exact ret_tmp Tryz.results24 rfl (fun w1 hw => ⟨⟨(((some ⟨g_A8, 0, none⟩), c8), l.set i (⟨x58.v, x58.run, x58.num, x58.at_, x58.dst, x58.proto, x58.flow, pk, x58.ans, x58.dbl, x58.back, x58.src, x58.kind, x58.code, x58.left, x58.id, x58.quo⟩ : Rs)), ok_set hok (by first | exact hrs2 | (have h9 := hok _ (List.mem_of_getElem? (by assumption)); unfold Rs.Ok at h9 ⊢; dsimp only; omega)), by dsimp only; rw [List.length_set]; omega, by dsimp only; rw [List.length_set]; exact hA81, hA82⟩, by dsimp only; try rw [List.length_set], by dsimp only; try rw [List.length_set]; exact hw.sel (.cons _ (.cons_cons _ (.cons_cons _ (.cons_cons _ (List.Sublist.refl _)))))⟩)
     ·refine TL.as_ ?_
      refine zET (zd (zSG ?_))
      refine TL.sp bin_eql (fun q61 => ?_) (fun q61 => ?_)
      ·refine TL.as_ ?_
       refine zET (zc ?_)
       refine TC.fact (p := ∃ g, A8 = some ⟨g, 0, none⟩) (fun w1 hw => rowA hw (k := 0) rfl (by omega)) ?_
       rintro ⟨g_A8, rfl⟩
       have hi67 : i < l.length := by omega
       obtain ⟨x67, hx67⟩ := ex_at hi67
       have hokx67 := hok x67 (List.mem_of_getElem? hx67)
       unfold Rs.Ok at hokx67
       refine TC.held (ls := #[Ff,Ff,Ff,Ff,Ff,Ff,Ff,Ff,Ff,Ff,Ff,Ff,Ff,Ff,Ff,Ff,Ff,Ff,Ff]) (fun w1 => ∃ b : Int, Pm w0 [.row (.slice (some ⟨g_A8, 0, none⟩) l.length c8) 47 17 l.length (flat Rs.cells (l.set i (⟨x67.v, x67.run, x67.num, x67.at_, x67.dst, x67.proto, x67.flow, x67.ttl, x67.ans, x67.dbl, b, x67.src, x67.kind, x67.code, x67.left, x67.id, x67.quo⟩ : Rs)))] w1) (by kernel_rfl) rfl rfl (fun w hw => hw.drawn _) ?_
       refine TH.tk 0 rfl rfl rfl (gives_move rfl rfl) (fun w1 hw => ⟨x67.back, by rw [set_self hx67]; exact hw.pick [0] (by decide) rfl⟩) ?_
       refine TH.tk 1 rfl rfl rfl (gives_move rfl rfl) (fun w1 hw => ⟨x67.back, by rw [set_self hx67]; exact hw.pick [0] (by decide) rfl⟩) ?_
       refine TH.tk 2 rfl rfl rfl (gives_move rfl rfl) (fun w1 hw => ⟨x67.back, by rw [set_self hx67]; exact hw.pick [0] (by decide) rfl⟩) ?_
       refine TH.tk 3 rfl rfl rfl (gives_move rfl rfl) (fun w1 hw => ⟨x67.back, by rw [set_self hx67]; exact hw.pick [0] (by decide) rfl⟩) ?_
       refine TH.tk 4 rfl rfl rfl (gives_move rfl rfl) (fun w1 hw => ⟨x67.back, by rw [set_self hx67]; exact hw.pick [0] (by decide) rfl⟩) ?_
       refine TH.tk 5 rfl rfl rfl (gA (i := i) Tryz.underlying26 prssz47 rfl rfl rfl rfl rfl (by omega)) (fun w1 hw => ⟨x67.back, by rw [set_self hx67]; exact hw.pick [0] (by decide) rfl⟩) ?_
       refine TH.tk 6 rfl rfl rfl (gF prsfld47_3) (fun w1 hw => ⟨x67.back, by rw [set_self hx67]; exact hw.pick [0] (by decide) rfl⟩) ?_
       refine TH.tk 7 rfl rfl rfl (gives_load (v := .int .i64 x67.at_) rfl rfl pcmag3 (fun w1 hw => by obtain ⟨b, hw⟩ := hw; exact flat_row rs_cel hw (q := 0) rfl (set_at hx67) 3 _ rfl)) (fun w1 hw => ⟨x67.back, by rw [set_self hx67]; exact hw.pick [0] (by decide) rfl⟩) ?_
       refine TH.tk 8 rfl rfl rfl (gives_move rfl rfl) (fun w1 hw => ⟨x67.back, by rw [set_self hx67]; exact hw.pick [0] (by decide) rfl⟩) ?_
       refine TH.tk 9 rfl rfl rfl (gives_move rfl rfl) (fun w1 hw => ⟨x67.back, by rw [set_self hx67]; exact hw.pick [0] (by decide) rfl⟩) ?_
       refine TH.tk 10 rfl rfl rfl (gA (i := i) Tryz.underlying26 prssz47 rfl rfl rfl rfl rfl (by omega)) (fun w1 hw => ⟨x67.back, by rw [set_self hx67]; exact hw.pick [0] (by decide) rfl⟩) ?_
       refine TH.tk 11 rfl rfl rfl (gF prsfld47_3) (fun w1 hw => ⟨x67.back, by rw [set_self hx67]; exact hw.pick [0] (by decide) rfl⟩) ?_
       refine TH.tk 12 rfl rfl rfl (gives_load (v := .int .i64 x67.at_) rfl rfl pcmag3 (fun w1 hw => by obtain ⟨b, hw⟩ := hw; exact flat_row rs_cel hw (q := 0) rfl (set_at hx67) 3 _ rfl)) (fun w1 hw => ⟨x67.back, by rw [set_self hx67]; exact hw.pick [0] (by decide) rfl⟩) ?_
       refine TH.tk 13 rfl rfl rfl (gives_bin rfl rfl rfl (fun w => bin_sub_ (r := IntKind.i64.wrap (x67.at_ - 1)) (rfl) w)) (fun w1 hw => ⟨x67.back, by rw [set_self hx67]; exact hw.pick [0] (by decide) rfl⟩) ?_
       refine TH.only' 14 rfl (by kernel_rfl) rfl ?_
       refine TL.prowS (e := 3) (size := 1) (cs := flat (ic .i64) [x67.at_, IntKind.i64.wrap (x67.at_ - 1), 2251799813685248, 2251799813685249]) rfl rfl rfl rfl rfl (fun w => dodbs48_4_78574 _ _ _ _ w) (by decide) rfl (fun g76 => ?_)
       refine zE ?_
       refine TX.held (fun w1 hw => ⟨x67.back, by rw [set_self hx67]; exact hw.pick [1] (by decide) rfl⟩) ?_
       refine TH.only' 15 rfl (by kernel_rfl) rfl ?_
       refine TL.pcallCod (k := 2) (α := {v : Int // v ∈ ([x67.at_, IntKind.i64.wrap (x67.at_ - 1), 2251799813685248, 2251799813685249] : List Int)}) (fun x => .int .i64 x.1) (fun x => []) rfl rfl rfl rfl rfl Tryz.func75 (by decide) rfl rfl (fun w1 hw hC1 => pick_cod cb w1 hC1 g76 4 ([x67.at_, IntKind.i64.wrap (x67.at_ - 1), 2251799813685248, 2251799813685249]) (hw.neq (i := 0) (j := 2) rfl rfl (by decide) g76 rfl <| congrArg some ·.symm) (Pc.lt (hw.at_ (k := 0) rfl) g76 rfl).2 (by show 0 < ([x67.at_, IntKind.i64.wrap (x67.at_ - 1), 2251799813685248, 2251799813685249] : List Int).length; simp) (fun i v hi => flat_row1 hw (q := 0) rfl hi)) ?_
       rintro ⟨pk, hpk⟩
       dsimp only [List.cons_append, List.nil_append]
       refine zE ?_
       refine TX.held (fun w1 hw => ⟨x67.back, by rw [set_self hx67]; exact hw.pick [1] (by decide) rfl⟩) ?_
       refine TH.tk 16 rfl rfl rfl (gA (i := i) Tryz.underlying26 prssz47 rfl rfl rfl rfl rfl (by omega)) (fun w1 hw => ⟨x67.back, by rw [set_self hx67]; exact hw.pick [1] (by decide) rfl⟩) ?_
       refine TH.tk 17 rfl rfl rfl (gF prsfld47_10) (fun w1 hw => ⟨x67.back, by rw [set_self hx67]; exact hw.pick [1] (by decide) rfl⟩) ?_
       refine TH.only' 18 rfl (by kernel_rfl) rfl ?_
       refine TL.rowset (k := 1) (vs := [.int .i64 pk]) (xs' := flat Rs.cells (l.set i (⟨x67.v, x67.run, x67.num, x67.at_, x67.dst, x67.proto, x67.flow, x67.ttl, x67.ans, x67.dbl, pk, x67.src, x67.kind, x67.code, x67.left, x67.id, x67.quo⟩ : Rs))) rfl rfl rfl rfl rfl rfl rfl pcmsz3 dreone_i64 (by rw [flat_len rs_cel]; show 0 + i * 17 + 10 + 1 ≤ _; omega) (flat_put rs_cel (q := 10) (y := (⟨x67.v, x67.run, x67.num, x67.at_, x67.dst, x67.proto, x67.flow, x67.ttl, x67.ans, x67.dbl, pk, x67.src, x67.kind, x67.code, x67.left, x67.id, x67.quo⟩ : Rs)) hx67 (by show 10 + 1 ≤ 17; decide) rfl) ?_
       try dsimp only [List.set_cons_zero, List.set_cons_succ]
       refine zE ?_
       refine TX.held (fun w1 hw => ⟨pk, hw.pick [1] (by decide) rfl⟩) ?_
       refine TH.done (by kernel_rfl) ?_
       refine zN (zT (zSG ?_))
       refine TL.rn 2 rfl ?_
       refine zET (zr ?_)
       exact ret_tmp Tryz.results24 rfl (fun w1 hw => ⟨⟨(((some ⟨g_A8, 0, none⟩), c8), l.set i (⟨x67.v, x67.run, x67.num, x67.at_, x67.dst, x67.proto, x67.flow, x67.ttl, x67.ans, x67.dbl, pk, x67.src, x67.kind, x67.code, x67.left, x67.id, x67.quo⟩ : Rs)), ok_set hok (by first | exact hrs2 | (have h9 := hok _ (List.mem_of_getElem? (by assumption)); unfold Rs.Ok at h9 ⊢; dsimp only; omega)), by dsimp only; rw [List.length_set]; omega, by dsimp only; rw [List.length_set]; exact hA81, hA82⟩, by dsimp only; try rw [List.length_set], by dsimp only; try rw [List.length_set]; exact hw.sel (.cons _ (.cons_cons _ (.cons_cons _ (.cons_cons _ (List.Sublist.refl _)))))⟩)
      ·refine TL.as_ ?_
       refine zET (zd (zSG ?_))
       refine TL.sp bin_eql (fun q81 => ?_) (fun q81 => ?_)
       ·refine TL.as_ ?_
        refine zET (zc (zG ?_))
        refine TL.rn 5 rfl ?_
        refine TL.v (gN Tryz.underlying26) ?_
        refine TL.pcallCod (k := 1) (α := {q9 : Nat // q9 ≤ 65535 ∧ (1 ≤ ((l.length : Nat) : Int) → (q9 : Int) < (l.length : Nat))}) (fun q9 => .int .i64 ((q9.1 : Nat) : Int)) (fun q9 => []) rfl rfl rfl rfl rfl Tryz.func25 (by decide) rfl rfl (fun w1 hw hC1 => next_cod cb w1 (l.length : Nat) hC1) ?_
        rintro ⟨j, hj1, hj2⟩
        dsimp only [List.cons_append, List.nil_append]
        refine TL.fact (p := ∃ g, A8 = some ⟨g, 0, none⟩) (fun w1 hw => rowA hw (k := 0) rfl (by omega)) ?_
        rintro ⟨g_A8, rfl⟩
        have hi89 : j < l.length := by omega
        obtain ⟨x89, hx89⟩ := ex_at hi89
        have hokx89 := hok x89 (List.mem_of_getElem? hx89)
        unfold Rs.Ok at hokx89
        refine TL.val rfl rfl rfl (gA (i := j) Tryz.underlying26 prssz47 rfl rfl rfl rfl rfl (by omega)) ?_
        refine TL.v (gF prsfld47_2) ?_
        refine TL.val rfl rfl rfl (gives_load (v := .int .i64 x89.num) rfl rfl pcmag3 (fun w1 hw => flat_row rs_cel hw (q := 0) rfl hx89 2 _ rfl)) ?_
        have hi92 : i < l.length := by omega
        obtain ⟨x92, hx92⟩ := ex_at hi92
        have hokx92 := hok x92 (List.mem_of_getElem? hx92)
        unfold Rs.Ok at hokx92
        refine TL.val rfl rfl rfl (gA (i := i) Tryz.underlying26 prssz47 rfl rfl rfl rfl rfl (by omega)) ?_
        refine TL.v (gF prsfld47_2) ?_
        refine TL.rowset (k := 0) (vs := [.int .i64 x89.num]) (xs' := flat Rs.cells (l.set i (⟨x92.v, x92.run, x89.num, x92.at_, x92.dst, x92.proto, x92.flow, x92.ttl, x92.ans, x92.dbl, x92.back, x92.src, x92.kind, x92.code, x92.left, x92.id, x92.quo⟩ : Rs))) rfl rfl rfl rfl rfl rfl rfl pcmsz3 dreone_i64 (by rw [flat_len rs_cel]; show 0 + i * 17 + 2 + 1 ≤ _; omega) (flat_put rs_cel (q := 2) (y := (⟨x92.v, x92.run, x89.num, x92.at_, x92.dst, x92.proto, x92.flow, x92.ttl, x92.ans, x92.dbl, x92.back, x92.src, x92.kind, x92.code, x92.left, x92.id, x92.quo⟩ : Rs)) hx92 (by show 2 + 1 ≤ 17; decide) rfl) ?_
        try dsimp only [List.set_cons_zero, List.set_cons_succ]
        refine zE (zN (zT (zSG ?_)))
        refine TL.rn 2 rfl ?_
        refine zET (zr ?_)
        exact ret_tmp Tryz.results24 rfl (fun w1 hw => ⟨⟨(((some ⟨g_A8, 0, none⟩), c8), l.set i (⟨x92.v, x92.run, x89.num, x92.at_, x92.dst, x92.proto, x92.flow, x92.ttl, x92.ans, x92.dbl, x92.back, x92.src, x92.kind, x92.code, x92.left, x92.id, x92.quo⟩ : Rs)), ok_set hok (by first | exact hrs2 | (have h9 := hok _ (List.mem_of_getElem? (by assumption)); unfold Rs.Ok at h9 ⊢; dsimp only; omega)), by dsimp only; rw [List.length_set]; omega, by dsimp only; rw [List.length_set]; exact hA81, hA82⟩, by dsimp only; try rw [List.length_set], by dsimp only; try rw [List.length_set]; exact hw⟩)
       ·refine TL.as_ ?_
        refine zET (zd (zSG ?_))
        refine TL.sp bin_eql (fun q95 => ?_) (fun q95 => ?_)
        ·refine TL.as_ ?_
         refine zET (zc (zG ?_))
         refine TL.rn 3 rfl ?_
         refine TL.pcallCod (k := 1) (α := {q9 : Nat // q9 ≤ 65535 ∧ (1 ≤ (2 : Int) → (q9 : Int) < 2)}) (fun q9 => .int .i64 ((q9.1 : Nat) : Int)) (fun q9 => []) rfl rfl rfl rfl rfl Tryz.func25 (by decide) rfl rfl (fun w1 hw hC1 => next_cod cb w1 2 hC1) ?_
         rintro ⟨dz, hdz1, hdz2⟩
         dsimp only [List.cons_append, List.nil_append]
         refine TL.val rfl rfl rfl (gives_conv rfl rfl (fun w => conv_fit (k := .i64) Tryz.underlying30 Tryz.underlying3 (by simp only [IntKind.wrap_u32]; omega) w)) ?_
         refine TL.fact (p := ∃ g, A8 = some ⟨g, 0, none⟩) (fun w1 hw => rowA hw (k := 0) rfl (by omega)) ?_
         rintro ⟨g_A8, rfl⟩
         have hi101 : i < l.length := by omega
         obtain ⟨x101, hx101⟩ := ex_at hi101
         have hokx101 := hok x101 (List.mem_of_getElem? hx101)
         unfold Rs.Ok at hokx101
         refine TL.val rfl rfl rfl (gA (i := i) Tryz.underlying26 prssz47 rfl rfl rfl rfl rfl (by omega)) ?_
         refine TL.v (gF prsfld47_4) ?_
         refine TL.rowset (k := 0) (vs := [.int .u32 ((dz : Nat) : Int)]) (xs' := flat Rs.cells (l.set i (⟨x101.v, x101.run, x101.num, x101.at_, ((dz : Nat) : Int), x101.proto, x101.flow, x101.ttl, x101.ans, x101.dbl, x101.back, x101.src, x101.kind, x101.code, x101.left, x101.id, x101.quo⟩ : Rs))) rfl rfl rfl rfl rfl rfl rfl dntsz30 dntone_u32 (by rw [flat_len rs_cel]; show 0 + i * 17 + 4 + 1 ≤ _; omega) (flat_put rs_cel (q := 4) (y := (⟨x101.v, x101.run, x101.num, x101.at_, ((dz : Nat) : Int), x101.proto, x101.flow, x101.ttl, x101.ans, x101.dbl, x101.back, x101.src, x101.kind, x101.code, x101.left, x101.id, x101.quo⟩ : Rs)) hx101 (by show 4 + 1 ≤ 17; decide) rfl) ?_
         try dsimp only [List.set_cons_zero, List.set_cons_succ]
         refine zE (zN (zT (zSG ?_)))
         refine TL.rn 2 rfl ?_
         refine zET (zr ?_)
         exact ret_tmp Tryz.results24 rfl (fun w1 hw => ⟨⟨(((some ⟨g_A8, 0, none⟩), c8), l.set i (⟨x101.v, x101.run, x101.num, x101.at_, ((dz : Nat) : Int), x101.proto, x101.flow, x101.ttl, x101.ans, x101.dbl, x101.back, x101.src, x101.kind, x101.code, x101.left, x101.id, x101.quo⟩ : Rs)), ok_set hok (by first | exact hrs2 | (have h9 := hok _ (List.mem_of_getElem? (by assumption)); unfold Rs.Ok at h9 ⊢; dsimp only; omega)), by dsimp only; rw [List.length_set]; omega, by dsimp only; rw [List.length_set]; exact hA81, hA82⟩, by dsimp only; try rw [List.length_set], by dsimp only; try rw [List.length_set]; exact hw⟩)
        ·refine TL.as_ ?_
         refine zET (zd (zSG ?_))
         refine TL.sp bin_eql (fun q104 => ?_) (fun q104 => ?_)
         ·refine TL.as_ ?_
          refine zET (zc (zG ?_))
          refine TL.rn 4 rfl ?_
          refine TL.fact (p := ∃ g, A8 = some ⟨g, 0, none⟩) (fun w1 hw => rowA hw (k := 0) rfl (by omega)) ?_
          rintro ⟨g_A8, rfl⟩
          have hi109 : i < l.length := by omega
          obtain ⟨x109, hx109⟩ := ex_at hi109
          have hokx109 := hok x109 (List.mem_of_getElem? hx109)
          unfold Rs.Ok at hokx109
          refine TL.val rfl rfl rfl (gA (i := i) Tryz.underlying26 prssz47 rfl rfl rfl rfl rfl (by omega)) ?_
          refine TL.v (gF prsfld47_9) ?_
          refine TL.vsplit rfl rfl rfl (gives_load (v := .bool x109.dbl) rfl rfl prsag4 (fun w1 hw => flat_row rs_cel hw (q := 0) rfl hx109 9 _ rfl)) (fun h111 => ?_) (fun h111 => ?_)
          ·refine TL.val rfl rfl rfl (gives_boolnot rfl rfl) ?_
           refine TL.val rfl rfl rfl (gA (i := i) Tryz.underlying26 prssz47 rfl rfl rfl rfl rfl (by omega)) ?_
           refine TL.v (gF prsfld47_9) ?_
           refine TL.rowset (k := 0) (vs := [.bool false]) (xs' := flat Rs.cells (l.set i (⟨x109.v, x109.run, x109.num, x109.at_, x109.dst, x109.proto, x109.flow, x109.ttl, x109.ans, false, x109.back, x109.src, x109.kind, x109.code, x109.left, x109.id, x109.quo⟩ : Rs))) rfl rfl rfl rfl rfl rfl rfl dresz4 dreone_b (by rw [flat_len rs_cel]; show 0 + i * 17 + 9 + 1 ≤ _; omega) (flat_put rs_cel (q := 9) (y := (⟨x109.v, x109.run, x109.num, x109.at_, x109.dst, x109.proto, x109.flow, x109.ttl, x109.ans, false, x109.back, x109.src, x109.kind, x109.code, x109.left, x109.id, x109.quo⟩ : Rs)) hx109 (by show 9 + 1 ≤ 17; decide) rfl) ?_
           try dsimp only [List.set_cons_zero, List.set_cons_succ]
           refine zE (zN (zT (zSG ?_)))
           refine TL.rn 2 rfl ?_
           refine zET (zr ?_)
           exact ret_tmp Tryz.results24 rfl (fun w1 hw => ⟨⟨(((some ⟨g_A8, 0, none⟩), c8), l.set i (⟨x109.v, x109.run, x109.num, x109.at_, x109.dst, x109.proto, x109.flow, x109.ttl, x109.ans, false, x109.back, x109.src, x109.kind, x109.code, x109.left, x109.id, x109.quo⟩ : Rs)), ok_set hok (by first | exact hrs2 | (have h9 := hok _ (List.mem_of_getElem? (by assumption)); unfold Rs.Ok at h9 ⊢; dsimp only; omega)), by dsimp only; rw [List.length_set]; omega, by dsimp only; rw [List.length_set]; exact hA81, hA82⟩, by dsimp only; try rw [List.length_set], by dsimp only; try rw [List.length_set]; exact hw⟩)
          ·refine TL.val rfl rfl rfl (gives_boolnot rfl rfl) ?_
           refine TL.val rfl rfl rfl (gA (i := i) Tryz.underlying26 prssz47 rfl rfl rfl rfl rfl (by omega)) ?_
           refine TL.v (gF prsfld47_9) ?_
           refine TL.rowset (k := 0) (vs := [.bool true]) (xs' := flat Rs.cells (l.set i (⟨x109.v, x109.run, x109.num, x109.at_, x109.dst, x109.proto, x109.flow, x109.ttl, x109.ans, true, x109.back, x109.src, x109.kind, x109.code, x109.left, x109.id, x109.quo⟩ : Rs))) rfl rfl rfl rfl rfl rfl rfl dresz4 dreone_b (by rw [flat_len rs_cel]; show 0 + i * 17 + 9 + 1 ≤ _; omega) (flat_put rs_cel (q := 9) (y := (⟨x109.v, x109.run, x109.num, x109.at_, x109.dst, x109.proto, x109.flow, x109.ttl, x109.ans, true, x109.back, x109.src, x109.kind, x109.code, x109.left, x109.id, x109.quo⟩ : Rs)) hx109 (by show 9 + 1 ≤ 17; decide) rfl) ?_
           try dsimp only [List.set_cons_zero, List.set_cons_succ]
           refine zE (zN (zT (zSG ?_)))
           refine TL.rn 2 rfl ?_
           refine zET (zr ?_)
           exact ret_tmp Tryz.results24 rfl (fun w1 hw => ⟨⟨(((some ⟨g_A8, 0, none⟩), c8), l.set i (⟨x109.v, x109.run, x109.num, x109.at_, x109.dst, x109.proto, x109.flow, x109.ttl, x109.ans, true, x109.back, x109.src, x109.kind, x109.code, x109.left, x109.id, x109.quo⟩ : Rs)), ok_set hok (by first | exact hrs2 | (have h9 := hok _ (List.mem_of_getElem? (by assumption)); unfold Rs.Ok at h9 ⊢; dsimp only; omega)), by dsimp only; rw [List.length_set]; omega, by dsimp only; rw [List.length_set]; exact hA81, hA82⟩, by dsimp only; try rw [List.length_set], by dsimp only; try rw [List.length_set]; exact hw⟩)
         ·refine TL.as_ ?_
          refine zET (zd (zSG ?_))
          refine TL.sp bin_eql (fun q116 => ?_) (fun q116 => ?_)
          ·refine TL.as_ ?_
           refine zET (zc (zG ?_))
           refine TL.rn 3 rfl ?_
           refine TL.pcallCod (k := 1) (α := {q9 : Nat // q9 ≤ 65535 ∧ (1 ≤ (7 : Int) → (q9 : Int) < 7)}) (fun q9 => .int .i64 ((q9.1 : Nat) : Int)) (fun q9 => []) rfl rfl rfl rfl rfl Tryz.func25 (by decide) rfl rfl (fun w1 hw hC1 => next_cod cb w1 7 hC1) ?_
           rintro ⟨kd, hkd1, hkd2⟩
           dsimp only [List.cons_append, List.nil_append]
           refine TL.fact (p := ∃ g, A8 = some ⟨g, 0, none⟩) (fun w1 hw => rowA hw (k := 0) rfl (by omega)) ?_
           rintro ⟨g_A8, rfl⟩
           have hi121 : i < l.length := by omega
           obtain ⟨x121, hx121⟩ := ex_at hi121
           have hokx121 := hok x121 (List.mem_of_getElem? hx121)
           unfold Rs.Ok at hokx121
           refine TL.val rfl rfl rfl (gA (i := i) Tryz.underlying26 prssz47 rfl rfl rfl rfl rfl (by omega)) ?_
           refine TL.v (gF prsfld47_11) ?_
           refine TL.v (gF prsfld45_1) ?_
           refine TL.rowset (k := 0) (vs := [.int .i64 ((kd : Nat) : Int)]) (xs' := flat Rs.cells (l.set i (⟨x121.v, x121.run, x121.num, x121.at_, x121.dst, x121.proto, x121.flow, x121.ttl, x121.ans, x121.dbl, x121.back, x121.src, ((kd : Nat) : Int), x121.code, x121.left, x121.id, x121.quo⟩ : Rs))) rfl rfl rfl rfl rfl rfl rfl pcmsz3 dreone_i64 (by rw [flat_len rs_cel]; show 0 + i * 17 + 12 + 1 ≤ _; omega) (flat_put rs_cel (q := 12) (y := (⟨x121.v, x121.run, x121.num, x121.at_, x121.dst, x121.proto, x121.flow, x121.ttl, x121.ans, x121.dbl, x121.back, x121.src, ((kd : Nat) : Int), x121.code, x121.left, x121.id, x121.quo⟩ : Rs)) hx121 (by show 12 + 1 ≤ 17; decide) rfl) ?_
           try dsimp only [List.set_cons_zero, List.set_cons_succ]
           refine zE (zN (zT (zSG ?_)))
           refine TL.rn 2 rfl ?_
           refine zET (zr ?_)
           exact ret_tmp Tryz.results24 rfl (fun w1 hw => ⟨⟨(((some ⟨g_A8, 0, none⟩), c8), l.set i (⟨x121.v, x121.run, x121.num, x121.at_, x121.dst, x121.proto, x121.flow, x121.ttl, x121.ans, x121.dbl, x121.back, x121.src, ((kd : Nat) : Int), x121.code, x121.left, x121.id, x121.quo⟩ : Rs)), ok_set hok (by first | exact hrs2 | (have h9 := hok _ (List.mem_of_getElem? (by assumption)); unfold Rs.Ok at h9 ⊢; dsimp only; omega)), by dsimp only; rw [List.length_set]; omega, by dsimp only; rw [List.length_set]; exact hA81, hA82⟩, by dsimp only; try rw [List.length_set], by dsimp only; try rw [List.length_set]; exact hw⟩)
          ·refine TL.as_ ?_
           refine zET (zd (zk (zN (zT (zSG ?_)))))
           refine TL.rn 2 rfl ?_
           refine zET (zr ?_)
           exact ret_tmp Tryz.results24 rfl (fun w1 hw => ⟨⟨((A8, c8), l), hok, by dsimp only; omega, hA81, hA82⟩, rfl, hw⟩)
set_option maxRecDepth 20000
set_option maxRecDepth 20000
theorem dm_len {hs : List Hpx} {ds : List Dm} (h : IsDm (wid hs) ds) : ds.length ≤ hs.length := by
  have := nodup_len (p := ds.map (·.frm)) (F := tlH hs) (List.pairwise_map.2 (h.1.imp fun {a b} hab e => by omega)) fun f hf => by
    obtain ⟨d, hd, rfl⟩ := List.mem_map.1 hf
    obtain ⟨n, _, h1, _⟩ := (h.2 d).1 hd
    rw [wid_cnt] at h1
    exact cnt_pos.1 (by omega)
  rwa [List.length_map, tlH_len] at this
set_option maxRecDepth 20000
theorem four {α : Type} {P : α → Prop} {a b c d y : α} {i : Nat} (h : [a, b, c, d][i]? = some y) (ha : P a) (hb : P b) (hc : P c) (hd : P d) : P y := by
 match i, h with
 | 0, h => cases h; exact ha
 | 1, h => cases h; exact hb
 | 2, h => cases h; exact hc
 | 3, h => cases h; exact hd
 | n + 4, h => cases h
theorem two_of {α : Type} {P : α → Prop} {a b y : α} {i : Nat} (h : [a, b][i]? = some y) (ha : P a) (hb : P b) : P y := by
 match i, h with
 | 0, h => cases h; exact ha
 | 1, h => cases h; exact hb
 | n + 2, h => cases h
theorem MpLen.mono {m : Mp} {n k : Nat} (h : MpLen m n) (hk : n ≤ k) : MpLen m k := ⟨Nat.le_trans h.hops hk, Nat.le_trans h.edges hk, fun x hx => ⟨Nat.le_trans (h.fh x hx).1 hk, (h.fh x hx).2⟩, fun x hx => ⟨Nat.le_trans (h.fe x hx).1 hk, (h.fe x hx).2⟩⟩
theorem MpLen.zero {k : Nat} : MpLen Mp.zero k := ⟨Nat.zero_le _, Nat.zero_le _, fun x hx => absurd hx List.not_mem_nil, fun x hx => absurd hx List.not_mem_nil⟩
theorem listEq_congr {α : Type} {r : α → α → Bool} (hr : ∀ x y z, r x y = true → r x z = r y z) : ∀ {a b c : List α}, listEq r a b = true → listEq r a c = listEq r b c
 | [], [], c, _ => rfl
 | [], y :: b, c, h => by cases c <;> cases h
 | x :: a, [], c, h => by cases h
 | x :: a, y :: b, [], h => rfl
 | x :: a, y :: b, z :: c, h => by
  unfold listEq at h ⊢
  rw [Bool.and_eq_true] at h
  rw [hr x y z h.1, listEq_congr hr h.2]
theorem mp_congr {m z t : Mp} (h : mpEq m z = true) : mpEq m t = mpEq z t := by
 unfold mpEq at h ⊢
 simp only [Bool.and_eq_true, decide_eq_true_eq] at h
 obtain ⟨⟨⟨h1, h2⟩, h3⟩, h4⟩ := h
 rw [h1, h2, listEq_congr (fun x y z h => ?_) h3, listEq_congr (fun x y z h => ?_) h4]
 ·unfold edgEq at h ⊢
  simp only [Bool.and_eq_true, decide_eq_true_eq] at h
  rw [h.1.1.1, h.1.1.2, h.1.2, h.2]
 ·unfold hopEq at h ⊢
  simp only [Bool.and_eq_true, decide_eq_true_eq] at h
  rw [h.1.1, h.1.2, h.2]
theorem build_asc {l : List Rs} {m : Mp} {e : Int} (h : BuildOk l m e) : m.hops.l.Pairwise fun x y => x.ttl ≤ y.ttl := by
 by_cases h0 : e ≠ 0 ∨ l = []
 ·rw [h.2.1 h0]; exact .nil
 ·have g := (h.2.2 (Decidable.byContradiction fun h1 => h0 (.inl h1)) fun h1 => h0 (.inr h1)).2.2.1.1
  exact g.imp fun {x y} hxy => by have := hpk_lt.1 hxy; omega
theorem build_wre {m : Mp} {n : Nat} (h : MpLen m n) : ∀ e ∈ m.edges.l, WreOk (edW e) := fun e he => (h.fe e he).2
theorem path_lenG {l : List Rs} {flow : Int} {o : List Int} (hok : ∀ r ∈ l, r.Ok) (h : PathOk l flow o) : o.length ≤ 255 := by
 obtain ⟨i, ⟨h1, h2⟩, _⟩ := h
 rw [h1, List.length_map, List.length_range]
 rcases Nat.eq_zero_or_pos i with h3 | h3
 ·omega
 ·have := pathF_lt hok (h2 (i - 1) (by omega))
  omega
theorem wr_lenG {es : List Ed} {o : List Wre} (h : IsWr es o) : o.length ≤ es.length := by
 have := nodup_len (p := o) (F := es.map edW) (h.1.imp fun {a b} hab e => by rw [e] at hab; exact absurd hab (ltK_irrefl b)) fun x hx => by
  obtain ⟨e, he, _, h2⟩ := (h.2 x).1 hx
  exact List.mem_map.2 ⟨e, he, h2⟩
 rwa [List.length_map] at this
theorem mps_sub {m : Mp} {ms : List Mp} : (mpsP [m]).Sublist (mpsP (m :: ms)) := by
 have e1 : mpsP [m] = m.pcs ++ mpsP [] := List.flatMap_cons
 have e2 : mpsP (m :: ms) = m.pcs ++ mpsP ms := List.flatMap_cons
 rw [e1, e2]
 exact List.Sublist.append_left (List.nil_sublist _) _
theorem rsame_t {m z : Mp} (h : mpEq m z = true) (w : World) (hm : MpR w m) (hz : MpR w z) : Calls Tryz.prog 16 #[.agg m.cells.toArray, .agg z.cells.toArray] w fun e w' => e = .returned (.bool true) ∧ Below w.heap.size w w' := by
 have := rsame_any m z w hm hz
 rwa [h] at this
theorem rsame_c {m z t : Mp} (h : mpEq m t = mpEq z t) (w : World) (hz : MpR w z) (ht : MpR w t) : Calls Tryz.prog 16 #[.agg z.cells.toArray, .agg t.cells.toArray] w fun e w' => e = .returned (.bool (mpEq m t)) ∧ Below w.heap.size w w' := by
 have := rsame_any z t w hz ht
 rwa [← h] at this
theorem pgrbs68_4_27298 (a0_0 : Option Addr) (a0_0n a0_0c : Nat) (a1_0 : Option Addr) (a1_0n a1_0c : Nat) (a2_0 : Option Addr) (a2_0n a2_0c : Nat) (a3_0 : Option Addr) (a3_0n a3_0c : Nat) (w : World) : (Instr.buildSlice 68 4 #[(0, .slice a0_0 a0_0n a0_0c), (1, .slice a1_0 a1_0n a1_0c), (2, .slice a2_0 a2_0n a2_0c), (3, .slice a3_0 a3_0n a3_0c)]).run Tryz.prog w = .ok (.slice (some ⟨w.heap.size, 0, none⟩) 4 4) (w.alloc (.cells [.slice a0_0 a0_0n a0_0c, .slice a1_0 a1_0n a1_0c, .slice a2_0 a2_0n a2_0c, .slice a3_0 a3_0n a3_0c].toArray 26)) := by kernel_rfl
theorem pgrsz26 (w : World) : (sizeOf 26).run Tryz.prog w = .ok 1 w := rfl
theorem pgrag26 (w : World) : (isAgg 26).run Tryz.prog w = .ok false w := rfl
set_option maxHeartbeats 1000000 in
theorem pathsGraphs_walk (A0 : Option Addr) (n0 c0 : Nat) (l0 : List Int) (A1 : Option Addr) (c1 : Nat) (raw : List Rs) (flow ttl : Int) (w : World) (hb0 : Byt w w.heap.size A0 n0 l0) (hc0 : n0 ≤ c0) (hm0 : c0 ≤ maxLen) (hc1 : raw.length ≤ c1) (hm1 : c1 ≤ maxLen) (hr1 : Reads w w.heap.size 17 A1 raw.length (flat Rs.cells raw)) (ho1 : ∀ r ∈ raw, r.Ok) (wf2 : (Lit.int .i64 flow).wf = true) (wf3 : (Lit.int .i64 ttl).wf = true) :
  Calls Tryz.prog 9 #[.slice A0 n0 c0, .slice A1 raw.length c1, .int .i64 flow, .int .i64 ttl] w fun e w' => e = .returned (.bool true) ∧ Below w.heap.size w w' := by
 have hn0 : (n0 : Int) ≤ 9223372036854775807 := by unfold maxLen at hm0; omega
 refine begin_ (vs := [.slice A0 n0 c0, .slice A1 raw.length c1, .int .i64 flow, .int .i64 ttl]) Tryz.func9 rfl rfl rfl ?_ (Pm.start w)
 refine zSG ?_
 refine TL.as_ ?_
 refine zET (zS (zSG ?_))
 refine TL.pcall1 (r := .bool true) rfl rfl rfl rfl rfl Tryz.func10 (by decide) rfl (fun w1 hw => awake_true w1) ?_
 refine TL.rn 3 rfl ?_
 refine TL.ov (gN Tryz.underlying26) ?_
 refine TL.gu ?_
 refine TL.sp bin_gtr (fun q37 => ?_) (fun q37 => ?_)
 ·refine TL.pk ?_
  refine zET (zc (zSG ?_))
  refine TL.pcall1 (r := .bool true) rfl rfl rfl rfl rfl Tryz.func10 (by decide) rfl (fun w1 hw => awake_true w1) ?_
  refine TL.as_ ?_
  refine zET (zr (zR ?_))
  exact ret_tmp Tryz.results9 rfl (fun w1 hw => ⟨rfl, hw.bel⟩)
 ·refine TL.pk ?_
  refine zET (zd (zk (zT (zSG ?_))))
  refine TL.mv ?_
  refine TL.callNew (I := Pm w []) (p := fun cb w => Cod w cb) rfl rfl rfl rfl rfl Tryz.func11 (by decide) rfl (fun w1 hw => (roll_any A0 n0 c0 l0 w1 ((hb0.below hw.bel).more hw.bel.size) hc0 hn0).mono fun e w2 ⟨h1, h2, h3⟩ => ⟨h1, h2, cod_cells h2, h3⟩) cod_stab (fun wn hwn => ?_)
  have hwb := hwn.bel
  refine TL.as_ ?_
  refine zET (zSG ?_)
  refine TL.rn 2 rfl ?_
  refine TL.pcallCod (k := 0) (α := Bool) (fun x => .bool x) (fun x => []) rfl rfl rfl rfl rfl Tryz.func13 (by decide) rfl rfl (fun w1 hw hC1 => dbool_cod wn.heap.size w1 hC1 3 (by decide)) ?_
  rintro b0
  dsimp only [List.cons_append, List.nil_append]
  refine TL.val rfl rfl rfl (gives_boolnot (b := b0) rfl rfl) ?_
  refine TL.pcallCod (k := 0) (α := {y : (Option Addr × Nat) × List Rs // OneOk 20 (!b0) y.2 ∧ y.2.length ≤ y.1.2 ∧ y.1.2 ≤ maxLen}) (fun x => .slice x.1.1.1 x.1.2.length x.1.1.2) (fun x => [.row (.slice x.1.1.1 x.1.2.length x.1.1.2) 47 17 x.1.2.length (flat Rs.cells x.1.2)]) rfl rfl rfl rfl rfl Tryz.func12 (by decide) rfl rfl (fun w1 hw hC1 => one_cod wn.heap.size w1 hC1 20 (!b0) (by decide)) ?_
  rintro ⟨⟨⟨Axs, cxs⟩, xs⟩, hxs, hxsc, hxsm⟩
  dsimp only [List.cons_append, List.nil_append]
  dsimp only at hxs hxsc hxsm ⊢
  have hxslen := hxs.2.2.2.1
  have hxsok : ∀ r ∈ xs, r.Ok := fun r hr => (hxs.1 r hr).2.1
  refine TL.as_ ?_
  refine zET (zSG ?_)
  refine TL.val rfl rfl rfl (gives_build (v := .agg #[.int .i64 0, .int .u32 0, .int .i64 0, .int .i64 0, .slice none 0 0, .slice none 0 0]) rfl rfl (fun w => pbdbld36_531  w)) ?_
  refine TL.pnew rfl rfl rfl (exec_alloc (cs := [.int .i64 0, .int .u32 0, .int .i64 0, .int .i64 0, .slice none 0 0, .slice none 0 0]) rfl pbdzv36 rfl) (fun g11 => ?_)
  refine TL.pstore (k := 0) (vs := [.int .i64 0, .int .u32 0, .int .i64 0, .int .i64 0, .slice none 0 0, .slice none 0 0]) rfl rfl rfl rfl rfl rfl rfl pbdsz36 pbdone_i64u32i64i64ss (by show 6 ≤ 6; decide) rfl ?_
  refine zET (zS (zSG ?_))
  refine TL.rn 4 rfl ?_
  refine TL.call (α := {y : (Option Addr × Nat) × List Rs // (∀ r ∈ y.2, r.Ok) ∧ y.2.length ≤ xs.length + 1 ∧ y.2.length ≤ y.1.2 ∧ y.1.2 ≤ maxLen}) (r := fun q9 => .slice q9.1.1.1 q9.1.2.length q9.1.1.2) (I' := fun q9 => Pm wn ([.row (.slice q9.1.1.1 q9.1.2.length q9.1.1.2) 47 17 q9.1.2.length (flat Rs.cells q9.1.2), .abs wn.heap.size (fun w => Cod w wn.heap.size), .row (.slice Axs xs.length cxs) 47 17 xs.length (flat Rs.cells xs), .blk g11 36 [.int .i64 0, .int .u32 0, .int .i64 0, .int .i64 0, .slice none 0 0, .slice none 0 0]] ++ mpsP [])) rfl rfl rfl rfl rfl Tryz.func24 (by decide) rfl (fun w1 hw => odd_fr wn ([.blk g11 36 [.int .i64 0, .int .u32 0, .int .i64 0, .int .i64 0, .slice none 0 0, .slice none 0 0]] ++ mpsP []) wn.heap.size Axs cxs xs w1 ((show Pm wn ([.abs wn.heap.size (fun w => Cod w wn.heap.size), .row (.slice Axs xs.length cxs) 47 17 xs.length (flat Rs.cells xs), .blk g11 36 [.int .i64 0, .int .u32 0, .int .i64 0, .int .i64 0, .slice none 0 0, .slice none 0 0]] ++ mpsP []) w1 from hw.pickT 3 [2, 1, 0] (by decide) (by decide) rfl rfl)) (by omega) hxsok) ?_
  rintro ⟨⟨⟨Aod, cod⟩, od⟩, hodok, hodl, hodc, hodm⟩
  dsimp only at hodok hodl hodc hodm ⊢
  refine TL.mv ?_
  refine TL.pcallCod (k := 1) (α := {y : (Option Addr × Nat) × List Rs // DrawnOk 14 y.2 ∧ y.2.length ≤ y.1.2 ∧ y.1.2 ≤ maxLen}) (fun x => .slice x.1.1.1 x.1.2.length x.1.1.2) (fun x => [.row (.slice x.1.1.1 x.1.2.length x.1.1.2) 47 17 x.1.2.length (flat Rs.cells x.1.2)]) rfl rfl rfl rfl rfl Tryz.func23 (by decide) rfl rfl (fun w1 hw hC1 => results_cod wn.heap.size w1 hC1 14 true (by omega)) ?_
  rintro ⟨⟨⟨Ars, crs⟩, rs⟩, hrs, hrsc, hrsm⟩
  dsimp only [List.cons_append, List.nil_append]
  dsimp only at hrs hrsc hrsm ⊢
  refine TL.prowS (e := 26) (size := 1) (cs := flat sgc [(⟨Axs, cxs, xs⟩ : Sg Rs), ⟨A1, c1, raw⟩, ⟨Aod, cod, od⟩, ⟨Ars, crs, rs⟩]) rfl rfl rfl rfl rfl (fun w => pgrbs68_4_27298 _ _ _ _ _ _ _ _ _ _ _ _ w) (by decide) rfl (fun g55 => ?_)
  refine TL.v (gN Tryz.underlying68) ?_
  refine TL.mv ?_
  refine zET (zB ?_)
  have hrsok : ∀ r ∈ rs, r.Ok := fun r hr => (hrs.1 r hr).2.1
  have hrsl := hrs.2.2
  refine TC.nilrow 63 4 ?_
  refine TC.nilrow 50 3 ?_
  refine TC.loop_ (α := {y : Nat × Mp // y.1 ≤ 4 ∧ MpLen y.2 40}) (fun y => [(2, .int .i64 flow), (3, .int .i64 ttl), (8, .bool false), (9, .pointer (some ⟨wn.heap.size, 0, none⟩)), (11, .pointer (some ⟨g11, 0, none⟩)), (55, .slice (some ⟨g55, 0, none⟩) 4 4), (56, .int .i64 4), (57, .int .i64 ((y.1.1 : Nat) : Int))]) (fun y => Pm wn ([.row (.slice (some ⟨g55, 0, none⟩) 4 4) 26 1 4 (flat sgc [(⟨Axs, cxs, xs⟩ : Sg Rs), ⟨A1, c1, raw⟩, ⟨Aod, cod, od⟩, ⟨Ars, crs, rs⟩]), .row (.slice Ars rs.length crs) 47 17 rs.length (flat Rs.cells rs), .row (.slice Aod od.length cod) 47 17 od.length (flat Rs.cells od), .abs wn.heap.size (fun w => Cod w wn.heap.size), .row (.slice Axs xs.length cxs) 47 17 xs.length (flat Rs.cells xs), .blk g11 36 y.1.2.cells] ++ mpsP [y.1.2])) (fun y => 4 - y.1.1) (⟨(0, Mp.zero), Nat.zero_le _, MpLen.zero⟩) ⟨rfl, rfl, rfl, rfl, rfl, rfl, rfl, rfl, trivial⟩ (fun w1 hw => Pm.mpsIn (m := Mp.zero) (P := [.row (.slice (some ⟨g55, 0, none⟩) 4 4) 26 1 4 (flat sgc [(⟨Axs, cxs, xs⟩ : Sg Rs), ⟨A1, c1, raw⟩, ⟨Aod, cod, od⟩, ⟨Ars, crs, rs⟩]), .row (.slice Ars rs.length crs) 47 17 rs.length (flat Rs.cells rs), .row (.slice Aod od.length cod) 47 17 od.length (flat Rs.cells od), .abs wn.heap.size (fun w => Cod w wn.heap.size), .row (.slice Axs xs.length cxs) 47 17 xs.length (flat Rs.cells xs), .blk g11 36 [.int .i64 0, .int .u32 0, .int .i64 0, .int .i64 0, .slice none 0 0, .slice none 0 0]]) (ms := []) hw) ?_
  rintro ⟨⟨i, lg⟩, hi, hlgl⟩
  dsimp only at hi hlgl ⊢
  refine zSG ?_
  refine TL.sp bin_lss (fun q58 => ?_) (fun q58 => ?_)
  ·refine zET (zS (zc (zk (zT (zS (zB (zSG ?_)))))))
   have hi59 : i < ([(⟨Axs, cxs, xs⟩ : Sg Rs), ⟨A1, c1, raw⟩, ⟨Aod, cod, od⟩, ⟨Ars, crs, rs⟩]).length := by show i < 4; omega
   obtain ⟨x59, hx59⟩ := ex_at hi59
   have x59f : (∀ w1, Pm wn [.row (.slice Ars rs.length crs) 47 17 rs.length (flat Rs.cells rs), .row (.slice Aod od.length cod) 47 17 od.length (flat Rs.cells od), .row (.slice Axs xs.length cxs) 47 17 xs.length (flat Rs.cells xs)] w1 → Reads w1 w1.heap.size 17 x59.A x59.l.length (flat Rs.cells x59.l)) ∧ (∀ r ∈ x59.l, r.Ok) ∧ x59.l.length ≤ 40 := four (P := fun z : Sg Rs => (∀ w1, Pm wn [.row (.slice Ars rs.length crs) 47 17 rs.length (flat Rs.cells rs), .row (.slice Aod od.length cod) 47 17 od.length (flat Rs.cells od), .row (.slice Axs xs.length cxs) 47 17 xs.length (flat Rs.cells xs)] w1 → Reads w1 w1.heap.size 17 z.A z.l.length (flat Rs.cells z.l)) ∧ (∀ r ∈ z.l, r.Ok) ∧ z.l.length ≤ 40) hx59 ⟨fun w1 hw => pm_rd hw (k := 2) rfl, hxsok, by dsimp only; omega⟩ ⟨fun w1 hw => (hr1.up (hwb.trans (hw.bel.mono hwb.size))), ho1, by dsimp only; omega⟩ ⟨fun w1 hw => pm_rd hw (k := 1) rfl, hodok, by dsimp only; omega⟩ ⟨fun w1 hw => pm_rd hw (k := 0) rfl, hrsok, by dsimp only; omega⟩
   have x59l := x59f.2.2
   refine TL.val rfl rfl rfl (gA (i := i) Tryz.underlying68 pgrsz26 rfl rfl rfl rfl rfl (by omega)) ?_
   refine TL.val rfl rfl rfl (gives_load (v := .slice x59.A x59.l.length x59.c) rfl rfl pgrag26 (fun w1 hw => flat_row sgc_cel hw (q := 0) rfl hx59 0 _ rfl)) ?_
   refine TL.as_ ?_
   refine zET (zSG ?_)
   refine TL.mv ?_
   refine TL.call (α := {y : Mp × Int // BuildOk x59.l y.1 y.2}) (r := fun x => .tuple #[.agg x.1.1.cells.toArray, .int .i64 x.1.2]) (I' := fun x => Pm wn ([.row (.slice (some ⟨g55, 0, none⟩) 4 4) 26 1 4 (flat sgc [(⟨Axs, cxs, xs⟩ : Sg Rs), ⟨A1, c1, raw⟩, ⟨Aod, cod, od⟩, ⟨Ars, crs, rs⟩]), .row (.slice Ars rs.length crs) 47 17 rs.length (flat Rs.cells rs), .row (.slice Aod od.length cod) 47 17 od.length (flat Rs.cells od), .abs wn.heap.size (fun w => Cod w wn.heap.size), .row (.slice Axs xs.length cxs) 47 17 xs.length (flat Rs.cells xs), .blk g11 36 lg.cells] ++ mpsP (x.1.1 :: [lg]))) rfl rfl rfl rfl rfl Tryz.func14 (by decide) rfl (fun w1 hw => (build_any x59.A x59.c x59.l w1 (x59f.1 w1 (hw.sel (.cons _ (.cons_cons _ (.cons_cons _ (.cons _ (.cons_cons _ (.cons _ (List.nil_sublist _))))))))) (by omega) x59f.2.1).mono fun e w2 ⟨x, h1, h2⟩ => ⟨x, h1, Pm.mpsIn (P := [.row (.slice (some ⟨g55, 0, none⟩) 4 4) 26 1 4 (flat sgc [(⟨Axs, cxs, xs⟩ : Sg Rs), ⟨A1, c1, raw⟩, ⟨Aod, cod, od⟩, ⟨Ars, crs, rs⟩]), .row (.slice Ars rs.length crs) 47 17 rs.length (flat Rs.cells rs), .row (.slice Aod od.length cod) 47 17 od.length (flat Rs.cells od), .abs wn.heap.size (fun w => Cod w wn.heap.size), .row (.slice Axs xs.length cxs) 47 17 xs.length (flat Rs.cells xs), .blk g11 36 lg.cells]) (ms := [lg]) (hw.addAll h2 (pcs_noAbs _))⟩) ?_
   rintro ⟨⟨m, em⟩, hbm⟩
   dsimp only at hbm ⊢
   have hml := build_len x59f.2.1 hbm
   refine TL.rn 3 rfl ?_
   refine TL.pnew rfl rfl rfl (exec_alloc (cs := [.int .i64 0, .int .u32 0, .int .i64 0, .int .i64 0, .slice none 0 0, .slice none 0 0]) rfl pbdzv36 rfl) (fun g14 => ?_)
   refine TL.pstore (k := 0) (vs := m.cells) rfl rfl rfl rfl rfl rfl rfl pbdsz36 pbdone_i64u32i64i64ss (by show 6 ≤ 6; decide) rfl ?_
   refine TL.as_ ?_
   refine zET (zSG ?_)
   refine TL.mv ?_
   refine TL.call (α := {y : Mp × Int // BuildOk x59.l y.1 y.2}) (r := fun x => .tuple #[.agg x.1.1.cells.toArray, .int .i64 x.1.2]) (I' := fun x => Pm wn ([.blk g14 36 m.cells, .row (.slice (some ⟨g55, 0, none⟩) 4 4) 26 1 4 (flat sgc [(⟨Axs, cxs, xs⟩ : Sg Rs), ⟨A1, c1, raw⟩, ⟨Aod, cod, od⟩, ⟨Ars, crs, rs⟩]), .row (.slice Ars rs.length crs) 47 17 rs.length (flat Rs.cells rs), .row (.slice Aod od.length cod) 47 17 od.length (flat Rs.cells od), .abs wn.heap.size (fun w => Cod w wn.heap.size), .row (.slice Axs xs.length cxs) 47 17 xs.length (flat Rs.cells xs), .blk g11 36 lg.cells] ++ mpsP (x.1.1 :: [m, lg]))) rfl rfl rfl rfl rfl Tryz.func47 (by decide) rfl (fun w1 hw => (rbuild_any x59.A x59.c x59.l w1 (x59f.1 w1 (hw.sel (.cons _ (.cons _ (.cons_cons _ (.cons_cons _ (.cons _ (.cons_cons _ (.cons _ (List.nil_sublist _)))))))))) (by omega) x59f.2.1).mono fun e w2 ⟨x, h1, h2⟩ => ⟨x, h1, Pm.mpsIn (P := [.blk g14 36 m.cells, .row (.slice (some ⟨g55, 0, none⟩) 4 4) 26 1 4 (flat sgc [(⟨Axs, cxs, xs⟩ : Sg Rs), ⟨A1, c1, raw⟩, ⟨Aod, cod, od⟩, ⟨Ars, crs, rs⟩]), .row (.slice Ars rs.length crs) 47 17 rs.length (flat Rs.cells rs), .row (.slice Aod od.length cod) 47 17 od.length (flat Rs.cells od), .abs wn.heap.size (fun w => Cod w wn.heap.size), .row (.slice Axs xs.length cxs) 47 17 xs.length (flat Rs.cells xs), .blk g11 36 lg.cells]) (ms := [m, lg]) (hw.addAll h2 (pcs_noAbs _))⟩) ?_
   rintro ⟨⟨z, ez⟩, hbz⟩
   dsimp only at hbz ⊢
   have hzl := build_len x59f.2.1 hbz
   refine TL.rn 3 rfl ?_
   refine TL.pnew rfl rfl rfl (exec_alloc (cs := [.int .i64 0, .int .u32 0, .int .i64 0, .int .i64 0, .slice none 0 0, .slice none 0 0]) rfl pbdzv36 rfl) (fun g16 => ?_)
   refine TL.pstore (k := 0) (vs := z.cells) rfl rfl rfl rfl rfl rfl rfl pbdsz36 pbdone_i64u32i64i64ss (by show 6 ≤ 6; decide) rfl ?_
   refine TL.as_ ?_
   refine zET (zS (zS ?_))
   have hmz := build_same (fun r => Iff.rfl) hbm hbz
   have hez := hmz.1
   have hcg : mpEq m lg = mpEq z lg := mp_congr hmz.2
   refine TC.quietQ (by kernel_rfl) (by kernel_rfl) (fun w hw => hw.drawn _) ?_
   refine TQ.rn 2 rfl ?_
   refine TQ.val rfl rfl rfl (gives_bin rfl rfl rfl (fun w => bin_neq_f (by omega) w)) ?_
   refine TQ.val rfl rfl rfl (gives_move rfl rfl) ?_
   refine TQ.ov (gV 1 (.agg (m.cells).toArray) pbdag36 pbdsz36) ?_
   refine TQ.ov (gV 0 (.agg (z.cells).toArray) pbdag36 pbdsz36) ?_
   refine TQ.on rfl rfl rfl ?_
   refine TQ.call (v := .bool true) rfl rfl rfl rfl rfl Tryz.func16 (by decide) rfl (fun w1 hw => (rsame_t hmz.2 w1 (MpR.of (hml) (by omega) hw (fun q hq => List.mem_of_mem_drop (i := 8) (by exact mps_mem (by simp) hq))) (MpR.of (hzl) (by omega) hw (fun q hq => List.mem_of_mem_drop (i := 8) (by exact mps_mem (by simp) hq)))).mono fun en w2 ⟨h1, h2⟩ => ⟨h1, hw.below h2⟩) ?_
   refine TQ.rn 4 rfl ?_
   refine TQ.on rfl rfl rfl ?_
   refine TQ.call (v := .int .i64 (endT x59.l)) rfl rfl rfl rfl rfl Tryz.func20 (by decide) rfl (fun w1 hw => (end_any x59.A x59.c x59.l w1 (x59f.1 w1 (hw.sel (.cons _ (.cons _ (.cons _ (.cons_cons _ (.cons_cons _ (.cons _ (.cons_cons _ (.cons _ (List.nil_sublist _))))))))))) (by omega)).mono fun en w2 ⟨h1, h2⟩ => ⟨h1, hw.below h2⟩) ?_
   refine TQ.rn 1 rfl ?_
   refine TQ.on rfl rfl rfl ?_
   refine TQ.call (v := .int .i64 (endT x59.l)) rfl rfl rfl rfl rfl Tryz.func48 (by decide) rfl (fun w1 hw => (rend_any x59.A x59.c x59.l w1 (x59f.1 w1 (hw.sel (.cons _ (.cons _ (.cons _ (.cons_cons _ (.cons_cons _ (.cons _ (.cons_cons _ (.cons _ (List.nil_sublist _))))))))))) (by omega)).mono fun en w2 ⟨h1, h2⟩ => ⟨h1, hw.below h2⟩) ?_
   refine TQ.on rfl rfl rfl ?_
   refine TQ.val rfl rfl rfl (gives_bin rfl rfl rfl (fun w => bin_neq_f (rfl) w)) ?_
   refine TQ.rn 2 rfl ?_
   refine TQ.ov (gV 1 (.agg (m.cells).toArray) pbdag36 pbdsz36) ?_
   refine TQ.ov (gV 7 (.agg (lg.cells).toArray) pbdag36 pbdsz36) ?_
   refine TQ.on rfl rfl rfl ?_
   refine TQ.call (v := .bool (mpEq m lg)) rfl rfl rfl rfl rfl Tryz.func49 (by decide) rfl (fun w1 hw => (same_any m lg w1 (MpR.of (hml) (by omega) hw (fun q hq => List.mem_of_mem_drop (i := 8) (by exact mps_mem (by simp) hq))) (MpR.of (hlgl) (by omega) hw (fun q hq => List.mem_of_mem_drop (i := 8) (by exact mps_mem (by simp) hq)))).mono fun en w2 ⟨h1, h2⟩ => ⟨h1, hw.below h2⟩) ?_
   refine TQ.ov (gV 0 (.agg (z.cells).toArray) pbdag36 pbdsz36) ?_
   refine TQ.ov (gV 7 (.agg (lg.cells).toArray) pbdag36 pbdsz36) ?_
   refine TQ.on rfl rfl rfl ?_
   refine TQ.call (v := .bool (mpEq m lg)) rfl rfl rfl rfl rfl Tryz.func16 (by decide) rfl (fun w1 hw => (rsame_c hcg w1 (MpR.of (hzl) (by omega) hw (fun q hq => List.mem_of_mem_drop (i := 8) (by exact mps_mem (by simp) hq))) (MpR.of (hlgl) (by omega) hw (fun q hq => List.mem_of_mem_drop (i := 8) (by exact mps_mem (by simp) hq)))).mono fun en w2 ⟨h1, h2⟩ => ⟨h1, hw.below h2⟩) ?_
   refine TQ.on rfl rfl rfl ?_
   refine TQ.val rfl rfl rfl (gives_bin2 (v := .bool false) rfl rfl rfl (fun w => (bin_neb Tryz.underlying4 _ _ w).trans (by simp))) ?_
   refine TQ.val rfl rfl rfl (gives_pick rfl rfl rfl) ?_
   refine TQ.fin ?_
   refine zT (zd (zk (zT (zS (zSG ?_)))))
   refine TL.rn 2 rfl ?_
   refine TL.pcallCod (k := 5) (α := {q9 : Nat // q9 ≤ 65535 ∧ (1 ≤ (3 : Int) → (q9 : Int) < 3)}) (fun q9 => .int .i64 ((q9.1 : Nat) : Int)) (fun q9 => []) rfl rfl rfl rfl rfl Tryz.func25 (by decide) rfl rfl (fun w1 hw hC1 => next_cod wn.heap.size w1 3 hC1) ?_
   rintro ⟨j, hj1, hj2⟩
   dsimp only [List.cons_append, List.nil_append]
   refine TL.prowS (e := 3) (size := 1) (cs := flat (ic .i64) [flow, ((j : Nat) : Int)]) rfl rfl rfl rfl rfl (fun w => pcmbs48_2_20249 _ _ w) (by decide) rfl (fun g99 => ?_)
   refine TL.v (gN Tryz.underlying48) ?_
   refine TL.mv ?_
   refine zET (zB ?_)
   refine TC.loop_ (α := {q : Nat // q ≤ 2}) (fun y => [(2, .int .i64 flow), (3, .int .i64 ttl), (8, .bool false), (9, .pointer (some ⟨wn.heap.size, 0, none⟩)), (11, .pointer (some ⟨g11, 0, none⟩)), (13, .slice x59.A x59.l.length x59.c), (14, .pointer (some ⟨g14, 0, none⟩)), (16, .pointer (some ⟨g16, 0, none⟩)), (55, .slice (some ⟨g55, 0, none⟩) 4 4), (56, .int .i64 4), (57, .int .i64 ((i : Nat) : Int)), (99, .slice (some ⟨g99, 0, none⟩) 2 2), (100, .int .i64 2), (101, .int .i64 ((y.1 : Nat) : Int))]) (fun y => Pm wn ([.row (.slice (some ⟨g99, 0, none⟩) 2 2) 3 1 2 (flat (ic .i64) [flow, ((j : Nat) : Int)]), .blk g16 36 z.cells, .blk g14 36 m.cells, .row (.slice (some ⟨g55, 0, none⟩) 4 4) 26 1 4 (flat sgc [(⟨Axs, cxs, xs⟩ : Sg Rs), ⟨A1, c1, raw⟩, ⟨Aod, cod, od⟩, ⟨Ars, crs, rs⟩]), .row (.slice Ars rs.length crs) 47 17 rs.length (flat Rs.cells rs), .row (.slice Aod od.length cod) 47 17 od.length (flat Rs.cells od), .abs wn.heap.size (fun w => Cod w wn.heap.size), .row (.slice Axs xs.length cxs) 47 17 xs.length (flat Rs.cells xs), .blk g11 36 lg.cells] ++ mpsP [z, m, lg])) (fun y => 2 - y.1) (⟨0, Nat.zero_le _⟩) ⟨rfl, rfl, rfl, rfl, rfl, rfl, rfl, rfl, rfl, rfl, rfl, rfl, rfl, rfl, trivial⟩ (fun w1 hw => hw) ?_
   rintro ⟨q, hq⟩
   try dsimp only at hq ⊢
   refine zSG ?_
   refine TL.sp bin_lss (fun q102 => ?_) (fun q102 => ?_)
   ·refine zET (zS (zc (zk (zT (zS (zB (zSG ?_)))))))
    have hi103 : q < ([flow, ((j : Nat) : Int)]).length := by show q < 2; omega
    obtain ⟨x103, hx103⟩ := ex_at hi103
    have hwf := two_of (P := fun z : Int => (Lit.int .i64 z).wf = true) hx103 wf2 (wfI (by omega))
    refine TL.val rfl rfl rfl (gA (i := q) Tryz.underlying48 pcmsz3 rfl rfl rfl rfl rfl (by omega)) ?_
    refine TL.val rfl rfl rfl (gives_load (v := .int .i64 x103) rfl rfl pcmag3 (fun w1 hw => flat_row (ic_cel .i64) hw (q := 0) rfl hx103 0 _ rfl)) ?_
    refine TL.as_ ?_
    refine zET (zS (zSG ?_))
    refine TL.rn 2 rfl ?_
    refine TL.pcallCod (k := 6) (α := {q9 : Nat // q9 ≤ 65535 ∧ (1 ≤ (4 : Int) → (q9 : Int) < 4)}) (fun q9 => .int .i64 ((q9.1 : Nat) : Int)) (fun q9 => []) rfl rfl rfl rfl rfl Tryz.func25 (by decide) rfl rfl (fun w1 hw hC1 => next_cod wn.heap.size w1 4 hC1) ?_
    rintro ⟨v, hv1, hv2⟩
    dsimp only [List.cons_append, List.nil_append]
    refine TL.v (gD ((1 + v : Nat) : Int)) ?_
    refine TL.prowS (e := 3) (size := 1) (cs := flat (ic .i64) [ttl, 1 + ((v : Nat) : Int)]) rfl rfl rfl rfl rfl (fun w => pcmbs48_2_20249 _ _ w) (by decide) rfl (fun g109 => ?_)
    refine TL.v (gN Tryz.underlying48) ?_
    refine TL.mv ?_
    refine zET (zB ?_)
    refine TC.loop_ (α := {k : Nat // k ≤ 2}) (fun y => [(2, .int .i64 flow), (3, .int .i64 ttl), (8, .bool false), (9, .pointer (some ⟨wn.heap.size, 0, none⟩)), (11, .pointer (some ⟨g11, 0, none⟩)), (13, .slice x59.A x59.l.length x59.c), (14, .pointer (some ⟨g14, 0, none⟩)), (16, .pointer (some ⟨g16, 0, none⟩)), (19, .int .i64 x103), (55, .slice (some ⟨g55, 0, none⟩) 4 4), (56, .int .i64 4), (57, .int .i64 ((i : Nat) : Int)), (99, .slice (some ⟨g99, 0, none⟩) 2 2), (100, .int .i64 2), (101, .int .i64 ((q : Nat) : Int)), (109, .slice (some ⟨g109, 0, none⟩) 2 2), (110, .int .i64 2), (111, .int .i64 ((y.1 : Nat) : Int))]) (fun y => Pm wn ([.row (.slice (some ⟨g109, 0, none⟩) 2 2) 3 1 2 (flat (ic .i64) [ttl, 1 + ((v : Nat) : Int)]), .row (.slice (some ⟨g99, 0, none⟩) 2 2) 3 1 2 (flat (ic .i64) [flow, ((j : Nat) : Int)]), .blk g16 36 z.cells, .blk g14 36 m.cells, .row (.slice (some ⟨g55, 0, none⟩) 4 4) 26 1 4 (flat sgc [(⟨Axs, cxs, xs⟩ : Sg Rs), ⟨A1, c1, raw⟩, ⟨Aod, cod, od⟩, ⟨Ars, crs, rs⟩]), .row (.slice Ars rs.length crs) 47 17 rs.length (flat Rs.cells rs), .row (.slice Aod od.length cod) 47 17 od.length (flat Rs.cells od), .abs wn.heap.size (fun w => Cod w wn.heap.size), .row (.slice Axs xs.length cxs) 47 17 xs.length (flat Rs.cells xs), .blk g11 36 lg.cells] ++ mpsP [z, m, lg])) (fun y => 2 - y.1) (⟨0, Nat.zero_le _⟩) ⟨rfl, rfl, rfl, rfl, rfl, rfl, rfl, rfl, rfl, rfl, rfl, rfl, rfl, rfl, rfl, rfl, rfl, rfl, trivial⟩ (fun w1 hw => hw) ?_
    rintro ⟨k, hk⟩
    try dsimp only at hk ⊢
    refine zSG ?_
    refine TL.sp bin_lss (fun q112 => ?_) (fun q112 => ?_)
    ·refine zET (zS (zc (zk (zT (zS (zB (zSG ?_)))))))
     have hi113 : k < ([ttl, 1 + ((v : Nat) : Int)]).length := by show k < 2; omega
     obtain ⟨x113, hx113⟩ := ex_at hi113
     have hwt := two_of (P := fun z : Int => (Lit.int .i64 z).wf = true) hx113 wf3 (wfI (by omega))
     refine TL.val rfl rfl rfl (gA (i := k) Tryz.underlying48 pcmsz3 rfl rfl rfl rfl rfl (by omega)) ?_
     refine TL.val rfl rfl rfl (gives_load (v := .int .i64 x113) rfl rfl pcmag3 (fun w1 hw => flat_row (ic_cel .i64) hw (q := 0) rfl hx113 0 _ rfl)) ?_
     refine TL.as_ ?_
     refine zET (zSG ?_)
     refine TL.rn 3 rfl ?_
     refine TL.pcall1 (r := .tuple #[.int .u32 (atA x59.l x103 x113), .int .i64 (atS x59.l x103 x113)]) rfl rfl rfl rfl rfl Tryz.func21 (by decide) rfl (fun w1 hw => at_any x59.A x59.c x59.l x103 x113 w1 (x59f.1 w1 (hw.sel (.cons _ (.cons _ (.cons _ (.cons _ (.cons _ (.cons_cons _ (.cons_cons _ (.cons _ (.cons_cons _ (.cons _ (List.nil_sublist _))))))))))))) (by omega) x59f.2.1 ⟨hwf, hwt⟩) ?_
     refine TL.rn 5 rfl ?_
     refine zET (zSG ?_)
     refine TL.rn 3 rfl ?_
     refine TL.pcall1 (r := .tuple #[.int .u32 (atA x59.l x103 x113), .int .i64 (atS x59.l x103 x113)]) rfl rfl rfl rfl rfl Tryz.func50 (by decide) rfl (fun w1 hw => rat_any x59.A x59.c x59.l x103 x113 w1 (x59f.1 w1 (hw.sel (.cons _ (.cons _ (.cons _ (.cons _ (.cons _ (.cons_cons _ (.cons_cons _ (.cons _ (.cons_cons _ (.cons _ (List.nil_sublist _))))))))))))) (by omega)) ?_
     refine TL.rn 5 rfl ?_
     refine zET (zSG ?_)
     refine TL.rn 2 rfl ?_
     refine TL.val rfl rfl rfl (gives_bin rfl rfl rfl (fun w => bin_neq_f (rfl) w)) ?_
     refine TL.rn 3 rfl ?_
     refine TL.gu ?_
     refine TL.val rfl rfl rfl (gives_bin rfl rfl rfl (fun w => bin_neq_f (rfl) w)) ?_
     refine TL.pk ?_
     refine zET (zd (zk (zN (zT (zG ?_)))))
     refine TL.v (gD ((k + 1 : Nat) : Int)) ?_
     refine TL.mv ?_
     refine zE ?_
     exact TX.round (⟨k + 1, by omega⟩) (by show 2 - (k + 1) < 2 - k; omega) ⟨rfl, rfl, rfl, rfl, rfl, rfl, rfl, rfl, rfl, rfl, rfl, rfl, rfl, rfl, rfl, rfl, rfl, rfl, trivial⟩ (fun w1 hw => hw)
    ·refine zET (zS (zd (zx (zX (zX (zM (zT (zSG ?_))))))))
     refine TL.rn 2 rfl ?_
     refine TL.pcallPm (α := {y : (Option Addr × Nat) × List Int // PathOk x59.l x103 y.2 ∧ y.2.length ≤ y.1.2 ∧ y.1.2 ≤ maxLen}) (fun x => .slice x.1.1.1 x.1.2.length x.1.1.2) (fun x => [.row (.slice x.1.1.1 x.1.2.length x.1.1.2) 30 1 x.1.2.length (flat (ic .u32) x.1.2)]) rfl rfl rfl rfl rfl Tryz.func22 (by decide) rfl (fun w1 hw => path_any x59.A x59.c x59.l x103 w1 (x59f.1 w1 (hw.sel (.cons _ (.cons _ (.cons _ (.cons _ (.cons _ (.cons_cons _ (.cons_cons _ (.cons _ (.cons_cons _ (.cons _ (List.nil_sublist _))))))))))))) (by omega) x59f.2.1 hwf) ?_
     rintro ⟨⟨⟨R140, rc140⟩, pa140⟩, hP140, hR1401, hR1402⟩
     dsimp only [List.cons_append, List.nil_append]
     dsimp only at hP140 hR1401 hR1402 ⊢
     have hpl := path_lenG x59f.2.1 hP140
     refine TL.rn 2 rfl ?_
     refine TL.pcallPm (α := {y : (Option Addr × Nat) × List Int // PathOk x59.l x103 y.2 ∧ y.2.length ≤ y.1.2 ∧ y.1.2 ≤ maxLen}) (fun x => .slice x.1.1.1 x.1.2.length x.1.1.2) (fun x => [.row (.slice x.1.1.1 x.1.2.length x.1.1.2) 30 1 x.1.2.length (flat (ic .u32) x.1.2)]) rfl rfl rfl rfl rfl Tryz.func52 (by decide) rfl (fun w1 hw => rpath_any x59.A x59.c x59.l x103 w1 (x59f.1 w1 (hw.sel (.cons _ (.cons _ (.cons _ (.cons _ (.cons _ (.cons _ (.cons_cons _ (.cons_cons _ (.cons _ (.cons_cons _ (.cons _ (List.nil_sublist _)))))))))))))) (by omega) x59f.2.1) ?_
     rintro ⟨⟨⟨R143, rc143⟩, pa143⟩, hP143, hR1431, hR1432⟩
     dsimp only [List.cons_append, List.nil_append]
     dsimp only at hP143 hR1431 hR1432 ⊢
     obtain rfl : pa140 = pa143 := hP140.eq hP143
     refine TL.pcall1 (r := .bool true) rfl rfl rfl rfl rfl Tryz.func51 (by decide) rfl (fun w1 hw => (by have h9 := sameA_any R140 rc140 pa140 R143 rc143 pa140 w1 (pm_rd hw (k := 1) rfl) (pm_rd hw (k := 0) rfl) (by omega); rw [decide_eq_true rfl] at h9; exact h9)) ?_
     refine TL.val rfl rfl rfl (gives_boolnot rfl rfl) ?_
     refine zET (zd (zk (zN (zT (zG ?_)))))
     refine TL.v (gD ((q + 1 : Nat) : Int)) ?_
     refine TL.mv ?_
     refine zE ?_
     exact TX.round (⟨q + 1, by omega⟩) (by show 2 - (q + 1) < 2 - q; omega) ⟨rfl, rfl, rfl, rfl, rfl, rfl, rfl, rfl, rfl, rfl, rfl, rfl, rfl, rfl, trivial⟩ (fun w1 hw => hw.sel (.cons _ (.cons _ (.cons _ (.cons_cons _ (.cons_cons _ (.cons_cons _ (.cons_cons _ (.cons_cons _ (.cons_cons _ (.cons_cons _ (.cons_cons _ (.cons_cons _ (List.Sublist.refl _))))))))))))))
   ·refine zET (zS (zd (zx (zX (zX (zM (zT (zS ?_))))))))
    refine TC.held (ls := #[Ff,Ff,Ff,Ff,Ff,Ff]) (Pm wn [.blk g16 36 z.cells]) (by kernel_rfl) rfl rfl (fun w hw => hw.drawn _) ?_
    refine TH.tk 0 rfl rfl rfl (gV 0 (.agg (z.cells).toArray) pbdag36 pbdsz36) (fun w1 hw => hw.pick [1] (by decide) rfl) ?_
    refine TH.tk 2 rfl rfl rfl (gV 0 (.agg (z.cells).toArray) pbdag36 pbdsz36) (fun w1 hw => hw.pick [1] (by decide) rfl) ?_
    refine TH.only' 1 rfl (by kernel_rfl) rfl ?_
    refine TL.pcallPm (α := {y : (Option Addr × Nat) × List Wre // IsWr z.edges.l y.2 ∧ y.2.length ≤ y.1.2 ∧ y.1.2 ≤ maxLen}) (fun x => .slice x.1.1.1 x.1.2.length x.1.1.2) (fun x => [.row (.slice x.1.1.1 x.1.2.length x.1.1.2) 54 2 x.1.2.length (flat Wre.cells x.1.2)]) rfl rfl rfl rfl rfl Tryz.func18 (by decide) rfl (fun w1 hw => wires_any z w1 ((MpR.of (hzl) (by omega) hw (fun q hq => List.mem_of_mem_drop (i := 9) (by exact mps_mem (by simp) hq)))).edges ((MpR.of (hzl) (by omega) hw (fun q hq => List.mem_of_mem_drop (i := 9) (by exact mps_mem (by simp) hq)))).nedges) ?_
    rintro ⟨⟨⟨R148, rc148⟩, wr148⟩, hP148, hR1481, hR1482⟩
    dsimp only [List.cons_append, List.nil_append]
    dsimp only at hP148 hR1481 hR1482 ⊢
    have hwl := wr_lenG hP148
    refine zE ?_
    refine TX.held (fun w1 hw => hw.pick [2] (by decide) rfl) ?_
    refine TH.only' 3 rfl (by kernel_rfl) rfl ?_
    refine TL.pcallPm (α := {y : (Option Addr × Nat) × List Wre // IsWr z.edges.l y.2 ∧ y.2.length ≤ y.1.2 ∧ y.1.2 ≤ maxLen}) (fun x => .slice x.1.1.1 x.1.2.length x.1.1.2) (fun x => [.row (.slice x.1.1.1 x.1.2.length x.1.1.2) 54 2 x.1.2.length (flat Wre.cells x.1.2)]) rfl rfl rfl rfl rfl Tryz.func53 (by decide) rfl (fun w1 hw => rwires_any z w1 ((MpR.of (hzl) (by omega) hw (fun q hq => List.mem_of_mem_drop (i := 10) (by exact mps_mem (by simp) hq)))).edges ((MpR.of (hzl) (by omega) hw (fun q hq => List.mem_of_mem_drop (i := 10) (by exact mps_mem (by simp) hq)))).nedges (build_wre hzl)) ?_
    rintro ⟨⟨⟨R150, rc150⟩, wr150⟩, hP150, hR1501, hR1502⟩
    dsimp only [List.cons_append, List.nil_append]
    dsimp only at hP150 hR1501 hR1502 ⊢
    obtain rfl : wr148 = wr150 := hP148.eq hP150
    refine zE ?_
    refine TX.held (fun w1 hw => hw.pick [3] (by decide) rfl) ?_
    refine TH.tk 4 rfl rfl rfl (gives_assign rfl rfl) (fun w1 hw => hw.pick [3] (by decide) rfl) ?_
    refine TH.tk 5 rfl rfl rfl (gives_assign rfl rfl) (fun w1 hw => hw.pick [3] (by decide) rfl) ?_
    refine TH.done (by kernel_rfl) ?_
    refine zT (zS ?_)
    refine TC.held (ls := #[Ff,Ff,Ff,Ff,Ff,Ff]) (Pm wn [.blk g16 36 z.cells]) (by kernel_rfl) rfl rfl (fun w hw => hw.drawn _) ?_
    refine TH.tk 0 rfl rfl rfl (gV 0 (.agg (z.cells).toArray) pbdag36 pbdsz36) (fun w1 hw => hw.pick [3] (by decide) rfl) ?_
    refine TH.tk 2 rfl rfl rfl (gV 0 (.agg (z.cells).toArray) pbdag36 pbdsz36) (fun w1 hw => hw.pick [3] (by decide) rfl) ?_
    refine TH.only' 1 rfl (by kernel_rfl) rfl ?_
    refine TL.pcallPm (α := {y : (Option Addr × Nat) × List Dm // IsDm (wid z.hops.l) y.2 ∧ y.2.length ≤ y.1.2 ∧ y.1.2 ≤ maxLen}) (fun x => .slice x.1.1.1 x.1.2.length x.1.1.2) (fun x => [.row (.slice x.1.1.1 x.1.2.length x.1.1.2) 58 3 x.1.2.length (flat Dm.cells x.1.2)]) rfl rfl rfl rfl rfl Tryz.func19 (by decide) rfl (fun w1 hw => diamonds_any z w1 ((MpR.of (hzl) (by omega) hw (fun q hq => List.mem_of_mem_drop (i := 11) (by exact mps_mem (by simp) hq)))).hops ((MpR.of (hzl) (by omega) hw (fun q hq => List.mem_of_mem_drop (i := 11) (by exact mps_mem (by simp) hq)))).nhops (fun q hq => ⟨(hzl.fh q hq).2.1, (hzl.fh q hq).2.2.1⟩)) ?_
    rintro ⟨⟨⟨R152, rc152⟩, dm152⟩, hP152, hR1521, hR1522⟩
    dsimp only [List.cons_append, List.nil_append]
    dsimp only at hP152 hR1521 hR1522 ⊢
    have hdl := dm_len hP152
    refine zE ?_
    refine TX.held (fun w1 hw => hw.pick [4] (by decide) rfl) ?_
    refine TH.only' 3 rfl (by kernel_rfl) rfl ?_
    refine TL.pcallPm (α := {y : (Option Addr × Nat) × List Dm // IsDm (wid z.hops.l) y.2 ∧ y.2.length ≤ y.1.2 ∧ y.1.2 ≤ maxLen}) (fun x => .slice x.1.1.1 x.1.2.length x.1.1.2) (fun x => [.row (.slice x.1.1.1 x.1.2.length x.1.1.2) 58 3 x.1.2.length (flat Dm.cells x.1.2)]) rfl rfl rfl rfl rfl Tryz.func54 (by decide) rfl (fun w1 hw => rdiamonds_any z w1 ((MpR.of (hzl) (by omega) hw (fun q hq => List.mem_of_mem_drop (i := 12) (by exact mps_mem (by simp) hq)))).hops ((MpR.of (hzl) (by omega) hw (fun q hq => List.mem_of_mem_drop (i := 12) (by exact mps_mem (by simp) hq)))).nhops (fun q hq => ⟨(hzl.fh q hq).2.1, (hzl.fh q hq).2.2.1⟩) (build_asc hbz)) ?_
    rintro ⟨⟨⟨R154, rc154⟩, dm154⟩, hP154, hR1541, hR1542⟩
    dsimp only [List.cons_append, List.nil_append]
    dsimp only at hP154 hR1541 hR1542 ⊢
    obtain rfl : dm152 = dm154 := hP152.eq hP154
    refine zE ?_
    refine TX.held (fun w1 hw => hw.pick [5] (by decide) rfl) ?_
    refine TH.tk 4 rfl rfl rfl (gives_assign rfl rfl) (fun w1 hw => hw.pick [5] (by decide) rfl) ?_
    refine TH.tk 5 rfl rfl rfl (gives_assign rfl rfl) (fun w1 hw => hw.pick [5] (by decide) rfl) ?_
    refine TH.done (by kernel_rfl) ?_
    refine zT (zS (zS ?_))
    have hzh := hzl.hops
    have hze := hzl.edges
    refine zG ?_
    refine TL.mv ?_
    refine TL.v (gN Tryz.underlying51) ?_
    refine TL.mv ?_
    refine TL.v (gN Tryz.underlying51) ?_
    refine TL.val rfl rfl rfl (gives_bin rfl rfl rfl (fun w => bin_neq_f (rfl) w)) ?_
    refine TL.rn 2 rfl ?_
    refine TL.ov (gN Tryz.underlying55) ?_
    refine TL.rn 1 rfl ?_
    refine TL.ov (gN Tryz.underlying55) ?_
    refine TL.gu ?_
    refine TL.val rfl rfl rfl (gives_bin rfl rfl rfl (fun w => bin_neq_f (rfl) w)) ?_
    refine TL.pk ?_
    refine zET (zd (zk (zT (zS (zSG ?_)))))
    refine TL.mv ?_
    refine TL.v (gN Tryz.underlying51) ?_
    refine TL.mv ?_
    refine zET (zB ?_)
    refine TC.loop_ (α := {p : Nat // p ≤ wr148.length}) (fun y => [(2, .int .i64 flow), (3, .int .i64 ttl), (8, .bool false), (9, .pointer (some ⟨wn.heap.size, 0, none⟩)), (11, .pointer (some ⟨g11, 0, none⟩)), (13, .slice x59.A x59.l.length x59.c), (14, .pointer (some ⟨g14, 0, none⟩)), (16, .pointer (some ⟨g16, 0, none⟩)), (26, .slice R148 wr148.length rc148), (27, .slice R150 wr148.length rc150), (28, .slice R152 dm152.length rc152), (29, .slice R154 dm152.length rc154), (55, .slice (some ⟨g55, 0, none⟩) 4 4), (56, .int .i64 4), (57, .int .i64 ((i : Nat) : Int)), (168, .int .i64 (wr148.length : Nat)), (169, .int .i64 ((y.1 : Nat) : Int))]) (fun y => Pm wn ([.row (.slice R154 dm152.length rc154) 58 3 dm152.length (flat Dm.cells dm152), .row (.slice R152 dm152.length rc152) 58 3 dm152.length (flat Dm.cells dm152), .row (.slice R150 wr148.length rc150) 54 2 wr148.length (flat Wre.cells wr148), .row (.slice R148 wr148.length rc148) 54 2 wr148.length (flat Wre.cells wr148), .row (.slice (some ⟨g99, 0, none⟩) 2 2) 3 1 2 (flat (ic .i64) [flow, ((j : Nat) : Int)]), .blk g16 36 z.cells, .blk g14 36 m.cells, .row (.slice (some ⟨g55, 0, none⟩) 4 4) 26 1 4 (flat sgc [(⟨Axs, cxs, xs⟩ : Sg Rs), ⟨A1, c1, raw⟩, ⟨Aod, cod, od⟩, ⟨Ars, crs, rs⟩]), .row (.slice Ars rs.length crs) 47 17 rs.length (flat Rs.cells rs), .row (.slice Aod od.length cod) 47 17 od.length (flat Rs.cells od), .abs wn.heap.size (fun w => Cod w wn.heap.size), .row (.slice Axs xs.length cxs) 47 17 xs.length (flat Rs.cells xs), .blk g11 36 lg.cells] ++ mpsP [z, m, lg])) (fun y => wr148.length - y.1) (⟨0, Nat.zero_le _⟩) ⟨rfl, rfl, rfl, rfl, rfl, rfl, rfl, rfl, rfl, rfl, rfl, rfl, rfl, rfl, rfl, rfl, rfl, trivial⟩ (fun w1 hw => hw) ?_
    rintro ⟨p, hp⟩
    try dsimp only at hp ⊢
    refine zSG ?_
    refine TL.sp bin_lss (fun q170 => ?_) (fun q170 => ?_)
    ·refine zET (zS (zc (zk (zT (zS (zB (zSG ?_)))))))
     refine TL.rn 2 rfl ?_
     refine zET (zS ?_)
     refine TC.fact (p := ∃ g, R148 = some ⟨g, 0, none⟩) (fun w1 hw => rowA hw (k := 3) rfl (by omega)) ?_
     rintro ⟨g_R148, rfl⟩
     refine TC.fact (p := ∃ g, R150 = some ⟨g, 0, none⟩) (fun w1 hw => rowA hw (k := 2) rfl (by omega)) ?_
     rintro ⟨g_R150, rfl⟩
     refine TC.quietQ (by kernel_rfl) (by kernel_rfl) (fun w hw => hw.drawn _) ?_
     refine TQ.rn 2 rfl ?_
     have hi174 : p < wr148.length := by omega
     obtain ⟨x174, hx174⟩ := ex_at hi174
     refine TQ.val rfl rfl rfl (gA (i := p) Tryz.underlying51 pcpsz54 rfl rfl rfl rfl rfl (by omega)) ?_
     refine TQ.val rfl rfl rfl (gives_loadR (off := 0 + p * 2) rfl rfl pcpag54 pcpsz54 (wre_cel.len x174) (fun w1 hw j9 u9 h9 => flat_row wre_cel hw (q := 3) rfl hx174 j9 u9 h9)) ?_
     refine TQ.rn 2 rfl ?_
     have hi178 : p < wr148.length := by omega
     obtain ⟨x178, hx178⟩ := ex_at hi178
     refine TQ.val rfl rfl rfl (gA (i := p) Tryz.underlying51 pcpsz54 rfl rfl rfl rfl rfl (by omega)) ?_
     refine TQ.val rfl rfl rfl (gives_loadR (off := 0 + p * 2) rfl rfl pcpag54 pcpsz54 (wre_cel.len x178) (fun w1 hw j9 u9 h9 => flat_row wre_cel hw (q := 2) rfl hx178 j9 u9 h9)) ?_
     refine TQ.val rfl rfl rfl (gives_bin2 (v := .bool false) rfl rfl rfl (fun w => wre_neq_is (x := x174) (y := x178) (t := false) (by rw [show x174 = x178 by rw [hx174] at hx178; exact Option.some.inj hx178]; simp) _ _ w)) ?_
     refine TQ.fin ?_
     refine zT (zd (zk (zN (zT (zG ?_)))))
     refine TL.v (gD ((p + 1 : Nat) : Int)) ?_
     refine TL.mv ?_
     refine zE ?_
     exact TX.round (⟨p + 1, by omega⟩) (by show wr148.length - (p + 1) < wr148.length - p; omega) ⟨rfl, rfl, rfl, rfl, rfl, rfl, rfl, rfl, rfl, rfl, rfl, rfl, rfl, rfl, rfl, rfl, rfl, trivial⟩ (fun w1 hw => hw)
    ·refine zET (zS (zd (zx (zX (zX (zM (zT (zS (zSG ?_)))))))))
     refine TL.mv ?_
     refine TL.v (gN Tryz.underlying55) ?_
     refine TL.mv ?_
     refine zET (zB ?_)
     refine TC.loop_ (α := {d : Nat // d ≤ dm152.length}) (fun y => [(2, .int .i64 flow), (3, .int .i64 ttl), (8, .bool false), (9, .pointer (some ⟨wn.heap.size, 0, none⟩)), (11, .pointer (some ⟨g11, 0, none⟩)), (13, .slice x59.A x59.l.length x59.c), (14, .pointer (some ⟨g14, 0, none⟩)), (16, .pointer (some ⟨g16, 0, none⟩)), (28, .slice R152 dm152.length rc152), (29, .slice R154 dm152.length rc154), (55, .slice (some ⟨g55, 0, none⟩) 4 4), (56, .int .i64 4), (57, .int .i64 ((i : Nat) : Int)), (183, .int .i64 (dm152.length : Nat)), (184, .int .i64 ((y.1 : Nat) : Int))]) (fun y => Pm wn ([.row (.slice R154 dm152.length rc154) 58 3 dm152.length (flat Dm.cells dm152), .row (.slice R152 dm152.length rc152) 58 3 dm152.length (flat Dm.cells dm152), .row (.slice R150 wr148.length rc150) 54 2 wr148.length (flat Wre.cells wr148), .row (.slice R148 wr148.length rc148) 54 2 wr148.length (flat Wre.cells wr148), .row (.slice (some ⟨g99, 0, none⟩) 2 2) 3 1 2 (flat (ic .i64) [flow, ((j : Nat) : Int)]), .blk g16 36 z.cells, .blk g14 36 m.cells, .row (.slice (some ⟨g55, 0, none⟩) 4 4) 26 1 4 (flat sgc [(⟨Axs, cxs, xs⟩ : Sg Rs), ⟨A1, c1, raw⟩, ⟨Aod, cod, od⟩, ⟨Ars, crs, rs⟩]), .row (.slice Ars rs.length crs) 47 17 rs.length (flat Rs.cells rs), .row (.slice Aod od.length cod) 47 17 od.length (flat Rs.cells od), .abs wn.heap.size (fun w => Cod w wn.heap.size), .row (.slice Axs xs.length cxs) 47 17 xs.length (flat Rs.cells xs), .blk g11 36 lg.cells] ++ mpsP [z, m, lg])) (fun y => dm152.length - y.1) (⟨0, Nat.zero_le _⟩) ⟨rfl, rfl, rfl, rfl, rfl, rfl, rfl, rfl, rfl, rfl, rfl, rfl, rfl, rfl, rfl, trivial⟩ (fun w1 hw => hw) ?_
     rintro ⟨d, hd⟩
     try dsimp only at hd ⊢
     refine zSG ?_
     refine TL.sp bin_lss (fun q185 => ?_) (fun q185 => ?_)
     ·refine zET (zS (zc (zk (zT (zS (zB (zSG ?_)))))))
      refine TL.rn 2 rfl ?_
      refine zET (zS ?_)
      refine TC.fact (p := ∃ g, R152 = some ⟨g, 0, none⟩) (fun w1 hw => rowA hw (k := 1) rfl (by omega)) ?_
      rintro ⟨g_R152, rfl⟩
      refine TC.fact (p := ∃ g, R154 = some ⟨g, 0, none⟩) (fun w1 hw => rowA hw (k := 0) rfl (by omega)) ?_
      rintro ⟨g_R154, rfl⟩
      refine TC.quietQ (by kernel_rfl) (by kernel_rfl) (fun w hw => hw.drawn _) ?_
      refine TQ.rn 2 rfl ?_
      have hi189 : d < dm152.length := by omega
      obtain ⟨x189, hx189⟩ := ex_at hi189
      refine TQ.val rfl rfl rfl (gA (i := d) Tryz.underlying55 pawsz58 rfl rfl rfl rfl rfl (by omega)) ?_
      refine TQ.val rfl rfl rfl (gives_loadR (off := 0 + d * 3) rfl rfl pawag58 pawsz58 (dm_cel.len x189) (fun w1 hw j9 u9 h9 => flat_row dm_cel hw (q := 1) rfl hx189 j9 u9 h9)) ?_
      refine TQ.rn 2 rfl ?_
      have hi193 : d < dm152.length := by omega
      obtain ⟨x193, hx193⟩ := ex_at hi193
      refine TQ.val rfl rfl rfl (gA (i := d) Tryz.underlying55 pawsz58 rfl rfl rfl rfl rfl (by omega)) ?_
      refine TQ.val rfl rfl rfl (gives_loadR (off := 0 + d * 3) rfl rfl pawag58 pawsz58 (dm_cel.len x193) (fun w1 hw j9 u9 h9 => flat_row dm_cel hw (q := 0) rfl hx193 j9 u9 h9)) ?_
      refine TQ.val rfl rfl rfl (gives_bin2 (v := .bool false) rfl rfl rfl (fun w => dm_neq_is (x := x189) (y := x193) (t := false) (by rw [show x189 = x193 by rw [hx189] at hx193; exact Option.some.inj hx193]; simp) _ _ w)) ?_
      refine TQ.fin ?_
      refine zT (zd (zk (zN (zT (zG ?_)))))
      refine TL.v (gD ((d + 1 : Nat) : Int)) ?_
      refine TL.mv ?_
      refine zE ?_
      exact TX.round (⟨d + 1, by omega⟩) (by show dm152.length - (d + 1) < dm152.length - d; omega) ⟨rfl, rfl, rfl, rfl, rfl, rfl, rfl, rfl, rfl, rfl, rfl, rfl, rfl, rfl, rfl, trivial⟩ (fun w1 hw => hw)
     ·refine zET (zS (zd (zx (zX (zX (zM (zT (zG ?_))))))))
      refine TL.v (gV 5 (.agg (z.cells).toArray) pbdag36 pbdsz36) ?_
      refine TL.pstore (k := 12) (vs := z.cells) rfl rfl rfl rfl rfl rfl rfl pbdsz36 pbdone_i64u32i64i64ss (by show 6 ≤ 6; decide) rfl ?_
      refine zE (zN (zT (zG ?_)))
      refine TL.v (gD ((i + 1 : Nat) : Int)) ?_
      refine TL.mv ?_
      refine zE ?_
      exact TX.round (⟨(i + 1, z), by dsimp only; omega, hzl.mono x59l⟩) (by show 4 - (i + 1) < 4 - i; omega) ⟨rfl, rfl, rfl, rfl, rfl, rfl, rfl, rfl, trivial⟩ (fun w1 hw => hw.sel (.cons _ (.cons _ (.cons _ (.cons _ (.cons _ (.cons _ (.cons _ (.cons_cons _ (.cons_cons _ (.cons_cons _ (.cons_cons _ (.cons_cons _ (.cons_cons _ mps_sub))))))))))))))
  ·refine zET (zS (zd (zx (zX (zX (zM (zT (zSG ?_))))))))
   refine TL.as_ ?_
   refine zET (zr ?_)
   exact ret_tmp Tryz.results9 rfl (fun w1 hw => ⟨rfl, hwb.trans (hw.bel.mono hwb.size)⟩)
open Go.ChangeShapes Go.WideShapes Go.RowKit
set_option linter.constructorNameAsVariable false
set_option maxRecDepth 20000
theorem cell_of_cells {w : World} {base n : Nat} {a : Addr} {cs : List Value} (h : w.cells? base a n = some cs) (j : Nat) (u : Value) (hu : cs[j]? = some u) : w.cell? (a.add j) = some u := by
 unfold World.cells? at h
 split at h
 ·have hl := mapM_some_length h
  have hj := (List.getElem?_eq_some_iff.1 hu).1
  rw [List.length_range] at hl
  have := mapM_some_get h j j (by rw [List.getElem?_range (by omega)])
  exact this.trans hu
 ·cases h
theorem pick_all {α : Type} {cc : α → List Value} {ok : α → Prop} {W : World} {a : Addr} {k n : Nat} (key : ∀ i, i < n → ∃ r : α, W.cells? 0 (a.add (i * k)) k = some (cc r) ∧ ok r) : ∀ m, m ≤ n → ∃ l : List α, l.length = m ∧ (∀ r ∈ l, ok r) ∧ ∀ i r, l[i]? = some r → W.cells? 0 (a.add (i * k)) k = some (cc r) := fun m => by
 induction m with
 | zero => exact fun _ => ⟨[], rfl, fun r hr => absurd hr List.not_mem_nil, fun i r hr => by simp at hr⟩
 | succ m ih =>
  intro hm
  obtain ⟨l, h1, h2, h3⟩ := ih (by omega)
  obtain ⟨r, h4, h5⟩ := key m (by omega)
  refine ⟨l ++ [r], by rw [List.length_append, h1]; rfl, fun q hq => (List.mem_append.1 hq).elim (h2 q) (fun h => by rw [List.mem_singleton] at h; subst h; exact h5), fun i q hq => ?_⟩
  rcases Nat.lt_or_ge i l.length with hi | hi
  ·rw [List.getElem?_append_left hi] at hq; exact h3 i q hq
  ·rw [List.getElem?_append_right hi] at hq
   obtain ⟨h6, h7⟩ := List.getElem?_eq_some_iff.1 hq
   simp only [List.length_singleton] at h6
   obtain rfl : i = m := by omega
   have h8 : r = q := by simpa [h1] using h7
   rw [← h8]; exact h4
theorem oc3 : Tryz.prog.cellsOf 3 = 1 := by kernel_rfl
theorem oc30 : Tryz.prog.cellsOf 30 = 1 := by kernel_rfl
theorem oc4 : Tryz.prog.cellsOf 4 = 1 := by kernel_rfl
theorem oc45 : Tryz.prog.cellsOf 45 = 6 := by kernel_rfl
theorem fieldsN6 {H : Type} {enc : TypeId × Value → H} {P : Program} {w : World} {base : Nat} {spare : Nat → Bool} {held : Bool} {t : TypeId} {f0 f1 f2 f3 f4 f5 : Field} {fuel : Nat} {cs : List Value} {x : DataW H × List MemPlace} (hs : P.underlying t = some (.struct #[f0, f1, f2, f3, f4, f5])) (h : DataW.trod enc P w base spare held fuel t cs = some x) : ∃ (n : Nat) (y0 y1 y2 y3 y4 y5 : DataW H × List MemPlace), cs.length = P.cellsOf t ∧ DataW.trod enc P w base spare held n f0.type ((cs.drop f0.offset).take (P.cellsOf f0.type)) = some y0 ∧ DataW.trod enc P w base spare held n f1.type ((cs.drop f1.offset).take (P.cellsOf f1.type)) = some y1 ∧ DataW.trod enc P w base spare held n f2.type ((cs.drop f2.offset).take (P.cellsOf f2.type)) = some y2 ∧ DataW.trod enc P w base spare held n f3.type ((cs.drop f3.offset).take (P.cellsOf f3.type)) = some y3 ∧ DataW.trod enc P w base spare held n f4.type ((cs.drop f4.offset).take (P.cellsOf f4.type)) = some y4 ∧ DataW.trod enc P w base spare held n f5.type ((cs.drop f5.offset).take (P.cellsOf f5.type)) = some y5 := by
 obtain ⟨xs, n, _, _, hl, hlen, hf⟩ := DataW.trod_struct hs h
 match xs, hlen with
 | [y0, y1, y2, y3, y4, y5], _ => exact ⟨n, y0, y1, y2, y3, y4, y5, hl, hf 0 f0 rfl, hf 1 f1 rfl, hf 2 f2 rfl, hf 3 f3 rfl, hf 4 f4 rfl, hf 5 f5 rfl⟩
theorem otr45 {H : Type} {enc : TypeId × Value → H} {W : World} {base : Nat} {spare : Nat → Bool} {held : Bool} {fuel : Nat} {c0 c1 c2 c3 c4 c5 : Value} {x : DataW H × List MemPlace} (h : DataW.trod enc Tryz.prog W base spare held fuel 45 [c0, c1, c2, c3, c4, c5] = some x) : ∃ (v0 : Int) (v1 : Int) (v2 : Int) (v3 : Int) (v4 : Int) (v5 : Int), (c0 = .int .u32 v0 ∧ c1 = .int .i64 v1 ∧ c2 = .int .i64 v2 ∧ c3 = .int .i64 v3 ∧ c4 = .int .i64 v4 ∧ c5 = .int .i64 v5) ∧ ((Lit.int .u32 v0).wf = true ∧ (Lit.int .i64 v1).wf = true ∧ (Lit.int .i64 v2).wf = true ∧ (Lit.int .i64 v3).wf = true ∧ (Lit.int .i64 v4).wf = true ∧ (Lit.int .i64 v5).wf = true) := by
 obtain ⟨n, y0, y1, y2, y3, y4, y5, hl, h0, h1, h2, h3, h4, h5⟩ := fieldsN6 Tryz.underlying45 h
 dsimp only at h0
 rw [oc30] at h0
 obtain ⟨x0, qx0, _, w0⟩ := DataW.trod_int (x := y0) Tryz.underlying30 h0
 have qx0 : [c0] = [Value.int .u32 x0] := qx0
 rw [List.cons.injEq] at qx0
 obtain ⟨rfl, _⟩ := qx0
 dsimp only at h1
 rw [oc3] at h1
 obtain ⟨x1, qx1, _, w1⟩ := DataW.trod_int (x := y1) Tryz.underlying3 h1
 have qx1 : [c1] = [Value.int .i64 x1] := qx1
 rw [List.cons.injEq] at qx1
 obtain ⟨rfl, _⟩ := qx1
 dsimp only at h2
 rw [oc3] at h2
 obtain ⟨x2, qx2, _, w2⟩ := DataW.trod_int (x := y2) Tryz.underlying3 h2
 have qx2 : [c2] = [Value.int .i64 x2] := qx2
 rw [List.cons.injEq] at qx2
 obtain ⟨rfl, _⟩ := qx2
 dsimp only at h3
 rw [oc3] at h3
 obtain ⟨x3, qx3, _, w3⟩ := DataW.trod_int (x := y3) Tryz.underlying3 h3
 have qx3 : [c3] = [Value.int .i64 x3] := qx3
 rw [List.cons.injEq] at qx3
 obtain ⟨rfl, _⟩ := qx3
 dsimp only at h4
 rw [oc3] at h4
 obtain ⟨x4, qx4, _, w4⟩ := DataW.trod_int (x := y4) Tryz.underlying3 h4
 have qx4 : [c4] = [Value.int .i64 x4] := qx4
 rw [List.cons.injEq] at qx4
 obtain ⟨rfl, _⟩ := qx4
 dsimp only at h5
 rw [oc3] at h5
 obtain ⟨x5, qx5, _, w5⟩ := DataW.trod_int (x := y5) Tryz.underlying3 h5
 have qx5 : [c5] = [Value.int .i64 x5] := qx5
 rw [List.cons.injEq] at qx5
 obtain ⟨rfl, _⟩ := qx5
 exact ⟨x0, x1, x2, x3, x4, x5, ⟨rfl, rfl, rfl, rfl, rfl, rfl⟩, ⟨w0, w1, w2, w3, w4, w5⟩⟩
theorem oc47 : Tryz.prog.cellsOf 47 = 17 := by kernel_rfl
theorem fieldsN12 {H : Type} {enc : TypeId × Value → H} {P : Program} {w : World} {base : Nat} {spare : Nat → Bool} {held : Bool} {t : TypeId} {f0 f1 f2 f3 f4 f5 f6 f7 f8 f9 f10 f11 : Field} {fuel : Nat} {cs : List Value} {x : DataW H × List MemPlace} (hs : P.underlying t = some (.struct #[f0, f1, f2, f3, f4, f5, f6, f7, f8, f9, f10, f11])) (h : DataW.trod enc P w base spare held fuel t cs = some x) : ∃ (n : Nat) (y0 y1 y2 y3 y4 y5 y6 y7 y8 y9 y10 y11 : DataW H × List MemPlace), cs.length = P.cellsOf t ∧ DataW.trod enc P w base spare held n f0.type ((cs.drop f0.offset).take (P.cellsOf f0.type)) = some y0 ∧ DataW.trod enc P w base spare held n f1.type ((cs.drop f1.offset).take (P.cellsOf f1.type)) = some y1 ∧ DataW.trod enc P w base spare held n f2.type ((cs.drop f2.offset).take (P.cellsOf f2.type)) = some y2 ∧ DataW.trod enc P w base spare held n f3.type ((cs.drop f3.offset).take (P.cellsOf f3.type)) = some y3 ∧ DataW.trod enc P w base spare held n f4.type ((cs.drop f4.offset).take (P.cellsOf f4.type)) = some y4 ∧ DataW.trod enc P w base spare held n f5.type ((cs.drop f5.offset).take (P.cellsOf f5.type)) = some y5 ∧ DataW.trod enc P w base spare held n f6.type ((cs.drop f6.offset).take (P.cellsOf f6.type)) = some y6 ∧ DataW.trod enc P w base spare held n f7.type ((cs.drop f7.offset).take (P.cellsOf f7.type)) = some y7 ∧ DataW.trod enc P w base spare held n f8.type ((cs.drop f8.offset).take (P.cellsOf f8.type)) = some y8 ∧ DataW.trod enc P w base spare held n f9.type ((cs.drop f9.offset).take (P.cellsOf f9.type)) = some y9 ∧ DataW.trod enc P w base spare held n f10.type ((cs.drop f10.offset).take (P.cellsOf f10.type)) = some y10 ∧ DataW.trod enc P w base spare held n f11.type ((cs.drop f11.offset).take (P.cellsOf f11.type)) = some y11 := by
 obtain ⟨xs, n, _, _, hl, hlen, hf⟩ := DataW.trod_struct hs h
 match xs, hlen with
 | [y0, y1, y2, y3, y4, y5, y6, y7, y8, y9, y10, y11], _ => exact ⟨n, y0, y1, y2, y3, y4, y5, y6, y7, y8, y9, y10, y11, hl, hf 0 f0 rfl, hf 1 f1 rfl, hf 2 f2 rfl, hf 3 f3 rfl, hf 4 f4 rfl, hf 5 f5 rfl, hf 6 f6 rfl, hf 7 f7 rfl, hf 8 f8 rfl, hf 9 f9 rfl, hf 10 f10 rfl, hf 11 f11 rfl⟩
theorem otr47 {H : Type} {enc : TypeId × Value → H} {W : World} {base : Nat} {spare : Nat → Bool} {held : Bool} {fuel : Nat} {c0 c1 c2 c3 c4 c5 c6 c7 c8 c9 c10 c11 c12 c13 c14 c15 c16 : Value} {x : DataW H × List MemPlace} (h : DataW.trod enc Tryz.prog W base spare held fuel 47 [c0, c1, c2, c3, c4, c5, c6, c7, c8, c9, c10, c11, c12, c13, c14, c15, c16] = some x) : ∃ (v0 : Int) (v1 : Int) (v2 : Int) (v3 : Int) (v4 : Int) (v5 : Int) (v6 : Int) (v7 : Int) (v8 : Bool) (v9 : Bool) (v10 : Int) (v11 : Int) (v12 : Int) (v13 : Int) (v14 : Int) (v15 : Int) (v16 : Int), (c0 = .int .i64 v0 ∧ c1 = .int .i64 v1 ∧ c2 = .int .i64 v2 ∧ c3 = .int .i64 v3 ∧ c4 = .int .u32 v4 ∧ c5 = .int .i64 v5 ∧ c6 = .int .i64 v6 ∧ c7 = .int .i64 v7 ∧ c8 = .bool v8 ∧ c9 = .bool v9 ∧ c10 = .int .i64 v10 ∧ c11 = .int .u32 v11 ∧ c12 = .int .i64 v12 ∧ c13 = .int .i64 v13 ∧ c14 = .int .i64 v14 ∧ c15 = .int .i64 v15 ∧ c16 = .int .i64 v16) ∧ ((Lit.int .i64 v0).wf = true ∧ (Lit.int .i64 v1).wf = true ∧ (Lit.int .i64 v2).wf = true ∧ (Lit.int .i64 v3).wf = true ∧ (Lit.int .u32 v4).wf = true ∧ (Lit.int .i64 v5).wf = true ∧ (Lit.int .i64 v6).wf = true ∧ (Lit.int .i64 v7).wf = true ∧ (Lit.int .i64 v10).wf = true ∧ (Lit.int .u32 v11).wf = true ∧ (Lit.int .i64 v12).wf = true ∧ (Lit.int .i64 v13).wf = true ∧ (Lit.int .i64 v14).wf = true ∧ (Lit.int .i64 v15).wf = true ∧ (Lit.int .i64 v16).wf = true) := by
 obtain ⟨n, y0, y1, y2, y3, y4, y5, y6, y7, y8, y9, y10, y11, hl, h0, h1, h2, h3, h4, h5, h6, h7, h8, h9, h10, h11⟩ := fieldsN12 Tryz.underlying47 h
 dsimp only at h0
 rw [oc3] at h0
 obtain ⟨x0, qx0, _, w0⟩ := DataW.trod_int (x := y0) Tryz.underlying3 h0
 have qx0 : [c0] = [Value.int .i64 x0] := qx0
 rw [List.cons.injEq] at qx0
 obtain ⟨rfl, _⟩ := qx0
 dsimp only at h1
 rw [oc3] at h1
 obtain ⟨x1, qx1, _, w1⟩ := DataW.trod_int (x := y1) Tryz.underlying3 h1
 have qx1 : [c1] = [Value.int .i64 x1] := qx1
 rw [List.cons.injEq] at qx1
 obtain ⟨rfl, _⟩ := qx1
 dsimp only at h2
 rw [oc3] at h2
 obtain ⟨x2, qx2, _, w2⟩ := DataW.trod_int (x := y2) Tryz.underlying3 h2
 have qx2 : [c2] = [Value.int .i64 x2] := qx2
 rw [List.cons.injEq] at qx2
 obtain ⟨rfl, _⟩ := qx2
 dsimp only at h3
 rw [oc3] at h3
 obtain ⟨x3, qx3, _, w3⟩ := DataW.trod_int (x := y3) Tryz.underlying3 h3
 have qx3 : [c3] = [Value.int .i64 x3] := qx3
 rw [List.cons.injEq] at qx3
 obtain ⟨rfl, _⟩ := qx3
 dsimp only at h4
 rw [oc30] at h4
 obtain ⟨x4, qx4, _, w4⟩ := DataW.trod_int (x := y4) Tryz.underlying30 h4
 have qx4 : [c4] = [Value.int .u32 x4] := qx4
 rw [List.cons.injEq] at qx4
 obtain ⟨rfl, _⟩ := qx4
 dsimp only at h5
 rw [oc3] at h5
 obtain ⟨x5, qx5, _, w5⟩ := DataW.trod_int (x := y5) Tryz.underlying3 h5
 have qx5 : [c5] = [Value.int .i64 x5] := qx5
 rw [List.cons.injEq] at qx5
 obtain ⟨rfl, _⟩ := qx5
 dsimp only at h6
 rw [oc3] at h6
 obtain ⟨x6, qx6, _, w6⟩ := DataW.trod_int (x := y6) Tryz.underlying3 h6
 have qx6 : [c6] = [Value.int .i64 x6] := qx6
 rw [List.cons.injEq] at qx6
 obtain ⟨rfl, _⟩ := qx6
 dsimp only at h7
 rw [oc3] at h7
 obtain ⟨x7, qx7, _, w7⟩ := DataW.trod_int (x := y7) Tryz.underlying3 h7
 have qx7 : [c7] = [Value.int .i64 x7] := qx7
 rw [List.cons.injEq] at qx7
 obtain ⟨rfl, _⟩ := qx7
 dsimp only at h8
 rw [oc4] at h8
 obtain ⟨x8, qx8, _⟩ := DataW.trod_bool (x := y8) Tryz.underlying4 h8
 have qx8 : [c8] = [Value.bool x8] := qx8
 rw [List.cons.injEq] at qx8
 obtain ⟨rfl, _⟩ := qx8
 dsimp only at h9
 rw [oc4] at h9
 obtain ⟨x9, qx9, _⟩ := DataW.trod_bool (x := y9) Tryz.underlying4 h9
 have qx9 : [c9] = [Value.bool x9] := qx9
 rw [List.cons.injEq] at qx9
 obtain ⟨rfl, _⟩ := qx9
 dsimp only at h10
 rw [oc3] at h10
 obtain ⟨x10, qx10, _, w10⟩ := DataW.trod_int (x := y10) Tryz.underlying3 h10
 have qx10 : [c10] = [Value.int .i64 x10] := qx10
 rw [List.cons.injEq] at qx10
 obtain ⟨rfl, _⟩ := qx10
 dsimp only at h11
 rw [oc45] at h11
 obtain ⟨x11_0, x11_1, x11_2, x11_3, x11_4, x11_5, ⟨rfl, rfl, rfl, rfl, rfl, rfl⟩, w11⟩ := otr45 (x := y11) (c0 := c11) (c1 := c12) (c2 := c13) (c3 := c14) (c4 := c15) (c5 := c16) h11
 exact ⟨x0, x1, x2, x3, x4, x5, x6, x7, x8, x9, x10, x11_0, x11_1, x11_2, x11_3, x11_4, x11_5, ⟨rfl, rfl, rfl, rfl, rfl, rfl, rfl, rfl, rfl, rfl, rfl, rfl, rfl, rfl, rfl, rfl, rfl⟩, ⟨w0, w1, w2, w3, w4, w5, w6, w7, w10, w11.1, w11.2.1, w11.2.2.1, w11.2.2.2.1, w11.2.2.2.2.1, w11.2.2.2.2.2⟩⟩
def Rs.Wf (r : Rs) : Prop := (Lit.int .i64 r.v).wf = true ∧ (Lit.int .i64 r.run).wf = true ∧ (Lit.int .i64 r.num).wf = true ∧ (Lit.int .i64 r.at_).wf = true ∧ (Lit.int .u32 r.dst).wf = true ∧ (Lit.int .i64 r.proto).wf = true ∧ (Lit.int .i64 r.flow).wf = true ∧ (Lit.int .i64 r.ttl).wf = true ∧ (Lit.int .i64 r.back).wf = true ∧ (Lit.int .u32 r.src).wf = true ∧ (Lit.int .i64 r.kind).wf = true ∧ (Lit.int .i64 r.code).wf = true ∧ (Lit.int .i64 r.left).wf = true ∧ (Lit.int .i64 r.id).wf = true ∧ (Lit.int .i64 r.quo).wf = true
theorem res_trod {H : Type} {enc : TypeId × Value → H} {W : World} {base : Nat} {spare : Nat → Bool} {held : Bool} {fuel : Nat} {cs : List Value} {x : DataW H × List MemPlace} (h : DataW.trod enc Tryz.prog W base spare held fuel 47 cs = some x) : ∃ r : Rs, cs = r.cells ∧ r.Wf := by
 have hl : cs.length = 17 := by
  obtain ⟨n, _, _, _, _, _, _, _, _, _, _, _, _, hl, _⟩ := fieldsN12 Tryz.underlying47 h
  rw [oc47] at hl; exact hl
 match cs, hl with
 | [c0, c1, c2, c3, c4, c5, c6, c7, c8, c9, c10, c11, c12, c13, c14, c15, c16], _ =>
  obtain ⟨v0, v1, v2, v3, v4, v5, v6, v7, v8, v9, v10, v11, v12, v13, v14, v15, v16, ⟨rfl, rfl, rfl, rfl, rfl, rfl, rfl, rfl, rfl, rfl, rfl, rfl, rfl, rfl, rfl, rfl, rfl⟩, hw⟩ := otr47 h
  exact ⟨⟨v0, v1, v2, v3, v4, v5, v6, v7, v8, v9, v10, v11, v12, v13, v14, v15, v16⟩, rfl, hw⟩
theorem open_resslice {H : Type} {enc : TypeId × Value → H} {W : World} {b0 : Nat} {v : Value} {d : DataW H} {p : List MemPlace} (hok : Value.okWide Tryz.prog W .any b0 26 v) (h : DataW.Trod enc Tryz.prog W 0 (fun _ => true) true 26 v d p) :
  ∃ A c l, v = .slice A l.length c ∧ l.length ≤ c ∧ c ≤ maxLen ∧ Reads W W.heap.size 17 A l.length (flat Rs.cells l) ∧ ∀ r ∈ l, r.Wf := by
 obtain ⟨a0, len0, cap0, rfl⟩ := okWide_slice Tryz.underlying26 hok
 obtain ⟨fuel, hf⟩ := h
 rcases DataW.trod_slice Tryz.underlying26 hf with ⟨hcs, _⟩ | ⟨a, len, cap, elems, rest, n, _, hcs, _, _, hlc, hcm, hel, hget, _, _⟩
 ·simp [Value.cells] at hcs
  obtain ⟨rfl, rfl, rfl⟩ := hcs
  exact ⟨none, 0, [], rfl, Nat.le_refl _, Nat.zero_le _, ⟨rfl, fun h => absurd h (by decide)⟩, fun r hr => by cases hr⟩
 ·simp [Value.cells] at hcs
  obtain ⟨rfl, rfl, rfl⟩ := hcs
  have key : ∀ i, i < len0 → ∃ r : Rs, W.cells? 0 (a.add (i * 17)) 17 = some r.cells ∧ r.Wf := fun i hi => by
   have hi2 := hget i hi
   rw [oc47, List.getElem?_eq_getElem (by omega), Option.bind_eq_some_iff] at hi2
   obtain ⟨cs, h1, h2⟩ := hi2
   obtain ⟨r, rfl, ho⟩ := res_trod h2
   exact ⟨r, h1, ho⟩
  obtain ⟨l, h1, h2, h3⟩ := pick_all key len0 (Nat.le_refl _)
  subst h1
  refine ⟨some a, cap0, l, rfl, hlc, hcm, ⟨flat_len rs_cel l, fun hn => ⟨a, rfl, ?_, fun j u hu => ?_⟩⟩, h2⟩
  ·have h4 := cell_of_cells (h3 0 l[0] (List.getElem?_eq_getElem hn)) 0 _ rfl
   have := World.block_lt_of_cell? W _ h4
   rwa [block_of_add, block_of_add] at this
  ·have hj : j < l.length * 17 := by have := (List.getElem?_eq_some_iff.1 hu).1; rwa [flat_len rs_cel] at this
   have hi : j / 17 < l.length := by omega
   have h4 := flat_ix rs_cel (List.getElem?_eq_getElem hi) (j % 17) (by omega)
   rw [show j / 17 * 17 + j % 17 = j by omega, hu] at h4
   have h5 := cell_of_cells (h3 _ _ (List.getElem?_eq_getElem hi)) (j % 17) u h4.symm
   rw [Addr.add_add, show j / 17 * 17 + j % 17 = j by omega] at h5
   exact h5
def Idn.Wf (r : Idn) : Prop := (Lit.int .i64 r.v).wf = true ∧ (Lit.int .i64 r.run).wf = true ∧ (Lit.int .i64 r.num).wf = true
def Trc.Wf (r : Trc) : Prop := (Lit.int .i64 r.v).wf = true ∧ (Lit.int .u32 r.dst).wf = true ∧ (Lit.int .i64 r.proto).wf = true
theorem Rs.Wf.ok {r : Rs} (h : r.Wf) : r.Ok := by
 unfold Rs.Wf at h
 have h1 := wf_u32 h.2.2.2.2.1
 have h2 := wf_u32 (x := r.src) (by obtain ⟨_, _, _, _, _, _, _, _, _, h9, _⟩ := h; exact h9)
 exact ⟨h1.1, h1.2, h2.1, h2.2⟩
end Go.Proofs.YtnejdeklnmkhbaaGreat
