/-
  Registries that are drawn (chapters 32 and 33).
-/
import Derived.Test.YtmbcclgnjobikaaBdRef
namespace Go.Proofs.Ytmbcclgnjobikaa
open Go.RowKit
set_option linter.unusedVariables false
set_option linter.unusedSimpArgs false
set_option maxRecDepth 20000
theorem mem_ins {es : List En} {k : Nat} {x z : En} (h : z ∈ es.take k ++ [x] ++ es.drop k) : z ∈ es ∨ z = x := by
  rcases List.mem_append.1 h with h | h
  · rcases List.mem_append.1 h with h | h
    · exact .inl (List.mem_of_mem_take h)
    · exact .inr (List.mem_singleton.1 h)
  · exact .inl (List.mem_of_mem_drop h)
def shlF (a n : Int) : Int := IntKind.u32.wrap (a / 2 ^ (32 - n).toNat * 2 ^ (32 - n).toNat)
def lens : List Int := [8, 24, 28, 29, 30, 30, 31, 32]
/-- an entry as it is drawn -/
def EnG (e : En) : Prop := (167772160 ≤ e.addr ∧ e.addr < 184549376) ∧ e.len ∈ lens ∧ 1 ≤ e.prov ∧ e.prov ≤ 4
theorem EnG.ok {e : En} (h : EnG e) : e.Ok := ⟨by have := h.1.1; omega, by have := h.1.2; omega⟩
theorem shl_rng {a n : Int} (ha : 167772161 ≤ a ∧ a ≤ 167772173) (hn : n ∈ lens) : 167772160 ≤ shlF a n ∧ shlF a n < 184549376 := by
  have key : ∀ k : Int, 0 < k → k ≤ 16777216 → 167772160 % k = 0 → 167772160 ≤ IntKind.u32.wrap (a / k * k) ∧ IntKind.u32.wrap (a / k * k) < 184549376 := fun k h0 h1 h2 => by
    have e1 : a / k * k ≤ a := Int.ediv_mul_le a (by omega)
    have e2 : 167772160 ≤ a / k * k := by
      have h3 : 167772160 / k * k = 167772160 := Int.ediv_mul_cancel (Int.dvd_of_emod_eq_zero h2)
      have h4 : 167772160 / k ≤ a / k := Int.ediv_le_ediv h0 (by omega)
      have h5 := Int.mul_le_mul_of_nonneg_right h4 (Int.le_of_lt h0)
      omega
    rw [IntKind.wrap_u32]
    omega
  simp only [lens, List.mem_cons, List.not_mem_nil, or_false] at hn
  unfold shlF
  rcases hn with rfl | rfl | rfl | rfl | rfl | rfl | rfl | rfl
  · exact key 16777216 (by decide) (by decide) (by decide)
  · exact key 256 (by decide) (by decide) (by decide)
  · exact key 16 (by decide) (by decide) (by decide)
  · exact key 8 (by decide) (by decide) (by decide)
  · exact key 4 (by decide) (by decide) (by decide)
  · exact key 4 (by decide) (by decide) (by decide)
  · exact key 2 (by decide) (by decide) (by decide)
  · exact key 1 (by decide) (by decide) (by decide)
theorem EnG.mk_ {a n f t : Int} {p : Nat} (ha : 167772161 ≤ a ∧ a ≤ 167772173) (hn : n ∈ lens) (hp : p < 4) : EnG ⟨shlF a n, n, 1 + ((p : Nat) : Int), f, t⟩ :=
  ⟨shl_rng ha hn, hn, by show 1 ≤ 1 + (p : Int); omega, by show 1 + (p : Int) ≤ 4; omega⟩
theorem brazv34 (w : World) : (zeroValue 34).run Try.prog w = .ok (.agg #[.slice none 0 0]) w := rfl
theorem braag34 (w : World) : (isAgg 34).run Try.prog w = .ok true w := rfl
theorem brasz34 (w : World) : (sizeOf 34).run Try.prog w = .ok 1 w := rfl
theorem branm28 : (Try.f28.name == "runtime.NumGoroutine") = false := by decide
theorem brabd28 : Try.f28.body.isNone = false := rfl
theorem braag45 (w : World) : (isAgg 45).run Try.prog w = .ok true w := rfl
theorem brasz45 (w : World) : (sizeOf 45).run Try.prog w = .ok 5 w := rfl
theorem branm29 : (Try.f29.name == "runtime.NumGoroutine") = false := by decide
theorem brabd29 : Try.f29.body.isNone = false := rfl
theorem brafld34_0 (g o : Nat) (w : World) : (Instr.fieldAt 34 (.pointer (some ⟨g, o, none⟩)) 0).run Try.prog w = .ok (.pointer (some ⟨g, o + 0, none⟩)) w := by kernel_rfl
theorem braag32 (w : World) : (isAgg 32).run Try.prog w = .ok false w := rfl
theorem brazv45 (w : World) : (zeroValue 45).run Try.prog w = .ok (.agg #[.int .u32 0, .int .i64 0, .int .i64 0, .int .i64 0, .int .i64 0]) w := rfl
theorem brafld45_0 (g o : Nat) (w : World) : (Instr.fieldAt 45 (.pointer (some ⟨g, o, none⟩)) 0).run Try.prog w = .ok (.pointer (some ⟨g, o + 0, none⟩)) w := by kernel_rfl
theorem braag43 (w : World) : (isAgg 43).run Try.prog w = .ok true w := rfl
theorem brasz43 (w : World) : (sizeOf 43).run Try.prog w = .ok 2 w := rfl
theorem branm30 : (Try.f30.name == "runtime.NumGoroutine") = false := by decide
theorem brabd30 : Try.f30.body.isNone = false := rfl
theorem brafld45_2 (g o : Nat) (w : World) : (Instr.fieldAt 45 (.pointer (some ⟨g, o, none⟩)) 2).run Try.prog w = .ok (.pointer (some ⟨g, o + 3, none⟩)) w := by kernel_rfl
theorem braag3 (w : World) : (isAgg 3).run Try.prog w = .ok false w := rfl
theorem brafld45_3 (g o : Nat) (w : World) : (Instr.fieldAt 45 (.pointer (some ⟨g, o, none⟩)) 3).run Try.prog w = .ok (.pointer (some ⟨g, o + 4, none⟩)) w := by kernel_rfl
theorem brabld34_527  (w : World) : (Instr.build 34 #[]).run Try.prog w = .ok (.agg #[.slice none 0 0]) w := by kernel_rfl
theorem braone_s {a0 : Option Addr} {n0 c0 : Nat} : ∀ u ∈ [(.slice a0 n0 c0 : Value)], u.oneCell' = true := by
  intro u hu
  rw [List.mem_singleton] at hu
  subst hu; rfl
theorem branm31 : (Try.f31.name == "runtime.NumGoroutine") = false := by decide
theorem brabd31 : Try.f31.body.isNone = false := rfl
theorem brael32 : Elem Try.prog 32 45 5 40 := Elem.mk' Try.underlying32 (z := .agg #[.int .u32 0, .int .i64 0, .int .i64 0, .int .i64 0, .int .i64 0]) (by kernel_rfl) rfl (by omega) (by omega)
theorem brabs32_1_22095 (a0_0 : Int) (a0_1 : Int) (a0_2 : Int) (a0_3 : Int) (a0_4 : Int) (w : World) : (Instr.buildSlice 32 1 #[(0, .agg #[.int .u32 a0_0, .int .i64 a0_1, .int .i64 a0_2, .int .i64 a0_3, .int .i64 a0_4])]).run Try.prog w = .ok (.slice (some ⟨w.heap.size, 0, none⟩) 1 1) (w.alloc (.cells [.int .u32 a0_0, .int .i64 a0_1, .int .i64 a0_2, .int .i64 a0_3, .int .i64 a0_4].toArray 45)) := by kernel_rfl
theorem brabld34_67800 (a0_0 : Option Addr) (a0_0n a0_0c : Nat) (w : World) : (Instr.build 34 #[(0, .slice a0_0 a0_0n a0_0c)]).run Try.prog w = .ok (.agg #[.slice a0_0 a0_0n a0_0c]) w := by kernel_rfl
theorem brabs30_8_10220 (a0_0 : Int) (a1_0 : Int) (a2_0 : Int) (a3_0 : Int) (a4_0 : Int) (a5_0 : Int) (a6_0 : Int) (a7_0 : Int) (w : World) : (Instr.buildSlice 30 8 #[(0, .int .i64 a0_0), (1, .int .i64 a1_0), (2, .int .i64 a2_0), (3, .int .i64 a3_0), (4, .int .i64 a4_0), (5, .int .i64 a5_0), (6, .int .i64 a6_0), (7, .int .i64 a7_0)]).run Try.prog w = .ok (.slice (some ⟨w.heap.size, 0, none⟩) 8 8) (w.alloc (.cells [.int .i64 a0_0, .int .i64 a1_0, .int .i64 a2_0, .int .i64 a3_0, .int .i64 a4_0, .int .i64 a5_0, .int .i64 a6_0, .int .i64 a7_0].toArray 3)) := by kernel_rfl
theorem branm23 : (Try.f23.name == "runtime.NumGoroutine") = false := by decide
theorem brabd23 : Try.f23.body.isNone = false := rfl
theorem branm14 : (Try.f14.name == "runtime.NumGoroutine") = false := by decide
theorem brabd14 : Try.f14.body.isNone = false := rfl
theorem brabld43_27253 (a0_0 : Int) (a1_0 : Int) (w : World) : (Instr.build 43 #[(0, .int .u32 a0_0), (1, .int .i64 a1_0)]).run Try.prog w = .ok (.agg #[.int .u32 a0_0, .int .i64 a1_0]) w := by kernel_rfl
theorem branm8 : (Try.f8.name == "runtime.NumGoroutine") = false := by decide
theorem brabd8 : Try.f8.body.isNone = false := rfl
theorem brabs30_5_22075 (a0_0 : Int) (a1_0 : Int) (a2_0 : Int) (a3_0 : Int) (a4_0 : Int) (w : World) : (Instr.buildSlice 30 5 #[(0, .int .i64 a0_0), (1, .int .i64 a1_0), (2, .int .i64 a2_0), (3, .int .i64 a3_0), (4, .int .i64 a4_0)]).run Try.prog w = .ok (.slice (some ⟨w.heap.size, 0, none⟩) 5 5) (w.alloc (.cells [.int .i64 a0_0, .int .i64 a1_0, .int .i64 a2_0, .int .i64 a3_0, .int .i64 a4_0].toArray 3)) := by kernel_rfl
theorem brabld45_98414 (a0_0 : Int) (a0_1 : Int) (a1_0 : Int) (a2_0 : Int) (w : World) : (Instr.build 45 #[(0, .agg #[.int .u32 a0_0, .int .i64 a0_1]), (1, .int .i64 a1_0), (2, .int .i64 a2_0)]).run Try.prog w = .ok (.agg #[.int .u32 a0_0, .int .i64 a0_1, .int .i64 a1_0, .int .i64 a2_0, .int .i64 0]) w := by kernel_rfl
theorem braone_u32i64i64i64i64 {a0 : Int} {a1 : Int} {a2 : Int} {a3 : Int} {a4 : Int} : ∀ u ∈ [(.int .u32 a0 : Value), .int .i64 a1, .int .i64 a2, .int .i64 a3, .int .i64 a4], u.oneCell' = true := by
  intro u hu
  simp only [List.mem_cons, List.not_mem_nil, or_false] at hu
  rcases hu with rfl | rfl | rfl | rfl | rfl <;> rfl
theorem brabs30_4_78574 (a0_0 : Int) (a1_0 : Int) (a2_0 : Int) (a3_0 : Int) (w : World) : (Instr.buildSlice 30 4 #[(0, .int .i64 a0_0), (1, .int .i64 a1_0), (2, .int .i64 a2_0), (3, .int .i64 a3_0)]).run Try.prog w = .ok (.slice (some ⟨w.heap.size, 0, none⟩) 4 4) (w.alloc (.cells [.int .i64 a0_0, .int .i64 a1_0, .int .i64 a2_0, .int .i64 a3_0].toArray 3)) := by kernel_rfl
theorem brasz3 (w : World) : (sizeOf 3).run Try.prog w = .ok 1 w := rfl
theorem braone_i64 {a0 : Int} : ∀ u ∈ [(.int .i64 a0 : Value)], u.oneCell' = true := by
  intro u hu
  rw [List.mem_singleton] at hu
  subst hu; rfl
set_option maxHeartbeats 1000000 in
theorem radd_any (A0 : Option Addr) (c0 : Nat) (es : List En) (x : En) (hx : x.Ok) (w : World) (hr : Reads w w.heap.size 5 A0 es.length (flat En.cells es)) (hl1 : es.length ≤ 10000) (hlc : es.length ≤ c0) (hok : ∀ z ∈ es, z.Ok) :
    Calls Try.prog 21 #[.agg #[.slice A0 es.length c0], .agg x.cells.toArray] w fun e w' => ∃ y : {y : (Option Addr × Nat) × List En × Int // (y.2.2 = 0 → ∀ z ∈ y.2.1, z ∈ es ∨ z = x) ∧ y.2.1.length ≤ es.length + 1 ∧ y.2.1.length ≤ y.1.2 ∧ y.1.2 ≤ maxLen}, e = .returned (.tuple #[.agg #[.slice y.1.1.1 y.1.2.1.length y.1.1.2], .int .i64 y.1.2.2]) ∧ Pm w [.row (.slice y.1.1.1 y.1.2.1.length y.1.1.2) 45 5 y.1.2.1.length (flat En.cells y.1.2.1)] w' := by
  refine begin_ (vs := [.agg #[.slice A0 es.length c0], .agg x.cells.toArray]) Try.func21 rfl rfl rfl ?_ (Pm.start w)
  refine TC.seq_ ?_
  refine TC.region ?_
  refine TL.pnew rfl rfl rfl (exec_box (cs := [.slice A0 es.length c0]) rfl rfl rfl) (fun g2 => ?_)
  refine TL.pnew rfl rfl rfl (exec_box (cs := x.cells) rfl rfl rfl) (fun g3 => ?_)
  refine TL.pnew rfl rfl rfl (exec_alloc (cs := [.slice none 0 0]) rfl brazv34 rfl) (fun g4 => ?_)
  refine TL.val rfl rfl rfl (gives_assign rfl rfl) ?_
  refine TL.end_ ?_
  refine TX.then_ ?_
  refine TC.seq_ ?_
  refine TC.seq_ ?_
  refine TC.region ?_
  refine TL.val rfl rfl rfl (pm_loadV (k := 2) (i := 0) (n := 1) (v := .agg #[.slice A0 es.length c0]) rfl rfl braag34 brasz34 rfl (by show 1 ≤ 1; decide) rfl) ?_
  refine TL.call (α := Bool) (r := fun b => .bool b) (I' := fun _ => Pm w [.blk g4 34 [.slice none 0 0], .blk g3 45 x.cells, .blk g2 34 [.slice A0 es.length c0]]) rfl rfl rfl rfl rfl Try.func28 branm28 brabd28 (fun w1 hw => (rvalR_any A0 c0 es w1 (hr.up hw.bel) (by omega) hok).mono fun e w2 ⟨b, h1, h2⟩ => ⟨b, h1, hw.below h2⟩) (fun b10 => ?_)
  cases b10 with
  | true =>
    refine TL.val rfl rfl rfl (gives_boolnot rfl rfl) ?_
    refine TL.val rfl rfl rfl (gives_move rfl rfl) ?_
    refine TL.on rfl rfl rfl ?_
    refine TL.val rfl rfl rfl (pm_loadV (k := 1) (i := 0) (n := 5) (v := .agg (x.cells).toArray) rfl rfl braag45 brasz45 rfl (by show 5 ≤ 5; decide) rfl) ?_
    refine TL.on rfl rfl rfl ?_
    refine TL.callsplit rfl rfl rfl rfl rfl Try.func29 branm29 brabd29 (fun w1 hw => rvalE_any x hx w1) (fun h14 => ?_) (fun h14 => ?_)
    · refine TL.on rfl rfl rfl ?_
      refine TL.val rfl rfl rfl (gives_boolnot rfl rfl) ?_
      refine TL.val rfl rfl rfl (gives_pick rfl rfl rfl) ?_
      refine TL.end_ ?_
      refine TX.then_ ?_
      refine TC.condF rfl ?_
      refine TC.skip_ ?_
      refine TX.then_ ?_
      refine TC.seq_ ?_
      refine TC.region ?_
      refine TL.val rfl rfl rfl (gives_assign rfl rfl) ?_
      refine TL.end_ ?_
      refine TX.then_ ?_
      refine TC.seq_ ?_
      refine TC.seq_ ?_
      refine TC.region ?_
      refine TL.val rfl rfl rfl (gives_assign rfl rfl) ?_
      refine TL.end_ ?_
      refine TX.then_ ?_
      refine TC.block ?_
      refine TC.loop_ (α := {y : Nat × Nat // y.1 ≤ es.length ∧ y.2 ≤ y.1}) (fun y => [(2, .pointer (some ⟨g2, 0, none⟩)), (3, .pointer (some ⟨g3, 0, none⟩)), (4, .pointer (some ⟨g4, 0, none⟩)), (7, .int .i64 ((y.1.1 : Nat) : Int)), (6, .int .i64 ((y.1.2 : Nat) : Int))]) (fun y => Pm w [.blk g4 34 [.slice none 0 0], .blk g3 45 x.cells, .blk g2 34 [.slice A0 es.length c0]]) (fun y => es.length - y.1.1) (⟨(0, 0), Nat.zero_le _, Nat.le_refl _⟩) ⟨rfl, rfl, rfl, rfl, rfl, trivial⟩ (fun w1 hw => hw) ?_
      rintro ⟨⟨i, k⟩, hi, hk⟩
      dsimp only at hi hk ⊢
      refine TC.seq_ ?_
      refine TC.seq_ ?_
      refine TC.region ?_
      refine TL.val rfl rfl rfl (gives_move rfl rfl) ?_
      refine TL.val rfl rfl rfl (gives_field (v := .pointer (some ⟨g2, 0, none⟩)) rfl rfl (fun w => brafld34_0 _ _ w)) ?_
      refine TL.val rfl rfl rfl (pm_load (k := 2) (i := 0) rfl rfl braag32 rfl rfl) ?_
      refine TL.val rfl rfl rfl (gives_len rfl Try.underlying32 rfl) ?_
      refine TL.vsplit rfl rfl rfl (gives_bin rfl rfl rfl (fun w => bin_lss w)) (fun h22 => ?_) (fun h22 => ?_)
      · have q22 := of_decide_eq_true h22
        refine TL.end_ ?_
        refine TX.then_ ?_
        refine TC.condT rfl ?_
        refine TC.skip_ ?_
        refine TX.then_ ?_
        refine TC.seq_ ?_
        refine TC.block ?_
        refine TC.seq_ ?_
        refine TC.region ?_
        refine TL.val rfl rfl rfl (gives_field (v := .pointer (some ⟨g2, 0, none⟩)) rfl rfl (fun w => brafld34_0 _ _ w)) ?_
        refine TL.val rfl rfl rfl (pm_load (k := 2) (i := 0) rfl rfl braag32 rfl rfl) ?_
        refine TL.val rfl rfl rfl (gives_move rfl rfl) ?_
        have hi28 : i < es.length := by omega
        obtain ⟨x28, hx28⟩ : ∃ x28, es[i]? = some x28 := ⟨_, List.getElem?_eq_getElem hi28⟩
        obtain ⟨b28, o28, hA28, hbb28, hc28⟩ := hr.ad (by omega) (by decide)
        refine TL.val rfl rfl rfl (gives_at (v := .pointer (some ⟨b28, o28 + i * 5, none⟩)) rfl rfl rfl (fun w => at_el Try.underlying32 brasz45 hA28 _ _ i (by omega) rfl w)) ?_
        refine TL.val rfl rfl rfl (gives_loadR (off := o28 + i * 5) rfl rfl braag45 brasz45 (en_cel.len x28) (fun w1 hw j9 u9 h9 => (hw.bel.cell hbb28).trans <| flat_cell en_cel hx28 hc28 j9 u9 h9)) ?_
        refine TL.pnew rfl rfl rfl (exec_alloc (cs := [.int .u32 0, .int .i64 0, .int .i64 0, .int .i64 0, .int .i64 0]) rfl brazv45 rfl) (fun g8 => ?_)
        refine TL.pstore (k := 0) (vs := x28.cells) rfl rfl rfl rfl rfl rfl rfl brasz45 (en_cel.one _) (by show 5 ≤ 5; decide) (L' := [.blk g8 45 x28.cells, .blk g4 34 [.slice none 0 0], .blk g3 45 x.cells, .blk g2 34 [.slice A0 es.length c0]]) rfl ?_
        refine TL.end_ ?_
        refine TX.then_ ?_
        refine TC.seq_ ?_
        refine TC.seq_ ?_
        refine TC.region ?_
        refine TL.val rfl rfl rfl (gives_field (v := .pointer (some ⟨g8, 0, none⟩)) rfl rfl (fun w => brafld45_0 _ _ w)) ?_
        refine TL.val rfl rfl rfl (pm_loadV (k := 0) (i := 0) (n := 2) (v := .agg #[.int .u32 x28.addr, .int .i64 x28.len]) rfl rfl braag43 brasz43 rfl (by show 2 ≤ 5; decide) rfl) ?_
        refine TL.val rfl rfl rfl (gives_field (v := .pointer (some ⟨g3, 0, none⟩)) rfl rfl (fun w => brafld45_0 _ _ w)) ?_
        refine TL.val rfl rfl rfl (pm_loadV (k := 2) (i := 0) (n := 2) (v := .agg #[.int .u32 x.addr, .int .i64 x.len]) rfl rfl braag43 brasz43 rfl (by show 2 ≤ 5; decide) rfl) ?_
        refine TL.pcall1 (r := .int .i64 (cmpP x28.addr x28.len x.addr x.len)) rfl rfl rfl rfl rfl Try.func30 branm30 brabd30 (fun w1 hw => rcmpP_any x28.addr x28.len x.addr x.len (hok x28 (List.mem_of_getElem? hx28)) hx w1) ?_
        refine TL.vsplit rfl rfl rfl (gives_bin rfl rfl rfl (fun w => bin_eql w)) (fun h35 => ?_) (fun h35 => ?_)
        · have q35 := of_decide_eq_true h35
          refine TL.val rfl rfl rfl (gives_move rfl rfl) ?_
          refine TL.on rfl rfl rfl ?_
          refine TL.val rfl rfl rfl (gives_field (v := .pointer (some ⟨g8, 3, none⟩)) rfl rfl (fun w => brafld45_2 _ _ w)) ?_
          refine TL.on rfl rfl rfl ?_
          refine TL.val rfl rfl rfl (pm_load (k := 0) (i := 3) rfl rfl braag3 rfl rfl) ?_
          refine TL.on rfl rfl rfl ?_
          refine TL.val rfl rfl rfl (gives_field (v := .pointer (some ⟨g3, 4, none⟩)) rfl rfl (fun w => brafld45_3 _ _ w)) ?_
          refine TL.on rfl rfl rfl ?_
          refine TL.val rfl rfl rfl (pm_load (k := 2) (i := 4) rfl rfl braag3 rfl rfl) ?_
          refine TL.on rfl rfl rfl ?_
          refine TL.vsplit rfl rfl rfl (gives_bin rfl rfl rfl (fun w => bin_lss w)) (fun h41 => ?_) (fun h41 => ?_)
          · have q41 := of_decide_eq_true h41
            refine TL.val rfl rfl rfl (gives_pick rfl rfl rfl) ?_
            refine TL.val rfl rfl rfl (gives_move rfl rfl) ?_
            refine TL.on rfl rfl rfl ?_
            refine TL.val rfl rfl rfl (gives_field (v := .pointer (some ⟨g3, 3, none⟩)) rfl rfl (fun w => brafld45_2 _ _ w)) ?_
            refine TL.on rfl rfl rfl ?_
            refine TL.val rfl rfl rfl (pm_load (k := 2) (i := 3) rfl rfl braag3 rfl rfl) ?_
            refine TL.on rfl rfl rfl ?_
            refine TL.val rfl rfl rfl (gives_field (v := .pointer (some ⟨g8, 4, none⟩)) rfl rfl (fun w => brafld45_3 _ _ w)) ?_
            refine TL.on rfl rfl rfl ?_
            refine TL.val rfl rfl rfl (pm_load (k := 0) (i := 4) rfl rfl braag3 rfl rfl) ?_
            refine TL.on rfl rfl rfl ?_
            refine TL.vsplit rfl rfl rfl (gives_bin rfl rfl rfl (fun w => bin_lss w)) (fun h48 => ?_) (fun h48 => ?_)
            · have q48 := of_decide_eq_true h48
              refine TL.val rfl rfl rfl (gives_pick rfl rfl rfl) ?_
              refine TL.end_ ?_
              refine TX.then_ ?_
              refine TC.condT rfl ?_
              refine TC.seq_ ?_
              refine TC.region ?_
              refine TL.val rfl rfl rfl (gives_build (v := .agg #[.slice none 0 0]) rfl rfl (fun w => brabld34_527  w)) ?_
              refine TL.pstore (k := 1) (vs := [.slice none 0 0]) rfl rfl rfl rfl rfl rfl rfl brasz34 braone_s (by show 1 ≤ 1; decide) (L' := [.blk g8 45 x28.cells, .blk g4 34 [.slice none 0 0], .blk g3 45 x.cells, .blk g2 34 [.slice A0 es.length c0]]) rfl ?_
              refine TL.val rfl rfl rfl (gives_assign rfl rfl) ?_
              refine TL.end_ ?_
              refine TX.then_ ?_
              refine TC.ret_ ?_
              refine TX.then_ret ?_
              refine TX.in_ret ?_
              refine TX.then_ret ?_
              refine TX.then_ret ?_
              refine TX.in_ret ?_
              refine TX.then_ret ?_
              exact ret_cell2 (k := 1) (v := .int .i64 9) Try.results21 rfl rfl rfl Try.underlying34 rfl rfl (fun w1 hw => ⟨⟨((none, 0), ([], 9)), fun h => absurd h (by decide), Nat.zero_le _, Nat.le_refl _, Nat.zero_le _⟩, rfl, (hw.pick [] (by decide) rfl).nilrow _ _⟩)
            · have q48 := of_decide_eq_false h48
              refine TL.val rfl rfl rfl (gives_pick rfl rfl rfl) ?_
              refine TL.end_ ?_
              refine TX.then_ ?_
              refine TC.condF rfl ?_
              refine TC.skip_ ?_
              refine TX.then_ ?_
              refine TC.seq_ ?_
              refine TC.region ?_
              refine TL.val rfl rfl rfl (pm_loadV (k := 0) (i := 0) (n := 5) (v := .agg (x28.cells).toArray) rfl rfl braag45 brasz45 rfl (by show 5 ≤ 5; decide) rfl) ?_
              refine TL.val rfl rfl rfl (pm_loadV (k := 2) (i := 0) (n := 5) (v := .agg (x.cells).toArray) rfl rfl braag45 brasz45 rfl (by show 5 ≤ 5; decide) rfl) ?_
              refine TL.call (α := Int) (r := fun z => .int .i64 z) (I' := fun _ => Pm w [.blk g8 45 x28.cells, .blk g4 34 [.slice none 0 0], .blk g3 45 x.cells, .blk g2 34 [.slice A0 es.length c0]]) rfl rfl rfl rfl rfl Try.func31 branm31 brabd31 (fun w1 hw => (rcmpE_any x28 x (hok x28 (List.mem_of_getElem? hx28)) hx w1).mono fun e w2 ⟨b, h1, h2⟩ => ⟨b, h1, hw.below h2⟩) (fun z53 => ?_)
              refine TL.vsplit rfl rfl rfl (gives_bin rfl rfl rfl (fun w => bin_lss w)) (fun h54 => ?_) (fun h54 => ?_)
              · have q54 := of_decide_eq_true h54
                refine TL.end_ ?_
                refine TX.then_ ?_
                refine TC.condT rfl ?_
                refine TC.region ?_
                refine TL.val rfl rfl rfl (gives_move rfl rfl) ?_
                refine TL.val rfl rfl rfl (gives_bin rfl rfl rfl (fun w => bin_add_ (r := ((i + 1 : Nat) : Int)) (by simp only [IntKind.wrap_i64]; omega) w)) ?_
                refine TL.val rfl rfl rfl (gives_assign rfl rfl) ?_
                refine TL.end_ ?_
                refine TX.in_normal ?_
                refine TX.then_ ?_
                refine TC.region ?_
                refine TL.val rfl rfl rfl (gives_move rfl rfl) ?_
                refine TL.val rfl rfl rfl (gives_bin rfl rfl rfl (fun w => bin_add_ (r := ((i + 1 : Nat) : Int)) (by simp only [IntKind.wrap_i64]; omega) w)) ?_
                refine TL.val rfl rfl rfl (gives_assign rfl rfl) ?_
                refine TL.end_ ?_
                exact TX.round (⟨(i + 1, i + 1), by dsimp only; omega, by dsimp only; omega⟩) (by show es.length - (i + 1) < es.length - i; omega) ⟨rfl, rfl, rfl, rfl, rfl, trivial⟩ (fun w1 hw => hw.pick [1, 2, 3] (by decide) rfl)
              · have q54 := of_decide_eq_false h54
                refine TL.end_ ?_
                refine TX.then_ ?_
                refine TC.condF rfl ?_
                refine TC.skip_ ?_
                refine TX.in_normal ?_
                refine TX.then_ ?_
                refine TC.region ?_
                refine TL.val rfl rfl rfl (gives_move rfl rfl) ?_
                refine TL.val rfl rfl rfl (gives_bin rfl rfl rfl (fun w => bin_add_ (r := ((i + 1 : Nat) : Int)) (by simp only [IntKind.wrap_i64]; omega) w)) ?_
                refine TL.val rfl rfl rfl (gives_assign rfl rfl) ?_
                refine TL.end_ ?_
                exact TX.round (⟨(i + 1, k), by dsimp only; omega, by dsimp only; omega⟩) (by show es.length - (i + 1) < es.length - i; omega) ⟨rfl, rfl, rfl, rfl, rfl, trivial⟩ (fun w1 hw => hw.pick [1, 2, 3] (by decide) rfl)
          · have q41 := of_decide_eq_false h41
            refine TL.val rfl rfl rfl (gives_pick rfl rfl rfl) ?_
            refine TL.val rfl rfl rfl (gives_move rfl rfl) ?_
            refine TL.off rfl rfl rfl rfl rfl rfl ?_
            refine TL.off rfl rfl rfl rfl rfl rfl ?_
            refine TL.off rfl rfl rfl rfl rfl rfl ?_
            refine TL.off rfl rfl rfl rfl rfl rfl ?_
            refine TL.off rfl rfl rfl rfl rfl rfl ?_
            refine TL.val rfl rfl rfl (gives_pick rfl rfl rfl) ?_
            refine TL.end_ ?_
            refine TX.then_ ?_
            refine TC.condF rfl ?_
            refine TC.skip_ ?_
            refine TX.then_ ?_
            refine TC.seq_ ?_
            refine TC.region ?_
            refine TL.val rfl rfl rfl (pm_loadV (k := 0) (i := 0) (n := 5) (v := .agg (x28.cells).toArray) rfl rfl braag45 brasz45 rfl (by show 5 ≤ 5; decide) rfl) ?_
            refine TL.val rfl rfl rfl (pm_loadV (k := 2) (i := 0) (n := 5) (v := .agg (x.cells).toArray) rfl rfl braag45 brasz45 rfl (by show 5 ≤ 5; decide) rfl) ?_
            refine TL.call (α := Int) (r := fun z => .int .i64 z) (I' := fun _ => Pm w [.blk g8 45 x28.cells, .blk g4 34 [.slice none 0 0], .blk g3 45 x.cells, .blk g2 34 [.slice A0 es.length c0]]) rfl rfl rfl rfl rfl Try.func31 branm31 brabd31 (fun w1 hw => (rcmpE_any x28 x (hok x28 (List.mem_of_getElem? hx28)) hx w1).mono fun e w2 ⟨b, h1, h2⟩ => ⟨b, h1, hw.below h2⟩) (fun z53 => ?_)
            refine TL.vsplit rfl rfl rfl (gives_bin rfl rfl rfl (fun w => bin_lss w)) (fun h54 => ?_) (fun h54 => ?_)
            · have q54 := of_decide_eq_true h54
              refine TL.end_ ?_
              refine TX.then_ ?_
              refine TC.condT rfl ?_
              refine TC.region ?_
              refine TL.val rfl rfl rfl (gives_move rfl rfl) ?_
              refine TL.val rfl rfl rfl (gives_bin rfl rfl rfl (fun w => bin_add_ (r := ((i + 1 : Nat) : Int)) (by simp only [IntKind.wrap_i64]; omega) w)) ?_
              refine TL.val rfl rfl rfl (gives_assign rfl rfl) ?_
              refine TL.end_ ?_
              refine TX.in_normal ?_
              refine TX.then_ ?_
              refine TC.region ?_
              refine TL.val rfl rfl rfl (gives_move rfl rfl) ?_
              refine TL.val rfl rfl rfl (gives_bin rfl rfl rfl (fun w => bin_add_ (r := ((i + 1 : Nat) : Int)) (by simp only [IntKind.wrap_i64]; omega) w)) ?_
              refine TL.val rfl rfl rfl (gives_assign rfl rfl) ?_
              refine TL.end_ ?_
              exact TX.round (⟨(i + 1, i + 1), by dsimp only; omega, by dsimp only; omega⟩) (by show es.length - (i + 1) < es.length - i; omega) ⟨rfl, rfl, rfl, rfl, rfl, trivial⟩ (fun w1 hw => hw.pick [1, 2, 3] (by decide) rfl)
            · have q54 := of_decide_eq_false h54
              refine TL.end_ ?_
              refine TX.then_ ?_
              refine TC.condF rfl ?_
              refine TC.skip_ ?_
              refine TX.in_normal ?_
              refine TX.then_ ?_
              refine TC.region ?_
              refine TL.val rfl rfl rfl (gives_move rfl rfl) ?_
              refine TL.val rfl rfl rfl (gives_bin rfl rfl rfl (fun w => bin_add_ (r := ((i + 1 : Nat) : Int)) (by simp only [IntKind.wrap_i64]; omega) w)) ?_
              refine TL.val rfl rfl rfl (gives_assign rfl rfl) ?_
              refine TL.end_ ?_
              exact TX.round (⟨(i + 1, k), by dsimp only; omega, by dsimp only; omega⟩) (by show es.length - (i + 1) < es.length - i; omega) ⟨rfl, rfl, rfl, rfl, rfl, trivial⟩ (fun w1 hw => hw.pick [1, 2, 3] (by decide) rfl)
        · have q35 := of_decide_eq_false h35
          refine TL.val rfl rfl rfl (gives_move rfl rfl) ?_
          refine TL.off rfl rfl rfl rfl rfl rfl ?_
          refine TL.off rfl rfl rfl rfl rfl rfl ?_
          refine TL.off rfl rfl rfl rfl rfl rfl ?_
          refine TL.off rfl rfl rfl rfl rfl rfl ?_
          refine TL.off rfl rfl rfl rfl rfl rfl ?_
          refine TL.val rfl rfl rfl (gives_pick rfl rfl rfl) ?_
          refine TL.val rfl rfl rfl (gives_move rfl rfl) ?_
          refine TL.off rfl rfl rfl rfl rfl rfl ?_
          refine TL.off rfl rfl rfl rfl rfl rfl ?_
          refine TL.off rfl rfl rfl rfl rfl rfl ?_
          refine TL.off rfl rfl rfl rfl rfl rfl ?_
          refine TL.off rfl rfl rfl rfl rfl rfl ?_
          refine TL.val rfl rfl rfl (gives_pick rfl rfl rfl) ?_
          refine TL.end_ ?_
          refine TX.then_ ?_
          refine TC.condF rfl ?_
          refine TC.skip_ ?_
          refine TX.then_ ?_
          refine TC.seq_ ?_
          refine TC.region ?_
          refine TL.val rfl rfl rfl (pm_loadV (k := 0) (i := 0) (n := 5) (v := .agg (x28.cells).toArray) rfl rfl braag45 brasz45 rfl (by show 5 ≤ 5; decide) rfl) ?_
          refine TL.val rfl rfl rfl (pm_loadV (k := 2) (i := 0) (n := 5) (v := .agg (x.cells).toArray) rfl rfl braag45 brasz45 rfl (by show 5 ≤ 5; decide) rfl) ?_
          refine TL.call (α := Int) (r := fun z => .int .i64 z) (I' := fun _ => Pm w [.blk g8 45 x28.cells, .blk g4 34 [.slice none 0 0], .blk g3 45 x.cells, .blk g2 34 [.slice A0 es.length c0]]) rfl rfl rfl rfl rfl Try.func31 branm31 brabd31 (fun w1 hw => (rcmpE_any x28 x (hok x28 (List.mem_of_getElem? hx28)) hx w1).mono fun e w2 ⟨b, h1, h2⟩ => ⟨b, h1, hw.below h2⟩) (fun z53 => ?_)
          refine TL.vsplit rfl rfl rfl (gives_bin rfl rfl rfl (fun w => bin_lss w)) (fun h54 => ?_) (fun h54 => ?_)
          · have q54 := of_decide_eq_true h54
            refine TL.end_ ?_
            refine TX.then_ ?_
            refine TC.condT rfl ?_
            refine TC.region ?_
            refine TL.val rfl rfl rfl (gives_move rfl rfl) ?_
            refine TL.val rfl rfl rfl (gives_bin rfl rfl rfl (fun w => bin_add_ (r := ((i + 1 : Nat) : Int)) (by simp only [IntKind.wrap_i64]; omega) w)) ?_
            refine TL.val rfl rfl rfl (gives_assign rfl rfl) ?_
            refine TL.end_ ?_
            refine TX.in_normal ?_
            refine TX.then_ ?_
            refine TC.region ?_
            refine TL.val rfl rfl rfl (gives_move rfl rfl) ?_
            refine TL.val rfl rfl rfl (gives_bin rfl rfl rfl (fun w => bin_add_ (r := ((i + 1 : Nat) : Int)) (by simp only [IntKind.wrap_i64]; omega) w)) ?_
            refine TL.val rfl rfl rfl (gives_assign rfl rfl) ?_
            refine TL.end_ ?_
            exact TX.round (⟨(i + 1, i + 1), by dsimp only; omega, by dsimp only; omega⟩) (by show es.length - (i + 1) < es.length - i; omega) ⟨rfl, rfl, rfl, rfl, rfl, trivial⟩ (fun w1 hw => hw.pick [1, 2, 3] (by decide) rfl)
          · have q54 := of_decide_eq_false h54
            refine TL.end_ ?_
            refine TX.then_ ?_
            refine TC.condF rfl ?_
            refine TC.skip_ ?_
            refine TX.in_normal ?_
            refine TX.then_ ?_
            refine TC.region ?_
            refine TL.val rfl rfl rfl (gives_move rfl rfl) ?_
            refine TL.val rfl rfl rfl (gives_bin rfl rfl rfl (fun w => bin_add_ (r := ((i + 1 : Nat) : Int)) (by simp only [IntKind.wrap_i64]; omega) w)) ?_
            refine TL.val rfl rfl rfl (gives_assign rfl rfl) ?_
            refine TL.end_ ?_
            exact TX.round (⟨(i + 1, k), by dsimp only; omega, by dsimp only; omega⟩) (by show es.length - (i + 1) < es.length - i; omega) ⟨rfl, rfl, rfl, rfl, rfl, trivial⟩ (fun w1 hw => hw.pick [1, 2, 3] (by decide) rfl)
      · have q22 := of_decide_eq_false h22
        refine TL.end_ ?_
        refine TX.then_ ?_
        refine TC.condF rfl ?_
        refine TC.exit_ ?_
        refine TX.then_exit ?_
        refine TX.then_exit ?_
        refine TX.in_same ?_
        refine TX.then_ ?_
        refine TC.seq_ ?_
        refine TC.seq_ ?_
        refine TC.region ?_
        refine TL.val rfl rfl rfl (gives_field (v := .pointer (some ⟨g2, 0, none⟩)) rfl rfl (fun w => brafld34_0 _ _ w)) ?_
        refine TL.val rfl rfl rfl (pm_load (k := 2) (i := 0) rfl rfl braag32 rfl rfl) ?_
        refine TL.val rfl rfl rfl (gives_len rfl Try.underlying32 rfl) ?_
        refine TL.vsplit rfl rfl rfl (gives_bin rfl rfl rfl (fun w => bin_geq w)) (fun h60 => ?_) (fun h60 => ?_)
        · have q60 := of_decide_eq_true h60
          refine TL.end_ ?_
          refine TX.then_ ?_
          refine TC.condT rfl ?_
          refine TC.seq_ ?_
          refine TC.region ?_
          refine TL.val rfl rfl rfl (gives_build (v := .agg #[.slice none 0 0]) rfl rfl (fun w => brabld34_527  w)) ?_
          refine TL.pstore (k := 0) (vs := [.slice none 0 0]) rfl rfl rfl rfl rfl rfl rfl brasz34 braone_s (by show 1 ≤ 1; decide) (L' := [.blk g4 34 [.slice none 0 0], .blk g3 45 x.cells, .blk g2 34 [.slice A0 es.length c0]]) rfl ?_
          refine TL.val rfl rfl rfl (gives_assign rfl rfl) ?_
          refine TL.end_ ?_
          refine TX.then_ ?_
          refine TC.ret_ ?_
          refine TX.then_ret ?_
          exact ret_cell2 (k := 0) (v := .int .i64 5) Try.results21 rfl rfl rfl Try.underlying34 rfl rfl (fun w1 hw => ⟨⟨((none, 0), ([], 5)), fun h => absurd h (by decide), Nat.zero_le _, Nat.le_refl _, Nat.zero_le _⟩, rfl, (hw.pick [] (by decide) rfl).nilrow _ _⟩)
        · have q60 := of_decide_eq_false h60
          refine TL.end_ ?_
          refine TX.then_ ?_
          refine TC.condF rfl ?_
          refine TC.skip_ ?_
          refine TX.then_ ?_
          refine TC.seq_ ?_
          refine TC.held (ls := #[false, false, false, false, false, false, false, false, false, false, false, false, false, false, false, false]) (Pm w [.blk g3 45 x.cells, .blk g2 34 [.slice A0 es.length c0]]) (by kernel_rfl) rfl rfl (fun w hw => hw.drawn _) ?_
          refine TH.take (listed' := #[true, false, false, false, false, false, false, false, false, false, false, false, false, false, false, false]) 0 rfl (by kernel_rfl) (by kernel_rfl) (by kernel_rfl) rfl rfl rfl rfl (gives_field (v := .pointer (some ⟨g2, 0, none⟩)) rfl rfl (fun w => brafld34_0 _ _ w)) (fun w1 hw => hw.pick [1, 2] (by decide) rfl) ?_
          refine TH.take (listed' := #[true, true, false, false, false, false, false, false, false, false, false, false, false, false, false, false]) 1 rfl (by kernel_rfl) (by kernel_rfl) (by kernel_rfl) rfl rfl rfl rfl (pm_load (k := 1) (i := 0) rfl rfl braag32 rfl rfl) (fun w1 hw => hw.pick [1, 2] (by decide) rfl) ?_
          refine TH.take (listed' := #[true, true, true, false, false, false, false, false, false, false, false, false, false, false, false, false]) 2 rfl (by kernel_rfl) (by kernel_rfl) (by kernel_rfl) rfl rfl rfl rfl (gives_move rfl rfl) (fun w1 hw => hw.pick [1, 2] (by decide) rfl) ?_
          refine TH.take (listed' := #[true, true, true, true, false, false, false, false, false, false, false, false, false, false, false, false]) 3 rfl (by kernel_rfl) (by kernel_rfl) (by kernel_rfl) rfl rfl rfl rfl (gives_sliceH (v := .slice A0 k c0) rfl rfl rfl (fun w => cut_hi Try.underlying32 brasz45 _ _ _ k rfl (by omega) w)) (fun w1 hw => hw.pick [1, 2] (by decide) rfl) ?_
          refine TH.take (listed' := #[true, true, true, true, false, true, false, false, false, false, false, false, false, false, false, false]) 5 rfl (by kernel_rfl) (by kernel_rfl) (by kernel_rfl) rfl rfl rfl rfl (pm_loadV (k := 0) (i := 0) (n := 5) (v := .agg (x.cells).toArray) rfl rfl braag45 brasz45 rfl (by show 5 ≤ 5; decide) rfl) (fun w1 hw => hw.pick [1, 2] (by decide) rfl) ?_
          refine TH.take (listed' := #[true, true, true, true, false, true, false, false, true, false, false, false, false, false, false, false]) 8 rfl (by kernel_rfl) (by kernel_rfl) (by kernel_rfl) rfl rfl rfl rfl (gives_field (v := .pointer (some ⟨g2, 0, none⟩)) rfl rfl (fun w => brafld34_0 _ _ w)) (fun w1 hw => hw.pick [1, 2] (by decide) rfl) ?_
          refine TH.take (listed' := #[true, true, true, true, false, true, false, false, true, true, false, false, false, false, false, false]) 9 rfl (by kernel_rfl) (by kernel_rfl) (by kernel_rfl) rfl rfl rfl rfl (pm_load (k := 1) (i := 0) rfl rfl braag32 rfl rfl) (fun w1 hw => hw.pick [1, 2] (by decide) rfl) ?_
          refine TH.take (listed' := #[true, true, true, true, false, true, false, false, true, true, true, false, false, false, false, false]) 10 rfl (by kernel_rfl) (by kernel_rfl) (by kernel_rfl) rfl rfl rfl rfl (gives_move rfl rfl) (fun w1 hw => hw.pick [1, 2] (by decide) rfl) ?_
          refine TH.take (listed' := #[true, true, true, true, false, true, false, false, true, true, true, true, false, false, false, false]) 11 rfl (by kernel_rfl) (by kernel_rfl) (by kernel_rfl) rfl rfl rfl rfl (gives_sliceL (v := .slice (if c0 = k then A0 else A0.map (·.add (k * 5))) (es.length - k) (c0 - k)) rfl rfl rfl (fun w => cut_lo Try.underlying32 brasz45 _ _ _ k rfl (by omega) w)) (fun w1 hw => hw.pick [1, 2] (by decide) rfl) ?_
          refine TH.two' (listed1 := #[true, true, true, true, true, true, false, false, true, true, true, true, false, false, false, false]) (listed2 := #[true, true, true, true, false, true, true, false, true, true, true, true, false, false, false, false]) 4 6 rfl rfl (by kernel_rfl) rfl rfl ?_ ?_
          · refine TL.nilrow 45 5 ?_
            refine TL.appendT (k := 0) rfl rfl rfl rfl Try.underlying32 brael32 rfl rfl rfl (fun w1 hw => ⟨_, (Reads.headF en_cel (hr.up hw.bel) (by omega))⟩) (flat_one en_cel _) (by show _ * 40 ≤ _; omega) (k) ((Nat.zero_add _).symm) (flat En.cells (es.take k)) (rfl) (fun A66 c66 hA661 hA662 => ?_)
            refine TL.end_ ?_
            refine TX.held (fun w1 hw => hw.pick [2, 3] (by decide) rfl) ?_
            refine TH.only' (listed' := #[true, true, true, true, true, true, true, false, true, true, true, true, false, false, false, false]) 6 rfl (by kernel_rfl) rfl ?_
            refine TL.prowS (e := 45) (size := 5) (cs := flat En.cells [x]) rfl rfl rfl rfl rfl (fun w => brabs32_1_22095 _ _ _ _ _ w) (by decide) rfl (fun g68 => ?_)
            refine TL.end_ ?_
            refine TX.held (fun w1 hw => hw.pick [3, 4] (by decide) rfl) ?_
            refine TH.only' (listed' := #[true, true, true, true, true, true, true, true, true, true, true, true, false, false, false, false]) 7 rfl (by kernel_rfl) rfl ?_
            refine TL.appendT (k := 1) rfl rfl rfl rfl Try.underlying32 brael32 rfl rfl rfl (fun w1 hw => pm_reads hw (k := 0) rfl) (flat_one en_cel _) (by show _ * 40 ≤ _; omega) (k + 1) (rfl) (flat En.cells ((es.take k) ++ ([x]))) ((flat_app _ _).symm) (fun A69 c69 hA691 hA692 => ?_)
            refine TL.end_ ?_
            refine TX.held (fun w1 hw => hw.pick [3, 4] (by decide) rfl) ?_
            refine TH.only' (listed' := #[true, true, true, true, true, true, true, true, true, true, true, true, true, false, false, false]) 12 rfl (by kernel_rfl) rfl ?_
            refine TL.appendT (k := 1) rfl rfl rfl rfl Try.underlying32 brael32 rfl rfl rfl (fun w1 hw => ⟨_, (Reads.tailF en_cel (hr.up hw.bel) (by omega) (by omega))⟩) (flat_one en_cel _) (by show _ * 40 ≤ _; omega) (k + 1 + (es.length - k)) (rfl) (flat En.cells (((es.take k) ++ ([x])) ++ (es.drop k))) ((flat_app _ _).symm) (fun A74 c74 hA741 hA742 => ?_)
            refine TL.end_ ?_
            refine TX.held (fun w1 hw => hw.pick [3, 4] (by decide) rfl) ?_
            refine TH.take (listed' := #[true, true, true, true, true, true, true, true, true, true, true, true, true, true, false, false]) 13 rfl (by kernel_rfl) (by kernel_rfl) (by kernel_rfl) rfl rfl rfl rfl (gives_build (v := .agg #[.slice A74 (k + 1 + (es.length - k)) c74]) rfl rfl (fun w => brabld34_67800 _ _ _ w)) (fun w1 hw => hw.pick [3, 4] (by decide) rfl) ?_
            refine TH.only' (listed' := #[true, true, true, true, true, true, true, true, true, true, true, true, true, true, true, false]) 14 rfl (by kernel_rfl) rfl ?_
            refine TL.pstore (k := 2) (vs := [.slice A74 (k + 1 + (es.length - k)) c74]) rfl rfl rfl rfl rfl rfl rfl brasz34 braone_s (by show 1 ≤ 1; decide) (L' := [.row (.slice (some ⟨g68, 0, none⟩) 1 1) 45 5 1 (flat En.cells [x]), .row (.slice A74 (k + 1 + (es.length - k)) c74) 45 5 (k + 1 + (es.length - k)) (flat En.cells (((es.take k) ++ ([x])) ++ (es.drop k))), .blk g4 34 [.slice A74 (k + 1 + (es.length - k)) c74], .blk g3 45 x.cells, .blk g2 34 [.slice A0 es.length c0]]) rfl ?_
            refine TL.end_ ?_
            refine TX.held (fun w1 hw => hw.pick [3, 4] (by decide) rfl) ?_
            refine TH.take (listed' := #[true, true, true, true, true, true, true, true, true, true, true, true, true, true, true, true]) 15 rfl (by kernel_rfl) (by kernel_rfl) (by kernel_rfl) rfl rfl rfl rfl (gives_assign rfl rfl) (fun w1 hw => hw.pick [3, 4] (by decide) rfl) ?_
            refine TH.done (by kernel_rfl) ?_
            refine TX.then_ ?_
            refine TC.ret_ ?_
            have hle : (((es.take k) ++ ([x])) ++ (es.drop k)).length = k + 1 + (es.length - k) := by simp only [List.length_append, List.length_take, List.length_drop, List.length_cons, List.length_nil]; omega
            exact ret_cell2 (k := 2) (v := .int .i64 0) Try.results21 rfl rfl rfl Try.underlying34 rfl rfl (fun w1 hw => ⟨⟨((A74, c74), (((es.take k) ++ ([x])) ++ (es.drop k), 0)), fun _ z h => mem_ins h, by dsimp only; omega, by dsimp only; omega, hA742⟩, by dsimp only; rw [hle], by dsimp only; rw [hle]; exact hw.pick [1] (by decide) rfl⟩)
          · refine TL.prowS (e := 45) (size := 5) (cs := flat En.cells [x]) rfl rfl rfl rfl rfl (fun w => brabs32_1_22095 _ _ _ _ _ w) (by decide) rfl (fun g68 => ?_)
            refine TL.end_ ?_
            refine TX.held (fun w1 hw => hw.pick [2, 3] (by decide) rfl) ?_
            refine TH.only' (listed' := #[true, true, true, true, true, true, true, false, true, true, true, true, false, false, false, false]) 4 rfl (by kernel_rfl) rfl ?_
            refine TL.nilrow 45 5 ?_
            refine TL.appendT (k := 0) rfl rfl rfl rfl Try.underlying32 brael32 rfl rfl rfl (fun w1 hw => ⟨_, (Reads.headF en_cel (hr.up hw.bel) (by omega))⟩) (flat_one en_cel _) (by show _ * 40 ≤ _; omega) (k) ((Nat.zero_add _).symm) (flat En.cells (es.take k)) (rfl) (fun A66 c66 hA661 hA662 => ?_)
            refine TL.end_ ?_
            refine TX.held (fun w1 hw => hw.pick [3, 4] (by decide) rfl) ?_
            refine TH.only' (listed' := #[true, true, true, true, true, true, true, true, true, true, true, true, false, false, false, false]) 7 rfl (by kernel_rfl) rfl ?_
            refine TL.appendT (k := 0) rfl rfl rfl rfl Try.underlying32 brael32 rfl rfl rfl (fun w1 hw => pm_reads hw (k := 1) rfl) (flat_one en_cel _) (by show _ * 40 ≤ _; omega) (k + 1) (rfl) (flat En.cells ((es.take k) ++ ([x]))) ((flat_app _ _).symm) (fun A69 c69 hA691 hA692 => ?_)
            refine TL.end_ ?_
            refine TX.held (fun w1 hw => hw.pick [3, 4] (by decide) rfl) ?_
            refine TH.only' (listed' := #[true, true, true, true, true, true, true, true, true, true, true, true, true, false, false, false]) 12 rfl (by kernel_rfl) rfl ?_
            refine TL.appendT (k := 0) rfl rfl rfl rfl Try.underlying32 brael32 rfl rfl rfl (fun w1 hw => ⟨_, (Reads.tailF en_cel (hr.up hw.bel) (by omega) (by omega))⟩) (flat_one en_cel _) (by show _ * 40 ≤ _; omega) (k + 1 + (es.length - k)) (rfl) (flat En.cells (((es.take k) ++ ([x])) ++ (es.drop k))) ((flat_app _ _).symm) (fun A74 c74 hA741 hA742 => ?_)
            refine TL.end_ ?_
            refine TX.held (fun w1 hw => hw.pick [3, 4] (by decide) rfl) ?_
            refine TH.take (listed' := #[true, true, true, true, true, true, true, true, true, true, true, true, true, true, false, false]) 13 rfl (by kernel_rfl) (by kernel_rfl) (by kernel_rfl) rfl rfl rfl rfl (gives_build (v := .agg #[.slice A74 (k + 1 + (es.length - k)) c74]) rfl rfl (fun w => brabld34_67800 _ _ _ w)) (fun w1 hw => hw.pick [3, 4] (by decide) rfl) ?_
            refine TH.only' (listed' := #[true, true, true, true, true, true, true, true, true, true, true, true, true, true, true, false]) 14 rfl (by kernel_rfl) rfl ?_
            refine TL.pstore (k := 2) (vs := [.slice A74 (k + 1 + (es.length - k)) c74]) rfl rfl rfl rfl rfl rfl rfl brasz34 braone_s (by show 1 ≤ 1; decide) (L' := [.row (.slice A74 (k + 1 + (es.length - k)) c74) 45 5 (k + 1 + (es.length - k)) (flat En.cells (((es.take k) ++ ([x])) ++ (es.drop k))), .row (.slice (some ⟨g68, 0, none⟩) 1 1) 45 5 1 (flat En.cells [x]), .blk g4 34 [.slice A74 (k + 1 + (es.length - k)) c74], .blk g3 45 x.cells, .blk g2 34 [.slice A0 es.length c0]]) rfl ?_
            refine TL.end_ ?_
            refine TX.held (fun w1 hw => hw.pick [3, 4] (by decide) rfl) ?_
            refine TH.take (listed' := #[true, true, true, true, true, true, true, true, true, true, true, true, true, true, true, true]) 15 rfl (by kernel_rfl) (by kernel_rfl) (by kernel_rfl) rfl rfl rfl rfl (gives_assign rfl rfl) (fun w1 hw => hw.pick [3, 4] (by decide) rfl) ?_
            refine TH.done (by kernel_rfl) ?_
            refine TX.then_ ?_
            refine TC.ret_ ?_
            have hle : (((es.take k) ++ ([x])) ++ (es.drop k)).length = k + 1 + (es.length - k) := by simp only [List.length_append, List.length_take, List.length_drop, List.length_cons, List.length_nil]; omega
            exact ret_cell2 (k := 2) (v := .int .i64 0) Try.results21 rfl rfl rfl Try.underlying34 rfl rfl (fun w1 hw => ⟨⟨((A74, c74), (((es.take k) ++ ([x])) ++ (es.drop k), 0)), fun _ z h => mem_ins h, by dsimp only; omega, by dsimp only; omega, hA742⟩, by dsimp only; rw [hle], by dsimp only; rw [hle]; exact hw.pick [0] (by decide) rfl⟩)
    · refine TL.on rfl rfl rfl ?_
      refine TL.val rfl rfl rfl (gives_boolnot rfl rfl) ?_
      refine TL.val rfl rfl rfl (gives_pick rfl rfl rfl) ?_
      refine TL.end_ ?_
      refine TX.then_ ?_
      refine TC.condT rfl ?_
      refine TC.seq_ ?_
      refine TC.region ?_
      refine TL.val rfl rfl rfl (gives_build (v := .agg #[.slice none 0 0]) rfl rfl (fun w => brabld34_527  w)) ?_
      refine TL.pstore (k := 0) (vs := [.slice none 0 0]) rfl rfl rfl rfl rfl rfl rfl brasz34 braone_s (by show 1 ≤ 1; decide) (L' := [.blk g4 34 [.slice none 0 0], .blk g3 45 x.cells, .blk g2 34 [.slice A0 es.length c0]]) rfl ?_
      refine TL.val rfl rfl rfl (gives_assign rfl rfl) ?_
      refine TL.end_ ?_
      refine TX.then_ ?_
      refine TC.ret_ ?_
      refine TX.then_ret ?_
      exact ret_cell2 (k := 0) (v := .int .i64 1) Try.results21 rfl rfl rfl Try.underlying34 rfl rfl (fun w1 hw => ⟨⟨((none, 0), ([], 1)), fun h => absurd h (by decide), Nat.zero_le _, Nat.le_refl _, Nat.zero_le _⟩, rfl, (hw.pick [] (by decide) rfl).nilrow _ _⟩)
  | false =>
    refine TL.val rfl rfl rfl (gives_boolnot rfl rfl) ?_
    refine TL.val rfl rfl rfl (gives_move rfl rfl) ?_
    refine TL.off rfl rfl rfl rfl rfl rfl ?_
    refine TL.off rfl rfl rfl rfl rfl rfl ?_
    refine TL.off rfl rfl rfl rfl rfl rfl ?_
    refine TL.val rfl rfl rfl (gives_pick rfl rfl rfl) ?_
    refine TL.end_ ?_
    refine TX.then_ ?_
    refine TC.condT rfl ?_
    refine TC.seq_ ?_
    refine TC.region ?_
    refine TL.val rfl rfl rfl (gives_build (v := .agg #[.slice none 0 0]) rfl rfl (fun w => brabld34_527  w)) ?_
    refine TL.pstore (k := 0) (vs := [.slice none 0 0]) rfl rfl rfl rfl rfl rfl rfl brasz34 braone_s (by show 1 ≤ 1; decide) (L' := [.blk g4 34 [.slice none 0 0], .blk g3 45 x.cells, .blk g2 34 [.slice A0 es.length c0]]) rfl ?_
    refine TL.val rfl rfl rfl (gives_assign rfl rfl) ?_
    refine TL.end_ ?_
    refine TX.then_ ?_
    refine TC.ret_ ?_
    refine TX.then_ret ?_
    exact ret_cell2 (k := 0) (v := .int .i64 1) Try.results21 rfl rfl rfl Try.underlying34 rfl rfl (fun w1 hw => ⟨⟨((none, 0), ([], 1)), fun h => absurd h (by decide), Nat.zero_le _, Nat.le_refl _, Nat.zero_le _⟩, rfl, (hw.pick [] (by decide) rfl).nilrow _ _⟩)
set_option maxHeartbeats 1000000 in
theorem entry_cod (cb : Nat) (w : World) (hC : Cod w cb) :
    Calls Try.prog 22 #[.pointer (some ⟨cb, 0, none⟩)] w fun e w' => ∃ x : {y : En // EnG y}, e = .returned (.agg x.1.cells.toArray) ∧ Codr (fun w => Cod w cb) cb w ([]) w' := by
  refine begin_ (vs := [.pointer (some ⟨cb, 0, none⟩)]) (I := Pm ⟨w, cb⟩ (.abs cb (fun w => Cod w cb) :: oths cb w)) Try.func22 rfl rfl rfl ?_ (Pm.codes hC (cod_cells hC) (cod_stab cb))
  refine TC.seq_ ?_
  refine TC.region ?_
  refine TL.pnew rfl rfl rfl (exec_alloc (cs := [.int .u32 0, .int .i64 0, .int .i64 0, .int .i64 0, .int .i64 0]) rfl brazv45 rfl) (fun g2 => ?_)
  refine TL.end_ ?_
  refine TX.then_ ?_
  refine TC.seq_ ?_
  refine TC.region ?_
  refine TL.val rfl rfl rfl (gives_move rfl rfl) ?_
  refine TL.prowS (e := 3) (size := 1) (cs := flat (ic .i64) [8, 24, 28, 29, 30, 30, 31, 32]) rfl rfl rfl rfl rfl (fun w => brabs30_8_10220 _ _ _ _ _ _ _ _ w) (by decide) rfl (fun g7 => ?_)
  refine TL.pcallCod (k := 2) (α := {v : Int // v ∈ ([8, 24, 28, 29, 30, 30, 31, 32] : List Int)}) (fun x => .int .i64 x.1) (fun x => []) rfl rfl rfl rfl rfl Try.func23 branm23 brabd23 rfl (fun w1 hw hC1 => pick_cod cb w1 hC1 g7 8 ([8, 24, 28, 29, 30, 30, 31, 32]) (hw.neq (i := 0) (j := 2) rfl rfl (by decide) g7 rfl <| congrArg some ·.symm) (Pc.lt (hw.at_ (k := 0) rfl) g7 rfl).2 (by show 0 < ([8, 24, 28, 29, 30, 30, 31, 32] : List Int).length; simp) (fun i v hi => flat_row1 hw (q := 0) rfl hi)) ?_
  rintro ⟨n, hn⟩
  dsimp only [List.cons_append, List.nil_append]
  have hn8 : 8 ≤ n ∧ n ≤ 32 := by simp only [List.mem_cons, List.not_mem_nil, or_false] at hn; omega
  refine TL.val rfl rfl rfl (gives_assign rfl rfl) ?_
  refine TL.end_ ?_
  refine TX.then_ ?_
  refine TC.seq_ ?_
  refine TC.region ?_
  refine TL.val rfl rfl rfl (gives_move rfl rfl) ?_
  refine TL.pcallCod (k := 2) (α := {a : Int // 167772161 ≤ a ∧ a ≤ 167772173}) (fun x => .int .u32 x.1) (fun x => []) rfl rfl rfl rfl rfl Try.func14 branm14 brabd14 rfl (fun w1 hw hC1 => daddr_cod cb w1 hC1) ?_
  rintro ⟨a, ha1, ha2⟩
  dsimp only [List.cons_append, List.nil_append]
  refine TL.val rfl rfl rfl (gives_assign rfl rfl) ?_
  refine TL.end_ ?_
  refine TX.then_ ?_
  refine TC.join (α := {y : Nat × Nat × Int // y.2.1 < 4}) (fun y => [(0, .pointer (some ⟨cb, 0, none⟩)), (2, .pointer (some ⟨g2, 0, none⟩)), (5, .pointer (some ⟨y.1.1, 0, none⟩))]) (fun y => Pm ⟨w, cb⟩ ([.blk y.1.1 45 [.int .u32 (shlF a n), .int .i64 n, .int .i64 (1 + ((y.1.2.1 : Nat) : Int)), .int .i64 y.1.2.2, .int .i64 0], .blk g2 45 [.int .u32 0, .int .i64 0, .int .i64 0, .int .i64 0, .int .i64 0], .abs cb (fun w => Cod w cb)] ++ oths cb w)) ?_ ?_
  · refine TC.held (ls := #[false, false, false, false, false, false, false, false, false, false, false, false, false, false, false, false, false, false]) (Pm ⟨w, cb⟩ []) (by kernel_rfl) rfl rfl (fun w hw => hw.drawn _) ?_
    refine TH.take (listed' := #[true, false, false, false, false, false, false, false, false, false, false, false, false, false, false, false, false, false]) 0 rfl (by kernel_rfl) (by kernel_rfl) (by kernel_rfl) rfl rfl rfl rfl (gives_move rfl rfl) (fun w1 hw => hw.pick [] (by decide) rfl) ?_
    refine TH.take (listed' := #[true, true, false, false, false, false, false, false, false, false, false, false, false, false, false, false, false, false]) 1 rfl (by kernel_rfl) (by kernel_rfl) (by kernel_rfl) rfl rfl rfl rfl (gives_move rfl rfl) (fun w1 hw => hw.pick [] (by decide) rfl) ?_
    refine TH.take (listed' := #[true, true, true, false, false, false, false, false, false, false, false, false, false, false, false, false, false, false]) 2 rfl (by kernel_rfl) (by kernel_rfl) (by kernel_rfl) rfl rfl rfl rfl (gives_bin rfl rfl rfl (fun w => bin_sub_ (r := 32 - n) (by simp only [IntKind.wrap_i64]; omega) w)) (fun w1 hw => hw.pick [] (by decide) rfl) ?_
    refine TH.take (listed' := #[true, true, true, true, false, false, false, false, false, false, false, false, false, false, false, false, false, false]) 3 rfl (by kernel_rfl) (by kernel_rfl) (by kernel_rfl) rfl rfl rfl rfl (gives_bin (v := .int .u32 (a / 2 ^ (32 - n).toNat)) rfl rfl rfl (fun w => bin_shr (2 ^ (32 - n).toNat) (by omega) (by simp only [IntKind.bits]; omega) rfl w)) (fun w1 hw => hw.pick [] (by decide) rfl) ?_
    refine TH.take (listed' := #[true, true, true, true, true, false, false, false, false, false, false, false, false, false, false, false, false, false]) 4 rfl (by kernel_rfl) (by kernel_rfl) (by kernel_rfl) rfl rfl rfl rfl (gives_move rfl rfl) (fun w1 hw => hw.pick [] (by decide) rfl) ?_
    refine TH.take (listed' := #[true, true, true, true, true, true, false, false, false, false, false, false, false, false, false, false, false, false]) 5 rfl (by kernel_rfl) (by kernel_rfl) (by kernel_rfl) rfl rfl rfl rfl (gives_bin rfl rfl rfl (fun w => bin_sub_ (r := 32 - n) (by simp only [IntKind.wrap_i64]; omega) w)) (fun w1 hw => hw.pick [] (by decide) rfl) ?_
    refine TH.take (listed' := #[true, true, true, true, true, true, true, false, false, false, false, false, false, false, false, false, false, false]) 6 rfl (by kernel_rfl) (by kernel_rfl) (by kernel_rfl) rfl rfl rfl rfl (gives_bin (v := .int .u32 (shlF a n)) rfl rfl rfl (fun w => bin_shl (2 ^ (32 - n).toNat) (by omega) (by simp only [IntKind.bits]; omega) rfl w)) (fun w1 hw => hw.pick [] (by decide) rfl) ?_
    refine TH.take (listed' := #[true, true, true, true, true, true, true, true, false, false, false, false, false, false, false, false, false, false]) 7 rfl (by kernel_rfl) (by kernel_rfl) (by kernel_rfl) rfl rfl rfl rfl (gives_move rfl rfl) (fun w1 hw => hw.pick [] (by decide) rfl) ?_
    refine TH.take (listed' := #[true, true, true, true, true, true, true, true, true, false, false, false, false, false, false, false, false, false]) 8 rfl (by kernel_rfl) (by kernel_rfl) (by kernel_rfl) rfl rfl rfl rfl (gives_build (v := .agg #[.int .u32 (shlF a n), .int .i64 n]) rfl rfl (fun w => brabld43_27253 _ _ w)) (fun w1 hw => hw.pick [] (by decide) rfl) ?_
    refine TH.take (listed' := #[true, true, true, true, true, true, true, true, true, true, false, false, false, false, false, false, false, false]) 9 rfl (by kernel_rfl) (by kernel_rfl) (by kernel_rfl) rfl rfl rfl rfl (gives_move rfl rfl) (fun w1 hw => hw.pick [] (by decide) rfl) ?_
    refine TH.take (listed' := #[true, true, true, true, true, true, true, true, true, true, false, false, true, false, false, false, false, false]) 12 rfl (by kernel_rfl) (by kernel_rfl) (by kernel_rfl) rfl rfl rfl rfl (gives_move rfl rfl) (fun w1 hw => hw.pick [] (by decide) rfl) ?_
    refine TH.three (l1 := #[true, true, true, true, true, true, true, true, true, true, true, false, true, false, false, false, false, false]) (l2 := #[true, true, true, true, true, true, true, true, true, true, false, false, true, true, false, false, false, false]) (l3 := #[true, true, true, true, true, true, true, true, true, true, false, false, true, false, false, false, true, false]) 10 13 16 rfl rfl rfl (by kernel_rfl) rfl rfl rfl rfl rfl rfl ?_ ?_ ?_
    · refine TL.pcallCod (k := 2) (α := {q9 : Nat // q9 ≤ 65535 ∧ (1 ≤ (4 : Int) → (q9 : Int) < 4)}) (fun q9 => .int .i64 ((q9.1 : Nat) : Int)) (fun q9 => []) rfl rfl rfl rfl rfl Try.func8 branm8 brabd8 rfl (fun w1 hw hC1 => next_cod cb w1 4 hC1) ?_
      rintro ⟨k21, hk211, hk212⟩
      dsimp only [List.cons_append, List.nil_append]
      refine TL.end_ ?_
      refine TX.held (fun w1 hw => hw.pick [] (by decide) rfl) ?_
      refine TH.take (listed' := #[true, true, true, true, true, true, true, true, true, true, true, true, true, false, false, false, false, false]) 11 rfl (by kernel_rfl) (by kernel_rfl) (by kernel_rfl) rfl rfl rfl rfl (gives_bin rfl rfl rfl (fun w => bin_add_ (r := 1 + ((k21 : Nat) : Int)) (by simp only [IntKind.wrap_i64]; omega) w)) (fun w1 hw => hw.pick [] (by decide) rfl) ?_
      refine TH.two' (listed1 := #[true, true, true, true, true, true, true, true, true, true, true, true, true, true, false, false, false, false]) (listed2 := #[true, true, true, true, true, true, true, true, true, true, true, true, true, false, false, false, true, false]) 13 16 rfl rfl (by kernel_rfl) rfl rfl ?_ ?_
      · refine TL.prowS (e := 3) (size := 1) (cs := flat (ic .i64) [0, 0, 0, 50, 300]) rfl rfl rfl rfl rfl (fun w => brabs30_5_22075 _ _ _ _ _ w) (by decide) rfl (fun g24 => ?_)
        refine TL.end_ ?_
        refine TX.held (fun w1 hw => hw.pick [] (by decide) rfl) ?_
        refine TH.two' (listed1 := #[true, true, true, true, true, true, true, true, true, true, true, true, true, true, true, false, false, false]) (listed2 := #[true, true, true, true, true, true, true, true, true, true, true, true, true, true, false, false, true, false]) 14 16 rfl rfl (by kernel_rfl) rfl rfl ?_ ?_
        · refine TL.pcallCod (k := 3) (α := {v : Int // v ∈ ([0, 0, 0, 50, 300] : List Int)}) (fun x => .int .i64 x.1) (fun x => []) rfl rfl rfl rfl rfl Try.func23 branm23 brabd23 rfl (fun w1 hw hC1 => pick_cod cb w1 hC1 g24 5 ([0, 0, 0, 50, 300]) (hw.neq (i := 0) (j := 3) rfl rfl (by decide) g24 rfl <| congrArg some ·.symm) (Pc.lt (hw.at_ (k := 0) rfl) g24 rfl).2 (by show 0 < ([0, 0, 0, 50, 300] : List Int).length; simp) (fun i v hi => flat_row1 hw (q := 0) rfl hi)) ?_
          rintro ⟨v25, hv25⟩
          dsimp only [List.cons_append, List.nil_append]
          refine TL.end_ ?_
          refine TX.held (fun w1 hw => hw.pick [] (by decide) rfl) ?_
          refine TH.take (listed' := #[true, true, true, true, true, true, true, true, true, true, true, true, true, true, true, true, false, false]) 15 rfl (by kernel_rfl) (by kernel_rfl) (by kernel_rfl) rfl rfl rfl rfl (gives_build (v := .agg #[.int .u32 (shlF a n), .int .i64 n, .int .i64 (1 + ((k21 : Nat) : Int)), .int .i64 v25, .int .i64 0]) rfl rfl (fun w => brabld45_98414 _ _ _ _ w)) (fun w1 hw => hw.pick [] (by decide) rfl) ?_
          refine TH.only' (listed' := #[true, true, true, true, true, true, true, true, true, true, true, true, true, true, true, true, true, false]) 16 rfl (by kernel_rfl) rfl ?_
          refine TL.pnew rfl rfl rfl (exec_alloc (cs := [.int .u32 0, .int .i64 0, .int .i64 0, .int .i64 0, .int .i64 0]) rfl brazv45 rfl) (fun g5 => ?_)
          refine TL.end_ ?_
          refine TX.held (fun w1 hw => hw.pick [] (by decide) rfl) ?_
          refine TH.only' (listed' := #[true, true, true, true, true, true, true, true, true, true, true, true, true, true, true, true, true, true]) 17 rfl (by kernel_rfl) rfl ?_
          refine TL.pstore (k := 0) (vs := [.int .u32 (shlF a n), .int .i64 n, .int .i64 (1 + ((k21 : Nat) : Int)), .int .i64 v25, .int .i64 0]) rfl rfl rfl rfl rfl rfl rfl brasz45 braone_u32i64i64i64i64 (by show 5 ≤ 5; decide) (L' := ([.blk g5 45 [.int .u32 (shlF a n), .int .i64 n, .int .i64 (1 + ((k21 : Nat) : Int)), .int .i64 v25, .int .i64 0], .row (.slice (some ⟨g24, 0, none⟩) 5 5) 3 1 5 (flat (ic .i64) [0, 0, 0, 50, 300]), .row (.slice (some ⟨g7, 0, none⟩) 8 8) 3 1 8 (flat (ic .i64) [8, 24, 28, 29, 30, 30, 31, 32]), .blk g2 45 [.int .u32 0, .int .i64 0, .int .i64 0, .int .i64 0, .int .i64 0], .abs cb (fun w => Cod w cb)] ++ oths cb w)) rfl ?_
          refine TL.end_ ?_
          refine TX.held (fun w1 hw => hw.pick [] (by decide) rfl) ?_
          refine TH.done (by kernel_rfl) ?_
          exact TX.joined (⟨(g5, k21, v25), by dsimp only; omega⟩) (⟨rfl, rfl, rfl, trivial⟩) (fun w1 hw => hw.sel (.cons_cons _ (.cons _ (.cons _ (.cons_cons _ (.cons_cons _ (List.Sublist.refl _)))))))
        · refine TL.pnew rfl rfl rfl (exec_alloc (cs := [.int .u32 0, .int .i64 0, .int .i64 0, .int .i64 0, .int .i64 0]) rfl brazv45 rfl) (fun g5 => ?_)
          refine TL.end_ ?_
          refine TX.held (fun w1 hw => hw.pick [] (by decide) rfl) ?_
          refine TH.only' (listed' := #[true, true, true, true, true, true, true, true, true, true, true, true, true, true, true, false, true, false]) 14 rfl (by kernel_rfl) rfl ?_
          refine TL.pcallCod (k := 4) (α := {v : Int // v ∈ ([0, 0, 0, 50, 300] : List Int)}) (fun x => .int .i64 x.1) (fun x => []) rfl rfl rfl rfl rfl Try.func23 branm23 brabd23 rfl (fun w1 hw hC1 => pick_cod cb w1 hC1 g24 5 ([0, 0, 0, 50, 300]) (hw.neq (i := 1) (j := 4) rfl rfl (by decide) g24 rfl <| congrArg some ·.symm) (Pc.lt (hw.at_ (k := 1) rfl) g24 rfl).2 (by show 0 < ([0, 0, 0, 50, 300] : List Int).length; simp) (fun i v hi => flat_row1 hw (q := 1) rfl hi)) ?_
          rintro ⟨v25, hv25⟩
          dsimp only [List.cons_append, List.nil_append]
          refine TL.end_ ?_
          refine TX.held (fun w1 hw => hw.pick [] (by decide) rfl) ?_
          refine TH.take (listed' := #[true, true, true, true, true, true, true, true, true, true, true, true, true, true, true, true, true, false]) 15 rfl (by kernel_rfl) (by kernel_rfl) (by kernel_rfl) rfl rfl rfl rfl (gives_build (v := .agg #[.int .u32 (shlF a n), .int .i64 n, .int .i64 (1 + ((k21 : Nat) : Int)), .int .i64 v25, .int .i64 0]) rfl rfl (fun w => brabld45_98414 _ _ _ _ w)) (fun w1 hw => hw.pick [] (by decide) rfl) ?_
          refine TH.only' (listed' := #[true, true, true, true, true, true, true, true, true, true, true, true, true, true, true, true, true, true]) 17 rfl (by kernel_rfl) rfl ?_
          refine TL.pstore (k := 0) (vs := [.int .u32 (shlF a n), .int .i64 n, .int .i64 (1 + ((k21 : Nat) : Int)), .int .i64 v25, .int .i64 0]) rfl rfl rfl rfl rfl rfl rfl brasz45 braone_u32i64i64i64i64 (by show 5 ≤ 5; decide) (L' := ([.blk g5 45 [.int .u32 (shlF a n), .int .i64 n, .int .i64 (1 + ((k21 : Nat) : Int)), .int .i64 v25, .int .i64 0], .row (.slice (some ⟨g24, 0, none⟩) 5 5) 3 1 5 (flat (ic .i64) [0, 0, 0, 50, 300]), .row (.slice (some ⟨g7, 0, none⟩) 8 8) 3 1 8 (flat (ic .i64) [8, 24, 28, 29, 30, 30, 31, 32]), .blk g2 45 [.int .u32 0, .int .i64 0, .int .i64 0, .int .i64 0, .int .i64 0], .abs cb (fun w => Cod w cb)] ++ oths cb w)) rfl ?_
          refine TL.end_ ?_
          refine TX.held (fun w1 hw => hw.pick [] (by decide) rfl) ?_
          refine TH.done (by kernel_rfl) ?_
          exact TX.joined (⟨(g5, k21, v25), by dsimp only; omega⟩) (⟨rfl, rfl, rfl, trivial⟩) (fun w1 hw => hw.sel (.cons_cons _ (.cons _ (.cons _ (.cons_cons _ (.cons_cons _ (List.Sublist.refl _)))))))
      · refine TL.pnew rfl rfl rfl (exec_alloc (cs := [.int .u32 0, .int .i64 0, .int .i64 0, .int .i64 0, .int .i64 0]) rfl brazv45 rfl) (fun g5 => ?_)
        refine TL.end_ ?_
        refine TX.held (fun w1 hw => hw.pick [] (by decide) rfl) ?_
        refine TH.only' (listed' := #[true, true, true, true, true, true, true, true, true, true, true, true, true, true, false, false, true, false]) 13 rfl (by kernel_rfl) rfl ?_
        refine TL.prowS (e := 3) (size := 1) (cs := flat (ic .i64) [0, 0, 0, 50, 300]) rfl rfl rfl rfl rfl (fun w => brabs30_5_22075 _ _ _ _ _ w) (by decide) rfl (fun g24 => ?_)
        refine TL.end_ ?_
        refine TX.held (fun w1 hw => hw.pick [] (by decide) rfl) ?_
        refine TH.only' (listed' := #[true, true, true, true, true, true, true, true, true, true, true, true, true, true, true, false, true, false]) 14 rfl (by kernel_rfl) rfl ?_
        refine TL.pcallCod (k := 4) (α := {v : Int // v ∈ ([0, 0, 0, 50, 300] : List Int)}) (fun x => .int .i64 x.1) (fun x => []) rfl rfl rfl rfl rfl Try.func23 branm23 brabd23 rfl (fun w1 hw hC1 => pick_cod cb w1 hC1 g24 5 ([0, 0, 0, 50, 300]) (hw.neq (i := 0) (j := 4) rfl rfl (by decide) g24 rfl <| congrArg some ·.symm) (Pc.lt (hw.at_ (k := 0) rfl) g24 rfl).2 (by show 0 < ([0, 0, 0, 50, 300] : List Int).length; simp) (fun i v hi => flat_row1 hw (q := 0) rfl hi)) ?_
        rintro ⟨v25, hv25⟩
        dsimp only [List.cons_append, List.nil_append]
        refine TL.end_ ?_
        refine TX.held (fun w1 hw => hw.pick [] (by decide) rfl) ?_
        refine TH.take (listed' := #[true, true, true, true, true, true, true, true, true, true, true, true, true, true, true, true, true, false]) 15 rfl (by kernel_rfl) (by kernel_rfl) (by kernel_rfl) rfl rfl rfl rfl (gives_build (v := .agg #[.int .u32 (shlF a n), .int .i64 n, .int .i64 (1 + ((k21 : Nat) : Int)), .int .i64 v25, .int .i64 0]) rfl rfl (fun w => brabld45_98414 _ _ _ _ w)) (fun w1 hw => hw.pick [] (by decide) rfl) ?_
        refine TH.only' (listed' := #[true, true, true, true, true, true, true, true, true, true, true, true, true, true, true, true, true, true]) 17 rfl (by kernel_rfl) rfl ?_
        refine TL.pstore (k := 1) (vs := [.int .u32 (shlF a n), .int .i64 n, .int .i64 (1 + ((k21 : Nat) : Int)), .int .i64 v25, .int .i64 0]) rfl rfl rfl rfl rfl rfl rfl brasz45 braone_u32i64i64i64i64 (by show 5 ≤ 5; decide) (L' := ([.row (.slice (some ⟨g24, 0, none⟩) 5 5) 3 1 5 (flat (ic .i64) [0, 0, 0, 50, 300]), .blk g5 45 [.int .u32 (shlF a n), .int .i64 n, .int .i64 (1 + ((k21 : Nat) : Int)), .int .i64 v25, .int .i64 0], .row (.slice (some ⟨g7, 0, none⟩) 8 8) 3 1 8 (flat (ic .i64) [8, 24, 28, 29, 30, 30, 31, 32]), .blk g2 45 [.int .u32 0, .int .i64 0, .int .i64 0, .int .i64 0, .int .i64 0], .abs cb (fun w => Cod w cb)] ++ oths cb w)) rfl ?_
        refine TL.end_ ?_
        refine TX.held (fun w1 hw => hw.pick [] (by decide) rfl) ?_
        refine TH.done (by kernel_rfl) ?_
        exact TX.joined (⟨(g5, k21, v25), by dsimp only; omega⟩) (⟨rfl, rfl, rfl, trivial⟩) (fun w1 hw => hw.sel (.cons _ (.cons_cons _ (.cons _ (.cons_cons _ (.cons_cons _ (List.Sublist.refl _)))))))
    · refine TL.prowS (e := 3) (size := 1) (cs := flat (ic .i64) [0, 0, 0, 50, 300]) rfl rfl rfl rfl rfl (fun w => brabs30_5_22075 _ _ _ _ _ w) (by decide) rfl (fun g24 => ?_)
      refine TL.end_ ?_
      refine TX.held (fun w1 hw => hw.pick [] (by decide) rfl) ?_
      refine TH.two' (listed1 := #[true, true, true, true, true, true, true, true, true, true, true, false, true, true, false, false, false, false]) (listed2 := #[true, true, true, true, true, true, true, true, true, true, false, false, true, true, false, false, true, false]) 10 16 rfl rfl (by kernel_rfl) rfl rfl ?_ ?_
      · refine TL.pcallCod (k := 3) (α := {q9 : Nat // q9 ≤ 65535 ∧ (1 ≤ (4 : Int) → (q9 : Int) < 4)}) (fun q9 => .int .i64 ((q9.1 : Nat) : Int)) (fun q9 => []) rfl rfl rfl rfl rfl Try.func8 branm8 brabd8 rfl (fun w1 hw hC1 => next_cod cb w1 4 hC1) ?_
        rintro ⟨k21, hk211, hk212⟩
        dsimp only [List.cons_append, List.nil_append]
        refine TL.end_ ?_
        refine TX.held (fun w1 hw => hw.pick [] (by decide) rfl) ?_
        refine TH.take (listed' := #[true, true, true, true, true, true, true, true, true, true, true, true, true, true, false, false, false, false]) 11 rfl (by kernel_rfl) (by kernel_rfl) (by kernel_rfl) rfl rfl rfl rfl (gives_bin rfl rfl rfl (fun w => bin_add_ (r := 1 + ((k21 : Nat) : Int)) (by simp only [IntKind.wrap_i64]; omega) w)) (fun w1 hw => hw.pick [] (by decide) rfl) ?_
        refine TH.two' (listed1 := #[true, true, true, true, true, true, true, true, true, true, true, true, true, true, true, false, false, false]) (listed2 := #[true, true, true, true, true, true, true, true, true, true, true, true, true, true, false, false, true, false]) 14 16 rfl rfl (by kernel_rfl) rfl rfl ?_ ?_
        · refine TL.pcallCod (k := 3) (α := {v : Int // v ∈ ([0, 0, 0, 50, 300] : List Int)}) (fun x => .int .i64 x.1) (fun x => []) rfl rfl rfl rfl rfl Try.func23 branm23 brabd23 rfl (fun w1 hw hC1 => pick_cod cb w1 hC1 g24 5 ([0, 0, 0, 50, 300]) (hw.neq (i := 0) (j := 3) rfl rfl (by decide) g24 rfl <| congrArg some ·.symm) (Pc.lt (hw.at_ (k := 0) rfl) g24 rfl).2 (by show 0 < ([0, 0, 0, 50, 300] : List Int).length; simp) (fun i v hi => flat_row1 hw (q := 0) rfl hi)) ?_
          rintro ⟨v25, hv25⟩
          dsimp only [List.cons_append, List.nil_append]
          refine TL.end_ ?_
          refine TX.held (fun w1 hw => hw.pick [] (by decide) rfl) ?_
          refine TH.take (listed' := #[true, true, true, true, true, true, true, true, true, true, true, true, true, true, true, true, false, false]) 15 rfl (by kernel_rfl) (by kernel_rfl) (by kernel_rfl) rfl rfl rfl rfl (gives_build (v := .agg #[.int .u32 (shlF a n), .int .i64 n, .int .i64 (1 + ((k21 : Nat) : Int)), .int .i64 v25, .int .i64 0]) rfl rfl (fun w => brabld45_98414 _ _ _ _ w)) (fun w1 hw => hw.pick [] (by decide) rfl) ?_
          refine TH.only' (listed' := #[true, true, true, true, true, true, true, true, true, true, true, true, true, true, true, true, true, false]) 16 rfl (by kernel_rfl) rfl ?_
          refine TL.pnew rfl rfl rfl (exec_alloc (cs := [.int .u32 0, .int .i64 0, .int .i64 0, .int .i64 0, .int .i64 0]) rfl brazv45 rfl) (fun g5 => ?_)
          refine TL.end_ ?_
          refine TX.held (fun w1 hw => hw.pick [] (by decide) rfl) ?_
          refine TH.only' (listed' := #[true, true, true, true, true, true, true, true, true, true, true, true, true, true, true, true, true, true]) 17 rfl (by kernel_rfl) rfl ?_
          refine TL.pstore (k := 0) (vs := [.int .u32 (shlF a n), .int .i64 n, .int .i64 (1 + ((k21 : Nat) : Int)), .int .i64 v25, .int .i64 0]) rfl rfl rfl rfl rfl rfl rfl brasz45 braone_u32i64i64i64i64 (by show 5 ≤ 5; decide) (L' := ([.blk g5 45 [.int .u32 (shlF a n), .int .i64 n, .int .i64 (1 + ((k21 : Nat) : Int)), .int .i64 v25, .int .i64 0], .row (.slice (some ⟨g24, 0, none⟩) 5 5) 3 1 5 (flat (ic .i64) [0, 0, 0, 50, 300]), .row (.slice (some ⟨g7, 0, none⟩) 8 8) 3 1 8 (flat (ic .i64) [8, 24, 28, 29, 30, 30, 31, 32]), .blk g2 45 [.int .u32 0, .int .i64 0, .int .i64 0, .int .i64 0, .int .i64 0], .abs cb (fun w => Cod w cb)] ++ oths cb w)) rfl ?_
          refine TL.end_ ?_
          refine TX.held (fun w1 hw => hw.pick [] (by decide) rfl) ?_
          refine TH.done (by kernel_rfl) ?_
          exact TX.joined (⟨(g5, k21, v25), by dsimp only; omega⟩) (⟨rfl, rfl, rfl, trivial⟩) (fun w1 hw => hw.sel (.cons_cons _ (.cons _ (.cons _ (.cons_cons _ (.cons_cons _ (List.Sublist.refl _)))))))
        · refine TL.pnew rfl rfl rfl (exec_alloc (cs := [.int .u32 0, .int .i64 0, .int .i64 0, .int .i64 0, .int .i64 0]) rfl brazv45 rfl) (fun g5 => ?_)
          refine TL.end_ ?_
          refine TX.held (fun w1 hw => hw.pick [] (by decide) rfl) ?_
          refine TH.only' (listed' := #[true, true, true, true, true, true, true, true, true, true, true, true, true, true, true, false, true, false]) 14 rfl (by kernel_rfl) rfl ?_
          refine TL.pcallCod (k := 4) (α := {v : Int // v ∈ ([0, 0, 0, 50, 300] : List Int)}) (fun x => .int .i64 x.1) (fun x => []) rfl rfl rfl rfl rfl Try.func23 branm23 brabd23 rfl (fun w1 hw hC1 => pick_cod cb w1 hC1 g24 5 ([0, 0, 0, 50, 300]) (hw.neq (i := 1) (j := 4) rfl rfl (by decide) g24 rfl <| congrArg some ·.symm) (Pc.lt (hw.at_ (k := 1) rfl) g24 rfl).2 (by show 0 < ([0, 0, 0, 50, 300] : List Int).length; simp) (fun i v hi => flat_row1 hw (q := 1) rfl hi)) ?_
          rintro ⟨v25, hv25⟩
          dsimp only [List.cons_append, List.nil_append]
          refine TL.end_ ?_
          refine TX.held (fun w1 hw => hw.pick [] (by decide) rfl) ?_
          refine TH.take (listed' := #[true, true, true, true, true, true, true, true, true, true, true, true, true, true, true, true, true, false]) 15 rfl (by kernel_rfl) (by kernel_rfl) (by kernel_rfl) rfl rfl rfl rfl (gives_build (v := .agg #[.int .u32 (shlF a n), .int .i64 n, .int .i64 (1 + ((k21 : Nat) : Int)), .int .i64 v25, .int .i64 0]) rfl rfl (fun w => brabld45_98414 _ _ _ _ w)) (fun w1 hw => hw.pick [] (by decide) rfl) ?_
          refine TH.only' (listed' := #[true, true, true, true, true, true, true, true, true, true, true, true, true, true, true, true, true, true]) 17 rfl (by kernel_rfl) rfl ?_
          refine TL.pstore (k := 0) (vs := [.int .u32 (shlF a n), .int .i64 n, .int .i64 (1 + ((k21 : Nat) : Int)), .int .i64 v25, .int .i64 0]) rfl rfl rfl rfl rfl rfl rfl brasz45 braone_u32i64i64i64i64 (by show 5 ≤ 5; decide) (L' := ([.blk g5 45 [.int .u32 (shlF a n), .int .i64 n, .int .i64 (1 + ((k21 : Nat) : Int)), .int .i64 v25, .int .i64 0], .row (.slice (some ⟨g24, 0, none⟩) 5 5) 3 1 5 (flat (ic .i64) [0, 0, 0, 50, 300]), .row (.slice (some ⟨g7, 0, none⟩) 8 8) 3 1 8 (flat (ic .i64) [8, 24, 28, 29, 30, 30, 31, 32]), .blk g2 45 [.int .u32 0, .int .i64 0, .int .i64 0, .int .i64 0, .int .i64 0], .abs cb (fun w => Cod w cb)] ++ oths cb w)) rfl ?_
          refine TL.end_ ?_
          refine TX.held (fun w1 hw => hw.pick [] (by decide) rfl) ?_
          refine TH.done (by kernel_rfl) ?_
          exact TX.joined (⟨(g5, k21, v25), by dsimp only; omega⟩) (⟨rfl, rfl, rfl, trivial⟩) (fun w1 hw => hw.sel (.cons_cons _ (.cons _ (.cons _ (.cons_cons _ (.cons_cons _ (List.Sublist.refl _)))))))
      · refine TL.pnew rfl rfl rfl (exec_alloc (cs := [.int .u32 0, .int .i64 0, .int .i64 0, .int .i64 0, .int .i64 0]) rfl brazv45 rfl) (fun g5 => ?_)
        refine TL.end_ ?_
        refine TX.held (fun w1 hw => hw.pick [] (by decide) rfl) ?_
        refine TH.only' (listed' := #[true, true, true, true, true, true, true, true, true, true, true, false, true, true, false, false, true, false]) 10 rfl (by kernel_rfl) rfl ?_
        refine TL.pcallCod (k := 4) (α := {q9 : Nat // q9 ≤ 65535 ∧ (1 ≤ (4 : Int) → (q9 : Int) < 4)}) (fun q9 => .int .i64 ((q9.1 : Nat) : Int)) (fun q9 => []) rfl rfl rfl rfl rfl Try.func8 branm8 brabd8 rfl (fun w1 hw hC1 => next_cod cb w1 4 hC1) ?_
        rintro ⟨k21, hk211, hk212⟩
        dsimp only [List.cons_append, List.nil_append]
        refine TL.end_ ?_
        refine TX.held (fun w1 hw => hw.pick [] (by decide) rfl) ?_
        refine TH.take (listed' := #[true, true, true, true, true, true, true, true, true, true, true, true, true, true, false, false, true, false]) 11 rfl (by kernel_rfl) (by kernel_rfl) (by kernel_rfl) rfl rfl rfl rfl (gives_bin rfl rfl rfl (fun w => bin_add_ (r := 1 + ((k21 : Nat) : Int)) (by simp only [IntKind.wrap_i64]; omega) w)) (fun w1 hw => hw.pick [] (by decide) rfl) ?_
        refine TH.only' (listed' := #[true, true, true, true, true, true, true, true, true, true, true, true, true, true, true, false, true, false]) 14 rfl (by kernel_rfl) rfl ?_
        refine TL.pcallCod (k := 4) (α := {v : Int // v ∈ ([0, 0, 0, 50, 300] : List Int)}) (fun x => .int .i64 x.1) (fun x => []) rfl rfl rfl rfl rfl Try.func23 branm23 brabd23 rfl (fun w1 hw hC1 => pick_cod cb w1 hC1 g24 5 ([0, 0, 0, 50, 300]) (hw.neq (i := 1) (j := 4) rfl rfl (by decide) g24 rfl <| congrArg some ·.symm) (Pc.lt (hw.at_ (k := 1) rfl) g24 rfl).2 (by show 0 < ([0, 0, 0, 50, 300] : List Int).length; simp) (fun i v hi => flat_row1 hw (q := 1) rfl hi)) ?_
        rintro ⟨v25, hv25⟩
        dsimp only [List.cons_append, List.nil_append]
        refine TL.end_ ?_
        refine TX.held (fun w1 hw => hw.pick [] (by decide) rfl) ?_
        refine TH.take (listed' := #[true, true, true, true, true, true, true, true, true, true, true, true, true, true, true, true, true, false]) 15 rfl (by kernel_rfl) (by kernel_rfl) (by kernel_rfl) rfl rfl rfl rfl (gives_build (v := .agg #[.int .u32 (shlF a n), .int .i64 n, .int .i64 (1 + ((k21 : Nat) : Int)), .int .i64 v25, .int .i64 0]) rfl rfl (fun w => brabld45_98414 _ _ _ _ w)) (fun w1 hw => hw.pick [] (by decide) rfl) ?_
        refine TH.only' (listed' := #[true, true, true, true, true, true, true, true, true, true, true, true, true, true, true, true, true, true]) 17 rfl (by kernel_rfl) rfl ?_
        refine TL.pstore (k := 0) (vs := [.int .u32 (shlF a n), .int .i64 n, .int .i64 (1 + ((k21 : Nat) : Int)), .int .i64 v25, .int .i64 0]) rfl rfl rfl rfl rfl rfl rfl brasz45 braone_u32i64i64i64i64 (by show 5 ≤ 5; decide) (L' := ([.blk g5 45 [.int .u32 (shlF a n), .int .i64 n, .int .i64 (1 + ((k21 : Nat) : Int)), .int .i64 v25, .int .i64 0], .row (.slice (some ⟨g24, 0, none⟩) 5 5) 3 1 5 (flat (ic .i64) [0, 0, 0, 50, 300]), .row (.slice (some ⟨g7, 0, none⟩) 8 8) 3 1 8 (flat (ic .i64) [8, 24, 28, 29, 30, 30, 31, 32]), .blk g2 45 [.int .u32 0, .int .i64 0, .int .i64 0, .int .i64 0, .int .i64 0], .abs cb (fun w => Cod w cb)] ++ oths cb w)) rfl ?_
        refine TL.end_ ?_
        refine TX.held (fun w1 hw => hw.pick [] (by decide) rfl) ?_
        refine TH.done (by kernel_rfl) ?_
        exact TX.joined (⟨(g5, k21, v25), by dsimp only; omega⟩) (⟨rfl, rfl, rfl, trivial⟩) (fun w1 hw => hw.sel (.cons_cons _ (.cons _ (.cons _ (.cons_cons _ (.cons_cons _ (List.Sublist.refl _)))))))
    · refine TL.pnew rfl rfl rfl (exec_alloc (cs := [.int .u32 0, .int .i64 0, .int .i64 0, .int .i64 0, .int .i64 0]) rfl brazv45 rfl) (fun g5 => ?_)
      refine TL.end_ ?_
      refine TX.held (fun w1 hw => hw.pick [] (by decide) rfl) ?_
      refine TH.two' (listed1 := #[true, true, true, true, true, true, true, true, true, true, true, false, true, false, false, false, true, false]) (listed2 := #[true, true, true, true, true, true, true, true, true, true, false, false, true, true, false, false, true, false]) 10 13 rfl rfl (by kernel_rfl) rfl rfl ?_ ?_
      · refine TL.pcallCod (k := 3) (α := {q9 : Nat // q9 ≤ 65535 ∧ (1 ≤ (4 : Int) → (q9 : Int) < 4)}) (fun q9 => .int .i64 ((q9.1 : Nat) : Int)) (fun q9 => []) rfl rfl rfl rfl rfl Try.func8 branm8 brabd8 rfl (fun w1 hw hC1 => next_cod cb w1 4 hC1) ?_
        rintro ⟨k21, hk211, hk212⟩
        dsimp only [List.cons_append, List.nil_append]
        refine TL.end_ ?_
        refine TX.held (fun w1 hw => hw.pick [] (by decide) rfl) ?_
        refine TH.take (listed' := #[true, true, true, true, true, true, true, true, true, true, true, true, true, false, false, false, true, false]) 11 rfl (by kernel_rfl) (by kernel_rfl) (by kernel_rfl) rfl rfl rfl rfl (gives_bin rfl rfl rfl (fun w => bin_add_ (r := 1 + ((k21 : Nat) : Int)) (by simp only [IntKind.wrap_i64]; omega) w)) (fun w1 hw => hw.pick [] (by decide) rfl) ?_
        refine TH.only' (listed' := #[true, true, true, true, true, true, true, true, true, true, true, true, true, true, false, false, true, false]) 13 rfl (by kernel_rfl) rfl ?_
        refine TL.prowS (e := 3) (size := 1) (cs := flat (ic .i64) [0, 0, 0, 50, 300]) rfl rfl rfl rfl rfl (fun w => brabs30_5_22075 _ _ _ _ _ w) (by decide) rfl (fun g24 => ?_)
        refine TL.end_ ?_
        refine TX.held (fun w1 hw => hw.pick [] (by decide) rfl) ?_
        refine TH.only' (listed' := #[true, true, true, true, true, true, true, true, true, true, true, true, true, true, true, false, true, false]) 14 rfl (by kernel_rfl) rfl ?_
        refine TL.pcallCod (k := 4) (α := {v : Int // v ∈ ([0, 0, 0, 50, 300] : List Int)}) (fun x => .int .i64 x.1) (fun x => []) rfl rfl rfl rfl rfl Try.func23 branm23 brabd23 rfl (fun w1 hw hC1 => pick_cod cb w1 hC1 g24 5 ([0, 0, 0, 50, 300]) (hw.neq (i := 0) (j := 4) rfl rfl (by decide) g24 rfl <| congrArg some ·.symm) (Pc.lt (hw.at_ (k := 0) rfl) g24 rfl).2 (by show 0 < ([0, 0, 0, 50, 300] : List Int).length; simp) (fun i v hi => flat_row1 hw (q := 0) rfl hi)) ?_
        rintro ⟨v25, hv25⟩
        dsimp only [List.cons_append, List.nil_append]
        refine TL.end_ ?_
        refine TX.held (fun w1 hw => hw.pick [] (by decide) rfl) ?_
        refine TH.take (listed' := #[true, true, true, true, true, true, true, true, true, true, true, true, true, true, true, true, true, false]) 15 rfl (by kernel_rfl) (by kernel_rfl) (by kernel_rfl) rfl rfl rfl rfl (gives_build (v := .agg #[.int .u32 (shlF a n), .int .i64 n, .int .i64 (1 + ((k21 : Nat) : Int)), .int .i64 v25, .int .i64 0]) rfl rfl (fun w => brabld45_98414 _ _ _ _ w)) (fun w1 hw => hw.pick [] (by decide) rfl) ?_
        refine TH.only' (listed' := #[true, true, true, true, true, true, true, true, true, true, true, true, true, true, true, true, true, true]) 17 rfl (by kernel_rfl) rfl ?_
        refine TL.pstore (k := 1) (vs := [.int .u32 (shlF a n), .int .i64 n, .int .i64 (1 + ((k21 : Nat) : Int)), .int .i64 v25, .int .i64 0]) rfl rfl rfl rfl rfl rfl rfl brasz45 braone_u32i64i64i64i64 (by show 5 ≤ 5; decide) (L' := ([.row (.slice (some ⟨g24, 0, none⟩) 5 5) 3 1 5 (flat (ic .i64) [0, 0, 0, 50, 300]), .blk g5 45 [.int .u32 (shlF a n), .int .i64 n, .int .i64 (1 + ((k21 : Nat) : Int)), .int .i64 v25, .int .i64 0], .row (.slice (some ⟨g7, 0, none⟩) 8 8) 3 1 8 (flat (ic .i64) [8, 24, 28, 29, 30, 30, 31, 32]), .blk g2 45 [.int .u32 0, .int .i64 0, .int .i64 0, .int .i64 0, .int .i64 0], .abs cb (fun w => Cod w cb)] ++ oths cb w)) rfl ?_
        refine TL.end_ ?_
        refine TX.held (fun w1 hw => hw.pick [] (by decide) rfl) ?_
        refine TH.done (by kernel_rfl) ?_
        exact TX.joined (⟨(g5, k21, v25), by dsimp only; omega⟩) (⟨rfl, rfl, rfl, trivial⟩) (fun w1 hw => hw.sel (.cons _ (.cons_cons _ (.cons _ (.cons_cons _ (.cons_cons _ (List.Sublist.refl _)))))))
      · refine TL.prowS (e := 3) (size := 1) (cs := flat (ic .i64) [0, 0, 0, 50, 300]) rfl rfl rfl rfl rfl (fun w => brabs30_5_22075 _ _ _ _ _ w) (by decide) rfl (fun g24 => ?_)
        refine TL.end_ ?_
        refine TX.held (fun w1 hw => hw.pick [] (by decide) rfl) ?_
        refine TH.only' (listed' := #[true, true, true, true, true, true, true, true, true, true, true, false, true, true, false, false, true, false]) 10 rfl (by kernel_rfl) rfl ?_
        refine TL.pcallCod (k := 4) (α := {q9 : Nat // q9 ≤ 65535 ∧ (1 ≤ (4 : Int) → (q9 : Int) < 4)}) (fun q9 => .int .i64 ((q9.1 : Nat) : Int)) (fun q9 => []) rfl rfl rfl rfl rfl Try.func8 branm8 brabd8 rfl (fun w1 hw hC1 => next_cod cb w1 4 hC1) ?_
        rintro ⟨k21, hk211, hk212⟩
        dsimp only [List.cons_append, List.nil_append]
        refine TL.end_ ?_
        refine TX.held (fun w1 hw => hw.pick [] (by decide) rfl) ?_
        refine TH.take (listed' := #[true, true, true, true, true, true, true, true, true, true, true, true, true, true, false, false, true, false]) 11 rfl (by kernel_rfl) (by kernel_rfl) (by kernel_rfl) rfl rfl rfl rfl (gives_bin rfl rfl rfl (fun w => bin_add_ (r := 1 + ((k21 : Nat) : Int)) (by simp only [IntKind.wrap_i64]; omega) w)) (fun w1 hw => hw.pick [] (by decide) rfl) ?_
        refine TH.only' (listed' := #[true, true, true, true, true, true, true, true, true, true, true, true, true, true, true, false, true, false]) 14 rfl (by kernel_rfl) rfl ?_
        refine TL.pcallCod (k := 4) (α := {v : Int // v ∈ ([0, 0, 0, 50, 300] : List Int)}) (fun x => .int .i64 x.1) (fun x => []) rfl rfl rfl rfl rfl Try.func23 branm23 brabd23 rfl (fun w1 hw hC1 => pick_cod cb w1 hC1 g24 5 ([0, 0, 0, 50, 300]) (hw.neq (i := 0) (j := 4) rfl rfl (by decide) g24 rfl <| congrArg some ·.symm) (Pc.lt (hw.at_ (k := 0) rfl) g24 rfl).2 (by show 0 < ([0, 0, 0, 50, 300] : List Int).length; simp) (fun i v hi => flat_row1 hw (q := 0) rfl hi)) ?_
        rintro ⟨v25, hv25⟩
        dsimp only [List.cons_append, List.nil_append]
        refine TL.end_ ?_
        refine TX.held (fun w1 hw => hw.pick [] (by decide) rfl) ?_
        refine TH.take (listed' := #[true, true, true, true, true, true, true, true, true, true, true, true, true, true, true, true, true, false]) 15 rfl (by kernel_rfl) (by kernel_rfl) (by kernel_rfl) rfl rfl rfl rfl (gives_build (v := .agg #[.int .u32 (shlF a n), .int .i64 n, .int .i64 (1 + ((k21 : Nat) : Int)), .int .i64 v25, .int .i64 0]) rfl rfl (fun w => brabld45_98414 _ _ _ _ w)) (fun w1 hw => hw.pick [] (by decide) rfl) ?_
        refine TH.only' (listed' := #[true, true, true, true, true, true, true, true, true, true, true, true, true, true, true, true, true, true]) 17 rfl (by kernel_rfl) rfl ?_
        refine TL.pstore (k := 1) (vs := [.int .u32 (shlF a n), .int .i64 n, .int .i64 (1 + ((k21 : Nat) : Int)), .int .i64 v25, .int .i64 0]) rfl rfl rfl rfl rfl rfl rfl brasz45 braone_u32i64i64i64i64 (by show 5 ≤ 5; decide) (L' := ([.row (.slice (some ⟨g24, 0, none⟩) 5 5) 3 1 5 (flat (ic .i64) [0, 0, 0, 50, 300]), .blk g5 45 [.int .u32 (shlF a n), .int .i64 n, .int .i64 (1 + ((k21 : Nat) : Int)), .int .i64 v25, .int .i64 0], .row (.slice (some ⟨g7, 0, none⟩) 8 8) 3 1 8 (flat (ic .i64) [8, 24, 28, 29, 30, 30, 31, 32]), .blk g2 45 [.int .u32 0, .int .i64 0, .int .i64 0, .int .i64 0, .int .i64 0], .abs cb (fun w => Cod w cb)] ++ oths cb w)) rfl ?_
        refine TL.end_ ?_
        refine TX.held (fun w1 hw => hw.pick [] (by decide) rfl) ?_
        refine TH.done (by kernel_rfl) ?_
        exact TX.joined (⟨(g5, k21, v25), by dsimp only; omega⟩) (⟨rfl, rfl, rfl, trivial⟩) (fun w1 hw => hw.sel (.cons _ (.cons_cons _ (.cons _ (.cons_cons _ (.cons_cons _ (List.Sublist.refl _)))))))
  · rintro ⟨⟨g5, pv, fr⟩, hpv⟩
    dsimp only at hpv ⊢
    refine TC.seq_ ?_
    refine TC.held (ls := #[false, false, false, false, false, false, false, false, false, false, false]) (fun _ => True) (by kernel_rfl) rfl rfl (fun w hw => hw.drawn _) ?_
    refine TH.take (listed' := #[true, false, false, false, false, false, false, false, false, false, false]) 0 rfl (by kernel_rfl) (by kernel_rfl) (by kernel_rfl) rfl rfl rfl rfl (gives_move rfl rfl) (fun _ _ => trivial) ?_
    refine TH.take (listed' := #[true, true, false, false, false, false, false, false, false, false, false]) 1 rfl (by kernel_rfl) (by kernel_rfl) (by kernel_rfl) rfl rfl rfl rfl (gives_field (v := .pointer (some ⟨g5, 3, none⟩)) rfl rfl (fun w => brafld45_2 _ _ w)) (fun _ _ => trivial) ?_
    refine TH.take (listed' := #[true, true, false, false, true, false, false, false, false, false, false]) 4 rfl (by kernel_rfl) (by kernel_rfl) (by kernel_rfl) rfl rfl rfl rfl (gives_move rfl rfl) (fun _ _ => trivial) ?_
    refine TH.two' (listed1 := #[true, true, true, false, true, false, false, false, false, false, false]) (listed2 := #[true, true, false, false, true, true, false, false, false, false, false]) 2 5 rfl rfl (by kernel_rfl) rfl rfl ?_ ?_
    · refine TL.val rfl rfl rfl (pm_load (k := 0) (i := 3) rfl rfl braag3 rfl rfl) ?_
      refine TL.end_ ?_
      refine TX.held (fun _ _ => trivial) ?_
      refine TH.take (listed' := #[true, true, true, true, true, false, false, false, false, false, false]) 3 rfl (by kernel_rfl) (by kernel_rfl) (by kernel_rfl) rfl rfl rfl rfl (gives_bin rfl rfl rfl (fun w => bin_add_ (r := IntKind.i64.wrap (fr + 1)) (rfl) w)) (fun _ _ => trivial) ?_
      refine TH.only' (listed' := #[true, true, true, true, true, true, false, false, false, false, false]) 5 rfl (by kernel_rfl) rfl ?_
      refine TL.pcallCod (k := 2) (α := {q9 : Nat // q9 ≤ 65535 ∧ (1 ≤ (600 : Int) → (q9 : Int) < 600)}) (fun q9 => .int .i64 ((q9.1 : Nat) : Int)) (fun q9 => []) rfl rfl rfl rfl rfl Try.func8 branm8 brabd8 rfl (fun w1 hw hC1 => next_cod cb w1 600 hC1) ?_
      rintro ⟨k32, hk321, hk322⟩
      dsimp only [List.cons_append, List.nil_append]
      refine TL.end_ ?_
      refine TX.held (fun _ _ => trivial) ?_
      refine TH.take (listed' := #[true, true, true, true, true, true, true, false, false, false, false]) 6 rfl (by kernel_rfl) (by kernel_rfl) (by kernel_rfl) rfl rfl rfl rfl (gives_bin rfl rfl rfl (fun w => bin_add_ (r := IntKind.i64.wrap (IntKind.i64.wrap (fr + 1) + ((k32 : Nat) : Int))) (rfl) w)) (fun _ _ => trivial) ?_
      refine TH.only' (listed' := #[true, true, true, true, true, true, true, true, false, false, false]) 7 rfl (by kernel_rfl) rfl ?_
      refine TL.prowS (e := 3) (size := 1) (cs := flat (ic .i64) [1125899906842624, 1125899906842624, 1125899906842624, IntKind.i64.wrap (IntKind.i64.wrap (fr + 1) + ((k32 : Nat) : Int))]) rfl rfl rfl rfl rfl (fun w => brabs30_4_78574 _ _ _ _ w) (by decide) rfl (fun g34 => ?_)
      refine TL.end_ ?_
      refine TX.held (fun _ _ => trivial) ?_
      refine TH.only' (listed' := #[true, true, true, true, true, true, true, true, true, false, false]) 8 rfl (by kernel_rfl) rfl ?_
      refine TL.pcallCod (k := 3) (α := {v : Int // v ∈ ([1125899906842624, 1125899906842624, 1125899906842624, IntKind.i64.wrap (IntKind.i64.wrap (fr + 1) + ((k32 : Nat) : Int))] : List Int)}) (fun x => .int .i64 x.1) (fun x => []) rfl rfl rfl rfl rfl Try.func23 branm23 brabd23 rfl (fun w1 hw hC1 => pick_cod cb w1 hC1 g34 4 ([1125899906842624, 1125899906842624, 1125899906842624, IntKind.i64.wrap (IntKind.i64.wrap (fr + 1) + ((k32 : Nat) : Int))]) (hw.neq (i := 0) (j := 3) rfl rfl (by decide) g34 rfl <| congrArg some ·.symm) (Pc.lt (hw.at_ (k := 0) rfl) g34 rfl).2 (by show 0 < ([1125899906842624, 1125899906842624, 1125899906842624, IntKind.i64.wrap (IntKind.i64.wrap (fr + 1) + ((k32 : Nat) : Int))] : List Int).length; simp) (fun i v hi => flat_row1 hw (q := 0) rfl hi)) ?_
      rintro ⟨to, hto⟩
      dsimp only [List.cons_append, List.nil_append]
      refine TL.end_ ?_
      refine TX.held (fun _ _ => trivial) ?_
      refine TH.take (listed' := #[true, true, true, true, true, true, true, true, true, true, false]) 9 rfl (by kernel_rfl) (by kernel_rfl) (by kernel_rfl) rfl rfl rfl rfl (gives_field (v := .pointer (some ⟨g5, 4, none⟩)) rfl rfl (fun w => brafld45_3 _ _ w)) (fun _ _ => trivial) ?_
      refine TH.only' (listed' := #[true, true, true, true, true, true, true, true, true, true, true]) 10 rfl (by kernel_rfl) rfl ?_
      refine TL.pstore (k := 1) (vs := [.int .i64 to]) rfl rfl rfl rfl rfl rfl rfl brasz3 braone_i64 (by show 5 ≤ 5; decide) (L' := ([.row (.slice (some ⟨g34, 0, none⟩) 4 4) 3 1 4 (flat (ic .i64) [1125899906842624, 1125899906842624, 1125899906842624, IntKind.i64.wrap (IntKind.i64.wrap (fr + 1) + ((k32 : Nat) : Int))]), .blk g5 45 [.int .u32 (shlF a n), .int .i64 n, .int .i64 (1 + ((pv : Nat) : Int)), .int .i64 fr, .int .i64 to], .blk g2 45 [.int .u32 0, .int .i64 0, .int .i64 0, .int .i64 0, .int .i64 0], .abs cb (fun w => Cod w cb)] ++ oths cb w)) rfl ?_
      refine TL.end_ ?_
      refine TX.held (fun _ _ => trivial) ?_
      refine TH.done (by kernel_rfl) ?_
      refine TX.then_ ?_
      refine TC.seq_ ?_
      refine TC.region ?_
      refine TL.val rfl rfl rfl (pm_loadV (k := 1) (i := 0) (n := 5) (v := .agg #[.int .u32 (shlF a n), .int .i64 n, .int .i64 (1 + ((pv : Nat) : Int)), .int .i64 fr, .int .i64 to]) rfl rfl braag45 brasz45 rfl (by show 5 ≤ 5; decide) rfl) ?_
      refine TL.pstore (k := 2) (vs := [.int .u32 (shlF a n), .int .i64 n, .int .i64 (1 + ((pv : Nat) : Int)), .int .i64 fr, .int .i64 to]) rfl rfl rfl rfl rfl rfl rfl brasz45 braone_u32i64i64i64i64 (by show 5 ≤ 5; decide) (L' := ([.row (.slice (some ⟨g34, 0, none⟩) 4 4) 3 1 4 (flat (ic .i64) [1125899906842624, 1125899906842624, 1125899906842624, IntKind.i64.wrap (IntKind.i64.wrap (fr + 1) + ((k32 : Nat) : Int))]), .blk g5 45 [.int .u32 (shlF a n), .int .i64 n, .int .i64 (1 + ((pv : Nat) : Int)), .int .i64 fr, .int .i64 to], .blk g2 45 [.int .u32 (shlF a n), .int .i64 n, .int .i64 (1 + ((pv : Nat) : Int)), .int .i64 fr, .int .i64 to], .abs cb (fun w => Cod w cb)] ++ oths cb w)) rfl ?_
      refine TL.end_ ?_
      refine TX.then_ ?_
      refine TC.ret_ ?_
      exact pm_ret_cell (k := 2) Try.results22 rfl rfl Try.underlying45 rfl rfl (fun w1 hw => ⟨⟨⟨shlF a n, n, 1 + ((pv : Nat) : Int), fr, to⟩, EnG.mk_ (by omega) hn hpv⟩, rfl, Pm.codr [] (hw.sel (.cons _ (.cons _ (.cons _ (.cons_cons _ (List.Sublist.refl _)))))) rfl⟩)
    · refine TL.pcallCod (k := 2) (α := {q9 : Nat // q9 ≤ 65535 ∧ (1 ≤ (600 : Int) → (q9 : Int) < 600)}) (fun q9 => .int .i64 ((q9.1 : Nat) : Int)) (fun q9 => []) rfl rfl rfl rfl rfl Try.func8 branm8 brabd8 rfl (fun w1 hw hC1 => next_cod cb w1 600 hC1) ?_
      rintro ⟨k32, hk321, hk322⟩
      dsimp only [List.cons_append, List.nil_append]
      refine TL.end_ ?_
      refine TX.held (fun _ _ => trivial) ?_
      refine TH.only' (listed' := #[true, true, true, false, true, true, false, false, false, false, false]) 2 rfl (by kernel_rfl) rfl ?_
      refine TL.val rfl rfl rfl (pm_load (k := 0) (i := 3) rfl rfl braag3 rfl rfl) ?_
      refine TL.end_ ?_
      refine TX.held (fun _ _ => trivial) ?_
      refine TH.take (listed' := #[true, true, true, true, true, true, false, false, false, false, false]) 3 rfl (by kernel_rfl) (by kernel_rfl) (by kernel_rfl) rfl rfl rfl rfl (gives_bin rfl rfl rfl (fun w => bin_add_ (r := IntKind.i64.wrap (fr + 1)) (rfl) w)) (fun _ _ => trivial) ?_
      refine TH.take (listed' := #[true, true, true, true, true, true, true, false, false, false, false]) 6 rfl (by kernel_rfl) (by kernel_rfl) (by kernel_rfl) rfl rfl rfl rfl (gives_bin rfl rfl rfl (fun w => bin_add_ (r := IntKind.i64.wrap (IntKind.i64.wrap (fr + 1) + ((k32 : Nat) : Int))) (rfl) w)) (fun _ _ => trivial) ?_
      refine TH.only' (listed' := #[true, true, true, true, true, true, true, true, false, false, false]) 7 rfl (by kernel_rfl) rfl ?_
      refine TL.prowS (e := 3) (size := 1) (cs := flat (ic .i64) [1125899906842624, 1125899906842624, 1125899906842624, IntKind.i64.wrap (IntKind.i64.wrap (fr + 1) + ((k32 : Nat) : Int))]) rfl rfl rfl rfl rfl (fun w => brabs30_4_78574 _ _ _ _ w) (by decide) rfl (fun g34 => ?_)
      refine TL.end_ ?_
      refine TX.held (fun _ _ => trivial) ?_
      refine TH.only' (listed' := #[true, true, true, true, true, true, true, true, true, false, false]) 8 rfl (by kernel_rfl) rfl ?_
      refine TL.pcallCod (k := 3) (α := {v : Int // v ∈ ([1125899906842624, 1125899906842624, 1125899906842624, IntKind.i64.wrap (IntKind.i64.wrap (fr + 1) + ((k32 : Nat) : Int))] : List Int)}) (fun x => .int .i64 x.1) (fun x => []) rfl rfl rfl rfl rfl Try.func23 branm23 brabd23 rfl (fun w1 hw hC1 => pick_cod cb w1 hC1 g34 4 ([1125899906842624, 1125899906842624, 1125899906842624, IntKind.i64.wrap (IntKind.i64.wrap (fr + 1) + ((k32 : Nat) : Int))]) (hw.neq (i := 0) (j := 3) rfl rfl (by decide) g34 rfl <| congrArg some ·.symm) (Pc.lt (hw.at_ (k := 0) rfl) g34 rfl).2 (by show 0 < ([1125899906842624, 1125899906842624, 1125899906842624, IntKind.i64.wrap (IntKind.i64.wrap (fr + 1) + ((k32 : Nat) : Int))] : List Int).length; simp) (fun i v hi => flat_row1 hw (q := 0) rfl hi)) ?_
      rintro ⟨to, hto⟩
      dsimp only [List.cons_append, List.nil_append]
      refine TL.end_ ?_
      refine TX.held (fun _ _ => trivial) ?_
      refine TH.take (listed' := #[true, true, true, true, true, true, true, true, true, true, false]) 9 rfl (by kernel_rfl) (by kernel_rfl) (by kernel_rfl) rfl rfl rfl rfl (gives_field (v := .pointer (some ⟨g5, 4, none⟩)) rfl rfl (fun w => brafld45_3 _ _ w)) (fun _ _ => trivial) ?_
      refine TH.only' (listed' := #[true, true, true, true, true, true, true, true, true, true, true]) 10 rfl (by kernel_rfl) rfl ?_
      refine TL.pstore (k := 1) (vs := [.int .i64 to]) rfl rfl rfl rfl rfl rfl rfl brasz3 braone_i64 (by show 5 ≤ 5; decide) (L' := ([.row (.slice (some ⟨g34, 0, none⟩) 4 4) 3 1 4 (flat (ic .i64) [1125899906842624, 1125899906842624, 1125899906842624, IntKind.i64.wrap (IntKind.i64.wrap (fr + 1) + ((k32 : Nat) : Int))]), .blk g5 45 [.int .u32 (shlF a n), .int .i64 n, .int .i64 (1 + ((pv : Nat) : Int)), .int .i64 fr, .int .i64 to], .blk g2 45 [.int .u32 0, .int .i64 0, .int .i64 0, .int .i64 0, .int .i64 0], .abs cb (fun w => Cod w cb)] ++ oths cb w)) rfl ?_
      refine TL.end_ ?_
      refine TX.held (fun _ _ => trivial) ?_
      refine TH.done (by kernel_rfl) ?_
      refine TX.then_ ?_
      refine TC.seq_ ?_
      refine TC.region ?_
      refine TL.val rfl rfl rfl (pm_loadV (k := 1) (i := 0) (n := 5) (v := .agg #[.int .u32 (shlF a n), .int .i64 n, .int .i64 (1 + ((pv : Nat) : Int)), .int .i64 fr, .int .i64 to]) rfl rfl braag45 brasz45 rfl (by show 5 ≤ 5; decide) rfl) ?_
      refine TL.pstore (k := 2) (vs := [.int .u32 (shlF a n), .int .i64 n, .int .i64 (1 + ((pv : Nat) : Int)), .int .i64 fr, .int .i64 to]) rfl rfl rfl rfl rfl rfl rfl brasz45 braone_u32i64i64i64i64 (by show 5 ≤ 5; decide) (L' := ([.row (.slice (some ⟨g34, 0, none⟩) 4 4) 3 1 4 (flat (ic .i64) [1125899906842624, 1125899906842624, 1125899906842624, IntKind.i64.wrap (IntKind.i64.wrap (fr + 1) + ((k32 : Nat) : Int))]), .blk g5 45 [.int .u32 (shlF a n), .int .i64 n, .int .i64 (1 + ((pv : Nat) : Int)), .int .i64 fr, .int .i64 to], .blk g2 45 [.int .u32 (shlF a n), .int .i64 n, .int .i64 (1 + ((pv : Nat) : Int)), .int .i64 fr, .int .i64 to], .abs cb (fun w => Cod w cb)] ++ oths cb w)) rfl ?_
      refine TL.end_ ?_
      refine TX.then_ ?_
      refine TC.ret_ ?_
      exact pm_ret_cell (k := 2) Try.results22 rfl rfl Try.underlying45 rfl rfl (fun w1 hw => ⟨⟨⟨shlF a n, n, 1 + ((pv : Nat) : Int), fr, to⟩, EnG.mk_ (by omega) hn hpv⟩, rfl, Pm.codr [] (hw.sel (.cons _ (.cons _ (.cons _ (.cons_cons _ (List.Sublist.refl _)))))) rfl⟩)
end Go.Proofs.Ytmbcclgnjobikaa
