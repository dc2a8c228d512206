/-
  Texts of the proof, joined: UnLS, OpenFc.
-/
import Derived.Test.YtleckflmckbheaaPv5
import Derived.Test.YtleckflmckbheaaPv6
import Derived.Test.YtleckflmckbheaaPv7
import Derived.Test.YtleckflmckbheaaPv2
import Derived.Test.YtleckflmckbheaaPv1
import Derived.DataElems
set_option linter.unusedVariables false
set_option linter.unusedSimpArgs false
namespace Go.Proofs.Ytleckflmckbheaa
open Go.RowKit
set_option maxRecDepth 20000
theorem clsV_few {l : List Fc} {ss : List (Sg Int)} (hl : l.length ≤ 100) (hs : ss.map (·.l) = clsV l) : ss.length ≤ 200 ∧ ∀ s ∈ ss, s.l.length ≤ 100000 := by
 by_cases h : validF l
 ·exact clsV_small h hl hs
 ·have e : clsV l = [] := if_neg h
  rw [e] at hs
  have : ss = [] := List.map_eq_nil_iff.1 hs
  subst this
  exact ⟨Nat.zero_le _, fun s hs => absurd hs List.not_mem_nil⟩
theorem forV_le (l : List Fc) : (forV l).length ≤ l.length := by
 unfold forV
 split
 ·exact forest_le l
 ·exact Nat.zero_le _
theorem ExOk.len {l : List Fc} {a b : Int} {p : List Fc} {t : Bool} (h : ExOk l a b (p, t)) : p.length ≤ l.length := by
 cases t with
 | false => have h0 : p = [] := h.2.1 rfl; rw [h0]; exact Nat.zero_le _
 | true =>
  have hs := h.1.1 rfl
  have ht : Trl (forest l) a (-1) p b := h.2.2 rfl
  exact Nat.le_trans (nodup_len ((forest_frs hs.1).nodup _ _ _ _ ht) ht.mem) (forest_le l)
theorem AddOk.len {l : List Fc} {f : Fc} {y : List Fc} {e : Int} (h : AddOk l f (y, e)) : y.length ≤ l.length + 1 := by
 rcases h with ⟨_, e1⟩ | ⟨_, ⟨_, e1⟩ | ⟨_, _, e1⟩ | ⟨_, _, _, i, h5, h6⟩⟩
 ·cases e1; exact Nat.zero_le _
 ·cases e1; exact Nat.zero_le _
 ·cases e1; exact Nat.zero_le _
 ·have h6 : y = l.take i ++ f :: l.drop i := h6
  rw [h6, List.length_append, List.length_cons, List.length_take, List.length_drop]
  omega
theorem remP_len (l : List Fc) (id : Int) : (remP l id).1.length ≤ l.length := by
 unfold remP
 split
 ·split
  ·exact List.length_eraseIdx_le ..
  ·exact Nat.zero_le _
 ·exact Nat.zero_le _
theorem ok_set {l : List Fc} (h : ∀ f ∈ l, f.Ok) {i : Nat} {f : Fc} (hf : f.Ok) : ∀ g ∈ l.set i f, g.Ok := fun g hg => (List.mem_or_eq_of_mem_set hg).elim (h g) (fun e => e ▸ hf)
theorem fcs_seti {m : List Fc} {i : Nat} {x : Fc} (hx : m[i]? = some x) (v : Int) : (fcs m).take (0 + i * 3 + 0) ++ [.int .i64 v] ++ (fcs m).drop (0 + i * 3 + 0 + [Value.int .i64 v].length) = fcs (m.set i ⟨v, x.a, x.b⟩) := by
 obtain ⟨h1, h2⟩ := fcs_pos hx
 rw [h1, fcs_putx _ hx, put_mid h2 (by show 0 + 1 ≤ 3; decide)]
 rfl
theorem row_cells {w0 : Base} {L : List Pc} {w : World} {k g n c off size : Nat} {e : TypeId} {xs cs : List Value} (h : Pm w0 L w) (hk : L[k]? = some (.row (.slice (some ⟨g, 0, none⟩) n c) e size n xs)) (hc : ∀ (u : Nat) (v : Value), cs[u]? = some v → xs[off + u]? = some v) (j : Nat) (u : Value) (hu : cs[j]? = some u) : w.cell? ⟨g, off + j, none⟩ = some u := pm_row h hk (hc j u hu)
theorem two_cells {xs : List Value} {o : Nat} {p q : Int} (h1 : xs[o + 0]? = some (.int .u32 p) := by rfl) (h2 : xs[o + 1]? = some (.int .u32 q) := by rfl) (u : Nat) (v : Value) (hu : ([.int .u32 p, .int .u32 q] : List Value)[u]? = some v) : xs[o + u]? = some v := by
 match u, hu with
 | 0, hu => rw [h1]; exact hu
 | 1, hu => rw [h2]; exact hu
 | k + 2, hu => simp at hu
theorem bin_neqs {P : Program} {t : TypeId} (ht : P.underlying t = some .bool) {x y : Operand} (a : Bool) (w : World) : (do eqGuard .neq t x y (.bool a) (.bool a); binOp .neq t (.bool a) (.bool a) : Sem Value).run P w = .ok (.bool false) w := by
 rw [bin_neqb ht, bne_self_eq_false]
theorem ulsnm8 : (Try.f8.name == "runtime.NumGoroutine") = false := by decide
theorem ulsbd8 : Try.f8.body.isNone = false := rfl
theorem ulsnm9 : (Try.f9.name == "runtime.NumGoroutine") = false := by decide
theorem ulsbd9 : Try.f9.body.isNone = false := rfl
theorem ulsnm10 : (Try.f10.name == "runtime.NumGoroutine") = false := by decide
theorem ulsbd10 : Try.f10.body.isNone = false := rfl
theorem ulsel26 : Elem Try.prog 26 42 3 16 := Elem.mk' Try.underlying26 (z := .agg #[.int .i64 0, .int .u32 0, .int .u32 0]) (by kernel_rfl) rfl (by omega) (by omega)
theorem ulsnm21 : (Try.f21.name == "runtime.NumGoroutine") = false := by decide
theorem ulsbd21 : Try.f21.body.isNone = false := rfl
theorem ulssz42 (w : World) : (sizeOf 42).run Try.prog w = .ok 3 w := rfl
theorem ulsfld42_0 (g o : Nat) (w : World) : (Instr.fieldAt 42 (.pointer (some ⟨g, o, none⟩)) 0).run Try.prog w = .ok (.pointer (some ⟨g, o + 0, none⟩)) w := by kernel_rfl
theorem ulssz3 (w : World) : (sizeOf 3).run Try.prog w = .ok 1 w := rfl
theorem ulsfld42_1 (g o : Nat) (w : World) : (Instr.fieldAt 42 (.pointer (some ⟨g, o, none⟩)) 1).run Try.prog w = .ok (.pointer (some ⟨g, o + 1, none⟩)) w := by kernel_rfl
theorem ulsag35 (w : World) : (isAgg 35).run Try.prog w = .ok false w := rfl
theorem ulsfld42_2 (g o : Nat) (w : World) : (Instr.fieldAt 42 (.pointer (some ⟨g, o, none⟩)) 2).run Try.prog w = .ok (.pointer (some ⟨g, o + 2, none⟩)) w := by kernel_rfl
theorem ulssz35 (w : World) : (sizeOf 35).run Try.prog w = .ok 1 w := rfl
theorem ulsag42 (w : World) : (isAgg 42).run Try.prog w = .ok true w := rfl
theorem ulsbs26_1_44646 (a0_0 : Int) (a0_1 : Int) (a0_2 : Int) (w : World) : (Instr.buildSlice 26 1 #[(0, .agg #[.int .i64 a0_0, .int .u32 a0_1, .int .u32 a0_2])]).run Try.prog w = .ok (.slice (some ⟨w.heap.size, 0, none⟩) 1 1) (w.alloc (.cells [.int .i64 a0_0, .int .u32 a0_1, .int .u32 a0_2].toArray 42)) := by kernel_rfl
theorem ulsbs50_3_22048 (a0_0 : Option Addr) (a0_0n a0_0c : Nat) (a1_0 : Option Addr) (a1_0n a1_0c : Nat) (a2_0 : Option Addr) (a2_0n a2_0c : Nat) (w : World) : (Instr.buildSlice 50 3 #[(0, .slice a0_0 a0_0n a0_0c), (1, .slice a1_0 a1_0n a1_0c), (2, .slice a2_0 a2_0n a2_0c)]).run Try.prog w = .ok (.slice (some ⟨w.heap.size, 0, none⟩) 3 3) (w.alloc (.cells [.slice a0_0 a0_0n a0_0c, .slice a1_0 a1_0n a1_0c, .slice a2_0 a2_0n a2_0c].toArray 26)) := by kernel_rfl
theorem ulssz26 (w : World) : (sizeOf 26).run Try.prog w = .ok 1 w := rfl
theorem ulsag26 (w : World) : (isAgg 26).run Try.prog w = .ok false w := rfl
theorem ulsnm22 : (Try.f22.name == "runtime.NumGoroutine") = false := by decide
theorem ulsbd22 : Try.f22.body.isNone = false := rfl
theorem ulsnm23 : (Try.f23.name == "runtime.NumGoroutine") = false := by decide
theorem ulsbd23 : Try.f23.body.isNone = false := rfl
theorem ulsnm11 : (Try.f11.name == "runtime.NumGoroutine") = false := by decide
theorem ulsbd11 : Try.f11.body.isNone = false := rfl
theorem ulsnm24 : (Try.f24.name == "runtime.NumGoroutine") = false := by decide
theorem ulsbd24 : Try.f24.body.isNone = false := rfl
theorem ulsnm13 : (Try.f13.name == "runtime.NumGoroutine") = false := by decide
theorem ulsbd13 : Try.f13.body.isNone = false := rfl
theorem ulsnm12 : (Try.f12.name == "runtime.NumGoroutine") = false := by decide
theorem ulsbd12 : Try.f12.body.isNone = false := rfl
theorem ulsnm26 : (Try.f26.name == "runtime.NumGoroutine") = false := by decide
theorem ulsbd26 : Try.f26.body.isNone = false := rfl
theorem ulsnm25 : (Try.f25.name == "runtime.NumGoroutine") = false := by decide
theorem ulsbd25 : Try.f25.body.isNone = false := rfl
theorem ulsbld53_27254 (a0_0 : Int) (a1_0 : Int) (w : World) : (Instr.build 53 #[(0, .int .u32 a0_0), (1, .int .u32 a1_0)]).run Try.prog w = .ok (.agg #[.int .u32 a0_0, .int .u32 a1_0]) w := by kernel_rfl
theorem ulsnm15 : (Try.f15.name == "runtime.NumGoroutine") = false := by decide
theorem ulsbd15 : Try.f15.body.isNone = false := rfl
theorem ulsbs54_3_74879 (a0_0 : Int) (a0_1 : Int) (a1_0 : Int) (a1_1 : Int) (a2_0 : Int) (a2_1 : Int) (w : World) : (Instr.buildSlice 54 3 #[(0, .agg #[.int .u32 a0_0, .int .u32 a0_1]), (1, .agg #[.int .u32 a1_0, .int .u32 a1_1]), (2, .agg #[.int .u32 a2_0, .int .u32 a2_1])]).run Try.prog w = .ok (.slice (some ⟨w.heap.size, 0, none⟩) 3 3) (w.alloc (.cells [.int .u32 a0_0, .int .u32 a0_1, .int .u32 a1_0, .int .u32 a1_1, .int .u32 a2_0, .int .u32 a2_1].toArray 53)) := by kernel_rfl
theorem ulssz53 (w : World) : (sizeOf 53).run Try.prog w = .ok 2 w := rfl
theorem ulsag53 (w : World) : (isAgg 53).run Try.prog w = .ok true w := rfl
theorem ulszv53 (w : World) : (zeroValue 53).run Try.prog w = .ok (.agg #[.int .u32 0, .int .u32 0]) w := rfl
theorem ulsone_u32u32 {a0 : Int} {a1 : Int} : ∀ u ∈ [(.int .u32 a0 : Value), .int .u32 a1], u.oneCell' = true := by
 intro u hu
 simp only [List.mem_cons, List.not_mem_nil, or_false] at hu
 rcases hu with rfl | rfl <;> rfl
theorem ulsnm16 : (Try.f16.name == "runtime.NumGoroutine") = false := by decide
theorem ulsbd16 : Try.f16.body.isNone = false := rfl
theorem ulsnm27 : (Try.f27.name == "runtime.NumGoroutine") = false := by decide
theorem ulsbd27 : Try.f27.body.isNone = false := rfl
theorem ulsnm17 : (Try.f17.name == "runtime.NumGoroutine") = false := by decide
theorem ulsbd17 : Try.f17.body.isNone = false := rfl
theorem ulsnm28 : (Try.f28.name == "runtime.NumGoroutine") = false := by decide
theorem ulsbd28 : Try.f28.body.isNone = false := rfl
theorem ulsnm18 : (Try.f18.name == "runtime.NumGoroutine") = false := by decide
theorem ulsbd18 : Try.f18.body.isNone = false := rfl
theorem ulsnm29 : (Try.f29.name == "runtime.NumGoroutine") = false := by decide
theorem ulsbd29 : Try.f29.body.isNone = false := rfl
theorem ulsbld42_57313 (a0_0 : Int) (a1_0 : Int) (a2_0 : Int) (w : World) : (Instr.build 42 #[(0, .int .i64 a0_0), (1, .int .u32 a1_0), (2, .int .u32 a2_0)]).run Try.prog w = .ok (.agg #[.int .i64 a0_0, .int .u32 a1_0, .int .u32 a2_0]) w := by kernel_rfl
theorem ulsbs26_2_74873 (a0_0 : Int) (a0_1 : Int) (a0_2 : Int) (a1_0 : Int) (a1_1 : Int) (a1_2 : Int) (w : World) : (Instr.buildSlice 26 2 #[(0, .agg #[.int .i64 a0_0, .int .u32 a0_1, .int .u32 a0_2]), (1, .agg #[.int .i64 a1_0, .int .u32 a1_1, .int .u32 a1_2])]).run Try.prog w = .ok (.slice (some ⟨w.heap.size, 0, none⟩) 2 2) (w.alloc (.cells [.int .i64 a0_0, .int .u32 a0_1, .int .u32 a0_2, .int .i64 a1_0, .int .u32 a1_1, .int .u32 a1_2].toArray 42)) := by kernel_rfl
theorem ulszv42 (w : World) : (zeroValue 42).run Try.prog w = .ok (.agg #[.int .i64 0, .int .u32 0, .int .u32 0]) w := rfl
theorem ulsnm30 : (Try.f30.name == "runtime.NumGoroutine") = false := by decide
theorem ulsbd30 : Try.f30.body.isNone = false := rfl
theorem ulsnm31 : (Try.f31.name == "runtime.NumGoroutine") = false := by decide
theorem ulsbd31 : Try.f31.body.isNone = false := rfl
theorem ulsbs56_2_20249 (a0_0 : Int) (a1_0 : Int) (w : World) : (Instr.buildSlice 56 2 #[(0, .int .i64 a0_0), (1, .int .i64 a1_0)]).run Try.prog w = .ok (.slice (some ⟨w.heap.size, 0, none⟩) 2 2) (w.alloc (.cells [.int .i64 a0_0, .int .i64 a1_0].toArray 3)) := by kernel_rfl
theorem ulsag3 (w : World) : (isAgg 3).run Try.prog w = .ok false w := rfl
theorem ulsnm20 : (Try.f20.name == "runtime.NumGoroutine") = false := by decide
theorem ulsbd20 : Try.f20.body.isNone = false := rfl
theorem ulsnm32 : (Try.f32.name == "runtime.NumGoroutine") = false := by decide
theorem ulsbd32 : Try.f32.body.isNone = false := rfl
theorem ulsnm19 : (Try.f19.name == "runtime.NumGoroutine") = false := by decide
theorem ulsbd19 : Try.f19.body.isNone = false := rfl
theorem ulsnm33 : (Try.f33.name == "runtime.NumGoroutine") = false := by decide
theorem ulsbd33 : Try.f33.body.isNone = false := rfl
set_option maxHeartbeats 1000000 in
theorem unionSteps_walk (A0 : Option Addr) (n0 c0 : Nat) (l0 : List Int) (A1 : Option Addr) (c1 : Nat) (l1 : List Fc) (xa xb : Int) (xf : Fc) (xi : Int) (w : World) (hb0 : Byt w w.heap.size A0 n0 l0) (hc0 : n0 ≤ c0) (hm0 : c0 ≤ maxLen) (hc1 : l1.length ≤ c1) (hm1 : c1 ≤ maxLen) (hr1 : Reads w w.heap.size 3 A1 l1.length (fcs l1)) (ho1 : ∀ r ∈ l1, r.Ok) (wa : (Lit.int .u32 xa).wf = true) (wb : (Lit.int .u32 xb).wf = true) (hxf : xf.Ok) (wi : (Lit.int .i64 xi).wf = true) :
  Calls Try.prog 6 #[.slice A0 n0 c0, .slice A1 l1.length c1, .int .u32 xa, .int .u32 xb, .agg xf.cells.toArray, .int .i64 xi] w fun e w' => e = .returned (.bool true) ∧ Below w.heap.size w w' := by
 have hxa := wf_r32 wa
 have hxb := wf_r32 wb
 have hn0 : (n0 : Int) ≤ 9223372036854775807 := by unfold maxLen at hm0; omega
 refine begin_ (vs := [.slice A0 n0 c0, .slice A1 l1.length c1, .int .u32 xa, .int .u32 xb, .agg xf.cells.toArray, .int .i64 xi]) Try.func6 rfl rfl rfl ?_ (Pm.start w)
 refine TC.seq_ (TC.region ?_)
 refine TL.pnew rfl rfl rfl (exec_box (cs := xf.cells) rfl rfl rfl) (fun g10 => ?_)
 refine TL.as_ ?_
 refine TL.end_ (TX.then_ (TC.seq_ (TC.seq_ (TC.region ?_))))
 refine TL.pcall1 (r := .bool true) rfl rfl rfl rfl rfl Try.func8 ulsnm8 ulsbd8 (fun w1 hw => awake_true w1) ?_
 iterate 5 (first | refine TL.gu ?_ | refine TL.mv ?_ | refine TL.val rfl rfl rfl (gives_boolnot rfl rfl) ?_)
 refine TL.val rfl rfl rfl (gives_len rfl Try.underlying26 rfl) ?_
 refine TL.gu ?_
 refine TL.vsplit rfl rfl rfl (gives_bin rfl rfl rfl (fun w => bin_gtr w)) (fun h46 => ?_) (fun h46 => ?_)
 ·have q46 := of_decide_eq_true h46
  refine TL.pk ?_
  refine TL.end_ (TX.then_ (TC.condT rfl (TC.seq_ (TC.region ?_))))
  refine TL.pcall1 (r := .bool true) rfl rfl rfl rfl rfl Try.func8 ulsnm8 ulsbd8 (fun w1 hw => awake_true w1) ?_
  refine TL.as_ ?_
  refine TL.end_ (TX.then_ (TC.ret_ (TX.then_ret ?_)))
  exact ret_tmp Try.results6 rfl (fun w1 hw => ⟨rfl, hw.bel⟩)
 ·have q46 := of_decide_eq_false h46
  have hl12 : l1.length ≤ 12 := by omega
  refine TL.pk ?_
  refine TL.end_ (TX.then_ (TC.condF rfl (TC.skip_ (TX.then_ (TC.seq_ (TC.region ?_))))))
  refine TL.mv ?_
  refine TL.callNew (I := Pm w [.blk g10 42 xf.cells]) (p := fun cb w => Cod w cb) rfl rfl rfl rfl rfl Try.func9 ulsnm9 ulsbd9 (fun w1 hw => (roll_any A0 n0 c0 l0 w1 ((hb0.below hw.bel).more hw.bel.size) hc0 hn0).mono fun e w2 ⟨h1, h2, h3⟩ => ⟨h1, h2, cod_cells h2, h3⟩) cod_stab (fun wn hwn => ?_)
  have hwb := hwn.bel
  refine TL.as_ ?_
  refine TL.end_ (TX.then_ (TC.seq_ (TC.region ?_)))
  refine TL.mv ?_
  refine TL.pcallCod (k := 0) (α := {y : (Option Addr × Nat) × List Fc // validF y.2 ∧ (∀ f ∈ y.2, f.Ok) ∧ y.2.length ≤ 14 ∧ y.2.length ≤ y.1.2 ∧ y.1.2 ≤ maxLen}) (fun y => .slice y.1.1.1 y.1.2.length y.1.1.2) (fun y => [.row (.slice y.1.1.1 y.1.2.length y.1.1.2) 42 3 y.1.2.length (fcs y.1.2)]) rfl rfl rfl rfl rfl Try.func10 ulsnm10 ulsbd10 rfl (fun w1 hw hC1 => facts_cod wn.heap.size w1 hC1 14 (by decide)) ?_
  rintro ⟨⟨⟨Ax, cx⟩, x⟩, hV, hok, hxm, hxc, hxd⟩
  dsimp only [List.cons_append, List.nil_append]
  dsimp only at hV hok hxm hxc hxd ⊢
  refine TL.as_ ?_
  refine TL.end_ (TX.then_ (TC.seq_ (TC.region ?_)))
  refine TL.mv ?_
  refine TL.nilrow 42 3 ?_
  refine TL.appendT (k := 0) rfl rfl rfl rfl Try.underlying26 ulsel26 rfl rfl rfl (fun w1 hw => pm_reads hw (k := 1) rfl) (fcs_one _) (by show _ * 16 ≤ _; omega) (x.length) ((Nat.zero_add _).symm) (fcs x) (rfl) (fun A54 c54 hA541 hA542 => ?_)
  refine TL.as_ ?_
  refine TL.end_ (TX.then_ ?_)
  refine TC.join (α := {y : (Option Addr × Nat × Nat) × List Fc // y.2.length = y.1.2.1 ∧ (∀ f ∈ y.2, f.Ok) ∧ y.1.2.1 ≤ 15 ∧ y.1.2.1 ≤ y.1.2.2 ∧ y.1.2.2 ≤ maxLen}) (fun y => [(1, .slice A1 l1.length c1), (2, .int .u32 xa), (3, .int .u32 xb), (5, .int .i64 xi), (10, .pointer (some ⟨g10, 0, none⟩)), (13, .pointer (some ⟨wn.heap.size, 0, none⟩)), (14, .slice Ax x.length cx), (15, .slice y.1.1.1 y.1.1.2.1 y.1.1.2.2)]) (fun y => Pm wn [.row (.slice y.1.1.1 y.1.1.2.1 y.1.1.2.2) 42 3 y.1.1.2.1 (fcs y.1.2), .row (.slice Ax x.length cx) 42 3 x.length (fcs x), .abs wn.heap.size (fun w => Cod w wn.heap.size)]) ?_ ?_
  ·refine TC.seq_ (TC.region ?_)
   refine TL.mv ?_
   refine TL.val rfl rfl rfl (gives_len rfl Try.underlying26 rfl) ?_
   refine TL.vsplit rfl rfl rfl (gives_bin rfl rfl rfl (fun w => bin_gtr w)) (fun h57 => ?_) (fun h57 => ?_)
   ·have q57 := of_decide_eq_true h57
    refine TL.fact (p := ∃ g, A54 = some ⟨g, 0, none⟩) (fun w1 hw => rowA hw (k := 0) rfl (by omega)) ?_
    rintro ⟨go, rfl⟩
    have hxpos : 0 < x.length := by omega
    refine TL.end_ (TX.then_ (TC.condT rfl (TC.seq_ (TC.region ?_))))
    refine TL.mv ?_
    refine TL.mv ?_
    refine TL.val rfl rfl rfl (gives_len rfl Try.underlying26 rfl) ?_
    refine TL.pcallCod (k := 2) (α := {q9 : Nat // q9 ≤ 65535 ∧ (1 ≤ ((x.length : Nat) : Int) → (q9 : Int) < (x.length : Nat))}) (fun q9 => .int .i64 ((q9.1 : Nat) : Int)) (fun q9 => []) rfl rfl rfl rfl rfl Try.func21 ulsnm21 ulsbd21 rfl (fun w1 hw hC1 => next_cod wn.heap.size w1 (x.length : Nat) hC1) ?_
    rintro ⟨i9, hi91, hi92⟩
    dsimp only [List.cons_append, List.nil_append]
    refine TL.as_ ?_
    refine TL.end_ (TX.then_ (TC.seq_ (TC.region ?_)))
    refine TL.mv ?_
    refine TL.pcallCod (k := 2) (α := {q9 : Nat // q9 ≤ 65535 ∧ (1 ≤ (3 : Int) → (q9 : Int) < 3)}) (fun q9 => .int .i64 ((q9.1 : Nat) : Int)) (fun q9 => []) rfl rfl rfl rfl rfl Try.func21 ulsnm21 ulsbd21 rfl (fun w1 hw hC1 => next_cod wn.heap.size w1 3 hC1) ?_
    rintro ⟨m9, hm91, hm92⟩
    dsimp only [List.cons_append, List.nil_append]
    refine TL.end_ (TX.then_ (TC.block (TC.seq_ ?_)))
    have hi3 : i9 < x.length := by omega
    obtain ⟨f9, hf9⟩ : ∃ f9, x[i9]? = some f9 := ⟨_, List.getElem?_eq_getElem hi3⟩
    refine TC.region ?_
    refine TL.vsplit rfl rfl rfl (gives_bin rfl rfl rfl (fun w => bin_eql w)) (fun h65 => ?_) (fun h65 => ?_)
    ·have q65 := of_decide_eq_true h65
     refine TL.as_ ?_
     refine TL.end_ (TX.then_ (TC.condT rfl (TC.region ?_)))
     refine TL.mv ?_
     refine TL.mv ?_
     refine TL.mv ?_
     refine TL.pcallCod (k := 2) (α := {q9 : Nat // q9 ≤ 65535 ∧ (1 ≤ (4 : Int) → (q9 : Int) < 4)}) (fun q9 => .int .i64 ((q9.1 : Nat) : Int)) (fun q9 => []) rfl rfl rfl rfl rfl Try.func21 ulsnm21 ulsbd21 rfl (fun w1 hw hC1 => next_cod wn.heap.size w1 4 hC1) ?_
     rintro ⟨q4, hq41, hq42⟩
     dsimp only [List.cons_append, List.nil_append]
     refine TL.val rfl rfl rfl (gives_bin rfl rfl rfl (fun w => bin_sub_ (r := ((q4 : Nat) : Int) - 1) (by simp only [IntKind.wrap_i64]; omega) w)) ?_
     refine TL.val rfl rfl rfl (gives_at (v := .pointer (some ⟨go, 0 + i9 * 3, none⟩)) rfl rfl rfl (fun w => at_el Try.underlying26 ulssz42 rfl _ _ i9 (by omega) rfl w)) ?_
     refine TL.val rfl rfl rfl (gives_field (v := .pointer (some ⟨go, 0 + i9 * 3 + 0, none⟩)) rfl rfl (fun w => ulsfld42_0 _ _ w)) ?_
     refine TL.rowset (k := 0) (vs := [.int .i64 (((q4 : Nat) : Int) - 1)]) (xs' := fcs (x.set i9 ⟨((q4 : Nat) : Int) - 1, f9.a, f9.b⟩)) rfl rfl rfl rfl rfl rfl rfl ulssz3 (fun u hu => by cases List.mem_singleton.1 hu; rfl) (by rw [fcs_len]; show 0 + i9 * 3 + 0 + 1 ≤ _; omega) (fcs_seti hf9 _) ?_
     try dsimp only [List.set_cons_zero, List.set_cons_succ]
     refine TL.end_ (TX.in_normal ?_)
     exact TX.joined (⟨(((some ⟨go, 0, none⟩), x.length, c54), x.set i9 ⟨((q4 : Nat) : Int) - 1, f9.a, f9.b⟩), (List.length_set ..), (ok_set hok (i := i9) (f := ⟨((q4 : Nat) : Int) - 1, f9.a, f9.b⟩) ⟨(hok f9 (List.mem_of_getElem? hf9)).1, (hok f9 (List.mem_of_getElem? hf9)).2.1, (hok f9 (List.mem_of_getElem? hf9)).2.2.1, (hok f9 (List.mem_of_getElem? hf9)).2.2.2⟩), by dsimp only; omega, by dsimp only; omega, hA542⟩) (⟨rfl, rfl, rfl, rfl, rfl, rfl, rfl, rfl, trivial⟩) (fun w1 hw => hw)
    ·have q65 := of_decide_eq_false h65
     refine TL.as_ ?_
     refine TL.end_ (TX.then_ (TC.condF rfl (TC.seq_ (TC.region ?_))))
     refine TL.vsplit rfl rfl rfl (gives_bin rfl rfl rfl (fun w => bin_eql w)) (fun h74 => ?_) (fun h74 => ?_)
     ·have q74 := of_decide_eq_true h74
      refine TL.as_ ?_
      refine TL.end_ (TX.then_ (TC.condT rfl (TC.region ?_)))
      iterate 4 (first | refine TL.mv ?_)
      refine TL.val rfl rfl rfl (gives_at (v := .pointer (some ⟨go, 0 + i9 * 3, none⟩)) rfl rfl rfl (fun w => at_el Try.underlying26 ulssz42 rfl _ _ i9 (by omega) rfl w)) ?_
      refine TL.val rfl rfl rfl (gives_field (v := .pointer (some ⟨go, 0 + i9 * 3 + 1, none⟩)) rfl rfl (fun w => ulsfld42_1 _ _ w)) ?_
      refine TL.val rfl rfl rfl (gives_load (v := .int .u32 f9.a) rfl rfl ulsag35 (fun w1 hw => fc_row hw (k := 0) (i := i9) rfl hf9 1 _ rfl)) ?_
      refine TL.val rfl rfl rfl (gives_at (v := .pointer (some ⟨go, 0 + i9 * 3, none⟩)) rfl rfl rfl (fun w => at_el Try.underlying26 ulssz42 rfl _ _ i9 (by omega) rfl w)) ?_
      refine TL.val rfl rfl rfl (gives_field (v := .pointer (some ⟨go, 0 + i9 * 3 + 2, none⟩)) rfl rfl (fun w => ulsfld42_2 _ _ w)) ?_
      refine TL.rowset (k := 0) (vs := [.int .u32 f9.a]) (xs' := fcs (x.set i9 ⟨f9.id, f9.a, f9.a⟩)) rfl rfl rfl rfl rfl rfl rfl ulssz35 (fun u hu => by cases List.mem_singleton.1 hu; rfl) (by rw [fcs_len]; show 0 + i9 * 3 + 2 + 1 ≤ _; omega) (fcs_setb hf9 _) ?_
      try dsimp only [List.set_cons_zero, List.set_cons_succ]
      refine TL.end_ (TX.in_normal ?_)
      exact TX.joined (⟨(((some ⟨go, 0, none⟩), x.length, c54), x.set i9 ⟨f9.id, f9.a, f9.a⟩), (List.length_set ..), (ok_set hok (i := i9) (f := ⟨f9.id, f9.a, f9.a⟩) ⟨(hok f9 (List.mem_of_getElem? hf9)).1, (hok f9 (List.mem_of_getElem? hf9)).2.1, (hok f9 (List.mem_of_getElem? hf9)).1, (hok f9 (List.mem_of_getElem? hf9)).2.1⟩), by dsimp only; omega, by dsimp only; omega, hA542⟩) (⟨rfl, rfl, rfl, rfl, rfl, rfl, rfl, rfl, trivial⟩) (fun w1 hw => hw)
     ·have q74 := of_decide_eq_false h74
      refine TL.as_ ?_
      refine TL.end_ (TX.then_ (TC.condF rfl (TC.seq_ (TC.region ?_))))
      refine TL.vsplit rfl rfl rfl (gives_bin rfl rfl rfl (fun w => bin_eql w)) (fun h85 => ?_) (fun h85 => ?_)
      ·have q85 := of_decide_eq_true h85
       refine TL.as_ ?_
       refine TL.end_ (TX.then_ (TC.condT rfl (TC.region ?_)))
       refine TL.mv ?_
       refine TL.mv ?_
       refine TL.mv ?_
       refine TL.val rfl rfl rfl (gives_at (v := .pointer (some ⟨go, 0 + i9 * 3, none⟩)) rfl rfl rfl (fun w => at_el Try.underlying26 ulssz42 rfl _ _ i9 (by omega) rfl w)) ?_
       refine TL.val rfl rfl rfl (gives_loadR (off := 0 + i9 * 3) rfl rfl ulsag42 ulssz42 (fc_cells_len f9) (fun w1 hw q u hu => fc_row hw (k := 0) (i := i9) rfl hf9 q u hu)) ?_
       refine TL.prowS (e := 42) (size := 3) (cs := f9.cells) rfl rfl rfl rfl rfl (fun w => ulsbs26_1_44646 _ _ _ w) (by decide) rfl (fun g91 => ?_)
       refine TL.appendT (k := 1) rfl rfl rfl rfl Try.underlying26 ulsel26 rfl rfl rfl (fun w1 hw => pm_reads hw (k := 0) rfl) (fc_one f9) (by show _ * 16 ≤ _; omega) (x.length + 1) (rfl) (fcs (x ++ [f9])) (by rw [fcs_app]; rfl) (fun A92 c92 hA921 hA922 => ?_)
       refine TL.as_ ?_
       refine TL.end_ (TX.in_normal ?_)
       exact TX.joined (⟨((A92, x.length + 1, c92), x ++ [f9]), (by rw [List.length_append]; rfl), (fun f hf => (List.mem_append.1 hf).elim (hok f) (fun h => by rw [List.mem_singleton.1 h]; exact hok f9 (List.mem_of_getElem? hf9))), by dsimp only; omega, by dsimp only; omega, hA922⟩) (⟨rfl, rfl, rfl, rfl, rfl, rfl, rfl, rfl, trivial⟩) (fun w1 hw => hw.pick [1, 2, 3] (by decide) rfl)
      ·have q85 := of_decide_eq_false h85
       refine TL.as_ ?_
       refine TL.end_ (TX.then_ (TC.condF rfl (TC.skip_ (TX.in_normal ?_))))
       exact TX.joined (⟨(((some ⟨go, 0, none⟩), x.length, c54), x), rfl, hok, by dsimp only; omega, by dsimp only; omega, hA542⟩) (⟨rfl, rfl, rfl, rfl, rfl, rfl, rfl, rfl, trivial⟩) (fun w1 hw => hw)
   ·have q57 := of_decide_eq_false h57
    refine TL.end_ (TX.then_ (TC.condF rfl (TC.skip_ ?_)))
    exact TX.joined (⟨((A54, x.length, c54), x), rfl, hok, by dsimp only; omega, by dsimp only; omega, hA542⟩) (⟨rfl, rfl, rfl, rfl, rfl, rfl, rfl, rfl, trivial⟩) (fun w1 hw => hw)
  ·rintro ⟨⟨⟨Ao, no, co⟩, od⟩, hol, hook, ho15, hoc, hom⟩
   dsimp only at hol hook ho15 hoc hom ⊢
   subst hol
   refine TC.seq_ (TC.seq_ (TC.region ?_))
   refine TL.mv ?_
   refine TL.mv ?_
   refine TL.mv ?_
   refine TL.prowS (e := 26) (size := 1) (cs := [.slice Ax x.length cx, .slice A1 l1.length c1, .slice Ao od.length co]) rfl rfl rfl rfl rfl (fun w => ulsbs50_3_22048 _ _ _ _ _ _ _ _ _ w) (by decide) rfl (fun g96 => ?_)
   refine TL.val rfl rfl rfl (gives_len rfl Try.underlying50 rfl) ?_
   refine TL.mv ?_
   refine TL.end_ (TX.then_ (TC.block ?_))
   refine TC.loop_ (α := {i : Nat // i ≤ 3}) (fun z => [(2, .int .u32 xa), (3, .int .u32 xb), (5, .int .i64 xi), (10, .pointer (some ⟨g10, 0, none⟩)), (13, .pointer (some ⟨wn.heap.size, 0, none⟩)), (96, .slice (some ⟨g96, 0, none⟩) 3 3), (97, .int .i64 3), (98, .int .i64 ((z.1 : Nat) : Int))]) (fun z => Pm wn [.row (.slice (some ⟨g96, 0, none⟩) 3 3) 26 1 3 ([.slice Ax x.length cx, .slice A1 l1.length c1, .slice Ao od.length co]), .row (.slice Ao od.length co) 42 3 od.length (fcs od), .row (.slice Ax x.length cx) 42 3 x.length (fcs x), .abs wn.heap.size (fun w => Cod w wn.heap.size)]) (fun z => 3 - z.1) (⟨0, Nat.zero_le _⟩) ⟨rfl, rfl, rfl, rfl, rfl, rfl, rfl, rfl, trivial⟩ (fun w1 hw => hw) ?_
   rintro ⟨i, hi⟩
   try dsimp only
   refine TC.seq_ (TC.region ?_)
   refine TL.vsplit rfl rfl rfl (gives_bin rfl rfl rfl (fun w => bin_lss w)) (fun h99 => ?_) (fun h99 => ?_)
   ·have q99 := of_decide_eq_true h99
    have hi2 : i < 3 := by omega
    obtain ⟨Ay, cy, y, hyv, hyR, hyok, hyl, hyc⟩ : ∃ (Ay : Option Addr) (cy : Nat) (y : List Fc), ([.slice Ax x.length cx, .slice A1 l1.length c1, .slice Ao od.length co] : List Value)[0 + i * 1]? = some (.slice Ay y.length cy) ∧ (∀ w1, Pm wn [.row (.slice (some ⟨g96, 0, none⟩) 3 3) 26 1 3 ([.slice Ax x.length cx, .slice A1 l1.length c1, .slice Ao od.length co]), .row (.slice Ao od.length co) 42 3 od.length (fcs od), .row (.slice Ax x.length cx) 42 3 x.length (fcs x), .abs wn.heap.size (fun w => Cod w wn.heap.size)] w1 → Reads w1 w1.heap.size 3 Ay y.length (fcs y)) ∧ (∀ f ∈ y, f.Ok) ∧ y.length ≤ 15 ∧ y.length ≤ cy := by
     have h3 : i = 0 ∨ i = 1 ∨ i = 2 := by omega
     rcases h3 with rfl | rfl | rfl
     ·exact ⟨Ax, cx, x, rfl, fun w1 hw => (by obtain ⟨B9, h8⟩ := pm_reads hw (k := 2) rfl; exact reads_up h8 (pm_row_lt hw (k := 2) rfl)), hok, by omega, hxc⟩
     ·exact ⟨A1, c1, l1, rfl, fun w1 hw => ((hr1.below (hwb.trans (hw.bel.mono hwb.size))).more (hwb.trans (hw.bel.mono hwb.size)).size), ho1, by omega, hc1⟩
     ·exact ⟨Ao, co, od, rfl, fun w1 hw => (by obtain ⟨B9, h8⟩ := pm_reads hw (k := 1) rfl; exact reads_up h8 (pm_row_lt hw (k := 1) rfl)), hook, ho15, hoc⟩
    have hyl2 : y.length ≤ 100 := by omega
    have hfl9 : (forV y).length ≤ 100 := by have := forV_le y; omega
    refine TL.end_ (TX.then_ (TC.seq_ (TC.condT rfl (TC.skip_ (TX.then_ (TC.seq_ (TC.block (TC.seq_ (TC.region ?_)))))))))
    refine TL.val rfl rfl rfl (gives_at (v := .pointer (some ⟨g96, 0 + i * 1, none⟩)) rfl rfl rfl (fun w => at_el Try.underlying50 ulssz26 rfl _ _ i (by omega) rfl w)) ?_
    refine TL.val rfl rfl rfl (gives_load (v := .slice Ay y.length cy) rfl rfl ulsag26 (fun w1 hw => pm_row hw (k := 0) rfl (hyv))) ?_
    refine TL.as_ ?_
    refine TL.end_ (TX.then_ (TC.seq_ (TC.seq_ (TC.region ?_))))
    refine TL.mv ?_
    refine TL.pcall1 (r := .bool (decide (validF y))) rfl rfl rfl rfl rfl Try.func22 ulsnm22 ulsbd22 (fun w1 hw => valid_any Ay y.length cy y w1 (hyR w1 (hw)) rfl) ?_
    refine TL.mv ?_
    refine TL.pcall1 (r := .bool (decide (validF y))) rfl rfl rfl rfl rfl Try.func23 ulsnm23 ulsbd23 (fun w1 hw => rvalid_any Ay y.length cy y w1 (hyR w1 (hw)) rfl) ?_
    refine TL.val rfl rfl rfl (gives_bin2 (v := .bool false) rfl rfl rfl (fun w => bin_neqs Try.underlying4 _ w)) ?_
    iterate 4 (first | refine TL.gu ?_ | refine TL.mv ?_)
    refine TL.pcallPm (α := {u : (Option Addr × Nat) × List (Sg Int) // u.2.map (·.l) = clsV y ∧ u.2.length ≤ u.1.2 ∧ u.1.2 ≤ maxLen}) (fun y => .slice y.1.1.1 y.1.2.length y.1.1.2) (fun y => [.row (.slice y.1.1.1 y.1.2.length y.1.1.2) 31 1 y.1.2.length (y.1.2.map Sg.val)] ++ segG 35 1 uv y.1.2) rfl rfl rfl rfl rfl Try.func11 ulsnm11 ulsbd11 (fun w1 hw => clss_any Ay y.length cy y w1 (hyR w1 (hw)) rfl hyok) ?_ (fun y => segG_noAbs (e := 35) (size := 1) (enc := uv) y.1.2)
    rintro ⟨⟨⟨AC1, cC1⟩, ss1⟩, hcs1, hcc1, hcd1⟩
    dsimp only at hcs1 hcc1 hcd1 ⊢
    refine TL.mem (I' := Pm wn ([.row (.slice AC1 ss1.length cC1) 31 1 ss1.length (ss1.map Sg.val), .row (.slice (some ⟨g96, 0, none⟩) 3 3) 26 1 3 ([.slice Ax x.length cx, .slice A1 l1.length c1, .slice Ao od.length co]), .row (.slice Ao od.length co) 42 3 od.length (fcs od), .row (.slice Ax x.length cx) 42 3 x.length (fcs x), .abs wn.heap.size (fun w => Cod w wn.heap.size)] ++ segG 35 1 uv ss1)) (fun w1 hw => hw.permute (segperm0 _ _ _)) ?_
    obtain ⟨hl1, hmss1⟩ := clsV_few hyl2 hcs1
    refine TL.gu ?_
    refine TL.mv ?_
    refine TL.gu ?_
    refine TL.pcallPm (α := {u : (Option Addr × Nat) × List (Sg Int) // u.2.map (·.l) = clsV y ∧ u.2.length ≤ u.1.2 ∧ u.1.2 ≤ maxLen}) (fun y => .slice y.1.1.1 y.1.2.length y.1.1.2) (fun y => [.row (.slice y.1.1.1 y.1.2.length y.1.1.2) 31 1 y.1.2.length (y.1.2.map Sg.val)] ++ segG 35 1 uv y.1.2) rfl rfl rfl rfl rfl Try.func24 ulsnm24 ulsbd24 (fun w1 hw => rclss_any Ay y.length cy y w1 (hyR w1 (hw.pick [1, 2, 3, 4] (by decide) rfl)) rfl hyok) ?_ (fun y => segG_noAbs (e := 35) (size := 1) (enc := uv) y.1.2)
    rintro ⟨⟨⟨AC2, cC2⟩, ss2⟩, hcs2, hcc2, hcd2⟩
    dsimp only at hcs2 hcc2 hcd2 ⊢
    refine TL.mem (I' := Pm wn ([.row (.slice AC2 ss2.length cC2) 31 1 ss2.length (ss2.map Sg.val), .row (.slice AC1 ss1.length cC1) 31 1 ss1.length (ss1.map Sg.val), .row (.slice (some ⟨g96, 0, none⟩) 3 3) 26 1 3 ([.slice Ax x.length cx, .slice A1 l1.length c1, .slice Ao od.length co]), .row (.slice Ao od.length co) 42 3 od.length (fcs od), .row (.slice Ax x.length cx) 42 3 x.length (fcs x), .abs wn.heap.size (fun w => Cod w wn.heap.size)] ++ (segG 35 1 uv ss2 ++ segG 35 1 uv ss1))) (fun w1 hw => hw.permute (segperm _ _ _ _)) ?_
    obtain ⟨hl2, hmss2⟩ := clsV_few hyl2 hcs2
    have hE : ss1.map (·.l) = ss2.map (·.l) := by rw [hcs1, hcs2]
    refine TL.gu ?_
    refine TL.pcall1 (r := .bool true) rfl rfl rfl rfl rfl Try.func13 ulsnm13 ulsbd13 (fun w1 hw => sc_is AC1 AC2 ss1.length ss2.length cC1 cC2 ss1 ss2 w1 (Rd2.of (e2 := 35) hw (k := 1) rfl (fun s hs => List.mem_append_right _ (List.mem_append_right _ (List.mem_map.2 ⟨s, hs, rfl⟩))) hmss1) (Rd2.of (e2 := 35) hw (k := 0) rfl (fun s hs => List.mem_append_right _ (List.mem_append_left _ (List.mem_map.2 ⟨s, hs, rfl⟩))) hmss2) rfl rfl (by omega) (by omega) (decide_eq_true hE)) ?_
    iterate 7 (first | refine TL.gu ?_ | refine TL.mv ?_ | refine TL.pk ?_ | refine TL.val rfl rfl rfl (gives_boolnot rfl rfl) ?_)
    refine TL.pcallRow (n := (forV y).length) (ys := fcs (forV y)) rfl rfl rfl rfl rfl Try.func12 ulsnm12 ulsbd12 (fun w1 hw => forest_any Ay y.length cy y w1 (hyR w1 (hw.pick [2, 3, 4, 5] (by decide) rfl)) rfl hyok) (fun AF117 cF117 hF1171 hF1172 => ?_)
    refine TL.gu ?_
    refine TL.mv ?_
    refine TL.gu ?_
    refine TL.pcallRow (n := (forV y).length) (ys := fcs (forV y)) rfl rfl rfl rfl rfl Try.func26 ulsnm26 ulsbd26 (fun w1 hw => rforest_any Ay y.length cy y w1 (hyR w1 (hw.pick [3, 4, 5, 6] (by decide) rfl)) rfl hyok) (fun AF119 cF119 hF1191 hF1192 => ?_)
    refine TL.gu ?_
    refine TL.pcall1 (r := .bool true) rfl rfl rfl rfl rfl Try.func25 ulsnm25 ulsbd25 (fun w1 hw => sf_is AF117 ((forV y).length) cF117 (forV y) w1 (by obtain ⟨B9, h8⟩ := pm_reads hw (k := 1) rfl; exact reads_up h8 (pm_row_lt hw (k := 1) rfl)) rfl AF119 ((forV y).length) cF119 (forV y) (by obtain ⟨B9, h8⟩ := pm_reads hw (k := 0) rfl; exact reads_up h8 (pm_row_lt hw (k := 0) rfl)) rfl (by omega) (by omega) (decide_eq_true rfl)) ?_
    refine TL.gu ?_
    refine TL.val rfl rfl rfl (gives_boolnot rfl rfl) ?_
    refine TL.pk ?_
    refine TL.end_ (TX.then_ (TC.condF rfl (TC.skip_ (TX.then_ (TC.seq_ (TC.seq_ ?_))))))
    refine TC.cut [(2, .int .u32 xa), (3, .int .u32 xb), (5, .int .i64 xi), (10, .pointer (some ⟨g10, 0, none⟩)), (13, .pointer (some ⟨wn.heap.size, 0, none⟩)), (18, .slice Ay y.length cy), (96, .slice (some ⟨g96, 0, none⟩) 3 3), (97, .int .i64 3), (98, .int .i64 ((i : Nat) : Int))] (Pm wn [.row (.slice (some ⟨g96, 0, none⟩) 3 3) 26 1 3 ([.slice Ax x.length cx, .slice A1 l1.length c1, .slice Ao od.length co]), .row (.slice Ao od.length co) 42 3 od.length (fcs od), .row (.slice Ax x.length cx) 42 3 x.length (fcs x), .abs wn.heap.size (fun w => Cod w wn.heap.size)]) ⟨rfl, rfl, rfl, rfl, rfl, rfl, rfl, rfl, rfl, trivial⟩ (fun w1 hw => hw.pick [4, 5, 6, 7] (by decide) rfl) ?_
    refine TC.region ?_
    refine TL.mv ?_
    refine TL.mv ?_
    refine TL.val rfl rfl rfl (gives_build (v := .agg #[.int .u32 xa, .int .u32 xb]) rfl rfl (fun w => ulsbld53_27254 _ _ w)) ?_
    refine TL.mv ?_
    refine TL.pcallCod (k := 3) (α := {a : Int // 167772161 ≤ a ∧ a ≤ 167772173}) (fun x => .int .u32 x.1) (fun x => []) rfl rfl rfl rfl rfl Try.func15 ulsnm15 ulsbd15 rfl (fun w1 hw hC1 => daddr_cod wn.heap.size w1 hC1) ?_
    rintro ⟨a1, ha11, ha12⟩
    dsimp only [List.cons_append, List.nil_append]
    refine TL.mv ?_
    refine TL.pcallCod (k := 3) (α := {a : Int // 167772161 ≤ a ∧ a ≤ 167772173}) (fun x => .int .u32 x.1) (fun x => []) rfl rfl rfl rfl rfl Try.func15 ulsnm15 ulsbd15 rfl (fun w1 hw hC1 => daddr_cod wn.heap.size w1 hC1) ?_
    rintro ⟨a2, ha21, ha22⟩
    dsimp only [List.cons_append, List.nil_append]
    refine TL.val rfl rfl rfl (gives_build (v := .agg #[.int .u32 a1, .int .u32 a2]) rfl rfl (fun w => ulsbld53_27254 _ _ w)) ?_
    refine TL.mv ?_
    refine TL.mv ?_
    refine TL.val rfl rfl rfl (gives_build (v := .agg #[.int .u32 xa, .int .u32 xa]) rfl rfl (fun w => ulsbld53_27254 _ _ w)) ?_
    refine TL.prowS (e := 53) (size := 2) (cs := [.int .u32 xa, .int .u32 xb, .int .u32 a1, .int .u32 a2, .int .u32 xa, .int .u32 xa]) rfl rfl rfl rfl rfl (fun w => ulsbs54_3_74879 _ _ _ _ _ _ w) (by decide) rfl (fun g134 => ?_)
    refine TL.val rfl rfl rfl (gives_len rfl Try.underlying54 rfl) ?_
    refine TL.mv ?_
    refine TL.end_ (TX.then_ (TC.block ?_))
    refine TC.loop_ (α := {i : Nat // i ≤ 3}) (fun z => [(2, .int .u32 xa), (3, .int .u32 xb), (5, .int .i64 xi), (10, .pointer (some ⟨g10, 0, none⟩)), (13, .pointer (some ⟨wn.heap.size, 0, none⟩)), (18, .slice Ay y.length cy), (96, .slice (some ⟨g96, 0, none⟩) 3 3), (97, .int .i64 3), (98, .int .i64 ((i : Nat) : Int)), (134, .slice (some ⟨g134, 0, none⟩) 3 3), (135, .int .i64 3), (136, .int .i64 ((z.1 : Nat) : Int))]) (fun z => Pm wn [.row (.slice (some ⟨g134, 0, none⟩) 3 3) 53 2 3 ([.int .u32 xa, .int .u32 xb, .int .u32 a1, .int .u32 a2, .int .u32 xa, .int .u32 xa]), .row (.slice (some ⟨g96, 0, none⟩) 3 3) 26 1 3 ([.slice Ax x.length cx, .slice A1 l1.length c1, .slice Ao od.length co]), .row (.slice Ao od.length co) 42 3 od.length (fcs od), .row (.slice Ax x.length cx) 42 3 x.length (fcs x), .abs wn.heap.size (fun w => Cod w wn.heap.size)]) (fun z => 3 - z.1) (⟨0, Nat.zero_le _⟩) ⟨rfl, rfl, rfl, rfl, rfl, rfl, rfl, rfl, rfl, rfl, rfl, rfl, trivial⟩ (fun w1 hw => hw) ?_
    rintro ⟨j, hj⟩
    try dsimp only
    refine TC.seq_ (TC.region ?_)
    refine TL.vsplit rfl rfl rfl (gives_bin rfl rfl rfl (fun w => bin_lss w)) (fun h137 => ?_) (fun h137 => ?_)
    ·have q137 := of_decide_eq_true h137
     have hj2 : j < 3 := by omega
     obtain ⟨p, q, hpq, hpr, hqr⟩ : ∃ p q : Int, (∀ (u : Nat) (v : Value), ([.int .u32 p, .int .u32 q] : List Value)[u]? = some v → ([.int .u32 xa, .int .u32 xb, .int .u32 a1, .int .u32 a2, .int .u32 xa, .int .u32 xa] : List Value)[0 + j * 2 + u]? = some v) ∧ (0 ≤ p ∧ p ≤ 4294967295) ∧ (0 ≤ q ∧ q ≤ 4294967295) := by
      have h3 : j = 0 ∨ j = 1 ∨ j = 2 := by omega
      rcases h3 with rfl | rfl | rfl
      ·exact ⟨xa, xb, two_cells, hxa, hxb⟩
      ·exact ⟨a1, a2, two_cells, by omega, by omega⟩
      ·exact ⟨xa, xa, two_cells, hxa, hxa⟩
     refine TL.end_ (TX.then_ (TC.seq_ (TC.condT rfl (TC.skip_ (TX.then_ (TC.seq_ (TC.block (TC.seq_ (TC.region ?_)))))))))
     refine TL.val rfl rfl rfl (gives_at (v := .pointer (some ⟨g134, 0 + j * 2, none⟩)) rfl rfl rfl (fun w => at_el Try.underlying54 ulssz53 rfl _ _ j (by omega) rfl w)) ?_
     refine TL.val rfl rfl rfl (gives_loadR (off := 0 + j * 2) (cs := [.int .u32 p, .int .u32 q]) rfl rfl ulsag53 ulssz53 rfl (fun w1 hw u9 v9 h9 => row_cells hw (k := 0) rfl (off := 0 + j * 2) (hpq) u9 v9 h9)) ?_
     refine TL.pnew rfl rfl rfl (exec_alloc (cs := [.int .u32 0, .int .u32 0]) rfl ulszv53 rfl) (fun g20 => ?_)
     refine TL.pstore (k := 0) (vs := [.int .u32 p, .int .u32 q]) rfl rfl rfl rfl rfl rfl rfl ulssz53 ulsone_u32u32 (by show 2 ≤ 2; decide) (L' := [.blk g20 53 [.int .u32 p, .int .u32 q], .row (.slice (some ⟨g134, 0, none⟩) 3 3) 53 2 3 ([.int .u32 xa, .int .u32 xb, .int .u32 a1, .int .u32 a2, .int .u32 xa, .int .u32 xa]), .row (.slice (some ⟨g96, 0, none⟩) 3 3) 26 1 3 ([.slice Ax x.length cx, .slice A1 l1.length c1, .slice Ao od.length co]), .row (.slice Ao od.length co) 42 3 od.length (fcs od), .row (.slice Ax x.length cx) 42 3 x.length (fcs x), .abs wn.heap.size (fun w => Cod w wn.heap.size)]) rfl ?_
     refine TL.end_ (TX.then_ (TC.seq_ (TC.region ?_)))
     refine TL.mv ?_
     refine TL.val rfl rfl rfl (gives_at (v := .pointer (some ⟨g20, 0, none⟩)) rfl rfl rfl (fun w => at_arr Try.underlying53 ulssz35 g20 0 _ 0 (by decide) w)) ?_
     refine TL.val rfl rfl rfl (pm_load (k := 0) (i := 0) rfl rfl ulsag35 rfl rfl) ?_
     refine TL.val rfl rfl rfl (gives_at (v := .pointer (some ⟨g20, 1, none⟩)) rfl rfl rfl (fun w => at_arr Try.underlying53 ulssz35 g20 0 _ 1 (by decide) w)) ?_
     refine TL.val rfl rfl rfl (pm_load (k := 0) (i := 1) rfl rfl ulsag35 rfl rfl) ?_
     refine TL.pcallPm (α := {u : (Option Addr × Nat) × List Fc × Bool // ExOk y p q u.2 ∧ u.2.1.length ≤ u.1.2 ∧ u.1.2 ≤ maxLen}) (fun y => .tuple #[.slice y.1.1.1 y.1.2.1.length y.1.1.2, .bool y.1.2.2]) (fun y => [.row (.slice y.1.1.1 y.1.2.1.length y.1.1.2) 42 3 y.1.2.1.length (fcs y.1.2.1)]) rfl rfl rfl rfl rfl Try.func16 ulsnm16 ulsbd16 (fun w1 hw => explain_any Ay y.length cy y w1 (hyR w1 (hw.pick [2, 3, 4, 5] (by decide) rfl)) rfl hyok p q hpr hqr) ?_
     rintro ⟨⟨⟨AP1, cp1⟩, p1, ok1⟩, hex1, hcp11, hcp12⟩
     dsimp only [List.cons_append, List.nil_append] at hex1 hcp11 hcp12 ⊢
     iterate 5 (first | refine TL.as_ ?_ | refine TL.ex ?_ | refine TL.mv ?_)
     refine TL.end_ (TX.then_ (TC.seq_ (TC.region ?_)))
     refine TL.mv ?_
     refine TL.val rfl rfl rfl (gives_at (v := .pointer (some ⟨g20, 0, none⟩)) rfl rfl rfl (fun w => at_arr Try.underlying53 ulssz35 g20 0 _ 0 (by decide) w)) ?_
     refine TL.val rfl rfl rfl (pm_load (k := 1) (i := 0) rfl rfl ulsag35 rfl rfl) ?_
     refine TL.val rfl rfl rfl (gives_at (v := .pointer (some ⟨g20, 1, none⟩)) rfl rfl rfl (fun w => at_arr Try.underlying53 ulssz35 g20 0 _ 1 (by decide) w)) ?_
     refine TL.val rfl rfl rfl (pm_load (k := 1) (i := 1) rfl rfl ulsag35 rfl rfl) ?_
     refine TL.pcallPm (α := {u : (Option Addr × Nat) × List Fc × Bool // ExOk y p q u.2 ∧ u.2.1.length ≤ u.1.2 ∧ u.1.2 ≤ maxLen}) (fun y => .tuple #[.slice y.1.1.1 y.1.2.1.length y.1.1.2, .bool y.1.2.2]) (fun y => [.row (.slice y.1.1.1 y.1.2.1.length y.1.1.2) 42 3 y.1.2.1.length (fcs y.1.2.1)]) rfl rfl rfl rfl rfl Try.func27 ulsnm27 ulsbd27 (fun w1 hw => rexpl_any Ay y.length cy y w1 (hyR w1 (hw.pick [3, 4, 5, 6] (by decide) rfl)) rfl hyok p q) ?_
     rintro ⟨⟨⟨AP2, cp2⟩, p2, ok2⟩, hex2, hcp21, hcp22⟩
     dsimp only [List.cons_append, List.nil_append] at hex2 hcp21 hcp22 ⊢
     have hxl := ExOk.len hex1
     obtain ⟨hpe, hoe⟩ := Prod.mk.inj (ExOk.same hex1 hex2)
     subst hpe
     subst hoe
     iterate 5 (first | refine TL.as_ ?_ | refine TL.ex ?_ | refine TL.mv ?_)
     refine TL.end_ (TX.then_ (TC.seq_ ?_))
     refine TC.quiet_ (E' := ?_) (by kernel_rfl) (by kernel_rfl) (fun w hw => hw.drawn _) ?_ ?_
     rotate_left
     ·refine TQ.val rfl rfl rfl (gives_move rfl rfl) ?_
      refine TQ.val rfl rfl rfl (gives_at (v := .pointer (some ⟨g20, 0, none⟩)) rfl rfl rfl (fun w => at_arr Try.underlying53 ulssz35 g20 0 _ 0 (by decide) w)) ?_
      refine TQ.val rfl rfl rfl (pm_load (k := 2) (i := 0) rfl rfl ulsag35 rfl rfl) ?_
      refine TQ.val rfl rfl rfl (gives_at (v := .pointer (some ⟨g20, 1, none⟩)) rfl rfl rfl (fun w => at_arr Try.underlying53 ulssz35 g20 0 _ 1 (by decide) w)) ?_
      refine TQ.val rfl rfl rfl (pm_load (k := 2) (i := 1) rfl rfl ulsag35 rfl rfl) ?_
      refine TQ.call (v := .bool (decide (validF y ∧ repF y p = repF y q))) rfl rfl rfl rfl rfl Try.func17 ulsnm17 ulsbd17 (fun w1 hw => (same_any Ay y.length cy y w1 (hyR w1 (hw.pick [4, 5, 6, 7] (by decide) rfl)) rfl hyok p q hpr hqr).mono fun en w2 ⟨h1, h2⟩ => ⟨h1, hw.below h2⟩) ?_
      refine TQ.val rfl rfl rfl (gives_move rfl rfl) ?_
      refine TQ.val rfl rfl rfl (gives_at (v := .pointer (some ⟨g20, 0, none⟩)) rfl rfl rfl (fun w => at_arr Try.underlying53 ulssz35 g20 0 _ 0 (by decide) w)) ?_
      refine TQ.val rfl rfl rfl (pm_load (k := 2) (i := 0) rfl rfl ulsag35 rfl rfl) ?_
      refine TQ.val rfl rfl rfl (gives_at (v := .pointer (some ⟨g20, 1, none⟩)) rfl rfl rfl (fun w => at_arr Try.underlying53 ulssz35 g20 0 _ 1 (by decide) w)) ?_
      refine TQ.val rfl rfl rfl (pm_load (k := 2) (i := 1) rfl rfl ulsag35 rfl rfl) ?_
      refine TQ.call (v := .bool (decide (validF y ∧ repF y p = repF y q))) rfl rfl rfl rfl rfl Try.func28 ulsnm28 ulsbd28 (fun w1 hw => (rsame_any Ay y.length cy y w1 (hyR w1 (hw.pick [4, 5, 6, 7] (by decide) rfl)) rfl p q).mono fun en w2 ⟨h1, h2⟩ => ⟨h1, hw.below h2⟩) ?_
      refine TQ.val rfl rfl rfl (gives_bin2 (v := .bool false) rfl rfl rfl (fun w => bin_neqs Try.underlying4 _ w)) ?_
      iterate 6 (first | refine TQ.val rfl rfl rfl (gives_move rfl rfl) ?_ | refine TQ.on rfl rfl rfl ?_)
      refine TQ.call (v := .bool true) rfl rfl rfl rfl rfl Try.func25 ulsnm25 ulsbd25 (fun w1 hw => (sf_is AP1 p1.length cp1 p1 w1 (by obtain ⟨B9, h8⟩ := pm_reads hw (k := 1) rfl; exact reads_up h8 (pm_row_lt hw (k := 1) rfl)) rfl AP2 p1.length cp2 p1 (by obtain ⟨B9, h8⟩ := pm_reads hw (k := 0) rfl; exact reads_up h8 (pm_row_lt hw (k := 0) rfl)) rfl (by omega) (by omega) (decide_eq_true rfl)).mono fun en w2 ⟨h1, h2⟩ => ⟨h1, hw.below h2⟩) ?_
      refine TQ.on rfl rfl rfl ?_
      refine TQ.val rfl rfl rfl (gives_boolnot rfl rfl) ?_
      iterate 7 (first | refine TQ.val rfl rfl rfl (gives_move rfl rfl) ?_ | refine TQ.on rfl rfl rfl ?_ | refine TQ.val rfl rfl rfl (gives_pick rfl rfl rfl) ?_)
      refine TQ.val rfl rfl rfl (gives_bin2 (v := .bool false) rfl rfl rfl (fun w => bin_neqs Try.underlying4 _ w)) ?_
      iterate 5 (first | refine TQ.val rfl rfl rfl (gives_move rfl rfl) ?_ | refine TQ.on rfl rfl rfl ?_ | refine TQ.val rfl rfl rfl (gives_pick rfl rfl rfl) ?_)
      refine TQ.val rfl rfl rfl (gives_at (v := .pointer (some ⟨g20, 0, none⟩)) rfl rfl rfl (fun w => at_arr Try.underlying53 ulssz35 g20 0 _ 0 (by decide) w)) ?_
      refine TQ.on rfl rfl rfl ?_
      refine TQ.val rfl rfl rfl (pm_load (k := 2) (i := 0) rfl rfl ulsag35 rfl rfl) ?_
      refine TQ.on rfl rfl rfl ?_
      refine TQ.val rfl rfl rfl (gives_at (v := .pointer (some ⟨g20, 1, none⟩)) rfl rfl rfl (fun w => at_arr Try.underlying53 ulssz35 g20 0 _ 1 (by decide) w)) ?_
      refine TQ.on rfl rfl rfl ?_
      refine TQ.val rfl rfl rfl (pm_load (k := 2) (i := 1) rfl rfl ulsag35 rfl rfl) ?_
      refine TQ.on rfl rfl rfl ?_
      refine TQ.call (v := .bool (decide (chkF y p = some q))) rfl rfl rfl rfl rfl Try.func18 ulsnm18 ulsbd18 (fun w1 hw => (check_any Ay y.length cy y w1 (hyR w1 (hw.pick [4, 5, 6, 7] (by decide) rfl)) rfl hyok (by omega) p q).mono fun en w2 ⟨h1, h2⟩ => ⟨h1, hw.below h2⟩) ?_
      refine TQ.on rfl rfl rfl ?_
      refine TQ.val rfl rfl rfl (gives_move rfl rfl) ?_
      refine TQ.on rfl rfl rfl ?_
      refine TQ.val rfl rfl rfl (gives_at (v := .pointer (some ⟨g20, 0, none⟩)) rfl rfl rfl (fun w => at_arr Try.underlying53 ulssz35 g20 0 _ 0 (by decide) w)) ?_
      refine TQ.on rfl rfl rfl ?_
      refine TQ.val rfl rfl rfl (pm_load (k := 2) (i := 0) rfl rfl ulsag35 rfl rfl) ?_
      refine TQ.on rfl rfl rfl ?_
      refine TQ.val rfl rfl rfl (gives_at (v := .pointer (some ⟨g20, 1, none⟩)) rfl rfl rfl (fun w => at_arr Try.underlying53 ulssz35 g20 0 _ 1 (by decide) w)) ?_
      refine TQ.on rfl rfl rfl ?_
      refine TQ.val rfl rfl rfl (pm_load (k := 2) (i := 1) rfl rfl ulsag35 rfl rfl) ?_
      refine TQ.on rfl rfl rfl ?_
      refine TQ.call (v := .bool (decide (chkF y p = some q))) rfl rfl rfl rfl rfl Try.func29 ulsnm29 ulsbd29 (fun w1 hw => (rcheck_any Ay y.length cy y w1 (hyR w1 (hw.pick [4, 5, 6, 7] (by decide) rfl)) rfl (by omega) p q).mono fun en w2 ⟨h1, h2⟩ => ⟨h1, hw.below h2⟩) ?_
      refine TQ.on rfl rfl rfl ?_
      refine TQ.val rfl rfl rfl (gives_bin2 (v := .bool false) rfl rfl rfl (fun w => bin_neqs Try.underlying4 _ w)) ?_
      refine TQ.val rfl rfl rfl (gives_pick rfl rfl rfl) ?_
      exact TQ.end_
     refine TX.then_ (TC.condF rfl (TC.skip_ (TX.in_normal (TX.then_ (TC.region ?_)))))
     refine TL.val rfl rfl rfl (gives_bin rfl rfl rfl (fun w => bin_add_ (r := ((j + 1 : Nat) : Int)) (by simp only [IntKind.wrap_i64]; omega) w)) ?_
     refine TL.mv ?_
     refine TL.end_ ?_
     exact TX.round (⟨j + 1, by omega⟩) (by show 3 - (j + 1) < 3 - j; omega) ⟨rfl, rfl, rfl, rfl, rfl, rfl, rfl, rfl, rfl, rfl, rfl, rfl, trivial⟩ (fun w1 hw => hw.pick [3, 4, 5, 6, 7] (by decide) rfl)
    ·have q137 := of_decide_eq_false h137
     refine TL.end_ (TX.then_ (TC.seq_ (TC.condF rfl (TC.exit_ (TX.then_exit (TX.then_exit (TX.in_same (TX.then_ (TC.seq_ (TC.seq_ ?_))))))))))
     refine TC.cut [(2, .int .u32 xa), (3, .int .u32 xb), (5, .int .i64 xi), (10, .pointer (some ⟨g10, 0, none⟩)), (13, .pointer (some ⟨wn.heap.size, 0, none⟩)), (18, .slice Ay y.length cy), (96, .slice (some ⟨g96, 0, none⟩) 3 3), (97, .int .i64 3), (98, .int .i64 ((i : Nat) : Int))] (Pm wn [.row (.slice (some ⟨g96, 0, none⟩) 3 3) 26 1 3 ([.slice Ax x.length cx, .slice A1 l1.length c1, .slice Ao od.length co]), .row (.slice Ao od.length co) 42 3 od.length (fcs od), .row (.slice Ax x.length cx) 42 3 x.length (fcs x), .abs wn.heap.size (fun w => Cod w wn.heap.size)]) ⟨rfl, rfl, rfl, rfl, rfl, rfl, rfl, rfl, rfl, trivial⟩ (fun w1 hw => hw.pick [1, 2, 3, 4] (by decide) rfl) ?_
     refine TC.held (ls := #[Ff,Ff,Ff,Ff,Ff,Ff,Ff,Ff,Ff,Ff,Ff]) (Pm wn []) (by kernel_rfl) rfl rfl (fun w hw => hw.drawn _) ?_
     refine TH.tk (listed' := #[Tt,Ff,Ff,Ff,Ff,Ff,Ff,Ff,Ff,Ff,Ff]) 0 rfl rfl rfl (pm_oldAgg rfl rfl (hwn.at_ (k := 0) rfl).1 (hwn.at_ (k := 0) rfl).1.lt Try.underlying42 rfl (by kernel_rfl)) (fun w1 hw => hw.pick [] (by decide) rfl) ?_
     refine TH.tk (listed' := #[Tt,Tt,Ff,Ff,Ff,Ff,Ff,Ff,Ff,Ff,Ff]) 1 rfl rfl rfl (gives_move rfl rfl) (fun w1 hw => hw.pick [] (by decide) rfl) ?_
     refine TH.tk (listed' := #[Tt,Tt,Ff,Tt,Ff,Ff,Ff,Ff,Ff,Ff,Ff]) 3 rfl rfl rfl (gives_move rfl rfl) (fun w1 hw => hw.pick [] (by decide) rfl) ?_
     refine TH.tk (listed' := #[Tt,Tt,Ff,Tt,Ff,Tt,Ff,Ff,Ff,Ff,Ff]) 5 rfl rfl rfl (gives_move rfl rfl) (fun w1 hw => hw.pick [] (by decide) rfl) ?_
     refine TH.tk (listed' := #[Tt,Tt,Ff,Tt,Ff,Tt,Ff,Ff,Ff,Ff,Tt]) 10 rfl rfl rfl (gives_move rfl rfl) (fun w1 hw => hw.pick [] (by decide) rfl) ?_
     refine TH.only' (listed' := #[Tt,Tt,Tt,Tt,Ff,Tt,Ff,Ff,Ff,Ff,Tt]) 2 rfl (by kernel_rfl) rfl ?_
     refine TL.pcallCod (k := 3) (α := {q9 : Nat // q9 ≤ 65535 ∧ (1 ≤ (30 : Int) → (q9 : Int) < 30)}) (fun q9 => .int .i64 ((q9.1 : Nat) : Int)) (fun q9 => []) rfl rfl rfl rfl rfl Try.func21 ulsnm21 ulsbd21 rfl (fun w1 hw hC1 => next_cod wn.heap.size w1 30 hC1) ?_
     rintro ⟨k3, hk31, hk32⟩
     dsimp only [List.cons_append, List.nil_append]
     refine TL.end_ ?_
     refine TX.held (fun w1 hw => hw.pick [] (by decide) rfl) ?_
     refine TH.only' (listed' := #[Tt,Tt,Tt,Tt,Tt,Tt,Ff,Ff,Ff,Ff,Tt]) 4 rfl (by kernel_rfl) rfl ?_
     refine TL.pcallCod (k := 3) (α := {a : Int // 167772161 ≤ a ∧ a ≤ 167772173}) (fun x => .int .u32 x.1) (fun x => []) rfl rfl rfl rfl rfl Try.func15 ulsnm15 ulsbd15 rfl (fun w1 hw hC1 => daddr_cod wn.heap.size w1 hC1) ?_
     rintro ⟨b3, hb31, hb32⟩
     dsimp only [List.cons_append, List.nil_append]
     refine TL.end_ ?_
     refine TX.held (fun w1 hw => hw.pick [] (by decide) rfl) ?_
     refine TH.only' (listed' := #[Tt,Tt,Tt,Tt,Tt,Tt,Tt,Ff,Ff,Ff,Tt]) 6 rfl (by kernel_rfl) rfl ?_
     refine TL.pcallCod (k := 3) (α := {a : Int // 167772161 ≤ a ∧ a ≤ 167772173}) (fun x => .int .u32 x.1) (fun x => []) rfl rfl rfl rfl rfl Try.func15 ulsnm15 ulsbd15 rfl (fun w1 hw hC1 => daddr_cod wn.heap.size w1 hC1) ?_
     rintro ⟨b4, hb41, hb42⟩
     dsimp only [List.cons_append, List.nil_append]
     refine TL.end_ ?_
     refine TX.held (fun w1 hw => hw.pick [] (by decide) rfl) ?_
     refine TH.tk (listed' := #[Tt,Tt,Tt,Tt,Tt,Tt,Tt,Tt,Ff,Ff,Tt]) 7 rfl rfl rfl (gives_build (v := .agg #[.int .i64 ((k3 : Nat) : Int), .int .u32 b3, .int .u32 b4]) rfl rfl (fun w => ulsbld42_57313 _ _ _ w)) (fun w1 hw => hw.pick [] (by decide) rfl) ?_
     refine TH.only' (listed' := #[Tt,Tt,Tt,Tt,Tt,Tt,Tt,Tt,Tt,Ff,Tt]) 8 rfl (by kernel_rfl) rfl ?_
     refine TL.prowS (e := 42) (size := 3) (cs := fcs [xf, ⟨((k3 : Nat) : Int), b3, b4⟩]) rfl rfl rfl rfl rfl (fun w => ulsbs26_2_74873 _ _ _ _ _ _ w) (by decide) rfl (fun g206 => ?_)
     refine TL.end_ ?_
     refine TX.held (fun w1 hw => hw.pick [] (by decide) rfl) ?_
     refine TH.tk (listed' := #[Tt,Tt,Tt,Tt,Tt,Tt,Tt,Tt,Tt,Tt,Tt]) 9 rfl rfl rfl (gives_len rfl Try.underlying26 rfl) (fun w1 hw => hw.pick [] (by decide) rfl) ?_
     refine TH.done (by kernel_rfl) ?_
     refine TX.then_ (TC.block ?_)
     refine TC.loop_ (α := {i : Nat // i ≤ 2}) (fun z => [(2, .int .u32 xa), (3, .int .u32 xb), (5, .int .i64 xi), (10, .pointer (some ⟨g10, 0, none⟩)), (13, .pointer (some ⟨wn.heap.size, 0, none⟩)), (18, .slice Ay y.length cy), (96, .slice (some ⟨g96, 0, none⟩) 3 3), (97, .int .i64 3), (98, .int .i64 ((i : Nat) : Int)), (206, .slice (some ⟨g206, 0, none⟩) 2 2), (207, .int .i64 2), (208, .int .i64 ((z.1 : Nat) : Int))]) (fun z => Pm wn [.row (.slice (some ⟨g206, 0, none⟩) 2 2) 42 3 2 (fcs [xf, ⟨((k3 : Nat) : Int), b3, b4⟩]), .row (.slice (some ⟨g96, 0, none⟩) 3 3) 26 1 3 ([.slice Ax x.length cx, .slice A1 l1.length c1, .slice Ao od.length co]), .row (.slice Ao od.length co) 42 3 od.length (fcs od), .row (.slice Ax x.length cx) 42 3 x.length (fcs x), .abs wn.heap.size (fun w => Cod w wn.heap.size)]) (fun z => 2 - z.1) (⟨0, Nat.zero_le _⟩) ⟨rfl, rfl, rfl, rfl, rfl, rfl, rfl, rfl, rfl, rfl, rfl, rfl, trivial⟩ (fun w1 hw => hw) ?_
     rintro ⟨j, hj⟩
     try dsimp only
     refine TC.seq_ (TC.region ?_)
     refine TL.vsplit rfl rfl rfl (gives_bin rfl rfl rfl (fun w => bin_lss w)) (fun h209 => ?_) (fun h209 => ?_)
     ·have q209 := of_decide_eq_true h209
      have hj2 : j < 2 := by omega
      obtain ⟨gx, hgx⟩ : ∃ gx, ([xf, ⟨((k3 : Nat) : Int), b3, b4⟩] : List Fc)[j]? = some gx := ⟨_, List.getElem?_eq_getElem hj2⟩
      refine TL.end_ (TX.then_ (TC.seq_ (TC.condT rfl (TC.skip_ (TX.then_ (TC.seq_ (TC.block (TC.seq_ (TC.region ?_)))))))))
      refine TL.val rfl rfl rfl (gives_at (v := .pointer (some ⟨g206, 0 + j * 3, none⟩)) rfl rfl rfl (fun w => at_el Try.underlying26 ulssz42 rfl _ _ j (by omega) rfl w)) ?_
      refine TL.val rfl rfl rfl (gives_loadR (off := 0 + j * 3) rfl rfl ulsag42 ulssz42 (fc_cells_len gx) (fun w1 hw q u hu => fc_row hw (k := 0) (i := j) rfl hgx q u hu)) ?_
      refine TL.pnew rfl rfl rfl (exec_alloc (cs := [.int .i64 0, .int .u32 0, .int .u32 0]) rfl ulszv42 rfl) (fun g26 => ?_)
      refine TL.pstore (k := 0) (vs := gx.cells) rfl rfl rfl rfl rfl rfl rfl ulssz42 (fc_one gx) (by show 3 ≤ 3; decide) (L' := [.blk g26 42 gx.cells, .row (.slice (some ⟨g206, 0, none⟩) 2 2) 42 3 2 (fcs [xf, ⟨((k3 : Nat) : Int), b3, b4⟩]), .row (.slice (some ⟨g96, 0, none⟩) 3 3) 26 1 3 ([.slice Ax x.length cx, .slice A1 l1.length c1, .slice Ao od.length co]), .row (.slice Ao od.length co) 42 3 od.length (fcs od), .row (.slice Ax x.length cx) 42 3 x.length (fcs x), .abs wn.heap.size (fun w => Cod w wn.heap.size)]) rfl ?_
      refine TL.end_ (TX.then_ (TC.seq_ (TC.region ?_)))
      refine TL.mv ?_
      refine TL.val rfl rfl rfl (pm_loadV (k := 0) (i := 0) (n := 3) (v := .agg (gx.cells).toArray) rfl rfl ulsag42 ulssz42 rfl (by show 3 ≤ 3; decide) rfl) ?_
      refine TL.pcallPm (α := {u : (Option Addr × Nat) × List Fc × Int // AddOk y gx u.2 ∧ u.2.1.length ≤ u.1.2 ∧ u.1.2 ≤ maxLen}) (fun y => .tuple #[.slice y.1.1.1 y.1.2.1.length y.1.1.2, .int .i64 y.1.2.2]) (fun y => [.row (.slice y.1.1.1 y.1.2.1.length y.1.1.2) 42 3 y.1.2.1.length (fcs y.1.2.1)]) rfl rfl rfl rfl rfl Try.func30 ulsnm30 ulsbd30 (fun w1 hw => add_any Ay y.length cy y w1 (hyR w1 (hw.pick [2, 3, 4, 5] (by decide) rfl)) rfl gx) ?_
      rintro ⟨⟨⟨AB1, cB1⟩, b1, e1⟩, hab1, hcb11, hcb12⟩
      dsimp only [List.cons_append, List.nil_append] at hab1 hcb11 hcb12 ⊢
      iterate 5 (first | refine TL.as_ ?_ | refine TL.ex ?_ | refine TL.mv ?_)
      refine TL.end_ (TX.then_ (TC.seq_ (TC.region ?_)))
      refine TL.mv ?_
      refine TL.val rfl rfl rfl (pm_loadV (k := 1) (i := 0) (n := 3) (v := .agg (gx.cells).toArray) rfl rfl ulsag42 ulssz42 rfl (by show 3 ≤ 3; decide) rfl) ?_
      refine TL.pcallPm (α := {u : (Option Addr × Nat) × List Fc × Int // AddOk y gx u.2 ∧ u.2.1.length ≤ u.1.2 ∧ u.1.2 ≤ maxLen}) (fun y => .tuple #[.slice y.1.1.1 y.1.2.1.length y.1.1.2, .int .i64 y.1.2.2]) (fun y => [.row (.slice y.1.1.1 y.1.2.1.length y.1.1.2) 42 3 y.1.2.1.length (fcs y.1.2.1)]) rfl rfl rfl rfl rfl Try.func31 ulsnm31 ulsbd31 (fun w1 hw => radd_any Ay y.length cy y w1 (hyR w1 (hw.pick [3, 4, 5, 6] (by decide) rfl)) rfl hyc gx) ?_
      rintro ⟨⟨⟨AB2, cB2⟩, b2, e2⟩, hab2, hcb21, hcb22⟩
      dsimp only [List.cons_append, List.nil_append] at hab2 hcb21 hcb22 ⊢
      have hbl := AddOk.len hab1
      obtain ⟨hbe, hee⟩ := Prod.mk.inj (AddOk.same hab1 hab2)
      subst hbe
      subst hee
      iterate 5 (first | refine TL.as_ ?_ | refine TL.ex ?_ | refine TL.mv ?_)
      refine TL.end_ (TX.then_ (TC.seq_ (TC.region ?_)))
      refine TL.mv ?_
      refine TL.mv ?_
      refine TL.val rfl rfl rfl (gives_bin rfl rfl rfl (fun w => bin_neq_f rfl w)) ?_
      iterate 6 (first | refine TL.gu ?_ | refine TL.mv ?_)
      refine TL.pcall1 (r := .bool true) rfl rfl rfl rfl rfl Try.func25 ulsnm25 ulsbd25 (fun w1 hw => sf_is AB1 b1.length cB1 b1 w1 (by obtain ⟨B9, h8⟩ := pm_reads hw (k := 1) rfl; exact reads_up h8 (pm_row_lt hw (k := 1) rfl)) rfl AB2 b1.length cB2 b1 (by obtain ⟨B9, h8⟩ := pm_reads hw (k := 0) rfl; exact reads_up h8 (pm_row_lt hw (k := 0) rfl)) rfl (by omega) (by omega) (decide_eq_true rfl)) ?_
      refine TL.gu ?_
      refine TL.val rfl rfl rfl (gives_boolnot rfl rfl) ?_
      refine TL.pk ?_
      refine TL.end_ (TX.then_ (TC.condF rfl (TC.skip_ (TX.in_normal (TX.then_ (TC.region ?_))))))
      refine TL.val rfl rfl rfl (gives_bin rfl rfl rfl (fun w => bin_add_ (r := ((j + 1 : Nat) : Int)) (by simp only [IntKind.wrap_i64]; omega) w)) ?_
      refine TL.mv ?_
      refine TL.end_ ?_
      exact TX.round (⟨j + 1, by omega⟩) (by show 2 - (j + 1) < 2 - j; omega) ⟨rfl, rfl, rfl, rfl, rfl, rfl, rfl, rfl, rfl, rfl, rfl, rfl, trivial⟩ (fun w1 hw => hw.pick [3, 4, 5, 6, 7] (by decide) rfl)
     ·have q209 := of_decide_eq_false h209
      refine TL.end_ (TX.then_ (TC.seq_ (TC.condF rfl (TC.exit_ (TX.then_exit (TX.then_exit (TX.in_same (TX.then_ (TC.seq_ ?_)))))))))
      refine TC.cut [(2, .int .u32 xa), (3, .int .u32 xb), (5, .int .i64 xi), (10, .pointer (some ⟨g10, 0, none⟩)), (13, .pointer (some ⟨wn.heap.size, 0, none⟩)), (18, .slice Ay y.length cy), (96, .slice (some ⟨g96, 0, none⟩) 3 3), (97, .int .i64 3), (98, .int .i64 ((i : Nat) : Int))] (Pm wn [.row (.slice (some ⟨g96, 0, none⟩) 3 3) 26 1 3 ([.slice Ax x.length cx, .slice A1 l1.length c1, .slice Ao od.length co]), .row (.slice Ao od.length co) 42 3 od.length (fcs od), .row (.slice Ax x.length cx) 42 3 x.length (fcs x), .abs wn.heap.size (fun w => Cod w wn.heap.size)]) ⟨rfl, rfl, rfl, rfl, rfl, rfl, rfl, rfl, rfl, trivial⟩ (fun w1 hw => hw.pick [1, 2, 3, 4] (by decide) rfl) ?_
      refine TC.region ?_
      refine TL.mv ?_
      refine TL.mv ?_
      refine TL.pcallCod (k := 3) (α := {q9 : Nat // q9 ≤ 65535 ∧ (1 ≤ (20 : Int) → (q9 : Int) < 20)}) (fun q9 => .int .i64 ((q9.1 : Nat) : Int)) (fun q9 => []) rfl rfl rfl rfl rfl Try.func21 ulsnm21 ulsbd21 rfl (fun w1 hw hC1 => next_cod wn.heap.size w1 20 hC1) ?_
      rintro ⟨k4, hk41, hk42⟩
      dsimp only [List.cons_append, List.nil_append]
      refine TL.prowS (e := 3) (size := 1) (cs := [.int .i64 xi, .int .i64 ((k4 : Nat) : Int)]) rfl rfl rfl rfl rfl (fun w => ulsbs56_2_20249 _ _ w) (by decide) rfl (fun g237 => ?_)
      refine TL.val rfl rfl rfl (gives_len rfl Try.underlying56 rfl) ?_
      refine TL.mv ?_
      refine TL.end_ (TX.then_ (TC.block ?_))
      refine TC.loop_ (α := {i : Nat // i ≤ 2}) (fun z => [(2, .int .u32 xa), (3, .int .u32 xb), (5, .int .i64 xi), (10, .pointer (some ⟨g10, 0, none⟩)), (13, .pointer (some ⟨wn.heap.size, 0, none⟩)), (18, .slice Ay y.length cy), (96, .slice (some ⟨g96, 0, none⟩) 3 3), (97, .int .i64 3), (98, .int .i64 ((i : Nat) : Int)), (237, .slice (some ⟨g237, 0, none⟩) 2 2), (238, .int .i64 2), (239, .int .i64 ((z.1 : Nat) : Int))]) (fun z => Pm wn [.row (.slice (some ⟨g237, 0, none⟩) 2 2) 3 1 2 ([.int .i64 xi, .int .i64 ((k4 : Nat) : Int)]), .row (.slice (some ⟨g96, 0, none⟩) 3 3) 26 1 3 ([.slice Ax x.length cx, .slice A1 l1.length c1, .slice Ao od.length co]), .row (.slice Ao od.length co) 42 3 od.length (fcs od), .row (.slice Ax x.length cx) 42 3 x.length (fcs x), .abs wn.heap.size (fun w => Cod w wn.heap.size)]) (fun z => 2 - z.1) (⟨0, Nat.zero_le _⟩) ⟨rfl, rfl, rfl, rfl, rfl, rfl, rfl, rfl, rfl, rfl, rfl, rfl, trivial⟩ (fun w1 hw => hw) ?_
      rintro ⟨j, hj⟩
      try dsimp only
      refine TC.seq_ (TC.region ?_)
      refine TL.vsplit rfl rfl rfl (gives_bin rfl rfl rfl (fun w => bin_lss w)) (fun h240 => ?_) (fun h240 => ?_)
      ·have q240 := of_decide_eq_true h240
       have hj2 : j < 2 := by omega
       obtain ⟨v, hv⟩ : ∃ v, ([.int .i64 xi, .int .i64 ((k4 : Nat) : Int)] : List Value)[0 + j * 1]? = some (.int .i64 v) := by
        have h3 : j = 0 ∨ j = 1 := by omega
        rcases h3 with rfl | rfl
        ·exact ⟨_, rfl⟩
        ·exact ⟨_, rfl⟩
       refine TL.end_ (TX.then_ (TC.seq_ (TC.condT rfl (TC.skip_ (TX.then_ (TC.seq_ (TC.block (TC.seq_ (TC.region ?_)))))))))
       refine TL.val rfl rfl rfl (gives_at (v := .pointer (some ⟨g237, 0 + j * 1, none⟩)) rfl rfl rfl (fun w => at_el Try.underlying56 ulssz3 rfl _ _ j (by omega) rfl w)) ?_
       refine TL.val rfl rfl rfl (gives_load (v := .int .i64 v) rfl rfl ulsag3 (fun w1 hw => pm_row hw (k := 0) rfl (hv))) ?_
       refine TL.as_ ?_
       refine TL.end_ (TX.then_ (TC.seq_ (TC.region ?_)))
       refine TL.mv ?_
       refine TL.mv ?_
       refine TL.pcallPm (α := {u : (Option Addr × Nat) × List Fc × Int // u.2 = remP y v ∧ u.2.1.length ≤ u.1.2 ∧ u.1.2 ≤ maxLen}) (fun y => .tuple #[.slice y.1.1.1 y.1.2.1.length y.1.1.2, .int .i64 y.1.2.2]) (fun y => [.row (.slice y.1.1.1 y.1.2.1.length y.1.1.2) 42 3 y.1.2.1.length (fcs y.1.2.1)]) rfl rfl rfl rfl rfl Try.func20 ulsnm20 ulsbd20 (fun w1 hw => rem_any Ay y.length cy y w1 (hyR w1 (hw.pick [1, 2, 3, 4] (by decide) rfl)) rfl v) ?_
       rintro ⟨⟨⟨AR1, cR1⟩, rm1, er1⟩, hrm1, hcr11, hcr12⟩
       dsimp only [List.cons_append, List.nil_append] at hrm1 hcr11 hcr12 ⊢
       iterate 5 (first | refine TL.as_ ?_ | refine TL.ex ?_ | refine TL.mv ?_)
       refine TL.end_ (TX.then_ (TC.seq_ (TC.region ?_)))
       refine TL.mv ?_
       refine TL.mv ?_
       refine TL.pcallPm (α := {u : (Option Addr × Nat) × List Fc × Int // u.2 = remP y v ∧ u.2.1.length ≤ u.1.2 ∧ u.1.2 ≤ maxLen}) (fun y => .tuple #[.slice y.1.1.1 y.1.2.1.length y.1.1.2, .int .i64 y.1.2.2]) (fun y => [.row (.slice y.1.1.1 y.1.2.1.length y.1.1.2) 42 3 y.1.2.1.length (fcs y.1.2.1)]) rfl rfl rfl rfl rfl Try.func32 ulsnm32 ulsbd32 (fun w1 hw => rrem_any Ay y.length cy y w1 (hyR w1 (hw.pick [2, 3, 4, 5] (by decide) rfl)) rfl hyc v) ?_
       rintro ⟨⟨⟨AR2, cR2⟩, rm2, er2⟩, hrm2, hcr21, hcr22⟩
       dsimp only [List.cons_append, List.nil_append] at hrm2 hcr21 hcr22 ⊢
       have hrl : rm1.length ≤ y.length := by have h9 := remP_len y v; rw [← hrm1] at h9; exact h9
       obtain ⟨hre, hrf⟩ := Prod.mk.inj (hrm1.trans hrm2.symm)
       subst hre
       subst hrf
       iterate 5 (first | refine TL.as_ ?_ | refine TL.ex ?_ | refine TL.mv ?_)
       refine TL.end_ (TX.then_ (TC.seq_ (TC.region ?_)))
       refine TL.mv ?_
       refine TL.mv ?_
       refine TL.pcallPm (α := {u : Bool × Int // BrOk y v u}) (fun y => .tuple #[.bool y.1.1, .int .i64 y.1.2]) (fun _ => []) rfl rfl rfl rfl rfl Try.func19 ulsnm19 ulsbd19 (fun w1 hw => (bridge_any Ay y.length cy y w1 (hyR w1 (hw.pick [3, 4, 5, 6] (by decide) rfl)) rfl hyok v).mono fun e w2 ⟨x, h1, h2⟩ => ⟨x, h1, (Pm.start w1).below h2⟩) ?_
       rintro ⟨⟨br1, eb1⟩, hbr1⟩
       dsimp only [List.cons_append, List.nil_append] at hbr1 ⊢
       iterate 5 (first | refine TL.as_ ?_ | refine TL.ex ?_ | refine TL.mv ?_)
       refine TL.end_ (TX.then_ (TC.seq_ (TC.region ?_)))
       refine TL.mv ?_
       refine TL.mv ?_
       refine TL.pcallPm (α := {u : Bool × Int // BrOk y v u}) (fun y => .tuple #[.bool y.1.1, .int .i64 y.1.2]) (fun _ => []) rfl rfl rfl rfl rfl Try.func33 ulsnm33 ulsbd33 (fun w1 hw => (rbr_any Ay y.length cy y w1 (hyR w1 (hw.pick [3, 4, 5, 6] (by decide) rfl)) rfl hyc v).mono fun e w2 ⟨x, h1, h2⟩ => ⟨x, h1, (Pm.start w1).below h2⟩) ?_
       rintro ⟨⟨br2, eb2⟩, hbr2⟩
       dsimp only [List.cons_append, List.nil_append] at hbr2 ⊢
       obtain ⟨hge, hgf⟩ := Prod.mk.inj (BrOk.same hbr1 hbr2)
       subst hge
       subst hgf
       iterate 5 (first | refine TL.as_ ?_ | refine TL.ex ?_ | refine TL.mv ?_)
       refine TL.end_ (TX.then_ (TC.seq_ (TC.region ?_)))
       refine TL.mv ?_
       refine TL.mv ?_
       refine TL.val rfl rfl rfl (gives_bin rfl rfl rfl (fun w => bin_neq_f rfl w)) ?_
       iterate 6 (first | refine TL.gu ?_ | refine TL.mv ?_)
       refine TL.pcall1 (r := .bool true) rfl rfl rfl rfl rfl Try.func25 ulsnm25 ulsbd25 (fun w1 hw => sf_is AR1 rm1.length cR1 rm1 w1 (by obtain ⟨B9, h8⟩ := pm_reads hw (k := 1) rfl; exact reads_up h8 (pm_row_lt hw (k := 1) rfl)) rfl AR2 rm1.length cR2 rm1 (by obtain ⟨B9, h8⟩ := pm_reads hw (k := 0) rfl; exact reads_up h8 (pm_row_lt hw (k := 0) rfl)) rfl (by omega) (by omega) (decide_eq_true rfl)) ?_
       iterate 9 (first | refine TL.gu ?_ | refine TL.mv ?_ | refine TL.pk ?_ | refine TL.val rfl rfl rfl (gives_boolnot rfl rfl) ?_)
       refine TL.val rfl rfl rfl (gives_bin2 (v := .bool false) rfl rfl rfl (fun w => bin_neqs Try.underlying4 _ w)) ?_
       iterate 7 (first | refine TL.gu ?_ | refine TL.mv ?_ | refine TL.pk ?_)
       refine TL.val rfl rfl rfl (gives_bin rfl rfl rfl (fun w => bin_neq_f rfl w)) ?_
       refine TL.pk ?_
       refine TL.end_ (TX.then_ (TC.condF rfl (TC.skip_ (TX.in_normal (TX.then_ (TC.region ?_))))))
       refine TL.val rfl rfl rfl (gives_bin rfl rfl rfl (fun w => bin_add_ (r := ((j + 1 : Nat) : Int)) (by simp only [IntKind.wrap_i64]; omega) w)) ?_
       refine TL.mv ?_
       refine TL.end_ ?_
       exact TX.round (⟨j + 1, by omega⟩) (by show 2 - (j + 1) < 2 - j; omega) ⟨rfl, rfl, rfl, rfl, rfl, rfl, rfl, rfl, rfl, rfl, rfl, rfl, trivial⟩ (fun w1 hw => hw.pick [2, 3, 4, 5, 6] (by decide) rfl)
      ·have q240 := of_decide_eq_false h240
       refine TL.end_ (TX.then_ (TC.seq_ (TC.condF rfl (TC.exit_ (TX.then_exit (TX.then_exit (TX.in_same (TX.in_normal (TX.then_ (TC.region ?_))))))))))
       refine TL.val rfl rfl rfl (gives_bin rfl rfl rfl (fun w => bin_add_ (r := ((i + 1 : Nat) : Int)) (by simp only [IntKind.wrap_i64]; omega) w)) ?_
       refine TL.mv ?_
       refine TL.end_ ?_
       exact TX.round (⟨i + 1, by omega⟩) (by show 3 - (i + 1) < 3 - i; omega) ⟨rfl, rfl, rfl, rfl, rfl, rfl, rfl, rfl, trivial⟩ (fun w1 hw => hw.pick [1, 2, 3, 4] (by decide) rfl)
   ·have q99 := of_decide_eq_false h99
    refine TL.end_ (TX.then_ (TC.seq_ (TC.condF rfl (TC.exit_ (TX.then_exit (TX.then_exit (TX.in_same (TX.then_ (TC.seq_ (TC.region ?_))))))))))
    refine TL.as_ ?_
    refine TL.end_ (TX.then_ (TC.ret_ ?_))
    exact ret_tmp Try.results6 rfl (fun w1 hw => ⟨rfl, hwb.trans (hw.bel.mono hwb.size)⟩)
end Go.Proofs.Ytleckflmckbheaa

namespace Go.Proofs.Ytleckflmckbheaa
open Go.ChangeShapes Go.WideShapes Go.RowKit
set_option linter.constructorNameAsVariable false
set_option maxRecDepth 20000
theorem cell_of_cells {w : World} {base n : Nat} {a : Addr} {cs : List Value} (h : w.cells? base a n = some cs) (j : Nat) (u : Value) (hu : cs[j]? = some u) : w.cell? (a.add j) = some u := by
  unfold World.cells? at h
  split at h
  · have hl := mapM_some_length h
    have hj := (List.getElem?_eq_some_iff.1 hu).1
    rw [List.length_range] at hl
    have := mapM_some_get h j j (by rw [List.getElem?_range (by omega)])
    exact this.trans hu
  · cases h
theorem fields3 {H : Type} {enc : TypeId × Value → H} {P : Program} {w : World} {base : Nat} {spare : Nat → Bool} {held : Bool} {t : TypeId} {f0 f1 f2 : Field} {fuel : Nat} {cs : List Value} {x : DataW H × List MemPlace} (hs : P.underlying t = some (.struct #[f0, f1, f2])) (h : DataW.trod enc P w base spare held fuel t cs = some x) : ∃ (n : Nat) (y0 y1 y2 : DataW H × List MemPlace), cs.length = P.cellsOf t ∧ DataW.trod enc P w base spare held n f0.type ((cs.drop f0.offset).take (P.cellsOf f0.type)) = some y0 ∧ DataW.trod enc P w base spare held n f1.type ((cs.drop f1.offset).take (P.cellsOf f1.type)) = some y1 ∧ DataW.trod enc P w base spare held n f2.type ((cs.drop f2.offset).take (P.cellsOf f2.type)) = some y2 := by
  obtain ⟨xs, n, _, _, hl, hlen, hf⟩ := DataW.trod_struct hs h
  match xs, hlen with
  | [y0, y1, y2], _ => exact ⟨n, y0, y1, y2, hl, hf 0 f0 rfl, hf 1 f1 rfl, hf 2 f2 rfl⟩
section
variable {H : Type} {enc : TypeId × Value → H} {W : World} {base : Nat} {spare : Nat → Bool} {held : Bool}
theorem cInt : Try.prog.cellsOf 3 = 1 := by kernel_rfl
theorem cAddr : Try.prog.cellsOf 35 = 1 := by kernel_rfl
theorem cFc : Try.prog.cellsOf 42 = 3 := by kernel_rfl
theorem fc_trod {fuel : Nat} {cs : List Value} {x : DataW H × List MemPlace} (h : DataW.trod enc Try.prog W base spare held fuel 42 cs = some x) : ∃ r : Fc, cs = r.cells ∧ r.Ok := by
  obtain ⟨n, y0, y1, y2, hl, h0, h1, h2⟩ := fields3 Try.underlying42 h
  rw [cFc] at hl
  match cs, hl with
  | [c0, c1, c2], _ =>
    dsimp only at h0
    rw [cInt] at h0
    obtain ⟨x0, qx0, _, wx0⟩ := DataW.trod_int (x := y0) Try.underlying3 h0
    have qx0 : [c0] = [Value.int .i64 x0] := qx0
    rw [List.cons.injEq] at qx0
    obtain ⟨rfl, _⟩ := qx0
    dsimp only at h1
    rw [cAddr] at h1
    obtain ⟨x1, qx1, _, wx1⟩ := DataW.trod_int (x := y1) Try.underlying35 h1
    have qx1 : [c1] = [Value.int .u32 x1] := qx1
    rw [List.cons.injEq] at qx1
    obtain ⟨rfl, _⟩ := qx1
    dsimp only at h2
    rw [cAddr] at h2
    obtain ⟨x2, qx2, _, wx2⟩ := DataW.trod_int (x := y2) Try.underlying35 h2
    have qx2 : [c2] = [Value.int .u32 x2] := qx2
    rw [List.cons.injEq] at qx2
    obtain ⟨rfl, _⟩ := qx2
    exact ⟨⟨x0, x1, x2⟩, rfl, (wf_u32 wx1).1, (wf_u32 wx1).2, (wf_u32 wx2).1, (wf_u32 wx2).2⟩
theorem open_fc {r : Reach} {b0 : Nat} {v : Value} {d : DataW H} {p : List MemPlace} (hv : Value.okWide Try.prog W r b0 42 v) (h : DataW.Trod enc Try.prog W base spare held 42 v d p) : ∃ x : Fc, v = .agg x.cells.toArray ∧ x.Ok := by
  obtain ⟨cs, rfl, hsz⟩ := okWide_struct Try.underlying42 hv
  obtain ⟨fuel, hf⟩ := h
  obtain ⟨x, hx, ho⟩ := fc_trod hf
  refine ⟨x, ?_, ho⟩
  have hx2 : cs.toList = x.cells := hx
  rw [← hx2]
end
theorem fcs_ix3 {l : List Fc} {i : Nat} {f : Fc} (hf : l[i]? = some f) (k : Nat) (hk : k < 3) : (fcs l)[i * 3 + k]? = f.cells[k]? := by
  have h1 : (fcs (l.drop i))[k]? = (fcs l)[i * 3 + k]? := by rw [← fcs_drop, List.getElem?_drop]
  rw [← h1]
  obtain ⟨hlt, e⟩ := List.getElem?_eq_some_iff.1 hf
  rw [List.drop_eq_getElem_cons hlt, e]
  show (f.cells ++ fcs (l.drop (i + 1)))[k]? = _
  rw [List.getElem?_append_left (by rw [fc_cells_len]; exact hk)]
theorem open_fcslice {H : Type} {enc : TypeId × Value → H} {W : World} {b0 : Nat} {v : Value} {d : DataW H} {p : List MemPlace} (hok : Value.okWide Try.prog W .any b0 26 v) (h : DataW.Trod enc Try.prog W 0 (fun _ => true) true 26 v d p) :
    ∃ A c l, v = .slice A l.length c ∧ l.length ≤ c ∧ c ≤ maxLen ∧ Reads W W.heap.size 3 A l.length (fcs l) ∧ ∀ r ∈ l, r.Ok := by
  obtain ⟨a0, len0, cap0, rfl⟩ := okWide_slice Try.underlying26 hok
  obtain ⟨fuel, hf⟩ := h
  rcases DataW.trod_slice Try.underlying26 hf with ⟨hcs, _⟩ | ⟨a, len, cap, elems, rest, n, _, hcs, _, _, hlc, hcm, hel, hget, _, _⟩
  · simp [Value.cells] at hcs
    obtain ⟨rfl, rfl, rfl⟩ := hcs
    exact ⟨none, 0, [], rfl, Nat.le_refl _, Nat.zero_le _, ⟨rfl, fun h => absurd h (by decide)⟩, fun r hr => by cases hr⟩
  · simp [Value.cells] at hcs
    obtain ⟨rfl, rfl, rfl⟩ := hcs
    have key : ∀ i, i < len0 → ∃ r : Fc, W.cells? 0 (a.add (i * 3)) 3 = some r.cells ∧ r.Ok := fun i hi => by
      have hi2 := hget i hi
      rw [cFc, List.getElem?_eq_getElem (by omega), Option.bind_eq_some_iff] at hi2
      obtain ⟨cs, h1, h2⟩ := hi2
      obtain ⟨r, rfl, ho⟩ := fc_trod h2
      exact ⟨r, h1, ho⟩
    have pick : ∀ m, m ≤ len0 → ∃ l : List Fc, l.length = m ∧ (∀ r ∈ l, r.Ok) ∧ ∀ i r, l[i]? = some r → W.cells? 0 (a.add (i * 3)) 3 = some r.cells := fun m => by
      induction m with
      | zero => exact fun _ => ⟨[], rfl, fun r hr => absurd hr List.not_mem_nil, fun i r hr => by simp at hr⟩
      | succ m ih =>
        intro hm
        obtain ⟨l, h1, h2, h3⟩ := ih (by omega)
        obtain ⟨r, h4, h5⟩ := key m (by omega)
        refine ⟨l ++ [r], by rw [List.length_append, h1]; rfl, fun q hq => (List.mem_append.1 hq).elim (h2 q) (fun h => by rw [List.mem_singleton] at h; subst h; exact h5), fun i q hq => ?_⟩
        rcases Nat.lt_or_ge i l.length with hi | hi
        · rw [List.getElem?_append_left hi] at hq; exact h3 i q hq
        · rw [List.getElem?_append_right hi] at hq
          obtain ⟨h6, h7⟩ := List.getElem?_eq_some_iff.1 hq
          simp only [List.length_singleton] at h6
          obtain rfl : i = m := by omega
          have h8 : r = q := by simpa [h1] using h7
          rw [← h8]; exact h4
    obtain ⟨l, h1, h2, h3⟩ := pick len0 (Nat.le_refl _)
    subst h1
    refine ⟨some a, cap0, l, rfl, hlc, hcm, ⟨fcs_len l, fun hn => ⟨a, rfl, ?_, fun j u hu => ?_⟩⟩, h2⟩
    · have h4 := cell_of_cells (h3 0 l[0] (List.getElem?_eq_getElem hn)) 0 _ rfl
      have := World.block_lt_of_cell? W _ h4
      rwa [block_of_add, block_of_add] at this
    · have hj : j < l.length * 3 := by have := (List.getElem?_eq_some_iff.1 hu).1; rwa [fcs_len] at this
      have hi : j / 3 < l.length := by omega
      have h4 := fcs_ix3 (List.getElem?_eq_getElem hi) (j % 3) (by omega)
      rw [show j / 3 * 3 + j % 3 = j by omega, hu] at h4
      have h5 := cell_of_cells (h3 _ _ (List.getElem?_eq_getElem hi)) (j % 3) u h4.symm
      rw [Addr.add_add, show j / 3 * 3 + j % 3 = j by omega] at h5
      exact h5
end Go.Proofs.Ytleckflmckbheaa
