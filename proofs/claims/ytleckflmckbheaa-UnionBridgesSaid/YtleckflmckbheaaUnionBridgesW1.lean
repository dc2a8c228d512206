/-
  The walk of UnionBridges.
-/
import Derived.Test.YtleckflmckbheaaPu6
import Derived.Test.YtleckflmckbheaaPu5
namespace Go.Proofs.Ytleckflmckbheaa
open Go.RowKit
set_option linter.unusedVariables false
set_option linter.unusedSimpArgs false
set_option maxRecDepth 20000
theorem ix_at {l : List Fc} (ha : Asc l) {i : Nat} {f : Fc} (hf : l[i]? = some f) : ixF l f.id = some i := by
 unfold ixF
 rw [List.findIdx?_eq_some_iff_getElem]
 obtain ⟨hlt, e⟩ := List.getElem?_eq_some_iff.1 hf
 refine ⟨hlt, by rw [e]; exact decide_eq_true rfl, fun j hj hjd => ?_⟩
 have h3 := of_decide_eq_true hjd
 have := ha j i _ f hj (List.getElem?_eq_getElem (by omega)) hf
 omega
theorem br_at {l : List Fc} {b : Bool} {e id : Int} {i : Nat} {f : Fc} (h : BrOk l id (b, e)) (hr : remP l id = (l.eraseIdx i, 0)) (hi : ixF l id = some i) (hf : l[i]? = some f) : e = 0 ∧ (b = true ↔ ¬ (validF (l.eraseIdx i) ∧ repF (l.eraseIdx i) f.a = repF (l.eraseIdx i) f.b)) := by
 obtain ⟨h1, _, h3⟩ := h
 rw [hr] at h1
 have he : e = 0 := h1
 obtain ⟨j, y, hj, hy, hb⟩ := h3 he
 rw [hi] at hj
 cases hj
 rw [hf] at hy
 cases hy
 exact ⟨he, hb⟩
/-- a bridge is a fact of the forest -/
theorem br_forest {l : List Fc} {i : Nat} {f : Fc} (hV : validF l) (hf : l[i]? = some f) (hs : ¬ (validF (l.eraseIdx i) ∧ repF (l.eraseIdx i) f.a = repF (l.eraseIdx i) f.b)) : f ∈ forest l := by
 obtain ⟨hlt, e⟩ := List.getElem?_eq_some_iff.1 hf
 have hsp : l = l.take i ++ f :: l.drop (i + 1) := by rw [← e, List.getElem_cons_drop, List.take_append_drop]
 refine bridge_forest hsp fun hc => hs ⟨validF_sub hV (List.eraseIdx_sublist _ _), ?_⟩
 rw [rep_conn, List.eraseIdx_eq_take_drop_succ]
 exact hc
theorem ulbnm8 : (Try.f8.name == "runtime.NumGoroutine") = false := by decide
theorem ulbbd8 : Try.f8.body.isNone = false := rfl
theorem ulbnm9 : (Try.f9.name == "runtime.NumGoroutine") = false := by decide
theorem ulbbd9 : Try.f9.body.isNone = false := rfl
theorem ulbnm10 : (Try.f10.name == "runtime.NumGoroutine") = false := by decide
theorem ulbbd10 : Try.f10.body.isNone = false := rfl
theorem ulbnm12 : (Try.f12.name == "runtime.NumGoroutine") = false := by decide
theorem ulbbd12 : Try.f12.body.isNone = false := rfl
theorem ulbsz42 (w : World) : (sizeOf 42).run Try.prog w = .ok 3 w := rfl
theorem ulbfld42_0 (g o : Nat) (w : World) : (Instr.fieldAt 42 (.pointer (some ⟨g, o, none⟩)) 0).run Try.prog w = .ok (.pointer (some ⟨g, o + 0, none⟩)) w := by kernel_rfl
theorem ulbag3 (w : World) : (isAgg 3).run Try.prog w = .ok false w := rfl
theorem ulbnm19 : (Try.f19.name == "runtime.NumGoroutine") = false := by decide
theorem ulbbd19 : Try.f19.body.isNone = false := rfl
theorem ulbnm20 : (Try.f20.name == "runtime.NumGoroutine") = false := by decide
theorem ulbbd20 : Try.f20.body.isNone = false := rfl
theorem ulbfld42_1 (g o : Nat) (w : World) : (Instr.fieldAt 42 (.pointer (some ⟨g, o, none⟩)) 1).run Try.prog w = .ok (.pointer (some ⟨g, o + 1, none⟩)) w := by kernel_rfl
theorem ulbag35 (w : World) : (isAgg 35).run Try.prog w = .ok false w := rfl
theorem ulbfld42_2 (g o : Nat) (w : World) : (Instr.fieldAt 42 (.pointer (some ⟨g, o, none⟩)) 2).run Try.prog w = .ok (.pointer (some ⟨g, o + 2, none⟩)) w := by kernel_rfl
theorem ulbnm17 : (Try.f17.name == "runtime.NumGoroutine") = false := by decide
theorem ulbbd17 : Try.f17.body.isNone = false := rfl
theorem ulbag42 (w : World) : (isAgg 42).run Try.prog w = .ok true w := rfl
theorem ulbzv42 (w : World) : (zeroValue 42).run Try.prog w = .ok (.agg #[.int .i64 0, .int .u32 0, .int .u32 0]) w := rfl
set_option maxHeartbeats 1000000 in
theorem unionBridges_walk (A0 : Option Addr) (n0 c0 : Nat) (l0 : List Int) (w : World) (hb0 : Byt w w.heap.size A0 n0 l0) (hc0 : n0 ≤ c0) (hm0 : c0 ≤ maxLen) :
  Calls Try.prog 5 #[.slice A0 n0 c0] w fun e w' => e = .returned (.bool true) ∧ Below w.heap.size w w' := by
 have hn0 : (n0 : Int) ≤ 9223372036854775807 := by unfold maxLen at hm0; omega
 refine begin_ (vs := [.slice A0 n0 c0]) Try.func5 rfl rfl rfl ?_ (Pm.start w)
 refine TC.seq_ (TC.region ?_)
 refine TL.val rfl rfl rfl (gives_assign rfl rfl) ?_
 refine TL.end_ (TX.then_ (TC.seq_ (TC.seq_ (TC.region ?_))))
 refine TL.pcall1 (r := .bool true) rfl rfl rfl rfl rfl Try.func8 ulbnm8 ulbbd8 (fun w1 hw => awake_true w1) ?_
 refine TL.val rfl rfl rfl (gives_boolnot rfl rfl) ?_
 refine TL.end_ (TX.then_ (TC.condF rfl (TC.skip_ (TX.then_ (TC.seq_ (TC.region ?_))))))
 refine TL.val rfl rfl rfl (gives_move rfl rfl) ?_
 refine TL.callNew (I := Pm w []) (p := fun cb w => Cod w cb) rfl rfl rfl rfl rfl Try.func9 ulbnm9 ulbbd9 (fun w1 hw => (roll_any A0 n0 c0 l0 w1 ((hb0.below hw.bel).more hw.bel.size) hc0 hn0).mono fun e w2 ⟨h1, h2, h3⟩ => ⟨h1, h2, cod_cells h2, h3⟩) cod_stab (fun wn hwn => ?_)
 have hwb := hwn.bel
 refine TL.val rfl rfl rfl (gives_assign rfl rfl) ?_
 refine TL.end_ (TX.then_ (TC.seq_ (TC.region ?_)))
 refine TL.val rfl rfl rfl (gives_move rfl rfl) ?_
 refine TL.pcallCod (k := 0) (α := {y : (Option Addr × Nat) × List Fc // validF y.2 ∧ (∀ f ∈ y.2, f.Ok) ∧ y.2.length ≤ 14 ∧ y.2.length ≤ y.1.2 ∧ y.1.2 ≤ maxLen}) (fun y => .slice y.1.1.1 y.1.2.length y.1.1.2) (fun y => [.row (.slice y.1.1.1 y.1.2.length y.1.1.2) 42 3 y.1.2.length (fcs y.1.2)]) rfl rfl rfl rfl rfl Try.func10 ulbnm10 ulbbd10 rfl (fun w1 hw hC1 => facts_cod wn.heap.size w1 hC1 14 (by decide)) ?_
 rintro ⟨⟨⟨Ax, cx⟩, x⟩, hV, hok, hxm, hxc, hxd⟩
 dsimp only [List.cons_append, List.nil_append]
 dsimp only at hV hok hxm hxc hxd ⊢
 refine TL.val rfl rfl rfl (gives_assign rfl rfl) ?_
 refine TL.end_ (TX.then_ (TC.seq_ (TC.region ?_)))
 refine TL.val rfl rfl rfl (gives_move rfl rfl) ?_
 refine TL.pcallRow (n := (forest x).length) (ys := fcs (forest x)) rfl rfl rfl rfl rfl Try.func12 ulbnm12 ulbbd12 (fun w1 hw => by have h9 := forest_any Ax x.length cx x w1 (by obtain ⟨B9, h8⟩ := pm_reads hw (k := 0) rfl; exact reads_up h8 (pm_row_lt hw (k := 0) rfl)) rfl hok; rw [show forV x = forest x from if_pos hV] at h9; exact h9) (fun AF21 cF21 hF211 hF212 => ?_)
 refine TL.val rfl rfl rfl (gives_assign rfl rfl) ?_
 refine TL.end_ (TX.then_ (TC.seq_ (TC.seq_ (TC.region ?_))))
 refine TL.val rfl rfl rfl (gives_move rfl rfl) ?_
 refine TL.val rfl rfl rfl (gives_len rfl Try.underlying26 rfl) ?_
 refine TL.val rfl rfl rfl (gives_move rfl rfl) ?_
 refine TL.end_ (TX.then_ (TC.block ?_))
 refine TC.loop_ (α := {i : Nat // i ≤ x.length}) (fun y => [(3, .pointer (some ⟨wn.heap.size, 0, none⟩)), (4, .slice Ax x.length cx), (5, .slice AF21 ((forest x).length) cF21), (23, .int .i64 (x.length : Nat)), (24, .int .i64 ((y.1 : Nat) : Int))]) (fun y => Pm wn [.row (.slice AF21 ((forest x).length) cF21) 42 3 ((forest x).length) (fcs (forest x)), .row (.slice Ax x.length cx) 42 3 x.length (fcs x), .abs wn.heap.size (fun w => Cod w wn.heap.size)]) (fun y => x.length - y.1) (⟨0, Nat.zero_le _⟩) ⟨rfl, rfl, rfl, rfl, rfl, trivial⟩ (fun w1 hw => hw) ?_
 rintro ⟨i, hi⟩
 try dsimp only
 refine TC.seq_ (TC.region ?_)
 refine TL.vsplit rfl rfl rfl (gives_bin rfl rfl rfl (fun w => bin_lss w)) (fun h25 => ?_) (fun h25 => ?_)
 ·have q25 := of_decide_eq_true h25
  have hi2 : i < x.length := by omega
  obtain ⟨f, hf⟩ : ∃ f, x[i]? = some f := ⟨_, List.getElem?_eq_getElem hi2⟩
  have hfm := List.mem_of_getElem? hf
  have hfo := hok f hfm
  have hfi : ixF x f.id = some i := ix_at hV.asc hf
  have hrp : remP x f.id = (x.eraseIdx i, 0) := by unfold remP; rw [if_pos hV, hfi]
  refine TL.fact (p := ∃ g, Ax = some ⟨g, 0, none⟩) (fun w1 hw => rowA hw (k := 1) rfl (by omega)) ?_
  rintro ⟨gx, rfl⟩
  refine TL.end_ (TX.then_ (TC.seq_ (TC.condT rfl (TC.skip_ (TX.then_ (TC.seq_ (TC.block (TC.seq_ (TC.region ?_)))))))))
  refine TL.val rfl rfl rfl (gives_move rfl rfl) ?_
  refine TL.val rfl rfl rfl (gives_assign rfl rfl) ?_
  refine TL.end_ (TX.then_ (TC.seq_ (TC.region ?_)))
  refine TL.val rfl rfl rfl (gives_move rfl rfl) ?_
  refine TL.val rfl rfl rfl (gives_move rfl rfl) ?_
  refine TL.val rfl rfl rfl (gives_move rfl rfl) ?_
  refine TL.val rfl rfl rfl (gives_at (v := .pointer (some ⟨gx, 0 + i * 3, none⟩)) rfl rfl rfl (fun w => at_el Try.underlying26 ulbsz42 rfl _ _ i hi2 rfl w)) ?_
  refine TL.val rfl rfl rfl (gives_field (v := .pointer (some ⟨gx, 0 + i * 3 + 0, none⟩)) rfl rfl (fun w => ulbfld42_0 _ _ w)) ?_
  refine TL.val rfl rfl rfl (gives_load (v := .int .i64 f.id) rfl rfl ulbag3 (fun w1 hw => fc_row hw (k := 1) (i := i) rfl hf 0 _ rfl)) ?_
  refine TL.pcallPm (α := {y : Bool × Int // BrOk x f.id y}) (fun y => .tuple #[.bool y.1.1, .int .i64 y.1.2]) (fun _ => []) rfl rfl rfl rfl rfl Try.func19 ulbnm19 ulbbd19 (fun w1 hw => (bridge_any (some ⟨gx, 0, none⟩) x.length cx x w1 (by obtain ⟨B9, h8⟩ := pm_reads hw (k := 1) rfl; exact reads_up h8 (pm_row_lt hw (k := 1) rfl)) rfl hok f.id).mono fun e w2 ⟨x, h1, h2⟩ => ⟨x, h1, (Pm.start w1).below h2⟩) ?_
  rintro ⟨⟨b, e⟩, hbr⟩
  dsimp only [List.cons_append, List.nil_append] at hbr ⊢
  obtain ⟨he, hbi⟩ : e = 0 ∧ (b = true ↔ ¬ (validF (x.eraseIdx i) ∧ repF (x.eraseIdx i) f.a = repF (x.eraseIdx i) f.b)) := br_at hbr hrp hfi hf
  subst he
  iterate 5 (first | refine TL.val rfl rfl rfl (gives_assign rfl rfl) ?_ | refine TL.val rfl rfl rfl (gives_extract rfl rfl rfl) ?_ | refine TL.val rfl rfl rfl (gives_move rfl rfl) ?_)
  refine TL.end_ (TX.then_ (TC.seq_ (TC.region ?_)))
  refine TL.val rfl rfl rfl (gives_move rfl rfl) ?_
  refine TL.val rfl rfl rfl (gives_move rfl rfl) ?_
  refine TL.val rfl rfl rfl (gives_move rfl rfl) ?_
  refine TL.val rfl rfl rfl (gives_at (v := .pointer (some ⟨gx, 0 + i * 3, none⟩)) rfl rfl rfl (fun w => at_el Try.underlying26 ulbsz42 rfl _ _ i hi2 rfl w)) ?_
  refine TL.val rfl rfl rfl (gives_field (v := .pointer (some ⟨gx, 0 + i * 3 + 0, none⟩)) rfl rfl (fun w => ulbfld42_0 _ _ w)) ?_
  refine TL.val rfl rfl rfl (gives_load (v := .int .i64 f.id) rfl rfl ulbag3 (fun w1 hw => fc_row hw (k := 1) (i := i) rfl hf 0 _ rfl)) ?_
  refine TL.pcallPm (α := {y : (Option Addr × Nat) × List Fc × Int // y.2 = remP x f.id ∧ y.2.1.length ≤ y.1.2 ∧ y.1.2 ≤ maxLen}) (fun y => .tuple #[.slice y.1.1.1 y.1.2.1.length y.1.1.2, .int .i64 y.1.2.2]) (fun y => [.row (.slice y.1.1.1 y.1.2.1.length y.1.1.2) 42 3 y.1.2.1.length (fcs y.1.2.1)]) rfl rfl rfl rfl rfl Try.func20 ulbnm20 ulbbd20 (fun w1 hw => rem_any (some ⟨gx, 0, none⟩) x.length cx x w1 (by obtain ⟨B9, h8⟩ := pm_reads hw (k := 1) rfl; exact reads_up h8 (pm_row_lt hw (k := 1) rfl)) rfl f.id) ?_
  rintro ⟨⟨⟨AR, cR⟩, rm, er⟩, hrm, hrm1, hrm2⟩
  dsimp only [List.cons_append, List.nil_append] at hrm hrm1 hrm2 ⊢
  rw [hrp] at hrm
  obtain ⟨hrm3, he2⟩ := Prod.mk.inj hrm
  subst he2
  rw [← hrm3] at hbi
  have hokr : ∀ f ∈ rm, f.Ok := by rw [hrm3]; exact fun g hg => hok g (List.mem_of_mem_eraseIdx hg)
  iterate 5 (first | refine TL.val rfl rfl rfl (gives_assign rfl rfl) ?_ | refine TL.val rfl rfl rfl (gives_extract rfl rfl rfl) ?_ | refine TL.val rfl rfl rfl (gives_move rfl rfl) ?_)
  refine TL.end_ (TX.then_ (TC.seq_ (TC.seq_ ?_)))
  rcases Classical.em (validF rm ∧ repF rm f.a = repF rm f.b) with hs | hs
  ·obtain rfl : b = false := by cases b with | false => rfl | true => exact absurd hs (hbi.1 rfl)
   refine TC.quiet_ (E' := ?_) (by kernel_rfl) (by kernel_rfl) (fun w hw => hw.drawn _) ?_ ?_
   rotate_left
   ·refine TQ.val rfl rfl rfl (gives_move rfl rfl) ?_
    refine TQ.val rfl rfl rfl (gives_bin rfl rfl rfl (fun w => bin_neq_f (rfl) w)) ?_
    iterate 4 (first | refine TQ.val rfl rfl rfl (gives_move rfl rfl) ?_ | refine TQ.on rfl rfl rfl ?_)
    refine TQ.val rfl rfl rfl (gives_bin rfl rfl rfl (fun w => bin_neq_f (rfl) w)) ?_
    iterate 11 (first | refine TQ.val rfl rfl rfl (gives_move rfl rfl) ?_ | refine TQ.on rfl rfl rfl ?_ | refine TQ.val rfl rfl rfl (gives_pick rfl rfl rfl) ?_)
    refine TQ.val rfl rfl rfl (gives_at (v := .pointer (some ⟨gx, 0 + i * 3, none⟩)) rfl rfl rfl (fun w => at_el Try.underlying26 ulbsz42 rfl _ _ i hi2 rfl w)) ?_
    refine TQ.on rfl rfl rfl ?_
    refine TQ.val rfl rfl rfl (gives_field (v := .pointer (some ⟨gx, 0 + i * 3 + 1, none⟩)) rfl rfl (fun w => ulbfld42_1 _ _ w)) ?_
    refine TQ.on rfl rfl rfl ?_
    refine TQ.val rfl rfl rfl (gives_load (v := .int .u32 f.a) rfl rfl ulbag35 (fun w1 hw => fc_row hw (k := 2) (i := i) rfl hf 1 _ rfl)) ?_
    iterate 5 (first | refine TQ.on rfl rfl rfl ?_ | refine TQ.val rfl rfl rfl (gives_move rfl rfl) ?_)
    refine TQ.val rfl rfl rfl (gives_at (v := .pointer (some ⟨gx, 0 + i * 3, none⟩)) rfl rfl rfl (fun w => at_el Try.underlying26 ulbsz42 rfl _ _ i hi2 rfl w)) ?_
    refine TQ.on rfl rfl rfl ?_
    refine TQ.val rfl rfl rfl (gives_field (v := .pointer (some ⟨gx, 0 + i * 3 + 2, none⟩)) rfl rfl (fun w => ulbfld42_2 _ _ w)) ?_
    refine TQ.on rfl rfl rfl ?_
    refine TQ.val rfl rfl rfl (gives_load (v := .int .u32 f.b) rfl rfl ulbag35 (fun w1 hw => fc_row hw (k := 2) (i := i) rfl hf 2 _ rfl)) ?_
    refine TQ.on rfl rfl rfl ?_
    refine TQ.call (v := .bool true) rfl rfl rfl rfl rfl Try.func17 ulbnm17 ulbbd17 (fun w1 hw => (same_is AR _ cR rm w1 (by obtain ⟨B9, h8⟩ := pm_reads hw (k := 0) rfl; exact reads_up h8 (pm_row_lt hw (k := 0) rfl)) rfl hokr f.a f.b ⟨hfo.1, hfo.2.1⟩ ⟨hfo.2.2.1, hfo.2.2.2⟩ (decide_eq_true hs)).mono fun en w2 ⟨h1, h2⟩ => ⟨h1, hw.below h2⟩) ?_
    refine TQ.on rfl rfl rfl ?_
    refine TQ.val rfl rfl rfl (gives_bin2 (v := .bool false) rfl rfl rfl (fun w => bin_eqb Try.underlying4 false true w)) ?_
    refine TQ.val rfl rfl rfl (gives_pick rfl rfl rfl) ?_
    exact TQ.end_
   refine TX.then_ (TC.condF rfl (TC.skip_ (TX.then_ (TC.seq_ (TC.region ?_)))))
   refine TL.val rfl rfl rfl (gives_assign rfl rfl) ?_
   refine TL.end_ (TX.then_ (TC.seq_ (TC.seq_ (TC.region ?_))))
   refine TL.val rfl rfl rfl (gives_move rfl rfl) ?_
   refine TL.val rfl rfl rfl (gives_len rfl Try.underlying26 rfl) ?_
   refine TL.val rfl rfl rfl (gives_move rfl rfl) ?_
   refine TL.end_ (TX.then_ (TC.block ?_))
   refine TC.loop_ (α := {y : Nat × Bool // y.1 ≤ (forest x).length ∧ (y.2 = true ↔ f ∈ (forest x).take y.1)}) (fun y => [(3, .pointer (some ⟨wn.heap.size, 0, none⟩)), (4, .slice (some ⟨gx, 0, none⟩) x.length cx), (5, .slice AF21 ((forest x).length) cF21), (6, .int .i64 ((i : Nat) : Int)), (7, .bool false), (23, .int .i64 (x.length : Nat)), (24, .int .i64 ((i : Nat) : Int)), (69, .slice AF21 ((forest x).length) cF21), (70, .int .i64 ((forest x).length : Nat)), (71, .int .i64 ((y.1.1 : Nat) : Int)), (11, .bool y.1.2)]) (fun y => Pm wn [.row (.slice AR rm.length cR) 42 3 rm.length (fcs rm), .row (.slice AF21 ((forest x).length) cF21) 42 3 ((forest x).length) (fcs (forest x)), .row (.slice (some ⟨gx, 0, none⟩) x.length cx) 42 3 x.length (fcs x), .abs wn.heap.size (fun w => Cod w wn.heap.size)]) (fun y => (forest x).length - y.1.1) (⟨(0, false), Nat.zero_le _, iff_of_false (by simp) (by simp)⟩) ⟨rfl, rfl, rfl, rfl, rfl, rfl, rfl, rfl, rfl, rfl, rfl, trivial⟩ (fun w1 hw => hw) ?_
   rintro ⟨⟨j, fl⟩, hj, hfl⟩
   dsimp only at hj hfl ⊢
   refine TC.seq_ (TC.region ?_)
   refine TL.vsplit rfl rfl rfl (gives_bin rfl rfl rfl (fun w => bin_lss w)) (fun h72 => ?_) (fun h72 => ?_)
   ·have q72 := of_decide_eq_true h72
    have hfl9 := forest_le x
    have hj2 : j < (forest x).length := by omega
    obtain ⟨y, hy⟩ : ∃ y, (forest x)[j]? = some y := ⟨_, List.getElem?_eq_getElem hj2⟩
    have htk : (forest x).take (j + 1) = (forest x).take j ++ [y] := by rw [List.take_add_one, hy]; rfl
    refine TL.fact (p := ∃ g, AF21 = some ⟨g, 0, none⟩) (fun w1 hw => rowA hw (k := 1) rfl (by omega)) ?_
    rintro ⟨gF, rfl⟩
    refine TL.end_ (TX.then_ (TC.seq_ (TC.condT rfl (TC.skip_ (TX.then_ (TC.seq_ (TC.block (TC.seq_ (TC.region ?_)))))))))
    refine TL.val rfl rfl rfl (gives_at (v := .pointer (some ⟨gF, 0 + j * 3, none⟩)) rfl rfl rfl (fun w => at_el Try.underlying26 ulbsz42 rfl _ _ j hj2 rfl w)) ?_
    refine TL.val rfl rfl rfl (gives_loadR (off := 0 + j * 3) rfl rfl ulbag42 ulbsz42 (fc_cells_len y) (fun w1 hw q u hu => fc_row hw (k := 1) (i := j) rfl hy q u hu)) ?_
    refine TL.pnew rfl rfl rfl (exec_alloc (cs := [.int .i64 0, .int .u32 0, .int .u32 0]) rfl ulbzv42 rfl) (fun g13 => ?_)
    refine TL.pstore (k := 0) (vs := y.cells) rfl rfl rfl rfl rfl rfl rfl ulbsz42 (fc_one y) (by show 3 ≤ 3; decide) (L' := [.blk g13 42 y.cells, .row (.slice AR rm.length cR) 42 3 rm.length (fcs rm), .row (.slice (some ⟨gF, 0, none⟩) ((forest x).length) cF21) 42 3 ((forest x).length) (fcs (forest x)), .row (.slice (some ⟨gx, 0, none⟩) x.length cx) 42 3 x.length (fcs x), .abs wn.heap.size (fun w => Cod w wn.heap.size)]) rfl ?_
    refine TL.end_ (TX.then_ ?_)
    cases fl with
    | true =>
     have hfl2 : true = true ↔ f ∈ (forest x).take (j + 1) := by rw [htk, List.mem_append]; exact iff_of_true rfl (.inl (hfl.1 rfl))
     refine TC.quiet_ (E' := ?_) (by kernel_rfl) (by kernel_rfl) (fun w hw => hw.drawn _) ?_ ?_
     rotate_left
     ·iterate 9 (first | refine TQ.off rfl rfl rfl rfl rfl rfl ?_ | refine TQ.val rfl rfl rfl (gives_move rfl rfl) ?_ | refine TQ.val rfl rfl rfl (gives_pick rfl rfl rfl) ?_)
      refine TQ.val rfl rfl rfl (gives_assign rfl rfl) ?_
      exact TQ.end_
     refine TX.in_normal (TX.then_ (TC.region ?_))
     refine TL.val rfl rfl rfl (gives_bin rfl rfl rfl (fun w => bin_add_ (r := ((j + 1 : Nat) : Int)) (by simp only [IntKind.wrap_i64]; omega) w)) ?_
     refine TL.val rfl rfl rfl (gives_move rfl rfl) ?_
     refine TL.end_ ?_
     exact TX.round (⟨(j + 1, true), hj2, hfl2⟩) (by show (forest x).length - (j + 1) < (forest x).length - j; omega) ⟨rfl, rfl, rfl, rfl, rfl, rfl, rfl, rfl, rfl, rfl, rfl, trivial⟩ (fun w1 hw => hw.tail)
    | false =>
     rcases Classical.em (y = f) with hgf | hgf
     ·have hfl2 : true = true ↔ f ∈ (forest x).take (j + 1) := by rw [htk, List.mem_append, List.mem_singleton]; exact iff_of_true rfl (.inr hgf.symm)
      refine TC.quiet_ (E' := ?_) (by kernel_rfl) (by kernel_rfl) (fun w hw => hw.drawn _) ?_ ?_
      rotate_left
      ·refine TQ.val rfl rfl rfl (gives_move rfl rfl) ?_
       refine TQ.val rfl rfl rfl (gives_move rfl rfl) ?_
       refine TQ.on rfl rfl rfl ?_
       refine TQ.val rfl rfl rfl (pm_loadV (k := 0) (i := 0) (n := 3) (v := .agg (y.cells).toArray) rfl rfl ulbag42 ulbsz42 rfl (by show 3 ≤ 3; decide) rfl) ?_
       iterate 5 (first | refine TQ.on rfl rfl rfl ?_ | refine TQ.val rfl rfl rfl (gives_move rfl rfl) ?_)
       refine TQ.val rfl rfl rfl (gives_at (v := .pointer (some ⟨gx, 0 + i * 3, none⟩)) rfl rfl rfl (fun w => at_el Try.underlying26 ulbsz42 rfl _ _ i hi2 rfl w)) ?_
       refine TQ.on rfl rfl rfl ?_
       refine TQ.val rfl rfl rfl (gives_loadR (off := 0 + i * 3) rfl rfl ulbag42 ulbsz42 (fc_cells_len f) (fun w1 hw q u hu => fc_row hw (k := 3) (i := i) rfl hf q u hu)) ?_
       refine TQ.on rfl rfl rfl ?_
       refine TQ.val rfl rfl rfl (gives_bin2 (v := .bool true) rfl rfl rfl (fun w => fc_eql_is (by exact decide_eq_true hgf) _ _ w)) ?_
       refine TQ.val rfl rfl rfl (gives_pick rfl rfl rfl) ?_
       refine TQ.val rfl rfl rfl (gives_assign rfl rfl) ?_
       exact TQ.end_
      refine TX.in_normal (TX.then_ (TC.region ?_))
      refine TL.val rfl rfl rfl (gives_bin rfl rfl rfl (fun w => bin_add_ (r := ((j + 1 : Nat) : Int)) (by simp only [IntKind.wrap_i64]; omega) w)) ?_
      refine TL.val rfl rfl rfl (gives_move rfl rfl) ?_
      refine TL.end_ ?_
      exact TX.round (⟨(j + 1, true), hj2, hfl2⟩) (by show (forest x).length - (j + 1) < (forest x).length - j; omega) ⟨rfl, rfl, rfl, rfl, rfl, rfl, rfl, rfl, rfl, rfl, rfl, trivial⟩ (fun w1 hw => hw.tail)
     ·have hfl2 : false = true ↔ f ∈ (forest x).take (j + 1) := by rw [htk, List.mem_append, List.mem_singleton]; exact iff_of_false (by simp) (fun hh => hh.elim (fun h1 => by have := hfl.2 h1; simp at this) (fun h1 => hgf h1.symm))
      refine TC.quiet_ (E' := ?_) (by kernel_rfl) (by kernel_rfl) (fun w hw => hw.drawn _) ?_ ?_
      rotate_left
      ·refine TQ.val rfl rfl rfl (gives_move rfl rfl) ?_
       refine TQ.val rfl rfl rfl (gives_move rfl rfl) ?_
       refine TQ.on rfl rfl rfl ?_
       refine TQ.val rfl rfl rfl (pm_loadV (k := 0) (i := 0) (n := 3) (v := .agg (y.cells).toArray) rfl rfl ulbag42 ulbsz42 rfl (by show 3 ≤ 3; decide) rfl) ?_
       iterate 5 (first | refine TQ.on rfl rfl rfl ?_ | refine TQ.val rfl rfl rfl (gives_move rfl rfl) ?_)
       refine TQ.val rfl rfl rfl (gives_at (v := .pointer (some ⟨gx, 0 + i * 3, none⟩)) rfl rfl rfl (fun w => at_el Try.underlying26 ulbsz42 rfl _ _ i hi2 rfl w)) ?_
       refine TQ.on rfl rfl rfl ?_
       refine TQ.val rfl rfl rfl (gives_loadR (off := 0 + i * 3) rfl rfl ulbag42 ulbsz42 (fc_cells_len f) (fun w1 hw q u hu => fc_row hw (k := 3) (i := i) rfl hf q u hu)) ?_
       refine TQ.on rfl rfl rfl ?_
       refine TQ.val rfl rfl rfl (gives_bin2 (v := .bool false) rfl rfl rfl (fun w => fc_eql_is (by exact decide_eq_false hgf) _ _ w)) ?_
       refine TQ.val rfl rfl rfl (gives_pick rfl rfl rfl) ?_
       refine TQ.val rfl rfl rfl (gives_assign rfl rfl) ?_
       exact TQ.end_
      refine TX.in_normal (TX.then_ (TC.region ?_))
      refine TL.val rfl rfl rfl (gives_bin rfl rfl rfl (fun w => bin_add_ (r := ((j + 1 : Nat) : Int)) (by simp only [IntKind.wrap_i64]; omega) w)) ?_
      refine TL.val rfl rfl rfl (gives_move rfl rfl) ?_
      refine TL.end_ ?_
      exact TX.round (⟨(j + 1, false), hj2, hfl2⟩) (by show (forest x).length - (j + 1) < (forest x).length - j; omega) ⟨rfl, rfl, rfl, rfl, rfl, rfl, rfl, rfl, rfl, rfl, rfl, trivial⟩ (fun w1 hw => hw.tail)
   ·have q72 := of_decide_eq_false h72
    have hfl3 : fl = true ↔ f ∈ forest x := by rw [List.take_of_length_le (by omega)] at hfl; exact hfl
    refine TL.end_ (TX.then_ (TC.seq_ (TC.condF rfl (TC.exit_ (TX.then_exit (TX.then_exit (TX.in_same (TX.then_ (TC.seq_ (TC.region ?_))))))))))
    iterate 5 (first | refine TL.off rfl rfl rfl rfl rfl rfl ?_ | refine TL.val rfl rfl rfl (gives_move rfl rfl) ?_ | refine TL.val rfl rfl rfl (gives_pick rfl rfl rfl) ?_)
    refine TL.end_ (TX.then_ (TC.condF rfl (TC.skip_ (TX.in_normal (TX.then_ (TC.region ?_))))))
    refine TL.val rfl rfl rfl (gives_bin rfl rfl rfl (fun w => bin_add_ (r := ((i + 1 : Nat) : Int)) (by simp only [IntKind.wrap_i64]; omega) w)) ?_
    refine TL.val rfl rfl rfl (gives_move rfl rfl) ?_
    refine TL.end_ ?_
    exact TX.round (⟨i + 1, hi2⟩) (by show x.length - (i + 1) < x.length - i; omega) ⟨rfl, rfl, rfl, rfl, rfl, trivial⟩ (fun w1 hw => hw.pick [1, 2, 3] (by decide) rfl)
  ·obtain rfl : b = true := hbi.2 hs
   refine TC.quiet_ (E' := ?_) (by kernel_rfl) (by kernel_rfl) (fun w hw => hw.drawn _) ?_ ?_
   rotate_left
   ·refine TQ.val rfl rfl rfl (gives_move rfl rfl) ?_
    refine TQ.val rfl rfl rfl (gives_bin rfl rfl rfl (fun w => bin_neq_f (rfl) w)) ?_
    iterate 4 (first | refine TQ.val rfl rfl rfl (gives_move rfl rfl) ?_ | refine TQ.on rfl rfl rfl ?_)
    refine TQ.val rfl rfl rfl (gives_bin rfl rfl rfl (fun w => bin_neq_f (rfl) w)) ?_
    iterate 11 (first | refine TQ.val rfl rfl rfl (gives_move rfl rfl) ?_ | refine TQ.on rfl rfl rfl ?_ | refine TQ.val rfl rfl rfl (gives_pick rfl rfl rfl) ?_)
    refine TQ.val rfl rfl rfl (gives_at (v := .pointer (some ⟨gx, 0 + i * 3, none⟩)) rfl rfl rfl (fun w => at_el Try.underlying26 ulbsz42 rfl _ _ i hi2 rfl w)) ?_
    refine TQ.on rfl rfl rfl ?_
    refine TQ.val rfl rfl rfl (gives_field (v := .pointer (some ⟨gx, 0 + i * 3 + 1, none⟩)) rfl rfl (fun w => ulbfld42_1 _ _ w)) ?_
    refine TQ.on rfl rfl rfl ?_
    refine TQ.val rfl rfl rfl (gives_load (v := .int .u32 f.a) rfl rfl ulbag35 (fun w1 hw => fc_row hw (k := 2) (i := i) rfl hf 1 _ rfl)) ?_
    iterate 5 (first | refine TQ.on rfl rfl rfl ?_ | refine TQ.val rfl rfl rfl (gives_move rfl rfl) ?_)
    refine TQ.val rfl rfl rfl (gives_at (v := .pointer (some ⟨gx, 0 + i * 3, none⟩)) rfl rfl rfl (fun w => at_el Try.underlying26 ulbsz42 rfl _ _ i hi2 rfl w)) ?_
    refine TQ.on rfl rfl rfl ?_
    refine TQ.val rfl rfl rfl (gives_field (v := .pointer (some ⟨gx, 0 + i * 3 + 2, none⟩)) rfl rfl (fun w => ulbfld42_2 _ _ w)) ?_
    refine TQ.on rfl rfl rfl ?_
    refine TQ.val rfl rfl rfl (gives_load (v := .int .u32 f.b) rfl rfl ulbag35 (fun w1 hw => fc_row hw (k := 2) (i := i) rfl hf 2 _ rfl)) ?_
    refine TQ.on rfl rfl rfl ?_
    refine TQ.call (v := .bool false) rfl rfl rfl rfl rfl Try.func17 ulbnm17 ulbbd17 (fun w1 hw => (same_is AR _ cR rm w1 (by obtain ⟨B9, h8⟩ := pm_reads hw (k := 0) rfl; exact reads_up h8 (pm_row_lt hw (k := 0) rfl)) rfl hokr f.a f.b ⟨hfo.1, hfo.2.1⟩ ⟨hfo.2.2.1, hfo.2.2.2⟩ (decide_eq_false hs)).mono fun en w2 ⟨h1, h2⟩ => ⟨h1, hw.below h2⟩) ?_
    refine TQ.on rfl rfl rfl ?_
    refine TQ.val rfl rfl rfl (gives_bin2 (v := .bool false) rfl rfl rfl (fun w => bin_eqb Try.underlying4 true false w)) ?_
    refine TQ.val rfl rfl rfl (gives_pick rfl rfl rfl) ?_
    exact TQ.end_
   refine TX.then_ (TC.condF rfl (TC.skip_ (TX.then_ (TC.seq_ (TC.region ?_)))))
   refine TL.val rfl rfl rfl (gives_assign rfl rfl) ?_
   refine TL.end_ (TX.then_ (TC.seq_ (TC.seq_ (TC.region ?_))))
   refine TL.val rfl rfl rfl (gives_move rfl rfl) ?_
   refine TL.val rfl rfl rfl (gives_len rfl Try.underlying26 rfl) ?_
   refine TL.val rfl rfl rfl (gives_move rfl rfl) ?_
   refine TL.end_ (TX.then_ (TC.block ?_))
   refine TC.loop_ (α := {y : Nat × Bool // y.1 ≤ (forest x).length ∧ (y.2 = true ↔ f ∈ (forest x).take y.1)}) (fun y => [(3, .pointer (some ⟨wn.heap.size, 0, none⟩)), (4, .slice (some ⟨gx, 0, none⟩) x.length cx), (5, .slice AF21 ((forest x).length) cF21), (6, .int .i64 ((i : Nat) : Int)), (7, .bool true), (23, .int .i64 (x.length : Nat)), (24, .int .i64 ((i : Nat) : Int)), (69, .slice AF21 ((forest x).length) cF21), (70, .int .i64 ((forest x).length : Nat)), (71, .int .i64 ((y.1.1 : Nat) : Int)), (11, .bool y.1.2)]) (fun y => Pm wn [.row (.slice AR rm.length cR) 42 3 rm.length (fcs rm), .row (.slice AF21 ((forest x).length) cF21) 42 3 ((forest x).length) (fcs (forest x)), .row (.slice (some ⟨gx, 0, none⟩) x.length cx) 42 3 x.length (fcs x), .abs wn.heap.size (fun w => Cod w wn.heap.size)]) (fun y => (forest x).length - y.1.1) (⟨(0, false), Nat.zero_le _, iff_of_false (by simp) (by simp)⟩) ⟨rfl, rfl, rfl, rfl, rfl, rfl, rfl, rfl, rfl, rfl, rfl, trivial⟩ (fun w1 hw => hw) ?_
   rintro ⟨⟨j, fl⟩, hj, hfl⟩
   dsimp only at hj hfl ⊢
   refine TC.seq_ (TC.region ?_)
   refine TL.vsplit rfl rfl rfl (gives_bin rfl rfl rfl (fun w => bin_lss w)) (fun h72 => ?_) (fun h72 => ?_)
   ·have q72 := of_decide_eq_true h72
    have hfl9 := forest_le x
    have hj2 : j < (forest x).length := by omega
    obtain ⟨y, hy⟩ : ∃ y, (forest x)[j]? = some y := ⟨_, List.getElem?_eq_getElem hj2⟩
    have htk : (forest x).take (j + 1) = (forest x).take j ++ [y] := by rw [List.take_add_one, hy]; rfl
    refine TL.fact (p := ∃ g, AF21 = some ⟨g, 0, none⟩) (fun w1 hw => rowA hw (k := 1) rfl (by omega)) ?_
    rintro ⟨gF, rfl⟩
    refine TL.end_ (TX.then_ (TC.seq_ (TC.condT rfl (TC.skip_ (TX.then_ (TC.seq_ (TC.block (TC.seq_ (TC.region ?_)))))))))
    refine TL.val rfl rfl rfl (gives_at (v := .pointer (some ⟨gF, 0 + j * 3, none⟩)) rfl rfl rfl (fun w => at_el Try.underlying26 ulbsz42 rfl _ _ j hj2 rfl w)) ?_
    refine TL.val rfl rfl rfl (gives_loadR (off := 0 + j * 3) rfl rfl ulbag42 ulbsz42 (fc_cells_len y) (fun w1 hw q u hu => fc_row hw (k := 1) (i := j) rfl hy q u hu)) ?_
    refine TL.pnew rfl rfl rfl (exec_alloc (cs := [.int .i64 0, .int .u32 0, .int .u32 0]) rfl ulbzv42 rfl) (fun g13 => ?_)
    refine TL.pstore (k := 0) (vs := y.cells) rfl rfl rfl rfl rfl rfl rfl ulbsz42 (fc_one y) (by show 3 ≤ 3; decide) (L' := [.blk g13 42 y.cells, .row (.slice AR rm.length cR) 42 3 rm.length (fcs rm), .row (.slice (some ⟨gF, 0, none⟩) ((forest x).length) cF21) 42 3 ((forest x).length) (fcs (forest x)), .row (.slice (some ⟨gx, 0, none⟩) x.length cx) 42 3 x.length (fcs x), .abs wn.heap.size (fun w => Cod w wn.heap.size)]) rfl ?_
    refine TL.end_ (TX.then_ ?_)
    cases fl with
    | true =>
     have hfl2 : true = true ↔ f ∈ (forest x).take (j + 1) := by rw [htk, List.mem_append]; exact iff_of_true rfl (.inl (hfl.1 rfl))
     refine TC.quiet_ (E' := ?_) (by kernel_rfl) (by kernel_rfl) (fun w hw => hw.drawn _) ?_ ?_
     rotate_left
     ·iterate 9 (first | refine TQ.off rfl rfl rfl rfl rfl rfl ?_ | refine TQ.val rfl rfl rfl (gives_move rfl rfl) ?_ | refine TQ.val rfl rfl rfl (gives_pick rfl rfl rfl) ?_)
      refine TQ.val rfl rfl rfl (gives_assign rfl rfl) ?_
      exact TQ.end_
     refine TX.in_normal (TX.then_ (TC.region ?_))
     refine TL.val rfl rfl rfl (gives_bin rfl rfl rfl (fun w => bin_add_ (r := ((j + 1 : Nat) : Int)) (by simp only [IntKind.wrap_i64]; omega) w)) ?_
     refine TL.val rfl rfl rfl (gives_move rfl rfl) ?_
     refine TL.end_ ?_
     exact TX.round (⟨(j + 1, true), hj2, hfl2⟩) (by show (forest x).length - (j + 1) < (forest x).length - j; omega) ⟨rfl, rfl, rfl, rfl, rfl, rfl, rfl, rfl, rfl, rfl, rfl, trivial⟩ (fun w1 hw => hw.tail)
    | false =>
     rcases Classical.em (y = f) with hgf | hgf
     ·have hfl2 : true = true ↔ f ∈ (forest x).take (j + 1) := by rw [htk, List.mem_append, List.mem_singleton]; exact iff_of_true rfl (.inr hgf.symm)
      refine TC.quiet_ (E' := ?_) (by kernel_rfl) (by kernel_rfl) (fun w hw => hw.drawn _) ?_ ?_
      rotate_left
      ·refine TQ.val rfl rfl rfl (gives_move rfl rfl) ?_
       refine TQ.val rfl rfl rfl (gives_move rfl rfl) ?_
       refine TQ.on rfl rfl rfl ?_
       refine TQ.val rfl rfl rfl (pm_loadV (k := 0) (i := 0) (n := 3) (v := .agg (y.cells).toArray) rfl rfl ulbag42 ulbsz42 rfl (by show 3 ≤ 3; decide) rfl) ?_
       iterate 5 (first | refine TQ.on rfl rfl rfl ?_ | refine TQ.val rfl rfl rfl (gives_move rfl rfl) ?_)
       refine TQ.val rfl rfl rfl (gives_at (v := .pointer (some ⟨gx, 0 + i * 3, none⟩)) rfl rfl rfl (fun w => at_el Try.underlying26 ulbsz42 rfl _ _ i hi2 rfl w)) ?_
       refine TQ.on rfl rfl rfl ?_
       refine TQ.val rfl rfl rfl (gives_loadR (off := 0 + i * 3) rfl rfl ulbag42 ulbsz42 (fc_cells_len f) (fun w1 hw q u hu => fc_row hw (k := 3) (i := i) rfl hf q u hu)) ?_
       refine TQ.on rfl rfl rfl ?_
       refine TQ.val rfl rfl rfl (gives_bin2 (v := .bool true) rfl rfl rfl (fun w => fc_eql_is (by exact decide_eq_true hgf) _ _ w)) ?_
       refine TQ.val rfl rfl rfl (gives_pick rfl rfl rfl) ?_
       refine TQ.val rfl rfl rfl (gives_assign rfl rfl) ?_
       exact TQ.end_
      refine TX.in_normal (TX.then_ (TC.region ?_))
      refine TL.val rfl rfl rfl (gives_bin rfl rfl rfl (fun w => bin_add_ (r := ((j + 1 : Nat) : Int)) (by simp only [IntKind.wrap_i64]; omega) w)) ?_
      refine TL.val rfl rfl rfl (gives_move rfl rfl) ?_
      refine TL.end_ ?_
      exact TX.round (⟨(j + 1, true), hj2, hfl2⟩) (by show (forest x).length - (j + 1) < (forest x).length - j; omega) ⟨rfl, rfl, rfl, rfl, rfl, rfl, rfl, rfl, rfl, rfl, rfl, trivial⟩ (fun w1 hw => hw.tail)
     ·have hfl2 : false = true ↔ f ∈ (forest x).take (j + 1) := by rw [htk, List.mem_append, List.mem_singleton]; exact iff_of_false (by simp) (fun hh => hh.elim (fun h1 => by have := hfl.2 h1; simp at this) (fun h1 => hgf h1.symm))
      refine TC.quiet_ (E' := ?_) (by kernel_rfl) (by kernel_rfl) (fun w hw => hw.drawn _) ?_ ?_
      rotate_left
      ·refine TQ.val rfl rfl rfl (gives_move rfl rfl) ?_
       refine TQ.val rfl rfl rfl (gives_move rfl rfl) ?_
       refine TQ.on rfl rfl rfl ?_
       refine TQ.val rfl rfl rfl (pm_loadV (k := 0) (i := 0) (n := 3) (v := .agg (y.cells).toArray) rfl rfl ulbag42 ulbsz42 rfl (by show 3 ≤ 3; decide) rfl) ?_
       iterate 5 (first | refine TQ.on rfl rfl rfl ?_ | refine TQ.val rfl rfl rfl (gives_move rfl rfl) ?_)
       refine TQ.val rfl rfl rfl (gives_at (v := .pointer (some ⟨gx, 0 + i * 3, none⟩)) rfl rfl rfl (fun w => at_el Try.underlying26 ulbsz42 rfl _ _ i hi2 rfl w)) ?_
       refine TQ.on rfl rfl rfl ?_
       refine TQ.val rfl rfl rfl (gives_loadR (off := 0 + i * 3) rfl rfl ulbag42 ulbsz42 (fc_cells_len f) (fun w1 hw q u hu => fc_row hw (k := 3) (i := i) rfl hf q u hu)) ?_
       refine TQ.on rfl rfl rfl ?_
       refine TQ.val rfl rfl rfl (gives_bin2 (v := .bool false) rfl rfl rfl (fun w => fc_eql_is (by exact decide_eq_false hgf) _ _ w)) ?_
       refine TQ.val rfl rfl rfl (gives_pick rfl rfl rfl) ?_
       refine TQ.val rfl rfl rfl (gives_assign rfl rfl) ?_
       exact TQ.end_
      refine TX.in_normal (TX.then_ (TC.region ?_))
      refine TL.val rfl rfl rfl (gives_bin rfl rfl rfl (fun w => bin_add_ (r := ((j + 1 : Nat) : Int)) (by simp only [IntKind.wrap_i64]; omega) w)) ?_
      refine TL.val rfl rfl rfl (gives_move rfl rfl) ?_
      refine TL.end_ ?_
      exact TX.round (⟨(j + 1, false), hj2, hfl2⟩) (by show (forest x).length - (j + 1) < (forest x).length - j; omega) ⟨rfl, rfl, rfl, rfl, rfl, rfl, rfl, rfl, rfl, rfl, rfl, trivial⟩ (fun w1 hw => hw.tail)
   ·have q72 := of_decide_eq_false h72
    have hfl3 : fl = true ↔ f ∈ forest x := by rw [List.take_of_length_le (by omega)] at hfl; exact hfl
    refine TL.end_ (TX.then_ (TC.seq_ (TC.condF rfl (TC.exit_ (TX.then_exit (TX.then_exit (TX.in_same (TX.then_ (TC.seq_ ?_)))))))))
    obtain rfl : fl = true := hfl3.2 (br_forest hV hf (by rw [← hrm3]; exact hs))
    refine TC.region ?_
    iterate 7 (first | refine TL.val rfl rfl rfl (gives_move rfl rfl) ?_ | refine TL.on rfl rfl rfl ?_ | refine TL.val rfl rfl rfl (gives_pick rfl rfl rfl) ?_ | refine TL.val rfl rfl rfl (gives_boolnot rfl rfl) ?_)
    refine TL.end_ (TX.then_ (TC.condF rfl (TC.skip_ (TX.in_normal (TX.then_ (TC.region ?_))))))
    refine TL.val rfl rfl rfl (gives_bin rfl rfl rfl (fun w => bin_add_ (r := ((i + 1 : Nat) : Int)) (by simp only [IntKind.wrap_i64]; omega) w)) ?_
    refine TL.val rfl rfl rfl (gives_move rfl rfl) ?_
    refine TL.end_ ?_
    exact TX.round (⟨i + 1, hi2⟩) (by show x.length - (i + 1) < x.length - i; omega) ⟨rfl, rfl, rfl, rfl, rfl, trivial⟩ (fun w1 hw => hw.pick [1, 2, 3] (by decide) rfl)
 ·have q25 := of_decide_eq_false h25
  refine TL.end_ (TX.then_ (TC.seq_ (TC.condF rfl (TC.exit_ (TX.then_exit (TX.then_exit (TX.in_same (TX.then_ (TC.seq_ (TC.region ?_))))))))))
  refine TL.val rfl rfl rfl (gives_assign rfl rfl) ?_
  refine TL.end_ (TX.then_ (TC.ret_ ?_))
  exact ret_tmp Try.results5 rfl (fun w1 hw => ⟨rfl, hwb.trans (hw.bel.mono hwb.size)⟩)
end Go.Proofs.Ytleckflmckbheaa
