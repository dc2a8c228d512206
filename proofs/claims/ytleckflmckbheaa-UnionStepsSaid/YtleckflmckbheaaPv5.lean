/-
  Texts of the proof, joined: UnFor, UnCla, UnSame, UnBri, UnRev, SymMapV, UnWalk, UnExp, UnAwk, UnDraw.
-/
import Derived.Test.YtleckflmckbheaaPv4
import Derived.Test.YtleckflmckbheaaPv2
import Derived.Test.YtleckflmckbheaaPv1
set_option linter.unusedVariables false
set_option linter.unusedSimpArgs false
namespace Go.Proofs.Ytleckflmckbheaa
open Go.RowKit
set_option maxRecDepth 20000
theorem forF_snoc (f : Fc) : ∀ (l : List Fc) (R : Int → Int), forF R (l ++ [f]) = if l.foldl joinR R f.a = l.foldl joinR R f.b then forF R l else forF R l ++ [f]
  | [], R => by
    rw [List.nil_append, forF, forF, forF]
    rfl
  | g :: l, R => by
    rw [List.cons_append, forF, forF]
    by_cases h : R g.a = R g.b
    · rw [if_pos h, if_pos h, forF_snoc f l R, List.foldl_cons, joinR_same h]
    · rw [if_neg h, if_neg h, forF_snoc f l (joinR R g), List.foldl_cons]
      split <;> rfl
theorem forest_snoc (l : List Fc) (f : Fc) : forest (l ++ [f]) = if repF l f.a = repF l f.b then forest l else forest l ++ [f] := forF_snoc f l _
theorem forest_le (l : List Fc) : (forest l).length ≤ l.length := forF_len l _
noncomputable def forV (l : List Fc) : List Fc := if validF l then forest l else []
theorem unfsz42 (w : World) : (sizeOf 42).run Try.prog w = .ok 3 w := rfl
theorem unfag42 (w : World) : (isAgg 42).run Try.prog w = .ok true w := rfl
theorem unfnm22 : (Try.f22.name == "runtime.NumGoroutine") = false := by decide
theorem unfbd22 : Try.f22.body.isNone = false := rfl
theorem unfzv42 (w : World) : (zeroValue 42).run Try.prog w = .ok (.agg #[.int .i64 0, .int .u32 0, .int .u32 0]) w := rfl
theorem unffld42_1 (g o : Nat) (w : World) : (Instr.fieldAt 42 (.pointer (some ⟨g, o, none⟩)) 1).run Try.prog w = .ok (.pointer (some ⟨g, o + 1, none⟩)) w := by kernel_rfl
theorem unfag35 (w : World) : (isAgg 35).run Try.prog w = .ok false w := rfl
theorem unffld42_2 (g o : Nat) (w : World) : (Instr.fieldAt 42 (.pointer (some ⟨g, o, none⟩)) 2).run Try.prog w = .ok (.pointer (some ⟨g, o + 2, none⟩)) w := by kernel_rfl
theorem unfnm36 : (Try.f36.name == "runtime.NumGoroutine") = false := by decide
theorem unfbd36 : Try.f36.body.isNone = false := rfl
theorem unfbs26_1_44646 (a0_0 : Int) (a0_1 : Int) (a0_2 : Int) (w : World) : (Instr.buildSlice 26 1 #[(0, .agg #[.int .i64 a0_0, .int .u32 a0_1, .int .u32 a0_2])]).run Try.prog w = .ok (.slice (some ⟨w.heap.size, 0, none⟩) 1 1) (w.alloc (.cells [.int .i64 a0_0, .int .u32 a0_1, .int .u32 a0_2].toArray 42)) := by kernel_rfl
theorem unfel26 : Elem Try.prog 26 42 3 16 := Elem.mk' Try.underlying26 (z := .agg #[.int .i64 0, .int .u32 0, .int .u32 0]) (by kernel_rfl) rfl (by omega) (by omega)
set_option maxHeartbeats 1000000 in
theorem forest_any (A0 : Option Addr) (n0 c0 : Nat) (l : List Fc) (w : World) (hr : Reads w w.heap.size 3 A0 n0 (fcs l)) (hl : l.length = n0) (hok : ∀ f ∈ l, f.Ok) :
    Calls Try.prog 12 #[.slice A0 n0 c0] w fun e w' => ∃ A c, e = .returned (.slice A (forV l).length c) ∧ (forV l).length ≤ c ∧ c ≤ maxLen ∧ w'.ownsRow w.heap.size 42 3 (.slice A (forV l).length c) (forV l).length (fcs (forV l)) ∧ Below w.heap.size w w' := by
  subst hl
  refine begin_ (vs := [.slice A0 l.length c0]) Try.func12 rfl rfl rfl ?_ (Pm.start w)
  refine TC.seq_ ?_
  refine TC.region ?_
  refine TL.val rfl rfl rfl (gives_assign rfl rfl) ?_
  refine TL.end_ ?_
  refine TX.then_ ?_
  refine TC.seq_ ?_
  refine TC.seq_ ?_
  refine TC.region ?_
  refine TL.val rfl rfl rfl (gives_move rfl rfl) ?_
  refine TL.callsplit rfl rfl rfl rfl rfl Try.func22 unfnm22 unfbd22 (fun w1 hw => valid_any A0 _ c0 l w1 ((hr.below hw.bel).more hw.bel.size) rfl) (fun h8 => ?_) (fun h8 => ?_)
  · have hV : validF l := of_decide_eq_true h8
    have hl1 : l.length ≤ 1024 := hV.1
    refine TL.val rfl rfl rfl (gives_boolnot rfl rfl) ?_
    refine TL.end_ ?_
    refine TX.then_ ?_
    refine TC.condF rfl ?_
    refine TC.skip_ ?_
    refine TX.then_ ?_
    refine TC.seq_ ?_
    refine TC.region ?_
    refine TL.mkmap rfl rfl rfl rfl (fun gm hgm => ?_)
    refine TL.val rfl rfl rfl (gives_assign rfl rfl) ?_
    refine TL.end_ ?_
    refine TX.then_ ?_
    refine TC.seq_ ?_
    refine TC.region ?_
    refine TL.val rfl rfl rfl (gives_assign rfl rfl) ?_
    refine TL.end_ ?_
    refine TX.then_ ?_
    refine TC.seq_ ?_
    refine TC.seq_ ?_
    refine TC.region ?_
    refine TL.val rfl rfl rfl (gives_move rfl rfl) ?_
    refine TL.val rfl rfl rfl (gives_len rfl Try.underlying26 rfl) ?_
    refine TL.val rfl rfl rfl (gives_move rfl rfl) ?_
    refine TL.end_ ?_
    refine TX.then_ ?_
    refine TC.block ?_
    refine TC.nilrow 42 3 ?_
    refine TC.loop_ (α := {y : Nat × Nat × Obj × (Option Addr × Nat) // y.1 ≤ l.length ∧ y.2.1 ≤ y.1 ∧ UF y.2.2.1 y.2.1 (repF (l.take y.1)) ∧ (forest (l.take y.1)).length ≤ y.2.2.2.2 ∧ y.2.2.2.2 ≤ maxLen}) (fun y => [(3, .map (some gm)), (4, .slice y.1.2.2.2.1 ((forest (l.take y.1.1)).length) y.1.2.2.2.2), (11, .slice A0 l.length c0), (12, .int .i64 (l.length : Nat)), (13, .int .i64 (y.1.1 : Nat))]) (fun y => Pm w [.row (.slice y.1.2.2.2.1 ((forest (l.take y.1.1)).length) y.1.2.2.2.2) 42 3 ((forest (l.take y.1.1)).length) (fcs (forest (l.take y.1.1))), .oth gm y.1.2.2.1]) (fun y => l.length - y.1.1) (⟨(0, 0, .map #[] 0, (none, 0)), Nat.zero_le _, Nat.le_refl _, ⟨fun _ => none, mapII_new _ _ _ _ _, roots_nil, fun _ _ h => by cases h⟩, Nat.zero_le _, Nat.zero_le _⟩) ⟨rfl, rfl, rfl, rfl, rfl, trivial⟩ (fun w1 hw => hw) ?_
    rintro ⟨⟨i, n, ob, ⟨A, c⟩⟩, hi, hni, hu, hc, hc9⟩
    dsimp only at hi hni hu hc hc9 ⊢
    refine TC.seq_ ?_
    refine TC.region ?_
    refine TL.vsplit rfl rfl rfl (gives_bin rfl rfl rfl (fun w => bin_lss w)) (fun h14 => ?_) (fun h14 => ?_)
    · have q14 := of_decide_eq_true h14
      have hi2 : i < l.length := by omega
      obtain ⟨x, hx⟩ : ∃ x, l[i]? = some x := ⟨_, List.getElem?_eq_getElem hi2⟩
      obtain ⟨b2, o2, hA2, hbb2, hc2⟩ := hr.ad (by omega) (by decide)
      have hxo := hok x (List.mem_of_getElem? hx)
      have htk : l.take (i + 1) = l.take i ++ [x] := by rw [List.take_add_one, hx]; rfl
      have hfl := forest_le (l.take i)
      rw [List.length_take] at hfl
      refine TL.end_ ?_
      refine TX.then_ ?_
      refine TC.seq_ ?_
      refine TC.condT rfl ?_
      refine TC.skip_ ?_
      refine TX.then_ ?_
      refine TC.seq_ ?_
      refine TC.block ?_
      refine TC.seq_ ?_
      refine TC.region ?_
      refine TL.val rfl rfl rfl (gives_at (v := .pointer (some ⟨b2, o2 + i * 3, none⟩)) rfl rfl rfl (fun w => at_el Try.underlying26 unfsz42 hA2 _ _ i hi2 rfl w)) ?_
      refine TL.val rfl rfl rfl (gives_loadR rfl rfl unfag42 unfsz42 (fc_cells_len x) (fun w1 hw j u hu => (hw.bel.cell hbb2).trans (fcs_cell hx hc2 j u hu))) ?_
      refine TL.pnew rfl rfl rfl (exec_alloc (cs := [.int .i64 0, .int .u32 0, .int .u32 0]) rfl unfzv42 rfl) (fun g6 => ?_)
      refine TL.pstore (k := 0) (vs := x.cells) rfl rfl rfl rfl rfl rfl rfl unfsz42 (fc_one x) (by show 3 ≤ 3; decide) (L' := [.blk g6 42 x.cells, .row (.slice A ((forest (l.take i)).length) c) 42 3 ((forest (l.take i)).length) (fcs (forest (l.take i))), .oth gm ob]) rfl ?_
      refine TL.end_ ?_
      refine TX.then_ ?_
      refine TC.seq_ ?_
      by_cases hj : repF (l.take i) x.a = repF (l.take i) x.b
      · have hfo : forest (l.take (i + 1)) = forest (l.take i) := by rw [htk, forest_snoc, if_pos hj]
        refine TC.region ?_
        refine TL.val rfl rfl rfl (gives_move rfl rfl) ?_
        refine TL.val rfl rfl rfl (gives_field (v := .pointer (some ⟨g6, 1, none⟩)) rfl rfl (fun w => unffld42_1 _ _ w)) ?_
        refine TL.val rfl rfl rfl (pm_load (k := 0) (i := 1) rfl rfl unfag35 rfl rfl) ?_
        refine TL.val rfl rfl rfl (gives_field (v := .pointer (some ⟨g6, 2, none⟩)) rfl rfl (fun w => unffld42_2 _ _ w)) ?_
        refine TL.val rfl rfl rfl (pm_load (k := 0) (i := 2) rfl rfl unfag35 rfl rfl) ?_
        refine TL.pcallObj (k := 2) (α := Unit) (fun _ => .bool false) (fun _ ob2 => ∃ n2, n2 ≤ n + 1 ∧ UF ob2 n2 (repF (l.take (i + 1)))) rfl rfl rfl rfl rfl Try.func36 unfnm36 unfbd36 rfl hgm (fun w1 hw hb1 => (join_any gm ob n (repF (l.take i)) w1 hb1 hu (by unfold maxLen; omega) x ⟨hxo.1, hxo.2.1⟩ ⟨hxo.2.2.1, hxo.2.2.2⟩).mono fun e w2 ⟨ob2, n2, h1, h2, h3, h4, h5⟩ => ⟨(), ob2, by rw [decide_eq_false (fun h => h hj)] at h1; exact h1, ⟨n2, h2, by rw [htk, repF_snoc]; exact h3⟩, h4, h5⟩) ?_
        rintro ⟨⟩ ob2 ⟨n2, hn2, hu2⟩
        dsimp only [List.set_cons_zero, List.set_cons_succ] at hu2 ⊢
        refine TL.end_ ?_
        refine TX.then_ ?_
        refine TC.condF rfl ?_
        refine TC.skip_ ?_
        refine TX.in_normal ?_
        refine TX.then_ ?_
        refine TC.region ?_
        refine TL.val rfl rfl rfl (gives_bin rfl rfl rfl (fun w => bin_add_ (r := ((i + 1 : Nat) : Int)) (by simp only [IntKind.wrap_i64]; omega) w)) ?_
        refine TL.val rfl rfl rfl (gives_move rfl rfl) ?_
        refine TL.end_ ?_
        exact TX.round (⟨(i + 1, n2, ob2, (A, c)), hi2, by dsimp only; omega, hu2, by rw [hfo]; exact hc, hc9⟩) (by show l.length - (i + 1) < l.length - i; omega) ⟨rfl, (by (try dsimp only); rw [hfo]; rfl), rfl, rfl, rfl, trivial⟩ (fun w1 hw => (by (try dsimp only); rw [hfo]; exact hw.pick [1, 2] (by decide) rfl))
      · have hfo : forest (l.take (i + 1)) = forest (l.take i) ++ [x] := by rw [htk, forest_snoc, if_neg hj]
        refine TC.region ?_
        refine TL.val rfl rfl rfl (gives_move rfl rfl) ?_
        refine TL.val rfl rfl rfl (gives_field (v := .pointer (some ⟨g6, 1, none⟩)) rfl rfl (fun w => unffld42_1 _ _ w)) ?_
        refine TL.val rfl rfl rfl (pm_load (k := 0) (i := 1) rfl rfl unfag35 rfl rfl) ?_
        refine TL.val rfl rfl rfl (gives_field (v := .pointer (some ⟨g6, 2, none⟩)) rfl rfl (fun w => unffld42_2 _ _ w)) ?_
        refine TL.val rfl rfl rfl (pm_load (k := 0) (i := 2) rfl rfl unfag35 rfl rfl) ?_
        refine TL.pcallObj (k := 2) (α := Unit) (fun _ => .bool true) (fun _ ob2 => ∃ n2, n2 ≤ n + 1 ∧ UF ob2 n2 (repF (l.take (i + 1)))) rfl rfl rfl rfl rfl Try.func36 unfnm36 unfbd36 rfl hgm (fun w1 hw hb1 => (join_any gm ob n (repF (l.take i)) w1 hb1 hu (by unfold maxLen; omega) x ⟨hxo.1, hxo.2.1⟩ ⟨hxo.2.2.1, hxo.2.2.2⟩).mono fun e w2 ⟨ob2, n2, h1, h2, h3, h4, h5⟩ => ⟨(), ob2, by rw [decide_eq_true hj] at h1; exact h1, ⟨n2, h2, by rw [htk, repF_snoc]; exact h3⟩, h4, h5⟩) ?_
        rintro ⟨⟩ ob2 ⟨n2, hn2, hu2⟩
        dsimp only [List.set_cons_zero, List.set_cons_succ] at hu2 ⊢
        refine TL.end_ ?_
        refine TX.then_ ?_
        refine TC.condT rfl ?_
        refine TC.region ?_
        refine TL.val rfl rfl rfl (gives_move rfl rfl) ?_
        refine TL.val rfl rfl rfl (pm_loadV (k := 0) (i := 0) (n := 3) (v := .agg (x.cells).toArray) rfl rfl unfag42 unfsz42 rfl (by show 3 ≤ 3; decide) rfl) ?_
        refine TL.prowS (e := 42) (size := 3) (cs := fcs [x]) rfl rfl rfl rfl rfl (fun w => unfbs26_1_44646 _ _ _ w) (by decide) rfl (fun g25 => ?_)
        refine TL.appendT (k := 2) rfl rfl rfl rfl Try.underlying26 unfel26 rfl rfl rfl (fun w1 hw => pm_reads hw (k := 0) rfl) (fcs_one _) (by omega) ((forest (l.take (i + 1))).length) (by rw [hfo, List.length_append]; rfl) (fcs (forest (l.take (i + 1)))) (by rw [hfo, fcs_app]) (fun A26 c26 hA261 hA262 => ?_)
        refine TL.val rfl rfl rfl (gives_assign rfl rfl) ?_
        refine TL.end_ ?_
        refine TX.in_normal ?_
        refine TX.then_ ?_
        refine TC.region ?_
        refine TL.val rfl rfl rfl (gives_bin rfl rfl rfl (fun w => bin_add_ (r := ((i + 1 : Nat) : Int)) (by simp only [IntKind.wrap_i64]; omega) w)) ?_
        refine TL.val rfl rfl rfl (gives_move rfl rfl) ?_
        refine TL.end_ ?_
        exact TX.round (⟨(i + 1, n2, ob2, (A26, c26)), hi2, by dsimp only; omega, hu2, hA261, hA262⟩) (by show l.length - (i + 1) < l.length - i; omega) ⟨rfl, rfl, rfl, rfl, rfl, trivial⟩ (fun w1 hw => hw.pick [2, 3] (by decide) rfl)
    · have q14 := of_decide_eq_false h14
      have hi2 : i = l.length := by omega
      subst hi2
      have hF : forV l = (forest (l.take l.length)) := by rw [List.take_length]; exact if_pos hV
      refine TL.end_ ?_
      refine TX.then_ ?_
      refine TC.seq_ ?_
      refine TC.condF rfl ?_
      refine TC.exit_ ?_
      refine TX.then_exit ?_
      refine TX.then_exit ?_
      refine TX.in_same ?_
      refine TX.then_ ?_
      refine TC.seq_ ?_
      refine TC.region ?_
      refine TL.val rfl rfl rfl (gives_move rfl rfl) ?_
      refine TL.val rfl rfl rfl (gives_assign rfl rfl) ?_
      refine TL.end_ ?_
      refine TX.then_ ?_
      refine TC.ret_ ?_
      exact ret_tmp Try.results12 rfl (fun w1 hw => by rw [hF]; exact ⟨A, c, rfl, hc, hc9, hw.at_ (k := 0) rfl, hw.bel⟩)
  · have hF : forV l = [] := if_neg (of_decide_eq_false h8)
    refine TL.val rfl rfl rfl (gives_boolnot rfl rfl) ?_
    refine TL.end_ ?_
    refine TX.then_ ?_
    refine TC.condT rfl ?_
    refine TC.seq_ ?_
    refine TC.region ?_
    refine TL.val rfl rfl rfl (gives_assign rfl rfl) ?_
    refine TL.end_ ?_
    refine TX.then_ ?_
    refine TC.ret_ ?_
    refine TX.then_ret ?_
    exact ret_tmp Try.results12 rfl (fun w1 hw => by rw [hF]; exact ⟨none, 0, rfl, Nat.le_refl _, Nat.zero_le _, (hw.nilrow 42 3).at_ (k := 0) rfl, hw.bel⟩)
end Go.Proofs.Ytleckflmckbheaa

namespace Go.Proofs.Ytleckflmckbheaa
open Go.RowKit
set_option maxRecDepth 20000
theorem uv_app (a b : List Int) : uv (a ++ b) = uv a ++ uv b := by simp [uv]
theorem cls_at {ts : List (Sg Int)} {k : Nat} {s : Sg Int} {a : Int} {R : Int → Int} {P : List Int} (hs : ts[k]? = some s) (h : (ts.map (·.l)).set k ((ts.map (·.l)).getD k [] ++ [a]) = cls R (P ++ [a])) : s.l.length ≤ P.length := by
 have hlt := (List.getElem?_eq_some_iff.1 hs).1
 have h1 : s.l ++ [a] ∈ cls R (P ++ [a]) := by
  rw [← h]
  have e : (ts.map (·.l)).getD k [] = s.l := by rw [List.getD_eq_getElem?_getD, List.getElem?_map, hs]; rfl
  rw [e]
  exact List.mem_set (by rw [List.length_map]; exact hlt) _
 obtain ⟨r, _, e⟩ := List.mem_map.1 h1
 have h2 := List.length_filter_le (fun x => decide (R x = r)) (P ++ [a])
 rw [e, List.length_append, List.length_append] at h2
 simp only [List.length_cons, List.length_nil] at h2
 omega
theorem new_at (ss : List (Sg Int)) (a : Int) : ((ss ++ [Sg.nil Int]).map (·.l)).set ss.length (((ss ++ [Sg.nil Int]).map (·.l)).getD ss.length [] ++ [a]) = ss.map (·.l) ++ [[a]] := by
 rw [List.map_append, List.getD_eq_getElem?_getD, List.getElem?_append_right (by rw [List.length_map]; exact Nat.le_refl _), List.set_append_right _ _ (by rw [List.length_map]; exact Nat.le_refl _), List.length_map, Nat.sub_self]
 rfl
theorem asc_len (l : List Int) : (asc l).length ≤ l.length := by
 unfold asc
 refine Nat.le_trans (cpt_len _) ?_
 rw [List.length_mergeSort]
 exact Nat.le_refl _
theorem wf64 {x : Int} (h : 0 ≤ x ∧ x ≤ 4294967295) : (Lit.int .i64 x).wf = true := by simp [Lit.wf, IntKind.min, IntKind.max, IntKind.signed, IntKind.bits]; omega
theorem imX : IMap Try.prog 79 35 3 .u32 .i64 := ⟨Try.underlying79, Try.underlying35, Try.underlying3, fun w => rfl⟩
theorem rt_in {ob : Obj} {n : Nat} {R : Int → Int} (h : UF ob n R) {a : Int} (ha : 0 ≤ a ∧ a ≤ 4294967295) : 0 ≤ R a ∧ R a ≤ 4294967295 := by
 obtain ⟨f, _, hR, hrg⟩ := h
 exact rt_range hR hrg ha
theorem adr_range {l : List Fc} (hok : ∀ f ∈ l, f.Ok) {a : Int} (h : a ∈ adrs l) : 0 ≤ a ∧ a ≤ 4294967295 := by
 obtain ⟨f, hf, e⟩ := mem_adrs.1 h
 have := hok f hf
 rcases e with rfl | rfl
 ·exact ⟨this.1, this.2.1⟩
 ·exact ⟨this.2.2.1, this.2.2.2⟩
section
variable {P : Program} {N : Fr} {Q : Exit → Act → World → Prop} {E : Env} {w0 : Base} {L : List Pc} {ops : Array Oper} {l : List Oper} {o : Oper}
theorem TL.pcallCut {d k g n c : Nat} {e : TypeId} {xs ys : List Int} {f : FuncId} {fn : Func} {es : List Operand} {ts : Array TypeId} {vs : List Value} (hg : o.guard = none) (hd : o.dst = some d) (hN : Nat.blt d N.n = true)
  (ho : o.op = .call { callee := .value (.func f), args := es.toArray, argTypes := ts }) (hx : evs E es = some vs) (hf : P.funcs[f]? = some fn) (hn : (fn.name == "runtime.NumGoroutine") = false) (hb : fn.body.isNone = false)
  (hk : L[k]? = some (.row (.slice (some ⟨g, 0, none⟩) n c) e 1 n (uv xs))) (hc : ∀ w, Pm w0 L w → Rw e w g n c xs → Calls P f vs.toArray w fun en w' => en = .returned (.slice (some ⟨g, 0, none⟩) ys.length c) ∧ Rw e w' g ys.length c ys ∧ w.grownBy w' (some g))
  (h : TL P N ops Q l ((d, .slice (some ⟨g, 0, none⟩) ys.length c) :: E) (Pm w0 (L.set k (.row (.slice (some ⟨g, 0, none⟩) ys.length c) e 1 ys.length (uv ys))))) : TL P N ops Q (o :: l) E (Pm w0 L) :=
 TL.call (α := Unit) (r := fun _ => .slice (some ⟨g, 0, none⟩) ys.length c) (I' := fun _ => Pm w0 (L.set k (.row (.slice (some ⟨g, 0, none⟩) ys.length c) e 1 ys.length (uv ys)))) hg hd hN ho hx hf hn hb (fun w hw => (hc w hw (pm_rowAt hw hk)).mono fun en w' ⟨he, hr, hgr⟩ => ⟨(), he, by
  have h1 := hw.at_ hk
  have hbg : w0.b ≤ g := (Pc.lt h1 g rfl).1
  exact hw.turn hk hgr (own_base hr hbg) (fun g' hg' => .inl hg') (fun _ _ e => by cases e)⟩) (fun _ => h)
end
theorem uclsz42 (w : World) : (sizeOf 42).run Try.prog w = .ok 3 w := rfl
theorem uclag42 (w : World) : (isAgg 42).run Try.prog w = .ok true w := rfl
theorem uclzv42 (w : World) : (zeroValue 42).run Try.prog w = .ok (.agg #[.int .i64 0, .int .u32 0, .int .u32 0]) w := rfl
theorem uclfld42_1 (g o : Nat) (w : World) : (Instr.fieldAt 42 (.pointer (some ⟨g, o, none⟩)) 1).run Try.prog w = .ok (.pointer (some ⟨g, o + 1, none⟩)) w := by kernel_rfl
theorem uclag35 (w : World) : (isAgg 35).run Try.prog w = .ok false w := rfl
theorem uclfld42_2 (g o : Nat) (w : World) : (Instr.fieldAt 42 (.pointer (some ⟨g, o, none⟩)) 2).run Try.prog w = .ok (.pointer (some ⟨g, o + 2, none⟩)) w := by kernel_rfl
theorem uclnm36 : (Try.f36.name == "runtime.NumGoroutine") = false := by decide
theorem uclbd36 : Try.f36.body.isNone = false := rfl
theorem uclbs31_2_20249 (a0_0 : Int) (a1_0 : Int) (w : World) : (Instr.buildSlice 31 2 #[(0, .int .u32 a0_0), (1, .int .u32 a1_0)]).run Try.prog w = .ok (.slice (some ⟨w.heap.size, 0, none⟩) 2 2) (w.alloc (.cells [.int .u32 a0_0, .int .u32 a1_0].toArray 35)) := by kernel_rfl
theorem uclel31 : Elem Try.prog 31 35 1 4 := Elem.mk' Try.underlying31 (z := .int .u32 0) (by kernel_rfl) rfl (by omega) (by omega)
theorem uclnm50 : (Try.f50.name == "runtime.NumGoroutine") = false := by decide
theorem uclbd50 : Try.f50.body.isNone = false := rfl
theorem uclnm51 : (Try.f51.name == "runtime.NumGoroutine") = false := by decide
theorem uclbd51 : Try.f51.body.isNone = false := rfl
theorem uclsz35 (w : World) : (sizeOf 35).run Try.prog w = .ok 1 w := rfl
theorem uclnm40 : (Try.f40.name == "runtime.NumGoroutine") = false := by decide
theorem uclbd40 : Try.f40.body.isNone = false := rfl
theorem uclbs28_1_58639 (a0_0 : Option Addr) (a0_0n a0_0c : Nat) (w : World) : (Instr.buildSlice 28 1 #[(0, .slice a0_0 a0_0n a0_0c)]).run Try.prog w = .ok (.slice (some ⟨w.heap.size, 0, none⟩) 1 1) (w.alloc (.cells [.slice a0_0 a0_0n a0_0c].toArray 31)) := by kernel_rfl
theorem uclel28 : Elem Try.prog 28 31 1 24 := Elem.mk' Try.underlying28 (z := .slice none 0 0) (by kernel_rfl) rfl (by omega) (by omega)
theorem uclsz31 (w : World) : (sizeOf 31).run Try.prog w = .ok 1 w := rfl
theorem uclag31 (w : World) : (isAgg 31).run Try.prog w = .ok false w := rfl
theorem uclbs31_1_5377 (a0_0 : Int) (w : World) : (Instr.buildSlice 31 1 #[(0, .int .u32 a0_0)]).run Try.prog w = .ok (.slice (some ⟨w.heap.size, 0, none⟩) 1 1) (w.alloc (.cells [.int .u32 a0_0].toArray 35)) := by kernel_rfl
set_option maxHeartbeats 1000000 in
theorem classes_ne (A0 : Option Addr) (c0 : Nat) (l : List Fc) (w : World) (hr : Reads w w.heap.size 3 A0 l.length (fcs l)) (hl : 0 < l.length) (hl1 : l.length ≤ 1024) (hok : ∀ f ∈ l, f.Ok) :
  Calls Try.prog 35 #[.slice A0 l.length c0] w fun e w' => ∃ x : {y : (Option Addr × Nat) × List (Sg Int) // y.2.map (·.l) = clsL l ∧ y.2.length ≤ y.1.2 ∧ y.1.2 ≤ maxLen}, e = .returned (.slice x.1.1.1 x.1.2.length x.1.1.2) ∧ Pm w ([.row (.slice x.1.1.1 x.1.2.length x.1.1.2) 31 1 x.1.2.length (x.1.2.map Sg.val)] ++ segG 35 1 uv x.1.2) w' := by
 refine begin_ (vs := [.slice A0 l.length c0]) Try.func35 rfl rfl rfl ?_ (Pm.start w)
 refine TC.seq_ (TC.region ?_)
 refine TL.as_ ?_
 refine TL.end_ (TX.then_ (TC.seq_ (TC.region ?_)))
 refine TL.mkmap rfl rfl rfl rfl (fun gm hgm => ?_)
 refine TL.as_ ?_
 refine TL.end_ (TX.then_ (TC.seq_ (TC.region ?_)))
 refine TL.as_ ?_
 refine TL.end_ (TX.then_ (TC.seq_ (TC.seq_ (TC.region ?_))))
 refine TL.mv ?_
 refine TL.val rfl rfl rfl (gives_len rfl Try.underlying26 rfl) ?_
 refine TL.mv ?_
 refine TL.end_ (TX.then_ (TC.block ?_))
 refine TC.nilrow 35 1 ?_
 refine TC.loop_ (α := {y : Nat × Nat × Obj × (Option Addr × Nat) // y.1 ≤ l.length ∧ y.2.1 ≤ y.1 ∧ UF y.2.2.1 y.2.1 (repF (l.take y.1)) ∧ (adrs (l.take y.1)).length ≤ y.2.2.2.2 ∧ y.2.2.2.2 ≤ maxLen}) (fun y => [(3, .map (some gm)), (4, .slice y.1.2.2.2.1 ((adrs (l.take y.1.1)).length) y.1.2.2.2.2), (15, .slice A0 l.length c0), (16, .int .i64 ((l.length : Nat) : Int)), (17, .int .i64 ((y.1.1 : Nat) : Int))]) (fun y => Pm w [.row (.slice y.1.2.2.2.1 ((adrs (l.take y.1.1)).length) y.1.2.2.2.2) 35 1 ((adrs (l.take y.1.1)).length) (uv (adrs (l.take y.1.1))), .oth gm y.1.2.2.1]) (fun y => l.length - y.1.1) (⟨(0, 0, .map #[] 0, (none, 0)), Nat.zero_le _, Nat.le_refl _, ⟨fun _ => none, mapII_new _ _ _ _ _, roots_nil, fun _ _ h => by cases h⟩, Nat.zero_le _, Nat.zero_le _⟩) ⟨rfl, rfl, rfl, rfl, rfl, trivial⟩ (fun w1 hw => hw) ?_
 rintro ⟨⟨i, n, ob, ⟨A, ca⟩⟩, hi, hni, hu, hc, hc9⟩
 dsimp only at hi hni hu hc hc9 ⊢
 refine TC.seq_ (TC.region ?_)
 refine TL.vsplit rfl rfl rfl (gives_bin rfl rfl rfl (fun w => bin_lss w)) (fun h18 => ?_) (fun h18 => ?_)
 ·have q18 := of_decide_eq_true h18
  have hi2 : i < l.length := by omega
  obtain ⟨x, hx⟩ : ∃ x, l[i]? = some x := ⟨_, List.getElem?_eq_getElem hi2⟩
  obtain ⟨b2, o2, hA2, hbb2, hc2⟩ := hr.ad (by omega) (by decide)
  have hxo := hok x (List.mem_of_getElem? hx)
  have htk : l.take (i + 1) = l.take i ++ [x] := by rw [List.take_add_one, hx]; rfl
  have hal : adrs (l.take (i + 1)) = adrs (l.take i) ++ [x.a, x.b] := by rw [htk, adrs_snoc]
  have hl2 := adrs_len (l.take (i + 1))
  have hl3 := adrs_len (l.take i)
  rw [List.length_take] at hl2 hl3
  refine TL.end_ (TX.then_ (TC.seq_ (TC.condT rfl (TC.skip_ (TX.then_ (TC.seq_ (TC.block (TC.seq_ (TC.region ?_)))))))))
  refine TL.val rfl rfl rfl (gives_at (v := .pointer (some ⟨b2, o2 + i * 3, none⟩)) rfl rfl rfl (fun w => at_el Try.underlying26 uclsz42 hA2 _ _ i hi2 rfl w)) ?_
  refine TL.val rfl rfl rfl (gives_loadR rfl rfl uclag42 uclsz42 (fc_cells_len x) (fun w1 hw j u hu => (hw.bel.cell hbb2).trans (fcs_cell hx hc2 j u hu))) ?_
  refine TL.pnew rfl rfl rfl (exec_alloc (cs := [.int .i64 0, .int .u32 0, .int .u32 0]) rfl uclzv42 rfl) (fun g6 => ?_)
  refine TL.pstore (k := 0) (vs := x.cells) rfl rfl rfl rfl rfl rfl rfl uclsz42 (fc_one x) (by show 3 ≤ 3; decide) (L' := [.blk g6 42 x.cells, .row (.slice A ((adrs (l.take i)).length) ca) 35 1 ((adrs (l.take i)).length) (uv (adrs (l.take i))), .oth gm ob]) rfl ?_
  refine TL.end_ (TX.then_ (TC.seq_ (TC.region ?_)))
  refine TL.mv ?_
  refine TL.val rfl rfl rfl (gives_field (v := .pointer (some ⟨g6, 1, none⟩)) rfl rfl (fun w => uclfld42_1 _ _ w)) ?_
  refine TL.val rfl rfl rfl (pm_load (k := 0) (i := 1) rfl rfl uclag35 rfl rfl) ?_
  refine TL.val rfl rfl rfl (gives_field (v := .pointer (some ⟨g6, 2, none⟩)) rfl rfl (fun w => uclfld42_2 _ _ w)) ?_
  refine TL.val rfl rfl rfl (pm_load (k := 0) (i := 2) rfl rfl uclag35 rfl rfl) ?_
  refine TL.pcallObj (k := 2) (α := Unit) (fun _ => .bool (decide ((repF (l.take i)) x.a ≠ (repF (l.take i)) x.b))) (fun _ ob2 => ∃ n2, n2 ≤ n + 1 ∧ UF ob2 n2 (repF (l.take (i + 1)))) rfl rfl rfl rfl rfl Try.func36 uclnm36 uclbd36 rfl hgm (fun w1 hw hb1 => (join_any gm ob n ((repF (l.take i))) w1 hb1 hu (by unfold maxLen; omega) x ⟨hxo.1, hxo.2.1⟩ ⟨hxo.2.2.1, hxo.2.2.2⟩).mono fun e w2 ⟨ob2, n2, h1, h2, h3, h4, h5⟩ => ⟨(), ob2, h1, ⟨n2, h2, by rw [htk, repF_snoc]; exact h3⟩, h4, h5⟩) ?_
  rintro ⟨⟩ ob2 ⟨n2, hn2, hu2⟩
  try dsimp only [List.set_cons_zero, List.set_cons_succ]
  refine TL.end_ (TX.then_ (TC.region ?_))
  refine TL.mv ?_
  refine TL.val rfl rfl rfl (gives_field (v := .pointer (some ⟨g6, 1, none⟩)) rfl rfl (fun w => uclfld42_1 _ _ w)) ?_
  refine TL.val rfl rfl rfl (pm_load (k := 0) (i := 1) rfl rfl uclag35 rfl rfl) ?_
  refine TL.val rfl rfl rfl (gives_field (v := .pointer (some ⟨g6, 2, none⟩)) rfl rfl (fun w => uclfld42_2 _ _ w)) ?_
  refine TL.val rfl rfl rfl (pm_load (k := 0) (i := 2) rfl rfl uclag35 rfl rfl) ?_
  refine TL.prowS (e := 35) (size := 1) (cs := uv [x.a, x.b]) rfl rfl rfl rfl rfl (fun w => uclbs31_2_20249 _ _ w) (by decide) rfl (fun g32 => ?_)
  refine TL.appendT (k := 2) rfl rfl rfl rfl Try.underlying31 uclel31 rfl rfl rfl (fun w1 hw => pm_reads hw (k := 0) rfl) (uv_one _) (by show _ * 4 ≤ _; omega) ((adrs (l.take (i + 1))).length) (by rw [hal, List.length_append]; rfl) (uv (adrs (l.take (i + 1)))) (by rw [hal, uv_app]) (fun A33 c33 hA331 hA332 => ?_)
  refine TL.as_ ?_
  refine TL.end_ (TX.in_normal (TX.then_ (TC.region ?_)))
  refine TL.val rfl rfl rfl (gives_bin rfl rfl rfl (fun w => bin_add_ (r := ((i + 1 : Nat) : Int)) (by simp only [IntKind.wrap_i64]; omega) w)) ?_
  refine TL.mv ?_
  refine TL.end_ ?_
  exact TX.round (⟨(i + 1, n2, ob2, (A33, c33)), hi2, by dsimp only; omega, hu2, hA331, hA332⟩) (by show l.length - (i + 1) < l.length - i; omega) ⟨rfl, rfl, rfl, rfl, rfl, trivial⟩ (fun w1 hw => hw.pick [2, 3] (by decide) rfl)
 ·have q18 := of_decide_eq_false h18
  have hi2 : i = l.length := by omega
  subst hi2
  rw [List.take_length] at hu hc ⊢
  refine TL.end_ (TX.then_ (TC.seq_ (TC.condF rfl (TC.exit_ (TX.then_exit (TX.then_exit (TX.in_same (TX.then_ (TC.seq_ ?_)))))))))
  have hadl := adrs_len l
  have hasl := asc_len (adrs l)
  have hpos : 0 < (adrs l).length := by omega
  refine TC.fact (p := ∃ g, A = some ⟨g, 0, none⟩) (fun w1 hw => rowA hw (k := 0) rfl hpos) ?_
  rintro ⟨ga, rfl⟩
  refine TC.region ?_
  refine TL.mv ?_
  refine TL.pcallRw (k := 0) (α := Unit) (fun _ => .tuple #[]) (fun _ ys => Pin 0 (adrs l).length (adrs l) ys ∧ Srt 0 (adrs l).length ys) rfl rfl rfl rfl rfl Try.func50 uclnm50 uclbd50 rfl (fun w1 hw hr1 => sort_any ga (adrs l).length ca (adrs l) w1 hr1 (by omega)) ?_
  rintro ⟨⟩ ys ⟨hQ, hS⟩
  try dsimp only [List.set_cons_zero, List.set_cons_succ]
  have hac : cpt ys = asc (adrs l) := asc_of hQ.perm (srt_pairwise hQ.len hS)
  refine TL.end_ (TX.then_ (TC.seq_ (TC.region ?_)))
  refine TL.mkmap rfl rfl rfl rfl (fun gx hgx => ?_)
  refine TL.as_ ?_
  refine TL.end_ (TX.then_ (TC.seq_ (TC.region ?_)))
  refine TL.as_ ?_
  refine TL.end_ (TX.then_ (TC.seq_ (TC.seq_ (TC.region ?_))))
  refine TL.mv ?_
  refine TL.pcallCut (k := 1) (ys := (asc (adrs l))) rfl rfl rfl rfl rfl Try.func51 uclnm51 uclbd51 rfl (fun w1 hw hr1 => by rw [← hac]; exact compact_any ga (adrs l).length ca ys w1 hr1 (by omega)) ?_
  try dsimp only [List.set_cons_zero, List.set_cons_succ]
  refine TL.val rfl rfl rfl (gives_len rfl Try.underlying31 rfl) ?_
  refine TL.mv ?_
  refine TL.end_ (TX.then_ (TC.block ?_))
  refine TC.nilrow 31 1 ?_
  refine TC.loop_ (α := {y : Nat × Obj × Obj × Option Addr × Nat × List (Sg Int) // y.1 ≤ (asc (adrs l)).length ∧ y.2.2.2.2.2.length ≤ y.1 ∧ y.2.2.2.2.2.length ≤ y.2.2.2.2.1 ∧ y.2.2.2.2.1 ≤ maxLen ∧ UF y.2.1 n (repF l) ∧ (∃ f, MapII Try.prog 35 3 .u32 .i64 y.2.2.1 y.2.2.2.2.2.length f ∧ IX f (repF l) ((asc (adrs l)).take y.1)) ∧ y.2.2.2.2.2.map (·.l) = cls (repF l) ((asc (adrs l)).take y.1)}) (fun y => [(3, .map (some gm)), (7, .map (some gx)), (8, .slice y.1.2.2.2.1 y.1.2.2.2.2.2.length y.1.2.2.2.2.1), (39, .slice (some ⟨ga, 0, none⟩) ((asc (adrs l)).length) ca), (40, .int .i64 (((asc (adrs l)).length : Nat) : Int)), (41, .int .i64 ((y.1.1 : Nat) : Int))]) (fun y => Pm w ([.row (.slice y.1.2.2.2.1 y.1.2.2.2.2.2.length y.1.2.2.2.2.1) 31 1 y.1.2.2.2.2.2.length (y.1.2.2.2.2.2.map Sg.val), .oth gx y.1.2.2.1, .oth gm y.1.2.1, .row (.slice (some ⟨ga, 0, none⟩) ((asc (adrs l)).length) ca) 35 1 ((asc (adrs l)).length) (uv (asc (adrs l)))] ++ segG 35 1 uv y.1.2.2.2.2.2)) (fun y => (asc (adrs l)).length - y.1.1) (⟨(0, ob, .map #[] 0, none, 0, []), Nat.zero_le _, Nat.le_refl _, Nat.le_refl _, Nat.zero_le _, hu, ⟨fun _ => none, mapII_new _ _ _ _ _, ix_nil _⟩, rfl⟩) ⟨rfl, rfl, rfl, rfl, rfl, rfl, trivial⟩ (fun w1 hw => hw.pick [0, 1, 3, 2] (by decide) rfl) ?_
  rintro ⟨⟨i, ob, obx, Ao, co, ss⟩, hi, hil, hc1, hc2, hu, ⟨f, hmx, hix⟩, hcs⟩
  dsimp only at hi hil hc1 hc2 hu hmx hix hcs ⊢
  have hss : ss.length = (ks (repF l) ((asc (adrs l)).take i)).length := by rw [← cls_len, ← hcs, List.length_map]
  refine TC.seq_ (TC.region ?_)
  refine TL.vsplit rfl rfl rfl (gives_bin rfl rfl rfl (fun w => bin_lss w)) (fun h42 => ?_) (fun h42 => ?_)
  ·have q42 := of_decide_eq_true h42
   have hia : i < (asc (adrs l)).length := by omega
   obtain ⟨a, ha⟩ : ∃ a, (asc (adrs l))[i]? = some a := ⟨_, List.getElem?_eq_getElem hia⟩
   have har : 0 ≤ a ∧ a ≤ 4294967295 := adr_range hok ((mem_asc _ _).1 (List.mem_of_getElem? ha))
   have hat : (asc (adrs l)).take (i + 1) = (asc (adrs l)).take i ++ [a] := by rw [List.take_add_one, ha]; rfl
   refine TL.end_ (TX.then_ (TC.seq_ (TC.condT rfl (TC.skip_ (TX.then_ (TC.seq_ (TC.block (TC.seq_ (TC.region ?_)))))))))
   refine TL.val rfl rfl rfl (gives_at (v := .pointer (some ⟨ga, i, none⟩)) rfl rfl rfl (fun w => at_row Try.underlying31 uclsz35 ga _ _ i (by omega) rfl w)) ?_
   refine TL.val rfl rfl rfl (pm_loadRow (k := 3) (i := i) rfl rfl uclag35 rfl (by unfold uv; rw [List.getElem?_map, ha]; rfl)) ?_
   refine TL.as_ ?_
   refine TL.end_ (TX.then_ (TC.seq_ (TC.region ?_)))
   refine TL.mv ?_
   refine TL.mv ?_
   refine TL.pcallObj (k := 2) (α := Unit) (fun _ => .int .u32 ((repF l) a)) (fun _ ob2 => UF ob2 n (repF l)) rfl rfl rfl rfl rfl Try.func40 uclnm40 uclbd40 rfl hgm (fun w1 hw hb1 => (root_any gm ob n (repF l) w1 hb1 hu (by unfold maxLen; omega) a har).mono fun e w2 ⟨ob2, h1, h2, h3, h4⟩ => ⟨(), ob2, h1, h2, h3, h4⟩) ?_
   rintro ⟨⟩ ob2 hu2
   try dsimp only [List.set_cons_zero, List.set_cons_succ]
   refine TL.as_ ?_
   refine TL.end_ (TX.then_ (TC.seq_ ?_))
   rcases hfx : f ((repF l) a) with _ | z
   ·have hnew := (new_at ss a).trans (((congrArg (fun z => z ++ [[a]]) hcs)).trans (cls_new (hix.none hfx)).symm)
    refine TC.region ?_
    refine TL.mv ?_
    refine TL.mv ?_
    refine TL.val rfl rfl rfl (gives_lookNone rfl rfl rfl imX (i := 1) rfl hmx (wf32 (rt_in hu2 har)) hfx) ?_
    iterate 5 (first | refine TL.as_ ?_ | refine TL.ex ?_ | refine TL.mv ?_)
    refine TL.end_ (TX.then_ ?_)
    refine TC.join (α := {y : Nat × Obj × Obj × Option Addr × Nat × List (Sg Int) // y.1 < y.2.2.2.2.2.length ∧ y.2.2.2.2.2.length ≤ i + 1 ∧ y.2.2.2.2.2.length ≤ y.2.2.2.2.1 ∧ y.2.2.2.2.1 ≤ maxLen ∧ UF y.2.1 n (repF l) ∧ (∃ f, MapII Try.prog 35 3 .u32 .i64 y.2.2.1 y.2.2.2.2.2.length f ∧ IX f (repF l) ((asc (adrs l)).take i ++ [a])) ∧ (y.2.2.2.2.2.map (·.l)).set y.1 ((y.2.2.2.2.2.map (·.l)).getD y.1 [] ++ [a]) = cls (repF l) ((asc (adrs l)).take i ++ [a])}) (fun y => [(3, .map (some gm)), (7, .map (some gx)), (8, .slice y.1.2.2.2.1 y.1.2.2.2.2.2.length y.1.2.2.2.2.1), (39, .slice (some ⟨ga, 0, none⟩) ((asc (adrs l)).length) ca), (40, .int .i64 (((asc (adrs l)).length : Nat) : Int)), (41, .int .i64 ((i : Nat) : Int)), (10, .int .u32 a), (12, .int .i64 ((y.1.1 : Nat) : Int))]) (fun y => Pm w ([.row (.slice y.1.2.2.2.1 y.1.2.2.2.2.2.length y.1.2.2.2.2.1) 31 1 y.1.2.2.2.2.2.length (y.1.2.2.2.2.2.map Sg.val), .oth gx y.1.2.2.1, .oth gm y.1.2.1, .row (.slice (some ⟨ga, 0, none⟩) ((asc (adrs l)).length) ca) 35 1 ((asc (adrs l)).length) (uv (asc (adrs l)))] ++ segG 35 1 uv y.1.2.2.2.2.2)) ?_ ?_
    ·refine TC.seq_ (TC.region ?_)
     refine TL.mv ?_
     refine TL.val rfl rfl rfl (gives_boolnot rfl rfl) ?_
     refine TL.end_ (TX.then_ (TC.condT rfl (TC.seq_ (TC.region ?_))))
     refine TL.mv ?_
     refine TL.val rfl rfl rfl (gives_len rfl Try.underlying28 rfl) ?_
     refine TL.as_ ?_
     refine TL.end_ (TX.then_ (TC.seq_ (TC.region ?_)))
     refine TL.mv ?_
     refine TL.mv ?_
     refine TL.mv ?_
     refine TL.mapset (i := 1) rfl rfl rfl rfl rfl rfl imX rfl hgx hmx (by unfold maxLen; omega) (wf32 (rt_in hu2 har)) (wf64 (by omega)) (fun obx2 hmx2 => ?_)
     rw [hfx] at hmx2
     try dsimp only [List.set_cons_zero, List.set_cons_succ]
     refine TL.end_ (TX.then_ (TC.region ?_))
     refine TL.mv ?_
     refine TL.prowS (e := 31) (size := 1) (cs := [Sg.nil Int].map Sg.val) rfl rfl rfl rfl rfl (fun w => uclbs28_1_58639 _ _ _ w) (by decide) rfl (fun g62 => ?_)
     refine TL.appendT (k := 1) rfl rfl rfl rfl Try.underlying28 uclel28 rfl rfl rfl (fun w1 hw => pm_reads hw (k := 0) rfl) (by intro u hu; rw [List.map_singleton, List.mem_singleton] at hu; subst hu; rfl) (by show _ * 24 ≤ _; omega) ((ss ++ [Sg.nil Int]).length) (by rw [List.length_append]; rfl) ((ss ++ [Sg.nil Int]).map Sg.val) (by rw [List.map_append]) (fun A63 c63 hA631 hA632 => ?_)
     refine TL.as_ ?_
     refine TL.end_ ?_
     exact TX.joined (⟨(ss.length, ob2, obx2, A63, c63, ss ++ [Sg.nil Int]), by simp, by simp; omega, hA631, hA632, hu2, ⟨_, by rw [List.length_append]; exact hmx2, by rw [hss]; exact hix.new hfx⟩, hnew⟩) (⟨rfl, rfl, rfl, rfl, rfl, rfl, rfl, rfl, trivial⟩) (fun w1 hw => (Pm.segNil (P := _) hw.tail rfl))
    ·rintro ⟨⟨k, ob3, obx3, Ap, cp, ts⟩, hk1, hk2, hk3, hk4, hu3, ⟨f3, hmx3, hix3⟩, hcl⟩
     dsimp only at hk1 hk2 hk3 hk4 hu3 hmx3 hcl ⊢
     obtain ⟨s, hs⟩ : ∃ s, ts[k]? = some s := ⟨_, List.getElem?_eq_getElem hk1⟩
     refine TC.fact (p := ∃ g, Ap = some ⟨g, 0, none⟩) (fun w1 hw => rowA hw (k := 0) rfl (by omega)) ?_
     rintro ⟨go, rfl⟩
     have hsl := cls_at hs hcl
     rw [List.length_take] at hsl
     refine TC.mem (fun w1 hw => Pm.segOut (P := _) hw hs) ?_
     refine TC.region ?_
     iterate 4 (first | refine TL.mv ?_)
     refine TL.val rfl rfl rfl (gives_at (v := .pointer (some ⟨go, k, none⟩)) rfl rfl rfl (fun w => at_row Try.underlying28 uclsz31 go _ _ k hk1 rfl w)) ?_
     refine TL.val rfl rfl rfl (pm_loadRow (k := 1) (i := k) rfl rfl uclag31 rfl (by rw [List.getElem?_map, hs]; rfl)) ?_
     refine TL.mv ?_
     refine TL.prowS (e := 35) (size := 1) (cs := uv [a]) rfl rfl rfl rfl rfl (fun w => uclbs31_1_5377 _ w) (by decide) rfl (fun g71 => ?_)
     refine TL.appendT (k := 1) rfl rfl rfl rfl Try.underlying31 uclel31 rfl rfl rfl (fun w1 hw => pm_reads hw (k := 0) rfl) (uv_one _) (by show _ * 4 ≤ _; omega) ((s.l ++ [a]).length) (by rw [List.length_append]; rfl) (uv (s.l ++ [a])) (by rw [uv_app]) (fun A72 c72 hA721 hA722 => ?_)
     refine TL.val rfl rfl rfl (gives_at (v := .pointer (some ⟨go, k, none⟩)) rfl rfl rfl (fun w => at_row Try.underlying28 uclsz31 go _ _ k hk1 rfl w)) ?_
     refine TL.rowset (k := 2) (off := k) (vs := [(⟨A72, c72, s.l ++ [a]⟩ : Sg Int).val]) rfl rfl rfl rfl (v := (⟨A72, c72, s.l ++ [a]⟩ : Sg Int).val) (by rw [show (⟨A72, c72, s.l ++ [a]⟩ : Sg Int).val = .slice A72 (s.l ++ [a]).length c72 from rfl]; rfl) rfl rfl uclsz31 (by intro u hu; rw [List.mem_singleton] at hu; subst hu; rfl) (by rw [List.length_map]; exact hk1) (vals_set ts k _ hk1) ?_
     try dsimp only [List.set_cons_zero, List.set_cons_succ]
     refine TL.end_ (TX.in_normal (TX.then_ (TC.region ?_)))
     refine TL.val rfl rfl rfl (gives_bin rfl rfl rfl (fun w => bin_add_ (r := ((i + 1 : Nat) : Int)) (by simp only [IntKind.wrap_i64]; omega) w)) ?_
     refine TL.mv ?_
     refine TL.end_ ?_
     have hfin : (ts.set k (⟨A72, c72, s.l ++ [a]⟩ : Sg Int)).map (·.l) = cls (repF l) ((asc (adrs l)).take (i + 1)) := by
      rw [hat, ← hcl, List.map_set, List.getD_eq_getElem?_getD, List.getElem?_map, hs]
      rfl
     exact TX.round (⟨(i + 1, ob3, obx3, some ⟨go, 0, none⟩, cp, ts.set k ⟨A72, c72, s.l ++ [a]⟩), hia, by simp only [List.length_set]; omega, by simp only [List.length_set]; omega, hk4, hu3, ⟨f3, by simp only [List.length_set]; exact hmx3, by rw [hat]; exact hix3⟩, hfin⟩) (by show (asc (adrs l)).length - (i + 1) < (asc (adrs l)).length - i; omega) ⟨rfl, rfl, (by (try dsimp only); rw [List.length_set]; rfl), rfl, rfl, rfl, trivial⟩ (fun w1 hw => by (try simp only [List.length_set]); exact Pm.segIn (P := _) hw.tail hk1)
   ·obtain ⟨k, rfl, hkk, hix2⟩ := hix.old hfx
    have hkl : k < ss.length := by rw [hss]; exact (List.getElem?_eq_some_iff.1 hkk).1
    have hold := (congrArg (fun z => z.set k (z.getD k [] ++ [a])) hcs).trans (cls_old hkk).symm
    refine TC.region ?_
    refine TL.mv ?_
    refine TL.mv ?_
    refine TL.val rfl rfl rfl (gives_lookSome rfl rfl rfl imX (i := 1) rfl hmx (wf32 (rt_in hu2 har)) hfx) ?_
    iterate 5 (first | refine TL.as_ ?_ | refine TL.ex ?_ | refine TL.mv ?_)
    refine TL.end_ (TX.then_ ?_)
    refine TC.join (α := {y : Nat × Obj × Obj × Option Addr × Nat × List (Sg Int) // y.1 < y.2.2.2.2.2.length ∧ y.2.2.2.2.2.length ≤ i + 1 ∧ y.2.2.2.2.2.length ≤ y.2.2.2.2.1 ∧ y.2.2.2.2.1 ≤ maxLen ∧ UF y.2.1 n (repF l) ∧ (∃ f, MapII Try.prog 35 3 .u32 .i64 y.2.2.1 y.2.2.2.2.2.length f ∧ IX f (repF l) ((asc (adrs l)).take i ++ [a])) ∧ (y.2.2.2.2.2.map (·.l)).set y.1 ((y.2.2.2.2.2.map (·.l)).getD y.1 [] ++ [a]) = cls (repF l) ((asc (adrs l)).take i ++ [a])}) (fun y => [(3, .map (some gm)), (7, .map (some gx)), (8, .slice y.1.2.2.2.1 y.1.2.2.2.2.2.length y.1.2.2.2.2.1), (39, .slice (some ⟨ga, 0, none⟩) ((asc (adrs l)).length) ca), (40, .int .i64 (((asc (adrs l)).length : Nat) : Int)), (41, .int .i64 ((i : Nat) : Int)), (10, .int .u32 a), (12, .int .i64 ((y.1.1 : Nat) : Int))]) (fun y => Pm w ([.row (.slice y.1.2.2.2.1 y.1.2.2.2.2.2.length y.1.2.2.2.2.1) 31 1 y.1.2.2.2.2.2.length (y.1.2.2.2.2.2.map Sg.val), .oth gx y.1.2.2.1, .oth gm y.1.2.1, .row (.slice (some ⟨ga, 0, none⟩) ((asc (adrs l)).length) ca) 35 1 ((asc (adrs l)).length) (uv (asc (adrs l)))] ++ segG 35 1 uv y.1.2.2.2.2.2)) ?_ ?_
    ·refine TC.seq_ (TC.region ?_)
     refine TL.mv ?_
     refine TL.val rfl rfl rfl (gives_boolnot rfl rfl) ?_
     refine TL.end_ (TX.then_ (TC.condF rfl (TC.skip_ ?_)))
     exact TX.joined (⟨(k, ob2, obx, Ao, co, ss), hkl, by dsimp only; omega, hc1, hc2, hu2, ⟨f, hmx, hix2⟩, hold⟩) (⟨rfl, rfl, rfl, rfl, rfl, rfl, rfl, rfl, trivial⟩) (fun w1 hw => hw)
    ·rintro ⟨⟨k, ob3, obx3, Ap, cp, ts⟩, hk1, hk2, hk3, hk4, hu3, ⟨f3, hmx3, hix3⟩, hcl⟩
     dsimp only at hk1 hk2 hk3 hk4 hu3 hmx3 hcl ⊢
     obtain ⟨s, hs⟩ : ∃ s, ts[k]? = some s := ⟨_, List.getElem?_eq_getElem hk1⟩
     refine TC.fact (p := ∃ g, Ap = some ⟨g, 0, none⟩) (fun w1 hw => rowA hw (k := 0) rfl (by omega)) ?_
     rintro ⟨go, rfl⟩
     have hsl := cls_at hs hcl
     rw [List.length_take] at hsl
     refine TC.mem (fun w1 hw => Pm.segOut (P := _) hw hs) ?_
     refine TC.region ?_
     iterate 4 (first | refine TL.mv ?_)
     refine TL.val rfl rfl rfl (gives_at (v := .pointer (some ⟨go, k, none⟩)) rfl rfl rfl (fun w => at_row Try.underlying28 uclsz31 go _ _ k hk1 rfl w)) ?_
     refine TL.val rfl rfl rfl (pm_loadRow (k := 1) (i := k) rfl rfl uclag31 rfl (by rw [List.getElem?_map, hs]; rfl)) ?_
     refine TL.mv ?_
     refine TL.prowS (e := 35) (size := 1) (cs := uv [a]) rfl rfl rfl rfl rfl (fun w => uclbs31_1_5377 _ w) (by decide) rfl (fun g71 => ?_)
     refine TL.appendT (k := 1) rfl rfl rfl rfl Try.underlying31 uclel31 rfl rfl rfl (fun w1 hw => pm_reads hw (k := 0) rfl) (uv_one _) (by show _ * 4 ≤ _; omega) ((s.l ++ [a]).length) (by rw [List.length_append]; rfl) (uv (s.l ++ [a])) (by rw [uv_app]) (fun A72 c72 hA721 hA722 => ?_)
     refine TL.val rfl rfl rfl (gives_at (v := .pointer (some ⟨go, k, none⟩)) rfl rfl rfl (fun w => at_row Try.underlying28 uclsz31 go _ _ k hk1 rfl w)) ?_
     refine TL.rowset (k := 2) (off := k) (vs := [(⟨A72, c72, s.l ++ [a]⟩ : Sg Int).val]) rfl rfl rfl rfl (v := (⟨A72, c72, s.l ++ [a]⟩ : Sg Int).val) (by rw [show (⟨A72, c72, s.l ++ [a]⟩ : Sg Int).val = .slice A72 (s.l ++ [a]).length c72 from rfl]; rfl) rfl rfl uclsz31 (by intro u hu; rw [List.mem_singleton] at hu; subst hu; rfl) (by rw [List.length_map]; exact hk1) (vals_set ts k _ hk1) ?_
     try dsimp only [List.set_cons_zero, List.set_cons_succ]
     refine TL.end_ (TX.in_normal (TX.then_ (TC.region ?_)))
     refine TL.val rfl rfl rfl (gives_bin rfl rfl rfl (fun w => bin_add_ (r := ((i + 1 : Nat) : Int)) (by simp only [IntKind.wrap_i64]; omega) w)) ?_
     refine TL.mv ?_
     refine TL.end_ ?_
     have hfin : (ts.set k (⟨A72, c72, s.l ++ [a]⟩ : Sg Int)).map (·.l) = cls (repF l) ((asc (adrs l)).take (i + 1)) := by
      rw [hat, ← hcl, List.map_set, List.getD_eq_getElem?_getD, List.getElem?_map, hs]
      rfl
     exact TX.round (⟨(i + 1, ob3, obx3, some ⟨go, 0, none⟩, cp, ts.set k ⟨A72, c72, s.l ++ [a]⟩), hia, by simp only [List.length_set]; omega, by simp only [List.length_set]; omega, hk4, hu3, ⟨f3, by simp only [List.length_set]; exact hmx3, by rw [hat]; exact hix3⟩, hfin⟩) (by show (asc (adrs l)).length - (i + 1) < (asc (adrs l)).length - i; omega) ⟨rfl, rfl, (by (try dsimp only); rw [List.length_set]; rfl), rfl, rfl, rfl, trivial⟩ (fun w1 hw => by (try simp only [List.length_set]); exact Pm.segIn (P := _) hw.tail hk1)
  ·have q42 := of_decide_eq_false h42
   have hi2 : i = (asc (adrs l)).length := by omega
   subst hi2
   rw [List.take_length] at hcs
   refine TL.end_ (TX.then_ (TC.seq_ (TC.condF rfl (TC.exit_ (TX.then_exit (TX.then_exit (TX.in_same (TX.then_ (TC.seq_ (TC.region ?_))))))))))
   refine TL.mv ?_
   refine TL.as_ ?_
   refine TL.end_ (TX.then_ (TC.ret_ ?_))
   exact ret_tmp Try.results35 rfl (fun w1 hw => ⟨⟨((Ao, co), ss), hcs, hc1, hc2⟩, rfl, Pm.sel hw (.cons_cons _ (.cons _ (.cons _ (.cons _ (List.Sublist.refl _)))))⟩)
end Go.Proofs.Ytleckflmckbheaa

namespace Go.Proofs.Ytleckflmckbheaa
open Go.RowKit
set_option maxRecDepth 20000
theorem clsL_nil : clsL [] = [] := by simp [clsL, adrs, asc, cpt, cls, ks, ksF]
noncomputable def clsV (l : List Fc) : List (List Int) := if validF l then clsL l else []
noncomputable instance (l : List Fc) (a b : Int) : Decidable (validF l ∧ repF l a = repF l b) := Classical.propDecidable _
theorem usanm50 : (Try.f50.name == "runtime.NumGoroutine") = false := by decide
theorem usabd50 : Try.f50.body.isNone = false := rfl
theorem usanm51 : (Try.f51.name == "runtime.NumGoroutine") = false := by decide
theorem usabd51 : Try.f51.body.isNone = false := rfl
theorem usanm22 : (Try.f22.name == "runtime.NumGoroutine") = false := by decide
theorem usabd22 : Try.f22.body.isNone = false := rfl
theorem usanm35 : (Try.f35.name == "runtime.NumGoroutine") = false := by decide
theorem usabd35 : Try.f35.body.isNone = false := rfl
theorem usasz42 (w : World) : (sizeOf 42).run Try.prog w = .ok 3 w := rfl
theorem usaag42 (w : World) : (isAgg 42).run Try.prog w = .ok true w := rfl
theorem usazv42 (w : World) : (zeroValue 42).run Try.prog w = .ok (.agg #[.int .i64 0, .int .u32 0, .int .u32 0]) w := rfl
theorem usafld42_1 (g o : Nat) (w : World) : (Instr.fieldAt 42 (.pointer (some ⟨g, o, none⟩)) 1).run Try.prog w = .ok (.pointer (some ⟨g, o + 1, none⟩)) w := by kernel_rfl
theorem usaag35 (w : World) : (isAgg 35).run Try.prog w = .ok false w := rfl
theorem usafld42_2 (g o : Nat) (w : World) : (Instr.fieldAt 42 (.pointer (some ⟨g, o, none⟩)) 2).run Try.prog w = .ok (.pointer (some ⟨g, o + 2, none⟩)) w := by kernel_rfl
theorem usanm36 : (Try.f36.name == "runtime.NumGoroutine") = false := by decide
theorem usabd36 : Try.f36.body.isNone = false := rfl
theorem usanm40 : (Try.f40.name == "runtime.NumGoroutine") = false := by decide
theorem usabd40 : Try.f40.body.isNone = false := rfl
set_option maxHeartbeats 1000000 in
theorem classes_no (A0 : Option Addr) (c0 : Nat) (w : World) : Calls Try.prog 35 #[.slice A0 0 c0] w fun e w' => e = .returned (.slice none 0 0) ∧ Below w.heap.size w w' := by
 refine begin_ (vs := [.slice A0 0 c0]) Try.func35 rfl rfl rfl ?_ (Pm.start w)
 refine TC.seq_ (TC.region ?_)
 refine TL.as_ ?_
 refine TL.end_ (TX.then_ (TC.seq_ (TC.region ?_)))
 refine TL.mkmap rfl rfl rfl rfl (fun gm hgm => ?_)
 refine TL.as_ ?_
 refine TL.end_ (TX.then_ (TC.seq_ (TC.region ?_)))
 refine TL.as_ ?_
 refine TL.end_ (TX.then_ (TC.seq_ (TC.seq_ (TC.region ?_))))
 refine TL.mv ?_
 refine TL.val rfl rfl rfl (gives_len rfl Try.underlying26 rfl) ?_
 refine TL.mv ?_
 refine TL.end_ (TX.then_ (TC.block ?_))
 refine TC.loop_ (α := Unit) (fun y => [(3, .map (some gm)), (4, .slice none 0 0), (15, .slice A0 0 c0), (16, .int .i64 0), (17, .int .i64 0)]) (fun y => Pm w [.oth gm (.map #[] 0)]) (fun y => 0) (()) ⟨rfl, rfl, rfl, rfl, rfl, trivial⟩ (fun w1 hw => hw) ?_
 rintro ⟨⟩
 refine TC.seq_ (TC.region ?_)
 refine TL.val rfl rfl rfl (gives_bin rfl rfl rfl (fun w => bin_lss_f (by decide) w)) ?_
 refine TL.end_ (TX.then_ (TC.seq_ (TC.condF rfl (TC.exit_ (TX.then_exit (TX.then_exit (TX.in_same (TX.then_ (TC.seq_ (TC.region ?_))))))))))
 refine TL.mv ?_
 refine TL.pcall1 (r := .tuple #[]) rfl rfl rfl rfl rfl Try.func50 usanm50 usabd50 (fun w1 hw => sort_nil w1) ?_
 refine TL.end_ (TX.then_ (TC.seq_ (TC.region ?_)))
 refine TL.mkmap rfl rfl rfl rfl (fun gx hgx => ?_)
 refine TL.as_ ?_
 refine TL.end_ (TX.then_ (TC.seq_ (TC.region ?_)))
 refine TL.as_ ?_
 refine TL.end_ (TX.then_ (TC.seq_ (TC.seq_ (TC.region ?_))))
 refine TL.mv ?_
 refine TL.pcall1 (r := .slice none 0 0) rfl rfl rfl rfl rfl Try.func51 usanm51 usabd51 (fun w1 hw => cpt_nil w1) ?_
 refine TL.val rfl rfl rfl (gives_len rfl Try.underlying31 rfl) ?_
 refine TL.mv ?_
 refine TL.end_ (TX.then_ (TC.block ?_))
 refine TC.loop_ (α := Unit) (fun y => [(3, .map (some gm)), (7, .map (some gx)), (8, .slice none 0 0), (39, .slice none 0 0), (40, .int .i64 0), (41, .int .i64 0)]) (fun y => Pm w [.oth gx (.map #[] 0), .oth gm (.map #[] 0)]) (fun y => 0) (()) ⟨rfl, rfl, rfl, rfl, rfl, rfl, trivial⟩ (fun w1 hw => hw) ?_
 rintro ⟨⟩
 refine TC.seq_ (TC.region ?_)
 refine TL.val rfl rfl rfl (gives_bin rfl rfl rfl (fun w => bin_lss_f (by decide) w)) ?_
 refine TL.end_ (TX.then_ (TC.seq_ (TC.condF rfl (TC.exit_ (TX.then_exit (TX.then_exit (TX.in_same (TX.then_ (TC.seq_ (TC.region ?_))))))))))
 refine TL.mv ?_
 refine TL.as_ ?_
 refine TL.end_ (TX.then_ (TC.ret_ ?_))
 exact ret_tmp Try.results35 rfl (fun w1 hw => ⟨rfl, hw.bel⟩)
theorem classes_any (A0 : Option Addr) (n0 c0 : Nat) (l : List Fc) (w : World) (hr : Reads w w.heap.size 3 A0 n0 (fcs l)) (hl : l.length = n0) (hl1 : l.length ≤ 1024) (hok : ∀ f ∈ l, f.Ok) :
  Calls Try.prog 35 #[.slice A0 n0 c0] w fun e w' => ∃ x : {y : (Option Addr × Nat) × List (Sg Int) // y.2.map (·.l) = clsL l ∧ y.2.length ≤ y.1.2 ∧ y.1.2 ≤ maxLen}, e = .returned (.slice x.1.1.1 x.1.2.length x.1.1.2) ∧ Pm w ([.row (.slice x.1.1.1 x.1.2.length x.1.1.2) 31 1 x.1.2.length (x.1.2.map Sg.val)] ++ segG 35 1 uv x.1.2) w' := by
 subst hl
 rcases Nat.eq_zero_or_pos l.length with h0 | h0
 ·obtain rfl := List.eq_nil_of_length_eq_zero h0
  refine (classes_no A0 c0 w).mono fun e w1 ⟨h1, h2⟩ => ⟨⟨((none, 0), []), clsL_nil.symm, Nat.le_refl _, Nat.zero_le _⟩, h1, ?_⟩
  exact ((Pm.start w).below h2).nilrow _ _
 ·exact classes_ne A0 c0 l w hr h0 hl1 hok
set_option maxHeartbeats 1000000 in
theorem clss_any (A0 : Option Addr) (n0 c0 : Nat) (l : List Fc) (w : World) (hr : Reads w w.heap.size 3 A0 n0 (fcs l)) (hl : l.length = n0) (hok : ∀ f ∈ l, f.Ok) :
  Calls Try.prog 11 #[.slice A0 n0 c0] w fun e w' => ∃ x : {y : (Option Addr × Nat) × List (Sg Int) // y.2.map (·.l) = clsV l ∧ y.2.length ≤ y.1.2 ∧ y.1.2 ≤ maxLen}, e = .returned (.slice x.1.1.1 x.1.2.length x.1.1.2) ∧ Pm w ([.row (.slice x.1.1.1 x.1.2.length x.1.1.2) 31 1 x.1.2.length (x.1.2.map Sg.val)] ++ segG 35 1 uv x.1.2) w' := by
 subst hl
 refine begin_ (vs := [.slice A0 l.length c0]) Try.func11 rfl rfl rfl ?_ (Pm.start w)
 refine TC.seq_ (TC.region ?_)
 refine TL.as_ ?_
 refine TL.end_ (TX.then_ (TC.seq_ (TC.seq_ (TC.region ?_))))
 refine TL.mv ?_
 refine TL.callsplit rfl rfl rfl rfl rfl Try.func22 usanm22 usabd22 (fun w1 hw => valid_any A0 _ c0 l w1 ((hr.below hw.bel).more hw.bel.size) rfl) (fun h4 => ?_) (fun h4 => ?_)
 ·have hV : validF l := of_decide_eq_true h4
  refine TL.val rfl rfl rfl (gives_boolnot rfl rfl) ?_
  refine TL.end_ (TX.then_ (TC.condF rfl (TC.skip_ (TX.then_ (TC.seq_ (TC.region ?_))))))
  refine TL.mv ?_
  refine TL.pcallPm (α := {y : (Option Addr × Nat) × List (Sg Int) // y.2.map (·.l) = clsL l ∧ y.2.length ≤ y.1.2 ∧ y.1.2 ≤ maxLen}) (fun y => .slice y.1.1.1 y.1.2.length y.1.1.2) (fun y => [.row (.slice y.1.1.1 y.1.2.length y.1.1.2) 31 1 y.1.2.length (y.1.2.map Sg.val)] ++ segG 35 1 uv y.1.2) rfl rfl rfl rfl rfl Try.func35 usanm35 usabd35 (fun w1 hw => classes_any A0 _ c0 l w1 ((hr.below hw.bel).more hw.bel.size) rfl hV.1 hok) ?_ (fun y => segG_noAbs (e := 35) (size := 1) (enc := uv) y.1.2)
  rintro ⟨⟨⟨A, c⟩, ss⟩, hcs, hc1, hc2⟩
  dsimp only at hcs hc1 hc2 ⊢
  rw [List.append_nil]
  refine TL.as_ ?_
  refine TL.end_ (TX.then_ (TC.ret_ ?_))
  exact ret_tmp Try.results11 rfl (fun w1 hw => ⟨⟨((A, c), ss), hcs.trans (if_pos hV).symm, hc1, hc2⟩, rfl, hw⟩)
 ·have hV : ¬ validF l := of_decide_eq_false h4
  refine TL.val rfl rfl rfl (gives_boolnot rfl rfl) ?_
  refine TL.end_ (TX.then_ (TC.condT rfl (TC.seq_ (TC.region ?_))))
  refine TL.as_ ?_
  refine TL.end_ (TX.then_ (TC.ret_ (TX.then_ret ?_)))
  exact ret_tmp Try.results11 rfl (fun w1 hw => ⟨⟨((none, 0), []), (if_neg hV).symm, Nat.le_refl _, Nat.zero_le _⟩, rfl, hw.nilrow _ _⟩)
set_option maxHeartbeats 1000000 in
theorem same_any (A0 : Option Addr) (n0 c0 : Nat) (l : List Fc) (w : World) (hr : Reads w w.heap.size 3 A0 n0 (fcs l)) (hl : l.length = n0) (hok : ∀ f ∈ l, f.Ok) (a b : Int) (har : 0 ≤ a ∧ a ≤ 4294967295) (hbr : 0 ≤ b ∧ b ≤ 4294967295) :
  Calls Try.prog 17 #[.slice A0 n0 c0, .int .u32 a, .int .u32 b] w fun e w' => e = .returned (.bool (decide (validF l ∧ repF l a = repF l b))) ∧ Below w.heap.size w w' := by
 subst hl
 refine begin_ (vs := [.slice A0 l.length c0, .int .u32 a, .int .u32 b]) Try.func17 rfl rfl rfl ?_ (Pm.start w)
 refine TC.seq_ (TC.region ?_)
 refine TL.as_ ?_
 refine TL.end_ (TX.then_ (TC.seq_ (TC.seq_ (TC.region ?_))))
 refine TL.mv ?_
 refine TL.callsplit rfl rfl rfl rfl rfl Try.func22 usanm22 usabd22 (fun w1 hw => valid_any A0 _ c0 l w1 ((hr.below hw.bel).more hw.bel.size) rfl) (fun h11 => ?_) (fun h11 => ?_)
 ·have hV : validF l := of_decide_eq_true h11
  have hl1 : l.length ≤ 1024 := hV.1
  refine TL.val rfl rfl rfl (gives_boolnot rfl rfl) ?_
  refine TL.end_ (TX.then_ (TC.condF rfl (TC.skip_ (TX.then_ (TC.seq_ (TC.region ?_))))))
  refine TL.mkmap rfl rfl rfl rfl (fun gm hgm => ?_)
  refine TL.as_ ?_
  refine TL.end_ (TX.then_ (TC.seq_ (TC.seq_ (TC.region ?_))))
  refine TL.mv ?_
  refine TL.val rfl rfl rfl (gives_len rfl Try.underlying26 rfl) ?_
  refine TL.mv ?_
  refine TL.end_ (TX.then_ (TC.block ?_))
  refine TC.loop_ (α := {y : Nat × Nat × Obj // y.1 ≤ l.length ∧ y.2.1 ≤ y.1 ∧ UF y.2.2 y.2.1 (repF (l.take y.1))}) (fun y => [(1, .int .u32 a), (2, .int .u32 b), (7, .map (some gm)), (14, .slice A0 l.length c0), (15, .int .i64 ((l.length : Nat) : Int)), (16, .int .i64 ((y.1.1 : Nat) : Int))]) (fun y => Pm w [.oth gm y.1.2.2]) (fun y => l.length - y.1.1) (⟨(0, 0, .map #[] 0), Nat.zero_le _, Nat.le_refl _, ⟨fun _ => none, mapII_new _ _ _ _ _, roots_nil, fun _ _ h => by cases h⟩⟩) ⟨rfl, rfl, rfl, rfl, rfl, rfl, trivial⟩ (fun w1 hw => hw) ?_
  rintro ⟨⟨i, n, ob⟩, hi, hni, hu⟩
  dsimp only at hi hni hu ⊢
  refine TC.seq_ (TC.region ?_)
  refine TL.vsplit rfl rfl rfl (gives_bin rfl rfl rfl (fun w => bin_lss w)) (fun h17 => ?_) (fun h17 => ?_)
  ·have q17 := of_decide_eq_true h17
   have hi2 : i < l.length := by omega
   obtain ⟨x, hx⟩ : ∃ x, l[i]? = some x := ⟨_, List.getElem?_eq_getElem hi2⟩
   obtain ⟨b2, o2, hA2, hbb2, hc2⟩ := hr.ad (by omega) (by decide)
   have hxo := hok x (List.mem_of_getElem? hx)
   have htk : l.take (i + 1) = l.take i ++ [x] := by rw [List.take_add_one, hx]; rfl
   refine TL.end_ (TX.then_ (TC.seq_ (TC.condT rfl (TC.skip_ (TX.then_ (TC.seq_ (TC.block (TC.seq_ (TC.region ?_)))))))))
   refine TL.val rfl rfl rfl (gives_at (v := .pointer (some ⟨b2, o2 + i * 3, none⟩)) rfl rfl rfl (fun w => at_el Try.underlying26 usasz42 hA2 _ _ i hi2 rfl w)) ?_
   refine TL.val rfl rfl rfl (gives_loadR rfl rfl usaag42 usasz42 (fc_cells_len x) (fun w1 hw j u hu => (hw.bel.cell hbb2).trans (fcs_cell hx hc2 j u hu))) ?_
   refine TL.pnew rfl rfl rfl (exec_alloc (cs := [.int .i64 0, .int .u32 0, .int .u32 0]) rfl usazv42 rfl) (fun g9 => ?_)
   refine TL.pstore (k := 0) (vs := x.cells) rfl rfl rfl rfl rfl rfl rfl usasz42 (fc_one x) (by show 3 ≤ 3; decide) (L' := [.blk g9 42 x.cells, .oth gm ob]) rfl ?_
   refine TL.end_ (TX.then_ (TC.region ?_))
   refine TL.mv ?_
   refine TL.val rfl rfl rfl (gives_field (v := .pointer (some ⟨g9, 1, none⟩)) rfl rfl (fun w => usafld42_1 _ _ w)) ?_
   refine TL.val rfl rfl rfl (pm_load (k := 0) (i := 1) rfl rfl usaag35 rfl rfl) ?_
   refine TL.val rfl rfl rfl (gives_field (v := .pointer (some ⟨g9, 2, none⟩)) rfl rfl (fun w => usafld42_2 _ _ w)) ?_
   refine TL.val rfl rfl rfl (pm_load (k := 0) (i := 2) rfl rfl usaag35 rfl rfl) ?_
   refine TL.pcallObj (k := 1) (α := Unit) (fun _ => .bool (decide ((repF (l.take i)) x.a ≠ (repF (l.take i)) x.b))) (fun _ ob2 => ∃ n2, n2 ≤ n + 1 ∧ UF ob2 n2 (repF (l.take (i + 1)))) rfl rfl rfl rfl rfl Try.func36 usanm36 usabd36 rfl hgm (fun w1 hw hb1 => (join_any gm ob n ((repF (l.take i))) w1 hb1 hu (by unfold maxLen; omega) x ⟨hxo.1, hxo.2.1⟩ ⟨hxo.2.2.1, hxo.2.2.2⟩).mono fun e w2 ⟨ob2, n2, h1, h2, h3, h4, h5⟩ => ⟨(), ob2, h1, ⟨n2, h2, by rw [htk, repF_snoc]; exact h3⟩, h4, h5⟩) ?_
   rintro ⟨⟩ ob2 ⟨n2, hn2, hu2⟩
   try dsimp only [List.set_cons_zero, List.set_cons_succ]
   refine TL.end_ (TX.in_normal (TX.then_ (TC.region ?_)))
   refine TL.val rfl rfl rfl (gives_bin rfl rfl rfl (fun w => bin_add_ (r := ((i + 1 : Nat) : Int)) (by simp only [IntKind.wrap_i64]; omega) w)) ?_
   refine TL.mv ?_
   refine TL.end_ ?_
   exact TX.round (⟨(i + 1, n2, ob2), hi2, by dsimp only; omega, hu2⟩) (by show l.length - (i + 1) < l.length - i; omega) ⟨rfl, rfl, rfl, rfl, rfl, rfl, trivial⟩ (fun w1 hw => hw.pick [1] (by decide) rfl)
  ·have q17 := of_decide_eq_false h17
   have hi2 : i = l.length := by omega
   subst hi2
   rw [List.take_length] at hu
   refine TL.end_ (TX.then_ (TC.seq_ (TC.condF rfl (TC.exit_ (TX.then_exit (TX.then_exit (TX.in_same (TX.then_ (TC.seq_ (TC.region ?_))))))))))
   refine TL.mv ?_
   refine TL.mv ?_
   refine TL.pcallObj (k := 0) (α := Unit) (fun _ => .int .u32 ((repF l) a)) (fun _ ob2 => UF ob2 n (repF l)) rfl rfl rfl rfl rfl Try.func40 usanm40 usabd40 rfl hgm (fun w1 hw hb1 => (root_any gm ob n (repF l) w1 hb1 hu (by unfold maxLen; omega) a har).mono fun e w2 ⟨ob2, h1, h2, h3, h4⟩ => ⟨(), ob2, h1, h2, h3, h4⟩) ?_
   rintro ⟨⟩ ob2 hu2
   try dsimp only [List.set_cons_zero, List.set_cons_succ]
   refine TL.mv ?_
   refine TL.mv ?_
   refine TL.pcallObj (k := 0) (α := Unit) (fun _ => .int .u32 ((repF l) b)) (fun _ ob2 => UF ob2 n (repF l)) rfl rfl rfl rfl rfl Try.func40 usanm40 usabd40 rfl hgm (fun w1 hw hb1 => (root_any gm ob2 n (repF l) w1 hb1 hu2 (by unfold maxLen; omega) b hbr).mono fun e w2 ⟨ob2, h1, h2, h3, h4⟩ => ⟨(), ob2, h1, h2, h3, h4⟩) ?_
   rintro ⟨⟩ ob3 hu3
   try dsimp only [List.set_cons_zero, List.set_cons_succ]
   refine TL.vsplit rfl rfl rfl (gives_bin rfl rfl rfl (fun w => bin_eql w)) (fun h33 => ?_) (fun h33 => ?_)
   ·have q33 := of_decide_eq_true h33
    refine TL.as_ ?_
    refine TL.end_ (TX.then_ (TC.ret_ ?_))
    exact ret_tmp Try.results17 rfl (fun w1 hw => ⟨by rw [decide_eq_true ⟨hV, q33⟩], hw.bel⟩)
   ·have q33 := of_decide_eq_false h33
    refine TL.as_ ?_
    refine TL.end_ (TX.then_ (TC.ret_ ?_))
    exact ret_tmp Try.results17 rfl (fun w1 hw => ⟨by rw [decide_eq_false (fun hh => q33 hh.2)], hw.bel⟩)
 ·have hV : ¬ validF l := of_decide_eq_false h11
  refine TL.val rfl rfl rfl (gives_boolnot rfl rfl) ?_
  refine TL.end_ (TX.then_ (TC.condT rfl (TC.seq_ (TC.region ?_))))
  refine TL.as_ ?_
  refine TL.end_ (TX.then_ (TC.ret_ (TX.then_ret ?_)))
  exact ret_tmp Try.results17 rfl (fun w1 hw => ⟨by rw [decide_eq_false (fun hh => hV hh.1)], hw.bel⟩)
end Go.Proofs.Ytleckflmckbheaa

namespace Go.Proofs.Ytleckflmckbheaa
open Go.RowKit
set_option maxRecDepth 20000
theorem same_is (A0 : Option Addr) (n0 c0 : Nat) (l : List Fc) (w : World) (hr : Reads w w.heap.size 3 A0 n0 (fcs l)) (hl : l.length = n0) (hok : ∀ f ∈ l, f.Ok) (a b : Int) (har : 0 ≤ a ∧ a ≤ 4294967295) (hbr : 0 ≤ b ∧ b ≤ 4294967295) {t : Bool} (ht : decide (validF l ∧ repF l a = repF l b) = t) :
  Calls Try.prog 17 #[.slice A0 n0 c0, .int .u32 a, .int .u32 b] w fun e w' => e = .returned (.bool t) ∧ Below w.heap.size w w' := by
 subst ht
 exact same_any A0 n0 c0 l w hr hl hok a b har hbr
theorem ixF_at {l : List Fc} {id : Int} {i : Nat} (h : ixF l id = some i) : ∃ x, l[i]? = some x ∧ x.id = id := by
 unfold ixF at h
 rw [List.findIdx?_eq_some_iff_getElem] at h
 obtain ⟨hlt, h1, _⟩ := h
 exact ⟨_, List.getElem?_eq_getElem hlt, of_decide_eq_true h1⟩
theorem remP_ok {l rm : List Fc} {id : Int} (h : (rm, (0 : Int)) = remP l id) : validF l ∧ ∃ i, ixF l id = some i ∧ rm = l.eraseIdx i := by
 unfold remP at h
 by_cases hV : validF l
 ·rw [if_pos hV] at h
  cases hx : ixF l id with
  | none => rw [hx] at h; simp at h
  | some i => rw [hx] at h; exact ⟨hV, i, rfl, (Prod.mk.inj h).1⟩
 ·rw [if_neg hV] at h; simp at h
theorem FindOk.at_ {l : List Fc} {id : Int} {y : Nat × Bool} (h : FindOk l id y) (ha : Asc l) {i : Nat} {x : Fc} (hx : l[i]? = Option.some x) (e : x.id = id) : y.1 = i := by
 have h1 := h.1.2 i x hx
 have h2 : y.1 ≤ i := Nat.le_of_not_lt fun hh => by have := h1.1 hh; omega
 rcases Nat.lt_or_ge y.1 i with hh | hh
 ·have hlt : i < l.length := (List.getElem?_eq_some_iff.1 hx).1
  obtain ⟨z, hz⟩ : ∃ z, l[y.1]? = Option.some z := ⟨_, List.getElem?_eq_getElem (by omega)⟩
  have h3 := h.1.2 y.1 z hz
  have h4 := ha _ _ z x hh hz hx
  have := h3.2 (by omega)
  omega
 ·omega
def BrOk (l : List Fc) (id : Int) (y : Bool × Int) : Prop := y.2 = (remP l id).2 ∧ (y.2 ≠ 0 → y.1 = false) ∧ (y.2 = 0 → ∃ i x, ixF l id = some i ∧ l[i]? = some x ∧ (y.1 = true ↔ ¬ (validF (l.eraseIdx i) ∧ repF (l.eraseIdx i) x.a = repF (l.eraseIdx i) x.b)))
theorem BrOk.ok {l : List Fc} {id : Int} {i : Nat} {x : Fc} {b : Bool} (hV : validF l) (hi : ixF l id = some i) (hx : l[i]? = some x) (h : b = true ↔ ¬ (validF (l.eraseIdx i) ∧ repF (l.eraseIdx i) x.a = repF (l.eraseIdx i) x.b)) : BrOk l id (b, 0) :=
 ⟨by unfold remP; rw [if_pos hV, hi], fun hh => absurd rfl hh, fun _ => ⟨i, x, hi, hx, h⟩⟩
theorem BrOk.bad {l : List Fc} {id : Int} (h : (remP l id).2 ≠ 0) : BrOk l id (false, (remP l id).2) := ⟨rfl, fun _ => rfl, fun hh => absurd hh h⟩
theorem reads_up {w : World} {B size n : Nat} {A : Option Addr} {xs : List Value} (h : Reads w B size A n xs) (hb : ∀ ad, A = some ad → ad.block < w.heap.size) : Reads w w.heap.size size A n xs :=
 ⟨h.1, fun hn => by obtain ⟨ad, h1, h2, h3⟩ := h.2 hn; exact ⟨ad, h1, hb ad h1, h3⟩⟩
theorem pm_row_lt {w0 : Base} {L : List Pc} {w : World} {A : Option Addr} {e : TypeId} {size n c k : Nat} {xs : List Value} (h : Pm w0 L w) (hk : L[k]? = some (.row (.slice A n c) e size n xs)) : ∀ ad, A = some ad → ad.block < w.heap.size := fun ad hA => by
 subst hA
 exact (Pc.lt (h.at_ hk) ad.block rfl).2
theorem ubrnm20 : (Try.f20.name == "runtime.NumGoroutine") = false := by decide
theorem ubrbd20 : Try.f20.body.isNone = false := rfl
theorem ubrnm41 : (Try.f41.name == "runtime.NumGoroutine") = false := by decide
theorem ubrbd41 : Try.f41.body.isNone = false := rfl
theorem ubrsz42 (w : World) : (sizeOf 42).run Try.prog w = .ok 3 w := rfl
theorem ubrfld42_1 (g o : Nat) (w : World) : (Instr.fieldAt 42 (.pointer (some ⟨g, o, none⟩)) 1).run Try.prog w = .ok (.pointer (some ⟨g, o + 1, none⟩)) w := by kernel_rfl
theorem ubrag35 (w : World) : (isAgg 35).run Try.prog w = .ok false w := rfl
theorem ubrfld42_2 (g o : Nat) (w : World) : (Instr.fieldAt 42 (.pointer (some ⟨g, o, none⟩)) 2).run Try.prog w = .ok (.pointer (some ⟨g, o + 2, none⟩)) w := by kernel_rfl
theorem ubrnm17 : (Try.f17.name == "runtime.NumGoroutine") = false := by decide
theorem ubrbd17 : Try.f17.body.isNone = false := rfl
theorem ubrag42 (w : World) : (isAgg 42).run Try.prog w = .ok true w := rfl
theorem ubrzv42 (w : World) : (zeroValue 42).run Try.prog w = .ok (.agg #[.int .i64 0, .int .u32 0, .int .u32 0]) w := rfl
set_option maxHeartbeats 1000000 in
theorem bridge_any (A0 : Option Addr) (n0 c0 : Nat) (l : List Fc) (w : World) (hr : Reads w w.heap.size 3 A0 n0 (fcs l)) (hl : l.length = n0) (hok : ∀ f ∈ l, f.Ok) (id : Int) :
  Calls Try.prog 19 #[.slice A0 n0 c0, .int .i64 id] w fun e w' => ∃ x : {y : Bool × Int // BrOk l id y}, e = .returned (.tuple #[.bool x.1.1, .int .i64 x.1.2]) ∧ Below w.heap.size w w' := by
 subst hl
 refine begin_ (vs := [.slice A0 l.length c0, .int .i64 id]) Try.func19 rfl rfl rfl ?_ (Pm.start w)
 refine TC.seq_ (TC.region ?_)
 refine TL.as_ ?_
 refine TL.as_ ?_
 refine TL.end_ (TX.then_ (TC.seq_ (TC.region ?_)))
 refine TL.mv ?_
 refine TL.mv ?_
 refine TL.pcallPm (α := {y : (Option Addr × Nat) × List Fc × Int // y.2 = remP l id ∧ y.2.1.length ≤ y.1.2 ∧ y.1.2 ≤ maxLen}) (fun y => .tuple #[.slice y.1.1.1 y.1.2.1.length y.1.1.2, .int .i64 y.1.2.2]) (fun y => [.row (.slice y.1.1.1 y.1.2.1.length y.1.1.2) 42 3 y.1.2.1.length (fcs y.1.2.1)]) rfl rfl rfl rfl rfl Try.func20 ubrnm20 ubrbd20 (fun w1 hw => rem_any A0 _ c0 l w1 ((hr.below hw.bel).more hw.bel.size) rfl id) ?_
 rintro ⟨⟨⟨AA, cc⟩, rm, e0⟩, hrm, hcc1, hcc2⟩
 dsimp only [List.cons_append, List.nil_append] at hrm hcc1 hcc2 ⊢
 iterate 5 (first | refine TL.as_ ?_ | refine TL.ex ?_ | refine TL.mv ?_)
 refine TL.end_ (TX.then_ (TC.seq_ (TC.seq_ (TC.region ?_))))
 refine TL.mv ?_
 refine TL.vsplit rfl rfl rfl (gives_bin rfl rfl rfl (fun w => bin_neq w)) (fun h17 => ?_) (fun h17 => ?_)
 ·have q17 := of_decide_eq_true h17
  refine TL.end_ (TX.then_ (TC.condT rfl (TC.seq_ (TC.region ?_))))
  refine TL.mv ?_
  refine TL.as_ ?_
  refine TL.as_ ?_
  refine TL.end_ (TX.then_ (TC.ret_ (TX.then_ret ?_)))
  exact ret_pair Try.results19 rfl rfl (fun w1 hw => ⟨⟨(false, e0), by rw [show e0 = (remP l id).2 by rw [← hrm]]; exact BrOk.bad (by rw [← hrm]; exact q17)⟩, rfl, hw.bel⟩)
 ·have q17 := of_decide_eq_false h17
  have he0 : e0 = 0 := Decidable.byContradiction q17
  subst he0
  obtain ⟨hV, i0, hix, hrl⟩ := remP_ok hrm
  have hl1 : l.length ≤ 1024 := hV.1
  refine TL.end_ (TX.then_ (TC.condF rfl (TC.skip_ (TX.then_ (TC.seq_ (TC.region ?_))))))
  refine TL.mv ?_
  refine TL.mv ?_
  refine TL.pcallPm (α := {y : Nat × Bool // FindOk l id y}) (fun y => .tuple #[.int .i64 ((y.1.1 : Nat) : Int), .bool y.1.2]) (fun y => []) rfl rfl rfl rfl rfl Try.func41 ubrnm41 ubrbd41 (fun w1 hw => (find_any A0 _ c0 l w1 ((hr.below hw.bel).more hw.bel.size) rfl (by omega) hV.asc id).mono fun e w2 ⟨x, h1, h2⟩ => ⟨x, h1, (Pm.start w1).below h2⟩) ?_
  rintro ⟨⟨i, b⟩, hib⟩
  dsimp only [List.cons_append, List.nil_append]
  iterate 5 (first | refine TL.as_ ?_ | refine TL.ex ?_ | refine TL.mv ?_)
  refine TL.end_ (TX.then_ (TC.seq_ ?_))
  obtain ⟨x, hx, hxi⟩ := ixF_at hix
  have hi0 : i = i0 := by have h1 := hib.at_ hV.asc hx hxi; exact h1
  subst hi0
  have hil := (List.getElem?_eq_some_iff.1 hx).1
  obtain ⟨b2, o2, hA2, hbb2, hc2⟩ := hr.ad (by omega) (by decide)
  have hxo := hok x (List.mem_of_getElem? hx)
  have hokr : ∀ f ∈ rm, f.Ok := by rw [hrl]; exact fun f hf => hok f (List.mem_of_mem_eraseIdx hf)
  rcases Classical.em (validF rm ∧ repF rm x.a = repF rm x.b) with hs | hs
  ·refine TC.quiet_ (E' := ?_) (by kernel_rfl) (by kernel_rfl) (fun w hw => hw.drawn _) ?_ ?_
   rotate_left
   ·refine TQ.val rfl rfl rfl (gives_move rfl rfl) ?_
    refine TQ.val rfl rfl rfl (gives_move rfl rfl) ?_
    refine TQ.val rfl rfl rfl (gives_move rfl rfl) ?_
    refine TQ.val rfl rfl rfl (gives_at (v := .pointer (some ⟨b2, o2 + i * 3, none⟩)) rfl rfl rfl (fun w => at_el Try.underlying26 ubrsz42 hA2 _ _ i hil rfl w)) ?_
    refine TQ.val rfl rfl rfl (gives_field (v := .pointer (some ⟨b2, o2 + i * 3 + 1, none⟩)) rfl rfl (fun w => ubrfld42_1 _ _ w)) ?_
    refine TQ.val rfl rfl rfl (gives_load (v := .int .u32 x.a) rfl rfl ubrag35 (fun w1 hw => (hw.bel.cell hbb2).trans (fcs_cell hx hc2 1 _ rfl))) ?_
    refine TQ.val rfl rfl rfl (gives_move rfl rfl) ?_
    refine TQ.val rfl rfl rfl (gives_move rfl rfl) ?_
    refine TQ.val rfl rfl rfl (gives_at (v := .pointer (some ⟨b2, o2 + i * 3, none⟩)) rfl rfl rfl (fun w => at_el Try.underlying26 ubrsz42 hA2 _ _ i hil rfl w)) ?_
    refine TQ.val rfl rfl rfl (gives_field (v := .pointer (some ⟨b2, o2 + i * 3 + 2, none⟩)) rfl rfl (fun w => ubrfld42_2 _ _ w)) ?_
    refine TQ.val rfl rfl rfl (gives_load (v := .int .u32 x.b) rfl rfl ubrag35 (fun w1 hw => (hw.bel.cell hbb2).trans (fcs_cell hx hc2 2 _ rfl))) ?_
    refine TQ.call (v := .bool true) rfl rfl rfl rfl rfl Try.func17 ubrnm17 ubrbd17 (fun w1 hw => (same_is AA _ cc rm w1 (by obtain ⟨B9, h8⟩ := pm_reads hw (k := 0) rfl; exact reads_up h8 (pm_row_lt hw (k := 0) rfl)) rfl hokr x.a x.b ⟨hxo.1, hxo.2.1⟩ ⟨hxo.2.2.1, hxo.2.2.2⟩ (decide_eq_true hs)).mono fun en w2 ⟨h1, h2⟩ => ⟨h1, hw.below h2⟩) ?_
    refine TQ.val rfl rfl rfl (gives_boolnot rfl rfl) ?_
    refine TQ.val rfl rfl rfl (gives_assign rfl rfl) ?_
    refine TQ.val rfl rfl rfl (gives_assign rfl rfl) ?_
    exact TQ.end_
   refine TX.then_ (TC.ret_ ?_)
   exact ret_pair Try.results19 rfl rfl (fun w1 hw => ⟨⟨(false, 0), BrOk.ok hV hix hx (by rw [← hrl]; exact iff_of_false (by simp) (fun hh => hh hs))⟩, rfl, hw.bel⟩)
  ·refine TC.quiet_ (E' := ?_) (by kernel_rfl) (by kernel_rfl) (fun w hw => hw.drawn _) ?_ ?_
   rotate_left
   ·refine TQ.val rfl rfl rfl (gives_move rfl rfl) ?_
    refine TQ.val rfl rfl rfl (gives_move rfl rfl) ?_
    refine TQ.val rfl rfl rfl (gives_move rfl rfl) ?_
    refine TQ.val rfl rfl rfl (gives_at (v := .pointer (some ⟨b2, o2 + i * 3, none⟩)) rfl rfl rfl (fun w => at_el Try.underlying26 ubrsz42 hA2 _ _ i hil rfl w)) ?_
    refine TQ.val rfl rfl rfl (gives_field (v := .pointer (some ⟨b2, o2 + i * 3 + 1, none⟩)) rfl rfl (fun w => ubrfld42_1 _ _ w)) ?_
    refine TQ.val rfl rfl rfl (gives_load (v := .int .u32 x.a) rfl rfl ubrag35 (fun w1 hw => (hw.bel.cell hbb2).trans (fcs_cell hx hc2 1 _ rfl))) ?_
    refine TQ.val rfl rfl rfl (gives_move rfl rfl) ?_
    refine TQ.val rfl rfl rfl (gives_move rfl rfl) ?_
    refine TQ.val rfl rfl rfl (gives_at (v := .pointer (some ⟨b2, o2 + i * 3, none⟩)) rfl rfl rfl (fun w => at_el Try.underlying26 ubrsz42 hA2 _ _ i hil rfl w)) ?_
    refine TQ.val rfl rfl rfl (gives_field (v := .pointer (some ⟨b2, o2 + i * 3 + 2, none⟩)) rfl rfl (fun w => ubrfld42_2 _ _ w)) ?_
    refine TQ.val rfl rfl rfl (gives_load (v := .int .u32 x.b) rfl rfl ubrag35 (fun w1 hw => (hw.bel.cell hbb2).trans (fcs_cell hx hc2 2 _ rfl))) ?_
    refine TQ.call (v := .bool false) rfl rfl rfl rfl rfl Try.func17 ubrnm17 ubrbd17 (fun w1 hw => (same_is AA _ cc rm w1 (by obtain ⟨B9, h8⟩ := pm_reads hw (k := 0) rfl; exact reads_up h8 (pm_row_lt hw (k := 0) rfl)) rfl hokr x.a x.b ⟨hxo.1, hxo.2.1⟩ ⟨hxo.2.2.1, hxo.2.2.2⟩ (decide_eq_false hs)).mono fun en w2 ⟨h1, h2⟩ => ⟨h1, hw.below h2⟩) ?_
    refine TQ.val rfl rfl rfl (gives_boolnot rfl rfl) ?_
    refine TQ.val rfl rfl rfl (gives_assign rfl rfl) ?_
    refine TQ.val rfl rfl rfl (gives_assign rfl rfl) ?_
    exact TQ.end_
   refine TX.then_ (TC.ret_ ?_)
   exact ret_pair Try.results19 rfl rfl (fun w1 hw => ⟨⟨(true, 0), BrOk.ok hV hix hx (by rw [← hrl]; exact iff_of_true rfl hs)⟩, rfl, hw.bel⟩)
set_option maxHeartbeats 1000000 in
theorem check_any (A0 : Option Addr) (n0 c0 : Nat) (l : List Fc) (w : World) (hr : Reads w w.heap.size 3 A0 n0 (fcs l)) (hl : l.length = n0) (hok : ∀ f ∈ l, f.Ok) (hl1 : l.length ≤ 100000) (a b : Int) :
  Calls Try.prog 18 #[.slice A0 n0 c0, .int .u32 a, .int .u32 b] w fun e w' => e = .returned (.bool (decide (chkF l a = some b))) ∧ Below w.heap.size w w' := by
 subst hl
 refine begin_ (vs := [.slice A0 l.length c0, .int .u32 a, .int .u32 b]) Try.func18 rfl rfl rfl ?_ (Pm.start w)
 refine TC.seq_ (TC.region ?_)
 refine TL.as_ ?_
 refine TL.end_ (TX.then_ (TC.seq_ (TC.region ?_)))
 refine TL.mv ?_
 refine TL.as_ ?_
 refine TL.end_ (TX.then_ (TC.seq_ (TC.seq_ (TC.region ?_))))
 refine TL.mv ?_
 refine TL.val rfl rfl rfl (gives_len rfl Try.underlying26 rfl) ?_
 refine TL.mv ?_
 refine TL.end_ (TX.then_ (TC.block ?_))
 refine TC.loop_ (α := {y : Nat × Int // y.1 ≤ l.length ∧ chkF l a = chkF (l.drop y.1) y.2}) (fun y => [(2, .int .u32 b), (7, .int .u32 y.1.2), (11, .slice A0 l.length c0), (12, .int .i64 ((l.length : Nat) : Int)), (13, .int .i64 ((y.1.1 : Nat) : Int))]) (fun y => Pm w []) (fun y => l.length - y.1.1) (⟨(0, a), Nat.zero_le _, rfl⟩) ⟨rfl, rfl, rfl, rfl, rfl, trivial⟩ (fun w1 hw => hw) ?_
 rintro ⟨⟨i, at0⟩, hi, hch⟩
 dsimp only at hi hch ⊢
 refine TC.seq_ (TC.region ?_)
 refine TL.vsplit rfl rfl rfl (gives_bin rfl rfl rfl (fun w => bin_lss w)) (fun h14 => ?_) (fun h14 => ?_)
 ·have q14 := of_decide_eq_true h14
  have hi2 : i < l.length := by omega
  obtain ⟨x, hx⟩ : ∃ x, l[i]? = some x := ⟨_, List.getElem?_eq_getElem hi2⟩
  obtain ⟨b2, o2, hA2, hbb2, hc2⟩ := hr.ad (by omega) (by decide)
  have hxo := hok x (List.mem_of_getElem? hx)
  have htk : l.take (i + 1) = l.take i ++ [x] := by rw [List.take_add_one, hx]; rfl
  have hdr : l.drop i = x :: l.drop (i + 1) := by rw [← (List.getElem?_eq_some_iff.1 hx).2]; exact List.drop_eq_getElem_cons hi2
  refine TL.end_ (TX.then_ (TC.seq_ (TC.condT rfl (TC.skip_ (TX.then_ (TC.seq_ (TC.block (TC.seq_ (TC.region ?_)))))))))
  refine TL.val rfl rfl rfl (gives_at (v := .pointer (some ⟨b2, o2 + i * 3, none⟩)) rfl rfl rfl (fun w => at_el Try.underlying26 ubrsz42 hA2 _ _ i hi2 rfl w)) ?_
  refine TL.val rfl rfl rfl (gives_loadR rfl rfl ubrag42 ubrsz42 (fc_cells_len x) (fun w1 hw j u hu => (hw.bel.cell hbb2).trans (fcs_cell hx hc2 j u hu))) ?_
  refine TL.pnew rfl rfl rfl (exec_alloc (cs := [.int .i64 0, .int .u32 0, .int .u32 0]) rfl ubrzv42 rfl) (fun g9 => ?_)
  refine TL.pstore (k := 0) (vs := x.cells) rfl rfl rfl rfl rfl rfl rfl ubrsz42 (fc_one x) (by show 3 ≤ 3; decide) (L' := [.blk g9 42 x.cells]) rfl ?_
  refine TL.end_ (TX.then_ (TC.seq_ (TC.seq_ ?_)))
  have hway : x.a = x.b ∨ (¬ x.a = x.b ∧ x.a ≠ at0 ∧ x.b ≠ at0) ∨ (¬ x.a = x.b ∧ x.a ≠ at0 ∧ x.b = at0) ∨ (¬ x.a = x.b ∧ x.a = at0) := by omega
  rcases hway with p1 | ⟨p1, p2, p3⟩ | ⟨p1, p2, p3⟩ | ⟨p1, p2⟩
  ·have hN : chkF l a = none := by rw [hch, hdr]; unfold chkF; rw [if_pos (.inl p1)]
   refine TC.region ?_
   refine TL.val rfl rfl rfl (gives_field (v := .pointer (some ⟨g9, 1, none⟩)) rfl rfl (fun w => ubrfld42_1 _ _ w)) ?_
   refine TL.val rfl rfl rfl (pm_load (k := 0) (i := 1) rfl rfl ubrag35 rfl rfl) ?_
   refine TL.val rfl rfl rfl (gives_field (v := .pointer (some ⟨g9, 2, none⟩)) rfl rfl (fun w => ubrfld42_2 _ _ w)) ?_
   refine TL.val rfl rfl rfl (pm_load (k := 0) (i := 2) rfl rfl ubrag35 rfl rfl) ?_
   refine TL.val rfl rfl rfl (gives_bin rfl rfl rfl (fun w => bin_eql_t (p1) w)) ?_
   iterate 12 (first | refine TL.of ?_ | refine TL.offU rfl rfl rfl rfl rfl ?_ | refine TL.mv ?_ | refine TL.pk ?_)
   refine TL.end_ (TX.then_ (TC.condT rfl (TC.seq_ (TC.region ?_))))
   refine TL.as_ ?_
   refine TL.end_ (TX.then_ (TC.ret_ (TX.then_ret (TX.in_ret (TX.then_ret (TX.then_ret (TX.in_ret (TX.then_ret ?_))))))))
   exact ret_tmp Try.results18 rfl (fun w1 hw => ⟨by rw [hN, decide_eq_false (fun hh => by cases hh)], hw.bel⟩)
  ·have hN : chkF l a = none := by rw [hch, hdr]; unfold chkF; rw [if_pos (.inr ⟨p2, p3⟩)]
   refine TC.region ?_
   refine TL.val rfl rfl rfl (gives_field (v := .pointer (some ⟨g9, 1, none⟩)) rfl rfl (fun w => ubrfld42_1 _ _ w)) ?_
   refine TL.val rfl rfl rfl (pm_load (k := 0) (i := 1) rfl rfl ubrag35 rfl rfl) ?_
   refine TL.val rfl rfl rfl (gives_field (v := .pointer (some ⟨g9, 2, none⟩)) rfl rfl (fun w => ubrfld42_2 _ _ w)) ?_
   refine TL.val rfl rfl rfl (pm_load (k := 0) (i := 2) rfl rfl ubrag35 rfl rfl) ?_
   refine TL.val rfl rfl rfl (gives_bin rfl rfl rfl (fun w => bin_eql_f (p1) w)) ?_
   refine TL.mv ?_
   refine TL.gu ?_
   refine TL.val rfl rfl rfl (gives_field (v := .pointer (some ⟨g9, 1, none⟩)) rfl rfl (fun w => ubrfld42_1 _ _ w)) ?_
   refine TL.gu ?_
   refine TL.val rfl rfl rfl (pm_load (k := 0) (i := 1) rfl rfl ubrag35 rfl rfl) ?_
   refine TL.gu ?_
   refine TL.mv ?_
   refine TL.gu ?_
   refine TL.val rfl rfl rfl (gives_bin rfl rfl rfl (fun w => bin_neq_t (p2) w)) ?_
   refine TL.gu ?_
   refine TL.mv ?_
   refine TL.gu ?_
   refine TL.val rfl rfl rfl (gives_field (v := .pointer (some ⟨g9, 2, none⟩)) rfl rfl (fun w => ubrfld42_2 _ _ w)) ?_
   refine TL.gu ?_
   refine TL.val rfl rfl rfl (pm_load (k := 0) (i := 2) rfl rfl ubrag35 rfl rfl) ?_
   refine TL.gu ?_
   refine TL.mv ?_
   refine TL.gu ?_
   refine TL.val rfl rfl rfl (gives_bin rfl rfl rfl (fun w => bin_neq_t (p3) w)) ?_
   refine TL.gu ?_
   refine TL.pk ?_
   refine TL.pk ?_
   refine TL.end_ (TX.then_ (TC.condT rfl (TC.seq_ (TC.region ?_))))
   refine TL.as_ ?_
   refine TL.end_ (TX.then_ (TC.ret_ (TX.then_ret (TX.in_ret (TX.then_ret (TX.then_ret (TX.in_ret (TX.then_ret ?_))))))))
   exact ret_tmp Try.results18 rfl (fun w1 hw => ⟨by rw [hN, decide_eq_false (fun hh => by cases hh)], hw.bel⟩)
  ·have hxb := xor_back ⟨hxo.1, hxo.2.1⟩ ⟨hxo.2.2.1, hxo.2.2.2⟩
   have hxor : bits .xor .u32 at0 (bits .xor .u32 x.a x.b) = oth x at0 := by rw [← p3, hxb.2]; unfold oth; rw [if_neg (fun hh => p1 hh)]
   have hnx : chkF l a = chkF (l.drop (i + 1)) (oth x at0) := by rw [hch, hdr, chkF, if_neg (by rintro (hh | ⟨_, hh⟩); (exact p1 hh); exact hh p3)]
   refine TC.region ?_
   refine TL.val rfl rfl rfl (gives_field (v := .pointer (some ⟨g9, 1, none⟩)) rfl rfl (fun w => ubrfld42_1 _ _ w)) ?_
   refine TL.val rfl rfl rfl (pm_load (k := 0) (i := 1) rfl rfl ubrag35 rfl rfl) ?_
   refine TL.val rfl rfl rfl (gives_field (v := .pointer (some ⟨g9, 2, none⟩)) rfl rfl (fun w => ubrfld42_2 _ _ w)) ?_
   refine TL.val rfl rfl rfl (pm_load (k := 0) (i := 2) rfl rfl ubrag35 rfl rfl) ?_
   refine TL.val rfl rfl rfl (gives_bin rfl rfl rfl (fun w => bin_eql_f (p1) w)) ?_
   refine TL.mv ?_
   refine TL.gu ?_
   refine TL.val rfl rfl rfl (gives_field (v := .pointer (some ⟨g9, 1, none⟩)) rfl rfl (fun w => ubrfld42_1 _ _ w)) ?_
   refine TL.gu ?_
   refine TL.val rfl rfl rfl (pm_load (k := 0) (i := 1) rfl rfl ubrag35 rfl rfl) ?_
   refine TL.gu ?_
   refine TL.mv ?_
   refine TL.gu ?_
   refine TL.val rfl rfl rfl (gives_bin rfl rfl rfl (fun w => bin_neq_t (p2) w)) ?_
   refine TL.gu ?_
   refine TL.mv ?_
   refine TL.gu ?_
   refine TL.val rfl rfl rfl (gives_field (v := .pointer (some ⟨g9, 2, none⟩)) rfl rfl (fun w => ubrfld42_2 _ _ w)) ?_
   refine TL.gu ?_
   refine TL.val rfl rfl rfl (pm_load (k := 0) (i := 2) rfl rfl ubrag35 rfl rfl) ?_
   refine TL.gu ?_
   refine TL.mv ?_
   refine TL.gu ?_
   refine TL.val rfl rfl rfl (gives_bin rfl rfl rfl (fun w => bin_neq_f (p3) w)) ?_
   refine TL.gu ?_
   refine TL.pk ?_
   refine TL.pk ?_
   refine TL.end_ (TX.then_ (TC.condF rfl (TC.skip_ (TX.then_ (TC.region ?_)))))
   refine TL.mv ?_
   refine TL.val rfl rfl rfl (gives_field (v := .pointer (some ⟨g9, 1, none⟩)) rfl rfl (fun w => ubrfld42_1 _ _ w)) ?_
   refine TL.val rfl rfl rfl (pm_load (k := 0) (i := 1) rfl rfl ubrag35 rfl rfl) ?_
   refine TL.val rfl rfl rfl (gives_field (v := .pointer (some ⟨g9, 2, none⟩)) rfl rfl (fun w => ubrfld42_2 _ _ w)) ?_
   refine TL.val rfl rfl rfl (pm_load (k := 0) (i := 2) rfl rfl ubrag35 rfl rfl) ?_
   refine TL.val rfl rfl rfl (gives_bin rfl rfl rfl (fun w => bin_bits (.inr (.inr rfl)) w)) ?_
   refine TL.val rfl rfl rfl (gives_bin (v := .int .u32 (oth x at0)) rfl rfl rfl (fun w => by rw [bin_bits (.inr (.inr rfl)) w, hxor])) ?_
   refine TL.as_ ?_
   refine TL.end_ (TX.in_normal (TX.then_ (TC.region ?_)))
   refine TL.val rfl rfl rfl (gives_bin rfl rfl rfl (fun w => bin_add_ (r := ((i + 1 : Nat) : Int)) (by simp only [IntKind.wrap_i64]; omega) w)) ?_
   refine TL.mv ?_
   refine TL.end_ ?_
   exact TX.round (⟨(i + 1, oth x at0), hi2, hnx⟩) (by show l.length - (i + 1) < l.length - i; omega) ⟨rfl, rfl, rfl, rfl, rfl, trivial⟩ (fun w1 hw => hw.pick [] (by decide) rfl)
  ·have hxb := xor_back ⟨hxo.1, hxo.2.1⟩ ⟨hxo.2.2.1, hxo.2.2.2⟩
   have hxor : bits .xor .u32 at0 (bits .xor .u32 x.a x.b) = oth x at0 := by rw [← p2, hxb.1]; unfold oth; rw [if_pos rfl]
   have hnx : chkF l a = chkF (l.drop (i + 1)) (oth x at0) := by rw [hch, hdr, chkF, if_neg (by rintro (hh | ⟨hh, _⟩); (exact p1 hh); exact hh p2)]
   refine TC.region ?_
   refine TL.val rfl rfl rfl (gives_field (v := .pointer (some ⟨g9, 1, none⟩)) rfl rfl (fun w => ubrfld42_1 _ _ w)) ?_
   refine TL.val rfl rfl rfl (pm_load (k := 0) (i := 1) rfl rfl ubrag35 rfl rfl) ?_
   refine TL.val rfl rfl rfl (gives_field (v := .pointer (some ⟨g9, 2, none⟩)) rfl rfl (fun w => ubrfld42_2 _ _ w)) ?_
   refine TL.val rfl rfl rfl (pm_load (k := 0) (i := 2) rfl rfl ubrag35 rfl rfl) ?_
   refine TL.val rfl rfl rfl (gives_bin rfl rfl rfl (fun w => bin_eql_f (p1) w)) ?_
   refine TL.mv ?_
   refine TL.gu ?_
   refine TL.val rfl rfl rfl (gives_field (v := .pointer (some ⟨g9, 1, none⟩)) rfl rfl (fun w => ubrfld42_1 _ _ w)) ?_
   refine TL.gu ?_
   refine TL.val rfl rfl rfl (pm_load (k := 0) (i := 1) rfl rfl ubrag35 rfl rfl) ?_
   refine TL.gu ?_
   refine TL.mv ?_
   refine TL.gu ?_
   refine TL.val rfl rfl rfl (gives_bin rfl rfl rfl (fun w => bin_neq_f (p2) w)) ?_
   iterate 9 (first | refine TL.of ?_ | refine TL.gu ?_ | refine TL.pk ?_ | refine TL.mv ?_)
   refine TL.end_ (TX.then_ (TC.condF rfl (TC.skip_ (TX.then_ (TC.region ?_)))))
   refine TL.mv ?_
   refine TL.val rfl rfl rfl (gives_field (v := .pointer (some ⟨g9, 1, none⟩)) rfl rfl (fun w => ubrfld42_1 _ _ w)) ?_
   refine TL.val rfl rfl rfl (pm_load (k := 0) (i := 1) rfl rfl ubrag35 rfl rfl) ?_
   refine TL.val rfl rfl rfl (gives_field (v := .pointer (some ⟨g9, 2, none⟩)) rfl rfl (fun w => ubrfld42_2 _ _ w)) ?_
   refine TL.val rfl rfl rfl (pm_load (k := 0) (i := 2) rfl rfl ubrag35 rfl rfl) ?_
   refine TL.val rfl rfl rfl (gives_bin rfl rfl rfl (fun w => bin_bits (.inr (.inr rfl)) w)) ?_
   refine TL.val rfl rfl rfl (gives_bin (v := .int .u32 (oth x at0)) rfl rfl rfl (fun w => by rw [bin_bits (.inr (.inr rfl)) w, hxor])) ?_
   refine TL.as_ ?_
   refine TL.end_ (TX.in_normal (TX.then_ (TC.region ?_)))
   refine TL.val rfl rfl rfl (gives_bin rfl rfl rfl (fun w => bin_add_ (r := ((i + 1 : Nat) : Int)) (by simp only [IntKind.wrap_i64]; omega) w)) ?_
   refine TL.mv ?_
   refine TL.end_ ?_
   exact TX.round (⟨(i + 1, oth x at0), hi2, hnx⟩) (by show l.length - (i + 1) < l.length - i; omega) ⟨rfl, rfl, rfl, rfl, rfl, trivial⟩ (fun w1 hw => hw.pick [] (by decide) rfl)
 ·have q14 := of_decide_eq_false h14
  refine TL.end_ (TX.then_ (TC.seq_ (TC.condF rfl (TC.exit_ (TX.then_exit (TX.then_exit (TX.in_same (TX.then_ (TC.seq_ (TC.region ?_))))))))))
  refine TL.mv ?_
  refine TL.mv ?_
  refine TL.vsplit rfl rfl rfl (gives_bin rfl rfl rfl (fun w => bin_eql w)) (fun h44 => ?_) (fun h44 => ?_)
  ·have q44 := of_decide_eq_true h44
   refine TL.as_ ?_
   refine TL.end_ (TX.then_ (TC.ret_ ?_))
   have hE : chkF l a = some at0 := by rw [hch, List.drop_eq_nil_of_le (by omega)]; rfl
   exact ret_tmp Try.results18 rfl (fun w1 hw => ⟨by rw [hE, decide_eq_true (by rw [q44])], hw.bel⟩)
  ·have q44 := of_decide_eq_false h44
   refine TL.as_ ?_
   refine TL.end_ (TX.then_ (TC.ret_ ?_))
   have hE : chkF l a = some at0 := by rw [hch, List.drop_eq_nil_of_le (by omega)]; rfl
   exact ret_tmp Try.results18 rfl (fun w1 hw => ⟨by rw [hE, decide_eq_false (fun hh => q44 (Option.some.inj hh))], hw.bel⟩)
end Go.Proofs.Ytleckflmckbheaa

namespace Go.Proofs.Ytleckflmckbheaa
open Go.RowKit
set_option maxRecDepth 20000
structure Rvd (l : List Fc) (i j : Nat) (ys : List Fc) : Prop where
 len : ys.length = l.length
 sum : i + j + 1 = l.length
 out : ∀ p, p < i ∨ j < p → p < l.length → ys[p]? = l[l.length - 1 - p]?
 ins : ∀ p, i ≤ p → p ≤ j → ys[p]? = l[p]?
theorem Rvd.start (l : List Fc) (j : Nat) (h : 0 + j + 1 = l.length) : Rvd l 0 j l := ⟨rfl, h, fun p hp hl => by omega, fun _ _ _ => rfl⟩
theorem Rvd.step {l ys : List Fc} {i j : Nat} {x y : Fc} (h : Rvd l i j ys) (hij : i < j) (hj : j < ys.length) (hx : ys[i]? = some x) (hy : ys[j]? = some y) : Rvd l (i + 1) (j - 1) ((ys.set i y).set j x) := by
 have hs := h.sum
 have hlen := h.len
 have get : ∀ p, ((ys.set i y).set j x)[p]? = if j = p then some x else if i = p then some y else ys[p]? := fun p => by
  rw [List.getElem?_set, List.length_set, List.getElem?_set]
  by_cases e : j = p
  ·rw [if_pos e, if_pos e, if_pos (by omega)]
  ·rw [if_neg e, if_neg e]
   by_cases e2 : i = p
   ·rw [if_pos e2, if_pos e2, if_pos (by omega)]
   ·rw [if_neg e2, if_neg e2]
 refine ⟨by rw [List.length_set, List.length_set]; exact hlen, by omega, fun p hp hl => ?_, fun p h1 h2 => ?_⟩
 ·rw [get]
  by_cases e : j = p
  ·rw [if_pos e, ← hx, h.ins i (Nat.le_refl _) (by omega)]; congr 1; omega
  ·rw [if_neg e]
   by_cases e2 : i = p
   ·rw [if_pos e2, ← hy, h.ins j (by omega) (Nat.le_refl _)]; congr 1; omega
   ·rw [if_neg e2]; exact h.out p (by omega) hl
 ·rw [get, if_neg (by omega), if_neg (by omega)]; exact h.ins p (by omega) (by omega)
theorem Rvd.done {l ys : List Fc} {i j : Nat} (h : Rvd l i j ys) (hij : j ≤ i) : ys = l.reverse := by
 refine List.ext_getElem? fun p => ?_
 by_cases hp : p < l.length
 ·rw [List.getElem?_reverse hp]
  by_cases e : i ≤ p ∧ p ≤ j
  ·rw [h.ins p e.1 e.2]; congr 1; have := h.sum; omega
  ·exact h.out p (by omega) hp
 ·rw [List.getElem?_eq_none (by rw [h.len]; omega), List.getElem?_eq_none (by rw [List.length_reverse]; omega)]
theorem fcs_set (ys : List Fc) (i : Nat) (x : Fc) (h : i < ys.length) : (fcs ys).take (0 + i * 3) ++ x.cells ++ (fcs ys).drop (0 + i * 3 + x.cells.length) = fcs (ys.set i x) := by
 rw [Nat.zero_add, fc_cells_len, show i * 3 + 3 = (i + 1) * 3 by omega, fcs_take, fcs_drop, List.set_eq_take_append_cons_drop, if_pos h, fcs_app]
 rw [List.append_assoc]
 rfl
theorem fc_row {w0 : Base} {L : List Pc} {w : World} {k g n c i : Nat} {e : TypeId} {l : List Fc} {x : Fc} (h : Pm w0 L w) (hk : L[k]? = some (.row (.slice (some ⟨g, 0, none⟩) n c) e 3 n (fcs l))) (hx : l[i]? = some x) (q : Nat) (u : Value) (hu : x.cells[q]? = some u) : w.cell? ⟨g, 0 + i * 3 + q, none⟩ = some u := by
 have hq : q < 3 := by have := (List.getElem?_eq_some_iff.1 hu).1; simpa [Fc.cells] using this
 rw [Nat.zero_add]
 exact pm_row h hk (by rw [fcs_ix hx q hq]; exact hu)
theorem urvsz42 (w : World) : (sizeOf 42).run Try.prog w = .ok 3 w := rfl
theorem urvag42 (w : World) : (isAgg 42).run Try.prog w = .ok true w := rfl
set_option maxHeartbeats 1000000 in
theorem frev_nil (w : World) : Calls Try.prog 39 #[.slice none 0 0] w fun e w' => e = .returned (.tuple #[]) ∧ Below w.heap.size w w' := by
 refine begin_ (vs := [.slice none 0 0]) Try.func39 rfl rfl rfl ?_ (Pm.start w)
 refine TC.seq_ (TC.region ?_)
 refine TL.mv ?_
 refine TL.val rfl rfl rfl (gives_len rfl Try.underlying26 rfl) ?_
 refine TL.val rfl rfl rfl (gives_bin rfl rfl rfl (fun w => bin_sub_ (r := -1) (by decide) w)) ?_
 refine TL.as_ ?_
 refine TL.as_ ?_
 refine TL.end_ (TX.then_ (TC.block ?_))
 refine TC.loop_ (α := Unit) (fun y => [(0, .slice none 0 0), (2, .int .i64 0), (3, .int .i64 (-1))]) (fun y => Pm w []) (fun y => 0) (()) ⟨rfl, rfl, rfl, trivial⟩ (fun w1 hw => hw) ?_
 rintro ⟨⟩
 refine TC.seq_ (TC.seq_ (TC.region ?_))
 refine TL.mv ?_
 refine TL.mv ?_
 refine TL.val rfl rfl rfl (gives_bin rfl rfl rfl (fun w => bin_lss_f (by decide) w)) ?_
 refine TL.end_ (TX.then_ (TC.condF rfl (TC.exit_ (TX.then_exit (TX.then_exit (TX.in_same ?_))))))
 exact end_none Try.results39 (fun w1 hw => ⟨rfl, hw.bel⟩)
set_option maxHeartbeats 1000000 in
theorem frev_any (g n c : Nat) (l : List Fc) (w : World) (h : RwG 42 3 w g n c (fcs l)) (hn : l.length = n) (h0 : 0 < n) (hl1 : n ≤ 100000) : Calls Try.prog 39 #[.slice (some ⟨g, 0, none⟩) n c] w fun e w' => e = .returned (.tuple #[]) ∧ RwG 42 3 w' g n c (fcs l.reverse) ∧ w.grownBy w' (some g) := by
 refine begin_ (vs := [.slice (some ⟨g, 0, none⟩) n c]) (I := Pm ⟨wbut w g, g⟩ (.row (.slice (some ⟨g, 0, none⟩) n c) 42 3 n (fcs l) :: oths g w)) Try.func39 rfl rfl rfl ?_ (Pm.rowStartG h)
 refine TC.seq_ (TC.region ?_)
 refine TL.mv ?_
 refine TL.val rfl rfl rfl (gives_len rfl Try.underlying26 rfl) ?_
 refine TL.val rfl rfl rfl (gives_bin rfl rfl rfl (fun w => bin_sub_ (r := ((n - 1 : Nat) : Int)) (by simp only [IntKind.wrap_i64]; omega) w)) ?_
 refine TL.as_ ?_
 refine TL.as_ ?_
 refine TL.end_ (TX.then_ (TC.block ?_))
 refine TC.loop_ (α := {y : Nat × Nat × List Fc // y.1 + y.2.1 + 1 = n ∧ Rvd l y.1 y.2.1 y.2.2}) (fun y => [(0, .slice (some ⟨g, 0, none⟩) n c), (2, .int .i64 ((y.1.1 : Nat) : Int)), (3, .int .i64 ((y.1.2.1 : Nat) : Int))]) (fun y => Pm ⟨wbut w g, g⟩ ([.row (.slice (some ⟨g, 0, none⟩) n c) 42 3 n (fcs y.1.2.2)] ++ oths g w)) (fun y => y.1.2.1) (⟨(0, n - 1, l), by dsimp only; omega, Rvd.start l _ (by dsimp only; omega)⟩) ⟨rfl, rfl, rfl, trivial⟩ (fun w1 hw => hw) ?_
 rintro ⟨⟨i, j, ys⟩, hij, hI⟩
 dsimp only at hij hI ⊢
 have hly := hI.len
 refine TC.seq_ (TC.seq_ (TC.region ?_))
 refine TL.mv ?_
 refine TL.mv ?_
 refine TL.vsplit rfl rfl rfl (gives_bin rfl rfl rfl (fun w => bin_lss w)) (fun h9 => ?_) (fun h9 => ?_)
 ·have q9 := of_decide_eq_true h9
  obtain ⟨x, hx⟩ : ∃ x, ys[i]? = some x := ⟨_, List.getElem?_eq_getElem (by omega)⟩
  obtain ⟨y, hy⟩ : ∃ y, ys[j]? = some y := ⟨_, List.getElem?_eq_getElem (by omega)⟩
  refine TL.end_ (TX.then_ (TC.condT rfl (TC.skip_ (TX.then_ (TC.seq_ (TC.block ?_))))))
  refine TC.held (ls := #[Ff,Ff,Ff,Ff,Ff,Ff,Ff,Ff,Ff,Ff,Ff,Ff,Ff,Ff,Ff,Ff]) (fun _ => True) (by kernel_rfl) rfl rfl (fun w hw => hw.drawn _) ?_
  refine TH.tk (listed' := #[Tt,Ff,Ff,Ff,Ff,Ff,Ff,Ff,Ff,Ff,Ff,Ff,Ff,Ff,Ff,Ff]) 0 rfl rfl rfl (gives_move rfl rfl) (fun _ _ => trivial) ?_
  refine TH.tk (listed' := #[Tt,Tt,Ff,Ff,Ff,Ff,Ff,Ff,Ff,Ff,Ff,Ff,Ff,Ff,Ff,Ff]) 1 rfl rfl rfl (gives_move rfl rfl) (fun _ _ => trivial) ?_
  refine TH.tk (listed' := #[Tt,Tt,Tt,Ff,Ff,Ff,Ff,Ff,Ff,Ff,Ff,Ff,Ff,Ff,Ff,Ff]) 2 rfl rfl rfl (gives_move rfl rfl) (fun _ _ => trivial) ?_
  refine TH.tk (listed' := #[Tt,Tt,Tt,Tt,Ff,Ff,Ff,Ff,Ff,Ff,Ff,Ff,Ff,Ff,Ff,Ff]) 3 rfl rfl rfl (gives_move rfl rfl) (fun _ _ => trivial) ?_
  refine TH.tk (listed' := #[Tt,Tt,Tt,Tt,Tt,Ff,Ff,Ff,Ff,Ff,Ff,Ff,Ff,Ff,Ff,Ff]) 4 rfl rfl rfl (gives_move rfl rfl) (fun _ _ => trivial) ?_
  refine TH.tk (listed' := #[Tt,Tt,Tt,Tt,Tt,Tt,Ff,Ff,Ff,Ff,Ff,Ff,Ff,Ff,Ff,Ff]) 5 rfl rfl rfl (gives_move rfl rfl) (fun _ _ => trivial) ?_
  refine TH.tk (listed' := #[Tt,Tt,Tt,Tt,Tt,Tt,Tt,Ff,Ff,Ff,Ff,Ff,Ff,Ff,Ff,Ff]) 6 rfl rfl rfl (gives_at (v := .pointer (some ⟨g, 0 + j * 3, none⟩)) rfl rfl rfl (fun w => at_el Try.underlying26 urvsz42 rfl _ _ j (by omega) rfl w)) (fun _ _ => trivial) ?_
  refine TH.tk (listed' := #[Tt,Tt,Tt,Tt,Tt,Tt,Tt,Ff,Tt,Ff,Ff,Ff,Ff,Ff,Ff,Ff]) 8 rfl rfl rfl (gives_move rfl rfl) (fun _ _ => trivial) ?_
  refine TH.tk (listed' := #[Tt,Tt,Tt,Tt,Tt,Tt,Tt,Ff,Tt,Tt,Ff,Ff,Ff,Ff,Ff,Ff]) 9 rfl rfl rfl (gives_move rfl rfl) (fun _ _ => trivial) ?_
  refine TH.tk (listed' := #[Tt,Tt,Tt,Tt,Tt,Tt,Tt,Ff,Tt,Tt,Tt,Ff,Ff,Ff,Ff,Ff]) 10 rfl rfl rfl (gives_at (v := .pointer (some ⟨g, 0 + i * 3, none⟩)) rfl rfl rfl (fun w => at_el Try.underlying26 urvsz42 rfl _ _ i (by omega) rfl w)) (fun _ _ => trivial) ?_
  refine TH.two' (listed1 := #[Tt,Tt,Tt,Tt,Tt,Tt,Tt,Tt,Tt,Tt,Tt,Ff,Ff,Ff,Ff,Ff]) (listed2 := #[Tt,Tt,Tt,Tt,Tt,Tt,Tt,Ff,Tt,Tt,Tt,Tt,Ff,Ff,Ff,Ff]) 7 11 rfl rfl (by kernel_rfl) rfl rfl ?_ ?_
  ·refine TL.val rfl rfl rfl (gives_loadR (off := 0 + j * 3) rfl rfl urvag42 urvsz42 (fc_cells_len y) (fun w1 hw q u hu => fc_row hw (k := 0) rfl hy q u hu)) ?_
   refine TL.end_ ?_
   refine TX.held (fun _ _ => trivial) ?_
   refine TH.only' (listed' := #[Tt,Tt,Tt,Tt,Tt,Tt,Tt,Tt,Tt,Tt,Tt,Tt,Ff,Ff,Ff,Ff]) 11 rfl (by kernel_rfl) rfl ?_
   refine TL.val rfl rfl rfl (gives_loadR (off := 0 + i * 3) rfl rfl urvag42 urvsz42 (fc_cells_len x) (fun w1 hw q u hu => fc_row hw (k := 0) rfl hx q u hu)) ?_
   refine TL.end_ ?_
   refine TX.held (fun _ _ => trivial) ?_
   refine TH.tk (listed' := #[Tt,Tt,Tt,Tt,Tt,Tt,Tt,Tt,Tt,Tt,Tt,Tt,Tt,Ff,Ff,Ff]) 12 rfl rfl rfl (gives_at (v := .pointer (some ⟨g, 0 + i * 3, none⟩)) rfl rfl rfl (fun w => at_el Try.underlying26 urvsz42 rfl _ _ i (by omega) rfl w)) (fun _ _ => trivial) ?_
   refine TH.only' (listed' := #[Tt,Tt,Tt,Tt,Tt,Tt,Tt,Tt,Tt,Tt,Tt,Tt,Tt,Tt,Ff,Ff]) 13 rfl (by kernel_rfl) rfl ?_
   refine TL.rowset (k := 0) (off := 0 + i * 3) (vs := y.cells) rfl rfl rfl rfl rfl rfl rfl urvsz42 (fc_one _) (by rw [fcs_len, fc_cells_len]; skip; omega) (xs' := fcs (ys.set i y)) (fcs_set ys i y (by skip; omega)) ?_
   try dsimp only [List.set_cons_zero]
   refine TL.end_ ?_
   refine TX.held (fun _ _ => trivial) ?_
   refine TH.tk (listed' := #[Tt,Tt,Tt,Tt,Tt,Tt,Tt,Tt,Tt,Tt,Tt,Tt,Tt,Tt,Tt,Ff]) 14 rfl rfl rfl (gives_at (v := .pointer (some ⟨g, 0 + j * 3, none⟩)) rfl rfl rfl (fun w => at_el Try.underlying26 urvsz42 rfl _ _ j (by omega) rfl w)) (fun _ _ => trivial) ?_
   refine TH.only' (listed' := #[Tt,Tt,Tt,Tt,Tt,Tt,Tt,Tt,Tt,Tt,Tt,Tt,Tt,Tt,Tt,Tt]) 15 rfl (by kernel_rfl) rfl ?_
   refine TL.rowset (k := 0) (off := 0 + j * 3) (vs := x.cells) rfl rfl rfl rfl rfl rfl rfl urvsz42 (fc_one _) (by rw [fcs_len, fc_cells_len]; (try rw [List.length_set]); omega) (xs' := fcs ((ys.set i y).set j x)) (fcs_set (ys.set i y) j x (by (try rw [List.length_set]); omega)) ?_
   try dsimp only [List.set_cons_zero]
   refine TL.end_ ?_
   refine TX.held (fun _ _ => trivial) ?_
   refine TH.done (by kernel_rfl) ?_
   refine TX.in_normal (TX.then_ (TC.region ?_))
   refine TL.mv ?_
   refine TL.val rfl rfl rfl (gives_bin rfl rfl rfl (fun w => bin_add_ (r := ((i + 1 : Nat) : Int)) (by simp only [IntKind.wrap_i64]; omega) w)) ?_
   refine TL.mv ?_
   refine TL.val rfl rfl rfl (gives_bin rfl rfl rfl (fun w => bin_sub_ (r := ((j - 1 : Nat) : Int)) (by simp only [IntKind.wrap_i64]; omega) w)) ?_
   refine TL.as_ ?_
   refine TL.as_ ?_
   refine TL.end_ ?_
   exact TX.round (⟨(i + 1, j - 1, (ys.set i y).set j x), by dsimp only; omega, hI.step (by omega) (by omega) hx hy⟩) (by show j - 1 < j; omega) ⟨rfl, rfl, rfl, trivial⟩ (fun w1 hw => hw)
  ·refine TL.val rfl rfl rfl (gives_loadR (off := 0 + i * 3) rfl rfl urvag42 urvsz42 (fc_cells_len x) (fun w1 hw q u hu => fc_row hw (k := 0) rfl hx q u hu)) ?_
   refine TL.end_ ?_
   refine TX.held (fun _ _ => trivial) ?_
   refine TH.only' (listed' := #[Tt,Tt,Tt,Tt,Tt,Tt,Tt,Tt,Tt,Tt,Tt,Tt,Ff,Ff,Ff,Ff]) 7 rfl (by kernel_rfl) rfl ?_
   refine TL.val rfl rfl rfl (gives_loadR (off := 0 + j * 3) rfl rfl urvag42 urvsz42 (fc_cells_len y) (fun w1 hw q u hu => fc_row hw (k := 0) rfl hy q u hu)) ?_
   refine TL.end_ ?_
   refine TX.held (fun _ _ => trivial) ?_
   refine TH.tk (listed' := #[Tt,Tt,Tt,Tt,Tt,Tt,Tt,Tt,Tt,Tt,Tt,Tt,Tt,Ff,Ff,Ff]) 12 rfl rfl rfl (gives_at (v := .pointer (some ⟨g, 0 + i * 3, none⟩)) rfl rfl rfl (fun w => at_el Try.underlying26 urvsz42 rfl _ _ i (by omega) rfl w)) (fun _ _ => trivial) ?_
   refine TH.only' (listed' := #[Tt,Tt,Tt,Tt,Tt,Tt,Tt,Tt,Tt,Tt,Tt,Tt,Tt,Tt,Ff,Ff]) 13 rfl (by kernel_rfl) rfl ?_
   refine TL.rowset (k := 0) (off := 0 + i * 3) (vs := y.cells) rfl rfl rfl rfl rfl rfl rfl urvsz42 (fc_one _) (by rw [fcs_len, fc_cells_len]; skip; omega) (xs' := fcs (ys.set i y)) (fcs_set ys i y (by skip; omega)) ?_
   try dsimp only [List.set_cons_zero]
   refine TL.end_ ?_
   refine TX.held (fun _ _ => trivial) ?_
   refine TH.tk (listed' := #[Tt,Tt,Tt,Tt,Tt,Tt,Tt,Tt,Tt,Tt,Tt,Tt,Tt,Tt,Tt,Ff]) 14 rfl rfl rfl (gives_at (v := .pointer (some ⟨g, 0 + j * 3, none⟩)) rfl rfl rfl (fun w => at_el Try.underlying26 urvsz42 rfl _ _ j (by omega) rfl w)) (fun _ _ => trivial) ?_
   refine TH.only' (listed' := #[Tt,Tt,Tt,Tt,Tt,Tt,Tt,Tt,Tt,Tt,Tt,Tt,Tt,Tt,Tt,Tt]) 15 rfl (by kernel_rfl) rfl ?_
   refine TL.rowset (k := 0) (off := 0 + j * 3) (vs := x.cells) rfl rfl rfl rfl rfl rfl rfl urvsz42 (fc_one _) (by rw [fcs_len, fc_cells_len]; (try rw [List.length_set]); omega) (xs' := fcs ((ys.set i y).set j x)) (fcs_set (ys.set i y) j x (by (try rw [List.length_set]); omega)) ?_
   try dsimp only [List.set_cons_zero]
   refine TL.end_ ?_
   refine TX.held (fun _ _ => trivial) ?_
   refine TH.done (by kernel_rfl) ?_
   refine TX.in_normal (TX.then_ (TC.region ?_))
   refine TL.mv ?_
   refine TL.val rfl rfl rfl (gives_bin rfl rfl rfl (fun w => bin_add_ (r := ((i + 1 : Nat) : Int)) (by simp only [IntKind.wrap_i64]; omega) w)) ?_
   refine TL.mv ?_
   refine TL.val rfl rfl rfl (gives_bin rfl rfl rfl (fun w => bin_sub_ (r := ((j - 1 : Nat) : Int)) (by simp only [IntKind.wrap_i64]; omega) w)) ?_
   refine TL.as_ ?_
   refine TL.as_ ?_
   refine TL.end_ ?_
   exact TX.round (⟨(i + 1, j - 1, (ys.set i y).set j x), by dsimp only; omega, hI.step (by omega) (by omega) hx hy⟩) (by show j - 1 < j; omega) ⟨rfl, rfl, rfl, trivial⟩ (fun w1 hw => hw)
 ·have q9 := of_decide_eq_false h9
  have hE : ys = l.reverse := hI.done (by omega)
  refine TL.end_ (TX.then_ (TC.condF rfl (TC.exit_ (TX.then_exit (TX.then_exit (TX.in_same ?_))))))
  exact end_none Try.results39 (fun w1 hw => ⟨rfl, by rw [← hE]; exact pm_rowAtG hw (k := 0) rfl, hw.mapEnd (fun q hq => by simp [hq])⟩)
end Go.Proofs.Ytleckflmckbheaa

namespace Go.Proofs.Ytleckflmckbheaa
open Go.RowKit
structure MKey (P : Program) (k : TypeId) {κ : Type} (enc : κ → Value) (Ok : κ → Prop) : Prop where
  keyed : Maps.Keyed P k
  lit : ∀ a, Ok a → ∃ l, keyOf P k (enc a) = some l
  inj : ∀ a b, enc a = enc b → a = b
def MapG {κ : Type} (enc : κ → Value) (Ok : κ → Prop) (o : Obj) (f : κ → Option Value) : Prop :=
  ∃ (es : Array MapEntry) (clock : Nat), o = .map es clock ∧ (∀ e ∈ es.toList, ∃ a, Ok a ∧ e.key = enc a) ∧ (es.toList.map (·.key)).Nodup ∧ ∀ a v, f a = some v ↔ ∃ e ∈ es.toList, e.key = enc a ∧ e.val = v
section
variable {P : Program} {t k e : TypeId} {κ : Type} {enc : κ → Value} {Ok : κ → Prop} {o : Obj} {g : Nat} {f : κ → Option Value} {w : World}
theorem mapG_new (enc : κ → Value) (Ok : κ → Prop) : MapG enc Ok (.map #[] 0) (fun _ => none) :=
  ⟨#[], 0, rfl, fun e h => absurd h List.not_mem_nil, List.nodup_nil, fun a v => ⟨fun h => by (cases h), fun ⟨e, h, _⟩ => absurd h List.not_mem_nil⟩⟩
theorem MapG.find {es : Array MapEntry} {clock : Nat} (h : MapG enc Ok (.map es clock) f) (K : MKey P k enc Ok) {a : κ} (ha : Ok a) (w : World) :
    ((Instr.findKey k (enc a) es.toList).run P w = .ok none w ∧ f a = none) ∨ ∃ j e, (Instr.findKey k (enc a) es.toList).run P w = .ok (some (j, e.val)) w ∧ es[j]? = some e ∧ e.key = enc a ∧ f a = some e.val := by
  obtain ⟨es', clock', he, hk, hnd, hf⟩ := h
  cases he
  obtain ⟨l, hl⟩ := K.lit a ha
  rcases K.keyed.find w hl es.toList (fun e he => by obtain ⟨b, hb, e1⟩ := hk e he; rw [e1]; exact K.lit b hb) with ⟨h1, h2⟩ | ⟨j, e, h1, h2, h3⟩
  · refine .inl ⟨h1, ?_⟩
    cases hfa : f a with
    | none => rfl
    | some v =>
      obtain ⟨e, he, e1, _⟩ := (hf a v).1 hfa
      exact absurd e1 (h2 e he)
  · refine .inr ⟨j, e, h1, by simpa using h2, h3, (hf a e.val).2 ⟨e, List.mem_of_getElem? h2, h3, rfl⟩⟩
theorem MapG.look (h : MapG enc Ok o f) (K : MKey P k enc Ok) (ht : P.underlying t = some (.map k e)) {z : Value} (hz : ∀ w : World, (zeroValue e).run P w = .ok z w) (hb : w.heap[g]? = some o) {a : κ} (ha : Ok a) (co : Bool) :
    (Instr.lookup t (.map (some g)) (enc a) co).run P w = .ok (if co then .tuple #[(f a).getD z, .bool (f a).isSome] else (f a).getD z) w := by
  obtain ⟨es, clock, he, _⟩ := id h
  subst he
  obtain ⟨l, hl⟩ := K.lit a ha
  have hck := K.keyed.check w es.isEmpty hl
  have hgo : (getObj g).run P w = .ok (.map es clock) w := by simp [getObj, Sem.run, hb]
  unfold Instr.lookup
  rcases h.find K ha w with ⟨h1, h2⟩ | ⟨j, e', h1, h2, h3, h4⟩
  · simp [run_underlying ht, hgo, hck, h1, hz, h2]
  · simp [run_underlying ht, hgo, hck, h1, h4]
theorem MapG.put (h : MapG enc Ok o f) (K : MKey P k enc Ok) (ht : P.underlying t = some (.map k e)) (hb : w.heap[g]? = some o) {a : κ} (ha : Ok a) (v : Value) [DecidableEq κ] :
    ∃ o' w', (Instr.mapUpdate t (.map (some g)) (enc a) v).run P w = .ok () w' ∧ w'.heap[g]? = some o' ∧ MapG enc Ok o' (fun x => if x = a then some v else f x) ∧ w.grownBy w' (some g) := by
  obtain ⟨es, clock, he, hk, hnd, hf⟩ := id h
  subst he
  obtain ⟨l, hl⟩ := K.lit a ha
  have hck := K.keyed.check w false hl
  have hst := K.keyed.stays w hl
  have hgo : (getObj g).run P w = .ok (.map es clock) w := by simp [getObj, Sem.run, hb]
  have hlt : g < w.heap.size := (Array.getElem?_eq_some_iff.1 hb).1
  have hso : ∀ ob : Obj, (setObj g ob).run P w = .ok () (w.putObj g ob) := fun ob => by simp [setObj, Sem.run, hb, World.putObj]
  rcases h.find K ha w with ⟨h1, h2⟩ | ⟨j, e', h1, h2, h3, h4⟩
  · refine ⟨.map (es.push ⟨enc a, v, clock⟩) (clock + 1), w.putObj g (.map (es.push ⟨enc a, v, clock⟩) (clock + 1)), ?_, ?_, ⟨_, _, rfl, ?_, ?_, ?_⟩, grownBy_putObj' w g _⟩
    · unfold Instr.mapUpdate
      simp [run_underlying ht, hgo, hck, h1, hso]
    · simp [World.putObj, hlt]
    · intro e1 he1
      simp only [Array.toList_push, List.mem_append, List.mem_singleton] at he1
      rcases he1 with he1 | rfl
      · exact hk e1 he1
      · exact ⟨a, ha, rfl⟩
    · simp only [Array.toList_push, List.map_append, List.map_cons, List.map_nil]
      refine List.nodup_append.2 ⟨hnd, List.pairwise_singleton _ _, fun x hx y hy e1 => ?_⟩
      rw [List.mem_singleton] at hy
      obtain ⟨e2, he2, e3⟩ := List.mem_map.1 hx
      have := (hf a e2.val).2 ⟨e2, he2, by rw [e3, e1, hy], rfl⟩
      rw [h2] at this
      cases this
    · intro x u
      simp only [Array.toList_push, List.mem_append, List.mem_singleton]
      show (if x = a then some v else f x) = some u ↔ _
      by_cases e1 : x = a
      · subst e1
        rw [if_pos rfl]
        constructor
        · intro hu
          cases hu
          exact ⟨_, .inr rfl, rfl, rfl⟩
        · rintro ⟨e2, he2 | rfl, e3, e4⟩
          · have := (hf x e2.val).2 ⟨e2, he2, e3, rfl⟩
            rw [h2] at this
            cases this
          · rw [← e4]
      · rw [if_neg e1, hf]
        constructor
        · rintro ⟨e2, he2, e3⟩
          exact ⟨e2, .inl he2, e3⟩
        · rintro ⟨e2, he2 | rfl, e3⟩
          · exact ⟨e2, he2, e3⟩
          · exact absurd (K.inj _ _ e3.1).symm e1
  · have hjl : j < es.size := (Array.getElem?_eq_some_iff.1 h2).1
    refine ⟨.map (es.modify j fun e => { key := enc a, val := v, born := e.born }) clock, w.putObj g (.map (es.modify j fun e => { key := enc a, val := v, born := e.born }) clock), ?_, ?_, ⟨_, _, rfl, ?_, ?_, ?_⟩, grownBy_putObj' w g _⟩
    · unfold Instr.mapUpdate
      simp [run_underlying ht, hgo, hck, h1, h2, h3, hst, hso]
    · simp [World.putObj, hlt]
    all_goals
      have hm : (es.modify j fun e => { key := enc a, val := v, born := e.born }).toList = es.toList.set j ⟨enc a, v, e'.born⟩ := by
        refine List.ext_getElem? fun i => ?_
        rw [Array.getElem?_toList, Array.getElem?_modify, List.getElem?_set]
        by_cases e1 : j = i
        · subst e1
          rw [if_pos rfl, if_pos rfl, h2, if_pos (by simpa using hjl)]
          rfl
        · rw [if_neg e1, if_neg e1, Array.getElem?_toList]
      rw [hm]
    · intro e1 he1
      rcases List.mem_or_eq_of_mem_set he1 with h5 | rfl
      · exact hk e1 h5
      · exact ⟨a, ha, rfl⟩
    · have : (es.toList.set j ⟨enc a, v, e'.born⟩).map (·.key) = es.toList.map (·.key) := by
        rw [List.map_set]
        refine List.ext_getElem? fun i => ?_
        rw [List.getElem?_set]
        by_cases e1 : j = i
        · subst e1
          rw [if_pos rfl, if_pos (by simpa using hjl), List.getElem?_map, Array.getElem?_toList, h2]
          simp [h3]
        · rw [if_neg e1]
      rw [this]
      exact hnd
    · have hdist : ∀ i e1, es.toList[i]? = some e1 → e1.key = enc a → i = j := fun i e1 hi hk1 => by
        have hi' : i < (es.toList.map (·.key)).length := by rw [List.length_map]; exact (List.getElem?_eq_some_iff.1 hi).1
        refine (List.getElem?_inj hi' hnd).1 ?_
        rw [List.getElem?_map, List.getElem?_map, hi, Array.getElem?_toList, h2]
        simp [hk1, h3]
      intro x u
      show (if x = a then some v else f x) = some u ↔ _
      by_cases e1 : x = a
      · subst e1
        rw [if_pos rfl]
        constructor
        · intro hu
          cases hu
          exact ⟨⟨enc x, v, e'.born⟩, List.mem_set (by rw [Array.length_toList]; exact hjl) _, rfl, rfl⟩
        · rintro ⟨e2, he2, e3, e4⟩
          obtain ⟨i, hi⟩ := List.getElem?_of_mem he2
          rw [List.getElem?_set] at hi
          by_cases e5 : j = i
          · rw [if_pos e5, if_pos (by rw [Array.length_toList]; exact hjl)] at hi
            cases hi
            rw [← e4]
          · rw [if_neg e5] at hi
            exact absurd (hdist i e2 hi e3).symm e5
      · rw [if_neg e1, hf]
        constructor
        · rintro ⟨e2, he2, e3, e4⟩
          obtain ⟨i, hi⟩ := List.getElem?_of_mem he2
          have hij : j ≠ i := fun hh => by
            subst hh
            rw [Array.getElem?_toList, h2] at hi
            cases hi
            rw [h3] at e3
            exact e1 (K.inj _ _ e3).symm
          exact ⟨e2, List.mem_of_getElem? (i := i) (by rw [List.getElem?_set, if_neg hij]; exact hi), e3, e4⟩
        · rintro ⟨e2, he2, e3, e4⟩
          rcases List.mem_or_eq_of_mem_set he2 with h5 | rfl
          · exact ⟨e2, h5, e3, e4⟩
          · exact absurd (K.inj _ _ e3).symm e1
end
section
variable {P : Program} {N : Fr} {Q : Exit → Act → World → Prop} {E : Env} {w0 : Base} {L : List Pc} {ops : Array Oper} {l : List Oper} {o : Oper} {κ : Type} {enc : κ → Value} {Ok : κ → Prop} {t k e : TypeId}
theorem gives_lookG {x y : Operand} {g i : Nat} {ob : Obj} {f : κ → Option Value} {a : κ} {z : Value} (ho : o.op = .lookup t x y false) (hx : ev E x = some (.map (some g))) (hy : ev E y = some (enc a)) (K : MKey P k enc Ok) (ht : P.underlying t = some (.map k e)) (hz : ∀ w : World, (zeroValue e).run P w = .ok z w) (hk : L[i]? = some (.oth g ob)) (hm : MapG enc Ok ob f) (ha : Ok a) {v : Value} (hv : (f a).getD z = v) :
    Gives P N o E (Pm w0 L) v := fun ac w hac hw => by
  unfold execOp; rw [ho]
  subst hv
  simp [hac.eval hx, hac.eval hy, hm.look K ht hz (hw.at_ hk).1 ha false]
theorem gives_lookGOk {x y : Operand} {g i : Nat} {ob : Obj} {f : κ → Option Value} {a : κ} {z : Value} (ho : o.op = .lookup t x y true) (hx : ev E x = some (.map (some g))) (hy : ev E y = some (enc a)) (K : MKey P k enc Ok) (ht : P.underlying t = some (.map k e)) (hz : ∀ w : World, (zeroValue e).run P w = .ok z w) (hk : L[i]? = some (.oth g ob)) (hm : MapG enc Ok ob f) (ha : Ok a) {v : Value} {b : Bool} (hv : (f a).getD z = v) (hb : (f a).isSome = b) :
    Gives P N o E (Pm w0 L) (.tuple #[v, .bool b]) := fun ac w hac hw => by
  unfold execOp; rw [ho]
  subst hv hb
  simp [hac.eval hx, hac.eval hy, hm.look K ht hz (hw.at_ hk).1 ha true]
theorem TL.mapsetG {x y z : Operand} {g i : Nat} {ob : Obj} {f : κ → Option Value} {a : κ} {v : Value} [DecidableEq κ] (hg : o.guard = none) (hd : o.dst = none) (ho : o.op = .mapUpdate t x y z) (hx : ev E x = some (.map (some g))) (hy : ev E y = some (enc a)) (hz : ev E z = some v)
    (K : MKey P k enc Ok) (ht : P.underlying t = some (.map k e)) (hk : L[i]? = some (.oth g ob)) (hnew : Mine w0 g) (hm : MapG enc Ok ob f) (ha : Ok a)
    (h : ∀ ob', MapG enc Ok ob' (fun x => if x = a then some v else f x) → TL P N ops Q l E (Pm w0 (L.set i (.oth g ob')))) : TL P N ops Q (o :: l) E (Pm w0 L) := fun ac w hac hw =>
  wpList_plain hg fun K' hK => by
    obtain ⟨ob', w', hrun, hob, hm', hgr⟩ := hm.put K ht (hw.at_ hk).1 ha v
    have hex : (execOp ac.eval o).run P w = .ok .skip w' := by
      unfold execOp; rw [ho]
      simp only [hac.eval hx, hac.eval hy, hac.eval hz, Sem.run_bind, hrun, Result.andThen_ok, Sem.run_pure]
    unfold Oper.wp
    rw [hex]
    show K' (ac.put o.dst undef) _
    rw [hd]
    exact hK _ _ (h ob' hm' _ _ (hac.put0 _) (hw.turnO hk hnew hgr hob))
end
theorem mkey_int {P : Program} {k : TypeId} {q : IntKind} (hk : P.underlying k = some (.int q)) : MKey P k (Value.int q) (fun a => (Lit.int q a).wf = true) :=
  ⟨Maps.int_keyed hk, fun a ha => ⟨_, Maps.keyOf_int_mk hk ha⟩, fun a b h => by cases h; rfl⟩
end Go.Proofs.Ytleckflmckbheaa

namespace Go.Proofs.Ytleckflmckbheaa
open Go.RowKit
set_option maxRecDepth 20000
def lastId (π : List Fc) : Int := match π.getLast? with
 | none => -1
 | some f => f.id
theorem lastId_snoc (π : List Fc) (x : Fc) : lastId (π ++ [x]) = x.id := by unfold lastId; rw [List.getLast?_append]; rfl
theorem Trl.snoc {F : List Fc} {f : Fc} (hf : f ∈ F) : ∀ {π : List Fc} {z l y : Int}, Trl F z l π y → (π = [] → f.id ≠ l) → (π ≠ [] → f.id ≠ lastId π) → (f.a = y ∨ f.b = y) → Trl F z l (π ++ [f]) (oth f y)
 | [], z, l, y, h, h1, _, h3 => by cases h; exact ⟨hf, h1 rfl, h3, rfl⟩
 | g :: π, z, l, y, ⟨a1, a2, a3, a4⟩, _, h2, h3 => by
  refine ⟨a1, a2, a3, Trl.snoc hf a4 (fun e => ?_) (fun e => ?_) h3⟩
  ·subst e; exact h2 (by simp)
  ·have e2 : lastId (g :: π) = lastId π := by
    unfold lastId
    cases π with
    | nil => exact absurd rfl e
    | cons k π => rw [List.getLast?_cons_cons]
   rw [← e2]; exact h2 (by simp)
def WalkOk (F way : List Fc) (ok : Bool) (x last b : Int) : Prop := (ok = true → Trl F x last way.reverse b) ∧ (ok = false → ∀ p, ¬ Trl F x last p b)
theorem WalkOk.len {F way : List Fc} {x last b : Int} (h : WalkOk F way true x last b) (hF : Frs F) : way.length ≤ F.length := by
 have h1 := h.1 rfl
 have := nodup_len (hF.nodup _ _ _ _ h1) (fun f hf => h1.mem f hf)
 rwa [List.length_reverse] at this
theorem xor_oth {x : Fc} {y : Int} (ho : x.Ok) (hne : x.a ≠ x.b) (hi : x.a = y ∨ x.b = y) : bits .xor .u32 (bits .xor .u32 x.a x.b) y = oth x y := by
 have hxb := xor_back ⟨ho.1, ho.2.1⟩ ⟨ho.2.2.1, ho.2.2.2⟩
 have comm : ∀ p q : Int, bits .xor .u32 p q = bits .xor .u32 q p := fun p q => by
  unfold bits
  show IntKind.u32.wrap ((BitVec.ofInt IntKind.u32.bits p ^^^ BitVec.ofInt IntKind.u32.bits q).toNat : Int) = IntKind.u32.wrap ((BitVec.ofInt IntKind.u32.bits q ^^^ BitVec.ofInt IntKind.u32.bits p).toNat : Int)
  rw [BitVec.xor_comm]
 rw [comm]
 rcases hi with rfl | rfl
 ·rw [hxb.1]; unfold oth; rw [if_pos rfl]
 ·rw [hxb.2]; unfold oth; rw [if_neg hne]
structure Nxt (w : World) (gb g8 gf gm : Nat) (F : List Fc) (b : Int) (ob : Obj) (fm : Int → Option Value) (NX : Int → Sg Fc) : Prop where
 lb : gb < w.heap.size
 l8 : g8 < w.heap.size
 lf : gf < w.heap.size
 lm : gm < w.heap.size
 cb : w.cell? ⟨gb, 0, none⟩ = some (.int .u32 b)
 c8 : w.cell? ⟨g8, 0, none⟩ = some (.map (some gm))
 cf : w.cell? ⟨gf, 0, none⟩ = some (.func (.func 38) #[] #[.pointer (some ⟨gb, 0, none⟩), .pointer (some ⟨g8, 0, none⟩), .pointer (some ⟨gf, 0, none⟩)])
 map : w.heap[gm]? = some ob
 mg : MapG (Value.int .u32) (fun a => (Lit.int .u32 a).wf = true) ob fm
 val : ∀ x, (fm x).getD (.slice none 0 0) = (NX x).val
 rows : ∀ x, Reads w w.heap.size 3 (NX x).A (NX x).l.length (fcs (NX x).l)
 inc : ∀ x, ∀ f ∈ (NX x).l, f ∈ F ∧ (f.a = x ∨ f.b = x)
 all : ∀ x, ∀ f ∈ F, (f.a = x ∨ f.b = x) → f ∈ (NX x).l
 frs : Frs F
 ok : ∀ f ∈ F, f.Ok
 few : F.length ≤ 100000
 fewl : ∀ x, (NX x).l.length ≤ 100000
theorem Nxt.below {w w' : World} {gb g8 gf gm : Nat} {F : List Fc} {b : Int} {ob : Obj} {fm : Int → Option Value} {NX : Int → Sg Fc} (h : Nxt w gb g8 gf gm F b ob fm NX) (hb : Below w.heap.size w w') : Nxt w' gb g8 gf gm F b ob fm NX :=
 ⟨Nat.lt_of_lt_of_le h.lb hb.size, Nat.lt_of_lt_of_le h.l8 hb.size, Nat.lt_of_lt_of_le h.lf hb.size, Nat.lt_of_lt_of_le h.lm hb.size, (hb.cell h.lb).trans h.cb, (hb.cell h.l8).trans h.c8, (hb.cell h.lf).trans h.cf, (hb.block gm h.lm).trans h.map, h.mg, h.val, fun x => ((h.rows x).below hb).more hb.size, h.inc, h.all, h.frs, h.ok, h.few, h.fewl⟩
theorem Nxt.noway {w : World} {gb g8 gf gm : Nat} {F : List Fc} {b : Int} {ob : Obj} {fm : Int → Option Value} {NX : Int → Sg Fc} (h : Nxt w gb g8 gf gm F b ob fm NX) {x last : Int} (hx : ¬ x = b) (hno : ∀ (j : Nat) (f : Fc), (NX x).l[j]? = some f → f.id = last ∨ ∀ p, ¬ Trl F (oth f x) f.id p b) : ∀ p, ¬ Trl F x last p b
 | [], hp => hx hp
 | f :: p, ⟨h1, h2, h3, h4⟩ => by
  obtain ⟨j, hj⟩ := List.getElem?_of_mem (h.all x f h1 h3)
  rcases hno j f hj with e | e
  ·exact h2 e
  ·exact e p h4
theorem gives_lookOld {P : Program} {N : Fr} {E : Env} {w0 : Base} {L : List Pc} {o : Oper} {κ : Type} {enc : κ → Value} {Ok : κ → Prop} {t k e : TypeId} {x y : Operand} {g : Nat} {ob : Obj} {f : κ → Option Value} {a : κ} {z : Value} (ho : o.op = .lookup t x y false) (hx : ev E x = some (.map (some g))) (hy : ev E y = some (enc a)) (K : MKey P k enc Ok) (ht : P.underlying t = some (.map k e)) (hz : ∀ w : World, (zeroValue e).run P w = .ok z w) (hk : ∀ w, Pm w0 L w → w.heap[g]? = some ob) (hm : MapG enc Ok ob f) (ha : Ok a) {v : Value} (hv : (f a).getD z = v) :
  Gives P N o E (Pm w0 L) v := fun ac w hac hw => by
 unfold execOp; rw [ho]
 subst hv
 simp [hac.eval hx, hac.eval hy, hm.look K ht hz (hk w hw) ha false]
theorem uwkag35 (w : World) : (isAgg 35).run Try.prog w = .ok false w := rfl
theorem uwkag63 (w : World) : (isAgg 63).run Try.prog w = .ok false w := rfl
theorem uwkzv26 (w : World) : (zeroValue 26).run Try.prog w = .ok (.slice none 0 0) w := rfl
theorem uwksz42 (w : World) : (sizeOf 42).run Try.prog w = .ok 3 w := rfl
theorem uwkag42 (w : World) : (isAgg 42).run Try.prog w = .ok true w := rfl
theorem uwkzv42 (w : World) : (zeroValue 42).run Try.prog w = .ok (.agg #[.int .i64 0, .int .u32 0, .int .u32 0]) w := rfl
theorem uwkfld42_0 (g o : Nat) (w : World) : (Instr.fieldAt 42 (.pointer (some ⟨g, o, none⟩)) 0).run Try.prog w = .ok (.pointer (some ⟨g, o + 0, none⟩)) w := by kernel_rfl
theorem uwkag3 (w : World) : (isAgg 3).run Try.prog w = .ok false w := rfl
theorem uwkag64 (w : World) : (isAgg 64).run Try.prog w = .ok false w := rfl
theorem uwkfld42_1 (g o : Nat) (w : World) : (Instr.fieldAt 42 (.pointer (some ⟨g, o, none⟩)) 1).run Try.prog w = .ok (.pointer (some ⟨g, o + 1, none⟩)) w := by kernel_rfl
theorem uwkfld42_2 (g o : Nat) (w : World) : (Instr.fieldAt 42 (.pointer (some ⟨g, o, none⟩)) 2).run Try.prog w = .ok (.pointer (some ⟨g, o + 2, none⟩)) w := by kernel_rfl
theorem uwknm38 : (Try.f38.name == "runtime.NumGoroutine") = false := by decide
theorem uwkbd38 : Try.f38.body.isNone = false := rfl
theorem uwkbs26_1_44646 (a0_0 : Int) (a0_1 : Int) (a0_2 : Int) (w : World) : (Instr.buildSlice 26 1 #[(0, .agg #[.int .i64 a0_0, .int .u32 a0_1, .int .u32 a0_2])]).run Try.prog w = .ok (.slice (some ⟨w.heap.size, 0, none⟩) 1 1) (w.alloc (.cells [.int .i64 a0_0, .int .u32 a0_1, .int .u32 a0_2].toArray 42)) := by kernel_rfl
theorem uwkel26 : Elem Try.prog 26 42 3 16 := Elem.mk' Try.underlying26 (z := .agg #[.int .i64 0, .int .u32 0, .int .u32 0]) (by kernel_rfl) rfl (by omega) (by omega)
set_option maxHeartbeats 1000000 in
theorem walk_ind (gb g8 gf gm : Nat) (F : List Fc) (b : Int) (ob : Obj) (fm : Int → Option Value) (NX : Int → Sg Fc) (z0 : Int) : ∀ (M : Nat) (x0 last : Int) (π : List Fc) (w : World), Nxt w gb g8 gf gm F b ob fm NX → Trl F z0 (-1) π x0 → lastId π = last → F.length < M + π.length → (0 ≤ x0 ∧ x0 ≤ 4294967295) →
  Calls Try.prog 38 #[.int .u32 x0, .int .i64 last, .pointer (some ⟨gb, 0, none⟩), .pointer (some ⟨g8, 0, none⟩), .pointer (some ⟨gf, 0, none⟩)] w fun e w' => ∃ x : {y : (Option Addr × Nat) × List Fc × Bool // WalkOk F y.2.1 y.2.2 x0 last b ∧ y.2.1.length ≤ y.1.2 ∧ y.1.2 ≤ maxLen ∧ (y.2.1 = [] → y.1 = (none, 0))}, e = .returned (.tuple #[.slice x.1.1.1 x.1.2.1.length x.1.1.2, .bool x.1.2.2]) ∧ Pm w [.row (.slice x.1.1.1 x.1.2.1.length x.1.1.2) 42 3 x.1.2.1.length (fcs x.1.2.1)] w'
 | 0, x0, last, π, w, hN, hT, hla, hM, hxr => absurd (nodup_len (hN.frs.nodup _ _ _ _ hT) (fun f hf => hT.mem f hf)) (by omega)
 | M + 1, x0, last, π, w, hN, hT, hla, hM, hxr => by
  have ih := fun x0 last π w hN hT hla hM hxr => walk_ind gb g8 gf gm F b ob fm NX z0 M x0 last π w hN hT hla hM hxr
  subst hla
  refine begin_ (vs := [.int .u32 x0, .int .i64 (lastId π), .pointer (some ⟨gb, 0, none⟩), .pointer (some ⟨g8, 0, none⟩), .pointer (some ⟨gf, 0, none⟩)]) Try.func38 rfl rfl rfl ?_ (Pm.start w)
  refine TC.seq_ (TC.region ?_)
  refine TL.as_ ?_
  refine TL.as_ ?_
  refine TL.end_ (TX.then_ (TC.seq_ (TC.seq_ (TC.region ?_))))
  refine TL.mv ?_
  refine TL.val rfl rfl rfl (gives_load (v := .int .u32 b) rfl rfl uwkag35 (fun w1 hw => (hw.bel.cell hN.lb).trans hN.cb)) ?_
  refine TL.vsplit rfl rfl rfl (gives_bin rfl rfl rfl (fun w => bin_eql w)) (fun h15 => ?_) (fun h15 => ?_)
  ·have q15 := of_decide_eq_true h15
   refine TL.end_ (TX.then_ (TC.condT rfl (TC.seq_ (TC.region ?_))))
   refine TL.as_ ?_
   refine TL.as_ ?_
   refine TL.end_ (TX.then_ (TC.ret_ (TX.then_ret ?_)))
   exact ret_pair Try.results38 rfl rfl (fun w1 hw => ⟨⟨((none, 0), [], true), ⟨fun _ => q15, fun hh => (by cases hh)⟩, Nat.le_refl _, Nat.zero_le _, fun _ => rfl⟩, rfl, hw.nilrow _ _⟩)
  ·have q15 := of_decide_eq_false h15
   refine TL.end_ (TX.then_ (TC.condF rfl (TC.skip_ (TX.then_ (TC.seq_ (TC.seq_ (TC.region ?_)))))))
   refine TL.val rfl rfl rfl (gives_load (v := .map (some gm)) rfl rfl uwkag63 (fun w1 hw => (hw.bel.cell hN.l8).trans hN.c8)) ?_
   refine TL.mv ?_
   refine TL.val rfl rfl rfl (gives_lookOld rfl rfl rfl (mkey_int Try.underlying35) Try.underlying63 uwkzv26 (fun w1 hw => (hw.bel.block gm hN.lm).trans hN.map) hN.mg (wf32 hxr) (hN.val x0)) ?_
   refine TL.val rfl rfl rfl (gives_len rfl Try.underlying26 rfl) ?_
   refine TL.mv ?_
   refine TL.end_ (TX.then_ (TC.block ?_))
   refine TC.loop_ (α := {i : Nat // i ≤ (NX x0).l.length ∧ ∀ j, j < i → ∀ f, (NX x0).l[j]? = some f → f.id = lastId π ∨ ∀ p, ¬ Trl F (oth f x0) f.id p b}) (fun y => [(0, .int .u32 x0), (1, .int .i64 (lastId π)), (2, .pointer (some ⟨gb, 0, none⟩)), (3, .pointer (some ⟨g8, 0, none⟩)), (4, .pointer (some ⟨gf, 0, none⟩)), (18, .slice ((NX x0).A) ((NX x0).l.length) ((NX x0).c)), (19, .int .i64 (((NX x0).l.length : Nat) : Int)), (20, .int .i64 ((y.1 : Nat) : Int))]) (fun y => Pm w []) (fun y => (NX x0).l.length - y.1) (⟨0, Nat.zero_le _, fun j hj => absurd hj (Nat.not_lt_zero _)⟩) ⟨rfl, rfl, rfl, rfl, rfl, rfl, rfl, rfl, trivial⟩ (fun w1 hw => hw) ?_
   rintro ⟨i, hi, hno⟩
   try dsimp only
   refine TC.seq_ (TC.region ?_)
   refine TL.vsplit rfl rfl rfl (gives_bin rfl rfl rfl (fun w => bin_lss w)) (fun h21 => ?_) (fun h21 => ?_)
   ·have q21 := of_decide_eq_true h21
    have hi2 : i < (NX x0).l.length := by omega
    obtain ⟨x, hx⟩ : ∃ x, (NX x0).l[i]? = some x := ⟨_, List.getElem?_eq_getElem hi2⟩
    obtain ⟨b2, o2, hA2, hbb2, hc2⟩ := (hN.rows x0).ad (by omega) (by decide)
    obtain ⟨hxF, hxi⟩ := hN.inc x0 x (List.mem_of_getElem? hx)
    have hxo := hN.ok x hxF
    have hfl := hN.fewl x0
    refine TL.end_ (TX.then_ (TC.seq_ (TC.condT rfl (TC.skip_ (TX.then_ (TC.seq_ (TC.block (TC.seq_ (TC.region ?_)))))))))
    refine TL.val rfl rfl rfl (gives_at (v := .pointer (some ⟨b2, o2 + i * 3, none⟩)) rfl rfl rfl (fun w => at_el Try.underlying26 uwksz42 hA2 _ _ i hi2 rfl w)) ?_
    refine TL.val rfl rfl rfl (gives_loadR rfl rfl uwkag42 uwksz42 (fc_cells_len x) (fun w1 hw j u hu => (hw.bel.cell hbb2).trans (fcs_cell hx hc2 j u hu))) ?_
    refine TL.pnew rfl rfl rfl (exec_alloc (cs := [.int .i64 0, .int .u32 0, .int .u32 0]) rfl uwkzv42 rfl) (fun g10 => ?_)
    refine TL.pstore (k := 0) (vs := x.cells) rfl rfl rfl rfl rfl rfl rfl uwksz42 (fc_one x) (by show 3 ≤ 3; decide) (L' := [.blk g10 42 x.cells]) rfl ?_
    refine TL.end_ (TX.then_ (TC.seq_ (TC.seq_ (TC.region ?_))))
    refine TL.val rfl rfl rfl (gives_field (v := .pointer (some ⟨g10, 0, none⟩)) rfl rfl (fun w => uwkfld42_0 _ _ w)) ?_
    refine TL.val rfl rfl rfl (pm_load (k := 0) (i := 0) rfl rfl uwkag3 rfl rfl) ?_
    refine TL.mv ?_
    refine TL.vsplit rfl rfl rfl (gives_bin rfl rfl rfl (fun w => bin_eql w)) (fun h27 => ?_) (fun h27 => ?_)
    ·have q27 := of_decide_eq_true h27
     have hno2 : ∀ j, j < i + 1 → ∀ f, (NX x0).l[j]? = some f → f.id = lastId π ∨ ∀ p, ¬ Trl F (oth f x0) f.id p b := fun j hj f hf => (by rcases Nat.lt_or_ge j i with hh | hh; (exact hno j hh f hf); (obtain rfl : j = i := by omega); rw [hx] at hf; cases hf; exact .inl q27)
     refine TL.end_ (TX.then_ (TC.condT rfl (TC.exit_ (TX.then_exit (TX.in_same (TX.then_ (TC.region ?_)))))))
     refine TL.val rfl rfl rfl (gives_bin rfl rfl rfl (fun w => bin_add_ (r := ((i + 1 : Nat) : Int)) (by simp only [IntKind.wrap_i64]; omega) w)) ?_
     refine TL.mv ?_
     refine TL.end_ ?_
     exact TX.round (⟨i + 1, hi2, hno2⟩) (by show (NX x0).l.length - (i + 1) < (NX x0).l.length - i; omega) ⟨rfl, rfl, rfl, rfl, rfl, rfl, rfl, rfl, trivial⟩ (fun w1 hw => hw.pick [] (by decide) rfl)
    ·have q27 := of_decide_eq_false h27
     have hxl : x.id ≠ lastId π := q27
     refine TL.end_ (TX.then_ (TC.condF rfl (TC.skip_ (TX.then_ (TC.seq_ (TC.region ?_))))))
     refine TL.val rfl rfl rfl (gives_load (v := .func (.func 38) #[] #[.pointer (some ⟨gb, 0, none⟩), .pointer (some ⟨g8, 0, none⟩), .pointer (some ⟨gf, 0, none⟩)]) rfl rfl uwkag64 (fun w1 hw => (hw.bel.cell hN.lf).trans hN.cf)) ?_
     refine TL.val rfl rfl rfl (gives_field (v := .pointer (some ⟨g10, 1, none⟩)) rfl rfl (fun w => uwkfld42_1 _ _ w)) ?_
     refine TL.val rfl rfl rfl (pm_load (k := 0) (i := 1) rfl rfl uwkag35 rfl rfl) ?_
     refine TL.val rfl rfl rfl (gives_field (v := .pointer (some ⟨g10, 2, none⟩)) rfl rfl (fun w => uwkfld42_2 _ _ w)) ?_
     refine TL.val rfl rfl rfl (pm_load (k := 0) (i := 2) rfl rfl uwkag35 rfl rfl) ?_
     refine TL.val rfl rfl rfl (gives_bin rfl rfl rfl (fun w => bin_bits (.inr (.inr rfl)) w)) ?_
     refine TL.mv ?_
     refine TL.val rfl rfl rfl (gives_bin (v := .int .u32 (oth x x0)) rfl rfl rfl (fun w => by rw [bin_bits (.inr (.inr rfl)) w, xor_oth hxo (hN.frs.ne x hxF) hxi])) ?_
     refine TL.val rfl rfl rfl (gives_field (v := .pointer (some ⟨g10, 0, none⟩)) rfl rfl (fun w => uwkfld42_0 _ _ w)) ?_
     refine TL.val rfl rfl rfl (pm_load (k := 0) (i := 0) rfl rfl uwkag3 rfl rfl) ?_
     refine TL.callEPm (α := {y : (Option Addr × Nat) × List Fc × Bool // WalkOk F y.2.1 y.2.2 (oth x x0) x.id b ∧ y.2.1.length ≤ y.1.2 ∧ y.1.2 ≤ maxLen ∧ (y.2.1 = [] → y.1 = (none, 0))}) (fun y => .tuple #[.slice y.1.1.1 y.1.2.1.length y.1.1.2, .bool y.1.2.2]) (fun y => [.row (.slice y.1.1.1 y.1.2.1.length y.1.1.2) 42 3 y.1.2.1.length (fcs y.1.2.1)]) rfl rfl rfl (ent_val rfl rfl rfl Try.func38 uwknm38 uwkbd38 rfl) (fun w1 hw => ih (oth x x0) x.id (π ++ [x]) w1 (hN.below hw.bel) (hT.snoc hxF (fun e => by subst e; exact hxl) (fun _ => hxl) hxi) (lastId_snoc π x) (by rw [List.length_append, List.length_singleton]; omega) (oth_range hxo _)) ?_
     rintro ⟨⟨⟨AA, cc⟩, way, ok⟩, hok, hc1, hc2, hc3⟩
     dsimp only [List.cons_append, List.nil_append] at hok hc1 hc2 ⊢
     iterate 5 (first | refine TL.as_ ?_ | refine TL.ex ?_ | refine TL.mv ?_)
     refine TL.end_ (TX.then_ (TC.seq_ (TC.region ?_)))
     refine TL.vsplit rfl rfl rfl (gives_move rfl rfl) (fun h42 => ?_) (fun h42 => ?_)
     ·subst h42
      refine TL.end_ (TX.then_ (TC.condT rfl (TC.seq_ (TC.region ?_))))
      refine TL.mv ?_
      refine TL.val rfl rfl rfl (pm_loadV (k := 1) (i := 0) (n := 3) (v := .agg (x.cells).toArray) rfl rfl uwkag42 uwksz42 rfl (by show 3 ≤ 3; decide) rfl) ?_
      refine TL.prowS (e := 42) (size := 3) (cs := fcs [x]) rfl rfl rfl rfl rfl (fun w => uwkbs26_1_44646 _ _ _ w) (by decide) rfl (fun g45 => ?_)
      refine TL.appendT (k := 1) rfl rfl rfl rfl Try.underlying26 uwkel26 rfl rfl rfl (fun w1 hw => pm_reads hw (k := 0) rfl) (fcs_one _) (by have := hok.len hN.frs; have := hN.few; show _ * 16 ≤ _; omega) ((way ++ [x]).length) (by rw [List.length_append]; rfl) (fcs (way ++ [x])) (by rw [fcs_app]) (fun A46 c46 hA461 hA462 => ?_)
      refine TL.as_ ?_
      refine TL.as_ ?_
      refine TL.end_ (TX.then_ (TC.ret_ (TX.in_ret (TX.then_ret (TX.then_ret (TX.in_ret (TX.then_ret ?_)))))))
      have hfin : WalkOk F (way ++ [x]) true x0 (lastId π) b := ⟨fun _ => by rw [List.reverse_append]; exact ⟨hxF, hxl, hxi, hok.1 rfl⟩, fun hh => (by cases hh)⟩
      exact ret_pair Try.results38 rfl rfl (fun w1 hw => ⟨⟨((A46, c46), way ++ [x], true), hfin, hA461, hA462, fun hh => by simp at hh⟩, rfl, hw.pick [1] (by decide) rfl⟩)
     ·subst h42
      have hno2 : ∀ j, j < i + 1 → ∀ f, (NX x0).l[j]? = some f → f.id = lastId π ∨ ∀ p, ¬ Trl F (oth f x0) f.id p b := fun j hj f hf => (by rcases Nat.lt_or_ge j i with hh | hh; (exact hno j hh f hf); (obtain rfl : j = i := by omega); rw [hx] at hf; cases hf; exact .inr (hok.2 rfl))
      refine TL.end_ (TX.then_ (TC.condF rfl (TC.skip_ (TX.in_normal (TX.then_ (TC.region ?_))))))
      refine TL.val rfl rfl rfl (gives_bin rfl rfl rfl (fun w => bin_add_ (r := ((i + 1 : Nat) : Int)) (by simp only [IntKind.wrap_i64]; omega) w)) ?_
      refine TL.mv ?_
      refine TL.end_ ?_
      exact TX.round (⟨i + 1, hi2, hno2⟩) (by show (NX x0).l.length - (i + 1) < (NX x0).l.length - i; omega) ⟨rfl, rfl, rfl, rfl, rfl, rfl, rfl, rfl, trivial⟩ (fun w1 hw => hw.pick [] (by decide) rfl)
   ·have q21 := of_decide_eq_false h21
    refine TL.end_ (TX.then_ (TC.seq_ (TC.condF rfl (TC.exit_ (TX.then_exit (TX.then_exit (TX.in_same (TX.then_ (TC.seq_ (TC.region ?_))))))))))
    refine TL.as_ ?_
    refine TL.as_ ?_
    refine TL.end_ (TX.then_ (TC.ret_ ?_))
    have hfin : WalkOk F [] false x0 (lastId π) b := ⟨fun hh => (by cases hh), fun _ p hp => hN.noway q15 (fun j f hf => hno j (by have := (List.getElem?_eq_some_iff.1 hf).1; omega) f hf) p hp⟩
    exact ret_pair Try.results38 rfl rfl (fun w1 hw => ⟨⟨((none, 0), [], false), hfin, Nat.le_refl _, Nat.zero_le _, fun _ => rfl⟩, rfl, hw.nilrow _ _⟩)
end Go.Proofs.Ytleckflmckbheaa

namespace Go.Proofs.Ytleckflmckbheaa
open Go.RowKit
set_option maxRecDepth 20000
def incF (F : List Fc) (x : Int) : List Fc := F.filter fun f => decide (f.a = x ∨ f.b = x)
theorem incF_len (F : List Fc) (x : Int) : (incF F x).length ≤ F.length := List.length_filter_le _ _
def addS (sp : Int → List Fc) (k : Int) (x : Fc) : Int → List Fc := fun z => if z = k then sp z ++ [x] else sp z
theorem inc_step {F : List Fc} {x : Fc} (hne : x.a ≠ x.b) : addS (addS (incF F) x.a x) x.b x = incF (F ++ [x]) := by
 funext z
 unfold addS incF
 rw [List.filter_append]
 by_cases e1 : z = x.b
 ·subst e1
  rw [if_pos rfl, if_neg (fun hh => hne hh.symm), List.filter_cons, if_pos (decide_eq_true (.inr rfl))]
  rfl
 ·rw [if_neg e1]
  by_cases e2 : z = x.a
  ·subst e2
   rw [if_pos rfl, List.filter_cons, if_pos (decide_eq_true (.inl rfl))]
   rfl
  ·rw [if_neg e2, List.filter_cons, if_neg (by simp; exact ⟨fun hh => e2 hh.symm, fun hh => e1 hh.symm⟩)]
   simp
def getS (ps : List (Int × Sg Fc)) (x : Int) : Sg Fc := ((ps.find? fun p => decide (p.1 = x)).map (·.2)).getD (Sg.nil Fc)
structure MapS (ob : Obj) (ps : List (Int × Sg Fc)) (sp : Int → List Fc) : Prop where
 map : ∃ fm : Int → Option Value, MapG (Value.int .u32) (fun a => (Lit.int .u32 a).wf = true) ob fm ∧ ∀ x, fm x = (ps.find? fun p => decide (p.1 = x)).map (·.2.val)
 nd : (ps.map (·.1)).Nodup
 sp : ∀ x, (getS ps x).l = sp x
theorem mapS_nil : MapS (.map #[] 0) [] (incF ([] : List Fc)) := ⟨⟨fun _ => none, mapG_new _ _, fun _ => rfl⟩, List.nodup_nil, fun _ => rfl⟩
theorem find_key {ps : List (Int × Sg Fc)} (nd : (ps.map (·.1)).Nodup) {z : Int} {p : Int × Sg Fc} : (ps.find? fun p => decide (p.1 = z)) = some p ↔ p ∈ ps ∧ p.1 = z := by
 constructor
 ·intro h
  exact ⟨List.mem_of_find?_eq_some h, by have := List.find?_some h; simpa using this⟩
 ·rintro ⟨h1, h2⟩
  induction ps with
  | nil => cases h1
  | cons q ps ih =>
   obtain ⟨n1, n2⟩ := List.nodup_cons.1 nd
   rw [List.find?_cons]
   rcases List.mem_cons.1 h1 with rfl | h1
   ·rw [decide_eq_true h2]
   ·have : ¬ q.1 = z := fun e => n1 (List.mem_map.2 ⟨p, h1, h2.trans e.symm⟩)
    rw [decide_eq_false this]
    exact ih n2 h1
theorem find_at {ps : List (Int × Sg Fc)} {z : Int} {p : Int × Sg Fc} (h : (ps.find? fun p => decide (p.1 = z)) = some p) : ∃ (k : Nat) (s : Sg Fc), ps[k]? = some (z, s) ∧ p = (z, s) := by
 obtain ⟨k, hk⟩ := List.getElem?_of_mem (List.mem_of_find?_eq_some h)
 have e : p.1 = z := by have := List.find?_some h; simpa using this
 obtain ⟨y, s⟩ := p
 cases e
 exact ⟨k, s, hk, rfl⟩
theorem getS_of {ps : List (Int × Sg Fc)} {z : Int} {s : Sg Fc} (h : (ps.find? fun p => decide (p.1 = z)) = some (z, s)) : getS ps z = s := by unfold getS; rw [h]; rfl
theorem map_at {ps : List (Int × Sg Fc)} {k : Nat} {z : Int} {s : Sg Fc} (h : ps[k]? = some (z, s)) : (ps.map (·.2))[k]? = some s := by rw [List.getElem?_map, h]; rfl
theorem MapS.put {ob ob' : Obj} {ps ps' : List (Int × Sg Fc)} {sp : Int → List Fc} {fm : Int → Option Value} {k : Int} {s' : Sg Fc} {x : Fc} (h : MapS ob ps sp) (hfm : ∀ x, fm x = (ps.find? fun p => decide (p.1 = x)).map (·.2.val)) (hm : MapG (Value.int .u32) (fun a => (Lit.int .u32 a).wf = true) ob' (fun z => if z = k then some s'.val else fm z))
  (nd : (ps'.map (·.1)).Nodup) (hp : ∀ p, p ∈ ps' ↔ p = (k, s') ∨ (p ∈ ps ∧ p.1 ≠ k)) (hs : s'.l = sp k ++ [x]) : MapS ob' ps' (addS sp k x) := by
 have hfind : ∀ z, (ps'.find? fun p => decide (p.1 = z)) = if z = k then some (k, s') else ps.find? fun p => decide (p.1 = z) := fun z => by
  refine Option.ext fun p => ?_
  rw [find_key nd, hp]
  by_cases e : z = k
  ·subst e
   rw [if_pos rfl]
   constructor
   ·rintro ⟨rfl | h1, h2⟩
    ·rfl
    ·exact absurd h2 h1.2
   ·intro hh
    cases hh
    exact ⟨.inl rfl, rfl⟩
  ·rw [if_neg e, find_key h.nd]
   constructor
   ·rintro ⟨rfl | h1, h2⟩
    ·exact absurd h2.symm e
    ·exact ⟨h1.1, h2⟩
   ·rintro ⟨h1, h2⟩
    exact ⟨.inr ⟨h1, fun e2 => e (h2.symm.trans e2)⟩, h2⟩
 refine ⟨⟨_, hm, fun z => ?_⟩, nd, fun z => ?_⟩
 ·rw [hfind]
  show (if z = k then some s'.val else fm z) = _
  by_cases e : z = k
  ·rw [if_pos e, if_pos e]; rfl
  ·rw [if_neg e, if_neg e, hfm]
 ·unfold getS addS
  rw [hfind]
  by_cases e : z = k
  ·subst e
   rw [if_pos rfl, if_pos rfl]
   exact hs
  ·rw [if_neg e, if_neg e]
   exact h.sp z
theorem MapS.new {ob ob' : Obj} {ps : List (Int × Sg Fc)} {sp : Int → List Fc} {fm : Int → Option Value} {k : Int} {A : Option Addr} {c : Nat} {x : Fc} (h : MapS ob ps sp) (hfi : (ps.find? fun p => decide (p.1 = k)) = none) (hfm : ∀ x, fm x = (ps.find? fun p => decide (p.1 = x)).map (·.2.val)) (hm : MapG (Value.int .u32) (fun a => (Lit.int .u32 a).wf = true) ob' (fun z => if z = k then some (Sg.val (⟨A, c, [x]⟩ : Sg Fc)) else fm z)) : MapS ob' (ps ++ [(k, ⟨A, c, [x]⟩)]) (addS sp k x) := by
 have hno : ∀ p ∈ ps, p.1 ≠ k := fun p hp => by
  have := List.find?_eq_none.1 hfi p hp
  simpa using this
 refine h.put hfm hm ?_ (fun p => ?_) ?_
 ·rw [List.map_append]
  refine List.nodup_append.2 ⟨h.nd, List.pairwise_singleton _ _, fun a ha b hb e => ?_⟩
  rw [List.map_singleton, List.mem_singleton] at hb
  obtain ⟨p, hp, e2⟩ := List.mem_map.1 ha
  exact hno p hp (e2.trans (e.trans hb))
 ·rw [List.mem_append, List.mem_singleton]
  constructor
  ·rintro (hp | hp)
   ·exact .inr ⟨hp, hno p hp⟩
   ·exact .inl hp
  ·rintro (hp | hp)
   ·exact .inr hp
   ·exact .inl hp.1
 ·have := h.sp k
  unfold getS at this
  rw [hfi] at this
  rw [← this]
  rfl
theorem MapS.old {ob ob' : Obj} {ps : List (Int × Sg Fc)} {sp : Int → List Fc} {fm : Int → Option Value} {i : Nat} {k : Int} {s : Sg Fc} {A : Option Addr} {c : Nat} {x : Fc} (h : MapS ob ps sp) (hfi : (ps.find? fun p => decide (p.1 = k)) = some (k, s)) (hi : ps[i]? = some (k, s)) (hfm : ∀ x, fm x = (ps.find? fun p => decide (p.1 = x)).map (·.2.val)) (hm : MapG (Value.int .u32) (fun a => (Lit.int .u32 a).wf = true) ob' (fun z => if z = k then some (Sg.val (⟨A, c, s.l ++ [x]⟩ : Sg Fc)) else fm z)) : MapS ob' (ps.set i (k, ⟨A, c, s.l ++ [x]⟩)) (addS sp k x) := by
 have hlt := (List.getElem?_eq_some_iff.1 hi).1
 have hkeys : (ps.set i (k, (⟨A, c, s.l ++ [x]⟩ : Sg Fc))).map (·.1) = ps.map (·.1) := by
  rw [List.map_set]
  refine List.ext_getElem? fun j => ?_
  rw [List.getElem?_set]
  by_cases e : i = j
  ·subst e
   rw [if_pos rfl, if_pos (by rw [List.length_map]; exact hlt), List.getElem?_map, hi]
   rfl
  ·rw [if_neg e]
 refine h.put hfm hm (by rw [hkeys]; exact h.nd) (fun p => ?_) ?_
 ·have huniq : ∀ j q, ps[j]? = some q → q.1 = k → j = i := fun j q hj e => by
   refine (List.getElem?_inj (l := ps.map (·.1)) (by rw [List.length_map]; exact (List.getElem?_eq_some_iff.1 hj).1) h.nd).1 ?_
   rw [List.getElem?_map, List.getElem?_map, hj, hi]
   simp [e]
  constructor
  ·intro hp
   obtain ⟨j, hj⟩ := List.getElem?_of_mem hp
   rw [List.getElem?_set] at hj
   by_cases e : i = j
   ·rw [if_pos e, if_pos hlt] at hj
    cases hj
    exact .inl rfl
   ·rw [if_neg e] at hj
    exact .inr ⟨List.mem_of_getElem? hj, fun e2 => e (huniq j p hj e2).symm⟩
  ·rintro (rfl | ⟨h1, h2⟩)
   ·exact List.mem_set hlt _
   ·obtain ⟨j, hj⟩ := List.getElem?_of_mem h1
    have e : i ≠ j := fun e => by subst e; rw [hi] at hj; cases hj; exact h2 rfl
    exact List.mem_of_getElem? (i := j) (by rw [List.getElem?_set, if_neg e]; exact hj)
 ·rw [← h.sp k, getS_of hfi]
theorem Pm.segPush {α : Type} {e : TypeId} {size : Nat} {enc : List α → List Value} {w0 : Base} {w : World} {P : List Pc} {ss : List (Sg α)} {s : Sg α} (h : Pm w0 ((.row (.slice s.A s.l.length s.c) e size s.l.length (enc s.l) :: P) ++ segG e size enc ss) w) : Pm w0 (P ++ segG e size enc (ss ++ [s])) w := by
 refine h.permute ?_
 have h1 : segG e size enc (ss ++ [s]) = segG e size enc ss ++ [.row (.slice s.A s.l.length s.c) e size s.l.length (enc s.l)] := by unfold segG; rw [List.map_append]; rfl
 rw [h1, ← List.append_assoc]
 exact (List.perm_append_singleton _ _).symm
theorem nxt_of {w0 : Base} {L : List Pc} {w : World} {g5 g8 g11 gm k5 k8 k11 km : Nat} {F : List Fc} {b : Int} {ob : Obj} {fm : Int → Option Value} {ps : List (Int × Sg Fc)} {t5 t8 t11 : TypeId} (hw : Pm w0 L w)
  (h11 : L[k11]? = some (.blk g11 t11 [.func (.func 38) #[] #[.pointer (some ⟨g5, 0, none⟩), .pointer (some ⟨g8, 0, none⟩), .pointer (some ⟨g11, 0, none⟩)]])) (h5 : L[k5]? = some (.blk g5 t5 [.int .u32 b])) (h8 : L[k8]? = some (.blk g8 t8 [.map (some gm)])) (hm : L[km]? = some (.oth gm ob)) (hseg : ∀ s ∈ ps.map (·.2), Sg.pc 42 3 fcs s ∈ L)
  (hmg : MapG (Value.int .u32) (fun a => (Lit.int .u32 a).wf = true) ob fm) (hfm : ∀ x, fm x = (ps.find? fun p => decide (p.1 = x)).map (·.2.val)) (hS : MapS ob ps (incF F)) (hF : Frs F) (hok : ∀ f ∈ F, f.Ok) (hfew : F.length ≤ 100000) : Nxt w g5 g8 g11 gm F b ob fm (getS ps) := by
 refine ⟨(Pc.lt (hw.at_ h5) g5 rfl).2, (Pc.lt (hw.at_ h8) g8 rfl).2, (Pc.lt (hw.at_ h11) g11 rfl).2, (Pc.lt (hw.at_ hm) gm rfl).2, (hw.cell h5 0).trans rfl, (hw.cell h8 0).trans rfl, (hw.cell h11 0).trans rfl, (hw.at_ hm).1, hmg, fun x => ?_, fun x => ?_, fun x f hf => ?_, fun x f hf hx => ?_, hF, hok, hfew, fun x => ?_⟩
 ·rw [hfm]
  unfold getS
  cases ps.find? fun p => decide (p.1 = x) with
  | none => rfl
  | some p => rfl
 ·unfold getS
  cases hfi : ps.find? fun p => decide (p.1 = x) with
  | none => exact Reads.none_
  | some p =>
   have hp := hseg p.2 (List.mem_map.2 ⟨p, List.mem_of_find?_eq_some hfi, rfl⟩)
   obtain ⟨k, hk⟩ := List.getElem?_of_mem hp
   obtain ⟨B, h9⟩ := pm_reads hw hk
   exact reads_up h9 (pm_row_lt hw hk)
 ·rw [hS.sp] at hf
  have h1 := List.mem_filter.1 hf
  exact ⟨h1.1, of_decide_eq_true h1.2⟩
 ·rw [hS.sp]
  exact List.mem_filter.2 ⟨hf, decide_eq_true hx⟩
 ·rw [hS.sp]
  exact Nat.le_trans (incF_len F x) hfew
theorem forest_frs {l : List Fc} (hV : validF l) : Frs (forest l) := by
 have hsub : ∀ f ∈ forest l, f ∈ l := fun f hf => forF_sub l _ f hf
 have hids : ∀ f ∈ l, ∀ g ∈ l, f.id = g.id → f = g := fun f hf g hg e => by
  obtain ⟨p, hp⟩ := List.getElem?_of_mem hf
  obtain ⟨q, hq⟩ := List.getElem?_of_mem hg
  rcases Nat.lt_trichotomy p q with h | h | h
  ·have := hV.asc p q f g h hp hq; omega
  ·subst h; rw [hp] at hq; exact Option.some.inj hq
  ·have := hV.asc q p g f h hq hp; omega
 have hat : ∀ f ∈ l, 0 ≤ f.id ∧ f.a ≠ f.b := fun f hf => by
  obtain ⟨p, hp⟩ := List.getElem?_of_mem hf
  have := hV.2 p (List.getElem?_eq_some_iff.1 hp).1 f hp
  exact ⟨this.1, this.2.1⟩
 refine ⟨fun f hf g hg e => hids f (hsub f hf) g (hsub g hg) e, fun f hf => (hat f (hsub f hf)).2, fun f hf => (hat f (hsub f hf)).1, fun f hf hc => ?_⟩
 obtain ⟨p, q, hs⟩ := List.append_of_mem hf
 refine forest_bridge rfl hs (hc.mono fun g hg => ?_)
 obtain ⟨h1, h2⟩ := List.mem_filter.1 hg
 have h2 := of_decide_eq_true h2
 rw [hs] at h1
 rcases List.mem_append.1 h1 with h | h
 ·exact List.mem_append_left _ h
 ·rcases List.mem_cons.1 h with h | h
  ·exact absurd h h2
  ·exact List.mem_append_right _ h
def ExOk (l : List Fc) (a b : Int) (y : List Fc × Bool) : Prop := (y.2 = true ↔ validF l ∧ repF l a = repF l b) ∧ (y.2 = false → y.1 = []) ∧ (y.2 = true → Trl (forest l) a (-1) y.1 b)
theorem uexag35 (w : World) : (isAgg 35).run Try.prog w = .ok false w := rfl
theorem uexnm17 : (Try.f17.name == "runtime.NumGoroutine") = false := by decide
theorem uexbd17 : Try.f17.body.isNone = false := rfl
theorem uexzv63 (w : World) : (zeroValue 63).run Try.prog w = .ok (.map none) w := rfl
theorem uexsz63 (w : World) : (sizeOf 63).run Try.prog w = .ok 1 w := rfl
theorem uexnm12 : (Try.f12.name == "runtime.NumGoroutine") = false := by decide
theorem uexbd12 : Try.f12.body.isNone = false := rfl
theorem uexsz42 (w : World) : (sizeOf 42).run Try.prog w = .ok 3 w := rfl
theorem uexag42 (w : World) : (isAgg 42).run Try.prog w = .ok true w := rfl
theorem uexzv42 (w : World) : (zeroValue 42).run Try.prog w = .ok (.agg #[.int .i64 0, .int .u32 0, .int .u32 0]) w := rfl
theorem uexag63 (w : World) : (isAgg 63).run Try.prog w = .ok false w := rfl
theorem uexfld42_1 (g o : Nat) (w : World) : (Instr.fieldAt 42 (.pointer (some ⟨g, o, none⟩)) 1).run Try.prog w = .ok (.pointer (some ⟨g, o + 1, none⟩)) w := by kernel_rfl
theorem uexzv26 (w : World) : (zeroValue 26).run Try.prog w = .ok (.slice none 0 0) w := rfl
theorem uexbs26_1_44646 (a0_0 : Int) (a0_1 : Int) (a0_2 : Int) (w : World) : (Instr.buildSlice 26 1 #[(0, .agg #[.int .i64 a0_0, .int .u32 a0_1, .int .u32 a0_2])]).run Try.prog w = .ok (.slice (some ⟨w.heap.size, 0, none⟩) 1 1) (w.alloc (.cells [.int .i64 a0_0, .int .u32 a0_1, .int .u32 a0_2].toArray 42)) := by kernel_rfl
theorem uexel26 : Elem Try.prog 26 42 3 16 := Elem.mk' Try.underlying26 (z := .agg #[.int .i64 0, .int .u32 0, .int .u32 0]) (by kernel_rfl) rfl (by omega) (by omega)
theorem uexfld42_2 (g o : Nat) (w : World) : (Instr.fieldAt 42 (.pointer (some ⟨g, o, none⟩)) 2).run Try.prog w = .ok (.pointer (some ⟨g, o + 2, none⟩)) w := by kernel_rfl
theorem uexzv64 (w : World) : (zeroValue 64).run Try.prog w = .ok (.nilFunc) w := rfl
theorem uexsz64 (w : World) : (sizeOf 64).run Try.prog w = .ok 1 w := rfl
theorem uexag64 (w : World) : (isAgg 64).run Try.prog w = .ok false w := rfl
theorem uexnm38 : (Try.f38.name == "runtime.NumGoroutine") = false := by decide
theorem uexbd38 : Try.f38.body.isNone = false := rfl
theorem uexnm39 : (Try.f39.name == "runtime.NumGoroutine") = false := by decide
theorem uexbd39 : Try.f39.body.isNone = false := rfl
set_option maxHeartbeats 1000000 in
theorem explain_any (A0 : Option Addr) (n0 c0 : Nat) (l : List Fc) (w : World) (hr : Reads w w.heap.size 3 A0 n0 (fcs l)) (hl : l.length = n0) (hok : ∀ f ∈ l, f.Ok) (a b : Int) (har : 0 ≤ a ∧ a ≤ 4294967295) (hbr : 0 ≤ b ∧ b ≤ 4294967295) :
  Calls Try.prog 16 #[.slice A0 n0 c0, .int .u32 a, .int .u32 b] w fun e w' => ∃ x : {y : (Option Addr × Nat) × List Fc × Bool // ExOk l a b y.2 ∧ y.2.1.length ≤ y.1.2 ∧ y.1.2 ≤ maxLen}, e = .returned (.tuple #[.slice x.1.1.1 x.1.2.1.length x.1.1.2, .bool x.1.2.2]) ∧ Pm w [.row (.slice x.1.1.1 x.1.2.1.length x.1.1.2) 42 3 x.1.2.1.length (fcs x.1.2.1)] w' := by
 subst hl
 refine begin_ (vs := [.slice A0 l.length c0, .int .u32 a, .int .u32 b]) Try.func16 rfl rfl rfl ?_ (Pm.start w)
 refine TC.seq_ (TC.region ?_)
 refine TL.pnew rfl rfl rfl (exec_box (cs := [.int .u32 b]) rfl rfl rfl) (fun g5 => ?_)
 refine TL.as_ ?_
 refine TL.as_ ?_
 refine TL.end_ (TX.then_ (TC.seq_ (TC.seq_ (TC.region ?_))))
 refine TL.mv ?_
 refine TL.mv ?_
 refine TL.val rfl rfl rfl (pm_load (k := 0) (i := 0) rfl rfl uexag35 rfl rfl) ?_
 refine TL.callsplit rfl rfl rfl rfl rfl Try.func17 uexnm17 uexbd17 (fun w1 hw => same_any A0 _ c0 l w1 ((hr.below hw.bel).more hw.bel.size) rfl hok a b har hbr) (fun h17 => ?_) (fun h17 => ?_)
 ·have hsm : validF l ∧ repF l a = repF l b := of_decide_eq_true h17
  have hV := hsm.1
  have hl1 : l.length ≤ 1024 := hV.1
  have hfl := forest_le l
  have hfrs := forest_frs hV
  have hokf : ∀ f ∈ forest l, f.Ok := fun f hf => hok f (forF_sub l _ f hf)
  have hcon : Conn (forest l) a b := (rep_conn _ _ _).1 (by rw [forest_rep]; exact hsm.2)
  obtain ⟨F0, hF0⟩ : ∃ F0, F0 = forest l := ⟨_, rfl⟩
  refine TL.val rfl rfl rfl (gives_boolnot rfl rfl) ?_
  refine TL.end_ (TX.then_ (TC.condF rfl (TC.skip_ (TX.then_ (TC.seq_ (TC.region ?_))))))
  refine TL.mkmap rfl rfl rfl rfl (fun gm hgm => ?_)
  refine TL.pnew rfl rfl rfl (exec_alloc (cs := [.map none]) rfl uexzv63 rfl) (fun g8 => ?_)
  refine TL.pstore (k := 0) (vs := [.map (some gm)]) rfl rfl rfl rfl rfl rfl rfl uexsz63 (by intro u hu; rw [List.mem_singleton] at hu; subst hu; rfl) (by show 1 ≤ 1; decide) (L' := [.blk g8 63 [.map (some gm)], .oth gm (.map #[] 0), .blk g5 35 [.int .u32 b]]) rfl ?_
  refine TL.end_ (TX.then_ (TC.seq_ (TC.seq_ (TC.region ?_))))
  refine TL.mv ?_
  refine TL.pcallRow (n := (forest l).length) (ys := fcs (forest l)) rfl rfl rfl rfl rfl Try.func12 uexnm12 uexbd12 (fun w1 hw => by have h9 := forest_any A0 _ c0 l w1 ((hr.below hw.bel).more hw.bel.size) rfl hok; rw [show forV l = forest l from if_pos hV] at h9; exact h9) (fun AF cF hF1 hF2 => ?_)
  refine TL.val rfl rfl rfl (gives_len rfl Try.underlying26 rfl) ?_
  refine TL.mv ?_
  refine TL.end_ (TX.then_ (TC.block ?_))
  refine TC.loop_ (α := {y : Nat × Obj × List (Int × Sg Fc) // y.1 ≤ (forest l).length ∧ MapS y.2.1 y.2.2 (incF (F0.take y.1))}) (fun y => [(1, .int .u32 a), (5, .pointer (some ⟨g5, 0, none⟩)), (8, .pointer (some ⟨g8, 0, none⟩)), (21, .slice AF ((forest l).length) cF), (22, .int .i64 (((forest l).length : Nat) : Int)), (23, .int .i64 ((y.1.1 : Nat) : Int))]) (fun y => Pm w ([.blk g5 35 [.int .u32 b], .blk g8 63 [.map (some gm)], .oth gm y.1.2.1, .row (.slice AF ((forest l).length) cF) 42 3 ((forest l).length) (fcs (forest l))] ++ segG 42 3 fcs (y.1.2.2.map (·.2)))) (fun y => (forest l).length - y.1.1) (⟨(0, .map #[] 0, []), Nat.zero_le _, mapS_nil⟩) ⟨rfl, rfl, rfl, rfl, rfl, rfl, trivial⟩ (fun w1 hw => hw.pick [3, 1, 2, 0] (by decide) rfl) ?_
  rintro ⟨⟨i, ob, ps⟩, hi, hS⟩
  dsimp only at hi hS ⊢
  refine TC.seq_ (TC.region ?_)
  refine TL.vsplit rfl rfl rfl (gives_bin rfl rfl rfl (fun w => bin_lss w)) (fun h24 => ?_) (fun h24 => ?_)
  ·have q24 := of_decide_eq_true h24
   have hi2 : i < (forest l).length := by omega
   obtain ⟨x, hx⟩ : ∃ x, (forest l)[i]? = some x := ⟨_, List.getElem?_eq_getElem hi2⟩
   have hxo := hokf x (List.mem_of_getElem? hx)
   have har2 : 0 ≤ x.a ∧ x.a ≤ 4294967295 := ⟨hxo.1, hxo.2.1⟩
   have hbr2 : 0 ≤ x.b ∧ x.b ≤ 4294967295 := ⟨hxo.2.2.1, hxo.2.2.2⟩
   have htk : F0.take (i + 1) = F0.take i ++ [x] := by rw [List.take_add_one, hF0, hx]; rfl
   have hne := hfrs.ne x (List.mem_of_getElem? hx)
   have hF0l : F0.length = (forest l).length := by rw [hF0]
   have hlen : ∀ z, (incF (F0.take i) z).length ≤ 1024 := fun z => by have := incF_len (F0.take i) z; rw [List.length_take] at this; omega
   refine TL.fact (p := ∃ gF, AF = some ⟨gF, 0, none⟩) (fun w1 hw => rowA hw (k := 3) rfl (by omega)) ?_
   rintro ⟨gF, rfl⟩
   refine TL.end_ (TX.then_ (TC.seq_ (TC.condT rfl (TC.skip_ (TX.then_ (TC.seq_ (TC.block (TC.seq_ (TC.region ?_)))))))))
   refine TL.val rfl rfl rfl (gives_at (v := .pointer (some ⟨gF, 0 + i * 3, none⟩)) rfl rfl rfl (fun w => at_el Try.underlying26 uexsz42 rfl _ _ i hi2 rfl w)) ?_
   refine TL.val rfl rfl rfl (gives_loadR (off := 0 + i * 3) rfl rfl uexag42 uexsz42 (fc_cells_len x) (fun w1 hw q u hu => fc_row hw (k := 3) rfl hx q u hu)) ?_
   refine TL.pnew rfl rfl rfl (exec_alloc (cs := [.int .i64 0, .int .u32 0, .int .u32 0]) rfl uexzv42 rfl) (fun g10 => ?_)
   refine TL.pstore (k := 0) (vs := x.cells) rfl rfl rfl rfl rfl rfl rfl uexsz42 (fc_one x) (by show 3 ≤ 3; decide) (L' := ([.blk g10 42 x.cells, .blk g5 35 [.int .u32 b], .blk g8 63 [.map (some gm)], .oth gm ob, .row (.slice (some ⟨gF, 0, none⟩) ((forest l).length) cF) 42 3 ((forest l).length) (fcs (forest l))] ++ segG 42 3 fcs (ps.map (·.2)))) rfl ?_
   refine TL.end_ (TX.then_ ?_)
   refine TC.join (α := {y : Obj × List (Int × Sg Fc) // MapS y.1 y.2 (addS (incF (F0.take i)) x.a x)}) (fun y => [(1, .int .u32 a), (5, .pointer (some ⟨g5, 0, none⟩)), (8, .pointer (some ⟨g8, 0, none⟩)), (21, .slice (some ⟨gF, 0, none⟩) ((forest l).length) cF), (22, .int .i64 (((forest l).length : Nat) : Int)), (23, .int .i64 ((i : Nat) : Int)), (10, .pointer (some ⟨g10, 0, none⟩))]) (fun y => Pm w ([.blk g10 42 x.cells, .blk g5 35 [.int .u32 b], .blk g8 63 [.map (some gm)], .oth gm y.1.1, .row (.slice (some ⟨gF, 0, none⟩) ((forest l).length) cF) 42 3 ((forest l).length) (fcs (forest l))] ++ segG 42 3 fcs (y.1.2.map (·.2)))) ?_ ?_
   ·obtain ⟨fm, hmg, hfm⟩ := hS.map
    rcases hfi : ps.find? (fun p => decide (p.1 = x.a)) with _ | pk
    ·have hway := 0
     refine TC.held (ls := #[Ff,Ff,Ff,Ff,Ff,Ff,Ff,Ff,Ff,Ff,Ff]) (Pm w [.blk g8 63 [.map (some gm)], .blk g10 42 x.cells]) (by kernel_rfl) rfl rfl (fun w hw => hw.drawn _) ?_
     refine TH.tk (listed' := #[Tt,Ff,Ff,Ff,Ff,Ff,Ff,Ff,Ff,Ff,Ff]) 0 rfl rfl rfl (pm_load (k := 0) (i := 0) rfl rfl uexag63 rfl rfl) (fun w1 hw => hw.pick [2, 0] (by decide) rfl) ?_
     refine TH.tk (listed' := #[Tt,Tt,Ff,Ff,Ff,Ff,Ff,Ff,Ff,Ff,Ff]) 1 rfl rfl rfl (gives_field (v := .pointer (some ⟨g10, 1, none⟩)) rfl rfl (fun w => uexfld42_1 _ _ w)) (fun w1 hw => hw.pick [2, 0] (by decide) rfl) ?_
     refine TH.tk (listed' := #[Tt,Tt,Tt,Ff,Ff,Ff,Ff,Ff,Ff,Ff,Ff]) 2 rfl rfl rfl (pm_load (k := 1) (i := 1) rfl rfl uexag35 rfl rfl) (fun w1 hw => hw.pick [2, 0] (by decide) rfl) ?_
     refine TH.tk (listed' := #[Tt,Tt,Tt,Tt,Ff,Ff,Ff,Ff,Ff,Ff,Ff]) 3 rfl rfl rfl (pm_load (k := 0) (i := 0) rfl rfl uexag63 rfl rfl) (fun w1 hw => hw.pick [2, 0] (by decide) rfl) ?_
     refine TH.tk (listed' := #[Tt,Tt,Tt,Tt,Tt,Ff,Ff,Ff,Ff,Ff,Ff]) 4 rfl rfl rfl (gives_field (v := .pointer (some ⟨g10, 1, none⟩)) rfl rfl (fun w => uexfld42_1 _ _ w)) (fun w1 hw => hw.pick [2, 0] (by decide) rfl) ?_
     refine TH.tk (listed' := #[Tt,Tt,Tt,Tt,Tt,Tt,Ff,Ff,Ff,Ff,Ff]) 5 rfl rfl rfl (pm_load (k := 1) (i := 1) rfl rfl uexag35 rfl rfl) (fun w1 hw => hw.pick [2, 0] (by decide) rfl) ?_
     refine TH.tk (listed' := #[Tt,Tt,Tt,Tt,Tt,Tt,Ff,Tt,Ff,Ff,Ff]) 7 rfl rfl rfl (pm_loadV (k := 1) (i := 0) (n := 3) (v := .agg (x.cells).toArray) rfl rfl uexag42 uexsz42 rfl (by show 3 ≤ 3; decide) rfl) (fun w1 hw => hw.pick [2, 0] (by decide) rfl) ?_
     refine TH.two' (listed1 := #[Tt,Tt,Tt,Tt,Tt,Tt,Tt,Tt,Ff,Ff,Ff]) (listed2 := #[Tt,Tt,Tt,Tt,Tt,Tt,Ff,Tt,Tt,Ff,Ff]) 6 8 rfl rfl (by kernel_rfl) rfl rfl ?_ ?_
     ·refine TL.val rfl rfl rfl (gives_lookG (i := 3) (v := .slice none 0 0) rfl rfl rfl (mkey_int Try.underlying35) Try.underlying63 uexzv26 rfl hmg (wf32 har2) (by rw [hfm, hfi]; try rfl)) ?_
      refine TL.end_ ?_
      refine TX.held (fun w1 hw => hw.pick [2, 0] (by decide) rfl) ?_
      refine TH.only' (listed' := #[Tt,Tt,Tt,Tt,Tt,Tt,Tt,Tt,Tt,Ff,Ff]) 8 rfl (by kernel_rfl) rfl ?_
      refine TL.prowS (e := 42) (size := 3) (cs := fcs [x]) rfl rfl rfl rfl rfl (fun w => uexbs26_1_44646 _ _ _ w) (by decide) rfl (fun g35 => ?_)
      refine TL.end_ ?_
      refine TX.held (fun w1 hw => hw.pick [3, 1] (by decide) rfl) ?_
      refine TH.only' (listed' := #[Tt,Tt,Tt,Tt,Tt,Tt,Tt,Tt,Tt,Tt,Ff]) 9 rfl (by kernel_rfl) rfl ?_
      refine TL.nilrow 42 3 ?_
      refine TL.appendT (k := 0) rfl rfl rfl rfl Try.underlying26 uexel26 rfl rfl rfl (fun w1 hw => pm_reads hw (k := 1) rfl) (fcs_one _) (by decide) ([x].length) (rfl) (fcs [x]) (rfl) (fun A36 c36 hA361 hA362 => ?_)
      refine TL.end_ ?_
      refine TX.held (fun w1 hw => hw.pick [4, 2] (by decide) rfl) ?_
      refine TH.only' (listed' := #[Tt,Tt,Tt,Tt,Tt,Tt,Tt,Tt,Tt,Tt,Tt]) 10 rfl (by kernel_rfl) rfl ?_
      refine TL.mapsetG (i := 5) rfl rfl rfl rfl rfl rfl (mkey_int Try.underlying35) Try.underlying63 rfl hgm hmg (wf32 har2) (fun ob7 hmg2 => ?_)
      try dsimp only [List.set_cons_zero, List.set_cons_succ]
      refine TL.end_ ?_
      refine TX.held (fun w1 hw => hw.pick [4, 2] (by decide) rfl) ?_
      refine TH.done (by kernel_rfl) ?_
      exact TX.joined (⟨(ob7, ps ++ [(x.a, ⟨A36, c36, [x]⟩)]), hS.new hfi hfm hmg2⟩) (⟨rfl, rfl, rfl, rfl, rfl, rfl, rfl, trivial⟩) (fun w1 hw => (by rw [List.map_append]; exact Pm.segPush (s := ⟨A36, c36, [x]⟩) (P := _) (Pm.sel hw (.cons_cons _ (.cons _ (List.Sublist.refl _))))))
     ·refine TL.prowS (e := 42) (size := 3) (cs := fcs [x]) rfl rfl rfl rfl rfl (fun w => uexbs26_1_44646 _ _ _ w) (by decide) rfl (fun g35 => ?_)
      refine TL.end_ ?_
      refine TX.held (fun w1 hw => hw.pick [3, 1] (by decide) rfl) ?_
      refine TH.only' (listed' := #[Tt,Tt,Tt,Tt,Tt,Tt,Tt,Tt,Tt,Ff,Ff]) 6 rfl (by kernel_rfl) rfl ?_
      refine TL.val rfl rfl rfl (gives_lookG (i := 4) (v := .slice none 0 0) rfl rfl rfl (mkey_int Try.underlying35) Try.underlying63 uexzv26 rfl hmg (wf32 har2) (by rw [hfm, hfi]; try rfl)) ?_
      refine TL.end_ ?_
      refine TX.held (fun w1 hw => hw.pick [3, 1] (by decide) rfl) ?_
      refine TH.only' (listed' := #[Tt,Tt,Tt,Tt,Tt,Tt,Tt,Tt,Tt,Tt,Ff]) 9 rfl (by kernel_rfl) rfl ?_
      refine TL.nilrow 42 3 ?_
      refine TL.appendT (k := 0) rfl rfl rfl rfl Try.underlying26 uexel26 rfl rfl rfl (fun w1 hw => pm_reads hw (k := 1) rfl) (fcs_one _) (by decide) ([x].length) (rfl) (fcs [x]) (rfl) (fun A36 c36 hA361 hA362 => ?_)
      refine TL.end_ ?_
      refine TX.held (fun w1 hw => hw.pick [4, 2] (by decide) rfl) ?_
      refine TH.only' (listed' := #[Tt,Tt,Tt,Tt,Tt,Tt,Tt,Tt,Tt,Tt,Tt]) 10 rfl (by kernel_rfl) rfl ?_
      refine TL.mapsetG (i := 5) rfl rfl rfl rfl rfl rfl (mkey_int Try.underlying35) Try.underlying63 rfl hgm hmg (wf32 har2) (fun ob7 hmg2 => ?_)
      try dsimp only [List.set_cons_zero, List.set_cons_succ]
      refine TL.end_ ?_
      refine TX.held (fun w1 hw => hw.pick [4, 2] (by decide) rfl) ?_
      refine TH.done (by kernel_rfl) ?_
      exact TX.joined (⟨(ob7, ps ++ [(x.a, ⟨A36, c36, [x]⟩)]), hS.new hfi hfm hmg2⟩) (⟨rfl, rfl, rfl, rfl, rfl, rfl, rfl, trivial⟩) (fun w1 hw => (by rw [List.map_append]; exact Pm.segPush (s := ⟨A36, c36, [x]⟩) (P := _) (Pm.sel hw (.cons_cons _ (.cons _ (List.Sublist.refl _))))))
    ·obtain ⟨k, s, hks, rfl⟩ := find_at hfi
     have hsl : s.l.length ≤ 1100 := by have h8 := hS.sp x.a; rw [getS_of hfi] at h8; have := congrArg List.length h8; rw [this]; exact Nat.le_trans (hlen _) (by omega)
     refine TC.mem (fun w1 hw => Pm.segOut (P := _) hw (map_at hks)) ?_
     refine TC.held (ls := #[Ff,Ff,Ff,Ff,Ff,Ff,Ff,Ff,Ff,Ff,Ff]) (Pm w [.blk g8 63 [.map (some gm)], .blk g10 42 x.cells]) (by kernel_rfl) rfl rfl (fun w hw => hw.drawn _) ?_
     refine TH.tk (listed' := #[Tt,Ff,Ff,Ff,Ff,Ff,Ff,Ff,Ff,Ff,Ff]) 0 rfl rfl rfl (pm_load (k := 0) (i := 0) rfl rfl uexag63 rfl rfl) (fun w1 hw => hw.pick [3, 1] (by decide) rfl) ?_
     refine TH.tk (listed' := #[Tt,Tt,Ff,Ff,Ff,Ff,Ff,Ff,Ff,Ff,Ff]) 1 rfl rfl rfl (gives_field (v := .pointer (some ⟨g10, 1, none⟩)) rfl rfl (fun w => uexfld42_1 _ _ w)) (fun w1 hw => hw.pick [3, 1] (by decide) rfl) ?_
     refine TH.tk (listed' := #[Tt,Tt,Tt,Ff,Ff,Ff,Ff,Ff,Ff,Ff,Ff]) 2 rfl rfl rfl (pm_load (k := 1) (i := 1) rfl rfl uexag35 rfl rfl) (fun w1 hw => hw.pick [3, 1] (by decide) rfl) ?_
     refine TH.tk (listed' := #[Tt,Tt,Tt,Tt,Ff,Ff,Ff,Ff,Ff,Ff,Ff]) 3 rfl rfl rfl (pm_load (k := 0) (i := 0) rfl rfl uexag63 rfl rfl) (fun w1 hw => hw.pick [3, 1] (by decide) rfl) ?_
     refine TH.tk (listed' := #[Tt,Tt,Tt,Tt,Tt,Ff,Ff,Ff,Ff,Ff,Ff]) 4 rfl rfl rfl (gives_field (v := .pointer (some ⟨g10, 1, none⟩)) rfl rfl (fun w => uexfld42_1 _ _ w)) (fun w1 hw => hw.pick [3, 1] (by decide) rfl) ?_
     refine TH.tk (listed' := #[Tt,Tt,Tt,Tt,Tt,Tt,Ff,Ff,Ff,Ff,Ff]) 5 rfl rfl rfl (pm_load (k := 1) (i := 1) rfl rfl uexag35 rfl rfl) (fun w1 hw => hw.pick [3, 1] (by decide) rfl) ?_
     refine TH.tk (listed' := #[Tt,Tt,Tt,Tt,Tt,Tt,Ff,Tt,Ff,Ff,Ff]) 7 rfl rfl rfl (pm_loadV (k := 1) (i := 0) (n := 3) (v := .agg (x.cells).toArray) rfl rfl uexag42 uexsz42 rfl (by show 3 ≤ 3; decide) rfl) (fun w1 hw => hw.pick [3, 1] (by decide) rfl) ?_
     refine TH.two' (listed1 := #[Tt,Tt,Tt,Tt,Tt,Tt,Tt,Tt,Ff,Ff,Ff]) (listed2 := #[Tt,Tt,Tt,Tt,Tt,Tt,Ff,Tt,Tt,Ff,Ff]) 6 8 rfl rfl (by kernel_rfl) rfl rfl ?_ ?_
     ·refine TL.val rfl rfl rfl (gives_lookG (i := 4) (v := .slice s.A s.l.length s.c) rfl rfl rfl (mkey_int Try.underlying35) Try.underlying63 uexzv26 rfl hmg (wf32 har2) (by rw [hfm, hfi]; try rfl)) ?_
      refine TL.end_ ?_
      refine TX.held (fun w1 hw => hw.pick [3, 1] (by decide) rfl) ?_
      refine TH.only' (listed' := #[Tt,Tt,Tt,Tt,Tt,Tt,Tt,Tt,Tt,Ff,Ff]) 8 rfl (by kernel_rfl) rfl ?_
      refine TL.prowS (e := 42) (size := 3) (cs := fcs [x]) rfl rfl rfl rfl rfl (fun w => uexbs26_1_44646 _ _ _ w) (by decide) rfl (fun g35 => ?_)
      refine TL.end_ ?_
      refine TX.held (fun w1 hw => hw.pick [4, 2] (by decide) rfl) ?_
      refine TH.only' (listed' := #[Tt,Tt,Tt,Tt,Tt,Tt,Tt,Tt,Tt,Tt,Ff]) 9 rfl (by kernel_rfl) rfl ?_
      refine TL.appendT (k := 1) rfl rfl rfl rfl Try.underlying26 uexel26 rfl rfl rfl (fun w1 hw => pm_reads hw (k := 0) rfl) (fcs_one _) (by show _ * 16 ≤ _; omega) ((s.l ++ [x]).length) (by rw [List.length_append]; rfl) (fcs (s.l ++ [x])) (by rw [fcs_app]) (fun A36 c36 hA361 hA362 => ?_)
      refine TL.end_ ?_
      refine TX.held (fun w1 hw => hw.pick [4, 2] (by decide) rfl) ?_
      refine TH.only' (listed' := #[Tt,Tt,Tt,Tt,Tt,Tt,Tt,Tt,Tt,Tt,Tt]) 10 rfl (by kernel_rfl) rfl ?_
      refine TL.mapsetG (i := 5) rfl rfl rfl rfl rfl rfl (mkey_int Try.underlying35) Try.underlying63 rfl hgm hmg (wf32 har2) (fun ob7 hmg2 => ?_)
      try dsimp only [List.set_cons_zero, List.set_cons_succ]
      refine TL.end_ ?_
      refine TX.held (fun w1 hw => hw.pick [4, 2] (by decide) rfl) ?_
      refine TH.done (by kernel_rfl) ?_
      exact TX.joined (⟨(ob7, ps.set k (x.a, ⟨A36, c36, s.l ++ [x]⟩)), hS.old hfi hks hfm hmg2⟩) (⟨rfl, rfl, rfl, rfl, rfl, rfl, rfl, trivial⟩) (fun w1 hw => (by rw [List.map_set]; exact Pm.segIn (P := _) (s' := ⟨A36, c36, s.l ++ [x]⟩) hw.tail (by rw [List.length_map]; exact (List.getElem?_eq_some_iff.1 hks).1)))
     ·refine TL.prowS (e := 42) (size := 3) (cs := fcs [x]) rfl rfl rfl rfl rfl (fun w => uexbs26_1_44646 _ _ _ w) (by decide) rfl (fun g35 => ?_)
      refine TL.end_ ?_
      refine TX.held (fun w1 hw => hw.pick [4, 2] (by decide) rfl) ?_
      refine TH.only' (listed' := #[Tt,Tt,Tt,Tt,Tt,Tt,Tt,Tt,Tt,Ff,Ff]) 6 rfl (by kernel_rfl) rfl ?_
      refine TL.val rfl rfl rfl (gives_lookG (i := 5) (v := .slice s.A s.l.length s.c) rfl rfl rfl (mkey_int Try.underlying35) Try.underlying63 uexzv26 rfl hmg (wf32 har2) (by rw [hfm, hfi]; try rfl)) ?_
      refine TL.end_ ?_
      refine TX.held (fun w1 hw => hw.pick [4, 2] (by decide) rfl) ?_
      refine TH.only' (listed' := #[Tt,Tt,Tt,Tt,Tt,Tt,Tt,Tt,Tt,Tt,Ff]) 9 rfl (by kernel_rfl) rfl ?_
      refine TL.appendT (k := 1) rfl rfl rfl rfl Try.underlying26 uexel26 rfl rfl rfl (fun w1 hw => pm_reads hw (k := 0) rfl) (fcs_one _) (by show _ * 16 ≤ _; omega) ((s.l ++ [x]).length) (by rw [List.length_append]; rfl) (fcs (s.l ++ [x])) (by rw [fcs_app]) (fun A36 c36 hA361 hA362 => ?_)
      refine TL.end_ ?_
      refine TX.held (fun w1 hw => hw.pick [4, 2] (by decide) rfl) ?_
      refine TH.only' (listed' := #[Tt,Tt,Tt,Tt,Tt,Tt,Tt,Tt,Tt,Tt,Tt]) 10 rfl (by kernel_rfl) rfl ?_
      refine TL.mapsetG (i := 5) rfl rfl rfl rfl rfl rfl (mkey_int Try.underlying35) Try.underlying63 rfl hgm hmg (wf32 har2) (fun ob7 hmg2 => ?_)
      try dsimp only [List.set_cons_zero, List.set_cons_succ]
      refine TL.end_ ?_
      refine TX.held (fun w1 hw => hw.pick [4, 2] (by decide) rfl) ?_
      refine TH.done (by kernel_rfl) ?_
      exact TX.joined (⟨(ob7, ps.set k (x.a, ⟨A36, c36, s.l ++ [x]⟩)), hS.old hfi hks hfm hmg2⟩) (⟨rfl, rfl, rfl, rfl, rfl, rfl, rfl, trivial⟩) (fun w1 hw => (by rw [List.map_set]; exact Pm.segIn (P := _) (s' := ⟨A36, c36, s.l ++ [x]⟩) hw.tail (by rw [List.length_map]; exact (List.getElem?_eq_some_iff.1 hks).1)))
   ·rintro ⟨⟨ob1, ps1⟩, hS1⟩
    dsimp only at hS1 ⊢
    clear hS
    have hS := hS1
    have hlen2 : ∀ z, (addS (incF (F0.take i)) x.a x z).length ≤ 1100 := fun z => by unfold addS; split <;> (try rw [List.length_append]) <;> (have := hlen z; have := hlen x.a; try simp only [List.length_cons, List.length_nil]) <;> omega
    obtain ⟨fm, hmg, hfm⟩ := hS.map
    rcases hfi : ps1.find? (fun p => decide (p.1 = x.b)) with _ | pk
    ·have hway := 0
     refine TC.held (ls := #[Ff,Ff,Ff,Ff,Ff,Ff,Ff,Ff,Ff,Ff,Ff]) (Pm w [.blk g8 63 [.map (some gm)], .blk g10 42 x.cells]) (by kernel_rfl) rfl rfl (fun w hw => hw.drawn _) ?_
     refine TH.tk (listed' := #[Tt,Ff,Ff,Ff,Ff,Ff,Ff,Ff,Ff,Ff,Ff]) 0 rfl rfl rfl (pm_load (k := 0) (i := 0) rfl rfl uexag63 rfl rfl) (fun w1 hw => hw.pick [2, 0] (by decide) rfl) ?_
     refine TH.tk (listed' := #[Tt,Tt,Ff,Ff,Ff,Ff,Ff,Ff,Ff,Ff,Ff]) 1 rfl rfl rfl (gives_field (v := .pointer (some ⟨g10, 2, none⟩)) rfl rfl (fun w => uexfld42_2 _ _ w)) (fun w1 hw => hw.pick [2, 0] (by decide) rfl) ?_
     refine TH.tk (listed' := #[Tt,Tt,Tt,Ff,Ff,Ff,Ff,Ff,Ff,Ff,Ff]) 2 rfl rfl rfl (pm_load (k := 1) (i := 2) rfl rfl uexag35 rfl rfl) (fun w1 hw => hw.pick [2, 0] (by decide) rfl) ?_
     refine TH.tk (listed' := #[Tt,Tt,Tt,Tt,Ff,Ff,Ff,Ff,Ff,Ff,Ff]) 3 rfl rfl rfl (pm_load (k := 0) (i := 0) rfl rfl uexag63 rfl rfl) (fun w1 hw => hw.pick [2, 0] (by decide) rfl) ?_
     refine TH.tk (listed' := #[Tt,Tt,Tt,Tt,Tt,Ff,Ff,Ff,Ff,Ff,Ff]) 4 rfl rfl rfl (gives_field (v := .pointer (some ⟨g10, 2, none⟩)) rfl rfl (fun w => uexfld42_2 _ _ w)) (fun w1 hw => hw.pick [2, 0] (by decide) rfl) ?_
     refine TH.tk (listed' := #[Tt,Tt,Tt,Tt,Tt,Tt,Ff,Ff,Ff,Ff,Ff]) 5 rfl rfl rfl (pm_load (k := 1) (i := 2) rfl rfl uexag35 rfl rfl) (fun w1 hw => hw.pick [2, 0] (by decide) rfl) ?_
     refine TH.tk (listed' := #[Tt,Tt,Tt,Tt,Tt,Tt,Ff,Tt,Ff,Ff,Ff]) 7 rfl rfl rfl (pm_loadV (k := 1) (i := 0) (n := 3) (v := .agg (x.cells).toArray) rfl rfl uexag42 uexsz42 rfl (by show 3 ≤ 3; decide) rfl) (fun w1 hw => hw.pick [2, 0] (by decide) rfl) ?_
     refine TH.two' (listed1 := #[Tt,Tt,Tt,Tt,Tt,Tt,Tt,Tt,Ff,Ff,Ff]) (listed2 := #[Tt,Tt,Tt,Tt,Tt,Tt,Ff,Tt,Tt,Ff,Ff]) 6 8 rfl rfl (by kernel_rfl) rfl rfl ?_ ?_
     ·refine TL.val rfl rfl rfl (gives_lookG (i := 3) (v := .slice none 0 0) rfl rfl rfl (mkey_int Try.underlying35) Try.underlying63 uexzv26 rfl hmg (wf32 hbr2) (by rw [hfm, hfi]; try rfl)) ?_
      refine TL.end_ ?_
      refine TX.held (fun w1 hw => hw.pick [2, 0] (by decide) rfl) ?_
      refine TH.only' (listed' := #[Tt,Tt,Tt,Tt,Tt,Tt,Tt,Tt,Tt,Ff,Ff]) 8 rfl (by kernel_rfl) rfl ?_
      refine TL.prowS (e := 42) (size := 3) (cs := fcs [x]) rfl rfl rfl rfl rfl (fun w => uexbs26_1_44646 _ _ _ w) (by decide) rfl (fun g45 => ?_)
      refine TL.end_ ?_
      refine TX.held (fun w1 hw => hw.pick [3, 1] (by decide) rfl) ?_
      refine TH.only' (listed' := #[Tt,Tt,Tt,Tt,Tt,Tt,Tt,Tt,Tt,Tt,Ff]) 9 rfl (by kernel_rfl) rfl ?_
      refine TL.nilrow 42 3 ?_
      refine TL.appendT (k := 0) rfl rfl rfl rfl Try.underlying26 uexel26 rfl rfl rfl (fun w1 hw => pm_reads hw (k := 1) rfl) (fcs_one _) (by decide) ([x].length) (rfl) (fcs [x]) (rfl) (fun A46 c46 hA461 hA462 => ?_)
      refine TL.end_ ?_
      refine TX.held (fun w1 hw => hw.pick [4, 2] (by decide) rfl) ?_
      refine TH.only' (listed' := #[Tt,Tt,Tt,Tt,Tt,Tt,Tt,Tt,Tt,Tt,Tt]) 10 rfl (by kernel_rfl) rfl ?_
      refine TL.mapsetG (i := 5) rfl rfl rfl rfl rfl rfl (mkey_int Try.underlying35) Try.underlying63 rfl hgm hmg (wf32 hbr2) (fun ob8 hmg2 => ?_)
      try dsimp only [List.set_cons_zero, List.set_cons_succ]
      refine TL.end_ ?_
      refine TX.held (fun w1 hw => hw.pick [4, 2] (by decide) rfl) ?_
      refine TH.done (by kernel_rfl) ?_
      refine TX.in_normal (TX.then_ (TC.region ?_))
      refine TL.val rfl rfl rfl (gives_bin rfl rfl rfl (fun w => bin_add_ (r := ((i + 1 : Nat) : Int)) (by simp only [IntKind.wrap_i64]; omega) w)) ?_
      refine TL.mv ?_
      refine TL.end_ ?_
      exact TX.round (⟨(i + 1, ob8, (ps1 ++ [(x.b, ⟨A46, c46, [x]⟩)])), hi2, by have h9 := hS.new hfi hfm hmg2; rw [inc_step hne, ← htk] at h9; exact h9⟩) (by show (forest l).length - (i + 1) < (forest l).length - i; omega) ⟨rfl, rfl, rfl, rfl, rfl, rfl, trivial⟩ (fun w1 hw => (by dsimp only; rw [List.map_append]; exact Pm.segPush (s := ⟨A46, c46, [x]⟩) (P := _) (Pm.sel hw (.cons_cons _ (.cons _ (.cons _ (List.Sublist.refl _)))))))
     ·refine TL.prowS (e := 42) (size := 3) (cs := fcs [x]) rfl rfl rfl rfl rfl (fun w => uexbs26_1_44646 _ _ _ w) (by decide) rfl (fun g45 => ?_)
      refine TL.end_ ?_
      refine TX.held (fun w1 hw => hw.pick [3, 1] (by decide) rfl) ?_
      refine TH.only' (listed' := #[Tt,Tt,Tt,Tt,Tt,Tt,Tt,Tt,Tt,Ff,Ff]) 6 rfl (by kernel_rfl) rfl ?_
      refine TL.val rfl rfl rfl (gives_lookG (i := 4) (v := .slice none 0 0) rfl rfl rfl (mkey_int Try.underlying35) Try.underlying63 uexzv26 rfl hmg (wf32 hbr2) (by rw [hfm, hfi]; try rfl)) ?_
      refine TL.end_ ?_
      refine TX.held (fun w1 hw => hw.pick [3, 1] (by decide) rfl) ?_
      refine TH.only' (listed' := #[Tt,Tt,Tt,Tt,Tt,Tt,Tt,Tt,Tt,Tt,Ff]) 9 rfl (by kernel_rfl) rfl ?_
      refine TL.nilrow 42 3 ?_
      refine TL.appendT (k := 0) rfl rfl rfl rfl Try.underlying26 uexel26 rfl rfl rfl (fun w1 hw => pm_reads hw (k := 1) rfl) (fcs_one _) (by decide) ([x].length) (rfl) (fcs [x]) (rfl) (fun A46 c46 hA461 hA462 => ?_)
      refine TL.end_ ?_
      refine TX.held (fun w1 hw => hw.pick [4, 2] (by decide) rfl) ?_
      refine TH.only' (listed' := #[Tt,Tt,Tt,Tt,Tt,Tt,Tt,Tt,Tt,Tt,Tt]) 10 rfl (by kernel_rfl) rfl ?_
      refine TL.mapsetG (i := 5) rfl rfl rfl rfl rfl rfl (mkey_int Try.underlying35) Try.underlying63 rfl hgm hmg (wf32 hbr2) (fun ob8 hmg2 => ?_)
      try dsimp only [List.set_cons_zero, List.set_cons_succ]
      refine TL.end_ ?_
      refine TX.held (fun w1 hw => hw.pick [4, 2] (by decide) rfl) ?_
      refine TH.done (by kernel_rfl) ?_
      refine TX.in_normal (TX.then_ (TC.region ?_))
      refine TL.val rfl rfl rfl (gives_bin rfl rfl rfl (fun w => bin_add_ (r := ((i + 1 : Nat) : Int)) (by simp only [IntKind.wrap_i64]; omega) w)) ?_
      refine TL.mv ?_
      refine TL.end_ ?_
      exact TX.round (⟨(i + 1, ob8, (ps1 ++ [(x.b, ⟨A46, c46, [x]⟩)])), hi2, by have h9 := hS.new hfi hfm hmg2; rw [inc_step hne, ← htk] at h9; exact h9⟩) (by show (forest l).length - (i + 1) < (forest l).length - i; omega) ⟨rfl, rfl, rfl, rfl, rfl, rfl, trivial⟩ (fun w1 hw => (by dsimp only; rw [List.map_append]; exact Pm.segPush (s := ⟨A46, c46, [x]⟩) (P := _) (Pm.sel hw (.cons_cons _ (.cons _ (.cons _ (List.Sublist.refl _)))))))
    ·obtain ⟨k, s, hks, rfl⟩ := find_at hfi
     have hsl : s.l.length ≤ 1100 := by have h8 := hS.sp x.b; rw [getS_of hfi] at h8; have := congrArg List.length h8; rw [this]; exact hlen2 _
     refine TC.mem (fun w1 hw => Pm.segOut (P := _) hw (map_at hks)) ?_
     refine TC.held (ls := #[Ff,Ff,Ff,Ff,Ff,Ff,Ff,Ff,Ff,Ff,Ff]) (Pm w [.blk g8 63 [.map (some gm)], .blk g10 42 x.cells]) (by kernel_rfl) rfl rfl (fun w hw => hw.drawn _) ?_
     refine TH.tk (listed' := #[Tt,Ff,Ff,Ff,Ff,Ff,Ff,Ff,Ff,Ff,Ff]) 0 rfl rfl rfl (pm_load (k := 0) (i := 0) rfl rfl uexag63 rfl rfl) (fun w1 hw => hw.pick [3, 1] (by decide) rfl) ?_
     refine TH.tk (listed' := #[Tt,Tt,Ff,Ff,Ff,Ff,Ff,Ff,Ff,Ff,Ff]) 1 rfl rfl rfl (gives_field (v := .pointer (some ⟨g10, 2, none⟩)) rfl rfl (fun w => uexfld42_2 _ _ w)) (fun w1 hw => hw.pick [3, 1] (by decide) rfl) ?_
     refine TH.tk (listed' := #[Tt,Tt,Tt,Ff,Ff,Ff,Ff,Ff,Ff,Ff,Ff]) 2 rfl rfl rfl (pm_load (k := 1) (i := 2) rfl rfl uexag35 rfl rfl) (fun w1 hw => hw.pick [3, 1] (by decide) rfl) ?_
     refine TH.tk (listed' := #[Tt,Tt,Tt,Tt,Ff,Ff,Ff,Ff,Ff,Ff,Ff]) 3 rfl rfl rfl (pm_load (k := 0) (i := 0) rfl rfl uexag63 rfl rfl) (fun w1 hw => hw.pick [3, 1] (by decide) rfl) ?_
     refine TH.tk (listed' := #[Tt,Tt,Tt,Tt,Tt,Ff,Ff,Ff,Ff,Ff,Ff]) 4 rfl rfl rfl (gives_field (v := .pointer (some ⟨g10, 2, none⟩)) rfl rfl (fun w => uexfld42_2 _ _ w)) (fun w1 hw => hw.pick [3, 1] (by decide) rfl) ?_
     refine TH.tk (listed' := #[Tt,Tt,Tt,Tt,Tt,Tt,Ff,Ff,Ff,Ff,Ff]) 5 rfl rfl rfl (pm_load (k := 1) (i := 2) rfl rfl uexag35 rfl rfl) (fun w1 hw => hw.pick [3, 1] (by decide) rfl) ?_
     refine TH.tk (listed' := #[Tt,Tt,Tt,Tt,Tt,Tt,Ff,Tt,Ff,Ff,Ff]) 7 rfl rfl rfl (pm_loadV (k := 1) (i := 0) (n := 3) (v := .agg (x.cells).toArray) rfl rfl uexag42 uexsz42 rfl (by show 3 ≤ 3; decide) rfl) (fun w1 hw => hw.pick [3, 1] (by decide) rfl) ?_
     refine TH.two' (listed1 := #[Tt,Tt,Tt,Tt,Tt,Tt,Tt,Tt,Ff,Ff,Ff]) (listed2 := #[Tt,Tt,Tt,Tt,Tt,Tt,Ff,Tt,Tt,Ff,Ff]) 6 8 rfl rfl (by kernel_rfl) rfl rfl ?_ ?_
     ·refine TL.val rfl rfl rfl (gives_lookG (i := 4) (v := .slice s.A s.l.length s.c) rfl rfl rfl (mkey_int Try.underlying35) Try.underlying63 uexzv26 rfl hmg (wf32 hbr2) (by rw [hfm, hfi]; try rfl)) ?_
      refine TL.end_ ?_
      refine TX.held (fun w1 hw => hw.pick [3, 1] (by decide) rfl) ?_
      refine TH.only' (listed' := #[Tt,Tt,Tt,Tt,Tt,Tt,Tt,Tt,Tt,Ff,Ff]) 8 rfl (by kernel_rfl) rfl ?_
      refine TL.prowS (e := 42) (size := 3) (cs := fcs [x]) rfl rfl rfl rfl rfl (fun w => uexbs26_1_44646 _ _ _ w) (by decide) rfl (fun g45 => ?_)
      refine TL.end_ ?_
      refine TX.held (fun w1 hw => hw.pick [4, 2] (by decide) rfl) ?_
      refine TH.only' (listed' := #[Tt,Tt,Tt,Tt,Tt,Tt,Tt,Tt,Tt,Tt,Ff]) 9 rfl (by kernel_rfl) rfl ?_
      refine TL.appendT (k := 1) rfl rfl rfl rfl Try.underlying26 uexel26 rfl rfl rfl (fun w1 hw => pm_reads hw (k := 0) rfl) (fcs_one _) (by show _ * 16 ≤ _; omega) ((s.l ++ [x]).length) (by rw [List.length_append]; rfl) (fcs (s.l ++ [x])) (by rw [fcs_app]) (fun A46 c46 hA461 hA462 => ?_)
      refine TL.end_ ?_
      refine TX.held (fun w1 hw => hw.pick [4, 2] (by decide) rfl) ?_
      refine TH.only' (listed' := #[Tt,Tt,Tt,Tt,Tt,Tt,Tt,Tt,Tt,Tt,Tt]) 10 rfl (by kernel_rfl) rfl ?_
      refine TL.mapsetG (i := 5) rfl rfl rfl rfl rfl rfl (mkey_int Try.underlying35) Try.underlying63 rfl hgm hmg (wf32 hbr2) (fun ob8 hmg2 => ?_)
      try dsimp only [List.set_cons_zero, List.set_cons_succ]
      refine TL.end_ ?_
      refine TX.held (fun w1 hw => hw.pick [4, 2] (by decide) rfl) ?_
      refine TH.done (by kernel_rfl) ?_
      refine TX.in_normal (TX.then_ (TC.region ?_))
      refine TL.val rfl rfl rfl (gives_bin rfl rfl rfl (fun w => bin_add_ (r := ((i + 1 : Nat) : Int)) (by simp only [IntKind.wrap_i64]; omega) w)) ?_
      refine TL.mv ?_
      refine TL.end_ ?_
      exact TX.round (⟨(i + 1, ob8, (ps1.set k (x.b, ⟨A46, c46, s.l ++ [x]⟩))), hi2, by have h9 := hS.old hfi hks hfm hmg2; rw [inc_step hne, ← htk] at h9; exact h9⟩) (by show (forest l).length - (i + 1) < (forest l).length - i; omega) ⟨rfl, rfl, rfl, rfl, rfl, rfl, trivial⟩ (fun w1 hw => (by dsimp only; rw [List.map_set]; exact Pm.segIn (P := _) (s' := ⟨A46, c46, s.l ++ [x]⟩) (Pm.sel hw (.cons _ (.cons_cons _ (.cons _ (List.Sublist.refl _))))) (by rw [List.length_map]; exact (List.getElem?_eq_some_iff.1 hks).1)))
     ·refine TL.prowS (e := 42) (size := 3) (cs := fcs [x]) rfl rfl rfl rfl rfl (fun w => uexbs26_1_44646 _ _ _ w) (by decide) rfl (fun g45 => ?_)
      refine TL.end_ ?_
      refine TX.held (fun w1 hw => hw.pick [4, 2] (by decide) rfl) ?_
      refine TH.only' (listed' := #[Tt,Tt,Tt,Tt,Tt,Tt,Tt,Tt,Tt,Ff,Ff]) 6 rfl (by kernel_rfl) rfl ?_
      refine TL.val rfl rfl rfl (gives_lookG (i := 5) (v := .slice s.A s.l.length s.c) rfl rfl rfl (mkey_int Try.underlying35) Try.underlying63 uexzv26 rfl hmg (wf32 hbr2) (by rw [hfm, hfi]; try rfl)) ?_
      refine TL.end_ ?_
      refine TX.held (fun w1 hw => hw.pick [4, 2] (by decide) rfl) ?_
      refine TH.only' (listed' := #[Tt,Tt,Tt,Tt,Tt,Tt,Tt,Tt,Tt,Tt,Ff]) 9 rfl (by kernel_rfl) rfl ?_
      refine TL.appendT (k := 1) rfl rfl rfl rfl Try.underlying26 uexel26 rfl rfl rfl (fun w1 hw => pm_reads hw (k := 0) rfl) (fcs_one _) (by show _ * 16 ≤ _; omega) ((s.l ++ [x]).length) (by rw [List.length_append]; rfl) (fcs (s.l ++ [x])) (by rw [fcs_app]) (fun A46 c46 hA461 hA462 => ?_)
      refine TL.end_ ?_
      refine TX.held (fun w1 hw => hw.pick [4, 2] (by decide) rfl) ?_
      refine TH.only' (listed' := #[Tt,Tt,Tt,Tt,Tt,Tt,Tt,Tt,Tt,Tt,Tt]) 10 rfl (by kernel_rfl) rfl ?_
      refine TL.mapsetG (i := 5) rfl rfl rfl rfl rfl rfl (mkey_int Try.underlying35) Try.underlying63 rfl hgm hmg (wf32 hbr2) (fun ob8 hmg2 => ?_)
      try dsimp only [List.set_cons_zero, List.set_cons_succ]
      refine TL.end_ ?_
      refine TX.held (fun w1 hw => hw.pick [4, 2] (by decide) rfl) ?_
      refine TH.done (by kernel_rfl) ?_
      refine TX.in_normal (TX.then_ (TC.region ?_))
      refine TL.val rfl rfl rfl (gives_bin rfl rfl rfl (fun w => bin_add_ (r := ((i + 1 : Nat) : Int)) (by simp only [IntKind.wrap_i64]; omega) w)) ?_
      refine TL.mv ?_
      refine TL.end_ ?_
      exact TX.round (⟨(i + 1, ob8, (ps1.set k (x.b, ⟨A46, c46, s.l ++ [x]⟩))), hi2, by have h9 := hS.old hfi hks hfm hmg2; rw [inc_step hne, ← htk] at h9; exact h9⟩) (by show (forest l).length - (i + 1) < (forest l).length - i; omega) ⟨rfl, rfl, rfl, rfl, rfl, rfl, trivial⟩ (fun w1 hw => (by dsimp only; rw [List.map_set]; exact Pm.segIn (P := _) (s' := ⟨A46, c46, s.l ++ [x]⟩) (Pm.sel hw (.cons _ (.cons_cons _ (.cons _ (List.Sublist.refl _))))) (by rw [List.length_map]; exact (List.getElem?_eq_some_iff.1 hks).1)))
  ·have q24 := of_decide_eq_false h24
   obtain rfl : i = (forest l).length := by omega
   rw [hF0, List.take_length] at hS
   obtain ⟨fm, hmg, hfm⟩ := hS.map
   refine TL.end_ (TX.then_ (TC.seq_ (TC.condF rfl (TC.exit_ (TX.then_exit (TX.then_exit (TX.in_same (TX.then_ (TC.seq_ (TC.region ?_))))))))))
   refine TL.pnew rfl rfl rfl (exec_alloc (cs := [.nilFunc]) rfl uexzv64 rfl) (fun g11 => ?_)
   refine TL.end_ (TX.then_ (TC.seq_ (TC.region ?_)))
   refine TL.val rfl rfl rfl (gives_makeFunc rfl rfl rfl) ?_
   refine TL.pstore (k := 0) (vs := [.func (.func 38) #[] #[.pointer (some ⟨g5, 0, none⟩), .pointer (some ⟨g8, 0, none⟩), .pointer (some ⟨g11, 0, none⟩)]]) rfl rfl rfl rfl rfl rfl rfl uexsz64 (by intro u hu; rw [List.mem_singleton] at hu; subst hu; rfl) (by show 1 ≤ 1; decide) (L' := ([.blk g11 64 [.func (.func 38) #[] #[.pointer (some ⟨g5, 0, none⟩), .pointer (some ⟨g8, 0, none⟩), .pointer (some ⟨g11, 0, none⟩)]], .blk g5 35 [.int .u32 b], .blk g8 63 [.map (some gm)], .oth gm ob, .row (.slice AF ((forest l).length) cF) 42 3 ((forest l).length) (fcs (forest l))] ++ segG 42 3 fcs (ps.map (·.2)))) rfl ?_
   refine TL.end_ (TX.then_ (TC.seq_ (TC.region ?_)))
   refine TL.val rfl rfl rfl (pm_load (k := 0) (i := 0) rfl rfl uexag64 rfl rfl) ?_
   refine TL.mv ?_
   refine TL.callEPm (α := {y : (Option Addr × Nat) × List Fc × Bool // WalkOk (forest l) y.2.1 y.2.2 a (-1) b ∧ y.2.1.length ≤ y.1.2 ∧ y.1.2 ≤ maxLen ∧ (y.2.1 = [] → y.1 = (none, 0))}) (fun y => .tuple #[.slice y.1.1.1 y.1.2.1.length y.1.1.2, .bool y.1.2.2]) (fun y => [.row (.slice y.1.1.1 y.1.2.1.length y.1.1.2) 42 3 y.1.2.1.length (fcs y.1.2.1)]) rfl rfl rfl (ent_val rfl rfl rfl Try.func38 uexnm38 uexbd38 rfl) (fun w1 hw => walk_ind g5 g8 g11 gm (forest l) b ob fm (getS ps) a ((forest l).length + 1) a (-1) [] w1 (nxt_of (k11 := 0) (k5 := 1) (k8 := 2) (km := 3) hw rfl rfl rfl rfl (fun s hs => List.mem_append_right _ (List.mem_map.2 ⟨s, hs, rfl⟩)) hmg hfm hS hfrs hokf (by omega)) rfl rfl (by show _ < _ + 0; omega) har) ?_
   rintro ⟨⟨⟨AA, cc⟩, way, ok⟩, hwk, hc1, hc2, hc3⟩
   dsimp only [List.cons_append, List.nil_append] at hwk hc1 hc2 hc3 ⊢
   obtain rfl : ok = true := by cases ok with | true => rfl | false => (obtain ⟨p, hp⟩ := hfrs.way hcon; exact absurd hp (hwk.2 rfl p))
   iterate 5 (first | refine TL.as_ ?_ | refine TL.ex ?_ | refine TL.mv ?_)
   refine TL.end_ (TX.then_ (TC.seq_ ?_))
   rcases Nat.eq_zero_or_pos way.length with hwn | hwn
   ·obtain rfl := List.eq_nil_of_length_eq_zero hwn
    cases (hc3 rfl)
    refine TC.region ?_
    refine TL.mv ?_
    refine TL.pcall1 (r := .tuple #[]) rfl rfl rfl rfl rfl Try.func39 uexnm39 uexbd39 (fun w1 hw => frev_nil w1) ?_
    refine TL.end_ (TX.then_ (TC.seq_ (TC.region ?_)))
    refine TL.mv ?_
    refine TL.as_ ?_
    refine TL.as_ ?_
    refine TL.end_ (TX.then_ (TC.ret_ ?_))
    exact ret_pair Try.results16 rfl rfl (fun w1 hw => ⟨⟨((none, 0), [], true), ⟨iff_of_true rfl hsm, fun _ => rfl, fun _ => hwk.1 rfl⟩, Nat.le_refl _, Nat.zero_le _⟩, rfl, Pm.sel hw (.cons_cons _ (List.nil_sublist _))⟩)
   ·refine TC.fact (p := ∃ g, AA = some ⟨g, 0, none⟩) (fun w1 hw => rowA hw (k := 0) rfl hwn) ?_
    rintro ⟨gw, rfl⟩
    refine TC.region ?_
    refine TL.mv ?_
    refine TL.pcallRwG (k := 0) (α := Unit) (fun _ => .tuple #[]) (fun _ => way.length) (fun _ => fcs way.reverse) rfl rfl rfl rfl rfl Try.func39 uexnm39 uexbd39 rfl (fun w1 hw hr1 => (frev_any gw way.length cc way w1 hr1 rfl hwn (by have := hwk.len hfrs; omega)).mono fun e w2 ⟨h1, h2, h3⟩ => ⟨(), h1, h2, h3⟩) ?_
    rintro ⟨⟩
    try dsimp only [List.set_cons_zero]
    refine TL.end_ (TX.then_ (TC.seq_ (TC.region ?_)))
    refine TL.mv ?_
    refine TL.as_ ?_
    refine TL.as_ ?_
    refine TL.end_ (TX.then_ (TC.ret_ ?_))
    exact ret_pair Try.results16 rfl rfl (fun w1 hw => ⟨⟨((some ⟨gw, 0, none⟩, cc), way.reverse, true), ⟨iff_of_true rfl hsm, fun hh => (by cases hh), fun _ => hwk.1 rfl⟩, by rw [List.length_reverse]; exact hc1, hc2⟩, by dsimp only; rw [List.length_reverse]; rfl, by dsimp only; rw [List.length_reverse]; exact Pm.sel hw (.cons_cons _ (List.nil_sublist _))⟩)
 ·have hsm := of_decide_eq_false h17
  refine TL.val rfl rfl rfl (gives_boolnot rfl rfl) ?_
  refine TL.end_ (TX.then_ (TC.condT rfl (TC.seq_ (TC.region ?_))))
  refine TL.as_ ?_
  refine TL.as_ ?_
  refine TL.end_ (TX.then_ (TC.ret_ (TX.then_ret ?_)))
  exact ret_pair Try.results16 rfl rfl (fun w1 hw => ⟨⟨((none, 0), [], false), ⟨iff_of_false (by simp) hsm, fun _ => rfl, fun hh => (by cases hh)⟩, Nat.le_refl _, Nat.zero_le _⟩, rfl, (Pm.sel hw (List.nil_sublist _)).nilrow _ _⟩)
end Go.Proofs.Ytleckflmckbheaa

namespace Go.Proofs.Ytleckflmckbheaa
open Go.RowKit
set_option maxRecDepth 20000
def awk : List Fc := [⟨1, 5, 7⟩, ⟨2, 7, 9⟩, ⟨3, 5, 9⟩]
def awp : List Fc := [⟨1, 5, 7⟩, ⟨2, 7, 9⟩]
theorem awk_ok : ∀ f ∈ awk, f.Ok := by
 intro f hf
 simp only [awk, List.mem_cons, List.not_mem_nil, or_false] at hf
 rcases hf with rfl | rfl | rfl <;> exact ⟨by decide, by decide, by decide, by decide⟩
theorem awp_ok : ∀ f ∈ awp, f.Ok := by
 intro f hf
 simp only [awp, List.mem_cons, List.not_mem_nil, or_false] at hf
 rcases hf with rfl | rfl <;> exact ⟨by decide, by decide, by decide, by decide⟩
theorem awk_valid : validF awk := by
 refine ⟨by decide, fun i hi f hf => ?_⟩
 have hi : i < 3 := hi
 match i, hi with
 | 0, _ => cases hf; exact ⟨by decide, by decide, fun g h0 _ => absurd h0 (by decide)⟩
 | 1, _ => cases hf; exact ⟨by decide, by decide, fun g _ hg => by cases hg; decide⟩
 | 2, _ => cases hf; exact ⟨by decide, by decide, fun g _ hg => by cases hg; decide⟩
theorem awk_for : forest awk = awp := by decide
theorem awk_forest : forV awk = awp := (if_pos awk_valid).trans awk_for
theorem awk_same : validF awk ∧ repF awk 5 = repF awk 9 := ⟨awk_valid, by decide⟩
theorem awk_apart : ¬ (validF awk ∧ repF awk 5 = repF awk 8) := fun h => absurd h.2 (by decide)
theorem awk_explain {p : List Fc} {ok : Bool} (h : ExOk awk 5 9 (p, ok)) : p = awp ∧ ok = true := by
 obtain ⟨h1, _, h3⟩ := h
 have hok : ok = true := h1.2 awk_same
 refine ⟨?_, hok⟩
 refine (forest_frs awk_valid).only _ _ 5 (-1) (-1) 9 (h3 hok) ?_
 rw [awk_for]
 exact ⟨by decide, by decide, by decide, by decide, by decide, by decide, (by show oth (⟨2, 7, 9⟩ : Fc) (oth (⟨1, 5, 7⟩ : Fc) 5) = 9; decide)⟩
theorem awk_rem : remP awk 1 = ([⟨2, 7, 9⟩, ⟨3, 5, 9⟩], 0) := by
 unfold remP
 rw [if_pos awk_valid]
 rfl
theorem awk_bridge {b : Bool} {e : Int} (h : BrOk awk 1 (b, e)) : b = false ∧ e = 0 := by
 obtain ⟨h1, _, h3⟩ := h
 rw [awk_rem] at h1
 have he : e = 0 := h1
 refine ⟨?_, he⟩
 obtain ⟨i, x, hi, hx, hb⟩ := h3 he
 have hi0 : ixF awk 1 = some 0 := rfl
 rw [hi0] at hi
 cases hi
 cases hx
 cases b with
 | false => rfl
 | true =>
  exfalso
  refine hb.1 rfl ⟨⟨by decide, fun j hj f hf => ?_⟩, by decide⟩
  have hj : j < 2 := hj
  match j, hj with
  | 0, _ => cases hf; exact ⟨by decide, by decide, fun g h0 _ => absurd h0 (by decide)⟩
  | 1, _ => cases hf; exact ⟨by decide, by decide, fun g _ hg => by cases hg; decide⟩
theorem awk_asc : asc (adrs awk) = [5, 7, 9] := by
 refine asc_eq _ _ (asc_asc _) (by decide) fun x => ?_
 rw [mem_asc]
 show x ∈ ([5, 7, 7, 9, 5, 9] : List Int) ↔ _
 simp only [List.mem_cons, List.not_mem_nil, or_false]
 omega
theorem awk_len {ss : List (Sg Int)} (h : ss.map (·.l) = clsV awk) : ss.length = 1 := by
 have h1 : (clsV awk).length = 1 := by
  rw [show clsV awk = clsL awk from if_pos awk_valid]
  unfold clsL
  rw [awk_asc]
  decide
 rw [← h1, ← h, List.length_map]
theorem check_is (A0 : Option Addr) (n0 c0 : Nat) (l : List Fc) (w : World) (hr : Reads w w.heap.size 3 A0 n0 (fcs l)) (hl : l.length = n0) (hok : ∀ f ∈ l, f.Ok) (hl1 : l.length ≤ 100000) (a b : Int) (ht : chkF l a = some b) : Calls Try.prog 18 #[.slice A0 n0 c0, .int .u32 a, .int .u32 b] w fun e w' => e = .returned (.bool true) ∧ Below w.heap.size w w' := by
 have := check_any A0 n0 c0 l w hr hl hok hl1 a b
 rwa [decide_eq_true ht] at this
theorem valid_is (A : Option Addr) (n c : Nat) (l : List Fc) (w : World) (hr : Reads w w.heap.size 3 A n (fcs l)) (hl : l.length = n) {t : Bool} (ht : decide (validF l) = t) : Calls Try.prog 22 #[.slice A n c] w fun e w' => e = .returned (.bool t) ∧ Below w.heap.size w w' := by
 subst ht
 exact valid_any A n c l w hr hl
theorem segperm (r : Pc) (S P T : List Pc) : (([r] ++ S) ++ (P ++ T)).Perm ((r :: P) ++ (S ++ T)) := by
 refine List.Perm.cons r ?_
 show (S ++ (P ++ T)).Perm (P ++ (S ++ T))
 rw [← List.append_assoc, ← List.append_assoc]
 exact List.Perm.append_right T List.perm_append_comm
theorem segperm0 (r : Pc) (S P : List Pc) : (([r] ++ S) ++ P).Perm ((r :: P) ++ S) := List.Perm.cons r List.perm_append_comm
theorem uawbld42_57313 (a0_0 : Int) (a1_0 : Int) (a2_0 : Int) (w : World) : (Instr.build 42 #[(0, .int .i64 a0_0), (1, .int .u32 a1_0), (2, .int .u32 a2_0)]).run Try.prog w = .ok (.agg #[.int .i64 a0_0, .int .u32 a1_0, .int .u32 a2_0]) w := by kernel_rfl
theorem uawbs26_3_90897 (a0_0 : Int) (a0_1 : Int) (a0_2 : Int) (a1_0 : Int) (a1_1 : Int) (a1_2 : Int) (a2_0 : Int) (a2_1 : Int) (a2_2 : Int) (w : World) : (Instr.buildSlice 26 3 #[(0, .agg #[.int .i64 a0_0, .int .u32 a0_1, .int .u32 a0_2]), (1, .agg #[.int .i64 a1_0, .int .u32 a1_1, .int .u32 a1_2]), (2, .agg #[.int .i64 a2_0, .int .u32 a2_1, .int .u32 a2_2])]).run Try.prog w = .ok (.slice (some ⟨w.heap.size, 0, none⟩) 3 3) (w.alloc (.cells [.int .i64 a0_0, .int .u32 a0_1, .int .u32 a0_2, .int .i64 a1_0, .int .u32 a1_1, .int .u32 a1_2, .int .i64 a2_0, .int .u32 a2_1, .int .u32 a2_2].toArray 42)) := by kernel_rfl
theorem uawnm16 : (Try.f16.name == "runtime.NumGoroutine") = false := by decide
theorem uawbd16 : Try.f16.body.isNone = false := rfl
theorem uawnm19 : (Try.f19.name == "runtime.NumGoroutine") = false := by decide
theorem uawbd19 : Try.f19.body.isNone = false := rfl
theorem uawnm12 : (Try.f12.name == "runtime.NumGoroutine") = false := by decide
theorem uawbd12 : Try.f12.body.isNone = false := rfl
theorem uawsz42 (w : World) : (sizeOf 42).run Try.prog w = .ok 3 w := rfl
theorem uawfld42_0 (g o : Nat) (w : World) : (Instr.fieldAt 42 (.pointer (some ⟨g, o, none⟩)) 0).run Try.prog w = .ok (.pointer (some ⟨g, o + 0, none⟩)) w := by kernel_rfl
theorem uawag3 (w : World) : (isAgg 3).run Try.prog w = .ok false w := rfl
theorem uawnm17 : (Try.f17.name == "runtime.NumGoroutine") = false := by decide
theorem uawbd17 : Try.f17.body.isNone = false := rfl
theorem uawnm18 : (Try.f18.name == "runtime.NumGoroutine") = false := by decide
theorem uawbd18 : Try.f18.body.isNone = false := rfl
theorem uawnm11 : (Try.f11.name == "runtime.NumGoroutine") = false := by decide
theorem uawbd11 : Try.f11.body.isNone = false := rfl
theorem uawnm22 : (Try.f22.name == "runtime.NumGoroutine") = false := by decide
theorem uawbd22 : Try.f22.body.isNone = false := rfl
set_option maxHeartbeats 1000000 in
theorem awake_true (w : World) : Calls Try.prog 8 #[] w fun e w' => e = .returned (.bool true) ∧ Below w.heap.size w w' := by
 refine begin_ (vs := []) Try.func8 rfl rfl rfl ?_ (Pm.start w)
 refine TC.seq_ (TC.region ?_)
 refine TL.as_ ?_
 refine TL.end_ (TX.then_ (TC.seq_ (TC.region ?_)))
 refine TL.val rfl rfl rfl (gives_build (v := .agg #[.int .i64 1, .int .u32 5, .int .u32 7]) rfl rfl (fun w => uawbld42_57313 _ _ _ w)) ?_
 refine TL.val rfl rfl rfl (gives_build (v := .agg #[.int .i64 2, .int .u32 7, .int .u32 9]) rfl rfl (fun w => uawbld42_57313 _ _ _ w)) ?_
 refine TL.val rfl rfl rfl (gives_build (v := .agg #[.int .i64 3, .int .u32 5, .int .u32 9]) rfl rfl (fun w => uawbld42_57313 _ _ _ w)) ?_
 refine TL.prowS (e := 42) (size := 3) (cs := fcs awk) rfl rfl rfl rfl rfl (fun w => uawbs26_3_90897 _ _ _ _ _ _ _ _ _ w) (by decide) rfl (fun g9 => ?_)
 refine TL.as_ ?_
 refine TL.end_ (TX.then_ (TC.seq_ (TC.region ?_)))
 refine TL.mv ?_
 refine TL.pcallPm (α := {y : (Option Addr × Nat) × List Fc × Bool // ExOk awk 5 9 y.2 ∧ y.2.1.length ≤ y.1.2 ∧ y.1.2 ≤ maxLen}) (fun y => .tuple #[.slice y.1.1.1 y.1.2.1.length y.1.1.2, .bool y.1.2.2]) (fun y => [.row (.slice y.1.1.1 y.1.2.1.length y.1.1.2) 42 3 y.1.2.1.length (fcs y.1.2.1)]) rfl rfl rfl rfl rfl Try.func16 uawnm16 uawbd16 (fun w1 hw => explain_any (some ⟨g9, 0, none⟩) _ 3 awk w1 (by obtain ⟨B9, h8⟩ := pm_reads hw (k := 0) rfl; exact reads_up h8 (pm_row_lt hw (k := 0) rfl)) rfl awk_ok 5 9 (by decide) (by decide)) ?_
 rintro ⟨⟨⟨AP, cp⟩, p, ok⟩, hex, hcp1, hcp2⟩
 dsimp only [List.cons_append, List.nil_append] at hex hcp1 hcp2 ⊢
 obtain ⟨rfl, rfl⟩ := awk_explain hex
 refine TL.fact (p := ∃ g, AP = some ⟨g, 0, none⟩) (fun w1 hw => rowA hw (k := 0) rfl (by decide)) ?_
 rintro ⟨gp, rfl⟩
 iterate 5 (first | refine TL.as_ ?_ | refine TL.ex ?_ | refine TL.mv ?_)
 refine TL.end_ (TX.then_ (TC.seq_ (TC.region ?_)))
 refine TL.mv ?_
 refine TL.pcallPm (α := {y : Bool × Int // BrOk awk 1 y}) (fun y => .tuple #[.bool y.1.1, .int .i64 y.1.2]) (fun _ => []) rfl rfl rfl rfl rfl Try.func19 uawnm19 uawbd19 (fun w1 hw => (bridge_any (some ⟨g9, 0, none⟩) _ 3 awk w1 (by obtain ⟨B9, h8⟩ := pm_reads hw (k := 1) rfl; exact reads_up h8 (pm_row_lt hw (k := 1) rfl)) rfl awk_ok 1).mono fun e w2 ⟨x, h1, h2⟩ => ⟨x, h1, (Pm.start w1).below h2⟩) ?_
 rintro ⟨⟨b, e⟩, hbr⟩
 dsimp only [List.cons_append, List.nil_append] at hbr ⊢
 obtain ⟨rfl, rfl⟩ := awk_bridge hbr
 iterate 5 (first | refine TL.as_ ?_ | refine TL.ex ?_ | refine TL.mv ?_)
 refine TL.end_ (TX.then_ (TC.seq_ (TC.region ?_)))
 refine TL.mv ?_
 refine TL.pcallRow (n := awp.length) (ys := fcs awp) rfl rfl rfl rfl rfl Try.func12 uawnm12 uawbd12 (fun w1 hw => by have h9 := forest_any (some ⟨g9, 0, none⟩) 3 3 awk w1 (by obtain ⟨B9, h8⟩ := pm_reads hw (k := 1) rfl; exact reads_up h8 (pm_row_lt hw (k := 1) rfl)) rfl awk_ok; rw [awk_forest] at h9; exact h9) (fun AF21 cF21 hF211 hF212 => ?_)
 refine TL.val rfl rfl rfl (gives_len rfl Try.underlying26 rfl) ?_
 refine TL.val rfl rfl rfl (gives_bin rfl rfl rfl (fun w => bin_eql_t (rfl) w)) ?_
 iterate 8 (first | refine TL.mv ?_ | refine TL.gu ?_ | refine TL.pk ?_)
 refine TL.val rfl rfl rfl (gives_len rfl Try.underlying26 rfl) ?_
 refine TL.gu ?_
 refine TL.val rfl rfl rfl (gives_bin rfl rfl rfl (fun w => bin_eql_t (rfl) w)) ?_
 iterate 5 (first | refine TL.gu ?_ | refine TL.mv ?_ | refine TL.pk ?_)
 refine TL.val rfl rfl rfl (gives_at (v := .pointer (some ⟨gp, 0 + 0 * 3, none⟩)) rfl rfl rfl (fun w => at_el Try.underlying26 uawsz42 rfl _ _ 0 (by decide) rfl w)) ?_
 refine TL.gu ?_
 refine TL.val rfl rfl rfl (gives_field (v := .pointer (some ⟨gp, 0 + 0 * 3 + 0, none⟩)) rfl rfl (fun w => uawfld42_0 _ _ w)) ?_
 refine TL.gu ?_
 refine TL.val rfl rfl rfl (gives_load (v := .int .i64 1) rfl rfl uawag3 (fun w1 hw => fc_row hw (k := 1) (i := 0) rfl rfl 0 _ rfl)) ?_
 refine TL.gu ?_
 refine TL.val rfl rfl rfl (gives_bin rfl rfl rfl (fun w => bin_eql_t (rfl) w)) ?_
 iterate 5 (first | refine TL.gu ?_ | refine TL.mv ?_ | refine TL.pk ?_)
 refine TL.val rfl rfl rfl (gives_at (v := .pointer (some ⟨gp, 0 + 1 * 3, none⟩)) rfl rfl rfl (fun w => at_el Try.underlying26 uawsz42 rfl _ _ 1 (by decide) rfl w)) ?_
 refine TL.gu ?_
 refine TL.val rfl rfl rfl (gives_field (v := .pointer (some ⟨gp, 0 + 1 * 3 + 0, none⟩)) rfl rfl (fun w => uawfld42_0 _ _ w)) ?_
 refine TL.gu ?_
 refine TL.val rfl rfl rfl (gives_load (v := .int .i64 2) rfl rfl uawag3 (fun w1 hw => fc_row hw (k := 1) (i := 1) rfl rfl 0 _ rfl)) ?_
 refine TL.gu ?_
 refine TL.val rfl rfl rfl (gives_bin rfl rfl rfl (fun w => bin_eql_t (rfl) w)) ?_
 iterate 11 (first | refine TL.gu ?_ | refine TL.mv ?_ | refine TL.pk ?_ | refine TL.val rfl rfl rfl (gives_boolnot rfl rfl) ?_)
 refine TL.val rfl rfl rfl (gives_bin rfl rfl rfl (fun w => bin_eql_t (rfl) w)) ?_
 iterate 5 (first | refine TL.gu ?_ | refine TL.mv ?_ | refine TL.pk ?_)
 refine TL.pcall1 (r := .bool true) rfl rfl rfl rfl rfl Try.func17 uawnm17 uawbd17 (fun w1 hw => same_is (some ⟨g9, 0, none⟩) 3 3 awk w1 (by obtain ⟨B9, h8⟩ := pm_reads hw (k := 2) rfl; exact reads_up h8 (pm_row_lt hw (k := 2) rfl)) rfl awk_ok 5 9 (by decide) (by decide) (decide_eq_true awk_same)) ?_
 iterate 5 (first | refine TL.gu ?_ | refine TL.mv ?_ | refine TL.pk ?_)
 refine TL.pcall1 (r := .bool false) rfl rfl rfl rfl rfl Try.func17 uawnm17 uawbd17 (fun w1 hw => same_is (some ⟨g9, 0, none⟩) 3 3 awk w1 (by obtain ⟨B9, h8⟩ := pm_reads hw (k := 2) rfl; exact reads_up h8 (pm_row_lt hw (k := 2) rfl)) rfl awk_ok 5 8 (by decide) (by decide) (decide_eq_false awk_apart)) ?_
 iterate 7 (first | refine TL.gu ?_ | refine TL.mv ?_ | refine TL.pk ?_ | refine TL.val rfl rfl rfl (gives_boolnot rfl rfl) ?_)
 refine TL.pcall1 (r := .bool true) rfl rfl rfl rfl rfl Try.func18 uawnm18 uawbd18 (fun w1 hw => (check_is (some ⟨gp, 0, none⟩) _ cp awp w1 (by obtain ⟨B9, h8⟩ := pm_reads hw (k := 1) rfl; exact reads_up h8 (pm_row_lt hw (k := 1) rfl)) rfl awp_ok (by decide) 5 9 (by decide))) ?_
 iterate 5 (first | refine TL.gu ?_ | refine TL.mv ?_ | refine TL.pk ?_)
 refine TL.pcallPm (α := {y : (Option Addr × Nat) × List (Sg Int) // y.2.map (·.l) = clsV awk ∧ y.2.length ≤ y.1.2 ∧ y.1.2 ≤ maxLen}) (fun y => .slice y.1.1.1 y.1.2.length y.1.1.2) (fun y => [.row (.slice y.1.1.1 y.1.2.length y.1.1.2) 31 1 y.1.2.length (y.1.2.map Sg.val)] ++ segG 35 1 uv y.1.2) rfl rfl rfl rfl rfl Try.func11 uawnm11 uawbd11 (fun w1 hw => clss_any (some ⟨g9, 0, none⟩) 3 3 awk w1 (by obtain ⟨B9, h8⟩ := pm_reads hw (k := 2) rfl; exact reads_up h8 (pm_row_lt hw (k := 2) rfl)) rfl awk_ok) ?_ (fun y => segG_noAbs (e := 35) (size := 1) (enc := uv) y.1.2)
 rintro ⟨⟨⟨AC, cC⟩, ss⟩, hcs, hcc, hcd⟩
 dsimp only at hcs hcc hcd ⊢
 refine TL.mem (I' := Pm w ([.row (.slice AC ss.length cC) 31 1 ss.length (ss.map Sg.val), .row (.slice AF21 awp.length cF21) 42 3 awp.length (fcs awp), .row (.slice (some ⟨gp, 0, none⟩) awp.length cp) 42 3 awp.length (fcs awp), .row (.slice (some ⟨g9, 0, none⟩) 3 3) 42 3 3 (fcs awk)] ++ segG 35 1 uv ss)) (fun w1 hw => hw.permute (segperm0 _ _ _)) ?_
 refine TL.gu ?_
 refine TL.val rfl rfl rfl (gives_len rfl Try.underlying28 rfl) ?_
 refine TL.gu ?_
 refine TL.val rfl rfl rfl (gives_bin rfl rfl rfl (fun w => bin_eql_t (by rw [awk_len hcs]; rfl) w)) ?_
 iterate 5 (first | refine TL.gu ?_ | refine TL.mv ?_ | refine TL.pk ?_)
 refine TL.pcall1 (r := .bool true) rfl rfl rfl rfl rfl Try.func22 uawnm22 uawbd22 (fun w1 hw => (valid_is (some ⟨g9, 0, none⟩) _ 3 awk w1 (by obtain ⟨B9, h8⟩ := pm_reads hw (k := 3) rfl; exact reads_up h8 (pm_row_lt hw (k := 3) rfl)) rfl (decide_eq_true awk_valid))) ?_
 refine TL.pk ?_
 refine TL.as_ ?_
 refine TL.end_ (TX.then_ (TC.ret_ ?_))
 exact ret_tmp Try.results8 rfl (fun w1 hw => ⟨rfl, hw.bel⟩)
end Go.Proofs.Ytleckflmckbheaa

namespace Go.Proofs.Ytleckflmckbheaa
open Go.RowKit
set_option maxRecDepth 20000
theorem cod_stab (cb : Nat) : Stab cb (fun w => Cod w cb) := fun w1 w2 h hs => h.keep fun b hb => hs b (by omega)
theorem cod_cells {w : World} {cb : Nat} (h : Cod w cb) : CellsAt w cb := by
 obtain ⟨A, m, c, l, k, hb, _⟩ := h
 exact ⟨_, hb, rfl⟩
theorem next_cod (cb : Nat) (w : World) (n : Int) (h : Cod w cb) :
  Calls Try.prog 21 #[.pointer (some ⟨cb, 0, none⟩), .int .i64 n] w fun e w' => ∃ x : {x : Nat // x ≤ 65535 ∧ (1 ≤ n → (x : Int) < n)}, e = .returned (.int .i64 (x.1 : Int)) ∧ Codr (fun w => Cod w cb) cb w [] w' :=
 (next_any cb w n h).mono fun e w' ⟨x, he, h0, h1, h2, hc, hg, _⟩ => by
  obtain ⟨k, rfl⟩ := Int.eq_ofNat_of_zero_le h0
  exact ⟨⟨k, by omega, h2⟩, he, hc, hg, cod_cells hc, (fun q hq => absurd hq List.not_mem_nil), List.Pairwise.nil⟩
theorem grown_cell {w w1 : World} {cb : Nat} {p : Addr} (hg : w.grownBy w1 (some cb)) (hp : p.block ≠ cb) (hl : p.block < w.heap.size) : w1.cell? p = w.cell? p :=
 World.cell?_of_block (hg.block _ hl fun e => hp (by injection e))
def tab8 : List Int := [1, 2, 5, 6, 9, 10, 12, 13]
def tabV8 : List Value := tab8.map (Value.int .i64)
def FcsI (l : List Fc) (id : Int) : Prop := validF l ∧ 0 ≤ id ∧ (∀ f ∈ l, f.id < id) ∧ ∀ f ∈ l, f.Ok
theorem fcsI_nil {id : Int} (h : 0 ≤ id) : FcsI [] id := ⟨⟨by decide, fun i hi => absurd hi (Nat.not_lt_zero _)⟩, h, fun f hf => absurd hf List.not_mem_nil, fun f hf => absurd hf List.not_mem_nil⟩
theorem FcsI.snoc {l : List Fc} {id id' : Int} (h : FcsI l id) (f : Fc) (hf : f.id = id) (hne : f.a ≠ f.b) (hok : f.Ok) (hid : id < id') (hl : l.length < 1024) : FcsI (l ++ [f]) id' := by
 obtain ⟨⟨h1, h2⟩, h3, h4, h5⟩ := h
 have hm : ∀ g, g ∈ l ++ [f] → g ∈ l ∨ g = f := fun g hg => by simpa using hg
 refine ⟨⟨by rw [List.length_append]; simp only [List.length_cons, List.length_nil]; omega, fun i hi g hg => ?_⟩, by omega, fun g hg => ?_, fun g hg => ?_⟩
 ·rw [List.length_append] at hi
  simp only [List.length_cons, List.length_nil] at hi
  rcases Nat.lt_or_ge i l.length with hh | hh
  ·rw [List.getElem?_append_left hh] at hg
   obtain ⟨a1, a2, a3⟩ := h2 i hh g hg
   exact ⟨a1, a2, fun k hk hkk => a3 k hk (by rwa [List.getElem?_append_left (by omega)] at hkk)⟩
  ·obtain rfl : i = l.length := by omega
   rw [List.getElem?_append_right (Nat.le_refl _), Nat.sub_self] at hg
   cases hg
   refine ⟨by omega, hne, fun k hk hkk => ?_⟩
   rw [List.getElem?_append_left (by omega)] at hkk
   have := h4 k (List.mem_of_getElem? hkk)
   omega
 ·rcases hm g hg with hh | rfl
  ·have := h4 g hh; omega
  ·omega
 ·rcases hm g hg with hh | rfl
  ·exact h5 g hh
  ·exact hok
theorem udrnm34 : (Try.f34.name == "runtime.NumGoroutine") = false := by decide
theorem udrbd34 : Try.f34.body.isNone = false := rfl
theorem udrsz3 (w : World) : (sizeOf 3).run Try.prog w = .ok 1 w := rfl
theorem udrnm21 : (Try.f21.name == "runtime.NumGoroutine") = false := by decide
theorem udrbd21 : Try.f21.body.isNone = false := rfl
theorem udrag3 (w : World) : (isAgg 3).run Try.prog w = .ok false w := rfl
theorem udrbs56_8_10220 (a0_0 : Int) (a1_0 : Int) (a2_0 : Int) (a3_0 : Int) (a4_0 : Int) (a5_0 : Int) (a6_0 : Int) (a7_0 : Int) (w : World) : (Instr.buildSlice 56 8 #[(0, .int .i64 a0_0), (1, .int .i64 a1_0), (2, .int .i64 a2_0), (3, .int .i64 a3_0), (4, .int .i64 a4_0), (5, .int .i64 a5_0), (6, .int .i64 a6_0), (7, .int .i64 a7_0)]).run Try.prog w = .ok (.slice (some ⟨w.heap.size, 0, none⟩) 8 8) (w.alloc (.cells [.int .i64 a0_0, .int .i64 a1_0, .int .i64 a2_0, .int .i64 a3_0, .int .i64 a4_0, .int .i64 a5_0, .int .i64 a6_0, .int .i64 a7_0].toArray 3)) := by kernel_rfl
theorem udrnm37 : (Try.f37.name == "runtime.NumGoroutine") = false := by decide
theorem udrbd37 : Try.f37.body.isNone = false := rfl
theorem udrnm15 : (Try.f15.name == "runtime.NumGoroutine") = false := by decide
theorem udrbd15 : Try.f15.body.isNone = false := rfl
theorem udrbld42_57313 (a0_0 : Int) (a1_0 : Int) (a2_0 : Int) (w : World) : (Instr.build 42 #[(0, .int .i64 a0_0), (1, .int .u32 a1_0), (2, .int .u32 a2_0)]).run Try.prog w = .ok (.agg #[.int .i64 a0_0, .int .u32 a1_0, .int .u32 a2_0]) w := by kernel_rfl
theorem udrzv42 (w : World) : (zeroValue 42).run Try.prog w = .ok (.agg #[.int .i64 0, .int .u32 0, .int .u32 0]) w := rfl
theorem udrsz42 (w : World) : (sizeOf 42).run Try.prog w = .ok 3 w := rfl
theorem udrone_i64u32u32 {a0 : Int} {a1 : Int} {a2 : Int} : ∀ u ∈ [(.int .i64 a0 : Value), .int .u32 a1, .int .u32 a2], u.oneCell' = true := by
 intro u hu
 simp only [List.mem_cons, List.not_mem_nil, or_false] at hu
 rcases hu with rfl | rfl | rfl <;> rfl
theorem udrfld42_1 (g o : Nat) (w : World) : (Instr.fieldAt 42 (.pointer (some ⟨g, o, none⟩)) 1).run Try.prog w = .ok (.pointer (some ⟨g, o + 1, none⟩)) w := by kernel_rfl
theorem udrag35 (w : World) : (isAgg 35).run Try.prog w = .ok false w := rfl
theorem udrfld42_2 (g o : Nat) (w : World) : (Instr.fieldAt 42 (.pointer (some ⟨g, o, none⟩)) 2).run Try.prog w = .ok (.pointer (some ⟨g, o + 2, none⟩)) w := by kernel_rfl
theorem udrsz35 (w : World) : (sizeOf 35).run Try.prog w = .ok 1 w := rfl
theorem udrone_u32 {a0 : Int} : ∀ u ∈ [(.int .u32 a0 : Value)], u.oneCell' = true := by
 intro u hu
 rw [List.mem_singleton] at hu
 subst hu; rfl
theorem udrag42 (w : World) : (isAgg 42).run Try.prog w = .ok true w := rfl
theorem udrbs26_1_44646 (a0_0 : Int) (a0_1 : Int) (a0_2 : Int) (w : World) : (Instr.buildSlice 26 1 #[(0, .agg #[.int .i64 a0_0, .int .u32 a0_1, .int .u32 a0_2])]).run Try.prog w = .ok (.slice (some ⟨w.heap.size, 0, none⟩) 1 1) (w.alloc (.cells [.int .i64 a0_0, .int .u32 a0_1, .int .u32 a0_2].toArray 42)) := by kernel_rfl
theorem udrel26 : Elem Try.prog 26 42 3 16 := Elem.mk' Try.underlying26 (z := .agg #[.int .i64 0, .int .u32 0, .int .u32 0]) (by kernel_rfl) rfl (by omega) (by omega)
set_option maxHeartbeats 1000000 in
theorem roll_any (A : Option Addr) (n c : Nat) (l : List Int) (w : World) (hb : Byt w w.heap.size A n l) (hc : n ≤ c) (hn : (n : Int) ≤ 9223372036854775807) : Calls Try.prog 9 #[.slice A n c] w fun e w' => e = .returned (.pointer (some ⟨w.heap.size, 0, none⟩)) ∧ Cod w' w.heap.size ∧ Below w.heap.size w w' := by
 refine begin_ (vs := [.slice A n c]) (I := fun w1 => w1 = w) Try.func9 rfl rfl rfl ?_ rfl
 refine TC.seq_ (TC.region ?_)
 refine TL.as_ ?_
 refine TL.end_ (TX.then_ (TC.seq_ (TC.region ?_)))
 refine TL.mv ?_
 refine TL.call (α := Unit) (r := fun _ => .pointer (some ⟨w.heap.size, 0, none⟩)) (I' := fun _ w2 => Cod w2 w.heap.size ∧ Below w.heap.size w w2) rfl rfl rfl rfl rfl Try.func34 udrnm34 udrbd34 (fun w1 hw => by cases hw; exact (new_any A n c l w 400 hb hc (by omega) (by decide) (by decide)).mono fun e w2 ⟨h1, h2, h3, _⟩ => ⟨(), h1, h2, h3⟩) (fun _ => ?_)
 refine TL.as_ ?_
 refine TL.end_ (TX.then_ (TC.ret_ ?_))
 exact ret_tmp Try.results9 rfl (fun w1 hw => ⟨rfl, hw.1, hw.2⟩)
set_option maxHeartbeats 1000000 in
theorem pick_cod (cb : Nat) (w : World) (hC : Cod w cb) (g c : Nat) (tab : List Int) (hgc : g ≠ cb) (hgl : g < w.heap.size) (h0 : 0 < tab.length) (hcell : ∀ (i : Nat) (v : Int), tab[i]? = some v → w.cell? ⟨g, i, none⟩ = some (.int .i64 v)) :
  Calls Try.prog 37 #[.pointer (some ⟨cb, 0, none⟩), .slice (some ⟨g, 0, none⟩) tab.length c] w fun e w' => ∃ x : {v : Int // v ∈ tab}, e = .returned (.int .i64 x.1) ∧ Codr (fun w => Cod w cb) cb w ([]) w' := by
 refine begin_ (vs := [.pointer (some ⟨cb, 0, none⟩), .slice (some ⟨g, 0, none⟩) tab.length c]) (I := Pm ⟨w, cb⟩ (.abs cb (fun w => Cod w cb) :: oths cb w)) Try.func37 rfl rfl rfl ?_ (Pm.codes hC (cod_cells hC) (cod_stab cb))
 refine TC.seq_ (TC.region ?_)
 refine TL.as_ ?_
 refine TL.end_ (TX.then_ (TC.seq_ (TC.region ?_)))
 refine TL.mv ?_
 refine TL.mv ?_
 refine TL.mv ?_
 refine TL.val rfl rfl rfl (gives_len rfl Try.underlying56 rfl) ?_
 refine TL.pcallCod (k := 0) (α := {x : Nat // x ≤ 65535 ∧ (1 ≤ ((tab.length : Nat) : Int) → (x : Int) < (tab.length : Nat))}) (fun x => .int .i64 ((x.1 : Nat) : Int)) (fun x => []) rfl rfl rfl rfl rfl Try.func21 udrnm21 udrbd21 rfl (fun w1 hw hC1 => next_cod cb w1 (tab.length : Nat) hC1) ?_
 rintro ⟨x, hx1, hx2⟩
 dsimp only [List.cons_append, List.nil_append]
 refine TL.val rfl rfl rfl (gives_at (v := .pointer (some ⟨g, x, none⟩)) rfl rfl rfl (fun w => at_row Try.underlying56 udrsz3 g _ _ x (by omega) rfl w)) ?_
 obtain ⟨v, hv, hvt⟩ : ∃ v, tab[x]? = some v ∧ v ∈ tab := ⟨_, List.getElem?_eq_getElem (by omega), List.getElem_mem _⟩
 refine TL.val rfl rfl rfl (gives_load (v := .int .i64 v) rfl rfl udrag3 (fun w1 hw => (grown_cell (hw.kept (fun q hq => by simp [hq])) (by show g ≠ cb; exact hgc) (by show g < _; exact hgl)).trans (hcell x v hv))) ?_
 refine TL.as_ ?_
 refine TL.end_ (TX.then_ (TC.ret_ ?_))
 exact ret_tmp Try.results37 rfl (fun w1 hw => ⟨⟨v, hvt⟩, rfl, Pm.codr [] (hw) rfl⟩)
set_option maxHeartbeats 1000000 in
theorem daddr_cod (cb : Nat) (w : World) (hC : Cod w cb) :
  Calls Try.prog 15 #[.pointer (some ⟨cb, 0, none⟩)] w fun e w' => ∃ x : {a : Int // 167772161 ≤ a ∧ a ≤ 167772173}, e = .returned (.int .u32 x.1) ∧ Codr (fun w => Cod w cb) cb w ([]) w' := by
 refine begin_ (vs := [.pointer (some ⟨cb, 0, none⟩)]) (I := Pm ⟨w, cb⟩ (.abs cb (fun w => Cod w cb) :: oths cb w)) Try.func15 rfl rfl rfl ?_ (Pm.codes hC (cod_cells hC) (cod_stab cb))
 refine TC.seq_ (TC.region ?_)
 refine TL.as_ ?_
 refine TL.end_ (TX.then_ (TC.seq_ (TC.region ?_)))
 refine TL.mv ?_
 refine TL.prowS (e := 3) (size := 1) (cs := tabV8) rfl rfl rfl rfl rfl (fun w => udrbs56_8_10220 _ _ _ _ _ _ _ _ w) (by decide) rfl (fun g4 => ?_)
 refine TL.pcallCod (k := 1) (α := {v : Int // v ∈ tab8}) (fun x => .int .i64 x.1) (fun x => []) rfl rfl rfl rfl rfl Try.func37 udrnm37 udrbd37 rfl (fun w1 hw hC1 => pick_cod cb w1 hC1 g4 8 tab8 (hw.neq (i := 0) (j := 1) rfl rfl (by decide) g4 rfl <| congrArg some ·.symm) (Pc.lt (hw.at_ (k := 0) rfl) g4 rfl).2 (by decide) (fun i v hi => pm_row hw (k := 0) rfl (by unfold tabV8; rw [List.getElem?_map, hi]; rfl))) ?_
 rintro ⟨v, hv⟩
 dsimp only [List.cons_append, List.nil_append]
 have hvb : 1 ≤ v ∧ v ≤ 13 := by simp only [tab8, List.mem_cons, List.not_mem_nil, or_false] at hv; omega
 refine TL.val rfl rfl rfl (gives_bin rfl rfl rfl (fun w => bin_add_ (r := 167772160 + v) (by simp only [IntKind.wrap_i64]; omega) w)) ?_
 refine TL.val rfl rfl rfl (gives_conv rfl rfl (fun w => conv_fit (k := .i64) Try.underlying35 Try.underlying3 (by simp only [IntKind.wrap_u32]; omega) w)) ?_
 refine TL.as_ ?_
 refine TL.end_ (TX.then_ (TC.ret_ ?_))
 exact ret_tmp Try.results15 rfl (fun w1 hw => ⟨⟨167772160 + v, by omega⟩, rfl, Pm.codr [] (hw.sel (.cons _ (.cons_cons _ (List.Sublist.refl _)))) rfl⟩)
set_option maxHeartbeats 1000000 in
theorem dbool_cod (cb : Nat) (w : World) (hC : Cod w cb) (n : Nat) (hn : n ≤ 1000) :
  Calls Try.prog 14 #[.pointer (some ⟨cb, 0, none⟩), .int .i64 ((n : Nat) : Int)] w fun e w' => ∃ x : Bool, e = .returned (.bool x) ∧ Codr (fun w => Cod w cb) cb w ([]) w' := by
 refine begin_ (vs := [.pointer (some ⟨cb, 0, none⟩), .int .i64 ((n : Nat) : Int)]) (I := Pm ⟨w, cb⟩ (.abs cb (fun w => Cod w cb) :: oths cb w)) Try.func14 rfl rfl rfl ?_ (Pm.codes hC (cod_cells hC) (cod_stab cb))
 refine TC.seq_ (TC.region ?_)
 refine TL.as_ ?_
 refine TL.end_ (TX.then_ (TC.seq_ (TC.region ?_)))
 refine TL.mv ?_
 refine TL.mv ?_
 refine TL.pcallCod (k := 0) (α := {x : Nat // x ≤ 65535 ∧ (1 ≤ (((n : Nat) : Int) : Int) → (x : Int) < ((n : Nat) : Int))}) (fun x => .int .i64 ((x.1 : Nat) : Int)) (fun x => []) rfl rfl rfl rfl rfl Try.func21 udrnm21 udrbd21 rfl (fun w1 hw hC1 => next_cod cb w1 ((n : Nat) : Int) hC1) ?_
 rintro ⟨x, hx1, hx2⟩
 dsimp only [List.cons_append, List.nil_append]
 refine TL.mv ?_
 refine TL.val rfl rfl rfl (gives_bin rfl rfl rfl (fun w => bin_sub_ (r := (n : Int) - 1) (by simp only [IntKind.wrap_i64]; omega) w)) ?_
 refine TL.vsplit rfl rfl rfl (gives_bin rfl rfl rfl (fun w => bin_eql w)) (fun h10 => ?_) (fun h10 => ?_)
 ·have q10 := of_decide_eq_true h10
  refine TL.as_ ?_
  refine TL.end_ (TX.then_ (TC.ret_ ?_))
  exact ret_tmp Try.results14 rfl (fun w1 hw => ⟨true, rfl, Pm.codr [] (hw) rfl⟩)
 ·have q10 := of_decide_eq_false h10
  refine TL.as_ ?_
  refine TL.end_ (TX.then_ (TC.ret_ ?_))
  exact ret_tmp Try.results14 rfl (fun w1 hw => ⟨false, rfl, Pm.codr [] (hw) rfl⟩)
set_option maxHeartbeats 1000000 in
theorem facts_cod (cb : Nat) (w : World) (hC : Cod w cb) (m : Nat) (hm : m ≤ 100) :
  Calls Try.prog 10 #[.pointer (some ⟨cb, 0, none⟩), .int .i64 ((m : Nat) : Int)] w fun e w' => ∃ x : {y : (Option Addr × Nat) × List Fc // validF y.2 ∧ (∀ f ∈ y.2, f.Ok) ∧ y.2.length ≤ m ∧ y.2.length ≤ y.1.2 ∧ y.1.2 ≤ maxLen}, e = .returned (.slice x.1.1.1 x.1.2.length x.1.1.2) ∧ Codr (fun w => Cod w cb) cb w ([.row (.slice x.1.1.1 x.1.2.length x.1.1.2) 42 3 x.1.2.length (fcs x.1.2)]) w' := by
 refine begin_ (vs := [.pointer (some ⟨cb, 0, none⟩), .int .i64 ((m : Nat) : Int)]) (I := Pm ⟨w, cb⟩ (.abs cb (fun w => Cod w cb) :: oths cb w)) Try.func10 rfl rfl rfl ?_ (Pm.codes hC (cod_cells hC) (cod_stab cb))
 refine TC.seq_ (TC.region ?_)
 refine TL.as_ ?_
 refine TL.end_ (TX.then_ (TC.seq_ (TC.region ?_)))
 refine TL.as_ ?_
 refine TL.end_ (TX.then_ (TC.seq_ (TC.region ?_)))
 refine TL.mv ?_
 refine TL.pcallCod (k := 0) (α := {x : Nat // x ≤ 65535 ∧ (1 ≤ (3 : Int) → (x : Int) < 3)}) (fun x => .int .i64 ((x.1 : Nat) : Int)) (fun x => []) rfl rfl rfl rfl rfl Try.func21 udrnm21 udrbd21 rfl (fun w1 hw hC1 => next_cod cb w1 3 hC1) ?_
 rintro ⟨i0, hi01, hi02⟩
 dsimp only [List.cons_append, List.nil_append]
 refine TL.as_ ?_
 refine TL.end_ (TX.then_ (TC.seq_ (TC.seq_ (TC.region ?_))))
 refine TL.mv ?_
 refine TL.mv ?_
 refine TL.val rfl rfl rfl (gives_bin rfl rfl rfl (fun w => bin_add_ (r := ((m + 1 : Nat) : Int)) (by simp only [IntKind.wrap_i64]; omega) w)) ?_
 refine TL.pcallCod (k := 0) (α := {x : Nat // x ≤ 65535 ∧ (1 ≤ (((m + 1 : Nat) : Int) : Int) → (x : Int) < ((m + 1 : Nat) : Int))}) (fun x => .int .i64 ((x.1 : Nat) : Int)) (fun x => []) rfl rfl rfl rfl rfl Try.func21 udrnm21 udrbd21 rfl (fun w1 hw hC1 => next_cod cb w1 ((m + 1 : Nat) : Int) hC1) ?_
 rintro ⟨k0, hk01, hk02⟩
 dsimp only [List.cons_append, List.nil_append]
 refine TL.as_ ?_
 refine TL.end_ (TX.then_ (TC.block ?_))
 refine TC.nilrow 42 3 ?_
 refine TC.loop_ (α := {y : Nat × Int × (Option Addr × Nat) × List Fc // (y.1 + y.2.2.2.length ≤ m ∧ y.2.2.2.length ≤ y.2.2.1.2 ∧ y.2.2.1.2 ≤ maxLen) ∧ y.2.1 + 3 * y.1 ≤ 3 + 3 * m ∧ FcsI y.2.2.2 y.2.1}) (fun y => [(0, .pointer (some ⟨cb, 0, none⟩)), (5, .slice y.1.2.2.1.1 y.1.2.2.2.length y.1.2.2.1.2), (6, .int .i64 y.1.2.1), (7, .int .i64 ((y.1.1 : Nat) : Int))]) (fun y => Pm ⟨w, cb⟩ ([.row (.slice y.1.2.2.1.1 y.1.2.2.2.length y.1.2.2.1.2) 42 3 y.1.2.2.2.length (fcs y.1.2.2.2), .abs cb (fun w => Cod w cb)] ++ oths cb w)) (fun y => y.1.1) (⟨(k0, ((i0 : Nat) : Int), (none, 0), []), ⟨by dsimp only; show k0 + 0 ≤ m; omega, Nat.le_refl _, Nat.zero_le _⟩, by dsimp only; omega, fcsI_nil (by dsimp only; omega)⟩) ⟨rfl, rfl, rfl, rfl, trivial⟩ (fun w1 hw => hw) ?_
 rintro ⟨⟨k, id, ⟨A, c⟩, l⟩, ⟨hk, hlc, hcm⟩, hid, hF⟩
 dsimp only at hk hlc hcm hid hF ⊢
 have hF0 := hF.2.1
 refine TC.seq_ (TC.seq_ (TC.region ?_))
 refine TL.mv ?_
 refine TL.vsplit rfl rfl rfl (gives_bin rfl rfl rfl (fun w => bin_gtr w)) (fun h16 => ?_) (fun h16 => ?_)
 ·have q16 := of_decide_eq_true h16
  refine TL.end_ (TX.then_ (TC.condT rfl (TC.skip_ (TX.then_ (TC.seq_ (TC.block (TC.seq_ (TC.region ?_))))))))
  refine TL.mv ?_
  refine TL.mv ?_
  refine TL.pcallCod (k := 1) (α := {a : Int // 167772161 ≤ a ∧ a ≤ 167772173}) (fun x => .int .u32 x.1) (fun x => []) rfl rfl rfl rfl rfl Try.func15 udrnm15 udrbd15 rfl (fun w1 hw hC1 => daddr_cod cb w1 hC1) ?_
  rintro ⟨a, ha1, ha2⟩
  dsimp only [List.cons_append, List.nil_append]
  refine TL.mv ?_
  refine TL.pcallCod (k := 1) (α := {a : Int // 167772161 ≤ a ∧ a ≤ 167772173}) (fun x => .int .u32 x.1) (fun x => []) rfl rfl rfl rfl rfl Try.func15 udrnm15 udrbd15 rfl (fun w1 hw hC1 => daddr_cod cb w1 hC1) ?_
  rintro ⟨b, hb1, hb2⟩
  dsimp only [List.cons_append, List.nil_append]
  refine TL.val rfl rfl rfl (gives_build (v := .agg #[.int .i64 id, .int .u32 a, .int .u32 b]) rfl rfl (fun w => udrbld42_57313 _ _ _ w)) ?_
  refine TL.pnew rfl rfl rfl (exec_alloc (cs := [.int .i64 0, .int .u32 0, .int .u32 0]) rfl udrzv42 rfl) (fun g8 => ?_)
  refine TL.pstore (k := 0) (vs := [.int .i64 id, .int .u32 a, .int .u32 b]) rfl rfl rfl rfl rfl rfl rfl udrsz42 udrone_i64u32u32 (by show 3 ≤ 3; decide) (L' := ([.blk g8 42 [.int .i64 id, .int .u32 a, .int .u32 b], .row (.slice A l.length c) 42 3 l.length (fcs l), .abs cb (fun w => Cod w cb)] ++ oths cb w)) rfl ?_
  refine TL.end_ (TX.then_ (TC.seq_ (TC.seq_ (TC.region ?_))))
  refine TL.val rfl rfl rfl (gives_field (v := .pointer (some ⟨g8, 1, none⟩)) rfl rfl (fun w => udrfld42_1 _ _ w)) ?_
  refine TL.val rfl rfl rfl (pm_load (k := 0) (i := 1) rfl rfl udrag35 rfl rfl) ?_
  refine TL.val rfl rfl rfl (gives_field (v := .pointer (some ⟨g8, 2, none⟩)) rfl rfl (fun w => udrfld42_2 _ _ w)) ?_
  refine TL.val rfl rfl rfl (pm_load (k := 0) (i := 2) rfl rfl udrag35 rfl rfl) ?_
  refine TL.vsplit rfl rfl rfl (gives_bin rfl rfl rfl (fun w => bin_eql w)) (fun h29 => ?_) (fun h29 => ?_)
  ·have q29 := of_decide_eq_true h29
   refine TL.end_ (TX.then_ (TC.condT rfl (TC.region ?_)))
   refine TL.val rfl rfl rfl (gives_field (v := .pointer (some ⟨g8, 2, none⟩)) rfl rfl (fun w => udrfld42_2 _ _ w)) ?_
   refine TL.val rfl rfl rfl (pm_load (k := 0) (i := 2) rfl rfl udrag35 rfl rfl) ?_
   refine TL.val rfl rfl rfl (gives_bin rfl rfl rfl (fun w => bin_add_ (r := b + 1) (by simp only [IntKind.wrap_u32]; omega) w)) ?_
   refine TL.val rfl rfl rfl (gives_field (v := .pointer (some ⟨g8, 2, none⟩)) rfl rfl (fun w => udrfld42_2 _ _ w)) ?_
   refine TL.pstore (k := 0) (vs := [.int .u32 (b + 1)]) rfl rfl rfl rfl rfl rfl rfl udrsz35 udrone_u32 (by show 3 ≤ 3; decide) (L' := ([.blk g8 42 [.int .i64 id, .int .u32 a, .int .u32 (b + 1)], .row (.slice A l.length c) 42 3 l.length (fcs l), .abs cb (fun w => Cod w cb)] ++ oths cb w)) rfl ?_
   refine TL.end_ (TX.then_ (TC.seq_ (TC.region ?_)))
   refine TL.mv ?_
   refine TL.val rfl rfl rfl (pm_loadV (k := 0) (i := 0) (n := 3) (v := .agg #[.int .i64 id, .int .u32 a, .int .u32 (b + 1)]) rfl rfl udrag42 udrsz42 rfl (by show 3 ≤ 3; decide) rfl) ?_
   refine TL.prowS (e := 42) (size := 3) (cs := fcs [(⟨id, a, b + 1⟩ : Fc)]) rfl rfl rfl rfl rfl (fun w => udrbs26_1_44646 _ _ _ w) (by decide) rfl (fun g36 => ?_)
   refine TL.appendT (k := 2) rfl rfl rfl rfl Try.underlying26 udrel26 rfl rfl rfl (fun w1 hw => pm_reads hw (k := 0) rfl) (fcs_one [(⟨id, a, b + 1⟩ : Fc)]) (by show _ * 16 ≤ _; omega) ((l ++ [(⟨id, a, b + 1⟩ : Fc)]).length) (by rw [List.length_append]; rfl) (fcs (l ++ [(⟨id, a, b + 1⟩ : Fc)])) (by rw [fcs_app]; try rfl) (fun A37 c37 hA371 hA372 => ?_)
   refine TL.as_ ?_
   refine TL.end_ (TX.then_ (TC.region ?_))
   refine TL.mv ?_
   refine TL.mv ?_
   refine TL.pcallCod (k := 3) (α := {x : Nat // x ≤ 65535 ∧ (1 ≤ (3 : Int) → (x : Int) < 3)}) (fun x => .int .i64 ((x.1 : Nat) : Int)) (fun x => []) rfl rfl rfl rfl rfl Try.func21 udrnm21 udrbd21 rfl (fun w1 hw hC1 => next_cod cb w1 3 hC1) ?_
   rintro ⟨z, hz1, hz2⟩
   dsimp only [List.cons_append, List.nil_append]
   refine TL.val rfl rfl rfl (gives_bin rfl rfl rfl (fun w => bin_add_ (r := 1 + ((z : Nat) : Int)) (by simp only [IntKind.wrap_i64]; omega) w)) ?_
   refine TL.val rfl rfl rfl (gives_bin rfl rfl rfl (fun w => bin_add_ (r := id + (1 + ((z : Nat) : Int))) (by simp only [IntKind.wrap_i64]; omega) w)) ?_
   refine TL.as_ ?_
   refine TL.end_ (TX.in_normal (TX.then_ (TC.region ?_)))
   refine TL.mv ?_
   refine TL.val rfl rfl rfl (gives_bin rfl rfl rfl (fun w => bin_sub_ (r := ((k - 1 : Nat) : Int)) (by simp only [IntKind.wrap_i64]; omega) w)) ?_
   refine TL.as_ ?_
   refine TL.end_ ?_
   exact TX.round (⟨(k - 1, id + (1 + ((z : Nat) : Int)), (A37, c37), l ++ [(⟨id, a, b + 1⟩ : Fc)]), ⟨by dsimp only; rw [List.length_append, List.length_singleton]; omega, hA371, hA372⟩, by dsimp only; omega, hF.snoc (⟨id, a, b + 1⟩ : Fc) rfl (by dsimp only; omega) ⟨by dsimp only; omega, by dsimp only; omega, by dsimp only; omega, by dsimp only; omega⟩ (by dsimp only; omega) (by omega)⟩) (by show k - 1 < k; omega) ⟨rfl, rfl, rfl, rfl, trivial⟩ (fun w1 hw => hw.sel (.cons _ (.cons _ (.cons_cons _ (.cons_cons _ (List.Sublist.refl _))))))
  ·have q29 := of_decide_eq_false h29
   refine TL.end_ (TX.then_ (TC.condF rfl (TC.skip_ (TX.then_ (TC.seq_ (TC.region ?_))))))
   refine TL.mv ?_
   refine TL.val rfl rfl rfl (pm_loadV (k := 0) (i := 0) (n := 3) (v := .agg #[.int .i64 id, .int .u32 a, .int .u32 b]) rfl rfl udrag42 udrsz42 rfl (by show 3 ≤ 3; decide) rfl) ?_
   refine TL.prowS (e := 42) (size := 3) (cs := fcs [(⟨id, a, b⟩ : Fc)]) rfl rfl rfl rfl rfl (fun w => udrbs26_1_44646 _ _ _ w) (by decide) rfl (fun g36 => ?_)
   refine TL.appendT (k := 2) rfl rfl rfl rfl Try.underlying26 udrel26 rfl rfl rfl (fun w1 hw => pm_reads hw (k := 0) rfl) (fcs_one [(⟨id, a, b⟩ : Fc)]) (by show _ * 16 ≤ _; omega) ((l ++ [(⟨id, a, b⟩ : Fc)]).length) (by rw [List.length_append]; rfl) (fcs (l ++ [(⟨id, a, b⟩ : Fc)])) (by rw [fcs_app]; try rfl) (fun A37 c37 hA371 hA372 => ?_)
   refine TL.as_ ?_
   refine TL.end_ (TX.then_ (TC.region ?_))
   refine TL.mv ?_
   refine TL.mv ?_
   refine TL.pcallCod (k := 3) (α := {x : Nat // x ≤ 65535 ∧ (1 ≤ (3 : Int) → (x : Int) < 3)}) (fun x => .int .i64 ((x.1 : Nat) : Int)) (fun x => []) rfl rfl rfl rfl rfl Try.func21 udrnm21 udrbd21 rfl (fun w1 hw hC1 => next_cod cb w1 3 hC1) ?_
   rintro ⟨z, hz1, hz2⟩
   dsimp only [List.cons_append, List.nil_append]
   refine TL.val rfl rfl rfl (gives_bin rfl rfl rfl (fun w => bin_add_ (r := 1 + ((z : Nat) : Int)) (by simp only [IntKind.wrap_i64]; omega) w)) ?_
   refine TL.val rfl rfl rfl (gives_bin rfl rfl rfl (fun w => bin_add_ (r := id + (1 + ((z : Nat) : Int))) (by simp only [IntKind.wrap_i64]; omega) w)) ?_
   refine TL.as_ ?_
   refine TL.end_ (TX.in_normal (TX.then_ (TC.region ?_)))
   refine TL.mv ?_
   refine TL.val rfl rfl rfl (gives_bin rfl rfl rfl (fun w => bin_sub_ (r := ((k - 1 : Nat) : Int)) (by simp only [IntKind.wrap_i64]; omega) w)) ?_
   refine TL.as_ ?_
   refine TL.end_ ?_
   exact TX.round (⟨(k - 1, id + (1 + ((z : Nat) : Int)), (A37, c37), l ++ [(⟨id, a, b⟩ : Fc)]), ⟨by dsimp only; rw [List.length_append, List.length_singleton]; omega, hA371, hA372⟩, by dsimp only; omega, hF.snoc (⟨id, a, b⟩ : Fc) rfl (by dsimp only; omega) ⟨by dsimp only; omega, by dsimp only; omega, by dsimp only; omega, by dsimp only; omega⟩ (by dsimp only; omega) (by omega)⟩) (by show k - 1 < k; omega) ⟨rfl, rfl, rfl, rfl, trivial⟩ (fun w1 hw => hw.sel (.cons _ (.cons _ (.cons_cons _ (.cons_cons _ (List.Sublist.refl _))))))
 ·have q16 := of_decide_eq_false h16
  refine TL.end_ (TX.then_ (TC.condF rfl (TC.exit_ (TX.then_exit (TX.then_exit (TX.in_same (TX.then_ (TC.seq_ (TC.region ?_)))))))))
  refine TL.mv ?_
  refine TL.as_ ?_
  refine TL.end_ (TX.then_ (TC.ret_ ?_))
  exact ret_tmp Try.results10 rfl (fun w1 hw => ⟨⟨((A, c), l), hF.1, hF.2.2.2, by dsimp only; omega, hlc, hcm⟩, rfl, Pm.codr [_] hw rfl⟩)
end Go.Proofs.Ytleckflmckbheaa
