/-
  The walks of what is drawn: Roll, Pick, Address, Bool.
-/
import Derived.Test.YtmbcclgnjobikaaDraw
import Derived.Test.YtmbcclgnjobikaaSymFlat
import Derived.Test.YtmbcclgnjobikaaSymChg
import Derived.Test.YtmbcclgnjobikaaSymCod
namespace Go.Proofs.Ytmbcclgnjobikaa
open Go.RowKit
set_option linter.unusedVariables false
set_option linter.unusedSimpArgs false
set_option maxRecDepth 20000
theorem cod_stab (cb : Nat) : Stab cb (fun w => Cod w cb) := fun w1 w2 h hs => h.keep fun b hb => hs b (by omega)
theorem cod_cells {w : World} {cb : Nat} (h : Cod w cb) : CellsAt w cb := by
  obtain ⟨A, m, c, l, k, hb, _⟩ := h
  exact ⟨_, hb, rfl⟩
theorem next_cod (cb : Nat) (w : World) (n : Int) (h : Cod w cb) :
    Calls Try.prog 8 #[.pointer (some ⟨cb, 0, none⟩), .int .i64 n] w fun e w' => ∃ x : {x : Nat // x ≤ 65535 ∧ (1 ≤ n → (x : Int) < n)}, e = .returned (.int .i64 (x.1 : Int)) ∧ Codr (fun w => Cod w cb) cb w [] w' :=
  (next_any cb w n h).mono fun e w' ⟨x, he, h0, h1, h2, hc, hg, _⟩ => by
    obtain ⟨k, rfl⟩ := Int.eq_ofNat_of_zero_le h0
    exact ⟨⟨k, by omega, h2⟩, he, hc, hg, cod_cells hc, (fun q hq => absurd hq List.not_mem_nil), List.Pairwise.nil⟩
theorem grown_cell {w w1 : World} {cb : Nat} {p : Addr} (hg : w.grownBy w1 (some cb)) (hp : p.block ≠ cb) (hl : p.block < w.heap.size) : w1.cell? p = w.cell? p :=
  World.cell?_of_block (hg.block _ hl fun e => hp (by injection e))
theorem flat_row1 {w0 : Base} {L : List Pc} {w : World} {q g n cc i : Nat} {e : TypeId} {k : IntKind} {l : List Int} {x : Int} (h : Pm w0 L w) (hk : L[q]? = some (.row (.slice (some ⟨g, 0, none⟩) n cc) e 1 n (flat (ic k) l))) (hx : l[i]? = some x) : w.cell? ⟨g, i, none⟩ = some (.int k x) := by
  have := flat_row (ic_cel k) h hk hx 0 _ rfl
  rwa [show 0 + i * 1 + 0 = i by omega] at this
theorem ddrnm19 : (Try.f19.name == "runtime.NumGoroutine") = false := by decide
theorem ddrbd19 : Try.f19.body.isNone = false := rfl
theorem ddrsz3 (w : World) : (sizeOf 3).run Try.prog w = .ok 1 w := rfl
theorem ddrnm8 : (Try.f8.name == "runtime.NumGoroutine") = false := by decide
theorem ddrbd8 : Try.f8.body.isNone = false := rfl
theorem ddrag3 (w : World) : (isAgg 3).run Try.prog w = .ok false w := rfl
theorem ddrbs30_8_10220 (a0_0 : Int) (a1_0 : Int) (a2_0 : Int) (a3_0 : Int) (a4_0 : Int) (a5_0 : Int) (a6_0 : Int) (a7_0 : Int) (w : World) : (Instr.buildSlice 30 8 #[(0, .int .i64 a0_0), (1, .int .i64 a1_0), (2, .int .i64 a2_0), (3, .int .i64 a3_0), (4, .int .i64 a4_0), (5, .int .i64 a5_0), (6, .int .i64 a6_0), (7, .int .i64 a7_0)]).run Try.prog w = .ok (.slice (some ⟨w.heap.size, 0, none⟩) 8 8) (w.alloc (.cells [.int .i64 a0_0, .int .i64 a1_0, .int .i64 a2_0, .int .i64 a3_0, .int .i64 a4_0, .int .i64 a5_0, .int .i64 a6_0, .int .i64 a7_0].toArray 3)) := by kernel_rfl
theorem ddrnm23 : (Try.f23.name == "runtime.NumGoroutine") = false := by decide
theorem ddrbd23 : Try.f23.body.isNone = false := rfl
set_option maxHeartbeats 1000000 in
theorem roll_any (A : Option Addr) (n c : Nat) (l : List Int) (w : World) (hb : Byt w w.heap.size A n l) (hc : n ≤ c) (hn : (n : Int) ≤ 9223372036854775807) : Calls Try.prog 7 #[.slice A n c] w fun e w' => e = .returned (.pointer (some ⟨w.heap.size, 0, none⟩)) ∧ Cod w' w.heap.size ∧ Below w.heap.size w w' := by
  refine begin_ (vs := [.slice A n c]) (I := fun w1 => w1 = w) Try.func7 rfl rfl rfl ?_ rfl
  refine TC.seq_ ?_
  refine TC.region ?_
  refine TL.val rfl rfl rfl (gives_assign rfl rfl) ?_
  refine TL.end_ ?_
  refine TX.then_ ?_
  refine TC.seq_ ?_
  refine TC.region ?_
  refine TL.val rfl rfl rfl (gives_move rfl rfl) ?_
  refine TL.call (α := Unit) (r := fun _ => .pointer (some ⟨w.heap.size, 0, none⟩)) (I' := fun _ w2 => Cod w2 w.heap.size ∧ Below w.heap.size w w2) rfl rfl rfl rfl rfl Try.func19 ddrnm19 ddrbd19 (fun w1 hw => by cases hw; exact (new_any A n c l w 400 hb hc (by omega) (by decide) (by decide)).mono fun e w2 ⟨h1, h2, h3, _⟩ => ⟨(), h1, h2, h3⟩) (fun _ => ?_)
  refine TL.val rfl rfl rfl (gives_assign rfl rfl) ?_
  refine TL.end_ ?_
  refine TX.then_ ?_
  refine TC.ret_ ?_
  exact ret_tmp Try.results7 rfl (fun w1 hw => ⟨rfl, hw.1, hw.2⟩)
set_option maxHeartbeats 1000000 in
theorem pick_cod (cb : Nat) (w : World) (hC : Cod w cb) (g c : Nat) (tab : List Int) (hgc : g ≠ cb) (hgl : g < w.heap.size) (h0 : 0 < tab.length) (hcell : ∀ (i : Nat) (v : Int), tab[i]? = some v → w.cell? ⟨g, i, none⟩ = some (.int .i64 v)) :
    Calls Try.prog 23 #[.pointer (some ⟨cb, 0, none⟩), .slice (some ⟨g, 0, none⟩) tab.length c] w fun e w' => ∃ x : {v : Int // v ∈ tab}, e = .returned (.int .i64 x.1) ∧ Codr (fun w => Cod w cb) cb w ([]) w' := by
  refine begin_ (vs := [.pointer (some ⟨cb, 0, none⟩), .slice (some ⟨g, 0, none⟩) tab.length c]) (I := Pm ⟨w, cb⟩ (.abs cb (fun w => Cod w cb) :: oths cb w)) Try.func23 rfl rfl rfl ?_ (Pm.codes hC (cod_cells hC) (cod_stab cb))
  refine TC.seq_ ?_
  refine TC.region ?_
  refine TL.val rfl rfl rfl (gives_assign rfl rfl) ?_
  refine TL.end_ ?_
  refine TX.then_ ?_
  refine TC.seq_ ?_
  refine TC.region ?_
  refine TL.val rfl rfl rfl (gives_move rfl rfl) ?_
  refine TL.val rfl rfl rfl (gives_move rfl rfl) ?_
  refine TL.val rfl rfl rfl (gives_move rfl rfl) ?_
  refine TL.val rfl rfl rfl (gives_len rfl Try.underlying30 rfl) ?_
  refine TL.pcallCod (k := 0) (α := {q9 : Nat // q9 ≤ 65535 ∧ (1 ≤ ((tab.length : Nat) : Int) → (q9 : Int) < (tab.length : Nat))}) (fun q9 => .int .i64 ((q9.1 : Nat) : Int)) (fun q9 => []) rfl rfl rfl rfl rfl Try.func8 ddrnm8 ddrbd8 rfl (fun w1 hw hC1 => next_cod cb w1 (tab.length : Nat) hC1) ?_
  rintro ⟨x, hx1, hx2⟩
  dsimp only [List.cons_append, List.nil_append]
  refine TL.val rfl rfl rfl (gives_at (v := .pointer (some ⟨g, x, none⟩)) rfl rfl rfl (fun w => at_row Try.underlying30 ddrsz3 g _ _ x (by omega) rfl w)) ?_
  obtain ⟨v, hv, hvt⟩ : ∃ v, tab[x]? = some v ∧ v ∈ tab := ⟨_, List.getElem?_eq_getElem (by omega), List.getElem_mem _⟩
  refine TL.val rfl rfl rfl (gives_load (v := .int .i64 v) rfl rfl ddrag3 (fun w1 hw => (grown_cell (hw.kept (fun q hq => by simp [hq])) (by show g ≠ cb; exact hgc) (by show g < _; exact hgl)).trans (hcell x v hv))) ?_
  refine TL.val rfl rfl rfl (gives_assign rfl rfl) ?_
  refine TL.end_ ?_
  refine TX.then_ ?_
  refine TC.ret_ ?_
  exact ret_tmp Try.results23 rfl (fun w1 hw => ⟨⟨v, hvt⟩, rfl, Pm.codr [] (hw) rfl⟩)
set_option maxHeartbeats 1000000 in
theorem daddr_cod (cb : Nat) (w : World) (hC : Cod w cb) :
    Calls Try.prog 14 #[.pointer (some ⟨cb, 0, none⟩)] w fun e w' => ∃ x : {a : Int // 167772161 ≤ a ∧ a ≤ 167772173}, e = .returned (.int .u32 x.1) ∧ Codr (fun w => Cod w cb) cb w ([]) w' := by
  refine begin_ (vs := [.pointer (some ⟨cb, 0, none⟩)]) (I := Pm ⟨w, cb⟩ (.abs cb (fun w => Cod w cb) :: oths cb w)) Try.func14 rfl rfl rfl ?_ (Pm.codes hC (cod_cells hC) (cod_stab cb))
  refine TC.seq_ ?_
  refine TC.region ?_
  refine TL.val rfl rfl rfl (gives_assign rfl rfl) ?_
  refine TL.end_ ?_
  refine TX.then_ ?_
  refine TC.seq_ ?_
  refine TC.region ?_
  refine TL.val rfl rfl rfl (gives_move rfl rfl) ?_
  refine TL.prowS (e := 3) (size := 1) (cs := flat (ic .i64) [1, 2, 5, 6, 9, 10, 12, 13]) rfl rfl rfl rfl rfl (fun w => ddrbs30_8_10220 _ _ _ _ _ _ _ _ w) (by decide) rfl (fun g4 => ?_)
  refine TL.pcallCod (k := 1) (α := {v : Int // v ∈ ([1, 2, 5, 6, 9, 10, 12, 13] : List Int)}) (fun x => .int .i64 x.1) (fun x => []) rfl rfl rfl rfl rfl Try.func23 ddrnm23 ddrbd23 rfl (fun w1 hw hC1 => pick_cod cb w1 hC1 g4 8 ([1, 2, 5, 6, 9, 10, 12, 13]) (hw.neq (i := 0) (j := 1) rfl rfl (by decide) g4 rfl <| congrArg some ·.symm) (Pc.lt (hw.at_ (k := 0) rfl) g4 rfl).2 (by show 0 < ([1, 2, 5, 6, 9, 10, 12, 13] : List Int).length; simp) (fun i v hi => flat_row1 hw (q := 0) rfl hi)) ?_
  rintro ⟨v, hv⟩
  dsimp only [List.cons_append, List.nil_append]
  have hvb : 1 ≤ v ∧ v ≤ 13 := by simp only [List.mem_cons, List.not_mem_nil, or_false] at hv; omega
  refine TL.val rfl rfl rfl (gives_bin rfl rfl rfl (fun w => bin_add_ (r := 167772160 + v) (by simp only [IntKind.wrap_i64]; omega) w)) ?_
  refine TL.val rfl rfl rfl (gives_conv rfl rfl (fun w => conv_fit (k := .i64) Try.underlying29 Try.underlying3 (by simp only [IntKind.wrap_u32]; omega) w)) ?_
  refine TL.val rfl rfl rfl (gives_assign rfl rfl) ?_
  refine TL.end_ ?_
  refine TX.then_ ?_
  refine TC.ret_ ?_
  exact ret_tmp Try.results14 rfl (fun w1 hw => ⟨⟨167772160 + v, by omega⟩, rfl, Pm.codr [] (hw.sel (.cons _ (.cons_cons _ (List.Sublist.refl _)))) rfl⟩)
set_option maxHeartbeats 1000000 in
theorem dbool_cod (cb : Nat) (w : World) (hC : Cod w cb) (n : Nat) (hn : n ≤ 1000) :
    Calls Try.prog 12 #[.pointer (some ⟨cb, 0, none⟩), .int .i64 ((n : Nat) : Int)] w fun e w' => ∃ x : Bool, e = .returned (.bool x) ∧ Codr (fun w => Cod w cb) cb w ([]) w' := by
  refine begin_ (vs := [.pointer (some ⟨cb, 0, none⟩), .int .i64 ((n : Nat) : Int)]) (I := Pm ⟨w, cb⟩ (.abs cb (fun w => Cod w cb) :: oths cb w)) Try.func12 rfl rfl rfl ?_ (Pm.codes hC (cod_cells hC) (cod_stab cb))
  refine TC.seq_ ?_
  refine TC.region ?_
  refine TL.val rfl rfl rfl (gives_assign rfl rfl) ?_
  refine TL.end_ ?_
  refine TX.then_ ?_
  refine TC.seq_ ?_
  refine TC.region ?_
  refine TL.val rfl rfl rfl (gives_move rfl rfl) ?_
  refine TL.val rfl rfl rfl (gives_move rfl rfl) ?_
  refine TL.pcallCod (k := 0) (α := {q9 : Nat // q9 ≤ 65535 ∧ (1 ≤ (((n : Nat) : Int) : Int) → (q9 : Int) < ((n : Nat) : Int))}) (fun q9 => .int .i64 ((q9.1 : Nat) : Int)) (fun q9 => []) rfl rfl rfl rfl rfl Try.func8 ddrnm8 ddrbd8 rfl (fun w1 hw hC1 => next_cod cb w1 ((n : Nat) : Int) hC1) ?_
  rintro ⟨x, hx1, hx2⟩
  dsimp only [List.cons_append, List.nil_append]
  refine TL.val rfl rfl rfl (gives_move rfl rfl) ?_
  refine TL.val rfl rfl rfl (gives_bin rfl rfl rfl (fun w => bin_sub_ (r := (n : Int) - 1) (by simp only [IntKind.wrap_i64]; omega) w)) ?_
  refine TL.val rfl rfl rfl (gives_bin rfl rfl rfl (fun w => bin_eql w)) ?_
  refine TL.val rfl rfl rfl (gives_assign rfl rfl) ?_
  refine TL.end_ ?_
  refine TX.then_ ?_
  refine TC.ret_ ?_
  exact ret_tmp Try.results12 rfl (fun w1 hw => ⟨decide (((x : Nat) : Int) = (n : Int) - 1), rfl, Pm.codr [] (hw) rfl⟩)
end Go.Proofs.Ytmbcclgnjobikaa
