/-
  The walk of DigestTexts, by rules.
-/
import Derived.Test.YtllaojnnackhhaaDoorDgSums
import Derived.Test.YtllaojnnackhhaaDoorParse
import Derived.Test.YtllaojnnackhhaaDoorSpo
namespace Go.Proofs.YtllaojnnackhhaaDoor
open Go.RowKit
set_option linter.unusedVariables false
set_option linter.unusedSimpArgs false
theorem parse_hex (l : List Int) (hl : Bs l) (n : Nat) (hn : l.length = n) (hlim : n ≤ 1000) (w : World) :
    Calls Tryd.prog 12 #[sv (hexL l)] w fun e w' => ∃ A c, e = .returned (.tuple #[.slice A n c, .int .i64 0]) ∧ n ≤ c ∧ c ≤ maxLen ∧ w'.ownsRow w.heap.size 5 1 (.slice A n c) n (bv l) ∧ Below w.heap.size w w' := by
  have h := parse_any (hexL l) w (hexL_bs l hl) (by rw [hexL_len]; omega)
  rw [hex_out l hl, errP, if_pos (hex_can l hl), hn] at h
  exact h
theorem row2str (a b : ByteArray) (w : World) : (Instr.buildSlice 33 2 #[(0, .string a), (1, .string b)]).run Tryd.prog w = .ok (.slice (some ⟨w.heap.size, 0, none⟩) 2 2) (w.alloc (.cells #[.string a, .string b] 9)) := by kernel_rfl
theorem at_str (g off n c j : Nat) (hj : j < n) (w : World) : (Instr.indexAt 33 (.slice (some ⟨g, off, none⟩) n c) (.int .i64 (j : Int))).run Tryd.prog w = .ok (.pointer (some ⟨g, off + j, none⟩)) w := by
  have hs : ∀ w : World, (sizeOf 9).run Tryd.prog w = .ok 1 w := fun w => rfl
  have h1 : (0 : Int) ≤ (j : Int) ∧ (j : Int) < n := by omega
  have hadd : (⟨g, off, none⟩ : Addr).add j = ⟨g, off + j, none⟩ := by unfold Addr.add; split <;> simp_all
  simp [Instr.indexAt, run_underlying Tryd.underlying33, asIntOf, hs, h1, hadd, go_sem]
  try (intro hh; exact absurd hh (by omega))
theorem two_at {a b : List Int} (ha : Bs a) (hal : a.length ≤ 1000) (hb : Bs b) (hbl : b.length ≤ 5000) (i : Nat) (hi : i < 2) : ∃ t, [sv a, sv b][0 + i]? = some (sv t) ∧ Bs t ∧ t.length ≤ 5000 := by
  match i, hi with
  | 0, _ => exact ⟨a, rfl, ha, by omega⟩
  | 1, _ => exact ⟨b, rfl, hb, hbl⟩
theorem nmNew : (Tryd.f11.name == "runtime.NumGoroutine") = false := by decide
theorem bdNew : Tryd.f11.body.isNone = false := rfl
theorem nmSpo : (Tryd.f15.name == "runtime.NumGoroutine") = false := by decide
theorem bdSpo : Tryd.f15.body.isNone = false := rfl
theorem nmParse : (Tryd.f12.name == "runtime.NumGoroutine") = false := by decide
theorem bdParse : Tryd.f12.body.isNone = false := rfl
theorem nmRParse : (Tryd.f16.name == "runtime.NumGoroutine") = false := by decide
theorem bdRParse : Tryd.f16.body.isNone = false := rfl
theorem nmRHex : (Tryd.f14.name == "runtime.NumGoroutine") = false := by decide
theorem bdRHex : Tryd.f14.body.isNone = false := rfl
set_option maxRecDepth 100000 in
theorem textsA (A0 : Option Addr) (n0 c0 : Nat) (l0 : List Int) (sl : List Int) (A2 : Option Addr) (n2 c2 : Nat) (l2 : List Int) (w : World) (hb0 : Byt w w.heap.size A0 n0 l0) (hsb : Bs sl) (hb2 : Byt w w.heap.size A2 n2 l2) (hc2 : n2 ≤ c2) (hm2 : c2 ≤ maxLen) {ts tk : TypeId} (hst : Blk w 0 ts start8.cells) (hky : Blk w 1 tk (arrOf keysL)) (h1 : 1000 < n0) :
    Calls Tryd.prog 4 #[.slice A0 n0 c0, sv sl, .slice A2 n2 c2] w fun e w' => e = .returned (.bool true) ∧ Below w.heap.size w w' := by
  refine begin_ (vs := [.slice A0 n0 c0, sv sl, .slice A2 n2 c2]) Tryd.func4 rfl rfl rfl ?_ (Pm.start w)
  refine TC.seq_ ?_
  refine TC.region ?_
  refine TL.val rfl rfl rfl (gives_assign rfl rfl) ?_
  refine TL.end_ ?_
  refine TX.then_ ?_
  refine TC.seq_ ?_
  refine TC.seq_ ?_
  refine TC.region ?_
  refine TL.pcall1 (r := .bool true) rfl rfl rfl rfl rfl Tryd.func7 nmAwake bdAwake (fun w1 hw => awake_any w1 (hst.below hw.bel hst.lt) (hky.below hw.bel hky.lt)) ?_
  refine TL.val rfl rfl rfl (gives_boolnot rfl rfl) ?_
  refine TL.val rfl rfl rfl (gives_move rfl rfl) ?_
  refine TL.on rfl rfl rfl ?_
  refine TL.val rfl rfl rfl (gives_move rfl rfl) ?_
  refine TL.on rfl rfl rfl ?_
  refine TL.val rfl rfl rfl (gives_len rfl Tryd.underlying22 rfl) ?_
  refine TL.on rfl rfl rfl ?_
  refine TL.val rfl rfl rfl (gives_bin (v := .bool true) rfl rfl rfl (fun w => bin_gtr_t (by omega) w)) ?_
  refine TL.val rfl rfl rfl (gives_pick rfl rfl rfl) ?_
  refine TL.val rfl rfl rfl (gives_move rfl rfl) ?_
  refine TL.off rfl rfl rfl rfl rfl rfl ?_
  refine TL.off rfl rfl rfl rfl rfl rfl ?_
  refine TL.off rfl rfl rfl rfl rfl rfl ?_
  refine TL.val rfl rfl rfl (gives_pick rfl rfl rfl) ?_
  refine TL.end_ ?_
  refine TX.then_ ?_
  refine TC.split rfl (fun hc27 => ?_) (fun hc27 => ?_)
  · refine TC.seq_ ?_
    refine TC.region ?_
    refine TL.val rfl rfl rfl (gives_move rfl rfl) ?_
    refine TL.val rfl rfl rfl (gives_len rfl Tryd.underlying22 rfl) ?_
    refine TL.val rfl rfl rfl (gives_bin (v := .bool true) rfl rfl rfl (fun w => bin_gtr_t (by omega) w)) ?_
    refine TL.val rfl rfl rfl (gives_move rfl rfl) ?_
    refine TL.off rfl rfl rfl rfl rfl rfl ?_
    refine TL.off rfl rfl rfl rfl rfl rfl ?_
    refine TL.off rfl rfl rfl rfl rfl rfl ?_
    refine TL.val rfl rfl rfl (gives_pick rfl rfl rfl) ?_
    refine TL.val rfl rfl rfl (gives_assign rfl rfl) ?_
    refine TL.end_ ?_
    refine TX.then_ ?_
    refine TC.ret_ ?_
    refine TX.then_ret ?_
    exact ret_tmp Tryd.results4 rfl (fun w2 hw => ⟨rfl, hw.bel⟩)
  · exact absurd hc27 (by decide)
set_option maxRecDepth 100000 in
theorem textsB (A0 : Option Addr) (n0 c0 : Nat) (l0 : List Int) (sl : List Int) (A2 : Option Addr) (n2 c2 : Nat) (l2 : List Int) (w : World) (hb0 : Byt w w.heap.size A0 n0 l0) (hsb : Bs sl) (hb2 : Byt w w.heap.size A2 n2 l2) (hc2 : n2 ≤ c2) (hm2 : c2 ≤ maxLen) {ts tk : TypeId} (hst : Blk w 0 ts start8.cells) (hky : Blk w 1 tk (arrOf keysL)) (h1 : n0 ≤ 1000) (h2 : 1000 < sl.length) :
    Calls Tryd.prog 4 #[.slice A0 n0 c0, sv sl, .slice A2 n2 c2] w fun e w' => e = .returned (.bool true) ∧ Below w.heap.size w w' := by
  refine begin_ (vs := [.slice A0 n0 c0, sv sl, .slice A2 n2 c2]) Tryd.func4 rfl rfl rfl ?_ (Pm.start w)
  refine TC.seq_ ?_
  refine TC.region ?_
  refine TL.val rfl rfl rfl (gives_assign rfl rfl) ?_
  refine TL.end_ ?_
  refine TX.then_ ?_
  refine TC.seq_ ?_
  refine TC.seq_ ?_
  refine TC.region ?_
  refine TL.pcall1 (r := .bool true) rfl rfl rfl rfl rfl Tryd.func7 nmAwake bdAwake (fun w1 hw => awake_any w1 (hst.below hw.bel hst.lt) (hky.below hw.bel hky.lt)) ?_
  refine TL.val rfl rfl rfl (gives_boolnot rfl rfl) ?_
  refine TL.val rfl rfl rfl (gives_move rfl rfl) ?_
  refine TL.on rfl rfl rfl ?_
  refine TL.val rfl rfl rfl (gives_move rfl rfl) ?_
  refine TL.on rfl rfl rfl ?_
  refine TL.val rfl rfl rfl (gives_len rfl Tryd.underlying22 rfl) ?_
  refine TL.on rfl rfl rfl ?_
  refine TL.val rfl rfl rfl (gives_bin (v := .bool false) rfl rfl rfl (fun w => bin_gtr_f (by omega) w)) ?_
  refine TL.val rfl rfl rfl (gives_pick rfl rfl rfl) ?_
  refine TL.val rfl rfl rfl (gives_move rfl rfl) ?_
  refine TL.on rfl rfl rfl ?_
  refine TL.val rfl rfl rfl (gives_move rfl rfl) ?_
  refine TL.on rfl rfl rfl ?_
  refine TL.val rfl rfl rfl (gives_lenL rfl Tryd.underlying9 rfl) ?_
  refine TL.on rfl rfl rfl ?_
  refine TL.val rfl rfl rfl (gives_bin (v := .bool true) rfl rfl rfl (fun w => bin_gtr_t (by omega) w)) ?_
  refine TL.val rfl rfl rfl (gives_pick rfl rfl rfl) ?_
  refine TL.end_ ?_
  refine TX.then_ ?_
  refine TC.split rfl (fun hc27 => ?_) (fun hc27 => ?_)
  · refine TC.seq_ ?_
    refine TC.region ?_
    refine TL.val rfl rfl rfl (gives_move rfl rfl) ?_
    refine TL.val rfl rfl rfl (gives_len rfl Tryd.underlying22 rfl) ?_
    refine TL.val rfl rfl rfl (gives_bin (v := .bool false) rfl rfl rfl (fun w => bin_gtr_f (by omega) w)) ?_
    refine TL.val rfl rfl rfl (gives_move rfl rfl) ?_
    refine TL.on rfl rfl rfl ?_
    refine TL.val rfl rfl rfl (gives_move rfl rfl) ?_
    refine TL.on rfl rfl rfl ?_
    refine TL.val rfl rfl rfl (gives_lenL rfl Tryd.underlying9 rfl) ?_
    refine TL.on rfl rfl rfl ?_
    refine TL.val rfl rfl rfl (gives_bin (v := .bool true) rfl rfl rfl (fun w => bin_gtr_t (by omega) w)) ?_
    refine TL.val rfl rfl rfl (gives_pick rfl rfl rfl) ?_
    refine TL.val rfl rfl rfl (gives_assign rfl rfl) ?_
    refine TL.end_ ?_
    refine TX.then_ ?_
    refine TC.ret_ ?_
    refine TX.then_ret ?_
    exact ret_tmp Tryd.results4 rfl (fun w2 hw => ⟨rfl, hw.bel⟩)
  · exact absurd hc27 (by decide)
set_option maxRecDepth 100000 in
theorem textsC (A0 : Option Addr) (n0 c0 : Nat) (l0 : List Int) (sl : List Int) (A2 : Option Addr) (n2 c2 : Nat) (l2 : List Int) (w : World) (hb0 : Byt w w.heap.size A0 n0 l0) (hsb : Bs sl) (hb2 : Byt w w.heap.size A2 n2 l2) (hc2 : n2 ≤ c2) (hm2 : c2 ≤ maxLen) {ts tk : TypeId} (hst : Blk w 0 ts start8.cells) (hky : Blk w 1 tk (arrOf keysL)) (h1 : n0 ≤ 1000) (hsl : sl.length ≤ 1000) :
    Calls Tryd.prog 4 #[.slice A0 n0 c0, sv sl, .slice A2 n2 c2] w fun e w' => e = .returned (.bool true) ∧ Below w.heap.size w w' := by
  refine begin_ (vs := [.slice A0 n0 c0, sv sl, .slice A2 n2 c2]) Tryd.func4 rfl rfl rfl ?_ (Pm.start w)
  refine TC.seq_ ?_
  refine TC.region ?_
  refine TL.val rfl rfl rfl (gives_assign rfl rfl) ?_
  refine TL.end_ ?_
  refine TX.then_ ?_
  refine TC.seq_ ?_
  refine TC.seq_ ?_
  refine TC.region ?_
  refine TL.pcall1 (r := .bool true) rfl rfl rfl rfl rfl Tryd.func7 nmAwake bdAwake (fun w1 hw => awake_any w1 (hst.below hw.bel hst.lt) (hky.below hw.bel hky.lt)) ?_
  refine TL.val rfl rfl rfl (gives_boolnot rfl rfl) ?_
  refine TL.val rfl rfl rfl (gives_move rfl rfl) ?_
  refine TL.on rfl rfl rfl ?_
  refine TL.val rfl rfl rfl (gives_move rfl rfl) ?_
  refine TL.on rfl rfl rfl ?_
  refine TL.val rfl rfl rfl (gives_len rfl Tryd.underlying22 rfl) ?_
  refine TL.on rfl rfl rfl ?_
  refine TL.val rfl rfl rfl (gives_bin (v := .bool false) rfl rfl rfl (fun w => bin_gtr_f (by omega) w)) ?_
  refine TL.val rfl rfl rfl (gives_pick rfl rfl rfl) ?_
  refine TL.val rfl rfl rfl (gives_move rfl rfl) ?_
  refine TL.on rfl rfl rfl ?_
  refine TL.val rfl rfl rfl (gives_move rfl rfl) ?_
  refine TL.on rfl rfl rfl ?_
  refine TL.val rfl rfl rfl (gives_lenL rfl Tryd.underlying9 rfl) ?_
  refine TL.on rfl rfl rfl ?_
  refine TL.val rfl rfl rfl (gives_bin (v := .bool false) rfl rfl rfl (fun w => bin_gtr_f (by omega) w)) ?_
  refine TL.val rfl rfl rfl (gives_pick rfl rfl rfl) ?_
  refine TL.end_ ?_
  refine TX.then_ ?_
  refine TC.split rfl (fun hc27 => ?_) (fun hc27 => ?_)
  · exact absurd hc27 (by decide)
  · refine TC.skip_ ?_
    refine TX.then_ ?_
    refine TC.seq_ ?_
    refine TC.region ?_
    refine TL.val rfl rfl rfl (gives_move rfl rfl) ?_
    refine TL.callNew (I := Pm w []) (p := fun cb w => Cod w cb) rfl rfl rfl rfl rfl Tryd.func11 nmNew bdNew (fun w1 hw => (new_any A2 n2 c2 l2 w1 20 ((hb2.below hw.bel).more hw.bel.size) hc2 (by have := hm2; unfold maxLen at this; omega) (by decide) (by decide)).mono fun e w2 ⟨h1, h2, h3, _⟩ => ⟨h1, h2, cod_cells h2, h3⟩) cod_stab (fun w1 hw1 => ?_)
    replace hb0 : Byt w1 w1.heap.size A0 n0 l0 := (hb0.below hw1.bel).more hw1.bel.size
    refine TL.val rfl rfl rfl (gives_assign rfl rfl) ?_
    refine TL.end_ ?_
    refine TX.then_ ?_
    refine TC.seq_ ?_
    refine TC.region ?_
    refine TL.val rfl rfl rfl (gives_move rfl rfl) ?_
    refine TL.pcall1 (r := sv (hexL l0)) rfl rfl rfl rfl rfl Tryd.func13 nmHex bdHex (fun w2 hw => hex_any A0 n0 c0 l0 w2 ((hb0.below hw.bel).more hw.bel.size) (by omega)) ?_
    refine TL.pcallPair (n := n0) (ys := bv l0) (v := .int .i64 0) rfl rfl rfl rfl rfl Tryd.func12 nmParse bdParse (fun w2 hw => parse_hex l0 hb0.2 n0 hb0.len (by omega) w2) (fun A3 c3 hA31 hA32 => ?_)
    refine TL.val rfl rfl rfl (gives_move rfl rfl) ?_
    refine TL.val rfl rfl rfl (gives_extract rfl rfl rfl) ?_
    refine TL.val rfl rfl rfl (gives_extract rfl rfl rfl) ?_
    refine TL.val rfl rfl rfl (gives_assign rfl rfl) ?_
    refine TL.val rfl rfl rfl (gives_assign rfl rfl) ?_
    refine TL.end_ ?_
    refine TX.then_ ?_
    refine TC.seq_ ?_
    refine TC.seq_ ?_
    refine TC.region ?_
    refine TL.val rfl rfl rfl (gives_move rfl rfl) ?_
    refine TL.val rfl rfl rfl (gives_bin (v := .bool false) rfl rfl rfl (fun w => bin_neq_f rfl w)) ?_
    refine TL.val rfl rfl rfl (gives_move rfl rfl) ?_
    refine TL.on rfl rfl rfl ?_
    refine TL.val rfl rfl rfl (gives_move rfl rfl) ?_
    refine TL.on rfl rfl rfl ?_
    refine TL.val rfl rfl rfl (gives_move rfl rfl) ?_
    refine TL.on rfl rfl rfl ?_
    refine TL.pcall1 (r := .bool true) rfl rfl rfl rfl rfl Tryd.func8 nmEqual bdEqual (fun w2 hw => eq_true (requal_any A3 A0 (n0) c3 (n0) c0 (l0) (l0) w2 _ (byt_own (hw.at_ (k := 0) rfl) hb0.2) ((hb0.below hw.bel).more hw.bel.size) (by omega) (by omega))) ?_
    refine TL.on rfl rfl rfl ?_
    refine TL.val rfl rfl rfl (gives_boolnot rfl rfl) ?_
    refine TL.val rfl rfl rfl (gives_pick rfl rfl rfl) ?_
    refine TL.val rfl rfl rfl (gives_move rfl rfl) ?_
    refine TL.on rfl rfl rfl ?_
    refine TL.val rfl rfl rfl (gives_move rfl rfl) ?_
    refine TL.on rfl rfl rfl ?_
    refine TL.pcall1 (r := sv (hexL l0)) rfl rfl rfl rfl rfl Tryd.func13 nmHex bdHex (fun w2 hw => hex_any A0 n0 c0 l0 w2 ((hb0.below hw.bel).more hw.bel.size) (by omega)) ?_
    refine TL.on rfl rfl rfl ?_
    refine TL.val rfl rfl rfl (gives_move rfl rfl) ?_
    refine TL.on rfl rfl rfl ?_
    refine TL.pcall1 (r := sv (hexL l0)) rfl rfl rfl rfl rfl Tryd.func14 nmRHex bdRHex (fun w2 hw => rhex_any A0 n0 c0 l0 w2 ((hb0.below hw.bel).more hw.bel.size) (by omega)) ?_
    refine TL.on rfl rfl rfl ?_
    refine TL.val rfl rfl rfl (gives_bin2 (v := .bool false) rfl rfl rfl (fun w => by rw [bin_strne (hexL_bs _ hb0.2) (hexL_bs _ hb0.2) w, decide_eq_true rfl]; rfl)) ?_
    refine TL.val rfl rfl rfl (gives_pick rfl rfl rfl) ?_
    refine TL.end_ ?_
    refine TX.then_ ?_
    refine TC.split rfl (fun hc58 => ?_) (fun hc58 => ?_)
    · exact absurd hc58 (by decide)
    · refine TC.skip_ ?_
      refine TX.then_ ?_
      refine TC.seq_ ?_
      refine TC.seq_ ?_
      refine TC.region ?_
      refine TL.val rfl rfl rfl (gives_move rfl rfl) ?_
      refine TL.val rfl rfl rfl (gives_move rfl rfl) ?_
      refine TL.val rfl rfl rfl (gives_move rfl rfl) ?_
      refine TL.pcall1 (r := sv (hexL l0)) rfl rfl rfl rfl rfl Tryd.func13 nmHex bdHex (fun w2 hw => hex_any A0 n0 c0 l0 w2 ((hb0.below hw.bel).more hw.bel.size) (by omega)) ?_
      refine TL.bytesOf (n := 2 * n0) rfl rfl rfl rfl rfl Tryd.underlying9 Tryd.underlying22 Tryd.underlying5 (hexL_bs _ hb0.2) (by rw [hexL_len, hb0.len]) (by unfold maxLen; omega) (fun g4 c4 o4 hg41 hg42 hH => ?_)
      refine TL.pcallCod (k := 2) (α := {x : Sl // x.n ≤ x.c ∧ x.c ≤ maxLen ∧ x.n ≤ 2 * n0 + 1 ∧ Bs x.l}) (fun x => x.1.val) (fun x => [.row x.1.val 5 1 x.1.n (bv x.1.l)]) rfl rfl rfl rfl rfl Tryd.func15 nmSpo bdSpo rfl (fun w2 hw hC => (spoilt_cod w1.heap.size w2 (some ⟨g4, 0, none⟩) (2 * n0) c4 (hexL l0) hC (byt_obj (hw.at_ (k := 0) rfl).1 hH (hexL_bs _ hb0.2) (by rw [hexL_len, hb0.len])) (fun ad e => by cases e; exact hw.ne (i := 0) (j := 2) rfl rfl (by omega) rfl rfl) hg41 (by omega)).mono fun e w3 ⟨A', m, c', l', h1, h2, h3, h4, h5, h6⟩ => ⟨⟨⟨A', m, c', l'⟩, h2, h3, h4, h5⟩, h1, h6⟩) ?_
      rintro ⟨⟨A5, m5, c5, l5⟩, hm51, hm52, hm53, hm54⟩
      dsimp only [Sl.val, List.cons_append, List.nil_append] at hm51 hm52 hm53 hm54 ⊢
      refine TL.fact (p := l5.length = m5) (fun w2 hw => by have := (hw.at_ (k := 0) rfl).1; simpa [bv_len] using this) (fun hl5 => ?_)
      refine TL.val rfl rfl rfl (gives_str (k := 0) rfl rfl Tryd.underlying22 Tryd.underlying5 Tryd.underlying9 rfl) ?_
      refine TL.prow (e := 9) (cs := [sv sl, sv l5]) rfl rfl rfl rfl rfl (fun w => row2str _ _ w) (by decide) rfl (fun g6 => ?_)
      refine TL.val rfl rfl rfl (gives_len rfl Tryd.underlying33 rfl) ?_
      refine TL.val rfl rfl rfl (gives_move rfl rfl) ?_
      refine TL.end_ ?_
      refine TX.then_ ?_
      refine TC.block ?_
      refine TC.loop_ (α := {i : Nat // i ≤ 2}) (fun x => [(66, .slice (some ⟨g6, 0, none⟩) 2 2), (67, .int .i64 ((2 : Nat) : Int)), (68, .int .i64 (x.1 : Int))]) (fun x => Pm w1 [.row (.slice (some ⟨g6, 0, none⟩) 2 2) 9 1 2 [sv sl, sv l5]]) (fun x => 2 - x.1) (⟨0, Nat.zero_le _⟩) ⟨rfl, rfl, rfl, trivial⟩ (fun w hw => hw.sel (.cons_cons _ (List.nil_sublist _))) ?_
      rintro ⟨i, hi⟩
      dsimp only at hi ⊢
      refine TC.seq_ ?_
      refine TC.region ?_
      refine TL.val rfl rfl rfl (gives_bin rfl rfl rfl (fun w => bin_lss w)) ?_
      refine TL.end_ ?_
      refine TX.then_ ?_
      refine TC.seq_ ?_
      refine TC.split rfl (fun hc69 => ?_) (fun hc69 => ?_)
      · have hi2 : i < 2 := by have := of_decide_eq_true hc69; omega
        obtain ⟨t, ht, htb, htl⟩ := two_at hsb hsl hm54 (show l5.length ≤ 5000 by omega) i hi2
        have hol := outP_len t
        refine TC.skip_ ?_
        refine TX.then_ ?_
        refine TC.seq_ ?_
        refine TC.block ?_
        refine TC.seq_ ?_
        refine TC.region ?_
        refine TL.val rfl rfl rfl (gives_at rfl rfl rfl (fun w => at_str g6 0 2 2 i hi2 w)) ?_
        refine TL.val rfl rfl rfl (pm_loadRow (k := 0) rfl rfl (fun w => rfl) rfl ht) ?_
        refine TL.val rfl rfl rfl (gives_assign rfl rfl) ?_
        refine TL.end_ ?_
        refine TX.then_ ?_
        refine TC.seq_ ?_
        refine TC.region ?_
        refine TL.val rfl rfl rfl (gives_move rfl rfl) ?_
        refine TL.pcallPair (n := (outP t).length) (ys := bv (outP t)) (v := .int .i64 (errP t)) rfl rfl rfl rfl rfl Tryd.func12 nmParse bdParse (fun w2 hw => parse_any t w2 htb (by omega)) (fun A7 c7 hA71 hA72 => ?_)
        refine TL.val rfl rfl rfl (gives_move rfl rfl) ?_
        refine TL.val rfl rfl rfl (gives_extract rfl rfl rfl) ?_
        refine TL.val rfl rfl rfl (gives_extract rfl rfl rfl) ?_
        refine TL.val rfl rfl rfl (gives_assign rfl rfl) ?_
        refine TL.val rfl rfl rfl (gives_assign rfl rfl) ?_
        refine TL.end_ ?_
        refine TX.then_ ?_
        refine TC.seq_ ?_
        refine TC.region ?_
        refine TL.val rfl rfl rfl (gives_move rfl rfl) ?_
        refine TL.pcallPair (n := (outP t).length) (ys := bv (outP t)) (v := .int .i64 (errP t)) rfl rfl rfl rfl rfl Tryd.func16 nmRParse bdRParse (fun w2 hw => rparse_any t w2 htb (by omega)) (fun A8 c8 hA81 hA82 => ?_)
        refine TL.val rfl rfl rfl (gives_move rfl rfl) ?_
        refine TL.val rfl rfl rfl (gives_extract rfl rfl rfl) ?_
        refine TL.val rfl rfl rfl (gives_extract rfl rfl rfl) ?_
        refine TL.val rfl rfl rfl (gives_assign rfl rfl) ?_
        refine TL.val rfl rfl rfl (gives_assign rfl rfl) ?_
        refine TL.end_ ?_
        refine TX.then_ ?_
        refine TC.seq_ ?_
        rcases (by cases hcc : canP t; exact .inr rfl; exact .inl rfl : canP t = true ∨ canP t = false) with hcan | hcan
        · refine TC.region ?_
          refine TL.val rfl rfl rfl (gives_move rfl rfl) ?_
          refine TL.val rfl rfl rfl (gives_move rfl rfl) ?_
          refine TL.val rfl rfl rfl (gives_bin (v := .bool false) rfl rfl rfl (fun w => bin_neq_f rfl w)) ?_
          refine TL.val rfl rfl rfl (gives_move rfl rfl) ?_
          refine TL.on rfl rfl rfl ?_
          refine TL.val rfl rfl rfl (gives_move rfl rfl) ?_
          refine TL.on rfl rfl rfl ?_
          refine TL.val rfl rfl rfl (gives_move rfl rfl) ?_
          refine TL.on rfl rfl rfl ?_
          refine TL.pcall1 (r := .bool true) rfl rfl rfl rfl rfl Tryd.func8 nmEqual bdEqual (fun w2 hw => eq_true (requal_any A7 A8 ((outP t).length) c7 ((outP t).length) c8 (outP t) (outP t) w2 _ (byt_own (hw.at_ (k := 1) rfl) (outP_bs t)) (byt_own (hw.at_ (k := 0) rfl) (outP_bs t)) (by omega) (by omega))) ?_
          refine TL.on rfl rfl rfl ?_
          refine TL.val rfl rfl rfl (gives_boolnot rfl rfl) ?_
          refine TL.val rfl rfl rfl (gives_pick rfl rfl rfl) ?_
          refine TL.val rfl rfl rfl (gives_move rfl rfl) ?_
          refine TL.on rfl rfl rfl ?_
          refine TL.val rfl rfl rfl (gives_move rfl rfl) ?_
          refine TL.on rfl rfl rfl ?_
          refine TL.val rfl rfl rfl (gives_bin (v := .bool true) rfl rfl rfl (fun w => bin_eql_t (by rw [errP, if_pos hcan]) w)) ?_
          refine TL.on rfl rfl rfl ?_
          refine TL.val rfl rfl rfl (gives_move rfl rfl) ?_
          refine TL.on rfl rfl rfl ?_
          refine TL.val rfl rfl rfl (gives_move rfl rfl) ?_
          refine TL.on rfl rfl rfl ?_
          refine TL.pcall1 (r := sv (hexL (outP t))) rfl rfl rfl rfl rfl Tryd.func13 nmHex bdHex (fun w2 hw => hex_any A7 (outP t).length c7 (outP t) w2 (byt_own (hw.at_ (k := 1) rfl) (outP_bs t)) (by omega)) ?_
          refine TL.on rfl rfl rfl ?_
          refine TL.val rfl rfl rfl (gives_move rfl rfl) ?_
          refine TL.on rfl rfl rfl ?_
          refine TL.val rfl rfl rfl (gives_bin2 (v := .bool false) rfl rfl rfl (fun w => by rw [bin_strne (hexL_bs _ (outP_bs t)) htb w, decide_eq_true (can_hex t hcan)]; rfl)) ?_
          refine TL.on rfl rfl rfl ?_
          refine TL.val rfl rfl rfl (gives_pick rfl rfl rfl) ?_
          refine TL.val rfl rfl rfl (gives_pick rfl rfl rfl) ?_
          refine TL.end_ ?_
          refine TX.then_ ?_
          refine TC.split rfl (fun hc100 => ?_) (fun hc100 => ?_)
          · exact absurd hc100 (by decide)
          · refine TC.skip_ ?_
            refine TX.in_normal ?_
            refine TX.then_ ?_
            refine TC.region ?_
            refine TL.val rfl rfl rfl (gives_bin rfl rfl rfl (fun w => bin_add_ (r := ((i + 1 : Nat) : Int)) (by simp only [IntKind.wrap_i64]; omega) w)) ?_
            refine TL.val rfl rfl rfl (gives_move rfl rfl) ?_
            refine TL.end_ ?_
            exact TX.round (⟨i + 1, hi2⟩) (by show 2 - (i + 1) < 2 - i; omega) ⟨rfl, rfl, rfl, trivial⟩ (fun w hw => hw.sel (.cons _ (.cons _ (.cons_cons _ (List.nil_sublist _)))))
        · refine TC.region ?_
          refine TL.val rfl rfl rfl (gives_move rfl rfl) ?_
          refine TL.val rfl rfl rfl (gives_move rfl rfl) ?_
          refine TL.val rfl rfl rfl (gives_bin (v := .bool false) rfl rfl rfl (fun w => bin_neq_f rfl w)) ?_
          refine TL.val rfl rfl rfl (gives_move rfl rfl) ?_
          refine TL.on rfl rfl rfl ?_
          refine TL.val rfl rfl rfl (gives_move rfl rfl) ?_
          refine TL.on rfl rfl rfl ?_
          refine TL.val rfl rfl rfl (gives_move rfl rfl) ?_
          refine TL.on rfl rfl rfl ?_
          refine TL.pcall1 (r := .bool true) rfl rfl rfl rfl rfl Tryd.func8 nmEqual bdEqual (fun w2 hw => eq_true (requal_any A7 A8 ((outP t).length) c7 ((outP t).length) c8 (outP t) (outP t) w2 _ (byt_own (hw.at_ (k := 1) rfl) (outP_bs t)) (byt_own (hw.at_ (k := 0) rfl) (outP_bs t)) (by omega) (by omega))) ?_
          refine TL.on rfl rfl rfl ?_
          refine TL.val rfl rfl rfl (gives_boolnot rfl rfl) ?_
          refine TL.val rfl rfl rfl (gives_pick rfl rfl rfl) ?_
          refine TL.val rfl rfl rfl (gives_move rfl rfl) ?_
          refine TL.on rfl rfl rfl ?_
          refine TL.val rfl rfl rfl (gives_move rfl rfl) ?_
          refine TL.on rfl rfl rfl ?_
          refine TL.val rfl rfl rfl (gives_bin (v := .bool false) rfl rfl rfl (fun w => bin_eql_f (by rw [errP, if_neg (by rw [hcan]; decide)]; decide) w)) ?_
          refine TL.on rfl rfl rfl ?_
          refine TL.val rfl rfl rfl (gives_move rfl rfl) ?_
          refine TL.off rfl rfl rfl rfl rfl rfl ?_
          refine TL.off rfl rfl rfl rfl rfl rfl ?_
          refine TL.off rfl rfl rfl rfl rfl rfl ?_
          refine TL.off rfl rfl rfl rfl rfl rfl ?_
          refine TL.on rfl rfl rfl ?_
          refine TL.val rfl rfl rfl (gives_pick rfl rfl rfl) ?_
          refine TL.val rfl rfl rfl (gives_pick rfl rfl rfl) ?_
          refine TL.end_ ?_
          refine TX.then_ ?_
          refine TC.split rfl (fun hc100 => ?_) (fun hc100 => ?_)
          · exact absurd hc100 (by decide)
          · refine TC.skip_ ?_
            refine TX.in_normal ?_
            refine TX.then_ ?_
            refine TC.region ?_
            refine TL.val rfl rfl rfl (gives_bin rfl rfl rfl (fun w => bin_add_ (r := ((i + 1 : Nat) : Int)) (by simp only [IntKind.wrap_i64]; omega) w)) ?_
            refine TL.val rfl rfl rfl (gives_move rfl rfl) ?_
            refine TL.end_ ?_
            exact TX.round (⟨i + 1, hi2⟩) (by show 2 - (i + 1) < 2 - i; omega) ⟨rfl, rfl, rfl, trivial⟩ (fun w hw => hw.sel (.cons _ (.cons _ (.cons_cons _ (List.nil_sublist _)))))
      · refine TC.exit_ ?_
        refine TX.then_exit ?_
        refine TX.then_exit ?_
        refine TX.in_same ?_
        refine TX.then_ ?_
        refine TC.seq_ ?_
        refine TC.region ?_
        refine TL.val rfl rfl rfl (gives_assign rfl rfl) ?_
        refine TL.end_ ?_
        refine TX.then_ ?_
        refine TC.ret_ ?_
        exact ret_tmp Tryd.results4 rfl (fun w2 hw => ⟨rfl, hw1.bel.trans (hw.bel.mono hw1.bel.size)⟩)
theorem digestTexts_walk (A0 : Option Addr) (n0 c0 : Nat) (l0 : List Int) (s : ByteArray) (A2 : Option Addr) (n2 c2 : Nat) (l2 : List Int) (w : World) (hb0 : Byt w w.heap.size A0 n0 l0) (hc0 : n0 ≤ c0) (hs : s.size ≤ maxLen) (hb2 : Byt w w.heap.size A2 n2 l2) (hc2 : n2 ≤ c2) (hm2 : c2 ≤ maxLen) {ts tk : TypeId} (hst : Blk w 0 ts start8.cells) (hky : Blk w 1 tk (arrOf keysL)) :
    Calls Tryd.prog 4 #[.slice A0 n0 c0, .string s, .slice A2 n2 c2] w fun e w' => e = .returned (.bool true) ∧ Below w.heap.size w w' := by
  obtain ⟨sl, rfl, hsb⟩ : ∃ sl, s = strOfNums sl ∧ Bs sl := ⟨numsOf s, (strOf_numsOf s).symm, numsOf_bs s⟩
  rcases Nat.lt_or_ge 1000 n0 with h1 | h1
  · exact textsA A0 n0 c0 l0 sl A2 n2 c2 l2 w hb0 hsb hb2 hc2 hm2 hst hky h1
  · rcases Nat.lt_or_ge 1000 sl.length with h2 | h2
    · exact textsB A0 n0 c0 l0 sl A2 n2 c2 l2 w hb0 hsb hb2 hc2 hm2 hst hky h1 h2
    · exact textsC A0 n0 c0 l0 sl A2 n2 c2 l2 w hb0 hsb hb2 hc2 hm2 hst hky h1 h2
end Go.Proofs.YtllaojnnackhhaaDoor
