/-
  The walks of DigestKnown and of DigestCodes, by rules.
-/
import Derived.Test.YtllaojnnackhhaaDoorDgMac
namespace Go.Proofs.YtllaojnnackhhaaDoor
open Go.RowKit
set_option linter.unusedVariables false
set_option linter.unusedSimpArgs false
theorem macF_sha (k d : List Int) (h : k.length > 64) : macF (shaF k) d = macF k d := by
  have h1 : macKey (shaF k) = shaF k := if_neg (by rw [shaF_len]; omega)
  have h2 : macKey k = shaF k := if_pos h
  unfold macF
  rw [h1, h2]
theorem macF_fill (k d : List Int) (z : Nat) (h : k.length + z ≤ 64) : macF (k ++ zeroL z) d = macF k d := by
  have h1 : macKey (k ++ zeroL z) = k ++ zeroL z := if_neg (by simp [zeroL]; omega)
  have h2 : macKey k = k := if_neg (by omega)
  have h3 : padK (k ++ zeroL z) = padK k := by
    unfold padK zeroL
    rw [List.append_assoc, List.replicate_append_replicate, List.length_append, List.length_replicate]
    congr 2
    omega
  unfold macF
  rw [h1, h2, h3]
theorem eq_trueE {f : FuncId} {vs : Array Value} {w : World} {a b : List Int} {P : Program} (he : a = b) (h : Calls P f vs w fun e w' => e = .returned (.bool (eqB a b)) ∧ ∃ q, w' = w.drewN q) : Calls P f vs w fun e w' => e = .returned (.bool true) ∧ Below w.heap.size w w' := by
  subst he
  exact eq_true h
theorem bin_gtr_t {P : Program} {xt : TypeId} {k : IntKind} {m n : Int} (h : m > n) (w : World) : (binOp .gtr xt (.int k m) (.int k n)).run P w = .ok (.bool true) w := by rw [bin_gtr, decide_eq_true h]
theorem bin_gtr_f {P : Program} {xt : TypeId} {k : IntKind} {m n : Int} (h : ¬ m > n) (w : World) : (binOp .gtr xt (.int k m) (.int k n)).run P w = .ok (.bool false) w := by rw [bin_gtr, decide_eq_false h]
theorem bin_remk {P : Program} {xt : TypeId} {k : IntKind} {m n : Int} (h0 : 0 ≤ m) (h1 : 0 < n) (w : World) : (binOp .rem xt (.int k m) (.int k n)).run P w = .ok (.int k (m % n)) w := by
  have hz : n ≠ 0 := by omega
  have := Int.tmod_eq_emod_of_nonneg (a := m) (b := n) h0
  simp [binOp, go_sem, Op.intDiv, hz, this]
def abcL : List Int := [97, 98, 99]
theorem abcL_bs : Bs abcL := by unfold Bs; decide
set_option maxRecDepth 100000 in
theorem row_abc (w : World) : (Instr.buildSlice 22 3 #[(0, .int .u8 97), (1, .int .u8 98), (2, .int .u8 99)]).run Tryd.prog w = .ok (.slice (some ⟨w.heap.size, 0, none⟩) 3 3) (w.alloc (.cells #[.int .u8 97, .int .u8 98, .int .u8 99] 5)) := by kernel_rfl
def longL : List Int := [97, 98, 99, 100, 98, 99, 100, 101, 99, 100, 101, 102, 100, 101, 102, 103, 101, 102, 103, 104, 102, 103, 104, 105, 103, 104, 105, 106, 104, 105, 106, 107, 105, 106, 107, 108, 106, 107, 108, 109, 107, 108, 109, 110, 108, 109, 110, 111, 109, 110, 111, 112, 110, 111, 112, 113]
theorem longL_bs : Bs longL := by unfold Bs; decide
set_option maxRecDepth 100000 in
theorem row_long (w : World) : (Instr.buildSlice 22 56 #[(0, .int .u8 97), (1, .int .u8 98), (2, .int .u8 99), (3, .int .u8 100), (4, .int .u8 98), (5, .int .u8 99), (6, .int .u8 100), (7, .int .u8 101), (8, .int .u8 99), (9, .int .u8 100), (10, .int .u8 101), (11, .int .u8 102), (12, .int .u8 100), (13, .int .u8 101), (14, .int .u8 102), (15, .int .u8 103), (16, .int .u8 101), (17, .int .u8 102), (18, .int .u8 103), (19, .int .u8 104), (20, .int .u8 102), (21, .int .u8 103), (22, .int .u8 104), (23, .int .u8 105), (24, .int .u8 103), (25, .int .u8 104), (26, .int .u8 105), (27, .int .u8 106), (28, .int .u8 104), (29, .int .u8 105), (30, .int .u8 106), (31, .int .u8 107), (32, .int .u8 105), (33, .int .u8 106), (34, .int .u8 107), (35, .int .u8 108), (36, .int .u8 106), (37, .int .u8 107), (38, .int .u8 108), (39, .int .u8 109), (40, .int .u8 107), (41, .int .u8 108), (42, .int .u8 109), (43, .int .u8 110), (44, .int .u8 108), (45, .int .u8 109), (46, .int .u8 110), (47, .int .u8 111), (48, .int .u8 109), (49, .int .u8 110), (50, .int .u8 111), (51, .int .u8 112), (52, .int .u8 110), (53, .int .u8 111), (54, .int .u8 112), (55, .int .u8 113)]).run Tryd.prog w = .ok (.slice (some ⟨w.heap.size, 0, none⟩) 56 56) (w.alloc (.cells #[.int .u8 97, .int .u8 98, .int .u8 99, .int .u8 100, .int .u8 98, .int .u8 99, .int .u8 100, .int .u8 101, .int .u8 99, .int .u8 100, .int .u8 101, .int .u8 102, .int .u8 100, .int .u8 101, .int .u8 102, .int .u8 103, .int .u8 101, .int .u8 102, .int .u8 103, .int .u8 104, .int .u8 102, .int .u8 103, .int .u8 104, .int .u8 105, .int .u8 103, .int .u8 104, .int .u8 105, .int .u8 106, .int .u8 104, .int .u8 105, .int .u8 106, .int .u8 107, .int .u8 105, .int .u8 106, .int .u8 107, .int .u8 108, .int .u8 106, .int .u8 107, .int .u8 108, .int .u8 109, .int .u8 107, .int .u8 108, .int .u8 109, .int .u8 110, .int .u8 108, .int .u8 109, .int .u8 110, .int .u8 111, .int .u8 109, .int .u8 110, .int .u8 111, .int .u8 112, .int .u8 110, .int .u8 111, .int .u8 112, .int .u8 113] 5)) := by kernel_rfl
def jefeL : List Int := [74, 101, 102, 101]
theorem jefeL_bs : Bs jefeL := by unfold Bs; decide
set_option maxRecDepth 100000 in
theorem row_jefe (w : World) : (Instr.buildSlice 22 4 #[(0, .int .u8 74), (1, .int .u8 101), (2, .int .u8 102), (3, .int .u8 101)]).run Tryd.prog w = .ok (.slice (some ⟨w.heap.size, 0, none⟩) 4 4) (w.alloc (.cells #[.int .u8 74, .int .u8 101, .int .u8 102, .int .u8 101] 5)) := by kernel_rfl
def whatL : List Int := [119, 104, 97, 116, 32, 100, 111, 32, 121, 97, 32, 119, 97, 110, 116, 32, 102, 111, 114, 32, 110, 111, 116, 104, 105, 110, 103, 63]
theorem whatL_bs : Bs whatL := by unfold Bs; decide
set_option maxRecDepth 100000 in
theorem row_what (w : World) : (Instr.buildSlice 22 28 #[(0, .int .u8 119), (1, .int .u8 104), (2, .int .u8 97), (3, .int .u8 116), (4, .int .u8 32), (5, .int .u8 100), (6, .int .u8 111), (7, .int .u8 32), (8, .int .u8 121), (9, .int .u8 97), (10, .int .u8 32), (11, .int .u8 119), (12, .int .u8 97), (13, .int .u8 110), (14, .int .u8 116), (15, .int .u8 32), (16, .int .u8 102), (17, .int .u8 111), (18, .int .u8 114), (19, .int .u8 32), (20, .int .u8 110), (21, .int .u8 111), (22, .int .u8 116), (23, .int .u8 104), (24, .int .u8 105), (25, .int .u8 110), (26, .int .u8 103), (27, .int .u8 63)]).run Tryd.prog w = .ok (.slice (some ⟨w.heap.size, 0, none⟩) 28 28) (w.alloc (.cells #[.int .u8 119, .int .u8 104, .int .u8 97, .int .u8 116, .int .u8 32, .int .u8 100, .int .u8 111, .int .u8 32, .int .u8 121, .int .u8 97, .int .u8 32, .int .u8 119, .int .u8 97, .int .u8 110, .int .u8 116, .int .u8 32, .int .u8 102, .int .u8 111, .int .u8 114, .int .u8 32, .int .u8 110, .int .u8 111, .int .u8 116, .int .u8 104, .int .u8 105, .int .u8 110, .int .u8 103, .int .u8 63] 5)) := by kernel_rfl
def abcHex : List Int := [98, 97, 55, 56, 49, 54, 98, 102, 56, 102, 48, 49, 99, 102, 101, 97, 52, 49, 52, 49, 52, 48, 100, 101, 53, 100, 97, 101, 50, 50, 50, 51, 98, 48, 48, 51, 54, 49, 97, 51, 57, 54, 49, 55, 55, 97, 57, 99, 98, 52, 49, 48, 102, 102, 54, 49, 102, 50, 48, 48, 49, 53, 97, 100]
theorem abcHex_bs : Bs abcHex := by unfold Bs; decide
def longHex : List Int := [50, 52, 56, 100, 54, 97, 54, 49, 100, 50, 48, 54, 51, 56, 98, 56, 101, 53, 99, 48, 50, 54, 57, 51, 48, 99, 51, 101, 54, 48, 51, 57, 97, 51, 51, 99, 101, 52, 53, 57, 54, 52, 102, 102, 50, 49, 54, 55, 102, 54, 101, 99, 101, 100, 100, 52, 49, 57, 100, 98, 48, 54, 99, 49]
theorem longHex_bs : Bs longHex := by unfold Bs; decide
def macHex : List Int := [53, 98, 100, 99, 99, 49, 52, 54, 98, 102, 54, 48, 55, 53, 52, 101, 54, 97, 48, 52, 50, 52, 50, 54, 48, 56, 57, 53, 55, 53, 99, 55, 53, 97, 48, 48, 51, 102, 48, 56, 57, 100, 50, 55, 51, 57, 56, 51, 57, 100, 101, 99, 53, 56, 98, 57, 54, 52, 101, 99, 51, 56, 52, 51]
theorem macHex_bs : Bs macHex := by unfold Bs; decide
set_option maxRecDepth 1000000 in
theorem abc_known : decide (hexL (shaF abcL) = abcHex) = true := by decide +kernel
set_option maxRecDepth 1000000 in
theorem long_known : decide (hexL (shaF longL) = longHex) = true := by decide +kernel
set_option maxRecDepth 1000000 in
theorem mac_known : decide (hexL (macF jefeL whatL) = macHex) = true := by decide +kernel
theorem nmMac : (Tryd.f17.name == "runtime.NumGoroutine") = false := by decide
theorem bdMac : Tryd.f17.body.isNone = false := rfl
theorem nmRMac : (Tryd.f18.name == "runtime.NumGoroutine") = false := by decide
theorem bdRMac : Tryd.f18.body.isNone = false := rfl
set_option maxRecDepth 100000 in
theorem digestKnown_walk (x : Int) (w : World) (hx0 : (Lit.int .u8 x).wf = true) {ts tk : TypeId} (hst : Blk w 0 ts start8.cells) (hky : Blk w 1 tk (arrOf keysL)) :
    Calls Tryd.prog 5 #[.int .u8 x] w fun e w' => e = .returned (.bool true) ∧ Below w.heap.size w w' := by
  have hx := wf_u8 hx0
  refine begin_ (vs := [.int .u8 x]) Tryd.func5 rfl rfl rfl ?_ (Pm.start w)
  refine TC.seq_ ?_
  refine TC.region ?_
  refine TL.val rfl rfl rfl (gives_assign rfl rfl) ?_
  refine TL.end_ ?_
  refine TX.then_ ?_
  refine TC.seq_ ?_
  refine TC.seq_ ?_
  refine TC.region ?_
  refine TL.pcall1 (r := .bool true) rfl rfl rfl rfl rfl Tryd.func7 nmAwake bdAwake (fun w1 hw => awake_any w1 (hst.below hw.bel hst.lt) (hky.below hw.bel hky.lt)) ?_
  refine TL.val rfl rfl rfl (gives_boolnot rfl rfl) ?_
  refine TL.end_ ?_
  refine TX.then_ ?_
  refine TC.split rfl (fun hc4 => ?_) (fun hc4 => ?_)
  · exact absurd hc4 (by decide)
  · refine TC.skip_ ?_
    refine TX.then_ ?_
    refine TC.seq_ ?_
    refine TC.seq_ ?_
    refine TC.region ?_
    refine TL.val rfl rfl rfl (gives_move rfl rfl) ?_
    refine TL.val rfl rfl rfl (gives_bin rfl rfl rfl (fun w => bin_remk hx.1 (by decide) w)) ?_
    refine TL.end_ ?_
    refine TX.then_ ?_
    refine TC.block ?_
    refine TC.seq_ ?_
    refine TC.region ?_
    refine TL.val rfl rfl rfl (gives_bin rfl rfl rfl (fun w => bin_eql w)) ?_
    refine TL.val rfl rfl rfl (gives_assign rfl rfl) ?_
    refine TL.end_ ?_
    refine TX.then_ ?_
    refine TC.split rfl (fun hc7 => ?_) (fun hc7 => ?_)
    · refine TC.seq_ ?_
      refine TC.region ?_
      refine TL.prow (cs := bv abcL) rfl rfl rfl rfl rfl (fun w => row_abc w) (by decide) rfl (fun g1 => ?_)
      refine TL.mark (k := 0) rfl rfl rfl rfl rfl Tryd.underlying22 Tryd.underlying5 rfl ?_
      refine TL.pcallRow (n := 32) (ys := bv (shaF (abcL))) rfl rfl rfl rfl rfl Tryd.func9 nmSum bdSum (fun w1 hw => sum_any (some ⟨g1, 0, none⟩) (3) 3 (abcL) w1 (byt_oth (hw.at_ (k := 0) rfl).1 abcL_bs rfl) (by decide) (hst.below hw.bel hst.lt) (hky.below hw.bel hky.lt)) (fun A2 c2 hA21 hA22 => ?_)
      refine TL.pcall1 (r := sv (hexL (shaF abcL))) rfl rfl rfl rfl rfl Tryd.func13 nmHex bdHex (fun w1 hw => hex_any A2 32 c2 _ w1 (byt_own (hw.at_ (k := 0) rfl) (shaF_bs _)) (by decide)) ?_
      refine TL.val rfl rfl rfl (gives_bin2 (vy := sv abcHex) (v := .bool true) rfl rfl rfl (fun w => by rw [bin_streq (hexL_bs _ (shaF_bs _)) abcHex_bs w, abc_known])) ?_
      refine TL.val rfl rfl rfl (gives_assign rfl rfl) ?_
      refine TL.end_ ?_
      refine TX.then_ ?_
      refine TC.ret_ ?_
      refine TX.in_ret ?_
      refine TX.then_ret ?_
      exact ret_tmp Tryd.results5 rfl (fun w1 hw => ⟨rfl, hw.bel⟩)
    · refine TC.seq_ ?_
      refine TC.region ?_
      refine TL.val rfl rfl rfl (gives_bin rfl rfl rfl (fun w => bin_eql w)) ?_
      refine TL.val rfl rfl rfl (gives_assign rfl rfl) ?_
      refine TL.end_ ?_
      refine TX.then_ ?_
      refine TC.split rfl (fun hc14 => ?_) (fun hc14 => ?_)
      · refine TC.seq_ ?_
        refine TC.region ?_
        refine TL.prow (cs := bv longL) rfl rfl rfl rfl rfl (fun w => row_long w) (by decide) rfl (fun g1 => ?_)
        refine TL.mark (k := 0) rfl rfl rfl rfl rfl Tryd.underlying22 Tryd.underlying5 rfl ?_
        refine TL.pcallRow (n := 32) (ys := bv (shaF (longL))) rfl rfl rfl rfl rfl Tryd.func9 nmSum bdSum (fun w1 hw => sum_any (some ⟨g1, 0, none⟩) (56) 56 (longL) w1 (byt_oth (hw.at_ (k := 0) rfl).1 longL_bs rfl) (by decide) (hst.below hw.bel hst.lt) (hky.below hw.bel hky.lt)) (fun A2 c2 hA21 hA22 => ?_)
        refine TL.pcall1 (r := sv (hexL (shaF longL))) rfl rfl rfl rfl rfl Tryd.func13 nmHex bdHex (fun w1 hw => hex_any A2 32 c2 _ w1 (byt_own (hw.at_ (k := 0) rfl) (shaF_bs _)) (by decide)) ?_
        refine TL.val rfl rfl rfl (gives_bin2 (vy := sv longHex) (v := .bool true) rfl rfl rfl (fun w => by rw [bin_streq (hexL_bs _ (shaF_bs _)) longHex_bs w, long_known])) ?_
        refine TL.val rfl rfl rfl (gives_assign rfl rfl) ?_
        refine TL.end_ ?_
        refine TX.then_ ?_
        refine TC.ret_ ?_
        refine TX.in_ret ?_
        refine TX.then_ret ?_
        exact ret_tmp Tryd.results5 rfl (fun w1 hw => ⟨rfl, hw.bel⟩)
      · refine TC.skip_ ?_
        refine TX.in_normal ?_
        refine TX.then_ ?_
        refine TC.seq_ ?_
        refine TC.region ?_
        refine TL.prow (cs := bv jefeL) rfl rfl rfl rfl rfl (fun w => row_jefe w) (by decide) rfl (fun g1 => ?_)
        refine TL.mark (k := 0) rfl rfl rfl rfl rfl Tryd.underlying22 Tryd.underlying5 rfl ?_
        refine TL.prow (cs := bv whatL) rfl rfl rfl rfl rfl (fun w => row_what w) (by decide) rfl (fun g2 => ?_)
        refine TL.mark (k := 0) rfl rfl rfl rfl rfl Tryd.underlying22 Tryd.underlying5 rfl ?_
        refine TL.pcallRow (n := 32) (ys := bv (macF (jefeL) (whatL))) rfl rfl rfl rfl rfl Tryd.func17 nmMac bdMac (fun w1 hw => mac_any (some ⟨g1, 0, none⟩) (4) 4 (jefeL) (some ⟨g2, 0, none⟩) (28) 28 (whatL) w1 (byt_oth (hw.at_ (k := 1) rfl).1 jefeL_bs rfl) (byt_oth (hw.at_ (k := 0) rfl).1 whatL_bs rfl) (by omega) (by omega) (hst.below hw.bel hst.lt) (hky.below hw.bel hky.lt)) (fun A2 c2 hA21 hA22 => ?_)
        refine TL.pcall1 (r := sv (hexL (macF jefeL whatL))) rfl rfl rfl rfl rfl Tryd.func13 nmHex bdHex (fun w1 hw => hex_any A2 32 c2 _ w1 (byt_own (hw.at_ (k := 0) rfl) (macF_bs _ _)) (by decide)) ?_
        refine TL.val rfl rfl rfl (gives_bin2 (vy := sv macHex) (v := .bool true) rfl rfl rfl (fun w => by rw [bin_streq (hexL_bs _ (macF_bs _ _)) macHex_bs w, mac_known])) ?_
        refine TL.val rfl rfl rfl (gives_assign rfl rfl) ?_
        refine TL.end_ ?_
        refine TX.then_ ?_
        refine TC.ret_ ?_
        exact ret_tmp Tryd.results5 rfl (fun w1 hw => ⟨rfl, hw.bel⟩)
set_option maxRecDepth 100000 in
theorem codesA (A0 : Option Addr) (n0 c0 : Nat) (l0 : List Int) (A1 : Option Addr) (n1 c1 : Nat) (l1 : List Int) (x : Int) (w : World) (hb0 : Byt w w.heap.size A0 n0 l0) (hb1 : Byt w w.heap.size A1 n1 l1) (hx : 0 ≤ x ∧ x ≤ 255) {ts tk : TypeId} (hst : Blk w 0 ts start8.cells) (hky : Blk w 1 tk (arrOf keysL)) (h1 : 300 < n0) :
    Calls Tryd.prog 6 #[.slice A0 n0 c0, .slice A1 n1 c1, .int .u8 x] w fun e w' => e = .returned (.bool true) ∧ Below w.heap.size w w' := by
  refine begin_ (vs := [.slice A0 n0 c0, .slice A1 n1 c1, .int .u8 x]) Tryd.func6 rfl rfl rfl ?_ (Pm.start w)
  refine TC.seq_ ?_
  refine TC.region ?_
  refine TL.val rfl rfl rfl (gives_assign rfl rfl) ?_
  refine TL.end_ ?_
  refine TX.then_ ?_
  refine TC.seq_ ?_
  refine TC.seq_ ?_
  refine TC.region ?_
  refine TL.pcall1 (r := .bool true) rfl rfl rfl rfl rfl Tryd.func7 nmAwake bdAwake (fun w1 hw => awake_any w1 (hst.below hw.bel hst.lt) (hky.below hw.bel hky.lt)) ?_
  refine TL.val rfl rfl rfl (gives_boolnot rfl rfl) ?_
  refine TL.val rfl rfl rfl (gives_move rfl rfl) ?_
  refine TL.on rfl rfl rfl ?_
  refine TL.val rfl rfl rfl (gives_move rfl rfl) ?_
  refine TL.on rfl rfl rfl ?_
  refine TL.val rfl rfl rfl (gives_len rfl Tryd.underlying22 rfl) ?_
  refine TL.on rfl rfl rfl ?_
  refine TL.val rfl rfl rfl (gives_bin (v := .bool true) rfl rfl rfl (fun w => bin_gtr_t (by omega) w)) ?_
  refine TL.val rfl rfl rfl (gives_pick rfl rfl rfl) ?_
  refine TL.val rfl rfl rfl (gives_move rfl rfl) ?_
  refine TL.off rfl rfl rfl rfl rfl rfl ?_
  refine TL.off rfl rfl rfl rfl rfl rfl ?_
  refine TL.off rfl rfl rfl rfl rfl rfl ?_
  refine TL.val rfl rfl rfl (gives_pick rfl rfl rfl) ?_
  refine TL.end_ ?_
  refine TX.then_ ?_
  refine TC.split rfl (fun hc20 => ?_) (fun hc20 => ?_)
  · refine TC.seq_ ?_
    refine TC.region ?_
    refine TL.val rfl rfl rfl (gives_move rfl rfl) ?_
    refine TL.val rfl rfl rfl (gives_len rfl Tryd.underlying22 rfl) ?_
    refine TL.val rfl rfl rfl (gives_bin (v := .bool true) rfl rfl rfl (fun w => bin_gtr_t (by omega) w)) ?_
    refine TL.val rfl rfl rfl (gives_move rfl rfl) ?_
    refine TL.off rfl rfl rfl rfl rfl rfl ?_
    refine TL.off rfl rfl rfl rfl rfl rfl ?_
    refine TL.off rfl rfl rfl rfl rfl rfl ?_
    refine TL.val rfl rfl rfl (gives_pick rfl rfl rfl) ?_
    refine TL.val rfl rfl rfl (gives_assign rfl rfl) ?_
    refine TL.end_ ?_
    refine TX.then_ ?_
    refine TC.ret_ ?_
    refine TX.then_ret ?_
    exact ret_tmp Tryd.results6 rfl (fun w1 hw => ⟨rfl, hw.bel⟩)
  · exact absurd hc20 (by decide)
set_option maxRecDepth 100000 in
theorem codesB (A0 : Option Addr) (n0 c0 : Nat) (l0 : List Int) (A1 : Option Addr) (n1 c1 : Nat) (l1 : List Int) (x : Int) (w : World) (hb0 : Byt w w.heap.size A0 n0 l0) (hb1 : Byt w w.heap.size A1 n1 l1) (hx : 0 ≤ x ∧ x ≤ 255) {ts tk : TypeId} (hst : Blk w 0 ts start8.cells) (hky : Blk w 1 tk (arrOf keysL)) (h1 : n0 ≤ 300) (h2 : 3000 < n1) :
    Calls Tryd.prog 6 #[.slice A0 n0 c0, .slice A1 n1 c1, .int .u8 x] w fun e w' => e = .returned (.bool true) ∧ Below w.heap.size w w' := by
  refine begin_ (vs := [.slice A0 n0 c0, .slice A1 n1 c1, .int .u8 x]) Tryd.func6 rfl rfl rfl ?_ (Pm.start w)
  refine TC.seq_ ?_
  refine TC.region ?_
  refine TL.val rfl rfl rfl (gives_assign rfl rfl) ?_
  refine TL.end_ ?_
  refine TX.then_ ?_
  refine TC.seq_ ?_
  refine TC.seq_ ?_
  refine TC.region ?_
  refine TL.pcall1 (r := .bool true) rfl rfl rfl rfl rfl Tryd.func7 nmAwake bdAwake (fun w1 hw => awake_any w1 (hst.below hw.bel hst.lt) (hky.below hw.bel hky.lt)) ?_
  refine TL.val rfl rfl rfl (gives_boolnot rfl rfl) ?_
  refine TL.val rfl rfl rfl (gives_move rfl rfl) ?_
  refine TL.on rfl rfl rfl ?_
  refine TL.val rfl rfl rfl (gives_move rfl rfl) ?_
  refine TL.on rfl rfl rfl ?_
  refine TL.val rfl rfl rfl (gives_len rfl Tryd.underlying22 rfl) ?_
  refine TL.on rfl rfl rfl ?_
  refine TL.val rfl rfl rfl (gives_bin (v := .bool false) rfl rfl rfl (fun w => bin_gtr_f (by omega) w)) ?_
  refine TL.val rfl rfl rfl (gives_pick rfl rfl rfl) ?_
  refine TL.val rfl rfl rfl (gives_move rfl rfl) ?_
  refine TL.on rfl rfl rfl ?_
  refine TL.val rfl rfl rfl (gives_move rfl rfl) ?_
  refine TL.on rfl rfl rfl ?_
  refine TL.val rfl rfl rfl (gives_len rfl Tryd.underlying22 rfl) ?_
  refine TL.on rfl rfl rfl ?_
  refine TL.val rfl rfl rfl (gives_bin (v := .bool true) rfl rfl rfl (fun w => bin_gtr_t (by omega) w)) ?_
  refine TL.val rfl rfl rfl (gives_pick rfl rfl rfl) ?_
  refine TL.end_ ?_
  refine TX.then_ ?_
  refine TC.split rfl (fun hc20 => ?_) (fun hc20 => ?_)
  · refine TC.seq_ ?_
    refine TC.region ?_
    refine TL.val rfl rfl rfl (gives_move rfl rfl) ?_
    refine TL.val rfl rfl rfl (gives_len rfl Tryd.underlying22 rfl) ?_
    refine TL.val rfl rfl rfl (gives_bin (v := .bool false) rfl rfl rfl (fun w => bin_gtr_f (by omega) w)) ?_
    refine TL.val rfl rfl rfl (gives_move rfl rfl) ?_
    refine TL.on rfl rfl rfl ?_
    refine TL.val rfl rfl rfl (gives_move rfl rfl) ?_
    refine TL.on rfl rfl rfl ?_
    refine TL.val rfl rfl rfl (gives_len rfl Tryd.underlying22 rfl) ?_
    refine TL.on rfl rfl rfl ?_
    refine TL.val rfl rfl rfl (gives_bin (v := .bool true) rfl rfl rfl (fun w => bin_gtr_t (by omega) w)) ?_
    refine TL.val rfl rfl rfl (gives_pick rfl rfl rfl) ?_
    refine TL.val rfl rfl rfl (gives_assign rfl rfl) ?_
    refine TL.end_ ?_
    refine TX.then_ ?_
    refine TC.ret_ ?_
    refine TX.then_ret ?_
    exact ret_tmp Tryd.results6 rfl (fun w1 hw => ⟨rfl, hw.bel⟩)
  · exact absurd hc20 (by decide)
set_option maxRecDepth 100000 in
theorem codesC (A0 : Option Addr) (n0 c0 : Nat) (l0 : List Int) (A1 : Option Addr) (n1 c1 : Nat) (l1 : List Int) (x : Int) (w : World) (hb0 : Byt w w.heap.size A0 n0 l0) (hb1 : Byt w w.heap.size A1 n1 l1) (hx : 0 ≤ x ∧ x ≤ 255) {ts tk : TypeId} (hst : Blk w 0 ts start8.cells) (hky : Blk w 1 tk (arrOf keysL)) (h1 : n0 ≤ 300) (h2 : n1 ≤ 3000) :
    Calls Tryd.prog 6 #[.slice A0 n0 c0, .slice A1 n1 c1, .int .u8 x] w fun e w' => e = .returned (.bool true) ∧ Below w.heap.size w w' := by
  refine begin_ (vs := [.slice A0 n0 c0, .slice A1 n1 c1, .int .u8 x]) Tryd.func6 rfl rfl rfl ?_ (Pm.start w)
  refine TC.seq_ ?_
  refine TC.region ?_
  refine TL.val rfl rfl rfl (gives_assign rfl rfl) ?_
  refine TL.end_ ?_
  refine TX.then_ ?_
  refine TC.seq_ ?_
  refine TC.seq_ ?_
  refine TC.region ?_
  refine TL.pcall1 (r := .bool true) rfl rfl rfl rfl rfl Tryd.func7 nmAwake bdAwake (fun w1 hw => awake_any w1 (hst.below hw.bel hst.lt) (hky.below hw.bel hky.lt)) ?_
  refine TL.val rfl rfl rfl (gives_boolnot rfl rfl) ?_
  refine TL.val rfl rfl rfl (gives_move rfl rfl) ?_
  refine TL.on rfl rfl rfl ?_
  refine TL.val rfl rfl rfl (gives_move rfl rfl) ?_
  refine TL.on rfl rfl rfl ?_
  refine TL.val rfl rfl rfl (gives_len rfl Tryd.underlying22 rfl) ?_
  refine TL.on rfl rfl rfl ?_
  refine TL.val rfl rfl rfl (gives_bin (v := .bool false) rfl rfl rfl (fun w => bin_gtr_f (by omega) w)) ?_
  refine TL.val rfl rfl rfl (gives_pick rfl rfl rfl) ?_
  refine TL.val rfl rfl rfl (gives_move rfl rfl) ?_
  refine TL.on rfl rfl rfl ?_
  refine TL.val rfl rfl rfl (gives_move rfl rfl) ?_
  refine TL.on rfl rfl rfl ?_
  refine TL.val rfl rfl rfl (gives_len rfl Tryd.underlying22 rfl) ?_
  refine TL.on rfl rfl rfl ?_
  refine TL.val rfl rfl rfl (gives_bin (v := .bool false) rfl rfl rfl (fun w => bin_gtr_f (by omega) w)) ?_
  refine TL.val rfl rfl rfl (gives_pick rfl rfl rfl) ?_
  refine TL.end_ ?_
  refine TX.then_ ?_
  refine TC.split rfl (fun hc20 => ?_) (fun hc20 => ?_)
  · exact absurd hc20 (by decide)
  · refine TC.skip_ ?_
    refine TX.then_ ?_
    refine TC.seq_ ?_
    refine TC.region ?_
    refine TL.val rfl rfl rfl (gives_move rfl rfl) ?_
    refine TL.val rfl rfl rfl (gives_move rfl rfl) ?_
    refine TL.pcallRow (n := 32) (ys := bv (macF (l0) (l1))) rfl rfl rfl rfl rfl Tryd.func17 nmMac bdMac (fun w1 hw => mac_any A0 (n0) c0 (l0) A1 (n1) c1 (l1) w1 ((hb0.below hw.bel).more hw.bel.size) ((hb1.below hw.bel).more hw.bel.size) (by omega) (by omega) (hst.below hw.bel hst.lt) (hky.below hw.bel hky.lt)) (fun A2 c2 hA21 hA22 => ?_)
    refine TL.val rfl rfl rfl (gives_assign rfl rfl) ?_
    refine TL.end_ ?_
    refine TX.then_ ?_
    refine TC.seq_ ?_
    refine TC.seq_ ?_
    refine TC.region ?_
    refine TL.val rfl rfl rfl (gives_move rfl rfl) ?_
    refine TL.val rfl rfl rfl (gives_move rfl rfl) ?_
    refine TL.val rfl rfl rfl (gives_move rfl rfl) ?_
    refine TL.pcallRow (n := 32) (ys := bv (macF (l0) (l1))) rfl rfl rfl rfl rfl Tryd.func18 nmRMac bdRMac (fun w1 hw => rmac_any A0 (n0) c0 (l0) A1 (n1) c1 (l1) w1 ((hb0.below hw.bel).more hw.bel.size) ((hb1.below hw.bel).more hw.bel.size) (by omega) (by omega)) (fun A3 c3 hA31 hA32 => ?_)
    refine TL.pcall1 (r := .bool true) rfl rfl rfl rfl rfl Tryd.func8 nmEqual bdEqual (fun w1 hw => eq_trueE rfl (requal_any A2 A3 32 c2 32 c3 _ _ w1 _ (byt_own (hw.at_ (k := 1) rfl) (macF_bs _ _)) (byt_own (hw.at_ (k := 0) rfl) (macF_bs _ _)) (by decide) (by decide))) ?_
    refine TL.val rfl rfl rfl (gives_boolnot rfl rfl) ?_
    refine TL.val rfl rfl rfl (gives_move rfl rfl) ?_
    refine TL.on rfl rfl rfl ?_
    refine TL.val rfl rfl rfl (gives_move rfl rfl) ?_
    refine TL.on rfl rfl rfl ?_
    refine TL.val rfl rfl rfl (gives_len rfl Tryd.underlying22 rfl) ?_
    refine TL.on rfl rfl rfl ?_
    refine TL.val rfl rfl rfl (gives_bin rfl rfl rfl (fun w => bin_neq w)) ?_
    refine TL.val rfl rfl rfl (gives_pick rfl rfl rfl) ?_
    refine TL.end_ ?_
    refine TX.then_ ?_
    refine TC.split rfl (fun hc42 => ?_) (fun hc42 => ?_)
    · exact absurd (of_decide_eq_true hc42) (by decide)
    · refine TC.skip_ ?_
      refine TX.then_ ?_
      refine TC.seq_ ?_
      refine TC.seq_ ?_
      refine TC.region ?_
      refine TL.val rfl rfl rfl (gives_move rfl rfl) ?_
      refine TL.val rfl rfl rfl (gives_len rfl Tryd.underlying22 rfl) ?_
      refine TL.val rfl rfl rfl (gives_bin rfl rfl rfl (fun w => bin_gtr w)) ?_
      refine TL.end_ ?_
      refine TX.then_ ?_
      refine TC.split rfl (fun hc45 => ?_) (fun hc45 => ?_)
      · have hn64 : n0 > 64 := by have := of_decide_eq_true hc45; omega
        refine TC.seq_ ?_
        refine TC.region ?_
        refine TL.val rfl rfl rfl (gives_move rfl rfl) ?_
        refine TL.val rfl rfl rfl (gives_move rfl rfl) ?_
        refine TL.pcallRow (n := 32) (ys := bv (shaF (l0))) rfl rfl rfl rfl rfl Tryd.func9 nmSum bdSum (fun w1 hw => sum_any A0 (n0) c0 (l0) w1 ((hb0.below hw.bel).more hw.bel.size) (by omega) (hst.below hw.bel hst.lt) (hky.below hw.bel hky.lt)) (fun A4 c4 hA41 hA42 => ?_)
        refine TL.val rfl rfl rfl (gives_move rfl rfl) ?_
        refine TL.pcallRow (n := 32) (ys := bv (macF (shaF l0) (l1))) rfl rfl rfl rfl rfl Tryd.func17 nmMac bdMac (fun w1 hw => mac_any A4 (32) c4 (shaF l0) A1 (n1) c1 (l1) w1 (byt_own (hw.at_ (k := 0) rfl) (shaF_bs _)) ((hb1.below hw.bel).more hw.bel.size) (by omega) (by omega) (hst.below hw.bel hst.lt) (hky.below hw.bel hky.lt)) (fun A5 c5 hA51 hA52 => ?_)
        refine TL.pcall1 (r := .bool true) rfl rfl rfl rfl rfl Tryd.func8 nmEqual bdEqual (fun w1 hw => eq_trueE (macF_sha _ _ (by rw [hb0.len]; exact hn64)).symm (requal_any A2 A5 32 c2 32 c5 _ _ w1 _ (byt_own (hw.at_ (k := 3) rfl) (macF_bs _ _)) (byt_own (hw.at_ (k := 0) rfl) (macF_bs _ _)) (by decide) (by decide))) ?_
        refine TL.val rfl rfl rfl (gives_assign rfl rfl) ?_
        refine TL.end_ ?_
        refine TX.then_ ?_
        refine TC.ret_ ?_
        refine TX.then_ret ?_
        exact ret_tmp Tryd.results6 rfl (fun w1 hw => ⟨rfl, hw.bel⟩)
      · have hn64 : n0 ≤ 64 := by have := of_decide_eq_false hc45; omega
        have he1 := Int.emod_nonneg x (show (65 - (n0 : Int)) ≠ 0 by omega)
        have he2 := Int.emod_lt_of_pos x (show 0 < (65 - (n0 : Int)) by omega)
        obtain ⟨z, hz⟩ := Int.eq_ofNat_of_zero_le he1
        have hz2 : n0 + z ≤ 64 := by rw [hz] at he2; omega
        refine TC.skip_ ?_
        refine TX.then_ ?_
        refine TC.seq_ ?_
        refine TC.held (ls := #[false, false, false, false, false, false, false, false, false, false]) (fun _ => True) (by kernel_rfl) rfl rfl (fun w hw => hw.drawn _) ?_
        refine TH.take (listed' := #[true, false, false, false, false, false, false, false, false, false]) 0 rfl (by kernel_rfl) (by kernel_rfl) (by kernel_rfl) rfl rfl rfl rfl (gives_move rfl rfl) (fun w hw => trivial) ?_
        refine TH.take (listed' := #[true, false, true, false, false, false, false, false, false, false]) 2 rfl (by kernel_rfl) (by kernel_rfl) (by kernel_rfl) rfl rfl rfl rfl (gives_move rfl rfl) (fun w hw => trivial) ?_
        refine TH.take (listed' := #[true, false, true, true, false, false, false, false, false, false]) 3 rfl (by kernel_rfl) (by kernel_rfl) (by kernel_rfl) rfl rfl rfl rfl (gives_conv rfl rfl (fun w => conv_fit Tryd.underlying3 Tryd.underlying5 (by simp only [IntKind.wrap_i64]; omega) w)) (fun w hw => trivial) ?_
        refine TH.take (listed' := #[true, false, true, true, true, false, false, false, false, false]) 4 rfl (by kernel_rfl) (by kernel_rfl) (by kernel_rfl) rfl rfl rfl rfl (gives_move rfl rfl) (fun w hw => trivial) ?_
        refine TH.take (listed' := #[true, false, true, true, true, true, false, false, false, false]) 5 rfl (by kernel_rfl) (by kernel_rfl) (by kernel_rfl) rfl rfl rfl rfl (gives_len rfl Tryd.underlying22 rfl) (fun w hw => trivial) ?_
        refine TH.take (listed' := #[true, false, true, true, true, true, true, false, false, false]) 6 rfl (by kernel_rfl) (by kernel_rfl) (by kernel_rfl) rfl rfl rfl rfl (gives_bin rfl rfl rfl (fun w => bin_sub_ (r := 65 - (n0 : Int)) (by simp only [IntKind.wrap_i64]; omega) w)) (fun w hw => trivial) ?_
        refine TH.take (listed' := #[true, false, true, true, true, true, true, true, false, false]) 7 rfl (by kernel_rfl) (by kernel_rfl) (by kernel_rfl) rfl rfl rfl rfl (gives_bin (v := .int .i64 (z : Int)) rfl rfl rfl (fun w => by rw [bin_remi hx.1 (by omega), hz])) (fun w hw => trivial) ?_
        refine TH.only (listed' := #[true, true, true, true, true, true, true, true, false, false]) 1 rfl (by kernel_rfl) rfl rfl ?_
        refine TL.nilrow 5 1 ?_
        refine TL.append (k := 0) rfl rfl rfl rfl elU8 rfl rfl rfl (fun w hw => pm_byt hw hb0) (bv_one l0) (by rw [Nat.mul_one]; omega) n0 (by omega) (fun A4 c4 hA41 hA42 => ?_)
        refine TL.end_ ?_
        refine TX.held (fun w hw => trivial) ?_
        refine TH.only (listed' := #[true, true, true, true, true, true, true, true, true, false]) 8 rfl (by kernel_rfl) rfl rfl ?_
        refine TL.zeros (k := 0) (m := z) rfl rfl rfl rfl elU8 Tryd.underlying3 rfl rfl rfl (z := .int .u8 0) (by kernel_rfl) (zs := bv (zeroL z)) (zero_cells z) zero_one (by rw [Nat.mul_one]; omega) (n0 + z) rfl (fun A5 c5 hA51 hA52 => ?_)
        refine TL.mem (I' := Pm w [.row (.slice A5 (n0 + z) c5) 5 1 (n0 + z) (bv (l0 ++ zeroL z)), .row (.slice A3 32 c3) 5 1 (32) (bv (macF l0 l1)), .row (.slice A2 32 c2) 5 1 (32) (bv (macF l0 l1))]) (fun w hw => by rw [bv_append]; exact hw) ?_
        refine TL.end_ ?_
        refine TX.held (fun w hw => trivial) ?_
        refine TH.take (listed' := #[true, true, true, true, true, true, true, true, true, true]) 9 rfl (by kernel_rfl) (by kernel_rfl) (by kernel_rfl) rfl rfl rfl rfl (gives_assign rfl rfl) (fun w hw => trivial) ?_
        refine TH.done (by kernel_rfl) ?_
        refine TX.then_ ?_
        refine TC.seq_ ?_
        refine TC.region ?_
        refine TL.val rfl rfl rfl (gives_move rfl rfl) ?_
        refine TL.val rfl rfl rfl (gives_move rfl rfl) ?_
        refine TL.val rfl rfl rfl (gives_move rfl rfl) ?_
        refine TL.pcallRow (n := 32) (ys := bv (macF (l0 ++ zeroL z) (l1))) rfl rfl rfl rfl rfl Tryd.func17 nmMac bdMac (fun w1 hw => mac_any A5 (n0 + z) c5 (l0 ++ zeroL z) A1 (n1) c1 (l1) w1 (byt_own (hw.at_ (k := 0) rfl) (hb0.2.app (zeroL_bs z))) ((hb1.below hw.bel).more hw.bel.size) (by omega) (by omega) (hst.below hw.bel hst.lt) (hky.below hw.bel hky.lt)) (fun A6 c6 hA61 hA62 => ?_)
        refine TL.pcall1 (r := .bool true) rfl rfl rfl rfl rfl Tryd.func8 nmEqual bdEqual (fun w1 hw => eq_trueE (macF_fill _ _ _ (by rw [hb0.len]; omega)).symm (requal_any A2 A6 32 c2 32 c6 _ _ w1 _ (byt_own (hw.at_ (k := 3) rfl) (macF_bs _ _)) (byt_own (hw.at_ (k := 0) rfl) (macF_bs _ _)) (by decide) (by decide))) ?_
        refine TL.val rfl rfl rfl (gives_assign rfl rfl) ?_
        refine TL.end_ ?_
        refine TX.then_ ?_
        refine TC.ret_ ?_
        exact ret_tmp Tryd.results6 rfl (fun w1 hw => ⟨rfl, hw.bel⟩)
theorem digestCodes_walk (A0 : Option Addr) (n0 c0 : Nat) (l0 : List Int) (A1 : Option Addr) (n1 c1 : Nat) (l1 : List Int) (x : Int) (w : World) (hb0 : Byt w w.heap.size A0 n0 l0) (hc0 : n0 ≤ c0) (hb1 : Byt w w.heap.size A1 n1 l1) (hc1 : n1 ≤ c1) (hx0 : (Lit.int .u8 x).wf = true) {ts tk : TypeId} (hst : Blk w 0 ts start8.cells) (hky : Blk w 1 tk (arrOf keysL)) :
    Calls Tryd.prog 6 #[.slice A0 n0 c0, .slice A1 n1 c1, .int .u8 x] w fun e w' => e = .returned (.bool true) ∧ Below w.heap.size w w' := by
  rcases Nat.lt_or_ge 300 n0 with h1 | h1
  · exact codesA A0 n0 c0 l0 A1 n1 c1 l1 x w hb0 hb1 (wf_u8 hx0) hst hky h1
  · rcases Nat.lt_or_ge 3000 n1 with h2 | h2
    · exact codesB A0 n0 c0 l0 A1 n1 c1 l1 x w hb0 hb1 (wf_u8 hx0) hst hky h1 h2
    · exact codesC A0 n0 c0 l0 A1 n1 c1 l1 x w hb0 hb1 (wf_u8 hx0) hst hky h1 h2
end Go.Proofs.YtllaojnnackhhaaDoor
