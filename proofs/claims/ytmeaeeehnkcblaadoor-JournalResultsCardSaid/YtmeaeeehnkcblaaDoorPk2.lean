/-
  Texts of the proof, joined: JrGet, JrEq, JrSmall, JrCur, JrCheck, JrRCheck, JrEnc.
-/
import Derived.Test.YtmeaeeehnkcblaaDoorPk1
import Derived.Test.YtmeaeeehnkcblaaDoorProg
import Derived.Laws.StructEq
import Derived.Laws.Tables
import Derived.Laws.Small
import Derived.Laws.Pointers
import Derived.Laws.Cover2
import Derived.WalkKit
import Derived.KernelRfl
namespace Go.Proofs.YtmeaeeehnkcblaaDoor
open Go.RowKit
set_option linter.unusedVariables false
set_option linter.unusedSimpArgs false
set_option maxRecDepth 20000
def getJ (l : List Int) (p k : Nat) : Int := if l.length < p + k then 0 else getN l p k
def getJE (l : List Int) (p k : Nat) : Int := if l.length < p + k then 3 else 0
theorem wrap_fit {m : Int} (h0 : 0 ≤ m) (h1 : m ≤ 9223372036854775807) : IntKind.i64.wrap m = m := by rw [IntKind.wrap_i64]; omega
theorem cut_pk (b0 o n c p k : Nat) (h : p + k ≤ c) (h1 : 1 ≤ k) (w : World) : (Instr.sliceAt 28 (.slice (some ⟨b0, o, none⟩) n c) (some (.int .i64 (p : Int))) (some (.int .i64 ((p + k : Nat) : Int))) none).run Tryd.prog w = .ok (.slice (some ⟨b0, o + p, none⟩) k (c - p)) w := by
 rw [cut_lh (size := 1) (lo := p) (hi := p + k) Tryd.underlying28 (fun w => rfl) _ _ _ rfl rfl (by omega) h w, if_neg (by omega), Nat.mul_one, Nat.add_sub_cancel_left]
 congr 2
 simp only [Option.map_some]
 congr 1
 congr 1
 unfold Addr.add; split <;> simp_all
set_option maxHeartbeats 1000000 in
theorem jget_short (A : Option Addr) (n c : Nat) (p k : Nat) (w : World) (hnc : n ≤ c) (hlim : n ≤ 140737488355328) (hk1 : 1 ≤ k) (hk7 : k ≤ 7) (hp9 : p ≤ 1000000000) (hp : n < p + k) :
  Calls Tryd.prog 65 #[.slice A n c, .int .i64 (p : Int), .int .i64 (k : Int)] w fun e w' => e = .returned (.tuple #[.int .i64 0, .int .i64 3]) ∧ Below w.heap.size w w' := by
 refine begin_ (vs := [.slice A n c, .int .i64 (p : Int), .int .i64 (k : Int)]) Tryd.func65 rfl rfl rfl ?_ (Pm.start w)
 refine TC.seq_ (TC.region ?_)
 refine TL.val rfl rfl rfl (gives_assign rfl rfl) ?_
 refine TL.val rfl rfl rfl (gives_assign rfl rfl) ?_
 refine TL.end_ (TX.then_ (TC.seq_ (TC.block (TC.seq_ (TC.region ?_)))))
 refine TL.val rfl rfl rfl (gives_move rfl rfl) ?_
 refine TL.vsplit rfl rfl rfl (gives_bin rfl rfl rfl (fun w => bin_lss w)) (fun h13 => ?_) (fun h13 => ?_)
 ·exact absurd (of_decide_eq_true h13) (by omega)
 ·iterate 4 (first | refine TL.on rfl rfl rfl ?_ | refine TL.val rfl rfl rfl (gives_move rfl rfl) ?_)
  refine TL.vsplit rfl rfl rfl (gives_bin rfl rfl rfl (fun w => bin_gtr w)) (fun h16 => ?_) (fun h16 => ?_)
  ·exact absurd (of_decide_eq_true h16) (by omega)
  ·iterate 5 (first | refine TL.on rfl rfl rfl ?_ | refine TL.val rfl rfl rfl (gives_move rfl rfl) ?_ | refine TL.val rfl rfl rfl (gives_pick rfl rfl rfl) ?_)
   refine TL.vsplit rfl rfl rfl (gives_bin rfl rfl rfl (fun w => bin_lss w)) (fun h20 => ?_) (fun h20 => ?_)
   ·exact absurd (of_decide_eq_true h20) (by omega)
   ·refine TL.val rfl rfl rfl (gives_pick rfl rfl rfl) ?_
    refine TL.val rfl rfl rfl (gives_assign rfl rfl) ?_
    refine TL.end_ (TX.then_ (TC.condF rfl (TC.seq_ (TC.region ?_))))
    refine TL.val rfl rfl rfl (gives_move rfl rfl) ?_
    refine TL.val rfl rfl rfl (gives_move rfl rfl) ?_
    refine TL.val rfl rfl rfl (gives_len rfl Tryd.underlying28 rfl) ?_
    refine TL.val rfl rfl rfl (gives_move rfl rfl) ?_
    refine TL.val rfl rfl rfl (gives_bin rfl rfl rfl (fun w => bin_sub_ (r := (n : Int) - (k : Int)) (by simp only [IntKind.wrap_i64]; omega) w)) ?_
    refine TL.vsplit rfl rfl rfl (gives_bin rfl rfl rfl (fun w => bin_gtr w)) (fun h28 => ?_) (fun h28 => ?_)
    ·refine TL.val rfl rfl rfl (gives_assign rfl rfl) ?_
     refine TL.end_ (TX.then_ (TC.condT rfl (TC.seq_ (TC.region ?_))))
     refine TL.val rfl rfl rfl (gives_assign rfl rfl) ?_
     refine TL.val rfl rfl rfl (gives_assign rfl rfl) ?_
     refine TL.end_ (TX.then_ (TC.ret_ (TX.in_ret (TX.then_ret ?_))))
     exact ret_pair (v1 := .int .i64 0) (v2 := .int .i64 3) Tryd.results65 rfl rfl (fun w1 hw => ⟨rfl, hw.bel⟩)
    ·exact absurd (of_decide_eq_false h28) (by omega)
set_option maxHeartbeats 1000000 in
theorem jget_ok (b0 o : Nat) (n c : Nat) (l : List Int) (p k : Nat) (w : World) (hb : Byt w w.heap.size (some ⟨b0, o, none⟩) n l) (hnc : n ≤ c) (hlim : n ≤ 140737488355328) (hk1 : 1 ≤ k) (hk7 : k ≤ 7) (hp : p + k ≤ n) :
  Calls Tryd.prog 65 #[.slice (some ⟨b0, o, none⟩) n c, .int .i64 (p : Int), .int .i64 (k : Int)] w fun e w' => e = .returned (.tuple #[.int .i64 (getN l p k), .int .i64 0]) ∧ Below w.heap.size w w' := by
 have hln : l.length = n := hb.len
 refine begin_ (vs := [.slice (some ⟨b0, o, none⟩) n c, .int .i64 (p : Int), .int .i64 (k : Int)]) Tryd.func65 rfl rfl rfl ?_ (Pm.start w)
 refine TC.seq_ (TC.region ?_)
 refine TL.val rfl rfl rfl (gives_assign rfl rfl) ?_
 refine TL.val rfl rfl rfl (gives_assign rfl rfl) ?_
 refine TL.end_ (TX.then_ (TC.seq_ (TC.block (TC.seq_ (TC.region ?_)))))
 refine TL.val rfl rfl rfl (gives_move rfl rfl) ?_
 refine TL.vsplit rfl rfl rfl (gives_bin rfl rfl rfl (fun w => bin_lss w)) (fun h13 => ?_) (fun h13 => ?_)
 ·exact absurd (of_decide_eq_true h13) (by omega)
 ·iterate 4 (first | refine TL.on rfl rfl rfl ?_ | refine TL.val rfl rfl rfl (gives_move rfl rfl) ?_)
  refine TL.vsplit rfl rfl rfl (gives_bin rfl rfl rfl (fun w => bin_gtr w)) (fun h16 => ?_) (fun h16 => ?_)
  ·exact absurd (of_decide_eq_true h16) (by omega)
  ·iterate 5 (first | refine TL.on rfl rfl rfl ?_ | refine TL.val rfl rfl rfl (gives_move rfl rfl) ?_ | refine TL.val rfl rfl rfl (gives_pick rfl rfl rfl) ?_)
   refine TL.vsplit rfl rfl rfl (gives_bin rfl rfl rfl (fun w => bin_lss w)) (fun h20 => ?_) (fun h20 => ?_)
   ·exact absurd (of_decide_eq_true h20) (by omega)
   ·refine TL.val rfl rfl rfl (gives_pick rfl rfl rfl) ?_
    refine TL.val rfl rfl rfl (gives_assign rfl rfl) ?_
    refine TL.end_ (TX.then_ (TC.condF rfl (TC.seq_ (TC.region ?_))))
    refine TL.val rfl rfl rfl (gives_move rfl rfl) ?_
    refine TL.val rfl rfl rfl (gives_move rfl rfl) ?_
    refine TL.val rfl rfl rfl (gives_len rfl Tryd.underlying28 rfl) ?_
    refine TL.val rfl rfl rfl (gives_move rfl rfl) ?_
    refine TL.val rfl rfl rfl (gives_bin rfl rfl rfl (fun w => bin_sub_ (r := (n : Int) - (k : Int)) (by simp only [IntKind.wrap_i64]; omega) w)) ?_
    refine TL.vsplit rfl rfl rfl (gives_bin rfl rfl rfl (fun w => bin_gtr w)) (fun h28 => ?_) (fun h28 => ?_)
    ·exact absurd (of_decide_eq_true h28) (by omega)
    ·refine TL.val rfl rfl rfl (gives_assign rfl rfl) ?_
     refine TL.end_ (TX.then_ (TC.condF rfl (TC.skip_ (TX.in_normal (TX.then_ (TC.seq_ (TC.region ?_)))))))
     refine TL.val rfl rfl rfl (gives_assign rfl rfl) ?_
     refine TL.end_ (TX.then_ (TC.seq_ (TC.seq_ (TC.region ?_))))
     iterate 4 (first | refine TL.val rfl rfl rfl (gives_move rfl rfl) ?_)
     refine TL.val rfl rfl rfl (gives_bin rfl rfl rfl (fun w => bin_add_ (r := ((p + k : Nat) : Int)) (by simp only [IntKind.wrap_i64]; omega) w)) ?_
     refine TL.val rfl rfl rfl (gives_slice (v := .slice (some ⟨b0, o + p, none⟩) k (c - p)) rfl rfl rfl rfl (fun w => cut_pk b0 o n c p k (by omega) (by omega) w)) ?_
     refine TL.val rfl rfl rfl (gives_len rfl Tryd.underlying28 rfl) ?_
     refine TL.val rfl rfl rfl (gives_move rfl rfl) ?_
     refine TL.end_ (TX.then_ (TC.block ?_))
     refine TC.loop_ (α := {i : Nat // i ≤ k}) (fun x => [(34, .slice (some ⟨b0, o + p, none⟩) k (c - p)), (35, .int .i64 (k : Int)), (36, .int .i64 (x.1 : Int)), (8, .int .i64 (be ((l.drop p).take x.1)))]) (fun x => Pm w []) (fun x => k - x.1) (⟨0, Nat.zero_le _⟩) ⟨rfl, rfl, rfl, rfl, trivial⟩ (fun w hw => hw) ?_
     rintro ⟨i, hi⟩
     dsimp only at hi ⊢
     refine TC.seq_ (TC.region ?_)
     refine TL.vsplit rfl rfl rfl (gives_bin rfl rfl rfl (fun w => bin_lss w)) (fun h37 => ?_) (fun h37 => ?_)
     ·have hi2 : i < k := by have := of_decide_eq_true h37; omega
      obtain ⟨y, hl, hy0, hy1, hy⟩ := byt_cellU hb (k := p + i) (by omega)
      have hbB := byt_block hb (k := p + i) (by omega)
      have hdl : (l.drop p)[i]? = some y := by rw [List.getElem?_drop]; exact hl
      obtain ⟨hq0, hq1⟩ := be_bd7 ((l.drop p).take i) ((hb.2.drop p).take i) (by rw [List.length_take]; omega)
      refine TL.end_ (TX.then_ (TC.seq_ (TC.condT rfl (TC.skip_ (TX.then_ (TC.seq_ (TC.block (TC.seq_ (TC.region ?_)))))))))
      refine TL.val rfl rfl rfl (gives_at rfl rfl rfl (fun w => at_u8 b0 (o + p) k (c - p) i hi2 w)) ?_
      refine TL.val rfl rfl rfl (gives_load rfl rfl (fun w => rfl) (fun w1 hw => (hw.bel.cell (p := ⟨b0, o + p + i, none⟩) hbB).trans (by rw [Nat.add_assoc]; exact hy))) ?_
      refine TL.val rfl rfl rfl (gives_assign rfl rfl) ?_
      refine TL.end_ (TX.then_ (TC.region ?_))
      refine TL.val rfl rfl rfl (gives_move rfl rfl) ?_
      refine TL.val rfl rfl rfl (gives_bin (v := .int .i64 (be ((l.drop p).take i) * 256)) rfl rfl rfl (fun w => by rw [bin_shl 256 (by decide) (by decide) rfl w, wrap_fit (by omega) (by omega)])) ?_
      refine TL.val rfl rfl rfl (gives_move rfl rfl) ?_
      refine TL.val rfl rfl rfl (gives_conv rfl rfl (fun w => conv_fit Tryd.underlying3 Tryd.underlying5 (by simp only [IntKind.wrap_i64]; omega) w)) ?_
      refine TL.val rfl rfl rfl (gives_bin (v := .int .i64 (be ((l.drop p).take i) * 256 + y)) rfl rfl rfl (fun w => (or_256 _ y hq0 hq1 hy0 hy1 ▸ bin_bits (.inr (.inl rfl)) w))) ?_
      refine TL.val rfl rfl rfl (gives_assign rfl rfl) ?_
      refine TL.end_ (TX.in_normal (TX.then_ (TC.region ?_)))
      refine TL.val rfl rfl rfl (gives_bin rfl rfl rfl (fun w => bin_add_ (r := ((i + 1 : Nat) : Int)) (by simp only [IntKind.wrap_i64]; omega) w)) ?_
      refine TL.val rfl rfl rfl (gives_move rfl rfl) ?_
      refine TL.end_ ?_
      exact TX.round (⟨i + 1, hi2⟩) (by show k - (i + 1) < k - i; omega) ⟨rfl, rfl, rfl, by rw [be_take _ i y hdl]; rfl, trivial⟩ (fun w hw => hw)
     ·have hi2 : k = i := by have := of_decide_eq_false h37; omega
      subst hi2
      refine TL.end_ (TX.then_ (TC.seq_ (TC.condF rfl (TC.exit_ (TX.then_exit (TX.then_exit (TX.in_same (TX.then_ (TC.seq_ (TC.region ?_))))))))))
      refine TL.val rfl rfl rfl (gives_move rfl rfl) ?_
      refine TL.val rfl rfl rfl (gives_assign rfl rfl) ?_
      refine TL.val rfl rfl rfl (gives_assign rfl rfl) ?_
      refine TL.end_ (TX.then_ (TC.ret_ ?_))
      exact ret_pair (v1 := .int .i64 (getN l p k)) (v2 := .int .i64 0) Tryd.results65 rfl rfl (fun w1 hw => ⟨rfl, hw.bel⟩)
theorem jget (A : Option Addr) (n c : Nat) (l : List Int) (p k : Nat) (w : World) (hb : Byt w w.heap.size A n l) (hnc : n ≤ c) (hlim : n ≤ 140737488355328) (hk1 : 1 ≤ k) (hk7 : k ≤ 7) (hp9 : p ≤ 1000000000) :
  Calls Tryd.prog 65 #[.slice A n c, .int .i64 (p : Int), .int .i64 (k : Int)] w fun e w' => e = .returned (.tuple #[.int .i64 (getJ l p k), .int .i64 (getJE l p k)]) ∧ Below w.heap.size w w' := by
 unfold getJ getJE
 rw [hb.len]
 by_cases h : n < p + k
 ·rw [if_pos h, if_pos h]; exact jget_short A n c p k w hnc hlim hk1 hk7 hp9 h
 ·rw [if_neg h, if_neg h]
  obtain ⟨b0, o, x, rfl, _⟩ := hb.at' (k := 0) (by omega)
  exact jget_ok b0 o n c l p k w hb hnc hlim hk1 hk7 (by omega)
set_option maxHeartbeats 1000000 in
theorem jrget_short (A : Option Addr) (n c : Nat) (p k : Nat) (w : World) (hnc : n ≤ c) (hlim : n ≤ 140737488355328) (hk1 : 1 ≤ k) (hk7 : k ≤ 7) (hp9 : p ≤ 1000000000) (hp : n < p + k) :
  Calls Tryd.prog 66 #[.slice A n c, .int .i64 (p : Int), .int .i64 (k : Int)] w fun e w' => e = .returned (.tuple #[.int .i64 0, .int .i64 3]) ∧ Below w.heap.size w w' := by
 refine begin_ (vs := [.slice A n c, .int .i64 (p : Int), .int .i64 (k : Int)]) Tryd.func66 rfl rfl rfl ?_ (Pm.start w)
 refine TC.seq_ (TC.region ?_)
 refine TL.val rfl rfl rfl (gives_assign rfl rfl) ?_
 refine TL.val rfl rfl rfl (gives_assign rfl rfl) ?_
 refine TL.end_ (TX.then_ (TC.seq_ (TC.seq_ (TC.region ?_))))
 refine TL.val rfl rfl rfl (gives_move rfl rfl) ?_
 refine TL.vsplit rfl rfl rfl (gives_bin rfl rfl rfl (fun w => bin_lss w)) (fun h11 => ?_) (fun h11 => ?_)
 ·exact absurd (of_decide_eq_true h11) (by omega)
 ·iterate 4 (first | refine TL.on rfl rfl rfl ?_ | refine TL.val rfl rfl rfl (gives_move rfl rfl) ?_)
  refine TL.vsplit rfl rfl rfl (gives_bin rfl rfl rfl (fun w => bin_gtr w)) (fun h14 => ?_) (fun h14 => ?_)
  ·exact absurd (of_decide_eq_true h14) (by omega)
  ·iterate 5 (first | refine TL.on rfl rfl rfl ?_ | refine TL.val rfl rfl rfl (gives_move rfl rfl) ?_ | refine TL.val rfl rfl rfl (gives_pick rfl rfl rfl) ?_)
   refine TL.vsplit rfl rfl rfl (gives_bin rfl rfl rfl (fun w => bin_lss w)) (fun h18 => ?_) (fun h18 => ?_)
   ·exact absurd (of_decide_eq_true h18) (by omega)
   ·refine TL.val rfl rfl rfl (gives_pick rfl rfl rfl) ?_
    refine TL.end_ (TX.then_ (TC.condF rfl (TC.skip_ (TX.then_ (TC.seq_ (TC.seq_ (TC.region ?_)))))))
    refine TL.val rfl rfl rfl (gives_move rfl rfl) ?_
    refine TL.val rfl rfl rfl (gives_move rfl rfl) ?_
    refine TL.val rfl rfl rfl (gives_len rfl Tryd.underlying28 rfl) ?_
    refine TL.vsplit rfl rfl rfl (gives_bin rfl rfl rfl (fun w => bin_gtr w)) (fun h23 => ?_) (fun h23 => ?_)
    ·iterate 8 (first | refine TL.off rfl rfl rfl rfl rfl rfl ?_ | refine TL.val rfl rfl rfl (gives_move rfl rfl) ?_ | refine TL.val rfl rfl rfl (gives_pick rfl rfl rfl) ?_)
     refine TL.end_ (TX.then_ (TC.condT rfl (TC.seq_ (TC.region ?_))))
     refine TL.val rfl rfl rfl (gives_assign rfl rfl) ?_
     refine TL.val rfl rfl rfl (gives_assign rfl rfl) ?_
     refine TL.end_ (TX.then_ (TC.ret_ (TX.then_ret ?_)))
     exact ret_pair (v1 := .int .i64 0) (v2 := .int .i64 3) Tryd.results66 rfl rfl (fun w1 hw => ⟨rfl, hw.bel⟩)
    ·iterate 4 (first | refine TL.on rfl rfl rfl ?_ | refine TL.val rfl rfl rfl (gives_move rfl rfl) ?_)
     refine TL.val rfl rfl rfl (gives_len rfl Tryd.underlying28 rfl) ?_
     refine TL.on rfl rfl rfl ?_
     refine TL.val rfl rfl rfl (gives_move rfl rfl) ?_
     refine TL.on rfl rfl rfl ?_
     refine TL.val rfl rfl rfl (gives_bin rfl rfl rfl (fun w => bin_sub_ (r := (n : Int) - (p : Int)) (by simp only [IntKind.wrap_i64]; omega) w)) ?_
     refine TL.on rfl rfl rfl ?_
     refine TL.val rfl rfl rfl (gives_move rfl rfl) ?_
     refine TL.on rfl rfl rfl ?_
     refine TL.vsplit rfl rfl rfl (gives_bin rfl rfl rfl (fun w => bin_lss w)) (fun h30 => ?_) (fun h30 => ?_)
     ·refine TL.val rfl rfl rfl (gives_pick rfl rfl rfl) ?_
      refine TL.end_ (TX.then_ (TC.condT rfl (TC.seq_ (TC.region ?_))))
      refine TL.val rfl rfl rfl (gives_assign rfl rfl) ?_
      refine TL.val rfl rfl rfl (gives_assign rfl rfl) ?_
      refine TL.end_ (TX.then_ (TC.ret_ (TX.then_ret ?_)))
      exact ret_pair (v1 := .int .i64 0) (v2 := .int .i64 3) Tryd.results66 rfl rfl (fun w1 hw => ⟨rfl, hw.bel⟩)
     ·exact absurd (of_decide_eq_false h30) (by omega)
set_option maxHeartbeats 1000000 in
theorem jrget_ok (b0 o : Nat) (n c : Nat) (l : List Int) (p k : Nat) (w : World) (hb : Byt w w.heap.size (some ⟨b0, o, none⟩) n l) (hnc : n ≤ c) (hlim : n ≤ 140737488355328) (hk1 : 1 ≤ k) (hk7 : k ≤ 7) (hp : p + k ≤ n) :
  Calls Tryd.prog 66 #[.slice (some ⟨b0, o, none⟩) n c, .int .i64 (p : Int), .int .i64 (k : Int)] w fun e w' => e = .returned (.tuple #[.int .i64 (getN l p k), .int .i64 0]) ∧ Below w.heap.size w w' := by
 have hln : l.length = n := hb.len
 refine begin_ (vs := [.slice (some ⟨b0, o, none⟩) n c, .int .i64 (p : Int), .int .i64 (k : Int)]) Tryd.func66 rfl rfl rfl ?_ (Pm.start w)
 refine TC.seq_ (TC.region ?_)
 refine TL.val rfl rfl rfl (gives_assign rfl rfl) ?_
 refine TL.val rfl rfl rfl (gives_assign rfl rfl) ?_
 refine TL.end_ (TX.then_ (TC.seq_ (TC.seq_ (TC.region ?_))))
 refine TL.val rfl rfl rfl (gives_move rfl rfl) ?_
 refine TL.vsplit rfl rfl rfl (gives_bin rfl rfl rfl (fun w => bin_lss w)) (fun h11 => ?_) (fun h11 => ?_)
 ·exact absurd (of_decide_eq_true h11) (by omega)
 ·iterate 4 (first | refine TL.on rfl rfl rfl ?_ | refine TL.val rfl rfl rfl (gives_move rfl rfl) ?_)
  refine TL.vsplit rfl rfl rfl (gives_bin rfl rfl rfl (fun w => bin_gtr w)) (fun h14 => ?_) (fun h14 => ?_)
  ·exact absurd (of_decide_eq_true h14) (by omega)
  ·iterate 5 (first | refine TL.on rfl rfl rfl ?_ | refine TL.val rfl rfl rfl (gives_move rfl rfl) ?_ | refine TL.val rfl rfl rfl (gives_pick rfl rfl rfl) ?_)
   refine TL.vsplit rfl rfl rfl (gives_bin rfl rfl rfl (fun w => bin_lss w)) (fun h18 => ?_) (fun h18 => ?_)
   ·exact absurd (of_decide_eq_true h18) (by omega)
   ·refine TL.val rfl rfl rfl (gives_pick rfl rfl rfl) ?_
    refine TL.end_ (TX.then_ (TC.condF rfl (TC.skip_ (TX.then_ (TC.seq_ (TC.seq_ (TC.region ?_)))))))
    refine TL.val rfl rfl rfl (gives_move rfl rfl) ?_
    refine TL.val rfl rfl rfl (gives_move rfl rfl) ?_
    refine TL.val rfl rfl rfl (gives_len rfl Tryd.underlying28 rfl) ?_
    refine TL.vsplit rfl rfl rfl (gives_bin rfl rfl rfl (fun w => bin_gtr w)) (fun h23 => ?_) (fun h23 => ?_)
    ·exact absurd (of_decide_eq_true h23) (by omega)
    ·iterate 4 (first | refine TL.on rfl rfl rfl ?_ | refine TL.val rfl rfl rfl (gives_move rfl rfl) ?_)
     refine TL.val rfl rfl rfl (gives_len rfl Tryd.underlying28 rfl) ?_
     refine TL.on rfl rfl rfl ?_
     refine TL.val rfl rfl rfl (gives_move rfl rfl) ?_
     refine TL.on rfl rfl rfl ?_
     refine TL.val rfl rfl rfl (gives_bin rfl rfl rfl (fun w => bin_sub_ (r := (n : Int) - (p : Int)) (by simp only [IntKind.wrap_i64]; omega) w)) ?_
     refine TL.on rfl rfl rfl ?_
     refine TL.val rfl rfl rfl (gives_move rfl rfl) ?_
     refine TL.on rfl rfl rfl ?_
     refine TL.vsplit rfl rfl rfl (gives_bin rfl rfl rfl (fun w => bin_lss w)) (fun h30 => ?_) (fun h30 => ?_)
     ·exact absurd (of_decide_eq_true h30) (by omega)
     ·refine TL.val rfl rfl rfl (gives_pick rfl rfl rfl) ?_
      refine TL.end_ (TX.then_ (TC.condF rfl (TC.skip_ (TX.then_ (TC.seq_ (TC.region ?_))))))
      refine TL.val rfl rfl rfl (gives_assign rfl rfl) ?_
      refine TL.end_ (TX.then_ (TC.seq_ (TC.seq_ (TC.region ?_))))
      refine TL.val rfl rfl rfl (gives_assign rfl rfl) ?_
      refine TL.end_ (TX.then_ (TC.block ?_))
      refine TC.loop_ (α := {i : Nat // i ≤ k}) (fun x => [(0, .slice (some ⟨b0, o, none⟩) n c), (1, .int .i64 (p : Int)), (2, .int .i64 (k : Int)), (9, .int .i64 (x.1 : Int)), (8, .int .i64 (be ((l.drop p).take x.1)))]) (fun x => Pm w []) (fun x => k - x.1) (⟨0, Nat.zero_le _⟩) ⟨rfl, rfl, rfl, rfl, rfl, trivial⟩ (fun w hw => hw) ?_
      rintro ⟨i, hi⟩
      dsimp only at hi ⊢
      refine TC.seq_ (TC.seq_ (TC.region ?_))
      refine TL.val rfl rfl rfl (gives_move rfl rfl) ?_
      refine TL.val rfl rfl rfl (gives_move rfl rfl) ?_
      refine TL.vsplit rfl rfl rfl (gives_bin rfl rfl rfl (fun w => bin_lss w)) (fun h34 => ?_) (fun h34 => ?_)
      ·have hi2 : i < k := by have := of_decide_eq_true h34; omega
       obtain ⟨y, hl, hy0, hy1, hy⟩ := byt_cellU hb (k := p + i) (by omega)
       have hbB := byt_block hb (k := p + i) (by omega)
       have hdl : (l.drop p)[i]? = some y := by rw [List.getElem?_drop]; exact hl
       obtain ⟨hq0, hq1⟩ := be_bd7 ((l.drop p).take i) ((hb.2.drop p).take i) (by rw [List.length_take]; omega)
       refine TL.end_ (TX.then_ (TC.condT rfl (TC.skip_ (TX.then_ (TC.seq_ (TC.block (TC.region ?_)))))))
       refine TL.val rfl rfl rfl (gives_move rfl rfl) ?_
       refine TL.val rfl rfl rfl (gives_bin (v := .int .i64 (be ((l.drop p).take i) * 256)) rfl rfl rfl (fun w => by rw [bin_shl 256 (by decide) (by decide) rfl w, wrap_fit (by omega) (by omega)])) ?_
       refine TL.val rfl rfl rfl (gives_move rfl rfl) ?_
       refine TL.val rfl rfl rfl (gives_move rfl rfl) ?_
       refine TL.val rfl rfl rfl (gives_move rfl rfl) ?_
       refine TL.val rfl rfl rfl (gives_bin rfl rfl rfl (fun w => bin_add_ (r := ((p + i : Nat) : Int)) (by simp only [IntKind.wrap_i64]; omega) w)) ?_
       refine TL.val rfl rfl rfl (gives_at rfl rfl rfl (fun w => at_u8 b0 o n c (p + i) (by omega) w)) ?_
       refine TL.val rfl rfl rfl (gives_load rfl rfl (fun w => rfl) (fun w1 hw => (hw.bel.cell (p := ⟨b0, o + (p + i), none⟩) hbB).trans hy)) ?_
       refine TL.val rfl rfl rfl (gives_conv rfl rfl (fun w => conv_fit Tryd.underlying3 Tryd.underlying5 (by simp only [IntKind.wrap_i64]; omega) w)) ?_
       refine TL.val rfl rfl rfl (gives_bin (v := .int .i64 (be ((l.drop p).take i) * 256 + y)) rfl rfl rfl (fun w => (or_256 _ y hq0 hq1 hy0 hy1 ▸ bin_bits (.inr (.inl rfl)) w))) ?_
       refine TL.val rfl rfl rfl (gives_assign rfl rfl) ?_
       refine TL.end_ (TX.in_normal (TX.then_ (TC.region ?_)))
       refine TL.val rfl rfl rfl (gives_move rfl rfl) ?_
       refine TL.val rfl rfl rfl (gives_bin rfl rfl rfl (fun w => bin_add_ (r := ((i + 1 : Nat) : Int)) (by simp only [IntKind.wrap_i64]; omega) w)) ?_
       refine TL.val rfl rfl rfl (gives_assign rfl rfl) ?_
       refine TL.end_ ?_
       exact TX.round (⟨i + 1, hi2⟩) (by show k - (i + 1) < k - i; omega) ⟨rfl, rfl, rfl, rfl, by rw [be_take _ i y hdl]; rfl, trivial⟩ (fun w hw => hw)
      ·have hi2 : k = i := by have := of_decide_eq_false h34; omega
       subst hi2
       refine TL.end_ (TX.then_ (TC.condF rfl (TC.exit_ (TX.then_exit (TX.then_exit (TX.in_same (TX.then_ (TC.seq_ (TC.region ?_)))))))))
       refine TL.val rfl rfl rfl (gives_move rfl rfl) ?_
       refine TL.val rfl rfl rfl (gives_assign rfl rfl) ?_
       refine TL.val rfl rfl rfl (gives_assign rfl rfl) ?_
       refine TL.end_ (TX.then_ (TC.ret_ ?_))
       exact ret_pair (v1 := .int .i64 (getN l p k)) (v2 := .int .i64 0) Tryd.results66 rfl rfl (fun w1 hw => ⟨rfl, hw.bel⟩)
theorem jrget (A : Option Addr) (n c : Nat) (l : List Int) (p k : Nat) (w : World) (hb : Byt w w.heap.size A n l) (hnc : n ≤ c) (hlim : n ≤ 140737488355328) (hk1 : 1 ≤ k) (hk7 : k ≤ 7) (hp9 : p ≤ 1000000000) :
  Calls Tryd.prog 66 #[.slice A n c, .int .i64 (p : Int), .int .i64 (k : Int)] w fun e w' => e = .returned (.tuple #[.int .i64 (getJ l p k), .int .i64 (getJE l p k)]) ∧ Below w.heap.size w w' := by
 unfold getJ getJE
 rw [hb.len]
 by_cases h : n < p + k
 ·rw [if_pos h, if_pos h]; exact jrget_short A n c p k w hnc hlim hk1 hk7 hp9 h
 ·rw [if_neg h, if_neg h]
  obtain ⟨b0, o, x, rfl, _⟩ := hb.at' (k := 0) (by omega)
  exact jrget_ok b0 o n c l p k w hb hnc hlim hk1 hk7 (by omega)
set_option maxHeartbeats 1000000 in
theorem sget_short (A : Option Addr) (n c : Nat) (p k : Nat) (w : World) (hnc : n ≤ c) (hlim : n ≤ 140737488355328) (hk1 : 1 ≤ k) (hk7 : k ≤ 7) (hp9 : p ≤ 1000000000) (hp : n < p + k) :
  Calls Tryd.prog 66 #[.slice A n c, .int .i64 (p : Int), .int .i64 (k : Int)] w fun e w' => e = .returned (.tuple #[.int .i64 0, .int .i64 3]) ∧ w' = w := by
 refine begin_ (vs := [.slice A n c, .int .i64 (p : Int), .int .i64 (k : Int)]) (I := fun w1 => w1 = w) Tryd.func66 rfl rfl rfl ?_ rfl
 refine TC.seq_ (TC.region ?_)
 refine TL.val rfl rfl rfl (gives_assign rfl rfl) ?_
 refine TL.val rfl rfl rfl (gives_assign rfl rfl) ?_
 refine TL.end_ (TX.then_ (TC.seq_ (TC.seq_ (TC.region ?_))))
 refine TL.val rfl rfl rfl (gives_move rfl rfl) ?_
 refine TL.vsplit rfl rfl rfl (gives_bin rfl rfl rfl (fun w => bin_lss w)) (fun h11 => ?_) (fun h11 => ?_)
 ·exact absurd (of_decide_eq_true h11) (by omega)
 ·iterate 4 (first | refine TL.on rfl rfl rfl ?_ | refine TL.val rfl rfl rfl (gives_move rfl rfl) ?_)
  refine TL.vsplit rfl rfl rfl (gives_bin rfl rfl rfl (fun w => bin_gtr w)) (fun h14 => ?_) (fun h14 => ?_)
  ·exact absurd (of_decide_eq_true h14) (by omega)
  ·iterate 5 (first | refine TL.on rfl rfl rfl ?_ | refine TL.val rfl rfl rfl (gives_move rfl rfl) ?_ | refine TL.val rfl rfl rfl (gives_pick rfl rfl rfl) ?_)
   refine TL.vsplit rfl rfl rfl (gives_bin rfl rfl rfl (fun w => bin_lss w)) (fun h18 => ?_) (fun h18 => ?_)
   ·exact absurd (of_decide_eq_true h18) (by omega)
   ·refine TL.val rfl rfl rfl (gives_pick rfl rfl rfl) ?_
    refine TL.end_ (TX.then_ (TC.condF rfl (TC.skip_ (TX.then_ (TC.seq_ (TC.seq_ (TC.region ?_)))))))
    refine TL.val rfl rfl rfl (gives_move rfl rfl) ?_
    refine TL.val rfl rfl rfl (gives_move rfl rfl) ?_
    refine TL.val rfl rfl rfl (gives_len rfl Tryd.underlying28 rfl) ?_
    refine TL.vsplit rfl rfl rfl (gives_bin rfl rfl rfl (fun w => bin_gtr w)) (fun h23 => ?_) (fun h23 => ?_)
    ·iterate 8 (first | refine TL.off rfl rfl rfl rfl rfl rfl ?_ | refine TL.val rfl rfl rfl (gives_move rfl rfl) ?_ | refine TL.val rfl rfl rfl (gives_pick rfl rfl rfl) ?_)
     refine TL.end_ (TX.then_ (TC.condT rfl (TC.seq_ (TC.region ?_))))
     refine TL.val rfl rfl rfl (gives_assign rfl rfl) ?_
     refine TL.val rfl rfl rfl (gives_assign rfl rfl) ?_
     refine TL.end_ (TX.then_ (TC.ret_ (TX.then_ret ?_)))
     exact ret_pair (v1 := .int .i64 0) (v2 := .int .i64 3) Tryd.results66 rfl rfl (fun w1 hw => ⟨rfl, hw⟩)
    ·iterate 4 (first | refine TL.on rfl rfl rfl ?_ | refine TL.val rfl rfl rfl (gives_move rfl rfl) ?_)
     refine TL.val rfl rfl rfl (gives_len rfl Tryd.underlying28 rfl) ?_
     refine TL.on rfl rfl rfl ?_
     refine TL.val rfl rfl rfl (gives_move rfl rfl) ?_
     refine TL.on rfl rfl rfl ?_
     refine TL.val rfl rfl rfl (gives_bin rfl rfl rfl (fun w => bin_sub_ (r := (n : Int) - (p : Int)) (by simp only [IntKind.wrap_i64]; omega) w)) ?_
     refine TL.on rfl rfl rfl ?_
     refine TL.val rfl rfl rfl (gives_move rfl rfl) ?_
     refine TL.on rfl rfl rfl ?_
     refine TL.vsplit rfl rfl rfl (gives_bin rfl rfl rfl (fun w => bin_lss w)) (fun h30 => ?_) (fun h30 => ?_)
     ·refine TL.val rfl rfl rfl (gives_pick rfl rfl rfl) ?_
      refine TL.end_ (TX.then_ (TC.condT rfl (TC.seq_ (TC.region ?_))))
      refine TL.val rfl rfl rfl (gives_assign rfl rfl) ?_
      refine TL.val rfl rfl rfl (gives_assign rfl rfl) ?_
      refine TL.end_ (TX.then_ (TC.ret_ (TX.then_ret ?_)))
      exact ret_pair (v1 := .int .i64 0) (v2 := .int .i64 3) Tryd.results66 rfl rfl (fun w1 hw => ⟨rfl, hw⟩)
     ·exact absurd (of_decide_eq_false h30) (by omega)
set_option maxHeartbeats 1000000 in
theorem sget_ok (b0 o : Nat) (n c : Nat) (l : List Int) (p k : Nat) (w : World) (hb : Byt w w.heap.size (some ⟨b0, o, none⟩) n l) (hnc : n ≤ c) (hlim : n ≤ 140737488355328) (hk1 : 1 ≤ k) (hk7 : k ≤ 7) (hp : p + k ≤ n) :
  Calls Tryd.prog 66 #[.slice (some ⟨b0, o, none⟩) n c, .int .i64 (p : Int), .int .i64 (k : Int)] w fun e w' => e = .returned (.tuple #[.int .i64 (getN l p k), .int .i64 0]) ∧ w' = w := by
 have hln : l.length = n := hb.len
 refine begin_ (vs := [.slice (some ⟨b0, o, none⟩) n c, .int .i64 (p : Int), .int .i64 (k : Int)]) (I := fun w1 => w1 = w) Tryd.func66 rfl rfl rfl ?_ rfl
 refine TC.seq_ (TC.region ?_)
 refine TL.val rfl rfl rfl (gives_assign rfl rfl) ?_
 refine TL.val rfl rfl rfl (gives_assign rfl rfl) ?_
 refine TL.end_ (TX.then_ (TC.seq_ (TC.seq_ (TC.region ?_))))
 refine TL.val rfl rfl rfl (gives_move rfl rfl) ?_
 refine TL.vsplit rfl rfl rfl (gives_bin rfl rfl rfl (fun w => bin_lss w)) (fun h11 => ?_) (fun h11 => ?_)
 ·exact absurd (of_decide_eq_true h11) (by omega)
 ·iterate 4 (first | refine TL.on rfl rfl rfl ?_ | refine TL.val rfl rfl rfl (gives_move rfl rfl) ?_)
  refine TL.vsplit rfl rfl rfl (gives_bin rfl rfl rfl (fun w => bin_gtr w)) (fun h14 => ?_) (fun h14 => ?_)
  ·exact absurd (of_decide_eq_true h14) (by omega)
  ·iterate 5 (first | refine TL.on rfl rfl rfl ?_ | refine TL.val rfl rfl rfl (gives_move rfl rfl) ?_ | refine TL.val rfl rfl rfl (gives_pick rfl rfl rfl) ?_)
   refine TL.vsplit rfl rfl rfl (gives_bin rfl rfl rfl (fun w => bin_lss w)) (fun h18 => ?_) (fun h18 => ?_)
   ·exact absurd (of_decide_eq_true h18) (by omega)
   ·refine TL.val rfl rfl rfl (gives_pick rfl rfl rfl) ?_
    refine TL.end_ (TX.then_ (TC.condF rfl (TC.skip_ (TX.then_ (TC.seq_ (TC.seq_ (TC.region ?_)))))))
    refine TL.val rfl rfl rfl (gives_move rfl rfl) ?_
    refine TL.val rfl rfl rfl (gives_move rfl rfl) ?_
    refine TL.val rfl rfl rfl (gives_len rfl Tryd.underlying28 rfl) ?_
    refine TL.vsplit rfl rfl rfl (gives_bin rfl rfl rfl (fun w => bin_gtr w)) (fun h23 => ?_) (fun h23 => ?_)
    ·exact absurd (of_decide_eq_true h23) (by omega)
    ·iterate 4 (first | refine TL.on rfl rfl rfl ?_ | refine TL.val rfl rfl rfl (gives_move rfl rfl) ?_)
     refine TL.val rfl rfl rfl (gives_len rfl Tryd.underlying28 rfl) ?_
     refine TL.on rfl rfl rfl ?_
     refine TL.val rfl rfl rfl (gives_move rfl rfl) ?_
     refine TL.on rfl rfl rfl ?_
     refine TL.val rfl rfl rfl (gives_bin rfl rfl rfl (fun w => bin_sub_ (r := (n : Int) - (p : Int)) (by simp only [IntKind.wrap_i64]; omega) w)) ?_
     refine TL.on rfl rfl rfl ?_
     refine TL.val rfl rfl rfl (gives_move rfl rfl) ?_
     refine TL.on rfl rfl rfl ?_
     refine TL.vsplit rfl rfl rfl (gives_bin rfl rfl rfl (fun w => bin_lss w)) (fun h30 => ?_) (fun h30 => ?_)
     ·exact absurd (of_decide_eq_true h30) (by omega)
     ·refine TL.val rfl rfl rfl (gives_pick rfl rfl rfl) ?_
      refine TL.end_ (TX.then_ (TC.condF rfl (TC.skip_ (TX.then_ (TC.seq_ (TC.region ?_))))))
      refine TL.val rfl rfl rfl (gives_assign rfl rfl) ?_
      refine TL.end_ (TX.then_ (TC.seq_ (TC.seq_ (TC.region ?_))))
      refine TL.val rfl rfl rfl (gives_assign rfl rfl) ?_
      refine TL.end_ (TX.then_ (TC.block ?_))
      refine TC.loop_ (α := {i : Nat // i ≤ k}) (fun x => [(0, .slice (some ⟨b0, o, none⟩) n c), (1, .int .i64 (p : Int)), (2, .int .i64 (k : Int)), (9, .int .i64 (x.1 : Int)), (8, .int .i64 (be ((l.drop p).take x.1)))]) (fun x => fun w1 => w1 = w) (fun x => k - x.1) (⟨0, Nat.zero_le _⟩) ⟨rfl, rfl, rfl, rfl, rfl, trivial⟩ (fun w hw => hw) ?_
      rintro ⟨i, hi⟩
      dsimp only at hi ⊢
      refine TC.seq_ (TC.seq_ (TC.region ?_))
      refine TL.val rfl rfl rfl (gives_move rfl rfl) ?_
      refine TL.val rfl rfl rfl (gives_move rfl rfl) ?_
      refine TL.vsplit rfl rfl rfl (gives_bin rfl rfl rfl (fun w => bin_lss w)) (fun h34 => ?_) (fun h34 => ?_)
      ·have hi2 : i < k := by have := of_decide_eq_true h34; omega
       obtain ⟨y, hl, hy0, hy1, hy⟩ := byt_cellU hb (k := p + i) (by omega)
       have hbB := byt_block hb (k := p + i) (by omega)
       have hdl : (l.drop p)[i]? = some y := by rw [List.getElem?_drop]; exact hl
       obtain ⟨hq0, hq1⟩ := be_bd7 ((l.drop p).take i) ((hb.2.drop p).take i) (by rw [List.length_take]; omega)
       refine TL.end_ (TX.then_ (TC.condT rfl (TC.skip_ (TX.then_ (TC.seq_ (TC.block (TC.region ?_)))))))
       refine TL.val rfl rfl rfl (gives_move rfl rfl) ?_
       refine TL.val rfl rfl rfl (gives_bin (v := .int .i64 (be ((l.drop p).take i) * 256)) rfl rfl rfl (fun w => by rw [bin_shl 256 (by decide) (by decide) rfl w, wrap_fit (by omega) (by omega)])) ?_
       refine TL.val rfl rfl rfl (gives_move rfl rfl) ?_
       refine TL.val rfl rfl rfl (gives_move rfl rfl) ?_
       refine TL.val rfl rfl rfl (gives_move rfl rfl) ?_
       refine TL.val rfl rfl rfl (gives_bin rfl rfl rfl (fun w => bin_add_ (r := ((p + i : Nat) : Int)) (by simp only [IntKind.wrap_i64]; omega) w)) ?_
       refine TL.val rfl rfl rfl (gives_at rfl rfl rfl (fun w => at_u8 b0 o n c (p + i) (by omega) w)) ?_
       refine TL.val rfl rfl rfl (gives_load rfl rfl (fun w => rfl) (fun w1 hw => by rw [hw]; exact hy)) ?_
       refine TL.val rfl rfl rfl (gives_conv rfl rfl (fun w => conv_fit Tryd.underlying3 Tryd.underlying5 (by simp only [IntKind.wrap_i64]; omega) w)) ?_
       refine TL.val rfl rfl rfl (gives_bin (v := .int .i64 (be ((l.drop p).take i) * 256 + y)) rfl rfl rfl (fun w => (or_256 _ y hq0 hq1 hy0 hy1 ▸ bin_bits (.inr (.inl rfl)) w))) ?_
       refine TL.val rfl rfl rfl (gives_assign rfl rfl) ?_
       refine TL.end_ (TX.in_normal (TX.then_ (TC.region ?_)))
       refine TL.val rfl rfl rfl (gives_move rfl rfl) ?_
       refine TL.val rfl rfl rfl (gives_bin rfl rfl rfl (fun w => bin_add_ (r := ((i + 1 : Nat) : Int)) (by simp only [IntKind.wrap_i64]; omega) w)) ?_
       refine TL.val rfl rfl rfl (gives_assign rfl rfl) ?_
       refine TL.end_ ?_
       exact TX.round (⟨i + 1, hi2⟩) (by show k - (i + 1) < k - i; omega) ⟨rfl, rfl, rfl, rfl, by rw [be_take _ i y hdl]; rfl, trivial⟩ (fun w hw => hw)
      ·have hi2 : k = i := by have := of_decide_eq_false h34; omega
       subst hi2
       refine TL.end_ (TX.then_ (TC.condF rfl (TC.exit_ (TX.then_exit (TX.then_exit (TX.in_same (TX.then_ (TC.seq_ (TC.region ?_)))))))))
       refine TL.val rfl rfl rfl (gives_move rfl rfl) ?_
       refine TL.val rfl rfl rfl (gives_assign rfl rfl) ?_
       refine TL.val rfl rfl rfl (gives_assign rfl rfl) ?_
       refine TL.end_ (TX.then_ (TC.ret_ ?_))
       exact ret_pair (v1 := .int .i64 (getN l p k)) (v2 := .int .i64 0) Tryd.results66 rfl rfl (fun w1 hw => ⟨rfl, hw⟩)
theorem sget (A : Option Addr) (n c : Nat) (l : List Int) (p k : Nat) (w : World) (hb : Byt w w.heap.size A n l) (hnc : n ≤ c) (hlim : n ≤ 140737488355328) (hk1 : 1 ≤ k) (hk7 : k ≤ 7) (hp9 : p ≤ 1000000000) :
  Calls Tryd.prog 66 #[.slice A n c, .int .i64 (p : Int), .int .i64 (k : Int)] w fun e w' => e = .returned (.tuple #[.int .i64 (getJ l p k), .int .i64 (getJE l p k)]) ∧ w' = w := by
 unfold getJ getJE
 rw [hb.len]
 by_cases h : n < p + k
 ·rw [if_pos h, if_pos h]; exact sget_short A n c p k w hnc hlim hk1 hk7 hp9 h
 ·rw [if_neg h, if_neg h]
  obtain ⟨b0, o, x, rfl, _⟩ := hb.at' (k := 0) (by omega)
  exact sget_ok b0 o n c l p k w hb hnc hlim hk1 hk7 (by omega)
theorem nmRGet : (Tryd.f66.name == "runtime.NumGoroutine") = false := by decide
theorem bdRGet : Tryd.f66.body.isNone = false := rfl
theorem nmGet : (Tryd.f65.name == "runtime.NumGoroutine") = false := by decide
theorem bdGet : Tryd.f65.body.isNone = false := rfl
theorem jat (A : Option Addr) (n c : Nat) (l : List Int) (p k : Nat) (w : World) (hb : Byt w w.heap.size A n l) (hnc : n ≤ c) (hlim : n ≤ 140737488355328) (hk1 : 1 ≤ k) (hk7 : k ≤ 7) (hp9 : p ≤ 1000000000) :
  Calls Tryd.prog 50 #[.slice A n c, .int .i64 (p : Int), .int .i64 (k : Int)] w fun e w' => e = .returned (.int .i64 (getJ l p k)) ∧ Below w.heap.size w w' := by
 refine begin_ (vs := [.slice A n c, .int .i64 (p : Int), .int .i64 (k : Int)]) Tryd.func50 rfl rfl rfl ?_ (Pm.start w)
 refine TC.seq_ (TC.region ?_)
 refine TL.val rfl rfl rfl (gives_assign rfl rfl) ?_
 refine TL.end_ (TX.then_ (TC.seq_ (TC.region ?_)))
 refine TL.val rfl rfl rfl (gives_move rfl rfl) ?_
 refine TL.val rfl rfl rfl (gives_move rfl rfl) ?_
 refine TL.val rfl rfl rfl (gives_move rfl rfl) ?_
 refine TL.pcall1 (r := .tuple #[.int .i64 (getJ l p k), .int .i64 (getJE l p k)]) rfl rfl rfl rfl rfl Tryd.func66 nmRGet bdRGet (fun w1 hw => jrget A n c l p k w1 ((hb.below hw.bel).more hw.bel.size) hnc hlim hk1 hk7 hp9) ?_
 iterate 5 (first | refine TL.val rfl rfl rfl (gives_assign rfl rfl) ?_ | refine TL.val rfl rfl rfl (gives_extract rfl rfl rfl) ?_ | refine TL.val rfl rfl rfl (gives_move rfl rfl) ?_)
 refine TL.end_ (TX.then_ (TC.seq_ (TC.region ?_)))
 refine TL.val rfl rfl rfl (gives_move rfl rfl) ?_
 refine TL.val rfl rfl rfl (gives_assign rfl rfl) ?_
 refine TL.end_ (TX.then_ (TC.ret_ ?_))
 exact ret_tmp Tryd.results50 rfl (fun w1 hw => ⟨rfl, hw.bel⟩)
theorem sat (A : Option Addr) (n c : Nat) (l : List Int) (p k : Nat) (w : World) (hb : Byt w w.heap.size A n l) (hnc : n ≤ c) (hlim : n ≤ 140737488355328) (hk1 : 1 ≤ k) (hk7 : k ≤ 7) (hp9 : p ≤ 1000000000) :
  Calls Tryd.prog 50 #[.slice A n c, .int .i64 (p : Int), .int .i64 (k : Int)] w fun e w' => e = .returned (.int .i64 (getJ l p k)) ∧ w' = w := by
 refine begin_ (vs := [.slice A n c, .int .i64 (p : Int), .int .i64 (k : Int)]) (I := fun w1 => w1 = w) Tryd.func50 rfl rfl rfl ?_ rfl
 refine TC.seq_ (TC.region ?_)
 refine TL.val rfl rfl rfl (gives_assign rfl rfl) ?_
 refine TL.end_ (TX.then_ (TC.seq_ (TC.region ?_)))
 refine TL.val rfl rfl rfl (gives_move rfl rfl) ?_
 refine TL.val rfl rfl rfl (gives_move rfl rfl) ?_
 refine TL.val rfl rfl rfl (gives_move rfl rfl) ?_
 refine TL.stcall (r := .tuple #[.int .i64 (getJ l p k), .int .i64 (getJE l p k)]) rfl rfl rfl rfl rfl Tryd.func66 nmRGet bdRGet (fun w1 hw => by rw [hw]; exact sget A n c l p k w hb hnc hlim hk1 hk7 hp9) ?_
 iterate 5 (first | refine TL.val rfl rfl rfl (gives_assign rfl rfl) ?_ | refine TL.val rfl rfl rfl (gives_extract rfl rfl rfl) ?_ | refine TL.val rfl rfl rfl (gives_move rfl rfl) ?_)
 refine TL.end_ (TX.then_ (TC.seq_ (TC.region ?_)))
 refine TL.val rfl rfl rfl (gives_move rfl rfl) ?_
 refine TL.val rfl rfl rfl (gives_assign rfl rfl) ?_
 refine TL.end_ (TX.then_ (TC.ret_ ?_))
 exact ret_tmp Tryd.results50 rfl (fun w1 hw => ⟨rfl, hw⟩)
end Go.Proofs.YtmeaeeehnkcblaaDoor

namespace Go.Proofs.YtmeaeeehnkcblaaDoor
open Go.RowKit
set_option linter.unusedVariables false
set_option linter.unusedSimpArgs false
set_option maxRecDepth 20000
theorem eqA (d : Nat) (s1 k1 c1 l1 i1 q1 s2 k2 c2 l2 i2 q2 : Int) (w : World) : (Op.equalIn (d + 2) 25 (.agg #[.int .u32 s1, .int .i64 k1, .int .i64 c1, .int .i64 l1, .int .i64 i1, .int .i64 q1]) (.agg #[.int .u32 s2, .int .i64 k2, .int .i64 c2, .int .i64 l2, .int .i64 i2, .int .i64 q2])).run Tryd.prog w = .ok (decide (s1 = s2 ∧ k1 = k2 ∧ c1 = c2 ∧ l1 = l2 ∧ i1 = i2 ∧ q1 = q2)) w := by
  have hS : Tryd.prog.underlying 25 = some (.struct (Tryd.prog.fieldsOf 25)) := by kernel_rfl
  have hp : Tryd.prog.stoodInHeld 25 = false := by kernel_rfl
  rw [run_equalIn_agg w (d + 1) 25 _ _ hS hp]
  simp only [Program.fieldsOf, Tryd.underlying25]
  have u3 := Tryd.underlying3
  have u23 := Tryd.underlying23
  have a3 := Tryd.isAgg3
  have z3 := Tryd.sizeOf3
  have a23 := Tryd.isAgg23
  have z23 := Tryd.sizeOf23
  go_simp
  by_cases h1 : s1 = s2 <;> by_cases h2 : k1 = k2 <;> by_cases h3 : c1 = c2 <;> by_cases h4 : l1 = l2 <;> by_cases h5 : i1 = i2 <;> by_cases h6 : q1 = q2 <;> simp [h1, h2, h3, h4, h5, h6]
theorem eqR (v1 r1 n1 t1 d1 p1 f1 l1 k1 s1 x1 c1 y1 i1 q1 v2 r2 n2 t2 d2 p2 f2 l2 k2 s2 x2 c2 y2 i2 q2 : Int) (a1 b1 a2 b2 : Bool) (w : World) : (Op.equalIn 10000 27 (.agg #[.int .i64 v1, .int .i64 r1, .int .i64 n1, .int .i64 t1, .int .u32 d1, .int .i64 p1, .int .i64 f1, .int .i64 l1, .bool a1, .bool b1, .int .i64 k1, .int .u32 s1, .int .i64 x1, .int .i64 c1, .int .i64 y1, .int .i64 i1, .int .i64 q1]) (.agg #[.int .i64 v2, .int .i64 r2, .int .i64 n2, .int .i64 t2, .int .u32 d2, .int .i64 p2, .int .i64 f2, .int .i64 l2, .bool a2, .bool b2, .int .i64 k2, .int .u32 s2, .int .i64 x2, .int .i64 c2, .int .i64 y2, .int .i64 i2, .int .i64 q2])).run Tryd.prog w = .ok (decide (v1 = v2 ∧ r1 = r2 ∧ n1 = n2 ∧ t1 = t2 ∧ d1 = d2 ∧ p1 = p2 ∧ f1 = f2 ∧ l1 = l2 ∧ a1 = a2 ∧ b1 = b2 ∧ k1 = k2 ∧ s1 = s2 ∧ x1 = x2 ∧ c1 = c2 ∧ y1 = y2 ∧ i1 = i2 ∧ q1 = q2)) w := by
  have hS : Tryd.prog.underlying 27 = some (.struct (Tryd.prog.fieldsOf 27)) := by kernel_rfl
  have hp : Tryd.prog.stoodInHeld 27 = false := by kernel_rfl
  rw [show (10000 : Nat) = 9999 + 1 from rfl, run_equalIn_agg w 9999 27 _ _ hS hp]
  simp only [Program.fieldsOf, Tryd.underlying27]
  have u3 := Tryd.underlying3
  have u4 := Tryd.underlying4
  have u23 := Tryd.underlying23
  have a3 := Tryd.isAgg3
  have a4 := Tryd.isAgg4
  have z3 := Tryd.sizeOf3
  have z4 := Tryd.sizeOf4
  have a23 := Tryd.isAgg23
  have z23 := Tryd.sizeOf23
  have a25 := Tryd.isAgg25
  have z25 := Tryd.sizeOf25
  have eqA' := eqA 9997
  go_simp
  by_cases h0 : v1 = v2
  rotate_left
  · simp [h0]
  subst h0
  by_cases h1 : r1 = r2
  rotate_left
  · simp [h1]
  subst h1
  by_cases h2 : n1 = n2
  rotate_left
  · simp [h2]
  subst h2
  by_cases h3 : t1 = t2
  rotate_left
  · simp [h3]
  subst h3
  by_cases h4 : d1 = d2
  rotate_left
  · simp [h4]
  subst h4
  by_cases h5 : p1 = p2
  rotate_left
  · simp [h5]
  subst h5
  by_cases h6 : f1 = f2
  rotate_left
  · simp [h6]
  subst h6
  by_cases h7 : l1 = l2
  rotate_left
  · simp [h7]
  subst h7
  by_cases h8 : a1 = a2
  rotate_left
  · simp [h8]
  subst h8
  by_cases h9 : b1 = b2
  rotate_left
  · simp [h9]
  subst h9
  by_cases h10 : k1 = k2
  rotate_left
  · simp [h10]
  subst h10
  by_cases e1 : s1 = s2 <;> by_cases e2 : x1 = x2 <;> by_cases e3 : c1 = c2 <;> by_cases e4 : y1 = y2 <;> by_cases e5 : i1 = i2 <;> by_cases e6 : q1 = q2 <;> simp [e1, e2, e3, e4, e5, e6]
theorem neqA (s1 k1 c1 l1 i1 q1 s2 k2 c2 l2 i2 q2 : Int) {x y : Operand} (w : World) : (do eqGuard .neq 25 x y (.agg #[.int .u32 s1, .int .i64 k1, .int .i64 c1, .int .i64 l1, .int .i64 i1, .int .i64 q1]) (.agg #[.int .u32 s2, .int .i64 k2, .int .i64 c2, .int .i64 l2, .int .i64 i2, .int .i64 q2]); binOp .neq 25 (.agg #[.int .u32 s1, .int .i64 k1, .int .i64 c1, .int .i64 l1, .int .i64 i1, .int .i64 q1]) (.agg #[.int .u32 s2, .int .i64 k2, .int .i64 c2, .int .i64 l2, .int .i64 i2, .int .i64 q2]) : Sem Value).run Tryd.prog w = .ok (.bool (!decide (s1 = s2 ∧ k1 = k2 ∧ c1 = c2 ∧ l1 = l2 ∧ i1 = i2 ∧ q1 = q2))) w := by
  have hm : Tryd.prog.eqGuardType Tryd.prog.depth 25 = false := by kernel_rfl
  simp only [Sem.run_bind, run_eqGuard_agg w .neq 25 x y _ _ hm, Result.andThen_ok, run_neq_struct, show (10000 : Nat) = 9998 + 2 from rfl, eqA 9998]
end Go.Proofs.YtmeaeeehnkcblaaDoor

namespace Go.Proofs.YtmeaeeehnkcblaaDoor
open Go.RowKit
set_option linter.unusedVariables false
set_option linter.unusedSimpArgs false
set_option maxRecDepth 20000
def Rs.cells (r : Rs) : List Value := [.int .i64 r.v, .int .i64 r.run, .int .i64 r.num, .int .i64 r.at_, .int .u32 r.dst, .int .i64 r.proto, .int .i64 r.flow, .int .i64 r.ttl, .bool r.ans, .bool r.dbl, .int .i64 r.back, .int .u32 r.src, .int .i64 r.kind, .int .i64 r.code, .int .i64 r.left, .int .i64 r.id, .int .i64 r.quo]
theorem fR0 (g : Nat) (w : World) : (Instr.fieldAt 27 (.pointer (some ⟨g, 0, none⟩)) 0).run Tryd.prog w = .ok (.pointer (some ⟨g, 0, none⟩)) w := by kernel_rfl
theorem fR1 (g : Nat) (w : World) : (Instr.fieldAt 27 (.pointer (some ⟨g, 0, none⟩)) 1).run Tryd.prog w = .ok (.pointer (some ⟨g, 1, none⟩)) w := by kernel_rfl
theorem fR2 (g : Nat) (w : World) : (Instr.fieldAt 27 (.pointer (some ⟨g, 0, none⟩)) 2).run Tryd.prog w = .ok (.pointer (some ⟨g, 2, none⟩)) w := by kernel_rfl
theorem fR3 (g : Nat) (w : World) : (Instr.fieldAt 27 (.pointer (some ⟨g, 0, none⟩)) 3).run Tryd.prog w = .ok (.pointer (some ⟨g, 3, none⟩)) w := by kernel_rfl
theorem fR4 (g : Nat) (w : World) : (Instr.fieldAt 27 (.pointer (some ⟨g, 0, none⟩)) 4).run Tryd.prog w = .ok (.pointer (some ⟨g, 4, none⟩)) w := by kernel_rfl
theorem fR5 (g : Nat) (w : World) : (Instr.fieldAt 27 (.pointer (some ⟨g, 0, none⟩)) 5).run Tryd.prog w = .ok (.pointer (some ⟨g, 5, none⟩)) w := by kernel_rfl
theorem fR6 (g : Nat) (w : World) : (Instr.fieldAt 27 (.pointer (some ⟨g, 0, none⟩)) 6).run Tryd.prog w = .ok (.pointer (some ⟨g, 6, none⟩)) w := by kernel_rfl
theorem fR7 (g : Nat) (w : World) : (Instr.fieldAt 27 (.pointer (some ⟨g, 0, none⟩)) 7).run Tryd.prog w = .ok (.pointer (some ⟨g, 7, none⟩)) w := by kernel_rfl
theorem fR8 (g : Nat) (w : World) : (Instr.fieldAt 27 (.pointer (some ⟨g, 0, none⟩)) 8).run Tryd.prog w = .ok (.pointer (some ⟨g, 8, none⟩)) w := by kernel_rfl
theorem fR9 (g : Nat) (w : World) : (Instr.fieldAt 27 (.pointer (some ⟨g, 0, none⟩)) 9).run Tryd.prog w = .ok (.pointer (some ⟨g, 9, none⟩)) w := by kernel_rfl
theorem fR10 (g : Nat) (w : World) : (Instr.fieldAt 27 (.pointer (some ⟨g, 0, none⟩)) 10).run Tryd.prog w = .ok (.pointer (some ⟨g, 10, none⟩)) w := by kernel_rfl
theorem fR11 (g : Nat) (w : World) : (Instr.fieldAt 27 (.pointer (some ⟨g, 0, none⟩)) 11).run Tryd.prog w = .ok (.pointer (some ⟨g, 11, none⟩)) w := by kernel_rfl
theorem fA0 (g : Nat) (w : World) : (Instr.fieldAt 25 (.pointer (some ⟨g, 0, none⟩)) 0).run Tryd.prog w = .ok (.pointer (some ⟨g, 0, none⟩)) w := by kernel_rfl
theorem fA1 (g : Nat) (w : World) : (Instr.fieldAt 25 (.pointer (some ⟨g, 0, none⟩)) 1).run Tryd.prog w = .ok (.pointer (some ⟨g, 1, none⟩)) w := by kernel_rfl
theorem fA2 (g : Nat) (w : World) : (Instr.fieldAt 25 (.pointer (some ⟨g, 0, none⟩)) 2).run Tryd.prog w = .ok (.pointer (some ⟨g, 2, none⟩)) w := by kernel_rfl
theorem fA3 (g : Nat) (w : World) : (Instr.fieldAt 25 (.pointer (some ⟨g, 0, none⟩)) 3).run Tryd.prog w = .ok (.pointer (some ⟨g, 3, none⟩)) w := by kernel_rfl
theorem fA4 (g : Nat) (w : World) : (Instr.fieldAt 25 (.pointer (some ⟨g, 0, none⟩)) 4).run Tryd.prog w = .ok (.pointer (some ⟨g, 4, none⟩)) w := by kernel_rfl
theorem fA5 (g : Nat) (w : World) : (Instr.fieldAt 25 (.pointer (some ⟨g, 0, none⟩)) 5).run Tryd.prog w = .ok (.pointer (some ⟨g, 5, none⟩)) w := by kernel_rfl
theorem agI (w : World) : (isAgg 3).run Tryd.prog w = .ok false w := rfl
theorem agB (w : World) : (isAgg 4).run Tryd.prog w = .ok false w := rfl
theorem agU (w : World) : (isAgg 23).run Tryd.prog w = .ok false w := rfl
theorem agA (w : World) : (isAgg 25).run Tryd.prog w = .ok true w := rfl
theorem szA (w : World) : (sizeOf 25).run Tryd.prog w = .ok 6 w := rfl
theorem zeroA (w : World) : (zeroValue 25).run Tryd.prog w = .ok (.agg #[.int .u32 0, .int .i64 0, .int .i64 0, .int .i64 0, .int .i64 0, .int .i64 0]) w := rfl
theorem buildA (w : World) : (Instr.build 25 #[]).run Tryd.prog w = .ok (.agg #[.int .u32 0, .int .i64 0, .int .i64 0, .int .i64 0, .int .i64 0, .int .i64 0]) w := by kernel_rfl
theorem oneA (src kind code left id quo : Int) : ∀ u ∈ [Value.int .u32 src, .int .i64 kind, .int .i64 code, .int .i64 left, .int .i64 id, .int .i64 quo], u.oneCell' = true := by
 intro u hu
 simp only [List.mem_cons, List.not_mem_nil, or_false] at hu
 rcases hu with rfl | rfl | rfl | rfl | rfl | rfl <;> rfl
theorem within_any (n m : Int) (w : World) :
  Calls Tryd.prog 46 #[.int .i64 n, .int .i64 m] w fun e w' => e = .returned (.bool (decide (0 ≤ n ∧ n ≤ m))) ∧ Below w.heap.size w w' := by
 refine begin_ (vs := [.int .i64 n, .int .i64 m]) Tryd.func46 rfl rfl rfl ?_ (Pm.start w)
 refine TC.seq_ (TC.region ?_)
 refine TL.val rfl rfl rfl (gives_assign rfl rfl) ?_
 refine TL.end_ (TX.then_ (TC.seq_ (TC.region ?_)))
 refine TL.val rfl rfl rfl (gives_move rfl rfl) ?_
 refine TL.vsplit rfl rfl rfl (gives_bin rfl rfl rfl (fun w => bin_geq w)) (fun h6 => ?_) (fun h6 => ?_)
 ·iterate 6 (first | refine TL.on rfl rfl rfl ?_ | refine TL.val rfl rfl rfl (gives_move rfl rfl) ?_)
  refine TL.vsplit rfl rfl rfl (gives_bin rfl rfl rfl (fun w => bin_leq w)) (fun h10 => ?_) (fun h10 => ?_)
  ·refine TL.val rfl rfl rfl (gives_pick rfl rfl rfl) ?_
   refine TL.val rfl rfl rfl (gives_assign rfl rfl) ?_
   refine TL.end_ (TX.then_ (TC.ret_ ?_))
   exact ret_tmp Tryd.results46 rfl (fun w1 hw => ⟨bool_t (by simp only [decide_eq_true_eq, decide_eq_false_iff_not] at *; omega), hw.bel⟩)
  ·refine TL.val rfl rfl rfl (gives_pick rfl rfl rfl) ?_
   refine TL.val rfl rfl rfl (gives_assign rfl rfl) ?_
   refine TL.end_ (TX.then_ (TC.ret_ ?_))
   exact ret_tmp Tryd.results46 rfl (fun w1 hw => ⟨bool_f (by simp only [decide_eq_true_eq, decide_eq_false_iff_not] at *; omega), hw.bel⟩)
 ·iterate 6 (first | refine TL.off rfl rfl rfl rfl rfl rfl ?_ | refine TL.val rfl rfl rfl (gives_move rfl rfl) ?_ | refine TL.val rfl rfl rfl (gives_pick rfl rfl rfl) ?_ | refine TL.val rfl rfl rfl (gives_assign rfl rfl) ?_)
  refine TL.end_ (TX.then_ (TC.ret_ ?_))
  exact ret_tmp Tryd.results46 rfl (fun w1 hw => ⟨bool_f (by simp only [decide_eq_true_eq, decide_eq_false_iff_not] at *; omega), hw.bel⟩)
theorem nmWithin : (Tryd.f46.name == "runtime.NumGoroutine") = false := by decide
theorem bdWithin : Tryd.f46.body.isNone = false := rfl
theorem run_any (v r : Int) (w : World) :
  Calls Tryd.prog 45 #[.int .i64 v, .int .i64 r] w fun e w' => e = .returned (.bool (decide (0 ≤ v ∧ v ≤ 15 ∧ 0 ≤ r ∧ r ≤ 63))) ∧ Below w.heap.size w w' := by
 refine begin_ (vs := [.int .i64 v, .int .i64 r]) Tryd.func45 rfl rfl rfl ?_ (Pm.start w)
 refine TC.seq_ (TC.region ?_)
 refine TL.val rfl rfl rfl (gives_assign rfl rfl) ?_
 refine TL.end_ (TX.then_ (TC.seq_ (TC.region ?_)))
 refine TL.val rfl rfl rfl (gives_move rfl rfl) ?_
 refine TL.callsplit rfl rfl rfl rfl rfl Tryd.func46 nmWithin bdWithin (fun w1 hw => within_any (v) (15) w1) (fun h6 => ?_) (fun h6 => ?_)
 ·iterate 4 (first | refine TL.on rfl rfl rfl ?_ | refine TL.val rfl rfl rfl (gives_move rfl rfl) ?_)
  refine TL.callsplit rfl rfl rfl rfl rfl Tryd.func46 nmWithin bdWithin (fun w1 hw => within_any (r) (63) w1) (fun h9 => ?_) (fun h9 => ?_)
  ·refine TL.val rfl rfl rfl (gives_pick rfl rfl rfl) ?_
   refine TL.val rfl rfl rfl (gives_assign rfl rfl) ?_
   refine TL.end_ (TX.then_ (TC.ret_ ?_))
   exact ret_tmp Tryd.results45 rfl (fun w1 hw => ⟨bool_t (by simp only [decide_eq_true_eq, decide_eq_false_iff_not] at *; omega), hw.bel⟩)
  ·refine TL.val rfl rfl rfl (gives_pick rfl rfl rfl) ?_
   refine TL.val rfl rfl rfl (gives_assign rfl rfl) ?_
   refine TL.end_ (TX.then_ (TC.ret_ ?_))
   exact ret_tmp Tryd.results45 rfl (fun w1 hw => ⟨bool_f (by simp only [decide_eq_true_eq, decide_eq_false_iff_not] at *; omega), hw.bel⟩)
 ·iterate 5 (first | refine TL.off rfl rfl rfl rfl rfl rfl ?_ | refine TL.val rfl rfl rfl (gives_move rfl rfl) ?_ | refine TL.val rfl rfl rfl (gives_pick rfl rfl rfl) ?_ | refine TL.val rfl rfl rfl (gives_assign rfl rfl) ?_)
  refine TL.end_ (TX.then_ (TC.ret_ ?_))
  exact ret_tmp Tryd.results45 rfl (fun w1 hw => ⟨bool_f (by simp only [decide_eq_true_eq, decide_eq_false_iff_not] at *; omega), hw.bel⟩)
theorem nmRun : (Tryd.f45.name == "runtime.NumGoroutine") = false := by decide
theorem bdRun : Tryd.f45.body.isNone = false := rfl
theorem ident_any (v r : Int) (w : World) :
  Calls Tryd.prog 47 #[.int .i64 v, .int .i64 r] w fun e w' => e = .returned (.bool (decide (0 ≤ v ∧ v ≤ 15 ∧ 0 ≤ r ∧ r ≤ 63))) ∧ Below w.heap.size w w' := by
 refine begin_ (vs := [.int .i64 v, .int .i64 r]) Tryd.func47 rfl rfl rfl ?_ (Pm.start w)
 refine TC.seq_ (TC.region ?_)
 refine TL.val rfl rfl rfl (gives_assign rfl rfl) ?_
 refine TL.end_ (TX.then_ (TC.seq_ (TC.region ?_)))
 refine TL.val rfl rfl rfl (gives_move rfl rfl) ?_
 refine TL.vsplit rfl rfl rfl (gives_bin rfl rfl rfl (fun w => bin_geq w)) (fun h6 => ?_) (fun h6 => ?_)
 ·iterate 4 (first | refine TL.on rfl rfl rfl ?_ | refine TL.val rfl rfl rfl (gives_move rfl rfl) ?_)
  refine TL.vsplit rfl rfl rfl (gives_bin rfl rfl rfl (fun w => bin_lss w)) (fun h9 => ?_) (fun h9 => ?_)
  ·iterate 5 (first | refine TL.on rfl rfl rfl ?_ | refine TL.val rfl rfl rfl (gives_move rfl rfl) ?_ | refine TL.val rfl rfl rfl (gives_pick rfl rfl rfl) ?_)
   refine TL.vsplit rfl rfl rfl (gives_bin rfl rfl rfl (fun w => bin_geq w)) (fun h13 => ?_) (fun h13 => ?_)
   ·iterate 5 (first | refine TL.on rfl rfl rfl ?_ | refine TL.val rfl rfl rfl (gives_move rfl rfl) ?_ | refine TL.val rfl rfl rfl (gives_pick rfl rfl rfl) ?_)
    refine TL.vsplit rfl rfl rfl (gives_bin rfl rfl rfl (fun w => bin_lss w)) (fun h17 => ?_) (fun h17 => ?_)
    ·refine TL.val rfl rfl rfl (gives_pick rfl rfl rfl) ?_
     refine TL.val rfl rfl rfl (gives_assign rfl rfl) ?_
     refine TL.end_ (TX.then_ (TC.ret_ ?_))
     exact ret_tmp Tryd.results47 rfl (fun w1 hw => ⟨bool_t (by simp only [decide_eq_true_eq, decide_eq_false_iff_not] at *; omega), hw.bel⟩)
    ·refine TL.val rfl rfl rfl (gives_pick rfl rfl rfl) ?_
     refine TL.val rfl rfl rfl (gives_assign rfl rfl) ?_
     refine TL.end_ (TX.then_ (TC.ret_ ?_))
     exact ret_tmp Tryd.results47 rfl (fun w1 hw => ⟨bool_f (by simp only [decide_eq_true_eq, decide_eq_false_iff_not] at *; omega), hw.bel⟩)
   ·iterate 6 (first | refine TL.off rfl rfl rfl rfl rfl rfl ?_ | refine TL.val rfl rfl rfl (gives_pick rfl rfl rfl) ?_ | refine TL.val rfl rfl rfl (gives_move rfl rfl) ?_ | refine TL.val rfl rfl rfl (gives_assign rfl rfl) ?_)
    refine TL.end_ (TX.then_ (TC.ret_ ?_))
    exact ret_tmp Tryd.results47 rfl (fun w1 hw => ⟨bool_f (by simp only [decide_eq_true_eq, decide_eq_false_iff_not] at *; omega), hw.bel⟩)
  ·iterate 10 (first | refine TL.off rfl rfl rfl rfl rfl rfl ?_ | refine TL.val rfl rfl rfl (gives_pick rfl rfl rfl) ?_ | refine TL.val rfl rfl rfl (gives_move rfl rfl) ?_ | refine TL.val rfl rfl rfl (gives_assign rfl rfl) ?_)
   refine TL.end_ (TX.then_ (TC.ret_ ?_))
   exact ret_tmp Tryd.results47 rfl (fun w1 hw => ⟨bool_f (by simp only [decide_eq_true_eq, decide_eq_false_iff_not] at *; omega), hw.bel⟩)
 ·iterate 13 (first | refine TL.off rfl rfl rfl rfl rfl rfl ?_ | refine TL.val rfl rfl rfl (gives_move rfl rfl) ?_ | refine TL.val rfl rfl rfl (gives_pick rfl rfl rfl) ?_ | refine TL.val rfl rfl rfl (gives_assign rfl rfl) ?_)
  refine TL.end_ (TX.then_ (TC.ret_ ?_))
  exact ret_tmp Tryd.results47 rfl (fun w1 hw => ⟨bool_f (by simp only [decide_eq_true_eq, decide_eq_false_iff_not] at *; omega), hw.bel⟩)
theorem nmIdent : (Tryd.f47.name == "runtime.NumGoroutine") = false := by decide
theorem bdIdent : Tryd.f47.body.isNone = false := rfl
theorem octet_any (n : Int) (w : World) :
  Calls Tryd.prog 48 #[.int .i64 n] w fun e w' => e = .returned (.bool (decide (0 ≤ n ∧ n ≤ 255))) ∧ Below w.heap.size w w' := by
 refine begin_ (vs := [.int .i64 n]) Tryd.func48 rfl rfl rfl ?_ (Pm.start w)
 refine TC.seq_ (TC.region ?_)
 refine TL.val rfl rfl rfl (gives_assign rfl rfl) ?_
 refine TL.end_ (TX.then_ (TC.seq_ (TC.region ?_)))
 refine TL.val rfl rfl rfl (gives_move rfl rfl) ?_
 refine TL.vsplit rfl rfl rfl (gives_bin rfl rfl rfl (fun w => bin_geq w)) (fun h4 => ?_) (fun h4 => ?_)
 ·iterate 4 (first | refine TL.on rfl rfl rfl ?_ | refine TL.val rfl rfl rfl (gives_move rfl rfl) ?_)
  refine TL.vsplit rfl rfl rfl (gives_bin rfl rfl rfl (fun w => bin_leq w)) (fun h7 => ?_) (fun h7 => ?_)
  ·refine TL.val rfl rfl rfl (gives_pick rfl rfl rfl) ?_
   refine TL.val rfl rfl rfl (gives_assign rfl rfl) ?_
   refine TL.end_ (TX.then_ (TC.ret_ ?_))
   exact ret_tmp Tryd.results48 rfl (fun w1 hw => ⟨bool_t (by simp only [decide_eq_true_eq, decide_eq_false_iff_not] at *; omega), hw.bel⟩)
  ·refine TL.val rfl rfl rfl (gives_pick rfl rfl rfl) ?_
   refine TL.val rfl rfl rfl (gives_assign rfl rfl) ?_
   refine TL.end_ (TX.then_ (TC.ret_ ?_))
   exact ret_tmp Tryd.results48 rfl (fun w1 hw => ⟨bool_f (by simp only [decide_eq_true_eq, decide_eq_false_iff_not] at *; omega), hw.bel⟩)
 ·iterate 5 (first | refine TL.off rfl rfl rfl rfl rfl rfl ?_ | refine TL.val rfl rfl rfl (gives_move rfl rfl) ?_ | refine TL.val rfl rfl rfl (gives_pick rfl rfl rfl) ?_ | refine TL.val rfl rfl rfl (gives_assign rfl rfl) ?_)
  refine TL.end_ (TX.then_ (TC.ret_ ?_))
  exact ret_tmp Tryd.results48 rfl (fun w1 hw => ⟨bool_f (by simp only [decide_eq_true_eq, decide_eq_false_iff_not] at *; omega), hw.bel⟩)
theorem nmOctet : (Tryd.f48.name == "runtime.NumGoroutine") = false := by decide
theorem bdOctet : Tryd.f48.body.isNone = false := rfl
end Go.Proofs.YtmeaeeehnkcblaaDoor

namespace Go.Proofs.YtmeaeeehnkcblaaDoor
open Go.RowKit
set_option linter.unusedVariables false
set_option linter.unusedSimpArgs false
set_option maxRecDepth 20000
theorem agW (w : World) : (isAgg 72).run Tryd.prog w = .ok false w := rfl
theorem agS (w : World) : (isAgg 28).run Tryd.prog w = .ok false w := rfl
theorem agE (w : World) : (isAgg 34).run Tryd.prog w = .ok false w := rfl
theorem one_sl {A : Option Addr} {n c : Nat} : ∀ u ∈ [Value.slice A n c], u.oneCell' = true := by
  intro u hu
  rw [List.mem_singleton] at hu
  subst hu; rfl
theorem one_i {k : IntKind} {x : Int} : ∀ u ∈ [Value.int k x], u.oneCell' = true := by
  intro u hu
  rw [List.mem_singleton] at hu
  subst hu; rfl
theorem fC0 (g : Nat) (w : World) : (Instr.fieldAt 82 (.pointer (some ⟨g, 0, none⟩)) 0).run Tryd.prog w = .ok (.pointer (some ⟨g, 0, none⟩)) w := by kernel_rfl
theorem fC1 (g : Nat) (w : World) : (Instr.fieldAt 82 (.pointer (some ⟨g, 0, none⟩)) 1).run Tryd.prog w = .ok (.pointer (some ⟨g, 1, none⟩)) w := by kernel_rfl
theorem fC2 (g : Nat) (w : World) : (Instr.fieldAt 82 (.pointer (some ⟨g, 0, none⟩)) 2).run Tryd.prog w = .ok (.pointer (some ⟨g, 2, none⟩)) w := by kernel_rfl
theorem nmPut : (Tryd.f63.name == "runtime.NumGoroutine") = false := by decide
theorem bdPut : Tryd.f63.body.isNone = false := rfl
theorem wput (g : Nat) (A : Option Addr) (n c : Nat) (l : List Int) (x : Int) (k : Nat) (w : World) (hg : Blk w g 72 #[.slice A n c]) (hb : Byt w w.heap.size A n l) (hne : 0 < n → ∀ ad, A = some ad → ad.block ≠ g) (hlim : n ≤ 100000000) (hx0 : 0 ≤ x) (hx1 : x < 256 ^ k) (hk1 : 1 ≤ k) (hk7 : k ≤ 7) :
    Calls Tryd.prog 43 #[.pointer (some ⟨g, 0, none⟩), .int .i64 x, .int .i64 (k : Int)] w fun e w' => ∃ y : {p : Option Addr × Nat // n + k ≤ p.2 ∧ p.2 ≤ maxLen}, e = .returned (.tuple #[]) ∧ Chg g 72 [.slice y.1.1 (n + k) y.1.2] w [.row (.slice y.1.1 (n + k) y.1.2) 5 1 (n + k) (bv (l ++ enc x k))] w' := by
  have hsrc : ∀ (w1 : World) (L : List Pc), Pm ⟨w, g⟩ L w1 → (∀ q ∈ oths g w, q ∈ L) → Byt w1 w1.heap.size A n l := fun w1 L h hs => byt_grown' hb hne (h.kept hs)
  refine begin_ (vs := [.pointer (some ⟨g, 0, none⟩), .int .i64 x, .int .i64 (k : Int)]) (I := Pm ⟨w, g⟩ (.blk g 72 [.slice A n c] :: oths g w)) Tryd.func43 rfl rfl rfl ?_ (Pm.atBlk hg)
  refine TC.seq_ ?_
  refine TC.region ?_
  refine TL.val rfl rfl rfl (gives_move rfl rfl) ?_
  refine TL.val rfl rfl rfl (gives_nilCheck rfl rfl) ?_
  refine TL.val rfl rfl rfl (pm_load (k := 0) (i := 0) rfl rfl agW rfl rfl) ?_
  refine TL.val rfl rfl rfl (gives_move rfl rfl) ?_
  refine TL.val rfl rfl rfl (gives_move rfl rfl) ?_
  refine TL.pcallPair (n := n + k) (ys := bv (l ++ enc x k)) (v := .int .i64 0) rfl rfl rfl rfl rfl Tryd.func63 nmPut bdPut (fun w1 hw => jput A n c l x k w1 (hsrc w1 _ hw (fun q hq => by simp [hq])) hlim hx0 hx1 hk1 hk7) (fun A1 c1 hA11 hA12 => ?_)
  refine TL.val rfl rfl rfl (gives_move rfl rfl) ?_
  refine TL.val rfl rfl rfl (gives_extract rfl rfl rfl) ?_
  refine TL.val rfl rfl rfl (gives_extract rfl rfl rfl) ?_
  refine TL.val rfl rfl rfl (gives_assign rfl rfl) ?_
  refine TL.val rfl rfl rfl (gives_assign rfl rfl) ?_
  refine TL.end_ ?_
  refine TX.then_ ?_
  refine TC.region ?_
  refine TL.val rfl rfl rfl (gives_move rfl rfl) ?_
  refine TL.val rfl rfl rfl (gives_move rfl rfl) ?_
  refine TL.val rfl rfl rfl (gives_nilCheck rfl rfl) ?_
  refine TL.pstore (k := 1) (vs := [.slice A1 (n + k) c1]) rfl rfl rfl rfl rfl rfl rfl (fun w => rfl) one_sl (Nat.le_refl 1) (L' := .row (.slice A1 (n + k) c1) 5 1 (n + k) (bv (l ++ enc x k)) :: .blk g 72 [.slice A1 (n + k) c1] :: oths g w) rfl ?_
  refine TL.end_ ?_
  exact end_none Tryd.results43 (fun w1 hw => ⟨⟨(A1, c1), hA11, hA12⟩, rfl, Pm.chg [_] hw rfl⟩)
theorem cnext (g : Nat) (A : Option Addr) (n c : Nat) (l : List Int) (p k : Nat) (e0 : Int) (w : World) (hg : Blk w g 82 #[.slice A n c, .int .i64 (p : Int), .int .i64 e0]) (hb : Byt w w.heap.size A n l) (hne : 0 < n → ∀ ad, A = some ad → ad.block ≠ g) (hnc : n ≤ c) (hlim : n ≤ 140737488355328) (hk1 : 1 ≤ k) (hk7 : k ≤ 7) (hp9 : p ≤ 1000000000) :
    Calls Tryd.prog 49 #[.pointer (some ⟨g, 0, none⟩), .int .i64 (k : Int)] w fun e w' => ∃ y : Unit, e = .returned (.int .i64 (getJ l p k)) ∧ Chg g 82 [.slice A n c, .int .i64 (((p + k : Nat) : Int)), .int .i64 (if e0 = 0 then getJE l p k else e0)] w [] w' := by
  have hsrc : ∀ (w1 : World) (L : List Pc), Pm ⟨w, g⟩ L w1 → (∀ q ∈ oths g w, q ∈ L) → Byt w1 w1.heap.size A n l := fun w1 L h hs => byt_grown' hb hne (h.kept hs)
  refine begin_ (vs := [.pointer (some ⟨g, 0, none⟩), .int .i64 (k : Int)]) (I := Pm ⟨w, g⟩ (.blk g 82 [.slice A n c, .int .i64 ((p : Int)), .int .i64 (e0)] :: oths g w)) Tryd.func49 rfl rfl rfl ?_ (Pm.atBlk hg)
  refine TC.seq_ ?_
  refine TC.region ?_
  refine TL.val rfl rfl rfl (gives_assign rfl rfl) ?_
  refine TL.end_ ?_
  refine TX.then_ ?_
  refine TC.seq_ ?_
  refine TC.quiet_ (E' := ?_) (by kernel_rfl) (by kernel_rfl) (fun w hw => hw.drawn _) ?_ ?_
  rotate_left
  · refine TQ.val rfl rfl rfl (gives_move rfl rfl) ?_
    refine TQ.val rfl rfl rfl (gives_nilCheck rfl rfl) ?_
    refine TQ.val rfl rfl rfl (gives_field rfl rfl (fun w => fC0 _ w)) ?_
    refine TQ.val rfl rfl rfl (pm_load (k := 0) (i := 0) rfl rfl agS rfl rfl) ?_
    refine TQ.val rfl rfl rfl (gives_move rfl rfl) ?_
    refine TQ.val rfl rfl rfl (gives_nilCheck rfl rfl) ?_
    refine TQ.val rfl rfl rfl (gives_field rfl rfl (fun w => fC1 _ w)) ?_
    refine TQ.val rfl rfl rfl (pm_load (k := 0) (i := 1) rfl rfl agI rfl rfl) ?_
    refine TQ.val rfl rfl rfl (gives_move rfl rfl) ?_
    refine TQ.call (v := .tuple #[.int .i64 (getJ l p k), .int .i64 (getJE l p k)]) rfl rfl rfl rfl rfl Tryd.func65 nmGet bdGet (fun w1 hw => (jget A n c l p k w1 (hsrc w1 _ hw (fun q hq => by simp [hq])) hnc hlim hk1 hk7 hp9).mono fun en w2 ⟨h1, h2⟩ => ⟨h1, hw.below h2⟩) ?_
    refine TQ.val rfl rfl rfl (gives_move rfl rfl) ?_
    refine TQ.val rfl rfl rfl (gives_extract rfl rfl rfl) ?_
    refine TQ.val rfl rfl rfl (gives_extract rfl rfl rfl) ?_
    refine TQ.val rfl rfl rfl (gives_assign rfl rfl) ?_
    refine TQ.val rfl rfl rfl (gives_assign rfl rfl) ?_
    exact TQ.end_
  refine TX.then_ ?_
  refine TC.seq_ ?_
  refine TC.seq_ ?_
  refine TC.region ?_
  refine TL.val rfl rfl rfl (gives_move rfl rfl) ?_
  refine TL.val rfl rfl rfl (gives_nilCheck rfl rfl) ?_
  refine TL.val rfl rfl rfl (gives_field rfl rfl (fun w => fC2 _ w)) ?_
  refine TL.val rfl rfl rfl (pm_load (k := 0) (i := 2) rfl rfl agE rfl rfl) ?_
  refine TL.vsplit rfl rfl rfl (gives_bin rfl rfl rfl (fun w => bin_eql w)) (fun h24 => ?_) (fun h24 => ?_)
  · refine TL.end_ ?_
    refine TX.then_ ?_
    refine TC.condT rfl ?_
    refine TC.region ?_
    refine TL.val rfl rfl rfl (gives_move rfl rfl) ?_
    refine TL.val rfl rfl rfl (gives_move rfl rfl) ?_
    refine TL.val rfl rfl rfl (gives_nilCheck rfl rfl) ?_
    refine TL.val rfl rfl rfl (gives_field rfl rfl (fun w => fC2 _ w)) ?_
    refine TL.pstore (k := 0) (vs := [.int .i64 (getJE l p k)]) rfl rfl rfl rfl rfl rfl rfl (fun w => rfl) one_i (by show 2 + 1 ≤ 3; omega) (L' := .blk g 82 [.slice A n c, .int .i64 ((p : Int)), .int .i64 (getJE l p k)] :: oths g w) rfl ?_
    refine TL.end_ ?_
    refine TX.then_ ?_
    refine TC.seq_ ?_
    refine TC.region ?_
    refine TL.val rfl rfl rfl (gives_move rfl rfl) ?_
    refine TL.val rfl rfl rfl (gives_nilCheck rfl rfl) ?_
    refine TL.val rfl rfl rfl (gives_field rfl rfl (fun w => fC1 _ w)) ?_
    refine TL.val rfl rfl rfl (pm_load (k := 0) (i := 1) rfl rfl agI rfl rfl) ?_
    refine TL.val rfl rfl rfl (gives_move rfl rfl) ?_
    refine TL.val rfl rfl rfl (gives_bin rfl rfl rfl (fun w => bin_add_ (r := ((p + k : Nat) : Int)) (by simp only [IntKind.wrap_i64]; omega) w)) ?_
    refine TL.val rfl rfl rfl (gives_nilCheck rfl rfl) ?_
    refine TL.val rfl rfl rfl (gives_field rfl rfl (fun w => fC1 _ w)) ?_
    refine TL.pstore (k := 0) (vs := [.int .i64 ((p + k : Nat) : Int)]) rfl rfl rfl rfl rfl rfl rfl (fun w => rfl) one_i (by show 1 + 1 ≤ 3; omega) rfl ?_
    refine TL.end_ ?_
    refine TX.then_ ?_
    refine TC.seq_ ?_
    refine TC.region ?_
    refine TL.val rfl rfl rfl (gives_move rfl rfl) ?_
    refine TL.val rfl rfl rfl (gives_assign rfl rfl) ?_
    refine TL.end_ ?_
    refine TX.then_ ?_
    refine TC.ret_ ?_
    exact ret_tmp Tryd.results49 rfl (fun w1 hw => ⟨(), rfl, by rw [if_pos (of_decide_eq_true h24)]; exact Pm.chg [] hw rfl⟩)
  · refine TL.end_ ?_
    refine TX.then_ ?_
    refine TC.condF rfl ?_
    refine TC.skip_ ?_
    refine TX.then_ ?_
    refine TC.seq_ ?_
    refine TC.region ?_
    refine TL.val rfl rfl rfl (gives_move rfl rfl) ?_
    refine TL.val rfl rfl rfl (gives_nilCheck rfl rfl) ?_
    refine TL.val rfl rfl rfl (gives_field rfl rfl (fun w => fC1 _ w)) ?_
    refine TL.val rfl rfl rfl (pm_load (k := 0) (i := 1) rfl rfl agI rfl rfl) ?_
    refine TL.val rfl rfl rfl (gives_move rfl rfl) ?_
    refine TL.val rfl rfl rfl (gives_bin rfl rfl rfl (fun w => bin_add_ (r := ((p + k : Nat) : Int)) (by simp only [IntKind.wrap_i64]; omega) w)) ?_
    refine TL.val rfl rfl rfl (gives_nilCheck rfl rfl) ?_
    refine TL.val rfl rfl rfl (gives_field rfl rfl (fun w => fC1 _ w)) ?_
    refine TL.pstore (k := 0) (vs := [.int .i64 ((p + k : Nat) : Int)]) rfl rfl rfl rfl rfl rfl rfl (fun w => rfl) one_i (by show 1 + 1 ≤ 3; omega) rfl ?_
    refine TL.end_ ?_
    refine TX.then_ ?_
    refine TC.seq_ ?_
    refine TC.region ?_
    refine TL.val rfl rfl rfl (gives_move rfl rfl) ?_
    refine TL.val rfl rfl rfl (gives_assign rfl rfl) ?_
    refine TL.end_ ?_
    refine TX.then_ ?_
    refine TC.ret_ ?_
    exact ret_tmp Tryd.results49 rfl (fun w1 hw => ⟨(), rfl, by rw [if_neg (of_decide_eq_false h24)]; exact Pm.chg [] hw rfl⟩)
end Go.Proofs.YtmeaeeehnkcblaaDoor

namespace Go.Proofs.YtmeaeeehnkcblaaDoor
open Go.RowKit
set_option linter.unusedVariables false
set_option linter.unusedSimpArgs false
set_option maxRecDepth 20000
set_option maxHeartbeats 2000000 in
theorem check_any_ff (v run num at_ dst proto flow ttl back src kind code left id quo : Int) (w : World) :
  Calls Tryd.prog 14 #[.agg #[.int .i64 v, .int .i64 run, .int .i64 num, .int .i64 at_, .int .u32 dst, .int .i64 proto, .int .i64 flow, .int .i64 ttl, .bool false, .bool false, .int .i64 back, .int .u32 src, .int .i64 kind, .int .i64 code, .int .i64 left, .int .i64 id, .int .i64 quo]] w fun e w' => e = .returned (.int .i64 (chkR ⟨v, run, num, at_, dst, proto, flow, ttl, false, false, back, src, kind, code, left, id, quo⟩)) ∧ Below w.heap.size w w' := by
 refine begin_ (vs := [.agg #[.int .i64 v, .int .i64 run, .int .i64 num, .int .i64 at_, .int .u32 dst, .int .i64 proto, .int .i64 flow, .int .i64 ttl, .bool false, .bool false, .int .i64 back, .int .u32 src, .int .i64 kind, .int .i64 code, .int .i64 left, .int .i64 id, .int .i64 quo]]) Tryd.func14 rfl rfl rfl ?_ (Pm.start w)
 refine TC.seq_ (TC.region ?_)
 refine TL.pnew rfl rfl rfl (exec_box (cs := [.int .i64 v, .int .i64 run, .int .i64 num, .int .i64 at_, .int .u32 dst, .int .i64 proto, .int .i64 flow, .int .i64 ttl, .bool false, .bool false, .int .i64 back, .int .u32 src, .int .i64 kind, .int .i64 code, .int .i64 left, .int .i64 id, .int .i64 quo]) rfl rfl rfl) (fun g1 => ?_)
 refine TL.val rfl rfl rfl (gives_assign rfl rfl) ?_
 refine TL.end_ (TX.then_ (TC.seq_ (TC.region ?_)))
 refine TL.val rfl rfl rfl (gives_field rfl rfl (fun w => fR11 _ w)) ?_
 refine TL.val rfl rfl rfl (pm_loadAgg (k := 0) (n := 6) rfl rfl agA szA rfl (Nat.le_refl 17)) ?_
 refine TL.pnew rfl rfl rfl (exec_alloc (cs := [.int .u32 0, .int .i64 0, .int .i64 0, .int .i64 0, .int .i64 0, .int .i64 0]) rfl zeroA rfl) (fun g3 => ?_)
 refine TL.pstore (k := 0) (vs := [.int .u32 src, .int .i64 kind, .int .i64 code, .int .i64 left, .int .i64 id, .int .i64 quo]) rfl rfl rfl rfl rfl rfl rfl szA (oneA _ _ _ _ _ _) (Nat.le_refl 6) (L' := [.blk g3 25 [.int .u32 src, .int .i64 kind, .int .i64 code, .int .i64 left, .int .i64 id, .int .i64 quo], .blk g1 27 [.int .i64 v, .int .i64 run, .int .i64 num, .int .i64 at_, .int .u32 dst, .int .i64 proto, .int .i64 flow, .int .i64 ttl, .bool false, .bool false, .int .i64 back, .int .u32 src, .int .i64 kind, .int .i64 code, .int .i64 left, .int .i64 id, .int .i64 quo]]) rfl ?_
 refine TL.end_ (TX.then_ (TC.seq_ (TC.block (TC.seq_ (TC.seq_ (TC.region ?_))))))
 refine TL.val rfl rfl rfl (gives_field rfl rfl (fun w => fR0 _ w)) ?_
 refine TL.val rfl rfl rfl (pm_load (k := 1) rfl rfl agI rfl rfl) ?_
 refine TL.val rfl rfl rfl (gives_field rfl rfl (fun w => fR1 _ w)) ?_
 refine TL.val rfl rfl rfl (pm_load (k := 1) rfl rfl agI rfl rfl) ?_
 refine TL.callsplit rfl rfl rfl rfl rfl Tryd.func45 nmRun bdRun (fun w1 hw => run_any v run w1) (fun h11 => ?_) (fun h11 => ?_)
 refine TL.val rfl rfl rfl (gives_boolnot rfl rfl) ?_
 refine TL.val rfl rfl rfl (gives_assign rfl rfl) ?_
 refine TL.end_ (TX.then_ (TC.condF rfl (TC.seq_ (TC.region ?_))))
 refine TL.val rfl rfl rfl (gives_field rfl rfl (fun w => fR2 _ w)) ?_
 refine TL.val rfl rfl rfl (pm_load (k := 1) rfl rfl agI rfl rfl) ?_
 refine TL.callsplit rfl rfl rfl rfl rfl Tryd.func46 nmWithin bdWithin (fun w1 hw => within_any (num) (999) w1) (fun h15 => ?_) (fun h15 => ?_)
 refine TL.val rfl rfl rfl (gives_boolnot rfl rfl) ?_
 refine TL.val rfl rfl rfl (gives_assign rfl rfl) ?_
 refine TL.end_ (TX.then_ (TC.condF rfl (TC.seq_ (TC.region ?_))))
 refine TL.val rfl rfl rfl (gives_field rfl rfl (fun w => fR3 _ w)) ?_
 refine TL.val rfl rfl rfl (pm_load (k := 1) rfl rfl agI rfl rfl) ?_
 refine TL.callsplit rfl rfl rfl rfl rfl Tryd.func46 nmWithin bdWithin (fun w1 hw => within_any (at_) (2251799813685248) w1) (fun h19 => ?_) (fun h19 => ?_)
 refine TL.val rfl rfl rfl (gives_boolnot rfl rfl) ?_
 refine TL.val rfl rfl rfl (gives_assign rfl rfl) ?_
 refine TL.end_ (TX.then_ (TC.condF rfl (TC.seq_ (TC.region ?_))))
 refine TL.val rfl rfl rfl (gives_field rfl rfl (fun w => fR10 _ w)) ?_
 refine TL.val rfl rfl rfl (pm_load (k := 1) rfl rfl agI rfl rfl) ?_
 refine TL.callsplit rfl rfl rfl rfl rfl Tryd.func46 nmWithin bdWithin (fun w1 hw => within_any (back) (2251799813685248) w1) (fun h23 => ?_) (fun h23 => ?_)
 refine TL.val rfl rfl rfl (gives_boolnot rfl rfl) ?_
 refine TL.val rfl rfl rfl (gives_assign rfl rfl) ?_
 refine TL.end_ (TX.then_ (TC.condF rfl (TC.seq_ (TC.region ?_))))
 refine TL.val rfl rfl rfl (gives_field rfl rfl (fun w => fR10 _ w)) ?_
 refine TL.val rfl rfl rfl (pm_load (k := 1) rfl rfl agI rfl rfl) ?_
 refine TL.val rfl rfl rfl (gives_field rfl rfl (fun w => fR3 _ w)) ?_
 refine TL.val rfl rfl rfl (pm_load (k := 1) rfl rfl agI rfl rfl) ?_
 refine TL.vsplit rfl rfl rfl (gives_bin rfl rfl rfl (fun w => bin_lss w)) (fun h29 => ?_) (fun h29 => ?_)
 refine TL.val rfl rfl rfl (gives_assign rfl rfl) ?_
 refine TL.end_ (TX.then_ (TC.condT rfl (TC.skip_ (TX.then_ (TC.condT rfl (TC.seq_ (TC.region ?_)))))))
 refine TL.val rfl rfl rfl (gives_assign rfl rfl) ?_
 refine TL.end_ (TX.then_ (TC.ret_ (TX.in_ret (TX.then_ret ?_))))
 refine ret_tmp Tryd.results14 rfl (fun w1 hw => ⟨congrArg (fun x => Ending.returned (.int .i64 x)) ?_, hw.bel⟩)
 rotate_left
 refine TL.val rfl rfl rfl (gives_assign rfl rfl) ?_
 refine TL.end_ (TX.then_ (TC.condF rfl (TC.seq_ (TC.region ?_))))
 refine TL.val rfl rfl rfl (gives_field rfl rfl (fun w => fR6 _ w)) ?_
 refine TL.val rfl rfl rfl (pm_load (k := 1) rfl rfl agI rfl rfl) ?_
 refine TL.callsplit rfl rfl rfl rfl rfl Tryd.func46 nmWithin bdWithin (fun w1 hw => within_any (flow) (1023) w1) (fun h32 => ?_) (fun h32 => ?_)
 refine TL.val rfl rfl rfl (gives_boolnot rfl rfl) ?_
 refine TL.val rfl rfl rfl (gives_assign rfl rfl) ?_
 refine TL.end_ (TX.then_ (TC.condF rfl (TC.region ?_)))
 refine TL.val rfl rfl rfl (gives_field rfl rfl (fun w => fR7 _ w)) ?_
 refine TL.val rfl rfl rfl (pm_load (k := 1) rfl rfl agI rfl rfl) ?_
 refine TL.vsplit rfl rfl rfl (gives_bin rfl rfl rfl (fun w => bin_lss w)) (fun h36 => ?_) (fun h36 => ?_)
 iterate 6 (first | refine TL.off rfl rfl rfl rfl rfl rfl ?_ | refine TL.val rfl rfl rfl (gives_move rfl rfl) ?_ | refine TL.val rfl rfl rfl (gives_pick rfl rfl rfl) ?_ | refine TL.val rfl rfl rfl (gives_assign rfl rfl) ?_)
 refine TL.end_ (TX.then_ (TC.condT rfl (TC.seq_ (TC.region ?_))))
 refine TL.val rfl rfl rfl (gives_assign rfl rfl) ?_
 refine TL.end_ (TX.then_ (TC.ret_ (TX.in_ret (TX.then_ret ?_))))
 refine ret_tmp Tryd.results14 rfl (fun w1 hw => ⟨congrArg (fun x => Ending.returned (.int .i64 x)) ?_, hw.bel⟩)
 rotate_left
 refine TL.val rfl rfl rfl (gives_move rfl rfl) ?_
 refine TL.on rfl rfl rfl ?_
 refine TL.val rfl rfl rfl (gives_field rfl rfl (fun w => fR7 _ w)) ?_
 refine TL.on rfl rfl rfl ?_
 refine TL.val rfl rfl rfl (pm_load (k := 1) rfl rfl agI rfl rfl) ?_
 refine TL.on rfl rfl rfl ?_
 refine TL.vsplit rfl rfl rfl (gives_bin rfl rfl rfl (fun w => bin_gtr w)) (fun h40 => ?_) (fun h40 => ?_)
 refine TL.val rfl rfl rfl (gives_pick rfl rfl rfl) ?_
 refine TL.val rfl rfl rfl (gives_assign rfl rfl) ?_
 refine TL.end_ (TX.then_ (TC.condT rfl (TC.seq_ (TC.region ?_))))
 refine TL.val rfl rfl rfl (gives_assign rfl rfl) ?_
 refine TL.end_ (TX.then_ (TC.ret_ (TX.in_ret (TX.then_ret ?_))))
 refine ret_tmp Tryd.results14 rfl (fun w1 hw => ⟨congrArg (fun x => Ending.returned (.int .i64 x)) ?_, hw.bel⟩)
 rotate_left
 refine TL.val rfl rfl rfl (gives_pick rfl rfl rfl) ?_
 refine TL.val rfl rfl rfl (gives_assign rfl rfl) ?_
 refine TL.end_ (TX.then_ (TC.condF rfl ?_))
 refine TC.join (α := {b : Bool // decide (proto ≠ 1 ∧ proto ≠ 6 ∧ proto ≠ 17) = b}) (fun x => [(1, .pointer (some ⟨g1, 0, none⟩)), (3, .pointer (some ⟨g3, 0, none⟩)), (42, .bool x.1)]) (fun x => Pm w [.blk g3 25 [.int .u32 src, .int .i64 kind, .int .i64 code, .int .i64 left, .int .i64 id, .int .i64 quo], .blk g1 27 [.int .i64 v, .int .i64 run, .int .i64 num, .int .i64 at_, .int .u32 dst, .int .i64 proto, .int .i64 flow, .int .i64 ttl, .bool false, .bool false, .int .i64 back, .int .u32 src, .int .i64 kind, .int .i64 code, .int .i64 left, .int .i64 id, .int .i64 quo]]) ?_ ?_
 refine TC.region ?_
 refine TL.val rfl rfl rfl (gives_field rfl rfl (fun w => fR5 _ w)) ?_
 refine TL.val rfl rfl rfl (pm_load (k := 1) rfl rfl agI rfl rfl) ?_
 refine TL.vsplit rfl rfl rfl (gives_bin rfl rfl rfl (fun w => bin_neq w)) (fun h45 => ?_) (fun h45 => ?_)
 refine TL.val rfl rfl rfl (gives_move rfl rfl) ?_
 refine TL.on rfl rfl rfl ?_
 refine TL.val rfl rfl rfl (gives_field rfl rfl (fun w => fR5 _ w)) ?_
 refine TL.on rfl rfl rfl ?_
 refine TL.val rfl rfl rfl (pm_load (k := 1) rfl rfl agI rfl rfl) ?_
 refine TL.on rfl rfl rfl ?_
 refine TL.vsplit rfl rfl rfl (gives_bin rfl rfl rfl (fun w => bin_neq w)) (fun h49 => ?_) (fun h49 => ?_)
 refine TL.val rfl rfl rfl (gives_pick rfl rfl rfl) ?_
 refine TL.val rfl rfl rfl (gives_move rfl rfl) ?_
 refine TL.on rfl rfl rfl ?_
 refine TL.val rfl rfl rfl (gives_field rfl rfl (fun w => fR5 _ w)) ?_
 refine TL.on rfl rfl rfl ?_
 refine TL.val rfl rfl rfl (pm_load (k := 1) rfl rfl agI rfl rfl) ?_
 refine TL.on rfl rfl rfl ?_
 refine TL.vsplit rfl rfl rfl (gives_bin rfl rfl rfl (fun w => bin_neq w)) (fun h54 => ?_) (fun h54 => ?_)
 refine TL.val rfl rfl rfl (gives_pick rfl rfl rfl) ?_
 refine TL.val rfl rfl rfl (gives_assign rfl rfl) ?_
 refine TL.end_ ?_
 exact TX.joined (⟨true, by simp only [decide_eq_true_eq, decide_eq_false_iff_not] at *; first | omega | (apply decide_eq_true; omega) | (apply decide_eq_false; omega)⟩) (⟨rfl, rfl, rfl, trivial⟩) (fun w hw => hw)
 refine TL.val rfl rfl rfl (gives_pick rfl rfl rfl) ?_
 refine TL.val rfl rfl rfl (gives_assign rfl rfl) ?_
 refine TL.end_ ?_
 exact TX.joined (⟨false, by simp only [decide_eq_true_eq, decide_eq_false_iff_not] at *; first | omega | (apply decide_eq_true; omega) | (apply decide_eq_false; omega)⟩) (⟨rfl, rfl, rfl, trivial⟩) (fun w hw => hw)
 iterate 7 (first | refine TL.off rfl rfl rfl rfl rfl rfl ?_ | refine TL.val rfl rfl rfl (gives_pick rfl rfl rfl) ?_ | refine TL.val rfl rfl rfl (gives_move rfl rfl) ?_ | refine TL.val rfl rfl rfl (gives_assign rfl rfl) ?_)
 refine TL.end_ ?_
 exact TX.joined (⟨false, by simp only [decide_eq_true_eq, decide_eq_false_iff_not] at *; first | omega | (apply decide_eq_true; omega) | (apply decide_eq_false; omega)⟩) (⟨rfl, rfl, rfl, trivial⟩) (fun w hw => hw)
 iterate 11 (first | refine TL.off rfl rfl rfl rfl rfl rfl ?_ | refine TL.val rfl rfl rfl (gives_move rfl rfl) ?_ | refine TL.val rfl rfl rfl (gives_pick rfl rfl rfl) ?_ | refine TL.val rfl rfl rfl (gives_assign rfl rfl) ?_)
 refine TL.end_ ?_
 exact TX.joined (⟨false, by simp only [decide_eq_true_eq, decide_eq_false_iff_not] at *; first | omega | (apply decide_eq_true; omega) | (apply decide_eq_false; omega)⟩) (⟨rfl, rfl, rfl, trivial⟩) (fun w hw => hw)
 rintro ⟨b, hb⟩
 dsimp only
 cases b
 refine TC.condF rfl (TC.seq_ (TC.seq_ (TC.region ?_)))
 refine TL.val rfl rfl rfl (gives_field rfl rfl (fun w => fR9 _ w)) ?_
 refine TL.val rfl rfl rfl (pm_load (k := 1) rfl rfl agB rfl rfl) ?_
 iterate 6 (first | refine TL.off rfl rfl rfl rfl rfl rfl ?_ | refine TL.val rfl rfl rfl (gives_move rfl rfl) ?_ | refine TL.val rfl rfl rfl (gives_pick rfl rfl rfl) ?_ | refine TL.val rfl rfl rfl (gives_assign rfl rfl) ?_)
 refine TL.end_ (TX.then_ (TC.condF rfl (TC.region ?_)))
 refine TL.val rfl rfl rfl (gives_field rfl rfl (fun w => fR8 _ w)) ?_
 refine TL.val rfl rfl rfl (pm_load (k := 1) rfl rfl agB rfl rfl) ?_
 refine TL.val rfl rfl rfl (gives_boolnot rfl rfl) ?_
 refine TL.val rfl rfl rfl (gives_move rfl rfl) ?_
 refine TL.on rfl rfl rfl ?_
 refine TL.val rfl rfl rfl (pm_loadAgg (k := 0) (n := 6) rfl rfl agA szA rfl (Nat.le_refl 6)) ?_
 refine TL.on rfl rfl rfl ?_
 refine TL.val rfl rfl rfl (gives_build rfl rfl (fun w => buildA w)) ?_
 refine TL.on rfl rfl rfl ?_
 refine TL.vsplit rfl rfl rfl (gives_bin2 rfl rfl rfl (fun w => neqA _ _ _ _ _ _ _ _ _ _ _ _ w)) (fun h70 => ?_) (fun h70 => ?_)
 refine TL.val rfl rfl rfl (gives_pick rfl rfl rfl) ?_
 refine TL.val rfl rfl rfl (gives_assign rfl rfl) ?_
 refine TL.end_ (TX.then_ (TC.condT rfl (TC.seq_ (TC.region ?_))))
 refine TL.val rfl rfl rfl (gives_assign rfl rfl) ?_
 refine TL.end_ (TX.then_ (TC.ret_ (TX.in_ret (TX.then_ret ?_))))
 refine ret_tmp Tryd.results14 rfl (fun w1 hw => ⟨congrArg (fun x => Ending.returned (.int .i64 x)) ?_, hw.bel⟩)
 rotate_left
 refine TL.val rfl rfl rfl (gives_pick rfl rfl rfl) ?_
 refine TL.val rfl rfl rfl (gives_assign rfl rfl) ?_
 refine TL.end_ (TX.then_ (TC.condF rfl (TC.seq_ (TC.region ?_))))
 refine TL.val rfl rfl rfl (gives_field rfl rfl (fun w => fR8 _ w)) ?_
 refine TL.val rfl rfl rfl (pm_load (k := 1) rfl rfl agB rfl rfl) ?_
 iterate 35 (first | refine TL.offU rfl rfl rfl rfl rfl ?_ | refine TL.off rfl rfl rfl rfl rfl rfl ?_ | refine TL.val rfl rfl rfl (gives_move rfl rfl) ?_ | refine TL.val rfl rfl rfl (gives_pick rfl rfl rfl) ?_ | refine TL.val rfl rfl rfl (gives_assign rfl rfl) ?_)
 refine TL.end_ (TX.then_ (TC.condF rfl (TC.skip_ (TX.in_normal (TX.then_ (TC.seq_ (TC.region ?_)))))))
 refine TL.val rfl rfl rfl (gives_assign rfl rfl) ?_
 refine TL.end_ (TX.then_ (TC.ret_ ?_))
 refine ret_tmp Tryd.results14 rfl (fun w1 hw => ⟨congrArg (fun x => Ending.returned (.int .i64 x)) ?_, hw.bel⟩)
 rotate_left
 refine TC.condT rfl (TC.seq_ (TC.region ?_))
 refine TL.val rfl rfl rfl (gives_assign rfl rfl) ?_
 refine TL.end_ (TX.then_ (TC.ret_ (TX.in_ret (TX.then_ret ?_))))
 refine ret_tmp Tryd.results14 rfl (fun w1 hw => ⟨congrArg (fun x => Ending.returned (.int .i64 x)) ?_, hw.bel⟩)
 rotate_left
 refine TL.val rfl rfl rfl (gives_boolnot rfl rfl) ?_
 refine TL.val rfl rfl rfl (gives_assign rfl rfl) ?_
 refine TL.end_ (TX.then_ (TC.condT rfl (TC.skip_ (TX.then_ (TC.condT rfl (TC.seq_ (TC.region ?_)))))))
 refine TL.val rfl rfl rfl (gives_assign rfl rfl) ?_
 refine TL.end_ (TX.then_ (TC.ret_ (TX.in_ret (TX.then_ret ?_))))
 refine ret_tmp Tryd.results14 rfl (fun w1 hw => ⟨congrArg (fun x => Ending.returned (.int .i64 x)) ?_, hw.bel⟩)
 rotate_left
 refine TL.val rfl rfl rfl (gives_boolnot rfl rfl) ?_
 refine TL.val rfl rfl rfl (gives_assign rfl rfl) ?_
 refine TL.end_ (TX.then_ (TC.condT rfl (TC.skip_ (TX.then_ (TC.condT rfl (TC.seq_ (TC.region ?_)))))))
 refine TL.val rfl rfl rfl (gives_assign rfl rfl) ?_
 refine TL.end_ (TX.then_ (TC.ret_ (TX.in_ret (TX.then_ret ?_))))
 refine ret_tmp Tryd.results14 rfl (fun w1 hw => ⟨congrArg (fun x => Ending.returned (.int .i64 x)) ?_, hw.bel⟩)
 rotate_left
 refine TL.val rfl rfl rfl (gives_boolnot rfl rfl) ?_
 refine TL.val rfl rfl rfl (gives_assign rfl rfl) ?_
 refine TL.end_ (TX.then_ (TC.condT rfl (TC.skip_ (TX.then_ (TC.condT rfl (TC.seq_ (TC.region ?_)))))))
 refine TL.val rfl rfl rfl (gives_assign rfl rfl) ?_
 refine TL.end_ (TX.then_ (TC.ret_ (TX.in_ret (TX.then_ret ?_))))
 refine ret_tmp Tryd.results14 rfl (fun w1 hw => ⟨congrArg (fun x => Ending.returned (.int .i64 x)) ?_, hw.bel⟩)
 rotate_left
 refine TL.val rfl rfl rfl (gives_boolnot rfl rfl) ?_
 refine TL.val rfl rfl rfl (gives_assign rfl rfl) ?_
 refine TL.end_ (TX.then_ (TC.condT rfl (TC.skip_ (TX.then_ (TC.condT rfl (TC.seq_ (TC.region ?_)))))))
 refine TL.val rfl rfl rfl (gives_assign rfl rfl) ?_
 refine TL.end_ (TX.then_ (TC.ret_ (TX.in_ret (TX.then_ret ?_))))
 refine ret_tmp Tryd.results14 rfl (fun w1 hw => ⟨congrArg (fun x => Ending.returned (.int .i64 x)) ?_, hw.bel⟩)
 rotate_left
 refine TL.val rfl rfl rfl (gives_boolnot rfl rfl) ?_
 refine TL.val rfl rfl rfl (gives_assign rfl rfl) ?_
 refine TL.end_ (TX.then_ (TC.condT rfl (TC.skip_ (TX.then_ (TC.condT rfl (TC.seq_ (TC.region ?_)))))))
 refine TL.val rfl rfl rfl (gives_assign rfl rfl) ?_
 refine TL.end_ (TX.then_ (TC.ret_ (TX.in_ret (TX.then_ret ?_))))
 refine ret_tmp Tryd.results14 rfl (fun w1 hw => ⟨congrArg (fun x => Ending.returned (.int .i64 x)) ?_, hw.bel⟩)
 rotate_left
 all_goals (simp only [decide_eq_true_eq, decide_eq_false_iff_not] at *; first | exact chk_range (by unfold Rs.inRange; dsimp only; omega) | exact chk_ans rfl (by unfold Rs.inRange; dsimp only; omega) (by dsimp only; omega) (by unfold Rs.ansOk; dsimp only; omega) | (simp only [chkR, Rs.inRange, Rs.ansOk, Rs.noAns]; (try split) <;> (try split) <;> (try split) <;> (try split) <;> first | rfl | omega | (simp_all; done) | (simp_all; omega)))
set_option maxHeartbeats 2000000 in
theorem check_any_ft (v run num at_ dst proto flow ttl back src kind code left id quo : Int) (w : World) :
  Calls Tryd.prog 14 #[.agg #[.int .i64 v, .int .i64 run, .int .i64 num, .int .i64 at_, .int .u32 dst, .int .i64 proto, .int .i64 flow, .int .i64 ttl, .bool false, .bool true, .int .i64 back, .int .u32 src, .int .i64 kind, .int .i64 code, .int .i64 left, .int .i64 id, .int .i64 quo]] w fun e w' => e = .returned (.int .i64 (chkR ⟨v, run, num, at_, dst, proto, flow, ttl, false, true, back, src, kind, code, left, id, quo⟩)) ∧ Below w.heap.size w w' := by
 refine begin_ (vs := [.agg #[.int .i64 v, .int .i64 run, .int .i64 num, .int .i64 at_, .int .u32 dst, .int .i64 proto, .int .i64 flow, .int .i64 ttl, .bool false, .bool true, .int .i64 back, .int .u32 src, .int .i64 kind, .int .i64 code, .int .i64 left, .int .i64 id, .int .i64 quo]]) Tryd.func14 rfl rfl rfl ?_ (Pm.start w)
 refine TC.seq_ (TC.region ?_)
 refine TL.pnew rfl rfl rfl (exec_box (cs := [.int .i64 v, .int .i64 run, .int .i64 num, .int .i64 at_, .int .u32 dst, .int .i64 proto, .int .i64 flow, .int .i64 ttl, .bool false, .bool true, .int .i64 back, .int .u32 src, .int .i64 kind, .int .i64 code, .int .i64 left, .int .i64 id, .int .i64 quo]) rfl rfl rfl) (fun g1 => ?_)
 refine TL.val rfl rfl rfl (gives_assign rfl rfl) ?_
 refine TL.end_ (TX.then_ (TC.seq_ (TC.region ?_)))
 refine TL.val rfl rfl rfl (gives_field rfl rfl (fun w => fR11 _ w)) ?_
 refine TL.val rfl rfl rfl (pm_loadAgg (k := 0) (n := 6) rfl rfl agA szA rfl (Nat.le_refl 17)) ?_
 refine TL.pnew rfl rfl rfl (exec_alloc (cs := [.int .u32 0, .int .i64 0, .int .i64 0, .int .i64 0, .int .i64 0, .int .i64 0]) rfl zeroA rfl) (fun g3 => ?_)
 refine TL.pstore (k := 0) (vs := [.int .u32 src, .int .i64 kind, .int .i64 code, .int .i64 left, .int .i64 id, .int .i64 quo]) rfl rfl rfl rfl rfl rfl rfl szA (oneA _ _ _ _ _ _) (Nat.le_refl 6) (L' := [.blk g3 25 [.int .u32 src, .int .i64 kind, .int .i64 code, .int .i64 left, .int .i64 id, .int .i64 quo], .blk g1 27 [.int .i64 v, .int .i64 run, .int .i64 num, .int .i64 at_, .int .u32 dst, .int .i64 proto, .int .i64 flow, .int .i64 ttl, .bool false, .bool true, .int .i64 back, .int .u32 src, .int .i64 kind, .int .i64 code, .int .i64 left, .int .i64 id, .int .i64 quo]]) rfl ?_
 refine TL.end_ (TX.then_ (TC.seq_ (TC.block (TC.seq_ (TC.seq_ (TC.region ?_))))))
 refine TL.val rfl rfl rfl (gives_field rfl rfl (fun w => fR0 _ w)) ?_
 refine TL.val rfl rfl rfl (pm_load (k := 1) rfl rfl agI rfl rfl) ?_
 refine TL.val rfl rfl rfl (gives_field rfl rfl (fun w => fR1 _ w)) ?_
 refine TL.val rfl rfl rfl (pm_load (k := 1) rfl rfl agI rfl rfl) ?_
 refine TL.callsplit rfl rfl rfl rfl rfl Tryd.func45 nmRun bdRun (fun w1 hw => run_any v run w1) (fun h11 => ?_) (fun h11 => ?_)
 refine TL.val rfl rfl rfl (gives_boolnot rfl rfl) ?_
 refine TL.val rfl rfl rfl (gives_assign rfl rfl) ?_
 refine TL.end_ (TX.then_ (TC.condF rfl (TC.seq_ (TC.region ?_))))
 refine TL.val rfl rfl rfl (gives_field rfl rfl (fun w => fR2 _ w)) ?_
 refine TL.val rfl rfl rfl (pm_load (k := 1) rfl rfl agI rfl rfl) ?_
 refine TL.callsplit rfl rfl rfl rfl rfl Tryd.func46 nmWithin bdWithin (fun w1 hw => within_any (num) (999) w1) (fun h15 => ?_) (fun h15 => ?_)
 refine TL.val rfl rfl rfl (gives_boolnot rfl rfl) ?_
 refine TL.val rfl rfl rfl (gives_assign rfl rfl) ?_
 refine TL.end_ (TX.then_ (TC.condF rfl (TC.seq_ (TC.region ?_))))
 refine TL.val rfl rfl rfl (gives_field rfl rfl (fun w => fR3 _ w)) ?_
 refine TL.val rfl rfl rfl (pm_load (k := 1) rfl rfl agI rfl rfl) ?_
 refine TL.callsplit rfl rfl rfl rfl rfl Tryd.func46 nmWithin bdWithin (fun w1 hw => within_any (at_) (2251799813685248) w1) (fun h19 => ?_) (fun h19 => ?_)
 refine TL.val rfl rfl rfl (gives_boolnot rfl rfl) ?_
 refine TL.val rfl rfl rfl (gives_assign rfl rfl) ?_
 refine TL.end_ (TX.then_ (TC.condF rfl (TC.seq_ (TC.region ?_))))
 refine TL.val rfl rfl rfl (gives_field rfl rfl (fun w => fR10 _ w)) ?_
 refine TL.val rfl rfl rfl (pm_load (k := 1) rfl rfl agI rfl rfl) ?_
 refine TL.callsplit rfl rfl rfl rfl rfl Tryd.func46 nmWithin bdWithin (fun w1 hw => within_any (back) (2251799813685248) w1) (fun h23 => ?_) (fun h23 => ?_)
 refine TL.val rfl rfl rfl (gives_boolnot rfl rfl) ?_
 refine TL.val rfl rfl rfl (gives_assign rfl rfl) ?_
 refine TL.end_ (TX.then_ (TC.condF rfl (TC.seq_ (TC.region ?_))))
 refine TL.val rfl rfl rfl (gives_field rfl rfl (fun w => fR10 _ w)) ?_
 refine TL.val rfl rfl rfl (pm_load (k := 1) rfl rfl agI rfl rfl) ?_
 refine TL.val rfl rfl rfl (gives_field rfl rfl (fun w => fR3 _ w)) ?_
 refine TL.val rfl rfl rfl (pm_load (k := 1) rfl rfl agI rfl rfl) ?_
 refine TL.vsplit rfl rfl rfl (gives_bin rfl rfl rfl (fun w => bin_lss w)) (fun h29 => ?_) (fun h29 => ?_)
 refine TL.val rfl rfl rfl (gives_assign rfl rfl) ?_
 refine TL.end_ (TX.then_ (TC.condT rfl (TC.skip_ (TX.then_ (TC.condT rfl (TC.seq_ (TC.region ?_)))))))
 refine TL.val rfl rfl rfl (gives_assign rfl rfl) ?_
 refine TL.end_ (TX.then_ (TC.ret_ (TX.in_ret (TX.then_ret ?_))))
 refine ret_tmp Tryd.results14 rfl (fun w1 hw => ⟨congrArg (fun x => Ending.returned (.int .i64 x)) ?_, hw.bel⟩)
 rotate_left
 refine TL.val rfl rfl rfl (gives_assign rfl rfl) ?_
 refine TL.end_ (TX.then_ (TC.condF rfl (TC.seq_ (TC.region ?_))))
 refine TL.val rfl rfl rfl (gives_field rfl rfl (fun w => fR6 _ w)) ?_
 refine TL.val rfl rfl rfl (pm_load (k := 1) rfl rfl agI rfl rfl) ?_
 refine TL.callsplit rfl rfl rfl rfl rfl Tryd.func46 nmWithin bdWithin (fun w1 hw => within_any (flow) (1023) w1) (fun h32 => ?_) (fun h32 => ?_)
 refine TL.val rfl rfl rfl (gives_boolnot rfl rfl) ?_
 refine TL.val rfl rfl rfl (gives_assign rfl rfl) ?_
 refine TL.end_ (TX.then_ (TC.condF rfl (TC.region ?_)))
 refine TL.val rfl rfl rfl (gives_field rfl rfl (fun w => fR7 _ w)) ?_
 refine TL.val rfl rfl rfl (pm_load (k := 1) rfl rfl agI rfl rfl) ?_
 refine TL.vsplit rfl rfl rfl (gives_bin rfl rfl rfl (fun w => bin_lss w)) (fun h36 => ?_) (fun h36 => ?_)
 iterate 6 (first | refine TL.off rfl rfl rfl rfl rfl rfl ?_ | refine TL.val rfl rfl rfl (gives_move rfl rfl) ?_ | refine TL.val rfl rfl rfl (gives_pick rfl rfl rfl) ?_ | refine TL.val rfl rfl rfl (gives_assign rfl rfl) ?_)
 refine TL.end_ (TX.then_ (TC.condT rfl (TC.seq_ (TC.region ?_))))
 refine TL.val rfl rfl rfl (gives_assign rfl rfl) ?_
 refine TL.end_ (TX.then_ (TC.ret_ (TX.in_ret (TX.then_ret ?_))))
 refine ret_tmp Tryd.results14 rfl (fun w1 hw => ⟨congrArg (fun x => Ending.returned (.int .i64 x)) ?_, hw.bel⟩)
 rotate_left
 refine TL.val rfl rfl rfl (gives_move rfl rfl) ?_
 refine TL.on rfl rfl rfl ?_
 refine TL.val rfl rfl rfl (gives_field rfl rfl (fun w => fR7 _ w)) ?_
 refine TL.on rfl rfl rfl ?_
 refine TL.val rfl rfl rfl (pm_load (k := 1) rfl rfl agI rfl rfl) ?_
 refine TL.on rfl rfl rfl ?_
 refine TL.vsplit rfl rfl rfl (gives_bin rfl rfl rfl (fun w => bin_gtr w)) (fun h40 => ?_) (fun h40 => ?_)
 refine TL.val rfl rfl rfl (gives_pick rfl rfl rfl) ?_
 refine TL.val rfl rfl rfl (gives_assign rfl rfl) ?_
 refine TL.end_ (TX.then_ (TC.condT rfl (TC.seq_ (TC.region ?_))))
 refine TL.val rfl rfl rfl (gives_assign rfl rfl) ?_
 refine TL.end_ (TX.then_ (TC.ret_ (TX.in_ret (TX.then_ret ?_))))
 refine ret_tmp Tryd.results14 rfl (fun w1 hw => ⟨congrArg (fun x => Ending.returned (.int .i64 x)) ?_, hw.bel⟩)
 rotate_left
 refine TL.val rfl rfl rfl (gives_pick rfl rfl rfl) ?_
 refine TL.val rfl rfl rfl (gives_assign rfl rfl) ?_
 refine TL.end_ (TX.then_ (TC.condF rfl ?_))
 refine TC.join (α := {b : Bool // decide (proto ≠ 1 ∧ proto ≠ 6 ∧ proto ≠ 17) = b}) (fun x => [(1, .pointer (some ⟨g1, 0, none⟩)), (3, .pointer (some ⟨g3, 0, none⟩)), (42, .bool x.1)]) (fun x => Pm w [.blk g3 25 [.int .u32 src, .int .i64 kind, .int .i64 code, .int .i64 left, .int .i64 id, .int .i64 quo], .blk g1 27 [.int .i64 v, .int .i64 run, .int .i64 num, .int .i64 at_, .int .u32 dst, .int .i64 proto, .int .i64 flow, .int .i64 ttl, .bool false, .bool true, .int .i64 back, .int .u32 src, .int .i64 kind, .int .i64 code, .int .i64 left, .int .i64 id, .int .i64 quo]]) ?_ ?_
 refine TC.region ?_
 refine TL.val rfl rfl rfl (gives_field rfl rfl (fun w => fR5 _ w)) ?_
 refine TL.val rfl rfl rfl (pm_load (k := 1) rfl rfl agI rfl rfl) ?_
 refine TL.vsplit rfl rfl rfl (gives_bin rfl rfl rfl (fun w => bin_neq w)) (fun h45 => ?_) (fun h45 => ?_)
 refine TL.val rfl rfl rfl (gives_move rfl rfl) ?_
 refine TL.on rfl rfl rfl ?_
 refine TL.val rfl rfl rfl (gives_field rfl rfl (fun w => fR5 _ w)) ?_
 refine TL.on rfl rfl rfl ?_
 refine TL.val rfl rfl rfl (pm_load (k := 1) rfl rfl agI rfl rfl) ?_
 refine TL.on rfl rfl rfl ?_
 refine TL.vsplit rfl rfl rfl (gives_bin rfl rfl rfl (fun w => bin_neq w)) (fun h49 => ?_) (fun h49 => ?_)
 refine TL.val rfl rfl rfl (gives_pick rfl rfl rfl) ?_
 refine TL.val rfl rfl rfl (gives_move rfl rfl) ?_
 refine TL.on rfl rfl rfl ?_
 refine TL.val rfl rfl rfl (gives_field rfl rfl (fun w => fR5 _ w)) ?_
 refine TL.on rfl rfl rfl ?_
 refine TL.val rfl rfl rfl (pm_load (k := 1) rfl rfl agI rfl rfl) ?_
 refine TL.on rfl rfl rfl ?_
 refine TL.vsplit rfl rfl rfl (gives_bin rfl rfl rfl (fun w => bin_neq w)) (fun h54 => ?_) (fun h54 => ?_)
 refine TL.val rfl rfl rfl (gives_pick rfl rfl rfl) ?_
 refine TL.val rfl rfl rfl (gives_assign rfl rfl) ?_
 refine TL.end_ ?_
 exact TX.joined (⟨true, by simp only [decide_eq_true_eq, decide_eq_false_iff_not] at *; first | omega | (apply decide_eq_true; omega) | (apply decide_eq_false; omega)⟩) (⟨rfl, rfl, rfl, trivial⟩) (fun w hw => hw)
 refine TL.val rfl rfl rfl (gives_pick rfl rfl rfl) ?_
 refine TL.val rfl rfl rfl (gives_assign rfl rfl) ?_
 refine TL.end_ ?_
 exact TX.joined (⟨false, by simp only [decide_eq_true_eq, decide_eq_false_iff_not] at *; first | omega | (apply decide_eq_true; omega) | (apply decide_eq_false; omega)⟩) (⟨rfl, rfl, rfl, trivial⟩) (fun w hw => hw)
 iterate 7 (first | refine TL.off rfl rfl rfl rfl rfl rfl ?_ | refine TL.val rfl rfl rfl (gives_pick rfl rfl rfl) ?_ | refine TL.val rfl rfl rfl (gives_move rfl rfl) ?_ | refine TL.val rfl rfl rfl (gives_assign rfl rfl) ?_)
 refine TL.end_ ?_
 exact TX.joined (⟨false, by simp only [decide_eq_true_eq, decide_eq_false_iff_not] at *; first | omega | (apply decide_eq_true; omega) | (apply decide_eq_false; omega)⟩) (⟨rfl, rfl, rfl, trivial⟩) (fun w hw => hw)
 iterate 11 (first | refine TL.off rfl rfl rfl rfl rfl rfl ?_ | refine TL.val rfl rfl rfl (gives_move rfl rfl) ?_ | refine TL.val rfl rfl rfl (gives_pick rfl rfl rfl) ?_ | refine TL.val rfl rfl rfl (gives_assign rfl rfl) ?_)
 refine TL.end_ ?_
 exact TX.joined (⟨false, by simp only [decide_eq_true_eq, decide_eq_false_iff_not] at *; first | omega | (apply decide_eq_true; omega) | (apply decide_eq_false; omega)⟩) (⟨rfl, rfl, rfl, trivial⟩) (fun w hw => hw)
 rintro ⟨b, hb⟩
 dsimp only
 cases b
 refine TC.condF rfl (TC.seq_ (TC.seq_ (TC.region ?_)))
 refine TL.val rfl rfl rfl (gives_field rfl rfl (fun w => fR9 _ w)) ?_
 refine TL.val rfl rfl rfl (pm_load (k := 1) rfl rfl agB rfl rfl) ?_
 refine TL.val rfl rfl rfl (gives_move rfl rfl) ?_
 refine TL.on rfl rfl rfl ?_
 refine TL.val rfl rfl rfl (gives_field rfl rfl (fun w => fR8 _ w)) ?_
 refine TL.on rfl rfl rfl ?_
 refine TL.val rfl rfl rfl (pm_load (k := 1) rfl rfl agB rfl rfl) ?_
 refine TL.on rfl rfl rfl ?_
 refine TL.val rfl rfl rfl (gives_boolnot rfl rfl) ?_
 refine TL.val rfl rfl rfl (gives_pick rfl rfl rfl) ?_
 refine TL.val rfl rfl rfl (gives_assign rfl rfl) ?_
 refine TL.end_ (TX.then_ (TC.condT rfl (TC.skip_ (TX.then_ (TC.condT rfl (TC.seq_ (TC.region ?_)))))))
 refine TL.val rfl rfl rfl (gives_assign rfl rfl) ?_
 refine TL.end_ (TX.then_ (TC.ret_ (TX.in_ret (TX.then_ret ?_))))
 refine ret_tmp Tryd.results14 rfl (fun w1 hw => ⟨congrArg (fun x => Ending.returned (.int .i64 x)) ?_, hw.bel⟩)
 rotate_left
 refine TC.condT rfl (TC.seq_ (TC.region ?_))
 refine TL.val rfl rfl rfl (gives_assign rfl rfl) ?_
 refine TL.end_ (TX.then_ (TC.ret_ (TX.in_ret (TX.then_ret ?_))))
 refine ret_tmp Tryd.results14 rfl (fun w1 hw => ⟨congrArg (fun x => Ending.returned (.int .i64 x)) ?_, hw.bel⟩)
 rotate_left
 refine TL.val rfl rfl rfl (gives_boolnot rfl rfl) ?_
 refine TL.val rfl rfl rfl (gives_assign rfl rfl) ?_
 refine TL.end_ (TX.then_ (TC.condT rfl (TC.skip_ (TX.then_ (TC.condT rfl (TC.seq_ (TC.region ?_)))))))
 refine TL.val rfl rfl rfl (gives_assign rfl rfl) ?_
 refine TL.end_ (TX.then_ (TC.ret_ (TX.in_ret (TX.then_ret ?_))))
 refine ret_tmp Tryd.results14 rfl (fun w1 hw => ⟨congrArg (fun x => Ending.returned (.int .i64 x)) ?_, hw.bel⟩)
 rotate_left
 refine TL.val rfl rfl rfl (gives_boolnot rfl rfl) ?_
 refine TL.val rfl rfl rfl (gives_assign rfl rfl) ?_
 refine TL.end_ (TX.then_ (TC.condT rfl (TC.skip_ (TX.then_ (TC.condT rfl (TC.seq_ (TC.region ?_)))))))
 refine TL.val rfl rfl rfl (gives_assign rfl rfl) ?_
 refine TL.end_ (TX.then_ (TC.ret_ (TX.in_ret (TX.then_ret ?_))))
 refine ret_tmp Tryd.results14 rfl (fun w1 hw => ⟨congrArg (fun x => Ending.returned (.int .i64 x)) ?_, hw.bel⟩)
 rotate_left
 refine TL.val rfl rfl rfl (gives_boolnot rfl rfl) ?_
 refine TL.val rfl rfl rfl (gives_assign rfl rfl) ?_
 refine TL.end_ (TX.then_ (TC.condT rfl (TC.skip_ (TX.then_ (TC.condT rfl (TC.seq_ (TC.region ?_)))))))
 refine TL.val rfl rfl rfl (gives_assign rfl rfl) ?_
 refine TL.end_ (TX.then_ (TC.ret_ (TX.in_ret (TX.then_ret ?_))))
 refine ret_tmp Tryd.results14 rfl (fun w1 hw => ⟨congrArg (fun x => Ending.returned (.int .i64 x)) ?_, hw.bel⟩)
 rotate_left
 refine TL.val rfl rfl rfl (gives_boolnot rfl rfl) ?_
 refine TL.val rfl rfl rfl (gives_assign rfl rfl) ?_
 refine TL.end_ (TX.then_ (TC.condT rfl (TC.skip_ (TX.then_ (TC.condT rfl (TC.seq_ (TC.region ?_)))))))
 refine TL.val rfl rfl rfl (gives_assign rfl rfl) ?_
 refine TL.end_ (TX.then_ (TC.ret_ (TX.in_ret (TX.then_ret ?_))))
 refine ret_tmp Tryd.results14 rfl (fun w1 hw => ⟨congrArg (fun x => Ending.returned (.int .i64 x)) ?_, hw.bel⟩)
 rotate_left
 refine TL.val rfl rfl rfl (gives_boolnot rfl rfl) ?_
 refine TL.val rfl rfl rfl (gives_assign rfl rfl) ?_
 refine TL.end_ (TX.then_ (TC.condT rfl (TC.skip_ (TX.then_ (TC.condT rfl (TC.seq_ (TC.region ?_)))))))
 refine TL.val rfl rfl rfl (gives_assign rfl rfl) ?_
 refine TL.end_ (TX.then_ (TC.ret_ (TX.in_ret (TX.then_ret ?_))))
 refine ret_tmp Tryd.results14 rfl (fun w1 hw => ⟨congrArg (fun x => Ending.returned (.int .i64 x)) ?_, hw.bel⟩)
 rotate_left
 all_goals (simp only [decide_eq_true_eq, decide_eq_false_iff_not] at *; first | exact chk_range (by unfold Rs.inRange; dsimp only; omega) | exact chk_ans rfl (by unfold Rs.inRange; dsimp only; omega) (by dsimp only; omega) (by unfold Rs.ansOk; dsimp only; omega) | (simp only [chkR, Rs.inRange, Rs.ansOk, Rs.noAns]; (try split) <;> (try split) <;> (try split) <;> (try split) <;> first | rfl | omega | (simp_all; done) | (simp_all; omega)))
set_option maxHeartbeats 2000000 in
theorem check_any_tf (v run num at_ dst proto flow ttl back src kind code left id quo : Int) (w : World) :
  Calls Tryd.prog 14 #[.agg #[.int .i64 v, .int .i64 run, .int .i64 num, .int .i64 at_, .int .u32 dst, .int .i64 proto, .int .i64 flow, .int .i64 ttl, .bool true, .bool false, .int .i64 back, .int .u32 src, .int .i64 kind, .int .i64 code, .int .i64 left, .int .i64 id, .int .i64 quo]] w fun e w' => e = .returned (.int .i64 (chkR ⟨v, run, num, at_, dst, proto, flow, ttl, true, false, back, src, kind, code, left, id, quo⟩)) ∧ Below w.heap.size w w' := by
 refine begin_ (vs := [.agg #[.int .i64 v, .int .i64 run, .int .i64 num, .int .i64 at_, .int .u32 dst, .int .i64 proto, .int .i64 flow, .int .i64 ttl, .bool true, .bool false, .int .i64 back, .int .u32 src, .int .i64 kind, .int .i64 code, .int .i64 left, .int .i64 id, .int .i64 quo]]) Tryd.func14 rfl rfl rfl ?_ (Pm.start w)
 refine TC.seq_ (TC.region ?_)
 refine TL.pnew rfl rfl rfl (exec_box (cs := [.int .i64 v, .int .i64 run, .int .i64 num, .int .i64 at_, .int .u32 dst, .int .i64 proto, .int .i64 flow, .int .i64 ttl, .bool true, .bool false, .int .i64 back, .int .u32 src, .int .i64 kind, .int .i64 code, .int .i64 left, .int .i64 id, .int .i64 quo]) rfl rfl rfl) (fun g1 => ?_)
 refine TL.val rfl rfl rfl (gives_assign rfl rfl) ?_
 refine TL.end_ (TX.then_ (TC.seq_ (TC.region ?_)))
 refine TL.val rfl rfl rfl (gives_field rfl rfl (fun w => fR11 _ w)) ?_
 refine TL.val rfl rfl rfl (pm_loadAgg (k := 0) (n := 6) rfl rfl agA szA rfl (Nat.le_refl 17)) ?_
 refine TL.pnew rfl rfl rfl (exec_alloc (cs := [.int .u32 0, .int .i64 0, .int .i64 0, .int .i64 0, .int .i64 0, .int .i64 0]) rfl zeroA rfl) (fun g3 => ?_)
 refine TL.pstore (k := 0) (vs := [.int .u32 src, .int .i64 kind, .int .i64 code, .int .i64 left, .int .i64 id, .int .i64 quo]) rfl rfl rfl rfl rfl rfl rfl szA (oneA _ _ _ _ _ _) (Nat.le_refl 6) (L' := [.blk g3 25 [.int .u32 src, .int .i64 kind, .int .i64 code, .int .i64 left, .int .i64 id, .int .i64 quo], .blk g1 27 [.int .i64 v, .int .i64 run, .int .i64 num, .int .i64 at_, .int .u32 dst, .int .i64 proto, .int .i64 flow, .int .i64 ttl, .bool true, .bool false, .int .i64 back, .int .u32 src, .int .i64 kind, .int .i64 code, .int .i64 left, .int .i64 id, .int .i64 quo]]) rfl ?_
 refine TL.end_ (TX.then_ (TC.seq_ (TC.block (TC.seq_ (TC.seq_ (TC.region ?_))))))
 refine TL.val rfl rfl rfl (gives_field rfl rfl (fun w => fR0 _ w)) ?_
 refine TL.val rfl rfl rfl (pm_load (k := 1) rfl rfl agI rfl rfl) ?_
 refine TL.val rfl rfl rfl (gives_field rfl rfl (fun w => fR1 _ w)) ?_
 refine TL.val rfl rfl rfl (pm_load (k := 1) rfl rfl agI rfl rfl) ?_
 refine TL.callsplit rfl rfl rfl rfl rfl Tryd.func45 nmRun bdRun (fun w1 hw => run_any v run w1) (fun h11 => ?_) (fun h11 => ?_)
 refine TL.val rfl rfl rfl (gives_boolnot rfl rfl) ?_
 refine TL.val rfl rfl rfl (gives_assign rfl rfl) ?_
 refine TL.end_ (TX.then_ (TC.condF rfl (TC.seq_ (TC.region ?_))))
 refine TL.val rfl rfl rfl (gives_field rfl rfl (fun w => fR2 _ w)) ?_
 refine TL.val rfl rfl rfl (pm_load (k := 1) rfl rfl agI rfl rfl) ?_
 refine TL.callsplit rfl rfl rfl rfl rfl Tryd.func46 nmWithin bdWithin (fun w1 hw => within_any (num) (999) w1) (fun h15 => ?_) (fun h15 => ?_)
 refine TL.val rfl rfl rfl (gives_boolnot rfl rfl) ?_
 refine TL.val rfl rfl rfl (gives_assign rfl rfl) ?_
 refine TL.end_ (TX.then_ (TC.condF rfl (TC.seq_ (TC.region ?_))))
 refine TL.val rfl rfl rfl (gives_field rfl rfl (fun w => fR3 _ w)) ?_
 refine TL.val rfl rfl rfl (pm_load (k := 1) rfl rfl agI rfl rfl) ?_
 refine TL.callsplit rfl rfl rfl rfl rfl Tryd.func46 nmWithin bdWithin (fun w1 hw => within_any (at_) (2251799813685248) w1) (fun h19 => ?_) (fun h19 => ?_)
 refine TL.val rfl rfl rfl (gives_boolnot rfl rfl) ?_
 refine TL.val rfl rfl rfl (gives_assign rfl rfl) ?_
 refine TL.end_ (TX.then_ (TC.condF rfl (TC.seq_ (TC.region ?_))))
 refine TL.val rfl rfl rfl (gives_field rfl rfl (fun w => fR10 _ w)) ?_
 refine TL.val rfl rfl rfl (pm_load (k := 1) rfl rfl agI rfl rfl) ?_
 refine TL.callsplit rfl rfl rfl rfl rfl Tryd.func46 nmWithin bdWithin (fun w1 hw => within_any (back) (2251799813685248) w1) (fun h23 => ?_) (fun h23 => ?_)
 refine TL.val rfl rfl rfl (gives_boolnot rfl rfl) ?_
 refine TL.val rfl rfl rfl (gives_assign rfl rfl) ?_
 refine TL.end_ (TX.then_ (TC.condF rfl (TC.seq_ (TC.region ?_))))
 refine TL.val rfl rfl rfl (gives_field rfl rfl (fun w => fR10 _ w)) ?_
 refine TL.val rfl rfl rfl (pm_load (k := 1) rfl rfl agI rfl rfl) ?_
 refine TL.val rfl rfl rfl (gives_field rfl rfl (fun w => fR3 _ w)) ?_
 refine TL.val rfl rfl rfl (pm_load (k := 1) rfl rfl agI rfl rfl) ?_
 refine TL.vsplit rfl rfl rfl (gives_bin rfl rfl rfl (fun w => bin_lss w)) (fun h29 => ?_) (fun h29 => ?_)
 refine TL.val rfl rfl rfl (gives_assign rfl rfl) ?_
 refine TL.end_ (TX.then_ (TC.condT rfl (TC.skip_ (TX.then_ (TC.condT rfl (TC.seq_ (TC.region ?_)))))))
 refine TL.val rfl rfl rfl (gives_assign rfl rfl) ?_
 refine TL.end_ (TX.then_ (TC.ret_ (TX.in_ret (TX.then_ret ?_))))
 refine ret_tmp Tryd.results14 rfl (fun w1 hw => ⟨congrArg (fun x => Ending.returned (.int .i64 x)) ?_, hw.bel⟩)
 rotate_left
 refine TL.val rfl rfl rfl (gives_assign rfl rfl) ?_
 refine TL.end_ (TX.then_ (TC.condF rfl (TC.seq_ (TC.region ?_))))
 refine TL.val rfl rfl rfl (gives_field rfl rfl (fun w => fR6 _ w)) ?_
 refine TL.val rfl rfl rfl (pm_load (k := 1) rfl rfl agI rfl rfl) ?_
 refine TL.callsplit rfl rfl rfl rfl rfl Tryd.func46 nmWithin bdWithin (fun w1 hw => within_any (flow) (1023) w1) (fun h32 => ?_) (fun h32 => ?_)
 refine TL.val rfl rfl rfl (gives_boolnot rfl rfl) ?_
 refine TL.val rfl rfl rfl (gives_assign rfl rfl) ?_
 refine TL.end_ (TX.then_ (TC.condF rfl (TC.region ?_)))
 refine TL.val rfl rfl rfl (gives_field rfl rfl (fun w => fR7 _ w)) ?_
 refine TL.val rfl rfl rfl (pm_load (k := 1) rfl rfl agI rfl rfl) ?_
 refine TL.vsplit rfl rfl rfl (gives_bin rfl rfl rfl (fun w => bin_lss w)) (fun h36 => ?_) (fun h36 => ?_)
 iterate 6 (first | refine TL.off rfl rfl rfl rfl rfl rfl ?_ | refine TL.val rfl rfl rfl (gives_move rfl rfl) ?_ | refine TL.val rfl rfl rfl (gives_pick rfl rfl rfl) ?_ | refine TL.val rfl rfl rfl (gives_assign rfl rfl) ?_)
 refine TL.end_ (TX.then_ (TC.condT rfl (TC.seq_ (TC.region ?_))))
 refine TL.val rfl rfl rfl (gives_assign rfl rfl) ?_
 refine TL.end_ (TX.then_ (TC.ret_ (TX.in_ret (TX.then_ret ?_))))
 refine ret_tmp Tryd.results14 rfl (fun w1 hw => ⟨congrArg (fun x => Ending.returned (.int .i64 x)) ?_, hw.bel⟩)
 rotate_left
 refine TL.val rfl rfl rfl (gives_move rfl rfl) ?_
 refine TL.on rfl rfl rfl ?_
 refine TL.val rfl rfl rfl (gives_field rfl rfl (fun w => fR7 _ w)) ?_
 refine TL.on rfl rfl rfl ?_
 refine TL.val rfl rfl rfl (pm_load (k := 1) rfl rfl agI rfl rfl) ?_
 refine TL.on rfl rfl rfl ?_
 refine TL.vsplit rfl rfl rfl (gives_bin rfl rfl rfl (fun w => bin_gtr w)) (fun h40 => ?_) (fun h40 => ?_)
 refine TL.val rfl rfl rfl (gives_pick rfl rfl rfl) ?_
 refine TL.val rfl rfl rfl (gives_assign rfl rfl) ?_
 refine TL.end_ (TX.then_ (TC.condT rfl (TC.seq_ (TC.region ?_))))
 refine TL.val rfl rfl rfl (gives_assign rfl rfl) ?_
 refine TL.end_ (TX.then_ (TC.ret_ (TX.in_ret (TX.then_ret ?_))))
 refine ret_tmp Tryd.results14 rfl (fun w1 hw => ⟨congrArg (fun x => Ending.returned (.int .i64 x)) ?_, hw.bel⟩)
 rotate_left
 refine TL.val rfl rfl rfl (gives_pick rfl rfl rfl) ?_
 refine TL.val rfl rfl rfl (gives_assign rfl rfl) ?_
 refine TL.end_ (TX.then_ (TC.condF rfl ?_))
 refine TC.join (α := {b : Bool // decide (proto ≠ 1 ∧ proto ≠ 6 ∧ proto ≠ 17) = b}) (fun x => [(1, .pointer (some ⟨g1, 0, none⟩)), (3, .pointer (some ⟨g3, 0, none⟩)), (42, .bool x.1)]) (fun x => Pm w [.blk g3 25 [.int .u32 src, .int .i64 kind, .int .i64 code, .int .i64 left, .int .i64 id, .int .i64 quo], .blk g1 27 [.int .i64 v, .int .i64 run, .int .i64 num, .int .i64 at_, .int .u32 dst, .int .i64 proto, .int .i64 flow, .int .i64 ttl, .bool true, .bool false, .int .i64 back, .int .u32 src, .int .i64 kind, .int .i64 code, .int .i64 left, .int .i64 id, .int .i64 quo]]) ?_ ?_
 refine TC.region ?_
 refine TL.val rfl rfl rfl (gives_field rfl rfl (fun w => fR5 _ w)) ?_
 refine TL.val rfl rfl rfl (pm_load (k := 1) rfl rfl agI rfl rfl) ?_
 refine TL.vsplit rfl rfl rfl (gives_bin rfl rfl rfl (fun w => bin_neq w)) (fun h45 => ?_) (fun h45 => ?_)
 refine TL.val rfl rfl rfl (gives_move rfl rfl) ?_
 refine TL.on rfl rfl rfl ?_
 refine TL.val rfl rfl rfl (gives_field rfl rfl (fun w => fR5 _ w)) ?_
 refine TL.on rfl rfl rfl ?_
 refine TL.val rfl rfl rfl (pm_load (k := 1) rfl rfl agI rfl rfl) ?_
 refine TL.on rfl rfl rfl ?_
 refine TL.vsplit rfl rfl rfl (gives_bin rfl rfl rfl (fun w => bin_neq w)) (fun h49 => ?_) (fun h49 => ?_)
 refine TL.val rfl rfl rfl (gives_pick rfl rfl rfl) ?_
 refine TL.val rfl rfl rfl (gives_move rfl rfl) ?_
 refine TL.on rfl rfl rfl ?_
 refine TL.val rfl rfl rfl (gives_field rfl rfl (fun w => fR5 _ w)) ?_
 refine TL.on rfl rfl rfl ?_
 refine TL.val rfl rfl rfl (pm_load (k := 1) rfl rfl agI rfl rfl) ?_
 refine TL.on rfl rfl rfl ?_
 refine TL.vsplit rfl rfl rfl (gives_bin rfl rfl rfl (fun w => bin_neq w)) (fun h54 => ?_) (fun h54 => ?_)
 refine TL.val rfl rfl rfl (gives_pick rfl rfl rfl) ?_
 refine TL.val rfl rfl rfl (gives_assign rfl rfl) ?_
 refine TL.end_ ?_
 exact TX.joined (⟨true, by simp only [decide_eq_true_eq, decide_eq_false_iff_not] at *; first | omega | (apply decide_eq_true; omega) | (apply decide_eq_false; omega)⟩) (⟨rfl, rfl, rfl, trivial⟩) (fun w hw => hw)
 refine TL.val rfl rfl rfl (gives_pick rfl rfl rfl) ?_
 refine TL.val rfl rfl rfl (gives_assign rfl rfl) ?_
 refine TL.end_ ?_
 exact TX.joined (⟨false, by simp only [decide_eq_true_eq, decide_eq_false_iff_not] at *; first | omega | (apply decide_eq_true; omega) | (apply decide_eq_false; omega)⟩) (⟨rfl, rfl, rfl, trivial⟩) (fun w hw => hw)
 iterate 7 (first | refine TL.off rfl rfl rfl rfl rfl rfl ?_ | refine TL.val rfl rfl rfl (gives_pick rfl rfl rfl) ?_ | refine TL.val rfl rfl rfl (gives_move rfl rfl) ?_ | refine TL.val rfl rfl rfl (gives_assign rfl rfl) ?_)
 refine TL.end_ ?_
 exact TX.joined (⟨false, by simp only [decide_eq_true_eq, decide_eq_false_iff_not] at *; first | omega | (apply decide_eq_true; omega) | (apply decide_eq_false; omega)⟩) (⟨rfl, rfl, rfl, trivial⟩) (fun w hw => hw)
 iterate 11 (first | refine TL.off rfl rfl rfl rfl rfl rfl ?_ | refine TL.val rfl rfl rfl (gives_move rfl rfl) ?_ | refine TL.val rfl rfl rfl (gives_pick rfl rfl rfl) ?_ | refine TL.val rfl rfl rfl (gives_assign rfl rfl) ?_)
 refine TL.end_ ?_
 exact TX.joined (⟨false, by simp only [decide_eq_true_eq, decide_eq_false_iff_not] at *; first | omega | (apply decide_eq_true; omega) | (apply decide_eq_false; omega)⟩) (⟨rfl, rfl, rfl, trivial⟩) (fun w hw => hw)
 rintro ⟨b, hb⟩
 dsimp only
 cases b
 refine TC.condF rfl (TC.seq_ (TC.seq_ (TC.region ?_)))
 refine TL.val rfl rfl rfl (gives_field rfl rfl (fun w => fR9 _ w)) ?_
 refine TL.val rfl rfl rfl (pm_load (k := 1) rfl rfl agB rfl rfl) ?_
 iterate 6 (first | refine TL.off rfl rfl rfl rfl rfl rfl ?_ | refine TL.val rfl rfl rfl (gives_move rfl rfl) ?_ | refine TL.val rfl rfl rfl (gives_pick rfl rfl rfl) ?_ | refine TL.val rfl rfl rfl (gives_assign rfl rfl) ?_)
 refine TL.end_ (TX.then_ (TC.condF rfl (TC.region ?_)))
 refine TL.val rfl rfl rfl (gives_field rfl rfl (fun w => fR8 _ w)) ?_
 refine TL.val rfl rfl rfl (pm_load (k := 1) rfl rfl agB rfl rfl) ?_
 iterate 7 (first | refine TL.off rfl rfl rfl rfl rfl rfl ?_ | refine TL.val rfl rfl rfl (gives_move rfl rfl) ?_ | refine TL.val rfl rfl rfl (gives_pick rfl rfl rfl) ?_ | refine TL.val rfl rfl rfl (gives_assign rfl rfl) ?_ | refine TL.val rfl rfl rfl (gives_boolnot rfl rfl) ?_)
 refine TL.end_ (TX.then_ (TC.condF rfl (TC.seq_ (TC.region ?_))))
 refine TL.val rfl rfl rfl (gives_field rfl rfl (fun w => fR8 _ w)) ?_
 refine TL.val rfl rfl rfl (pm_load (k := 1) rfl rfl agB rfl rfl) ?_
 refine TL.val rfl rfl rfl (gives_move rfl rfl) ?_
 refine TL.on rfl rfl rfl ?_
 refine TL.val rfl rfl rfl (gives_field rfl rfl (fun w => fA1 _ w)) ?_
 refine TL.on rfl rfl rfl ?_
 refine TL.val rfl rfl rfl (pm_load (k := 0) rfl rfl agI rfl rfl) ?_
 refine TL.on rfl rfl rfl ?_
 refine TL.vsplit rfl rfl rfl (gives_bin rfl rfl rfl (fun w => bin_lss w)) (fun h78 => ?_) (fun h78 => ?_)
 iterate 41 (first | refine TL.off rfl rfl rfl rfl rfl rfl ?_ | refine TL.on rfl rfl rfl ?_ | refine TL.val rfl rfl rfl (gives_pick rfl rfl rfl) ?_ | refine TL.val rfl rfl rfl (gives_move rfl rfl) ?_ | refine TL.val rfl rfl rfl (gives_assign rfl rfl) ?_)
 refine TL.end_ (TX.then_ (TC.condT rfl (TC.seq_ (TC.region ?_))))
 refine TL.val rfl rfl rfl (gives_assign rfl rfl) ?_
 refine TL.end_ (TX.then_ (TC.ret_ (TX.in_ret (TX.then_ret ?_))))
 refine ret_tmp Tryd.results14 rfl (fun w1 hw => ⟨congrArg (fun x => Ending.returned (.int .i64 x)) ?_, hw.bel⟩)
 rotate_left
 refine TL.on rfl rfl rfl ?_
 refine TL.val rfl rfl rfl (gives_move rfl rfl) ?_
 refine TL.on rfl rfl rfl ?_
 refine TL.val rfl rfl rfl (gives_field rfl rfl (fun w => fA1 _ w)) ?_
 refine TL.on rfl rfl rfl ?_
 refine TL.val rfl rfl rfl (pm_load (k := 0) rfl rfl agI rfl rfl) ?_
 refine TL.on rfl rfl rfl ?_
 refine TL.vsplit rfl rfl rfl (gives_bin rfl rfl rfl (fun w => bin_gtr w)) (fun h82 => ?_) (fun h82 => ?_)
 iterate 36 (first | refine TL.off rfl rfl rfl rfl rfl rfl ?_ | refine TL.on rfl rfl rfl ?_ | refine TL.val rfl rfl rfl (gives_pick rfl rfl rfl) ?_ | refine TL.val rfl rfl rfl (gives_move rfl rfl) ?_ | refine TL.val rfl rfl rfl (gives_assign rfl rfl) ?_)
 refine TL.end_ (TX.then_ (TC.condT rfl (TC.seq_ (TC.region ?_))))
 refine TL.val rfl rfl rfl (gives_assign rfl rfl) ?_
 refine TL.end_ (TX.then_ (TC.ret_ (TX.in_ret (TX.then_ret ?_))))
 refine ret_tmp Tryd.results14 rfl (fun w1 hw => ⟨congrArg (fun x => Ending.returned (.int .i64 x)) ?_, hw.bel⟩)
 rotate_left
 iterate 5 (first | refine TL.on rfl rfl rfl ?_ | refine TL.val rfl rfl rfl (gives_move rfl rfl) ?_ | refine TL.val rfl rfl rfl (gives_pick rfl rfl rfl) ?_)
 refine TL.val rfl rfl rfl (gives_field rfl rfl (fun w => fA2 _ w)) ?_
 refine TL.on rfl rfl rfl ?_
 refine TL.val rfl rfl rfl (pm_load (k := 0) rfl rfl agI rfl rfl) ?_
 refine TL.on rfl rfl rfl ?_
 refine TL.callsplit rfl rfl rfl rfl rfl Tryd.func46 nmWithin bdWithin (fun w1 hw => within_any (code) (255) w1) (fun h87 => ?_) (fun h87 => ?_)
 iterate 7 (first | refine TL.on rfl rfl rfl ?_ | refine TL.val rfl rfl rfl (gives_move rfl rfl) ?_ | refine TL.val rfl rfl rfl (gives_pick rfl rfl rfl) ?_ | refine TL.val rfl rfl rfl (gives_boolnot rfl rfl) ?_)
 refine TL.val rfl rfl rfl (gives_field rfl rfl (fun w => fA3 _ w)) ?_
 refine TL.on rfl rfl rfl ?_
 refine TL.val rfl rfl rfl (pm_load (k := 0) rfl rfl agI rfl rfl) ?_
 refine TL.on rfl rfl rfl ?_
 refine TL.callsplit rfl rfl rfl rfl rfl Tryd.func46 nmWithin bdWithin (fun w1 hw => within_any (left) (255) w1) (fun h93 => ?_) (fun h93 => ?_)
 iterate 7 (first | refine TL.on rfl rfl rfl ?_ | refine TL.val rfl rfl rfl (gives_move rfl rfl) ?_ | refine TL.val rfl rfl rfl (gives_pick rfl rfl rfl) ?_ | refine TL.val rfl rfl rfl (gives_boolnot rfl rfl) ?_)
 refine TL.val rfl rfl rfl (gives_field rfl rfl (fun w => fA5 _ w)) ?_
 refine TL.on rfl rfl rfl ?_
 refine TL.val rfl rfl rfl (pm_load (k := 0) rfl rfl agI rfl rfl) ?_
 refine TL.on rfl rfl rfl ?_
 refine TL.callsplit rfl rfl rfl rfl rfl Tryd.func46 nmWithin bdWithin (fun w1 hw => within_any (quo) (255) w1) (fun h99 => ?_) (fun h99 => ?_)
 iterate 7 (first | refine TL.on rfl rfl rfl ?_ | refine TL.val rfl rfl rfl (gives_move rfl rfl) ?_ | refine TL.val rfl rfl rfl (gives_pick rfl rfl rfl) ?_ | refine TL.val rfl rfl rfl (gives_boolnot rfl rfl) ?_)
 refine TL.val rfl rfl rfl (gives_field rfl rfl (fun w => fA4 _ w)) ?_
 refine TL.on rfl rfl rfl ?_
 refine TL.val rfl rfl rfl (pm_load (k := 0) rfl rfl agI rfl rfl) ?_
 refine TL.on rfl rfl rfl ?_
 refine TL.callsplit rfl rfl rfl rfl rfl Tryd.func46 nmWithin bdWithin (fun w1 hw => within_any (id) (65535) w1) (fun h105 => ?_) (fun h105 => ?_)
 iterate 6 (first | refine TL.on rfl rfl rfl ?_ | refine TL.val rfl rfl rfl (gives_pick rfl rfl rfl) ?_ | refine TL.val rfl rfl rfl (gives_assign rfl rfl) ?_ | refine TL.val rfl rfl rfl (gives_boolnot rfl rfl) ?_)
 refine TL.end_ (TX.then_ (TC.condF rfl (TC.skip_ (TX.in_normal (TX.then_ (TC.seq_ (TC.region ?_)))))))
 refine TL.val rfl rfl rfl (gives_assign rfl rfl) ?_
 refine TL.end_ (TX.then_ (TC.ret_ ?_))
 refine ret_tmp Tryd.results14 rfl (fun w1 hw => ⟨congrArg (fun x => Ending.returned (.int .i64 x)) ?_, hw.bel⟩)
 rotate_left
 iterate 6 (first | refine TL.on rfl rfl rfl ?_ | refine TL.val rfl rfl rfl (gives_pick rfl rfl rfl) ?_ | refine TL.val rfl rfl rfl (gives_assign rfl rfl) ?_ | refine TL.val rfl rfl rfl (gives_boolnot rfl rfl) ?_)
 refine TL.end_ (TX.then_ (TC.condT rfl (TC.seq_ (TC.region ?_))))
 refine TL.val rfl rfl rfl (gives_assign rfl rfl) ?_
 refine TL.end_ (TX.then_ (TC.ret_ (TX.in_ret (TX.then_ret ?_))))
 refine ret_tmp Tryd.results14 rfl (fun w1 hw => ⟨congrArg (fun x => Ending.returned (.int .i64 x)) ?_, hw.bel⟩)
 rotate_left
 iterate 14 (first | refine TL.off rfl rfl rfl rfl rfl rfl ?_ | refine TL.on rfl rfl rfl ?_ | refine TL.val rfl rfl rfl (gives_pick rfl rfl rfl) ?_ | refine TL.val rfl rfl rfl (gives_move rfl rfl) ?_ | refine TL.val rfl rfl rfl (gives_assign rfl rfl) ?_ | refine TL.val rfl rfl rfl (gives_boolnot rfl rfl) ?_)
 refine TL.end_ (TX.then_ (TC.condT rfl (TC.seq_ (TC.region ?_))))
 refine TL.val rfl rfl rfl (gives_assign rfl rfl) ?_
 refine TL.end_ (TX.then_ (TC.ret_ (TX.in_ret (TX.then_ret ?_))))
 refine ret_tmp Tryd.results14 rfl (fun w1 hw => ⟨congrArg (fun x => Ending.returned (.int .i64 x)) ?_, hw.bel⟩)
 rotate_left
 iterate 22 (first | refine TL.off rfl rfl rfl rfl rfl rfl ?_ | refine TL.on rfl rfl rfl ?_ | refine TL.val rfl rfl rfl (gives_pick rfl rfl rfl) ?_ | refine TL.val rfl rfl rfl (gives_move rfl rfl) ?_ | refine TL.val rfl rfl rfl (gives_assign rfl rfl) ?_ | refine TL.val rfl rfl rfl (gives_boolnot rfl rfl) ?_)
 refine TL.end_ (TX.then_ (TC.condT rfl (TC.seq_ (TC.region ?_))))
 refine TL.val rfl rfl rfl (gives_assign rfl rfl) ?_
 refine TL.end_ (TX.then_ (TC.ret_ (TX.in_ret (TX.then_ret ?_))))
 refine ret_tmp Tryd.results14 rfl (fun w1 hw => ⟨congrArg (fun x => Ending.returned (.int .i64 x)) ?_, hw.bel⟩)
 rotate_left
 iterate 30 (first | refine TL.off rfl rfl rfl rfl rfl rfl ?_ | refine TL.on rfl rfl rfl ?_ | refine TL.val rfl rfl rfl (gives_pick rfl rfl rfl) ?_ | refine TL.val rfl rfl rfl (gives_move rfl rfl) ?_ | refine TL.val rfl rfl rfl (gives_assign rfl rfl) ?_ | refine TL.val rfl rfl rfl (gives_boolnot rfl rfl) ?_)
 refine TL.end_ (TX.then_ (TC.condT rfl (TC.seq_ (TC.region ?_))))
 refine TL.val rfl rfl rfl (gives_assign rfl rfl) ?_
 refine TL.end_ (TX.then_ (TC.ret_ (TX.in_ret (TX.then_ret ?_))))
 refine ret_tmp Tryd.results14 rfl (fun w1 hw => ⟨congrArg (fun x => Ending.returned (.int .i64 x)) ?_, hw.bel⟩)
 rotate_left
 refine TC.condT rfl (TC.seq_ (TC.region ?_))
 refine TL.val rfl rfl rfl (gives_assign rfl rfl) ?_
 refine TL.end_ (TX.then_ (TC.ret_ (TX.in_ret (TX.then_ret ?_))))
 refine ret_tmp Tryd.results14 rfl (fun w1 hw => ⟨congrArg (fun x => Ending.returned (.int .i64 x)) ?_, hw.bel⟩)
 rotate_left
 refine TL.val rfl rfl rfl (gives_boolnot rfl rfl) ?_
 refine TL.val rfl rfl rfl (gives_assign rfl rfl) ?_
 refine TL.end_ (TX.then_ (TC.condT rfl (TC.skip_ (TX.then_ (TC.condT rfl (TC.seq_ (TC.region ?_)))))))
 refine TL.val rfl rfl rfl (gives_assign rfl rfl) ?_
 refine TL.end_ (TX.then_ (TC.ret_ (TX.in_ret (TX.then_ret ?_))))
 refine ret_tmp Tryd.results14 rfl (fun w1 hw => ⟨congrArg (fun x => Ending.returned (.int .i64 x)) ?_, hw.bel⟩)
 rotate_left
 refine TL.val rfl rfl rfl (gives_boolnot rfl rfl) ?_
 refine TL.val rfl rfl rfl (gives_assign rfl rfl) ?_
 refine TL.end_ (TX.then_ (TC.condT rfl (TC.skip_ (TX.then_ (TC.condT rfl (TC.seq_ (TC.region ?_)))))))
 refine TL.val rfl rfl rfl (gives_assign rfl rfl) ?_
 refine TL.end_ (TX.then_ (TC.ret_ (TX.in_ret (TX.then_ret ?_))))
 refine ret_tmp Tryd.results14 rfl (fun w1 hw => ⟨congrArg (fun x => Ending.returned (.int .i64 x)) ?_, hw.bel⟩)
 rotate_left
 refine TL.val rfl rfl rfl (gives_boolnot rfl rfl) ?_
 refine TL.val rfl rfl rfl (gives_assign rfl rfl) ?_
 refine TL.end_ (TX.then_ (TC.condT rfl (TC.skip_ (TX.then_ (TC.condT rfl (TC.seq_ (TC.region ?_)))))))
 refine TL.val rfl rfl rfl (gives_assign rfl rfl) ?_
 refine TL.end_ (TX.then_ (TC.ret_ (TX.in_ret (TX.then_ret ?_))))
 refine ret_tmp Tryd.results14 rfl (fun w1 hw => ⟨congrArg (fun x => Ending.returned (.int .i64 x)) ?_, hw.bel⟩)
 rotate_left
 refine TL.val rfl rfl rfl (gives_boolnot rfl rfl) ?_
 refine TL.val rfl rfl rfl (gives_assign rfl rfl) ?_
 refine TL.end_ (TX.then_ (TC.condT rfl (TC.skip_ (TX.then_ (TC.condT rfl (TC.seq_ (TC.region ?_)))))))
 refine TL.val rfl rfl rfl (gives_assign rfl rfl) ?_
 refine TL.end_ (TX.then_ (TC.ret_ (TX.in_ret (TX.then_ret ?_))))
 refine ret_tmp Tryd.results14 rfl (fun w1 hw => ⟨congrArg (fun x => Ending.returned (.int .i64 x)) ?_, hw.bel⟩)
 rotate_left
 refine TL.val rfl rfl rfl (gives_boolnot rfl rfl) ?_
 refine TL.val rfl rfl rfl (gives_assign rfl rfl) ?_
 refine TL.end_ (TX.then_ (TC.condT rfl (TC.skip_ (TX.then_ (TC.condT rfl (TC.seq_ (TC.region ?_)))))))
 refine TL.val rfl rfl rfl (gives_assign rfl rfl) ?_
 refine TL.end_ (TX.then_ (TC.ret_ (TX.in_ret (TX.then_ret ?_))))
 refine ret_tmp Tryd.results14 rfl (fun w1 hw => ⟨congrArg (fun x => Ending.returned (.int .i64 x)) ?_, hw.bel⟩)
 rotate_left
 all_goals (simp only [decide_eq_true_eq, decide_eq_false_iff_not] at *; first | exact chk_range (by unfold Rs.inRange; dsimp only; omega) | exact chk_ans rfl (by unfold Rs.inRange; dsimp only; omega) (by dsimp only; omega) (by unfold Rs.ansOk; dsimp only; omega) | (simp only [chkR, Rs.inRange, Rs.ansOk, Rs.noAns]; (try split) <;> (try split) <;> (try split) <;> (try split) <;> first | rfl | omega | (simp_all; done) | (simp_all; omega)))
set_option maxHeartbeats 2000000 in
theorem check_any_tt (v run num at_ dst proto flow ttl back src kind code left id quo : Int) (w : World) :
  Calls Tryd.prog 14 #[.agg #[.int .i64 v, .int .i64 run, .int .i64 num, .int .i64 at_, .int .u32 dst, .int .i64 proto, .int .i64 flow, .int .i64 ttl, .bool true, .bool true, .int .i64 back, .int .u32 src, .int .i64 kind, .int .i64 code, .int .i64 left, .int .i64 id, .int .i64 quo]] w fun e w' => e = .returned (.int .i64 (chkR ⟨v, run, num, at_, dst, proto, flow, ttl, true, true, back, src, kind, code, left, id, quo⟩)) ∧ Below w.heap.size w w' := by
 refine begin_ (vs := [.agg #[.int .i64 v, .int .i64 run, .int .i64 num, .int .i64 at_, .int .u32 dst, .int .i64 proto, .int .i64 flow, .int .i64 ttl, .bool true, .bool true, .int .i64 back, .int .u32 src, .int .i64 kind, .int .i64 code, .int .i64 left, .int .i64 id, .int .i64 quo]]) Tryd.func14 rfl rfl rfl ?_ (Pm.start w)
 refine TC.seq_ (TC.region ?_)
 refine TL.pnew rfl rfl rfl (exec_box (cs := [.int .i64 v, .int .i64 run, .int .i64 num, .int .i64 at_, .int .u32 dst, .int .i64 proto, .int .i64 flow, .int .i64 ttl, .bool true, .bool true, .int .i64 back, .int .u32 src, .int .i64 kind, .int .i64 code, .int .i64 left, .int .i64 id, .int .i64 quo]) rfl rfl rfl) (fun g1 => ?_)
 refine TL.val rfl rfl rfl (gives_assign rfl rfl) ?_
 refine TL.end_ (TX.then_ (TC.seq_ (TC.region ?_)))
 refine TL.val rfl rfl rfl (gives_field rfl rfl (fun w => fR11 _ w)) ?_
 refine TL.val rfl rfl rfl (pm_loadAgg (k := 0) (n := 6) rfl rfl agA szA rfl (Nat.le_refl 17)) ?_
 refine TL.pnew rfl rfl rfl (exec_alloc (cs := [.int .u32 0, .int .i64 0, .int .i64 0, .int .i64 0, .int .i64 0, .int .i64 0]) rfl zeroA rfl) (fun g3 => ?_)
 refine TL.pstore (k := 0) (vs := [.int .u32 src, .int .i64 kind, .int .i64 code, .int .i64 left, .int .i64 id, .int .i64 quo]) rfl rfl rfl rfl rfl rfl rfl szA (oneA _ _ _ _ _ _) (Nat.le_refl 6) (L' := [.blk g3 25 [.int .u32 src, .int .i64 kind, .int .i64 code, .int .i64 left, .int .i64 id, .int .i64 quo], .blk g1 27 [.int .i64 v, .int .i64 run, .int .i64 num, .int .i64 at_, .int .u32 dst, .int .i64 proto, .int .i64 flow, .int .i64 ttl, .bool true, .bool true, .int .i64 back, .int .u32 src, .int .i64 kind, .int .i64 code, .int .i64 left, .int .i64 id, .int .i64 quo]]) rfl ?_
 refine TL.end_ (TX.then_ (TC.seq_ (TC.block (TC.seq_ (TC.seq_ (TC.region ?_))))))
 refine TL.val rfl rfl rfl (gives_field rfl rfl (fun w => fR0 _ w)) ?_
 refine TL.val rfl rfl rfl (pm_load (k := 1) rfl rfl agI rfl rfl) ?_
 refine TL.val rfl rfl rfl (gives_field rfl rfl (fun w => fR1 _ w)) ?_
 refine TL.val rfl rfl rfl (pm_load (k := 1) rfl rfl agI rfl rfl) ?_
 refine TL.callsplit rfl rfl rfl rfl rfl Tryd.func45 nmRun bdRun (fun w1 hw => run_any v run w1) (fun h11 => ?_) (fun h11 => ?_)
 refine TL.val rfl rfl rfl (gives_boolnot rfl rfl) ?_
 refine TL.val rfl rfl rfl (gives_assign rfl rfl) ?_
 refine TL.end_ (TX.then_ (TC.condF rfl (TC.seq_ (TC.region ?_))))
 refine TL.val rfl rfl rfl (gives_field rfl rfl (fun w => fR2 _ w)) ?_
 refine TL.val rfl rfl rfl (pm_load (k := 1) rfl rfl agI rfl rfl) ?_
 refine TL.callsplit rfl rfl rfl rfl rfl Tryd.func46 nmWithin bdWithin (fun w1 hw => within_any (num) (999) w1) (fun h15 => ?_) (fun h15 => ?_)
 refine TL.val rfl rfl rfl (gives_boolnot rfl rfl) ?_
 refine TL.val rfl rfl rfl (gives_assign rfl rfl) ?_
 refine TL.end_ (TX.then_ (TC.condF rfl (TC.seq_ (TC.region ?_))))
 refine TL.val rfl rfl rfl (gives_field rfl rfl (fun w => fR3 _ w)) ?_
 refine TL.val rfl rfl rfl (pm_load (k := 1) rfl rfl agI rfl rfl) ?_
 refine TL.callsplit rfl rfl rfl rfl rfl Tryd.func46 nmWithin bdWithin (fun w1 hw => within_any (at_) (2251799813685248) w1) (fun h19 => ?_) (fun h19 => ?_)
 refine TL.val rfl rfl rfl (gives_boolnot rfl rfl) ?_
 refine TL.val rfl rfl rfl (gives_assign rfl rfl) ?_
 refine TL.end_ (TX.then_ (TC.condF rfl (TC.seq_ (TC.region ?_))))
 refine TL.val rfl rfl rfl (gives_field rfl rfl (fun w => fR10 _ w)) ?_
 refine TL.val rfl rfl rfl (pm_load (k := 1) rfl rfl agI rfl rfl) ?_
 refine TL.callsplit rfl rfl rfl rfl rfl Tryd.func46 nmWithin bdWithin (fun w1 hw => within_any (back) (2251799813685248) w1) (fun h23 => ?_) (fun h23 => ?_)
 refine TL.val rfl rfl rfl (gives_boolnot rfl rfl) ?_
 refine TL.val rfl rfl rfl (gives_assign rfl rfl) ?_
 refine TL.end_ (TX.then_ (TC.condF rfl (TC.seq_ (TC.region ?_))))
 refine TL.val rfl rfl rfl (gives_field rfl rfl (fun w => fR10 _ w)) ?_
 refine TL.val rfl rfl rfl (pm_load (k := 1) rfl rfl agI rfl rfl) ?_
 refine TL.val rfl rfl rfl (gives_field rfl rfl (fun w => fR3 _ w)) ?_
 refine TL.val rfl rfl rfl (pm_load (k := 1) rfl rfl agI rfl rfl) ?_
 refine TL.vsplit rfl rfl rfl (gives_bin rfl rfl rfl (fun w => bin_lss w)) (fun h29 => ?_) (fun h29 => ?_)
 refine TL.val rfl rfl rfl (gives_assign rfl rfl) ?_
 refine TL.end_ (TX.then_ (TC.condT rfl (TC.skip_ (TX.then_ (TC.condT rfl (TC.seq_ (TC.region ?_)))))))
 refine TL.val rfl rfl rfl (gives_assign rfl rfl) ?_
 refine TL.end_ (TX.then_ (TC.ret_ (TX.in_ret (TX.then_ret ?_))))
 refine ret_tmp Tryd.results14 rfl (fun w1 hw => ⟨congrArg (fun x => Ending.returned (.int .i64 x)) ?_, hw.bel⟩)
 rotate_left
 refine TL.val rfl rfl rfl (gives_assign rfl rfl) ?_
 refine TL.end_ (TX.then_ (TC.condF rfl (TC.seq_ (TC.region ?_))))
 refine TL.val rfl rfl rfl (gives_field rfl rfl (fun w => fR6 _ w)) ?_
 refine TL.val rfl rfl rfl (pm_load (k := 1) rfl rfl agI rfl rfl) ?_
 refine TL.callsplit rfl rfl rfl rfl rfl Tryd.func46 nmWithin bdWithin (fun w1 hw => within_any (flow) (1023) w1) (fun h32 => ?_) (fun h32 => ?_)
 refine TL.val rfl rfl rfl (gives_boolnot rfl rfl) ?_
 refine TL.val rfl rfl rfl (gives_assign rfl rfl) ?_
 refine TL.end_ (TX.then_ (TC.condF rfl (TC.region ?_)))
 refine TL.val rfl rfl rfl (gives_field rfl rfl (fun w => fR7 _ w)) ?_
 refine TL.val rfl rfl rfl (pm_load (k := 1) rfl rfl agI rfl rfl) ?_
 refine TL.vsplit rfl rfl rfl (gives_bin rfl rfl rfl (fun w => bin_lss w)) (fun h36 => ?_) (fun h36 => ?_)
 iterate 6 (first | refine TL.off rfl rfl rfl rfl rfl rfl ?_ | refine TL.val rfl rfl rfl (gives_move rfl rfl) ?_ | refine TL.val rfl rfl rfl (gives_pick rfl rfl rfl) ?_ | refine TL.val rfl rfl rfl (gives_assign rfl rfl) ?_)
 refine TL.end_ (TX.then_ (TC.condT rfl (TC.seq_ (TC.region ?_))))
 refine TL.val rfl rfl rfl (gives_assign rfl rfl) ?_
 refine TL.end_ (TX.then_ (TC.ret_ (TX.in_ret (TX.then_ret ?_))))
 refine ret_tmp Tryd.results14 rfl (fun w1 hw => ⟨congrArg (fun x => Ending.returned (.int .i64 x)) ?_, hw.bel⟩)
 rotate_left
 refine TL.val rfl rfl rfl (gives_move rfl rfl) ?_
 refine TL.on rfl rfl rfl ?_
 refine TL.val rfl rfl rfl (gives_field rfl rfl (fun w => fR7 _ w)) ?_
 refine TL.on rfl rfl rfl ?_
 refine TL.val rfl rfl rfl (pm_load (k := 1) rfl rfl agI rfl rfl) ?_
 refine TL.on rfl rfl rfl ?_
 refine TL.vsplit rfl rfl rfl (gives_bin rfl rfl rfl (fun w => bin_gtr w)) (fun h40 => ?_) (fun h40 => ?_)
 refine TL.val rfl rfl rfl (gives_pick rfl rfl rfl) ?_
 refine TL.val rfl rfl rfl (gives_assign rfl rfl) ?_
 refine TL.end_ (TX.then_ (TC.condT rfl (TC.seq_ (TC.region ?_))))
 refine TL.val rfl rfl rfl (gives_assign rfl rfl) ?_
 refine TL.end_ (TX.then_ (TC.ret_ (TX.in_ret (TX.then_ret ?_))))
 refine ret_tmp Tryd.results14 rfl (fun w1 hw => ⟨congrArg (fun x => Ending.returned (.int .i64 x)) ?_, hw.bel⟩)
 rotate_left
 refine TL.val rfl rfl rfl (gives_pick rfl rfl rfl) ?_
 refine TL.val rfl rfl rfl (gives_assign rfl rfl) ?_
 refine TL.end_ (TX.then_ (TC.condF rfl ?_))
 refine TC.join (α := {b : Bool // decide (proto ≠ 1 ∧ proto ≠ 6 ∧ proto ≠ 17) = b}) (fun x => [(1, .pointer (some ⟨g1, 0, none⟩)), (3, .pointer (some ⟨g3, 0, none⟩)), (42, .bool x.1)]) (fun x => Pm w [.blk g3 25 [.int .u32 src, .int .i64 kind, .int .i64 code, .int .i64 left, .int .i64 id, .int .i64 quo], .blk g1 27 [.int .i64 v, .int .i64 run, .int .i64 num, .int .i64 at_, .int .u32 dst, .int .i64 proto, .int .i64 flow, .int .i64 ttl, .bool true, .bool true, .int .i64 back, .int .u32 src, .int .i64 kind, .int .i64 code, .int .i64 left, .int .i64 id, .int .i64 quo]]) ?_ ?_
 refine TC.region ?_
 refine TL.val rfl rfl rfl (gives_field rfl rfl (fun w => fR5 _ w)) ?_
 refine TL.val rfl rfl rfl (pm_load (k := 1) rfl rfl agI rfl rfl) ?_
 refine TL.vsplit rfl rfl rfl (gives_bin rfl rfl rfl (fun w => bin_neq w)) (fun h45 => ?_) (fun h45 => ?_)
 refine TL.val rfl rfl rfl (gives_move rfl rfl) ?_
 refine TL.on rfl rfl rfl ?_
 refine TL.val rfl rfl rfl (gives_field rfl rfl (fun w => fR5 _ w)) ?_
 refine TL.on rfl rfl rfl ?_
 refine TL.val rfl rfl rfl (pm_load (k := 1) rfl rfl agI rfl rfl) ?_
 refine TL.on rfl rfl rfl ?_
 refine TL.vsplit rfl rfl rfl (gives_bin rfl rfl rfl (fun w => bin_neq w)) (fun h49 => ?_) (fun h49 => ?_)
 refine TL.val rfl rfl rfl (gives_pick rfl rfl rfl) ?_
 refine TL.val rfl rfl rfl (gives_move rfl rfl) ?_
 refine TL.on rfl rfl rfl ?_
 refine TL.val rfl rfl rfl (gives_field rfl rfl (fun w => fR5 _ w)) ?_
 refine TL.on rfl rfl rfl ?_
 refine TL.val rfl rfl rfl (pm_load (k := 1) rfl rfl agI rfl rfl) ?_
 refine TL.on rfl rfl rfl ?_
 refine TL.vsplit rfl rfl rfl (gives_bin rfl rfl rfl (fun w => bin_neq w)) (fun h54 => ?_) (fun h54 => ?_)
 refine TL.val rfl rfl rfl (gives_pick rfl rfl rfl) ?_
 refine TL.val rfl rfl rfl (gives_assign rfl rfl) ?_
 refine TL.end_ ?_
 exact TX.joined (⟨true, by simp only [decide_eq_true_eq, decide_eq_false_iff_not] at *; first | omega | (apply decide_eq_true; omega) | (apply decide_eq_false; omega)⟩) (⟨rfl, rfl, rfl, trivial⟩) (fun w hw => hw)
 refine TL.val rfl rfl rfl (gives_pick rfl rfl rfl) ?_
 refine TL.val rfl rfl rfl (gives_assign rfl rfl) ?_
 refine TL.end_ ?_
 exact TX.joined (⟨false, by simp only [decide_eq_true_eq, decide_eq_false_iff_not] at *; first | omega | (apply decide_eq_true; omega) | (apply decide_eq_false; omega)⟩) (⟨rfl, rfl, rfl, trivial⟩) (fun w hw => hw)
 iterate 7 (first | refine TL.off rfl rfl rfl rfl rfl rfl ?_ | refine TL.val rfl rfl rfl (gives_pick rfl rfl rfl) ?_ | refine TL.val rfl rfl rfl (gives_move rfl rfl) ?_ | refine TL.val rfl rfl rfl (gives_assign rfl rfl) ?_)
 refine TL.end_ ?_
 exact TX.joined (⟨false, by simp only [decide_eq_true_eq, decide_eq_false_iff_not] at *; first | omega | (apply decide_eq_true; omega) | (apply decide_eq_false; omega)⟩) (⟨rfl, rfl, rfl, trivial⟩) (fun w hw => hw)
 iterate 11 (first | refine TL.off rfl rfl rfl rfl rfl rfl ?_ | refine TL.val rfl rfl rfl (gives_move rfl rfl) ?_ | refine TL.val rfl rfl rfl (gives_pick rfl rfl rfl) ?_ | refine TL.val rfl rfl rfl (gives_assign rfl rfl) ?_)
 refine TL.end_ ?_
 exact TX.joined (⟨false, by simp only [decide_eq_true_eq, decide_eq_false_iff_not] at *; first | omega | (apply decide_eq_true; omega) | (apply decide_eq_false; omega)⟩) (⟨rfl, rfl, rfl, trivial⟩) (fun w hw => hw)
 rintro ⟨b, hb⟩
 dsimp only
 cases b
 refine TC.condF rfl (TC.seq_ (TC.seq_ (TC.region ?_)))
 refine TL.val rfl rfl rfl (gives_field rfl rfl (fun w => fR9 _ w)) ?_
 refine TL.val rfl rfl rfl (pm_load (k := 1) rfl rfl agB rfl rfl) ?_
 refine TL.val rfl rfl rfl (gives_move rfl rfl) ?_
 refine TL.on rfl rfl rfl ?_
 refine TL.val rfl rfl rfl (gives_field rfl rfl (fun w => fR8 _ w)) ?_
 refine TL.on rfl rfl rfl ?_
 refine TL.val rfl rfl rfl (pm_load (k := 1) rfl rfl agB rfl rfl) ?_
 refine TL.on rfl rfl rfl ?_
 refine TL.val rfl rfl rfl (gives_boolnot rfl rfl) ?_
 refine TL.val rfl rfl rfl (gives_pick rfl rfl rfl) ?_
 refine TL.val rfl rfl rfl (gives_assign rfl rfl) ?_
 refine TL.end_ (TX.then_ (TC.condF rfl (TC.region ?_)))
 refine TL.val rfl rfl rfl (gives_field rfl rfl (fun w => fR8 _ w)) ?_
 refine TL.val rfl rfl rfl (pm_load (k := 1) rfl rfl agB rfl rfl) ?_
 iterate 7 (first | refine TL.off rfl rfl rfl rfl rfl rfl ?_ | refine TL.val rfl rfl rfl (gives_move rfl rfl) ?_ | refine TL.val rfl rfl rfl (gives_pick rfl rfl rfl) ?_ | refine TL.val rfl rfl rfl (gives_assign rfl rfl) ?_ | refine TL.val rfl rfl rfl (gives_boolnot rfl rfl) ?_)
 refine TL.end_ (TX.then_ (TC.condF rfl (TC.seq_ (TC.region ?_))))
 refine TL.val rfl rfl rfl (gives_field rfl rfl (fun w => fR8 _ w)) ?_
 refine TL.val rfl rfl rfl (pm_load (k := 1) rfl rfl agB rfl rfl) ?_
 refine TL.val rfl rfl rfl (gives_move rfl rfl) ?_
 refine TL.on rfl rfl rfl ?_
 refine TL.val rfl rfl rfl (gives_field rfl rfl (fun w => fA1 _ w)) ?_
 refine TL.on rfl rfl rfl ?_
 refine TL.val rfl rfl rfl (pm_load (k := 0) rfl rfl agI rfl rfl) ?_
 refine TL.on rfl rfl rfl ?_
 refine TL.vsplit rfl rfl rfl (gives_bin rfl rfl rfl (fun w => bin_lss w)) (fun h78 => ?_) (fun h78 => ?_)
 iterate 41 (first | refine TL.off rfl rfl rfl rfl rfl rfl ?_ | refine TL.on rfl rfl rfl ?_ | refine TL.val rfl rfl rfl (gives_pick rfl rfl rfl) ?_ | refine TL.val rfl rfl rfl (gives_move rfl rfl) ?_ | refine TL.val rfl rfl rfl (gives_assign rfl rfl) ?_)
 refine TL.end_ (TX.then_ (TC.condT rfl (TC.seq_ (TC.region ?_))))
 refine TL.val rfl rfl rfl (gives_assign rfl rfl) ?_
 refine TL.end_ (TX.then_ (TC.ret_ (TX.in_ret (TX.then_ret ?_))))
 refine ret_tmp Tryd.results14 rfl (fun w1 hw => ⟨congrArg (fun x => Ending.returned (.int .i64 x)) ?_, hw.bel⟩)
 rotate_left
 refine TL.on rfl rfl rfl ?_
 refine TL.val rfl rfl rfl (gives_move rfl rfl) ?_
 refine TL.on rfl rfl rfl ?_
 refine TL.val rfl rfl rfl (gives_field rfl rfl (fun w => fA1 _ w)) ?_
 refine TL.on rfl rfl rfl ?_
 refine TL.val rfl rfl rfl (pm_load (k := 0) rfl rfl agI rfl rfl) ?_
 refine TL.on rfl rfl rfl ?_
 refine TL.vsplit rfl rfl rfl (gives_bin rfl rfl rfl (fun w => bin_gtr w)) (fun h82 => ?_) (fun h82 => ?_)
 iterate 36 (first | refine TL.off rfl rfl rfl rfl rfl rfl ?_ | refine TL.on rfl rfl rfl ?_ | refine TL.val rfl rfl rfl (gives_pick rfl rfl rfl) ?_ | refine TL.val rfl rfl rfl (gives_move rfl rfl) ?_ | refine TL.val rfl rfl rfl (gives_assign rfl rfl) ?_)
 refine TL.end_ (TX.then_ (TC.condT rfl (TC.seq_ (TC.region ?_))))
 refine TL.val rfl rfl rfl (gives_assign rfl rfl) ?_
 refine TL.end_ (TX.then_ (TC.ret_ (TX.in_ret (TX.then_ret ?_))))
 refine ret_tmp Tryd.results14 rfl (fun w1 hw => ⟨congrArg (fun x => Ending.returned (.int .i64 x)) ?_, hw.bel⟩)
 rotate_left
 iterate 5 (first | refine TL.on rfl rfl rfl ?_ | refine TL.val rfl rfl rfl (gives_move rfl rfl) ?_ | refine TL.val rfl rfl rfl (gives_pick rfl rfl rfl) ?_)
 refine TL.val rfl rfl rfl (gives_field rfl rfl (fun w => fA2 _ w)) ?_
 refine TL.on rfl rfl rfl ?_
 refine TL.val rfl rfl rfl (pm_load (k := 0) rfl rfl agI rfl rfl) ?_
 refine TL.on rfl rfl rfl ?_
 refine TL.callsplit rfl rfl rfl rfl rfl Tryd.func46 nmWithin bdWithin (fun w1 hw => within_any (code) (255) w1) (fun h87 => ?_) (fun h87 => ?_)
 iterate 7 (first | refine TL.on rfl rfl rfl ?_ | refine TL.val rfl rfl rfl (gives_move rfl rfl) ?_ | refine TL.val rfl rfl rfl (gives_pick rfl rfl rfl) ?_ | refine TL.val rfl rfl rfl (gives_boolnot rfl rfl) ?_)
 refine TL.val rfl rfl rfl (gives_field rfl rfl (fun w => fA3 _ w)) ?_
 refine TL.on rfl rfl rfl ?_
 refine TL.val rfl rfl rfl (pm_load (k := 0) rfl rfl agI rfl rfl) ?_
 refine TL.on rfl rfl rfl ?_
 refine TL.callsplit rfl rfl rfl rfl rfl Tryd.func46 nmWithin bdWithin (fun w1 hw => within_any (left) (255) w1) (fun h93 => ?_) (fun h93 => ?_)
 iterate 7 (first | refine TL.on rfl rfl rfl ?_ | refine TL.val rfl rfl rfl (gives_move rfl rfl) ?_ | refine TL.val rfl rfl rfl (gives_pick rfl rfl rfl) ?_ | refine TL.val rfl rfl rfl (gives_boolnot rfl rfl) ?_)
 refine TL.val rfl rfl rfl (gives_field rfl rfl (fun w => fA5 _ w)) ?_
 refine TL.on rfl rfl rfl ?_
 refine TL.val rfl rfl rfl (pm_load (k := 0) rfl rfl agI rfl rfl) ?_
 refine TL.on rfl rfl rfl ?_
 refine TL.callsplit rfl rfl rfl rfl rfl Tryd.func46 nmWithin bdWithin (fun w1 hw => within_any (quo) (255) w1) (fun h99 => ?_) (fun h99 => ?_)
 iterate 7 (first | refine TL.on rfl rfl rfl ?_ | refine TL.val rfl rfl rfl (gives_move rfl rfl) ?_ | refine TL.val rfl rfl rfl (gives_pick rfl rfl rfl) ?_ | refine TL.val rfl rfl rfl (gives_boolnot rfl rfl) ?_)
 refine TL.val rfl rfl rfl (gives_field rfl rfl (fun w => fA4 _ w)) ?_
 refine TL.on rfl rfl rfl ?_
 refine TL.val rfl rfl rfl (pm_load (k := 0) rfl rfl agI rfl rfl) ?_
 refine TL.on rfl rfl rfl ?_
 refine TL.callsplit rfl rfl rfl rfl rfl Tryd.func46 nmWithin bdWithin (fun w1 hw => within_any (id) (65535) w1) (fun h105 => ?_) (fun h105 => ?_)
 iterate 6 (first | refine TL.on rfl rfl rfl ?_ | refine TL.val rfl rfl rfl (gives_pick rfl rfl rfl) ?_ | refine TL.val rfl rfl rfl (gives_assign rfl rfl) ?_ | refine TL.val rfl rfl rfl (gives_boolnot rfl rfl) ?_)
 refine TL.end_ (TX.then_ (TC.condF rfl (TC.skip_ (TX.in_normal (TX.then_ (TC.seq_ (TC.region ?_)))))))
 refine TL.val rfl rfl rfl (gives_assign rfl rfl) ?_
 refine TL.end_ (TX.then_ (TC.ret_ ?_))
 refine ret_tmp Tryd.results14 rfl (fun w1 hw => ⟨congrArg (fun x => Ending.returned (.int .i64 x)) ?_, hw.bel⟩)
 rotate_left
 iterate 6 (first | refine TL.on rfl rfl rfl ?_ | refine TL.val rfl rfl rfl (gives_pick rfl rfl rfl) ?_ | refine TL.val rfl rfl rfl (gives_assign rfl rfl) ?_ | refine TL.val rfl rfl rfl (gives_boolnot rfl rfl) ?_)
 refine TL.end_ (TX.then_ (TC.condT rfl (TC.seq_ (TC.region ?_))))
 refine TL.val rfl rfl rfl (gives_assign rfl rfl) ?_
 refine TL.end_ (TX.then_ (TC.ret_ (TX.in_ret (TX.then_ret ?_))))
 refine ret_tmp Tryd.results14 rfl (fun w1 hw => ⟨congrArg (fun x => Ending.returned (.int .i64 x)) ?_, hw.bel⟩)
 rotate_left
 iterate 14 (first | refine TL.off rfl rfl rfl rfl rfl rfl ?_ | refine TL.on rfl rfl rfl ?_ | refine TL.val rfl rfl rfl (gives_pick rfl rfl rfl) ?_ | refine TL.val rfl rfl rfl (gives_move rfl rfl) ?_ | refine TL.val rfl rfl rfl (gives_assign rfl rfl) ?_ | refine TL.val rfl rfl rfl (gives_boolnot rfl rfl) ?_)
 refine TL.end_ (TX.then_ (TC.condT rfl (TC.seq_ (TC.region ?_))))
 refine TL.val rfl rfl rfl (gives_assign rfl rfl) ?_
 refine TL.end_ (TX.then_ (TC.ret_ (TX.in_ret (TX.then_ret ?_))))
 refine ret_tmp Tryd.results14 rfl (fun w1 hw => ⟨congrArg (fun x => Ending.returned (.int .i64 x)) ?_, hw.bel⟩)
 rotate_left
 iterate 22 (first | refine TL.off rfl rfl rfl rfl rfl rfl ?_ | refine TL.on rfl rfl rfl ?_ | refine TL.val rfl rfl rfl (gives_pick rfl rfl rfl) ?_ | refine TL.val rfl rfl rfl (gives_move rfl rfl) ?_ | refine TL.val rfl rfl rfl (gives_assign rfl rfl) ?_ | refine TL.val rfl rfl rfl (gives_boolnot rfl rfl) ?_)
 refine TL.end_ (TX.then_ (TC.condT rfl (TC.seq_ (TC.region ?_))))
 refine TL.val rfl rfl rfl (gives_assign rfl rfl) ?_
 refine TL.end_ (TX.then_ (TC.ret_ (TX.in_ret (TX.then_ret ?_))))
 refine ret_tmp Tryd.results14 rfl (fun w1 hw => ⟨congrArg (fun x => Ending.returned (.int .i64 x)) ?_, hw.bel⟩)
 rotate_left
 iterate 30 (first | refine TL.off rfl rfl rfl rfl rfl rfl ?_ | refine TL.on rfl rfl rfl ?_ | refine TL.val rfl rfl rfl (gives_pick rfl rfl rfl) ?_ | refine TL.val rfl rfl rfl (gives_move rfl rfl) ?_ | refine TL.val rfl rfl rfl (gives_assign rfl rfl) ?_ | refine TL.val rfl rfl rfl (gives_boolnot rfl rfl) ?_)
 refine TL.end_ (TX.then_ (TC.condT rfl (TC.seq_ (TC.region ?_))))
 refine TL.val rfl rfl rfl (gives_assign rfl rfl) ?_
 refine TL.end_ (TX.then_ (TC.ret_ (TX.in_ret (TX.then_ret ?_))))
 refine ret_tmp Tryd.results14 rfl (fun w1 hw => ⟨congrArg (fun x => Ending.returned (.int .i64 x)) ?_, hw.bel⟩)
 rotate_left
 refine TC.condT rfl (TC.seq_ (TC.region ?_))
 refine TL.val rfl rfl rfl (gives_assign rfl rfl) ?_
 refine TL.end_ (TX.then_ (TC.ret_ (TX.in_ret (TX.then_ret ?_))))
 refine ret_tmp Tryd.results14 rfl (fun w1 hw => ⟨congrArg (fun x => Ending.returned (.int .i64 x)) ?_, hw.bel⟩)
 rotate_left
 refine TL.val rfl rfl rfl (gives_boolnot rfl rfl) ?_
 refine TL.val rfl rfl rfl (gives_assign rfl rfl) ?_
 refine TL.end_ (TX.then_ (TC.condT rfl (TC.skip_ (TX.then_ (TC.condT rfl (TC.seq_ (TC.region ?_)))))))
 refine TL.val rfl rfl rfl (gives_assign rfl rfl) ?_
 refine TL.end_ (TX.then_ (TC.ret_ (TX.in_ret (TX.then_ret ?_))))
 refine ret_tmp Tryd.results14 rfl (fun w1 hw => ⟨congrArg (fun x => Ending.returned (.int .i64 x)) ?_, hw.bel⟩)
 rotate_left
 refine TL.val rfl rfl rfl (gives_boolnot rfl rfl) ?_
 refine TL.val rfl rfl rfl (gives_assign rfl rfl) ?_
 refine TL.end_ (TX.then_ (TC.condT rfl (TC.skip_ (TX.then_ (TC.condT rfl (TC.seq_ (TC.region ?_)))))))
 refine TL.val rfl rfl rfl (gives_assign rfl rfl) ?_
 refine TL.end_ (TX.then_ (TC.ret_ (TX.in_ret (TX.then_ret ?_))))
 refine ret_tmp Tryd.results14 rfl (fun w1 hw => ⟨congrArg (fun x => Ending.returned (.int .i64 x)) ?_, hw.bel⟩)
 rotate_left
 refine TL.val rfl rfl rfl (gives_boolnot rfl rfl) ?_
 refine TL.val rfl rfl rfl (gives_assign rfl rfl) ?_
 refine TL.end_ (TX.then_ (TC.condT rfl (TC.skip_ (TX.then_ (TC.condT rfl (TC.seq_ (TC.region ?_)))))))
 refine TL.val rfl rfl rfl (gives_assign rfl rfl) ?_
 refine TL.end_ (TX.then_ (TC.ret_ (TX.in_ret (TX.then_ret ?_))))
 refine ret_tmp Tryd.results14 rfl (fun w1 hw => ⟨congrArg (fun x => Ending.returned (.int .i64 x)) ?_, hw.bel⟩)
 rotate_left
 refine TL.val rfl rfl rfl (gives_boolnot rfl rfl) ?_
 refine TL.val rfl rfl rfl (gives_assign rfl rfl) ?_
 refine TL.end_ (TX.then_ (TC.condT rfl (TC.skip_ (TX.then_ (TC.condT rfl (TC.seq_ (TC.region ?_)))))))
 refine TL.val rfl rfl rfl (gives_assign rfl rfl) ?_
 refine TL.end_ (TX.then_ (TC.ret_ (TX.in_ret (TX.then_ret ?_))))
 refine ret_tmp Tryd.results14 rfl (fun w1 hw => ⟨congrArg (fun x => Ending.returned (.int .i64 x)) ?_, hw.bel⟩)
 rotate_left
 refine TL.val rfl rfl rfl (gives_boolnot rfl rfl) ?_
 refine TL.val rfl rfl rfl (gives_assign rfl rfl) ?_
 refine TL.end_ (TX.then_ (TC.condT rfl (TC.skip_ (TX.then_ (TC.condT rfl (TC.seq_ (TC.region ?_)))))))
 refine TL.val rfl rfl rfl (gives_assign rfl rfl) ?_
 refine TL.end_ (TX.then_ (TC.ret_ (TX.in_ret (TX.then_ret ?_))))
 refine ret_tmp Tryd.results14 rfl (fun w1 hw => ⟨congrArg (fun x => Ending.returned (.int .i64 x)) ?_, hw.bel⟩)
 rotate_left
 all_goals (simp only [decide_eq_true_eq, decide_eq_false_iff_not] at *; first | exact chk_range (by unfold Rs.inRange; dsimp only; omega) | exact chk_ans rfl (by unfold Rs.inRange; dsimp only; omega) (by dsimp only; omega) (by unfold Rs.ansOk; dsimp only; omega) | (simp only [chkR, Rs.inRange, Rs.ansOk, Rs.noAns]; (try split) <;> (try split) <;> (try split) <;> (try split) <;> first | rfl | omega | (simp_all; done) | (simp_all; omega)))
theorem check_any (r : Rs) (w : World) :
  Calls Tryd.prog 14 #[.agg r.cells.toArray] w fun e w' => e = .returned (.int .i64 (chkR r)) ∧ Below w.heap.size w w' := by
 obtain ⟨v, run, num, at_, dst, proto, flow, ttl, ans, dbl, back, src, kind, code, left, id, quo⟩ := r
 cases ans <;> cases dbl
 ·exact check_any_ff v run num at_ dst proto flow ttl back src kind code left id quo w
 ·exact check_any_ft v run num at_ dst proto flow ttl back src kind code left id quo w
 ·exact check_any_tf v run num at_ dst proto flow ttl back src kind code left id quo w
 ·exact check_any_tt v run num at_ dst proto flow ttl back src kind code left id quo w
end Go.Proofs.YtmeaeeehnkcblaaDoor

namespace Go.Proofs.YtmeaeeehnkcblaaDoor
open Go.RowKit
set_option linter.unusedVariables false
set_option linter.unusedSimpArgs false
set_option maxRecDepth 20000
set_option maxHeartbeats 2000000 in
theorem rcheck_any_ff (v run num at_ dst proto flow ttl back src kind code left id quo : Int) (w : World) :
  Calls Tryd.prog 15 #[.agg #[.int .i64 v, .int .i64 run, .int .i64 num, .int .i64 at_, .int .u32 dst, .int .i64 proto, .int .i64 flow, .int .i64 ttl, .bool false, .bool false, .int .i64 back, .int .u32 src, .int .i64 kind, .int .i64 code, .int .i64 left, .int .i64 id, .int .i64 quo]] w fun e w' => e = .returned (.int .i64 (chkR ⟨v, run, num, at_, dst, proto, flow, ttl, false, false, back, src, kind, code, left, id, quo⟩)) ∧ Below w.heap.size w w' := by
 refine begin_ (vs := [.agg #[.int .i64 v, .int .i64 run, .int .i64 num, .int .i64 at_, .int .u32 dst, .int .i64 proto, .int .i64 flow, .int .i64 ttl, .bool false, .bool false, .int .i64 back, .int .u32 src, .int .i64 kind, .int .i64 code, .int .i64 left, .int .i64 id, .int .i64 quo]]) Tryd.func15 rfl rfl rfl ?_ (Pm.start w)
 refine TC.seq_ (TC.region ?_)
 refine TL.pnew rfl rfl rfl (exec_box (cs := [.int .i64 v, .int .i64 run, .int .i64 num, .int .i64 at_, .int .u32 dst, .int .i64 proto, .int .i64 flow, .int .i64 ttl, .bool false, .bool false, .int .i64 back, .int .u32 src, .int .i64 kind, .int .i64 code, .int .i64 left, .int .i64 id, .int .i64 quo]) rfl rfl rfl) (fun g1 => ?_)
 refine TL.val rfl rfl rfl (gives_assign rfl rfl) ?_
 refine TL.end_ (TX.then_ (TC.seq_ (TC.seq_ (TC.region ?_))))
 refine TL.val rfl rfl rfl (gives_field rfl rfl (fun w => fR0 _ w)) ?_
 refine TL.val rfl rfl rfl (pm_load (k := 0) rfl rfl agI rfl rfl) ?_
 refine TL.val rfl rfl rfl (gives_field rfl rfl (fun w => fR1 _ w)) ?_
 refine TL.val rfl rfl rfl (pm_load (k := 0) rfl rfl agI rfl rfl) ?_
 refine TL.callsplit rfl rfl rfl rfl rfl Tryd.func47 nmIdent bdIdent (fun w1 hw => ident_any v run w1) (fun h8 => ?_) (fun h8 => ?_)
 refine TL.val rfl rfl rfl (gives_boolnot rfl rfl) ?_
 refine TL.val rfl rfl rfl (gives_move rfl rfl) ?_
 refine TL.on rfl rfl rfl ?_
 refine TL.val rfl rfl rfl (gives_field rfl rfl (fun w => fR2 _ w)) ?_
 refine TL.on rfl rfl rfl ?_
 refine TL.val rfl rfl rfl (pm_load (k := 0) rfl rfl agI rfl rfl) ?_
 refine TL.on rfl rfl rfl ?_
 refine TL.vsplit rfl rfl rfl (gives_bin rfl rfl rfl (fun w => bin_lss w)) (fun h13 => ?_) (fun h13 => ?_)
 iterate 48 (first | refine TL.off rfl rfl rfl rfl rfl rfl ?_ | refine TL.val rfl rfl rfl (gives_pick rfl rfl rfl) ?_ | refine TL.val rfl rfl rfl (gives_move rfl rfl) ?_)
 refine TL.end_ (TX.then_ (TC.condT rfl (TC.seq_ (TC.region ?_))))
 refine TL.val rfl rfl rfl (gives_assign rfl rfl) ?_
 refine TL.end_ (TX.then_ (TC.ret_ (TX.then_ret ?_)))
 refine ret_tmp Tryd.results15 rfl (fun w1 hw => ⟨congrArg (fun x => Ending.returned (.int .i64 x)) ?_, hw.bel⟩)
 rotate_left
 refine TL.val rfl rfl rfl (gives_pick rfl rfl rfl) ?_
 refine TL.val rfl rfl rfl (gives_move rfl rfl) ?_
 refine TL.on rfl rfl rfl ?_
 refine TL.val rfl rfl rfl (gives_field rfl rfl (fun w => fR2 _ w)) ?_
 refine TL.on rfl rfl rfl ?_
 refine TL.val rfl rfl rfl (pm_load (k := 0) rfl rfl agI rfl rfl) ?_
 refine TL.on rfl rfl rfl ?_
 refine TL.vsplit rfl rfl rfl (gives_bin rfl rfl rfl (fun w => bin_geq w)) (fun h18 => ?_) (fun h18 => ?_)
 iterate 43 (first | refine TL.off rfl rfl rfl rfl rfl rfl ?_ | refine TL.val rfl rfl rfl (gives_pick rfl rfl rfl) ?_ | refine TL.val rfl rfl rfl (gives_move rfl rfl) ?_)
 refine TL.end_ (TX.then_ (TC.condT rfl (TC.seq_ (TC.region ?_))))
 refine TL.val rfl rfl rfl (gives_assign rfl rfl) ?_
 refine TL.end_ (TX.then_ (TC.ret_ (TX.then_ret ?_)))
 refine ret_tmp Tryd.results15 rfl (fun w1 hw => ⟨congrArg (fun x => Ending.returned (.int .i64 x)) ?_, hw.bel⟩)
 rotate_left
 refine TL.val rfl rfl rfl (gives_pick rfl rfl rfl) ?_
 refine TL.val rfl rfl rfl (gives_move rfl rfl) ?_
 refine TL.on rfl rfl rfl ?_
 refine TL.val rfl rfl rfl (gives_field rfl rfl (fun w => fR3 _ w)) ?_
 refine TL.on rfl rfl rfl ?_
 refine TL.val rfl rfl rfl (pm_load (k := 0) rfl rfl agI rfl rfl) ?_
 refine TL.on rfl rfl rfl ?_
 refine TL.vsplit rfl rfl rfl (gives_bin rfl rfl rfl (fun w => bin_lss w)) (fun h23 => ?_) (fun h23 => ?_)
 iterate 38 (first | refine TL.off rfl rfl rfl rfl rfl rfl ?_ | refine TL.val rfl rfl rfl (gives_pick rfl rfl rfl) ?_ | refine TL.val rfl rfl rfl (gives_move rfl rfl) ?_)
 refine TL.end_ (TX.then_ (TC.condT rfl (TC.seq_ (TC.region ?_))))
 refine TL.val rfl rfl rfl (gives_assign rfl rfl) ?_
 refine TL.end_ (TX.then_ (TC.ret_ (TX.then_ret ?_)))
 refine ret_tmp Tryd.results15 rfl (fun w1 hw => ⟨congrArg (fun x => Ending.returned (.int .i64 x)) ?_, hw.bel⟩)
 rotate_left
 refine TL.val rfl rfl rfl (gives_pick rfl rfl rfl) ?_
 refine TL.val rfl rfl rfl (gives_move rfl rfl) ?_
 refine TL.on rfl rfl rfl ?_
 refine TL.val rfl rfl rfl (gives_field rfl rfl (fun w => fR3 _ w)) ?_
 refine TL.on rfl rfl rfl ?_
 refine TL.val rfl rfl rfl (pm_load (k := 0) rfl rfl agI rfl rfl) ?_
 refine TL.on rfl rfl rfl ?_
 refine TL.vsplit rfl rfl rfl (gives_bin rfl rfl rfl (fun w => bin_gtr w)) (fun h28 => ?_) (fun h28 => ?_)
 iterate 33 (first | refine TL.off rfl rfl rfl rfl rfl rfl ?_ | refine TL.val rfl rfl rfl (gives_pick rfl rfl rfl) ?_ | refine TL.val rfl rfl rfl (gives_move rfl rfl) ?_)
 refine TL.end_ (TX.then_ (TC.condT rfl (TC.seq_ (TC.region ?_))))
 refine TL.val rfl rfl rfl (gives_assign rfl rfl) ?_
 refine TL.end_ (TX.then_ (TC.ret_ (TX.then_ret ?_)))
 refine ret_tmp Tryd.results15 rfl (fun w1 hw => ⟨congrArg (fun x => Ending.returned (.int .i64 x)) ?_, hw.bel⟩)
 rotate_left
 refine TL.val rfl rfl rfl (gives_pick rfl rfl rfl) ?_
 refine TL.val rfl rfl rfl (gives_move rfl rfl) ?_
 refine TL.on rfl rfl rfl ?_
 refine TL.val rfl rfl rfl (gives_field rfl rfl (fun w => fR10 _ w)) ?_
 refine TL.on rfl rfl rfl ?_
 refine TL.val rfl rfl rfl (pm_load (k := 0) rfl rfl agI rfl rfl) ?_
 refine TL.on rfl rfl rfl ?_
 refine TL.val rfl rfl rfl (gives_field rfl rfl (fun w => fR3 _ w)) ?_
 refine TL.on rfl rfl rfl ?_
 refine TL.val rfl rfl rfl (pm_load (k := 0) rfl rfl agI rfl rfl) ?_
 refine TL.on rfl rfl rfl ?_
 refine TL.vsplit rfl rfl rfl (gives_bin rfl rfl rfl (fun w => bin_lss w)) (fun h35 => ?_) (fun h35 => ?_)
 iterate 26 (first | refine TL.off rfl rfl rfl rfl rfl rfl ?_ | refine TL.val rfl rfl rfl (gives_pick rfl rfl rfl) ?_ | refine TL.val rfl rfl rfl (gives_move rfl rfl) ?_)
 refine TL.end_ (TX.then_ (TC.condT rfl (TC.seq_ (TC.region ?_))))
 refine TL.val rfl rfl rfl (gives_assign rfl rfl) ?_
 refine TL.end_ (TX.then_ (TC.ret_ (TX.then_ret ?_)))
 refine ret_tmp Tryd.results15 rfl (fun w1 hw => ⟨congrArg (fun x => Ending.returned (.int .i64 x)) ?_, hw.bel⟩)
 rotate_left
 refine TL.val rfl rfl rfl (gives_pick rfl rfl rfl) ?_
 refine TL.val rfl rfl rfl (gives_move rfl rfl) ?_
 refine TL.on rfl rfl rfl ?_
 refine TL.val rfl rfl rfl (gives_field rfl rfl (fun w => fR10 _ w)) ?_
 refine TL.on rfl rfl rfl ?_
 refine TL.val rfl rfl rfl (pm_load (k := 0) rfl rfl agI rfl rfl) ?_
 refine TL.on rfl rfl rfl ?_
 refine TL.vsplit rfl rfl rfl (gives_bin rfl rfl rfl (fun w => bin_gtr w)) (fun h40 => ?_) (fun h40 => ?_)
 iterate 21 (first | refine TL.off rfl rfl rfl rfl rfl rfl ?_ | refine TL.val rfl rfl rfl (gives_pick rfl rfl rfl) ?_ | refine TL.val rfl rfl rfl (gives_move rfl rfl) ?_)
 refine TL.end_ (TX.then_ (TC.condT rfl (TC.seq_ (TC.region ?_))))
 refine TL.val rfl rfl rfl (gives_assign rfl rfl) ?_
 refine TL.end_ (TX.then_ (TC.ret_ (TX.then_ret ?_)))
 refine ret_tmp Tryd.results15 rfl (fun w1 hw => ⟨congrArg (fun x => Ending.returned (.int .i64 x)) ?_, hw.bel⟩)
 rotate_left
 refine TL.val rfl rfl rfl (gives_pick rfl rfl rfl) ?_
 refine TL.val rfl rfl rfl (gives_move rfl rfl) ?_
 refine TL.on rfl rfl rfl ?_
 refine TL.val rfl rfl rfl (gives_field rfl rfl (fun w => fR6 _ w)) ?_
 refine TL.on rfl rfl rfl ?_
 refine TL.val rfl rfl rfl (pm_load (k := 0) rfl rfl agI rfl rfl) ?_
 refine TL.on rfl rfl rfl ?_
 refine TL.vsplit rfl rfl rfl (gives_bin rfl rfl rfl (fun w => bin_lss w)) (fun h45 => ?_) (fun h45 => ?_)
 iterate 16 (first | refine TL.off rfl rfl rfl rfl rfl rfl ?_ | refine TL.val rfl rfl rfl (gives_pick rfl rfl rfl) ?_ | refine TL.val rfl rfl rfl (gives_move rfl rfl) ?_)
 refine TL.end_ (TX.then_ (TC.condT rfl (TC.seq_ (TC.region ?_))))
 refine TL.val rfl rfl rfl (gives_assign rfl rfl) ?_
 refine TL.end_ (TX.then_ (TC.ret_ (TX.then_ret ?_)))
 refine ret_tmp Tryd.results15 rfl (fun w1 hw => ⟨congrArg (fun x => Ending.returned (.int .i64 x)) ?_, hw.bel⟩)
 rotate_left
 refine TL.val rfl rfl rfl (gives_pick rfl rfl rfl) ?_
 refine TL.val rfl rfl rfl (gives_move rfl rfl) ?_
 refine TL.on rfl rfl rfl ?_
 refine TL.val rfl rfl rfl (gives_field rfl rfl (fun w => fR6 _ w)) ?_
 refine TL.on rfl rfl rfl ?_
 refine TL.val rfl rfl rfl (pm_load (k := 0) rfl rfl agI rfl rfl) ?_
 refine TL.on rfl rfl rfl ?_
 refine TL.vsplit rfl rfl rfl (gives_bin rfl rfl rfl (fun w => bin_gtr w)) (fun h50 => ?_) (fun h50 => ?_)
 iterate 11 (first | refine TL.off rfl rfl rfl rfl rfl rfl ?_ | refine TL.val rfl rfl rfl (gives_pick rfl rfl rfl) ?_ | refine TL.val rfl rfl rfl (gives_move rfl rfl) ?_)
 refine TL.end_ (TX.then_ (TC.condT rfl (TC.seq_ (TC.region ?_))))
 refine TL.val rfl rfl rfl (gives_assign rfl rfl) ?_
 refine TL.end_ (TX.then_ (TC.ret_ (TX.then_ret ?_)))
 refine ret_tmp Tryd.results15 rfl (fun w1 hw => ⟨congrArg (fun x => Ending.returned (.int .i64 x)) ?_, hw.bel⟩)
 rotate_left
 refine TL.val rfl rfl rfl (gives_pick rfl rfl rfl) ?_
 refine TL.val rfl rfl rfl (gives_move rfl rfl) ?_
 refine TL.on rfl rfl rfl ?_
 refine TL.val rfl rfl rfl (gives_field rfl rfl (fun w => fR7 _ w)) ?_
 refine TL.on rfl rfl rfl ?_
 refine TL.val rfl rfl rfl (pm_load (k := 0) rfl rfl agI rfl rfl) ?_
 refine TL.on rfl rfl rfl ?_
 refine TL.vsplit rfl rfl rfl (gives_bin rfl rfl rfl (fun w => bin_lss w)) (fun h55 => ?_) (fun h55 => ?_)
 iterate 6 (first | refine TL.off rfl rfl rfl rfl rfl rfl ?_ | refine TL.val rfl rfl rfl (gives_pick rfl rfl rfl) ?_ | refine TL.val rfl rfl rfl (gives_move rfl rfl) ?_)
 refine TL.end_ (TX.then_ (TC.condT rfl (TC.seq_ (TC.region ?_))))
 refine TL.val rfl rfl rfl (gives_assign rfl rfl) ?_
 refine TL.end_ (TX.then_ (TC.ret_ (TX.then_ret ?_)))
 refine ret_tmp Tryd.results15 rfl (fun w1 hw => ⟨congrArg (fun x => Ending.returned (.int .i64 x)) ?_, hw.bel⟩)
 rotate_left
 refine TL.val rfl rfl rfl (gives_pick rfl rfl rfl) ?_
 refine TL.val rfl rfl rfl (gives_move rfl rfl) ?_
 refine TL.on rfl rfl rfl ?_
 refine TL.val rfl rfl rfl (gives_field rfl rfl (fun w => fR7 _ w)) ?_
 refine TL.on rfl rfl rfl ?_
 refine TL.val rfl rfl rfl (pm_load (k := 0) rfl rfl agI rfl rfl) ?_
 refine TL.on rfl rfl rfl ?_
 refine TL.vsplit rfl rfl rfl (gives_bin rfl rfl rfl (fun w => bin_gtr w)) (fun h60 => ?_) (fun h60 => ?_)
 refine TL.val rfl rfl rfl (gives_pick rfl rfl rfl) ?_
 refine TL.end_ (TX.then_ (TC.condT rfl (TC.seq_ (TC.region ?_))))
 refine TL.val rfl rfl rfl (gives_assign rfl rfl) ?_
 refine TL.end_ (TX.then_ (TC.ret_ (TX.then_ret ?_)))
 refine ret_tmp Tryd.results15 rfl (fun w1 hw => ⟨congrArg (fun x => Ending.returned (.int .i64 x)) ?_, hw.bel⟩)
 rotate_left
 refine TL.val rfl rfl rfl (gives_pick rfl rfl rfl) ?_
 refine TL.end_ (TX.then_ (TC.condF rfl (TC.skip_ (TX.then_ ?_))))
 refine TC.join (α := PLift (proto = 1 ∨ proto = 6 ∨ proto = 17)) (fun _ => [(1, .pointer (some ⟨g1, 0, none⟩))]) (fun _ => Pm w [.blk g1 27 [.int .i64 v, .int .i64 run, .int .i64 num, .int .i64 at_, .int .u32 dst, .int .i64 proto, .int .i64 flow, .int .i64 ttl, .bool false, .bool false, .int .i64 back, .int .u32 src, .int .i64 kind, .int .i64 code, .int .i64 left, .int .i64 id, .int .i64 quo]]) ?_ ?_
 refine TC.seq_ (TC.region ?_)
 refine TL.val rfl rfl rfl (gives_field rfl rfl (fun w => fR5 _ w)) ?_
 refine TL.val rfl rfl rfl (pm_load (k := 0) rfl rfl agI rfl rfl) ?_
 refine TL.vsplit rfl rfl rfl (gives_bin rfl rfl rfl (fun w => bin_neq w)) (fun h64 => ?_) (fun h64 => ?_)
 refine TL.val rfl rfl rfl (gives_move rfl rfl) ?_
 refine TL.on rfl rfl rfl ?_
 refine TL.val rfl rfl rfl (gives_field rfl rfl (fun w => fR5 _ w)) ?_
 refine TL.on rfl rfl rfl ?_
 refine TL.val rfl rfl rfl (pm_load (k := 0) rfl rfl agI rfl rfl) ?_
 refine TL.on rfl rfl rfl ?_
 refine TL.vsplit rfl rfl rfl (gives_bin rfl rfl rfl (fun w => bin_neq w)) (fun h68 => ?_) (fun h68 => ?_)
 refine TL.val rfl rfl rfl (gives_pick rfl rfl rfl) ?_
 refine TL.val rfl rfl rfl (gives_move rfl rfl) ?_
 refine TL.on rfl rfl rfl ?_
 refine TL.val rfl rfl rfl (gives_field rfl rfl (fun w => fR5 _ w)) ?_
 refine TL.on rfl rfl rfl ?_
 refine TL.val rfl rfl rfl (pm_load (k := 0) rfl rfl agI rfl rfl) ?_
 refine TL.on rfl rfl rfl ?_
 refine TL.vsplit rfl rfl rfl (gives_bin rfl rfl rfl (fun w => bin_neq w)) (fun h73 => ?_) (fun h73 => ?_)
 refine TL.val rfl rfl rfl (gives_pick rfl rfl rfl) ?_
 refine TL.end_ (TX.then_ (TC.condT rfl (TC.seq_ (TC.region ?_))))
 refine TL.val rfl rfl rfl (gives_assign rfl rfl) ?_
 refine TL.end_ (TX.then_ (TC.ret_ (TX.then_ret ?_)))
 refine ret_tmp Tryd.results15 rfl (fun w1 hw => ⟨congrArg (fun x => Ending.returned (.int .i64 x)) ?_, hw.bel⟩)
 rotate_left
 refine TL.val rfl rfl rfl (gives_pick rfl rfl rfl) ?_
 refine TL.end_ (TX.then_ (TC.condF rfl (TC.skip_ ?_)))
 exact TX.joined (⟨by simp only [decide_eq_true_eq, decide_eq_false_iff_not] at *; omega⟩) (⟨rfl, trivial⟩) (fun w hw => hw)
 iterate 6 (first | refine TL.off rfl rfl rfl rfl rfl rfl ?_ | refine TL.val rfl rfl rfl (gives_pick rfl rfl rfl) ?_ | refine TL.val rfl rfl rfl (gives_move rfl rfl) ?_)
 refine TL.end_ (TX.then_ (TC.condF rfl (TC.skip_ ?_)))
 exact TX.joined (⟨by simp only [decide_eq_true_eq, decide_eq_false_iff_not] at *; omega⟩) (⟨rfl, trivial⟩) (fun w hw => hw)
 iterate 10 (first | refine TL.off rfl rfl rfl rfl rfl rfl ?_ | refine TL.val rfl rfl rfl (gives_move rfl rfl) ?_ | refine TL.val rfl rfl rfl (gives_pick rfl rfl rfl) ?_)
 refine TL.end_ (TX.then_ (TC.condF rfl (TC.skip_ ?_)))
 exact TX.joined (⟨by simp only [decide_eq_true_eq, decide_eq_false_iff_not] at *; omega⟩) (⟨rfl, trivial⟩) (fun w hw => hw)
 rintro ⟨hproto⟩
 refine TC.seq_ (TC.region ?_)
 refine TL.val rfl rfl rfl (gives_field rfl rfl (fun w => fR11 _ w)) ?_
 refine TL.val rfl rfl rfl (pm_loadAgg (k := 0) (n := 6) rfl rfl agA szA rfl (Nat.le_refl 17)) ?_
 refine TL.pnew rfl rfl rfl (exec_alloc (cs := [.int .u32 0, .int .i64 0, .int .i64 0, .int .i64 0, .int .i64 0, .int .i64 0]) rfl zeroA rfl) (fun g3 => ?_)
 refine TL.pstore (k := 0) (vs := [.int .u32 src, .int .i64 kind, .int .i64 code, .int .i64 left, .int .i64 id, .int .i64 quo]) rfl rfl rfl rfl rfl rfl rfl szA (oneA _ _ _ _ _ _) (Nat.le_refl 6) (L' := [.blk g3 25 [.int .u32 src, .int .i64 kind, .int .i64 code, .int .i64 left, .int .i64 id, .int .i64 quo], .blk g1 27 [.int .i64 v, .int .i64 run, .int .i64 num, .int .i64 at_, .int .u32 dst, .int .i64 proto, .int .i64 flow, .int .i64 ttl, .bool false, .bool false, .int .i64 back, .int .u32 src, .int .i64 kind, .int .i64 code, .int .i64 left, .int .i64 id, .int .i64 quo]]) rfl ?_
 refine TL.end_ (TX.then_ (TC.seq_ (TC.seq_ (TC.region ?_))))
 refine TL.val rfl rfl rfl (gives_field rfl rfl (fun w => fR8 _ w)) ?_
 refine TL.val rfl rfl rfl (pm_load (k := 1) rfl rfl agB rfl rfl) ?_
 refine TL.val rfl rfl rfl (gives_boolnot rfl rfl) ?_
 refine TL.val rfl rfl rfl (gives_move rfl rfl) ?_
 refine TL.on rfl rfl rfl ?_
 refine TL.val rfl rfl rfl (gives_field rfl rfl (fun w => fR9 _ w)) ?_
 refine TL.on rfl rfl rfl ?_
 refine TL.val rfl rfl rfl (pm_load (k := 1) rfl rfl agB rfl rfl) ?_
 refine TL.on rfl rfl rfl ?_
 refine TL.val rfl rfl rfl (gives_move rfl rfl) ?_
 refine TL.on rfl rfl rfl ?_
 refine TL.val rfl rfl rfl (pm_loadAgg (k := 0) (n := 6) rfl rfl agA szA rfl (Nat.le_refl 6)) ?_
 refine TL.on rfl rfl rfl ?_
 refine TL.val rfl rfl rfl (gives_build rfl rfl (fun w => buildA w)) ?_
 refine TL.on rfl rfl rfl ?_
 refine TL.vsplit rfl rfl rfl (gives_bin2 rfl rfl rfl (fun w => neqA _ _ _ _ _ _ _ _ _ _ _ _ w)) (fun h86 => ?_) (fun h86 => ?_)
 refine TL.on rfl rfl rfl ?_
 refine TL.val rfl rfl rfl (gives_pick rfl rfl rfl) ?_
 refine TL.val rfl rfl rfl (gives_pick rfl rfl rfl) ?_
 refine TL.end_ (TX.then_ (TC.condT rfl (TC.seq_ (TC.region ?_))))
 refine TL.val rfl rfl rfl (gives_assign rfl rfl) ?_
 refine TL.end_ (TX.then_ (TC.ret_ (TX.then_ret ?_)))
 refine ret_tmp Tryd.results15 rfl (fun w1 hw => ⟨congrArg (fun x => Ending.returned (.int .i64 x)) ?_, hw.bel⟩)
 rotate_left
 refine TL.on rfl rfl rfl ?_
 refine TL.val rfl rfl rfl (gives_pick rfl rfl rfl) ?_
 refine TL.val rfl rfl rfl (gives_pick rfl rfl rfl) ?_
 refine TL.end_ (TX.then_ (TC.condF rfl (TC.skip_ (TX.then_ (TC.seq_ (TC.seq_ (TC.region ?_)))))))
 refine TL.val rfl rfl rfl (gives_field rfl rfl (fun w => fR8 _ w)) ?_
 refine TL.val rfl rfl rfl (pm_load (k := 1) rfl rfl agB rfl rfl) ?_
 iterate 38 (first | refine TL.offU rfl rfl rfl rfl rfl ?_ | refine TL.off rfl rfl rfl rfl rfl rfl ?_ | refine TL.val rfl rfl rfl (gives_move rfl rfl) ?_ | refine TL.val rfl rfl rfl (gives_pick rfl rfl rfl) ?_)
 refine TL.end_ (TX.then_ (TC.condF rfl (TC.skip_ (TX.then_ (TC.seq_ (TC.region ?_))))))
 refine TL.val rfl rfl rfl (gives_assign rfl rfl) ?_
 refine TL.end_ (TX.then_ (TC.ret_ ?_))
 refine ret_tmp Tryd.results15 rfl (fun w1 hw => ⟨congrArg (fun x => Ending.returned (.int .i64 x)) ?_, hw.bel⟩)
 rotate_left
 iterate 53 (first | refine TL.off rfl rfl rfl rfl rfl rfl ?_ | refine TL.val rfl rfl rfl (gives_move rfl rfl) ?_ | refine TL.val rfl rfl rfl (gives_pick rfl rfl rfl) ?_ | refine TL.val rfl rfl rfl (gives_boolnot rfl rfl) ?_)
 refine TL.end_ (TX.then_ (TC.condT rfl (TC.seq_ (TC.region ?_))))
 refine TL.val rfl rfl rfl (gives_assign rfl rfl) ?_
 refine TL.end_ (TX.then_ (TC.ret_ (TX.then_ret ?_)))
 refine ret_tmp Tryd.results15 rfl (fun w1 hw => ⟨congrArg (fun x => Ending.returned (.int .i64 x)) ?_, hw.bel⟩)
 rotate_left
 all_goals (simp only [decide_eq_true_eq, decide_eq_false_iff_not] at *; first | exact chk_range (by unfold Rs.inRange; dsimp only; omega) | exact chk_ans rfl (by unfold Rs.inRange; dsimp only; omega) (by dsimp only; omega) (by unfold Rs.ansOk; dsimp only; omega) | (simp only [chkR, Rs.inRange, Rs.ansOk, Rs.noAns]; (try split) <;> (try split) <;> (try split) <;> (try split) <;> first | rfl | omega | (simp_all; done) | (simp_all; omega)))
set_option maxHeartbeats 2000000 in
theorem rcheck_any_ft (v run num at_ dst proto flow ttl back src kind code left id quo : Int) (w : World) :
  Calls Tryd.prog 15 #[.agg #[.int .i64 v, .int .i64 run, .int .i64 num, .int .i64 at_, .int .u32 dst, .int .i64 proto, .int .i64 flow, .int .i64 ttl, .bool false, .bool true, .int .i64 back, .int .u32 src, .int .i64 kind, .int .i64 code, .int .i64 left, .int .i64 id, .int .i64 quo]] w fun e w' => e = .returned (.int .i64 (chkR ⟨v, run, num, at_, dst, proto, flow, ttl, false, true, back, src, kind, code, left, id, quo⟩)) ∧ Below w.heap.size w w' := by
 refine begin_ (vs := [.agg #[.int .i64 v, .int .i64 run, .int .i64 num, .int .i64 at_, .int .u32 dst, .int .i64 proto, .int .i64 flow, .int .i64 ttl, .bool false, .bool true, .int .i64 back, .int .u32 src, .int .i64 kind, .int .i64 code, .int .i64 left, .int .i64 id, .int .i64 quo]]) Tryd.func15 rfl rfl rfl ?_ (Pm.start w)
 refine TC.seq_ (TC.region ?_)
 refine TL.pnew rfl rfl rfl (exec_box (cs := [.int .i64 v, .int .i64 run, .int .i64 num, .int .i64 at_, .int .u32 dst, .int .i64 proto, .int .i64 flow, .int .i64 ttl, .bool false, .bool true, .int .i64 back, .int .u32 src, .int .i64 kind, .int .i64 code, .int .i64 left, .int .i64 id, .int .i64 quo]) rfl rfl rfl) (fun g1 => ?_)
 refine TL.val rfl rfl rfl (gives_assign rfl rfl) ?_
 refine TL.end_ (TX.then_ (TC.seq_ (TC.seq_ (TC.region ?_))))
 refine TL.val rfl rfl rfl (gives_field rfl rfl (fun w => fR0 _ w)) ?_
 refine TL.val rfl rfl rfl (pm_load (k := 0) rfl rfl agI rfl rfl) ?_
 refine TL.val rfl rfl rfl (gives_field rfl rfl (fun w => fR1 _ w)) ?_
 refine TL.val rfl rfl rfl (pm_load (k := 0) rfl rfl agI rfl rfl) ?_
 refine TL.callsplit rfl rfl rfl rfl rfl Tryd.func47 nmIdent bdIdent (fun w1 hw => ident_any v run w1) (fun h8 => ?_) (fun h8 => ?_)
 refine TL.val rfl rfl rfl (gives_boolnot rfl rfl) ?_
 refine TL.val rfl rfl rfl (gives_move rfl rfl) ?_
 refine TL.on rfl rfl rfl ?_
 refine TL.val rfl rfl rfl (gives_field rfl rfl (fun w => fR2 _ w)) ?_
 refine TL.on rfl rfl rfl ?_
 refine TL.val rfl rfl rfl (pm_load (k := 0) rfl rfl agI rfl rfl) ?_
 refine TL.on rfl rfl rfl ?_
 refine TL.vsplit rfl rfl rfl (gives_bin rfl rfl rfl (fun w => bin_lss w)) (fun h13 => ?_) (fun h13 => ?_)
 iterate 48 (first | refine TL.off rfl rfl rfl rfl rfl rfl ?_ | refine TL.val rfl rfl rfl (gives_pick rfl rfl rfl) ?_ | refine TL.val rfl rfl rfl (gives_move rfl rfl) ?_)
 refine TL.end_ (TX.then_ (TC.condT rfl (TC.seq_ (TC.region ?_))))
 refine TL.val rfl rfl rfl (gives_assign rfl rfl) ?_
 refine TL.end_ (TX.then_ (TC.ret_ (TX.then_ret ?_)))
 refine ret_tmp Tryd.results15 rfl (fun w1 hw => ⟨congrArg (fun x => Ending.returned (.int .i64 x)) ?_, hw.bel⟩)
 rotate_left
 refine TL.val rfl rfl rfl (gives_pick rfl rfl rfl) ?_
 refine TL.val rfl rfl rfl (gives_move rfl rfl) ?_
 refine TL.on rfl rfl rfl ?_
 refine TL.val rfl rfl rfl (gives_field rfl rfl (fun w => fR2 _ w)) ?_
 refine TL.on rfl rfl rfl ?_
 refine TL.val rfl rfl rfl (pm_load (k := 0) rfl rfl agI rfl rfl) ?_
 refine TL.on rfl rfl rfl ?_
 refine TL.vsplit rfl rfl rfl (gives_bin rfl rfl rfl (fun w => bin_geq w)) (fun h18 => ?_) (fun h18 => ?_)
 iterate 43 (first | refine TL.off rfl rfl rfl rfl rfl rfl ?_ | refine TL.val rfl rfl rfl (gives_pick rfl rfl rfl) ?_ | refine TL.val rfl rfl rfl (gives_move rfl rfl) ?_)
 refine TL.end_ (TX.then_ (TC.condT rfl (TC.seq_ (TC.region ?_))))
 refine TL.val rfl rfl rfl (gives_assign rfl rfl) ?_
 refine TL.end_ (TX.then_ (TC.ret_ (TX.then_ret ?_)))
 refine ret_tmp Tryd.results15 rfl (fun w1 hw => ⟨congrArg (fun x => Ending.returned (.int .i64 x)) ?_, hw.bel⟩)
 rotate_left
 refine TL.val rfl rfl rfl (gives_pick rfl rfl rfl) ?_
 refine TL.val rfl rfl rfl (gives_move rfl rfl) ?_
 refine TL.on rfl rfl rfl ?_
 refine TL.val rfl rfl rfl (gives_field rfl rfl (fun w => fR3 _ w)) ?_
 refine TL.on rfl rfl rfl ?_
 refine TL.val rfl rfl rfl (pm_load (k := 0) rfl rfl agI rfl rfl) ?_
 refine TL.on rfl rfl rfl ?_
 refine TL.vsplit rfl rfl rfl (gives_bin rfl rfl rfl (fun w => bin_lss w)) (fun h23 => ?_) (fun h23 => ?_)
 iterate 38 (first | refine TL.off rfl rfl rfl rfl rfl rfl ?_ | refine TL.val rfl rfl rfl (gives_pick rfl rfl rfl) ?_ | refine TL.val rfl rfl rfl (gives_move rfl rfl) ?_)
 refine TL.end_ (TX.then_ (TC.condT rfl (TC.seq_ (TC.region ?_))))
 refine TL.val rfl rfl rfl (gives_assign rfl rfl) ?_
 refine TL.end_ (TX.then_ (TC.ret_ (TX.then_ret ?_)))
 refine ret_tmp Tryd.results15 rfl (fun w1 hw => ⟨congrArg (fun x => Ending.returned (.int .i64 x)) ?_, hw.bel⟩)
 rotate_left
 refine TL.val rfl rfl rfl (gives_pick rfl rfl rfl) ?_
 refine TL.val rfl rfl rfl (gives_move rfl rfl) ?_
 refine TL.on rfl rfl rfl ?_
 refine TL.val rfl rfl rfl (gives_field rfl rfl (fun w => fR3 _ w)) ?_
 refine TL.on rfl rfl rfl ?_
 refine TL.val rfl rfl rfl (pm_load (k := 0) rfl rfl agI rfl rfl) ?_
 refine TL.on rfl rfl rfl ?_
 refine TL.vsplit rfl rfl rfl (gives_bin rfl rfl rfl (fun w => bin_gtr w)) (fun h28 => ?_) (fun h28 => ?_)
 iterate 33 (first | refine TL.off rfl rfl rfl rfl rfl rfl ?_ | refine TL.val rfl rfl rfl (gives_pick rfl rfl rfl) ?_ | refine TL.val rfl rfl rfl (gives_move rfl rfl) ?_)
 refine TL.end_ (TX.then_ (TC.condT rfl (TC.seq_ (TC.region ?_))))
 refine TL.val rfl rfl rfl (gives_assign rfl rfl) ?_
 refine TL.end_ (TX.then_ (TC.ret_ (TX.then_ret ?_)))
 refine ret_tmp Tryd.results15 rfl (fun w1 hw => ⟨congrArg (fun x => Ending.returned (.int .i64 x)) ?_, hw.bel⟩)
 rotate_left
 refine TL.val rfl rfl rfl (gives_pick rfl rfl rfl) ?_
 refine TL.val rfl rfl rfl (gives_move rfl rfl) ?_
 refine TL.on rfl rfl rfl ?_
 refine TL.val rfl rfl rfl (gives_field rfl rfl (fun w => fR10 _ w)) ?_
 refine TL.on rfl rfl rfl ?_
 refine TL.val rfl rfl rfl (pm_load (k := 0) rfl rfl agI rfl rfl) ?_
 refine TL.on rfl rfl rfl ?_
 refine TL.val rfl rfl rfl (gives_field rfl rfl (fun w => fR3 _ w)) ?_
 refine TL.on rfl rfl rfl ?_
 refine TL.val rfl rfl rfl (pm_load (k := 0) rfl rfl agI rfl rfl) ?_
 refine TL.on rfl rfl rfl ?_
 refine TL.vsplit rfl rfl rfl (gives_bin rfl rfl rfl (fun w => bin_lss w)) (fun h35 => ?_) (fun h35 => ?_)
 iterate 26 (first | refine TL.off rfl rfl rfl rfl rfl rfl ?_ | refine TL.val rfl rfl rfl (gives_pick rfl rfl rfl) ?_ | refine TL.val rfl rfl rfl (gives_move rfl rfl) ?_)
 refine TL.end_ (TX.then_ (TC.condT rfl (TC.seq_ (TC.region ?_))))
 refine TL.val rfl rfl rfl (gives_assign rfl rfl) ?_
 refine TL.end_ (TX.then_ (TC.ret_ (TX.then_ret ?_)))
 refine ret_tmp Tryd.results15 rfl (fun w1 hw => ⟨congrArg (fun x => Ending.returned (.int .i64 x)) ?_, hw.bel⟩)
 rotate_left
 refine TL.val rfl rfl rfl (gives_pick rfl rfl rfl) ?_
 refine TL.val rfl rfl rfl (gives_move rfl rfl) ?_
 refine TL.on rfl rfl rfl ?_
 refine TL.val rfl rfl rfl (gives_field rfl rfl (fun w => fR10 _ w)) ?_
 refine TL.on rfl rfl rfl ?_
 refine TL.val rfl rfl rfl (pm_load (k := 0) rfl rfl agI rfl rfl) ?_
 refine TL.on rfl rfl rfl ?_
 refine TL.vsplit rfl rfl rfl (gives_bin rfl rfl rfl (fun w => bin_gtr w)) (fun h40 => ?_) (fun h40 => ?_)
 iterate 21 (first | refine TL.off rfl rfl rfl rfl rfl rfl ?_ | refine TL.val rfl rfl rfl (gives_pick rfl rfl rfl) ?_ | refine TL.val rfl rfl rfl (gives_move rfl rfl) ?_)
 refine TL.end_ (TX.then_ (TC.condT rfl (TC.seq_ (TC.region ?_))))
 refine TL.val rfl rfl rfl (gives_assign rfl rfl) ?_
 refine TL.end_ (TX.then_ (TC.ret_ (TX.then_ret ?_)))
 refine ret_tmp Tryd.results15 rfl (fun w1 hw => ⟨congrArg (fun x => Ending.returned (.int .i64 x)) ?_, hw.bel⟩)
 rotate_left
 refine TL.val rfl rfl rfl (gives_pick rfl rfl rfl) ?_
 refine TL.val rfl rfl rfl (gives_move rfl rfl) ?_
 refine TL.on rfl rfl rfl ?_
 refine TL.val rfl rfl rfl (gives_field rfl rfl (fun w => fR6 _ w)) ?_
 refine TL.on rfl rfl rfl ?_
 refine TL.val rfl rfl rfl (pm_load (k := 0) rfl rfl agI rfl rfl) ?_
 refine TL.on rfl rfl rfl ?_
 refine TL.vsplit rfl rfl rfl (gives_bin rfl rfl rfl (fun w => bin_lss w)) (fun h45 => ?_) (fun h45 => ?_)
 iterate 16 (first | refine TL.off rfl rfl rfl rfl rfl rfl ?_ | refine TL.val rfl rfl rfl (gives_pick rfl rfl rfl) ?_ | refine TL.val rfl rfl rfl (gives_move rfl rfl) ?_)
 refine TL.end_ (TX.then_ (TC.condT rfl (TC.seq_ (TC.region ?_))))
 refine TL.val rfl rfl rfl (gives_assign rfl rfl) ?_
 refine TL.end_ (TX.then_ (TC.ret_ (TX.then_ret ?_)))
 refine ret_tmp Tryd.results15 rfl (fun w1 hw => ⟨congrArg (fun x => Ending.returned (.int .i64 x)) ?_, hw.bel⟩)
 rotate_left
 refine TL.val rfl rfl rfl (gives_pick rfl rfl rfl) ?_
 refine TL.val rfl rfl rfl (gives_move rfl rfl) ?_
 refine TL.on rfl rfl rfl ?_
 refine TL.val rfl rfl rfl (gives_field rfl rfl (fun w => fR6 _ w)) ?_
 refine TL.on rfl rfl rfl ?_
 refine TL.val rfl rfl rfl (pm_load (k := 0) rfl rfl agI rfl rfl) ?_
 refine TL.on rfl rfl rfl ?_
 refine TL.vsplit rfl rfl rfl (gives_bin rfl rfl rfl (fun w => bin_gtr w)) (fun h50 => ?_) (fun h50 => ?_)
 iterate 11 (first | refine TL.off rfl rfl rfl rfl rfl rfl ?_ | refine TL.val rfl rfl rfl (gives_pick rfl rfl rfl) ?_ | refine TL.val rfl rfl rfl (gives_move rfl rfl) ?_)
 refine TL.end_ (TX.then_ (TC.condT rfl (TC.seq_ (TC.region ?_))))
 refine TL.val rfl rfl rfl (gives_assign rfl rfl) ?_
 refine TL.end_ (TX.then_ (TC.ret_ (TX.then_ret ?_)))
 refine ret_tmp Tryd.results15 rfl (fun w1 hw => ⟨congrArg (fun x => Ending.returned (.int .i64 x)) ?_, hw.bel⟩)
 rotate_left
 refine TL.val rfl rfl rfl (gives_pick rfl rfl rfl) ?_
 refine TL.val rfl rfl rfl (gives_move rfl rfl) ?_
 refine TL.on rfl rfl rfl ?_
 refine TL.val rfl rfl rfl (gives_field rfl rfl (fun w => fR7 _ w)) ?_
 refine TL.on rfl rfl rfl ?_
 refine TL.val rfl rfl rfl (pm_load (k := 0) rfl rfl agI rfl rfl) ?_
 refine TL.on rfl rfl rfl ?_
 refine TL.vsplit rfl rfl rfl (gives_bin rfl rfl rfl (fun w => bin_lss w)) (fun h55 => ?_) (fun h55 => ?_)
 iterate 6 (first | refine TL.off rfl rfl rfl rfl rfl rfl ?_ | refine TL.val rfl rfl rfl (gives_pick rfl rfl rfl) ?_ | refine TL.val rfl rfl rfl (gives_move rfl rfl) ?_)
 refine TL.end_ (TX.then_ (TC.condT rfl (TC.seq_ (TC.region ?_))))
 refine TL.val rfl rfl rfl (gives_assign rfl rfl) ?_
 refine TL.end_ (TX.then_ (TC.ret_ (TX.then_ret ?_)))
 refine ret_tmp Tryd.results15 rfl (fun w1 hw => ⟨congrArg (fun x => Ending.returned (.int .i64 x)) ?_, hw.bel⟩)
 rotate_left
 refine TL.val rfl rfl rfl (gives_pick rfl rfl rfl) ?_
 refine TL.val rfl rfl rfl (gives_move rfl rfl) ?_
 refine TL.on rfl rfl rfl ?_
 refine TL.val rfl rfl rfl (gives_field rfl rfl (fun w => fR7 _ w)) ?_
 refine TL.on rfl rfl rfl ?_
 refine TL.val rfl rfl rfl (pm_load (k := 0) rfl rfl agI rfl rfl) ?_
 refine TL.on rfl rfl rfl ?_
 refine TL.vsplit rfl rfl rfl (gives_bin rfl rfl rfl (fun w => bin_gtr w)) (fun h60 => ?_) (fun h60 => ?_)
 refine TL.val rfl rfl rfl (gives_pick rfl rfl rfl) ?_
 refine TL.end_ (TX.then_ (TC.condT rfl (TC.seq_ (TC.region ?_))))
 refine TL.val rfl rfl rfl (gives_assign rfl rfl) ?_
 refine TL.end_ (TX.then_ (TC.ret_ (TX.then_ret ?_)))
 refine ret_tmp Tryd.results15 rfl (fun w1 hw => ⟨congrArg (fun x => Ending.returned (.int .i64 x)) ?_, hw.bel⟩)
 rotate_left
 refine TL.val rfl rfl rfl (gives_pick rfl rfl rfl) ?_
 refine TL.end_ (TX.then_ (TC.condF rfl (TC.skip_ (TX.then_ ?_))))
 refine TC.join (α := PLift (proto = 1 ∨ proto = 6 ∨ proto = 17)) (fun _ => [(1, .pointer (some ⟨g1, 0, none⟩))]) (fun _ => Pm w [.blk g1 27 [.int .i64 v, .int .i64 run, .int .i64 num, .int .i64 at_, .int .u32 dst, .int .i64 proto, .int .i64 flow, .int .i64 ttl, .bool false, .bool true, .int .i64 back, .int .u32 src, .int .i64 kind, .int .i64 code, .int .i64 left, .int .i64 id, .int .i64 quo]]) ?_ ?_
 refine TC.seq_ (TC.region ?_)
 refine TL.val rfl rfl rfl (gives_field rfl rfl (fun w => fR5 _ w)) ?_
 refine TL.val rfl rfl rfl (pm_load (k := 0) rfl rfl agI rfl rfl) ?_
 refine TL.vsplit rfl rfl rfl (gives_bin rfl rfl rfl (fun w => bin_neq w)) (fun h64 => ?_) (fun h64 => ?_)
 refine TL.val rfl rfl rfl (gives_move rfl rfl) ?_
 refine TL.on rfl rfl rfl ?_
 refine TL.val rfl rfl rfl (gives_field rfl rfl (fun w => fR5 _ w)) ?_
 refine TL.on rfl rfl rfl ?_
 refine TL.val rfl rfl rfl (pm_load (k := 0) rfl rfl agI rfl rfl) ?_
 refine TL.on rfl rfl rfl ?_
 refine TL.vsplit rfl rfl rfl (gives_bin rfl rfl rfl (fun w => bin_neq w)) (fun h68 => ?_) (fun h68 => ?_)
 refine TL.val rfl rfl rfl (gives_pick rfl rfl rfl) ?_
 refine TL.val rfl rfl rfl (gives_move rfl rfl) ?_
 refine TL.on rfl rfl rfl ?_
 refine TL.val rfl rfl rfl (gives_field rfl rfl (fun w => fR5 _ w)) ?_
 refine TL.on rfl rfl rfl ?_
 refine TL.val rfl rfl rfl (pm_load (k := 0) rfl rfl agI rfl rfl) ?_
 refine TL.on rfl rfl rfl ?_
 refine TL.vsplit rfl rfl rfl (gives_bin rfl rfl rfl (fun w => bin_neq w)) (fun h73 => ?_) (fun h73 => ?_)
 refine TL.val rfl rfl rfl (gives_pick rfl rfl rfl) ?_
 refine TL.end_ (TX.then_ (TC.condT rfl (TC.seq_ (TC.region ?_))))
 refine TL.val rfl rfl rfl (gives_assign rfl rfl) ?_
 refine TL.end_ (TX.then_ (TC.ret_ (TX.then_ret ?_)))
 refine ret_tmp Tryd.results15 rfl (fun w1 hw => ⟨congrArg (fun x => Ending.returned (.int .i64 x)) ?_, hw.bel⟩)
 rotate_left
 refine TL.val rfl rfl rfl (gives_pick rfl rfl rfl) ?_
 refine TL.end_ (TX.then_ (TC.condF rfl (TC.skip_ ?_)))
 exact TX.joined (⟨by simp only [decide_eq_true_eq, decide_eq_false_iff_not] at *; omega⟩) (⟨rfl, trivial⟩) (fun w hw => hw)
 iterate 6 (first | refine TL.off rfl rfl rfl rfl rfl rfl ?_ | refine TL.val rfl rfl rfl (gives_pick rfl rfl rfl) ?_ | refine TL.val rfl rfl rfl (gives_move rfl rfl) ?_)
 refine TL.end_ (TX.then_ (TC.condF rfl (TC.skip_ ?_)))
 exact TX.joined (⟨by simp only [decide_eq_true_eq, decide_eq_false_iff_not] at *; omega⟩) (⟨rfl, trivial⟩) (fun w hw => hw)
 iterate 10 (first | refine TL.off rfl rfl rfl rfl rfl rfl ?_ | refine TL.val rfl rfl rfl (gives_move rfl rfl) ?_ | refine TL.val rfl rfl rfl (gives_pick rfl rfl rfl) ?_)
 refine TL.end_ (TX.then_ (TC.condF rfl (TC.skip_ ?_)))
 exact TX.joined (⟨by simp only [decide_eq_true_eq, decide_eq_false_iff_not] at *; omega⟩) (⟨rfl, trivial⟩) (fun w hw => hw)
 rintro ⟨hproto⟩
 refine TC.seq_ (TC.region ?_)
 refine TL.val rfl rfl rfl (gives_field rfl rfl (fun w => fR11 _ w)) ?_
 refine TL.val rfl rfl rfl (pm_loadAgg (k := 0) (n := 6) rfl rfl agA szA rfl (Nat.le_refl 17)) ?_
 refine TL.pnew rfl rfl rfl (exec_alloc (cs := [.int .u32 0, .int .i64 0, .int .i64 0, .int .i64 0, .int .i64 0, .int .i64 0]) rfl zeroA rfl) (fun g3 => ?_)
 refine TL.pstore (k := 0) (vs := [.int .u32 src, .int .i64 kind, .int .i64 code, .int .i64 left, .int .i64 id, .int .i64 quo]) rfl rfl rfl rfl rfl rfl rfl szA (oneA _ _ _ _ _ _) (Nat.le_refl 6) (L' := [.blk g3 25 [.int .u32 src, .int .i64 kind, .int .i64 code, .int .i64 left, .int .i64 id, .int .i64 quo], .blk g1 27 [.int .i64 v, .int .i64 run, .int .i64 num, .int .i64 at_, .int .u32 dst, .int .i64 proto, .int .i64 flow, .int .i64 ttl, .bool false, .bool true, .int .i64 back, .int .u32 src, .int .i64 kind, .int .i64 code, .int .i64 left, .int .i64 id, .int .i64 quo]]) rfl ?_
 refine TL.end_ (TX.then_ (TC.seq_ (TC.seq_ (TC.region ?_))))
 refine TL.val rfl rfl rfl (gives_field rfl rfl (fun w => fR8 _ w)) ?_
 refine TL.val rfl rfl rfl (pm_load (k := 1) rfl rfl agB rfl rfl) ?_
 refine TL.val rfl rfl rfl (gives_boolnot rfl rfl) ?_
 refine TL.val rfl rfl rfl (gives_move rfl rfl) ?_
 refine TL.on rfl rfl rfl ?_
 refine TL.val rfl rfl rfl (gives_field rfl rfl (fun w => fR9 _ w)) ?_
 refine TL.on rfl rfl rfl ?_
 refine TL.val rfl rfl rfl (pm_load (k := 1) rfl rfl agB rfl rfl) ?_
 iterate 8 (first | refine TL.off rfl rfl rfl rfl rfl rfl ?_ | refine TL.on rfl rfl rfl ?_ | refine TL.val rfl rfl rfl (gives_pick rfl rfl rfl) ?_ | refine TL.val rfl rfl rfl (gives_move rfl rfl) ?_)
 refine TL.end_ (TX.then_ (TC.condT rfl (TC.seq_ (TC.region ?_))))
 refine TL.val rfl rfl rfl (gives_assign rfl rfl) ?_
 refine TL.end_ (TX.then_ (TC.ret_ (TX.then_ret ?_)))
 refine ret_tmp Tryd.results15 rfl (fun w1 hw => ⟨congrArg (fun x => Ending.returned (.int .i64 x)) ?_, hw.bel⟩)
 rotate_left
 iterate 53 (first | refine TL.off rfl rfl rfl rfl rfl rfl ?_ | refine TL.val rfl rfl rfl (gives_move rfl rfl) ?_ | refine TL.val rfl rfl rfl (gives_pick rfl rfl rfl) ?_ | refine TL.val rfl rfl rfl (gives_boolnot rfl rfl) ?_)
 refine TL.end_ (TX.then_ (TC.condT rfl (TC.seq_ (TC.region ?_))))
 refine TL.val rfl rfl rfl (gives_assign rfl rfl) ?_
 refine TL.end_ (TX.then_ (TC.ret_ (TX.then_ret ?_)))
 refine ret_tmp Tryd.results15 rfl (fun w1 hw => ⟨congrArg (fun x => Ending.returned (.int .i64 x)) ?_, hw.bel⟩)
 rotate_left
 all_goals (simp only [decide_eq_true_eq, decide_eq_false_iff_not] at *; first | exact chk_range (by unfold Rs.inRange; dsimp only; omega) | exact chk_ans rfl (by unfold Rs.inRange; dsimp only; omega) (by dsimp only; omega) (by unfold Rs.ansOk; dsimp only; omega) | (simp only [chkR, Rs.inRange, Rs.ansOk, Rs.noAns]; (try split) <;> (try split) <;> (try split) <;> (try split) <;> first | rfl | omega | (simp_all; done) | (simp_all; omega)))
set_option maxHeartbeats 2000000 in
theorem rcheck_any_tf (v run num at_ dst proto flow ttl back src kind code left id quo : Int) (w : World) :
  Calls Tryd.prog 15 #[.agg #[.int .i64 v, .int .i64 run, .int .i64 num, .int .i64 at_, .int .u32 dst, .int .i64 proto, .int .i64 flow, .int .i64 ttl, .bool true, .bool false, .int .i64 back, .int .u32 src, .int .i64 kind, .int .i64 code, .int .i64 left, .int .i64 id, .int .i64 quo]] w fun e w' => e = .returned (.int .i64 (chkR ⟨v, run, num, at_, dst, proto, flow, ttl, true, false, back, src, kind, code, left, id, quo⟩)) ∧ Below w.heap.size w w' := by
 refine begin_ (vs := [.agg #[.int .i64 v, .int .i64 run, .int .i64 num, .int .i64 at_, .int .u32 dst, .int .i64 proto, .int .i64 flow, .int .i64 ttl, .bool true, .bool false, .int .i64 back, .int .u32 src, .int .i64 kind, .int .i64 code, .int .i64 left, .int .i64 id, .int .i64 quo]]) Tryd.func15 rfl rfl rfl ?_ (Pm.start w)
 refine TC.seq_ (TC.region ?_)
 refine TL.pnew rfl rfl rfl (exec_box (cs := [.int .i64 v, .int .i64 run, .int .i64 num, .int .i64 at_, .int .u32 dst, .int .i64 proto, .int .i64 flow, .int .i64 ttl, .bool true, .bool false, .int .i64 back, .int .u32 src, .int .i64 kind, .int .i64 code, .int .i64 left, .int .i64 id, .int .i64 quo]) rfl rfl rfl) (fun g1 => ?_)
 refine TL.val rfl rfl rfl (gives_assign rfl rfl) ?_
 refine TL.end_ (TX.then_ (TC.seq_ (TC.seq_ (TC.region ?_))))
 refine TL.val rfl rfl rfl (gives_field rfl rfl (fun w => fR0 _ w)) ?_
 refine TL.val rfl rfl rfl (pm_load (k := 0) rfl rfl agI rfl rfl) ?_
 refine TL.val rfl rfl rfl (gives_field rfl rfl (fun w => fR1 _ w)) ?_
 refine TL.val rfl rfl rfl (pm_load (k := 0) rfl rfl agI rfl rfl) ?_
 refine TL.callsplit rfl rfl rfl rfl rfl Tryd.func47 nmIdent bdIdent (fun w1 hw => ident_any v run w1) (fun h8 => ?_) (fun h8 => ?_)
 refine TL.val rfl rfl rfl (gives_boolnot rfl rfl) ?_
 refine TL.val rfl rfl rfl (gives_move rfl rfl) ?_
 refine TL.on rfl rfl rfl ?_
 refine TL.val rfl rfl rfl (gives_field rfl rfl (fun w => fR2 _ w)) ?_
 refine TL.on rfl rfl rfl ?_
 refine TL.val rfl rfl rfl (pm_load (k := 0) rfl rfl agI rfl rfl) ?_
 refine TL.on rfl rfl rfl ?_
 refine TL.vsplit rfl rfl rfl (gives_bin rfl rfl rfl (fun w => bin_lss w)) (fun h13 => ?_) (fun h13 => ?_)
 iterate 48 (first | refine TL.off rfl rfl rfl rfl rfl rfl ?_ | refine TL.val rfl rfl rfl (gives_pick rfl rfl rfl) ?_ | refine TL.val rfl rfl rfl (gives_move rfl rfl) ?_)
 refine TL.end_ (TX.then_ (TC.condT rfl (TC.seq_ (TC.region ?_))))
 refine TL.val rfl rfl rfl (gives_assign rfl rfl) ?_
 refine TL.end_ (TX.then_ (TC.ret_ (TX.then_ret ?_)))
 refine ret_tmp Tryd.results15 rfl (fun w1 hw => ⟨congrArg (fun x => Ending.returned (.int .i64 x)) ?_, hw.bel⟩)
 rotate_left
 refine TL.val rfl rfl rfl (gives_pick rfl rfl rfl) ?_
 refine TL.val rfl rfl rfl (gives_move rfl rfl) ?_
 refine TL.on rfl rfl rfl ?_
 refine TL.val rfl rfl rfl (gives_field rfl rfl (fun w => fR2 _ w)) ?_
 refine TL.on rfl rfl rfl ?_
 refine TL.val rfl rfl rfl (pm_load (k := 0) rfl rfl agI rfl rfl) ?_
 refine TL.on rfl rfl rfl ?_
 refine TL.vsplit rfl rfl rfl (gives_bin rfl rfl rfl (fun w => bin_geq w)) (fun h18 => ?_) (fun h18 => ?_)
 iterate 43 (first | refine TL.off rfl rfl rfl rfl rfl rfl ?_ | refine TL.val rfl rfl rfl (gives_pick rfl rfl rfl) ?_ | refine TL.val rfl rfl rfl (gives_move rfl rfl) ?_)
 refine TL.end_ (TX.then_ (TC.condT rfl (TC.seq_ (TC.region ?_))))
 refine TL.val rfl rfl rfl (gives_assign rfl rfl) ?_
 refine TL.end_ (TX.then_ (TC.ret_ (TX.then_ret ?_)))
 refine ret_tmp Tryd.results15 rfl (fun w1 hw => ⟨congrArg (fun x => Ending.returned (.int .i64 x)) ?_, hw.bel⟩)
 rotate_left
 refine TL.val rfl rfl rfl (gives_pick rfl rfl rfl) ?_
 refine TL.val rfl rfl rfl (gives_move rfl rfl) ?_
 refine TL.on rfl rfl rfl ?_
 refine TL.val rfl rfl rfl (gives_field rfl rfl (fun w => fR3 _ w)) ?_
 refine TL.on rfl rfl rfl ?_
 refine TL.val rfl rfl rfl (pm_load (k := 0) rfl rfl agI rfl rfl) ?_
 refine TL.on rfl rfl rfl ?_
 refine TL.vsplit rfl rfl rfl (gives_bin rfl rfl rfl (fun w => bin_lss w)) (fun h23 => ?_) (fun h23 => ?_)
 iterate 38 (first | refine TL.off rfl rfl rfl rfl rfl rfl ?_ | refine TL.val rfl rfl rfl (gives_pick rfl rfl rfl) ?_ | refine TL.val rfl rfl rfl (gives_move rfl rfl) ?_)
 refine TL.end_ (TX.then_ (TC.condT rfl (TC.seq_ (TC.region ?_))))
 refine TL.val rfl rfl rfl (gives_assign rfl rfl) ?_
 refine TL.end_ (TX.then_ (TC.ret_ (TX.then_ret ?_)))
 refine ret_tmp Tryd.results15 rfl (fun w1 hw => ⟨congrArg (fun x => Ending.returned (.int .i64 x)) ?_, hw.bel⟩)
 rotate_left
 refine TL.val rfl rfl rfl (gives_pick rfl rfl rfl) ?_
 refine TL.val rfl rfl rfl (gives_move rfl rfl) ?_
 refine TL.on rfl rfl rfl ?_
 refine TL.val rfl rfl rfl (gives_field rfl rfl (fun w => fR3 _ w)) ?_
 refine TL.on rfl rfl rfl ?_
 refine TL.val rfl rfl rfl (pm_load (k := 0) rfl rfl agI rfl rfl) ?_
 refine TL.on rfl rfl rfl ?_
 refine TL.vsplit rfl rfl rfl (gives_bin rfl rfl rfl (fun w => bin_gtr w)) (fun h28 => ?_) (fun h28 => ?_)
 iterate 33 (first | refine TL.off rfl rfl rfl rfl rfl rfl ?_ | refine TL.val rfl rfl rfl (gives_pick rfl rfl rfl) ?_ | refine TL.val rfl rfl rfl (gives_move rfl rfl) ?_)
 refine TL.end_ (TX.then_ (TC.condT rfl (TC.seq_ (TC.region ?_))))
 refine TL.val rfl rfl rfl (gives_assign rfl rfl) ?_
 refine TL.end_ (TX.then_ (TC.ret_ (TX.then_ret ?_)))
 refine ret_tmp Tryd.results15 rfl (fun w1 hw => ⟨congrArg (fun x => Ending.returned (.int .i64 x)) ?_, hw.bel⟩)
 rotate_left
 refine TL.val rfl rfl rfl (gives_pick rfl rfl rfl) ?_
 refine TL.val rfl rfl rfl (gives_move rfl rfl) ?_
 refine TL.on rfl rfl rfl ?_
 refine TL.val rfl rfl rfl (gives_field rfl rfl (fun w => fR10 _ w)) ?_
 refine TL.on rfl rfl rfl ?_
 refine TL.val rfl rfl rfl (pm_load (k := 0) rfl rfl agI rfl rfl) ?_
 refine TL.on rfl rfl rfl ?_
 refine TL.val rfl rfl rfl (gives_field rfl rfl (fun w => fR3 _ w)) ?_
 refine TL.on rfl rfl rfl ?_
 refine TL.val rfl rfl rfl (pm_load (k := 0) rfl rfl agI rfl rfl) ?_
 refine TL.on rfl rfl rfl ?_
 refine TL.vsplit rfl rfl rfl (gives_bin rfl rfl rfl (fun w => bin_lss w)) (fun h35 => ?_) (fun h35 => ?_)
 iterate 26 (first | refine TL.off rfl rfl rfl rfl rfl rfl ?_ | refine TL.val rfl rfl rfl (gives_pick rfl rfl rfl) ?_ | refine TL.val rfl rfl rfl (gives_move rfl rfl) ?_)
 refine TL.end_ (TX.then_ (TC.condT rfl (TC.seq_ (TC.region ?_))))
 refine TL.val rfl rfl rfl (gives_assign rfl rfl) ?_
 refine TL.end_ (TX.then_ (TC.ret_ (TX.then_ret ?_)))
 refine ret_tmp Tryd.results15 rfl (fun w1 hw => ⟨congrArg (fun x => Ending.returned (.int .i64 x)) ?_, hw.bel⟩)
 rotate_left
 refine TL.val rfl rfl rfl (gives_pick rfl rfl rfl) ?_
 refine TL.val rfl rfl rfl (gives_move rfl rfl) ?_
 refine TL.on rfl rfl rfl ?_
 refine TL.val rfl rfl rfl (gives_field rfl rfl (fun w => fR10 _ w)) ?_
 refine TL.on rfl rfl rfl ?_
 refine TL.val rfl rfl rfl (pm_load (k := 0) rfl rfl agI rfl rfl) ?_
 refine TL.on rfl rfl rfl ?_
 refine TL.vsplit rfl rfl rfl (gives_bin rfl rfl rfl (fun w => bin_gtr w)) (fun h40 => ?_) (fun h40 => ?_)
 iterate 21 (first | refine TL.off rfl rfl rfl rfl rfl rfl ?_ | refine TL.val rfl rfl rfl (gives_pick rfl rfl rfl) ?_ | refine TL.val rfl rfl rfl (gives_move rfl rfl) ?_)
 refine TL.end_ (TX.then_ (TC.condT rfl (TC.seq_ (TC.region ?_))))
 refine TL.val rfl rfl rfl (gives_assign rfl rfl) ?_
 refine TL.end_ (TX.then_ (TC.ret_ (TX.then_ret ?_)))
 refine ret_tmp Tryd.results15 rfl (fun w1 hw => ⟨congrArg (fun x => Ending.returned (.int .i64 x)) ?_, hw.bel⟩)
 rotate_left
 refine TL.val rfl rfl rfl (gives_pick rfl rfl rfl) ?_
 refine TL.val rfl rfl rfl (gives_move rfl rfl) ?_
 refine TL.on rfl rfl rfl ?_
 refine TL.val rfl rfl rfl (gives_field rfl rfl (fun w => fR6 _ w)) ?_
 refine TL.on rfl rfl rfl ?_
 refine TL.val rfl rfl rfl (pm_load (k := 0) rfl rfl agI rfl rfl) ?_
 refine TL.on rfl rfl rfl ?_
 refine TL.vsplit rfl rfl rfl (gives_bin rfl rfl rfl (fun w => bin_lss w)) (fun h45 => ?_) (fun h45 => ?_)
 iterate 16 (first | refine TL.off rfl rfl rfl rfl rfl rfl ?_ | refine TL.val rfl rfl rfl (gives_pick rfl rfl rfl) ?_ | refine TL.val rfl rfl rfl (gives_move rfl rfl) ?_)
 refine TL.end_ (TX.then_ (TC.condT rfl (TC.seq_ (TC.region ?_))))
 refine TL.val rfl rfl rfl (gives_assign rfl rfl) ?_
 refine TL.end_ (TX.then_ (TC.ret_ (TX.then_ret ?_)))
 refine ret_tmp Tryd.results15 rfl (fun w1 hw => ⟨congrArg (fun x => Ending.returned (.int .i64 x)) ?_, hw.bel⟩)
 rotate_left
 refine TL.val rfl rfl rfl (gives_pick rfl rfl rfl) ?_
 refine TL.val rfl rfl rfl (gives_move rfl rfl) ?_
 refine TL.on rfl rfl rfl ?_
 refine TL.val rfl rfl rfl (gives_field rfl rfl (fun w => fR6 _ w)) ?_
 refine TL.on rfl rfl rfl ?_
 refine TL.val rfl rfl rfl (pm_load (k := 0) rfl rfl agI rfl rfl) ?_
 refine TL.on rfl rfl rfl ?_
 refine TL.vsplit rfl rfl rfl (gives_bin rfl rfl rfl (fun w => bin_gtr w)) (fun h50 => ?_) (fun h50 => ?_)
 iterate 11 (first | refine TL.off rfl rfl rfl rfl rfl rfl ?_ | refine TL.val rfl rfl rfl (gives_pick rfl rfl rfl) ?_ | refine TL.val rfl rfl rfl (gives_move rfl rfl) ?_)
 refine TL.end_ (TX.then_ (TC.condT rfl (TC.seq_ (TC.region ?_))))
 refine TL.val rfl rfl rfl (gives_assign rfl rfl) ?_
 refine TL.end_ (TX.then_ (TC.ret_ (TX.then_ret ?_)))
 refine ret_tmp Tryd.results15 rfl (fun w1 hw => ⟨congrArg (fun x => Ending.returned (.int .i64 x)) ?_, hw.bel⟩)
 rotate_left
 refine TL.val rfl rfl rfl (gives_pick rfl rfl rfl) ?_
 refine TL.val rfl rfl rfl (gives_move rfl rfl) ?_
 refine TL.on rfl rfl rfl ?_
 refine TL.val rfl rfl rfl (gives_field rfl rfl (fun w => fR7 _ w)) ?_
 refine TL.on rfl rfl rfl ?_
 refine TL.val rfl rfl rfl (pm_load (k := 0) rfl rfl agI rfl rfl) ?_
 refine TL.on rfl rfl rfl ?_
 refine TL.vsplit rfl rfl rfl (gives_bin rfl rfl rfl (fun w => bin_lss w)) (fun h55 => ?_) (fun h55 => ?_)
 iterate 6 (first | refine TL.off rfl rfl rfl rfl rfl rfl ?_ | refine TL.val rfl rfl rfl (gives_pick rfl rfl rfl) ?_ | refine TL.val rfl rfl rfl (gives_move rfl rfl) ?_)
 refine TL.end_ (TX.then_ (TC.condT rfl (TC.seq_ (TC.region ?_))))
 refine TL.val rfl rfl rfl (gives_assign rfl rfl) ?_
 refine TL.end_ (TX.then_ (TC.ret_ (TX.then_ret ?_)))
 refine ret_tmp Tryd.results15 rfl (fun w1 hw => ⟨congrArg (fun x => Ending.returned (.int .i64 x)) ?_, hw.bel⟩)
 rotate_left
 refine TL.val rfl rfl rfl (gives_pick rfl rfl rfl) ?_
 refine TL.val rfl rfl rfl (gives_move rfl rfl) ?_
 refine TL.on rfl rfl rfl ?_
 refine TL.val rfl rfl rfl (gives_field rfl rfl (fun w => fR7 _ w)) ?_
 refine TL.on rfl rfl rfl ?_
 refine TL.val rfl rfl rfl (pm_load (k := 0) rfl rfl agI rfl rfl) ?_
 refine TL.on rfl rfl rfl ?_
 refine TL.vsplit rfl rfl rfl (gives_bin rfl rfl rfl (fun w => bin_gtr w)) (fun h60 => ?_) (fun h60 => ?_)
 refine TL.val rfl rfl rfl (gives_pick rfl rfl rfl) ?_
 refine TL.end_ (TX.then_ (TC.condT rfl (TC.seq_ (TC.region ?_))))
 refine TL.val rfl rfl rfl (gives_assign rfl rfl) ?_
 refine TL.end_ (TX.then_ (TC.ret_ (TX.then_ret ?_)))
 refine ret_tmp Tryd.results15 rfl (fun w1 hw => ⟨congrArg (fun x => Ending.returned (.int .i64 x)) ?_, hw.bel⟩)
 rotate_left
 refine TL.val rfl rfl rfl (gives_pick rfl rfl rfl) ?_
 refine TL.end_ (TX.then_ (TC.condF rfl (TC.skip_ (TX.then_ ?_))))
 refine TC.join (α := PLift (proto = 1 ∨ proto = 6 ∨ proto = 17)) (fun _ => [(1, .pointer (some ⟨g1, 0, none⟩))]) (fun _ => Pm w [.blk g1 27 [.int .i64 v, .int .i64 run, .int .i64 num, .int .i64 at_, .int .u32 dst, .int .i64 proto, .int .i64 flow, .int .i64 ttl, .bool true, .bool false, .int .i64 back, .int .u32 src, .int .i64 kind, .int .i64 code, .int .i64 left, .int .i64 id, .int .i64 quo]]) ?_ ?_
 refine TC.seq_ (TC.region ?_)
 refine TL.val rfl rfl rfl (gives_field rfl rfl (fun w => fR5 _ w)) ?_
 refine TL.val rfl rfl rfl (pm_load (k := 0) rfl rfl agI rfl rfl) ?_
 refine TL.vsplit rfl rfl rfl (gives_bin rfl rfl rfl (fun w => bin_neq w)) (fun h64 => ?_) (fun h64 => ?_)
 refine TL.val rfl rfl rfl (gives_move rfl rfl) ?_
 refine TL.on rfl rfl rfl ?_
 refine TL.val rfl rfl rfl (gives_field rfl rfl (fun w => fR5 _ w)) ?_
 refine TL.on rfl rfl rfl ?_
 refine TL.val rfl rfl rfl (pm_load (k := 0) rfl rfl agI rfl rfl) ?_
 refine TL.on rfl rfl rfl ?_
 refine TL.vsplit rfl rfl rfl (gives_bin rfl rfl rfl (fun w => bin_neq w)) (fun h68 => ?_) (fun h68 => ?_)
 refine TL.val rfl rfl rfl (gives_pick rfl rfl rfl) ?_
 refine TL.val rfl rfl rfl (gives_move rfl rfl) ?_
 refine TL.on rfl rfl rfl ?_
 refine TL.val rfl rfl rfl (gives_field rfl rfl (fun w => fR5 _ w)) ?_
 refine TL.on rfl rfl rfl ?_
 refine TL.val rfl rfl rfl (pm_load (k := 0) rfl rfl agI rfl rfl) ?_
 refine TL.on rfl rfl rfl ?_
 refine TL.vsplit rfl rfl rfl (gives_bin rfl rfl rfl (fun w => bin_neq w)) (fun h73 => ?_) (fun h73 => ?_)
 refine TL.val rfl rfl rfl (gives_pick rfl rfl rfl) ?_
 refine TL.end_ (TX.then_ (TC.condT rfl (TC.seq_ (TC.region ?_))))
 refine TL.val rfl rfl rfl (gives_assign rfl rfl) ?_
 refine TL.end_ (TX.then_ (TC.ret_ (TX.then_ret ?_)))
 refine ret_tmp Tryd.results15 rfl (fun w1 hw => ⟨congrArg (fun x => Ending.returned (.int .i64 x)) ?_, hw.bel⟩)
 rotate_left
 refine TL.val rfl rfl rfl (gives_pick rfl rfl rfl) ?_
 refine TL.end_ (TX.then_ (TC.condF rfl (TC.skip_ ?_)))
 exact TX.joined (⟨by simp only [decide_eq_true_eq, decide_eq_false_iff_not] at *; omega⟩) (⟨rfl, trivial⟩) (fun w hw => hw)
 iterate 6 (first | refine TL.off rfl rfl rfl rfl rfl rfl ?_ | refine TL.val rfl rfl rfl (gives_pick rfl rfl rfl) ?_ | refine TL.val rfl rfl rfl (gives_move rfl rfl) ?_)
 refine TL.end_ (TX.then_ (TC.condF rfl (TC.skip_ ?_)))
 exact TX.joined (⟨by simp only [decide_eq_true_eq, decide_eq_false_iff_not] at *; omega⟩) (⟨rfl, trivial⟩) (fun w hw => hw)
 iterate 10 (first | refine TL.off rfl rfl rfl rfl rfl rfl ?_ | refine TL.val rfl rfl rfl (gives_move rfl rfl) ?_ | refine TL.val rfl rfl rfl (gives_pick rfl rfl rfl) ?_)
 refine TL.end_ (TX.then_ (TC.condF rfl (TC.skip_ ?_)))
 exact TX.joined (⟨by simp only [decide_eq_true_eq, decide_eq_false_iff_not] at *; omega⟩) (⟨rfl, trivial⟩) (fun w hw => hw)
 rintro ⟨hproto⟩
 refine TC.seq_ (TC.region ?_)
 refine TL.val rfl rfl rfl (gives_field rfl rfl (fun w => fR11 _ w)) ?_
 refine TL.val rfl rfl rfl (pm_loadAgg (k := 0) (n := 6) rfl rfl agA szA rfl (Nat.le_refl 17)) ?_
 refine TL.pnew rfl rfl rfl (exec_alloc (cs := [.int .u32 0, .int .i64 0, .int .i64 0, .int .i64 0, .int .i64 0, .int .i64 0]) rfl zeroA rfl) (fun g3 => ?_)
 refine TL.pstore (k := 0) (vs := [.int .u32 src, .int .i64 kind, .int .i64 code, .int .i64 left, .int .i64 id, .int .i64 quo]) rfl rfl rfl rfl rfl rfl rfl szA (oneA _ _ _ _ _ _) (Nat.le_refl 6) (L' := [.blk g3 25 [.int .u32 src, .int .i64 kind, .int .i64 code, .int .i64 left, .int .i64 id, .int .i64 quo], .blk g1 27 [.int .i64 v, .int .i64 run, .int .i64 num, .int .i64 at_, .int .u32 dst, .int .i64 proto, .int .i64 flow, .int .i64 ttl, .bool true, .bool false, .int .i64 back, .int .u32 src, .int .i64 kind, .int .i64 code, .int .i64 left, .int .i64 id, .int .i64 quo]]) rfl ?_
 refine TL.end_ (TX.then_ (TC.seq_ (TC.seq_ (TC.region ?_))))
 refine TL.val rfl rfl rfl (gives_field rfl rfl (fun w => fR8 _ w)) ?_
 refine TL.val rfl rfl rfl (pm_load (k := 1) rfl rfl agB rfl rfl) ?_
 iterate 10 (first | refine TL.off rfl rfl rfl rfl rfl rfl ?_ | refine TL.offU rfl rfl rfl rfl rfl ?_ | refine TL.val rfl rfl rfl (gives_move rfl rfl) ?_ | refine TL.val rfl rfl rfl (gives_pick rfl rfl rfl) ?_ | refine TL.val rfl rfl rfl (gives_boolnot rfl rfl) ?_)
 refine TL.end_ (TX.then_ (TC.condF rfl (TC.skip_ (TX.then_ (TC.seq_ (TC.seq_ (TC.region ?_)))))))
 refine TL.val rfl rfl rfl (gives_field rfl rfl (fun w => fR8 _ w)) ?_
 refine TL.val rfl rfl rfl (pm_load (k := 1) rfl rfl agB rfl rfl) ?_
 refine TL.val rfl rfl rfl (gives_move rfl rfl) ?_
 refine TL.on rfl rfl rfl ?_
 refine TL.val rfl rfl rfl (gives_field rfl rfl (fun w => fA1 _ w)) ?_
 refine TL.on rfl rfl rfl ?_
 refine TL.val rfl rfl rfl (pm_load (k := 0) rfl rfl agI rfl rfl) ?_
 refine TL.on rfl rfl rfl ?_
 refine TL.vsplit rfl rfl rfl (gives_bin rfl rfl rfl (fun w => bin_lss w)) (fun h94 => ?_) (fun h94 => ?_)
 iterate 46 (first | refine TL.off rfl rfl rfl rfl rfl rfl ?_ | refine TL.on rfl rfl rfl ?_ | refine TL.val rfl rfl rfl (gives_pick rfl rfl rfl) ?_ | refine TL.val rfl rfl rfl (gives_move rfl rfl) ?_)
 refine TL.end_ (TX.then_ (TC.condT rfl (TC.seq_ (TC.region ?_))))
 refine TL.val rfl rfl rfl (gives_assign rfl rfl) ?_
 refine TL.end_ (TX.then_ (TC.ret_ (TX.then_ret ?_)))
 refine ret_tmp Tryd.results15 rfl (fun w1 hw => ⟨congrArg (fun x => Ending.returned (.int .i64 x)) ?_, hw.bel⟩)
 rotate_left
 refine TL.on rfl rfl rfl ?_
 refine TL.val rfl rfl rfl (gives_move rfl rfl) ?_
 refine TL.on rfl rfl rfl ?_
 refine TL.val rfl rfl rfl (gives_field rfl rfl (fun w => fA1 _ w)) ?_
 refine TL.on rfl rfl rfl ?_
 refine TL.val rfl rfl rfl (pm_load (k := 0) rfl rfl agI rfl rfl) ?_
 refine TL.on rfl rfl rfl ?_
 refine TL.vsplit rfl rfl rfl (gives_bin rfl rfl rfl (fun w => bin_gtr w)) (fun h98 => ?_) (fun h98 => ?_)
 iterate 41 (first | refine TL.off rfl rfl rfl rfl rfl rfl ?_ | refine TL.on rfl rfl rfl ?_ | refine TL.val rfl rfl rfl (gives_pick rfl rfl rfl) ?_ | refine TL.val rfl rfl rfl (gives_move rfl rfl) ?_)
 refine TL.end_ (TX.then_ (TC.condT rfl (TC.seq_ (TC.region ?_))))
 refine TL.val rfl rfl rfl (gives_assign rfl rfl) ?_
 refine TL.end_ (TX.then_ (TC.ret_ (TX.then_ret ?_)))
 refine ret_tmp Tryd.results15 rfl (fun w1 hw => ⟨congrArg (fun x => Ending.returned (.int .i64 x)) ?_, hw.bel⟩)
 rotate_left
 iterate 5 (first | refine TL.on rfl rfl rfl ?_ | refine TL.val rfl rfl rfl (gives_move rfl rfl) ?_ | refine TL.val rfl rfl rfl (gives_pick rfl rfl rfl) ?_)
 refine TL.val rfl rfl rfl (gives_field rfl rfl (fun w => fA2 _ w)) ?_
 refine TL.on rfl rfl rfl ?_
 refine TL.val rfl rfl rfl (pm_load (k := 0) rfl rfl agI rfl rfl) ?_
 refine TL.on rfl rfl rfl ?_
 refine TL.callsplit rfl rfl rfl rfl rfl Tryd.func48 nmOctet bdOctet (fun w1 hw => octet_any code w1) (fun h103 => ?_) (fun h103 => ?_)
 iterate 7 (first | refine TL.on rfl rfl rfl ?_ | refine TL.val rfl rfl rfl (gives_move rfl rfl) ?_ | refine TL.val rfl rfl rfl (gives_pick rfl rfl rfl) ?_ | refine TL.val rfl rfl rfl (gives_boolnot rfl rfl) ?_)
 refine TL.val rfl rfl rfl (gives_field rfl rfl (fun w => fA3 _ w)) ?_
 refine TL.on rfl rfl rfl ?_
 refine TL.val rfl rfl rfl (pm_load (k := 0) rfl rfl agI rfl rfl) ?_
 refine TL.on rfl rfl rfl ?_
 refine TL.callsplit rfl rfl rfl rfl rfl Tryd.func48 nmOctet bdOctet (fun w1 hw => octet_any left w1) (fun h109 => ?_) (fun h109 => ?_)
 iterate 7 (first | refine TL.on rfl rfl rfl ?_ | refine TL.val rfl rfl rfl (gives_move rfl rfl) ?_ | refine TL.val rfl rfl rfl (gives_pick rfl rfl rfl) ?_ | refine TL.val rfl rfl rfl (gives_boolnot rfl rfl) ?_)
 refine TL.val rfl rfl rfl (gives_field rfl rfl (fun w => fA5 _ w)) ?_
 refine TL.on rfl rfl rfl ?_
 refine TL.val rfl rfl rfl (pm_load (k := 0) rfl rfl agI rfl rfl) ?_
 refine TL.on rfl rfl rfl ?_
 refine TL.callsplit rfl rfl rfl rfl rfl Tryd.func48 nmOctet bdOctet (fun w1 hw => octet_any quo w1) (fun h115 => ?_) (fun h115 => ?_)
 iterate 7 (first | refine TL.on rfl rfl rfl ?_ | refine TL.val rfl rfl rfl (gives_move rfl rfl) ?_ | refine TL.val rfl rfl rfl (gives_pick rfl rfl rfl) ?_ | refine TL.val rfl rfl rfl (gives_boolnot rfl rfl) ?_)
 refine TL.val rfl rfl rfl (gives_field rfl rfl (fun w => fA4 _ w)) ?_
 refine TL.on rfl rfl rfl ?_
 refine TL.val rfl rfl rfl (pm_load (k := 0) rfl rfl agI rfl rfl) ?_
 refine TL.on rfl rfl rfl ?_
 refine TL.vsplit rfl rfl rfl (gives_bin rfl rfl rfl (fun w => bin_lss w)) (fun h121 => ?_) (fun h121 => ?_)
 iterate 10 (first | refine TL.off rfl rfl rfl rfl rfl rfl ?_ | refine TL.on rfl rfl rfl ?_ | refine TL.val rfl rfl rfl (gives_pick rfl rfl rfl) ?_ | refine TL.val rfl rfl rfl (gives_move rfl rfl) ?_)
 refine TL.end_ (TX.then_ (TC.condT rfl (TC.seq_ (TC.region ?_))))
 refine TL.val rfl rfl rfl (gives_assign rfl rfl) ?_
 refine TL.end_ (TX.then_ (TC.ret_ (TX.then_ret ?_)))
 refine ret_tmp Tryd.results15 rfl (fun w1 hw => ⟨congrArg (fun x => Ending.returned (.int .i64 x)) ?_, hw.bel⟩)
 rotate_left
 iterate 5 (first | refine TL.on rfl rfl rfl ?_ | refine TL.val rfl rfl rfl (gives_move rfl rfl) ?_ | refine TL.val rfl rfl rfl (gives_pick rfl rfl rfl) ?_)
 refine TL.val rfl rfl rfl (gives_field rfl rfl (fun w => fA4 _ w)) ?_
 refine TL.on rfl rfl rfl ?_
 refine TL.val rfl rfl rfl (pm_load (k := 0) rfl rfl agI rfl rfl) ?_
 refine TL.on rfl rfl rfl ?_
 refine TL.vsplit rfl rfl rfl (gives_bin rfl rfl rfl (fun w => bin_gtr w)) (fun h126 => ?_) (fun h126 => ?_)
 refine TL.on rfl rfl rfl ?_
 refine TL.val rfl rfl rfl (gives_pick rfl rfl rfl) ?_
 refine TL.val rfl rfl rfl (gives_pick rfl rfl rfl) ?_
 refine TL.end_ (TX.then_ (TC.condT rfl (TC.seq_ (TC.region ?_))))
 refine TL.val rfl rfl rfl (gives_assign rfl rfl) ?_
 refine TL.end_ (TX.then_ (TC.ret_ (TX.then_ret ?_)))
 refine ret_tmp Tryd.results15 rfl (fun w1 hw => ⟨congrArg (fun x => Ending.returned (.int .i64 x)) ?_, hw.bel⟩)
 rotate_left
 refine TL.on rfl rfl rfl ?_
 refine TL.val rfl rfl rfl (gives_pick rfl rfl rfl) ?_
 refine TL.val rfl rfl rfl (gives_pick rfl rfl rfl) ?_
 refine TL.end_ (TX.then_ (TC.condF rfl (TC.skip_ (TX.then_ (TC.seq_ (TC.region ?_))))))
 refine TL.val rfl rfl rfl (gives_assign rfl rfl) ?_
 refine TL.end_ (TX.then_ (TC.ret_ ?_))
 refine ret_tmp Tryd.results15 rfl (fun w1 hw => ⟨congrArg (fun x => Ending.returned (.int .i64 x)) ?_, hw.bel⟩)
 rotate_left
 iterate 19 (first | refine TL.off rfl rfl rfl rfl rfl rfl ?_ | refine TL.on rfl rfl rfl ?_ | refine TL.val rfl rfl rfl (gives_pick rfl rfl rfl) ?_ | refine TL.val rfl rfl rfl (gives_move rfl rfl) ?_ | refine TL.val rfl rfl rfl (gives_boolnot rfl rfl) ?_)
 refine TL.end_ (TX.then_ (TC.condT rfl (TC.seq_ (TC.region ?_))))
 refine TL.val rfl rfl rfl (gives_assign rfl rfl) ?_
 refine TL.end_ (TX.then_ (TC.ret_ (TX.then_ret ?_)))
 refine ret_tmp Tryd.results15 rfl (fun w1 hw => ⟨congrArg (fun x => Ending.returned (.int .i64 x)) ?_, hw.bel⟩)
 rotate_left
 iterate 27 (first | refine TL.off rfl rfl rfl rfl rfl rfl ?_ | refine TL.on rfl rfl rfl ?_ | refine TL.val rfl rfl rfl (gives_pick rfl rfl rfl) ?_ | refine TL.val rfl rfl rfl (gives_move rfl rfl) ?_ | refine TL.val rfl rfl rfl (gives_boolnot rfl rfl) ?_)
 refine TL.end_ (TX.then_ (TC.condT rfl (TC.seq_ (TC.region ?_))))
 refine TL.val rfl rfl rfl (gives_assign rfl rfl) ?_
 refine TL.end_ (TX.then_ (TC.ret_ (TX.then_ret ?_)))
 refine ret_tmp Tryd.results15 rfl (fun w1 hw => ⟨congrArg (fun x => Ending.returned (.int .i64 x)) ?_, hw.bel⟩)
 rotate_left
 iterate 35 (first | refine TL.off rfl rfl rfl rfl rfl rfl ?_ | refine TL.on rfl rfl rfl ?_ | refine TL.val rfl rfl rfl (gives_pick rfl rfl rfl) ?_ | refine TL.val rfl rfl rfl (gives_move rfl rfl) ?_ | refine TL.val rfl rfl rfl (gives_boolnot rfl rfl) ?_)
 refine TL.end_ (TX.then_ (TC.condT rfl (TC.seq_ (TC.region ?_))))
 refine TL.val rfl rfl rfl (gives_assign rfl rfl) ?_
 refine TL.end_ (TX.then_ (TC.ret_ (TX.then_ret ?_)))
 refine ret_tmp Tryd.results15 rfl (fun w1 hw => ⟨congrArg (fun x => Ending.returned (.int .i64 x)) ?_, hw.bel⟩)
 rotate_left
 iterate 53 (first | refine TL.off rfl rfl rfl rfl rfl rfl ?_ | refine TL.val rfl rfl rfl (gives_move rfl rfl) ?_ | refine TL.val rfl rfl rfl (gives_pick rfl rfl rfl) ?_ | refine TL.val rfl rfl rfl (gives_boolnot rfl rfl) ?_)
 refine TL.end_ (TX.then_ (TC.condT rfl (TC.seq_ (TC.region ?_))))
 refine TL.val rfl rfl rfl (gives_assign rfl rfl) ?_
 refine TL.end_ (TX.then_ (TC.ret_ (TX.then_ret ?_)))
 refine ret_tmp Tryd.results15 rfl (fun w1 hw => ⟨congrArg (fun x => Ending.returned (.int .i64 x)) ?_, hw.bel⟩)
 rotate_left
 all_goals (simp only [decide_eq_true_eq, decide_eq_false_iff_not] at *; first | exact chk_range (by unfold Rs.inRange; dsimp only; omega) | exact chk_ans rfl (by unfold Rs.inRange; dsimp only; omega) (by dsimp only; omega) (by unfold Rs.ansOk; dsimp only; omega) | (simp only [chkR, Rs.inRange, Rs.ansOk, Rs.noAns]; (try split) <;> (try split) <;> (try split) <;> (try split) <;> first | rfl | omega | (simp_all; done) | (simp_all; omega)))
set_option maxHeartbeats 2000000 in
theorem rcheck_any_tt (v run num at_ dst proto flow ttl back src kind code left id quo : Int) (w : World) :
  Calls Tryd.prog 15 #[.agg #[.int .i64 v, .int .i64 run, .int .i64 num, .int .i64 at_, .int .u32 dst, .int .i64 proto, .int .i64 flow, .int .i64 ttl, .bool true, .bool true, .int .i64 back, .int .u32 src, .int .i64 kind, .int .i64 code, .int .i64 left, .int .i64 id, .int .i64 quo]] w fun e w' => e = .returned (.int .i64 (chkR ⟨v, run, num, at_, dst, proto, flow, ttl, true, true, back, src, kind, code, left, id, quo⟩)) ∧ Below w.heap.size w w' := by
 refine begin_ (vs := [.agg #[.int .i64 v, .int .i64 run, .int .i64 num, .int .i64 at_, .int .u32 dst, .int .i64 proto, .int .i64 flow, .int .i64 ttl, .bool true, .bool true, .int .i64 back, .int .u32 src, .int .i64 kind, .int .i64 code, .int .i64 left, .int .i64 id, .int .i64 quo]]) Tryd.func15 rfl rfl rfl ?_ (Pm.start w)
 refine TC.seq_ (TC.region ?_)
 refine TL.pnew rfl rfl rfl (exec_box (cs := [.int .i64 v, .int .i64 run, .int .i64 num, .int .i64 at_, .int .u32 dst, .int .i64 proto, .int .i64 flow, .int .i64 ttl, .bool true, .bool true, .int .i64 back, .int .u32 src, .int .i64 kind, .int .i64 code, .int .i64 left, .int .i64 id, .int .i64 quo]) rfl rfl rfl) (fun g1 => ?_)
 refine TL.val rfl rfl rfl (gives_assign rfl rfl) ?_
 refine TL.end_ (TX.then_ (TC.seq_ (TC.seq_ (TC.region ?_))))
 refine TL.val rfl rfl rfl (gives_field rfl rfl (fun w => fR0 _ w)) ?_
 refine TL.val rfl rfl rfl (pm_load (k := 0) rfl rfl agI rfl rfl) ?_
 refine TL.val rfl rfl rfl (gives_field rfl rfl (fun w => fR1 _ w)) ?_
 refine TL.val rfl rfl rfl (pm_load (k := 0) rfl rfl agI rfl rfl) ?_
 refine TL.callsplit rfl rfl rfl rfl rfl Tryd.func47 nmIdent bdIdent (fun w1 hw => ident_any v run w1) (fun h8 => ?_) (fun h8 => ?_)
 refine TL.val rfl rfl rfl (gives_boolnot rfl rfl) ?_
 refine TL.val rfl rfl rfl (gives_move rfl rfl) ?_
 refine TL.on rfl rfl rfl ?_
 refine TL.val rfl rfl rfl (gives_field rfl rfl (fun w => fR2 _ w)) ?_
 refine TL.on rfl rfl rfl ?_
 refine TL.val rfl rfl rfl (pm_load (k := 0) rfl rfl agI rfl rfl) ?_
 refine TL.on rfl rfl rfl ?_
 refine TL.vsplit rfl rfl rfl (gives_bin rfl rfl rfl (fun w => bin_lss w)) (fun h13 => ?_) (fun h13 => ?_)
 iterate 48 (first | refine TL.off rfl rfl rfl rfl rfl rfl ?_ | refine TL.val rfl rfl rfl (gives_pick rfl rfl rfl) ?_ | refine TL.val rfl rfl rfl (gives_move rfl rfl) ?_)
 refine TL.end_ (TX.then_ (TC.condT rfl (TC.seq_ (TC.region ?_))))
 refine TL.val rfl rfl rfl (gives_assign rfl rfl) ?_
 refine TL.end_ (TX.then_ (TC.ret_ (TX.then_ret ?_)))
 refine ret_tmp Tryd.results15 rfl (fun w1 hw => ⟨congrArg (fun x => Ending.returned (.int .i64 x)) ?_, hw.bel⟩)
 rotate_left
 refine TL.val rfl rfl rfl (gives_pick rfl rfl rfl) ?_
 refine TL.val rfl rfl rfl (gives_move rfl rfl) ?_
 refine TL.on rfl rfl rfl ?_
 refine TL.val rfl rfl rfl (gives_field rfl rfl (fun w => fR2 _ w)) ?_
 refine TL.on rfl rfl rfl ?_
 refine TL.val rfl rfl rfl (pm_load (k := 0) rfl rfl agI rfl rfl) ?_
 refine TL.on rfl rfl rfl ?_
 refine TL.vsplit rfl rfl rfl (gives_bin rfl rfl rfl (fun w => bin_geq w)) (fun h18 => ?_) (fun h18 => ?_)
 iterate 43 (first | refine TL.off rfl rfl rfl rfl rfl rfl ?_ | refine TL.val rfl rfl rfl (gives_pick rfl rfl rfl) ?_ | refine TL.val rfl rfl rfl (gives_move rfl rfl) ?_)
 refine TL.end_ (TX.then_ (TC.condT rfl (TC.seq_ (TC.region ?_))))
 refine TL.val rfl rfl rfl (gives_assign rfl rfl) ?_
 refine TL.end_ (TX.then_ (TC.ret_ (TX.then_ret ?_)))
 refine ret_tmp Tryd.results15 rfl (fun w1 hw => ⟨congrArg (fun x => Ending.returned (.int .i64 x)) ?_, hw.bel⟩)
 rotate_left
 refine TL.val rfl rfl rfl (gives_pick rfl rfl rfl) ?_
 refine TL.val rfl rfl rfl (gives_move rfl rfl) ?_
 refine TL.on rfl rfl rfl ?_
 refine TL.val rfl rfl rfl (gives_field rfl rfl (fun w => fR3 _ w)) ?_
 refine TL.on rfl rfl rfl ?_
 refine TL.val rfl rfl rfl (pm_load (k := 0) rfl rfl agI rfl rfl) ?_
 refine TL.on rfl rfl rfl ?_
 refine TL.vsplit rfl rfl rfl (gives_bin rfl rfl rfl (fun w => bin_lss w)) (fun h23 => ?_) (fun h23 => ?_)
 iterate 38 (first | refine TL.off rfl rfl rfl rfl rfl rfl ?_ | refine TL.val rfl rfl rfl (gives_pick rfl rfl rfl) ?_ | refine TL.val rfl rfl rfl (gives_move rfl rfl) ?_)
 refine TL.end_ (TX.then_ (TC.condT rfl (TC.seq_ (TC.region ?_))))
 refine TL.val rfl rfl rfl (gives_assign rfl rfl) ?_
 refine TL.end_ (TX.then_ (TC.ret_ (TX.then_ret ?_)))
 refine ret_tmp Tryd.results15 rfl (fun w1 hw => ⟨congrArg (fun x => Ending.returned (.int .i64 x)) ?_, hw.bel⟩)
 rotate_left
 refine TL.val rfl rfl rfl (gives_pick rfl rfl rfl) ?_
 refine TL.val rfl rfl rfl (gives_move rfl rfl) ?_
 refine TL.on rfl rfl rfl ?_
 refine TL.val rfl rfl rfl (gives_field rfl rfl (fun w => fR3 _ w)) ?_
 refine TL.on rfl rfl rfl ?_
 refine TL.val rfl rfl rfl (pm_load (k := 0) rfl rfl agI rfl rfl) ?_
 refine TL.on rfl rfl rfl ?_
 refine TL.vsplit rfl rfl rfl (gives_bin rfl rfl rfl (fun w => bin_gtr w)) (fun h28 => ?_) (fun h28 => ?_)
 iterate 33 (first | refine TL.off rfl rfl rfl rfl rfl rfl ?_ | refine TL.val rfl rfl rfl (gives_pick rfl rfl rfl) ?_ | refine TL.val rfl rfl rfl (gives_move rfl rfl) ?_)
 refine TL.end_ (TX.then_ (TC.condT rfl (TC.seq_ (TC.region ?_))))
 refine TL.val rfl rfl rfl (gives_assign rfl rfl) ?_
 refine TL.end_ (TX.then_ (TC.ret_ (TX.then_ret ?_)))
 refine ret_tmp Tryd.results15 rfl (fun w1 hw => ⟨congrArg (fun x => Ending.returned (.int .i64 x)) ?_, hw.bel⟩)
 rotate_left
 refine TL.val rfl rfl rfl (gives_pick rfl rfl rfl) ?_
 refine TL.val rfl rfl rfl (gives_move rfl rfl) ?_
 refine TL.on rfl rfl rfl ?_
 refine TL.val rfl rfl rfl (gives_field rfl rfl (fun w => fR10 _ w)) ?_
 refine TL.on rfl rfl rfl ?_
 refine TL.val rfl rfl rfl (pm_load (k := 0) rfl rfl agI rfl rfl) ?_
 refine TL.on rfl rfl rfl ?_
 refine TL.val rfl rfl rfl (gives_field rfl rfl (fun w => fR3 _ w)) ?_
 refine TL.on rfl rfl rfl ?_
 refine TL.val rfl rfl rfl (pm_load (k := 0) rfl rfl agI rfl rfl) ?_
 refine TL.on rfl rfl rfl ?_
 refine TL.vsplit rfl rfl rfl (gives_bin rfl rfl rfl (fun w => bin_lss w)) (fun h35 => ?_) (fun h35 => ?_)
 iterate 26 (first | refine TL.off rfl rfl rfl rfl rfl rfl ?_ | refine TL.val rfl rfl rfl (gives_pick rfl rfl rfl) ?_ | refine TL.val rfl rfl rfl (gives_move rfl rfl) ?_)
 refine TL.end_ (TX.then_ (TC.condT rfl (TC.seq_ (TC.region ?_))))
 refine TL.val rfl rfl rfl (gives_assign rfl rfl) ?_
 refine TL.end_ (TX.then_ (TC.ret_ (TX.then_ret ?_)))
 refine ret_tmp Tryd.results15 rfl (fun w1 hw => ⟨congrArg (fun x => Ending.returned (.int .i64 x)) ?_, hw.bel⟩)
 rotate_left
 refine TL.val rfl rfl rfl (gives_pick rfl rfl rfl) ?_
 refine TL.val rfl rfl rfl (gives_move rfl rfl) ?_
 refine TL.on rfl rfl rfl ?_
 refine TL.val rfl rfl rfl (gives_field rfl rfl (fun w => fR10 _ w)) ?_
 refine TL.on rfl rfl rfl ?_
 refine TL.val rfl rfl rfl (pm_load (k := 0) rfl rfl agI rfl rfl) ?_
 refine TL.on rfl rfl rfl ?_
 refine TL.vsplit rfl rfl rfl (gives_bin rfl rfl rfl (fun w => bin_gtr w)) (fun h40 => ?_) (fun h40 => ?_)
 iterate 21 (first | refine TL.off rfl rfl rfl rfl rfl rfl ?_ | refine TL.val rfl rfl rfl (gives_pick rfl rfl rfl) ?_ | refine TL.val rfl rfl rfl (gives_move rfl rfl) ?_)
 refine TL.end_ (TX.then_ (TC.condT rfl (TC.seq_ (TC.region ?_))))
 refine TL.val rfl rfl rfl (gives_assign rfl rfl) ?_
 refine TL.end_ (TX.then_ (TC.ret_ (TX.then_ret ?_)))
 refine ret_tmp Tryd.results15 rfl (fun w1 hw => ⟨congrArg (fun x => Ending.returned (.int .i64 x)) ?_, hw.bel⟩)
 rotate_left
 refine TL.val rfl rfl rfl (gives_pick rfl rfl rfl) ?_
 refine TL.val rfl rfl rfl (gives_move rfl rfl) ?_
 refine TL.on rfl rfl rfl ?_
 refine TL.val rfl rfl rfl (gives_field rfl rfl (fun w => fR6 _ w)) ?_
 refine TL.on rfl rfl rfl ?_
 refine TL.val rfl rfl rfl (pm_load (k := 0) rfl rfl agI rfl rfl) ?_
 refine TL.on rfl rfl rfl ?_
 refine TL.vsplit rfl rfl rfl (gives_bin rfl rfl rfl (fun w => bin_lss w)) (fun h45 => ?_) (fun h45 => ?_)
 iterate 16 (first | refine TL.off rfl rfl rfl rfl rfl rfl ?_ | refine TL.val rfl rfl rfl (gives_pick rfl rfl rfl) ?_ | refine TL.val rfl rfl rfl (gives_move rfl rfl) ?_)
 refine TL.end_ (TX.then_ (TC.condT rfl (TC.seq_ (TC.region ?_))))
 refine TL.val rfl rfl rfl (gives_assign rfl rfl) ?_
 refine TL.end_ (TX.then_ (TC.ret_ (TX.then_ret ?_)))
 refine ret_tmp Tryd.results15 rfl (fun w1 hw => ⟨congrArg (fun x => Ending.returned (.int .i64 x)) ?_, hw.bel⟩)
 rotate_left
 refine TL.val rfl rfl rfl (gives_pick rfl rfl rfl) ?_
 refine TL.val rfl rfl rfl (gives_move rfl rfl) ?_
 refine TL.on rfl rfl rfl ?_
 refine TL.val rfl rfl rfl (gives_field rfl rfl (fun w => fR6 _ w)) ?_
 refine TL.on rfl rfl rfl ?_
 refine TL.val rfl rfl rfl (pm_load (k := 0) rfl rfl agI rfl rfl) ?_
 refine TL.on rfl rfl rfl ?_
 refine TL.vsplit rfl rfl rfl (gives_bin rfl rfl rfl (fun w => bin_gtr w)) (fun h50 => ?_) (fun h50 => ?_)
 iterate 11 (first | refine TL.off rfl rfl rfl rfl rfl rfl ?_ | refine TL.val rfl rfl rfl (gives_pick rfl rfl rfl) ?_ | refine TL.val rfl rfl rfl (gives_move rfl rfl) ?_)
 refine TL.end_ (TX.then_ (TC.condT rfl (TC.seq_ (TC.region ?_))))
 refine TL.val rfl rfl rfl (gives_assign rfl rfl) ?_
 refine TL.end_ (TX.then_ (TC.ret_ (TX.then_ret ?_)))
 refine ret_tmp Tryd.results15 rfl (fun w1 hw => ⟨congrArg (fun x => Ending.returned (.int .i64 x)) ?_, hw.bel⟩)
 rotate_left
 refine TL.val rfl rfl rfl (gives_pick rfl rfl rfl) ?_
 refine TL.val rfl rfl rfl (gives_move rfl rfl) ?_
 refine TL.on rfl rfl rfl ?_
 refine TL.val rfl rfl rfl (gives_field rfl rfl (fun w => fR7 _ w)) ?_
 refine TL.on rfl rfl rfl ?_
 refine TL.val rfl rfl rfl (pm_load (k := 0) rfl rfl agI rfl rfl) ?_
 refine TL.on rfl rfl rfl ?_
 refine TL.vsplit rfl rfl rfl (gives_bin rfl rfl rfl (fun w => bin_lss w)) (fun h55 => ?_) (fun h55 => ?_)
 iterate 6 (first | refine TL.off rfl rfl rfl rfl rfl rfl ?_ | refine TL.val rfl rfl rfl (gives_pick rfl rfl rfl) ?_ | refine TL.val rfl rfl rfl (gives_move rfl rfl) ?_)
 refine TL.end_ (TX.then_ (TC.condT rfl (TC.seq_ (TC.region ?_))))
 refine TL.val rfl rfl rfl (gives_assign rfl rfl) ?_
 refine TL.end_ (TX.then_ (TC.ret_ (TX.then_ret ?_)))
 refine ret_tmp Tryd.results15 rfl (fun w1 hw => ⟨congrArg (fun x => Ending.returned (.int .i64 x)) ?_, hw.bel⟩)
 rotate_left
 refine TL.val rfl rfl rfl (gives_pick rfl rfl rfl) ?_
 refine TL.val rfl rfl rfl (gives_move rfl rfl) ?_
 refine TL.on rfl rfl rfl ?_
 refine TL.val rfl rfl rfl (gives_field rfl rfl (fun w => fR7 _ w)) ?_
 refine TL.on rfl rfl rfl ?_
 refine TL.val rfl rfl rfl (pm_load (k := 0) rfl rfl agI rfl rfl) ?_
 refine TL.on rfl rfl rfl ?_
 refine TL.vsplit rfl rfl rfl (gives_bin rfl rfl rfl (fun w => bin_gtr w)) (fun h60 => ?_) (fun h60 => ?_)
 refine TL.val rfl rfl rfl (gives_pick rfl rfl rfl) ?_
 refine TL.end_ (TX.then_ (TC.condT rfl (TC.seq_ (TC.region ?_))))
 refine TL.val rfl rfl rfl (gives_assign rfl rfl) ?_
 refine TL.end_ (TX.then_ (TC.ret_ (TX.then_ret ?_)))
 refine ret_tmp Tryd.results15 rfl (fun w1 hw => ⟨congrArg (fun x => Ending.returned (.int .i64 x)) ?_, hw.bel⟩)
 rotate_left
 refine TL.val rfl rfl rfl (gives_pick rfl rfl rfl) ?_
 refine TL.end_ (TX.then_ (TC.condF rfl (TC.skip_ (TX.then_ ?_))))
 refine TC.join (α := PLift (proto = 1 ∨ proto = 6 ∨ proto = 17)) (fun _ => [(1, .pointer (some ⟨g1, 0, none⟩))]) (fun _ => Pm w [.blk g1 27 [.int .i64 v, .int .i64 run, .int .i64 num, .int .i64 at_, .int .u32 dst, .int .i64 proto, .int .i64 flow, .int .i64 ttl, .bool true, .bool true, .int .i64 back, .int .u32 src, .int .i64 kind, .int .i64 code, .int .i64 left, .int .i64 id, .int .i64 quo]]) ?_ ?_
 refine TC.seq_ (TC.region ?_)
 refine TL.val rfl rfl rfl (gives_field rfl rfl (fun w => fR5 _ w)) ?_
 refine TL.val rfl rfl rfl (pm_load (k := 0) rfl rfl agI rfl rfl) ?_
 refine TL.vsplit rfl rfl rfl (gives_bin rfl rfl rfl (fun w => bin_neq w)) (fun h64 => ?_) (fun h64 => ?_)
 refine TL.val rfl rfl rfl (gives_move rfl rfl) ?_
 refine TL.on rfl rfl rfl ?_
 refine TL.val rfl rfl rfl (gives_field rfl rfl (fun w => fR5 _ w)) ?_
 refine TL.on rfl rfl rfl ?_
 refine TL.val rfl rfl rfl (pm_load (k := 0) rfl rfl agI rfl rfl) ?_
 refine TL.on rfl rfl rfl ?_
 refine TL.vsplit rfl rfl rfl (gives_bin rfl rfl rfl (fun w => bin_neq w)) (fun h68 => ?_) (fun h68 => ?_)
 refine TL.val rfl rfl rfl (gives_pick rfl rfl rfl) ?_
 refine TL.val rfl rfl rfl (gives_move rfl rfl) ?_
 refine TL.on rfl rfl rfl ?_
 refine TL.val rfl rfl rfl (gives_field rfl rfl (fun w => fR5 _ w)) ?_
 refine TL.on rfl rfl rfl ?_
 refine TL.val rfl rfl rfl (pm_load (k := 0) rfl rfl agI rfl rfl) ?_
 refine TL.on rfl rfl rfl ?_
 refine TL.vsplit rfl rfl rfl (gives_bin rfl rfl rfl (fun w => bin_neq w)) (fun h73 => ?_) (fun h73 => ?_)
 refine TL.val rfl rfl rfl (gives_pick rfl rfl rfl) ?_
 refine TL.end_ (TX.then_ (TC.condT rfl (TC.seq_ (TC.region ?_))))
 refine TL.val rfl rfl rfl (gives_assign rfl rfl) ?_
 refine TL.end_ (TX.then_ (TC.ret_ (TX.then_ret ?_)))
 refine ret_tmp Tryd.results15 rfl (fun w1 hw => ⟨congrArg (fun x => Ending.returned (.int .i64 x)) ?_, hw.bel⟩)
 rotate_left
 refine TL.val rfl rfl rfl (gives_pick rfl rfl rfl) ?_
 refine TL.end_ (TX.then_ (TC.condF rfl (TC.skip_ ?_)))
 exact TX.joined (⟨by simp only [decide_eq_true_eq, decide_eq_false_iff_not] at *; omega⟩) (⟨rfl, trivial⟩) (fun w hw => hw)
 iterate 6 (first | refine TL.off rfl rfl rfl rfl rfl rfl ?_ | refine TL.val rfl rfl rfl (gives_pick rfl rfl rfl) ?_ | refine TL.val rfl rfl rfl (gives_move rfl rfl) ?_)
 refine TL.end_ (TX.then_ (TC.condF rfl (TC.skip_ ?_)))
 exact TX.joined (⟨by simp only [decide_eq_true_eq, decide_eq_false_iff_not] at *; omega⟩) (⟨rfl, trivial⟩) (fun w hw => hw)
 iterate 10 (first | refine TL.off rfl rfl rfl rfl rfl rfl ?_ | refine TL.val rfl rfl rfl (gives_move rfl rfl) ?_ | refine TL.val rfl rfl rfl (gives_pick rfl rfl rfl) ?_)
 refine TL.end_ (TX.then_ (TC.condF rfl (TC.skip_ ?_)))
 exact TX.joined (⟨by simp only [decide_eq_true_eq, decide_eq_false_iff_not] at *; omega⟩) (⟨rfl, trivial⟩) (fun w hw => hw)
 rintro ⟨hproto⟩
 refine TC.seq_ (TC.region ?_)
 refine TL.val rfl rfl rfl (gives_field rfl rfl (fun w => fR11 _ w)) ?_
 refine TL.val rfl rfl rfl (pm_loadAgg (k := 0) (n := 6) rfl rfl agA szA rfl (Nat.le_refl 17)) ?_
 refine TL.pnew rfl rfl rfl (exec_alloc (cs := [.int .u32 0, .int .i64 0, .int .i64 0, .int .i64 0, .int .i64 0, .int .i64 0]) rfl zeroA rfl) (fun g3 => ?_)
 refine TL.pstore (k := 0) (vs := [.int .u32 src, .int .i64 kind, .int .i64 code, .int .i64 left, .int .i64 id, .int .i64 quo]) rfl rfl rfl rfl rfl rfl rfl szA (oneA _ _ _ _ _ _) (Nat.le_refl 6) (L' := [.blk g3 25 [.int .u32 src, .int .i64 kind, .int .i64 code, .int .i64 left, .int .i64 id, .int .i64 quo], .blk g1 27 [.int .i64 v, .int .i64 run, .int .i64 num, .int .i64 at_, .int .u32 dst, .int .i64 proto, .int .i64 flow, .int .i64 ttl, .bool true, .bool true, .int .i64 back, .int .u32 src, .int .i64 kind, .int .i64 code, .int .i64 left, .int .i64 id, .int .i64 quo]]) rfl ?_
 refine TL.end_ (TX.then_ (TC.seq_ (TC.seq_ (TC.region ?_))))
 refine TL.val rfl rfl rfl (gives_field rfl rfl (fun w => fR8 _ w)) ?_
 refine TL.val rfl rfl rfl (pm_load (k := 1) rfl rfl agB rfl rfl) ?_
 iterate 10 (first | refine TL.off rfl rfl rfl rfl rfl rfl ?_ | refine TL.offU rfl rfl rfl rfl rfl ?_ | refine TL.val rfl rfl rfl (gives_move rfl rfl) ?_ | refine TL.val rfl rfl rfl (gives_pick rfl rfl rfl) ?_ | refine TL.val rfl rfl rfl (gives_boolnot rfl rfl) ?_)
 refine TL.end_ (TX.then_ (TC.condF rfl (TC.skip_ (TX.then_ (TC.seq_ (TC.seq_ (TC.region ?_)))))))
 refine TL.val rfl rfl rfl (gives_field rfl rfl (fun w => fR8 _ w)) ?_
 refine TL.val rfl rfl rfl (pm_load (k := 1) rfl rfl agB rfl rfl) ?_
 refine TL.val rfl rfl rfl (gives_move rfl rfl) ?_
 refine TL.on rfl rfl rfl ?_
 refine TL.val rfl rfl rfl (gives_field rfl rfl (fun w => fA1 _ w)) ?_
 refine TL.on rfl rfl rfl ?_
 refine TL.val rfl rfl rfl (pm_load (k := 0) rfl rfl agI rfl rfl) ?_
 refine TL.on rfl rfl rfl ?_
 refine TL.vsplit rfl rfl rfl (gives_bin rfl rfl rfl (fun w => bin_lss w)) (fun h94 => ?_) (fun h94 => ?_)
 iterate 46 (first | refine TL.off rfl rfl rfl rfl rfl rfl ?_ | refine TL.on rfl rfl rfl ?_ | refine TL.val rfl rfl rfl (gives_pick rfl rfl rfl) ?_ | refine TL.val rfl rfl rfl (gives_move rfl rfl) ?_)
 refine TL.end_ (TX.then_ (TC.condT rfl (TC.seq_ (TC.region ?_))))
 refine TL.val rfl rfl rfl (gives_assign rfl rfl) ?_
 refine TL.end_ (TX.then_ (TC.ret_ (TX.then_ret ?_)))
 refine ret_tmp Tryd.results15 rfl (fun w1 hw => ⟨congrArg (fun x => Ending.returned (.int .i64 x)) ?_, hw.bel⟩)
 rotate_left
 refine TL.on rfl rfl rfl ?_
 refine TL.val rfl rfl rfl (gives_move rfl rfl) ?_
 refine TL.on rfl rfl rfl ?_
 refine TL.val rfl rfl rfl (gives_field rfl rfl (fun w => fA1 _ w)) ?_
 refine TL.on rfl rfl rfl ?_
 refine TL.val rfl rfl rfl (pm_load (k := 0) rfl rfl agI rfl rfl) ?_
 refine TL.on rfl rfl rfl ?_
 refine TL.vsplit rfl rfl rfl (gives_bin rfl rfl rfl (fun w => bin_gtr w)) (fun h98 => ?_) (fun h98 => ?_)
 iterate 41 (first | refine TL.off rfl rfl rfl rfl rfl rfl ?_ | refine TL.on rfl rfl rfl ?_ | refine TL.val rfl rfl rfl (gives_pick rfl rfl rfl) ?_ | refine TL.val rfl rfl rfl (gives_move rfl rfl) ?_)
 refine TL.end_ (TX.then_ (TC.condT rfl (TC.seq_ (TC.region ?_))))
 refine TL.val rfl rfl rfl (gives_assign rfl rfl) ?_
 refine TL.end_ (TX.then_ (TC.ret_ (TX.then_ret ?_)))
 refine ret_tmp Tryd.results15 rfl (fun w1 hw => ⟨congrArg (fun x => Ending.returned (.int .i64 x)) ?_, hw.bel⟩)
 rotate_left
 iterate 5 (first | refine TL.on rfl rfl rfl ?_ | refine TL.val rfl rfl rfl (gives_move rfl rfl) ?_ | refine TL.val rfl rfl rfl (gives_pick rfl rfl rfl) ?_)
 refine TL.val rfl rfl rfl (gives_field rfl rfl (fun w => fA2 _ w)) ?_
 refine TL.on rfl rfl rfl ?_
 refine TL.val rfl rfl rfl (pm_load (k := 0) rfl rfl agI rfl rfl) ?_
 refine TL.on rfl rfl rfl ?_
 refine TL.callsplit rfl rfl rfl rfl rfl Tryd.func48 nmOctet bdOctet (fun w1 hw => octet_any code w1) (fun h103 => ?_) (fun h103 => ?_)
 iterate 7 (first | refine TL.on rfl rfl rfl ?_ | refine TL.val rfl rfl rfl (gives_move rfl rfl) ?_ | refine TL.val rfl rfl rfl (gives_pick rfl rfl rfl) ?_ | refine TL.val rfl rfl rfl (gives_boolnot rfl rfl) ?_)
 refine TL.val rfl rfl rfl (gives_field rfl rfl (fun w => fA3 _ w)) ?_
 refine TL.on rfl rfl rfl ?_
 refine TL.val rfl rfl rfl (pm_load (k := 0) rfl rfl agI rfl rfl) ?_
 refine TL.on rfl rfl rfl ?_
 refine TL.callsplit rfl rfl rfl rfl rfl Tryd.func48 nmOctet bdOctet (fun w1 hw => octet_any left w1) (fun h109 => ?_) (fun h109 => ?_)
 iterate 7 (first | refine TL.on rfl rfl rfl ?_ | refine TL.val rfl rfl rfl (gives_move rfl rfl) ?_ | refine TL.val rfl rfl rfl (gives_pick rfl rfl rfl) ?_ | refine TL.val rfl rfl rfl (gives_boolnot rfl rfl) ?_)
 refine TL.val rfl rfl rfl (gives_field rfl rfl (fun w => fA5 _ w)) ?_
 refine TL.on rfl rfl rfl ?_
 refine TL.val rfl rfl rfl (pm_load (k := 0) rfl rfl agI rfl rfl) ?_
 refine TL.on rfl rfl rfl ?_
 refine TL.callsplit rfl rfl rfl rfl rfl Tryd.func48 nmOctet bdOctet (fun w1 hw => octet_any quo w1) (fun h115 => ?_) (fun h115 => ?_)
 iterate 7 (first | refine TL.on rfl rfl rfl ?_ | refine TL.val rfl rfl rfl (gives_move rfl rfl) ?_ | refine TL.val rfl rfl rfl (gives_pick rfl rfl rfl) ?_ | refine TL.val rfl rfl rfl (gives_boolnot rfl rfl) ?_)
 refine TL.val rfl rfl rfl (gives_field rfl rfl (fun w => fA4 _ w)) ?_
 refine TL.on rfl rfl rfl ?_
 refine TL.val rfl rfl rfl (pm_load (k := 0) rfl rfl agI rfl rfl) ?_
 refine TL.on rfl rfl rfl ?_
 refine TL.vsplit rfl rfl rfl (gives_bin rfl rfl rfl (fun w => bin_lss w)) (fun h121 => ?_) (fun h121 => ?_)
 iterate 10 (first | refine TL.off rfl rfl rfl rfl rfl rfl ?_ | refine TL.on rfl rfl rfl ?_ | refine TL.val rfl rfl rfl (gives_pick rfl rfl rfl) ?_ | refine TL.val rfl rfl rfl (gives_move rfl rfl) ?_)
 refine TL.end_ (TX.then_ (TC.condT rfl (TC.seq_ (TC.region ?_))))
 refine TL.val rfl rfl rfl (gives_assign rfl rfl) ?_
 refine TL.end_ (TX.then_ (TC.ret_ (TX.then_ret ?_)))
 refine ret_tmp Tryd.results15 rfl (fun w1 hw => ⟨congrArg (fun x => Ending.returned (.int .i64 x)) ?_, hw.bel⟩)
 rotate_left
 iterate 5 (first | refine TL.on rfl rfl rfl ?_ | refine TL.val rfl rfl rfl (gives_move rfl rfl) ?_ | refine TL.val rfl rfl rfl (gives_pick rfl rfl rfl) ?_)
 refine TL.val rfl rfl rfl (gives_field rfl rfl (fun w => fA4 _ w)) ?_
 refine TL.on rfl rfl rfl ?_
 refine TL.val rfl rfl rfl (pm_load (k := 0) rfl rfl agI rfl rfl) ?_
 refine TL.on rfl rfl rfl ?_
 refine TL.vsplit rfl rfl rfl (gives_bin rfl rfl rfl (fun w => bin_gtr w)) (fun h126 => ?_) (fun h126 => ?_)
 refine TL.on rfl rfl rfl ?_
 refine TL.val rfl rfl rfl (gives_pick rfl rfl rfl) ?_
 refine TL.val rfl rfl rfl (gives_pick rfl rfl rfl) ?_
 refine TL.end_ (TX.then_ (TC.condT rfl (TC.seq_ (TC.region ?_))))
 refine TL.val rfl rfl rfl (gives_assign rfl rfl) ?_
 refine TL.end_ (TX.then_ (TC.ret_ (TX.then_ret ?_)))
 refine ret_tmp Tryd.results15 rfl (fun w1 hw => ⟨congrArg (fun x => Ending.returned (.int .i64 x)) ?_, hw.bel⟩)
 rotate_left
 refine TL.on rfl rfl rfl ?_
 refine TL.val rfl rfl rfl (gives_pick rfl rfl rfl) ?_
 refine TL.val rfl rfl rfl (gives_pick rfl rfl rfl) ?_
 refine TL.end_ (TX.then_ (TC.condF rfl (TC.skip_ (TX.then_ (TC.seq_ (TC.region ?_))))))
 refine TL.val rfl rfl rfl (gives_assign rfl rfl) ?_
 refine TL.end_ (TX.then_ (TC.ret_ ?_))
 refine ret_tmp Tryd.results15 rfl (fun w1 hw => ⟨congrArg (fun x => Ending.returned (.int .i64 x)) ?_, hw.bel⟩)
 rotate_left
 iterate 19 (first | refine TL.off rfl rfl rfl rfl rfl rfl ?_ | refine TL.on rfl rfl rfl ?_ | refine TL.val rfl rfl rfl (gives_pick rfl rfl rfl) ?_ | refine TL.val rfl rfl rfl (gives_move rfl rfl) ?_ | refine TL.val rfl rfl rfl (gives_boolnot rfl rfl) ?_)
 refine TL.end_ (TX.then_ (TC.condT rfl (TC.seq_ (TC.region ?_))))
 refine TL.val rfl rfl rfl (gives_assign rfl rfl) ?_
 refine TL.end_ (TX.then_ (TC.ret_ (TX.then_ret ?_)))
 refine ret_tmp Tryd.results15 rfl (fun w1 hw => ⟨congrArg (fun x => Ending.returned (.int .i64 x)) ?_, hw.bel⟩)
 rotate_left
 iterate 27 (first | refine TL.off rfl rfl rfl rfl rfl rfl ?_ | refine TL.on rfl rfl rfl ?_ | refine TL.val rfl rfl rfl (gives_pick rfl rfl rfl) ?_ | refine TL.val rfl rfl rfl (gives_move rfl rfl) ?_ | refine TL.val rfl rfl rfl (gives_boolnot rfl rfl) ?_)
 refine TL.end_ (TX.then_ (TC.condT rfl (TC.seq_ (TC.region ?_))))
 refine TL.val rfl rfl rfl (gives_assign rfl rfl) ?_
 refine TL.end_ (TX.then_ (TC.ret_ (TX.then_ret ?_)))
 refine ret_tmp Tryd.results15 rfl (fun w1 hw => ⟨congrArg (fun x => Ending.returned (.int .i64 x)) ?_, hw.bel⟩)
 rotate_left
 iterate 35 (first | refine TL.off rfl rfl rfl rfl rfl rfl ?_ | refine TL.on rfl rfl rfl ?_ | refine TL.val rfl rfl rfl (gives_pick rfl rfl rfl) ?_ | refine TL.val rfl rfl rfl (gives_move rfl rfl) ?_ | refine TL.val rfl rfl rfl (gives_boolnot rfl rfl) ?_)
 refine TL.end_ (TX.then_ (TC.condT rfl (TC.seq_ (TC.region ?_))))
 refine TL.val rfl rfl rfl (gives_assign rfl rfl) ?_
 refine TL.end_ (TX.then_ (TC.ret_ (TX.then_ret ?_)))
 refine ret_tmp Tryd.results15 rfl (fun w1 hw => ⟨congrArg (fun x => Ending.returned (.int .i64 x)) ?_, hw.bel⟩)
 rotate_left
 iterate 53 (first | refine TL.off rfl rfl rfl rfl rfl rfl ?_ | refine TL.val rfl rfl rfl (gives_move rfl rfl) ?_ | refine TL.val rfl rfl rfl (gives_pick rfl rfl rfl) ?_ | refine TL.val rfl rfl rfl (gives_boolnot rfl rfl) ?_)
 refine TL.end_ (TX.then_ (TC.condT rfl (TC.seq_ (TC.region ?_))))
 refine TL.val rfl rfl rfl (gives_assign rfl rfl) ?_
 refine TL.end_ (TX.then_ (TC.ret_ (TX.then_ret ?_)))
 refine ret_tmp Tryd.results15 rfl (fun w1 hw => ⟨congrArg (fun x => Ending.returned (.int .i64 x)) ?_, hw.bel⟩)
 rotate_left
 all_goals (simp only [decide_eq_true_eq, decide_eq_false_iff_not] at *; first | exact chk_range (by unfold Rs.inRange; dsimp only; omega) | exact chk_ans rfl (by unfold Rs.inRange; dsimp only; omega) (by dsimp only; omega) (by unfold Rs.ansOk; dsimp only; omega) | (simp only [chkR, Rs.inRange, Rs.ansOk, Rs.noAns]; (try split) <;> (try split) <;> (try split) <;> (try split) <;> first | rfl | omega | (simp_all; done) | (simp_all; omega)))
theorem rcheck_any (r : Rs) (w : World) :
  Calls Tryd.prog 15 #[.agg r.cells.toArray] w fun e w' => e = .returned (.int .i64 (chkR r)) ∧ Below w.heap.size w w' := by
 obtain ⟨v, run, num, at_, dst, proto, flow, ttl, ans, dbl, back, src, kind, code, left, id, quo⟩ := r
 cases ans <;> cases dbl
 ·exact rcheck_any_ff v run num at_ dst proto flow ttl back src kind code left id quo w
 ·exact rcheck_any_ft v run num at_ dst proto flow ttl back src kind code left id quo w
 ·exact rcheck_any_tf v run num at_ dst proto flow ttl back src kind code left id quo w
 ·exact rcheck_any_tt v run num at_ dst proto flow ttl back src kind code left id quo w
end Go.Proofs.YtmeaeeehnkcblaaDoor

namespace Go.Proofs.YtmeaeeehnkcblaaDoor
open Go.RowKit
set_option linter.unusedVariables false
set_option linter.unusedSimpArgs false
set_option maxRecDepth 20000
def encO (r : Rs) : List Int := if chkR r = 0 then encR r else []
def mlen (r : Rs) (i : Nat) : Nat := (encP (r.pairs.take i)).length
def cellsP (l : List (Int × Nat)) : List Value := l.flatMap fun p => [.int .i64 p.1, .int .i64 (p.2 : Int)]
theorem take_succ {r : Rs} {i : Nat} {p : Int × Nat} (h : r.pairs[i]? = some p) : r.pairs.take (i + 1) = r.pairs.take i ++ [p] := by rw [List.take_add_one, h]; rfl
theorem encP_one (x : Int) (q : Nat) : encP [(x, q)] = enc x q := by simp [encP]
theorem mlen_succ {r : Rs} {i : Nat} {p : Int × Nat} (h : r.pairs[i]? = some p) : mlen r (i + 1) = mlen r i + p.2 := by
 unfold mlen; rw [take_succ h, encP_app, List.length_append]
 obtain ⟨x, q⟩ := p
 rw [encP_one, enc_len]
theorem mlen_le (r : Rs) (i : Nat) : mlen r i ≤ 37 := by
 have h := encR_len r
 have e : encR r = encP (r.pairs.take i) ++ encP (r.pairs.drop i) := by rw [← encP_app, List.take_append_drop]; rfl
 rw [e, List.length_append] at h
 unfold mlen; omega
theorem mlen_all (r : Rs) : mlen r 16 = 37 := encR_len r
theorem pairs_w (r : Rs) : ∀ p ∈ r.pairs, 1 ≤ p.2 ∧ p.2 ≤ 7 := by
 intro p hp
 simp only [Rs.pairs, List.mem_cons, List.not_mem_nil, or_false] at hp
 rcases hp with rfl | rfl | rfl | rfl | rfl | rfl | rfl | rfl | rfl | rfl | rfl | rfl | rfl | rfl | rfl | rfl <;> exact ⟨by simp, by simp⟩
theorem flags_t {r : Rs} (h : r.dbl = true) : r.flags = (if r.ans = true then 1 else 0) + 2 := by unfold Rs.flags; rw [h]; rfl
theorem flags_f {r : Rs} (h : r.dbl = false) : r.flags = (if r.ans = true then 1 else 0) := by unfold Rs.flags; rw [h]; simp
theorem agR (w : World) : (isAgg 27).run Tryd.prog w = .ok true w := rfl
theorem szR (w : World) : (sizeOf 27).run Tryd.prog w = .ok 17 w := rfl
theorem sz2 (w : World) : (sizeOf 73).run Tryd.prog w = .ok 2 w := rfl
theorem rszI (w : World) : (sizeOf 3).run Tryd.prog w = .ok 1 w := rfl
theorem zeroW (w : World) : (zeroValue 72).run Tryd.prog w = .ok (.slice none 0 0) w := rfl
theorem zero2 (w : World) : (zeroValue 73).run Tryd.prog w = .ok (.agg #[.int .i64 0, .int .i64 0]) w := rfl
theorem build2 (x y : Int) (w : World) : (Instr.build 73 #[(0, .int .i64 x), (1, .int .i64 y)]).run Tryd.prog w = .ok (.agg #[.int .i64 x, .int .i64 y]) w := by kernel_rfl
theorem two_i {a b : Int} : ∀ u ∈ [Value.int .i64 a, .int .i64 b], u.oneCell' = true := by
 intro u hu
 simp only [List.mem_cons, List.not_mem_nil, or_false] at hu
 rcases hu with rfl | rfl <;> rfl
theorem at_int (g off n c j : Nat) (hj : j < n) (w : World) : (Instr.indexAt 76 (.slice (some ⟨g, off, none⟩) n c) (.int .i64 (j : Int))).run Tryd.prog w = .ok (.pointer (some ⟨g, off + j, none⟩)) w := by
 have hs : ∀ w : World, (sizeOf 3).run Tryd.prog w = .ok 1 w := fun w => rfl
 have h1 : (0 : Int) ≤ (j : Int) ∧ (j : Int) < n := by omega
 have hadd : (⟨g, off, none⟩ : Addr).add j = ⟨g, off + j, none⟩ := by unfold Addr.add; split <;> simp_all
 simp [Instr.indexAt, run_underlying Tryd.underlying76, asIntOf, hs, h1, hadd, go_sem]
 try (intro hh; exact absurd hh (by omega))
theorem enc_bad {r : Rs} {w w1 : World} (h : chkR r ≠ 0) (hrow : Pc.ok w.heap.size w1 (.row (.slice none 0 0) 5 1 0 [])) (hb : Below w.heap.size w w1) :
  ∃ A c, Ending.returned (.tuple #[.slice none 0 0, .int .i64 (chkR r)]) = .returned (.tuple #[.slice A (encO r).length c, .int .i64 (chkR r)]) ∧ (encO r).length ≤ c ∧ c ≤ maxLen ∧ w1.ownsRow w.heap.size 5 1 (.slice A (encO r).length c) (encO r).length (bv (encO r)) ∧ Below w.heap.size w w1 := by
 have ho : encO r = [] := if_neg h
 rw [ho]
 exact ⟨none, 0, rfl, Nat.le_refl _, Nat.zero_le _, hrow, hb⟩
theorem enc_good {r : Rs} {w w1 : World} {A : Option Addr} {c : Nat} (h : chkR r = 0) (h1 : mlen r 16 ≤ c) (h2 : c ≤ maxLen) (hrow : Pc.ok w.heap.size w1 (.row (.slice A (mlen r 16) c) 5 1 (mlen r 16) (bv (encP (r.pairs.take 16))))) (hb : Below w.heap.size w w1) :
  ∃ A' c', Ending.returned (.tuple #[.slice A (mlen r 16) c, .int .i64 0]) = .returned (.tuple #[.slice A' (encO r).length c', .int .i64 (chkR r)]) ∧ (encO r).length ≤ c' ∧ c' ≤ maxLen ∧ w1.ownsRow w.heap.size 5 1 (.slice A' (encO r).length c') (encO r).length (bv (encO r)) ∧ Below w.heap.size w w1 := by
 have ho : encO r = encP (r.pairs.take 16) := if_pos h
 rw [ho, h]
 exact ⟨A, c, rfl, h1, h2, hrow, hb⟩
theorem build16 (r : Rs) (w : World) : (Instr.build 74 #[(0, .agg #[.int .i64 r.v, .int .i64 1]), (1, .agg #[.int .i64 r.run, .int .i64 1]), (2, .agg #[.int .i64 r.num, .int .i64 2]), (3, .agg #[.int .i64 r.at_, .int .i64 7]), (4, .agg #[.int .i64 r.dst, .int .i64 4]), (5, .agg #[.int .i64 r.proto, .int .i64 1]), (6, .agg #[.int .i64 r.flow, .int .i64 2]), (7, .agg #[.int .i64 r.ttl, .int .i64 1]), (8, .agg #[.int .i64 r.flags, .int .i64 1]), (9, .agg #[.int .i64 r.back, .int .i64 7]), (10, .agg #[.int .i64 r.src, .int .i64 4]), (11, .agg #[.int .i64 r.kind, .int .i64 1]), (12, .agg #[.int .i64 r.code, .int .i64 1]), (13, .agg #[.int .i64 r.left, .int .i64 1]), (14, .agg #[.int .i64 r.id, .int .i64 2]), (15, .agg #[.int .i64 r.quo, .int .i64 1])]).run Tryd.prog w = .ok (.agg (cellsP r.pairs).toArray) w := by kernel_rfl
theorem rowN (r : Rs) (w : World) : (Instr.buildSlice 76 16 #[(0, .int .i64 r.v), (1, .int .i64 r.run), (2, .int .i64 r.num), (3, .int .i64 r.at_), (4, .int .i64 r.dst), (5, .int .i64 r.proto), (6, .int .i64 r.flow), (7, .int .i64 r.ttl), (8, .int .i64 r.flags), (9, .int .i64 r.back), (10, .int .i64 r.src), (11, .int .i64 r.kind), (12, .int .i64 r.code), (13, .int .i64 r.left), (14, .int .i64 r.id), (15, .int .i64 r.quo)]).run Tryd.prog w = .ok (.slice (some ⟨w.heap.size, 0, none⟩) 16 16) (w.alloc (.cells (r.pairs.map fun p => .int .i64 p.1).toArray 3)) := by kernel_rfl
theorem rowW (r : Rs) (w : World) : (Instr.buildSlice 76 16 #[(0, .int .i64 1), (1, .int .i64 1), (2, .int .i64 2), (3, .int .i64 7), (4, .int .i64 4), (5, .int .i64 1), (6, .int .i64 2), (7, .int .i64 1), (8, .int .i64 1), (9, .int .i64 7), (10, .int .i64 4), (11, .int .i64 1), (12, .int .i64 1), (13, .int .i64 1), (14, .int .i64 2), (15, .int .i64 1)]).run Tryd.prog w = .ok (.slice (some ⟨w.heap.size, 0, none⟩) 16 16) (w.alloc (.cells (r.pairs.map fun p => .int .i64 (p.2 : Int)).toArray 3)) := by kernel_rfl
theorem ix0 (r : Rs) (w : World) : (Instr.index 74 (.agg (cellsP r.pairs).toArray) (.int .i64 0)).run Tryd.prog w = .ok (.agg #[.int .i64 r.v, .int .i64 1]) w := by kernel_rfl
theorem ix1 (r : Rs) (w : World) : (Instr.index 74 (.agg (cellsP r.pairs).toArray) (.int .i64 1)).run Tryd.prog w = .ok (.agg #[.int .i64 r.run, .int .i64 1]) w := by kernel_rfl
theorem ix2 (r : Rs) (w : World) : (Instr.index 74 (.agg (cellsP r.pairs).toArray) (.int .i64 2)).run Tryd.prog w = .ok (.agg #[.int .i64 r.num, .int .i64 2]) w := by kernel_rfl
theorem ix3 (r : Rs) (w : World) : (Instr.index 74 (.agg (cellsP r.pairs).toArray) (.int .i64 3)).run Tryd.prog w = .ok (.agg #[.int .i64 r.at_, .int .i64 7]) w := by kernel_rfl
theorem ix4 (r : Rs) (w : World) : (Instr.index 74 (.agg (cellsP r.pairs).toArray) (.int .i64 4)).run Tryd.prog w = .ok (.agg #[.int .i64 r.dst, .int .i64 4]) w := by kernel_rfl
theorem ix5 (r : Rs) (w : World) : (Instr.index 74 (.agg (cellsP r.pairs).toArray) (.int .i64 5)).run Tryd.prog w = .ok (.agg #[.int .i64 r.proto, .int .i64 1]) w := by kernel_rfl
theorem ix6 (r : Rs) (w : World) : (Instr.index 74 (.agg (cellsP r.pairs).toArray) (.int .i64 6)).run Tryd.prog w = .ok (.agg #[.int .i64 r.flow, .int .i64 2]) w := by kernel_rfl
theorem ix7 (r : Rs) (w : World) : (Instr.index 74 (.agg (cellsP r.pairs).toArray) (.int .i64 7)).run Tryd.prog w = .ok (.agg #[.int .i64 r.ttl, .int .i64 1]) w := by kernel_rfl
theorem ix8 (r : Rs) (w : World) : (Instr.index 74 (.agg (cellsP r.pairs).toArray) (.int .i64 8)).run Tryd.prog w = .ok (.agg #[.int .i64 r.flags, .int .i64 1]) w := by kernel_rfl
theorem ix9 (r : Rs) (w : World) : (Instr.index 74 (.agg (cellsP r.pairs).toArray) (.int .i64 9)).run Tryd.prog w = .ok (.agg #[.int .i64 r.back, .int .i64 7]) w := by kernel_rfl
theorem ix10 (r : Rs) (w : World) : (Instr.index 74 (.agg (cellsP r.pairs).toArray) (.int .i64 10)).run Tryd.prog w = .ok (.agg #[.int .i64 r.src, .int .i64 4]) w := by kernel_rfl
theorem ix11 (r : Rs) (w : World) : (Instr.index 74 (.agg (cellsP r.pairs).toArray) (.int .i64 11)).run Tryd.prog w = .ok (.agg #[.int .i64 r.kind, .int .i64 1]) w := by kernel_rfl
theorem ix12 (r : Rs) (w : World) : (Instr.index 74 (.agg (cellsP r.pairs).toArray) (.int .i64 12)).run Tryd.prog w = .ok (.agg #[.int .i64 r.code, .int .i64 1]) w := by kernel_rfl
theorem ix13 (r : Rs) (w : World) : (Instr.index 74 (.agg (cellsP r.pairs).toArray) (.int .i64 13)).run Tryd.prog w = .ok (.agg #[.int .i64 r.left, .int .i64 1]) w := by kernel_rfl
theorem ix14 (r : Rs) (w : World) : (Instr.index 74 (.agg (cellsP r.pairs).toArray) (.int .i64 14)).run Tryd.prog w = .ok (.agg #[.int .i64 r.id, .int .i64 2]) w := by kernel_rfl
theorem ix15 (r : Rs) (w : World) : (Instr.index 74 (.agg (cellsP r.pairs).toArray) (.int .i64 15)).run Tryd.prog w = .ok (.agg #[.int .i64 r.quo, .int .i64 1]) w := by kernel_rfl
theorem index16 (r : Rs) (i : Nat) (hi : i < 16) {x : Int} {q : Nat} (h : r.pairs[i]? = some (x, q)) (w : World) : (Instr.index 74 (.agg (cellsP r.pairs).toArray) (.int .i64 (i : Int))).run Tryd.prog w = .ok (.agg #[.int .i64 x, .int .i64 (q : Int)]) w := by
 match i, hi, h with
 | 0, _, h => obtain ⟨rfl, rfl⟩ := Prod.mk.inj (Option.some.inj h); exact ix0 r w
 | 1, _, h => obtain ⟨rfl, rfl⟩ := Prod.mk.inj (Option.some.inj h); exact ix1 r w
 | 2, _, h => obtain ⟨rfl, rfl⟩ := Prod.mk.inj (Option.some.inj h); exact ix2 r w
 | 3, _, h => obtain ⟨rfl, rfl⟩ := Prod.mk.inj (Option.some.inj h); exact ix3 r w
 | 4, _, h => obtain ⟨rfl, rfl⟩ := Prod.mk.inj (Option.some.inj h); exact ix4 r w
 | 5, _, h => obtain ⟨rfl, rfl⟩ := Prod.mk.inj (Option.some.inj h); exact ix5 r w
 | 6, _, h => obtain ⟨rfl, rfl⟩ := Prod.mk.inj (Option.some.inj h); exact ix6 r w
 | 7, _, h => obtain ⟨rfl, rfl⟩ := Prod.mk.inj (Option.some.inj h); exact ix7 r w
 | 8, _, h => obtain ⟨rfl, rfl⟩ := Prod.mk.inj (Option.some.inj h); exact ix8 r w
 | 9, _, h => obtain ⟨rfl, rfl⟩ := Prod.mk.inj (Option.some.inj h); exact ix9 r w
 | 10, _, h => obtain ⟨rfl, rfl⟩ := Prod.mk.inj (Option.some.inj h); exact ix10 r w
 | 11, _, h => obtain ⟨rfl, rfl⟩ := Prod.mk.inj (Option.some.inj h); exact ix11 r w
 | 12, _, h => obtain ⟨rfl, rfl⟩ := Prod.mk.inj (Option.some.inj h); exact ix12 r w
 | 13, _, h => obtain ⟨rfl, rfl⟩ := Prod.mk.inj (Option.some.inj h); exact ix13 r w
 | 14, _, h => obtain ⟨rfl, rfl⟩ := Prod.mk.inj (Option.some.inj h); exact ix14 r w
 | 15, _, h => obtain ⟨rfl, rfl⟩ := Prod.mk.inj (Option.some.inj h); exact ix15 r w
 | i + 16, hi, _ => omega
theorem fA0o (g : Nat) (w : World) : (Instr.fieldAt 25 (.pointer (some ⟨g, 11, none⟩)) 0).run Tryd.prog w = .ok (.pointer (some ⟨g, 11, none⟩)) w := by kernel_rfl
theorem fA1o (g : Nat) (w : World) : (Instr.fieldAt 25 (.pointer (some ⟨g, 11, none⟩)) 1).run Tryd.prog w = .ok (.pointer (some ⟨g, 12, none⟩)) w := by kernel_rfl
theorem fA2o (g : Nat) (w : World) : (Instr.fieldAt 25 (.pointer (some ⟨g, 11, none⟩)) 2).run Tryd.prog w = .ok (.pointer (some ⟨g, 13, none⟩)) w := by kernel_rfl
theorem fA3o (g : Nat) (w : World) : (Instr.fieldAt 25 (.pointer (some ⟨g, 11, none⟩)) 3).run Tryd.prog w = .ok (.pointer (some ⟨g, 14, none⟩)) w := by kernel_rfl
theorem fA4o (g : Nat) (w : World) : (Instr.fieldAt 25 (.pointer (some ⟨g, 11, none⟩)) 4).run Tryd.prog w = .ok (.pointer (some ⟨g, 15, none⟩)) w := by kernel_rfl
theorem fA5o (g : Nat) (w : World) : (Instr.fieldAt 25 (.pointer (some ⟨g, 11, none⟩)) 5).run Tryd.prog w = .ok (.pointer (some ⟨g, 16, none⟩)) w := by kernel_rfl
theorem nmChk : (Tryd.f14.name == "runtime.NumGoroutine") = false := by decide
theorem bdChk : Tryd.f14.body.isNone = false := rfl
theorem nmRChk : (Tryd.f15.name == "runtime.NumGoroutine") = false := by decide
theorem bdRChk : Tryd.f15.body.isNone = false := rfl
theorem nmWput : (Tryd.f43.name == "runtime.NumGoroutine") = false := by decide
theorem bdWput : Tryd.f43.body.isNone = false := rfl
theorem nmPush : (Tryd.f44.name == "runtime.NumGoroutine") = false := by decide
theorem bdPush : Tryd.f44.body.isNone = false := rfl
set_option maxHeartbeats 2000000 in
theorem encode_any (r : Rs) (hok : r.Ok) (w : World) :
  Calls Tryd.prog 12 #[.agg r.cells.toArray] w fun e w' => ∃ A c, e = .returned (.tuple #[.slice A (encO r).length c, .int .i64 (chkR r)]) ∧ (encO r).length ≤ c ∧ c ≤ maxLen ∧ w'.ownsRow w.heap.size 5 1 (.slice A (encO r).length c) (encO r).length (bv (encO r)) ∧ Below w.heap.size w w' := by
 refine begin_ (vs := [.agg r.cells.toArray]) Tryd.func12 rfl rfl rfl ?_ (Pm.start w)
 refine TC.seq_ (TC.region ?_)
 refine TL.pnew rfl rfl rfl (exec_box (cs := r.cells) rfl rfl rfl) (fun g1 => ?_)
 refine TL.val rfl rfl rfl (gives_assign rfl rfl) ?_
 refine TL.val rfl rfl rfl (gives_assign rfl rfl) ?_
 refine TL.end_ (TX.then_ (TC.seq_ (TC.seq_ (TC.region ?_))))
 refine TL.val rfl rfl rfl (pm_loadAgg (k := 0) (n := 17) rfl rfl agR szR rfl (Nat.le_refl 17)) ?_
 refine TL.pcall1 (r := .int .i64 (chkR r)) rfl rfl rfl rfl rfl Tryd.func14 nmChk bdChk (fun w1 hw => check_any r w1) ?_
 refine TL.val rfl rfl rfl (gives_assign rfl rfl) ?_
 refine TL.end_ (TX.then_ (TC.seq_ (TC.region ?_)))
 refine TL.val rfl rfl rfl (gives_move rfl rfl) ?_
 refine TL.vsplit rfl rfl rfl (gives_bin rfl rfl rfl (fun w => bin_neq w)) (fun h13 => ?_) (fun h13 => ?_)
 ·refine TL.end_ (TX.then_ (TC.condT rfl (TC.seq_ (TC.region ?_))))
  refine TL.val rfl rfl rfl (gives_move rfl rfl) ?_
  refine TL.val rfl rfl rfl (gives_assign rfl rfl) ?_
  refine TL.val rfl rfl rfl (gives_assign rfl rfl) ?_
  refine TL.end_ (TX.then_ (TC.ret_ (TX.then_ret ?_)))
  refine TX.nilrow 5 1 ?_
  exact ret_pair (v1 := .slice none 0 0) (v2 := .int .i64 (chkR r)) Tryd.results12 rfl rfl (fun w1 hw => enc_bad (of_decide_eq_true h13) (hw.at_ (k := 0) rfl) hw.bel)
 ·have hchk : chkR r = 0 := Decidable.not_not.1 (of_decide_eq_false h13)
  refine TL.end_ (TX.then_ (TC.condF rfl (TC.skip_ (TX.then_ (TC.seq_ (TC.region ?_))))))
  refine TL.val rfl rfl rfl (gives_assign rfl rfl) ?_
  refine TL.end_ (TX.then_ ?_)
  refine TC.join (α := Unit) (fun _ => [(1, .pointer (some ⟨g1, 0, none⟩)), (5, .int .i64 (if r.ans = true then 1 else 0))]) (fun _ => Pm w [.blk g1 27 r.cells]) ?_ ?_
  ·refine TC.seq_ (TC.region ?_)
   refine TL.val rfl rfl rfl (gives_field rfl rfl (fun w => fR8 _ w)) ?_
   refine TL.vsplit rfl rfl rfl (pm_load (k := 0) rfl rfl agB rfl rfl) (fun h16 => ?_) (fun h16 => ?_)
   ·refine TL.end_ (TX.then_ (TC.condT rfl (TC.region ?_)))
    refine TL.val rfl rfl rfl (gives_move rfl rfl) ?_
    refine TL.val rfl rfl rfl (gives_bin rfl rfl rfl (fun w => bin_add_ (r := 1) (by decide) w)) ?_
    refine TL.val rfl rfl rfl (gives_assign rfl rfl) ?_
    refine TL.end_ ?_
    exact TX.joined (()) (⟨rfl, by rw [if_pos h16]; rfl, trivial⟩) (fun w hw => hw)
   ·refine TL.end_ (TX.then_ (TC.condF rfl (TC.skip_ ?_)))
    exact TX.joined (()) (⟨rfl, by rw [if_neg (by rw [h16]; decide)]; rfl, trivial⟩) (fun w hw => hw)
  ·rintro _
   refine TC.join (α := Unit) (fun _ => [(1, .pointer (some ⟨g1, 0, none⟩)), (5, .int .i64 r.flags)]) (fun _ => Pm w [.blk g1 27 r.cells]) ?_ ?_
   ·refine TC.seq_ (TC.region ?_)
    refine TL.val rfl rfl rfl (gives_field rfl rfl (fun w => fR9 _ w)) ?_
    refine TL.vsplit rfl rfl rfl (pm_load (k := 0) rfl rfl agB rfl rfl) (fun h20 => ?_) (fun h20 => ?_)
    ·refine TL.end_ (TX.then_ (TC.condT rfl (TC.region ?_)))
     refine TL.val rfl rfl rfl (gives_move rfl rfl) ?_
     refine TL.val rfl rfl rfl (gives_bin rfl rfl rfl (fun w => bin_add_ (r := (if r.ans = true then 1 else 0) + 2) (by split <;> rfl) w)) ?_
     refine TL.val rfl rfl rfl (gives_assign rfl rfl) ?_
     refine TL.end_ ?_
     exact TX.joined (()) (⟨rfl, by rw [flags_t h20]; rfl, trivial⟩) (fun w hw => hw)
    ·refine TL.end_ (TX.then_ (TC.condF rfl (TC.skip_ ?_)))
     exact TX.joined (()) (⟨rfl, by rw [flags_f h20]; rfl, trivial⟩) (fun w hw => hw)
   ·rintro _
    refine TC.seq_ (TC.region ?_)
    refine TL.val rfl rfl rfl (gives_field rfl rfl (fun w => fR11 _ w)) ?_
    refine TL.val rfl rfl rfl (pm_loadAgg (k := 0) (n := 6) rfl rfl agA szA rfl (Nat.le_refl 17)) ?_
    refine TL.pnew rfl rfl rfl (exec_alloc (cs := [.int .u32 0, .int .i64 0, .int .i64 0, .int .i64 0, .int .i64 0, .int .i64 0]) rfl zeroA rfl) (fun g6 => ?_)
    refine TL.pstore (k := 0) (vs := [.int .u32 r.src, .int .i64 r.kind, .int .i64 r.code, .int .i64 r.left, .int .i64 r.id, .int .i64 r.quo]) rfl rfl rfl rfl rfl rfl rfl szA (oneA _ _ _ _ _ _) (Nat.le_refl 6) (L' := [.blk g6 25 [.int .u32 r.src, .int .i64 r.kind, .int .i64 r.code, .int .i64 r.left, .int .i64 r.id, .int .i64 r.quo], .blk g1 27 r.cells]) rfl ?_
    refine TL.end_ (TX.then_ (TC.seq_ (TC.region ?_)))
    refine TL.pnew rfl rfl rfl (exec_alloc (cs := [.slice none 0 0]) rfl zeroW rfl) (fun g7 => ?_)
    refine TL.end_ (TX.then_ (TC.seq_ (TC.seq_ (TC.region ?_))))
    refine TL.val rfl rfl rfl (gives_field rfl rfl (fun w => fR0 _ w)) ?_
    refine TL.val rfl rfl rfl (pm_load (k := 2) rfl rfl agI rfl rfl) ?_
    refine TL.val rfl rfl rfl (gives_build rfl rfl (fun w => build2 _ _ w)) ?_
    refine TL.val rfl rfl rfl (gives_field rfl rfl (fun w => fR1 _ w)) ?_
    refine TL.val rfl rfl rfl (pm_load (k := 2) rfl rfl agI rfl rfl) ?_
    refine TL.val rfl rfl rfl (gives_build rfl rfl (fun w => build2 _ _ w)) ?_
    refine TL.val rfl rfl rfl (gives_field rfl rfl (fun w => fR2 _ w)) ?_
    refine TL.val rfl rfl rfl (pm_load (k := 2) rfl rfl agI rfl rfl) ?_
    refine TL.val rfl rfl rfl (gives_build rfl rfl (fun w => build2 _ _ w)) ?_
    refine TL.val rfl rfl rfl (gives_field rfl rfl (fun w => fR3 _ w)) ?_
    refine TL.val rfl rfl rfl (pm_load (k := 2) rfl rfl agI rfl rfl) ?_
    refine TL.val rfl rfl rfl (gives_build rfl rfl (fun w => build2 _ _ w)) ?_
    refine TL.val rfl rfl rfl (gives_field rfl rfl (fun w => fR4 _ w)) ?_
    refine TL.val rfl rfl rfl (pm_load (k := 2) rfl rfl agU rfl rfl) ?_
    refine TL.val rfl rfl rfl (gives_conv rfl rfl (fun w => conv_fit (k := .u32) Tryd.underlying3 Tryd.underlying22 (by simp only [IntKind.wrap_i64]; obtain ⟨e1, e2, e3, e4⟩ := hok; omega) w)) ?_
    refine TL.val rfl rfl rfl (gives_build rfl rfl (fun w => build2 _ _ w)) ?_
    refine TL.val rfl rfl rfl (gives_field rfl rfl (fun w => fR5 _ w)) ?_
    refine TL.val rfl rfl rfl (pm_load (k := 2) rfl rfl agI rfl rfl) ?_
    refine TL.val rfl rfl rfl (gives_build rfl rfl (fun w => build2 _ _ w)) ?_
    refine TL.val rfl rfl rfl (gives_field rfl rfl (fun w => fR6 _ w)) ?_
    refine TL.val rfl rfl rfl (pm_load (k := 2) rfl rfl agI rfl rfl) ?_
    refine TL.val rfl rfl rfl (gives_build rfl rfl (fun w => build2 _ _ w)) ?_
    refine TL.val rfl rfl rfl (gives_field rfl rfl (fun w => fR7 _ w)) ?_
    refine TL.val rfl rfl rfl (pm_load (k := 2) rfl rfl agI rfl rfl) ?_
    refine TL.val rfl rfl rfl (gives_build rfl rfl (fun w => build2 _ _ w)) ?_
    refine TL.val rfl rfl rfl (gives_move rfl rfl) ?_
    refine TL.val rfl rfl rfl (gives_build rfl rfl (fun w => build2 _ _ w)) ?_
    refine TL.val rfl rfl rfl (gives_field rfl rfl (fun w => fR10 _ w)) ?_
    refine TL.val rfl rfl rfl (pm_load (k := 2) rfl rfl agI rfl rfl) ?_
    refine TL.val rfl rfl rfl (gives_build rfl rfl (fun w => build2 _ _ w)) ?_
    refine TL.val rfl rfl rfl (gives_field rfl rfl (fun w => fA0 _ w)) ?_
    refine TL.val rfl rfl rfl (pm_load (k := 1) rfl rfl agU rfl rfl) ?_
    refine TL.val rfl rfl rfl (gives_conv rfl rfl (fun w => conv_fit (k := .u32) Tryd.underlying3 Tryd.underlying22 (by simp only [IntKind.wrap_i64]; obtain ⟨e1, e2, e3, e4⟩ := hok; omega) w)) ?_
    refine TL.val rfl rfl rfl (gives_build rfl rfl (fun w => build2 _ _ w)) ?_
    refine TL.val rfl rfl rfl (gives_field rfl rfl (fun w => fA1 _ w)) ?_
    refine TL.val rfl rfl rfl (pm_load (k := 1) rfl rfl agI rfl rfl) ?_
    refine TL.val rfl rfl rfl (gives_build rfl rfl (fun w => build2 _ _ w)) ?_
    refine TL.val rfl rfl rfl (gives_field rfl rfl (fun w => fA2 _ w)) ?_
    refine TL.val rfl rfl rfl (pm_load (k := 1) rfl rfl agI rfl rfl) ?_
    refine TL.val rfl rfl rfl (gives_build rfl rfl (fun w => build2 _ _ w)) ?_
    refine TL.val rfl rfl rfl (gives_field rfl rfl (fun w => fA3 _ w)) ?_
    refine TL.val rfl rfl rfl (pm_load (k := 1) rfl rfl agI rfl rfl) ?_
    refine TL.val rfl rfl rfl (gives_build rfl rfl (fun w => build2 _ _ w)) ?_
    refine TL.val rfl rfl rfl (gives_field rfl rfl (fun w => fA4 _ w)) ?_
    refine TL.val rfl rfl rfl (pm_load (k := 1) rfl rfl agI rfl rfl) ?_
    refine TL.val rfl rfl rfl (gives_build rfl rfl (fun w => build2 _ _ w)) ?_
    refine TL.val rfl rfl rfl (gives_field rfl rfl (fun w => fA5 _ w)) ?_
    refine TL.val rfl rfl rfl (pm_load (k := 1) rfl rfl agI rfl rfl) ?_
    refine TL.val rfl rfl rfl (gives_build rfl rfl (fun w => build2 _ _ w)) ?_
    refine TL.val rfl rfl rfl (gives_build (v := .agg (cellsP r.pairs).toArray) rfl rfl (fun w => build16 r w)) ?_
    refine TL.val rfl rfl rfl (gives_move rfl rfl) ?_
    refine TL.end_ (TX.then_ (TC.block ?_))
    refine TC.loop_ (α := {y : Nat × Option Addr × Nat // y.1 ≤ 16 ∧ mlen r y.1 ≤ y.2.2 ∧ y.2.2 ≤ maxLen}) (fun y => [(74, .agg (cellsP r.pairs).toArray), (75, .int .i64 (y.1.1 : Int)), (7, .pointer (some ⟨g7, 0, none⟩))]) (fun y => Pm w [.row (.slice y.1.2.1 (mlen r y.1.1) y.1.2.2) 5 1 (mlen r y.1.1) (bv (encP (r.pairs.take y.1.1))), .blk g7 72 [.slice y.1.2.1 (mlen r y.1.1) y.1.2.2]]) (fun y => 16 - y.1.1) (⟨(0, none, 0), Nat.zero_le _, Nat.zero_le _, Nat.zero_le _⟩) ⟨rfl, rfl, rfl, trivial⟩ (fun w hw => (hw.sel (.cons_cons _ (List.nil_sublist _))).nilrow 5 1) ?_
    rintro ⟨⟨i, A2, c2⟩, hi, hcc⟩
    dsimp only at hi hcc ⊢
    refine TC.seq_ (TC.region ?_)
    refine TL.vsplit rfl rfl rfl (gives_bin rfl rfl rfl (fun w => bin_lss w)) (fun h76 => ?_) (fun h76 => ?_)
    ·have hi2 : i < 16 := by have := of_decide_eq_true h76; omega
     obtain ⟨⟨x, q⟩, hxq⟩ : ∃ p, r.pairs[i]? = some p := ⟨_, List.getElem?_eq_getElem (by show i < 16; omega)⟩
     obtain ⟨hx0, hx1⟩ := pairs_fit r hchk hok _ (List.mem_of_getElem? hxq)
     obtain ⟨hq1, hq7⟩ := pairs_w r _ (List.mem_of_getElem? hxq)
     have hml := mlen_succ hxq
     dsimp only at hx0 hx1 hq1 hq7 hml
     refine TL.end_ (TX.then_ (TC.seq_ (TC.condT rfl (TC.skip_ (TX.then_ (TC.seq_ (TC.block (TC.seq_ (TC.region ?_)))))))))
     refine TL.val rfl rfl rfl (gives_index (v := .agg #[.int .i64 x, .int .i64 (q : Int)]) rfl rfl rfl (fun w => by rw [← index16 r i hi2 hxq w])) ?_
     refine TL.pnew rfl rfl rfl (exec_alloc (cs := [.int .i64 0, .int .i64 0]) rfl zero2 rfl) (fun g9 => ?_)
     refine TL.pstore (k := 0) (vs := [.int .i64 x, .int .i64 (q : Int)]) rfl rfl rfl rfl rfl rfl rfl sz2 two_i (Nat.le_refl 2) rfl ?_
     refine TL.end_ (TX.then_ (TC.region ?_))
     refine TL.val rfl rfl rfl (gives_at rfl rfl rfl (fun w => at_arr Tryd.underlying73 rszI _ 0 _ 0 (by omega) w)) ?_
     refine TL.val rfl rfl rfl (pm_load (k := 0) rfl rfl agI rfl rfl) ?_
     refine TL.val rfl rfl rfl (gives_at rfl rfl rfl (fun w => at_arr Tryd.underlying73 rszI _ 0 _ 1 (by omega) w)) ?_
     refine TL.val rfl rfl rfl (pm_load (k := 0) rfl rfl agI rfl rfl) ?_
     refine TL.pcallChg (k := 2) (α := {p : Option Addr × Nat // mlen r i + q ≤ p.2 ∧ p.2 ≤ maxLen}) (fun _ => .tuple #[]) (fun y => [.slice y.1.1 (mlen r i + q) y.1.2]) (fun y => [.row (.slice y.1.1 (mlen r i + q) y.1.2) 5 1 (mlen r i + q) (bv (encP (r.pairs.take i) ++ enc x q))]) rfl rfl rfl rfl rfl Tryd.func43 nmWput bdWput rfl (fun w1 hw => wput g7 A2 (mlen r i) c2 (encP (r.pairs.take i)) x q w1 (hw.at_ (k := 2) rfl).1 (byt_own (hw.at_ (k := 1) rfl) (encP_bs _)) (fun _ ad e => hw.ne (i := 1) (j := 2) rfl rfl (by omega) (by rw [e]; rfl) rfl) (by have := mlen_le r i; omega) hx0 hx1 hq1 hq7) ?_
     rintro ⟨⟨A3, c3⟩, hA31, hA32⟩
     dsimp only [List.cons_append, List.nil_append] at hA31 hA32 ⊢
     refine TL.end_ (TX.in_normal (TX.then_ (TC.region ?_)))
     refine TL.val rfl rfl rfl (gives_bin rfl rfl rfl (fun w => bin_add_ (r := ((i + 1 : Nat) : Int)) (by simp only [IntKind.wrap_i64]; omega) w)) ?_
     refine TL.val rfl rfl rfl (gives_move rfl rfl) ?_
     refine TL.end_ ?_
     exact TX.round (⟨(i + 1, A3, c3), hi2, by rw [hml]; exact hA31, hA32⟩) (by show 16 - (i + 1) < 16 - i; omega) ⟨rfl, rfl, rfl, trivial⟩ (fun w hw => by dsimp only; rw [hml, take_succ hxq, encP_app, encP_one]; exact hw.sel (.cons_cons _ (.cons _ (.cons _ (.cons_cons _ (List.nil_sublist _))))))
    ·have hi2 : i = 16 := by have := of_decide_eq_false h76; omega
     subst hi2
     refine TL.end_ (TX.then_ (TC.seq_ (TC.condF rfl (TC.exit_ (TX.then_exit (TX.then_exit (TX.in_same (TX.then_ (TC.seq_ (TC.region ?_))))))))))
     refine TL.val rfl rfl rfl (pm_load (k := 1) rfl rfl agW rfl rfl) ?_
     refine TL.val rfl rfl rfl (gives_assign rfl rfl) ?_
     refine TL.val rfl rfl rfl (gives_assign rfl rfl) ?_
     refine TL.end_ (TX.then_ (TC.ret_ ?_))
     exact ret_pair (v1 := .slice A2 (mlen r 16) c2) (v2 := .int .i64 0) Tryd.results12 rfl rfl (fun w1 hw => enc_good hchk hcc.1 hcc.2 (hw.at_ (k := 0) rfl) hw.bel)
set_option maxHeartbeats 2000000 in
theorem rencode_any (r : Rs) (hok : r.Ok) (w : World) :
  Calls Tryd.prog 13 #[.agg r.cells.toArray] w fun e w' => ∃ A c, e = .returned (.tuple #[.slice A (encO r).length c, .int .i64 (chkR r)]) ∧ (encO r).length ≤ c ∧ c ≤ maxLen ∧ w'.ownsRow w.heap.size 5 1 (.slice A (encO r).length c) (encO r).length (bv (encO r)) ∧ Below w.heap.size w w' := by
 refine begin_ (vs := [.agg r.cells.toArray]) Tryd.func13 rfl rfl rfl ?_ (Pm.start w)
 refine TC.seq_ (TC.region ?_)
 refine TL.pnew rfl rfl rfl (exec_box (cs := r.cells) rfl rfl rfl) (fun g1 => ?_)
 refine TL.val rfl rfl rfl (gives_assign rfl rfl) ?_
 refine TL.val rfl rfl rfl (gives_assign rfl rfl) ?_
 refine TL.end_ (TX.then_ (TC.seq_ (TC.seq_ (TC.region ?_))))
 refine TL.val rfl rfl rfl (pm_loadAgg (k := 0) (n := 17) rfl rfl agR szR rfl (Nat.le_refl 17)) ?_
 refine TL.pcall1 (r := .int .i64 (chkR r)) rfl rfl rfl rfl rfl Tryd.func15 nmRChk bdRChk (fun w1 hw => rcheck_any r w1) ?_
 refine TL.val rfl rfl rfl (gives_assign rfl rfl) ?_
 refine TL.end_ (TX.then_ (TC.seq_ (TC.region ?_)))
 refine TL.val rfl rfl rfl (gives_move rfl rfl) ?_
 refine TL.vsplit rfl rfl rfl (gives_bin rfl rfl rfl (fun w => bin_neq w)) (fun h13 => ?_) (fun h13 => ?_)
 ·refine TL.end_ (TX.then_ (TC.condT rfl (TC.seq_ (TC.region ?_))))
  refine TL.val rfl rfl rfl (gives_move rfl rfl) ?_
  refine TL.val rfl rfl rfl (gives_assign rfl rfl) ?_
  refine TL.val rfl rfl rfl (gives_assign rfl rfl) ?_
  refine TL.end_ (TX.then_ (TC.ret_ (TX.then_ret ?_)))
  refine TX.nilrow 5 1 ?_
  exact ret_pair (v1 := .slice none 0 0) (v2 := .int .i64 (chkR r)) Tryd.results13 rfl rfl (fun w1 hw => enc_bad (of_decide_eq_true h13) (hw.at_ (k := 0) rfl) hw.bel)
 ·have hchk : chkR r = 0 := Decidable.not_not.1 (of_decide_eq_false h13)
  refine TL.end_ (TX.then_ (TC.condF rfl (TC.skip_ (TX.then_ (TC.seq_ (TC.region ?_))))))
  refine TL.val rfl rfl rfl (gives_assign rfl rfl) ?_
  refine TL.end_ (TX.then_ ?_)
  refine TC.join (α := Unit) (fun _ => [(1, .pointer (some ⟨g1, 0, none⟩)), (5, .int .i64 (if r.ans = true then 1 else 0))]) (fun _ => Pm w [.blk g1 27 r.cells]) ?_ ?_
  ·refine TC.seq_ (TC.region ?_)
   refine TL.val rfl rfl rfl (gives_field rfl rfl (fun w => fR8 _ w)) ?_
   refine TL.vsplit rfl rfl rfl (pm_load (k := 0) rfl rfl agB rfl rfl) (fun h16 => ?_) (fun h16 => ?_)
   ·refine TL.end_ (TX.then_ (TC.condT rfl (TC.region ?_)))
    refine TL.val rfl rfl rfl (gives_assign rfl rfl) ?_
    refine TL.end_ ?_
    exact TX.joined (()) (⟨rfl, by rw [if_pos h16]; rfl, trivial⟩) (fun w hw => hw)
   ·refine TL.end_ (TX.then_ (TC.condF rfl (TC.skip_ ?_)))
    exact TX.joined (()) (⟨rfl, by rw [if_neg (by rw [h16]; decide)]; rfl, trivial⟩) (fun w hw => hw)
  ·rintro _
   refine TC.join (α := Unit) (fun _ => [(1, .pointer (some ⟨g1, 0, none⟩)), (5, .int .i64 r.flags)]) (fun _ => Pm w [.blk g1 27 r.cells]) ?_ ?_
   ·refine TC.seq_ (TC.region ?_)
    refine TL.val rfl rfl rfl (gives_field rfl rfl (fun w => fR9 _ w)) ?_
    refine TL.vsplit rfl rfl rfl (pm_load (k := 0) rfl rfl agB rfl rfl) (fun h18 => ?_) (fun h18 => ?_)
    ·refine TL.end_ (TX.then_ (TC.condT rfl (TC.region ?_)))
     refine TL.val rfl rfl rfl (gives_move rfl rfl) ?_
     refine TL.val rfl rfl rfl (gives_bin rfl rfl rfl (fun w => bin_add_ (r := (if r.ans = true then 1 else 0) + 2) (by split <;> rfl) w)) ?_
     refine TL.val rfl rfl rfl (gives_assign rfl rfl) ?_
     refine TL.end_ ?_
     exact TX.joined (()) (⟨rfl, by rw [flags_t h18]; rfl, trivial⟩) (fun w hw => hw)
    ·refine TL.end_ (TX.then_ (TC.condF rfl (TC.skip_ ?_)))
     exact TX.joined (()) (⟨rfl, by rw [flags_f h18]; rfl, trivial⟩) (fun w hw => hw)
   ·rintro _
    refine TC.seq_ (TC.region ?_)
    refine TL.val rfl rfl rfl (gives_field rfl rfl (fun w => fR0 _ w)) ?_
    refine TL.val rfl rfl rfl (pm_load (k := 0) rfl rfl agI rfl rfl) ?_
    refine TL.val rfl rfl rfl (gives_field rfl rfl (fun w => fR1 _ w)) ?_
    refine TL.val rfl rfl rfl (pm_load (k := 0) rfl rfl agI rfl rfl) ?_
    refine TL.val rfl rfl rfl (gives_field rfl rfl (fun w => fR2 _ w)) ?_
    refine TL.val rfl rfl rfl (pm_load (k := 0) rfl rfl agI rfl rfl) ?_
    refine TL.val rfl rfl rfl (gives_field rfl rfl (fun w => fR3 _ w)) ?_
    refine TL.val rfl rfl rfl (pm_load (k := 0) rfl rfl agI rfl rfl) ?_
    refine TL.val rfl rfl rfl (gives_field rfl rfl (fun w => fR4 _ w)) ?_
    refine TL.val rfl rfl rfl (pm_load (k := 0) rfl rfl agU rfl rfl) ?_
    refine TL.val rfl rfl rfl (gives_conv rfl rfl (fun w => conv_fit (k := .u32) Tryd.underlying3 Tryd.underlying22 (by simp only [IntKind.wrap_i64]; obtain ⟨e1, e2, e3, e4⟩ := hok; omega) w)) ?_
    refine TL.val rfl rfl rfl (gives_field rfl rfl (fun w => fR5 _ w)) ?_
    refine TL.val rfl rfl rfl (pm_load (k := 0) rfl rfl agI rfl rfl) ?_
    refine TL.val rfl rfl rfl (gives_field rfl rfl (fun w => fR6 _ w)) ?_
    refine TL.val rfl rfl rfl (pm_load (k := 0) rfl rfl agI rfl rfl) ?_
    refine TL.val rfl rfl rfl (gives_field rfl rfl (fun w => fR7 _ w)) ?_
    refine TL.val rfl rfl rfl (pm_load (k := 0) rfl rfl agI rfl rfl) ?_
    refine TL.val rfl rfl rfl (gives_move rfl rfl) ?_
    refine TL.val rfl rfl rfl (gives_field rfl rfl (fun w => fR10 _ w)) ?_
    refine TL.val rfl rfl rfl (pm_load (k := 0) rfl rfl agI rfl rfl) ?_
    refine TL.val rfl rfl rfl (gives_field rfl rfl (fun w => fR11 _ w)) ?_
    refine TL.val rfl rfl rfl (gives_field rfl rfl (fun w => fA0o _ w)) ?_
    refine TL.val rfl rfl rfl (pm_load (k := 0) rfl rfl agU rfl rfl) ?_
    refine TL.val rfl rfl rfl (gives_conv rfl rfl (fun w => conv_fit (k := .u32) Tryd.underlying3 Tryd.underlying22 (by simp only [IntKind.wrap_i64]; obtain ⟨e1, e2, e3, e4⟩ := hok; omega) w)) ?_
    refine TL.val rfl rfl rfl (gives_field rfl rfl (fun w => fR11 _ w)) ?_
    refine TL.val rfl rfl rfl (gives_field rfl rfl (fun w => fA1o _ w)) ?_
    refine TL.val rfl rfl rfl (pm_load (k := 0) rfl rfl agI rfl rfl) ?_
    refine TL.val rfl rfl rfl (gives_field rfl rfl (fun w => fR11 _ w)) ?_
    refine TL.val rfl rfl rfl (gives_field rfl rfl (fun w => fA2o _ w)) ?_
    refine TL.val rfl rfl rfl (pm_load (k := 0) rfl rfl agI rfl rfl) ?_
    refine TL.val rfl rfl rfl (gives_field rfl rfl (fun w => fR11 _ w)) ?_
    refine TL.val rfl rfl rfl (gives_field rfl rfl (fun w => fA3o _ w)) ?_
    refine TL.val rfl rfl rfl (pm_load (k := 0) rfl rfl agI rfl rfl) ?_
    refine TL.val rfl rfl rfl (gives_field rfl rfl (fun w => fR11 _ w)) ?_
    refine TL.val rfl rfl rfl (gives_field rfl rfl (fun w => fA4o _ w)) ?_
    refine TL.val rfl rfl rfl (pm_load (k := 0) rfl rfl agI rfl rfl) ?_
    refine TL.val rfl rfl rfl (gives_field rfl rfl (fun w => fR11 _ w)) ?_
    refine TL.val rfl rfl rfl (gives_field rfl rfl (fun w => fA5o _ w)) ?_
    refine TL.val rfl rfl rfl (pm_load (k := 0) rfl rfl agI rfl rfl) ?_
    refine TL.prow (e := 3) (cs := r.pairs.map fun p => .int .i64 p.1) rfl rfl rfl rfl rfl (fun w => rowN r w) (by decide) rfl (fun g5 => ?_)
    refine TL.val rfl rfl rfl (gives_assign rfl rfl) ?_
    refine TL.end_ (TX.then_ (TC.seq_ (TC.region ?_)))
    refine TL.prow (e := 3) (cs := r.pairs.map fun p => .int .i64 (p.2 : Int)) rfl rfl rfl rfl rfl (fun w => rowW r w) (by decide) rfl (fun g6 => ?_)
    refine TL.val rfl rfl rfl (gives_assign rfl rfl) ?_
    refine TL.end_ (TX.then_ (TC.seq_ (TC.region ?_)))
    refine TL.val rfl rfl rfl (gives_assign rfl rfl) ?_
    refine TL.end_ (TX.then_ (TC.seq_ (TC.seq_ (TC.region ?_))))
    refine TL.val rfl rfl rfl (gives_assign rfl rfl) ?_
    refine TL.end_ (TX.then_ (TC.block ?_))
    refine TC.loop_ (α := {y : Nat × Option Addr × Nat // y.1 ≤ 16 ∧ mlen r y.1 ≤ y.2.2 ∧ y.2.2 ≤ maxLen}) (fun y => [(8, .slice y.1.2.1 (mlen r y.1.1) y.1.2.2), (9, .int .i64 (y.1.1 : Int)), (6, .slice (some ⟨g5, 0, none⟩) 16 16), (7, .slice (some ⟨g6, 0, none⟩) 16 16)]) (fun y => Pm w [.row (.slice y.1.2.1 (mlen r y.1.1) y.1.2.2) 5 1 (mlen r y.1.1) (bv (encP (r.pairs.take y.1.1))), .row (.slice (some ⟨g6, 0, none⟩) 16 16) 3 1 16 (r.pairs.map fun p => .int .i64 (p.2 : Int)), .row (.slice (some ⟨g5, 0, none⟩) 16 16) 3 1 16 (r.pairs.map fun p => .int .i64 p.1)]) (fun y => 16 - y.1.1) (⟨(0, none, 0), Nat.zero_le _, Nat.zero_le _, Nat.zero_le _⟩) ⟨rfl, rfl, rfl, rfl, trivial⟩ (fun w hw => (hw.sel (.cons_cons _ (.cons_cons _ (List.nil_sublist _)))).nilrow 5 1) ?_
    rintro ⟨⟨i, A2, c2⟩, hi, hcc⟩
    dsimp only at hi hcc ⊢
    refine TC.seq_ (TC.seq_ (TC.region ?_))
    refine TL.val rfl rfl rfl (gives_move rfl rfl) ?_
    refine TL.val rfl rfl rfl (gives_move rfl rfl) ?_
    refine TL.val rfl rfl rfl (gives_len rfl Tryd.underlying76 rfl) ?_
    refine TL.vsplit rfl rfl rfl (gives_bin rfl rfl rfl (fun w => bin_lss w)) (fun h65 => ?_) (fun h65 => ?_)
    ·have hi2 : i < 16 := by have := of_decide_eq_true h65; omega
     obtain ⟨⟨x, q⟩, hxq⟩ : ∃ p, r.pairs[i]? = some p := ⟨_, List.getElem?_eq_getElem (by show i < 16; omega)⟩
     obtain ⟨hx0, hx1⟩ := pairs_fit r hchk hok _ (List.mem_of_getElem? hxq)
     obtain ⟨hq1, hq7⟩ := pairs_w r _ (List.mem_of_getElem? hxq)
     have hml := mlen_succ hxq
     dsimp only at hx0 hx1 hq1 hq7 hml
     refine TL.end_ (TX.then_ (TC.condT rfl (TC.skip_ (TX.then_ (TC.seq_ (TC.block ?_))))))
     refine TC.held (ls := #[false, false, false, false, false, false, false, false, false, false, false]) (Pm w [.row (.slice (some ⟨g6, 0, none⟩) 16 16) 3 1 16 (r.pairs.map fun p => .int .i64 (p.2 : Int)), .row (.slice (some ⟨g5, 0, none⟩) 16 16) 3 1 16 (r.pairs.map fun p => .int .i64 p.1)]) (by kernel_rfl) rfl rfl (fun w hw => hw.drawn _) ?_
     refine TH.take (listed' := #[true, false, false, false, false, false, false, false, false, false, false]) 0 rfl (by kernel_rfl) (by kernel_rfl) (by kernel_rfl) rfl rfl rfl rfl (gives_move rfl rfl) (fun w hw => hw.sel (.cons _ (List.Sublist.refl _))) ?_
     refine TH.take (listed' := #[true, true, false, false, false, false, false, false, false, false, false]) 1 rfl (by kernel_rfl) (by kernel_rfl) (by kernel_rfl) rfl rfl rfl rfl (gives_move rfl rfl) (fun w hw => hw.sel (.cons _ (List.Sublist.refl _))) ?_
     refine TH.take (listed' := #[true, true, true, false, false, false, false, false, false, false, false]) 2 rfl (by kernel_rfl) (by kernel_rfl) (by kernel_rfl) rfl rfl rfl rfl (gives_move rfl rfl) (fun w hw => hw.sel (.cons _ (List.Sublist.refl _))) ?_
     refine TH.take (listed' := #[true, true, true, true, false, false, false, false, false, false, false]) 3 rfl (by kernel_rfl) (by kernel_rfl) (by kernel_rfl) rfl rfl rfl rfl (gives_at rfl rfl rfl (fun w => at_int g5 0 16 16 i hi2 w)) (fun w hw => hw.sel (.cons _ (List.Sublist.refl _))) ?_
     refine TH.take (listed' := #[true, true, true, true, true, false, false, false, false, false, false]) 4 rfl (by kernel_rfl) (by kernel_rfl) (by kernel_rfl) rfl rfl rfl rfl (pm_loadRow (k := 1) (v := .int .i64 x) rfl rfl (fun w => rfl) rfl (by rw [Nat.zero_add]; simp [hxq])) (fun w hw => hw.sel (.cons _ (List.Sublist.refl _))) ?_
     refine TH.take (listed' := #[true, true, true, true, true, true, false, false, false, false, false]) 5 rfl (by kernel_rfl) (by kernel_rfl) (by kernel_rfl) rfl rfl rfl rfl (gives_move rfl rfl) (fun w hw => hw.sel (.cons _ (List.Sublist.refl _))) ?_
     refine TH.take (listed' := #[true, true, true, true, true, true, true, false, false, false, false]) 6 rfl (by kernel_rfl) (by kernel_rfl) (by kernel_rfl) rfl rfl rfl rfl (gives_move rfl rfl) (fun w hw => hw.sel (.cons _ (List.Sublist.refl _))) ?_
     refine TH.take (listed' := #[true, true, true, true, true, true, true, true, false, false, false]) 7 rfl (by kernel_rfl) (by kernel_rfl) (by kernel_rfl) rfl rfl rfl rfl (gives_at rfl rfl rfl (fun w => at_int g6 0 16 16 i hi2 w)) (fun w hw => hw.sel (.cons _ (List.Sublist.refl _))) ?_
     refine TH.take (listed' := #[true, true, true, true, true, true, true, true, true, false, false]) 8 rfl (by kernel_rfl) (by kernel_rfl) (by kernel_rfl) rfl rfl rfl rfl (pm_loadRow (k := 0) (v := .int .i64 (q : Int)) rfl rfl (fun w => rfl) rfl (by rw [Nat.zero_add]; simp [hxq])) (fun w hw => hw.sel (.cons _ (List.Sublist.refl _))) ?_
     refine TH.only (listed' := #[true, true, true, true, true, true, true, true, true, true, false]) 9 rfl (by kernel_rfl) rfl rfl ?_
     refine TL.pcallRow (n := mlen r i + q) (ys := bv (encP (r.pairs.take i) ++ enc x q)) rfl rfl rfl rfl rfl Tryd.func44 nmPush bdPush (fun w1 hw => jpush A2 (mlen r i) c2 (encP (r.pairs.take i)) x q w1 (byt_own (hw.at_ (k := 0) rfl) (encP_bs _)) (by have := mlen_le r i; omega) hx0 hx1 hq1 hq7) (fun A3 c3 hA31 hA32 => ?_)
     refine TL.end_ ?_
     refine TX.held (fun w hw => hw.sel (.cons _ (.cons _ (List.Sublist.refl _)))) ?_
     refine TH.take (listed' := #[true, true, true, true, true, true, true, true, true, true, true]) 10 rfl (by kernel_rfl) (by kernel_rfl) (by kernel_rfl) rfl rfl rfl rfl (gives_assign rfl rfl) (fun w hw => hw.sel (.cons _ (.cons _ (List.Sublist.refl _)))) ?_
     refine TH.done (by kernel_rfl) ?_
     refine TX.in_normal (TX.then_ (TC.region ?_))
     refine TL.val rfl rfl rfl (gives_move rfl rfl) ?_
     refine TL.val rfl rfl rfl (gives_bin rfl rfl rfl (fun w => bin_add_ (r := ((i + 1 : Nat) : Int)) (by simp only [IntKind.wrap_i64]; omega) w)) ?_
     refine TL.val rfl rfl rfl (gives_assign rfl rfl) ?_
     refine TL.end_ ?_
     exact TX.round (⟨(i + 1, A3, c3), hi2, by rw [hml]; exact hA31, hA32⟩) (by show 16 - (i + 1) < 16 - i; omega) ⟨by dsimp only; rw [hml]; rfl, rfl, rfl, rfl, trivial⟩ (fun w hw => by dsimp only; rw [hml, take_succ hxq, encP_app, encP_one]; exact hw.sel (.cons_cons _ (.cons _ (List.Sublist.refl _))))
    ·have hi2 : i = 16 := by have := of_decide_eq_false h65; omega
     subst hi2
     refine TL.end_ (TX.then_ (TC.condF rfl (TC.exit_ (TX.then_exit (TX.then_exit (TX.in_same (TX.then_ (TC.seq_ (TC.region ?_)))))))))
     refine TL.val rfl rfl rfl (gives_move rfl rfl) ?_
     refine TL.val rfl rfl rfl (gives_assign rfl rfl) ?_
     refine TL.val rfl rfl rfl (gives_assign rfl rfl) ?_
     refine TL.end_ (TX.then_ (TC.ret_ ?_))
     exact ret_pair (v1 := .slice A2 (mlen r 16) c2) (v2 := .int .i64 0) Tryd.results13 rfl rfl (fun w1 hw => enc_good hchk hcc.1 hcc.2 (hw.at_ (k := 0) rfl) hw.bel)
end Go.Proofs.YtmeaeeehnkcblaaDoor
